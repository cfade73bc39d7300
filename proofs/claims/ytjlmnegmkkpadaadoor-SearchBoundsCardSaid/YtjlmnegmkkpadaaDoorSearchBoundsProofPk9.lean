/- Texts for the statement SearchBoundsProof, part 9 of 9: SrEn, SrQ, SrBo, Laid4, LaidL, Laid2, Open, SearchBoundsProof. -/
import Derived.Test.YtjlmnegmkkpadaaDoorTie
import Derived.Test.YtjlmnegmkkpadaaDoorCards
import Derived.Lib.LaidTab
import Derived.Lib.LaidU8
import Derived.LaidMore
import Derived.Stop.Joined
import Derived.SevenTiedAt
import Derived.ChangeArms
import Derived.LaidSub
import Derived.Test.YtjlmnegmkkpadaaDoorRows
import Derived.ProofKit
import Derived.OpenShut
import Derived.ShutString
import Derived.ChangeOld
import Derived.Lib.SmallJoins
import Derived.Deep.Slices
import Derived.Deep.Fields
import Derived.ChangeSame
import Derived.Test.YtjlmnegmkkpadaaDoorSearchBoundsProofPk1
import Derived.Test.YtjlmnegmkkpadaaDoorSearchBoundsProofPk2
import Derived.Test.YtjlmnegmkkpadaaDoorSearchBoundsProofPk3
import Derived.Test.YtjlmnegmkkpadaaDoorSearchBoundsProofPk4
import Derived.Test.YtjlmnegmkkpadaaDoorSearchBoundsProofPk5
import Derived.Test.YtjlmnegmkkpadaaDoorSearchBoundsProofPk6
import Derived.Test.YtjlmnegmkkpadaaDoorSearchBoundsProofPk8

/- The walk over SearchEnds (printed by gen_l8.py). -/
namespace Go.Proofs.YtjlmnegmkkpadaaDoor
open Go.RowKit

theorem height_le (l : List Nd) : heightN l ≤ 16 := by
  unfold heightN
  split
  · omega
  · cases h : (List.range 16).find? fun h => !decide ((classesN (sortN l) (h : Nat)).length < l.length) with
    | none => simp
    | some k =>
      have := List.mem_of_find?_eq_some h
      simp at this
      simp; omega
theorem rg8 {w w' : World} (h : Ex w.drew w') : Ex w w' := (Ex.refl w).drew.nx h
set_option maxRecDepth 100000 in
set_option maxHeartbeats 16000000 in
theorem searchends_walk (a1 : Option Addr) (n1 c1 : Nat) (l1 : List Int) (s : ByteArray) (w : World) (h1 : Sl 1 encI w a1 n1 l1) (hc1 : n1 ≤ c1) (hm1 : c1 ≤ maxLen) (hT : TabG w) (hL : LetG w) :
    Calls Tryd.prog 8 #[.slice a1 n1 c1, .string s] w fun e w' => e = .returned (.bool true) ∧ Ex w w' := by
  go_enter Tryd.func8, Tryd.ntmps8
  go_wp2_with fail
  refine (new_t _ _ _ l1 _ h1 hc1 hm1).mono ?_
  rintro e w1 ⟨rfl, T, kk, z1⟩
  obtain ⟨b, hb⟩ : ∃ b, b = w.heap.size := ⟨_, rfl⟩
  rw [← hb] at T ⊢
  have hgt : ¬ 1 = b := by have := hT.lt; omega
  have hgl : ¬ 0 = b := by have := hL.lt; omega
  have T1 : Hid (TabG w1) := Lib.hid (hT.nx kk)
  have L1 : Hid (LetG w1) := Lib.hid (hL.nx kk)
  have QL : Hid (Exl b w w1) := Lib.hid ⟨kk, by omega⟩
  clear h1 hT hL kk hb z1
  go_wp2_with fail
  have hbo := T.lt
  refine (some_n 10 _ T L1.out hgl (by omega) (by omega)).mono ?_
  clear T
  rintro e w2 ⟨v1, L, rfl, R, hL1⟩
  replace T1 := Lib.hid (T1.out.nxb hgt R.k)
  replace L1 := Lib.hid (L1.out.nxb hgl R.k)
  replace QL := Lib.hid (QL.out.nxb R.k)
  obtain ⟨aX, cX, rfl, SX, hcX, hmX, _⟩ := R.own.slf (fun _ => rfl)
  have SX := SX.slb hbo
  have RL := R.len
  have RC := Lib.hid R.ok
  have RN := Lib.hid (roster_ok R.ok)
  have XW := Lib.hid (fun x hx => (RN.out x hx).1.2.1)
  have T := R.tape
  clear R
  have hb2 := T.lt
  go_wp2_with fail
  (with_reducible refine (height_p _ _ _ _ _ SX.sl (by omega) hcX hmX XW.out T1.out).mono ?_)
  rintro e w3 ⟨rfl, kk⟩
  replace T := T.nx kk
  replace T1 := Lib.hid (T1.out.nx kk)
  replace L1 := Lib.hid (L1.out.nx kk)
  replace QL := Lib.hid (QL.out.nx kk)
  replace SX := SX.nxb (kk.b b)
  clear kk
  obtain ⟨hh, hhe⟩ : ∃ hh, hh = heightN L := ⟨_, rfl⟩
  rw [← hhe]
  have hh16 : hh ≤ 16 := by rw [hhe]; exact height_le L
  have HH := Lib.hid hhe
  clear hhe
  go_wp2_with fail
  refine (next_t 2 _ T (by omega) (by omega)).mono ?_
  clear T
  rintro e w4 ⟨r, rfl, r0, r1, T, kk⟩
  replace T1 := Lib.hid (T1.out.nxb hgt kk)
  replace L1 := Lib.hid (L1.out.nxb hgl kk)
  replace QL := Lib.hid (QL.out.nxb kk)
  replace SX := SX.nxb kk
  clear kk
  obtain ⟨r, rfl⟩ := Int.eq_ofNat_of_zero_le r0
  obtain ⟨m, hm⟩ : ∃ m : Nat, m = min (hh + r) 16 := ⟨_, rfl⟩
  have hm2 : min ((hh : Int) + (r : Int)) 16 = (m : Int) := by omega
  have hm16 : m ≤ 16 := by omega
  have hhm : Hid (heightN L ≤ m) := Lib.hid (by rw [← HH.out]; omega)
  have hb4 := T.lt
  have HM := Lib.hid hm2
  clear hm hm2 r0
  go_wp2_with fail
  rw [HM.out]
  (with_reducible refine (build_p _ _ _ _ (m : Int) _ SX.sl (by omega) hcX hmX XW.out T1.out).mono ?_)
  rintro e w5 ⟨vL, qs, rfl, own, kk⟩
  replace T := T.nx kk
  replace T1 := Lib.hid (T1.out.nx kk)
  replace L1 := Lib.hid (L1.out.nx kk)
  replace QL := Lib.hid (QL.out.nx kk)
  replace SX := SX.nxb (kk.b b)
  clear kk
  obtain ⟨A0, A1, A2⟩ := build_ok0 RC.out hm16
  rw [A0]
  have BS := Lib.hid (buildN_small L (m : Int) (by omega))
  have OWN := Lib.hid own
  clear own A1 A2 A0
  go_wp2_with fail
  refine (key_t _ T L1.out hgl).mono ?_
  clear T
  rintro e w6 ⟨K, rfl, hK, T, kk⟩
  replace T1 := Lib.hid (T1.out.nxb hgt kk)
  replace L1 := Lib.hid (L1.out.nxb hgl kk)
  replace QL := Lib.hid (QL.out.nxb kk)
  replace SX := SX.nxb kk
  replace OWN := Lib.hid (OWN.out.nxb hb4 kk)
  clear kk
  clear hK
  have hnb := T.lt
  have B44 := Blk.new w6 [.string K, .string s] 9
  have kk := Ex.new w6 (.cells #[.string K, .string s] 9)
  obtain ⟨w7, hw7⟩ : ∃ w7, w7 = w6.alloc (.cells #[.string K, .string s] 9) := ⟨_, rfl⟩
  obtain ⟨g44, hg44⟩ : ∃ g44, g44 = w6.heap.size := ⟨_, rfl⟩
  replace B44 : Blk w7 g44 [.string K, .string s] 9 := by rw [hw7, hg44]; exact B44
  rw [← hw7] at kk
  have Hw7 := Lib.hid hw7
  have Hg44 := Lib.hid hg44
  replace T := T.nx kk
  replace T1 := Lib.hid (T1.out.nx kk)
  replace L1 := Lib.hid (L1.out.nx kk)
  replace QL := Lib.hid (QL.out.nx kk)
  replace SX := SX.nxb (kk.b b)
  replace OWN := Lib.hid (OWN.out.nx kk)
  have hgb : g44 ≠ b := by omega
  clear kk hw7 hg44
  go_upto_region 10 with fail
  rw [← Hg44.out, ← Hw7.out]
  clear Hg44 Hw7
  have B44 := Lib.hid B44
  have SX := Lib.hid SX
  have QL7 := QL
  go_wp2_with fail
  go_loopw [46] (fun i wr => CtRel b 2 w7 i wr) (fun i _ => 2 - (intOf i).toNat)
  case atStart => exact ⟨0, by omega, rfl, Exb.refl _ _, T⟩
  case round =>
    clear T
    obtain ⟨k, hk, rfl, kw, T⟩ := hrel
    obtain ⟨wo, rfl⟩ : ∃ wo : World, wo = wr := ⟨_, rfl⟩
    by_cases hlt : k < 2
    case neg =>
      obtain rfl : k = 2 := by omega
      have TG := T1.out.nxb hgt kw
      have QX := Lib.hid (QL.out.nxb kw).1
      clear hk hlt kw T
      go_wp2_with fail
      (with_reducible refine (sane8_x _ TG).mono ?_)
      rintro e w9 ⟨rfl, kk⟩
      go_wp2_with fail
      go_ret
      exact ⟨rfl, QX.out.nx kk⟩
    have hbo := T.lt
    have SX := SX.out.nxb kw
    have OWN := Lib.hid (OWN.out.nxb hb4 kw)
    have TG := T1.out.nxb hgt kw
    obtain ⟨q, cq⟩ : ∃ q : ByteArray, wo.cell? ⟨g44, k, none⟩ = some (.string q) := by
      have B := B44.out.nxb hgb kw
      rcases (show k = 0 ∨ k = 1 by omega) with h | h
      · exact ⟨K, by rw [h]; exact B.cell 0 _ rfl⟩
      · exact ⟨s, by rw [h]; exact B.cell 1 _ rfl⟩
    go_wp2_with fail
    refine (next_t (L.length : Int) _ T (by omega) (by omega)).mono ?_
    clear T
    rintro e x2 ⟨r, rfl, r0, r1, T, kk⟩
    replace kw := kw.nxb kk
    replace SX := SX.nxb kk
    replace OWN := Lib.hid (OWN.out.nxb hb4 kk)
    replace TG := TG.nxb hgt kk
    clear kk
    obtain ⟨j, rfl⟩ := Int.eq_ofNat_of_zero_le r0
    have hj : j < L.length := by omega
    obtain ⟨x1, o1, y, rfl, hx1, hy, hc1⟩ := SX.sl.at hj
    have e0 : x2.cell? ⟨x1, o1 + j * 3, none⟩ = some (.int .i64 y.id) := hc1 0 _ rfl
    have HYM := Lib.hid (List.mem_of_getElem? hy)
    have TB := Lib.hid T
    have KW := Lib.hid kw
    have S := SX.sl
    obtain ⟨aP, cP, rfl, LK, _, _, _, _⟩ := OwnN.nl (encA := encI) (encB := encS) (s1 := 2) (s2 := 2) (fun _ => rfl) (fun _ => rfl) OWN.out
    have EX := Ex.refl x2
    have LK := Lib.hid LK
    have BS1 := BS.out.1
    clear T kw SX hc1 hy cq r0 r1
    go_wp2_with fail
    (with_reducible refine (route_p _ _ _ _ _ _ _ _ _ _ _ S (by omega) hcX hmX LK.out (by omega) (fun c hc => Nat.le_trans (BS.out.2 c hc) (by omega))).mono ?_)
    rintro e y1 ⟨v2, rfl, own, kk⟩
    replace S := S.nx kk
    replace LK := Lib.hid (LK.out.nx kk)
    replace EX := EX.nx kk
    replace TG := TG.nx kk
    clear kk
    obtain ⟨aH, cH, rfl, H, _, _, _⟩ := own.slf (fun _ => rfl)
    have H := H.sl
    clear own e0 LK
    go_wp2_with fail
    (with_reducible refine (owner_p _ _ _ _ _ _ S (by omega) hcX hmX).mono ?_)
    rintro e y2 ⟨rfl, kk⟩
    replace S := S.nx kk
    replace EX := EX.nx kk
    replace TG := TG.nx kk
    replace H := H.nx kk
    clear kk
    obtain ⟨RT, hRT⟩ : ∃ RT, RT = routeN L (buildN L (m : Int)).1 y.id q := ⟨_, rfl⟩
    rw [← hRT] at H ⊢
    have hRl := route_small L (buildN L (m : Int)).1 y.id q
    rw [← hRT] at hRl
    obtain ⟨ON, hON⟩ : ∃ ON, ON = ownN L q := ⟨_, rfl⟩
    rw [← hON]
    have HRT := Lib.hid hRT
    have HON := Lib.hid hON
    obtain ⟨o, ok⟩ := ON
    simp only
    clear hRT hON
    have B15 := Blk.new y2 [.int .i64 o.id, .string o.key, .int .u32 o.word] 48
    have kk := Ex.new y2 (.cells #[.int .i64 o.id, .string o.key, .int .u32 o.word] 48)
    obtain ⟨y3, hy3⟩ : ∃ y3, y3 = y2.alloc (.cells #[.int .i64 o.id, .string o.key, .int .u32 o.word] 48) := ⟨_, rfl⟩
    obtain ⟨g15, hg15⟩ : ∃ g15, g15 = y2.heap.size := ⟨_, rfl⟩
    replace B15 : Blk y3 g15 [.int .i64 o.id, .string o.key, .int .u32 o.word] 48 := by rw [hy3, hg15]; exact B15
    rw [← hy3] at kk
    have Hy3 := Lib.hid hy3
    have Hg15 := Lib.hid hg15
    replace S := S.nx kk
    replace EX := EX.nx kk
    replace TG := TG.nx kk
    replace H := H.nx kk
    clear kk hy3 hg15
    go_upto_region 15 with fail
    rw [← Hg15.out, ← Hy3.out]
    clear Hg15 Hy3
    by_cases hq : q.size ≤ 64
    · skip
      have HE := end_law (L := (buildN L (m : Int)).1) RC.out HYM.out hq (by rw [(build_top RC.out hm16 HYM.out).1]; omega) (fun x hx => (build_top RC.out hm16 hx).2 0 (by omega))
      have HB := ends_law RC.out XW.out hm16 hhm.out HYM.out hq
      rw [← HRT.out, ← HON.out] at HE
      rw [← HRT.out] at HB
      obtain ⟨g1, g2, g3⟩ := HE
      simp only at g2 g3
      subst g3
      have b0 := B15.cell 0 _ rfl
      have B15h := Lib.hid B15
      have E3 := Lib.hid EX
      have hbl := bound_le RC.out HYM.out
      have HB2 : ¬ (boundN L y.id : Int) < (RT.1.length : Int) := by omega
      clear hq HB b0 EX
      go_upto_region 18 with fail
      refine wp_region_held_drew (S := Ex y3.drew) (by kernel_rfl) (Ex.refl _) (fun hHeld => ?_)
      refine wpAnyH_take (i := 0) (oi := ⟨some 76, .move (.tmp 14), 35, "law.go:85", #[], none⟩) (v := ?_) rfl (by kernel_rfl) (by kernel_rfl) (by kernel_rfl) (fun _ _ _ h => h) (Or.inl ⟨by rfl, ?hyr1x0⟩) (by assumption) ?restr1x0
      case hyr1x0 => intro wq hSw; (go_simp); (try with_reducible rfl)
      try simp only [Act.put, List.setIfInBounds_toArray, List.set_cons_zero, List.set_cons_succ]
      refine wpAnyH_take (i := 1) (oi := ⟨some 77, .binOp .neq 35 (.tmp 76) (.const (.int .i64 0)) 35, 4, "law.go:85", #[⟨0, .data⟩], none⟩) (v := ?_) rfl (by kernel_rfl) (by kernel_rfl) (by kernel_rfl) (fun _ _ _ h => h) (Or.inl ⟨by rfl, ?hyr1x1⟩) (by assumption) ?restr1x1
      case hyr1x1 => intro wq hSw; (go_simp); (try with_reducible rfl)
      try simp only [Act.put, List.setIfInBounds_toArray, List.set_cons_zero, List.set_cons_succ]
      refine wpAnyH_take (i := 2) (oi := ⟨some 78, .move (.tmp 77), 4, "law.go:85", #[⟨1, .data⟩], none⟩) (v := ?_) rfl (by kernel_rfl) (by kernel_rfl) (by kernel_rfl) (fun _ _ _ h => h) (Or.inl ⟨by rfl, ?hyr1x2⟩) (by assumption) ?restr1x2
      case hyr1x2 => intro wq hSw; (go_simp); (try with_reducible rfl)
      try simp only [Act.put, List.setIfInBounds_toArray, List.set_cons_zero, List.set_cons_succ]
      refine wpAnyH_take (i := 3) (oi := ⟨some 79, .move (.tmp 12), 3, "law.go:85", #[⟨2, .guard⟩], some (2, false)⟩) (v := ?_) rfl (by kernel_rfl) (by kernel_rfl) (by kernel_rfl) (fun _ _ _ h => h) (Or.inl ⟨by rfl, ?hyr1x3⟩) (by assumption) ?restr1x3
      case hyr1x3 => intro wq hSw; (go_simp); (try with_reducible rfl)
      try simp only [Act.put, List.setIfInBounds_toArray, List.set_cons_zero, List.set_cons_succ]
      refine wpAnyH_take (i := 4) (oi := ⟨some 80, .move (.tmp 13), 34, "law.go:85", #[⟨2, .guard⟩], some (2, false)⟩) (v := ?_) rfl (by kernel_rfl) (by kernel_rfl) (by kernel_rfl) (fun _ _ _ h => h) (Or.inl ⟨by rfl, ?hyr1x4⟩) (by assumption) ?restr1x4
      case hyr1x4 => intro wq hSw; (go_simp); (try with_reducible rfl)
      try simp only [Act.put, List.setIfInBounds_toArray, List.set_cons_zero, List.set_cons_succ]
      refine wpAnyH_take (i := 6) (oi := ⟨some 82, .fieldAddr 48 (.tmp 15) 0, 0, "law.go:85", #[⟨2, .guard⟩], some (2, false)⟩) (v := ?_) rfl (by kernel_rfl) (by kernel_rfl) (by kernel_rfl) (fun _ _ _ h => h) (Or.inl ⟨by rfl, ?hyr1x6⟩) (by assumption) ?restr1x6
      case hyr1x6 => intro wq hSw; (go_simp); (try with_reducible rfl)
      try simp only [Act.put, List.setIfInBounds_toArray, List.set_cons_zero, List.set_cons_succ]
      refine wpAnyH_take (i := 7) (oi := ⟨some 83, .load 3 (.tmp 82), 3, "law.go:85", #[⟨6, .data⟩, ⟨2, .guard⟩], some (2, false)⟩) (v := ?_) rfl (by kernel_rfl) (by kernel_rfl) (by kernel_rfl) (fun _ _ _ h => h) (Or.inl ⟨by rfl, ?hyr1x7⟩) (by assumption) ?restr1x7
      case hyr1x7 => intro wq hSw; (have cq := (B15h.out.nx (rg8 hSw)).cell 0 _ rfl; go_simp); (try with_reducible rfl)
      try simp only [Act.put, List.setIfInBounds_toArray, List.set_cons_zero, List.set_cons_succ]
      refine wpAnyH_ready (rs := [5]) (by kernel_rfl) (by simp) ?_
      refine AllReadyH.cons (o := ⟨some 81, .call { callee := .value (.func 25), args := #[.tmp 79, .tmp 80], argTypes := #[3, 34] }, 3, "law.go:85", #[⟨3, .data⟩, ⟨4, .data⟩, ⟨2, .chain⟩, ⟨2, .guard⟩], some (2, false)⟩) rfl (fun K hK => ?_) AllReadyH.nil
      go_simp
      (with_reducible refine (end_p _ _ _ _ _ _ (H.nx (Ex.refl y3).drew) (by omega)).mono ?_)
      rintro e y4 ⟨rfl, k4⟩
      replace k4 : Ex y3.drew y4 := k4
      rw [g2]
      have S4 := S.nx ((Ex.refl y3).drew.nx k4)
      have TG4 := TG.nx ((Ex.refl y3).drew.nx k4)
      refine hK.out _ _ k4 (fun _ => ?_)
      clear hK K
      try simp only [Act.put, List.setIfInBounds_toArray, List.set_cons_zero, List.set_cons_succ]
      refine wpAnyH_switch (S' := Ex y4) (fun _ hSw => Ex.nx k4 hSw) ?_
      clear hHeld
      have hHeld := Ex.refl y4
      refine wpAnyH_take (i := 8) (oi := ⟨some 84, .binOp .neq 3 (.tmp 81) (.tmp 83) 3, 4, "law.go:85", #[⟨5, .data⟩, ⟨7, .data⟩, ⟨2, .guard⟩], some (2, false)⟩) (v := ?_) rfl (by kernel_rfl) (by kernel_rfl) (by kernel_rfl) (fun _ _ _ h => h) (Or.inl ⟨by rfl, ?hyr1x8⟩) (by assumption) ?restr1x8
      case hyr1x8 => intro wq hSw; (go_simp); (try with_reducible rfl)
      try simp only [Act.put, List.setIfInBounds_toArray, List.set_cons_zero, List.set_cons_succ]
      refine wpAnyH_take (i := 9) (oi := ⟨some 85, .pick (.tmp 78) (.const (.bool true)) (.tmp 84), 4, "law.go:85", #[⟨2, .data⟩, ⟨8, .data⟩], none⟩) (v := ?_) rfl (by kernel_rfl) (by kernel_rfl) (by kernel_rfl) (fun _ _ _ h => h) (Or.inl ⟨by rfl, ?hyr1x9⟩) (by assumption) ?restr1x9
      case hyr1x9 => intro wq hSw; (go_simp); (try with_reducible rfl)
      try simp only [Act.put, List.setIfInBounds_toArray, List.set_cons_zero, List.set_cons_succ]
      refine wpAnyH_take (i := 10) (oi := ⟨some 86, .move (.tmp 85), 4, "law.go:85", #[⟨9, .data⟩, ⟨5, .chain⟩], none⟩) (v := ?_) rfl (by kernel_rfl) (by kernel_rfl) (by kernel_rfl) (fun _ _ _ h => h) (Or.inl ⟨by rfl, ?hyr1x10⟩) (by assumption) ?restr1x10
      case hyr1x10 => intro wq hSw; (go_simp); (try with_reducible rfl)
      try simp only [Act.put, List.setIfInBounds_toArray, List.set_cons_zero, List.set_cons_succ]
      refine wpAnyH_take (i := 11) (oi := ⟨some 87, .move (.tmp 13), 34, "law.go:85", #[⟨10, .guard⟩], some (10, false)⟩) (v := ?_) rfl (by kernel_rfl) (by kernel_rfl) (by kernel_rfl) (fun _ _ _ h => h) (Or.inl ⟨by rfl, ?hyr1x11⟩) (by assumption) ?restr1x11
      case hyr1x11 => intro wq hSw; (go_simp); (try with_reducible rfl)
      try simp only [Act.put, List.setIfInBounds_toArray, List.set_cons_zero, List.set_cons_succ]
      refine wpAnyH_take (i := 12) (oi := ⟨some 88, .call { callee := .builtin .len, args := #[.tmp 87], argTypes := #[34] }, 3, "law.go:85", #[⟨11, .data⟩, ⟨10, .guard⟩], some (10, false)⟩) (v := ?_) rfl (by kernel_rfl) (by kernel_rfl) (by kernel_rfl) (fun _ _ _ h => h) (Or.inl ⟨by rfl, ?hyr1x12⟩) (by assumption) ?restr1x12
      case hyr1x12 => intro wq hSw; (go_simp); (try with_reducible rfl)
      try simp only [Act.put, List.setIfInBounds_toArray, List.set_cons_zero, List.set_cons_succ]
      refine wpAnyH_take (i := 13) (oi := ⟨some 89, .move (.tmp 6), 23, "law.go:85", #[⟨10, .guard⟩], some (10, false)⟩) (v := ?_) rfl (by kernel_rfl) (by kernel_rfl) (by kernel_rfl) (fun _ _ _ h => h) (Or.inl ⟨by rfl, ?hyr1x13⟩) (by assumption) ?restr1x13
      case hyr1x13 => intro wq hSw; (go_simp); (try with_reducible rfl)
      try simp only [Act.put, List.setIfInBounds_toArray, List.set_cons_zero, List.set_cons_succ]
      refine wpAnyH_take (i := 14) (oi := ⟨some 90, .move (.tmp 12), 3, "law.go:85", #[⟨10, .guard⟩], some (10, false)⟩) (v := ?_) rfl (by kernel_rfl) (by kernel_rfl) (by kernel_rfl) (fun _ _ _ h => h) (Or.inl ⟨by rfl, ?hyr1x14⟩) (by assumption) ?restr1x14
      case hyr1x14 => intro wq hSw; (go_simp); (try with_reducible rfl)
      try simp only [Act.put, List.setIfInBounds_toArray, List.set_cons_zero, List.set_cons_succ]
      refine wpAnyH_ready (rs := [15]) (by kernel_rfl) (by simp) ?_
      refine AllReadyH.cons (o := ⟨some 91, .call { callee := .value (.func 31), args := #[.tmp 89, .tmp 90], argTypes := #[23, 3] }, 3, "law.go:85", #[⟨13, .data⟩, ⟨14, .data⟩, ⟨10, .chain⟩, ⟨10, .guard⟩], some (10, false)⟩) rfl (fun K hK => ?_) AllReadyH.nil
      go_simp
      (with_reducible refine (bound_p _ _ _ _ _ _ S4 (by omega) hcX hmX XW.out TG4).mono ?_)
      rintro e y5 ⟨rfl, k5⟩
      refine hK.out _ _ k5 (fun _ => ?_)
      clear hK K
      try simp only [Act.put, List.setIfInBounds_toArray, List.set_cons_zero, List.set_cons_succ]
      refine wpAnyH_switch (S' := Ex y5) (fun _ hSw => Ex.nx k5 hSw) ?_
      clear hHeld
      have hHeld := Ex.refl y5
      refine wpAnyH_take (i := 16) (oi := ⟨some 92, .binOp .gtr 3 (.tmp 88) (.tmp 91) 3, 4, "law.go:85", #[⟨12, .data⟩, ⟨15, .data⟩, ⟨10, .guard⟩], some (10, false)⟩) (v := ?_) rfl (by kernel_rfl) (by kernel_rfl) (by kernel_rfl) (fun _ _ _ h => h) (Or.inl ⟨by rfl, ?hyr1x16⟩) (by assumption) ?restr1x16
      case hyr1x16 => intro wq hSw; (go_simp); (try with_reducible rfl)
      try simp only [Act.put, List.setIfInBounds_toArray, List.set_cons_zero, List.set_cons_succ]
      refine wpAnyH_take (i := 17) (oi := ⟨some 93, .pick (.tmp 86) (.const (.bool true)) (.tmp 92), 4, "law.go:85", #[⟨10, .data⟩, ⟨16, .data⟩], none⟩) (v := ?_) rfl (by kernel_rfl) (by kernel_rfl) (by kernel_rfl) (fun _ _ _ h => h) (Or.inl ⟨by rfl, ?hyr1x17⟩) (by assumption) ?restr1x17
      case hyr1x17 => intro wq hSw; (go_simp); (try with_reducible rfl)
      try simp only [Act.put, List.setIfInBounds_toArray, List.set_cons_zero, List.set_cons_succ]
      refine wpAnyH_done (by kernel_rfl) ?_ _
      have FIN : Hid (CtRel b 2 w7 (.int .i64 ((k : Int) + 1)) y5) := Lib.hid (by have kx := E3.out.nx (((Ex.refl y3).drew.nx k4).nx k5); exact ⟨k + 1, by omega, by go_num, KW.out.nxb (kx.b b), TB.out.nx kx⟩)
      clear H S B15 TG k4 k5 S4 TG4
      go_wp2_with fail
      exact ⟨FIN.out, by simp [intOf]; omega⟩
    · skip
      have h1 : RT = ([], 1) := by rw [HRT.out, route_bad (.inr (by omega))]
      have h2 : (o, ok) = (Nd.zero, false) := by rw [HON.out, ownN_no (.inr (.inr (by omega)))]
      have hok : ok = false := by cases h2; rfl
      have hR2 : RT.2 = 1 := by rw [h1]
      have FIN : Hid (CtRel b 2 w7 (.int .i64 ((k : Int) + 1)) y3) := Lib.hid ⟨k + 1, by omega, by go_num, KW.out.nxb (EX.b b), TB.out.nx EX⟩
      subst hok
      clear h1 h2 H S B15 hq
      go_wp2_with fail
      exact ⟨FIN.out, by simp [intOf]; omega⟩
end Go.Proofs.YtjlmnegmkkpadaaDoor

/- Nodes whose words are all made equal, in plain Lean. -/
namespace Go.Proofs.YtjlmnegmkkpadaaDoor
open Go.RowKit

def f5 (x : Nd) : Nd := ⟨x.id, x.key, 5⟩
/-- the first k nodes have the word 5 -/
def setW (L : List Nd) (k : Nat) : List Nd := (L.take k).map f5 ++ L.drop k
theorem setW_zero (L : List Nd) : setW L 0 = L := by simp [setW]
theorem setW_full (L : List Nd) : setW L L.length = L.map f5 := by simp [setW]
theorem setW_len (L : List Nd) (k : Nat) (h : k ≤ L.length) : (setW L k).length = L.length := by simp [setW]; omega
theorem setW_get {L : List Nd} {k : Nat} {y : Nd} (h : L[k]? = some y) : (setW L k)[k]? = some y := by
  have hk := (List.getElem?_eq_some_iff.1 h).1
  have hl : ((L.take k).map f5).length = k := by simp; omega
  unfold setW
  rw [List.getElem?_append_right (by omega), hl, Nat.sub_self, List.getElem?_drop, Nat.add_zero]
  exact h
theorem setW_succ {L : List Nd} {k : Nat} {y : Nd} (h : L[k]? = some y) : (setW L k).set k (f5 y) = setW L (k + 1) := by
  obtain ⟨hk, e⟩ := List.getElem?_eq_some_iff.1 h
  have hl : ((L.take k).map f5).length = k := by simp; omega
  unfold setW
  rw [List.set_append_right _ _ (by omega), hl, Nat.sub_self, take_snocN L k y h, List.map_append, List.append_assoc]
  have : (L.drop k).set 0 (f5 y) = [f5 y] ++ L.drop (k + 1) := by rw [List.drop_eq_getElem_cons hk, List.set_cons_zero]; rfl
  rw [this]; rfl
theorem dup_f5 (L : List Nd) : dupN (L.map f5) = dupN L := by
  rw [Bool.eq_iff_iff, dupN_iff, dupN_iff]
  constructor
  · rintro ⟨i, k, x, y, h1, h2, h3, h4⟩
    rw [List.getElem?_map] at h2 h3
    obtain ⟨x', hx, rfl⟩ := Option.map_eq_some_iff.1 h2
    obtain ⟨y', hy, rfl⟩ := Option.map_eq_some_iff.1 h3
    exact ⟨i, k, x', y', h1, hx, hy, h4⟩
  · rintro ⟨i, k, x, y, h1, h2, h3, h4⟩
    exact ⟨i, k, f5 x, f5 y, h1, by rw [List.getElem?_map, h2]; rfl, by rw [List.getElem?_map, h3]; rfl, h4⟩
theorem check_f5 {L : List Nd} (h0 : checkN L = 0) : checkN (L.map f5) = 0 := by
  unfold checkN at h0 ⊢
  split at h0
  · omega
  rename_i hl
  split at h0
  · omega
  rename_i hb
  split at h0
  · omega
  rename_i hd
  rw [if_neg (by simpa using hl), if_neg, if_neg (by rw [dup_f5]; exact hd)]
  intro h
  obtain ⟨x, hx, hxb⟩ := List.any_eq_true.1 h
  obtain ⟨y, hy, rfl⟩ := List.mem_map.1 hx
  refine hb (List.any_eq_true.2 ⟨y, hy, ?_⟩)
  have e5 : validN 5 = true := by decide
  unfold badN f5 at hxb
  simp only [e5, Bool.not_true, Bool.or_false] at hxb
  unfold badN
  rw [hxb]; rfl
theorem sort_f5 {L : List Nd} (h0 : checkN L = 0) : sortN (L.map f5) = (sortN L).map f5 := by
  refine (sortN_unique (check_keys (check_f5 h0)) ((sortN_perm L).map f5) ?_).symm
  have := sortN_asc L
  unfold AscN at this ⊢
  rw [List.pairwise_map]
  exact this.imp (fun h => h)
/-- what SearchBounds says of equal words -/
theorem bnd_law {L : List Nd} (h0 : checkN L = 0) {y : Nd} (hy : y ∈ L) : ∃ A B : List Nd, sortN (L.map f5) = A ++ f5 y :: B ∧ boundN (L.map f5) y.id = 1 + max A.length B.length ∧ A.length + 1 + B.length = L.length := by
  obtain ⟨A, B, e⟩ := List.append_of_mem ((sortN_mem L y).2 hy)
  have e' : sortN (L.map f5) = A.map f5 ++ f5 y :: B.map f5 := by rw [sort_f5 h0, e]; simp
  have hb := bound_eq (check_f5 h0) (u := 5) (fun z hz => by obtain ⟨q, _, rfl⟩ := List.mem_map.1 hz; rfl) (x := f5 y) (List.mem_map.2 ⟨y, hy, rfl⟩) e'
  refine ⟨_, _, e', hb, ?_⟩
  have := sortN_length L
  rw [e] at this
  simp at this ⊢
  omega
end Go.Proofs.YtjlmnegmkkpadaaDoor

/- The walk over SearchBounds (printed by gen_l8.py). -/
namespace Go.Proofs.YtjlmnegmkkpadaaDoor
open Go.RowKit

def BwRel (L : List Nd) (v : Value) (base g : Nat) (w : World) (i : Value) (wr : World) : Prop := ∃ k : Nat, k ≤ L.length ∧ i = .int .i64 k ∧ OwnL 3 encN 48 base wr v (setW L k) ∧ Exb g w wr
set_option maxRecDepth 100000 in
set_option maxHeartbeats 16000000 in
theorem searchbounds_walk (a1 : Option Addr) (n1 c1 : Nat) (l1 : List Int) (turn : Int) (w : World) (h1 : Sl 1 encI w a1 n1 l1) (hc1 : n1 ≤ c1) (hm1 : c1 ≤ maxLen) (ht : -9223372036854775808 ≤ turn ∧ turn ≤ 9223372036854775807) (hT : TabG w) (hL : LetG w) :
    Calls Tryd.prog 7 #[.slice a1 n1 c1, .int .i64 turn] w fun e w' => e = .returned (.bool true) ∧ Ex w w' := by
  go_enter Tryd.func7, Tryd.ntmps7
  go_wp2_with fail
  refine (new_t _ _ _ l1 _ h1 hc1 hm1).mono ?_
  rintro e w1 ⟨rfl, T, kk, z1⟩
  obtain ⟨b, hb⟩ : ∃ b, b = w.heap.size := ⟨_, rfl⟩
  rw [← hb] at T ⊢
  have hgtw : 1 < w.heap.size := hT.lt
  have hgt : ¬ 1 = b := by have := hT.lt; omega
  have hgl : ¬ 0 = b := by have := hL.lt; omega
  have T1 : Hid (TabG w1) := Lib.hid (hT.nx kk)
  have L1 : Hid (LetG w1) := Lib.hid (hL.nx kk)
  have QL : Hid (Exl b w w1) := Lib.hid ⟨kk, by omega⟩
  clear h1 hT hL kk hb z1
  have hbo := T.lt
  go_wp2_with fail
  refine (some_n 9 _ T L1.out hgl (by omega) (by omega)).mono ?_
  clear T
  rintro e w2 ⟨v1, L, rfl, R, hL1⟩
  replace T1 := Lib.hid (T1.out.nxb hgt R.k)
  replace L1 := Lib.hid (L1.out.nxb hgl R.k)
  replace QL := Lib.hid (QL.out.nxb R.k)
  obtain ⟨aX, cX, rfl, SX, hcX, hmX, _⟩ := R.own.slf (fun _ => rfl)
  have SX := SX.slb hbo
  have RL := R.len
  have RC := Lib.hid R.ok
  have RN := Lib.hid (roster_ok R.ok)
  have XW := Lib.hid (fun x hx => (RN.out x hx).1.2.1)
  have T := R.tape
  clear R
  go_wp2_with fail
  refine (mod_any turn (L.length : Int) _ (by omega) (by omega)).mono ?_
  rintro e w3 ⟨rfl, rfl⟩
  obtain ⟨m, hm⟩ : ∃ m : Nat, turn % (L.length : Int) = (m : Int) := ⟨(turn % (L.length : Int)).toNat, by have := Int.emod_nonneg turn (show (L.length : Int) ≠ 0 by omega); omega⟩
  have hm6 : m < L.length := by have := Int.emod_lt_of_pos turn (show (0 : Int) < (L.length : Int) by omega); omega
  rw [hm]
  clear hm
  go_wp2_with fail
  refine (next_t (L.length : Int) _ T (by omega) (by omega)).mono ?_
  clear T
  rintro e w4 ⟨r, rfl, r0, r1, T, kk⟩
  replace T1 := Lib.hid (T1.out.nxb hgt kk)
  replace L1 := Lib.hid (L1.out.nxb hgl kk)
  replace QL := Lib.hid (QL.out.nxb kk)
  replace SX := SX.nxb kk
  clear kk
  obtain ⟨j, rfl⟩ := Int.eq_ofNat_of_zero_le r0
  have hj : j < L.length := by omega
  have S := SX.sl
  obtain ⟨x1, o1, y, rfl, hx1, hy, hc1⟩ := S.at hj
  have e0 : w4.cell? ⟨x1, o1 + j * 3, none⟩ = some (.int .i64 y.id) := hc1 0 _ rfl
  have e1 : w4.cell? ⟨x1, o1 + j * 3 + 1, none⟩ = some (.string y.key) := hc1 1 _ rfl
  have e2 : w4.cell? ⟨x1, o1 + j * 3 + 1 + 1, none⟩ = some (.int .u32 y.word) := by simpa [Nat.add_assoc] using hc1 2 _ rfl
  have HYM := Lib.hid (List.mem_of_getElem? hy)
  have QX := QL.out.1
  have TG := T1.out
  clear T SX hc1 hy r0 r1 L1 T1 QL
  have B8 := Blk.new w4 [.int .i64 y.id, .string y.key, .int .u32 y.word] 48
  have kk := Ex.new w4 (.cells #[.int .i64 y.id, .string y.key, .int .u32 y.word] 48)
  obtain ⟨w5, hw5⟩ : ∃ w5, w5 = w4.alloc (.cells #[.int .i64 y.id, .string y.key, .int .u32 y.word] 48) := ⟨_, rfl⟩
  obtain ⟨g8, hg8⟩ : ∃ g8, g8 = w4.heap.size := ⟨_, rfl⟩
  replace B8 : Blk w5 g8 [.int .i64 y.id, .string y.key, .int .u32 y.word] 48 := by rw [hw5, hg8]; exact B8
  rw [← hw5] at kk
  have Hw5 := Lib.hid hw5
  have Hg8 := Lib.hid hg8
  replace S := S.nx kk
  replace QX := QX.nx kk
  replace TG := TG.nx kk
  clear kk hw5 hg8
  go_upto_region 5 with fail
  rw [← Hg8.out, ← Hw5.out]
  clear Hg8 Hw5
  clear e0 e1 e2
  obtain ⟨wz, rfl⟩ : ∃ wz : World, wz = w5 := ⟨_, rfl⟩
  have SD := Lib.hid (fun (cur : World) (k : Ex wz cur) => (S.nx k).drop (m := m) (by omega))
  have ST := Lib.hid (fun (cur : World) (k : Ex wz cur) => (S.nx k).take (m := m) (by omega))
  have OWN0 := Lib.hid (fun (cur : World) (k : Ex wz cur) => (OwnL.lit (enc := encN) (sz := 3) (e := 48) (base := wz.heap.size) (w := cur) ([] : List Nd) (fun _ => rfl) k.size (Nat.zero_le _) (cs := #[]) rfl))
  have q1 : (m : Int) ≤ (cX : Int) := by omega
  have q2 : (m : Int) ≤ (L.length : Int) := by omega
  have q3 : ¬ cX = m := by omega
  have PERM : Hid ((L.drop m ++ L.take m).Perm L) := Lib.hid (by
    have := (List.perm_append_comm (l₁ := L.drop m) (l₂ := L.take m))
    rwa [List.take_append_drop] at this)
  have HB8 := Lib.hid B8
  clear B8
  refine wp_region_held_drew (S := Ex wz) (by kernel_rfl) ((Ex.refl wz).drew) (fun hHeld => ?_)
  refine wpAnyH_take (i := 1) (oi := ⟨some 31, .move (.tmp 6), 23, "law.go:137", #[], none⟩) (v := ?_) rfl (by kernel_rfl) (by kernel_rfl) (by kernel_rfl) (fun _ _ _ h => h) (Or.inl ⟨by rfl, ?hyr1x1q1⟩) (by assumption) ?restr1x1q1
  case hyr1x1q1 => intro wq hSw; (go_simp); (try with_reducible rfl)
  try simp only [Act.put, List.setIfInBounds_toArray, List.set_cons_zero, List.set_cons_succ]
  refine wpAnyH_take (i := 2) (oi := ⟨some 32, .move (.tmp 7), 3, "law.go:137", #[], none⟩) (v := ?_) rfl (by kernel_rfl) (by kernel_rfl) (by kernel_rfl) (fun _ _ _ h => h) (Or.inl ⟨by rfl, ?hyr1x2q4⟩) (by assumption) ?restr1x2q4
  case hyr1x2q4 => intro wq hSw; (go_simp); (try with_reducible rfl)
  try simp only [Act.put, List.setIfInBounds_toArray, List.set_cons_zero, List.set_cons_succ]
  refine wpAnyH_take (i := 3) (oi := ⟨some 33, .slice 23 (.tmp 31) (some (.tmp 32)) none none, 23, "law.go:137", #[⟨1, .data⟩, ⟨2, .data⟩], none⟩) (v := ?_) rfl (by kernel_rfl) (by kernel_rfl) (by kernel_rfl) (fun _ _ _ h => h) (Or.inl ⟨by rfl, ?hyr1x3q7⟩) (by assumption) ?restr1x3q7
  case hyr1x3q7 => intro wq hSw; (go_simp); (try with_reducible rfl)
  try simp only [Act.put, List.setIfInBounds_toArray, List.set_cons_zero, List.set_cons_succ]
  refine wpAnyH_take (i := 5) (oi := ⟨some 35, .move (.tmp 6), 23, "law.go:137", #[], none⟩) (v := ?_) rfl (by kernel_rfl) (by kernel_rfl) (by kernel_rfl) (fun _ _ _ h => h) (Or.inl ⟨by rfl, ?hyr1x5q10⟩) (by assumption) ?restr1x5q10
  case hyr1x5q10 => intro wq hSw; (go_simp); (try with_reducible rfl)
  try simp only [Act.put, List.setIfInBounds_toArray, List.set_cons_zero, List.set_cons_succ]
  refine wpAnyH_take (i := 6) (oi := ⟨some 36, .move (.tmp 7), 3, "law.go:137", #[], none⟩) (v := ?_) rfl (by kernel_rfl) (by kernel_rfl) (by kernel_rfl) (fun _ _ _ h => h) (Or.inl ⟨by rfl, ?hyr1x6q13⟩) (by assumption) ?restr1x6q13
  case hyr1x6q13 => intro wq hSw; (go_simp); (try with_reducible rfl)
  try simp only [Act.put, List.setIfInBounds_toArray, List.set_cons_zero, List.set_cons_succ]
  refine wpAnyH_take (i := 7) (oi := ⟨some 37, .slice 23 (.tmp 35) none (some (.tmp 36)) none, 23, "law.go:137", #[⟨5, .data⟩, ⟨6, .data⟩], none⟩) (v := ?_) rfl (by kernel_rfl) (by kernel_rfl) (by kernel_rfl) (fun _ _ _ h => h) (Or.inl ⟨by rfl, ?hyr1x7q16⟩) (by assumption) ?restr1x7q16
  case hyr1x7q16 => intro wq hSw; (go_simp); (try with_reducible rfl)
  try simp only [Act.put, List.setIfInBounds_toArray, List.set_cons_zero, List.set_cons_succ]
  refine wpAnyH_ready (rs := [0]) (by kernel_rfl) (by simp) ?_
  refine AllReadyH.cons (o := ⟨some 30, .buildSlice 23 0 #[], 23, "law.go:137", #[], none⟩) rfl (fun K hK => ?_) AllReadyH.nil
  go_simp
  have own6 := OWN0.out _ hHeld
  have j6 := hHeld.alloc (.cells #[] 48)
  refine hK.out _ _ (j6) (fun hHeld => ?_)
  clear hK K
  try simp only [Act.put, List.setIfInBounds_toArray, List.set_cons_zero, List.set_cons_succ]
  refine wpAnyH_ready (rs := [4]) (by kernel_rfl) (by simp) ?_
  refine AllReadyH.cons (o := ⟨some 34, .call { callee := .builtin .append, args := #[.tmp 30, .tmp 33], argTypes := #[23, 23] }, 23, "law.go:137", #[⟨0, .data⟩, ⟨3, .data⟩], none⟩) rfl (fun K hK => ?_) AllReadyH.nil
  rw [if_pos (by rfl)]
  have s0 := SD.out _ hHeld
  have z0 := Ex.size hHeld
  refine wp_append_rd (enc := encN) _ (.tmp 30) (.tmp 33) 23 rfl wz.heap.size 48 (.agg #[.int .i64 0, .string ByteArray.empty, .int .u32 0]) 3 32 Tryd.underlying23 Tryd.infoN rfl (by omega) (by omega) _ [] own6 rfl _ _ _ _ (L.drop m) s0 (fun h => by cases h) (fun _ => rfl) (by simp [encN, Value.oneCell']) rfl (by simp) (by omega) z0 ?_
  intro v7 w7 own7 ch0 ch1
  have j7 : Ex wz w7 := Chg.trans hHeld ch1
  rw [List.nil_append] at own7
  clear ch0 ch1 s0 z0 own6
  refine hK.out _ _ (j7) (fun hHeld => ?_)
  clear hK K
  try simp only [Act.put, List.setIfInBounds_toArray, List.set_cons_zero, List.set_cons_succ]
  refine wpAnyH_ready (rs := [8]) (by kernel_rfl) (by simp) ?_
  refine AllReadyH.cons (o := ⟨some 38, .call { callee := .builtin .append, args := #[.tmp 34, .tmp 37], argTypes := #[23, 23] }, 23, "law.go:137", #[⟨4, .data⟩, ⟨7, .data⟩, ⟨4, .chain⟩], none⟩) rfl (fun K hK => ?_) AllReadyH.nil
  rw [if_pos (by rfl)]
  have s0 := ST.out _ hHeld
  have z0 := Ex.size hHeld
  refine wp_append_rd (enc := encN) _ (.tmp 34) (.tmp 37) 23 rfl wz.heap.size 48 (.agg #[.int .i64 0, .string ByteArray.empty, .int .u32 0]) 3 32 Tryd.underlying23 Tryd.infoN rfl (by omega) (by omega) _ (L.drop m) own7 rfl _ _ _ _ (L.take m) s0 (fun h => by cases h) (fun _ => rfl) (by simp [encN, Value.oneCell']) rfl (by rw [List.length_drop]; omega) (by omega) z0 ?_
  intro v8 w8 own8 ch0 ch1
  have j8 : Ex wz w8 := Chg.trans hHeld ch1
  clear ch0 ch1 s0 z0 own7
  obtain ⟨PL, hPL⟩ : ∃ PL, PL = L.drop m ++ L.take m := ⟨_, rfl⟩
  rw [← hPL] at own8
  have HPL := Lib.hid hPL
  have hlp : PL.length = L.length := by rw [hPL]; exact PERM.out.length_eq
  clear hPL
  obtain ⟨A8, C8, rfl, S8, hc8, hm8, _⟩ := own8.slf (fun _ => rfl)
  have S8 := S8.sl
  rw [hlp] at S8 hc8
  clear own8
  refine hK.out _ _ (j8) (fun hHeld => ?_)
  clear hK K
  try simp only [Act.put, List.setIfInBounds_toArray, List.set_cons_zero, List.set_cons_succ]
  refine wpAnyH_take (i := 9) (oi := ⟨some 9, .assign (.tmp 38), 23, "law.go:137", #[⟨8, .data⟩, ⟨8, .chain⟩, ⟨0, .phase⟩, ⟨1, .phase⟩, ⟨2, .phase⟩, ⟨3, .phase⟩, ⟨4, .phase⟩, ⟨5, .phase⟩, ⟨6, .phase⟩, ⟨7, .phase⟩, ⟨8, .phase⟩], none⟩) (v := ?_) rfl (by kernel_rfl) (by kernel_rfl) (by kernel_rfl) (fun _ _ _ h => h) (Or.inl ⟨by rfl, ?hyr1x9q61⟩) (by assumption) ?restr1x9q61
  case hyr1x9q61 => intro wq hSw; (go_simp); (try with_reducible rfl)
  try simp only [Act.put, List.setIfInBounds_toArray, List.set_cons_zero, List.set_cons_succ]
  refine wpAnyH_done (by kernel_rfl) ?_ _
  skip
  clear hHeld j6 j7 SD ST OWN0 q1 q2 q3
  have kk := j8
  replace S := S.nx kk
  replace QX := QX.nx kk
  replace TG := TG.nx kk
  have HB8 := Lib.hid (HB8.out.nx kk)
  clear kk j8
  obtain ⟨wy, rfl⟩ : ∃ wy : World, wy = w8 := ⟨_, rfl⟩
  have OWN1 := OwnL.lit (enc := encN) (sz := 3) (e := 48) (base := wy.heap.size) (w := wy) ([] : List Nd) (fun _ => rfl) (Nat.le_refl _) (Nat.zero_le _) (cs := #[]) rfl
  have SA := S.nx (Ex.new wy (.cells #[] 48))
  have hsa : wy.heap.size ≤ (wy.alloc (.cells #[] 48)).heap.size := by simp
  go_upto_region 6 with fail
  go_wp2_with (at_builtin; (refine wpList_append_rd (enc := encN) _ rfl _ _ 23 rfl wy.heap.size 48 (.agg #[.int .i64 0, .string ByteArray.empty, .int .u32 0]) 3 32 Tryd.underlying23 Tryd.infoN rfl (by omega) (by omega) _ [] OWN1 rfl _ _ _ _ L SA (fun h => by cases h) (fun _ => rfl) (by simp [encN, Value.oneCell']) rfl (by simp) (by omega) hsa ?_); intro v9 w9 own9 ch0 ch1; (obtain ⟨a9, c9, rfl, rd9, hc9, hm9, ha9⟩ := OwnL.rd own9 (fun _ => rfl)); rw [List.nil_append] at own9 rd9 hc9 ha9; (obtain ⟨g9, rfl, hg9⟩ := ha9 (by intro h; rw [h] at hL1; simp at hL1)); rw [List.nil_append]; have OWN9 := Lib.hid own9; have CH1 := Lib.hid ch1; clear own9 ch0 ch1 rd9 SA OWN1 hsa)
  have kk : Ex wy w9 := Chg.trans (Ex.new wy (.cells #[] 48)) CH1.out
  have hg9 : wy.heap.size ≤ g9 := hg9
  have hg89 : g8 ≠ g9 := by have := HB8.out.lt; omega
  have S := Lib.hid ((S.slb (show wy.heap.size ≤ g9 from hg9)).nxb (kk.b g9))
  have S8 := Lib.hid ((S8.slb (show wy.heap.size ≤ g9 from hg9)).nxb (kk.b g9))
  have hzg : w.heap.size ≤ g9 := Nat.le_trans QX.size hg9
  have hgt9 : ¬ 1 = g9 := by omega
  have TG := Lib.hid (TG.nx kk)
  have QX := Lib.hid (QX.nx kk)
  have HB8 := Lib.hid (HB8.out.nx kk)
  have ST : Hid (BwRel L (.slice (some ⟨g9, 0, none⟩) L.length c9) wy.heap.size g9 w9 (.int .i64 0) w9) := Lib.hid ⟨0, by omega, rfl, by rw [setW_zero]; exact OWN9.out, Exb.refl _ _⟩
  clear kk CH1 OWN9
  go_loopw [11] (fun i wr => BwRel L (.slice (some ⟨g9, 0, none⟩) L.length c9) wy.heap.size g9 w9 i wr) (fun i _ => L.length - (intOf i).toNat)
  case atStart => exact ST.out
  case round =>
    clear ST
    obtain ⟨k, hk, rfl, own, kw⟩ := hrel
    obtain ⟨wo, rfl⟩ : ∃ wo : World, wo = wr := ⟨_, rfl⟩
    by_cases hlt : k < L.length
    case pos =>
      obtain ⟨z, hz⟩ : ∃ z, L[k]? = some z := ⟨L[k], List.getElem?_eq_getElem hlt⟩
      obtain ⟨q0, f0, OS⟩ := own_set1 (sz := 3) (enc := encN) (c := 2) (fun _ => rfl) own (setW_get hz) (by omega)
      have hg9w : g9 < wo.heap.size := (own.lt g9 rfl).2
      have RR : Hid (BwRel L (.slice (some ⟨g9, 0, none⟩) L.length c9) wy.heap.size g9 w9 (.int .i64 ((k : Int) + 1)) (wo.setCell ⟨g9, k * 3 + 2, none⟩ (.int .u32 5))) := Lib.hid ⟨k + 1, by omega, by go_num, by rw [← setW_succ hz]; exact OS (f5 z) (.int .u32 5) rfl, kw.setB (p := ⟨g9, k * 3 + 2, none⟩) (.int .u32 5) rfl⟩
      clear own OS hz kw
      go_wp2_with fail
      exact ⟨RR.out, by simp [intOf]; omega⟩
    obtain rfl : k = L.length := by omega
    rw [setW_full] at own
    obtain ⟨aM, cM, heM, SM, hcM, hmM, _⟩ := own.slf (fun _ => rfl)
    have SM := SM.sl
    rw [List.length_map] at SM hcM heM
    cases heM
    have S := (S.out.nxb kw).sl
    have S8 := (S8.out.nxb kw).sl
    have TG := TG.out.nxb hgt9 kw
    have QX := (Exl.nxb (b := g9) (w := w) ⟨QX.out, hzg⟩ kw).1
    have B8 := HB8.out.nxb hg89 kw
    have b0 := B8.cell 0 _ rfl
    obtain ⟨A, B, hAB, hbd, hln⟩ := bnd_law RC.out HYM.out
    have hpl : placeI (L.map f5) y.id = A.length := show placeI (L.map f5) (f5 y).id = A.length from placeI_at (check_f5 RC.out) hAB
    have hrk : rankN (L.map f5) y.id = ((A.length : Int), true) := by unfold rankN; rw [hpl]; congr 1; simp
    obtain ⟨bm, hbm⟩ : ∃ bm, bm = boundN (L.map f5) y.id := ⟨_, rfl⟩
    obtain ⟨bl, hbl⟩ : ∃ bl, bl = boundN L y.id := ⟨_, rfl⟩
    have hb1 : 1 ≤ bl := by rw [hbl]; exact bound_pos RC.out HYM.out
    have hb2 : bl ≤ L.length := by rw [hbl]; exact bound_le RC.out HYM.out
    have hbp : boundN PL y.id = bl := by rw [hbl, HPL.out]; exact bound_perm PERM.out RC.out y.id
    rw [← hbm] at hbd
    have hfin : ((bm : Int) == 1 + max (A.length : Int) ((L.length : Int) - 1 - (A.length : Int))) = true := by rw [beq_iff_eq]; omega
    have HBM := Lib.hid hbm
    have HBL := Lib.hid hbl
    have HBP := Lib.hid hbp
    have HRK := Lib.hid hrk
    have MW : Hid (∀ x ∈ L.map f5, x.word < 4294967296) := Lib.hid (fun x hx => by obtain ⟨q, _, rfl⟩ := List.mem_map.1 hx; show (5 : Nat) < _; omega)
    have PW : Hid (∀ x ∈ PL, x.word < 4294967296) := Lib.hid (fun x hx => XW.out x (PERM.out.mem_iff.1 (by rw [← HPL.out]; exact hx)))
    clear own kw hk hlt hpl hrk hbm hbl hbp hbd hAB
    go_wp2_with fail
    (with_reducible refine (rank_p _ _ _ _ _ _ SM (by omega) hcM hmM).mono ?_)
    rintro e y1 ⟨rfl, kk⟩
    replace S := S.nx kk
    replace S8 := S8.nx kk
    replace SM := SM.nx kk
    replace QX := QX.nx kk
    replace TG := TG.nx kk
    replace B8 := B8.nx kk
    clear kk
    rw [HRK.out]
    clear b0
    have b0 := B8.cell 0 _ rfl
    go_wp2_with fail
    (with_reducible refine (bound_p _ _ _ _ _ _ S (by omega) hcX hmX XW.out TG).mono ?_)
    rintro e y2 ⟨rfl, kk⟩
    replace S := S.nx kk
    replace S8 := S8.nx kk
    replace SM := SM.nx kk
    replace QX := QX.nx kk
    replace TG := TG.nx kk
    replace B8 := B8.nx kk
    clear kk
    rw [← HBL.out]
    clear b0
    have b0 := B8.cell 0 _ rfl
    go_wp2_with fail
    (with_reducible refine (bound_p _ _ _ _ _ _ S8 (by omega) hc8 hm8 PW.out TG).mono ?_)
    rintro e y3 ⟨rfl, kk⟩
    replace S := S.nx kk
    replace S8 := S8.nx kk
    replace SM := SM.nx kk
    replace QX := QX.nx kk
    replace TG := TG.nx kk
    replace B8 := B8.nx kk
    clear kk
    rw [HBP.out]
    clear b0
    have b0 := B8.cell 0 _ rfl
    go_wp2_with fail
    (with_reducible refine (bound_p _ _ _ _ _ _ SM (by omega) hcM hmM MW.out TG).mono ?_)
    rintro e y4 ⟨rfl, kk⟩
    replace S := S.nx kk
    replace S8 := S8.nx kk
    replace SM := SM.nx kk
    replace QX := QX.nx kk
    replace TG := TG.nx kk
    replace B8 := B8.nx kk
    clear kk
    rw [← HBM.out]
    clear b0 S S8 SM B8
    go_wp2_with fail
    (with_reducible refine (sane8_x _ TG).mono ?_)
    rintro e y5 ⟨rfl, kk⟩
    replace QX := QX.nx kk
    replace TG := TG.nx kk
    clear kk
    go_wp2_with fail
    go_ret
    exact ⟨rfl, QX⟩
end Go.Proofs.YtjlmnegmkkpadaaDoor

/- What the laid tables give the walks. -/
namespace Go.Proofs.YtjlmnegmkkpadaaDoor
open Go.RowKit

theorem Tryd.gTab : Tryd.prog.globalNamed "math/bits.deBruijn32tab" = some 1 := by kernel_rfl
theorem Tryd.tTab : (Tryd.prog.globals[1]?).map (·.type) = some 180 := by kernel_rfl
theorem Tryd.cells32 : Tryd.prog.cellsOf 180 = 32 := by kernel_rfl
theorem Tryd.cellsU8 : Tryd.prog.cellsOf 5 = 1 := by kernel_rfl
theorem laid_tab {H : Type} : (Rows.laid_math_bits_deBruijn32tab : DataW H) = Lib.tabData .u8 (Lib.deBruijn32tab.map fun (n : Nat) => (n : Int)) := rfl

theorem tabG_of {rest : List (String × DataW Unit)} {W : World} (h : laidMetH Tryd.prog (("math/bits.deBruijn32tab", Rows.laid_math_bits_deBruijn32tab) :: rest) W)
    (hp : ((("math/bits.deBruijn32tab", Rows.laid_math_bits_deBruijn32tab) :: rest).all fun x => x.2.handleName?.isNone) = true) : TabG W := by
  rw [MakeChecks.laidMetH_plain _ _ _ hp, laid_tab] at h
  have ht := Lib.tabIs_of_head Tryd.gTab Tryd.tTab Tryd.underlying180 Tryd.underlying5 Tryd.cellsU8 Tryd.cells32 h
  intro j hj
  have := ht.cell Tryd.gTab j (by simp [Lib.deBruijn32tab]; omega)
  rw [this]
  congr 2
  simp [List.getD, List.getElem?_map]
  cases h : Lib.deBruijn32tab[j]? <;> simp
end Go.Proofs.YtjlmnegmkkpadaaDoor

/- What the laid letters give the walks. -/
namespace Go.Proofs.YtjlmnegmkkpadaaDoor
open Go.RowKit

theorem Tryd.gLet : Tryd.prog.globalNamed "skipgraph/skipgraphworld.letters" = some 0 := by kernel_rfl
theorem Tryd.tLet : (Tryd.prog.globals[0]?).map (·.type) = some 94 := by kernel_rfl
theorem Tryd.cells6 : Tryd.prog.cellsOf 94 = 6 := by kernel_rfl
theorem Tryd.cellsStr : Tryd.prog.cellsOf 9 = 1 := by kernel_rfl
def letL : List (List UInt8) := [[97], [98], [99], [0], [255], [109]]

/-- AN ARRAY OF STRINGS THAT READS AS A LIST OF STRINGS HOLDS THEM, CELL FOR CELL. -/
theorem cells_of_strs {H : Type} {enc : TypeId × Value → H} {P : Program} {w : World} {base : Nat} {sp : Nat → Bool} {held : Bool} {fuel : Nat} {t e : TypeId} {n : Nat} {cs : List Value} {zs : List (List UInt8)} {p : List MemPlace}
    (ht : P.underlying t = some (.array n e)) (he : P.underlying e = some .string) (hce : P.cellsOf e = 1) (hct : P.cellsOf t = n)
    (h : DataW.trod enc P w base sp held fuel t cs = some (.agg (zs.map fun z => .lit (.string z)), p)) : ∀ (i : Nat) (z : List UInt8), zs[i]? = some z → ∃ s : ByteArray, s.data.toList = z ∧ cs[i]? = some (.string s) := by
  cases fuel with
  | zero => simp [DataW.trod] at h
  | succ fuel =>
    simp only [DataW.trod, ht, hce, hct, Nat.mul_one] at h
    split at h
    · rename_i hl
      obtain ⟨xs, hm, hx⟩ := Option.map_eq_some_iff.1 h
      have hxs : xs.map (·.1) = zs.map fun z => (DataW.lit (.string z) : DataW H) := by
        have := congrArg Prod.fst hx
        simpa using this
      have hxl : xs.length = n := by simpa using Lib.mapM_length hm
      have hzl : zs.length = n := by
        have := congrArg List.length hxs
        simp at this
        omega
      intro i z hz
      have hi : i < n := by have := (List.getElem?_eq_some_iff.1 hz).1; omega
      obtain ⟨b, hb, hf⟩ := Lib.mapM_at hm i i (by simp [hi])
      obtain ⟨s, hc, rfl, _⟩ := DataW.trod_string he hf
      have h1 : cs[i]? = some (.string s) := by
        have := congrArg (·[0]?) hc
        simpa [List.getElem?_take, List.getElem?_drop] using this
      have h2 : (xs.map (·.1))[i]? = some (DataW.lit (.string s.data.toList) : DataW H) := by simp [hb]
      rw [hxs] at h2
      simp only [List.getElem?_map, Option.map_eq_some_iff, DataW.lit.injEq, Lit.string.injEq] at h2
      obtain ⟨z', hz', hzz⟩ := h2
      have : z = z' := Option.some.inj (hz.symm.trans hz')
      exact ⟨s, by rw [this, hzz], h1⟩
    · cases h

theorem laid_let {H : Type} : (Rows.laid_skipgraph_skipgraphworld_letters : DataW H) = .agg (letL.map fun z => .lit (.string z)) := rfl
theorem letG_head {rest : List (String × DataW Unit)} {W : World} (h : laidMet Tryd.prog (("skipgraph/skipgraphworld.letters", .agg (letL.map fun z => .lit (.string z))) :: rest) W) : LetG W := by
  obtain ⟨ps, ⟨g', t', cs, fuel, p, q, hg', ht', hvar, hd, _, _⟩, _⟩ := h
  obtain rfl := Option.some.inj (Tryd.gLet.symm.trans hg')
  obtain rfl := Option.some.inj (Tryd.tLet.symm.trans ht')
  intro j hj
  obtain ⟨z, hz⟩ : ∃ z, letL[j]? = some z := ⟨letL[j]'(by simp [letL]; omega), by simp⟩
  obtain ⟨s, h1, h2⟩ := cells_of_strs Tryd.underlying94 Tryd.underlying9 Tryd.cellsStr Tryd.cells6 hd j z hz
  refine ⟨s, ?_, ?_⟩
  · have hl : z.length = 1 := by
      have : ∀ j, j < 6 → (letL[j]?.getD []).length = 1 := by decide
      have := this j hj
      rw [hz] at this
      exact this
    have : s.data.toList.length = 1 := by rw [h1]; exact hl
    rw [Array.length_toList] at this
    exact this
  · rw [World.var?_cell Tryd.gLet hvar j]
    simpa using h2
theorem letG_of {rest : List (String × DataW Unit)} {W : World} (h : laidMetH Tryd.prog (("skipgraph/skipgraphworld.letters", Rows.laid_skipgraph_skipgraphworld_letters) :: rest) W)
    (hp : ((("skipgraph/skipgraphworld.letters", Rows.laid_skipgraph_skipgraphworld_letters) :: rest).all fun x => x.2.handleName?.isNone) = true) : LetG W := by
  rw [MakeChecks.laidMetH_plain _ _ _ hp, laid_let] at h
  exact letG_head h
end Go.Proofs.YtjlmnegmkkpadaaDoor

/- The letters, where they are second on the list of what is laid. -/
namespace Go.Proofs.YtjlmnegmkkpadaaDoor
open Go.RowKit

theorem letG_second {x : String × DataW Unit} {W : World} (h : laidMetH Tryd.prog [x, ("skipgraph/skipgraphworld.letters", Rows.laid_skipgraph_skipgraphworld_letters)] W)
    (hp : ([x, ("skipgraph/skipgraphworld.letters", Rows.laid_skipgraph_skipgraphworld_letters)].all fun x => x.2.handleName?.isNone) = true) (hx : decide (x.1 = "skipgraph/skipgraphworld.letters") = false) : LetG W := by
  rw [MakeChecks.laidMetH_plain _ _ _ hp, laid_let] at h
  have h2 := h.filter (fun y => decide (y.1 = "skipgraph/skipgraphworld.letters"))
  rw [List.filter_cons_of_neg (by rw [hx]; simp), List.filter_cons_of_pos (by simp), List.filter_nil] at h2
  exact letG_head h2
end Go.Proofs.YtjlmnegmkkpadaaDoor

/- How the arguments of a statement are read: slices as lists. -/
namespace Go.Proofs.YtjlmnegmkkpadaaDoor
open Go.ChangeShapes Go.WideShapes Go.ChangeAt Go.RowKit Go.Deep Go.Joins

theorem own : ownKnob Tryd.prog.godebug = none := by kernel_rfl
theorem laidOut : laidOutB Tryd.prog = true := by kernel_rfl

section
variable {H : Type} {enc : TypeId × Value → H} {P : Program} {w : World} {base : Nat} {spare : Nat → Bool} {held : Bool}

theorem addr_lit {a : Addr} {v : Value} {w : World} (h : w.cell? (a.add 0) = some v) : a = ⟨a.block, a.off, none⟩ := by
  obtain ⟨b, o, s⟩ := a
  have : s = none := by simpa [Addr.add] using World.cell?_spot h
  subst this; rfl

/-- a slice of ints that came in -/
theorem rd_ints {t e : TypeId} {k : IntKind} {v : Value} {d : DataW H} {p : List MemPlace} {r : Reach} {b0 : Nat} (ht : P.underlying t = some (.slice e)) (he : P.underlying e = some (.int k)) (hC : P.cellsOf e = 1)
    (hv : Value.okWide P w r b0 t v) (h : DataW.Trod enc P w base spare held t v d p) :
    ∃ a n c l, v = .slice a n c ∧ Rd 1 (fun x : Int => [Value.int k x]) (· < w.heap.size) w a n l ∧ n ≤ c ∧ c ≤ maxLen ∧ (∀ x ∈ l, (Lit.int k x).wf = true) ∧ (a = none → c = 0) := by
  obtain ⟨a0, len0, cap0, rfl⟩ := okWide_slice ht hv
  obtain ⟨fuel, hf⟩ := h
  rcases open_ints ht he hC hf with ⟨hcs, _⟩ | ⟨x, l, c, zs, hcs, _, hl, hm, hz, _, hcell, hwz⟩
  · simp [Value.cells] at hcs
    obtain ⟨rfl, rfl, rfl⟩ := hcs
    exact ⟨none, 0, 0, [], rfl, Rd.nil _ _ _ _ _, by omega, by unfold maxLen; omega, by simp, fun _ => rfl⟩
  · simp [Value.cells] at hcs
    obtain ⟨rfl, rfl, rfl⟩ := hcs
    have hz' : len0 ≤ zs.length := by rw [hz]; split <;> omega
    refine ⟨_, len0, cap0, zs.take len0, rfl, ⟨by simp; omega, ?_⟩, hl, hm, fun y hy => hwz y (List.mem_of_mem_take hy), fun h => by cases h⟩
    rcases Nat.eq_zero_or_pos len0 with h0 | h0
    · exact .inl h0
    · have hx := addr_lit (hcell 0 (by omega))
      refine .inr ⟨x.block, x.off, by rw [← hx], ?_, fun j y hj c u hu => ?_⟩
      · have := World.block_lt_of_cell? w _ (hcell 0 (by omega))
        rw [hx] at this
        simpa [Addr.add] using this
      · have hj' : j < len0 := by
          have := (List.getElem?_eq_some_iff.1 hj).1
          simp at this; omega
        have hy : zs.getD j 0 = y := by
          rw [List.getElem?_take, if_pos hj'] at hj
          simp [List.getD, hj]
        have hc := hcell j (by omega)
        rw [hx, Addr.add_lit, hy] at hc
        rcases c with _ | c
        · simp at hu; subst hu; simpa using hc
        · simp at hu

theorem open_slice_fields {t e : TypeId} {fs : Array Field} {fuel : Nat} {cs : List Value} {x : DataW H × List MemPlace} (ht : P.underlying t = some (.slice e)) (he : P.underlying e = some (.struct fs))
    (hone : oneCellFields P fs = true) (hC : P.cellsOf e = fs.size) (h : DataW.trod enc P w base spare held fuel t cs = some x) :
    (cs = [.slice none 0 0] ∧ x = (.nil, [])) ∨
    ∃ (a : Addr) (len cap m : Nat), cs = [.slice (some a) len cap] ∧ len ≤ cap ∧ cap ≤ maxLen ∧ m = (if spare a.block then cap else len) ∧
      ∀ i, i < m → ∃ (n : Nat), ∀ (j : Nat) (f : Field), fs[j]? = some f → ∃ (v : Value) (y : DataW H × List MemPlace), w.cell? (a.add (i * fs.size + j)) = some v ∧ DataW.trod enc P w base spare held n f.type [v] = some y := by
  rcases open_slice ht h with h0 | ⟨a, len, cap, m, n, D, Pl, hcs, hb, hl, hm, hmm, hx, hi⟩
  · exact .inl h0
  · refine .inr ⟨a, len, cap, m, hcs, hl, hm, hmm, fun i him => ?_⟩
    obtain ⟨cs', hc, ht'⟩ := hi i him
    rw [hC] at hc
    obtain ⟨ys, n', hn', hy, hlen, hyl, hf⟩ := DataW.trod_struct he ht'
    obtain ⟨_, hcl, hat⟩ := World.cells?_some hc
    refine ⟨n', fun j f hj => ?_⟩
    obtain ⟨ho, hk⟩ := hone_of hone j f hj
    have hjl : j < fs.size := (Array.getElem?_eq_some_iff.1 hj).1
    have hcell := hat j hjl
    have hv : cs'[j]? = some (cs'[j]'(by omega)) := List.getElem?_eq_getElem (by omega)
    have h1 := hf j f hj
    rw [ho, hk] at h1
    have hone' : (cs'.drop j).take 1 = [cs'[j]'(by omega)] := by
      rw [List.drop_eq_getElem_cons (by omega)]
      rfl
    rw [hone'] at h1
    have hys : ys[j]? = some (ys[j]'(by omega)) := List.getElem?_eq_getElem (by omega)
    refine ⟨_, _, ?_, h1.trans hys⟩
    rw [← Go.Deep.add_add, hcell, hv]

/-- a list that is given one element at a time -/
theorem list_of {α : Type} {p : Nat → α → Prop} : ∀ n, (∀ i, i < n → ∃ y, p i y) → ∃ l : List α, l.length = n ∧ ∀ (i : Nat) y, l[i]? = some y → p i y
  | 0, _ => ⟨[], rfl, by simp⟩
  | n + 1, h => by
    obtain ⟨l, hl, hp⟩ := list_of n (fun i hi => h i (by omega))
    obtain ⟨y, hy⟩ := h n (by omega)
    refine ⟨l ++ [y], by simp [hl], fun i z hz => ?_⟩
    rcases Nat.lt_or_ge i n with hi | hi
    · exact hp i z (by rwa [List.getElem?_append_left (by omega)] at hz)
    · rw [List.getElem?_append_right (by omega)] at hz
      have : i = n := by
        rcases Nat.eq_zero_or_pos (i - l.length) with h0 | h0
        · omega
        · rw [List.getElem?_eq_none (by simp; omega)] at hz; cases hz
      subst this
      simp [hl] at hz
      subst hz; exact hy

/-- a slice of structs that came in, each element read by 'rel' -/
theorem rd_structs {α : Type} {k : Nat} {encS : α → List Value} {t e : TypeId} {fs : Array Field} {v : Value} {d : DataW H} {p : List MemPlace} {r : Reach} {b0 : Nat} (ht : P.underlying t = some (.slice e)) (he : P.underlying e = some (.struct fs))
    (hone : oneCellFields P fs = true) (hC : P.cellsOf e = fs.size) (hk : fs.size = k) (hk0 : 0 < k)
    (hv : Value.okWide P w r b0 t v) (h : DataW.Trod enc P w base spare held t v d p)
    (hel : ∀ (n : Nat) (cell : Nat → Option Value), (∀ (j : Nat) (f : Field), fs[j]? = some f → ∃ (v : Value) (y : DataW H × List MemPlace), cell j = some v ∧ DataW.trod enc P w base spare held n f.type [v] = some y) → ∃ y : α, ∀ c u, (encS y)[c]? = some u → cell c = some u) :
    ∃ a n c l, v = .slice a n c ∧ Rd k encS (· < w.heap.size) w a n l ∧ n ≤ c ∧ c ≤ maxLen ∧ (a = none → c = 0) := by
  subst hk
  obtain ⟨a0, len0, cap0, rfl⟩ := okWide_slice ht hv
  obtain ⟨fuel, hf⟩ := h
  rcases open_slice_fields ht he hone hC hf with ⟨hcs, _⟩ | ⟨x, len, cap, m, hcs, hl, hm, hmm, hi⟩
  · simp [Value.cells] at hcs
    obtain ⟨rfl, rfl, rfl⟩ := hcs
    exact ⟨none, 0, 0, [], rfl, Rd.nil _ _ _ _ _, by omega, by unfold maxLen; omega, fun _ => rfl⟩
  · simp [Value.cells] at hcs
    obtain ⟨rfl, rfl, rfl⟩ := hcs
    have hlm : len0 ≤ m := by rw [hmm]; split <;> omega
    obtain ⟨l, hll, hlp⟩ := list_of (p := fun i (y : α) => ∀ c u, (encS y)[c]? = some u → w.cell? (x.add (i * fs.size + c)) = some u) len0 (fun i hi' => by
      obtain ⟨n, hn⟩ := hi i (by omega)
      exact hel n (fun j => w.cell? (x.add (i * fs.size + j))) hn)
    refine ⟨_, len0, cap0, l, rfl, ⟨hll, ?_⟩, hl, hm, fun h => by cases h⟩
    rcases Nat.eq_zero_or_pos len0 with h0 | h0
    · exact .inl h0
    · obtain ⟨n, hn⟩ := hi 0 (by omega)
      obtain ⟨v0, _, hv0, _⟩ := hn 0 (fs[0]) (by simp)
      have hv0 : w.cell? (x.add 0) = some v0 := by simpa using hv0
      have hx := addr_lit hv0
      refine .inr ⟨x.block, x.off, by rw [← hx], ?_, fun j y hj c u hu => ?_⟩
      · have := World.block_lt_of_cell? w _ hv0
        rw [hx] at this
        simpa [Addr.add] using this
      · have := hlp j y hj c u hu
        rw [hx, Addr.add_lit] at this
        simpa [Nat.add_assoc] using this
end
end Go.Proofs.YtjlmnegmkkpadaaDoor

/-
  SearchBounds returns true for every list of numbers and every number, and leaves its arguments as they were.
  Condition: the table of math/bits and the letters of the keys are as the program text lays them (tied by the card).
-/
namespace Go.Proofs.YtjlmnegmkkpadaaDoor
open Go.ChangeShapes Go.WideShapes Go.ChangeAt Go.RowKit Go.Deep Go.Joins
open Go.ChangeMaps (open_string shut_string)
set_option linter.unusedVariables false
theorem Tryd.cellsInt : Tryd.prog.cellsOf 3 = 1 := by kernel_rfl

set_option maxRecDepth 100000 in
set_option maxHeartbeats 1000000 in
theorem searchBounds_lifted (os : Os) (started : os.Started) (H : Type) (enc : TypeId × Value → H) :
    ReturnsInHanded {} Tryd.checked os 7 .any (fun w args => (Rows.searchBoundsSpec.pre enc Tryd.prog Tryd.f7 [] false w args ∧ laidMetH Tryd.prog Rows.searchBoundsRow.laid w) ∧ sizedMet enc Tryd.prog Tryd.f7 (OpenSpec.ofChange Rows.searchBoundsSpec) false w args)
      (Rows.searchBoundsSpec.post enc Tryd.prog Tryd.f7 false true false false) := by
  refine returnsInHanded_of_change_and (C := Tryd.checked) (X := fun w _ => laidMetH Tryd.prog Rows.searchBoundsRow.laid w) (fun _ _ _ hh h => h.of_heap hh) own started (by kernel_rfl) Tryd.func7
    (ChangeSpec.witness_shaped (enc := enc) (C := Tryd.checked) (os := os) (X := fun w _ => laidMetH Tryd.prog Rows.searchBoundsRow.laid w) false (World.doorLaid Tryd.prog 400 os) #[.slice none 0 0, .int .i64 0] 8 rfl (World.shaped_of_RefB (by kernel_rfl) (by kernel_rfl)) (by kernel_rfl) (by kernel_rfl) (by kernel_rfl) (laidMetH_of_parts3 (fuel := 8) (laidMet_of_run' 8 (by kernel_rfl) (by kernel_rfl)) (by kernel_rfl) (by kernel_rfl))) ?_
  intro W base args ds gs before hval0 hW _ _ hL _
  have hval : ∀ (j : Nat) t v, Tryd.f7.params[j]? = some t → args[j]? = some v → Value.okWide Tryd.prog W .any base t v := hval0
  have hW' := hW
  obtain ⟨p, q, hA0, hV, rfl, hfz, hnd⟩ := hW
  have hA : DataW.TrodAll enc Tryd.prog W 0 (fun _ => true) true Tryd.f7.params.toList args.toList ds p := hA0
  rw [Tryd.params7] at hA hval
  obtain ⟨v0, vs0, d0, ds0, p0, q0, hargs, rfl, rfl, h0, r0⟩ := trodAll_cons hA
  obtain ⟨v1, vs1, d1, ds1, p1, q1, rfl, rfl, rfl, h1, r1⟩ := trodAll_cons r0
  obtain ⟨rfl, rfl, rfl⟩ := trodAll_nil r1
  obtain rfl : args = #[v0, v1] := by cases args; simp_all
  obtain ⟨rfl, rfl⟩ := trodVars_none hV
  have k0 := h0
  have lt0 : ∀ x ∈ p0, x.block < W.heap.size := by obtain ⟨m, hm⟩ := k0; exact DataW.trod_lt m _ _ _ hm
  have k1 := h1
  have lt1 : ∀ x ∈ p1, x.block < W.heap.size := by obtain ⟨m, hm⟩ := k1; exact DataW.trod_lt m _ _ _ hm
  obtain ⟨A0, n0, cap0, l0, rfl, rd0, hc0, hm0, wf0, nl0⟩ := rd_ints Tryd.underlying22 Tryd.underlying3 Tryd.cellsInt (hval 0 22 v0 rfl rfl) h0
  obtain ⟨a1, rfl, rfl, rfl, wa1⟩ := open_int Tryd.underlying3 (hval 1 3 v1 rfl rfl) h1
  clear hA0 hval0
  have hb1 := bounds_i64 wa1
  have hT : TabG W := tabG_of hL (by kernel_rfl)
  have hL2 : LetG W := letG_second hL (by kernel_rfl) (by kernel_rfl)
  refine (searchbounds_walk A0 n0 cap0 l0 a1 W rd0 hc0 hm0 hb1 hT hL2).mono fun e W' ⟨he, hch⟩ => ?_
  have bel : Below W.heap.size W W' := hch.below (fun _ h => h)
  subst he
  exact ⟨_, rfl, _, _, _, [], _, [], hW', trodAll_mk1 (shut_bool Tryd.underlying4 _), (trodAll_cons_mk (Below.trod laidOut (by kernel_rfl) (of_decide_eq_true (by kernel_rfl)) k0 bel lt0) (trodAll_cons_mk (Below.trod laidOut (by kernel_rfl) (of_decide_eq_true (by kernel_rfl)) k1 bel lt1) trodAll_mk0)), rfl, bel.frame _, fun h => by cases h⟩

theorem searchBounds_over : Rows.searchBoundsRow.holds Tryd.pinned (OpenSpec.ofChange Rows.searchBoundsSpec) :=
  OpenClaim.holds_of_wide 7 Tryd.f7 rfl rfl rfl rfl rfl rfl rfl ⟨rfl, rfl, rfl, rfl, rfl⟩ rfl rfl rfl rfl rfl (by kernel_rfl) Tryd.func7 (by kernel_rfl)
    (of_decide_eq_true (by kernel_rfl)) (by unfold Func.isWrapper; first | (rw [if_pos (by decide +kernel)]; kernel_rfl) | (rw [if_neg (by decide +kernel)]; exact ⟨rfl, rfl⟩))
    (fun os started H enc _ => searchBounds_lifted os started H enc)

/-- THE STATEMENT: the tied card -/
theorem SearchBounds_holds : Rows.SearchBoundsCardSaid :=
  Claim7.holds_tied_plain_at .later [] [.data, .data] true (true, "2a99251f44ee4c1defc119fa919311036ca56a0eac1908b036a48edfb1cbd9b0") false
    searchBounds_over (fun _ h => by cases h) (by kernel_rfl) (fun _ h => by cases h) searchBounds_row_tie rfl ⟨rfl, rfl⟩ (by kernel_rfl) rfl
    (fun f fn hf hfn => by
      obtain rfl : f = 7 := Option.some.inj ((show Tryd.prog.funcNamed "skipgraph/skipgraphlaw8.SearchBounds" = some 7 by kernel_rfl).symm.trans hf) |>.symm
      obtain rfl : fn = Tryd.f7 := (Option.some.inj (Tryd.func7.symm.trans hfn)).symm
      exact ⟨by kernel_rfl, fun j t ht => by
        rw [Tryd.params7] at ht
        have hm : t ∈ [22, 3] := by simpa using Array.mem_of_getElem? ht
        have hall : ([22, 3].all fun u => !Tryd.prog.wantsStandIn u) = true := by kernel_rfl
        exact (show Tryd.prog.wantsStandIn t = false by simpa using List.all_eq_true.1 hall t hm)⟩)
    (by kernel_rfl)
#print axioms SearchBounds_holds
end Go.Proofs.YtjlmnegmkkpadaaDoor
