/- Texts for the statement SearchApproachesProof, part 9 of 9: SrEn, SrAp, Laid4, LaidL, Laid2, Open, SearchApproachesProof. -/
import Derived.Test.YtjlmnegmkkpadaaDoorTie
import Derived.Test.YtjlmnegmkkpadaaDoorCards
import Derived.Lib.LaidTab
import Derived.Lib.LaidU8
import Derived.LaidMore
import Derived.Stop.Joined
import Derived.SevenTiedAt
import Derived.ChangeArms
import Derived.LaidSub
import Derived.Test.YtjlmnegmkkpadaaDoorRows
import Derived.ProofKit
import Derived.OpenShut
import Derived.ShutString
import Derived.ChangeOld
import Derived.Lib.SmallJoins
import Derived.Deep.Slices
import Derived.Deep.Fields
import Derived.ChangeSame
import Derived.Test.YtjlmnegmkkpadaaDoorSearchApproachesProofPk1
import Derived.Test.YtjlmnegmkkpadaaDoorSearchApproachesProofPk3
import Derived.Test.YtjlmnegmkkpadaaDoorSearchApproachesProofPk4
import Derived.Test.YtjlmnegmkkpadaaDoorSearchApproachesProofPk5
import Derived.Test.YtjlmnegmkkpadaaDoorSearchApproachesProofPk8

/- The walk over SearchEnds (printed by gen_l8.py). -/
namespace Go.Proofs.YtjlmnegmkkpadaaDoor
open Go.RowKit

theorem height_le (l : List Nd) : heightN l ≤ 16 := by
  unfold heightN
  split
  · omega
  · cases h : (List.range 16).find? fun h => !decide ((classesN (sortN l) (h : Nat)).length < l.length) with
    | none => simp
    | some k =>
      have := List.mem_of_find?_eq_some h
      simp at this
      simp; omega
theorem rg8 {w w' : World} (h : Ex w.drew w') : Ex w w' := (Ex.refl w).drew.nx h
set_option maxRecDepth 100000 in
set_option maxHeartbeats 16000000 in
theorem searchends_walk (a1 : Option Addr) (n1 c1 : Nat) (l1 : List Int) (s : ByteArray) (w : World) (h1 : Sl 1 encI w a1 n1 l1) (hc1 : n1 ≤ c1) (hm1 : c1 ≤ maxLen) (hT : TabG w) (hL : LetG w) :
    Calls Tryd.prog 8 #[.slice a1 n1 c1, .string s] w fun e w' => e = .returned (.bool true) ∧ Ex w w' := by
  go_enter Tryd.func8, Tryd.ntmps8
  go_wp2_with fail
  refine (new_t _ _ _ l1 _ h1 hc1 hm1).mono ?_
  rintro e w1 ⟨rfl, T, kk, z1⟩
  obtain ⟨b, hb⟩ : ∃ b, b = w.heap.size := ⟨_, rfl⟩
  rw [← hb] at T ⊢
  have hgt : ¬ 1 = b := by have := hT.lt; omega
  have hgl : ¬ 0 = b := by have := hL.lt; omega
  have T1 : Hid (TabG w1) := Lib.hid (hT.nx kk)
  have L1 : Hid (LetG w1) := Lib.hid (hL.nx kk)
  have QL : Hid (Exl b w w1) := Lib.hid ⟨kk, by omega⟩
  clear h1 hT hL kk hb z1
  go_wp2_with fail
  have hbo := T.lt
  refine (some_n 10 _ T L1.out hgl (by omega) (by omega)).mono ?_
  clear T
  rintro e w2 ⟨v1, L, rfl, R, hL1⟩
  replace T1 := Lib.hid (T1.out.nxb hgt R.k)
  replace L1 := Lib.hid (L1.out.nxb hgl R.k)
  replace QL := Lib.hid (QL.out.nxb R.k)
  obtain ⟨aX, cX, rfl, SX, hcX, hmX, _⟩ := R.own.slf (fun _ => rfl)
  have SX := SX.slb hbo
  have RL := R.len
  have RC := Lib.hid R.ok
  have RN := Lib.hid (roster_ok R.ok)
  have XW := Lib.hid (fun x hx => (RN.out x hx).1.2.1)
  have T := R.tape
  clear R
  have hb2 := T.lt
  go_wp2_with fail
  (with_reducible refine (height_p _ _ _ _ _ SX.sl (by omega) hcX hmX XW.out T1.out).mono ?_)
  rintro e w3 ⟨rfl, kk⟩
  replace T := T.nx kk
  replace T1 := Lib.hid (T1.out.nx kk)
  replace L1 := Lib.hid (L1.out.nx kk)
  replace QL := Lib.hid (QL.out.nx kk)
  replace SX := SX.nxb (kk.b b)
  clear kk
  obtain ⟨hh, hhe⟩ : ∃ hh, hh = heightN L := ⟨_, rfl⟩
  rw [← hhe]
  have hh16 : hh ≤ 16 := by rw [hhe]; exact height_le L
  have HH := Lib.hid hhe
  clear hhe
  go_wp2_with fail
  refine (next_t 2 _ T (by omega) (by omega)).mono ?_
  clear T
  rintro e w4 ⟨r, rfl, r0, r1, T, kk⟩
  replace T1 := Lib.hid (T1.out.nxb hgt kk)
  replace L1 := Lib.hid (L1.out.nxb hgl kk)
  replace QL := Lib.hid (QL.out.nxb kk)
  replace SX := SX.nxb kk
  clear kk
  obtain ⟨r, rfl⟩ := Int.eq_ofNat_of_zero_le r0
  obtain ⟨m, hm⟩ : ∃ m : Nat, m = min (hh + r) 16 := ⟨_, rfl⟩
  have hm2 : min ((hh : Int) + (r : Int)) 16 = (m : Int) := by omega
  have hm16 : m ≤ 16 := by omega
  have hhm : Hid (heightN L ≤ m) := Lib.hid (by rw [← HH.out]; omega)
  have hb4 := T.lt
  have HM := Lib.hid hm2
  clear hm hm2 r0
  go_wp2_with fail
  rw [HM.out]
  (with_reducible refine (build_p _ _ _ _ (m : Int) _ SX.sl (by omega) hcX hmX XW.out T1.out).mono ?_)
  rintro e w5 ⟨vL, qs, rfl, own, kk⟩
  replace T := T.nx kk
  replace T1 := Lib.hid (T1.out.nx kk)
  replace L1 := Lib.hid (L1.out.nx kk)
  replace QL := Lib.hid (QL.out.nx kk)
  replace SX := SX.nxb (kk.b b)
  clear kk
  obtain ⟨A0, A1, A2⟩ := build_ok0 RC.out hm16
  rw [A0]
  have BS := Lib.hid (buildN_small L (m : Int) (by omega))
  have OWN := Lib.hid own
  clear own A1 A2 A0
  go_wp2_with fail
  refine (key_t _ T L1.out hgl).mono ?_
  clear T
  rintro e w6 ⟨K, rfl, hK, T, kk⟩
  replace T1 := Lib.hid (T1.out.nxb hgt kk)
  replace L1 := Lib.hid (L1.out.nxb hgl kk)
  replace QL := Lib.hid (QL.out.nxb kk)
  replace SX := SX.nxb kk
  replace OWN := Lib.hid (OWN.out.nxb hb4 kk)
  clear kk
  clear hK
  have hnb := T.lt
  have B44 := Blk.new w6 [.string K, .string s] 9
  have kk := Ex.new w6 (.cells #[.string K, .string s] 9)
  obtain ⟨w7, hw7⟩ : ∃ w7, w7 = w6.alloc (.cells #[.string K, .string s] 9) := ⟨_, rfl⟩
  obtain ⟨g44, hg44⟩ : ∃ g44, g44 = w6.heap.size := ⟨_, rfl⟩
  replace B44 : Blk w7 g44 [.string K, .string s] 9 := by rw [hw7, hg44]; exact B44
  rw [← hw7] at kk
  have Hw7 := Lib.hid hw7
  have Hg44 := Lib.hid hg44
  replace T := T.nx kk
  replace T1 := Lib.hid (T1.out.nx kk)
  replace L1 := Lib.hid (L1.out.nx kk)
  replace QL := Lib.hid (QL.out.nx kk)
  replace SX := SX.nxb (kk.b b)
  replace OWN := Lib.hid (OWN.out.nx kk)
  have hgb : g44 ≠ b := by omega
  clear kk hw7 hg44
  go_upto_region 10 with fail
  rw [← Hg44.out, ← Hw7.out]
  clear Hg44 Hw7
  have B44 := Lib.hid B44
  have SX := Lib.hid SX
  have QL7 := QL
  go_wp2_with fail
  go_loopw [46] (fun i wr => CtRel b 2 w7 i wr) (fun i _ => 2 - (intOf i).toNat)
  case atStart => exact ⟨0, by omega, rfl, Exb.refl _ _, T⟩
  case round =>
    clear T
    obtain ⟨k, hk, rfl, kw, T⟩ := hrel
    obtain ⟨wo, rfl⟩ : ∃ wo : World, wo = wr := ⟨_, rfl⟩
    by_cases hlt : k < 2
    case neg =>
      obtain rfl : k = 2 := by omega
      have TG := T1.out.nxb hgt kw
      have QX := Lib.hid (QL.out.nxb kw).1
      clear hk hlt kw T
      go_wp2_with fail
      (with_reducible refine (sane8_x _ TG).mono ?_)
      rintro e w9 ⟨rfl, kk⟩
      go_wp2_with fail
      go_ret
      exact ⟨rfl, QX.out.nx kk⟩
    have hbo := T.lt
    have SX := SX.out.nxb kw
    have OWN := Lib.hid (OWN.out.nxb hb4 kw)
    have TG := T1.out.nxb hgt kw
    obtain ⟨q, cq⟩ : ∃ q : ByteArray, wo.cell? ⟨g44, k, none⟩ = some (.string q) := by
      have B := B44.out.nxb hgb kw
      rcases (show k = 0 ∨ k = 1 by omega) with h | h
      · exact ⟨K, by rw [h]; exact B.cell 0 _ rfl⟩
      · exact ⟨s, by rw [h]; exact B.cell 1 _ rfl⟩
    go_wp2_with fail
    refine (next_t (L.length : Int) _ T (by omega) (by omega)).mono ?_
    clear T
    rintro e x2 ⟨r, rfl, r0, r1, T, kk⟩
    replace kw := kw.nxb kk
    replace SX := SX.nxb kk
    replace OWN := Lib.hid (OWN.out.nxb hb4 kk)
    replace TG := TG.nxb hgt kk
    clear kk
    obtain ⟨j, rfl⟩ := Int.eq_ofNat_of_zero_le r0
    have hj : j < L.length := by omega
    obtain ⟨x1, o1, y, rfl, hx1, hy, hc1⟩ := SX.sl.at hj
    have e0 : x2.cell? ⟨x1, o1 + j * 3, none⟩ = some (.int .i64 y.id) := hc1 0 _ rfl
    have HYM := Lib.hid (List.mem_of_getElem? hy)
    have TB := Lib.hid T
    have KW := Lib.hid kw
    have S := SX.sl
    obtain ⟨aP, cP, rfl, LK, _, _, _, _⟩ := OwnN.nl (encA := encI) (encB := encS) (s1 := 2) (s2 := 2) (fun _ => rfl) (fun _ => rfl) OWN.out
    have EX := Ex.refl x2
    have LK := Lib.hid LK
    have BS1 := BS.out.1
    clear T kw SX hc1 hy cq r0 r1
    go_wp2_with fail
    (with_reducible refine (route_p _ _ _ _ _ _ _ _ _ _ _ S (by omega) hcX hmX LK.out (by omega) (fun c hc => Nat.le_trans (BS.out.2 c hc) (by omega))).mono ?_)
    rintro e y1 ⟨v2, rfl, own, kk⟩
    replace S := S.nx kk
    replace LK := Lib.hid (LK.out.nx kk)
    replace EX := EX.nx kk
    replace TG := TG.nx kk
    clear kk
    obtain ⟨aH, cH, rfl, H, _, _, _⟩ := own.slf (fun _ => rfl)
    have H := H.sl
    clear own e0 LK
    go_wp2_with fail
    (with_reducible refine (owner_p _ _ _ _ _ _ S (by omega) hcX hmX).mono ?_)
    rintro e y2 ⟨rfl, kk⟩
    replace S := S.nx kk
    replace EX := EX.nx kk
    replace TG := TG.nx kk
    replace H := H.nx kk
    clear kk
    obtain ⟨RT, hRT⟩ : ∃ RT, RT = routeN L (buildN L (m : Int)).1 y.id q := ⟨_, rfl⟩
    rw [← hRT] at H ⊢
    have hRl := route_small L (buildN L (m : Int)).1 y.id q
    rw [← hRT] at hRl
    obtain ⟨ON, hON⟩ : ∃ ON, ON = ownN L q := ⟨_, rfl⟩
    rw [← hON]
    have HRT := Lib.hid hRT
    have HON := Lib.hid hON
    obtain ⟨o, ok⟩ := ON
    simp only
    clear hRT hON
    have B15 := Blk.new y2 [.int .i64 o.id, .string o.key, .int .u32 o.word] 48
    have kk := Ex.new y2 (.cells #[.int .i64 o.id, .string o.key, .int .u32 o.word] 48)
    obtain ⟨y3, hy3⟩ : ∃ y3, y3 = y2.alloc (.cells #[.int .i64 o.id, .string o.key, .int .u32 o.word] 48) := ⟨_, rfl⟩
    obtain ⟨g15, hg15⟩ : ∃ g15, g15 = y2.heap.size := ⟨_, rfl⟩
    replace B15 : Blk y3 g15 [.int .i64 o.id, .string o.key, .int .u32 o.word] 48 := by rw [hy3, hg15]; exact B15
    rw [← hy3] at kk
    have Hy3 := Lib.hid hy3
    have Hg15 := Lib.hid hg15
    replace S := S.nx kk
    replace EX := EX.nx kk
    replace TG := TG.nx kk
    replace H := H.nx kk
    clear kk hy3 hg15
    go_upto_region 15 with fail
    rw [← Hg15.out, ← Hy3.out]
    clear Hg15 Hy3
    by_cases hq : q.size ≤ 64
    · skip
      have HE := end_law (L := (buildN L (m : Int)).1) RC.out HYM.out hq (by rw [(build_top RC.out hm16 HYM.out).1]; omega) (fun x hx => (build_top RC.out hm16 hx).2 0 (by omega))
      have HB := ends_law RC.out XW.out hm16 hhm.out HYM.out hq
      rw [← HRT.out, ← HON.out] at HE
      rw [← HRT.out] at HB
      obtain ⟨g1, g2, g3⟩ := HE
      simp only at g2 g3
      subst g3
      have b0 := B15.cell 0 _ rfl
      have B15h := Lib.hid B15
      have E3 := Lib.hid EX
      have hbl := bound_le RC.out HYM.out
      have HB2 : ¬ (boundN L y.id : Int) < (RT.1.length : Int) := by omega
      clear hq HB b0 EX
      go_upto_region 18 with fail
      refine wp_region_held_drew (S := Ex y3.drew) (by kernel_rfl) (Ex.refl _) (fun hHeld => ?_)
      refine wpAnyH_take (i := 0) (oi := ⟨some 76, .move (.tmp 14), 35, "law.go:85", #[], none⟩) (v := ?_) rfl (by kernel_rfl) (by kernel_rfl) (by kernel_rfl) (fun _ _ _ h => h) (Or.inl ⟨by rfl, ?hyr1x0⟩) (by assumption) ?restr1x0
      case hyr1x0 => intro wq hSw; (go_simp); (try with_reducible rfl)
      try simp only [Act.put, List.setIfInBounds_toArray, List.set_cons_zero, List.set_cons_succ]
      refine wpAnyH_take (i := 1) (oi := ⟨some 77, .binOp .neq 35 (.tmp 76) (.const (.int .i64 0)) 35, 4, "law.go:85", #[⟨0, .data⟩], none⟩) (v := ?_) rfl (by kernel_rfl) (by kernel_rfl) (by kernel_rfl) (fun _ _ _ h => h) (Or.inl ⟨by rfl, ?hyr1x1⟩) (by assumption) ?restr1x1
      case hyr1x1 => intro wq hSw; (go_simp); (try with_reducible rfl)
      try simp only [Act.put, List.setIfInBounds_toArray, List.set_cons_zero, List.set_cons_succ]
      refine wpAnyH_take (i := 2) (oi := ⟨some 78, .move (.tmp 77), 4, "law.go:85", #[⟨1, .data⟩], none⟩) (v := ?_) rfl (by kernel_rfl) (by kernel_rfl) (by kernel_rfl) (fun _ _ _ h => h) (Or.inl ⟨by rfl, ?hyr1x2⟩) (by assumption) ?restr1x2
      case hyr1x2 => intro wq hSw; (go_simp); (try with_reducible rfl)
      try simp only [Act.put, List.setIfInBounds_toArray, List.set_cons_zero, List.set_cons_succ]
      refine wpAnyH_take (i := 3) (oi := ⟨some 79, .move (.tmp 12), 3, "law.go:85", #[⟨2, .guard⟩], some (2, false)⟩) (v := ?_) rfl (by kernel_rfl) (by kernel_rfl) (by kernel_rfl) (fun _ _ _ h => h) (Or.inl ⟨by rfl, ?hyr1x3⟩) (by assumption) ?restr1x3
      case hyr1x3 => intro wq hSw; (go_simp); (try with_reducible rfl)
      try simp only [Act.put, List.setIfInBounds_toArray, List.set_cons_zero, List.set_cons_succ]
      refine wpAnyH_take (i := 4) (oi := ⟨some 80, .move (.tmp 13), 34, "law.go:85", #[⟨2, .guard⟩], some (2, false)⟩) (v := ?_) rfl (by kernel_rfl) (by kernel_rfl) (by kernel_rfl) (fun _ _ _ h => h) (Or.inl ⟨by rfl, ?hyr1x4⟩) (by assumption) ?restr1x4
      case hyr1x4 => intro wq hSw; (go_simp); (try with_reducible rfl)
      try simp only [Act.put, List.setIfInBounds_toArray, List.set_cons_zero, List.set_cons_succ]
      refine wpAnyH_take (i := 6) (oi := ⟨some 82, .fieldAddr 48 (.tmp 15) 0, 0, "law.go:85", #[⟨2, .guard⟩], some (2, false)⟩) (v := ?_) rfl (by kernel_rfl) (by kernel_rfl) (by kernel_rfl) (fun _ _ _ h => h) (Or.inl ⟨by rfl, ?hyr1x6⟩) (by assumption) ?restr1x6
      case hyr1x6 => intro wq hSw; (go_simp); (try with_reducible rfl)
      try simp only [Act.put, List.setIfInBounds_toArray, List.set_cons_zero, List.set_cons_succ]
      refine wpAnyH_take (i := 7) (oi := ⟨some 83, .load 3 (.tmp 82), 3, "law.go:85", #[⟨6, .data⟩, ⟨2, .guard⟩], some (2, false)⟩) (v := ?_) rfl (by kernel_rfl) (by kernel_rfl) (by kernel_rfl) (fun _ _ _ h => h) (Or.inl ⟨by rfl, ?hyr1x7⟩) (by assumption) ?restr1x7
      case hyr1x7 => intro wq hSw; (have cq := (B15h.out.nx (rg8 hSw)).cell 0 _ rfl; go_simp); (try with_reducible rfl)
      try simp only [Act.put, List.setIfInBounds_toArray, List.set_cons_zero, List.set_cons_succ]
      refine wpAnyH_ready (rs := [5]) (by kernel_rfl) (by simp) ?_
      refine AllReadyH.cons (o := ⟨some 81, .call { callee := .value (.func 25), args := #[.tmp 79, .tmp 80], argTypes := #[3, 34] }, 3, "law.go:85", #[⟨3, .data⟩, ⟨4, .data⟩, ⟨2, .chain⟩, ⟨2, .guard⟩], some (2, false)⟩) rfl (fun K hK => ?_) AllReadyH.nil
      go_simp
      (with_reducible refine (end_p _ _ _ _ _ _ (H.nx (Ex.refl y3).drew) (by omega)).mono ?_)
      rintro e y4 ⟨rfl, k4⟩
      replace k4 : Ex y3.drew y4 := k4
      rw [g2]
      have S4 := S.nx ((Ex.refl y3).drew.nx k4)
      have TG4 := TG.nx ((Ex.refl y3).drew.nx k4)
      refine hK.out _ _ k4 (fun _ => ?_)
      clear hK K
      try simp only [Act.put, List.setIfInBounds_toArray, List.set_cons_zero, List.set_cons_succ]
      refine wpAnyH_switch (S' := Ex y4) (fun _ hSw => Ex.nx k4 hSw) ?_
      clear hHeld
      have hHeld := Ex.refl y4
      refine wpAnyH_take (i := 8) (oi := ⟨some 84, .binOp .neq 3 (.tmp 81) (.tmp 83) 3, 4, "law.go:85", #[⟨5, .data⟩, ⟨7, .data⟩, ⟨2, .guard⟩], some (2, false)⟩) (v := ?_) rfl (by kernel_rfl) (by kernel_rfl) (by kernel_rfl) (fun _ _ _ h => h) (Or.inl ⟨by rfl, ?hyr1x8⟩) (by assumption) ?restr1x8
      case hyr1x8 => intro wq hSw; (go_simp); (try with_reducible rfl)
      try simp only [Act.put, List.setIfInBounds_toArray, List.set_cons_zero, List.set_cons_succ]
      refine wpAnyH_take (i := 9) (oi := ⟨some 85, .pick (.tmp 78) (.const (.bool true)) (.tmp 84), 4, "law.go:85", #[⟨2, .data⟩, ⟨8, .data⟩], none⟩) (v := ?_) rfl (by kernel_rfl) (by kernel_rfl) (by kernel_rfl) (fun _ _ _ h => h) (Or.inl ⟨by rfl, ?hyr1x9⟩) (by assumption) ?restr1x9
      case hyr1x9 => intro wq hSw; (go_simp); (try with_reducible rfl)
      try simp only [Act.put, List.setIfInBounds_toArray, List.set_cons_zero, List.set_cons_succ]
      refine wpAnyH_take (i := 10) (oi := ⟨some 86, .move (.tmp 85), 4, "law.go:85", #[⟨9, .data⟩, ⟨5, .chain⟩], none⟩) (v := ?_) rfl (by kernel_rfl) (by kernel_rfl) (by kernel_rfl) (fun _ _ _ h => h) (Or.inl ⟨by rfl, ?hyr1x10⟩) (by assumption) ?restr1x10
      case hyr1x10 => intro wq hSw; (go_simp); (try with_reducible rfl)
      try simp only [Act.put, List.setIfInBounds_toArray, List.set_cons_zero, List.set_cons_succ]
      refine wpAnyH_take (i := 11) (oi := ⟨some 87, .move (.tmp 13), 34, "law.go:85", #[⟨10, .guard⟩], some (10, false)⟩) (v := ?_) rfl (by kernel_rfl) (by kernel_rfl) (by kernel_rfl) (fun _ _ _ h => h) (Or.inl ⟨by rfl, ?hyr1x11⟩) (by assumption) ?restr1x11
      case hyr1x11 => intro wq hSw; (go_simp); (try with_reducible rfl)
      try simp only [Act.put, List.setIfInBounds_toArray, List.set_cons_zero, List.set_cons_succ]
      refine wpAnyH_take (i := 12) (oi := ⟨some 88, .call { callee := .builtin .len, args := #[.tmp 87], argTypes := #[34] }, 3, "law.go:85", #[⟨11, .data⟩, ⟨10, .guard⟩], some (10, false)⟩) (v := ?_) rfl (by kernel_rfl) (by kernel_rfl) (by kernel_rfl) (fun _ _ _ h => h) (Or.inl ⟨by rfl, ?hyr1x12⟩) (by assumption) ?restr1x12
      case hyr1x12 => intro wq hSw; (go_simp); (try with_reducible rfl)
      try simp only [Act.put, List.setIfInBounds_toArray, List.set_cons_zero, List.set_cons_succ]
      refine wpAnyH_take (i := 13) (oi := ⟨some 89, .move (.tmp 6), 23, "law.go:85", #[⟨10, .guard⟩], some (10, false)⟩) (v := ?_) rfl (by kernel_rfl) (by kernel_rfl) (by kernel_rfl) (fun _ _ _ h => h) (Or.inl ⟨by rfl, ?hyr1x13⟩) (by assumption) ?restr1x13
      case hyr1x13 => intro wq hSw; (go_simp); (try with_reducible rfl)
      try simp only [Act.put, List.setIfInBounds_toArray, List.set_cons_zero, List.set_cons_succ]
      refine wpAnyH_take (i := 14) (oi := ⟨some 90, .move (.tmp 12), 3, "law.go:85", #[⟨10, .guard⟩], some (10, false)⟩) (v := ?_) rfl (by kernel_rfl) (by kernel_rfl) (by kernel_rfl) (fun _ _ _ h => h) (Or.inl ⟨by rfl, ?hyr1x14⟩) (by assumption) ?restr1x14
      case hyr1x14 => intro wq hSw; (go_simp); (try with_reducible rfl)
      try simp only [Act.put, List.setIfInBounds_toArray, List.set_cons_zero, List.set_cons_succ]
      refine wpAnyH_ready (rs := [15]) (by kernel_rfl) (by simp) ?_
      refine AllReadyH.cons (o := ⟨some 91, .call { callee := .value (.func 31), args := #[.tmp 89, .tmp 90], argTypes := #[23, 3] }, 3, "law.go:85", #[⟨13, .data⟩, ⟨14, .data⟩, ⟨10, .chain⟩, ⟨10, .guard⟩], some (10, false)⟩) rfl (fun K hK => ?_) AllReadyH.nil
      go_simp
      (with_reducible refine (bound_p _ _ _ _ _ _ S4 (by omega) hcX hmX XW.out TG4).mono ?_)
      rintro e y5 ⟨rfl, k5⟩
      refine hK.out _ _ k5 (fun _ => ?_)
      clear hK K
      try simp only [Act.put, List.setIfInBounds_toArray, List.set_cons_zero, List.set_cons_succ]
      refine wpAnyH_switch (S' := Ex y5) (fun _ hSw => Ex.nx k5 hSw) ?_
      clear hHeld
      have hHeld := Ex.refl y5
      refine wpAnyH_take (i := 16) (oi := ⟨some 92, .binOp .gtr 3 (.tmp 88) (.tmp 91) 3, 4, "law.go:85", #[⟨12, .data⟩, ⟨15, .data⟩, ⟨10, .guard⟩], some (10, false)⟩) (v := ?_) rfl (by kernel_rfl) (by kernel_rfl) (by kernel_rfl) (fun _ _ _ h => h) (Or.inl ⟨by rfl, ?hyr1x16⟩) (by assumption) ?restr1x16
      case hyr1x16 => intro wq hSw; (go_simp); (try with_reducible rfl)
      try simp only [Act.put, List.setIfInBounds_toArray, List.set_cons_zero, List.set_cons_succ]
      refine wpAnyH_take (i := 17) (oi := ⟨some 93, .pick (.tmp 86) (.const (.bool true)) (.tmp 92), 4, "law.go:85", #[⟨10, .data⟩, ⟨16, .data⟩], none⟩) (v := ?_) rfl (by kernel_rfl) (by kernel_rfl) (by kernel_rfl) (fun _ _ _ h => h) (Or.inl ⟨by rfl, ?hyr1x17⟩) (by assumption) ?restr1x17
      case hyr1x17 => intro wq hSw; (go_simp); (try with_reducible rfl)
      try simp only [Act.put, List.setIfInBounds_toArray, List.set_cons_zero, List.set_cons_succ]
      refine wpAnyH_done (by kernel_rfl) ?_ _
      have FIN : Hid (CtRel b 2 w7 (.int .i64 ((k : Int) + 1)) y5) := Lib.hid (by have kx := E3.out.nx (((Ex.refl y3).drew.nx k4).nx k5); exact ⟨k + 1, by omega, by go_num, KW.out.nxb (kx.b b), TB.out.nx kx⟩)
      clear H S B15 TG k4 k5 S4 TG4
      go_wp2_with fail
      exact ⟨FIN.out, by simp [intOf]; omega⟩
    · skip
      have h1 : RT = ([], 1) := by rw [HRT.out, route_bad (.inr (by omega))]
      have h2 : (o, ok) = (Nd.zero, false) := by rw [HON.out, ownN_no (.inr (.inr (by omega)))]
      have hok : ok = false := by cases h2; rfl
      have hR2 : RT.2 = 1 := by rw [h1]
      have FIN : Hid (CtRel b 2 w7 (.int .i64 ((k : Int) + 1)) y3) := Lib.hid ⟨k + 1, by omega, by go_num, KW.out.nxb (EX.b b), TB.out.nx EX⟩
      subst hok
      clear h1 h2 H S B15 hq
      go_wp2_with fail
      exact ⟨FIN.out, by simp [intOf]; omega⟩
end Go.Proofs.YtjlmnegmkkpadaaDoor

/- The walk over SearchApproaches (printed by gen_l8.py). -/
namespace Go.Proofs.YtjlmnegmkkpadaaDoor
open Go.RowKit

theorem links6_t {b : Nat} (a : Option Addr) (n cp : Nat) (l : List Nd) (lev : Int) (w : World) (h : TK w b) (hs : Slb 3 encN b w a n l) (hn : n ≤ 100) (hw : ∀ x ∈ l, x.word < 4294967296) (hi : ∀ x ∈ l, I64 x.id) :
    Calls Tryd.prog 16 #[.pointer (some ⟨b, 0, none⟩), .slice a n cp, .int .i64 lev, .int .i64 6] w (LinksPost n 6 b w) := links_t a n cp l lev 6 w h hs hn (by omega) hw hi
theorem Exb.of_drew {b : Nat} {w w' : World} (h : Exb b w w') : Exb b w.drew w' := ⟨h.os, h.tape, h.output, h.size, h.block⟩
theorem bl_neb {a b : List UInt8} (h : Op.bytesLess a b = true) : (a == b) = false ∧ (b == a) = false := by
  have hne : a ≠ b := fun e => by rw [e, bytesLess_irrefl] at h; cases h
  exact ⟨by simpa using hne, by simpa using hne.symm⟩
/-- where the check of the hops stands -/
def ApRel (N : List Nd) (key : List UInt8) (right : Bool) (H : List Hop) (g : Nat) (w : World) (lv i : Value) (wr : World) : Prop :=
  ∃ (k : Nat) (x : Nd) (lev : Nat), k ≤ H.length ∧ i = .int .i64 k ∧ lv = .int .i64 lev ∧ lev ≤ 16 ∧ Blk wr g [.int .i64 x.id, .string x.key, .int .u32 x.word] 48 ∧ RouteOk N key right x lev (H.drop k) ∧ Exb g w wr
set_option maxRecDepth 100000 in
set_option maxHeartbeats 16000000 in
theorem searchapproaches_walk (a1 : Option Addr) (n1 c1 : Nat) (l1 : List Int) (w : World) (h1 : Sl 1 encI w a1 n1 l1) (hc1 : n1 ≤ c1) (hm1 : c1 ≤ maxLen) (hT : TabG w) (hL : LetG w) :
    Calls Tryd.prog 5 #[.slice a1 n1 c1] w fun e w' => e = .returned (.bool true) ∧ Ex w w' := by
  go_enter Tryd.func5, Tryd.ntmps5
  go_wp2_with fail
  refine (new_t _ _ _ l1 _ h1 hc1 hm1).mono ?_
  rintro e w1 ⟨rfl, T, kk, z1⟩
  obtain ⟨b, hb⟩ : ∃ b, b = w.heap.size := ⟨_, rfl⟩
  rw [← hb] at T ⊢
  have hgtw : 1 < w.heap.size := hT.lt
  have hgt : ¬ 1 = b := by have := hT.lt; omega
  have hgl : ¬ 0 = b := by have := hL.lt; omega
  have T1 : Hid (TabG w1) := Lib.hid (hT.nx kk)
  have L1 : Hid (LetG w1) := Lib.hid (hL.nx kk)
  have QL : Hid (Exl b w w1) := Lib.hid ⟨kk, by omega⟩
  clear h1 hT hL kk hb z1
  have hbo := T.lt
  go_wp2_with fail
  refine (some_n 8 _ T L1.out hgl (by omega) (by omega)).mono ?_
  clear T
  rintro e w2 ⟨v1, L, rfl, R, hL1⟩
  replace T1 := Lib.hid (T1.out.nxb hgt R.k)
  replace L1 := Lib.hid (L1.out.nxb hgl R.k)
  replace QL := Lib.hid (QL.out.nxb R.k)
  obtain ⟨aX, cX, rfl, SX, hcX, hmX, _⟩ := R.own.slf (fun _ => rfl)
  have SX := SX.slb hbo
  have RL := R.len
  have RC := Lib.hid R.ok
  have RN := Lib.hid (roster_ok R.ok)
  have XW := Lib.hid (fun x hx => (RN.out x hx).1.2.1)
  have T := R.tape
  clear R
  go_wp2_with fail
  refine (next_t 4 _ T (by omega) (by omega)).mono ?_
  clear T
  rintro e w3 ⟨r, rfl, r0, r1, T, kk⟩
  replace T1 := Lib.hid (T1.out.nxb hgt kk)
  replace L1 := Lib.hid (L1.out.nxb hgl kk)
  replace QL := Lib.hid (QL.out.nxb kk)
  replace SX := SX.nxb kk
  clear kk
  have hb3 := T.lt
  go_wp2_with fail
  refine (links6_t _ _ _ _ r _ T SX (by omega) XW.out (fun x hx => (RN.out x hx).1.1)).mono ?_
  clear T
  rintro e w4 ⟨vL, qs, X, rfl, ownX, okX, T, kk⟩
  replace T1 := Lib.hid (T1.out.nxb hgt kk)
  replace L1 := Lib.hid (L1.out.nxb hgl kk)
  replace QL := Lib.hid (QL.out.nxb kk)
  replace SX := SX.nxb kk
  clear kk
  have PX := okX.1
  have PX2 : Hid (∀ c ∈ X, c.2.length ≤ 9223372036854775807) := Lib.hid (fun c hc => Nat.le_trans (okX.2 c hc).2.1 (by omega))
  clear okX r0 r1
  go_upto_region 4 with fail
  refine wp_region_held_drew (S := Exb b w4.drew) (by kernel_rfl) (Exb.refl b _) (fun hHeld => ?_)
  refine wpAnyH_take (i := 0) (oi := ⟨some 27, .move (.tmp 4), 23, "law.go:97", #[], none⟩) (v := ?_) rfl (by kernel_rfl) (by kernel_rfl) (by kernel_rfl) (fun _ _ _ h => h) (Or.inl ⟨by rfl, ?hyr1x0⟩) (by assumption) ?restr1x0
  case hyr1x0 => intro wq hSw; (go_simp); (try with_reducible rfl)
  try simp only [Act.put, List.setIfInBounds_toArray, List.set_cons_zero, List.set_cons_succ]
  refine wpAnyH_take (i := 1) (oi := ⟨some 28, .move (.tmp 3), 25, "law.go:97", #[], none⟩) (v := ?_) rfl (by kernel_rfl) (by kernel_rfl) (by kernel_rfl) (fun _ _ _ h => h) (Or.inl ⟨by rfl, ?hyr1x1⟩) (by assumption) ?restr1x1
  case hyr1x1 => intro wq hSw; (go_simp); (try with_reducible rfl)
  try simp only [Act.put, List.setIfInBounds_toArray, List.set_cons_zero, List.set_cons_succ]
  refine wpAnyH_take (i := 2) (oi := ⟨some 29, .move (.tmp 4), 23, "law.go:97", #[], none⟩) (v := ?_) rfl (by kernel_rfl) (by kernel_rfl) (by kernel_rfl) (fun _ _ _ h => h) (Or.inl ⟨by rfl, ?hyr1x2⟩) (by assumption) ?restr1x2
  case hyr1x2 => intro wq hSw; (go_simp); (try with_reducible rfl)
  try simp only [Act.put, List.setIfInBounds_toArray, List.set_cons_zero, List.set_cons_succ]
  refine wpAnyH_take (i := 3) (oi := ⟨some 30, .call { callee := .builtin .len, args := #[.tmp 29], argTypes := #[23] }, 3, "law.go:97", #[⟨2, .data⟩], none⟩) (v := ?_) rfl (by kernel_rfl) (by kernel_rfl) (by kernel_rfl) (fun _ _ _ h => h) (Or.inl ⟨by rfl, ?hyr1x3⟩) (by assumption) ?restr1x3
  case hyr1x3 => intro wq hSw; (go_simp); (try with_reducible rfl)
  try simp only [Act.put, List.setIfInBounds_toArray, List.set_cons_zero, List.set_cons_succ]
  refine wpAnyH_take (i := 8) (oi := ⟨some 35, .move (.tmp 3), 25, "law.go:97", #[], none⟩) (v := ?_) rfl (by kernel_rfl) (by kernel_rfl) (by kernel_rfl) (fun _ _ _ h => h) (Or.inl ⟨by rfl, ?hyr1x8⟩) (by assumption) ?restr1x8
  case hyr1x8 => intro wq hSw; (go_simp); (try with_reducible rfl)
  try simp only [Act.put, List.setIfInBounds_toArray, List.set_cons_zero, List.set_cons_succ]
  refine wpAnyH_ready (rs := [4]) (by kernel_rfl) (by simp) ?_
  refine AllReadyH.cons (o := ⟨some 31, .call { callee := .value (.func 17), args := #[.tmp 28, .tmp 30], argTypes := #[25, 3] }, 3, "law.go:97", #[⟨1, .data⟩, ⟨3, .data⟩], none⟩) rfl (fun K hK => ?_) AllReadyH.nil
  go_simp
  refine (next_t (L.length : Int) _ (T.nx (Ex.refl w4).drew) (by omega) (by omega)).mono ?_
  rintro e w5 ⟨r, rfl, r0, r1, T5, k5⟩
  obtain ⟨j, rfl⟩ := Int.eq_ofNat_of_zero_le r0
  have hj : j < L.length := by omega
  have SX5 := (SX.nxb ((Ex.refl w4).drew.b b)).nxb k5
  obtain ⟨x1, o1, y, rfl, hx1, hy, hc1⟩ := Rd.at SX5 hj
  have e0 : w5.cell? ⟨x1, o1 + j * 3, none⟩ = some (.int .i64 y.id) := hc1 0 _ rfl
  have hneg : ¬ (j : Int) < 0 := by omega
  refine hK.out _ _ k5 (fun _ => ?_)
  clear hK K
  try simp only [Act.put, List.setIfInBounds_toArray, List.set_cons_zero, List.set_cons_succ]
  refine wpAnyH_switch (S' := Exb b w5) (fun _ hSw => Exb.nxb k5 hSw) ?_
  clear hHeld
  have hHeld := Exb.refl b w5
  refine wpAnyH_take (i := 5) (oi := ⟨some 32, .indexAddr 23 (.tmp 27) (.tmp 31), 0, "law.go:97", #[⟨0, .data⟩, ⟨4, .data⟩], none⟩) (v := ?_) rfl (by kernel_rfl) (by kernel_rfl) (by kernel_rfl) (fun _ _ _ h => h) (Or.inl ⟨by rfl, ?hyr1x5⟩) (by assumption) ?restr1x5
  case hyr1x5 => intro wq hSw; (go_simp); (try with_reducible rfl)
  try simp only [Act.put, List.setIfInBounds_toArray, List.set_cons_zero, List.set_cons_succ]
  refine wpAnyH_take (i := 6) (oi := ⟨some 33, .fieldAddr 48 (.tmp 32) 0, 0, "law.go:97", #[⟨5, .data⟩], none⟩) (v := ?_) rfl (by kernel_rfl) (by kernel_rfl) (by kernel_rfl) (fun _ _ _ h => h) (Or.inl ⟨by rfl, ?hyr1x6⟩) (by assumption) ?restr1x6
  case hyr1x6 => intro wq hSw; (go_simp); (try with_reducible rfl)
  try simp only [Act.put, List.setIfInBounds_toArray, List.set_cons_zero, List.set_cons_succ]
  refine wpAnyH_take (i := 7) (oi := ⟨some 34, .load 3 (.tmp 33), 3, "law.go:97", #[⟨6, .data⟩], none⟩) (v := ?_) rfl (by kernel_rfl) (by kernel_rfl) (by kernel_rfl) (fun _ _ _ h => h) (Or.inl ⟨by rfl, ?hyr1x7⟩) (by assumption) ?restr1x7
  case hyr1x7 => intro wq hSw; (have cq := Chg.cellv hSw e0 hx1; go_simp); (try with_reducible rfl)
  try simp only [Act.put, List.setIfInBounds_toArray, List.set_cons_zero, List.set_cons_succ]
  refine wpAnyH_ready (rs := [9]) (by kernel_rfl) (by simp) ?_
  refine AllReadyH.cons (o := ⟨some 36, .call { callee := .value (.func 34), args := #[.tmp 35], argTypes := #[25] }, 9, "law.go:97", #[⟨8, .data⟩, ⟨4, .chain⟩], none⟩) rfl (fun K hK => ?_) AllReadyH.nil
  go_simp
  refine (key_t _ T5 (L1.out.nxb hgl (((Ex.refl w4).drew.b b).nxb k5)) hgl).mono ?_
  rintro e w6 ⟨KY, rfl, hKY, T6, k6⟩
  refine hK.out _ _ k6 (fun _ => ?_)
  clear hK K
  try simp only [Act.put, List.setIfInBounds_toArray, List.set_cons_zero, List.set_cons_succ]
  refine wpAnyH_switch (S' := Exb b w6) (fun _ hSw => Exb.nxb k6 hSw) ?_
  clear hHeld
  have hHeld := Exb.refl b w6
  refine wpAnyH_take (i := 10) (oi := ⟨some 6, .assign (.tmp 34), 3, "law.go:97", #[⟨7, .data⟩, ⟨9, .chain⟩, ⟨0, .phase⟩, ⟨1, .phase⟩, ⟨2, .phase⟩, ⟨3, .phase⟩, ⟨4, .phase⟩, ⟨5, .phase⟩, ⟨6, .phase⟩, ⟨7, .phase⟩, { on := 8, ground := Ground.textOnly Departure.lateStores }, { on := 9, ground := Ground.textOnly Departure.lateStoresUnsure }], none⟩) (v := ?_) rfl (by kernel_rfl) (by kernel_rfl) (by kernel_rfl) (fun _ _ _ h => h) (Or.inl ⟨by rfl, ?hyr1x10⟩) (by assumption) ?restr1x10
  case hyr1x10 => intro wq hSw; (go_simp); (try with_reducible rfl)
  try simp only [Act.put, List.setIfInBounds_toArray, List.set_cons_zero, List.set_cons_succ]
  refine wpAnyH_take (i := 11) (oi := ⟨some 7, .assign (.tmp 36), 9, "law.go:97", #[⟨9, .data⟩, ⟨10, .chain⟩, ⟨0, .phase⟩, ⟨1, .phase⟩, ⟨2, .phase⟩, ⟨3, .phase⟩, ⟨4, .phase⟩, ⟨5, .phase⟩, ⟨6, .phase⟩, ⟨7, .phase⟩, ⟨8, .phase⟩, ⟨9, .phase⟩, ⟨10, .phase⟩], none⟩) (v := ?_) rfl (by kernel_rfl) (by kernel_rfl) (by kernel_rfl) (fun _ _ _ h => h) (Or.inl ⟨by rfl, ?hyr1x11⟩) (by assumption) ?restr1x11
  case hyr1x11 => intro wq hSw; (go_simp); (try with_reducible rfl)
  try simp only [Act.put, List.setIfInBounds_toArray, List.set_cons_zero, List.set_cons_succ]
  refine wpAnyH_done (by kernel_rfl) ?_ _
  have kk : Exb b w4 w6 := (((Ex.refl w4).drew.b b).nxb k5).nxb k6
  have HYM := Lib.hid (List.mem_of_getElem? hy)
  clear T T5 T6 SX5 hc1 e0 hx1 r0 r1 hy k5 k6
  replace T1 := Lib.hid (T1.out.nxb hgt kk)
  replace L1 := Lib.hid (L1.out.nxb hgl kk)
  replace QL := Lib.hid (QL.out.nxb kk)
  replace SX := SX.nxb kk
  replace ownX := ownX.nxb hb3 kk
  clear kk
  have S := SX.sl
  have QX := QL.out.1
  have TG := T1.out
  obtain ⟨aP, cP, rfl, LK, _, _, _, _⟩ := OwnN.nl (encA := encI) (encB := encS) (s1 := 2) (s2 := 2) (fun _ => rfl) (fun _ => rfl) ownX
  have LK := Lib.hid LK
  clear SX ownX L1 QL T1
  have HA := appr_law (L := X) RC.out (k := KY) hKY HYM.out
  obtain ⟨HA1, HA2, HA3⟩ := HA
  have HA3 := Lib.hid HA3
  go_wp2_with fail
  (with_reducible refine (route_p _ _ _ _ _ _ _ _ _ _ _ S (by omega) hcX hmX LK.out (by omega) PX2.out).mono ?_)
  rintro e w7 ⟨v2, rfl, own, kk⟩
  replace S := S.nx kk
  replace LK := Lib.hid (LK.out.nx kk)
  replace QX := QX.nx kk
  replace TG := TG.nx kk
  clear kk
  obtain ⟨aH, cH, rfl, H, _, _, _⟩ := own.slf (fun _ => rfl)
  have H := H.sl
  obtain ⟨RT, hRT⟩ : ∃ RT, RT = routeN L X y.id KY := ⟨_, rfl⟩
  rw [← hRT] at H HA1 HA2 HA3 ⊢
  rw [HA1]
  have hRl : RT.1.length ≤ 64 := by have := check_len RC.out; omega
  clear own LK hRT
  go_wp2_with fail
  (with_reducible refine (find_p _ _ _ _ _ _ S (by omega)).mono ?_)
  rintro e w8 ⟨rfl, kk⟩
  replace S := S.nx kk
  replace QX := QX.nx kk
  replace TG := TG.nx kk
  replace H := H.nx kk
  clear kk
  rw [find_in RC.out HYM.out]
  unfold Nd.val
  simp only
  have QXs : w.heap.size ≤ w8.heap.size := QX.size
  have B10 := Blk.new w8 [.int .i64 y.id, .string y.key, .int .u32 y.word] 48
  have kk := Ex.new w8 (.cells #[.int .i64 y.id, .string y.key, .int .u32 y.word] 48)
  obtain ⟨w9, hw9⟩ : ∃ w9, w9 = w8.alloc (.cells #[.int .i64 y.id, .string y.key, .int .u32 y.word] 48) := ⟨_, rfl⟩
  obtain ⟨g10, hg10⟩ : ∃ g10, g10 = w8.heap.size := ⟨_, rfl⟩
  replace B10 : Blk w9 g10 [.int .i64 y.id, .string y.key, .int .u32 y.word] 48 := by rw [hw9, hg10]; exact B10
  rw [← hw9] at kk
  have Hw9 := Lib.hid hw9
  have Hg10 := Lib.hid hg10
  replace QX := QX.nx kk
  replace TG := TG.nx kk
  have hz8 : w.heap.size ≤ w8.heap.size := QXs
  have H := Lib.hid ((H.slb (show w8.heap.size ≤ g10 by omega)).nxb (kk.b g10))
  have S := Lib.hid ((S.slb (show w8.heap.size ≤ g10 by omega)).nxb (kk.b g10))
  have hzg : w.heap.size ≤ g10 := by omega
  have hgt10 : ¬ 1 = g10 := by omega
  clear kk hw9 hg10
  go_upto_region 7 with fail
  rw [← Hg10.out, ← Hw9.out]
  clear Hg10 Hw9
  have hlen : ¬ (L.length : Int) ≤ (RT.1.length : Int) := by omega
  have b1 := B10.cell 1 _ rfl
  go_upto_region 10 with fail
  generalize hr : (!Op.bytesLess KY.toList y.key.toList) = right at HA3 ⊢
  clear hr
  have TG := Lib.hid TG
  have QX := Lib.hid QX
  have ST : Hid (ApRel L KY.toList right RT.1 g10 w9 (.int .i64 16) (.int .i64 0) w9) := Lib.hid ⟨0, y, 16, by omega, rfl, rfl, by omega, B10, HA3.out, Exb.refl _ _⟩
  clear B10 HA3 HA1 HA2
  go_wp2_with fail
  go_loopw [13, 14] (fun lv i wr => ApRel L KY.toList right RT.1 g10 w9 lv i wr) (fun _ i _ => RT.1.length - (intOf i).toNat)
  case atStart => exact ST.out
  case round =>
    clear ST b1 hlen
    obtain ⟨k, x, lev, hk, rfl, rfl, hl16, B10, HO, kw⟩ := hrel
    obtain ⟨wo, rfl⟩ : ∃ wo : World, wo = wr := ⟨_, rfl⟩
    by_cases hlt : k < RT.1.length
    case neg =>
      obtain rfl : k = RT.1.length := by omega
      have TG := TG.out.nxb hgt10 kw
      have QX := Lib.hid (Exl.nxb (b := g10) (w := w) ⟨QX.out, hzg⟩ kw).1
      clear hk hlt kw B10 HO
      go_wp2_with fail
      (with_reducible refine (sane8_x _ TG).mono ?_)
      rintro e w9 ⟨rfl, kk⟩
      go_wp2_with fail
      go_ret
      exact ⟨rfl, QX.out.nx kk⟩
    have S := (S.out.nxb kw).sl
    have HH := H.out.nxb kw
    obtain ⟨x1, o1, h, rfl, hx1, hh, hc1⟩ := Rd.at HH hlt
    have hdrop : RT.1.drop k = h :: RT.1.drop (k + 1) := by
      rw [List.drop_eq_getElem_cons hlt]
      congr 1
      exact (List.getElem?_eq_some_iff.1 hh).2 
    rw [hdrop] at HO
    obtain ⟨z, lq, hzL, rfl, hlq, hdir, HO2⟩ := HO
    have e0 : wo.cell? ⟨x1, o1 + k * 3, none⟩ = some (.int .i64 x.id) := hc1 0 _ rfl
    have e1 : wo.cell? ⟨x1, o1 + k * 3 + 1, none⟩ = some (.int .i64 z.id) := hc1 1 _ rfl
    have e2 : wo.cell? ⟨x1, o1 + k * 3 + 1 + 1, none⟩ = some (.int .i64 (lq : Int)) := by simpa [Nat.add_assoc] using hc1 2 _ rfl
    have hk0 : ¬ (k : Int) < 0 := by omega
    have KW := Lib.hid kw
    have HHh := Lib.hid HH
    have HO2 := Lib.hid HO2
    have HD := Lib.hid hdir
    have hrest : RT.1.drop (k + 1) = [] → k + 1 = RT.1.length := fun h => by have := congrArg List.length h; simp at this; omega
    have HRS := Lib.hid hrest
    clear hc1 hh hdrop HH hdir kw hrest
    go_wp2_with fail
    (with_reducible refine (find_p _ _ _ _ _ _ S (by omega)).mono ?_)
    rintro e y1 ⟨rfl, kk⟩
    replace B10 := B10.nx kk
    rw [find_in RC.out hzL]
    unfold Nd.val
    simp only
    have KW := Lib.hid (KW.out.nxb (kk.b g10))
    have HHh := Lib.hid (HHh.out.nxb (kk.b g10))
    have e0 := Chg.cellv kk e0 hx1.1
    have e1 := Chg.cellv kk e1 hx1.1
    have e2 := Chg.cellv kk e2 hx1.1
    have hx1 : x1 < y1.heap.size ∧ x1 ≠ g10 := ⟨Nat.lt_of_lt_of_le hx1.1 (Ex.size kk), hx1.2⟩
    clear kk S
    have hg10y := B10.lt
    have B15 := Blk.new y1 [.int .i64 z.id, .string z.key, .int .u32 z.word] 48
    have kk := Ex.new y1 (.cells #[.int .i64 z.id, .string z.key, .int .u32 z.word] 48)
    obtain ⟨y2, hy2⟩ : ∃ y2, y2 = y1.alloc (.cells #[.int .i64 z.id, .string z.key, .int .u32 z.word] 48) := ⟨_, rfl⟩
    obtain ⟨g15, hg15⟩ : ∃ g15, g15 = y1.heap.size := ⟨_, rfl⟩
    replace B15 : Blk y2 g15 [.int .i64 z.id, .string z.key, .int .u32 z.word] 48 := by rw [hy2, hg15]; exact B15
    rw [← hy2] at kk
    have Hy2 := Lib.hid hy2
    have Hg15 := Lib.hid hg15
    replace B10 := B10.nx kk
    have KW := Lib.hid (KW.out.nxb (kk.b g10))
    have e0 := Chg.cellv kk e0 hx1.1
    have e1 := Chg.cellv kk e1 hx1.1
    have e2 := Chg.cellv kk e2 hx1.1
    have hx1 : x1 < y2.heap.size ∧ x1 ≠ g10 := ⟨Nat.lt_of_lt_of_le hx1.1 (Ex.size kk), hx1.2⟩
    have hne : g15 ≠ g10 := by omega
    clear kk hy2 hg15
    go_upto_region 15 with fail
    rw [← Hg15.out, ← Hy2.out]
    clear Hg15 Hy2
    obtain ⟨b0, b1, b2⟩ := blk3 B10
    obtain ⟨z0, z1, z2⟩ := blk3 B15
    have r0 := B10.free 0
    have r1 := B10.free 1
    have r2 := B10.free 2
    have HB := Lib.hid B10
    have HC := Lib.hid B15
    clear B10 B15
    have g1 : ¬ (lev : Int) < (lq : Int) := by omega
    have g2 : ¬ (lq : Int) < 0 := by omega
    have LEa : (Op.bytesLess z.key.toList KY.toList || z.key.toList == KY.toList) = !Op.bytesLess KY.toList z.key.toList := le_not _ _
    have LEb : (Op.bytesLess z.key.toList x.key.toList || z.key.toList == x.key.toList) = !Op.bytesLess x.key.toList z.key.toList := le_not _ _
    have LEc : (Op.bytesLess x.key.toList z.key.toList || x.key.toList == z.key.toList) = !Op.bytesLess z.key.toList x.key.toList := le_not _ _
    go_upto_region 15 with fail
    go_quiet (fail)
    go_upto_region 17 with fail
    obtain ⟨y3, hy3⟩ : ∃ y3, y3 = y2.drewN nq := ⟨_, rfl⟩
    have k3 : Ex y2 y3 := by rw [hy3]; exact (Ex.refl y2).drewN _
    rw [← hy3]
    have HB := Lib.hid (HB.out.nx k3)
    have HC := Lib.hid (HC.out.nx k3)
    have KW := Lib.hid (KW.out.nxb (k3.b g10))
    have e2 := Chg.cellv k3 e2 hx1.1
    have hx1 : x1 < y3.heap.size ∧ x1 ≠ g10 := ⟨Nat.lt_of_lt_of_le hx1.1 (Ex.size k3), hx1.2⟩
    clear e0 e1 b0 b1 b2 z0 z1 z2 r0 r1 r2 hy3 k3 g1 g2
    obtain ⟨b0, b1, b2⟩ := blk3 HB.out
    obtain ⟨z0, z1, z2⟩ := blk3 HC.out
    have r0 := HB.out.free 0
    have r1 := HB.out.free 1
    have r2 := HB.out.free 2
    have hz15 : g15 < y3.heap.size ∧ g15 ≠ g10 := ⟨HC.out.lt, hne⟩
    have hne2 : ¬ g15 = g10 := hne
    rcases HD.out with hd | ⟨hr0, hrest, hl0, hky, hzx⟩
    · skip
      unfold DirN at hd
      cases right with
      | true =>
        rw [if_pos rfl] at hd
        obtain ⟨f1, f2⟩ := hd
        have f3 := bl_asymm f1
        have f4 := (bl_neb f1).1
        have f5 := (bl_neb f1).2
        by_cases h1 : k + 1 = RT.1.length
        · have d1 : ((k : Int) == (RT.1.length : Int) - 1) = true := by simp; omega
          clear h1
          by_cases h2 : lq = 0
          · have d2 : ((lq : Int) == 0) = true := by simp; omega
            clear h2
            go_upto_region 20 with fail
            refine wp_region_held_drew (S := Exb g10 y3.drew) (by kernel_rfl) (Exb.refl g10 _) (fun hHeld => ?_)
            refine wpAnyH_take (i := 0) (oi := ⟨some 174, .load 48 (.tmp 15), 48, "law.go:114", #[], none⟩) (v := ?_) rfl (by kernel_rfl) (by kernel_rfl) (by kernel_rfl) (fun _ _ _ h => h) (Or.inl ⟨by rfl, ?hyr2x0⟩) (by assumption) ?restr2x0
            case hyr2x0 => intro wq hSw; (have c0 := Chg.cellv hSw z0 hz15; have c1 := Chg.cellv hSw z1 hz15; have c2 := Chg.cellv hSw z2 hz15; go_simp); (try with_reducible rfl)
            try simp only [Act.put, List.setIfInBounds_toArray, List.set_cons_zero, List.set_cons_succ]
            refine wpAnyH_take (i := 1) (oi := ⟨some 175, .move (.tmp 8), 34, "law.go:114", #[{ on := 6, ground := Ground.gcOnly Departure.lateStores }], none⟩) (v := ?_) rfl (by kernel_rfl) (by kernel_rfl) (by kernel_rfl) (fun _ _ _ h => h) (Or.inl ⟨by rfl, ?hyr2x1⟩) (by assumption) ?restr2x1
            case hyr2x1 => intro wq hSw; (go_simp); (try with_reducible rfl)
            try simp only [Act.put, List.setIfInBounds_toArray, List.set_cons_zero, List.set_cons_succ]
            refine wpAnyH_take (i := 2) (oi := ⟨some 176, .move (.tmp 14), 3, "law.go:114", #[{ on := 6, ground := Ground.gcOnly Departure.lateStores }], none⟩) (v := ?_) rfl (by kernel_rfl) (by kernel_rfl) (by kernel_rfl) (fun _ _ _ h => h) (Or.inl ⟨by rfl, ?hyr2x2⟩) (by assumption) ?restr2x2
            case hyr2x2 => intro wq hSw; (go_simp); (try with_reducible rfl)
            try simp only [Act.put, List.setIfInBounds_toArray, List.set_cons_zero, List.set_cons_succ]
            refine wpAnyH_take (i := 3) (oi := ⟨some 177, .indexAddr 34 (.tmp 175) (.tmp 176), 0, "law.go:114", #[⟨1, .data⟩, ⟨2, .data⟩, { on := 6, ground := Ground.gcOnly Departure.lateStores }], none⟩) (v := ?_) rfl (by kernel_rfl) (by kernel_rfl) (by kernel_rfl) (fun _ _ _ h => h) (Or.inl ⟨by rfl, ?hyr2x3⟩) (by assumption) ?restr2x3
            case hyr2x3 => intro wq hSw; (go_simp); (try with_reducible rfl)
            try simp only [Act.put, List.setIfInBounds_toArray, List.set_cons_zero, List.set_cons_succ]
            refine wpAnyH_take (i := 4) (oi := ⟨some 178, .fieldAddr 52 (.tmp 177) 2, 0, "law.go:114", #[⟨3, .data⟩, { on := 6, ground := Ground.gcOnly Departure.lateStores }], none⟩) (v := ?_) rfl (by kernel_rfl) (by kernel_rfl) (by kernel_rfl) (fun _ _ _ h => h) (Or.inl ⟨by rfl, ?hyr2x4⟩) (by assumption) ?restr2x4
            case hyr2x4 => intro wq hSw; (go_simp); (try with_reducible rfl)
            try simp only [Act.put, List.setIfInBounds_toArray, List.set_cons_zero, List.set_cons_succ]
            refine wpAnyH_take (i := 5) (oi := ⟨some 179, .load 3 (.tmp 178), 3, "law.go:114", #[⟨4, .data⟩, { on := 6, ground := Ground.gcOnly Departure.lateStores }], none⟩) (v := ?_) rfl (by kernel_rfl) (by kernel_rfl) (by kernel_rfl) (fun _ _ _ h => h) (Or.inl ⟨by rfl, ?hyr2x5⟩) (by assumption) ?restr2x5
            case hyr2x5 => intro wq hSw; (have cq := Chg.cellv hSw e2 hx1; go_simp); (try with_reducible rfl)
            try simp only [Act.put, List.setIfInBounds_toArray, List.set_cons_zero, List.set_cons_succ]
            refine wpAnyH_ready (rs := [6]) (by kernel_rfl) (by simp) ?_
            refine AllReadyH.cons (o := ⟨none, .store 48 (.tmp 10) (.tmp 174), 0, "law.go:114", #[⟨0, .data⟩, ⟨0, .phase⟩, { on := 1, ground := Ground.textOnly Departure.lateStores }, { on := 2, ground := Ground.textOnly Departure.lateStores }, { on := 3, ground := Ground.textOnly Departure.lateStores }, { on := 4, ground := Ground.textOnly Departure.lateStores }, { on := 5, ground := Ground.textOnly Departure.lateStores }], none⟩) rfl (fun K hK => ?_) AllReadyH.nil
            go_simp
            obtain ⟨y4, hy4⟩ : ∃ y4, y4 = (((y3.setCell ⟨g10, 0, none⟩ (.int .i64 z.id)).setCell ⟨g10, 1, none⟩ (.string z.key)).setCell ⟨g10, 2, none⟩ (.int .u32 z.word)).drew := ⟨_, rfl⟩
            rw [← hy4]
            have k4 : Exb g10 y3.drew y4 := (by rw [hy4]; exact Exb.of_drew ((((Exb.refl g10 y3).setB (p := ⟨g10, 0, none⟩) (.int .i64 z.id) rfl).setB (p := ⟨g10, 1, none⟩) (.string z.key) rfl).setB (p := ⟨g10, 2, none⟩) (.int .u32 z.word) rfl).drew)
            have BK : Blk y4 g10 [.int .i64 z.id, .string z.key, .int .u32 z.word] 48 := (by rw [hy4]; exact (((HB.out.set 0 _).set 1 _).set 2 _).nx (Ex.refl _).drew)
            refine hK.out _ _ k4 (fun _ => ?_)
            clear hK K
            try simp only [Act.put, List.setIfInBounds_toArray, List.set_cons_zero, List.set_cons_succ]
            refine wpAnyH_switch (S' := Exb g10 y4) (fun _ hSw => Exb.nxb k4 hSw) ?_
            clear hHeld
            have hHeld := Exb.refl g10 y4
            refine wpAnyH_take (i := 7) (oi := ⟨some 13, .assign (.tmp 179), 3, "law.go:114", #[⟨5, .data⟩, ⟨6, .chain⟩, ⟨0, .phase⟩, ⟨1, .phase⟩, ⟨2, .phase⟩, ⟨3, .phase⟩, ⟨4, .phase⟩, ⟨5, .phase⟩, ⟨6, .phase⟩], none⟩) (v := ?_) rfl (by kernel_rfl) (by kernel_rfl) (by kernel_rfl) (fun _ _ _ h => h) (Or.inl ⟨by rfl, ?hyr2x7⟩) (by assumption) ?restr2x7
            case hyr2x7 => intro wq hSw; (go_simp); (try with_reducible rfl)
            try simp only [Act.put, List.setIfInBounds_toArray, List.set_cons_zero, List.set_cons_succ]
            refine wpAnyH_done (by kernel_rfl) ?_ _
            have RR : Hid (ApRel L KY.toList true RT.1 g10 w9 (.int .i64 (lq : Int)) (.int .i64 ((k : Int) + 1)) y4) := Lib.hid ⟨k + 1, z, lq, by omega, by go_num, rfl, by omega, BK, HO2.out, (KW.out.drew).nxb k4⟩
            clear BK k4 hy4 z0 z1 z2 b0 b1 b2 r0 r1 r2
            go_wp2_with fail
            exact ⟨RR.out, by simp [intOf]; omega⟩
          · have d2 : ((lq : Int) == 0) = false := by simp; omega
            clear h2
            go_upto_region 20 with fail
            refine wp_region_held_drew (S := Exb g10 y3.drew) (by kernel_rfl) (Exb.refl g10 _) (fun hHeld => ?_)
            refine wpAnyH_take (i := 0) (oi := ⟨some 174, .load 48 (.tmp 15), 48, "law.go:114", #[], none⟩) (v := ?_) rfl (by kernel_rfl) (by kernel_rfl) (by kernel_rfl) (fun _ _ _ h => h) (Or.inl ⟨by rfl, ?hyr3x0⟩) (by assumption) ?restr3x0
            case hyr3x0 => intro wq hSw; (have c0 := Chg.cellv hSw z0 hz15; have c1 := Chg.cellv hSw z1 hz15; have c2 := Chg.cellv hSw z2 hz15; go_simp); (try with_reducible rfl)
            try simp only [Act.put, List.setIfInBounds_toArray, List.set_cons_zero, List.set_cons_succ]
            refine wpAnyH_take (i := 1) (oi := ⟨some 175, .move (.tmp 8), 34, "law.go:114", #[{ on := 6, ground := Ground.gcOnly Departure.lateStores }], none⟩) (v := ?_) rfl (by kernel_rfl) (by kernel_rfl) (by kernel_rfl) (fun _ _ _ h => h) (Or.inl ⟨by rfl, ?hyr3x1⟩) (by assumption) ?restr3x1
            case hyr3x1 => intro wq hSw; (go_simp); (try with_reducible rfl)
            try simp only [Act.put, List.setIfInBounds_toArray, List.set_cons_zero, List.set_cons_succ]
            refine wpAnyH_take (i := 2) (oi := ⟨some 176, .move (.tmp 14), 3, "law.go:114", #[{ on := 6, ground := Ground.gcOnly Departure.lateStores }], none⟩) (v := ?_) rfl (by kernel_rfl) (by kernel_rfl) (by kernel_rfl) (fun _ _ _ h => h) (Or.inl ⟨by rfl, ?hyr3x2⟩) (by assumption) ?restr3x2
            case hyr3x2 => intro wq hSw; (go_simp); (try with_reducible rfl)
            try simp only [Act.put, List.setIfInBounds_toArray, List.set_cons_zero, List.set_cons_succ]
            refine wpAnyH_take (i := 3) (oi := ⟨some 177, .indexAddr 34 (.tmp 175) (.tmp 176), 0, "law.go:114", #[⟨1, .data⟩, ⟨2, .data⟩, { on := 6, ground := Ground.gcOnly Departure.lateStores }], none⟩) (v := ?_) rfl (by kernel_rfl) (by kernel_rfl) (by kernel_rfl) (fun _ _ _ h => h) (Or.inl ⟨by rfl, ?hyr3x3⟩) (by assumption) ?restr3x3
            case hyr3x3 => intro wq hSw; (go_simp); (try with_reducible rfl)
            try simp only [Act.put, List.setIfInBounds_toArray, List.set_cons_zero, List.set_cons_succ]
            refine wpAnyH_take (i := 4) (oi := ⟨some 178, .fieldAddr 52 (.tmp 177) 2, 0, "law.go:114", #[⟨3, .data⟩, { on := 6, ground := Ground.gcOnly Departure.lateStores }], none⟩) (v := ?_) rfl (by kernel_rfl) (by kernel_rfl) (by kernel_rfl) (fun _ _ _ h => h) (Or.inl ⟨by rfl, ?hyr3x4⟩) (by assumption) ?restr3x4
            case hyr3x4 => intro wq hSw; (go_simp); (try with_reducible rfl)
            try simp only [Act.put, List.setIfInBounds_toArray, List.set_cons_zero, List.set_cons_succ]
            refine wpAnyH_take (i := 5) (oi := ⟨some 179, .load 3 (.tmp 178), 3, "law.go:114", #[⟨4, .data⟩, { on := 6, ground := Ground.gcOnly Departure.lateStores }], none⟩) (v := ?_) rfl (by kernel_rfl) (by kernel_rfl) (by kernel_rfl) (fun _ _ _ h => h) (Or.inl ⟨by rfl, ?hyr3x5⟩) (by assumption) ?restr3x5
            case hyr3x5 => intro wq hSw; (have cq := Chg.cellv hSw e2 hx1; go_simp); (try with_reducible rfl)
            try simp only [Act.put, List.setIfInBounds_toArray, List.set_cons_zero, List.set_cons_succ]
            refine wpAnyH_ready (rs := [6]) (by kernel_rfl) (by simp) ?_
            refine AllReadyH.cons (o := ⟨none, .store 48 (.tmp 10) (.tmp 174), 0, "law.go:114", #[⟨0, .data⟩, ⟨0, .phase⟩, { on := 1, ground := Ground.textOnly Departure.lateStores }, { on := 2, ground := Ground.textOnly Departure.lateStores }, { on := 3, ground := Ground.textOnly Departure.lateStores }, { on := 4, ground := Ground.textOnly Departure.lateStores }, { on := 5, ground := Ground.textOnly Departure.lateStores }], none⟩) rfl (fun K hK => ?_) AllReadyH.nil
            go_simp
            obtain ⟨y4, hy4⟩ : ∃ y4, y4 = (((y3.setCell ⟨g10, 0, none⟩ (.int .i64 z.id)).setCell ⟨g10, 1, none⟩ (.string z.key)).setCell ⟨g10, 2, none⟩ (.int .u32 z.word)).drew := ⟨_, rfl⟩
            rw [← hy4]
            have k4 : Exb g10 y3.drew y4 := (by rw [hy4]; exact Exb.of_drew ((((Exb.refl g10 y3).setB (p := ⟨g10, 0, none⟩) (.int .i64 z.id) rfl).setB (p := ⟨g10, 1, none⟩) (.string z.key) rfl).setB (p := ⟨g10, 2, none⟩) (.int .u32 z.word) rfl).drew)
            have BK : Blk y4 g10 [.int .i64 z.id, .string z.key, .int .u32 z.word] 48 := (by rw [hy4]; exact (((HB.out.set 0 _).set 1 _).set 2 _).nx (Ex.refl _).drew)
            refine hK.out _ _ k4 (fun _ => ?_)
            clear hK K
            try simp only [Act.put, List.setIfInBounds_toArray, List.set_cons_zero, List.set_cons_succ]
            refine wpAnyH_switch (S' := Exb g10 y4) (fun _ hSw => Exb.nxb k4 hSw) ?_
            clear hHeld
            have hHeld := Exb.refl g10 y4
            refine wpAnyH_take (i := 7) (oi := ⟨some 13, .assign (.tmp 179), 3, "law.go:114", #[⟨5, .data⟩, ⟨6, .chain⟩, ⟨0, .phase⟩, ⟨1, .phase⟩, ⟨2, .phase⟩, ⟨3, .phase⟩, ⟨4, .phase⟩, ⟨5, .phase⟩, ⟨6, .phase⟩], none⟩) (v := ?_) rfl (by kernel_rfl) (by kernel_rfl) (by kernel_rfl) (fun _ _ _ h => h) (Or.inl ⟨by rfl, ?hyr3x7⟩) (by assumption) ?restr3x7
            case hyr3x7 => intro wq hSw; (go_simp); (try with_reducible rfl)
            try simp only [Act.put, List.setIfInBounds_toArray, List.set_cons_zero, List.set_cons_succ]
            refine wpAnyH_done (by kernel_rfl) ?_ _
            have RR : Hid (ApRel L KY.toList true RT.1 g10 w9 (.int .i64 (lq : Int)) (.int .i64 ((k : Int) + 1)) y4) := Lib.hid ⟨k + 1, z, lq, by omega, by go_num, rfl, by omega, BK, HO2.out, (KW.out.drew).nxb k4⟩
            clear BK k4 hy4 z0 z1 z2 b0 b1 b2 r0 r1 r2
            go_wp2_with fail
            exact ⟨RR.out, by simp [intOf]; omega⟩
        · have d1 : ((k : Int) == (RT.1.length : Int) - 1) = false := by simp; omega
          clear h1
          go_upto_region 20 with fail
          refine wp_region_held_drew (S := Exb g10 y3.drew) (by kernel_rfl) (Exb.refl g10 _) (fun hHeld => ?_)
          refine wpAnyH_take (i := 0) (oi := ⟨some 174, .load 48 (.tmp 15), 48, "law.go:114", #[], none⟩) (v := ?_) rfl (by kernel_rfl) (by kernel_rfl) (by kernel_rfl) (fun _ _ _ h => h) (Or.inl ⟨by rfl, ?hyr4x0⟩) (by assumption) ?restr4x0
          case hyr4x0 => intro wq hSw; (have c0 := Chg.cellv hSw z0 hz15; have c1 := Chg.cellv hSw z1 hz15; have c2 := Chg.cellv hSw z2 hz15; go_simp); (try with_reducible rfl)
          try simp only [Act.put, List.setIfInBounds_toArray, List.set_cons_zero, List.set_cons_succ]
          refine wpAnyH_take (i := 1) (oi := ⟨some 175, .move (.tmp 8), 34, "law.go:114", #[{ on := 6, ground := Ground.gcOnly Departure.lateStores }], none⟩) (v := ?_) rfl (by kernel_rfl) (by kernel_rfl) (by kernel_rfl) (fun _ _ _ h => h) (Or.inl ⟨by rfl, ?hyr4x1⟩) (by assumption) ?restr4x1
          case hyr4x1 => intro wq hSw; (go_simp); (try with_reducible rfl)
          try simp only [Act.put, List.setIfInBounds_toArray, List.set_cons_zero, List.set_cons_succ]
          refine wpAnyH_take (i := 2) (oi := ⟨some 176, .move (.tmp 14), 3, "law.go:114", #[{ on := 6, ground := Ground.gcOnly Departure.lateStores }], none⟩) (v := ?_) rfl (by kernel_rfl) (by kernel_rfl) (by kernel_rfl) (fun _ _ _ h => h) (Or.inl ⟨by rfl, ?hyr4x2⟩) (by assumption) ?restr4x2
          case hyr4x2 => intro wq hSw; (go_simp); (try with_reducible rfl)
          try simp only [Act.put, List.setIfInBounds_toArray, List.set_cons_zero, List.set_cons_succ]
          refine wpAnyH_take (i := 3) (oi := ⟨some 177, .indexAddr 34 (.tmp 175) (.tmp 176), 0, "law.go:114", #[⟨1, .data⟩, ⟨2, .data⟩, { on := 6, ground := Ground.gcOnly Departure.lateStores }], none⟩) (v := ?_) rfl (by kernel_rfl) (by kernel_rfl) (by kernel_rfl) (fun _ _ _ h => h) (Or.inl ⟨by rfl, ?hyr4x3⟩) (by assumption) ?restr4x3
          case hyr4x3 => intro wq hSw; (go_simp); (try with_reducible rfl)
          try simp only [Act.put, List.setIfInBounds_toArray, List.set_cons_zero, List.set_cons_succ]
          refine wpAnyH_take (i := 4) (oi := ⟨some 178, .fieldAddr 52 (.tmp 177) 2, 0, "law.go:114", #[⟨3, .data⟩, { on := 6, ground := Ground.gcOnly Departure.lateStores }], none⟩) (v := ?_) rfl (by kernel_rfl) (by kernel_rfl) (by kernel_rfl) (fun _ _ _ h => h) (Or.inl ⟨by rfl, ?hyr4x4⟩) (by assumption) ?restr4x4
          case hyr4x4 => intro wq hSw; (go_simp); (try with_reducible rfl)
          try simp only [Act.put, List.setIfInBounds_toArray, List.set_cons_zero, List.set_cons_succ]
          refine wpAnyH_take (i := 5) (oi := ⟨some 179, .load 3 (.tmp 178), 3, "law.go:114", #[⟨4, .data⟩, { on := 6, ground := Ground.gcOnly Departure.lateStores }], none⟩) (v := ?_) rfl (by kernel_rfl) (by kernel_rfl) (by kernel_rfl) (fun _ _ _ h => h) (Or.inl ⟨by rfl, ?hyr4x5⟩) (by assumption) ?restr4x5
          case hyr4x5 => intro wq hSw; (have cq := Chg.cellv hSw e2 hx1; go_simp); (try with_reducible rfl)
          try simp only [Act.put, List.setIfInBounds_toArray, List.set_cons_zero, List.set_cons_succ]
          refine wpAnyH_ready (rs := [6]) (by kernel_rfl) (by simp) ?_
          refine AllReadyH.cons (o := ⟨none, .store 48 (.tmp 10) (.tmp 174), 0, "law.go:114", #[⟨0, .data⟩, ⟨0, .phase⟩, { on := 1, ground := Ground.textOnly Departure.lateStores }, { on := 2, ground := Ground.textOnly Departure.lateStores }, { on := 3, ground := Ground.textOnly Departure.lateStores }, { on := 4, ground := Ground.textOnly Departure.lateStores }, { on := 5, ground := Ground.textOnly Departure.lateStores }], none⟩) rfl (fun K hK => ?_) AllReadyH.nil
          go_simp
          obtain ⟨y4, hy4⟩ : ∃ y4, y4 = (((y3.setCell ⟨g10, 0, none⟩ (.int .i64 z.id)).setCell ⟨g10, 1, none⟩ (.string z.key)).setCell ⟨g10, 2, none⟩ (.int .u32 z.word)).drew := ⟨_, rfl⟩
          rw [← hy4]
          have k4 : Exb g10 y3.drew y4 := (by rw [hy4]; exact Exb.of_drew ((((Exb.refl g10 y3).setB (p := ⟨g10, 0, none⟩) (.int .i64 z.id) rfl).setB (p := ⟨g10, 1, none⟩) (.string z.key) rfl).setB (p := ⟨g10, 2, none⟩) (.int .u32 z.word) rfl).drew)
          have BK : Blk y4 g10 [.int .i64 z.id, .string z.key, .int .u32 z.word] 48 := (by rw [hy4]; exact (((HB.out.set 0 _).set 1 _).set 2 _).nx (Ex.refl _).drew)
          refine hK.out _ _ k4 (fun _ => ?_)
          clear hK K
          try simp only [Act.put, List.setIfInBounds_toArray, List.set_cons_zero, List.set_cons_succ]
          refine wpAnyH_switch (S' := Exb g10 y4) (fun _ hSw => Exb.nxb k4 hSw) ?_
          clear hHeld
          have hHeld := Exb.refl g10 y4
          refine wpAnyH_take (i := 7) (oi := ⟨some 13, .assign (.tmp 179), 3, "law.go:114", #[⟨5, .data⟩, ⟨6, .chain⟩, ⟨0, .phase⟩, ⟨1, .phase⟩, ⟨2, .phase⟩, ⟨3, .phase⟩, ⟨4, .phase⟩, ⟨5, .phase⟩, ⟨6, .phase⟩], none⟩) (v := ?_) rfl (by kernel_rfl) (by kernel_rfl) (by kernel_rfl) (fun _ _ _ h => h) (Or.inl ⟨by rfl, ?hyr4x7⟩) (by assumption) ?restr4x7
          case hyr4x7 => intro wq hSw; (go_simp); (try with_reducible rfl)
          try simp only [Act.put, List.setIfInBounds_toArray, List.set_cons_zero, List.set_cons_succ]
          refine wpAnyH_done (by kernel_rfl) ?_ _
          have RR : Hid (ApRel L KY.toList true RT.1 g10 w9 (.int .i64 (lq : Int)) (.int .i64 ((k : Int) + 1)) y4) := Lib.hid ⟨k + 1, z, lq, by omega, by go_num, rfl, by omega, BK, HO2.out, (KW.out.drew).nxb k4⟩
          clear BK k4 hy4 z0 z1 z2 b0 b1 b2 r0 r1 r2
          go_wp2_with fail
          exact ⟨RR.out, by simp [intOf]; omega⟩
      | false =>
        rw [if_neg (by simp)] at hd
        obtain ⟨f1, f2⟩ := hd
        have f3 := bl_asymm f1
        have f4 := (bl_neb f1).1
        have f5 := (bl_neb f1).2
        by_cases h1 : k + 1 = RT.1.length
        · have d1 : ((k : Int) == (RT.1.length : Int) - 1) = true := by simp; omega
          clear h1
          by_cases h2 : lq = 0
          · have d2 : ((lq : Int) == 0) = true := by simp; omega
            clear h2
            go_upto_region 20 with fail
            refine wp_region_held_drew (S := Exb g10 y3.drew) (by kernel_rfl) (Exb.refl g10 _) (fun hHeld => ?_)
            refine wpAnyH_take (i := 0) (oi := ⟨some 174, .load 48 (.tmp 15), 48, "law.go:114", #[], none⟩) (v := ?_) rfl (by kernel_rfl) (by kernel_rfl) (by kernel_rfl) (fun _ _ _ h => h) (Or.inl ⟨by rfl, ?hyr5x0⟩) (by assumption) ?restr5x0
            case hyr5x0 => intro wq hSw; (have c0 := Chg.cellv hSw z0 hz15; have c1 := Chg.cellv hSw z1 hz15; have c2 := Chg.cellv hSw z2 hz15; go_simp); (try with_reducible rfl)
            try simp only [Act.put, List.setIfInBounds_toArray, List.set_cons_zero, List.set_cons_succ]
            refine wpAnyH_take (i := 1) (oi := ⟨some 175, .move (.tmp 8), 34, "law.go:114", #[{ on := 6, ground := Ground.gcOnly Departure.lateStores }], none⟩) (v := ?_) rfl (by kernel_rfl) (by kernel_rfl) (by kernel_rfl) (fun _ _ _ h => h) (Or.inl ⟨by rfl, ?hyr5x1⟩) (by assumption) ?restr5x1
            case hyr5x1 => intro wq hSw; (go_simp); (try with_reducible rfl)
            try simp only [Act.put, List.setIfInBounds_toArray, List.set_cons_zero, List.set_cons_succ]
            refine wpAnyH_take (i := 2) (oi := ⟨some 176, .move (.tmp 14), 3, "law.go:114", #[{ on := 6, ground := Ground.gcOnly Departure.lateStores }], none⟩) (v := ?_) rfl (by kernel_rfl) (by kernel_rfl) (by kernel_rfl) (fun _ _ _ h => h) (Or.inl ⟨by rfl, ?hyr5x2⟩) (by assumption) ?restr5x2
            case hyr5x2 => intro wq hSw; (go_simp); (try with_reducible rfl)
            try simp only [Act.put, List.setIfInBounds_toArray, List.set_cons_zero, List.set_cons_succ]
            refine wpAnyH_take (i := 3) (oi := ⟨some 177, .indexAddr 34 (.tmp 175) (.tmp 176), 0, "law.go:114", #[⟨1, .data⟩, ⟨2, .data⟩, { on := 6, ground := Ground.gcOnly Departure.lateStores }], none⟩) (v := ?_) rfl (by kernel_rfl) (by kernel_rfl) (by kernel_rfl) (fun _ _ _ h => h) (Or.inl ⟨by rfl, ?hyr5x3⟩) (by assumption) ?restr5x3
            case hyr5x3 => intro wq hSw; (go_simp); (try with_reducible rfl)
            try simp only [Act.put, List.setIfInBounds_toArray, List.set_cons_zero, List.set_cons_succ]
            refine wpAnyH_take (i := 4) (oi := ⟨some 178, .fieldAddr 52 (.tmp 177) 2, 0, "law.go:114", #[⟨3, .data⟩, { on := 6, ground := Ground.gcOnly Departure.lateStores }], none⟩) (v := ?_) rfl (by kernel_rfl) (by kernel_rfl) (by kernel_rfl) (fun _ _ _ h => h) (Or.inl ⟨by rfl, ?hyr5x4⟩) (by assumption) ?restr5x4
            case hyr5x4 => intro wq hSw; (go_simp); (try with_reducible rfl)
            try simp only [Act.put, List.setIfInBounds_toArray, List.set_cons_zero, List.set_cons_succ]
            refine wpAnyH_take (i := 5) (oi := ⟨some 179, .load 3 (.tmp 178), 3, "law.go:114", #[⟨4, .data⟩, { on := 6, ground := Ground.gcOnly Departure.lateStores }], none⟩) (v := ?_) rfl (by kernel_rfl) (by kernel_rfl) (by kernel_rfl) (fun _ _ _ h => h) (Or.inl ⟨by rfl, ?hyr5x5⟩) (by assumption) ?restr5x5
            case hyr5x5 => intro wq hSw; (have cq := Chg.cellv hSw e2 hx1; go_simp); (try with_reducible rfl)
            try simp only [Act.put, List.setIfInBounds_toArray, List.set_cons_zero, List.set_cons_succ]
            refine wpAnyH_ready (rs := [6]) (by kernel_rfl) (by simp) ?_
            refine AllReadyH.cons (o := ⟨none, .store 48 (.tmp 10) (.tmp 174), 0, "law.go:114", #[⟨0, .data⟩, ⟨0, .phase⟩, { on := 1, ground := Ground.textOnly Departure.lateStores }, { on := 2, ground := Ground.textOnly Departure.lateStores }, { on := 3, ground := Ground.textOnly Departure.lateStores }, { on := 4, ground := Ground.textOnly Departure.lateStores }, { on := 5, ground := Ground.textOnly Departure.lateStores }], none⟩) rfl (fun K hK => ?_) AllReadyH.nil
            go_simp
            obtain ⟨y4, hy4⟩ : ∃ y4, y4 = (((y3.setCell ⟨g10, 0, none⟩ (.int .i64 z.id)).setCell ⟨g10, 1, none⟩ (.string z.key)).setCell ⟨g10, 2, none⟩ (.int .u32 z.word)).drew := ⟨_, rfl⟩
            rw [← hy4]
            have k4 : Exb g10 y3.drew y4 := (by rw [hy4]; exact Exb.of_drew ((((Exb.refl g10 y3).setB (p := ⟨g10, 0, none⟩) (.int .i64 z.id) rfl).setB (p := ⟨g10, 1, none⟩) (.string z.key) rfl).setB (p := ⟨g10, 2, none⟩) (.int .u32 z.word) rfl).drew)
            have BK : Blk y4 g10 [.int .i64 z.id, .string z.key, .int .u32 z.word] 48 := (by rw [hy4]; exact (((HB.out.set 0 _).set 1 _).set 2 _).nx (Ex.refl _).drew)
            refine hK.out _ _ k4 (fun _ => ?_)
            clear hK K
            try simp only [Act.put, List.setIfInBounds_toArray, List.set_cons_zero, List.set_cons_succ]
            refine wpAnyH_switch (S' := Exb g10 y4) (fun _ hSw => Exb.nxb k4 hSw) ?_
            clear hHeld
            have hHeld := Exb.refl g10 y4
            refine wpAnyH_take (i := 7) (oi := ⟨some 13, .assign (.tmp 179), 3, "law.go:114", #[⟨5, .data⟩, ⟨6, .chain⟩, ⟨0, .phase⟩, ⟨1, .phase⟩, ⟨2, .phase⟩, ⟨3, .phase⟩, ⟨4, .phase⟩, ⟨5, .phase⟩, ⟨6, .phase⟩], none⟩) (v := ?_) rfl (by kernel_rfl) (by kernel_rfl) (by kernel_rfl) (fun _ _ _ h => h) (Or.inl ⟨by rfl, ?hyr5x7⟩) (by assumption) ?restr5x7
            case hyr5x7 => intro wq hSw; (go_simp); (try with_reducible rfl)
            try simp only [Act.put, List.setIfInBounds_toArray, List.set_cons_zero, List.set_cons_succ]
            refine wpAnyH_done (by kernel_rfl) ?_ _
            have RR : Hid (ApRel L KY.toList false RT.1 g10 w9 (.int .i64 (lq : Int)) (.int .i64 ((k : Int) + 1)) y4) := Lib.hid ⟨k + 1, z, lq, by omega, by go_num, rfl, by omega, BK, HO2.out, (KW.out.drew).nxb k4⟩
            clear BK k4 hy4 z0 z1 z2 b0 b1 b2 r0 r1 r2
            go_wp2_with fail
            exact ⟨RR.out, by simp [intOf]; omega⟩
          · have d2 : ((lq : Int) == 0) = false := by simp; omega
            clear h2
            go_upto_region 20 with fail
            refine wp_region_held_drew (S := Exb g10 y3.drew) (by kernel_rfl) (Exb.refl g10 _) (fun hHeld => ?_)
            refine wpAnyH_take (i := 0) (oi := ⟨some 174, .load 48 (.tmp 15), 48, "law.go:114", #[], none⟩) (v := ?_) rfl (by kernel_rfl) (by kernel_rfl) (by kernel_rfl) (fun _ _ _ h => h) (Or.inl ⟨by rfl, ?hyr6x0⟩) (by assumption) ?restr6x0
            case hyr6x0 => intro wq hSw; (have c0 := Chg.cellv hSw z0 hz15; have c1 := Chg.cellv hSw z1 hz15; have c2 := Chg.cellv hSw z2 hz15; go_simp); (try with_reducible rfl)
            try simp only [Act.put, List.setIfInBounds_toArray, List.set_cons_zero, List.set_cons_succ]
            refine wpAnyH_take (i := 1) (oi := ⟨some 175, .move (.tmp 8), 34, "law.go:114", #[{ on := 6, ground := Ground.gcOnly Departure.lateStores }], none⟩) (v := ?_) rfl (by kernel_rfl) (by kernel_rfl) (by kernel_rfl) (fun _ _ _ h => h) (Or.inl ⟨by rfl, ?hyr6x1⟩) (by assumption) ?restr6x1
            case hyr6x1 => intro wq hSw; (go_simp); (try with_reducible rfl)
            try simp only [Act.put, List.setIfInBounds_toArray, List.set_cons_zero, List.set_cons_succ]
            refine wpAnyH_take (i := 2) (oi := ⟨some 176, .move (.tmp 14), 3, "law.go:114", #[{ on := 6, ground := Ground.gcOnly Departure.lateStores }], none⟩) (v := ?_) rfl (by kernel_rfl) (by kernel_rfl) (by kernel_rfl) (fun _ _ _ h => h) (Or.inl ⟨by rfl, ?hyr6x2⟩) (by assumption) ?restr6x2
            case hyr6x2 => intro wq hSw; (go_simp); (try with_reducible rfl)
            try simp only [Act.put, List.setIfInBounds_toArray, List.set_cons_zero, List.set_cons_succ]
            refine wpAnyH_take (i := 3) (oi := ⟨some 177, .indexAddr 34 (.tmp 175) (.tmp 176), 0, "law.go:114", #[⟨1, .data⟩, ⟨2, .data⟩, { on := 6, ground := Ground.gcOnly Departure.lateStores }], none⟩) (v := ?_) rfl (by kernel_rfl) (by kernel_rfl) (by kernel_rfl) (fun _ _ _ h => h) (Or.inl ⟨by rfl, ?hyr6x3⟩) (by assumption) ?restr6x3
            case hyr6x3 => intro wq hSw; (go_simp); (try with_reducible rfl)
            try simp only [Act.put, List.setIfInBounds_toArray, List.set_cons_zero, List.set_cons_succ]
            refine wpAnyH_take (i := 4) (oi := ⟨some 178, .fieldAddr 52 (.tmp 177) 2, 0, "law.go:114", #[⟨3, .data⟩, { on := 6, ground := Ground.gcOnly Departure.lateStores }], none⟩) (v := ?_) rfl (by kernel_rfl) (by kernel_rfl) (by kernel_rfl) (fun _ _ _ h => h) (Or.inl ⟨by rfl, ?hyr6x4⟩) (by assumption) ?restr6x4
            case hyr6x4 => intro wq hSw; (go_simp); (try with_reducible rfl)
            try simp only [Act.put, List.setIfInBounds_toArray, List.set_cons_zero, List.set_cons_succ]
            refine wpAnyH_take (i := 5) (oi := ⟨some 179, .load 3 (.tmp 178), 3, "law.go:114", #[⟨4, .data⟩, { on := 6, ground := Ground.gcOnly Departure.lateStores }], none⟩) (v := ?_) rfl (by kernel_rfl) (by kernel_rfl) (by kernel_rfl) (fun _ _ _ h => h) (Or.inl ⟨by rfl, ?hyr6x5⟩) (by assumption) ?restr6x5
            case hyr6x5 => intro wq hSw; (have cq := Chg.cellv hSw e2 hx1; go_simp); (try with_reducible rfl)
            try simp only [Act.put, List.setIfInBounds_toArray, List.set_cons_zero, List.set_cons_succ]
            refine wpAnyH_ready (rs := [6]) (by kernel_rfl) (by simp) ?_
            refine AllReadyH.cons (o := ⟨none, .store 48 (.tmp 10) (.tmp 174), 0, "law.go:114", #[⟨0, .data⟩, ⟨0, .phase⟩, { on := 1, ground := Ground.textOnly Departure.lateStores }, { on := 2, ground := Ground.textOnly Departure.lateStores }, { on := 3, ground := Ground.textOnly Departure.lateStores }, { on := 4, ground := Ground.textOnly Departure.lateStores }, { on := 5, ground := Ground.textOnly Departure.lateStores }], none⟩) rfl (fun K hK => ?_) AllReadyH.nil
            go_simp
            obtain ⟨y4, hy4⟩ : ∃ y4, y4 = (((y3.setCell ⟨g10, 0, none⟩ (.int .i64 z.id)).setCell ⟨g10, 1, none⟩ (.string z.key)).setCell ⟨g10, 2, none⟩ (.int .u32 z.word)).drew := ⟨_, rfl⟩
            rw [← hy4]
            have k4 : Exb g10 y3.drew y4 := (by rw [hy4]; exact Exb.of_drew ((((Exb.refl g10 y3).setB (p := ⟨g10, 0, none⟩) (.int .i64 z.id) rfl).setB (p := ⟨g10, 1, none⟩) (.string z.key) rfl).setB (p := ⟨g10, 2, none⟩) (.int .u32 z.word) rfl).drew)
            have BK : Blk y4 g10 [.int .i64 z.id, .string z.key, .int .u32 z.word] 48 := (by rw [hy4]; exact (((HB.out.set 0 _).set 1 _).set 2 _).nx (Ex.refl _).drew)
            refine hK.out _ _ k4 (fun _ => ?_)
            clear hK K
            try simp only [Act.put, List.setIfInBounds_toArray, List.set_cons_zero, List.set_cons_succ]
            refine wpAnyH_switch (S' := Exb g10 y4) (fun _ hSw => Exb.nxb k4 hSw) ?_
            clear hHeld
            have hHeld := Exb.refl g10 y4
            refine wpAnyH_take (i := 7) (oi := ⟨some 13, .assign (.tmp 179), 3, "law.go:114", #[⟨5, .data⟩, ⟨6, .chain⟩, ⟨0, .phase⟩, ⟨1, .phase⟩, ⟨2, .phase⟩, ⟨3, .phase⟩, ⟨4, .phase⟩, ⟨5, .phase⟩, ⟨6, .phase⟩], none⟩) (v := ?_) rfl (by kernel_rfl) (by kernel_rfl) (by kernel_rfl) (fun _ _ _ h => h) (Or.inl ⟨by rfl, ?hyr6x7⟩) (by assumption) ?restr6x7
            case hyr6x7 => intro wq hSw; (go_simp); (try with_reducible rfl)
            try simp only [Act.put, List.setIfInBounds_toArray, List.set_cons_zero, List.set_cons_succ]
            refine wpAnyH_done (by kernel_rfl) ?_ _
            have RR : Hid (ApRel L KY.toList false RT.1 g10 w9 (.int .i64 (lq : Int)) (.int .i64 ((k : Int) + 1)) y4) := Lib.hid ⟨k + 1, z, lq, by omega, by go_num, rfl, by omega, BK, HO2.out, (KW.out.drew).nxb k4⟩
            clear BK k4 hy4 z0 z1 z2 b0 b1 b2 r0 r1 r2
            go_wp2_with fail
            exact ⟨RR.out, by simp [intOf]; omega⟩
        · have d1 : ((k : Int) == (RT.1.length : Int) - 1) = false := by simp; omega
          clear h1
          go_upto_region 20 with fail
          refine wp_region_held_drew (S := Exb g10 y3.drew) (by kernel_rfl) (Exb.refl g10 _) (fun hHeld => ?_)
          refine wpAnyH_take (i := 0) (oi := ⟨some 174, .load 48 (.tmp 15), 48, "law.go:114", #[], none⟩) (v := ?_) rfl (by kernel_rfl) (by kernel_rfl) (by kernel_rfl) (fun _ _ _ h => h) (Or.inl ⟨by rfl, ?hyr7x0⟩) (by assumption) ?restr7x0
          case hyr7x0 => intro wq hSw; (have c0 := Chg.cellv hSw z0 hz15; have c1 := Chg.cellv hSw z1 hz15; have c2 := Chg.cellv hSw z2 hz15; go_simp); (try with_reducible rfl)
          try simp only [Act.put, List.setIfInBounds_toArray, List.set_cons_zero, List.set_cons_succ]
          refine wpAnyH_take (i := 1) (oi := ⟨some 175, .move (.tmp 8), 34, "law.go:114", #[{ on := 6, ground := Ground.gcOnly Departure.lateStores }], none⟩) (v := ?_) rfl (by kernel_rfl) (by kernel_rfl) (by kernel_rfl) (fun _ _ _ h => h) (Or.inl ⟨by rfl, ?hyr7x1⟩) (by assumption) ?restr7x1
          case hyr7x1 => intro wq hSw; (go_simp); (try with_reducible rfl)
          try simp only [Act.put, List.setIfInBounds_toArray, List.set_cons_zero, List.set_cons_succ]
          refine wpAnyH_take (i := 2) (oi := ⟨some 176, .move (.tmp 14), 3, "law.go:114", #[{ on := 6, ground := Ground.gcOnly Departure.lateStores }], none⟩) (v := ?_) rfl (by kernel_rfl) (by kernel_rfl) (by kernel_rfl) (fun _ _ _ h => h) (Or.inl ⟨by rfl, ?hyr7x2⟩) (by assumption) ?restr7x2
          case hyr7x2 => intro wq hSw; (go_simp); (try with_reducible rfl)
          try simp only [Act.put, List.setIfInBounds_toArray, List.set_cons_zero, List.set_cons_succ]
          refine wpAnyH_take (i := 3) (oi := ⟨some 177, .indexAddr 34 (.tmp 175) (.tmp 176), 0, "law.go:114", #[⟨1, .data⟩, ⟨2, .data⟩, { on := 6, ground := Ground.gcOnly Departure.lateStores }], none⟩) (v := ?_) rfl (by kernel_rfl) (by kernel_rfl) (by kernel_rfl) (fun _ _ _ h => h) (Or.inl ⟨by rfl, ?hyr7x3⟩) (by assumption) ?restr7x3
          case hyr7x3 => intro wq hSw; (go_simp); (try with_reducible rfl)
          try simp only [Act.put, List.setIfInBounds_toArray, List.set_cons_zero, List.set_cons_succ]
          refine wpAnyH_take (i := 4) (oi := ⟨some 178, .fieldAddr 52 (.tmp 177) 2, 0, "law.go:114", #[⟨3, .data⟩, { on := 6, ground := Ground.gcOnly Departure.lateStores }], none⟩) (v := ?_) rfl (by kernel_rfl) (by kernel_rfl) (by kernel_rfl) (fun _ _ _ h => h) (Or.inl ⟨by rfl, ?hyr7x4⟩) (by assumption) ?restr7x4
          case hyr7x4 => intro wq hSw; (go_simp); (try with_reducible rfl)
          try simp only [Act.put, List.setIfInBounds_toArray, List.set_cons_zero, List.set_cons_succ]
          refine wpAnyH_take (i := 5) (oi := ⟨some 179, .load 3 (.tmp 178), 3, "law.go:114", #[⟨4, .data⟩, { on := 6, ground := Ground.gcOnly Departure.lateStores }], none⟩) (v := ?_) rfl (by kernel_rfl) (by kernel_rfl) (by kernel_rfl) (fun _ _ _ h => h) (Or.inl ⟨by rfl, ?hyr7x5⟩) (by assumption) ?restr7x5
          case hyr7x5 => intro wq hSw; (have cq := Chg.cellv hSw e2 hx1; go_simp); (try with_reducible rfl)
          try simp only [Act.put, List.setIfInBounds_toArray, List.set_cons_zero, List.set_cons_succ]
          refine wpAnyH_ready (rs := [6]) (by kernel_rfl) (by simp) ?_
          refine AllReadyH.cons (o := ⟨none, .store 48 (.tmp 10) (.tmp 174), 0, "law.go:114", #[⟨0, .data⟩, ⟨0, .phase⟩, { on := 1, ground := Ground.textOnly Departure.lateStores }, { on := 2, ground := Ground.textOnly Departure.lateStores }, { on := 3, ground := Ground.textOnly Departure.lateStores }, { on := 4, ground := Ground.textOnly Departure.lateStores }, { on := 5, ground := Ground.textOnly Departure.lateStores }], none⟩) rfl (fun K hK => ?_) AllReadyH.nil
          go_simp
          obtain ⟨y4, hy4⟩ : ∃ y4, y4 = (((y3.setCell ⟨g10, 0, none⟩ (.int .i64 z.id)).setCell ⟨g10, 1, none⟩ (.string z.key)).setCell ⟨g10, 2, none⟩ (.int .u32 z.word)).drew := ⟨_, rfl⟩
          rw [← hy4]
          have k4 : Exb g10 y3.drew y4 := (by rw [hy4]; exact Exb.of_drew ((((Exb.refl g10 y3).setB (p := ⟨g10, 0, none⟩) (.int .i64 z.id) rfl).setB (p := ⟨g10, 1, none⟩) (.string z.key) rfl).setB (p := ⟨g10, 2, none⟩) (.int .u32 z.word) rfl).drew)
          have BK : Blk y4 g10 [.int .i64 z.id, .string z.key, .int .u32 z.word] 48 := (by rw [hy4]; exact (((HB.out.set 0 _).set 1 _).set 2 _).nx (Ex.refl _).drew)
          refine hK.out _ _ k4 (fun _ => ?_)
          clear hK K
          try simp only [Act.put, List.setIfInBounds_toArray, List.set_cons_zero, List.set_cons_succ]
          refine wpAnyH_switch (S' := Exb g10 y4) (fun _ hSw => Exb.nxb k4 hSw) ?_
          clear hHeld
          have hHeld := Exb.refl g10 y4
          refine wpAnyH_take (i := 7) (oi := ⟨some 13, .assign (.tmp 179), 3, "law.go:114", #[⟨5, .data⟩, ⟨6, .chain⟩, ⟨0, .phase⟩, ⟨1, .phase⟩, ⟨2, .phase⟩, ⟨3, .phase⟩, ⟨4, .phase⟩, ⟨5, .phase⟩, ⟨6, .phase⟩], none⟩) (v := ?_) rfl (by kernel_rfl) (by kernel_rfl) (by kernel_rfl) (fun _ _ _ h => h) (Or.inl ⟨by rfl, ?hyr7x7⟩) (by assumption) ?restr7x7
          case hyr7x7 => intro wq hSw; (go_simp); (try with_reducible rfl)
          try simp only [Act.put, List.setIfInBounds_toArray, List.set_cons_zero, List.set_cons_succ]
          refine wpAnyH_done (by kernel_rfl) ?_ _
          have RR : Hid (ApRel L KY.toList false RT.1 g10 w9 (.int .i64 (lq : Int)) (.int .i64 ((k : Int) + 1)) y4) := Lib.hid ⟨k + 1, z, lq, by omega, by go_num, rfl, by omega, BK, HO2.out, (KW.out.drew).nxb k4⟩
          clear BK k4 hy4 z0 z1 z2 b0 b1 b2 r0 r1 r2
          go_wp2_with fail
          exact ⟨RR.out, by simp [intOf]; omega⟩
    · subst hr0
      have f3 := bl_asymm hzx
      have f4 := (bl_neb hzx).1
      have f5 := (bl_neb hzx).2
      have d1 : ((k : Int) == (RT.1.length : Int) - 1) = true := by have := HRS.out hrest; simp; omega
      have d2 : ((lq : Int) == 0) = true := by simp; omega
      clear hrest hl0
      go_upto_region 20 with fail
      refine wp_region_held_drew (S := Exb g10 y3.drew) (by kernel_rfl) (Exb.refl g10 _) (fun hHeld => ?_)
      refine wpAnyH_take (i := 0) (oi := ⟨some 174, .load 48 (.tmp 15), 48, "law.go:114", #[], none⟩) (v := ?_) rfl (by kernel_rfl) (by kernel_rfl) (by kernel_rfl) (fun _ _ _ h => h) (Or.inl ⟨by rfl, ?hyr8x0⟩) (by assumption) ?restr8x0
      case hyr8x0 => intro wq hSw; (have c0 := Chg.cellv hSw z0 hz15; have c1 := Chg.cellv hSw z1 hz15; have c2 := Chg.cellv hSw z2 hz15; go_simp); (try with_reducible rfl)
      try simp only [Act.put, List.setIfInBounds_toArray, List.set_cons_zero, List.set_cons_succ]
      refine wpAnyH_take (i := 1) (oi := ⟨some 175, .move (.tmp 8), 34, "law.go:114", #[{ on := 6, ground := Ground.gcOnly Departure.lateStores }], none⟩) (v := ?_) rfl (by kernel_rfl) (by kernel_rfl) (by kernel_rfl) (fun _ _ _ h => h) (Or.inl ⟨by rfl, ?hyr8x1⟩) (by assumption) ?restr8x1
      case hyr8x1 => intro wq hSw; (go_simp); (try with_reducible rfl)
      try simp only [Act.put, List.setIfInBounds_toArray, List.set_cons_zero, List.set_cons_succ]
      refine wpAnyH_take (i := 2) (oi := ⟨some 176, .move (.tmp 14), 3, "law.go:114", #[{ on := 6, ground := Ground.gcOnly Departure.lateStores }], none⟩) (v := ?_) rfl (by kernel_rfl) (by kernel_rfl) (by kernel_rfl) (fun _ _ _ h => h) (Or.inl ⟨by rfl, ?hyr8x2⟩) (by assumption) ?restr8x2
      case hyr8x2 => intro wq hSw; (go_simp); (try with_reducible rfl)
      try simp only [Act.put, List.setIfInBounds_toArray, List.set_cons_zero, List.set_cons_succ]
      refine wpAnyH_take (i := 3) (oi := ⟨some 177, .indexAddr 34 (.tmp 175) (.tmp 176), 0, "law.go:114", #[⟨1, .data⟩, ⟨2, .data⟩, { on := 6, ground := Ground.gcOnly Departure.lateStores }], none⟩) (v := ?_) rfl (by kernel_rfl) (by kernel_rfl) (by kernel_rfl) (fun _ _ _ h => h) (Or.inl ⟨by rfl, ?hyr8x3⟩) (by assumption) ?restr8x3
      case hyr8x3 => intro wq hSw; (go_simp); (try with_reducible rfl)
      try simp only [Act.put, List.setIfInBounds_toArray, List.set_cons_zero, List.set_cons_succ]
      refine wpAnyH_take (i := 4) (oi := ⟨some 178, .fieldAddr 52 (.tmp 177) 2, 0, "law.go:114", #[⟨3, .data⟩, { on := 6, ground := Ground.gcOnly Departure.lateStores }], none⟩) (v := ?_) rfl (by kernel_rfl) (by kernel_rfl) (by kernel_rfl) (fun _ _ _ h => h) (Or.inl ⟨by rfl, ?hyr8x4⟩) (by assumption) ?restr8x4
      case hyr8x4 => intro wq hSw; (go_simp); (try with_reducible rfl)
      try simp only [Act.put, List.setIfInBounds_toArray, List.set_cons_zero, List.set_cons_succ]
      refine wpAnyH_take (i := 5) (oi := ⟨some 179, .load 3 (.tmp 178), 3, "law.go:114", #[⟨4, .data⟩, { on := 6, ground := Ground.gcOnly Departure.lateStores }], none⟩) (v := ?_) rfl (by kernel_rfl) (by kernel_rfl) (by kernel_rfl) (fun _ _ _ h => h) (Or.inl ⟨by rfl, ?hyr8x5⟩) (by assumption) ?restr8x5
      case hyr8x5 => intro wq hSw; (have cq := Chg.cellv hSw e2 hx1; go_simp); (try with_reducible rfl)
      try simp only [Act.put, List.setIfInBounds_toArray, List.set_cons_zero, List.set_cons_succ]
      refine wpAnyH_ready (rs := [6]) (by kernel_rfl) (by simp) ?_
      refine AllReadyH.cons (o := ⟨none, .store 48 (.tmp 10) (.tmp 174), 0, "law.go:114", #[⟨0, .data⟩, ⟨0, .phase⟩, { on := 1, ground := Ground.textOnly Departure.lateStores }, { on := 2, ground := Ground.textOnly Departure.lateStores }, { on := 3, ground := Ground.textOnly Departure.lateStores }, { on := 4, ground := Ground.textOnly Departure.lateStores }, { on := 5, ground := Ground.textOnly Departure.lateStores }], none⟩) rfl (fun K hK => ?_) AllReadyH.nil
      go_simp
      obtain ⟨y4, hy4⟩ : ∃ y4, y4 = (((y3.setCell ⟨g10, 0, none⟩ (.int .i64 z.id)).setCell ⟨g10, 1, none⟩ (.string z.key)).setCell ⟨g10, 2, none⟩ (.int .u32 z.word)).drew := ⟨_, rfl⟩
      rw [← hy4]
      have k4 : Exb g10 y3.drew y4 := (by rw [hy4]; exact Exb.of_drew ((((Exb.refl g10 y3).setB (p := ⟨g10, 0, none⟩) (.int .i64 z.id) rfl).setB (p := ⟨g10, 1, none⟩) (.string z.key) rfl).setB (p := ⟨g10, 2, none⟩) (.int .u32 z.word) rfl).drew)
      have BK : Blk y4 g10 [.int .i64 z.id, .string z.key, .int .u32 z.word] 48 := (by rw [hy4]; exact (((HB.out.set 0 _).set 1 _).set 2 _).nx (Ex.refl _).drew)
      refine hK.out _ _ k4 (fun _ => ?_)
      clear hK K
      try simp only [Act.put, List.setIfInBounds_toArray, List.set_cons_zero, List.set_cons_succ]
      refine wpAnyH_switch (S' := Exb g10 y4) (fun _ hSw => Exb.nxb k4 hSw) ?_
      clear hHeld
      have hHeld := Exb.refl g10 y4
      refine wpAnyH_take (i := 7) (oi := ⟨some 13, .assign (.tmp 179), 3, "law.go:114", #[⟨5, .data⟩, ⟨6, .chain⟩, ⟨0, .phase⟩, ⟨1, .phase⟩, ⟨2, .phase⟩, ⟨3, .phase⟩, ⟨4, .phase⟩, ⟨5, .phase⟩, ⟨6, .phase⟩], none⟩) (v := ?_) rfl (by kernel_rfl) (by kernel_rfl) (by kernel_rfl) (fun _ _ _ h => h) (Or.inl ⟨by rfl, ?hyr8x7⟩) (by assumption) ?restr8x7
      case hyr8x7 => intro wq hSw; (go_simp); (try with_reducible rfl)
      try simp only [Act.put, List.setIfInBounds_toArray, List.set_cons_zero, List.set_cons_succ]
      refine wpAnyH_done (by kernel_rfl) ?_ _
      have RR : Hid (ApRel L KY.toList false RT.1 g10 w9 (.int .i64 (lq : Int)) (.int .i64 ((k : Int) + 1)) y4) := Lib.hid ⟨k + 1, z, lq, by omega, by go_num, rfl, by omega, BK, HO2.out, (KW.out.drew).nxb k4⟩
      clear BK k4 hy4 z0 z1 z2 b0 b1 b2 r0 r1 r2
      go_wp2_with fail
      exact ⟨RR.out, by simp [intOf]; omega⟩
end Go.Proofs.YtjlmnegmkkpadaaDoor

/- What the laid tables give the walks. -/
namespace Go.Proofs.YtjlmnegmkkpadaaDoor
open Go.RowKit

theorem Tryd.gTab : Tryd.prog.globalNamed "math/bits.deBruijn32tab" = some 1 := by kernel_rfl
theorem Tryd.tTab : (Tryd.prog.globals[1]?).map (·.type) = some 180 := by kernel_rfl
theorem Tryd.cells32 : Tryd.prog.cellsOf 180 = 32 := by kernel_rfl
theorem Tryd.cellsU8 : Tryd.prog.cellsOf 5 = 1 := by kernel_rfl
theorem laid_tab {H : Type} : (Rows.laid_math_bits_deBruijn32tab : DataW H) = Lib.tabData .u8 (Lib.deBruijn32tab.map fun (n : Nat) => (n : Int)) := rfl

theorem tabG_of {rest : List (String × DataW Unit)} {W : World} (h : laidMetH Tryd.prog (("math/bits.deBruijn32tab", Rows.laid_math_bits_deBruijn32tab) :: rest) W)
    (hp : ((("math/bits.deBruijn32tab", Rows.laid_math_bits_deBruijn32tab) :: rest).all fun x => x.2.handleName?.isNone) = true) : TabG W := by
  rw [MakeChecks.laidMetH_plain _ _ _ hp, laid_tab] at h
  have ht := Lib.tabIs_of_head Tryd.gTab Tryd.tTab Tryd.underlying180 Tryd.underlying5 Tryd.cellsU8 Tryd.cells32 h
  intro j hj
  have := ht.cell Tryd.gTab j (by simp [Lib.deBruijn32tab]; omega)
  rw [this]
  congr 2
  simp [List.getD, List.getElem?_map]
  cases h : Lib.deBruijn32tab[j]? <;> simp
end Go.Proofs.YtjlmnegmkkpadaaDoor

/- What the laid letters give the walks. -/
namespace Go.Proofs.YtjlmnegmkkpadaaDoor
open Go.RowKit

theorem Tryd.gLet : Tryd.prog.globalNamed "skipgraph/skipgraphworld.letters" = some 0 := by kernel_rfl
theorem Tryd.tLet : (Tryd.prog.globals[0]?).map (·.type) = some 94 := by kernel_rfl
theorem Tryd.cells6 : Tryd.prog.cellsOf 94 = 6 := by kernel_rfl
theorem Tryd.cellsStr : Tryd.prog.cellsOf 9 = 1 := by kernel_rfl
def letL : List (List UInt8) := [[97], [98], [99], [0], [255], [109]]

/-- AN ARRAY OF STRINGS THAT READS AS A LIST OF STRINGS HOLDS THEM, CELL FOR CELL. -/
theorem cells_of_strs {H : Type} {enc : TypeId × Value → H} {P : Program} {w : World} {base : Nat} {sp : Nat → Bool} {held : Bool} {fuel : Nat} {t e : TypeId} {n : Nat} {cs : List Value} {zs : List (List UInt8)} {p : List MemPlace}
    (ht : P.underlying t = some (.array n e)) (he : P.underlying e = some .string) (hce : P.cellsOf e = 1) (hct : P.cellsOf t = n)
    (h : DataW.trod enc P w base sp held fuel t cs = some (.agg (zs.map fun z => .lit (.string z)), p)) : ∀ (i : Nat) (z : List UInt8), zs[i]? = some z → ∃ s : ByteArray, s.data.toList = z ∧ cs[i]? = some (.string s) := by
  cases fuel with
  | zero => simp [DataW.trod] at h
  | succ fuel =>
    simp only [DataW.trod, ht, hce, hct, Nat.mul_one] at h
    split at h
    · rename_i hl
      obtain ⟨xs, hm, hx⟩ := Option.map_eq_some_iff.1 h
      have hxs : xs.map (·.1) = zs.map fun z => (DataW.lit (.string z) : DataW H) := by
        have := congrArg Prod.fst hx
        simpa using this
      have hxl : xs.length = n := by simpa using Lib.mapM_length hm
      have hzl : zs.length = n := by
        have := congrArg List.length hxs
        simp at this
        omega
      intro i z hz
      have hi : i < n := by have := (List.getElem?_eq_some_iff.1 hz).1; omega
      obtain ⟨b, hb, hf⟩ := Lib.mapM_at hm i i (by simp [hi])
      obtain ⟨s, hc, rfl, _⟩ := DataW.trod_string he hf
      have h1 : cs[i]? = some (.string s) := by
        have := congrArg (·[0]?) hc
        simpa [List.getElem?_take, List.getElem?_drop] using this
      have h2 : (xs.map (·.1))[i]? = some (DataW.lit (.string s.data.toList) : DataW H) := by simp [hb]
      rw [hxs] at h2
      simp only [List.getElem?_map, Option.map_eq_some_iff, DataW.lit.injEq, Lit.string.injEq] at h2
      obtain ⟨z', hz', hzz⟩ := h2
      have : z = z' := Option.some.inj (hz.symm.trans hz')
      exact ⟨s, by rw [this, hzz], h1⟩
    · cases h

theorem laid_let {H : Type} : (Rows.laid_skipgraph_skipgraphworld_letters : DataW H) = .agg (letL.map fun z => .lit (.string z)) := rfl
theorem letG_head {rest : List (String × DataW Unit)} {W : World} (h : laidMet Tryd.prog (("skipgraph/skipgraphworld.letters", .agg (letL.map fun z => .lit (.string z))) :: rest) W) : LetG W := by
  obtain ⟨ps, ⟨g', t', cs, fuel, p, q, hg', ht', hvar, hd, _, _⟩, _⟩ := h
  obtain rfl := Option.some.inj (Tryd.gLet.symm.trans hg')
  obtain rfl := Option.some.inj (Tryd.tLet.symm.trans ht')
  intro j hj
  obtain ⟨z, hz⟩ : ∃ z, letL[j]? = some z := ⟨letL[j]'(by simp [letL]; omega), by simp⟩
  obtain ⟨s, h1, h2⟩ := cells_of_strs Tryd.underlying94 Tryd.underlying9 Tryd.cellsStr Tryd.cells6 hd j z hz
  refine ⟨s, ?_, ?_⟩
  · have hl : z.length = 1 := by
      have : ∀ j, j < 6 → (letL[j]?.getD []).length = 1 := by decide
      have := this j hj
      rw [hz] at this
      exact this
    have : s.data.toList.length = 1 := by rw [h1]; exact hl
    rw [Array.length_toList] at this
    exact this
  · rw [World.var?_cell Tryd.gLet hvar j]
    simpa using h2
theorem letG_of {rest : List (String × DataW Unit)} {W : World} (h : laidMetH Tryd.prog (("skipgraph/skipgraphworld.letters", Rows.laid_skipgraph_skipgraphworld_letters) :: rest) W)
    (hp : ((("skipgraph/skipgraphworld.letters", Rows.laid_skipgraph_skipgraphworld_letters) :: rest).all fun x => x.2.handleName?.isNone) = true) : LetG W := by
  rw [MakeChecks.laidMetH_plain _ _ _ hp, laid_let] at h
  exact letG_head h
end Go.Proofs.YtjlmnegmkkpadaaDoor

/- The letters, where they are second on the list of what is laid. -/
namespace Go.Proofs.YtjlmnegmkkpadaaDoor
open Go.RowKit

theorem letG_second {x : String × DataW Unit} {W : World} (h : laidMetH Tryd.prog [x, ("skipgraph/skipgraphworld.letters", Rows.laid_skipgraph_skipgraphworld_letters)] W)
    (hp : ([x, ("skipgraph/skipgraphworld.letters", Rows.laid_skipgraph_skipgraphworld_letters)].all fun x => x.2.handleName?.isNone) = true) (hx : decide (x.1 = "skipgraph/skipgraphworld.letters") = false) : LetG W := by
  rw [MakeChecks.laidMetH_plain _ _ _ hp, laid_let] at h
  have h2 := h.filter (fun y => decide (y.1 = "skipgraph/skipgraphworld.letters"))
  rw [List.filter_cons_of_neg (by rw [hx]; simp), List.filter_cons_of_pos (by simp), List.filter_nil] at h2
  exact letG_head h2
end Go.Proofs.YtjlmnegmkkpadaaDoor

/- How the arguments of a statement are read: slices as lists. -/
namespace Go.Proofs.YtjlmnegmkkpadaaDoor
open Go.ChangeShapes Go.WideShapes Go.ChangeAt Go.RowKit Go.Deep Go.Joins

theorem own : ownKnob Tryd.prog.godebug = none := by kernel_rfl
theorem laidOut : laidOutB Tryd.prog = true := by kernel_rfl

section
variable {H : Type} {enc : TypeId × Value → H} {P : Program} {w : World} {base : Nat} {spare : Nat → Bool} {held : Bool}

theorem addr_lit {a : Addr} {v : Value} {w : World} (h : w.cell? (a.add 0) = some v) : a = ⟨a.block, a.off, none⟩ := by
  obtain ⟨b, o, s⟩ := a
  have : s = none := by simpa [Addr.add] using World.cell?_spot h
  subst this; rfl

/-- a slice of ints that came in -/
theorem rd_ints {t e : TypeId} {k : IntKind} {v : Value} {d : DataW H} {p : List MemPlace} {r : Reach} {b0 : Nat} (ht : P.underlying t = some (.slice e)) (he : P.underlying e = some (.int k)) (hC : P.cellsOf e = 1)
    (hv : Value.okWide P w r b0 t v) (h : DataW.Trod enc P w base spare held t v d p) :
    ∃ a n c l, v = .slice a n c ∧ Rd 1 (fun x : Int => [Value.int k x]) (· < w.heap.size) w a n l ∧ n ≤ c ∧ c ≤ maxLen ∧ (∀ x ∈ l, (Lit.int k x).wf = true) ∧ (a = none → c = 0) := by
  obtain ⟨a0, len0, cap0, rfl⟩ := okWide_slice ht hv
  obtain ⟨fuel, hf⟩ := h
  rcases open_ints ht he hC hf with ⟨hcs, _⟩ | ⟨x, l, c, zs, hcs, _, hl, hm, hz, _, hcell, hwz⟩
  · simp [Value.cells] at hcs
    obtain ⟨rfl, rfl, rfl⟩ := hcs
    exact ⟨none, 0, 0, [], rfl, Rd.nil _ _ _ _ _, by omega, by unfold maxLen; omega, by simp, fun _ => rfl⟩
  · simp [Value.cells] at hcs
    obtain ⟨rfl, rfl, rfl⟩ := hcs
    have hz' : len0 ≤ zs.length := by rw [hz]; split <;> omega
    refine ⟨_, len0, cap0, zs.take len0, rfl, ⟨by simp; omega, ?_⟩, hl, hm, fun y hy => hwz y (List.mem_of_mem_take hy), fun h => by cases h⟩
    rcases Nat.eq_zero_or_pos len0 with h0 | h0
    · exact .inl h0
    · have hx := addr_lit (hcell 0 (by omega))
      refine .inr ⟨x.block, x.off, by rw [← hx], ?_, fun j y hj c u hu => ?_⟩
      · have := World.block_lt_of_cell? w _ (hcell 0 (by omega))
        rw [hx] at this
        simpa [Addr.add] using this
      · have hj' : j < len0 := by
          have := (List.getElem?_eq_some_iff.1 hj).1
          simp at this; omega
        have hy : zs.getD j 0 = y := by
          rw [List.getElem?_take, if_pos hj'] at hj
          simp [List.getD, hj]
        have hc := hcell j (by omega)
        rw [hx, Addr.add_lit, hy] at hc
        rcases c with _ | c
        · simp at hu; subst hu; simpa using hc
        · simp at hu

theorem open_slice_fields {t e : TypeId} {fs : Array Field} {fuel : Nat} {cs : List Value} {x : DataW H × List MemPlace} (ht : P.underlying t = some (.slice e)) (he : P.underlying e = some (.struct fs))
    (hone : oneCellFields P fs = true) (hC : P.cellsOf e = fs.size) (h : DataW.trod enc P w base spare held fuel t cs = some x) :
    (cs = [.slice none 0 0] ∧ x = (.nil, [])) ∨
    ∃ (a : Addr) (len cap m : Nat), cs = [.slice (some a) len cap] ∧ len ≤ cap ∧ cap ≤ maxLen ∧ m = (if spare a.block then cap else len) ∧
      ∀ i, i < m → ∃ (n : Nat), ∀ (j : Nat) (f : Field), fs[j]? = some f → ∃ (v : Value) (y : DataW H × List MemPlace), w.cell? (a.add (i * fs.size + j)) = some v ∧ DataW.trod enc P w base spare held n f.type [v] = some y := by
  rcases open_slice ht h with h0 | ⟨a, len, cap, m, n, D, Pl, hcs, hb, hl, hm, hmm, hx, hi⟩
  · exact .inl h0
  · refine .inr ⟨a, len, cap, m, hcs, hl, hm, hmm, fun i him => ?_⟩
    obtain ⟨cs', hc, ht'⟩ := hi i him
    rw [hC] at hc
    obtain ⟨ys, n', hn', hy, hlen, hyl, hf⟩ := DataW.trod_struct he ht'
    obtain ⟨_, hcl, hat⟩ := World.cells?_some hc
    refine ⟨n', fun j f hj => ?_⟩
    obtain ⟨ho, hk⟩ := hone_of hone j f hj
    have hjl : j < fs.size := (Array.getElem?_eq_some_iff.1 hj).1
    have hcell := hat j hjl
    have hv : cs'[j]? = some (cs'[j]'(by omega)) := List.getElem?_eq_getElem (by omega)
    have h1 := hf j f hj
    rw [ho, hk] at h1
    have hone' : (cs'.drop j).take 1 = [cs'[j]'(by omega)] := by
      rw [List.drop_eq_getElem_cons (by omega)]
      rfl
    rw [hone'] at h1
    have hys : ys[j]? = some (ys[j]'(by omega)) := List.getElem?_eq_getElem (by omega)
    refine ⟨_, _, ?_, h1.trans hys⟩
    rw [← Go.Deep.add_add, hcell, hv]

/-- a list that is given one element at a time -/
theorem list_of {α : Type} {p : Nat → α → Prop} : ∀ n, (∀ i, i < n → ∃ y, p i y) → ∃ l : List α, l.length = n ∧ ∀ (i : Nat) y, l[i]? = some y → p i y
  | 0, _ => ⟨[], rfl, by simp⟩
  | n + 1, h => by
    obtain ⟨l, hl, hp⟩ := list_of n (fun i hi => h i (by omega))
    obtain ⟨y, hy⟩ := h n (by omega)
    refine ⟨l ++ [y], by simp [hl], fun i z hz => ?_⟩
    rcases Nat.lt_or_ge i n with hi | hi
    · exact hp i z (by rwa [List.getElem?_append_left (by omega)] at hz)
    · rw [List.getElem?_append_right (by omega)] at hz
      have : i = n := by
        rcases Nat.eq_zero_or_pos (i - l.length) with h0 | h0
        · omega
        · rw [List.getElem?_eq_none (by simp; omega)] at hz; cases hz
      subst this
      simp [hl] at hz
      subst hz; exact hy

/-- a slice of structs that came in, each element read by 'rel' -/
theorem rd_structs {α : Type} {k : Nat} {encS : α → List Value} {t e : TypeId} {fs : Array Field} {v : Value} {d : DataW H} {p : List MemPlace} {r : Reach} {b0 : Nat} (ht : P.underlying t = some (.slice e)) (he : P.underlying e = some (.struct fs))
    (hone : oneCellFields P fs = true) (hC : P.cellsOf e = fs.size) (hk : fs.size = k) (hk0 : 0 < k)
    (hv : Value.okWide P w r b0 t v) (h : DataW.Trod enc P w base spare held t v d p)
    (hel : ∀ (n : Nat) (cell : Nat → Option Value), (∀ (j : Nat) (f : Field), fs[j]? = some f → ∃ (v : Value) (y : DataW H × List MemPlace), cell j = some v ∧ DataW.trod enc P w base spare held n f.type [v] = some y) → ∃ y : α, ∀ c u, (encS y)[c]? = some u → cell c = some u) :
    ∃ a n c l, v = .slice a n c ∧ Rd k encS (· < w.heap.size) w a n l ∧ n ≤ c ∧ c ≤ maxLen ∧ (a = none → c = 0) := by
  subst hk
  obtain ⟨a0, len0, cap0, rfl⟩ := okWide_slice ht hv
  obtain ⟨fuel, hf⟩ := h
  rcases open_slice_fields ht he hone hC hf with ⟨hcs, _⟩ | ⟨x, len, cap, m, hcs, hl, hm, hmm, hi⟩
  · simp [Value.cells] at hcs
    obtain ⟨rfl, rfl, rfl⟩ := hcs
    exact ⟨none, 0, 0, [], rfl, Rd.nil _ _ _ _ _, by omega, by unfold maxLen; omega, fun _ => rfl⟩
  · simp [Value.cells] at hcs
    obtain ⟨rfl, rfl, rfl⟩ := hcs
    have hlm : len0 ≤ m := by rw [hmm]; split <;> omega
    obtain ⟨l, hll, hlp⟩ := list_of (p := fun i (y : α) => ∀ c u, (encS y)[c]? = some u → w.cell? (x.add (i * fs.size + c)) = some u) len0 (fun i hi' => by
      obtain ⟨n, hn⟩ := hi i (by omega)
      exact hel n (fun j => w.cell? (x.add (i * fs.size + j))) hn)
    refine ⟨_, len0, cap0, l, rfl, ⟨hll, ?_⟩, hl, hm, fun h => by cases h⟩
    rcases Nat.eq_zero_or_pos len0 with h0 | h0
    · exact .inl h0
    · obtain ⟨n, hn⟩ := hi 0 (by omega)
      obtain ⟨v0, _, hv0, _⟩ := hn 0 (fs[0]) (by simp)
      have hv0 : w.cell? (x.add 0) = some v0 := by simpa using hv0
      have hx := addr_lit hv0
      refine .inr ⟨x.block, x.off, by rw [← hx], ?_, fun j y hj c u hu => ?_⟩
      · have := World.block_lt_of_cell? w _ hv0
        rw [hx] at this
        simpa [Addr.add] using this
      · have := hlp j y hj c u hu
        rw [hx, Addr.add_lit] at this
        simpa [Nat.add_assoc] using this
end
end Go.Proofs.YtjlmnegmkkpadaaDoor

/-
  SearchApproaches returns true for every list of numbers, and leaves its arguments as they were.
  Condition: the table of math/bits and the letters of the keys are as the program text lays them (tied by the card).
-/
namespace Go.Proofs.YtjlmnegmkkpadaaDoor
open Go.ChangeShapes Go.WideShapes Go.ChangeAt Go.RowKit Go.Deep Go.Joins
open Go.ChangeMaps (open_string shut_string)
set_option linter.unusedVariables false
theorem Tryd.cellsInt : Tryd.prog.cellsOf 3 = 1 := by kernel_rfl

set_option maxRecDepth 100000 in
set_option maxHeartbeats 1000000 in
theorem searchApproaches_lifted (os : Os) (started : os.Started) (H : Type) (enc : TypeId × Value → H) :
    ReturnsInHanded {} Tryd.checked os 5 .any (fun w args => (Rows.searchApproachesSpec.pre enc Tryd.prog Tryd.f5 [] false w args ∧ laidMetH Tryd.prog Rows.searchApproachesRow.laid w) ∧ sizedMet enc Tryd.prog Tryd.f5 (OpenSpec.ofChange Rows.searchApproachesSpec) false w args)
      (Rows.searchApproachesSpec.post enc Tryd.prog Tryd.f5 false true false false) := by
  refine returnsInHanded_of_change_and (C := Tryd.checked) (X := fun w _ => laidMetH Tryd.prog Rows.searchApproachesRow.laid w) (fun _ _ _ hh h => h.of_heap hh) own started (by kernel_rfl) Tryd.func5
    (ChangeSpec.witness_shaped (enc := enc) (C := Tryd.checked) (os := os) (X := fun w _ => laidMetH Tryd.prog Rows.searchApproachesRow.laid w) false (World.doorLaid Tryd.prog 400 os) #[.slice none 0 0] 8 rfl (World.shaped_of_RefB (by kernel_rfl) (by kernel_rfl)) (by kernel_rfl) (by kernel_rfl) (by kernel_rfl) (laidMetH_of_parts3 (fuel := 8) (laidMet_of_run' 8 (by kernel_rfl) (by kernel_rfl)) (by kernel_rfl) (by kernel_rfl))) ?_
  intro W base args ds gs before hval0 hW _ _ hL _
  have hval : ∀ (j : Nat) t v, Tryd.f5.params[j]? = some t → args[j]? = some v → Value.okWide Tryd.prog W .any base t v := hval0
  have hW' := hW
  obtain ⟨p, q, hA0, hV, rfl, hfz, hnd⟩ := hW
  have hA : DataW.TrodAll enc Tryd.prog W 0 (fun _ => true) true Tryd.f5.params.toList args.toList ds p := hA0
  rw [Tryd.params5] at hA hval
  obtain ⟨v0, vs0, d0, ds0, p0, q0, hargs, rfl, rfl, h0, r0⟩ := trodAll_cons hA
  obtain ⟨rfl, rfl, rfl⟩ := trodAll_nil r0
  obtain rfl : args = #[v0] := by cases args; simp_all
  obtain ⟨rfl, rfl⟩ := trodVars_none hV
  have k0 := h0
  have lt0 : ∀ x ∈ p0, x.block < W.heap.size := by obtain ⟨m, hm⟩ := k0; exact DataW.trod_lt m _ _ _ hm
  obtain ⟨A0, n0, cap0, l0, rfl, rd0, hc0, hm0, wf0, nl0⟩ := rd_ints Tryd.underlying22 Tryd.underlying3 Tryd.cellsInt (hval 0 22 v0 rfl rfl) h0
  clear hA0 hval0
  have hT : TabG W := tabG_of hL (by kernel_rfl)
  have hL2 : LetG W := letG_second hL (by kernel_rfl) (by kernel_rfl)
  refine (searchapproaches_walk A0 n0 cap0 l0 W rd0 hc0 hm0 hT hL2).mono fun e W' ⟨he, hch⟩ => ?_
  have bel : Below W.heap.size W W' := hch.below (fun _ h => h)
  subst he
  exact ⟨_, rfl, _, _, _, [], _, [], hW', trodAll_mk1 (shut_bool Tryd.underlying4 _), (trodAll_cons_mk (Below.trod laidOut (by kernel_rfl) (of_decide_eq_true (by kernel_rfl)) k0 bel lt0) trodAll_mk0), rfl, bel.frame _, fun h => by cases h⟩

theorem searchApproaches_over : Rows.searchApproachesRow.holds Tryd.pinned (OpenSpec.ofChange Rows.searchApproachesSpec) :=
  OpenClaim.holds_of_wide 5 Tryd.f5 rfl rfl rfl rfl rfl rfl rfl ⟨rfl, rfl, rfl, rfl, rfl⟩ rfl rfl rfl rfl rfl (by kernel_rfl) Tryd.func5 (by kernel_rfl)
    (of_decide_eq_true (by kernel_rfl)) (by unfold Func.isWrapper; first | (rw [if_pos (by decide +kernel)]; kernel_rfl) | (rw [if_neg (by decide +kernel)]; exact ⟨rfl, rfl⟩))
    (fun os started H enc _ => searchApproaches_lifted os started H enc)

/-- THE STATEMENT: the tied card -/
theorem SearchApproaches_holds : Rows.SearchApproachesCardSaid :=
  Claim7.holds_tied_plain_at .later [] [.data, .data] true (true, "2a99251f44ee4c1defc119fa919311036ca56a0eac1908b036a48edfb1cbd9b0") false
    searchApproaches_over (fun _ h => by cases h) (by kernel_rfl) (fun _ h => by cases h) searchApproaches_row_tie rfl ⟨rfl, rfl⟩ (by kernel_rfl) rfl
    (fun f fn hf hfn => by
      obtain rfl : f = 5 := Option.some.inj ((show Tryd.prog.funcNamed "skipgraph/skipgraphlaw8.SearchApproaches" = some 5 by kernel_rfl).symm.trans hf) |>.symm
      obtain rfl : fn = Tryd.f5 := (Option.some.inj (Tryd.func5.symm.trans hfn)).symm
      exact ⟨by kernel_rfl, fun j t ht => by
        rw [Tryd.params5] at ht
        have hm : t ∈ [22] := by simpa using Array.mem_of_getElem? ht
        have hall : ([22].all fun u => !Tryd.prog.wantsStandIn u) = true := by kernel_rfl
        exact (show Tryd.prog.wantsStandIn t = false by simpa using List.all_eq_true.1 hall t hm)⟩)
    (by kernel_rfl)
#print axioms SearchApproaches_holds
end Go.Proofs.YtjlmnegmkkpadaaDoor
