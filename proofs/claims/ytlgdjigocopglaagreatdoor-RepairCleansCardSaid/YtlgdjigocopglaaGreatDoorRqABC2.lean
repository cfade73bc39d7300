/- Shared texts. -/
import Derived.Test.YtlgdjigocopglaaGreatDoorRqABC1
set_option linter.unusedSimpArgs false
set_option linter.unusedVariables false

namespace Go.Proofs.YtlgdjigocopglaaGreatDoor
open Go.RowKit
set_option maxRecDepth 100000 in
set_option maxHeartbeats 16000000 in
theorem same14_r (a : Option Addr) (n c : Nat) (P : List Pr) (a2 : Option Addr) (c2 : Nat) (w : World) (h : PL w a n P) (h2 : PL w a2 n P) (hn : n ≤ 1000) (hP : ∀ p ∈ P, p.known.length ≤ 4000000000000000000 ∧ p.near.length ≤ 4000000000000000000) :
  Calls Tryz.prog 27 #[.slice a n c, .slice a2 n c2] w fun e w' => e = .returned (.bool true) ∧ Ex w w' := by
 have H1 := lH h
 have H2 := lH h2
 have HP := lH hP
 clear h h2 hP
 go_enter Tryz.func27, Tryz.ntmps27
 go_wp2_with fail
 go_loopw [5] (fun i wr => KtRel n w i wr) (fun i _ => n - (intOf i).toNat)
 case atStart => exact ⟨0, Nat.zero_le _, rfl, Ex.refl _⟩
 case round =>
  obtain ⟨k, hk, rfl, kw⟩ := hrel
  obtain ⟨wi, rfl⟩ : ∃ wi : World, wi = wr := ⟨_, rfl⟩
  have KW := lH kw
  clear kw
  by_cases hlt : k < n
  ·obtain ⟨xp, op, b1, m1, d1, b4, m4, d4, y, rfl, hxp, hy, p0, p1, p2, p3, p4, s1, s4⟩ := (H1.out.nx KW.out).rd hlt
   obtain ⟨xq, oq, e1, u1, f1, e4, u4, f4, y', rfl, hxq, hy', q0, q1, q2, q3, q4, t1, t4⟩ := (H2.out.nx KW.out).rd hlt
   obtain rfl : y = y' := Option.some.inj (hy.symm.trans hy')
   obtain rfl : m1 = u1 := s1.len.symm.trans t1.len
   obtain rfl : m4 = u4 := s4.len.symm.trans t4.len
   have hyP := HP.out y (List.mem_of_getElem? hy)
   have hm1 : m1 ≤ 4000000000000000000 := by have := s1.len; omega
   have hm4 : m4 ≤ 4000000000000000000 := by have := s4.len; omega
   have A0 := lH (fun wq (k : Ex wi wq) => Chg.cellv k p0 hxp)
   have A1 := lH (fun wq (k : Ex wi wq) => Chg.cellv k p1 hxp)
   have A2 := lH (fun wq (k : Ex wi wq) => Chg.cellv k p2 hxp)
   have A3 := lH (fun wq (k : Ex wi wq) => Chg.cellv k p3 hxp)
   have A4 := lH (fun wq (k : Ex wi wq) => Chg.cellv k p4 hxp)
   have B0 := lH (fun wq (k : Ex wi wq) => Chg.cellv k q0 hxq)
   have B1 := lH (fun wq (k : Ex wi wq) => Chg.cellv k q1 hxq)
   have B2 := lH (fun wq (k : Ex wi wq) => Chg.cellv k q2 hxq)
   have B3 := lH (fun wq (k : Ex wi wq) => Chg.cellv k q3 hxq)
   have B4 := lH (fun wq (k : Ex wi wq) => Chg.cellv k q4 hxq)
   have S1 := lH s1
   have S4 := lH s4
   have T1 := lH t1
   have T4 := lH t4
   clear p0 p1 p2 p3 p4 q0 q1 q2 q3 q4 s1 s4 t1 t4 hxp hxq hy hy' hyP
   go_upto_region 6 with fail
   refine wp_region_held_drew (S := Ex wi) (by kernel_rfl) ((Ex.refl wi).drew) (fun hHeld => ?_)
   obtain ⟨wd, hwdx⟩ : ∃ wd : World, wd = World.drew wi := ⟨_, rfl⟩
   rw [← hwdx] at hHeld ⊢
   have hDrew : Ex wi wd := by rw [hwdx]; exact (Ex.refl wi).drew
   clear hwdx
   refine tkH 0 (v := ?_) rfl (by kernel_rfl) (fun _ _ _ h => h) (by rfl) ?y1x0q5 (by assumption) ?z1x0q5
   case y1x0q5 => intro wq hSw; (go_simp); (try with_reducible rfl)
   try simp only [Act.put, sA, sB, sC]
   refine tkH 1 (v := ?_) rfl (by kernel_rfl) (fun _ _ _ h => h) (by rfl) ?y1x1q8 (by assumption) ?z1x1q8
   case y1x1q8 => intro wq hSw; (go_simp); (try with_reducible rfl)
   try simp only [Act.put, sA, sB, sC]
   refine tkH 2 (v := ?_) rfl (by kernel_rfl) (fun _ _ _ h => h) (by rfl) ?y1x2q11 (by assumption) ?z1x2q11
   case y1x2q11 => intro wq hSw; (go_simp); (try with_reducible rfl)
   try simp only [Act.put, sA, sB, sC]
   refine tkH 3 (v := ?_) rfl (by kernel_rfl) (fun _ _ _ h => h) (by rfl) ?y1x3q14 (by assumption) ?z1x3q14
   case y1x3q14 => intro wq hSw; (go_simp); (try with_reducible rfl)
   try simp only [Act.put, sA, sB, sC]
   refine tkH 4 (v := ?_) rfl (by kernel_rfl) (fun _ _ _ h => h) (by rfl) ?y1x4q17 (by assumption) ?z1x4q17
   case y1x4q17 => intro wq hSw; (have cq := A0.out wq hSw; go_simp); (try with_reducible rfl)
   try simp only [Act.put, sA, sB, sC]
   refine tkH 5 (v := ?_) rfl (by kernel_rfl) (fun _ _ _ h => h) (by rfl) ?y1x5q20 (by assumption) ?z1x5q20
   case y1x5q20 => intro wq hSw; (go_simp); (try with_reducible rfl)
   try simp only [Act.put, sA, sB, sC]
   refine tkH 6 (v := ?_) rfl (by kernel_rfl) (fun _ _ _ h => h) (by rfl) ?y1x6q23 (by assumption) ?z1x6q23
   case y1x6q23 => intro wq hSw; (go_simp); (try with_reducible rfl)
   try simp only [Act.put, sA, sB, sC]
   refine tkH 7 (v := ?_) rfl (by kernel_rfl) (fun _ _ _ h => h) (by rfl) ?y1x7q26 (by assumption) ?z1x7q26
   case y1x7q26 => intro wq hSw; (go_simp); (try with_reducible rfl)
   try simp only [Act.put, sA, sB, sC]
   refine tkH 8 (v := ?_) rfl (by kernel_rfl) (fun _ _ _ h => h) (by rfl) ?y1x8q29 (by assumption) ?z1x8q29
   case y1x8q29 => intro wq hSw; (go_simp); (try with_reducible rfl)
   try simp only [Act.put, sA, sB, sC]
   refine tkH 9 (v := ?_) rfl (by kernel_rfl) (fun _ _ _ h => h) (by rfl) ?y1x9q32 (by assumption) ?z1x9q32
   case y1x9q32 => intro wq hSw; (have cq := B0.out wq hSw; go_simp); (try with_reducible rfl)
   try simp only [Act.put, sA, sB, sC]
   refine tkH 10 (v := ?_) rfl (by kernel_rfl) (fun _ _ _ h => h) (by rfl) ?y1x10q35 (by assumption) ?z1x10q35
   case y1x10q35 => intro wq hSw; (go_simp); (try with_reducible rfl)
   try simp only [Act.put, sA, sB, sC]
   refine tkH 11 (v := ?_) rfl (by kernel_rfl) (fun _ _ _ h => h) (by rfl) ?y1x11q38 (by assumption) ?z1x11q38
   case y1x11q38 => intro wq hSw; (go_simp); (try with_reducible rfl)
   try simp only [Act.put, sA, sB, sC]
   refine tkH 12 (v := ?_) rfl (by kernel_rfl) (fun _ _ _ h => h) (by rfl) ?y1x12q41 (by assumption) ?z1x12q41
   case y1x12q41 => intro wq hSw; (go_simp); (try with_reducible rfl)
   try simp only [Act.put, sA, sB, sC]
   refine tkH 13 (v := ?_) rfl (by kernel_rfl) (fun _ _ _ h => h) (by rfl) ?y1x13q44 (by assumption) ?z1x13q44
   case y1x13q44 => intro wq hSw; (go_simp); (try with_reducible rfl)
   try simp only [Act.put, sA, sB, sC]
   refine tkH 14 (v := ?_) rfl (by kernel_rfl) (fun _ _ _ h => h) (by rfl) ?y1x14q47 (by assumption) ?z1x14q47
   case y1x14q47 => intro wq hSw; (go_simp); (try with_reducible rfl)
   try simp only [Act.put, sA, sB, sC]
   refine tkH 15 (v := ?_) rfl (by kernel_rfl) (fun _ _ _ h => h) (by rfl) ?y1x15q50 (by assumption) ?z1x15q50
   case y1x15q50 => intro wq hSw; (go_simp); (try with_reducible rfl)
   try simp only [Act.put, sA, sB, sC]
   refine tkH 16 (v := ?_) rfl (by kernel_rfl) (fun _ _ _ h => h) (by rfl) ?y1x16q53 (by assumption) ?z1x16q53
   case y1x16q53 => intro wq hSw; (have cq := A2.out wq hSw; go_simp); (try with_reducible rfl)
   try simp only [Act.put, sA, sB, sC]
   refine tkH 17 (v := ?_) rfl (by kernel_rfl) (fun _ _ _ h => h) (by rfl) ?y1x17q56 (by assumption) ?z1x17q56
   case y1x17q56 => intro wq hSw; (go_simp); (try with_reducible rfl)
   try simp only [Act.put, sA, sB, sC]
   refine tkH 18 (v := ?_) rfl (by kernel_rfl) (fun _ _ _ h => h) (by rfl) ?y1x18q59 (by assumption) ?z1x18q59
   case y1x18q59 => intro wq hSw; (go_simp); (try with_reducible rfl)
   try simp only [Act.put, sA, sB, sC]
   refine tkH 19 (v := ?_) rfl (by kernel_rfl) (fun _ _ _ h => h) (by rfl) ?y1x19q62 (by assumption) ?z1x19q62
   case y1x19q62 => intro wq hSw; (go_simp); (try with_reducible rfl)
   try simp only [Act.put, sA, sB, sC]
   refine tkH 20 (v := ?_) rfl (by kernel_rfl) (fun _ _ _ h => h) (by rfl) ?y1x20q65 (by assumption) ?z1x20q65
   case y1x20q65 => intro wq hSw; (go_simp); (try with_reducible rfl)
   try simp only [Act.put, sA, sB, sC]
   refine tkH 21 (v := ?_) rfl (by kernel_rfl) (fun _ _ _ h => h) (by rfl) ?y1x21q68 (by assumption) ?z1x21q68
   case y1x21q68 => intro wq hSw; (have cq := B2.out wq hSw; go_simp); (try with_reducible rfl)
   try simp only [Act.put, sA, sB, sC]
   refine tkH 22 (v := ?_) rfl (by kernel_rfl) (fun _ _ _ h => h) (by rfl) ?y1x22q71 (by assumption) ?z1x22q71
   case y1x22q71 => intro wq hSw; (go_simp); (try with_reducible rfl)
   try simp only [Act.put, sA, sB, sC]
   refine tkH 23 (v := ?_) rfl (by kernel_rfl) (fun _ _ _ h => h) (by rfl) ?y1x23q74 (by assumption) ?z1x23q74
   case y1x23q74 => intro wq hSw; (go_simp); (try with_reducible rfl)
   try simp only [Act.put, sA, sB, sC]
   refine tkH 24 (v := ?_) rfl (by kernel_rfl) (fun _ _ _ h => h) (by rfl) ?y1x24q77 (by assumption) ?z1x24q77
   case y1x24q77 => intro wq hSw; (go_simp); (try with_reducible rfl)
   try simp only [Act.put, sA, sB, sC]
   refine tkH 25 (v := ?_) rfl (by kernel_rfl) (fun _ _ _ h => h) (by rfl) ?y1x25q80 (by assumption) ?z1x25q80
   case y1x25q80 => intro wq hSw; (go_simp); (try with_reducible rfl)
   try simp only [Act.put, sA, sB, sC]
   refine tkH 26 (v := ?_) rfl (by kernel_rfl) (fun _ _ _ h => h) (by rfl) ?y1x26q83 (by assumption) ?z1x26q83
   case y1x26q83 => intro wq hSw; (go_simp); (try with_reducible rfl)
   try simp only [Act.put, sA, sB, sC]
   refine tkH 27 (v := ?_) rfl (by kernel_rfl) (fun _ _ _ h => h) (by rfl) ?y1x27q86 (by assumption) ?z1x27q86
   case y1x27q86 => intro wq hSw; (go_simp); (try with_reducible rfl)
   try simp only [Act.put, sA, sB, sC]
   refine tkH 28 (v := ?_) rfl (by kernel_rfl) (fun _ _ _ h => h) (by rfl) ?y1x28q89 (by assumption) ?z1x28q89
   case y1x28q89 => intro wq hSw; (go_simp); (try with_reducible rfl)
   try simp only [Act.put, sA, sB, sC]
   refine tkH 29 (v := ?_) rfl (by kernel_rfl) (fun _ _ _ h => h) (by rfl) ?y1x29q92 (by assumption) ?z1x29q92
   case y1x29q92 => intro wq hSw; (have cq := A3.out wq hSw; go_simp); (try with_reducible rfl)
   try simp only [Act.put, sA, sB, sC]
   refine tkH 30 (v := ?_) rfl (by kernel_rfl) (fun _ _ _ h => h) (by rfl) ?y1x30q95 (by assumption) ?z1x30q95
   case y1x30q95 => intro wq hSw; (go_simp); (try with_reducible rfl)
   try simp only [Act.put, sA, sB, sC]
   refine tkH 31 (v := ?_) rfl (by kernel_rfl) (fun _ _ _ h => h) (by rfl) ?y1x31q98 (by assumption) ?z1x31q98
   case y1x31q98 => intro wq hSw; (go_simp); (try with_reducible rfl)
   try simp only [Act.put, sA, sB, sC]
   refine tkH 32 (v := ?_) rfl (by kernel_rfl) (fun _ _ _ h => h) (by rfl) ?y1x32q101 (by assumption) ?z1x32q101
   case y1x32q101 => intro wq hSw; (go_simp); (try with_reducible rfl)
   try simp only [Act.put, sA, sB, sC]
   refine tkH 33 (v := ?_) rfl (by kernel_rfl) (fun _ _ _ h => h) (by rfl) ?y1x33q104 (by assumption) ?z1x33q104
   case y1x33q104 => intro wq hSw; (go_simp); (try with_reducible rfl)
   try simp only [Act.put, sA, sB, sC]
   refine tkH 34 (v := ?_) rfl (by kernel_rfl) (fun _ _ _ h => h) (by rfl) ?y1x34q107 (by assumption) ?z1x34q107
   case y1x34q107 => intro wq hSw; (have cq := B3.out wq hSw; go_simp); (try with_reducible rfl)
   try simp only [Act.put, sA, sB, sC]
   refine tkH 35 (v := ?_) rfl (by kernel_rfl) (fun _ _ _ h => h) (by rfl) ?y1x35q110 (by assumption) ?z1x35q110
   case y1x35q110 => intro wq hSw; (go_simp); (try with_reducible rfl)
   try simp only [Act.put, sA, sB, sC]
   refine tkH 36 (v := ?_) rfl (by kernel_rfl) (fun _ _ _ h => h) (by rfl) ?y1x36q113 (by assumption) ?z1x36q113
   case y1x36q113 => intro wq hSw; (go_simp); (try with_reducible rfl)
   try simp only [Act.put, sA, sB, sC]
   refine tkH 37 (v := ?_) rfl (by kernel_rfl) (fun _ _ _ h => h) (by rfl) ?y1x37q116 (by assumption) ?z1x37q116
   case y1x37q116 => intro wq hSw; (go_simp); (try with_reducible rfl)
   try simp only [Act.put, sA, sB, sC]
   refine tkH 38 (v := ?_) rfl (by kernel_rfl) (fun _ _ _ h => h) (by rfl) ?y1x38q119 (by assumption) ?z1x38q119
   case y1x38q119 => intro wq hSw; (go_simp); (try with_reducible rfl)
   try simp only [Act.put, sA, sB, sC]
   refine tkH 39 (v := ?_) rfl (by kernel_rfl) (fun _ _ _ h => h) (by rfl) ?y1x39q122 (by assumption) ?z1x39q122
   case y1x39q122 => intro wq hSw; (go_simp); (try with_reducible rfl)
   try simp only [Act.put, sA, sB, sC]
   refine tkH 40 (v := ?_) rfl (by kernel_rfl) (fun _ _ _ h => h) (by rfl) ?y1x40q125 (by assumption) ?z1x40q125
   case y1x40q125 => intro wq hSw; (go_simp); (try with_reducible rfl)
   try simp only [Act.put, sA, sB, sC]
   refine tkH 41 (v := ?_) rfl (by kernel_rfl) (fun _ _ _ h => h) (by rfl) ?y1x41q128 (by assumption) ?z1x41q128
   case y1x41q128 => intro wq hSw; (go_simp); (try with_reducible rfl)
   try simp only [Act.put, sA, sB, sC]
   refine tkH 42 (v := ?_) rfl (by kernel_rfl) (fun _ _ _ h => h) (by rfl) ?y1x42q131 (by assumption) ?z1x42q131
   case y1x42q131 => intro wq hSw; (have cq := A1.out wq hSw; go_simp); (try with_reducible rfl)
   try simp only [Act.put, sA, sB, sC]
   refine tkH 43 (v := ?_) rfl (by kernel_rfl) (fun _ _ _ h => h) (by rfl) ?y1x43q134 (by assumption) ?z1x43q134
   case y1x43q134 => intro wq hSw; (go_simp); (try with_reducible rfl)
   try simp only [Act.put, sA, sB, sC]
   refine tkH 44 (v := ?_) rfl (by kernel_rfl) (fun _ _ _ h => h) (by rfl) ?y1x44q137 (by assumption) ?z1x44q137
   case y1x44q137 => intro wq hSw; (go_simp); (try with_reducible rfl)
   try simp only [Act.put, sA, sB, sC]
   refine tkH 45 (v := ?_) rfl (by kernel_rfl) (fun _ _ _ h => h) (by rfl) ?y1x45q140 (by assumption) ?z1x45q140
   case y1x45q140 => intro wq hSw; (go_simp); (try with_reducible rfl)
   try simp only [Act.put, sA, sB, sC]
   refine tkH 46 (v := ?_) rfl (by kernel_rfl) (fun _ _ _ h => h) (by rfl) ?y1x46q143 (by assumption) ?z1x46q143
   case y1x46q143 => intro wq hSw; (go_simp); (try with_reducible rfl)
   try simp only [Act.put, sA, sB, sC]
   refine tkH 47 (v := ?_) rfl (by kernel_rfl) (fun _ _ _ h => h) (by rfl) ?y1x47q146 (by assumption) ?z1x47q146
   case y1x47q146 => intro wq hSw; (have cq := B1.out wq hSw; go_simp); (try with_reducible rfl)
   try simp only [Act.put, sA, sB, sC]
   refine wpAnyH_ready (rs := [48]) (by kernel_rfl) (by simp) ?_
   refine AllReadyH.cons (o := ⟨_, _, _, _, _, _⟩) rfl (fun K hK => ?_) AllReadyH.nil
   go_simp
   (with_reducible refine (sameints_x _ _ _ _ _ y.known _ (S1.out.nx hHeld) (T1.out.nx hHeld) (by omega)).mono ?_)
   rintro e wb ⟨rfl, kk⟩
   replace hHeld := hHeld.nx kk
   clear kk
   refine hK.out _ _ (hHeld) (fun hHeld => ?_)
   clear hK K
   try simp only [Act.put, sA, sB, sC]
   refine tkH 49 (v := ?_) rfl (by kernel_rfl) (fun _ _ _ h => h) (by rfl) ?y1x49q159 (by assumption) ?z1x49q159
   case y1x49q159 => intro wq hSw; (go_simp); (try with_reducible rfl)
   try simp only [Act.put, sA, sB, sC]
   refine tkH 50 (v := ?_) rfl (by kernel_rfl) (fun _ _ _ h => h) (by rfl) ?y1x50q162 (by assumption) ?z1x50q162
   case y1x50q162 => intro wq hSw; (go_simp); (try with_reducible rfl)
   try simp only [Act.put, sA, sB, sC]
   refine tkH 51 (v := ?_) rfl (by kernel_rfl) (fun _ _ _ h => h) (by rfl) ?y1x51q165 (by assumption) ?z1x51q165
   case y1x51q165 => intro wq hSw; (go_simp); (try with_reducible rfl)
   try simp only [Act.put, sA, sB, sC]
   refine tkH 52 (v := ?_) rfl (by kernel_rfl) (fun _ _ _ h => h) (by rfl) ?y1x52q168 (by assumption) ?z1x52q168
   case y1x52q168 => intro wq hSw; (go_simp); (try with_reducible rfl)
   try simp only [Act.put, sA, sB, sC]
   refine tkH 53 (v := ?_) rfl (by kernel_rfl) (fun _ _ _ h => h) (by rfl) ?y1x53q171 (by assumption) ?z1x53q171
   case y1x53q171 => intro wq hSw; (go_simp); (try with_reducible rfl)
   try simp only [Act.put, sA, sB, sC]
   refine tkH 54 (v := ?_) rfl (by kernel_rfl) (fun _ _ _ h => h) (by rfl) ?y1x54q174 (by assumption) ?z1x54q174
   case y1x54q174 => intro wq hSw; (go_simp); (try with_reducible rfl)
   try simp only [Act.put, sA, sB, sC]
   refine tkH 55 (v := ?_) rfl (by kernel_rfl) (fun _ _ _ h => h) (by rfl) ?y1x55q177 (by assumption) ?z1x55q177
   case y1x55q177 => intro wq hSw; (go_simp); (try with_reducible rfl)
   try simp only [Act.put, sA, sB, sC]
   refine tkH 56 (v := ?_) rfl (by kernel_rfl) (fun _ _ _ h => h) (by rfl) ?y1x56q180 (by assumption) ?z1x56q180
   case y1x56q180 => intro wq hSw; (have cq := A4.out wq hSw; go_simp); (try with_reducible rfl)
   try simp only [Act.put, sA, sB, sC]
   refine tkH 57 (v := ?_) rfl (by kernel_rfl) (fun _ _ _ h => h) (by rfl) ?y1x57q183 (by assumption) ?z1x57q183
   case y1x57q183 => intro wq hSw; (go_simp); (try with_reducible rfl)
   try simp only [Act.put, sA, sB, sC]
   refine tkH 58 (v := ?_) rfl (by kernel_rfl) (fun _ _ _ h => h) (by rfl) ?y1x58q186 (by assumption) ?z1x58q186
   case y1x58q186 => intro wq hSw; (go_simp); (try with_reducible rfl)
   try simp only [Act.put, sA, sB, sC]
   refine tkH 59 (v := ?_) rfl (by kernel_rfl) (fun _ _ _ h => h) (by rfl) ?y1x59q189 (by assumption) ?z1x59q189
   case y1x59q189 => intro wq hSw; (go_simp); (try with_reducible rfl)
   try simp only [Act.put, sA, sB, sC]
   refine tkH 60 (v := ?_) rfl (by kernel_rfl) (fun _ _ _ h => h) (by rfl) ?y1x60q192 (by assumption) ?z1x60q192
   case y1x60q192 => intro wq hSw; (go_simp); (try with_reducible rfl)
   try simp only [Act.put, sA, sB, sC]
   refine tkH 61 (v := ?_) rfl (by kernel_rfl) (fun _ _ _ h => h) (by rfl) ?y1x61q195 (by assumption) ?z1x61q195
   case y1x61q195 => intro wq hSw; (go_simp); (try with_reducible rfl)
   try simp only [Act.put, sA, sB, sC]
   refine tkH 62 (v := ?_) rfl (by kernel_rfl) (fun _ _ _ h => h) (by rfl) ?y1x62q198 (by assumption) ?z1x62q198
   case y1x62q198 => intro wq hSw; (have cq := B4.out wq hSw; go_simp); (try with_reducible rfl)
   try simp only [Act.put, sA, sB, sC]
   refine tkH 63 (v := ?_) rfl (by kernel_rfl) (fun _ _ _ h => h) (by rfl) ?y1x63q201 (by assumption) ?z1x63q201
   case y1x63q201 => intro wq hSw; (go_simp); (try with_reducible rfl)
   try simp only [Act.put, sA, sB, sC]
   refine tkH 64 (v := ?_) rfl (by kernel_rfl) (fun _ _ _ h => h) (by rfl) ?y1x64q204 (by assumption) ?z1x64q204
   case y1x64q204 => intro wq hSw; (go_simp); (try with_reducible rfl)
   try simp only [Act.put, sA, sB, sC]
   refine tkH 65 (v := ?_) rfl (by kernel_rfl) (fun _ _ _ h => h) (by rfl) ?y1x65q207 (by assumption) ?z1x65q207
   case y1x65q207 => intro wq hSw; (go_simp); (try with_reducible rfl)
   try simp only [Act.put, sA, sB, sC]
   refine wpAnyH_done (by kernel_rfl) ?_ _
   have K6 := lH hHeld
   clear hHeld hDrew
   have cq := A4.out _ K6.out
   go_wp2_with fail
   go_loopw [6] (fun i wr => KtRel m4 wb i wr) (fun i _ => m4 - (intOf i).toNat)
   case atStart => exact ⟨0, Nat.zero_le _, rfl, Ex.refl _⟩
   case round =>
    clear cq
    obtain ⟨t, ht, rfl, kv⟩ := hrel
    obtain ⟨wj, rfl⟩ : ∃ wj : World, wj = wr := ⟨_, rfl⟩
    have KV := lH (K6.out.nx kv)
    have KJ := lH kv
    clear kv
    have cq := A4.out _ KV.out
    have cr := B4.out _ KV.out
    by_cases htt : t < m4
    ·obtain ⟨xa, oa, z, rfl, hxa, hz, hca⟩ := (S4.out.nx KV.out).at htt
     obtain ⟨xb, ob, z', rfl, hxb, hz', hcb⟩ := (T4.out.nx KV.out).at htt
     obtain rfl : z = z' := Option.some.inj (hz.symm.trans hz')
     have f0 : wj.cell? ⟨xa, oa + t * 4, none⟩ = some (.int .i64 z.1) := by simpa using hca 0 _ rfl
     have f1 : wj.cell? ⟨xa, oa + t * 4 + 1, none⟩ = some (.int .i64 z.2.1) := by simpa using hca 1 _ rfl
     have f2 : wj.cell? ⟨xa, oa + t * 4 + 1 + 1, none⟩ = some (.int .i64 z.2.2.1) := by simpa [Nat.add_assoc] using hca 2 _ rfl
     have f3 : wj.cell? ⟨xa, oa + t * 4 + 1 + 1 + 1, none⟩ = some (.int .i64 z.2.2.2) := by simpa [Nat.add_assoc] using hca 3 _ rfl
     have g0 : wj.cell? ⟨xb, ob + t * 4, none⟩ = some (.int .i64 z.1) := by simpa using hcb 0 _ rfl
     have g1 : wj.cell? ⟨xb, ob + t * 4 + 1, none⟩ = some (.int .i64 z.2.1) := by simpa using hcb 1 _ rfl
     have g2 : wj.cell? ⟨xb, ob + t * 4 + 1 + 1, none⟩ = some (.int .i64 z.2.2.1) := by simpa [Nat.add_assoc] using hcb 2 _ rfl
     have g3 : wj.cell? ⟨xb, ob + t * 4 + 1 + 1 + 1, none⟩ = some (.int .i64 z.2.2.2) := by simpa [Nat.add_assoc] using hcb 3 _ rfl
     have RR := lH (fun m => show KtRel m4 wb (.int .i64 ((t : Int) + 1)) (wj.drewN m) from ⟨t + 1, by omega, by go_num, KJ.out.drewN m⟩)
     clear hca hcb hz hz' hxa hxb
     go_wp2_with fail
     go_quiet (fail)
     go_wp2_with fail
     exact ⟨RR.out _, by simp [intOf]; omega⟩
    ·obtain rfl : t = m4 := by omega
     have RR := lH (show KtRel n w (.int .i64 ((k : Int) + 1)) wj from ⟨k + 1, by omega, by go_num, KW.out.nx KV.out⟩)
     clear ht htt
     go_wp2_with fail
     exact ⟨RR.out, by simp [intOf]; omega⟩
  ·obtain rfl : k = n := by omega
   have K1 := lH KW.out
   clear hk
   go_wp2_with fail
   go_ret
   exact ⟨rfl, K1.out⟩
theorem FewQ.snoc {m M : Nat} {P : List Pr} (h : FewQ m M P) {p : Pr} (hp : p.known.length ≤ m ∧ p.near.length ≤ M) : FewQ m M (P ++ [p]) := fun x hx => by
 rcases List.mem_append.1 hx with h1 | h1
 ·exact h x h1
 ·rw [List.mem_singleton.1 h1]; exact hp
end Go.Proofs.YtlgdjigocopglaaGreatDoor
