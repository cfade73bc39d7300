/- Texts for the statement BridgeKeepsProof, part 11 of 12: Same14, Lw17, L17, OwnU, Pai, Jnd, Jon, CoR, LinQ. -/
import Derived.BigQuiet
import Derived.Laws.OwnMore
import Derived.Test.YtbnbjiddffihoaaGreatDoorBridgeKeepsProofPk1
import Derived.Test.YtbnbjiddffihoaaGreatDoorBridgeKeepsProofPk4
import Derived.Test.YtbnbjiddffihoaaGreatDoorBridgeKeepsProofPk5
import Derived.Test.YtbnbjiddffihoaaGreatDoorBridgeKeepsProofPk6
import Derived.Test.YtbnbjiddffihoaaGreatDoorBridgeKeepsProofPk7
import Derived.Test.YtbnbjiddffihoaaGreatDoorBridgeKeepsProofPk8
import Derived.Test.YtbnbjiddffihoaaGreatDoorBridgeKeepsProofPk9
import Derived.Test.YtbnbjiddffihoaaGreatDoorBridgeKeepsProofPk10

/- Same of the reference of chapter 14, at equal lists. -/
namespace Go.Proofs.YtbnbjiddffihoaaGreatDoor
open Go.RowKit

set_option maxRecDepth 100000 in
set_option maxHeartbeats 16000000 in
theorem same14_r (a : Option Addr) (n c : Nat) (P : List Pr) (a2 : Option Addr) (c2 : Nat) (w : World) (h : PL w a n P) (h2 : PL w a2 n P) (hn : n ≤ 1000) (hP : ∀ p ∈ P, p.known.length ≤ 1000000 ∧ p.near.length ≤ 1000000) :
    Calls Tryz.prog 26 #[.slice a n c, .slice a2 n c2] w fun e w' => e = .returned (.bool true) ∧ Ex w w' := by
  have H1 := Lib.hid h
  have H2 := Lib.hid h2
  have HP := Lib.hid hP
  clear h h2 hP
  go_enter Tryz.func26, Tryz.ntmps26
  go_wp2_with fail
  go_loopw [5] (fun i wr => KtRel n w i wr) (fun i _ => n - (intOf i).toNat)
  case atStart => exact ⟨0, Nat.zero_le _, rfl, Ex.refl _⟩
  case round =>
    obtain ⟨k, hk, rfl, kw⟩ := hrel
    obtain ⟨wi, rfl⟩ : ∃ wi : World, wi = wr := ⟨_, rfl⟩
    have KW := Lib.hid kw
    clear kw
    by_cases hlt : k < n
    · obtain ⟨xp, op, b1, m1, d1, b4, m4, d4, y, rfl, hxp, hy, p0, p1, p2, p3, p4, s1, s4⟩ := (H1.out.nx KW.out).rd hlt
      obtain ⟨xq, oq, e1, u1, f1, e4, u4, f4, y', rfl, hxq, hy', q0, q1, q2, q3, q4, t1, t4⟩ := (H2.out.nx KW.out).rd hlt
      obtain rfl : y = y' := Option.some.inj (hy.symm.trans hy')
      obtain rfl : m1 = u1 := s1.len.symm.trans t1.len
      obtain rfl : m4 = u4 := s4.len.symm.trans t4.len
      have hyP := HP.out y (List.mem_of_getElem? hy)
      have hm1 : m1 ≤ 1000000 := by have := s1.len; omega
      have hm4 : m4 ≤ 1000000 := by have := s4.len; omega
      have A0 := Lib.hid (fun wq (k : Ex wi wq) => Chg.cellv k p0 hxp)
      have A1 := Lib.hid (fun wq (k : Ex wi wq) => Chg.cellv k p1 hxp)
      have A2 := Lib.hid (fun wq (k : Ex wi wq) => Chg.cellv k p2 hxp)
      have A3 := Lib.hid (fun wq (k : Ex wi wq) => Chg.cellv k p3 hxp)
      have A4 := Lib.hid (fun wq (k : Ex wi wq) => Chg.cellv k p4 hxp)
      have B0 := Lib.hid (fun wq (k : Ex wi wq) => Chg.cellv k q0 hxq)
      have B1 := Lib.hid (fun wq (k : Ex wi wq) => Chg.cellv k q1 hxq)
      have B2 := Lib.hid (fun wq (k : Ex wi wq) => Chg.cellv k q2 hxq)
      have B3 := Lib.hid (fun wq (k : Ex wi wq) => Chg.cellv k q3 hxq)
      have B4 := Lib.hid (fun wq (k : Ex wi wq) => Chg.cellv k q4 hxq)
      have S1 := Lib.hid s1
      have S4 := Lib.hid s4
      have T1 := Lib.hid t1
      have T4 := Lib.hid t4
      clear p0 p1 p2 p3 p4 q0 q1 q2 q3 q4 s1 s4 t1 t4 hxp hxq hy hy' hyP
      go_upto_region 6 with fail
      refine wp_region_held_drew (S := Ex wi) (by kernel_rfl) ((Ex.refl wi).drew) (fun hHeld => ?_)
      obtain ⟨wd, hwdx⟩ : ∃ wd : World, wd = World.drew wi := ⟨_, rfl⟩
      rw [← hwdx] at hHeld ⊢
      have hDrew : Ex wi wd := by rw [hwdx]; exact (Ex.refl wi).drew
      clear hwdx
      refine wpAnyH_take (i := 0) (oi := ⟨some 18, .move (.tmp 0), 24, "ref.go:165", #[], none⟩) (v := ?_) rfl (by kernel_rfl) (by kernel_rfl) (by kernel_rfl) (fun _ _ _ h => h) (Or.inl ⟨by rfl, ?hyr1x0q5⟩) (by assumption) ?restr1x0q5
      case hyr1x0q5 => intro wq hSw; (go_simp); (try with_reducible rfl)
      try simp only [Act.put, List.setIfInBounds_toArray, List.set_cons_zero, List.set_cons_succ]
      refine wpAnyH_take (i := 1) (oi := ⟨some 19, .move (.tmp 5), 3, "ref.go:165", #[], none⟩) (v := ?_) rfl (by kernel_rfl) (by kernel_rfl) (by kernel_rfl) (fun _ _ _ h => h) (Or.inl ⟨by rfl, ?hyr1x1q8⟩) (by assumption) ?restr1x1q8
      case hyr1x1q8 => intro wq hSw; (go_simp); (try with_reducible rfl)
      try simp only [Act.put, List.setIfInBounds_toArray, List.set_cons_zero, List.set_cons_succ]
      refine wpAnyH_take (i := 2) (oi := ⟨some 20, .indexAddr 24 (.tmp 18) (.tmp 19), 0, "ref.go:165", #[⟨0, .data⟩, ⟨1, .data⟩], none⟩) (v := ?_) rfl (by kernel_rfl) (by kernel_rfl) (by kernel_rfl) (fun _ _ _ h => h) (Or.inl ⟨by rfl, ?hyr1x2q11⟩) (by assumption) ?restr1x2q11
      case hyr1x2q11 => intro wq hSw; (go_simp); (try with_reducible rfl)
      try simp only [Act.put, List.setIfInBounds_toArray, List.set_cons_zero, List.set_cons_succ]
      refine wpAnyH_take (i := 3) (oi := ⟨some 21, .fieldAddr 45 (.tmp 20) 0, 0, "ref.go:165", #[⟨2, .data⟩], none⟩) (v := ?_) rfl (by kernel_rfl) (by kernel_rfl) (by kernel_rfl) (fun _ _ _ h => h) (Or.inl ⟨by rfl, ?hyr1x3q14⟩) (by assumption) ?restr1x3q14
      case hyr1x3q14 => intro wq hSw; (go_simp); (try with_reducible rfl)
      try simp only [Act.put, List.setIfInBounds_toArray, List.set_cons_zero, List.set_cons_succ]
      refine wpAnyH_take (i := 4) (oi := ⟨some 22, .load 3 (.tmp 21), 3, "ref.go:165", #[⟨3, .data⟩], none⟩) (v := ?_) rfl (by kernel_rfl) (by kernel_rfl) (by kernel_rfl) (fun _ _ _ h => h) (Or.inl ⟨by rfl, ?hyr1x4q17⟩) (by assumption) ?restr1x4q17
      case hyr1x4q17 => intro wq hSw; (have cq := A0.out wq hSw; go_simp); (try with_reducible rfl)
      try simp only [Act.put, List.setIfInBounds_toArray, List.set_cons_zero, List.set_cons_succ]
      refine wpAnyH_take (i := 5) (oi := ⟨some 23, .move (.tmp 1), 24, "ref.go:165", #[], none⟩) (v := ?_) rfl (by kernel_rfl) (by kernel_rfl) (by kernel_rfl) (fun _ _ _ h => h) (Or.inl ⟨by rfl, ?hyr1x5q20⟩) (by assumption) ?restr1x5q20
      case hyr1x5q20 => intro wq hSw; (go_simp); (try with_reducible rfl)
      try simp only [Act.put, List.setIfInBounds_toArray, List.set_cons_zero, List.set_cons_succ]
      refine wpAnyH_take (i := 6) (oi := ⟨some 24, .move (.tmp 5), 3, "ref.go:165", #[], none⟩) (v := ?_) rfl (by kernel_rfl) (by kernel_rfl) (by kernel_rfl) (fun _ _ _ h => h) (Or.inl ⟨by rfl, ?hyr1x6q23⟩) (by assumption) ?restr1x6q23
      case hyr1x6q23 => intro wq hSw; (go_simp); (try with_reducible rfl)
      try simp only [Act.put, List.setIfInBounds_toArray, List.set_cons_zero, List.set_cons_succ]
      refine wpAnyH_take (i := 7) (oi := ⟨some 25, .indexAddr 24 (.tmp 23) (.tmp 24), 0, "ref.go:165", #[⟨5, .data⟩, ⟨6, .data⟩], none⟩) (v := ?_) rfl (by kernel_rfl) (by kernel_rfl) (by kernel_rfl) (fun _ _ _ h => h) (Or.inl ⟨by rfl, ?hyr1x7q26⟩) (by assumption) ?restr1x7q26
      case hyr1x7q26 => intro wq hSw; (go_simp); (try with_reducible rfl)
      try simp only [Act.put, List.setIfInBounds_toArray, List.set_cons_zero, List.set_cons_succ]
      refine wpAnyH_take (i := 8) (oi := ⟨some 26, .fieldAddr 45 (.tmp 25) 0, 0, "ref.go:165", #[⟨7, .data⟩], none⟩) (v := ?_) rfl (by kernel_rfl) (by kernel_rfl) (by kernel_rfl) (fun _ _ _ h => h) (Or.inl ⟨by rfl, ?hyr1x8q29⟩) (by assumption) ?restr1x8q29
      case hyr1x8q29 => intro wq hSw; (go_simp); (try with_reducible rfl)
      try simp only [Act.put, List.setIfInBounds_toArray, List.set_cons_zero, List.set_cons_succ]
      refine wpAnyH_take (i := 9) (oi := ⟨some 27, .load 3 (.tmp 26), 3, "ref.go:165", #[⟨8, .data⟩], none⟩) (v := ?_) rfl (by kernel_rfl) (by kernel_rfl) (by kernel_rfl) (fun _ _ _ h => h) (Or.inl ⟨by rfl, ?hyr1x9q32⟩) (by assumption) ?restr1x9q32
      case hyr1x9q32 => intro wq hSw; (have cq := B0.out wq hSw; go_simp); (try with_reducible rfl)
      try simp only [Act.put, List.setIfInBounds_toArray, List.set_cons_zero, List.set_cons_succ]
      refine wpAnyH_take (i := 10) (oi := ⟨some 28, .binOp .neq 3 (.tmp 22) (.tmp 27) 3, 4, "ref.go:165", #[⟨4, .data⟩, ⟨9, .data⟩], none⟩) (v := ?_) rfl (by kernel_rfl) (by kernel_rfl) (by kernel_rfl) (fun _ _ _ h => h) (Or.inl ⟨by rfl, ?hyr1x10q35⟩) (by assumption) ?restr1x10q35
      case hyr1x10q35 => intro wq hSw; (go_simp); (try with_reducible rfl)
      try simp only [Act.put, List.setIfInBounds_toArray, List.set_cons_zero, List.set_cons_succ]
      refine wpAnyH_take (i := 11) (oi := ⟨some 29, .move (.tmp 28), 4, "ref.go:165", #[⟨10, .data⟩], none⟩) (v := ?_) rfl (by kernel_rfl) (by kernel_rfl) (by kernel_rfl) (fun _ _ _ h => h) (Or.inl ⟨by rfl, ?hyr1x11q38⟩) (by assumption) ?restr1x11q38
      case hyr1x11q38 => intro wq hSw; (go_simp); (try with_reducible rfl)
      try simp only [Act.put, List.setIfInBounds_toArray, List.set_cons_zero, List.set_cons_succ]
      refine wpAnyH_take (i := 12) (oi := ⟨some 30, .move (.tmp 0), 24, "ref.go:165", #[⟨11, .guard⟩], some (11, false)⟩) (v := ?_) rfl (by kernel_rfl) (by kernel_rfl) (by kernel_rfl) (fun _ _ _ h => h) (Or.inl ⟨by rfl, ?hyr1x12q41⟩) (by assumption) ?restr1x12q41
      case hyr1x12q41 => intro wq hSw; (go_simp); (try with_reducible rfl)
      try simp only [Act.put, List.setIfInBounds_toArray, List.set_cons_zero, List.set_cons_succ]
      refine wpAnyH_take (i := 13) (oi := ⟨some 31, .move (.tmp 5), 3, "ref.go:165", #[⟨11, .guard⟩], some (11, false)⟩) (v := ?_) rfl (by kernel_rfl) (by kernel_rfl) (by kernel_rfl) (fun _ _ _ h => h) (Or.inl ⟨by rfl, ?hyr1x13q44⟩) (by assumption) ?restr1x13q44
      case hyr1x13q44 => intro wq hSw; (go_simp); (try with_reducible rfl)
      try simp only [Act.put, List.setIfInBounds_toArray, List.set_cons_zero, List.set_cons_succ]
      refine wpAnyH_take (i := 14) (oi := ⟨some 32, .indexAddr 24 (.tmp 30) (.tmp 31), 0, "ref.go:165", #[⟨12, .data⟩, ⟨13, .data⟩, ⟨11, .guard⟩], some (11, false)⟩) (v := ?_) rfl (by kernel_rfl) (by kernel_rfl) (by kernel_rfl) (fun _ _ _ h => h) (Or.inl ⟨by rfl, ?hyr1x14q47⟩) (by assumption) ?restr1x14q47
      case hyr1x14q47 => intro wq hSw; (go_simp); (try with_reducible rfl)
      try simp only [Act.put, List.setIfInBounds_toArray, List.set_cons_zero, List.set_cons_succ]
      refine wpAnyH_take (i := 15) (oi := ⟨some 33, .fieldAddr 45 (.tmp 32) 2, 0, "ref.go:165", #[⟨14, .data⟩, ⟨11, .guard⟩], some (11, false)⟩) (v := ?_) rfl (by kernel_rfl) (by kernel_rfl) (by kernel_rfl) (fun _ _ _ h => h) (Or.inl ⟨by rfl, ?hyr1x15q50⟩) (by assumption) ?restr1x15q50
      case hyr1x15q50 => intro wq hSw; (go_simp); (try with_reducible rfl)
      try simp only [Act.put, List.setIfInBounds_toArray, List.set_cons_zero, List.set_cons_succ]
      refine wpAnyH_take (i := 16) (oi := ⟨some 34, .load 3 (.tmp 33), 3, "ref.go:165", #[⟨15, .data⟩, ⟨11, .guard⟩], some (11, false)⟩) (v := ?_) rfl (by kernel_rfl) (by kernel_rfl) (by kernel_rfl) (fun _ _ _ h => h) (Or.inl ⟨by rfl, ?hyr1x16q53⟩) (by assumption) ?restr1x16q53
      case hyr1x16q53 => intro wq hSw; (have cq := A2.out wq hSw; go_simp); (try with_reducible rfl)
      try simp only [Act.put, List.setIfInBounds_toArray, List.set_cons_zero, List.set_cons_succ]
      refine wpAnyH_take (i := 17) (oi := ⟨some 35, .move (.tmp 1), 24, "ref.go:165", #[⟨11, .guard⟩], some (11, false)⟩) (v := ?_) rfl (by kernel_rfl) (by kernel_rfl) (by kernel_rfl) (fun _ _ _ h => h) (Or.inl ⟨by rfl, ?hyr1x17q56⟩) (by assumption) ?restr1x17q56
      case hyr1x17q56 => intro wq hSw; (go_simp); (try with_reducible rfl)
      try simp only [Act.put, List.setIfInBounds_toArray, List.set_cons_zero, List.set_cons_succ]
      refine wpAnyH_take (i := 18) (oi := ⟨some 36, .move (.tmp 5), 3, "ref.go:165", #[⟨11, .guard⟩], some (11, false)⟩) (v := ?_) rfl (by kernel_rfl) (by kernel_rfl) (by kernel_rfl) (fun _ _ _ h => h) (Or.inl ⟨by rfl, ?hyr1x18q59⟩) (by assumption) ?restr1x18q59
      case hyr1x18q59 => intro wq hSw; (go_simp); (try with_reducible rfl)
      try simp only [Act.put, List.setIfInBounds_toArray, List.set_cons_zero, List.set_cons_succ]
      refine wpAnyH_take (i := 19) (oi := ⟨some 37, .indexAddr 24 (.tmp 35) (.tmp 36), 0, "ref.go:165", #[⟨17, .data⟩, ⟨18, .data⟩, ⟨11, .guard⟩], some (11, false)⟩) (v := ?_) rfl (by kernel_rfl) (by kernel_rfl) (by kernel_rfl) (fun _ _ _ h => h) (Or.inl ⟨by rfl, ?hyr1x19q62⟩) (by assumption) ?restr1x19q62
      case hyr1x19q62 => intro wq hSw; (go_simp); (try with_reducible rfl)
      try simp only [Act.put, List.setIfInBounds_toArray, List.set_cons_zero, List.set_cons_succ]
      refine wpAnyH_take (i := 20) (oi := ⟨some 38, .fieldAddr 45 (.tmp 37) 2, 0, "ref.go:165", #[⟨19, .data⟩, ⟨11, .guard⟩], some (11, false)⟩) (v := ?_) rfl (by kernel_rfl) (by kernel_rfl) (by kernel_rfl) (fun _ _ _ h => h) (Or.inl ⟨by rfl, ?hyr1x20q65⟩) (by assumption) ?restr1x20q65
      case hyr1x20q65 => intro wq hSw; (go_simp); (try with_reducible rfl)
      try simp only [Act.put, List.setIfInBounds_toArray, List.set_cons_zero, List.set_cons_succ]
      refine wpAnyH_take (i := 21) (oi := ⟨some 39, .load 3 (.tmp 38), 3, "ref.go:165", #[⟨20, .data⟩, ⟨11, .guard⟩], some (11, false)⟩) (v := ?_) rfl (by kernel_rfl) (by kernel_rfl) (by kernel_rfl) (fun _ _ _ h => h) (Or.inl ⟨by rfl, ?hyr1x21q68⟩) (by assumption) ?restr1x21q68
      case hyr1x21q68 => intro wq hSw; (have cq := B2.out wq hSw; go_simp); (try with_reducible rfl)
      try simp only [Act.put, List.setIfInBounds_toArray, List.set_cons_zero, List.set_cons_succ]
      refine wpAnyH_take (i := 22) (oi := ⟨some 40, .binOp .neq 3 (.tmp 34) (.tmp 39) 3, 4, "ref.go:165", #[⟨16, .data⟩, ⟨21, .data⟩, ⟨11, .guard⟩], some (11, false)⟩) (v := ?_) rfl (by kernel_rfl) (by kernel_rfl) (by kernel_rfl) (fun _ _ _ h => h) (Or.inl ⟨by rfl, ?hyr1x22q71⟩) (by assumption) ?restr1x22q71
      case hyr1x22q71 => intro wq hSw; (go_simp); (try with_reducible rfl)
      try simp only [Act.put, List.setIfInBounds_toArray, List.set_cons_zero, List.set_cons_succ]
      refine wpAnyH_take (i := 23) (oi := ⟨some 41, .pick (.tmp 29) (.const (.bool true)) (.tmp 40), 4, "ref.go:165", #[⟨11, .data⟩, ⟨22, .data⟩], none⟩) (v := ?_) rfl (by kernel_rfl) (by kernel_rfl) (by kernel_rfl) (fun _ _ _ h => h) (Or.inl ⟨by rfl, ?hyr1x23q74⟩) (by assumption) ?restr1x23q74
      case hyr1x23q74 => intro wq hSw; (go_simp); (try with_reducible rfl)
      try simp only [Act.put, List.setIfInBounds_toArray, List.set_cons_zero, List.set_cons_succ]
      refine wpAnyH_take (i := 24) (oi := ⟨some 42, .move (.tmp 41), 4, "ref.go:165", #[⟨23, .data⟩, ⟨11, .chain⟩], none⟩) (v := ?_) rfl (by kernel_rfl) (by kernel_rfl) (by kernel_rfl) (fun _ _ _ h => h) (Or.inl ⟨by rfl, ?hyr1x24q77⟩) (by assumption) ?restr1x24q77
      case hyr1x24q77 => intro wq hSw; (go_simp); (try with_reducible rfl)
      try simp only [Act.put, List.setIfInBounds_toArray, List.set_cons_zero, List.set_cons_succ]
      refine wpAnyH_take (i := 25) (oi := ⟨some 43, .move (.tmp 0), 24, "ref.go:165", #[⟨24, .guard⟩], some (24, false)⟩) (v := ?_) rfl (by kernel_rfl) (by kernel_rfl) (by kernel_rfl) (fun _ _ _ h => h) (Or.inl ⟨by rfl, ?hyr1x25q80⟩) (by assumption) ?restr1x25q80
      case hyr1x25q80 => intro wq hSw; (go_simp); (try with_reducible rfl)
      try simp only [Act.put, List.setIfInBounds_toArray, List.set_cons_zero, List.set_cons_succ]
      refine wpAnyH_take (i := 26) (oi := ⟨some 44, .move (.tmp 5), 3, "ref.go:165", #[⟨24, .guard⟩], some (24, false)⟩) (v := ?_) rfl (by kernel_rfl) (by kernel_rfl) (by kernel_rfl) (fun _ _ _ h => h) (Or.inl ⟨by rfl, ?hyr1x26q83⟩) (by assumption) ?restr1x26q83
      case hyr1x26q83 => intro wq hSw; (go_simp); (try with_reducible rfl)
      try simp only [Act.put, List.setIfInBounds_toArray, List.set_cons_zero, List.set_cons_succ]
      refine wpAnyH_take (i := 27) (oi := ⟨some 45, .indexAddr 24 (.tmp 43) (.tmp 44), 0, "ref.go:165", #[⟨25, .data⟩, ⟨26, .data⟩, ⟨24, .guard⟩], some (24, false)⟩) (v := ?_) rfl (by kernel_rfl) (by kernel_rfl) (by kernel_rfl) (fun _ _ _ h => h) (Or.inl ⟨by rfl, ?hyr1x27q86⟩) (by assumption) ?restr1x27q86
      case hyr1x27q86 => intro wq hSw; (go_simp); (try with_reducible rfl)
      try simp only [Act.put, List.setIfInBounds_toArray, List.set_cons_zero, List.set_cons_succ]
      refine wpAnyH_take (i := 28) (oi := ⟨some 46, .fieldAddr 45 (.tmp 45) 3, 0, "ref.go:165", #[⟨27, .data⟩, ⟨24, .guard⟩], some (24, false)⟩) (v := ?_) rfl (by kernel_rfl) (by kernel_rfl) (by kernel_rfl) (fun _ _ _ h => h) (Or.inl ⟨by rfl, ?hyr1x28q89⟩) (by assumption) ?restr1x28q89
      case hyr1x28q89 => intro wq hSw; (go_simp); (try with_reducible rfl)
      try simp only [Act.put, List.setIfInBounds_toArray, List.set_cons_zero, List.set_cons_succ]
      refine wpAnyH_take (i := 29) (oi := ⟨some 47, .load 3 (.tmp 46), 3, "ref.go:165", #[⟨28, .data⟩, ⟨24, .guard⟩], some (24, false)⟩) (v := ?_) rfl (by kernel_rfl) (by kernel_rfl) (by kernel_rfl) (fun _ _ _ h => h) (Or.inl ⟨by rfl, ?hyr1x29q92⟩) (by assumption) ?restr1x29q92
      case hyr1x29q92 => intro wq hSw; (have cq := A3.out wq hSw; go_simp); (try with_reducible rfl)
      try simp only [Act.put, List.setIfInBounds_toArray, List.set_cons_zero, List.set_cons_succ]
      refine wpAnyH_take (i := 30) (oi := ⟨some 48, .move (.tmp 1), 24, "ref.go:165", #[⟨24, .guard⟩], some (24, false)⟩) (v := ?_) rfl (by kernel_rfl) (by kernel_rfl) (by kernel_rfl) (fun _ _ _ h => h) (Or.inl ⟨by rfl, ?hyr1x30q95⟩) (by assumption) ?restr1x30q95
      case hyr1x30q95 => intro wq hSw; (go_simp); (try with_reducible rfl)
      try simp only [Act.put, List.setIfInBounds_toArray, List.set_cons_zero, List.set_cons_succ]
      refine wpAnyH_take (i := 31) (oi := ⟨some 49, .move (.tmp 5), 3, "ref.go:165", #[⟨24, .guard⟩], some (24, false)⟩) (v := ?_) rfl (by kernel_rfl) (by kernel_rfl) (by kernel_rfl) (fun _ _ _ h => h) (Or.inl ⟨by rfl, ?hyr1x31q98⟩) (by assumption) ?restr1x31q98
      case hyr1x31q98 => intro wq hSw; (go_simp); (try with_reducible rfl)
      try simp only [Act.put, List.setIfInBounds_toArray, List.set_cons_zero, List.set_cons_succ]
      refine wpAnyH_take (i := 32) (oi := ⟨some 50, .indexAddr 24 (.tmp 48) (.tmp 49), 0, "ref.go:165", #[⟨30, .data⟩, ⟨31, .data⟩, ⟨24, .guard⟩], some (24, false)⟩) (v := ?_) rfl (by kernel_rfl) (by kernel_rfl) (by kernel_rfl) (fun _ _ _ h => h) (Or.inl ⟨by rfl, ?hyr1x32q101⟩) (by assumption) ?restr1x32q101
      case hyr1x32q101 => intro wq hSw; (go_simp); (try with_reducible rfl)
      try simp only [Act.put, List.setIfInBounds_toArray, List.set_cons_zero, List.set_cons_succ]
      refine wpAnyH_take (i := 33) (oi := ⟨some 51, .fieldAddr 45 (.tmp 50) 3, 0, "ref.go:165", #[⟨32, .data⟩, ⟨24, .guard⟩], some (24, false)⟩) (v := ?_) rfl (by kernel_rfl) (by kernel_rfl) (by kernel_rfl) (fun _ _ _ h => h) (Or.inl ⟨by rfl, ?hyr1x33q104⟩) (by assumption) ?restr1x33q104
      case hyr1x33q104 => intro wq hSw; (go_simp); (try with_reducible rfl)
      try simp only [Act.put, List.setIfInBounds_toArray, List.set_cons_zero, List.set_cons_succ]
      refine wpAnyH_take (i := 34) (oi := ⟨some 52, .load 3 (.tmp 51), 3, "ref.go:165", #[⟨33, .data⟩, ⟨24, .guard⟩], some (24, false)⟩) (v := ?_) rfl (by kernel_rfl) (by kernel_rfl) (by kernel_rfl) (fun _ _ _ h => h) (Or.inl ⟨by rfl, ?hyr1x34q107⟩) (by assumption) ?restr1x34q107
      case hyr1x34q107 => intro wq hSw; (have cq := B3.out wq hSw; go_simp); (try with_reducible rfl)
      try simp only [Act.put, List.setIfInBounds_toArray, List.set_cons_zero, List.set_cons_succ]
      refine wpAnyH_take (i := 35) (oi := ⟨some 53, .binOp .neq 3 (.tmp 47) (.tmp 52) 3, 4, "ref.go:165", #[⟨29, .data⟩, ⟨34, .data⟩, ⟨24, .guard⟩], some (24, false)⟩) (v := ?_) rfl (by kernel_rfl) (by kernel_rfl) (by kernel_rfl) (fun _ _ _ h => h) (Or.inl ⟨by rfl, ?hyr1x35q110⟩) (by assumption) ?restr1x35q110
      case hyr1x35q110 => intro wq hSw; (go_simp); (try with_reducible rfl)
      try simp only [Act.put, List.setIfInBounds_toArray, List.set_cons_zero, List.set_cons_succ]
      refine wpAnyH_take (i := 36) (oi := ⟨some 54, .pick (.tmp 42) (.const (.bool true)) (.tmp 53), 4, "ref.go:165", #[⟨24, .data⟩, ⟨35, .data⟩], none⟩) (v := ?_) rfl (by kernel_rfl) (by kernel_rfl) (by kernel_rfl) (fun _ _ _ h => h) (Or.inl ⟨by rfl, ?hyr1x36q113⟩) (by assumption) ?restr1x36q113
      case hyr1x36q113 => intro wq hSw; (go_simp); (try with_reducible rfl)
      try simp only [Act.put, List.setIfInBounds_toArray, List.set_cons_zero, List.set_cons_succ]
      refine wpAnyH_take (i := 37) (oi := ⟨some 55, .move (.tmp 54), 4, "ref.go:165", #[⟨36, .data⟩, ⟨24, .chain⟩], none⟩) (v := ?_) rfl (by kernel_rfl) (by kernel_rfl) (by kernel_rfl) (fun _ _ _ h => h) (Or.inl ⟨by rfl, ?hyr1x37q116⟩) (by assumption) ?restr1x37q116
      case hyr1x37q116 => intro wq hSw; (go_simp); (try with_reducible rfl)
      try simp only [Act.put, List.setIfInBounds_toArray, List.set_cons_zero, List.set_cons_succ]
      refine wpAnyH_take (i := 38) (oi := ⟨some 56, .move (.tmp 0), 24, "ref.go:165", #[⟨37, .guard⟩], some (37, false)⟩) (v := ?_) rfl (by kernel_rfl) (by kernel_rfl) (by kernel_rfl) (fun _ _ _ h => h) (Or.inl ⟨by rfl, ?hyr1x38q119⟩) (by assumption) ?restr1x38q119
      case hyr1x38q119 => intro wq hSw; (go_simp); (try with_reducible rfl)
      try simp only [Act.put, List.setIfInBounds_toArray, List.set_cons_zero, List.set_cons_succ]
      refine wpAnyH_take (i := 39) (oi := ⟨some 57, .move (.tmp 5), 3, "ref.go:165", #[⟨37, .guard⟩], some (37, false)⟩) (v := ?_) rfl (by kernel_rfl) (by kernel_rfl) (by kernel_rfl) (fun _ _ _ h => h) (Or.inl ⟨by rfl, ?hyr1x39q122⟩) (by assumption) ?restr1x39q122
      case hyr1x39q122 => intro wq hSw; (go_simp); (try with_reducible rfl)
      try simp only [Act.put, List.setIfInBounds_toArray, List.set_cons_zero, List.set_cons_succ]
      refine wpAnyH_take (i := 40) (oi := ⟨some 58, .indexAddr 24 (.tmp 56) (.tmp 57), 0, "ref.go:165", #[⟨38, .data⟩, ⟨39, .data⟩, ⟨37, .guard⟩], some (37, false)⟩) (v := ?_) rfl (by kernel_rfl) (by kernel_rfl) (by kernel_rfl) (fun _ _ _ h => h) (Or.inl ⟨by rfl, ?hyr1x40q125⟩) (by assumption) ?restr1x40q125
      case hyr1x40q125 => intro wq hSw; (go_simp); (try with_reducible rfl)
      try simp only [Act.put, List.setIfInBounds_toArray, List.set_cons_zero, List.set_cons_succ]
      refine wpAnyH_take (i := 41) (oi := ⟨some 59, .fieldAddr 45 (.tmp 58) 1, 0, "ref.go:165", #[⟨40, .data⟩, ⟨37, .guard⟩], some (37, false)⟩) (v := ?_) rfl (by kernel_rfl) (by kernel_rfl) (by kernel_rfl) (fun _ _ _ h => h) (Or.inl ⟨by rfl, ?hyr1x41q128⟩) (by assumption) ?restr1x41q128
      case hyr1x41q128 => intro wq hSw; (go_simp); (try with_reducible rfl)
      try simp only [Act.put, List.setIfInBounds_toArray, List.set_cons_zero, List.set_cons_succ]
      refine wpAnyH_take (i := 42) (oi := ⟨some 60, .load 22 (.tmp 59), 22, "ref.go:165", #[⟨41, .data⟩, ⟨37, .guard⟩], some (37, false)⟩) (v := ?_) rfl (by kernel_rfl) (by kernel_rfl) (by kernel_rfl) (fun _ _ _ h => h) (Or.inl ⟨by rfl, ?hyr1x42q131⟩) (by assumption) ?restr1x42q131
      case hyr1x42q131 => intro wq hSw; (have cq := A1.out wq hSw; go_simp); (try with_reducible rfl)
      try simp only [Act.put, List.setIfInBounds_toArray, List.set_cons_zero, List.set_cons_succ]
      refine wpAnyH_take (i := 43) (oi := ⟨some 61, .move (.tmp 1), 24, "ref.go:165", #[⟨37, .guard⟩], some (37, false)⟩) (v := ?_) rfl (by kernel_rfl) (by kernel_rfl) (by kernel_rfl) (fun _ _ _ h => h) (Or.inl ⟨by rfl, ?hyr1x43q134⟩) (by assumption) ?restr1x43q134
      case hyr1x43q134 => intro wq hSw; (go_simp); (try with_reducible rfl)
      try simp only [Act.put, List.setIfInBounds_toArray, List.set_cons_zero, List.set_cons_succ]
      refine wpAnyH_take (i := 44) (oi := ⟨some 62, .move (.tmp 5), 3, "ref.go:165", #[⟨37, .guard⟩], some (37, false)⟩) (v := ?_) rfl (by kernel_rfl) (by kernel_rfl) (by kernel_rfl) (fun _ _ _ h => h) (Or.inl ⟨by rfl, ?hyr1x44q137⟩) (by assumption) ?restr1x44q137
      case hyr1x44q137 => intro wq hSw; (go_simp); (try with_reducible rfl)
      try simp only [Act.put, List.setIfInBounds_toArray, List.set_cons_zero, List.set_cons_succ]
      refine wpAnyH_take (i := 45) (oi := ⟨some 63, .indexAddr 24 (.tmp 61) (.tmp 62), 0, "ref.go:165", #[⟨43, .data⟩, ⟨44, .data⟩, ⟨37, .guard⟩], some (37, false)⟩) (v := ?_) rfl (by kernel_rfl) (by kernel_rfl) (by kernel_rfl) (fun _ _ _ h => h) (Or.inl ⟨by rfl, ?hyr1x45q140⟩) (by assumption) ?restr1x45q140
      case hyr1x45q140 => intro wq hSw; (go_simp); (try with_reducible rfl)
      try simp only [Act.put, List.setIfInBounds_toArray, List.set_cons_zero, List.set_cons_succ]
      refine wpAnyH_take (i := 46) (oi := ⟨some 64, .fieldAddr 45 (.tmp 63) 1, 0, "ref.go:165", #[⟨45, .data⟩, ⟨37, .guard⟩], some (37, false)⟩) (v := ?_) rfl (by kernel_rfl) (by kernel_rfl) (by kernel_rfl) (fun _ _ _ h => h) (Or.inl ⟨by rfl, ?hyr1x46q143⟩) (by assumption) ?restr1x46q143
      case hyr1x46q143 => intro wq hSw; (go_simp); (try with_reducible rfl)
      try simp only [Act.put, List.setIfInBounds_toArray, List.set_cons_zero, List.set_cons_succ]
      refine wpAnyH_take (i := 47) (oi := ⟨some 65, .load 22 (.tmp 64), 22, "ref.go:165", #[⟨46, .data⟩, ⟨37, .guard⟩], some (37, false)⟩) (v := ?_) rfl (by kernel_rfl) (by kernel_rfl) (by kernel_rfl) (fun _ _ _ h => h) (Or.inl ⟨by rfl, ?hyr1x47q146⟩) (by assumption) ?restr1x47q146
      case hyr1x47q146 => intro wq hSw; (have cq := B1.out wq hSw; go_simp); (try with_reducible rfl)
      try simp only [Act.put, List.setIfInBounds_toArray, List.set_cons_zero, List.set_cons_succ]
      refine wpAnyH_ready (rs := [48]) (by kernel_rfl) (by simp) ?_
      refine AllReadyH.cons (o := ⟨some 66, .call { callee := .value (.func 64), args := #[.tmp 60, .tmp 65], argTypes := #[22, 22] }, 4, "ref.go:165", #[⟨42, .data⟩, ⟨47, .data⟩, ⟨37, .chain⟩, ⟨37, .guard⟩], some (37, false)⟩) rfl (fun K hK => ?_) AllReadyH.nil
      go_simp
      (with_reducible refine (sameints_x _ _ _ _ _ y.known _ (S1.out.nx hHeld) (T1.out.nx hHeld) (by omega)).mono ?_)
      rintro e wb ⟨rfl, kk⟩
      replace hHeld := hHeld.nx kk
      clear kk
      refine hK.out _ _ (hHeld) (fun hHeld => ?_)
      clear hK K
      try simp only [Act.put, List.setIfInBounds_toArray, List.set_cons_zero, List.set_cons_succ]
      refine wpAnyH_take (i := 49) (oi := ⟨some 67, .unOp .not 4 (.tmp 66), 4, "ref.go:165", #[⟨48, .data⟩, ⟨37, .guard⟩], some (37, false)⟩) (v := ?_) rfl (by kernel_rfl) (by kernel_rfl) (by kernel_rfl) (fun _ _ _ h => h) (Or.inl ⟨by rfl, ?hyr1x49q159⟩) (by assumption) ?restr1x49q159
      case hyr1x49q159 => intro wq hSw; (go_simp); (try with_reducible rfl)
      try simp only [Act.put, List.setIfInBounds_toArray, List.set_cons_zero, List.set_cons_succ]
      refine wpAnyH_take (i := 50) (oi := ⟨some 68, .pick (.tmp 55) (.const (.bool true)) (.tmp 67), 4, "ref.go:165", #[⟨37, .data⟩, ⟨49, .data⟩], none⟩) (v := ?_) rfl (by kernel_rfl) (by kernel_rfl) (by kernel_rfl) (fun _ _ _ h => h) (Or.inl ⟨by rfl, ?hyr1x50q162⟩) (by assumption) ?restr1x50q162
      case hyr1x50q162 => intro wq hSw; (go_simp); (try with_reducible rfl)
      try simp only [Act.put, List.setIfInBounds_toArray, List.set_cons_zero, List.set_cons_succ]
      refine wpAnyH_take (i := 51) (oi := ⟨some 69, .move (.tmp 68), 4, "ref.go:165", #[⟨50, .data⟩, ⟨48, .chain⟩], none⟩) (v := ?_) rfl (by kernel_rfl) (by kernel_rfl) (by kernel_rfl) (fun _ _ _ h => h) (Or.inl ⟨by rfl, ?hyr1x51q165⟩) (by assumption) ?restr1x51q165
      case hyr1x51q165 => intro wq hSw; (go_simp); (try with_reducible rfl)
      try simp only [Act.put, List.setIfInBounds_toArray, List.set_cons_zero, List.set_cons_succ]
      refine wpAnyH_take (i := 52) (oi := ⟨some 70, .move (.tmp 0), 24, "ref.go:165", #[⟨51, .guard⟩], some (51, false)⟩) (v := ?_) rfl (by kernel_rfl) (by kernel_rfl) (by kernel_rfl) (fun _ _ _ h => h) (Or.inl ⟨by rfl, ?hyr1x52q168⟩) (by assumption) ?restr1x52q168
      case hyr1x52q168 => intro wq hSw; (go_simp); (try with_reducible rfl)
      try simp only [Act.put, List.setIfInBounds_toArray, List.set_cons_zero, List.set_cons_succ]
      refine wpAnyH_take (i := 53) (oi := ⟨some 71, .move (.tmp 5), 3, "ref.go:165", #[⟨51, .guard⟩], some (51, false)⟩) (v := ?_) rfl (by kernel_rfl) (by kernel_rfl) (by kernel_rfl) (fun _ _ _ h => h) (Or.inl ⟨by rfl, ?hyr1x53q171⟩) (by assumption) ?restr1x53q171
      case hyr1x53q171 => intro wq hSw; (go_simp); (try with_reducible rfl)
      try simp only [Act.put, List.setIfInBounds_toArray, List.set_cons_zero, List.set_cons_succ]
      refine wpAnyH_take (i := 54) (oi := ⟨some 72, .indexAddr 24 (.tmp 70) (.tmp 71), 0, "ref.go:165", #[⟨52, .data⟩, ⟨53, .data⟩, ⟨51, .guard⟩], some (51, false)⟩) (v := ?_) rfl (by kernel_rfl) (by kernel_rfl) (by kernel_rfl) (fun _ _ _ h => h) (Or.inl ⟨by rfl, ?hyr1x54q174⟩) (by assumption) ?restr1x54q174
      case hyr1x54q174 => intro wq hSw; (go_simp); (try with_reducible rfl)
      try simp only [Act.put, List.setIfInBounds_toArray, List.set_cons_zero, List.set_cons_succ]
      refine wpAnyH_take (i := 55) (oi := ⟨some 73, .fieldAddr 45 (.tmp 72) 4, 0, "ref.go:165", #[⟨54, .data⟩, ⟨51, .guard⟩], some (51, false)⟩) (v := ?_) rfl (by kernel_rfl) (by kernel_rfl) (by kernel_rfl) (fun _ _ _ h => h) (Or.inl ⟨by rfl, ?hyr1x55q177⟩) (by assumption) ?restr1x55q177
      case hyr1x55q177 => intro wq hSw; (go_simp); (try with_reducible rfl)
      try simp only [Act.put, List.setIfInBounds_toArray, List.set_cons_zero, List.set_cons_succ]
      refine wpAnyH_take (i := 56) (oi := ⟨some 74, .load 43 (.tmp 73), 43, "ref.go:165", #[⟨55, .data⟩, ⟨51, .guard⟩], some (51, false)⟩) (v := ?_) rfl (by kernel_rfl) (by kernel_rfl) (by kernel_rfl) (fun _ _ _ h => h) (Or.inl ⟨by rfl, ?hyr1x56q180⟩) (by assumption) ?restr1x56q180
      case hyr1x56q180 => intro wq hSw; (have cq := A4.out wq hSw; go_simp); (try with_reducible rfl)
      try simp only [Act.put, List.setIfInBounds_toArray, List.set_cons_zero, List.set_cons_succ]
      refine wpAnyH_take (i := 57) (oi := ⟨some 75, .call { callee := .builtin .len, args := #[.tmp 74], argTypes := #[43] }, 3, "ref.go:165", #[⟨56, .data⟩, ⟨51, .guard⟩], some (51, false)⟩) (v := ?_) rfl (by kernel_rfl) (by kernel_rfl) (by kernel_rfl) (fun _ _ _ h => h) (Or.inl ⟨by rfl, ?hyr1x57q183⟩) (by assumption) ?restr1x57q183
      case hyr1x57q183 => intro wq hSw; (go_simp); (try with_reducible rfl)
      try simp only [Act.put, List.setIfInBounds_toArray, List.set_cons_zero, List.set_cons_succ]
      refine wpAnyH_take (i := 58) (oi := ⟨some 76, .move (.tmp 1), 24, "ref.go:165", #[⟨51, .guard⟩], some (51, false)⟩) (v := ?_) rfl (by kernel_rfl) (by kernel_rfl) (by kernel_rfl) (fun _ _ _ h => h) (Or.inl ⟨by rfl, ?hyr1x58q186⟩) (by assumption) ?restr1x58q186
      case hyr1x58q186 => intro wq hSw; (go_simp); (try with_reducible rfl)
      try simp only [Act.put, List.setIfInBounds_toArray, List.set_cons_zero, List.set_cons_succ]
      refine wpAnyH_take (i := 59) (oi := ⟨some 77, .move (.tmp 5), 3, "ref.go:165", #[⟨51, .guard⟩], some (51, false)⟩) (v := ?_) rfl (by kernel_rfl) (by kernel_rfl) (by kernel_rfl) (fun _ _ _ h => h) (Or.inl ⟨by rfl, ?hyr1x59q189⟩) (by assumption) ?restr1x59q189
      case hyr1x59q189 => intro wq hSw; (go_simp); (try with_reducible rfl)
      try simp only [Act.put, List.setIfInBounds_toArray, List.set_cons_zero, List.set_cons_succ]
      refine wpAnyH_take (i := 60) (oi := ⟨some 78, .indexAddr 24 (.tmp 76) (.tmp 77), 0, "ref.go:165", #[⟨58, .data⟩, ⟨59, .data⟩, ⟨51, .guard⟩], some (51, false)⟩) (v := ?_) rfl (by kernel_rfl) (by kernel_rfl) (by kernel_rfl) (fun _ _ _ h => h) (Or.inl ⟨by rfl, ?hyr1x60q192⟩) (by assumption) ?restr1x60q192
      case hyr1x60q192 => intro wq hSw; (go_simp); (try with_reducible rfl)
      try simp only [Act.put, List.setIfInBounds_toArray, List.set_cons_zero, List.set_cons_succ]
      refine wpAnyH_take (i := 61) (oi := ⟨some 79, .fieldAddr 45 (.tmp 78) 4, 0, "ref.go:165", #[⟨60, .data⟩, ⟨51, .guard⟩], some (51, false)⟩) (v := ?_) rfl (by kernel_rfl) (by kernel_rfl) (by kernel_rfl) (fun _ _ _ h => h) (Or.inl ⟨by rfl, ?hyr1x61q195⟩) (by assumption) ?restr1x61q195
      case hyr1x61q195 => intro wq hSw; (go_simp); (try with_reducible rfl)
      try simp only [Act.put, List.setIfInBounds_toArray, List.set_cons_zero, List.set_cons_succ]
      refine wpAnyH_take (i := 62) (oi := ⟨some 80, .load 43 (.tmp 79), 43, "ref.go:165", #[⟨61, .data⟩, ⟨51, .guard⟩], some (51, false)⟩) (v := ?_) rfl (by kernel_rfl) (by kernel_rfl) (by kernel_rfl) (fun _ _ _ h => h) (Or.inl ⟨by rfl, ?hyr1x62q198⟩) (by assumption) ?restr1x62q198
      case hyr1x62q198 => intro wq hSw; (have cq := B4.out wq hSw; go_simp); (try with_reducible rfl)
      try simp only [Act.put, List.setIfInBounds_toArray, List.set_cons_zero, List.set_cons_succ]
      refine wpAnyH_take (i := 63) (oi := ⟨some 81, .call { callee := .builtin .len, args := #[.tmp 80], argTypes := #[43] }, 3, "ref.go:165", #[⟨62, .data⟩, ⟨51, .guard⟩], some (51, false)⟩) (v := ?_) rfl (by kernel_rfl) (by kernel_rfl) (by kernel_rfl) (fun _ _ _ h => h) (Or.inl ⟨by rfl, ?hyr1x63q201⟩) (by assumption) ?restr1x63q201
      case hyr1x63q201 => intro wq hSw; (go_simp); (try with_reducible rfl)
      try simp only [Act.put, List.setIfInBounds_toArray, List.set_cons_zero, List.set_cons_succ]
      refine wpAnyH_take (i := 64) (oi := ⟨some 82, .binOp .neq 3 (.tmp 75) (.tmp 81) 3, 4, "ref.go:165", #[⟨57, .data⟩, ⟨63, .data⟩, ⟨51, .guard⟩], some (51, false)⟩) (v := ?_) rfl (by kernel_rfl) (by kernel_rfl) (by kernel_rfl) (fun _ _ _ h => h) (Or.inl ⟨by rfl, ?hyr1x64q204⟩) (by assumption) ?restr1x64q204
      case hyr1x64q204 => intro wq hSw; (go_simp); (try with_reducible rfl)
      try simp only [Act.put, List.setIfInBounds_toArray, List.set_cons_zero, List.set_cons_succ]
      refine wpAnyH_take (i := 65) (oi := ⟨some 83, .pick (.tmp 69) (.const (.bool true)) (.tmp 82), 4, "ref.go:165", #[⟨51, .data⟩, ⟨64, .data⟩], none⟩) (v := ?_) rfl (by kernel_rfl) (by kernel_rfl) (by kernel_rfl) (fun _ _ _ h => h) (Or.inl ⟨by rfl, ?hyr1x65q207⟩) (by assumption) ?restr1x65q207
      case hyr1x65q207 => intro wq hSw; (go_simp); (try with_reducible rfl)
      try simp only [Act.put, List.setIfInBounds_toArray, List.set_cons_zero, List.set_cons_succ]
      refine wpAnyH_done (by kernel_rfl) ?_ _
      have K6 := Lib.hid hHeld
      clear hHeld hDrew
      have cq := A4.out _ K6.out
      go_wp2_with fail
      go_loopw [6] (fun i wr => KtRel m4 wb i wr) (fun i _ => m4 - (intOf i).toNat)
      case atStart => exact ⟨0, Nat.zero_le _, rfl, Ex.refl _⟩
      case round =>
        clear cq
        obtain ⟨t, ht, rfl, kv⟩ := hrel
        obtain ⟨wj, rfl⟩ : ∃ wj : World, wj = wr := ⟨_, rfl⟩
        have KV := Lib.hid (K6.out.nx kv)
        have KJ := Lib.hid kv
        clear kv
        have cq := A4.out _ KV.out
        have cr := B4.out _ KV.out
        by_cases htt : t < m4
        · obtain ⟨xa, oa, z, rfl, hxa, hz, hca⟩ := (S4.out.nx KV.out).at htt
          obtain ⟨xb, ob, z', rfl, hxb, hz', hcb⟩ := (T4.out.nx KV.out).at htt
          obtain rfl : z = z' := Option.some.inj (hz.symm.trans hz')
          have f0 : wj.cell? ⟨xa, oa + t * 4, none⟩ = some (.int .i64 z.1) := by simpa using hca 0 _ rfl
          have f1 : wj.cell? ⟨xa, oa + t * 4 + 1, none⟩ = some (.int .i64 z.2.1) := by simpa using hca 1 _ rfl
          have f2 : wj.cell? ⟨xa, oa + t * 4 + 1 + 1, none⟩ = some (.int .i64 z.2.2.1) := by simpa [Nat.add_assoc] using hca 2 _ rfl
          have f3 : wj.cell? ⟨xa, oa + t * 4 + 1 + 1 + 1, none⟩ = some (.int .i64 z.2.2.2) := by simpa [Nat.add_assoc] using hca 3 _ rfl
          have g0 : wj.cell? ⟨xb, ob + t * 4, none⟩ = some (.int .i64 z.1) := by simpa using hcb 0 _ rfl
          have g1 : wj.cell? ⟨xb, ob + t * 4 + 1, none⟩ = some (.int .i64 z.2.1) := by simpa using hcb 1 _ rfl
          have g2 : wj.cell? ⟨xb, ob + t * 4 + 1 + 1, none⟩ = some (.int .i64 z.2.2.1) := by simpa [Nat.add_assoc] using hcb 2 _ rfl
          have g3 : wj.cell? ⟨xb, ob + t * 4 + 1 + 1 + 1, none⟩ = some (.int .i64 z.2.2.2) := by simpa [Nat.add_assoc] using hcb 3 _ rfl
          have RR := Lib.hid (fun m => show KtRel m4 wb (.int .i64 ((t : Int) + 1)) (wj.drewN m) from ⟨t + 1, by omega, by go_num, KJ.out.drewN m⟩)
          clear hca hcb hz hz' hxa hxb
          go_wp2_with fail
          go_quiet (fail)
          go_wp2_with fail
          exact ⟨RR.out _, by simp [intOf]; omega⟩
        · obtain rfl : t = m4 := by omega
          have RR := Lib.hid (show KtRel n w (.int .i64 ((k : Int) + 1)) wj from ⟨k + 1, by omega, by go_num, KW.out.nx KV.out⟩)
          clear ht htt
          go_wp2_with fail
          exact ⟨RR.out, by simp [intOf]; omega⟩
    · obtain rfl : k = n := by omega
      have K1 := Lib.hid KW.out
      clear hk
      go_wp2_with fail
      go_ret
      exact ⟨rfl, K1.out⟩
end Go.Proofs.YtbnbjiddffihoaaGreatDoor

/- The sanity check of chapter 17. -/
namespace Go.Proofs.YtbnbjiddffihoaaGreatDoor
open Go.RowKit

def threeN : List Nd := [⟨1, ⟨#[97]⟩, 0⟩, ⟨2, ⟨#[98]⟩, 1⟩, ⟨3, ⟨#[99]⟩, 2⟩]
def lowI : Nat → List Pr
  | 0 => [⟨1, 0, 2, [], []⟩, ⟨2, 1, 3, [], []⟩, ⟨3, 2, 0, [], []⟩]
  | k + 1 => bRoundN threeN (lowI k) 1
def thrP : List Pr := peersN threeN 1 1
theorem threeW : ∀ x ∈ threeN, x.word < 4294967296 := by decide +kernel
theorem thr_len : thrP.length = 3 := by decide +kernel
theorem thr_round : bRoundN threeN thrP 1 = thrP := by kernel_rfl
theorem smallA {P : List Pr} (h : P.all (fun p => decide (p.known.length ≤ 10) && decide (p.near.length ≤ 10)) = true) : ∀ p ∈ P, p.known.length ≤ 10 ∧ p.near.length ≤ 10 := fun p hp => by
  have := List.all_eq_true.1 h p hp
  simpa only [Bool.and_eq_true, decide_eq_true_eq] using this
theorem thr_small : ∀ p ∈ thrP, p.known.length ≤ 10 ∧ p.near.length ≤ 10 := smallA (by decide +kernel)
theorem low_small : ∀ k, k ≤ 3 → ∀ p ∈ lowI k, p.known.length ≤ 10 ∧ p.near.length ≤ 10
  | 0, _ => smallA (by decide +kernel)
  | 1, _ => smallA (by decide +kernel)
  | 2, _ => smallA (by decide +kernel)
  | 3, _ => smallA (by decide +kernel)
  | k + 4, h => absurd h (by omega)
theorem low_len : ∀ k, k ≤ 3 → (lowI k).length = 3
  | 0, _ => by decide +kernel
  | 1, _ => by decide +kernel
  | 2, _ => by decide +kernel
  | 3, _ => by decide +kernel
  | k + 4, h => absurd h (by omega)
theorem small10 {P : List Pr} (h : ∀ p ∈ P, p.known.length ≤ 10 ∧ p.near.length ≤ 10) : SmallP P := fun p hp => by have := h p hp; omega
theorem three_b : (buildN threeN 1).2 = 0 := by decide +kernel
theorem thr_exact : exactB threeN thrP 1 = true := by
  rw [exactB_eq three_b]
  exact decide_eq_true (by decide +kernel)
theorem low_exact : exactB threeN (lowI 3) 1 = true := by
  rw [exactB_eq three_b]
  exact decide_eq_true (by decide +kernel)
theorem low_link : ((lowI 3)[0]?).map (fun y => linkB threeN y 1) = some (0, 3) := by decide +kernel
theorem rnds_31 : rndsB 3 1 = 3 := by decide +kernel
def TnPost (w : World) (e : Ending) (w' : World) : Prop := ∃ a, e = .returned (.slice a 3 3) ∧ Sl 3 encN w' a 3 threeN ∧ Ex w w'
theorem three_x (w : World) : Calls Tryz.prog 56 #[] w (TnPost w) := by
  go_enter Tryz.func56, Tryz.ntmps56
  go_wp2_with fail
  go_ret
  exact ⟨_, rfl, Sl.lit threeN rfl rfl (fun _ => rfl) rfl, Ex.new _ _⟩
theorem lowLit (w : World) : ∃ g v, g = w.heap.size ∧ v = w.alloc (.cells #[.int .i64 1, .slice none 0 0, .int .i64 0, .int .i64 2, .slice none 0 0, .int .i64 2, .slice none 0 0, .int .i64 1, .int .i64 3, .slice none 0 0, .int .i64 3, .slice none 0 0, .int .i64 2, .int .i64 0, .slice none 0 0] 45) ∧
    PL v (some ⟨g, 0, none⟩) 3 (lowI 0) ∧ Ex w v := by
  refine ⟨_, _, rfl, rfl, ⟨[((1, 0, 2), (none, 0, 0), (none, 0, 0)), ((2, 1, 3), (none, 0, 0), (none, 0, 0)), ((3, 2, 0), (none, 0, 0), (none, 0, 0))], ?_, rfl, fun j q p hq hp => ?_⟩, Ex.new _ _⟩
  · exact Sl.lit (enc := encQ) (sz := 5) (w := w) (s := w.heap.size) (ty := 45) (n := 3) [((1, 0, 2), (none, 0, 0), (none, 0, 0)), ((2, 1, 3), (none, 0, 0), (none, 0, 0)), ((3, 2, 0), (none, 0, 0), (none, 0, 0))] rfl rfl encQ_len rfl
  · rcases j with _ | _ | _ | j
    · simp only [List.getElem?_cons_zero, Option.some.injEq, lowI] at hq hp
      subst hq hp
      exact ⟨rfl, Sl.nil _ _ _ _, Sl.nil _ _ _ _⟩
    · simp only [List.getElem?_cons_zero, List.getElem?_cons_succ, Option.some.injEq, lowI] at hq hp
      subst hq hp
      exact ⟨rfl, Sl.nil _ _ _ _, Sl.nil _ _ _ _⟩
    · simp only [List.getElem?_cons_zero, List.getElem?_cons_succ, Option.some.injEq, lowI] at hq hp
      subst hq hp
      exact ⟨rfl, Sl.nil _ _ _ _, Sl.nil _ _ _ _⟩
    · simp at hq
def LwRel (w : World) (o i : Value) (wr : World) : Prop :=
  ∃ (k : Nat) (a : Option Addr) (c : Nat), k ≤ 3 ∧ i = .int .i64 k ∧ o = .slice a 3 c ∧ PL wr a 3 (lowI k) ∧ Ex w wr
set_option maxRecDepth 100000 in
set_option maxHeartbeats 8000000 in
theorem sane17_x (w : World) (hT : TabG w) : Calls Tryz.prog 18 #[] w fun e w' => e = .returned (.bool true) ∧ Ex w w' := by
  go_enter Tryz.func18, Tryz.ntmps18
  have k := Ex.refl w
  go_wp2_with fail
  (with_reducible refine (three_x _).mono ?_)
  rintro e w1 ⟨a1, rfl, S1, kk⟩
  replace k := k.nx kk
  replace hT := hT.nx kk
  clear kk
  go_wp2_with fail
  (with_reducible refine (peers_p _ _ _ threeN 1 1 _ S1 (by omega) (by omega) (by unfold maxLen; omega) threeW hT).mono ?_)
  rintro e w2 ⟨v, qs, rfl, own, kk⟩
  replace k := k.nx kk
  replace hT := hT.nx kk
  clear kk S1
  replace own : OwnPr w1.heap.size w2 v qs thrP := own
  obtain ⟨aP, cP, rfl, PP, _, _, _, _⟩ := own.pl
  rw [thr_len] at PP ⊢
  clear own
  go_wp2_with fail
  (with_reducible refine (three_x _).mono ?_)
  rintro e w3 ⟨a1, rfl, S1, kk⟩
  replace k := k.nx kk
  replace hT := hT.nx kk
  replace PP := PP.nx kk
  clear kk
  go_wp2_with fail
  (with_reducible refine (bround_p _ _ _ threeN _ _ _ thrP 1 _ S1 (by omega) (by omega) (by unfold maxLen; omega) threeW PP (by omega) (small10 thr_small)).mono ?_)
  rintro e w4 ⟨v, qs, rfl, own, kk⟩
  replace k := k.nx kk
  replace hT := hT.nx kk
  replace PP := PP.nx kk
  clear kk S1
  rw [thr_round] at own
  obtain ⟨aQ, cQ, rfl, PQ, _, _, _, _⟩ := own.pl
  rw [thr_len] at PQ ⊢
  clear own
  obtain ⟨g5, w5, hg5, hw5, PL0, kk⟩ := lowLit w4
  replace k := k.nx kk
  replace hT := hT.nx kk
  replace PP := PP.nx kk
  replace PQ := PQ.nx kk
  have Hg5 := Lib.hid hg5
  have Hw5 := Lib.hid hw5
  have PP := Lib.hid PP
  have PQ := Lib.hid PQ
  have hT := Lib.hid hT
  have k := Lib.hid k
  clear kk hg5 hw5
  go_upto_region 5 with fail
  rw [← Hg5.out, ← Hw5.out]
  clear Hg5 Hw5
  go_loopw [3, 4] (fun o i wr => LwRel w5 o i wr) (fun _ i _ => 3 - (intOf i).toNat)
  case atStart => exact ⟨0, _, _, by omega, rfl, rfl, PL0, Ex.refl _⟩
  case round =>
    clear PL0
    obtain ⟨j, aL, cL, hj, rfl, rfl, PJ, ki⟩ := hrel
    obtain ⟨wi, rfl⟩ : ∃ wi : World, wi = wr := ⟨_, rfl⟩
    by_cases hjm : j < 3
    · go_wp2_with fail
      (with_reducible refine (three_x _).mono ?_)
      rintro e w6 ⟨a1, rfl, S1, kk⟩
      replace ki := ki.nx kk
      replace PJ := PJ.nx kk
      clear kk
      go_wp2_with fail
      (with_reducible refine (bround_p _ _ _ threeN _ _ _ (lowI j) 1 _ S1 (by omega) (by omega) (by unfold maxLen; omega) threeW PJ (by omega) (small10 (low_small j (by omega)))).mono ?_)
      rintro e w7 ⟨v, qs, rfl, own, kk⟩
      replace ki := ki.nx kk
      replace own : OwnPr w6.heap.size w7 v qs (lowI (j + 1)) := own
      obtain ⟨aM, cM, rfl, PM, _, _, _, _⟩ := own.pl
      rw [low_len (j + 1) (by omega)] at PM ⊢
      have PM := Lib.hid PM
      have ki := Lib.hid ki
      clear kk own PJ S1
      go_wp2_with fail
      exact ⟨⟨j + 1, _, _, by omega, by go_num, rfl, PM.out, ki.out⟩, by simp [intOf]; omega⟩
    · obtain rfl : j = 3 := by omega
      have PZ := Lib.hid PJ
      have K := Lib.hid (k.out.nx ki)
      replace PP := Lib.hid (PP.out.nx ki)
      replace PQ := Lib.hid (PQ.out.nx ki)
      have T := Lib.hid (hT.out.nx ki)
      obtain ⟨x5, o5, b1, m1, d1, b4, m4, d4, y, hea, hx5, hy, e0, e1, e2, e3, e4, s1, s4⟩ := PJ.rd (show 0 < 3 by omega)
      subst hea
      have HLK : Hid (linkB threeN y 1 = (0, 3)) := Lib.hid (by have h := low_link; rw [hy] at h; simpa using h)
      have hm4 : m4 ≤ 10 := by have := (low_small 3 (by omega) y (List.mem_of_getElem? hy)).2; have := s4.len; omega
      have S4 := Lib.hid s4
      have EY0 : Hid (∀ wq, Ex wi wq → wq.cell? ⟨x5, o5, none⟩ = some (.int .i64 y.id)) := Lib.hid (fun wq kq => Chg.cellv kq (by simpa using e0) hx5)
      have EY1 : Hid (∀ wq, Ex wi wq → wq.cell? ⟨x5, o5 + 1, none⟩ = some (.slice b1 m1 d1)) := Lib.hid (fun wq kq => Chg.cellv kq (by simpa using e1) hx5)
      have EY2 : Hid (∀ wq, Ex wi wq → wq.cell? ⟨x5, o5 + 1 + 1, none⟩ = some (.int .i64 y.left)) := Lib.hid (fun wq kq => Chg.cellv kq (by simpa using e2) hx5)
      have EY3 : Hid (∀ wq, Ex wi wq → wq.cell? ⟨x5, o5 + 1 + 1 + 1, none⟩ = some (.int .i64 y.right)) := Lib.hid (fun wq kq => Chg.cellv kq (by simpa using e3) hx5)
      have EY4 : Hid (∀ wq, Ex wi wq → wq.cell? ⟨x5, o5 + 1 + 1 + 1 + 1, none⟩ = some (.slice b4 m4 d4)) := Lib.hid (fun wq kq => Chg.cellv kq (by simpa using e4) hx5)
      clear e0 e1 e2 e3 e4 s1 s4 hy hx5 ki PJ hj hjm k hT
      go_wp2_with fail
      refine wp_region_held_drew (S := Ex wi) (by kernel_rfl) ((Ex.refl wi).drew) (fun hHeld => ?_)
      obtain ⟨wd, hwdx⟩ : ∃ wd : World, wd = World.drew wi := ⟨_, rfl⟩
      rw [← hwdx] at hHeld ⊢
      have hDrew : Ex wi wd := by rw [hwdx]; exact (Ex.refl wi).drew
      clear hwdx
      refine wpAnyH_take (i := 0) (oi := ⟨some 21, .move (.tmp 1), 24, "law.go:28", #[], none⟩) (v := ?_) rfl (by kernel_rfl) (by kernel_rfl) (by kernel_rfl) (fun _ _ _ h => h) (Or.inl ⟨by rfl, ?hyr1x0q5⟩) (by assumption) ?restr1x0q5
      case hyr1x0q5 => intro wq hSw; (go_simp); (try with_reducible rfl)
      try simp only [Act.put, List.setIfInBounds_toArray, List.set_cons_zero, List.set_cons_succ]
      refine wpAnyH_take (i := 1) (oi := ⟨some 22, .call { callee := .builtin .len, args := #[.tmp 21], argTypes := #[24] }, 3, "law.go:28", #[⟨0, .data⟩], none⟩) (v := ?_) rfl (by kernel_rfl) (by kernel_rfl) (by kernel_rfl) (fun _ _ _ h => h) (Or.inl ⟨by rfl, ?hyr1x1q8⟩) (by assumption) ?restr1x1q8
      case hyr1x1q8 => intro wq hSw; (go_simp); (try with_reducible rfl)
      try simp only [Act.put, List.setIfInBounds_toArray, List.set_cons_zero, List.set_cons_succ]
      refine wpAnyH_take (i := 2) (oi := ⟨some 23, .binOp .eql 3 (.tmp 22) (.const (.int .i64 3)) 3, 4, "law.go:28", #[⟨1, .data⟩], none⟩) (v := ?_) rfl (by kernel_rfl) (by kernel_rfl) (by kernel_rfl) (fun _ _ _ h => h) (Or.inl ⟨by rfl, ?hyr1x2q11⟩) (by assumption) ?restr1x2q11
      case hyr1x2q11 => intro wq hSw; (go_simp); (try with_reducible rfl)
      try simp only [Act.put, List.setIfInBounds_toArray, List.set_cons_zero, List.set_cons_succ]
      refine wpAnyH_take (i := 3) (oi := ⟨some 24, .move (.tmp 23), 4, "law.go:28", #[⟨2, .data⟩], none⟩) (v := ?_) rfl (by kernel_rfl) (by kernel_rfl) (by kernel_rfl) (fun _ _ _ h => h) (Or.inl ⟨by rfl, ?hyr1x3q14⟩) (by assumption) ?restr1x3q14
      case hyr1x3q14 => intro wq hSw; (go_simp); (try with_reducible rfl)
      try simp only [Act.put, List.setIfInBounds_toArray, List.set_cons_zero, List.set_cons_succ]
      refine wpAnyH_take (i := 4) (oi := ⟨some 25, .move (.tmp 1), 24, "law.go:28", #[⟨3, .guard⟩], some (3, true)⟩) (v := ?_) rfl (by kernel_rfl) (by kernel_rfl) (by kernel_rfl) (fun _ _ _ h => h) (Or.inl ⟨by rfl, ?hyr1x4q17⟩) (by assumption) ?restr1x4q17
      case hyr1x4q17 => intro wq hSw; (go_simp); (try with_reducible rfl)
      try simp only [Act.put, List.setIfInBounds_toArray, List.set_cons_zero, List.set_cons_succ]
      refine wpAnyH_take (i := 5) (oi := ⟨some 26, .move (.tmp 2), 24, "law.go:28", #[⟨3, .guard⟩], some (3, true)⟩) (v := ?_) rfl (by kernel_rfl) (by kernel_rfl) (by kernel_rfl) (fun _ _ _ h => h) (Or.inl ⟨by rfl, ?hyr1x5q20⟩) (by assumption) ?restr1x5q20
      case hyr1x5q20 => intro wq hSw; (go_simp); (try with_reducible rfl)
      try simp only [Act.put, List.setIfInBounds_toArray, List.set_cons_zero, List.set_cons_succ]
      refine wpAnyH_ready (rs := [6]) (by kernel_rfl) (by simp) ?_
      refine AllReadyH.cons (o := ⟨some 27, .call { callee := .value (.func 26), args := #[.tmp 25, .tmp 26], argTypes := #[24, 24] }, 4, "law.go:28", #[⟨4, .data⟩, ⟨5, .data⟩, ⟨3, .chain⟩, ⟨3, .guard⟩], some (3, true)⟩) rfl (fun K hK => ?_) AllReadyH.nil
      go_simp
      (with_reducible refine (same14_r _ _ _ thrP _ _ _ (PP.out.nx hHeld) (PQ.out.nx hHeld) (by omega) (fun p hp => by have := thr_small p hp; omega)).mono ?_)
      rintro e wz ⟨rfl, kk⟩
      replace hHeld := hHeld.nx kk
      clear kk
      refine hK.out _ _ (hHeld) (fun hHeld => ?_)
      clear hK K
      try simp only [Act.put, List.setIfInBounds_toArray, List.set_cons_zero, List.set_cons_succ]
      refine wpAnyH_take (i := 7) (oi := ⟨some 28, .pick (.tmp 24) (.tmp 27) (.const (.bool false)), 4, "law.go:28", #[⟨3, .data⟩, ⟨6, .data⟩], none⟩) (v := ?_) rfl (by kernel_rfl) (by kernel_rfl) (by kernel_rfl) (fun _ _ _ h => h) (Or.inl ⟨by rfl, ?hyr1x7q33⟩) (by assumption) ?restr1x7q33
      case hyr1x7q33 => intro wq hSw; (go_simp); (try with_reducible rfl)
      try simp only [Act.put, List.setIfInBounds_toArray, List.set_cons_zero, List.set_cons_succ]
      refine wpAnyH_take (i := 8) (oi := ⟨some 29, .move (.tmp 28), 4, "law.go:28", #[⟨7, .data⟩, ⟨6, .chain⟩], none⟩) (v := ?_) rfl (by kernel_rfl) (by kernel_rfl) (by kernel_rfl) (fun _ _ _ h => h) (Or.inl ⟨by rfl, ?hyr1x8q36⟩) (by assumption) ?restr1x8q36
      case hyr1x8q36 => intro wq hSw; (go_simp); (try with_reducible rfl)
      try simp only [Act.put, List.setIfInBounds_toArray, List.set_cons_zero, List.set_cons_succ]
      refine wpAnyH_take (i := 10) (oi := ⟨some 31, .move (.tmp 1), 24, "law.go:28", #[⟨8, .guard⟩], some (8, true)⟩) (v := ?_) rfl (by kernel_rfl) (by kernel_rfl) (by kernel_rfl) (fun _ _ _ h => h) (Or.inl ⟨by rfl, ?hyr1x10q39⟩) (by assumption) ?restr1x10q39
      case hyr1x10q39 => intro wq hSw; (go_simp); (try with_reducible rfl)
      try simp only [Act.put, List.setIfInBounds_toArray, List.set_cons_zero, List.set_cons_succ]
      refine wpAnyH_ready (rs := [9]) (by kernel_rfl) (by simp) ?_
      refine AllReadyH.cons (o := ⟨some 30, .call { callee := .value (.func 56), args := #[], argTypes := #[] }, 23, "law.go:28", #[⟨8, .chain⟩, ⟨8, .guard⟩], some (8, true)⟩) rfl (fun K hK => ?_) AllReadyH.nil
      go_simp
      (with_reducible refine (three_x _).mono ?_)
      rintro e wz ⟨a5, rfl, s5, kk⟩
      replace hHeld := hHeld.nx kk
      clear kk
      refine hK.out _ _ (hHeld) (fun hHeld => ?_)
      clear hK K
      try simp only [Act.put, List.setIfInBounds_toArray, List.set_cons_zero, List.set_cons_succ]
      refine wpAnyH_ready (rs := [11]) (by kernel_rfl) (by simp) ?_
      refine AllReadyH.cons (o := ⟨some 32, .call { callee := .value (.func 22), args := #[.tmp 30, .tmp 31, .const (.int .i64 1)], argTypes := #[23, 24, 3] }, 4, "law.go:28", #[⟨9, .data⟩, ⟨10, .data⟩, ⟨9, .chain⟩, ⟨8, .guard⟩], some (8, true)⟩) rfl (fun K hK => ?_) AllReadyH.nil
      go_simp
      (with_reducible refine (bexact_p _ _ _ threeN _ _ _ thrP 1 _ s5 (by omega) (by omega) (by unfold maxLen; omega) threeW (T.out.nx hHeld) (PP.out.nx hHeld) (by omega) (small10 thr_small)).mono ?_)
      rintro e wz ⟨rfl, kk⟩
      rw [thr_exact]
      replace hHeld := hHeld.nx kk
      clear kk s5
      refine hK.out _ _ (hHeld) (fun hHeld => ?_)
      clear hK K
      try simp only [Act.put, List.setIfInBounds_toArray, List.set_cons_zero, List.set_cons_succ]
      refine wpAnyH_take (i := 12) (oi := ⟨some 33, .pick (.tmp 29) (.tmp 32) (.const (.bool false)), 4, "law.go:28", #[⟨8, .data⟩, ⟨11, .data⟩], none⟩) (v := ?_) rfl (by kernel_rfl) (by kernel_rfl) (by kernel_rfl) (fun _ _ _ h => h) (Or.inl ⟨by rfl, ?hyr1x12q63⟩) (by assumption) ?restr1x12q63
      case hyr1x12q63 => intro wq hSw; (go_simp); (try with_reducible rfl)
      try simp only [Act.put, List.setIfInBounds_toArray, List.set_cons_zero, List.set_cons_succ]
      refine wpAnyH_take (i := 13) (oi := ⟨some 34, .move (.tmp 33), 4, "law.go:28", #[⟨12, .data⟩, ⟨11, .chain⟩], none⟩) (v := ?_) rfl (by kernel_rfl) (by kernel_rfl) (by kernel_rfl) (fun _ _ _ h => h) (Or.inl ⟨by rfl, ?hyr1x13q66⟩) (by assumption) ?restr1x13q66
      case hyr1x13q66 => intro wq hSw; (go_simp); (try with_reducible rfl)
      try simp only [Act.put, List.setIfInBounds_toArray, List.set_cons_zero, List.set_cons_succ]
      refine wpAnyH_take (i := 15) (oi := ⟨some 36, .move (.tmp 3), 24, "law.go:28", #[⟨13, .guard⟩], some (13, true)⟩) (v := ?_) rfl (by kernel_rfl) (by kernel_rfl) (by kernel_rfl) (fun _ _ _ h => h) (Or.inl ⟨by rfl, ?hyr1x15q69⟩) (by assumption) ?restr1x15q69
      case hyr1x15q69 => intro wq hSw; (go_simp); (try with_reducible rfl)
      try simp only [Act.put, List.setIfInBounds_toArray, List.set_cons_zero, List.set_cons_succ]
      refine wpAnyH_ready (rs := [14]) (by kernel_rfl) (by simp) ?_
      refine AllReadyH.cons (o := ⟨some 35, .call { callee := .value (.func 56), args := #[], argTypes := #[] }, 23, "law.go:28", #[⟨13, .chain⟩, ⟨13, .guard⟩], some (13, true)⟩) rfl (fun K hK => ?_) AllReadyH.nil
      go_simp
      (with_reducible refine (three_x _).mono ?_)
      rintro e wz ⟨a5, rfl, s5, kk⟩
      replace hHeld := hHeld.nx kk
      clear kk
      refine hK.out _ _ (hHeld) (fun hHeld => ?_)
      clear hK K
      try simp only [Act.put, List.setIfInBounds_toArray, List.set_cons_zero, List.set_cons_succ]
      refine wpAnyH_ready (rs := [16]) (by kernel_rfl) (by simp) ?_
      refine AllReadyH.cons (o := ⟨some 37, .call { callee := .value (.func 22), args := #[.tmp 35, .tmp 36, .const (.int .i64 1)], argTypes := #[23, 24, 3] }, 4, "law.go:28", #[⟨14, .data⟩, ⟨15, .data⟩, ⟨14, .chain⟩, ⟨13, .guard⟩], some (13, true)⟩) rfl (fun K hK => ?_) AllReadyH.nil
      go_simp
      (with_reducible refine (bexact_p _ _ _ threeN _ _ _ (lowI 3) 1 _ s5 (by omega) (by omega) (by unfold maxLen; omega) threeW (T.out.nx hHeld) (PZ.out.nx hHeld) (by omega) (small10 (low_small 3 (by omega)))).mono ?_)
      rintro e wz ⟨rfl, kk⟩
      rw [low_exact]
      replace hHeld := hHeld.nx kk
      clear kk s5
      refine hK.out _ _ (hHeld) (fun hHeld => ?_)
      clear hK K
      try simp only [Act.put, List.setIfInBounds_toArray, List.set_cons_zero, List.set_cons_succ]
      refine wpAnyH_take (i := 17) (oi := ⟨some 38, .pick (.tmp 34) (.tmp 37) (.const (.bool false)), 4, "law.go:28", #[⟨13, .data⟩, ⟨16, .data⟩], none⟩) (v := ?_) rfl (by kernel_rfl) (by kernel_rfl) (by kernel_rfl) (fun _ _ _ h => h) (Or.inl ⟨by rfl, ?hyr1x17q93⟩) (by assumption) ?restr1x17q93
      case hyr1x17q93 => intro wq hSw; (go_simp); (try with_reducible rfl)
      try simp only [Act.put, List.setIfInBounds_toArray, List.set_cons_zero, List.set_cons_succ]
      refine wpAnyH_take (i := 18) (oi := ⟨some 39, .move (.tmp 38), 4, "law.go:28", #[⟨17, .data⟩, ⟨16, .chain⟩], none⟩) (v := ?_) rfl (by kernel_rfl) (by kernel_rfl) (by kernel_rfl) (fun _ _ _ h => h) (Or.inl ⟨by rfl, ?hyr1x18q96⟩) (by assumption) ?restr1x18q96
      case hyr1x18q96 => intro wq hSw; (go_simp); (try with_reducible rfl)
      try simp only [Act.put, List.setIfInBounds_toArray, List.set_cons_zero, List.set_cons_succ]
      refine wpAnyH_take (i := 19) (oi := ⟨some 40, .move (.tmp 3), 24, "law.go:28", #[⟨18, .guard⟩], some (18, true)⟩) (v := ?_) rfl (by kernel_rfl) (by kernel_rfl) (by kernel_rfl) (fun _ _ _ h => h) (Or.inl ⟨by rfl, ?hyr1x19q99⟩) (by assumption) ?restr1x19q99
      case hyr1x19q99 => intro wq hSw; (go_simp); (try with_reducible rfl)
      try simp only [Act.put, List.setIfInBounds_toArray, List.set_cons_zero, List.set_cons_succ]
      refine wpAnyH_take (i := 20) (oi := ⟨some 41, .call { callee := .builtin .len, args := #[.tmp 40], argTypes := #[24] }, 3, "law.go:28", #[⟨19, .data⟩, ⟨18, .guard⟩], some (18, true)⟩) (v := ?_) rfl (by kernel_rfl) (by kernel_rfl) (by kernel_rfl) (fun _ _ _ h => h) (Or.inl ⟨by rfl, ?hyr1x20q102⟩) (by assumption) ?restr1x20q102
      case hyr1x20q102 => intro wq hSw; (go_simp); (try with_reducible rfl)
      try simp only [Act.put, List.setIfInBounds_toArray, List.set_cons_zero, List.set_cons_succ]
      refine wpAnyH_take (i := 21) (oi := ⟨some 42, .binOp .eql 3 (.tmp 41) (.const (.int .i64 3)) 3, 4, "law.go:28", #[⟨20, .data⟩, ⟨18, .guard⟩], some (18, true)⟩) (v := ?_) rfl (by kernel_rfl) (by kernel_rfl) (by kernel_rfl) (fun _ _ _ h => h) (Or.inl ⟨by rfl, ?hyr1x21q105⟩) (by assumption) ?restr1x21q105
      case hyr1x21q105 => intro wq hSw; (go_simp); (try with_reducible rfl)
      try simp only [Act.put, List.setIfInBounds_toArray, List.set_cons_zero, List.set_cons_succ]
      refine wpAnyH_take (i := 22) (oi := ⟨some 43, .pick (.tmp 39) (.tmp 42) (.const (.bool false)), 4, "law.go:28", #[⟨18, .data⟩, ⟨21, .data⟩], none⟩) (v := ?_) rfl (by kernel_rfl) (by kernel_rfl) (by kernel_rfl) (fun _ _ _ h => h) (Or.inl ⟨by rfl, ?hyr1x22q108⟩) (by assumption) ?restr1x22q108
      case hyr1x22q108 => intro wq hSw; (go_simp); (try with_reducible rfl)
      try simp only [Act.put, List.setIfInBounds_toArray, List.set_cons_zero, List.set_cons_succ]
      refine wpAnyH_take (i := 23) (oi := ⟨some 44, .move (.tmp 43), 4, "law.go:28", #[⟨22, .data⟩, ⟨18, .chain⟩], none⟩) (v := ?_) rfl (by kernel_rfl) (by kernel_rfl) (by kernel_rfl) (fun _ _ _ h => h) (Or.inl ⟨by rfl, ?hyr1x23q111⟩) (by assumption) ?restr1x23q111
      case hyr1x23q111 => intro wq hSw; (go_simp); (try with_reducible rfl)
      try simp only [Act.put, List.setIfInBounds_toArray, List.set_cons_zero, List.set_cons_succ]
      refine wpAnyH_take (i := 25) (oi := ⟨some 46, .move (.tmp 3), 24, "law.go:28", #[⟨23, .guard⟩], some (23, true)⟩) (v := ?_) rfl (by kernel_rfl) (by kernel_rfl) (by kernel_rfl) (fun _ _ _ h => h) (Or.inl ⟨by rfl, ?hyr1x25q114⟩) (by assumption) ?restr1x25q114
      case hyr1x25q114 => intro wq hSw; (go_simp); (try with_reducible rfl)
      try simp only [Act.put, List.setIfInBounds_toArray, List.set_cons_zero, List.set_cons_succ]
      refine wpAnyH_take (i := 26) (oi := ⟨some 47, .indexAddr 24 (.tmp 46) (.const (.int .i64 0)), 0, "law.go:28", #[⟨25, .data⟩, ⟨23, .guard⟩], some (23, true)⟩) (v := ?_) rfl (by kernel_rfl) (by kernel_rfl) (by kernel_rfl) (fun _ _ _ h => h) (Or.inl ⟨by rfl, ?hyr1x26q117⟩) (by assumption) ?restr1x26q117
      case hyr1x26q117 => intro wq hSw; (go_simp); (try with_reducible rfl)
      try simp only [Act.put, List.setIfInBounds_toArray, List.set_cons_zero, List.set_cons_succ]
      refine wpAnyH_take (i := 27) (oi := ⟨some 48, .load 45 (.tmp 47), 45, "law.go:28", #[⟨26, .data⟩, ⟨23, .guard⟩], some (23, true)⟩) (v := ?_) rfl (by kernel_rfl) (by kernel_rfl) (by kernel_rfl) (fun _ _ _ h => h) (Or.inl ⟨by rfl, ?hyr1x27q120⟩) (by assumption) ?restr1x27q120
      case hyr1x27q120 => intro wq hSw; (have c0 := EY0.out wq hSw; have c1 := EY1.out wq hSw; have c2 := EY2.out wq hSw; have c3 := EY3.out wq hSw; have c4 := EY4.out wq hSw; go_simp); (try with_reducible rfl)
      try simp only [Act.put, List.setIfInBounds_toArray, List.set_cons_zero, List.set_cons_succ]
      refine wpAnyH_take (i := 29) (oi := ⟨some 50, .build 65 #[(1, .const (.int .i64 3))], 65, "law.go:28", #[⟨23, .guard⟩], some (23, true)⟩) (v := ?_) rfl (by kernel_rfl) (by kernel_rfl) (by kernel_rfl) (fun _ _ _ h => h) (Or.inl ⟨by rfl, ?hyr1x29q123⟩) (by assumption) ?restr1x29q123
      case hyr1x29q123 => intro wq hSw; (go_simp); (try with_reducible rfl)
      try simp only [Act.put, List.setIfInBounds_toArray, List.set_cons_zero, List.set_cons_succ]
      refine wpAnyH_ready (rs := [24]) (by kernel_rfl) (by simp) ?_
      refine AllReadyH.cons (o := ⟨some 45, .call { callee := .value (.func 56), args := #[], argTypes := #[] }, 23, "law.go:28", #[⟨23, .chain⟩, ⟨23, .guard⟩], some (23, true)⟩) rfl (fun K hK => ?_) AllReadyH.nil
      go_simp
      (with_reducible refine (three_x _).mono ?_)
      rintro e wz ⟨a5, rfl, s5, kk⟩
      replace hHeld := hHeld.nx kk
      clear kk
      refine hK.out _ _ (hHeld) (fun hHeld => ?_)
      clear hK K
      try simp only [Act.put, List.setIfInBounds_toArray, List.set_cons_zero, List.set_cons_succ]
      refine wpAnyH_ready (rs := [28]) (by kernel_rfl) (by simp) ?_
      refine AllReadyH.cons (o := ⟨some 49, .call { callee := .value (.func 47), args := #[.tmp 45, .tmp 48, .const (.int .i64 1)], argTypes := #[23, 45, 3] }, 65, "law.go:28", #[⟨24, .data⟩, ⟨27, .data⟩, ⟨24, .chain⟩, ⟨23, .guard⟩], some (23, true)⟩) rfl (fun K hK => ?_) AllReadyH.nil
      go_simp
      (with_reducible refine (link_p _ _ _ threeN y _ _ _ _ _ _ 1 _ s5 (by omega) (by omega) (by unfold maxLen; omega) threeW (S4.out.nx hHeld) (by omega)).mono ?_)
      rintro e wz ⟨rfl, kk⟩
      rw [HLK.out]
      replace hHeld := hHeld.nx kk
      clear kk s5
      refine hK.out _ _ (hHeld) (fun hHeld => ?_)
      clear hK K
      try simp only [Act.put, List.setIfInBounds_toArray, List.set_cons_zero, List.set_cons_succ]
      refine wpAnyH_take (i := 30) (oi := ⟨some 51, .binOp .eql 65 (.tmp 49) (.tmp 50) 65, 4, "law.go:28", #[⟨28, .data⟩, ⟨29, .data⟩, ⟨23, .guard⟩], some (23, true)⟩) (v := ?_) rfl (by kernel_rfl) (by kernel_rfl) (by kernel_rfl) (fun _ _ _ h => h) (Or.inl ⟨by rfl, ?hyr1x30q147⟩) (by assumption) ?restr1x30q147
      case hyr1x30q147 => intro wq hSw; (go_simp); (try with_reducible rfl)
      try simp only [Act.put, List.setIfInBounds_toArray, List.set_cons_zero, List.set_cons_succ]
      refine wpAnyH_take (i := 31) (oi := ⟨some 52, .pick (.tmp 44) (.tmp 51) (.const (.bool false)), 4, "law.go:28", #[⟨23, .data⟩, ⟨30, .data⟩], none⟩) (v := ?_) rfl (by kernel_rfl) (by kernel_rfl) (by kernel_rfl) (fun _ _ _ h => h) (Or.inl ⟨by rfl, ?hyr1x31q150⟩) (by assumption) ?restr1x31q150
      case hyr1x31q150 => intro wq hSw; (go_simp); (try with_reducible rfl)
      try simp only [Act.put, List.setIfInBounds_toArray, List.set_cons_zero, List.set_cons_succ]
      refine wpAnyH_take (i := 32) (oi := ⟨some 53, .move (.tmp 52), 4, "law.go:28", #[⟨31, .data⟩, ⟨28, .chain⟩], none⟩) (v := ?_) rfl (by kernel_rfl) (by kernel_rfl) (by kernel_rfl) (fun _ _ _ h => h) (Or.inl ⟨by rfl, ?hyr1x32q153⟩) (by assumption) ?restr1x32q153
      case hyr1x32q153 => intro wq hSw; (go_simp); (try with_reducible rfl)
      try simp only [Act.put, List.setIfInBounds_toArray, List.set_cons_zero, List.set_cons_succ]
      refine wpAnyH_ready (rs := [33]) (by kernel_rfl) (by simp) ?_
      refine AllReadyH.cons (o := ⟨some 54, .call { callee := .value (.func 21), args := #[.const (.int .i64 3), .const (.int .i64 1)], argTypes := #[3, 3] }, 3, "law.go:28", #[⟨32, .chain⟩, ⟨32, .guard⟩], some (32, true)⟩) rfl (fun K hK => ?_) AllReadyH.nil
      go_simp
      (with_reducible refine (rounds17_p 3 1 _).mono ?_)
      rintro e wz ⟨rfl, rfl⟩
      rw [rnds_31]
      refine hK.out _ _ (hHeld) (fun hHeld => ?_)
      clear hK K
      try simp only [Act.put, List.setIfInBounds_toArray, List.set_cons_zero, List.set_cons_succ]
      refine wpAnyH_take (i := 34) (oi := ⟨some 55, .binOp .eql 3 (.tmp 54) (.const (.int .i64 3)) 3, 4, "law.go:28", #[⟨33, .data⟩, ⟨32, .guard⟩], some (32, true)⟩) (v := ?_) rfl (by kernel_rfl) (by kernel_rfl) (by kernel_rfl) (fun _ _ _ h => h) (Or.inl ⟨by rfl, ?hyr1x34q165⟩) (by assumption) ?restr1x34q165
      case hyr1x34q165 => intro wq hSw; (go_simp); (try with_reducible rfl)
      try simp only [Act.put, List.setIfInBounds_toArray, List.set_cons_zero, List.set_cons_succ]
      refine wpAnyH_take (i := 35) (oi := ⟨some 56, .pick (.tmp 53) (.tmp 55) (.const (.bool false)), 4, "law.go:28", #[⟨32, .data⟩, ⟨34, .data⟩], none⟩) (v := ?_) rfl (by kernel_rfl) (by kernel_rfl) (by kernel_rfl) (fun _ _ _ h => h) (Or.inl ⟨by rfl, ?hyr1x35q168⟩) (by assumption) ?restr1x35q168
      case hyr1x35q168 => intro wq hSw; (go_simp); (try with_reducible rfl)
      try simp only [Act.put, List.setIfInBounds_toArray, List.set_cons_zero, List.set_cons_succ]
      refine wpAnyH_take (i := 36) (oi := ⟨some 0, .assign (.tmp 56), 4, "law.go:28", #[⟨35, .data⟩, ⟨33, .chain⟩, ⟨0, .phase⟩, ⟨1, .phase⟩, ⟨2, .phase⟩, ⟨3, .phase⟩, ⟨4, .phase⟩, ⟨5, .phase⟩, ⟨6, .phase⟩, ⟨7, .phase⟩, ⟨8, .phase⟩, ⟨9, .phase⟩, ⟨10, .phase⟩, ⟨11, .phase⟩, ⟨12, .phase⟩, ⟨13, .phase⟩, ⟨14, .phase⟩, ⟨15, .phase⟩, ⟨16, .phase⟩, ⟨17, .phase⟩, ⟨18, .phase⟩, ⟨19, .phase⟩, ⟨20, .phase⟩, ⟨21, .phase⟩, ⟨22, .phase⟩, ⟨23, .phase⟩, ⟨24, .phase⟩, ⟨25, .phase⟩, ⟨26, .phase⟩, ⟨27, .phase⟩, ⟨28, .phase⟩, ⟨29, .phase⟩, ⟨30, .phase⟩, ⟨31, .phase⟩, ⟨32, .phase⟩, ⟨33, .phase⟩, ⟨34, .phase⟩, ⟨35, .phase⟩], none⟩) (v := ?_) rfl (by kernel_rfl) (by kernel_rfl) (by kernel_rfl) (fun _ _ _ h => h) (Or.inl ⟨by rfl, ?hyr1x36q171⟩) (by assumption) ?restr1x36q171
      case hyr1x36q171 => intro wq hSw; (go_simp); (try with_reducible rfl)
      try simp only [Act.put, List.setIfInBounds_toArray, List.set_cons_zero, List.set_cons_succ]
      refine wpAnyH_done (by kernel_rfl) ?_ _
      have KE := Lib.hid (K.out.nx hHeld)
      clear hHeld hDrew
      go_wp2_with fail
      go_ret
      exact ⟨rfl, KE.out⟩
end Go.Proofs.YtbnbjiddffihoaaGreatDoor

/- What the law walks of chapter 17 share. -/
namespace Go.Proofs.YtbnbjiddffihoaaGreatDoor
open Go.RowKit

end Go.Proofs.YtbnbjiddffihoaaGreatDoor

/- Peers of the call's own are changed in place. -/
namespace Go.Proofs.YtbnbjiddffihoaaGreatDoor
open Go.RowKit

section
variable {eP eI eN : TypeId} {base : Nat} {w w1 : World} {v : Value} {qs : List PQ} {P : List Pr}
theorem OwnP.upd (h : OwnP eP eI eN base w v qs P) {a : Nat} {q' : PQ} {p' : Pr} {w2 : World} (ha : a < qs.length) (row : OwnW 5 encQ eP base w2 v (qs.set a q')) (hq' : q'.1 = p'.nums)
    (oK : OwnL 1 encI eI base w2 q'.2.1.val p'.known) (oN : OwnL 4 encNr eN base w2 q'.2.2.val p'.near)
    (keep : ∀ (j : Nat) (r : PQ) (d : Pr), j ≠ a → qs[j]? = some r → P[j]? = some d → OwnL 1 encI eI base w2 r.2.1.val d.known ∧ OwnL 4 encNr eN base w2 r.2.2.val d.near)
    (fk : ∀ (j : Nat) (r : PQ) (g : Nat), j ≠ a → qs[j]? = some r → r.2.1.val.ownBlock = some g → ¬ q'.2.1.val.ownBlock = some g)
    (fn : ∀ (j : Nat) (r : PQ) (g : Nat), j ≠ a → qs[j]? = some r → r.2.2.val.ownBlock = some g → ¬ q'.2.2.val.ownBlock = some g) :
    OwnP eP eI eN base w2 v (qs.set a q') (P.set a p') := by
  have hl := h.2.1
  refine ⟨row, by simp [hl], fun j r d hr hd => ?_, fun i j qi qj g hi hj gi gj => ?_, fun i j qi qj g hi hj gi gj => ?_⟩
  · by_cases hja : j = a
    · subst hja
      rw [List.getElem?_set_self ha] at hr
      rw [List.getElem?_set_self (by omega)] at hd
      cases hr
      cases hd
      exact ⟨hq', oK, oN⟩
    · rw [List.getElem?_set_ne (fun h => hja h.symm)] at hr hd
      exact ⟨(h.2.2.1 j r d hr hd).1, keep j r d hja hr hd⟩
  · by_cases hia : i = a
    · by_cases hja : j = a
      · omega
      · subst hia
        rw [List.getElem?_set_self ha] at hi
        rw [List.getElem?_set_ne (fun h => hja h.symm)] at hj
        cases hi
        exact absurd gi (fk j qj g hja hj gj)
    · rw [List.getElem?_set_ne (fun h => hia h.symm)] at hi
      by_cases hja : j = a
      · subst hja
        rw [List.getElem?_set_self ha] at hj
        cases hj
        exact absurd gj (fk i qi g hia hi gi)
      · rw [List.getElem?_set_ne (fun h => hja h.symm)] at hj
        exact h.2.2.2.1 i j qi qj g hi hj gi gj
  · by_cases hia : i = a
    · by_cases hja : j = a
      · omega
      · subst hia
        rw [List.getElem?_set_self ha] at hi
        rw [List.getElem?_set_ne (fun h => hja h.symm)] at hj
        cases hi
        exact absurd gi (fn j qj g hja hj gj)
    · rw [List.getElem?_set_ne (fun h => hia h.symm)] at hi
      by_cases hja : j = a
      · subst hja
        rw [List.getElem?_set_self ha] at hj
        cases hj
        exact absurd gj (fn i qi g hia hi gi)
      · rw [List.getElem?_set_ne (fun h => hja h.symm)] at hj
        exact h.2.2.2.2 i j qi qj g hi hj gi gj
theorem set_chg {g o : Nat} (w : World) (u : Value) : Chg (fun k => k < w.heap.size ∧ ¬ k = g) w (w.setCell ⟨g, o, none⟩ u) :=
  (Chg.refl _ w).setCell (p := ⟨g, o, none⟩) u (fun k hk => hk.2)
theorem OwnP.num (hI : eP ≠ eI) (hN : eP ≠ eN) {g n cap : Nat} (h : OwnP eP eI eN base w (.slice (some ⟨g, 0, none⟩) n cap) qs P) {a : Nat} {p p' : Pr} {hk hn : Hdr} {c : Nat} {x : Int} (hq : qs[a]? = some (p.nums, hk, hn)) (hp : P[a]? = some p) (hc : c < 5)
    (he : encQ (p'.nums, hk, hn) = (encQ (p.nums, hk, hn)).set c (.int .i64 x)) (hkn : p'.known = p.known) (hnr : p'.near = p.near) :
    w.cell? ⟨g, a * 5 + c, none⟩ = (encQ (p.nums, hk, hn))[c]? ∧ w.frozen? ⟨g, a * 5 + c, none⟩ = false ∧
      OwnP eP eI eN base (w.setCell ⟨g, a * 5 + c, none⟩ (.int .i64 x)) (.slice (some ⟨g, 0, none⟩) n cap) (qs.set a (p'.nums, hk, hn)) (P.set a p') := by
  obtain ⟨s1, s2, s3⟩ := OwnW.set1 encQ_len h.1 hq hc
  have ch := set_chg (g := g) (o := a * 5 + c) w (.int .i64 x)
  have kk : ∀ (j : Nat) (r : PQ) (d : Pr), qs[j]? = some r → P[j]? = some d → OwnL 1 encI eI base (w.setCell ⟨g, a * 5 + c, none⟩ (.int .i64 x)) r.2.1.val d.known ∧ OwnL 4 encNr eN base (w.setCell ⟨g, a * 5 + c, none⟩ (.int .i64 x)) r.2.2.val d.near := fun j r d hr hd => by
    obtain ⟨_, r2, r3⟩ := h.2.2.1 j r d hr hd
    refine ⟨r2.chg ch (fun k hk hv => ⟨hk, fun he => ?_⟩), r3.chg ch (fun k hk hv => ⟨hk, fun he => ?_⟩)⟩
    · subst he; exact h.neI hI hr hv rfl
    · subst he; exact h.neN hN hr hv rfl
  obtain ⟨k1, k2⟩ := kk a _ p hq hp
  refine ⟨s1, s2, h.upd (List.getElem?_eq_some_iff.1 hq).1 (s3 _ _ he) rfl (by rw [hkn]; exact k1) (by rw [hnr]; exact k2) (fun j r d _ hr hd => kk j r d hr hd) (fun j r g' hj hr hg hv => ?_) (fun j r g' hj hr hg hv => ?_)⟩
  · exact hj (h.2.2.2.1 j a r _ g' hr hq hg hv)
  · exact hj (h.2.2.2.2 j a r _ g' hr hq hg hv)
theorem OwnP.growK (hI : eP ≠ eI) (hN : eP ≠ eN) (hIN : eI ≠ eN) {g n cap : Nat} (h : OwnP eP eI eN base w (.slice (some ⟨g, 0, none⟩) n cap) qs P) {a : Nat} {p : Pr} {hk hn hk' : Hdr} {kn : List Int} (hq : qs[a]? = some (p.nums, hk, hn)) (hp : P[a]? = some p)
    (A : OwnL 1 encI eI base w1 hk'.val kn) (k1 : Chg (fun k => k < w.heap.size ∧ ¬ hk.val.ownBlock = some k) w w1) (la : ∀ g, hk'.val.ownBlock = some g → hk.val.ownBlock = some g ∨ w.heap.size ≤ g) :
    w1.cell? ⟨g, a * 5 + 1, none⟩ = some hk.val ∧ w1.frozen? ⟨g, a * 5 + 1, none⟩ = false ∧
      OwnP eP eI eN base (w1.setCell ⟨g, a * 5 + 1, none⟩ hk'.val) (.slice (some ⟨g, 0, none⟩) n cap) (qs.set a (p.nums, hk', hn)) (P.set a { p with known := kn }) := by
  have row1 : OwnW 5 encQ eP base w1 (.slice (some ⟨g, 0, none⟩) n cap) qs := h.1.chg k1 (fun x hx hv => ⟨hx, fun hh => h.neI hI hq hh hv⟩)
  obtain ⟨s1, s2, s3⟩ := OwnW.set1 encQ_len row1 hq (c := 1) (by omega)
  have ch := set_chg (g := g) (o := a * 5 + 1) w1 hk'.val
  obtain ⟨_, r2a, r3a⟩ := h.2.2.1 a _ p hq hp
  have nK : ∀ (j : Nat) (r : PQ) (d : Pr), j ≠ a → qs[j]? = some r → P[j]? = some d → OwnL 1 encI eI base (w1.setCell ⟨g, a * 5 + 1, none⟩ hk'.val) r.2.1.val d.known := fun j r d hj hr hd => by
    obtain ⟨_, r2, _⟩ := h.2.2.1 j r d hr hd
    refine (r2.chg k1 (fun x hx hv => ⟨hx, fun hh => hj (h.2.2.2.1 j a r _ x hr hq hv hh)⟩)).chg ch (fun x hx hv => ⟨hx, fun he => ?_⟩)
    subst he; exact h.neI hI hr hv rfl
  have nN : ∀ (j : Nat) (r : PQ) (d : Pr), qs[j]? = some r → P[j]? = some d → OwnL 4 encNr eN base (w1.setCell ⟨g, a * 5 + 1, none⟩ hk'.val) r.2.2.val d.near := fun j r d hr hd => by
    obtain ⟨_, _, r3⟩ := h.2.2.1 j r d hr hd
    refine (r3.chg k1 (fun x hx hv => ⟨hx, fun hh => ?_⟩)).chg ch (fun x hx hv => ⟨hx, fun he => ?_⟩)
    · obtain ⟨_, c1, h1⟩ := r3.blk hv
      obtain ⟨_, c2, h2⟩ := r2a.blk hh
      exact blk_kind (fun e => hIN e.symm) h1 h2
    · subst he; exact h.neN hN hr hv rfl
  have A2 : OwnL 1 encI eI base (w1.setCell ⟨g, a * 5 + 1, none⟩ hk'.val) hk'.val kn := A.chg ch (fun x hx hv => ⟨hx, fun he => by
    subst he
    obtain ⟨_, c1, h1⟩ := A.blk hv
    obtain ⟨_, c2, h2⟩ := row1.blk rfl
    exact blk_kind hI h2 h1⟩)
  refine ⟨s1, s2, h.upd (q' := (p.nums, hk', hn)) (p' := { p with known := kn }) (List.getElem?_eq_some_iff.1 hq).1 (s3 _ _ rfl) rfl A2 (show OwnL 4 encNr eN base _ hn.val p.near from nN a (p.nums, hk, hn) p hq hp) (fun j r d hj hr hd => ⟨nK j r d hj hr hd, nN j r d hr hd⟩) (fun j r g' hj hr hg hv => ?_) (fun j r g' hj hr hg hv => ?_)⟩
  · rcases la g' hv with h1 | h1
    · exact hj (h.2.2.2.1 j a r _ g' hr hq hg h1)
    · obtain ⟨d, hd⟩ : ∃ d, P[j]? = some d := ⟨P[j]'(by have := (List.getElem?_eq_some_iff.1 hr).1; have := h.2.1; omega), by simp⟩
      have := ((h.2.2.1 j r d hr hd).2.1.lt g' hg).2
      omega
  · exact hj (h.2.2.2.2 j a r _ g' hr hq hg hv)
theorem OwnP.growN (hI : eP ≠ eI) (hN : eP ≠ eN) (hIN : eI ≠ eN) {g n cap : Nat} (h : OwnP eP eI eN base w (.slice (some ⟨g, 0, none⟩) n cap) qs P) {a : Nat} {p : Pr} {hk hn hn' : Hdr} {nr : List Nr} (hq : qs[a]? = some (p.nums, hk, hn)) (hp : P[a]? = some p)
    (A : OwnL 4 encNr eN base w1 hn'.val nr) (k1 : Chg (fun k => k < w.heap.size ∧ ¬ hn.val.ownBlock = some k) w w1) (la : ∀ g, hn'.val.ownBlock = some g → hn.val.ownBlock = some g ∨ w.heap.size ≤ g) :
    w1.cell? ⟨g, a * 5 + 4, none⟩ = some hn.val ∧ w1.frozen? ⟨g, a * 5 + 4, none⟩ = false ∧
      OwnP eP eI eN base (w1.setCell ⟨g, a * 5 + 4, none⟩ hn'.val) (.slice (some ⟨g, 0, none⟩) n cap) (qs.set a (p.nums, hk, hn')) (P.set a { p with near := nr }) := by
  have row1 : OwnW 5 encQ eP base w1 (.slice (some ⟨g, 0, none⟩) n cap) qs := h.1.chg k1 (fun x hx hv => ⟨hx, fun hh => h.neN hN hq hh hv⟩)
  obtain ⟨s1, s2, s3⟩ := OwnW.set1 encQ_len row1 hq (c := 4) (by omega)
  have ch := set_chg (g := g) (o := a * 5 + 4) w1 hn'.val
  obtain ⟨_, r2a, r3a⟩ := h.2.2.1 a _ p hq hp
  have nN : ∀ (j : Nat) (r : PQ) (d : Pr), j ≠ a → qs[j]? = some r → P[j]? = some d → OwnL 4 encNr eN base (w1.setCell ⟨g, a * 5 + 4, none⟩ hn'.val) r.2.2.val d.near := fun j r d hj hr hd => by
    obtain ⟨_, _, r3⟩ := h.2.2.1 j r d hr hd
    refine (r3.chg k1 (fun x hx hv => ⟨hx, fun hh => hj (h.2.2.2.2 j a r _ x hr hq hv hh)⟩)).chg ch (fun x hx hv => ⟨hx, fun he => ?_⟩)
    subst he; exact h.neN hN hr hv rfl
  have nK : ∀ (j : Nat) (r : PQ) (d : Pr), qs[j]? = some r → P[j]? = some d → OwnL 1 encI eI base (w1.setCell ⟨g, a * 5 + 4, none⟩ hn'.val) r.2.1.val d.known := fun j r d hr hd => by
    obtain ⟨_, r2, _⟩ := h.2.2.1 j r d hr hd
    refine (r2.chg k1 (fun x hx hv => ⟨hx, fun hh => ?_⟩)).chg ch (fun x hx hv => ⟨hx, fun he => ?_⟩)
    · obtain ⟨_, c1, h1⟩ := r2.blk hv
      obtain ⟨_, c2, h2⟩ := r3a.blk hh
      exact blk_kind hIN h1 h2
    · subst he; exact h.neI hI hr hv rfl
  have A2 : OwnL 4 encNr eN base (w1.setCell ⟨g, a * 5 + 4, none⟩ hn'.val) hn'.val nr := A.chg ch (fun x hx hv => ⟨hx, fun he => by
    subst he
    obtain ⟨_, c1, h1⟩ := A.blk hv
    obtain ⟨_, c2, h2⟩ := row1.blk rfl
    exact blk_kind hN h2 h1⟩)
  refine ⟨s1, s2, h.upd (q' := (p.nums, hk, hn')) (p' := { p with near := nr }) (List.getElem?_eq_some_iff.1 hq).1 (s3 _ _ rfl) rfl (show OwnL 1 encI eI base _ hk.val p.known from nK a (p.nums, hk, hn) p hq hp) A2 (fun j r d hj hr hd => ⟨nK j r d hr hd, nN j r d hj hr hd⟩) (fun j r g' hj hr hg hv => ?_) (fun j r g' hj hr hg hv => ?_)⟩
  · exact hj (h.2.2.2.1 j a r _ g' hr hq hg hv)
  · rcases la g' hv with h1 | h1
    · exact hj (h.2.2.2.2 j a r _ g' hr hq hg h1)
    · obtain ⟨d, hd⟩ : ∃ d, P[j]? = some d := ⟨P[j]'(by have := (List.getElem?_eq_some_iff.1 hr).1; have := h.2.1; omega), by simp⟩
      have := ((h.2.2.1 j r d hr hd).2.2.lt g' hg).2
      omega
end
end Go.Proofs.YtbnbjiddffihoaaGreatDoor

/- Pairs of the reference of chapter 14. -/
namespace Go.Proofs.YtbnbjiddffihoaaGreatDoor
open Go.RowKit

def encP2 (q : Int × Int) : List Value := [.int .i64 q.1, .int .i64 q.2]
theorem Tryz.infoP2 : (Tryz.prog.info? 145).map (fun i => (i.zero, i.size, i.bytes)) = some (some (.agg #[.int .i64 0, .int .i64 0]), 2, 16) := by kernel_rfl
theorem encP2_one (q : Int × Int) : ∀ u ∈ encP2 q, u.oneCell' = true := by
  intro u hu
  simp only [encP2, List.mem_cons, List.not_mem_nil, or_false] at hu
  rcases hu with rfl | rfl <;> rfl
theorem peerN_small {P : List Pr} {m : Nat} (h : ∀ p ∈ P, p.known.length ≤ m ∧ p.near.length ≤ m) (id : Int) : (peerN P id).known.length ≤ m ∧ (peerN P id).near.length ≤ m := by
  unfold peerN
  cases hf : P.find? fun p => p.id == id with
  | none => exact ⟨Nat.zero_le _, Nat.zero_le _⟩
  | some p => exact h p (List.mem_of_find?_eq_some hf)
def PqPost (E : List (Int × Int)) (w : World) (e : Ending) (w' : World) : Prop := ∃ v, e = .returned v ∧ OwnW 2 encP2 145 w.heap.size w' v E ∧ Ex w w'
def PaRel (N : List Nd) (P : List Pr) (w : World) (o i : Value) (wr : World) : Prop :=
  ∃ j : Nat, j ≤ N.length ∧ i = .int .i64 j ∧ OwnW 2 encP2 145 w.heap.size wr o (prsU N P j) ∧ Ex w wr
def PbRel (x : Int) (l : List Int) (E : List (Int × Int)) (β lo : Nat) (w6 : World) (o i : Value) (wr : World) : Prop :=
  ∃ j : Nat, j ≤ l.length ∧ i = .int .i64 j ∧ OwnW 2 encP2 145 β wr o (E ++ (l.take j).map fun v => (x, v)) ∧ Acc β lo w6.heap.size w6 wr o
theorem litP2 {w0 u : World} (_ : Ex w0 u) (x y : Int) : ∃ g v, g = u.heap.size ∧ v = u.alloc (.cells #[.int .i64 x, .int .i64 y] 145) ∧ Sl 2 encP2 v (some ⟨g, 0, none⟩) 1 [(x, y)] ∧ Ex u v :=
  ⟨_, _, rfl, rfl, Sl.lit [(x, y)] rfl rfl (fun _ => rfl) rfl, Ex.new _ _⟩
set_option maxRecDepth 100000 in
set_option maxHeartbeats 16000000 in
theorem pairs_r (a : Option Addr) (n c : Nat) (N : List Nd) (a2 : Option Addr) (n2 c2 : Nat) (P : List Pr) (w : World) (h : Sl 3 encN w a n N) (hn : n ≤ 1000) (h0 : checkN N = 0) (h2 : PL w a2 n2 P) (hn2 : n2 ≤ 1000000) (hP : ∀ p ∈ P, p.known.length ≤ 2000000 ∧ p.near.length ≤ 2000000) :
    Calls Tryz.prog 101 #[.slice a n c, .slice a2 n2 c2] w (PqPost (pairsN N P) w) := by
  have HL := Lib.hid h.len
  have HC := Lib.hid h0
  have hn64 : n ≤ 64 := by have := check_len h0; have := HL.out; omega
  have HS := Lib.hid h
  have HPL := Lib.hid h2
  have HP := Lib.hid hP
  have HSP : Hid (SmallP P) := Lib.hid (fun p hp => by have := HP.out p hp; omega)
  clear h h0 h2 hP
  go_enter Tryz.func101, Tryz.ntmps101
  go_wp2_with fail
  go_loopw [5, 6] (fun o i wr => PaRel N P w o i wr) (fun _ i _ => n - (intOf i).toNat)
  case atStart => exact ⟨0, Nat.zero_le _, rfl, OwnW.nil _ _ _ _ _, Ex.refl _⟩
  case round =>
    obtain ⟨j, hj, rfl, own, kw⟩ := hrel
    obtain ⟨wo, rfl⟩ : ∃ wo : World, wo = wr := ⟨_, rfl⟩
    by_cases hlt : j < n
    · obtain ⟨x3, o3, x, rfl, hx3, hy, hc3⟩ := (HS.out.nx kw).at hlt
      have e0 : wo.cell? ⟨x3, o3 + j * 3, none⟩ = some (.int .i64 x.id) := hc3 0 _ rfl
      have HY := Lib.hid hy
      have SN := Lib.hid (prsU_snoc (P := P) hy)
      have PE := prsU_len HC.out P j
      have KW := Lib.hid kw
      have hzo := kw.size
      have BLO := Lib.hid (fun g hg => own.blk_lt (g := g) hg)
      clear hc3 hy kw hj
      go_wp2_with fail
      (with_reducible refine (peer_r _ _ _ P x.id _ (HPL.out.nx KW.out) hn2 HSP.out).mono ?_)
      rintro e w6 ⟨hk, hq, rfl, ok1, ok2, kk⟩
      replace own := own.nx kk
      have K6 := Lib.hid kk
      have hz6 := kk.size
      have hpl := peerN_small HP.out x.id
      generalize peerN P x.id = p at ok1 ok2 hpl SN ⊢
      obtain ⟨A1, C1, E1, r1, z1⟩ := ok1.rdz (fun _ => rfl)
      obtain ⟨A2, C2, E2, r2, z2⟩ := ok2.rdz (fun _ => rfl)
      rw [E1, E2]
      have s1 : Sl 1 encI w6 A1 p.known.length p.known := r1.mono (fun _ hk => hk.2)
      have s2 : Sl 4 encNr w6 A2 p.near.length p.near := r2.mono (fun _ hk => hk.2)
      clear kk ok1 ok2 r1 r2 z2 E1 E2 e0
      go_wp2_with fail
      (with_reducible refine (refs_r _ _ _ N p _ _ _ _ _ _ _ (HS.out.nx (KW.out.nx K6.out)) hn s1 s2 hpl.1 hpl.2 z1).mono ?_)
      rintro e w7 ⟨v7, rfl, o7, kk⟩
      replace own := own.nx kk
      obtain ⟨A7, C7, rfl, r7, _, _, _⟩ := o7.slf (fun _ => rfl)
      have R7 := Lib.hid r7
      have hlr := refs_len HC.out p
      have K7 := Lib.hid (K6.out.nx kk)
      have hz7 := kk.size
      have A0 := Lib.hid (Acc.start (β := w.heap.size) (lo := w6.heap.size) (Nat.le_refl w7.heap.size) (fun g hg => .inl (by have := BLO.out g hg; omega)))
      generalize refsN N p = L at r7 R7 hlr SN ⊢
      have hLl : L.length ≤ 64 := by have := HL.out; omega
      generalize hE : prsU N P j = E at own PE SN
      clear o7 kk s1 s2 hpl z1 r7 hlr hE BLO
      go_wp2_with fail
      go_loopw [5, 8] (fun o i wr => PbRel x.id L E w.heap.size w6.heap.size w7 o i wr) (fun _ i _ => L.length - (intOf i).toNat)
      case atStart => exact ⟨0, Nat.zero_le _, rfl, by simpa using own, A0.out⟩
      case round =>
        clear own A0
        obtain ⟨k, hk, rfl, own, ac⟩ := hrel
        obtain ⟨wp, rfl⟩ : ∃ wp : World, wp = wr := ⟨_, rfl⟩
        by_cases hkl : k < L.length
        · obtain ⟨xr, or, id, rfl, hxr, hid, hcr⟩ := (ac.sl R7.out).at hkl
          have f0 : wp.cell? ⟨xr, or + k, none⟩ = some (.int .i64 id) := by simpa using hcr 0 _ rfl
          have F0 := Lib.hid (fun wq (k : Ex wp wq) => Chg.cellv k f0 hxr)
          obtain ⟨x3', o3', x', he', hx3', hy', hc3'⟩ := (HS.out.nx (ac.ex (KW.out.nx K7.out))).at hlt
          cases he'
          obtain rfl : x = x' := Option.some.inj (HY.out.symm.trans hy')
          have e0 : wp.cell? ⟨x3, o3 + j * 3, none⟩ = some (.int .i64 x.id) := hc3' 0 _ rfl
          have X0 := Lib.hid (fun wq (k : Ex wp wq) => Chg.cellv k e0 hx3')
          have LS : Hid ((L.take (k + 1)).map (fun v => (x.id, v)) = (L.take k).map (fun v => (x.id, v)) ++ [(x.id, id)]) := Lib.hid (by rw [take_snocN L k id hid, List.map_append]; rfl)
          have zb := (ac.ex (KW.out.nx K7.out)).size
          have AC := Lib.hid ac
          have OWN := Lib.hid own
          have hl7 : (E ++ (L.take k).map fun v => (x.id, v)).length ≤ 1000000 := by rw [List.length_append, List.length_map, List.length_take]; omega
          clear hcr hid hxr f0 hy' hc3' hx3' e0 ac own
          generalize (L.take k).map (fun v => (x.id, v)) = R at OWN LS hl7
          go_upto_region 9 with fail
          refine wp_region_late_drew (S := Ex wp) [12] (by kernel_rfl) ((Ex.refl wp).drew) (fun hHeld => ?_)
          obtain ⟨wd, hwdx⟩ : ∃ wd : World, wd = World.drew wp := ⟨_, rfl⟩
          rw [← hwdx] at hHeld ⊢
          have hDrew : Ex wp wd := by rw [hwdx]; exact (Ex.refl wp).drew
          clear hwdx
          refine wpAnyL_take (i := 0) (oi := ⟨some 30, .move (.tmp 5), 118, "ref.go:148", #[], none⟩) (v := ?_) rfl (by kernel_rfl) (by kernel_rfl) (by kernel_rfl) (fun _ _ _ h => h) (Or.inl ⟨by rfl, ?hyr1x0q5⟩) (by kernel_rfl) (by kernel_rfl) (by assumption) ?restr1x0q5
          case hyr1x0q5 => intro wq hSw; (go_simp); (try with_reducible rfl)
          try simp only [Act.put, List.setIfInBounds_toArray, List.set_cons_zero, List.set_cons_succ]
          refine wpAnyL_take (i := 1) (oi := ⟨some 31, .move (.tmp 0), 23, "ref.go:148", #[], none⟩) (v := ?_) rfl (by kernel_rfl) (by kernel_rfl) (by kernel_rfl) (fun _ _ _ h => h) (Or.inl ⟨by rfl, ?hyr1x1q8⟩) (by kernel_rfl) (by kernel_rfl) (by assumption) ?restr1x1q8
          case hyr1x1q8 => intro wq hSw; (go_simp); (try with_reducible rfl)
          try simp only [Act.put, List.setIfInBounds_toArray, List.set_cons_zero, List.set_cons_succ]
          refine wpAnyL_take (i := 2) (oi := ⟨some 32, .move (.tmp 6), 3, "ref.go:148", #[], none⟩) (v := ?_) rfl (by kernel_rfl) (by kernel_rfl) (by kernel_rfl) (fun _ _ _ h => h) (Or.inl ⟨by rfl, ?hyr1x2q11⟩) (by kernel_rfl) (by kernel_rfl) (by assumption) ?restr1x2q11
          case hyr1x2q11 => intro wq hSw; (go_simp); (try with_reducible rfl)
          try simp only [Act.put, List.setIfInBounds_toArray, List.set_cons_zero, List.set_cons_succ]
          refine wpAnyL_take (i := 3) (oi := ⟨some 33, .indexAddr 23 (.tmp 31) (.tmp 32), 0, "ref.go:148", #[⟨1, .data⟩, ⟨2, .data⟩], none⟩) (v := ?_) rfl (by kernel_rfl) (by kernel_rfl) (by kernel_rfl) (fun _ _ _ h => h) (Or.inl ⟨by rfl, ?hyr1x3q14⟩) (by kernel_rfl) (by kernel_rfl) (by assumption) ?restr1x3q14
          case hyr1x3q14 => intro wq hSw; (go_simp); (try with_reducible rfl)
          try simp only [Act.put, List.setIfInBounds_toArray, List.set_cons_zero, List.set_cons_succ]
          refine wpAnyL_take (i := 4) (oi := ⟨some 34, .fieldAddr 57 (.tmp 33) 0, 0, "ref.go:148", #[⟨3, .data⟩], none⟩) (v := ?_) rfl (by kernel_rfl) (by kernel_rfl) (by kernel_rfl) (fun _ _ _ h => h) (Or.inl ⟨by rfl, ?hyr1x4q17⟩) (by kernel_rfl) (by kernel_rfl) (by assumption) ?restr1x4q17
          case hyr1x4q17 => intro wq hSw; (go_simp); (try with_reducible rfl)
          try simp only [Act.put, List.setIfInBounds_toArray, List.set_cons_zero, List.set_cons_succ]
          refine wpAnyL_take (i := 5) (oi := ⟨some 35, .load 3 (.tmp 34), 3, "ref.go:148", #[⟨4, .data⟩], none⟩) (v := ?_) rfl (by kernel_rfl) (by kernel_rfl) (by kernel_rfl) (fun _ _ _ h => h) (Or.inl ⟨by rfl, ?hyr1x5q20⟩) (by kernel_rfl) (by kernel_rfl) (by assumption) ?restr1x5q20
          case hyr1x5q20 => intro wq hSw; (have cq := X0.out wq hSw; go_simp); (try with_reducible rfl)
          try simp only [Act.put, List.setIfInBounds_toArray, List.set_cons_zero, List.set_cons_succ]
          refine wpAnyL_take (i := 6) (oi := ⟨some 36, .move (.tmp 7), 22, "ref.go:148", #[], none⟩) (v := ?_) rfl (by kernel_rfl) (by kernel_rfl) (by kernel_rfl) (fun _ _ _ h => h) (Or.inl ⟨by rfl, ?hyr1x6q23⟩) (by kernel_rfl) (by kernel_rfl) (by assumption) ?restr1x6q23
          case hyr1x6q23 => intro wq hSw; (go_simp); (try with_reducible rfl)
          try simp only [Act.put, List.setIfInBounds_toArray, List.set_cons_zero, List.set_cons_succ]
          refine wpAnyL_take (i := 7) (oi := ⟨some 37, .move (.tmp 8), 3, "ref.go:148", #[], none⟩) (v := ?_) rfl (by kernel_rfl) (by kernel_rfl) (by kernel_rfl) (fun _ _ _ h => h) (Or.inl ⟨by rfl, ?hyr1x7q26⟩) (by kernel_rfl) (by kernel_rfl) (by assumption) ?restr1x7q26
          case hyr1x7q26 => intro wq hSw; (go_simp); (try with_reducible rfl)
          try simp only [Act.put, List.setIfInBounds_toArray, List.set_cons_zero, List.set_cons_succ]
          refine wpAnyL_take (i := 8) (oi := ⟨some 38, .indexAddr 22 (.tmp 36) (.tmp 37), 0, "ref.go:148", #[⟨6, .data⟩, ⟨7, .data⟩], none⟩) (v := ?_) rfl (by kernel_rfl) (by kernel_rfl) (by kernel_rfl) (fun _ _ _ h => h) (Or.inl ⟨by rfl, ?hyr1x8q29⟩) (by kernel_rfl) (by kernel_rfl) (by assumption) ?restr1x8q29
          case hyr1x8q29 => intro wq hSw; (go_simp); (try with_reducible rfl)
          try simp only [Act.put, List.setIfInBounds_toArray, List.set_cons_zero, List.set_cons_succ]
          refine wpAnyL_take (i := 9) (oi := ⟨some 39, .load 3 (.tmp 38), 3, "ref.go:148", #[⟨8, .data⟩], none⟩) (v := ?_) rfl (by kernel_rfl) (by kernel_rfl) (by kernel_rfl) (fun _ _ _ h => h) (Or.inl ⟨by rfl, ?hyr1x9q32⟩) (by kernel_rfl) (by kernel_rfl) (by assumption) ?restr1x9q32
          case hyr1x9q32 => intro wq hSw; (have cq := F0.out wq hSw; go_simp); (try with_reducible rfl)
          try simp only [Act.put, List.setIfInBounds_toArray, List.set_cons_zero, List.set_cons_succ]
          refine wpAnyL_take (i := 10) (oi := ⟨some 40, .build 145 #[(0, .tmp 35), (1, .tmp 39)], 145, "ref.go:148", #[⟨5, .data⟩, ⟨9, .data⟩], none⟩) (v := ?_) rfl (by kernel_rfl) (by kernel_rfl) (by kernel_rfl) (fun _ _ _ h => h) (Or.inl ⟨by rfl, ?hyr1x10q35⟩) (by kernel_rfl) (by kernel_rfl) (by assumption) ?restr1x10q35
          case hyr1x10q35 => intro wq hSw; (go_simp); (try with_reducible rfl)
          try simp only [Act.put, List.setIfInBounds_toArray, List.set_cons_zero, List.set_cons_succ]
          refine wpAnyL_ready (rs := [11]) (by kernel_rfl) (by simp) ?_
          refine AllReadyL.cons (o := ⟨some 41, .buildSlice 118 1 #[(0, .tmp 40)], 118, "ref.go:148", #[⟨10, .data⟩], none⟩) rfl (fun K hK => ?_) AllReadyL.nil
          go_simp
          obtain ⟨g8, wz, hg8, hwz, SZ, kk⟩ := litP2 hHeld x.id id
          rw [← hg8, ← hwz]
          clear hg8 hwz
          replace hHeld := hHeld.nx kk
          clear kk
          refine hK.out _ _ (hHeld) (fun hHeld => ?_)
          clear hK K
          try simp only [Act.put, List.setIfInBounds_toArray, List.set_cons_zero, List.set_cons_succ]
          refine wpAnyL_ready (rs := [12]) (by kernel_rfl) (by simp) ?_
          refine AllReadyL.consL (o := ⟨some 42, .call { callee := .builtin .append, args := #[.tmp 30, .tmp 41], argTypes := #[118, 118] }, 118, "ref.go:148", #[⟨0, .data⟩, ⟨11, .data⟩], none⟩) rfl (by rfl) (fun K hK => ?_) AllReadyL.nil
          rw [if_pos (by rfl)]
          have own7 := OWN.out.nx hHeld
          have zc := Nat.le_trans zb hHeld.size
          refine wp_append_W (enc := encP2) _ (.tmp 30) (.tmp 41) 118 rfl w.heap.size 145 (.agg #[.int .i64 0, .int .i64 0]) 2 16 Tryz.underlying118 Tryz.infoP2 rfl (by omega) (by omega) _ _ own7 rfl _ 1 1 [(x.id, id)] SZ (fun _ => rfl) encP2_one rfl hl7 (by omega) zc ?_
          intro v6 w9 own9 ch0 ch1 hv
          have RR := Lib.hid (show PbRel x.id L E w.heap.size w6.heap.size w7 v6 (.int .i64 ((k : Int) + 1)) w9 from ⟨k + 1, by omega, by go_num, by rw [LS.out, ← List.append_assoc]; exact own9, (AC.out.nx hHeld).step (fun g hg => (own7.blk hg).1) ch0 hv⟩)
          clear own7 own9 ch0 hv SZ hHeld
          refine hK.out _ _ ?_
          clear hK K
          try simp only [Act.put, List.setIfInBounds_toArray, List.set_cons_zero, List.set_cons_succ]
          refine wpAnyL_takeP (i := 13) (oi := ⟨some 5, .assign (.tmp 42), 118, "ref.go:148", #[⟨12, .data⟩, ⟨12, .chain⟩, ⟨0, .phase⟩, ⟨1, .phase⟩, ⟨2, .phase⟩, ⟨3, .phase⟩, ⟨4, .phase⟩, ⟨5, .phase⟩, ⟨6, .phase⟩, ⟨7, .phase⟩, ⟨8, .phase⟩, ⟨9, .phase⟩, ⟨10, .phase⟩, ⟨11, .phase⟩, ⟨12, .phase⟩], none⟩) (v := ?_) rfl (by kernel_rfl) (by kernel_rfl) (by kernel_rfl) (fun _ _ _ h => h) (Or.inl ⟨by rfl, ?hyr1x13q61⟩) ?restr1x13q61
          case hyr1x13q61 => intro wq hSw; (go_simp); (try with_reducible rfl)
          try simp only [Act.put, List.setIfInBounds_toArray, List.set_cons_zero, List.set_cons_succ]
          refine wpAnyL_done (by kernel_rfl) ?_ _
          go_wp2_with fail
          exact ⟨RR.out, by simp [intOf]; omega⟩
        · obtain rfl : k = L.length := by omega
          rw [List.take_of_length_le (Nat.le_refl _), ← SN.out] at own
          have RR := Lib.hid (show PaRel N P w u5 (.int .i64 ((j : Int) + 1)) wp from ⟨j + 1, by have := HL.out; omega, by go_num, own, ac.ex (KW.out.nx K7.out)⟩)
          clear own ac
          go_wp2_with fail
          exact ⟨RR.out, by simp [intOf]; omega⟩
    · have hjN : j = N.length := by have := HL.out; omega
      have hjn : j = n := by have := HL.out; omega
      rw [hjN, prsU_all] at own
      have OW := Lib.hid own
      have K1 := Lib.hid kw
      clear own kw hj hjN hjn
      go_wp2_with fail
      go_ret
      exact ⟨_, rfl, OW.out, K1.out⟩
end Go.Proofs.YtbnbjiddffihoaaGreatDoor

/- index of the reference of chapter 7. -/
namespace Go.Proofs.YtbnbjiddffihoaaGreatDoor
open Go.RowKit

def idxL (l : List Int) (v : Int) : Int := match l.findIdx? (· == v) with | some i => i | none => -1
def IxRel (l : List Int) (v : Int) (n : Nat) (w : World) (i : Value) (wr : World) : Prop :=
  ∃ k : Nat, k ≤ n ∧ i = .int .i64 k ∧ Ex w wr ∧ ∀ j z, j < k → l[j]? = some z → z ≠ v
theorem idxL_at {l : List Int} {v : Int} {k : Nat} (hk : l[k]? = some v) (hno : ∀ j z, j < k → l[j]? = some z → z ≠ v) : idxL l v = k := by
  obtain ⟨hlt, he⟩ := List.getElem?_eq_some_iff.1 hk
  have : l.findIdx? (· == v) = some k := by
    rw [List.findIdx?_eq_some_iff_getElem]
    refine ⟨hlt, by simp [he], fun j hj => ?_⟩
    have := hno j (l[j]) hj (List.getElem?_eq_getElem (by omega))
    simpa using this
  unfold idxL
  rw [this]
theorem idxL_no {l : List Int} {v : Int} (hno : ∀ j z, j < l.length → l[j]? = some z → z ≠ v) : idxL l v = -1 := by
  have : l.findIdx? (· == v) = none := by
    rw [List.findIdx?_eq_none_iff]
    intro x hx
    obtain ⟨j, hj, rfl⟩ := List.getElem_of_mem hx
    simpa using hno j _ hj (List.getElem?_eq_getElem hj)
  unfold idxL
  rw [this]
set_option maxHeartbeats 1000000 in
theorem index7_r (a : Option Addr) (n c : Nat) (l : List Int) (v : Int) (w : World) (h : Sl 1 encI w a n l) (hn : n ≤ 1000000) :
    Calls Tryz.prog 128 #[.slice a n c, .int .i64 v] w fun e w' => e = .returned (.int .i64 (idxL l v)) ∧ Ex w w' := by
  have HL := Lib.hid h.len
  have hs := Lib.hid h
  clear h
  go_enter Tryz.func128, Tryz.ntmps128
  go_wp2_with fail
  go_loopw [5] (fun i wr => IxRel l v n w i wr) (fun i _ => n - (intOf i).toNat)
  case atStart => exact ⟨0, by omega, rfl, Ex.refl _, by omega⟩
  case round =>
    obtain ⟨k, hk, rfl, kw, hno⟩ := hrel
    obtain ⟨wo, rfl⟩ : ∃ wo : World, wo = wr := ⟨_, rfl⟩
    have HNO := Lib.hid hno
    clear hno
    by_cases hlt : k < n
    · obtain ⟨x1, o1, y, rfl, hx1, hy, hc1⟩ := (hs.out.nx kw).at hlt
      have e0 : wo.cell? ⟨x1, o1 + k, none⟩ = some (.int .i64 y) := by simpa using hc1 0 _ rfl
      have HY := Lib.hid hy
      clear hc1 hy
      by_cases hv : y = v
      · have HR : Hid (idxL l v = k) := Lib.hid (idxL_at (hv ▸ HY.out) HNO.out)
        have d1 : (y == v) = true := by simpa using hv
        have K1 := Lib.hid kw
        clear hv kw
        go_wp2_with fail
        go_ret
        exact ⟨by rw [HR.out]; rfl, K1.out⟩
      · have d1 : (y == v) = false := by simpa using hv
        have RR := Lib.hid (show IxRel l v n w (.int .i64 ((k : Int) + 1)) wo from ⟨k + 1, by omega, by go_num, kw, fun j z hj hz => by
          by_cases hjk : j < k
          · exact HNO.out j z hjk hz
          · obtain rfl : j = k := by omega
            have := HY.out.symm.trans hz
            rw [← Option.some.inj this]
            exact hv⟩)
        clear hv kw
        go_wp2_with fail
        exact ⟨RR.out, by simp [intOf]; omega⟩
    · obtain rfl : k = n := by omega
      have HR : Hid (idxL l v = -1) := Lib.hid (idxL_no (fun j z hj hz => HNO.out j z (by have := HL.out; omega) hz))
      have K1 := Lib.hid kw
      clear hk hlt kw
      go_wp2_with fail
      go_ret
      exact ⟨by rw [HR.out]; rfl, K1.out⟩
end Go.Proofs.YtbnbjiddffihoaaGreatDoor

/- Joined of the reference of chapter 7: how many components it gives. -/
namespace Go.Proofs.YtbnbjiddffihoaaGreatDoor
open Go.RowKit

def IsjRel (c : List Nd) (n : Nat) (w : World) (o i : Value) (wr : World) : Prop :=
  ∃ k : Nat, k ≤ n ∧ i = .int .i64 k ∧ OwnL 1 encI 3 w.heap.size wr o ((c.take k).map Nd.id) ∧ Ex w wr
set_option maxRecDepth 100000 in
set_option maxHeartbeats 2000000 in
theorem idsj_r (a : Option Addr) (n c : Nat) (l : List Nd) (w : World) (hs : Sl 3 encN w a n l) (hn : n ≤ 100000) :
    Calls Tryz.prog 127 #[.slice a n c] w (OiPost (l.map Nd.id) w) := by
  have HL := Lib.hid hs.len
  have hll := hs.len
  have HS := Lib.hid hs
  clear hs
  go_enter Tryz.func127, Tryz.ntmps127
  go_wp2_with fail
  go_loopw [3, 4] (fun o i wr => IsjRel l n w o i wr) (fun _ i _ => n - (intOf i).toNat)
  case atStart => exact ⟨0, by omega, rfl, OwnL.nil _ _ _ _ _, Ex.refl _⟩
  case round =>
    obtain ⟨j, hj, rfl, own, ki⟩ := hrel
    obtain ⟨wi, rfl⟩ : ∃ wi : World, wi = wr := ⟨_, rfl⟩
    by_cases hjm : j < n
    · obtain ⟨x3, o3, y, rfl, hx3, hy, hc3⟩ := (HS.out.nx ki).at hjm
      have e0 : wi.cell? ⟨x3, o3 + j * 3, none⟩ = some (.int .i64 y.id) := hc3 0 _ rfl
      have SN : Hid ((l.take (j + 1)).map Nd.id = (l.take j).map Nd.id ++ [y.id]) := Lib.hid (by rw [take_snocN l j y hy, List.map_append]; rfl)
      have hrl : ((l.take j).map Nd.id).length = j := by rw [List.length_map, List.length_take]; omega
      clear hy hc3
      have zb := ki.size
      generalize (l.take j).map Nd.id = row at own SN hrl
      generalize y.id = yi at SN e0
      go_wp2_with (at_builtin; (refine wpList_append_lit (enc := encI) wi rfl _ _ 22 rfl w.heap.size 3 (.int .i64 0) 1 8 Tryz.underlying22 Tryz.infoI6 rfl (by omega) (by omega) _ _ own rfl (yi : Int) _ rfl rfl (by simp [encI, Value.oneCell']) _ (by simp) rfl (by omega) (by omega) _ ?_); intro v5 w6 own6 ch0 ch1 hz6)
      refine ⟨⟨j + 1, by omega, by go_num, by rw [SN.out]; exact own6, Chg.trans ki ch1⟩, by simp [intOf]; omega⟩
    · obtain rfl : j = n := by omega
      rw [List.take_of_length_le (by omega)] at own
      have own := Lib.hid own
      clear hj hjm
      go_wp2_with fail
      go_ret
      exact ⟨_, rfl, own.out, ki⟩

def encV (v : Value) : List Value := [v]
def encNt (v : Nat) : List Value := [.int .i64 v]
theorem flatV (l : List Value) : l.flatMap encV = l := by
  induction l with
  | nil => rfl
  | cons x l ih => rw [List.flatMap_cons, ih]; rfl
theorem flatNt (l : List Nat) : l.flatMap encNt = l.map fun v : Nat => Value.int .i64 (v : Int) := by
  induction l with
  | nil => rfl
  | cons x l ih => rw [List.flatMap_cons, ih]; rfl
theorem labs_of {e base n : Nat} {w : World} {v : Value} {L : List Value} (h : OwnL 1 encV e base w v L) (hl : L.length = n) (hv : ∀ i, i < n → L[i]? = some (.int .i64 i)) : OwnL 1 encNt e base w v (List.range n) := by
  have : L = (List.range n).map fun i : Nat => Value.int .i64 (i : Int) := by
    refine List.ext_getElem? fun i => ?_
    by_cases hi : i < n
    · rw [hv i hi, List.getElem?_map, List.getElem?_range hi]; rfl
    · rw [List.getElem?_eq_none (by omega), List.getElem?_eq_none (by simp; omega)]
  unfold OwnL at h ⊢
  rw [flatV] at h
  rw [flatNt, List.length_range, ← this, ← hl]
  exact h
theorem make_row (w : World) (n : Nat) (hn : n ≤ 1000) : ∃ w' L, (Instr.makeSlice 22 (.int .i64 n) (.int .i64 n)).run Tryz.prog w = .ok (.slice (some ⟨w.heap.size, 0, none⟩) n n) w' ∧ OwnL 1 encV 3 w.heap.size w' (.slice (some ⟨w.heap.size, 0, none⟩) n n) L ∧ L.length = n ∧ Ex w w' := by
  obtain ⟨i, hi, hz0, hz1, hz2⟩ := info_parts Tryz.infoI6
  obtain ⟨w', hrun, hr, hg⟩ := run_makeSlice_full (P := Tryz.prog) (w := w) w.heap.size 22 3 i (.int .i64 0) 1 Tryz.underlying22 hi hz0 hz1 .i64 .i64 n (by omega) (by rw [hz2]; omega) (by unfold maxLen; omega) (Nat.le_refl _)
  have hl : (madeCells (Value.int .i64 0).cells (n * 1)).toList.length = n := by simp [size_madeCells]
  refine ⟨w', _, hrun, ?_, hl, ⟨hg.os, hg.tape, hg.output, hg.size, fun k hk => hg.block k hk (by simp)⟩⟩
  unfold OwnL
  rw [flatV, hl]
  exact hr
def JPost (m : Nat) (w : World) (e : Ending) (w' : World) : Prop := ∃ a c, e = .returned (.slice a m c) ∧ Ex w w'
abbrev LabRow (base g n : Nat) (w : World) (L : List Nat) : Prop := OwnL 1 encNt 3 base w (.slice (some ⟨g, 0, none⟩) n n) L
def JaRel (n g : Nat) (w : World) (i : Value) (wr : World) : Prop :=
  ∃ (k : Nat) (L : List Value), k ≤ n ∧ i = .int .i64 k ∧ OwnL 1 encV 3 w.heap.size wr (.slice (some ⟨g, 0, none⟩) n n) L ∧ L.length = n ∧ (∀ i, i < k → L[i]? = some (.int .i64 i)) ∧ Ex w wr
def JbRel (ids : List Int) (E : List (Int × Int)) (g n : Nat) (w : World) (i : Value) (wr : World) : Prop :=
  ∃ t : Nat, t ≤ n ∧ i = .int .i64 t ∧ LabRow w.heap.size g n wr (Lab.labsL ids E t) ∧ Ex w wr
def JcRel (ids : List Int) (E : List (Int × Int)) (lab : List Nat) (g n : Nat) (w : World) (i : Value) (wr : World) : Prop :=
  ∃ j : Nat, j ≤ E.length ∧ i = .int .i64 j ∧ LabRow w.heap.size g n wr ((E.take j).foldl (Lab.stepL ids) lab) ∧ Ex w wr
theorem lab_cell {base g n i : Nat} {w : World} {cur : List Nat} (h : LabRow base g n w cur) (hi : i < cur.length) : w.cell? ⟨g, i, none⟩ = some (.int .i64 (cur.getD i 0 : Nat)) ∧ w.frozen? ⟨g, i, none⟩ = false := by
  obtain ⟨s1, s2, _⟩ := own_set1 (sz := 1) (enc := encNt) (fun _ => rfl) h (List.getElem?_eq_getElem hi) (c := 0) (by omega)
  simp only [Nat.mul_one, Nat.add_zero] at s1 s2
  refine ⟨?_, s2⟩
  rw [s1, List.getD_eq_getElem?_getD, List.getElem?_eq_getElem hi]
  rfl
theorem lab_set {base g n i : Nat} {w : World} {cur : List Nat} (h : LabRow base g n w cur) (hi : i < cur.length) (m : Nat) : LabRow base g n (w.setCell ⟨g, i, none⟩ (.int .i64 (m : Nat))) (cur.set i m) := by
  obtain ⟨_, _, s3⟩ := own_set1 (sz := 1) (enc := encNt) (fun _ => rfl) h (List.getElem?_eq_getElem hi) (c := 0) (by omega)
  simp only [Nat.mul_one, Nat.add_zero] at s3
  exact s3 m _ rfl
theorem fold_len (ids : List Int) (F : List (Int × Int)) (lab : List Nat) : (F.foldl (Lab.stepL ids) lab).length = lab.length := by
  induction F generalizing lab with
  | nil => rfl
  | cons q F ih =>
    rw [List.foldl_cons, ih]
    unfold Lab.stepL
    split
    · exact Lab.join_len _ _ _
    · rfl
theorem labs_len (ids : List Int) (E : List (Int × Int)) (t : Nat) : (Lab.labsL ids E t).length = ids.length := by
  induction t with
  | zero => simp [Lab.labsL]
  | succ t ih => exact (fold_len ids E _).trans ih
theorem idxL_some {l : List Int} {v : Int} {i : Nat} (h : l.findIdx? (· == v) = some i) : idxL l v = i ∧ i < l.length := by
  unfold idxL
  rw [h]
  exact ⟨rfl, (List.findIdx?_eq_some_iff_getElem.1 h).1⟩
theorem idxL_none {l : List Int} {v : Int} (h : l.findIdx? (· == v) = none) : idxL l v = -1 := by unfold idxL; rw [h]
def encHd (h : Hdr) : List Value := [h.val]
theorem Tryz.infoSI : (Tryz.prog.info? 22).map (fun i => (i.zero, i.size, i.bytes)) = some (some (.slice none 0 0), 1, 24) := by kernel_rfl
def cntL (lab : List Nat) (i : Nat) : Nat := ((List.range i).filter fun k => lab.getD k 0 == k).length
theorem cntL_succ (lab : List Nat) (i : Nat) : cntL lab (i + 1) = cntL lab i + if lab.getD i 0 = i then 1 else 0 := by
  unfold cntL
  rw [List.range_succ, List.filter_append, List.length_append]
  by_cases h : lab.getD i 0 = i
  · have hb : (lab.getD i 0 == i) = true := by rw [beq_iff_eq]; exact h
    rw [if_pos h]
    simp only [List.filter_cons, List.filter_nil, hb]
    rfl
  · have hb : (lab.getD i 0 == i) = false := by rw [beq_eq_false_iff_ne]; exact h
    rw [if_neg h]
    simp only [List.filter_cons, List.filter_nil, hb]
    rfl
theorem cntL_le (lab : List Nat) (i : Nat) : cntL lab i ≤ i := by
  unfold cntL
  have := List.length_filter_le (fun k => lab.getD k 0 == k) (List.range i)
  simpa using this
def JdRel (lab : List Nat) (n : Nat) (w : World) (o i : Value) (wr : World) : Prop :=
  ∃ (k : Nat) (qs : List Hdr), k ≤ n ∧ i = .int .i64 k ∧ OwnL 1 encHd 22 w.heap.size wr o qs ∧ qs.length = cntL lab k ∧ Ex w wr
def JeRel (b : Prop) (k n : Nat) (w : World) (o i : Value) (wr : World) : Prop :=
  ∃ (j : Nat) (l : List Int), k ≤ j ∧ j ≤ n ∧ i = .int .i64 j ∧ OwnL 1 encI 3 w.heap.size wr o l ∧ l.length ≤ j ∧ (b → k < j → l ≠ []) ∧ (¬ b → l = []) ∧ Ex w wr
set_option maxRecDepth 100000 in
set_option maxHeartbeats 16000000 in
theorem joined_r (a : Option Addr) (n c : Nat) (N : List Nd) (a2 : Option Addr) (n2 c2 : Nat) (E : List (Int × Int)) (w : World) (h : Sl 3 encN w a n N) (hn : n ≤ 1000) (h2 : Sl 2 encP2 w a2 n2 E) (hn2 : n2 ≤ 1000000) :
    Calls Tryz.prog 100 #[.slice a n c, .slice a2 n2 c2] w (JPost (Lab.partsL (N.map Nd.id) E) w) := by
  have HL := Lib.hid h.len
  have HL2 := Lib.hid h2.len
  have EX := Ex.refl w
  go_enter Tryz.func100, Tryz.ntmps100
  go_wp2_with fail
  (with_reducible refine (idsj_r _ _ _ N _ h (by omega)).mono ?_)
  rintro e w1 ⟨v1, rfl, own, kk⟩
  replace h2 := h2.nx kk
  replace EX := EX.nx kk
  clear kk
  obtain ⟨aI, cI, rfl, IDS, _, _, _⟩ := own.slf (fun _ => rfl)
  have hIl : (N.map Nd.id).length = n := by rw [List.length_map]; exact HL.out
  rw [hIl] at IDS ⊢
  generalize hids : N.map Nd.id = ids at IDS hIl ⊢
  have HI := Lib.hid hids
  clear hids
  have IL := Lib.hid hIl
  have IDS := Lib.hid IDS.sl
  have H2 := Lib.hid h2
  have EXH := Lib.hid EX
  clear own h h2 EX hIl
  obtain ⟨w2, L0, hmk, row, hrl, k2⟩ := make_row w1 n hn
  obtain ⟨g, hg⟩ : ∃ g, g = w1.heap.size := ⟨_, rfl⟩
  rw [← hg] at hmk row
  have HG := Lib.hid hg
  have zg : w1.heap.size ≤ g := by omega
  have ROW := Lib.hid row
  have K2 := Lib.hid k2
  have HR := Lib.hid hrl
  clear hg row k2 hrl
  go_wp2_with fail
  clear hmk
  go_loopw [7] (fun i wr => JaRel n g w1 i wr) (fun i _ => n - (intOf i).toNat)
  case atStart => exact ⟨0, L0, Nat.zero_le _, rfl, by rw [HG.out]; rw [HG.out] at ROW; exact ROW.out, HR.out, fun i hi => absurd hi (Nat.not_lt_zero _), K2.out⟩
  case round =>
    clear ROW K2 HR
    obtain ⟨k, L, hk, rfl, row, hL, hLv, kw⟩ := hrel
    obtain ⟨wo, rfl⟩ : ∃ wo : World, wo = wr := ⟨_, rfl⟩
    have HLL := Lib.hid hL
    have HLV := Lib.hid hLv
    have KW := Lib.hid kw
    clear hL hLv kw
    by_cases hlt : k < n
    · have hy : L[k]? = some (L[k]'(by have := HLL.out; omega)) := List.getElem?_eq_getElem _
      obtain ⟨s1, s2, s3⟩ := own_set1 (sz := 1) (enc := encV) (fun _ => rfl) row hy (c := 0) (by omega)
      simp only [Nat.mul_one, Nat.add_zero] at s1 s2 s3
      generalize L[k]'(by have := HLL.out; omega) = y at hy s1 s3
      have s1 : wo.cell? ⟨g, k, none⟩ = some y := s1
      have RR := Lib.hid (show JaRel n g w1 (.int .i64 ((k : Int) + 1)) (wo.setCell ⟨g, k, none⟩ (.int .i64 k)) from ⟨k + 1, L.set k (.int .i64 k), by omega, by go_num, s3 _ _ rfl, by rw [List.length_set]; exact HLL.out, fun i hi => by
        by_cases hik : i = k
        · subst hik
          exact List.getElem?_set_self (by have := HLL.out; omega)
        · rw [List.getElem?_set_ne (fun h => hik h.symm)]
          exact HLV.out i (by omega), KW.out.setNew _ zg⟩)
      clear row s3 hy
      go_wp2_with fail
      exact ⟨RR.out, by simp [intOf]; omega⟩
    · obtain rfl : n = k := by omega
      have LR := Lib.hid (labs_of row HLL.out (fun i hi => HLV.out i hi))
      clear row hk hlt HLV HLL
      go_wp2_with fail
      go_loopw [8] (fun i wr => JbRel ids E g n w1 i wr) (fun i _ => n - (intOf i).toNat)
      case atStart => exact ⟨0, Nat.zero_le _, rfl, by show LabRow _ _ _ _ (List.range ids.length); rw [IL.out]; exact LR.out, KW.out⟩
      case round =>
        clear LR KW
        obtain ⟨t, ht, rfl, row, kw⟩ := hrel
        obtain ⟨wt, rfl⟩ : ∃ wt : World, wt = wr := ⟨_, rfl⟩
        have KW := Lib.hid kw
        clear kw
        by_cases htt : t < n
        · have LL := Lib.hid ((labs_len ids E t).trans IL.out)
          have LS : Hid (Lab.labsL ids E (t + 1) = E.foldl (Lab.stepL ids) (Lab.labsL ids E t)) := Lib.hid rfl
          generalize Lab.labsL ids E t = lab at row LL LS
          have ROW := Lib.hid row
          clear row
          go_wp2_with fail
          go_loopw [9] (fun i wr => JcRel ids E lab g n w1 i wr) (fun i _ => E.length - (intOf i).toNat)
          case atStart => exact ⟨0, Nat.zero_le _, rfl, ROW.out, KW.out⟩
          case round =>
            clear ROW KW
            obtain ⟨j, hj, rfl, row, kv⟩ := hrel
            obtain ⟨wp, rfl⟩ : ∃ wp : World, wp = wr := ⟨_, rfl⟩
            have KV := Lib.hid kv
            have ROW := Lib.hid row
            clear kv row
            by_cases hjl : j < n2
            · obtain ⟨xe, oe, q, rfl, hxe, hq, hce⟩ := (H2.out.nx KV.out).at hjl
              have f0 : wp.cell? ⟨xe, oe + j * 2, none⟩ = some (.int .i64 q.1) := by simpa using hce 0 _ rfl
              have f1 : wp.cell? ⟨xe, oe + j * 2 + 1, none⟩ = some (.int .i64 q.2) := by simpa using hce 1 _ rfl
              have F0 := Lib.hid (fun wq (k : Ex wp wq) => Chg.cellv k f0 hxe)
              have F1 := Lib.hid (fun wq (k : Ex wp wq) => Chg.cellv k f1 hxe)
              have SN : Hid ((E.take (j + 1)).foldl (Lab.stepL ids) lab = Lab.stepL ids ((E.take j).foldl (Lab.stepL ids) lab) q) := Lib.hid (by
                rw [List.take_add_one, hq, List.foldl_append]; rfl)
              have CL := Lib.hid ((fold_len ids (E.take j) lab).trans LL.out)
              have hjE : j + 1 ≤ E.length := by have := HL2.out; omega
              generalize (E.take j).foldl (Lab.stepL ids) lab = cur at ROW SN CL
              clear hce hq f0 f1 hxe
              go_upto_region 13 with fail
              refine wp_region_held_drew (S := Ex wp) (by kernel_rfl) ((Ex.refl wp).drew) (fun hHeld => ?_)
              obtain ⟨wd, hwdx⟩ : ∃ wd : World, wd = World.drew wp := ⟨_, rfl⟩
              rw [← hwdx] at hHeld ⊢
              have hDrew : Ex wp wd := by rw [hwdx]; exact (Ex.refl wp).drew
              clear hwdx
              refine wpAnyH_take (i := 0) (oi := ⟨some 44, .move (.tmp 5), 22, "ref.go:92", #[], none⟩) (v := ?_) rfl (by kernel_rfl) (by kernel_rfl) (by kernel_rfl) (fun _ _ _ h => h) (Or.inl ⟨by rfl, ?hyr1x0q5⟩) (by assumption) ?restr1x0q5
              case hyr1x0q5 => intro wq hSw; (go_simp); (try with_reducible rfl)
              try simp only [Act.put, List.setIfInBounds_toArray, List.set_cons_zero, List.set_cons_succ]
              refine wpAnyH_take (i := 1) (oi := ⟨some 45, .move (.tmp 1), 118, "ref.go:92", #[], none⟩) (v := ?_) rfl (by kernel_rfl) (by kernel_rfl) (by kernel_rfl) (fun _ _ _ h => h) (Or.inl ⟨by rfl, ?hyr1x1q8⟩) (by assumption) ?restr1x1q8
              case hyr1x1q8 => intro wq hSw; (go_simp); (try with_reducible rfl)
              try simp only [Act.put, List.setIfInBounds_toArray, List.set_cons_zero, List.set_cons_succ]
              refine wpAnyH_take (i := 2) (oi := ⟨some 46, .move (.tmp 9), 3, "ref.go:92", #[], none⟩) (v := ?_) rfl (by kernel_rfl) (by kernel_rfl) (by kernel_rfl) (fun _ _ _ h => h) (Or.inl ⟨by rfl, ?hyr1x2q11⟩) (by assumption) ?restr1x2q11
              case hyr1x2q11 => intro wq hSw; (go_simp); (try with_reducible rfl)
              try simp only [Act.put, List.setIfInBounds_toArray, List.set_cons_zero, List.set_cons_succ]
              refine wpAnyH_take (i := 3) (oi := ⟨some 47, .indexAddr 118 (.tmp 45) (.tmp 46), 0, "ref.go:92", #[⟨1, .data⟩, ⟨2, .data⟩], none⟩) (v := ?_) rfl (by kernel_rfl) (by kernel_rfl) (by kernel_rfl) (fun _ _ _ h => h) (Or.inl ⟨by rfl, ?hyr1x3q14⟩) (by assumption) ?restr1x3q14
              case hyr1x3q14 => intro wq hSw; (go_simp); (try with_reducible rfl)
              try simp only [Act.put, List.setIfInBounds_toArray, List.set_cons_zero, List.set_cons_succ]
              refine wpAnyH_take (i := 4) (oi := ⟨some 48, .indexAddr 145 (.tmp 47) (.const (.int .i64 0)), 0, "ref.go:92", #[⟨3, .data⟩], none⟩) (v := ?_) rfl (by kernel_rfl) (by kernel_rfl) (by kernel_rfl) (fun _ _ _ h => h) (Or.inl ⟨by rfl, ?hyr1x4q17⟩) (by assumption) ?restr1x4q17
              case hyr1x4q17 => intro wq hSw; (go_simp); (try with_reducible rfl)
              try simp only [Act.put, List.setIfInBounds_toArray, List.set_cons_zero, List.set_cons_succ]
              refine wpAnyH_take (i := 5) (oi := ⟨some 49, .load 3 (.tmp 48), 3, "ref.go:92", #[⟨4, .data⟩], none⟩) (v := ?_) rfl (by kernel_rfl) (by kernel_rfl) (by kernel_rfl) (fun _ _ _ h => h) (Or.inl ⟨by rfl, ?hyr1x5q20⟩) (by assumption) ?restr1x5q20
              case hyr1x5q20 => intro wq hSw; (have cq := F0.out wq hSw; go_simp); (try with_reducible rfl)
              try simp only [Act.put, List.setIfInBounds_toArray, List.set_cons_zero, List.set_cons_succ]
              refine wpAnyH_take (i := 7) (oi := ⟨some 51, .move (.tmp 5), 22, "ref.go:92", #[], none⟩) (v := ?_) rfl (by kernel_rfl) (by kernel_rfl) (by kernel_rfl) (fun _ _ _ h => h) (Or.inl ⟨by rfl, ?hyr1x7q23⟩) (by assumption) ?restr1x7q23
              case hyr1x7q23 => intro wq hSw; (go_simp); (try with_reducible rfl)
              try simp only [Act.put, List.setIfInBounds_toArray, List.set_cons_zero, List.set_cons_succ]
              refine wpAnyH_take (i := 8) (oi := ⟨some 52, .move (.tmp 1), 118, "ref.go:92", #[], none⟩) (v := ?_) rfl (by kernel_rfl) (by kernel_rfl) (by kernel_rfl) (fun _ _ _ h => h) (Or.inl ⟨by rfl, ?hyr1x8q26⟩) (by assumption) ?restr1x8q26
              case hyr1x8q26 => intro wq hSw; (go_simp); (try with_reducible rfl)
              try simp only [Act.put, List.setIfInBounds_toArray, List.set_cons_zero, List.set_cons_succ]
              refine wpAnyH_take (i := 9) (oi := ⟨some 53, .move (.tmp 9), 3, "ref.go:92", #[], none⟩) (v := ?_) rfl (by kernel_rfl) (by kernel_rfl) (by kernel_rfl) (fun _ _ _ h => h) (Or.inl ⟨by rfl, ?hyr1x9q29⟩) (by assumption) ?restr1x9q29
              case hyr1x9q29 => intro wq hSw; (go_simp); (try with_reducible rfl)
              try simp only [Act.put, List.setIfInBounds_toArray, List.set_cons_zero, List.set_cons_succ]
              refine wpAnyH_take (i := 10) (oi := ⟨some 54, .indexAddr 118 (.tmp 52) (.tmp 53), 0, "ref.go:92", #[⟨8, .data⟩, ⟨9, .data⟩], none⟩) (v := ?_) rfl (by kernel_rfl) (by kernel_rfl) (by kernel_rfl) (fun _ _ _ h => h) (Or.inl ⟨by rfl, ?hyr1x10q32⟩) (by assumption) ?restr1x10q32
              case hyr1x10q32 => intro wq hSw; (go_simp); (try with_reducible rfl)
              try simp only [Act.put, List.setIfInBounds_toArray, List.set_cons_zero, List.set_cons_succ]
              refine wpAnyH_take (i := 11) (oi := ⟨some 55, .indexAddr 145 (.tmp 54) (.const (.int .i64 1)), 0, "ref.go:92", #[⟨10, .data⟩], none⟩) (v := ?_) rfl (by kernel_rfl) (by kernel_rfl) (by kernel_rfl) (fun _ _ _ h => h) (Or.inl ⟨by rfl, ?hyr1x11q35⟩) (by assumption) ?restr1x11q35
              case hyr1x11q35 => intro wq hSw; (go_simp); (try with_reducible rfl)
              try simp only [Act.put, List.setIfInBounds_toArray, List.set_cons_zero, List.set_cons_succ]
              refine wpAnyH_take (i := 12) (oi := ⟨some 56, .load 3 (.tmp 55), 3, "ref.go:92", #[⟨11, .data⟩], none⟩) (v := ?_) rfl (by kernel_rfl) (by kernel_rfl) (by kernel_rfl) (fun _ _ _ h => h) (Or.inl ⟨by rfl, ?hyr1x12q38⟩) (by assumption) ?restr1x12q38
              case hyr1x12q38 => intro wq hSw; (have cq := F1.out wq hSw; go_simp); (try with_reducible rfl)
              try simp only [Act.put, List.setIfInBounds_toArray, List.set_cons_zero, List.set_cons_succ]
              refine wpAnyH_ready (rs := [6]) (by kernel_rfl) (by simp) ?_
              refine AllReadyH.cons (o := ⟨some 50, .call { callee := .value (.func 128), args := #[.tmp 44, .tmp 49], argTypes := #[22, 3] }, 3, "ref.go:92", #[⟨0, .data⟩, ⟨5, .data⟩], none⟩) rfl (fun K hK => ?_) AllReadyH.nil
              go_simp
              (with_reducible refine (index7_r _ _ _ ids q.1 _ (IDS.out.nx (KV.out.nx hHeld)) (by omega)).mono ?_)
              rintro e wb ⟨rfl, kk⟩
              replace hHeld := hHeld.nx kk
              clear kk
              refine hK.out _ _ (hHeld) (fun hHeld => ?_)
              clear hK K
              try simp only [Act.put, List.setIfInBounds_toArray, List.set_cons_zero, List.set_cons_succ]
              refine wpAnyH_ready (rs := [13]) (by kernel_rfl) (by simp) ?_
              refine AllReadyH.cons (o := ⟨some 57, .call { callee := .value (.func 128), args := #[.tmp 51, .tmp 56], argTypes := #[22, 3] }, 3, "ref.go:92", #[⟨7, .data⟩, ⟨12, .data⟩, ⟨6, .chain⟩], none⟩) rfl (fun K hK => ?_) AllReadyH.nil
              go_simp
              (with_reducible refine (index7_r _ _ _ ids q.2 _ (IDS.out.nx (KV.out.nx hHeld)) (by omega)).mono ?_)
              rintro e wc ⟨rfl, kk⟩
              replace hHeld := hHeld.nx kk
              clear kk
              refine hK.out _ _ (hHeld) (fun hHeld => ?_)
              clear hK K
              try simp only [Act.put, List.setIfInBounds_toArray, List.set_cons_zero, List.set_cons_succ]
              refine wpAnyH_take (i := 14) (oi := ⟨some 10, .assign (.tmp 50), 3, "ref.go:92", #[⟨6, .data⟩, ⟨13, .chain⟩, ⟨0, .phase⟩, ⟨1, .phase⟩, ⟨2, .phase⟩, ⟨3, .phase⟩, ⟨4, .phase⟩, ⟨5, .phase⟩, ⟨6, .phase⟩, { on := 7, ground := Ground.textOnly Departure.lateStores }, { on := 8, ground := Ground.textOnly Departure.lateStores }, { on := 9, ground := Ground.textOnly Departure.lateStores }, { on := 10, ground := Ground.textOnly Departure.lateStores }, { on := 11, ground := Ground.textOnly Departure.lateStores }, { on := 12, ground := Ground.textOnly Departure.lateStores }, { on := 13, ground := Ground.textOnly Departure.lateStoresUnsure }], none⟩) (v := ?_) rfl (by kernel_rfl) (by kernel_rfl) (by kernel_rfl) (fun _ _ _ h => h) (Or.inl ⟨by rfl, ?hyr1x14q61⟩) (by assumption) ?restr1x14q61
              case hyr1x14q61 => intro wq hSw; (go_simp); (try with_reducible rfl)
              try simp only [Act.put, List.setIfInBounds_toArray, List.set_cons_zero, List.set_cons_succ]
              refine wpAnyH_take (i := 15) (oi := ⟨some 11, .assign (.tmp 57), 3, "ref.go:92", #[⟨13, .data⟩, ⟨14, .chain⟩, ⟨0, .phase⟩, ⟨1, .phase⟩, ⟨2, .phase⟩, ⟨3, .phase⟩, ⟨4, .phase⟩, ⟨5, .phase⟩, ⟨6, .phase⟩, ⟨7, .phase⟩, ⟨8, .phase⟩, ⟨9, .phase⟩, ⟨10, .phase⟩, ⟨11, .phase⟩, ⟨12, .phase⟩, ⟨13, .phase⟩, ⟨14, .phase⟩], none⟩) (v := ?_) rfl (by kernel_rfl) (by kernel_rfl) (by kernel_rfl) (fun _ _ _ h => h) (Or.inl ⟨by rfl, ?hyr1x15q64⟩) (by assumption) ?restr1x15q64
              case hyr1x15q64 => intro wq hSw; (go_simp); (try with_reducible rfl)
              try simp only [Act.put, List.setIfInBounds_toArray, List.set_cons_zero, List.set_cons_succ]
              refine wpAnyH_done (by kernel_rfl) ?_ _
              have KC := Lib.hid (KV.out.nx hHeld)
              have RC := Lib.hid (ROW.out.nx hHeld)
              clear hHeld hDrew ROW
              cases e1 : ids.findIdx? (· == q.1) with
              | none =>
                rw [idxL_none e1]
                have RR := Lib.hid (show JcRel ids E lab g n w1 (.int .i64 ((j : Int) + 1)) wc from ⟨j + 1, hjE, by go_num, by rw [SN.out, show Lab.stepL ids cur q = cur by unfold Lab.stepL; rw [e1]]; exact RC.out, KC.out⟩)
                clear e1
                go_wp2_with fail
                exact ⟨RR.out, by simp [intOf]; omega⟩
              | some i1 =>
                obtain ⟨x1, hi1⟩ := idxL_some e1
                rw [x1]
                have hi1n : i1 < n := by have := IL.out; omega
                cases e2 : ids.findIdx? (· == q.2) with
                | none =>
                  rw [idxL_none e2]
                  have RR := Lib.hid (show JcRel ids E lab g n w1 (.int .i64 ((j : Int) + 1)) wc from ⟨j + 1, hjE, by go_num, by rw [SN.out, show Lab.stepL ids cur q = cur by unfold Lab.stepL; rw [e1, e2]]; exact RC.out, KC.out⟩)
                  clear e1 e2 x1 hi1
                  go_wp2_with fail
                  exact ⟨RR.out, by simp [intOf]; omega⟩
                | some i2 =>
                  obtain ⟨x2, hi2⟩ := idxL_some e2
                  rw [x2]
                  have hi2n : i2 < n := by have := IL.out; omega
                  have ST : Hid (Lab.stepL ids cur q = Lab.joinL cur i1 i2) := Lib.hid (by unfold Lab.stepL; rw [e1, e2])
                  have hc1 : i1 < cur.length := by have := CL.out; omega
                  have hc2 : i2 < cur.length := by have := CL.out; omega
                  obtain ⟨p1, r1⟩ := lab_cell RC.out hc1
                  obtain ⟨p2, r2⟩ := lab_cell RC.out hc2
                  have JJ : Hid (Lab.joinL cur i1 i2 = (cur.set i1 (min (cur.getD i1 0) (cur.getD i2 0))).set i2 (min (cur.getD i1 0) (cur.getD i2 0))) := Lib.hid rfl
                  generalize cur.getD i1 0 = x at p1 JJ
                  generalize cur.getD i2 0 = y at p2 JJ
                  have hmin : min (x : Int) (y : Int) = ((min x y : Nat) : Int) := by omega
                  generalize min x y = m at hmin JJ
                  have RR := Lib.hid (fun d => show JcRel ids E lab g n w1 (.int .i64 ((j : Int) + 1)) (((wc.drewN d).setCell ⟨g, i1, none⟩ (.int .i64 (m : Nat))).setCell ⟨g, i2, none⟩ (.int .i64 (m : Nat))) from ⟨j + 1, hjE, by go_num, by
                    rw [SN.out, ST.out, JJ.out]
                    exact lab_set (lab_set (OwnL.nx RC.out ((Ex.refl wc).drewN d)) hc1 m) (by rw [List.length_set]; exact hc2) m, ((KC.out.drewN d).setNew _ zg).setNew _ zg⟩)
                  have q3 := fun d => lab_cell (lab_set (OwnL.nx RC.out ((Ex.refl wc).drewN d)) hc1 m) (i := i2) (by rw [List.length_set]; exact hc2)
                  have p3 := fun d => (q3 d).1
                  have r3 := fun d => (q3 d).2
                  clear e1 e2 x1 x2 hi1 hi2 hc1 hc2 ST SN RC JJ q3
                  go_wp2_with fail
                  go_quiet (fail)
                  go_wp2_with fail
                  exact ⟨RR.out _, by simp [intOf]; omega⟩
            · have hjE : j = E.length := by have := HL2.out; omega
              have RR := Lib.hid (show JbRel ids E g n w1 (.int .i64 ((t : Int) + 1)) wp from ⟨t + 1, by omega, by go_num, by rw [LS.out]; have h := ROW.out; rw [hjE, List.take_of_length_le (Nat.le_refl _)] at h; exact h, KV.out⟩)
              clear hj hjE ROW
              go_wp2_with fail
              exact ⟨RR.out, by simp [intOf]; omega⟩
        · obtain rfl : n = t := by omega
          have PT : Hid (Lab.partsL ids E = ((List.range n).filter fun i => (Lab.labsL ids E n).getD i 0 == i).length) := Lib.hid (by unfold Lab.partsL; rw [IL.out])
          have LL := Lib.hid ((labs_len ids E n).trans IL.out)
          generalize Lab.labsL ids E n = lab at row PT LL
          have ROW := Lib.hid row
          clear row ht htt
          go_wp2_with fail
          go_loopw [13, 14] (fun o i wr => JdRel lab n wt o i wr) (fun _ i _ => n - (intOf i).toNat)
          case atStart => exact ⟨0, [], Nat.zero_le _, rfl, OwnL.nil _ _ _ _ _, rfl, Ex.refl _⟩
          case round =>
            obtain ⟨k, qs, hk, rfl, own, hq, kv⟩ := hrel
            obtain ⟨wo, rfl⟩ : ∃ wo : World, wo = wr := ⟨_, rfl⟩
            have OWN := Lib.hid own
            have HQ := Lib.hid hq
            have KV := Lib.hid kv
            have hql : qs.length ≤ 1000 := by have := cntL_le lab k; omega
            have hzv := kv.size
            clear own hq kv
            by_cases hkn : k < n
            · have CS := Lib.hid (cntL_succ lab k)
              have hkl : k < lab.length := by have := LL.out; omega
              have RO := Lib.hid (OwnL.nx ROW.out KV.out)
              go_wp2_with fail
              go_loopw [15, 16] (fun o i wr => JeRel (lab.getD k 0 = k) k n wo o i wr) (fun _ i _ => n - (intOf i).toNat)
              case atStart => exact ⟨k, [], Nat.le_refl _, hk, rfl, OwnL.nil _ _ _ _ _, Nat.zero_le _, fun _ h => absurd h (Nat.lt_irrefl _), fun _ => rfl, Ex.refl _⟩
              case round =>
                obtain ⟨j, l, hkj, hjn, rfl, own, hll, hl1, hl2, kx⟩ := hrel
                obtain ⟨wp, rfl⟩ : ∃ wp : World, wp = wr := ⟨_, rfl⟩
                have RP := Lib.hid (OwnL.nx RO.out kx)
                have OWL := Lib.hid own
                have L1 := Lib.hid hl1
                have L2 := Lib.hid hl2
                have KX := Lib.hid kx
                have zx := kx.size
                obtain ⟨p1, r1⟩ := lab_cell RP.out hkl
                clear own hl1 hl2 kx
                by_cases hb : lab.getD k 0 = k
                · replace p1 : wp.cell? ⟨g, k, none⟩ = some (.int .i64 (k : Nat)) := by rw [hb] at p1; exact p1
                  by_cases hjl : j < n
                  · obtain ⟨p2, r2⟩ := lab_cell RP.out (i := j) (by have := LL.out; omega)
                    obtain ⟨xi, oi, v, rfl, hxi, hv, hci⟩ := (IDS.out.nx (KW.out.nx (KV.out.nx KX.out))).at hjl
                    have f0 : wp.cell? ⟨xi, oi + j, none⟩ = some (.int .i64 v) := by simpa using hci 0 _ rfl
                    clear hv hci
                    have B0 := Lib.hid hb
                    clear hb
                    by_cases hx : lab.getD j 0 = k
                    · replace p2 : wp.cell? ⟨g, j, none⟩ = some (.int .i64 (k : Nat)) := by rw [hx] at p2; exact p2
                      have own := OWL.out
                      clear hx
                      go_wp2_with (at_builtin; (refine wpList_append_lit (enc := encI) wp rfl _ _ 22 rfl wo.heap.size 3 (.int .i64 0) 1 8 Tryz.underlying22 Tryz.infoI6 rfl (by omega) (by omega) _ _ own rfl (v : Int) _ rfl rfl (by simp [encI, Value.oneCell']) _ (by simp) rfl (by omega) (by omega) _ ?_); intro v5 w6 own6 ch0 ch1 hz6)
                      refine ⟨⟨j + 1, l ++ [v], by omega, by omega, by go_num, own6, by simp; omega, fun _ _ => by simp, fun h => absurd B0.out h, Chg.trans KX.out ch1⟩, by simp [intOf]; omega⟩
                    · have d2 : (((lab.getD j 0 : Nat) : Int) == (k : Int)) = false := by rw [beq_eq_false_iff_ne]; omega
                      have hkj' : k < j := by
                        rcases Nat.lt_or_ge k j with h | h
                        · exact h
                        · obtain rfl : k = j := by omega
                          exact absurd B0.out hx
                      have RR := Lib.hid (show JeRel (lab.getD k 0 = k) k n wo u15 (.int .i64 ((j : Int) + 1)) wp from ⟨j + 1, l, by omega, by omega, by go_num, OWL.out, by omega, fun h _ => L1.out h hkj', L2.out, KX.out⟩)
                      generalize lab.getD j 0 = xj at p2 d2
                      clear hx
                      go_wp2_with fail
                      exact ⟨RR.out, by simp [intOf]; omega⟩
                  · obtain rfl : n = j := by omega
                    have hne := L1.out hb hkn
                    obtain ⟨A, C, rfl, _, _, _, _⟩ := OWL.out.slf (fun _ => rfl)
                    have hpos : 0 < l.length := List.length_pos_iff.2 hne
                    have ownO := OwnL.nx OWN.out KX.out
                    have CS1 : Hid (cntL lab (k + 1) = cntL lab k + 1) := Lib.hid (by rw [CS.out, if_pos hb])
                    clear hb hne
                    go_wp2_with (at_builtin; (refine wpList_append_lit (enc := encHd) wp rfl _ _ 109 rfl wt.heap.size 22 (.slice none 0 0) 1 24 Tryz.underlying109 Tryz.infoSI rfl (by omega) (by omega) _ _ ownO rfl ((A, l.length, C) : Hdr) _ rfl rfl (by simp [encHd, Hdr.val, Value.oneCell']) _ (by simp) rfl (by omega) (by omega) _ ?_); intro v5 w6 own6 ch0 ch1 hz6)
                    refine ⟨⟨k + 1, qs ++ [(A, l.length, C)], by omega, by go_num, own6, by rw [CS1.out, List.length_append, HQ.out]; rfl, Chg.trans (KV.out.nx KX.out) ch1⟩, by simp [intOf]; omega⟩
                · have hl0 := L2.out hb
                  have CS0 : Hid (cntL lab (k + 1) = cntL lab k) := Lib.hid (by rw [CS.out, if_neg hb]; rfl)
                  have RR := Lib.hid (show JdRel lab n wt u13 (.int .i64 ((k : Int) + 1)) wp from ⟨k + 1, qs, by omega, by go_num, OwnL.nx OWN.out KX.out, by rw [CS0.out]; exact HQ.out, KV.out.nx KX.out⟩)
                  have d1 : (((lab.getD k 0 : Nat) : Int) == (k : Int)) = false := by rw [beq_eq_false_iff_ne]; omega
                  subst hl0
                  obtain ⟨A, C, rfl, _, _, _, _⟩ := OWL.out.slf (fun _ => rfl)
                  generalize lab.getD k 0 = xk at p1 d1
                  clear hb
                  by_cases hjl : j < n
                  · go_wp2_with fail
                    exact ⟨RR.out, by simp [intOf]; omega⟩
                  · obtain rfl : n = j := by omega
                    go_wp2_with fail
                    exact ⟨RR.out, by simp [intOf]; omega⟩
            · obtain rfl : n = k := by omega
              obtain ⟨A, C, rfl, _, _, _, _⟩ := OWN.out.slf (fun _ => rfl)
              have KE := Lib.hid (EXH.out.nx (KW.out.nx KV.out))
              have HQ2 : Hid (Lab.partsL ids E = qs.length) := Lib.hid (by rw [PT.out, HQ.out]; rfl)
              clear hk hkn
              go_wp2_with fail
              go_ret
              exact ⟨_, _, by first | (rw [HQ2.out]; rfl) | (rw [HI.out, HQ2.out]; rfl), KE.out⟩
end Go.Proofs.YtbnbjiddffihoaaGreatDoor

/- Connected of the reference of chapter 14. -/
namespace Go.Proofs.YtbnbjiddffihoaaGreatDoor
open Go.RowKit

set_option maxRecDepth 100000 in
set_option maxHeartbeats 4000000 in
theorem connected_r (a : Option Addr) (n c : Nat) (N : List Nd) (a2 : Option Addr) (n2 c2 : Nat) (P : List Pr) (w : World) (h : Sl 3 encN w a n N) (hn : n ≤ 1000) (h2 : PL w a2 n2 P) (hn2 : n2 ≤ 1000000) (hP : ∀ p ∈ P, p.known.length ≤ 2000000 ∧ p.near.length ≤ 2000000) :
    Calls Tryz.prog 62 #[.slice a n c, .slice a2 n2 c2] w fun e w' => e = .returned (.bool (connB N P)) ∧ Ex w w' := by
  have HL := Lib.hid h.len
  have EX := Ex.refl w
  go_enter Tryz.func62, Tryz.ntmps62
  go_wp2_with fail
  (with_reducible refine (is_r _ _ _ _ _ h (by omega)).mono ?_)
  rintro e w1 ⟨rfl, kk⟩
  replace h := h.nx kk
  replace h2 := h2.nx kk
  replace EX := EX.nx kk
  clear kk
  by_cases hck : checkN N = 0
  case neg =>
    have d1 : (checkN N == 0) = false := by simpa using hck
    have E0 : Hid (connB N P = false) := Lib.hid (by unfold connB; rw [d1]; rfl)
    have EH := Lib.hid EX
    rw [d1]
    clear h h2 hck EX
    go_wp2_with fail
    go_ret
    exact ⟨by rw [E0.out]; rfl, EH.out⟩
  have d1 : (checkN N == 0) = true := by simpa using hck
  have E0 : Hid (connB N P = decide (Lab.partsL (N.map Nd.id) (pairsN N P) ≤ 1)) := Lib.hid (by unfold connB; rw [d1]; rfl)
  rw [d1]
  have HC := Lib.hid hck
  clear hck d1
  go_wp2_with fail
  (with_reducible refine (pairs_r _ _ _ N _ _ _ P _ h hn HC.out h2 hn2 hP).mono ?_)
  rintro e w2 ⟨v2, rfl, own, kk⟩
  replace h := h.nx kk
  replace EX := EX.nx kk
  clear kk
  obtain ⟨a3, c3, rfl, r3, _, _, _, _⟩ := own.rd (fun _ => rfl)
  have S3 : Sl 2 encP2 w2 a3 (pairsN N P).length (pairsN N P) := Rd.mono r3 (fun _ hk => hk.2)
  have hpl : (pairsN N P).length ≤ 1000000 := by have := prsU_len HC.out P N.length; rw [prsU_all] at this; omega
  clear own r3 h2
  go_wp2_with fail
  (with_reducible refine (joined_r _ _ _ N _ _ _ (pairsN N P) _ h hn S3 hpl).mono ?_)
  rintro e w3 ⟨aj, cj, rfl, kk⟩
  replace EX := EX.nx kk
  clear kk
  generalize Lab.partsL (N.map Nd.id) (pairsN N P) = m at E0 ⊢
  have EH := Lib.hid EX
  clear h S3 hpl EX
  have E1 : Hid (connB N P = decide ((m : Int) ≤ 1)) := Lib.hid (by rw [E0.out, decide_eq_decide]; omega)
  clear E0
  go_wp2_with fail
  go_ret
  exact ⟨by rw [E1.out]; rfl, EH.out⟩
end Go.Proofs.YtbnbjiddffihoaaGreatDoor

/- The statements of chapter 16 about chains and garbage, in plain Lean. -/
namespace Go.Proofs.YtbnbjiddffihoaaGreatDoor
open Go.RowKit

section
variable {N : List Nd} {P : List Pr}
theorem conn_line (h0 : checkN N = 0) (h : ∀ A a b B, N = A ++ a :: b :: B → EdgeN N P a.id b.id ∨ EdgeN N P b.id a.id) : ConnN N P := by
  refine ⟨h0, fun x hx y hy => ?_⟩
  have := chain_cl (R := fun u v => EdgeN N P u v ∨ EdgeN N P v u) N h x hx y hy
  refine Cl.mono (R := fun u v => EdgeN N P u v ∨ EdgeN N P v u) (fun a b hab => ?_) this
  exact Cl.one hab
theorem ids_ne (h0 : checkN N = 0) {i j : Nat} {a b : Nd} (ha : N[i]? = some a) (hb : N[j]? = some b) (hij : i ≠ j) : a.id ≠ b.id := by
  rcases Nat.lt_or_gt_of_ne hij with h | h
  · exact ((check_keys h0 j i b a h hb ha).2).symm
  · exact (check_keys h0 i j a b h ha hb).2
theorem peer_at {i : Nat} {p : Pr} (hp : P[i]? = some p) (hd : ∀ j q, j < i → P[j]? = some q → q.id ≠ p.id) : peerN P p.id = p := by
  unfold peerN
  have : P.find? (fun q => q.id == p.id) = some p := by
    rw [List.find?_eq_some_iff_getElem]
    obtain ⟨h1, h2⟩ := List.getElem?_eq_some_iff.1 hp
    refine ⟨by simp, i, h1, h2, fun j hj => ?_⟩
    have := hd j _ hj (List.getElem?_eq_getElem (by omega))
    simpa using this
  rw [this]
  rfl
def SameIds (N : List Nd) (P : List Pr) : Prop := P.length = N.length ∧ ∀ (i : Nat) (x : Nd) (p : Pr), N[i]? = some x → P[i]? = some p → p.id = x.id
theorem same_peer (h0 : checkN N = 0) (hs : SameIds N P) {i : Nat} {x : Nd} {p : Pr} (hx : N[i]? = some x) (hp : P[i]? = some p) : peerN P x.id = p := by
  rw [← hs.2 i x p hx hp]
  refine peer_at hp fun j q hj hq => ?_
  obtain ⟨y, hy⟩ : ∃ y, N[j]? = some y := ⟨N[j]'(by have := (List.getElem?_eq_some_iff.1 hq).1; have := hs.1; omega), by simp⟩
  rw [hs.2 i x p hx hp, hs.2 j y q hy hq]
  exact ids_ne h0 hy hx (by omega)
theorem back_conn (h0 : checkN N = 0) (hs : SameIds N P) (hk : ∀ (i : Nat) (x : Nd) (p : Pr), N[i]? = some x → P[i + 1]? = some p → x.id ∈ p.known) : ConnN N P := by
  refine conn_line h0 fun A a b B e => .inr ?_
  have ha : N[A.length]? = some a := by rw [e]; simp
  have hb : N[A.length + 1]? = some b := by rw [e]; simp
  obtain ⟨p, hp⟩ : ∃ p, P[A.length + 1]? = some p := ⟨P[A.length + 1]'(by have := (List.getElem?_eq_some_iff.1 hb).1; have := hs.1; omega), by simp⟩
  have h1 := hk _ a p ha hp
  refine ⟨⟨b, List.mem_of_getElem? hb, rfl⟩, ?_⟩
  rw [same_peer h0 hs hb hp, mem_refs h0]
  refine ⟨⟨a, List.mem_of_getElem? ha, rfl⟩, ?_, ?_⟩
  · rw [hs.2 _ b p hb hp]
    exact ids_ne h0 ha hb (by omega)
  · unfold numsP
    simp [h1]
end
end Go.Proofs.YtbnbjiddffihoaaGreatDoor
