/- Texts for the statement BridgeClimbsProof, part 12 of 12: Same14, Lw17, L17, OwnU, Pai, Jnd, Jon, CoR, LinQ, TJo, L17C, Laid4, LaidL, Laid2, Open, BridgeClimbsProof. -/
import Derived.BigQuiet
import Derived.Laws.OwnMore
import Derived.Test.YtbnbjiddffihoaaGreatDoorTie
import Derived.Test.YtbnbjiddffihoaaGreatDoorCards
import Derived.Lib.LaidTab
import Derived.Lib.LaidU8
import Derived.LaidMore
import Derived.Stop.Joined
import Derived.SevenTiedAt
import Derived.ChangeArms
import Derived.LaidSub
import Derived.Test.YtbnbjiddffihoaaGreatDoorRows
import Derived.ProofKit
import Derived.OpenShut
import Derived.ShutString
import Derived.ChangeOld
import Derived.Lib.SmallJoins
import Derived.Deep.Slices
import Derived.Deep.Fields
import Derived.ChangeSame
import Derived.Test.YtbnbjiddffihoaaGreatDoorBridgeClimbsProofPk1
import Derived.Test.YtbnbjiddffihoaaGreatDoorBridgeClimbsProofPk3
import Derived.Test.YtbnbjiddffihoaaGreatDoorBridgeClimbsProofPk4
import Derived.Test.YtbnbjiddffihoaaGreatDoorBridgeClimbsProofPk5
import Derived.Test.YtbnbjiddffihoaaGreatDoorBridgeClimbsProofPk6
import Derived.Test.YtbnbjiddffihoaaGreatDoorBridgeClimbsProofPk7
import Derived.Test.YtbnbjiddffihoaaGreatDoorBridgeClimbsProofPk8
import Derived.Test.YtbnbjiddffihoaaGreatDoorBridgeClimbsProofPk9
import Derived.Test.YtbnbjiddffihoaaGreatDoorBridgeClimbsProofPk10
import Derived.Test.YtbnbjiddffihoaaGreatDoorBridgeClimbsProofPk11

/- Same of the reference of chapter 14, at equal lists. -/
namespace Go.Proofs.YtbnbjiddffihoaaGreatDoor
open Go.RowKit

set_option maxRecDepth 100000 in
set_option maxHeartbeats 16000000 in
theorem same14_r (a : Option Addr) (n c : Nat) (P : List Pr) (a2 : Option Addr) (c2 : Nat) (w : World) (h : PL w a n P) (h2 : PL w a2 n P) (hn : n ≤ 1000) (hP : ∀ p ∈ P, p.known.length ≤ 1000000 ∧ p.near.length ≤ 1000000) :
    Calls Tryz.prog 26 #[.slice a n c, .slice a2 n c2] w fun e w' => e = .returned (.bool true) ∧ Ex w w' := by
  have H1 := Lib.hid h
  have H2 := Lib.hid h2
  have HP := Lib.hid hP
  clear h h2 hP
  go_enter Tryz.func26, Tryz.ntmps26
  go_wp2_with fail
  go_loopw [5] (fun i wr => KtRel n w i wr) (fun i _ => n - (intOf i).toNat)
  case atStart => exact ⟨0, Nat.zero_le _, rfl, Ex.refl _⟩
  case round =>
    obtain ⟨k, hk, rfl, kw⟩ := hrel
    obtain ⟨wi, rfl⟩ : ∃ wi : World, wi = wr := ⟨_, rfl⟩
    have KW := Lib.hid kw
    clear kw
    by_cases hlt : k < n
    · obtain ⟨xp, op, b1, m1, d1, b4, m4, d4, y, rfl, hxp, hy, p0, p1, p2, p3, p4, s1, s4⟩ := (H1.out.nx KW.out).rd hlt
      obtain ⟨xq, oq, e1, u1, f1, e4, u4, f4, y', rfl, hxq, hy', q0, q1, q2, q3, q4, t1, t4⟩ := (H2.out.nx KW.out).rd hlt
      obtain rfl : y = y' := Option.some.inj (hy.symm.trans hy')
      obtain rfl : m1 = u1 := s1.len.symm.trans t1.len
      obtain rfl : m4 = u4 := s4.len.symm.trans t4.len
      have hyP := HP.out y (List.mem_of_getElem? hy)
      have hm1 : m1 ≤ 1000000 := by have := s1.len; omega
      have hm4 : m4 ≤ 1000000 := by have := s4.len; omega
      have A0 := Lib.hid (fun wq (k : Ex wi wq) => Chg.cellv k p0 hxp)
      have A1 := Lib.hid (fun wq (k : Ex wi wq) => Chg.cellv k p1 hxp)
      have A2 := Lib.hid (fun wq (k : Ex wi wq) => Chg.cellv k p2 hxp)
      have A3 := Lib.hid (fun wq (k : Ex wi wq) => Chg.cellv k p3 hxp)
      have A4 := Lib.hid (fun wq (k : Ex wi wq) => Chg.cellv k p4 hxp)
      have B0 := Lib.hid (fun wq (k : Ex wi wq) => Chg.cellv k q0 hxq)
      have B1 := Lib.hid (fun wq (k : Ex wi wq) => Chg.cellv k q1 hxq)
      have B2 := Lib.hid (fun wq (k : Ex wi wq) => Chg.cellv k q2 hxq)
      have B3 := Lib.hid (fun wq (k : Ex wi wq) => Chg.cellv k q3 hxq)
      have B4 := Lib.hid (fun wq (k : Ex wi wq) => Chg.cellv k q4 hxq)
      have S1 := Lib.hid s1
      have S4 := Lib.hid s4
      have T1 := Lib.hid t1
      have T4 := Lib.hid t4
      clear p0 p1 p2 p3 p4 q0 q1 q2 q3 q4 s1 s4 t1 t4 hxp hxq hy hy' hyP
      go_upto_region 6 with fail
      refine wp_region_held_drew (S := Ex wi) (by kernel_rfl) ((Ex.refl wi).drew) (fun hHeld => ?_)
      obtain ⟨wd, hwdx⟩ : ∃ wd : World, wd = World.drew wi := ⟨_, rfl⟩
      rw [← hwdx] at hHeld ⊢
      have hDrew : Ex wi wd := by rw [hwdx]; exact (Ex.refl wi).drew
      clear hwdx
      refine wpAnyH_take (i := 0) (oi := ⟨some 18, .move (.tmp 0), 24, "ref.go:165", #[], none⟩) (v := ?_) rfl (by kernel_rfl) (by kernel_rfl) (by kernel_rfl) (fun _ _ _ h => h) (Or.inl ⟨by rfl, ?hyr1x0q5⟩) (by assumption) ?restr1x0q5
      case hyr1x0q5 => intro wq hSw; (go_simp); (try with_reducible rfl)
      try simp only [Act.put, List.setIfInBounds_toArray, List.set_cons_zero, List.set_cons_succ]
      refine wpAnyH_take (i := 1) (oi := ⟨some 19, .move (.tmp 5), 3, "ref.go:165", #[], none⟩) (v := ?_) rfl (by kernel_rfl) (by kernel_rfl) (by kernel_rfl) (fun _ _ _ h => h) (Or.inl ⟨by rfl, ?hyr1x1q8⟩) (by assumption) ?restr1x1q8
      case hyr1x1q8 => intro wq hSw; (go_simp); (try with_reducible rfl)
      try simp only [Act.put, List.setIfInBounds_toArray, List.set_cons_zero, List.set_cons_succ]
      refine wpAnyH_take (i := 2) (oi := ⟨some 20, .indexAddr 24 (.tmp 18) (.tmp 19), 0, "ref.go:165", #[⟨0, .data⟩, ⟨1, .data⟩], none⟩) (v := ?_) rfl (by kernel_rfl) (by kernel_rfl) (by kernel_rfl) (fun _ _ _ h => h) (Or.inl ⟨by rfl, ?hyr1x2q11⟩) (by assumption) ?restr1x2q11
      case hyr1x2q11 => intro wq hSw; (go_simp); (try with_reducible rfl)
      try simp only [Act.put, List.setIfInBounds_toArray, List.set_cons_zero, List.set_cons_succ]
      refine wpAnyH_take (i := 3) (oi := ⟨some 21, .fieldAddr 45 (.tmp 20) 0, 0, "ref.go:165", #[⟨2, .data⟩], none⟩) (v := ?_) rfl (by kernel_rfl) (by kernel_rfl) (by kernel_rfl) (fun _ _ _ h => h) (Or.inl ⟨by rfl, ?hyr1x3q14⟩) (by assumption) ?restr1x3q14
      case hyr1x3q14 => intro wq hSw; (go_simp); (try with_reducible rfl)
      try simp only [Act.put, List.setIfInBounds_toArray, List.set_cons_zero, List.set_cons_succ]
      refine wpAnyH_take (i := 4) (oi := ⟨some 22, .load 3 (.tmp 21), 3, "ref.go:165", #[⟨3, .data⟩], none⟩) (v := ?_) rfl (by kernel_rfl) (by kernel_rfl) (by kernel_rfl) (fun _ _ _ h => h) (Or.inl ⟨by rfl, ?hyr1x4q17⟩) (by assumption) ?restr1x4q17
      case hyr1x4q17 => intro wq hSw; (have cq := A0.out wq hSw; go_simp); (try with_reducible rfl)
      try simp only [Act.put, List.setIfInBounds_toArray, List.set_cons_zero, List.set_cons_succ]
      refine wpAnyH_take (i := 5) (oi := ⟨some 23, .move (.tmp 1), 24, "ref.go:165", #[], none⟩) (v := ?_) rfl (by kernel_rfl) (by kernel_rfl) (by kernel_rfl) (fun _ _ _ h => h) (Or.inl ⟨by rfl, ?hyr1x5q20⟩) (by assumption) ?restr1x5q20
      case hyr1x5q20 => intro wq hSw; (go_simp); (try with_reducible rfl)
      try simp only [Act.put, List.setIfInBounds_toArray, List.set_cons_zero, List.set_cons_succ]
      refine wpAnyH_take (i := 6) (oi := ⟨some 24, .move (.tmp 5), 3, "ref.go:165", #[], none⟩) (v := ?_) rfl (by kernel_rfl) (by kernel_rfl) (by kernel_rfl) (fun _ _ _ h => h) (Or.inl ⟨by rfl, ?hyr1x6q23⟩) (by assumption) ?restr1x6q23
      case hyr1x6q23 => intro wq hSw; (go_simp); (try with_reducible rfl)
      try simp only [Act.put, List.setIfInBounds_toArray, List.set_cons_zero, List.set_cons_succ]
      refine wpAnyH_take (i := 7) (oi := ⟨some 25, .indexAddr 24 (.tmp 23) (.tmp 24), 0, "ref.go:165", #[⟨5, .data⟩, ⟨6, .data⟩], none⟩) (v := ?_) rfl (by kernel_rfl) (by kernel_rfl) (by kernel_rfl) (fun _ _ _ h => h) (Or.inl ⟨by rfl, ?hyr1x7q26⟩) (by assumption) ?restr1x7q26
      case hyr1x7q26 => intro wq hSw; (go_simp); (try with_reducible rfl)
      try simp only [Act.put, List.setIfInBounds_toArray, List.set_cons_zero, List.set_cons_succ]
      refine wpAnyH_take (i := 8) (oi := ⟨some 26, .fieldAddr 45 (.tmp 25) 0, 0, "ref.go:165", #[⟨7, .data⟩], none⟩) (v := ?_) rfl (by kernel_rfl) (by kernel_rfl) (by kernel_rfl) (fun _ _ _ h => h) (Or.inl ⟨by rfl, ?hyr1x8q29⟩) (by assumption) ?restr1x8q29
      case hyr1x8q29 => intro wq hSw; (go_simp); (try with_reducible rfl)
      try simp only [Act.put, List.setIfInBounds_toArray, List.set_cons_zero, List.set_cons_succ]
      refine wpAnyH_take (i := 9) (oi := ⟨some 27, .load 3 (.tmp 26), 3, "ref.go:165", #[⟨8, .data⟩], none⟩) (v := ?_) rfl (by kernel_rfl) (by kernel_rfl) (by kernel_rfl) (fun _ _ _ h => h) (Or.inl ⟨by rfl, ?hyr1x9q32⟩) (by assumption) ?restr1x9q32
      case hyr1x9q32 => intro wq hSw; (have cq := B0.out wq hSw; go_simp); (try with_reducible rfl)
      try simp only [Act.put, List.setIfInBounds_toArray, List.set_cons_zero, List.set_cons_succ]
      refine wpAnyH_take (i := 10) (oi := ⟨some 28, .binOp .neq 3 (.tmp 22) (.tmp 27) 3, 4, "ref.go:165", #[⟨4, .data⟩, ⟨9, .data⟩], none⟩) (v := ?_) rfl (by kernel_rfl) (by kernel_rfl) (by kernel_rfl) (fun _ _ _ h => h) (Or.inl ⟨by rfl, ?hyr1x10q35⟩) (by assumption) ?restr1x10q35
      case hyr1x10q35 => intro wq hSw; (go_simp); (try with_reducible rfl)
      try simp only [Act.put, List.setIfInBounds_toArray, List.set_cons_zero, List.set_cons_succ]
      refine wpAnyH_take (i := 11) (oi := ⟨some 29, .move (.tmp 28), 4, "ref.go:165", #[⟨10, .data⟩], none⟩) (v := ?_) rfl (by kernel_rfl) (by kernel_rfl) (by kernel_rfl) (fun _ _ _ h => h) (Or.inl ⟨by rfl, ?hyr1x11q38⟩) (by assumption) ?restr1x11q38
      case hyr1x11q38 => intro wq hSw; (go_simp); (try with_reducible rfl)
      try simp only [Act.put, List.setIfInBounds_toArray, List.set_cons_zero, List.set_cons_succ]
      refine wpAnyH_take (i := 12) (oi := ⟨some 30, .move (.tmp 0), 24, "ref.go:165", #[⟨11, .guard⟩], some (11, false)⟩) (v := ?_) rfl (by kernel_rfl) (by kernel_rfl) (by kernel_rfl) (fun _ _ _ h => h) (Or.inl ⟨by rfl, ?hyr1x12q41⟩) (by assumption) ?restr1x12q41
      case hyr1x12q41 => intro wq hSw; (go_simp); (try with_reducible rfl)
      try simp only [Act.put, List.setIfInBounds_toArray, List.set_cons_zero, List.set_cons_succ]
      refine wpAnyH_take (i := 13) (oi := ⟨some 31, .move (.tmp 5), 3, "ref.go:165", #[⟨11, .guard⟩], some (11, false)⟩) (v := ?_) rfl (by kernel_rfl) (by kernel_rfl) (by kernel_rfl) (fun _ _ _ h => h) (Or.inl ⟨by rfl, ?hyr1x13q44⟩) (by assumption) ?restr1x13q44
      case hyr1x13q44 => intro wq hSw; (go_simp); (try with_reducible rfl)
      try simp only [Act.put, List.setIfInBounds_toArray, List.set_cons_zero, List.set_cons_succ]
      refine wpAnyH_take (i := 14) (oi := ⟨some 32, .indexAddr 24 (.tmp 30) (.tmp 31), 0, "ref.go:165", #[⟨12, .data⟩, ⟨13, .data⟩, ⟨11, .guard⟩], some (11, false)⟩) (v := ?_) rfl (by kernel_rfl) (by kernel_rfl) (by kernel_rfl) (fun _ _ _ h => h) (Or.inl ⟨by rfl, ?hyr1x14q47⟩) (by assumption) ?restr1x14q47
      case hyr1x14q47 => intro wq hSw; (go_simp); (try with_reducible rfl)
      try simp only [Act.put, List.setIfInBounds_toArray, List.set_cons_zero, List.set_cons_succ]
      refine wpAnyH_take (i := 15) (oi := ⟨some 33, .fieldAddr 45 (.tmp 32) 2, 0, "ref.go:165", #[⟨14, .data⟩, ⟨11, .guard⟩], some (11, false)⟩) (v := ?_) rfl (by kernel_rfl) (by kernel_rfl) (by kernel_rfl) (fun _ _ _ h => h) (Or.inl ⟨by rfl, ?hyr1x15q50⟩) (by assumption) ?restr1x15q50
      case hyr1x15q50 => intro wq hSw; (go_simp); (try with_reducible rfl)
      try simp only [Act.put, List.setIfInBounds_toArray, List.set_cons_zero, List.set_cons_succ]
      refine wpAnyH_take (i := 16) (oi := ⟨some 34, .load 3 (.tmp 33), 3, "ref.go:165", #[⟨15, .data⟩, ⟨11, .guard⟩], some (11, false)⟩) (v := ?_) rfl (by kernel_rfl) (by kernel_rfl) (by kernel_rfl) (fun _ _ _ h => h) (Or.inl ⟨by rfl, ?hyr1x16q53⟩) (by assumption) ?restr1x16q53
      case hyr1x16q53 => intro wq hSw; (have cq := A2.out wq hSw; go_simp); (try with_reducible rfl)
      try simp only [Act.put, List.setIfInBounds_toArray, List.set_cons_zero, List.set_cons_succ]
      refine wpAnyH_take (i := 17) (oi := ⟨some 35, .move (.tmp 1), 24, "ref.go:165", #[⟨11, .guard⟩], some (11, false)⟩) (v := ?_) rfl (by kernel_rfl) (by kernel_rfl) (by kernel_rfl) (fun _ _ _ h => h) (Or.inl ⟨by rfl, ?hyr1x17q56⟩) (by assumption) ?restr1x17q56
      case hyr1x17q56 => intro wq hSw; (go_simp); (try with_reducible rfl)
      try simp only [Act.put, List.setIfInBounds_toArray, List.set_cons_zero, List.set_cons_succ]
      refine wpAnyH_take (i := 18) (oi := ⟨some 36, .move (.tmp 5), 3, "ref.go:165", #[⟨11, .guard⟩], some (11, false)⟩) (v := ?_) rfl (by kernel_rfl) (by kernel_rfl) (by kernel_rfl) (fun _ _ _ h => h) (Or.inl ⟨by rfl, ?hyr1x18q59⟩) (by assumption) ?restr1x18q59
      case hyr1x18q59 => intro wq hSw; (go_simp); (try with_reducible rfl)
      try simp only [Act.put, List.setIfInBounds_toArray, List.set_cons_zero, List.set_cons_succ]
      refine wpAnyH_take (i := 19) (oi := ⟨some 37, .indexAddr 24 (.tmp 35) (.tmp 36), 0, "ref.go:165", #[⟨17, .data⟩, ⟨18, .data⟩, ⟨11, .guard⟩], some (11, false)⟩) (v := ?_) rfl (by kernel_rfl) (by kernel_rfl) (by kernel_rfl) (fun _ _ _ h => h) (Or.inl ⟨by rfl, ?hyr1x19q62⟩) (by assumption) ?restr1x19q62
      case hyr1x19q62 => intro wq hSw; (go_simp); (try with_reducible rfl)
      try simp only [Act.put, List.setIfInBounds_toArray, List.set_cons_zero, List.set_cons_succ]
      refine wpAnyH_take (i := 20) (oi := ⟨some 38, .fieldAddr 45 (.tmp 37) 2, 0, "ref.go:165", #[⟨19, .data⟩, ⟨11, .guard⟩], some (11, false)⟩) (v := ?_) rfl (by kernel_rfl) (by kernel_rfl) (by kernel_rfl) (fun _ _ _ h => h) (Or.inl ⟨by rfl, ?hyr1x20q65⟩) (by assumption) ?restr1x20q65
      case hyr1x20q65 => intro wq hSw; (go_simp); (try with_reducible rfl)
      try simp only [Act.put, List.setIfInBounds_toArray, List.set_cons_zero, List.set_cons_succ]
      refine wpAnyH_take (i := 21) (oi := ⟨some 39, .load 3 (.tmp 38), 3, "ref.go:165", #[⟨20, .data⟩, ⟨11, .guard⟩], some (11, false)⟩) (v := ?_) rfl (by kernel_rfl) (by kernel_rfl) (by kernel_rfl) (fun _ _ _ h => h) (Or.inl ⟨by rfl, ?hyr1x21q68⟩) (by assumption) ?restr1x21q68
      case hyr1x21q68 => intro wq hSw; (have cq := B2.out wq hSw; go_simp); (try with_reducible rfl)
      try simp only [Act.put, List.setIfInBounds_toArray, List.set_cons_zero, List.set_cons_succ]
      refine wpAnyH_take (i := 22) (oi := ⟨some 40, .binOp .neq 3 (.tmp 34) (.tmp 39) 3, 4, "ref.go:165", #[⟨16, .data⟩, ⟨21, .data⟩, ⟨11, .guard⟩], some (11, false)⟩) (v := ?_) rfl (by kernel_rfl) (by kernel_rfl) (by kernel_rfl) (fun _ _ _ h => h) (Or.inl ⟨by rfl, ?hyr1x22q71⟩) (by assumption) ?restr1x22q71
      case hyr1x22q71 => intro wq hSw; (go_simp); (try with_reducible rfl)
      try simp only [Act.put, List.setIfInBounds_toArray, List.set_cons_zero, List.set_cons_succ]
      refine wpAnyH_take (i := 23) (oi := ⟨some 41, .pick (.tmp 29) (.const (.bool true)) (.tmp 40), 4, "ref.go:165", #[⟨11, .data⟩, ⟨22, .data⟩], none⟩) (v := ?_) rfl (by kernel_rfl) (by kernel_rfl) (by kernel_rfl) (fun _ _ _ h => h) (Or.inl ⟨by rfl, ?hyr1x23q74⟩) (by assumption) ?restr1x23q74
      case hyr1x23q74 => intro wq hSw; (go_simp); (try with_reducible rfl)
      try simp only [Act.put, List.setIfInBounds_toArray, List.set_cons_zero, List.set_cons_succ]
      refine wpAnyH_take (i := 24) (oi := ⟨some 42, .move (.tmp 41), 4, "ref.go:165", #[⟨23, .data⟩, ⟨11, .chain⟩], none⟩) (v := ?_) rfl (by kernel_rfl) (by kernel_rfl) (by kernel_rfl) (fun _ _ _ h => h) (Or.inl ⟨by rfl, ?hyr1x24q77⟩) (by assumption) ?restr1x24q77
      case hyr1x24q77 => intro wq hSw; (go_simp); (try with_reducible rfl)
      try simp only [Act.put, List.setIfInBounds_toArray, List.set_cons_zero, List.set_cons_succ]
      refine wpAnyH_take (i := 25) (oi := ⟨some 43, .move (.tmp 0), 24, "ref.go:165", #[⟨24, .guard⟩], some (24, false)⟩) (v := ?_) rfl (by kernel_rfl) (by kernel_rfl) (by kernel_rfl) (fun _ _ _ h => h) (Or.inl ⟨by rfl, ?hyr1x25q80⟩) (by assumption) ?restr1x25q80
      case hyr1x25q80 => intro wq hSw; (go_simp); (try with_reducible rfl)
      try simp only [Act.put, List.setIfInBounds_toArray, List.set_cons_zero, List.set_cons_succ]
      refine wpAnyH_take (i := 26) (oi := ⟨some 44, .move (.tmp 5), 3, "ref.go:165", #[⟨24, .guard⟩], some (24, false)⟩) (v := ?_) rfl (by kernel_rfl) (by kernel_rfl) (by kernel_rfl) (fun _ _ _ h => h) (Or.inl ⟨by rfl, ?hyr1x26q83⟩) (by assumption) ?restr1x26q83
      case hyr1x26q83 => intro wq hSw; (go_simp); (try with_reducible rfl)
      try simp only [Act.put, List.setIfInBounds_toArray, List.set_cons_zero, List.set_cons_succ]
      refine wpAnyH_take (i := 27) (oi := ⟨some 45, .indexAddr 24 (.tmp 43) (.tmp 44), 0, "ref.go:165", #[⟨25, .data⟩, ⟨26, .data⟩, ⟨24, .guard⟩], some (24, false)⟩) (v := ?_) rfl (by kernel_rfl) (by kernel_rfl) (by kernel_rfl) (fun _ _ _ h => h) (Or.inl ⟨by rfl, ?hyr1x27q86⟩) (by assumption) ?restr1x27q86
      case hyr1x27q86 => intro wq hSw; (go_simp); (try with_reducible rfl)
      try simp only [Act.put, List.setIfInBounds_toArray, List.set_cons_zero, List.set_cons_succ]
      refine wpAnyH_take (i := 28) (oi := ⟨some 46, .fieldAddr 45 (.tmp 45) 3, 0, "ref.go:165", #[⟨27, .data⟩, ⟨24, .guard⟩], some (24, false)⟩) (v := ?_) rfl (by kernel_rfl) (by kernel_rfl) (by kernel_rfl) (fun _ _ _ h => h) (Or.inl ⟨by rfl, ?hyr1x28q89⟩) (by assumption) ?restr1x28q89
      case hyr1x28q89 => intro wq hSw; (go_simp); (try with_reducible rfl)
      try simp only [Act.put, List.setIfInBounds_toArray, List.set_cons_zero, List.set_cons_succ]
      refine wpAnyH_take (i := 29) (oi := ⟨some 47, .load 3 (.tmp 46), 3, "ref.go:165", #[⟨28, .data⟩, ⟨24, .guard⟩], some (24, false)⟩) (v := ?_) rfl (by kernel_rfl) (by kernel_rfl) (by kernel_rfl) (fun _ _ _ h => h) (Or.inl ⟨by rfl, ?hyr1x29q92⟩) (by assumption) ?restr1x29q92
      case hyr1x29q92 => intro wq hSw; (have cq := A3.out wq hSw; go_simp); (try with_reducible rfl)
      try simp only [Act.put, List.setIfInBounds_toArray, List.set_cons_zero, List.set_cons_succ]
      refine wpAnyH_take (i := 30) (oi := ⟨some 48, .move (.tmp 1), 24, "ref.go:165", #[⟨24, .guard⟩], some (24, false)⟩) (v := ?_) rfl (by kernel_rfl) (by kernel_rfl) (by kernel_rfl) (fun _ _ _ h => h) (Or.inl ⟨by rfl, ?hyr1x30q95⟩) (by assumption) ?restr1x30q95
      case hyr1x30q95 => intro wq hSw; (go_simp); (try with_reducible rfl)
      try simp only [Act.put, List.setIfInBounds_toArray, List.set_cons_zero, List.set_cons_succ]
      refine wpAnyH_take (i := 31) (oi := ⟨some 49, .move (.tmp 5), 3, "ref.go:165", #[⟨24, .guard⟩], some (24, false)⟩) (v := ?_) rfl (by kernel_rfl) (by kernel_rfl) (by kernel_rfl) (fun _ _ _ h => h) (Or.inl ⟨by rfl, ?hyr1x31q98⟩) (by assumption) ?restr1x31q98
      case hyr1x31q98 => intro wq hSw; (go_simp); (try with_reducible rfl)
      try simp only [Act.put, List.setIfInBounds_toArray, List.set_cons_zero, List.set_cons_succ]
      refine wpAnyH_take (i := 32) (oi := ⟨some 50, .indexAddr 24 (.tmp 48) (.tmp 49), 0, "ref.go:165", #[⟨30, .data⟩, ⟨31, .data⟩, ⟨24, .guard⟩], some (24, false)⟩) (v := ?_) rfl (by kernel_rfl) (by kernel_rfl) (by kernel_rfl) (fun _ _ _ h => h) (Or.inl ⟨by rfl, ?hyr1x32q101⟩) (by assumption) ?restr1x32q101
      case hyr1x32q101 => intro wq hSw; (go_simp); (try with_reducible rfl)
      try simp only [Act.put, List.setIfInBounds_toArray, List.set_cons_zero, List.set_cons_succ]
      refine wpAnyH_take (i := 33) (oi := ⟨some 51, .fieldAddr 45 (.tmp 50) 3, 0, "ref.go:165", #[⟨32, .data⟩, ⟨24, .guard⟩], some (24, false)⟩) (v := ?_) rfl (by kernel_rfl) (by kernel_rfl) (by kernel_rfl) (fun _ _ _ h => h) (Or.inl ⟨by rfl, ?hyr1x33q104⟩) (by assumption) ?restr1x33q104
      case hyr1x33q104 => intro wq hSw; (go_simp); (try with_reducible rfl)
      try simp only [Act.put, List.setIfInBounds_toArray, List.set_cons_zero, List.set_cons_succ]
      refine wpAnyH_take (i := 34) (oi := ⟨some 52, .load 3 (.tmp 51), 3, "ref.go:165", #[⟨33, .data⟩, ⟨24, .guard⟩], some (24, false)⟩) (v := ?_) rfl (by kernel_rfl) (by kernel_rfl) (by kernel_rfl) (fun _ _ _ h => h) (Or.inl ⟨by rfl, ?hyr1x34q107⟩) (by assumption) ?restr1x34q107
      case hyr1x34q107 => intro wq hSw; (have cq := B3.out wq hSw; go_simp); (try with_reducible rfl)
      try simp only [Act.put, List.setIfInBounds_toArray, List.set_cons_zero, List.set_cons_succ]
      refine wpAnyH_take (i := 35) (oi := ⟨some 53, .binOp .neq 3 (.tmp 47) (.tmp 52) 3, 4, "ref.go:165", #[⟨29, .data⟩, ⟨34, .data⟩, ⟨24, .guard⟩], some (24, false)⟩) (v := ?_) rfl (by kernel_rfl) (by kernel_rfl) (by kernel_rfl) (fun _ _ _ h => h) (Or.inl ⟨by rfl, ?hyr1x35q110⟩) (by assumption) ?restr1x35q110
      case hyr1x35q110 => intro wq hSw; (go_simp); (try with_reducible rfl)
      try simp only [Act.put, List.setIfInBounds_toArray, List.set_cons_zero, List.set_cons_succ]
      refine wpAnyH_take (i := 36) (oi := ⟨some 54, .pick (.tmp 42) (.const (.bool true)) (.tmp 53), 4, "ref.go:165", #[⟨24, .data⟩, ⟨35, .data⟩], none⟩) (v := ?_) rfl (by kernel_rfl) (by kernel_rfl) (by kernel_rfl) (fun _ _ _ h => h) (Or.inl ⟨by rfl, ?hyr1x36q113⟩) (by assumption) ?restr1x36q113
      case hyr1x36q113 => intro wq hSw; (go_simp); (try with_reducible rfl)
      try simp only [Act.put, List.setIfInBounds_toArray, List.set_cons_zero, List.set_cons_succ]
      refine wpAnyH_take (i := 37) (oi := ⟨some 55, .move (.tmp 54), 4, "ref.go:165", #[⟨36, .data⟩, ⟨24, .chain⟩], none⟩) (v := ?_) rfl (by kernel_rfl) (by kernel_rfl) (by kernel_rfl) (fun _ _ _ h => h) (Or.inl ⟨by rfl, ?hyr1x37q116⟩) (by assumption) ?restr1x37q116
      case hyr1x37q116 => intro wq hSw; (go_simp); (try with_reducible rfl)
      try simp only [Act.put, List.setIfInBounds_toArray, List.set_cons_zero, List.set_cons_succ]
      refine wpAnyH_take (i := 38) (oi := ⟨some 56, .move (.tmp 0), 24, "ref.go:165", #[⟨37, .guard⟩], some (37, false)⟩) (v := ?_) rfl (by kernel_rfl) (by kernel_rfl) (by kernel_rfl) (fun _ _ _ h => h) (Or.inl ⟨by rfl, ?hyr1x38q119⟩) (by assumption) ?restr1x38q119
      case hyr1x38q119 => intro wq hSw; (go_simp); (try with_reducible rfl)
      try simp only [Act.put, List.setIfInBounds_toArray, List.set_cons_zero, List.set_cons_succ]
      refine wpAnyH_take (i := 39) (oi := ⟨some 57, .move (.tmp 5), 3, "ref.go:165", #[⟨37, .guard⟩], some (37, false)⟩) (v := ?_) rfl (by kernel_rfl) (by kernel_rfl) (by kernel_rfl) (fun _ _ _ h => h) (Or.inl ⟨by rfl, ?hyr1x39q122⟩) (by assumption) ?restr1x39q122
      case hyr1x39q122 => intro wq hSw; (go_simp); (try with_reducible rfl)
      try simp only [Act.put, List.setIfInBounds_toArray, List.set_cons_zero, List.set_cons_succ]
      refine wpAnyH_take (i := 40) (oi := ⟨some 58, .indexAddr 24 (.tmp 56) (.tmp 57), 0, "ref.go:165", #[⟨38, .data⟩, ⟨39, .data⟩, ⟨37, .guard⟩], some (37, false)⟩) (v := ?_) rfl (by kernel_rfl) (by kernel_rfl) (by kernel_rfl) (fun _ _ _ h => h) (Or.inl ⟨by rfl, ?hyr1x40q125⟩) (by assumption) ?restr1x40q125
      case hyr1x40q125 => intro wq hSw; (go_simp); (try with_reducible rfl)
      try simp only [Act.put, List.setIfInBounds_toArray, List.set_cons_zero, List.set_cons_succ]
      refine wpAnyH_take (i := 41) (oi := ⟨some 59, .fieldAddr 45 (.tmp 58) 1, 0, "ref.go:165", #[⟨40, .data⟩, ⟨37, .guard⟩], some (37, false)⟩) (v := ?_) rfl (by kernel_rfl) (by kernel_rfl) (by kernel_rfl) (fun _ _ _ h => h) (Or.inl ⟨by rfl, ?hyr1x41q128⟩) (by assumption) ?restr1x41q128
      case hyr1x41q128 => intro wq hSw; (go_simp); (try with_reducible rfl)
      try simp only [Act.put, List.setIfInBounds_toArray, List.set_cons_zero, List.set_cons_succ]
      refine wpAnyH_take (i := 42) (oi := ⟨some 60, .load 22 (.tmp 59), 22, "ref.go:165", #[⟨41, .data⟩, ⟨37, .guard⟩], some (37, false)⟩) (v := ?_) rfl (by kernel_rfl) (by kernel_rfl) (by kernel_rfl) (fun _ _ _ h => h) (Or.inl ⟨by rfl, ?hyr1x42q131⟩) (by assumption) ?restr1x42q131
      case hyr1x42q131 => intro wq hSw; (have cq := A1.out wq hSw; go_simp); (try with_reducible rfl)
      try simp only [Act.put, List.setIfInBounds_toArray, List.set_cons_zero, List.set_cons_succ]
      refine wpAnyH_take (i := 43) (oi := ⟨some 61, .move (.tmp 1), 24, "ref.go:165", #[⟨37, .guard⟩], some (37, false)⟩) (v := ?_) rfl (by kernel_rfl) (by kernel_rfl) (by kernel_rfl) (fun _ _ _ h => h) (Or.inl ⟨by rfl, ?hyr1x43q134⟩) (by assumption) ?restr1x43q134
      case hyr1x43q134 => intro wq hSw; (go_simp); (try with_reducible rfl)
      try simp only [Act.put, List.setIfInBounds_toArray, List.set_cons_zero, List.set_cons_succ]
      refine wpAnyH_take (i := 44) (oi := ⟨some 62, .move (.tmp 5), 3, "ref.go:165", #[⟨37, .guard⟩], some (37, false)⟩) (v := ?_) rfl (by kernel_rfl) (by kernel_rfl) (by kernel_rfl) (fun _ _ _ h => h) (Or.inl ⟨by rfl, ?hyr1x44q137⟩) (by assumption) ?restr1x44q137
      case hyr1x44q137 => intro wq hSw; (go_simp); (try with_reducible rfl)
      try simp only [Act.put, List.setIfInBounds_toArray, List.set_cons_zero, List.set_cons_succ]
      refine wpAnyH_take (i := 45) (oi := ⟨some 63, .indexAddr 24 (.tmp 61) (.tmp 62), 0, "ref.go:165", #[⟨43, .data⟩, ⟨44, .data⟩, ⟨37, .guard⟩], some (37, false)⟩) (v := ?_) rfl (by kernel_rfl) (by kernel_rfl) (by kernel_rfl) (fun _ _ _ h => h) (Or.inl ⟨by rfl, ?hyr1x45q140⟩) (by assumption) ?restr1x45q140
      case hyr1x45q140 => intro wq hSw; (go_simp); (try with_reducible rfl)
      try simp only [Act.put, List.setIfInBounds_toArray, List.set_cons_zero, List.set_cons_succ]
      refine wpAnyH_take (i := 46) (oi := ⟨some 64, .fieldAddr 45 (.tmp 63) 1, 0, "ref.go:165", #[⟨45, .data⟩, ⟨37, .guard⟩], some (37, false)⟩) (v := ?_) rfl (by kernel_rfl) (by kernel_rfl) (by kernel_rfl) (fun _ _ _ h => h) (Or.inl ⟨by rfl, ?hyr1x46q143⟩) (by assumption) ?restr1x46q143
      case hyr1x46q143 => intro wq hSw; (go_simp); (try with_reducible rfl)
      try simp only [Act.put, List.setIfInBounds_toArray, List.set_cons_zero, List.set_cons_succ]
      refine wpAnyH_take (i := 47) (oi := ⟨some 65, .load 22 (.tmp 64), 22, "ref.go:165", #[⟨46, .data⟩, ⟨37, .guard⟩], some (37, false)⟩) (v := ?_) rfl (by kernel_rfl) (by kernel_rfl) (by kernel_rfl) (fun _ _ _ h => h) (Or.inl ⟨by rfl, ?hyr1x47q146⟩) (by assumption) ?restr1x47q146
      case hyr1x47q146 => intro wq hSw; (have cq := B1.out wq hSw; go_simp); (try with_reducible rfl)
      try simp only [Act.put, List.setIfInBounds_toArray, List.set_cons_zero, List.set_cons_succ]
      refine wpAnyH_ready (rs := [48]) (by kernel_rfl) (by simp) ?_
      refine AllReadyH.cons (o := ⟨some 66, .call { callee := .value (.func 64), args := #[.tmp 60, .tmp 65], argTypes := #[22, 22] }, 4, "ref.go:165", #[⟨42, .data⟩, ⟨47, .data⟩, ⟨37, .chain⟩, ⟨37, .guard⟩], some (37, false)⟩) rfl (fun K hK => ?_) AllReadyH.nil
      go_simp
      (with_reducible refine (sameints_x _ _ _ _ _ y.known _ (S1.out.nx hHeld) (T1.out.nx hHeld) (by omega)).mono ?_)
      rintro e wb ⟨rfl, kk⟩
      replace hHeld := hHeld.nx kk
      clear kk
      refine hK.out _ _ (hHeld) (fun hHeld => ?_)
      clear hK K
      try simp only [Act.put, List.setIfInBounds_toArray, List.set_cons_zero, List.set_cons_succ]
      refine wpAnyH_take (i := 49) (oi := ⟨some 67, .unOp .not 4 (.tmp 66), 4, "ref.go:165", #[⟨48, .data⟩, ⟨37, .guard⟩], some (37, false)⟩) (v := ?_) rfl (by kernel_rfl) (by kernel_rfl) (by kernel_rfl) (fun _ _ _ h => h) (Or.inl ⟨by rfl, ?hyr1x49q159⟩) (by assumption) ?restr1x49q159
      case hyr1x49q159 => intro wq hSw; (go_simp); (try with_reducible rfl)
      try simp only [Act.put, List.setIfInBounds_toArray, List.set_cons_zero, List.set_cons_succ]
      refine wpAnyH_take (i := 50) (oi := ⟨some 68, .pick (.tmp 55) (.const (.bool true)) (.tmp 67), 4, "ref.go:165", #[⟨37, .data⟩, ⟨49, .data⟩], none⟩) (v := ?_) rfl (by kernel_rfl) (by kernel_rfl) (by kernel_rfl) (fun _ _ _ h => h) (Or.inl ⟨by rfl, ?hyr1x50q162⟩) (by assumption) ?restr1x50q162
      case hyr1x50q162 => intro wq hSw; (go_simp); (try with_reducible rfl)
      try simp only [Act.put, List.setIfInBounds_toArray, List.set_cons_zero, List.set_cons_succ]
      refine wpAnyH_take (i := 51) (oi := ⟨some 69, .move (.tmp 68), 4, "ref.go:165", #[⟨50, .data⟩, ⟨48, .chain⟩], none⟩) (v := ?_) rfl (by kernel_rfl) (by kernel_rfl) (by kernel_rfl) (fun _ _ _ h => h) (Or.inl ⟨by rfl, ?hyr1x51q165⟩) (by assumption) ?restr1x51q165
      case hyr1x51q165 => intro wq hSw; (go_simp); (try with_reducible rfl)
      try simp only [Act.put, List.setIfInBounds_toArray, List.set_cons_zero, List.set_cons_succ]
      refine wpAnyH_take (i := 52) (oi := ⟨some 70, .move (.tmp 0), 24, "ref.go:165", #[⟨51, .guard⟩], some (51, false)⟩) (v := ?_) rfl (by kernel_rfl) (by kernel_rfl) (by kernel_rfl) (fun _ _ _ h => h) (Or.inl ⟨by rfl, ?hyr1x52q168⟩) (by assumption) ?restr1x52q168
      case hyr1x52q168 => intro wq hSw; (go_simp); (try with_reducible rfl)
      try simp only [Act.put, List.setIfInBounds_toArray, List.set_cons_zero, List.set_cons_succ]
      refine wpAnyH_take (i := 53) (oi := ⟨some 71, .move (.tmp 5), 3, "ref.go:165", #[⟨51, .guard⟩], some (51, false)⟩) (v := ?_) rfl (by kernel_rfl) (by kernel_rfl) (by kernel_rfl) (fun _ _ _ h => h) (Or.inl ⟨by rfl, ?hyr1x53q171⟩) (by assumption) ?restr1x53q171
      case hyr1x53q171 => intro wq hSw; (go_simp); (try with_reducible rfl)
      try simp only [Act.put, List.setIfInBounds_toArray, List.set_cons_zero, List.set_cons_succ]
      refine wpAnyH_take (i := 54) (oi := ⟨some 72, .indexAddr 24 (.tmp 70) (.tmp 71), 0, "ref.go:165", #[⟨52, .data⟩, ⟨53, .data⟩, ⟨51, .guard⟩], some (51, false)⟩) (v := ?_) rfl (by kernel_rfl) (by kernel_rfl) (by kernel_rfl) (fun _ _ _ h => h) (Or.inl ⟨by rfl, ?hyr1x54q174⟩) (by assumption) ?restr1x54q174
      case hyr1x54q174 => intro wq hSw; (go_simp); (try with_reducible rfl)
      try simp only [Act.put, List.setIfInBounds_toArray, List.set_cons_zero, List.set_cons_succ]
      refine wpAnyH_take (i := 55) (oi := ⟨some 73, .fieldAddr 45 (.tmp 72) 4, 0, "ref.go:165", #[⟨54, .data⟩, ⟨51, .guard⟩], some (51, false)⟩) (v := ?_) rfl (by kernel_rfl) (by kernel_rfl) (by kernel_rfl) (fun _ _ _ h => h) (Or.inl ⟨by rfl, ?hyr1x55q177⟩) (by assumption) ?restr1x55q177
      case hyr1x55q177 => intro wq hSw; (go_simp); (try with_reducible rfl)
      try simp only [Act.put, List.setIfInBounds_toArray, List.set_cons_zero, List.set_cons_succ]
      refine wpAnyH_take (i := 56) (oi := ⟨some 74, .load 43 (.tmp 73), 43, "ref.go:165", #[⟨55, .data⟩, ⟨51, .guard⟩], some (51, false)⟩) (v := ?_) rfl (by kernel_rfl) (by kernel_rfl) (by kernel_rfl) (fun _ _ _ h => h) (Or.inl ⟨by rfl, ?hyr1x56q180⟩) (by assumption) ?restr1x56q180
      case hyr1x56q180 => intro wq hSw; (have cq := A4.out wq hSw; go_simp); (try with_reducible rfl)
      try simp only [Act.put, List.setIfInBounds_toArray, List.set_cons_zero, List.set_cons_succ]
      refine wpAnyH_take (i := 57) (oi := ⟨some 75, .call { callee := .builtin .len, args := #[.tmp 74], argTypes := #[43] }, 3, "ref.go:165", #[⟨56, .data⟩, ⟨51, .guard⟩], some (51, false)⟩) (v := ?_) rfl (by kernel_rfl) (by kernel_rfl) (by kernel_rfl) (fun _ _ _ h => h) (Or.inl ⟨by rfl, ?hyr1x57q183⟩) (by assumption) ?restr1x57q183
      case hyr1x57q183 => intro wq hSw; (go_simp); (try with_reducible rfl)
      try simp only [Act.put, List.setIfInBounds_toArray, List.set_cons_zero, List.set_cons_succ]
      refine wpAnyH_take (i := 58) (oi := ⟨some 76, .move (.tmp 1), 24, "ref.go:165", #[⟨51, .guard⟩], some (51, false)⟩) (v := ?_) rfl (by kernel_rfl) (by kernel_rfl) (by kernel_rfl) (fun _ _ _ h => h) (Or.inl ⟨by rfl, ?hyr1x58q186⟩) (by assumption) ?restr1x58q186
      case hyr1x58q186 => intro wq hSw; (go_simp); (try with_reducible rfl)
      try simp only [Act.put, List.setIfInBounds_toArray, List.set_cons_zero, List.set_cons_succ]
      refine wpAnyH_take (i := 59) (oi := ⟨some 77, .move (.tmp 5), 3, "ref.go:165", #[⟨51, .guard⟩], some (51, false)⟩) (v := ?_) rfl (by kernel_rfl) (by kernel_rfl) (by kernel_rfl) (fun _ _ _ h => h) (Or.inl ⟨by rfl, ?hyr1x59q189⟩) (by assumption) ?restr1x59q189
      case hyr1x59q189 => intro wq hSw; (go_simp); (try with_reducible rfl)
      try simp only [Act.put, List.setIfInBounds_toArray, List.set_cons_zero, List.set_cons_succ]
      refine wpAnyH_take (i := 60) (oi := ⟨some 78, .indexAddr 24 (.tmp 76) (.tmp 77), 0, "ref.go:165", #[⟨58, .data⟩, ⟨59, .data⟩, ⟨51, .guard⟩], some (51, false)⟩) (v := ?_) rfl (by kernel_rfl) (by kernel_rfl) (by kernel_rfl) (fun _ _ _ h => h) (Or.inl ⟨by rfl, ?hyr1x60q192⟩) (by assumption) ?restr1x60q192
      case hyr1x60q192 => intro wq hSw; (go_simp); (try with_reducible rfl)
      try simp only [Act.put, List.setIfInBounds_toArray, List.set_cons_zero, List.set_cons_succ]
      refine wpAnyH_take (i := 61) (oi := ⟨some 79, .fieldAddr 45 (.tmp 78) 4, 0, "ref.go:165", #[⟨60, .data⟩, ⟨51, .guard⟩], some (51, false)⟩) (v := ?_) rfl (by kernel_rfl) (by kernel_rfl) (by kernel_rfl) (fun _ _ _ h => h) (Or.inl ⟨by rfl, ?hyr1x61q195⟩) (by assumption) ?restr1x61q195
      case hyr1x61q195 => intro wq hSw; (go_simp); (try with_reducible rfl)
      try simp only [Act.put, List.setIfInBounds_toArray, List.set_cons_zero, List.set_cons_succ]
      refine wpAnyH_take (i := 62) (oi := ⟨some 80, .load 43 (.tmp 79), 43, "ref.go:165", #[⟨61, .data⟩, ⟨51, .guard⟩], some (51, false)⟩) (v := ?_) rfl (by kernel_rfl) (by kernel_rfl) (by kernel_rfl) (fun _ _ _ h => h) (Or.inl ⟨by rfl, ?hyr1x62q198⟩) (by assumption) ?restr1x62q198
      case hyr1x62q198 => intro wq hSw; (have cq := B4.out wq hSw; go_simp); (try with_reducible rfl)
      try simp only [Act.put, List.setIfInBounds_toArray, List.set_cons_zero, List.set_cons_succ]
      refine wpAnyH_take (i := 63) (oi := ⟨some 81, .call { callee := .builtin .len, args := #[.tmp 80], argTypes := #[43] }, 3, "ref.go:165", #[⟨62, .data⟩, ⟨51, .guard⟩], some (51, false)⟩) (v := ?_) rfl (by kernel_rfl) (by kernel_rfl) (by kernel_rfl) (fun _ _ _ h => h) (Or.inl ⟨by rfl, ?hyr1x63q201⟩) (by assumption) ?restr1x63q201
      case hyr1x63q201 => intro wq hSw; (go_simp); (try with_reducible rfl)
      try simp only [Act.put, List.setIfInBounds_toArray, List.set_cons_zero, List.set_cons_succ]
      refine wpAnyH_take (i := 64) (oi := ⟨some 82, .binOp .neq 3 (.tmp 75) (.tmp 81) 3, 4, "ref.go:165", #[⟨57, .data⟩, ⟨63, .data⟩, ⟨51, .guard⟩], some (51, false)⟩) (v := ?_) rfl (by kernel_rfl) (by kernel_rfl) (by kernel_rfl) (fun _ _ _ h => h) (Or.inl ⟨by rfl, ?hyr1x64q204⟩) (by assumption) ?restr1x64q204
      case hyr1x64q204 => intro wq hSw; (go_simp); (try with_reducible rfl)
      try simp only [Act.put, List.setIfInBounds_toArray, List.set_cons_zero, List.set_cons_succ]
      refine wpAnyH_take (i := 65) (oi := ⟨some 83, .pick (.tmp 69) (.const (.bool true)) (.tmp 82), 4, "ref.go:165", #[⟨51, .data⟩, ⟨64, .data⟩], none⟩) (v := ?_) rfl (by kernel_rfl) (by kernel_rfl) (by kernel_rfl) (fun _ _ _ h => h) (Or.inl ⟨by rfl, ?hyr1x65q207⟩) (by assumption) ?restr1x65q207
      case hyr1x65q207 => intro wq hSw; (go_simp); (try with_reducible rfl)
      try simp only [Act.put, List.setIfInBounds_toArray, List.set_cons_zero, List.set_cons_succ]
      refine wpAnyH_done (by kernel_rfl) ?_ _
      have K6 := Lib.hid hHeld
      clear hHeld hDrew
      have cq := A4.out _ K6.out
      go_wp2_with fail
      go_loopw [6] (fun i wr => KtRel m4 wb i wr) (fun i _ => m4 - (intOf i).toNat)
      case atStart => exact ⟨0, Nat.zero_le _, rfl, Ex.refl _⟩
      case round =>
        clear cq
        obtain ⟨t, ht, rfl, kv⟩ := hrel
        obtain ⟨wj, rfl⟩ : ∃ wj : World, wj = wr := ⟨_, rfl⟩
        have KV := Lib.hid (K6.out.nx kv)
        have KJ := Lib.hid kv
        clear kv
        have cq := A4.out _ KV.out
        have cr := B4.out _ KV.out
        by_cases htt : t < m4
        · obtain ⟨xa, oa, z, rfl, hxa, hz, hca⟩ := (S4.out.nx KV.out).at htt
          obtain ⟨xb, ob, z', rfl, hxb, hz', hcb⟩ := (T4.out.nx KV.out).at htt
          obtain rfl : z = z' := Option.some.inj (hz.symm.trans hz')
          have f0 : wj.cell? ⟨xa, oa + t * 4, none⟩ = some (.int .i64 z.1) := by simpa using hca 0 _ rfl
          have f1 : wj.cell? ⟨xa, oa + t * 4 + 1, none⟩ = some (.int .i64 z.2.1) := by simpa using hca 1 _ rfl
          have f2 : wj.cell? ⟨xa, oa + t * 4 + 1 + 1, none⟩ = some (.int .i64 z.2.2.1) := by simpa [Nat.add_assoc] using hca 2 _ rfl
          have f3 : wj.cell? ⟨xa, oa + t * 4 + 1 + 1 + 1, none⟩ = some (.int .i64 z.2.2.2) := by simpa [Nat.add_assoc] using hca 3 _ rfl
          have g0 : wj.cell? ⟨xb, ob + t * 4, none⟩ = some (.int .i64 z.1) := by simpa using hcb 0 _ rfl
          have g1 : wj.cell? ⟨xb, ob + t * 4 + 1, none⟩ = some (.int .i64 z.2.1) := by simpa using hcb 1 _ rfl
          have g2 : wj.cell? ⟨xb, ob + t * 4 + 1 + 1, none⟩ = some (.int .i64 z.2.2.1) := by simpa [Nat.add_assoc] using hcb 2 _ rfl
          have g3 : wj.cell? ⟨xb, ob + t * 4 + 1 + 1 + 1, none⟩ = some (.int .i64 z.2.2.2) := by simpa [Nat.add_assoc] using hcb 3 _ rfl
          have RR := Lib.hid (fun m => show KtRel m4 wb (.int .i64 ((t : Int) + 1)) (wj.drewN m) from ⟨t + 1, by omega, by go_num, KJ.out.drewN m⟩)
          clear hca hcb hz hz' hxa hxb
          go_wp2_with fail
          go_quiet (fail)
          go_wp2_with fail
          exact ⟨RR.out _, by simp [intOf]; omega⟩
        · obtain rfl : t = m4 := by omega
          have RR := Lib.hid (show KtRel n w (.int .i64 ((k : Int) + 1)) wj from ⟨k + 1, by omega, by go_num, KW.out.nx KV.out⟩)
          clear ht htt
          go_wp2_with fail
          exact ⟨RR.out, by simp [intOf]; omega⟩
    · obtain rfl : k = n := by omega
      have K1 := Lib.hid KW.out
      clear hk
      go_wp2_with fail
      go_ret
      exact ⟨rfl, K1.out⟩
end Go.Proofs.YtbnbjiddffihoaaGreatDoor

/- The sanity check of chapter 17. -/
namespace Go.Proofs.YtbnbjiddffihoaaGreatDoor
open Go.RowKit

def threeN : List Nd := [⟨1, ⟨#[97]⟩, 0⟩, ⟨2, ⟨#[98]⟩, 1⟩, ⟨3, ⟨#[99]⟩, 2⟩]
def lowI : Nat → List Pr
  | 0 => [⟨1, 0, 2, [], []⟩, ⟨2, 1, 3, [], []⟩, ⟨3, 2, 0, [], []⟩]
  | k + 1 => bRoundN threeN (lowI k) 1
def thrP : List Pr := peersN threeN 1 1
theorem threeW : ∀ x ∈ threeN, x.word < 4294967296 := by decide +kernel
theorem thr_len : thrP.length = 3 := by decide +kernel
theorem thr_round : bRoundN threeN thrP 1 = thrP := by kernel_rfl
theorem smallA {P : List Pr} (h : P.all (fun p => decide (p.known.length ≤ 10) && decide (p.near.length ≤ 10)) = true) : ∀ p ∈ P, p.known.length ≤ 10 ∧ p.near.length ≤ 10 := fun p hp => by
  have := List.all_eq_true.1 h p hp
  simpa only [Bool.and_eq_true, decide_eq_true_eq] using this
theorem thr_small : ∀ p ∈ thrP, p.known.length ≤ 10 ∧ p.near.length ≤ 10 := smallA (by decide +kernel)
theorem low_small : ∀ k, k ≤ 3 → ∀ p ∈ lowI k, p.known.length ≤ 10 ∧ p.near.length ≤ 10
  | 0, _ => smallA (by decide +kernel)
  | 1, _ => smallA (by decide +kernel)
  | 2, _ => smallA (by decide +kernel)
  | 3, _ => smallA (by decide +kernel)
  | k + 4, h => absurd h (by omega)
theorem low_len : ∀ k, k ≤ 3 → (lowI k).length = 3
  | 0, _ => by decide +kernel
  | 1, _ => by decide +kernel
  | 2, _ => by decide +kernel
  | 3, _ => by decide +kernel
  | k + 4, h => absurd h (by omega)
theorem small10 {P : List Pr} (h : ∀ p ∈ P, p.known.length ≤ 10 ∧ p.near.length ≤ 10) : SmallP P := fun p hp => by have := h p hp; omega
theorem three_b : (buildN threeN 1).2 = 0 := by decide +kernel
theorem thr_exact : exactB threeN thrP 1 = true := by
  rw [exactB_eq three_b]
  exact decide_eq_true (by decide +kernel)
theorem low_exact : exactB threeN (lowI 3) 1 = true := by
  rw [exactB_eq three_b]
  exact decide_eq_true (by decide +kernel)
theorem low_link : ((lowI 3)[0]?).map (fun y => linkB threeN y 1) = some (0, 3) := by decide +kernel
theorem rnds_31 : rndsB 3 1 = 3 := by decide +kernel
def TnPost (w : World) (e : Ending) (w' : World) : Prop := ∃ a, e = .returned (.slice a 3 3) ∧ Sl 3 encN w' a 3 threeN ∧ Ex w w'
theorem three_x (w : World) : Calls Tryz.prog 56 #[] w (TnPost w) := by
  go_enter Tryz.func56, Tryz.ntmps56
  go_wp2_with fail
  go_ret
  exact ⟨_, rfl, Sl.lit threeN rfl rfl (fun _ => rfl) rfl, Ex.new _ _⟩
theorem lowLit (w : World) : ∃ g v, g = w.heap.size ∧ v = w.alloc (.cells #[.int .i64 1, .slice none 0 0, .int .i64 0, .int .i64 2, .slice none 0 0, .int .i64 2, .slice none 0 0, .int .i64 1, .int .i64 3, .slice none 0 0, .int .i64 3, .slice none 0 0, .int .i64 2, .int .i64 0, .slice none 0 0] 45) ∧
    PL v (some ⟨g, 0, none⟩) 3 (lowI 0) ∧ Ex w v := by
  refine ⟨_, _, rfl, rfl, ⟨[((1, 0, 2), (none, 0, 0), (none, 0, 0)), ((2, 1, 3), (none, 0, 0), (none, 0, 0)), ((3, 2, 0), (none, 0, 0), (none, 0, 0))], ?_, rfl, fun j q p hq hp => ?_⟩, Ex.new _ _⟩
  · exact Sl.lit (enc := encQ) (sz := 5) (w := w) (s := w.heap.size) (ty := 45) (n := 3) [((1, 0, 2), (none, 0, 0), (none, 0, 0)), ((2, 1, 3), (none, 0, 0), (none, 0, 0)), ((3, 2, 0), (none, 0, 0), (none, 0, 0))] rfl rfl encQ_len rfl
  · rcases j with _ | _ | _ | j
    · simp only [List.getElem?_cons_zero, Option.some.injEq, lowI] at hq hp
      subst hq hp
      exact ⟨rfl, Sl.nil _ _ _ _, Sl.nil _ _ _ _⟩
    · simp only [List.getElem?_cons_zero, List.getElem?_cons_succ, Option.some.injEq, lowI] at hq hp
      subst hq hp
      exact ⟨rfl, Sl.nil _ _ _ _, Sl.nil _ _ _ _⟩
    · simp only [List.getElem?_cons_zero, List.getElem?_cons_succ, Option.some.injEq, lowI] at hq hp
      subst hq hp
      exact ⟨rfl, Sl.nil _ _ _ _, Sl.nil _ _ _ _⟩
    · simp at hq
def LwRel (w : World) (o i : Value) (wr : World) : Prop :=
  ∃ (k : Nat) (a : Option Addr) (c : Nat), k ≤ 3 ∧ i = .int .i64 k ∧ o = .slice a 3 c ∧ PL wr a 3 (lowI k) ∧ Ex w wr
set_option maxRecDepth 100000 in
set_option maxHeartbeats 8000000 in
theorem sane17_x (w : World) (hT : TabG w) : Calls Tryz.prog 18 #[] w fun e w' => e = .returned (.bool true) ∧ Ex w w' := by
  go_enter Tryz.func18, Tryz.ntmps18
  have k := Ex.refl w
  go_wp2_with fail
  (with_reducible refine (three_x _).mono ?_)
  rintro e w1 ⟨a1, rfl, S1, kk⟩
  replace k := k.nx kk
  replace hT := hT.nx kk
  clear kk
  go_wp2_with fail
  (with_reducible refine (peers_p _ _ _ threeN 1 1 _ S1 (by omega) (by omega) (by unfold maxLen; omega) threeW hT).mono ?_)
  rintro e w2 ⟨v, qs, rfl, own, kk⟩
  replace k := k.nx kk
  replace hT := hT.nx kk
  clear kk S1
  replace own : OwnPr w1.heap.size w2 v qs thrP := own
  obtain ⟨aP, cP, rfl, PP, _, _, _, _⟩ := own.pl
  rw [thr_len] at PP ⊢
  clear own
  go_wp2_with fail
  (with_reducible refine (three_x _).mono ?_)
  rintro e w3 ⟨a1, rfl, S1, kk⟩
  replace k := k.nx kk
  replace hT := hT.nx kk
  replace PP := PP.nx kk
  clear kk
  go_wp2_with fail
  (with_reducible refine (bround_p _ _ _ threeN _ _ _ thrP 1 _ S1 (by omega) (by omega) (by unfold maxLen; omega) threeW PP (by omega) (small10 thr_small)).mono ?_)
  rintro e w4 ⟨v, qs, rfl, own, kk⟩
  replace k := k.nx kk
  replace hT := hT.nx kk
  replace PP := PP.nx kk
  clear kk S1
  rw [thr_round] at own
  obtain ⟨aQ, cQ, rfl, PQ, _, _, _, _⟩ := own.pl
  rw [thr_len] at PQ ⊢
  clear own
  obtain ⟨g5, w5, hg5, hw5, PL0, kk⟩ := lowLit w4
  replace k := k.nx kk
  replace hT := hT.nx kk
  replace PP := PP.nx kk
  replace PQ := PQ.nx kk
  have Hg5 := Lib.hid hg5
  have Hw5 := Lib.hid hw5
  have PP := Lib.hid PP
  have PQ := Lib.hid PQ
  have hT := Lib.hid hT
  have k := Lib.hid k
  clear kk hg5 hw5
  go_upto_region 5 with fail
  rw [← Hg5.out, ← Hw5.out]
  clear Hg5 Hw5
  go_loopw [3, 4] (fun o i wr => LwRel w5 o i wr) (fun _ i _ => 3 - (intOf i).toNat)
  case atStart => exact ⟨0, _, _, by omega, rfl, rfl, PL0, Ex.refl _⟩
  case round =>
    clear PL0
    obtain ⟨j, aL, cL, hj, rfl, rfl, PJ, ki⟩ := hrel
    obtain ⟨wi, rfl⟩ : ∃ wi : World, wi = wr := ⟨_, rfl⟩
    by_cases hjm : j < 3
    · go_wp2_with fail
      (with_reducible refine (three_x _).mono ?_)
      rintro e w6 ⟨a1, rfl, S1, kk⟩
      replace ki := ki.nx kk
      replace PJ := PJ.nx kk
      clear kk
      go_wp2_with fail
      (with_reducible refine (bround_p _ _ _ threeN _ _ _ (lowI j) 1 _ S1 (by omega) (by omega) (by unfold maxLen; omega) threeW PJ (by omega) (small10 (low_small j (by omega)))).mono ?_)
      rintro e w7 ⟨v, qs, rfl, own, kk⟩
      replace ki := ki.nx kk
      replace own : OwnPr w6.heap.size w7 v qs (lowI (j + 1)) := own
      obtain ⟨aM, cM, rfl, PM, _, _, _, _⟩ := own.pl
      rw [low_len (j + 1) (by omega)] at PM ⊢
      have PM := Lib.hid PM
      have ki := Lib.hid ki
      clear kk own PJ S1
      go_wp2_with fail
      exact ⟨⟨j + 1, _, _, by omega, by go_num, rfl, PM.out, ki.out⟩, by simp [intOf]; omega⟩
    · obtain rfl : j = 3 := by omega
      have PZ := Lib.hid PJ
      have K := Lib.hid (k.out.nx ki)
      replace PP := Lib.hid (PP.out.nx ki)
      replace PQ := Lib.hid (PQ.out.nx ki)
      have T := Lib.hid (hT.out.nx ki)
      obtain ⟨x5, o5, b1, m1, d1, b4, m4, d4, y, hea, hx5, hy, e0, e1, e2, e3, e4, s1, s4⟩ := PJ.rd (show 0 < 3 by omega)
      subst hea
      have HLK : Hid (linkB threeN y 1 = (0, 3)) := Lib.hid (by have h := low_link; rw [hy] at h; simpa using h)
      have hm4 : m4 ≤ 10 := by have := (low_small 3 (by omega) y (List.mem_of_getElem? hy)).2; have := s4.len; omega
      have S4 := Lib.hid s4
      have EY0 : Hid (∀ wq, Ex wi wq → wq.cell? ⟨x5, o5, none⟩ = some (.int .i64 y.id)) := Lib.hid (fun wq kq => Chg.cellv kq (by simpa using e0) hx5)
      have EY1 : Hid (∀ wq, Ex wi wq → wq.cell? ⟨x5, o5 + 1, none⟩ = some (.slice b1 m1 d1)) := Lib.hid (fun wq kq => Chg.cellv kq (by simpa using e1) hx5)
      have EY2 : Hid (∀ wq, Ex wi wq → wq.cell? ⟨x5, o5 + 1 + 1, none⟩ = some (.int .i64 y.left)) := Lib.hid (fun wq kq => Chg.cellv kq (by simpa using e2) hx5)
      have EY3 : Hid (∀ wq, Ex wi wq → wq.cell? ⟨x5, o5 + 1 + 1 + 1, none⟩ = some (.int .i64 y.right)) := Lib.hid (fun wq kq => Chg.cellv kq (by simpa using e3) hx5)
      have EY4 : Hid (∀ wq, Ex wi wq → wq.cell? ⟨x5, o5 + 1 + 1 + 1 + 1, none⟩ = some (.slice b4 m4 d4)) := Lib.hid (fun wq kq => Chg.cellv kq (by simpa using e4) hx5)
      clear e0 e1 e2 e3 e4 s1 s4 hy hx5 ki PJ hj hjm k hT
      go_wp2_with fail
      refine wp_region_held_drew (S := Ex wi) (by kernel_rfl) ((Ex.refl wi).drew) (fun hHeld => ?_)
      obtain ⟨wd, hwdx⟩ : ∃ wd : World, wd = World.drew wi := ⟨_, rfl⟩
      rw [← hwdx] at hHeld ⊢
      have hDrew : Ex wi wd := by rw [hwdx]; exact (Ex.refl wi).drew
      clear hwdx
      refine wpAnyH_take (i := 0) (oi := ⟨some 21, .move (.tmp 1), 24, "law.go:28", #[], none⟩) (v := ?_) rfl (by kernel_rfl) (by kernel_rfl) (by kernel_rfl) (fun _ _ _ h => h) (Or.inl ⟨by rfl, ?hyr1x0q5⟩) (by assumption) ?restr1x0q5
      case hyr1x0q5 => intro wq hSw; (go_simp); (try with_reducible rfl)
      try simp only [Act.put, List.setIfInBounds_toArray, List.set_cons_zero, List.set_cons_succ]
      refine wpAnyH_take (i := 1) (oi := ⟨some 22, .call { callee := .builtin .len, args := #[.tmp 21], argTypes := #[24] }, 3, "law.go:28", #[⟨0, .data⟩], none⟩) (v := ?_) rfl (by kernel_rfl) (by kernel_rfl) (by kernel_rfl) (fun _ _ _ h => h) (Or.inl ⟨by rfl, ?hyr1x1q8⟩) (by assumption) ?restr1x1q8
      case hyr1x1q8 => intro wq hSw; (go_simp); (try with_reducible rfl)
      try simp only [Act.put, List.setIfInBounds_toArray, List.set_cons_zero, List.set_cons_succ]
      refine wpAnyH_take (i := 2) (oi := ⟨some 23, .binOp .eql 3 (.tmp 22) (.const (.int .i64 3)) 3, 4, "law.go:28", #[⟨1, .data⟩], none⟩) (v := ?_) rfl (by kernel_rfl) (by kernel_rfl) (by kernel_rfl) (fun _ _ _ h => h) (Or.inl ⟨by rfl, ?hyr1x2q11⟩) (by assumption) ?restr1x2q11
      case hyr1x2q11 => intro wq hSw; (go_simp); (try with_reducible rfl)
      try simp only [Act.put, List.setIfInBounds_toArray, List.set_cons_zero, List.set_cons_succ]
      refine wpAnyH_take (i := 3) (oi := ⟨some 24, .move (.tmp 23), 4, "law.go:28", #[⟨2, .data⟩], none⟩) (v := ?_) rfl (by kernel_rfl) (by kernel_rfl) (by kernel_rfl) (fun _ _ _ h => h) (Or.inl ⟨by rfl, ?hyr1x3q14⟩) (by assumption) ?restr1x3q14
      case hyr1x3q14 => intro wq hSw; (go_simp); (try with_reducible rfl)
      try simp only [Act.put, List.setIfInBounds_toArray, List.set_cons_zero, List.set_cons_succ]
      refine wpAnyH_take (i := 4) (oi := ⟨some 25, .move (.tmp 1), 24, "law.go:28", #[⟨3, .guard⟩], some (3, true)⟩) (v := ?_) rfl (by kernel_rfl) (by kernel_rfl) (by kernel_rfl) (fun _ _ _ h => h) (Or.inl ⟨by rfl, ?hyr1x4q17⟩) (by assumption) ?restr1x4q17
      case hyr1x4q17 => intro wq hSw; (go_simp); (try with_reducible rfl)
      try simp only [Act.put, List.setIfInBounds_toArray, List.set_cons_zero, List.set_cons_succ]
      refine wpAnyH_take (i := 5) (oi := ⟨some 26, .move (.tmp 2), 24, "law.go:28", #[⟨3, .guard⟩], some (3, true)⟩) (v := ?_) rfl (by kernel_rfl) (by kernel_rfl) (by kernel_rfl) (fun _ _ _ h => h) (Or.inl ⟨by rfl, ?hyr1x5q20⟩) (by assumption) ?restr1x5q20
      case hyr1x5q20 => intro wq hSw; (go_simp); (try with_reducible rfl)
      try simp only [Act.put, List.setIfInBounds_toArray, List.set_cons_zero, List.set_cons_succ]
      refine wpAnyH_ready (rs := [6]) (by kernel_rfl) (by simp) ?_
      refine AllReadyH.cons (o := ⟨some 27, .call { callee := .value (.func 26), args := #[.tmp 25, .tmp 26], argTypes := #[24, 24] }, 4, "law.go:28", #[⟨4, .data⟩, ⟨5, .data⟩, ⟨3, .chain⟩, ⟨3, .guard⟩], some (3, true)⟩) rfl (fun K hK => ?_) AllReadyH.nil
      go_simp
      (with_reducible refine (same14_r _ _ _ thrP _ _ _ (PP.out.nx hHeld) (PQ.out.nx hHeld) (by omega) (fun p hp => by have := thr_small p hp; omega)).mono ?_)
      rintro e wz ⟨rfl, kk⟩
      replace hHeld := hHeld.nx kk
      clear kk
      refine hK.out _ _ (hHeld) (fun hHeld => ?_)
      clear hK K
      try simp only [Act.put, List.setIfInBounds_toArray, List.set_cons_zero, List.set_cons_succ]
      refine wpAnyH_take (i := 7) (oi := ⟨some 28, .pick (.tmp 24) (.tmp 27) (.const (.bool false)), 4, "law.go:28", #[⟨3, .data⟩, ⟨6, .data⟩], none⟩) (v := ?_) rfl (by kernel_rfl) (by kernel_rfl) (by kernel_rfl) (fun _ _ _ h => h) (Or.inl ⟨by rfl, ?hyr1x7q33⟩) (by assumption) ?restr1x7q33
      case hyr1x7q33 => intro wq hSw; (go_simp); (try with_reducible rfl)
      try simp only [Act.put, List.setIfInBounds_toArray, List.set_cons_zero, List.set_cons_succ]
      refine wpAnyH_take (i := 8) (oi := ⟨some 29, .move (.tmp 28), 4, "law.go:28", #[⟨7, .data⟩, ⟨6, .chain⟩], none⟩) (v := ?_) rfl (by kernel_rfl) (by kernel_rfl) (by kernel_rfl) (fun _ _ _ h => h) (Or.inl ⟨by rfl, ?hyr1x8q36⟩) (by assumption) ?restr1x8q36
      case hyr1x8q36 => intro wq hSw; (go_simp); (try with_reducible rfl)
      try simp only [Act.put, List.setIfInBounds_toArray, List.set_cons_zero, List.set_cons_succ]
      refine wpAnyH_take (i := 10) (oi := ⟨some 31, .move (.tmp 1), 24, "law.go:28", #[⟨8, .guard⟩], some (8, true)⟩) (v := ?_) rfl (by kernel_rfl) (by kernel_rfl) (by kernel_rfl) (fun _ _ _ h => h) (Or.inl ⟨by rfl, ?hyr1x10q39⟩) (by assumption) ?restr1x10q39
      case hyr1x10q39 => intro wq hSw; (go_simp); (try with_reducible rfl)
      try simp only [Act.put, List.setIfInBounds_toArray, List.set_cons_zero, List.set_cons_succ]
      refine wpAnyH_ready (rs := [9]) (by kernel_rfl) (by simp) ?_
      refine AllReadyH.cons (o := ⟨some 30, .call { callee := .value (.func 56), args := #[], argTypes := #[] }, 23, "law.go:28", #[⟨8, .chain⟩, ⟨8, .guard⟩], some (8, true)⟩) rfl (fun K hK => ?_) AllReadyH.nil
      go_simp
      (with_reducible refine (three_x _).mono ?_)
      rintro e wz ⟨a5, rfl, s5, kk⟩
      replace hHeld := hHeld.nx kk
      clear kk
      refine hK.out _ _ (hHeld) (fun hHeld => ?_)
      clear hK K
      try simp only [Act.put, List.setIfInBounds_toArray, List.set_cons_zero, List.set_cons_succ]
      refine wpAnyH_ready (rs := [11]) (by kernel_rfl) (by simp) ?_
      refine AllReadyH.cons (o := ⟨some 32, .call { callee := .value (.func 22), args := #[.tmp 30, .tmp 31, .const (.int .i64 1)], argTypes := #[23, 24, 3] }, 4, "law.go:28", #[⟨9, .data⟩, ⟨10, .data⟩, ⟨9, .chain⟩, ⟨8, .guard⟩], some (8, true)⟩) rfl (fun K hK => ?_) AllReadyH.nil
      go_simp
      (with_reducible refine (bexact_p _ _ _ threeN _ _ _ thrP 1 _ s5 (by omega) (by omega) (by unfold maxLen; omega) threeW (T.out.nx hHeld) (PP.out.nx hHeld) (by omega) (small10 thr_small)).mono ?_)
      rintro e wz ⟨rfl, kk⟩
      rw [thr_exact]
      replace hHeld := hHeld.nx kk
      clear kk s5
      refine hK.out _ _ (hHeld) (fun hHeld => ?_)
      clear hK K
      try simp only [Act.put, List.setIfInBounds_toArray, List.set_cons_zero, List.set_cons_succ]
      refine wpAnyH_take (i := 12) (oi := ⟨some 33, .pick (.tmp 29) (.tmp 32) (.const (.bool false)), 4, "law.go:28", #[⟨8, .data⟩, ⟨11, .data⟩], none⟩) (v := ?_) rfl (by kernel_rfl) (by kernel_rfl) (by kernel_rfl) (fun _ _ _ h => h) (Or.inl ⟨by rfl, ?hyr1x12q63⟩) (by assumption) ?restr1x12q63
      case hyr1x12q63 => intro wq hSw; (go_simp); (try with_reducible rfl)
      try simp only [Act.put, List.setIfInBounds_toArray, List.set_cons_zero, List.set_cons_succ]
      refine wpAnyH_take (i := 13) (oi := ⟨some 34, .move (.tmp 33), 4, "law.go:28", #[⟨12, .data⟩, ⟨11, .chain⟩], none⟩) (v := ?_) rfl (by kernel_rfl) (by kernel_rfl) (by kernel_rfl) (fun _ _ _ h => h) (Or.inl ⟨by rfl, ?hyr1x13q66⟩) (by assumption) ?restr1x13q66
      case hyr1x13q66 => intro wq hSw; (go_simp); (try with_reducible rfl)
      try simp only [Act.put, List.setIfInBounds_toArray, List.set_cons_zero, List.set_cons_succ]
      refine wpAnyH_take (i := 15) (oi := ⟨some 36, .move (.tmp 3), 24, "law.go:28", #[⟨13, .guard⟩], some (13, true)⟩) (v := ?_) rfl (by kernel_rfl) (by kernel_rfl) (by kernel_rfl) (fun _ _ _ h => h) (Or.inl ⟨by rfl, ?hyr1x15q69⟩) (by assumption) ?restr1x15q69
      case hyr1x15q69 => intro wq hSw; (go_simp); (try with_reducible rfl)
      try simp only [Act.put, List.setIfInBounds_toArray, List.set_cons_zero, List.set_cons_succ]
      refine wpAnyH_ready (rs := [14]) (by kernel_rfl) (by simp) ?_
      refine AllReadyH.cons (o := ⟨some 35, .call { callee := .value (.func 56), args := #[], argTypes := #[] }, 23, "law.go:28", #[⟨13, .chain⟩, ⟨13, .guard⟩], some (13, true)⟩) rfl (fun K hK => ?_) AllReadyH.nil
      go_simp
      (with_reducible refine (three_x _).mono ?_)
      rintro e wz ⟨a5, rfl, s5, kk⟩
      replace hHeld := hHeld.nx kk
      clear kk
      refine hK.out _ _ (hHeld) (fun hHeld => ?_)
      clear hK K
      try simp only [Act.put, List.setIfInBounds_toArray, List.set_cons_zero, List.set_cons_succ]
      refine wpAnyH_ready (rs := [16]) (by kernel_rfl) (by simp) ?_
      refine AllReadyH.cons (o := ⟨some 37, .call { callee := .value (.func 22), args := #[.tmp 35, .tmp 36, .const (.int .i64 1)], argTypes := #[23, 24, 3] }, 4, "law.go:28", #[⟨14, .data⟩, ⟨15, .data⟩, ⟨14, .chain⟩, ⟨13, .guard⟩], some (13, true)⟩) rfl (fun K hK => ?_) AllReadyH.nil
      go_simp
      (with_reducible refine (bexact_p _ _ _ threeN _ _ _ (lowI 3) 1 _ s5 (by omega) (by omega) (by unfold maxLen; omega) threeW (T.out.nx hHeld) (PZ.out.nx hHeld) (by omega) (small10 (low_small 3 (by omega)))).mono ?_)
      rintro e wz ⟨rfl, kk⟩
      rw [low_exact]
      replace hHeld := hHeld.nx kk
      clear kk s5
      refine hK.out _ _ (hHeld) (fun hHeld => ?_)
      clear hK K
      try simp only [Act.put, List.setIfInBounds_toArray, List.set_cons_zero, List.set_cons_succ]
      refine wpAnyH_take (i := 17) (oi := ⟨some 38, .pick (.tmp 34) (.tmp 37) (.const (.bool false)), 4, "law.go:28", #[⟨13, .data⟩, ⟨16, .data⟩], none⟩) (v := ?_) rfl (by kernel_rfl) (by kernel_rfl) (by kernel_rfl) (fun _ _ _ h => h) (Or.inl ⟨by rfl, ?hyr1x17q93⟩) (by assumption) ?restr1x17q93
      case hyr1x17q93 => intro wq hSw; (go_simp); (try with_reducible rfl)
      try simp only [Act.put, List.setIfInBounds_toArray, List.set_cons_zero, List.set_cons_succ]
      refine wpAnyH_take (i := 18) (oi := ⟨some 39, .move (.tmp 38), 4, "law.go:28", #[⟨17, .data⟩, ⟨16, .chain⟩], none⟩) (v := ?_) rfl (by kernel_rfl) (by kernel_rfl) (by kernel_rfl) (fun _ _ _ h => h) (Or.inl ⟨by rfl, ?hyr1x18q96⟩) (by assumption) ?restr1x18q96
      case hyr1x18q96 => intro wq hSw; (go_simp); (try with_reducible rfl)
      try simp only [Act.put, List.setIfInBounds_toArray, List.set_cons_zero, List.set_cons_succ]
      refine wpAnyH_take (i := 19) (oi := ⟨some 40, .move (.tmp 3), 24, "law.go:28", #[⟨18, .guard⟩], some (18, true)⟩) (v := ?_) rfl (by kernel_rfl) (by kernel_rfl) (by kernel_rfl) (fun _ _ _ h => h) (Or.inl ⟨by rfl, ?hyr1x19q99⟩) (by assumption) ?restr1x19q99
      case hyr1x19q99 => intro wq hSw; (go_simp); (try with_reducible rfl)
      try simp only [Act.put, List.setIfInBounds_toArray, List.set_cons_zero, List.set_cons_succ]
      refine wpAnyH_take (i := 20) (oi := ⟨some 41, .call { callee := .builtin .len, args := #[.tmp 40], argTypes := #[24] }, 3, "law.go:28", #[⟨19, .data⟩, ⟨18, .guard⟩], some (18, true)⟩) (v := ?_) rfl (by kernel_rfl) (by kernel_rfl) (by kernel_rfl) (fun _ _ _ h => h) (Or.inl ⟨by rfl, ?hyr1x20q102⟩) (by assumption) ?restr1x20q102
      case hyr1x20q102 => intro wq hSw; (go_simp); (try with_reducible rfl)
      try simp only [Act.put, List.setIfInBounds_toArray, List.set_cons_zero, List.set_cons_succ]
      refine wpAnyH_take (i := 21) (oi := ⟨some 42, .binOp .eql 3 (.tmp 41) (.const (.int .i64 3)) 3, 4, "law.go:28", #[⟨20, .data⟩, ⟨18, .guard⟩], some (18, true)⟩) (v := ?_) rfl (by kernel_rfl) (by kernel_rfl) (by kernel_rfl) (fun _ _ _ h => h) (Or.inl ⟨by rfl, ?hyr1x21q105⟩) (by assumption) ?restr1x21q105
      case hyr1x21q105 => intro wq hSw; (go_simp); (try with_reducible rfl)
      try simp only [Act.put, List.setIfInBounds_toArray, List.set_cons_zero, List.set_cons_succ]
      refine wpAnyH_take (i := 22) (oi := ⟨some 43, .pick (.tmp 39) (.tmp 42) (.const (.bool false)), 4, "law.go:28", #[⟨18, .data⟩, ⟨21, .data⟩], none⟩) (v := ?_) rfl (by kernel_rfl) (by kernel_rfl) (by kernel_rfl) (fun _ _ _ h => h) (Or.inl ⟨by rfl, ?hyr1x22q108⟩) (by assumption) ?restr1x22q108
      case hyr1x22q108 => intro wq hSw; (go_simp); (try with_reducible rfl)
      try simp only [Act.put, List.setIfInBounds_toArray, List.set_cons_zero, List.set_cons_succ]
      refine wpAnyH_take (i := 23) (oi := ⟨some 44, .move (.tmp 43), 4, "law.go:28", #[⟨22, .data⟩, ⟨18, .chain⟩], none⟩) (v := ?_) rfl (by kernel_rfl) (by kernel_rfl) (by kernel_rfl) (fun _ _ _ h => h) (Or.inl ⟨by rfl, ?hyr1x23q111⟩) (by assumption) ?restr1x23q111
      case hyr1x23q111 => intro wq hSw; (go_simp); (try with_reducible rfl)
      try simp only [Act.put, List.setIfInBounds_toArray, List.set_cons_zero, List.set_cons_succ]
      refine wpAnyH_take (i := 25) (oi := ⟨some 46, .move (.tmp 3), 24, "law.go:28", #[⟨23, .guard⟩], some (23, true)⟩) (v := ?_) rfl (by kernel_rfl) (by kernel_rfl) (by kernel_rfl) (fun _ _ _ h => h) (Or.inl ⟨by rfl, ?hyr1x25q114⟩) (by assumption) ?restr1x25q114
      case hyr1x25q114 => intro wq hSw; (go_simp); (try with_reducible rfl)
      try simp only [Act.put, List.setIfInBounds_toArray, List.set_cons_zero, List.set_cons_succ]
      refine wpAnyH_take (i := 26) (oi := ⟨some 47, .indexAddr 24 (.tmp 46) (.const (.int .i64 0)), 0, "law.go:28", #[⟨25, .data⟩, ⟨23, .guard⟩], some (23, true)⟩) (v := ?_) rfl (by kernel_rfl) (by kernel_rfl) (by kernel_rfl) (fun _ _ _ h => h) (Or.inl ⟨by rfl, ?hyr1x26q117⟩) (by assumption) ?restr1x26q117
      case hyr1x26q117 => intro wq hSw; (go_simp); (try with_reducible rfl)
      try simp only [Act.put, List.setIfInBounds_toArray, List.set_cons_zero, List.set_cons_succ]
      refine wpAnyH_take (i := 27) (oi := ⟨some 48, .load 45 (.tmp 47), 45, "law.go:28", #[⟨26, .data⟩, ⟨23, .guard⟩], some (23, true)⟩) (v := ?_) rfl (by kernel_rfl) (by kernel_rfl) (by kernel_rfl) (fun _ _ _ h => h) (Or.inl ⟨by rfl, ?hyr1x27q120⟩) (by assumption) ?restr1x27q120
      case hyr1x27q120 => intro wq hSw; (have c0 := EY0.out wq hSw; have c1 := EY1.out wq hSw; have c2 := EY2.out wq hSw; have c3 := EY3.out wq hSw; have c4 := EY4.out wq hSw; go_simp); (try with_reducible rfl)
      try simp only [Act.put, List.setIfInBounds_toArray, List.set_cons_zero, List.set_cons_succ]
      refine wpAnyH_take (i := 29) (oi := ⟨some 50, .build 65 #[(1, .const (.int .i64 3))], 65, "law.go:28", #[⟨23, .guard⟩], some (23, true)⟩) (v := ?_) rfl (by kernel_rfl) (by kernel_rfl) (by kernel_rfl) (fun _ _ _ h => h) (Or.inl ⟨by rfl, ?hyr1x29q123⟩) (by assumption) ?restr1x29q123
      case hyr1x29q123 => intro wq hSw; (go_simp); (try with_reducible rfl)
      try simp only [Act.put, List.setIfInBounds_toArray, List.set_cons_zero, List.set_cons_succ]
      refine wpAnyH_ready (rs := [24]) (by kernel_rfl) (by simp) ?_
      refine AllReadyH.cons (o := ⟨some 45, .call { callee := .value (.func 56), args := #[], argTypes := #[] }, 23, "law.go:28", #[⟨23, .chain⟩, ⟨23, .guard⟩], some (23, true)⟩) rfl (fun K hK => ?_) AllReadyH.nil
      go_simp
      (with_reducible refine (three_x _).mono ?_)
      rintro e wz ⟨a5, rfl, s5, kk⟩
      replace hHeld := hHeld.nx kk
      clear kk
      refine hK.out _ _ (hHeld) (fun hHeld => ?_)
      clear hK K
      try simp only [Act.put, List.setIfInBounds_toArray, List.set_cons_zero, List.set_cons_succ]
      refine wpAnyH_ready (rs := [28]) (by kernel_rfl) (by simp) ?_
      refine AllReadyH.cons (o := ⟨some 49, .call { callee := .value (.func 47), args := #[.tmp 45, .tmp 48, .const (.int .i64 1)], argTypes := #[23, 45, 3] }, 65, "law.go:28", #[⟨24, .data⟩, ⟨27, .data⟩, ⟨24, .chain⟩, ⟨23, .guard⟩], some (23, true)⟩) rfl (fun K hK => ?_) AllReadyH.nil
      go_simp
      (with_reducible refine (link_p _ _ _ threeN y _ _ _ _ _ _ 1 _ s5 (by omega) (by omega) (by unfold maxLen; omega) threeW (S4.out.nx hHeld) (by omega)).mono ?_)
      rintro e wz ⟨rfl, kk⟩
      rw [HLK.out]
      replace hHeld := hHeld.nx kk
      clear kk s5
      refine hK.out _ _ (hHeld) (fun hHeld => ?_)
      clear hK K
      try simp only [Act.put, List.setIfInBounds_toArray, List.set_cons_zero, List.set_cons_succ]
      refine wpAnyH_take (i := 30) (oi := ⟨some 51, .binOp .eql 65 (.tmp 49) (.tmp 50) 65, 4, "law.go:28", #[⟨28, .data⟩, ⟨29, .data⟩, ⟨23, .guard⟩], some (23, true)⟩) (v := ?_) rfl (by kernel_rfl) (by kernel_rfl) (by kernel_rfl) (fun _ _ _ h => h) (Or.inl ⟨by rfl, ?hyr1x30q147⟩) (by assumption) ?restr1x30q147
      case hyr1x30q147 => intro wq hSw; (go_simp); (try with_reducible rfl)
      try simp only [Act.put, List.setIfInBounds_toArray, List.set_cons_zero, List.set_cons_succ]
      refine wpAnyH_take (i := 31) (oi := ⟨some 52, .pick (.tmp 44) (.tmp 51) (.const (.bool false)), 4, "law.go:28", #[⟨23, .data⟩, ⟨30, .data⟩], none⟩) (v := ?_) rfl (by kernel_rfl) (by kernel_rfl) (by kernel_rfl) (fun _ _ _ h => h) (Or.inl ⟨by rfl, ?hyr1x31q150⟩) (by assumption) ?restr1x31q150
      case hyr1x31q150 => intro wq hSw; (go_simp); (try with_reducible rfl)
      try simp only [Act.put, List.setIfInBounds_toArray, List.set_cons_zero, List.set_cons_succ]
      refine wpAnyH_take (i := 32) (oi := ⟨some 53, .move (.tmp 52), 4, "law.go:28", #[⟨31, .data⟩, ⟨28, .chain⟩], none⟩) (v := ?_) rfl (by kernel_rfl) (by kernel_rfl) (by kernel_rfl) (fun _ _ _ h => h) (Or.inl ⟨by rfl, ?hyr1x32q153⟩) (by assumption) ?restr1x32q153
      case hyr1x32q153 => intro wq hSw; (go_simp); (try with_reducible rfl)
      try simp only [Act.put, List.setIfInBounds_toArray, List.set_cons_zero, List.set_cons_succ]
      refine wpAnyH_ready (rs := [33]) (by kernel_rfl) (by simp) ?_
      refine AllReadyH.cons (o := ⟨some 54, .call { callee := .value (.func 21), args := #[.const (.int .i64 3), .const (.int .i64 1)], argTypes := #[3, 3] }, 3, "law.go:28", #[⟨32, .chain⟩, ⟨32, .guard⟩], some (32, true)⟩) rfl (fun K hK => ?_) AllReadyH.nil
      go_simp
      (with_reducible refine (rounds17_p 3 1 _).mono ?_)
      rintro e wz ⟨rfl, rfl⟩
      rw [rnds_31]
      refine hK.out _ _ (hHeld) (fun hHeld => ?_)
      clear hK K
      try simp only [Act.put, List.setIfInBounds_toArray, List.set_cons_zero, List.set_cons_succ]
      refine wpAnyH_take (i := 34) (oi := ⟨some 55, .binOp .eql 3 (.tmp 54) (.const (.int .i64 3)) 3, 4, "law.go:28", #[⟨33, .data⟩, ⟨32, .guard⟩], some (32, true)⟩) (v := ?_) rfl (by kernel_rfl) (by kernel_rfl) (by kernel_rfl) (fun _ _ _ h => h) (Or.inl ⟨by rfl, ?hyr1x34q165⟩) (by assumption) ?restr1x34q165
      case hyr1x34q165 => intro wq hSw; (go_simp); (try with_reducible rfl)
      try simp only [Act.put, List.setIfInBounds_toArray, List.set_cons_zero, List.set_cons_succ]
      refine wpAnyH_take (i := 35) (oi := ⟨some 56, .pick (.tmp 53) (.tmp 55) (.const (.bool false)), 4, "law.go:28", #[⟨32, .data⟩, ⟨34, .data⟩], none⟩) (v := ?_) rfl (by kernel_rfl) (by kernel_rfl) (by kernel_rfl) (fun _ _ _ h => h) (Or.inl ⟨by rfl, ?hyr1x35q168⟩) (by assumption) ?restr1x35q168
      case hyr1x35q168 => intro wq hSw; (go_simp); (try with_reducible rfl)
      try simp only [Act.put, List.setIfInBounds_toArray, List.set_cons_zero, List.set_cons_succ]
      refine wpAnyH_take (i := 36) (oi := ⟨some 0, .assign (.tmp 56), 4, "law.go:28", #[⟨35, .data⟩, ⟨33, .chain⟩, ⟨0, .phase⟩, ⟨1, .phase⟩, ⟨2, .phase⟩, ⟨3, .phase⟩, ⟨4, .phase⟩, ⟨5, .phase⟩, ⟨6, .phase⟩, ⟨7, .phase⟩, ⟨8, .phase⟩, ⟨9, .phase⟩, ⟨10, .phase⟩, ⟨11, .phase⟩, ⟨12, .phase⟩, ⟨13, .phase⟩, ⟨14, .phase⟩, ⟨15, .phase⟩, ⟨16, .phase⟩, ⟨17, .phase⟩, ⟨18, .phase⟩, ⟨19, .phase⟩, ⟨20, .phase⟩, ⟨21, .phase⟩, ⟨22, .phase⟩, ⟨23, .phase⟩, ⟨24, .phase⟩, ⟨25, .phase⟩, ⟨26, .phase⟩, ⟨27, .phase⟩, ⟨28, .phase⟩, ⟨29, .phase⟩, ⟨30, .phase⟩, ⟨31, .phase⟩, ⟨32, .phase⟩, ⟨33, .phase⟩, ⟨34, .phase⟩, ⟨35, .phase⟩], none⟩) (v := ?_) rfl (by kernel_rfl) (by kernel_rfl) (by kernel_rfl) (fun _ _ _ h => h) (Or.inl ⟨by rfl, ?hyr1x36q171⟩) (by assumption) ?restr1x36q171
      case hyr1x36q171 => intro wq hSw; (go_simp); (try with_reducible rfl)
      try simp only [Act.put, List.setIfInBounds_toArray, List.set_cons_zero, List.set_cons_succ]
      refine wpAnyH_done (by kernel_rfl) ?_ _
      have KE := Lib.hid (K.out.nx hHeld)
      clear hHeld hDrew
      go_wp2_with fail
      go_ret
      exact ⟨rfl, KE.out⟩
end Go.Proofs.YtbnbjiddffihoaaGreatDoor

/- What the law walks of chapter 17 share. -/
namespace Go.Proofs.YtbnbjiddffihoaaGreatDoor
open Go.RowKit

theorem peers_map {N : List Nd} (h0 : checkN N = 0) (w : Int) {h : Nat} (hh : h ≤ 16) : peersN N w (h : Int) = (sortN N).map (peerC N w (h : Int)) := by
  unfold peersN
  rw [if_pos ⟨h0, by unfold lvlN; simp; omega⟩]
theorem peers_at {N : List Nd} (h0 : checkN N = 0) (w : Int) {h : Nat} (hh : h ≤ 16) {x : Nd} (hx : x ∈ N) : peerN (peersN N w (h : Int)) x.id = peerC N w (h : Int) x := by
  rw [peers_map h0 w hh]
  exact peer_map (sort_ids h0) (fun x => by rw [peerC_eq h0]) ((sortN_mem N x).2 hx)
theorem peers_fullN {N : List Nd} (h0 : checkN N = 0) (w : Int) {h : Nat} (hh : h ≤ 16) : Full N (peersN N w (h : Int)) h := by
  refine ⟨⟨h0, fun x hx => ?_⟩, fun x hx => ?_⟩
  · rw [peers_at h0 w hh hx, peerC_eq h0]; rfl
  · rw [peers_at h0 w hh hx, peerC_eq h0]; simp
theorem peers_len {N : List Nd} (h0 : checkN N = 0) (w : Int) {h : Nat} (hh : h ≤ 16) : (peersN N w (h : Int)).length = N.length := by
  rw [peers_map h0 w hh, List.length_map, sortN_length]
end Go.Proofs.YtbnbjiddffihoaaGreatDoor

/- Peers of the call's own are changed in place. -/
namespace Go.Proofs.YtbnbjiddffihoaaGreatDoor
open Go.RowKit

section
variable {eP eI eN : TypeId} {base : Nat} {w w1 : World} {v : Value} {qs : List PQ} {P : List Pr}
theorem OwnP.upd (h : OwnP eP eI eN base w v qs P) {a : Nat} {q' : PQ} {p' : Pr} {w2 : World} (ha : a < qs.length) (row : OwnW 5 encQ eP base w2 v (qs.set a q')) (hq' : q'.1 = p'.nums)
    (oK : OwnL 1 encI eI base w2 q'.2.1.val p'.known) (oN : OwnL 4 encNr eN base w2 q'.2.2.val p'.near)
    (keep : ∀ (j : Nat) (r : PQ) (d : Pr), j ≠ a → qs[j]? = some r → P[j]? = some d → OwnL 1 encI eI base w2 r.2.1.val d.known ∧ OwnL 4 encNr eN base w2 r.2.2.val d.near)
    (fk : ∀ (j : Nat) (r : PQ) (g : Nat), j ≠ a → qs[j]? = some r → r.2.1.val.ownBlock = some g → ¬ q'.2.1.val.ownBlock = some g)
    (fn : ∀ (j : Nat) (r : PQ) (g : Nat), j ≠ a → qs[j]? = some r → r.2.2.val.ownBlock = some g → ¬ q'.2.2.val.ownBlock = some g) :
    OwnP eP eI eN base w2 v (qs.set a q') (P.set a p') := by
  have hl := h.2.1
  refine ⟨row, by simp [hl], fun j r d hr hd => ?_, fun i j qi qj g hi hj gi gj => ?_, fun i j qi qj g hi hj gi gj => ?_⟩
  · by_cases hja : j = a
    · subst hja
      rw [List.getElem?_set_self ha] at hr
      rw [List.getElem?_set_self (by omega)] at hd
      cases hr
      cases hd
      exact ⟨hq', oK, oN⟩
    · rw [List.getElem?_set_ne (fun h => hja h.symm)] at hr hd
      exact ⟨(h.2.2.1 j r d hr hd).1, keep j r d hja hr hd⟩
  · by_cases hia : i = a
    · by_cases hja : j = a
      · omega
      · subst hia
        rw [List.getElem?_set_self ha] at hi
        rw [List.getElem?_set_ne (fun h => hja h.symm)] at hj
        cases hi
        exact absurd gi (fk j qj g hja hj gj)
    · rw [List.getElem?_set_ne (fun h => hia h.symm)] at hi
      by_cases hja : j = a
      · subst hja
        rw [List.getElem?_set_self ha] at hj
        cases hj
        exact absurd gj (fk i qi g hia hi gi)
      · rw [List.getElem?_set_ne (fun h => hja h.symm)] at hj
        exact h.2.2.2.1 i j qi qj g hi hj gi gj
  · by_cases hia : i = a
    · by_cases hja : j = a
      · omega
      · subst hia
        rw [List.getElem?_set_self ha] at hi
        rw [List.getElem?_set_ne (fun h => hja h.symm)] at hj
        cases hi
        exact absurd gi (fn j qj g hja hj gj)
    · rw [List.getElem?_set_ne (fun h => hia h.symm)] at hi
      by_cases hja : j = a
      · subst hja
        rw [List.getElem?_set_self ha] at hj
        cases hj
        exact absurd gj (fn i qi g hia hi gi)
      · rw [List.getElem?_set_ne (fun h => hja h.symm)] at hj
        exact h.2.2.2.2 i j qi qj g hi hj gi gj
theorem set_chg {g o : Nat} (w : World) (u : Value) : Chg (fun k => k < w.heap.size ∧ ¬ k = g) w (w.setCell ⟨g, o, none⟩ u) :=
  (Chg.refl _ w).setCell (p := ⟨g, o, none⟩) u (fun k hk => hk.2)
end
end Go.Proofs.YtbnbjiddffihoaaGreatDoor

/- Pairs of the reference of chapter 14. -/
namespace Go.Proofs.YtbnbjiddffihoaaGreatDoor
open Go.RowKit

end Go.Proofs.YtbnbjiddffihoaaGreatDoor

/- index of the reference of chapter 7. -/
namespace Go.Proofs.YtbnbjiddffihoaaGreatDoor
open Go.RowKit

end Go.Proofs.YtbnbjiddffihoaaGreatDoor

/- Joined of the reference of chapter 7: how many components it gives. -/
namespace Go.Proofs.YtbnbjiddffihoaaGreatDoor
open Go.RowKit

end Go.Proofs.YtbnbjiddffihoaaGreatDoor

/- Connected of the reference of chapter 14. -/
namespace Go.Proofs.YtbnbjiddffihoaaGreatDoor
open Go.RowKit

end Go.Proofs.YtbnbjiddffihoaaGreatDoor

/- The statements of chapter 16 about chains and garbage, in plain Lean. -/
namespace Go.Proofs.YtbnbjiddffihoaaGreatDoor
open Go.RowKit

section
variable {N : List Nd} {P : List Pr}
/-- the peers are those of the nodes, in order -/
def SameIds (N : List Nd) (P : List Pr) : Prop := P.length = N.length ∧ ∀ (i : Nat) (x : Nd) (p : Pr), N[i]? = some x → P[i]? = some p → p.id = x.id
end
end Go.Proofs.YtbnbjiddffihoaaGreatDoor

/- Joined of the tape: peers by which the nodes are connected. -/
namespace Go.Proofs.YtbnbjiddffihoaaGreatDoor
open Go.RowKit

structure JoOf (b : Nat) (l : List Nd) (w w' : World) (v : Value) (qs : List PQ) (P : List Pr) : Prop where
  own : OwnPr w.heap.size w' v qs P
  ids : SameIds l P
  conn : ConnN l P
  small : ∀ p ∈ P, p.known.length ≤ 100 ∧ p.near.length ≤ 200
  tape : TK w' b
  k : Exb b w w'
def FewQ (m M : Nat) (P : List Pr) : Prop := ∀ p ∈ P, p.known.length ≤ m ∧ p.near.length ≤ M
theorem FewQ.set {m M m' M' a : Nat} {P : List Pr} (h : FewQ m M P) (hm : m ≤ m') (hM : M ≤ M') {p : Pr} (hp : p.known.length ≤ m' ∧ p.near.length ≤ M') : FewQ m' M' (P.set a p) := fun x hx => by
  rcases List.mem_or_eq_of_mem_set hx with h1 | h1
  · have := h x h1; omega
  · rw [h1]; exact hp
end Go.Proofs.YtbnbjiddffihoaaGreatDoor

/- The walk over BridgeClimbs. -/
namespace Go.Proofs.YtbnbjiddffihoaaGreatDoor
open Go.RowKit

def bRunsN (N : List Nd) (P : List Pr) (h : Int) : Nat → List Pr
  | 0 => P
  | t + 1 => bRoundN N (bRunsN N P h t) h
theorem bround_peerN {N : List Nd} {P : List Pr} (h0 : checkN N = 0) {h : Nat} (hh : h ≤ 16) {x : Nd} (hx : x ∈ N) : peerN (bRoundN N P (h : Int)) x.id = { peerN P x.id with near := nextB N (peerN P) (peerN P x.id) h } := by
  rw [broundN_map h0 hh]
  exact peer_map (sort_ids h0) (f := fun x => { peerN P x.id with near := nextB N (peerN P) (peerN P x.id) h }) (fun x => peer_id P x.id) ((sortN_mem N x).2 hx)
theorem bround_exact {N : List Nd} {P : List Pr} {h : Nat} (hh : h ≤ 16) (hE : exactL N P) : exactL N (bRoundN N P (h : Int)) := by
  refine ⟨hE.1, fun x hx => ?_⟩
  rw [bround_peerN hE.1 hh hx]
  exact hE.2 x hx
theorem bruns_exact {N : List Nd} {P : List Pr} {h : Nat} (hh : h ≤ 16) (hE : exactL N P) : ∀ t, exactL N (bRunsN N P (h : Int) t)
  | 0 => hE
  | t + 1 => bround_exact hh (bruns_exact hh hE t)
theorem climbs_law {N : List Nd} {P : List Pr} (hw : ∀ x ∈ N, x.word < 4294967296) {h : Nat} (hh : h ≤ 16) (hE : exactL N P) {lev t : Nat} (hl : lev ≤ h) (ht : lev * N.length ≤ t) : exactB N (bRunsN N P (h : Int) t) (lev : Int) = true := by
  have h0 := hE.1
  refine exact_yes h0 (by omega) fun i hi => ?_
  refine climb h0 hw hh (S := fun t => peerN (bRunsN N P (h : Int) t)) (fun t id => peer_id _ _) (fun t x hx => ?_) (T := 0) (fun t _ => right_zero h0 (bruns_exact hh hE t)) i (by omega) t ?_
  · show (peerN (bRoundN N (bRunsN N P (h : Int) t) (h : Int)) x.id).near = _
    rw [bround_peerN h0 hh hx]
  · have := Nat.mul_le_mul_right N.length hi
    omega
theorem normal_few {N : List Nd} {P : List Pr} {m M : Nat} (h : FewQ m M P) : FewQ m M (normalN N P) := by
  intro q hq
  unfold normalN at hq
  split at hq
  · obtain ⟨x, _, rfl⟩ := List.mem_map.1 hq
    unfold peerN
    cases hf : P.find? fun p => p.id == x.id with
    | none => exact ⟨Nat.zero_le _, Nat.zero_le _⟩
    | some q => exact h q (List.mem_of_find?_eq_some hf)
  · cases hq
theorem bround_few {N : List Nd} {P : List Pr} (h : FewQ 100 200 P) {ht : Nat} (hh : ht ≤ 16) : FewQ 100 200 (bRoundN N P (ht : Int)) := by
  intro p hp
  rw [bround_eq hh] at hp
  obtain ⟨q, hq, rfl⟩ := List.mem_map.1 hp
  refine ⟨(normal_few h q hq).1, ?_⟩
  show (nextB N _ q ht).length ≤ 200
  rw [nextB_len]
  omega
theorem bruns_few {N : List Nd} {P : List Pr} (h : FewQ 100 200 P) {ht : Nat} (hh : ht ≤ 16) : ∀ t, FewQ 100 200 (bRunsN N P (ht : Int) t)
  | 0 => h
  | t + 1 => bround_few (bruns_few h hh t) hh
theorem bround_len {N : List Nd} {P : List Pr} (h0 : checkN N = 0) {ht : Nat} (hh : ht ≤ 16) : (bRoundN N P (ht : Int)).length = N.length := by
  rw [broundN_map h0 hh, List.length_map, sortN_length]
theorem few_smallB {P : List Pr} (h : FewQ 100 200 P) : SmallP P := fun p hp => by have := h p hp; omega
/-- number, Known, Left and Right -/
def keyL (p : Pr) : Int × List Int × Int × Int := (p.id, p.known, p.left, p.right)
theorem peer_keyL : ∀ {P R : List Pr}, P.map keyL = R.map keyL → ∀ id, keyL (peerN P id) = keyL (peerN R id)
  | [], [], _, _ => rfl
  | [], r :: R, h, _ => by simp at h
  | p :: P, [], h, _ => by simp at h
  | p :: P, r :: R, h, id => by
    simp only [List.map_cons, List.cons.injEq] at h
    obtain ⟨h1, h3⟩ := h
    have hid : p.id = r.id := congrArg Prod.fst h1
    unfold peerN
    rw [List.find?_cons, List.find?_cons, hid]
    cases r.id == id with
    | true => exact h1
    | false => exact peer_keyL h3 id
theorem keyL_set {P : List Pr} {a : Nat} {p p' : Pr} (hp : P[a]? = some p) (h : keyL p' = keyL p) : (P.set a p').map keyL = P.map keyL := by
  rw [List.map_set, h]
  apply List.ext_getElem?
  intro i
  by_cases hi : i = a
  · subst hi
    rw [List.getElem?_set_self (by rw [List.length_map]; exact (List.getElem?_eq_some_iff.1 hp).1), List.getElem?_map, hp]
    rfl
  · rw [List.getElem?_set_ne (fun h => hi h.symm)]
theorem exactL_key {N : List Nd} {P R : List Pr} (h : P.map keyL = R.map keyL) (hE : exactL N R) : exactL N P := by
  refine ⟨hE.1, fun x hx => ?_⟩
  have hk := peer_keyL h x.id
  have hl : (peerN P x.id).left = (peerN R x.id).left := congrArg (fun q => q.2.2.1) hk
  have hr : (peerN P x.id).right = (peerN R x.id).right := congrArg (fun q => q.2.2.2) hk
  rw [hl, hr]
  exact hE.2 x hx
/-- a peer's Near is replaced by a row made behind the world w -/
theorem OwnP.putN {eP eI eN : TypeId} {base : Nat} {w w1 : World} {v0 : Value} {qs : List PQ} {P : List Pr} (hI : eP ≠ eI) (hN : eP ≠ eN) {g n cap : Nat} (h : OwnP eP eI eN base w v0 qs P) (h1 : OwnP eP eI eN base w1 (.slice (some ⟨g, 0, none⟩) n cap) qs P) {a : Nat} {p : Pr} {hk hn hn' : Hdr} {nr : List Nr}
    (hq : qs[a]? = some (p.nums, hk, hn)) (hp : P[a]? = some p) (A : OwnL 4 encNr eN base w1 hn'.val nr) (la : ∀ g, hn'.val.ownBlock = some g → w.heap.size ≤ g) :
    w1.cell? ⟨g, a * 5 + 4, none⟩ = some hn.val ∧ w1.frozen? ⟨g, a * 5 + 4, none⟩ = false ∧
      OwnP eP eI eN base (w1.setCell ⟨g, a * 5 + 4, none⟩ hn'.val) (.slice (some ⟨g, 0, none⟩) n cap) (qs.set a (p.nums, hk, hn')) (P.set a { p with near := nr }) := by
  obtain ⟨s1, s2, s3⟩ := OwnW.set1 encQ_len h1.1 hq (c := 4) (by omega)
  have ch := set_chg (g := g) (o := a * 5 + 4) w1 hn'.val
  have nN : ∀ (j : Nat) (r : PQ) (d : Pr), qs[j]? = some r → P[j]? = some d → OwnL 4 encNr eN base (w1.setCell ⟨g, a * 5 + 4, none⟩ hn'.val) r.2.2.val d.near := fun j r d hr hd => by
    obtain ⟨_, _, r3⟩ := h1.2.2.1 j r d hr hd
    refine r3.chg ch (fun x hx hv => ⟨hx, fun he => ?_⟩)
    subst he; exact h1.neN hN hr hv rfl
  have nK : ∀ (j : Nat) (r : PQ) (d : Pr), qs[j]? = some r → P[j]? = some d → OwnL 1 encI eI base (w1.setCell ⟨g, a * 5 + 4, none⟩ hn'.val) r.2.1.val d.known := fun j r d hr hd => by
    obtain ⟨_, r2, _⟩ := h1.2.2.1 j r d hr hd
    refine r2.chg ch (fun x hx hv => ⟨hx, fun he => ?_⟩)
    subst he; exact h1.neI hI hr hv rfl
  have A2 : OwnL 4 encNr eN base (w1.setCell ⟨g, a * 5 + 4, none⟩ hn'.val) hn'.val nr := A.chg ch (fun x hx hv => ⟨hx, fun he => by
    subst he
    obtain ⟨_, c1, e1⟩ := A.blk hv
    obtain ⟨_, c2, e2⟩ := h1.1.blk rfl
    exact blk_kind hN e2 e1⟩)
  refine ⟨s1, s2, h1.upd (q' := (p.nums, hk, hn')) (p' := { p with near := nr }) (List.getElem?_eq_some_iff.1 hq).1 (s3 _ _ rfl) rfl (show OwnL 1 encI eI base _ hk.val p.known from nK a (p.nums, hk, hn) p hq hp) A2 (fun j r d hj hr hd => ⟨nK j r d hr hd, nN j r d hr hd⟩) (fun j r g' hj hr hg hv => ?_) (fun j r g' hj hr hg hv => ?_)⟩
  · exact hj (h1.2.2.2.1 j a r _ g' hr hq hg hv)
  · have h2 := la g' hv
    obtain ⟨d, hd⟩ : ∃ d, P[j]? = some d := ⟨P[j]'(by have := (List.getElem?_eq_some_iff.1 hr).1; have := h.2.1; omega), by simp⟩
    have := ((h.2.2.1 j r d hr hd).2.2.lt g' hg).2
    omega
theorem peers_few1 {N : List Nd} (h0 : checkN N = 0) : FewQ 100 200 (peersN N 1 0) := by
  intro p hp
  rw [show peersN N 1 0 = peersN N ((1 : Nat) : Int) ((0 : Nat) : Int) from rfl, peers_map h0 _ (by omega)] at hp
  obtain ⟨x, _, rfl⟩ := List.mem_map.1 hp
  rw [peerC_eq h0]
  have h1 := contacts_len h0 x.id 1 (h := 0)
  refine ⟨by show (contactsN N x.id ((1 : Nat) : Int) ((0 : Nat) : Int)).length ≤ 100; omega, ?_⟩
  show ((List.range (((0 : Nat) : Int)).toNat).map (nearG N x)).length ≤ 200
  simp
theorem fieldNear (A B C D E : Value) (w : World) : (Instr.field 45 (.agg #[A, B, C, D, E]) 4).run Tryz.prog w = .ok E w := by kernel_rfl
def Srt17Post (b : Nat) (N : List Nd) (w : World) (e : Ending) (w' : World) : Prop := ∃ v qs P, e = .returned v ∧ OwnPr w.heap.size w' v qs P ∧ P.length = N.length ∧ exactL N P ∧ FewQ 100 200 P ∧ TK w' b ∧ Exb b w w'
def Srt17Rel (b n base : Nat) (P0 : List Pr) (w : World) (v i : Value) (wr : World) : Prop :=
  ∃ (k : Nat) (qs : List PQ) (P : List Pr), k ≤ n ∧ i = .int .i64 k ∧ OwnPr base wr v qs P ∧ P.map keyL = P0.map keyL ∧ FewQ 100 200 P ∧ TK wr b ∧ Exb b w wr
def Clb17Rel (N : List Nd) (P0 : List Pr) (h m : Nat) (w : World) (o i : Value) (wr : World) : Prop :=
  ∃ (k : Nat) (a : Option Addr) (c : Nat), k ≤ m ∧ i = .int .i64 k ∧ o = .slice a N.length c ∧ PL wr a N.length (bRunsN N P0 (h : Int) k) ∧ Ex w wr
def LvIRel (h : Nat) (w : World) (i : Value) (wr : World) : Prop := ∃ lev : Nat, lev ≤ h + 1 ∧ i = .int .i64 lev ∧ Ex w wr
set_option maxRecDepth 100000 in
set_option maxHeartbeats 16000000 in
theorem sorted_x {b : Nat} (ht : Nat) (a : Option Addr) (n c : Nat) (N : List Nd) (w : World) (T : TK w b) (hs : Slb 3 encN b w a n N) (hn : n ≤ 20) (h0 : checkN N = 0) (hw : ∀ x ∈ N, x.word < 4294967296) (hht : ht ≤ 16) :
    Calls Tryz.prog 20 #[.pointer (some ⟨b, 0, none⟩), .slice a n c, .int .i64 ht] w (Srt17Post b N w) := by
  have hbw := T.lt
  have HI : Hid (∀ x ∈ N, I64 x.id) := Lib.hid (fun x hx => (roster_ok h0 x hx).1.1)
  have E0 := Lib.hid (show exactL N (peersN N 1 0) from (peers_fullN h0 1 (h := 0) (by omega)).1)
  have EL := Lib.hid (show (peersN N 1 0).length = N.length from peers_len h0 1 (h := 0) (by omega))
  have EF := Lib.hid (peers_few1 h0)
  have HLN := Lib.hid hs.len
  go_enter Tryz.func20, Tryz.ntmps20
  go_wp2_with fail
  (with_reducible refine (peers_r _ _ _ N 1 0 _ hs.sl (by omega) hw (by omega)).mono ?_)
  rintro e w1 ⟨v, qs, rfl, own, kk⟩
  replace T := T.nx kk
  have KW := Lib.hid (kk.b b)
  have hs0 := Lib.hid hs
  obtain ⟨aP, cP, rfl, _, _, _, _, _⟩ := own.pl
  generalize peersN N 1 0 = P0 at own E0 EL EF
  rw [EL.out, HLN.out] at own ⊢
  have OWN := Lib.hid own
  clear kk hs h0 hw own
  go_wp2_with fail
  go_loopw [8] (fun i wr => Srt17Rel b n w.heap.size P0 w (.slice aP n cP) i wr) (fun i _ => n - (intOf i).toNat)
  case atStart => exact ⟨0, qs, P0, by omega, rfl, OWN.out, rfl, EF.out, T, KW.out⟩
  case round =>
    clear T
    obtain ⟨k, qz, P, hk, rfl, own, hkey, hf, T, kw⟩ := hrel
    obtain ⟨wi, rfl⟩ : ∃ wi : World, wi = wr := ⟨_, rfl⟩
    have hlP : P.length = n := by have := congrArg List.length hkey; simp only [List.length_map] at this; rw [EL.out, HLN.out] at this; exact this
    have HKY := Lib.hid hkey
    have HF := Lib.hid hf
    have K2 := Lib.hid kw
    clear hkey hf
    by_cases hkn : k < n
    · obtain ⟨a', c', e', _, _, _, hg', _⟩ := own.pl
      obtain ⟨g, hge, hgb⟩ := hg' (fun h => by rw [h] at hlP; simp at hlP; omega)
      rw [hlP] at e'
      injection e' with e1 e2 e3
      subst e1 e3
      subst hge
      obtain ⟨p, hp⟩ : ∃ p, P[k]? = some p := ⟨P[k]'(by omega), by simp⟩
      obtain ⟨⟨A1, m1, d1⟩, ⟨A4, m4, d4⟩, hq, _, _⟩ := own.get hp
      have OWN2 := Lib.hid own
      have HSW := Lib.hid (hs0.out.nxb K2.out)
      have zw := K2.out.size
      clear own kw e2
      go_wp2_with fail
      (refine (peer_t ht _ _ _ N _ T HSW.out (by omega) HI.out (by omega)).mono ?_)
      clear T
      rintro e w2 ⟨pn, ⟨B1, k1, f1⟩, ⟨B4, k4, f4⟩, rfl, D⟩
      obtain ⟨s1, s2, O9⟩ := OwnP.putN (w1 := w2) (hn' := (B4, k4, f4)) (nr := pn.near) (by decide) (by decide) OWN2.out (OWN2.out.nxb hbw D.k) hq hp (D.on.base zw) (fun g hg => (D.on.lt g hg).1)
      simp only [Hdr.val] at s1 O9 ⊢
      have FN := Lib.hid (show Srt17Rel b n w.heap.size P0 w (.slice (some ⟨g, 0, none⟩) n cP) (.int .i64 ((k : Int) + 1)) (w2.setCell ⟨g, k * 5 + 4, none⟩ (.slice B4 k4 f4)) from
        ⟨k + 1, _, _, by omega, by go_num, O9, (keyL_set (p' := { p with near := pn.near }) hp rfl).trans HKY.out, HF.out.set (Nat.le_refl _) (Nat.le_refl _) (by have h1 := HF.out p (List.mem_of_getElem? hp); have h2 := D.ln; exact ⟨h1.1, by show pn.near.length ≤ 200; omega⟩), D.tape.set (p := ⟨g, k * 5 + 4, none⟩) _ (by show b < g; omega), (K2.out.nxb D.k).setNew (p := ⟨g, k * 5 + 4, none⟩) _ hgb⟩)
      clear O9 hp hq D
      have hfr := fieldNear (.int .i64 pn.id) (.slice B1 k1 f1) (.int .i64 pn.left) (.int .i64 pn.right) (.slice B4 k4 f4) w2
      go_wp2_with fail
      exact ⟨FN.out, by simp [intOf]; omega⟩
    · have FN := Lib.hid (show Srt17Post b N w (.returned (.slice aP n cP)) wi from ⟨_, qz, P, rfl, own, hlP.trans HLN.out.symm, exactL_key HKY.out E0.out, HF.out, T, kw⟩)
      clear own T kw
      go_wp2_with fail
      go_ret
      exact FN.out
set_option maxRecDepth 100000 in
set_option maxHeartbeats 16000000 in
theorem bridgeclimbs_walk (a1 : Option Addr) (n1 c1 : Nat) (l1 : List Int) (w : World) (h1 : Sl 1 encI w a1 n1 l1) (hc1 : n1 ≤ c1) (hm1 : c1 ≤ maxLen) (hT : TabG w) (hL : LetG w) :
    Calls Tryz.prog 5 #[.slice a1 n1 c1] w fun e w' => e = .returned (.bool true) ∧ Ex w w' := by
  go_enter Tryz.func5, Tryz.ntmps5
  go_wp2_with fail
  refine (new_t _ _ _ l1 _ h1 hc1 hm1).mono ?_
  rintro e w1 ⟨rfl, T, kk, z1⟩
  obtain ⟨b, hb⟩ : ∃ b, b = w.heap.size := ⟨_, rfl⟩
  rw [← hb] at T ⊢
  have hgt : ¬ 1 = b := by have := hT.lt; omega
  have hgl : ¬ 0 = b := by have := hL.lt; omega
  have T1 : Hid (TabG w1) := Lib.hid (hT.nx kk)
  have L1 : Hid (LetG w1) := Lib.hid (hL.nx kk)
  have QL : Hid (Exl b w w1) := Lib.hid ⟨kk, by omega⟩
  clear h1 hT hL kk hb z1
  have hbo := T.lt
  go_wp2_with fail
  refine (some_n 7 _ T L1.out hgl (by omega) (by omega)).mono ?_
  clear T
  rintro e x1 ⟨v1, L, rfl, R, hL1⟩
  have kw := R.k
  have T := R.tape
  obtain ⟨aX, cX, rfl, SX, hcX, hmX, _⟩ := R.own.slf (fun _ => rfl)
  have SX := SX.slb hbo
  have RL := R.len
  have H0 := Lib.hid R.ok
  have HW : Hid (∀ x ∈ L, x.word < 4294967296) := Lib.hid (fun x hx => by have := R.word x hx; omega)
  clear R
  go_wp2_with fail
  refine (next_t 4 _ T (by omega) (by omega)).mono ?_
  clear T
  rintro e x2 ⟨hh, rfl, hh0, hh1, T, kk⟩
  replace kw := kw.nxb kk
  replace SX := SX.nxb kk
  clear kk
  obtain ⟨ht, rfl⟩ : ∃ t : Nat, hh = t := ⟨hh.toNat, by omega⟩
  go_wp2_with fail
  refine (sorted_x ht _ _ _ L _ T SX (by omega) H0.out HW.out (by omega)).mono ?_
  clear T
  rintro e x3 ⟨vJ, qs, P0, rfl, own, hPl, hE, hF, _, kk⟩
  replace kw := kw.nxb kk
  replace SX := (SX.nxb kk).sl
  obtain ⟨aJ, cJ, rfl, PJ, _, _, _⟩ := own.pl
  have HE := Lib.hid hE
  have HF : Hid (FewQ 100 200 P0) := Lib.hid hF
  rw [hPl] at PJ ⊢
  have TG := Lib.hid (T1.out.nxb hgt kw)
  have QX := Lib.hid (QL.out.nxb kw).1
  have HS := Lib.hid SX
  have HPJ := Lib.hid PJ
  have ht16 : ht ≤ 16 := by omega
  obtain ⟨m, hm⟩ : ∃ m : Nat, m = L.length * ht := ⟨_, rfl⟩
  have hm1 : m ≤ 100 := by
    have : L.length * ht ≤ 20 * 4 := Nat.mul_le_mul (by omega) (by omega)
    omega
  have hmi : (L.length : Int) * (ht : Int) = (m : Int) := by rw [hm]; simp
  have hrn : rndsB (L.length : Int) (ht : Int) = (m : Int) := by unfold rndsB; rw [if_pos (by omega), hmi]
  have hwm : IntKind.i64.wrap ((L.length : Int) * (ht : Int)) = (m : Int) := by rw [hmi]; exact IntWalk.i64_in _ (by omega)
  have HM := Lib.hid hm
  have hw2 : IntKind.i64.wrap ((m : Int) + 2) = (m : Int) + 2 := IntWalk.i64_in _ (by omega)
  clear kk SX kw PJ own hPl hE hF hm hmi
  go_wp2_with fail
  (with_reducible refine (rounds17_p (L.length : Int) (ht : Int) _).mono ?_)
  rintro e w7 ⟨rfl, hw7⟩
  subst hw7
  rw [hrn]
  clear hrn
  go_wp2_with fail
  go_loopw [6, 8] (fun o i wr => Clb17Rel L P0 ht (m + 2) x3 o i wr) (fun _ i _ => m + 2 - (intOf i).toNat)
  case atStart => exact ⟨0, aJ, cJ, by omega, rfl, rfl, HPJ.out, Ex.refl _⟩
  case round =>
    obtain ⟨k, aK, cK, hk, rfl, rfl, PK, kk⟩ := hrel
    obtain ⟨wi, rfl⟩ : ∃ wi : World, wi = wr := ⟨_, rfl⟩
    have HK := Lib.hid PK
    have KE := Lib.hid kk
    have SM := Lib.hid (few_smallB (bruns_few (N := L) HF.out ht16 k))
    clear PK kk
    by_cases hlt : k < m + 2
    · have h2 : (k : Int) < (m : Int) + 2 := by omega
      have CL : Hid (∀ lev, lev ≤ ht → lev * L.length ≤ k → exactB L (bRunsN L P0 (ht : Int) k) (lev : Int) = true) := Lib.hid (fun lev h1 h2 => climbs_law HW.out ht16 HE.out h1 h2)
      go_wp2_with fail
      go_loopw [9] (fun i wr => LvIRel ht wi i wr) (fun i _ => ht + 1 - (intOf i).toNat)
      case atStart => exact ⟨0, by omega, rfl, Ex.refl _⟩
      case round =>
        obtain ⟨lev, hlev, rfl, kj⟩ := hrel
        obtain ⟨wj, rfl⟩ : ∃ wj : World, wj = wr := ⟨_, rfl⟩
        have KJ := Lib.hid kj
        clear kj
        by_cases hl2 : lev ≤ ht
        · have h3 : (lev : Int) ≤ (ht : Int) := by omega
          obtain ⟨q, hq⟩ : ∃ q : Nat, q = lev * L.length := ⟨_, rfl⟩
          have hq1 : q ≤ 100 := by
            have : lev * L.length ≤ 4 * 20 := Nat.mul_le_mul (by omega) (by omega)
            omega
          have hwq : IntKind.i64.wrap ((lev : Int) * (L.length : Int)) = (q : Int) := by
            rw [show (lev : Int) * (L.length : Int) = (q : Int) by rw [hq]; simp]
            exact IntWalk.i64_in _ (by omega)
          have CQ : Hid (q ≤ k → exactB L (bRunsN L P0 (ht : Int) k) (lev : Int) = true) := Lib.hid (fun h => CL.out lev hl2 (by rw [← hq]; exact h))
          clear hq
          by_cases hge : q ≤ k
          · have h4 : (q : Int) ≤ (k : Int) := by omega
            go_wp2_with fail
            (with_reducible refine (bexact_p _ _ _ L _ _ _ _ (lev : Int) _ (HS.out.nx (KE.out.nx KJ.out)) (by omega) hcX hmX HW.out (TG.out.nx (KE.out.nx KJ.out)) (HK.out.nx KJ.out) (by omega) SM.out).mono ?_)
            rintro e w8 ⟨rfl, kk⟩
            rw [CQ.out hge]
            replace KJ := Lib.hid (KJ.out.nx kk)
            clear kk
            go_wp2_with fail
            exact ⟨⟨lev + 1, by omega, by go_num, KJ.out⟩, by simp [intOf]; omega⟩
          · have h4 : ¬ (q : Int) ≤ (k : Int) := by omega
            clear CQ
            go_wp2_with fail
            exact ⟨⟨lev + 1, by omega, by go_num, KJ.out⟩, by simp [intOf]; omega⟩
        · obtain rfl : lev = ht + 1 := by omega
          have h3 : ¬ (((ht + 1 : Nat) : Int) ≤ (ht : Int)) := by omega
          clear hl2
          go_wp2_with fail
          (with_reducible refine (bround_p _ _ _ L _ _ _ _ (ht : Int) _ (HS.out.nx (KE.out.nx KJ.out)) (by omega) hcX hmX HW.out (HK.out.nx KJ.out) (by omega) SM.out).mono ?_)
          rintro e w9 ⟨v9, qs9, rfl, own, kk⟩
          obtain ⟨a9, c9, rfl, P9, _, _, _⟩ := own.pl
          have hl9 : (bRoundN L (bRunsN L P0 (ht : Int) k) (ht : Int)).length = L.length := bround_len H0.out ht16
          rw [hl9] at P9 ⊢
          have FN : Hid (Clb17Rel L P0 ht (m + 2) x3 (.slice a9 L.length c9) (.int .i64 ((k : Int) + 1)) w9) := Lib.hid ⟨k + 1, a9, c9, by omega, by go_num, rfl, P9, (KE.out.nx KJ.out).nx kk⟩
          clear own P9 kk
          go_wp2_with fail
          exact ⟨FN.out, by simp [intOf]; omega⟩
    · obtain rfl : k = m + 2 := by omega
      have h2 : ¬ (((m + 2 : Nat) : Int) < (m : Int) + 2) := by omega
      have XT := Lib.hid (climbs_law (t := m + 2) HW.out ht16 HE.out (Nat.le_refl ht) (by rw [HM.out, Nat.mul_comm]; omega))
      go_wp2_with fail
      (with_reducible refine (bexact_p _ _ _ L _ _ _ _ (ht : Int) _ (HS.out.nx KE.out) (by omega) hcX hmX HW.out (TG.out.nx KE.out) HK.out (by omega) SM.out).mono ?_)
      rintro e w8 ⟨rfl, kk⟩
      rw [XT.out]
      replace KE := Lib.hid (KE.out.nx kk)
      clear kk
      go_wp2_with fail
      (with_reducible refine (sane17_x _ (TG.out.nx KE.out)).mono ?_)
      rintro e wz ⟨rfl, kk⟩
      have KF := Lib.hid (QX.out.nx (KE.out.nx kk))
      clear kk
      go_wp2_with fail
      go_ret
      exact ⟨rfl, KF.out⟩
end Go.Proofs.YtbnbjiddffihoaaGreatDoor

/- What the laid tables give the walks. -/
namespace Go.Proofs.YtbnbjiddffihoaaGreatDoor
open Go.RowKit

theorem Tryz.gTab : Tryz.prog.globalNamed "math/bits.deBruijn32tab" = some 1 := by kernel_rfl
theorem Tryz.tTab : (Tryz.prog.globals[1]?).map (·.type) = some 172 := by kernel_rfl
theorem Tryz.cells32 : Tryz.prog.cellsOf 172 = 32 := by kernel_rfl
theorem Tryz.cellsU8 : Tryz.prog.cellsOf 5 = 1 := by kernel_rfl
theorem laid_tab {H : Type} : (Rows.laid_math_bits_deBruijn32tab : DataW H) = Lib.tabData .u8 (Lib.deBruijn32tab.map fun (n : Nat) => (n : Int)) := rfl

theorem tabG_of {rest : List (String × DataW Unit)} {W : World} (h : laidMetH Tryz.prog (("math/bits.deBruijn32tab", Rows.laid_math_bits_deBruijn32tab) :: rest) W)
    (hp : ((("math/bits.deBruijn32tab", Rows.laid_math_bits_deBruijn32tab) :: rest).all fun x => x.2.handleName?.isNone) = true) : TabG W := by
  rw [MakeChecks.laidMetH_plain _ _ _ hp, laid_tab] at h
  have ht := Lib.tabIs_of_head Tryz.gTab Tryz.tTab Tryz.underlying172 Tryz.underlying5 Tryz.cellsU8 Tryz.cells32 h
  intro j hj
  have := ht.cell Tryz.gTab j (by simp [Lib.deBruijn32tab]; omega)
  rw [this]
  congr 2
  simp [List.getD, List.getElem?_map]
  cases h : Lib.deBruijn32tab[j]? <;> simp
end Go.Proofs.YtbnbjiddffihoaaGreatDoor

/- What the laid letters give the walks. -/
namespace Go.Proofs.YtbnbjiddffihoaaGreatDoor
open Go.RowKit

theorem Tryz.gLet : Tryz.prog.globalNamed "skipgraph/skipgraphworld.letters" = some 0 := by kernel_rfl
theorem Tryz.tLet : (Tryz.prog.globals[0]?).map (·.type) = some 85 := by kernel_rfl
theorem Tryz.cells6 : Tryz.prog.cellsOf 85 = 6 := by kernel_rfl
theorem Tryz.cellsStr : Tryz.prog.cellsOf 9 = 1 := by kernel_rfl
def letL : List (List UInt8) := [[97], [98], [99], [0], [255], [109]]

/-- AN ARRAY OF STRINGS THAT READS AS A LIST OF STRINGS HOLDS THEM, CELL FOR CELL. -/
theorem cells_of_strs {H : Type} {enc : TypeId × Value → H} {P : Program} {w : World} {base : Nat} {sp : Nat → Bool} {held : Bool} {fuel : Nat} {t e : TypeId} {n : Nat} {cs : List Value} {zs : List (List UInt8)} {p : List MemPlace}
    (ht : P.underlying t = some (.array n e)) (he : P.underlying e = some .string) (hce : P.cellsOf e = 1) (hct : P.cellsOf t = n)
    (h : DataW.trod enc P w base sp held fuel t cs = some (.agg (zs.map fun z => .lit (.string z)), p)) : ∀ (i : Nat) (z : List UInt8), zs[i]? = some z → ∃ s : ByteArray, s.data.toList = z ∧ cs[i]? = some (.string s) := by
  cases fuel with
  | zero => simp [DataW.trod] at h
  | succ fuel =>
    simp only [DataW.trod, ht, hce, hct, Nat.mul_one] at h
    split at h
    · rename_i hl
      obtain ⟨xs, hm, hx⟩ := Option.map_eq_some_iff.1 h
      have hxs : xs.map (·.1) = zs.map fun z => (DataW.lit (.string z) : DataW H) := by
        have := congrArg Prod.fst hx
        simpa using this
      have hxl : xs.length = n := by simpa using Lib.mapM_length hm
      have hzl : zs.length = n := by
        have := congrArg List.length hxs
        simp at this
        omega
      intro i z hz
      have hi : i < n := by have := (List.getElem?_eq_some_iff.1 hz).1; omega
      obtain ⟨b, hb, hf⟩ := Lib.mapM_at hm i i (by simp [hi])
      obtain ⟨s, hc, rfl, _⟩ := DataW.trod_string he hf
      have h1 : cs[i]? = some (.string s) := by
        have := congrArg (·[0]?) hc
        simpa [List.getElem?_take, List.getElem?_drop] using this
      have h2 : (xs.map (·.1))[i]? = some (DataW.lit (.string s.data.toList) : DataW H) := by simp [hb]
      rw [hxs] at h2
      simp only [List.getElem?_map, Option.map_eq_some_iff, DataW.lit.injEq, Lit.string.injEq] at h2
      obtain ⟨z', hz', hzz⟩ := h2
      have : z = z' := Option.some.inj (hz.symm.trans hz')
      exact ⟨s, by rw [this, hzz], h1⟩
    · cases h

theorem laid_let {H : Type} : (Rows.laid_skipgraph_skipgraphworld_letters : DataW H) = .agg (letL.map fun z => .lit (.string z)) := rfl
theorem letG_head {rest : List (String × DataW Unit)} {W : World} (h : laidMet Tryz.prog (("skipgraph/skipgraphworld.letters", .agg (letL.map fun z => .lit (.string z))) :: rest) W) : LetG W := by
  obtain ⟨ps, ⟨g', t', cs, fuel, p, q, hg', ht', hvar, hd, _, _⟩, _⟩ := h
  obtain rfl := Option.some.inj (Tryz.gLet.symm.trans hg')
  obtain rfl := Option.some.inj (Tryz.tLet.symm.trans ht')
  intro j hj
  obtain ⟨z, hz⟩ : ∃ z, letL[j]? = some z := ⟨letL[j]'(by simp [letL]; omega), by simp⟩
  obtain ⟨s, h1, h2⟩ := cells_of_strs Tryz.underlying85 Tryz.underlying9 Tryz.cellsStr Tryz.cells6 hd j z hz
  refine ⟨s, ?_, ?_⟩
  · have hl : z.length = 1 := by
      have : ∀ j, j < 6 → (letL[j]?.getD []).length = 1 := by decide
      have := this j hj
      rw [hz] at this
      exact this
    have : s.data.toList.length = 1 := by rw [h1]; exact hl
    rw [Array.length_toList] at this
    exact this
  · rw [World.var?_cell Tryz.gLet hvar j]
    simpa using h2
end Go.Proofs.YtbnbjiddffihoaaGreatDoor

/- The letters, where they are second on the list of what is laid. -/
namespace Go.Proofs.YtbnbjiddffihoaaGreatDoor
open Go.RowKit

theorem letG_second {x : String × DataW Unit} {W : World} (h : laidMetH Tryz.prog [x, ("skipgraph/skipgraphworld.letters", Rows.laid_skipgraph_skipgraphworld_letters)] W)
    (hp : ([x, ("skipgraph/skipgraphworld.letters", Rows.laid_skipgraph_skipgraphworld_letters)].all fun x => x.2.handleName?.isNone) = true) (hx : decide (x.1 = "skipgraph/skipgraphworld.letters") = false) : LetG W := by
  rw [MakeChecks.laidMetH_plain _ _ _ hp, laid_let] at h
  have h2 := h.filter (fun y => decide (y.1 = "skipgraph/skipgraphworld.letters"))
  rw [List.filter_cons_of_neg (by rw [hx]; simp), List.filter_cons_of_pos (by simp), List.filter_nil] at h2
  exact letG_head h2
end Go.Proofs.YtbnbjiddffihoaaGreatDoor

/- How the arguments of a statement are read: slices as lists. -/
namespace Go.Proofs.YtbnbjiddffihoaaGreatDoor
open Go.ChangeShapes Go.WideShapes Go.ChangeAt Go.RowKit Go.Deep Go.Joins

theorem own : ownKnob Tryz.prog.godebug = none := by kernel_rfl
theorem laidOut : laidOutB Tryz.prog = true := by kernel_rfl

section
variable {H : Type} {enc : TypeId × Value → H} {P : Program} {w : World} {base : Nat} {spare : Nat → Bool} {held : Bool}

theorem addr_lit {a : Addr} {v : Value} {w : World} (h : w.cell? (a.add 0) = some v) : a = ⟨a.block, a.off, none⟩ := by
  obtain ⟨b, o, s⟩ := a
  have : s = none := by simpa [Addr.add] using World.cell?_spot h
  subst this; rfl

/-- a slice of ints that came in -/
theorem rd_ints {t e : TypeId} {k : IntKind} {v : Value} {d : DataW H} {p : List MemPlace} {r : Reach} {b0 : Nat} (ht : P.underlying t = some (.slice e)) (he : P.underlying e = some (.int k)) (hC : P.cellsOf e = 1)
    (hv : Value.okWide P w r b0 t v) (h : DataW.Trod enc P w base spare held t v d p) :
    ∃ a n c l, v = .slice a n c ∧ Rd 1 (fun x : Int => [Value.int k x]) (· < w.heap.size) w a n l ∧ n ≤ c ∧ c ≤ maxLen ∧ (∀ x ∈ l, (Lit.int k x).wf = true) ∧ (a = none → c = 0) := by
  obtain ⟨a0, len0, cap0, rfl⟩ := okWide_slice ht hv
  obtain ⟨fuel, hf⟩ := h
  rcases open_ints ht he hC hf with ⟨hcs, _⟩ | ⟨x, l, c, zs, hcs, _, hl, hm, hz, _, hcell, hwz⟩
  · simp [Value.cells] at hcs
    obtain ⟨rfl, rfl, rfl⟩ := hcs
    exact ⟨none, 0, 0, [], rfl, Rd.nil _ _ _ _ _, by omega, by unfold maxLen; omega, by simp, fun _ => rfl⟩
  · simp [Value.cells] at hcs
    obtain ⟨rfl, rfl, rfl⟩ := hcs
    have hz' : len0 ≤ zs.length := by rw [hz]; split <;> omega
    refine ⟨_, len0, cap0, zs.take len0, rfl, ⟨by simp; omega, ?_⟩, hl, hm, fun y hy => hwz y (List.mem_of_mem_take hy), fun h => by cases h⟩
    rcases Nat.eq_zero_or_pos len0 with h0 | h0
    · exact .inl h0
    · have hx := addr_lit (hcell 0 (by omega))
      refine .inr ⟨x.block, x.off, by rw [← hx], ?_, fun j y hj c u hu => ?_⟩
      · have := World.block_lt_of_cell? w _ (hcell 0 (by omega))
        rw [hx] at this
        simpa [Addr.add] using this
      · have hj' : j < len0 := by
          have := (List.getElem?_eq_some_iff.1 hj).1
          simp at this; omega
        have hy : zs.getD j 0 = y := by
          rw [List.getElem?_take, if_pos hj'] at hj
          simp [List.getD, hj]
        have hc := hcell j (by omega)
        rw [hx, Addr.add_lit, hy] at hc
        rcases c with _ | c
        · simp at hu; subst hu; simpa using hc
        · simp at hu

end
end Go.Proofs.YtbnbjiddffihoaaGreatDoor

/-
  BridgeClimbs returns true for every list of numbers, and leaves its arguments as they were.
  Condition: the table of math/bits and the letters of the keys are as the program text lays them (tied by the card).
-/
namespace Go.Proofs.YtbnbjiddffihoaaGreatDoor
open Go.ChangeShapes Go.WideShapes Go.ChangeAt Go.RowKit Go.Deep Go.Joins
open Go.ChangeMaps (open_string shut_string)
set_option linter.unusedVariables false
theorem Tryz.cellsInt : Tryz.prog.cellsOf 3 = 1 := by kernel_rfl

set_option maxRecDepth 100000 in
set_option maxHeartbeats 1000000 in
theorem bridgeClimbs_lifted (os : Os) (started : os.Started) (H : Type) (enc : TypeId × Value → H) :
    ReturnsInHanded {} Tryz.checked os 5 .any (fun w args => (Rows.bridgeClimbsSpec.pre enc Tryz.prog Tryz.f5 [] false w args ∧ laidMetH Tryz.prog Rows.bridgeClimbsRow.laid w) ∧ sizedMet enc Tryz.prog Tryz.f5 (OpenSpec.ofChange Rows.bridgeClimbsSpec) false w args)
      (Rows.bridgeClimbsSpec.post enc Tryz.prog Tryz.f5 false true false false) := by
  refine returnsInHanded_of_change_and (C := Tryz.checked) (X := fun w _ => laidMetH Tryz.prog Rows.bridgeClimbsRow.laid w) (fun _ _ _ hh h => h.of_heap hh) own started (by kernel_rfl) Tryz.func5
    (ChangeSpec.witness_shaped (enc := enc) (C := Tryz.checked) (os := os) (X := fun w _ => laidMetH Tryz.prog Rows.bridgeClimbsRow.laid w) false (World.doorLaid Tryz.prog 400 os) #[.slice none 0 0] 8 rfl (World.shaped_of_RefB (by kernel_rfl) (by kernel_rfl)) (by kernel_rfl) (by kernel_rfl) (by kernel_rfl) (laidMetH_of_parts3 (fuel := 8) (laidMet_of_run' 8 (by kernel_rfl) (by kernel_rfl)) (by kernel_rfl) (by kernel_rfl))) ?_
  intro W base args ds gs before hval0 hW _ _ hL _
  have hval : ∀ (j : Nat) t v, Tryz.f5.params[j]? = some t → args[j]? = some v → Value.okWide Tryz.prog W .any base t v := hval0
  have hW' := hW
  obtain ⟨p, q, hA0, hV, rfl, hfz, hnd⟩ := hW
  have hA : DataW.TrodAll enc Tryz.prog W 0 (fun _ => true) true Tryz.f5.params.toList args.toList ds p := hA0
  rw [Tryz.params5] at hA hval
  obtain ⟨v0, vs0, d0, ds0, p0, q0, hargs, rfl, rfl, h0, r0⟩ := trodAll_cons hA
  obtain ⟨rfl, rfl, rfl⟩ := trodAll_nil r0
  obtain rfl : args = #[v0] := by cases args; simp_all
  obtain ⟨rfl, rfl⟩ := trodVars_none hV
  have k0 := h0
  have lt0 : ∀ x ∈ p0, x.block < W.heap.size := by obtain ⟨m, hm⟩ := k0; exact DataW.trod_lt m _ _ _ hm
  obtain ⟨A0, n0, cap0, l0, rfl, rd0, hc0, hm0, wf0, nl0⟩ := rd_ints Tryz.underlying22 Tryz.underlying3 Tryz.cellsInt (hval 0 22 v0 rfl rfl) h0
  clear hA0 hval0
  have hT : TabG W := tabG_of hL (by kernel_rfl)
  have hL2 : LetG W := letG_second hL (by kernel_rfl) (by kernel_rfl)
  refine (bridgeclimbs_walk A0 n0 cap0 l0 W rd0 hc0 hm0 hT hL2).mono fun e W' ⟨he, hch⟩ => ?_
  have bel : Below W.heap.size W W' := hch.below (fun _ h => h)
  subst he
  exact ⟨_, rfl, _, _, _, [], _, [], hW', trodAll_mk1 (shut_bool Tryz.underlying4 _), (trodAll_cons_mk (Below.trod laidOut (by kernel_rfl) (of_decide_eq_true (by kernel_rfl)) k0 bel lt0) trodAll_mk0), rfl, bel.frame _, fun h => by cases h⟩

theorem bridgeClimbs_over : Rows.bridgeClimbsRow.holds Tryz.pinned (OpenSpec.ofChange Rows.bridgeClimbsSpec) :=
  OpenClaim.holds_of_wide 5 Tryz.f5 rfl rfl rfl rfl rfl rfl rfl ⟨rfl, rfl, rfl, rfl, rfl⟩ rfl rfl rfl rfl rfl (by kernel_rfl) Tryz.func5 (by kernel_rfl)
    (of_decide_eq_true (by kernel_rfl)) (by unfold Func.isWrapper; first | (rw [if_pos (by decide +kernel)]; kernel_rfl) | (rw [if_neg (by decide +kernel)]; exact ⟨rfl, rfl⟩))
    (fun os started H enc _ => bridgeClimbs_lifted os started H enc)

/-- THE STATEMENT: the tied card -/
theorem BridgeClimbs_holds : Rows.BridgeClimbsCardSaid :=
  Claim7.holds_tied_plain_at .later [] [.data, .data] true (true, "fa916daaffacb3e24c7be19b08443b31e2338d23d8ecfcb6d713dd40f61712c1") false
    bridgeClimbs_over (fun _ h => by cases h) (by kernel_rfl) (fun _ h => by cases h) bridgeClimbs_row_tie rfl ⟨rfl, rfl⟩ (by kernel_rfl) rfl
    (fun f fn hf hfn => by
      obtain rfl : f = 5 := Option.some.inj ((show Tryz.prog.funcNamed "skipgraph/skipgraphlaw17.BridgeClimbs" = some 5 by kernel_rfl).symm.trans hf) |>.symm
      obtain rfl : fn = Tryz.f5 := (Option.some.inj (Tryz.func5.symm.trans hfn)).symm
      exact ⟨by kernel_rfl, fun j t ht => by
        rw [Tryz.params5] at ht
        have hm : t ∈ [22] := by simpa using Array.mem_of_getElem? ht
        have hall : ([22].all fun u => !Tryz.prog.wantsStandIn u) = true := by kernel_rfl
        exact (show Tryz.prog.wantsStandIn t = false by simpa using List.all_eq_true.1 hall t hm)⟩)
    (by kernel_rfl)
#print axioms BridgeClimbs_holds
end Go.Proofs.YtbnbjiddffihoaaGreatDoor
