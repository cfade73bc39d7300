/- Texts for the statement LinearRoundsProof, part 9 of 9: L16T, L16R, Laid4, LaidL, Laid2, Open, OpenN, WireP, WireU, WireD, WireI, WireS, WireT, WireO, EncN, Lnk, EncL, OpenL, OpenP, Bulk, OpenQ, LinearRoundsProof. -/
import Derived.Test.YtbnbjiddffihoaaGreatDoorTie
import Derived.Test.YtbnbjiddffihoaaGreatDoorCards
import Derived.Lib.LaidTab
import Derived.Lib.LaidU8
import Derived.LaidMore
import Derived.Stop.Joined
import Derived.SevenTiedAt
import Derived.ChangeArms
import Derived.LaidSub
import Derived.Test.YtbnbjiddffihoaaGreatDoorRows
import Derived.ProofKit
import Derived.OpenShut
import Derived.ShutString
import Derived.ChangeOld
import Derived.Lib.SmallJoins
import Derived.Deep.Slices
import Derived.Deep.Fields
import Derived.ChangeSame
import Derived.WalkKit
import Derived.Laws.BytesString
import Derived.Lib.AppendStr
import Derived.Deep.RegionHeld3
import Derived.Test.YtbnbjiddffihoaaGreatDoorLinearRoundsProofPk1
import Derived.Test.YtbnbjiddffihoaaGreatDoorLinearRoundsProofPk2
import Derived.Test.YtbnbjiddffihoaaGreatDoorLinearRoundsProofPk3
import Derived.Test.YtbnbjiddffihoaaGreatDoorLinearRoundsProofPk4
import Derived.Test.YtbnbjiddffihoaaGreatDoorLinearRoundsProofPk8

/- agrees of law 16. -/
namespace Go.Proofs.YtbnbjiddffihoaaGreatDoor
open Go.RowKit

theorem normal_fewL {N : List Nd} {P : List Pr} {m M : Nat} (h : FewQ m M P) : FewQ m M (normalN N P) := by
  intro q hq
  unfold normalN at hq
  split at hq
  · obtain ⟨x, _, rfl⟩ := List.mem_map.1 hq
    unfold peerN
    cases hf : P.find? fun p => p.id == x.id with
    | none => exact ⟨Nat.zero_le _, Nat.zero_le _⟩
    | some q => exact h q (List.mem_of_find?_eq_some hf)
  · cases hq
theorem round_lenL (N : List Nd) (P : List Pr) : (roundN N P).length = (normalN N P).length := by rw [roundN_eq, List.length_map]
def AgRel (n : Nat) (w : World) (i : Value) (wr : World) : Prop := ∃ k : Nat, k ≤ n ∧ k ≤ 10 ∧ i = .int .i64 k ∧ Ex w wr
set_option maxRecDepth 100000 in
set_option maxHeartbeats 8000000 in
theorem agrees16_x (a : Option Addr) (n c : Nat) (N : List Nd) (a2 : Option Addr) (n2 c2 : Nat) (P : List Pr) (m : Int) (w : World) (h : Sl 3 encN w a n N) (hn : n ≤ 1000) (hc : n ≤ c) (hm : c ≤ maxLen) (hw : ∀ x ∈ N, x.word < 4294967296) (hT : TabG w) (h2 : PL w a2 n2 P) (hn2 : n2 ≤ 1000) (hP : FewQ 1000 1000 P) :
    Calls Tryz.prog 13 #[.slice a n c, .slice a2 n2 c2, .int .i64 m] w fun e w' => e = .returned (.bool true) ∧ Ex w w' := by
  have HL := Lib.hid h.len
  have HPL := Lib.hid h2.len
  have HS := Lib.hid h
  have HW := Lib.hid hw
  have HT := Lib.hid hT
  have H2 := Lib.hid h2
  have HF := Lib.hid hP
  have SM : Hid (SmallP P) := Lib.hid (fun p hp => by have := hP p hp; omega)
  have S2 : Hid (Sm2 P) := Lib.hid (fun p hp => by have := hP p hp; omega)
  clear h hw hT h2 hP
  go_enter Tryz.func13, Tryz.ntmps13
  go_wp2_with fail
  go_loopw [7] (fun i wr => AgRel n2 w i wr) (fun i _ => n2 - (intOf i).toNat)
  case atStart => exact ⟨0, by omega, by omega, rfl, Ex.refl _⟩
  case round =>
    obtain ⟨k, hk, hk10, rfl, ki⟩ := hrel
    obtain ⟨wi, rfl⟩ : ∃ wi : World, wi = wr := ⟨_, rfl⟩
    by_cases hkn : k < n2 ∧ k < 10
    · obtain ⟨hk1, hk2⟩ := hkn
      obtain ⟨x5, o5, b1, m1, d1, b4, m4, d4, y, rfl, hx5, hy, e0, e1, e2, e3, e4, s1, s4⟩ := (H2.out.nx ki).rd hk1
      have hyP := HF.out y (List.mem_of_getElem? hy)
      have hl1 : m1 ≤ 1000 := by have := s1.len; omega
      have hl4 : m4 ≤ 1000 := by have := s4.len; omega
      have E0 := Lib.hid (fun wq (kq : Ex wi wq) => Chg.cellv kq e0 hx5)
      have E1 := Lib.hid (fun wq (kq : Ex wi wq) => Chg.cellv kq e1 hx5)
      have E2 := Lib.hid (fun wq (kq : Ex wi wq) => Chg.cellv kq e2 hx5)
      have E3 := Lib.hid (fun wq (kq : Ex wi wq) => Chg.cellv kq e3 hx5)
      have E4 := Lib.hid (fun wq (kq : Ex wi wq) => Chg.cellv kq e4 hx5)
      have S1 := Lib.hid s1
      have S4 := Lib.hid s4
      have KI := Lib.hid ki
      have HIL : Hid ((introsN N y).length ≤ 2000) := Lib.hid (Nat.le_trans (intros_len N y) (by have := HL.out; omega))
      have hkc : (k : Int) < (n2 : Int) := by omega
      have hkd : (k : Int) < 10 := by omega
      clear hy hyP e0 e1 e2 e3 e4 s1 s4 hx5 ki
      go_upto_region 4 with fail
      refine wp_region_held_drew (S := Ex wi) (by kernel_rfl) ((Ex.refl wi).drew) (fun hHeld => ?_)
      obtain ⟨wd, hwdx⟩ : ∃ wd : World, wd = World.drew wi := ⟨_, rfl⟩
      rw [← hwdx] at hHeld ⊢
      have hDrew : Ex wi wd := by rw [hwdx]; exact (Ex.refl wi).drew
      clear hwdx
      refine wpAnyH_take (i := 0) (oi := ⟨some 18, .move (.tmp 0), 23, "law.go:38", #[], none⟩) (v := ?_) rfl (by kernel_rfl) (by kernel_rfl) (by kernel_rfl) (fun _ _ _ h => h) (Or.inl ⟨by rfl, ?hyr1x0q5⟩) (by assumption) ?restr1x0q5
      case hyr1x0q5 => intro wq hSw; (go_simp); (try with_reducible rfl)
      try simp only [Act.put, List.setIfInBounds_toArray, List.set_cons_zero, List.set_cons_succ]
      refine wpAnyH_take (i := 1) (oi := ⟨some 19, .move (.tmp 1), 24, "law.go:38", #[], none⟩) (v := ?_) rfl (by kernel_rfl) (by kernel_rfl) (by kernel_rfl) (fun _ _ _ h => h) (Or.inl ⟨by rfl, ?hyr1x1q8⟩) (by assumption) ?restr1x1q8
      case hyr1x1q8 => intro wq hSw; (go_simp); (try with_reducible rfl)
      try simp only [Act.put, List.setIfInBounds_toArray, List.set_cons_zero, List.set_cons_succ]
      refine wpAnyH_take (i := 2) (oi := ⟨some 20, .move (.tmp 7), 3, "law.go:38", #[], none⟩) (v := ?_) rfl (by kernel_rfl) (by kernel_rfl) (by kernel_rfl) (fun _ _ _ h => h) (Or.inl ⟨by rfl, ?hyr1x2q11⟩) (by assumption) ?restr1x2q11
      case hyr1x2q11 => intro wq hSw; (go_simp); (try with_reducible rfl)
      try simp only [Act.put, List.setIfInBounds_toArray, List.set_cons_zero, List.set_cons_succ]
      refine wpAnyH_take (i := 3) (oi := ⟨some 21, .indexAddr 24 (.tmp 19) (.tmp 20), 0, "law.go:38", #[⟨1, .data⟩, ⟨2, .data⟩], none⟩) (v := ?_) rfl (by kernel_rfl) (by kernel_rfl) (by kernel_rfl) (fun _ _ _ h => h) (Or.inl ⟨by rfl, ?hyr1x3q14⟩) (by assumption) ?restr1x3q14
      case hyr1x3q14 => intro wq hSw; (go_simp); (try with_reducible rfl)
      try simp only [Act.put, List.setIfInBounds_toArray, List.set_cons_zero, List.set_cons_succ]
      refine wpAnyH_take (i := 4) (oi := ⟨some 22, .load 45 (.tmp 21), 45, "law.go:38", #[⟨3, .data⟩], none⟩) (v := ?_) rfl (by kernel_rfl) (by kernel_rfl) (by kernel_rfl) (fun _ _ _ h => h) (Or.inl ⟨by rfl, ?hyr1x4q17⟩) (by assumption) ?restr1x4q17
      case hyr1x4q17 => intro wq hSw; (have c0 := E0.out wq hSw; have c1 := E1.out wq hSw; have c2 := E2.out wq hSw; have c3 := E3.out wq hSw; have c4 := E4.out wq hSw; go_simp); (try with_reducible rfl)
      try simp only [Act.put, List.setIfInBounds_toArray, List.set_cons_zero, List.set_cons_succ]
      refine wpAnyH_take (i := 6) (oi := ⟨some 24, .move (.tmp 0), 23, "law.go:38", #[], none⟩) (v := ?_) rfl (by kernel_rfl) (by kernel_rfl) (by kernel_rfl) (fun _ _ _ h => h) (Or.inl ⟨by rfl, ?hyr1x6q20⟩) (by assumption) ?restr1x6q20
      case hyr1x6q20 => intro wq hSw; (go_simp); (try with_reducible rfl)
      try simp only [Act.put, List.setIfInBounds_toArray, List.set_cons_zero, List.set_cons_succ]
      refine wpAnyH_take (i := 7) (oi := ⟨some 25, .move (.tmp 1), 24, "law.go:38", #[], none⟩) (v := ?_) rfl (by kernel_rfl) (by kernel_rfl) (by kernel_rfl) (fun _ _ _ h => h) (Or.inl ⟨by rfl, ?hyr1x7q23⟩) (by assumption) ?restr1x7q23
      case hyr1x7q23 => intro wq hSw; (go_simp); (try with_reducible rfl)
      try simp only [Act.put, List.setIfInBounds_toArray, List.set_cons_zero, List.set_cons_succ]
      refine wpAnyH_take (i := 8) (oi := ⟨some 26, .move (.tmp 7), 3, "law.go:38", #[], none⟩) (v := ?_) rfl (by kernel_rfl) (by kernel_rfl) (by kernel_rfl) (fun _ _ _ h => h) (Or.inl ⟨by rfl, ?hyr1x8q26⟩) (by assumption) ?restr1x8q26
      case hyr1x8q26 => intro wq hSw; (go_simp); (try with_reducible rfl)
      try simp only [Act.put, List.setIfInBounds_toArray, List.set_cons_zero, List.set_cons_succ]
      refine wpAnyH_take (i := 9) (oi := ⟨some 27, .indexAddr 24 (.tmp 25) (.tmp 26), 0, "law.go:38", #[⟨7, .data⟩, ⟨8, .data⟩], none⟩) (v := ?_) rfl (by kernel_rfl) (by kernel_rfl) (by kernel_rfl) (fun _ _ _ h => h) (Or.inl ⟨by rfl, ?hyr1x9q29⟩) (by assumption) ?restr1x9q29
      case hyr1x9q29 => intro wq hSw; (go_simp); (try with_reducible rfl)
      try simp only [Act.put, List.setIfInBounds_toArray, List.set_cons_zero, List.set_cons_succ]
      refine wpAnyH_take (i := 10) (oi := ⟨some 28, .load 45 (.tmp 27), 45, "law.go:38", #[⟨9, .data⟩], none⟩) (v := ?_) rfl (by kernel_rfl) (by kernel_rfl) (by kernel_rfl) (fun _ _ _ h => h) (Or.inl ⟨by rfl, ?hyr1x10q32⟩) (by assumption) ?restr1x10q32
      case hyr1x10q32 => intro wq hSw; (have c0 := E0.out wq hSw; have c1 := E1.out wq hSw; have c2 := E2.out wq hSw; have c3 := E3.out wq hSw; have c4 := E4.out wq hSw; go_simp); (try with_reducible rfl)
      try simp only [Act.put, List.setIfInBounds_toArray, List.set_cons_zero, List.set_cons_succ]
      refine wpAnyH_ready (rs := [5]) (by kernel_rfl) (by simp) ?_
      refine AllReadyH.cons (o := ⟨some 23, .call { callee := .value (.func 35), args := #[.tmp 18, .tmp 22], argTypes := #[23, 45] }, 62, "law.go:38", #[⟨0, .data⟩, ⟨4, .data⟩], none⟩) rfl (fun K hK => ?_) AllReadyH.nil
      go_simp
      (with_reducible refine (intros_p _ _ _ N y _ _ _ _ _ _ _ (HS.out.nx (KI.out.nx hHeld)) hn hc hm (S1.out.nx hHeld) (S4.out.nx hHeld) (by omega) (by omega)).mono ?_)
      rintro e wz ⟨vI, rfl, oI, kk⟩
      obtain ⟨aI, cI, rfl, rI, _⟩ := oI.rd (fun _ => rfl)
      have SI : Sl 2 encS wz aI (introsN N y).length (introsN N y) := rI.mono (fun _ hk => hk.2)
      replace hHeld := hHeld.nx kk
      clear kk oI rI
      refine hK.out _ _ (hHeld) (fun hHeld => ?_)
      clear hK K
      try simp only [Act.put, List.setIfInBounds_toArray, List.set_cons_zero, List.set_cons_succ]
      refine wpAnyH_ready (rs := [11]) (by kernel_rfl) (by simp) ?_
      refine AllReadyH.cons (o := ⟨some 29, .call { callee := .value (.func 36), args := #[.tmp 24, .tmp 28], argTypes := #[23, 45] }, 62, "law.go:38", #[⟨6, .data⟩, ⟨10, .data⟩, ⟨5, .chain⟩], none⟩) rfl (fun K hK => ?_) AllReadyH.nil
      go_simp
      (with_reducible refine (intros_r _ _ _ N y _ _ _ _ _ _ _ (HS.out.nx (KI.out.nx hHeld)) hn (S1.out.nx hHeld) (S4.out.nx hHeld) (by omega) (by omega)).mono ?_)
      rintro e wz ⟨vJ, rfl, oJ, kk⟩
      obtain ⟨aJ, cJ, rfl, rJ, _⟩ := oJ.rd (fun _ => rfl)
      have SJ : Sl 2 encS wz aJ (introsN N y).length (introsN N y) := rJ.mono (fun _ hk => hk.2)
      replace SI := SI.nx kk
      replace hHeld := hHeld.nx kk
      clear kk oJ rJ
      refine hK.out _ _ (hHeld) (fun hHeld => ?_)
      clear hK K
      try simp only [Act.put, List.setIfInBounds_toArray, List.set_cons_zero, List.set_cons_succ]
      refine wpAnyH_ready (rs := [12]) (by kernel_rfl) (by simp) ?_
      refine AllReadyH.cons (o := ⟨some 30, .call { callee := .value (.func 34), args := #[.tmp 23, .tmp 29], argTypes := #[62, 62] }, 4, "law.go:38", #[⟨5, .data⟩, ⟨11, .data⟩, ⟨11, .chain⟩], none⟩) rfl (fun K hK => ?_) AllReadyH.nil
      go_simp
      (with_reducible refine (introsEq_x _ _ _ (introsN N y) _ _ _ SI SJ (by have := HIL.out; omega)).mono ?_)
      rintro e wz ⟨rfl, kk⟩
      replace hHeld := hHeld.nx kk
      clear kk SI SJ
      refine hK.out _ _ (hHeld) (fun hHeld => ?_)
      clear hK K
      try simp only [Act.put, List.setIfInBounds_toArray, List.set_cons_zero, List.set_cons_succ]
      refine wpAnyH_take (i := 13) (oi := ⟨some 31, .unOp .not 4 (.tmp 30), 4, "law.go:38", #[⟨12, .data⟩], none⟩) (v := ?_) rfl (by kernel_rfl) (by kernel_rfl) (by kernel_rfl) (fun _ _ _ h => h) (Or.inl ⟨by rfl, ?hyr1x13q70⟩) (by assumption) ?restr1x13q70
      case hyr1x13q70 => intro wq hSw; (go_simp); (try with_reducible rfl)
      try simp only [Act.put, List.setIfInBounds_toArray, List.set_cons_zero, List.set_cons_succ]
      refine wpAnyH_take (i := 14) (oi := ⟨some 32, .move (.tmp 31), 4, "law.go:38", #[⟨13, .data⟩, ⟨12, .chain⟩], none⟩) (v := ?_) rfl (by kernel_rfl) (by kernel_rfl) (by kernel_rfl) (fun _ _ _ h => h) (Or.inl ⟨by rfl, ?hyr1x14q73⟩) (by assumption) ?restr1x14q73
      case hyr1x14q73 => intro wq hSw; (go_simp); (try with_reducible rfl)
      try simp only [Act.put, List.setIfInBounds_toArray, List.set_cons_zero, List.set_cons_succ]
      refine wpAnyH_take (i := 15) (oi := ⟨some 33, .move (.tmp 0), 23, "law.go:38", #[⟨14, .guard⟩], some (14, false)⟩) (v := ?_) rfl (by kernel_rfl) (by kernel_rfl) (by kernel_rfl) (fun _ _ _ h => h) (Or.inl ⟨by rfl, ?hyr1x15q76⟩) (by assumption) ?restr1x15q76
      case hyr1x15q76 => intro wq hSw; (go_simp); (try with_reducible rfl)
      try simp only [Act.put, List.setIfInBounds_toArray, List.set_cons_zero, List.set_cons_succ]
      refine wpAnyH_take (i := 16) (oi := ⟨some 34, .move (.tmp 1), 24, "law.go:38", #[⟨14, .guard⟩], some (14, false)⟩) (v := ?_) rfl (by kernel_rfl) (by kernel_rfl) (by kernel_rfl) (fun _ _ _ h => h) (Or.inl ⟨by rfl, ?hyr1x16q79⟩) (by assumption) ?restr1x16q79
      case hyr1x16q79 => intro wq hSw; (go_simp); (try with_reducible rfl)
      try simp only [Act.put, List.setIfInBounds_toArray, List.set_cons_zero, List.set_cons_succ]
      refine wpAnyH_take (i := 17) (oi := ⟨some 35, .move (.tmp 7), 3, "law.go:38", #[⟨14, .guard⟩], some (14, false)⟩) (v := ?_) rfl (by kernel_rfl) (by kernel_rfl) (by kernel_rfl) (fun _ _ _ h => h) (Or.inl ⟨by rfl, ?hyr1x17q82⟩) (by assumption) ?restr1x17q82
      case hyr1x17q82 => intro wq hSw; (go_simp); (try with_reducible rfl)
      try simp only [Act.put, List.setIfInBounds_toArray, List.set_cons_zero, List.set_cons_succ]
      refine wpAnyH_take (i := 18) (oi := ⟨some 36, .indexAddr 24 (.tmp 34) (.tmp 35), 0, "law.go:38", #[⟨16, .data⟩, ⟨17, .data⟩, ⟨14, .guard⟩], some (14, false)⟩) (v := ?_) rfl (by kernel_rfl) (by kernel_rfl) (by kernel_rfl) (fun _ _ _ h => h) (Or.inl ⟨by rfl, ?hyr1x18q85⟩) (by assumption) ?restr1x18q85
      case hyr1x18q85 => intro wq hSw; (go_simp); (try with_reducible rfl)
      try simp only [Act.put, List.setIfInBounds_toArray, List.set_cons_zero, List.set_cons_succ]
      refine wpAnyH_take (i := 19) (oi := ⟨some 37, .load 45 (.tmp 36), 45, "law.go:38", #[⟨18, .data⟩, ⟨14, .guard⟩], some (14, false)⟩) (v := ?_) rfl (by kernel_rfl) (by kernel_rfl) (by kernel_rfl) (fun _ _ _ h => h) (Or.inl ⟨by rfl, ?hyr1x19q88⟩) (by assumption) ?restr1x19q88
      case hyr1x19q88 => intro wq hSw; (have c0 := E0.out wq hSw; have c1 := E1.out wq hSw; have c2 := E2.out wq hSw; have c3 := E3.out wq hSw; have c4 := E4.out wq hSw; go_simp); (try with_reducible rfl)
      try simp only [Act.put, List.setIfInBounds_toArray, List.set_cons_zero, List.set_cons_succ]
      refine wpAnyH_take (i := 21) (oi := ⟨some 39, .move (.tmp 0), 23, "law.go:38", #[⟨14, .guard⟩], some (14, false)⟩) (v := ?_) rfl (by kernel_rfl) (by kernel_rfl) (by kernel_rfl) (fun _ _ _ h => h) (Or.inl ⟨by rfl, ?hyr1x21q91⟩) (by assumption) ?restr1x21q91
      case hyr1x21q91 => intro wq hSw; (go_simp); (try with_reducible rfl)
      try simp only [Act.put, List.setIfInBounds_toArray, List.set_cons_zero, List.set_cons_succ]
      refine wpAnyH_take (i := 22) (oi := ⟨some 40, .move (.tmp 1), 24, "law.go:38", #[⟨14, .guard⟩], some (14, false)⟩) (v := ?_) rfl (by kernel_rfl) (by kernel_rfl) (by kernel_rfl) (fun _ _ _ h => h) (Or.inl ⟨by rfl, ?hyr1x22q94⟩) (by assumption) ?restr1x22q94
      case hyr1x22q94 => intro wq hSw; (go_simp); (try with_reducible rfl)
      try simp only [Act.put, List.setIfInBounds_toArray, List.set_cons_zero, List.set_cons_succ]
      refine wpAnyH_take (i := 23) (oi := ⟨some 41, .move (.tmp 7), 3, "law.go:38", #[⟨14, .guard⟩], some (14, false)⟩) (v := ?_) rfl (by kernel_rfl) (by kernel_rfl) (by kernel_rfl) (fun _ _ _ h => h) (Or.inl ⟨by rfl, ?hyr1x23q97⟩) (by assumption) ?restr1x23q97
      case hyr1x23q97 => intro wq hSw; (go_simp); (try with_reducible rfl)
      try simp only [Act.put, List.setIfInBounds_toArray, List.set_cons_zero, List.set_cons_succ]
      refine wpAnyH_take (i := 24) (oi := ⟨some 42, .indexAddr 24 (.tmp 40) (.tmp 41), 0, "law.go:38", #[⟨22, .data⟩, ⟨23, .data⟩, ⟨14, .guard⟩], some (14, false)⟩) (v := ?_) rfl (by kernel_rfl) (by kernel_rfl) (by kernel_rfl) (fun _ _ _ h => h) (Or.inl ⟨by rfl, ?hyr1x24q100⟩) (by assumption) ?restr1x24q100
      case hyr1x24q100 => intro wq hSw; (go_simp); (try with_reducible rfl)
      try simp only [Act.put, List.setIfInBounds_toArray, List.set_cons_zero, List.set_cons_succ]
      refine wpAnyH_take (i := 25) (oi := ⟨some 43, .load 45 (.tmp 42), 45, "law.go:38", #[⟨24, .data⟩, ⟨14, .guard⟩], some (14, false)⟩) (v := ?_) rfl (by kernel_rfl) (by kernel_rfl) (by kernel_rfl) (fun _ _ _ h => h) (Or.inl ⟨by rfl, ?hyr1x25q103⟩) (by assumption) ?restr1x25q103
      case hyr1x25q103 => intro wq hSw; (have c0 := E0.out wq hSw; have c1 := E1.out wq hSw; have c2 := E2.out wq hSw; have c3 := E3.out wq hSw; have c4 := E4.out wq hSw; go_simp); (try with_reducible rfl)
      try simp only [Act.put, List.setIfInBounds_toArray, List.set_cons_zero, List.set_cons_succ]
      refine wpAnyH_ready (rs := [20]) (by kernel_rfl) (by simp) ?_
      refine AllReadyH.cons (o := ⟨some 38, .call { callee := .value (.func 37), args := #[.tmp 33, .tmp 37], argTypes := #[23, 45] }, 65, "law.go:38", #[⟨15, .data⟩, ⟨19, .data⟩, ⟨14, .chain⟩, ⟨14, .guard⟩], some (14, false)⟩) rfl (fun K hK => ?_) AllReadyH.nil
      go_simp
      (with_reducible refine (keep_p _ _ _ N y _ _ _ _ _ _ _ (HS.out.nx (KI.out.nx hHeld)) hn hc hm (S1.out.nx hHeld) (S4.out.nx hHeld) (by omega) (by omega)).mono ?_)
      rintro e wz ⟨rfl, kk⟩
      replace hHeld := hHeld.nx kk
      clear kk
      refine hK.out _ _ (hHeld) (fun hHeld => ?_)
      clear hK K
      try simp only [Act.put, List.setIfInBounds_toArray, List.set_cons_zero, List.set_cons_succ]
      refine wpAnyH_ready (rs := [26]) (by kernel_rfl) (by simp) ?_
      refine AllReadyH.cons (o := ⟨some 44, .call { callee := .value (.func 38), args := #[.tmp 39, .tmp 43], argTypes := #[23, 45] }, 65, "law.go:38", #[⟨21, .data⟩, ⟨25, .data⟩, ⟨20, .chain⟩, ⟨14, .guard⟩], some (14, false)⟩) rfl (fun K hK => ?_) AllReadyH.nil
      go_simp
      (with_reducible refine (keep_r _ _ _ N y _ _ _ _ _ _ _ (HS.out.nx (KI.out.nx hHeld)) hn (S1.out.nx hHeld) (S4.out.nx hHeld) (by omega) (by omega)).mono ?_)
      rintro e wz ⟨rfl, kk⟩
      replace hHeld := hHeld.nx kk
      clear kk
      refine hK.out _ _ (hHeld) (fun hHeld => ?_)
      clear hK K
      try simp only [Act.put, List.setIfInBounds_toArray, List.set_cons_zero, List.set_cons_succ]
      refine wpAnyH_take (i := 27) (oi := ⟨some 45, .binOp .neq 65 (.tmp 38) (.tmp 44) 65, 4, "law.go:38", #[⟨20, .data⟩, ⟨26, .data⟩, ⟨14, .guard⟩], some (14, false)⟩) (v := ?_) rfl (by kernel_rfl) (by kernel_rfl) (by kernel_rfl) (fun _ _ _ h => h) (Or.inl ⟨by rfl, ?hyr1x27q126⟩) (by assumption) ?restr1x27q126
      case hyr1x27q126 => intro wq hSw; (go_simp); (try with_reducible rfl)
      try simp only [Act.put, List.setIfInBounds_toArray, List.set_cons_zero, List.set_cons_succ]
      refine wpAnyH_take (i := 28) (oi := ⟨some 46, .pick (.tmp 32) (.const (.bool true)) (.tmp 45), 4, "law.go:38", #[⟨14, .data⟩, ⟨27, .data⟩], none⟩) (v := ?_) rfl (by kernel_rfl) (by kernel_rfl) (by kernel_rfl) (fun _ _ _ h => h) (Or.inl ⟨by rfl, ?hyr1x28q129⟩) (by assumption) ?restr1x28q129
      case hyr1x28q129 => intro wq hSw; (go_simp); (try with_reducible rfl)
      try simp only [Act.put, List.setIfInBounds_toArray, List.set_cons_zero, List.set_cons_succ]
      refine wpAnyH_done (by kernel_rfl) ?_ _
      have KD := Lib.hid (KI.out.nx hHeld)
      clear hHeld hDrew
      go_wp2_with fail
      exact ⟨⟨k + 1, by omega, by omega, by go_num, KD.out⟩, by simp [intOf]; omega⟩
    · have KI := Lib.hid ki
      have hout : ¬ (k : Int) < (n2 : Int) ∨ ((k : Int) < (n2 : Int) ∧ ¬ (k : Int) < 10) := by omega
      clear ki hkn
      have REST : Hid (∀ (K : Prop), (¬ (k : Int) < (n2 : Int) → K) → ((k : Int) < (n2 : Int) → ¬ (k : Int) < 10 → K) → K) := Lib.hid (fun K h1 h2 => by
        rcases hout with h | ⟨h, h'⟩
        · exact h1 h
        · exact h2 h h')
      clear hout
      by_cases g1 : (k : Int) < (n2 : Int)
      · have g2 : ¬ (k : Int) < 10 := REST.out _ (fun h => absurd g1 h) (fun _ h => h)
        clear REST
        go_upto_region 6 with fail
        go_wp2_with fail
        (with_reducible refine (normal_p _ _ _ N _ _ _ P _ (HS.out.nx KI.out) hn hc hm (H2.out.nx KI.out) (by omega) SM.out).mono ?_)
        rintro e w1 ⟨v, qs, rfl, own, kk⟩
        obtain ⟨aA, cA, rfl, PA, _, _, _, _⟩ := own.pl
        replace KI := Lib.hid (KI.out.nx kk)
        clear own kk
        go_wp2_with fail
        (with_reducible refine (normal_r _ _ _ N _ _ _ P _ (HS.out.nx KI.out) hn (H2.out.nx KI.out) (by omega) SM.out).mono ?_)
        rintro e w2 ⟨v, qs, rfl, own, kk⟩
        obtain ⟨aB, cB, rfl, PB, _, _, _, _⟩ := own.pl
        replace KI := Lib.hid (KI.out.nx kk)
        replace PA := PA.nx kk
        have hQ : (normalN N P).length ≤ 1000 := by have h1 := (normal_le N P).1; have := HL.out; omega
        have NF := Lib.hid (show ∀ p ∈ normalN N P, p.known.length ≤ 1000000 ∧ p.near.length ≤ 1000000 from fun p hp => by have := normal_fewL (N := N) HF.out p hp; omega)
        have RF := Lib.hid (show ∀ p ∈ roundN N P, p.known.length ≤ 1000000 ∧ p.near.length ≤ 1000000 from fun p hp => by have := round_few (N := N) HF.out (by have := HL.out; omega) p hp; omega)
        have RL := Lib.hid (round_lenL N P)
        clear own kk
        go_wp2_with fail
        (with_reducible refine (same14_r _ _ _ (normalN N P) _ _ _ PA PB hQ NF.out).mono ?_)
        rintro e w3 ⟨rfl, kk⟩
        replace KI := Lib.hid (KI.out.nx kk)
        clear kk PA PB
        go_wp2_with fail
        (with_reducible refine (lround_p _ _ _ N _ _ _ P _ (HS.out.nx KI.out) hn hc hm (H2.out.nx KI.out) (by omega) SM.out).mono ?_)
        rintro e w4 ⟨v, qs, rfl, own, kk⟩
        obtain ⟨aA, cA, rfl, PA, _, _, _, _⟩ := own.pl
        replace KI := Lib.hid (KI.out.nx kk)
        clear own kk
        go_wp2_with fail
        (with_reducible refine (round_r _ _ _ N _ _ _ P _ (HS.out.nx KI.out) hn (H2.out.nx KI.out) (by omega) S2.out).mono ?_)
        rintro e w5 ⟨v, qs, rfl, own, kk⟩
        obtain ⟨aB, cB, rfl, PB, _, _, _, _⟩ := own.pl
        replace KI := Lib.hid (KI.out.nx kk)
        replace PA := PA.nx kk
        clear own kk
        go_wp2_with fail
        (with_reducible refine (same14_r _ _ _ (roundN N P) _ _ _ PA PB (by rw [RL.out]; exact hQ) RF.out).mono ?_)
        rintro e w6 ⟨rfl, kk⟩
        replace KI := Lib.hid (KI.out.nx kk)
        clear kk PA PB
        go_wp2_with fail
        (with_reducible refine (exact16_p _ _ _ N _ _ _ P _ (HS.out.nx KI.out) hn hc hm HW.out (HT.out.nx KI.out) (H2.out.nx KI.out) (by omega) SM.out).mono ?_)
        rintro e w7 ⟨rfl, kk⟩
        replace KI := Lib.hid (KI.out.nx kk)
        clear kk
        go_wp2_with fail
        (with_reducible refine (exact16_r _ _ _ N _ _ _ P _ (HS.out.nx KI.out) hn HW.out (H2.out.nx KI.out) (by omega) SM.out).mono ?_)
        rintro e w8 ⟨rfl, kk⟩
        replace KI := Lib.hid (KI.out.nx kk)
        clear kk
        generalize exactLB N P = eb
        have hee : (eb == eb) = true := by cases eb <;> rfl
        go_wp2_with fail
        (with_reducible refine (rounds16_p m _).mono ?_)
        rintro e w9 ⟨rfl, hw9⟩
        subst hw9
        go_wp2_with fail
        (with_reducible refine (rounds16_r m _).mono ?_)
        rintro e w9 ⟨rfl, hw9⟩
        subst hw9
        generalize max m 0 = mm
        go_wp2_with fail
        go_ret
        exact ⟨rfl, KI.out⟩
      · clear REST
        go_upto_region 6 with fail
        go_wp2_with fail
        (with_reducible refine (normal_p _ _ _ N _ _ _ P _ (HS.out.nx KI.out) hn hc hm (H2.out.nx KI.out) (by omega) SM.out).mono ?_)
        rintro e w1 ⟨v, qs, rfl, own, kk⟩
        obtain ⟨aA, cA, rfl, PA, _, _, _, _⟩ := own.pl
        replace KI := Lib.hid (KI.out.nx kk)
        clear own kk
        go_wp2_with fail
        (with_reducible refine (normal_r _ _ _ N _ _ _ P _ (HS.out.nx KI.out) hn (H2.out.nx KI.out) (by omega) SM.out).mono ?_)
        rintro e w2 ⟨v, qs, rfl, own, kk⟩
        obtain ⟨aB, cB, rfl, PB, _, _, _, _⟩ := own.pl
        replace KI := Lib.hid (KI.out.nx kk)
        replace PA := PA.nx kk
        have hQ : (normalN N P).length ≤ 1000 := by have h1 := (normal_le N P).1; have := HL.out; omega
        have NF := Lib.hid (show ∀ p ∈ normalN N P, p.known.length ≤ 1000000 ∧ p.near.length ≤ 1000000 from fun p hp => by have := normal_fewL (N := N) HF.out p hp; omega)
        have RF := Lib.hid (show ∀ p ∈ roundN N P, p.known.length ≤ 1000000 ∧ p.near.length ≤ 1000000 from fun p hp => by have := round_few (N := N) HF.out (by have := HL.out; omega) p hp; omega)
        have RL := Lib.hid (round_lenL N P)
        clear own kk
        go_wp2_with fail
        (with_reducible refine (same14_r _ _ _ (normalN N P) _ _ _ PA PB hQ NF.out).mono ?_)
        rintro e w3 ⟨rfl, kk⟩
        replace KI := Lib.hid (KI.out.nx kk)
        clear kk PA PB
        go_wp2_with fail
        (with_reducible refine (lround_p _ _ _ N _ _ _ P _ (HS.out.nx KI.out) hn hc hm (H2.out.nx KI.out) (by omega) SM.out).mono ?_)
        rintro e w4 ⟨v, qs, rfl, own, kk⟩
        obtain ⟨aA, cA, rfl, PA, _, _, _, _⟩ := own.pl
        replace KI := Lib.hid (KI.out.nx kk)
        clear own kk
        go_wp2_with fail
        (with_reducible refine (round_r _ _ _ N _ _ _ P _ (HS.out.nx KI.out) hn (H2.out.nx KI.out) (by omega) S2.out).mono ?_)
        rintro e w5 ⟨v, qs, rfl, own, kk⟩
        obtain ⟨aB, cB, rfl, PB, _, _, _, _⟩ := own.pl
        replace KI := Lib.hid (KI.out.nx kk)
        replace PA := PA.nx kk
        clear own kk
        go_wp2_with fail
        (with_reducible refine (same14_r _ _ _ (roundN N P) _ _ _ PA PB (by rw [RL.out]; exact hQ) RF.out).mono ?_)
        rintro e w6 ⟨rfl, kk⟩
        replace KI := Lib.hid (KI.out.nx kk)
        clear kk PA PB
        go_wp2_with fail
        (with_reducible refine (exact16_p _ _ _ N _ _ _ P _ (HS.out.nx KI.out) hn hc hm HW.out (HT.out.nx KI.out) (H2.out.nx KI.out) (by omega) SM.out).mono ?_)
        rintro e w7 ⟨rfl, kk⟩
        replace KI := Lib.hid (KI.out.nx kk)
        clear kk
        go_wp2_with fail
        (with_reducible refine (exact16_r _ _ _ N _ _ _ P _ (HS.out.nx KI.out) hn HW.out (H2.out.nx KI.out) (by omega) SM.out).mono ?_)
        rintro e w8 ⟨rfl, kk⟩
        replace KI := Lib.hid (KI.out.nx kk)
        clear kk
        generalize exactLB N P = eb
        have hee : (eb == eb) = true := by cases eb <;> rfl
        go_wp2_with fail
        (with_reducible refine (rounds16_p m _).mono ?_)
        rintro e w9 ⟨rfl, hw9⟩
        subst hw9
        go_wp2_with fail
        (with_reducible refine (rounds16_r m _).mono ?_)
        rintro e w9 ⟨rfl, hw9⟩
        subst hw9
        generalize max m 0 = mm
        go_wp2_with fail
        go_ret
        exact ⟨rfl, KI.out⟩
end Go.Proofs.YtbnbjiddffihoaaGreatDoor

/- The walk over LinearRounds. -/
namespace Go.Proofs.YtbnbjiddffihoaaGreatDoor
open Go.RowKit

def LrX (b : Nat) (w1 : World) (s9 : Value) (wx : World) : Prop :=
  ∃ (a : Option Addr) (n c : Nat) (LZ : List Nd), s9 = .slice a n c ∧ Slb 3 encN b wx a n LZ ∧ n ≤ 100 ∧ n ≤ c ∧ c ≤ maxLen ∧ (∀ x ∈ LZ, x.word < 4294967296) ∧ TK wx b ∧ Exb b w1 wx
def LrB (b : Nat) (w1 : World) (v : Value) (wx : World) : Prop := ∃ β : Bool, v = .bool β ∧ TK wx b ∧ Exb b w1 wx
theorem few20 {P : List Pr} (h : Few20 P) : FewQ 1000 1000 P := fun p hp => by have := h.2 p hp; omega
theorem fewP1000 {m : Nat} {P : List Pr} (h : FewP m P) (hm : m ≤ 1000) : FewQ 1000 1000 P := fun p hp => by have := h p hp; omega
set_option maxRecDepth 100000 in
set_option maxHeartbeats 16000000 in
theorem linearrounds_walk (a1 : Option Addr) (n1 c1 : Nat) (l1 : List Int) (a2 : Option Addr) (n2 c2 : Nat) (l2 : List Nd) (a3 : Option Addr) (n3 c3 : Nat) (P3 : List Pr) (m : Int) (w : World) (h1 : Sl 1 encI w a1 n1 l1) (hc1 : n1 ≤ c1) (hm1 : c1 ≤ maxLen)
    (h2 : Sl 3 encN w a2 n2 l2) (hc2 : n2 ≤ c2) (hm2 : c2 ≤ maxLen) (hw2 : ∀ x ∈ l2, x.word < 4294967296) (h3 : PL w a3 n3 P3) (hT : TabG w) (hL : LetG w) :
    Calls Tryz.prog 3 #[.slice a1 n1 c1, .slice a2 n2 c2, .slice a3 n3 c3, .int .i64 m] w fun e w' => e = .returned (.bool true) ∧ Ex w w' := by
  go_enter Tryz.func3, Tryz.ntmps3
  go_wp2_with fail
  refine (new_t _ _ _ l1 _ h1 hc1 hm1).mono ?_
  rintro e w1 ⟨rfl, T, kk, z1⟩
  obtain ⟨b, hb⟩ : ∃ b, b = w.heap.size := ⟨_, rfl⟩
  rw [← hb] at T ⊢
  have hgt : ¬ 1 = b := by have := hT.lt; omega
  have hgl : ¬ 0 = b := by have := hL.lt; omega
  have T1 : Hid (TabG w1) := Lib.hid (hT.nx kk)
  have L1 : Hid (LetG w1) := Lib.hid (hL.nx kk)
  have QL : Hid (Exl b w w1) := Lib.hid ⟨kk, by omega⟩
  have S1 : Hid (Slb 3 encN b w1 a2 n2 l2) := Lib.hid ((h2.slb (by omega)).nxb (kk.b b))
  have P1 : Hid (PLb b w1 a3 n3 P3) := Lib.hid ((h3.plb (by omega)).nxb (kk.b b))
  have HW2 := Lib.hid hw2
  clear h1 h2 h3 hT hL kk hb z1 hw2
  go_wp2_with fail
  go_loopw [10] (fun i wr => CtRel b 3 w1 i wr) (fun i _ => 3 - (intOf i).toNat)
  case atStart => exact ⟨0, by omega, rfl, Exb.refl _ _, T⟩
  case round =>
    clear T
    obtain ⟨k, hk, rfl, kw, T⟩ := hrel
    obtain ⟨wo, rfl⟩ : ∃ wo : World, wo = wr := ⟨_, rfl⟩
    by_cases hlt : k < 3
    case neg =>
      obtain rfl : k = 3 := by omega
      have TG := Lib.hid (T1.out.nxb hgt kw)
      have QX := Lib.hid (QL.out.nxb kw).1
      have SA := Lib.hid (S1.out.nxb kw).sl
      have PA := Lib.hid (P1.out.nxb kw).pl
      clear hk hlt kw T
      have SANE : Hid (∀ wq, Ex wo wq → Calls Tryz.prog 15 #[] wq fun e w' => e = .returned (.bool true) ∧ Ex wq w') := Lib.hid (fun wq kq => sane16_x wq (TG.out.nx kq))
      by_cases g10 : n2 > 10
      · have d1 : (n2 : Int) > 10 := by omega
        have d2 : (10 : Int) < (n2 : Int) := by omega
        clear g10
        go_wp2_with fail
        (with_reducible refine (SANE.out _ (Ex.refl _)).mono ?_)
        rintro e wz ⟨rfl, kk⟩
        replace QX := Lib.hid (QX.out.nx kk)
        clear kk
        go_wp2_with fail
        go_ret
        exact ⟨rfl, QX.out⟩
      have d1 : ¬ (n2 : Int) > 10 := by omega
      have d2 : ¬ (10 : Int) < (n2 : Int) := by omega
      go_wp2_with fail
      (with_reducible refine (small_x _ _ _ P3 _ PA.out).mono ?_)
      rintro e w5 ⟨β, rfl, hβ, kk⟩
      have HB := Lib.hid hβ
      replace QX := Lib.hid (QX.out.nx kk)
      have K5 := Lib.hid kk
      clear hβ kk
      cases β with
      | false =>
        go_wp2_with fail
        (with_reducible refine (SANE.out _ K5.out).mono ?_)
        rintro e wz ⟨rfl, kk⟩
        replace QX := Lib.hid (QX.out.nx kk)
        clear kk
        go_wp2_with fail
        go_ret
        exact ⟨rfl, QX.out⟩
      | true =>
        have FW := Lib.hid (HB.out rfl)
        have hn3 : n3 ≤ 1000 := by have h1 := FW.out.1; have h2 := PA.out.len; omega
        go_wp2_with fail
        (with_reducible refine (agrees16_x _ _ _ l2 _ _ _ P3 m _ (SA.out.nx K5.out) (by omega) hc2 hm2 HW2.out (TG.out.nx K5.out) (PA.out.nx K5.out) hn3 (few20 FW.out)).mono ?_)
        rintro e w6 ⟨rfl, kk⟩
        replace QX := Lib.hid (QX.out.nx kk)
        replace K5 := Lib.hid (K5.out.nx kk)
        clear kk
        go_wp2_with fail
        (with_reducible refine (SANE.out _ K5.out).mono ?_)
        rintro e wz ⟨rfl, kk⟩
        replace QX := Lib.hid (QX.out.nx kk)
        clear kk
        go_wp2_with fail
        go_ret
        exact ⟨rfl, QX.out⟩
    have hbo := T.lt
    go_wp2_with fail
    refine (roster_t 7 _ T (L1.out.nxb hgl kw) hgl (by omega) (by omega)).mono ?_
    clear T
    rintro e x1 ⟨v1, LX, rfl, R⟩
    replace kw := kw.nxb R.k
    have T := R.tape
    obtain ⟨aX, cX, rfl, SX, hcX, hmX, hnX⟩ := R.own.slf (fun _ => rfl)
    have SX := SX.slb hbo
    have RL := R.len
    have RN := Lib.hid (roster_ok R.ok)
    have XW := Lib.hid (fun x hx => (RN.out x hx).1.2.1)
    have XI := Lib.hid (fun x hx => (RN.out x hx).1.1)
    have XO := Lib.hid (fun x hx => (RN.out x hx).1)
    clear R
    go_wp2_with fail
    refine (next_t 3 _ T (by omega) (by omega)).mono ?_
    clear T
    rintro e x2 ⟨hh, rfl, hh0, hh1, T, kk⟩
    replace kw := kw.nxb kk
    replace SX := SX.nxb kk
    clear kk
    obtain ⟨ht, rfl⟩ : ∃ t : Nat, hh = t := ⟨hh.toNat, by omega⟩
    have hb2 := T.lt
    go_wp2_with fail
    refine (peers_t ht _ _ _ _ _ T SX (by omega) XI.out (by omega)).mono ?_
    clear T
    rintro e x3 ⟨v3, qs, PX, rfl, RP⟩
    replace kw := kw.nxb RP.k
    replace SX := SX.nxb RP.k
    have T := RP.tape
    have hPl := RP.len
    have hPf := Lib.hid (fewP1000 RP.few (by omega))
    obtain ⟨aP, cP, rfl, PP, _, _, hPg, _⟩ := RP.own.pl
    have OWP := Lib.hid RP.own
    clear RP
    have KW := Lib.hid kw
    have SXH := Lib.hid SX
    clear kw SX
    go_upto_region 7 with fail
    go_cut [33] from 28 to 43 (fun v wx => LrB b x3 v wx)
    case first =>
      by_cases hk2 : k = 2
      · subst hk2
        go_wp2_with fail
        refine (bool_t 2 _ T (by omega) (by omega)).mono ?_
        clear T
        rintro e x4 ⟨rb, rfl, T, kk⟩
        have CUT := Lib.hid (show LrB b x3 (.bool rb) x4 from ⟨rb, rfl, T, kk⟩)
        clear T kk
        go_wp2_with fail
        go_meet
        exact CUT.out
      · have d1 : ((k : Int) == 2) = false := by simp; omega
        have CUT := Lib.hid (show LrB b x3 (.bool false) x3 from ⟨false, rfl, T, Exb.refl _ _⟩)
        clear T hk2
        go_wp2_with fail
        go_meet
        exact CUT.out
    case rest =>
      rename World => x4
      obtain ⟨β, rfl, T4, k4⟩ := hcut
      clear T
      have T4H := Lib.hid T4
      have K4 := Lib.hid k4
      have SX4 := SXH.out.nxb k4
      have L4 := Lib.hid (L1.out.nxb hgl (KW.out.nxb k4))
      have hb4 := T4.lt
      clear T4 k4
      go_upto_if 33 with fail
      go_cut [11] from 34 to 43 (fun s9 wx => LrX b x3 s9 wx)
      case first =>
        cases β with
        | true =>
          go_wp2_with fail
          refine (oddroster_t _ _ _ _ _ T4H.out SX4 hnX (by omega) XO.out L4.out hgl).mono ?_
          rintro e x8 ⟨v8, LO, rfl, O⟩
          obtain ⟨aO, cO, rfl, SO, hcO, hmO, _⟩ := O.own.slf (fun _ => rfl)
          have OL := O.len
          have CUT := Lib.hid (show LrX b x3 (.slice aO LO.length cO) x8 from ⟨aO, _, cO, LO, rfl, SO.slb hb4, by omega, hcO, hmO, fun x hx => (O.ok x hx).2.1, O.tape, K4.out.nxb O.k⟩)
          clear O SO SX4
          go_wp2_with fail
          go_meet
          exact CUT.out
        | false =>
          have CUT := Lib.hid (show LrX b x3 (.slice aX LX.length cX) x4 from ⟨aX, _, cX, LX, rfl, SX4, by omega, hcX, hmX, XW.out, T4H.out, K4.out⟩)
          clear SX4
          go_wp2_with fail
          go_meet
          exact CUT.out
      case rest =>
        clear SX4 T4H K4 L4
        rename World => x5
        obtain ⟨aZ, nZ, cZ, LZ, rfl, SZ, hnZ, hcZ, hmZ, ZW, T5, k5⟩ := hcut
        have SZ := Lib.hid SZ
        have K5 := Lib.hid k5
        have ZW := Lib.hid ZW
        clear k5
        go_wp2_with fail
        refine (next_t 9 _ T5 (by omega) (by omega)).mono ?_
        clear T5
        rintro e x6 ⟨dd, rfl, dd0, dd1, T, kk⟩
        replace K5 := Lib.hid (K5.out.nxb kk)
        replace SZ := Lib.hid (SZ.out.nxb kk).sl
        have T := Lib.hid T
        have PZ : Hid (PL x6 aP PX.length PX) := Lib.hid (by
          obtain ⟨aQ, cQ, e, PQ, _⟩ := (OWP.out.nxb hb2 K5.out).pl
          cases e
          exact PQ)
        have hwd : IntKind.i64.wrap (dd - 2) = dd - 2 := IntWalk.i64_in _ (by omega)
        have TG := Lib.hid (T1.out.nxb hgt (KW.out.nxb K5.out))
        clear kk
        go_wp2_with fail
        (with_reducible refine (agrees16_x _ _ _ LZ _ _ _ PX (dd - 2) _ SZ.out (by omega) hcZ hmZ ZW.out TG.out PZ.out (by omega) hPf.out).mono ?_)
        rintro e x7 ⟨rfl, kk⟩
        have KF := Lib.hid ((KW.out.nxb K5.out).nxb (kk.b b))
        have TF := Lib.hid (T.out.nx kk)
        clear kk
        go_wp2_with fail
        exact ⟨⟨k + 1, by omega, by go_num, KF.out, TF.out⟩, by simp [intOf]; omega⟩
end Go.Proofs.YtbnbjiddffihoaaGreatDoor

/- What the laid tables give the walks. -/
namespace Go.Proofs.YtbnbjiddffihoaaGreatDoor
open Go.RowKit

theorem Tryz.gTab : Tryz.prog.globalNamed "math/bits.deBruijn32tab" = some 1 := by kernel_rfl
theorem Tryz.tTab : (Tryz.prog.globals[1]?).map (·.type) = some 172 := by kernel_rfl
theorem Tryz.cells32 : Tryz.prog.cellsOf 172 = 32 := by kernel_rfl
theorem Tryz.cellsU8 : Tryz.prog.cellsOf 5 = 1 := by kernel_rfl
theorem laid_tab {H : Type} : (Rows.laid_math_bits_deBruijn32tab : DataW H) = Lib.tabData .u8 (Lib.deBruijn32tab.map fun (n : Nat) => (n : Int)) := rfl

theorem tabG_of {rest : List (String × DataW Unit)} {W : World} (h : laidMetH Tryz.prog (("math/bits.deBruijn32tab", Rows.laid_math_bits_deBruijn32tab) :: rest) W)
    (hp : ((("math/bits.deBruijn32tab", Rows.laid_math_bits_deBruijn32tab) :: rest).all fun x => x.2.handleName?.isNone) = true) : TabG W := by
  rw [MakeChecks.laidMetH_plain _ _ _ hp, laid_tab] at h
  have ht := Lib.tabIs_of_head Tryz.gTab Tryz.tTab Tryz.underlying172 Tryz.underlying5 Tryz.cellsU8 Tryz.cells32 h
  intro j hj
  have := ht.cell Tryz.gTab j (by simp [Lib.deBruijn32tab]; omega)
  rw [this]
  congr 2
  simp [List.getD, List.getElem?_map]
  cases h : Lib.deBruijn32tab[j]? <;> simp
end Go.Proofs.YtbnbjiddffihoaaGreatDoor

/- What the laid letters give the walks. -/
namespace Go.Proofs.YtbnbjiddffihoaaGreatDoor
open Go.RowKit

theorem Tryz.gLet : Tryz.prog.globalNamed "skipgraph/skipgraphworld.letters" = some 0 := by kernel_rfl
theorem Tryz.tLet : (Tryz.prog.globals[0]?).map (·.type) = some 85 := by kernel_rfl
theorem Tryz.cells6 : Tryz.prog.cellsOf 85 = 6 := by kernel_rfl
theorem Tryz.cellsStr : Tryz.prog.cellsOf 9 = 1 := by kernel_rfl
def letL : List (List UInt8) := [[97], [98], [99], [0], [255], [109]]

theorem cells_of_strs {H : Type} {enc : TypeId × Value → H} {P : Program} {w : World} {base : Nat} {sp : Nat → Bool} {held : Bool} {fuel : Nat} {t e : TypeId} {n : Nat} {cs : List Value} {zs : List (List UInt8)} {p : List MemPlace}
    (ht : P.underlying t = some (.array n e)) (he : P.underlying e = some .string) (hce : P.cellsOf e = 1) (hct : P.cellsOf t = n)
    (h : DataW.trod enc P w base sp held fuel t cs = some (.agg (zs.map fun z => .lit (.string z)), p)) : ∀ (i : Nat) (z : List UInt8), zs[i]? = some z → ∃ s : ByteArray, s.data.toList = z ∧ cs[i]? = some (.string s) := by
  cases fuel with
  | zero => simp [DataW.trod] at h
  | succ fuel =>
    simp only [DataW.trod, ht, hce, hct, Nat.mul_one] at h
    split at h
    · rename_i hl
      obtain ⟨xs, hm, hx⟩ := Option.map_eq_some_iff.1 h
      have hxs : xs.map (·.1) = zs.map fun z => (DataW.lit (.string z) : DataW H) := by
        have := congrArg Prod.fst hx
        simpa using this
      have hxl : xs.length = n := by simpa using Lib.mapM_length hm
      have hzl : zs.length = n := by
        have := congrArg List.length hxs
        simp at this
        omega
      intro i z hz
      have hi : i < n := by have := (List.getElem?_eq_some_iff.1 hz).1; omega
      obtain ⟨b, hb, hf⟩ := Lib.mapM_at hm i i (by simp [hi])
      obtain ⟨s, hc, rfl, _⟩ := DataW.trod_string he hf
      have h1 : cs[i]? = some (.string s) := by
        have := congrArg (·[0]?) hc
        simpa [List.getElem?_take, List.getElem?_drop] using this
      have h2 : (xs.map (·.1))[i]? = some (DataW.lit (.string s.data.toList) : DataW H) := by simp [hb]
      rw [hxs] at h2
      simp only [List.getElem?_map, Option.map_eq_some_iff, DataW.lit.injEq, Lit.string.injEq] at h2
      obtain ⟨z', hz', hzz⟩ := h2
      have : z = z' := Option.some.inj (hz.symm.trans hz')
      exact ⟨s, by rw [this, hzz], h1⟩
    · cases h

theorem laid_let {H : Type} : (Rows.laid_skipgraph_skipgraphworld_letters : DataW H) = .agg (letL.map fun z => .lit (.string z)) := rfl
theorem letG_head {rest : List (String × DataW Unit)} {W : World} (h : laidMet Tryz.prog (("skipgraph/skipgraphworld.letters", .agg (letL.map fun z => .lit (.string z))) :: rest) W) : LetG W := by
  obtain ⟨ps, ⟨g', t', cs, fuel, p, q, hg', ht', hvar, hd, _, _⟩, _⟩ := h
  obtain rfl := Option.some.inj (Tryz.gLet.symm.trans hg')
  obtain rfl := Option.some.inj (Tryz.tLet.symm.trans ht')
  intro j hj
  obtain ⟨z, hz⟩ : ∃ z, letL[j]? = some z := ⟨letL[j]'(by simp [letL]; omega), by simp⟩
  obtain ⟨s, h1, h2⟩ := cells_of_strs Tryz.underlying85 Tryz.underlying9 Tryz.cellsStr Tryz.cells6 hd j z hz
  refine ⟨s, ?_, ?_⟩
  · have hl : z.length = 1 := by
      have : ∀ j, j < 6 → (letL[j]?.getD []).length = 1 := by decide
      have := this j hj
      rw [hz] at this
      exact this
    have : s.data.toList.length = 1 := by rw [h1]; exact hl
    rw [Array.length_toList] at this
    exact this
  · rw [World.var?_cell Tryz.gLet hvar j]
    simpa using h2
end Go.Proofs.YtbnbjiddffihoaaGreatDoor

/- The letters, where they are second on the list of what is laid. -/
namespace Go.Proofs.YtbnbjiddffihoaaGreatDoor
open Go.RowKit

theorem letG_second {x : String × DataW Unit} {W : World} (h : laidMetH Tryz.prog [x, ("skipgraph/skipgraphworld.letters", Rows.laid_skipgraph_skipgraphworld_letters)] W)
    (hp : ([x, ("skipgraph/skipgraphworld.letters", Rows.laid_skipgraph_skipgraphworld_letters)].all fun x => x.2.handleName?.isNone) = true) (hx : decide (x.1 = "skipgraph/skipgraphworld.letters") = false) : LetG W := by
  rw [MakeChecks.laidMetH_plain _ _ _ hp, laid_let] at h
  have h2 := h.filter (fun y => decide (y.1 = "skipgraph/skipgraphworld.letters"))
  rw [List.filter_cons_of_neg (by rw [hx]; simp), List.filter_cons_of_pos (by simp), List.filter_nil] at h2
  exact letG_head h2
end Go.Proofs.YtbnbjiddffihoaaGreatDoor

/- How the arguments of a statement are read: slices as lists. -/
namespace Go.Proofs.YtbnbjiddffihoaaGreatDoor
open Go.ChangeShapes Go.WideShapes Go.ChangeAt Go.RowKit Go.Deep Go.Joins

theorem own : ownKnob Tryz.prog.godebug = none := by kernel_rfl
theorem laidOut : laidOutB Tryz.prog = true := by kernel_rfl

section
variable {H : Type} {enc : TypeId × Value → H} {P : Program} {w : World} {base : Nat} {spare : Nat → Bool} {held : Bool}

theorem addr_lit {a : Addr} {v : Value} {w : World} (h : w.cell? (a.add 0) = some v) : a = ⟨a.block, a.off, none⟩ := by
  obtain ⟨b, o, s⟩ := a
  have : s = none := by simpa [Addr.add] using World.cell?_spot h
  subst this; rfl

theorem rd_ints {t e : TypeId} {k : IntKind} {v : Value} {d : DataW H} {p : List MemPlace} {r : Reach} {b0 : Nat} (ht : P.underlying t = some (.slice e)) (he : P.underlying e = some (.int k)) (hC : P.cellsOf e = 1)
    (hv : Value.okWide P w r b0 t v) (h : DataW.Trod enc P w base spare held t v d p) :
    ∃ a n c l, v = .slice a n c ∧ Rd 1 (fun x : Int => [Value.int k x]) (· < w.heap.size) w a n l ∧ n ≤ c ∧ c ≤ maxLen ∧ (∀ x ∈ l, (Lit.int k x).wf = true) ∧ (a = none → c = 0) := by
  obtain ⟨a0, len0, cap0, rfl⟩ := okWide_slice ht hv
  obtain ⟨fuel, hf⟩ := h
  rcases open_ints ht he hC hf with ⟨hcs, _⟩ | ⟨x, l, c, zs, hcs, _, hl, hm, hz, _, hcell, hwz⟩
  · simp [Value.cells] at hcs
    obtain ⟨rfl, rfl, rfl⟩ := hcs
    exact ⟨none, 0, 0, [], rfl, Rd.nil _ _ _ _ _, by omega, by unfold maxLen; omega, by simp, fun _ => rfl⟩
  · simp [Value.cells] at hcs
    obtain ⟨rfl, rfl, rfl⟩ := hcs
    have hz' : len0 ≤ zs.length := by rw [hz]; split <;> omega
    refine ⟨_, len0, cap0, zs.take len0, rfl, ⟨by simp; omega, ?_⟩, hl, hm, fun y hy => hwz y (List.mem_of_mem_take hy), fun h => by cases h⟩
    rcases Nat.eq_zero_or_pos len0 with h0 | h0
    · exact .inl h0
    · have hx := addr_lit (hcell 0 (by omega))
      refine .inr ⟨x.block, x.off, by rw [← hx], ?_, fun j y hj c u hu => ?_⟩
      · have := World.block_lt_of_cell? w _ (hcell 0 (by omega))
        rw [hx] at this
        simpa [Addr.add] using this
      · have hj' : j < len0 := by
          have := (List.getElem?_eq_some_iff.1 hj).1
          simp at this; omega
        have hy : zs.getD j 0 = y := by
          rw [List.getElem?_take, if_pos hj'] at hj
          simp [List.getD, hj]
        have hc := hcell j (by omega)
        rw [hx, Addr.add_lit, hy] at hc
        rcases c with _ | c
        · simp at hu; subst hu; simpa using hc
        · simp at hu

theorem open_slice_fields {t e : TypeId} {fs : Array Field} {fuel : Nat} {cs : List Value} {x : DataW H × List MemPlace} (ht : P.underlying t = some (.slice e)) (he : P.underlying e = some (.struct fs))
    (hone : oneCellFields P fs = true) (hC : P.cellsOf e = fs.size) (h : DataW.trod enc P w base spare held fuel t cs = some x) :
    (cs = [.slice none 0 0] ∧ x = (.nil, [])) ∨
    ∃ (a : Addr) (len cap m : Nat), cs = [.slice (some a) len cap] ∧ len ≤ cap ∧ cap ≤ maxLen ∧ m = (if spare a.block then cap else len) ∧
      ∀ i, i < m → ∃ (n : Nat), ∀ (j : Nat) (f : Field), fs[j]? = some f → ∃ (v : Value) (y : DataW H × List MemPlace), w.cell? (a.add (i * fs.size + j)) = some v ∧ DataW.trod enc P w base spare held n f.type [v] = some y := by
  rcases open_slice ht h with h0 | ⟨a, len, cap, m, n, D, Pl, hcs, hb, hl, hm, hmm, hx, hi⟩
  · exact .inl h0
  · refine .inr ⟨a, len, cap, m, hcs, hl, hm, hmm, fun i him => ?_⟩
    obtain ⟨cs', hc, ht'⟩ := hi i him
    rw [hC] at hc
    obtain ⟨ys, n', hn', hy, hlen, hyl, hf⟩ := DataW.trod_struct he ht'
    obtain ⟨_, hcl, hat⟩ := World.cells?_some hc
    refine ⟨n', fun j f hj => ?_⟩
    obtain ⟨ho, hk⟩ := hone_of hone j f hj
    have hjl : j < fs.size := (Array.getElem?_eq_some_iff.1 hj).1
    have hcell := hat j hjl
    have hv : cs'[j]? = some (cs'[j]'(by omega)) := List.getElem?_eq_getElem (by omega)
    have h1 := hf j f hj
    rw [ho, hk] at h1
    have hone' : (cs'.drop j).take 1 = [cs'[j]'(by omega)] := by
      rw [List.drop_eq_getElem_cons (by omega)]
      rfl
    rw [hone'] at h1
    have hys : ys[j]? = some (ys[j]'(by omega)) := List.getElem?_eq_getElem (by omega)
    refine ⟨_, _, ?_, h1.trans hys⟩
    rw [← Go.Deep.add_add, hcell, hv]

theorem list_of {α : Type} {p : Nat → α → Prop} : ∀ n, (∀ i, i < n → ∃ y, p i y) → ∃ l : List α, l.length = n ∧ ∀ (i : Nat) y, l[i]? = some y → p i y
  | 0, _ => ⟨[], rfl, by simp⟩
  | n + 1, h => by
    obtain ⟨l, hl, hp⟩ := list_of n (fun i hi => h i (by omega))
    obtain ⟨y, hy⟩ := h n (by omega)
    refine ⟨l ++ [y], by simp [hl], fun i z hz => ?_⟩
    rcases Nat.lt_or_ge i n with hi | hi
    · exact hp i z (by rwa [List.getElem?_append_left (by omega)] at hz)
    · rw [List.getElem?_append_right (by omega)] at hz
      have : i = n := by
        rcases Nat.eq_zero_or_pos (i - l.length) with h0 | h0
        · omega
        · rw [List.getElem?_eq_none (by simp; omega)] at hz; cases hz
      subst this
      simp [hl] at hz
      subst hz; exact hy

theorem rd_structs {α : Type} {k : Nat} {encS : α → List Value} {t e : TypeId} {fs : Array Field} {v : Value} {d : DataW H} {p : List MemPlace} {r : Reach} {b0 : Nat} (ht : P.underlying t = some (.slice e)) (he : P.underlying e = some (.struct fs))
    (hone : oneCellFields P fs = true) (hC : P.cellsOf e = fs.size) (hk : fs.size = k) (hk0 : 0 < k)
    (hv : Value.okWide P w r b0 t v) (h : DataW.Trod enc P w base spare held t v d p)
    (hel : ∀ (n : Nat) (cell : Nat → Option Value), (∀ (j : Nat) (f : Field), fs[j]? = some f → ∃ (v : Value) (y : DataW H × List MemPlace), cell j = some v ∧ DataW.trod enc P w base spare held n f.type [v] = some y) → ∃ y : α, ∀ c u, (encS y)[c]? = some u → cell c = some u) :
    ∃ a n c l, v = .slice a n c ∧ Rd k encS (· < w.heap.size) w a n l ∧ n ≤ c ∧ c ≤ maxLen ∧ (a = none → c = 0) := by
  subst hk
  obtain ⟨a0, len0, cap0, rfl⟩ := okWide_slice ht hv
  obtain ⟨fuel, hf⟩ := h
  rcases open_slice_fields ht he hone hC hf with ⟨hcs, _⟩ | ⟨x, len, cap, m, hcs, hl, hm, hmm, hi⟩
  · simp [Value.cells] at hcs
    obtain ⟨rfl, rfl, rfl⟩ := hcs
    exact ⟨none, 0, 0, [], rfl, Rd.nil _ _ _ _ _, by omega, by unfold maxLen; omega, fun _ => rfl⟩
  · simp [Value.cells] at hcs
    obtain ⟨rfl, rfl, rfl⟩ := hcs
    have hlm : len0 ≤ m := by rw [hmm]; split <;> omega
    obtain ⟨l, hll, hlp⟩ := list_of (p := fun i (y : α) => ∀ c u, (encS y)[c]? = some u → w.cell? (x.add (i * fs.size + c)) = some u) len0 (fun i hi' => by
      obtain ⟨n, hn⟩ := hi i (by omega)
      exact hel n (fun j => w.cell? (x.add (i * fs.size + j))) hn)
    refine ⟨_, len0, cap0, l, rfl, ⟨hll, ?_⟩, hl, hm, fun h => by cases h⟩
    rcases Nat.eq_zero_or_pos len0 with h0 | h0
    · exact .inl h0
    · obtain ⟨n, hn⟩ := hi 0 (by omega)
      obtain ⟨v0, _, hv0, _⟩ := hn 0 (fs[0]) (by simp)
      have hv0 : w.cell? (x.add 0) = some v0 := by simpa using hv0
      have hx := addr_lit hv0
      refine .inr ⟨x.block, x.off, by rw [← hx], ?_, fun j y hj c u hu => ?_⟩
      · have := World.block_lt_of_cell? w _ hv0
        rw [hx] at this
        simpa [Addr.add] using this
      · have := hlp j y hj c u hu
        rw [hx, Addr.add_lit] at this
        simpa [Nat.add_assoc] using this
end
end Go.Proofs.YtbnbjiddffihoaaGreatDoor

/- Slices of nodes among the arguments; the letters where they are second on the list of what is laid. -/
namespace Go.Proofs.YtbnbjiddffihoaaGreatDoor
open Go.RowKit

abbrev Nd32 := { y : Nd // y.word < 4294967296 }
def encN32 (y : Nd32) : List Value := encN y.1
theorem nodes_of {S : Nat → Prop} {w : World} {a : Option Addr} {n : Nat} {l : List Nd32} (h : Rd 3 encN32 S w a n l) : ∃ lb : List Nd, Rd 3 encN S w a n lb ∧ ∀ x ∈ lb, x.word < 4294967296 := by
  refine ⟨l.map Subtype.val, ⟨by rw [List.length_map]; exact h.1, ?_⟩, ?_⟩
  · rcases h.2 with h2 | ⟨x, o, e1, e2, e3⟩
    · exact .inl h2
    · refine .inr ⟨x, o, e1, e2, fun j y hj c u hu => ?_⟩
      rw [List.getElem?_map] at hj
      cases hl : l[j]? with
      | none => rw [hl] at hj; cases hj
      | some z =>
        rw [hl] at hj
        simp only [Option.map_some, Option.some.injEq] at hj
        subst hj
        exact e3 j z hl c u hu
  · intro x hx
    obtain ⟨y, _, rfl⟩ := List.mem_map.1 hx
    exact y.2
end Go.Proofs.YtbnbjiddffihoaaGreatDoor

/- Numbers as bytes, in plain Lean. -/
namespace Go.Proofs.YtbnbjiddffihoaaGreatDoor
open Go.RowKit

end Go.Proofs.YtbnbjiddffihoaaGreatDoor

/- Walks over AppendUint of the package wire and of its reference. -/
namespace Go.Proofs.YtbnbjiddffihoaaGreatDoor
open Go.RowKit

def encB (x : UInt8) : List Value := [.int .u8 x.toNat]
end Go.Proofs.YtbnbjiddffihoaaGreatDoor

/- Walks over Uint of the package wire and of its reference. -/
namespace Go.Proofs.YtbnbjiddffihoaaGreatDoor
open Go.RowKit

end Go.Proofs.YtbnbjiddffihoaaGreatDoor

/- Walks over the signed numbers of the package wire and of its reference. -/
namespace Go.Proofs.YtbnbjiddffihoaaGreatDoor
open Go.RowKit

end Go.Proofs.YtbnbjiddffihoaaGreatDoor

/- Walks over the strings of the package wire. -/
namespace Go.Proofs.YtbnbjiddffihoaaGreatDoor
open Go.RowKit

end Go.Proofs.YtbnbjiddffihoaaGreatDoor

/- Walks over the strings of the reference of the package wire. -/
namespace Go.Proofs.YtbnbjiddffihoaaGreatDoor
open Go.RowKit

end Go.Proofs.YtbnbjiddffihoaaGreatDoor

/- Bytes of the call's own as strings; a condition that is laid anew in a region that draws its order. -/
namespace Go.Proofs.YtbnbjiddffihoaaGreatDoor
open Go.RowKit

end Go.Proofs.YtbnbjiddffihoaaGreatDoor

/- EncodeNodes of the package wire and of its reference. -/
namespace Go.Proofs.YtbnbjiddffihoaaGreatDoor
open Go.RowKit

end Go.Proofs.YtbnbjiddffihoaaGreatDoor

/- Links of the tape. -/
namespace Go.Proofs.YtbnbjiddffihoaaGreatDoor
open Go.RowKit

end Go.Proofs.YtbnbjiddffihoaaGreatDoor

/- EncodeLinks of the package wire and of its reference. -/
namespace Go.Proofs.YtbnbjiddffihoaaGreatDoor
open Go.RowKit

end Go.Proofs.YtbnbjiddffihoaaGreatDoor

/- Lists of links among the arguments. -/
namespace Go.Proofs.YtbnbjiddffihoaaGreatDoor
open Go.ChangeShapes Go.WideShapes Go.ChangeAt Go.RowKit Go.Deep Go.Joins

section
variable {H : Type} {enc : TypeId × Value → H} {P : Program} {w : World} {base : Nat} {spare : Nat → Bool} {held : Bool}
end
end Go.Proofs.YtbnbjiddffihoaaGreatDoor

/- Lists of peers among the arguments. -/
namespace Go.Proofs.YtbnbjiddffihoaaGreatDoor
open Go.ChangeShapes Go.WideShapes Go.ChangeAt Go.RowKit Go.Deep Go.Joins

def PrIn (w : World) (p : Pr → Prop) := { q : PQ × Pr // PrV w q.1 q.2 ∧ p q.2 }
def encPrIn (w : World) (p : Pr → Prop) (q : PrIn w p) : List Value := encQ q.1.1
theorem peers_of {w : World} {p : Pr → Prop} {a : Option Addr} {n : Nat} {l : List (PrIn w p)} (h : Rd 5 (encPrIn w p) (· < w.heap.size) w a n l) : ∃ P : List Pr, PL w a n P ∧ ∀ x ∈ P, p x := by
  refine ⟨l.map (fun q => q.1.2), ⟨l.map (fun q => q.1.1), ⟨by rw [List.length_map]; exact h.1, ?_⟩, by rw [List.length_map]; exact h.1, fun j q x hq hx => ?_⟩, fun c hc => ?_⟩
  · rcases h.2 with h2 | ⟨x, o, e1, e2, e3⟩
    · exact .inl h2
    · refine .inr ⟨x, o, e1, e2, fun j y hj c u hu => ?_⟩
      rw [List.getElem?_map] at hj
      cases hl : l[j]? with
      | none => rw [hl] at hj; cases hj
      | some z =>
        rw [hl] at hj
        simp only [Option.map_some, Option.some.injEq] at hj
        subst hj
        exact e3 j z hl c u hu
  · rw [List.getElem?_map] at hq hx
    cases hl : l[j]? with
    | none => rw [hl] at hq; cases hq
    | some z =>
      rw [hl] at hq hx
      simp only [Option.map_some, Option.some.injEq] at hq hx
      subst hq hx
      exact z.2.1
  · obtain ⟨z, _, rfl⟩ := List.mem_map.1 hc
    exact z.2.2
end Go.Proofs.YtbnbjiddffihoaaGreatDoor

/- What a reading weighs (the Upto form): no list in it is longer. -/
namespace Go.Proofs.YtbnbjiddffihoaaGreatDoor
open Go.ChangeShapes Go.WideShapes Go.ChangeAt Go.RowKit Go.Deep Go.Joins

section
variable {H : Type} {enc : TypeId × Value → H} {P : Program} {w : World} {base : Nat} {spare : Nat → Bool} {held : Bool}
theorem bulk_pos (d : DataW H) : 1 ≤ Rows.uptoBulk d := by
  cases d with
  | lit l => cases l <;> simp [Rows.uptoBulk]
  | _ => simp [Rows.uptoBulk]
theorem bulk_len : ∀ ds : List (DataW H), ds.length ≤ Rows.uptoBulkAll ds
  | [] => Nat.zero_le _
  | d :: r => by
    have h1 := bulk_pos d
    have h2 := bulk_len r
    simp only [Rows.uptoBulkAll, List.length_cons]
    omega
theorem bulk_mem : ∀ {ds : List (DataW H)} {d : DataW H}, d ∈ ds → Rows.uptoBulk d ≤ Rows.uptoBulkAll ds
  | d :: r, x, h => by
    simp only [Rows.uptoBulkAll]
    rcases List.mem_cons.1 h with rfl | h
    · omega
    · have := bulk_mem h; omega
theorem open_slice_fields_b {t e : TypeId} {fs : Array Field} {fuel : Nat} {cs : List Value} {x : DataW H × List MemPlace} (ht : P.underlying t = some (.slice e)) (he : P.underlying e = some (.struct fs))
    (hone : oneCellFields P fs = true) (hC : P.cellsOf e = fs.size) (h : DataW.trod enc P w base spare held fuel t cs = some x) :
    (cs = [.slice none 0 0] ∧ x = (.nil, [])) ∨
    ∃ (a : Addr) (len cap m : Nat), cs = [.slice (some a) len cap] ∧ len ≤ cap ∧ cap ≤ maxLen ∧ m = (if spare a.block then cap else len) ∧ len ≤ Rows.uptoBulk x.1 ∧
      ∀ i, i < m → ∃ (n : Nat), ∀ (j : Nat) (f : Field), fs[j]? = some f → ∃ (v : Value) (y : DataW H × List MemPlace), w.cell? (a.add (i * fs.size + j)) = some v ∧ DataW.trod enc P w base spare held n f.type [v] = some y ∧ Rows.uptoBulk y.1 ≤ Rows.uptoBulk x.1 := by
  rcases open_slice ht h with h0 | ⟨a, len, cap, m, n, D, Pl, hcs, hb, hl, hm, hmm, hx, hi⟩
  · exact .inl h0
  · have hsl : len ≤ Rows.uptoBulk x.1 := by
      rw [hx]
      simp only [Rows.uptoBulk]
      have := bulk_len ((List.range len).map D)
      rw [List.length_map, List.length_range] at this
      omega
    have hlm : len ≤ m := by rw [hmm]; split <;> omega
    have hD : ∀ i, i < m → Rows.uptoBulk (D i) ≤ Rows.uptoBulk x.1 := fun i him => by
      rw [hx]
      simp only [Rows.uptoBulk]
      by_cases hil : i < len
      · have := bulk_mem (ds := (List.range len).map D) (d := D i) (List.mem_map.2 ⟨i, List.mem_range.2 hil, rfl⟩)
        omega
      · have := bulk_mem (ds := (List.range (m - len)).map fun j => D (len + j)) (d := D i) (List.mem_map.2 ⟨i - len, List.mem_range.2 (by omega), by rw [show len + (i - len) = i by omega]⟩)
        omega
    refine .inr ⟨a, len, cap, m, hcs, hl, hm, hmm, hsl, fun i him => ?_⟩
    obtain ⟨cs', hc, ht'⟩ := hi i him
    rw [hC] at hc
    obtain ⟨ys, n', hn', hy, hlen, hyl, hf⟩ := DataW.trod_struct he ht'
    obtain ⟨_, hcl, hat⟩ := World.cells?_some hc
    refine ⟨n', fun j f hj => ?_⟩
    obtain ⟨ho, hk⟩ := hone_of hone j f hj
    have hjl : j < fs.size := (Array.getElem?_eq_some_iff.1 hj).1
    have hcell := hat j hjl
    have hv : cs'[j]? = some (cs'[j]'(by omega)) := List.getElem?_eq_getElem (by omega)
    have h1 := hf j f hj
    rw [ho, hk] at h1
    have hone' : (cs'.drop j).take 1 = [cs'[j]'(by omega)] := by
      rw [List.drop_eq_getElem_cons (by omega)]
      rfl
    rw [hone'] at h1
    have hys : ys[j]? = some (ys[j]'(by omega)) := List.getElem?_eq_getElem (by omega)
    refine ⟨_, _, ?_, h1.trans hys, ?_⟩
    · rw [← Go.Deep.add_add, hcell, hv]
    · refine Nat.le_trans ?_ (hD i him)
      have e1 : D i = .agg (ys.map (·.1)) := congrArg Prod.fst hy
      rw [e1]
      simp only [Rows.uptoBulk]
      have := bulk_mem (ds := ys.map (·.1)) (d := (ys[j]'(by omega)).1) (List.mem_map.2 ⟨_, List.getElem_mem _, rfl⟩)
      omega
theorem rd_from {α : Type} {encS : α → List Value} {fs : Array Field} {x : Addr} {len m : Nat} (hk0 : 0 < fs.size) (hlm : len ≤ m) {Q : Value → TypeId → Nat → Prop}
    (hi : ∀ i, i < m → ∃ (n : Nat), ∀ (j : Nat) (f : Field), fs[j]? = some f → ∃ (v : Value), w.cell? (x.add (i * fs.size + j)) = some v ∧ Q v f.type n)
    (hel : ∀ (n : Nat) (cell : Nat → Option Value), (∀ (j : Nat) (f : Field), fs[j]? = some f → ∃ (v : Value), cell j = some v ∧ Q v f.type n) → ∃ y : α, ∀ c u, (encS y)[c]? = some u → cell c = some u) :
    ∃ l, Rd fs.size encS (· < w.heap.size) w (some x) len l := by
  obtain ⟨l, hll, hlp⟩ := list_of (p := fun i (y : α) => ∀ c u, (encS y)[c]? = some u → w.cell? (x.add (i * fs.size + c)) = some u) len (fun i hi' => by
    obtain ⟨n, hn⟩ := hi i (by omega)
    exact hel n (fun j => w.cell? (x.add (i * fs.size + j))) hn)
  refine ⟨l, hll, ?_⟩
  rcases Nat.eq_zero_or_pos len with h0 | h0
  · exact .inl h0
  · obtain ⟨n, hn⟩ := hi 0 (by omega)
    obtain ⟨v0, hv0, _⟩ := hn 0 (fs[0]) (by simp)
    have hv0 : w.cell? (x.add 0) = some v0 := by simpa using hv0
    have hx := addr_lit hv0
    refine .inr ⟨x.block, x.off, by rw [← hx], ?_, fun j y hj c u hu => ?_⟩
    · have := World.block_lt_of_cell? w _ hv0
      rw [hx] at this
      simpa [Addr.add] using this
    · have := hlp j y hj c u hu
      rw [hx, Addr.add_lit] at this
      simpa [Nat.add_assoc] using this
theorem rd_structs_b {α : Type} {k n0 M : Nat} {encS : α → List Value} {t e : TypeId} {fs : Array Field} {v : Value} {y0 : DataW H × List MemPlace} (ht : P.underlying t = some (.slice e)) (he : P.underlying e = some (.struct fs))
    (hone : oneCellFields P fs = true) (hC : P.cellsOf e = fs.size) (hk : fs.size = k) (hk0 : 0 < k) (hf : DataW.trod enc P w base spare held n0 t [v] = some y0) (hM : Rows.uptoBulk y0.1 ≤ M)
    (hel : ∀ (n : Nat) (cell : Nat → Option Value), (∀ (j : Nat) (f : Field), fs[j]? = some f → ∃ (v : Value), cell j = some v ∧ ∃ y : DataW H × List MemPlace, DataW.trod enc P w base spare held n f.type [v] = some y ∧ Rows.uptoBulk y.1 ≤ M) → ∃ y : α, ∀ c u, (encS y)[c]? = some u → cell c = some u) :
    ∃ a n c l, v = .slice a n c ∧ Rd k encS (· < w.heap.size) w a n l ∧ n ≤ c ∧ c ≤ maxLen ∧ n ≤ M := by
  subst hk
  rcases open_slice_fields_b ht he hone hC hf with ⟨hcs, _⟩ | ⟨x, len, cap, m, hcs, hl, hm, hmm, hsl, hi⟩
  · simp at hcs
    subst hcs
    exact ⟨none, 0, 0, [], rfl, Rd.nil _ _ _ _ _, by omega, by unfold maxLen; omega, Nat.zero_le _⟩
  · simp at hcs
    subst hcs
    have hlm : len ≤ m := by rw [hmm]; split <;> omega
    obtain ⟨l, hr⟩ := rd_from (w := w) (encS := encS) (fs := fs) (x := x) (len := len) (m := m) hk0 hlm (Q := fun v t n => ∃ y : DataW H × List MemPlace, DataW.trod enc P w base spare held n t [v] = some y ∧ Rows.uptoBulk y.1 ≤ M)
      (fun i him => by
        obtain ⟨n, hn⟩ := hi i him
        exact ⟨n, fun j f hj => by
          obtain ⟨v, y, h1, h2, h3⟩ := hn j f hj
          exact ⟨v, h1, y, h2, Nat.le_trans h3 hM⟩⟩) hel
    exact ⟨_, len, cap, l, rfl, hr, hl, hm, Nat.le_trans hsl hM⟩
theorem rd_ints_b {n0 M : Nat} {t e : TypeId} {k : IntKind} {v : Value} {y0 : DataW H × List MemPlace} (ht : P.underlying t = some (.slice e)) (he : P.underlying e = some (.int k)) (hC : P.cellsOf e = 1)
    (hf : DataW.trod enc P w base spare held n0 t [v] = some y0) (hM : Rows.uptoBulk y0.1 ≤ M) :
    ∃ a n c l, v = .slice a n c ∧ Rd 1 (fun x : Int => [Value.int k x]) (· < w.heap.size) w a n l ∧ n ≤ c ∧ c ≤ maxLen ∧ n ≤ M ∧ ∀ x ∈ l, (Lit.int k x).wf = true := by
  have hb : ∀ a len cap, v = .slice (some a) len cap → len ≤ M := by
    rcases open_slice ht hf with ⟨hcs, _⟩ | ⟨a, len, cap, m, n, D, Pl, hcs, _, hl, hm, hmm, hx, _⟩
    · intro a len cap hv
      subst hv
      simp at hcs
    · intro a' len' cap' hv
      subst hv
      simp at hcs
      obtain ⟨rfl, rfl, rfl⟩ := hcs
      refine Nat.le_trans ?_ hM
      rw [hx]
      simp only [Rows.uptoBulk]
      have := bulk_len ((List.range len').map D)
      rw [List.length_map, List.length_range] at this
      omega
  rcases open_ints ht he hC hf with ⟨hcs, _⟩ | ⟨x, l, c, zs, hcs, _, hl, hm, hz, _, hcell, hwz⟩
  · simp at hcs
    subst hcs
    exact ⟨none, 0, 0, [], rfl, Rd.nil _ _ _ _ _, by omega, by unfold maxLen; omega, Nat.zero_le _, by simp⟩
  · simp at hcs
    subst hcs
    have hz' : l ≤ zs.length := by rw [hz]; split <;> omega
    refine ⟨_, l, c, zs.take l, rfl, ⟨by simp; omega, ?_⟩, hl, hm, hb _ _ _ rfl, fun y hy => hwz y (List.mem_of_mem_take hy)⟩
    rcases Nat.eq_zero_or_pos l with h0 | h0
    · exact .inl h0
    · have hx := addr_lit (hcell 0 (by omega))
      refine .inr ⟨x.block, x.off, by rw [← hx], ?_, fun j y hj d u hu => ?_⟩
      · have := World.block_lt_of_cell? w _ (hcell 0 (by omega))
        rw [hx] at this
        simpa [Addr.add] using this
      · have hj' : j < l := by
          have := (List.getElem?_eq_some_iff.1 hj).1
          simp at this; omega
        have hy : zs.getD j 0 = y := by
          rw [List.getElem?_take, if_pos hj'] at hj
          simp [List.getD, hj]
        have hc := hcell j (by omega)
        rw [hx, Addr.add_lit, hy] at hc
        rcases d with _ | d
        · simp at hu; subst hu; simpa using hc
        · simp at hu
end
end Go.Proofs.YtbnbjiddffihoaaGreatDoor

/- A list of peers among the arguments, within a weight. -/
namespace Go.Proofs.YtbnbjiddffihoaaGreatDoor
open Go.ChangeShapes Go.WideShapes Go.ChangeAt Go.RowKit Go.Deep Go.Joins

theorem Tryz.cellsIntQ : Tryz.prog.cellsOf 3 = 1 := by kernel_rfl
theorem Tryz.cellsNearQ : Tryz.prog.cellsOf 49 = 4 := by kernel_rfl
theorem Tryz.cellsPeerQ : Tryz.prog.cellsOf 45 = 5 := by kernel_rfl
def WtP (M : Nat) (p : Pr) : Prop := p.known.length ≤ M ∧ p.near.length ≤ M
set_option maxHeartbeats 1000000 in
theorem rd_peers_b {H : Type} {enc : TypeId × Value → H} {w : World} {base : Nat} {spare : Nat → Bool} {held : Bool} {n0 M : Nat} {v : Value} {y0 : DataW H × List MemPlace}
    (hf : DataW.trod enc Tryz.prog w base spare held n0 24 [v] = some y0) (hM : Rows.uptoBulk y0.1 ≤ M) :
    ∃ a n c P, v = .slice a n c ∧ PL w a n P ∧ n ≤ c ∧ c ≤ maxLen ∧ ∀ p ∈ P, WtP M p := by
  obtain ⟨a, n, c, l, rfl, rd, hc, hm, _⟩ := rd_structs_b (encS := encPrIn w (WtP M)) (k := 5) (M := M) Tryz.underlying24 Tryz.underlying45 (by kernel_rfl) Tryz.cellsPeerQ rfl (by omega) hf hM
    (fun n cell hf => by
      obtain ⟨v0, c0, y0, t0, _⟩ := hf 0 _ rfl
      obtain ⟨v1, c1, y1, t1, m1⟩ := hf 1 _ rfl
      obtain ⟨v2, c2, y2, t2, _⟩ := hf 2 _ rfl
      obtain ⟨v3, c3, y3, t3, _⟩ := hf 3 _ rfl
      obtain ⟨v4, c4, y4, t4, m4⟩ := hf 4 _ rfl
      obtain ⟨i0, e0, rfl, _⟩ := DataW.trod_int Tryz.underlying3 t0
      obtain ⟨i2, e2, rfl, _⟩ := DataW.trod_int Tryz.underlying3 t2
      obtain ⟨i3, e3, rfl, _⟩ := DataW.trod_int Tryz.underlying3 t3
      simp at e0 e2 e3
      subst e0 e2 e3
      obtain ⟨a1, n1, k1, l1, rfl, r1, _, _, h1, _⟩ := rd_ints_b (M := M) Tryz.underlying22 Tryz.underlying3 Tryz.cellsIntQ t1 m1
      obtain ⟨a4, n4, k4, l4, rfl, r4, _, _, h4⟩ := rd_structs_b (encS := encNr) (k := 4) (M := M) Tryz.underlying43 Tryz.underlying49 (by kernel_rfl) Tryz.cellsNearQ rfl (by omega) t4 m4
        (fun n cell hf => by
          obtain ⟨v0, c0, y0, t0, _⟩ := hf 0 _ rfl
          obtain ⟨v1, c1, y1, t1, _⟩ := hf 1 _ rfl
          obtain ⟨v2, c2, y2, t2, _⟩ := hf 2 _ rfl
          obtain ⟨v3, c3, y3, t3, _⟩ := hf 3 _ rfl
          obtain ⟨i0, e0, rfl, _⟩ := DataW.trod_int Tryz.underlying3 t0
          obtain ⟨i1, e1, rfl, _⟩ := DataW.trod_int Tryz.underlying3 t1
          obtain ⟨i2, e2, rfl, _⟩ := DataW.trod_int Tryz.underlying3 t2
          obtain ⟨i3, e3, rfl, _⟩ := DataW.trod_int Tryz.underlying3 t3
          simp at e0 e1 e2 e3
          subst e0 e1 e2 e3
          refine ⟨((i0, i1, i2, i3) : Nr), fun c u hu => ?_⟩
          rcases c with _ | _ | _ | _ | c
          · simp [encNr] at hu; subst hu; exact c0
          · simp [encNr] at hu; subst hu; exact c1
          · simp [encNr] at hu; subst hu; exact c2
          · simp [encNr] at hu; subst hu; exact c3
          · simp [encNr] at hu)
      have q1 : l1.length = n1 := r1.1
      have q4 : l4.length = n4 := r4.1
      refine ⟨⟨(((i0, i2, i3), (a1, n1, k1), (a4, n4, k4)), ⟨i0, i2, i3, l1, l4⟩), ⟨rfl, r1, r4⟩, by show l1.length ≤ M; omega, by show l4.length ≤ M; omega⟩, fun c u hu => ?_⟩
      rcases c with _ | _ | _ | _ | _ | c
      · simp [encPrIn, encQ] at hu; subst hu; exact c0
      · simp [encPrIn, encQ, Hdr.val] at hu; subst hu; exact c1
      · simp [encPrIn, encQ] at hu; subst hu; exact c2
      · simp [encPrIn, encQ] at hu; subst hu; exact c3
      · simp [encPrIn, encQ, Hdr.val] at hu; subst hu; exact c4
      · simp [encPrIn, encQ] at hu)
  obtain ⟨P, hP, hw⟩ := peers_of rd
  exact ⟨a, n, c, P, rfl, hP, hc, hm, hw⟩
end Go.Proofs.YtbnbjiddffihoaaGreatDoor

/-
  LinearRounds returns true for every list of numbers, every list of nodes, every list of peers and every number, and leaves its arguments as they were.
  Condition: the table of math/bits and the letters of the keys are as the program text lays them (tied by the card).
-/
namespace Go.Proofs.YtbnbjiddffihoaaGreatDoor
open Go.ChangeShapes Go.WideShapes Go.ChangeAt Go.RowKit Go.Deep Go.Joins
open Go.ChangeMaps (open_string shut_string)
set_option linter.unusedVariables false
theorem Tryz.cellsInt : Tryz.prog.cellsOf 3 = 1 := by kernel_rfl
theorem Tryz.cellsNode : Tryz.prog.cellsOf 57 = 3 := by kernel_rfl

set_option maxRecDepth 100000 in
set_option maxHeartbeats 1000000 in
theorem linearRounds_lifted (os : Os) (started : os.Started) (H : Type) (enc : TypeId × Value → H) :
    ReturnsInHanded {} Tryz.checked os 3 .any (fun w args => (Rows.linearRoundsSpec.pre enc Tryz.prog Tryz.f3 [] false w args ∧ laidMetH Tryz.prog Rows.linearRoundsRow.laid w) ∧ sizedMet enc Tryz.prog Tryz.f3 (OpenSpec.ofChange Rows.linearRoundsSpec) false w args)
      (Rows.linearRoundsSpec.post enc Tryz.prog Tryz.f3 false true false false) := by
  refine returnsInHanded_of_change_and (C := Tryz.checked) (X := fun w _ => laidMetH Tryz.prog Rows.linearRoundsRow.laid w) (fun _ _ _ hh h => h.of_heap hh) own started (by kernel_rfl) Tryz.func3
    (ChangeSpec.witness_shaped (enc := enc) (C := Tryz.checked) (os := os) (X := fun w _ => laidMetH Tryz.prog Rows.linearRoundsRow.laid w) false (World.doorLaid Tryz.prog 400 os) #[.slice none 0 0, .slice none 0 0, .slice none 0 0, .int .i64 0] 8 rfl (World.shaped_of_RefB (by kernel_rfl) (by kernel_rfl)) (by kernel_rfl) (by kernel_rfl) (by kernel_rfl) (laidMetH_of_parts3 (fuel := 8) (laidMet_of_run' 8 (by kernel_rfl) (by kernel_rfl)) (by kernel_rfl) (by kernel_rfl))) ?_
  intro W base args ds gs before hval0 hW _ _ hL _
  have hval : ∀ (j : Nat) t v, Tryz.f3.params[j]? = some t → args[j]? = some v → Value.okWide Tryz.prog W .any base t v := hval0
  have hW' := hW
  obtain ⟨p, q, hA0, hV, rfl, hfz, hnd⟩ := hW
  have hA : DataW.TrodAll enc Tryz.prog W 0 (fun _ => true) true Tryz.f3.params.toList args.toList ds p := hA0
  rw [Tryz.params3] at hA hval
  obtain ⟨v0, vs0, d0, ds0, p0, q0, hargs, rfl, rfl, h0, r0⟩ := trodAll_cons hA
  obtain ⟨v1, vs1, d1, ds1, p1, q1, rfl, rfl, rfl, h1, r1⟩ := trodAll_cons r0
  obtain ⟨v2, vs2, d2, ds2, p2, q2, rfl, rfl, rfl, h2, r2⟩ := trodAll_cons r1
  obtain ⟨v3, vs3, d3, ds3, p3, q3, rfl, rfl, rfl, h3, r3⟩ := trodAll_cons r2
  obtain ⟨rfl, rfl, rfl⟩ := trodAll_nil r3
  obtain rfl : args = #[v0, v1, v2, v3] := by cases args; simp_all
  obtain ⟨rfl, rfl⟩ := trodVars_none hV
  have k0 := h0
  have lt0 : ∀ x ∈ p0, x.block < W.heap.size := by obtain ⟨m, hm⟩ := k0; exact DataW.trod_lt m _ _ _ hm
  have k1 := h1
  have lt1 : ∀ x ∈ p1, x.block < W.heap.size := by obtain ⟨m, hm⟩ := k1; exact DataW.trod_lt m _ _ _ hm
  have k2 := h2
  have lt2 : ∀ x ∈ p2, x.block < W.heap.size := by obtain ⟨m, hm⟩ := k2; exact DataW.trod_lt m _ _ _ hm
  have k3 := h3
  have lt3 : ∀ x ∈ p3, x.block < W.heap.size := by obtain ⟨m, hm⟩ := k3; exact DataW.trod_lt m _ _ _ hm
  obtain ⟨A0, n0, cap0, l0, rfl, rd0, hc0, hm0, wf0, nl0⟩ := rd_ints Tryz.underlying22 Tryz.underlying3 Tryz.cellsInt (hval 0 22 v0 rfl rfl) h0
  obtain ⟨A1, n1, cap1, l1s, rfl, rd1s, hc1, hm1, nl1⟩ := rd_structs (encS := encN32) (k := 3) Tryz.underlying23 Tryz.underlying57 (by kernel_rfl) Tryz.cellsNode rfl (by omega) (hval 1 23 v1 rfl rfl) h1
    (fun n cell hf => by
      obtain ⟨v, y, hc, ht⟩ := hf 0 _ rfl
      obtain ⟨v', y', hc', ht'⟩ := hf 1 _ rfl
      obtain ⟨v'', y'', hc'', ht''⟩ := hf 2 _ rfl
      obtain ⟨a, e0, rfl, _⟩ := DataW.trod_int Tryz.underlying3 ht
      obtain ⟨s, e1, rfl, _⟩ := DataW.trod_string Tryz.underlying9 ht'
      obtain ⟨m, e2, rfl, wf⟩ := DataW.trod_int Tryz.underlying54 ht''
      simp at e0 e1 e2
      subst e0 e1 e2
      have hb := bounds_u32 wf
      obtain ⟨m, rfl⟩ := Int.eq_ofNat_of_zero_le hb.1
      refine ⟨⟨⟨a, s, m⟩, by show m < 4294967296; omega⟩, fun c u hu => ?_⟩
      rcases c with _ | _ | _ | c
      · simp [encN32, encN] at hu; subst hu; exact hc
      · simp [encN32, encN] at hu; subst hu; exact hc'
      · simp [encN32, encN] at hu; subst hu; exact hc''
      · simp [encN32, encN] at hu)
  obtain ⟨l1, rd1, wn1⟩ := nodes_of rd1s
  obtain ⟨mp2, hp2⟩ := h2
  obtain ⟨xa2, xl2, xc2, rfl⟩ := okWide_slice Tryz.underlying24 (hval 2 24 v2 rfl rfl)
  have hp2' : DataW.trod enc Tryz.prog W 0 (fun _ => true) true mp2 24 [.slice xa2 xl2 xc2] = some (d2, p2) := hp2
  obtain ⟨A2, n2, cap2, l2, hpe2, rd2, hc2, hm2, wl2⟩ := rd_peers_b hp2' (Nat.le_refl _)
  injection hpe2 with hpa2 hpb2 hpc2
  replace hpa2 := hpa2.symm
  replace hpb2 := hpb2.symm
  replace hpc2 := hpc2.symm
  subst hpa2 hpb2 hpc2
  obtain ⟨a3, rfl, rfl, rfl, wa3⟩ := open_int Tryz.underlying3 (hval 3 3 v3 rfl rfl) h3
  clear hA0 hval0
  have hT : TabG W := tabG_of hL (by kernel_rfl)
  have hL2 : LetG W := letG_second hL (by kernel_rfl) (by kernel_rfl)
  refine (linearrounds_walk A0 n0 cap0 l0 A1 n1 cap1 l1 A2 n2 cap2 l2 a3 W rd0 hc0 hm0 rd1 hc1 hm1 wn1 rd2 hT hL2).mono fun e W' ⟨he, hch⟩ => ?_
  have bel : Below W.heap.size W W' := hch.below (fun _ h => h)
  subst he
  exact ⟨_, rfl, _, _, _, [], _, [], hW', trodAll_mk1 (shut_bool Tryz.underlying4 _), (trodAll_cons_mk (Below.trod laidOut (by kernel_rfl) (of_decide_eq_true (by kernel_rfl)) k0 bel lt0) (trodAll_cons_mk (Below.trod laidOut (by kernel_rfl) (of_decide_eq_true (by kernel_rfl)) k1 bel lt1) (trodAll_cons_mk (Below.trod laidOut (by kernel_rfl) (of_decide_eq_true (by kernel_rfl)) k2 bel lt2) (trodAll_cons_mk (Below.trod laidOut (by kernel_rfl) (of_decide_eq_true (by kernel_rfl)) k3 bel lt3) trodAll_mk0)))), rfl, bel.frame _, fun h => by cases h⟩

theorem linearRounds_over : Rows.linearRoundsRow.holds Tryz.pinned (OpenSpec.ofChange Rows.linearRoundsSpec) :=
  OpenClaim.holds_of_wide 3 Tryz.f3 rfl rfl rfl rfl rfl rfl rfl ⟨rfl, rfl, rfl, rfl, rfl⟩ rfl rfl rfl rfl rfl (by kernel_rfl) Tryz.func3 (by kernel_rfl)
    (of_decide_eq_true (by kernel_rfl)) (by unfold Func.isWrapper; first | (rw [if_pos (by decide +kernel)]; kernel_rfl) | (rw [if_neg (by decide +kernel)]; exact ⟨rfl, rfl⟩))
    (fun os started H enc _ => linearRounds_lifted os started H enc)

theorem LinearRounds_holds : Rows.LinearRoundsCardSaid :=
  Claim7.holds_tied_plain_at .later [] [.data, .data] true (true, "fa916daaffacb3e24c7be19b08443b31e2338d23d8ecfcb6d713dd40f61712c1") false
    linearRounds_over (fun _ h => by cases h) (by kernel_rfl) (fun _ h => by cases h) linearRounds_row_tie rfl ⟨rfl, rfl⟩ (by kernel_rfl) rfl
    (fun f fn hf hfn => by
      obtain rfl : f = 3 := Option.some.inj ((show Tryz.prog.funcNamed "skipgraph/skipgraphlaw16.LinearRounds" = some 3 by kernel_rfl).symm.trans hf) |>.symm
      obtain rfl : fn = Tryz.f3 := (Option.some.inj (Tryz.func3.symm.trans hfn)).symm
      exact ⟨by kernel_rfl, fun j t ht => by
        rw [Tryz.params3] at ht
        have hm : t ∈ [22, 23, 24, 3] := by simpa using Array.mem_of_getElem? ht
        have hall : ([22, 23, 24, 3].all fun u => !Tryz.prog.wantsStandIn u) = true := by kernel_rfl
        exact (show Tryz.prog.wantsStandIn t = false by simpa using List.all_eq_true.1 hall t hm)⟩)
    (by kernel_rfl)
#print axioms LinearRounds_holds
end Go.Proofs.YtbnbjiddffihoaaGreatDoor
