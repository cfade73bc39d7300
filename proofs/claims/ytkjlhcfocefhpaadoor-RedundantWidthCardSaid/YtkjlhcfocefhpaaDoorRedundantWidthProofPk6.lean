/- Texts for the statement RedundantWidthProof, part 6 of 6: Sane14, TSome, TPe, RdGa, TPs, RdSu, RdWi, Laid4, LaidL, Laid2, Open, RedundantWidthProof. -/
import Derived.BigQuiet
import Derived.Test.YtkjlhcfocefhpaaDoorTie
import Derived.Test.YtkjlhcfocefhpaaDoorCards
import Derived.Lib.LaidTab
import Derived.Lib.LaidU8
import Derived.LaidMore
import Derived.Stop.Joined
import Derived.SevenTiedAt
import Derived.ChangeArms
import Derived.LaidSub
import Derived.Test.YtkjlhcfocefhpaaDoorRows
import Derived.ProofKit
import Derived.OpenShut
import Derived.ShutString
import Derived.ChangeOld
import Derived.Lib.SmallJoins
import Derived.Deep.Slices
import Derived.Deep.Fields
import Derived.ChangeSame
import Derived.Test.YtkjlhcfocefhpaaDoorRedundantWidthProofPk1
import Derived.Test.YtkjlhcfocefhpaaDoorRedundantWidthProofPk2
import Derived.Test.YtkjlhcfocefhpaaDoorRedundantWidthProofPk3
import Derived.Test.YtkjlhcfocefhpaaDoorRedundantWidthProofPk4
import Derived.Test.YtkjlhcfocefhpaaDoorRedundantWidthProofPk5

/- The sanity check of chapter 14 (printed by gen_l14.py). -/
namespace Go.Proofs.YtkjlhcfocefhpaaDoor
open Go.RowKit

def fiveN : List Nd := [⟨1, ⟨#[97]⟩, 0⟩, ⟨2, ⟨#[98]⟩, 1⟩, ⟨3, ⟨#[99]⟩, 2⟩, ⟨4, ⟨#[100]⟩, 3⟩, ⟨5, ⟨#[101]⟩, 4⟩]
theorem five_con : contactsN fiveN 3 2 0 = [1, 2, 4, 5] := by decide +kernel
theorem five_len : (peersN fiveN 2 1).length = 5 := by decide +kernel
theorem five_gap : gapN fiveN [2, 3] = 2 := by decide +kernel
theorem five_conn : connB fiveN (peersN fiveN 2 1) = true := by decide +kernel
theorem five_crash : (crashN (peersN fiveN 2 1) [1]).length = 4 := by decide +kernel
theorem fiveW : ∀ x ∈ fiveN, x.word < 4294967296 := by decide +kernel
theorem five_all : (peersN fiveN 2 1).all (fun p => decide (p.known.length ≤ 1000) && decide (p.near.length ≤ 1000)) = true := by decide +kernel
theorem five_small2 : SmallP (peersN fiveN 2 1) := fun p hp => by
  have h := List.all_eq_true.1 five_all p hp
  simp only [Bool.and_eq_true, decide_eq_true_eq] at h
  omega
theorem five_small : ∀ p ∈ peersN fiveN 2 1, p.known.length ≤ 4000000000000000000 ∧ p.near.length ≤ 4000000000000000000 := fun p hp => by have := five_small2 p hp; omega
theorem five_at2 : ((peersN fiveN 2 1)[2]?).map (fun p => (p.left, p.near.length, (p.near[0]?).map fun x => x.1)) = some (2, 1, some 1) := by decide +kernel
theorem five_two {y : Pr} (hy : (peersN fiveN 2 1)[2]? = some y) : y.left = 2 ∧ y.near.length = 1 ∧ ∃ z : Nr, y.near[0]? = some z ∧ z.1 = 1 := by
  have h := five_at2
  rw [hy] at h
  simp only [Option.map_some, Option.some.injEq, Prod.mk.injEq] at h
  obtain ⟨h1, h2, h3⟩ := h
  refine ⟨h1, h2, ?_⟩
  cases hz : y.near[0]? with
  | none => rw [hz] at h3; cases h3
  | some z => rw [hz] at h3; exact ⟨z, rfl, Option.some.inj h3⟩
theorem five_at0 : ((peersN fiveN 2 1)[0]?).map (fun p => decide (0 < (refsN fiveN p).length)) = some true := by decide +kernel
theorem five_one {y : Pr} (hy : (peersN fiveN 2 1)[0]? = some y) : 0 < (refsN fiveN y).length := by
  have h := five_at0
  rw [hy] at h
  simpa using h
theorem litE {w0 u : World} (_ : Ex w0 u) (x : Int) : ∃ g v, g = u.heap.size ∧ v = u.alloc (.cells #[.int .i64 x] 3) ∧ Sl 1 encI v (some ⟨g, 0, none⟩) 1 [x] ∧ Ex u v :=
  ⟨_, _, rfl, rfl, Sl.lit [x] rfl rfl (fun _ => rfl) rfl, Ex.new _ _⟩
def ThPost5 (w : World) (e : Ending) (w' : World) : Prop := ∃ a, e = .returned (.slice a 5 5) ∧ Sl 3 encN w' a 5 fiveN ∧ Ex w w'
theorem five_x (w : World) : Calls Tryd.prog 87 #[] w (ThPost5 w) := by
  go_enter Tryd.func87, Tryd.ntmps87
  go_wp2_with fail
  go_ret
  exact ⟨_, rfl, Sl.lit fiveN rfl rfl (fun _ => rfl) rfl, Ex.new _ _⟩
set_option maxRecDepth 100000 in
set_option maxHeartbeats 8000000 in
theorem sane14_x (w : World) (hT : TabG w) : Calls Tryd.prog 41 #[] w fun e w' => e = .returned (.bool true) ∧ Ex w w' := by
  go_enter Tryd.func41, Tryd.ntmps41
  have k := Ex.refl w
  have T := hT
  clear hT
  go_wp2_with fail
  (with_reducible refine (five_x _).mono ?_)
  rintro e w1 ⟨a1, rfl, s1, kk⟩
  replace k := k.nx kk
  replace T := T.nx kk
  clear kk
  go_wp2_with fail
  (with_reducible refine (contacts_p _ _ _ fiveN 3 2 0 _ s1 (by omega) (by omega) (by unfold maxLen; omega) fiveW T).mono ?_)
  rintro e w2 ⟨v, rfl, own, kk⟩
  replace k := k.nx kk
  replace T := T.nx kk
  replace s1 := s1.nx kk
  clear kk
  rw [five_con] at own
  obtain ⟨aC, cC, rfl, C, _, _, _⟩ := own.slf (fun _ => rfl)
  have C := C.sl
  simp only [List.length_cons, List.length_nil, Nat.zero_add, Nat.reduceAdd] at C ⊢
  clear own s1
  replace C := Lib.hid C
  go_wp2_with fail
  (with_reducible refine (five_x _).mono ?_)
  rintro e w3 ⟨a1, rfl, s1, kk⟩
  replace k := k.nx kk
  replace T := T.nx kk
  replace C := Lib.hid (C.out.nx kk)
  clear kk
  go_wp2_with fail
  (with_reducible refine (peers_p _ _ _ fiveN 2 1 _ s1 (by omega) (by omega) (by unfold maxLen; omega) fiveW T).mono ?_)
  rintro e w4 ⟨v, qs, rfl, own, kk⟩
  replace k := k.nx kk
  replace T := T.nx kk
  replace C := Lib.hid (C.out.nx kk)
  replace s1 := s1.nx kk
  clear kk
  obtain ⟨aP, cP, rfl, P, _, _, _⟩ := own.pl
  have hP5 := Lib.hid five_len
  rw [five_len] at P ⊢
  clear own s1
  replace P := Lib.hid P
  obtain ⟨x1, o1, y1, rfl, hx1, hy1, hc1⟩ := C.out.at (j := 0) (by omega)
  obtain ⟨x2, o2, y2, he, _, hy2, hc2⟩ := C.out.at (j := 3) (by omega)
  cases he
  cases hy1
  cases hy2
  have e0 : w4.cell? ⟨x1, o1, none⟩ = some (.int .i64 1) := by simpa using hc1 0 _ rfl
  have e1 : w4.cell? ⟨x1, o1 + 3, none⟩ = some (.int .i64 5) := by simpa using hc2 0 _ rfl
  have C0 := Lib.hid (fun wq (k : Ex w4 wq) => Chg.cellv k e0 hx1)
  have C3 := Lib.hid (fun wq (k : Ex w4 wq) => Chg.cellv k e1 hx1)
  clear hc1 hc2 e0 e1 hx1 C
  obtain ⟨xp, op, b1, m1, d1, b4, m4, d4, y, rfl, hxp, hy, p0, p1, p2, p3, p4, _, s4⟩ := P.out.rd (j := 2) (by omega)
  obtain ⟨hyl, hyn, z, hz, hzl⟩ := five_two hy
  have hm4 : m4 = 1 := s4.len.symm.trans hyn
  subst hm4
  obtain ⟨xn, on, z', rfl, hxn, hz', hcz⟩ := s4.at (j := 0) (by omega)
  obtain rfl : z = z' := Option.some.inj (hz.symm.trans hz')
  have q0 : w4.cell? ⟨xn, on, none⟩ = some (.int .i64 1) := by have h := hcz 0 _ rfl; rw [hzl] at h; simpa using h
  have e2 : w4.cell? ⟨xp, op + 10 + 1 + 1, none⟩ = some (.int .i64 2) := by rw [hyl] at p2; simpa using p2
  have e4 : w4.cell? ⟨xp, op + 10 + 1 + 1 + 1 + 1, none⟩ = some (.slice (some ⟨xn, on, none⟩) 1 d4) := by simpa using p4
  have Q0 := Lib.hid (fun wq (k : Ex w4 wq) => Chg.cellv k q0 hxn)
  have P2 := Lib.hid (fun wq (k : Ex w4 wq) => Chg.cellv k e2 hxp)
  have P4 := Lib.hid (fun wq (k : Ex w4 wq) => Chg.cellv k e4 hxp)
  clear p0 p1 p2 p3 p4 hy hyl hyn hz hz' hzl hcz s4 hxn q0 e2 e4
  obtain ⟨xp', op', b1', m1', d1', b4', m4', d4', y', he, _, hy', p0, p1, p2, p3, p4, r1, r4⟩ := P.out.rd (j := 0) (by omega)
  cases he
  have hy1 := Lib.hid (five_one hy')
  have p0 : w4.cell? ⟨xp, op, none⟩ = some (.int .i64 y'.id) := by simpa using p0
  have p1 : w4.cell? ⟨xp, op + 1, none⟩ = some (.slice b1' m1' d1') := by simpa using p1
  have p2 : w4.cell? ⟨xp, op + 1 + 1, none⟩ = some (.int .i64 y'.left) := by simpa using p2
  have p3 : w4.cell? ⟨xp, op + 1 + 1 + 1, none⟩ = some (.int .i64 y'.right) := by simpa using p3
  have p4 : w4.cell? ⟨xp, op + 1 + 1 + 1 + 1, none⟩ = some (.slice b4' m4' d4') := by simpa using p4
  have R0 := Lib.hid (fun wq (k : Ex w4 wq) => Chg.cellv k p0 hxp)
  have R1 := Lib.hid (fun wq (k : Ex w4 wq) => Chg.cellv k p1 hxp)
  have R2 := Lib.hid (fun wq (k : Ex w4 wq) => Chg.cellv k p2 hxp)
  have R3 := Lib.hid (fun wq (k : Ex w4 wq) => Chg.cellv k p3 hxp)
  have R4 := Lib.hid (fun wq (k : Ex w4 wq) => Chg.cellv k p4 hxp)
  have hl1 : m1' ≤ 4000000000000000000 := by have := r1.len; have := (five_small y' (List.mem_of_getElem? hy')).1; omega
  have hl4 : m4' ≤ 4000000000000000000 := by have := r4.len; have := (five_small y' (List.mem_of_getElem? hy')).2; omega
  have r1 := Lib.hid r1
  have r4 := Lib.hid r4
  clear hy' hxp p0 p1 p2 p3 p4
  have K4 := Lib.hid k
  clear k T
  go_upto_region 3 with fail
  refine wp_region_held_drew (S := Ex w4) (by kernel_rfl) ((Ex.refl w4).drew) (fun hHeld => ?_)
  obtain ⟨wd, hwdx⟩ : ∃ wd : World, wd = World.drew w4 := ⟨_, rfl⟩
  rw [← hwdx] at hHeld ⊢
  have hDrew : Ex w4 wd := by rw [hwdx]; exact (Ex.refl w4).drew
  clear hwdx
  refine wpAnyH_take (i := 0) (oi := ⟨some 7, .move (.tmp 1), 22, "law.go:23", #[], none⟩) (v := ?_) rfl (by kernel_rfl) (by kernel_rfl) (by kernel_rfl) (fun _ _ _ h => h) (Or.inl ⟨by rfl, ?hyr1x0q5⟩) (by assumption) ?restr1x0q5
  case hyr1x0q5 => intro wq hSw; (go_simp); (try with_reducible rfl)
  try simp only [Act.put, List.setIfInBounds_toArray, List.set_cons_zero, List.set_cons_succ]
  refine wpAnyH_take (i := 1) (oi := ⟨some 8, .call { callee := .builtin .len, args := #[.tmp 7], argTypes := #[22] }, 3, "law.go:23", #[⟨0, .data⟩], none⟩) (v := ?_) rfl (by kernel_rfl) (by kernel_rfl) (by kernel_rfl) (fun _ _ _ h => h) (Or.inl ⟨by rfl, ?hyr1x1q8⟩) (by assumption) ?restr1x1q8
  case hyr1x1q8 => intro wq hSw; (go_simp); (try with_reducible rfl)
  try simp only [Act.put, List.setIfInBounds_toArray, List.set_cons_zero, List.set_cons_succ]
  refine wpAnyH_take (i := 2) (oi := ⟨some 9, .binOp .eql 3 (.tmp 8) (.const (.int .i64 4)) 3, 4, "law.go:23", #[⟨1, .data⟩], none⟩) (v := ?_) rfl (by kernel_rfl) (by kernel_rfl) (by kernel_rfl) (fun _ _ _ h => h) (Or.inl ⟨by rfl, ?hyr1x2q11⟩) (by assumption) ?restr1x2q11
  case hyr1x2q11 => intro wq hSw; (go_simp); (try with_reducible rfl)
  try simp only [Act.put, List.setIfInBounds_toArray, List.set_cons_zero, List.set_cons_succ]
  refine wpAnyH_take (i := 3) (oi := ⟨some 10, .move (.tmp 9), 4, "law.go:23", #[⟨2, .data⟩], none⟩) (v := ?_) rfl (by kernel_rfl) (by kernel_rfl) (by kernel_rfl) (fun _ _ _ h => h) (Or.inl ⟨by rfl, ?hyr1x3q14⟩) (by assumption) ?restr1x3q14
  case hyr1x3q14 => intro wq hSw; (go_simp); (try with_reducible rfl)
  try simp only [Act.put, List.setIfInBounds_toArray, List.set_cons_zero, List.set_cons_succ]
  refine wpAnyH_take (i := 4) (oi := ⟨some 11, .move (.tmp 1), 22, "law.go:23", #[⟨3, .guard⟩], some (3, true)⟩) (v := ?_) rfl (by kernel_rfl) (by kernel_rfl) (by kernel_rfl) (fun _ _ _ h => h) (Or.inl ⟨by rfl, ?hyr1x4q17⟩) (by assumption) ?restr1x4q17
  case hyr1x4q17 => intro wq hSw; (go_simp); (try with_reducible rfl)
  try simp only [Act.put, List.setIfInBounds_toArray, List.set_cons_zero, List.set_cons_succ]
  refine wpAnyH_take (i := 5) (oi := ⟨some 12, .indexAddr 22 (.tmp 11) (.const (.int .i64 0)), 0, "law.go:23", #[⟨4, .data⟩, ⟨3, .guard⟩], some (3, true)⟩) (v := ?_) rfl (by kernel_rfl) (by kernel_rfl) (by kernel_rfl) (fun _ _ _ h => h) (Or.inl ⟨by rfl, ?hyr1x5q20⟩) (by assumption) ?restr1x5q20
  case hyr1x5q20 => intro wq hSw; (go_simp); (try with_reducible rfl)
  try simp only [Act.put, List.setIfInBounds_toArray, List.set_cons_zero, List.set_cons_succ]
  refine wpAnyH_take (i := 6) (oi := ⟨some 13, .load 3 (.tmp 12), 3, "law.go:23", #[⟨5, .data⟩, ⟨3, .guard⟩], some (3, true)⟩) (v := ?_) rfl (by kernel_rfl) (by kernel_rfl) (by kernel_rfl) (fun _ _ _ h => h) (Or.inl ⟨by rfl, ?hyr1x6q23⟩) (by assumption) ?restr1x6q23
  case hyr1x6q23 => intro wq hSw; (have cq := C0.out wq hSw; go_simp); (try with_reducible rfl)
  try simp only [Act.put, List.setIfInBounds_toArray, List.set_cons_zero, List.set_cons_succ]
  refine wpAnyH_take (i := 7) (oi := ⟨some 14, .binOp .eql 3 (.tmp 13) (.const (.int .i64 1)) 3, 4, "law.go:23", #[⟨6, .data⟩, ⟨3, .guard⟩], some (3, true)⟩) (v := ?_) rfl (by kernel_rfl) (by kernel_rfl) (by kernel_rfl) (fun _ _ _ h => h) (Or.inl ⟨by rfl, ?hyr1x7q26⟩) (by assumption) ?restr1x7q26
  case hyr1x7q26 => intro wq hSw; (go_simp); (try with_reducible rfl)
  try simp only [Act.put, List.setIfInBounds_toArray, List.set_cons_zero, List.set_cons_succ]
  refine wpAnyH_take (i := 8) (oi := ⟨some 15, .pick (.tmp 10) (.tmp 14) (.const (.bool false)), 4, "law.go:23", #[⟨3, .data⟩, ⟨7, .data⟩], none⟩) (v := ?_) rfl (by kernel_rfl) (by kernel_rfl) (by kernel_rfl) (fun _ _ _ h => h) (Or.inl ⟨by rfl, ?hyr1x8q29⟩) (by assumption) ?restr1x8q29
  case hyr1x8q29 => intro wq hSw; (go_simp); (try with_reducible rfl)
  try simp only [Act.put, List.setIfInBounds_toArray, List.set_cons_zero, List.set_cons_succ]
  refine wpAnyH_take (i := 9) (oi := ⟨some 16, .move (.tmp 15), 4, "law.go:23", #[⟨8, .data⟩, ⟨3, .chain⟩], none⟩) (v := ?_) rfl (by kernel_rfl) (by kernel_rfl) (by kernel_rfl) (fun _ _ _ h => h) (Or.inl ⟨by rfl, ?hyr1x9q32⟩) (by assumption) ?restr1x9q32
  case hyr1x9q32 => intro wq hSw; (go_simp); (try with_reducible rfl)
  try simp only [Act.put, List.setIfInBounds_toArray, List.set_cons_zero, List.set_cons_succ]
  refine wpAnyH_take (i := 10) (oi := ⟨some 17, .move (.tmp 1), 22, "law.go:23", #[⟨9, .guard⟩], some (9, true)⟩) (v := ?_) rfl (by kernel_rfl) (by kernel_rfl) (by kernel_rfl) (fun _ _ _ h => h) (Or.inl ⟨by rfl, ?hyr1x10q35⟩) (by assumption) ?restr1x10q35
  case hyr1x10q35 => intro wq hSw; (go_simp); (try with_reducible rfl)
  try simp only [Act.put, List.setIfInBounds_toArray, List.set_cons_zero, List.set_cons_succ]
  refine wpAnyH_take (i := 11) (oi := ⟨some 18, .indexAddr 22 (.tmp 17) (.const (.int .i64 3)), 0, "law.go:23", #[⟨10, .data⟩, ⟨9, .guard⟩], some (9, true)⟩) (v := ?_) rfl (by kernel_rfl) (by kernel_rfl) (by kernel_rfl) (fun _ _ _ h => h) (Or.inl ⟨by rfl, ?hyr1x11q38⟩) (by assumption) ?restr1x11q38
  case hyr1x11q38 => intro wq hSw; (go_simp); (try with_reducible rfl)
  try simp only [Act.put, List.setIfInBounds_toArray, List.set_cons_zero, List.set_cons_succ]
  refine wpAnyH_take (i := 12) (oi := ⟨some 19, .load 3 (.tmp 18), 3, "law.go:23", #[⟨11, .data⟩, ⟨9, .guard⟩], some (9, true)⟩) (v := ?_) rfl (by kernel_rfl) (by kernel_rfl) (by kernel_rfl) (fun _ _ _ h => h) (Or.inl ⟨by rfl, ?hyr1x12q41⟩) (by assumption) ?restr1x12q41
  case hyr1x12q41 => intro wq hSw; (have cq := C3.out wq hSw; go_simp); (try with_reducible rfl)
  try simp only [Act.put, List.setIfInBounds_toArray, List.set_cons_zero, List.set_cons_succ]
  refine wpAnyH_take (i := 13) (oi := ⟨some 20, .binOp .eql 3 (.tmp 19) (.const (.int .i64 5)) 3, 4, "law.go:23", #[⟨12, .data⟩, ⟨9, .guard⟩], some (9, true)⟩) (v := ?_) rfl (by kernel_rfl) (by kernel_rfl) (by kernel_rfl) (fun _ _ _ h => h) (Or.inl ⟨by rfl, ?hyr1x13q44⟩) (by assumption) ?restr1x13q44
  case hyr1x13q44 => intro wq hSw; (go_simp); (try with_reducible rfl)
  try simp only [Act.put, List.setIfInBounds_toArray, List.set_cons_zero, List.set_cons_succ]
  refine wpAnyH_take (i := 14) (oi := ⟨some 21, .pick (.tmp 16) (.tmp 20) (.const (.bool false)), 4, "law.go:23", #[⟨9, .data⟩, ⟨13, .data⟩], none⟩) (v := ?_) rfl (by kernel_rfl) (by kernel_rfl) (by kernel_rfl) (fun _ _ _ h => h) (Or.inl ⟨by rfl, ?hyr1x14q47⟩) (by assumption) ?restr1x14q47
  case hyr1x14q47 => intro wq hSw; (go_simp); (try with_reducible rfl)
  try simp only [Act.put, List.setIfInBounds_toArray, List.set_cons_zero, List.set_cons_succ]
  refine wpAnyH_take (i := 15) (oi := ⟨some 22, .move (.tmp 21), 4, "law.go:23", #[⟨14, .data⟩, ⟨9, .chain⟩], none⟩) (v := ?_) rfl (by kernel_rfl) (by kernel_rfl) (by kernel_rfl) (fun _ _ _ h => h) (Or.inl ⟨by rfl, ?hyr1x15q50⟩) (by assumption) ?restr1x15q50
  case hyr1x15q50 => intro wq hSw; (go_simp); (try with_reducible rfl)
  try simp only [Act.put, List.setIfInBounds_toArray, List.set_cons_zero, List.set_cons_succ]
  refine wpAnyH_ready (rs := [16, 17]) (by kernel_rfl) (by simp) ?_
  refine AllReadyH.cons (o := ⟨some 23, .call { callee := .value (.func 87), args := #[], argTypes := #[] }, 23, "law.go:23", #[⟨15, .chain⟩, ⟨15, .guard⟩], some (15, true)⟩) rfl (fun K hK => ?_) ?_
  · go_simp
    (with_reducible refine (five_x _).mono ?_)
    rintro e w5 ⟨a5, rfl, s5, kk⟩
    (try replace SB := SB.nx kk)
    replace hHeld := hHeld.nx kk
    clear kk
    refine hK.out _ _ (hHeld) (fun hHeld => ?_)
    clear hK K
    try simp only [Act.put, List.setIfInBounds_toArray, List.set_cons_zero, List.set_cons_succ]
    refine wpAnyH_ready (rs := [17]) (by kernel_rfl) (by simp) ?_
    refine AllReadyH.cons (o := ⟨some 24, .buildSlice 22 2 #[(0, .const (.int .i64 2)), (1, .const (.int .i64 3))], 22, "law.go:23", #[⟨15, .guard⟩], some (15, true)⟩) rfl (fun K hK => ?_) AllReadyH.nil
    go_simp
    obtain ⟨gB, wB, hgB, hwB, SB, kk, jj⟩ := lit2 hHeld 2 3
    rw [← hgB, ← hwB]
    clear hgB hwB jj
    (try replace s5 := s5.nx kk)
    replace hHeld := hHeld.nx kk
    clear kk
    refine hK.out _ _ (hHeld) (fun hHeld => ?_)
    clear hK K
    try simp only [Act.put, List.setIfInBounds_toArray, List.set_cons_zero, List.set_cons_succ]
    refine wpAnyH_ready (rs := [18]) (by kernel_rfl) (by simp) ?_
    refine AllReadyH.cons (o := ⟨some 25, .call { callee := .value (.func 53), args := #[.tmp 23, .tmp 24], argTypes := #[23, 22] }, 3, "law.go:23", #[⟨16, .data⟩, ⟨17, .data⟩, ⟨16, .chain⟩, ⟨15, .guard⟩], some (15, true)⟩) rfl (fun K hK => ?_) AllReadyH.nil
    go_simp
    (with_reducible refine (gap_p _ _ _ fiveN _ _ _ [2, 3] _ s5 (by omega) (by omega) (by unfold maxLen; omega) SB (by omega)).mono ?_)
    rintro e w6 ⟨rfl, kk⟩
    rw [five_gap]
    replace hHeld := hHeld.nx kk
    clear kk s5 SB
    refine hK.out _ _ (hHeld) (fun hHeld => ?_)
    clear hK K
    try simp only [Act.put, List.setIfInBounds_toArray, List.set_cons_zero, List.set_cons_succ]
    refine wpAnyH_take (i := 19) (oi := ⟨some 26, .binOp .eql 3 (.tmp 25) (.const (.int .i64 2)) 3, 4, "law.go:23", #[⟨18, .data⟩, ⟨15, .guard⟩], some (15, true)⟩) (v := ?_) rfl (by kernel_rfl) (by kernel_rfl) (by kernel_rfl) (fun _ _ _ h => h) (Or.inl ⟨by rfl, ?hyr1x19q87⟩) (by assumption) ?restr1x19q87
    case hyr1x19q87 => intro wq hSw; (go_simp); (try with_reducible rfl)
    try simp only [Act.put, List.setIfInBounds_toArray, List.set_cons_zero, List.set_cons_succ]
    refine wpAnyH_take (i := 20) (oi := ⟨some 27, .pick (.tmp 22) (.tmp 26) (.const (.bool false)), 4, "law.go:23", #[⟨15, .data⟩, ⟨19, .data⟩], none⟩) (v := ?_) rfl (by kernel_rfl) (by kernel_rfl) (by kernel_rfl) (fun _ _ _ h => h) (Or.inl ⟨by rfl, ?hyr1x20q90⟩) (by assumption) ?restr1x20q90
    case hyr1x20q90 => intro wq hSw; (go_simp); (try with_reducible rfl)
    try simp only [Act.put, List.setIfInBounds_toArray, List.set_cons_zero, List.set_cons_succ]
    refine wpAnyH_take (i := 21) (oi := ⟨some 28, .move (.tmp 27), 4, "law.go:23", #[⟨20, .data⟩, ⟨18, .chain⟩], none⟩) (v := ?_) rfl (by kernel_rfl) (by kernel_rfl) (by kernel_rfl) (fun _ _ _ h => h) (Or.inl ⟨by rfl, ?hyr1x21q93⟩) (by assumption) ?restr1x21q93
    case hyr1x21q93 => intro wq hSw; (go_simp); (try with_reducible rfl)
    try simp only [Act.put, List.setIfInBounds_toArray, List.set_cons_zero, List.set_cons_succ]
    refine wpAnyH_take (i := 22) (oi := ⟨some 29, .move (.tmp 2), 63, "law.go:23", #[⟨21, .guard⟩], some (21, true)⟩) (v := ?_) rfl (by kernel_rfl) (by kernel_rfl) (by kernel_rfl) (fun _ _ _ h => h) (Or.inl ⟨by rfl, ?hyr1x22q96⟩) (by assumption) ?restr1x22q96
    case hyr1x22q96 => intro wq hSw; (go_simp); (try with_reducible rfl)
    try simp only [Act.put, List.setIfInBounds_toArray, List.set_cons_zero, List.set_cons_succ]
    refine wpAnyH_take (i := 23) (oi := ⟨some 30, .call { callee := .builtin .len, args := #[.tmp 29], argTypes := #[63] }, 3, "law.go:23", #[⟨22, .data⟩, ⟨21, .guard⟩], some (21, true)⟩) (v := ?_) rfl (by kernel_rfl) (by kernel_rfl) (by kernel_rfl) (fun _ _ _ h => h) (Or.inl ⟨by rfl, ?hyr1x23q99⟩) (by assumption) ?restr1x23q99
    case hyr1x23q99 => intro wq hSw; (go_simp); (try with_reducible rfl)
    try simp only [Act.put, List.setIfInBounds_toArray, List.set_cons_zero, List.set_cons_succ]
    refine wpAnyH_take (i := 24) (oi := ⟨some 31, .binOp .eql 3 (.tmp 30) (.const (.int .i64 5)) 3, 4, "law.go:23", #[⟨23, .data⟩, ⟨21, .guard⟩], some (21, true)⟩) (v := ?_) rfl (by kernel_rfl) (by kernel_rfl) (by kernel_rfl) (fun _ _ _ h => h) (Or.inl ⟨by rfl, ?hyr1x24q102⟩) (by assumption) ?restr1x24q102
    case hyr1x24q102 => intro wq hSw; (go_simp); (try with_reducible rfl)
    try simp only [Act.put, List.setIfInBounds_toArray, List.set_cons_zero, List.set_cons_succ]
    refine wpAnyH_take (i := 25) (oi := ⟨some 32, .pick (.tmp 28) (.tmp 31) (.const (.bool false)), 4, "law.go:23", #[⟨21, .data⟩, ⟨24, .data⟩], none⟩) (v := ?_) rfl (by kernel_rfl) (by kernel_rfl) (by kernel_rfl) (fun _ _ _ h => h) (Or.inl ⟨by rfl, ?hyr1x25q105⟩) (by assumption) ?restr1x25q105
    case hyr1x25q105 => intro wq hSw; (go_simp); (try with_reducible rfl)
    try simp only [Act.put, List.setIfInBounds_toArray, List.set_cons_zero, List.set_cons_succ]
    refine wpAnyH_take (i := 26) (oi := ⟨some 33, .move (.tmp 32), 4, "law.go:23", #[⟨25, .data⟩, ⟨21, .chain⟩], none⟩) (v := ?_) rfl (by kernel_rfl) (by kernel_rfl) (by kernel_rfl) (fun _ _ _ h => h) (Or.inl ⟨by rfl, ?hyr1x26q108⟩) (by assumption) ?restr1x26q108
    case hyr1x26q108 => intro wq hSw; (go_simp); (try with_reducible rfl)
    try simp only [Act.put, List.setIfInBounds_toArray, List.set_cons_zero, List.set_cons_succ]
    refine wpAnyH_take (i := 27) (oi := ⟨some 34, .move (.tmp 2), 63, "law.go:23", #[⟨26, .guard⟩], some (26, true)⟩) (v := ?_) rfl (by kernel_rfl) (by kernel_rfl) (by kernel_rfl) (fun _ _ _ h => h) (Or.inl ⟨by rfl, ?hyr1x27q111⟩) (by assumption) ?restr1x27q111
    case hyr1x27q111 => intro wq hSw; (go_simp); (try with_reducible rfl)
    try simp only [Act.put, List.setIfInBounds_toArray, List.set_cons_zero, List.set_cons_succ]
    refine wpAnyH_take (i := 28) (oi := ⟨some 35, .indexAddr 63 (.tmp 34) (.const (.int .i64 2)), 0, "law.go:23", #[⟨27, .data⟩, ⟨26, .guard⟩], some (26, true)⟩) (v := ?_) rfl (by kernel_rfl) (by kernel_rfl) (by kernel_rfl) (fun _ _ _ h => h) (Or.inl ⟨by rfl, ?hyr1x28q114⟩) (by assumption) ?restr1x28q114
    case hyr1x28q114 => intro wq hSw; (go_simp); (try with_reducible rfl)
    try simp only [Act.put, List.setIfInBounds_toArray, List.set_cons_zero, List.set_cons_succ]
    refine wpAnyH_take (i := 29) (oi := ⟨some 36, .fieldAddr 68 (.tmp 35) 2, 0, "law.go:23", #[⟨28, .data⟩, ⟨26, .guard⟩], some (26, true)⟩) (v := ?_) rfl (by kernel_rfl) (by kernel_rfl) (by kernel_rfl) (fun _ _ _ h => h) (Or.inl ⟨by rfl, ?hyr1x29q117⟩) (by assumption) ?restr1x29q117
    case hyr1x29q117 => intro wq hSw; (go_simp); (try with_reducible rfl)
    try simp only [Act.put, List.setIfInBounds_toArray, List.set_cons_zero, List.set_cons_succ]
    refine wpAnyH_take (i := 30) (oi := ⟨some 37, .load 3 (.tmp 36), 3, "law.go:23", #[⟨29, .data⟩, ⟨26, .guard⟩], some (26, true)⟩) (v := ?_) rfl (by kernel_rfl) (by kernel_rfl) (by kernel_rfl) (fun _ _ _ h => h) (Or.inl ⟨by rfl, ?hyr1x30q120⟩) (by assumption) ?restr1x30q120
    case hyr1x30q120 => intro wq hSw; (have cq := P2.out wq hSw; go_simp); (try with_reducible rfl)
    try simp only [Act.put, List.setIfInBounds_toArray, List.set_cons_zero, List.set_cons_succ]
    refine wpAnyH_take (i := 31) (oi := ⟨some 38, .binOp .eql 3 (.tmp 37) (.const (.int .i64 2)) 3, 4, "law.go:23", #[⟨30, .data⟩, ⟨26, .guard⟩], some (26, true)⟩) (v := ?_) rfl (by kernel_rfl) (by kernel_rfl) (by kernel_rfl) (fun _ _ _ h => h) (Or.inl ⟨by rfl, ?hyr1x31q123⟩) (by assumption) ?restr1x31q123
    case hyr1x31q123 => intro wq hSw; (go_simp); (try with_reducible rfl)
    try simp only [Act.put, List.setIfInBounds_toArray, List.set_cons_zero, List.set_cons_succ]
    refine wpAnyH_take (i := 32) (oi := ⟨some 39, .pick (.tmp 33) (.tmp 38) (.const (.bool false)), 4, "law.go:23", #[⟨26, .data⟩, ⟨31, .data⟩], none⟩) (v := ?_) rfl (by kernel_rfl) (by kernel_rfl) (by kernel_rfl) (fun _ _ _ h => h) (Or.inl ⟨by rfl, ?hyr1x32q126⟩) (by assumption) ?restr1x32q126
    case hyr1x32q126 => intro wq hSw; (go_simp); (try with_reducible rfl)
    try simp only [Act.put, List.setIfInBounds_toArray, List.set_cons_zero, List.set_cons_succ]
    refine wpAnyH_take (i := 33) (oi := ⟨some 40, .move (.tmp 39), 4, "law.go:23", #[⟨32, .data⟩, ⟨26, .chain⟩], none⟩) (v := ?_) rfl (by kernel_rfl) (by kernel_rfl) (by kernel_rfl) (fun _ _ _ h => h) (Or.inl ⟨by rfl, ?hyr1x33q129⟩) (by assumption) ?restr1x33q129
    case hyr1x33q129 => intro wq hSw; (go_simp); (try with_reducible rfl)
    try simp only [Act.put, List.setIfInBounds_toArray, List.set_cons_zero, List.set_cons_succ]
    refine wpAnyH_take (i := 34) (oi := ⟨some 41, .move (.tmp 2), 63, "law.go:23", #[⟨33, .guard⟩], some (33, true)⟩) (v := ?_) rfl (by kernel_rfl) (by kernel_rfl) (by kernel_rfl) (fun _ _ _ h => h) (Or.inl ⟨by rfl, ?hyr1x34q132⟩) (by assumption) ?restr1x34q132
    case hyr1x34q132 => intro wq hSw; (go_simp); (try with_reducible rfl)
    try simp only [Act.put, List.setIfInBounds_toArray, List.set_cons_zero, List.set_cons_succ]
    refine wpAnyH_take (i := 35) (oi := ⟨some 42, .indexAddr 63 (.tmp 41) (.const (.int .i64 2)), 0, "law.go:23", #[⟨34, .data⟩, ⟨33, .guard⟩], some (33, true)⟩) (v := ?_) rfl (by kernel_rfl) (by kernel_rfl) (by kernel_rfl) (fun _ _ _ h => h) (Or.inl ⟨by rfl, ?hyr1x35q135⟩) (by assumption) ?restr1x35q135
    case hyr1x35q135 => intro wq hSw; (go_simp); (try with_reducible rfl)
    try simp only [Act.put, List.setIfInBounds_toArray, List.set_cons_zero, List.set_cons_succ]
    refine wpAnyH_take (i := 36) (oi := ⟨some 43, .fieldAddr 68 (.tmp 42) 4, 0, "law.go:23", #[⟨35, .data⟩, ⟨33, .guard⟩], some (33, true)⟩) (v := ?_) rfl (by kernel_rfl) (by kernel_rfl) (by kernel_rfl) (fun _ _ _ h => h) (Or.inl ⟨by rfl, ?hyr1x36q138⟩) (by assumption) ?restr1x36q138
    case hyr1x36q138 => intro wq hSw; (go_simp); (try with_reducible rfl)
    try simp only [Act.put, List.setIfInBounds_toArray, List.set_cons_zero, List.set_cons_succ]
    refine wpAnyH_take (i := 37) (oi := ⟨some 44, .load 66 (.tmp 43), 66, "law.go:23", #[⟨36, .data⟩, ⟨33, .guard⟩], some (33, true)⟩) (v := ?_) rfl (by kernel_rfl) (by kernel_rfl) (by kernel_rfl) (fun _ _ _ h => h) (Or.inl ⟨by rfl, ?hyr1x37q141⟩) (by assumption) ?restr1x37q141
    case hyr1x37q141 => intro wq hSw; (have cq := P4.out wq hSw; go_simp); (try with_reducible rfl)
    try simp only [Act.put, List.setIfInBounds_toArray, List.set_cons_zero, List.set_cons_succ]
    refine wpAnyH_take (i := 38) (oi := ⟨some 45, .call { callee := .builtin .len, args := #[.tmp 44], argTypes := #[66] }, 3, "law.go:23", #[⟨37, .data⟩, ⟨33, .guard⟩], some (33, true)⟩) (v := ?_) rfl (by kernel_rfl) (by kernel_rfl) (by kernel_rfl) (fun _ _ _ h => h) (Or.inl ⟨by rfl, ?hyr1x38q144⟩) (by assumption) ?restr1x38q144
    case hyr1x38q144 => intro wq hSw; (go_simp); (try with_reducible rfl)
    try simp only [Act.put, List.setIfInBounds_toArray, List.set_cons_zero, List.set_cons_succ]
    refine wpAnyH_take (i := 39) (oi := ⟨some 46, .binOp .eql 3 (.tmp 45) (.const (.int .i64 1)) 3, 4, "law.go:23", #[⟨38, .data⟩, ⟨33, .guard⟩], some (33, true)⟩) (v := ?_) rfl (by kernel_rfl) (by kernel_rfl) (by kernel_rfl) (fun _ _ _ h => h) (Or.inl ⟨by rfl, ?hyr1x39q147⟩) (by assumption) ?restr1x39q147
    case hyr1x39q147 => intro wq hSw; (go_simp); (try with_reducible rfl)
    try simp only [Act.put, List.setIfInBounds_toArray, List.set_cons_zero, List.set_cons_succ]
    refine wpAnyH_take (i := 40) (oi := ⟨some 47, .pick (.tmp 40) (.tmp 46) (.const (.bool false)), 4, "law.go:23", #[⟨33, .data⟩, ⟨39, .data⟩], none⟩) (v := ?_) rfl (by kernel_rfl) (by kernel_rfl) (by kernel_rfl) (fun _ _ _ h => h) (Or.inl ⟨by rfl, ?hyr1x40q150⟩) (by assumption) ?restr1x40q150
    case hyr1x40q150 => intro wq hSw; (go_simp); (try with_reducible rfl)
    try simp only [Act.put, List.setIfInBounds_toArray, List.set_cons_zero, List.set_cons_succ]
    refine wpAnyH_take (i := 41) (oi := ⟨some 48, .move (.tmp 47), 4, "law.go:23", #[⟨40, .data⟩, ⟨33, .chain⟩], none⟩) (v := ?_) rfl (by kernel_rfl) (by kernel_rfl) (by kernel_rfl) (fun _ _ _ h => h) (Or.inl ⟨by rfl, ?hyr1x41q153⟩) (by assumption) ?restr1x41q153
    case hyr1x41q153 => intro wq hSw; (go_simp); (try with_reducible rfl)
    try simp only [Act.put, List.setIfInBounds_toArray, List.set_cons_zero, List.set_cons_succ]
    refine wpAnyH_take (i := 42) (oi := ⟨some 49, .move (.tmp 2), 63, "law.go:23", #[⟨41, .guard⟩], some (41, true)⟩) (v := ?_) rfl (by kernel_rfl) (by kernel_rfl) (by kernel_rfl) (fun _ _ _ h => h) (Or.inl ⟨by rfl, ?hyr1x42q156⟩) (by assumption) ?restr1x42q156
    case hyr1x42q156 => intro wq hSw; (go_simp); (try with_reducible rfl)
    try simp only [Act.put, List.setIfInBounds_toArray, List.set_cons_zero, List.set_cons_succ]
    refine wpAnyH_take (i := 43) (oi := ⟨some 50, .indexAddr 63 (.tmp 49) (.const (.int .i64 2)), 0, "law.go:23", #[⟨42, .data⟩, ⟨41, .guard⟩], some (41, true)⟩) (v := ?_) rfl (by kernel_rfl) (by kernel_rfl) (by kernel_rfl) (fun _ _ _ h => h) (Or.inl ⟨by rfl, ?hyr1x43q159⟩) (by assumption) ?restr1x43q159
    case hyr1x43q159 => intro wq hSw; (go_simp); (try with_reducible rfl)
    try simp only [Act.put, List.setIfInBounds_toArray, List.set_cons_zero, List.set_cons_succ]
    refine wpAnyH_take (i := 44) (oi := ⟨some 51, .fieldAddr 68 (.tmp 50) 4, 0, "law.go:23", #[⟨43, .data⟩, ⟨41, .guard⟩], some (41, true)⟩) (v := ?_) rfl (by kernel_rfl) (by kernel_rfl) (by kernel_rfl) (fun _ _ _ h => h) (Or.inl ⟨by rfl, ?hyr1x44q162⟩) (by assumption) ?restr1x44q162
    case hyr1x44q162 => intro wq hSw; (go_simp); (try with_reducible rfl)
    try simp only [Act.put, List.setIfInBounds_toArray, List.set_cons_zero, List.set_cons_succ]
    refine wpAnyH_take (i := 45) (oi := ⟨some 52, .load 66 (.tmp 51), 66, "law.go:23", #[⟨44, .data⟩, ⟨41, .guard⟩], some (41, true)⟩) (v := ?_) rfl (by kernel_rfl) (by kernel_rfl) (by kernel_rfl) (fun _ _ _ h => h) (Or.inl ⟨by rfl, ?hyr1x45q165⟩) (by assumption) ?restr1x45q165
    case hyr1x45q165 => intro wq hSw; (have cq := P4.out wq hSw; go_simp); (try with_reducible rfl)
    try simp only [Act.put, List.setIfInBounds_toArray, List.set_cons_zero, List.set_cons_succ]
    refine wpAnyH_take (i := 46) (oi := ⟨some 53, .indexAddr 66 (.tmp 52) (.const (.int .i64 0)), 0, "law.go:23", #[⟨45, .data⟩, ⟨41, .guard⟩], some (41, true)⟩) (v := ?_) rfl (by kernel_rfl) (by kernel_rfl) (by kernel_rfl) (fun _ _ _ h => h) (Or.inl ⟨by rfl, ?hyr1x46q168⟩) (by assumption) ?restr1x46q168
    case hyr1x46q168 => intro wq hSw; (go_simp); (try with_reducible rfl)
    try simp only [Act.put, List.setIfInBounds_toArray, List.set_cons_zero, List.set_cons_succ]
    refine wpAnyH_take (i := 47) (oi := ⟨some 54, .fieldAddr 123 (.tmp 53) 0, 0, "law.go:23", #[⟨46, .data⟩, ⟨41, .guard⟩], some (41, true)⟩) (v := ?_) rfl (by kernel_rfl) (by kernel_rfl) (by kernel_rfl) (fun _ _ _ h => h) (Or.inl ⟨by rfl, ?hyr1x47q171⟩) (by assumption) ?restr1x47q171
    case hyr1x47q171 => intro wq hSw; (go_simp); (try with_reducible rfl)
    try simp only [Act.put, List.setIfInBounds_toArray, List.set_cons_zero, List.set_cons_succ]
    refine wpAnyH_take (i := 48) (oi := ⟨some 55, .load 3 (.tmp 54), 3, "law.go:23", #[⟨47, .data⟩, ⟨41, .guard⟩], some (41, true)⟩) (v := ?_) rfl (by kernel_rfl) (by kernel_rfl) (by kernel_rfl) (fun _ _ _ h => h) (Or.inl ⟨by rfl, ?hyr1x48q174⟩) (by assumption) ?restr1x48q174
    case hyr1x48q174 => intro wq hSw; (have cq := Q0.out wq hSw; go_simp); (try with_reducible rfl)
    try simp only [Act.put, List.setIfInBounds_toArray, List.set_cons_zero, List.set_cons_succ]
    refine wpAnyH_take (i := 49) (oi := ⟨some 56, .binOp .eql 3 (.tmp 55) (.const (.int .i64 1)) 3, 4, "law.go:23", #[⟨48, .data⟩, ⟨41, .guard⟩], some (41, true)⟩) (v := ?_) rfl (by kernel_rfl) (by kernel_rfl) (by kernel_rfl) (fun _ _ _ h => h) (Or.inl ⟨by rfl, ?hyr1x49q177⟩) (by assumption) ?restr1x49q177
    case hyr1x49q177 => intro wq hSw; (go_simp); (try with_reducible rfl)
    try simp only [Act.put, List.setIfInBounds_toArray, List.set_cons_zero, List.set_cons_succ]
    refine wpAnyH_take (i := 50) (oi := ⟨some 57, .pick (.tmp 48) (.tmp 56) (.const (.bool false)), 4, "law.go:23", #[⟨41, .data⟩, ⟨49, .data⟩], none⟩) (v := ?_) rfl (by kernel_rfl) (by kernel_rfl) (by kernel_rfl) (fun _ _ _ h => h) (Or.inl ⟨by rfl, ?hyr1x50q180⟩) (by assumption) ?restr1x50q180
    case hyr1x50q180 => intro wq hSw; (go_simp); (try with_reducible rfl)
    try simp only [Act.put, List.setIfInBounds_toArray, List.set_cons_zero, List.set_cons_succ]
    refine wpAnyH_take (i := 51) (oi := ⟨some 58, .move (.tmp 57), 4, "law.go:23", #[⟨50, .data⟩, ⟨41, .chain⟩], none⟩) (v := ?_) rfl (by kernel_rfl) (by kernel_rfl) (by kernel_rfl) (fun _ _ _ h => h) (Or.inl ⟨by rfl, ?hyr1x51q183⟩) (by assumption) ?restr1x51q183
    case hyr1x51q183 => intro wq hSw; (go_simp); (try with_reducible rfl)
    try simp only [Act.put, List.setIfInBounds_toArray, List.set_cons_zero, List.set_cons_succ]
    refine wpAnyH_take (i := 53) (oi := ⟨some 60, .move (.tmp 2), 63, "law.go:23", #[⟨51, .guard⟩], some (51, true)⟩) (v := ?_) rfl (by kernel_rfl) (by kernel_rfl) (by kernel_rfl) (fun _ _ _ h => h) (Or.inl ⟨by rfl, ?hyr1x53q186⟩) (by assumption) ?restr1x53q186
    case hyr1x53q186 => intro wq hSw; (go_simp); (try with_reducible rfl)
    try simp only [Act.put, List.setIfInBounds_toArray, List.set_cons_zero, List.set_cons_succ]
    refine wpAnyH_ready (rs := [52]) (by kernel_rfl) (by simp) ?_
    refine AllReadyH.cons (o := ⟨some 59, .call { callee := .value (.func 87), args := #[], argTypes := #[] }, 23, "law.go:23", #[⟨51, .chain⟩, ⟨51, .guard⟩], some (51, true)⟩) rfl (fun K hK => ?_) AllReadyH.nil
    go_simp
    (with_reducible refine (five_x _).mono ?_)
    rintro e w7 ⟨a5, rfl, s5, kk⟩
    replace hHeld := hHeld.nx kk
    clear kk
    refine hK.out _ _ (hHeld) (fun hHeld => ?_)
    clear hK K
    try simp only [Act.put, List.setIfInBounds_toArray, List.set_cons_zero, List.set_cons_succ]
    refine wpAnyH_ready (rs := [54]) (by kernel_rfl) (by simp) ?_
    refine AllReadyH.cons (o := ⟨some 61, .call { callee := .value (.func 43), args := #[.tmp 59, .tmp 60], argTypes := #[23, 63] }, 4, "law.go:23", #[⟨52, .data⟩, ⟨53, .data⟩, ⟨52, .chain⟩, ⟨51, .guard⟩], some (51, true)⟩) rfl (fun K hK => ?_) AllReadyH.nil
    go_simp
    (with_reducible refine (connected_p _ _ _ fiveN _ _ _ _ _ s5 (by omega) (by omega) (by unfold maxLen; omega) (P.out.nx hHeld) (by omega) five_small).mono ?_)
    rintro e w8 ⟨rfl, kk⟩
    rw [five_conn]
    replace hHeld := hHeld.nx kk
    clear kk s5
    refine hK.out _ _ (hHeld) (fun hHeld => ?_)
    clear hK K
    try simp only [Act.put, List.setIfInBounds_toArray, List.set_cons_zero, List.set_cons_succ]
    refine wpAnyH_take (i := 55) (oi := ⟨some 62, .pick (.tmp 58) (.tmp 61) (.const (.bool false)), 4, "law.go:23", #[⟨51, .data⟩, ⟨54, .data⟩], none⟩) (v := ?_) rfl (by kernel_rfl) (by kernel_rfl) (by kernel_rfl) (fun _ _ _ h => h) (Or.inl ⟨by rfl, ?hyr1x55q210⟩) (by assumption) ?restr1x55q210
    case hyr1x55q210 => intro wq hSw; (go_simp); (try with_reducible rfl)
    try simp only [Act.put, List.setIfInBounds_toArray, List.set_cons_zero, List.set_cons_succ]
    refine wpAnyH_take (i := 56) (oi := ⟨some 63, .move (.tmp 62), 4, "law.go:23", #[⟨55, .data⟩, ⟨54, .chain⟩], none⟩) (v := ?_) rfl (by kernel_rfl) (by kernel_rfl) (by kernel_rfl) (fun _ _ _ h => h) (Or.inl ⟨by rfl, ?hyr1x56q213⟩) (by assumption) ?restr1x56q213
    case hyr1x56q213 => intro wq hSw; (go_simp); (try with_reducible rfl)
    try simp only [Act.put, List.setIfInBounds_toArray, List.set_cons_zero, List.set_cons_succ]
    refine wpAnyH_take (i := 58) (oi := ⟨some 65, .move (.tmp 2), 63, "law.go:23", #[⟨56, .guard⟩], some (56, true)⟩) (v := ?_) rfl (by kernel_rfl) (by kernel_rfl) (by kernel_rfl) (fun _ _ _ h => h) (Or.inl ⟨by rfl, ?hyr1x58q216⟩) (by assumption) ?restr1x58q216
    case hyr1x58q216 => intro wq hSw; (go_simp); (try with_reducible rfl)
    try simp only [Act.put, List.setIfInBounds_toArray, List.set_cons_zero, List.set_cons_succ]
    refine wpAnyH_take (i := 59) (oi := ⟨some 66, .indexAddr 63 (.tmp 65) (.const (.int .i64 0)), 0, "law.go:23", #[⟨58, .data⟩, ⟨56, .guard⟩], some (56, true)⟩) (v := ?_) rfl (by kernel_rfl) (by kernel_rfl) (by kernel_rfl) (fun _ _ _ h => h) (Or.inl ⟨by rfl, ?hyr1x59q219⟩) (by assumption) ?restr1x59q219
    case hyr1x59q219 => intro wq hSw; (go_simp); (try with_reducible rfl)
    try simp only [Act.put, List.setIfInBounds_toArray, List.set_cons_zero, List.set_cons_succ]
    refine wpAnyH_take (i := 60) (oi := ⟨some 67, .load 68 (.tmp 66), 68, "law.go:23", #[⟨59, .data⟩, ⟨56, .guard⟩], some (56, true)⟩) (v := ?_) rfl (by kernel_rfl) (by kernel_rfl) (by kernel_rfl) (fun _ _ _ h => h) (Or.inl ⟨by rfl, ?hyr1x60q222⟩) (by assumption) ?restr1x60q222
    case hyr1x60q222 => intro wq hSw; (have c0 := R0.out wq hSw; have c1 := R1.out wq hSw; have c2 := R2.out wq hSw; have c3 := R3.out wq hSw; have c4 := R4.out wq hSw; go_simp); (try with_reducible rfl)
    try simp only [Act.put, List.setIfInBounds_toArray, List.set_cons_zero, List.set_cons_succ]
    refine wpAnyH_ready (rs := [57]) (by kernel_rfl) (by simp) ?_
    refine AllReadyH.cons (o := ⟨some 64, .call { callee := .value (.func 87), args := #[], argTypes := #[] }, 23, "law.go:23", #[⟨56, .chain⟩, ⟨56, .guard⟩], some (56, true)⟩) rfl (fun K hK => ?_) AllReadyH.nil
    go_simp
    (with_reducible refine (five_x _).mono ?_)
    rintro e w9 ⟨a5, rfl, s5, kk⟩
    replace hHeld := hHeld.nx kk
    clear kk
    refine hK.out _ _ (hHeld) (fun hHeld => ?_)
    clear hK K
    try simp only [Act.put, List.setIfInBounds_toArray, List.set_cons_zero, List.set_cons_succ]
    refine wpAnyH_ready (rs := [61]) (by kernel_rfl) (by simp) ?_
    refine AllReadyH.cons (o := ⟨some 68, .call { callee := .value (.func 46), args := #[.tmp 64, .tmp 67], argTypes := #[23, 68] }, 22, "law.go:23", #[⟨57, .data⟩, ⟨60, .data⟩, ⟨57, .chain⟩, ⟨56, .guard⟩], some (56, true)⟩) rfl (fun K hK => ?_) AllReadyH.nil
    go_simp
    (with_reducible refine (refs_p _ _ _ fiveN y' _ _ _ _ _ _ _ s5 (by omega) (by omega) (by unfold maxLen; omega) (r1.out.nx hHeld) (r4.out.nx hHeld) hl1 hl4).mono ?_)
    rintro e w10 ⟨v, rfl, own, kk⟩
    obtain ⟨aR, cR, rfl, R, _, _, _⟩ := own.slf (fun _ => rfl)
    have hR := hy1.out
    generalize (refsN fiveN y').length = nr at R hR ⊢
    have hR' : (0 : Int) < (nr : Int) := by omega
    replace hHeld := hHeld.nx kk
    clear kk s5 own R
    refine hK.out _ _ (hHeld) (fun hHeld => ?_)
    clear hK K
    try simp only [Act.put, List.setIfInBounds_toArray, List.set_cons_zero, List.set_cons_succ]
    refine wpAnyH_take (i := 62) (oi := ⟨some 69, .call { callee := .builtin .len, args := #[.tmp 68], argTypes := #[22] }, 3, "law.go:23", #[⟨61, .data⟩, ⟨56, .guard⟩], some (56, true)⟩) (v := ?_) rfl (by kernel_rfl) (by kernel_rfl) (by kernel_rfl) (fun _ _ _ h => h) (Or.inl ⟨by rfl, ?hyr1x62q249⟩) (by assumption) ?restr1x62q249
    case hyr1x62q249 => intro wq hSw; (go_simp); (try with_reducible rfl)
    try simp only [Act.put, List.setIfInBounds_toArray, List.set_cons_zero, List.set_cons_succ]
    refine wpAnyH_take (i := 63) (oi := ⟨some 70, .binOp .gtr 3 (.tmp 69) (.const (.int .i64 0)) 3, 4, "law.go:23", #[⟨62, .data⟩, ⟨56, .guard⟩], some (56, true)⟩) (v := ?_) rfl (by kernel_rfl) (by kernel_rfl) (by kernel_rfl) (fun _ _ _ h => h) (Or.inl ⟨by rfl, ?hyr1x63q252⟩) (by assumption) ?restr1x63q252
    case hyr1x63q252 => intro wq hSw; (go_simp); (try with_reducible rfl)
    try simp only [Act.put, List.setIfInBounds_toArray, List.set_cons_zero, List.set_cons_succ]
    refine wpAnyH_take (i := 64) (oi := ⟨some 71, .pick (.tmp 63) (.tmp 70) (.const (.bool false)), 4, "law.go:23", #[⟨56, .data⟩, ⟨63, .data⟩], none⟩) (v := ?_) rfl (by kernel_rfl) (by kernel_rfl) (by kernel_rfl) (fun _ _ _ h => h) (Or.inl ⟨by rfl, ?hyr1x64q255⟩) (by assumption) ?restr1x64q255
    case hyr1x64q255 => intro wq hSw; (go_simp); (try with_reducible rfl)
    try simp only [Act.put, List.setIfInBounds_toArray, List.set_cons_zero, List.set_cons_succ]
    refine wpAnyH_take (i := 65) (oi := ⟨some 72, .move (.tmp 71), 4, "law.go:23", #[⟨64, .data⟩, ⟨61, .chain⟩], none⟩) (v := ?_) rfl (by kernel_rfl) (by kernel_rfl) (by kernel_rfl) (fun _ _ _ h => h) (Or.inl ⟨by rfl, ?hyr1x65q258⟩) (by assumption) ?restr1x65q258
    case hyr1x65q258 => intro wq hSw; (go_simp); (try with_reducible rfl)
    try simp only [Act.put, List.setIfInBounds_toArray, List.set_cons_zero, List.set_cons_succ]
    refine wpAnyH_take (i := 66) (oi := ⟨some 73, .move (.tmp 2), 63, "law.go:23", #[⟨65, .guard⟩], some (65, true)⟩) (v := ?_) rfl (by kernel_rfl) (by kernel_rfl) (by kernel_rfl) (fun _ _ _ h => h) (Or.inl ⟨by rfl, ?hyr1x66q261⟩) (by assumption) ?restr1x66q261
    case hyr1x66q261 => intro wq hSw; (go_simp); (try with_reducible rfl)
    try simp only [Act.put, List.setIfInBounds_toArray, List.set_cons_zero, List.set_cons_succ]
    refine wpAnyH_ready (rs := [67]) (by kernel_rfl) (by simp) ?_
    refine AllReadyH.cons (o := ⟨some 74, .buildSlice 22 1 #[(0, .const (.int .i64 1))], 22, "law.go:23", #[⟨65, .guard⟩], some (65, true)⟩) rfl (fun K hK => ?_) AllReadyH.nil
    go_simp
    obtain ⟨gB, wB, hgB, hwB, SB, kk⟩ := litE hHeld 1
    rw [← hgB, ← hwB]
    clear hgB hwB
    replace hHeld := hHeld.nx kk
    clear kk
    refine hK.out _ _ (hHeld) (fun hHeld => ?_)
    clear hK K
    try simp only [Act.put, List.setIfInBounds_toArray, List.set_cons_zero, List.set_cons_succ]
    refine wpAnyH_ready (rs := [68]) (by kernel_rfl) (by simp) ?_
    refine AllReadyH.cons (o := ⟨some 75, .call { callee := .value (.func 54), args := #[.tmp 73, .tmp 74], argTypes := #[63, 22] }, 63, "law.go:23", #[⟨66, .data⟩, ⟨67, .data⟩, ⟨65, .chain⟩, ⟨65, .guard⟩], some (65, true)⟩) rfl (fun K hK => ?_) AllReadyH.nil
    go_simp
    (with_reducible refine (crash_p _ _ _ _ _ _ _ [1] _ (P.out.nx hHeld) (by omega) five_small2 SB (by omega)).mono ?_)
    rintro e w11 ⟨v, qs', rfl, own, kk⟩
    obtain ⟨aQ, cQ, rfl, Q, _, _, _⟩ := own.pl
    rw [five_crash]
    replace hHeld := hHeld.nx kk
    clear kk own Q SB
    refine hK.out _ _ (hHeld) (fun hHeld => ?_)
    clear hK K
    try simp only [Act.put, List.setIfInBounds_toArray, List.set_cons_zero, List.set_cons_succ]
    refine wpAnyH_take (i := 69) (oi := ⟨some 76, .call { callee := .builtin .len, args := #[.tmp 75], argTypes := #[63] }, 3, "law.go:23", #[⟨68, .data⟩, ⟨65, .guard⟩], some (65, true)⟩) (v := ?_) rfl (by kernel_rfl) (by kernel_rfl) (by kernel_rfl) (fun _ _ _ h => h) (Or.inl ⟨by rfl, ?hyr1x69q287⟩) (by assumption) ?restr1x69q287
    case hyr1x69q287 => intro wq hSw; (go_simp); (try with_reducible rfl)
    try simp only [Act.put, List.setIfInBounds_toArray, List.set_cons_zero, List.set_cons_succ]
    refine wpAnyH_take (i := 70) (oi := ⟨some 77, .binOp .eql 3 (.tmp 76) (.const (.int .i64 4)) 3, 4, "law.go:23", #[⟨69, .data⟩, ⟨65, .guard⟩], some (65, true)⟩) (v := ?_) rfl (by kernel_rfl) (by kernel_rfl) (by kernel_rfl) (fun _ _ _ h => h) (Or.inl ⟨by rfl, ?hyr1x70q290⟩) (by assumption) ?restr1x70q290
    case hyr1x70q290 => intro wq hSw; (go_simp); (try with_reducible rfl)
    try simp only [Act.put, List.setIfInBounds_toArray, List.set_cons_zero, List.set_cons_succ]
    refine wpAnyH_take (i := 71) (oi := ⟨some 78, .pick (.tmp 72) (.tmp 77) (.const (.bool false)), 4, "law.go:23", #[⟨65, .data⟩, ⟨70, .data⟩], none⟩) (v := ?_) rfl (by kernel_rfl) (by kernel_rfl) (by kernel_rfl) (fun _ _ _ h => h) (Or.inl ⟨by rfl, ?hyr1x71q293⟩) (by assumption) ?restr1x71q293
    case hyr1x71q293 => intro wq hSw; (go_simp); (try with_reducible rfl)
    try simp only [Act.put, List.setIfInBounds_toArray, List.set_cons_zero, List.set_cons_succ]
    refine wpAnyH_take (i := 72) (oi := ⟨some 0, .assign (.tmp 78), 4, "law.go:23", (#[⟨71, .data⟩, ⟨68, .chain⟩, ⟨0, .phase⟩, ⟨1, .phase⟩, ⟨2, .phase⟩, ⟨3, .phase⟩, ⟨4, .phase⟩, ⟨5, .phase⟩, ⟨6, .phase⟩, ⟨7, .phase⟩, ⟨8, .phase⟩, ⟨9, .phase⟩, ⟨10, .phase⟩, ⟨11, .phase⟩, ⟨12, .phase⟩, ⟨13, .phase⟩, ⟨14, .phase⟩, ⟨15, .phase⟩, ⟨16, .phase⟩, ⟨17, .phase⟩, ⟨18, .phase⟩, ⟨19, .phase⟩, ⟨20, .phase⟩, ⟨21, .phase⟩, ⟨22, .phase⟩, ⟨23, .phase⟩, ⟨24, .phase⟩, ⟨25, .phase⟩, ⟨26, .phase⟩, ⟨27, .phase⟩, ⟨28, .phase⟩, ⟨29, .phase⟩, ⟨30, .phase⟩, ⟨31, .phase⟩, ⟨32, .phase⟩, ⟨33, .phase⟩, ⟨34, .phase⟩, ⟨35, .phase⟩, ⟨36, .phase⟩, ⟨37, .phase⟩, ⟨38, .phase⟩, ⟨39, .phase⟩, ⟨40, .phase⟩, ⟨41, .phase⟩, ⟨42, .phase⟩, ⟨43, .phase⟩, ⟨44, .phase⟩, ⟨45, .phase⟩, ⟨46, .phase⟩, ⟨47, .phase⟩] ++ #[⟨48, .phase⟩, ⟨49, .phase⟩, ⟨50, .phase⟩, ⟨51, .phase⟩, ⟨52, .phase⟩, ⟨53, .phase⟩, ⟨54, .phase⟩, ⟨55, .phase⟩, ⟨56, .phase⟩, ⟨57, .phase⟩, ⟨58, .phase⟩, ⟨59, .phase⟩, ⟨60, .phase⟩, ⟨61, .phase⟩, ⟨62, .phase⟩, ⟨63, .phase⟩, ⟨64, .phase⟩, ⟨65, .phase⟩, ⟨66, .phase⟩, ⟨67, .phase⟩, ⟨68, .phase⟩, ⟨69, .phase⟩, ⟨70, .phase⟩, ⟨71, .phase⟩]), none⟩) (v := ?_) rfl (by kernel_rfl) (by kernel_rfl) (by kernel_rfl) (fun _ _ _ h => h) (Or.inl ⟨by rfl, ?hyr1x72q296⟩) (by assumption) ?restr1x72q296
    case hyr1x72q296 => intro wq hSw; (go_simp); (try with_reducible rfl)
    try simp only [Act.put, List.setIfInBounds_toArray, List.set_cons_zero, List.set_cons_succ]
    refine wpAnyH_done (by kernel_rfl) ?_ _
    have KE := K4.out.nx hHeld
    go_wp2_with fail
    go_ret
    exact ⟨rfl, KE⟩
  refine AllReadyH.cons (o := ⟨some 24, .buildSlice 22 2 #[(0, .const (.int .i64 2)), (1, .const (.int .i64 3))], 22, "law.go:23", #[⟨15, .guard⟩], some (15, true)⟩) rfl (fun K hK => ?_) AllReadyH.nil
  · go_simp
    obtain ⟨gB, wB, hgB, hwB, SB, kk, jj⟩ := lit2 hHeld 2 3
    rw [← hgB, ← hwB]
    clear hgB hwB jj
    (try replace s5 := s5.nx kk)
    replace hHeld := hHeld.nx kk
    clear kk
    refine hK.out _ _ (hHeld) (fun hHeld => ?_)
    clear hK K
    try simp only [Act.put, List.setIfInBounds_toArray, List.set_cons_zero, List.set_cons_succ]
    refine wpAnyH_ready (rs := [16]) (by kernel_rfl) (by simp) ?_
    refine AllReadyH.cons (o := ⟨some 23, .call { callee := .value (.func 87), args := #[], argTypes := #[] }, 23, "law.go:23", #[⟨15, .chain⟩, ⟨15, .guard⟩], some (15, true)⟩) rfl (fun K hK => ?_) AllReadyH.nil
    go_simp
    (with_reducible refine (five_x _).mono ?_)
    rintro e w5 ⟨a5, rfl, s5, kk⟩
    (try replace SB := SB.nx kk)
    replace hHeld := hHeld.nx kk
    clear kk
    refine hK.out _ _ (hHeld) (fun hHeld => ?_)
    clear hK K
    try simp only [Act.put, List.setIfInBounds_toArray, List.set_cons_zero, List.set_cons_succ]
    refine wpAnyH_ready (rs := [18]) (by kernel_rfl) (by simp) ?_
    refine AllReadyH.cons (o := ⟨some 25, .call { callee := .value (.func 53), args := #[.tmp 23, .tmp 24], argTypes := #[23, 22] }, 3, "law.go:23", #[⟨16, .data⟩, ⟨17, .data⟩, ⟨16, .chain⟩, ⟨15, .guard⟩], some (15, true)⟩) rfl (fun K hK => ?_) AllReadyH.nil
    go_simp
    (with_reducible refine (gap_p _ _ _ fiveN _ _ _ [2, 3] _ s5 (by omega) (by omega) (by unfold maxLen; omega) SB (by omega)).mono ?_)
    rintro e w6 ⟨rfl, kk⟩
    rw [five_gap]
    replace hHeld := hHeld.nx kk
    clear kk s5 SB
    refine hK.out _ _ (hHeld) (fun hHeld => ?_)
    clear hK K
    try simp only [Act.put, List.setIfInBounds_toArray, List.set_cons_zero, List.set_cons_succ]
    refine wpAnyH_take (i := 19) (oi := ⟨some 26, .binOp .eql 3 (.tmp 25) (.const (.int .i64 2)) 3, 4, "law.go:23", #[⟨18, .data⟩, ⟨15, .guard⟩], some (15, true)⟩) (v := ?_) rfl (by kernel_rfl) (by kernel_rfl) (by kernel_rfl) (fun _ _ _ h => h) (Or.inl ⟨by rfl, ?hyr1x19q334⟩) (by assumption) ?restr1x19q334
    case hyr1x19q334 => intro wq hSw; (go_simp); (try with_reducible rfl)
    try simp only [Act.put, List.setIfInBounds_toArray, List.set_cons_zero, List.set_cons_succ]
    refine wpAnyH_take (i := 20) (oi := ⟨some 27, .pick (.tmp 22) (.tmp 26) (.const (.bool false)), 4, "law.go:23", #[⟨15, .data⟩, ⟨19, .data⟩], none⟩) (v := ?_) rfl (by kernel_rfl) (by kernel_rfl) (by kernel_rfl) (fun _ _ _ h => h) (Or.inl ⟨by rfl, ?hyr1x20q337⟩) (by assumption) ?restr1x20q337
    case hyr1x20q337 => intro wq hSw; (go_simp); (try with_reducible rfl)
    try simp only [Act.put, List.setIfInBounds_toArray, List.set_cons_zero, List.set_cons_succ]
    refine wpAnyH_take (i := 21) (oi := ⟨some 28, .move (.tmp 27), 4, "law.go:23", #[⟨20, .data⟩, ⟨18, .chain⟩], none⟩) (v := ?_) rfl (by kernel_rfl) (by kernel_rfl) (by kernel_rfl) (fun _ _ _ h => h) (Or.inl ⟨by rfl, ?hyr1x21q340⟩) (by assumption) ?restr1x21q340
    case hyr1x21q340 => intro wq hSw; (go_simp); (try with_reducible rfl)
    try simp only [Act.put, List.setIfInBounds_toArray, List.set_cons_zero, List.set_cons_succ]
    refine wpAnyH_take (i := 22) (oi := ⟨some 29, .move (.tmp 2), 63, "law.go:23", #[⟨21, .guard⟩], some (21, true)⟩) (v := ?_) rfl (by kernel_rfl) (by kernel_rfl) (by kernel_rfl) (fun _ _ _ h => h) (Or.inl ⟨by rfl, ?hyr1x22q343⟩) (by assumption) ?restr1x22q343
    case hyr1x22q343 => intro wq hSw; (go_simp); (try with_reducible rfl)
    try simp only [Act.put, List.setIfInBounds_toArray, List.set_cons_zero, List.set_cons_succ]
    refine wpAnyH_take (i := 23) (oi := ⟨some 30, .call { callee := .builtin .len, args := #[.tmp 29], argTypes := #[63] }, 3, "law.go:23", #[⟨22, .data⟩, ⟨21, .guard⟩], some (21, true)⟩) (v := ?_) rfl (by kernel_rfl) (by kernel_rfl) (by kernel_rfl) (fun _ _ _ h => h) (Or.inl ⟨by rfl, ?hyr1x23q346⟩) (by assumption) ?restr1x23q346
    case hyr1x23q346 => intro wq hSw; (go_simp); (try with_reducible rfl)
    try simp only [Act.put, List.setIfInBounds_toArray, List.set_cons_zero, List.set_cons_succ]
    refine wpAnyH_take (i := 24) (oi := ⟨some 31, .binOp .eql 3 (.tmp 30) (.const (.int .i64 5)) 3, 4, "law.go:23", #[⟨23, .data⟩, ⟨21, .guard⟩], some (21, true)⟩) (v := ?_) rfl (by kernel_rfl) (by kernel_rfl) (by kernel_rfl) (fun _ _ _ h => h) (Or.inl ⟨by rfl, ?hyr1x24q349⟩) (by assumption) ?restr1x24q349
    case hyr1x24q349 => intro wq hSw; (go_simp); (try with_reducible rfl)
    try simp only [Act.put, List.setIfInBounds_toArray, List.set_cons_zero, List.set_cons_succ]
    refine wpAnyH_take (i := 25) (oi := ⟨some 32, .pick (.tmp 28) (.tmp 31) (.const (.bool false)), 4, "law.go:23", #[⟨21, .data⟩, ⟨24, .data⟩], none⟩) (v := ?_) rfl (by kernel_rfl) (by kernel_rfl) (by kernel_rfl) (fun _ _ _ h => h) (Or.inl ⟨by rfl, ?hyr1x25q352⟩) (by assumption) ?restr1x25q352
    case hyr1x25q352 => intro wq hSw; (go_simp); (try with_reducible rfl)
    try simp only [Act.put, List.setIfInBounds_toArray, List.set_cons_zero, List.set_cons_succ]
    refine wpAnyH_take (i := 26) (oi := ⟨some 33, .move (.tmp 32), 4, "law.go:23", #[⟨25, .data⟩, ⟨21, .chain⟩], none⟩) (v := ?_) rfl (by kernel_rfl) (by kernel_rfl) (by kernel_rfl) (fun _ _ _ h => h) (Or.inl ⟨by rfl, ?hyr1x26q355⟩) (by assumption) ?restr1x26q355
    case hyr1x26q355 => intro wq hSw; (go_simp); (try with_reducible rfl)
    try simp only [Act.put, List.setIfInBounds_toArray, List.set_cons_zero, List.set_cons_succ]
    refine wpAnyH_take (i := 27) (oi := ⟨some 34, .move (.tmp 2), 63, "law.go:23", #[⟨26, .guard⟩], some (26, true)⟩) (v := ?_) rfl (by kernel_rfl) (by kernel_rfl) (by kernel_rfl) (fun _ _ _ h => h) (Or.inl ⟨by rfl, ?hyr1x27q358⟩) (by assumption) ?restr1x27q358
    case hyr1x27q358 => intro wq hSw; (go_simp); (try with_reducible rfl)
    try simp only [Act.put, List.setIfInBounds_toArray, List.set_cons_zero, List.set_cons_succ]
    refine wpAnyH_take (i := 28) (oi := ⟨some 35, .indexAddr 63 (.tmp 34) (.const (.int .i64 2)), 0, "law.go:23", #[⟨27, .data⟩, ⟨26, .guard⟩], some (26, true)⟩) (v := ?_) rfl (by kernel_rfl) (by kernel_rfl) (by kernel_rfl) (fun _ _ _ h => h) (Or.inl ⟨by rfl, ?hyr1x28q361⟩) (by assumption) ?restr1x28q361
    case hyr1x28q361 => intro wq hSw; (go_simp); (try with_reducible rfl)
    try simp only [Act.put, List.setIfInBounds_toArray, List.set_cons_zero, List.set_cons_succ]
    refine wpAnyH_take (i := 29) (oi := ⟨some 36, .fieldAddr 68 (.tmp 35) 2, 0, "law.go:23", #[⟨28, .data⟩, ⟨26, .guard⟩], some (26, true)⟩) (v := ?_) rfl (by kernel_rfl) (by kernel_rfl) (by kernel_rfl) (fun _ _ _ h => h) (Or.inl ⟨by rfl, ?hyr1x29q364⟩) (by assumption) ?restr1x29q364
    case hyr1x29q364 => intro wq hSw; (go_simp); (try with_reducible rfl)
    try simp only [Act.put, List.setIfInBounds_toArray, List.set_cons_zero, List.set_cons_succ]
    refine wpAnyH_take (i := 30) (oi := ⟨some 37, .load 3 (.tmp 36), 3, "law.go:23", #[⟨29, .data⟩, ⟨26, .guard⟩], some (26, true)⟩) (v := ?_) rfl (by kernel_rfl) (by kernel_rfl) (by kernel_rfl) (fun _ _ _ h => h) (Or.inl ⟨by rfl, ?hyr1x30q367⟩) (by assumption) ?restr1x30q367
    case hyr1x30q367 => intro wq hSw; (have cq := P2.out wq hSw; go_simp); (try with_reducible rfl)
    try simp only [Act.put, List.setIfInBounds_toArray, List.set_cons_zero, List.set_cons_succ]
    refine wpAnyH_take (i := 31) (oi := ⟨some 38, .binOp .eql 3 (.tmp 37) (.const (.int .i64 2)) 3, 4, "law.go:23", #[⟨30, .data⟩, ⟨26, .guard⟩], some (26, true)⟩) (v := ?_) rfl (by kernel_rfl) (by kernel_rfl) (by kernel_rfl) (fun _ _ _ h => h) (Or.inl ⟨by rfl, ?hyr1x31q370⟩) (by assumption) ?restr1x31q370
    case hyr1x31q370 => intro wq hSw; (go_simp); (try with_reducible rfl)
    try simp only [Act.put, List.setIfInBounds_toArray, List.set_cons_zero, List.set_cons_succ]
    refine wpAnyH_take (i := 32) (oi := ⟨some 39, .pick (.tmp 33) (.tmp 38) (.const (.bool false)), 4, "law.go:23", #[⟨26, .data⟩, ⟨31, .data⟩], none⟩) (v := ?_) rfl (by kernel_rfl) (by kernel_rfl) (by kernel_rfl) (fun _ _ _ h => h) (Or.inl ⟨by rfl, ?hyr1x32q373⟩) (by assumption) ?restr1x32q373
    case hyr1x32q373 => intro wq hSw; (go_simp); (try with_reducible rfl)
    try simp only [Act.put, List.setIfInBounds_toArray, List.set_cons_zero, List.set_cons_succ]
    refine wpAnyH_take (i := 33) (oi := ⟨some 40, .move (.tmp 39), 4, "law.go:23", #[⟨32, .data⟩, ⟨26, .chain⟩], none⟩) (v := ?_) rfl (by kernel_rfl) (by kernel_rfl) (by kernel_rfl) (fun _ _ _ h => h) (Or.inl ⟨by rfl, ?hyr1x33q376⟩) (by assumption) ?restr1x33q376
    case hyr1x33q376 => intro wq hSw; (go_simp); (try with_reducible rfl)
    try simp only [Act.put, List.setIfInBounds_toArray, List.set_cons_zero, List.set_cons_succ]
    refine wpAnyH_take (i := 34) (oi := ⟨some 41, .move (.tmp 2), 63, "law.go:23", #[⟨33, .guard⟩], some (33, true)⟩) (v := ?_) rfl (by kernel_rfl) (by kernel_rfl) (by kernel_rfl) (fun _ _ _ h => h) (Or.inl ⟨by rfl, ?hyr1x34q379⟩) (by assumption) ?restr1x34q379
    case hyr1x34q379 => intro wq hSw; (go_simp); (try with_reducible rfl)
    try simp only [Act.put, List.setIfInBounds_toArray, List.set_cons_zero, List.set_cons_succ]
    refine wpAnyH_take (i := 35) (oi := ⟨some 42, .indexAddr 63 (.tmp 41) (.const (.int .i64 2)), 0, "law.go:23", #[⟨34, .data⟩, ⟨33, .guard⟩], some (33, true)⟩) (v := ?_) rfl (by kernel_rfl) (by kernel_rfl) (by kernel_rfl) (fun _ _ _ h => h) (Or.inl ⟨by rfl, ?hyr1x35q382⟩) (by assumption) ?restr1x35q382
    case hyr1x35q382 => intro wq hSw; (go_simp); (try with_reducible rfl)
    try simp only [Act.put, List.setIfInBounds_toArray, List.set_cons_zero, List.set_cons_succ]
    refine wpAnyH_take (i := 36) (oi := ⟨some 43, .fieldAddr 68 (.tmp 42) 4, 0, "law.go:23", #[⟨35, .data⟩, ⟨33, .guard⟩], some (33, true)⟩) (v := ?_) rfl (by kernel_rfl) (by kernel_rfl) (by kernel_rfl) (fun _ _ _ h => h) (Or.inl ⟨by rfl, ?hyr1x36q385⟩) (by assumption) ?restr1x36q385
    case hyr1x36q385 => intro wq hSw; (go_simp); (try with_reducible rfl)
    try simp only [Act.put, List.setIfInBounds_toArray, List.set_cons_zero, List.set_cons_succ]
    refine wpAnyH_take (i := 37) (oi := ⟨some 44, .load 66 (.tmp 43), 66, "law.go:23", #[⟨36, .data⟩, ⟨33, .guard⟩], some (33, true)⟩) (v := ?_) rfl (by kernel_rfl) (by kernel_rfl) (by kernel_rfl) (fun _ _ _ h => h) (Or.inl ⟨by rfl, ?hyr1x37q388⟩) (by assumption) ?restr1x37q388
    case hyr1x37q388 => intro wq hSw; (have cq := P4.out wq hSw; go_simp); (try with_reducible rfl)
    try simp only [Act.put, List.setIfInBounds_toArray, List.set_cons_zero, List.set_cons_succ]
    refine wpAnyH_take (i := 38) (oi := ⟨some 45, .call { callee := .builtin .len, args := #[.tmp 44], argTypes := #[66] }, 3, "law.go:23", #[⟨37, .data⟩, ⟨33, .guard⟩], some (33, true)⟩) (v := ?_) rfl (by kernel_rfl) (by kernel_rfl) (by kernel_rfl) (fun _ _ _ h => h) (Or.inl ⟨by rfl, ?hyr1x38q391⟩) (by assumption) ?restr1x38q391
    case hyr1x38q391 => intro wq hSw; (go_simp); (try with_reducible rfl)
    try simp only [Act.put, List.setIfInBounds_toArray, List.set_cons_zero, List.set_cons_succ]
    refine wpAnyH_take (i := 39) (oi := ⟨some 46, .binOp .eql 3 (.tmp 45) (.const (.int .i64 1)) 3, 4, "law.go:23", #[⟨38, .data⟩, ⟨33, .guard⟩], some (33, true)⟩) (v := ?_) rfl (by kernel_rfl) (by kernel_rfl) (by kernel_rfl) (fun _ _ _ h => h) (Or.inl ⟨by rfl, ?hyr1x39q394⟩) (by assumption) ?restr1x39q394
    case hyr1x39q394 => intro wq hSw; (go_simp); (try with_reducible rfl)
    try simp only [Act.put, List.setIfInBounds_toArray, List.set_cons_zero, List.set_cons_succ]
    refine wpAnyH_take (i := 40) (oi := ⟨some 47, .pick (.tmp 40) (.tmp 46) (.const (.bool false)), 4, "law.go:23", #[⟨33, .data⟩, ⟨39, .data⟩], none⟩) (v := ?_) rfl (by kernel_rfl) (by kernel_rfl) (by kernel_rfl) (fun _ _ _ h => h) (Or.inl ⟨by rfl, ?hyr1x40q397⟩) (by assumption) ?restr1x40q397
    case hyr1x40q397 => intro wq hSw; (go_simp); (try with_reducible rfl)
    try simp only [Act.put, List.setIfInBounds_toArray, List.set_cons_zero, List.set_cons_succ]
    refine wpAnyH_take (i := 41) (oi := ⟨some 48, .move (.tmp 47), 4, "law.go:23", #[⟨40, .data⟩, ⟨33, .chain⟩], none⟩) (v := ?_) rfl (by kernel_rfl) (by kernel_rfl) (by kernel_rfl) (fun _ _ _ h => h) (Or.inl ⟨by rfl, ?hyr1x41q400⟩) (by assumption) ?restr1x41q400
    case hyr1x41q400 => intro wq hSw; (go_simp); (try with_reducible rfl)
    try simp only [Act.put, List.setIfInBounds_toArray, List.set_cons_zero, List.set_cons_succ]
    refine wpAnyH_take (i := 42) (oi := ⟨some 49, .move (.tmp 2), 63, "law.go:23", #[⟨41, .guard⟩], some (41, true)⟩) (v := ?_) rfl (by kernel_rfl) (by kernel_rfl) (by kernel_rfl) (fun _ _ _ h => h) (Or.inl ⟨by rfl, ?hyr1x42q403⟩) (by assumption) ?restr1x42q403
    case hyr1x42q403 => intro wq hSw; (go_simp); (try with_reducible rfl)
    try simp only [Act.put, List.setIfInBounds_toArray, List.set_cons_zero, List.set_cons_succ]
    refine wpAnyH_take (i := 43) (oi := ⟨some 50, .indexAddr 63 (.tmp 49) (.const (.int .i64 2)), 0, "law.go:23", #[⟨42, .data⟩, ⟨41, .guard⟩], some (41, true)⟩) (v := ?_) rfl (by kernel_rfl) (by kernel_rfl) (by kernel_rfl) (fun _ _ _ h => h) (Or.inl ⟨by rfl, ?hyr1x43q406⟩) (by assumption) ?restr1x43q406
    case hyr1x43q406 => intro wq hSw; (go_simp); (try with_reducible rfl)
    try simp only [Act.put, List.setIfInBounds_toArray, List.set_cons_zero, List.set_cons_succ]
    refine wpAnyH_take (i := 44) (oi := ⟨some 51, .fieldAddr 68 (.tmp 50) 4, 0, "law.go:23", #[⟨43, .data⟩, ⟨41, .guard⟩], some (41, true)⟩) (v := ?_) rfl (by kernel_rfl) (by kernel_rfl) (by kernel_rfl) (fun _ _ _ h => h) (Or.inl ⟨by rfl, ?hyr1x44q409⟩) (by assumption) ?restr1x44q409
    case hyr1x44q409 => intro wq hSw; (go_simp); (try with_reducible rfl)
    try simp only [Act.put, List.setIfInBounds_toArray, List.set_cons_zero, List.set_cons_succ]
    refine wpAnyH_take (i := 45) (oi := ⟨some 52, .load 66 (.tmp 51), 66, "law.go:23", #[⟨44, .data⟩, ⟨41, .guard⟩], some (41, true)⟩) (v := ?_) rfl (by kernel_rfl) (by kernel_rfl) (by kernel_rfl) (fun _ _ _ h => h) (Or.inl ⟨by rfl, ?hyr1x45q412⟩) (by assumption) ?restr1x45q412
    case hyr1x45q412 => intro wq hSw; (have cq := P4.out wq hSw; go_simp); (try with_reducible rfl)
    try simp only [Act.put, List.setIfInBounds_toArray, List.set_cons_zero, List.set_cons_succ]
    refine wpAnyH_take (i := 46) (oi := ⟨some 53, .indexAddr 66 (.tmp 52) (.const (.int .i64 0)), 0, "law.go:23", #[⟨45, .data⟩, ⟨41, .guard⟩], some (41, true)⟩) (v := ?_) rfl (by kernel_rfl) (by kernel_rfl) (by kernel_rfl) (fun _ _ _ h => h) (Or.inl ⟨by rfl, ?hyr1x46q415⟩) (by assumption) ?restr1x46q415
    case hyr1x46q415 => intro wq hSw; (go_simp); (try with_reducible rfl)
    try simp only [Act.put, List.setIfInBounds_toArray, List.set_cons_zero, List.set_cons_succ]
    refine wpAnyH_take (i := 47) (oi := ⟨some 54, .fieldAddr 123 (.tmp 53) 0, 0, "law.go:23", #[⟨46, .data⟩, ⟨41, .guard⟩], some (41, true)⟩) (v := ?_) rfl (by kernel_rfl) (by kernel_rfl) (by kernel_rfl) (fun _ _ _ h => h) (Or.inl ⟨by rfl, ?hyr1x47q418⟩) (by assumption) ?restr1x47q418
    case hyr1x47q418 => intro wq hSw; (go_simp); (try with_reducible rfl)
    try simp only [Act.put, List.setIfInBounds_toArray, List.set_cons_zero, List.set_cons_succ]
    refine wpAnyH_take (i := 48) (oi := ⟨some 55, .load 3 (.tmp 54), 3, "law.go:23", #[⟨47, .data⟩, ⟨41, .guard⟩], some (41, true)⟩) (v := ?_) rfl (by kernel_rfl) (by kernel_rfl) (by kernel_rfl) (fun _ _ _ h => h) (Or.inl ⟨by rfl, ?hyr1x48q421⟩) (by assumption) ?restr1x48q421
    case hyr1x48q421 => intro wq hSw; (have cq := Q0.out wq hSw; go_simp); (try with_reducible rfl)
    try simp only [Act.put, List.setIfInBounds_toArray, List.set_cons_zero, List.set_cons_succ]
    refine wpAnyH_take (i := 49) (oi := ⟨some 56, .binOp .eql 3 (.tmp 55) (.const (.int .i64 1)) 3, 4, "law.go:23", #[⟨48, .data⟩, ⟨41, .guard⟩], some (41, true)⟩) (v := ?_) rfl (by kernel_rfl) (by kernel_rfl) (by kernel_rfl) (fun _ _ _ h => h) (Or.inl ⟨by rfl, ?hyr1x49q424⟩) (by assumption) ?restr1x49q424
    case hyr1x49q424 => intro wq hSw; (go_simp); (try with_reducible rfl)
    try simp only [Act.put, List.setIfInBounds_toArray, List.set_cons_zero, List.set_cons_succ]
    refine wpAnyH_take (i := 50) (oi := ⟨some 57, .pick (.tmp 48) (.tmp 56) (.const (.bool false)), 4, "law.go:23", #[⟨41, .data⟩, ⟨49, .data⟩], none⟩) (v := ?_) rfl (by kernel_rfl) (by kernel_rfl) (by kernel_rfl) (fun _ _ _ h => h) (Or.inl ⟨by rfl, ?hyr1x50q427⟩) (by assumption) ?restr1x50q427
    case hyr1x50q427 => intro wq hSw; (go_simp); (try with_reducible rfl)
    try simp only [Act.put, List.setIfInBounds_toArray, List.set_cons_zero, List.set_cons_succ]
    refine wpAnyH_take (i := 51) (oi := ⟨some 58, .move (.tmp 57), 4, "law.go:23", #[⟨50, .data⟩, ⟨41, .chain⟩], none⟩) (v := ?_) rfl (by kernel_rfl) (by kernel_rfl) (by kernel_rfl) (fun _ _ _ h => h) (Or.inl ⟨by rfl, ?hyr1x51q430⟩) (by assumption) ?restr1x51q430
    case hyr1x51q430 => intro wq hSw; (go_simp); (try with_reducible rfl)
    try simp only [Act.put, List.setIfInBounds_toArray, List.set_cons_zero, List.set_cons_succ]
    refine wpAnyH_take (i := 53) (oi := ⟨some 60, .move (.tmp 2), 63, "law.go:23", #[⟨51, .guard⟩], some (51, true)⟩) (v := ?_) rfl (by kernel_rfl) (by kernel_rfl) (by kernel_rfl) (fun _ _ _ h => h) (Or.inl ⟨by rfl, ?hyr1x53q433⟩) (by assumption) ?restr1x53q433
    case hyr1x53q433 => intro wq hSw; (go_simp); (try with_reducible rfl)
    try simp only [Act.put, List.setIfInBounds_toArray, List.set_cons_zero, List.set_cons_succ]
    refine wpAnyH_ready (rs := [52]) (by kernel_rfl) (by simp) ?_
    refine AllReadyH.cons (o := ⟨some 59, .call { callee := .value (.func 87), args := #[], argTypes := #[] }, 23, "law.go:23", #[⟨51, .chain⟩, ⟨51, .guard⟩], some (51, true)⟩) rfl (fun K hK => ?_) AllReadyH.nil
    go_simp
    (with_reducible refine (five_x _).mono ?_)
    rintro e w7 ⟨a5, rfl, s5, kk⟩
    replace hHeld := hHeld.nx kk
    clear kk
    refine hK.out _ _ (hHeld) (fun hHeld => ?_)
    clear hK K
    try simp only [Act.put, List.setIfInBounds_toArray, List.set_cons_zero, List.set_cons_succ]
    refine wpAnyH_ready (rs := [54]) (by kernel_rfl) (by simp) ?_
    refine AllReadyH.cons (o := ⟨some 61, .call { callee := .value (.func 43), args := #[.tmp 59, .tmp 60], argTypes := #[23, 63] }, 4, "law.go:23", #[⟨52, .data⟩, ⟨53, .data⟩, ⟨52, .chain⟩, ⟨51, .guard⟩], some (51, true)⟩) rfl (fun K hK => ?_) AllReadyH.nil
    go_simp
    (with_reducible refine (connected_p _ _ _ fiveN _ _ _ _ _ s5 (by omega) (by omega) (by unfold maxLen; omega) (P.out.nx hHeld) (by omega) five_small).mono ?_)
    rintro e w8 ⟨rfl, kk⟩
    rw [five_conn]
    replace hHeld := hHeld.nx kk
    clear kk s5
    refine hK.out _ _ (hHeld) (fun hHeld => ?_)
    clear hK K
    try simp only [Act.put, List.setIfInBounds_toArray, List.set_cons_zero, List.set_cons_succ]
    refine wpAnyH_take (i := 55) (oi := ⟨some 62, .pick (.tmp 58) (.tmp 61) (.const (.bool false)), 4, "law.go:23", #[⟨51, .data⟩, ⟨54, .data⟩], none⟩) (v := ?_) rfl (by kernel_rfl) (by kernel_rfl) (by kernel_rfl) (fun _ _ _ h => h) (Or.inl ⟨by rfl, ?hyr1x55q457⟩) (by assumption) ?restr1x55q457
    case hyr1x55q457 => intro wq hSw; (go_simp); (try with_reducible rfl)
    try simp only [Act.put, List.setIfInBounds_toArray, List.set_cons_zero, List.set_cons_succ]
    refine wpAnyH_take (i := 56) (oi := ⟨some 63, .move (.tmp 62), 4, "law.go:23", #[⟨55, .data⟩, ⟨54, .chain⟩], none⟩) (v := ?_) rfl (by kernel_rfl) (by kernel_rfl) (by kernel_rfl) (fun _ _ _ h => h) (Or.inl ⟨by rfl, ?hyr1x56q460⟩) (by assumption) ?restr1x56q460
    case hyr1x56q460 => intro wq hSw; (go_simp); (try with_reducible rfl)
    try simp only [Act.put, List.setIfInBounds_toArray, List.set_cons_zero, List.set_cons_succ]
    refine wpAnyH_take (i := 58) (oi := ⟨some 65, .move (.tmp 2), 63, "law.go:23", #[⟨56, .guard⟩], some (56, true)⟩) (v := ?_) rfl (by kernel_rfl) (by kernel_rfl) (by kernel_rfl) (fun _ _ _ h => h) (Or.inl ⟨by rfl, ?hyr1x58q463⟩) (by assumption) ?restr1x58q463
    case hyr1x58q463 => intro wq hSw; (go_simp); (try with_reducible rfl)
    try simp only [Act.put, List.setIfInBounds_toArray, List.set_cons_zero, List.set_cons_succ]
    refine wpAnyH_take (i := 59) (oi := ⟨some 66, .indexAddr 63 (.tmp 65) (.const (.int .i64 0)), 0, "law.go:23", #[⟨58, .data⟩, ⟨56, .guard⟩], some (56, true)⟩) (v := ?_) rfl (by kernel_rfl) (by kernel_rfl) (by kernel_rfl) (fun _ _ _ h => h) (Or.inl ⟨by rfl, ?hyr1x59q466⟩) (by assumption) ?restr1x59q466
    case hyr1x59q466 => intro wq hSw; (go_simp); (try with_reducible rfl)
    try simp only [Act.put, List.setIfInBounds_toArray, List.set_cons_zero, List.set_cons_succ]
    refine wpAnyH_take (i := 60) (oi := ⟨some 67, .load 68 (.tmp 66), 68, "law.go:23", #[⟨59, .data⟩, ⟨56, .guard⟩], some (56, true)⟩) (v := ?_) rfl (by kernel_rfl) (by kernel_rfl) (by kernel_rfl) (fun _ _ _ h => h) (Or.inl ⟨by rfl, ?hyr1x60q469⟩) (by assumption) ?restr1x60q469
    case hyr1x60q469 => intro wq hSw; (have c0 := R0.out wq hSw; have c1 := R1.out wq hSw; have c2 := R2.out wq hSw; have c3 := R3.out wq hSw; have c4 := R4.out wq hSw; go_simp); (try with_reducible rfl)
    try simp only [Act.put, List.setIfInBounds_toArray, List.set_cons_zero, List.set_cons_succ]
    refine wpAnyH_ready (rs := [57]) (by kernel_rfl) (by simp) ?_
    refine AllReadyH.cons (o := ⟨some 64, .call { callee := .value (.func 87), args := #[], argTypes := #[] }, 23, "law.go:23", #[⟨56, .chain⟩, ⟨56, .guard⟩], some (56, true)⟩) rfl (fun K hK => ?_) AllReadyH.nil
    go_simp
    (with_reducible refine (five_x _).mono ?_)
    rintro e w9 ⟨a5, rfl, s5, kk⟩
    replace hHeld := hHeld.nx kk
    clear kk
    refine hK.out _ _ (hHeld) (fun hHeld => ?_)
    clear hK K
    try simp only [Act.put, List.setIfInBounds_toArray, List.set_cons_zero, List.set_cons_succ]
    refine wpAnyH_ready (rs := [61]) (by kernel_rfl) (by simp) ?_
    refine AllReadyH.cons (o := ⟨some 68, .call { callee := .value (.func 46), args := #[.tmp 64, .tmp 67], argTypes := #[23, 68] }, 22, "law.go:23", #[⟨57, .data⟩, ⟨60, .data⟩, ⟨57, .chain⟩, ⟨56, .guard⟩], some (56, true)⟩) rfl (fun K hK => ?_) AllReadyH.nil
    go_simp
    (with_reducible refine (refs_p _ _ _ fiveN y' _ _ _ _ _ _ _ s5 (by omega) (by omega) (by unfold maxLen; omega) (r1.out.nx hHeld) (r4.out.nx hHeld) hl1 hl4).mono ?_)
    rintro e w10 ⟨v, rfl, own, kk⟩
    obtain ⟨aR, cR, rfl, R, _, _, _⟩ := own.slf (fun _ => rfl)
    have hR := hy1.out
    generalize (refsN fiveN y').length = nr at R hR ⊢
    have hR' : (0 : Int) < (nr : Int) := by omega
    replace hHeld := hHeld.nx kk
    clear kk s5 own R
    refine hK.out _ _ (hHeld) (fun hHeld => ?_)
    clear hK K
    try simp only [Act.put, List.setIfInBounds_toArray, List.set_cons_zero, List.set_cons_succ]
    refine wpAnyH_take (i := 62) (oi := ⟨some 69, .call { callee := .builtin .len, args := #[.tmp 68], argTypes := #[22] }, 3, "law.go:23", #[⟨61, .data⟩, ⟨56, .guard⟩], some (56, true)⟩) (v := ?_) rfl (by kernel_rfl) (by kernel_rfl) (by kernel_rfl) (fun _ _ _ h => h) (Or.inl ⟨by rfl, ?hyr1x62q496⟩) (by assumption) ?restr1x62q496
    case hyr1x62q496 => intro wq hSw; (go_simp); (try with_reducible rfl)
    try simp only [Act.put, List.setIfInBounds_toArray, List.set_cons_zero, List.set_cons_succ]
    refine wpAnyH_take (i := 63) (oi := ⟨some 70, .binOp .gtr 3 (.tmp 69) (.const (.int .i64 0)) 3, 4, "law.go:23", #[⟨62, .data⟩, ⟨56, .guard⟩], some (56, true)⟩) (v := ?_) rfl (by kernel_rfl) (by kernel_rfl) (by kernel_rfl) (fun _ _ _ h => h) (Or.inl ⟨by rfl, ?hyr1x63q499⟩) (by assumption) ?restr1x63q499
    case hyr1x63q499 => intro wq hSw; (go_simp); (try with_reducible rfl)
    try simp only [Act.put, List.setIfInBounds_toArray, List.set_cons_zero, List.set_cons_succ]
    refine wpAnyH_take (i := 64) (oi := ⟨some 71, .pick (.tmp 63) (.tmp 70) (.const (.bool false)), 4, "law.go:23", #[⟨56, .data⟩, ⟨63, .data⟩], none⟩) (v := ?_) rfl (by kernel_rfl) (by kernel_rfl) (by kernel_rfl) (fun _ _ _ h => h) (Or.inl ⟨by rfl, ?hyr1x64q502⟩) (by assumption) ?restr1x64q502
    case hyr1x64q502 => intro wq hSw; (go_simp); (try with_reducible rfl)
    try simp only [Act.put, List.setIfInBounds_toArray, List.set_cons_zero, List.set_cons_succ]
    refine wpAnyH_take (i := 65) (oi := ⟨some 72, .move (.tmp 71), 4, "law.go:23", #[⟨64, .data⟩, ⟨61, .chain⟩], none⟩) (v := ?_) rfl (by kernel_rfl) (by kernel_rfl) (by kernel_rfl) (fun _ _ _ h => h) (Or.inl ⟨by rfl, ?hyr1x65q505⟩) (by assumption) ?restr1x65q505
    case hyr1x65q505 => intro wq hSw; (go_simp); (try with_reducible rfl)
    try simp only [Act.put, List.setIfInBounds_toArray, List.set_cons_zero, List.set_cons_succ]
    refine wpAnyH_take (i := 66) (oi := ⟨some 73, .move (.tmp 2), 63, "law.go:23", #[⟨65, .guard⟩], some (65, true)⟩) (v := ?_) rfl (by kernel_rfl) (by kernel_rfl) (by kernel_rfl) (fun _ _ _ h => h) (Or.inl ⟨by rfl, ?hyr1x66q508⟩) (by assumption) ?restr1x66q508
    case hyr1x66q508 => intro wq hSw; (go_simp); (try with_reducible rfl)
    try simp only [Act.put, List.setIfInBounds_toArray, List.set_cons_zero, List.set_cons_succ]
    refine wpAnyH_ready (rs := [67]) (by kernel_rfl) (by simp) ?_
    refine AllReadyH.cons (o := ⟨some 74, .buildSlice 22 1 #[(0, .const (.int .i64 1))], 22, "law.go:23", #[⟨65, .guard⟩], some (65, true)⟩) rfl (fun K hK => ?_) AllReadyH.nil
    go_simp
    obtain ⟨gB, wB, hgB, hwB, SB, kk⟩ := litE hHeld 1
    rw [← hgB, ← hwB]
    clear hgB hwB
    replace hHeld := hHeld.nx kk
    clear kk
    refine hK.out _ _ (hHeld) (fun hHeld => ?_)
    clear hK K
    try simp only [Act.put, List.setIfInBounds_toArray, List.set_cons_zero, List.set_cons_succ]
    refine wpAnyH_ready (rs := [68]) (by kernel_rfl) (by simp) ?_
    refine AllReadyH.cons (o := ⟨some 75, .call { callee := .value (.func 54), args := #[.tmp 73, .tmp 74], argTypes := #[63, 22] }, 63, "law.go:23", #[⟨66, .data⟩, ⟨67, .data⟩, ⟨65, .chain⟩, ⟨65, .guard⟩], some (65, true)⟩) rfl (fun K hK => ?_) AllReadyH.nil
    go_simp
    (with_reducible refine (crash_p _ _ _ _ _ _ _ [1] _ (P.out.nx hHeld) (by omega) five_small2 SB (by omega)).mono ?_)
    rintro e w11 ⟨v, qs', rfl, own, kk⟩
    obtain ⟨aQ, cQ, rfl, Q, _, _, _⟩ := own.pl
    rw [five_crash]
    replace hHeld := hHeld.nx kk
    clear kk own Q SB
    refine hK.out _ _ (hHeld) (fun hHeld => ?_)
    clear hK K
    try simp only [Act.put, List.setIfInBounds_toArray, List.set_cons_zero, List.set_cons_succ]
    refine wpAnyH_take (i := 69) (oi := ⟨some 76, .call { callee := .builtin .len, args := #[.tmp 75], argTypes := #[63] }, 3, "law.go:23", #[⟨68, .data⟩, ⟨65, .guard⟩], some (65, true)⟩) (v := ?_) rfl (by kernel_rfl) (by kernel_rfl) (by kernel_rfl) (fun _ _ _ h => h) (Or.inl ⟨by rfl, ?hyr1x69q534⟩) (by assumption) ?restr1x69q534
    case hyr1x69q534 => intro wq hSw; (go_simp); (try with_reducible rfl)
    try simp only [Act.put, List.setIfInBounds_toArray, List.set_cons_zero, List.set_cons_succ]
    refine wpAnyH_take (i := 70) (oi := ⟨some 77, .binOp .eql 3 (.tmp 76) (.const (.int .i64 4)) 3, 4, "law.go:23", #[⟨69, .data⟩, ⟨65, .guard⟩], some (65, true)⟩) (v := ?_) rfl (by kernel_rfl) (by kernel_rfl) (by kernel_rfl) (fun _ _ _ h => h) (Or.inl ⟨by rfl, ?hyr1x70q537⟩) (by assumption) ?restr1x70q537
    case hyr1x70q537 => intro wq hSw; (go_simp); (try with_reducible rfl)
    try simp only [Act.put, List.setIfInBounds_toArray, List.set_cons_zero, List.set_cons_succ]
    refine wpAnyH_take (i := 71) (oi := ⟨some 78, .pick (.tmp 72) (.tmp 77) (.const (.bool false)), 4, "law.go:23", #[⟨65, .data⟩, ⟨70, .data⟩], none⟩) (v := ?_) rfl (by kernel_rfl) (by kernel_rfl) (by kernel_rfl) (fun _ _ _ h => h) (Or.inl ⟨by rfl, ?hyr1x71q540⟩) (by assumption) ?restr1x71q540
    case hyr1x71q540 => intro wq hSw; (go_simp); (try with_reducible rfl)
    try simp only [Act.put, List.setIfInBounds_toArray, List.set_cons_zero, List.set_cons_succ]
    refine wpAnyH_take (i := 72) (oi := ⟨some 0, .assign (.tmp 78), 4, "law.go:23", (#[⟨71, .data⟩, ⟨68, .chain⟩, ⟨0, .phase⟩, ⟨1, .phase⟩, ⟨2, .phase⟩, ⟨3, .phase⟩, ⟨4, .phase⟩, ⟨5, .phase⟩, ⟨6, .phase⟩, ⟨7, .phase⟩, ⟨8, .phase⟩, ⟨9, .phase⟩, ⟨10, .phase⟩, ⟨11, .phase⟩, ⟨12, .phase⟩, ⟨13, .phase⟩, ⟨14, .phase⟩, ⟨15, .phase⟩, ⟨16, .phase⟩, ⟨17, .phase⟩, ⟨18, .phase⟩, ⟨19, .phase⟩, ⟨20, .phase⟩, ⟨21, .phase⟩, ⟨22, .phase⟩, ⟨23, .phase⟩, ⟨24, .phase⟩, ⟨25, .phase⟩, ⟨26, .phase⟩, ⟨27, .phase⟩, ⟨28, .phase⟩, ⟨29, .phase⟩, ⟨30, .phase⟩, ⟨31, .phase⟩, ⟨32, .phase⟩, ⟨33, .phase⟩, ⟨34, .phase⟩, ⟨35, .phase⟩, ⟨36, .phase⟩, ⟨37, .phase⟩, ⟨38, .phase⟩, ⟨39, .phase⟩, ⟨40, .phase⟩, ⟨41, .phase⟩, ⟨42, .phase⟩, ⟨43, .phase⟩, ⟨44, .phase⟩, ⟨45, .phase⟩, ⟨46, .phase⟩, ⟨47, .phase⟩] ++ #[⟨48, .phase⟩, ⟨49, .phase⟩, ⟨50, .phase⟩, ⟨51, .phase⟩, ⟨52, .phase⟩, ⟨53, .phase⟩, ⟨54, .phase⟩, ⟨55, .phase⟩, ⟨56, .phase⟩, ⟨57, .phase⟩, ⟨58, .phase⟩, ⟨59, .phase⟩, ⟨60, .phase⟩, ⟨61, .phase⟩, ⟨62, .phase⟩, ⟨63, .phase⟩, ⟨64, .phase⟩, ⟨65, .phase⟩, ⟨66, .phase⟩, ⟨67, .phase⟩, ⟨68, .phase⟩, ⟨69, .phase⟩, ⟨70, .phase⟩, ⟨71, .phase⟩]), none⟩) (v := ?_) rfl (by kernel_rfl) (by kernel_rfl) (by kernel_rfl) (fun _ _ _ h => h) (Or.inl ⟨by rfl, ?hyr1x72q543⟩) (by assumption) ?restr1x72q543
    case hyr1x72q543 => intro wq hSw; (go_simp); (try with_reducible rfl)
    try simp only [Act.put, List.setIfInBounds_toArray, List.set_cons_zero, List.set_cons_succ]
    refine wpAnyH_done (by kernel_rfl) ?_ _
    have KE := K4.out.nx hHeld
    go_wp2_with fail
    go_ret
    exact ⟨rfl, KE⟩
end Go.Proofs.YtkjlhcfocefhpaaDoor

/- Rosters of at least one node, from the tape. -/
namespace Go.Proofs.YtkjlhcfocefhpaaDoor
open Go.RowKit

theorem check_one {x : Nd} (h1 : 1 ≤ x.id) (h2 : x.id ≤ 2147483647) (h3 : x.key.size ≤ 64) (h4 : x.word < 65536) : checkN [x] = 0 := by
  have hb : badN x = false := by
    unfold badN validN
    simp
    omega
  have hd : dupN [x] = false := by
    cases h : dupN [x] with
    | false => rfl
    | true =>
      obtain ⟨i, k, _, _, hki, hi, _⟩ := (dupN_iff _).1 h
      have := (List.getElem?_eq_some_iff.1 hi).1
      simp at this
      omega
  unfold checkN
  simp [hb, hd]
/-- a roster of at least one node -/
def SomeOf (n b : Nat) (w w' : World) (v : Value) (L : List Nd) : Prop := RosterOf n b w w' v L ∧ 1 ≤ L.length
set_option maxRecDepth 100000 in
set_option maxHeartbeats 1000000 in
theorem some_n {b : Nat} (n : Nat) (w : World) (h : TK w b) (hL : LetG w) (hgb : ¬ 0 = b) (hn0 : 1 ≤ n) (hn : n ≤ 60) :
    Calls Tryd.prog 33 #[.pointer (some ⟨b, 0, none⟩), .int .i64 n] w fun e w' => ∃ v L, e = .returned v ∧ SomeOf n b w w' v L := by
  have hbw := h.lt
  go_enter Tryd.func33, Tryd.ntmps33
  go_wp2_with fail
  refine (roster_t n _ h hL hgb hn0 hn).mono ?_
  rintro e w1 ⟨v1, L, rfl, R⟩
  obtain ⟨A1, C1, rfl, _, _, _, _⟩ := R.own.slf (fun _ => rfl)
  have T := R.tape
  have L1 := hL.nxb hgb R.k
  clear h hL
  by_cases h0 : L.length = 0
  · have d0 : ((L.length : Int) == 0) = true := by rw [h0]; rfl
    have kk := R.k
    clear R
    go_wp2_with fail
    refine (next_t (3 * (n : Int)) _ T (by omega) (by omega)).mono ?_
    clear T
    rintro e w2 ⟨d, rfl, r0, r1, T, k2⟩
    replace L1 := L1.nxb hgb k2
    replace kk := kk.nxb k2
    clear k2
    go_wp2_with fail
    refine (key_t _ T L1 hgb).mono ?_
    clear T
    rintro e w3 ⟨s, rfl, hs, T, k2⟩
    replace kk := kk.nxb k2
    clear k2 L1
    go_wp2_with fail
    refine (word_t _ T).mono ?_
    clear T
    rintro e w4 ⟨m, rfl, hm, T, k2⟩
    replace kk := kk.nxb k2
    clear k2
    have kz := kk.size
    go_wp2_with fail
    go_ret
    refine ⟨_, [⟨1 + d, s, m⟩], rfl, ⟨OwnL.lit [⟨1 + d, s, m⟩] (fun _ => rfl) kz (by unfold maxLen; simp) rfl, by simp; omega, check_one (by simp; omega) (by simp; omega) hs hm, by simpa using hm, T.nx (Ex.new _ _), kk.nxb ((Ex.new _ _).b b)⟩, by simp⟩
  · have d0 : ((L.length : Int) == 0) = false := by rw [beq_eq_false_iff_ne]; omega
    have R := Lib.hid R
    go_wp2_with fail
    go_ret
    exact ⟨_, L, rfl, R.out, by omega⟩
end Go.Proofs.YtkjlhcfocefhpaaDoor

/- Numbers of nodes that are down, and peers, from the tape. -/
namespace Go.Proofs.YtkjlhcfocefhpaaDoor
open Go.RowKit

theorem Blk.app {α : Type} {sz e base g : Nat} {enc : α → List Value} {w w' : World} {v : Value} {l : List α} {cs : List Value} {ty : TypeId} (B : Blk w g cs ty) (own : OwnL sz enc e base w v l) (hne : e ≠ ty) (k : Chg (fun k => k < w.heap.size ∧ ¬ v.ownBlock = some k) w w') : Blk w' g cs ty :=
  (Chg.block k g ⟨B.lt, fun hv => own.ne_blk B hne hv rfl⟩).trans B
theorem OwnL.app {α β : Type} {sz sz' e e' base base' : Nat} {enc : α → List Value} {enc' : β → List Value} {w w' : World} {v v' : Value} {l : List α} {l' : List β} (o : OwnL sz enc e base w v l) (own : OwnL sz' enc' e' base' w v' l') (hne : e ≠ e') (k : Chg (fun k => k < w.heap.size ∧ ¬ v'.ownBlock = some k) w w') : OwnL sz enc e base w' v l :=
  o.chg k fun x hx hv => ⟨hx, fun hv' => by
    obtain ⟨_, c1, h1⟩ := o.blk hv
    obtain ⟨_, c2, h2⟩ := own.blk hv'
    exact blk_kind hne h1 h2⟩
/-- a list of at most n numbers -/
structure DnOf (n b : Nat) (w w' : World) (v : Value) (l : List Int) : Prop where
  own : OwnL 1 encI 3 w.heap.size w' v l
  len : l.length ≤ n
  i64 : ∀ x ∈ l, I64 x
  tape : TK w' b
  k : Exb b w w'
/-- a store into a row of another type -/
theorem OwnL.apart {α β : Type} {sz sz' e e' base base' g : Nat} {enc : α → List Value} {enc' : β → List Value} {w w' : World} {v v' : Value} {l : List α} {l' : List β} (o : OwnL sz enc e base w v l) (own : OwnL sz' enc' e' base' w v' l') (hne : e ≠ e') (hg : v'.ownBlock = some g) (k : Exb g w w') : OwnL sz enc e base w' v l :=
  o.chg k fun x hx hv => ⟨hx, by
    rintro rfl
    obtain ⟨_, c1, h1⟩ := o.blk hv
    obtain ⟨_, c2, h2⟩ := own.blk hg
    exact blk_kind hne h1 h2⟩
/-- a peer that was just made -/
structure PeOf (m b : Nat) (w w' : World) (p : Pr) (hk hn : Hdr) : Prop where
  ok : OwnL 1 encI 3 w.heap.size w' hk.val p.known
  on : OwnL 4 encNr 123 w.heap.size w' hn.val p.near
  lk : p.known.length ≤ 3
  ln : p.near.length ≤ m
  id : I64 p.id
  tape : TK w' b
  k : Exb b w w'
end Go.Proofs.YtkjlhcfocefhpaaDoor

/- The walk over RedundantGaps (printed by gen_l14.py). -/
namespace Go.Proofs.YtkjlhcfocefhpaaDoor
open Go.RowKit

end Go.Proofs.YtkjlhcfocefhpaaDoor

/- Lists of peers from the tape. -/
namespace Go.Proofs.YtkjlhcfocefhpaaDoor
open Go.RowKit

/-- short lists, numbers that are ints -/
def FewP (m : Nat) (P : List Pr) : Prop := ∀ p ∈ P, p.known.length ≤ 3 ∧ p.near.length ≤ m ∧ I64 p.id
structure PsOf (k m b : Nat) (w w' : World) (v : Value) (qs : List PQ) (P : List Pr) : Prop where
  own : OwnPr w.heap.size w' v qs P
  len : P.length ≤ k
  few : FewP m P
  tape : TK w' b
  k : Exb b w w'
end Go.Proofs.YtkjlhcfocefhpaaDoor

/- The walk over RedundantSurvives (printed by gen_l14.py). -/
namespace Go.Proofs.YtkjlhcfocefhpaaDoor
open Go.RowKit

theorem contacts_le (N : List Nd) (id wd h : Int) : (contactsN N id wd h).length ≤ N.length := by
  unfold contactsN
  split
  · exact Nat.zero_le _
  · unfold ordN
    rw [List.length_map]
    exact Nat.le_trans (List.length_filter_le _ _) (Nat.le_of_eq (sortN_length N))
end Go.Proofs.YtkjlhcfocefhpaaDoor

/- The walk over RedundantWidth (printed by gen_l14.py). -/
namespace Go.Proofs.YtkjlhcfocefhpaaDoor
open Go.RowKit

theorem wi_law {N : List Nd} (h0 : checkN N = 0) (hw : ∀ x ∈ N, x.word < 4294967296) {x : Nd} (hx : x ∈ N) {w : Int} (hw1 : 1 ≤ w) {h : Nat} (hh : h + 1 ≤ 16) {v : Int} (hv : v ∈ contactsN N x.id w h) :
    v ≠ x.id ∧ v ∈ contactsN N x.id (w + 1) h ∧ v ∈ contactsN N x.id w ((h : Int) + 1) ∧ x.id ∈ contactsN N v w h := by
  obtain ⟨y, hy, rfl, n⟩ := (mem_contacts h0 hx hw1 (by omega)).1 hv
  refine ⟨contacts_ne hv, (mem_contacts h0 hx (by omega) (by omega)).2 ⟨y, hy, rfl, near_mono n (by omega) (Nat.le_refl _)⟩, ?_, (mem_contacts h0 hy hw1 (by omega)).2 ⟨x, hx, rfl, near_symm hw hx n⟩⟩
  exact (mem_contacts h0 hx hw1 (h := h + 1) hh).2 ⟨y, hy, rfl, near_mono n (Int.le_refl _) (by omega)⟩
theorem wi_ok {N : List Nd} (h0 : checkN N = 0) {x : Nd} (hx : x ∈ N) {i : Nat} (hi : i ≤ 16) : (neighN N x.id i).2 = true := by
  obtain ⟨A, B, e⟩ := grp_at hx (h := (i : Int)) (by unfold lvlN; simp; omega)
  rw [neigh_split h0 hx (by unfold lvlN; simp; omega) e]
theorem one_ex {N : List Nd} (h0 : checkN N = 0) {x : Nd} (hx : x ∈ N) {h : Nat} (hh : h ≤ 16) {v : Int} (hv : v ∈ contactsN N x.id 1 h) : ∃ i : Nat, i ≤ h ∧ ((neighN N x.id i).1.1 = v ∨ (neighN N x.id i).1.2 = v) := by
  obtain ⟨y, hy, rfl, i, k, j, hi, n⟩ := (mem_contacts h0 hx (by omega) hh).1 hv
  exact ⟨i, hi, near_one h0 hx (by omega) ⟨k, j, n⟩⟩
theorem wi_len {N : List Nd} (h0 : checkN N = 0) (id : Int) (wn h : Nat) : (contactsN N id (1 + (wn : Int)) h).length ≤ 2 * (1 + wn) * (h + 1) := by
  have := contacts_len h0 id (1 + wn) (h := h)
  simpa using this
def KtRel (n : Nat) (w : World) (i : Value) (wr : World) : Prop := ∃ k : Nat, k ≤ n ∧ i = .int .i64 k ∧ Ex w wr
def FnRel14 (h : Nat) (A : Nat → Prop) (w : World) (f i : Value) (wr : World) : Prop := ∃ (t : Nat) (fb : Bool), t ≤ h + 1 ∧ i = .int .i64 t ∧ f = .bool fb ∧ (∀ j, j < t → A j → fb = true) ∧ Ex w wr
set_option maxRecDepth 100000 in
set_option maxHeartbeats 16000000 in
theorem redundantwidth_walk (a1 : Option Addr) (n1 c1 : Nat) (l1 : List Int) (w : World) (h1 : Sl 1 encI w a1 n1 l1) (hc1 : n1 ≤ c1) (hm1 : c1 ≤ maxLen) (hT : TabG w) (hL : LetG w) :
    Calls Tryd.prog 10 #[.slice a1 n1 c1] w fun e w' => e = .returned (.bool true) ∧ Ex w w' := by
  go_enter Tryd.func10, Tryd.ntmps10
  go_wp2_with fail
  refine (new_t _ _ _ l1 _ h1 hc1 hm1).mono ?_
  rintro e w1 ⟨rfl, T, kk, z1⟩
  obtain ⟨b, hb⟩ : ∃ b, b = w.heap.size := ⟨_, rfl⟩
  rw [← hb] at T ⊢
  have hgt : ¬ 1 = b := by have := hT.lt; omega
  have hgl : ¬ 0 = b := by have := hL.lt; omega
  have T1 : Hid (TabG w1) := Lib.hid (hT.nx kk)
  have L1 : Hid (LetG w1) := Lib.hid (hL.nx kk)
  have QL : Hid (Exl b w w1) := Lib.hid ⟨kk, by omega⟩
  clear h1 hT hL kk hb z1
  have hbo := T.lt
  go_wp2_with fail
  refine (some_n 8 _ T L1.out hgl (by omega) (by omega)).mono ?_
  clear T
  rintro e w2 ⟨v1, L, rfl, R, hpos⟩
  replace T1 := Lib.hid (T1.out.nxb hgt R.k)
  replace L1 := Lib.hid (L1.out.nxb hgl R.k)
  replace QL := Lib.hid (QL.out.nxb R.k)
  obtain ⟨aX, cX, rfl, SX, hcX, hmX, _⟩ := R.own.slf (fun _ => rfl)
  have SX := SX.slb hbo
  have RL := R.len
  have RC := Lib.hid R.ok
  have RN := Lib.hid (roster_ok R.ok)
  have XW := Lib.hid (fun x hx => (RN.out x hx).1.2.1)
  have XI := Lib.hid (fun x hx => (RN.out x hx).1.1)
  have T := R.tape
  clear R
  have hb2 := T.lt
  go_wp2_with fail
  refine (next_t 3 _ T (by omega) (by omega)).mono ?_
  clear T
  rintro e w3 ⟨hh, rfl, hh0, hh1, T, kk⟩
  replace T1 := Lib.hid (T1.out.nxb hgt kk)
  replace L1 := Lib.hid (L1.out.nxb hgl kk)
  replace QL := Lib.hid (QL.out.nxb kk)
  replace SX := SX.nxb kk
  clear kk
  go_wp2_with fail
  refine (next_t 3 _ T (by omega) (by omega)).mono ?_
  clear T
  rintro e w4 ⟨rw, rfl, rw0, rw1, T, kk⟩
  replace T1 := Lib.hid (T1.out.nxb hgt kk)
  replace L1 := Lib.hid (L1.out.nxb hgl kk)
  replace QL := Lib.hid (QL.out.nxb kk)
  replace SX := SX.nxb kk
  clear kk
  go_wp2_with fail
  refine (next_t L.length _ T (by omega) (by omega)).mono ?_
  clear T
  rintro e w5 ⟨ix, rfl, ix0, ix1, T, kk⟩
  replace T1 := Lib.hid (T1.out.nxb hgt kk)
  replace L1 := Lib.hid (L1.out.nxb hgl kk)
  replace QL := Lib.hid (QL.out.nxb kk)
  replace SX := SX.nxb kk
  clear kk
  obtain ⟨h', rfl⟩ : ∃ k : Nat, hh = k := ⟨hh.toNat, by omega⟩
  obtain ⟨wn, rfl⟩ : ∃ k : Nat, rw = k := ⟨rw.toNat, by omega⟩
  obtain ⟨i, rfl⟩ : ∃ k : Nat, ix = k := ⟨ix.toNat, by omega⟩
  have hi : i < L.length := by omega
  obtain ⟨x3, o3, x, rfl, hx3, hy, hc3⟩ := SX.sl.at hi
  have e0 : w5.cell? ⟨x3, o3 + i * 3, none⟩ = some (.int .i64 x.id) := hc3 0 _ rfl
  have hxL := Lib.hid (List.mem_of_getElem? hy)
  clear hy hc3 ix0 ix1
  have SXs := SX.sl
  replace SXs := Lib.hid SXs
  clear SX T
  go_wp2_with fail
  (with_reducible refine (contacts_p _ _ _ L x.id (1 + (wn : Int)) (h' : Int) _ SXs.out (by omega) hcX hmX XW.out T1.out).mono ?_)
  rintro e w6 ⟨v, rfl, own, kk⟩
  replace T1 := Lib.hid (T1.out.nx kk)
  replace L1 := Lib.hid (L1.out.nx kk)
  replace QL := Lib.hid (QL.out.nx kk)
  replace SXs := Lib.hid (SXs.out.nx kk)
  clear kk
  clear e0 hx3 hi
  obtain ⟨aLC, cLC, rfl, LC, _, _, _⟩ := own.slf (fun _ => rfl)
  replace LC := Lib.hid LC.sl
  clear own
  go_wp2_with fail
  (with_reducible refine (contacts_p _ _ _ L x.id (1 + (wn : Int) + 1) (h' : Int) _ SXs.out (by omega) hcX hmX XW.out T1.out).mono ?_)
  rintro e w7 ⟨v, rfl, own, kk⟩
  replace T1 := Lib.hid (T1.out.nx kk)
  replace L1 := Lib.hid (L1.out.nx kk)
  replace QL := Lib.hid (QL.out.nx kk)
  replace SXs := Lib.hid (SXs.out.nx kk)
  replace LC := Lib.hid (LC.out.nx kk)
  clear kk
  obtain ⟨aWC, cWC, rfl, WC, _, _, _⟩ := own.slf (fun _ => rfl)
  replace WC := Lib.hid WC.sl
  clear own
  go_wp2_with fail
  (with_reducible refine (contacts_p _ _ _ L x.id (1 + (wn : Int)) ((h' : Int) + 1) _ SXs.out (by omega) hcX hmX XW.out T1.out).mono ?_)
  rintro e w8 ⟨v, rfl, own, kk⟩
  replace T1 := Lib.hid (T1.out.nx kk)
  replace L1 := Lib.hid (L1.out.nx kk)
  replace QL := Lib.hid (QL.out.nx kk)
  replace SXs := Lib.hid (SXs.out.nx kk)
  replace LC := Lib.hid (LC.out.nx kk)
  replace WC := Lib.hid (WC.out.nx kk)
  clear kk
  obtain ⟨aHC, cHC, rfl, HC, _, _, _⟩ := own.slf (fun _ => rfl)
  replace HC := Lib.hid HC.sl
  clear own
  go_wp2_with fail
  (with_reducible refine (contacts_p _ _ _ L x.id 1 (h' : Int) _ SXs.out (by omega) hcX hmX XW.out T1.out).mono ?_)
  rintro e w9 ⟨v, rfl, own, kk⟩
  replace T1 := Lib.hid (T1.out.nx kk)
  replace L1 := Lib.hid (L1.out.nx kk)
  replace QL := Lib.hid (QL.out.nx kk)
  replace SXs := Lib.hid (SXs.out.nx kk)
  replace LC := Lib.hid (LC.out.nx kk)
  replace WC := Lib.hid (WC.out.nx kk)
  replace HC := Lib.hid (HC.out.nx kk)
  clear kk
  obtain ⟨aOC, cOC, rfl, OC, _, _, _⟩ := own.slf (fun _ => rfl)
  replace OC := Lib.hid OC.sl
  clear own
  have WL := Lib.hid (fun v hv => wi_law RC.out XW.out hxL.out (w := 1 + (wn : Int)) (by omega) (h := h') (by omega) (v := v) hv)
  have NY := Lib.hid (fun i hi => wi_ok RC.out hxL.out (i := i) hi)
  have ON := Lib.hid (fun i v hi hv hn => one_near RC.out hxL.out (i := i) (h := h') hi (by omega) (v := v) hv hn)
  have OE := Lib.hid (fun v hv => one_ex RC.out hxL.out (h := h') (by omega) (v := v) hv)
  have CL := Lib.hid (wi_len RC.out x.id wn h')
  have HB : Hid (∀ w h, (contactsN L x.id w h).length ≤ L.length) := Lib.hid (fun w h => contacts_le L x.id w h)
  have hl1 := HB.out (1 + (wn : Int)) h'
  have hl2 := HB.out (1 + (wn : Int) + 1) h'
  have hl3 := HB.out (1 + (wn : Int)) ((h' : Int) + 1)
  have hl4 := HB.out 1 h'
  have QX := Lib.hid QL.out.1
  have hgt' := hgt
  clear QL L1 RN XI
  generalize contactsN L x.id (1 + (wn : Int)) h' = l at LC WL CL hl1 ⊢
  generalize contactsN L x.id (1 + (wn : Int) + 1) h' = lw at WC WL hl2 ⊢
  generalize contactsN L x.id (1 + (wn : Int)) ((h' : Int) + 1) = lh at HC WL hl3 ⊢
  generalize contactsN L x.id 1 h' = lo at OC ON OE hl4 ⊢
  go_wp2_with fail
  go_loopw [12] (fun i wr => KtRel l.length w9 i wr) (fun i _ => l.length - (intOf i).toNat)
  case atStart => exact ⟨0, Nat.zero_le _, rfl, Ex.refl _⟩
  case round =>
    obtain ⟨k, hk, rfl, kw⟩ := hrel
    obtain ⟨wi, rfl⟩ : ∃ wi : World, wi = wr := ⟨_, rfl⟩
    by_cases hlt : k < l.length
    · obtain ⟨xr, or, v, rfl, hxr, hv, hcr⟩ := (LC.out.nx kw).at hlt
      have f0 : wi.cell? ⟨xr, or + k, none⟩ = some (.int .i64 v) := by simpa using hcr 0 _ rfl
      have E0 := Lib.hid (fun wq (k : Ex wi wq) => Chg.cellv k f0 hxr)
      obtain ⟨hne, hw1, hw2, hw3⟩ := WL.out v (List.mem_of_getElem? hv)
      have d1 : (v == x.id) = false := by simpa using hne
      have d2 := Lib.hid (show lw.contains v = true by simpa using hw1)
      have d3 := Lib.hid (show lh.contains v = true by simpa using hw2)
      have d4 := Lib.hid (show (contactsN L v (1 + (wn : Int)) h').contains x.id = true by simpa using hw3)
      have hlv := contacts_le L v (1 + (wn : Int)) h'
      have KW := Lib.hid kw
      clear hcr hv hxr hne hw1 hw2 hw3 kw
      go_wp2_with fail
      (with_reducible refine (has_r _ _ _ lw v _ (WC.out.nx KW.out) (by omega)).mono ?_)
      rintro e wa ⟨rfl, ka⟩
      replace f0 := E0.out _ ka
      rw [d2.out]
      go_wp2_with fail
      (with_reducible refine (has_r _ _ _ lh v _ (HC.out.nx (KW.out.nx ka)) (by omega)).mono ?_)
      rintro e wb ⟨rfl, kb⟩
      replace ka := ka.nx kb
      replace f0 := E0.out _ ka
      rw [d3.out]
      clear kb
      go_wp2_with fail
      (with_reducible refine (contacts_p _ _ _ L v (1 + (wn : Int)) h' _ (SXs.out.nx (KW.out.nx ka)) (by omega) hcX hmX XW.out (T1.out.nx (KW.out.nx ka))).mono ?_)
      rintro e wc ⟨v9, rfl, own, kc⟩
      obtain ⟨a9, c9, rfl, S9, _, _, _⟩ := own.slf (fun _ => rfl)
      replace S9 := S9.sl
      replace ka := ka.nx kc
      clear own kc f0
      go_wp2_with fail
      (with_reducible refine (has_r _ _ _ _ x.id _ S9 (by omega)).mono ?_)
      rintro e wd ⟨rfl, kd⟩
      rw [d4.out]
      have RR := Lib.hid (show KtRel l.length w9 (.int .i64 ((k : Int) + 1)) wd from ⟨k + 1, by omega, by go_num, KW.out.nx (ka.nx kd)⟩)
      clear S9 ka kd
      go_wp2_with fail
      exact ⟨RR.out, by simp [intOf]; omega⟩
    · obtain rfl : k = l.length := by omega
      have K1 := Lib.hid kw
      clear hk kw
      go_wp2_with fail
      go_loopw [13] (fun i wr => KtRel (h' + 1) wi i wr) (fun i _ => h' + 1 - (intOf i).toNat)
      case atStart => exact ⟨0, Nat.zero_le _, rfl, Ex.refl _⟩
      case round =>
        obtain ⟨t, ht, rfl, kv⟩ := hrel
        obtain ⟨wj, rfl⟩ : ∃ wj : World, wj = wr := ⟨_, rfl⟩
        have KV := Lib.hid (K1.out.nx kv)
        have KJ := Lib.hid kv
        clear kv
        by_cases htt : t ≤ h'
        · go_wp2_with fail
          (with_reducible refine (neigh_p _ _ _ L x.id (t : Int) _ (SXs.out.nx KV.out) (by omega) hcX hmX XW.out (T1.out.nx KV.out)).mono ?_)
          rintro e wa ⟨rfl, ka⟩
          have dk := NY.out t (by omega)
          have O1 := Lib.hid (fun v hv hn => ON.out t v htt hv hn)
          generalize neighN L x.id t = y at dk O1 ⊢
          obtain ⟨⟨lf, rt⟩, ok⟩ := y
          simp only at dk
          subst dk
          replace O1 : Hid (∀ v : Int, v ≠ 0 → lf = v ∨ rt = v → v ∈ lo) := O1
          have B7 := Blk.new wa [.int .i64 lf, .int .i64 rt] 74
          have kk := Ex.new wa (.cells #[.int .i64 lf, .int .i64 rt] 74)
          obtain ⟨w7, hw7⟩ : ∃ w7, w7 = wa.alloc (.cells #[.int .i64 lf, .int .i64 rt] 74) := ⟨_, rfl⟩
          obtain ⟨g7, hg7⟩ : ∃ g7, g7 = wa.heap.size := ⟨_, rfl⟩
          replace B7 : Blk w7 g7 [.int .i64 lf, .int .i64 rt] 74 := by rw [hw7, hg7]; exact B7
          rw [← hw7] at kk
          have Hw7 := Lib.hid hw7
          have Hg7 := Lib.hid hg7
          have ZZ := Lib.hid (ka.nx kk)
          clear kk hw7 hg7 ka
          go_upto_region 15 with fail
          rw [← Hg7.out, ← Hw7.out]
          clear Hg7 Hw7
          have K7 := Lib.hid (KV.out.nx ZZ.out)
          have e0 := B7.cell 0 _ rfl
          have e1 := B7.cell 1 _ rfl
          try simp only [Nat.zero_add] at e0 e1
          have DN : Hid (∀ wq, Ex w7 wq → KtRel (h' + 1) wi (.int .i64 ((t : Int) + 1)) wq) := Lib.hid (fun wq k => ⟨t + 1, by omega, by go_num, (KJ.out.nx ZZ.out).nx k⟩)
          by_cases h1 : lf = 0
          · by_cases h2 : rt = 0
            · have KQ := Ex.refl w7
              have d1 : (lf != 0) = false := by simp [h1]
              have d2 : (rt != 0) = false := by simp [h2]
              clear h1 h2
              have RR := Lib.hid (DN.out _ KQ)
              clear KQ B7
              go_wp2_with fail
              exact ⟨RR.out, by simp [intOf]; omega⟩
            · have KQ := Ex.refl w7
              have d1 : (lf != 0) = false := by simp [h1]
              have d2 : (rt != 0) = true := by simp [h2]
              have q2 := Lib.hid (show lo.contains rt = true by simpa using O1.out rt h2 (.inr rfl))
              clear h1 h2
              go_wp2_with fail
              (with_reducible refine (has_r _ _ _ lo rt _ (OC.out.nx (K7.out.nx KQ)) (by omega)).mono ?_)
              rintro e wc ⟨rfl, kk⟩
              replace KQ := KQ.nx kk
              replace B7 := B7.nx kk
              clear kk
              have e0 := B7.cell 0 _ rfl
              have e1 := B7.cell 1 _ rfl
              try simp only [Nat.zero_add] at e0 e1
              rw [q2.out]
              have RR := Lib.hid (DN.out _ KQ)
              clear KQ B7
              go_wp2_with fail
              exact ⟨RR.out, by simp [intOf]; omega⟩
          · by_cases h2 : rt = 0
            · have KQ := Ex.refl w7
              have d1 : (lf != 0) = true := by simp [h1]
              have q1 := Lib.hid (show lo.contains lf = true by simpa using O1.out lf h1 (.inl rfl))
              have d2 : (rt != 0) = false := by simp [h2]
              clear h1 h2
              go_wp2_with fail
              (with_reducible refine (has_r _ _ _ lo lf _ (OC.out.nx (K7.out.nx KQ)) (by omega)).mono ?_)
              rintro e wb ⟨rfl, kk⟩
              replace KQ := KQ.nx kk
              replace B7 := B7.nx kk
              clear kk
              have e0 := B7.cell 0 _ rfl
              have e1 := B7.cell 1 _ rfl
              try simp only [Nat.zero_add] at e0 e1
              rw [q1.out]
              have RR := Lib.hid (DN.out _ KQ)
              clear KQ B7
              go_wp2_with fail
              exact ⟨RR.out, by simp [intOf]; omega⟩
            · have KQ := Ex.refl w7
              have d1 : (lf != 0) = true := by simp [h1]
              have q1 := Lib.hid (show lo.contains lf = true by simpa using O1.out lf h1 (.inl rfl))
              have d2 : (rt != 0) = true := by simp [h2]
              have q2 := Lib.hid (show lo.contains rt = true by simpa using O1.out rt h2 (.inr rfl))
              clear h1 h2
              go_wp2_with fail
              (with_reducible refine (has_r _ _ _ lo lf _ (OC.out.nx (K7.out.nx KQ)) (by omega)).mono ?_)
              rintro e wb ⟨rfl, kk⟩
              replace KQ := KQ.nx kk
              replace B7 := B7.nx kk
              clear kk
              have e0 := B7.cell 0 _ rfl
              have e1 := B7.cell 1 _ rfl
              try simp only [Nat.zero_add] at e0 e1
              rw [q1.out]
              go_wp2_with fail
              (with_reducible refine (has_r _ _ _ lo rt _ (OC.out.nx (K7.out.nx KQ)) (by omega)).mono ?_)
              rintro e wc ⟨rfl, kk⟩
              replace KQ := KQ.nx kk
              replace B7 := B7.nx kk
              clear kk
              have e0 := B7.cell 0 _ rfl
              have e1 := B7.cell 1 _ rfl
              try simp only [Nat.zero_add] at e0 e1
              rw [q2.out]
              have RR := Lib.hid (DN.out _ KQ)
              clear KQ B7
              go_wp2_with fail
              exact ⟨RR.out, by simp [intOf]; omega⟩
        · obtain rfl : t = h' + 1 := by omega
          have htf : ¬ ((h' : Int) + 1 ≤ (h' : Int)) := by omega
          clear ht htt KJ ON
          go_wp2_with fail
          clear htf
          go_loopw [16] (fun i wr => KtRel lo.length wj i wr) (fun i _ => lo.length - (intOf i).toNat)
          case atStart => exact ⟨0, Nat.zero_le _, rfl, Ex.refl _⟩
          case round =>
            obtain ⟨k, hk, rfl, kx⟩ := hrel
            obtain ⟨wk, rfl⟩ : ∃ wk : World, wk = wr := ⟨_, rfl⟩
            have KX := Lib.hid (KV.out.nx kx)
            have KK := Lib.hid kx
            clear kx
            by_cases hlt : k < lo.length
            · obtain ⟨xr, or, v, rfl, hxr, hv, hcr⟩ := (OC.out.nx KX.out).at hlt
              have f0 : wk.cell? ⟨xr, or + k, none⟩ = some (.int .i64 v) := by simpa using hcr 0 _ rfl
              have E0 := Lib.hid (fun wq (k : Ex wk wq) => Chg.cellv k f0 hxr)
              have OEv := Lib.hid (OE.out v (List.mem_of_getElem? hv))
              clear hcr hv hxr f0
              go_wp2_with fail
              go_loopw [17, 18] (fun f i wr => FnRel14 h' (fun t => (neighN L x.id t).1.1 = v ∨ (neighN L x.id t).1.2 = v) wk f i wr) (fun _ i _ => h' + 1 - (intOf i).toNat)
              case atStart => exact ⟨0, false, Nat.zero_le _, rfl, rfl, fun j hj => absurd hj (Nat.not_lt_zero _), Ex.refl _⟩
              case round =>
                obtain ⟨t, fb, ht, rfl, rfl, hfb, ky⟩ := hrel
                obtain ⟨wl, rfl⟩ : ∃ wl : World, wl = wr := ⟨_, rfl⟩
                have KY := Lib.hid (KX.out.nx ky)
                have KL := Lib.hid ky
                have FB := Lib.hid hfb
                clear ky hfb
                by_cases htt : t ≤ h'
                · go_wp2_with fail
                  (with_reducible refine (neigh_p _ _ _ L x.id (t : Int) _ (SXs.out.nx KY.out) (by omega) hcX hmX XW.out (T1.out.nx KY.out)).mono ?_)
                  rintro e wa ⟨rfl, ka⟩
                  obtain ⟨y, hy⟩ : ∃ y, y = neighN L x.id t := ⟨_, rfl⟩
                  rw [← hy]
                  have HY := Lib.hid hy
                  clear hy
                  obtain ⟨⟨lf, rt⟩, ok⟩ := y
                  have DN : Hid (∀ (fb' : Bool) wq, (fb = true → fb' = true) → (lf = v ∨ rt = v → fb' = true) → Ex wl wq → FnRel14 h' (fun t => (neighN L x.id t).1.1 = v ∨ (neighN L x.id t).1.2 = v) wk (.bool fb') (.int .i64 ((t : Int) + 1)) wq) := Lib.hid (fun fb' wq hf hn k => ⟨t + 1, fb', by omega, by go_num, rfl, fun j hj hA => by
                    by_cases hjt : j < t
                    · exact hf (FB.out j hjt hA)
                    · obtain rfl : j = t := by omega
                      simp only [← HY.out] at hA
                      exact hn hA, KL.out.nx k⟩)
                  have B7 := Blk.new wa [.int .i64 lf, .int .i64 rt] 74
                  have kk := Ex.new wa (.cells #[.int .i64 lf, .int .i64 rt] 74)
                  obtain ⟨w7, hw7⟩ : ∃ w7, w7 = wa.alloc (.cells #[.int .i64 lf, .int .i64 rt] 74) := ⟨_, rfl⟩
                  obtain ⟨g7, hg7⟩ : ∃ g7, g7 = wa.heap.size := ⟨_, rfl⟩
                  replace B7 : Blk w7 g7 [.int .i64 lf, .int .i64 rt] 74 := by rw [hw7, hg7]; exact B7
                  rw [← hw7] at kk
                  have Hw7 := Lib.hid hw7
                  have Hg7 := Lib.hid hg7
                  have ZZ := Lib.hid (ka.nx kk)
                  clear kk hw7 hg7 ka
                  go_upto_region 25 with fail
                  rw [← Hg7.out, ← Hw7.out]
                  clear Hg7 Hw7
                  have f0 := E0.out _ (KL.out.nx ZZ.out)
                  have e0 := B7.cell 0 _ rfl
                  have e1 := B7.cell 1 _ rfl
                  try simp only [Nat.zero_add] at e0 e1
                  clear HY
                  cases fb with
                  | true =>
                    have RR := Lib.hid (fun m => DN.out true (w7.drewN m) (fun _ => rfl) (fun _ => rfl) (ZZ.out.drewN m))
                    go_quiet (fail)
                    go_wp2_with fail
                    exact ⟨RR.out _, by simp [intOf]; omega⟩
                  | false =>
                    by_cases h1 : lf = v
                    · have d1 : (lf == v) = true := by simpa using h1
                      have RR := Lib.hid (fun m => DN.out true (w7.drewN m) (fun _ => rfl) (fun _ => rfl) (ZZ.out.drewN m))
                      clear h1
                      go_quiet (fail)
                      go_wp2_with fail
                      exact ⟨RR.out _, by simp [intOf]; omega⟩
                    · have d1 : (lf == v) = false := by simpa using h1
                      by_cases h2 : rt = v
                      · have d2 : (rt == v) = true := by simpa using h2
                        have RR := Lib.hid (fun m => DN.out true (w7.drewN m) (fun _ => rfl) (fun _ => rfl) (ZZ.out.drewN m))
                        clear h1 h2
                        go_quiet (fail)
                        go_wp2_with fail
                        exact ⟨RR.out _, by simp [intOf]; omega⟩
                      · have d2 : (rt == v) = false := by simpa using h2
                        have RR := Lib.hid (fun m => DN.out false (w7.drewN m) (fun h => h) (fun h => by rcases h with h | h; exact absurd h h1; exact absurd h h2) (ZZ.out.drewN m))
                        clear h1 h2
                        go_quiet (fail)
                        go_wp2_with fail
                        exact ⟨RR.out _, by simp [intOf]; omega⟩
                · obtain rfl : t = h' + 1 := by omega
                  have htf : ¬ ((h' : Int) + 1 ≤ (h' : Int)) := by omega
                  obtain ⟨j, hj, hA⟩ := OEv.out
                  obtain rfl : fb = true := FB.out j (by omega) hA
                  have RR := Lib.hid (show KtRel lo.length wj (.int .i64 ((k : Int) + 1)) wl from ⟨k + 1, by omega, by go_num, KK.out.nx KL.out⟩)
                  clear ht htt FB hA hj
                  go_wp2_with fail
                  exact ⟨RR.out, by simp [intOf]; omega⟩
            · obtain rfl : k = lo.length := by omega
              have KE := Lib.hid (QX.out.nx KX.out)
              have cl := CL.out
              have TT := Lib.hid (T1.out.nx KX.out)
              clear hk hlt KK
              have dl : (l.length : Int) ≤ 2 * (1 + (wn : Int)) * ((h' : Int) + 1) := by have := Int.ofNat_le.2 cl; simpa using this
              have dw : wrap64 (2 * (1 + (wn : Int)) * ((h' : Int) + 1)) = 2 * (1 + (wn : Int)) * ((h' : Int) + 1) := by
                have a1 : wn = 0 ∨ wn = 1 ∨ wn = 2 := by omega
                have a2 : h' = 0 ∨ h' = 1 ∨ h' = 2 := by omega
                rcases a1 with rfl | rfl | rfl <;> rcases a2 with rfl | rfl | rfl <;> (unfold wrap64; omega)
              clear cl
              go_wp2_with fail
              (with_reducible refine (sane14_x _ TT.out).mono ?_)
              rintro e wz ⟨rfl, kk⟩
              replace KE := Lib.hid (KE.out.nx kk)
              clear kk
              go_wp2_with fail
              go_ret
              exact ⟨rfl, KE.out⟩
end Go.Proofs.YtkjlhcfocefhpaaDoor

/- What the laid tables give the walks. -/
namespace Go.Proofs.YtkjlhcfocefhpaaDoor
open Go.RowKit

theorem Tryd.gTab : Tryd.prog.globalNamed "math/bits.deBruijn32tab" = some 1 := by kernel_rfl
theorem Tryd.tTab : (Tryd.prog.globals[1]?).map (·.type) = some 180 := by kernel_rfl
theorem Tryd.cells32 : Tryd.prog.cellsOf 180 = 32 := by kernel_rfl
theorem Tryd.cellsU8 : Tryd.prog.cellsOf 5 = 1 := by kernel_rfl
theorem laid_tab {H : Type} : (Rows.laid_math_bits_deBruijn32tab : DataW H) = Lib.tabData .u8 (Lib.deBruijn32tab.map fun (n : Nat) => (n : Int)) := rfl

theorem tabG_of {rest : List (String × DataW Unit)} {W : World} (h : laidMetH Tryd.prog (("math/bits.deBruijn32tab", Rows.laid_math_bits_deBruijn32tab) :: rest) W)
    (hp : ((("math/bits.deBruijn32tab", Rows.laid_math_bits_deBruijn32tab) :: rest).all fun x => x.2.handleName?.isNone) = true) : TabG W := by
  rw [MakeChecks.laidMetH_plain _ _ _ hp, laid_tab] at h
  have ht := Lib.tabIs_of_head Tryd.gTab Tryd.tTab Tryd.underlying180 Tryd.underlying5 Tryd.cellsU8 Tryd.cells32 h
  intro j hj
  have := ht.cell Tryd.gTab j (by simp [Lib.deBruijn32tab]; omega)
  rw [this]
  congr 2
  simp [List.getD, List.getElem?_map]
  cases h : Lib.deBruijn32tab[j]? <;> simp
end Go.Proofs.YtkjlhcfocefhpaaDoor

/- What the laid letters give the walks. -/
namespace Go.Proofs.YtkjlhcfocefhpaaDoor
open Go.RowKit

theorem Tryd.gLet : Tryd.prog.globalNamed "skipgraph/skipgraphworld.letters" = some 0 := by kernel_rfl
theorem Tryd.tLet : (Tryd.prog.globals[0]?).map (·.type) = some 94 := by kernel_rfl
theorem Tryd.cells6 : Tryd.prog.cellsOf 94 = 6 := by kernel_rfl
theorem Tryd.cellsStr : Tryd.prog.cellsOf 9 = 1 := by kernel_rfl
def letL : List (List UInt8) := [[97], [98], [99], [0], [255], [109]]

/-- AN ARRAY OF STRINGS THAT READS AS A LIST OF STRINGS HOLDS THEM, CELL FOR CELL. -/
theorem cells_of_strs {H : Type} {enc : TypeId × Value → H} {P : Program} {w : World} {base : Nat} {sp : Nat → Bool} {held : Bool} {fuel : Nat} {t e : TypeId} {n : Nat} {cs : List Value} {zs : List (List UInt8)} {p : List MemPlace}
    (ht : P.underlying t = some (.array n e)) (he : P.underlying e = some .string) (hce : P.cellsOf e = 1) (hct : P.cellsOf t = n)
    (h : DataW.trod enc P w base sp held fuel t cs = some (.agg (zs.map fun z => .lit (.string z)), p)) : ∀ (i : Nat) (z : List UInt8), zs[i]? = some z → ∃ s : ByteArray, s.data.toList = z ∧ cs[i]? = some (.string s) := by
  cases fuel with
  | zero => simp [DataW.trod] at h
  | succ fuel =>
    simp only [DataW.trod, ht, hce, hct, Nat.mul_one] at h
    split at h
    · rename_i hl
      obtain ⟨xs, hm, hx⟩ := Option.map_eq_some_iff.1 h
      have hxs : xs.map (·.1) = zs.map fun z => (DataW.lit (.string z) : DataW H) := by
        have := congrArg Prod.fst hx
        simpa using this
      have hxl : xs.length = n := by simpa using Lib.mapM_length hm
      have hzl : zs.length = n := by
        have := congrArg List.length hxs
        simp at this
        omega
      intro i z hz
      have hi : i < n := by have := (List.getElem?_eq_some_iff.1 hz).1; omega
      obtain ⟨b, hb, hf⟩ := Lib.mapM_at hm i i (by simp [hi])
      obtain ⟨s, hc, rfl, _⟩ := DataW.trod_string he hf
      have h1 : cs[i]? = some (.string s) := by
        have := congrArg (·[0]?) hc
        simpa [List.getElem?_take, List.getElem?_drop] using this
      have h2 : (xs.map (·.1))[i]? = some (DataW.lit (.string s.data.toList) : DataW H) := by simp [hb]
      rw [hxs] at h2
      simp only [List.getElem?_map, Option.map_eq_some_iff, DataW.lit.injEq, Lit.string.injEq] at h2
      obtain ⟨z', hz', hzz⟩ := h2
      have : z = z' := Option.some.inj (hz.symm.trans hz')
      exact ⟨s, by rw [this, hzz], h1⟩
    · cases h

theorem laid_let {H : Type} : (Rows.laid_skipgraph_skipgraphworld_letters : DataW H) = .agg (letL.map fun z => .lit (.string z)) := rfl
theorem letG_head {rest : List (String × DataW Unit)} {W : World} (h : laidMet Tryd.prog (("skipgraph/skipgraphworld.letters", .agg (letL.map fun z => .lit (.string z))) :: rest) W) : LetG W := by
  obtain ⟨ps, ⟨g', t', cs, fuel, p, q, hg', ht', hvar, hd, _, _⟩, _⟩ := h
  obtain rfl := Option.some.inj (Tryd.gLet.symm.trans hg')
  obtain rfl := Option.some.inj (Tryd.tLet.symm.trans ht')
  intro j hj
  obtain ⟨z, hz⟩ : ∃ z, letL[j]? = some z := ⟨letL[j]'(by simp [letL]; omega), by simp⟩
  obtain ⟨s, h1, h2⟩ := cells_of_strs Tryd.underlying94 Tryd.underlying9 Tryd.cellsStr Tryd.cells6 hd j z hz
  refine ⟨s, ?_, ?_⟩
  · have hl : z.length = 1 := by
      have : ∀ j, j < 6 → (letL[j]?.getD []).length = 1 := by decide
      have := this j hj
      rw [hz] at this
      exact this
    have : s.data.toList.length = 1 := by rw [h1]; exact hl
    rw [Array.length_toList] at this
    exact this
  · rw [World.var?_cell Tryd.gLet hvar j]
    simpa using h2
end Go.Proofs.YtkjlhcfocefhpaaDoor

/- The letters, where they are second on the list of what is laid. -/
namespace Go.Proofs.YtkjlhcfocefhpaaDoor
open Go.RowKit

theorem letG_second {x : String × DataW Unit} {W : World} (h : laidMetH Tryd.prog [x, ("skipgraph/skipgraphworld.letters", Rows.laid_skipgraph_skipgraphworld_letters)] W)
    (hp : ([x, ("skipgraph/skipgraphworld.letters", Rows.laid_skipgraph_skipgraphworld_letters)].all fun x => x.2.handleName?.isNone) = true) (hx : decide (x.1 = "skipgraph/skipgraphworld.letters") = false) : LetG W := by
  rw [MakeChecks.laidMetH_plain _ _ _ hp, laid_let] at h
  have h2 := h.filter (fun y => decide (y.1 = "skipgraph/skipgraphworld.letters"))
  rw [List.filter_cons_of_neg (by rw [hx]; simp), List.filter_cons_of_pos (by simp), List.filter_nil] at h2
  exact letG_head h2
end Go.Proofs.YtkjlhcfocefhpaaDoor

/- How the arguments of a statement are read: slices as lists. -/
namespace Go.Proofs.YtkjlhcfocefhpaaDoor
open Go.ChangeShapes Go.WideShapes Go.ChangeAt Go.RowKit Go.Deep Go.Joins

theorem own : ownKnob Tryd.prog.godebug = none := by kernel_rfl
theorem laidOut : laidOutB Tryd.prog = true := by kernel_rfl

section
variable {H : Type} {enc : TypeId × Value → H} {P : Program} {w : World} {base : Nat} {spare : Nat → Bool} {held : Bool}

theorem addr_lit {a : Addr} {v : Value} {w : World} (h : w.cell? (a.add 0) = some v) : a = ⟨a.block, a.off, none⟩ := by
  obtain ⟨b, o, s⟩ := a
  have : s = none := by simpa [Addr.add] using World.cell?_spot h
  subst this; rfl

/-- a slice of ints that came in -/
theorem rd_ints {t e : TypeId} {k : IntKind} {v : Value} {d : DataW H} {p : List MemPlace} {r : Reach} {b0 : Nat} (ht : P.underlying t = some (.slice e)) (he : P.underlying e = some (.int k)) (hC : P.cellsOf e = 1)
    (hv : Value.okWide P w r b0 t v) (h : DataW.Trod enc P w base spare held t v d p) :
    ∃ a n c l, v = .slice a n c ∧ Rd 1 (fun x : Int => [Value.int k x]) (· < w.heap.size) w a n l ∧ n ≤ c ∧ c ≤ maxLen ∧ (∀ x ∈ l, (Lit.int k x).wf = true) ∧ (a = none → c = 0) := by
  obtain ⟨a0, len0, cap0, rfl⟩ := okWide_slice ht hv
  obtain ⟨fuel, hf⟩ := h
  rcases open_ints ht he hC hf with ⟨hcs, _⟩ | ⟨x, l, c, zs, hcs, _, hl, hm, hz, _, hcell, hwz⟩
  · simp [Value.cells] at hcs
    obtain ⟨rfl, rfl, rfl⟩ := hcs
    exact ⟨none, 0, 0, [], rfl, Rd.nil _ _ _ _ _, by omega, by unfold maxLen; omega, by simp, fun _ => rfl⟩
  · simp [Value.cells] at hcs
    obtain ⟨rfl, rfl, rfl⟩ := hcs
    have hz' : len0 ≤ zs.length := by rw [hz]; split <;> omega
    refine ⟨_, len0, cap0, zs.take len0, rfl, ⟨by simp; omega, ?_⟩, hl, hm, fun y hy => hwz y (List.mem_of_mem_take hy), fun h => by cases h⟩
    rcases Nat.eq_zero_or_pos len0 with h0 | h0
    · exact .inl h0
    · have hx := addr_lit (hcell 0 (by omega))
      refine .inr ⟨x.block, x.off, by rw [← hx], ?_, fun j y hj c u hu => ?_⟩
      · have := World.block_lt_of_cell? w _ (hcell 0 (by omega))
        rw [hx] at this
        simpa [Addr.add] using this
      · have hj' : j < len0 := by
          have := (List.getElem?_eq_some_iff.1 hj).1
          simp at this; omega
        have hy : zs.getD j 0 = y := by
          rw [List.getElem?_take, if_pos hj'] at hj
          simp [List.getD, hj]
        have hc := hcell j (by omega)
        rw [hx, Addr.add_lit, hy] at hc
        rcases c with _ | c
        · simp at hu; subst hu; simpa using hc
        · simp at hu

end
end Go.Proofs.YtkjlhcfocefhpaaDoor

/-
  RedundantWidth returns true for every list of numbers, and leaves its arguments as they were.
  Condition: the table of math/bits and the letters of the keys are as the program text lays them (tied by the card).
-/
namespace Go.Proofs.YtkjlhcfocefhpaaDoor
open Go.ChangeShapes Go.WideShapes Go.ChangeAt Go.RowKit Go.Deep Go.Joins
open Go.ChangeMaps (open_string shut_string)
set_option linter.unusedVariables false
theorem Tryd.cellsInt : Tryd.prog.cellsOf 3 = 1 := by kernel_rfl

set_option maxRecDepth 100000 in
set_option maxHeartbeats 1000000 in
theorem redundantWidth_lifted (os : Os) (started : os.Started) (H : Type) (enc : TypeId × Value → H) :
    ReturnsInHanded {} Tryd.checked os 10 .any (fun w args => (Rows.redundantWidthSpec.pre enc Tryd.prog Tryd.f10 [] false w args ∧ laidMetH Tryd.prog Rows.redundantWidthRow.laid w) ∧ sizedMet enc Tryd.prog Tryd.f10 (OpenSpec.ofChange Rows.redundantWidthSpec) false w args)
      (Rows.redundantWidthSpec.post enc Tryd.prog Tryd.f10 false true false false) := by
  refine returnsInHanded_of_change_and (C := Tryd.checked) (X := fun w _ => laidMetH Tryd.prog Rows.redundantWidthRow.laid w) (fun _ _ _ hh h => h.of_heap hh) own started (by kernel_rfl) Tryd.func10
    (ChangeSpec.witness_shaped (enc := enc) (C := Tryd.checked) (os := os) (X := fun w _ => laidMetH Tryd.prog Rows.redundantWidthRow.laid w) false (World.doorLaid Tryd.prog 400 os) #[.slice none 0 0] 8 rfl (World.shaped_of_RefB (by kernel_rfl) (by kernel_rfl)) (by kernel_rfl) (by kernel_rfl) (by kernel_rfl) (laidMetH_of_parts3 (fuel := 8) (laidMet_of_run' 8 (by kernel_rfl) (by kernel_rfl)) (by kernel_rfl) (by kernel_rfl))) ?_
  intro W base args ds gs before hval0 hW _ _ hL _
  have hval : ∀ (j : Nat) t v, Tryd.f10.params[j]? = some t → args[j]? = some v → Value.okWide Tryd.prog W .any base t v := hval0
  have hW' := hW
  obtain ⟨p, q, hA0, hV, rfl, hfz, hnd⟩ := hW
  have hA : DataW.TrodAll enc Tryd.prog W 0 (fun _ => true) true Tryd.f10.params.toList args.toList ds p := hA0
  rw [Tryd.params10] at hA hval
  obtain ⟨v0, vs0, d0, ds0, p0, q0, hargs, rfl, rfl, h0, r0⟩ := trodAll_cons hA
  obtain ⟨rfl, rfl, rfl⟩ := trodAll_nil r0
  obtain rfl : args = #[v0] := by cases args; simp_all
  obtain ⟨rfl, rfl⟩ := trodVars_none hV
  have k0 := h0
  have lt0 : ∀ x ∈ p0, x.block < W.heap.size := by obtain ⟨m, hm⟩ := k0; exact DataW.trod_lt m _ _ _ hm
  obtain ⟨A0, n0, cap0, l0, rfl, rd0, hc0, hm0, wf0, nl0⟩ := rd_ints Tryd.underlying22 Tryd.underlying3 Tryd.cellsInt (hval 0 22 v0 rfl rfl) h0
  clear hA0 hval0
  have hT : TabG W := tabG_of hL (by kernel_rfl)
  have hL2 : LetG W := letG_second hL (by kernel_rfl) (by kernel_rfl)
  refine (redundantwidth_walk A0 n0 cap0 l0 W rd0 hc0 hm0 hT hL2).mono fun e W' ⟨he, hch⟩ => ?_
  have bel : Below W.heap.size W W' := hch.below (fun _ h => h)
  subst he
  exact ⟨_, rfl, _, _, _, [], _, [], hW', trodAll_mk1 (shut_bool Tryd.underlying4 _), (trodAll_cons_mk (Below.trod laidOut (by kernel_rfl) (of_decide_eq_true (by kernel_rfl)) k0 bel lt0) trodAll_mk0), rfl, bel.frame _, fun h => by cases h⟩

theorem redundantWidth_over : Rows.redundantWidthRow.holds Tryd.pinned (OpenSpec.ofChange Rows.redundantWidthSpec) :=
  OpenClaim.holds_of_wide 10 Tryd.f10 rfl rfl rfl rfl rfl rfl rfl ⟨rfl, rfl, rfl, rfl, rfl⟩ rfl rfl rfl rfl rfl (by kernel_rfl) Tryd.func10 (by kernel_rfl)
    (of_decide_eq_true (by kernel_rfl)) (by unfold Func.isWrapper; first | (rw [if_pos (by decide +kernel)]; kernel_rfl) | (rw [if_neg (by decide +kernel)]; exact ⟨rfl, rfl⟩))
    (fun os started H enc _ => redundantWidth_lifted os started H enc)

/-- THE STATEMENT: the tied card -/
theorem RedundantWidth_holds : Rows.RedundantWidthCardSaid :=
  Claim7.holds_tied_plain_at .later [] [.data, .data] true (true, "825c4c20d94b3dba0cd20ac6aaa34ae2a3fd6d17ead9a1175ad9d628145c474d") false
    redundantWidth_over (fun _ h => by cases h) (by kernel_rfl) (fun _ h => by cases h) redundantWidth_row_tie rfl ⟨rfl, rfl⟩ (by kernel_rfl) rfl
    (fun f fn hf hfn => by
      obtain rfl : f = 10 := Option.some.inj ((show Tryd.prog.funcNamed "skipgraph/skipgraphlaw14.RedundantWidth" = some 10 by kernel_rfl).symm.trans hf) |>.symm
      obtain rfl : fn = Tryd.f10 := (Option.some.inj (Tryd.func10.symm.trans hfn)).symm
      exact ⟨by kernel_rfl, fun j t ht => by
        rw [Tryd.params10] at ht
        have hm : t ∈ [22] := by simpa using Array.mem_of_getElem? ht
        have hall : ([22].all fun u => !Tryd.prog.wantsStandIn u) = true := by kernel_rfl
        exact (show Tryd.prog.wantsStandIn t = false by simpa using List.all_eq_true.1 hall t hm)⟩)
    (by kernel_rfl)
#print axioms RedundantWidth_holds
end Go.Proofs.YtkjlhcfocefhpaaDoor
