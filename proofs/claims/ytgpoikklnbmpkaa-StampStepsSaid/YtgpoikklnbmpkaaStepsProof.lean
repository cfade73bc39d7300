/-
  StampSteps returns true for every stamp, every list of stamps and every list of numbers, and leaves its arguments as they were.
  No condition.
-/
import Derived.Test.YtgpoikklnbmpkaaSteps
import Derived.Test.YtgpoikklnbmpkaaOpen
namespace Go.Proofs.Ytgpoikklnbmpkaa
open Go.ChangeShapes Go.WideShapes Go.ChangeAt Go.RowKit Go.Deep Go.Joins
set_option linter.unusedVariables false

theorem Try.cellsInt : Try.prog.cellsOf 3 = 1 := by kernel_rfl
theorem Try.cellsStamp : Try.prog.cellsOf 23 = 2 := by kernel_rfl

set_option maxRecDepth 100000 in
theorem steps_lifted (os : Os) (started : os.Started) (H : Type) (enc : TypeId × Value → H) :
    ReturnsInHanded {} Try.checked os 3 .any (Rows.stampStepsSpec.pre6 enc Try.prog Try.f3 Rows.stampStepsRow.domain false) (Rows.stampStepsSpec.post enc Try.prog Try.f3 false true false false) := by
  refine returnsInHanded_of_change (C := Try.checked) own started (by kernel_rfl) Try.func3
    (ChangeSpec.witness6 (enc := enc) (C := Try.checked) false ⟨#[], #[.agg #[.int .i64 0, .int .i64 0], .slice none 0 0, .slice none 0 0], []⟩ 8 (by kernel_rfl) (by kernel_rfl) (by kernel_rfl) (by kernel_rfl)) ?_
  intro W base args ds gs before hval0 hW hcnd _
  have hval : ∀ (j : Nat) t v, Try.f3.params[j]? = some t → args[j]? = some v → Value.okWide Try.prog W .any base t v := hval0
  have hW' := hW
  obtain ⟨p, q, hA0, hV, rfl, hfz, hnd⟩ := hW
  have hA : DataW.TrodAll enc Try.prog W 0 (fun _ => true) true Try.f3.params.toList args.toList ds p := hA0
  rw [Try.params3] at hA hval
  obtain ⟨v0, vs0, d0, ds0, p0, q0, hargs, rfl, rfl, h0, r0⟩ := trodAll_cons hA
  obtain ⟨v1, vs1, d1, ds1, p1, q1, rfl, rfl, rfl, h1, r1⟩ := trodAll_cons r0
  obtain ⟨v2, vs2, d2, ds2, p2, q2, rfl, rfl, rfl, h2, r2⟩ := trodAll_cons r1
  obtain ⟨rfl, rfl, rfl⟩ := trodAll_nil r2
  obtain rfl : args = #[v0, v1, v2] := by cases args; simp_all
  obtain ⟨rfl, rfl⟩ := trodVars_none hV
  have k0 := h0
  have k1 := h1
  have k2 := h2
  have lt0 : ∀ x ∈ p0, x.block < W.heap.size := by obtain ⟨m, hm⟩ := k0; exact DataW.trod_lt m _ _ _ hm
  have lt1 : ∀ x ∈ p1, x.block < W.heap.size := by obtain ⟨m, hm⟩ := k1; exact DataW.trod_lt m _ _ _ hm
  have lt2 : ∀ x ∈ p2, x.block < W.heap.size := by obtain ⟨m, hm⟩ := k2; exact DataW.trod_lt m _ _ _ hm
  obtain ⟨c00, c01, y00, y01, m0, rfl, rfl, rfl, hy00, hy01⟩ := open_agg2 Try.underlying23 (by kernel_rfl) Try.cellsStamp (hval 0 23 v0 rfl rfl) h0
  obtain ⟨a00, e00, rfl, _⟩ := DataW.trod_int Try.underlying3 hy00
  obtain ⟨a01, e01, rfl, _⟩ := DataW.trod_int Try.underlying3 hy01
  simp at e00 e01
  subst e00 e01
  obtain ⟨A1, n1, cap1, l1, rfl, rd1, hc1, hm1⟩ := rd_structs (encS := encS) (k := 2) Try.underlying24 Try.underlying23 (by kernel_rfl) Try.cellsStamp rfl (by omega) (hval 1 24 v1 rfl rfl) h1
    (fun n cell hf => by
      obtain ⟨v, y, hc, ht⟩ := hf 0 _ rfl
      obtain ⟨v', y', hc', ht'⟩ := hf 1 _ rfl
      obtain ⟨a, e0, rfl, _⟩ := DataW.trod_int Try.underlying3 ht
      obtain ⟨a', e0', rfl, _⟩ := DataW.trod_int Try.underlying3 ht'
      simp at e0 e0'
      subst e0 e0'
      refine ⟨(a, a'), fun c u hu => ?_⟩
      rcases c with _ | _ | c
      · simp [encS] at hu; subst hu; exact hc
      · simp [encS] at hu; subst hu; exact hc'
      · simp [encS] at hu)
  obtain ⟨A2, n2, cap2, l2, rfl, rd2, hc2, hm2, _⟩ := rd_ints Try.underlying25 Try.underlying3 Try.cellsInt (hval 2 25 v2 rfl rfl) h2
  clear hA0 hval0
  refine (steps_walk a00 a01 A1 n1 cap1 l1 A2 n2 cap2 l2 W rd1 rd2 hc2 hm2).mono fun e W' ⟨he, hch⟩ => ?_
  have bel : Below W.heap.size W W' := hch.below (fun _ h => h)
  subst he
  exact ⟨_, rfl, _, _, _, [], _, [], hW', trodAll_mk1 (shut_bool Try.underlying4 _), (trodAll_cons_mk (Below.trod laidOut (by kernel_rfl) (of_decide_eq_true (by kernel_rfl)) k0 bel lt0) (trodAll_cons_mk (Below.trod laidOut (by kernel_rfl) (of_decide_eq_true (by kernel_rfl)) k1 bel lt1) (trodAll_cons_mk (Below.trod laidOut (by kernel_rfl) (of_decide_eq_true (by kernel_rfl)) k2 bel lt2) trodAll_mk0))), rfl, bel.frame _, fun h => by cases h⟩

theorem steps_over : Rows.stampStepsRow.holds Try.pinned (OpenSpec.ofChange Rows.stampStepsSpec) :=
  OpenClaim.holds_of_wide 3 Try.f3 rfl rfl rfl rfl rfl rfl rfl ⟨rfl, rfl, rfl, rfl, rfl⟩ rfl rfl rfl rfl rfl (by kernel_rfl) Try.func3 (by kernel_rfl)
    (of_decide_eq_true (by kernel_rfl)) (by unfold Func.isWrapper; first | (rw [if_pos (by decide +kernel)]; kernel_rfl) | (rw [if_neg (by decide +kernel)]; exact ⟨rfl, rfl⟩))
    (fun os started H enc _ => steps_lifted os started H enc)

/-- THE STATEMENT -/
theorem StampSteps_holds : Rows.StampStepsSaid := steps_over
#print axioms StampSteps_holds
end Go.Proofs.Ytgpoikklnbmpkaa
