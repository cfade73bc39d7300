/-
  StampCodes returns true for every stamp, every row of bytes and every list of numbers, and leaves its arguments as they were.
  No condition.
-/
import Derived.Test.YtgpoikklnbmpkaaStampC
import Derived.Test.YtgpoikklnbmpkaaOpen
import Derived.Test.YtgpoikklnbmpkaaOpenB
namespace Go.Proofs.Ytgpoikklnbmpkaa
open Go.ChangeShapes Go.WideShapes Go.ChangeAt Go.RowKit Go.Deep Go.Joins
open Go.ChangeMaps (open_string shut_string)
set_option linter.unusedVariables false
theorem Try.cellsInt : Try.prog.cellsOf 3 = 1 := by kernel_rfl
theorem Try.cellsStamp : Try.prog.cellsOf 23 = 2 := by kernel_rfl
theorem Try.cellsU8 : Try.prog.cellsOf 5 = 1 := by kernel_rfl

set_option maxRecDepth 100000 in
set_option maxHeartbeats 1000000 in
theorem stampCodes_lifted (os : Os) (started : os.Started) (H : Type) (enc : TypeId × Value → H) :
    ReturnsInHanded {} Try.checked os 7 .any (Rows.stampCodesSpec.pre6 enc Try.prog Try.f7 Rows.stampCodesRow.domain false) (Rows.stampCodesSpec.post enc Try.prog Try.f7 false true false false) := by
  refine returnsInHanded_of_change (C := Try.checked) own started (by kernel_rfl) Try.func7
    (ChangeSpec.witness6 (enc := enc) (C := Try.checked) false ⟨#[], #[.agg #[.int .i64 0, .int .i64 0], .slice none 0 0, .slice none 0 0], []⟩ 8 (by kernel_rfl) (by kernel_rfl) (by kernel_rfl) (by kernel_rfl)) ?_
  intro W base args ds gs before hval0 hW hcnd _
  have hval : ∀ (j : Nat) t v, Try.f7.params[j]? = some t → args[j]? = some v → Value.okWide Try.prog W .any base t v := hval0
  have hW' := hW
  obtain ⟨p, q, hA0, hV, rfl, hfz, hnd⟩ := hW
  have hA : DataW.TrodAll enc Try.prog W 0 (fun _ => true) true Try.f7.params.toList args.toList ds p := hA0
  rw [Try.params7] at hA hval
  obtain ⟨v0, vs0, d0, ds0, p0, q0, hargs, rfl, rfl, h0, r0⟩ := trodAll_cons hA
  obtain ⟨v1, vs1, d1, ds1, p1, q1, rfl, rfl, rfl, h1, r1⟩ := trodAll_cons r0
  obtain ⟨v2, vs2, d2, ds2, p2, q2, rfl, rfl, rfl, h2, r2⟩ := trodAll_cons r1
  obtain ⟨rfl, rfl, rfl⟩ := trodAll_nil r2
  obtain rfl : args = #[v0, v1, v2] := by cases args; simp_all
  obtain ⟨rfl, rfl⟩ := trodVars_none hV
  have k0 := h0
  have lt0 : ∀ x ∈ p0, x.block < W.heap.size := by obtain ⟨m, hm⟩ := k0; exact DataW.trod_lt m _ _ _ hm
  have k1 := h1
  have lt1 : ∀ x ∈ p1, x.block < W.heap.size := by obtain ⟨m, hm⟩ := k1; exact DataW.trod_lt m _ _ _ hm
  have k2 := h2
  have lt2 : ∀ x ∈ p2, x.block < W.heap.size := by obtain ⟨m, hm⟩ := k2; exact DataW.trod_lt m _ _ _ hm
  obtain ⟨c00, c01, y00, y01, m0, rfl, rfl, rfl, hy00, hy01⟩ := open_agg2 Try.underlying23 (by kernel_rfl) Try.cellsStamp (hval 0 23 v0 rfl rfl) h0
  obtain ⟨a00, e00, rfl, _⟩ := DataW.trod_int Try.underlying3 hy00
  obtain ⟨a01, e01, rfl, _⟩ := DataW.trod_int Try.underlying3 hy01
  simp at e00 e01
  subst e00 e01
  obtain ⟨A1, n1, cap1, l1i, rfl, rd1i, hc1, hm1, wf1, nl1⟩ := rd_ints Try.underlying46 Try.underlying5 Try.cellsU8 (hval 1 46 v1 rfl rfl) h1
  obtain ⟨l1, rd1⟩ := bytes_of rd1i wf1
  obtain ⟨A2, n2, cap2, l2, rfl, rd2, hc2, hm2, wf2, nl2⟩ := rd_ints Try.underlying25 Try.underlying3 Try.cellsInt (hval 2 25 v2 rfl rfl) h2
  clear hA0 hval0
  refine (codes_walk a00 a01 A1 n1 cap1 l1 A2 n2 cap2 l2 W rd1 hc1 hm1 nl1 rd2 hc2 hm2).mono fun e W' ⟨he, hch⟩ => ?_
  have bel : Below W.heap.size W W' := hch.below (fun _ h => h)
  subst he
  exact ⟨_, rfl, _, _, _, [], _, [], hW', trodAll_mk1 (shut_bool Try.underlying4 _), (trodAll_cons_mk (Below.trod laidOut (by kernel_rfl) (of_decide_eq_true (by kernel_rfl)) k0 bel lt0) (trodAll_cons_mk (Below.trod laidOut (by kernel_rfl) (of_decide_eq_true (by kernel_rfl)) k1 bel lt1) (trodAll_cons_mk (Below.trod laidOut (by kernel_rfl) (of_decide_eq_true (by kernel_rfl)) k2 bel lt2) trodAll_mk0))), rfl, bel.frame _, fun h => by cases h⟩

theorem stampCodes_over : Rows.stampCodesRow.holds Try.pinned (OpenSpec.ofChange Rows.stampCodesSpec) :=
  OpenClaim.holds_of_wide 7 Try.f7 rfl rfl rfl rfl rfl rfl rfl ⟨rfl, rfl, rfl, rfl, rfl⟩ rfl rfl rfl rfl rfl (by kernel_rfl) Try.func7 (by kernel_rfl)
    (of_decide_eq_true (by kernel_rfl)) (by unfold Func.isWrapper; first | (rw [if_pos (by decide +kernel)]; kernel_rfl) | (rw [if_neg (by decide +kernel)]; exact ⟨rfl, rfl⟩))
    (fun os started H enc _ => stampCodes_lifted os started H enc)

/-- THE STATEMENT -/
theorem StampCodes_holds : Rows.StampCodesSaid := stampCodes_over
#print axioms StampCodes_holds
end Go.Proofs.Ytgpoikklnbmpkaa
