/-
  WordGroups returns true for every list of numbers, every list of nodes, every level and every word, and leaves its arguments as they were.
  Condition: the table of math/bits and the letters of the keys are as the program text lays them (tied by the card).
-/
import Derived.Test.YtenobfplmifomaaDoorWordGr
import Derived.Test.YtenobfplmifomaaDoorLaid4
import Derived.Test.YtenobfplmifomaaDoorLaid2
import Derived.Test.YtenobfplmifomaaDoorOpen
import Derived.Test.YtenobfplmifomaaDoorOpenN
namespace Go.Proofs.YtenobfplmifomaaDoor
open Go.ChangeShapes Go.WideShapes Go.ChangeAt Go.RowKit Go.Deep Go.Joins
open Go.ChangeMaps (open_string shut_string)
set_option linter.unusedVariables false
theorem Tryd.cellsInt : Tryd.prog.cellsOf 3 = 1 := by kernel_rfl
theorem Tryd.cellsNode : Tryd.prog.cellsOf 48 = 3 := by kernel_rfl

set_option maxRecDepth 100000 in
set_option maxHeartbeats 1000000 in
theorem wordGroups_lifted (os : Os) (started : os.Started) (H : Type) (enc : TypeId × Value → H) :
    ReturnsInHanded {} Tryd.checked os 6 .any (fun w args => (Rows.wordGroupsSpec.pre enc Tryd.prog Tryd.f6 [] false w args ∧ laidMetH Tryd.prog Rows.wordGroupsRow.laid w) ∧ sizedMet enc Tryd.prog Tryd.f6 (OpenSpec.ofChange Rows.wordGroupsSpec) false w args)
      (Rows.wordGroupsSpec.post enc Tryd.prog Tryd.f6 false true false false) := by
  refine returnsInHanded_of_change_and (C := Tryd.checked) (X := fun w _ => laidMetH Tryd.prog Rows.wordGroupsRow.laid w) (fun _ _ _ hh h => h.of_heap hh) own started (by kernel_rfl) Tryd.func6
    (ChangeSpec.witness_shaped (enc := enc) (C := Tryd.checked) (os := os) (X := fun w _ => laidMetH Tryd.prog Rows.wordGroupsRow.laid w) false (World.doorLaid Tryd.prog 400 os) #[.slice none 0 0, .slice none 0 0, .int .i64 0, .int .u32 0] 8 rfl (World.shaped_of_RefB (by kernel_rfl) (by kernel_rfl)) (by kernel_rfl) (by kernel_rfl) (by kernel_rfl) (laidMetH_of_parts3 (fuel := 8) (laidMet_of_run' 8 (by kernel_rfl) (by kernel_rfl)) (by kernel_rfl) (by kernel_rfl))) ?_
  intro W base args ds gs before hval0 hW _ _ hL _
  have hval : ∀ (j : Nat) t v, Tryd.f6.params[j]? = some t → args[j]? = some v → Value.okWide Tryd.prog W .any base t v := hval0
  have hW' := hW
  obtain ⟨p, q, hA0, hV, rfl, hfz, hnd⟩ := hW
  have hA : DataW.TrodAll enc Tryd.prog W 0 (fun _ => true) true Tryd.f6.params.toList args.toList ds p := hA0
  rw [Tryd.params6] at hA hval
  obtain ⟨v0, vs0, d0, ds0, p0, q0, hargs, rfl, rfl, h0, r0⟩ := trodAll_cons hA
  obtain ⟨v1, vs1, d1, ds1, p1, q1, rfl, rfl, rfl, h1, r1⟩ := trodAll_cons r0
  obtain ⟨v2, vs2, d2, ds2, p2, q2, rfl, rfl, rfl, h2, r2⟩ := trodAll_cons r1
  obtain ⟨v3, vs3, d3, ds3, p3, q3, rfl, rfl, rfl, h3, r3⟩ := trodAll_cons r2
  obtain ⟨rfl, rfl, rfl⟩ := trodAll_nil r3
  obtain rfl : args = #[v0, v1, v2, v3] := by cases args; simp_all
  obtain ⟨rfl, rfl⟩ := trodVars_none hV
  have k0 := h0
  have lt0 : ∀ x ∈ p0, x.block < W.heap.size := by obtain ⟨m, hm⟩ := k0; exact DataW.trod_lt m _ _ _ hm
  have k1 := h1
  have lt1 : ∀ x ∈ p1, x.block < W.heap.size := by obtain ⟨m, hm⟩ := k1; exact DataW.trod_lt m _ _ _ hm
  have k2 := h2
  have lt2 : ∀ x ∈ p2, x.block < W.heap.size := by obtain ⟨m, hm⟩ := k2; exact DataW.trod_lt m _ _ _ hm
  have k3 := h3
  have lt3 : ∀ x ∈ p3, x.block < W.heap.size := by obtain ⟨m, hm⟩ := k3; exact DataW.trod_lt m _ _ _ hm
  obtain ⟨A0, n0, cap0, l0, rfl, rd0, hc0, hm0, wf0, nl0⟩ := rd_ints Tryd.underlying22 Tryd.underlying3 Tryd.cellsInt (hval 0 22 v0 rfl rfl) h0
  obtain ⟨A1, n1, cap1, l1s, rfl, rd1s, hc1, hm1, nl1⟩ := rd_structs (encS := encN32) (k := 3) Tryd.underlying39 Tryd.underlying48 (by kernel_rfl) Tryd.cellsNode rfl (by omega) (hval 1 39 v1 rfl rfl) h1
    (fun n cell hf => by
      obtain ⟨v, y, hc, ht⟩ := hf 0 _ rfl
      obtain ⟨v', y', hc', ht'⟩ := hf 1 _ rfl
      obtain ⟨v'', y'', hc'', ht''⟩ := hf 2 _ rfl
      obtain ⟨a, e0, rfl, _⟩ := DataW.trod_int Tryd.underlying3 ht
      obtain ⟨s, e1, rfl, _⟩ := DataW.trod_string Tryd.underlying9 ht'
      obtain ⟨m, e2, rfl, wf⟩ := DataW.trod_int Tryd.underlying23 ht''
      simp at e0 e1 e2
      subst e0 e1 e2
      have hb := bounds_u32 wf
      obtain ⟨m, rfl⟩ := Int.eq_ofNat_of_zero_le hb.1
      refine ⟨⟨⟨a, s, m⟩, by show m < 4294967296; omega⟩, fun c u hu => ?_⟩
      rcases c with _ | _ | _ | c
      · simp [encN32, encN] at hu; subst hu; exact hc
      · simp [encN32, encN] at hu; subst hu; exact hc'
      · simp [encN32, encN] at hu; subst hu; exact hc''
      · simp [encN32, encN] at hu)
  obtain ⟨l1, rd1, wn1⟩ := nodes_of rd1s
  obtain ⟨a2, rfl, rfl, rfl, wa2⟩ := open_int Tryd.underlying3 (hval 2 3 v2 rfl rfl) h2
  obtain ⟨a3, rfl, rfl, rfl, wa3⟩ := open_int Tryd.underlying23 (hval 3 23 v3 rfl rfl) h3
  clear hA0 hval0
  have hT : TabG W := tabG_of hL (by kernel_rfl)
  have hL2 : LetG W := letG_second hL (by kernel_rfl) (by kernel_rfl)
  have hb3 := bounds_u32 wa3
  obtain ⟨nv, rfl⟩ := Int.eq_ofNat_of_zero_le hb3.1
  have hnv : nv < 4294967296 := by omega
  refine (wordgroups_walk A0 n0 cap0 l0 A1 n1 cap1 l1 a2 nv W rd0 hc0 hm0 rd1 wn1 hnv hT hL2).mono fun e W' ⟨he, hch⟩ => ?_
  have bel : Below W.heap.size W W' := hch.below (fun _ h => h)
  subst he
  exact ⟨_, rfl, _, _, _, [], _, [], hW', trodAll_mk1 (shut_bool Tryd.underlying4 _), (trodAll_cons_mk (Below.trod laidOut (by kernel_rfl) (of_decide_eq_true (by kernel_rfl)) k0 bel lt0) (trodAll_cons_mk (Below.trod laidOut (by kernel_rfl) (of_decide_eq_true (by kernel_rfl)) k1 bel lt1) (trodAll_cons_mk (Below.trod laidOut (by kernel_rfl) (of_decide_eq_true (by kernel_rfl)) k2 bel lt2) (trodAll_cons_mk (Below.trod laidOut (by kernel_rfl) (of_decide_eq_true (by kernel_rfl)) k3 bel lt3) trodAll_mk0)))), rfl, bel.frame _, fun h => by cases h⟩

theorem wordGroups_over : Rows.wordGroupsRow.holds Tryd.pinned (OpenSpec.ofChange Rows.wordGroupsSpec) :=
  OpenClaim.holds_of_wide 6 Tryd.f6 rfl rfl rfl rfl rfl rfl rfl ⟨rfl, rfl, rfl, rfl, rfl⟩ rfl rfl rfl rfl rfl (by kernel_rfl) Tryd.func6 (by kernel_rfl)
    (of_decide_eq_true (by kernel_rfl)) (by unfold Func.isWrapper; first | (rw [if_pos (by decide +kernel)]; kernel_rfl) | (rw [if_neg (by decide +kernel)]; exact ⟨rfl, rfl⟩))
    (fun os started H enc _ => wordGroups_lifted os started H enc)

/-- THE STATEMENT: the tied card -/
theorem WordGroups_holds : Rows.WordGroupsCardSaid :=
  Claim7.holds_tied_plain_at .later [] [.data, .data] true (true, "b291bb50390cb1b8ab41f31dc57a7a0e89e7a8eed95b203097f8b61eb6c082c8") false
    wordGroups_over (fun _ h => by cases h) (by kernel_rfl) (fun _ h => by cases h) wordGroups_row_tie rfl ⟨rfl, rfl⟩ (by kernel_rfl) rfl
    (fun f fn hf hfn => by
      obtain rfl : f = 6 := Option.some.inj ((show Tryd.prog.funcNamed "skipgraph/skipgraphlaw4.WordGroups" = some 6 by kernel_rfl).symm.trans hf) |>.symm
      obtain rfl : fn = Tryd.f6 := (Option.some.inj (Tryd.func6.symm.trans hfn)).symm
      exact ⟨by kernel_rfl, fun j t ht => by
        rw [Tryd.params6] at ht
        have hm : t ∈ [22, 39, 3, 23] := by simpa using Array.mem_of_getElem? ht
        have hall : ([22, 39, 3, 23].all fun u => !Tryd.prog.wantsStandIn u) = true := by kernel_rfl
        exact (show Tryd.prog.wantsStandIn t = false by simpa using List.all_eq_true.1 hall t hm)⟩)
    (by kernel_rfl)
#print axioms WordGroups_holds
end Go.Proofs.YtenobfplmifomaaDoor
