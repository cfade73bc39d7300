/- Texts for RepairRoundsProof. -/
import Derived.JoinedCond
import Derived.Deep.DeepHandedRow
import Derived.Deep.DeepWitnessRowRef
import Derived.Test.YtlgdjigocopglaaGreatDoorRepairRoundsProofL2
set_option linter.unusedSimpArgs false
set_option linter.unusedVariables false

namespace Go.Proofs.YtlgdjigocopglaaGreatDoor
open Go.ChangeShapes Go.WideShapes Go.ChangeAt Go.RowKit Go.Deep Go.Joins
theorem Tryz.cellsIntQ : Tryz.prog.cellsOf 3 = 1 := by kernel_rfl
theorem Tryz.cellsNearQ : Tryz.prog.cellsOf 50 = 4 := by kernel_rfl
theorem Tryz.cellsPeerQ : Tryz.prog.cellsOf 41 = 5 := by kernel_rfl
def WtP (M : Nat) (p : Pr) : Prop := p.known.length ≤ M ∧ p.near.length ≤ M
set_option maxHeartbeats 1000000 in
theorem rd_peers_b {H : Type} {enc : TypeId × Value → H} {w : World} {base : Nat} {spare : Nat → Bool} {held : Bool} {n0 M : Nat} {v : Value} {y0 : DataW H × List MemPlace}
  (hf : DataW.trod enc Tryz.prog w base spare held n0 24 [v] = some y0) (hM : Rows.uptoBulk y0.1 ≤ M) :
  ∃ a n c P, v = .slice a n c ∧ PL w a n P ∧ n ≤ c ∧ c ≤ maxLen ∧ ∀ p ∈ P, WtP M p := by
 obtain ⟨a, n, c, l, rfl, rd, hc, hm, _⟩ := rd_structs_b (encS := encPrIn w (WtP M)) (k := 5) (M := M) Tryz.underlying24 Tryz.underlying41 (by kernel_rfl) Tryz.cellsPeerQ rfl (by omega) hf hM
  (fun n cell hf => by
   obtain ⟨v0, c0, y0, t0, _⟩ := hf 0 _ rfl
   obtain ⟨v1, c1, y1, t1, m1⟩ := hf 1 _ rfl
   obtain ⟨v2, c2, y2, t2, _⟩ := hf 2 _ rfl
   obtain ⟨v3, c3, y3, t3, _⟩ := hf 3 _ rfl
   obtain ⟨v4, c4, y4, t4, m4⟩ := hf 4 _ rfl
   obtain ⟨i0, e0, rfl, _⟩ := DataW.trod_int Tryz.underlying3 t0
   obtain ⟨i2, e2, rfl, _⟩ := DataW.trod_int Tryz.underlying3 t2
   obtain ⟨i3, e3, rfl, _⟩ := DataW.trod_int Tryz.underlying3 t3
   simp at e0 e2 e3
   subst e0 e2 e3
   obtain ⟨a1, n1, k1, l1, rfl, r1, _, _, h1, _⟩ := rd_ints_b (M := M) Tryz.underlying22 Tryz.underlying3 Tryz.cellsIntQ t1 m1
   obtain ⟨a4, n4, k4, l4, rfl, r4, _, _, h4⟩ := rd_structs_b (encS := encNr) (k := 4) (M := M) Tryz.underlying39 Tryz.underlying50 (by kernel_rfl) Tryz.cellsNearQ rfl (by omega) t4 m4
    (fun n cell hf => by
     obtain ⟨v0, c0, y0, t0, _⟩ := hf 0 _ rfl
     obtain ⟨v1, c1, y1, t1, _⟩ := hf 1 _ rfl
     obtain ⟨v2, c2, y2, t2, _⟩ := hf 2 _ rfl
     obtain ⟨v3, c3, y3, t3, _⟩ := hf 3 _ rfl
     obtain ⟨i0, e0, rfl, _⟩ := DataW.trod_int Tryz.underlying3 t0
     obtain ⟨i1, e1, rfl, _⟩ := DataW.trod_int Tryz.underlying3 t1
     obtain ⟨i2, e2, rfl, _⟩ := DataW.trod_int Tryz.underlying3 t2
     obtain ⟨i3, e3, rfl, _⟩ := DataW.trod_int Tryz.underlying3 t3
     simp at e0 e1 e2 e3
     subst e0 e1 e2 e3
     refine ⟨((i0, i1, i2, i3) : Nr), fun c u hu => ?_⟩
     rcases c with _ | _ | _ | _ | c
     ·simp [encNr] at hu; subst hu; exact c0
     ·simp [encNr] at hu; subst hu; exact c1
     ·simp [encNr] at hu; subst hu; exact c2
     ·simp [encNr] at hu; subst hu; exact c3
     ·simp [encNr] at hu)
   have q1 : l1.length = n1 := r1.1
   have q4 : l4.length = n4 := r4.1
   refine ⟨⟨(((i0, i2, i3), (a1, n1, k1), (a4, n4, k4)), ⟨i0, i2, i3, l1, l4⟩), ⟨rfl, r1, r4⟩, by show l1.length ≤ M; omega, by show l4.length ≤ M; omega⟩, fun c u hu => ?_⟩
   rcases c with _ | _ | _ | _ | _ | c
   ·simp [encPrIn, encQ] at hu; subst hu; exact c0
   ·simp [encPrIn, encQ, Hdr.val] at hu; subst hu; exact c1
   ·simp [encPrIn, encQ] at hu; subst hu; exact c2
   ·simp [encPrIn, encQ] at hu; subst hu; exact c3
   ·simp [encPrIn, encQ, Hdr.val] at hu; subst hu; exact c4
   ·simp [encPrIn, encQ] at hu)
 obtain ⟨P, hP, hw⟩ := peers_of rd
 exact ⟨a, n, c, P, rfl, hP, hc, hm, hw⟩
end Go.Proofs.YtlgdjigocopglaaGreatDoor
/-
 RepairRounds returns true for every list of numbers, every list of nodes, every list of peers and all numbers, and leaves its arguments as they were.
 Conditions: the arguments are together of bulk at most 1048576; the table of math/bits and the letters of the keys are as the program text lays them (tied by the card).
-/
namespace Go.Proofs.YtlgdjigocopglaaGreatDoor
open Go.ChangeShapes Go.WideShapes Go.ChangeAt Go.RowKit Go.Deep Go.Joins
open Go.ChangeMaps (open_string shut_string)
set_option linter.unusedVariables false
theorem Tryz.cellsInt : Tryz.prog.cellsOf 3 = 1 := by kernel_rfl
theorem Tryz.cellsNode : Tryz.prog.cellsOf 56 = 3 := by kernel_rfl
theorem repairRounds_witness (os : Os) {H : Type} (enc : TypeId × Value → H) :
  (Rows.OpenSpec.upto Rows.repairRoundsSpec).preRow enc Tryz.prog Tryz.f4 [] false Rows.repairRoundsUptoRow.laid ((World.doorLaid Tryz.prog 400 os).forCall (fun _ _ => 0) ⟨#[], #[.slice none 0 0, .slice none 0 0, .slice none 0 0, .int .i64 0, .int .i64 0], []⟩).memory #[.slice none 0 0, .slice none 0 0, .slice none 0 0, .int .i64 0, .int .i64 0] := by
 have hw : (DataW.whole enc Tryz.prog ((World.doorLaid Tryz.prog 400 os).forCall (fun _ _ => 0) ⟨#[], #[.slice none 0 0, .slice none 0 0, .slice none 0 0, .int .i64 0, .int .i64 0], []⟩).memory Tryz.f4.params.toList (Rows.OpenSpec.upto Rows.repairRoundsSpec).vars false (#[.slice none 0 0, .slice none 0 0, .slice none 0 0, .int .i64 0, .int .i64 0] : Array Value).toList 8).map (fun x => (x.1, x.2.1)) =
   some ([.nil, .nil, .nil, .lit (.int .i64 0), .lit (.int .i64 0)], []) := by kernel_rfl
 obtain ⟨⟨x1, x2, x3⟩, hx, hx1⟩ := Option.map_eq_some_iff.1 hw
 simp only [Prod.mk.injEq] at hx1
 obtain ⟨rfl, rfl⟩ := hx1
 exact OpenSpec.preRow_of_cond 8 hx (by kernel_rfl) (fun k hk => by cases hk; rfl) (by kernel_rfl) (laidMetH_of_parts3 (fuel := 8) (laidMet_of_run' 8 (by kernel_rfl) (by kernel_rfl)) (by kernel_rfl) (by kernel_rfl))
set_option maxRecDepth 100000 in
set_option maxHeartbeats 1000000 in
theorem repairRounds_lifted (os : Os) (started : os.Started) (H : Type) (enc : TypeId × Value → H) (F0 : Stop.Interp) :
  ReturnsInHanded {} Tryz.checked os 4 .any ((Rows.OpenSpec.upto Rows.repairRoundsSpec).preRow enc Tryz.prog Tryz.f4 [] false Rows.repairRoundsUptoRow.laid) (((Rows.OpenSpec.upto Rows.repairRoundsSpec).at F0).post enc Tryz.prog Tryz.f4 false true false false) := by
 refine returnsInHanded_of_row (C := Tryz.checked) (s := Rows.OpenSpec.upto Rows.repairRoundsSpec) own started (by kernel_rfl) Tryz.func4
  (witness_row_atRef (enc := enc) (C := Tryz.checked) false (World.doorLaid Tryz.prog 400 os) #[.slice none 0 0, .slice none 0 0, .slice none 0 0, .int .i64 0, .int .i64 0] rfl (by kernel_rfl) (by kernel_rfl) (by kernel_rfl) (repairRounds_witness os enc)) ?_
 intro W base args ds gs before hval0 hW _ hcond _ hL _ _
 have hup : Rows.uptoBulkAll (ds ++ gs) ≤ 1048576 := by have h := hcond _ rfl; simpa [Rows.uptoSmall] using h
 have hval : ∀ (j : Nat) t v, Tryz.f4.params[j]? = some t → args[j]? = some v → Value.okWide Tryz.prog W .any base t v := hval0
 have hW' := hW
 obtain ⟨p, q, hA0, hV, rfl, hfz, hnd⟩ := hW
 have hA : DataW.TrodAll enc Tryz.prog W 0 (fun _ => true) true Tryz.f4.params.toList args.toList ds p := hA0
 rw [Tryz.params4] at hA hval
 obtain ⟨v0, vs0, d0, ds0, p0, q0, hargs, rfl, rfl, h0, r0⟩ := trodAll_cons hA
 obtain ⟨v1, vs1, d1, ds1, p1, q1, rfl, rfl, rfl, h1, r1⟩ := trodAll_cons r0
 obtain ⟨v2, vs2, d2, ds2, p2, q2, rfl, rfl, rfl, h2, r2⟩ := trodAll_cons r1
 obtain ⟨v3, vs3, d3, ds3, p3, q3, rfl, rfl, rfl, h3, r3⟩ := trodAll_cons r2
 obtain ⟨v4, vs4, d4, ds4, p4, q4, rfl, rfl, rfl, h4, r4⟩ := trodAll_cons r3
 obtain ⟨rfl, rfl, rfl⟩ := trodAll_nil r4
 obtain rfl : args = #[v0, v1, v2, v3, v4] := by cases args; simp_all
 obtain ⟨rfl, rfl⟩ := trodVars_none hV
 have k0 := h0
 have lt0 : ∀ x ∈ p0, x.block < W.heap.size := by obtain ⟨m, hm⟩ := k0; exact DataW.trod_lt m _ _ _ hm
 have k1 := h1
 have lt1 : ∀ x ∈ p1, x.block < W.heap.size := by obtain ⟨m, hm⟩ := k1; exact DataW.trod_lt m _ _ _ hm
 have k2 := h2
 have lt2 : ∀ x ∈ p2, x.block < W.heap.size := by obtain ⟨m, hm⟩ := k2; exact DataW.trod_lt m _ _ _ hm
 have k3 := h3
 have lt3 : ∀ x ∈ p3, x.block < W.heap.size := by obtain ⟨m, hm⟩ := k3; exact DataW.trod_lt m _ _ _ hm
 have k4 := h4
 have lt4 : ∀ x ∈ p4, x.block < W.heap.size := by obtain ⟨m, hm⟩ := k4; exact DataW.trod_lt m _ _ _ hm
 obtain ⟨A0, n0, cap0, l0, rfl, rd0, hc0, hm0, wf0, nl0⟩ := rd_ints Tryz.underlying22 Tryz.underlying3 Tryz.cellsInt (hval 0 22 v0 rfl rfl) h0
 obtain ⟨A1, n1, cap1, l1s, rfl, rd1s, hc1, hm1, nl1⟩ := rd_structs (encS := encN32) (k := 3) Tryz.underlying23 Tryz.underlying56 (by kernel_rfl) Tryz.cellsNode rfl (by omega) (hval 1 23 v1 rfl rfl) h1
  (fun n cell hf => by
   obtain ⟨v, y, hc, ht⟩ := hf 0 _ rfl
   obtain ⟨v', y', hc', ht'⟩ := hf 1 _ rfl
   obtain ⟨v'', y'', hc'', ht''⟩ := hf 2 _ rfl
   obtain ⟨a, e0, rfl, _⟩ := DataW.trod_int Tryz.underlying3 ht
   obtain ⟨s, e1, rfl, _⟩ := DataW.trod_string Tryz.underlying9 ht'
   obtain ⟨m, e2, rfl, wf⟩ := DataW.trod_int Tryz.underlying54 ht''
   simp at e0 e1 e2
   subst e0 e1 e2
   have hb := bounds_u32 wf
   obtain ⟨m, rfl⟩ := Int.eq_ofNat_of_zero_le hb.1
   refine ⟨⟨⟨a, s, m⟩, by show m < 4294967296; omega⟩, fun c u hu => ?_⟩
   rcases c with _ | _ | _ | c
   ·simp [encN32, encN] at hu; subst hu; exact hc
   ·simp [encN32, encN] at hu; subst hu; exact hc'
   ·simp [encN32, encN] at hu; subst hu; exact hc''
   ·simp [encN32, encN] at hu)
 obtain ⟨l1, rd1, wn1⟩ := nodes_of rd1s
 obtain ⟨mp2, hp2⟩ := h2
 obtain ⟨xa2, xl2, xc2, rfl⟩ := okWide_slice Tryz.underlying24 (hval 2 24 v2 rfl rfl)
 have hp2' : DataW.trod enc Tryz.prog W 0 (fun _ => true) true mp2 24 [.slice xa2 xl2 xc2] = some (d2, p2) := hp2
 obtain ⟨A2, n2, cap2, l2, hpe2, rd2, hc2, hm2, wl2⟩ := rd_peers_b (M := 1048576) hp2' (by show Rows.uptoBulk d2 ≤ 1048576; simp only [Rows.uptoBulkAll, List.append_nil] at hup; omega)
 injection hpe2 with hpa2 hpb2 hpc2
 replace hpa2 := hpa2.symm
 replace hpb2 := hpb2.symm
 replace hpc2 := hpc2.symm
 subst hpa2 hpb2 hpc2
 obtain ⟨a3, rfl, rfl, rfl, wa3⟩ := open_int Tryz.underlying3 (hval 3 3 v3 rfl rfl) h3
 obtain ⟨a4, rfl, rfl, rfl, wa4⟩ := open_int Tryz.underlying3 (hval 4 3 v4 rfl rfl) h4
 clear hA0 hval0
 have hT : TabG W := tabG_of hL (by kernel_rfl)
 have hL2 : LetG W := letG_second hL (by kernel_rfl) (by kernel_rfl)
 refine (repairrounds_walk A0 n0 cap0 l0 A1 n1 cap1 l1 A2 n2 cap2 l2 a3 a4 W rd0 hc0 hm0 rd1 hc1 hm1 wn1 rd2 (fun p hp => ⟨Nat.le_trans (wl2 p hp).1 (by decide), Nat.le_trans (wl2 p hp).2 (by decide)⟩) hT hL2).mono fun e W' ⟨he, hch⟩ => ?_
 have bel : Below W.heap.size W W' := hch.below (fun _ h => h)
 subst he
 exact ⟨_, rfl, _, _, _, [], _, [], hW', trodAll_mk1 (shut_bool Tryz.underlying4 _), (trodAll_cons_mk (Below.trod laidOut (by kernel_rfl) (of_decide_eq_true (by kernel_rfl)) k0 bel lt0) (trodAll_cons_mk (Below.trod laidOut (by kernel_rfl) (of_decide_eq_true (by kernel_rfl)) k1 bel lt1) (trodAll_cons_mk (Below.trod laidOut (by kernel_rfl) (of_decide_eq_true (by kernel_rfl)) k2 bel lt2) (trodAll_cons_mk (Below.trod laidOut (by kernel_rfl) (of_decide_eq_true (by kernel_rfl)) k3 bel lt3) (trodAll_cons_mk (Below.trod laidOut (by kernel_rfl) (of_decide_eq_true (by kernel_rfl)) k4 bel lt4) trodAll_mk0))))), rfl, bel.frame _, fun h => by cases h⟩
theorem repairRounds_over : Rows.repairRoundsUptoRow.holds Tryz.pinned (Rows.OpenSpec.upto Rows.repairRoundsSpec) :=
 OpenClaim.holds_of_cond 4 Tryz.f4 rfl rfl rfl rfl rfl rfl rfl ⟨rfl, rfl, rfl, rfl, rfl⟩ rfl rfl rfl rfl rfl (by kernel_rfl) Tryz.func4 (by kernel_rfl)
  (of_decide_eq_true (by kernel_rfl)) (by unfold Func.isWrapper; first | (rw [if_pos (by decide +kernel)]; kernel_rfl) | (rw [if_neg (by decide +kernel)]; exact ⟨rfl, rfl⟩))
  (fun os started H enc _ F0 => by rw [OpenClaim.pre_eq_preRow]; exact repairRounds_lifted os started H enc F0)
theorem RepairRounds_holds : Rows.RepairRoundsUptoCardSaid :=
 Claim7.holds_tied_plain_at .later [] [.data, .data] true (true, "b790f26ef35c85b0afa36e3ca6ce5369a92ddcf9cf001d61a03045e2f3eaabbf") false
  repairRounds_over (fun _ h => by cases h) (by kernel_rfl) (fun _ h => by cases h) repairRoundsUpto_row_tie rfl ⟨rfl, rfl⟩ (by kernel_rfl) rfl
  (fun f fn hf hfn => by
   obtain rfl : f = 4 := Option.some.inj ((show Tryz.prog.funcNamed "skipgraph/skipgraphlaw18.RepairRounds" = some 4 by kernel_rfl).symm.trans hf) |>.symm
   obtain rfl : fn = Tryz.f4 := (Option.some.inj (Tryz.func4.symm.trans hfn)).symm
   exact ⟨by kernel_rfl, fun j t ht => by
    rw [Tryz.params4] at ht
    have hm : t ∈ [22, 23, 24, 3, 3] := by simpa using Array.mem_of_getElem? ht
    have hall : ([22, 23, 24, 3, 3].all fun u => !Tryz.prog.wantsStandIn u) = true := by kernel_rfl
    exact (show Tryz.prog.wantsStandIn t = false by simpa using List.all_eq_true.1 hall t hm)⟩)
  (by kernel_rfl)
#print axioms RepairRounds_holds
end Go.Proofs.YtlgdjigocopglaaGreatDoor
