/- Texts for RepairReachesProof, RepairJoinsProof, RepairRejoinsProof. -/
import Derived.Test.YtofmcalfbpjoeaaGreatDoorRpAll1
import Derived.Test.YtofmcalfbpjoeaaGreatDoorRpAll3
import Derived.Test.YtofmcalfbpjoeaaGreatDoorRpAll6
import Derived.Test.YtofmcalfbpjoeaaGreatDoorRpAll8
import Derived.Test.YtofmcalfbpjoeaaGreatDoorRpAll15
import Derived.Test.YtofmcalfbpjoeaaGreatDoorRpAll20
import Derived.Test.YtofmcalfbpjoeaaGreatDoorRpAll21
import Derived.Test.YtofmcalfbpjoeaaGreatDoorRpAll22
import Derived.Test.YtofmcalfbpjoeaaGreatDoorRpAll23
import Derived.Test.YtofmcalfbpjoeaaGreatDoorRpAll24
import Derived.Test.YtofmcalfbpjoeaaGreatDoorRpABCE1

namespace Go.Proofs.YtofmcalfbpjoeaaGreatDoor
open Go.RowKit
namespace Lab
def partsL (ids : List Int) (E : List (Int × Int)) : Nat := ((List.range ids.length).filter fun i => (labsL ids E ids.length).getD i 0 == i).length
variable {ids : List Int} {E : List (Int × Int)}
theorem parts_le_one : partsL ids E ≤ 1 ↔ ∀ i j, i < ids.length → j < ids.length → Cn ids E i j := by
 have hp : partsL ids E = (List.range ids.length).countP fun i => (labsL ids E ids.length).getD i 0 == i := (List.countP_eq_length_filter).symm
 constructor
 ·intro h i j hi hj
  -- the labels of both are the only place that bears itself
  have root : ∀ k, k < ids.length → ∃ c, c < ids.length ∧ Cn ids E k c ∧ (labsL ids E ids.length).getD c 0 = c := by
   intro k
   induction k using Nat.strongRecOn with
   | ind k ih =>
    intro hk
    obtain ⟨h1, h2⟩ := (labs_ok (ids := ids) (E := E) ids.length).2 k hk
    by_cases he : (labsL ids E ids.length).getD k 0 = k
    ·exact ⟨k, hk, .refl _, he⟩
    ·obtain ⟨c, g1, g2, g3⟩ := ih ((labsL ids E ids.length).getD k 0) (by omega) (by omega)
     exact ⟨c, g1, h2.trans g2, g3⟩
  obtain ⟨a, a1, a2, a3⟩ := root i hi
  obtain ⟨b, b1, b2, b3⟩ := root j hj
  have hab : a = b := by
   apply Classical.byContradiction
   intro hne
   rw [hp] at h
   have hmem : ∀ {c}, c < ids.length → (labsL ids E ids.length).getD c 0 = c → c ∈ (List.range ids.length).filter fun i => (labsL ids E ids.length).getD i 0 == i := fun h1 h2 => List.mem_filter.2 ⟨by simpa using h1, by simpa using h2⟩
   have ha := hmem a1 a3
   have hb := hmem b1 b3
   rw [List.countP_eq_length_filter] at h
   match hl : (List.range ids.length).filter (fun i => (labsL ids E ids.length).getD i 0 == i), h, ha, hb with
   | [], _, ha, _ => cases ha
   | [z], _, ha, hb =>
    have e1 := List.mem_singleton.1 ha
    have e2 := List.mem_singleton.1 hb
    exact hne (e1.trans e2.symm)
   | _ :: _ :: _, h, _, _ => simp at h
  subst hab
  exact a2.trans b2.symm
 ·intro h
  rw [hp]
  rcases Nat.eq_zero_or_pos ids.length with h0 | h0
  ·rw [h0]; simp
  ·have hz : ∀ i, i < ids.length → ((labsL ids E ids.length).getD i 0 == i) = (i == 0) := by
    intro i hi
    have := conv (E := E) h0 hi (h 0 i h0 hi)
    rw [Bool.eq_iff_iff, beq_iff_eq, beq_iff_eq]
    omega
   have : ((List.range ids.length).countP fun i => (labsL ids E ids.length).getD i 0 == i) = (List.range ids.length).countP fun i => i == 0 := by
    refine List.countP_congr fun i hi => ?_
    rw [hz i (by simpa using hi)]
   rw [this]
   have : (List.range ids.length).countP (fun i => i == 0) = (List.range ids.length).count 0 := rfl
   rw [this]
   have hnd : (List.range ids.length).Nodup := List.nodup_range
   exact List.nodup_iff_count.1 hnd 0
end Lab
def pairsN (N : List Nd) (P : List Pr) : List (Int × Int) := N.flatMap fun x => (refsN N (peerN P x.id)).map fun v => (x.id, v)
def InE (N : List Nd) (E : List (Int × Int)) (u v : Int) : Prop := (u, v) ∈ E ∧ (∃ x ∈ N, x.id = u) ∧ ∃ y ∈ N, y.id = v
section
variable {N : List Nd} {E : List (Int × Int)}
theorem ids_get (h0 : checkN N = 0) {v : Int} {i : Nat} : (N.map Nd.id).findIdx? (· == v) = some i ↔ (N.map Nd.id)[i]? = some v := by
 have hk := check_keys h0
 constructor
 ·intro h
  obtain ⟨h1, h2, _⟩ := List.findIdx?_eq_some_iff_getElem.1 h
  rw [List.getElem?_eq_getElem h1]
  simpa using h2
 ·intro h
  obtain ⟨h1, h2⟩ := List.getElem?_eq_some_iff.1 h
  refine List.findIdx?_eq_some_iff_getElem.2 ⟨h1, by simpa using h2, fun j hj => ?_⟩
  have hjl : j < N.length := by simp at h1; omega
  have hil : i < N.length := by simpa using h1
  have := (hk i j N[i] N[j] hj (List.getElem?_eq_getElem hil) (List.getElem?_eq_getElem hjl)).2
  simp only [List.getElem_map, beq_iff_eq] at h2 ⊢
  intro he
  exact this (h2.trans he.symm)
theorem ed_iff (h0 : checkN N = 0) {i j : Nat} {x y : Nd} (hx : N[i]? = some x) (hy : N[j]? = some y) : Lab.Ed (N.map Nd.id) E i j ↔ InE N E x.id y.id := by
 have hx' : (N.map Nd.id)[i]? = some x.id := by rw [List.getElem?_map, hx]; rfl
 have hy' : (N.map Nd.id)[j]? = some y.id := by rw [List.getElem?_map, hy]; rfl
 constructor
 ·rintro ⟨q, hq, h1, h2⟩
  have e1 := (ids_get h0).1 h1
  have e2 := (ids_get h0).1 h2
  rw [hx'] at e1
  rw [hy'] at e2
  cases q
  simp only [Option.some.injEq] at e1 e2
  subst e1 e2
  exact ⟨hq, ⟨x, List.mem_of_getElem? hx, rfl⟩, y, List.mem_of_getElem? hy, rfl⟩
 ·rintro ⟨h, _, _⟩
  exact ⟨_, h, (ids_get h0).2 hx', (ids_get h0).2 hy'⟩
theorem node_get {i : Nat} (hi : i < (N.map Nd.id).length) : ∃ x, N[i]? = some x := ⟨N[i]'(by simpa using hi), by simp⟩
theorem cn_cl (h0 : checkN N = 0) {i j : Nat} (h : Lab.Cn (N.map Nd.id) E i j) : ∀ {x y : Nd}, N[i]? = some x → N[j]? = some y → Cl (InE N E) x.id y.id := by
 induction h with
 | refl i => intro x y hx hy; rw [hx] at hy; cases hy; exact .refl _
 | step h1 g ih =>
  rename_i i k j
  intro x y hx hy
  obtain ⟨z, hz⟩ : ∃ z, N[k]? = some z := node_get (by rcases h1 with h | h; exact (Lab.ed_lt h).2; exact (Lab.ed_lt h).1)
  exact (Cl.one (h1.imp (ed_iff h0 hx hz).1 (ed_iff h0 hz hx).1)).trans (ih hz hy)
theorem cl_cn (h0 : checkN N = 0) {u v : Int} (h : Cl (InE N E) u v) : ∀ {i j : Nat} {x y : Nd}, N[i]? = some x → N[j]? = some y → x.id = u → y.id = v → Lab.Cn (N.map Nd.id) E i j := by
 induction h with
 | refl u =>
  intro i j x y hx hy h1 h2
  have e1 : (N.map Nd.id)[i]? = some u := by rw [List.getElem?_map, hx, ← h1]; rfl
  have e2 : (N.map Nd.id)[j]? = some u := by rw [List.getElem?_map, hy, ← h2]; rfl
  have := (ids_get h0).2 e1
  rw [(ids_get h0).2 e2] at this
  cases this
  exact .refl _
 | step h1 g ih =>
  rename_i u c v
  intro i j x y hx hy hxu hyv
  obtain ⟨z, hz, hzc⟩ : ∃ z ∈ N, z.id = c := by
   rcases h1 with h | h
   ·exact h.2.2
   ·exact h.2.1
  obtain ⟨k, hk⟩ := List.mem_iff_getElem?.1 hz
  rw [← hxu, ← hzc] at h1
  exact (Lab.Cn.one (h1.imp (ed_iff h0 hx hk).2 (ed_iff h0 hk hx).2)).trans (ih hk hy hzc hyv)
theorem joined_iff (h0 : checkN N = 0) : Lab.partsL (N.map Nd.id) E ≤ 1 ↔ ∀ x ∈ N, ∀ y ∈ N, Cl (InE N E) x.id y.id := by
 rw [Lab.parts_le_one]
 constructor
 ·intro h x hx y hy
  obtain ⟨i, hi⟩ := List.mem_iff_getElem?.1 hx
  obtain ⟨j, hj⟩ := List.mem_iff_getElem?.1 hy
  have li := (List.getElem?_eq_some_iff.1 hi).1
  have lj := (List.getElem?_eq_some_iff.1 hj).1
  exact cn_cl h0 (h i j (by simpa using li) (by simpa using lj)) hi hj
 ·intro h i j hi hj
  obtain ⟨x, hx⟩ := node_get hi
  obtain ⟨y, hy⟩ := node_get hj
  exact cl_cn h0 (h x (List.mem_of_getElem? hx) y (List.mem_of_getElem? hy)) hx hy rfl rfl
theorem pairs_in {P : List Pr} (h0 : checkN N = 0) {u v : Int} : InE N (pairsN N P) u v ↔ EdgeN N P u v := by
 unfold InE pairsN
 simp only [List.mem_flatMap, List.mem_map, Prod.mk.injEq]
 constructor
 ·rintro ⟨⟨x, hx, w, hw, rfl, rfl⟩, _, _⟩
  exact ⟨⟨x, hx, rfl⟩, hw⟩
 ·rintro ⟨⟨x, hx, rfl⟩, hv⟩
  exact ⟨⟨x, hx, v, hv, rfl, rfl⟩, ⟨x, hx, rfl⟩, ((mem_refs h0).1 hv).1⟩
theorem conn_iff {P : List Pr} (h0 : checkN N = 0) : Lab.partsL (N.map Nd.id) (pairsN N P) ≤ 1 ↔ ConnN N P := by
 rw [joined_iff h0]
 constructor
 ·intro h
  exact ⟨h0, fun x hx y hy => (h x hx y hy).mono (fun a b hab => .one (.inl ((pairs_in h0).1 hab)))⟩
 ·rintro ⟨_, h⟩ x hx y hy
  exact (h x hx y hy).mono (fun a b hab => .one (.inl ((pairs_in h0).2 hab)))
def connB (N : List Nd) (P : List Pr) : Bool := checkN N == 0 && decide (Lab.partsL (N.map Nd.id) (pairsN N P) ≤ 1)
theorem connB_iff {P : List Pr} : connB N P = true ↔ ConnN N P := by
 unfold connB
 rw [Bool.and_eq_true, beq_iff_eq, decide_eq_true_eq]
 constructor
 ·rintro ⟨h1, h2⟩; exact (conn_iff h1).1 h2
 ·intro h; exact ⟨h.1, (conn_iff h.1).2 h⟩
end
section
variable {P : Program} {ops : Array Oper} {Q : Exit → Act → World → Prop} {md : Region.Mode} {S : World → Prop} {late : List Nat}
theorem wpAnyL_firstP {i : Nat} {oi : Oper} {v : Value} (hi : ops[i]? = some oi) (hsel : ∀ (j : Nat) (o : Oper) cs b, ops[j]? = some o → o.op ≠ .select cs b)
  (hQ : ∀ c a w, Q (.panic c) (a.put oi.dst v) w → Q (.panic c) a w) :
  ∀ (fuel : Nat) (listed : Array Bool) (a : Act) (w : World),
   (∀ j oj, ops[j]? = some oj → j ≠ i → listed.getD j true = false → (∀ e ∈ oj.after, Region.binds md e = true → e.on ≠ i) → oi.apart ops oj = true) →
   i ∈ Region.ready md ops listed → YieldsIf P ops (fun _ => True) oi v a →
   wpAnyL P md ops Q S late fuel (listed.setIfInBounds i true) (a.put oi.dst v) w → wpAnyL P md ops Q S late (fuel + 1) listed a w := by
 have hun : ∀ listed : Array Bool, i ∈ Region.ready md ops listed → listed.getD i false = true → False := fun listed hr h => by
  have h0 := (mem_ready.1 hr).1
  rw [Array.getD_eq_getD_getElem?] at h h0
  cases h1 : listed[i]? with
  | none => rw [h1] at h; cases h
  | some b => rw [h1] at h h0; simp only [Option.getD_some] at h h0; rw [h] at h0; cases h0
 intro fuel
 induction fuel with
 | zero =>
  intro listed a w _ hr hy H
  refine ⟨fun h => (by rw [h] at hr; cases hr), fun j hj => ?_⟩
  by_cases hji : j = i
  ·subst hji; exact hy.wpOp hi trivial ⟨fun _ h => h, H⟩
  ·have := ready_mono hj hji
   rw [H.1] at this
   cases this
 | succ fuel ih =>
  intro listed a w hfree hr hy H
  refine ⟨fun h => (by rw [h] at hr; cases hr), fun j hj => ?_⟩
  by_cases hji : j = i
  ·subst hji; exact hy.wpOp hi trivial ⟨fun _ h => h, H⟩
  ·have h1 := H.2 j (ready_mono hj hji)
   obtain ⟨hjun, oj, hoj, hall⟩ := mem_ready.1 hj
   have hnot : ∀ e ∈ oj.after, Region.binds md e = true → e.on ≠ i := fun e he hb heq => hun listed hr (by rw [← heq]; exact hall e he hb)
   have h2 := wpOp_putIf hoj (hfree j oj hoj hji hjun hnot) (fun cs b => hsel i oi cs b hi) (fun cs b => hsel j oj cs b hoj) hQ hy h1
   have hfree' : ∀ k ok, ops[k]? = some ok → k ≠ i → (listed.setIfInBounds j true).getD k true = false →
     (∀ e ∈ ok.after, Region.binds md e = true → e.on ≠ i) → oi.apart ops ok = true := fun k ok hk hki hun hno => by
    refine hfree k ok hk hki ?_ hno
    by_cases hjk : j = k
    ·subst hjk; exact hjun
    ·rw [getD_set_ne true hjk] at hun; exact hun
   refine wpOp_mono (fun a' w' h3 => ⟨h3.2.1, ih (listed.setIfInBounds j true) a' w' hfree' (ready_mono hr (Ne.symm hji)) h3.1 ?_⟩) h2
   rw [Array.setIfInBounds_comm _ _ hji]
   exact h3.2.2
theorem wpAnyL_takeP {i : Nat} {oi : Oper} {v : Value} {fuel : Nat} {listed : Array Bool} {a : Act} {w : World} (hi : ops[i]? = some oi)
  (hs : Region.noSelect ops = true) (hf : Region.free md ops listed i = true) (hr : (Region.ready md ops listed).contains i = true)
  (hQ : ∀ c a w, Q (.panic c) (a.put oi.dst v) w → Q (.panic c) a w) (hy : YieldsIf P ops (fun _ => True) oi v a)
  (h : wpAnyL P md ops Q S late fuel (listed.setIfInBounds i true) (a.put oi.dst v) w) : wpAnyL P md ops Q S late (fuel + 1) listed a w :=
 wpAnyL_firstP hi (Region.noSelect_spec hs) hQ fuel listed a w (Region.free_spec hi hf) (by simpa using hr) hy h
end
section
variable {N : List Nd} {P : List Pr} {J : Int → List Int} {M T : List Int}
theorem refs_len (h0 : checkN N = 0) (p : Pr) : (refsN N p).length ≤ N.length := by
 unfold refsN
 rw [if_pos h0]
 unfold ordN
 rw [List.length_map]
 have := List.length_filter_le (fun x => !(x.id == p.id) && (numsP p).contains x.id) (sortN N)
 rwa [sortN_length] at this
theorem pairs_len (h0 : checkN N = 0) : ∀ L : List Nd, (L.flatMap fun x => (refsN N (peerN P x.id)).map fun v => (x.id, v)).length ≤ L.length * N.length
 | [] => by simp
 | x :: L => by
  have := pairs_len h0 L
  have := refs_len h0 (peerN P x.id)
  rw [List.flatMap_cons, List.length_append, List.length_map, List.length_cons, Nat.succ_mul]
  omega
end
end Go.Proofs.YtofmcalfbpjoeaaGreatDoor
namespace Go.Proofs.YtofmcalfbpjoeaaGreatDoor
open Go.RowKit Go.Maps
section
variable {β lo hi bm : Nat} {w6 wr w9 : World} {f : Int → Value}
end
def prsU (N : List Nd) (P : List Pr) (j : Nat) : List (Int × Int) := (N.take j).flatMap fun x => (refsN N (peerN P x.id)).map fun v => (x.id, v)
theorem prsU_snoc {N : List Nd} {P : List Pr} {j : Nat} {x : Nd} (hx : N[j]? = some x) : prsU N P (j + 1) = prsU N P j ++ (refsN N (peerN P x.id)).map fun v => (x.id, v) := by
 unfold prsU
 rw [take_snocN N j x hx, List.flatMap_append]
 simp
theorem prsU_all (N : List Nd) (P : List Pr) : prsU N P N.length = pairsN N P := by
 unfold prsU pairsN
 rw [List.take_of_length_le (Nat.le_refl _)]
theorem prsU_len {N : List Nd} (h0 : checkN N = 0) (P : List Pr) (j : Nat) : (prsU N P j).length ≤ 64 * 64 := by
 have h1 := pairs_len (P := P) h0 (N.take j)
 have h2 := check_len h0
 have h3 : (N.take j).length ≤ 64 := by rw [List.length_take]; omega
 unfold prsU
 exact Nat.le_trans h1 (Nat.mul_le_mul h3 h2)
end Go.Proofs.YtofmcalfbpjoeaaGreatDoor
