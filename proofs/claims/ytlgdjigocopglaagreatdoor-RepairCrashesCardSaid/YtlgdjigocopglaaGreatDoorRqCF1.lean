/- Shared texts. -/
import Derived.Test.YtlgdjigocopglaaGreatDoorRqCDEF1
set_option linter.unusedSimpArgs false
set_option linter.unusedVariables false

namespace Go.Proofs.YtlgdjigocopglaaGreatDoor
open Go.RowKit
section
variable {N : List Nd}
theorem ar_mem (h0 : checkN N = 0) {p : Pr} {u : Int} (h : u ∈ arN N p) : (∃ x ∈ N, x.id = u) ∧ (u = p.id ∨ u ∈ refsN N p) := by
 unfold arN at h
 split at h
 ·obtain ⟨h1, _, h3⟩ := mem_ord.1 h
  refine ⟨h1, ?_⟩
  rcases List.mem_append.1 h3 with h | h
  ·exact .inr h
  ·exact .inl (List.mem_singleton.1 h)
 ·cases h
theorem keep_inv (h0 : checkN N = 0) {p : Pr} {v : Int} (hv : v ≠ 0) (h : v = (keepN N p).1 ∨ v = (keepN N p).2) : ∃ A B, arN N p = A ++ v :: p.id :: B ∨ arN N p = A ++ p.id :: v :: B := by
 unfold keepN at h
 by_cases hm : p.id ∈ arN N p
 ·obtain ⟨A, B, e⟩ := List.append_of_mem hm
  have hA : p.id ∉ A := by
   have := ar_nodup h0 (p := p)
   rw [e] at this
   intro h
   exact (List.pairwise_append.1 this).2.2 p.id h p.id (by simp) rfl
  rw [e, bes_at hA] at h
  rcases h with h | h
  ·rcases List.eq_nil_or_concat A with hn | ⟨A0, z, hn⟩
   ·subst hn; exact absurd h hv
   ·rw [List.concat_eq_append] at hn
    subst hn
    have : v = z := by simpa using h
    subst this
    exact ⟨A0, B, .inl (by rw [e]; simp)⟩
  ·cases B with
   | nil => exact absurd h hv
   | cons b B0 =>
    have : v = b := by simpa using h
    subst this
    exact ⟨A, B0, .inr e⟩
 ·have : (arN N p).findIdx? (· == p.id) = none := by
   rw [List.findIdx?_eq_none_iff]
   intro x hx
   simp only [beq_eq_false_iff_ne]
   intro he
   rw [he] at hx
   exact hm hx
  unfold besN at h
  rw [this] at h
  rcases h with h | h <;> exact absurd h hv
variable {P : List Pr}
end
section
variable {N : List Nd} {f : Fl}
theorem find_node (h0 : checkN N = 0) {v : Int} : (findN N v).2 = true ↔ nodeB N v := by
 constructor
 ·intro h
  unfold findN at h
  cases e : N.find? (fun x => x.id == v) with
  | none => rw [e] at h; cases h
  | some x => exact ⟨x, List.mem_of_find?_eq_some e, by simpa using List.find?_some e⟩
 ·rintro ⟨x, hx, rfl⟩
  rw [find_in h0 hx]
end
section
variable {N : List Nd} {P : List Pr}
def OkNum (N : List Nd) (own c : Int) : Prop := c = 0 ∨ (nodeB N c ∧ c ≠ own)
theorem other_ok (h0 : checkN N = 0) (v own : Int) : OkNum N own (otherN N v own) := by
 unfold otherN
 split
 ·rename_i h
  exact .inr ⟨(find_node h0).1 (by simpa using h.1), by simpa using h.2⟩
 ·exact .inl rfl
theorem link_ok (h0 : checkN N = 0) (p : Pr) (lev : Int) : OkNum N p.id (linkB N p lev).1 ∧ OkNum N p.id (linkB N p lev).2 := by
 unfold linkB
 split
 ·exact ⟨other_ok h0 _ _, other_ok h0 _ _⟩
 ·exact ⟨.inl rfl, .inl rfl⟩
theorem pair_ok (h0 : checkN N = 0) {own nb : Int} (hn : OkNum N own nb) (lev : Nat) (zero one : Int) : OkNum N own (pairB N own nb lev zero one).1 ∧ OkNum N own (pairB N own nb lev zero one).2 := by
 unfold pairB
 by_cases hf : (findN N nb).2 = true
 ·rw [if_pos hf]
  obtain ⟨x, hx, rfl⟩ := (find_node h0).1 hf
  have hfx : (findN N x.id).1.id = x.id := by rw [find_in h0 hx]
  have hox : OkNum N own (findN N x.id).1.id := by
   rw [hfx]; exact hn
  split
  ·exact ⟨hox, other_ok h0 _ _⟩
  ·exact ⟨other_ok h0 _ _, hox⟩
 ·rw [if_neg hf]
  exact ⟨.inl rfl, .inl rfl⟩
theorem step_ok (h0 : checkN N = 0) (st : Int → Pr) (p : Pr) (i : Nat) : ∀ c ∈ nums4 (stepB N st p i), OkNum N p.id c := by
 have hl := link_ok h0 p i
 have h1 := pair_ok h0 hl.1 i (nearAt (st (linkB N p i).1) i).1 (nearAt (st (linkB N p i).1) i).2.1
 have h2 := pair_ok h0 hl.2 i (nearAt (st (linkB N p i).2) i).2.2.1 (nearAt (st (linkB N p i).2) i).2.2.2
 intro c hc
 unfold nums4 stepB at hc
 simp only [List.mem_cons, List.not_mem_nil, or_false] at hc
 rcases hc with rfl | rfl | rfl | rfl
 ·exact h1.1
 ·exact h1.2
 ·exact h2.1
 ·exact h2.2
theorem next_ok (h0 : checkN N = 0) (st : Int → Pr) (p : Pr) (h : Nat) : ∀ c ∈ (nextB N st p h).flatMap nums4, OkNum N p.id c := by
 intro c hc
 obtain ⟨q, hq, hcq⟩ := List.mem_flatMap.1 hc
 unfold nextB at hq
 obtain ⟨i, _, rfl⟩ := List.mem_map.1 hq
 exact step_ok h0 st p i c hcq
theorem keep_ok (h0 : checkN N = 0) (p : Pr) : OkNum N p.id (keepN N p).1 ∧ OkNum N p.id (keepN N p).2 := by
 have key : ∀ v, v = (keepN N p).1 ∨ v = (keepN N p).2 → OkNum N p.id v := by
  intro v hv
  by_cases hz : v = 0
  ·exact .inl hz
  ·obtain ⟨A, B, e⟩ := keep_inv h0 hz hv
   have hn := ar_nodup h0 (p := p)
   have hm := (ar_mem h0 (p := p) (u := v) (by rcases e with e | e <;> rw [e] <;> simp)).1
   refine .inr ⟨hm, fun he => ?_⟩
   rcases e with e | e <;>
   ·rw [e] at hn
    have := (List.nodup_append.1 hn).2.1
    rw [List.nodup_cons] at this
    exact this.1 (by rw [he]; simp)
 exact ⟨key _ (.inl rfl), key _ (.inr rfl)⟩
theorem clean_law (h0 : checkN N = 0) (P : List Pr) {h : Nat} (hh : h ≤ 16) {x : Nd} (hx : x ∈ N) : ∀ c ∈ numsP (peerN (rRoundN N P h) x.id), OkNum N x.id c := by
 rw [rround_peer h0 hh hx]
 intro c hc
 have hk := keep_ok h0 (peerN P x.id)
 rw [peer_id] at hk
 unfold numsP at hc
 rw [List.mem_append, List.mem_append] at hc
 rcases hc with (hc | hc) | hc
 ·obtain ⟨h1, h2, _⟩ := mem_ord.1 (show c ∈ ordN N _ (peerN P x.id).id from hc)
  rw [peer_id] at h2
  exact .inr ⟨h1, h2⟩
 ·simp only [List.mem_cons, List.not_mem_nil, or_false] at hc
  rcases hc with rfl | rfl
  ·exact hk.1
  ·exact hk.2
 ·have := next_ok h0 (peerN P) (peerN P x.id) h c hc
  rwa [peer_id] at this
end
section
variable {N : List Nd} {P Q : List Pr}
theorem rr_norm (h0 : checkN N = 0) {k : Nat} (hk : k ≤ 16) : normalN N (rRoundN N P (k : Int)) = rRoundN N P (k : Int) := by
 have h1 : normalN N (rRoundN N P (k : Int)) = (sortN N).map fun x => peerN (rRoundN N P (k : Int)) x.id := by unfold normalN; rw [if_pos h0]
 rw [h1, rround_map h0 hk]
 refine List.map_congr_left fun x hx => ?_
 exact peer_map (sort_ids h0) (f := fun x => { rndP N ((normalN N P).flatMap (introsN N)) (peerN P x.id) with near := nextB N (peerN P) (peerN P x.id) k }) (fun x => peer_id P x.id) hx
theorem stale_zero {p : Pr} (h : ∀ c ∈ numsP p, OkNum N p.id c) (h0 : checkN N = 0) : staleP N p = 0 := by
 unfold staleP
 rw [List.length_eq_zero_iff, List.filter_eq_nil_iff]
 intro c hc
 have hm : c ∈ numsP p := by
  unfold numsP
  simp only [List.mem_append] at hc ⊢
  rcases hc with (hc | hc) | hc
  ·exact .inl (.inr hc)
  ·exact .inl (.inl hc)
  ·exact .inr hc
 rcases h c hm with rfl | ⟨⟨x, hx, rfl⟩, h2⟩
 ·simp
 ·rw [find_in h0 hx]
  simp [h2]
theorem stale_law (h0 : checkN N = 0) {k : Nat} (hk : k ≤ 16) : staleN N (rRoundN N P (k : Int)) = 0 := by
 unfold staleN
 rw [rr_norm h0 hk]
 have : ∀ p ∈ rRoundN N P (k : Int), staleP N p = 0 := fun p hp => by
  have hp0 := hp
  rw [rround_map h0 hk] at hp
  obtain ⟨x, hx, he⟩ := List.mem_map.1 hp
  have hxN := (sortN_mem N x).1 hx
  have e : peerN (rRoundN N P (k : Int)) x.id = p := by rw [rround_peer h0 hk hxN, he]
  have hid : p.id = x.id := by rw [← e]; exact peer_id _ _
  refine stale_zero (fun c hc => ?_) h0
  rw [hid]
  exact clean_law h0 P hk hxN c (by rw [e]; exact hc)
 revert this
 generalize rRoundN N P (k : Int) = L
 intro this
 induction L with
 | nil => rfl
 | cons p r ih =>
  rw [List.map_cons, List.sum_cons, this p (by simp), ih fun q hq => this q (by simp [hq])]
end
theorem few_two {P : List Pr} (h : FewQ 100 200 P) : ∀ p ∈ P, p.known.length ≤ 2000000 ∧ p.near.length ≤ 2000000 := fun p hp => by have := h p hp; omega
end Go.Proofs.YtlgdjigocopglaaGreatDoor
