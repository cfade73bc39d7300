/- Shared texts. -/
import Derived.Test.YtlgdjigocopglaaGreatDoorRqADEF1
import Derived.Test.YtlgdjigocopglaaGreatDoorRqCDEF1
set_option linter.unusedSimpArgs false
set_option linter.unusedVariables false

namespace Go.Proofs.YtlgdjigocopglaaGreatDoor
open Go.RowKit
theorem bitN_of (a i : Nat) (hi : i < 16) : bitN a i = a / 2 ^ i % 2 := by unfold bitN; rw [if_neg (by omega)]; simp
theorem bitN_lt (a : Nat) (i : Int) : bitN a i < 2 := by unfold bitN; split <;> omega
theorem same_succ {a b m : Nat} (ha : a < 4294967296) (hb : b < 4294967296) (hm : m < 16) :
  sameN a b ((m : Int) + 1) = true ↔ sameN a b m = true ∧ bitN a m = bitN b m := by
 have key : a.testBit m = b.testBit m ↔ bitN a m = bitN b m := by
  rw [bitN_of a m hm, bitN_of b m hm]; exact bit_eq_iff a b m
 unfold sameN
 simp only [decide_eq_true_eq]
 constructor
 ·intro h
  exact ⟨by omega, key.1 (common_lt ha hb (by omega))⟩
 ·rintro ⟨h1, h2⟩
  rcases Nat.lt_or_ge m (commonN a b) with h | h
  ·omega
  ·exfalso
   have he : commonN a b = m := by omega
   have := common_at ha hb (by omega)
   rw [he] at this
   exact this (key.2 h2)
theorem build_ok0 {l : List Nd} (h0 : checkN l = 0) {h : Nat} (hh : h ≤ 16) : (buildN l (h : Int)).2 = 0 ∧ (buildN l (h : Int)).1.length = l.length ∧ ∀ c ∈ (buildN l (h : Int)).1, c.2.length = h + 1 := by
 unfold buildN
 rw [if_neg (by rw [h0]; simp), if_neg (by unfold lvlN; simp; omega)]
 refine ⟨rfl, by simp [sortN_length], ?_⟩
 intro c hc
 obtain ⟨x, _, rfl⟩ := List.mem_map.1 hc
 rw [rowN_len]
 omega
end Go.Proofs.YtlgdjigocopglaaGreatDoor
namespace Go.Proofs.YtlgdjigocopglaaGreatDoor
namespace Lin
section
variable {K K' : Nat → Nat → Prop}
theorem raise (hR : Rnd K K') (hirr : ∀ x, ¬ K x x) {lo hi a b : Nat} (h : Path (Sym K) lo hi a b) (hb : lo + 1 ≤ b) :
  (lo + 1 ≤ a → Path (Sym K') (lo + 1) hi a b) ∧ (a = lo → ∀ e, K lo e → lo + 1 ≤ e → e ≤ hi → Path (Sym K') (lo + 1) hi e b) := by
 induction h with
 | refl g1 g2 => exact ⟨fun h => .refl h g2, fun h => by omega⟩
 | step g1 g2 g3 k ih =>
  rename_i a c b
  obtain ⟨i1, i2⟩ := ih hb
  refine ⟨fun ha => ?_, fun ha e he h1 h2 => ?_⟩
  ·by_cases hc : lo + 1 ≤ c
   ·exact (edge hR (.inl g3.1) ha g2 hc k.head.2).trans (i1 hc)
   ·have hc : c = lo := by have := k.head.1; omega
    subst hc
    exact i2 rfl a g3.2 ha g2
  ·subst ha
   have hc : a + 1 ≤ c := by
    have := k.head.1
    rcases Nat.lt_or_ge a c with h | h
    ·exact h
    ·have : c = a := by omega
     subst this
     exact absurd g3.1 (hirr _)
   exact (joined hR (p := a) (.inr he) (.inr g3.1) h1 h2 hc k.head.2).trans (i1 hc)
end
section
variable {n : Nat} {K : Nat → Nat → Nat → Prop}
theorem sorts (hR : ∀ t, Rnd (K t) (K (t + 1))) (hirr : ∀ t x, ¬ K t x x) (hc : ∀ a b, a < n → b < n → Path (fun x y => K 0 x y ∨ K 0 y x) 0 (n - 1) a b) {i : Nat} (hi : i + 1 < n) : Sym (K (n - 1)) i (i + 1) := by
 have h1 : Path (Sym (K 1)) 0 (n - 1) i (i + 1) := keep (hR 0) (hc i (i + 1) (by omega) hi)
 have up : ∀ d, d ≤ n - 1 - (i + 1) → Path (Sym (K (1 + d))) 0 (n - 1 - d) i (i + 1) := by
  intro d
  induction d with
  | zero => intro _; exact h1
  | succ d ih =>
   intro hd
   have h := ih (by omega)
   rw [show n - 1 - d = (n - 1 - (d + 1)) + 1 by omega] at h
   exact (lower (hR (1 + d)) (hirr _) h (by omega)).1 (by omega)
 have h2 := up (n - 1 - (i + 1)) (Nat.le_refl _)
 rw [show n - 1 - (n - 1 - (i + 1)) = i + 1 by omega] at h2
 have down : ∀ d, d ≤ i → Path (Sym (K (1 + (n - 1 - (i + 1)) + d))) d (i + 1) i (i + 1) := by
  intro d
  induction d with
  | zero => intro _; exact h2
  | succ d ih =>
   intro hd
   exact (raise (hR (1 + (n - 1 - (i + 1)) + d)) (hirr _) (ih (by omega)) (by omega)).1 (by omega)
 have h3 := down i (Nat.le_refl _)
 rw [show 1 + (n - 1 - (i + 1)) + i = n - 1 by omega] at h3
 exact pair h3 rfl (fun x h => hirr _ x h.1)
theorem stays {K K' : Nat → Nat → Prop} (hR : Rnd K K') {i : Nat} (h : Sym K i (i + 1)) : Sym K' i (i + 1) :=
 hR i i (i + 1) ⟨.inl rfl, .inr h.1, by omega, fun r _ hh => by omega⟩
theorem sorted_from (hR : ∀ t, Rnd (K t) (K (t + 1))) (hirr : ∀ t x, ¬ K t x x) (hc : ∀ a b, a < n → b < n → Path (fun x y => K 0 x y ∨ K 0 y x) 0 (n - 1) a b) {i : Nat} (hi : i + 1 < n) : ∀ d, Sym (K (n - 1 + d)) i (i + 1)
 | 0 => sorts hR hirr hc hi
 | d + 1 => stays (hR _) (sorted_from hR hirr hc hi d)
end
end Lin
section
variable {N : List Nd} {P : List Pr}
theorem prs_mem {id a b : Int} {A B : List Int} : (a ≠ id → (a, b) ∈ prsN id (A ++ a :: b :: B)) ∧ (b ≠ id → (b, a) ∈ prsN id (A ++ a :: b :: B)) := by
 have hz : (a, b) ∈ (A ++ a :: b :: B).zip (A ++ a :: b :: B).tail := by
  induction A with
  | nil => simp
  | cons c A ih =>
   cases A with
   | nil => simp
   | cons d A =>
    have : ((c :: d :: A) ++ a :: b :: B).zip ((c :: d :: A) ++ a :: b :: B).tail = (c, d) :: ((d :: A) ++ a :: b :: B).zip ((d :: A) ++ a :: b :: B).tail := by simp
    rw [this]
    exact List.mem_cons_of_mem _ ih
 refine ⟨fun h => List.mem_flatMap.2 ⟨_, hz, ?_⟩, fun h => List.mem_flatMap.2 ⟨_, hz, ?_⟩⟩
 ·unfold pr2; rw [if_neg h]; simp
 ·unfold pr2; rw [if_neg (c := b = id) h]; simp
end
section
variable {N : List Nd} {P : List Pr}
theorem round_peer (h0 : checkN N = 0) {a : Nd} (ha : a ∈ N) : peerN (roundN N P) a.id = rndP N ((normalN N P).flatMap (introsN N)) (peerN P a.id) := by
 rw [round_map h0]
 exact peer_map (sort_ids h0) (f := fun x => rndP N ((normalN N P).flatMap (introsN N)) (peerN P x.id)) (fun x => peer_id P x.id) ((sortN_mem N a).2 ha)
theorem KR.irr (h0 : checkN N = 0) (x : Nat) : ¬ KR N P x x := by
 rintro ⟨a, b, h1, h2, h3⟩
 rw [h1] at h2
 cases h2
 have := ((mem_refs h0).1 h3).2.1
 rw [peer_id] at this
 exact this rfl
theorem split2 {α : Type} {S : List α} {x y : Nat} {a b : α} (ha : S[x]? = some a) (hb : S[y]? = some b) (h : x < y) :
  ∃ A M B, S = A ++ a :: (M ++ b :: B) ∧ A.length = x ∧ ∀ i z, M[i]? = some z → S[x + 1 + i]? = some z ∧ x + 1 + i < y := by
 obtain ⟨hx, e1⟩ := List.getElem?_eq_some_iff.1 ha
 obtain ⟨hy, e2⟩ := List.getElem?_eq_some_iff.1 hb
 refine ⟨S.take x, (S.drop (x + 1)).take (y - x - 1), S.drop (y + 1), ?_, by simp; omega, fun i z hz => ?_⟩
 ·have h1 : S = S.take x ++ S.drop x := (List.take_append_drop x S).symm
  have h2 : S.drop x = a :: S.drop (x + 1) := by rw [List.drop_eq_getElem_cons hx, e1]
  have h3 : S.drop (x + 1) = (S.drop (x + 1)).take (y - x - 1) ++ (S.drop (x + 1)).drop (y - x - 1) := (List.take_append_drop _ _).symm
  have h4 : (S.drop (x + 1)).drop (y - x - 1) = b :: S.drop (y + 1) := by
   rw [List.drop_drop, show x + 1 + (y - x - 1) = y by omega, List.drop_eq_getElem_cons hy, e2]
  rw [h4] at h3
  rw [← h3, ← h2]
  exact h1
 ·rw [List.getElem?_take] at hz
  split at hz
  ·rename_i hi
   rw [List.getElem?_drop] at hz
   exact ⟨hz, by omega⟩
  ·cases hz
theorem rnd (h0 : checkN N = 0) {P' : List Pr} (hk : ∀ a ∈ N, ∀ v ∈ (peerN (roundN N P) a.id).known, v ∈ (peerN P' a.id).known) : Lin.Rnd (KR N P) (KR N P') := by
 rintro p x y ⟨hx, hy, hlt, hno⟩
 -- the node whose row it is
 obtain ⟨c, hc⟩ : ∃ c, (sortN N)[p]? = some c := by
  rcases hx with rfl | ⟨c, _, h, _⟩
  ·rcases hy with h | ⟨c, _, h, _⟩
   ·omega
   ·exact ⟨c, h⟩
  ·exact ⟨c, h⟩
 obtain ⟨a, ha⟩ : ∃ a, (sortN N)[x]? = some a := by
  rcases hx with rfl | ⟨_, a, _, h, _⟩
  ·exact ⟨c, hc⟩
  ·exact ⟨a, h⟩
 obtain ⟨b, hb⟩ : ∃ b, (sortN N)[y]? = some b := by
  rcases hy with rfl | ⟨_, b, _, h, _⟩
  ·exact ⟨c, hc⟩
  ·exact ⟨b, h⟩
 have hmem : ∀ {i : Nat} {z : Nd}, (sortN N)[i]? = some z → z ∈ N := fun h => (sortN_mem N _).1 (List.mem_of_getElem? h)
 have hcN := hmem hc
 have haN := hmem ha
 have hbN := hmem hb
 have hpid : (peerN P c.id).id = c.id := peer_id P c.id
 have hrow : ∀ {z : Nat} {d : Nd}, (sortN N)[z]? = some d → (Lin.Row (KR N P) p z ↔ (d.id == c.id || (numsP (peerN P c.id)).contains d.id) = true) := by
  intro z d hd
  have hdN := hmem hd
  simp only [Bool.or_eq_true, beq_iff_eq, List.contains_iff_mem]
  constructor
  ·rintro (rfl | ⟨c', d', h1, h2, h3⟩)
   ·rw [hc] at hd; cases hd; exact .inl rfl
   ·rw [hc] at h1; cases h1
    rw [hd] at h2; cases h2
    exact .inr ((mem_refs h0).1 h3).2.2
  ·rintro (h | h)
   ·refine .inl ?_
    have hdc : d = c := ids_eq (check_keys h0) hdN hcN h
    subst hdc
    obtain ⟨i1, e1⟩ := List.getElem?_eq_some_iff.1 hd
    obtain ⟨i2, e2⟩ := List.getElem?_eq_some_iff.1 hc
    rcases Nat.lt_trichotomy z p with h | h | h
    ·exact absurd (by rw [e1, e2]) (List.pairwise_iff_getElem.1 (sort_ids h0) z p i1 i2 h)
    ·exact h
    ·exact absurd (by rw [e1, e2]) (List.pairwise_iff_getElem.1 (sort_ids h0) p z i2 i1 h)
   ·by_cases he : d.id = c.id
    ·refine .inl ?_
     have hdc : d = c := ids_eq (check_keys h0) hdN hcN he
     subst hdc
     obtain ⟨i1, e1⟩ := List.getElem?_eq_some_iff.1 hd
     obtain ⟨i2, e2⟩ := List.getElem?_eq_some_iff.1 hc
     rcases Nat.lt_trichotomy z p with h | h | h
     ·exact absurd (by rw [e1, e2]) (List.pairwise_iff_getElem.1 (sort_ids h0) z p i1 i2 h)
     ·exact h
     ·exact absurd (by rw [e1, e2]) (List.pairwise_iff_getElem.1 (sort_ids h0) p z i2 i1 h)
    ·exact .inr ⟨c, d, hc, hd, (mem_refs h0).2 ⟨⟨d, hdN, rfl⟩, by rw [hpid]; exact he, h⟩⟩
 -- the row, with a and b next to each other
 obtain ⟨A, M, B, hS, hAl, hM⟩ := split2 ha hb hlt
 have hMf : M.filter (fun z => z.id == (peerN P c.id).id || (numsP (peerN P c.id)).contains z.id) = [] := by
  rw [List.filter_eq_nil_iff]
  intro z hz
  obtain ⟨i, hi⟩ := List.mem_iff_getElem?.1 hz
  obtain ⟨h1, h2⟩ := hM i z hi
  intro hf
  rw [hpid] at hf
  exact hno _ ((hrow h1).2 hf) ⟨by omega, h2⟩
 have hfa := (hrow ha).1 hx
 have hfb := (hrow hb).1 hy
 have har : ∃ A' B' : List Nd, arN N (peerN P c.id) = A'.map Nd.id ++ a.id :: b.id :: B'.map Nd.id ∧ (∀ z ∈ A', z ∈ A) := by
  rw [ar_eq h0 hcN hpid.symm, hS]
  refine ⟨A.filter (fun z => z.id == (peerN P c.id).id || (numsP (peerN P c.id)).contains z.id), B.filter (fun z => z.id == (peerN P c.id).id || (numsP (peerN P c.id)).contains z.id), ?_, fun z hz => (List.mem_filter.1 hz).1⟩
  rw [List.filter_append, List.filter_cons_of_pos (by rw [hpid]; exact hfa), List.filter_append, hMf, List.nil_append, List.filter_cons_of_pos (by rw [hpid]; exact hfb)]
  simp
 obtain ⟨A', B', har, hA'⟩ := har
 have hids := sort_ids h0
 rw [hS] at hids
 have hid2 := List.pairwise_append.1 hids
 have hab : a.id ≠ b.id := (List.pairwise_cons.1 hid2.2.1).1 b (by simp)
 have hAa : a.id ∉ A'.map Nd.id := fun h => by
  obtain ⟨z, hz, he⟩ := List.mem_map.1 h
  exact hid2.2.2 z (hA' z hz) a (by simp) he
 have hAb : b.id ∉ A'.map Nd.id ++ [a.id] := fun h => by
  rcases List.mem_append.1 h with h | h
  ·obtain ⟨z, hz, he⟩ := List.mem_map.1 h
   exact hid2.2.2 z (hA' z hz) b (by simp) he
  ·exact hab (List.mem_singleton.1 h).symm
 have hpn : peerN P c.id ∈ normalN N P := by
  unfold normalN
  rw [if_pos h0]
  exact List.mem_map.2 ⟨c, (sortN_mem N c).2 hcN, rfl⟩
 -- what goes into the references
 have know : ∀ {u v : Nd}, u ∈ N → v ∈ N → v.id ≠ u.id → (v.id ∈ toldN ((normalN N P).flatMap (introsN N)) u.id ∨ v.id = (keepN N (peerN P u.id)).1 ∨ v.id = (keepN N (peerN P u.id)).2) → v.id ∈ refsN N (peerN P' u.id) := by
  intro u v hu hv hne h
  rw [mem_refs h0]
  refine ⟨⟨v, hv, rfl⟩, by rw [peer_id]; exact hne, ?_⟩
  unfold numsP
  refine List.mem_append.2 (.inl (List.mem_append.2 (.inl (hk u hu _ ?_))))
  rw [round_peer h0 hu]
  unfold rndP
  rw [mem_ord]
  refine ⟨⟨v, hv, rfl⟩, by rw [peer_id]; exact hne, ?_⟩
  rw [peer_id]
  rcases h with h | h | h
  ·exact List.mem_append.2 (.inr h)
  ·exact List.mem_append.2 (.inl (by simp [h]))
  ·exact List.mem_append.2 (.inl (by simp [h]))
 have told : ∀ {u v : Int}, (u, v) ∈ introsN N (peerN P c.id) → v ∈ toldN ((normalN N P).flatMap (introsN N)) u := by
  intro u v h
  unfold toldN
  refine List.mem_map.2 ⟨(u, v), List.mem_filter.2 ⟨List.mem_flatMap.2 ⟨_, hpn, h⟩, by simp⟩, rfl⟩
 have hin : introsN N (peerN P c.id) = prsN c.id (A'.map Nd.id ++ a.id :: b.id :: B'.map Nd.id) := by unfold introsN; rw [hpid, har]
 have hkp : keepN N (peerN P c.id) = besN c.id (A'.map Nd.id ++ a.id :: b.id :: B'.map Nd.id) := by unfold keepN; rw [hpid, har]
 constructor
 ·refine ⟨a, b, ha, hb, know haN hbN (Ne.symm hab) ?_⟩
  by_cases hac : a.id = c.id
  ·have : a = c := ids_eq (check_keys h0) haN hcN hac
   subst this
   refine .inr (.inr ?_)
   rw [hkp, bes_at hAa]
   rfl
  ·refine .inl (told ?_)
   rw [hin]
   exact prs_mem.1 hac
 ·refine ⟨b, a, hb, ha, know hbN haN hab ?_⟩
  by_cases hbc : b.id = c.id
  ·have : b = c := ids_eq (check_keys h0) hbN hcN hbc
   subst this
   refine .inr (.inl ?_)
   have e : A'.map Nd.id ++ a.id :: b.id :: B'.map Nd.id = (A'.map Nd.id ++ [a.id]) ++ b.id :: B'.map Nd.id := by simp
   rw [hkp, e, bes_at hAb]
   simp
  ·refine .inl (told ?_)
   rw [hin]
   exact prs_mem.2 hbc
def EdgeN (N : List Nd) (P : List Pr) (u v : Int) : Prop := (∃ x ∈ N, x.id = u) ∧ v ∈ refsN N (peerN P u)
def ConnN (N : List Nd) (P : List Pr) : Prop := checkN N = 0 ∧ ∀ x ∈ N, ∀ y ∈ N, Cl (EdgeN N P) x.id y.id
theorem edge_kr (h0 : checkN N = 0) {x y : Nat} {a b : Nd} (ha : (sortN N)[x]? = some a) (hb : (sortN N)[y]? = some b) : EdgeN N P a.id b.id ↔ KR N P x y := by
 have haN := (sortN_mem N _).1 (List.mem_of_getElem? ha)
 constructor
 ·rintro ⟨_, h⟩
  exact ⟨a, b, ha, hb, h⟩
 ·rintro ⟨a', b', h1, h2, h3⟩
  rw [ha] at h1
  rw [hb] at h2
  cases h1
  cases h2
  exact ⟨⟨a, haN, rfl⟩, h3⟩
theorem edge_node (h0 : checkN N = 0) {u v : Int} (h : EdgeN N P u v) : (∃ x ∈ N, x.id = u) ∧ ∃ y ∈ N, y.id = v := ⟨h.1, ((mem_refs h0).1 h.2).1⟩
theorem place_of {x : Nd} (hx : x ∈ N) : ∃ i, (sortN N)[i]? = some x ∧ i < N.length := by
 obtain ⟨i, hi⟩ := List.mem_iff_getElem?.1 ((sortN_mem N x).2 hx)
 have := (List.getElem?_eq_some_iff.1 hi).1
 rw [sortN_length] at this
 exact ⟨i, hi, this⟩
theorem place_eq (h0 : checkN N = 0) {i j : Nat} {a b : Nd} (hi : (sortN N)[i]? = some a) (hj : (sortN N)[j]? = some b) (he : a.id = b.id) : i = j := by
 obtain ⟨h1, e1⟩ := List.getElem?_eq_some_iff.1 hi
 obtain ⟨h2, e2⟩ := List.getElem?_eq_some_iff.1 hj
 rcases Nat.lt_trichotomy i j with h | h | h
 ·exact absurd (by rw [e1, e2]; exact he) (List.pairwise_iff_getElem.1 (sort_ids h0) i j h1 h2 h)
 ·exact h
 ·exact absurd (by rw [e1, e2]; exact he.symm) (List.pairwise_iff_getElem.1 (sort_ids h0) j i h2 h1 h)
theorem cl_path (h0 : checkN N = 0) {u v : Int} (h : Cl (EdgeN N P) u v) : ∀ {i j : Nat} {a b : Nd}, (sortN N)[i]? = some a → (sortN N)[j]? = some b → a.id = u → b.id = v → Lin.Path (fun x y => KR N P x y ∨ KR N P y x) 0 (N.length - 1) i j := by
 have lt : ∀ {i : Nat} {a : Nd}, (sortN N)[i]? = some a → i ≤ N.length - 1 := fun h => by
  have := (List.getElem?_eq_some_iff.1 h).1
  rw [sortN_length] at this
  omega
 induction h with
 | refl u =>
  intro i j a b hi hj ha hb
  have := place_eq h0 hi hj (ha.trans hb.symm)
  subst this
  exact .refl (Nat.zero_le _) (lt hi)
 | step h1 h2 ih =>
  rename_i u c v
  intro i j a b hi hj ha hb
  obtain ⟨z, hz, hzc⟩ : ∃ z ∈ N, z.id = c := by
   rcases h1 with h | h
   ·exact (edge_node h0 h).2
   ·exact (edge_node h0 h).1
  obtain ⟨k, hk, _⟩ := place_of hz
  refine .step (Nat.zero_le _) (lt hi) ?_ (ih hk hj hzc hb)
  rw [← ha, ← hzc] at h1
  exact h1.imp (edge_kr h0 hi hk).1 (edge_kr h0 hk hi).1
def exactL (N : List Nd) (P : List Pr) : Prop := checkN N = 0 ∧ ∀ x ∈ N, ((peerN P x.id).left, (peerN P x.id).right) = (neighN N x.id (0 : Nat)).1
theorem grp_zero (N : List Nd) (v : Nat) : grpS N ((0 : Nat) : Int) v = sortN N := by
 unfold grpS groupN
 rw [List.filter_eq_self]
 intro y _
 unfold sameN
 simp
theorem keep_sym (h0 : checkN N = 0) {i : Nat} {x : Nd} (hi : (sortN N)[i]? = some x) (hl : ∀ k, i = k + 1 → KR N P i k) (hr : i + 1 < N.length → KR N P i (i + 1)) : keepN N (peerN P x.id) = (neighN N x.id (0 : Nat)).1 := by
 obtain ⟨hlt, e⟩ := List.getElem?_eq_some_iff.1 hi
 have hxN := (sortN_mem N _).1 (List.mem_of_getElem? hi)
 have hS : sortN N = (sortN N).take i ++ x :: (sortN N).drop (i + 1) := by
  rw [← e, ← List.drop_eq_getElem_cons hlt, List.take_append_drop]
 have hn := neigh_split h0 hxN (h := ((0 : Nat) : Int)) rfl (A := (sortN N).take i) (B := (sortN N).drop (i + 1)) (by rw [grp_zero]; exact hS)
 rw [hn]
 have hids := sort_ids h0
 have hpid : (peerN P x.id).id = x.id := peer_id P x.id
 have hF : ∀ {k : Nat} {z : Nd}, (sortN N)[k]? = some z → KR N P i k → (z.id == (peerN P x.id).id || (numsP (peerN P x.id)).contains z.id) = true := by
  rintro k z hz ⟨a, b, h1, h2, h3⟩
  rw [hi] at h1
  rw [hz] at h2
  cases h1
  cases h2
  simp only [Bool.or_eq_true, List.contains_iff_mem]
  exact .inr ((mem_refs h0).1 h3).2.2
 have hA : ∀ z, ((sortN N).take i).getLast? = some z → (z.id == (peerN P x.id).id || (numsP (peerN P x.id)).contains z.id) = true := by
  intro z hz
  rw [List.getLast?_eq_getElem?, List.length_take, List.getElem?_take] at hz
  split at hz
  ·rename_i hlt2
   refine hF hz (hl _ ?_)
   omega
  ·cases hz
 have hB : ∀ z, ((sortN N).drop (i + 1)).head? = some z → (z.id == (peerN P x.id).id || (numsP (peerN P x.id)).contains z.id) = true := by
  intro z hz
  rw [List.head?_drop] at hz
  have := (List.getElem?_eq_some_iff.1 hz).1
  rw [sortN_length] at this
  exact hF hz (hr this)
 have har := ar_eq h0 hxN hpid.symm
 generalize hAA : (sortN N).take i = A at hS hn hA
 generalize hBB : (sortN N).drop (i + 1) = B at hS hn hB
 generalize hFF : (fun y : Nd => y.id == (peerN P x.id).id || (numsP (peerN P x.id)).contains y.id) = F at har
 have hFx : F x = true := by rw [← hFF]; simp [hpid]
 have hA : ∀ z, A.getLast? = some z → F z = true := fun z hz => by rw [← hFF]; exact hA z hz
 have hB : ∀ z, B.head? = some z → F z = true := fun z hz => by rw [← hFF]; exact hB z hz
 rw [hS, List.filter_append, List.filter_cons_of_pos hFx, List.map_append, List.map_cons] at har
 have hnot : x.id ∉ (A.filter F).map Nd.id := fun h => by
  obtain ⟨z, hz, he⟩ := List.mem_map.1 h
  rw [hS] at hids
  exact (List.pairwise_append.1 hids).2.2 z (List.mem_filter.1 hz).1 x (by simp) he
 unfold keepN
 rw [har, hpid, bes_at hnot]
 congr 1
 ·unfold lastI
  rcases List.eq_nil_or_concat A with h | ⟨A0, z, h⟩
  ·subst h; rfl
  ·rw [List.concat_eq_append] at h
   subst h
   have := hA z (by simp)
   rw [List.filter_append]
   simp [this]
 ·unfold headI
  cases B with
  | nil => rfl
  | cons b B0 =>
   rw [List.filter_cons_of_pos (hB b rfl)]
   rfl
end
section
variable {N : List Nd}
theorem sort_law {P : Nat → List Pr} (hc : ConnN N (P 0)) (hk : ∀ t, ∀ a ∈ N, ∀ v ∈ (peerN (roundN N (P t)) a.id).known, v ∈ (peerN (P (t + 1)) a.id).known)
  (hlr : ∀ t, ∀ a ∈ N, ((peerN (P (t + 1)) a.id).left, (peerN (P (t + 1)) a.id).right) = keepN N (peerN (P t) a.id)) : ∀ t, N.length ≤ t → exactL N (P t) := by
 intro t ht
 have h0 := hc.1
 refine ⟨h0, fun x hx => ?_⟩
 obtain ⟨i, hi, hin⟩ := place_of hx
 obtain ⟨s, rfl⟩ : ∃ s, t = s + 1 := ⟨t - 1, by omega⟩
 rw [hlr s x hx]
 have path : ∀ a b, a < N.length → b < N.length → Lin.Path (fun x y => KR N (P 0) x y ∨ KR N (P 0) y x) 0 (N.length - 1) a b := by
  intro a b ha hb
  obtain ⟨u, hu⟩ : ∃ u, (sortN N)[a]? = some u := ⟨_, List.getElem?_eq_getElem (by rw [sortN_length]; exact ha)⟩
  obtain ⟨v, hv⟩ : ∃ v, (sortN N)[b]? = some v := ⟨_, List.getElem?_eq_getElem (by rw [sortN_length]; exact hb)⟩
  have huN := (sortN_mem N _).1 (List.mem_of_getElem? hu)
  have hvN := (sortN_mem N _).1 (List.mem_of_getElem? hv)
  exact cl_path h0 (hc.2 u huN v hvN) hu hv rfl rfl
 have hs : ∀ {j : Nat}, j + 1 < N.length → Lin.Sym (KR N (P s)) j (j + 1) := fun {j} hj => by
  have := Lin.sorted_from (K := fun t => KR N (P t)) (n := N.length) (fun t => rnd h0 (hk t)) (fun t x => KR.irr h0 x) path hj (s - (N.length - 1))
  rw [show N.length - 1 + (s - (N.length - 1)) = s by omega] at this
  exact this
 exact keep_sym h0 hi (fun k hk => by subst hk; exact (hs hin).2) (fun h => (hs h).1)
variable {P : List Pr}
end
section
variable {N : List Nd}
theorem other_node (h0 : checkN N = 0) {z : Nd} (hz : z ∈ N) {own : Int} (hne : z.id ≠ own) : otherN N z.id own = z.id := by
 unfold otherN
 rw [if_pos ⟨by rw [find_in h0 hz], hne⟩]
theorem other_zero (h0 : checkN N = 0) (own : Int) : otherN N 0 own = 0 := by
 unfold otherN
 rw [if_neg]
 rintro ⟨h, _⟩
 rw [find_zero h0] at h
 cases h
theorem other_last (h0 : checkN N = 0) {A : List Nd} {own : Int} (hA : ∀ z ∈ A, z ∈ N ∧ z.id ≠ own) : otherN N (lastI A) own = lastI A := by
 rcases List.eq_nil_or_concat A with h | ⟨A0, z, h⟩
 ·subst h; exact other_zero h0 own
 ·rw [List.concat_eq_append] at h
  subst h
  have : lastI (A0 ++ [z]) = z.id := by unfold lastI; simp
  rw [this]
  exact other_node h0 (hA z (by simp)).1 (hA z (by simp)).2
theorem other_head (h0 : checkN N = 0) {B : List Nd} {own : Int} (hB : ∀ z ∈ B, z ∈ N ∧ z.id ≠ own) : otherN N (headI B) own = headI B := by
 cases B with
 | nil => exact other_zero h0 own
 | cons z B =>
  show otherN N z.id own = z.id
  exact other_node h0 (hB z (by simp)).1 (hB z (by simp)).2
theorem step_left (h0 : checkN N = 0) {st : Int → Pr} {p : Pr} {x : Nd} {i : Nat} (hi : i ≤ 16) (hx : x ∈ N) (hp : p.id = x.id) (hl : linkB N p i = (neighN N x.id i).1) {A B : List Nd} (e : grpS N i x.word = A ++ x :: B)
  (hu : ∀ A0 u, A = A0 ++ [u] → (nearAt (st u.id) i).1 = lastI (A0.filter (bitIs i 0)) ∧ (nearAt (st u.id) i).2.1 = lastI (A0.filter (bitIs i 1))) :
  (stepB N st p i).1 = lastI (A.filter (bitIs i 0)) ∧ (stepB N st p i).2.1 = lastI (A.filter (bitIs i 1)) := by
 have hn := neigh_split h0 hx (h := (i : Int)) (by unfold lvlN; simp; omega) e
 obtain ⟨hA, _⟩ := grp_parts h0 e
 have hs : stepB N st p i = ((pairB N x.id (lastI A) i (nearAt (st (lastI A)) i).1 (nearAt (st (lastI A)) i).2.1).1, (pairB N x.id (lastI A) i (nearAt (st (lastI A)) i).1 (nearAt (st (lastI A)) i).2.1).2, (stepB N st p i).2.2) := by
  unfold stepB
  rw [hl, hn, hp]
 rw [hs]
 simp only
 rcases List.eq_nil_or_concat A with h | ⟨A0, u, h⟩
 ·subst h
  have : pairB N x.id (lastI []) i (nearAt (st (lastI [])) i).1 (nearAt (st (lastI [])) i).2.1 = (0, 0) := by
   unfold pairB
   rw [if_neg]
   rw [show lastI [] = 0 from rfl, find_zero h0]
   simp
  rw [this]
  exact ⟨rfl, rfl⟩
 ·rw [List.concat_eq_append] at h
  subst h
  have hlu : lastI (A0 ++ [u]) = u.id := by unfold lastI; simp
  obtain ⟨g0, g1⟩ := hu A0 u rfl
  have huN := (hA u (by simp)).1
  have sub : ∀ b, ∀ z ∈ A0.filter (bitIs i b), z ∈ N ∧ z.id ≠ x.id := fun b z hz => hA z (by simp [(List.mem_filter.1 hz).1])
  rw [hlu, g0, g1]
  unfold pairB
  rw [find_in h0 huN, if_pos rfl]
  by_cases hb : bitN u.word i = 0
  ·rw [if_pos hb, other_last h0 (sub 1), List.filter_append, List.filter_append]
   have e0 : [u].filter (bitIs i 0) = [u] := by simp [bitIs, hb]
   have e1 : [u].filter (bitIs i 1) = [] := by simp [bitIs, hb]
   rw [e0, e1, List.append_nil]
   exact ⟨by unfold lastI; simp, rfl⟩
  ·have hb1 : bitN u.word i = 1 := by have := bitN_lt u.word (i : Int); omega
   rw [if_neg hb, other_last h0 (sub 0), List.filter_append, List.filter_append]
   have e0 : [u].filter (bitIs i 0) = [] := by simp [bitIs, hb1]
   have e1 : [u].filter (bitIs i 1) = [u] := by simp [bitIs, hb1]
   rw [e0, e1, List.append_nil]
   exact ⟨rfl, by unfold lastI; simp⟩
theorem step_right (h0 : checkN N = 0) {st : Int → Pr} {p : Pr} {x : Nd} {i : Nat} (hi : i ≤ 16) (hx : x ∈ N) (hp : p.id = x.id) (hl : linkB N p i = (neighN N x.id i).1) {A B : List Nd} (e : grpS N i x.word = A ++ x :: B)
  (hu : ∀ u B0, B = u :: B0 → (nearAt (st u.id) i).2.2.1 = headI (B0.filter (bitIs i 0)) ∧ (nearAt (st u.id) i).2.2.2 = headI (B0.filter (bitIs i 1))) :
  (stepB N st p i).2.2.1 = headI (B.filter (bitIs i 0)) ∧ (stepB N st p i).2.2.2 = headI (B.filter (bitIs i 1)) := by
 have hn := neigh_split h0 hx (h := (i : Int)) (by unfold lvlN; simp; omega) e
 obtain ⟨_, hB⟩ := grp_parts h0 e
 have hs : (stepB N st p i).2.2 = pairB N x.id (headI B) i (nearAt (st (headI B)) i).2.2.1 (nearAt (st (headI B)) i).2.2.2 := by
  unfold stepB
  rw [hl, hn, hp]
 rw [hs]
 cases B with
 | nil =>
  have : pairB N x.id (headI []) i (nearAt (st (headI [])) i).2.2.1 (nearAt (st (headI [])) i).2.2.2 = (0, 0) := by
   unfold pairB
   rw [if_neg]
   rw [show headI [] = 0 from rfl, find_zero h0]
   simp
  rw [this]
  exact ⟨rfl, rfl⟩
 | cons u B0 =>
  obtain ⟨g0, g1⟩ := hu u B0 rfl
  have huN := (hB u (by simp)).1
  have sub : ∀ b, ∀ z ∈ B0.filter (bitIs i b), z ∈ N ∧ z.id ≠ x.id := fun b z hz => hB z (by simp [(List.mem_filter.1 hz).1])
  rw [show headI (u :: B0) = u.id from rfl, g0, g1]
  unfold pairB
  rw [find_in h0 huN, if_pos rfl]
  by_cases hb : bitN u.word i = 0
  ·rw [if_pos hb, other_head h0 (sub 1), List.filter_cons_of_pos (by simp [bitIs, hb]), List.filter_cons_of_neg (by simp [bitIs, hb])]
   exact ⟨rfl, rfl⟩
  ·have hb1 : bitN u.word i = 1 := by have := bitN_lt u.word (i : Int); omega
   rw [if_neg hb, other_head h0 (sub 0), List.filter_cons_of_neg (by simp [bitIs, hb1]), List.filter_cons_of_pos (by simp [bitIs, hb1])]
   exact ⟨rfl, rfl⟩
theorem grp_next (hw : ∀ x ∈ N, x.word < 4294967296) {x : Nd} (hx : x ∈ N) {i : Nat} (hi : i < 16) : grpS N ((i + 1 : Nat) : Int) x.word = (grpS N i x.word).filter (bitIs i (bitN x.word i)) := by
 unfold grpS groupN
 rw [List.filter_filter]
 refine List.filter_congr fun y hy => ?_
 have hy := (sortN_mem N y).1 hy
 rw [Bool.eq_iff_iff, show ((i + 1 : Nat) : Int) = (i : Int) + 1 by omega, same_succ (hw y hy) (hw x hx) hi]
 unfold bitIs
 simp only [Bool.and_eq_true, beq_iff_eq]
 exact And.comm
theorem link_near (h0 : checkN N = 0) (hw : ∀ x ∈ N, x.word < 4294967296) {p : Pr} {x : Nd} {i : Nat} (hi : i < 16) (hx : x ∈ N) (hp : p.id = x.id) (hlen : i + 1 ≤ p.near.length) {A B : List Nd} (e : grpS N i x.word = A ++ x :: B)
  (hL : (nearAt p i).1 = lastI (A.filter (bitIs i 0)) ∧ (nearAt p i).2.1 = lastI (A.filter (bitIs i 1))) (hR : (nearAt p i).2.2.1 = headI (B.filter (bitIs i 0)) ∧ (nearAt p i).2.2.2 = headI (B.filter (bitIs i 1))) :
  linkB N p ((i + 1 : Nat) : Int) = (neighN N x.id ((i + 1 : Nat) : Int)).1 := by
 have hlv : lvlN ((i + 1 : Nat) : Int) = true := by unfold lvlN; simp; omega
 obtain ⟨hA, hB⟩ := grp_parts h0 e
 have e' : grpS N ((i + 1 : Nat) : Int) x.word = A.filter (bitIs i (bitN x.word i)) ++ x :: B.filter (bitIs i (bitN x.word i)) := by
  rw [grp_next hw hx hi, e, List.filter_append, List.filter_cons_of_pos (by simp [bitIs])]
 rw [neigh_split h0 hx hlv e']
 have subA : ∀ b, ∀ z ∈ A.filter (bitIs i b), z ∈ N ∧ z.id ≠ x.id := fun b z hz => hA z (List.mem_filter.1 hz).1
 have subB : ∀ b, ∀ z ∈ B.filter (bitIs i b), z ∈ N ∧ z.id ≠ x.id := fun b z hz => hB z (List.mem_filter.1 hz).1
 unfold linkB
 rw [hp, find_in h0 hx, if_pos ⟨rfl, h0, hlv, by omega⟩, if_neg (by omega), show (((i + 1 : Nat) : Int) - 1) = (i : Int) by omega, show ((i : Int)).toNat = i by omega, hL.1, hL.2, hR.1, hR.2]
 simp only
 by_cases hb : bitN x.word i = 1
 ·rw [if_pos hb, hb]
  simp only
  rw [other_last h0 (subA 1), other_head h0 (subB 1)]
 ·have hb0 : bitN x.word i = 0 := by have := bitN_lt x.word (i : Int); omega
  rw [if_neg hb, hb0]
  simp only
  rw [other_last h0 (subA 0), other_head h0 (subB 0)]
def RightB (N : List Nd) (st : Int → Pr) (i : Nat) : Prop := ∀ x ∈ N, linkB N (st x.id) i = (neighN N x.id i).1
theorem near_next {st : Int → Pr} {p q : Pr} {h i : Nat} (hq : q.near = nextB N st p h) (hi : i < h) : nearAt q i = stepB N st p i := by
 unfold nearAt
 rw [hq]
 unfold nextB
 rw [List.getElem?_map, List.getElem?_range hi]
 rfl
theorem grp_same (hw : ∀ x ∈ N, x.word < 4294967296) {x u : Nd} {i : Nat} (hx : x ∈ N) (hu : u ∈ grpS N i x.word) : grpS N i u.word = grpS N i x.word := by
 obtain ⟨h1, h2⟩ := grp_mem.1 hu
 exact grp_eq hw (hw u h1) (hw x hx) h2
theorem near_of {p q : Pr} {i : Nat} (h : p.near = q.near) : nearAt p i = nearAt q i := by unfold nearAt; rw [h]
theorem climbA (h0 : checkN N = 0) (hw : ∀ x ∈ N, x.word < 4294967296) {h : Nat} (hh : h ≤ 16) {S : Nat → Int → Pr} (hid : ∀ t id, (S t id).id = id)
  (hnear : ∀ t, ∀ x ∈ N, ∃ st : Int → Pr, (∀ y ∈ N, (st y.id).near = (S t y.id).near ∨ (st y.id).near = (S (t + 1) y.id).near) ∧ (S (t + 1) x.id).near = nextB N st (S t x.id) h) {T : Nat} (hR0 : ∀ t, T ≤ t → RightB N (S t) 0) :
  ∀ i, i ≤ h → ∀ t, T + i * N.length ≤ t → RightB N (S t) i := by
 intro i
 induction i with
 | zero => intro _ t ht; exact hR0 t (by omega)
 | succ i ih =>
  intro hi t ht x hx
  have hR := ih (by omega)
  have hne : 1 ≤ N.length := by rcases N with _ | ⟨a, N⟩; cases hx; simp
  have hm : (i + 1) * N.length = i * N.length + N.length := by rw [Nat.add_mul, Nat.one_mul]
  -- by the number of nodes on the side
  have left : ∀ r, ∀ s, T + i * N.length + r + 1 ≤ s → ∀ y ∈ N, ∀ A B, grpS N i y.word = A ++ y :: B → A.length ≤ r → (nearAt (S s y.id) i).1 = lastI (A.filter (bitIs i 0)) ∧ (nearAt (S s y.id) i).2.1 = lastI (A.filter (bitIs i 1)) := by
   intro r
   induction r with
   | zero =>
    intro s hs y hy A B e hA
    obtain ⟨s', rfl⟩ : ∃ s', s = s' + 1 := ⟨s - 1, by omega⟩
    obtain ⟨st, hst, hnx⟩ := hnear s' y hy
    rw [near_next hnx (by omega)]
    refine step_left h0 (by omega) hy (hid _ _) (hR s' (by omega) y hy) e fun A0 u he => ?_
    rw [he] at hA
    simp at hA
   | succ r ihr =>
    intro s hs y hy A B e hA
    obtain ⟨s', rfl⟩ : ∃ s', s = s' + 1 := ⟨s - 1, by omega⟩
    obtain ⟨st, hst, hnx⟩ := hnear s' y hy
    rw [near_next hnx (by omega)]
    refine step_left h0 (by omega) hy (hid _ _) (hR s' (by omega) y hy) e fun A0 u he => ?_
    have hu : u ∈ grpS N i y.word := by rw [e, he]; simp
    have g1 : grpS N i u.word = A0 ++ u :: (y :: B) := by rw [grp_same hw hy hu, e, he]; simp
    have g2 : A0.length ≤ r := by rw [he] at hA; simp at hA; omega
    rcases hst u (grp_mem.1 hu).1 with hn | hn
    ·rw [near_of hn]; exact ihr s' (by omega) u (grp_mem.1 hu).1 A0 (y :: B) g1 g2
    ·rw [near_of hn]; exact ihr (s' + 1) (by omega) u (grp_mem.1 hu).1 A0 (y :: B) g1 g2
  have right : ∀ r, ∀ s, T + i * N.length + r + 1 ≤ s → ∀ y ∈ N, ∀ A B, grpS N i y.word = A ++ y :: B → B.length ≤ r → (nearAt (S s y.id) i).2.2.1 = headI (B.filter (bitIs i 0)) ∧ (nearAt (S s y.id) i).2.2.2 = headI (B.filter (bitIs i 1)) := by
   intro r
   induction r with
   | zero =>
    intro s hs y hy A B e hB
    obtain ⟨s', rfl⟩ : ∃ s', s = s' + 1 := ⟨s - 1, by omega⟩
    obtain ⟨st, hst, hnx⟩ := hnear s' y hy
    rw [near_next hnx (by omega)]
    refine step_right h0 (by omega) hy (hid _ _) (hR s' (by omega) y hy) e fun u B0 he => ?_
    rw [he] at hB
    simp at hB
   | succ r ihr =>
    intro s hs y hy A B e hB
    obtain ⟨s', rfl⟩ : ∃ s', s = s' + 1 := ⟨s - 1, by omega⟩
    obtain ⟨st, hst, hnx⟩ := hnear s' y hy
    rw [near_next hnx (by omega)]
    refine step_right h0 (by omega) hy (hid _ _) (hR s' (by omega) y hy) e fun u B0 he => ?_
    have hu : u ∈ grpS N i y.word := by rw [e, he]; simp
    have g1 : grpS N i u.word = (A ++ [y]) ++ u :: B0 := by rw [grp_same hw hy hu, e, he]; simp
    have g2 : B0.length ≤ r := by rw [he] at hB; simp at hB; omega
    rcases hst u (grp_mem.1 hu).1 with hn | hn
    ·rw [near_of hn]; exact ihr s' (by omega) u (grp_mem.1 hu).1 (A ++ [y]) B0 g1 g2
    ·rw [near_of hn]; exact ihr (s' + 1) (by omega) u (grp_mem.1 hu).1 (A ++ [y]) B0 g1 g2
  obtain ⟨A, B, e⟩ := grp_at hx (h := (i : Int)) (by unfold lvlN; simp; omega)
  have hlen : A.length + B.length + 1 ≤ N.length := by
   have h1 : (grpS N (i : Int) x.word).length ≤ (sortN N).length := List.length_filter_le _ _
   rw [sortN_length, e] at h1
   simp at h1
   omega
  obtain ⟨s', rfl⟩ : ∃ s', t = s' + 1 := ⟨t - 1, by omega⟩
  refine link_near h0 hw (by omega) hx (hid _ _) ?_ e (left (N.length - 1) (s' + 1) (by omega) x hx A B e (by omega)) (right (N.length - 1) (s' + 1) (by omega) x hx A B e (by omega))
  obtain ⟨st, _, hnx⟩ := hnear s' x hx
  rw [hnx]
  unfold nextB
  simp
  omega
theorem climb (h0 : checkN N = 0) (hw : ∀ x ∈ N, x.word < 4294967296) {h : Nat} (hh : h ≤ 16) {S : Nat → Int → Pr} (hid : ∀ t id, (S t id).id = id)
  (hnear : ∀ t, ∀ x ∈ N, (S (t + 1) x.id).near = nextB N (S t) (S t x.id) h) {T : Nat} (hR0 : ∀ t, T ≤ t → RightB N (S t) 0) :
  ∀ i, i ≤ h → ∀ t, T + i * N.length ≤ t → RightB N (S t) i :=
 climbA h0 hw hh hid (fun t x hx => ⟨S t, fun _ _ => .inl rfl, hnear t x hx⟩) hR0
end
variable {N : List Nd} {L : List Lkd} {key : List UInt8} {right : Bool}
theorem meas_down (x : Nd) (lev : Nat) : measR N right x lev < measR N right x (lev + 1) := by
 unfold measR
 rw [Nat.add_mul]
 omega
theorem RtSt.down {R : Nd × List Hop} {x : Nd} {lev : Nat} {out : List Hop} (h : RtSt N L key right R x (lev + 1) out) (hh : hopN N L key right x lev = none) : RtSt N L key right R x lev out := by
 obtain ⟨f, h1, h2⟩ := h
 have hm := meas_down (N := N) (right := right) x lev
 obtain ⟨f, rfl⟩ : ∃ g, f = g + 1 := ⟨f - 1, by omega⟩
 refine ⟨f, by omega, ?_⟩
 rw [← h2]
 show _ = (match hopN N L key right x lev with | some y => rtF N L key right f y (lev + 1) (out ++ [(x.id, y.id, (lev : Int))]) | none => rtF N L key right f x lev out)
 rw [hh]
variable {N : List Nd} {L : List Lkd} {key : List UInt8} {right : Bool}
theorem HopsOk.side {x' : Nd} : ∀ {hs : List Hop} {x : Nd} {lev : Nat}, HopsOk N key right x' x lev hs → (if right then Op.bytesLess key x.key.toList = false else Op.bytesLess key x.key.toList = true) → (if right then Op.bytesLess key x'.key.toList = false else Op.bytesLess key x'.key.toList = true)
 | [], _, _, h, hk => by rw [← show _ = x' from h]; exact hk
 | _ :: hs, x, _, ⟨y, l', h1, h2, h3, h4, h5⟩, hk => h5.side (by
   unfold DirN at h4
   cases right with
   | true => rw [if_pos rfl] at h4 ⊢; exact h4.2
   | false => rw [if_neg (by simp)] at h4 ⊢; exact h4.2)
theorem dlt_irrefl {right : Bool} (a : Nd) : dlt right a a = false := by
 cases right <;> exact bytesLess_irrefl _
theorem win_down {right : Bool} {key : List UInt8} {a b : Nd} (h : dlt right a b = true) (hw : win right key b = true) : win right key a = true := by
 cases right with
 | true =>
  have h : Op.bytesLess a.key.toList b.key.toList = true := h
  have hw : (!Op.bytesLess key b.key.toList) = true := hw
  show (!Op.bytesLess key a.key.toList) = true
  cases hk : Op.bytesLess key a.key.toList with
  | false => rfl
  | true => rw [bl_trans hk h] at hw; cases hw
 | false =>
  have h : Op.bytesLess b.key.toList a.key.toList = true := h
  have hw : Op.bytesLess key b.key.toList = true := hw
  exact bl_trans hw h
section
variable {N : List Nd} {L : List Lkd} {key : List UInt8} {right : Bool}
theorem sameN_le {a b : Nat} {h k : Int} (hs : sameN a b h = true) (hk : k ≤ h) : sameN a b k = true := by
 unfold sameN at *
 simp only [decide_eq_true_eq] at *
 omega
theorem CntSt.down (h0 : checkN N = 0) (hw : ∀ x ∈ N, x.word < 4294967296) {frm : Nd} (hf : frm ∈ N) {lev : Nat} (hl : lev + 1 ≤ 16) {x : Nd} {q : Nat} (h : CntSt N key right frm (lev + 1) x q) (hL : atL L x.id (lev + 1 : Nat) = (neighN N x.id (lev + 1 : Nat)).1) (hh : hopN N L key right x (lev + 1) = none) :
  CntSt N key right frm lev x 0 := by
 have ho := h.own hw hf
 have hm := h.mem
 obtain ⟨P, A, Q, B, e1, e2, rfl, h3, h4, h5⟩ := h
 rw [hop_exact h0 hl hm.1 hL (by rw [ho]; exact e1)] at hh
 have ha := dir_asc (right := right) (grp_asc h0 ((lev + 1 : Nat) : Int) frm.word)
 rw [e1] at ha
 have ha2 := List.pairwise_append.1 ha
 have hxm : x ∈ dirL right (grpS N (lev : Int) frm.word) := dir_mem.2 (grp_mem.2 ⟨hm.1, sameN_le hm.2 (by omega)⟩)
 obtain ⟨P2, B2, f1⟩ := List.append_of_mem hxm
 have hb := dir_asc (right := right) (grp_asc h0 (lev : Int) frm.word)
 rw [f1] at hb
 have hb2 := (List.pairwise_cons.1 (List.pairwise_append.1 hb).2.1).1
 refine ⟨P2, P2 ++ [x], [], B2, f1, by simp, rfl, by simp, fun z hz hwz => ?_, h5⟩
 have hxz := hb2 z hz
 have hzN : z ∈ N := (grp_mem.1 (dir_mem.1 (by rw [f1]; simp [hz]))).1
 cases hbr : brkN frm lev z with
 | false => rfl
 | true =>
  exfalso
  unfold brkN at hbr
  rcases Bool.or_eq_true_iff.1 hbr with h | h
  ·have hid : z.id = frm.id := by simpa using h
   have hz2 : z = frm := ids_eq (check_keys h0) hzN hf hid
   rw [hz2] at hxz
   rcases h5 with rfl | h5
   ·rw [dlt_irrefl] at hxz; cases hxz
   ·have := dlt_trans h5 hxz
    rw [dlt_irrefl] at this; cases this
  ·have hzG : z ∈ dirL right (grpS N ((lev + 1 : Nat) : Int) frm.word) := dir_mem.2 (grp_mem.2 ⟨hzN, sameN_symm (by rw [show ((lev + 1 : Nat) : Int) = (lev : Int) + 1 by omega]; exact h)⟩)
   rw [e1] at hzG
   have hzB : z ∈ B := by
    rcases List.mem_append.1 hzG with h | h
    ·have := ha2.2.2 z h x (by simp)
     have := dlt_trans this hxz
     rw [dlt_irrefl] at this; cases this
    ·rcases List.mem_cons.1 h with h | h
     ·rw [h, dlt_irrefl] at hxz; cases hxz
     ·exact h
   cases B with
   | nil => cases hzB
   | cons y B =>
    rw [nextW_cons] at hh
    split at hh
    ·cases hh
    ·rename_i hwn
     rcases List.mem_cons.1 hzB with h | h
     ·rw [h] at hwz; exact hwn hwz
     ·exact hwn (win_down ((List.pairwise_cons.1 (List.pairwise_cons.1 ha2.2.1).2).1 z h) hwz)
end
section
variable {N : List Nd}
theorem right_zero (h0 : checkN N = 0) {P : List Pr} (he : exactL N P) : RightB N (peerN P) 0 := by
 intro x hx
 have hpid := peer_id P x.id
 obtain ⟨A, B, e⟩ := grp_at hx (h := ((0 : Nat) : Int)) rfl
 obtain ⟨hA, hB⟩ := grp_parts h0 e
 have hn := neigh_split h0 hx (h := ((0 : Nat) : Int)) rfl e
 have hx2 := he.2 x hx
 rw [hn] at hx2 ⊢
 simp only [Prod.mk.injEq] at hx2
 unfold linkB
 rw [hpid, find_in h0 hx, if_pos ⟨rfl, h0, rfl, by omega⟩, if_pos (show ((0 : Nat) : Int) = 0 from rfl)]
 simp only
 rw [hx2.1, hx2.2, other_last h0 hA, other_head h0 hB]
theorem links_build (h0 : checkN N = 0) {h : Nat} (hh : h ≤ 16) {P : List Pr} (hR : ∀ i, i ≤ h → RightB N (peerN P) i) : linksB N P (h : Int) = (buildN N (h : Int)).1 := by
 unfold linksB buildN normalN
 have hlv : lvlN (h : Int) = true := by unfold lvlN; simp; omega
 rw [if_pos hlv, if_pos h0, if_neg (show ¬ (checkN N == 0) = false by rw [h0]; simp), if_neg (show ¬ lvlN (h : Int) = false by rw [hlv]; simp), List.map_map]
 refine List.map_congr_left fun x hx => ?_
 have hxN := (sortN_mem N x).1 hx
 have h0s : checkN (sortN N) = 0 := check_perm (sortN_perm N) h0
 show ((peerN P x.id).id, _) = rowN (sortN N) _ x
 unfold rowN
 rw [peer_id, show ((h : Int)).toNat = h by omega]
 congr 1
 refine List.map_congr_left fun i hi => ?_
 have hi : i < h + 1 := by simpa using hi
 rw [hR i (by omega) x hxN]
 have hlv : lvlN (i : Int) = true := by unfold lvlN; simp; omega
 obtain ⟨A, B, e⟩ := grp_at hxN hlv
 have es : grpS (sortN N) i x.word = A ++ x :: B := by
  unfold grpS at e ⊢
  rw [sort_perm (sortN_perm N) h0]; exact e
 rw [neigh_split h0 hxN hlv e, neigh_split h0s hx hlv es]
theorem exact_yes (h0 : checkN N = 0) {h : Nat} (hh : h ≤ 16) {P : List Pr} (hR : ∀ i, i ≤ h → RightB N (peerN P) i) : exactB N P (h : Int) = true := by
 unfold exactB
 rw [links_build h0 hh hR, (build_ok0 h0 hh).1]
 simp
theorem reach_law (hw : ∀ x ∈ N, x.word < 4294967296) {h : Nat} (hh : h ≤ 16) {P : Nat → List Pr} (hc : ConnN N (P 0)) (hk : ∀ t, ∀ a ∈ N, ∀ v ∈ (peerN (roundN N (P t)) a.id).known, v ∈ (peerN (P (t + 1)) a.id).known)
  (hlr : ∀ t, ∀ a ∈ N, ((peerN (P (t + 1)) a.id).left, (peerN (P (t + 1)) a.id).right) = keepN N (peerN (P t) a.id)) (hnear : ∀ t, ∀ a ∈ N, (peerN (P (t + 1)) a.id).near = nextB N (peerN (P t)) (peerN (P t) a.id) h) :
  ∀ t, N.length * (h + 1) ≤ t → exactB N (P t) (h : Int) = true := by
 intro t ht
 have h0 := hc.1
 refine exact_yes h0 hh fun i hi => ?_
 refine climb h0 hw hh (S := fun t => peerN (P t)) (fun t id => peer_id _ _) (fun t x hx => hnear t x hx) (T := N.length) (fun t ht => right_zero h0 (sort_law hc hk hlr t ht)) i hi t ?_
 have h1 : N.length * (i + 1) ≤ N.length * (h + 1) := Nat.mul_le_mul_left _ (by omega)
 rw [Nat.mul_add, Nat.mul_one, Nat.mul_comm] at h1
 omega
theorem repair_law (hw : ∀ x ∈ N, x.word < 4294967296) {h : Nat} (hh : h ≤ 16) {P : List Pr} (hc : ConnN N P) (t : Nat) (ht : N.length * (h + 1) ≤ t) : exactB N (rRunsN N P (h : Int) t) (h : Int) = true := by
 have h0 := hc.1
 refine reach_law hw hh (P := rRunsN N P (h : Int)) hc (fun t a ha v hv => ?_) (fun t a ha => ?_) (fun t a ha => ?_) t ht
 ·rw [show rRunsN N P (h : Int) (t + 1) = rRoundN N (rRunsN N P (h : Int) t) h from rfl, rround_peer h0 hh ha]
  rw [round_peer h0 ha] at hv
  exact hv
 ·rw [show rRunsN N P (h : Int) (t + 1) = rRoundN N (rRunsN N P (h : Int) t) h from rfl, rround_peer h0 hh ha]
  rfl
 ·rw [show rRunsN N P (h : Int) (t + 1) = rRoundN N (rRunsN N P (h : Int) t) h from rfl, rround_peer h0 hh ha]
end
section
variable {N : List Nd}
theorem chain_cl {R : Int → Int → Prop} : ∀ (S : List Nd), (∀ A a b B, S = A ++ a :: b :: B → R a.id b.id) → ∀ x ∈ S, ∀ y ∈ S, Cl R x.id y.id
 | [], _, x, hx, _, _ => by cases hx
 | [a], _, x, hx, y, hy => by
  simp only [List.mem_singleton] at hx hy
  subst hx hy
  exact .refl _
 | a :: b :: S, h, x, hx, y, hy => by
  have ih := chain_cl (b :: S) (fun A u v B e => h (a :: A) u v B (by rw [e]; rfl))
  have hab : Cl R a.id b.id := Cl.one (.inl (h [] a b S rfl))
  have hb : ∀ z ∈ a :: b :: S, Cl R b.id z.id := by
   intro z hz
   rcases List.mem_cons.1 hz with rfl | hz
   ·exact hab.symm
   ·exact ih b (by simp) z hz
  exact (hb x hx).symm.trans (hb y hy)
end
theorem peers_map {N : List Nd} (h0 : checkN N = 0) (w : Int) {h : Nat} (hh : h ≤ 16) : peersN N w (h : Int) = (sortN N).map (peerC N w (h : Int)) := by
 unfold peersN
 rw [if_pos ⟨h0, by unfold lvlN; simp; omega⟩]
theorem peers_len {N : List Nd} (h0 : checkN N = 0) (w : Int) {h : Nat} (hh : h ≤ 16) : (peersN N w (h : Int)).length = N.length := by
 rw [peers_map h0 w hh, List.length_map, sortN_length]
section
variable {N : List Nd} {P Q : List Pr}
theorem rr_congr (h : normalN N P = normalN N Q) (k : Int) : rRoundN N P k = rRoundN N Q k := by
 unfold rRoundN
 rw [roundN_eq, roundN_eq]
 unfold bRoundN
 rw [h]
theorem exact_congr (h : normalN N P = normalN N Q) (k : Int) : exactB N P k = exactB N Q k := by
 unfold exactB linksB
 rw [h]
theorem rruns_congr (h : normalN N P = normalN N Q) (k : Int) : ∀ t, normalN N (rRunsN N P k t) = normalN N (rRunsN N Q k t)
 | 0 => h
 | t + 1 => by
  show normalN N (rRoundN N _ k) = normalN N (rRoundN N _ k)
  rw [rr_congr (rruns_congr h k t)]
theorem exact_norm (N : List Nd) (P : List Pr) (h : Int) (t : Nat) : exactB N (rRunsN N (normalN N P) h t) h = exactB N (rRunsN N P h t) h := exact_congr (rruns_congr (norm_idem N P) h t) h
theorem run_law (hw : ∀ x ∈ N, x.word < 4294967296) {h : Nat} (hh : h ≤ 16) (hc : ConnN N P) {r : Int} (hr : (N.length * (h + 1) : Nat) ≤ r) : exactB N (repN N P h r) h = true := by
 unfold repN
 rw [if_pos (lvl_of (by omega) (by omega)), exact_norm]
 refine repair_law hw hh hc _ ?_
 have := rnds_le hc.1 hh
 omega
end
theorem peers_sm {N : List Nd} (wd : Int) {h : Nat} (hh : h ≤ 16) (hN : N.length ≤ 100) : FewQ 100 200 (peersN N wd h) := by
 unfold peersN
 split
 ·intro p hp
  obtain ⟨x, _, rfl⟩ := List.mem_map.1 hp
  have h1 : (contactsN (sortN N) x.id wd h).length ≤ (sortN N).length := by
   unfold contactsN
   split
   ·exact Nat.zero_le _
   ·unfold ordN
    rw [List.length_map]
    exact Nat.le_trans (List.length_filter_le _ _) (Nat.le_of_eq (sortN_length _))
  rw [sortN_length] at h1
  have h2 : ((List.range (h : Int).toNat).map (nearG (sortN N) x)).length ≤ 200 := by rw [List.length_map, List.length_range]; omega
  exact ⟨Nat.le_trans h1 (by omega), h2⟩
 ·intro p hp; cases hp
end Go.Proofs.YtlgdjigocopglaaGreatDoor
