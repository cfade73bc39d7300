/- Texts for RepairReachesProof, RepairCrashesProof, RepairJoinsProof, RepairCleansProof, RepairRejoinsProof. -/
import Derived.Sort.Walk0
import Derived.Sort.LotA
import Derived.Test.YtofmcalfbpjoeaaGreatDoorRpAll1
import Derived.Test.YtofmcalfbpjoeaaGreatDoorRpAll3

namespace Go.Proofs.YtofmcalfbpjoeaaGreatDoor
open Go.RowKit
def ltN (a b : Nd) : Bool := Op.bytesLess a.key.toList b.key.toList || (a.key.toList == b.key.toList && decide (a.id < b.id))
theorem bl_trans {x y z : List UInt8} (h1 : Op.bytesLess x y = true) (h2 : Op.bytesLess y z = true) : Op.bytesLess x z = true := by
 rw [bytesLess_eq] at *
 simp only [decide_eq_true_eq] at *
 exact List.lt_trans h1 h2
theorem bl_asymm {x y : List UInt8} (h : Op.bytesLess x y = true) : Op.bytesLess y x = false := by
 cases h2 : Op.bytesLess y x with
 | false => rfl
 | true =>
  have h3 := bl_trans h h2
  rw [bytesLess_irrefl] at h3
  cases h3
theorem bl_tri (x y : List UInt8) : (Op.bytesLess x y = true ∧ Op.bytesLess y x = false ∧ x ≠ y) ∨ (x = y ∧ Op.bytesLess x y = false ∧ Op.bytesLess y x = false) ∨ (Op.bytesLess y x = true ∧ Op.bytesLess x y = false ∧ x ≠ y) := by
 cases h1 : Op.bytesLess x y with
 | true => exact .inl ⟨rfl, bl_asymm h1, fun he => by rw [he, bytesLess_irrefl] at h1; cases h1⟩
 | false =>
  cases h2 : Op.bytesLess y x with
  | true => exact .inr (.inr ⟨rfl, rfl, fun he => by rw [he, bytesLess_irrefl] at h2; cases h2⟩)
  | false => exact .inr (.inl ⟨bytesLess_total x y h1 h2, rfl, rfl⟩)
theorem ltN_iff (a b : Nd) : ltN a b = true ↔ Op.bytesLess a.key.toList b.key.toList = true ∨ (a.key.toList = b.key.toList ∧ a.id < b.id) := by
 unfold ltN; simp
theorem ltN_no (a b : Nd) : ltN a b = false ↔ Op.bytesLess b.key.toList a.key.toList = true ∨ (a.key.toList = b.key.toList ∧ b.id ≤ a.id) := by
 rw [← Bool.not_eq_true, ltN_iff]
 rcases bl_tri a.key.toList b.key.toList with ⟨h1, h2, h3⟩ | ⟨h1, h2, h3⟩ | ⟨h1, h2, h3⟩
 ·simp [h1, h2, h3]
 ·simp [h1, bytesLess_irrefl]
 ·simp [h1, h2, h3]
theorem gtN_lt (a b : Nd) : gtN a b = ltN b a := by
 unfold gtN ltN
 rcases bl_tri a.key.toList b.key.toList with ⟨h1, h2, h3⟩ | ⟨h1, h2, h3⟩ | ⟨h1, h2, h3⟩
 ·have e1 : (a.key.toList == b.key.toList) = false := by rw [beq_eq_false_iff_ne]; exact h3
  have e2 : (b.key.toList == a.key.toList) = false := by rw [beq_eq_false_iff_ne]; exact fun h => h3 h.symm
  rw [h1, h2, e1, e2]; rfl
 ·simp [h1, bytesLess_irrefl]
 ·have e1 : (a.key.toList == b.key.toList) = false := by rw [beq_eq_false_iff_ne]; exact h3
  have e2 : (b.key.toList == a.key.toList) = false := by rw [beq_eq_false_iff_ne]; exact fun h => h3 h.symm
  rw [h1, h2, e1, e2]; rfl
theorem swo_ltN : Sort.SWO ltN where
 irrefl x := by unfold ltN; simp [bytesLess_irrefl]
 trans x y z h1 h2 := by
  rw [ltN_iff] at *
  rcases h1 with h1 | ⟨h1, h1'⟩ <;> rcases h2 with h2 | ⟨h2, h2'⟩
  ·exact .inl (bl_trans h1 h2)
  ·exact .inl (by rw [← h2]; exact h1)
  ·exact .inl (by rw [h1]; exact h2)
  ·exact .inr ⟨h1.trans h2, by omega⟩
 ntrans x y z h1 h2 := by
  rw [ltN_no] at *
  rcases h1 with h1 | ⟨h1, h1'⟩ <;> rcases h2 with h2 | ⟨h2, h2'⟩
  ·exact .inl (bl_trans h2 h1)
  ·exact .inl (by rw [← h2]; exact h1)
  ·exact .inl (by rw [h1]; exact h2)
  ·exact .inr ⟨h1.trans h2, by omega⟩
def AscN (l : List Nd) : Prop := l.Pairwise fun x y => ltN y x = false
theorem atN_spec (out : List Nd) (x : Nd) (h : AscN out) : ∀ n, n ≤ out.length → (∀ j y, n ≤ j → out[j]? = some y → ltN x y = true) →
  (∀ j y, atN out x n ≤ j → out[j]? = some y → ltN x y = true) ∧ (∀ j y, j < atN out x n → out[j]? = some y → ltN x y = false)
 | 0, _, h1 => ⟨h1, by intro j y hj; unfold atN at hj; omega⟩
 | n + 1, hn, h1 => by
  have hy : out[n]? = some out[n] := List.getElem?_eq_getElem (by omega)
  unfold atN
  rw [hy]
  simp only
  split
  ·rename_i hg
   rw [gtN_lt] at hg
   refine atN_spec out x h n (by omega) fun j y hj hjy => ?_
   rcases Nat.lt_or_ge n j with h2 | h2
   ·exact h1 j y h2 hjy
   ·obtain rfl : j = n := by omega
    rw [hy] at hjy
    cases hjy
    exact hg
  ·rename_i hg
   rw [gtN_lt] at hg
   have hg : ltN x out[n] = false := by simpa using hg
   refine ⟨h1, fun j y hj hjy => ?_⟩
   rcases Nat.lt_or_ge j n with h2 | h2
   ·have hj' := List.getElem?_eq_some_iff.1 hjy
    have := List.pairwise_iff_getElem.1 h j n hj'.1 (by omega) h2
    rw [hj'.2] at this
    exact swo_ltN.ntrans _ _ _ hg this
   ·obtain rfl : j = n := by omega
    rw [hy] at hjy
    cases hjy
    exact hg
theorem insN_asc {out : List Nd} (x : Nd) (h : AscN out) : AscN (insN out x) := by
 obtain ⟨h1, h2⟩ := atN_spec out x h out.length (Nat.le_refl _) (by intro j y hj hjy; have := (List.getElem?_eq_some_iff.1 hjy).1; omega)
 unfold insN AscN
 have ha : (out.take (atN out x out.length) ++ out.drop (atN out x out.length)).Pairwise fun x y => ltN y x = false := by rw [List.take_append_drop]; exact h
 rw [List.pairwise_append] at ha ⊢
 refine ⟨ha.1, List.pairwise_cons.2 ⟨fun y hy => ?_, ha.2.1⟩, fun y hy z hz => ?_⟩
 ·obtain ⟨j, hj⟩ := List.mem_iff_getElem?.1 hy
  rw [List.getElem?_drop] at hj
  exact swo_ltN.asymmA (h1 _ y (by omega) hj)
 ·rcases List.mem_cons.1 hz with rfl | hz
  ·obtain ⟨j, hj⟩ := List.mem_iff_getElem?.1 hy
   rw [List.getElem?_take] at hj
   split at hj
   ·exact h2 j y (by assumption) hj
   ·cases hj
  ·exact ha.2.2 y hy z hz
theorem insN_perm (out : List Nd) (x : Nd) : (insN out x).Perm (x :: out) := by
 unfold insN
 have h := List.perm_middle (a := x) (l₁ := out.take (atN out x out.length)) (l₂ := out.drop (atN out x out.length))
 rw [List.take_append_drop] at h
 exact h
theorem fold_asc : ∀ (l out : List Nd), AscN out → AscN (l.foldl insN out)
 | [], _, h => h
 | x :: r, out, h => fold_asc r _ (insN_asc x h)
theorem fold_perm : ∀ (l out : List Nd), (l.foldl insN out).Perm (l ++ out)
 | [], _ => List.Perm.refl _
 | x :: r, out => by
  rw [List.foldl_cons, List.cons_append]
  exact (fold_perm r _).trans (((insN_perm out x).append_left r).trans List.perm_middle)
theorem sortN_asc (l : List Nd) : AscN (sortN l) := fold_asc l [] List.Pairwise.nil
theorem sortN_perm (l : List Nd) : (sortN l).Perm l := by
 have := fold_perm l []
 rwa [List.append_nil] at this
def KeysN (l : List Nd) : Prop := ∀ (i k : Nat) (x y : Nd), k < i → l[i]? = some x → l[k]? = some y → x.key ≠ y.key ∧ x.id ≠ y.id
theorem check_keys {l : List Nd} (h : checkN l = 0) : KeysN l := by
 unfold checkN at h
 split at h
 ·omega
 ·split at h
  ·omega
  ·split at h
   ·omega
   ·rename_i hd
    intro i k x y hk hx hy
    have : ¬ eqN x y = true := fun he => hd ((dupN_iff l).2 ⟨i, k, x, y, hk, hx, hy, he⟩)
    unfold eqN at this
    simp only [Bool.or_eq_true, beq_iff_eq, not_or] at this
    exact ⟨fun he => this.2 (by rw [he]), this.1⟩
theorem keys_eq {l : List Nd} (h : KeysN l) {x y : Nd} (hx : x ∈ l) (hy : y ∈ l) (he : x.key.toList = y.key.toList) : x = y := by
 obtain ⟨i, hi⟩ := List.mem_iff_getElem?.1 hx
 obtain ⟨k, hk⟩ := List.mem_iff_getElem?.1 hy
 have hke : x.key = y.key := by
  rw [ByteArray.toList_eq, ByteArray.toList_eq] at he
  exact ByteArray.ext (Array.toList_inj.1 he)
 rcases Nat.lt_trichotomy i k with hlt | rfl | hlt
 ·exact absurd hke.symm (h k i y x hlt hk hi).1
 ·exact Option.some.inj (hi.symm.trans hk)
 ·exact absurd hke (h i k x y hlt hi hk).1
theorem ids_eq {l : List Nd} (h : KeysN l) {x y : Nd} (hx : x ∈ l) (hy : y ∈ l) (he : x.id = y.id) : x = y := by
 obtain ⟨i, hi⟩ := List.mem_iff_getElem?.1 hx
 obtain ⟨k, hk⟩ := List.mem_iff_getElem?.1 hy
 rcases Nat.lt_trichotomy i k with hlt | rfl | hlt
 ·exact absurd he.symm (h k i y x hlt hk hi).2
 ·exact Option.some.inj (hi.symm.trans hk)
 ·exact absurd he (h i k x y hlt hi hk).2
theorem sortN_unique {l S : List Nd} (hk : KeysN l) (hp : S.Perm l) (hs : AscN S) : S = sortN l := by
 refine List.Perm.eq_of_pairwise (le := fun x y => ltN y x = false) ?_ hs (sortN_asc l) (hp.trans (sortN_perm l).symm)
 intro a b ha hb h1 h2
 have ha := hp.mem_iff.1 ha
 have hb := (sortN_mem l b).1 hb
 rw [ltN_no] at h1 h2
 rcases h1 with h1 | ⟨h1, _⟩
 ·rcases h2 with h2 | ⟨h2, _⟩
  ·rw [bl_asymm h1] at h2; cases h2
  ·exact keys_eq hk ha hb h2
 ·exact (keys_eq hk hb ha h1).symm
end Go.Proofs.YtofmcalfbpjoeaaGreatDoor
