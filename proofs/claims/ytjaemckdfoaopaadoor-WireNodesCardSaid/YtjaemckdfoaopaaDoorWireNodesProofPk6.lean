/- Texts for the statement WireNodesProof, part 6 of 12: NestB. -/
import Derived.Test.YtjaemckdfoaopaaDoorWireNodesProofPk3
import Derived.Test.YtjaemckdfoaopaaDoorWireNodesProofPk5

/- What a call does to lists of its own whose elements hold a list each. -/
namespace Go.Proofs.YtjaemckdfoaopaaDoor
open Go.RowKit

section
variable {A β : Type} {encA : A → List Value} {p s2 : Nat} {encB : β → List Value} {e1 e2 : TypeId} {base : Nat} {w w' : World} {v v' : Value} {qs : List (A × Hdr)} {L : List (A × List β)}
theorem OwnN.get (h : OwnN encA (p + 1) s2 encB e1 e2 base w v qs L) {k : Nat} {c : A × List β} (hc : L[k]? = some c) : ∃ hd : Hdr, qs[k]? = some (c.1, hd) ∧ OwnL s2 encB e2 base w hd.val c.2 := by
  obtain ⟨q, hq⟩ : ∃ q, qs[k]? = some q := ⟨qs[k]'(by have := (List.getElem?_eq_some_iff.1 hc).1; have := h.2.1; omega), by simp⟩
  obtain ⟨r1, r2⟩ := h.2.2.1 k q c hq hc
  exact ⟨q.2, by rw [hq, ← r1], r2⟩
/-- one list is put anew: in memory alone -/
theorem OwnN.mod (hne : e1 ≠ e2) (h : OwnN encA (p + 1) s2 encB e1 e2 base w v qs L) {k : Nat} {a : A} {hd hd' : Hdr} {c' : List β} (hq : qs[k]? = some (a, hd)) (ho : OwnL s2 encB e2 base w' hd'.val c')
    (kk : Chg (fun x => x < w.heap.size ∧ ¬ hd.val.ownBlock = some x) w w') (hat : hd'.val.ownBlock = hd.val.ownBlock ∨ ∀ x, hd'.val.ownBlock = some x → w.heap.size ≤ x) :
    OwnW (p + 1) (encP encA) e1 base w' v qs ∧ (∀ (j : Nat) (q : A × Hdr) (c : A × List β), j ≠ k → qs[j]? = some q → L[j]? = some c → q.1 = c.1 ∧ OwnL s2 encB e2 base w' q.2.val c.2) ∧
      (∀ x, hd'.val.ownBlock = some x → ¬ v.ownBlock = some x) ∧ ∀ (j : Nat) (q : A × Hdr) (x : Nat), j ≠ k → qs[j]? = some q → q.2.val.ownBlock = some x → ¬ hd'.val.ownBlock = some x := by
  have ho1 : OwnW (p + 1) (encP encA) e1 base w' v qs := h.1.chg kk (fun x hx hv => ⟨hx, fun hh => h.ne hne hq hh hv⟩)
  refine ⟨ho1, fun j q c hjk hr hc => ?_, fun x hx hv => ?_, fun j q x hjk hr hx hy => ?_⟩
  · obtain ⟨r1, r2⟩ := h.2.2.1 j q c hr hc
    exact ⟨r1, r2.chg kk (fun x hx hv => ⟨hx, fun hh => hjk (h.2.2.2 j k q (a, hd) x hr hq hv hh)⟩)⟩
  · obtain ⟨_, cur, h1⟩ := ho.blk hx
    obtain ⟨_, cur', h2⟩ := ho1.blk hv
    rw [h1] at h2
    simp at h2
    exact hne h2.2.symm
  · rcases hat with h1 | h1
    · exact hjk (h.2.2.2 j k q (a, hd) x hr hq hx (h1 ▸ hy))
    · have := h.lt hr hx
      have := h1 x hy
      omega
/-- .. and its head is stored -/
theorem OwnN.put (hA : ∀ y, (encA y).length = p) (hne : e1 ≠ e2) {g n cap : Nat} (h : OwnN encA (p + 1) s2 encB e1 e2 base w (.slice (some ⟨g, 0, none⟩) n cap) qs L) {k : Nat} {a : A} {hd hd' : Hdr} {c' : List β} (hq : qs[k]? = some (a, hd))
    (ho : OwnL s2 encB e2 base w' hd'.val c') (kk : Chg (fun x => x < w.heap.size ∧ ¬ hd.val.ownBlock = some x) w w') (hat : hd'.val.ownBlock = hd.val.ownBlock ∨ ∀ x, hd'.val.ownBlock = some x → w.heap.size ≤ x) :
    w'.cell? ⟨g, k * (p + 1) + p, none⟩ = some hd.val ∧ w'.frozen? ⟨g, k * (p + 1) + p, none⟩ = false ∧
      OwnN encA (p + 1) s2 encB e1 e2 base (w'.setCell ⟨g, k * (p + 1) + p, none⟩ hd'.val) (.slice (some ⟨g, 0, none⟩) n cap) (qs.set k (a, hd')) (L.set k (a, c')) := by
  obtain ⟨o1, o2, o3, o4⟩ := h.mod hne hq ho kk hat
  have hsz : ∀ y, (encP encA y).length = p + 1 := fun y => by unfold encP; simp [hA]
  obtain ⟨f1, f2, f3⟩ := o1.set1 hsz hq (c := p) (by omega)
  have hkl := (List.getElem?_eq_some_iff.1 hq).1
  have hset : Chg (· ≠ g) w' (w'.setCell ⟨g, k * (p + 1) + p, none⟩ hd'.val) := (Chg.refl _ w').setCell _ (fun x hx => hx)
  have hgb : (Value.slice (some ⟨g, 0, none⟩) n cap).ownBlock = some g := rfl
  refine ⟨?_, f2, f3 (a, hd') hd'.val ?_, by simp [h.2.1], fun j r c hr hc => ?_, fun i j qi qj x hi hj gi gj => ?_⟩
  · rw [f1]
    unfold encP
    rw [List.getElem?_append_right (by rw [hA]; exact Nat.le_refl _), hA, Nat.sub_self]
    rfl
  · unfold encP
    rw [List.set_append_right _ _ (by rw [hA]; exact Nat.le_refl _), hA, Nat.sub_self]
    rfl
  · by_cases hjk : j = k
    · subst hjk
      rw [List.getElem?_set_self hkl] at hr
      rw [List.getElem?_set_self (by rw [← h.2.1]; exact hkl)] at hc
      cases hr
      cases hc
      exact ⟨rfl, ho.chg hset (fun x _ hv => by intro he; subst he; exact o3 _ hv hgb)⟩
    · rw [List.getElem?_set_ne (by omega)] at hr hc
      obtain ⟨r1, r2⟩ := o2 j r c hjk hr hc
      refine ⟨r1, r2.chg hset (fun x _ hv => ?_)⟩
      intro he
      subst he
      exact h.ne hne hr hv hgb
  · by_cases hik : i = k
    · by_cases hjk : j = k
      · omega
      · exfalso
        subst hik
        rw [List.getElem?_set_self hkl] at hi
        cases hi
        rw [List.getElem?_set_ne (by omega)] at hj
        exact o4 j qj x hjk hj gj gi
    · rw [List.getElem?_set_ne (by omega)] at hi
      by_cases hjk : j = k
      · exfalso
        subst hjk
        rw [List.getElem?_set_self hkl] at hj
        cases hj
        exact o4 i qi x hik hi gi gj
      · rw [List.getElem?_set_ne (by omega)] at hj
        exact h.2.2.2 i j qi qj x hi hj gi gj
/-- .. or its head stays as it is -/
theorem OwnN.keep (hne : e1 ≠ e2) (h : OwnN encA (p + 1) s2 encB e1 e2 base w v qs L) {k : Nat} {a : A} {hd : Hdr} {c' : List β} (hq : qs[k]? = some (a, hd)) (ho : OwnL s2 encB e2 base w' hd.val c')
    (kk : Chg (fun x => x < w.heap.size ∧ ¬ hd.val.ownBlock = some x) w w') : OwnN encA (p + 1) s2 encB e1 e2 base w' v qs (L.set k (a, c')) := by
  obtain ⟨o1, o2, o3, o4⟩ := h.mod hne hq ho kk (.inl rfl)
  have hkl := (List.getElem?_eq_some_iff.1 hq).1
  refine ⟨o1, by simp [h.2.1], fun j r c hr hc => ?_, h.2.2.2⟩
  by_cases hjk : j = k
  · subst hjk
    rw [List.getElem?_set_self (by rw [← h.2.1]; exact hkl)] at hc
    obtain rfl : (a, hd) = r := Option.some.inj (hq.symm.trans hr)
    cases hc
    exact ⟨rfl, ho⟩
  · rw [List.getElem?_set_ne (by omega)] at hc
    exact o2 j r c hjk hr hc
theorem get_erase {α : Type} (l : List α) (k i : Nat) : (l.take k ++ l.drop (k + 1))[i]? = if k ≤ l.length then (if i < k then l[i]? else l[i + 1]?) else l[i]? := by
  by_cases hk : k ≤ l.length
  · rw [if_pos hk]
    by_cases hi : i < k
    · rw [if_pos hi, List.getElem?_append_left (by rw [List.length_take]; omega), List.getElem?_take, if_pos hi]
    · rw [if_neg hi, List.getElem?_append_right (by rw [List.length_take]; omega), List.length_take, List.getElem?_drop]
      congr 1
      omega
  · rw [if_neg hk, List.take_of_length_le (by omega), List.drop_of_length_le (by omega), List.append_nil]
/-- one element is taken out -/
theorem OwnN.erase (hne : e1 ≠ e2) (h : OwnN encA (p + 1) s2 encB e1 e2 base w v qs L) {k : Nat} (hk : k < L.length) (ho : OwnW (p + 1) (encP encA) e1 base w' v' (qs.take k ++ qs.drop (k + 1)))
    (kk : Chg (fun x => x < w.heap.size ∧ ¬ v.ownBlock = some x) w w') : OwnN encA (p + 1) s2 encB e1 e2 base w' v' (qs.take k ++ qs.drop (k + 1)) (L.take k ++ L.drop (k + 1)) := by
  have hl := h.2.1
  refine ⟨ho, by simp; omega, fun j q c hq hc => ?_, fun i j qi qj x hi hj gi gj => ?_⟩
  · rw [get_erase, if_pos (by omega)] at hq hc
    have key : ∀ j, qs[j]? = some q → L[j]? = some c → q.1 = c.1 ∧ OwnL s2 encB e2 base w' q.2.val c.2 := fun j hq hc => by
      obtain ⟨r1, r2⟩ := h.2.2.1 j q c hq hc
      exact ⟨r1, r2.chg kk (fun x hx hv => ⟨hx, h.ne hne hq hv⟩)⟩
    split at hq
    · rename_i hj
      rw [if_pos hj] at hc
      exact key j hq hc
    · rename_i hj
      rw [if_neg hj] at hc
      exact key (j + 1) hq hc
  · rw [get_erase, if_pos (by omega)] at hi hj
    split at hi <;> split at hj
    · exact h.2.2.2 i j qi qj x hi hj gi gj
    · have := h.2.2.2 i (j + 1) qi qj x hi hj gi gj; omega
    · have := h.2.2.2 (i + 1) j qi qj x hi hj gi gj; omega
    · have := h.2.2.2 (i + 1) (j + 1) qi qj x hi hj gi gj; omega
/-- a row that was just written out is the call's own -/
theorem OwnL.lit {α : Type} {sz : Nat} {enc : α → List Value} {e : TypeId} {base : Nat} {w : World} (l : List α) (hsz : ∀ y, (enc y).length = sz) (hb : base ≤ w.heap.size) (hl : l.length ≤ maxLen) {cs : Array Value} (hc : cs = (l.flatMap enc).toArray) :
    OwnL sz enc e base (w.alloc (.cells cs e)) (.slice (some ⟨w.heap.size, 0, none⟩) l.length l.length) l := by
  subst hc
  have hf : (l.flatMap enc).length = l.length * sz := flatN_len hsz l
  exact ⟨hf, .inr ⟨w.heap.size, l.length, _, rfl, hb, heap_new w _, Nat.le_refl _, hl, by simp [hf], by simp only [← hf, List.toList_toArray]; exact List.take_length⟩⟩
end
end Go.Proofs.YtjaemckdfoaopaaDoor
