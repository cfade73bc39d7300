/- A list of lists of nodes that the call itself makes. -/
import Derived.Test.YtenobfplmifomaaDoorIdx
namespace Go.Proofs.YtenobfplmifomaaDoor
open Go.RowKit

theorem OwnL.blk {α : Type} {sz e base : Nat} {enc : α → List Value} {w : World} {v : Value} {l : List α} (h : OwnL sz enc e base w v l) {g : Nat} (hg : v.ownBlock = some g) : base ≤ g ∧ ∃ cur, w.heap[g]? = some (.cells cur e (0, 0)) := by
  rcases h.2 with ⟨rfl, _⟩ | ⟨g', cap, cur, rfl, hb, hh, _⟩
  · cases hg
  · obtain rfl : g' = g := by simpa [Value.ownBlock] using hg
    exact ⟨hb, cur, hh⟩
theorem flatH (l : List Hdr) : l.flatMap encH = l.map Hdr.val := by
  induction l with
  | nil => rfl
  | cons c r ih => rw [List.flatMap_cons, ih]; rfl
theorem own_cellH {e : TypeId} {base : Nat} {w : World} {g n cap j : Nat} {l : List Hdr} {q : Hdr} (h : OwnL 1 encH e base w (.slice (some ⟨g, 0, none⟩) n cap) l) (hj : l[j]? = some q) :
    w.cell? ⟨g, j, none⟩ = some q.val ∧ w.frozen? ⟨g, j, none⟩ = false ∧ ∀ y : Hdr, OwnL 1 encH e base (w.setCell ⟨g, j, none⟩ y.val) (.slice (some ⟨g, 0, none⟩) n cap) (l.set j y) := by
  rcases h.2 with ⟨h1, _⟩ | ⟨g', cap', cur, e1, e2, e3, e4, e5, e6, e7⟩
  · cases h1
  · cases e1
    have hjl := (List.getElem?_eq_some_iff.1 hj).1
    have hjc : j < cur.size := by omega
    rw [flatH] at e7
    refine ⟨?_, ?_, fun y => ⟨?_, .inr ⟨g, cap, cur.setIfInBounds j y.val, by simp, e2, heap_set e3 j _, by simpa using e4, e5, by simpa using e6, ?_⟩⟩⟩
    · have hx : (cur.toList.take (l.length * 1))[j]? = some q.val := by
        rw [e7, List.getElem?_map, hj]; rfl
      rw [List.getElem?_take, if_pos (by omega)] at hx
      simpa [World.cell?, e3] using hx
    · simp [World.frozen?, e3]
    · rw [flatH]; simp
    · rw [flatH, List.length_set, Array.toList_setIfInBounds, List.take_set, e7, List.map_set]

def OwnQ (base : Nat) (w : World) (v : Value) (qs : List Hdr) (C : List (List Nd)) : Prop :=
  OwnL 1 encH 39 base w v qs ∧ qs.length = C.length ∧
  (∀ (j : Nat) (q : Hdr) (c : List Nd), qs[j]? = some q → C[j]? = some c → OwnL 3 encN 48 base w q.val c) ∧
  ∀ (i j : Nat) (qi qj : Hdr) (g : Nat), qs[i]? = some qi → qs[j]? = some qj → qi.val.ownBlock = some g → qj.val.ownBlock = some g → i = j
theorem OwnQ.nil (base : Nat) (w : World) : OwnQ base w (.slice none 0 0) [] [] := ⟨OwnL.nil _ _ _ _ _, rfl, by intro j q c h; simp at h, by intro i j qi qj g h; simp at h⟩
theorem OwnQ.nx {base : Nat} {w w' : World} {v : Value} {qs : List Hdr} {C : List (List Nd)} (h : OwnQ base w v qs C) (k : Ex w w') : OwnQ base w' v qs C :=
  ⟨h.1.nx k, h.2.1, fun j q c hq hc => (h.2.2.1 j q c hq hc).nx k, h.2.2.2⟩
theorem OwnQ.ne {base : Nat} {w : World} {v : Value} {qs : List Hdr} {C : List (List Nd)} (h : OwnQ base w v qs C) {j g : Nat} {q : Hdr} (hq : qs[j]? = some q) (hg : q.val.ownBlock = some g) : ¬ v.ownBlock = some g := by
  intro hv
  obtain ⟨c, hc⟩ : ∃ c, C[j]? = some c := ⟨C[j]'(by have := (List.getElem?_eq_some_iff.1 hq).1; have := h.2.1; omega), by simp⟩
  obtain ⟨_, cur, h1⟩ := (h.2.2.1 j q c hq hc).blk hg
  obtain ⟨_, cur', h2⟩ := h.1.blk hv
  rw [h1] at h2
  simp at h2
theorem OwnQ.lt {base : Nat} {w : World} {v : Value} {qs : List Hdr} {C : List (List Nd)} (h : OwnQ base w v qs C) {j g : Nat} {q : Hdr} (hq : qs[j]? = some q) (hg : q.val.ownBlock = some g) : g < w.heap.size := by
  obtain ⟨c, hc⟩ : ∃ c, C[j]? = some c := ⟨C[j]'(by have := (List.getElem?_eq_some_iff.1 hq).1; have := h.2.1; omega), by simp⟩
  obtain ⟨_, cur, h1⟩ := (h.2.2.1 j q c hq hc).blk hg
  exact heap_lt h1
/-- an empty list is appended -/
theorem OwnQ.pad {base : Nat} {w w' : World} {v v' : Value} {qs : List Hdr} {C : List (List Nd)} (h : OwnQ base w v qs C) (ho : OwnL 1 encH 39 base w' v' (qs ++ [((none, 0, 0) : Hdr)]))
    (k : Chg (fun k => k < w.heap.size ∧ ¬ v.ownBlock = some k) w w') : OwnQ base w' v' (qs ++ [((none, 0, 0) : Hdr)]) (C ++ [[]]) := by
  refine ⟨ho, by simp [h.2.1], fun j q c hq hc => ?_, fun i j qi qj g hi hj gi gj => ?_⟩
  · rcases Nat.lt_or_ge j qs.length with hl | hl
    · rw [List.getElem?_append_left hl] at hq
      rw [List.getElem?_append_left (by rw [← h.2.1]; exact hl)] at hc
      exact (h.2.2.1 j q c hq hc).chg k (fun x hx hv => ⟨hx, h.ne hq hv⟩)
    · obtain rfl : j = qs.length := by have := (List.getElem?_eq_some_iff.1 hq).1; simp at this; omega
      simp at hq
      rw [h.2.1] at hc
      simp at hc
      subst hq hc
      exact OwnL.nil _ _ _ _ _
  · have hn : ∀ (i : Nat) (q : Hdr), (qs ++ [((none, 0, 0) : Hdr)])[i]? = some q → q.val.ownBlock = some g → qs[i]? = some q := by
      intro i q hq hg
      rcases Nat.lt_or_ge i qs.length with hl | hl
      · rw [List.getElem?_append_left hl] at hq; exact hq
      · obtain rfl : i = qs.length := by have := (List.getElem?_eq_some_iff.1 hq).1; simp at this; omega
        simp at hq
        subst hq
        cases hg
    exact h.2.2.2 i j qi qj g (hn i qi hi gi) (hn j qj hj gj) gi gj
/-- one list is put anew -/
theorem OwnQ.put {base : Nat} {w1 w2 : World} {g n cap k : Nat} {qs : List Hdr} {C : List (List Nd)} {q q' : Hdr} {c' : List Nd} (h : OwnQ base w1 (.slice (some ⟨g, 0, none⟩) n cap) qs C) (hq : qs[k]? = some q)
    (ho : OwnL 3 encN 48 base w2 q'.val c') (kk : Chg (fun x => x < w1.heap.size ∧ ¬ q.val.ownBlock = some x) w1 w2) (hat : q'.val.ownBlock = q.val.ownBlock ∨ q'.val.ownBlock = some w1.heap.size) :
    w2.cell? ⟨g, k, none⟩ = some q.val ∧ w2.frozen? ⟨g, k, none⟩ = false ∧ OwnQ base (w2.setCell ⟨g, k, none⟩ q'.val) (.slice (some ⟨g, 0, none⟩) n cap) (qs.set k q') (C.set k c') := by
  have hg1 : ∀ (j : Nat) (q : Hdr) (x : Nat), qs[j]? = some q → q.val.ownBlock = some x → x ≠ g := fun j q x hj hx he => h.ne hj hx (by rw [he]; rfl)
  have ho1 : OwnL 1 encH 39 base w2 (.slice (some ⟨g, 0, none⟩) n cap) qs := h.1.chg kk (fun x hx hv => ⟨hx, fun hh => h.ne hq hh hv⟩)
  obtain ⟨f1, f2, f3⟩ := own_cellH ho1 hq
  have hne' : ∀ x, q'.val.ownBlock = some x → x ≠ g := by
    intro x hx he
    obtain ⟨_, cur, e1⟩ := ho.blk hx
    obtain ⟨_, cur', e2⟩ := ho1.blk (g := g) rfl
    rw [he, e2] at e1
    simp at e1
  have hset : Chg (· ≠ g) w2 (w2.setCell ⟨g, k, none⟩ q'.val) := (Chg.refl _ w2).setCell _ (fun x hx => hx)
  have hkl := (List.getElem?_eq_some_iff.1 hq).1
  refine ⟨f1, f2, f3 q', by simp [h.2.1], fun j r c hr hc => ?_, fun i j qi qj x hi hj gi gj => ?_⟩
  · by_cases hjk : j = k
    · subst hjk
      rw [List.getElem?_set_self hkl] at hr
      rw [List.getElem?_set_self (by rw [← h.2.1]; exact hkl)] at hc
      cases hr
      cases hc
      exact ho.chg hset (fun x _ hv => hne' x hv)
    · rw [List.getElem?_set_ne (by omega)] at hr hc
      have o1 := h.2.2.1 j r c hr hc
      have o2 : OwnL 3 encN 48 base w2 r.val c := o1.chg kk (fun x hx hv => ⟨hx, fun hh => hjk (h.2.2.2 j k r q x hr hq hv hh)⟩)
      exact o2.chg hset (fun x _ hv => hg1 j r x hr hv)
  · have key : ∀ (j : Nat) (qj : Hdr), j ≠ k → qs[j]? = some qj → qj.val.ownBlock = some x → q'.val.ownBlock = some x → False := by
      intro j qj hjk hj gj gk
      rcases hat with h1 | h1
      · exact hjk (h.2.2.2 j k qj q x hj hq gj (h1 ▸ gk))
      · have := h.lt hj gj
        rw [h1] at gk
        cases gk
        omega
    by_cases hik : i = k
    · by_cases hjk : j = k
      · omega
      · exfalso
        subst hik
        rw [List.getElem?_set_self hkl] at hi
        cases hi
        rw [List.getElem?_set_ne (by omega)] at hj
        exact key j qj hjk hj gj gi
    · rw [List.getElem?_set_ne (by omega)] at hi
      by_cases hjk : j = k
      · exfalso
        subst hjk
        rw [List.getElem?_set_self hkl] at hj
        cases hj
        exact key i qi hik hi gi gj
      · rw [List.getElem?_set_ne (by omega)] at hj
        exact h.2.2.2 i j qi qj x hi hj gi gj
theorem OwnQ.ll {base : Nat} {w : World} {v : Value} {qs : List Hdr} {C : List (List Nd)} (h : OwnQ base w v qs C) :
    ∃ a cap, v = .slice a C.length cap ∧ LL w a C.length C ∧ C.length ≤ cap ∧ cap ≤ maxLen ∧ (C ≠ [] → ∃ g, a = some ⟨g, 0, none⟩ ∧ base ≤ g) := by
  obtain ⟨a, cap, e, r, c1, c2, c3⟩ := h.1.rd (fun _ => rfl)
  rw [h.2.1] at e r c1
  refine ⟨a, cap, e, ⟨qs, Rd.mono r (fun _ hk => hk.2), rfl, fun j q c hq hc => ?_⟩, c1, c2, fun hC => c3 (fun h0 => hC ?_)⟩
  · obtain ⟨a', cap', e', r', _⟩ := (h.2.2.1 j q c hq hc).rd (fun _ => rfl)
    obtain ⟨q1, q2, q3⟩ := q
    simp only [Hdr.val, Value.slice.injEq] at e'
    obtain ⟨rfl, rfl, rfl⟩ := e'
    exact Rd.mono r' (fun _ hk => hk.2)
  · have := h.2.1
    rw [h0] at this
    exact List.eq_nil_of_length_eq_zero this.symm

/-! ### The classes -/
def padC (C : List (List Nd)) (k : Nat) : List (List Nd) := if k = C.length then C ++ [[]] else C
def stepC (h : Int) (C : List (List Nd)) (x : Nd) : List (List Nd) :=
  (padC C (idxC C x.word h)).set (idxC C x.word h) ((padC C (idxC C x.word h))[idxC C x.word h]?.getD [] ++ [x])
def classesN (l : List Nd) (h : Int) : List (List Nd) := if 16 < h then [] else l.foldl (stepC h) []
def foldC (h : Int) (l : List Nd) : List (List Nd) := l.foldl (stepC h) []
theorem foldC_snoc (h : Int) (l : List Nd) (k : Nat) (y : Nd) (hy : l[k]? = some y) : foldC h (l.take (k + 1)) = stepC h (foldC h (l.take k)) y := by
  unfold foldC
  rw [take_snocN l k y hy, List.foldl_append]
  rfl
theorem padC_length (C : List (List Nd)) (k : Nat) : C.length ≤ (padC C k).length ∧ (padC C k).length ≤ C.length + 1 := by
  unfold padC
  split <;> simp
theorem stepC_length (h : Int) (C : List (List Nd)) (x : Nd) : (stepC h C x).length ≤ C.length + 1 := by
  unfold stepC
  rw [List.length_set]
  exact (padC_length _ _).2
theorem foldC_length (h : Int) (l : List Nd) : (foldC h l).length ≤ l.length := by
  have : ∀ (l : List Nd) (C : List (List Nd)), (l.foldl (stepC h) C).length ≤ C.length + l.length := by
    intro l
    induction l with
    | nil => intro C; simp
    | cons x r ih => intro C; have := ih (stepC h C x); have := stepC_length h C x; simp at *; omega
  have := this l []
  simpa [foldC] using this
/-- lists that are not empty, of nodes of a list, none longer than it -/
def Fine (n : Nat) (P : Nd → Prop) (C : List (List Nd)) : Prop := ∀ c ∈ C, 0 < c.length ∧ c.length ≤ n ∧ ∀ y ∈ c, P y
theorem stepC_fine {h : Int} {n : Nat} {P : Nd → Prop} {C : List (List Nd)} {x : Nd} (hC : Fine n P C) (hx : P x) : Fine (n + 1) P (stepC h C x) := by
  intro c hc
  unfold stepC at hc
  have hpad : ∀ c, c ∈ padC C (idxC C x.word h) → c ∈ C ∨ c = [] := by
    intro c hc
    unfold padC at hc
    split at hc
    · rcases List.mem_append.1 hc with h | h
      · exact .inl h
      · exact .inr (List.mem_singleton.1 h)
    · exact .inl hc
  rcases List.mem_or_eq_of_mem_set hc with hm | rfl
  · by_cases hin : c ∈ C
    · have := hC c hin
      exact ⟨this.1, by omega, this.2.2⟩
    · -- the empty list that was put in was replaced
      exfalso
      rcases hpad c hm with h1 | h1
      · exact hin h1
      · subst h1
        obtain ⟨j, hj, he⟩ := List.mem_iff_getElem.1 hc
        rw [List.getElem_set] at he
        split at he
        · simp at he
        · rename_i hne
          have hjl : j < (padC C (idxC C x.word h)).length := by rw [List.length_set] at hj; exact hj
          by_cases hi : idxC C x.word h = C.length
          · have hp : padC C (idxC C x.word h) = C ++ [[]] := by unfold padC; rw [if_pos hi]
            have hjC : j < C.length := by rw [hp] at hjl; simp at hjl; omega
            have : C[j] = [] := by
              have h2 : (padC C (idxC C x.word h))[j]? = some [] := by rw [List.getElem?_eq_getElem hjl, he]
              rw [hp, List.getElem?_append_left hjC, List.getElem?_eq_getElem hjC] at h2
              exact Option.some.inj h2
            exact hin (this ▸ List.getElem_mem hjC)
          · have hp : padC C (idxC C x.word h) = C := by unfold padC; rw [if_neg hi]
            rw [hp] at hm
            exact hin hm
  · have hg : ∀ o : Option (List Nd), (∀ c, o = some c → c ∈ C ∨ c = []) → (o.getD []).length ≤ n ∧ ∀ y ∈ o.getD [], P y := by
      intro o ho
      cases o with
      | none => simp
      | some c =>
        rcases ho c rfl with h | h
        · exact ⟨(hC c h).2.1, (hC c h).2.2⟩
        · subst h; simp
    obtain ⟨g1, g2⟩ := hg _ (fun c hc => hpad c (List.mem_of_getElem? hc))
    refine ⟨by simp, by simp; exact g1, fun y hy => ?_⟩
    rcases List.mem_append.1 hy with h | h
    · exact g2 y h
    · rw [List.mem_singleton.1 h]; exact hx
theorem foldC_fine {h : Int} {P : Nd → Prop} (l : List Nd) (hP : ∀ y ∈ l, P y) : Fine l.length P (foldC h l) := by
  have : ∀ (l : List Nd) (n : Nat) (C : List (List Nd)), (∀ y ∈ l, P y) → Fine n P C → Fine (n + l.length) P (l.foldl (stepC h) C) := by
    intro l
    induction l with
    | nil => intro n C _ hC; exact hC
    | cons x r ih =>
      intro n C hl hC
      have := ih (n + 1) (stepC h C x) (fun y hy => hl y (List.mem_cons_of_mem _ hy)) (stepC_fine hC (hl x (List.mem_cons_self ..)))
      rw [List.length_cons, show n + (r.length + 1) = n + 1 + r.length by omega]
      exact this
  have := this l 0 [] hP (by intro c hc; simp at hc)
  rw [Nat.zero_add] at this
  exact this
end Go.Proofs.YtenobfplmifomaaDoor
