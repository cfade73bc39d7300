/- The walk over WireNumbers. -/
import Derived.Test.YtjaemckdfoaopaaWireSane
import Derived.ArgAppend
namespace Go.Proofs.Ytjaemckdfoaopaa
open Go.RowKit

theorem wpList_want {P : Program} {ops : Array Oper} {rest : List Oper} {o : Oper} {a : Act} {w : World} {Q : Exit → Act → World → Prop} (hw : Region.wanted o (yielded ops a.tmps) = true)
    (h : ∀ K : Act → World → Prop, (∀ a w, wpList P ops Q rest a w → K a w) → o.wp P a w K Q) : wpList P ops Q (o :: rest) a w :=
  wpList_step fun K hK => by simp only [hw, if_true]; exact h K hK
theorem OwnL.base {α : Type} {sz e base base' : Nat} {enc : α → List Value} {w : World} {v : Value} {l : List α} (h : OwnL sz enc e base w v l) (hb : base' ≤ base) : OwnL sz enc e base' w v l := by
  refine ⟨h.1, ?_⟩
  rcases h.2 with h2 | ⟨g, cap, cur, e1, e2, rest⟩
  · exact .inl h2
  · exact .inr ⟨g, cap, cur, e1, by omega, rest⟩
theorem flat_len {α : Type} {sz : Nat} {enc : α → List Value} (h : ∀ y, (enc y).length = sz) (l : List α) : (l.flatMap enc).length = l.length * sz := by
  induction l with
  | nil => simp
  | cons y r ih => rw [List.flatMap_cons, List.length_append, h, ih, List.length_cons, Nat.succ_mul]; omega
theorem Sl.flat {α : Type} {sz n : Nat} {enc : α → List Value} {w : World} {x o : Nat} {l : List α} (hlen : ∀ y, (enc y).length = sz) (hsz : 0 < sz) (h : Sl sz enc w (some ⟨x, o, none⟩) n l) :
    ∀ j u, (l.flatMap enc)[j]? = some u → w.cell? ⟨x, o + j, none⟩ = some u := by
  intro j u hu
  have hj := (List.getElem?_eq_some_iff.1 hu).1
  rcases h.2 with h0 | ⟨x', o', e1, _, e3⟩
  · have : l = [] := List.eq_nil_of_length_eq_zero (h.1.trans h0)
    subst this
    simp at hj
  · cases e1
    have hdiv : ∀ (l : List α) (j : Nat), (l.flatMap enc)[j]? = some u → ∃ y, l[j / sz]? = some y ∧ (enc y)[j % sz]? = some u := by
      intro l
      induction l with
      | nil => intro j hu; simp at hu
      | cons y r ih =>
        intro j hu
        rw [List.flatMap_cons] at hu
        by_cases hlt : j < sz
        · rw [List.getElem?_append_left (by rw [hlen]; exact hlt)] at hu
          exact ⟨y, by rw [Nat.div_eq_of_lt hlt]; rfl, by rw [Nat.mod_eq_of_lt hlt]; exact hu⟩
        · rw [List.getElem?_append_right (by rw [hlen]; omega), hlen] at hu
          obtain ⟨y', h1', h2'⟩ := ih (j - sz) hu
          have e1 : j / sz = (j - sz) / sz + 1 := by rw [Nat.div_eq_sub_div hsz (by omega)]
          have e2 : j % sz = (j - sz) % sz := by rw [Nat.mod_eq_sub_mod (by omega)]
          exact ⟨y', by rw [e1]; simpa using h1', by rw [e2]; exact h2'⟩
    obtain ⟨y, hy1, hy2⟩ := hdiv l j hu
    have := e3 _ y hy1 _ u hy2
    rw [Nat.add_assoc, Nat.mul_comm, Nat.div_add_mod] at this
    exact this

/-- append of some elements that were just written out to a slice without room: a new one -/
theorem wpList_append_full {P : Program} {α : Type} {enc : α → List Value} {ops : Array Oper} {rest : List Oper} {o : Oper} {a : Act} {Q : Exit → Act → World → Prop} (w0 : World) (hgd : Region.wanted o (yielded ops a.tmps) = true) (s x : Operand) (t : TypeId)
    (ho : o.op = .call { callee := .builtin .append, args := #[s, x], argTypes := #[t, t] })
    (e : TypeId) (z : Value) (sz bytes : Nat) (ht : P.underlying t = some (.slice e)) (hi : (P.info? e).map (fun i => (i.zero, i.size, i.bytes)) = some (some z, sz, bytes))
    (hzs : z.cells.size = sz) (hsz : 0 < sz) (hby : bytes ≤ 65536)
    (A : Option Addr) (n : Nat) (l : List α) (h : Sl sz enc w0 A n l) (hnone : A = none → n = 0) (hs : a.eval s = .slice A n n) (news : List α) (cs : Array Value) (hcs : cs = (news.flatMap enc).toArray)
    (hlen : ∀ y, (enc y).length = sz) (h1 : ∀ y, ∀ u ∈ enc y, u.oneCell' = true)
    (k m : Nat) (hk : k = w0.heap.size) (hx : a.eval x = .slice (some ⟨k, 0, none⟩) m m) (hm : news.length = m) (hm0 : 0 < m) (hl : n ≤ 1000000) (hm1 : m ≤ 1000000) (e' : TypeId)
    (hK : ∀ v' w', OwnL sz enc e w0.heap.size w' v' (l ++ news) → Ex w0 w' → wpList P ops Q rest (a.put o.dst v') w') :
    wpList P ops Q (o :: rest) a (w0.alloc (.cells cs e')) := by
  subst hcs hk
  have hnl := h.len
  have hal := Ex.new w0 (.cells (news.flatMap enc).toArray e')
  have h2 := h.nx hal
  obtain ⟨i, hi, hz0, hz1, hz2⟩ := info_parts hi
  have hmul : (n + m) * bytes ≤ 2000000 * 65536 := Nat.mul_le_mul (by omega) hby
  have hnew : ∀ j u, (news.flatMap enc)[j]? = some u → (w0.alloc (.cells (news.flatMap enc).toArray e')).cell? ((⟨w0.heap.size, 0, none⟩ : Addr).add j) = some u := by
    intro j u hu
    rw [Addr.add_lit]
    simp only [Nat.zero_add]
    rw [World.cell?, heap_new]
    simpa using hu
  refine wpList_want hgd fun K hK' => ?_
  have fin : ∀ v' w', w'.ownsRow (w0.alloc (.cells (news.flatMap enc).toArray e')).heap.size e sz v' (n + m) (l.flatMap enc ++ news.flatMap enc) → (w0.alloc (.cells (news.flatMap enc).toArray e')).grownBy w' none → K (a.put o.dst v') w' := by
    intro v' w' ho hg
    refine hK' _ _ (hK v' w' ?_ ?_)
    · have : OwnL sz enc e (w0.alloc (.cells (news.flatMap enc).toArray e')).heap.size w' v' (l ++ news) := by
        unfold OwnL
        rw [List.length_append, hnl, hm, List.flatMap_append]
        exact ho
      exact this.base (by simp)
    · exact hal.nx ⟨hg.os, hg.tape, hg.output, hg.size, fun k hk => hg.block k hk (by simp)⟩
  cases A with
  | some b =>
    have hb : b = ⟨b.block, b.off, none⟩ ∨ n = 0 := by
      rcases h.2 with h0 | ⟨x, o, e1, _⟩
      · exact .inr h0
      · cases e1; exact .inl rfl
    have holds : ∀ j u, (l.flatMap enc)[j]? = some u → (w0.alloc (.cells (news.flatMap enc).toArray e')).cell? (b.add j) = some u := by
      intro j u hu
      rcases hb with hb | hb
      · rw [hb] at h2 ⊢
        have := h2.flat hlen hsz j u hu
        rw [Addr.add_lit]; exact this
      · have : l = [] := List.eq_nil_of_length_eq_zero (hnl.trans hb)
        subst this
        simp at hu
    obtain ⟨v', w', hrun, r1, r2⟩ := run_append_arg_grows (P := P) _ t o.type e i z sz bytes ht hi hz0 hz1 hz2 hzs hsz b n n (l.flatMap enc) (by rw [flat_len hlen, hnl]) holds ⟨w0.heap.size, 0, none⟩ m m (news.flatMap enc) (by rw [flat_len hlen, hm]) hnew (by omega) (by unfold maxLen; omega) (by omega)
    unfold Oper.wp
    simp [execOp, ho, resolve, invoke, builtin, hs, hx, hrun, Result.andThen]
    exact fin v' w' r1 r2
  | none =>
    obtain rfl := hnone rfl
    obtain rfl : l = [] := List.eq_nil_of_length_eq_zero hnl
    obtain ⟨v', w', hrun, r1, r2, _⟩ := run_append_own (P := P) _ (w0.alloc (.cells (news.flatMap enc).toArray e')).heap.size t o.type e i z sz bytes ht hi hz0 hz1 hz2 hzs hsz (.slice none 0 0) 0 [] (World.ownsRow_nil _ _ e sz) ⟨w0.heap.size, 0, none⟩ m m (news.flatMap enc) (by rw [flat_len hlen, hm]) hnew (by
      intro u hu
      obtain ⟨y, _, hy⟩ := List.mem_flatMap.1 hu
      exact h1 y u hy) (by unfold maxLen; omega) (by omega) (Nat.le_refl _)
    unfold Oper.wp
    simp [execOp, ho, resolve, invoke, builtin, hs, hx, hrun, Result.andThen]
    exact fin v' w' (by simpa using r1) r2
end Go.Proofs.Ytjaemckdfoaopaa
