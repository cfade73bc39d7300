/- Texts for the statement WireNodesProof, part 3 of 12: RowW, Nest, OwnC, ClsB. -/
import Derived.ArgAppend
import Derived.Test.YtjaemckdfoaopaaDoorWireNodesProofPk2

/- A row of the call's own whose block may be larger than its slice says. -/
namespace Go.Proofs.YtjaemckdfoaopaaDoor
open Go.RowKit

theorem flatW_len {α : Type} {sz : Nat} {enc : α → List Value} (h : ∀ y, (enc y).length = sz) (l : List α) : (l.flatMap enc).length = l.length * sz := by
  induction l with
  | nil => simp
  | cons y r ih => rw [List.flatMap_cons, List.length_append, h, ih, List.length_cons, Nat.succ_mul]; omega
theorem Sl.flatW {α : Type} {sz n : Nat} {enc : α → List Value} {w : World} {x o : Nat} {l : List α} (hlen : ∀ y, (enc y).length = sz) (hsz : 0 < sz) (h : Sl sz enc w (some ⟨x, o, none⟩) n l) :
    ∀ j u, (l.flatMap enc)[j]? = some u → w.cell? ⟨x, o + j, none⟩ = some u := by
  intro j u hu
  have hj := (List.getElem?_eq_some_iff.1 hu).1
  rcases h.2 with h0 | ⟨x', o', e1, _, e3⟩
  · have : l = [] := List.eq_nil_of_length_eq_zero (h.1.trans h0)
    subst this
    simp at hj
  · cases e1
    have hdiv : ∀ (l : List α) (j : Nat), (l.flatMap enc)[j]? = some u → ∃ y, l[j / sz]? = some y ∧ (enc y)[j % sz]? = some u := by
      intro l
      induction l with
      | nil => intro j hu; simp at hu
      | cons y r ih =>
        intro j hu
        rw [List.flatMap_cons] at hu
        by_cases hlt : j < sz
        · rw [List.getElem?_append_left (by rw [hlen]; exact hlt)] at hu
          exact ⟨y, by rw [Nat.div_eq_of_lt hlt]; rfl, by rw [Nat.mod_eq_of_lt hlt]; exact hu⟩
        · rw [List.getElem?_append_right (by rw [hlen]; omega), hlen] at hu
          obtain ⟨y', h1', h2'⟩ := ih (j - sz) hu
          have e1 : j / sz = (j - sz) / sz + 1 := by rw [Nat.div_eq_sub_div hsz (by omega)]
          have e2 : j % sz = (j - sz) % sz := by rw [Nat.mod_eq_sub_mod (by omega)]
          exact ⟨y', by rw [e1]; simpa using h1', by rw [e2]; exact h2'⟩
    obtain ⟨y, hy1, hy2⟩ := hdiv l j hu
    have := e3 _ y hy1 _ u hy2
    rw [Nat.add_assoc, Nat.mul_comm, Nat.div_add_mod] at this
    exact this


section
variable {α : Type} {sz : Nat} {enc : α → List Value} {e : TypeId} {base : Nat} {w w' : World} {v : Value} {l : List α}
def OwnW (sz : Nat) (enc : α → List Value) (e : TypeId) (base : Nat) (w : World) (v : Value) (l : List α) : Prop :=
  (v = .slice none 0 0 ∧ l = []) ∨ ∃ (g cap : Nat) (cur : Array Value), v = .slice (some ⟨g, 0, none⟩) l.length cap ∧ base ≤ g ∧ w.heap[g]? = some (.cells cur e (0, 0)) ∧ l.length ≤ cap ∧ cap ≤ maxLen ∧ cap * sz ≤ cur.size ∧ cur.toList.take (l.length * sz) = l.flatMap enc
theorem OwnL.toW (h : OwnL sz enc e base w v l) : OwnW sz enc e base w v l := by
  rcases h.2 with ⟨h1, h2⟩ | ⟨g, cap, cur, h1, h2, h3, h4, h5, h6, h7⟩
  · exact .inl ⟨h1, List.eq_nil_of_length_eq_zero h2⟩
  · exact .inr ⟨g, cap, cur, h1, h2, h3, h4, h5, Nat.le_of_eq h6.symm, h7⟩
theorem OwnW.nil (sz : Nat) (enc : α → List Value) (e : TypeId) (base : Nat) (w : World) : OwnW sz enc e base w (.slice none 0 0) [] := .inl ⟨rfl, rfl⟩
theorem OwnW.blk (h : OwnW sz enc e base w v l) {g : Nat} (hg : v.ownBlock = some g) : base ≤ g ∧ ∃ cur, w.heap[g]? = some (.cells cur e (0, 0)) := by
  rcases h with ⟨rfl, _⟩ | ⟨g', cap, cur, rfl, hb, hh, _⟩
  · cases hg
  · obtain rfl : g' = g := by simpa [Value.ownBlock] using hg
    exact ⟨hb, cur, hh⟩
theorem OwnW.chg (h : OwnW sz enc e base w v l) {S : Nat → Prop} (k : Chg S w w') (hs : ∀ x, x < w.heap.size → v.ownBlock = some x → S x) : OwnW sz enc e base w' v l := by
  rcases h with h | ⟨g, cap, cur, rfl, hb, hh, rest⟩
  · exact .inl h
  · exact .inr ⟨g, cap, cur, rfl, hb, (k.block g (hs g (heap_lt hh) rfl)).trans hh, rest⟩
theorem OwnW.nx (h : OwnW sz enc e base w v l) (k : Ex w w') : OwnW sz enc e base w' v l := h.chg k (fun _ hx _ => hx)
theorem OwnW.nxb {b : Nat} (h : OwnW sz enc e base w v l) (hb : b < base) (k : Exb b w w') : OwnW sz enc e base w' v l := h.chg k (fun x hx hv => ⟨hx, by have := (h.blk hv).1; omega⟩)
theorem OwnW.lower {base' : Nat} (h : OwnW sz enc e base w v l) (hb : base' ≤ base) : OwnW sz enc e base' w v l := by
  rcases h with h | ⟨g, cap, cur, h1, h2, rest⟩
  · exact .inl h
  · exact .inr ⟨g, cap, cur, h1, by omega, rest⟩
theorem OwnW.rd (h : OwnW sz enc e base w v l) (hsz : ∀ y, (enc y).length = sz) :
    ∃ a cap, v = .slice a l.length cap ∧ Rd sz enc (fun k => base ≤ k ∧ k < w.heap.size) w a l.length l ∧ l.length ≤ cap ∧ cap ≤ maxLen ∧ (l ≠ [] → ∃ g, a = some ⟨g, 0, none⟩ ∧ base ≤ g) ∧ (a = none → cap = 0) := by
  rcases h with ⟨rfl, rfl⟩ | ⟨g, cap, cur, rfl, hb, hg, h1, h2, h3, h4⟩
  · exact ⟨none, 0, rfl, Rd.nil _ _ _ _ _, by simp, by unfold maxLen; omega, fun h => absurd rfl h, fun _ => rfl⟩
  · refine ⟨_, cap, rfl, (Rd.block l hg rfl hsz (fun i u hu => ?_)).mono (fun k hk => by subst hk; exact ⟨hb, heap_lt hg⟩), h1, h2, fun _ => ⟨g, rfl, hb⟩, fun h => by cases h⟩
    rw [← h4, List.getElem?_take] at hu
    split at hu
    · simpa using hu
    · cases hu
/-- its first m elements, without room -/
theorem OwnW.cut (hsz : ∀ y, (enc y).length = sz) {g n cap m : Nat} (h : OwnW sz enc e base w (.slice (some ⟨g, 0, none⟩) n cap) l) (hm : m ≤ n) : OwnW sz enc e base w (.slice (some ⟨g, 0, none⟩) m m) (l.take m) := by
  rcases h with ⟨h1, _⟩ | ⟨g', cap', cur, e1, e2, e3, e4, e5, e6, e7⟩
  · cases h1
  · obtain ⟨rfl, rfl, rfl⟩ : g = g' ∧ n = l.length ∧ cap = cap' := by simpa using e1
    have hml : (l.take m).length = m := by rw [List.length_take]; omega
    refine .inr ⟨g, m, cur, by rw [hml], e2, e3, by rw [hml]; exact Nat.le_refl _, by omega, Nat.le_trans (Nat.mul_le_mul_right _ (by omega)) e6, ?_⟩
    rw [hml, flatN_take hsz, ← e7, List.take_take, Nat.min_eq_left (Nat.mul_le_mul_right _ hm)]
/-- append of what reads as a list -/
theorem wp_append_W {P : Program} {o : Oper} {a : Act} {K : Act → World → Prop} {Q : Exit → Act → World → Prop} (w : World) (s x : Operand) (t : TypeId)
    (ho : o.op = .call { callee := .builtin .append, args := #[s, x], argTypes := #[t, t] })
    (base : Nat) (e : TypeId) (z : Value) (sz bytes : Nat) (ht : P.underlying t = some (.slice e)) (hi : (P.info? e).map (fun i => (i.zero, i.size, i.bytes)) = some (some z, sz, bytes))
    (hzs : z.cells.size = sz) (hsz : 0 < sz) (hby : bytes ≤ 65536)
    (v : Value) (l : List α) (hown : OwnW sz enc e base w v l) (hs : a.eval s = v) (A : Addr) (n c : Nat) (news : List α) (hrd : Sl sz enc w (some A) n news) (hlen : ∀ y, (enc y).length = sz) (h1 : ∀ y, ∀ u ∈ enc y, u.oneCell' = true)
    (hx : a.eval x = .slice (some A) n c) (hl : l.length ≤ 1000000) (hn : n ≤ 1000000) (hbase : base ≤ w.heap.size)
    (h : ∀ v' w', OwnW sz enc e base w' v' (l ++ news) → Chg (fun k => k < w.heap.size ∧ ¬ v.ownBlock = some k) w w' → Chg (· < base) w w' → (v'.ownBlock = v.ownBlock ∨ ∀ g, v'.ownBlock = some g → w.heap.size ≤ g) → K (a.put o.dst v') w') :
    o.wp P a w K Q := by
  obtain ⟨i, hi, hz0, hz1, hz2⟩ := info_parts hi
  have hnl := hrd.len
  have hmul : (l.length + n) * bytes ≤ 2000000 * 65536 := Nat.mul_le_mul (by omega) hby
  have hnew : ∀ j u, (news.flatMap enc)[j]? = some u → w.cell? (A.add j) = some u := by
    intro j u hu
    rcases hrd.2 with h0 | ⟨x, o, e1, _, _⟩
    · have : news = [] := List.eq_nil_of_length_eq_zero (hnl.trans h0)
      subst this
      simp at hu
    · cases e1
      rw [Addr.add_lit]
      exact hrd.flatW hlen hsz j u hu
  have hnf : (news.flatMap enc).length = n * sz := by rw [flatW_len hlen, hnl]
  have h1f : ∀ u ∈ news.flatMap enc, u.oneCell' = true := fun u hu => by
    obtain ⟨y, _, hy⟩ := List.mem_flatMap.1 hu
    exact h1 y u hy
  have close : ∀ v' w', (Builtin.append_ #[t, t] o.type #[v, .slice (some A) n c]).run P w = .ok v' w' → K (a.put o.dst v') w' → o.wp P a w K Q := by
    intro v' w' hrun hK
    unfold Oper.wp
    simp [execOp, ho, resolve, invoke, builtin, hs, hx, hrun, Result.andThen]
    exact hK
  have fresh : ∀ v' w', w'.ownsRow w.heap.size e sz v' (l.length + n) (l.flatMap enc ++ news.flatMap enc) → w.grownBy w' none → (∀ g, v.ownBlock = some g → base ≤ g) → K (a.put o.dst v') w' := by
    intro v' w' hr hg hvb
    have ho : OwnL sz enc e w.heap.size w' v' (l ++ news) := by
      unfold OwnL
      rw [List.length_append, hnl, List.flatMap_append]
      exact hr
    have hch : Ex w w' := ⟨hg.os, hg.tape, hg.output, hg.size, fun k hk => hg.block k hk (by simp)⟩
    exact h v' w' (OwnW.lower (OwnL.toW ho) hbase) (Chg.mono hch (fun k hk => hk.1)) (Chg.mono hch (fun k (hk : k < base) => by show k < w.heap.size; omega)) (.inr fun g hg => ((OwnL.toW ho).blk hg).1)
  rcases hown with ⟨rfl, rfl⟩ | ⟨g, cap, cur, rfl, hbg, hg, hnc, hcm, hcs, htake⟩
  · obtain ⟨v', w', hrun, r1, r2, _, _⟩ := run_append_own_at (P := P) w w.heap.size t o.type e i z sz bytes ht hi hz0 hz1 hz2 hzs hsz (.slice none 0 0) 0 [] (World.ownsRow_nil _ _ e sz) A n c (news.flatMap enc) hnf hnew h1f (by unfold maxLen; omega) (by simp only [Nat.zero_add]; have : n * bytes ≤ 1000000 * 65536 := Nat.mul_le_mul hn hby; omega) (Nat.le_refl _)
    refine close v' w' hrun (fresh v' w' (by simpa using r1) r2 (fun g hg => by cases hg))
  · by_cases hroom : l.length + n ≤ cap
    · have hmm : (l.length + n) * sz ≤ cap * sz := Nat.mul_le_mul_right _ hroom
      rw [Nat.add_mul] at hmm
      have hrun := run_append_room (P := P) w t o.type e i ht hi g l.length cap cur hg A n c (news.flatMap enc) (by rw [hz1]; exact hnf) hnew h1f hroom (by rw [hz1, hnf]; omega)
      refine close _ _ hrun (h _ _ (.inr ⟨g, cap, _, ?_, hbg, setRow_heap w g cur _ e _ hg, ?_, hcm, ?_, ?_⟩) ⟨rfl, rfl, rfl, by simp [World.setRow], fun k hk => setRow_other w g k _ (fun he => hk.2 (by rw [he]; rfl))⟩ ⟨rfl, rfl, rfl, by simp [World.setRow], fun k hk => setRow_other w g k _ (by omega)⟩ (.inl rfl))
      · rw [List.length_append, hnl]
      · rw [List.length_append, hnl]; exact hroom
      · simp only [List.size_toArray, List.length_append, List.length_take, List.length_drop, Array.length_toList, hz1, hnf]
        omega
      · rw [List.length_append, hnl, hz1, htake, List.flatMap_append, Nat.add_mul]
        have : (l.flatMap enc ++ news.flatMap enc).length = l.length * sz + n * sz := by rw [List.length_append, flatW_len hlen, hnf]
        rw [← this]
        exact List.take_left
    · have holds : ∀ j u, (l.flatMap enc)[j]? = some u → w.cell? ((⟨g, 0, none⟩ : Addr).add j) = some u := by
        intro j u hu
        rw [Addr.add_lit, Nat.zero_add, World.cell?, hg]
        rw [← htake, List.getElem?_take] at hu
        split at hu
        · simpa using hu
        · cases hu
      obtain ⟨v', w', hrun, r1, r2⟩ := run_append_arg_grows (P := P) w t o.type e i z sz bytes ht hi hz0 hz1 hz2 hzs hsz ⟨g, 0, none⟩ l.length cap (l.flatMap enc) (by rw [flatW_len hlen]) holds A n c (news.flatMap enc) hnf hnew (by omega) (by unfold maxLen; omega) (by omega)
      exact close v' w' hrun (fresh v' w' r1 r2 (fun g' hg' => by simp [Value.ownBlock] at hg'; omega))
theorem wpList_append_W {P : Program} {ops : Array Oper} {rest : List Oper} {o : Oper} {a : Act} {Q : Exit → Act → World → Prop} (w : World) (hgd : o.guard = none) (s x : Operand) (t : TypeId)
    (ho : o.op = .call { callee := .builtin .append, args := #[s, x], argTypes := #[t, t] })
    (base : Nat) (e : TypeId) (z : Value) (sz bytes : Nat) (ht : P.underlying t = some (.slice e)) (hi : (P.info? e).map (fun i => (i.zero, i.size, i.bytes)) = some (some z, sz, bytes))
    (hzs : z.cells.size = sz) (hsz : 0 < sz) (hby : bytes ≤ 65536)
    (v : Value) (l : List α) (hown : OwnW sz enc e base w v l) (hs : a.eval s = v) (A : Addr) (n c : Nat) (news : List α) (hrd : Sl sz enc w (some A) n news) (hlen : ∀ y, (enc y).length = sz) (h1 : ∀ y, ∀ u ∈ enc y, u.oneCell' = true)
    (hx : a.eval x = .slice (some A) n c) (hl : l.length ≤ 1000000) (hn : n ≤ 1000000) (hbase : base ≤ w.heap.size)
    (h : ∀ v' w', OwnW sz enc e base w' v' (l ++ news) → Chg (fun k => k < w.heap.size ∧ ¬ v.ownBlock = some k) w w' → Chg (· < base) w w' → (v'.ownBlock = v.ownBlock ∨ ∀ g, v'.ownBlock = some g → w.heap.size ≤ g) → wpList P ops Q rest (a.put o.dst v') w') :
    wpList P ops Q (o :: rest) a w :=
  wpList_plain hgd fun _ hK => wp_append_W w s x t ho base e z sz bytes ht hi hzs hsz hby v l hown hs A n c news hrd hlen h1 hx hl hn hbase fun v' w' h2 h3 h4 h5 => hK _ _ (h v' w' h2 h3 h4 h5)
theorem flat_setW {c : Nat} (hsz : ∀ y, (enc y).length = sz) (hc : c < sz) {y' : α} {u : Value} :
    ∀ (L : List α) (j : Nat) (y : α), L[j]? = some y → enc y' = (enc y).set c u → (L.set j y').flatMap enc = (L.flatMap enc).set (j * sz + c) u
  | [], j, y, h, _ => by simp at h
  | z :: r, 0, y, h, hv => by
    simp at h; subst h
    rw [List.set_cons_zero, List.flatMap_cons, List.flatMap_cons, hv, Nat.zero_mul, Nat.zero_add, List.set_append_left _ _ (by rw [hsz]; exact hc)]
  | z :: r, j + 1, y, h, hv => by
    rw [List.set_cons_succ, List.flatMap_cons, List.flatMap_cons, flat_setW hsz hc r j y (by simpa using h) hv, List.set_append_right _ _ (by rw [hsz, Nat.succ_mul]; omega), hsz]
    congr 2
    rw [Nat.succ_mul]; omega
theorem OwnW.set1 (hsz : ∀ y, (enc y).length = sz) {g n cap j c : Nat} {y : α} (h : OwnW sz enc e base w (.slice (some ⟨g, 0, none⟩) n cap) l)
    (hy : l[j]? = some y) (hc : c < sz) : w.cell? ⟨g, j * sz + c, none⟩ = (enc y)[c]? ∧ w.frozen? ⟨g, j * sz + c, none⟩ = false ∧
      ∀ (y' : α) (u : Value), enc y' = (enc y).set c u → OwnW sz enc e base (w.setCell ⟨g, j * sz + c, none⟩ u) (.slice (some ⟨g, 0, none⟩) n cap) (l.set j y') := by
  rcases h with ⟨h1, _⟩ | ⟨g', cap', cur, e1, e2, e3, e4, e5, e6, e7⟩
  · cases h1
  · obtain ⟨rfl, hLn, rfl⟩ : g = g' ∧ n = l.length ∧ cap = cap' := by simpa using e1
    have hjl := (List.getElem?_eq_some_iff.1 hy).1
    have hlt : j * sz + c < l.length * sz := by
      have : (j + 1) * sz ≤ l.length * sz := Nat.mul_le_mul_right _ hjl
      rw [Nat.succ_mul] at this; omega
    refine ⟨?_, by simp [World.frozen?, e3], fun y' u hv => .inr ⟨g, cap, _, by simp [hLn], e2, heap_set e3 _ u, by simpa using e4, e5, by simpa using e6, ?_⟩⟩
    · have h2 : (cur.toList.take (l.length * sz))[j * sz + c]? = (enc y)[c]? := by
        rw [e7]
        have hcy : c < (enc y).length := by rw [hsz]; exact hc
        rw [List.getElem?_eq_getElem hcy]
        exact flat_at hsz l j y hy c _ (List.getElem?_eq_getElem hcy)
      rw [List.getElem?_take, if_pos hlt] at h2
      simpa [World.cell?, e3] using h2
    · rw [flat_setW hsz hc l j y hy hv, ← e7, List.length_set]
      simp only [Array.toList_setIfInBounds, List.take_set]
end
end Go.Proofs.YtjaemckdfoaopaaDoor

/- Lists whose elements hold a list each, in memory: read (NL), and made by the call itself (OwnN). -/
namespace Go.Proofs.YtjaemckdfoaopaaDoor
open Go.RowKit

theorem OwnL.blk {α : Type} {sz e base : Nat} {enc : α → List Value} {w : World} {v : Value} {l : List α} (h : OwnL sz enc e base w v l) {g : Nat} (hg : v.ownBlock = some g) : base ≤ g ∧ ∃ cur, w.heap[g]? = some (.cells cur e (0, 0)) := by
  rcases h.2 with ⟨rfl, _⟩ | ⟨g', cap, cur, rfl, hb, hh, _⟩
  · cases hg
  · obtain rfl : g' = g := by simpa [Value.ownBlock] using hg
    exact ⟨hb, cur, hh⟩
section
variable {A β : Type} {encA : A → List Value} {s1 s2 : Nat} {encB : β → List Value} {e1 e2 : TypeId}
/-- a part that is written out, and the head of a slice -/
def encP (encA : A → List Value) (q : A × Hdr) : List Value := encA q.1 ++ [q.2.val]
def NL (encA : A → List Value) (s1 s2 : Nat) (encB : β → List Value) (w : World) (a : Option Addr) (n : Nat) (L : List (A × List β)) : Prop :=
  ∃ qs : List (A × Hdr), Sl s1 (encP encA) w a n qs ∧ L.length = n ∧ ∀ (j : Nat) (q : A × Hdr) (c : A × List β), qs[j]? = some q → L[j]? = some c → q.1 = c.1 ∧ Sl s2 encB w q.2.1 q.2.2.1 c.2
theorem NL.nx {w w' : World} {a : Option Addr} {n : Nat} {L : List (A × List β)} (h : NL encA s1 s2 encB w a n L) (k : Ex w w') : NL encA s1 s2 encB w' a n L := by
  obtain ⟨qs, h1, h2, h3⟩ := h
  exact ⟨qs, h1.nx k, h2, fun j q c hq hc => ⟨(h3 j q c hq hc).1, (h3 j q c hq hc).2.nx k⟩⟩
theorem NL.len {w : World} {a : Option Addr} {n : Nat} {L : List (A × List β)} (h : NL encA s1 s2 encB w a n L) : L.length = n := by
  obtain ⟨qs, h1, h2, h3⟩ := h
  exact h2
theorem NL.at {w : World} {a : Option Addr} {n : Nat} {L : List (A × List β)} (h : NL encA s1 s2 encB w a n L) {j : Nat} (hj : j < n) :
    ∃ x o a' n' c' c, a = some ⟨x, o, none⟩ ∧ x < w.heap.size ∧ L[j]? = some c ∧ (∀ i u, (encA c.1 ++ [.slice a' n' c'])[i]? = some u → w.cell? ⟨x, o + j * s1 + i, none⟩ = some u) ∧ Sl s2 encB w a' n' c.2 := by
  obtain ⟨qs, h1, h2, h3⟩ := h
  obtain ⟨x, o, q, e, hx, hq, hc⟩ := h1.at hj
  obtain ⟨c, hcc⟩ : ∃ c, L[j]? = some c := ⟨L[j]'(by omega), by simp⟩
  obtain ⟨r1, r2⟩ := h3 j q c hq hcc
  refine ⟨x, o, q.2.1, q.2.2.1, q.2.2.2, c, e, hx, hcc, fun i u hu => hc i u ?_, r2⟩
  unfold encP
  rw [r1]
  exact hu
theorem NL.nil (encA : A → List Value) (s1 s2 : Nat) (encB : β → List Value) (w : World) (a : Option Addr) : NL encA s1 s2 encB w a 0 [] := ⟨[], Sl.nil _ _ _ _, rfl, by intro j q c h; simp at h⟩

def OwnN (encA : A → List Value) (s1 s2 : Nat) (encB : β → List Value) (e1 e2 : TypeId) (base : Nat) (w : World) (v : Value) (qs : List (A × Hdr)) (L : List (A × List β)) : Prop :=
  OwnW s1 (encP encA) e1 base w v qs ∧ qs.length = L.length ∧
  (∀ (j : Nat) (q : A × Hdr) (c : A × List β), qs[j]? = some q → L[j]? = some c → q.1 = c.1 ∧ OwnL s2 encB e2 base w q.2.val c.2) ∧
  ∀ (i j : Nat) (qi qj : A × Hdr) (g : Nat), qs[i]? = some qi → qs[j]? = some qj → qi.2.val.ownBlock = some g → qj.2.val.ownBlock = some g → i = j
theorem OwnN.nil (encA : A → List Value) (s1 s2 : Nat) (encB : β → List Value) (e1 e2 : TypeId) (base : Nat) (w : World) : OwnN encA s1 s2 encB e1 e2 base w (.slice none 0 0) [] [] :=
  ⟨OwnW.nil _ _ _ _ _, rfl, by intro j q c h; simp at h, by intro i j qi qj g h; simp at h⟩
variable {base : Nat} {w w' : World} {v v' : Value} {qs : List (A × Hdr)} {L : List (A × List β)}
theorem OwnN.nx (h : OwnN encA s1 s2 encB e1 e2 base w v qs L) (k : Ex w w') : OwnN encA s1 s2 encB e1 e2 base w' v qs L :=
  ⟨h.1.nx k, h.2.1, fun j q c hq hc => ⟨(h.2.2.1 j q c hq hc).1, (h.2.2.1 j q c hq hc).2.nx k⟩, h.2.2.2⟩
theorem OwnN.nxb {b : Nat} (h : OwnN encA s1 s2 encB e1 e2 base w v qs L) (hb : b < base) (k : Exb b w w') : OwnN encA s1 s2 encB e1 e2 base w' v qs L :=
  ⟨h.1.nxb hb k, h.2.1, fun j q c hq hc => ⟨(h.2.2.1 j q c hq hc).1, (h.2.2.1 j q c hq hc).2.nxb hb k⟩, h.2.2.2⟩
theorem OwnN.blk (h : OwnN encA s1 s2 encB e1 e2 base w v qs L) {j g : Nat} {q : A × Hdr} (hq : qs[j]? = some q) (hg : q.2.val.ownBlock = some g) : base ≤ g ∧ ∃ cur, w.heap[g]? = some (.cells cur e2 (0, 0)) := by
  obtain ⟨c, hc⟩ : ∃ c, L[j]? = some c := ⟨L[j]'(by have := (List.getElem?_eq_some_iff.1 hq).1; have := h.2.1; omega), by simp⟩
  exact (h.2.2.1 j q c hq hc).2.blk hg
theorem OwnN.lt (h : OwnN encA s1 s2 encB e1 e2 base w v qs L) {j g : Nat} {q : A × Hdr} (hq : qs[j]? = some q) (hg : q.2.val.ownBlock = some g) : g < w.heap.size := by
  obtain ⟨_, cur, h1⟩ := h.blk hq hg
  exact heap_lt h1
theorem OwnN.ne (hne : e1 ≠ e2) (h : OwnN encA s1 s2 encB e1 e2 base w v qs L) {j g : Nat} {q : A × Hdr} (hq : qs[j]? = some q) (hg : q.2.val.ownBlock = some g) : ¬ v.ownBlock = some g := by
  intro hv
  obtain ⟨_, cur, h1⟩ := h.blk hq hg
  obtain ⟨_, cur', h2⟩ := h.1.blk hv
  rw [h1] at h2
  simp at h2
  exact hne h2.2.symm
/-- one more element, whose list is in memory of its own -/
theorem OwnN.push (hne : e1 ≠ e2) (h : OwnN encA s1 s2 encB e1 e2 base w v qs L) {q : A × Hdr} {c : List β} (ho : OwnW s1 (encP encA) e1 base w' v' (qs ++ [q]))
    (k : Chg (fun k => k < w.heap.size ∧ ¬ v.ownBlock = some k) w w') (hin : OwnL s2 encB e2 base w q.2.val c) (hfr : ∀ (j : Nat) (r : A × Hdr) (g : Nat), qs[j]? = some r → r.2.val.ownBlock = some g → ¬ q.2.val.ownBlock = some g) :
    OwnN encA s1 s2 encB e1 e2 base w' v' (qs ++ [q]) (L ++ [(q.1, c)]) := by
  have hqv : ∀ g, q.2.val.ownBlock = some g → ¬ v.ownBlock = some g := by
    intro g hg hv
    obtain ⟨_, cur, h1⟩ := hin.blk hg
    obtain ⟨_, cur', h2⟩ := h.1.blk hv
    rw [h1] at h2
    simp at h2
    exact hne h2.2.symm
  refine ⟨ho, by simp [h.2.1], fun j r d hr hd => ?_, fun i j qi qj g hi hj gi gj => ?_⟩
  · rcases Nat.lt_or_ge j qs.length with hl | hl
    · rw [List.getElem?_append_left hl] at hr
      rw [List.getElem?_append_left (by rw [← h.2.1]; exact hl)] at hd
      obtain ⟨r1, r2⟩ := h.2.2.1 j r d hr hd
      exact ⟨r1, r2.chg k (fun x hx hv => ⟨hx, h.ne hne hr hv⟩)⟩
    · obtain rfl : j = qs.length := by have := (List.getElem?_eq_some_iff.1 hr).1; simp at this; omega
      simp at hr
      rw [h.2.1] at hd
      simp at hd
      subst hr hd
      exact ⟨rfl, hin.chg k (fun x hx hv => ⟨hx, hqv x hv⟩)⟩
  · have last : ∀ (i : Nat) (r : A × Hdr), (qs ++ [q])[i]? = some r → (i < qs.length ∧ qs[i]? = some r) ∨ (i = qs.length ∧ r = q) := by
      intro i r hr
      rcases Nat.lt_or_ge i qs.length with hl | hl
      · rw [List.getElem?_append_left hl] at hr; exact .inl ⟨hl, hr⟩
      · obtain rfl : i = qs.length := by have := (List.getElem?_eq_some_iff.1 hr).1; simp at this; omega
        simp at hr
        exact .inr ⟨rfl, hr.symm⟩
    rcases last i qi hi with ⟨h1, h2⟩ | ⟨h1, h2⟩ <;> rcases last j qj hj with ⟨h3, h4⟩ | ⟨h3, h4⟩
    · exact h.2.2.2 i j qi qj g h2 h4 gi gj
    · subst h4; exact absurd gj (hfr i qi g h2 gi)
    · subst h2; exact absurd gi (hfr j qj g h4 gj)
    · omega
theorem OwnN.nl (hA : ∀ y, (encP encA y).length = s1) (hB : ∀ y, (encB y).length = s2) (h : OwnN encA s1 s2 encB e1 e2 base w v qs L) :
    ∃ a cap, v = .slice a L.length cap ∧ NL encA s1 s2 encB w a L.length L ∧ L.length ≤ cap ∧ cap ≤ maxLen ∧ (L ≠ [] → ∃ g, a = some ⟨g, 0, none⟩ ∧ base ≤ g) ∧ (a = none → cap = 0) := by
  obtain ⟨a, cap, e, r, c1, c2, c3, c4⟩ := h.1.rd hA
  rw [h.2.1] at e r c1
  refine ⟨a, cap, e, ⟨qs, Rd.mono r (fun _ hk => hk.2), rfl, fun j q c hq hc => ?_⟩, c1, c2, fun hL => c3 (fun h0 => hL ?_), c4⟩
  · obtain ⟨r1, r2⟩ := h.2.2.1 j q c hq hc
    refine ⟨r1, ?_⟩
    obtain ⟨a', cap', e', r', _⟩ := r2.rd hB
    obtain ⟨x, q1, q2, q3⟩ := q
    simp only [Hdr.val, Value.slice.injEq] at e'
    obtain ⟨rfl, rfl, rfl⟩ := e'
    exact Rd.mono r' (fun _ hk => hk.2)
  · have := h.2.1
    rw [h0] at this
    exact List.eq_nil_of_length_eq_zero this.symm
end
end Go.Proofs.YtjaemckdfoaopaaDoor

/- A list of lists of nodes that the call itself makes. -/
namespace Go.Proofs.YtjaemckdfoaopaaDoor
open Go.RowKit

theorem flatH (l : List Hdr) : l.flatMap encH = l.map Hdr.val := by
  induction l with
  | nil => rfl
  | cons c r ih => rw [List.flatMap_cons, ih]; rfl
theorem own_cellH {e : TypeId} {base : Nat} {w : World} {g n cap j : Nat} {l : List Hdr} {q : Hdr} (h : OwnL 1 encH e base w (.slice (some ⟨g, 0, none⟩) n cap) l) (hj : l[j]? = some q) :
    w.cell? ⟨g, j, none⟩ = some q.val ∧ w.frozen? ⟨g, j, none⟩ = false ∧ ∀ y : Hdr, OwnL 1 encH e base (w.setCell ⟨g, j, none⟩ y.val) (.slice (some ⟨g, 0, none⟩) n cap) (l.set j y) := by
  rcases h.2 with ⟨h1, _⟩ | ⟨g', cap', cur, e1, e2, e3, e4, e5, e6, e7⟩
  · cases h1
  · cases e1
    have hjl := (List.getElem?_eq_some_iff.1 hj).1
    have hjc : j < cur.size := by omega
    rw [flatH] at e7
    refine ⟨?_, ?_, fun y => ⟨?_, .inr ⟨g, cap, cur.setIfInBounds j y.val, by simp, e2, heap_set e3 j _, by simpa using e4, e5, by simpa using e6, ?_⟩⟩⟩
    · have hx : (cur.toList.take (l.length * 1))[j]? = some q.val := by
        rw [e7, List.getElem?_map, hj]; rfl
      rw [List.getElem?_take, if_pos (by omega)] at hx
      simpa [World.cell?, e3] using hx
    · simp [World.frozen?, e3]
    · rw [flatH]; simp
    · rw [flatH, List.length_set, Array.toList_setIfInBounds, List.take_set, e7, List.map_set]

def OwnQ (base : Nat) (w : World) (v : Value) (qs : List Hdr) (C : List (List Nd)) : Prop :=
  OwnL 1 encH 43 base w v qs ∧ qs.length = C.length ∧
  (∀ (j : Nat) (q : Hdr) (c : List Nd), qs[j]? = some q → C[j]? = some c → OwnL 3 encN 68 base w q.val c) ∧
  ∀ (i j : Nat) (qi qj : Hdr) (g : Nat), qs[i]? = some qi → qs[j]? = some qj → qi.val.ownBlock = some g → qj.val.ownBlock = some g → i = j
theorem OwnQ.nil (base : Nat) (w : World) : OwnQ base w (.slice none 0 0) [] [] := ⟨OwnL.nil _ _ _ _ _, rfl, by intro j q c h; simp at h, by intro i j qi qj g h; simp at h⟩
theorem OwnQ.nx {base : Nat} {w w' : World} {v : Value} {qs : List Hdr} {C : List (List Nd)} (h : OwnQ base w v qs C) (k : Ex w w') : OwnQ base w' v qs C :=
  ⟨h.1.nx k, h.2.1, fun j q c hq hc => (h.2.2.1 j q c hq hc).nx k, h.2.2.2⟩
theorem OwnQ.ne {base : Nat} {w : World} {v : Value} {qs : List Hdr} {C : List (List Nd)} (h : OwnQ base w v qs C) {j g : Nat} {q : Hdr} (hq : qs[j]? = some q) (hg : q.val.ownBlock = some g) : ¬ v.ownBlock = some g := by
  intro hv
  obtain ⟨c, hc⟩ : ∃ c, C[j]? = some c := ⟨C[j]'(by have := (List.getElem?_eq_some_iff.1 hq).1; have := h.2.1; omega), by simp⟩
  obtain ⟨_, cur, h1⟩ := (h.2.2.1 j q c hq hc).blk hg
  obtain ⟨_, cur', h2⟩ := h.1.blk hv
  rw [h1] at h2
  simp at h2
theorem OwnQ.lt {base : Nat} {w : World} {v : Value} {qs : List Hdr} {C : List (List Nd)} (h : OwnQ base w v qs C) {j g : Nat} {q : Hdr} (hq : qs[j]? = some q) (hg : q.val.ownBlock = some g) : g < w.heap.size := by
  obtain ⟨c, hc⟩ : ∃ c, C[j]? = some c := ⟨C[j]'(by have := (List.getElem?_eq_some_iff.1 hq).1; have := h.2.1; omega), by simp⟩
  obtain ⟨_, cur, h1⟩ := (h.2.2.1 j q c hq hc).blk hg
  exact heap_lt h1
/-- an empty list is appended -/
theorem OwnQ.pad {base : Nat} {w w' : World} {v v' : Value} {qs : List Hdr} {C : List (List Nd)} (h : OwnQ base w v qs C) (ho : OwnL 1 encH 43 base w' v' (qs ++ [((none, 0, 0) : Hdr)]))
    (k : Chg (fun k => k < w.heap.size ∧ ¬ v.ownBlock = some k) w w') : OwnQ base w' v' (qs ++ [((none, 0, 0) : Hdr)]) (C ++ [[]]) := by
  refine ⟨ho, by simp [h.2.1], fun j q c hq hc => ?_, fun i j qi qj g hi hj gi gj => ?_⟩
  · rcases Nat.lt_or_ge j qs.length with hl | hl
    · rw [List.getElem?_append_left hl] at hq
      rw [List.getElem?_append_left (by rw [← h.2.1]; exact hl)] at hc
      exact (h.2.2.1 j q c hq hc).chg k (fun x hx hv => ⟨hx, h.ne hq hv⟩)
    · obtain rfl : j = qs.length := by have := (List.getElem?_eq_some_iff.1 hq).1; simp at this; omega
      simp at hq
      rw [h.2.1] at hc
      simp at hc
      subst hq hc
      exact OwnL.nil _ _ _ _ _
  · have hn : ∀ (i : Nat) (q : Hdr), (qs ++ [((none, 0, 0) : Hdr)])[i]? = some q → q.val.ownBlock = some g → qs[i]? = some q := by
      intro i q hq hg
      rcases Nat.lt_or_ge i qs.length with hl | hl
      · rw [List.getElem?_append_left hl] at hq; exact hq
      · obtain rfl : i = qs.length := by have := (List.getElem?_eq_some_iff.1 hq).1; simp at this; omega
        simp at hq
        subst hq
        cases hg
    exact h.2.2.2 i j qi qj g (hn i qi hi gi) (hn j qj hj gj) gi gj
/-- one list is put anew -/
theorem OwnQ.put {base : Nat} {w1 w2 : World} {g n cap k : Nat} {qs : List Hdr} {C : List (List Nd)} {q q' : Hdr} {c' : List Nd} (h : OwnQ base w1 (.slice (some ⟨g, 0, none⟩) n cap) qs C) (hq : qs[k]? = some q)
    (ho : OwnL 3 encN 68 base w2 q'.val c') (kk : Chg (fun x => x < w1.heap.size ∧ ¬ q.val.ownBlock = some x) w1 w2) (hat : q'.val.ownBlock = q.val.ownBlock ∨ q'.val.ownBlock = some w1.heap.size) :
    w2.cell? ⟨g, k, none⟩ = some q.val ∧ w2.frozen? ⟨g, k, none⟩ = false ∧ OwnQ base (w2.setCell ⟨g, k, none⟩ q'.val) (.slice (some ⟨g, 0, none⟩) n cap) (qs.set k q') (C.set k c') := by
  have hg1 : ∀ (j : Nat) (q : Hdr) (x : Nat), qs[j]? = some q → q.val.ownBlock = some x → x ≠ g := fun j q x hj hx he => h.ne hj hx (by rw [he]; rfl)
  have ho1 : OwnL 1 encH 43 base w2 (.slice (some ⟨g, 0, none⟩) n cap) qs := h.1.chg kk (fun x hx hv => ⟨hx, fun hh => h.ne hq hh hv⟩)
  obtain ⟨f1, f2, f3⟩ := own_cellH ho1 hq
  have hne' : ∀ x, q'.val.ownBlock = some x → x ≠ g := by
    intro x hx he
    obtain ⟨_, cur, e1⟩ := ho.blk hx
    obtain ⟨_, cur', e2⟩ := ho1.blk (g := g) rfl
    rw [he, e2] at e1
    simp at e1
  have hset : Chg (· ≠ g) w2 (w2.setCell ⟨g, k, none⟩ q'.val) := (Chg.refl _ w2).setCell _ (fun x hx => hx)
  have hkl := (List.getElem?_eq_some_iff.1 hq).1
  refine ⟨f1, f2, f3 q', by simp [h.2.1], fun j r c hr hc => ?_, fun i j qi qj x hi hj gi gj => ?_⟩
  · by_cases hjk : j = k
    · subst hjk
      rw [List.getElem?_set_self hkl] at hr
      rw [List.getElem?_set_self (by rw [← h.2.1]; exact hkl)] at hc
      cases hr
      cases hc
      exact ho.chg hset (fun x _ hv => hne' x hv)
    · rw [List.getElem?_set_ne (by omega)] at hr hc
      have o1 := h.2.2.1 j r c hr hc
      have o2 : OwnL 3 encN 68 base w2 r.val c := o1.chg kk (fun x hx hv => ⟨hx, fun hh => hjk (h.2.2.2 j k r q x hr hq hv hh)⟩)
      exact o2.chg hset (fun x _ hv => hg1 j r x hr hv)
  · have key : ∀ (j : Nat) (qj : Hdr), j ≠ k → qs[j]? = some qj → qj.val.ownBlock = some x → q'.val.ownBlock = some x → False := by
      intro j qj hjk hj gj gk
      rcases hat with h1 | h1
      · exact hjk (h.2.2.2 j k qj q x hj hq gj (h1 ▸ gk))
      · have := h.lt hj gj
        rw [h1] at gk
        cases gk
        omega
    by_cases hik : i = k
    · by_cases hjk : j = k
      · omega
      · exfalso
        subst hik
        rw [List.getElem?_set_self hkl] at hi
        cases hi
        rw [List.getElem?_set_ne (by omega)] at hj
        exact key j qj hjk hj gj gi
    · rw [List.getElem?_set_ne (by omega)] at hi
      by_cases hjk : j = k
      · exfalso
        subst hjk
        rw [List.getElem?_set_self hkl] at hj
        cases hj
        exact key i qi hik hi gi gj
      · rw [List.getElem?_set_ne (by omega)] at hj
        exact h.2.2.2 i j qi qj x hi hj gi gj
theorem OwnQ.ll {base : Nat} {w : World} {v : Value} {qs : List Hdr} {C : List (List Nd)} (h : OwnQ base w v qs C) :
    ∃ a cap, v = .slice a C.length cap ∧ LL w a C.length C ∧ C.length ≤ cap ∧ cap ≤ maxLen ∧ (C ≠ [] → ∃ g, a = some ⟨g, 0, none⟩ ∧ base ≤ g) := by
  obtain ⟨a, cap, e, r, c1, c2, c3⟩ := h.1.rd (fun _ => rfl)
  rw [h.2.1] at e r c1
  refine ⟨a, cap, e, ⟨qs, Rd.mono r (fun _ hk => hk.2), rfl, fun j q c hq hc => ?_⟩, c1, c2, fun hC => c3 (fun h0 => hC ?_)⟩
  · obtain ⟨a', cap', e', r', _⟩ := (h.2.2.1 j q c hq hc).rd (fun _ => rfl)
    obtain ⟨q1, q2, q3⟩ := q
    simp only [Hdr.val, Value.slice.injEq] at e'
    obtain ⟨rfl, rfl, rfl⟩ := e'
    exact Rd.mono r' (fun _ hk => hk.2)
  · have := h.2.1
    rw [h0] at this
    exact List.eq_nil_of_length_eq_zero this.symm

/-! ### The classes -/
def padC (C : List (List Nd)) (k : Nat) : List (List Nd) := if k = C.length then C ++ [[]] else C
def stepC (h : Int) (C : List (List Nd)) (x : Nd) : List (List Nd) :=
  (padC C (idxC C x.word h)).set (idxC C x.word h) ((padC C (idxC C x.word h))[idxC C x.word h]?.getD [] ++ [x])
def classesN (l : List Nd) (h : Int) : List (List Nd) := if 16 < h then [] else l.foldl (stepC h) []
def foldC (h : Int) (l : List Nd) : List (List Nd) := l.foldl (stepC h) []
theorem foldC_snoc (h : Int) (l : List Nd) (k : Nat) (y : Nd) (hy : l[k]? = some y) : foldC h (l.take (k + 1)) = stepC h (foldC h (l.take k)) y := by
  unfold foldC
  rw [take_snocN l k y hy, List.foldl_append]
  rfl
theorem padC_length (C : List (List Nd)) (k : Nat) : C.length ≤ (padC C k).length ∧ (padC C k).length ≤ C.length + 1 := by
  unfold padC
  split <;> simp
theorem stepC_length (h : Int) (C : List (List Nd)) (x : Nd) : (stepC h C x).length ≤ C.length + 1 := by
  unfold stepC
  rw [List.length_set]
  exact (padC_length _ _).2
theorem foldC_length (h : Int) (l : List Nd) : (foldC h l).length ≤ l.length := by
  have : ∀ (l : List Nd) (C : List (List Nd)), (l.foldl (stepC h) C).length ≤ C.length + l.length := by
    intro l
    induction l with
    | nil => intro C; simp
    | cons x r ih => intro C; have := ih (stepC h C x); have := stepC_length h C x; simp at *; omega
  have := this l []
  simpa [foldC] using this
/-- lists that are not empty, of nodes of a list, none longer than it -/
def Fine (n : Nat) (P : Nd → Prop) (C : List (List Nd)) : Prop := ∀ c ∈ C, 0 < c.length ∧ c.length ≤ n ∧ ∀ y ∈ c, P y
theorem stepC_fine {h : Int} {n : Nat} {P : Nd → Prop} {C : List (List Nd)} {x : Nd} (hC : Fine n P C) (hx : P x) : Fine (n + 1) P (stepC h C x) := by
  intro c hc
  unfold stepC at hc
  have hpad : ∀ c, c ∈ padC C (idxC C x.word h) → c ∈ C ∨ c = [] := by
    intro c hc
    unfold padC at hc
    split at hc
    · rcases List.mem_append.1 hc with h | h
      · exact .inl h
      · exact .inr (List.mem_singleton.1 h)
    · exact .inl hc
  rcases List.mem_or_eq_of_mem_set hc with hm | rfl
  · by_cases hin : c ∈ C
    · have := hC c hin
      exact ⟨this.1, by omega, this.2.2⟩
    · -- the empty list that was put in was replaced
      exfalso
      rcases hpad c hm with h1 | h1
      · exact hin h1
      · subst h1
        obtain ⟨j, hj, he⟩ := List.mem_iff_getElem.1 hc
        rw [List.getElem_set] at he
        split at he
        · simp at he
        · rename_i hne
          have hjl : j < (padC C (idxC C x.word h)).length := by rw [List.length_set] at hj; exact hj
          by_cases hi : idxC C x.word h = C.length
          · have hp : padC C (idxC C x.word h) = C ++ [[]] := by unfold padC; rw [if_pos hi]
            have hjC : j < C.length := by rw [hp] at hjl; simp at hjl; omega
            have : C[j] = [] := by
              have h2 : (padC C (idxC C x.word h))[j]? = some [] := by rw [List.getElem?_eq_getElem hjl, he]
              rw [hp, List.getElem?_append_left hjC, List.getElem?_eq_getElem hjC] at h2
              exact Option.some.inj h2
            exact hin (this ▸ List.getElem_mem hjC)
          · have hp : padC C (idxC C x.word h) = C := by unfold padC; rw [if_neg hi]
            rw [hp] at hm
            exact hin hm
  · have hg : ∀ o : Option (List Nd), (∀ c, o = some c → c ∈ C ∨ c = []) → (o.getD []).length ≤ n ∧ ∀ y ∈ o.getD [], P y := by
      intro o ho
      cases o with
      | none => simp
      | some c =>
        rcases ho c rfl with h | h
        · exact ⟨(hC c h).2.1, (hC c h).2.2⟩
        · subst h; simp
    obtain ⟨g1, g2⟩ := hg _ (fun c hc => hpad c (List.mem_of_getElem? hc))
    refine ⟨by simp, by simp; exact g1, fun y hy => ?_⟩
    rcases List.mem_append.1 hy with h | h
    · exact g2 y h
    · rw [List.mem_singleton.1 h]; exact hx
theorem foldC_fine {h : Int} {P : Nd → Prop} (l : List Nd) (hP : ∀ y ∈ l, P y) : Fine l.length P (foldC h l) := by
  have : ∀ (l : List Nd) (n : Nat) (C : List (List Nd)), (∀ y ∈ l, P y) → Fine n P C → Fine (n + l.length) P (l.foldl (stepC h) C) := by
    intro l
    induction l with
    | nil => intro n C _ hC; exact hC
    | cons x r ih =>
      intro n C hl hC
      have := ih (n + 1) (stepC h C x) (fun y hy => hl y (List.mem_cons_of_mem _ hy)) (stepC_fine hC (hl x (List.mem_cons_self ..)))
      rw [List.length_cons, show n + (r.length + 1) = n + 1 + r.length by omega]
      exact this
  have := this l 0 [] hP (by intro c hc; simp at hc)
  rw [Nat.zero_add] at this
  exact this
end Go.Proofs.YtjaemckdfoaopaaDoor

/- What the walks over Classes have in common. -/
namespace Go.Proofs.YtjaemckdfoaopaaDoor
open Go.RowKit

def ClPost (C : List (List Nd)) (w : World) (e : Ending) (w' : World) : Prop := ∃ (a : Option Addr) (cp : Nat), e = .returned (.slice a C.length cp) ∧ LL w' a C.length C ∧ Ex w w'
theorem OwnQ.cast {base : Nat} {w w' : World} {v : Value} {qs : List Hdr} {C : List (List Nd)} (h : OwnQ base w v qs C) (e : w' = w) : OwnQ base w' v qs C := e ▸ h
theorem OwnQ.ne_blk {base g : Nat} {w : World} {v : Value} {qs : List Hdr} {C : List (List Nd)} {cs : List Value} (h : OwnQ base w v qs C) (b : Blk w g cs 68) : ¬ v.ownBlock = some g := by
  intro hv
  obtain ⟨_, cur, e⟩ := h.1.blk hv
  unfold Blk at b
  rw [b] at e
  simp at e
theorem Blk.chg {w w' : World} {g : Nat} {cs : List Value} {ty : TypeId} {S : Nat → Prop} (h : Blk w g cs ty) (k : Chg S w w') (hs : S g) : Blk w' g cs ty := (k.block g hs).trans h
def ClRel (l : List Nd) (h : Int) (n : Nat) (w1 : World) (o i : Value) (wr : World) : Prop :=
  ∃ (k : Nat) (qs : List Hdr), k ≤ n ∧ i = .int .i64 k ∧ OwnQ w1.heap.size wr o qs (foldC h (l.take k)) ∧ Ex w1 wr
theorem classesN_big {l : List Nd} {h : Int} (hh : 16 < h) : classesN l h = [] := by unfold classesN; rw [if_pos hh]
theorem classesN_fold {l : List Nd} {h : Int} (hh : ¬ 16 < h) : classesN l h = foldC h l := by unfold classesN; rw [if_neg hh]; rfl
end Go.Proofs.YtjaemckdfoaopaaDoor
