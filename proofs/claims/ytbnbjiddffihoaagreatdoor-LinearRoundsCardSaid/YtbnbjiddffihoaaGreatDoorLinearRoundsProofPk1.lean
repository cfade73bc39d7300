/- Texts for the statement LinearRoundsProof, part 1 of 9: Base, K, Copy, WordP, WordR, NodeR, Nds, ApH, Sw, Sort, LsR, RowW, Nest, NestB. -/
import Derived.WalkKit
import Derived.WalkSpells
import Derived.WalkLawsBesides
import Derived.BigQuiet
import Derived.Lib.Hide
import Derived.Laws.AppendOwnNone
import Derived.Laws.CopyOwn
import Derived.Lib.TrailingZeros
import Derived.Test.YtbnbjiddffihoaaGreatDoorRows
import Derived.Maps.AppendAt
import Derived.Deep.RegionHeld3
import Derived.Deep.DeepCutAuto
import Derived.ArgAppend

/- Base: what may change in memory, and what is known of a tape of numbers. -/
namespace Go.Proofs.YtbnbjiddffihoaaGreatDoor
open Go.RowKit

structure Chg (S : Nat → Prop) (w w' : World) : Prop where
  os : w'.os = w.os
  tape : w'.tape = w.tape
  output : w'.output = w.output
  size : w.heap.size ≤ w'.heap.size
  block : ∀ k, S k → w'.heap[k]? = w.heap[k]?

theorem Chg.refl (S : Nat → Prop) (w : World) : Chg S w w := ⟨rfl, rfl, rfl, Nat.le_refl _, fun _ _ => rfl⟩
theorem Chg.trans {S : Nat → Prop} {w1 w2 w3 : World} (h : Chg S w1 w2) (k : Chg S w2 w3) : Chg S w1 w3 :=
  ⟨k.os.trans h.os, k.tape.trans h.tape, k.output.trans h.output, Nat.le_trans h.size k.size, fun i hi => (k.block i hi).trans (h.block i hi)⟩
theorem Chg.mono {S S' : Nat → Prop} {w w' : World} (h : Chg S w w') (hs : ∀ k, S' k → S k) : Chg S' w w' := ⟨h.os, h.tape, h.output, h.size, fun k hk => h.block k (hs k hk)⟩
theorem Chg.below {S : Nat → Prop} {w w' : World} (h : Chg S w w') {B : Nat} (hs : ∀ k, k < B → S k) : Below B w w' := ⟨h.os, h.tape, h.output, h.size, fun k hk => h.block k (hs k hk)⟩
theorem Chg.drewN {S : Nat → Prop} {w w' : World} (h : Chg S w w') (n : Nat) : Chg S w (w'.drewN n) := ⟨h.os, h.tape, h.output, h.size, h.block⟩
theorem Chg.drew {S : Nat → Prop} {w w' : World} (h : Chg S w w') : Chg S w (w'.drew) := ⟨h.os, h.tape, h.output, h.size, h.block⟩
theorem Chg.setCell {S : Nat → Prop} {w w' : World} (h : Chg S w w') {p : Addr} (v : Value) (hp : ∀ k, S k → k ≠ p.block) : Chg S w (w'.setCell p v) :=
  h.trans ⟨rfl, rfl, rfl, by simp [World.setCell], fun k hk => Below.heap_setCell w' p v k (hp k hk)⟩
theorem Chg.alloc {S : Nat → Prop} {w w' : World} (h : Chg S w w') (o : Obj) (hp : ∀ k, S k → k < w'.heap.size) : Chg S w (w'.alloc o) :=
  h.trans ⟨rfl, rfl, rfl, by simp, fun k hk => Below.heap_alloc w' o k (hp k hk)⟩
theorem Chg.then {S S' : Nat → Prop} {w w1 w2 : World} (h : Chg S w w1) (k : Chg S' w1 w2) (hs : ∀ k, S k → S' k) : Chg S w w2 := h.trans (k.mono hs)
theorem Chg.next {w w1 w2 : World} (h : Chg (· < w.heap.size) w w1) (k : Chg (· < w1.heap.size) w1 w2) : Chg (· < w.heap.size) w w2 :=
  h.trans (k.mono (fun _ hk => Nat.lt_of_lt_of_le hk h.size))
theorem Chg.cell {S : Nat → Prop} {w w' : World} (h : Chg S w w') {p : Addr} (hp : S p.block) : w'.cell? p = w.cell? p := World.cell?_of_block (h.block _ hp)
theorem Chg.cellv {S : Nat → Prop} {w w' : World} (h : Chg S w w') {p : Addr} {v : Value} (hv : w.cell? p = some v) (hp : S p.block) : w'.cell? p = some v := (h.cell hp).trans hv
theorem Chg.frozen {S : Nat → Prop} {w w' : World} (h : Chg S w w') {p : Addr} (hp : S p.block) : w'.frozen? p = w.frozen? p := World.frozen?_of_block (h.block _ hp)

def TP (ty B : Nat) (w : World) (b : Nat) : Prop :=
  ∃ (a : Option Addr) (cap i x o : Nat) (l : List Int),
    w.heap[b]? = some (.cells #[.slice a l.length cap, .int .i64 i] ty (0, 0)) ∧ b < B ∧ l.length ≤ 600 ∧ i ≤ l.length ∧
    (l = [] ∨ (a = some ⟨x, o, none⟩ ∧ x ≠ b ∧ x < B ∧ ∀ j, j < l.length → w.cell? ⟨x, o + j, none⟩ = some (.int .i64 (l.getD j 0))))

theorem TP.chg {ty B : Nat} {w w' : World} {b : Nat} (h : TP ty B w b) {S : Nat → Prop} (k : Chg S w w') (hs : ∀ k, k < B → S k) : TP ty B w' b := by
  obtain ⟨a, cap, i, x, o, l, h1, h2, h3, h4, h5⟩ := h
  refine ⟨a, cap, i, x, o, l, ?_, h2, h3, h4, ?_⟩
  · rw [k.block b (hs b h2)]; exact h1
  · rcases h5 with h5 | ⟨e1, e2, e3, e4⟩
    · exact .inl h5
    · exact .inr ⟨e1, e2, e3, fun j hj => by rw [k.cell (p := ⟨x, o + j, none⟩) (hs x e3)]; exact e4 j hj⟩
theorem TP.mono {ty B B' : Nat} {w : World} {b : Nat} (h : TP ty B w b) (hB : B ≤ B') : TP ty B' w b := by
  obtain ⟨a, cap, i, x, o, l, h1, h2, h3, h4, h5⟩ := h
  refine ⟨a, cap, i, x, o, l, h1, by omega, h3, h4, ?_⟩
  rcases h5 with h5 | ⟨e1, e2, e3, e4⟩
  · exact .inl h5
  · exact .inr ⟨e1, e2, by omega, e4⟩
theorem TP.lt {ty B : Nat} {w : World} {b : Nat} (h : TP ty B w b) : b < B := by
  obtain ⟨a, cap, i, x, o, l, h1, h2, _⟩ := h
  exact h2

def Rd {α : Type} (sz : Nat) (enc : α → List Value) (S : Nat → Prop) (w : World) (a : Option Addr) (n : Nat) (l : List α) : Prop :=
  l.length = n ∧ (n = 0 ∨ ∃ x o, a = some ⟨x, o, none⟩ ∧ S x ∧ ∀ j y, l[j]? = some y → ∀ c u, (enc y)[c]? = some u → w.cell? ⟨x, o + j * sz + c, none⟩ = some u)

theorem Rd.chg {α : Type} {sz n : Nat} {S : Nat → Prop} {enc : α → List Value} {w w' : World} {a : Option Addr} {l : List α} (h : Rd sz enc S w a n l) {S' : Nat → Prop} (k : Chg S' w w') (hs : ∀ k, S k → S' k) : Rd sz enc S w' a n l := by
  refine ⟨h.1, ?_⟩
  rcases h.2 with h2 | ⟨x, o, e1, e2, e3⟩
  · exact .inl h2
  · exact .inr ⟨x, o, e1, e2, fun j y hj c u hu => by rw [k.cell (p := ⟨x, _, none⟩) (hs x e2)]; exact e3 j y hj c u hu⟩
theorem Rd.mono {α : Type} {sz n : Nat} {S S' : Nat → Prop} {enc : α → List Value} {w : World} {a : Option Addr} {l : List α} (h : Rd sz enc S w a n l) (hS : ∀ k, S k → S' k) : Rd sz enc S' w a n l := by
  refine ⟨h.1, ?_⟩
  rcases h.2 with h2 | ⟨x, o, e1, e2, e3⟩
  · exact .inl h2
  · exact .inr ⟨x, o, e1, hS x e2, e3⟩
theorem Rd.nil {α : Type} (sz : Nat) (enc : α → List Value) (S : Nat → Prop) (w : World) (a : Option Addr) : Rd sz enc S w a 0 [] := ⟨rfl, .inl rfl⟩
theorem Rd.at {α : Type} {sz n : Nat} {S : Nat → Prop} {enc : α → List Value} {w : World} {a : Option Addr} {l : List α} (h : Rd sz enc S w a n l) {j : Nat} (hj : j < n) :
    ∃ x o y, a = some ⟨x, o, none⟩ ∧ S x ∧ l[j]? = some y ∧ ∀ c u, (enc y)[c]? = some u → w.cell? ⟨x, o + j * sz + c, none⟩ = some u := by
  obtain ⟨h1, h2⟩ := h
  rcases h2 with h2 | ⟨x, o, e1, e2, e3⟩
  · omega
  · exact ⟨x, o, l[j]'(by omega), e1, e2, by simp, e3 j _ (by simp)⟩

def encS (s : Int × Int) : List Value := [.int .i64 s.1, .int .i64 s.2]

theorem heap_set {w : World} {k : Nat} {cs : Array Value} {ty : TypeId} {fr : Nat × Nat} (h : w.heap[k]? = some (.cells cs ty fr)) (o : Nat) (v : Value) :
    (w.setCell ⟨k, o, none⟩ v).heap[k]? = some (.cells (cs.setIfInBounds o v) ty fr) := by simp [World.setCell, Array.getElem?_modify, h]
theorem heap_set_ne {w : World} {k : Nat} {p : Addr} {v : Value} {x : Option Obj} (h : w.heap[k]? = x) (hk : k ≠ p.block) : (w.setCell p v).heap[k]? = x := (Below.heap_setCell w p v k hk).trans h
theorem heap_new (w : World) (o : Obj) : (w.alloc o).heap[w.heap.size]? = some o := by show (w.heap.push o)[w.heap.size]? = _; simp
theorem heap_lt {w : World} {k : Nat} {x : Obj} (h : w.heap[k]? = some x) : k < w.heap.size := (Array.getElem?_eq_some_iff.1 h).1

theorem flat_at {α : Type} {sz : Nat} {enc : α → List Value} (hsz : ∀ y, (enc y).length = sz) : ∀ (l : List α) (j : Nat) (y : α), l[j]? = some y → ∀ c u, (enc y)[c]? = some u → (l.flatMap enc)[j * sz + c]? = some u
  | [], _, _, h, _, _, _ => by simp at h
  | x :: r, 0, y, h, c, u, hu => by
    simp at h; subst h
    rw [List.flatMap_cons, Nat.zero_mul, Nat.zero_add, List.getElem?_append_left (List.getElem?_eq_some_iff.1 hu).1]; exact hu
  | x :: r, j + 1, y, h, c, u, hu => by
    have h' : r[j]? = some y := by simpa using h
    have := flat_at hsz r j y h' c u hu
    rw [List.flatMap_cons, List.getElem?_append_right (by rw [hsz]; rw [Nat.succ_mul]; omega), hsz]
    rw [show (j + 1) * sz + c - sz = j * sz + c by rw [Nat.succ_mul]; omega]
    exact this
theorem Rd.block {α : Type} {sz k n : Nat} {enc : α → List Value} {w : World} {cs : Array Value} {ty : TypeId} {fr : Nat × Nat} (l : List α) (h : w.heap[k]? = some (.cells cs ty fr)) (hn : l.length = n) (hsz : ∀ y, (enc y).length = sz)
    (hc : ∀ (i : Nat) (u : Value), (l.flatMap enc)[i]? = some u → cs[i]? = some u) : Rd sz enc (· = k) w (some ⟨k, 0, none⟩) n l := by
  refine ⟨hn, .inr ⟨k, 0, rfl, rfl, fun j y hj c u hu => ?_⟩⟩
  have := hc _ _ (flat_at hsz l j y hj c u hu)
  simp [World.cell?, h, this]
theorem Rd.lit {α : Type} {sz n s : Nat} {S : Nat → Prop} {enc : α → List Value} {w : World} {cs : Array Value} {ty : TypeId} (l : List α) (hs : s = w.heap.size) (hS : S w.heap.size) (hn : l.length = n) (hsz : ∀ y, (enc y).length = sz) (hc : cs = (l.flatMap enc).toArray) : Rd sz enc S (w.alloc (.cells cs ty)) (some ⟨s, 0, none⟩) n l := by
  subst hs hc
  exact (Rd.block l (heap_new w _) hn hsz (fun i u h => by simpa using h)).mono (by intro k hk; subst hk; exact hS)
def encI (x : Int) : List Value := [.int .i64 x]

def OwnL {α : Type} (sz : Nat) (enc : α → List Value) (e : TypeId) (base : Nat) (w : World) (v : Value) (l : List α) : Prop := w.ownsRow base e sz v l.length (l.flatMap enc)

theorem OwnL.nil {α : Type} (sz : Nat) (enc : α → List Value) (e : TypeId) (base : Nat) (w : World) : OwnL sz enc e base w (.slice none 0 0) [] := World.ownsRow_nil w base e sz
theorem OwnL.chg {α : Type} {sz e base : Nat} {enc : α → List Value} {w w' : World} {v : Value} {l : List α} (h : OwnL sz enc e base w v l) {S : Nat → Prop} (k : Chg S w w') (hs : ∀ k, k < w.heap.size → v.ownBlock = some k → S k) : OwnL sz enc e base w' v l := by
  refine ⟨h.1, ?_⟩
  rcases h.2 with hn | ⟨g, cap, cur, rfl, hb, hg, rest⟩
  · exact .inl hn
  · exact .inr ⟨g, cap, cur, rfl, hb, (k.block g (hs g (heap_lt hg) rfl)).trans hg, rest⟩
theorem OwnL.alloc {α : Type} {sz e base : Nat} {enc : α → List Value} {w : World} {v : Value} {l : List α} (h : OwnL sz enc e base w v l) (o : Obj) : OwnL sz enc e base (w.alloc o) v l :=
  h.chg ((Chg.refl (· < w.heap.size) w).alloc o (fun _ h => h)) (fun _ h _ => h)
theorem OwnL.rd {α : Type} {sz e base : Nat} {enc : α → List Value} {w : World} {v : Value} {l : List α} (h : OwnL sz enc e base w v l) (hsz : ∀ y, (enc y).length = sz) :
    ∃ a cap, v = .slice a l.length cap ∧ Rd sz enc (fun k => base ≤ k ∧ k < w.heap.size) w a l.length l ∧ l.length ≤ cap ∧ cap ≤ maxLen ∧ (l ≠ [] → ∃ g, a = some ⟨g, 0, none⟩ ∧ base ≤ g) := by
  rcases h.2 with ⟨rfl, hn⟩ | ⟨g, cap, cur, rfl, hb, hg, h1, h2, h3, h4⟩
  · have : l = [] := List.eq_nil_of_length_eq_zero hn
    subst this
    exact ⟨none, 0, rfl, Rd.nil _ _ _ _ _, by simp, by unfold maxLen; omega, fun h => absurd rfl h⟩
  · refine ⟨_, cap, rfl, (Rd.block l hg rfl hsz (fun i u hu => ?_)).mono (fun k hk => by subst hk; exact ⟨hb, heap_lt hg⟩), h1, h2, fun _ => ⟨g, rfl, hb⟩⟩
    rw [← h4, List.getElem?_take] at hu
    split at hu
    · simpa using hu
    · cases hu

theorem wpList_append_lit {P : Program} {α : Type} {enc : α → List Value} {ops : Array Oper} {rest : List Oper} {o : Oper} {a : Act} {Q : Exit → Act → World → Prop} (w0 : World) (hgd : o.guard = none) (s x : Operand) (t : TypeId)
    (ho : o.op = .call { callee := .builtin .append, args := #[s, x], argTypes := #[t, t] })
    (base : Nat) (e : TypeId) (z : Value) (sz bytes : Nat) (ht : P.underlying t = some (.slice e)) (hi : (P.info? e).map (fun i => (i.zero, i.size, i.bytes)) = some (some z, sz, bytes))
    (hzs : z.cells.size = sz) (hsz : 0 < sz) (hby : bytes ≤ 65536)
    (v : Value) (l : List α) (hown : OwnL sz enc e base w0 v l) (hs : a.eval s = v) (y : α) (A : Array Value) (hA : A = (enc y).toArray) (hlen : (enc y).length = sz) (h1 : ∀ u ∈ enc y, u.oneCell' = true)
    (k : Nat) (hk : k = w0.heap.size) (hx : a.eval x = .slice (some ⟨k, 0, none⟩) 1 1) (hl : l.length ≤ 1000000) (hbase : base ≤ w0.heap.size) (e' : TypeId)
    (h : ∀ v' w', OwnL sz enc e base w' v' (l ++ [y]) → Chg (fun k => k < w0.heap.size ∧ ¬ v.ownBlock = some k) w0 w' → Chg (· < base) w0 w' → w0.heap.size < w'.heap.size → wpList P ops Q rest (a.put o.dst v') w') :
    wpList P ops Q (o :: rest) a (w0.alloc (.cells A e')) := by
  subst hA hk
  obtain ⟨i, hi, hz0, hz1, hz2⟩ := info_parts hi
  have hmul : (l.length + 1) * bytes ≤ 1000001 * 65536 := Nat.mul_le_mul (by omega) hby
  refine wpList_append_own _ hgd s x t ho base e i z sz bytes ht hi hz0 hz1 hz2 hzs hsz v l.length (l.flatMap enc) hs (hown.alloc _) ⟨w0.heap.size, 0, none⟩ 1 1 (enc y) hx (by simp [hlen]) ?_ h1 (by unfold maxLen; omega) (by omega) (by simp; omega) ?_
  · intro j u hu
    rw [Addr.add_lit]
    simp only [Nat.zero_add]
    rw [World.cell?, heap_new]
    simpa using hu
  · intro v' w' hown' hgrow hnil
    have hz' := hgrow.size
    simp at hz'
    have hch : Chg (fun k => k < w0.heap.size ∧ ¬ v.ownBlock = some k) w0 w' := ⟨hgrow.os, hgrow.tape, hgrow.output, by omega, fun k hk => by
      rw [hgrow.block k (by simp; omega) (fun h => hk.2 h.symm)]
      exact Below.heap_alloc _ _ _ hk.1⟩
    refine h v' w' ?_ hch (hch.mono fun k hk => ⟨by omega, fun hv => ?_⟩) hz'
    · unfold OwnL
      simpa [List.flatMap_append] using hown'
    · have := hown.lt k hv
      omega

theorem OwnL.empty {α : Type} {sz : Nat} {enc : α → List Value} {e : TypeId} {base s : Nat} {w : World} (hb : base ≤ w.heap.size) (hs : s = w.heap.size) : OwnL sz enc e base (w.alloc (.cells #[] e)) (.slice (some ⟨s, 0, none⟩) 0 0) ([] : List α) := by
  subst hs
  exact World.ownsRow_made w #[] 0 hb (by unfold maxLen; omega) (by simp)

theorem wpList_append_rd {P : Program} {α : Type} {enc : α → List Value} {ops : Array Oper} {rest : List Oper} {o : Oper} {a : Act} {Q : Exit → Act → World → Prop} (w0 : World) (hgd : o.guard = none) (s x : Operand) (t : TypeId)
    (ho : o.op = .call { callee := .builtin .append, args := #[s, x], argTypes := #[t, t] })
    (base : Nat) (e : TypeId) (z : Value) (sz bytes : Nat) (ht : P.underlying t = some (.slice e)) (hi : (P.info? e).map (fun i => (i.zero, i.size, i.bytes)) = some (some z, sz, bytes))
    (hzs : z.cells.size = sz) (hsz : 0 < sz) (hby : bytes ≤ 65536)
    (v : Value) (l : List α) (hown : OwnL sz enc e base w0 v l) (hs : a.eval s = v) (S : Nat → Prop) (A : Option Addr) (n c : Nat) (news : List α) (hrd : Rd sz enc S w0 A n news) (hA : A = none → c = 0) (hlen : ∀ y, (enc y).length = sz) (h1 : ∀ y, ∀ u ∈ enc y, u.oneCell' = true)
    (hx : a.eval x = .slice A n c) (hl : l.length ≤ 1000000) (hn : n ≤ 1000000) (hbase : base ≤ w0.heap.size)
    (h : ∀ v' w', OwnL sz enc e base w' v' (l ++ news) → Chg (fun k => k < w0.heap.size ∧ ¬ v.ownBlock = some k) w0 w' → Chg (· < base) w0 w' → wpList P ops Q rest (a.put o.dst v') w') :
    wpList P ops Q (o :: rest) a w0 := by
  obtain ⟨i, hi, hz0, hz1, hz2⟩ := info_parts hi
  have hmul : (l.length + n) * bytes ≤ 2000000 * 65536 := Nat.mul_le_mul (by omega) hby
  have hnl := hrd.1
  cases A with
  | none =>
    have hc := hA rfl
    have hn0 : n = 0 := by
      rcases hrd.2 with h0 | ⟨x, o, e1, _⟩
      · exact h0
      · cases e1
    subst hn0 hc
    have hnews : news = [] := List.eq_nil_of_length_eq_zero hnl
    subst hnews
    refine wpList_append_own_none hgd s x t ho base e i sz ht hi v l.length (l.flatMap enc) hs hown hx ?_
    exact h v w0 (by simpa using hown) (Chg.refl _ _) (Chg.refl _ _)
  | some ad =>
    refine wpList_append_own _ hgd s x t ho base e i z sz bytes ht hi hz0 hz1 hz2 hzs hsz v l.length (l.flatMap enc) hs hown ad n c (news.flatMap enc) hx ?_ ?_ ?_ (by unfold maxLen; omega) (by omega) hbase ?_
    · have : ∀ l : List α, (l.flatMap enc).length = l.length * sz := by
        intro l
        induction l with
        | nil => simp
        | cons y r ih => rw [List.flatMap_cons, List.length_append, hlen, ih, List.length_cons, Nat.succ_mul]; omega
      rw [this, hnl]
    · intro j u hu
      have hj := (List.getElem?_eq_some_iff.1 hu).1
      rcases hrd.2 with h0 | ⟨x, o, e1, _, e3⟩
      · subst h0
        have : news = [] := List.eq_nil_of_length_eq_zero hnl
        subst this
        simp at hj
      · cases e1
        rw [Addr.add_lit]
        have hdiv : ∃ y, news[j / sz]? = some y ∧ (enc y)[j % sz]? = some u := by
          clear e3 hmul hown h hx hrd
          induction news generalizing j n with
          | nil => simp at hu
          | cons y r ih =>
            rw [List.flatMap_cons] at hu
            by_cases hlt : j < sz
            · rw [List.getElem?_append_left (by rw [hlen]; exact hlt)] at hu
              exact ⟨y, by rw [Nat.div_eq_of_lt hlt]; rfl, by rw [Nat.mod_eq_of_lt hlt]; exact hu⟩
            · rw [List.getElem?_append_right (by rw [hlen]; omega), hlen] at hu
              obtain ⟨y', h1', h2'⟩ := ih (n := n - 1) (j := j - sz) (by omega) (by simp at hnl; omega) hu (List.getElem?_eq_some_iff.1 hu).1
              have e1 : j / sz = (j - sz) / sz + 1 := by
                rw [Nat.div_eq_sub_div hsz (by omega)]
              have e2 : j % sz = (j - sz) % sz := by
                rw [Nat.mod_eq_sub_mod (by omega)]
              exact ⟨y', by rw [e1]; simpa using h1', by rw [e2]; exact h2'⟩
        obtain ⟨y, hy1, hy2⟩ := hdiv
        have := e3 _ y hy1 _ u hy2
        rw [Nat.add_assoc, Nat.mul_comm, Nat.div_add_mod] at this
        exact this
    · intro u hu
      obtain ⟨y, _, hy⟩ := List.mem_flatMap.1 hu
      exact h1 y u hy
    · intro v' w' hown' hgrow hnil
      have hch : Chg (fun k => k < w0.heap.size ∧ ¬ v.ownBlock = some k) w0 w' := ⟨hgrow.os, hgrow.tape, hgrow.output, hgrow.size, fun k hk => hgrow.block k hk.1 (fun h => hk.2 h.symm)⟩
      refine h v' w' ?_ hch (hch.mono fun k hk => ⟨by omega, fun hv => ?_⟩)
      · unfold OwnL
        simpa [List.flatMap_append, hnl] using hown'
      · have := hown.lt k hv
        omega

theorem quiet_of_eq {P : Program} {f : FuncId} {args : Array Value} {w : World} {n : Nat} {v : Value}
    (h : Calls P f args (w.drewN n) fun e w' => e = .returned v ∧ w.drewN n = w') : Calls P f args (w.drewN n) fun e w'' => e = .returned v ∧ ∃ m, w'' = w.drewN m :=
  h.mono fun _ _ ⟨he, hm⟩ => ⟨he, n, hm.symm⟩

theorem tmod_bounds (v n : Int) (hn : 1 ≤ n) : -n < v.tmod n ∧ v.tmod n < n := by
  refine ⟨?_, Int.tmod_lt_of_pos v (by omega)⟩
  have := Int.tmod_lt_of_pos (-v) (show 0 < n by omega)
  rw [Int.neg_tmod] at this
  omega
theorem emod_of_tmod (v n : Int) (hn : 1 ≤ n) : v % n = if v.tmod n < 0 then v.tmod n + n else v.tmod n := by
  obtain ⟨h1, h2⟩ := tmod_bounds v n hn
  have h3 := Int.tmod_eq_emod (a := v) (b := n)
  have h4 := Int.emod_nonneg v (show n ≠ 0 by omega)
  have h5 := Int.emod_lt_of_pos v (show 0 < n by omega)
  have h6 : (n.natAbs : Int) = n := by omega
  split at h3 <;> split <;> omega

def SomeInt (lo hi : Int) (ty B b : Nat) (w : World) (e : Ending) (w' : World) : Prop :=
  ∃ r : Int, e = .returned (.int .i64 r) ∧ lo ≤ r ∧ r ≤ hi ∧ Chg (fun k => k < w.heap.size ∧ k ≠ b) w w' ∧ TP ty B w' b
end Go.Proofs.YtbnbjiddffihoaaGreatDoor

/- Standard forms of what a call leaves, and of what is known of memory, with one step lemma each. -/
namespace Go.Proofs.YtbnbjiddffihoaaGreatDoor
open Go.RowKit

def Ex (w w' : World) : Prop := Chg (· < w.heap.size) w w'
def Exb (b : Nat) (w w' : World) : Prop := Chg (fun k => k < w.heap.size ∧ k ≠ b) w w'

theorem Ex.refl (w : World) : Ex w w := Chg.refl _ w
theorem Exb.refl (b : Nat) (w : World) : Exb b w w := Chg.refl _ w
theorem Ex.size {w w' : World} (k : Ex w w') : w.heap.size ≤ w'.heap.size := Chg.size k
theorem Exb.size {b : Nat} {w w' : World} (k : Exb b w w') : w.heap.size ≤ w'.heap.size := Chg.size k
theorem Ex.nx {w w1 w2 : World} (h : Ex w w1) (k : Ex w1 w2) : Ex w w2 := Chg.next h k
theorem Exb.nxb {b : Nat} {w w1 w2 : World} (h : Exb b w w1) (k : Exb b w1 w2) : Exb b w w2 :=
  Chg.trans h (Chg.mono k (fun _ hk => ⟨Nat.lt_of_lt_of_le hk.1 h.size, hk.2⟩))
theorem Ex.b {w w' : World} (k : Ex w w') (b : Nat) : Exb b w w' := Chg.mono k (fun _ h => h.1)
theorem Exb.b {b : Nat} {w w' : World} (k : Exb b w w') (_ : Nat) : Exb b w w' := k
def Exl (b : Nat) (w w' : World) : Prop := Ex w w' ∧ w.heap.size ≤ b
theorem Exl.nxb {b : Nat} {w w1 w2 : World} (h : Exl b w w1) (k : Exb b w1 w2) : Exl b w w2 :=
  ⟨Chg.trans h.1 (Chg.mono k (fun _ hk => ⟨Nat.lt_of_lt_of_le hk h.1.size, by have := h.2; omega⟩)), h.2⟩
theorem Exl.nx {b : Nat} {w w1 w2 : World} (h : Exl b w w1) (k : Ex w1 w2) : Exl b w w2 := ⟨h.1.nx k, h.2⟩
theorem Exl.size {b : Nat} {w w' : World} (h : Exl b w w') : w.heap.size ≤ w'.heap.size := h.1.size
theorem Ex.alloc {w w' : World} (h : Ex w w') (o : Obj) : Ex w (w'.alloc o) := Chg.alloc h o (fun _ hk => Nat.lt_of_lt_of_le hk h.size)
theorem Exb.alloc {b : Nat} {w w' : World} (h : Exb b w w') (o : Obj) : Exb b w (w'.alloc o) := Chg.alloc h o (fun _ hk => Nat.lt_of_lt_of_le hk.1 h.size)
theorem Ex.new (w : World) (o : Obj) : Ex w (w.alloc o) := (Ex.refl w).alloc o
theorem Ex.drew {w w' : World} (h : Ex w w') : Ex w w'.drew := Chg.drew h
theorem Exb.drew {b : Nat} {w w' : World} (h : Exb b w w') : Exb b w w'.drew := Chg.drew h
theorem Ex.drewN {w w' : World} (h : Ex w w') (n : Nat) : Ex w (w'.drewN n) := Chg.drewN h n
theorem Ex.setNew {w w' : World} (h : Ex w w') {p : Addr} (v : Value) (hp : w.heap.size ≤ p.block) : Ex w (w'.setCell p v) := Chg.setCell h v (fun k (hk : k < w.heap.size) => by omega)
theorem Exb.setNew {b : Nat} {w w' : World} (h : Exb b w w') {p : Addr} (v : Value) (hp : w.heap.size ≤ p.block) : Exb b w (w'.setCell p v) := Chg.setCell h v (fun k (hk : k < w.heap.size ∧ k ≠ b) => by omega)
theorem Exb.setB {b : Nat} {w w' : World} (h : Exb b w w') {p : Addr} (v : Value) (hp : p.block = b) : Exb b w (w'.setCell p v) := Chg.setCell h v (fun k (hk : k < w.heap.size ∧ k ≠ b) => by rw [hp]; exact hk.2)
theorem Ex.of_exb {b : Nat} {w w' : World} (h : Exb b w w') (hb : w.heap.size ≤ b) : Ex w w' := Chg.mono h (fun k (hk : k < w.heap.size) => ⟨hk, by omega⟩)
def Sl {α : Type} (sz : Nat) (enc : α → List Value) (w : World) (a : Option Addr) (n : Nat) (l : List α) : Prop := Rd sz enc (· < w.heap.size) w a n l
def Slb {α : Type} (sz : Nat) (enc : α → List Value) (b : Nat) (w : World) (a : Option Addr) (n : Nat) (l : List α) : Prop := Rd sz enc (fun k => k < w.heap.size ∧ k ≠ b) w a n l
def Slf {α : Type} (sz : Nat) (enc : α → List Value) (w0 w : World) (a : Option Addr) (n : Nat) (l : List α) : Prop := Rd sz enc (fun k => w0.heap.size ≤ k ∧ k < w.heap.size) w a n l

section
variable {α : Type} {sz n b : Nat} {enc : α → List Value} {w w' w0 : World} {a : Option Addr} {l : List α}
theorem Sl.nx (h : Sl sz enc w a n l) (k : Ex w w') : Sl sz enc w' a n l :=
  (Rd.chg h k (fun _ hk => hk)).mono (fun _ hk => Nat.lt_of_lt_of_le hk k.size)
theorem Slb.nxb (h : Slb sz enc b w a n l) (k : Exb b w w') : Slb sz enc b w' a n l :=
  (Rd.chg h k (fun _ hk => hk)).mono (fun _ hk => ⟨Nat.lt_of_lt_of_le hk.1 k.size, hk.2⟩)
theorem Slf.nx (h : Slf sz enc w0 w a n l) (k : Ex w w') : Slf sz enc w0 w' a n l :=
  (Rd.chg h k (fun _ hk => hk.2)).mono (fun _ hk => ⟨hk.1, Nat.lt_of_lt_of_le hk.2 k.size⟩)
theorem Slb.sl (h : Slb sz enc b w a n l) : Sl sz enc w a n l := Rd.mono h (fun _ hk => hk.1)
theorem Slf.sl (h : Slf sz enc w0 w a n l) : Sl sz enc w a n l := Rd.mono h (fun _ hk => hk.2)
theorem Slf.slb (h : Slf sz enc w0 w a n l) (hb : b < w0.heap.size) : Slb sz enc b w a n l := Rd.mono h (fun k hk => ⟨hk.2, by have := hk.1; omega⟩)
theorem Sl.slb (h : Sl sz enc w a n l) (hb : w.heap.size ≤ b) : Slb sz enc b w a n l := Rd.mono h (fun k hk => ⟨hk, by have : k < w.heap.size := hk; omega⟩)
theorem Slf.old (h : Slf sz enc w' w a n l) (hw : w0.heap.size ≤ w'.heap.size) : Slf sz enc w0 w a n l := Rd.mono h (fun k hk => ⟨Nat.le_trans hw hk.1, hk.2⟩)
theorem Sl.len (h : Sl sz enc w a n l) : l.length = n := h.1
theorem Slb.len (h : Slb sz enc b w a n l) : l.length = n := h.1
theorem Slf.len (h : Slf sz enc w0 w a n l) : l.length = n := h.1
theorem Sl.nil (sz : Nat) (enc : α → List Value) (w : World) (a : Option Addr) : Sl sz enc w a 0 [] := Rd.nil _ _ _ _ _
theorem Slb.nil (sz : Nat) (enc : α → List Value) (b : Nat) (w : World) (a : Option Addr) : Slb sz enc b w a 0 [] := Rd.nil _ _ _ _ _
theorem Slf.nil (sz : Nat) (enc : α → List Value) (w0 w : World) (a : Option Addr) : Slf sz enc w0 w a 0 [] := Rd.nil _ _ _ _ _
theorem Sl.at (h : Sl sz enc w a n l) {j : Nat} (hj : j < n) : ∃ x o y, a = some ⟨x, o, none⟩ ∧ x < w.heap.size ∧ l[j]? = some y ∧ ∀ c u, (enc y)[c]? = some u → w.cell? ⟨x, o + j * sz + c, none⟩ = some u := Rd.at h hj
theorem Sl.lit {s : Nat} {cs : Array Value} {ty : TypeId} (l : List α) (hs : s = w.heap.size) (hn : l.length = n) (hsz : ∀ y, (enc y).length = sz) (hc : cs = (l.flatMap enc).toArray) : Sl sz enc (w.alloc (.cells cs ty)) (some ⟨s, 0, none⟩) n l :=
  Rd.lit l hs (by simp) hn hsz hc
theorem Slf.lit {s : Nat} {cs : Array Value} {ty : TypeId} (l : List α) (hs : s = w.heap.size) (hw : w0.heap.size ≤ w.heap.size) (hn : l.length = n) (hsz : ∀ y, (enc y).length = sz) (hc : cs = (l.flatMap enc).toArray) : Slf sz enc w0 (w.alloc (.cells cs ty)) (some ⟨s, 0, none⟩) n l :=
  Rd.lit l hs (by simp; exact hw) hn hsz hc
theorem Rd.take {S : Nat → Prop} {m : Nat} (h : Rd sz enc S w a n l) (hm : m ≤ n) : Rd sz enc S w a m (l.take m) := by
  refine ⟨by have := h.1; simp; omega, ?_⟩
  rcases h.2 with h2 | ⟨x, o, e1, e2, e3⟩
  · exact .inl (by omega)
  · refine .inr ⟨x, o, e1, e2, fun j y hj c u hu => e3 j y ?_ c u hu⟩
    rw [List.getElem?_take] at hj
    split at hj
    · exact hj
    · cases hj
theorem Sl.take {m : Nat} (h : Sl sz enc w a n l) (hm : m ≤ n) : Sl sz enc w a m (l.take m) := Rd.take h hm
theorem Rd.drop {S : Nat → Prop} {x o m : Nat} (h : Rd sz enc S w (some ⟨x, o, none⟩) n l) (hm : m ≤ n) : Rd sz enc S w (some ⟨x, o + m * sz, none⟩) (n - m) (l.drop m) := by
  refine ⟨by have := h.1; simp; omega, ?_⟩
  rcases h.2 with h2 | ⟨x', o', e1, e2, e3⟩
  · exact .inl (by omega)
  · cases e1
    refine .inr ⟨_, _, rfl, e2, fun j y hj c u hu => ?_⟩
    rw [List.getElem?_drop] at hj
    have := e3 (m + j) y hj c u hu
    rw [Nat.add_mul] at this
    rw [← this]; congr 2; omega
theorem Sl.drop {x o m : Nat} (h : Sl sz enc w (some ⟨x, o, none⟩) n l) (hm : m ≤ n) : Sl sz enc w (some ⟨x, o + m * sz, none⟩) (n - m) (l.drop m) := Rd.drop h hm
end

theorem OwnL.nx {α : Type} {sz e base : Nat} {enc : α → List Value} {w w' : World} {v : Value} {l : List α} (h : OwnL sz enc e base w v l) (k : Ex w w') : OwnL sz enc e base w' v l := h.chg k (fun _ hk _ => hk)
theorem OwnL.nxb {α : Type} {sz e base b : Nat} {enc : α → List Value} {w w' : World} {v : Value} {l : List α} (h : OwnL sz enc e base w v l) (hb : b < base) (k : Exb b w w') : OwnL sz enc e base w' v l := h.chg k (fun x hx hv => ⟨hx, by have := (h.lt x hv).1; omega⟩)
theorem OwnL.slf {α : Type} {sz e : Nat} {enc : α → List Value} {w0 w : World} {v : Value} {l : List α} (h : OwnL sz enc e w0.heap.size w v l) (hsz : ∀ y, (enc y).length = sz) :
    ∃ a cap, v = .slice a l.length cap ∧ Slf sz enc w0 w a l.length l ∧ l.length ≤ cap ∧ cap ≤ maxLen ∧ (a = none → cap = 0) := by
  have hd : ∀ a n c, v = .slice a n c → a = none → c = 0 := by
    intro a n c he hn
    rcases h.2 with ⟨h0, _⟩ | ⟨g, cap, cur, h0, _⟩
    · rw [h0] at he; cases he; rfl
    · rw [h0] at he; cases he; cases hn
  obtain ⟨a, cap, rfl, h1, h2, h3, _⟩ := h.rd hsz
  exact ⟨a, cap, rfl, h1, h2, h3, hd a _ _ rfl⟩

theorem OwnL.base {α : Type} {sz e base base' : Nat} {enc : α → List Value} {w : World} {v : Value} {l : List α} (h : OwnL sz enc e base w v l) (hb : base' ≤ base) : OwnL sz enc e base' w v l := by
  refine ⟨h.1, ?_⟩
  rcases h.2 with h2 | ⟨g, cap, cur, e1, e2, rest⟩
  · exact .inl h2
  · exact .inr ⟨g, cap, cur, e1, by omega, rest⟩
def TT (ty : Nat) (w : World) (b : Nat) : Prop := TP ty w.heap.size w b
theorem TT.nxb {ty b b' : Nat} {w w' : World} (h : TT ty w b) (k : Ex w w') (_ : b' = b) : TT ty w' b := (TP.chg h k (fun _ hk => hk)).mono k.size
theorem TT.nx {ty b : Nat} {w w' : World} (h : TT ty w b) (k : Ex w w') : TT ty w' b := (TP.chg h k (fun _ hk => hk)).mono k.size
theorem TT.lt {ty b : Nat} {w : World} (h : TT ty w b) : b < w.heap.size := TP.lt h
def Blk (w : World) (k : Nat) (cs : List Value) (ty : TypeId) : Prop := w.heap[k]? = some (.cells cs.toArray ty (0, 0))
theorem Blk.nx {w w' : World} {g : Nat} {cs : List Value} {ty : TypeId} (h : Blk w g cs ty) (k : Ex w w') : Blk w' g cs ty := (Chg.block k g (heap_lt h)).trans h
theorem Blk.nxb {w w' : World} {b g : Nat} {cs : List Value} {ty : TypeId} (h : Blk w g cs ty) (hb : g ≠ b) (k : Exb b w w') : Blk w' g cs ty := (Chg.block k g ⟨heap_lt h, hb⟩).trans h
theorem Blk.lt {w : World} {g : Nat} {cs : List Value} {ty : TypeId} (h : Blk w g cs ty) : g < w.heap.size := heap_lt h
theorem Blk.new (w : World) (cs : List Value) (ty : TypeId) : Blk (w.alloc (.cells cs.toArray ty)) w.heap.size cs ty := heap_new w _
theorem Blk.cell {w : World} {g : Nat} {cs : List Value} {ty : TypeId} (h : Blk w g cs ty) (j : Nat) (v : Value) (hv : cs[j]? = some v) : w.cell? ⟨g, j, none⟩ = some v := by
  unfold Blk at h; simp [World.cell?, h, hv]
theorem Blk.free {w : World} {g : Nat} {cs : List Value} {ty : TypeId} (h : Blk w g cs ty) (j : Nat) : w.frozen? ⟨g, j, none⟩ = false := by
  unfold Blk at h; simp [World.frozen?, h]
theorem Blk.set {w : World} {g : Nat} {cs : List Value} {ty : TypeId} (h : Blk w g cs ty) (j : Nat) (v : Value) : Blk (w.setCell ⟨g, j, none⟩ v) g (cs.set j v) ty := by
  have := heap_set h j v
  unfold Blk
  rw [this]; simp
theorem Blk.set_ne {w : World} {g g' j : Nat} {cs : List Value} {ty : TypeId} (h : Blk w g cs ty) (v : Value) (hne : g ≠ g') : Blk (w.setCell ⟨g', j, none⟩ v) g cs ty := heap_set_ne h hne
end Go.Proofs.YtbnbjiddffihoaaGreatDoor

/- copy inside one row of the call's own. -/
namespace Go.Proofs.YtbnbjiddffihoaaGreatDoor
open Go.RowKit

theorem run_copy_rowN {P : Program} (w : World) (dT sT ty elem : TypeId) (sz g o dLen dCap n : Nat) (a : Addr) (sLen sCap : Nat) (cur : Array Value) (t : TypeId) (cs : List Value)
    (hu : P.underlying dT = some (.slice elem)) (hs : (P.info? elem).map (·.size) = some sz)
    (hg : w.heap[g]? = some (.cells cur t (0, 0))) (hn : n = Nat.min sLen dLen) (hcs : cs.length = n * sz)
    (hsrc : ∀ j v, cs[j]? = some v → w.cell? (a.add j) = some v) (hfit : o + cs.length ≤ cur.size) (h1 : ∀ v ∈ cs, v.oneCell' = true) :
    (Builtin.copy_ #[dT, sT] ty #[.slice (some ⟨g, o, none⟩) dLen dCap, .slice (some a) sLen sCap]).run P w =
      .ok (goInt n) (w.setRow g (cur.toList.take o ++ cs ++ cur.toList.drop (o + cs.length)).toArray) := by
  have hl := run_loadCells_list (P := P) w a cs hsrc
  have hst := run_storeCells_at P g o t cs 0 cur w hg (by simpa using hfit) h1
  cases hq : P.info? elem with
  | none => simp [hq] at hs
  | some i =>
    have hi : i.size = sz := by simpa [hq] using hs
    rw [hcs] at hl
    simp [Builtin.copy_, run_underlying hu, Builtin.lenOf, Builtin.firstCells, sizeOf, typeInfo, hq, hi, ← hn, hl, hst]
theorem run_copy_none0 {P : Program} (w : World) (dT sT ty elem : TypeId) (sz : Nat) (d a : Option Addr) (dLen dCap sLen sCap : Nat) (hu : P.underlying dT = some (.slice elem)) (hs : (P.info? elem).map (·.size) = some sz)
    (hn : Nat.min sLen dLen = 0) : (Builtin.copy_ #[dT, sT] ty #[.slice d dLen dCap, .slice a sLen sCap]).run P w = .ok (goInt 0) w := by
  cases hq : P.info? elem with
  | none => simp [hq] at hs
  | some i =>
    cases d <;> cases a <;> simp [Builtin.copy_, run_underlying hu, Builtin.lenOf, Builtin.firstCells, sizeOf, typeInfo, hq, hn, storeCells, loadCells, loadCellsFrom]

section
variable {α : Type} {sz : Nat} {enc : α → List Value}
theorem flatN_len (hsz : ∀ y, (enc y).length = sz) (l : List α) : (l.flatMap enc).length = l.length * sz := by
  induction l with
  | nil => simp
  | cons y r ih => rw [List.flatMap_cons, List.length_append, hsz, ih, List.length_cons, Nat.succ_mul]; omega
theorem flatN_take (hsz : ∀ y, (enc y).length = sz) : ∀ (l : List α) (m : Nat), (l.take m).flatMap enc = (l.flatMap enc).take (m * sz)
  | [], m => by simp
  | y :: r, 0 => by simp
  | y :: r, m + 1 => by
    rw [List.take_succ_cons, List.flatMap_cons, List.flatMap_cons, flatN_take hsz r m, Nat.succ_mul, Nat.add_comm (m * sz), List.take_append, hsz,
      List.take_of_length_le (l := enc y) (by rw [hsz]; omega), Nat.add_sub_cancel_left]
theorem flatN_drop (hsz : ∀ y, (enc y).length = sz) : ∀ (l : List α) (m : Nat), (l.drop m).flatMap enc = (l.flatMap enc).drop (m * sz)
  | [], m => by simp
  | y :: r, 0 => by simp
  | y :: r, m + 1 => by
    rw [List.drop_succ_cons, List.flatMap_cons, flatN_drop hsz r m, Nat.succ_mul, Nat.add_comm (m * sz), List.drop_append, hsz,
      List.drop_of_length_le (l := enc y) (by rw [hsz]; omega), Nat.add_sub_cancel_left, List.nil_append]

theorem wp_copy_shift {P : Program} {o : Oper} {a : Act} {K : Act → World → Prop} {Q : Exit → Act → World → Prop} (w : World) (d s : Operand) (t : TypeId)
    (ho : o.op = .call { callee := .builtin .copy, args := #[d, s], argTypes := #[t, t] }) (base : Nat) (e : TypeId) (hu : P.underlying t = some (.slice e)) (hi : (P.info? e).map (·.size) = some sz)
    (hsz : ∀ y, (enc y).length = sz) (h1 : ∀ y, ∀ u ∈ enc y, u.oneCell' = true)
    (g n cap m : Nat) (L : List α) (hown : OwnL sz enc e base w (.slice (some ⟨g, 0, none⟩) (n + 1) cap) L) (hm : m ≤ n) (dp sp : Option Addr) (cd cs : Nat)
    (hd : a.eval d = .slice dp (n - m) cd) (hs : a.eval s = .slice sp (n + 1 - m) cs) (hp : m < n → dp = some ⟨g, (m + 1) * sz, none⟩ ∧ sp = some ⟨g, m * sz, none⟩)
    (h : ∀ w', OwnL sz enc e base w' (.slice (some ⟨g, 0, none⟩) (n + 1) cap) (L.take (m + 1) ++ (L.drop m).take (n - m)) → Chg (· ≠ g) w w' → w'.heap.size = w.heap.size → K (a.put o.dst (goInt (n - m : Nat))) w') : o.wp P a w K Q := by
  have hL : L.length = n + 1 := by
    rcases hown.2 with ⟨h1, _⟩ | ⟨g', cap', cur, e1, _⟩
    · cases h1
    · have e2 : g = g' ∧ n + 1 = L.length ∧ cap = cap' := by simpa using e1
      exact e2.2.1.symm
  rcases Nat.lt_or_ge m n with hlt | hge
  · obtain ⟨rfl, rfl⟩ := hp hlt
    rcases hown.2 with ⟨h1', _⟩ | ⟨g', cap', cur, e1, e2, e3, e4, e5, e6, e7⟩
    · cases h1'
    · obtain ⟨rfl, hLn, rfl⟩ : g = g' ∧ n + 1 = L.length ∧ cap = cap' := by simpa using e1
      rw [← hLn] at e4 e7
      have hfl : (((L.drop m).take (n - m)).flatMap enc).length = (n - m) * sz := by rw [flatN_len hsz, List.length_take, List.length_drop]; congr 1; omega
      have hmul : (m + 1) * sz + (n - m) * sz = (n + 1) * sz := by rw [← Nat.add_mul]; congr 1; omega
      have hle : (n + 1) * sz ≤ cap * sz := Nat.mul_le_mul_right _ (by omega)
      have hrun := run_copy_rowN (P := P) w t t o.type e sz g ((m + 1) * sz) (n - m) cd (n - m) ⟨g, m * sz, none⟩ (n + 1 - m) cs cur e (((L.drop m).take (n - m)).flatMap enc) hu hi e3
        (by show n - m = min _ _; omega) hfl
        (fun j v hj => by
          rw [Addr.add_lit, World.cell?, e3]
          show cur[m * sz + j]? = some v
          have hjl := (List.getElem?_eq_some_iff.1 hj).1
          rw [hfl] at hjl
          rw [flatN_take hsz, flatN_drop hsz, List.getElem?_take, if_pos hjl, List.getElem?_drop, ← e7, List.getElem?_take] at hj
          split at hj
          · simpa using hj
          · cases hj)
        (by rw [hfl, hmul, e6]; exact hle) (fun v hv => by obtain ⟨y, _, hy⟩ := List.mem_flatMap.1 hv; exact h1 y v hy)
      unfold Oper.wp execOp
      simp only [ho, resolve, invoke, builtin, Sem.run_bind, Sem.run_pure, Result.andThen_ok, List.map_toArray, List.map_cons, List.map_nil, hd, hs, hrun]
      refine h _ ⟨?_, .inr ⟨g, cap, _, ?_, e2, setRow_heap w g cur _ e _ e3, ?_, e5, ?_, ?_⟩⟩ ⟨rfl, rfl, rfl, by simp [World.setRow], fun k hk => setRow_other w g k _ hk⟩ (by simp [World.setRow])
      · rw [flatN_len hsz]
      · congr 1
        rw [List.length_append, List.length_take, List.length_take, List.length_drop]; omega
      · rw [List.length_append, List.length_take, List.length_take, List.length_drop]; omega
      · simp only [List.size_toArray, List.length_append, List.length_take, List.length_drop, Array.length_toList, hfl]; omega
      · rw [List.length_append, List.length_take, List.length_take, List.length_drop, List.flatMap_append, flatN_take hsz L, ← e7]
        rw [List.take_take, show (min (m + 1) L.length + min (n - m) (L.length - m)) = n + 1 by omega, show min ((m + 1) * sz) ((n + 1) * sz) = (m + 1) * sz from Nat.min_eq_left (Nat.mul_le_mul_right _ (by omega))]
        show (_ ++ _ ++ _ : List Value).take _ = _
        rw [List.append_assoc]
        have hA : (cur.toList.take ((m + 1) * sz)).length = (m + 1) * sz := by rw [List.length_take, Array.length_toList, e6]; exact Nat.min_eq_left (by omega)
        rw [List.take_append, hA, List.take_of_length_le (by omega), ← hmul, Nat.add_sub_cancel_left, List.take_append, hfl, Nat.sub_self, List.take_of_length_le (l := List.flatMap enc _) (by rw [hfl]; exact Nat.le_refl _), List.take_zero, List.append_nil]
  · obtain rfl : m = n := by omega
    have hrun := run_copy_none0 (P := P) w t t o.type e sz dp sp (m - m) cd (m + 1 - m) cs hu hi (by show min _ _ = 0; omega)
    unfold Oper.wp execOp
    simp only [ho, resolve, invoke, builtin, Sem.run_bind, Sem.run_pure, Result.andThen_ok, List.map_toArray, List.map_cons, List.map_nil, hd, hs, hrun]
    have := h w (by rw [Nat.sub_self, List.take_zero, List.append_nil, List.take_of_length_le (by omega)]; exact hown) (Chg.refl _ _) rfl
    rw [Nat.sub_self] at this
    exact this
end
end Go.Proofs.YtbnbjiddffihoaaGreatDoor

/- Words: the common beginning of two numbers, by their bits. -/
namespace Go.Proofs.YtbnbjiddffihoaaGreatDoor
open Go.RowKit

theorem wrap_u32n (n : Int) : IntKind.u32.wrap n = n % 4294967296 := by simp [IntKind.wrap, IntKind.signed, IntKind.bits]
theorem bits_u32 (op : BinOp) (f : Nat → Nat → Nat) (hf : ∀ a b : Nat, a < 4294967296 → b < 4294967296 → f a b < 4294967296)
    (hop : ∀ x y : Int, bits op .u32 x y = IntKind.u32.wrap ((f (BitVec.ofInt 32 x).toNat (BitVec.ofInt 32 y).toNat : Nat) : Int)) (a b : Nat) (ha : a < 4294967296) (hb : b < 4294967296) : bits op .u32 (a : Int) (b : Int) = ((f a b : Nat) : Int) := by
  have h1 : (BitVec.ofInt 32 (a : Int)).toNat = a := by
    rw [BitVec.ofInt_natCast, BitVec.toNat_ofNat]; exact Nat.mod_eq_of_lt (by omega)
  have h2 : (BitVec.ofInt 32 (b : Int)).toNat = b := by
    rw [BitVec.ofInt_natCast, BitVec.toNat_ofNat]; exact Nat.mod_eq_of_lt (by omega)
  have := hf a b ha hb
  rw [hop, h1, h2, wrap_u32n]
  omega
theorem bits_and_u32n (a b : Nat) (ha : a < 4294967296) (hb : b < 4294967296) : bits .and .u32 (a : Int) (b : Int) = ((a &&& b : Nat) : Int) :=
  bits_u32 .and (· &&& ·) (fun a b ha _ => Nat.and_lt_two_pow (n := 32) _ (by omega)) (fun x y => by
    show IntKind.u32.wrap ((BitVec.ofInt 32 x &&& BitVec.ofInt 32 y).toNat : Int) = _
    rw [BitVec.toNat_and]) a b ha hb
theorem bits_xor_u32n (a b : Nat) (ha : a < 4294967296) (hb : b < 4294967296) : bits .xor .u32 (a : Int) (b : Int) = ((a ^^^ b : Nat) : Int) :=
  bits_u32 .xor (· ^^^ ·) (fun a b ha hb => Nat.xor_lt_two_pow (n := 32) (by omega) (by omega)) (fun x y => by
    show IntKind.u32.wrap ((BitVec.ofInt 32 x ^^^ BitVec.ofInt 32 y).toNat : Int) = _
    rw [BitVec.toNat_xor]) a b ha hb

theorem tz32_keyn (x a : Nat) (hx : x < 4294967296) (hx0 : x ≠ 0) (hlow : x &&& (4294967296 - x) = a) :
    bits BinOp.and IntKind.u32 (x : Int) (-(x : Int) % 4294967296) * 125613361 % 4294967296 / 134217728 = ((a * 125613361 % 4294967296 / 134217728 : Nat) : Int) := by
  have e1 : -(x : Int) % 4294967296 = ((4294967296 - x : Nat) : Int) := by omega
  rw [e1, bits_and_u32n x _ hx (by omega), hlow]
  omega

def commonN (a b : Nat) : Nat := min (Lib.ctz 32 (a ^^^ b)) 16
theorem commonN_le (a b : Nat) : commonN a b ≤ 16 := Nat.min_le_right _ _
theorem commonN_comm (a b : Nat) : commonN a b = commonN b a := by unfold commonN; rw [Nat.xor_comm]
theorem xor_lt {a b : Nat} (ha : a < 4294967296) (hb : b < 4294967296) : a ^^^ b < 4294967296 := Nat.xor_lt_two_pow (n := 32) (by omega) (by omega)
theorem testBit_pow_mul (k m i : Nat) : (2 ^ k * (2 * m + 1)).testBit i = (decide (k ≤ i) && (2 * m + 1).testBit (i - k)) := by
  rw [Nat.testBit_two_pow_mul]
theorem common_lt {a b i : Nat} (ha : a < 4294967296) (hb : b < 4294967296) (hi : i < commonN a b) : a.testBit i = b.testBit i := by
  have hx := xor_lt ha hb
  by_cases h0 : a ^^^ b = 0
  · have : (a ^^^ b).testBit i = false := by rw [h0]; simp
    rw [Nat.testBit_xor] at this
    simpa using this
  · obtain ⟨m, hm, hk⟩ := Lib.ctzFrom_spec 32 (a ^^^ b) (by omega) hx
    have hc : Lib.ctz 32 (a ^^^ b) = Lib.ctzFrom 32 (a ^^^ b) := by unfold Lib.ctz; rw [if_neg h0]
    have hi' : i < Lib.ctzFrom 32 (a ^^^ b) := by rw [← hc]; exact Nat.lt_of_lt_of_le hi (Nat.min_le_left _ _)
    have ht : (a ^^^ b).testBit i = false := by
      rw [hm, testBit_pow_mul]; simp; omega
    rw [Nat.testBit_xor] at ht
    simpa using ht
theorem common_at {a b : Nat} (ha : a < 4294967296) (hb : b < 4294967296) (hi : commonN a b < 16) : a.testBit (commonN a b) ≠ b.testBit (commonN a b) := by
  have hx := xor_lt ha hb
  by_cases h0 : a ^^^ b = 0
  · unfold commonN Lib.ctz at hi
    rw [if_pos h0] at hi
    omega
  · obtain ⟨m, hm, hk⟩ := Lib.ctzFrom_spec 32 (a ^^^ b) (by omega) hx
    have hc : Lib.ctz 32 (a ^^^ b) = Lib.ctzFrom 32 (a ^^^ b) := by unfold Lib.ctz; rw [if_neg h0]
    have hcc : commonN a b = Lib.ctzFrom 32 (a ^^^ b) := by
      unfold commonN at hi ⊢
      omega
    have ht : (a ^^^ b).testBit (commonN a b) = true := by
      rw [hcc]
      conv => lhs; arg 1; rw [hm]
      rw [testBit_pow_mul]; simp
    rw [Nat.testBit_xor] at ht
    intro he
    rw [he] at ht
    simp at ht
theorem common_unique {a b c : Nat} (ha : a < 4294967296) (hb : b < 4294967296) (hc : c ≤ 16) (h1 : ∀ i, i < c → a.testBit i = b.testBit i) (h2 : c < 16 → a.testBit c ≠ b.testBit c) : c = commonN a b := by
  rcases Nat.lt_trichotomy c (commonN a b) with h | h | h
  · exact absurd (common_lt ha hb h) (h2 (by have := commonN_le a b; omega))
  · exact h
  · exact absurd (h1 _ h) (common_at ha hb (by omega))
theorem common_self (a : Nat) : commonN a a = 16 := by unfold commonN; simp [Lib.ctz]
theorem common_min {a b c : Nat} (ha : a < 4294967296) (hb : b < 4294967296) (hc : c < 4294967296) : min (commonN a b) (commonN b c) ≤ commonN a c := by
  rcases Nat.lt_or_ge (commonN a c) (min (commonN a b) (commonN b c)) with h | h
  · have h1 := common_lt ha hb (i := commonN a c) (by omega)
    have h2 := common_lt hb hc (i := commonN a c) (by omega)
    exact absurd (h1.trans h2) (common_at ha hc (by have := commonN_le a b; omega))
  · exact h
def bitN (a : Nat) (i : Int) : Nat := if i < 0 ∨ 16 ≤ i then 0 else a / 2 ^ i.toNat % 2
theorem testBit_of (a i : Nat) : a.testBit i = decide (a / 2 ^ i % 2 = 1) := by
  rw [Nat.testBit_eq_decide_div_mod_eq]
theorem bit_eq_iff (a b i : Nat) : a.testBit i = b.testBit i ↔ a / 2 ^ i % 2 = b / 2 ^ i % 2 := by
  rw [testBit_of, testBit_of]
  have h1 := Nat.mod_lt (a / 2 ^ i) (show 2 > 0 by omega)
  have h2 := Nat.mod_lt (b / 2 ^ i) (show 2 > 0 by omega)
  constructor
  · intro h
    by_cases h3 : a / 2 ^ i % 2 = 1
    · have : b / 2 ^ i % 2 = 1 := by simpa [h3] using h.symm
      omega
    · have : ¬ b / 2 ^ i % 2 = 1 := by simpa [h3] using h.symm
      omega
  · intro h; rw [h]
theorem bit_key (a : Nat) (i : Int) (ha : a < 4294967296) (h0 : 0 ≤ i) (h1 : i < 16) : wrap64 (bits BinOp.and IntKind.u32 ((a : Int) / 2 ^ i.toNat) 1) = (bitN a i : Int) := by
  have e1 : ((a : Int) / 2 ^ i.toNat) = ((a / 2 ^ i.toNat : Nat) : Int) := by simp
  have hle : a / 2 ^ i.toNat ≤ a := Nat.div_le_self _ _
  have := bits_and_u32n (a / 2 ^ i.toNat) 1 (by omega) (by omega)
  rw [e1]
  rw [show ((1 : Nat) : Int) = 1 from rfl] at this
  rw [this, Nat.and_one_is_mod]
  unfold bitN
  rw [if_neg (by omega)]
  have := Nat.mod_lt (a / 2 ^ i.toNat) (show 2 > 0 by omega)
  generalize a / 2 ^ i.toNat % 2 = m at *
  unfold wrap64
  omega
theorem bit_zero (a : Nat) (i : Int) (h : i < 0 ∨ 16 ≤ i) : (bitN a i : Int) = 0 := by unfold bitN; rw [if_pos h]; rfl
end Go.Proofs.YtbnbjiddffihoaaGreatDoor

/- Walks over the reference of words. -/
namespace Go.Proofs.YtbnbjiddffihoaaGreatDoor
open Go.RowKit

set_option maxHeartbeats 1000000 in
theorem bit_r (a : Nat) (i : Int) (w : World) (ha : a < 4294967296) (hi1 : -9223372036854775808 ≤ i) (hi2 : i ≤ 9223372036854775807) :
    Calls Tryz.prog 86 #[.int .u32 a, .int .i64 i] w fun e w' => e = .returned (.int .i64 (bitN a i)) ∧ w = w' := by
  by_cases hi : i < 0 ∨ 16 ≤ i
  · have hz := Lib.hid (bit_zero a i hi)
    rcases Int.lt_or_le i 0 with h | h
    · have d1 : decide (i < 0) = true := by simpa using h
      clear hi
      go_enter Tryz.func86, Tryz.ntmps86
      go_wp2
      go_ret
      exact ⟨by rw [hz.out]; rfl, rfl⟩
    · have d1 : decide (i < 0) = false := by simpa using h
      have d2 : decide (16 ≤ i) = true := by simp; omega
      clear hi
      go_enter Tryz.func86, Tryz.ntmps86
      go_wp2
      go_ret
      exact ⟨by rw [hz.out]; rfl, rfl⟩
  · have hk := Lib.hid (bit_key a i ha (by omega) (by omega))
    have d1 : decide (i < 0) = false := by simp; omega
    have d2 : decide (16 ≤ i) = false := by simp; omega
    have e1 : 0 ≤ i := by omega
    have e2 : i < 16 := by omega
    clear hi
    go_enter Tryz.func86, Tryz.ntmps86
    go_wp2
    go_ret
    exact ⟨by rw [← hk.out]; rfl, rfl⟩

theorem bitN_nat (a k : Nat) : bitN a (k : Int) = if 16 ≤ k then 0 else a / 2 ^ k % 2 := by
  unfold bitN
  by_cases h : 16 ≤ k
  · rw [if_pos (by omega), if_pos h]
  · rw [if_neg (by omega), if_neg h]; simp

set_option maxHeartbeats 1000000 in
theorem common_r (a b : Nat) (w : World) (ha : a < 4294967296) (hb : b < 4294967296) :
    Calls Tryz.prog 161 #[.int .u32 a, .int .u32 b] w fun e w' => e = .returned (.int .i64 (commonN a b)) ∧ w = w' := by
  go_enter Tryz.func161, Tryz.ntmps161
  go_wp2
  go_loop [5] (fun i => ∃ k : Nat, k ≤ 16 ∧ i = .int .i64 k ∧ ∀ i, i < k → a.testBit i = b.testBit i) (fun i => 16 - (intOf i).toNat)
  case atStart => exact ⟨0, by omega, rfl, by omega⟩
  case round =>
    obtain ⟨k, hk, rfl, hbits⟩ := hrel
    have Hb := Lib.hid hbits
    clear hbits
    by_cases hlt : k < 16
    · by_cases heq : a.testBit k = b.testBit k
      · have H2 : Hid (bitN a (k : Int) = bitN b (k : Int)) := by
          show bitN a (k : Int) = bitN b (k : Int)
          rw [bitN_nat, bitN_nat, if_neg (by omega), if_neg (by omega)]
          exact (bit_eq_iff a b k).1 heq
        have Heq := Lib.hid heq
        clear heq
        go_wp2_with fail
        refine (bit_r _ _ _ ha (by omega) (by omega)).mono ?_
        rintro e w1 ⟨rfl, rfl⟩
        go_wp2_with fail
        refine (bit_r _ _ _ hb (by omega) (by omega)).mono ?_
        rintro e w1 ⟨rfl, rfl⟩
        rw [H2.out]
        go_wp2_with fail
        go_round
        case rel => exact ⟨k + 1, by omega, by go_num, fun i hi => by
          by_cases h : i = k
          · subst h; exact Heq.out
          · exact Hb.out i (by omega)⟩
        case measure => simp [intOf]; omega
      · have H2 : ((bitN a (k : Int) : Int) == (bitN b (k : Int) : Int)) = false := by
          rw [bitN_nat, bitN_nat, if_neg (by omega), if_neg (by omega)]
          have hne : ¬ a / 2 ^ k % 2 = b / 2 ^ k % 2 := fun h => heq ((bit_eq_iff a b k).2 h)
          generalize a / 2 ^ k % 2 = x at *
          generalize b / 2 ^ k % 2 = y at *
          exact beq_eq_false_iff_ne.2 (by omega)
        have HC : Hid (commonN a b = k) := (common_unique ha hb (by omega) Hb.out (fun _ => heq)).symm
        clear heq
        go_wp2_with fail
        refine (bit_r _ _ _ ha (by omega) (by omega)).mono ?_
        rintro e w1 ⟨rfl, rfl⟩
        go_wp2_with fail
        refine (bit_r _ _ _ hb (by omega) (by omega)).mono ?_
        rintro e w1 ⟨rfl, rfl⟩
        go_wp2_with fail
        go_ret
        exact ⟨by rw [HC.out]; rfl, rfl⟩
    · have HC : Hid (commonN a b = k) := (common_unique ha hb (by omega) Hb.out (fun h => absurd h (by omega))).symm
      have d1 : decide ((k : Int) < 16) = false := by simp; omega
      go_wp2_with fail
      go_ret
      exact ⟨by rw [HC.out]; rfl, rfl⟩

def sameN (a b : Nat) (h : Int) : Bool := decide (h ≤ (commonN a b : Int))
set_option maxHeartbeats 1000000 in
theorem same_r (a b : Nat) (h : Int) (w : World) (ha : a < 4294967296) (hb : b < 4294967296) :
    Calls Tryz.prog 157 #[.int .u32 a, .int .u32 b, .int .i64 h] w fun e w' => e = .returned (.bool (sameN a b h)) ∧ w = w' := by
  go_enter Tryz.func157, Tryz.ntmps157
  go_wp2_with fail
  refine (common_r _ _ _ ha hb).mono ?_
  rintro e w1 ⟨rfl, rfl⟩
  go_wp2_with fail
  go_ret
  exact ⟨rfl, rfl⟩
def validN (a : Nat) : Bool := decide ((a : Int) ≤ 65535)
theorem wvalid_r (a : Nat) (w : World) : Calls Tryz.prog 103 #[.int .u32 a] w fun e w' => e = .returned (.bool (validN a)) ∧ w = w' := by
  have HV : Hid (validN a = decide ((a : Int) < 65536)) := by
    show validN a = _
    unfold validN
    rw [decide_eq_decide]
    omega
  go_enter Tryz.func103, Tryz.ntmps103
  go_wp2
  go_ret
  exact ⟨by rw [HV.out]; rfl, rfl⟩

end Go.Proofs.YtbnbjiddffihoaaGreatDoor

/- Nodes, and the walk over Group of the reference of words. -/
namespace Go.Proofs.YtbnbjiddffihoaaGreatDoor
open Go.RowKit

structure Nd where
  id : Int
  key : ByteArray
  word : Nat
def encN (x : Nd) : List Value := [.int .i64 x.id, .string x.key, .int .u32 x.word]
theorem Tryz.infoN : (Tryz.prog.info? 57).map (fun i => (i.zero, i.size, i.bytes)) = some (some (.agg #[.int .i64 0, .string ByteArray.empty, .int .u32 0]), 3, 32) := by kernel_rfl

def NodesPost (l : List Nd) (w : World) (e : Ending) (w' : World) : Prop :=
  ∃ (a : Option Addr) (n cap : Nat), e = .returned (.slice a n cap) ∧ Rd 3 encN (fun k => w.heap.size ≤ k ∧ k < w'.heap.size) w' a n l ∧ Chg (· < w.heap.size) w w'

def groupN (l : List Nd) (h : Int) (v : Nat) : List Nd := l.filter fun x => sameN x.word v h
theorem take_snocN {α : Type} (l : List α) (k : Nat) (y : α) (h : l[k]? = some y) : l.take (k + 1) = l.take k ++ [y] := by
  rw [List.take_add_one, h]; rfl
theorem groupN_snoc (l : List Nd) (h : Int) (v : Nat) (k : Nat) (y : Nd) (hy : l[k]? = some y) : groupN (l.take (k + 1)) h v = if sameN y.word v h then groupN (l.take k) h v ++ [y] else groupN (l.take k) h v := by
  unfold groupN
  rw [take_snocN l k y hy, List.filter_append]
  cases hs : sameN y.word v h <;> simp [hs]
theorem groupN_length (l : List Nd) (h : Int) (v : Nat) : (groupN l h v).length ≤ l.length := List.length_filter_le _ _

def GroupRel (l : List Nd) (h : Int) (v : Nat) (w : World) (o i : Value) (wr : World) : Prop :=
  ∃ k : Nat, k ≤ l.length ∧ i = .int .i64 k ∧ OwnL 3 encN 57 w.heap.size wr o (groupN (l.take k) h v) ∧ Chg (· < w.heap.size) w wr

set_option maxHeartbeats 1000000 in
theorem group_r {S : Nat → Prop} (a : Option Addr) (n cap : Nat) (l : List Nd) (h : Int) (v : Nat) (w : World) (hr : Rd 3 encN S w a n l) (hS : ∀ k, S k → k < w.heap.size) (hn : n ≤ 1000)
    (hw : ∀ x ∈ l, x.word < 4294967296) (hv : v < 4294967296) :
    Calls Tryz.prog 140 #[.slice a n cap, .int .i64 h, .int .u32 v] w (NodesPost (groupN l h v) w) := by
  have hlen := hr.1
  have HL := Lib.hid hlen
  have HW := Lib.hid hw
  clear hlen hw
  go_enter Tryz.func140, Tryz.ntmps140
  go_wp2
  go_loopw [7, 8] (fun o i wr => GroupRel l h v w o i wr) (fun _ i _ => n - (intOf i).toNat)
  case atStart => exact ⟨0, by omega, rfl, OwnL.nil _ _ _ _ _, Chg.refl _ _⟩
  case round =>
    obtain ⟨k, hk, rfl, hown, hc⟩ := hrel
    obtain ⟨wo, rfl⟩ : ∃ wo : World, wo = wr := ⟨_, rfl⟩
    have hwo := hr.chg hc hS
    have hsz := hc.size
    have hgl := groupN_length (l.take k) h v
    rw [List.length_take] at hgl
    have hkl := HL.out
    by_cases hlt' : k < n
    · by_cases h16 : h ≤ 16
      · obtain ⟨x, o, y, rfl, hx, hy, hcell⟩ := hwo.at hlt'
        have e0 : wo.cell? ⟨x, o + k * 3, none⟩ = some (.int .i64 y.id) := hcell 0 _ rfl
        have e1 : wo.cell? ⟨x, o + k * 3 + 1, none⟩ = some (.string y.key) := hcell 1 _ rfl
        have e2 : wo.cell? ⟨x, o + k * 3 + 2, none⟩ = some (.int .u32 y.word) := hcell 2 _ rfl
        have e3 : wo.cell? ⟨x, o + k * 3 + 1 + 1, none⟩ = some (.int .u32 y.word) := by simpa [Nat.add_assoc] using hcell 2 _ rfl
        have hyw := HW.out y (List.mem_of_getElem? hy)
        have Hy := Lib.hid hy
        clear hy hcell hr hwo hkl
        by_cases hs : sameN y.word v h = true
        · go_wp2_with (first
            | (go_at_call 157; refine (same_r _ _ _ _ hyw hv).mono ?_; rintro e w1 ⟨rfl, rfl⟩)
            | (at_builtin; go_loud (refine wpList_append_lit (enc := encN) wo rfl _ _ 23 rfl w.heap.size 57 (.agg #[.int .i64 0, .string ByteArray.empty, .int .u32 0]) 3 32 Tryz.underlying23 Tryz.infoN rfl (by omega) (by omega) _ _ hown rfl y _ rfl rfl (by simp [encN, Value.oneCell']) _ (by simp) rfl (by omega) (by omega) _ ?_); intro v' w3 hown3 _ hch3 hz3))
          go_roundw
          case rel => exact ⟨k + 1, by have := HL.out; omega, by go_num, by rw [groupN_snoc l h v k y Hy.out, if_pos hs]; exact hown3, hc.then hch3 (fun _ h => h)⟩
          case measure => simp [intOf]; omega
        · have hs : sameN y.word v h = false := by simpa using hs
          go_wp2_with (go_at_call 157; refine (same_r _ _ _ _ hyw hv).mono ?_; rintro e w1 ⟨rfl, rfl⟩)
          go_roundw
          case rel => exact ⟨k + 1, by have := HL.out; omega, by go_num, by rw [groupN_snoc l h v k y Hy.out, if_neg (by simp [hs])]; exact hown, hc⟩
          case measure => simp [intOf]; omega
      · have hnone : ∀ l' : List Nd, groupN l' h v = [] := fun l' => by
          unfold groupN
          rw [List.filter_eq_nil_iff]
          intro x _
          have := commonN_le x.word v
          unfold sameN
          simp; omega
        have d1 : decide (h ≤ 16) = false := by simpa using h16
        rw [hnone] at hown
        obtain ⟨a', cap', rfl, hrd, _⟩ := hown.rd (fun _ => rfl)
        have HN := Lib.hid (hnone l)
        clear hown hr hwo hnone
        go_wp2
        go_ret
        exact ⟨a', _, cap', rfl, by rw [HN.out]; exact hrd, hc⟩
    · obtain rfl : k = n := by omega
      rw [List.take_of_length_le (by omega)] at hown
      obtain ⟨a', cap', rfl, hrd, _⟩ := hown.rd (fun _ => rfl)
      clear hown hr hwo
      go_wp2
      go_ret
      exact ⟨a', _, cap', rfl, hrd, hc⟩

end Go.Proofs.YtbnbjiddffihoaaGreatDoor

/- Nodes: when two lists are equal, which lists are rosters. -/
namespace Go.Proofs.YtbnbjiddffihoaaGreatDoor
open Go.RowKit

theorem str_neN {x y : ByteArray} (h : ¬ x = y) : (x.toList == y.toList) = false := by
  rw [ByteArray.toList_eq, ByteArray.toList_eq, beq_eq_false_iff_ne]
  intro he
  exact h (ByteArray.ext (Array.toList_inj.1 he))
theorem str_eqN {x y : ByteArray} (h : x = y) : (x.toList == y.toList) = true := by subst h; simp

theorem vkey_r (s : ByteArray) (w : World) : Calls Tryz.prog 102 #[.string s] w fun e w' => e = .returned (.bool (decide ((s.size : Int) ≤ 64))) ∧ w = w' := by
  go_enter Tryz.func102, Tryz.ntmps102
  go_wp2
  go_ret
  exact ⟨rfl, rfl⟩

def badN (x : Nd) : Bool := decide (x.id < 1) || decide (2147483647 < x.id) || !decide ((x.key.size : Int) ≤ 64) || !validN x.word
def eqN (x y : Nd) : Bool := x.id == y.id || x.key.toList == y.key.toList
def dupN (l : List Nd) : Bool := (List.range l.length).any fun (i : Nat) => (List.range i).any fun (k : Nat) => match l[i]?, l[k]? with | some x, some y => eqN x y | _, _ => false
theorem dupN_iff (l : List Nd) : dupN l = true ↔ ∃ (i k : Nat) (x y : Nd), k < i ∧ l[i]? = some x ∧ l[k]? = some y ∧ eqN x y = true := by
  unfold dupN
  simp only [List.any_eq_true, List.mem_range]
  constructor
  · rintro ⟨i, _, k, hk, h⟩
    cases hx : l[i]? with
    | none => simp [hx] at h
    | some x =>
      cases hy : l[k]? with
      | none => simp [hx, hy] at h
      | some y => exact ⟨i, k, x, y, hk, hx, hy, by simpa [hx, hy] using h⟩
  · rintro ⟨i, k, x, y, hk, hx, hy, he⟩
    exact ⟨i, (List.getElem?_eq_some_iff.1 hx).1, k, hk, by simpa [hx, hy] using he⟩
def checkN (l : List Nd) : Int := if 64 < l.length then 3 else if l.any badN then 1 else if dupN l then 5 else 0

def N2Rel (n : Nat) (l : List Nd) (w : World) (i j : Value) (wr : World) : Prop :=
  ∃ k : Nat, k ≤ n ∧ i = .int .i64 k ∧ Ex w wr ∧ ∀ i' k' x y, i' < k → k' < i' → l[i']? = some x → l[k']? = some y → eqN x y = false
def N3Rel (n : Nat) (l : List Nd) (x : Nd) (w : World) (i : Value) (wr : World) : Prop :=
  ∃ k : Nat, k ≤ n ∧ i = .int .i64 k ∧ Ex w wr ∧ ∀ k' y, k' < k → l[k']? = some y → eqN x y = false
def N1Rel (n : Nat) (l : List Nd) (w : World) (i : Value) (wr : World) : Prop :=
  ∃ k : Nat, k ≤ n ∧ i = .int .i64 k ∧ Ex w wr ∧ ∀ k' y, k' < k → l[k']? = some y → badN y = false

set_option maxHeartbeats 2000000 in
theorem check_r (a : Option Addr) (n c : Nat) (l : List Nd) (w : World) (h : Sl 3 encN w a n l) (hn : n ≤ 1000000) :
    Calls Tryz.prog 67 #[.slice a n c] w fun e w' => e = .returned (.int .i64 (checkN l)) ∧ Ex w w' := by
  have hlen := h.len
  go_enter Tryz.func67, Tryz.ntmps67
  by_cases h64 : 64 < n
  · have HC : Hid (checkN l = 3) := Lib.hid (by unfold checkN; rw [if_pos (by omega)])
    clear h hlen
    go_wp2_with fail
    go_ret
    exact ⟨by rw [HC.out]; rfl, Ex.refl _⟩
  have HL := Lib.hid hlen
  clear hlen
  go_wp2_with fail
  go_loopw [3] (fun i wr => N1Rel n l w i wr) (fun i _ => n - (intOf i).toNat)
  case atStart => exact ⟨0, by omega, rfl, Ex.refl _, by intro _ _ h; omega⟩
  case round =>
    obtain ⟨k, hk, rfl, kw, hgood⟩ := hrel
    have HG := Lib.hid hgood
    clear hgood
    obtain ⟨wo, rfl⟩ : ∃ wo : World, wo = wr := ⟨_, rfl⟩
    by_cases hlt : k < n
    · obtain ⟨x1, o1, y, rfl, hx1, hy, hc1⟩ := (h.nx kw).at hlt
      have e0 : wo.cell? ⟨x1, o1 + k * 3, none⟩ = some (.int .i64 y.id) := hc1 0 _ rfl
      have e1 : wo.cell? ⟨x1, o1 + k * 3 + 1, none⟩ = some (.string y.key) := hc1 1 _ rfl
      have e2 : wo.cell? ⟨x1, o1 + k * 3 + 1 + 1, none⟩ = some (.int .u32 y.word) := by simpa [Nat.add_assoc] using hc1 2 _ rfl
      have e2' : wo.cell? ⟨x1, o1 + k * 3 + 2, none⟩ = some (.int .u32 y.word) := hc1 2 _ rfl
      have HY := Lib.hid hy
      have BAD : badN y = true → checkN l = 1 := fun hb => by
        unfold checkN
        rw [if_neg (by rw [HL.out]; exact h64), if_pos (List.any_eq_true.2 ⟨y, List.mem_of_getElem? HY.out, hb⟩)]
      clear hc1 hy h
      by_cases b1 : y.id < 1
      · have HB := Lib.hid (BAD (by unfold badN; simp [b1]))
        clear BAD
        go_wp2_with fail
        go_ret
        exact ⟨by rw [HB.out]; rfl, kw⟩
      by_cases b2 : 2147483647 < y.id
      · have HB := Lib.hid (BAD (by unfold badN; simp [b2]))
        clear BAD
        go_wp2_with fail
        go_ret
        exact ⟨by rw [HB.out]; rfl, kw⟩
      have BAD := Lib.hid BAD
      go_wp2_with fail
      refine (vkey_r _ _).mono ?_
      rintro e w2 ⟨rfl, rfl⟩
      by_cases b3 : (y.key.size : Int) ≤ 64
      · have d3 : decide ((y.key.size : Int) ≤ 64) = true := by simpa using b3
        rw [d3]
        clear d3
        go_wp2_with fail
        refine (wvalid_r _ _).mono ?_
        rintro e w2 ⟨rfl, rfl⟩
        cases b4 : validN y.word with
        | true =>
          have BG : Hid (badN y = false) := Lib.hid (by unfold badN; simp [b1, b2, b3, b4])
          clear BAD b4 b3
          go_wp2_with fail
          refine ⟨⟨k + 1, by omega, by go_num, kw, fun k' y' hk' hy' => ?_⟩, by simp [intOf]; omega⟩
          rcases Nat.lt_or_ge k' k with h | h
          · exact HG.out k' y' h hy'
          · obtain rfl : k' = k := by omega
            rw [Option.some.inj (hy'.symm.trans HY.out)]
            exact BG.out
        | false =>
          have HB := Lib.hid (BAD.out (by unfold badN; simp [b4]))
          clear BAD b4
          go_wp2_with fail
          go_ret
          exact ⟨by rw [HB.out]; rfl, kw⟩
      · have d3 : decide ((y.key.size : Int) ≤ 64) = false := by simpa using b3
        have HB := Lib.hid (BAD.out (by unfold badN; simp [b3]))
        rw [d3]
        clear d3 BAD b3
        go_wp2_with fail
        go_ret
        exact ⟨by rw [HB.out]; rfl, kw⟩
    · obtain rfl : k = n := by omega
      have HNB : Hid (l.any badN = false) := Lib.hid (by
        rw [List.any_eq_false]
        intro y hy
        obtain ⟨j, hj, he⟩ := List.mem_iff_getElem.1 hy
        rw [HG.out j y (by rw [← HL.out]; exact hj) (by rw [← he]; simp)]
        simp)
      clear HG hlt hk
      obtain ⟨w1, rfl⟩ : ∃ w1 : World, w1 = wo := ⟨_, rfl⟩
      have hs := Lib.hid h
      clear h
      go_wp2_with fail
      go_loopw [4, 5] (fun i j wr => N2Rel k l w i j wr) (fun i _ _ => k - (intOf i).toNat)
      case atStart => exact ⟨0, by omega, rfl, kw, by intro _ _ _ _ h; omega⟩
      case round =>
        obtain ⟨m, hm, rfl, kw, hgood⟩ := hrel
        have HG := Lib.hid hgood
        clear hgood
        obtain ⟨wo, rfl⟩ : ∃ wo : World, wo = wr := ⟨_, rfl⟩
        by_cases hlt : m < k
        · obtain ⟨x1, o1, x, rfl, hx1, hx, hc1⟩ := (hs.out.nx kw).at hlt
          have HX := Lib.hid hx
          have HC := Lib.hid hc1
          clear hx hc1
          go_wp2_with fail
          go_loopw [5] (fun j wr => N3Rel m l x w j wr) (fun j _ => m - (intOf j).toNat)
          case atStart => exact ⟨0, by omega, rfl, kw, by intro _ _ h; omega⟩
          case round =>
            obtain ⟨q, hq, rfl, kv, hok⟩ := hrel
            have HO := Lib.hid hok
            clear hok
            obtain ⟨wi, rfl⟩ : ∃ wi : World, wi = wr := ⟨_, rfl⟩
            by_cases hlq : q < m
            · obtain ⟨x2, o2, y, e2, hx2, hy, hc2⟩ := (hs.out.nx kv).at (Nat.lt_trans hlq hlt)
              cases e2
              obtain ⟨x3, o3, x', e3, hx3, hx', hc1⟩ := (hs.out.nx kv).at hlt
              cases e3
              obtain rfl : x = x' := Option.some.inj (HX.out.symm.trans hx')
              have e0 : wi.cell? ⟨x1, o1 + m * 3, none⟩ = some (.int .i64 x.id) := hc1 0 _ rfl
              have e1 : wi.cell? ⟨x1, o1 + m * 3 + 1, none⟩ = some (.string x.key) := hc1 1 _ rfl
              have f0 : wi.cell? ⟨x1, o1 + q * 3, none⟩ = some (.int .i64 y.id) := hc2 0 _ rfl
              have f1 : wi.cell? ⟨x1, o1 + q * 3 + 1, none⟩ = some (.string y.key) := hc2 1 _ rfl
              have HY := Lib.hid hy
              have hqk := Nat.lt_trans hlq hlt
              have DUP : eqN x y = true → checkN l = 5 := fun he => by
                unfold checkN
                rw [if_neg (by rw [HL.out]; exact h64), HNB.out, if_neg (by simp), if_pos ((dupN_iff l).2 ⟨m, q, x, y, hlq, HX.out, HY.out, he⟩)]
              clear hc1 hc2 hy hx' HC hx1 hx2 hx3
              by_cases d1 : x.id = y.id
              · have HB := Lib.hid (DUP (by unfold eqN; simp [d1]))
                have b1 : (x.id == y.id) = true := by simp [d1]
                clear DUP d1
                go_wp2_with fail
                go_quiet (fail)
                go_wp2_with fail
                go_ret
                exact ⟨by rw [HB.out]; rfl, kv.drewN _⟩
              · have b1 : (x.id == y.id) = false := by simp [d1]
                by_cases d2 : x.key = y.key
                · have b2 := str_eqN d2
                  have HB := Lib.hid (DUP (by unfold eqN; rw [b2]; simp))
                  clear DUP d1 d2
                  go_wp2_with fail
                  go_quiet (fail)
                  go_wp2_with fail
                  go_ret
                  exact ⟨by rw [HB.out]; rfl, kv.drewN _⟩
                · have b2 := str_neN d2
                  have HB : Hid (eqN x y = false) := Lib.hid (by unfold eqN; rw [b1, b2]; rfl)
                  clear DUP d1 d2
                  go_wp2_with fail
                  go_quiet (fail)
                  go_wp2_with fail
                  refine ⟨⟨q + 1, by omega, by go_num, kv.drewN _, fun k' y' hk' hy' => ?_⟩, by simp [intOf]; omega⟩
                  rcases Nat.lt_or_ge k' q with h | h
                  · exact HO.out k' y' h hy'
                  · obtain rfl : k' = q := by omega
                    rw [Option.some.inj (hy'.symm.trans HY.out)]
                    exact HB.out
            · obtain rfl : q = m := by omega
              clear hlq hq HC
              go_wp2_with fail
              refine ⟨⟨q + 1, by omega, by go_num, kv, fun i' k' x' y' hi' hk' hx' hy' => ?_⟩, by simp [intOf]; omega⟩
              rcases Nat.lt_or_ge i' q with h | h
              · exact HG.out i' k' x' y' h hk' hx' hy'
              · obtain rfl : i' = q := by omega
                rw [Option.some.inj (hx'.symm.trans HX.out)]
                exact HO.out k' y' hk' hy'
        · obtain rfl : m = k := by omega
          have HC : Hid (checkN l = 0) := Lib.hid (by
            unfold checkN
            rw [if_neg (by rw [HL.out]; exact h64), HNB.out, if_neg (by simp), if_neg]
            intro hd
            obtain ⟨i, k, x, y, hk, hx, hy, he⟩ := (dupN_iff l).1 hd
            rw [HG.out i k x y (by have := (List.getElem?_eq_some_iff.1 hx).1; have := HL.out; omega) hk hx hy] at he
            cases he)
          clear HG hlt hm HNB
          go_wp2_with fail
          go_ret
          exact ⟨by rw [HC.out]; rfl, kw⟩
theorem is_r (a : Option Addr) (n c : Nat) (l : List Nd) (w : World) (h : Sl 3 encN w a n l) (hn : n ≤ 1000000) :
    Calls Tryz.prog 30 #[.slice a n c] w fun e w' => e = .returned (.bool (checkN l == 0)) ∧ Ex w w' := by
  go_enter Tryz.func30, Tryz.ntmps30
  go_wp2_with fail
  refine (check_r a n c l w h hn).mono ?_
  rintro e w1 ⟨rfl, kk⟩
  clear h
  go_wp2_with fail
  go_ret
  exact ⟨rfl, kk⟩

end Go.Proofs.YtbnbjiddffihoaaGreatDoor

/- The two laws of append, for a region that draws its order. -/
namespace Go.Proofs.YtbnbjiddffihoaaGreatDoor
open Go.RowKit

theorem wp_append_none {P : Program} {w : World} {o : Oper} {a : Act} {K : Act → World → Prop} {Q : Exit → Act → World → Prop} (s x : Operand) (t : TypeId)
    (ho : o.op = .call { callee := .builtin .append, args := #[s, x], argTypes := #[t, t] })
    (base : Nat) (e : TypeId) (i : TypeInfo) (size : Nat) (ht : P.underlying t = some (.slice e)) (hi : P.info? e = some i)
    (v : Value) (n : Nat) (xs : List Value) (hs : a.eval s = v) (hown : w.ownsRow base e size v n xs) (hx : a.eval x = .slice none 0 0)
    (h : K (a.put o.dst v) w) : o.wp P a w K Q := by
  have hrun := run_append_owned_none (P := P) (w := w) base t o.type e i size ht hi v n xs hown
  unfold Oper.wp
  simp [execOp, ho, resolve, invoke, builtin, hs, hx, hrun, Result.andThen]
  exact h

theorem wp_append_rd {P : Program} {α : Type} {enc : α → List Value} {o : Oper} {a : Act} {K : Act → World → Prop} {Q : Exit → Act → World → Prop} (w0 : World) (s x : Operand) (t : TypeId)
    (ho : o.op = .call { callee := .builtin .append, args := #[s, x], argTypes := #[t, t] })
    (base : Nat) (e : TypeId) (z : Value) (sz bytes : Nat) (ht : P.underlying t = some (.slice e)) (hi : (P.info? e).map (fun i => (i.zero, i.size, i.bytes)) = some (some z, sz, bytes))
    (hzs : z.cells.size = sz) (hsz : 0 < sz) (hby : bytes ≤ 65536)
    (v : Value) (l : List α) (hown : OwnL sz enc e base w0 v l) (hs : a.eval s = v) (S : Nat → Prop) (A : Option Addr) (n c : Nat) (news : List α) (hrd : Rd sz enc S w0 A n news) (hA : A = none → c = 0) (hlen : ∀ y, (enc y).length = sz) (h1 : ∀ y, ∀ u ∈ enc y, u.oneCell' = true)
    (hx : a.eval x = .slice A n c) (hl : l.length ≤ 100000000) (hn : n ≤ 100000000) (hbase : base ≤ w0.heap.size)
    (h : ∀ v' w', OwnL sz enc e base w' v' (l ++ news) → Chg (fun k => k < w0.heap.size ∧ ¬ v.ownBlock = some k) w0 w' → Chg (· < base) w0 w' → K (a.put o.dst v') w') :
    o.wp P a w0 K Q := by
  obtain ⟨i, hi, hz0, hz1, hz2⟩ := info_parts hi
  have hmul : (l.length + n) * bytes ≤ 200000000 * 65536 := Nat.mul_le_mul (by omega) hby
  have hnl := hrd.1
  cases A with
  | none =>
    have hc := hA rfl
    have hn0 : n = 0 := by
      rcases hrd.2 with h0 | ⟨x, o, e1, _⟩
      · exact h0
      · cases e1
    subst hn0 hc
    have hnews : news = [] := List.eq_nil_of_length_eq_zero hnl
    subst hnews
    refine wp_append_none s x t ho base e i sz ht hi v l.length (l.flatMap enc) hs hown hx ?_
    exact h v w0 (by simpa using hown) (Chg.refl _ _) (Chg.refl _ _)
  | some ad =>
    refine wp_append_own _ s x t ho base e i z sz bytes ht hi hz0 hz1 hz2 hzs hsz v l.length (l.flatMap enc) hs hown ad n c (news.flatMap enc) hx ?_ ?_ ?_ (by unfold maxLen; omega) (by omega) hbase ?_
    · have : ∀ l : List α, (l.flatMap enc).length = l.length * sz := by
        intro l
        induction l with
        | nil => simp
        | cons y r ih => rw [List.flatMap_cons, List.length_append, hlen, ih, List.length_cons, Nat.succ_mul]; omega
      rw [this, hnl]
    · intro j u hu
      have hj := (List.getElem?_eq_some_iff.1 hu).1
      rcases hrd.2 with h0 | ⟨x, o, e1, _, e3⟩
      · subst h0
        have : news = [] := List.eq_nil_of_length_eq_zero hnl
        subst this
        simp at hj
      · cases e1
        rw [Addr.add_lit]
        have hdiv : ∃ y, news[j / sz]? = some y ∧ (enc y)[j % sz]? = some u := by
          clear e3 hmul hown h hx hrd
          induction news generalizing j n with
          | nil => simp at hu
          | cons y r ih =>
            rw [List.flatMap_cons] at hu
            by_cases hlt : j < sz
            · rw [List.getElem?_append_left (by rw [hlen]; exact hlt)] at hu
              exact ⟨y, by rw [Nat.div_eq_of_lt hlt]; rfl, by rw [Nat.mod_eq_of_lt hlt]; exact hu⟩
            · rw [List.getElem?_append_right (by rw [hlen]; omega), hlen] at hu
              obtain ⟨y', h1', h2'⟩ := ih (n := n - 1) (j := j - sz) (by omega) (by simp at hnl; omega) hu (List.getElem?_eq_some_iff.1 hu).1
              have e1 : j / sz = (j - sz) / sz + 1 := by
                rw [Nat.div_eq_sub_div hsz (by omega)]
              have e2 : j % sz = (j - sz) % sz := by
                rw [Nat.mod_eq_sub_mod (by omega)]
              exact ⟨y', by rw [e1]; simpa using h1', by rw [e2]; exact h2'⟩
        obtain ⟨y, hy1, hy2⟩ := hdiv
        have := e3 _ y hy1 _ u hy2
        rw [Nat.add_assoc, Nat.mul_comm, Nat.div_add_mod] at this
        exact this
    · intro u hu
      obtain ⟨y, _, hy⟩ := List.mem_flatMap.1 hu
      exact h1 y u hy
    · intro v' w' hown' hgrow hnil
      have hch : Chg (fun k => k < w0.heap.size ∧ ¬ v.ownBlock = some k) w0 w' := ⟨hgrow.os, hgrow.tape, hgrow.output, hgrow.size, fun k hk => hgrow.block k hk.1 (fun h => hk.2 h.symm)⟩
      refine h v' w' ?_ hch (hch.mono fun k hk => ⟨by omega, fun hv => ?_⟩)
      · unfold OwnL
        simpa [List.flatMap_append, hnl] using hown'
      · have := hown.lt k hv
        omega


theorem wp_append_own_at {P : Program} (w : World) {o : Oper} {a : Act} {K : Act → World → Prop} {Q : Exit → Act → World → Prop} (s x : Operand) (t : TypeId)
    (ho : o.op = .call { callee := .builtin .append, args := #[s, x], argTypes := #[t, t] })
    (base : Nat) (e : TypeId) (i : TypeInfo) (z : Value) (size bytes : Nat) (ht : P.underlying t = some (.slice e)) (hi : P.info? e = some i) (hz : i.zero = some z)
    (hsize : i.size = size) (hby : i.bytes = bytes) (hzs : z.cells.size = size) (hsz : 0 < size)
    (v : Value) (n : Nat) (xs : List Value) (hs : a.eval s = v) (hown : w.ownsRow base e size v n xs)
    (ad : Addr) (m c : Nat) (news : List Value) (hx : a.eval x = .slice (some ad) m c) (hl : news.length = m * size) (hnews : ∀ j u, news[j]? = some u → w.cell? (ad.add j) = some u) (h1 : ∀ u ∈ news, u.oneCell' = true)
    (h63 : n + m ≤ maxLen) (hbytes : (n + m) * bytes ≤ 140737488355328) (hbase : base ≤ w.heap.size)
    (h : ∀ v' w', w'.ownsRow base e size v' (n + m) (xs ++ news) → w.grownBy w' v.ownBlock → (v' = .slice none 0 0 ↔ v = .slice none 0 0 ∧ m = 0) → (v'.ownBlock = v.ownBlock ∨ v'.ownBlock = some w.heap.size) → K (a.put o.dst v') w') : o.wp P a w K Q := by
  obtain ⟨v', w', hr, h2, h3, h4, h5⟩ := run_append_own_at (P := P) w base t o.type e i z size bytes ht hi hz hsize hby hzs hsz v n xs hown ad m c news hl hnews h1 h63 hbytes hbase
  unfold Oper.wp execOp
  simp only [ho, resolve, invoke, builtin, Sem.run_bind, Sem.run_pure, Result.andThen_ok, List.map_toArray, List.map_cons, List.map_nil, hs, hx, hr]
  exact h v' w' h2 h3 h4 h5
theorem wp_append_rda {P : Program} {α : Type} {enc : α → List Value} {o : Oper} {a : Act} {K : Act → World → Prop} {Q : Exit → Act → World → Prop} (w0 : World) (s x : Operand) (t : TypeId)
    (ho : o.op = .call { callee := .builtin .append, args := #[s, x], argTypes := #[t, t] })
    (base : Nat) (e : TypeId) (z : Value) (sz bytes : Nat) (ht : P.underlying t = some (.slice e)) (hi : (P.info? e).map (fun i => (i.zero, i.size, i.bytes)) = some (some z, sz, bytes))
    (hzs : z.cells.size = sz) (hsz : 0 < sz) (hby : bytes ≤ 65536)
    (v : Value) (l : List α) (hown : OwnL sz enc e base w0 v l) (hs : a.eval s = v) (S : Nat → Prop) (A : Option Addr) (n c : Nat) (news : List α) (hrd : Rd sz enc S w0 A n news) (hA : A = none → c = 0) (hlen : ∀ y, (enc y).length = sz) (h1 : ∀ y, ∀ u ∈ enc y, u.oneCell' = true)
    (hx : a.eval x = .slice A n c) (hl : l.length ≤ 100000000) (hn : n ≤ 100000000) (hbase : base ≤ w0.heap.size)
    (h : ∀ v' w', OwnL sz enc e base w' v' (l ++ news) → Chg (fun k => k < w0.heap.size ∧ ¬ v.ownBlock = some k) w0 w' → Chg (· < base) w0 w' → (v'.ownBlock = v.ownBlock ∨ v'.ownBlock = some w0.heap.size) → K (a.put o.dst v') w') :
    o.wp P a w0 K Q := by
  obtain ⟨i, hi, hz0, hz1, hz2⟩ := info_parts hi
  have hmul : (l.length + n) * bytes ≤ 200000000 * 65536 := Nat.mul_le_mul (by omega) hby
  have hnl := hrd.1
  cases A with
  | none =>
    have hc := hA rfl
    have hn0 : n = 0 := by
      rcases hrd.2 with h0 | ⟨x, o, e1, _⟩
      · exact h0
      · cases e1
    subst hn0 hc
    have hnews : news = [] := List.eq_nil_of_length_eq_zero hnl
    subst hnews
    refine wp_append_none s x t ho base e i sz ht hi v l.length (l.flatMap enc) hs hown hx ?_
    exact h v w0 (by simpa using hown) (Chg.refl _ _) (Chg.refl _ _) (.inl rfl)
  | some ad =>
    refine wp_append_own_at _ s x t ho base e i z sz bytes ht hi hz0 hz1 hz2 hzs hsz v l.length (l.flatMap enc) hs hown ad n c (news.flatMap enc) hx ?_ ?_ ?_ (by unfold maxLen; omega) (by omega) hbase ?_
    · have : ∀ l : List α, (l.flatMap enc).length = l.length * sz := by
        intro l
        induction l with
        | nil => simp
        | cons y r ih => rw [List.flatMap_cons, List.length_append, hlen, ih, List.length_cons, Nat.succ_mul]; omega
      rw [this, hnl]
    · intro j u hu
      have hj := (List.getElem?_eq_some_iff.1 hu).1
      rcases hrd.2 with h0 | ⟨x, o, e1, _, e3⟩
      · subst h0
        have : news = [] := List.eq_nil_of_length_eq_zero hnl
        subst this
        simp at hj
      · cases e1
        rw [Addr.add_lit]
        have hdiv : ∃ y, news[j / sz]? = some y ∧ (enc y)[j % sz]? = some u := by
          clear e3 hmul hown h hx hrd
          induction news generalizing j n with
          | nil => simp at hu
          | cons y r ih =>
            rw [List.flatMap_cons] at hu
            by_cases hlt : j < sz
            · rw [List.getElem?_append_left (by rw [hlen]; exact hlt)] at hu
              exact ⟨y, by rw [Nat.div_eq_of_lt hlt]; rfl, by rw [Nat.mod_eq_of_lt hlt]; exact hu⟩
            · rw [List.getElem?_append_right (by rw [hlen]; omega), hlen] at hu
              obtain ⟨y', h1', h2'⟩ := ih (n := n - 1) (j := j - sz) (by omega) (by simp at hnl; omega) hu (List.getElem?_eq_some_iff.1 hu).1
              have e1 : j / sz = (j - sz) / sz + 1 := by
                rw [Nat.div_eq_sub_div hsz (by omega)]
              have e2 : j % sz = (j - sz) % sz := by
                rw [Nat.mod_eq_sub_mod (by omega)]
              exact ⟨y', by rw [e1]; simpa using h1', by rw [e2]; exact h2'⟩
        obtain ⟨y, hy1, hy2⟩ := hdiv
        have := e3 _ y hy1 _ u hy2
        rw [Nat.add_assoc, Nat.mul_comm, Nat.div_add_mod] at this
        exact this
    · intro u hu
      obtain ⟨y, _, hy⟩ := List.mem_flatMap.1 hu
      exact h1 y u hy
    · intro v' w' hown' hgrow hnil hat
      have hch : Chg (fun k => k < w0.heap.size ∧ ¬ v.ownBlock = some k) w0 w' := ⟨hgrow.os, hgrow.tape, hgrow.output, hgrow.size, fun k hk => hgrow.block k hk.1 (fun h => hk.2 h.symm)⟩
      refine h v' w' ?_ hch (hch.mono fun k hk => ⟨by omega, fun hv => ?_⟩) hat
      · unfold OwnL
        simpa [List.flatMap_append, hnl] using hown'
      · have := hown.lt k hv
        omega

end Go.Proofs.YtbnbjiddffihoaaGreatDoor

/- A condition that is laid anew in a region that draws its order. -/
namespace Go.Proofs.YtbnbjiddffihoaaGreatDoor
open Go.RowKit

theorem wpAnyH_switch {P : Program} {md : Region.Mode} {ops : Array Oper} {Q : Exit → Act → World → Prop} {S S' : World → Prop} (hS : ∀ w, S' w → S w) :
    ∀ {fuel : Nat} {listed : Array Bool} {a : Act} {w : World}, wpAnyH P md ops Q S' fuel listed a w → wpAnyH P md ops Q S fuel listed a w
  | 0, _, _, _, h => h
  | fuel + 1, _, _, _, h => ⟨h.1, fun i hi => wpOp_mono (fun a' w' h' => ⟨hS w' h'.1, wpAnyH_switch hS h'.2⟩) (h.2 i hi)⟩

end Go.Proofs.YtbnbjiddffihoaaGreatDoor

/- Sort of the reference of rosters. -/
namespace Go.Proofs.YtbnbjiddffihoaaGreatDoor
open Go.RowKit

def gtN (a b : Nd) : Bool := !(Op.bytesLess a.key.toList b.key.toList || a.key.toList == b.key.toList) || (a.key.toList == b.key.toList && decide (b.id < a.id))
def atN (out : List Nd) (x : Nd) : Nat → Nat
  | 0 => 0
  | n + 1 => match out[n]? with
    | some y => if gtN y x then atN out x n else n + 1
    | none => n + 1
theorem atN_le (out : List Nd) (x : Nd) : ∀ n, atN out x n ≤ n
  | 0 => Nat.le_refl _
  | n + 1 => by
    unfold atN
    split
    · split
      · exact Nat.le_succ_of_le (atN_le out x n)
      · exact Nat.le_refl _
    · exact Nat.le_refl _
def insN (out : List Nd) (x : Nd) : List Nd := out.take (atN out x out.length) ++ x :: out.drop (atN out x out.length)
def sortN (l : List Nd) : List Nd := l.foldl insN []
theorem sortN_snoc (l : List Nd) (k : Nat) (y : Nd) (hy : l[k]? = some y) : sortN (l.take (k + 1)) = insN (sortN (l.take k)) y := by
  unfold sortN
  rw [take_snocN l k y hy, List.foldl_append]
  rfl
theorem insN_length (out : List Nd) (x : Nd) : (insN out x).length = out.length + 1 := by
  unfold insN
  have := atN_le out x out.length
  simp; omega
theorem sortN_length (l : List Nd) : (sortN l).length = l.length := by
  have : ∀ (l out : List Nd), (l.foldl insN out).length = out.length + l.length := by
    intro l
    induction l with
    | nil => intro out; rfl
    | cons x r ih => intro out; rw [List.foldl_cons, ih, insN_length, List.length_cons]; omega
  have := this l []
  simpa [sortN] using this

theorem flat_set3 (x : Nd) : ∀ (L : List Nd) (j : Nat), j < L.length → (L.set j x).flatMap encN = (((L.flatMap encN).set (j * 3) (.int .i64 x.id)).set (j * 3 + 1) (.string x.key)).set (j * 3 + 2) (.int .u32 x.word)
  | [], j, h => by simp at h
  | y :: r, 0, _ => rfl
  | y :: r, j + 1, h => by
    have ih := flat_set3 x r j (by simpa using h)
    rw [List.set_cons_succ, List.flatMap_cons, List.flatMap_cons, ih]
    have e : (j + 1) * 3 = j * 3 + 3 := by omega
    rw [e]
    show encN y ++ _ = ((([Value.int .i64 y.id, .string y.key, .int .u32 y.word] ++ r.flatMap encN).set (j * 3 + 3) _).set (j * 3 + 3 + 1) _).set (j * 3 + 3 + 2) _
    rw [List.set_append_right _ _ (by simp), List.set_append_right _ _ (by simp [Nat.add_assoc]), List.set_append_right _ _ (by simp [Nat.add_assoc])]
    simp only [List.length_cons, List.length_nil]
    rw [show j * 3 + 3 - (0 + 1 + 1 + 1) = j * 3 by omega, show j * 3 + 3 + 1 - (0 + 1 + 1 + 1) = j * 3 + 1 by omega, show j * 3 + 3 + 2 - (0 + 1 + 1 + 1) = j * 3 + 2 by omega]
    rfl
theorem own_set3 {e : TypeId} {base : Nat} {w : World} {g n cap j : Nat} {L : List Nd} (h : OwnL 3 encN e base w (.slice (some ⟨g, 0, none⟩) n cap) L) (hj : j < n) (y : Nd) :
    (∃ a b c, w.cell? ⟨g, j * 3, none⟩ = some a ∧ w.cell? ⟨g, j * 3 + 1, none⟩ = some b ∧ w.cell? ⟨g, j * 3 + 1 + 1, none⟩ = some c) ∧ (∀ o, w.frozen? ⟨g, o, none⟩ = false) ∧
    OwnL 3 encN e base (((w.setCell ⟨g, j * 3, none⟩ (.int .i64 y.id)).setCell ⟨g, j * 3 + 1, none⟩ (.string y.key)).setCell ⟨g, j * 3 + 2, none⟩ (.int .u32 y.word)) (.slice (some ⟨g, 0, none⟩) n cap) (L.set j y) := by
  rcases h.2 with ⟨h1, _⟩ | ⟨g', cap', cur, e1, e2, e3, e4, e5, e6, e7⟩
  · cases h1
  · obtain ⟨rfl, hLn, rfl⟩ : g = g' ∧ n = L.length ∧ cap = cap' := by simpa using e1
    have hsz : j * 3 + 2 < cur.size := by rw [e6]; omega
    have s1 := heap_set e3 (j * 3) (.int .i64 y.id)
    have s2 := heap_set s1 (j * 3 + 1) (.string y.key)
    have s3 := heap_set s2 (j * 3 + 2) (.int .u32 y.word)
    refine ⟨⟨cur[j * 3], cur[j * 3 + 1], cur[j * 3 + 1 + 1], by simp [World.cell?, e3], by simp [World.cell?, e3], by simp [World.cell?, e3]⟩, fun o => by simp [World.frozen?, e3], ?_, .inr ⟨g, cap, _, by simp [hLn], e2, s3, ?_, e5, by simp [e6], ?_⟩⟩
    · rw [flatN_len (sz := 3) (fun _ => rfl)]
    · rw [List.length_set, ← hLn]; omega
    · rw [flat_set3 y L j (by omega), ← e7, List.length_set]
      simp only [Array.toList_setIfInBounds, List.take_set]
theorem bytesLess_irrefl : ∀ x : List UInt8, Op.bytesLess x x = false
  | [] => rfl
  | a :: x => by unfold Op.bytesLess; rw [bytesLess_irrefl x]; simp
theorem shift_set (out : List Nd) (y : Nd) (j : Nat) (hj : j ≤ out.length) (L7 : List Nd) (hL : L7 = out ++ [(⟨0, ByteArray.empty, 0⟩ : Nd)]) :
    (L7.take (j + 1) ++ (L7.drop j).take (out.length - j)).set j y = L7.take j ++ y :: out.drop j := by
  have hl : L7.length = out.length + 1 := by rw [hL]; simp
  have h1 : (L7.drop j).take (out.length - j) = out.drop j := by
    rw [hL, List.drop_append_of_le_length hj, List.take_append_of_le_length (by simp), List.take_of_length_le (by simp)]
  have h2 : L7.take (j + 1) = L7.take j ++ [L7[j]'(by omega)] := by rw [List.take_succ_eq_append_getElem (by omega)]
  rw [h1, h2, List.append_assoc, List.set_append_right _ _ (by simp; omega)]
  congr 1
  have : j - (L7.take j).length = 0 := by simp; omega
  rw [this]
  rfl

def SoRel (l : List Nd) (n : Nat) (w : World) (o i : Value) (wr : World) : Prop :=
  ∃ k : Nat, k ≤ n ∧ i = .int .i64 k ∧ OwnL 3 encN 57 w.heap.size wr o (sortN (l.take k)) ∧ Ex w wr
def AtRel (out : List Nd) (x : Nd) (w : World) (j : Value) (wr : World) : Prop :=
  ∃ k : Nat, k ≤ out.length ∧ j = .int .i64 k ∧ atN out x out.length = atN out x k ∧ Ex w wr

set_option maxRecDepth 100000 in
set_option maxHeartbeats 4000000 in
theorem sort_r (a : Option Addr) (n cp : Nat) (l : List Nd) (w : World) (h : Sl 3 encN w a n l) (hn : n ≤ 1000) :
    Calls Tryz.prog 77 #[.slice a n cp] w (NodesPost (sortN l) w) := by
  have HL := Lib.hid h.len
  have hs := Lib.hid h
  clear h
  go_enter Tryz.func77, Tryz.ntmps77
  go_wp2_with fail
  go_loopw [3, 4] (fun o i wr => SoRel l n w o i wr) (fun _ i _ => n - (intOf i).toNat)
  case atStart => exact ⟨0, by omega, rfl, OwnL.nil _ _ _ _ _, Ex.refl _⟩
  case round =>
    obtain ⟨k, hk, rfl, own, kw⟩ := hrel
    obtain ⟨wo, rfl⟩ : ∃ wo : World, wo = wr := ⟨_, rfl⟩
    by_cases hlt : k < n
    · obtain ⟨x1, o1, y, rfl, hx1, hy, hc1⟩ := (hs.out.nx kw).at hlt
      have e0 : wo.cell? ⟨x1, o1 + k * 3, none⟩ = some (.int .i64 y.id) := hc1 0 _ rfl
      have e1 : wo.cell? ⟨x1, o1 + k * 3 + 1, none⟩ = some (.string y.key) := hc1 1 _ rfl
      have e2 : wo.cell? ⟨x1, o1 + k * 3 + 1 + 1, none⟩ = some (.int .u32 y.word) := by simpa [Nat.add_assoc] using hc1 2 _ rfl
      have FS := Lib.hid (sortN_snoc l k y hy)
      have hFL : (sortN (l.take k)).length = k := by rw [sortN_length, List.length_take, HL.out]; omega
      generalize sortN (l.take k) = out at own FS hFL
      obtain ⟨a3, cap3, rfl, r3, c3, m3, nil3⟩ := own.slf (fun _ => rfl)
      have hol : out.length ≤ 1000 := by omega
      have HY := Lib.hid hy
      have HFL := Lib.hid hFL
      have OWN := Lib.hid own
      have NIL := Lib.hid nil3
      have E0 := Lib.hid e0
      have E1 := Lib.hid e1
      have E2 := Lib.hid e2
      clear own hc1 hy e0 e1 e2 nil3 hFL
      go_wp2_with fail
      go_loopw [5] (fun j wr => AtRel out y wo j wr) (fun j _ => (intOf j).toNat)
      case atStart => exact ⟨out.length, Nat.le_refl _, rfl, rfl, Ex.refl _⟩
      case round =>
        obtain ⟨j, hj, rfl, hat, ki⟩ := hrel
        have HAT := Lib.hid hat
        obtain ⟨wi, rfl⟩ : ∃ wi : World, wi = wr := ⟨_, rfl⟩
        clear hat
        have hz0 := ki.size
        by_cases hj0 : 0 < j
        · obtain ⟨x2, o2, z, rfl, hx2, hzz, hc2⟩ := ((r3.sl).nx ki).at (j := j - 1) (by omega)
          have f0 : wi.cell? ⟨x2, o2 + (j - 1) * 3, none⟩ = some (.int .i64 z.id) := hc2 0 _ rfl
          have f1 : wi.cell? ⟨x2, o2 + (j - 1) * 3 + 1, none⟩ = some (.string z.key) := hc2 1 _ rfl
          have g0 := Chg.cellv ki E0.out hx1
          have g1 := Chg.cellv ki E1.out hx1
          have hj1 : (j : Int) - 1 = ((j - 1 : Nat) : Int) := by omega
          have ZZ := Lib.hid hzz
          have STOP : gtN z y = false → atN out y out.length = j := fun h => by
            rw [HAT.out]
            obtain ⟨m, rfl⟩ : ∃ m, j = m + 1 := ⟨j - 1, by omega⟩
            unfold atN
            rw [show m = m + 1 - 1 from rfl, ZZ.out]
            simp [h]
          have GOON : gtN z y = true → atN out y out.length = atN out y (j - 1) := fun h => by
            rw [HAT.out]
            obtain ⟨m, rfl⟩ : ∃ m, j = m + 1 := ⟨j - 1, by omega⟩
            conv => lhs; unfold atN
            rw [show out[m]? = some z from ZZ.out]
            simp [h]
          have GT : gtN z y = (!(Op.bytesLess z.key.toList y.key.toList || z.key.toList == y.key.toList) || (z.key.toList == y.key.toList && decide (y.id < z.id))) := rfl
          clear hc2 hzz
          cases hb : Op.bytesLess z.key.toList y.key.toList with
          | true =>
            have he : (z.key.toList == y.key.toList) = false := by
              cases he : (z.key.toList == y.key.toList) with
              | false => rfl
              | true => rw [eq_of_beq he, bytesLess_irrefl] at hb; cases hb
            have HAT' := Lib.hid (STOP (by rw [GT, hb, he]; rfl))
            clear STOP GOON GT
            go_wp2_with fail
            go_quiet (fail)
            clear f0 f1 g0 g1 hb he
            have hz : w.heap.size ≤ wi.heap.size := Nat.le_trans kw.size ki.size
            go_upto_region 9 with (at_builtin; (refine wpList_append_lit (enc := encN) _ rfl _ _ 23 rfl w.heap.size 57 (.agg #[.int .i64 0, .string ByteArray.empty, .int .u32 0]) 3 32 Tryz.underlying23 Tryz.infoN rfl (by omega) (by omega) _ _ (OWN.out.nx (ki.drewN _)) rfl (⟨0, ByteArray.empty, 0⟩ : Nd) _ rfl rfl (by simp [encN, Value.oneCell']) _ (by simp) rfl (by omega) (by exact hz) _ ?_); intro v7 w7 own7 _ ch1 _)
            have k7 : Ex w w7 := Chg.trans (kw.nx (ki.drewN _)) ch1
            obtain ⟨L7, hL7⟩ : ∃ L7, L7 = out ++ [(⟨0, ByteArray.empty, 0⟩ : Nd)] := ⟨_, rfl⟩
            rw [← hL7] at own7
            have hl7 : L7.length = out.length + 1 := by rw [hL7]; simp
            obtain ⟨A7, cap7, rfl, _, c7, m7, some7⟩ := own7.rd (fun _ => rfl)
            obtain ⟨g7, rfl, hg7⟩ := some7 (by intro h0; rw [h0] at hl7; simp at hl7)
            rw [hl7] at own7 c7 ⊢
            have STEP : Hid (insN out y = L7.take j ++ y :: out.drop j) := Lib.hid (by unfold insN; rw [HAT'.out, hL7, List.take_append_of_le_length hj])
            have SH : Hid ((L7.take (j + 1) ++ (L7.drop j).take (out.length - j)).set j y = L7.take j ++ y :: out.drop j) := Lib.hid (shift_set out y j hj L7 hL7)
            have hcj : (j : Int) + 1 ≤ (cap7 : Int) := by omega
            have hcj2 : j + 1 ≤ cap7 := by omega
            have hjo : (j : Int) ≤ (out.length : Int) := by omega
            have jw : IntKind.i64.wrap ((j : Int) + 1) = (j : Int) + 1 := IntWalk.i64_in _ (by omega)
            have j0' : (0 : Int) ≤ (j : Int) + 1 := by omega
            have jt : ((j : Int) + 1).toNat = j + 1 := by omega
            have jc : ¬ cap7 = j := by omega
            have hjo2 : (j : Int) ≤ (out.length : Int) + 1 := by omega
            clear hL7 hl7 some7 ch1 hz ki HAT'
            go_wp2_with fail
            refine wp_region_held_drew (S := fun _ => True) (by kernel_rfl) (trivial) (fun hHeld => ?_)
            refine wpAnyH_take (i := 0) (oi := ⟨some 64, .move (.tmp 3), 23, "ref.go:42", #[], none⟩) (v := ?_) rfl (by kernel_rfl) (by kernel_rfl) (by kernel_rfl) (fun _ _ _ h => h) (Or.inl ⟨by rfl, ?hyr1x0q1⟩) (by assumption) ?restr1x0q1
            case hyr1x0q1 => intro wq hSw; (go_simp); (try with_reducible rfl)
            try simp only [Act.put, List.setIfInBounds_toArray, List.set_cons_zero, List.set_cons_succ]
            refine wpAnyH_take (i := 1) (oi := ⟨some 65, .move (.tmp 5), 3, "ref.go:42", #[], none⟩) (v := ?_) rfl (by kernel_rfl) (by kernel_rfl) (by kernel_rfl) (fun _ _ _ h => h) (Or.inl ⟨by rfl, ?hyr1x1q4⟩) (by assumption) ?restr1x1q4
            case hyr1x1q4 => intro wq hSw; (go_simp); (try with_reducible rfl)
            try simp only [Act.put, List.setIfInBounds_toArray, List.set_cons_zero, List.set_cons_succ]
            refine wpAnyH_take (i := 2) (oi := ⟨some 66, .binOp .add 3 (.tmp 65) (.const (.int .i64 1)) 3, 3, "ref.go:42", #[⟨1, .data⟩], none⟩) (v := ?_) rfl (by kernel_rfl) (by kernel_rfl) (by kernel_rfl) (fun _ _ _ h => h) (Or.inl ⟨by rfl, ?hyr1x2q7⟩) (by assumption) ?restr1x2q7
            case hyr1x2q7 => intro wq hSw; (go_simp); (try with_reducible rfl)
            try simp only [Act.put, List.setIfInBounds_toArray, List.set_cons_zero, List.set_cons_succ]
            refine wpAnyH_take (i := 3) (oi := ⟨some 67, .slice 23 (.tmp 64) (some (.tmp 66)) none none, 23, "ref.go:42", #[⟨0, .data⟩, ⟨2, .data⟩], none⟩) (v := ?_) rfl (by kernel_rfl) (by kernel_rfl) (by kernel_rfl) (fun _ _ _ h => h) (Or.inl ⟨by rfl, ?hyr1x3q10⟩) (by assumption) ?restr1x3q10
            case hyr1x3q10 => intro wq hSw; (go_simp); (try with_reducible rfl)
            try simp only [Act.put, List.setIfInBounds_toArray, List.set_cons_zero, List.set_cons_succ]
            refine wpAnyH_take (i := 4) (oi := ⟨some 68, .move (.tmp 3), 23, "ref.go:42", #[], none⟩) (v := ?_) rfl (by kernel_rfl) (by kernel_rfl) (by kernel_rfl) (fun _ _ _ h => h) (Or.inl ⟨by rfl, ?hyr1x4q13⟩) (by assumption) ?restr1x4q13
            case hyr1x4q13 => intro wq hSw; (go_simp); (try with_reducible rfl)
            try simp only [Act.put, List.setIfInBounds_toArray, List.set_cons_zero, List.set_cons_succ]
            refine wpAnyH_take (i := 5) (oi := ⟨some 69, .move (.tmp 5), 3, "ref.go:42", #[], none⟩) (v := ?_) rfl (by kernel_rfl) (by kernel_rfl) (by kernel_rfl) (fun _ _ _ h => h) (Or.inl ⟨by rfl, ?hyr1x5q16⟩) (by assumption) ?restr1x5q16
            case hyr1x5q16 => intro wq hSw; (go_simp); (try with_reducible rfl)
            try simp only [Act.put, List.setIfInBounds_toArray, List.set_cons_zero, List.set_cons_succ]
            refine wpAnyH_take (i := 6) (oi := ⟨some 70, .slice 23 (.tmp 68) (some (.tmp 69)) none none, 23, "ref.go:42", #[⟨4, .data⟩, ⟨5, .data⟩], none⟩) (v := ?_) rfl (by kernel_rfl) (by kernel_rfl) (by kernel_rfl) (fun _ _ _ h => h) (Or.inl ⟨by rfl, ?hyr1x6q19⟩) (by assumption) ?restr1x6q19
            case hyr1x6q19 => intro wq hSw; (go_simp); (try with_reducible rfl)
            try simp only [Act.put, List.setIfInBounds_toArray, List.set_cons_zero, List.set_cons_succ]
            refine wpAnyH_ready (rs := [7]) (by kernel_rfl) (by simp) ?_
            refine AllReadyH.cons (o := ⟨some 71, .call { callee := .builtin .copy, args := #[.tmp 67, .tmp 70], argTypes := #[23, 23] }, 3, "ref.go:42", #[⟨3, .data⟩, ⟨6, .data⟩], none⟩) rfl (fun K hK => ?_) AllReadyH.nil
            rw [if_pos (by rfl)]
            refine wp_copy_shift (enc := encN) (sz := 3) _ (.tmp 67) (.tmp 70) 23 rfl w.heap.size 57 Tryz.underlying23 (by kernel_rfl) (fun _ => rfl) (by simp [encN, Value.oneCell']) g7 out.length cap7 j L7 own7 hj _ _ _ _ rfl rfl (fun hlt => ⟨by rw [if_neg (by omega)], rfl⟩) ?_
            intro w8 own8 ch8 sz8
            refine hK.out _ _ (trivial) (fun hHeld => ?_)
            clear hK K
            try simp only [Act.put, List.setIfInBounds_toArray, List.set_cons_zero, List.set_cons_succ]
            refine wpAnyH_done (by kernel_rfl) ?_ _
            have k8 : Ex w w8 := Chg.trans k7.drew (ch8.mono (fun x (hx : x < w.heap.size) => by omega))
            obtain ⟨x5, o5, y5, he5, hx5, hy5, hc5⟩ := (hs.out.nx k8).at hlt
            cases he5
            obtain rfl : y = y5 := Option.some.inj (HY.out.symm.trans hy5)
            have b0 : w8.cell? ⟨x1, o1 + k * 3, none⟩ = some (.int .i64 y.id) := hc5 0 _ rfl
            have b1 : w8.cell? ⟨x1, o1 + k * 3 + 1, none⟩ = some (.string y.key) := hc5 1 _ rfl
            have b2 : w8.cell? ⟨x1, o1 + k * 3 + 1 + 1, none⟩ = some (.int .u32 y.word) := by simpa [Nat.add_assoc] using hc5 2 _ rfl
            obtain ⟨⟨va, vb, vc, d0, d1, d2⟩, fz, OS⟩ := own_set3 own8 (j := j) (by omega) y
            have fz0 := fz (j * 3)
            have fz1 := fz (j * 3 + 1)
            have fz2 := fz (j * 3 + 1 + 1)
            clear hc5 hy5 own8 ch8 fz
            go_wp2_with fail
            exact ⟨⟨k + 1, by omega, by go_num, by rw [FS.out, STEP.out, ← SH.out]; exact OS, ((k8.setNew (p := ⟨g7, j * 3, none⟩) _ hg7).setNew (p := ⟨g7, j * 3 + 1, none⟩) _ hg7).setNew (p := ⟨g7, j * 3 + 2, none⟩) _ hg7⟩, by simp [intOf]; omega⟩
          | false =>
            cases he : (z.key.toList == y.key.toList) with
            | true =>
              by_cases hid : y.id < z.id
              · have hN := Lib.hid (GOON (by rw [GT]; simp [hb, he, hid]))
                clear STOP GOON GT
                go_wp2_with fail
                go_quiet (fail)
                go_wp2_with fail
                exact ⟨⟨j - 1, by omega, by first | rfl | rw [hj1], hN.out, ki.drewN _⟩, by simp [intOf]; omega⟩
              · have HAT' := Lib.hid (STOP (by rw [GT]; simp [hb, he, hid]))
                clear STOP GOON GT
                go_wp2_with fail
                go_quiet (fail)
                clear f0 f1 g0 g1
                have hz : w.heap.size ≤ wi.heap.size := Nat.le_trans kw.size ki.size
                go_upto_region 9 with (at_builtin; (refine wpList_append_lit (enc := encN) _ rfl _ _ 23 rfl w.heap.size 57 (.agg #[.int .i64 0, .string ByteArray.empty, .int .u32 0]) 3 32 Tryz.underlying23 Tryz.infoN rfl (by omega) (by omega) _ _ (OWN.out.nx (ki.drewN _)) rfl (⟨0, ByteArray.empty, 0⟩ : Nd) _ rfl rfl (by simp [encN, Value.oneCell']) _ (by simp) rfl (by omega) (by exact hz) _ ?_); intro v7 w7 own7 _ ch1 _)
                have k7 : Ex w w7 := Chg.trans (kw.nx (ki.drewN _)) ch1
                obtain ⟨L7, hL7⟩ : ∃ L7, L7 = out ++ [(⟨0, ByteArray.empty, 0⟩ : Nd)] := ⟨_, rfl⟩
                rw [← hL7] at own7
                have hl7 : L7.length = out.length + 1 := by rw [hL7]; simp
                obtain ⟨A7, cap7, rfl, _, c7, m7, some7⟩ := own7.rd (fun _ => rfl)
                obtain ⟨g7, rfl, hg7⟩ := some7 (by intro h0; rw [h0] at hl7; simp at hl7)
                rw [hl7] at own7 c7 ⊢
                have STEP : Hid (insN out y = L7.take j ++ y :: out.drop j) := Lib.hid (by unfold insN; rw [HAT'.out, hL7, List.take_append_of_le_length hj])
                have SH : Hid ((L7.take (j + 1) ++ (L7.drop j).take (out.length - j)).set j y = L7.take j ++ y :: out.drop j) := Lib.hid (shift_set out y j hj L7 hL7)
                have hcj : (j : Int) + 1 ≤ (cap7 : Int) := by omega
                have hcj2 : j + 1 ≤ cap7 := by omega
                have hjo : (j : Int) ≤ (out.length : Int) := by omega
                have jw : IntKind.i64.wrap ((j : Int) + 1) = (j : Int) + 1 := IntWalk.i64_in _ (by omega)
                have j0' : (0 : Int) ≤ (j : Int) + 1 := by omega
                have jt : ((j : Int) + 1).toNat = j + 1 := by omega
                have jc : ¬ cap7 = j := by omega
                have hjo2 : (j : Int) ≤ (out.length : Int) + 1 := by omega
                clear hL7 hl7 some7 ch1 hz ki HAT'
                go_wp2_with fail
                refine wp_region_held_drew (S := fun _ => True) (by kernel_rfl) (trivial) (fun hHeld => ?_)
                refine wpAnyH_take (i := 0) (oi := ⟨some 64, .move (.tmp 3), 23, "ref.go:42", #[], none⟩) (v := ?_) rfl (by kernel_rfl) (by kernel_rfl) (by kernel_rfl) (fun _ _ _ h => h) (Or.inl ⟨by rfl, ?hyr2x0q1⟩) (by assumption) ?restr2x0q1
                case hyr2x0q1 => intro wq hSw; (go_simp); (try with_reducible rfl)
                try simp only [Act.put, List.setIfInBounds_toArray, List.set_cons_zero, List.set_cons_succ]
                refine wpAnyH_take (i := 1) (oi := ⟨some 65, .move (.tmp 5), 3, "ref.go:42", #[], none⟩) (v := ?_) rfl (by kernel_rfl) (by kernel_rfl) (by kernel_rfl) (fun _ _ _ h => h) (Or.inl ⟨by rfl, ?hyr2x1q4⟩) (by assumption) ?restr2x1q4
                case hyr2x1q4 => intro wq hSw; (go_simp); (try with_reducible rfl)
                try simp only [Act.put, List.setIfInBounds_toArray, List.set_cons_zero, List.set_cons_succ]
                refine wpAnyH_take (i := 2) (oi := ⟨some 66, .binOp .add 3 (.tmp 65) (.const (.int .i64 1)) 3, 3, "ref.go:42", #[⟨1, .data⟩], none⟩) (v := ?_) rfl (by kernel_rfl) (by kernel_rfl) (by kernel_rfl) (fun _ _ _ h => h) (Or.inl ⟨by rfl, ?hyr2x2q7⟩) (by assumption) ?restr2x2q7
                case hyr2x2q7 => intro wq hSw; (go_simp); (try with_reducible rfl)
                try simp only [Act.put, List.setIfInBounds_toArray, List.set_cons_zero, List.set_cons_succ]
                refine wpAnyH_take (i := 3) (oi := ⟨some 67, .slice 23 (.tmp 64) (some (.tmp 66)) none none, 23, "ref.go:42", #[⟨0, .data⟩, ⟨2, .data⟩], none⟩) (v := ?_) rfl (by kernel_rfl) (by kernel_rfl) (by kernel_rfl) (fun _ _ _ h => h) (Or.inl ⟨by rfl, ?hyr2x3q10⟩) (by assumption) ?restr2x3q10
                case hyr2x3q10 => intro wq hSw; (go_simp); (try with_reducible rfl)
                try simp only [Act.put, List.setIfInBounds_toArray, List.set_cons_zero, List.set_cons_succ]
                refine wpAnyH_take (i := 4) (oi := ⟨some 68, .move (.tmp 3), 23, "ref.go:42", #[], none⟩) (v := ?_) rfl (by kernel_rfl) (by kernel_rfl) (by kernel_rfl) (fun _ _ _ h => h) (Or.inl ⟨by rfl, ?hyr2x4q13⟩) (by assumption) ?restr2x4q13
                case hyr2x4q13 => intro wq hSw; (go_simp); (try with_reducible rfl)
                try simp only [Act.put, List.setIfInBounds_toArray, List.set_cons_zero, List.set_cons_succ]
                refine wpAnyH_take (i := 5) (oi := ⟨some 69, .move (.tmp 5), 3, "ref.go:42", #[], none⟩) (v := ?_) rfl (by kernel_rfl) (by kernel_rfl) (by kernel_rfl) (fun _ _ _ h => h) (Or.inl ⟨by rfl, ?hyr2x5q16⟩) (by assumption) ?restr2x5q16
                case hyr2x5q16 => intro wq hSw; (go_simp); (try with_reducible rfl)
                try simp only [Act.put, List.setIfInBounds_toArray, List.set_cons_zero, List.set_cons_succ]
                refine wpAnyH_take (i := 6) (oi := ⟨some 70, .slice 23 (.tmp 68) (some (.tmp 69)) none none, 23, "ref.go:42", #[⟨4, .data⟩, ⟨5, .data⟩], none⟩) (v := ?_) rfl (by kernel_rfl) (by kernel_rfl) (by kernel_rfl) (fun _ _ _ h => h) (Or.inl ⟨by rfl, ?hyr2x6q19⟩) (by assumption) ?restr2x6q19
                case hyr2x6q19 => intro wq hSw; (go_simp); (try with_reducible rfl)
                try simp only [Act.put, List.setIfInBounds_toArray, List.set_cons_zero, List.set_cons_succ]
                refine wpAnyH_ready (rs := [7]) (by kernel_rfl) (by simp) ?_
                refine AllReadyH.cons (o := ⟨some 71, .call { callee := .builtin .copy, args := #[.tmp 67, .tmp 70], argTypes := #[23, 23] }, 3, "ref.go:42", #[⟨3, .data⟩, ⟨6, .data⟩], none⟩) rfl (fun K hK => ?_) AllReadyH.nil
                rw [if_pos (by rfl)]
                refine wp_copy_shift (enc := encN) (sz := 3) _ (.tmp 67) (.tmp 70) 23 rfl w.heap.size 57 Tryz.underlying23 (by kernel_rfl) (fun _ => rfl) (by simp [encN, Value.oneCell']) g7 out.length cap7 j L7 own7 hj _ _ _ _ rfl rfl (fun hlt => ⟨by rw [if_neg (by omega)], rfl⟩) ?_
                intro w8 own8 ch8 sz8
                refine hK.out _ _ (trivial) (fun hHeld => ?_)
                clear hK K
                try simp only [Act.put, List.setIfInBounds_toArray, List.set_cons_zero, List.set_cons_succ]
                refine wpAnyH_done (by kernel_rfl) ?_ _
                have k8 : Ex w w8 := Chg.trans k7.drew (ch8.mono (fun x (hx : x < w.heap.size) => by omega))
                obtain ⟨x5, o5, y5, he5, hx5, hy5, hc5⟩ := (hs.out.nx k8).at hlt
                cases he5
                obtain rfl : y = y5 := Option.some.inj (HY.out.symm.trans hy5)
                have b0 : w8.cell? ⟨x1, o1 + k * 3, none⟩ = some (.int .i64 y.id) := hc5 0 _ rfl
                have b1 : w8.cell? ⟨x1, o1 + k * 3 + 1, none⟩ = some (.string y.key) := hc5 1 _ rfl
                have b2 : w8.cell? ⟨x1, o1 + k * 3 + 1 + 1, none⟩ = some (.int .u32 y.word) := by simpa [Nat.add_assoc] using hc5 2 _ rfl
                obtain ⟨⟨va, vb, vc, d0, d1, d2⟩, fz, OS⟩ := own_set3 own8 (j := j) (by omega) y
                have fz0 := fz (j * 3)
                have fz1 := fz (j * 3 + 1)
                have fz2 := fz (j * 3 + 1 + 1)
                clear hc5 hy5 own8 ch8 fz
                go_wp2_with fail
                exact ⟨⟨k + 1, by omega, by go_num, by rw [FS.out, STEP.out, ← SH.out]; exact OS, ((k8.setNew (p := ⟨g7, j * 3, none⟩) _ hg7).setNew (p := ⟨g7, j * 3 + 1, none⟩) _ hg7).setNew (p := ⟨g7, j * 3 + 2, none⟩) _ hg7⟩, by simp [intOf]; omega⟩
            | false =>
              have hN := Lib.hid (GOON (by rw [GT]; simp [hb, he]))
              clear STOP GOON GT
              go_wp2_with fail
              go_quiet (fail)
              go_wp2_with fail
              exact ⟨⟨j - 1, by omega, by first | rfl | rw [hj1], hN.out, ki.drewN _⟩, by simp [intOf]; omega⟩
        · have HAT' : Hid (atN out y out.length = j) := Lib.hid (by rw [HAT.out, show j = 0 by omega]; simp [atN])
          go_wp2_with fail
          go_quiet (fail)
          have hz : w.heap.size ≤ wi.heap.size := Nat.le_trans kw.size ki.size
          go_upto_region 9 with (at_builtin; (refine wpList_append_lit (enc := encN) _ rfl _ _ 23 rfl w.heap.size 57 (.agg #[.int .i64 0, .string ByteArray.empty, .int .u32 0]) 3 32 Tryz.underlying23 Tryz.infoN rfl (by omega) (by omega) _ _ (OWN.out.nx (ki.drewN _)) rfl (⟨0, ByteArray.empty, 0⟩ : Nd) _ rfl rfl (by simp [encN, Value.oneCell']) _ (by simp) rfl (by omega) (by exact hz) _ ?_); intro v7 w7 own7 _ ch1 _)
          have k7 : Ex w w7 := Chg.trans (kw.nx (ki.drewN _)) ch1
          obtain ⟨L7, hL7⟩ : ∃ L7, L7 = out ++ [(⟨0, ByteArray.empty, 0⟩ : Nd)] := ⟨_, rfl⟩
          rw [← hL7] at own7
          have hl7 : L7.length = out.length + 1 := by rw [hL7]; simp
          obtain ⟨A7, cap7, rfl, _, c7, m7, some7⟩ := own7.rd (fun _ => rfl)
          obtain ⟨g7, rfl, hg7⟩ := some7 (by intro h0; rw [h0] at hl7; simp at hl7)
          rw [hl7] at own7 c7 ⊢
          have STEP : Hid (insN out y = L7.take j ++ y :: out.drop j) := Lib.hid (by unfold insN; rw [HAT'.out, hL7, List.take_append_of_le_length hj])
          have SH : Hid ((L7.take (j + 1) ++ (L7.drop j).take (out.length - j)).set j y = L7.take j ++ y :: out.drop j) := Lib.hid (shift_set out y j hj L7 hL7)
          have hcj : (j : Int) + 1 ≤ (cap7 : Int) := by omega
          have hcj2 : j + 1 ≤ cap7 := by omega
          have hjo : (j : Int) ≤ (out.length : Int) := by omega
          have jw : IntKind.i64.wrap ((j : Int) + 1) = (j : Int) + 1 := IntWalk.i64_in _ (by omega)
          have j0' : (0 : Int) ≤ (j : Int) + 1 := by omega
          have jt : ((j : Int) + 1).toNat = j + 1 := by omega
          have jc : ¬ cap7 = j := by omega
          have hjo2 : (j : Int) ≤ (out.length : Int) + 1 := by omega
          clear hL7 hl7 some7 ch1 hz ki HAT'
          go_wp2_with fail
          refine wp_region_held_drew (S := fun _ => True) (by kernel_rfl) (trivial) (fun hHeld => ?_)
          refine wpAnyH_take (i := 0) (oi := ⟨some 64, .move (.tmp 3), 23, "ref.go:42", #[], none⟩) (v := ?_) rfl (by kernel_rfl) (by kernel_rfl) (by kernel_rfl) (fun _ _ _ h => h) (Or.inl ⟨by rfl, ?hyr3x0q1⟩) (by assumption) ?restr3x0q1
          case hyr3x0q1 => intro wq hSw; (go_simp); (try with_reducible rfl)
          try simp only [Act.put, List.setIfInBounds_toArray, List.set_cons_zero, List.set_cons_succ]
          refine wpAnyH_take (i := 1) (oi := ⟨some 65, .move (.tmp 5), 3, "ref.go:42", #[], none⟩) (v := ?_) rfl (by kernel_rfl) (by kernel_rfl) (by kernel_rfl) (fun _ _ _ h => h) (Or.inl ⟨by rfl, ?hyr3x1q4⟩) (by assumption) ?restr3x1q4
          case hyr3x1q4 => intro wq hSw; (go_simp); (try with_reducible rfl)
          try simp only [Act.put, List.setIfInBounds_toArray, List.set_cons_zero, List.set_cons_succ]
          refine wpAnyH_take (i := 2) (oi := ⟨some 66, .binOp .add 3 (.tmp 65) (.const (.int .i64 1)) 3, 3, "ref.go:42", #[⟨1, .data⟩], none⟩) (v := ?_) rfl (by kernel_rfl) (by kernel_rfl) (by kernel_rfl) (fun _ _ _ h => h) (Or.inl ⟨by rfl, ?hyr3x2q7⟩) (by assumption) ?restr3x2q7
          case hyr3x2q7 => intro wq hSw; (go_simp); (try with_reducible rfl)
          try simp only [Act.put, List.setIfInBounds_toArray, List.set_cons_zero, List.set_cons_succ]
          refine wpAnyH_take (i := 3) (oi := ⟨some 67, .slice 23 (.tmp 64) (some (.tmp 66)) none none, 23, "ref.go:42", #[⟨0, .data⟩, ⟨2, .data⟩], none⟩) (v := ?_) rfl (by kernel_rfl) (by kernel_rfl) (by kernel_rfl) (fun _ _ _ h => h) (Or.inl ⟨by rfl, ?hyr3x3q10⟩) (by assumption) ?restr3x3q10
          case hyr3x3q10 => intro wq hSw; (go_simp); (try with_reducible rfl)
          try simp only [Act.put, List.setIfInBounds_toArray, List.set_cons_zero, List.set_cons_succ]
          refine wpAnyH_take (i := 4) (oi := ⟨some 68, .move (.tmp 3), 23, "ref.go:42", #[], none⟩) (v := ?_) rfl (by kernel_rfl) (by kernel_rfl) (by kernel_rfl) (fun _ _ _ h => h) (Or.inl ⟨by rfl, ?hyr3x4q13⟩) (by assumption) ?restr3x4q13
          case hyr3x4q13 => intro wq hSw; (go_simp); (try with_reducible rfl)
          try simp only [Act.put, List.setIfInBounds_toArray, List.set_cons_zero, List.set_cons_succ]
          refine wpAnyH_take (i := 5) (oi := ⟨some 69, .move (.tmp 5), 3, "ref.go:42", #[], none⟩) (v := ?_) rfl (by kernel_rfl) (by kernel_rfl) (by kernel_rfl) (fun _ _ _ h => h) (Or.inl ⟨by rfl, ?hyr3x5q16⟩) (by assumption) ?restr3x5q16
          case hyr3x5q16 => intro wq hSw; (go_simp); (try with_reducible rfl)
          try simp only [Act.put, List.setIfInBounds_toArray, List.set_cons_zero, List.set_cons_succ]
          refine wpAnyH_take (i := 6) (oi := ⟨some 70, .slice 23 (.tmp 68) (some (.tmp 69)) none none, 23, "ref.go:42", #[⟨4, .data⟩, ⟨5, .data⟩], none⟩) (v := ?_) rfl (by kernel_rfl) (by kernel_rfl) (by kernel_rfl) (fun _ _ _ h => h) (Or.inl ⟨by rfl, ?hyr3x6q19⟩) (by assumption) ?restr3x6q19
          case hyr3x6q19 => intro wq hSw; (go_simp); (try with_reducible rfl)
          try simp only [Act.put, List.setIfInBounds_toArray, List.set_cons_zero, List.set_cons_succ]
          refine wpAnyH_ready (rs := [7]) (by kernel_rfl) (by simp) ?_
          refine AllReadyH.cons (o := ⟨some 71, .call { callee := .builtin .copy, args := #[.tmp 67, .tmp 70], argTypes := #[23, 23] }, 3, "ref.go:42", #[⟨3, .data⟩, ⟨6, .data⟩], none⟩) rfl (fun K hK => ?_) AllReadyH.nil
          rw [if_pos (by rfl)]
          refine wp_copy_shift (enc := encN) (sz := 3) _ (.tmp 67) (.tmp 70) 23 rfl w.heap.size 57 Tryz.underlying23 (by kernel_rfl) (fun _ => rfl) (by simp [encN, Value.oneCell']) g7 out.length cap7 j L7 own7 hj _ _ _ _ rfl rfl (fun hlt => ⟨by rw [if_neg (by omega)], rfl⟩) ?_
          intro w8 own8 ch8 sz8
          refine hK.out _ _ (trivial) (fun hHeld => ?_)
          clear hK K
          try simp only [Act.put, List.setIfInBounds_toArray, List.set_cons_zero, List.set_cons_succ]
          refine wpAnyH_done (by kernel_rfl) ?_ _
          have k8 : Ex w w8 := Chg.trans k7.drew (ch8.mono (fun x (hx : x < w.heap.size) => by omega))
          obtain ⟨x5, o5, y5, he5, hx5, hy5, hc5⟩ := (hs.out.nx k8).at hlt
          cases he5
          obtain rfl : y = y5 := Option.some.inj (HY.out.symm.trans hy5)
          have b0 : w8.cell? ⟨x1, o1 + k * 3, none⟩ = some (.int .i64 y.id) := hc5 0 _ rfl
          have b1 : w8.cell? ⟨x1, o1 + k * 3 + 1, none⟩ = some (.string y.key) := hc5 1 _ rfl
          have b2 : w8.cell? ⟨x1, o1 + k * 3 + 1 + 1, none⟩ = some (.int .u32 y.word) := by simpa [Nat.add_assoc] using hc5 2 _ rfl
          obtain ⟨⟨va, vb, vc, d0, d1, d2⟩, fz, OS⟩ := own_set3 own8 (j := j) (by omega) y
          have fz0 := fz (j * 3)
          have fz1 := fz (j * 3 + 1)
          have fz2 := fz (j * 3 + 1 + 1)
          clear hc5 hy5 own8 ch8 fz
          go_wp2_with fail
          exact ⟨⟨k + 1, by omega, by go_num, by rw [FS.out, STEP.out, ← SH.out]; exact OS, ((k8.setNew (p := ⟨g7, j * 3, none⟩) _ hg7).setNew (p := ⟨g7, j * 3 + 1, none⟩) _ hg7).setNew (p := ⟨g7, j * 3 + 2, none⟩) _ hg7⟩, by simp [intOf]; omega⟩
    · obtain rfl : k = n := by omega
      rw [List.take_of_length_le (by rw [HL.out]; exact Nat.le_refl _)] at own
      obtain ⟨a3, cap3, rfl, r3, c3, m3, nil3⟩ := own.slf (fun _ => rfl)
      clear own hk
      go_wp2_with fail
      go_ret
      exact ⟨a3, _, cap3, rfl, r3, kw⟩
end Go.Proofs.YtbnbjiddffihoaaGreatDoor

/- Lists of lists of nodes. -/
namespace Go.Proofs.YtbnbjiddffihoaaGreatDoor
open Go.RowKit

abbrev Hdr := Option Addr × Nat × Nat
def Hdr.val (q : Hdr) : Value := .slice q.1 q.2.1 q.2.2
def encH (q : Hdr) : List Value := [q.val]
def LL (w : World) (a : Option Addr) (n : Nat) (C : List (List Nd)) : Prop :=
  ∃ qs : List Hdr, Sl 1 encH w a n qs ∧ C.length = n ∧ ∀ (j : Nat) (q : Hdr) (c : List Nd), qs[j]? = some q → C[j]? = some c → Sl 3 encN w q.1 q.2.1 c
theorem LL.nx {w w' : World} {a : Option Addr} {n : Nat} {C : List (List Nd)} (h : LL w a n C) (k : Ex w w') : LL w' a n C := by
  obtain ⟨qs, h1, h2, h3⟩ := h
  exact ⟨qs, h1.nx k, h2, fun j q c hq hc => (h3 j q c hq hc).nx k⟩
theorem LL.len {w : World} {a : Option Addr} {n : Nat} {C : List (List Nd)} (h : LL w a n C) : C.length = n := by
  obtain ⟨qs, h1, h2, h3⟩ := h
  exact h2
theorem LL.at {w : World} {a : Option Addr} {n : Nat} {C : List (List Nd)} (h : LL w a n C) {j : Nat} (hj : j < n) :
    ∃ x o a' n' c' c, a = some ⟨x, o, none⟩ ∧ x < w.heap.size ∧ C[j]? = some c ∧ w.cell? ⟨x, o + j, none⟩ = some (.slice a' n' c') ∧ Sl 3 encN w a' n' c := by
  obtain ⟨qs, h1, h2, h3⟩ := h
  obtain ⟨x, o, q, e, hx, hq, hc⟩ := h1.at hj
  obtain ⟨c, hcc⟩ : ∃ c, C[j]? = some c := ⟨C[j]'(by omega), by simp⟩
  refine ⟨x, o, q.1, q.2.1, q.2.2, c, e, hx, hcc, ?_, h3 j q c hq hcc⟩
  have := hc 0 _ rfl
  rw [Nat.mul_one, Nat.add_zero] at this
  exact this
theorem LL.nil (w : World) (a : Option Addr) : LL w a 0 [] := ⟨[], Sl.nil _ _ _ _, rfl, by intro j q c h; simp at h⟩

def headW (c : List Nd) : Nat := match c with | [] => 0 | y :: _ => y.word


end Go.Proofs.YtbnbjiddffihoaaGreatDoor

/- A row of the call's own whose block may be larger than its slice says. -/
namespace Go.Proofs.YtbnbjiddffihoaaGreatDoor
open Go.RowKit

theorem flatW_len {α : Type} {sz : Nat} {enc : α → List Value} (h : ∀ y, (enc y).length = sz) (l : List α) : (l.flatMap enc).length = l.length * sz := by
  induction l with
  | nil => simp
  | cons y r ih => rw [List.flatMap_cons, List.length_append, h, ih, List.length_cons, Nat.succ_mul]; omega
theorem Sl.flatW {α : Type} {sz n : Nat} {enc : α → List Value} {w : World} {x o : Nat} {l : List α} (hlen : ∀ y, (enc y).length = sz) (hsz : 0 < sz) (h : Sl sz enc w (some ⟨x, o, none⟩) n l) :
    ∀ j u, (l.flatMap enc)[j]? = some u → w.cell? ⟨x, o + j, none⟩ = some u := by
  intro j u hu
  have hj := (List.getElem?_eq_some_iff.1 hu).1
  rcases h.2 with h0 | ⟨x', o', e1, _, e3⟩
  · have : l = [] := List.eq_nil_of_length_eq_zero (h.1.trans h0)
    subst this
    simp at hj
  · cases e1
    have hdiv : ∀ (l : List α) (j : Nat), (l.flatMap enc)[j]? = some u → ∃ y, l[j / sz]? = some y ∧ (enc y)[j % sz]? = some u := by
      intro l
      induction l with
      | nil => intro j hu; simp at hu
      | cons y r ih =>
        intro j hu
        rw [List.flatMap_cons] at hu
        by_cases hlt : j < sz
        · rw [List.getElem?_append_left (by rw [hlen]; exact hlt)] at hu
          exact ⟨y, by rw [Nat.div_eq_of_lt hlt]; rfl, by rw [Nat.mod_eq_of_lt hlt]; exact hu⟩
        · rw [List.getElem?_append_right (by rw [hlen]; omega), hlen] at hu
          obtain ⟨y', h1', h2'⟩ := ih (j - sz) hu
          have e1 : j / sz = (j - sz) / sz + 1 := by rw [Nat.div_eq_sub_div hsz (by omega)]
          have e2 : j % sz = (j - sz) % sz := by rw [Nat.mod_eq_sub_mod (by omega)]
          exact ⟨y', by rw [e1]; simpa using h1', by rw [e2]; exact h2'⟩
    obtain ⟨y, hy1, hy2⟩ := hdiv l j hu
    have := e3 _ y hy1 _ u hy2
    rw [Nat.add_assoc, Nat.mul_comm, Nat.div_add_mod] at this
    exact this


section
variable {α : Type} {sz : Nat} {enc : α → List Value} {e : TypeId} {base : Nat} {w w' : World} {v : Value} {l : List α}
def OwnW (sz : Nat) (enc : α → List Value) (e : TypeId) (base : Nat) (w : World) (v : Value) (l : List α) : Prop :=
  (v = .slice none 0 0 ∧ l = []) ∨ ∃ (g cap : Nat) (cur : Array Value), v = .slice (some ⟨g, 0, none⟩) l.length cap ∧ base ≤ g ∧ w.heap[g]? = some (.cells cur e (0, 0)) ∧ l.length ≤ cap ∧ cap ≤ maxLen ∧ cap * sz ≤ cur.size ∧ cur.toList.take (l.length * sz) = l.flatMap enc
theorem OwnL.toW (h : OwnL sz enc e base w v l) : OwnW sz enc e base w v l := by
  rcases h.2 with ⟨h1, h2⟩ | ⟨g, cap, cur, h1, h2, h3, h4, h5, h6, h7⟩
  · exact .inl ⟨h1, List.eq_nil_of_length_eq_zero h2⟩
  · exact .inr ⟨g, cap, cur, h1, h2, h3, h4, h5, Nat.le_of_eq h6.symm, h7⟩
theorem OwnW.nil (sz : Nat) (enc : α → List Value) (e : TypeId) (base : Nat) (w : World) : OwnW sz enc e base w (.slice none 0 0) [] := .inl ⟨rfl, rfl⟩
theorem OwnW.blk (h : OwnW sz enc e base w v l) {g : Nat} (hg : v.ownBlock = some g) : base ≤ g ∧ ∃ cur, w.heap[g]? = some (.cells cur e (0, 0)) := by
  rcases h with ⟨rfl, _⟩ | ⟨g', cap, cur, rfl, hb, hh, _⟩
  · cases hg
  · obtain rfl : g' = g := by simpa [Value.ownBlock] using hg
    exact ⟨hb, cur, hh⟩
theorem OwnW.chg (h : OwnW sz enc e base w v l) {S : Nat → Prop} (k : Chg S w w') (hs : ∀ x, x < w.heap.size → v.ownBlock = some x → S x) : OwnW sz enc e base w' v l := by
  rcases h with h | ⟨g, cap, cur, rfl, hb, hh, rest⟩
  · exact .inl h
  · exact .inr ⟨g, cap, cur, rfl, hb, (k.block g (hs g (heap_lt hh) rfl)).trans hh, rest⟩
theorem OwnW.nx (h : OwnW sz enc e base w v l) (k : Ex w w') : OwnW sz enc e base w' v l := h.chg k (fun _ hx _ => hx)
theorem OwnW.nxb {b : Nat} (h : OwnW sz enc e base w v l) (hb : b < base) (k : Exb b w w') : OwnW sz enc e base w' v l := h.chg k (fun x hx hv => ⟨hx, by have := (h.blk hv).1; omega⟩)
theorem OwnW.lower {base' : Nat} (h : OwnW sz enc e base w v l) (hb : base' ≤ base) : OwnW sz enc e base' w v l := by
  rcases h with h | ⟨g, cap, cur, h1, h2, rest⟩
  · exact .inl h
  · exact .inr ⟨g, cap, cur, h1, by omega, rest⟩
theorem OwnW.rd (h : OwnW sz enc e base w v l) (hsz : ∀ y, (enc y).length = sz) :
    ∃ a cap, v = .slice a l.length cap ∧ Rd sz enc (fun k => base ≤ k ∧ k < w.heap.size) w a l.length l ∧ l.length ≤ cap ∧ cap ≤ maxLen ∧ (l ≠ [] → ∃ g, a = some ⟨g, 0, none⟩ ∧ base ≤ g) ∧ (a = none → cap = 0) := by
  rcases h with ⟨rfl, rfl⟩ | ⟨g, cap, cur, rfl, hb, hg, h1, h2, h3, h4⟩
  · exact ⟨none, 0, rfl, Rd.nil _ _ _ _ _, by simp, by unfold maxLen; omega, fun h => absurd rfl h, fun _ => rfl⟩
  · refine ⟨_, cap, rfl, (Rd.block l hg rfl hsz (fun i u hu => ?_)).mono (fun k hk => by subst hk; exact ⟨hb, heap_lt hg⟩), h1, h2, fun _ => ⟨g, rfl, hb⟩, fun h => by cases h⟩
    rw [← h4, List.getElem?_take] at hu
    split at hu
    · simpa using hu
    · cases hu
theorem OwnW.cut (hsz : ∀ y, (enc y).length = sz) {g n cap m : Nat} (h : OwnW sz enc e base w (.slice (some ⟨g, 0, none⟩) n cap) l) (hm : m ≤ n) : OwnW sz enc e base w (.slice (some ⟨g, 0, none⟩) m m) (l.take m) := by
  rcases h with ⟨h1, _⟩ | ⟨g', cap', cur, e1, e2, e3, e4, e5, e6, e7⟩
  · cases h1
  · obtain ⟨rfl, rfl, rfl⟩ : g = g' ∧ n = l.length ∧ cap = cap' := by simpa using e1
    have hml : (l.take m).length = m := by rw [List.length_take]; omega
    refine .inr ⟨g, m, cur, by rw [hml], e2, e3, by rw [hml]; exact Nat.le_refl _, by omega, Nat.le_trans (Nat.mul_le_mul_right _ (by omega)) e6, ?_⟩
    rw [hml, flatN_take hsz, ← e7, List.take_take, Nat.min_eq_left (Nat.mul_le_mul_right _ hm)]
theorem wp_append_W {P : Program} {o : Oper} {a : Act} {K : Act → World → Prop} {Q : Exit → Act → World → Prop} (w : World) (s x : Operand) (t : TypeId)
    (ho : o.op = .call { callee := .builtin .append, args := #[s, x], argTypes := #[t, t] })
    (base : Nat) (e : TypeId) (z : Value) (sz bytes : Nat) (ht : P.underlying t = some (.slice e)) (hi : (P.info? e).map (fun i => (i.zero, i.size, i.bytes)) = some (some z, sz, bytes))
    (hzs : z.cells.size = sz) (hsz : 0 < sz) (hby : bytes ≤ 65536)
    (v : Value) (l : List α) (hown : OwnW sz enc e base w v l) (hs : a.eval s = v) (A : Addr) (n c : Nat) (news : List α) (hrd : Sl sz enc w (some A) n news) (hlen : ∀ y, (enc y).length = sz) (h1 : ∀ y, ∀ u ∈ enc y, u.oneCell' = true)
    (hx : a.eval x = .slice (some A) n c) (hl : l.length ≤ 1000000) (hn : n ≤ 1000000) (hbase : base ≤ w.heap.size)
    (h : ∀ v' w', OwnW sz enc e base w' v' (l ++ news) → Chg (fun k => k < w.heap.size ∧ ¬ v.ownBlock = some k) w w' → Chg (· < base) w w' → (v'.ownBlock = v.ownBlock ∨ ∀ g, v'.ownBlock = some g → w.heap.size ≤ g) → K (a.put o.dst v') w') :
    o.wp P a w K Q := by
  obtain ⟨i, hi, hz0, hz1, hz2⟩ := info_parts hi
  have hnl := hrd.len
  have hmul : (l.length + n) * bytes ≤ 2000000 * 65536 := Nat.mul_le_mul (by omega) hby
  have hnew : ∀ j u, (news.flatMap enc)[j]? = some u → w.cell? (A.add j) = some u := by
    intro j u hu
    rcases hrd.2 with h0 | ⟨x, o, e1, _, _⟩
    · have : news = [] := List.eq_nil_of_length_eq_zero (hnl.trans h0)
      subst this
      simp at hu
    · cases e1
      rw [Addr.add_lit]
      exact hrd.flatW hlen hsz j u hu
  have hnf : (news.flatMap enc).length = n * sz := by rw [flatW_len hlen, hnl]
  have h1f : ∀ u ∈ news.flatMap enc, u.oneCell' = true := fun u hu => by
    obtain ⟨y, _, hy⟩ := List.mem_flatMap.1 hu
    exact h1 y u hy
  have close : ∀ v' w', (Builtin.append_ #[t, t] o.type #[v, .slice (some A) n c]).run P w = .ok v' w' → K (a.put o.dst v') w' → o.wp P a w K Q := by
    intro v' w' hrun hK
    unfold Oper.wp
    simp [execOp, ho, resolve, invoke, builtin, hs, hx, hrun, Result.andThen]
    exact hK
  have fresh : ∀ v' w', w'.ownsRow w.heap.size e sz v' (l.length + n) (l.flatMap enc ++ news.flatMap enc) → w.grownBy w' none → (∀ g, v.ownBlock = some g → base ≤ g) → K (a.put o.dst v') w' := by
    intro v' w' hr hg hvb
    have ho : OwnL sz enc e w.heap.size w' v' (l ++ news) := by
      unfold OwnL
      rw [List.length_append, hnl, List.flatMap_append]
      exact hr
    have hch : Ex w w' := ⟨hg.os, hg.tape, hg.output, hg.size, fun k hk => hg.block k hk (by simp)⟩
    exact h v' w' (OwnW.lower (OwnL.toW ho) hbase) (Chg.mono hch (fun k hk => hk.1)) (Chg.mono hch (fun k (hk : k < base) => by show k < w.heap.size; omega)) (.inr fun g hg => ((OwnL.toW ho).blk hg).1)
  rcases hown with ⟨rfl, rfl⟩ | ⟨g, cap, cur, rfl, hbg, hg, hnc, hcm, hcs, htake⟩
  · obtain ⟨v', w', hrun, r1, r2, _, _⟩ := run_append_own_at (P := P) w w.heap.size t o.type e i z sz bytes ht hi hz0 hz1 hz2 hzs hsz (.slice none 0 0) 0 [] (World.ownsRow_nil _ _ e sz) A n c (news.flatMap enc) hnf hnew h1f (by unfold maxLen; omega) (by simp only [Nat.zero_add]; have : n * bytes ≤ 1000000 * 65536 := Nat.mul_le_mul hn hby; omega) (Nat.le_refl _)
    refine close v' w' hrun (fresh v' w' (by simpa using r1) r2 (fun g hg => by cases hg))
  · by_cases hroom : l.length + n ≤ cap
    · have hmm : (l.length + n) * sz ≤ cap * sz := Nat.mul_le_mul_right _ hroom
      rw [Nat.add_mul] at hmm
      have hrun := run_append_room (P := P) w t o.type e i ht hi g l.length cap cur hg A n c (news.flatMap enc) (by rw [hz1]; exact hnf) hnew h1f hroom (by rw [hz1, hnf]; omega)
      refine close _ _ hrun (h _ _ (.inr ⟨g, cap, _, ?_, hbg, setRow_heap w g cur _ e _ hg, ?_, hcm, ?_, ?_⟩) ⟨rfl, rfl, rfl, by simp [World.setRow], fun k hk => setRow_other w g k _ (fun he => hk.2 (by rw [he]; rfl))⟩ ⟨rfl, rfl, rfl, by simp [World.setRow], fun k hk => setRow_other w g k _ (by omega)⟩ (.inl rfl))
      · rw [List.length_append, hnl]
      · rw [List.length_append, hnl]; exact hroom
      · simp only [List.size_toArray, List.length_append, List.length_take, List.length_drop, Array.length_toList, hz1, hnf]
        omega
      · rw [List.length_append, hnl, hz1, htake, List.flatMap_append, Nat.add_mul]
        have : (l.flatMap enc ++ news.flatMap enc).length = l.length * sz + n * sz := by rw [List.length_append, flatW_len hlen, hnf]
        rw [← this]
        exact List.take_left
    · have holds : ∀ j u, (l.flatMap enc)[j]? = some u → w.cell? ((⟨g, 0, none⟩ : Addr).add j) = some u := by
        intro j u hu
        rw [Addr.add_lit, Nat.zero_add, World.cell?, hg]
        rw [← htake, List.getElem?_take] at hu
        split at hu
        · simpa using hu
        · cases hu
      obtain ⟨v', w', hrun, r1, r2⟩ := run_append_arg_grows (P := P) w t o.type e i z sz bytes ht hi hz0 hz1 hz2 hzs hsz ⟨g, 0, none⟩ l.length cap (l.flatMap enc) (by rw [flatW_len hlen]) holds A n c (news.flatMap enc) hnf hnew (by omega) (by unfold maxLen; omega) (by omega)
      exact close v' w' hrun (fresh v' w' r1 r2 (fun g' hg' => by simp [Value.ownBlock] at hg'; omega))
theorem wpList_append_W {P : Program} {ops : Array Oper} {rest : List Oper} {o : Oper} {a : Act} {Q : Exit → Act → World → Prop} (w : World) (hgd : o.guard = none) (s x : Operand) (t : TypeId)
    (ho : o.op = .call { callee := .builtin .append, args := #[s, x], argTypes := #[t, t] })
    (base : Nat) (e : TypeId) (z : Value) (sz bytes : Nat) (ht : P.underlying t = some (.slice e)) (hi : (P.info? e).map (fun i => (i.zero, i.size, i.bytes)) = some (some z, sz, bytes))
    (hzs : z.cells.size = sz) (hsz : 0 < sz) (hby : bytes ≤ 65536)
    (v : Value) (l : List α) (hown : OwnW sz enc e base w v l) (hs : a.eval s = v) (A : Addr) (n c : Nat) (news : List α) (hrd : Sl sz enc w (some A) n news) (hlen : ∀ y, (enc y).length = sz) (h1 : ∀ y, ∀ u ∈ enc y, u.oneCell' = true)
    (hx : a.eval x = .slice (some A) n c) (hl : l.length ≤ 1000000) (hn : n ≤ 1000000) (hbase : base ≤ w.heap.size)
    (h : ∀ v' w', OwnW sz enc e base w' v' (l ++ news) → Chg (fun k => k < w.heap.size ∧ ¬ v.ownBlock = some k) w w' → Chg (· < base) w w' → (v'.ownBlock = v.ownBlock ∨ ∀ g, v'.ownBlock = some g → w.heap.size ≤ g) → wpList P ops Q rest (a.put o.dst v') w') :
    wpList P ops Q (o :: rest) a w :=
  wpList_plain hgd fun _ hK => wp_append_W w s x t ho base e z sz bytes ht hi hzs hsz hby v l hown hs A n c news hrd hlen h1 hx hl hn hbase fun v' w' h2 h3 h4 h5 => hK _ _ (h v' w' h2 h3 h4 h5)
theorem flat_setW {c : Nat} (hsz : ∀ y, (enc y).length = sz) (hc : c < sz) {y' : α} {u : Value} :
    ∀ (L : List α) (j : Nat) (y : α), L[j]? = some y → enc y' = (enc y).set c u → (L.set j y').flatMap enc = (L.flatMap enc).set (j * sz + c) u
  | [], j, y, h, _ => by simp at h
  | z :: r, 0, y, h, hv => by
    simp at h; subst h
    rw [List.set_cons_zero, List.flatMap_cons, List.flatMap_cons, hv, Nat.zero_mul, Nat.zero_add, List.set_append_left _ _ (by rw [hsz]; exact hc)]
  | z :: r, j + 1, y, h, hv => by
    rw [List.set_cons_succ, List.flatMap_cons, List.flatMap_cons, flat_setW hsz hc r j y (by simpa using h) hv, List.set_append_right _ _ (by rw [hsz, Nat.succ_mul]; omega), hsz]
    congr 2
    rw [Nat.succ_mul]; omega
theorem OwnW.set1 (hsz : ∀ y, (enc y).length = sz) {g n cap j c : Nat} {y : α} (h : OwnW sz enc e base w (.slice (some ⟨g, 0, none⟩) n cap) l)
    (hy : l[j]? = some y) (hc : c < sz) : w.cell? ⟨g, j * sz + c, none⟩ = (enc y)[c]? ∧ w.frozen? ⟨g, j * sz + c, none⟩ = false ∧
      ∀ (y' : α) (u : Value), enc y' = (enc y).set c u → OwnW sz enc e base (w.setCell ⟨g, j * sz + c, none⟩ u) (.slice (some ⟨g, 0, none⟩) n cap) (l.set j y') := by
  rcases h with ⟨h1, _⟩ | ⟨g', cap', cur, e1, e2, e3, e4, e5, e6, e7⟩
  · cases h1
  · obtain ⟨rfl, hLn, rfl⟩ : g = g' ∧ n = l.length ∧ cap = cap' := by simpa using e1
    have hjl := (List.getElem?_eq_some_iff.1 hy).1
    have hlt : j * sz + c < l.length * sz := by
      have : (j + 1) * sz ≤ l.length * sz := Nat.mul_le_mul_right _ hjl
      rw [Nat.succ_mul] at this; omega
    refine ⟨?_, by simp [World.frozen?, e3], fun y' u hv => .inr ⟨g, cap, _, by simp [hLn], e2, heap_set e3 _ u, by simpa using e4, e5, by simpa using e6, ?_⟩⟩
    · have h2 : (cur.toList.take (l.length * sz))[j * sz + c]? = (enc y)[c]? := by
        rw [e7]
        have hcy : c < (enc y).length := by rw [hsz]; exact hc
        rw [List.getElem?_eq_getElem hcy]
        exact flat_at hsz l j y hy c _ (List.getElem?_eq_getElem hcy)
      rw [List.getElem?_take, if_pos hlt] at h2
      simpa [World.cell?, e3] using h2
    · rw [flat_setW hsz hc l j y hy hv, ← e7, List.length_set]
      simp only [Array.toList_setIfInBounds, List.take_set]
end
end Go.Proofs.YtbnbjiddffihoaaGreatDoor

/- Lists whose elements hold a list each, in memory: read (NL), and made by the call itself (OwnN). -/
namespace Go.Proofs.YtbnbjiddffihoaaGreatDoor
open Go.RowKit

theorem OwnL.blk {α : Type} {sz e base : Nat} {enc : α → List Value} {w : World} {v : Value} {l : List α} (h : OwnL sz enc e base w v l) {g : Nat} (hg : v.ownBlock = some g) : base ≤ g ∧ ∃ cur, w.heap[g]? = some (.cells cur e (0, 0)) := by
  rcases h.2 with ⟨rfl, _⟩ | ⟨g', cap, cur, rfl, hb, hh, _⟩
  · cases hg
  · obtain rfl : g' = g := by simpa [Value.ownBlock] using hg
    exact ⟨hb, cur, hh⟩
section
variable {A β : Type} {encA : A → List Value} {s1 s2 : Nat} {encB : β → List Value} {e1 e2 : TypeId}
def encP (encA : A → List Value) (q : A × Hdr) : List Value := encA q.1 ++ [q.2.val]
def NL (encA : A → List Value) (s1 s2 : Nat) (encB : β → List Value) (w : World) (a : Option Addr) (n : Nat) (L : List (A × List β)) : Prop :=
  ∃ qs : List (A × Hdr), Sl s1 (encP encA) w a n qs ∧ L.length = n ∧ ∀ (j : Nat) (q : A × Hdr) (c : A × List β), qs[j]? = some q → L[j]? = some c → q.1 = c.1 ∧ Sl s2 encB w q.2.1 q.2.2.1 c.2
theorem NL.nx {w w' : World} {a : Option Addr} {n : Nat} {L : List (A × List β)} (h : NL encA s1 s2 encB w a n L) (k : Ex w w') : NL encA s1 s2 encB w' a n L := by
  obtain ⟨qs, h1, h2, h3⟩ := h
  exact ⟨qs, h1.nx k, h2, fun j q c hq hc => ⟨(h3 j q c hq hc).1, (h3 j q c hq hc).2.nx k⟩⟩
theorem NL.len {w : World} {a : Option Addr} {n : Nat} {L : List (A × List β)} (h : NL encA s1 s2 encB w a n L) : L.length = n := by
  obtain ⟨qs, h1, h2, h3⟩ := h
  exact h2
theorem NL.at {w : World} {a : Option Addr} {n : Nat} {L : List (A × List β)} (h : NL encA s1 s2 encB w a n L) {j : Nat} (hj : j < n) :
    ∃ x o a' n' c' c, a = some ⟨x, o, none⟩ ∧ x < w.heap.size ∧ L[j]? = some c ∧ (∀ i u, (encA c.1 ++ [.slice a' n' c'])[i]? = some u → w.cell? ⟨x, o + j * s1 + i, none⟩ = some u) ∧ Sl s2 encB w a' n' c.2 := by
  obtain ⟨qs, h1, h2, h3⟩ := h
  obtain ⟨x, o, q, e, hx, hq, hc⟩ := h1.at hj
  obtain ⟨c, hcc⟩ : ∃ c, L[j]? = some c := ⟨L[j]'(by omega), by simp⟩
  obtain ⟨r1, r2⟩ := h3 j q c hq hcc
  refine ⟨x, o, q.2.1, q.2.2.1, q.2.2.2, c, e, hx, hcc, fun i u hu => hc i u ?_, r2⟩
  unfold encP
  rw [r1]
  exact hu
theorem NL.nil (encA : A → List Value) (s1 s2 : Nat) (encB : β → List Value) (w : World) (a : Option Addr) : NL encA s1 s2 encB w a 0 [] := ⟨[], Sl.nil _ _ _ _, rfl, by intro j q c h; simp at h⟩

def OwnN (encA : A → List Value) (s1 s2 : Nat) (encB : β → List Value) (e1 e2 : TypeId) (base : Nat) (w : World) (v : Value) (qs : List (A × Hdr)) (L : List (A × List β)) : Prop :=
  OwnW s1 (encP encA) e1 base w v qs ∧ qs.length = L.length ∧
  (∀ (j : Nat) (q : A × Hdr) (c : A × List β), qs[j]? = some q → L[j]? = some c → q.1 = c.1 ∧ OwnL s2 encB e2 base w q.2.val c.2) ∧
  ∀ (i j : Nat) (qi qj : A × Hdr) (g : Nat), qs[i]? = some qi → qs[j]? = some qj → qi.2.val.ownBlock = some g → qj.2.val.ownBlock = some g → i = j
theorem OwnN.nil (encA : A → List Value) (s1 s2 : Nat) (encB : β → List Value) (e1 e2 : TypeId) (base : Nat) (w : World) : OwnN encA s1 s2 encB e1 e2 base w (.slice none 0 0) [] [] :=
  ⟨OwnW.nil _ _ _ _ _, rfl, by intro j q c h; simp at h, by intro i j qi qj g h; simp at h⟩
variable {base : Nat} {w w' : World} {v v' : Value} {qs : List (A × Hdr)} {L : List (A × List β)}
theorem OwnN.nx (h : OwnN encA s1 s2 encB e1 e2 base w v qs L) (k : Ex w w') : OwnN encA s1 s2 encB e1 e2 base w' v qs L :=
  ⟨h.1.nx k, h.2.1, fun j q c hq hc => ⟨(h.2.2.1 j q c hq hc).1, (h.2.2.1 j q c hq hc).2.nx k⟩, h.2.2.2⟩
theorem OwnN.nxb {b : Nat} (h : OwnN encA s1 s2 encB e1 e2 base w v qs L) (hb : b < base) (k : Exb b w w') : OwnN encA s1 s2 encB e1 e2 base w' v qs L :=
  ⟨h.1.nxb hb k, h.2.1, fun j q c hq hc => ⟨(h.2.2.1 j q c hq hc).1, (h.2.2.1 j q c hq hc).2.nxb hb k⟩, h.2.2.2⟩
theorem OwnN.blk (h : OwnN encA s1 s2 encB e1 e2 base w v qs L) {j g : Nat} {q : A × Hdr} (hq : qs[j]? = some q) (hg : q.2.val.ownBlock = some g) : base ≤ g ∧ ∃ cur, w.heap[g]? = some (.cells cur e2 (0, 0)) := by
  obtain ⟨c, hc⟩ : ∃ c, L[j]? = some c := ⟨L[j]'(by have := (List.getElem?_eq_some_iff.1 hq).1; have := h.2.1; omega), by simp⟩
  exact (h.2.2.1 j q c hq hc).2.blk hg
theorem OwnN.lt (h : OwnN encA s1 s2 encB e1 e2 base w v qs L) {j g : Nat} {q : A × Hdr} (hq : qs[j]? = some q) (hg : q.2.val.ownBlock = some g) : g < w.heap.size := by
  obtain ⟨_, cur, h1⟩ := h.blk hq hg
  exact heap_lt h1
theorem OwnN.ne (hne : e1 ≠ e2) (h : OwnN encA s1 s2 encB e1 e2 base w v qs L) {j g : Nat} {q : A × Hdr} (hq : qs[j]? = some q) (hg : q.2.val.ownBlock = some g) : ¬ v.ownBlock = some g := by
  intro hv
  obtain ⟨_, cur, h1⟩ := h.blk hq hg
  obtain ⟨_, cur', h2⟩ := h.1.blk hv
  rw [h1] at h2
  simp at h2
  exact hne h2.2.symm
theorem OwnN.push (hne : e1 ≠ e2) (h : OwnN encA s1 s2 encB e1 e2 base w v qs L) {q : A × Hdr} {c : List β} (ho : OwnW s1 (encP encA) e1 base w' v' (qs ++ [q]))
    (k : Chg (fun k => k < w.heap.size ∧ ¬ v.ownBlock = some k) w w') (hin : OwnL s2 encB e2 base w q.2.val c) (hfr : ∀ (j : Nat) (r : A × Hdr) (g : Nat), qs[j]? = some r → r.2.val.ownBlock = some g → ¬ q.2.val.ownBlock = some g) :
    OwnN encA s1 s2 encB e1 e2 base w' v' (qs ++ [q]) (L ++ [(q.1, c)]) := by
  have hqv : ∀ g, q.2.val.ownBlock = some g → ¬ v.ownBlock = some g := by
    intro g hg hv
    obtain ⟨_, cur, h1⟩ := hin.blk hg
    obtain ⟨_, cur', h2⟩ := h.1.blk hv
    rw [h1] at h2
    simp at h2
    exact hne h2.2.symm
  refine ⟨ho, by simp [h.2.1], fun j r d hr hd => ?_, fun i j qi qj g hi hj gi gj => ?_⟩
  · rcases Nat.lt_or_ge j qs.length with hl | hl
    · rw [List.getElem?_append_left hl] at hr
      rw [List.getElem?_append_left (by rw [← h.2.1]; exact hl)] at hd
      obtain ⟨r1, r2⟩ := h.2.2.1 j r d hr hd
      exact ⟨r1, r2.chg k (fun x hx hv => ⟨hx, h.ne hne hr hv⟩)⟩
    · obtain rfl : j = qs.length := by have := (List.getElem?_eq_some_iff.1 hr).1; simp at this; omega
      simp at hr
      rw [h.2.1] at hd
      simp at hd
      subst hr hd
      exact ⟨rfl, hin.chg k (fun x hx hv => ⟨hx, hqv x hv⟩)⟩
  · have last : ∀ (i : Nat) (r : A × Hdr), (qs ++ [q])[i]? = some r → (i < qs.length ∧ qs[i]? = some r) ∨ (i = qs.length ∧ r = q) := by
      intro i r hr
      rcases Nat.lt_or_ge i qs.length with hl | hl
      · rw [List.getElem?_append_left hl] at hr; exact .inl ⟨hl, hr⟩
      · obtain rfl : i = qs.length := by have := (List.getElem?_eq_some_iff.1 hr).1; simp at this; omega
        simp at hr
        exact .inr ⟨rfl, hr.symm⟩
    rcases last i qi hi with ⟨h1, h2⟩ | ⟨h1, h2⟩ <;> rcases last j qj hj with ⟨h3, h4⟩ | ⟨h3, h4⟩
    · exact h.2.2.2 i j qi qj g h2 h4 gi gj
    · subst h4; exact absurd gj (hfr i qi g h2 gi)
    · subst h2; exact absurd gi (hfr j qj g h4 gj)
    · omega
theorem OwnN.nl (hA : ∀ y, (encP encA y).length = s1) (hB : ∀ y, (encB y).length = s2) (h : OwnN encA s1 s2 encB e1 e2 base w v qs L) :
    ∃ a cap, v = .slice a L.length cap ∧ NL encA s1 s2 encB w a L.length L ∧ L.length ≤ cap ∧ cap ≤ maxLen ∧ (L ≠ [] → ∃ g, a = some ⟨g, 0, none⟩ ∧ base ≤ g) ∧ (a = none → cap = 0) := by
  obtain ⟨a, cap, e, r, c1, c2, c3, c4⟩ := h.1.rd hA
  rw [h.2.1] at e r c1
  refine ⟨a, cap, e, ⟨qs, Rd.mono r (fun _ hk => hk.2), rfl, fun j q c hq hc => ?_⟩, c1, c2, fun hL => c3 (fun h0 => hL ?_), c4⟩
  · obtain ⟨r1, r2⟩ := h.2.2.1 j q c hq hc
    refine ⟨r1, ?_⟩
    obtain ⟨a', cap', e', r', _⟩ := r2.rd hB
    obtain ⟨x, q1, q2, q3⟩ := q
    simp only [Hdr.val, Value.slice.injEq] at e'
    obtain ⟨rfl, rfl, rfl⟩ := e'
    exact Rd.mono r' (fun _ hk => hk.2)
  · have := h.2.1
    rw [h0] at this
    exact List.eq_nil_of_length_eq_zero this.symm
end
end Go.Proofs.YtbnbjiddffihoaaGreatDoor

/- What a call does to lists of its own whose elements hold a list each. -/
namespace Go.Proofs.YtbnbjiddffihoaaGreatDoor
open Go.RowKit

section
variable {A β : Type} {encA : A → List Value} {p s2 : Nat} {encB : β → List Value} {e1 e2 : TypeId} {base : Nat} {w w' : World} {v v' : Value} {qs : List (A × Hdr)} {L : List (A × List β)}
theorem OwnN.get (h : OwnN encA (p + 1) s2 encB e1 e2 base w v qs L) {k : Nat} {c : A × List β} (hc : L[k]? = some c) : ∃ hd : Hdr, qs[k]? = some (c.1, hd) ∧ OwnL s2 encB e2 base w hd.val c.2 := by
  obtain ⟨q, hq⟩ : ∃ q, qs[k]? = some q := ⟨qs[k]'(by have := (List.getElem?_eq_some_iff.1 hc).1; have := h.2.1; omega), by simp⟩
  obtain ⟨r1, r2⟩ := h.2.2.1 k q c hq hc
  exact ⟨q.2, by rw [hq, ← r1], r2⟩
theorem OwnN.mod (hne : e1 ≠ e2) (h : OwnN encA (p + 1) s2 encB e1 e2 base w v qs L) {k : Nat} {a : A} {hd hd' : Hdr} {c' : List β} (hq : qs[k]? = some (a, hd)) (ho : OwnL s2 encB e2 base w' hd'.val c')
    (kk : Chg (fun x => x < w.heap.size ∧ ¬ hd.val.ownBlock = some x) w w') (hat : hd'.val.ownBlock = hd.val.ownBlock ∨ ∀ x, hd'.val.ownBlock = some x → w.heap.size ≤ x) :
    OwnW (p + 1) (encP encA) e1 base w' v qs ∧ (∀ (j : Nat) (q : A × Hdr) (c : A × List β), j ≠ k → qs[j]? = some q → L[j]? = some c → q.1 = c.1 ∧ OwnL s2 encB e2 base w' q.2.val c.2) ∧
      (∀ x, hd'.val.ownBlock = some x → ¬ v.ownBlock = some x) ∧ ∀ (j : Nat) (q : A × Hdr) (x : Nat), j ≠ k → qs[j]? = some q → q.2.val.ownBlock = some x → ¬ hd'.val.ownBlock = some x := by
  have ho1 : OwnW (p + 1) (encP encA) e1 base w' v qs := h.1.chg kk (fun x hx hv => ⟨hx, fun hh => h.ne hne hq hh hv⟩)
  refine ⟨ho1, fun j q c hjk hr hc => ?_, fun x hx hv => ?_, fun j q x hjk hr hx hy => ?_⟩
  · obtain ⟨r1, r2⟩ := h.2.2.1 j q c hr hc
    exact ⟨r1, r2.chg kk (fun x hx hv => ⟨hx, fun hh => hjk (h.2.2.2 j k q (a, hd) x hr hq hv hh)⟩)⟩
  · obtain ⟨_, cur, h1⟩ := ho.blk hx
    obtain ⟨_, cur', h2⟩ := ho1.blk hv
    rw [h1] at h2
    simp at h2
    exact hne h2.2.symm
  · rcases hat with h1 | h1
    · exact hjk (h.2.2.2 j k q (a, hd) x hr hq hx (h1 ▸ hy))
    · have := h.lt hr hx
      have := h1 x hy
      omega
theorem OwnN.put (hA : ∀ y, (encA y).length = p) (hne : e1 ≠ e2) {g n cap : Nat} (h : OwnN encA (p + 1) s2 encB e1 e2 base w (.slice (some ⟨g, 0, none⟩) n cap) qs L) {k : Nat} {a : A} {hd hd' : Hdr} {c' : List β} (hq : qs[k]? = some (a, hd))
    (ho : OwnL s2 encB e2 base w' hd'.val c') (kk : Chg (fun x => x < w.heap.size ∧ ¬ hd.val.ownBlock = some x) w w') (hat : hd'.val.ownBlock = hd.val.ownBlock ∨ ∀ x, hd'.val.ownBlock = some x → w.heap.size ≤ x) :
    w'.cell? ⟨g, k * (p + 1) + p, none⟩ = some hd.val ∧ w'.frozen? ⟨g, k * (p + 1) + p, none⟩ = false ∧
      OwnN encA (p + 1) s2 encB e1 e2 base (w'.setCell ⟨g, k * (p + 1) + p, none⟩ hd'.val) (.slice (some ⟨g, 0, none⟩) n cap) (qs.set k (a, hd')) (L.set k (a, c')) := by
  obtain ⟨o1, o2, o3, o4⟩ := h.mod hne hq ho kk hat
  have hsz : ∀ y, (encP encA y).length = p + 1 := fun y => by unfold encP; simp [hA]
  obtain ⟨f1, f2, f3⟩ := o1.set1 hsz hq (c := p) (by omega)
  have hkl := (List.getElem?_eq_some_iff.1 hq).1
  have hset : Chg (· ≠ g) w' (w'.setCell ⟨g, k * (p + 1) + p, none⟩ hd'.val) := (Chg.refl _ w').setCell _ (fun x hx => hx)
  have hgb : (Value.slice (some ⟨g, 0, none⟩) n cap).ownBlock = some g := rfl
  refine ⟨?_, f2, f3 (a, hd') hd'.val ?_, by simp [h.2.1], fun j r c hr hc => ?_, fun i j qi qj x hi hj gi gj => ?_⟩
  · rw [f1]
    unfold encP
    rw [List.getElem?_append_right (by rw [hA]; exact Nat.le_refl _), hA, Nat.sub_self]
    rfl
  · unfold encP
    rw [List.set_append_right _ _ (by rw [hA]; exact Nat.le_refl _), hA, Nat.sub_self]
    rfl
  · by_cases hjk : j = k
    · subst hjk
      rw [List.getElem?_set_self hkl] at hr
      rw [List.getElem?_set_self (by rw [← h.2.1]; exact hkl)] at hc
      cases hr
      cases hc
      exact ⟨rfl, ho.chg hset (fun x _ hv => by intro he; subst he; exact o3 _ hv hgb)⟩
    · rw [List.getElem?_set_ne (by omega)] at hr hc
      obtain ⟨r1, r2⟩ := o2 j r c hjk hr hc
      refine ⟨r1, r2.chg hset (fun x _ hv => ?_)⟩
      intro he
      subst he
      exact h.ne hne hr hv hgb
  · by_cases hik : i = k
    · by_cases hjk : j = k
      · omega
      · exfalso
        subst hik
        rw [List.getElem?_set_self hkl] at hi
        cases hi
        rw [List.getElem?_set_ne (by omega)] at hj
        exact o4 j qj x hjk hj gj gi
    · rw [List.getElem?_set_ne (by omega)] at hi
      by_cases hjk : j = k
      · exfalso
        subst hjk
        rw [List.getElem?_set_self hkl] at hj
        cases hj
        exact o4 i qi x hik hi gi gj
      · rw [List.getElem?_set_ne (by omega)] at hj
        exact h.2.2.2 i j qi qj x hi hj gi gj
theorem OwnN.keep (hne : e1 ≠ e2) (h : OwnN encA (p + 1) s2 encB e1 e2 base w v qs L) {k : Nat} {a : A} {hd : Hdr} {c' : List β} (hq : qs[k]? = some (a, hd)) (ho : OwnL s2 encB e2 base w' hd.val c')
    (kk : Chg (fun x => x < w.heap.size ∧ ¬ hd.val.ownBlock = some x) w w') : OwnN encA (p + 1) s2 encB e1 e2 base w' v qs (L.set k (a, c')) := by
  obtain ⟨o1, o2, o3, o4⟩ := h.mod hne hq ho kk (.inl rfl)
  have hkl := (List.getElem?_eq_some_iff.1 hq).1
  refine ⟨o1, by simp [h.2.1], fun j r c hr hc => ?_, h.2.2.2⟩
  by_cases hjk : j = k
  · subst hjk
    rw [List.getElem?_set_self (by rw [← h.2.1]; exact hkl)] at hc
    obtain rfl : (a, hd) = r := Option.some.inj (hq.symm.trans hr)
    cases hc
    exact ⟨rfl, ho⟩
  · rw [List.getElem?_set_ne (by omega)] at hc
    exact o2 j r c hjk hr hc
theorem OwnL.lit {α : Type} {sz : Nat} {enc : α → List Value} {e : TypeId} {base : Nat} {w : World} (l : List α) (hsz : ∀ y, (enc y).length = sz) (hb : base ≤ w.heap.size) (hl : l.length ≤ maxLen) {cs : Array Value} (hc : cs = (l.flatMap enc).toArray) :
    OwnL sz enc e base (w.alloc (.cells cs e)) (.slice (some ⟨w.heap.size, 0, none⟩) l.length l.length) l := by
  subst hc
  have hf : (l.flatMap enc).length = l.length * sz := flatN_len hsz l
  exact ⟨hf, .inr ⟨w.heap.size, l.length, _, rfl, hb, heap_new w _, Nat.le_refl _, hl, by simp [hf], by simp only [← hf, List.toList_toArray]; exact List.take_length⟩⟩
end
end Go.Proofs.YtbnbjiddffihoaaGreatDoor
