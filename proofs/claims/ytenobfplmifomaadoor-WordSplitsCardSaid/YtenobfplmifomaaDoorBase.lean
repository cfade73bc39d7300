/- Base: what may change in memory, and what is known of a tape of numbers. -/
import Derived.WalkKit
import Derived.WalkSpells
import Derived.WalkLawsBesides
import Derived.BigQuiet
import Derived.Lib.Hide
import Derived.Laws.AppendOwnNone
namespace Go.Proofs.YtenobfplmifomaaDoor
open Go.RowKit

/-- the blocks in S are as they were -/
structure Chg (S : Nat → Prop) (w w' : World) : Prop where
  os : w'.os = w.os
  tape : w'.tape = w.tape
  output : w'.output = w.output
  size : w.heap.size ≤ w'.heap.size
  block : ∀ k, S k → w'.heap[k]? = w.heap[k]?

theorem Chg.refl (S : Nat → Prop) (w : World) : Chg S w w := ⟨rfl, rfl, rfl, Nat.le_refl _, fun _ _ => rfl⟩
theorem Chg.trans {S : Nat → Prop} {w1 w2 w3 : World} (h : Chg S w1 w2) (k : Chg S w2 w3) : Chg S w1 w3 :=
  ⟨k.os.trans h.os, k.tape.trans h.tape, k.output.trans h.output, Nat.le_trans h.size k.size, fun i hi => (k.block i hi).trans (h.block i hi)⟩
theorem Chg.mono {S S' : Nat → Prop} {w w' : World} (h : Chg S w w') (hs : ∀ k, S' k → S k) : Chg S' w w' := ⟨h.os, h.tape, h.output, h.size, fun k hk => h.block k (hs k hk)⟩
theorem Chg.of_below {B : Nat} {w w' : World} (h : Below B w w') : Chg (· < B) w w' := ⟨h.os, h.tape, h.output, h.size, h.block⟩
theorem Chg.below {S : Nat → Prop} {w w' : World} (h : Chg S w w') {B : Nat} (hs : ∀ k, k < B → S k) : Below B w w' := ⟨h.os, h.tape, h.output, h.size, fun k hk => h.block k (hs k hk)⟩
theorem Chg.drewN {S : Nat → Prop} {w w' : World} (h : Chg S w w') (n : Nat) : Chg S w (w'.drewN n) := ⟨h.os, h.tape, h.output, h.size, h.block⟩
theorem Chg.drew {S : Nat → Prop} {w w' : World} (h : Chg S w w') : Chg S w (w'.drew) := ⟨h.os, h.tape, h.output, h.size, h.block⟩
theorem Chg.setCell {S : Nat → Prop} {w w' : World} (h : Chg S w w') {p : Addr} (v : Value) (hp : ∀ k, S k → k ≠ p.block) : Chg S w (w'.setCell p v) :=
  h.trans ⟨rfl, rfl, rfl, by simp [World.setCell], fun k hk => Below.heap_setCell w' p v k (hp k hk)⟩
theorem Chg.alloc {S : Nat → Prop} {w w' : World} (h : Chg S w w') (o : Obj) (hp : ∀ k, S k → k < w'.heap.size) : Chg S w (w'.alloc o) :=
  h.trans ⟨rfl, rfl, rfl, by simp, fun k hk => Below.heap_alloc w' o k (hp k hk)⟩
theorem Chg.then {S S' : Nat → Prop} {w w1 w2 : World} (h : Chg S w w1) (k : Chg S' w1 w2) (hs : ∀ k, S k → S' k) : Chg S w w2 := h.trans (k.mono hs)
theorem Chg.next {w w1 w2 : World} (h : Chg (· < w.heap.size) w w1) (k : Chg (· < w1.heap.size) w1 w2) : Chg (· < w.heap.size) w w2 :=
  h.trans (k.mono (fun _ hk => Nat.lt_of_lt_of_le hk h.size))
theorem Chg.cell {S : Nat → Prop} {w w' : World} (h : Chg S w w') {p : Addr} (hp : S p.block) : w'.cell? p = w.cell? p := World.cell?_of_block (h.block _ hp)
theorem Chg.cellv {S : Nat → Prop} {w w' : World} (h : Chg S w w') {p : Addr} {v : Value} (hv : w.cell? p = some v) (hp : S p.block) : w'.cell? p = some v := (h.cell hp).trans hv
theorem Chg.frozen {S : Nat → Prop} {w w' : World} (h : Chg S w w') {p : Addr} (hp : S p.block) : w'.frozen? p = w.frozen? p := World.frozen?_of_block (h.block _ hp)

/-- the two rules that a walk uses behind a call -/
theorem Chg.rules {n b : Nat} {w w' : World} (h : Chg (fun k => k < n ∧ k ≠ b) w w') :
    (∀ k o, k < n → ¬ k = b → w'.cell? ⟨k, o, none⟩ = w.cell? ⟨k, o, none⟩) ∧ (∀ k o, k < n → ¬ k = b → w'.frozen? ⟨k, o, none⟩ = w.frozen? ⟨k, o, none⟩) :=
  ⟨fun k o h1 h2 => h.cell (p := ⟨k, o, none⟩) ⟨h1, h2⟩, fun k o h1 h2 => h.frozen (p := ⟨k, o, none⟩) ⟨h1, h2⟩⟩
theorem Chg.rules' {n : Nat} {w w' : World} (h : Chg (fun k => k < n) w w') :
    (∀ k o, k < n → w'.cell? ⟨k, o, none⟩ = w.cell? ⟨k, o, none⟩) ∧ (∀ k o, k < n → w'.frozen? ⟨k, o, none⟩ = w.frozen? ⟨k, o, none⟩) :=
  ⟨fun k o h1 => h.cell (p := ⟨k, o, none⟩) h1, fun k o h1 => h.frozen (p := ⟨k, o, none⟩) h1⟩

/-- a tape lies at block b: it holds a slice of at most 600 ints and a place; all below B -/
def TP (ty B : Nat) (w : World) (b : Nat) : Prop :=
  ∃ (a : Option Addr) (cap i x o : Nat) (l : List Int),
    w.heap[b]? = some (.cells #[.slice a l.length cap, .int .i64 i] ty (0, 0)) ∧ b < B ∧ l.length ≤ 600 ∧ i ≤ l.length ∧
    (l = [] ∨ (a = some ⟨x, o, none⟩ ∧ x ≠ b ∧ x < B ∧ ∀ j, j < l.length → w.cell? ⟨x, o + j, none⟩ = some (.int .i64 (l.getD j 0))))

theorem TP.chg {ty B : Nat} {w w' : World} {b : Nat} (h : TP ty B w b) {S : Nat → Prop} (k : Chg S w w') (hs : ∀ k, k < B → S k) : TP ty B w' b := by
  obtain ⟨a, cap, i, x, o, l, h1, h2, h3, h4, h5⟩ := h
  refine ⟨a, cap, i, x, o, l, ?_, h2, h3, h4, ?_⟩
  · rw [k.block b (hs b h2)]; exact h1
  · rcases h5 with h5 | ⟨e1, e2, e3, e4⟩
    · exact .inl h5
    · exact .inr ⟨e1, e2, e3, fun j hj => by rw [k.cell (p := ⟨x, o + j, none⟩) (hs x e3)]; exact e4 j hj⟩
theorem TP.mono {ty B B' : Nat} {w : World} {b : Nat} (h : TP ty B w b) (hB : B ≤ B') : TP ty B' w b := by
  obtain ⟨a, cap, i, x, o, l, h1, h2, h3, h4, h5⟩ := h
  refine ⟨a, cap, i, x, o, l, h1, by omega, h3, h4, ?_⟩
  rcases h5 with h5 | ⟨e1, e2, e3, e4⟩
  · exact .inl h5
  · exact .inr ⟨e1, e2, by omega, e4⟩
theorem TP.lt {ty B : Nat} {w : World} {b : Nat} (h : TP ty B w b) : b < B := by
  obtain ⟨a, cap, i, x, o, l, h1, h2, _⟩ := h
  exact h2

/-- a slice (its address and length) that reads as a list, each element as sz cells; its block is in S -/
def Rd {α : Type} (sz : Nat) (enc : α → List Value) (S : Nat → Prop) (w : World) (a : Option Addr) (n : Nat) (l : List α) : Prop :=
  l.length = n ∧ (n = 0 ∨ ∃ x o, a = some ⟨x, o, none⟩ ∧ S x ∧ ∀ j y, l[j]? = some y → ∀ c u, (enc y)[c]? = some u → w.cell? ⟨x, o + j * sz + c, none⟩ = some u)

theorem Rd.chg {α : Type} {sz n : Nat} {S : Nat → Prop} {enc : α → List Value} {w w' : World} {a : Option Addr} {l : List α} (h : Rd sz enc S w a n l) {S' : Nat → Prop} (k : Chg S' w w') (hs : ∀ k, S k → S' k) : Rd sz enc S w' a n l := by
  refine ⟨h.1, ?_⟩
  rcases h.2 with h2 | ⟨x, o, e1, e2, e3⟩
  · exact .inl h2
  · exact .inr ⟨x, o, e1, e2, fun j y hj c u hu => by rw [k.cell (p := ⟨x, _, none⟩) (hs x e2)]; exact e3 j y hj c u hu⟩
theorem Rd.mono {α : Type} {sz n : Nat} {S S' : Nat → Prop} {enc : α → List Value} {w : World} {a : Option Addr} {l : List α} (h : Rd sz enc S w a n l) (hS : ∀ k, S k → S' k) : Rd sz enc S' w a n l := by
  refine ⟨h.1, ?_⟩
  rcases h.2 with h2 | ⟨x, o, e1, e2, e3⟩
  · exact .inl h2
  · exact .inr ⟨x, o, e1, hS x e2, e3⟩
theorem Rd.nil {α : Type} (sz : Nat) (enc : α → List Value) (S : Nat → Prop) (w : World) (a : Option Addr) : Rd sz enc S w a 0 [] := ⟨rfl, .inl rfl⟩
/-- one element -/
theorem Rd.at {α : Type} {sz n : Nat} {S : Nat → Prop} {enc : α → List Value} {w : World} {a : Option Addr} {l : List α} (h : Rd sz enc S w a n l) {j : Nat} (hj : j < n) :
    ∃ x o y, a = some ⟨x, o, none⟩ ∧ S x ∧ l[j]? = some y ∧ ∀ c u, (enc y)[c]? = some u → w.cell? ⟨x, o + j * sz + c, none⟩ = some u := by
  obtain ⟨h1, h2⟩ := h
  rcases h2 with h2 | ⟨x, o, e1, e2, e3⟩
  · omega
  · exact ⟨x, o, l[j]'(by omega), e1, e2, by simp, e3 j _ (by simp)⟩

def encS (s : Int × Int) : List Value := [.int .i64 s.1, .int .i64 s.2]

/-- a block that is known whole, of one cell, of two -/
theorem cells1 {w : World} {k : Nat} {x : Value} {ty : TypeId} (h : w.heap[k]? = some (.cells #[x] ty (0, 0))) : w.cell? ⟨k, 0, none⟩ = some x ∧ w.frozen? ⟨k, 0, none⟩ = false := by simp [World.cell?, World.frozen?, h]
theorem cells2 {w : World} {k : Nat} {x y : Value} {ty : TypeId} (h : w.heap[k]? = some (.cells #[x, y] ty (0, 0))) : w.cell? ⟨k, 0, none⟩ = some x ∧ w.cell? ⟨k, 1, none⟩ = some y ∧ w.frozen? ⟨k, 0, none⟩ = false ∧ w.frozen? ⟨k, 1, none⟩ = false := by simp [World.cell?, World.frozen?, h]

theorem cells3 {w : World} {k : Nat} {x y z : Value} {ty : TypeId} (h : w.heap[k]? = some (.cells #[x, y, z] ty (0, 0))) : w.cell? ⟨k, 0, none⟩ = some x ∧ w.cell? ⟨k, 1, none⟩ = some y ∧ w.cell? ⟨k, 2, none⟩ = some z ∧ w.frozen? ⟨k, 0, none⟩ = false ∧ w.frozen? ⟨k, 1, none⟩ = false ∧ w.frozen? ⟨k, 2, none⟩ = false := by simp [World.cell?, World.frozen?, h]
theorem heap_set {w : World} {k : Nat} {cs : Array Value} {ty : TypeId} {fr : Nat × Nat} (h : w.heap[k]? = some (.cells cs ty fr)) (o : Nat) (v : Value) :
    (w.setCell ⟨k, o, none⟩ v).heap[k]? = some (.cells (cs.setIfInBounds o v) ty fr) := by simp [World.setCell, Array.getElem?_modify, h]
theorem heap_set_ne {w : World} {k : Nat} {p : Addr} {v : Value} {x : Option Obj} (h : w.heap[k]? = x) (hk : k ≠ p.block) : (w.setCell p v).heap[k]? = x := (Below.heap_setCell w p v k hk).trans h
theorem heap_push {w : World} {k : Nat} {o : Obj} {x : Obj} (h : w.heap[k]? = some x) : (w.alloc o).heap[k]? = some x :=
  (Below.heap_alloc w o k (Array.getElem?_eq_some_iff.1 h).1).trans h
theorem heap_new (w : World) (o : Obj) : (w.alloc o).heap[w.heap.size]? = some o := by show (w.heap.push o)[w.heap.size]? = _; simp
theorem heap_lt {w : World} {k : Nat} {x : Obj} (h : w.heap[k]? = some x) : k < w.heap.size := (Array.getElem?_eq_some_iff.1 h).1

theorem flat_at {α : Type} {sz : Nat} {enc : α → List Value} (hsz : ∀ y, (enc y).length = sz) : ∀ (l : List α) (j : Nat) (y : α), l[j]? = some y → ∀ c u, (enc y)[c]? = some u → (l.flatMap enc)[j * sz + c]? = some u
  | [], _, _, h, _, _, _ => by simp at h
  | x :: r, 0, y, h, c, u, hu => by
    simp at h; subst h
    rw [List.flatMap_cons, Nat.zero_mul, Nat.zero_add, List.getElem?_append_left (List.getElem?_eq_some_iff.1 hu).1]; exact hu
  | x :: r, j + 1, y, h, c, u, hu => by
    have h' : r[j]? = some y := by simpa using h
    have := flat_at hsz r j y h' c u hu
    rw [List.flatMap_cons, List.getElem?_append_right (by rw [hsz]; rw [Nat.succ_mul]; omega), hsz]
    rw [show (j + 1) * sz + c - sz = j * sz + c by rw [Nat.succ_mul]; omega]
    exact this
/-- a block reads as a list -/
theorem Rd.block {α : Type} {sz k n : Nat} {enc : α → List Value} {w : World} {cs : Array Value} {ty : TypeId} {fr : Nat × Nat} (l : List α) (h : w.heap[k]? = some (.cells cs ty fr)) (hn : l.length = n) (hsz : ∀ y, (enc y).length = sz)
    (hc : ∀ (i : Nat) (u : Value), (l.flatMap enc)[i]? = some u → cs[i]? = some u) : Rd sz enc (· = k) w (some ⟨k, 0, none⟩) n l := by
  refine ⟨hn, .inr ⟨k, 0, rfl, rfl, fun j y hj c u hu => ?_⟩⟩
  have := hc _ _ (flat_at hsz l j y hj c u hu)
  simp [World.cell?, h, this]
/-- a literal -/
theorem Rd.lit {α : Type} {sz n s : Nat} {S : Nat → Prop} {enc : α → List Value} {w : World} {cs : Array Value} {ty : TypeId} (l : List α) (hs : s = w.heap.size) (hS : S w.heap.size) (hn : l.length = n) (hsz : ∀ y, (enc y).length = sz) (hc : cs = (l.flatMap enc).toArray) : Rd sz enc S (w.alloc (.cells cs ty)) (some ⟨s, 0, none⟩) n l := by
  subst hs hc
  exact (Rd.block l (heap_new w _) hn hsz (fun i u h => by simpa using h)).mono (by intro k hk; subst hk; exact hS)
def encI (x : Int) : List Value := [.int .i64 x]

/-- a slice that the call itself makes, as a list -/
def OwnL {α : Type} (sz : Nat) (enc : α → List Value) (e : TypeId) (base : Nat) (w : World) (v : Value) (l : List α) : Prop := w.ownsRow base e sz v l.length (l.flatMap enc)

theorem OwnL.nil {α : Type} (sz : Nat) (enc : α → List Value) (e : TypeId) (base : Nat) (w : World) : OwnL sz enc e base w (.slice none 0 0) [] := World.ownsRow_nil w base e sz
theorem OwnL.chg {α : Type} {sz e base : Nat} {enc : α → List Value} {w w' : World} {v : Value} {l : List α} (h : OwnL sz enc e base w v l) {S : Nat → Prop} (k : Chg S w w') (hs : ∀ k, k < w.heap.size → v.ownBlock = some k → S k) : OwnL sz enc e base w' v l := by
  refine ⟨h.1, ?_⟩
  rcases h.2 with hn | ⟨g, cap, cur, rfl, hb, hg, rest⟩
  · exact .inl hn
  · exact .inr ⟨g, cap, cur, rfl, hb, (k.block g (hs g (heap_lt hg) rfl)).trans hg, rest⟩
theorem OwnL.alloc {α : Type} {sz e base : Nat} {enc : α → List Value} {w : World} {v : Value} {l : List α} (h : OwnL sz enc e base w v l) (o : Obj) : OwnL sz enc e base (w.alloc o) v l :=
  h.chg ((Chg.refl (· < w.heap.size) w).alloc o (fun _ h => h)) (fun _ h _ => h)
theorem OwnL.rd {α : Type} {sz e base : Nat} {enc : α → List Value} {w : World} {v : Value} {l : List α} (h : OwnL sz enc e base w v l) (hsz : ∀ y, (enc y).length = sz) :
    ∃ a cap, v = .slice a l.length cap ∧ Rd sz enc (fun k => base ≤ k ∧ k < w.heap.size) w a l.length l ∧ l.length ≤ cap ∧ cap ≤ maxLen ∧ (l ≠ [] → ∃ g, a = some ⟨g, 0, none⟩ ∧ base ≤ g) := by
  rcases h.2 with ⟨rfl, hn⟩ | ⟨g, cap, cur, rfl, hb, hg, h1, h2, h3, h4⟩
  · have : l = [] := List.eq_nil_of_length_eq_zero hn
    subst this
    exact ⟨none, 0, rfl, Rd.nil _ _ _ _ _, by simp, by unfold maxLen; omega, fun h => absurd rfl h⟩
  · refine ⟨_, cap, rfl, (Rd.block l hg rfl hsz (fun i u hu => ?_)).mono (fun k hk => by subst hk; exact ⟨hb, heap_lt hg⟩), h1, h2, fun _ => ⟨g, rfl, hb⟩⟩
    rw [← h4, List.getElem?_take] at hu
    split at hu
    · simpa using hu
    · cases hu

/-- append of one element that was just written out -/
theorem wpList_append_lit {P : Program} {α : Type} {enc : α → List Value} {ops : Array Oper} {rest : List Oper} {o : Oper} {a : Act} {Q : Exit → Act → World → Prop} (w0 : World) (hgd : o.guard = none) (s x : Operand) (t : TypeId)
    (ho : o.op = .call { callee := .builtin .append, args := #[s, x], argTypes := #[t, t] })
    (base : Nat) (e : TypeId) (z : Value) (sz bytes : Nat) (ht : P.underlying t = some (.slice e)) (hi : (P.info? e).map (fun i => (i.zero, i.size, i.bytes)) = some (some z, sz, bytes))
    (hzs : z.cells.size = sz) (hsz : 0 < sz) (hby : bytes ≤ 65536)
    (v : Value) (l : List α) (hown : OwnL sz enc e base w0 v l) (hs : a.eval s = v) (y : α) (A : Array Value) (hA : A = (enc y).toArray) (hlen : (enc y).length = sz) (h1 : ∀ u ∈ enc y, u.oneCell' = true)
    (k : Nat) (hk : k = w0.heap.size) (hx : a.eval x = .slice (some ⟨k, 0, none⟩) 1 1) (hl : l.length ≤ 1000000) (hbase : base ≤ w0.heap.size) (e' : TypeId)
    (h : ∀ v' w', OwnL sz enc e base w' v' (l ++ [y]) → Chg (fun k => k < w0.heap.size ∧ ¬ v.ownBlock = some k) w0 w' → Chg (· < base) w0 w' → w0.heap.size < w'.heap.size → wpList P ops Q rest (a.put o.dst v') w') :
    wpList P ops Q (o :: rest) a (w0.alloc (.cells A e')) := by
  subst hA hk
  obtain ⟨i, hi, hz0, hz1, hz2⟩ := info_parts hi
  have hmul : (l.length + 1) * bytes ≤ 1000001 * 65536 := Nat.mul_le_mul (by omega) hby
  refine wpList_append_own _ hgd s x t ho base e i z sz bytes ht hi hz0 hz1 hz2 hzs hsz v l.length (l.flatMap enc) hs (hown.alloc _) ⟨w0.heap.size, 0, none⟩ 1 1 (enc y) hx (by simp [hlen]) ?_ h1 (by unfold maxLen; omega) (by omega) (by simp; omega) ?_
  · intro j u hu
    rw [Addr.add_lit]
    simp only [Nat.zero_add]
    rw [World.cell?, heap_new]
    simpa using hu
  · intro v' w' hown' hgrow hnil
    have hz' := hgrow.size
    simp at hz'
    have hch : Chg (fun k => k < w0.heap.size ∧ ¬ v.ownBlock = some k) w0 w' := ⟨hgrow.os, hgrow.tape, hgrow.output, by omega, fun k hk => by
      rw [hgrow.block k (by simp; omega) (fun h => hk.2 h.symm)]
      exact Below.heap_alloc _ _ _ hk.1⟩
    refine h v' w' ?_ hch (hch.mono fun k hk => ⟨by omega, fun hv => ?_⟩) hz'
    · unfold OwnL
      simpa [List.flatMap_append] using hown'
    · have := hown.lt k hv
      omega

theorem keep4 {b : Nat} {w w' : World} {x0 x1 x2 x3 : Value} (k : Chg (· < w.heap.size) w w') (h : w.cell? ⟨b, 0, none⟩ = some x0 ∧ w.cell? ⟨b, 1, none⟩ = some x1 ∧ w.cell? ⟨b, 2, none⟩ = some x2 ∧ w.cell? ⟨b, 3, none⟩ = some x3) :
    w'.cell? ⟨b, 0, none⟩ = some x0 ∧ w'.cell? ⟨b, 1, none⟩ = some x1 ∧ w'.cell? ⟨b, 2, none⟩ = some x2 ∧ w'.cell? ⟨b, 3, none⟩ = some x3 :=
  have hb : b < w.heap.size := World.block_lt_of_cell? w _ h.1
  ⟨k.cellv h.1 hb, k.cellv h.2.1 hb, k.cellv h.2.2.1 hb, k.cellv h.2.2.2 hb⟩

/-- an empty slice that was just written out -/
theorem OwnL.empty {α : Type} {sz : Nat} {enc : α → List Value} {e : TypeId} {base s : Nat} {w : World} (hb : base ≤ w.heap.size) (hs : s = w.heap.size) : OwnL sz enc e base (w.alloc (.cells #[] e)) (.slice (some ⟨s, 0, none⟩) 0 0) ([] : List α) := by
  subst hs
  exact World.ownsRow_made w #[] 0 hb (by unfold maxLen; omega) (by simp)

/-- append of a whole slice that reads as a list -/
theorem wpList_append_rd {P : Program} {α : Type} {enc : α → List Value} {ops : Array Oper} {rest : List Oper} {o : Oper} {a : Act} {Q : Exit → Act → World → Prop} (w0 : World) (hgd : o.guard = none) (s x : Operand) (t : TypeId)
    (ho : o.op = .call { callee := .builtin .append, args := #[s, x], argTypes := #[t, t] })
    (base : Nat) (e : TypeId) (z : Value) (sz bytes : Nat) (ht : P.underlying t = some (.slice e)) (hi : (P.info? e).map (fun i => (i.zero, i.size, i.bytes)) = some (some z, sz, bytes))
    (hzs : z.cells.size = sz) (hsz : 0 < sz) (hby : bytes ≤ 65536)
    (v : Value) (l : List α) (hown : OwnL sz enc e base w0 v l) (hs : a.eval s = v) (S : Nat → Prop) (A : Option Addr) (n c : Nat) (news : List α) (hrd : Rd sz enc S w0 A n news) (hA : A = none → c = 0) (hlen : ∀ y, (enc y).length = sz) (h1 : ∀ y, ∀ u ∈ enc y, u.oneCell' = true)
    (hx : a.eval x = .slice A n c) (hl : l.length ≤ 1000000) (hn : n ≤ 1000000) (hbase : base ≤ w0.heap.size)
    (h : ∀ v' w', OwnL sz enc e base w' v' (l ++ news) → Chg (fun k => k < w0.heap.size ∧ ¬ v.ownBlock = some k) w0 w' → Chg (· < base) w0 w' → wpList P ops Q rest (a.put o.dst v') w') :
    wpList P ops Q (o :: rest) a w0 := by
  obtain ⟨i, hi, hz0, hz1, hz2⟩ := info_parts hi
  have hmul : (l.length + n) * bytes ≤ 2000000 * 65536 := Nat.mul_le_mul (by omega) hby
  have hnl := hrd.1
  cases A with
  | none =>
    have hc := hA rfl
    have hn0 : n = 0 := by
      rcases hrd.2 with h0 | ⟨x, o, e1, _⟩
      · exact h0
      · cases e1
    subst hn0 hc
    have hnews : news = [] := List.eq_nil_of_length_eq_zero hnl
    subst hnews
    refine wpList_append_own_none hgd s x t ho base e i sz ht hi v l.length (l.flatMap enc) hs hown hx ?_
    exact h v w0 (by simpa using hown) (Chg.refl _ _) (Chg.refl _ _)
  | some ad =>
    refine wpList_append_own _ hgd s x t ho base e i z sz bytes ht hi hz0 hz1 hz2 hzs hsz v l.length (l.flatMap enc) hs hown ad n c (news.flatMap enc) hx ?_ ?_ ?_ (by unfold maxLen; omega) (by omega) hbase ?_
    · have : ∀ l : List α, (l.flatMap enc).length = l.length * sz := by
        intro l
        induction l with
        | nil => simp
        | cons y r ih => rw [List.flatMap_cons, List.length_append, hlen, ih, List.length_cons, Nat.succ_mul]; omega
      rw [this, hnl]
    · intro j u hu
      have hj := (List.getElem?_eq_some_iff.1 hu).1
      rcases hrd.2 with h0 | ⟨x, o, e1, _, e3⟩
      · subst h0
        have : news = [] := List.eq_nil_of_length_eq_zero hnl
        subst this
        simp at hj
      · cases e1
        rw [Addr.add_lit]
        have hdiv : ∃ y, news[j / sz]? = some y ∧ (enc y)[j % sz]? = some u := by
          clear e3 hmul hown h hx hrd
          induction news generalizing j n with
          | nil => simp at hu
          | cons y r ih =>
            rw [List.flatMap_cons] at hu
            by_cases hlt : j < sz
            · rw [List.getElem?_append_left (by rw [hlen]; exact hlt)] at hu
              exact ⟨y, by rw [Nat.div_eq_of_lt hlt]; rfl, by rw [Nat.mod_eq_of_lt hlt]; exact hu⟩
            · rw [List.getElem?_append_right (by rw [hlen]; omega), hlen] at hu
              obtain ⟨y', h1', h2'⟩ := ih (n := n - 1) (j := j - sz) (by omega) (by simp at hnl; omega) hu (List.getElem?_eq_some_iff.1 hu).1
              have e1 : j / sz = (j - sz) / sz + 1 := by
                rw [Nat.div_eq_sub_div hsz (by omega)]
              have e2 : j % sz = (j - sz) % sz := by
                rw [Nat.mod_eq_sub_mod (by omega)]
              exact ⟨y', by rw [e1]; simpa using h1', by rw [e2]; exact h2'⟩
        obtain ⟨y, hy1, hy2⟩ := hdiv
        have := e3 _ y hy1 _ u hy2
        rw [Nat.add_assoc, Nat.mul_comm, Nat.div_add_mod] at this
        exact this
    · intro u hu
      obtain ⟨y, _, hy⟩ := List.mem_flatMap.1 hu
      exact h1 y u hy
    · intro v' w' hown' hgrow hnil
      have hch : Chg (fun k => k < w0.heap.size ∧ ¬ v.ownBlock = some k) w0 w' := ⟨hgrow.os, hgrow.tape, hgrow.output, hgrow.size, fun k hk => hgrow.block k hk.1 (fun h => hk.2 h.symm)⟩
      refine h v' w' ?_ hch (hch.mono fun k hk => ⟨by omega, fun hv => ?_⟩)
      · unfold OwnL
        simpa [List.flatMap_append, hnl] using hown'
      · have := hown.lt k hv
        omega

theorem quiet_of_eq {P : Program} {f : FuncId} {args : Array Value} {w : World} {n : Nat} {v : Value}
    (h : Calls P f args (w.drewN n) fun e w' => e = .returned v ∧ w.drewN n = w') : Calls P f args (w.drewN n) fun e w'' => e = .returned v ∧ ∃ m, w'' = w.drewN m :=
  h.mono fun _ _ ⟨he, hm⟩ => ⟨he, n, hm.symm⟩

theorem tmod_bounds (v n : Int) (hn : 1 ≤ n) : -n < v.tmod n ∧ v.tmod n < n := by
  refine ⟨?_, Int.tmod_lt_of_pos v (by omega)⟩
  have := Int.tmod_lt_of_pos (-v) (show 0 < n by omega)
  rw [Int.neg_tmod] at this
  omega
theorem emod_of_tmod (v n : Int) (hn : 1 ≤ n) : v % n = if v.tmod n < 0 then v.tmod n + n else v.tmod n := by
  obtain ⟨h1, h2⟩ := tmod_bounds v n hn
  have h3 := Int.tmod_eq_emod (a := v) (b := n)
  have h4 := Int.emod_nonneg v (show n ≠ 0 by omega)
  have h5 := Int.emod_lt_of_pos v (show 0 < n by omega)
  have h6 : (n.natAbs : Int) = n := by omega
  split at h3 <;> split <;> omega

/-- what a call hands back that gives some int in a range and may move the tape at b -/
def SomeInt (lo hi : Int) (ty B b : Nat) (w : World) (e : Ending) (w' : World) : Prop :=
  ∃ r : Int, e = .returned (.int .i64 r) ∧ lo ≤ r ∧ r ≤ hi ∧ Chg (fun k => k < w.heap.size ∧ k ≠ b) w w' ∧ TP ty B w' b
end Go.Proofs.YtenobfplmifomaaDoor
