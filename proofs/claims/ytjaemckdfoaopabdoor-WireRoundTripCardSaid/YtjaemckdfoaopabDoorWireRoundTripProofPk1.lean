/- Texts for the statement WireRoundTripProof, part 1 of 8: Base, K, WireP, WireU, WireD, WireI, WireS, WireT, Sw, WireO, WordP, WordR, NodeR, Nds, Tape, TapeK, Key, TWord, ApH. -/
import Derived.WalkKit
import Derived.WalkSpells
import Derived.WalkLawsBesides
import Derived.BigQuiet
import Derived.Lib.Hide
import Derived.Laws.AppendOwnNone
import Derived.Test.YtjaemckdfoaopabDoorRows
import Derived.Laws.BytesString
import Derived.Lib.AppendStr
import Derived.Deep.RegionHeld3
import Derived.Lib.TrailingZeros
import Derived.Maps.AppendAt

/- Base: what may change in memory, and what is known of a tape of numbers. -/
namespace Go.Proofs.YtjaemckdfoaopabDoor
open Go.RowKit

/-- the blocks in S are as they were -/
structure Chg (S : Nat → Prop) (w w' : World) : Prop where
  os : w'.os = w.os
  tape : w'.tape = w.tape
  output : w'.output = w.output
  size : w.heap.size ≤ w'.heap.size
  block : ∀ k, S k → w'.heap[k]? = w.heap[k]?

theorem Chg.refl (S : Nat → Prop) (w : World) : Chg S w w := ⟨rfl, rfl, rfl, Nat.le_refl _, fun _ _ => rfl⟩
theorem Chg.trans {S : Nat → Prop} {w1 w2 w3 : World} (h : Chg S w1 w2) (k : Chg S w2 w3) : Chg S w1 w3 :=
  ⟨k.os.trans h.os, k.tape.trans h.tape, k.output.trans h.output, Nat.le_trans h.size k.size, fun i hi => (k.block i hi).trans (h.block i hi)⟩
theorem Chg.mono {S S' : Nat → Prop} {w w' : World} (h : Chg S w w') (hs : ∀ k, S' k → S k) : Chg S' w w' := ⟨h.os, h.tape, h.output, h.size, fun k hk => h.block k (hs k hk)⟩
theorem Chg.of_below {B : Nat} {w w' : World} (h : Below B w w') : Chg (· < B) w w' := ⟨h.os, h.tape, h.output, h.size, h.block⟩
theorem Chg.below {S : Nat → Prop} {w w' : World} (h : Chg S w w') {B : Nat} (hs : ∀ k, k < B → S k) : Below B w w' := ⟨h.os, h.tape, h.output, h.size, fun k hk => h.block k (hs k hk)⟩
theorem Chg.drewN {S : Nat → Prop} {w w' : World} (h : Chg S w w') (n : Nat) : Chg S w (w'.drewN n) := ⟨h.os, h.tape, h.output, h.size, h.block⟩
theorem Chg.drew {S : Nat → Prop} {w w' : World} (h : Chg S w w') : Chg S w (w'.drew) := ⟨h.os, h.tape, h.output, h.size, h.block⟩
theorem Chg.setCell {S : Nat → Prop} {w w' : World} (h : Chg S w w') {p : Addr} (v : Value) (hp : ∀ k, S k → k ≠ p.block) : Chg S w (w'.setCell p v) :=
  h.trans ⟨rfl, rfl, rfl, by simp [World.setCell], fun k hk => Below.heap_setCell w' p v k (hp k hk)⟩
theorem Chg.alloc {S : Nat → Prop} {w w' : World} (h : Chg S w w') (o : Obj) (hp : ∀ k, S k → k < w'.heap.size) : Chg S w (w'.alloc o) :=
  h.trans ⟨rfl, rfl, rfl, by simp, fun k hk => Below.heap_alloc w' o k (hp k hk)⟩
theorem Chg.then {S S' : Nat → Prop} {w w1 w2 : World} (h : Chg S w w1) (k : Chg S' w1 w2) (hs : ∀ k, S k → S' k) : Chg S w w2 := h.trans (k.mono hs)
theorem Chg.next {w w1 w2 : World} (h : Chg (· < w.heap.size) w w1) (k : Chg (· < w1.heap.size) w1 w2) : Chg (· < w.heap.size) w w2 :=
  h.trans (k.mono (fun _ hk => Nat.lt_of_lt_of_le hk h.size))
theorem Chg.cell {S : Nat → Prop} {w w' : World} (h : Chg S w w') {p : Addr} (hp : S p.block) : w'.cell? p = w.cell? p := World.cell?_of_block (h.block _ hp)
theorem Chg.cellv {S : Nat → Prop} {w w' : World} (h : Chg S w w') {p : Addr} {v : Value} (hv : w.cell? p = some v) (hp : S p.block) : w'.cell? p = some v := (h.cell hp).trans hv
theorem Chg.frozen {S : Nat → Prop} {w w' : World} (h : Chg S w w') {p : Addr} (hp : S p.block) : w'.frozen? p = w.frozen? p := World.frozen?_of_block (h.block _ hp)

/-- the two rules that a walk uses behind a call -/
theorem Chg.rules {n b : Nat} {w w' : World} (h : Chg (fun k => k < n ∧ k ≠ b) w w') :
    (∀ k o, k < n → ¬ k = b → w'.cell? ⟨k, o, none⟩ = w.cell? ⟨k, o, none⟩) ∧ (∀ k o, k < n → ¬ k = b → w'.frozen? ⟨k, o, none⟩ = w.frozen? ⟨k, o, none⟩) :=
  ⟨fun k o h1 h2 => h.cell (p := ⟨k, o, none⟩) ⟨h1, h2⟩, fun k o h1 h2 => h.frozen (p := ⟨k, o, none⟩) ⟨h1, h2⟩⟩
theorem Chg.rules' {n : Nat} {w w' : World} (h : Chg (fun k => k < n) w w') :
    (∀ k o, k < n → w'.cell? ⟨k, o, none⟩ = w.cell? ⟨k, o, none⟩) ∧ (∀ k o, k < n → w'.frozen? ⟨k, o, none⟩ = w.frozen? ⟨k, o, none⟩) :=
  ⟨fun k o h1 => h.cell (p := ⟨k, o, none⟩) h1, fun k o h1 => h.frozen (p := ⟨k, o, none⟩) h1⟩

/-- a tape lies at block b: it holds a slice of at most 600 ints and a place; all below B -/
def TP (ty B : Nat) (w : World) (b : Nat) : Prop :=
  ∃ (a : Option Addr) (cap i x o : Nat) (l : List Int),
    w.heap[b]? = some (.cells #[.slice a l.length cap, .int .i64 i] ty (0, 0)) ∧ b < B ∧ l.length ≤ 600 ∧ i ≤ l.length ∧
    (l = [] ∨ (a = some ⟨x, o, none⟩ ∧ x ≠ b ∧ x < B ∧ ∀ j, j < l.length → w.cell? ⟨x, o + j, none⟩ = some (.int .i64 (l.getD j 0))))

theorem TP.chg {ty B : Nat} {w w' : World} {b : Nat} (h : TP ty B w b) {S : Nat → Prop} (k : Chg S w w') (hs : ∀ k, k < B → S k) : TP ty B w' b := by
  obtain ⟨a, cap, i, x, o, l, h1, h2, h3, h4, h5⟩ := h
  refine ⟨a, cap, i, x, o, l, ?_, h2, h3, h4, ?_⟩
  · rw [k.block b (hs b h2)]; exact h1
  · rcases h5 with h5 | ⟨e1, e2, e3, e4⟩
    · exact .inl h5
    · exact .inr ⟨e1, e2, e3, fun j hj => by rw [k.cell (p := ⟨x, o + j, none⟩) (hs x e3)]; exact e4 j hj⟩
theorem TP.mono {ty B B' : Nat} {w : World} {b : Nat} (h : TP ty B w b) (hB : B ≤ B') : TP ty B' w b := by
  obtain ⟨a, cap, i, x, o, l, h1, h2, h3, h4, h5⟩ := h
  refine ⟨a, cap, i, x, o, l, h1, by omega, h3, h4, ?_⟩
  rcases h5 with h5 | ⟨e1, e2, e3, e4⟩
  · exact .inl h5
  · exact .inr ⟨e1, e2, by omega, e4⟩
theorem TP.lt {ty B : Nat} {w : World} {b : Nat} (h : TP ty B w b) : b < B := by
  obtain ⟨a, cap, i, x, o, l, h1, h2, _⟩ := h
  exact h2

/-- a slice (its address and length) that reads as a list, each element as sz cells; its block is in S -/
def Rd {α : Type} (sz : Nat) (enc : α → List Value) (S : Nat → Prop) (w : World) (a : Option Addr) (n : Nat) (l : List α) : Prop :=
  l.length = n ∧ (n = 0 ∨ ∃ x o, a = some ⟨x, o, none⟩ ∧ S x ∧ ∀ j y, l[j]? = some y → ∀ c u, (enc y)[c]? = some u → w.cell? ⟨x, o + j * sz + c, none⟩ = some u)

theorem Rd.chg {α : Type} {sz n : Nat} {S : Nat → Prop} {enc : α → List Value} {w w' : World} {a : Option Addr} {l : List α} (h : Rd sz enc S w a n l) {S' : Nat → Prop} (k : Chg S' w w') (hs : ∀ k, S k → S' k) : Rd sz enc S w' a n l := by
  refine ⟨h.1, ?_⟩
  rcases h.2 with h2 | ⟨x, o, e1, e2, e3⟩
  · exact .inl h2
  · exact .inr ⟨x, o, e1, e2, fun j y hj c u hu => by rw [k.cell (p := ⟨x, _, none⟩) (hs x e2)]; exact e3 j y hj c u hu⟩
theorem Rd.mono {α : Type} {sz n : Nat} {S S' : Nat → Prop} {enc : α → List Value} {w : World} {a : Option Addr} {l : List α} (h : Rd sz enc S w a n l) (hS : ∀ k, S k → S' k) : Rd sz enc S' w a n l := by
  refine ⟨h.1, ?_⟩
  rcases h.2 with h2 | ⟨x, o, e1, e2, e3⟩
  · exact .inl h2
  · exact .inr ⟨x, o, e1, hS x e2, e3⟩
theorem Rd.nil {α : Type} (sz : Nat) (enc : α → List Value) (S : Nat → Prop) (w : World) (a : Option Addr) : Rd sz enc S w a 0 [] := ⟨rfl, .inl rfl⟩
/-- one element -/
theorem Rd.at {α : Type} {sz n : Nat} {S : Nat → Prop} {enc : α → List Value} {w : World} {a : Option Addr} {l : List α} (h : Rd sz enc S w a n l) {j : Nat} (hj : j < n) :
    ∃ x o y, a = some ⟨x, o, none⟩ ∧ S x ∧ l[j]? = some y ∧ ∀ c u, (enc y)[c]? = some u → w.cell? ⟨x, o + j * sz + c, none⟩ = some u := by
  obtain ⟨h1, h2⟩ := h
  rcases h2 with h2 | ⟨x, o, e1, e2, e3⟩
  · omega
  · exact ⟨x, o, l[j]'(by omega), e1, e2, by simp, e3 j _ (by simp)⟩

def encS (s : Int × Int) : List Value := [.int .i64 s.1, .int .i64 s.2]

/-- a block that is known whole, of one cell, of two -/
theorem cells1 {w : World} {k : Nat} {x : Value} {ty : TypeId} (h : w.heap[k]? = some (.cells #[x] ty (0, 0))) : w.cell? ⟨k, 0, none⟩ = some x ∧ w.frozen? ⟨k, 0, none⟩ = false := by simp [World.cell?, World.frozen?, h]
theorem cells2 {w : World} {k : Nat} {x y : Value} {ty : TypeId} (h : w.heap[k]? = some (.cells #[x, y] ty (0, 0))) : w.cell? ⟨k, 0, none⟩ = some x ∧ w.cell? ⟨k, 1, none⟩ = some y ∧ w.frozen? ⟨k, 0, none⟩ = false ∧ w.frozen? ⟨k, 1, none⟩ = false := by simp [World.cell?, World.frozen?, h]

theorem cells3 {w : World} {k : Nat} {x y z : Value} {ty : TypeId} (h : w.heap[k]? = some (.cells #[x, y, z] ty (0, 0))) : w.cell? ⟨k, 0, none⟩ = some x ∧ w.cell? ⟨k, 1, none⟩ = some y ∧ w.cell? ⟨k, 2, none⟩ = some z ∧ w.frozen? ⟨k, 0, none⟩ = false ∧ w.frozen? ⟨k, 1, none⟩ = false ∧ w.frozen? ⟨k, 2, none⟩ = false := by simp [World.cell?, World.frozen?, h]
theorem heap_set {w : World} {k : Nat} {cs : Array Value} {ty : TypeId} {fr : Nat × Nat} (h : w.heap[k]? = some (.cells cs ty fr)) (o : Nat) (v : Value) :
    (w.setCell ⟨k, o, none⟩ v).heap[k]? = some (.cells (cs.setIfInBounds o v) ty fr) := by simp [World.setCell, Array.getElem?_modify, h]
theorem heap_set_ne {w : World} {k : Nat} {p : Addr} {v : Value} {x : Option Obj} (h : w.heap[k]? = x) (hk : k ≠ p.block) : (w.setCell p v).heap[k]? = x := (Below.heap_setCell w p v k hk).trans h
theorem heap_push {w : World} {k : Nat} {o : Obj} {x : Obj} (h : w.heap[k]? = some x) : (w.alloc o).heap[k]? = some x :=
  (Below.heap_alloc w o k (Array.getElem?_eq_some_iff.1 h).1).trans h
theorem heap_new (w : World) (o : Obj) : (w.alloc o).heap[w.heap.size]? = some o := by show (w.heap.push o)[w.heap.size]? = _; simp
theorem heap_lt {w : World} {k : Nat} {x : Obj} (h : w.heap[k]? = some x) : k < w.heap.size := (Array.getElem?_eq_some_iff.1 h).1

theorem flat_at {α : Type} {sz : Nat} {enc : α → List Value} (hsz : ∀ y, (enc y).length = sz) : ∀ (l : List α) (j : Nat) (y : α), l[j]? = some y → ∀ c u, (enc y)[c]? = some u → (l.flatMap enc)[j * sz + c]? = some u
  | [], _, _, h, _, _, _ => by simp at h
  | x :: r, 0, y, h, c, u, hu => by
    simp at h; subst h
    rw [List.flatMap_cons, Nat.zero_mul, Nat.zero_add, List.getElem?_append_left (List.getElem?_eq_some_iff.1 hu).1]; exact hu
  | x :: r, j + 1, y, h, c, u, hu => by
    have h' : r[j]? = some y := by simpa using h
    have := flat_at hsz r j y h' c u hu
    rw [List.flatMap_cons, List.getElem?_append_right (by rw [hsz]; rw [Nat.succ_mul]; omega), hsz]
    rw [show (j + 1) * sz + c - sz = j * sz + c by rw [Nat.succ_mul]; omega]
    exact this
/-- a block reads as a list -/
theorem Rd.block {α : Type} {sz k n : Nat} {enc : α → List Value} {w : World} {cs : Array Value} {ty : TypeId} {fr : Nat × Nat} (l : List α) (h : w.heap[k]? = some (.cells cs ty fr)) (hn : l.length = n) (hsz : ∀ y, (enc y).length = sz)
    (hc : ∀ (i : Nat) (u : Value), (l.flatMap enc)[i]? = some u → cs[i]? = some u) : Rd sz enc (· = k) w (some ⟨k, 0, none⟩) n l := by
  refine ⟨hn, .inr ⟨k, 0, rfl, rfl, fun j y hj c u hu => ?_⟩⟩
  have := hc _ _ (flat_at hsz l j y hj c u hu)
  simp [World.cell?, h, this]
/-- a literal -/
theorem Rd.lit {α : Type} {sz n s : Nat} {S : Nat → Prop} {enc : α → List Value} {w : World} {cs : Array Value} {ty : TypeId} (l : List α) (hs : s = w.heap.size) (hS : S w.heap.size) (hn : l.length = n) (hsz : ∀ y, (enc y).length = sz) (hc : cs = (l.flatMap enc).toArray) : Rd sz enc S (w.alloc (.cells cs ty)) (some ⟨s, 0, none⟩) n l := by
  subst hs hc
  exact (Rd.block l (heap_new w _) hn hsz (fun i u h => by simpa using h)).mono (by intro k hk; subst hk; exact hS)
def encI (x : Int) : List Value := [.int .i64 x]

/-- a slice that the call itself makes, as a list -/
def OwnL {α : Type} (sz : Nat) (enc : α → List Value) (e : TypeId) (base : Nat) (w : World) (v : Value) (l : List α) : Prop := w.ownsRow base e sz v l.length (l.flatMap enc)

theorem OwnL.nil {α : Type} (sz : Nat) (enc : α → List Value) (e : TypeId) (base : Nat) (w : World) : OwnL sz enc e base w (.slice none 0 0) [] := World.ownsRow_nil w base e sz
theorem OwnL.chg {α : Type} {sz e base : Nat} {enc : α → List Value} {w w' : World} {v : Value} {l : List α} (h : OwnL sz enc e base w v l) {S : Nat → Prop} (k : Chg S w w') (hs : ∀ k, k < w.heap.size → v.ownBlock = some k → S k) : OwnL sz enc e base w' v l := by
  refine ⟨h.1, ?_⟩
  rcases h.2 with hn | ⟨g, cap, cur, rfl, hb, hg, rest⟩
  · exact .inl hn
  · exact .inr ⟨g, cap, cur, rfl, hb, (k.block g (hs g (heap_lt hg) rfl)).trans hg, rest⟩
theorem OwnL.alloc {α : Type} {sz e base : Nat} {enc : α → List Value} {w : World} {v : Value} {l : List α} (h : OwnL sz enc e base w v l) (o : Obj) : OwnL sz enc e base (w.alloc o) v l :=
  h.chg ((Chg.refl (· < w.heap.size) w).alloc o (fun _ h => h)) (fun _ h _ => h)
theorem OwnL.rd {α : Type} {sz e base : Nat} {enc : α → List Value} {w : World} {v : Value} {l : List α} (h : OwnL sz enc e base w v l) (hsz : ∀ y, (enc y).length = sz) :
    ∃ a cap, v = .slice a l.length cap ∧ Rd sz enc (fun k => base ≤ k ∧ k < w.heap.size) w a l.length l ∧ l.length ≤ cap ∧ cap ≤ maxLen ∧ (l ≠ [] → ∃ g, a = some ⟨g, 0, none⟩ ∧ base ≤ g) := by
  rcases h.2 with ⟨rfl, hn⟩ | ⟨g, cap, cur, rfl, hb, hg, h1, h2, h3, h4⟩
  · have : l = [] := List.eq_nil_of_length_eq_zero hn
    subst this
    exact ⟨none, 0, rfl, Rd.nil _ _ _ _ _, by simp, by unfold maxLen; omega, fun h => absurd rfl h⟩
  · refine ⟨_, cap, rfl, (Rd.block l hg rfl hsz (fun i u hu => ?_)).mono (fun k hk => by subst hk; exact ⟨hb, heap_lt hg⟩), h1, h2, fun _ => ⟨g, rfl, hb⟩⟩
    rw [← h4, List.getElem?_take] at hu
    split at hu
    · simpa using hu
    · cases hu

/-- append of one element that was just written out -/
theorem wpList_append_lit {P : Program} {α : Type} {enc : α → List Value} {ops : Array Oper} {rest : List Oper} {o : Oper} {a : Act} {Q : Exit → Act → World → Prop} (w0 : World) (hgd : o.guard = none) (s x : Operand) (t : TypeId)
    (ho : o.op = .call { callee := .builtin .append, args := #[s, x], argTypes := #[t, t] })
    (base : Nat) (e : TypeId) (z : Value) (sz bytes : Nat) (ht : P.underlying t = some (.slice e)) (hi : (P.info? e).map (fun i => (i.zero, i.size, i.bytes)) = some (some z, sz, bytes))
    (hzs : z.cells.size = sz) (hsz : 0 < sz) (hby : bytes ≤ 65536)
    (v : Value) (l : List α) (hown : OwnL sz enc e base w0 v l) (hs : a.eval s = v) (y : α) (A : Array Value) (hA : A = (enc y).toArray) (hlen : (enc y).length = sz) (h1 : ∀ u ∈ enc y, u.oneCell' = true)
    (k : Nat) (hk : k = w0.heap.size) (hx : a.eval x = .slice (some ⟨k, 0, none⟩) 1 1) (hl : l.length ≤ 1000000) (hbase : base ≤ w0.heap.size) (e' : TypeId)
    (h : ∀ v' w', OwnL sz enc e base w' v' (l ++ [y]) → Chg (fun k => k < w0.heap.size ∧ ¬ v.ownBlock = some k) w0 w' → Chg (· < base) w0 w' → w0.heap.size < w'.heap.size → wpList P ops Q rest (a.put o.dst v') w') :
    wpList P ops Q (o :: rest) a (w0.alloc (.cells A e')) := by
  subst hA hk
  obtain ⟨i, hi, hz0, hz1, hz2⟩ := info_parts hi
  have hmul : (l.length + 1) * bytes ≤ 1000001 * 65536 := Nat.mul_le_mul (by omega) hby
  refine wpList_append_own _ hgd s x t ho base e i z sz bytes ht hi hz0 hz1 hz2 hzs hsz v l.length (l.flatMap enc) hs (hown.alloc _) ⟨w0.heap.size, 0, none⟩ 1 1 (enc y) hx (by simp [hlen]) ?_ h1 (by unfold maxLen; omega) (by omega) (by simp; omega) ?_
  · intro j u hu
    rw [Addr.add_lit]
    simp only [Nat.zero_add]
    rw [World.cell?, heap_new]
    simpa using hu
  · intro v' w' hown' hgrow hnil
    have hz' := hgrow.size
    simp at hz'
    have hch : Chg (fun k => k < w0.heap.size ∧ ¬ v.ownBlock = some k) w0 w' := ⟨hgrow.os, hgrow.tape, hgrow.output, by omega, fun k hk => by
      rw [hgrow.block k (by simp; omega) (fun h => hk.2 h.symm)]
      exact Below.heap_alloc _ _ _ hk.1⟩
    refine h v' w' ?_ hch (hch.mono fun k hk => ⟨by omega, fun hv => ?_⟩) hz'
    · unfold OwnL
      simpa [List.flatMap_append] using hown'
    · have := hown.lt k hv
      omega

theorem keep4 {b : Nat} {w w' : World} {x0 x1 x2 x3 : Value} (k : Chg (· < w.heap.size) w w') (h : w.cell? ⟨b, 0, none⟩ = some x0 ∧ w.cell? ⟨b, 1, none⟩ = some x1 ∧ w.cell? ⟨b, 2, none⟩ = some x2 ∧ w.cell? ⟨b, 3, none⟩ = some x3) :
    w'.cell? ⟨b, 0, none⟩ = some x0 ∧ w'.cell? ⟨b, 1, none⟩ = some x1 ∧ w'.cell? ⟨b, 2, none⟩ = some x2 ∧ w'.cell? ⟨b, 3, none⟩ = some x3 :=
  have hb : b < w.heap.size := World.block_lt_of_cell? w _ h.1
  ⟨k.cellv h.1 hb, k.cellv h.2.1 hb, k.cellv h.2.2.1 hb, k.cellv h.2.2.2 hb⟩

/-- an empty slice that was just written out -/
theorem OwnL.empty {α : Type} {sz : Nat} {enc : α → List Value} {e : TypeId} {base s : Nat} {w : World} (hb : base ≤ w.heap.size) (hs : s = w.heap.size) : OwnL sz enc e base (w.alloc (.cells #[] e)) (.slice (some ⟨s, 0, none⟩) 0 0) ([] : List α) := by
  subst hs
  exact World.ownsRow_made w #[] 0 hb (by unfold maxLen; omega) (by simp)

/-- append of a whole slice that reads as a list -/
theorem wpList_append_rd {P : Program} {α : Type} {enc : α → List Value} {ops : Array Oper} {rest : List Oper} {o : Oper} {a : Act} {Q : Exit → Act → World → Prop} (w0 : World) (hgd : o.guard = none) (s x : Operand) (t : TypeId)
    (ho : o.op = .call { callee := .builtin .append, args := #[s, x], argTypes := #[t, t] })
    (base : Nat) (e : TypeId) (z : Value) (sz bytes : Nat) (ht : P.underlying t = some (.slice e)) (hi : (P.info? e).map (fun i => (i.zero, i.size, i.bytes)) = some (some z, sz, bytes))
    (hzs : z.cells.size = sz) (hsz : 0 < sz) (hby : bytes ≤ 65536)
    (v : Value) (l : List α) (hown : OwnL sz enc e base w0 v l) (hs : a.eval s = v) (S : Nat → Prop) (A : Option Addr) (n c : Nat) (news : List α) (hrd : Rd sz enc S w0 A n news) (hA : A = none → c = 0) (hlen : ∀ y, (enc y).length = sz) (h1 : ∀ y, ∀ u ∈ enc y, u.oneCell' = true)
    (hx : a.eval x = .slice A n c) (hl : l.length ≤ 1000000) (hn : n ≤ 1000000) (hbase : base ≤ w0.heap.size)
    (h : ∀ v' w', OwnL sz enc e base w' v' (l ++ news) → Chg (fun k => k < w0.heap.size ∧ ¬ v.ownBlock = some k) w0 w' → Chg (· < base) w0 w' → wpList P ops Q rest (a.put o.dst v') w') :
    wpList P ops Q (o :: rest) a w0 := by
  obtain ⟨i, hi, hz0, hz1, hz2⟩ := info_parts hi
  have hmul : (l.length + n) * bytes ≤ 2000000 * 65536 := Nat.mul_le_mul (by omega) hby
  have hnl := hrd.1
  cases A with
  | none =>
    have hc := hA rfl
    have hn0 : n = 0 := by
      rcases hrd.2 with h0 | ⟨x, o, e1, _⟩
      · exact h0
      · cases e1
    subst hn0 hc
    have hnews : news = [] := List.eq_nil_of_length_eq_zero hnl
    subst hnews
    refine wpList_append_own_none hgd s x t ho base e i sz ht hi v l.length (l.flatMap enc) hs hown hx ?_
    exact h v w0 (by simpa using hown) (Chg.refl _ _) (Chg.refl _ _)
  | some ad =>
    refine wpList_append_own _ hgd s x t ho base e i z sz bytes ht hi hz0 hz1 hz2 hzs hsz v l.length (l.flatMap enc) hs hown ad n c (news.flatMap enc) hx ?_ ?_ ?_ (by unfold maxLen; omega) (by omega) hbase ?_
    · have : ∀ l : List α, (l.flatMap enc).length = l.length * sz := by
        intro l
        induction l with
        | nil => simp
        | cons y r ih => rw [List.flatMap_cons, List.length_append, hlen, ih, List.length_cons, Nat.succ_mul]; omega
      rw [this, hnl]
    · intro j u hu
      have hj := (List.getElem?_eq_some_iff.1 hu).1
      rcases hrd.2 with h0 | ⟨x, o, e1, _, e3⟩
      · subst h0
        have : news = [] := List.eq_nil_of_length_eq_zero hnl
        subst this
        simp at hj
      · cases e1
        rw [Addr.add_lit]
        have hdiv : ∃ y, news[j / sz]? = some y ∧ (enc y)[j % sz]? = some u := by
          clear e3 hmul hown h hx hrd
          induction news generalizing j n with
          | nil => simp at hu
          | cons y r ih =>
            rw [List.flatMap_cons] at hu
            by_cases hlt : j < sz
            · rw [List.getElem?_append_left (by rw [hlen]; exact hlt)] at hu
              exact ⟨y, by rw [Nat.div_eq_of_lt hlt]; rfl, by rw [Nat.mod_eq_of_lt hlt]; exact hu⟩
            · rw [List.getElem?_append_right (by rw [hlen]; omega), hlen] at hu
              obtain ⟨y', h1', h2'⟩ := ih (n := n - 1) (j := j - sz) (by omega) (by simp at hnl; omega) hu (List.getElem?_eq_some_iff.1 hu).1
              have e1 : j / sz = (j - sz) / sz + 1 := by
                rw [Nat.div_eq_sub_div hsz (by omega)]
              have e2 : j % sz = (j - sz) % sz := by
                rw [Nat.mod_eq_sub_mod (by omega)]
              exact ⟨y', by rw [e1]; simpa using h1', by rw [e2]; exact h2'⟩
        obtain ⟨y, hy1, hy2⟩ := hdiv
        have := e3 _ y hy1 _ u hy2
        rw [Nat.add_assoc, Nat.mul_comm, Nat.div_add_mod] at this
        exact this
    · intro u hu
      obtain ⟨y, _, hy⟩ := List.mem_flatMap.1 hu
      exact h1 y u hy
    · intro v' w' hown' hgrow hnil
      have hch : Chg (fun k => k < w0.heap.size ∧ ¬ v.ownBlock = some k) w0 w' := ⟨hgrow.os, hgrow.tape, hgrow.output, hgrow.size, fun k hk => hgrow.block k hk.1 (fun h => hk.2 h.symm)⟩
      refine h v' w' ?_ hch (hch.mono fun k hk => ⟨by omega, fun hv => ?_⟩)
      · unfold OwnL
        simpa [List.flatMap_append, hnl] using hown'
      · have := hown.lt k hv
        omega

theorem quiet_of_eq {P : Program} {f : FuncId} {args : Array Value} {w : World} {n : Nat} {v : Value}
    (h : Calls P f args (w.drewN n) fun e w' => e = .returned v ∧ w.drewN n = w') : Calls P f args (w.drewN n) fun e w'' => e = .returned v ∧ ∃ m, w'' = w.drewN m :=
  h.mono fun _ _ ⟨he, hm⟩ => ⟨he, n, hm.symm⟩

theorem tmod_bounds (v n : Int) (hn : 1 ≤ n) : -n < v.tmod n ∧ v.tmod n < n := by
  refine ⟨?_, Int.tmod_lt_of_pos v (by omega)⟩
  have := Int.tmod_lt_of_pos (-v) (show 0 < n by omega)
  rw [Int.neg_tmod] at this
  omega
theorem emod_of_tmod (v n : Int) (hn : 1 ≤ n) : v % n = if v.tmod n < 0 then v.tmod n + n else v.tmod n := by
  obtain ⟨h1, h2⟩ := tmod_bounds v n hn
  have h3 := Int.tmod_eq_emod (a := v) (b := n)
  have h4 := Int.emod_nonneg v (show n ≠ 0 by omega)
  have h5 := Int.emod_lt_of_pos v (show 0 < n by omega)
  have h6 : (n.natAbs : Int) = n := by omega
  split at h3 <;> split <;> omega

/-- what a call hands back that gives some int in a range and may move the tape at b -/
def SomeInt (lo hi : Int) (ty B b : Nat) (w : World) (e : Ending) (w' : World) : Prop :=
  ∃ r : Int, e = .returned (.int .i64 r) ∧ lo ≤ r ∧ r ≤ hi ∧ Chg (fun k => k < w.heap.size ∧ k ≠ b) w w' ∧ TP ty B w' b
end Go.Proofs.YtjaemckdfoaopabDoor

/- Standard forms of what a call leaves, and of what is known of memory, with one step lemma each. -/
namespace Go.Proofs.YtjaemckdfoaopabDoor
open Go.RowKit

/-- all that was there is as it was -/
def Ex (w w' : World) : Prop := Chg (· < w.heap.size) w w'
/-- all that was there is as it was, but perhaps block b -/
def Exb (b : Nat) (w w' : World) : Prop := Chg (fun k => k < w.heap.size ∧ k ≠ b) w w'

theorem Ex.refl (w : World) : Ex w w := Chg.refl _ w
theorem Exb.refl (b : Nat) (w : World) : Exb b w w := Chg.refl _ w
theorem Ex.size {w w' : World} (k : Ex w w') : w.heap.size ≤ w'.heap.size := Chg.size k
theorem Exb.size {b : Nat} {w w' : World} (k : Exb b w w') : w.heap.size ≤ w'.heap.size := Chg.size k
theorem Ex.nx {w w1 w2 : World} (h : Ex w w1) (k : Ex w1 w2) : Ex w w2 := Chg.next h k
theorem Exb.nxb {b : Nat} {w w1 w2 : World} (h : Exb b w w1) (k : Exb b w1 w2) : Exb b w w2 :=
  Chg.trans h (Chg.mono k (fun _ hk => ⟨Nat.lt_of_lt_of_le hk.1 h.size, hk.2⟩))
theorem Ex.b {w w' : World} (k : Ex w w') (b : Nat) : Exb b w w' := Chg.mono k (fun _ h => h.1)
theorem Exb.b {b : Nat} {w w' : World} (k : Exb b w w') (_ : Nat) : Exb b w w' := k
/-- of the law itself: the tape was made by it -/
def Exl (b : Nat) (w w' : World) : Prop := Ex w w' ∧ w.heap.size ≤ b
theorem Exl.nxb {b : Nat} {w w1 w2 : World} (h : Exl b w w1) (k : Exb b w1 w2) : Exl b w w2 :=
  ⟨Chg.trans h.1 (Chg.mono k (fun _ hk => ⟨Nat.lt_of_lt_of_le hk h.1.size, by have := h.2; omega⟩)), h.2⟩
theorem Exl.nx {b : Nat} {w w1 w2 : World} (h : Exl b w w1) (k : Ex w1 w2) : Exl b w w2 := ⟨h.1.nx k, h.2⟩
theorem Exl.size {b : Nat} {w w' : World} (h : Exl b w w') : w.heap.size ≤ w'.heap.size := h.1.size
theorem Ex.alloc {w w' : World} (h : Ex w w') (o : Obj) : Ex w (w'.alloc o) := Chg.alloc h o (fun _ hk => Nat.lt_of_lt_of_le hk h.size)
theorem Exb.alloc {b : Nat} {w w' : World} (h : Exb b w w') (o : Obj) : Exb b w (w'.alloc o) := Chg.alloc h o (fun _ hk => Nat.lt_of_lt_of_le hk.1 h.size)
theorem Ex.new (w : World) (o : Obj) : Ex w (w.alloc o) := (Ex.refl w).alloc o
theorem Ex.drew {w w' : World} (h : Ex w w') : Ex w w'.drew := Chg.drew h
theorem Exb.drew {b : Nat} {w w' : World} (h : Exb b w w') : Exb b w w'.drew := Chg.drew h
theorem Ex.drewN {w w' : World} (h : Ex w w') (n : Nat) : Ex w (w'.drewN n) := Chg.drewN h n
theorem Ex.setNew {w w' : World} (h : Ex w w') {p : Addr} (v : Value) (hp : w.heap.size ≤ p.block) : Ex w (w'.setCell p v) := Chg.setCell h v (fun k (hk : k < w.heap.size) => by omega)
theorem Exb.setNew {b : Nat} {w w' : World} (h : Exb b w w') {p : Addr} (v : Value) (hp : w.heap.size ≤ p.block) : Exb b w (w'.setCell p v) := Chg.setCell h v (fun k (hk : k < w.heap.size ∧ k ≠ b) => by omega)
theorem Exb.setB {b : Nat} {w w' : World} (h : Exb b w w') {p : Addr} (v : Value) (hp : p.block = b) : Exb b w (w'.setCell p v) := Chg.setCell h v (fun k (hk : k < w.heap.size ∧ k ≠ b) => by rw [hp]; exact hk.2)
theorem Ex.of_exb {b : Nat} {w w' : World} (h : Exb b w w') (hb : w.heap.size ≤ b) : Ex w w' := Chg.mono h (fun k (hk : k < w.heap.size) => ⟨hk, by omega⟩)
theorem Exb.of_big {b : Nat} {w w1 w2 : World} (h : Exb b w w1) (k : Ex w1 w2) : Exb b w w2 := h.nxb (k.b b)

/-- a slice that reads as a list, in memory that is there -/
def Sl {α : Type} (sz : Nat) (enc : α → List Value) (w : World) (a : Option Addr) (n : Nat) (l : List α) : Prop := Rd sz enc (· < w.heap.size) w a n l
/-- the same, not in block b -/
def Slb {α : Type} (sz : Nat) (enc : α → List Value) (b : Nat) (w : World) (a : Option Addr) (n : Nat) (l : List α) : Prop := Rd sz enc (fun k => k < w.heap.size ∧ k ≠ b) w a n l
/-- in memory that was made since w0 -/
def Slf {α : Type} (sz : Nat) (enc : α → List Value) (w0 w : World) (a : Option Addr) (n : Nat) (l : List α) : Prop := Rd sz enc (fun k => w0.heap.size ≤ k ∧ k < w.heap.size) w a n l

section
variable {α : Type} {sz n b : Nat} {enc : α → List Value} {w w' w0 : World} {a : Option Addr} {l : List α}
theorem Sl.nx (h : Sl sz enc w a n l) (k : Ex w w') : Sl sz enc w' a n l :=
  (Rd.chg h k (fun _ hk => hk)).mono (fun _ hk => Nat.lt_of_lt_of_le hk k.size)
theorem Slb.nxb (h : Slb sz enc b w a n l) (k : Exb b w w') : Slb sz enc b w' a n l :=
  (Rd.chg h k (fun _ hk => hk)).mono (fun _ hk => ⟨Nat.lt_of_lt_of_le hk.1 k.size, hk.2⟩)
theorem Slf.nx (h : Slf sz enc w0 w a n l) (k : Ex w w') : Slf sz enc w0 w' a n l :=
  (Rd.chg h k (fun _ hk => hk.2)).mono (fun _ hk => ⟨hk.1, Nat.lt_of_lt_of_le hk.2 k.size⟩)
theorem Slb.sl (h : Slb sz enc b w a n l) : Sl sz enc w a n l := Rd.mono h (fun _ hk => hk.1)
theorem Slf.sl (h : Slf sz enc w0 w a n l) : Sl sz enc w a n l := Rd.mono h (fun _ hk => hk.2)
theorem Slf.slb (h : Slf sz enc w0 w a n l) (hb : b < w0.heap.size) : Slb sz enc b w a n l := Rd.mono h (fun k hk => ⟨hk.2, by have := hk.1; omega⟩)
theorem Sl.slb (h : Sl sz enc w a n l) (hb : w.heap.size ≤ b) : Slb sz enc b w a n l := Rd.mono h (fun k hk => ⟨hk, by have : k < w.heap.size := hk; omega⟩)
theorem Slf.old (h : Slf sz enc w' w a n l) (hw : w0.heap.size ≤ w'.heap.size) : Slf sz enc w0 w a n l := Rd.mono h (fun k hk => ⟨Nat.le_trans hw hk.1, hk.2⟩)
theorem Sl.len (h : Sl sz enc w a n l) : l.length = n := h.1
theorem Slb.len (h : Slb sz enc b w a n l) : l.length = n := h.1
theorem Slf.len (h : Slf sz enc w0 w a n l) : l.length = n := h.1
theorem Sl.nil (sz : Nat) (enc : α → List Value) (w : World) (a : Option Addr) : Sl sz enc w a 0 [] := Rd.nil _ _ _ _ _
theorem Slb.nil (sz : Nat) (enc : α → List Value) (b : Nat) (w : World) (a : Option Addr) : Slb sz enc b w a 0 [] := Rd.nil _ _ _ _ _
theorem Slf.nil (sz : Nat) (enc : α → List Value) (w0 w : World) (a : Option Addr) : Slf sz enc w0 w a 0 [] := Rd.nil _ _ _ _ _
theorem Sl.at (h : Sl sz enc w a n l) {j : Nat} (hj : j < n) : ∃ x o y, a = some ⟨x, o, none⟩ ∧ x < w.heap.size ∧ l[j]? = some y ∧ ∀ c u, (enc y)[c]? = some u → w.cell? ⟨x, o + j * sz + c, none⟩ = some u := Rd.at h hj
theorem Sl.lit {s : Nat} {cs : Array Value} {ty : TypeId} (l : List α) (hs : s = w.heap.size) (hn : l.length = n) (hsz : ∀ y, (enc y).length = sz) (hc : cs = (l.flatMap enc).toArray) : Sl sz enc (w.alloc (.cells cs ty)) (some ⟨s, 0, none⟩) n l :=
  Rd.lit l hs (by simp) hn hsz hc
theorem Slf.lit {s : Nat} {cs : Array Value} {ty : TypeId} (l : List α) (hs : s = w.heap.size) (hw : w0.heap.size ≤ w.heap.size) (hn : l.length = n) (hsz : ∀ y, (enc y).length = sz) (hc : cs = (l.flatMap enc).toArray) : Slf sz enc w0 (w.alloc (.cells cs ty)) (some ⟨s, 0, none⟩) n l :=
  Rd.lit l hs (by simp; exact hw) hn hsz hc
theorem Rd.take {S : Nat → Prop} {m : Nat} (h : Rd sz enc S w a n l) (hm : m ≤ n) : Rd sz enc S w a m (l.take m) := by
  refine ⟨by have := h.1; simp; omega, ?_⟩
  rcases h.2 with h2 | ⟨x, o, e1, e2, e3⟩
  · exact .inl (by omega)
  · refine .inr ⟨x, o, e1, e2, fun j y hj c u hu => e3 j y ?_ c u hu⟩
    rw [List.getElem?_take] at hj
    split at hj
    · exact hj
    · cases hj
theorem Sl.take {m : Nat} (h : Sl sz enc w a n l) (hm : m ≤ n) : Sl sz enc w a m (l.take m) := Rd.take h hm
theorem Rd.drop {S : Nat → Prop} {x o m : Nat} (h : Rd sz enc S w (some ⟨x, o, none⟩) n l) (hm : m ≤ n) : Rd sz enc S w (some ⟨x, o + m * sz, none⟩) (n - m) (l.drop m) := by
  refine ⟨by have := h.1; simp; omega, ?_⟩
  rcases h.2 with h2 | ⟨x', o', e1, e2, e3⟩
  · exact .inl (by omega)
  · cases e1
    refine .inr ⟨_, _, rfl, e2, fun j y hj c u hu => ?_⟩
    rw [List.getElem?_drop] at hj
    have := e3 (m + j) y hj c u hu
    rw [Nat.add_mul] at this
    rw [← this]; congr 2; omega
theorem Sl.drop {x o m : Nat} (h : Sl sz enc w (some ⟨x, o, none⟩) n l) (hm : m ≤ n) : Sl sz enc w (some ⟨x, o + m * sz, none⟩) (n - m) (l.drop m) := Rd.drop h hm
end

/-- a slice of the call's own -/
theorem OwnL.nx {α : Type} {sz e base : Nat} {enc : α → List Value} {w w' : World} {v : Value} {l : List α} (h : OwnL sz enc e base w v l) (k : Ex w w') : OwnL sz enc e base w' v l := h.chg k (fun _ hk _ => hk)
theorem OwnL.nxb {α : Type} {sz e base b : Nat} {enc : α → List Value} {w w' : World} {v : Value} {l : List α} (h : OwnL sz enc e base w v l) (hb : b < base) (k : Exb b w w') : OwnL sz enc e base w' v l := h.chg k (fun x hx hv => ⟨hx, by have := (h.lt x hv).1; omega⟩)
theorem OwnL.slf {α : Type} {sz e : Nat} {enc : α → List Value} {w0 w : World} {v : Value} {l : List α} (h : OwnL sz enc e w0.heap.size w v l) (hsz : ∀ y, (enc y).length = sz) :
    ∃ a cap, v = .slice a l.length cap ∧ Slf sz enc w0 w a l.length l ∧ l.length ≤ cap ∧ cap ≤ maxLen ∧ (a = none → cap = 0) := by
  have hd : ∀ a n c, v = .slice a n c → a = none → c = 0 := by
    intro a n c he hn
    rcases h.2 with ⟨h0, _⟩ | ⟨g, cap, cur, h0, _⟩
    · rw [h0] at he; cases he; rfl
    · rw [h0] at he; cases he; cases hn
  obtain ⟨a, cap, rfl, h1, h2, h3, _⟩ := h.rd hsz
  exact ⟨a, cap, rfl, h1, h2, h3, hd a _ _ rfl⟩

theorem OwnL.base {α : Type} {sz e base base' : Nat} {enc : α → List Value} {w : World} {v : Value} {l : List α} (h : OwnL sz enc e base w v l) (hb : base' ≤ base) : OwnL sz enc e base' w v l := by
  refine ⟨h.1, ?_⟩
  rcases h.2 with h2 | ⟨g, cap, cur, e1, e2, rest⟩
  · exact .inl h2
  · exact .inr ⟨g, cap, cur, e1, by omega, rest⟩
/-- a tape -/
def TT (ty : Nat) (w : World) (b : Nat) : Prop := TP ty w.heap.size w b
theorem TT.nxb {ty b b' : Nat} {w w' : World} (h : TT ty w b) (k : Ex w w') (_ : b' = b) : TT ty w' b := (TP.chg h k (fun _ hk => hk)).mono k.size
theorem TT.nx {ty b : Nat} {w w' : World} (h : TT ty w b) (k : Ex w w') : TT ty w' b := (TP.chg h k (fun _ hk => hk)).mono k.size
theorem TT.lt {ty b : Nat} {w : World} (h : TT ty w b) : b < w.heap.size := TP.lt h
theorem TT.of_tp {ty b B : Nat} {w : World} (h : TP ty B w b) (hB : B ≤ w.heap.size) : TT ty w b := h.mono hB

/-- a block that is known whole -/
def Blk (w : World) (k : Nat) (cs : List Value) (ty : TypeId) : Prop := w.heap[k]? = some (.cells cs.toArray ty (0, 0))
theorem Blk.nx {w w' : World} {g : Nat} {cs : List Value} {ty : TypeId} (h : Blk w g cs ty) (k : Ex w w') : Blk w' g cs ty := (Chg.block k g (heap_lt h)).trans h
theorem Blk.nxb {w w' : World} {b g : Nat} {cs : List Value} {ty : TypeId} (h : Blk w g cs ty) (hb : g ≠ b) (k : Exb b w w') : Blk w' g cs ty := (Chg.block k g ⟨heap_lt h, hb⟩).trans h
theorem Blk.lt {w : World} {g : Nat} {cs : List Value} {ty : TypeId} (h : Blk w g cs ty) : g < w.heap.size := heap_lt h
theorem Blk.new (w : World) (cs : List Value) (ty : TypeId) : Blk (w.alloc (.cells cs.toArray ty)) w.heap.size cs ty := heap_new w _
theorem Blk.cell {w : World} {g : Nat} {cs : List Value} {ty : TypeId} (h : Blk w g cs ty) (j : Nat) (v : Value) (hv : cs[j]? = some v) : w.cell? ⟨g, j, none⟩ = some v := by
  unfold Blk at h; simp [World.cell?, h, hv]
theorem Blk.free {w : World} {g : Nat} {cs : List Value} {ty : TypeId} (h : Blk w g cs ty) (j : Nat) : w.frozen? ⟨g, j, none⟩ = false := by
  unfold Blk at h; simp [World.frozen?, h]
theorem Blk.set {w : World} {g : Nat} {cs : List Value} {ty : TypeId} (h : Blk w g cs ty) (j : Nat) (v : Value) : Blk (w.setCell ⟨g, j, none⟩ v) g (cs.set j v) ty := by
  have := heap_set h j v
  unfold Blk
  rw [this]; simp
theorem Blk.set_ne {w : World} {g g' j : Nat} {cs : List Value} {ty : TypeId} (h : Blk w g cs ty) (v : Value) (hne : g ≠ g') : Blk (w.setCell ⟨g', j, none⟩ v) g cs ty := heap_set_ne h hne
end Go.Proofs.YtjaemckdfoaopabDoor

/- Numbers as bytes, in plain Lean. -/
namespace Go.Proofs.YtjaemckdfoaopabDoor
open Go.RowKit

def byt (n : Nat) : UInt8 := UInt8.ofNat n
theorem byt_toNat (n : Nat) : (byt n).toNat = n % 256 := by simp [byt]
def encF : Nat → Nat → List UInt8
  | 0, n => [byt n]
  | f + 1, n => if n < 128 then [byt n] else byt (n % 128 + 128) :: encF f (n / 128)
/-- the bytes of a number below 2^64 -/
def encU (n : Nat) : List UInt8 := encF 9 n
theorem encF_lt (f n : Nat) (h : n < 128) : encF f n = [byt n] := by cases f <;> simp [encF, h]
theorem encF_length : ∀ f n, (encF f n).length ≤ f + 1
  | 0, n => by simp [encF]
  | f + 1, n => by
    unfold encF
    split
    · simp
    · have := encF_length f (n / 128); simp; omega
theorem encU_length (n : Nat) : (encU n).length ≤ 10 := encF_length 9 n
theorem encF_pos (f n : Nat) : 0 < (encF f n).length := by
  cases f <;> simp only [encF] <;> (try split) <;> simp
theorem encU_pos (n : Nat) : 0 < (encU n).length := encF_pos 9 n
theorem wrap_u8n (n : Int) : IntKind.u8.wrap n = n % 256 := by simp [IntKind.wrap, IntKind.signed, IntKind.bits]
theorem wrap_u64n (n : Int) : IntKind.u64.wrap n = n % 18446744073709551616 := by rw [IntKind.wrap_u64]
/-- the byte that goes on -/
theorem byte_or (n : Nat) : bits BinOp.or IntKind.u8 ((n : Int) % 256) 128 = ((byt (n % 128 + 128)).toNat : Int) := by
  have h0 : (n : Int) % 256 = ((n % 256 : Nat) : Int) := by omega
  rw [h0]
  have h1 : (BitVec.ofInt 8 ((n % 256 : Nat) : Int)).toNat = n % 256 := by
    rw [BitVec.ofInt_natCast, BitVec.toNat_ofNat]; omega
  have h2 : (BitVec.ofInt 8 (128 : Int)).toNat = 128 := by decide
  show IntKind.u8.wrap ((BitVec.ofInt 8 ((n % 256 : Nat) : Int) ||| BitVec.ofInt 8 (128 : Int)).toNat : Int) = _
  rw [BitVec.toNat_or, h1, h2, wrap_u8n, byt_toNat]
  have key : ∀ m, m < 256 → m ||| 128 = m % 128 + 128 := by decide +kernel
  rw [key (n % 256) (by omega)]
  omega
theorem byte_add (n : Nat) : (n : Int) % 128 + 128 = ((byt (n % 128 + 128)).toNat : Int) := by
  rw [byt_toNat]; omega
theorem byte_last (n : Nat) (h : n < 128) : IntKind.u8.wrap (n : Int) = ((byt n).toNat : Int) := by rw [wrap_u8n, byt_toNat]; omega

/-- the number at the head of some bytes, and how many bytes it takes -/
def decA : List UInt8 → Nat → Nat → Option (Nat × Nat)
  | [], _, _ => none
  | c :: r, i, n =>
    if (i = 9 ∧ 1 < c.toNat) ∨ (0 < i ∧ c.toNat = 0) then none
    else if c.toNat < 128 then some (n + c.toNat * 2 ^ (7 * i), i + 1)
    else decA r (i + 1) (n + c.toNat % 128 * 2 ^ (7 * i))
def decU (b : List UInt8) : Option (Nat × Nat) := decA b 0 0

theorem pow_lt64 {c i : Nat} (h : c < 128) (hi : i ≤ 9) (h9 : i = 9 → c ≤ 1) : c * 2 ^ (7 * i) < 18446744073709551616 := by
  rcases Nat.lt_or_ge i 9 with h8 | h8
  · have : 2 ^ (7 * i) ≤ 2 ^ 56 := Nat.pow_le_pow_right (by omega) (by omega)
    have : c * 2 ^ (7 * i) ≤ 127 * 2 ^ 56 := Nat.mul_le_mul (by omega) this
    omega
  · have : i = 9 := by omega
    subst this
    have := h9 rfl
    have : c * 2 ^ (7 * 9) ≤ 1 * 2 ^ 63 := Nat.mul_le_mul this (by omega)
    omega
theorem or_add {n c i : Nat} (h : n < 2 ^ (7 * i)) : n ||| c * 2 ^ (7 * i) = n + c * 2 ^ (7 * i) := by
  have := Nat.two_pow_add_eq_or_of_lt h c
  rw [Nat.or_comm, Nat.mul_comm c, ← this, Nat.add_comm]
theorem next_lt {n c i : Nat} (h : n < 2 ^ (7 * i)) (hc : c < 128) : n + c * 2 ^ (7 * i) < 2 ^ (7 * (i + 1)) := by
  have : 2 ^ (7 * (i + 1)) = 128 * 2 ^ (7 * i) := by rw [show 7 * (i + 1) = 7 * i + 7 by omega, Nat.pow_add]; omega
  rw [this]
  have : c * 2 ^ (7 * i) ≤ 127 * 2 ^ (7 * i) := Nat.mul_le_mul (by omega) (Nat.le_refl _)
  omega
theorem decA_take {b : List UInt8} {i n N K : Nat} (h : decA b i n = some (N, K)) : i < K ∧ K ≤ i + b.length := by
  induction b generalizing i n with
  | nil => simp [decA] at h
  | cons c r ih =>
    unfold decA at h
    split at h
    · cases h
    · split at h
      · cases h; simp
      · have := ih h; simp; omega
theorem decU_take {b : List UInt8} {N K : Nat} (h : decU b = some (N, K)) : 0 < K ∧ K ≤ b.length := by
  have := decA_take h; omega
theorem decA_lt {b : List UInt8} {i n N K : Nat} (h : decA b i n = some (N, K)) (hi : i ≤ 9) (hn : n < 2 ^ (7 * i)) : N < 18446744073709551616 ∧ K ≤ 10 := by
  induction b generalizing i n with
  | nil => simp [decA] at h
  | cons c r ih =>
    unfold decA at h
    split at h
    · cases h
    · rename_i hg
      split at h
      · rename_i hc
        cases h
        refine ⟨?_, by omega⟩
        rcases Nat.lt_or_ge i 9 with h8 | h8
        · have := next_lt hn hc
          have : 2 ^ (7 * (i + 1)) ≤ 2 ^ 63 := Nat.pow_le_pow_right (by omega) (by omega)
          omega
        · have : i = 9 := by omega
          subst this
          have hc1 : c.toNat ≤ 1 := by omega
          have : c.toNat * 2 ^ (7 * 9) ≤ 1 * 2 ^ 63 := Nat.mul_le_mul hc1 (by omega)
          omega
      · rename_i hc
        have hi9 : i ≠ 9 := by omega
        exact ih h (by omega) (next_lt hn (by omega))
theorem decU_lt {b : List UInt8} {N K : Nat} (h : decU b = some (N, K)) : N < 18446744073709551616 ∧ K ≤ 10 := decA_lt h (by omega) (by simp)

/-- what was written is read back -/
theorem decA_encF : ∀ (f m i n : Nat) (r : List UInt8), m < 128 * 128 ^ f → f + i = 9 → (0 < i → 0 < m) → (i = 9 → m ≤ 1) → (f = 9 - i → m * 2 ^ (7 * i) < 18446744073709551616) → decA (encF f m ++ r) i n = some (n + m * 2 ^ (7 * i), i + (encF f m).length)
  | 0, m, i, n, r, hm, hfi, h0, h9, hb => by
    have hm1 : m ≤ 1 := h9 (by omega)
    simp only [encF, List.cons_append, List.nil_append, decA]
    rw [byt_toNat, Nat.mod_eq_of_lt (by omega), if_neg (by omega), if_pos (by omega)]
    simp
  | f + 1, m, i, n, r, hm, hfi, h0, h9, hb => by
    unfold encF
    by_cases h : m < 128
    · rw [if_pos h]
      simp only [List.cons_append, List.nil_append, decA]
      rw [byt_toNat, Nat.mod_eq_of_lt (by omega), if_neg (by omega), if_pos (by omega)]
      simp
    · rw [if_neg h]
      simp only [List.cons_append, decA]
      rw [byt_toNat, Nat.mod_eq_of_lt (by omega), if_neg (by omega), if_neg (by omega)]
      have e1 : 2 ^ (7 * (i + 1)) = 128 * 2 ^ (7 * i) := by rw [show 7 * (i + 1) = 7 * i + 7 by omega, Nat.pow_add]; omega
      have hsum : m / 128 * 2 ^ (7 * (i + 1)) + m % 128 * 2 ^ (7 * i) = m * 2 ^ (7 * i) := by
        rw [e1, ← Nat.mul_assoc, ← Nat.add_mul]
        congr 1
        omega
      have hb' : m / 128 * 2 ^ (7 * (i + 1)) < 18446744073709551616 := by
        have := hb (by omega)
        omega
      rw [decA_encF f (m / 128) (i + 1) _ r (by rw [Nat.pow_succ] at hm; omega) (by omega) (by omega) ?_ (fun _ => hb')]
      · rw [List.length_cons]
        have : (m % 128 + 128) % 128 = m % 128 := by omega
        rw [this]
        congr 2
        · omega
        · omega
      · intro h9'
        rw [show (7 * (i + 1)) = 63 by omega] at hb'
        omega
theorem decU_encU (n : Nat) (r : List UInt8) (h : n < 18446744073709551616) : decU (encU n ++ r) = some (n, (encU n).length) := by
  unfold decU encU
  rw [decA_encF 9 n 0 0 r (by omega) (by omega) (by omega) (by omega) (by intro _; simpa using h)]
  simp
end Go.Proofs.YtjaemckdfoaopabDoor

/- Walks over AppendUint of the package wire and of its reference. -/
namespace Go.Proofs.YtjaemckdfoaopabDoor
open Go.RowKit

def encB (x : UInt8) : List Value := [.int .u8 x.toNat]
theorem encB_len (y : UInt8) : (encB y).length = 1 := rfl
theorem Tryd.infoB : (Tryd.prog.info? 5).map (fun i => (i.zero, i.size, i.bytes)) = some (some (.int .u8 0), 1, 1) := by kernel_rfl
/-- bytes of the call's own -/
def BytesPost (l : List UInt8) (w : World) (e : Ending) (w' : World) : Prop :=
  ∃ v, e = .returned v ∧ OwnL 1 encB 5 w.heap.size w' v l ∧ Ex w w'

/-- at the head of the loop: what is written, and what is left of the number -/
def AppRel (b : List UInt8) (N : Nat) (w : World) (nv o : Value) (wr : World) : Prop :=
  ∃ (pre : List UInt8) (m f : Nat), nv = .int .u64 m ∧ m < 128 * 128 ^ f ∧ m < 18446744073709551616 ∧ f ≤ 9 ∧ encU N = pre ++ encF f m ∧ OwnL 1 encB 5 w.heap.size wr o (b ++ pre) ∧ Ex w wr

theorem app_next {pre : List UInt8} {N f m : Nat} (h : encU N = pre ++ encF f m) (hm : 128 ≤ m) (hf : m < 128 * 128 ^ f) : ∃ f', f = f' + 1 ∧ m / 128 < 128 * 128 ^ f' ∧ encU N = (pre ++ [byt (m % 128 + 128)]) ++ encF f' (m / 128) := by
  cases f with
  | zero => omega
  | succ f =>
    refine ⟨f, rfl, by rw [Nat.pow_succ] at hf; omega, ?_⟩
    rw [h, List.append_assoc]
    congr 1
    simp only [encF]
    rw [if_neg (by omega)]
    rfl

set_option maxRecDepth 100000 in
set_option maxHeartbeats 1000000 in
theorem appuint_p (a : Option Addr) (n cap : Nat) (b : List UInt8) (N : Nat) (w : World) (h : Sl 1 encB w a n b) (hn : n ≤ 200000) (hnil : a = none → cap = 0) (hN : N < 18446744073709551616) :
    Calls Tryd.prog 24 #[.slice a n cap, .int .u64 N] w (BytesPost (b ++ encU N) w) := by
  have HBL := Lib.hid h.len
  have q0 := Ex.new w (.cells #[] 5)
  have h0 := h.nx q0
  have own0 : OwnL 1 encB 5 w.heap.size (w.alloc (.cells #[] 5)) (.slice (some ⟨w.heap.size, 0, none⟩) 0 0) [] := OwnL.empty (Nat.le_refl _) rfl
  go_enter Tryd.func24, Tryd.ntmps24
  go_wp2_with (at_builtin; go_loud (refine wpList_append_rd (enc := encB) _ rfl _ _ 23 rfl w.heap.size 5 (.int .u8 0) 1 1 Tryd.underlying23 Tryd.infoB rfl (by omega) (by omega) _ [] own0 rfl _ a n cap b h0 hnil (fun _ => rfl) (by simp [encB, Value.oneCell']) rfl (by simp) (by omega) (by simp) ?_); intro v1 w1 own1 hch0 hch1)
  go_loopw [1, 5] (fun nv o wr => AppRel b N w nv o wr) (fun nv _ _ => (intOf nv).toNat)
  case atStart => exact ⟨[], N, 9, rfl, by omega, hN, by omega, rfl, by simpa using own1, Chg.trans q0 hch1⟩
  case round =>
    obtain ⟨pre, m, f, rfl, hm, hm2, hf, henc, hown, hc⟩ := hrel
    obtain ⟨wo, rfl⟩ : ∃ wo : World, wo = wr := ⟨_, rfl⟩
    have hz := hc.size
    have hpl : (b ++ pre).length ≤ 200010 := by
      have := encU_length N
      rw [henc] at this
      have := HBL.out
      simp at *; omega
    have HE := Lib.hid henc
    have HM2 := Lib.hid hm2
    have HM3 : Hid (m / 128 < 18446744073709551616) := Lib.hid (by omega)
    clear hm2 hN henc own1 hch1 hch0 own0 h h0 q0
    by_cases hlt : 128 ≤ m
    · obtain ⟨f', rfl, hf2, HE2⟩ := app_next HE.out hlt hm
      have HE2 := Lib.hid HE2
      have hb := byte_or m
      have HF := Lib.hid hf2
      clear hm hf2
      go_wp2_with (at_builtin; go_loud (refine wpList_append_lit (enc := encB) wo rfl _ _ 23 rfl w.heap.size 5 (.int .u8 0) 1 1 Tryd.underlying23 Tryd.infoB rfl (by omega) (by omega) _ _ hown rfl (byt (m % 128 + 128)) _ rfl rfl (by simp [encB, Value.oneCell']) _ (by simp) rfl (by omega) (by omega) _ ?_); intro v' w3 hown3 _ hch3 hz3)
      go_roundw
      case rel => exact ⟨pre ++ [byt (m % 128 + 128)], m / 128, f', congrArg (Value.int .u64) (by omega), HF.out, HM3.out, by omega, HE2.out, by rw [← List.append_assoc]; exact hown3, Chg.trans hc hch3⟩
      case measure => simp [intOf]; omega
    · have HE2 := Lib.hid (show encU N = pre ++ [byt m] by rw [HE.out, encF_lt _ _ (by omega)])
      have hb := byte_last m (by omega)
      clear hm
      go_wp2_with (at_builtin; go_loud (refine wpList_append_lit (enc := encB) wo rfl _ _ 23 rfl w.heap.size 5 (.int .u8 0) 1 1 Tryd.underlying23 Tryd.infoB rfl (by omega) (by omega) _ _ hown rfl (byt m) _ rfl rfl (by simp [encB, Value.oneCell']) _ (by simp) rfl (by omega) (by omega) _ ?_); intro v' w3 hown3 _ hch3 hz3)
      go_ret
      exact ⟨_, rfl, by rw [HE2.out, ← List.append_assoc]; exact hown3, Chg.trans hc hch3⟩

end Go.Proofs.YtjaemckdfoaopabDoor

/- Walks over Uint of the package wire and of its reference. -/
namespace Go.Proofs.YtjaemckdfoaopabDoor
open Go.RowKit

/-- a number, how many bytes it takes, and an error number -/
def numR (r : Option (Nat × Nat)) : Nat × Nat × Nat := match r with | some (n, k) => (n, k, 0) | none => (0, 0, 4)
def decR (b : List UInt8) : Nat × Nat × Nat := numR (decU b)

def DecRel (b : List UInt8) (nv iv : Value) : Prop :=
  ∃ (i m : Nat), nv = .int .u64 m ∧ iv = .int .i64 i ∧ i ≤ b.length ∧ i ≤ 9 ∧ m < 2 ^ (7 * i) ∧ decU b = decA (b.drop i) i m

theorem dec_bad {b r : List UInt8} {c : UInt8} {i m : Nat} (hd : decU b = decA (c :: r) i m) (h : (i = 9 ∧ 1 < c.toNat) ∨ (0 < i ∧ c.toNat = 0)) : decR b = (0, 0, 4) := by
  unfold decR; rw [hd]; unfold decA; rw [if_pos h]; rfl
theorem dec_end {b r : List UInt8} {c : UInt8} {i m : Nat} (hd : decU b = decA (c :: r) i m) (h : ¬ ((i = 9 ∧ 1 < c.toNat) ∨ (0 < i ∧ c.toNat = 0))) (hc : c.toNat < 128) : decR b = (m + c.toNat % 128 * 2 ^ (7 * i), i + 1, 0) := by
  unfold decR; rw [hd]; unfold decA; rw [if_neg h, if_pos hc, Nat.mod_eq_of_lt hc]; rfl
theorem dec_on {b r : List UInt8} {c : UInt8} {i m : Nat} (hd : decU b = decA (c :: r) i m) (h : ¬ ((i = 9 ∧ 1 < c.toNat) ∨ (0 < i ∧ c.toNat = 0))) (hc : ¬ c.toNat < 128) : decU b = decA r (i + 1) (m + c.toNat % 128 * 2 ^ (7 * i)) := by
  rw [hd]; conv => lhs; unfold decA
  rw [if_neg h, if_neg hc]
theorem bits_or_u64n (a b : Nat) (ha : a < 18446744073709551616) (hb : b < 18446744073709551616) : bits .or .u64 (a : Int) (b : Int) = ((a ||| b : Nat) : Int) := by
  have h1 : ∀ a : Nat, a < 18446744073709551616 → (BitVec.ofInt 64 (a : Int)).toNat = a := fun a ha => by
    rw [BitVec.ofInt_natCast, BitVec.toNat_ofNat]; exact Nat.mod_eq_of_lt (by omega)
  have h2 := Nat.or_lt_two_pow (n := 64) (x := a) (y := b) (by omega) (by omega)
  show IntKind.u64.wrap ((BitVec.ofInt 64 (a : Int) ||| BitVec.ofInt 64 (b : Int)).toNat : Int) = _
  rw [BitVec.toNat_or, h1 a ha, h1 b hb, wrap_u64n]
  omega
theorem bits_and127 (c : Nat) (hc : c < 256) : bits BinOp.and IntKind.u8 (c : Int) 127 = ((c % 128 : Nat) : Int) := by
  have h1 : (BitVec.ofInt 8 (c : Int)).toNat = c := by
    rw [BitVec.ofInt_natCast, BitVec.toNat_ofNat]; omega
  have h2 : (BitVec.ofInt 8 (127 : Int)).toNat = 127 := by decide
  show IntKind.u8.wrap ((BitVec.ofInt 8 (c : Int) &&& BitVec.ofInt 8 (127 : Int)).toNat : Int) = _
  rw [BitVec.toNat_and, h1, h2, wrap_u8n]
  rw [show (127 : Nat) = 2 ^ 7 - 1 from rfl, Nat.and_two_pow_sub_one_eq_mod]
  omega
theorem or_key {c i m : Nat} (hi : i ≤ 9) (h9 : i = 9 → c % 128 ≤ 1) (hm : m < 2 ^ (7 * i)) : bits BinOp.or IntKind.u64 (m : Int) (IntKind.u64.wrap ((c % 128 : Nat) * 2 ^ (7 * i))) = ((m + c % 128 * 2 ^ (7 * i) : Nat) : Int) := by
  have h1 := pow_lt64 (c := c % 128) (i := i) (by omega) hi (by omega)
  have h2 : 2 ^ (7 * i) ≤ 2 ^ 63 := Nat.pow_le_pow_right (by omega) (by omega)
  have h3 : ((c % 128 : Nat) : Int) * 2 ^ (7 * i) = ((c % 128 * 2 ^ (7 * i) : Nat) : Int) := by simp
  have h4 : IntKind.u64.wrap (((c % 128 * 2 ^ (7 * i) : Nat) : Int)) = ((c % 128 * 2 ^ (7 * i) : Nat) : Int) := by rw [wrap_u64n]; omega
  rw [h3, h4, bits_or_u64n _ _ (by omega) h1, or_add hm]
theorem or_key_p {c i m m' : Nat} (hi : i ≤ 9) (hc : c < 256) (h9 : i = 9 → c ≤ 1) (hm : m < 2 ^ (7 * i)) (hm' : m' = m + c % 128 * 2 ^ (7 * i)) :
    bits BinOp.or IntKind.u64 (m : Int) (IntKind.u64.wrap (IntKind.u64.wrap (bits BinOp.and IntKind.u8 (c : Int) 127) * 2 ^ (7 * i))) = (m' : Int) := by
  rw [bits_and127 c hc, show IntKind.u64.wrap ((c % 128 : Nat) : Int) = ((c % 128 : Nat) : Int) by rw [wrap_u64n]; omega, or_key hi (fun h => by have := h9 h; omega) hm, hm']

set_option maxRecDepth 100000 in
set_option maxHeartbeats 1000000 in
theorem uint_p (a : Option Addr) (n cap : Nat) (b : List UInt8) (w : World) (h : Sl 1 encB w a n b) (hn : n ≤ 9223372036854775807) :
    Calls Tryd.prog 31 #[.slice a n cap] w fun e w' => e = .returned (.tuple #[.int .u64 (decR b).1, .int .i64 (decR b).2.1, .int .i64 (decR b).2.2]) ∧ w = w' := by
  have HBL := Lib.hid h.len
  go_enter Tryd.func31, Tryd.ntmps31
  go_wp2
  go_loop [5, 10] (fun nv iv => DecRel b nv iv) (fun _ i => n - (intOf i).toNat)
  case atStart => exact ⟨0, 0, rfl, rfl, by omega, by omega, by simp, rfl⟩
  case round =>
    obtain ⟨i, m, rfl, rfl, hi, hi9, hm, hd⟩ := hrel
    have hbl := HBL.out
    by_cases hlt : i < n
    · obtain ⟨x, o, c, rfl, hx, hy, hcell⟩ := h.at hlt
      have e0 : w.cell? ⟨x, o + i, none⟩ = some (.int .u8 c.toNat) := by simpa using hcell 0 _ rfl
      have hdr : b.drop i = c :: b.drop (i + 1) := by
        rw [List.drop_eq_getElem_cons (by omega)]
        congr 1
        rw [List.getElem?_eq_getElem (by omega)] at hy
        exact Option.some.inj hy
      rw [hdr] at hd
      have hc := c.toNat_lt
      by_cases hbad : (i = 9 ∧ 1 < c.toNat) ∨ (0 < i ∧ c.toNat = 0)
      · have HR := Lib.hid (dec_bad hd hbad)
        clear h hcell hy hdr hd hm hbl
        generalize c.toNat = c' at *
        rcases hbad with ⟨h9, h1⟩ | ⟨h0, h1⟩
        · have d9 : ((i : Int) == 9) = true := by simp; omega
          clear h9
          have d1 : decide (1 < (c' : Int)) = true := by simp; omega
          go_wp2
          go_ret3
          exact ⟨by rw [HR.out]; rfl, rfl⟩
        · subst h1
          have d1 : decide (0 < i) = true := by simp; omega
          go_wp2
          all_goals go_ret3
          all_goals exact ⟨by rw [HR.out]; rfl, rfl⟩
      obtain ⟨m', hm'⟩ : ∃ m', m' = m + c.toNat % 128 * 2 ^ (7 * i) := ⟨_, rfl⟩
      have HE := Lib.hid (dec_end hd hbad)
      have HO := Lib.hid (dec_on hd hbad)
      have hk := or_key_p hi9 hc (by omega) hm hm'
      have HML := Lib.hid (next_lt (c := c.toNat % 128) hm (by omega))
      rw [← hm'] at HE HO HML
      clear h hcell hy hdr hd hm hbl hm'
      generalize c.toNat = c' at *
      by_cases h9 : i = 9
      · have d9 : ((i : Int) == 9) = true := by simp; omega
        have d1 : decide (1 < (c' : Int)) = false := by simp; omega
        have d2 : c' < 128 := by omega
        have d0 : decide (0 < i) = true := by simp; omega
        have dc : ((c' : Int) == 0) = false := by simp; omega
        have z0 : 0 < i := by omega
        clear hbad h9
        go_wp2
        go_ret3
        exact ⟨by rw [HE.out (by omega)]; rfl, rfl⟩
      · have d9 : ((i : Int) == 9) = false := by simp; omega
        have z9 : i < 9 := by omega
        by_cases h0 : i = 0
        · have d0 : decide (0 < i) = false := by simp; omega
          have z0 : i ≤ 0 := by omega
          clear hbad h9 h0
          go_wp2
          · go_ret3
            exact ⟨by rw [HE.out (by omega)]; rfl, rfl⟩
          · go_round
            case rel => exact ⟨i + 1, m', rfl, by go_num, by have := HBL.out; omega, by omega, HML.out, HO.out (by omega)⟩
            case measure => simp [intOf]; omega
        · have d0 : decide (0 < i) = true := by simp; omega
          have dc : ((c' : Int) == 0) = false := by simp; omega
          have z0 : 0 < i := by omega
          clear hbad h9 h0
          go_wp2
          · go_ret3
            exact ⟨by rw [HE.out (by omega)]; rfl, rfl⟩
          · go_round
            case rel => exact ⟨i + 1, m', rfl, by go_num, by have := HBL.out; omega, by omega, HML.out, HO.out (by omega)⟩
            case measure => simp [intOf]; omega
    · have HR : Hid (decR b = (0, 0, 4)) := by
        show decR b = _
        unfold decR
        rw [hd, List.drop_of_length_le (by omega)]
        rfl
      clear h hd hm hbl
      go_wp2
      go_ret3
      exact ⟨by rw [HR.out]; rfl, rfl⟩

theorem or_key_r {c i m m' : Nat} (hi : i ≤ 9) (h9 : i = 9 → c % 128 ≤ 1) (hm : m < 2 ^ (7 * i)) (hm' : m' = m + c % 128 * 2 ^ (7 * i)) :
    bits BinOp.or IntKind.u64 (m : Int) (IntKind.u64.wrap ((c : Int) % 128 * 2 ^ (7 * i))) = (m' : Int) := by
  have := or_key hi h9 hm
  rw [show ((c % 128 : Nat) : Int) = (c : Int) % 128 by omega] at this
  rw [this, hm']

/-- behind the tenth byte there is nothing more to read -/
def DecRel2 (b : List UInt8) (nv iv : Value) : Prop := DecRel b nv iv ∨ ∃ m : Nat, nv = .int .u64 m ∧ iv = .int .i64 (10 : Nat) ∧ decR b = (0, 0, 4) ∧ 10 ≤ b.length
end Go.Proofs.YtjaemckdfoaopabDoor

/- Walks over the signed numbers of the package wire and of its reference. -/
namespace Go.Proofs.YtjaemckdfoaopabDoor
open Go.RowKit

def zig (n : Int) : Nat := if n < 0 then (-(n + 1)).toNat * 2 + 1 else n.toNat * 2
def unzig (N : Nat) : Int := if N % 2 = 1 then -((N / 2 : Nat) : Int) - 1 else ((N / 2 : Nat) : Int)
theorem unzig_zig (n : Int) : unzig (zig n) = n := by unfold zig unzig; split <;> (split <;> omega)
theorem zig_lt {n : Int} (h1 : -9223372036854775808 ≤ n) (h2 : n ≤ 9223372036854775807) : zig n < 18446744073709551616 := by unfold zig; split <;> omega
def intR (b : List UInt8) : Int × Nat × Nat := match decU b with | some (n, k) => (unzig n, k, 0) | none => (0, 0, 4)

theorem bits_xor_u64n (a b : Nat) (ha : a < 18446744073709551616) (hb : b < 18446744073709551616) : bits .xor .u64 (a : Int) (b : Int) = ((a ^^^ b : Nat) : Int) := by
  have h1 : ∀ a : Nat, a < 18446744073709551616 → (BitVec.ofInt 64 (a : Int)).toNat = a := fun a ha => by
    rw [BitVec.ofInt_natCast, BitVec.toNat_ofNat]; exact Nat.mod_eq_of_lt (by omega)
  have h2 := Nat.xor_lt_two_pow (n := 64) (x := a) (y := b) (by omega) (by omega)
  show IntKind.u64.wrap ((BitVec.ofInt 64 (a : Int) ^^^ BitVec.ofInt 64 (b : Int)).toNat : Int) = _
  rw [BitVec.toNat_xor, h1 a ha, h1 b hb, wrap_u64n]
  omega

theorem xor_ones (x : Int) (h0 : 0 ≤ x) (h1 : x < 18446744073709551616) : bits .xor .u64 x 18446744073709551615 = 18446744073709551615 - x := by
  obtain ⟨x, rfl⟩ := Int.eq_ofNat_of_zero_le h0
  have e1 : (BitVec.ofInt 64 (x : Int)).toNat = x := by
    rw [BitVec.ofInt_natCast, BitVec.toNat_ofNat]; exact Nat.mod_eq_of_lt (by omega)
  have e2 : BitVec.ofInt 64 (18446744073709551615 : Int) = BitVec.allOnes 64 := by decide
  show IntKind.u64.wrap ((BitVec.ofInt 64 (x : Int) ^^^ BitVec.ofInt 64 (18446744073709551615 : Int)).toNat : Int) = _
  rw [e2, BitVec.xor_allOnes, BitVec.toNat_not, e1, wrap_u64n]
  omega
theorem xor_zero (x : Int) (h0 : 0 ≤ x) (h1 : x < 18446744073709551616) : bits .xor .u64 x 0 = x := by
  obtain ⟨x, rfl⟩ := Int.eq_ofNat_of_zero_le h0
  have := bits_xor_u64n x 0 (by omega) (by omega)
  rw [Nat.xor_zero] at this
  exact this
theorem sign_key (n : Int) (h1 : -9223372036854775808 ≤ n) (h2 : n ≤ 9223372036854775807) :
    bits BinOp.xor IntKind.u64 (IntKind.u64.wrap (IntKind.u64.wrap n * 2)) (IntKind.u64.wrap (n / 9223372036854775808)) = (zig n : Int) := by
  unfold zig
  rcases Int.lt_or_le n 0 with h | h
  · have e1 : n / 9223372036854775808 = -1 := by omega
    have e2 : IntKind.u64.wrap (IntKind.u64.wrap n * 2) = 2 * n + 18446744073709551616 := by rw [wrap_u64n, wrap_u64n]; omega
    have e3 : IntKind.u64.wrap (-1) = 18446744073709551615 := by rw [wrap_u64n]; omega
    rw [e1, e2, e3, xor_ones _ (by omega) (by omega), if_pos h]
    omega
  · have e1 : n / 9223372036854775808 = 0 := by omega
    have e2 : IntKind.u64.wrap (IntKind.u64.wrap n * 2) = 2 * n := by rw [wrap_u64n, wrap_u64n]; omega
    have e3 : IntKind.u64.wrap 0 = 0 := by rw [wrap_u64n]; omega
    rw [e1, e2, e3, xor_zero _ (by omega) (by omega), if_neg (by omega)]
    omega

set_option maxRecDepth 100000 in
set_option maxHeartbeats 1000000 in
theorem signless_p (n : Int) (w : World) (h1 : -9223372036854775808 ≤ n) (h2 : n ≤ 9223372036854775807) :
    Calls Tryd.prog 40 #[.int .i64 n] w fun e w' => e = .returned (.int .u64 (zig n)) ∧ w = w' := by
  go_enter Tryd.func40, Tryd.ntmps40
  go_wp2
  go_ret
  exact ⟨by rw [← sign_key n h1 h2]; rfl, rfl⟩

set_option maxRecDepth 100000 in
set_option maxHeartbeats 1000000 in
theorem appint_p (a : Option Addr) (n cap : Nat) (b : List UInt8) (N : Int) (w : World) (h : Sl 1 encB w a n b) (hn : n ≤ 200000) (hnil : a = none → cap = 0) (h1 : -9223372036854775808 ≤ N) (h2 : N ≤ 9223372036854775807) :
    Calls Tryd.prog 26 #[.slice a n cap, .int .i64 N] w (BytesPost (b ++ encU (zig N)) w) := by
  have HZ := Lib.hid (zig_lt h1 h2)
  have HS := Lib.hid (signless_p N w h1 h2)
  clear h1 h2
  go_enter Tryd.func26, Tryd.ntmps26
  go_wp2_with fail
  refine HS.out.mono ?_
  rintro e w1 ⟨rfl, rfl⟩
  go_wp2_with fail
  refine (appuint_p _ _ _ _ _ _ h hn hnil HZ.out).mono ?_
  rintro e w1 ⟨v, rfl, hown, hc⟩
  go_wp2_with fail
  go_ret
  exact ⟨_, rfl, hown, hc⟩

theorem wrap_i64n (n : Int) : IntKind.i64.wrap n = wrap64 n := by rw [IntKind.wrap_i64]; unfold wrap64; rfl
theorem xor_ones_i (x : Int) (h0 : 0 ≤ x) (h1 : x < 9223372036854775808) : bits .xor .i64 x (-1) = -x - 1 := by
  obtain ⟨x, rfl⟩ := Int.eq_ofNat_of_zero_le h0
  have e1 : (BitVec.ofInt 64 (x : Int)).toNat = x := by
    rw [BitVec.ofInt_natCast, BitVec.toNat_ofNat]; exact Nat.mod_eq_of_lt (by omega)
  have e2 : BitVec.ofInt 64 (-1 : Int) = BitVec.allOnes 64 := by decide
  show IntKind.i64.wrap ((BitVec.ofInt 64 (x : Int) ^^^ BitVec.ofInt 64 (-1 : Int)).toNat : Int) = _
  rw [e2, BitVec.xor_allOnes, BitVec.toNat_not, e1, wrap_i64n]
  unfold wrap64
  omega
theorem xor_zero_i (x : Int) (h0 : 0 ≤ x) (h1 : x < 9223372036854775808) : bits .xor .i64 x 0 = x := by
  obtain ⟨x, rfl⟩ := Int.eq_ofNat_of_zero_le h0
  have e1 : (BitVec.ofInt 64 (x : Int)).toNat = x := by
    rw [BitVec.ofInt_natCast, BitVec.toNat_ofNat]; exact Nat.mod_eq_of_lt (by omega)
  show IntKind.i64.wrap ((BitVec.ofInt 64 (x : Int) ^^^ BitVec.ofInt 64 (0 : Int)).toNat : Int) = _
  rw [show BitVec.ofInt 64 (0 : Int) = 0#64 by decide, BitVec.xor_zero, e1, wrap_i64n]
  unfold wrap64
  omega
theorem bits_and1 (N : Nat) (h : N < 18446744073709551616) : bits BinOp.and IntKind.u64 (N : Int) 1 = ((N % 2 : Nat) : Int) := by
  have h1 : (BitVec.ofInt 64 (N : Int)).toNat = N := by
    rw [BitVec.ofInt_natCast, BitVec.toNat_ofNat]; exact Nat.mod_eq_of_lt (by omega)
  have h2 : (BitVec.ofInt 64 (1 : Int)).toNat = 1 := by decide
  show IntKind.u64.wrap ((BitVec.ofInt 64 (N : Int) &&& BitVec.ofInt 64 (1 : Int)).toNat : Int) = _
  rw [BitVec.toNat_and, h1, h2, wrap_u64n, Nat.and_one_is_mod]
  omega
theorem int_key (N : Nat) (h : N < 18446744073709551616) : bits BinOp.xor IntKind.i64 (wrap64 ((N : Int) / 2)) (wrap64 (-wrap64 (bits BinOp.and IntKind.u64 (N : Int) 1))) = unzig N := by
  rw [bits_and1 N h]
  have e1 : wrap64 ((N : Int) / 2) = ((N / 2 : Nat) : Int) := by unfold wrap64; omega
  rw [e1]
  unfold unzig
  by_cases hz : N % 2 = 1
  · rw [if_pos hz, hz, show wrap64 (-wrap64 ((1 : Nat) : Int)) = -1 by unfold wrap64; omega, xor_ones_i _ (by omega) (by omega)]
  · rw [if_neg hz, show N % 2 = 0 by omega, show wrap64 (-wrap64 ((0 : Nat) : Int)) = 0 by unfold wrap64; omega, xor_zero_i _ (by omega) (by omega)]
theorem int_of_dec (b : List UInt8) : bits BinOp.xor IntKind.i64 (wrap64 (((decR b).1 : Int) / 2)) (wrap64 (-wrap64 (bits BinOp.and IntKind.u64 ((decR b).1 : Int) 1))) = (intR b).1 ∧ (intR b).2 = (decR b).2 := by
  unfold decR intR
  cases hd : decU b with
  | none => exact ⟨int_key 0 (by omega), rfl⟩
  | some r =>
    obtain ⟨N, K⟩ := r
    obtain ⟨l1, l2⟩ := decU_lt hd
    exact ⟨int_key N l1, rfl⟩

set_option maxRecDepth 100000 in
set_option maxHeartbeats 1000000 in
theorem int_p (a : Option Addr) (n cap : Nat) (b : List UInt8) (w : World) (h : Sl 1 encB w a n b) (hn : n ≤ 9223372036854775807) :
    Calls Tryd.prog 41 #[.slice a n cap] w fun e w' => e = .returned (.tuple #[.int .i64 (intR b).1, .int .i64 (intR b).2.1, .int .i64 (intR b).2.2]) ∧ w = w' := by
  go_enter Tryd.func41, Tryd.ntmps41
  go_wp2_with fail
  refine (uint_p _ _ _ _ _ h hn).mono ?_
  rintro e w1 ⟨rfl, rfl⟩
  go_wp2_with fail
  go_ret3
  obtain ⟨k1, k2⟩ := int_of_dec b
  exact ⟨by rw [← k1, k2]; rfl, rfl⟩

end Go.Proofs.YtjaemckdfoaopabDoor

/- Walks over the strings of the package wire. -/
namespace Go.Proofs.YtjaemckdfoaopabDoor
open Go.RowKit

/-- some bytes as a string -/
def strB (l : List UInt8) : ByteArray := ⟨l.toArray⟩
theorem foldl_push : ∀ (l : List Int) (ns : List UInt8) (s : ByteArray), l = ns.map (fun c => (c.toNat : Int)) → l.foldl (fun r n => r.push (UInt8.ofNat n.toNat)) s = ⟨s.data ++ ns.toArray⟩
  | [], [], s, _ => by simp
  | x :: l, c :: ns, s, h => by
    simp only [List.map_cons, List.cons.injEq] at h
    obtain ⟨rfl, h⟩ := h
    rw [List.foldl_cons, foldl_push l ns _ h]
    simp [ByteArray.push]
  | [], c :: ns, s, h => by simp at h
  | x :: l, [], s, h => by simp at h
theorem run_str {P : Program} {src dst e : TypeId} (hs : P.underlying src = some (.slice e)) (he : P.underlying e = some (.int .u8)) (hd : P.underlying dst = some .string)
    {w : World} {a : Option Addr} {n cap : Nat} {b : List UInt8} (h : Sl 1 encB w a n b) : (convert src dst (.slice a n cap)).run P w = .ok (.string (strB b)) w := by
  rw [run_convert_bytes_string w src dst e a n cap hs he hd]
  cases a with
  | none =>
    have hn : n = 0 := by
      rcases h.2 with h0 | ⟨x, o, e1, _⟩
      · exact h0
      · cases e1
    have hb : b = [] := List.eq_nil_of_length_eq_zero (h.1.trans hn)
    subst hb
    simp [Conv.bytesToString, strB, Sem.run_pure]
    rfl
  | some ad =>
    have hl : (loadCells ad n).run P w = .ok ((b.map (fun x => (x.toNat : Int))).map (Value.int .u8)).toArray w := by
      have := run_loadCells_list (P := P) w ad ((b.map (fun x => (x.toNat : Int))).map (Value.int .u8)) (fun j v hv => by
        rcases h.2 with h0 | ⟨x, o, e1, _, e3⟩
        · have hb : b = [] := List.eq_nil_of_length_eq_zero (h.1.trans h0)
          subst hb
          simp at hv
        · cases e1
          rw [List.getElem?_map, List.getElem?_map] at hv
          cases hb : b[j]? with
          | none => rw [hb] at hv; simp at hv
          | some y =>
            rw [hb] at hv
            simp at hv
            subst hv
            rw [Addr.add_lit]
            simpa using e3 j y hb 0 _ rfl)
      simp only [List.length_map] at this
      rw [h.1] at this
      exact this
    rw [run_bytesToString w ad n cap (b.map (fun x => (x.toNat : Int))) hl, foldl_push _ b _ rfl]
    simp [strB]

def bytesOf (s : ByteArray) : List UInt8 := s.data.toList
theorem strB_bytes (s : ByteArray) : strB (bytesOf s) = s := by simp [strB, bytesOf]
theorem bytes_str (l : List UInt8) : bytesOf (strB l) = l := rfl
theorem bytesOf_length (s : ByteArray) : (bytesOf s).length = s.size := by unfold bytesOf; rw [Array.length_toList]; rfl
theorem strCells_eq (s : ByteArray) : Lib.strCells s = (bytesOf s).flatMap encB := by
  unfold Lib.strCells bytesOf
  induction s.data.toList with
  | nil => rfl
  | cons c r ih => rw [List.map_cons, List.flatMap_cons, ih]; rfl

/-- append of a string -/
theorem wpList_append_string {P : Program} {ops : Array Oper} {rest : List Oper} {o : Oper} {a : Act} {Q : Exit → Act → World → Prop} (w0 : World) (hgd : o.guard = none) (s x : Operand) (t u : TypeId)
    (ho : o.op = .call { callee := .builtin .append, args := #[s, x], argTypes := #[t, u] })
    (base : Nat) (e : TypeId) (ht : P.underlying t = some (.slice e)) (hu : P.underlying u = some .string) (hi : (P.info? e).map (fun i => (i.zero, i.size, i.bytes)) = some (some (.int .u8 0), 1, 1))
    (v : Value) (l : List UInt8) (hown : OwnL 1 encB e base w0 v l) (hs : a.eval s = v) (str : ByteArray)
    (hx : a.eval x = .string str) (hl : l.length ≤ 1000000) (hn : str.size ≤ 1000000) (hbase : base ≤ w0.heap.size)
    (h : ∀ v' w', OwnL 1 encB e base w' v' (l ++ bytesOf str) → Chg (fun k => k < w0.heap.size ∧ ¬ v.ownBlock = some k) w0 w' → Chg (· < base) w0 w' → wpList P ops Q rest (a.put o.dst v') w') :
    wpList P ops Q (o :: rest) a w0 := by
  obtain ⟨i, hi, hz0, hz1, hz2⟩ := info_parts hi
  refine Lib.wpList_append_own_string w0 hgd s x t u ho base e i ht hu hi hz0 hz1 hz2 v l.length (l.flatMap encB) hs hown str hx (by unfold maxLen; omega) (by omega) hbase ?_
  intro v' w' hown' hgrow _
  have hch : Chg (fun k => k < w0.heap.size ∧ ¬ v.ownBlock = some k) w0 w' := ⟨hgrow.os, hgrow.tape, hgrow.output, hgrow.size, fun k hk => hgrow.block k hk.1 (fun h => hk.2 h.symm)⟩
  refine h v' w' ?_ hch (hch.mono fun k hk => ⟨by omega, fun hv => ?_⟩)
  · unfold OwnL
    rw [strCells_eq] at hown'
    simpa [List.flatMap_append, bytesOf_length] using hown'
  · have := hown.lt k hv
    omega

def encStr (s : ByteArray) : List UInt8 := encU s.size ++ bytesOf s
theorem encStr_length (s : ByteArray) : (encStr s).length = (encU s.size).length + s.size := by unfold encStr; rw [List.length_append, bytesOf_length]
theorem wrap64_bd (n : Nat) : -9223372036854775808 ≤ wrap64 (n : Int) ∧ wrap64 (n : Int) ≤ 9223372036854775807 := by unfold wrap64; omega
set_option maxRecDepth 100000 in
set_option maxHeartbeats 1000000 in
theorem appstr_p (a : Option Addr) (n cap : Nat) (b : List UInt8) (s : ByteArray) (w : World) (h : Sl 1 encB w a n b) (hn : n ≤ 200000) (hnil : a = none → cap = 0) (hs : s.size ≤ 200000) :
    Calls Tryd.prog 25 #[.slice a n cap, .string s] w (BytesPost (b ++ encStr s) w) := by
  have HBL := Lib.hid h.len
  have e1 : IntKind.u64.wrap (s.size : Int) = (s.size : Int) := by rw [wrap_u64n]; omega
  have hN : s.size < 18446744073709551616 := by omega
  have HN := Lib.hid hN
  clear hN
  go_enter Tryd.func25, Tryd.ntmps25
  go_wp2_with fail
  refine (appuint_p _ _ _ _ _ _ h hn hnil HN.out).mono ?_
  rintro e w1 ⟨v, rfl, hown, hc⟩
  have hz := hc.size
  have hl : (b ++ encU s.size).length ≤ 200010 := by
    have := encU_length s.size
    have := HBL.out
    simp; omega
  clear h
  go_wp2_with (at_builtin; go_loud (refine wpList_append_string w1 rfl _ _ 23 9 rfl w.heap.size 5 Tryd.underlying23 Tryd.underlying9 Tryd.infoB _ _ hown rfl s rfl (by omega) (by omega) (by omega) ?_); intro v' w3 hown3 _ hch3)
  go_ret
  exact ⟨_, rfl, by unfold encStr; rw [← List.append_assoc]; exact hown3, Chg.trans hc hch3⟩

def strR (b : List UInt8) (lim : Int) : ByteArray × Int × Int :=
  match decU b with
  | none => (ByteArray.empty, 0, 4)
  | some (N, K) => if lim < 0 ∨ lim < (N : Int) then (ByteArray.empty, 0, 3) else if b.length - K < N then (ByteArray.empty, 0, 4) else (strB ((b.drop K).take N), (K : Int) + N, 0)

set_option maxRecDepth 100000 in
set_option maxHeartbeats 1000000 in
theorem string_p (a : Option Addr) (n cap : Nat) (b : List UInt8) (lim : Int) (w : World) (h : Sl 1 encB w a n b) (hn : n ≤ 9223372036854775807) (hcap : n ≤ cap) (hcap2 : cap ≤ maxLen) (hl1 : lim ≤ 9223372036854775807) :
    Calls Tryd.prog 32 #[.slice a n cap, .int .i64 lim] w fun e w' => e = .returned (.tuple #[.string (strR b lim).1, .int .i64 (strR b lim).2.1, .int .i64 (strR b lim).2.2]) ∧ w = w' := by
  unfold maxLen at hcap2
  have HBL := Lib.hid h.len
  go_enter Tryd.func32, Tryd.ntmps32
  go_wp2_with fail
  refine (uint_p _ _ _ _ _ h hn).mono ?_
  rintro e w1 ⟨rfl, rfl⟩
  cases hd : decU b with
  | none =>
    have h1 : Hid (strR b lim = (ByteArray.empty, 0, 4)) := by show strR b lim = _; unfold strR; rw [hd]
    have h2 : decR b = (0, 0, 4) := by unfold decR; rw [hd]; rfl
    rw [h2]
    clear hd h2 h
    go_wp2_with fail
    go_ret3
    exact ⟨by rw [h1.out]; rfl, rfl⟩
  | some r =>
    obtain ⟨N, K⟩ := r
    have l3 := decU_take hd
    obtain ⟨l1, l2⟩ := decU_lt hd
    have h2 : decR b = (N, K, 0) := by unfold decR; rw [hd]; rfl
    rw [h2]
    have hbl := HBL.out
    by_cases hb1 : lim < 0 ∨ lim < (N : Int)
    · have h1 : Hid (strR b lim = (ByteArray.empty, 0, 3)) := by show strR b lim = _; unfold strR; rw [hd]; simp only []; rw [if_pos hb1]
      clear hd h2 h hbl
      by_cases hl : lim < 0
      · have d1 : decide (lim < 0) = true := by simp; omega
        clear hb1 l1
        go_wp2_with fail
        go_ret3
        exact ⟨by rw [h1.out]; rfl, rfl⟩
      · have d1 : decide (lim < 0) = false := by simp; omega
        have e1 : IntKind.u64.wrap lim = lim := by rw [wrap_u64n]; omega
        have d2 : decide (lim < (N : Int)) = true := by simp; omega
        clear hb1 hl l1
        go_wp2_with fail
        go_ret3
        exact ⟨by rw [h1.out]; rfl, rfl⟩
    · have d1 : decide (lim < 0) = false := by simp; omega
      have e1 : IntKind.u64.wrap lim = lim := by rw [wrap_u64n]; omega
      have d2 : decide (lim < (N : Int)) = false := by simp; omega
      have e2 : IntKind.u64.wrap ((n : Int) - (K : Int)) = (n : Int) - (K : Int) := by rw [wrap_u64n]; omega
      have k1 : (K : Int) ≤ (n : Int) := by omega
      by_cases hb2 : b.length - K < N
      · have h1 : Hid (strR b lim = (ByteArray.empty, 0, 4)) := by show strR b lim = _; unfold strR; rw [hd]; simp only []; rw [if_neg hb1, if_pos hb2]
        have d3 : decide ((n : Int) - (K : Int) < (N : Int)) = true := by simp; omega
        clear hd h2 h hbl hb1 hb2 l1
        go_wp2_with fail
        go_ret3
        exact ⟨by rw [h1.out]; rfl, rfl⟩
      · have h1 : Hid (strR b lim = (strB ((b.drop K).take N), (K : Int) + N, 0)) := by show strR b lim = _; unfold strR; rw [hd]; simp only []; rw [if_neg hb1, if_neg hb2]
        have d3 : decide ((n : Int) - (K : Int) < (N : Int)) = false := by simp; omega
        have k2 : N ≤ 9223372036854775807 := by omega
        have k3 : K + N ≤ n := by omega
        have e3 : wrap64 (N : Int) = (N : Int) := by unfold wrap64; omega
        obtain ⟨x, o, y, rfl, _⟩ := h.at (j := 0) (by omega)
        have hs2 : Sl 1 encB w (some ⟨x, o + K, none⟩) N ((b.drop K).take N) := by
          have := (h.drop (m := K) (by omega)).take (m := N) (by omega)
          simpa using this
        by_cases hcK : cap = K
        · have hs3 : Sl 1 encB w (some ⟨x, o, none⟩) N ((b.drop K).take N) := ⟨hs2.1, .inl (by omega)⟩
          have hr := run_str (P := Tryd.prog) (cap := 0) Tryd.underlying23 Tryd.underlying5 Tryd.underlying9 hs3
          subst hcK
          clear hd h2 h hbl hb1 hb2 l1 hs2 hs3
          go_wp2_with fail
          go_ret3
          exact ⟨by rw [h1.out]; rfl, rfl⟩
        · have hr := run_str (P := Tryd.prog) (cap := cap - K) Tryd.underlying23 Tryd.underlying5 Tryd.underlying9 hs2
          clear hd h2 h hbl hb1 hb2 l1 hs2
          go_wp2_with fail
          go_ret3
          exact ⟨by rw [h1.out]; rfl, rfl⟩
end Go.Proofs.YtjaemckdfoaopabDoor

/- Walks over the strings of the reference of the package wire. -/
namespace Go.Proofs.YtjaemckdfoaopabDoor
open Go.RowKit

end Go.Proofs.YtjaemckdfoaopabDoor

/- A condition that is laid anew in a region that draws its order. -/
namespace Go.Proofs.YtjaemckdfoaopabDoor
open Go.RowKit

/-- one may go on under a condition that gives the first one -/
theorem wpAnyH_switch {P : Program} {md : Region.Mode} {ops : Array Oper} {Q : Exit → Act → World → Prop} {S S' : World → Prop} (hS : ∀ w, S' w → S w) :
    ∀ {fuel : Nat} {listed : Array Bool} {a : Act} {w : World}, wpAnyH P md ops Q S' fuel listed a w → wpAnyH P md ops Q S fuel listed a w
  | 0, _, _, _, h => h
  | fuel + 1, _, _, _, h => ⟨h.1, fun i hi => wpOp_mono (fun a' w' h' => ⟨hS w' h'.1, wpAnyH_switch hS h'.2⟩) (h.2 i hi)⟩

end Go.Proofs.YtjaemckdfoaopabDoor

/- Bytes of the call's own as strings; a condition that is laid anew in a region that draws its order. -/
namespace Go.Proofs.YtjaemckdfoaopabDoor
open Go.RowKit

theorem run_own {w0 w : World} {v : Value} {l : List UInt8} (h : OwnL 1 encB 5 w0.heap.size w v l) :
    ∃ a n cap, v = .slice a n cap ∧ Slf 1 encB w0 w a n l ∧ (convert 23 9 (.slice a n cap)).run Tryd.prog w = .ok (.string (strB l)) w := by
  obtain ⟨a, cap, rfl, h1, _⟩ := h.slf (fun _ => rfl)
  exact ⟨a, _, cap, rfl, h1, run_str Tryd.underlying23 Tryd.underlying5 Tryd.underlying9 h1.sl⟩
theorem run_later {w0 w w' : World} {a : Option Addr} {n cap : Nat} {l : List UInt8} (h : Slf 1 encB w0 w a n l) (k : Ex w w') :
    (convert 23 9 (.slice a n cap)).run Tryd.prog w' = .ok (.string (strB l)) w' :=
  run_str Tryd.underlying23 Tryd.underlying5 Tryd.underlying9 (h.nx k).sl

end Go.Proofs.YtjaemckdfoaopabDoor

/- Words: the common beginning of two numbers, by their bits. -/
namespace Go.Proofs.YtjaemckdfoaopabDoor
open Go.RowKit

theorem wrap_u32n (n : Int) : IntKind.u32.wrap n = n % 4294967296 := by simp [IntKind.wrap, IntKind.signed, IntKind.bits]
theorem bits_u32 (op : BinOp) (f : Nat → Nat → Nat) (hf : ∀ a b : Nat, a < 4294967296 → b < 4294967296 → f a b < 4294967296)
    (hop : ∀ x y : Int, bits op .u32 x y = IntKind.u32.wrap ((f (BitVec.ofInt 32 x).toNat (BitVec.ofInt 32 y).toNat : Nat) : Int)) (a b : Nat) (ha : a < 4294967296) (hb : b < 4294967296) : bits op .u32 (a : Int) (b : Int) = ((f a b : Nat) : Int) := by
  have h1 : (BitVec.ofInt 32 (a : Int)).toNat = a := by
    rw [BitVec.ofInt_natCast, BitVec.toNat_ofNat]; exact Nat.mod_eq_of_lt (by omega)
  have h2 : (BitVec.ofInt 32 (b : Int)).toNat = b := by
    rw [BitVec.ofInt_natCast, BitVec.toNat_ofNat]; exact Nat.mod_eq_of_lt (by omega)
  have := hf a b ha hb
  rw [hop, h1, h2, wrap_u32n]
  omega
theorem bits_and_u32n (a b : Nat) (ha : a < 4294967296) (hb : b < 4294967296) : bits .and .u32 (a : Int) (b : Int) = ((a &&& b : Nat) : Int) :=
  bits_u32 .and (· &&& ·) (fun a b ha _ => Nat.and_lt_two_pow (n := 32) _ (by omega)) (fun x y => by
    show IntKind.u32.wrap ((BitVec.ofInt 32 x &&& BitVec.ofInt 32 y).toNat : Int) = _
    rw [BitVec.toNat_and]) a b ha hb
theorem bits_xor_u32n (a b : Nat) (ha : a < 4294967296) (hb : b < 4294967296) : bits .xor .u32 (a : Int) (b : Int) = ((a ^^^ b : Nat) : Int) :=
  bits_u32 .xor (· ^^^ ·) (fun a b ha hb => Nat.xor_lt_two_pow (n := 32) (by omega) (by omega)) (fun x y => by
    show IntKind.u32.wrap ((BitVec.ofInt 32 x ^^^ BitVec.ofInt 32 y).toNat : Int) = _
    rw [BitVec.toNat_xor]) a b ha hb

theorem tz32_keyn (x a : Nat) (hx : x < 4294967296) (hx0 : x ≠ 0) (hlow : x &&& (4294967296 - x) = a) :
    bits BinOp.and IntKind.u32 (x : Int) (-(x : Int) % 4294967296) * 125613361 % 4294967296 / 134217728 = ((a * 125613361 % 4294967296 / 134217728 : Nat) : Int) := by
  have e1 : -(x : Int) % 4294967296 = ((4294967296 - x : Nat) : Int) := by omega
  rw [e1, bits_and_u32n x _ hx (by omega), hlow]
  omega

def commonN (a b : Nat) : Nat := min (Lib.ctz 32 (a ^^^ b)) 16
theorem commonN_le (a b : Nat) : commonN a b ≤ 16 := Nat.min_le_right _ _
theorem commonN_comm (a b : Nat) : commonN a b = commonN b a := by unfold commonN; rw [Nat.xor_comm]
theorem xor_lt {a b : Nat} (ha : a < 4294967296) (hb : b < 4294967296) : a ^^^ b < 4294967296 := Nat.xor_lt_two_pow (n := 32) (by omega) (by omega)
theorem testBit_pow_mul (k m i : Nat) : (2 ^ k * (2 * m + 1)).testBit i = (decide (k ≤ i) && (2 * m + 1).testBit (i - k)) := by
  rw [Nat.testBit_two_pow_mul]
theorem common_lt {a b i : Nat} (ha : a < 4294967296) (hb : b < 4294967296) (hi : i < commonN a b) : a.testBit i = b.testBit i := by
  have hx := xor_lt ha hb
  by_cases h0 : a ^^^ b = 0
  · have : (a ^^^ b).testBit i = false := by rw [h0]; simp
    rw [Nat.testBit_xor] at this
    simpa using this
  · obtain ⟨m, hm, hk⟩ := Lib.ctzFrom_spec 32 (a ^^^ b) (by omega) hx
    have hc : Lib.ctz 32 (a ^^^ b) = Lib.ctzFrom 32 (a ^^^ b) := by unfold Lib.ctz; rw [if_neg h0]
    have hi' : i < Lib.ctzFrom 32 (a ^^^ b) := by rw [← hc]; exact Nat.lt_of_lt_of_le hi (Nat.min_le_left _ _)
    have ht : (a ^^^ b).testBit i = false := by
      rw [hm, testBit_pow_mul]; simp; omega
    rw [Nat.testBit_xor] at ht
    simpa using ht
theorem common_at {a b : Nat} (ha : a < 4294967296) (hb : b < 4294967296) (hi : commonN a b < 16) : a.testBit (commonN a b) ≠ b.testBit (commonN a b) := by
  have hx := xor_lt ha hb
  by_cases h0 : a ^^^ b = 0
  · unfold commonN Lib.ctz at hi
    rw [if_pos h0] at hi
    omega
  · obtain ⟨m, hm, hk⟩ := Lib.ctzFrom_spec 32 (a ^^^ b) (by omega) hx
    have hc : Lib.ctz 32 (a ^^^ b) = Lib.ctzFrom 32 (a ^^^ b) := by unfold Lib.ctz; rw [if_neg h0]
    have hcc : commonN a b = Lib.ctzFrom 32 (a ^^^ b) := by
      unfold commonN at hi ⊢
      omega
    have ht : (a ^^^ b).testBit (commonN a b) = true := by
      rw [hcc]
      conv => lhs; arg 1; rw [hm]
      rw [testBit_pow_mul]; simp
    rw [Nat.testBit_xor] at ht
    intro he
    rw [he] at ht
    simp at ht
/-- the least place of the first 16 at which two words differ, or 16 -/
theorem common_unique {a b c : Nat} (ha : a < 4294967296) (hb : b < 4294967296) (hc : c ≤ 16) (h1 : ∀ i, i < c → a.testBit i = b.testBit i) (h2 : c < 16 → a.testBit c ≠ b.testBit c) : c = commonN a b := by
  rcases Nat.lt_trichotomy c (commonN a b) with h | h | h
  · exact absurd (common_lt ha hb h) (h2 (by have := commonN_le a b; omega))
  · exact h
  · exact absurd (h1 _ h) (common_at ha hb (by omega))
theorem common_self (a : Nat) : commonN a a = 16 := by unfold commonN; simp [Lib.ctz]
theorem common_min {a b c : Nat} (ha : a < 4294967296) (hb : b < 4294967296) (hc : c < 4294967296) : min (commonN a b) (commonN b c) ≤ commonN a c := by
  rcases Nat.lt_or_ge (commonN a c) (min (commonN a b) (commonN b c)) with h | h
  · have h1 := common_lt ha hb (i := commonN a c) (by omega)
    have h2 := common_lt hb hc (i := commonN a c) (by omega)
    exact absurd (h1.trans h2) (common_at ha hc (by have := commonN_le a b; omega))
  · exact h
def bitN (a : Nat) (i : Int) : Nat := if i < 0 ∨ 16 ≤ i then 0 else a / 2 ^ i.toNat % 2
theorem bitN_of (a i : Nat) (hi : i < 16) : bitN a i = a / 2 ^ i % 2 := by unfold bitN; rw [if_neg (by omega)]; simp
theorem testBit_of (a i : Nat) : a.testBit i = decide (a / 2 ^ i % 2 = 1) := by
  rw [Nat.testBit_eq_decide_div_mod_eq]
theorem bit_eq_iff (a b i : Nat) : a.testBit i = b.testBit i ↔ a / 2 ^ i % 2 = b / 2 ^ i % 2 := by
  rw [testBit_of, testBit_of]
  have h1 := Nat.mod_lt (a / 2 ^ i) (show 2 > 0 by omega)
  have h2 := Nat.mod_lt (b / 2 ^ i) (show 2 > 0 by omega)
  constructor
  · intro h
    by_cases h3 : a / 2 ^ i % 2 = 1
    · have : b / 2 ^ i % 2 = 1 := by simpa [h3] using h.symm
      omega
    · have : ¬ b / 2 ^ i % 2 = 1 := by simpa [h3] using h.symm
      omega
  · intro h; rw [h]
theorem bit_key (a : Nat) (i : Int) (ha : a < 4294967296) (h0 : 0 ≤ i) (h1 : i < 16) : wrap64 (bits BinOp.and IntKind.u32 ((a : Int) / 2 ^ i.toNat) 1) = (bitN a i : Int) := by
  have e1 : ((a : Int) / 2 ^ i.toNat) = ((a / 2 ^ i.toNat : Nat) : Int) := by simp
  have hle : a / 2 ^ i.toNat ≤ a := Nat.div_le_self _ _
  have := bits_and_u32n (a / 2 ^ i.toNat) 1 (by omega) (by omega)
  rw [e1]
  rw [show ((1 : Nat) : Int) = 1 from rfl] at this
  rw [this, Nat.and_one_is_mod]
  unfold bitN
  rw [if_neg (by omega)]
  have := Nat.mod_lt (a / 2 ^ i.toNat) (show 2 > 0 by omega)
  generalize a / 2 ^ i.toNat % 2 = m at *
  unfold wrap64
  omega
theorem bit_zero (a : Nat) (i : Int) (h : i < 0 ∨ 16 ≤ i) : (bitN a i : Int) = 0 := by unfold bitN; rw [if_pos h]; rfl
theorem bitN_lt (a : Nat) (i : Int) : bitN a i < 2 := by unfold bitN; split <;> omega
end Go.Proofs.YtjaemckdfoaopabDoor

/- Walks over the reference of words. -/
namespace Go.Proofs.YtjaemckdfoaopabDoor
open Go.RowKit

set_option maxHeartbeats 1000000 in
theorem bit_r (a : Nat) (i : Int) (w : World) (ha : a < 4294967296) (hi1 : -9223372036854775808 ≤ i) (hi2 : i ≤ 9223372036854775807) :
    Calls Tryd.prog 50 #[.int .u32 a, .int .i64 i] w fun e w' => e = .returned (.int .i64 (bitN a i)) ∧ w = w' := by
  by_cases hi : i < 0 ∨ 16 ≤ i
  · have hz := Lib.hid (bit_zero a i hi)
    rcases Int.lt_or_le i 0 with h | h
    · have d1 : decide (i < 0) = true := by simpa using h
      clear hi
      go_enter Tryd.func50, Tryd.ntmps50
      go_wp2
      go_ret
      exact ⟨by rw [hz.out]; rfl, rfl⟩
    · have d1 : decide (i < 0) = false := by simpa using h
      have d2 : decide (16 ≤ i) = true := by simp; omega
      clear hi
      go_enter Tryd.func50, Tryd.ntmps50
      go_wp2
      go_ret
      exact ⟨by rw [hz.out]; rfl, rfl⟩
  · have hk := Lib.hid (bit_key a i ha (by omega) (by omega))
    have d1 : decide (i < 0) = false := by simp; omega
    have d2 : decide (16 ≤ i) = false := by simp; omega
    have e1 : 0 ≤ i := by omega
    have e2 : i < 16 := by omega
    clear hi
    go_enter Tryd.func50, Tryd.ntmps50
    go_wp2
    go_ret
    exact ⟨by rw [← hk.out]; rfl, rfl⟩

theorem bitN_nat (a k : Nat) : bitN a (k : Int) = if 16 ≤ k then 0 else a / 2 ^ k % 2 := by
  unfold bitN
  by_cases h : 16 ≤ k
  · rw [if_pos (by omega), if_pos h]
  · rw [if_neg (by omega), if_neg h]; simp

set_option maxHeartbeats 1000000 in
theorem common_r (a b : Nat) (w : World) (ha : a < 4294967296) (hb : b < 4294967296) :
    Calls Tryd.prog 49 #[.int .u32 a, .int .u32 b] w fun e w' => e = .returned (.int .i64 (commonN a b)) ∧ w = w' := by
  go_enter Tryd.func49, Tryd.ntmps49
  go_wp2
  go_loop [5] (fun i => ∃ k : Nat, k ≤ 16 ∧ i = .int .i64 k ∧ ∀ i, i < k → a.testBit i = b.testBit i) (fun i => 16 - (intOf i).toNat)
  case atStart => exact ⟨0, by omega, rfl, by omega⟩
  case round =>
    obtain ⟨k, hk, rfl, hbits⟩ := hrel
    have Hb := Lib.hid hbits
    clear hbits
    by_cases hlt : k < 16
    · by_cases heq : a.testBit k = b.testBit k
      · have H2 : Hid (bitN a (k : Int) = bitN b (k : Int)) := by
          show bitN a (k : Int) = bitN b (k : Int)
          rw [bitN_nat, bitN_nat, if_neg (by omega), if_neg (by omega)]
          exact (bit_eq_iff a b k).1 heq
        have Heq := Lib.hid heq
        clear heq
        go_wp2_with fail
        refine (bit_r _ _ _ ha (by omega) (by omega)).mono ?_
        rintro e w1 ⟨rfl, rfl⟩
        go_wp2_with fail
        refine (bit_r _ _ _ hb (by omega) (by omega)).mono ?_
        rintro e w1 ⟨rfl, rfl⟩
        rw [H2.out]
        go_wp2_with fail
        go_round
        case rel => exact ⟨k + 1, by omega, by go_num, fun i hi => by
          by_cases h : i = k
          · subst h; exact Heq.out
          · exact Hb.out i (by omega)⟩
        case measure => simp [intOf]; omega
      · have H2 : ((bitN a (k : Int) : Int) == (bitN b (k : Int) : Int)) = false := by
          rw [bitN_nat, bitN_nat, if_neg (by omega), if_neg (by omega)]
          have hne : ¬ a / 2 ^ k % 2 = b / 2 ^ k % 2 := fun h => heq ((bit_eq_iff a b k).2 h)
          generalize a / 2 ^ k % 2 = x at *
          generalize b / 2 ^ k % 2 = y at *
          exact beq_eq_false_iff_ne.2 (by omega)
        have HC : Hid (commonN a b = k) := (common_unique ha hb (by omega) Hb.out (fun _ => heq)).symm
        clear heq
        go_wp2_with fail
        refine (bit_r _ _ _ ha (by omega) (by omega)).mono ?_
        rintro e w1 ⟨rfl, rfl⟩
        go_wp2_with fail
        refine (bit_r _ _ _ hb (by omega) (by omega)).mono ?_
        rintro e w1 ⟨rfl, rfl⟩
        go_wp2_with fail
        go_ret
        exact ⟨by rw [HC.out]; rfl, rfl⟩
    · have HC : Hid (commonN a b = k) := (common_unique ha hb (by omega) Hb.out (fun h => absurd h (by omega))).symm
      have d1 : decide ((k : Int) < 16) = false := by simp; omega
      go_wp2_with fail
      go_ret
      exact ⟨by rw [HC.out]; rfl, rfl⟩

def sameN (a b : Nat) (h : Int) : Bool := decide (h ≤ (commonN a b : Int))
set_option maxHeartbeats 1000000 in
theorem same_r (a b : Nat) (h : Int) (w : World) (ha : a < 4294967296) (hb : b < 4294967296) :
    Calls Tryd.prog 48 #[.int .u32 a, .int .u32 b, .int .i64 h] w fun e w' => e = .returned (.bool (sameN a b h)) ∧ w = w' := by
  go_enter Tryd.func48, Tryd.ntmps48
  go_wp2_with fail
  refine (common_r _ _ _ ha hb).mono ?_
  rintro e w1 ⟨rfl, rfl⟩
  go_wp2_with fail
  go_ret
  exact ⟨rfl, rfl⟩
def validN (a : Nat) : Bool := decide ((a : Int) ≤ 65535)
theorem wvalid_r (a : Nat) (w : World) : Calls Tryd.prog 43 #[.int .u32 a] w fun e w' => e = .returned (.bool (validN a)) ∧ w = w' := by
  have HV : Hid (validN a = decide ((a : Int) < 65536)) := by
    show validN a = _
    unfold validN
    rw [decide_eq_decide]
    omega
  go_enter Tryd.func43, Tryd.ntmps43
  go_wp2
  go_ret
  exact ⟨by rw [HV.out]; rfl, rfl⟩

end Go.Proofs.YtjaemckdfoaopabDoor

/- Nodes, and the walk over Group of the reference of words. -/
namespace Go.Proofs.YtjaemckdfoaopabDoor
open Go.RowKit

structure Nd where
  id : Int
  key : ByteArray
  word : Nat
def encN (x : Nd) : List Value := [.int .i64 x.id, .string x.key, .int .u32 x.word]
theorem Tryd.infoN : (Tryd.prog.info? 52).map (fun i => (i.zero, i.size, i.bytes)) = some (some (.agg #[.int .i64 0, .string ByteArray.empty, .int .u32 0]), 3, 32) := by kernel_rfl

/-- a list of nodes in new memory -/
def NodesPost (l : List Nd) (w : World) (e : Ending) (w' : World) : Prop :=
  ∃ (a : Option Addr) (n cap : Nat), e = .returned (.slice a n cap) ∧ Rd 3 encN (fun k => w.heap.size ≤ k ∧ k < w'.heap.size) w' a n l ∧ Chg (· < w.heap.size) w w'

def groupN (l : List Nd) (h : Int) (v : Nat) : List Nd := l.filter fun x => sameN x.word v h
theorem take_snocN {α : Type} (l : List α) (k : Nat) (y : α) (h : l[k]? = some y) : l.take (k + 1) = l.take k ++ [y] := by
  rw [List.take_add_one, h]; rfl
theorem groupN_snoc (l : List Nd) (h : Int) (v : Nat) (k : Nat) (y : Nd) (hy : l[k]? = some y) : groupN (l.take (k + 1)) h v = if sameN y.word v h then groupN (l.take k) h v ++ [y] else groupN (l.take k) h v := by
  unfold groupN
  rw [take_snocN l k y hy, List.filter_append]
  cases hs : sameN y.word v h <;> simp [hs]
theorem groupN_length (l : List Nd) (h : Int) (v : Nat) : (groupN l h v).length ≤ l.length := List.length_filter_le _ _

def GroupRel (l : List Nd) (h : Int) (v : Nat) (w : World) (o i : Value) (wr : World) : Prop :=
  ∃ k : Nat, k ≤ l.length ∧ i = .int .i64 k ∧ OwnL 3 encN 52 w.heap.size wr o (groupN (l.take k) h v) ∧ Chg (· < w.heap.size) w wr

set_option maxHeartbeats 1000000 in
theorem group_r {S : Nat → Prop} (a : Option Addr) (n cap : Nat) (l : List Nd) (h : Int) (v : Nat) (w : World) (hr : Rd 3 encN S w a n l) (hS : ∀ k, S k → k < w.heap.size) (hn : n ≤ 1000)
    (hw : ∀ x ∈ l, x.word < 4294967296) (hv : v < 4294967296) :
    Calls Tryd.prog 47 #[.slice a n cap, .int .i64 h, .int .u32 v] w (NodesPost (groupN l h v) w) := by
  have hlen := hr.1
  have HL := Lib.hid hlen
  have HW := Lib.hid hw
  clear hlen hw
  go_enter Tryd.func47, Tryd.ntmps47
  go_wp2
  go_loopw [7, 8] (fun o i wr => GroupRel l h v w o i wr) (fun _ i _ => n - (intOf i).toNat)
  case atStart => exact ⟨0, by omega, rfl, OwnL.nil _ _ _ _ _, Chg.refl _ _⟩
  case round =>
    obtain ⟨k, hk, rfl, hown, hc⟩ := hrel
    obtain ⟨wo, rfl⟩ : ∃ wo : World, wo = wr := ⟨_, rfl⟩
    have hwo := hr.chg hc hS
    have hsz := hc.size
    have hgl := groupN_length (l.take k) h v
    rw [List.length_take] at hgl
    have hkl := HL.out
    by_cases hlt' : k < n
    · by_cases h16 : h ≤ 16
      · obtain ⟨x, o, y, rfl, hx, hy, hcell⟩ := hwo.at hlt'
        have e0 : wo.cell? ⟨x, o + k * 3, none⟩ = some (.int .i64 y.id) := hcell 0 _ rfl
        have e1 : wo.cell? ⟨x, o + k * 3 + 1, none⟩ = some (.string y.key) := hcell 1 _ rfl
        have e2 : wo.cell? ⟨x, o + k * 3 + 2, none⟩ = some (.int .u32 y.word) := hcell 2 _ rfl
        have e3 : wo.cell? ⟨x, o + k * 3 + 1 + 1, none⟩ = some (.int .u32 y.word) := by simpa [Nat.add_assoc] using hcell 2 _ rfl
        have hyw := HW.out y (List.mem_of_getElem? hy)
        have Hy := Lib.hid hy
        clear hy hcell hr hwo hkl
        by_cases hs : sameN y.word v h = true
        · go_wp2_with (first
            | (go_at_call 48; refine (same_r _ _ _ _ hyw hv).mono ?_; rintro e w1 ⟨rfl, rfl⟩)
            | (at_builtin; go_loud (refine wpList_append_lit (enc := encN) wo rfl _ _ 26 rfl w.heap.size 52 (.agg #[.int .i64 0, .string ByteArray.empty, .int .u32 0]) 3 32 Tryd.underlying26 Tryd.infoN rfl (by omega) (by omega) _ _ hown rfl y _ rfl rfl (by simp [encN, Value.oneCell']) _ (by simp) rfl (by omega) (by omega) _ ?_); intro v' w3 hown3 _ hch3 hz3))
          go_roundw
          case rel => exact ⟨k + 1, by have := HL.out; omega, by go_num, by rw [groupN_snoc l h v k y Hy.out, if_pos hs]; exact hown3, hc.then hch3 (fun _ h => h)⟩
          case measure => simp [intOf]; omega
        · have hs : sameN y.word v h = false := by simpa using hs
          go_wp2_with (go_at_call 48; refine (same_r _ _ _ _ hyw hv).mono ?_; rintro e w1 ⟨rfl, rfl⟩)
          go_roundw
          case rel => exact ⟨k + 1, by have := HL.out; omega, by go_num, by rw [groupN_snoc l h v k y Hy.out, if_neg (by simp [hs])]; exact hown, hc⟩
          case measure => simp [intOf]; omega
      · have hnone : ∀ l' : List Nd, groupN l' h v = [] := fun l' => by
          unfold groupN
          rw [List.filter_eq_nil_iff]
          intro x _
          have := commonN_le x.word v
          unfold sameN
          simp; omega
        have d1 : decide (h ≤ 16) = false := by simpa using h16
        rw [hnone] at hown
        obtain ⟨a', cap', rfl, hrd, _⟩ := hown.rd (fun _ => rfl)
        have HN := Lib.hid (hnone l)
        clear hown hr hwo hnone
        go_wp2
        go_ret
        exact ⟨a', _, cap', rfl, by rw [HN.out]; exact hrd, hc⟩
    · obtain rfl : k = n := by omega
      rw [List.take_of_length_le (by omega)] at hown
      obtain ⟨a', cap', rfl, hrd, _⟩ := hown.rd (fun _ => rfl)
      clear hown hr hwo
      go_wp2
      go_ret
      exact ⟨a', _, cap', rfl, hrd, hc⟩

end Go.Proofs.YtjaemckdfoaopabDoor

/- Nodes: when two lists are equal, which lists are rosters. -/
namespace Go.Proofs.YtjaemckdfoaopabDoor
open Go.RowKit

theorem str_neN {x y : ByteArray} (h : ¬ x = y) : (x.toList == y.toList) = false := by
  rw [ByteArray.toList_eq, ByteArray.toList_eq, beq_eq_false_iff_ne]
  intro he
  exact h (ByteArray.ext (Array.toList_inj.1 he))
theorem str_eqN {x y : ByteArray} (h : x = y) : (x.toList == y.toList) = true := by subst h; simp

def NRel (n : Nat) (w : World) (i : Value) (wr : World) : Prop := ∃ k : Nat, k ≤ n ∧ i = .int .i64 k ∧ Ex w wr

theorem vkey_r (s : ByteArray) (w : World) : Calls Tryd.prog 42 #[.string s] w fun e w' => e = .returned (.bool (decide ((s.size : Int) ≤ 64))) ∧ w = w' := by
  go_enter Tryd.func42, Tryd.ntmps42
  go_wp2
  go_ret
  exact ⟨rfl, rfl⟩

/-- a node that may not be in a roster -/
def badN (x : Nd) : Bool := decide (x.id < 1) || decide (2147483647 < x.id) || !decide ((x.key.size : Int) ≤ 64) || !validN x.word
def eqN (x y : Nd) : Bool := x.id == y.id || x.key.toList == y.key.toList
def dupN (l : List Nd) : Bool := (List.range l.length).any fun (i : Nat) => (List.range i).any fun (k : Nat) => match l[i]?, l[k]? with | some x, some y => eqN x y | _, _ => false
theorem dupN_iff (l : List Nd) : dupN l = true ↔ ∃ (i k : Nat) (x y : Nd), k < i ∧ l[i]? = some x ∧ l[k]? = some y ∧ eqN x y = true := by
  unfold dupN
  simp only [List.any_eq_true, List.mem_range]
  constructor
  · rintro ⟨i, _, k, hk, h⟩
    cases hx : l[i]? with
    | none => simp [hx] at h
    | some x =>
      cases hy : l[k]? with
      | none => simp [hx, hy] at h
      | some y => exact ⟨i, k, x, y, hk, hx, hy, by simpa [hx, hy] using h⟩
  · rintro ⟨i, k, x, y, hk, hx, hy, he⟩
    exact ⟨i, (List.getElem?_eq_some_iff.1 hx).1, k, hk, by simpa [hx, hy] using he⟩
def checkN (l : List Nd) : Int := if 64 < l.length then 3 else if l.any badN then 1 else if dupN l then 5 else 0

def N2Rel (n : Nat) (l : List Nd) (w : World) (i j : Value) (wr : World) : Prop :=
  ∃ k : Nat, k ≤ n ∧ i = .int .i64 k ∧ Ex w wr ∧ ∀ i' k' x y, i' < k → k' < i' → l[i']? = some x → l[k']? = some y → eqN x y = false
def N3Rel (n : Nat) (l : List Nd) (x : Nd) (w : World) (i : Value) (wr : World) : Prop :=
  ∃ k : Nat, k ≤ n ∧ i = .int .i64 k ∧ Ex w wr ∧ ∀ k' y, k' < k → l[k']? = some y → eqN x y = false
def N1Rel (n : Nat) (l : List Nd) (w : World) (i : Value) (wr : World) : Prop :=
  ∃ k : Nat, k ≤ n ∧ i = .int .i64 k ∧ Ex w wr ∧ ∀ k' y, k' < k → l[k']? = some y → badN y = false

set_option maxHeartbeats 2000000 in
theorem check_r (a : Option Addr) (n c : Nat) (l : List Nd) (w : World) (h : Sl 3 encN w a n l) (hn : n ≤ 1000000) :
    Calls Tryd.prog 35 #[.slice a n c] w fun e w' => e = .returned (.int .i64 (checkN l)) ∧ Ex w w' := by
  have hlen := h.len
  go_enter Tryd.func35, Tryd.ntmps35
  by_cases h64 : 64 < n
  · have HC : Hid (checkN l = 3) := Lib.hid (by unfold checkN; rw [if_pos (by omega)])
    clear h hlen
    go_wp2_with fail
    go_ret
    exact ⟨by rw [HC.out]; rfl, Ex.refl _⟩
  have HL := Lib.hid hlen
  clear hlen
  go_wp2_with fail
  go_loopw [3] (fun i wr => N1Rel n l w i wr) (fun i _ => n - (intOf i).toNat)
  case atStart => exact ⟨0, by omega, rfl, Ex.refl _, by intro _ _ h; omega⟩
  case round =>
    obtain ⟨k, hk, rfl, kw, hgood⟩ := hrel
    have HG := Lib.hid hgood
    clear hgood
    obtain ⟨wo, rfl⟩ : ∃ wo : World, wo = wr := ⟨_, rfl⟩
    by_cases hlt : k < n
    · obtain ⟨x1, o1, y, rfl, hx1, hy, hc1⟩ := (h.nx kw).at hlt
      have e0 : wo.cell? ⟨x1, o1 + k * 3, none⟩ = some (.int .i64 y.id) := hc1 0 _ rfl
      have e1 : wo.cell? ⟨x1, o1 + k * 3 + 1, none⟩ = some (.string y.key) := hc1 1 _ rfl
      have e2 : wo.cell? ⟨x1, o1 + k * 3 + 1 + 1, none⟩ = some (.int .u32 y.word) := by simpa [Nat.add_assoc] using hc1 2 _ rfl
      have e2' : wo.cell? ⟨x1, o1 + k * 3 + 2, none⟩ = some (.int .u32 y.word) := hc1 2 _ rfl
      have HY := Lib.hid hy
      have BAD : badN y = true → checkN l = 1 := fun hb => by
        unfold checkN
        rw [if_neg (by rw [HL.out]; exact h64), if_pos (List.any_eq_true.2 ⟨y, List.mem_of_getElem? HY.out, hb⟩)]
      clear hc1 hy h
      by_cases b1 : y.id < 1
      · have HB := Lib.hid (BAD (by unfold badN; simp [b1]))
        clear BAD
        go_wp2_with fail
        go_ret
        exact ⟨by rw [HB.out]; rfl, kw⟩
      by_cases b2 : 2147483647 < y.id
      · have HB := Lib.hid (BAD (by unfold badN; simp [b2]))
        clear BAD
        go_wp2_with fail
        go_ret
        exact ⟨by rw [HB.out]; rfl, kw⟩
      have BAD := Lib.hid BAD
      go_wp2_with fail
      refine (vkey_r _ _).mono ?_
      rintro e w2 ⟨rfl, rfl⟩
      by_cases b3 : (y.key.size : Int) ≤ 64
      · have d3 : decide ((y.key.size : Int) ≤ 64) = true := by simpa using b3
        rw [d3]
        clear d3
        go_wp2_with fail
        refine (wvalid_r _ _).mono ?_
        rintro e w2 ⟨rfl, rfl⟩
        cases b4 : validN y.word with
        | true =>
          have BG : Hid (badN y = false) := Lib.hid (by unfold badN; simp [b1, b2, b3, b4])
          clear BAD b4 b3
          go_wp2_with fail
          refine ⟨⟨k + 1, by omega, by go_num, kw, fun k' y' hk' hy' => ?_⟩, by simp [intOf]; omega⟩
          rcases Nat.lt_or_ge k' k with h | h
          · exact HG.out k' y' h hy'
          · obtain rfl : k' = k := by omega
            rw [Option.some.inj (hy'.symm.trans HY.out)]
            exact BG.out
        | false =>
          have HB := Lib.hid (BAD.out (by unfold badN; simp [b4]))
          clear BAD b4
          go_wp2_with fail
          go_ret
          exact ⟨by rw [HB.out]; rfl, kw⟩
      · have d3 : decide ((y.key.size : Int) ≤ 64) = false := by simpa using b3
        have HB := Lib.hid (BAD.out (by unfold badN; simp [b3]))
        rw [d3]
        clear d3 BAD b3
        go_wp2_with fail
        go_ret
        exact ⟨by rw [HB.out]; rfl, kw⟩
    · obtain rfl : k = n := by omega
      have HNB : Hid (l.any badN = false) := Lib.hid (by
        rw [List.any_eq_false]
        intro y hy
        obtain ⟨j, hj, he⟩ := List.mem_iff_getElem.1 hy
        rw [HG.out j y (by rw [← HL.out]; exact hj) (by rw [← he]; simp)]
        simp)
      clear HG hlt hk
      obtain ⟨w1, rfl⟩ : ∃ w1 : World, w1 = wo := ⟨_, rfl⟩
      have hs := Lib.hid h
      clear h
      go_wp2_with fail
      go_loopw [4, 5] (fun i j wr => N2Rel k l w i j wr) (fun i _ _ => k - (intOf i).toNat)
      case atStart => exact ⟨0, by omega, rfl, kw, by intro _ _ _ _ h; omega⟩
      case round =>
        obtain ⟨m, hm, rfl, kw, hgood⟩ := hrel
        have HG := Lib.hid hgood
        clear hgood
        obtain ⟨wo, rfl⟩ : ∃ wo : World, wo = wr := ⟨_, rfl⟩
        by_cases hlt : m < k
        · obtain ⟨x1, o1, x, rfl, hx1, hx, hc1⟩ := (hs.out.nx kw).at hlt
          have HX := Lib.hid hx
          have HC := Lib.hid hc1
          clear hx hc1
          go_wp2_with fail
          go_loopw [5] (fun j wr => N3Rel m l x w j wr) (fun j _ => m - (intOf j).toNat)
          case atStart => exact ⟨0, by omega, rfl, kw, by intro _ _ h; omega⟩
          case round =>
            obtain ⟨q, hq, rfl, kv, hok⟩ := hrel
            have HO := Lib.hid hok
            clear hok
            obtain ⟨wi, rfl⟩ : ∃ wi : World, wi = wr := ⟨_, rfl⟩
            by_cases hlq : q < m
            · obtain ⟨x2, o2, y, e2, hx2, hy, hc2⟩ := (hs.out.nx kv).at (Nat.lt_trans hlq hlt)
              cases e2
              obtain ⟨x3, o3, x', e3, hx3, hx', hc1⟩ := (hs.out.nx kv).at hlt
              cases e3
              obtain rfl : x = x' := Option.some.inj (HX.out.symm.trans hx')
              have e0 : wi.cell? ⟨x1, o1 + m * 3, none⟩ = some (.int .i64 x.id) := hc1 0 _ rfl
              have e1 : wi.cell? ⟨x1, o1 + m * 3 + 1, none⟩ = some (.string x.key) := hc1 1 _ rfl
              have f0 : wi.cell? ⟨x1, o1 + q * 3, none⟩ = some (.int .i64 y.id) := hc2 0 _ rfl
              have f1 : wi.cell? ⟨x1, o1 + q * 3 + 1, none⟩ = some (.string y.key) := hc2 1 _ rfl
              have HY := Lib.hid hy
              have hqk := Nat.lt_trans hlq hlt
              have DUP : eqN x y = true → checkN l = 5 := fun he => by
                unfold checkN
                rw [if_neg (by rw [HL.out]; exact h64), HNB.out, if_neg (by simp), if_pos ((dupN_iff l).2 ⟨m, q, x, y, hlq, HX.out, HY.out, he⟩)]
              clear hc1 hc2 hy hx' HC hx1 hx2 hx3
              by_cases d1 : x.id = y.id
              · have HB := Lib.hid (DUP (by unfold eqN; simp [d1]))
                have b1 : (x.id == y.id) = true := by simp [d1]
                clear DUP d1
                go_wp2_with fail
                go_quiet (fail)
                go_wp2_with fail
                go_ret
                exact ⟨by rw [HB.out]; rfl, kv.drewN _⟩
              · have b1 : (x.id == y.id) = false := by simp [d1]
                by_cases d2 : x.key = y.key
                · have b2 := str_eqN d2
                  have HB := Lib.hid (DUP (by unfold eqN; rw [b2]; simp))
                  clear DUP d1 d2
                  go_wp2_with fail
                  go_quiet (fail)
                  go_wp2_with fail
                  go_ret
                  exact ⟨by rw [HB.out]; rfl, kv.drewN _⟩
                · have b2 := str_neN d2
                  have HB : Hid (eqN x y = false) := Lib.hid (by unfold eqN; rw [b1, b2]; rfl)
                  clear DUP d1 d2
                  go_wp2_with fail
                  go_quiet (fail)
                  go_wp2_with fail
                  refine ⟨⟨q + 1, by omega, by go_num, kv.drewN _, fun k' y' hk' hy' => ?_⟩, by simp [intOf]; omega⟩
                  rcases Nat.lt_or_ge k' q with h | h
                  · exact HO.out k' y' h hy'
                  · obtain rfl : k' = q := by omega
                    rw [Option.some.inj (hy'.symm.trans HY.out)]
                    exact HB.out
            · obtain rfl : q = m := by omega
              clear hlq hq HC
              go_wp2_with fail
              refine ⟨⟨q + 1, by omega, by go_num, kv, fun i' k' x' y' hi' hk' hx' hy' => ?_⟩, by simp [intOf]; omega⟩
              rcases Nat.lt_or_ge i' q with h | h
              · exact HG.out i' k' x' y' h hk' hx' hy'
              · obtain rfl : i' = q := by omega
                rw [Option.some.inj (hx'.symm.trans HX.out)]
                exact HO.out k' y' hk' hy'
        · obtain rfl : m = k := by omega
          have HC : Hid (checkN l = 0) := Lib.hid (by
            unfold checkN
            rw [if_neg (by rw [HL.out]; exact h64), HNB.out, if_neg (by simp), if_neg]
            intro hd
            obtain ⟨i, k, x, y, hk, hx, hy, he⟩ := (dupN_iff l).1 hd
            rw [HG.out i k x y (by have := (List.getElem?_eq_some_iff.1 hx).1; have := HL.out; omega) hk hx hy] at he
            cases he)
          clear HG hlt hm HNB
          go_wp2_with fail
          go_ret
          exact ⟨by rw [HC.out]; rfl, kw⟩
theorem is_r (a : Option Addr) (n c : Nat) (l : List Nd) (w : World) (h : Sl 3 encN w a n l) (hn : n ≤ 1000000) :
    Calls Tryd.prog 19 #[.slice a n c] w fun e w' => e = .returned (.bool (checkN l == 0)) ∧ Ex w w' := by
  go_enter Tryd.func19, Tryd.ntmps19
  go_wp2_with fail
  refine (check_r a n c l w h hn).mono ?_
  rintro e w1 ⟨rfl, kk⟩
  clear h
  go_wp2_with fail
  go_ret
  exact ⟨rfl, kk⟩

end Go.Proofs.YtjaemckdfoaopabDoor

/- Walks over the tape of numbers from which the statements draw. -/
namespace Go.Proofs.YtjaemckdfoaopabDoor
open Go.RowKit

set_option maxHeartbeats 400000 in
theorem mod_any (v n : Int) (w : World) (hn : 1 ≤ n) (hn2 : n ≤ 9223372036854775807) :
    Calls Tryd.prog 33 #[.int .i64 v, .int .i64 n] w fun e w' => e = .returned (.int .i64 (v % n)) ∧ w = w' := by
  obtain ⟨h1, h2⟩ := tmod_bounds v n hn
  have H3 := Lib.hid (emod_of_tmod v n hn)
  go_enter Tryd.func33, Tryd.ntmps33
  go_wp2
  · go_ret
    exact ⟨by rw [H3.out, if_pos ‹_›]; rfl, rfl⟩
  · go_ret
    exact ⟨by rw [H3.out, if_neg (by omega)]; rfl, rfl⟩

set_option maxHeartbeats 400000 in
theorem next_end (b len cap i : Nat) (n : Int) (a : Option Addr) (w : World) (hb : w.heap[b]? = some (.cells #[.slice a len cap, .int .i64 i] 46 (0, 0))) (hi : len ≤ i) (hn : ¬ n < 1) :
    Calls Tryd.prog 16 #[.pointer (some ⟨b, 0, none⟩), .int .i64 n] w fun e w' => e = .returned (.int .i64 0) ∧ ∃ m, w.drewN m = w' := by
  have c0 : w.cell? ⟨b, 0, none⟩ = some (.slice a len cap) := by simp [World.cell?, hb]
  have c1 : w.cell? ⟨b, 1, none⟩ = some (.int .i64 i) := by simp [World.cell?, hb]
  have d1 : decide (n < 1) = false := by simp; omega
  clear hb
  go_enter Tryd.func16, Tryd.ntmps16
  go_wp2
  go_quiet (fail)
  go_wp2
  go_ret
  exact ⟨rfl, _, rfl⟩

set_option maxHeartbeats 400000 in
theorem next_small (b : Nat) (n : Int) (w : World) (hn : n < 1) :
    Calls Tryd.prog 16 #[.pointer (some ⟨b, 0, none⟩), .int .i64 n] w fun e w' => e = .returned (.int .i64 0) ∧ ∃ m, w.drewN m = w' := by
  have d1 : decide (n < 1) = true := by simp; omega
  go_enter Tryd.func16, Tryd.ntmps16
  go_wp2
  go_quiet (fail)
  go_wp2
  go_ret
  exact ⟨rfl, _, rfl⟩

set_option maxHeartbeats 400000 in
theorem next_go (b len cap i x o : Nat) (n v : Int) (w : World) (hb : w.heap[b]? = some (.cells #[.slice (some ⟨x, o, none⟩) len cap, .int .i64 i] 46 (0, 0))) (hi : i < len) (hl : len ≤ 600) (hn : ¬ n < 1) (hn2 : n ≤ 9223372036854775807)
    (hx : x ≠ b) (hc : w.cell? ⟨x, o + i, none⟩ = some (.int .i64 v)) :
    Calls Tryd.prog 16 #[.pointer (some ⟨b, 0, none⟩), .int .i64 n] w fun e w' => e = .returned (.int .i64 (v % n)) ∧ ∃ m k, ((w.drewN k).setCell ⟨b, 1, none⟩ (.int .i64 (i + 1))).drewN m = w' := by
  have c0 : w.cell? ⟨b, 0, none⟩ = some (.slice (some ⟨x, o, none⟩) len cap) := by simp [World.cell?, hb]
  have c1 : w.cell? ⟨b, 1, none⟩ = some (.int .i64 i) := by simp [World.cell?, hb]
  have f1 : w.frozen? ⟨b, 1, none⟩ = false := by simp [World.frozen?, hb]
  have d1 : decide (n < 1) = false := by simp; omega
  have e1 : IntKind.i64.wrap (i : Int) = i := IntWalk.i64_in _ (by omega)
  have e2 : IntKind.i64.wrap ((i : Int) + 1) = (i : Int) + 1 := IntWalk.i64_in _ (by omega)
  clear hb
  go_enter Tryd.func16, Tryd.ntmps16
  go_wp2
  go_quiet (fail)
  go_wp2
  go_quiet ((go_at_call 33; exact quiet_of_eq (mod_any _ _ _ (by omega) (by omega))))
  go_wp2
  go_ret
  exact ⟨rfl, _, _, rfl⟩

theorem next_x {B b : Nat} (n : Int) (w : World) (h : TP 46 B w b) (hn2 : n ≤ 9223372036854775807) :
    Calls Tryd.prog 16 #[.pointer (some ⟨b, 0, none⟩), .int .i64 n] w (SomeInt 0 (if n < 1 then 0 else n - 1) 46 B b w) := by
  by_cases hn : n < 1
  · refine (next_small b n w hn).mono ?_
    rintro e w' ⟨rfl, m, rfl⟩
    exact ⟨0, rfl, by omega, by rw [if_pos hn]; omega, (Chg.refl _ _).drewN _, h⟩
  · obtain ⟨a, cap, i, x, o, l, h1, h2, h3, h4, h5⟩ := id h
    by_cases hi : i < l.length
    · rcases h5 with rfl | ⟨rfl, e2, e3, e4⟩
      · simp at hi
      · refine (next_go b _ cap i x o n _ w h1 hi h3 hn hn2 e2 (e4 i hi)).mono ?_
        rintro e w' ⟨rfl, m, k, rfl⟩
        refine ⟨_, rfl, Int.emod_nonneg _ (by omega), ?_, ?_, ?_⟩
        · rw [if_neg hn]; have := Int.emod_lt_of_pos (l.getD i 0) (show 0 < n by omega); omega
        · exact (((Chg.refl _ _).drewN _).setCell _ (fun k hk => hk.2)).drewN _
        · refine ⟨_, cap, i + 1, x, o, l, ?_, h2, h3, by omega, .inr ⟨rfl, e2, e3, fun j hj => ?_⟩⟩
          · show (w.setCell ⟨b, 1, none⟩ (.int .i64 (i + 1))).heap[b]? = _
            simp [World.setCell, Array.getElem?_modify, h1]
          · show (w.setCell ⟨b, 1, none⟩ (.int .i64 (i + 1))).cell? _ = _
            rw [World.cell?_of_block (w := w) (Below.heap_setCell w _ _ _ e2)]
            exact e4 j hj
    · refine (next_end b _ cap i n a w h1 (by omega) hn).mono ?_
      rintro e w' ⟨rfl, m, rfl⟩
      exact ⟨0, rfl, by omega, by rw [if_neg hn]; omega, (Chg.refl _ _).drewN _, h⟩

/-- Pick: some number of the list -/
theorem pick_x {B b s so len : Nat} (lo hi : Int) (l : List Int) (w : World) (h : TP 46 B w b) (hB : B ≤ s) (hs : s < w.heap.size) (hl : l.length = len) (hl0 : 0 < len) (hl2 : len ≤ 100)
    (hc : ∀ j, j < len → w.cell? ⟨s, so + j, none⟩ = some (.int .i64 (l.getD j 0))) (hr : ∀ x ∈ l, lo ≤ x ∧ x ≤ hi) :
    Calls Tryd.prog 30 #[.pointer (some ⟨b, 0, none⟩), .slice (some ⟨s, so, none⟩) len len] w (SomeInt lo hi 46 B b w) := by
  have hlt := h.lt
  go_enter Tryd.func30, Tryd.ntmps30
  go_wp2_with fail
  refine (next_x _ w h (by omega)).mono ?_
  rintro e w1 ⟨r, rfl, r0, r1, k1, t1⟩
  rw [if_neg (by omega)] at r1
  obtain ⟨j, rfl⟩ := Int.eq_ofNat_of_zero_le r0
  have hj : j < len := by omega
  have hc1 : w1.cell? ⟨s, so + j, none⟩ = some (.int .i64 (l.getD j 0)) := k1.cellv (hc j hj) ⟨hs, by simp; omega⟩
  have hm : l.getD j 0 ∈ l := by simp [List.getD, hl, hj]
  have hr1 := hr _ hm
  clear hc hr hl hm
  go_wp2
  go_ret
  exact ⟨_, rfl, hr1.1, hr1.2, k1, t1⟩


/-- Pick on a list that was just written out -/
theorem pick_lit {B b n s : Nat} (lo hi : Int) (l : List Int) {A : Array Value} {W0 : World} (h : TP 46 B W0 b) (hB : B ≤ W0.heap.size) (hs : s = W0.heap.size) (hA : A = (l.map (Value.int .i64)).toArray) (hl : l.length = n) (hl0 : 0 < n) (hl2 : n ≤ 100)
    (hr : ∀ x ∈ l, lo ≤ x ∧ x ≤ hi) :
    Calls Tryd.prog 30 #[.pointer (some ⟨b, 0, none⟩), .slice (some ⟨s, 0, none⟩) n n] (W0.alloc (.cells A 3)) (SomeInt lo hi 46 B b W0) := by
  subst hA hs
  have hc := (Chg.refl (· < W0.heap.size) W0).alloc (.cells (l.map (Value.int .i64)).toArray 3) (fun k hk => hk)
  refine (pick_x (s := W0.heap.size) (so := 0) lo hi l _ (h.chg hc (by omega)) hB (by simp) hl hl0 hl2 ?_ hr).mono ?_
  · intro j hj
    simp [List.getD, hl, hj]
  · rintro e w' ⟨r, rfl, r0, r1, k1, t1⟩
    exact ⟨r, rfl, r0, r1, (hc.mono (fun k hk => hk.1)).trans (k1.mono (by simp; intro k h1 h2; omega)), t1⟩


/-- a new tape -/
def NewTape (w : World) (e : Ending) (w' : World) : Prop :=
  e = .returned (.pointer (some ⟨w.heap.size, 0, none⟩)) ∧ TP 46 (w.heap.size + 1) w' w.heap.size ∧ Chg (· < w.heap.size) w w'

theorem tape_made {S : Nat → Prop} {n cap m : Nat} {a : Option Addr} {l : List Int} {w : World} (h : Rd 1 encI S w a n l) (hS : ∀ k, S k → k < w.heap.size) (hm : m ≤ n) (hm2 : m ≤ 600) :
    TP 46 (w.heap.size + 1) (w.alloc (.cells #[.slice a m cap, .int .i64 0] 46)) w.heap.size := by
  have hl : (l.take m).length = m := by have := h.1; simp; omega
  rcases Nat.eq_zero_or_pos m with h0 | h0
  · subst h0
    exact ⟨a, cap, 0, 0, 0, [], by simpa using heap_new w _, by omega, by simp, by simp, .inl rfl⟩
  · obtain ⟨x, o, y, rfl, hx, _, _⟩ := h.at (j := 0) (by omega)
    have hx := hS x hx
    refine ⟨_, cap, 0, x, o, l.take m, by rw [hl]; exact heap_new w _, by omega, by omega, by omega, .inr ⟨rfl, by omega, by omega, fun j hj => ?_⟩⟩
    have hj : j < m := by omega
    obtain ⟨x', o', y', e1, _, e3, e4⟩ := h.at (j := j) (by omega)
    cases e1
    have e5 := e4 0 _ rfl
    have e6 : (l.take m).getD j 0 = y' := by simp [List.getD, List.getElem?_take, hj, e3]
    rw [e6]
    rw [World.cell?_of_block (w := w) (Below.heap_alloc w _ _ (by simp; omega))]
    simpa using e5

set_option maxHeartbeats 400000 in
theorem new_x {S : Nat → Prop} (a : Option Addr) (n cap : Nat) (l : List Int) (w : World) (h : Rd 1 encI S w a n l) (hS : ∀ k, S k → k < w.heap.size) (hn : n ≤ cap) (hcap : cap ≤ maxLen) :
    Calls Tryd.prog 4 #[.slice a n cap] w (NewTape w) := by
  unfold maxLen at hcap
  by_cases h6 : 600 < n
  · have hm := tape_made (cap := cap) (m := 600) h hS (by omega) (by omega)
    go_enter Tryd.func4, Tryd.ntmps4
    go_wp2
    go_ret
    exact ⟨rfl, hm, (Chg.refl _ _).alloc _ (by simp)⟩
  · have hm := tape_made (cap := cap) (m := n) h hS (by omega) (by omega)
    go_enter Tryd.func4, Tryd.ntmps4
    go_wp2
    go_ret
    exact ⟨rfl, hm, (Chg.refl _ _).alloc _ (by simp)⟩
end Go.Proofs.YtjaemckdfoaopabDoor

/- The tape, in the standard forms. -/
namespace Go.Proofs.YtjaemckdfoaopabDoor
open Go.RowKit

/-- a tape at b -/
def TK (w : World) (b : Nat) : Prop := TP 46 (b + 1) w b
theorem TK.lt {w : World} {b : Nat} (h : TK w b) : b < w.heap.size := by
  obtain ⟨_, _, _, _, _, _, h1, _⟩ := h
  exact heap_lt h1
theorem TK.nx {w w' : World} {b : Nat} (h : TK w b) (k : Ex w w') : TK w' b := TP.chg h k (fun x hx => Nat.lt_of_lt_of_le hx h.lt)
/-- a store behind the tape -/
theorem TK.set {w : World} {b : Nat} (h : TK w b) {p : Addr} (v : Value) (hp : b < p.block) : TK (w.setCell p v) b :=
  TP.chg h ((Chg.refl (· < b + 1) w).setCell v (fun k (hk : k < b + 1) => by omega)) (fun _ hk => hk)
/-- a number below n (0 if there is none) -/
def NumPost (n : Int) (b : Nat) (w : World) (e : Ending) (w' : World) : Prop :=
  ∃ r : Int, e = .returned (.int .i64 r) ∧ 0 ≤ r ∧ r ≤ n ∧ TK w' b ∧ Exb b w w'
theorem next_t {b : Nat} (n : Int) (w : World) (h : TK w b) (h1 : 1 ≤ n) (h2 : n ≤ 9223372036854775807) :
    Calls Tryd.prog 16 #[.pointer (some ⟨b, 0, none⟩), .int .i64 n] w (NumPost (n - 1) b w) := by
  refine (next_x n w h h2).mono ?_
  rintro e w' ⟨r, rfl, r0, r1, k, t⟩
  rw [if_neg (by omega)] at r1
  exact ⟨r, rfl, r0, r1, t, k⟩
theorem next_t0 {b : Nat} (n : Int) (w : World) (h : TK w b) (h2 : n ≤ 9223372036854775807) :
    Calls Tryd.prog 16 #[.pointer (some ⟨b, 0, none⟩), .int .i64 n] w (NumPost (if n < 1 then 0 else n - 1) b w) := by
  refine (next_x n w h h2).mono ?_
  rintro e w' ⟨r, rfl, r0, r1, k, t⟩
  exact ⟨r, rfl, r0, r1, t, k⟩
/-- one of some numbers that were just written out -/
theorem pick_t {b n s : Nat} (lo hi : Int) (l : List Int) {A : Array Value} {w : World} (h : TK w b) (hs : s = w.heap.size) (hA : A = (l.map (Value.int .i64)).toArray) (hl : l.length = n) (hl0 : 0 < n) (hl2 : n ≤ 100)
    (hr : ∀ x ∈ l, lo ≤ x ∧ x ≤ hi) :
    Calls Tryd.prog 30 #[.pointer (some ⟨b, 0, none⟩), .slice (some ⟨s, 0, none⟩) n n] (w.alloc (.cells A 3)) fun e w' =>
      ∃ r : Int, e = .returned (.int .i64 r) ∧ lo ≤ r ∧ r ≤ hi ∧ TK w' b ∧ Exb b w w' := by
  refine (pick_lit lo hi l h h.lt hs hA hl hl0 hl2 hr).mono ?_
  rintro e w' ⟨r, rfl, r0, r1, k, t⟩
  exact ⟨r, rfl, r0, r1, t, k⟩
theorem new_t (a : Option Addr) (n cap : Nat) (l : List Int) (w : World) (h : Sl 1 encI w a n l) (hn : n ≤ cap) (hcap : cap ≤ maxLen) :
    Calls Tryd.prog 4 #[.slice a n cap] w fun e w' => e = .returned (.pointer (some ⟨w.heap.size, 0, none⟩)) ∧ TK w' w.heap.size ∧ Ex w w' ∧ w.heap.size < w'.heap.size := by
  refine (new_x a n cap l w h (fun _ hk => hk) hn hcap).mono ?_
  rintro e w' ⟨rfl, t, k⟩
  have hlt : w.heap.size < w'.heap.size := by
    obtain ⟨_, _, _, _, _, _, h1, _⟩ := t
    exact heap_lt h1
  exact ⟨rfl, t, k, hlt⟩
end Go.Proofs.YtjaemckdfoaopabDoor

/- Keys of the tape. -/
namespace Go.Proofs.YtjaemckdfoaopabDoor
open Go.RowKit

/-- the letters, as they are laid: strings of one byte -/
def LetG (w : World) : Prop := ∀ j, j < 6 → ∃ s : ByteArray, s.size = 1 ∧ w.cell? ⟨0, j, none⟩ = some (.string s)
theorem LetG.lt {w : World} (h : LetG w) : 0 < w.heap.size := by
  obtain ⟨s, _, h⟩ := h 0 (by omega)
  exact World.block_lt_of_cell? w _ h
theorem LetG.nx {w w' : World} (h : LetG w) (k : Ex w w') : LetG w' := fun j hj => by
  obtain ⟨s, h1, h2⟩ := h j hj
  exact ⟨s, h1, Chg.cellv k h2 (World.block_lt_of_cell? w _ h2)⟩
theorem LetG.nxb {b : Nat} {w w' : World} (h : LetG w) (hb : ¬ 0 = b) (k : Exb b w w') : LetG w' := fun j hj => by
  obtain ⟨s, h1, h2⟩ := h j hj
  exact ⟨s, h1, Chg.cellv k h2 ⟨World.block_lt_of_cell? w _ h2, hb⟩⟩

def LongRel (k0 : Nat) (o i : Value) : Prop := ∃ (k : Nat) (s : ByteArray), k ≤ k0 ∧ i = .int .i64 k ∧ o = .string s ∧ s.size = k
set_option maxHeartbeats 400000 in
theorem long_x (s : ByteArray) (n : Nat) (w : World) (hs : s.size = 1) (hn : n ≤ 1000) :
    Calls Tryd.prog 34 #[.string s, .int .i64 n] w fun e w' => (∃ r : ByteArray, e = .returned (.string r) ∧ r.size = n) ∧ w = w' := by
  have HS := Lib.hid hs
  have hs1 : s.size ≤ 1 := Nat.le_of_eq hs
  clear hs
  go_enter Tryd.func34, Tryd.ntmps34
  go_wp2
  go_loop [5, 6] (fun o i => LongRel n o i) (fun _ i => n - (intOf i).toNat)
  case atStart => exact ⟨0, ⟨#[]⟩, by omega, rfl, rfl, rfl⟩
  case round =>
    obtain ⟨k, o, hk, rfl, rfl, ho⟩ := hrel
    have HO := Lib.hid ho
    have ho1 : o.size ≤ 1000 := by omega
    clear ho
    by_cases hlt : k < n
    · go_wp2
      go_round
      case rel => exact ⟨k + 1, _, by omega, by go_num, rfl, by rw [ByteArray.size_append, HO.out, HS.out]⟩
      case measure => simp [intOf]; omega
    · go_wp2
      go_ret
      exact ⟨⟨o, rfl, by rw [HO.out]; omega⟩, rfl⟩

def KeyPost (m b : Nat) (w : World) (e : Ending) (w' : World) : Prop := ∃ s : ByteArray, e = .returned (.string s) ∧ s.size ≤ m ∧ TK w' b ∧ Exb b w w'
def KeyRel (b : Nat) (w : World) (o i : Value) (wr : World) : Prop := ∃ (k : Nat) (s : ByteArray), k ≤ 3 ∧ i = .int .i64 k ∧ o = .string s ∧ s.size + k ≤ 3 ∧ TK wr b ∧ Exb b w wr

set_option maxHeartbeats 1000000 in
theorem key_t {b : Nat} (w : World) (h : TK w b) (hL : LetG w) (hgb : ¬ 0 = b) : Calls Tryd.prog 17 #[.pointer (some ⟨b, 0, none⟩)] w (KeyPost 64 b w) := by
  go_enter Tryd.func17, Tryd.ntmps17
  go_wp2_with fail
  refine (next_t 12 _ h (by omega) (by omega)).mono ?_
  rintro e w1 ⟨r, rfl, r0, r1, T, k1⟩
  have L1 := hL.nxb hgb k1
  clear h hL
  by_cases h10 : r = 10
  · subst h10
    go_wp2_with fail
    refine (next_t 6 _ T (by omega) (by omega)).mono ?_
    clear T
    rintro e w2 ⟨j, rfl, j0, j1, T, k2⟩
    obtain ⟨j, rfl⟩ := Int.eq_ofNat_of_zero_le j0
    obtain ⟨s, hs, hc⟩ := (L1.nxb hgb k2) j (by omega)
    have kk := k1.nxb k2
    have HS := Lib.hid hs
    clear hs k1 k2 L1
    go_wp2_with fail
    refine (long_x s 64 _ HS.out (by omega)).mono ?_
    rintro e w3 ⟨⟨r, rfl, hr⟩, rfl⟩
    have HR := Lib.hid hr
    clear hr
    go_wp2_with fail
    go_ret
    exact ⟨r, rfl, Nat.le_of_eq HR.out, T, kk⟩
  · have d10 : (r == 10) = false := by simp [h10]
    by_cases h11 : r = 11
    · subst h11
      clear h10
      go_wp2_with fail
      go_ret
      exact ⟨⟨#[]⟩, rfl, by simp [ByteArray.size], T, k1⟩
    · have d11 : (r == 11) = false := by simp [h11]
      clear h10 h11
      go_wp2_with fail
      refine (next_t 3 _ T (by omega) (by omega)).mono ?_
      clear T
      rintro e w2 ⟨m, rfl, m0, m1, T, k2⟩
      obtain ⟨m, rfl⟩ := Int.eq_ofNat_of_zero_le m0
      have L2 := L1.nxb hgb k2
      have kk := k1.nxb k2
      clear k1 k2 L1
      go_wp2_with fail
      go_loopw [3, 4] (fun o i wr => KeyRel b w2 o i wr) (fun _ i _ => (intOf i).toNat)
      case atStart => exact ⟨m + 1, ⟨#[]⟩, by omega, congrArg (Value.int .i64) (by omega), rfl, by show 0 + (m + 1) ≤ 3; omega, T, Exb.refl _ _⟩
      case round =>
        clear T
        obtain ⟨k, o, hk, rfl, rfl, ho, T, kw⟩ := hrel
        obtain ⟨wo, rfl⟩ : ∃ wo : World, wo = wr := ⟨_, rfl⟩
        have ho1 : o.size ≤ 3 := by omega
        by_cases hk0 : 0 < k
        · go_wp2_with fail
          refine (next_t 6 _ T (by omega) (by omega)).mono ?_
          clear T
          rintro e w4 ⟨j, rfl, j0, j1, T, k4⟩
          obtain ⟨j, rfl⟩ := Int.eq_ofNat_of_zero_le j0
          obtain ⟨s, hs, hc⟩ := ((L2.nxb hgb kw).nxb hgb k4) j (by omega)
          replace kw := kw.nxb k4
          have HS := Lib.hid hs
          have hs1 : s.size ≤ 1 := Nat.le_of_eq hs
          clear hs k4 L2
          go_wp2_with fail
          refine ⟨⟨k - 1, o ++ s, by omega, ?_, rfl, by rw [ByteArray.size_append, HS.out]; omega, T, kw⟩, by simp [intOf]; omega⟩
          rw [show ((k - 1 : Nat) : Int) = (k : Int) - 1 by omega]
        · clear L2
          go_wp2_with fail
          go_ret
          exact ⟨o, rfl, by omega, T, kk.nxb kw⟩
end Go.Proofs.YtjaemckdfoaopabDoor

/- A walk over the words that are drawn from a tape. -/
namespace Go.Proofs.YtjaemckdfoaopabDoor
open Go.RowKit

/-- some word -/
def SomeWord (ty B b : Nat) (w : World) (e : Ending) (w' : World) : Prop :=
  ∃ r : Nat, e = .returned (.int .u32 r) ∧ r < 65536 ∧ Chg (fun k => k < w.heap.size ∧ k ≠ b) w w' ∧ TP ty B w' b

theorem conv_u32 (r : Int) (h0 : 0 ≤ r) (h1 : r < 65536) : ∃ m : Nat, r = m ∧ m < 65536 ∧ IntKind.u32.wrap r = (m : Int) := by
  obtain ⟨m, rfl⟩ := Int.eq_ofNat_of_zero_le h0
  refine ⟨m, rfl, by omega, ?_⟩
  simp [IntKind.wrap, IntKind.signed, IntKind.bits]
  omega

set_option maxHeartbeats 1000000 in
theorem word_x {B b : Nat} (w : World) (h : TP 46 B w b) (hB : B ≤ w.heap.size) :
    Calls Tryd.prog 18 #[.pointer (some ⟨b, 0, none⟩)] w (SomeWord 46 B b w) := by
  go_enter Tryd.func18, Tryd.ntmps18
  go_wp2_with fail
  refine (next_x _ w h (by omega)).mono ?_
  rintro e w1 ⟨r, rfl, r0, r1, k1, t1⟩
  have z1 := k1.size
  by_cases e4 : r = 4
  · subst e4
    go_wp2_with fail
    refine (next_x _ _ t1 (by omega)).mono ?_
    rintro e w2 ⟨s, rfl, s0, s1, k2, t2⟩
    rw [if_neg (by omega)] at s1
    obtain ⟨m, rfl, hm, hw⟩ := conv_u32 s s0 (by omega)
    go_wp2_with fail
    go_ret
    exact ⟨m, rfl, hm, k1.then k2 (by intro k hk; omega), t2⟩
  · have d4 : (r == 4) = false := by simp [e4]
    by_cases e5 : r = 5
    · subst e5
      go_wp2_with fail
      refine (pick_lit 0 65535 [0, 65535, 32768] t1 (by omega) (by simp) (by rfl) (by rfl) (by omega) (by omega) (by simp)).mono ?_
      rintro e w2 ⟨s, rfl, s0, s1, k2, t2⟩
      obtain ⟨m, rfl, hm, hw⟩ := conv_u32 s s0 (by omega)
      go_wp2_with fail
      go_ret
      exact ⟨m, rfl, hm, k1.then k2 (by intro k hk; omega), t2⟩
    · have d5 : (r == 5) = false := by simp [e5]
      clear e4 e5
      go_wp2_with fail
      refine (next_x _ _ t1 (by omega)).mono ?_
      rintro e w2 ⟨s, rfl, s0, s1, k2, t2⟩
      rw [if_neg (by omega)] at s1
      obtain ⟨m, rfl, hm, hw⟩ := conv_u32 s s0 (by omega)
      go_wp2_with fail
      go_ret
      exact ⟨m, rfl, hm, k1.then k2 (by intro k hk; omega), t2⟩
end Go.Proofs.YtjaemckdfoaopabDoor

/- The two laws of append, for a region that draws its order. -/
namespace Go.Proofs.YtjaemckdfoaopabDoor
open Go.RowKit

theorem wp_append_none {P : Program} {w : World} {o : Oper} {a : Act} {K : Act → World → Prop} {Q : Exit → Act → World → Prop} (s x : Operand) (t : TypeId)
    (ho : o.op = .call { callee := .builtin .append, args := #[s, x], argTypes := #[t, t] })
    (base : Nat) (e : TypeId) (i : TypeInfo) (size : Nat) (ht : P.underlying t = some (.slice e)) (hi : P.info? e = some i)
    (v : Value) (n : Nat) (xs : List Value) (hs : a.eval s = v) (hown : w.ownsRow base e size v n xs) (hx : a.eval x = .slice none 0 0)
    (h : K (a.put o.dst v) w) : o.wp P a w K Q := by
  have hrun := run_append_owned_none (P := P) (w := w) base t o.type e i size ht hi v n xs hown
  unfold Oper.wp
  simp [execOp, ho, resolve, invoke, builtin, hs, hx, hrun, Result.andThen]
  exact h

/-- append of one element that was just written out -/
theorem wp_append_lit {P : Program} {α : Type} {enc : α → List Value} {o : Oper} {a : Act} {K : Act → World → Prop} {Q : Exit → Act → World → Prop} (w0 : World) (s x : Operand) (t : TypeId)
    (ho : o.op = .call { callee := .builtin .append, args := #[s, x], argTypes := #[t, t] })
    (base : Nat) (e : TypeId) (z : Value) (sz bytes : Nat) (ht : P.underlying t = some (.slice e)) (hi : (P.info? e).map (fun i => (i.zero, i.size, i.bytes)) = some (some z, sz, bytes))
    (hzs : z.cells.size = sz) (hsz : 0 < sz) (hby : bytes ≤ 65536)
    (v : Value) (l : List α) (hown : OwnL sz enc e base w0 v l) (hs : a.eval s = v) (y : α) (A : Array Value) (hA : A = (enc y).toArray) (hlen : (enc y).length = sz) (h1 : ∀ u ∈ enc y, u.oneCell' = true)
    (k : Nat) (hk : k = w0.heap.size) (hx : a.eval x = .slice (some ⟨k, 0, none⟩) 1 1) (hl : l.length ≤ 1000000) (hbase : base ≤ w0.heap.size) (e' : TypeId)
    (h : ∀ v' w', OwnL sz enc e base w' v' (l ++ [y]) → Chg (fun k => k < w0.heap.size ∧ ¬ v.ownBlock = some k) w0 w' → Chg (· < base) w0 w' → w0.heap.size < w'.heap.size → K (a.put o.dst v') w') :
    o.wp P a (w0.alloc (.cells A e')) K Q := by
  subst hA hk
  obtain ⟨i, hi, hz0, hz1, hz2⟩ := info_parts hi
  have hmul : (l.length + 1) * bytes ≤ 1000001 * 65536 := Nat.mul_le_mul (by omega) hby
  refine wp_append_own _ s x t ho base e i z sz bytes ht hi hz0 hz1 hz2 hzs hsz v l.length (l.flatMap enc) hs (hown.alloc _) ⟨w0.heap.size, 0, none⟩ 1 1 (enc y) hx (by simp [hlen]) ?_ h1 (by unfold maxLen; omega) (by omega) (by simp; omega) ?_
  · intro j u hu
    rw [Addr.add_lit]
    simp only [Nat.zero_add]
    rw [World.cell?, heap_new]
    simpa using hu
  · intro v' w' hown' hgrow hnil
    have hz' := hgrow.size
    simp at hz'
    have hch : Chg (fun k => k < w0.heap.size ∧ ¬ v.ownBlock = some k) w0 w' := ⟨hgrow.os, hgrow.tape, hgrow.output, by omega, fun k hk => by
      rw [hgrow.block k (by simp; omega) (fun h => hk.2 h.symm)]
      exact Below.heap_alloc _ _ _ hk.1⟩
    refine h v' w' ?_ hch (hch.mono fun k hk => ⟨by omega, fun hv => ?_⟩) hz'
    · unfold OwnL
      simpa [List.flatMap_append] using hown'
    · have := hown.lt k hv
      omega

/-- append of a whole slice that reads as a list -/
theorem wp_append_rd {P : Program} {α : Type} {enc : α → List Value} {o : Oper} {a : Act} {K : Act → World → Prop} {Q : Exit → Act → World → Prop} (w0 : World) (s x : Operand) (t : TypeId)
    (ho : o.op = .call { callee := .builtin .append, args := #[s, x], argTypes := #[t, t] })
    (base : Nat) (e : TypeId) (z : Value) (sz bytes : Nat) (ht : P.underlying t = some (.slice e)) (hi : (P.info? e).map (fun i => (i.zero, i.size, i.bytes)) = some (some z, sz, bytes))
    (hzs : z.cells.size = sz) (hsz : 0 < sz) (hby : bytes ≤ 65536)
    (v : Value) (l : List α) (hown : OwnL sz enc e base w0 v l) (hs : a.eval s = v) (S : Nat → Prop) (A : Option Addr) (n c : Nat) (news : List α) (hrd : Rd sz enc S w0 A n news) (hA : A = none → c = 0) (hlen : ∀ y, (enc y).length = sz) (h1 : ∀ y, ∀ u ∈ enc y, u.oneCell' = true)
    (hx : a.eval x = .slice A n c) (hl : l.length ≤ 1000000) (hn : n ≤ 1000000) (hbase : base ≤ w0.heap.size)
    (h : ∀ v' w', OwnL sz enc e base w' v' (l ++ news) → Chg (fun k => k < w0.heap.size ∧ ¬ v.ownBlock = some k) w0 w' → Chg (· < base) w0 w' → K (a.put o.dst v') w') :
    o.wp P a w0 K Q := by
  obtain ⟨i, hi, hz0, hz1, hz2⟩ := info_parts hi
  have hmul : (l.length + n) * bytes ≤ 2000000 * 65536 := Nat.mul_le_mul (by omega) hby
  have hnl := hrd.1
  cases A with
  | none =>
    have hc := hA rfl
    have hn0 : n = 0 := by
      rcases hrd.2 with h0 | ⟨x, o, e1, _⟩
      · exact h0
      · cases e1
    subst hn0 hc
    have hnews : news = [] := List.eq_nil_of_length_eq_zero hnl
    subst hnews
    refine wp_append_none s x t ho base e i sz ht hi v l.length (l.flatMap enc) hs hown hx ?_
    exact h v w0 (by simpa using hown) (Chg.refl _ _) (Chg.refl _ _)
  | some ad =>
    refine wp_append_own _ s x t ho base e i z sz bytes ht hi hz0 hz1 hz2 hzs hsz v l.length (l.flatMap enc) hs hown ad n c (news.flatMap enc) hx ?_ ?_ ?_ (by unfold maxLen; omega) (by omega) hbase ?_
    · have : ∀ l : List α, (l.flatMap enc).length = l.length * sz := by
        intro l
        induction l with
        | nil => simp
        | cons y r ih => rw [List.flatMap_cons, List.length_append, hlen, ih, List.length_cons, Nat.succ_mul]; omega
      rw [this, hnl]
    · intro j u hu
      have hj := (List.getElem?_eq_some_iff.1 hu).1
      rcases hrd.2 with h0 | ⟨x, o, e1, _, e3⟩
      · subst h0
        have : news = [] := List.eq_nil_of_length_eq_zero hnl
        subst this
        simp at hj
      · cases e1
        rw [Addr.add_lit]
        have hdiv : ∃ y, news[j / sz]? = some y ∧ (enc y)[j % sz]? = some u := by
          clear e3 hmul hown h hx hrd
          induction news generalizing j n with
          | nil => simp at hu
          | cons y r ih =>
            rw [List.flatMap_cons] at hu
            by_cases hlt : j < sz
            · rw [List.getElem?_append_left (by rw [hlen]; exact hlt)] at hu
              exact ⟨y, by rw [Nat.div_eq_of_lt hlt]; rfl, by rw [Nat.mod_eq_of_lt hlt]; exact hu⟩
            · rw [List.getElem?_append_right (by rw [hlen]; omega), hlen] at hu
              obtain ⟨y', h1', h2'⟩ := ih (n := n - 1) (j := j - sz) (by omega) (by simp at hnl; omega) hu (List.getElem?_eq_some_iff.1 hu).1
              have e1 : j / sz = (j - sz) / sz + 1 := by
                rw [Nat.div_eq_sub_div hsz (by omega)]
              have e2 : j % sz = (j - sz) % sz := by
                rw [Nat.mod_eq_sub_mod (by omega)]
              exact ⟨y', by rw [e1]; simpa using h1', by rw [e2]; exact h2'⟩
        obtain ⟨y, hy1, hy2⟩ := hdiv
        have := e3 _ y hy1 _ u hy2
        rw [Nat.add_assoc, Nat.mul_comm, Nat.div_add_mod] at this
        exact this
    · intro u hu
      obtain ⟨y, _, hy⟩ := List.mem_flatMap.1 hu
      exact h1 y u hy
    · intro v' w' hown' hgrow hnil
      have hch : Chg (fun k => k < w0.heap.size ∧ ¬ v.ownBlock = some k) w0 w' := ⟨hgrow.os, hgrow.tape, hgrow.output, hgrow.size, fun k hk => hgrow.block k hk.1 (fun h => hk.2 h.symm)⟩
      refine h v' w' ?_ hch (hch.mono fun k hk => ⟨by omega, fun hv => ?_⟩)
      · unfold OwnL
        simpa [List.flatMap_append, hnl] using hown'
      · have := hown.lt k hv
        omega


theorem wp_append_own_at {P : Program} (w : World) {o : Oper} {a : Act} {K : Act → World → Prop} {Q : Exit → Act → World → Prop} (s x : Operand) (t : TypeId)
    (ho : o.op = .call { callee := .builtin .append, args := #[s, x], argTypes := #[t, t] })
    (base : Nat) (e : TypeId) (i : TypeInfo) (z : Value) (size bytes : Nat) (ht : P.underlying t = some (.slice e)) (hi : P.info? e = some i) (hz : i.zero = some z)
    (hsize : i.size = size) (hby : i.bytes = bytes) (hzs : z.cells.size = size) (hsz : 0 < size)
    (v : Value) (n : Nat) (xs : List Value) (hs : a.eval s = v) (hown : w.ownsRow base e size v n xs)
    (ad : Addr) (m c : Nat) (news : List Value) (hx : a.eval x = .slice (some ad) m c) (hl : news.length = m * size) (hnews : ∀ j u, news[j]? = some u → w.cell? (ad.add j) = some u) (h1 : ∀ u ∈ news, u.oneCell' = true)
    (h63 : n + m ≤ maxLen) (hbytes : (n + m) * bytes ≤ 140737488355328) (hbase : base ≤ w.heap.size)
    (h : ∀ v' w', w'.ownsRow base e size v' (n + m) (xs ++ news) → w.grownBy w' v.ownBlock → (v' = .slice none 0 0 ↔ v = .slice none 0 0 ∧ m = 0) → (v'.ownBlock = v.ownBlock ∨ v'.ownBlock = some w.heap.size) → K (a.put o.dst v') w') : o.wp P a w K Q := by
  obtain ⟨v', w', hr, h2, h3, h4, h5⟩ := run_append_own_at (P := P) w base t o.type e i z size bytes ht hi hz hsize hby hzs hsz v n xs hown ad m c news hl hnews h1 h63 hbytes hbase
  unfold Oper.wp execOp
  simp only [ho, resolve, invoke, builtin, Sem.run_bind, Sem.run_pure, Result.andThen_ok, List.map_toArray, List.map_cons, List.map_nil, hs, hx, hr]
  exact h v' w' h2 h3 h4 h5
/-- append of a whole slice that reads as a list -/
theorem wp_append_rda {P : Program} {α : Type} {enc : α → List Value} {o : Oper} {a : Act} {K : Act → World → Prop} {Q : Exit → Act → World → Prop} (w0 : World) (s x : Operand) (t : TypeId)
    (ho : o.op = .call { callee := .builtin .append, args := #[s, x], argTypes := #[t, t] })
    (base : Nat) (e : TypeId) (z : Value) (sz bytes : Nat) (ht : P.underlying t = some (.slice e)) (hi : (P.info? e).map (fun i => (i.zero, i.size, i.bytes)) = some (some z, sz, bytes))
    (hzs : z.cells.size = sz) (hsz : 0 < sz) (hby : bytes ≤ 65536)
    (v : Value) (l : List α) (hown : OwnL sz enc e base w0 v l) (hs : a.eval s = v) (S : Nat → Prop) (A : Option Addr) (n c : Nat) (news : List α) (hrd : Rd sz enc S w0 A n news) (hA : A = none → c = 0) (hlen : ∀ y, (enc y).length = sz) (h1 : ∀ y, ∀ u ∈ enc y, u.oneCell' = true)
    (hx : a.eval x = .slice A n c) (hl : l.length ≤ 1000000) (hn : n ≤ 1000000) (hbase : base ≤ w0.heap.size)
    (h : ∀ v' w', OwnL sz enc e base w' v' (l ++ news) → Chg (fun k => k < w0.heap.size ∧ ¬ v.ownBlock = some k) w0 w' → Chg (· < base) w0 w' → (v'.ownBlock = v.ownBlock ∨ v'.ownBlock = some w0.heap.size) → K (a.put o.dst v') w') :
    o.wp P a w0 K Q := by
  obtain ⟨i, hi, hz0, hz1, hz2⟩ := info_parts hi
  have hmul : (l.length + n) * bytes ≤ 2000000 * 65536 := Nat.mul_le_mul (by omega) hby
  have hnl := hrd.1
  cases A with
  | none =>
    have hc := hA rfl
    have hn0 : n = 0 := by
      rcases hrd.2 with h0 | ⟨x, o, e1, _⟩
      · exact h0
      · cases e1
    subst hn0 hc
    have hnews : news = [] := List.eq_nil_of_length_eq_zero hnl
    subst hnews
    refine wp_append_none s x t ho base e i sz ht hi v l.length (l.flatMap enc) hs hown hx ?_
    exact h v w0 (by simpa using hown) (Chg.refl _ _) (Chg.refl _ _) (.inl rfl)
  | some ad =>
    refine wp_append_own_at _ s x t ho base e i z sz bytes ht hi hz0 hz1 hz2 hzs hsz v l.length (l.flatMap enc) hs hown ad n c (news.flatMap enc) hx ?_ ?_ ?_ (by unfold maxLen; omega) (by omega) hbase ?_
    · have : ∀ l : List α, (l.flatMap enc).length = l.length * sz := by
        intro l
        induction l with
        | nil => simp
        | cons y r ih => rw [List.flatMap_cons, List.length_append, hlen, ih, List.length_cons, Nat.succ_mul]; omega
      rw [this, hnl]
    · intro j u hu
      have hj := (List.getElem?_eq_some_iff.1 hu).1
      rcases hrd.2 with h0 | ⟨x, o, e1, _, e3⟩
      · subst h0
        have : news = [] := List.eq_nil_of_length_eq_zero hnl
        subst this
        simp at hj
      · cases e1
        rw [Addr.add_lit]
        have hdiv : ∃ y, news[j / sz]? = some y ∧ (enc y)[j % sz]? = some u := by
          clear e3 hmul hown h hx hrd
          induction news generalizing j n with
          | nil => simp at hu
          | cons y r ih =>
            rw [List.flatMap_cons] at hu
            by_cases hlt : j < sz
            · rw [List.getElem?_append_left (by rw [hlen]; exact hlt)] at hu
              exact ⟨y, by rw [Nat.div_eq_of_lt hlt]; rfl, by rw [Nat.mod_eq_of_lt hlt]; exact hu⟩
            · rw [List.getElem?_append_right (by rw [hlen]; omega), hlen] at hu
              obtain ⟨y', h1', h2'⟩ := ih (n := n - 1) (j := j - sz) (by omega) (by simp at hnl; omega) hu (List.getElem?_eq_some_iff.1 hu).1
              have e1 : j / sz = (j - sz) / sz + 1 := by
                rw [Nat.div_eq_sub_div hsz (by omega)]
              have e2 : j % sz = (j - sz) % sz := by
                rw [Nat.mod_eq_sub_mod (by omega)]
              exact ⟨y', by rw [e1]; simpa using h1', by rw [e2]; exact h2'⟩
        obtain ⟨y, hy1, hy2⟩ := hdiv
        have := e3 _ y hy1 _ u hy2
        rw [Nat.add_assoc, Nat.mul_comm, Nat.div_add_mod] at this
        exact this
    · intro u hu
      obtain ⟨y, _, hy⟩ := List.mem_flatMap.1 hu
      exact h1 y u hy
    · intro v' w' hown' hgrow hnil hat
      have hch : Chg (fun k => k < w0.heap.size ∧ ¬ v.ownBlock = some k) w0 w' := ⟨hgrow.os, hgrow.tape, hgrow.output, hgrow.size, fun k hk => hgrow.block k hk.1 (fun h => hk.2 h.symm)⟩
      refine h v' w' ?_ hch (hch.mono fun k hk => ⟨by omega, fun hv => ?_⟩) hat
      · unfold OwnL
        simpa [List.flatMap_append, hnl] using hown'
      · have := hown.lt k hv
        omega

end Go.Proofs.YtjaemckdfoaopabDoor
