/- Standard forms of what a call leaves, and of what is known of memory, with one step lemma each. -/
import Derived.Test.YtenobfplmifomaaDoorBase
namespace Go.Proofs.YtenobfplmifomaaDoor
open Go.RowKit

/-- all that was there is as it was -/
def Ex (w w' : World) : Prop := Chg (· < w.heap.size) w w'
/-- all that was there is as it was, but perhaps block b -/
def Exb (b : Nat) (w w' : World) : Prop := Chg (fun k => k < w.heap.size ∧ k ≠ b) w w'

theorem Ex.refl (w : World) : Ex w w := Chg.refl _ w
theorem Exb.refl (b : Nat) (w : World) : Exb b w w := Chg.refl _ w
theorem Ex.size {w w' : World} (k : Ex w w') : w.heap.size ≤ w'.heap.size := Chg.size k
theorem Exb.size {b : Nat} {w w' : World} (k : Exb b w w') : w.heap.size ≤ w'.heap.size := Chg.size k
theorem Ex.nx {w w1 w2 : World} (h : Ex w w1) (k : Ex w1 w2) : Ex w w2 := Chg.next h k
theorem Exb.nxb {b : Nat} {w w1 w2 : World} (h : Exb b w w1) (k : Exb b w1 w2) : Exb b w w2 :=
  Chg.trans h (Chg.mono k (fun _ hk => ⟨Nat.lt_of_lt_of_le hk.1 h.size, hk.2⟩))
theorem Ex.b {w w' : World} (k : Ex w w') (b : Nat) : Exb b w w' := Chg.mono k (fun _ h => h.1)
theorem Exb.b {b : Nat} {w w' : World} (k : Exb b w w') (_ : Nat) : Exb b w w' := k
/-- of the law itself: the tape was made by it -/
def Exl (b : Nat) (w w' : World) : Prop := Ex w w' ∧ w.heap.size ≤ b
theorem Exl.nxb {b : Nat} {w w1 w2 : World} (h : Exl b w w1) (k : Exb b w1 w2) : Exl b w w2 :=
  ⟨Chg.trans h.1 (Chg.mono k (fun _ hk => ⟨Nat.lt_of_lt_of_le hk h.1.size, by have := h.2; omega⟩)), h.2⟩
theorem Exl.nx {b : Nat} {w w1 w2 : World} (h : Exl b w w1) (k : Ex w1 w2) : Exl b w w2 := ⟨h.1.nx k, h.2⟩
theorem Exl.size {b : Nat} {w w' : World} (h : Exl b w w') : w.heap.size ≤ w'.heap.size := h.1.size
theorem Ex.alloc {w w' : World} (h : Ex w w') (o : Obj) : Ex w (w'.alloc o) := Chg.alloc h o (fun _ hk => Nat.lt_of_lt_of_le hk h.size)
theorem Exb.alloc {b : Nat} {w w' : World} (h : Exb b w w') (o : Obj) : Exb b w (w'.alloc o) := Chg.alloc h o (fun _ hk => Nat.lt_of_lt_of_le hk.1 h.size)
theorem Ex.new (w : World) (o : Obj) : Ex w (w.alloc o) := (Ex.refl w).alloc o
theorem Ex.drew {w w' : World} (h : Ex w w') : Ex w w'.drew := Chg.drew h
theorem Exb.drew {b : Nat} {w w' : World} (h : Exb b w w') : Exb b w w'.drew := Chg.drew h
theorem Ex.drewN {w w' : World} (h : Ex w w') (n : Nat) : Ex w (w'.drewN n) := Chg.drewN h n
theorem Ex.setNew {w w' : World} (h : Ex w w') {p : Addr} (v : Value) (hp : w.heap.size ≤ p.block) : Ex w (w'.setCell p v) := Chg.setCell h v (fun k (hk : k < w.heap.size) => by omega)
theorem Exb.setNew {b : Nat} {w w' : World} (h : Exb b w w') {p : Addr} (v : Value) (hp : w.heap.size ≤ p.block) : Exb b w (w'.setCell p v) := Chg.setCell h v (fun k (hk : k < w.heap.size ∧ k ≠ b) => by omega)
theorem Exb.setB {b : Nat} {w w' : World} (h : Exb b w w') {p : Addr} (v : Value) (hp : p.block = b) : Exb b w (w'.setCell p v) := Chg.setCell h v (fun k (hk : k < w.heap.size ∧ k ≠ b) => by rw [hp]; exact hk.2)
theorem Ex.of_exb {b : Nat} {w w' : World} (h : Exb b w w') (hb : w.heap.size ≤ b) : Ex w w' := Chg.mono h (fun k (hk : k < w.heap.size) => ⟨hk, by omega⟩)
theorem Exb.of_big {b : Nat} {w w1 w2 : World} (h : Exb b w w1) (k : Ex w1 w2) : Exb b w w2 := h.nxb (k.b b)

/-- a slice that reads as a list, in memory that is there -/
def Sl {α : Type} (sz : Nat) (enc : α → List Value) (w : World) (a : Option Addr) (n : Nat) (l : List α) : Prop := Rd sz enc (· < w.heap.size) w a n l
/-- the same, not in block b -/
def Slb {α : Type} (sz : Nat) (enc : α → List Value) (b : Nat) (w : World) (a : Option Addr) (n : Nat) (l : List α) : Prop := Rd sz enc (fun k => k < w.heap.size ∧ k ≠ b) w a n l
/-- in memory that was made since w0 -/
def Slf {α : Type} (sz : Nat) (enc : α → List Value) (w0 w : World) (a : Option Addr) (n : Nat) (l : List α) : Prop := Rd sz enc (fun k => w0.heap.size ≤ k ∧ k < w.heap.size) w a n l

section
variable {α : Type} {sz n b : Nat} {enc : α → List Value} {w w' w0 : World} {a : Option Addr} {l : List α}
theorem Sl.nx (h : Sl sz enc w a n l) (k : Ex w w') : Sl sz enc w' a n l :=
  (Rd.chg h k (fun _ hk => hk)).mono (fun _ hk => Nat.lt_of_lt_of_le hk k.size)
theorem Slb.nxb (h : Slb sz enc b w a n l) (k : Exb b w w') : Slb sz enc b w' a n l :=
  (Rd.chg h k (fun _ hk => hk)).mono (fun _ hk => ⟨Nat.lt_of_lt_of_le hk.1 k.size, hk.2⟩)
theorem Slf.nx (h : Slf sz enc w0 w a n l) (k : Ex w w') : Slf sz enc w0 w' a n l :=
  (Rd.chg h k (fun _ hk => hk.2)).mono (fun _ hk => ⟨hk.1, Nat.lt_of_lt_of_le hk.2 k.size⟩)
theorem Slb.sl (h : Slb sz enc b w a n l) : Sl sz enc w a n l := Rd.mono h (fun _ hk => hk.1)
theorem Slf.sl (h : Slf sz enc w0 w a n l) : Sl sz enc w a n l := Rd.mono h (fun _ hk => hk.2)
theorem Slf.slb (h : Slf sz enc w0 w a n l) (hb : b < w0.heap.size) : Slb sz enc b w a n l := Rd.mono h (fun k hk => ⟨hk.2, by have := hk.1; omega⟩)
theorem Sl.slb (h : Sl sz enc w a n l) (hb : w.heap.size ≤ b) : Slb sz enc b w a n l := Rd.mono h (fun k hk => ⟨hk, by have : k < w.heap.size := hk; omega⟩)
theorem Slf.old (h : Slf sz enc w' w a n l) (hw : w0.heap.size ≤ w'.heap.size) : Slf sz enc w0 w a n l := Rd.mono h (fun k hk => ⟨Nat.le_trans hw hk.1, hk.2⟩)
theorem Sl.len (h : Sl sz enc w a n l) : l.length = n := h.1
theorem Slb.len (h : Slb sz enc b w a n l) : l.length = n := h.1
theorem Slf.len (h : Slf sz enc w0 w a n l) : l.length = n := h.1
theorem Sl.nil (sz : Nat) (enc : α → List Value) (w : World) (a : Option Addr) : Sl sz enc w a 0 [] := Rd.nil _ _ _ _ _
theorem Slb.nil (sz : Nat) (enc : α → List Value) (b : Nat) (w : World) (a : Option Addr) : Slb sz enc b w a 0 [] := Rd.nil _ _ _ _ _
theorem Slf.nil (sz : Nat) (enc : α → List Value) (w0 w : World) (a : Option Addr) : Slf sz enc w0 w a 0 [] := Rd.nil _ _ _ _ _
theorem Sl.at (h : Sl sz enc w a n l) {j : Nat} (hj : j < n) : ∃ x o y, a = some ⟨x, o, none⟩ ∧ x < w.heap.size ∧ l[j]? = some y ∧ ∀ c u, (enc y)[c]? = some u → w.cell? ⟨x, o + j * sz + c, none⟩ = some u := Rd.at h hj
theorem Sl.lit {s : Nat} {cs : Array Value} {ty : TypeId} (l : List α) (hs : s = w.heap.size) (hn : l.length = n) (hsz : ∀ y, (enc y).length = sz) (hc : cs = (l.flatMap enc).toArray) : Sl sz enc (w.alloc (.cells cs ty)) (some ⟨s, 0, none⟩) n l :=
  Rd.lit l hs (by simp) hn hsz hc
theorem Slf.lit {s : Nat} {cs : Array Value} {ty : TypeId} (l : List α) (hs : s = w.heap.size) (hw : w0.heap.size ≤ w.heap.size) (hn : l.length = n) (hsz : ∀ y, (enc y).length = sz) (hc : cs = (l.flatMap enc).toArray) : Slf sz enc w0 (w.alloc (.cells cs ty)) (some ⟨s, 0, none⟩) n l :=
  Rd.lit l hs (by simp; exact hw) hn hsz hc
theorem Rd.take {S : Nat → Prop} {m : Nat} (h : Rd sz enc S w a n l) (hm : m ≤ n) : Rd sz enc S w a m (l.take m) := by
  refine ⟨by have := h.1; simp; omega, ?_⟩
  rcases h.2 with h2 | ⟨x, o, e1, e2, e3⟩
  · exact .inl (by omega)
  · refine .inr ⟨x, o, e1, e2, fun j y hj c u hu => e3 j y ?_ c u hu⟩
    rw [List.getElem?_take] at hj
    split at hj
    · exact hj
    · cases hj
theorem Sl.take {m : Nat} (h : Sl sz enc w a n l) (hm : m ≤ n) : Sl sz enc w a m (l.take m) := Rd.take h hm
theorem Rd.drop {S : Nat → Prop} {x o m : Nat} (h : Rd sz enc S w (some ⟨x, o, none⟩) n l) (hm : m ≤ n) : Rd sz enc S w (some ⟨x, o + m * sz, none⟩) (n - m) (l.drop m) := by
  refine ⟨by have := h.1; simp; omega, ?_⟩
  rcases h.2 with h2 | ⟨x', o', e1, e2, e3⟩
  · exact .inl (by omega)
  · cases e1
    refine .inr ⟨_, _, rfl, e2, fun j y hj c u hu => ?_⟩
    rw [List.getElem?_drop] at hj
    have := e3 (m + j) y hj c u hu
    rw [Nat.add_mul] at this
    rw [← this]; congr 2; omega
theorem Sl.drop {x o m : Nat} (h : Sl sz enc w (some ⟨x, o, none⟩) n l) (hm : m ≤ n) : Sl sz enc w (some ⟨x, o + m * sz, none⟩) (n - m) (l.drop m) := Rd.drop h hm
end

/-- a slice of the call's own -/
theorem OwnL.nx {α : Type} {sz e base : Nat} {enc : α → List Value} {w w' : World} {v : Value} {l : List α} (h : OwnL sz enc e base w v l) (k : Ex w w') : OwnL sz enc e base w' v l := h.chg k (fun _ hk _ => hk)
theorem OwnL.nxb {α : Type} {sz e base b : Nat} {enc : α → List Value} {w w' : World} {v : Value} {l : List α} (h : OwnL sz enc e base w v l) (hb : b < base) (k : Exb b w w') : OwnL sz enc e base w' v l := h.chg k (fun x hx hv => ⟨hx, by have := (h.lt x hv).1; omega⟩)
theorem OwnL.slf {α : Type} {sz e : Nat} {enc : α → List Value} {w0 w : World} {v : Value} {l : List α} (h : OwnL sz enc e w0.heap.size w v l) (hsz : ∀ y, (enc y).length = sz) :
    ∃ a cap, v = .slice a l.length cap ∧ Slf sz enc w0 w a l.length l ∧ l.length ≤ cap ∧ cap ≤ maxLen ∧ (a = none → cap = 0) := by
  have hd : ∀ a n c, v = .slice a n c → a = none → c = 0 := by
    intro a n c he hn
    rcases h.2 with ⟨h0, _⟩ | ⟨g, cap, cur, h0, _⟩
    · rw [h0] at he; cases he; rfl
    · rw [h0] at he; cases he; cases hn
  obtain ⟨a, cap, rfl, h1, h2, h3, _⟩ := h.rd hsz
  exact ⟨a, cap, rfl, h1, h2, h3, hd a _ _ rfl⟩

theorem OwnL.base {α : Type} {sz e base base' : Nat} {enc : α → List Value} {w : World} {v : Value} {l : List α} (h : OwnL sz enc e base w v l) (hb : base' ≤ base) : OwnL sz enc e base' w v l := by
  refine ⟨h.1, ?_⟩
  rcases h.2 with h2 | ⟨g, cap, cur, e1, e2, rest⟩
  · exact .inl h2
  · exact .inr ⟨g, cap, cur, e1, by omega, rest⟩
/-- a tape -/
def TT (ty : Nat) (w : World) (b : Nat) : Prop := TP ty w.heap.size w b
theorem TT.nxb {ty b b' : Nat} {w w' : World} (h : TT ty w b) (k : Ex w w') (_ : b' = b) : TT ty w' b := (TP.chg h k (fun _ hk => hk)).mono k.size
theorem TT.nx {ty b : Nat} {w w' : World} (h : TT ty w b) (k : Ex w w') : TT ty w' b := (TP.chg h k (fun _ hk => hk)).mono k.size
theorem TT.lt {ty b : Nat} {w : World} (h : TT ty w b) : b < w.heap.size := TP.lt h
theorem TT.of_tp {ty b B : Nat} {w : World} (h : TP ty B w b) (hB : B ≤ w.heap.size) : TT ty w b := h.mono hB

/-- a block that is known whole -/
def Blk (w : World) (k : Nat) (cs : List Value) (ty : TypeId) : Prop := w.heap[k]? = some (.cells cs.toArray ty (0, 0))
theorem Blk.nx {w w' : World} {g : Nat} {cs : List Value} {ty : TypeId} (h : Blk w g cs ty) (k : Ex w w') : Blk w' g cs ty := (Chg.block k g (heap_lt h)).trans h
theorem Blk.nxb {w w' : World} {b g : Nat} {cs : List Value} {ty : TypeId} (h : Blk w g cs ty) (hb : g ≠ b) (k : Exb b w w') : Blk w' g cs ty := (Chg.block k g ⟨heap_lt h, hb⟩).trans h
theorem Blk.lt {w : World} {g : Nat} {cs : List Value} {ty : TypeId} (h : Blk w g cs ty) : g < w.heap.size := heap_lt h
theorem Blk.new (w : World) (cs : List Value) (ty : TypeId) : Blk (w.alloc (.cells cs.toArray ty)) w.heap.size cs ty := heap_new w _
theorem Blk.cell {w : World} {g : Nat} {cs : List Value} {ty : TypeId} (h : Blk w g cs ty) (j : Nat) (v : Value) (hv : cs[j]? = some v) : w.cell? ⟨g, j, none⟩ = some v := by
  unfold Blk at h; simp [World.cell?, h, hv]
theorem Blk.free {w : World} {g : Nat} {cs : List Value} {ty : TypeId} (h : Blk w g cs ty) (j : Nat) : w.frozen? ⟨g, j, none⟩ = false := by
  unfold Blk at h; simp [World.frozen?, h]
theorem Blk.set {w : World} {g : Nat} {cs : List Value} {ty : TypeId} (h : Blk w g cs ty) (j : Nat) (v : Value) : Blk (w.setCell ⟨g, j, none⟩ v) g (cs.set j v) ty := by
  have := heap_set h j v
  unfold Blk
  rw [this]; simp
theorem Blk.set_ne {w : World} {g g' j : Nat} {cs : List Value} {ty : TypeId} (h : Blk w g cs ty) (v : Value) (hne : g ≠ g') : Blk (w.setCell ⟨g', j, none⟩ v) g cs ty := heap_set_ne h hne
end Go.Proofs.YtenobfplmifomaaDoor
