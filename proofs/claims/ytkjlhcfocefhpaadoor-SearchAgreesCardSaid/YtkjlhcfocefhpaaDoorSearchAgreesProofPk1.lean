/- Texts for the statement SearchAgreesProof, part 1 of 11: SymP, Base, SrtA, SrtB, SrtC, SrtD, SrtE, SrtF, K, Copy. -/
import Derived.Sort.LotA
import Derived.WalkKit
import Derived.WalkSpells
import Derived.WalkLawsBesides
import Derived.BigQuiet
import Derived.Lib.Hide
import Derived.Laws.AppendOwnNone
import Derived.Test.YtkjlhcfocefhpaaDoorRows
import Derived.Shelf.SlSortFuncK.ComposeK
import Derived.Laws.CopyOwn

/- The merge of Go's stable sort, in plain Lean. -/
namespace Go.Proofs.YtkjlhcfocefhpaaDoor
open Go.Sort

section
variable {α : Type} [Inhabited α] {lt : α → α → Bool}
theorem getE {x : Array α} {a b : Nat} (h : a = b) : x[a]! = x[b]! := by rw [h]
/-- r is x with the parts from s to m and from m to e exchanged -/
def Rot (x : Array α) (s m e : Nat) (r : Array α) : Prop :=
  ∀ k : Nat, r[k]! = if s ≤ k ∧ k < s + (e - m) then x[k + (m - s)]! else if s + (e - m) ≤ k ∧ k < e then x[k - (e - m)]! else x[k]!
/-- y is x with the parts of n elements at p and at q exchanged -/
def SwR (x : Array α) (p q n : Nat) (y : Array α) : Prop :=
  ∀ k : Nat, y[k]! = if p ≤ k ∧ k < p + n then x[k + (q - p)]! else if q ≤ k ∧ k < q + n then x[k - (q - p)]! else x[k]!
theorem swR_zero (x : Array α) (p q : Nat) : SwR x p q 0 x := by
  intro k
  rw [if_neg (by omega), if_neg (by omega)]
theorem swR_step {x y : Array α} {p q n : Nat} (h : SwR x p q n y) (hpq : p + n < q) (hq : q + n < y.size) : SwR x p q (n + 1) (swp y (p + n) (q + n)) := by
  intro k
  rw [swp_get y (show p + n < y.size by omega) hq, h (p + n), h (q + n), h k]
  repeat' split
  all_goals first | (exfalso; omega) | exact getE (by omega)
theorem rot_big {x y r : Array α} {m i j : Nat} (hij : j < i) (him : i ≤ m) (h1 : SwR x (m - i) m j y) (h2 : Rot y (m - (i - j)) m (m + j) r) : Rot x (m - i) m (m + j) r := by
  intro k
  rw [h2 k, h1 k, h1 (k + (m - (m - (i - j)))), h1 (k - (m + j - m))]
  repeat' split
  all_goals first | (exfalso; omega) | exact getE (by omega)
theorem rot_small {x y r : Array α} {m i j : Nat} (hij : i < j) (him : i ≤ m) (h1 : SwR x (m - i) (m + j - i) i y) (h2 : Rot y (m - i) m (m + (j - i)) r) : Rot x (m - i) m (m + j) r := by
  intro k
  rw [h2 k, h1 k, h1 (k + (m - (m - i))), h1 (k - (m + (j - i) - m))]
  repeat' split
  all_goals first | (exfalso; omega) | exact getE (by omega)
theorem rot_eq {x r : Array α} {m i : Nat} (him : i ≤ m) (h1 : SwR x (m - i) m i r) : Rot x (m - i) m (m + i) r := by
  intro k
  rw [h1 k]
  repeat' split
  all_goals first | (exfalso; omega) | exact getE (by omega)
theorem rot_refl_r (x : Array α) (s m : Nat) (h : s ≤ m) : Rot x s m m x := by
  intro k
  repeat' split
  all_goals first | (exfalso; omega) | exact getE (by omega)
theorem rot_refl_l (x : Array α) (m e : Nat) (h : m ≤ e) : Rot x m m e x := by
  intro k
  repeat' split
  all_goals first | (exfalso; omega) | exact getE (by omega)
theorem rot_up {x y : Array α} {a k : Nat} (h : Rot x a (a + 1) (k + 1) y) (hak : a ≤ k) (hk : k + 1 < y.size) : Rot x a (a + 1) (k + 2) (swp y k (k + 1)) := by
  intro i
  rw [swp_get y (show k < y.size by omega) hk, h k, h (k + 1), h i]
  repeat' split
  all_goals first | (exfalso; omega) | exact getE (by omega)
theorem rot_down {x y : Array α} {m k : Nat} (h : Rot x (k + 1) m (m + 1) y) (hk : k + 1 ≤ m) (hm : m < y.size) : Rot x k m (m + 1) (swp y (k + 1) k) := by
  intro i
  rw [swp_get y (show k + 1 < y.size by omega) (show k < y.size by omega), h k, h (k + 1), h i]
  repeat' split
  all_goals first | (exfalso; omega) | exact getE (by omega)

/-- nothing of [p, q) is greater than anything of [q, b) -/
def Cross (lt : α → α → Bool) (a M b : Nat) (x : Array α) : Prop := ∀ i j, a ≤ i → i < M → M ≤ j → j < b → lt x[j]! x[i]! = false
theorem sorted_join {a M b : Nat} {x : Array α} (h1 : SortedIn lt a M x) (h2 : SortedIn lt M b x) (h : Cross lt a M b x) : SortedIn lt a b x := by
  intro i j hi hij hj
  by_cases h3 : j < M
  · exact h1 i j hi hij h3
  · by_cases h4 : i < M
    · exact h i j hi h4 (by omega) hj
    · exact h2 i j (by omega) hij hj
theorem sorted_sub {a b a' b' : Nat} {x : Array α} (h : SortedIn lt a b x) (ha : a ≤ a') (hb : b' ≤ b) : SortedIn lt a' b' x := fun i j hi hij hj => h i j (by omega) hij (by omega)
theorem sorted_one {a b : Nat} (x : Array α) (h : b ≤ a + 1) : SortedIn lt a b x := fun i j hi hij hj => by omega
theorem cross_left {a M b : Nat} {x y : Array α} (h : Cross lt a M b x) (hp : PermIn a M x y) (hb : M ≤ x.size) : Cross lt a M b y := by
  intro i j hi hiM hM hj
  rw [hp.2.1 j (Or.inr hM)]
  exact permIn_all x y a M (fun v => lt x[j]! v = false) hb hp (fun i hi hiM => h i j hi hiM hM hj) i hi hiM
theorem cross_right {a M b : Nat} {x y : Array α} (h : Cross lt a M b x) (hp : PermIn M b x y) (hb : b ≤ x.size) : Cross lt a M b y := by
  intro i j hi hiM hM hj
  rw [hp.2.1 i (Or.inl hiM)]
  exact permIn_all x y M b (fun v => lt v x[i]! = false) hb hp (fun j hM hj => h i j hi hiM hM hj) j hM hj
theorem sorted_other {a b p q : Nat} {x y : Array α} (h : SortedIn lt a b x) (hp : PermIn p q x y) (hd : b ≤ p ∨ q ≤ a) : SortedIn lt a b y := by
  intro i j hi hij hj
  rw [hp.2.1 i (by omega), hp.2.1 j (by omega)]
  exact h i j hi hij hj
/-- a sorted part in a rotated array -/
theorem rot_parts {x r : Array α} {a s m e b : Nat} (h1 : a ≤ s) (h2 : s ≤ m) (h3 : m ≤ e) (h4 : e ≤ b) (hl : SortedIn lt a m x) (hr : SortedIn lt m b x) (h : Rot x s m e r) :
    SortedIn lt a s r ∧ SortedIn lt s (s + (e - m)) r ∧ SortedIn lt (s + (e - m)) e r ∧ SortedIn lt e b r := by
  refine ⟨fun i j hi hij hj => ?_, fun i j hi hij hj => ?_, fun i j hi hij hj => ?_, fun i j hi hij hj => ?_⟩
  · rw [h i, h j, if_neg (by omega), if_neg (by omega), if_neg (by omega), if_neg (by omega)]
    exact hl i j hi hij (by omega)
  · rw [h i, h j, if_pos (by omega), if_pos (by omega)]
    exact hr _ _ (by omega) (by omega) (by omega)
  · rw [h i, h j, if_neg (by omega), if_pos (by omega), if_neg (by omega), if_pos (by omega)]
    exact hl _ _ (by omega) (by omega) (by omega)
  · rw [h i, h j, if_neg (by omega), if_neg (by omega), if_neg (by omega), if_neg (by omega)]
    exact hr i j (by omega) hij (by omega)
theorem rot_cross {x r : Array α} {a s m e b : Nat} (h1 : a ≤ s) (h2 : s ≤ m) (h3 : m ≤ e) (h4 : e ≤ b) (hl : SortedIn lt a m x) (hr : SortedIn lt m b x)
    (c1 : ∀ p q, a ≤ p → p < s → e ≤ q → q < b → lt x[q]! x[p]! = false) (c2 : ∀ p q, s ≤ p → p < m → m ≤ q → q < e → lt x[p]! x[q]! = false) (h : Rot x s m e r) : Cross lt a (s + (e - m)) b r := by
  intro i j hi hiM hM hj
  rw [h i, h j]
  rw [if_neg (show ¬ (s ≤ j ∧ j < s + (e - m)) by omega)]
  by_cases his : s ≤ i
  · rw [if_pos (show s ≤ i ∧ i < s + (e - m) by omega)]
    by_cases hje : j < e
    · rw [if_pos (by omega)]
      exact c2 _ _ (by omega) (by omega) (by omega) (by omega)
    · rw [if_neg (by omega)]
      exact hr _ _ (by omega) (by omega) (by omega)
  · rw [if_neg (show ¬ (s ≤ i ∧ i < s + (e - m)) by omega), if_neg (show ¬ (s + (e - m) ≤ i ∧ i < e) by omega)]
    by_cases hje : j < e
    · rw [if_pos (by omega)]
      exact hl _ _ (by omega) (by omega) (by omega)
    · rw [if_neg (by omega)]
      exact c1 _ _ (by omega) (by omega) (by omega) (by omega)
theorem le_of_sorted (hS : SWO lt) {a b : Nat} {x : Array α} (h : SortedIn lt a b x) {i j : Nat} (hi : a ≤ i) (hij : i ≤ j) (hj : j < b) : lt x[j]! x[i]! = false := by
  rcases Nat.lt_or_ge i j with h1 | h1
  · exact h i j hi h1 hj
  · obtain rfl : i = j := by omega
    exact hS.irrefl _
/-- the left part is one element -/
theorem one_left (hS : SWO lt) {x r : Array α} {a i b : Nat} (hai : a + 1 ≤ i) (hib : i ≤ b) (hr : SortedIn lt (a + 1) b x) (hi : i = a + 1 ∨ lt x[i - 1]! x[a]! = true) (hj : i = b ∨ lt x[i]! x[a]! = false) (h : Rot x a (a + 1) i r) : SortedIn lt a b r := by
  obtain ⟨_, p2, _, p4⟩ := rot_parts (a := a) (Nat.le_refl _) (by omega) hai hib (sorted_one x (Nat.le_refl _)) hr h
  have hc : Cross lt a (a + (i - (a + 1))) b r := rot_cross (Nat.le_refl _) (by omega) hai hib (sorted_one x (Nat.le_refl _)) hr (by intro p q h1 h2; omega) (fun p q h1 h2 h3 h4 => by
    obtain rfl : p = a := by omega
    rcases hi with hi | hi
    · omega
    · exact hS.ntrans _ _ _ (hS.asymmA hi) (le_of_sorted hS hr h3 (by omega) (by omega))) h
  refine sorted_join p2 (sorted_join (M := i) (sorted_one r (by omega)) p4 ?_) hc
  intro p q h1 h2 h3 h4
  rw [h p, h q, if_neg (by omega), if_neg (by omega), if_neg (by omega), if_pos (by omega), show p - (i - (a + 1)) = a by omega]
  rcases hj with hj | hj
  · omega
  · exact hS.ntrans _ _ _ (le_of_sorted hS hr (by omega) h3 h4) hj
/-- the right part is one element -/
theorem one_right (hS : SWO lt) {x r : Array α} {a i m : Nat} (hai : a ≤ i) (him : i ≤ m) (hl : SortedIn lt a m x) (hi : i = a ∨ lt x[m]! x[i - 1]! = false) (hj : i = m ∨ lt x[m]! x[i]! = true) (h : Rot x i m (m + 1) r) : SortedIn lt a (m + 1) r := by
  obtain ⟨p1, p2, p3, _⟩ := rot_parts (b := m + 1) hai him (by omega) (Nat.le_refl _) hl (sorted_one x (by omega)) h
  have hc : Cross lt a (i + (m + 1 - m)) (m + 1) r := rot_cross hai him (by omega) (Nat.le_refl _) hl (sorted_one x (by omega)) (by intro p q h1 h2; omega) (fun p q h1 h2 h3 h4 => by
    obtain rfl : q = m := by omega
    rcases hj with hj | hj
    · omega
    · exact hS.ntrans _ _ _ (le_of_sorted hS hl hai h1 h2) (hS.asymmA hj)) h
  refine sorted_join (sorted_join p1 p2 ?_) p3 hc
  intro p q h1 h2 h3 h4
  rw [h p, h q, if_pos (by omega), if_neg (by omega), if_neg (by omega), show q + (m - i) = m by omega]
  rcases hi with hi | hi
  · omega
  · exact hS.ntrans _ _ _ hi (le_of_sorted hS hl h1 (by omega) (by omega))
/-- what the search has found in the general case -/
theorem sym_cross (hS : SWO lt) {x r : Array α} {a m b s s0 r0 : Nat} (ham : a < m) (hmb : m < b) (hl : SortedIn lt a m x) (hr : SortedIn lt m b x)
    (h0 : (m > (a + b) / 2 ∧ s0 = (a + b) / 2 + m - b ∧ r0 = (a + b) / 2) ∨ (m ≤ (a + b) / 2 ∧ s0 = a ∧ r0 = m)) (hs0 : s0 ≤ s) (hsr : s ≤ r0)
    (hP : s = s0 ∨ lt x[(a + b) / 2 + m - 1 - (s - 1)]! x[s - 1]! = false) (hQ : s = r0 ∨ lt x[(a + b) / 2 + m - 1 - s]! x[s]! = true) (h : Rot x s m ((a + b) / 2 + m - s) r) :
    Cross lt a ((a + b) / 2) b r ∧ SortedIn lt a s r ∧ SortedIn lt s ((a + b) / 2) r ∧ SortedIn lt ((a + b) / 2) ((a + b) / 2 + m - s) r ∧ SortedIn lt ((a + b) / 2 + m - s) b r := by
  have e1 : s + ((a + b) / 2 + m - s - m) = (a + b) / 2 := by omega
  have h1 : a ≤ s := by omega
  have h2 : s ≤ m := by omega
  have h3 : m ≤ (a + b) / 2 + m - s := by omega
  have h4 : (a + b) / 2 + m - s ≤ b := by omega
  have hp := rot_parts h1 h2 h3 h4 hl hr h
  have hc := rot_cross h1 h2 h3 h4 hl hr (fun p q k1 k2 k3 k4 => by
    rcases hP with hP | hP
    · omega
    · rw [show (a + b) / 2 + m - 1 - (s - 1) = (a + b) / 2 + m - s by omega] at hP
      exact hS.ntrans _ _ _ (hS.ntrans _ _ _ (le_of_sorted hS hr h3 k3 k4) hP) (le_of_sorted hS hl k1 (by omega) (by omega)))
    (fun p q k1 k2 k3 k4 => by
    rcases hQ with hQ | hQ
    · omega
    · rw [show (a + b) / 2 + m - 1 - s = (a + b) / 2 + m - s - 1 by omega] at hQ
      exact hS.ntrans _ _ _ (hS.ntrans _ _ _ (le_of_sorted hS hl h1 k1 k2) (hS.asymmA hQ)) (le_of_sorted hS hr k3 (by omega) (by omega))) h
  rw [e1] at hp hc
  exact ⟨hc, hp⟩
/-- both halves are merged -/
theorem halves_done {r y z : Array α} {a M b : Nat} (hM : a ≤ M) (hMb : M ≤ b) (hb : b ≤ r.size) (hc : Cross lt a M b r) (p1 : PermIn a M r y) (s1 : SortedIn lt a M y) (p2 : PermIn M b y z) (s2 : SortedIn lt M b z) : SortedIn lt a b z ∧ PermIn a b r z := by
  have hy : y.size = r.size := p1.1
  refine ⟨sorted_join (sorted_other s1 p2 (Or.inl (Nat.le_refl _))) s2 (cross_right (cross_left hc p1 (by omega)) p2 (by omega)), ?_⟩
  exact permIn_trans _ _ _ _ _ (permIn_mono _ _ _ _ _ _ (Nat.le_refl _) hMb hb p1) (permIn_mono _ _ _ _ _ _ hM (Nat.le_refl _) (by omega) p2)
end
end Go.Proofs.YtkjlhcfocefhpaaDoor

/- Base: what may change in memory, and what is known of a tape of numbers. -/
namespace Go.Proofs.YtkjlhcfocefhpaaDoor
open Go.RowKit

/-- the blocks in S are as they were -/
structure Chg (S : Nat → Prop) (w w' : World) : Prop where
  os : w'.os = w.os
  tape : w'.tape = w.tape
  output : w'.output = w.output
  size : w.heap.size ≤ w'.heap.size
  block : ∀ k, S k → w'.heap[k]? = w.heap[k]?

theorem Chg.refl (S : Nat → Prop) (w : World) : Chg S w w := ⟨rfl, rfl, rfl, Nat.le_refl _, fun _ _ => rfl⟩
theorem Chg.trans {S : Nat → Prop} {w1 w2 w3 : World} (h : Chg S w1 w2) (k : Chg S w2 w3) : Chg S w1 w3 :=
  ⟨k.os.trans h.os, k.tape.trans h.tape, k.output.trans h.output, Nat.le_trans h.size k.size, fun i hi => (k.block i hi).trans (h.block i hi)⟩
theorem Chg.mono {S S' : Nat → Prop} {w w' : World} (h : Chg S w w') (hs : ∀ k, S' k → S k) : Chg S' w w' := ⟨h.os, h.tape, h.output, h.size, fun k hk => h.block k (hs k hk)⟩
theorem Chg.of_below {B : Nat} {w w' : World} (h : Below B w w') : Chg (· < B) w w' := ⟨h.os, h.tape, h.output, h.size, h.block⟩
theorem Chg.below {S : Nat → Prop} {w w' : World} (h : Chg S w w') {B : Nat} (hs : ∀ k, k < B → S k) : Below B w w' := ⟨h.os, h.tape, h.output, h.size, fun k hk => h.block k (hs k hk)⟩
theorem Chg.drewN {S : Nat → Prop} {w w' : World} (h : Chg S w w') (n : Nat) : Chg S w (w'.drewN n) := ⟨h.os, h.tape, h.output, h.size, h.block⟩
theorem Chg.drew {S : Nat → Prop} {w w' : World} (h : Chg S w w') : Chg S w (w'.drew) := ⟨h.os, h.tape, h.output, h.size, h.block⟩
theorem Chg.setCell {S : Nat → Prop} {w w' : World} (h : Chg S w w') {p : Addr} (v : Value) (hp : ∀ k, S k → k ≠ p.block) : Chg S w (w'.setCell p v) :=
  h.trans ⟨rfl, rfl, rfl, by simp [World.setCell], fun k hk => Below.heap_setCell w' p v k (hp k hk)⟩
theorem Chg.alloc {S : Nat → Prop} {w w' : World} (h : Chg S w w') (o : Obj) (hp : ∀ k, S k → k < w'.heap.size) : Chg S w (w'.alloc o) :=
  h.trans ⟨rfl, rfl, rfl, by simp, fun k hk => Below.heap_alloc w' o k (hp k hk)⟩
theorem Chg.then {S S' : Nat → Prop} {w w1 w2 : World} (h : Chg S w w1) (k : Chg S' w1 w2) (hs : ∀ k, S k → S' k) : Chg S w w2 := h.trans (k.mono hs)
theorem Chg.next {w w1 w2 : World} (h : Chg (· < w.heap.size) w w1) (k : Chg (· < w1.heap.size) w1 w2) : Chg (· < w.heap.size) w w2 :=
  h.trans (k.mono (fun _ hk => Nat.lt_of_lt_of_le hk h.size))
theorem Chg.cell {S : Nat → Prop} {w w' : World} (h : Chg S w w') {p : Addr} (hp : S p.block) : w'.cell? p = w.cell? p := World.cell?_of_block (h.block _ hp)
theorem Chg.cellv {S : Nat → Prop} {w w' : World} (h : Chg S w w') {p : Addr} {v : Value} (hv : w.cell? p = some v) (hp : S p.block) : w'.cell? p = some v := (h.cell hp).trans hv
theorem Chg.frozen {S : Nat → Prop} {w w' : World} (h : Chg S w w') {p : Addr} (hp : S p.block) : w'.frozen? p = w.frozen? p := World.frozen?_of_block (h.block _ hp)

/-- the two rules that a walk uses behind a call -/
theorem Chg.rules {n b : Nat} {w w' : World} (h : Chg (fun k => k < n ∧ k ≠ b) w w') :
    (∀ k o, k < n → ¬ k = b → w'.cell? ⟨k, o, none⟩ = w.cell? ⟨k, o, none⟩) ∧ (∀ k o, k < n → ¬ k = b → w'.frozen? ⟨k, o, none⟩ = w.frozen? ⟨k, o, none⟩) :=
  ⟨fun k o h1 h2 => h.cell (p := ⟨k, o, none⟩) ⟨h1, h2⟩, fun k o h1 h2 => h.frozen (p := ⟨k, o, none⟩) ⟨h1, h2⟩⟩
theorem Chg.rules' {n : Nat} {w w' : World} (h : Chg (fun k => k < n) w w') :
    (∀ k o, k < n → w'.cell? ⟨k, o, none⟩ = w.cell? ⟨k, o, none⟩) ∧ (∀ k o, k < n → w'.frozen? ⟨k, o, none⟩ = w.frozen? ⟨k, o, none⟩) :=
  ⟨fun k o h1 => h.cell (p := ⟨k, o, none⟩) h1, fun k o h1 => h.frozen (p := ⟨k, o, none⟩) h1⟩

/-- a tape lies at block b: it holds a slice of at most 600 ints and a place; all below B -/
def TP (ty B : Nat) (w : World) (b : Nat) : Prop :=
  ∃ (a : Option Addr) (cap i x o : Nat) (l : List Int),
    w.heap[b]? = some (.cells #[.slice a l.length cap, .int .i64 i] ty (0, 0)) ∧ b < B ∧ l.length ≤ 600 ∧ i ≤ l.length ∧
    (l = [] ∨ (a = some ⟨x, o, none⟩ ∧ x ≠ b ∧ x < B ∧ ∀ j, j < l.length → w.cell? ⟨x, o + j, none⟩ = some (.int .i64 (l.getD j 0))))

theorem TP.chg {ty B : Nat} {w w' : World} {b : Nat} (h : TP ty B w b) {S : Nat → Prop} (k : Chg S w w') (hs : ∀ k, k < B → S k) : TP ty B w' b := by
  obtain ⟨a, cap, i, x, o, l, h1, h2, h3, h4, h5⟩ := h
  refine ⟨a, cap, i, x, o, l, ?_, h2, h3, h4, ?_⟩
  · rw [k.block b (hs b h2)]; exact h1
  · rcases h5 with h5 | ⟨e1, e2, e3, e4⟩
    · exact .inl h5
    · exact .inr ⟨e1, e2, e3, fun j hj => by rw [k.cell (p := ⟨x, o + j, none⟩) (hs x e3)]; exact e4 j hj⟩
theorem TP.mono {ty B B' : Nat} {w : World} {b : Nat} (h : TP ty B w b) (hB : B ≤ B') : TP ty B' w b := by
  obtain ⟨a, cap, i, x, o, l, h1, h2, h3, h4, h5⟩ := h
  refine ⟨a, cap, i, x, o, l, h1, by omega, h3, h4, ?_⟩
  rcases h5 with h5 | ⟨e1, e2, e3, e4⟩
  · exact .inl h5
  · exact .inr ⟨e1, e2, by omega, e4⟩
theorem TP.lt {ty B : Nat} {w : World} {b : Nat} (h : TP ty B w b) : b < B := by
  obtain ⟨a, cap, i, x, o, l, h1, h2, _⟩ := h
  exact h2

/-- a slice (its address and length) that reads as a list, each element as sz cells; its block is in S -/
def Rd {α : Type} (sz : Nat) (enc : α → List Value) (S : Nat → Prop) (w : World) (a : Option Addr) (n : Nat) (l : List α) : Prop :=
  l.length = n ∧ (n = 0 ∨ ∃ x o, a = some ⟨x, o, none⟩ ∧ S x ∧ ∀ j y, l[j]? = some y → ∀ c u, (enc y)[c]? = some u → w.cell? ⟨x, o + j * sz + c, none⟩ = some u)

theorem Rd.chg {α : Type} {sz n : Nat} {S : Nat → Prop} {enc : α → List Value} {w w' : World} {a : Option Addr} {l : List α} (h : Rd sz enc S w a n l) {S' : Nat → Prop} (k : Chg S' w w') (hs : ∀ k, S k → S' k) : Rd sz enc S w' a n l := by
  refine ⟨h.1, ?_⟩
  rcases h.2 with h2 | ⟨x, o, e1, e2, e3⟩
  · exact .inl h2
  · exact .inr ⟨x, o, e1, e2, fun j y hj c u hu => by rw [k.cell (p := ⟨x, _, none⟩) (hs x e2)]; exact e3 j y hj c u hu⟩
theorem Rd.mono {α : Type} {sz n : Nat} {S S' : Nat → Prop} {enc : α → List Value} {w : World} {a : Option Addr} {l : List α} (h : Rd sz enc S w a n l) (hS : ∀ k, S k → S' k) : Rd sz enc S' w a n l := by
  refine ⟨h.1, ?_⟩
  rcases h.2 with h2 | ⟨x, o, e1, e2, e3⟩
  · exact .inl h2
  · exact .inr ⟨x, o, e1, hS x e2, e3⟩
theorem Rd.nil {α : Type} (sz : Nat) (enc : α → List Value) (S : Nat → Prop) (w : World) (a : Option Addr) : Rd sz enc S w a 0 [] := ⟨rfl, .inl rfl⟩
/-- one element -/
theorem Rd.at {α : Type} {sz n : Nat} {S : Nat → Prop} {enc : α → List Value} {w : World} {a : Option Addr} {l : List α} (h : Rd sz enc S w a n l) {j : Nat} (hj : j < n) :
    ∃ x o y, a = some ⟨x, o, none⟩ ∧ S x ∧ l[j]? = some y ∧ ∀ c u, (enc y)[c]? = some u → w.cell? ⟨x, o + j * sz + c, none⟩ = some u := by
  obtain ⟨h1, h2⟩ := h
  rcases h2 with h2 | ⟨x, o, e1, e2, e3⟩
  · omega
  · exact ⟨x, o, l[j]'(by omega), e1, e2, by simp, e3 j _ (by simp)⟩

def encS (s : Int × Int) : List Value := [.int .i64 s.1, .int .i64 s.2]

/-- a block that is known whole, of one cell, of two -/
theorem cells1 {w : World} {k : Nat} {x : Value} {ty : TypeId} (h : w.heap[k]? = some (.cells #[x] ty (0, 0))) : w.cell? ⟨k, 0, none⟩ = some x ∧ w.frozen? ⟨k, 0, none⟩ = false := by simp [World.cell?, World.frozen?, h]
theorem cells2 {w : World} {k : Nat} {x y : Value} {ty : TypeId} (h : w.heap[k]? = some (.cells #[x, y] ty (0, 0))) : w.cell? ⟨k, 0, none⟩ = some x ∧ w.cell? ⟨k, 1, none⟩ = some y ∧ w.frozen? ⟨k, 0, none⟩ = false ∧ w.frozen? ⟨k, 1, none⟩ = false := by simp [World.cell?, World.frozen?, h]

theorem cells3 {w : World} {k : Nat} {x y z : Value} {ty : TypeId} (h : w.heap[k]? = some (.cells #[x, y, z] ty (0, 0))) : w.cell? ⟨k, 0, none⟩ = some x ∧ w.cell? ⟨k, 1, none⟩ = some y ∧ w.cell? ⟨k, 2, none⟩ = some z ∧ w.frozen? ⟨k, 0, none⟩ = false ∧ w.frozen? ⟨k, 1, none⟩ = false ∧ w.frozen? ⟨k, 2, none⟩ = false := by simp [World.cell?, World.frozen?, h]
theorem heap_set {w : World} {k : Nat} {cs : Array Value} {ty : TypeId} {fr : Nat × Nat} (h : w.heap[k]? = some (.cells cs ty fr)) (o : Nat) (v : Value) :
    (w.setCell ⟨k, o, none⟩ v).heap[k]? = some (.cells (cs.setIfInBounds o v) ty fr) := by simp [World.setCell, Array.getElem?_modify, h]
theorem heap_set_ne {w : World} {k : Nat} {p : Addr} {v : Value} {x : Option Obj} (h : w.heap[k]? = x) (hk : k ≠ p.block) : (w.setCell p v).heap[k]? = x := (Below.heap_setCell w p v k hk).trans h
theorem heap_push {w : World} {k : Nat} {o : Obj} {x : Obj} (h : w.heap[k]? = some x) : (w.alloc o).heap[k]? = some x :=
  (Below.heap_alloc w o k (Array.getElem?_eq_some_iff.1 h).1).trans h
theorem heap_new (w : World) (o : Obj) : (w.alloc o).heap[w.heap.size]? = some o := by show (w.heap.push o)[w.heap.size]? = _; simp
theorem heap_lt {w : World} {k : Nat} {x : Obj} (h : w.heap[k]? = some x) : k < w.heap.size := (Array.getElem?_eq_some_iff.1 h).1

theorem flat_at {α : Type} {sz : Nat} {enc : α → List Value} (hsz : ∀ y, (enc y).length = sz) : ∀ (l : List α) (j : Nat) (y : α), l[j]? = some y → ∀ c u, (enc y)[c]? = some u → (l.flatMap enc)[j * sz + c]? = some u
  | [], _, _, h, _, _, _ => by simp at h
  | x :: r, 0, y, h, c, u, hu => by
    simp at h; subst h
    rw [List.flatMap_cons, Nat.zero_mul, Nat.zero_add, List.getElem?_append_left (List.getElem?_eq_some_iff.1 hu).1]; exact hu
  | x :: r, j + 1, y, h, c, u, hu => by
    have h' : r[j]? = some y := by simpa using h
    have := flat_at hsz r j y h' c u hu
    rw [List.flatMap_cons, List.getElem?_append_right (by rw [hsz]; rw [Nat.succ_mul]; omega), hsz]
    rw [show (j + 1) * sz + c - sz = j * sz + c by rw [Nat.succ_mul]; omega]
    exact this
/-- a block reads as a list -/
theorem Rd.block {α : Type} {sz k n : Nat} {enc : α → List Value} {w : World} {cs : Array Value} {ty : TypeId} {fr : Nat × Nat} (l : List α) (h : w.heap[k]? = some (.cells cs ty fr)) (hn : l.length = n) (hsz : ∀ y, (enc y).length = sz)
    (hc : ∀ (i : Nat) (u : Value), (l.flatMap enc)[i]? = some u → cs[i]? = some u) : Rd sz enc (· = k) w (some ⟨k, 0, none⟩) n l := by
  refine ⟨hn, .inr ⟨k, 0, rfl, rfl, fun j y hj c u hu => ?_⟩⟩
  have := hc _ _ (flat_at hsz l j y hj c u hu)
  simp [World.cell?, h, this]
/-- a literal -/
theorem Rd.lit {α : Type} {sz n s : Nat} {S : Nat → Prop} {enc : α → List Value} {w : World} {cs : Array Value} {ty : TypeId} (l : List α) (hs : s = w.heap.size) (hS : S w.heap.size) (hn : l.length = n) (hsz : ∀ y, (enc y).length = sz) (hc : cs = (l.flatMap enc).toArray) : Rd sz enc S (w.alloc (.cells cs ty)) (some ⟨s, 0, none⟩) n l := by
  subst hs hc
  exact (Rd.block l (heap_new w _) hn hsz (fun i u h => by simpa using h)).mono (by intro k hk; subst hk; exact hS)
def encI (x : Int) : List Value := [.int .i64 x]

/-- a slice that the call itself makes, as a list -/
def OwnL {α : Type} (sz : Nat) (enc : α → List Value) (e : TypeId) (base : Nat) (w : World) (v : Value) (l : List α) : Prop := w.ownsRow base e sz v l.length (l.flatMap enc)

theorem OwnL.nil {α : Type} (sz : Nat) (enc : α → List Value) (e : TypeId) (base : Nat) (w : World) : OwnL sz enc e base w (.slice none 0 0) [] := World.ownsRow_nil w base e sz
theorem OwnL.chg {α : Type} {sz e base : Nat} {enc : α → List Value} {w w' : World} {v : Value} {l : List α} (h : OwnL sz enc e base w v l) {S : Nat → Prop} (k : Chg S w w') (hs : ∀ k, k < w.heap.size → v.ownBlock = some k → S k) : OwnL sz enc e base w' v l := by
  refine ⟨h.1, ?_⟩
  rcases h.2 with hn | ⟨g, cap, cur, rfl, hb, hg, rest⟩
  · exact .inl hn
  · exact .inr ⟨g, cap, cur, rfl, hb, (k.block g (hs g (heap_lt hg) rfl)).trans hg, rest⟩
theorem OwnL.alloc {α : Type} {sz e base : Nat} {enc : α → List Value} {w : World} {v : Value} {l : List α} (h : OwnL sz enc e base w v l) (o : Obj) : OwnL sz enc e base (w.alloc o) v l :=
  h.chg ((Chg.refl (· < w.heap.size) w).alloc o (fun _ h => h)) (fun _ h _ => h)
theorem OwnL.rd {α : Type} {sz e base : Nat} {enc : α → List Value} {w : World} {v : Value} {l : List α} (h : OwnL sz enc e base w v l) (hsz : ∀ y, (enc y).length = sz) :
    ∃ a cap, v = .slice a l.length cap ∧ Rd sz enc (fun k => base ≤ k ∧ k < w.heap.size) w a l.length l ∧ l.length ≤ cap ∧ cap ≤ maxLen ∧ (l ≠ [] → ∃ g, a = some ⟨g, 0, none⟩ ∧ base ≤ g) := by
  rcases h.2 with ⟨rfl, hn⟩ | ⟨g, cap, cur, rfl, hb, hg, h1, h2, h3, h4⟩
  · have : l = [] := List.eq_nil_of_length_eq_zero hn
    subst this
    exact ⟨none, 0, rfl, Rd.nil _ _ _ _ _, by simp, by unfold maxLen; omega, fun h => absurd rfl h⟩
  · refine ⟨_, cap, rfl, (Rd.block l hg rfl hsz (fun i u hu => ?_)).mono (fun k hk => by subst hk; exact ⟨hb, heap_lt hg⟩), h1, h2, fun _ => ⟨g, rfl, hb⟩⟩
    rw [← h4, List.getElem?_take] at hu
    split at hu
    · simpa using hu
    · cases hu

/-- append of one element that was just written out -/
theorem wpList_append_lit {P : Program} {α : Type} {enc : α → List Value} {ops : Array Oper} {rest : List Oper} {o : Oper} {a : Act} {Q : Exit → Act → World → Prop} (w0 : World) (hgd : o.guard = none) (s x : Operand) (t : TypeId)
    (ho : o.op = .call { callee := .builtin .append, args := #[s, x], argTypes := #[t, t] })
    (base : Nat) (e : TypeId) (z : Value) (sz bytes : Nat) (ht : P.underlying t = some (.slice e)) (hi : (P.info? e).map (fun i => (i.zero, i.size, i.bytes)) = some (some z, sz, bytes))
    (hzs : z.cells.size = sz) (hsz : 0 < sz) (hby : bytes ≤ 65536)
    (v : Value) (l : List α) (hown : OwnL sz enc e base w0 v l) (hs : a.eval s = v) (y : α) (A : Array Value) (hA : A = (enc y).toArray) (hlen : (enc y).length = sz) (h1 : ∀ u ∈ enc y, u.oneCell' = true)
    (k : Nat) (hk : k = w0.heap.size) (hx : a.eval x = .slice (some ⟨k, 0, none⟩) 1 1) (hl : l.length ≤ 1000000) (hbase : base ≤ w0.heap.size) (e' : TypeId)
    (h : ∀ v' w', OwnL sz enc e base w' v' (l ++ [y]) → Chg (fun k => k < w0.heap.size ∧ ¬ v.ownBlock = some k) w0 w' → Chg (· < base) w0 w' → w0.heap.size < w'.heap.size → wpList P ops Q rest (a.put o.dst v') w') :
    wpList P ops Q (o :: rest) a (w0.alloc (.cells A e')) := by
  subst hA hk
  obtain ⟨i, hi, hz0, hz1, hz2⟩ := info_parts hi
  have hmul : (l.length + 1) * bytes ≤ 1000001 * 65536 := Nat.mul_le_mul (by omega) hby
  refine wpList_append_own _ hgd s x t ho base e i z sz bytes ht hi hz0 hz1 hz2 hzs hsz v l.length (l.flatMap enc) hs (hown.alloc _) ⟨w0.heap.size, 0, none⟩ 1 1 (enc y) hx (by simp [hlen]) ?_ h1 (by unfold maxLen; omega) (by omega) (by simp; omega) ?_
  · intro j u hu
    rw [Addr.add_lit]
    simp only [Nat.zero_add]
    rw [World.cell?, heap_new]
    simpa using hu
  · intro v' w' hown' hgrow hnil
    have hz' := hgrow.size
    simp at hz'
    have hch : Chg (fun k => k < w0.heap.size ∧ ¬ v.ownBlock = some k) w0 w' := ⟨hgrow.os, hgrow.tape, hgrow.output, by omega, fun k hk => by
      rw [hgrow.block k (by simp; omega) (fun h => hk.2 h.symm)]
      exact Below.heap_alloc _ _ _ hk.1⟩
    refine h v' w' ?_ hch (hch.mono fun k hk => ⟨by omega, fun hv => ?_⟩) hz'
    · unfold OwnL
      simpa [List.flatMap_append] using hown'
    · have := hown.lt k hv
      omega

theorem keep4 {b : Nat} {w w' : World} {x0 x1 x2 x3 : Value} (k : Chg (· < w.heap.size) w w') (h : w.cell? ⟨b, 0, none⟩ = some x0 ∧ w.cell? ⟨b, 1, none⟩ = some x1 ∧ w.cell? ⟨b, 2, none⟩ = some x2 ∧ w.cell? ⟨b, 3, none⟩ = some x3) :
    w'.cell? ⟨b, 0, none⟩ = some x0 ∧ w'.cell? ⟨b, 1, none⟩ = some x1 ∧ w'.cell? ⟨b, 2, none⟩ = some x2 ∧ w'.cell? ⟨b, 3, none⟩ = some x3 :=
  have hb : b < w.heap.size := World.block_lt_of_cell? w _ h.1
  ⟨k.cellv h.1 hb, k.cellv h.2.1 hb, k.cellv h.2.2.1 hb, k.cellv h.2.2.2 hb⟩

/-- an empty slice that was just written out -/
theorem OwnL.empty {α : Type} {sz : Nat} {enc : α → List Value} {e : TypeId} {base s : Nat} {w : World} (hb : base ≤ w.heap.size) (hs : s = w.heap.size) : OwnL sz enc e base (w.alloc (.cells #[] e)) (.slice (some ⟨s, 0, none⟩) 0 0) ([] : List α) := by
  subst hs
  exact World.ownsRow_made w #[] 0 hb (by unfold maxLen; omega) (by simp)

/-- append of a whole slice that reads as a list -/
theorem wpList_append_rd {P : Program} {α : Type} {enc : α → List Value} {ops : Array Oper} {rest : List Oper} {o : Oper} {a : Act} {Q : Exit → Act → World → Prop} (w0 : World) (hgd : o.guard = none) (s x : Operand) (t : TypeId)
    (ho : o.op = .call { callee := .builtin .append, args := #[s, x], argTypes := #[t, t] })
    (base : Nat) (e : TypeId) (z : Value) (sz bytes : Nat) (ht : P.underlying t = some (.slice e)) (hi : (P.info? e).map (fun i => (i.zero, i.size, i.bytes)) = some (some z, sz, bytes))
    (hzs : z.cells.size = sz) (hsz : 0 < sz) (hby : bytes ≤ 65536)
    (v : Value) (l : List α) (hown : OwnL sz enc e base w0 v l) (hs : a.eval s = v) (S : Nat → Prop) (A : Option Addr) (n c : Nat) (news : List α) (hrd : Rd sz enc S w0 A n news) (hA : A = none → c = 0) (hlen : ∀ y, (enc y).length = sz) (h1 : ∀ y, ∀ u ∈ enc y, u.oneCell' = true)
    (hx : a.eval x = .slice A n c) (hl : l.length ≤ 1000000) (hn : n ≤ 1000000) (hbase : base ≤ w0.heap.size)
    (h : ∀ v' w', OwnL sz enc e base w' v' (l ++ news) → Chg (fun k => k < w0.heap.size ∧ ¬ v.ownBlock = some k) w0 w' → Chg (· < base) w0 w' → wpList P ops Q rest (a.put o.dst v') w') :
    wpList P ops Q (o :: rest) a w0 := by
  obtain ⟨i, hi, hz0, hz1, hz2⟩ := info_parts hi
  have hmul : (l.length + n) * bytes ≤ 2000000 * 65536 := Nat.mul_le_mul (by omega) hby
  have hnl := hrd.1
  cases A with
  | none =>
    have hc := hA rfl
    have hn0 : n = 0 := by
      rcases hrd.2 with h0 | ⟨x, o, e1, _⟩
      · exact h0
      · cases e1
    subst hn0 hc
    have hnews : news = [] := List.eq_nil_of_length_eq_zero hnl
    subst hnews
    refine wpList_append_own_none hgd s x t ho base e i sz ht hi v l.length (l.flatMap enc) hs hown hx ?_
    exact h v w0 (by simpa using hown) (Chg.refl _ _) (Chg.refl _ _)
  | some ad =>
    refine wpList_append_own _ hgd s x t ho base e i z sz bytes ht hi hz0 hz1 hz2 hzs hsz v l.length (l.flatMap enc) hs hown ad n c (news.flatMap enc) hx ?_ ?_ ?_ (by unfold maxLen; omega) (by omega) hbase ?_
    · have : ∀ l : List α, (l.flatMap enc).length = l.length * sz := by
        intro l
        induction l with
        | nil => simp
        | cons y r ih => rw [List.flatMap_cons, List.length_append, hlen, ih, List.length_cons, Nat.succ_mul]; omega
      rw [this, hnl]
    · intro j u hu
      have hj := (List.getElem?_eq_some_iff.1 hu).1
      rcases hrd.2 with h0 | ⟨x, o, e1, _, e3⟩
      · subst h0
        have : news = [] := List.eq_nil_of_length_eq_zero hnl
        subst this
        simp at hj
      · cases e1
        rw [Addr.add_lit]
        have hdiv : ∃ y, news[j / sz]? = some y ∧ (enc y)[j % sz]? = some u := by
          clear e3 hmul hown h hx hrd
          induction news generalizing j n with
          | nil => simp at hu
          | cons y r ih =>
            rw [List.flatMap_cons] at hu
            by_cases hlt : j < sz
            · rw [List.getElem?_append_left (by rw [hlen]; exact hlt)] at hu
              exact ⟨y, by rw [Nat.div_eq_of_lt hlt]; rfl, by rw [Nat.mod_eq_of_lt hlt]; exact hu⟩
            · rw [List.getElem?_append_right (by rw [hlen]; omega), hlen] at hu
              obtain ⟨y', h1', h2'⟩ := ih (n := n - 1) (j := j - sz) (by omega) (by simp at hnl; omega) hu (List.getElem?_eq_some_iff.1 hu).1
              have e1 : j / sz = (j - sz) / sz + 1 := by
                rw [Nat.div_eq_sub_div hsz (by omega)]
              have e2 : j % sz = (j - sz) % sz := by
                rw [Nat.mod_eq_sub_mod (by omega)]
              exact ⟨y', by rw [e1]; simpa using h1', by rw [e2]; exact h2'⟩
        obtain ⟨y, hy1, hy2⟩ := hdiv
        have := e3 _ y hy1 _ u hy2
        rw [Nat.add_assoc, Nat.mul_comm, Nat.div_add_mod] at this
        exact this
    · intro u hu
      obtain ⟨y, _, hy⟩ := List.mem_flatMap.1 hu
      exact h1 y u hy
    · intro v' w' hown' hgrow hnil
      have hch : Chg (fun k => k < w0.heap.size ∧ ¬ v.ownBlock = some k) w0 w' := ⟨hgrow.os, hgrow.tape, hgrow.output, hgrow.size, fun k hk => hgrow.block k hk.1 (fun h => hk.2 h.symm)⟩
      refine h v' w' ?_ hch (hch.mono fun k hk => ⟨by omega, fun hv => ?_⟩)
      · unfold OwnL
        simpa [List.flatMap_append, hnl] using hown'
      · have := hown.lt k hv
        omega

theorem quiet_of_eq {P : Program} {f : FuncId} {args : Array Value} {w : World} {n : Nat} {v : Value}
    (h : Calls P f args (w.drewN n) fun e w' => e = .returned v ∧ w.drewN n = w') : Calls P f args (w.drewN n) fun e w'' => e = .returned v ∧ ∃ m, w'' = w.drewN m :=
  h.mono fun _ _ ⟨he, hm⟩ => ⟨he, n, hm.symm⟩

theorem tmod_bounds (v n : Int) (hn : 1 ≤ n) : -n < v.tmod n ∧ v.tmod n < n := by
  refine ⟨?_, Int.tmod_lt_of_pos v (by omega)⟩
  have := Int.tmod_lt_of_pos (-v) (show 0 < n by omega)
  rw [Int.neg_tmod] at this
  omega
theorem emod_of_tmod (v n : Int) (hn : 1 ≤ n) : v % n = if v.tmod n < 0 then v.tmod n + n else v.tmod n := by
  obtain ⟨h1, h2⟩ := tmod_bounds v n hn
  have h3 := Int.tmod_eq_emod (a := v) (b := n)
  have h4 := Int.emod_nonneg v (show n ≠ 0 by omega)
  have h5 := Int.emod_lt_of_pos v (show 0 < n by omega)
  have h6 : (n.natAbs : Int) = n := by omega
  split at h3 <;> split <;> omega

/-- what a call hands back that gives some int in a range and may move the tape at b -/
def SomeInt (lo hi : Int) (ty B b : Nat) (w : World) (e : Ending) (w' : World) : Prop :=
  ∃ r : Int, e = .returned (.int .i64 r) ∧ lo ≤ r ∧ r ≤ hi ∧ Chg (fun k => k < w.heap.size ∧ k ≠ b) w w' ∧ TP ty B w' b
end Go.Proofs.YtkjlhcfocefhpaaDoor

/- Walks over the library's stable sort: swapRange, rotate, insertionSort. -/
namespace Go.Proofs.YtkjlhcfocefhpaaDoor
open Go.RowKit Go.Sort Go.Lib

/-- the pair of functions that the sort is given, and the block in which each callee lays it -/
abbrev dta (g : Nat) (lb : Array Value) (sf : Nat) (sb : Array Value) : Value := .agg #[.func (.func g) #[] lb, .func (.func sf) #[] sb]
abbrev dbx (g : Nat) (lb : Array Value) (sf : Nat) (sb : Array Value) : Obj := .cells #[.func (.func g) #[] lb, .func (.func sf) #[] sb] 172

section
variable {α : Type} [Inhabited α] {enc : α → List Value} {kk : Nat} {lt : α → α → Bool}
/-- what a part of the sort leaves -/
def SrtPost (enc : α → List Value) (kk : Nat) (w : World) (blk off : Nat) (P : Array α → Prop) (e : Ending) (w' : World) : Prop :=
  e = .returned (.tuple #[]) ∧ ∃ (m : Nat) (os : Array Obj) (d' : Array α), P d' ∧ w' = sortWorldK enc kk w blk off m d' os

set_option maxHeartbeats 2000000 in
set_option maxRecDepth 100000 in
theorem swaprange_s (hk : ∀ x, (enc x).length = kk) (g : Nat) (lb : Array Value) (sf : Nat) (sb : Array Value) (blk off a b n : Nat) (d : Array α) (w : World)
    (hswap : SwapSwapsK Tryd.prog sf sb enc kk blk off d.size) (hH : HoldsK enc kk w blk off d) (hblk : blk < w.heap.size) (hab : a + n ≤ b) (hb : b + n ≤ d.size) (hsz : d.size < 4611686018427387904) :
    Calls Tryd.prog 151 #[dta g lb sf sb, .int .i64 a, .int .i64 b, .int .i64 n] w (SrtPost enc kk w blk off fun d' => SwR d a b n d' ∧ PermIn a (b + n) d d') := by
  have hH1 : HoldsK enc kk (w.alloc (dbx g lb sf sb)) blk off d := by rw [alloc_eq_grow]; exact holdsK_grow enc kk w _ blk off d hblk hH
  go_enter Tryd.func151, Tryd.ntmps151
  go_wp2
  go_loopw [8] (fun vi wr => ∃ (i m : Nat) (dk : Array α), vi = .int .i64 i ∧ i ≤ n ∧ dk.size = d.size ∧ SwR d a b i dk ∧ PermIn a (b + n) d dk ∧ wr = putRowK enc kk (Sort.ahead (w.alloc (dbx g lb sf sb)) m) blk off dk) (fun vi _ => n - (intOf vi).toNat)
  case atStart => exact ⟨0, 0, d, rfl, by omega, rfl, swR_zero _ _ _, permIn_refl _ _ _, (putRowK_self _ _ _ _ _ _ hH1).symm⟩
  case round =>
    obtain ⟨i, m, dk, rfl, hin, hds, hsw, hpm, hwr⟩ := hrel
    have HSW := Lib.hid hsw
    have HPM := Lib.hid hpm
    by_cases hlt : i < n
    · have hHk : HoldsK enc kk wr blk off dk := by rw [hwr]; exact holdsK_putRowK enc kk _ blk off d dk (holdsK_ahead enc kk _ m blk off d hH1) hds
      have c1 : wr.cell? ⟨w.heap.size, 1, none⟩ = some (.func (.func sf) #[] sb) := by
        rw [hwr, cell?_putRowK_other enc kk _ blk off dk _ (by show w.heap.size ≠ blk; omega)]; show (w.alloc (dbx g lb sf sb)).cell? _ = _; simp
      have hs := hswap wr dk hHk hds (a + i) (b + i) (by omega) (by omega)
      rw [show (((a + i : Nat) : Int)) = (a : Int) + i by omega, show (((b + i : Nat) : Int)) = (b : Int) + i by omega] at hs
      have A := Lib.hid hwr
      clear hwr hHk hH hH1 hswap hsw hpm
      go_wp2
      go_roundw
      case rel =>
        refine ⟨i + 1, m, swp dk (a + i) (b + i), by go_num, by omega, by rw [Sort.size_swp]; exact hds, swR_step HSW.out (by omega) (by omega), permIn_trans _ _ _ _ _ HPM.out (swp_permIn _ _ _ _ _ (by omega) (by omega) (by omega) (by omega) (by omega)), ?_⟩
        rw [A.out, ← putRowK_swp enc kk hk _ blk off dk (a + i) (b + i) (by omega) (by omega)]
      case measure => simp [intOf]; omega
    · obtain rfl : i = n := by omega
      clear hsw hpm hswap
      go_wp2
      go_end0
      exact ⟨rfl, m, #[dbx g lb sf sb], dk, ⟨HSW.out, HPM.out⟩, sortWorldK_of_alloc enc kk w _ blk off m dk hblk⟩

set_option maxHeartbeats 2000000 in
set_option maxRecDepth 100000 in
theorem rotate_s (hk : ∀ x, (enc x).length = kk) (g : Nat) (lb : Array Value) (sf : Nat) (sb : Array Value) (blk off a m b : Nat) (d : Array α) (w : World)
    (hswap : SwapSwapsK Tryd.prog sf sb enc kk blk off d.size) (hH : HoldsK enc kk w blk off d) (hblk : blk < w.heap.size) (ham : a < m) (hmb : m < b) (hb : b ≤ d.size) (hsz : d.size < 4611686018427387904) :
    Calls Tryd.prog 150 #[dta g lb sf sb, .int .i64 a, .int .i64 m, .int .i64 b] w (SrtPost enc kk w blk off fun d' => Rot d a m b d' ∧ PermIn a b d d') := by
  have hH1 : HoldsK enc kk (w.alloc (dbx g lb sf sb)) blk off d := by rw [alloc_eq_grow]; exact holdsK_grow enc kk w _ blk off d hblk hH
  have hb1 : blk < (w.alloc (dbx g lb sf sb)).heap.size := by rw [alloc_eq_grow, size_grow]; omega
  have hst : w.alloc (dbx g lb sf sb) = sortWorldK enc kk w blk off 0 d #[dbx g lb sf sb] := by
    rw [← sortWorldK_of_alloc enc kk w _ blk off 0 d hblk]; exact (putRowK_self enc kk _ blk off d hH1).symm
  have HST := Lib.hid hst
  have HSWP := Lib.hid hswap
  have HH := Lib.hid hH
  clear hst hswap hH hH1
  go_enter Tryd.func150, Tryd.ntmps150
  go_wp2
  go_loopw [8, 9] (fun vi vj wr => ∃ (i j n : Nat) (dk : Array α) (os : Array Obj), vi = .int .i64 i ∧ vj = .int .i64 j ∧ 0 < i ∧ 0 < j ∧ i ≤ m - a ∧ j ≤ b - m ∧ dk.size = d.size ∧ PermIn a b d dk ∧ (∀ r, Rot dk (m - i) m (m + j) r → Rot d a m b r) ∧
      wr = sortWorldK enc kk w blk off n dk os ∧ wr.cell? ⟨w.heap.size, 0, none⟩ = some (.func (.func g) #[] lb) ∧ wr.cell? ⟨w.heap.size, 1, none⟩ = some (.func (.func sf) #[] sb)) (fun vi vj _ => (intOf vi).toNat + (intOf vj).toNat)
  case atStart =>
    refine ⟨m - a, b - m, 0, d, #[dbx g lb sf sb], by rw [Int.natCast_sub (by omega)], by rw [Int.natCast_sub (by omega)], by omega, by omega, by omega, by omega, rfl, permIn_refl _ _ _, ?_, HST.out, by simp, by simp⟩
    intro r hr
    rwa [show m - (m - a) = a by omega, show m + (b - m) = b by omega] at hr
  case round =>
    obtain ⟨i, j, n, dk, os, rfl, rfl, hi0, hj0, him, hjb, hds, hpm, hrot, hwr, c0, c1⟩ := hrel
    have HROT := Lib.hid hrot
    have HPM := Lib.hid hpm
    have HWR := Lib.hid hwr
    have hHk : HoldsK enc kk wr blk off dk := by rw [hwr]; exact holdsK_sortWorldK enc kk w blk off n d dk os hblk HH.out hds
    have hlt : blk < wr.heap.size := by rw [hwr]; exact lt_sortWorldK enc kk w blk off n dk os hblk
    have hg : w.heap.size ≠ blk := by omega
    have hgw : w.heap.size < wr.heap.size := World.block_lt_of_cell? wr _ c0
    -- a cell of the pair of functions behind a further piece of the sort
    have CC : Hid (∀ kx v, wr.cell? ⟨w.heap.size, kx, none⟩ = some v → ∀ n' (X : Array α) os', (sortWorldK enc kk wr blk off n' X os').cell? ⟨w.heap.size, kx, none⟩ = some v) := Lib.hid (fun kx v hv n' X os' => by
      unfold sortWorldK
      rw [cell?_grow _ _ _ (by rw [size_putRowK]; exact hgw), cell?_putRowK_other enc kk _ blk off _ _ hg]
      exact hv)
    clear hrot hpm hwr hg hgw
    by_cases hij : i = j
    · subst hij
      have hc := swaprange_s hk g lb sf sb blk off (m - i) m i dk wr (by rw [hds]; exact HSWP.out) hHk hlt (by omega) (by omega) (by omega)
      rw [show (((m - i : Nat) : Int)) = (m : Int) - i by omega] at hc
      have hb0 : ((i : Int) != (i : Int)) = false := by simp
      clear hHk
      go_wp2_with (refine hc.mono ?_; rintro e w1 ⟨rfl, n1, os1, d1, ⟨s1, p1⟩, rfl⟩)
      go_end0
      refine ⟨rfl, n + n1, os ++ os1, d1, ⟨HROT.out d1 (rot_eq (by omega) s1), permIn_trans _ _ _ _ _ HPM.out (permIn_mono _ _ _ _ _ _ (by omega) (by omega) (by omega) p1)⟩, ?_⟩
      rw [HWR.out]
      exact sortWorldK_on enc kk w blk off n n1 dk d1 os os1 hblk p1.1
    · have hb0 : ((i : Int) != (j : Int)) = true := by rw [bne_iff_ne]; omega
      by_cases hgt : j < i
      · have hc := swaprange_s hk g lb sf sb blk off (m - i) m j dk wr (by rw [hds]; exact HSWP.out) hHk hlt (by omega) (by omega) (by omega)
        rw [show (((m - i : Nat) : Int)) = (m : Int) - i by omega] at hc
        clear hHk
        go_wp2_with (refine hc.mono ?_; rintro e w1 ⟨rfl, n1, os1, d1, ⟨s1, p1⟩, rfl⟩)
        go_roundw
        case rel =>
          refine ⟨i - j, j, n + n1, d1, os ++ os1, by rw [Int.natCast_sub (by omega)], rfl, by omega, by omega, by omega, by omega, by rw [p1.1]; exact hds, permIn_trans _ _ _ _ _ HPM.out (permIn_mono _ _ _ _ _ _ (by omega) (by omega) (by omega) p1), fun r hr => HROT.out r (rot_big hgt (by omega) s1 hr), ?_, CC.out _ _ c0 _ _ _, CC.out _ _ c1 _ _ _⟩
          rw [HWR.out]
          exact sortWorldK_on enc kk w blk off n n1 dk d1 os os1 hblk p1.1
        case measure => simp [intOf]; omega
      · have hlt2 : ¬ j < i := hgt
        have hc := swaprange_s hk g lb sf sb blk off (m - i) (m + j - i) i dk wr (by rw [hds]; exact HSWP.out) hHk hlt (by omega) (by omega) (by omega)
        rw [show (((m - i : Nat) : Int)) = (m : Int) - i by omega, show (((m + j - i : Nat) : Int)) = (m : Int) + j - i by omega] at hc
        clear hHk
        go_wp2_with (refine hc.mono ?_; rintro e w1 ⟨rfl, n1, os1, d1, ⟨s1, p1⟩, rfl⟩)
        go_roundw
        case rel =>
          refine ⟨i, j - i, n + n1, d1, os ++ os1, rfl, by rw [Int.natCast_sub (by omega)], by omega, by omega, by omega, by omega, by rw [p1.1]; exact hds, permIn_trans _ _ _ _ _ HPM.out (permIn_mono _ _ _ _ _ _ (by omega) (by omega) (by omega) p1), fun r hr => HROT.out r (rot_small (by omega) (by omega) s1 hr), ?_, CC.out _ _ c0 _ _ _, CC.out _ _ c1 _ _ _⟩
          rw [HWR.out]
          exact sortWorldK_on enc kk w blk off n n1 dk d1 os os1 hblk p1.1
        case measure => simp [intOf]; omega
end
end Go.Proofs.YtkjlhcfocefhpaaDoor

/- Walks over the library's stable sort: insertionSort, symMerge, stable. -/
namespace Go.Proofs.YtkjlhcfocefhpaaDoor
open Go.RowKit Go.Sort Go.Lib

section
variable {α : Type} [Inhabited α] {enc : α → List Value} {kk : Nat} {lt : α → α → Bool}

theorem drewN_grow (w : World) (os : Array Obj) (q : Nat) : (Sort.grow w os).drewN q = Sort.grow (w.drewN q) os := rfl
theorem sortWorldK_drewN (w : World) (blk off n q : Nat) (d : Array α) (os : Array Obj) : (sortWorldK enc kk w blk off n d os).drewN q = sortWorldK enc kk w blk off (n + q) d os := by
  unfold sortWorldK
  rw [drewN_grow, putRowK_drewN]
/-- what is asked of the comparison: in every world that the sort passes through it gives lt, and it makes new blocks at most -/
def LessG (P : Program) (g : Nat) (lb : Array Value) (enc : α → List Value) (k : Nat) (lt : α → α → Bool) (blk off size : Nat) (w : World) : Prop :=
  ∀ (m : Nat) (os : Array Obj) (dk : Array α), dk.size = size → ∀ i j : Nat, i < size → j < size →
    Calls P g (#[.int .i64 i, .int .i64 j] ++ lb) (sortWorldK enc k w blk off m dk os) fun e w' => e = .returned (.bool (lt dk[i]! dk[j]!)) ∧ ∃ (q : Nat) (os' : Array Obj), w' = sortWorldK enc k w blk off (m + q) dk (os ++ os')
theorem LessG.on {g : Nat} {lb : Array Value} {blk off size : Nat} {w : World} (h : LessG Tryd.prog g lb enc kk lt blk off size w) (hblk : blk < w.heap.size) (n : Nat) (dk : Array α) (os : Array Obj) (hs : dk.size = size) :
    LessG Tryd.prog g lb enc kk lt blk off size (sortWorldK enc kk w blk off n dk os) := fun m os' dk' hs' i j hi hj => by
  rw [sortWorldK_on enc kk w blk off n m dk dk' os os' hblk (hs'.trans hs.symm)]
  refine (h _ _ dk' hs' i j hi hj).mono ?_
  rintro e w' ⟨rfl, q, os2, rfl⟩
  refine ⟨rfl, q, os2, ?_⟩
  rw [sortWorldK_on enc kk w blk off n (m + q) dk dk' os (os' ++ os2) hblk (hs'.trans hs.symm), Array.append_assoc, Nat.add_assoc]
/-- a world on the way of a part of the sort: the row reads as dk, block B holds the pair of functions -/
def InS (enc : α → List Value) (kk : Nat) (w : World) (blk off size B : Nat) (v0 v1 : Value) (dk : Array α) (wr : World) : Prop :=
  dk.size = size ∧ blk < w.heap.size ∧ B ≠ blk ∧ wr.cell? ⟨B, 0, none⟩ = some v0 ∧ wr.cell? ⟨B, 1, none⟩ = some v1 ∧ (∃ d0 : Array α, HoldsK enc kk w blk off d0 ∧ d0.size = size) ∧ ∃ n os, wr = sortWorldK enc kk w blk off n dk os
variable {w wr w' : World} {blk off size B : Nat} {v0 v1 : Value} {dk d : Array α}
theorem InS.start {g : Nat} {lb : Array Value} {sf : Nat} {sb : Array Value} (hH : HoldsK enc kk w blk off d) (hblk : blk < w.heap.size) : InS enc kk w blk off d.size w.heap.size (.func (.func g) #[] lb) (.func (.func sf) #[] sb) d (w.alloc (dbx g lb sf sb)) := by
  refine ⟨rfl, hblk, by omega, by simp, by simp, ⟨d, hH, rfl⟩, 0, #[dbx g lb sf sb], ?_⟩
  have hH1 : HoldsK enc kk (w.alloc (dbx g lb sf sb)) blk off d := by rw [alloc_eq_grow]; exact holdsK_grow enc kk w _ blk off d hblk hH
  rw [← sortWorldK_of_alloc enc kk w _ blk off 0 d hblk]
  exact (putRowK_self enc kk _ blk off d hH1).symm
theorem InS.sz (h : InS enc kk w blk off size B v0 v1 dk wr) : dk.size = size := h.1
theorem InS.c0 (h : InS enc kk w blk off size B v0 v1 dk wr) : wr.cell? ⟨B, 0, none⟩ = some v0 := h.2.2.2.1
theorem InS.c1 (h : InS enc kk w blk off size B v0 v1 dk wr) : wr.cell? ⟨B, 1, none⟩ = some v1 := h.2.2.2.2.1
theorem InS.holds (h : InS enc kk w blk off size B v0 v1 dk wr) : HoldsK enc kk wr blk off dk := by
  obtain ⟨h1, h2, h3, h4, h5, ⟨d0, hd, hs⟩, n, os, rfl⟩ := h
  exact holdsK_sortWorldK enc kk w blk off n d0 dk os h2 hd (by omega)
theorem InS.hlt (h : InS enc kk w blk off size B v0 v1 dk wr) : blk < wr.heap.size := by
  obtain ⟨h1, h2, h3, h4, h5, ⟨d0, hd, hs⟩, n, os, rfl⟩ := h
  exact lt_sortWorldK enc kk w blk off n dk os h2
theorem InS.drewN (h : InS enc kk w blk off size B v0 v1 dk wr) (q : Nat) : InS enc kk w blk off size B v0 v1 dk (wr.drewN q) := by
  obtain ⟨h1, h2, h3, h4, h5, h6, n, os, rfl⟩ := h
  exact ⟨h1, h2, h3, h4, h5, h6, n + q, os, sortWorldK_drewN _ _ _ _ _ _ _⟩
/-- behind a further piece of the sort -/
theorem InS.on (h : InS enc kk w blk off size B v0 v1 dk wr) {n' : Nat} {d' : Array α} {os' : Array Obj} (hs : d'.size = dk.size) : InS enc kk w blk off size B v0 v1 d' (sortWorldK enc kk wr blk off n' d' os') := by
  have hB := World.block_lt_of_cell? wr _ h.c0
  have hB : B < wr.heap.size := hB
  have hc : ∀ kx v, wr.cell? ⟨B, kx, none⟩ = some v → (sortWorldK enc kk wr blk off n' d' os').cell? ⟨B, kx, none⟩ = some v := fun kx v hv => by
    unfold sortWorldK
    rw [cell?_grow _ _ _ (by rw [size_putRowK]; exact hB), cell?_putRowK_other enc kk _ blk off _ _ h.2.2.1]
    exact hv
  refine ⟨hs.trans h.sz, h.2.1, h.2.2.1, hc _ _ h.c0, hc _ _ h.c1, h.2.2.2.2.2.1, ?_⟩
  obtain ⟨h1, h2, h3, h4, h5, h6, n, os, rfl⟩ := h
  exact ⟨n + n', os ++ os', sortWorldK_on enc kk w blk off n n' dk d' os os' h2 hs⟩
theorem InS.post (h : InS enc kk w blk off size B v0 v1 dk wr) {P : Array α → Prop} (hp : P dk) : SrtPost enc kk w blk off P (.returned (.tuple #[])) wr := by
  obtain ⟨h1, h2, h3, h4, h5, h6, n, os, rfl⟩ := h
  exact ⟨rfl, n, os, dk, hp, rfl⟩
theorem InS.lessReads {g : Nat} {lb : Array Value} (h : InS enc kk w blk off size B v0 v1 dk wr) (hl : LessG Tryd.prog g lb enc kk lt blk off size w) : LessG Tryd.prog g lb enc kk lt blk off dk.size wr := by
  obtain ⟨h1, h2, h3, h4, h5, h6, n, os, rfl⟩ := h
  rw [h1]
  exact hl.on h2 n dk os h1
/-- a comparison -/
theorem InS.less {g : Nat} {lb : Array Value} (h : InS enc kk w blk off size B v0 v1 dk wr) (hl : LessG Tryd.prog g lb enc kk lt blk off size w) {i j : Nat} (hi : i < size) (hj : j < size) (b : Bool) (hb : lt dk[i]! dk[j]! = b) :
    Calls Tryd.prog g (#[.int .i64 i, .int .i64 j] ++ lb) wr fun e w' => e = .returned (.bool b) ∧ InS enc kk w blk off size B v0 v1 dk w' := by
  have h0 := h
  obtain ⟨h1, h2, h3, h4, h5, h6, n, os, rfl⟩ := h
  refine (hl n os dk h1 i j hi hj).mono ?_
  rintro e w' ⟨rfl, q, os', rfl⟩
  have e1 : sortWorldK enc kk w blk off (n + q) dk (os ++ os') = sortWorldK enc kk (sortWorldK enc kk w blk off n dk os) blk off q dk os' := (sortWorldK_on enc kk w blk off n q dk dk os os' h2 rfl).symm
  refine ⟨by rw [hb], ?_⟩
  rw [e1]
  exact h0.on rfl
/-- an exchange -/
theorem InS.swap (hk : ∀ x, (enc x).length = kk) {sf : Nat} {sb : Array Value} (h : InS enc kk w blk off size B v0 v1 dk wr) (hswap : SwapSwapsK Tryd.prog sf sb enc kk blk off size) {i j : Nat} (hi : i < size) (hj : j < size) :
    ∃ w', (callFunc sf (#[.int .i64 i, .int .i64 j] ++ sb)).run Tryd.prog wr = .ok (.value (.tuple #[])) w' ∧ InS enc kk w blk off size B v0 v1 (swp dk i j) w' := by
  refine ⟨_, hswap wr dk h.holds h.sz i j hi hj, ?_⟩
  have hsz := h.sz
  have e : ((wr.setCells blk (off + i * kk) (enc dk[j]!)).setCells blk (off + j * kk) (enc dk[i]!)) = sortWorldK enc kk wr blk off 0 (swp dk i j) #[] := by
    unfold sortWorldK
    rw [grow_empty]
    have := putRowK_swp enc kk hk wr blk off dk i j (by omega) (by omega)
    rw [putRowK_self enc kk wr blk off dk h.holds] at this
    exact this
  rw [e]
  exact h.on (Sort.size_swp _ _ _)

variable (hk : ∀ x, (enc x).length = kk) (hS : SWO lt) (g : Nat) (lb : Array Value) (sf : Nat) (sb : Array Value)
set_option maxHeartbeats 2000000 in
set_option maxRecDepth 100000 in
include hk hS in
theorem insertion_s (eg : ∀ args w, (callFunc g args).run Tryd.prog w = .ok (.enter g args) w) (blk off a b : Nat) (d : Array α) (w : World)
    (hless : LessG Tryd.prog g lb enc kk lt blk off d.size w) (hswap : SwapSwapsK Tryd.prog sf sb enc kk blk off d.size) (hH : HoldsK enc kk w blk off d) (hblk : blk < w.heap.size) (hab : a ≤ b) (hb : b ≤ d.size) (hsz : d.size < 4611686018427387904) :
    Calls Tryd.prog 148 #[dta g lb sf sb, .int .i64 a, .int .i64 b] w (SrtPost enc kk w blk off fun d' => PermIn a b d d' ∧ SortedIn lt a b d') := by
  have H0 := Lib.hid (InS.start (g := g) (lb := lb) (sf := sf) (sb := sb) hH hblk)
  have HLESS := Lib.hid hless
  have HSWP := Lib.hid hswap
  have HEND := Lib.hid (insertionSort_holds hS d a b hab hb)
  clear hless hswap hH
  go_enter Tryd.func148, Tryd.ntmps148
  go_wp2
  go_loopw [6] (fun vi wr => ∃ (i : Nat) (dk : Array α), vi = .int .i64 i ∧ a < i ∧ i ≤ b + 1 ∧ InS enc kk w blk off d.size w.heap.size (.func (.func g) #[] lb) (.func (.func sf) #[] sb) dk wr ∧ insOuter lt a b i dk = insOuter lt a b (a + 1) d) (fun vi _ => b + 1 - (intOf vi).toNat)
  case atStart => exact ⟨a + 1, d, by go_num, by omega, by omega, H0.out, rfl⟩
  case round =>
    obtain ⟨i, dk, rfl, hai, hib, hI, hO⟩ := hrel
    have HO := Lib.hid hO
    clear hO
    by_cases hlt : i < b
    · have hlti : (i : Int) < (b : Int) := by omega
      go_wp2
      go_loopw [7] (fun vj wr2 => ∃ (j : Nat) (dj : Array α), vj = .int .i64 j ∧ a ≤ j ∧ j ≤ i ∧ InS enc kk w blk off d.size w.heap.size (.func (.func g) #[] lb) (.func (.func sf) #[] sb) dj wr2 ∧ insInner lt a j dj = insInner lt a i dk) (fun vj _ => (intOf vj).toNat)
      case atStart => exact ⟨i, dk, rfl, by omega, Nat.le_refl _, hI, rfl⟩
      case round =>
        clear hI
        obtain ⟨j, dj, rfl, haj, hji, hI, hIn⟩ := hrel
        have HI := Lib.hid hIn
        have HIS := Lib.hid hI
        have c0 := hI.c0
        have hsj := hI.sz
        clear hIn
        have OUT : Hid ((j ≤ a ∨ lt dj[j]! dj[j - 1]! = false) → insOuter lt a b (i + 1) dj = insOuter lt a b (a + 1) d) := Lib.hid (fun hs => by
          rw [← HO.out, insOuter_go _ _ _ _ _ hlt, ← HI.out, insInner_stop _ _ _ _ hs])
        by_cases hja : a < j
        · cases hlv : lt dj[j]! dj[j - 1]! with
          | true =>
            have HLV := Lib.hid hlv
            have hl := hI.less HLESS.out (i := j) (j := j - 1) (by omega) (by omega) true hlv
            rw [show (((j - 1 : Nat) : Int)) = (j : Int) - 1 by omega] at hl
            clear hI hlv
            go_wp2_with fail
            refine hl.mono ?_
            rintro e w1 ⟨rfl, hI1⟩
            have c1 := hI1.c1
            obtain ⟨w2, hs, hI2⟩ := hI1.swap hk HSWP.out (i := j) (j := j - 1) (by omega) (by omega)
            rw [show (((j - 1 : Nat) : Int)) = (j : Int) - 1 by omega] at hs
            clear hl c0
            go_wp2
            go_roundw
            case rel =>
              refine ⟨j - 1, swp dj j (j - 1), by rw [show ((j - 1 : Nat) : Int) = (j : Int) - 1 by omega], by omega, by omega, hI2, ?_⟩
              rw [← HI.out, insInner_go lt a j dj hja HLV.out]
            case measure => simp [intOf]; omega
          | false =>
            have HLV := Lib.hid hlv
            have hl := hI.less HLESS.out (i := j) (j := j - 1) (by omega) (by omega) false hlv
            rw [show (((j - 1 : Nat) : Int)) = (j : Int) - 1 by omega] at hl
            clear hI hlv
            go_wp2_with (go_at_fn g; refine hl.mono ?_; rintro e w1 ⟨rfl, hI1⟩)
            go_roundw
            case rel => exact ⟨i + 1, dj, by go_num, by omega, by omega, hI1, OUT.out (Or.inr HLV.out)⟩
            case measure => simp [intOf]; omega
        · clear hI
          go_wp2
          go_roundw
          case rel => exact ⟨i + 1, dj, by go_num, by omega, by omega, HIS.out, OUT.out (Or.inl (by omega))⟩
          case measure => simp [intOf]; omega
    · have hge : ¬ (i : Int) < (b : Int) := by omega
      have HIS := Lib.hid hI
      clear hI
      go_wp2
      go_end0
      refine HIS.out.post ?_
      have := HEND.out
      unfold Sort.insertionSort at this
      rw [← HO.out, insOuter_stop _ _ _ _ _ hlt] at this
      exact this
end
end Go.Proofs.YtkjlhcfocefhpaaDoor

/- Walks over the library's stable sort: symMerge. -/
namespace Go.Proofs.YtkjlhcfocefhpaaDoor
open Go.RowKit Go.Sort Go.Lib

section
variable {α : Type} [Inhabited α] {enc : α → List Value} {kk : Nat} {lt : α → α → Bool}
variable (hk : ∀ x, (enc x).length = kk) (hS : SWO lt) (g : Nat) (lb : Array Value) (sf : Nat) (sb : Array Value)

set_option maxHeartbeats 2000000 in
set_option maxRecDepth 100000 in
include hk hS in
theorem sym_left (eg : ∀ args w, (callFunc g args).run Tryd.prog w = .ok (.enter g args) w) (blk off a m b : Nat) (d : Array α) (w : World)
    (hless : LessG Tryd.prog g lb enc kk lt blk off d.size w) (hswap : SwapSwapsK Tryd.prog sf sb enc kk blk off d.size) (hH : HoldsK enc kk w blk off d) (hblk : blk < w.heap.size) (ham : m = a + 1) (hmb : m < b) (hb : b ≤ d.size) (hsz : d.size < 4611686018427387904)
    (hr : SortedIn lt m b d) :
    Calls Tryd.prog 149 #[dta g lb sf sb, .int .i64 a, .int .i64 m, .int .i64 b] w (SrtPost enc kk w blk off fun d' => PermIn a b d d' ∧ SortedIn lt a b d') := by
  have H0 := Lib.hid (InS.start (g := g) (lb := lb) (sf := sf) (sb := sb) hH hblk)
  have HLESS := Lib.hid hless
  have HSWP := Lib.hid hswap
  have HR := Lib.hid hr
  have HAM := Lib.hid ham
  have t1 : ((m : Int) - (a : Int) == 1) = true := by rw [beq_iff_eq]; omega
  have hma : a < m := by omega
  have hma2 : m ≤ a + 1 := by omega
  clear hless hswap hH hr ham
  go_enter Tryd.func149, Tryd.ntmps149
  go_wp2
  go_loopw [8, 9] (fun vi vj wr => ∃ (i j : Nat), vi = .int .i64 i ∧ vj = .int .i64 j ∧ m ≤ i ∧ i ≤ j ∧ j ≤ b ∧ (i = m ∨ lt d[i - 1]! d[a]! = true) ∧ (j = b ∨ lt d[j]! d[a]! = false) ∧ InS enc kk w blk off d.size w.heap.size (.func (.func g) #[] lb) (.func (.func sf) #[] sb) d wr) (fun vi vj _ => (intOf vj).toNat - (intOf vi).toNat)
  case atStart => exact ⟨m, b, rfl, rfl, Nat.le_refl _, by omega, Nat.le_refl _, .inl rfl, .inl rfl, H0.out⟩
  case round =>
    obtain ⟨i, j, rfl, rfl, hi, hij, hj, hI1, hJ1, hI⟩ := hrel
    have HI1 := Lib.hid hI1
    have HJ1 := Lib.hid hJ1
    have HIS := Lib.hid hI
    have c0 := hI.c0
    clear hI1 hJ1
    by_cases hlt : i < j
    · have hlti : (i : Int) < (j : Int) := by omega
      cases hlv : lt d[(i + j) / 2]! d[a]! with
      | true =>
        have HLV := Lib.hid hlv
        have hl := hI.less HLESS.out (i := (i + j) / 2) (j := a) (by omega) (by omega) true hlv
        rw [show ((((i + j) / 2 : Nat) : Int)) = ((i : Int) + (j : Int)) / 2 by omega] at hl
        clear hI hlv
        go_wp2_with (go_at_fn g; refine hl.mono ?_; rintro e w1 ⟨rfl, hI1⟩)
        go_roundw
        case rel => exact ⟨(i + j) / 2 + 1, j, by rw [show ((i : Int) + (j : Int)) / 2 + 1 = (((i + j) / 2 + 1 : Nat) : Int) by omega], rfl, by omega, by omega, hj, .inr (by rw [Nat.add_sub_cancel]; exact HLV.out), HJ1.out, hI1⟩
        case measure => simp [intOf]; omega
      | false =>
        have HLV := Lib.hid hlv
        have hl := hI.less HLESS.out (i := (i + j) / 2) (j := a) (by omega) (by omega) false hlv
        rw [show ((((i + j) / 2 : Nat) : Int)) = ((i : Int) + (j : Int)) / 2 by omega] at hl
        clear hI hlv
        go_wp2_with (go_at_fn g; refine hl.mono ?_; rintro e w1 ⟨rfl, hI1⟩)
        go_roundw
        case rel => exact ⟨i, (i + j) / 2, rfl, by rw [show ((i : Int) + (j : Int)) / 2 = (((i + j) / 2 : Nat) : Int) by omega], hi, by omega, by omega, HI1.out, .inr HLV.out, hI1⟩
        case measure => simp [intOf]; omega
    · have hge : ¬ (i : Int) < (j : Int) := by omega
      have hij2 : j ≤ i := by omega
      clear hI c0 hlt
      go_wp2
      go_loopw [11] (fun vk wr2 => ∃ (k : Nat) (dk : Array α), vk = .int .i64 k ∧ a ≤ k ∧ k + 1 ≤ i ∧ Rot d a (a + 1) (k + 1) dk ∧ PermIn a b d dk ∧ InS enc kk w blk off d.size w.heap.size (.func (.func g) #[] lb) (.func (.func sf) #[] sb) dk wr2) (fun vk _ => i - (intOf vk).toNat)
      case atStart => exact ⟨a, d, rfl, Nat.le_refl _, by omega, rot_refl_r d a (a + 1) (by omega), permIn_refl _ _ _, HIS.out⟩
      case round =>
        obtain ⟨k, dk, rfl, hak, hki, hrot, hpm, hI⟩ := hrel
        have HROT := Lib.hid hrot
        have HPM := Lib.hid hpm
        have c1 := hI.c1
        have hsk := hI.sz
        clear hrot hpm
        by_cases hlt : k + 1 < i
        · have hlti : (k : Int) < (i : Int) - 1 := by omega
          obtain ⟨w2, hs, hI2⟩ := hI.swap hk HSWP.out (i := k) (j := k + 1) (by omega) (by omega)
          rw [show (((k + 1 : Nat) : Int)) = (k : Int) + 1 by omega] at hs
          clear hI
          go_wp2
          go_roundw
          case rel => exact ⟨k + 1, swp dk k (k + 1), by go_num, by omega, by omega, rot_up HROT.out hak (by omega), permIn_trans _ _ _ _ _ HPM.out (swp_permIn _ _ _ _ _ (by omega) (by omega) (by omega) (by omega) (by omega)), hI2⟩
          case measure => simp [intOf]; omega
        · have hge2 : ¬ (k : Int) < (i : Int) - 1 := by omega
          have HI := Lib.hid hI
          clear hI c1
          go_wp2
          go_end0
          refine HI.out.post ⟨HPM.out, ?_⟩
          have hm := HAM.out
          subst hm
          have e1 : k + 1 = i := by omega
          have e2 : j = i := by omega
          have h3 := HROT.out
          rw [e1] at h3
          have h4 := HJ1.out
          rw [e2] at h4
          exact one_left hS (by omega) (by omega) HR.out HI1.out h4 h3

set_option maxHeartbeats 2000000 in
set_option maxRecDepth 100000 in
include hk hS in
theorem sym_right (eg : ∀ args w, (callFunc g args).run Tryd.prog w = .ok (.enter g args) w) (blk off a m b : Nat) (d : Array α) (w : World)
    (hless : LessG Tryd.prog g lb enc kk lt blk off d.size w) (hswap : SwapSwapsK Tryd.prog sf sb enc kk blk off d.size) (hH : HoldsK enc kk w blk off d) (hblk : blk < w.heap.size) (ham : a + 1 < m) (hmb : b = m + 1) (hb : b ≤ d.size) (hsz : d.size < 4611686018427387904)
    (hl : SortedIn lt a m d) :
    Calls Tryd.prog 149 #[dta g lb sf sb, .int .i64 a, .int .i64 m, .int .i64 b] w (SrtPost enc kk w blk off fun d' => PermIn a b d d' ∧ SortedIn lt a b d') := by
  have H0 := Lib.hid (InS.start (g := g) (lb := lb) (sf := sf) (sb := sb) hH hblk)
  have HLESS := Lib.hid hless
  have HSWP := Lib.hid hswap
  have HL := Lib.hid hl
  have HMB := Lib.hid hmb
  have t1 : ((m : Int) - (a : Int) == 1) = false := by rw [beq_eq_false_iff_ne]; omega
  have t2 : ((b : Int) - (m : Int) == 1) = true := by rw [beq_iff_eq]; omega
  have hmb2 : m < b := by omega
  have hmb3 : b ≤ m + 1 := by omega
  clear hless hswap hH hl hmb
  go_enter Tryd.func149, Tryd.ntmps149
  go_wp2
  go_loopw [12, 13] (fun vi vj wr => ∃ (i j : Nat), vi = .int .i64 i ∧ vj = .int .i64 j ∧ a ≤ i ∧ i ≤ j ∧ j ≤ m ∧ (i = a ∨ lt d[m]! d[i - 1]! = false) ∧ (j = m ∨ lt d[m]! d[j]! = true) ∧ InS enc kk w blk off d.size w.heap.size (.func (.func g) #[] lb) (.func (.func sf) #[] sb) d wr) (fun vi vj _ => (intOf vj).toNat - (intOf vi).toNat)
  case atStart => exact ⟨a, m, rfl, rfl, Nat.le_refl _, by omega, Nat.le_refl _, .inl rfl, .inl rfl, H0.out⟩
  case round =>
    obtain ⟨i, j, rfl, rfl, hi, hij, hj, hI1, hJ1, hI⟩ := hrel
    have HI1 := Lib.hid hI1
    have HJ1 := Lib.hid hJ1
    have HIS := Lib.hid hI
    have c0 := hI.c0
    clear hI1 hJ1
    by_cases hlt : i < j
    · have hlti : (i : Int) < (j : Int) := by omega
      cases hlv : lt d[m]! d[(i + j) / 2]! with
      | false =>
        have HLV := Lib.hid hlv
        have hl := hI.less HLESS.out (i := m) (j := (i + j) / 2) (by omega) (by omega) false hlv
        rw [show ((((i + j) / 2 : Nat) : Int)) = ((i : Int) + (j : Int)) / 2 by omega] at hl
        clear hI hlv
        go_wp2_with (go_at_fn g; refine hl.mono ?_; rintro e w1 ⟨rfl, hI1⟩)
        go_roundw
        case rel => exact ⟨(i + j) / 2 + 1, j, by rw [show ((i : Int) + (j : Int)) / 2 + 1 = (((i + j) / 2 + 1 : Nat) : Int) by omega], rfl, by omega, by omega, hj, .inr (by rw [Nat.add_sub_cancel]; exact HLV.out), HJ1.out, hI1⟩
        case measure => simp [intOf]; omega
      | true =>
        have HLV := Lib.hid hlv
        have hl := hI.less HLESS.out (i := m) (j := (i + j) / 2) (by omega) (by omega) true hlv
        rw [show ((((i + j) / 2 : Nat) : Int)) = ((i : Int) + (j : Int)) / 2 by omega] at hl
        clear hI hlv
        go_wp2_with (go_at_fn g; refine hl.mono ?_; rintro e w1 ⟨rfl, hI1⟩)
        go_roundw
        case rel => exact ⟨i, (i + j) / 2, rfl, by rw [show ((i : Int) + (j : Int)) / 2 = (((i + j) / 2 : Nat) : Int) by omega], hi, by omega, by omega, HI1.out, .inr HLV.out, hI1⟩
        case measure => simp [intOf]; omega
    · have hge : ¬ (i : Int) < (j : Int) := by omega
      have hij2 : j ≤ i := by omega
      clear hI c0 hlt
      go_wp2
      go_loopw [15] (fun vk wr2 => ∃ (k : Nat) (dk : Array α), vk = .int .i64 k ∧ i ≤ k ∧ k ≤ m ∧ Rot d k m (m + 1) dk ∧ PermIn a b d dk ∧ InS enc kk w blk off d.size w.heap.size (.func (.func g) #[] lb) (.func (.func sf) #[] sb) dk wr2) (fun vk _ => (intOf vk).toNat)
      case atStart => exact ⟨m, d, rfl, by omega, Nat.le_refl _, rot_refl_l d m (m + 1) (by omega), permIn_refl _ _ _, HIS.out⟩
      case round =>
        obtain ⟨k, dk, rfl, hik, hkm, hrot, hpm, hI⟩ := hrel
        have HROT := Lib.hid hrot
        have HPM := Lib.hid hpm
        have c1 := hI.c1
        have hsk := hI.sz
        clear hrot hpm
        by_cases hlt : i < k
        · have hlti : (i : Int) < (k : Int) := by omega
          obtain ⟨w2, hs, hI2⟩ := hI.swap hk HSWP.out (i := k) (j := k - 1) (by omega) (by omega)
          rw [show (((k - 1 : Nat) : Int)) = (k : Int) - 1 by omega] at hs
          clear hI
          go_wp2
          go_roundw
          case rel =>
            have hr := HROT.out
            rw [show k = k - 1 + 1 by omega] at hr
            have h5 := rot_down hr (by omega) (by omega)
            rw [show k - 1 + 1 = k by omega] at h5
            exact ⟨k - 1, swp dk k (k - 1), by rw [show ((k - 1 : Nat) : Int) = (k : Int) - 1 by omega], by omega, by omega, h5, permIn_trans _ _ _ _ _ HPM.out (swp_permIn _ _ _ _ _ (by omega) (by omega) (by omega) (by omega) (by omega)), hI2⟩
          case measure => simp [intOf]; omega
        · have hge2 : ¬ (i : Int) < (k : Int) := by omega
          have HI := Lib.hid hI
          clear hI c1
          go_wp2
          go_end0
          refine HI.out.post ⟨HPM.out, ?_⟩
          have hm := HMB.out
          subst hm
          have e1 : k = i := by omega
          have e2 : j = i := by omega
          have h3 := HROT.out
          rw [e1] at h3
          have h4 := HJ1.out
          rw [e2] at h4
          exact one_right hS (by omega) (by omega) HL.out HI1.out h4 h3

end
end Go.Proofs.YtkjlhcfocefhpaaDoor

/- Walks over the library's stable sort: symMerge, its general case where the middle of the row lies before the second part. -/
namespace Go.Proofs.YtkjlhcfocefhpaaDoor
open Go.RowKit Go.Sort Go.Lib

section
variable {α : Type} [Inhabited α] {enc : α → List Value} {kk : Nat} {lt : α → α → Bool}
variable (hk : ∀ x, (enc x).length = kk) (hS : SWO lt) (g : Nat) (lb : Array Value) (sf : Nat) (sb : Array Value)
set_option maxHeartbeats 8000000 in
set_option maxRecDepth 100000 in
include hk hS in
theorem sym_gt (eg : ∀ args w, (callFunc g args).run Tryd.prog w = .ok (.enter g args) w) (blk off N a m b : Nat) (d : Array α) (w : World) (hN : b - a ≤ N + 1) (hih : ∀ (a m b : Nat) (d : Array α) (w : World), b - a ≤ N →
    LessG Tryd.prog g lb enc kk lt blk off d.size w → SwapSwapsK Tryd.prog sf sb enc kk blk off d.size → HoldsK enc kk w blk off d → blk < w.heap.size → a < m → m < b → b ≤ d.size → d.size < 4611686018427387904 →
    SortedIn lt a m d → SortedIn lt m b d →
    Calls Tryd.prog 149 #[dta g lb sf sb, .int .i64 a, .int .i64 m, .int .i64 b] w (SrtPost enc kk w blk off fun d' => PermIn a b d d' ∧ SortedIn lt a b d'))
    (hless : LessG Tryd.prog g lb enc kk lt blk off d.size w) (hswap : SwapSwapsK Tryd.prog sf sb enc kk blk off d.size) (hH : HoldsK enc kk w blk off d) (hblk : blk < w.heap.size) (ham : a + 1 < m) (hmb : m + 1 < b) (hb : b ≤ d.size) (hsz : d.size < 4611686018427387904)
    (hl : SortedIn lt a m d) (hr : SortedIn lt m b d) (hgt : m > (a + b) / 2) :
    Calls Tryd.prog 149 #[dta g lb sf sb, .int .i64 a, .int .i64 m, .int .i64 b] w (SrtPost enc kk w blk off fun d' => PermIn a b d d' ∧ SortedIn lt a b d') := by
  have IH := Lib.hid hih
  have H0 := Lib.hid (InS.start (g := g) (lb := lb) (sf := sf) (sb := sb) hH hblk)
  have HLESS := Lib.hid hless
  have HSWP := Lib.hid hswap
  have HL := Lib.hid hl
  have HR := Lib.hid hr
  have t1 : ((m : Int) - (a : Int) == 1) = false := by rw [beq_eq_false_iff_ne]; omega
  have t2 : ((b : Int) - (m : Int) == 1) = false := by rw [beq_eq_false_iff_ne]; omega
  obtain ⟨M, hM⟩ : ∃ M : Nat, M = (a + b) / 2 := ⟨_, rfl⟩
  have HM := Lib.hid hM
  have hME : ((a : Int) + (b : Int)) / 2 = (M : Int) := by omega
  have hM1 : 2 * M ≤ a + b := by omega
  have hM2 : a + b ≤ 2 * M + 1 := by omega
  have hbs : b < 4611686018427387904 := by omega
  have hgt2 : M < m := by omega
  have hgtI : (M : Int) < (m : Int) := by omega
  clear hless hswap hH hl hr hM hih hgt
  have FIN : Hid (∀ s s0 r0, ((m > M ∧ s0 = M + m - b ∧ r0 = M) ∨ (m ≤ M ∧ s0 = a ∧ r0 = m)) → s0 ≤ s → s ≤ r0 → (s = s0 ∨ lt d[M + m - 1 - (s - 1)]! d[s - 1]! = false) → (s = r0 ∨ lt d[M + m - 1 - s]! d[s]! = true) → ∀ r, Rot d s m (M + m - s) r →
    Cross lt a M b r ∧ SortedIn lt a s r ∧ SortedIn lt s M r ∧ SortedIn lt M (M + m - s) r ∧ SortedIn lt (M + m - s) b r) := Lib.hid (fun s s0 r0 h0 h1 h2 h3 h4 r h => by
    have hM := HM.out
    subst hM
    exact sym_cross hS (by omega) (by omega) HL.out HR.out h0 h1 h2 h3 h4 h)
  obtain ⟨s0, hs0⟩ : ∃ s0 : Nat, s0 = M + m - b := ⟨_, rfl⟩
  obtain ⟨r0, hr0⟩ : ∃ r0 : Nat, r0 = M := ⟨_, rfl⟩
  have h00 : (m > M ∧ s0 = M + m - b ∧ r0 = M) ∨ (m ≤ M ∧ s0 = a ∧ r0 = m) := by omega
  have hsr : s0 ≤ r0 ∧ r0 ≤ M ∧ r0 ≤ m ∧ a ≤ s0 ∧ M + m ≤ s0 + b ∧ a < s0 + 1 := by omega
  obtain ⟨q1, q2, q3, q4, q5, _⟩ := hsr
  have HFIN := Lib.hid (fun s => FIN.out s s0 r0 h00)
  have E1 : Hid (Value.int .i64 ((M : Int) + (m : Int) - (b : Int)) = .int .i64 (s0 : Int)) := Lib.hid (by rw [hs0, Int.natCast_sub (by omega), Int.natCast_add])
  have E2 : Hid (Value.int .i64 (M : Int) = .int .i64 (r0 : Int)) := Lib.hid (by rw [hr0])
  clear FIN h00 hs0 hr0
  go_enter Tryd.func149, Tryd.ntmps149
  go_wp2
  go_loopw [18, 19] (fun vs vr wr => ∃ (s r : Nat), vs = .int .i64 s ∧ vr = .int .i64 r ∧ s0 ≤ s ∧ s ≤ r ∧ r ≤ r0 ∧ (s = s0 ∨ lt d[M + m - 1 - (s - 1)]! d[s - 1]! = false) ∧ (r = r0 ∨ lt d[M + m - 1 - r]! d[r]! = true) ∧ InS enc kk w blk off d.size w.heap.size (.func (.func g) #[] lb) (.func (.func sf) #[] sb) d wr) (fun vs vr _ => (intOf vr).toNat - (intOf vs).toNat)
  case atStart => exact ⟨s0, r0, E1.out, E2.out, Nat.le_refl _, q1, Nat.le_refl _, .inl rfl, .inl rfl, H0.out⟩
  case round =>
    clear E1 E2
    obtain ⟨s, r, rfl, rfl, hs, hsr, hr, hP, hQ, hI⟩ := hrel
    have HP := Lib.hid hP
    have HQ := Lib.hid hQ
    have HIS := Lib.hid hI
    have c0 := hI.c0
    have c1 := hI.c1
    clear hP hQ
    by_cases hlt : s < r
    · have hlti : (s : Int) < (r : Int) := by omega
      cases hlv : lt d[M + m - 1 - (s + r) / 2]! d[(s + r) / 2]! with
      | false =>
        have HLV := Lib.hid hlv
        have hl := hI.less HLESS.out (i := M + m - 1 - (s + r) / 2) (j := (s + r) / 2) (by omega) (by omega) false hlv
        rw [show (((M + m - 1 - (s + r) / 2 : Nat) : Int)) = (M : Int) + (m : Int) - 1 - ((s : Int) + (r : Int)) / 2 by omega, show ((((s + r) / 2 : Nat) : Int)) = ((s : Int) + (r : Int)) / 2 by omega] at hl
        clear hI hlv
        go_wp2_with (go_at_fn g; refine hl.mono ?_; rintro e w1 ⟨rfl, hI1⟩)
        go_roundw
        case rel => exact ⟨(s + r) / 2 + 1, r, by rw [show ((s : Int) + (r : Int)) / 2 + 1 = (((s + r) / 2 + 1 : Nat) : Int) by omega], rfl, by omega, by omega, hr, .inr (by rw [Nat.add_sub_cancel]; exact HLV.out), HQ.out, hI1⟩
        case measure => simp [intOf]; omega
      | true =>
        have HLV := Lib.hid hlv
        have hl := hI.less HLESS.out (i := M + m - 1 - (s + r) / 2) (j := (s + r) / 2) (by omega) (by omega) true hlv
        rw [show (((M + m - 1 - (s + r) / 2 : Nat) : Int)) = (M : Int) + (m : Int) - 1 - ((s : Int) + (r : Int)) / 2 by omega, show ((((s + r) / 2 : Nat) : Int)) = ((s : Int) + (r : Int)) / 2 by omega] at hl
        clear hI hlv
        go_wp2_with (go_at_fn g; refine hl.mono ?_; rintro e w1 ⟨rfl, hI1⟩)
        go_roundw
        case rel => exact ⟨s, (s + r) / 2, rfl, by rw [show ((s : Int) + (r : Int)) / 2 = (((s + r) / 2 : Nat) : Int) by omega], hs, by omega, by omega, HP.out, .inr HLV.out, hI1⟩
        case measure => simp [intOf]; omega
    · have hge : ¬ (s : Int) < (r : Int) := by omega
      obtain ⟨en, hen⟩ : ∃ en : Nat, en = M + m - s := ⟨_, rfl⟩
      have hEE : (M : Int) + (m : Int) - (s : Int) = (en : Int) := by omega
      have hES : s + en = M + m := by omega
      have z1 : s ≤ M := by omega
      have z2 : s ≤ m := by omega
      have z3 : m ≤ en := by omega
      have z4 : en ≤ b := by omega
      have z5 : a ≤ s := by omega
      have z6 : M ≤ en := by omega
      have FIN : Hid (∀ x, Rot d s m en x → Cross lt a M b x ∧ SortedIn lt a s x ∧ SortedIn lt s M x ∧ SortedIn lt M en x ∧ SortedIn lt en b x) := Lib.hid (by
        rw [hen]
        exact HFIN.out s hs (by omega) HP.out (by have := HQ.out; rwa [show r = s by omega] at this))
      have hM3 : a < M := by omega
      have hM4 : M < b := by omega
      clear hI hen HP HQ hr hsr
      have hc : (s < m ∧ m < en ∧ a < s ∧ en < b) ∨ (s < m ∧ m < en ∧ a < s ∧ ¬ en < b) ∨ (s < m ∧ m < en ∧ ¬ a < s ∧ en < b) ∨ (s < m ∧ m < en ∧ ¬ a < s ∧ ¬ en < b) ∨ (¬ s < m ∧ s < M) ∨ (¬ s < m ∧ ¬ s < M) ∨ (s < m ∧ ¬ m < en) := by omega
      rcases hc with ⟨v1, v2, v3, v4⟩ | ⟨v1, v2, v3, v4⟩ | ⟨v1, v2, v3, v4⟩ | ⟨v1, v2, v3, v4⟩ | ⟨v1, v2⟩ | ⟨v1, v2⟩ | ⟨v1, v2⟩
      · have i1 : (s : Int) < (m : Int) := by omega
        have i2 : (m : Int) < (en : Int) := by omega
        have i3 : (a : Int) < (s : Int) := by omega
        have i4 : (s : Int) < (M : Int) := by omega
        have i5 : (M : Int) < (en : Int) := by omega
        have i6 : (en : Int) < (b : Int) := by omega
        have rc := rotate_s hk g lb sf sb blk off s m en d wr HSWP.out HIS.out.holds HIS.out.hlt (by omega) (by omega) (by omega) hsz
        go_wp2_with fail
        refine rc.mono ?_
        rintro e w1 ⟨rfl, n1, os1, d1, ⟨rot1, p1⟩, hw1⟩
        have hI1 : InS enc kk w blk off d.size w.heap.size (.func (.func g) #[] lb) (.func (.func sf) #[] sb) d1 w1 := by rw [hw1]; exact HIS.out.on p1.1
        have P1 : Hid (PermIn a b d d1) := Lib.hid (permIn_mono _ _ _ _ _ _ (by omega) (by omega) hb p1)
        clear hw1 rc c0 c1 p1
        obtain ⟨X1, X2, X3, X4, X5⟩ := FIN.out d1 rot1
        have hz1 : d1.size = d.size := hI1.sz
        have c0 := hI1.c0
        have c1 := hI1.c1
        have H1 := Lib.hid hI1
        have X1 := Lib.hid X1
        have X2 := Lib.hid X2
        have X3 := Lib.hid X3
        have X4 := Lib.hid X4
        have X5 := Lib.hid X5
        have hb1 : b ≤ d1.size := by omega
        clear rot1 hI1 FIN
        have rc := IH.out a s M d1 w1 (by omega) (H1.out.lessReads HLESS.out) (by rw [hz1]; exact HSWP.out) H1.out.holds H1.out.hlt (by omega) (by omega) (by omega) (by omega) X2.out X3.out
        go_wp2_with fail
        refine rc.mono ?_
        rintro e w2 ⟨rfl, n2, os2, d2, ⟨p2, s2⟩, hw2⟩
        have hI2 : InS enc kk w blk off d.size w.heap.size (.func (.func g) #[] lb) (.func (.func sf) #[] sb) d2 w2 := by rw [hw2]; exact H1.out.on p2.1
        clear hw2 rc c0 c1
        have hz2 : d2.size = d.size := hI2.sz
        have c0 := hI2.c0
        have c1 := hI2.c1
        have Y4 := Lib.hid (sorted_other X4.out p2 (Or.inr (Nat.le_refl _)))
        have Y5 := Lib.hid (sorted_other X5.out p2 (Or.inr z6))
        have H2 := Lib.hid hI2
        have S2 := Lib.hid s2
        have P2 := Lib.hid p2
        clear hI2 s2 p2 X2 X3 X4 X5
        have rc := IH.out M en b d2 w2 (by omega) (H2.out.lessReads HLESS.out) (by rw [hz2]; exact HSWP.out) H2.out.holds H2.out.hlt (by omega) (by omega) (by omega) (by omega) Y4.out Y5.out
        go_wp2_with fail
        refine rc.mono ?_
        rintro e w3 ⟨rfl, n3, os3, d3, ⟨p3, s3⟩, hw3⟩
        have hI3 : InS enc kk w blk off d.size w.heap.size (.func (.func g) #[] lb) (.func (.func sf) #[] sb) d3 w3 := by rw [hw3]; exact H2.out.on p3.1
        have R := Lib.hid (halves_done (by omega) (by omega) hb1 X1.out P2.out S2.out p3 s3)
        have H3 := Lib.hid hI3
        clear hw3 rc c0 c1 H2 hI3 p3 s3
        go_wp2
        go_end0
        exact H3.out.post ⟨permIn_trans _ _ _ _ _ P1.out R.out.2, R.out.1⟩
      · have i1 : (s : Int) < (m : Int) := by omega
        have i2 : (m : Int) < (en : Int) := by omega
        have i3 : (a : Int) < (s : Int) := by omega
        have i4 : (s : Int) < (M : Int) := by omega
        have i5 : (M : Int) < (en : Int) := by omega
        have i6 : ¬ (en : Int) < (b : Int) := by omega
        have rc := rotate_s hk g lb sf sb blk off s m en d wr HSWP.out HIS.out.holds HIS.out.hlt (by omega) (by omega) (by omega) hsz
        go_wp2_with fail
        refine rc.mono ?_
        rintro e w1 ⟨rfl, n1, os1, d1, ⟨rot1, p1⟩, hw1⟩
        have hI1 : InS enc kk w blk off d.size w.heap.size (.func (.func g) #[] lb) (.func (.func sf) #[] sb) d1 w1 := by rw [hw1]; exact HIS.out.on p1.1
        have P1 : Hid (PermIn a b d d1) := Lib.hid (permIn_mono _ _ _ _ _ _ (by omega) (by omega) hb p1)
        clear hw1 rc c0 c1 p1
        obtain ⟨X1, X2, X3, X4, X5⟩ := FIN.out d1 rot1
        have hz1 : d1.size = d.size := hI1.sz
        have c0 := hI1.c0
        have c1 := hI1.c1
        have H1 := Lib.hid hI1
        have X1 := Lib.hid X1
        have X2 := Lib.hid X2
        have X3 := Lib.hid X3
        have X4 := Lib.hid X4
        have X5 := Lib.hid X5
        have hb1 : b ≤ d1.size := by omega
        clear rot1 hI1 FIN
        have rc := IH.out a s M d1 w1 (by omega) (H1.out.lessReads HLESS.out) (by rw [hz1]; exact HSWP.out) H1.out.holds H1.out.hlt (by omega) (by omega) (by omega) (by omega) X2.out X3.out
        go_wp2_with fail
        refine rc.mono ?_
        rintro e w2 ⟨rfl, n2, os2, d2, ⟨p2, s2⟩, hw2⟩
        have hI2 : InS enc kk w blk off d.size w.heap.size (.func (.func g) #[] lb) (.func (.func sf) #[] sb) d2 w2 := by rw [hw2]; exact H1.out.on p2.1
        clear hw2 rc c0 c1
        have hz2 : d2.size = d.size := hI2.sz
        have c0 := hI2.c0
        have c1 := hI2.c1
        have Y4 := Lib.hid (sorted_other X4.out p2 (Or.inr (Nat.le_refl _)))
        have Y5 := Lib.hid (sorted_other X5.out p2 (Or.inr z6))
        have H2 := Lib.hid hI2
        have S2 := Lib.hid s2
        have P2 := Lib.hid p2
        clear hI2 s2 p2 X2 X3 X4 X5
        have s3 : SortedIn lt M b d2 := by have := Y4.out; rwa [show en = b by omega] at this
        have R := Lib.hid (halves_done (by omega) (by omega) hb1 X1.out P2.out S2.out (permIn_refl d2 M b) s3)
        clear c0 c1 s3
        go_wp2
        go_end0
        exact H2.out.post ⟨permIn_trans _ _ _ _ _ P1.out R.out.2, R.out.1⟩
      · have i1 : (s : Int) < (m : Int) := by omega
        have i2 : (m : Int) < (en : Int) := by omega
        have i3 : ¬ (a : Int) < (s : Int) := by omega
        have i5 : (M : Int) < (en : Int) := by omega
        have i6 : (en : Int) < (b : Int) := by omega
        have rc := rotate_s hk g lb sf sb blk off s m en d wr HSWP.out HIS.out.holds HIS.out.hlt (by omega) (by omega) (by omega) hsz
        go_wp2_with fail
        refine rc.mono ?_
        rintro e w1 ⟨rfl, n1, os1, d1, ⟨rot1, p1⟩, hw1⟩
        have hI1 : InS enc kk w blk off d.size w.heap.size (.func (.func g) #[] lb) (.func (.func sf) #[] sb) d1 w1 := by rw [hw1]; exact HIS.out.on p1.1
        have P1 : Hid (PermIn a b d d1) := Lib.hid (permIn_mono _ _ _ _ _ _ (by omega) (by omega) hb p1)
        clear hw1 rc c0 c1 p1
        obtain ⟨X1, X2, X3, X4, X5⟩ := FIN.out d1 rot1
        have hz1 : d1.size = d.size := hI1.sz
        have c0 := hI1.c0
        have c1 := hI1.c1
        have H1 := Lib.hid hI1
        have X1 := Lib.hid X1
        have X2 := Lib.hid X2
        have X3 := Lib.hid X3
        have X4 := Lib.hid X4
        have X5 := Lib.hid X5
        have hb1 : b ≤ d1.size := by omega
        clear rot1 hI1 FIN
        obtain ⟨w2, rfl⟩ : ∃ w2, w2 = w1 := ⟨_, rfl⟩
        obtain ⟨d2, hd2⟩ : ∃ d2, d2 = d1 := ⟨_, rfl⟩
        have s2 : SortedIn lt a M d2 := by rw [hd2]; have := X3.out; rwa [show s = a by omega] at this
        have p2 : PermIn a M d1 d2 := by rw [hd2]; exact permIn_refl _ _ _
        have hI2 : InS enc kk w blk off d.size w.heap.size (.func (.func g) #[] lb) (.func (.func sf) #[] sb) d2 w2 := by rw [hd2]; exact H1.out
        clear hd2 c0 c1
        have hz2 : d2.size = d.size := hI2.sz
        have c0 := hI2.c0
        have c1 := hI2.c1
        have Y4 := Lib.hid (sorted_other X4.out p2 (Or.inr (Nat.le_refl _)))
        have Y5 := Lib.hid (sorted_other X5.out p2 (Or.inr z6))
        have H2 := Lib.hid hI2
        have S2 := Lib.hid s2
        have P2 := Lib.hid p2
        clear hI2 s2 p2 X2 X3 X4 X5
        have rc := IH.out M en b d2 w2 (by omega) (H2.out.lessReads HLESS.out) (by rw [hz2]; exact HSWP.out) H2.out.holds H2.out.hlt (by omega) (by omega) (by omega) (by omega) Y4.out Y5.out
        go_wp2_with fail
        refine rc.mono ?_
        rintro e w3 ⟨rfl, n3, os3, d3, ⟨p3, s3⟩, hw3⟩
        have hI3 : InS enc kk w blk off d.size w.heap.size (.func (.func g) #[] lb) (.func (.func sf) #[] sb) d3 w3 := by rw [hw3]; exact H2.out.on p3.1
        have R := Lib.hid (halves_done (by omega) (by omega) hb1 X1.out P2.out S2.out p3 s3)
        have H3 := Lib.hid hI3
        clear hw3 rc c0 c1 H2 hI3 p3 s3
        go_wp2
        go_end0
        exact H3.out.post ⟨permIn_trans _ _ _ _ _ P1.out R.out.2, R.out.1⟩
      · have i1 : (s : Int) < (m : Int) := by omega
        have i2 : (m : Int) < (en : Int) := by omega
        have i3 : ¬ (a : Int) < (s : Int) := by omega
        have i5 : (M : Int) < (en : Int) := by omega
        have i6 : ¬ (en : Int) < (b : Int) := by omega
        have rc := rotate_s hk g lb sf sb blk off s m en d wr HSWP.out HIS.out.holds HIS.out.hlt (by omega) (by omega) (by omega) hsz
        go_wp2_with fail
        refine rc.mono ?_
        rintro e w1 ⟨rfl, n1, os1, d1, ⟨rot1, p1⟩, hw1⟩
        have hI1 : InS enc kk w blk off d.size w.heap.size (.func (.func g) #[] lb) (.func (.func sf) #[] sb) d1 w1 := by rw [hw1]; exact HIS.out.on p1.1
        have P1 : Hid (PermIn a b d d1) := Lib.hid (permIn_mono _ _ _ _ _ _ (by omega) (by omega) hb p1)
        clear hw1 rc c0 c1 p1
        obtain ⟨X1, X2, X3, X4, X5⟩ := FIN.out d1 rot1
        have hz1 : d1.size = d.size := hI1.sz
        have c0 := hI1.c0
        have c1 := hI1.c1
        have H1 := Lib.hid hI1
        have X1 := Lib.hid X1
        have X2 := Lib.hid X2
        have X3 := Lib.hid X3
        have X4 := Lib.hid X4
        have X5 := Lib.hid X5
        have hb1 : b ≤ d1.size := by omega
        clear rot1 hI1 FIN
        obtain ⟨w2, rfl⟩ : ∃ w2, w2 = w1 := ⟨_, rfl⟩
        obtain ⟨d2, hd2⟩ : ∃ d2, d2 = d1 := ⟨_, rfl⟩
        have s2 : SortedIn lt a M d2 := by rw [hd2]; have := X3.out; rwa [show s = a by omega] at this
        have p2 : PermIn a M d1 d2 := by rw [hd2]; exact permIn_refl _ _ _
        have hI2 : InS enc kk w blk off d.size w.heap.size (.func (.func g) #[] lb) (.func (.func sf) #[] sb) d2 w2 := by rw [hd2]; exact H1.out
        clear hd2 c0 c1
        have hz2 : d2.size = d.size := hI2.sz
        have c0 := hI2.c0
        have c1 := hI2.c1
        have Y4 := Lib.hid (sorted_other X4.out p2 (Or.inr (Nat.le_refl _)))
        have Y5 := Lib.hid (sorted_other X5.out p2 (Or.inr z6))
        have H2 := Lib.hid hI2
        have S2 := Lib.hid s2
        have P2 := Lib.hid p2
        clear hI2 s2 p2 X2 X3 X4 X5
        have s3 : SortedIn lt M b d2 := by have := Y4.out; rwa [show en = b by omega] at this
        have R := Lib.hid (halves_done (by omega) (by omega) hb1 X1.out P2.out S2.out (permIn_refl d2 M b) s3)
        clear c0 c1 s3
        go_wp2
        go_end0
        exact H2.out.post ⟨permIn_trans _ _ _ _ _ P1.out R.out.2, R.out.1⟩
      · exfalso; omega
      · exfalso; omega
      · have i1 : (s : Int) < (m : Int) := by omega
        have i2 : ¬ (m : Int) < (en : Int) := by omega
        have i3 : (a : Int) < (s : Int) := by omega
        have i4 : ¬ (s : Int) < (M : Int) := by omega
        have i5 : (M : Int) < (en : Int) := by omega
        have i6 : (en : Int) < (b : Int) := by omega
        obtain ⟨w1, rfl⟩ : ∃ w1, w1 = wr := ⟨_, rfl⟩
        obtain ⟨d1, hd1⟩ : ∃ d1, d1 = d := ⟨_, rfl⟩
        have rot1 : Rot d s m en d1 := by rw [hd1]; exact (by rw [show en = m by omega]; exact rot_refl_r d s m z2)
        have P1 : Hid (PermIn a b d d1) := Lib.hid (by rw [hd1]; exact permIn_refl _ _ _)
        have hI1 : InS enc kk w blk off d.size w.heap.size (.func (.func g) #[] lb) (.func (.func sf) #[] sb) d1 w1 := by rw [hd1]; exact HIS.out
        clear hd1 c0 c1
        obtain ⟨X1, X2, X3, X4, X5⟩ := FIN.out d1 rot1
        have hz1 : d1.size = d.size := hI1.sz
        have c0 := hI1.c0
        have c1 := hI1.c1
        have H1 := Lib.hid hI1
        have X1 := Lib.hid X1
        have X2 := Lib.hid X2
        have X3 := Lib.hid X3
        have X4 := Lib.hid X4
        have X5 := Lib.hid X5
        have hb1 : b ≤ d1.size := by omega
        clear rot1 hI1 FIN
        obtain ⟨w2, rfl⟩ : ∃ w2, w2 = w1 := ⟨_, rfl⟩
        obtain ⟨d2, hd2⟩ : ∃ d2, d2 = d1 := ⟨_, rfl⟩
        have s2 : SortedIn lt a M d2 := by rw [hd2]; have := X2.out; rwa [show s = M by omega] at this
        have p2 : PermIn a M d1 d2 := by rw [hd2]; exact permIn_refl _ _ _
        have hI2 : InS enc kk w blk off d.size w.heap.size (.func (.func g) #[] lb) (.func (.func sf) #[] sb) d2 w2 := by rw [hd2]; exact H1.out
        clear hd2 c0 c1
        have hz2 : d2.size = d.size := hI2.sz
        have c0 := hI2.c0
        have c1 := hI2.c1
        have Y4 := Lib.hid (sorted_other X4.out p2 (Or.inr (Nat.le_refl _)))
        have Y5 := Lib.hid (sorted_other X5.out p2 (Or.inr z6))
        have H2 := Lib.hid hI2
        have S2 := Lib.hid s2
        have P2 := Lib.hid p2
        clear hI2 s2 p2 X2 X3 X4 X5
        have rc := IH.out M en b d2 w2 (by omega) (H2.out.lessReads HLESS.out) (by rw [hz2]; exact HSWP.out) H2.out.holds H2.out.hlt (by omega) (by omega) (by omega) (by omega) Y4.out Y5.out
        go_wp2_with fail
        refine rc.mono ?_
        rintro e w3 ⟨rfl, n3, os3, d3, ⟨p3, s3⟩, hw3⟩
        have hI3 : InS enc kk w blk off d.size w.heap.size (.func (.func g) #[] lb) (.func (.func sf) #[] sb) d3 w3 := by rw [hw3]; exact H2.out.on p3.1
        have R := Lib.hid (halves_done (by omega) (by omega) hb1 X1.out P2.out S2.out p3 s3)
        have H3 := Lib.hid hI3
        clear hw3 rc c0 c1 H2 hI3 p3 s3
        go_wp2
        go_end0
        exact H3.out.post ⟨permIn_trans _ _ _ _ _ P1.out R.out.2, R.out.1⟩
end
end Go.Proofs.YtkjlhcfocefhpaaDoor

/- Walks over the library's stable sort: symMerge, its general case where the middle of the row lies not before the second part. -/
namespace Go.Proofs.YtkjlhcfocefhpaaDoor
open Go.RowKit Go.Sort Go.Lib

section
variable {α : Type} [Inhabited α] {enc : α → List Value} {kk : Nat} {lt : α → α → Bool}
variable (hk : ∀ x, (enc x).length = kk) (hS : SWO lt) (g : Nat) (lb : Array Value) (sf : Nat) (sb : Array Value)
set_option maxHeartbeats 8000000 in
set_option maxRecDepth 100000 in
include hk hS in
theorem sym_le (eg : ∀ args w, (callFunc g args).run Tryd.prog w = .ok (.enter g args) w) (blk off N a m b : Nat) (d : Array α) (w : World) (hN : b - a ≤ N + 1) (hih : ∀ (a m b : Nat) (d : Array α) (w : World), b - a ≤ N →
    LessG Tryd.prog g lb enc kk lt blk off d.size w → SwapSwapsK Tryd.prog sf sb enc kk blk off d.size → HoldsK enc kk w blk off d → blk < w.heap.size → a < m → m < b → b ≤ d.size → d.size < 4611686018427387904 →
    SortedIn lt a m d → SortedIn lt m b d →
    Calls Tryd.prog 149 #[dta g lb sf sb, .int .i64 a, .int .i64 m, .int .i64 b] w (SrtPost enc kk w blk off fun d' => PermIn a b d d' ∧ SortedIn lt a b d'))
    (hless : LessG Tryd.prog g lb enc kk lt blk off d.size w) (hswap : SwapSwapsK Tryd.prog sf sb enc kk blk off d.size) (hH : HoldsK enc kk w blk off d) (hblk : blk < w.heap.size) (ham : a + 1 < m) (hmb : m + 1 < b) (hb : b ≤ d.size) (hsz : d.size < 4611686018427387904)
    (hl : SortedIn lt a m d) (hr : SortedIn lt m b d) (hgt : m ≤ (a + b) / 2) :
    Calls Tryd.prog 149 #[dta g lb sf sb, .int .i64 a, .int .i64 m, .int .i64 b] w (SrtPost enc kk w blk off fun d' => PermIn a b d d' ∧ SortedIn lt a b d') := by
  have IH := Lib.hid hih
  have H0 := Lib.hid (InS.start (g := g) (lb := lb) (sf := sf) (sb := sb) hH hblk)
  have HLESS := Lib.hid hless
  have HSWP := Lib.hid hswap
  have HL := Lib.hid hl
  have HR := Lib.hid hr
  have t1 : ((m : Int) - (a : Int) == 1) = false := by rw [beq_eq_false_iff_ne]; omega
  have t2 : ((b : Int) - (m : Int) == 1) = false := by rw [beq_eq_false_iff_ne]; omega
  obtain ⟨M, hM⟩ : ∃ M : Nat, M = (a + b) / 2 := ⟨_, rfl⟩
  have HM := Lib.hid hM
  have hME : ((a : Int) + (b : Int)) / 2 = (M : Int) := by omega
  have hM1 : 2 * M ≤ a + b := by omega
  have hM2 : a + b ≤ 2 * M + 1 := by omega
  have hbs : b < 4611686018427387904 := by omega
  have hgt2 : m ≤ M := by omega
  have hgtI : ¬ (M : Int) < (m : Int) := by omega
  clear hless hswap hH hl hr hM hih hgt
  have FIN : Hid (∀ s s0 r0, ((m > M ∧ s0 = M + m - b ∧ r0 = M) ∨ (m ≤ M ∧ s0 = a ∧ r0 = m)) → s0 ≤ s → s ≤ r0 → (s = s0 ∨ lt d[M + m - 1 - (s - 1)]! d[s - 1]! = false) → (s = r0 ∨ lt d[M + m - 1 - s]! d[s]! = true) → ∀ r, Rot d s m (M + m - s) r →
    Cross lt a M b r ∧ SortedIn lt a s r ∧ SortedIn lt s M r ∧ SortedIn lt M (M + m - s) r ∧ SortedIn lt (M + m - s) b r) := Lib.hid (fun s s0 r0 h0 h1 h2 h3 h4 r h => by
    have hM := HM.out
    subst hM
    exact sym_cross hS (by omega) (by omega) HL.out HR.out h0 h1 h2 h3 h4 h)
  obtain ⟨s0, hs0⟩ : ∃ s0 : Nat, s0 = a := ⟨_, rfl⟩
  obtain ⟨r0, hr0⟩ : ∃ r0 : Nat, r0 = m := ⟨_, rfl⟩
  have h00 : (m > M ∧ s0 = M + m - b ∧ r0 = M) ∨ (m ≤ M ∧ s0 = a ∧ r0 = m) := by omega
  have hsr : s0 ≤ r0 ∧ r0 ≤ M ∧ r0 ≤ m ∧ a ≤ s0 ∧ M + m ≤ s0 + b := by omega
  obtain ⟨q1, q2, q3, q4, q5⟩ := hsr
  have HFIN := Lib.hid (fun s => FIN.out s s0 r0 h00)
  have E1 : Hid (Value.int .i64 ((a : Int)) = .int .i64 (s0 : Int)) := Lib.hid (by rw [hs0])
  have E2 : Hid (Value.int .i64 (m : Int) = .int .i64 (r0 : Int)) := Lib.hid (by rw [hr0])
  clear FIN h00 hs0 hr0
  go_enter Tryd.func149, Tryd.ntmps149
  go_wp2
  go_loopw [18, 19] (fun vs vr wr => ∃ (s r : Nat), vs = .int .i64 s ∧ vr = .int .i64 r ∧ s0 ≤ s ∧ s ≤ r ∧ r ≤ r0 ∧ (s = s0 ∨ lt d[M + m - 1 - (s - 1)]! d[s - 1]! = false) ∧ (r = r0 ∨ lt d[M + m - 1 - r]! d[r]! = true) ∧ InS enc kk w blk off d.size w.heap.size (.func (.func g) #[] lb) (.func (.func sf) #[] sb) d wr) (fun vs vr _ => (intOf vr).toNat - (intOf vs).toNat)
  case atStart => exact ⟨s0, r0, E1.out, E2.out, Nat.le_refl _, q1, Nat.le_refl _, .inl rfl, .inl rfl, H0.out⟩
  case round =>
    clear E1 E2
    obtain ⟨s, r, rfl, rfl, hs, hsr, hr, hP, hQ, hI⟩ := hrel
    have HP := Lib.hid hP
    have HQ := Lib.hid hQ
    have HIS := Lib.hid hI
    have c0 := hI.c0
    have c1 := hI.c1
    clear hP hQ
    by_cases hlt : s < r
    · have hlti : (s : Int) < (r : Int) := by omega
      cases hlv : lt d[M + m - 1 - (s + r) / 2]! d[(s + r) / 2]! with
      | false =>
        have HLV := Lib.hid hlv
        have hl := hI.less HLESS.out (i := M + m - 1 - (s + r) / 2) (j := (s + r) / 2) (by omega) (by omega) false hlv
        rw [show (((M + m - 1 - (s + r) / 2 : Nat) : Int)) = (M : Int) + (m : Int) - 1 - ((s : Int) + (r : Int)) / 2 by omega, show ((((s + r) / 2 : Nat) : Int)) = ((s : Int) + (r : Int)) / 2 by omega] at hl
        clear hI hlv
        go_wp2_with (go_at_fn g; refine hl.mono ?_; rintro e w1 ⟨rfl, hI1⟩)
        go_roundw
        case rel => exact ⟨(s + r) / 2 + 1, r, by rw [show ((s : Int) + (r : Int)) / 2 + 1 = (((s + r) / 2 + 1 : Nat) : Int) by omega], rfl, by omega, by omega, hr, .inr (by rw [Nat.add_sub_cancel]; exact HLV.out), HQ.out, hI1⟩
        case measure => simp [intOf]; omega
      | true =>
        have HLV := Lib.hid hlv
        have hl := hI.less HLESS.out (i := M + m - 1 - (s + r) / 2) (j := (s + r) / 2) (by omega) (by omega) true hlv
        rw [show (((M + m - 1 - (s + r) / 2 : Nat) : Int)) = (M : Int) + (m : Int) - 1 - ((s : Int) + (r : Int)) / 2 by omega, show ((((s + r) / 2 : Nat) : Int)) = ((s : Int) + (r : Int)) / 2 by omega] at hl
        clear hI hlv
        go_wp2_with (go_at_fn g; refine hl.mono ?_; rintro e w1 ⟨rfl, hI1⟩)
        go_roundw
        case rel => exact ⟨s, (s + r) / 2, rfl, by rw [show ((s : Int) + (r : Int)) / 2 = (((s + r) / 2 : Nat) : Int) by omega], hs, by omega, by omega, HP.out, .inr HLV.out, hI1⟩
        case measure => simp [intOf]; omega
    · have hge : ¬ (s : Int) < (r : Int) := by omega
      obtain ⟨en, hen⟩ : ∃ en : Nat, en = M + m - s := ⟨_, rfl⟩
      have hEE : (M : Int) + (m : Int) - (s : Int) = (en : Int) := by omega
      have hES : s + en = M + m := by omega
      have z1 : s ≤ M := by omega
      have z2 : s ≤ m := by omega
      have z3 : m ≤ en := by omega
      have z4 : en ≤ b := by omega
      have z5 : a ≤ s := by omega
      have z6 : M ≤ en := by omega
      have FIN : Hid (∀ x, Rot d s m en x → Cross lt a M b x ∧ SortedIn lt a s x ∧ SortedIn lt s M x ∧ SortedIn lt M en x ∧ SortedIn lt en b x) := Lib.hid (by
        rw [hen]
        exact HFIN.out s hs (by omega) HP.out (by have := HQ.out; rwa [show r = s by omega] at this))
      have hM3 : a < M := by omega
      have hM4 : M < b := by omega
      clear hI hen HP HQ hr hsr
      have hc : (s < m ∧ m < en ∧ a < s ∧ en < b) ∨ (s < m ∧ m < en ∧ a < s ∧ ¬ en < b) ∨ (s < m ∧ m < en ∧ ¬ a < s ∧ en < b) ∨ (s < m ∧ m < en ∧ ¬ a < s ∧ ¬ en < b) ∨ (¬ s < m ∧ s < M) ∨ (¬ s < m ∧ ¬ s < M) ∨ (s < m ∧ ¬ m < en) := by omega
      rcases hc with ⟨v1, v2, v3, v4⟩ | ⟨v1, v2, v3, v4⟩ | ⟨v1, v2, v3, v4⟩ | ⟨v1, v2, v3, v4⟩ | ⟨v1, v2⟩ | ⟨v1, v2⟩ | ⟨v1, v2⟩
      · have i1 : (s : Int) < (m : Int) := by omega
        have i2 : (m : Int) < (en : Int) := by omega
        have i3 : (a : Int) < (s : Int) := by omega
        have i4 : (s : Int) < (M : Int) := by omega
        have i5 : (M : Int) < (en : Int) := by omega
        have i6 : (en : Int) < (b : Int) := by omega
        have rc := rotate_s hk g lb sf sb blk off s m en d wr HSWP.out HIS.out.holds HIS.out.hlt (by omega) (by omega) (by omega) hsz
        go_wp2_with fail
        refine rc.mono ?_
        rintro e w1 ⟨rfl, n1, os1, d1, ⟨rot1, p1⟩, hw1⟩
        have hI1 : InS enc kk w blk off d.size w.heap.size (.func (.func g) #[] lb) (.func (.func sf) #[] sb) d1 w1 := by rw [hw1]; exact HIS.out.on p1.1
        have P1 : Hid (PermIn a b d d1) := Lib.hid (permIn_mono _ _ _ _ _ _ (by omega) (by omega) hb p1)
        clear hw1 rc c0 c1 p1
        obtain ⟨X1, X2, X3, X4, X5⟩ := FIN.out d1 rot1
        have hz1 : d1.size = d.size := hI1.sz
        have c0 := hI1.c0
        have c1 := hI1.c1
        have H1 := Lib.hid hI1
        have X1 := Lib.hid X1
        have X2 := Lib.hid X2
        have X3 := Lib.hid X3
        have X4 := Lib.hid X4
        have X5 := Lib.hid X5
        have hb1 : b ≤ d1.size := by omega
        clear rot1 hI1 FIN
        have rc := IH.out a s M d1 w1 (by omega) (H1.out.lessReads HLESS.out) (by rw [hz1]; exact HSWP.out) H1.out.holds H1.out.hlt (by omega) (by omega) (by omega) (by omega) X2.out X3.out
        go_wp2_with fail
        refine rc.mono ?_
        rintro e w2 ⟨rfl, n2, os2, d2, ⟨p2, s2⟩, hw2⟩
        have hI2 : InS enc kk w blk off d.size w.heap.size (.func (.func g) #[] lb) (.func (.func sf) #[] sb) d2 w2 := by rw [hw2]; exact H1.out.on p2.1
        clear hw2 rc c0 c1
        have hz2 : d2.size = d.size := hI2.sz
        have c0 := hI2.c0
        have c1 := hI2.c1
        have Y4 := Lib.hid (sorted_other X4.out p2 (Or.inr (Nat.le_refl _)))
        have Y5 := Lib.hid (sorted_other X5.out p2 (Or.inr z6))
        have H2 := Lib.hid hI2
        have S2 := Lib.hid s2
        have P2 := Lib.hid p2
        clear hI2 s2 p2 X2 X3 X4 X5
        have rc := IH.out M en b d2 w2 (by omega) (H2.out.lessReads HLESS.out) (by rw [hz2]; exact HSWP.out) H2.out.holds H2.out.hlt (by omega) (by omega) (by omega) (by omega) Y4.out Y5.out
        go_wp2_with fail
        refine rc.mono ?_
        rintro e w3 ⟨rfl, n3, os3, d3, ⟨p3, s3⟩, hw3⟩
        have hI3 : InS enc kk w blk off d.size w.heap.size (.func (.func g) #[] lb) (.func (.func sf) #[] sb) d3 w3 := by rw [hw3]; exact H2.out.on p3.1
        have R := Lib.hid (halves_done (by omega) (by omega) hb1 X1.out P2.out S2.out p3 s3)
        have H3 := Lib.hid hI3
        clear hw3 rc c0 c1 H2 hI3 p3 s3
        go_wp2
        go_end0
        exact H3.out.post ⟨permIn_trans _ _ _ _ _ P1.out R.out.2, R.out.1⟩
      · have i1 : (s : Int) < (m : Int) := by omega
        have i2 : (m : Int) < (en : Int) := by omega
        have i3 : (a : Int) < (s : Int) := by omega
        have i4 : (s : Int) < (M : Int) := by omega
        have i5 : (M : Int) < (en : Int) := by omega
        have i6 : ¬ (en : Int) < (b : Int) := by omega
        have rc := rotate_s hk g lb sf sb blk off s m en d wr HSWP.out HIS.out.holds HIS.out.hlt (by omega) (by omega) (by omega) hsz
        go_wp2_with fail
        refine rc.mono ?_
        rintro e w1 ⟨rfl, n1, os1, d1, ⟨rot1, p1⟩, hw1⟩
        have hI1 : InS enc kk w blk off d.size w.heap.size (.func (.func g) #[] lb) (.func (.func sf) #[] sb) d1 w1 := by rw [hw1]; exact HIS.out.on p1.1
        have P1 : Hid (PermIn a b d d1) := Lib.hid (permIn_mono _ _ _ _ _ _ (by omega) (by omega) hb p1)
        clear hw1 rc c0 c1 p1
        obtain ⟨X1, X2, X3, X4, X5⟩ := FIN.out d1 rot1
        have hz1 : d1.size = d.size := hI1.sz
        have c0 := hI1.c0
        have c1 := hI1.c1
        have H1 := Lib.hid hI1
        have X1 := Lib.hid X1
        have X2 := Lib.hid X2
        have X3 := Lib.hid X3
        have X4 := Lib.hid X4
        have X5 := Lib.hid X5
        have hb1 : b ≤ d1.size := by omega
        clear rot1 hI1 FIN
        have rc := IH.out a s M d1 w1 (by omega) (H1.out.lessReads HLESS.out) (by rw [hz1]; exact HSWP.out) H1.out.holds H1.out.hlt (by omega) (by omega) (by omega) (by omega) X2.out X3.out
        go_wp2_with fail
        refine rc.mono ?_
        rintro e w2 ⟨rfl, n2, os2, d2, ⟨p2, s2⟩, hw2⟩
        have hI2 : InS enc kk w blk off d.size w.heap.size (.func (.func g) #[] lb) (.func (.func sf) #[] sb) d2 w2 := by rw [hw2]; exact H1.out.on p2.1
        clear hw2 rc c0 c1
        have hz2 : d2.size = d.size := hI2.sz
        have c0 := hI2.c0
        have c1 := hI2.c1
        have Y4 := Lib.hid (sorted_other X4.out p2 (Or.inr (Nat.le_refl _)))
        have Y5 := Lib.hid (sorted_other X5.out p2 (Or.inr z6))
        have H2 := Lib.hid hI2
        have S2 := Lib.hid s2
        have P2 := Lib.hid p2
        clear hI2 s2 p2 X2 X3 X4 X5
        have s3 : SortedIn lt M b d2 := by have := Y4.out; rwa [show en = b by omega] at this
        have R := Lib.hid (halves_done (by omega) (by omega) hb1 X1.out P2.out S2.out (permIn_refl d2 M b) s3)
        clear c0 c1 s3
        go_wp2
        go_end0
        exact H2.out.post ⟨permIn_trans _ _ _ _ _ P1.out R.out.2, R.out.1⟩
      · have i1 : (s : Int) < (m : Int) := by omega
        have i2 : (m : Int) < (en : Int) := by omega
        have i3 : ¬ (a : Int) < (s : Int) := by omega
        have i5 : (M : Int) < (en : Int) := by omega
        have i6 : (en : Int) < (b : Int) := by omega
        have rc := rotate_s hk g lb sf sb blk off s m en d wr HSWP.out HIS.out.holds HIS.out.hlt (by omega) (by omega) (by omega) hsz
        go_wp2_with fail
        refine rc.mono ?_
        rintro e w1 ⟨rfl, n1, os1, d1, ⟨rot1, p1⟩, hw1⟩
        have hI1 : InS enc kk w blk off d.size w.heap.size (.func (.func g) #[] lb) (.func (.func sf) #[] sb) d1 w1 := by rw [hw1]; exact HIS.out.on p1.1
        have P1 : Hid (PermIn a b d d1) := Lib.hid (permIn_mono _ _ _ _ _ _ (by omega) (by omega) hb p1)
        clear hw1 rc c0 c1 p1
        obtain ⟨X1, X2, X3, X4, X5⟩ := FIN.out d1 rot1
        have hz1 : d1.size = d.size := hI1.sz
        have c0 := hI1.c0
        have c1 := hI1.c1
        have H1 := Lib.hid hI1
        have X1 := Lib.hid X1
        have X2 := Lib.hid X2
        have X3 := Lib.hid X3
        have X4 := Lib.hid X4
        have X5 := Lib.hid X5
        have hb1 : b ≤ d1.size := by omega
        clear rot1 hI1 FIN
        obtain ⟨w2, rfl⟩ : ∃ w2, w2 = w1 := ⟨_, rfl⟩
        obtain ⟨d2, hd2⟩ : ∃ d2, d2 = d1 := ⟨_, rfl⟩
        have s2 : SortedIn lt a M d2 := by rw [hd2]; have := X3.out; rwa [show s = a by omega] at this
        have p2 : PermIn a M d1 d2 := by rw [hd2]; exact permIn_refl _ _ _
        have hI2 : InS enc kk w blk off d.size w.heap.size (.func (.func g) #[] lb) (.func (.func sf) #[] sb) d2 w2 := by rw [hd2]; exact H1.out
        clear hd2 c0 c1
        have hz2 : d2.size = d.size := hI2.sz
        have c0 := hI2.c0
        have c1 := hI2.c1
        have Y4 := Lib.hid (sorted_other X4.out p2 (Or.inr (Nat.le_refl _)))
        have Y5 := Lib.hid (sorted_other X5.out p2 (Or.inr z6))
        have H2 := Lib.hid hI2
        have S2 := Lib.hid s2
        have P2 := Lib.hid p2
        clear hI2 s2 p2 X2 X3 X4 X5
        have rc := IH.out M en b d2 w2 (by omega) (H2.out.lessReads HLESS.out) (by rw [hz2]; exact HSWP.out) H2.out.holds H2.out.hlt (by omega) (by omega) (by omega) (by omega) Y4.out Y5.out
        go_wp2_with fail
        refine rc.mono ?_
        rintro e w3 ⟨rfl, n3, os3, d3, ⟨p3, s3⟩, hw3⟩
        have hI3 : InS enc kk w blk off d.size w.heap.size (.func (.func g) #[] lb) (.func (.func sf) #[] sb) d3 w3 := by rw [hw3]; exact H2.out.on p3.1
        have R := Lib.hid (halves_done (by omega) (by omega) hb1 X1.out P2.out S2.out p3 s3)
        have H3 := Lib.hid hI3
        clear hw3 rc c0 c1 H2 hI3 p3 s3
        go_wp2
        go_end0
        exact H3.out.post ⟨permIn_trans _ _ _ _ _ P1.out R.out.2, R.out.1⟩
      · have i1 : (s : Int) < (m : Int) := by omega
        have i2 : (m : Int) < (en : Int) := by omega
        have i3 : ¬ (a : Int) < (s : Int) := by omega
        have i5 : (M : Int) < (en : Int) := by omega
        have i6 : ¬ (en : Int) < (b : Int) := by omega
        have rc := rotate_s hk g lb sf sb blk off s m en d wr HSWP.out HIS.out.holds HIS.out.hlt (by omega) (by omega) (by omega) hsz
        go_wp2_with fail
        refine rc.mono ?_
        rintro e w1 ⟨rfl, n1, os1, d1, ⟨rot1, p1⟩, hw1⟩
        have hI1 : InS enc kk w blk off d.size w.heap.size (.func (.func g) #[] lb) (.func (.func sf) #[] sb) d1 w1 := by rw [hw1]; exact HIS.out.on p1.1
        have P1 : Hid (PermIn a b d d1) := Lib.hid (permIn_mono _ _ _ _ _ _ (by omega) (by omega) hb p1)
        clear hw1 rc c0 c1 p1
        obtain ⟨X1, X2, X3, X4, X5⟩ := FIN.out d1 rot1
        have hz1 : d1.size = d.size := hI1.sz
        have c0 := hI1.c0
        have c1 := hI1.c1
        have H1 := Lib.hid hI1
        have X1 := Lib.hid X1
        have X2 := Lib.hid X2
        have X3 := Lib.hid X3
        have X4 := Lib.hid X4
        have X5 := Lib.hid X5
        have hb1 : b ≤ d1.size := by omega
        clear rot1 hI1 FIN
        obtain ⟨w2, rfl⟩ : ∃ w2, w2 = w1 := ⟨_, rfl⟩
        obtain ⟨d2, hd2⟩ : ∃ d2, d2 = d1 := ⟨_, rfl⟩
        have s2 : SortedIn lt a M d2 := by rw [hd2]; have := X3.out; rwa [show s = a by omega] at this
        have p2 : PermIn a M d1 d2 := by rw [hd2]; exact permIn_refl _ _ _
        have hI2 : InS enc kk w blk off d.size w.heap.size (.func (.func g) #[] lb) (.func (.func sf) #[] sb) d2 w2 := by rw [hd2]; exact H1.out
        clear hd2 c0 c1
        have hz2 : d2.size = d.size := hI2.sz
        have c0 := hI2.c0
        have c1 := hI2.c1
        have Y4 := Lib.hid (sorted_other X4.out p2 (Or.inr (Nat.le_refl _)))
        have Y5 := Lib.hid (sorted_other X5.out p2 (Or.inr z6))
        have H2 := Lib.hid hI2
        have S2 := Lib.hid s2
        have P2 := Lib.hid p2
        clear hI2 s2 p2 X2 X3 X4 X5
        have s3 : SortedIn lt M b d2 := by have := Y4.out; rwa [show en = b by omega] at this
        have R := Lib.hid (halves_done (by omega) (by omega) hb1 X1.out P2.out S2.out (permIn_refl d2 M b) s3)
        clear c0 c1 s3
        go_wp2
        go_end0
        exact H2.out.post ⟨permIn_trans _ _ _ _ _ P1.out R.out.2, R.out.1⟩
      · have i1 : ¬ (s : Int) < (m : Int) := by omega
        have i3 : (a : Int) < (s : Int) := by omega
        have i4 : (s : Int) < (M : Int) := by omega
        have i5 : ¬ (M : Int) < (en : Int) := by omega
        obtain ⟨w1, rfl⟩ : ∃ w1, w1 = wr := ⟨_, rfl⟩
        obtain ⟨d1, hd1⟩ : ∃ d1, d1 = d := ⟨_, rfl⟩
        have rot1 : Rot d s m en d1 := by rw [hd1]; exact (by rw [show s = m by omega]; exact rot_refl_l d m en z3)
        have P1 : Hid (PermIn a b d d1) := Lib.hid (by rw [hd1]; exact permIn_refl _ _ _)
        have hI1 : InS enc kk w blk off d.size w.heap.size (.func (.func g) #[] lb) (.func (.func sf) #[] sb) d1 w1 := by rw [hd1]; exact HIS.out
        clear hd1 c0 c1
        obtain ⟨X1, X2, X3, X4, X5⟩ := FIN.out d1 rot1
        have hz1 : d1.size = d.size := hI1.sz
        have c0 := hI1.c0
        have c1 := hI1.c1
        have H1 := Lib.hid hI1
        have X1 := Lib.hid X1
        have X2 := Lib.hid X2
        have X3 := Lib.hid X3
        have X4 := Lib.hid X4
        have X5 := Lib.hid X5
        have hb1 : b ≤ d1.size := by omega
        clear rot1 hI1 FIN
        have rc := IH.out a s M d1 w1 (by omega) (H1.out.lessReads HLESS.out) (by rw [hz1]; exact HSWP.out) H1.out.holds H1.out.hlt (by omega) (by omega) (by omega) (by omega) X2.out X3.out
        go_wp2_with fail
        refine rc.mono ?_
        rintro e w2 ⟨rfl, n2, os2, d2, ⟨p2, s2⟩, hw2⟩
        have hI2 : InS enc kk w blk off d.size w.heap.size (.func (.func g) #[] lb) (.func (.func sf) #[] sb) d2 w2 := by rw [hw2]; exact H1.out.on p2.1
        clear hw2 rc c0 c1
        have hz2 : d2.size = d.size := hI2.sz
        have c0 := hI2.c0
        have c1 := hI2.c1
        have Y4 := Lib.hid (sorted_other X4.out p2 (Or.inr (Nat.le_refl _)))
        have Y5 := Lib.hid (sorted_other X5.out p2 (Or.inr z6))
        have H2 := Lib.hid hI2
        have S2 := Lib.hid s2
        have P2 := Lib.hid p2
        clear hI2 s2 p2 X2 X3 X4 X5
        have s3 : SortedIn lt M b d2 := by have := Y5.out; rwa [show en = M by omega] at this
        have R := Lib.hid (halves_done (by omega) (by omega) hb1 X1.out P2.out S2.out (permIn_refl d2 M b) s3)
        clear c0 c1 s3
        go_wp2
        go_end0
        exact H2.out.post ⟨permIn_trans _ _ _ _ _ P1.out R.out.2, R.out.1⟩
      · have i1 : ¬ (s : Int) < (m : Int) := by omega
        have i3 : (a : Int) < (s : Int) := by omega
        have i4 : ¬ (s : Int) < (M : Int) := by omega
        have i5 : ¬ (M : Int) < (en : Int) := by omega
        obtain ⟨w1, rfl⟩ : ∃ w1, w1 = wr := ⟨_, rfl⟩
        obtain ⟨d1, hd1⟩ : ∃ d1, d1 = d := ⟨_, rfl⟩
        have rot1 : Rot d s m en d1 := by rw [hd1]; exact (by rw [show s = m by omega]; exact rot_refl_l d m en z3)
        have P1 : Hid (PermIn a b d d1) := Lib.hid (by rw [hd1]; exact permIn_refl _ _ _)
        have hI1 : InS enc kk w blk off d.size w.heap.size (.func (.func g) #[] lb) (.func (.func sf) #[] sb) d1 w1 := by rw [hd1]; exact HIS.out
        clear hd1 c0 c1
        obtain ⟨X1, X2, X3, X4, X5⟩ := FIN.out d1 rot1
        have hz1 : d1.size = d.size := hI1.sz
        have c0 := hI1.c0
        have c1 := hI1.c1
        have H1 := Lib.hid hI1
        have X1 := Lib.hid X1
        have X2 := Lib.hid X2
        have X3 := Lib.hid X3
        have X4 := Lib.hid X4
        have X5 := Lib.hid X5
        have hb1 : b ≤ d1.size := by omega
        clear rot1 hI1 FIN
        obtain ⟨w2, rfl⟩ : ∃ w2, w2 = w1 := ⟨_, rfl⟩
        obtain ⟨d2, hd2⟩ : ∃ d2, d2 = d1 := ⟨_, rfl⟩
        have s2 : SortedIn lt a M d2 := by rw [hd2]; have := X2.out; rwa [show s = M by omega] at this
        have p2 : PermIn a M d1 d2 := by rw [hd2]; exact permIn_refl _ _ _
        have hI2 : InS enc kk w blk off d.size w.heap.size (.func (.func g) #[] lb) (.func (.func sf) #[] sb) d2 w2 := by rw [hd2]; exact H1.out
        clear hd2 c0 c1
        have hz2 : d2.size = d.size := hI2.sz
        have c0 := hI2.c0
        have c1 := hI2.c1
        have Y4 := Lib.hid (sorted_other X4.out p2 (Or.inr (Nat.le_refl _)))
        have Y5 := Lib.hid (sorted_other X5.out p2 (Or.inr z6))
        have H2 := Lib.hid hI2
        have S2 := Lib.hid s2
        have P2 := Lib.hid p2
        clear hI2 s2 p2 X2 X3 X4 X5
        have s3 : SortedIn lt M b d2 := by have := Y5.out; rwa [show en = M by omega] at this
        have R := Lib.hid (halves_done (by omega) (by omega) hb1 X1.out P2.out S2.out (permIn_refl d2 M b) s3)
        clear c0 c1 s3
        go_wp2
        go_end0
        exact H2.out.post ⟨permIn_trans _ _ _ _ _ P1.out R.out.2, R.out.1⟩
      · have i1 : (s : Int) < (m : Int) := by omega
        have i2 : ¬ (m : Int) < (en : Int) := by omega
        have i3 : (a : Int) < (s : Int) := by omega
        have i4 : ¬ (s : Int) < (M : Int) := by omega
        have i5 : (M : Int) < (en : Int) := by omega
        have i6 : (en : Int) < (b : Int) := by omega
        obtain ⟨w1, rfl⟩ : ∃ w1, w1 = wr := ⟨_, rfl⟩
        obtain ⟨d1, hd1⟩ : ∃ d1, d1 = d := ⟨_, rfl⟩
        have rot1 : Rot d s m en d1 := by rw [hd1]; exact (by rw [show en = m by omega]; exact rot_refl_r d s m z2)
        have P1 : Hid (PermIn a b d d1) := Lib.hid (by rw [hd1]; exact permIn_refl _ _ _)
        have hI1 : InS enc kk w blk off d.size w.heap.size (.func (.func g) #[] lb) (.func (.func sf) #[] sb) d1 w1 := by rw [hd1]; exact HIS.out
        clear hd1 c0 c1
        obtain ⟨X1, X2, X3, X4, X5⟩ := FIN.out d1 rot1
        have hz1 : d1.size = d.size := hI1.sz
        have c0 := hI1.c0
        have c1 := hI1.c1
        have H1 := Lib.hid hI1
        have X1 := Lib.hid X1
        have X2 := Lib.hid X2
        have X3 := Lib.hid X3
        have X4 := Lib.hid X4
        have X5 := Lib.hid X5
        have hb1 : b ≤ d1.size := by omega
        clear rot1 hI1 FIN
        obtain ⟨w2, rfl⟩ : ∃ w2, w2 = w1 := ⟨_, rfl⟩
        obtain ⟨d2, hd2⟩ : ∃ d2, d2 = d1 := ⟨_, rfl⟩
        have s2 : SortedIn lt a M d2 := by rw [hd2]; have := X2.out; rwa [show s = M by omega] at this
        have p2 : PermIn a M d1 d2 := by rw [hd2]; exact permIn_refl _ _ _
        have hI2 : InS enc kk w blk off d.size w.heap.size (.func (.func g) #[] lb) (.func (.func sf) #[] sb) d2 w2 := by rw [hd2]; exact H1.out
        clear hd2 c0 c1
        have hz2 : d2.size = d.size := hI2.sz
        have c0 := hI2.c0
        have c1 := hI2.c1
        have Y4 := Lib.hid (sorted_other X4.out p2 (Or.inr (Nat.le_refl _)))
        have Y5 := Lib.hid (sorted_other X5.out p2 (Or.inr z6))
        have H2 := Lib.hid hI2
        have S2 := Lib.hid s2
        have P2 := Lib.hid p2
        clear hI2 s2 p2 X2 X3 X4 X5
        have rc := IH.out M en b d2 w2 (by omega) (H2.out.lessReads HLESS.out) (by rw [hz2]; exact HSWP.out) H2.out.holds H2.out.hlt (by omega) (by omega) (by omega) (by omega) Y4.out Y5.out
        go_wp2_with fail
        refine rc.mono ?_
        rintro e w3 ⟨rfl, n3, os3, d3, ⟨p3, s3⟩, hw3⟩
        have hI3 : InS enc kk w blk off d.size w.heap.size (.func (.func g) #[] lb) (.func (.func sf) #[] sb) d3 w3 := by rw [hw3]; exact H2.out.on p3.1
        have R := Lib.hid (halves_done (by omega) (by omega) hb1 X1.out P2.out S2.out p3 s3)
        have H3 := Lib.hid hI3
        clear hw3 rc c0 c1 H2 hI3 p3 s3
        go_wp2
        go_end0
        exact H3.out.post ⟨permIn_trans _ _ _ _ _ P1.out R.out.2, R.out.1⟩
end
end Go.Proofs.YtkjlhcfocefhpaaDoor

/- Walks over the library's stable sort: symMerge whole, and stable. -/
namespace Go.Proofs.YtkjlhcfocefhpaaDoor
open Go.RowKit Go.Sort Go.Lib

section
variable {α : Type} [Inhabited α] {enc : α → List Value} {kk : Nat} {lt : α → α → Bool}
variable (hk : ∀ x, (enc x).length = kk) (hS : SWO lt) (g : Nat) (lb : Array Value) (sf : Nat) (sb : Array Value)

include hk hS in
theorem symmerge_s (eg : ∀ args w, (callFunc g args).run Tryd.prog w = .ok (.enter g args) w) (blk off : Nat) : ∀ (N a m b : Nat) (d : Array α) (w : World), b - a ≤ N →
    LessG Tryd.prog g lb enc kk lt blk off d.size w → SwapSwapsK Tryd.prog sf sb enc kk blk off d.size → HoldsK enc kk w blk off d → blk < w.heap.size → a < m → m < b → b ≤ d.size → d.size < 4611686018427387904 →
    SortedIn lt a m d → SortedIn lt m b d →
    Calls Tryd.prog 149 #[dta g lb sf sb, .int .i64 a, .int .i64 m, .int .i64 b] w (SrtPost enc kk w blk off fun d' => PermIn a b d d' ∧ SortedIn lt a b d')
  | 0, a, m, b, d, w, hN, hless, hswap, hH, hblk, ham, hmb, hb, hsz, hl, hr => by omega
  | N + 1, a, m, b, d, w, hN, hless, hswap, hH, hblk, ham, hmb, hb, hsz, hl, hr => by
    by_cases c1 : m = a + 1
    · exact sym_left hk hS g lb sf sb eg blk off a m b d w hless hswap hH hblk c1 hmb hb hsz hr
    by_cases c2 : b = m + 1
    · exact sym_right hk hS g lb sf sb eg blk off a m b d w hless hswap hH hblk (by omega) c2 hb hsz hl
    by_cases c3 : m > (a + b) / 2
    · exact sym_gt hk hS g lb sf sb eg blk off N a m b d w hN (symmerge_s eg blk off N) hless hswap hH hblk (by omega) (by omega) hb hsz hl hr c3
    · exact sym_le hk hS g lb sf sb eg blk off N a m b d w hN (symmerge_s eg blk off N) hless hswap hH hblk (by omega) (by omega) hb hsz hl hr (by omega)

theorem mul_lt_step {p q C : Nat} (h : p < q) : p * C + C ≤ q * C := by
  have : (p + 1) * C ≤ q * C := Nat.mul_le_mul_right _ h
  rwa [Nat.succ_mul] at this
/-- the first q pairs of blocks are merged, the blocks behind them sorted -/
def HalfS (lt : α → α → Bool) (B n q : Nat) (d : Array α) : Prop := (∀ p, p < q → SortedIn lt (p * (2 * B)) (p * (2 * B) + 2 * B) d) ∧ ∀ p, 2 * q ≤ p → p * B ≤ n → SortedIn lt (p * B) (min (p * B + B) n) d
theorem half_two {B q A : Nat} (hA : A = q * (2 * B)) : (2 * q) * B = A ∧ (2 * q + 1) * B = A + B := by
  have h : (2 * q) * B = A := by rw [hA, Nat.mul_comm 2 q, Nat.mul_assoc]
  exact ⟨h, by rw [Nat.succ_mul, h]⟩
theorem half_first {B n q A : Nat} {d : Array α} (h : HalfS lt B n q d) (hA : A = q * (2 * B)) (hn : A + B ≤ n) : SortedIn lt A (A + B) d := by
  obtain ⟨e1, e2⟩ := half_two hA
  have := h.2 (2 * q) (Nat.le_refl _) (by omega)
  rwa [e1, Nat.min_eq_left hn] at this
theorem half_second {B n q A e : Nat} {d : Array α} (h : HalfS lt B n q d) (hA : A = q * (2 * B)) (hn : A + B ≤ n) (he : e = min (A + B + B) n) : SortedIn lt (A + B) e d := by
  obtain ⟨e1, e2⟩ := half_two hA
  have := h.2 (2 * q + 1) (by omega) (by omega)
  rwa [e2, ← he] at this
theorem half_step {B n q A : Nat} {d d' : Array α} (h : HalfS lt B n q d) (hA : A = q * (2 * B)) (hp : PermIn A (A + 2 * B) d d') (hs : SortedIn lt A (A + 2 * B) d') : HalfS lt B n (q + 1) d' := by
  obtain ⟨e1, e2⟩ := half_two hA
  refine ⟨fun p hpq => ?_, fun p hpq hpn => ?_⟩
  · rcases Nat.lt_or_ge p q with hlt | hge
    · exact sorted_other (h.1 p hlt) hp (Or.inl (by rw [hA]; exact mul_lt_step hlt))
    · obtain rfl : p = q := by omega
      rw [← hA]; exact hs
  · refine sorted_other (h.2 p (by omega) hpn) hp (Or.inr ?_)
    have : (2 * q + 2) * B ≤ p * B := Nat.mul_le_mul_right _ (by omega)
    rw [show 2 * q + 2 = 2 * q + 1 + 1 by omega, Nat.succ_mul, e2] at this
    omega
theorem half_done {B n q A : Nat} {d d' : Array α} (h : HalfS lt B n q d) (hA : A = q * (2 * B)) (hAn : A ≤ n) (hb : n < A + 2 * B) (hp : PermIn A n d d') (hs : SortedIn lt A n d') : ∀ p, p * (B * 2) ≤ n → SortedIn lt (p * (B * 2)) (min (p * (B * 2) + B * 2) n) d' := by
  intro p hpn
  rw [Nat.mul_comm B 2] at *
  rcases Nat.lt_trichotomy p q with hlt | rfl | hlt
  · have := mul_lt_step (C := 2 * B) hlt
    rw [Nat.min_eq_left (by omega)]
    exact sorted_other (h.1 p hlt) hp (Or.inl (by omega))
  · rw [← hA, Nat.min_eq_right (by omega)]; exact hs
  · have := mul_lt_step (C := 2 * B) hlt
    omega
/-- every block of B elements from 0 on is sorted, and so is what is left -/
def BlkS (lt : α → α → Bool) (B n : Nat) (d : Array α) : Prop := ∀ q, q * B ≤ n → SortedIn lt (q * B) (min (q * B + B) n) d

set_option maxHeartbeats 8000000 in
set_option maxRecDepth 100000 in
include hk hS in
theorem stable_s (eg : ∀ args w, (callFunc g args).run Tryd.prog w = .ok (.enter g args) w) (blk off n : Nat) (d : Array α) (w : World) (hn : d.size = n)
    (hless : LessG Tryd.prog g lb enc kk lt blk off d.size w) (hswap : SwapSwapsK Tryd.prog sf sb enc kk blk off d.size) (hH : HoldsK enc kk w blk off d) (hblk : blk < w.heap.size) (hsz : n < 1152921504606846976) :
    Calls Tryd.prog 135 #[dta g lb sf sb, .int .i64 n] w (SrtPost enc kk w blk off fun d' => PermIn 0 n d d' ∧ SortedIn lt 0 n d') := by
  have H0 := Lib.hid (InS.start (g := g) (lb := lb) (sf := sf) (sb := sb) hH hblk)
  have HLESS := Lib.hid hless
  have HSWP := Lib.hid hswap
  have HN := Lib.hid hn
  have hdn : d.size ≤ n := by omega
  have hdn2 : n ≤ d.size := by omega
  clear hless hswap hH hn
  go_enter Tryd.func135, Tryd.ntmps135
  go_wp2
  go_loopw [5, 6] (fun va vb wr => ∃ (q : Nat) (dk : Array α), va = .int .i64 ((q * 20 : Nat) : Int) ∧ vb = .int .i64 ((q * 20 + 20 : Nat) : Int) ∧ q * 20 ≤ n ∧ InS enc kk w blk off d.size w.heap.size (.func (.func g) #[] lb) (.func (.func sf) #[] sb) dk wr ∧ PermIn 0 n d dk ∧ (∀ p, p < q → SortedIn lt (p * 20) (p * 20 + 20) dk)) (fun va _ _ => n - (intOf va).toNat)
  case atStart => exact ⟨0, d, by simp, by simp, by omega, H0.out, permIn_refl _ _ _, by intro p hp; omega⟩
  case round =>
    obtain ⟨q, dk, rfl, rfl, hq, hI, hpm, hso⟩ := hrel
    have HI := Lib.hid hI
    have HPM := Lib.hid hpm
    have HSO := Lib.hid hso
    have c0 := hI.c0
    have c1 := hI.c1
    have hsk := hI.sz
    clear hI hpm hso
    obtain ⟨a, ha⟩ : ∃ a, a = q * 20 := ⟨_, rfl⟩
    rw [← ha]
    rw [← ha] at hq
    have HA := Lib.hid ha
    clear ha
    by_cases hlt : a + 20 ≤ n
    · have rc := insertion_s hk hS g lb sf sb eg blk off a (a + 20) dk wr (HI.out.lessReads HLESS.out) (by rw [hsk]; exact HSWP.out) HI.out.holds HI.out.hlt (by omega) (by omega) (by omega)
      have hle : ((a + 20 : Nat) : Int) ≤ (n : Int) := by omega
      go_wp2_with fail
      refine rc.mono ?_
      rintro e w1 ⟨rfl, n1, os1, d1, ⟨p1, s1⟩, hw1⟩
      have hI1 : InS enc kk w blk off d.size w.heap.size (.func (.func g) #[] lb) (.func (.func sf) #[] sb) d1 w1 := by rw [hw1]; exact HI.out.on p1.1
      have REL : Hid (∃ (q : Nat) (dk : Array α), Value.int .i64 ((a + 20 : Nat) : Int) = .int .i64 ((q * 20 : Nat) : Int) ∧ Value.int .i64 (((a + 20 : Nat) : Int) + 20) = .int .i64 ((q * 20 + 20 : Nat) : Int) ∧ q * 20 ≤ n ∧ InS enc kk w blk off d.size w.heap.size (.func (.func g) #[] lb) (.func (.func sf) #[] sb) dk w1 ∧ PermIn 0 n d dk ∧ (∀ p, p < q → SortedIn lt (p * 20) (p * 20 + 20) dk)) := Lib.hid (by
        have ha := HA.out
        refine ⟨q + 1, d1, by congr 2; omega, by congr 1; omega, by omega, hI1, permIn_trans _ _ _ _ _ HPM.out (permIn_mono _ _ _ _ _ _ (by omega) hlt (by omega) p1), fun p hp => ?_⟩
        rcases Nat.lt_or_ge p q with h | h
        · exact sorted_other (HSO.out p h) p1 (Or.inl (by omega))
        · obtain rfl : p = q := by omega
          rw [← ha]; exact s1)
      clear hw1 rc c0 c1 p1 s1 hI1
      go_wp2
      go_roundw
      case rel => exact REL.out
      case measure => simp [intOf]; omega
    · have rc := insertion_s hk hS g lb sf sb eg blk off a n dk wr (HI.out.lessReads HLESS.out) (by rw [hsk]; exact HSWP.out) HI.out.holds HI.out.hlt (by omega) (by omega) (by omega)
      have hle : ¬ ((a + 20 : Nat) : Int) ≤ (n : Int) := by omega
      go_wp2_with fail
      refine rc.mono ?_
      rintro e w1 ⟨rfl, n1, os1, d1, ⟨p1, s1⟩, hw1⟩
      have hI1 : InS enc kk w blk off d.size w.heap.size (.func (.func g) #[] lb) (.func (.func sf) #[] sb) d1 w1 := by rw [hw1]; exact HI.out.on p1.1
      have ST : Hid (InS enc kk w blk off d.size w.heap.size (.func (.func g) #[] lb) (.func (.func sf) #[] sb) d1 w1 ∧ PermIn 0 n d d1 ∧ BlkS lt 20 n d1) := Lib.hid (by
        have ha := HA.out
        refine ⟨hI1, permIn_trans _ _ _ _ _ HPM.out (permIn_mono _ _ _ _ _ _ (by omega) (by omega) (by omega) p1), fun p hp => ?_⟩
        rcases Nat.lt_or_ge p q with h | h
        · rw [Nat.min_eq_left (by omega)]
          exact sorted_other (HSO.out p h) p1 (Or.inl (by omega))
        · obtain rfl : p = q := by omega
          rw [Nat.min_eq_right (by omega), ← ha]; exact s1)
      clear hw1 rc c0 c1 p1 s1 hI1 HI HPM HSO hsk
      go_wp2
      go_loopw [4] (fun vB wr => ∃ (B : Nat) (dk : Array α), vB = .int .i64 B ∧ 20 ≤ B ∧ B < 2305843009213693952 ∧ InS enc kk w blk off d.size w.heap.size (.func (.func g) #[] lb) (.func (.func sf) #[] sb) dk wr ∧ PermIn 0 n d dk ∧ BlkS lt B n dk) (fun vB _ => n - (intOf vB).toNat)
      case atStart => exact ⟨20, d1, rfl, by omega, by omega, ST.out.1, ST.out.2.1, ST.out.2.2⟩
      case round =>
        clear ST
        obtain ⟨B, dk, rfl, hB, hB2, hI, hpm, hbs⟩ := hrel
        have HI := Lib.hid hI
        have HPM := Lib.hid hpm
        have HBS := Lib.hid hbs
        clear hI hpm hbs
        by_cases hlt : B < n
        · have hlti : (B : Int) < (n : Int) := by omega
          go_wp2
          go_loopw [5, 6] (fun va vb wr => ∃ (q A : Nat) (dj : Array α), va = .int .i64 (A : Int) ∧ vb = .int .i64 ((A : Int) + 2 * (B : Int)) ∧ A = q * (2 * B) ∧ A ≤ n ∧ InS enc kk w blk off d.size w.heap.size (.func (.func g) #[] lb) (.func (.func sf) #[] sb) dj wr ∧ PermIn 0 n d dj ∧ HalfS lt B n q dj) (fun va _ _ => n - (intOf va).toNat)
          case atStart => exact ⟨0, 0, dk, rfl, by simp, by simp, by omega, HI.out, HPM.out, ⟨by intro p hp; omega, fun p _ hp => HBS.out p hp⟩⟩
          case round =>
            clear HI HPM HBS
            obtain ⟨q, A, dj, rfl, rfl, hA, hAn, hI, hpm, hhs⟩ := hrel
            have HI := Lib.hid hI
            have HPM := Lib.hid hpm
            have HHS := Lib.hid hhs
            have HA := Lib.hid hA
            have c0 := hI.c0
            have c1 := hI.c1
            have hsj := hI.sz
            clear hI hpm hhs hA
            by_cases hle : A + 2 * B ≤ n
            · have hlei : (A : Int) + 2 * (B : Int) ≤ (n : Int) := by omega
              have rc := symmerge_s hk hS g lb sf sb eg blk off n A (A + B) (A + 2 * B) dj wr (by omega) (HI.out.lessReads HLESS.out) (by rw [hsj]; exact HSWP.out) HI.out.holds HI.out.hlt (by omega) (by omega) (by omega) (by omega) (half_first HHS.out HA.out (by omega)) (half_second HHS.out HA.out (by omega) (by omega))
              rw [show ((A + B : Nat) : Int) = (A : Int) + (B : Int) by omega, show ((A + 2 * B : Nat) : Int) = (A : Int) + 2 * (B : Int) by omega] at rc
              go_wp2_with fail
              refine rc.mono ?_
              rintro e w1 ⟨rfl, n1, os1, d1, ⟨p1, s1⟩, hw1⟩
              have hI1 : InS enc kk w blk off d.size w.heap.size (.func (.func g) #[] lb) (.func (.func sf) #[] sb) d1 w1 := by rw [hw1]; exact HI.out.on p1.1
              have REL : Hid (∃ (q A' : Nat) (dj : Array α), Value.int .i64 ((A : Int) + 2 * (B : Int)) = .int .i64 (A' : Int) ∧ Value.int .i64 ((A : Int) + 2 * (B : Int) + 2 * (B : Int)) = .int .i64 ((A' : Int) + 2 * (B : Int)) ∧ A' = q * (2 * B) ∧ A' ≤ n ∧ InS enc kk w blk off d.size w.heap.size (.func (.func g) #[] lb) (.func (.func sf) #[] sb) dj w1 ∧ PermIn 0 n d dj ∧ HalfS lt B n q dj) := Lib.hid
                ⟨q + 1, A + 2 * B, d1, by congr 1, by congr 1, by rw [Nat.add_mul, Nat.one_mul, ← HA.out], hle, hI1, permIn_trans _ _ _ _ _ HPM.out (permIn_mono _ _ _ _ _ _ (by omega) hle (by omega) p1), half_step HHS.out HA.out p1 s1⟩
              clear hw1 rc c0 c1 p1 s1 hI1
              go_wp2
              go_roundw
              case rel => exact REL.out
              case measure => simp [intOf]; omega
            · have hlei : ¬ (A : Int) + 2 * (B : Int) ≤ (n : Int) := by omega
              by_cases hm : A + B < n
              · have hmi : (A : Int) + (B : Int) < (n : Int) := by omega
                have rc := symmerge_s hk hS g lb sf sb eg blk off n A (A + B) n dj wr (by omega) (HI.out.lessReads HLESS.out) (by rw [hsj]; exact HSWP.out) HI.out.holds HI.out.hlt (by omega) (by omega) (by omega) (by omega) (half_first HHS.out HA.out (by omega)) (half_second HHS.out HA.out (by omega) (by omega))
                rw [show ((A + B : Nat) : Int) = (A : Int) + (B : Int) by omega] at rc
                go_wp2_with fail
                refine rc.mono ?_
                rintro e w1 ⟨rfl, n1, os1, d1, ⟨p1, s1⟩, hw1⟩
                have hI1 : InS enc kk w blk off d.size w.heap.size (.func (.func g) #[] lb) (.func (.func sf) #[] sb) d1 w1 := by rw [hw1]; exact HI.out.on p1.1
                have REL : Hid (∃ (B' : Nat) (dk : Array α), Value.int .i64 ((B : Int) * 2) = .int .i64 (B' : Int) ∧ 20 ≤ B' ∧ B' < 2305843009213693952 ∧ InS enc kk w blk off d.size w.heap.size (.func (.func g) #[] lb) (.func (.func sf) #[] sb) dk w1 ∧ PermIn 0 n d dk ∧ BlkS lt B' n dk) := Lib.hid
                  ⟨B * 2, d1, by congr 1, by omega, by omega, hI1, permIn_trans _ _ _ _ _ HPM.out (permIn_mono _ _ _ _ _ _ (by omega) (by omega) (by omega) p1), half_done HHS.out HA.out hAn (by omega) p1 s1⟩
                clear hw1 rc c0 c1 p1 s1 hI1
                go_wp2
                go_roundw
                case rel => exact REL.out
                case measure => simp [intOf]; omega
              · have hmi : ¬ (A : Int) + (B : Int) < (n : Int) := by omega
                have REL : Hid (∃ (B' : Nat) (dk : Array α), Value.int .i64 ((B : Int) * 2) = .int .i64 (B' : Int) ∧ 20 ≤ B' ∧ B' < 2305843009213693952 ∧ InS enc kk w blk off d.size w.heap.size (.func (.func g) #[] lb) (.func (.func sf) #[] sb) dk wr ∧ PermIn 0 n d dk ∧ BlkS lt B' n dk) := Lib.hid
                  ⟨B * 2, dj, by congr 1, by omega, by omega, HI.out, HPM.out, half_done HHS.out HA.out hAn (by omega) (permIn_refl _ _ _) (by
                    obtain ⟨e1, e2⟩ := half_two HA.out
                    have := HHS.out.2 (2 * q) (Nat.le_refl _) (by omega)
                    rwa [e1, Nat.min_eq_right (by omega)] at this)⟩
                clear c0 c1
                go_wp2
                go_roundw
                case rel => exact REL.out
                case measure => simp [intOf]; omega
        · have hge : ¬ (B : Int) < (n : Int) := by omega
          go_wp2
          go_end0
          refine HI.out.post ⟨HPM.out, ?_⟩
          have := HBS.out 0 (by omega)
          rwa [Nat.zero_mul, Nat.zero_add, Nat.min_eq_right (by omega)] at this
end
end Go.Proofs.YtkjlhcfocefhpaaDoor

/- Standard forms of what a call leaves, and of what is known of memory, with one step lemma each. -/
namespace Go.Proofs.YtkjlhcfocefhpaaDoor
open Go.RowKit

/-- all that was there is as it was -/
def Ex (w w' : World) : Prop := Chg (· < w.heap.size) w w'
/-- all that was there is as it was, but perhaps block b -/
def Exb (b : Nat) (w w' : World) : Prop := Chg (fun k => k < w.heap.size ∧ k ≠ b) w w'

theorem Ex.refl (w : World) : Ex w w := Chg.refl _ w
theorem Exb.refl (b : Nat) (w : World) : Exb b w w := Chg.refl _ w
theorem Ex.size {w w' : World} (k : Ex w w') : w.heap.size ≤ w'.heap.size := Chg.size k
theorem Exb.size {b : Nat} {w w' : World} (k : Exb b w w') : w.heap.size ≤ w'.heap.size := Chg.size k
theorem Ex.nx {w w1 w2 : World} (h : Ex w w1) (k : Ex w1 w2) : Ex w w2 := Chg.next h k
theorem Exb.nxb {b : Nat} {w w1 w2 : World} (h : Exb b w w1) (k : Exb b w1 w2) : Exb b w w2 :=
  Chg.trans h (Chg.mono k (fun _ hk => ⟨Nat.lt_of_lt_of_le hk.1 h.size, hk.2⟩))
theorem Ex.b {w w' : World} (k : Ex w w') (b : Nat) : Exb b w w' := Chg.mono k (fun _ h => h.1)
theorem Exb.b {b : Nat} {w w' : World} (k : Exb b w w') (_ : Nat) : Exb b w w' := k
/-- of the law itself: the tape was made by it -/
def Exl (b : Nat) (w w' : World) : Prop := Ex w w' ∧ w.heap.size ≤ b
theorem Exl.nxb {b : Nat} {w w1 w2 : World} (h : Exl b w w1) (k : Exb b w1 w2) : Exl b w w2 :=
  ⟨Chg.trans h.1 (Chg.mono k (fun _ hk => ⟨Nat.lt_of_lt_of_le hk h.1.size, by have := h.2; omega⟩)), h.2⟩
theorem Exl.nx {b : Nat} {w w1 w2 : World} (h : Exl b w w1) (k : Ex w1 w2) : Exl b w w2 := ⟨h.1.nx k, h.2⟩
theorem Exl.size {b : Nat} {w w' : World} (h : Exl b w w') : w.heap.size ≤ w'.heap.size := h.1.size
theorem Ex.alloc {w w' : World} (h : Ex w w') (o : Obj) : Ex w (w'.alloc o) := Chg.alloc h o (fun _ hk => Nat.lt_of_lt_of_le hk h.size)
theorem Exb.alloc {b : Nat} {w w' : World} (h : Exb b w w') (o : Obj) : Exb b w (w'.alloc o) := Chg.alloc h o (fun _ hk => Nat.lt_of_lt_of_le hk.1 h.size)
theorem Ex.new (w : World) (o : Obj) : Ex w (w.alloc o) := (Ex.refl w).alloc o
theorem Ex.drew {w w' : World} (h : Ex w w') : Ex w w'.drew := Chg.drew h
theorem Exb.drew {b : Nat} {w w' : World} (h : Exb b w w') : Exb b w w'.drew := Chg.drew h
theorem Ex.drewN {w w' : World} (h : Ex w w') (n : Nat) : Ex w (w'.drewN n) := Chg.drewN h n
theorem Ex.setNew {w w' : World} (h : Ex w w') {p : Addr} (v : Value) (hp : w.heap.size ≤ p.block) : Ex w (w'.setCell p v) := Chg.setCell h v (fun k (hk : k < w.heap.size) => by omega)
theorem Exb.setNew {b : Nat} {w w' : World} (h : Exb b w w') {p : Addr} (v : Value) (hp : w.heap.size ≤ p.block) : Exb b w (w'.setCell p v) := Chg.setCell h v (fun k (hk : k < w.heap.size ∧ k ≠ b) => by omega)
theorem Exb.setB {b : Nat} {w w' : World} (h : Exb b w w') {p : Addr} (v : Value) (hp : p.block = b) : Exb b w (w'.setCell p v) := Chg.setCell h v (fun k (hk : k < w.heap.size ∧ k ≠ b) => by rw [hp]; exact hk.2)
theorem Ex.of_exb {b : Nat} {w w' : World} (h : Exb b w w') (hb : w.heap.size ≤ b) : Ex w w' := Chg.mono h (fun k (hk : k < w.heap.size) => ⟨hk, by omega⟩)
theorem Exb.of_big {b : Nat} {w w1 w2 : World} (h : Exb b w w1) (k : Ex w1 w2) : Exb b w w2 := h.nxb (k.b b)

/-- a slice that reads as a list, in memory that is there -/
def Sl {α : Type} (sz : Nat) (enc : α → List Value) (w : World) (a : Option Addr) (n : Nat) (l : List α) : Prop := Rd sz enc (· < w.heap.size) w a n l
/-- the same, not in block b -/
def Slb {α : Type} (sz : Nat) (enc : α → List Value) (b : Nat) (w : World) (a : Option Addr) (n : Nat) (l : List α) : Prop := Rd sz enc (fun k => k < w.heap.size ∧ k ≠ b) w a n l
/-- in memory that was made since w0 -/
def Slf {α : Type} (sz : Nat) (enc : α → List Value) (w0 w : World) (a : Option Addr) (n : Nat) (l : List α) : Prop := Rd sz enc (fun k => w0.heap.size ≤ k ∧ k < w.heap.size) w a n l

section
variable {α : Type} {sz n b : Nat} {enc : α → List Value} {w w' w0 : World} {a : Option Addr} {l : List α}
theorem Sl.nx (h : Sl sz enc w a n l) (k : Ex w w') : Sl sz enc w' a n l :=
  (Rd.chg h k (fun _ hk => hk)).mono (fun _ hk => Nat.lt_of_lt_of_le hk k.size)
theorem Slb.nxb (h : Slb sz enc b w a n l) (k : Exb b w w') : Slb sz enc b w' a n l :=
  (Rd.chg h k (fun _ hk => hk)).mono (fun _ hk => ⟨Nat.lt_of_lt_of_le hk.1 k.size, hk.2⟩)
theorem Slf.nx (h : Slf sz enc w0 w a n l) (k : Ex w w') : Slf sz enc w0 w' a n l :=
  (Rd.chg h k (fun _ hk => hk.2)).mono (fun _ hk => ⟨hk.1, Nat.lt_of_lt_of_le hk.2 k.size⟩)
theorem Slb.sl (h : Slb sz enc b w a n l) : Sl sz enc w a n l := Rd.mono h (fun _ hk => hk.1)
theorem Slf.sl (h : Slf sz enc w0 w a n l) : Sl sz enc w a n l := Rd.mono h (fun _ hk => hk.2)
theorem Slf.slb (h : Slf sz enc w0 w a n l) (hb : b < w0.heap.size) : Slb sz enc b w a n l := Rd.mono h (fun k hk => ⟨hk.2, by have := hk.1; omega⟩)
theorem Sl.slb (h : Sl sz enc w a n l) (hb : w.heap.size ≤ b) : Slb sz enc b w a n l := Rd.mono h (fun k hk => ⟨hk, by have : k < w.heap.size := hk; omega⟩)
theorem Slf.old (h : Slf sz enc w' w a n l) (hw : w0.heap.size ≤ w'.heap.size) : Slf sz enc w0 w a n l := Rd.mono h (fun k hk => ⟨Nat.le_trans hw hk.1, hk.2⟩)
theorem Sl.len (h : Sl sz enc w a n l) : l.length = n := h.1
theorem Slb.len (h : Slb sz enc b w a n l) : l.length = n := h.1
theorem Slf.len (h : Slf sz enc w0 w a n l) : l.length = n := h.1
theorem Sl.nil (sz : Nat) (enc : α → List Value) (w : World) (a : Option Addr) : Sl sz enc w a 0 [] := Rd.nil _ _ _ _ _
theorem Slb.nil (sz : Nat) (enc : α → List Value) (b : Nat) (w : World) (a : Option Addr) : Slb sz enc b w a 0 [] := Rd.nil _ _ _ _ _
theorem Slf.nil (sz : Nat) (enc : α → List Value) (w0 w : World) (a : Option Addr) : Slf sz enc w0 w a 0 [] := Rd.nil _ _ _ _ _
theorem Sl.at (h : Sl sz enc w a n l) {j : Nat} (hj : j < n) : ∃ x o y, a = some ⟨x, o, none⟩ ∧ x < w.heap.size ∧ l[j]? = some y ∧ ∀ c u, (enc y)[c]? = some u → w.cell? ⟨x, o + j * sz + c, none⟩ = some u := Rd.at h hj
theorem Sl.lit {s : Nat} {cs : Array Value} {ty : TypeId} (l : List α) (hs : s = w.heap.size) (hn : l.length = n) (hsz : ∀ y, (enc y).length = sz) (hc : cs = (l.flatMap enc).toArray) : Sl sz enc (w.alloc (.cells cs ty)) (some ⟨s, 0, none⟩) n l :=
  Rd.lit l hs (by simp) hn hsz hc
theorem Slf.lit {s : Nat} {cs : Array Value} {ty : TypeId} (l : List α) (hs : s = w.heap.size) (hw : w0.heap.size ≤ w.heap.size) (hn : l.length = n) (hsz : ∀ y, (enc y).length = sz) (hc : cs = (l.flatMap enc).toArray) : Slf sz enc w0 (w.alloc (.cells cs ty)) (some ⟨s, 0, none⟩) n l :=
  Rd.lit l hs (by simp; exact hw) hn hsz hc
theorem Rd.take {S : Nat → Prop} {m : Nat} (h : Rd sz enc S w a n l) (hm : m ≤ n) : Rd sz enc S w a m (l.take m) := by
  refine ⟨by have := h.1; simp; omega, ?_⟩
  rcases h.2 with h2 | ⟨x, o, e1, e2, e3⟩
  · exact .inl (by omega)
  · refine .inr ⟨x, o, e1, e2, fun j y hj c u hu => e3 j y ?_ c u hu⟩
    rw [List.getElem?_take] at hj
    split at hj
    · exact hj
    · cases hj
theorem Sl.take {m : Nat} (h : Sl sz enc w a n l) (hm : m ≤ n) : Sl sz enc w a m (l.take m) := Rd.take h hm
theorem Rd.drop {S : Nat → Prop} {x o m : Nat} (h : Rd sz enc S w (some ⟨x, o, none⟩) n l) (hm : m ≤ n) : Rd sz enc S w (some ⟨x, o + m * sz, none⟩) (n - m) (l.drop m) := by
  refine ⟨by have := h.1; simp; omega, ?_⟩
  rcases h.2 with h2 | ⟨x', o', e1, e2, e3⟩
  · exact .inl (by omega)
  · cases e1
    refine .inr ⟨_, _, rfl, e2, fun j y hj c u hu => ?_⟩
    rw [List.getElem?_drop] at hj
    have := e3 (m + j) y hj c u hu
    rw [Nat.add_mul] at this
    rw [← this]; congr 2; omega
theorem Sl.drop {x o m : Nat} (h : Sl sz enc w (some ⟨x, o, none⟩) n l) (hm : m ≤ n) : Sl sz enc w (some ⟨x, o + m * sz, none⟩) (n - m) (l.drop m) := Rd.drop h hm
end

/-- a slice of the call's own -/
theorem OwnL.nx {α : Type} {sz e base : Nat} {enc : α → List Value} {w w' : World} {v : Value} {l : List α} (h : OwnL sz enc e base w v l) (k : Ex w w') : OwnL sz enc e base w' v l := h.chg k (fun _ hk _ => hk)
theorem OwnL.nxb {α : Type} {sz e base b : Nat} {enc : α → List Value} {w w' : World} {v : Value} {l : List α} (h : OwnL sz enc e base w v l) (hb : b < base) (k : Exb b w w') : OwnL sz enc e base w' v l := h.chg k (fun x hx hv => ⟨hx, by have := (h.lt x hv).1; omega⟩)
theorem OwnL.slf {α : Type} {sz e : Nat} {enc : α → List Value} {w0 w : World} {v : Value} {l : List α} (h : OwnL sz enc e w0.heap.size w v l) (hsz : ∀ y, (enc y).length = sz) :
    ∃ a cap, v = .slice a l.length cap ∧ Slf sz enc w0 w a l.length l ∧ l.length ≤ cap ∧ cap ≤ maxLen ∧ (a = none → cap = 0) := by
  have hd : ∀ a n c, v = .slice a n c → a = none → c = 0 := by
    intro a n c he hn
    rcases h.2 with ⟨h0, _⟩ | ⟨g, cap, cur, h0, _⟩
    · rw [h0] at he; cases he; rfl
    · rw [h0] at he; cases he; cases hn
  obtain ⟨a, cap, rfl, h1, h2, h3, _⟩ := h.rd hsz
  exact ⟨a, cap, rfl, h1, h2, h3, hd a _ _ rfl⟩

theorem OwnL.base {α : Type} {sz e base base' : Nat} {enc : α → List Value} {w : World} {v : Value} {l : List α} (h : OwnL sz enc e base w v l) (hb : base' ≤ base) : OwnL sz enc e base' w v l := by
  refine ⟨h.1, ?_⟩
  rcases h.2 with h2 | ⟨g, cap, cur, e1, e2, rest⟩
  · exact .inl h2
  · exact .inr ⟨g, cap, cur, e1, by omega, rest⟩
/-- a tape -/
def TT (ty : Nat) (w : World) (b : Nat) : Prop := TP ty w.heap.size w b
theorem TT.nxb {ty b b' : Nat} {w w' : World} (h : TT ty w b) (k : Ex w w') (_ : b' = b) : TT ty w' b := (TP.chg h k (fun _ hk => hk)).mono k.size
theorem TT.nx {ty b : Nat} {w w' : World} (h : TT ty w b) (k : Ex w w') : TT ty w' b := (TP.chg h k (fun _ hk => hk)).mono k.size
theorem TT.lt {ty b : Nat} {w : World} (h : TT ty w b) : b < w.heap.size := TP.lt h
theorem TT.of_tp {ty b B : Nat} {w : World} (h : TP ty B w b) (hB : B ≤ w.heap.size) : TT ty w b := h.mono hB

/-- a block that is known whole -/
def Blk (w : World) (k : Nat) (cs : List Value) (ty : TypeId) : Prop := w.heap[k]? = some (.cells cs.toArray ty (0, 0))
theorem Blk.nx {w w' : World} {g : Nat} {cs : List Value} {ty : TypeId} (h : Blk w g cs ty) (k : Ex w w') : Blk w' g cs ty := (Chg.block k g (heap_lt h)).trans h
theorem Blk.nxb {w w' : World} {b g : Nat} {cs : List Value} {ty : TypeId} (h : Blk w g cs ty) (hb : g ≠ b) (k : Exb b w w') : Blk w' g cs ty := (Chg.block k g ⟨heap_lt h, hb⟩).trans h
theorem Blk.lt {w : World} {g : Nat} {cs : List Value} {ty : TypeId} (h : Blk w g cs ty) : g < w.heap.size := heap_lt h
theorem Blk.new (w : World) (cs : List Value) (ty : TypeId) : Blk (w.alloc (.cells cs.toArray ty)) w.heap.size cs ty := heap_new w _
theorem Blk.cell {w : World} {g : Nat} {cs : List Value} {ty : TypeId} (h : Blk w g cs ty) (j : Nat) (v : Value) (hv : cs[j]? = some v) : w.cell? ⟨g, j, none⟩ = some v := by
  unfold Blk at h; simp [World.cell?, h, hv]
theorem Blk.free {w : World} {g : Nat} {cs : List Value} {ty : TypeId} (h : Blk w g cs ty) (j : Nat) : w.frozen? ⟨g, j, none⟩ = false := by
  unfold Blk at h; simp [World.frozen?, h]
theorem Blk.set {w : World} {g : Nat} {cs : List Value} {ty : TypeId} (h : Blk w g cs ty) (j : Nat) (v : Value) : Blk (w.setCell ⟨g, j, none⟩ v) g (cs.set j v) ty := by
  have := heap_set h j v
  unfold Blk
  rw [this]; simp
theorem Blk.set_ne {w : World} {g g' j : Nat} {cs : List Value} {ty : TypeId} (h : Blk w g cs ty) (v : Value) (hne : g ≠ g') : Blk (w.setCell ⟨g', j, none⟩ v) g cs ty := heap_set_ne h hne
end Go.Proofs.YtkjlhcfocefhpaaDoor

/- copy inside one row of the call's own. -/
namespace Go.Proofs.YtkjlhcfocefhpaaDoor
open Go.RowKit

theorem run_copy_rowN {P : Program} (w : World) (dT sT ty elem : TypeId) (sz g o dLen dCap n : Nat) (a : Addr) (sLen sCap : Nat) (cur : Array Value) (t : TypeId) (cs : List Value)
    (hu : P.underlying dT = some (.slice elem)) (hs : (P.info? elem).map (·.size) = some sz)
    (hg : w.heap[g]? = some (.cells cur t (0, 0))) (hn : n = Nat.min sLen dLen) (hcs : cs.length = n * sz)
    (hsrc : ∀ j v, cs[j]? = some v → w.cell? (a.add j) = some v) (hfit : o + cs.length ≤ cur.size) (h1 : ∀ v ∈ cs, v.oneCell' = true) :
    (Builtin.copy_ #[dT, sT] ty #[.slice (some ⟨g, o, none⟩) dLen dCap, .slice (some a) sLen sCap]).run P w =
      .ok (goInt n) (w.setRow g (cur.toList.take o ++ cs ++ cur.toList.drop (o + cs.length)).toArray) := by
  have hl := run_loadCells_list (P := P) w a cs hsrc
  have hst := run_storeCells_at P g o t cs 0 cur w hg (by simpa using hfit) h1
  cases hq : P.info? elem with
  | none => simp [hq] at hs
  | some i =>
    have hi : i.size = sz := by simpa [hq] using hs
    rw [hcs] at hl
    simp [Builtin.copy_, run_underlying hu, Builtin.lenOf, Builtin.firstCells, sizeOf, typeInfo, hq, hi, ← hn, hl, hst]
theorem run_copy_none0 {P : Program} (w : World) (dT sT ty elem : TypeId) (sz : Nat) (d a : Option Addr) (dLen dCap sLen sCap : Nat) (hu : P.underlying dT = some (.slice elem)) (hs : (P.info? elem).map (·.size) = some sz)
    (hn : Nat.min sLen dLen = 0) : (Builtin.copy_ #[dT, sT] ty #[.slice d dLen dCap, .slice a sLen sCap]).run P w = .ok (goInt 0) w := by
  cases hq : P.info? elem with
  | none => simp [hq] at hs
  | some i =>
    cases d <;> cases a <;> simp [Builtin.copy_, run_underlying hu, Builtin.lenOf, Builtin.firstCells, sizeOf, typeInfo, hq, hn, storeCells, loadCells, loadCellsFrom]

section
variable {α : Type} {sz : Nat} {enc : α → List Value}
theorem flatN_len (hsz : ∀ y, (enc y).length = sz) (l : List α) : (l.flatMap enc).length = l.length * sz := by
  induction l with
  | nil => simp
  | cons y r ih => rw [List.flatMap_cons, List.length_append, hsz, ih, List.length_cons, Nat.succ_mul]; omega
theorem flatN_take (hsz : ∀ y, (enc y).length = sz) : ∀ (l : List α) (m : Nat), (l.take m).flatMap enc = (l.flatMap enc).take (m * sz)
  | [], m => by simp
  | y :: r, 0 => by simp
  | y :: r, m + 1 => by
    rw [List.take_succ_cons, List.flatMap_cons, List.flatMap_cons, flatN_take hsz r m, Nat.succ_mul, Nat.add_comm (m * sz), List.take_append, hsz,
      List.take_of_length_le (l := enc y) (by rw [hsz]; omega), Nat.add_sub_cancel_left]
theorem flatN_drop (hsz : ∀ y, (enc y).length = sz) : ∀ (l : List α) (m : Nat), (l.drop m).flatMap enc = (l.flatMap enc).drop (m * sz)
  | [], m => by simp
  | y :: r, 0 => by simp
  | y :: r, m + 1 => by
    rw [List.drop_succ_cons, List.flatMap_cons, flatN_drop hsz r m, Nat.succ_mul, Nat.add_comm (m * sz), List.drop_append, hsz,
      List.drop_of_length_le (l := enc y) (by rw [hsz]; omega), Nat.add_sub_cancel_left, List.nil_append]

/-- 'copy(out[at+1:], out[at:])', out a row of the call's own of n + 1 elements -/
theorem wp_copy_shift {P : Program} {o : Oper} {a : Act} {K : Act → World → Prop} {Q : Exit → Act → World → Prop} (w : World) (d s : Operand) (t : TypeId)
    (ho : o.op = .call { callee := .builtin .copy, args := #[d, s], argTypes := #[t, t] }) (base : Nat) (e : TypeId) (hu : P.underlying t = some (.slice e)) (hi : (P.info? e).map (·.size) = some sz)
    (hsz : ∀ y, (enc y).length = sz) (h1 : ∀ y, ∀ u ∈ enc y, u.oneCell' = true)
    (g n cap m : Nat) (L : List α) (hown : OwnL sz enc e base w (.slice (some ⟨g, 0, none⟩) (n + 1) cap) L) (hm : m ≤ n) (dp sp : Option Addr) (cd cs : Nat)
    (hd : a.eval d = .slice dp (n - m) cd) (hs : a.eval s = .slice sp (n + 1 - m) cs) (hp : m < n → dp = some ⟨g, (m + 1) * sz, none⟩ ∧ sp = some ⟨g, m * sz, none⟩)
    (h : ∀ w', OwnL sz enc e base w' (.slice (some ⟨g, 0, none⟩) (n + 1) cap) (L.take (m + 1) ++ (L.drop m).take (n - m)) → Chg (· ≠ g) w w' → w'.heap.size = w.heap.size → K (a.put o.dst (goInt (n - m : Nat))) w') : o.wp P a w K Q := by
  have hL : L.length = n + 1 := by
    rcases hown.2 with ⟨h1, _⟩ | ⟨g', cap', cur, e1, _⟩
    · cases h1
    · have e2 : g = g' ∧ n + 1 = L.length ∧ cap = cap' := by simpa using e1
      exact e2.2.1.symm
  rcases Nat.lt_or_ge m n with hlt | hge
  · obtain ⟨rfl, rfl⟩ := hp hlt
    rcases hown.2 with ⟨h1', _⟩ | ⟨g', cap', cur, e1, e2, e3, e4, e5, e6, e7⟩
    · cases h1'
    · obtain ⟨rfl, hLn, rfl⟩ : g = g' ∧ n + 1 = L.length ∧ cap = cap' := by simpa using e1
      rw [← hLn] at e4 e7
      have hfl : (((L.drop m).take (n - m)).flatMap enc).length = (n - m) * sz := by rw [flatN_len hsz, List.length_take, List.length_drop]; congr 1; omega
      have hmul : (m + 1) * sz + (n - m) * sz = (n + 1) * sz := by rw [← Nat.add_mul]; congr 1; omega
      have hle : (n + 1) * sz ≤ cap * sz := Nat.mul_le_mul_right _ (by omega)
      have hrun := run_copy_rowN (P := P) w t t o.type e sz g ((m + 1) * sz) (n - m) cd (n - m) ⟨g, m * sz, none⟩ (n + 1 - m) cs cur e (((L.drop m).take (n - m)).flatMap enc) hu hi e3
        (by show n - m = min _ _; omega) hfl
        (fun j v hj => by
          rw [Addr.add_lit, World.cell?, e3]
          show cur[m * sz + j]? = some v
          have hjl := (List.getElem?_eq_some_iff.1 hj).1
          rw [hfl] at hjl
          rw [flatN_take hsz, flatN_drop hsz, List.getElem?_take, if_pos hjl, List.getElem?_drop, ← e7, List.getElem?_take] at hj
          split at hj
          · simpa using hj
          · cases hj)
        (by rw [hfl, hmul, e6]; exact hle) (fun v hv => by obtain ⟨y, _, hy⟩ := List.mem_flatMap.1 hv; exact h1 y v hy)
      unfold Oper.wp execOp
      simp only [ho, resolve, invoke, builtin, Sem.run_bind, Sem.run_pure, Result.andThen_ok, List.map_toArray, List.map_cons, List.map_nil, hd, hs, hrun]
      refine h _ ⟨?_, .inr ⟨g, cap, _, ?_, e2, setRow_heap w g cur _ e _ e3, ?_, e5, ?_, ?_⟩⟩ ⟨rfl, rfl, rfl, by simp [World.setRow], fun k hk => setRow_other w g k _ hk⟩ (by simp [World.setRow])
      · rw [flatN_len hsz]
      · congr 1
        rw [List.length_append, List.length_take, List.length_take, List.length_drop]; omega
      · rw [List.length_append, List.length_take, List.length_take, List.length_drop]; omega
      · simp only [List.size_toArray, List.length_append, List.length_take, List.length_drop, Array.length_toList, hfl]; omega
      · rw [List.length_append, List.length_take, List.length_take, List.length_drop, List.flatMap_append, flatN_take hsz L, ← e7]
        rw [List.take_take, show (min (m + 1) L.length + min (n - m) (L.length - m)) = n + 1 by omega, show min ((m + 1) * sz) ((n + 1) * sz) = (m + 1) * sz from Nat.min_eq_left (Nat.mul_le_mul_right _ (by omega))]
        show (_ ++ _ ++ _ : List Value).take _ = _
        rw [List.append_assoc]
        have hA : (cur.toList.take ((m + 1) * sz)).length = (m + 1) * sz := by rw [List.length_take, Array.length_toList, e6]; exact Nat.min_eq_left (by omega)
        rw [List.take_append, hA, List.take_of_length_le (by omega), ← hmul, Nat.add_sub_cancel_left, List.take_append, hfl, Nat.sub_self, List.take_of_length_le (l := List.flatMap enc _) (by rw [hfl]; exact Nat.le_refl _), List.take_zero, List.append_nil]
  · obtain rfl : m = n := by omega
    have hrun := run_copy_none0 (P := P) w t t o.type e sz dp sp (m - m) cd (m + 1 - m) cs hu hi (by show min _ _ = 0; omega)
    unfold Oper.wp execOp
    simp only [ho, resolve, invoke, builtin, Sem.run_bind, Sem.run_pure, Result.andThen_ok, List.map_toArray, List.map_cons, List.map_nil, hd, hs, hrun]
    have := h w (by rw [Nat.sub_self, List.take_zero, List.append_nil, List.take_of_length_le (by omega)]; exact hown) (Chg.refl _ _) rfl
    rw [Nat.sub_self] at this
    exact this
end
end Go.Proofs.YtkjlhcfocefhpaaDoor
