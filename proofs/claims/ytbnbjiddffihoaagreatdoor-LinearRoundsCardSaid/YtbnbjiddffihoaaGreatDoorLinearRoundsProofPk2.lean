/- Texts for the statement LinearRoundsProof, part 2 of 9: PrM, SymP, SrtA, SrtB, SrtC, SrtD, SrtE, SrtF, IdxR, OwnC, ClsB, ClsR, Nb, Ord, SrtG, SrtH. -/
import Derived.Sort.LotA
import Derived.Test.YtbnbjiddffihoaaGreatDoorRows
import Derived.Shelf.SlSortFuncK.ComposeK
import Derived.Deep.DeepCutAuto
import Derived.Sort.Walk0
import Derived.Deep.RegionHeld3
import Derived.Test.YtbnbjiddffihoaaGreatDoorLinearRoundsProofPk1

/- Peers in memory: lists whose elements hold two lists each. -/
namespace Go.Proofs.YtbnbjiddffihoaaGreatDoor
open Go.RowKit

abbrev Nr := Int × Int × Int × Int
structure Pr where
  id : Int
  left : Int
  right : Int
  known : List Int
  near : List Nr
def encNr (x : Nr) : List Value := [.int .i64 x.1, .int .i64 x.2.1, .int .i64 x.2.2.1, .int .i64 x.2.2.2]
abbrev PQ := (Int × Int × Int) × Hdr × Hdr
def encQ (q : PQ) : List Value := [.int .i64 q.1.1, q.2.1.val, .int .i64 q.1.2.1, .int .i64 q.1.2.2, q.2.2.val]
def Pr.nums (p : Pr) : Int × Int × Int := (p.id, p.left, p.right)
def PrV (w : World) (q : PQ) (p : Pr) : Prop := q.1 = p.nums ∧ Sl 1 encI w q.2.1.1 q.2.1.2.1 p.known ∧ Sl 4 encNr w q.2.2.1 q.2.2.2.1 p.near
def PL (w : World) (a : Option Addr) (n : Nat) (P : List Pr) : Prop := ∃ qs : List PQ, Sl 5 encQ w a n qs ∧ P.length = n ∧ ∀ (j : Nat) (q : PQ) (p : Pr), qs[j]? = some q → P[j]? = some p → PrV w q p
def PrVb (b : Nat) (w : World) (q : PQ) (p : Pr) : Prop := q.1 = p.nums ∧ Slb 1 encI b w q.2.1.1 q.2.1.2.1 p.known ∧ Slb 4 encNr b w q.2.2.1 q.2.2.2.1 p.near
def PLb (b : Nat) (w : World) (a : Option Addr) (n : Nat) (P : List Pr) : Prop := ∃ qs : List PQ, Slb 5 encQ b w a n qs ∧ P.length = n ∧ ∀ (j : Nat) (q : PQ) (p : Pr), qs[j]? = some q → P[j]? = some p → PrVb b w q p
section
variable {w w' : World} {a : Option Addr} {n b : Nat} {P : List Pr} {q : PQ} {p : Pr}
theorem PrV.nx (h : PrV w q p) (k : Ex w w') : PrV w' q p := ⟨h.1, h.2.1.nx k, h.2.2.nx k⟩
theorem PrVb.nxb (h : PrVb b w q p) (k : Exb b w w') : PrVb b w' q p := ⟨h.1, h.2.1.nxb k, h.2.2.nxb k⟩
theorem PrVb.v (h : PrVb b w q p) : PrV w q p := ⟨h.1, h.2.1.sl, h.2.2.sl⟩
theorem PrV.vb (h : PrV w q p) (hb : w.heap.size ≤ b) : PrVb b w q p := ⟨h.1, h.2.1.slb hb, h.2.2.slb hb⟩
theorem PL.nx (h : PL w a n P) (k : Ex w w') : PL w' a n P := by
  obtain ⟨qs, h1, h2, h3⟩ := h
  exact ⟨qs, h1.nx k, h2, fun j q p hq hp => (h3 j q p hq hp).nx k⟩
theorem PLb.nxb (h : PLb b w a n P) (k : Exb b w w') : PLb b w' a n P := by
  obtain ⟨qs, h1, h2, h3⟩ := h
  exact ⟨qs, h1.nxb k, h2, fun j q p hq hp => (h3 j q p hq hp).nxb k⟩
theorem PLb.pl (h : PLb b w a n P) : PL w a n P := by
  obtain ⟨qs, h1, h2, h3⟩ := h
  exact ⟨qs, h1.sl, h2, fun j q p hq hp => (h3 j q p hq hp).v⟩
theorem PL.plb (h : PL w a n P) (hb : w.heap.size ≤ b) : PLb b w a n P := by
  obtain ⟨qs, h1, h2, h3⟩ := h
  exact ⟨qs, h1.slb hb, h2, fun j q p hq hp => (h3 j q p hq hp).vb hb⟩
theorem PL.len (h : PL w a n P) : P.length = n := by obtain ⟨_, _, h2, _⟩ := h; exact h2
theorem PLb.len (h : PLb b w a n P) : P.length = n := by obtain ⟨_, _, h2, _⟩ := h; exact h2
theorem PL.nil (w : World) (a : Option Addr) : PL w a 0 [] := ⟨[], Sl.nil _ _ _ _, rfl, by intro j q p h; simp at h⟩
theorem PL.at (h : PL w a n P) {j : Nat} (hj : j < n) :
    ∃ (x o : Nat) (a1 : Option Addr) (n1 c1 : Nat) (a2 : Option Addr) (n2 c2 : Nat) (p : Pr), a = some ⟨x, o, none⟩ ∧ x < w.heap.size ∧ P[j]? = some p ∧
      (∀ i u, (encQ (p.nums, (a1, n1, c1), (a2, n2, c2)))[i]? = some u → w.cell? ⟨x, o + j * 5 + i, none⟩ = some u) ∧ Sl 1 encI w a1 n1 p.known ∧ Sl 4 encNr w a2 n2 p.near := by
  obtain ⟨qs, h1, h2, h3⟩ := h
  obtain ⟨x, o, q, e, hx, hq, hc⟩ := h1.at hj
  obtain ⟨p, hp⟩ : ∃ p, P[j]? = some p := ⟨P[j]'(by omega), by simp⟩
  obtain ⟨r1, r2, r3⟩ := h3 j q p hq hp
  obtain ⟨q0, ⟨a1, n1, c1⟩, a2, n2, c2⟩ := q
  simp only at r1 r2 r3
  subst r1
  exact ⟨x, o, a1, n1, c1, a2, n2, c2, p, e, hx, hp, hc, r2, r3⟩
end

def OwnP (eP eI eN : TypeId) (base : Nat) (w : World) (v : Value) (qs : List PQ) (P : List Pr) : Prop :=
  OwnW 5 encQ eP base w v qs ∧ qs.length = P.length ∧
  (∀ (j : Nat) (q : PQ) (p : Pr), qs[j]? = some q → P[j]? = some p → q.1 = p.nums ∧ OwnL 1 encI eI base w q.2.1.val p.known ∧ OwnL 4 encNr eN base w q.2.2.val p.near) ∧
  (∀ (i j : Nat) (qi qj : PQ) (g : Nat), qs[i]? = some qi → qs[j]? = some qj → qi.2.1.val.ownBlock = some g → qj.2.1.val.ownBlock = some g → i = j) ∧
  (∀ (i j : Nat) (qi qj : PQ) (g : Nat), qs[i]? = some qi → qs[j]? = some qj → qi.2.2.val.ownBlock = some g → qj.2.2.val.ownBlock = some g → i = j)
section
variable {eP eI eN : TypeId} {base : Nat} {w w' : World} {v v' : Value} {qs : List PQ} {P : List Pr}
theorem OwnP.nil (eP eI eN : TypeId) (base : Nat) (w : World) : OwnP eP eI eN base w (.slice none 0 0) [] [] :=
  ⟨OwnW.nil _ _ _ _ _, rfl, by intro j q p h; simp at h, by intro i j qi qj g h; simp at h, by intro i j qi qj g h; simp at h⟩
theorem OwnP.nx (h : OwnP eP eI eN base w v qs P) (k : Ex w w') : OwnP eP eI eN base w' v qs P :=
  ⟨h.1.nx k, h.2.1, fun j q p hq hp => ⟨(h.2.2.1 j q p hq hp).1, (h.2.2.1 j q p hq hp).2.1.nx k, (h.2.2.1 j q p hq hp).2.2.nx k⟩, h.2.2.2⟩
theorem OwnP.nxb {b : Nat} (h : OwnP eP eI eN base w v qs P) (hb : b < base) (k : Exb b w w') : OwnP eP eI eN base w' v qs P :=
  ⟨h.1.nxb hb k, h.2.1, fun j q p hq hp => ⟨(h.2.2.1 j q p hq hp).1, (h.2.2.1 j q p hq hp).2.1.nxb hb k, (h.2.2.1 j q p hq hp).2.2.nxb hb k⟩, h.2.2.2⟩
theorem OwnP.lower {base' : Nat} (h : OwnP eP eI eN base w v qs P) (hb : base' ≤ base) : OwnP eP eI eN base' w v qs P :=
  ⟨h.1.lower hb, h.2.1, fun j q p hq hp => ⟨(h.2.2.1 j q p hq hp).1, (h.2.2.1 j q p hq hp).2.1.base hb, (h.2.2.1 j q p hq hp).2.2.base hb⟩, h.2.2.2⟩
theorem blk_kind {g : Nat} {c1 c2 : Array Value} {e1 e2 : TypeId} (hne : e1 ≠ e2) (h1 : w.heap[g]? = some (.cells c1 e1 (0, 0))) (h2 : w.heap[g]? = some (.cells c2 e2 (0, 0))) : False := by
  rw [h1] at h2
  simp at h2
  exact hne h2.2
theorem OwnP.getp (h : OwnP eP eI eN base w v qs P) {j : Nat} {q : PQ} (hq : qs[j]? = some q) : ∃ p, P[j]? = some p ∧ q.1 = p.nums ∧ OwnL 1 encI eI base w q.2.1.val p.known ∧ OwnL 4 encNr eN base w q.2.2.val p.near := by
  obtain ⟨p, hp⟩ : ∃ p, P[j]? = some p := ⟨P[j]'(by have := (List.getElem?_eq_some_iff.1 hq).1; have := h.2.1; omega), by simp⟩
  exact ⟨p, hp, h.2.2.1 j q p hq hp⟩
theorem OwnP.get (h : OwnP eP eI eN base w v qs P) {j : Nat} {p : Pr} (hp : P[j]? = some p) : ∃ hk hn : Hdr, qs[j]? = some (p.nums, hk, hn) ∧ OwnL 1 encI eI base w hk.val p.known ∧ OwnL 4 encNr eN base w hn.val p.near := by
  obtain ⟨q, hq⟩ : ∃ q, qs[j]? = some q := ⟨qs[j]'(by have := (List.getElem?_eq_some_iff.1 hp).1; have := h.2.1; omega), by simp⟩
  obtain ⟨r1, r2, r3⟩ := h.2.2.1 j q p hq hp
  obtain ⟨q0, hk, hn⟩ := q
  simp only at r1 r2 r3
  subst r1
  exact ⟨hk, hn, hq, r2, r3⟩
theorem OwnP.neI (hI : eP ≠ eI) (h : OwnP eP eI eN base w v qs P) {j g : Nat} {q : PQ} (hq : qs[j]? = some q) (hg : q.2.1.val.ownBlock = some g) : ¬ v.ownBlock = some g := fun hv => by
  obtain ⟨p, _, _, r2, _⟩ := h.getp hq
  obtain ⟨_, c1, h1⟩ := r2.blk hg
  obtain ⟨_, c2, h2⟩ := h.1.blk hv
  exact blk_kind hI h2 h1
theorem OwnP.neN (hN : eP ≠ eN) (h : OwnP eP eI eN base w v qs P) {j g : Nat} {q : PQ} (hq : qs[j]? = some q) (hg : q.2.2.val.ownBlock = some g) : ¬ v.ownBlock = some g := fun hv => by
  obtain ⟨p, _, _, _, r3⟩ := h.getp hq
  obtain ⟨_, c1, h1⟩ := r3.blk hg
  obtain ⟨_, c2, h2⟩ := h.1.blk hv
  exact blk_kind hN h2 h1
theorem OwnP.push (hI : eP ≠ eI) (hN : eP ≠ eN) (h : OwnP eP eI eN base w v qs P) {p : Pr} {hk hn : Hdr} (ho : OwnW 5 encQ eP base w' v' (qs ++ [(p.nums, hk, hn)]))
    (k : Chg (fun k => k < w.heap.size ∧ ¬ v.ownBlock = some k) w w') (ik : OwnL 1 encI eI base w hk.val p.known) (inr : OwnL 4 encNr eN base w hn.val p.near)
    (fk : ∀ (j : Nat) (r : PQ) (g : Nat), qs[j]? = some r → r.2.1.val.ownBlock = some g → ¬ hk.val.ownBlock = some g) (fn : ∀ (j : Nat) (r : PQ) (g : Nat), qs[j]? = some r → r.2.2.val.ownBlock = some g → ¬ hn.val.ownBlock = some g) :
    OwnP eP eI eN base w' v' (qs ++ [(p.nums, hk, hn)]) (P ++ [p]) := by
  have nk : ∀ g, hk.val.ownBlock = some g → ¬ v.ownBlock = some g := fun g hg hv => by
    obtain ⟨_, c1, h1⟩ := ik.blk hg
    obtain ⟨_, c2, h2⟩ := h.1.blk hv
    exact blk_kind hI h2 h1
  have nn : ∀ g, hn.val.ownBlock = some g → ¬ v.ownBlock = some g := fun g hg hv => by
    obtain ⟨_, c1, h1⟩ := inr.blk hg
    obtain ⟨_, c2, h2⟩ := h.1.blk hv
    exact blk_kind hN h2 h1
  have last : ∀ (i : Nat) (r : PQ), (qs ++ [(p.nums, hk, hn)])[i]? = some r → (i < qs.length ∧ qs[i]? = some r) ∨ (i = qs.length ∧ r = (p.nums, hk, hn)) := by
    intro i r hr
    rcases Nat.lt_or_ge i qs.length with hl | hl
    · rw [List.getElem?_append_left hl] at hr; exact .inl ⟨hl, hr⟩
    · obtain rfl : i = qs.length := by have := (List.getElem?_eq_some_iff.1 hr).1; simp at this; omega
      simp at hr
      exact .inr ⟨rfl, hr.symm⟩
  refine ⟨ho, by simp [h.2.1], fun j r d hr hd => ?_, fun i j qi qj g hi hj gi gj => ?_, fun i j qi qj g hi hj gi gj => ?_⟩
  · rcases last j r hr with ⟨h1, h2⟩ | ⟨h1, h2⟩
    · rw [List.getElem?_append_left (by rw [← h.2.1]; exact h1)] at hd
      obtain ⟨r1, r2, r3⟩ := h.2.2.1 j r d h2 hd
      exact ⟨r1, r2.chg k (fun x hx hv => ⟨hx, h.neI hI h2 hv⟩), r3.chg k (fun x hx hv => ⟨hx, h.neN hN h2 hv⟩)⟩
    · subst h1 h2
      rw [h.2.1] at hd
      simp at hd
      subst hd
      exact ⟨rfl, ik.chg k (fun x hx hv => ⟨hx, nk x hv⟩), inr.chg k (fun x hx hv => ⟨hx, nn x hv⟩)⟩
  · rcases last i qi hi with ⟨h1, h2⟩ | ⟨h1, h2⟩ <;> rcases last j qj hj with ⟨h3, h4⟩ | ⟨h3, h4⟩
    · exact h.2.2.2.1 i j qi qj g h2 h4 gi gj
    · subst h4; exact absurd gj (fk i qi g h2 gi)
    · subst h2; exact absurd gi (fk j qj g h4 gj)
    · omega
  · rcases last i qi hi with ⟨h1, h2⟩ | ⟨h1, h2⟩ <;> rcases last j qj hj with ⟨h3, h4⟩ | ⟨h3, h4⟩
    · exact h.2.2.2.2 i j qi qj g h2 h4 gi gj
    · subst h4; exact absurd gj (fn i qi g h2 gi)
    · subst h2; exact absurd gi (fn j qj g h4 gj)
    · omega
theorem encQ_len (q : PQ) : (encQ q).length = 5 := rfl
theorem OwnP.pl (h : OwnP eP eI eN base w v qs P) :
    ∃ a cap, v = .slice a P.length cap ∧ PL w a P.length P ∧ P.length ≤ cap ∧ cap ≤ maxLen ∧ (P ≠ [] → ∃ g, a = some ⟨g, 0, none⟩ ∧ base ≤ g) ∧ (a = none → cap = 0) := by
  obtain ⟨a, cap, e, r, c1, c2, c3, c4⟩ := h.1.rd encQ_len
  rw [h.2.1] at e r c1
  refine ⟨a, cap, e, ⟨qs, Rd.mono r (fun _ hk => hk.2), rfl, fun j q p hq hp => ?_⟩, c1, c2, fun hL => c3 (fun h0 => hL ?_), c4⟩
  · obtain ⟨r1, r2, r3⟩ := h.2.2.1 j q p hq hp
    refine ⟨r1, ?_, ?_⟩
    · obtain ⟨a', cap', e', r', _⟩ := r2.rd (fun _ => rfl)
      obtain ⟨q0, ⟨x1, x2, x3⟩, hn⟩ := q
      simp only [Hdr.val, Value.slice.injEq] at e'
      obtain ⟨rfl, rfl, rfl⟩ := e'
      exact Rd.mono r' (fun _ hk => hk.2)
    · obtain ⟨a', cap', e', r', _⟩ := r3.rd (fun _ => rfl)
      obtain ⟨q0, hk, ⟨x1, x2, x3⟩⟩ := q
      simp only [Hdr.val, Value.slice.injEq] at e'
      obtain ⟨rfl, rfl, rfl⟩ := e'
      exact Rd.mono r' (fun _ hk => hk.2)
  · have := h.2.1
    rw [h0] at this
    exact List.eq_nil_of_length_eq_zero this.symm
end
end Go.Proofs.YtbnbjiddffihoaaGreatDoor

/- The merge of Go's stable sort, in plain Lean. -/
namespace Go.Proofs.YtbnbjiddffihoaaGreatDoor
open Go.Sort

section
variable {α : Type} [Inhabited α] {lt : α → α → Bool}
theorem getE {x : Array α} {a b : Nat} (h : a = b) : x[a]! = x[b]! := by rw [h]
def Rot (x : Array α) (s m e : Nat) (r : Array α) : Prop :=
  ∀ k : Nat, r[k]! = if s ≤ k ∧ k < s + (e - m) then x[k + (m - s)]! else if s + (e - m) ≤ k ∧ k < e then x[k - (e - m)]! else x[k]!
def SwR (x : Array α) (p q n : Nat) (y : Array α) : Prop :=
  ∀ k : Nat, y[k]! = if p ≤ k ∧ k < p + n then x[k + (q - p)]! else if q ≤ k ∧ k < q + n then x[k - (q - p)]! else x[k]!
theorem swR_zero (x : Array α) (p q : Nat) : SwR x p q 0 x := by
  intro k
  rw [if_neg (by omega), if_neg (by omega)]
theorem swR_step {x y : Array α} {p q n : Nat} (h : SwR x p q n y) (hpq : p + n < q) (hq : q + n < y.size) : SwR x p q (n + 1) (swp y (p + n) (q + n)) := by
  intro k
  rw [swp_get y (show p + n < y.size by omega) hq, h (p + n), h (q + n), h k]
  repeat' split
  all_goals first | (exfalso; omega) | exact getE (by omega)
theorem rot_big {x y r : Array α} {m i j : Nat} (hij : j < i) (him : i ≤ m) (h1 : SwR x (m - i) m j y) (h2 : Rot y (m - (i - j)) m (m + j) r) : Rot x (m - i) m (m + j) r := by
  intro k
  rw [h2 k, h1 k, h1 (k + (m - (m - (i - j)))), h1 (k - (m + j - m))]
  repeat' split
  all_goals first | (exfalso; omega) | exact getE (by omega)
theorem rot_small {x y r : Array α} {m i j : Nat} (hij : i < j) (him : i ≤ m) (h1 : SwR x (m - i) (m + j - i) i y) (h2 : Rot y (m - i) m (m + (j - i)) r) : Rot x (m - i) m (m + j) r := by
  intro k
  rw [h2 k, h1 k, h1 (k + (m - (m - i))), h1 (k - (m + (j - i) - m))]
  repeat' split
  all_goals first | (exfalso; omega) | exact getE (by omega)
theorem rot_eq {x r : Array α} {m i : Nat} (him : i ≤ m) (h1 : SwR x (m - i) m i r) : Rot x (m - i) m (m + i) r := by
  intro k
  rw [h1 k]
  repeat' split
  all_goals first | (exfalso; omega) | exact getE (by omega)
theorem rot_refl_r (x : Array α) (s m : Nat) (h : s ≤ m) : Rot x s m m x := by
  intro k
  repeat' split
  all_goals first | (exfalso; omega) | exact getE (by omega)
theorem rot_refl_l (x : Array α) (m e : Nat) (h : m ≤ e) : Rot x m m e x := by
  intro k
  repeat' split
  all_goals first | (exfalso; omega) | exact getE (by omega)
theorem rot_up {x y : Array α} {a k : Nat} (h : Rot x a (a + 1) (k + 1) y) (hak : a ≤ k) (hk : k + 1 < y.size) : Rot x a (a + 1) (k + 2) (swp y k (k + 1)) := by
  intro i
  rw [swp_get y (show k < y.size by omega) hk, h k, h (k + 1), h i]
  repeat' split
  all_goals first | (exfalso; omega) | exact getE (by omega)
theorem rot_down {x y : Array α} {m k : Nat} (h : Rot x (k + 1) m (m + 1) y) (hk : k + 1 ≤ m) (hm : m < y.size) : Rot x k m (m + 1) (swp y (k + 1) k) := by
  intro i
  rw [swp_get y (show k + 1 < y.size by omega) (show k < y.size by omega), h k, h (k + 1), h i]
  repeat' split
  all_goals first | (exfalso; omega) | exact getE (by omega)

def Cross (lt : α → α → Bool) (a M b : Nat) (x : Array α) : Prop := ∀ i j, a ≤ i → i < M → M ≤ j → j < b → lt x[j]! x[i]! = false
theorem sorted_join {a M b : Nat} {x : Array α} (h1 : SortedIn lt a M x) (h2 : SortedIn lt M b x) (h : Cross lt a M b x) : SortedIn lt a b x := by
  intro i j hi hij hj
  by_cases h3 : j < M
  · exact h1 i j hi hij h3
  · by_cases h4 : i < M
    · exact h i j hi h4 (by omega) hj
    · exact h2 i j (by omega) hij hj
theorem sorted_one {a b : Nat} (x : Array α) (h : b ≤ a + 1) : SortedIn lt a b x := fun i j hi hij hj => by omega
theorem cross_left {a M b : Nat} {x y : Array α} (h : Cross lt a M b x) (hp : PermIn a M x y) (hb : M ≤ x.size) : Cross lt a M b y := by
  intro i j hi hiM hM hj
  rw [hp.2.1 j (Or.inr hM)]
  exact permIn_all x y a M (fun v => lt x[j]! v = false) hb hp (fun i hi hiM => h i j hi hiM hM hj) i hi hiM
theorem cross_right {a M b : Nat} {x y : Array α} (h : Cross lt a M b x) (hp : PermIn M b x y) (hb : b ≤ x.size) : Cross lt a M b y := by
  intro i j hi hiM hM hj
  rw [hp.2.1 i (Or.inl hiM)]
  exact permIn_all x y M b (fun v => lt v x[i]! = false) hb hp (fun j hM hj => h i j hi hiM hM hj) j hM hj
theorem sorted_other {a b p q : Nat} {x y : Array α} (h : SortedIn lt a b x) (hp : PermIn p q x y) (hd : b ≤ p ∨ q ≤ a) : SortedIn lt a b y := by
  intro i j hi hij hj
  rw [hp.2.1 i (by omega), hp.2.1 j (by omega)]
  exact h i j hi hij hj
theorem rot_parts {x r : Array α} {a s m e b : Nat} (h1 : a ≤ s) (h2 : s ≤ m) (h3 : m ≤ e) (h4 : e ≤ b) (hl : SortedIn lt a m x) (hr : SortedIn lt m b x) (h : Rot x s m e r) :
    SortedIn lt a s r ∧ SortedIn lt s (s + (e - m)) r ∧ SortedIn lt (s + (e - m)) e r ∧ SortedIn lt e b r := by
  refine ⟨fun i j hi hij hj => ?_, fun i j hi hij hj => ?_, fun i j hi hij hj => ?_, fun i j hi hij hj => ?_⟩
  · rw [h i, h j, if_neg (by omega), if_neg (by omega), if_neg (by omega), if_neg (by omega)]
    exact hl i j hi hij (by omega)
  · rw [h i, h j, if_pos (by omega), if_pos (by omega)]
    exact hr _ _ (by omega) (by omega) (by omega)
  · rw [h i, h j, if_neg (by omega), if_pos (by omega), if_neg (by omega), if_pos (by omega)]
    exact hl _ _ (by omega) (by omega) (by omega)
  · rw [h i, h j, if_neg (by omega), if_neg (by omega), if_neg (by omega), if_neg (by omega)]
    exact hr i j (by omega) hij (by omega)
theorem rot_cross {x r : Array α} {a s m e b : Nat} (h1 : a ≤ s) (h2 : s ≤ m) (h3 : m ≤ e) (h4 : e ≤ b) (hl : SortedIn lt a m x) (hr : SortedIn lt m b x)
    (c1 : ∀ p q, a ≤ p → p < s → e ≤ q → q < b → lt x[q]! x[p]! = false) (c2 : ∀ p q, s ≤ p → p < m → m ≤ q → q < e → lt x[p]! x[q]! = false) (h : Rot x s m e r) : Cross lt a (s + (e - m)) b r := by
  intro i j hi hiM hM hj
  rw [h i, h j]
  rw [if_neg (show ¬ (s ≤ j ∧ j < s + (e - m)) by omega)]
  by_cases his : s ≤ i
  · rw [if_pos (show s ≤ i ∧ i < s + (e - m) by omega)]
    by_cases hje : j < e
    · rw [if_pos (by omega)]
      exact c2 _ _ (by omega) (by omega) (by omega) (by omega)
    · rw [if_neg (by omega)]
      exact hr _ _ (by omega) (by omega) (by omega)
  · rw [if_neg (show ¬ (s ≤ i ∧ i < s + (e - m)) by omega), if_neg (show ¬ (s + (e - m) ≤ i ∧ i < e) by omega)]
    by_cases hje : j < e
    · rw [if_pos (by omega)]
      exact hl _ _ (by omega) (by omega) (by omega)
    · rw [if_neg (by omega)]
      exact c1 _ _ (by omega) (by omega) (by omega) (by omega)
theorem le_of_sorted (hS : SWO lt) {a b : Nat} {x : Array α} (h : SortedIn lt a b x) {i j : Nat} (hi : a ≤ i) (hij : i ≤ j) (hj : j < b) : lt x[j]! x[i]! = false := by
  rcases Nat.lt_or_ge i j with h1 | h1
  · exact h i j hi h1 hj
  · obtain rfl : i = j := by omega
    exact hS.irrefl _
theorem one_left (hS : SWO lt) {x r : Array α} {a i b : Nat} (hai : a + 1 ≤ i) (hib : i ≤ b) (hr : SortedIn lt (a + 1) b x) (hi : i = a + 1 ∨ lt x[i - 1]! x[a]! = true) (hj : i = b ∨ lt x[i]! x[a]! = false) (h : Rot x a (a + 1) i r) : SortedIn lt a b r := by
  obtain ⟨_, p2, _, p4⟩ := rot_parts (a := a) (Nat.le_refl _) (by omega) hai hib (sorted_one x (Nat.le_refl _)) hr h
  have hc : Cross lt a (a + (i - (a + 1))) b r := rot_cross (Nat.le_refl _) (by omega) hai hib (sorted_one x (Nat.le_refl _)) hr (by intro p q h1 h2; omega) (fun p q h1 h2 h3 h4 => by
    obtain rfl : p = a := by omega
    rcases hi with hi | hi
    · omega
    · exact hS.ntrans _ _ _ (hS.asymmA hi) (le_of_sorted hS hr h3 (by omega) (by omega))) h
  refine sorted_join p2 (sorted_join (M := i) (sorted_one r (by omega)) p4 ?_) hc
  intro p q h1 h2 h3 h4
  rw [h p, h q, if_neg (by omega), if_neg (by omega), if_neg (by omega), if_pos (by omega), show p - (i - (a + 1)) = a by omega]
  rcases hj with hj | hj
  · omega
  · exact hS.ntrans _ _ _ (le_of_sorted hS hr (by omega) h3 h4) hj
theorem one_right (hS : SWO lt) {x r : Array α} {a i m : Nat} (hai : a ≤ i) (him : i ≤ m) (hl : SortedIn lt a m x) (hi : i = a ∨ lt x[m]! x[i - 1]! = false) (hj : i = m ∨ lt x[m]! x[i]! = true) (h : Rot x i m (m + 1) r) : SortedIn lt a (m + 1) r := by
  obtain ⟨p1, p2, p3, _⟩ := rot_parts (b := m + 1) hai him (by omega) (Nat.le_refl _) hl (sorted_one x (by omega)) h
  have hc : Cross lt a (i + (m + 1 - m)) (m + 1) r := rot_cross hai him (by omega) (Nat.le_refl _) hl (sorted_one x (by omega)) (by intro p q h1 h2; omega) (fun p q h1 h2 h3 h4 => by
    obtain rfl : q = m := by omega
    rcases hj with hj | hj
    · omega
    · exact hS.ntrans _ _ _ (le_of_sorted hS hl hai h1 h2) (hS.asymmA hj)) h
  refine sorted_join (sorted_join p1 p2 ?_) p3 hc
  intro p q h1 h2 h3 h4
  rw [h p, h q, if_pos (by omega), if_neg (by omega), if_neg (by omega), show q + (m - i) = m by omega]
  rcases hi with hi | hi
  · omega
  · exact hS.ntrans _ _ _ hi (le_of_sorted hS hl h1 (by omega) (by omega))
theorem sym_cross (hS : SWO lt) {x r : Array α} {a m b s s0 r0 : Nat} (ham : a < m) (hmb : m < b) (hl : SortedIn lt a m x) (hr : SortedIn lt m b x)
    (h0 : (m > (a + b) / 2 ∧ s0 = (a + b) / 2 + m - b ∧ r0 = (a + b) / 2) ∨ (m ≤ (a + b) / 2 ∧ s0 = a ∧ r0 = m)) (hs0 : s0 ≤ s) (hsr : s ≤ r0)
    (hP : s = s0 ∨ lt x[(a + b) / 2 + m - 1 - (s - 1)]! x[s - 1]! = false) (hQ : s = r0 ∨ lt x[(a + b) / 2 + m - 1 - s]! x[s]! = true) (h : Rot x s m ((a + b) / 2 + m - s) r) :
    Cross lt a ((a + b) / 2) b r ∧ SortedIn lt a s r ∧ SortedIn lt s ((a + b) / 2) r ∧ SortedIn lt ((a + b) / 2) ((a + b) / 2 + m - s) r ∧ SortedIn lt ((a + b) / 2 + m - s) b r := by
  have e1 : s + ((a + b) / 2 + m - s - m) = (a + b) / 2 := by omega
  have h1 : a ≤ s := by omega
  have h2 : s ≤ m := by omega
  have h3 : m ≤ (a + b) / 2 + m - s := by omega
  have h4 : (a + b) / 2 + m - s ≤ b := by omega
  have hp := rot_parts h1 h2 h3 h4 hl hr h
  have hc := rot_cross h1 h2 h3 h4 hl hr (fun p q k1 k2 k3 k4 => by
    rcases hP with hP | hP
    · omega
    · rw [show (a + b) / 2 + m - 1 - (s - 1) = (a + b) / 2 + m - s by omega] at hP
      exact hS.ntrans _ _ _ (hS.ntrans _ _ _ (le_of_sorted hS hr h3 k3 k4) hP) (le_of_sorted hS hl k1 (by omega) (by omega)))
    (fun p q k1 k2 k3 k4 => by
    rcases hQ with hQ | hQ
    · omega
    · rw [show (a + b) / 2 + m - 1 - s = (a + b) / 2 + m - s - 1 by omega] at hQ
      exact hS.ntrans _ _ _ (hS.ntrans _ _ _ (le_of_sorted hS hl h1 k1 k2) (hS.asymmA hQ)) (le_of_sorted hS hr k3 (by omega) (by omega))) h
  rw [e1] at hp hc
  exact ⟨hc, hp⟩
theorem halves_done {r y z : Array α} {a M b : Nat} (hM : a ≤ M) (hMb : M ≤ b) (hb : b ≤ r.size) (hc : Cross lt a M b r) (p1 : PermIn a M r y) (s1 : SortedIn lt a M y) (p2 : PermIn M b y z) (s2 : SortedIn lt M b z) : SortedIn lt a b z ∧ PermIn a b r z := by
  have hy : y.size = r.size := p1.1
  refine ⟨sorted_join (sorted_other s1 p2 (Or.inl (Nat.le_refl _))) s2 (cross_right (cross_left hc p1 (by omega)) p2 (by omega)), ?_⟩
  exact permIn_trans _ _ _ _ _ (permIn_mono _ _ _ _ _ _ (Nat.le_refl _) hMb hb p1) (permIn_mono _ _ _ _ _ _ hM (Nat.le_refl _) (by omega) p2)
end
end Go.Proofs.YtbnbjiddffihoaaGreatDoor

/- Walks over the library's stable sort: swapRange, rotate, insertionSort. -/
namespace Go.Proofs.YtbnbjiddffihoaaGreatDoor
open Go.RowKit Go.Sort Go.Lib

abbrev dta (g : Nat) (lb : Array Value) (sf : Nat) (sb : Array Value) : Value := .agg #[.func (.func g) #[] lb, .func (.func sf) #[] sb]
abbrev dbx (g : Nat) (lb : Array Value) (sf : Nat) (sb : Array Value) : Obj := .cells #[.func (.func g) #[] lb, .func (.func sf) #[] sb] 158

section
variable {α : Type} [Inhabited α] {enc : α → List Value} {kk : Nat} {lt : α → α → Bool}
def SrtPost (enc : α → List Value) (kk : Nat) (w : World) (blk off : Nat) (P : Array α → Prop) (e : Ending) (w' : World) : Prop :=
  e = .returned (.tuple #[]) ∧ ∃ (m : Nat) (os : Array Obj) (d' : Array α), P d' ∧ w' = sortWorldK enc kk w blk off m d' os

set_option maxHeartbeats 2000000 in
set_option maxRecDepth 100000 in
theorem swaprange_s (hk : ∀ x, (enc x).length = kk) (g : Nat) (lb : Array Value) (sf : Nat) (sb : Array Value) (blk off a b n : Nat) (d : Array α) (w : World)
    (hswap : SwapSwapsK Tryz.prog sf sb enc kk blk off d.size) (hH : HoldsK enc kk w blk off d) (hblk : blk < w.heap.size) (hab : a + n ≤ b) (hb : b + n ≤ d.size) (hsz : d.size < 4611686018427387904) :
    Calls Tryz.prog 162 #[dta g lb sf sb, .int .i64 a, .int .i64 b, .int .i64 n] w (SrtPost enc kk w blk off fun d' => SwR d a b n d' ∧ PermIn a (b + n) d d') := by
  have hH1 : HoldsK enc kk (w.alloc (dbx g lb sf sb)) blk off d := by rw [alloc_eq_grow]; exact holdsK_grow enc kk w _ blk off d hblk hH
  go_enter Tryz.func162, Tryz.ntmps162
  go_wp2
  go_loopw [8] (fun vi wr => ∃ (i m : Nat) (dk : Array α), vi = .int .i64 i ∧ i ≤ n ∧ dk.size = d.size ∧ SwR d a b i dk ∧ PermIn a (b + n) d dk ∧ wr = putRowK enc kk (Sort.ahead (w.alloc (dbx g lb sf sb)) m) blk off dk) (fun vi _ => n - (intOf vi).toNat)
  case atStart => exact ⟨0, 0, d, rfl, by omega, rfl, swR_zero _ _ _, permIn_refl _ _ _, (putRowK_self _ _ _ _ _ _ hH1).symm⟩
  case round =>
    obtain ⟨i, m, dk, rfl, hin, hds, hsw, hpm, hwr⟩ := hrel
    have HSW := Lib.hid hsw
    have HPM := Lib.hid hpm
    by_cases hlt : i < n
    · have hHk : HoldsK enc kk wr blk off dk := by rw [hwr]; exact holdsK_putRowK enc kk _ blk off d dk (holdsK_ahead enc kk _ m blk off d hH1) hds
      have c1 : wr.cell? ⟨w.heap.size, 1, none⟩ = some (.func (.func sf) #[] sb) := by
        rw [hwr, cell?_putRowK_other enc kk _ blk off dk _ (by show w.heap.size ≠ blk; omega)]; show (w.alloc (dbx g lb sf sb)).cell? _ = _; simp
      have hs := hswap wr dk hHk hds (a + i) (b + i) (by omega) (by omega)
      rw [show (((a + i : Nat) : Int)) = (a : Int) + i by omega, show (((b + i : Nat) : Int)) = (b : Int) + i by omega] at hs
      have A := Lib.hid hwr
      clear hwr hHk hH hH1 hswap hsw hpm
      go_wp2
      go_roundw
      case rel =>
        refine ⟨i + 1, m, swp dk (a + i) (b + i), by go_num, by omega, by rw [Sort.size_swp]; exact hds, swR_step HSW.out (by omega) (by omega), permIn_trans _ _ _ _ _ HPM.out (swp_permIn _ _ _ _ _ (by omega) (by omega) (by omega) (by omega) (by omega)), ?_⟩
        rw [A.out, ← putRowK_swp enc kk hk _ blk off dk (a + i) (b + i) (by omega) (by omega)]
      case measure => simp [intOf]; omega
    · obtain rfl : i = n := by omega
      clear hsw hpm hswap
      go_wp2
      go_end0
      exact ⟨rfl, m, #[dbx g lb sf sb], dk, ⟨HSW.out, HPM.out⟩, sortWorldK_of_alloc enc kk w _ blk off m dk hblk⟩

set_option maxHeartbeats 2000000 in
set_option maxRecDepth 100000 in
theorem rotate_s (hk : ∀ x, (enc x).length = kk) (g : Nat) (lb : Array Value) (sf : Nat) (sb : Array Value) (blk off a m b : Nat) (d : Array α) (w : World)
    (hswap : SwapSwapsK Tryz.prog sf sb enc kk blk off d.size) (hH : HoldsK enc kk w blk off d) (hblk : blk < w.heap.size) (ham : a < m) (hmb : m < b) (hb : b ≤ d.size) (hsz : d.size < 4611686018427387904) :
    Calls Tryz.prog 159 #[dta g lb sf sb, .int .i64 a, .int .i64 m, .int .i64 b] w (SrtPost enc kk w blk off fun d' => Rot d a m b d' ∧ PermIn a b d d') := by
  have hH1 : HoldsK enc kk (w.alloc (dbx g lb sf sb)) blk off d := by rw [alloc_eq_grow]; exact holdsK_grow enc kk w _ blk off d hblk hH
  have hb1 : blk < (w.alloc (dbx g lb sf sb)).heap.size := by rw [alloc_eq_grow, size_grow]; omega
  have hst : w.alloc (dbx g lb sf sb) = sortWorldK enc kk w blk off 0 d #[dbx g lb sf sb] := by
    rw [← sortWorldK_of_alloc enc kk w _ blk off 0 d hblk]; exact (putRowK_self enc kk _ blk off d hH1).symm
  have HST := Lib.hid hst
  have HSWP := Lib.hid hswap
  have HH := Lib.hid hH
  clear hst hswap hH hH1
  go_enter Tryz.func159, Tryz.ntmps159
  go_wp2
  go_loopw [8, 9] (fun vi vj wr => ∃ (i j n : Nat) (dk : Array α) (os : Array Obj), vi = .int .i64 i ∧ vj = .int .i64 j ∧ 0 < i ∧ 0 < j ∧ i ≤ m - a ∧ j ≤ b - m ∧ dk.size = d.size ∧ PermIn a b d dk ∧ (∀ r, Rot dk (m - i) m (m + j) r → Rot d a m b r) ∧
      wr = sortWorldK enc kk w blk off n dk os ∧ wr.cell? ⟨w.heap.size, 0, none⟩ = some (.func (.func g) #[] lb) ∧ wr.cell? ⟨w.heap.size, 1, none⟩ = some (.func (.func sf) #[] sb)) (fun vi vj _ => (intOf vi).toNat + (intOf vj).toNat)
  case atStart =>
    refine ⟨m - a, b - m, 0, d, #[dbx g lb sf sb], by rw [Int.natCast_sub (by omega)], by rw [Int.natCast_sub (by omega)], by omega, by omega, by omega, by omega, rfl, permIn_refl _ _ _, ?_, HST.out, by simp, by simp⟩
    intro r hr
    rwa [show m - (m - a) = a by omega, show m + (b - m) = b by omega] at hr
  case round =>
    obtain ⟨i, j, n, dk, os, rfl, rfl, hi0, hj0, him, hjb, hds, hpm, hrot, hwr, c0, c1⟩ := hrel
    have HROT := Lib.hid hrot
    have HPM := Lib.hid hpm
    have HWR := Lib.hid hwr
    have hHk : HoldsK enc kk wr blk off dk := by rw [hwr]; exact holdsK_sortWorldK enc kk w blk off n d dk os hblk HH.out hds
    have hlt : blk < wr.heap.size := by rw [hwr]; exact lt_sortWorldK enc kk w blk off n dk os hblk
    have hg : w.heap.size ≠ blk := by omega
    have hgw : w.heap.size < wr.heap.size := World.block_lt_of_cell? wr _ c0
    -- a cell of the pair of functions behind a further piece of the sort
    have CC : Hid (∀ kx v, wr.cell? ⟨w.heap.size, kx, none⟩ = some v → ∀ n' (X : Array α) os', (sortWorldK enc kk wr blk off n' X os').cell? ⟨w.heap.size, kx, none⟩ = some v) := Lib.hid (fun kx v hv n' X os' => by
      unfold sortWorldK
      rw [cell?_grow _ _ _ (by rw [size_putRowK]; exact hgw), cell?_putRowK_other enc kk _ blk off _ _ hg]
      exact hv)
    clear hrot hpm hwr hg hgw
    by_cases hij : i = j
    · subst hij
      have hc := swaprange_s hk g lb sf sb blk off (m - i) m i dk wr (by rw [hds]; exact HSWP.out) hHk hlt (by omega) (by omega) (by omega)
      rw [show (((m - i : Nat) : Int)) = (m : Int) - i by omega] at hc
      have hb0 : ((i : Int) != (i : Int)) = false := by simp
      clear hHk
      go_wp2_with (refine hc.mono ?_; rintro e w1 ⟨rfl, n1, os1, d1, ⟨s1, p1⟩, rfl⟩)
      go_end0
      refine ⟨rfl, n + n1, os ++ os1, d1, ⟨HROT.out d1 (rot_eq (by omega) s1), permIn_trans _ _ _ _ _ HPM.out (permIn_mono _ _ _ _ _ _ (by omega) (by omega) (by omega) p1)⟩, ?_⟩
      rw [HWR.out]
      exact sortWorldK_on enc kk w blk off n n1 dk d1 os os1 hblk p1.1
    · have hb0 : ((i : Int) != (j : Int)) = true := by rw [bne_iff_ne]; omega
      by_cases hgt : j < i
      · have hc := swaprange_s hk g lb sf sb blk off (m - i) m j dk wr (by rw [hds]; exact HSWP.out) hHk hlt (by omega) (by omega) (by omega)
        rw [show (((m - i : Nat) : Int)) = (m : Int) - i by omega] at hc
        clear hHk
        go_wp2_with (refine hc.mono ?_; rintro e w1 ⟨rfl, n1, os1, d1, ⟨s1, p1⟩, rfl⟩)
        go_roundw
        case rel =>
          refine ⟨i - j, j, n + n1, d1, os ++ os1, by rw [Int.natCast_sub (by omega)], rfl, by omega, by omega, by omega, by omega, by rw [p1.1]; exact hds, permIn_trans _ _ _ _ _ HPM.out (permIn_mono _ _ _ _ _ _ (by omega) (by omega) (by omega) p1), fun r hr => HROT.out r (rot_big hgt (by omega) s1 hr), ?_, CC.out _ _ c0 _ _ _, CC.out _ _ c1 _ _ _⟩
          rw [HWR.out]
          exact sortWorldK_on enc kk w blk off n n1 dk d1 os os1 hblk p1.1
        case measure => simp [intOf]; omega
      · have hlt2 : ¬ j < i := hgt
        have hc := swaprange_s hk g lb sf sb blk off (m - i) (m + j - i) i dk wr (by rw [hds]; exact HSWP.out) hHk hlt (by omega) (by omega) (by omega)
        rw [show (((m - i : Nat) : Int)) = (m : Int) - i by omega, show (((m + j - i : Nat) : Int)) = (m : Int) + j - i by omega] at hc
        clear hHk
        go_wp2_with (refine hc.mono ?_; rintro e w1 ⟨rfl, n1, os1, d1, ⟨s1, p1⟩, rfl⟩)
        go_roundw
        case rel =>
          refine ⟨i, j - i, n + n1, d1, os ++ os1, rfl, by rw [Int.natCast_sub (by omega)], by omega, by omega, by omega, by omega, by rw [p1.1]; exact hds, permIn_trans _ _ _ _ _ HPM.out (permIn_mono _ _ _ _ _ _ (by omega) (by omega) (by omega) p1), fun r hr => HROT.out r (rot_small (by omega) (by omega) s1 hr), ?_, CC.out _ _ c0 _ _ _, CC.out _ _ c1 _ _ _⟩
          rw [HWR.out]
          exact sortWorldK_on enc kk w blk off n n1 dk d1 os os1 hblk p1.1
        case measure => simp [intOf]; omega
end
end Go.Proofs.YtbnbjiddffihoaaGreatDoor

/- Walks over the library's stable sort: insertionSort, symMerge, stable. -/
namespace Go.Proofs.YtbnbjiddffihoaaGreatDoor
open Go.RowKit Go.Sort Go.Lib

section
variable {α : Type} [Inhabited α] {enc : α → List Value} {kk : Nat} {lt : α → α → Bool}

theorem drewN_grow (w : World) (os : Array Obj) (q : Nat) : (Sort.grow w os).drewN q = Sort.grow (w.drewN q) os := rfl
theorem sortWorldK_drewN (w : World) (blk off n q : Nat) (d : Array α) (os : Array Obj) : (sortWorldK enc kk w blk off n d os).drewN q = sortWorldK enc kk w blk off (n + q) d os := by
  unfold sortWorldK
  rw [drewN_grow, putRowK_drewN]
def LessG (P : Program) (g : Nat) (lb : Array Value) (enc : α → List Value) (k : Nat) (lt : α → α → Bool) (blk off size : Nat) (w : World) : Prop :=
  ∀ (m : Nat) (os : Array Obj) (dk : Array α), dk.size = size → ∀ i j : Nat, i < size → j < size →
    Calls P g (#[.int .i64 i, .int .i64 j] ++ lb) (sortWorldK enc k w blk off m dk os) fun e w' => e = .returned (.bool (lt dk[i]! dk[j]!)) ∧ ∃ (q : Nat) (os' : Array Obj), w' = sortWorldK enc k w blk off (m + q) dk (os ++ os')
theorem LessG.on {g : Nat} {lb : Array Value} {blk off size : Nat} {w : World} (h : LessG Tryz.prog g lb enc kk lt blk off size w) (hblk : blk < w.heap.size) (n : Nat) (dk : Array α) (os : Array Obj) (hs : dk.size = size) :
    LessG Tryz.prog g lb enc kk lt blk off size (sortWorldK enc kk w blk off n dk os) := fun m os' dk' hs' i j hi hj => by
  rw [sortWorldK_on enc kk w blk off n m dk dk' os os' hblk (hs'.trans hs.symm)]
  refine (h _ _ dk' hs' i j hi hj).mono ?_
  rintro e w' ⟨rfl, q, os2, rfl⟩
  refine ⟨rfl, q, os2, ?_⟩
  rw [sortWorldK_on enc kk w blk off n (m + q) dk dk' os (os' ++ os2) hblk (hs'.trans hs.symm), Array.append_assoc, Nat.add_assoc]
def InS (enc : α → List Value) (kk : Nat) (w : World) (blk off size B : Nat) (v0 v1 : Value) (dk : Array α) (wr : World) : Prop :=
  dk.size = size ∧ blk < w.heap.size ∧ B ≠ blk ∧ wr.cell? ⟨B, 0, none⟩ = some v0 ∧ wr.cell? ⟨B, 1, none⟩ = some v1 ∧ (∃ d0 : Array α, HoldsK enc kk w blk off d0 ∧ d0.size = size) ∧ ∃ n os, wr = sortWorldK enc kk w blk off n dk os
variable {w wr w' : World} {blk off size B : Nat} {v0 v1 : Value} {dk d : Array α}
theorem InS.start {g : Nat} {lb : Array Value} {sf : Nat} {sb : Array Value} (hH : HoldsK enc kk w blk off d) (hblk : blk < w.heap.size) : InS enc kk w blk off d.size w.heap.size (.func (.func g) #[] lb) (.func (.func sf) #[] sb) d (w.alloc (dbx g lb sf sb)) := by
  refine ⟨rfl, hblk, by omega, by simp, by simp, ⟨d, hH, rfl⟩, 0, #[dbx g lb sf sb], ?_⟩
  have hH1 : HoldsK enc kk (w.alloc (dbx g lb sf sb)) blk off d := by rw [alloc_eq_grow]; exact holdsK_grow enc kk w _ blk off d hblk hH
  rw [← sortWorldK_of_alloc enc kk w _ blk off 0 d hblk]
  exact (putRowK_self enc kk _ blk off d hH1).symm
theorem InS.sz (h : InS enc kk w blk off size B v0 v1 dk wr) : dk.size = size := h.1
theorem InS.c0 (h : InS enc kk w blk off size B v0 v1 dk wr) : wr.cell? ⟨B, 0, none⟩ = some v0 := h.2.2.2.1
theorem InS.c1 (h : InS enc kk w blk off size B v0 v1 dk wr) : wr.cell? ⟨B, 1, none⟩ = some v1 := h.2.2.2.2.1
theorem InS.holds (h : InS enc kk w blk off size B v0 v1 dk wr) : HoldsK enc kk wr blk off dk := by
  obtain ⟨h1, h2, h3, h4, h5, ⟨d0, hd, hs⟩, n, os, rfl⟩ := h
  exact holdsK_sortWorldK enc kk w blk off n d0 dk os h2 hd (by omega)
theorem InS.hlt (h : InS enc kk w blk off size B v0 v1 dk wr) : blk < wr.heap.size := by
  obtain ⟨h1, h2, h3, h4, h5, ⟨d0, hd, hs⟩, n, os, rfl⟩ := h
  exact lt_sortWorldK enc kk w blk off n dk os h2
theorem InS.drewN (h : InS enc kk w blk off size B v0 v1 dk wr) (q : Nat) : InS enc kk w blk off size B v0 v1 dk (wr.drewN q) := by
  obtain ⟨h1, h2, h3, h4, h5, h6, n, os, rfl⟩ := h
  exact ⟨h1, h2, h3, h4, h5, h6, n + q, os, sortWorldK_drewN _ _ _ _ _ _ _⟩
theorem InS.on (h : InS enc kk w blk off size B v0 v1 dk wr) {n' : Nat} {d' : Array α} {os' : Array Obj} (hs : d'.size = dk.size) : InS enc kk w blk off size B v0 v1 d' (sortWorldK enc kk wr blk off n' d' os') := by
  have hB := World.block_lt_of_cell? wr _ h.c0
  have hB : B < wr.heap.size := hB
  have hc : ∀ kx v, wr.cell? ⟨B, kx, none⟩ = some v → (sortWorldK enc kk wr blk off n' d' os').cell? ⟨B, kx, none⟩ = some v := fun kx v hv => by
    unfold sortWorldK
    rw [cell?_grow _ _ _ (by rw [size_putRowK]; exact hB), cell?_putRowK_other enc kk _ blk off _ _ h.2.2.1]
    exact hv
  refine ⟨hs.trans h.sz, h.2.1, h.2.2.1, hc _ _ h.c0, hc _ _ h.c1, h.2.2.2.2.2.1, ?_⟩
  obtain ⟨h1, h2, h3, h4, h5, h6, n, os, rfl⟩ := h
  exact ⟨n + n', os ++ os', sortWorldK_on enc kk w blk off n n' dk d' os os' h2 hs⟩
theorem InS.post (h : InS enc kk w blk off size B v0 v1 dk wr) {P : Array α → Prop} (hp : P dk) : SrtPost enc kk w blk off P (.returned (.tuple #[])) wr := by
  obtain ⟨h1, h2, h3, h4, h5, h6, n, os, rfl⟩ := h
  exact ⟨rfl, n, os, dk, hp, rfl⟩
theorem InS.lessReads {g : Nat} {lb : Array Value} (h : InS enc kk w blk off size B v0 v1 dk wr) (hl : LessG Tryz.prog g lb enc kk lt blk off size w) : LessG Tryz.prog g lb enc kk lt blk off dk.size wr := by
  obtain ⟨h1, h2, h3, h4, h5, h6, n, os, rfl⟩ := h
  rw [h1]
  exact hl.on h2 n dk os h1
theorem InS.less {g : Nat} {lb : Array Value} (h : InS enc kk w blk off size B v0 v1 dk wr) (hl : LessG Tryz.prog g lb enc kk lt blk off size w) {i j : Nat} (hi : i < size) (hj : j < size) (b : Bool) (hb : lt dk[i]! dk[j]! = b) :
    Calls Tryz.prog g (#[.int .i64 i, .int .i64 j] ++ lb) wr fun e w' => e = .returned (.bool b) ∧ InS enc kk w blk off size B v0 v1 dk w' := by
  have h0 := h
  obtain ⟨h1, h2, h3, h4, h5, h6, n, os, rfl⟩ := h
  refine (hl n os dk h1 i j hi hj).mono ?_
  rintro e w' ⟨rfl, q, os', rfl⟩
  have e1 : sortWorldK enc kk w blk off (n + q) dk (os ++ os') = sortWorldK enc kk (sortWorldK enc kk w blk off n dk os) blk off q dk os' := (sortWorldK_on enc kk w blk off n q dk dk os os' h2 rfl).symm
  refine ⟨by rw [hb], ?_⟩
  rw [e1]
  exact h0.on rfl
theorem InS.swap (hk : ∀ x, (enc x).length = kk) {sf : Nat} {sb : Array Value} (h : InS enc kk w blk off size B v0 v1 dk wr) (hswap : SwapSwapsK Tryz.prog sf sb enc kk blk off size) {i j : Nat} (hi : i < size) (hj : j < size) :
    ∃ w', (callFunc sf (#[.int .i64 i, .int .i64 j] ++ sb)).run Tryz.prog wr = .ok (.value (.tuple #[])) w' ∧ InS enc kk w blk off size B v0 v1 (swp dk i j) w' := by
  refine ⟨_, hswap wr dk h.holds h.sz i j hi hj, ?_⟩
  have hsz := h.sz
  have e : ((wr.setCells blk (off + i * kk) (enc dk[j]!)).setCells blk (off + j * kk) (enc dk[i]!)) = sortWorldK enc kk wr blk off 0 (swp dk i j) #[] := by
    unfold sortWorldK
    rw [grow_empty]
    have := putRowK_swp enc kk hk wr blk off dk i j (by omega) (by omega)
    rw [putRowK_self enc kk wr blk off dk h.holds] at this
    exact this
  rw [e]
  exact h.on (Sort.size_swp _ _ _)

variable (hk : ∀ x, (enc x).length = kk) (hS : SWO lt) (g : Nat) (lb : Array Value) (sf : Nat) (sb : Array Value)
set_option maxHeartbeats 2000000 in
set_option maxRecDepth 100000 in
include hk hS in
theorem insertion_s (eg : ∀ args w, (callFunc g args).run Tryz.prog w = .ok (.enter g args) w) (blk off a b : Nat) (d : Array α) (w : World)
    (hless : LessG Tryz.prog g lb enc kk lt blk off d.size w) (hswap : SwapSwapsK Tryz.prog sf sb enc kk blk off d.size) (hH : HoldsK enc kk w blk off d) (hblk : blk < w.heap.size) (hab : a ≤ b) (hb : b ≤ d.size) (hsz : d.size < 4611686018427387904) :
    Calls Tryz.prog 153 #[dta g lb sf sb, .int .i64 a, .int .i64 b] w (SrtPost enc kk w blk off fun d' => PermIn a b d d' ∧ SortedIn lt a b d') := by
  have H0 := Lib.hid (InS.start (g := g) (lb := lb) (sf := sf) (sb := sb) hH hblk)
  have HLESS := Lib.hid hless
  have HSWP := Lib.hid hswap
  have HEND := Lib.hid (insertionSort_holds hS d a b hab hb)
  clear hless hswap hH
  go_enter Tryz.func153, Tryz.ntmps153
  go_wp2
  go_loopw [6] (fun vi wr => ∃ (i : Nat) (dk : Array α), vi = .int .i64 i ∧ a < i ∧ i ≤ b + 1 ∧ InS enc kk w blk off d.size w.heap.size (.func (.func g) #[] lb) (.func (.func sf) #[] sb) dk wr ∧ insOuter lt a b i dk = insOuter lt a b (a + 1) d) (fun vi _ => b + 1 - (intOf vi).toNat)
  case atStart => exact ⟨a + 1, d, by go_num, by omega, by omega, H0.out, rfl⟩
  case round =>
    obtain ⟨i, dk, rfl, hai, hib, hI, hO⟩ := hrel
    have HO := Lib.hid hO
    clear hO
    by_cases hlt : i < b
    · have hlti : (i : Int) < (b : Int) := by omega
      go_wp2
      go_loopw [7] (fun vj wr2 => ∃ (j : Nat) (dj : Array α), vj = .int .i64 j ∧ a ≤ j ∧ j ≤ i ∧ InS enc kk w blk off d.size w.heap.size (.func (.func g) #[] lb) (.func (.func sf) #[] sb) dj wr2 ∧ insInner lt a j dj = insInner lt a i dk) (fun vj _ => (intOf vj).toNat)
      case atStart => exact ⟨i, dk, rfl, by omega, Nat.le_refl _, hI, rfl⟩
      case round =>
        clear hI
        obtain ⟨j, dj, rfl, haj, hji, hI, hIn⟩ := hrel
        have HI := Lib.hid hIn
        have HIS := Lib.hid hI
        have c0 := hI.c0
        have hsj := hI.sz
        clear hIn
        have OUT : Hid ((j ≤ a ∨ lt dj[j]! dj[j - 1]! = false) → insOuter lt a b (i + 1) dj = insOuter lt a b (a + 1) d) := Lib.hid (fun hs => by
          rw [← HO.out, insOuter_go _ _ _ _ _ hlt, ← HI.out, insInner_stop _ _ _ _ hs])
        by_cases hja : a < j
        · cases hlv : lt dj[j]! dj[j - 1]! with
          | true =>
            have HLV := Lib.hid hlv
            have hl := hI.less HLESS.out (i := j) (j := j - 1) (by omega) (by omega) true hlv
            rw [show (((j - 1 : Nat) : Int)) = (j : Int) - 1 by omega] at hl
            clear hI hlv
            go_wp2_with fail
            refine hl.mono ?_
            rintro e w1 ⟨rfl, hI1⟩
            have c1 := hI1.c1
            obtain ⟨w2, hs, hI2⟩ := hI1.swap hk HSWP.out (i := j) (j := j - 1) (by omega) (by omega)
            rw [show (((j - 1 : Nat) : Int)) = (j : Int) - 1 by omega] at hs
            clear hl c0
            go_wp2
            go_roundw
            case rel =>
              refine ⟨j - 1, swp dj j (j - 1), by rw [show ((j - 1 : Nat) : Int) = (j : Int) - 1 by omega], by omega, by omega, hI2, ?_⟩
              rw [← HI.out, insInner_go lt a j dj hja HLV.out]
            case measure => simp [intOf]; omega
          | false =>
            have HLV := Lib.hid hlv
            have hl := hI.less HLESS.out (i := j) (j := j - 1) (by omega) (by omega) false hlv
            rw [show (((j - 1 : Nat) : Int)) = (j : Int) - 1 by omega] at hl
            clear hI hlv
            go_wp2_with (go_at_fn g; refine hl.mono ?_; rintro e w1 ⟨rfl, hI1⟩)
            go_roundw
            case rel => exact ⟨i + 1, dj, by go_num, by omega, by omega, hI1, OUT.out (Or.inr HLV.out)⟩
            case measure => simp [intOf]; omega
        · clear hI
          go_wp2
          go_roundw
          case rel => exact ⟨i + 1, dj, by go_num, by omega, by omega, HIS.out, OUT.out (Or.inl (by omega))⟩
          case measure => simp [intOf]; omega
    · have hge : ¬ (i : Int) < (b : Int) := by omega
      have HIS := Lib.hid hI
      clear hI
      go_wp2
      go_end0
      refine HIS.out.post ?_
      have := HEND.out
      unfold Sort.insertionSort at this
      rw [← HO.out, insOuter_stop _ _ _ _ _ hlt] at this
      exact this
end
end Go.Proofs.YtbnbjiddffihoaaGreatDoor

/- Walks over the library's stable sort: symMerge. -/
namespace Go.Proofs.YtbnbjiddffihoaaGreatDoor
open Go.RowKit Go.Sort Go.Lib

section
variable {α : Type} [Inhabited α] {enc : α → List Value} {kk : Nat} {lt : α → α → Bool}
variable (hk : ∀ x, (enc x).length = kk) (hS : SWO lt) (g : Nat) (lb : Array Value) (sf : Nat) (sb : Array Value)

set_option maxHeartbeats 2000000 in
set_option maxRecDepth 100000 in
include hk hS in
theorem sym_left (eg : ∀ args w, (callFunc g args).run Tryz.prog w = .ok (.enter g args) w) (blk off a m b : Nat) (d : Array α) (w : World)
    (hless : LessG Tryz.prog g lb enc kk lt blk off d.size w) (hswap : SwapSwapsK Tryz.prog sf sb enc kk blk off d.size) (hH : HoldsK enc kk w blk off d) (hblk : blk < w.heap.size) (ham : m = a + 1) (hmb : m < b) (hb : b ≤ d.size) (hsz : d.size < 4611686018427387904)
    (hr : SortedIn lt m b d) :
    Calls Tryz.prog 154 #[dta g lb sf sb, .int .i64 a, .int .i64 m, .int .i64 b] w (SrtPost enc kk w blk off fun d' => PermIn a b d d' ∧ SortedIn lt a b d') := by
  have H0 := Lib.hid (InS.start (g := g) (lb := lb) (sf := sf) (sb := sb) hH hblk)
  have HLESS := Lib.hid hless
  have HSWP := Lib.hid hswap
  have HR := Lib.hid hr
  have HAM := Lib.hid ham
  have t1 : ((m : Int) - (a : Int) == 1) = true := by rw [beq_iff_eq]; omega
  have hma : a < m := by omega
  have hma2 : m ≤ a + 1 := by omega
  clear hless hswap hH hr ham
  go_enter Tryz.func154, Tryz.ntmps154
  go_wp2
  go_loopw [8, 9] (fun vi vj wr => ∃ (i j : Nat), vi = .int .i64 i ∧ vj = .int .i64 j ∧ m ≤ i ∧ i ≤ j ∧ j ≤ b ∧ (i = m ∨ lt d[i - 1]! d[a]! = true) ∧ (j = b ∨ lt d[j]! d[a]! = false) ∧ InS enc kk w blk off d.size w.heap.size (.func (.func g) #[] lb) (.func (.func sf) #[] sb) d wr) (fun vi vj _ => (intOf vj).toNat - (intOf vi).toNat)
  case atStart => exact ⟨m, b, rfl, rfl, Nat.le_refl _, by omega, Nat.le_refl _, .inl rfl, .inl rfl, H0.out⟩
  case round =>
    obtain ⟨i, j, rfl, rfl, hi, hij, hj, hI1, hJ1, hI⟩ := hrel
    have HI1 := Lib.hid hI1
    have HJ1 := Lib.hid hJ1
    have HIS := Lib.hid hI
    have c0 := hI.c0
    clear hI1 hJ1
    by_cases hlt : i < j
    · have hlti : (i : Int) < (j : Int) := by omega
      cases hlv : lt d[(i + j) / 2]! d[a]! with
      | true =>
        have HLV := Lib.hid hlv
        have hl := hI.less HLESS.out (i := (i + j) / 2) (j := a) (by omega) (by omega) true hlv
        rw [show ((((i + j) / 2 : Nat) : Int)) = ((i : Int) + (j : Int)) / 2 by omega] at hl
        clear hI hlv
        go_wp2_with (go_at_fn g; refine hl.mono ?_; rintro e w1 ⟨rfl, hI1⟩)
        go_roundw
        case rel => exact ⟨(i + j) / 2 + 1, j, by rw [show ((i : Int) + (j : Int)) / 2 + 1 = (((i + j) / 2 + 1 : Nat) : Int) by omega], rfl, by omega, by omega, hj, .inr (by rw [Nat.add_sub_cancel]; exact HLV.out), HJ1.out, hI1⟩
        case measure => simp [intOf]; omega
      | false =>
        have HLV := Lib.hid hlv
        have hl := hI.less HLESS.out (i := (i + j) / 2) (j := a) (by omega) (by omega) false hlv
        rw [show ((((i + j) / 2 : Nat) : Int)) = ((i : Int) + (j : Int)) / 2 by omega] at hl
        clear hI hlv
        go_wp2_with (go_at_fn g; refine hl.mono ?_; rintro e w1 ⟨rfl, hI1⟩)
        go_roundw
        case rel => exact ⟨i, (i + j) / 2, rfl, by rw [show ((i : Int) + (j : Int)) / 2 = (((i + j) / 2 : Nat) : Int) by omega], hi, by omega, by omega, HI1.out, .inr HLV.out, hI1⟩
        case measure => simp [intOf]; omega
    · have hge : ¬ (i : Int) < (j : Int) := by omega
      have hij2 : j ≤ i := by omega
      clear hI c0 hlt
      go_wp2
      go_loopw [11] (fun vk wr2 => ∃ (k : Nat) (dk : Array α), vk = .int .i64 k ∧ a ≤ k ∧ k + 1 ≤ i ∧ Rot d a (a + 1) (k + 1) dk ∧ PermIn a b d dk ∧ InS enc kk w blk off d.size w.heap.size (.func (.func g) #[] lb) (.func (.func sf) #[] sb) dk wr2) (fun vk _ => i - (intOf vk).toNat)
      case atStart => exact ⟨a, d, rfl, Nat.le_refl _, by omega, rot_refl_r d a (a + 1) (by omega), permIn_refl _ _ _, HIS.out⟩
      case round =>
        obtain ⟨k, dk, rfl, hak, hki, hrot, hpm, hI⟩ := hrel
        have HROT := Lib.hid hrot
        have HPM := Lib.hid hpm
        have c1 := hI.c1
        have hsk := hI.sz
        clear hrot hpm
        by_cases hlt : k + 1 < i
        · have hlti : (k : Int) < (i : Int) - 1 := by omega
          obtain ⟨w2, hs, hI2⟩ := hI.swap hk HSWP.out (i := k) (j := k + 1) (by omega) (by omega)
          rw [show (((k + 1 : Nat) : Int)) = (k : Int) + 1 by omega] at hs
          clear hI
          go_wp2
          go_roundw
          case rel => exact ⟨k + 1, swp dk k (k + 1), by go_num, by omega, by omega, rot_up HROT.out hak (by omega), permIn_trans _ _ _ _ _ HPM.out (swp_permIn _ _ _ _ _ (by omega) (by omega) (by omega) (by omega) (by omega)), hI2⟩
          case measure => simp [intOf]; omega
        · have hge2 : ¬ (k : Int) < (i : Int) - 1 := by omega
          have HI := Lib.hid hI
          clear hI c1
          go_wp2
          go_end0
          refine HI.out.post ⟨HPM.out, ?_⟩
          have hm := HAM.out
          subst hm
          have e1 : k + 1 = i := by omega
          have e2 : j = i := by omega
          have h3 := HROT.out
          rw [e1] at h3
          have h4 := HJ1.out
          rw [e2] at h4
          exact one_left hS (by omega) (by omega) HR.out HI1.out h4 h3

set_option maxHeartbeats 2000000 in
set_option maxRecDepth 100000 in
include hk hS in
theorem sym_right (eg : ∀ args w, (callFunc g args).run Tryz.prog w = .ok (.enter g args) w) (blk off a m b : Nat) (d : Array α) (w : World)
    (hless : LessG Tryz.prog g lb enc kk lt blk off d.size w) (hswap : SwapSwapsK Tryz.prog sf sb enc kk blk off d.size) (hH : HoldsK enc kk w blk off d) (hblk : blk < w.heap.size) (ham : a + 1 < m) (hmb : b = m + 1) (hb : b ≤ d.size) (hsz : d.size < 4611686018427387904)
    (hl : SortedIn lt a m d) :
    Calls Tryz.prog 154 #[dta g lb sf sb, .int .i64 a, .int .i64 m, .int .i64 b] w (SrtPost enc kk w blk off fun d' => PermIn a b d d' ∧ SortedIn lt a b d') := by
  have H0 := Lib.hid (InS.start (g := g) (lb := lb) (sf := sf) (sb := sb) hH hblk)
  have HLESS := Lib.hid hless
  have HSWP := Lib.hid hswap
  have HL := Lib.hid hl
  have HMB := Lib.hid hmb
  have t1 : ((m : Int) - (a : Int) == 1) = false := by rw [beq_eq_false_iff_ne]; omega
  have t2 : ((b : Int) - (m : Int) == 1) = true := by rw [beq_iff_eq]; omega
  have hmb2 : m < b := by omega
  have hmb3 : b ≤ m + 1 := by omega
  clear hless hswap hH hl hmb
  go_enter Tryz.func154, Tryz.ntmps154
  go_wp2
  go_loopw [12, 13] (fun vi vj wr => ∃ (i j : Nat), vi = .int .i64 i ∧ vj = .int .i64 j ∧ a ≤ i ∧ i ≤ j ∧ j ≤ m ∧ (i = a ∨ lt d[m]! d[i - 1]! = false) ∧ (j = m ∨ lt d[m]! d[j]! = true) ∧ InS enc kk w blk off d.size w.heap.size (.func (.func g) #[] lb) (.func (.func sf) #[] sb) d wr) (fun vi vj _ => (intOf vj).toNat - (intOf vi).toNat)
  case atStart => exact ⟨a, m, rfl, rfl, Nat.le_refl _, by omega, Nat.le_refl _, .inl rfl, .inl rfl, H0.out⟩
  case round =>
    obtain ⟨i, j, rfl, rfl, hi, hij, hj, hI1, hJ1, hI⟩ := hrel
    have HI1 := Lib.hid hI1
    have HJ1 := Lib.hid hJ1
    have HIS := Lib.hid hI
    have c0 := hI.c0
    clear hI1 hJ1
    by_cases hlt : i < j
    · have hlti : (i : Int) < (j : Int) := by omega
      cases hlv : lt d[m]! d[(i + j) / 2]! with
      | false =>
        have HLV := Lib.hid hlv
        have hl := hI.less HLESS.out (i := m) (j := (i + j) / 2) (by omega) (by omega) false hlv
        rw [show ((((i + j) / 2 : Nat) : Int)) = ((i : Int) + (j : Int)) / 2 by omega] at hl
        clear hI hlv
        go_wp2_with (go_at_fn g; refine hl.mono ?_; rintro e w1 ⟨rfl, hI1⟩)
        go_roundw
        case rel => exact ⟨(i + j) / 2 + 1, j, by rw [show ((i : Int) + (j : Int)) / 2 + 1 = (((i + j) / 2 + 1 : Nat) : Int) by omega], rfl, by omega, by omega, hj, .inr (by rw [Nat.add_sub_cancel]; exact HLV.out), HJ1.out, hI1⟩
        case measure => simp [intOf]; omega
      | true =>
        have HLV := Lib.hid hlv
        have hl := hI.less HLESS.out (i := m) (j := (i + j) / 2) (by omega) (by omega) true hlv
        rw [show ((((i + j) / 2 : Nat) : Int)) = ((i : Int) + (j : Int)) / 2 by omega] at hl
        clear hI hlv
        go_wp2_with (go_at_fn g; refine hl.mono ?_; rintro e w1 ⟨rfl, hI1⟩)
        go_roundw
        case rel => exact ⟨i, (i + j) / 2, rfl, by rw [show ((i : Int) + (j : Int)) / 2 = (((i + j) / 2 : Nat) : Int) by omega], hi, by omega, by omega, HI1.out, .inr HLV.out, hI1⟩
        case measure => simp [intOf]; omega
    · have hge : ¬ (i : Int) < (j : Int) := by omega
      have hij2 : j ≤ i := by omega
      clear hI c0 hlt
      go_wp2
      go_loopw [15] (fun vk wr2 => ∃ (k : Nat) (dk : Array α), vk = .int .i64 k ∧ i ≤ k ∧ k ≤ m ∧ Rot d k m (m + 1) dk ∧ PermIn a b d dk ∧ InS enc kk w blk off d.size w.heap.size (.func (.func g) #[] lb) (.func (.func sf) #[] sb) dk wr2) (fun vk _ => (intOf vk).toNat)
      case atStart => exact ⟨m, d, rfl, by omega, Nat.le_refl _, rot_refl_l d m (m + 1) (by omega), permIn_refl _ _ _, HIS.out⟩
      case round =>
        obtain ⟨k, dk, rfl, hik, hkm, hrot, hpm, hI⟩ := hrel
        have HROT := Lib.hid hrot
        have HPM := Lib.hid hpm
        have c1 := hI.c1
        have hsk := hI.sz
        clear hrot hpm
        by_cases hlt : i < k
        · have hlti : (i : Int) < (k : Int) := by omega
          obtain ⟨w2, hs, hI2⟩ := hI.swap hk HSWP.out (i := k) (j := k - 1) (by omega) (by omega)
          rw [show (((k - 1 : Nat) : Int)) = (k : Int) - 1 by omega] at hs
          clear hI
          go_wp2
          go_roundw
          case rel =>
            have hr := HROT.out
            rw [show k = k - 1 + 1 by omega] at hr
            have h5 := rot_down hr (by omega) (by omega)
            rw [show k - 1 + 1 = k by omega] at h5
            exact ⟨k - 1, swp dk k (k - 1), by rw [show ((k - 1 : Nat) : Int) = (k : Int) - 1 by omega], by omega, by omega, h5, permIn_trans _ _ _ _ _ HPM.out (swp_permIn _ _ _ _ _ (by omega) (by omega) (by omega) (by omega) (by omega)), hI2⟩
          case measure => simp [intOf]; omega
        · have hge2 : ¬ (i : Int) < (k : Int) := by omega
          have HI := Lib.hid hI
          clear hI c1
          go_wp2
          go_end0
          refine HI.out.post ⟨HPM.out, ?_⟩
          have hm := HMB.out
          subst hm
          have e1 : k = i := by omega
          have e2 : j = i := by omega
          have h3 := HROT.out
          rw [e1] at h3
          have h4 := HJ1.out
          rw [e2] at h4
          exact one_right hS (by omega) (by omega) HL.out HI1.out h4 h3

end
end Go.Proofs.YtbnbjiddffihoaaGreatDoor

/- Walks over the library's stable sort: symMerge, its general case where the middle of the row lies before the second part. -/
namespace Go.Proofs.YtbnbjiddffihoaaGreatDoor
open Go.RowKit Go.Sort Go.Lib

section
variable {α : Type} [Inhabited α] {enc : α → List Value} {kk : Nat} {lt : α → α → Bool}
variable (hk : ∀ x, (enc x).length = kk) (hS : SWO lt) (g : Nat) (lb : Array Value) (sf : Nat) (sb : Array Value)
set_option maxHeartbeats 8000000 in
set_option maxRecDepth 100000 in
include hk hS in
theorem sym_gt (eg : ∀ args w, (callFunc g args).run Tryz.prog w = .ok (.enter g args) w) (blk off N a m b : Nat) (d : Array α) (w : World) (hN : b - a ≤ N + 1) (hih : ∀ (a m b : Nat) (d : Array α) (w : World), b - a ≤ N →
    LessG Tryz.prog g lb enc kk lt blk off d.size w → SwapSwapsK Tryz.prog sf sb enc kk blk off d.size → HoldsK enc kk w blk off d → blk < w.heap.size → a < m → m < b → b ≤ d.size → d.size < 4611686018427387904 →
    SortedIn lt a m d → SortedIn lt m b d →
    Calls Tryz.prog 154 #[dta g lb sf sb, .int .i64 a, .int .i64 m, .int .i64 b] w (SrtPost enc kk w blk off fun d' => PermIn a b d d' ∧ SortedIn lt a b d'))
    (hless : LessG Tryz.prog g lb enc kk lt blk off d.size w) (hswap : SwapSwapsK Tryz.prog sf sb enc kk blk off d.size) (hH : HoldsK enc kk w blk off d) (hblk : blk < w.heap.size) (ham : a + 1 < m) (hmb : m + 1 < b) (hb : b ≤ d.size) (hsz : d.size < 4611686018427387904)
    (hl : SortedIn lt a m d) (hr : SortedIn lt m b d) (hgt : m > (a + b) / 2) :
    Calls Tryz.prog 154 #[dta g lb sf sb, .int .i64 a, .int .i64 m, .int .i64 b] w (SrtPost enc kk w blk off fun d' => PermIn a b d d' ∧ SortedIn lt a b d') := by
  have IH := Lib.hid hih
  have H0 := Lib.hid (InS.start (g := g) (lb := lb) (sf := sf) (sb := sb) hH hblk)
  have HLESS := Lib.hid hless
  have HSWP := Lib.hid hswap
  have HL := Lib.hid hl
  have HR := Lib.hid hr
  have t1 : ((m : Int) - (a : Int) == 1) = false := by rw [beq_eq_false_iff_ne]; omega
  have t2 : ((b : Int) - (m : Int) == 1) = false := by rw [beq_eq_false_iff_ne]; omega
  obtain ⟨M, hM⟩ : ∃ M : Nat, M = (a + b) / 2 := ⟨_, rfl⟩
  have HM := Lib.hid hM
  have hME : ((a : Int) + (b : Int)) / 2 = (M : Int) := by omega
  have hM1 : 2 * M ≤ a + b := by omega
  have hM2 : a + b ≤ 2 * M + 1 := by omega
  have hbs : b < 4611686018427387904 := by omega
  have hgt2 : M < m := by omega
  have hgtI : (M : Int) < (m : Int) := by omega
  clear hless hswap hH hl hr hM hih hgt
  have FIN : Hid (∀ s s0 r0, ((m > M ∧ s0 = M + m - b ∧ r0 = M) ∨ (m ≤ M ∧ s0 = a ∧ r0 = m)) → s0 ≤ s → s ≤ r0 → (s = s0 ∨ lt d[M + m - 1 - (s - 1)]! d[s - 1]! = false) → (s = r0 ∨ lt d[M + m - 1 - s]! d[s]! = true) → ∀ r, Rot d s m (M + m - s) r →
    Cross lt a M b r ∧ SortedIn lt a s r ∧ SortedIn lt s M r ∧ SortedIn lt M (M + m - s) r ∧ SortedIn lt (M + m - s) b r) := Lib.hid (fun s s0 r0 h0 h1 h2 h3 h4 r h => by
    have hM := HM.out
    subst hM
    exact sym_cross hS (by omega) (by omega) HL.out HR.out h0 h1 h2 h3 h4 h)
  obtain ⟨s0, hs0⟩ : ∃ s0 : Nat, s0 = M + m - b := ⟨_, rfl⟩
  obtain ⟨r0, hr0⟩ : ∃ r0 : Nat, r0 = M := ⟨_, rfl⟩
  have h00 : (m > M ∧ s0 = M + m - b ∧ r0 = M) ∨ (m ≤ M ∧ s0 = a ∧ r0 = m) := by omega
  have hsr : s0 ≤ r0 ∧ r0 ≤ M ∧ r0 ≤ m ∧ a ≤ s0 ∧ M + m ≤ s0 + b ∧ a < s0 + 1 := by omega
  obtain ⟨q1, q2, q3, q4, q5, _⟩ := hsr
  have HFIN := Lib.hid (fun s => FIN.out s s0 r0 h00)
  have E1 : Hid (Value.int .i64 ((M : Int) + (m : Int) - (b : Int)) = .int .i64 (s0 : Int)) := Lib.hid (by rw [hs0, Int.natCast_sub (by omega), Int.natCast_add])
  have E2 : Hid (Value.int .i64 (M : Int) = .int .i64 (r0 : Int)) := Lib.hid (by rw [hr0])
  clear FIN h00 hs0 hr0
  go_enter Tryz.func154, Tryz.ntmps154
  go_wp2
  go_loopw [18, 19] (fun vs vr wr => ∃ (s r : Nat), vs = .int .i64 s ∧ vr = .int .i64 r ∧ s0 ≤ s ∧ s ≤ r ∧ r ≤ r0 ∧ (s = s0 ∨ lt d[M + m - 1 - (s - 1)]! d[s - 1]! = false) ∧ (r = r0 ∨ lt d[M + m - 1 - r]! d[r]! = true) ∧ InS enc kk w blk off d.size w.heap.size (.func (.func g) #[] lb) (.func (.func sf) #[] sb) d wr) (fun vs vr _ => (intOf vr).toNat - (intOf vs).toNat)
  case atStart => exact ⟨s0, r0, E1.out, E2.out, Nat.le_refl _, q1, Nat.le_refl _, .inl rfl, .inl rfl, H0.out⟩
  case round =>
    clear E1 E2
    obtain ⟨s, r, rfl, rfl, hs, hsr, hr, hP, hQ, hI⟩ := hrel
    have HP := Lib.hid hP
    have HQ := Lib.hid hQ
    have HIS := Lib.hid hI
    have c0 := hI.c0
    have c1 := hI.c1
    clear hP hQ
    by_cases hlt : s < r
    · have hlti : (s : Int) < (r : Int) := by omega
      cases hlv : lt d[M + m - 1 - (s + r) / 2]! d[(s + r) / 2]! with
      | false =>
        have HLV := Lib.hid hlv
        have hl := hI.less HLESS.out (i := M + m - 1 - (s + r) / 2) (j := (s + r) / 2) (by omega) (by omega) false hlv
        rw [show (((M + m - 1 - (s + r) / 2 : Nat) : Int)) = (M : Int) + (m : Int) - 1 - ((s : Int) + (r : Int)) / 2 by omega, show ((((s + r) / 2 : Nat) : Int)) = ((s : Int) + (r : Int)) / 2 by omega] at hl
        clear hI hlv
        go_wp2_with (go_at_fn g; refine hl.mono ?_; rintro e w1 ⟨rfl, hI1⟩)
        go_roundw
        case rel => exact ⟨(s + r) / 2 + 1, r, by rw [show ((s : Int) + (r : Int)) / 2 + 1 = (((s + r) / 2 + 1 : Nat) : Int) by omega], rfl, by omega, by omega, hr, .inr (by rw [Nat.add_sub_cancel]; exact HLV.out), HQ.out, hI1⟩
        case measure => simp [intOf]; omega
      | true =>
        have HLV := Lib.hid hlv
        have hl := hI.less HLESS.out (i := M + m - 1 - (s + r) / 2) (j := (s + r) / 2) (by omega) (by omega) true hlv
        rw [show (((M + m - 1 - (s + r) / 2 : Nat) : Int)) = (M : Int) + (m : Int) - 1 - ((s : Int) + (r : Int)) / 2 by omega, show ((((s + r) / 2 : Nat) : Int)) = ((s : Int) + (r : Int)) / 2 by omega] at hl
        clear hI hlv
        go_wp2_with (go_at_fn g; refine hl.mono ?_; rintro e w1 ⟨rfl, hI1⟩)
        go_roundw
        case rel => exact ⟨s, (s + r) / 2, rfl, by rw [show ((s : Int) + (r : Int)) / 2 = (((s + r) / 2 : Nat) : Int) by omega], hs, by omega, by omega, HP.out, .inr HLV.out, hI1⟩
        case measure => simp [intOf]; omega
    · have hge : ¬ (s : Int) < (r : Int) := by omega
      obtain ⟨en, hen⟩ : ∃ en : Nat, en = M + m - s := ⟨_, rfl⟩
      have hEE : (M : Int) + (m : Int) - (s : Int) = (en : Int) := by omega
      have hES : s + en = M + m := by omega
      have z1 : s ≤ M := by omega
      have z2 : s ≤ m := by omega
      have z3 : m ≤ en := by omega
      have z4 : en ≤ b := by omega
      have z5 : a ≤ s := by omega
      have z6 : M ≤ en := by omega
      have FIN : Hid (∀ x, Rot d s m en x → Cross lt a M b x ∧ SortedIn lt a s x ∧ SortedIn lt s M x ∧ SortedIn lt M en x ∧ SortedIn lt en b x) := Lib.hid (by
        rw [hen]
        exact HFIN.out s hs (by omega) HP.out (by have := HQ.out; rwa [show r = s by omega] at this))
      have hM3 : a < M := by omega
      have hM4 : M < b := by omega
      clear hI hen HP HQ hr hsr
      have hc : (s < m ∧ m < en ∧ a < s ∧ en < b) ∨ (s < m ∧ m < en ∧ a < s ∧ ¬ en < b) ∨ (s < m ∧ m < en ∧ ¬ a < s ∧ en < b) ∨ (s < m ∧ m < en ∧ ¬ a < s ∧ ¬ en < b) ∨ (¬ s < m ∧ s < M) ∨ (¬ s < m ∧ ¬ s < M) ∨ (s < m ∧ ¬ m < en) := by omega
      rcases hc with ⟨v1, v2, v3, v4⟩ | ⟨v1, v2, v3, v4⟩ | ⟨v1, v2, v3, v4⟩ | ⟨v1, v2, v3, v4⟩ | ⟨v1, v2⟩ | ⟨v1, v2⟩ | ⟨v1, v2⟩
      · have i1 : (s : Int) < (m : Int) := by omega
        have i2 : (m : Int) < (en : Int) := by omega
        have i3 : (a : Int) < (s : Int) := by omega
        have i4 : (s : Int) < (M : Int) := by omega
        have i5 : (M : Int) < (en : Int) := by omega
        have i6 : (en : Int) < (b : Int) := by omega
        have rc := rotate_s hk g lb sf sb blk off s m en d wr HSWP.out HIS.out.holds HIS.out.hlt (by omega) (by omega) (by omega) hsz
        go_wp2_with fail
        refine rc.mono ?_
        rintro e w1 ⟨rfl, n1, os1, d1, ⟨rot1, p1⟩, hw1⟩
        have hI1 : InS enc kk w blk off d.size w.heap.size (.func (.func g) #[] lb) (.func (.func sf) #[] sb) d1 w1 := by rw [hw1]; exact HIS.out.on p1.1
        have P1 : Hid (PermIn a b d d1) := Lib.hid (permIn_mono _ _ _ _ _ _ (by omega) (by omega) hb p1)
        clear hw1 rc c0 c1 p1
        obtain ⟨X1, X2, X3, X4, X5⟩ := FIN.out d1 rot1
        have hz1 : d1.size = d.size := hI1.sz
        have c0 := hI1.c0
        have c1 := hI1.c1
        have H1 := Lib.hid hI1
        have X1 := Lib.hid X1
        have X2 := Lib.hid X2
        have X3 := Lib.hid X3
        have X4 := Lib.hid X4
        have X5 := Lib.hid X5
        have hb1 : b ≤ d1.size := by omega
        clear rot1 hI1 FIN
        have rc := IH.out a s M d1 w1 (by omega) (H1.out.lessReads HLESS.out) (by rw [hz1]; exact HSWP.out) H1.out.holds H1.out.hlt (by omega) (by omega) (by omega) (by omega) X2.out X3.out
        go_wp2_with fail
        refine rc.mono ?_
        rintro e w2 ⟨rfl, n2, os2, d2, ⟨p2, s2⟩, hw2⟩
        have hI2 : InS enc kk w blk off d.size w.heap.size (.func (.func g) #[] lb) (.func (.func sf) #[] sb) d2 w2 := by rw [hw2]; exact H1.out.on p2.1
        clear hw2 rc c0 c1
        have hz2 : d2.size = d.size := hI2.sz
        have c0 := hI2.c0
        have c1 := hI2.c1
        have Y4 := Lib.hid (sorted_other X4.out p2 (Or.inr (Nat.le_refl _)))
        have Y5 := Lib.hid (sorted_other X5.out p2 (Or.inr z6))
        have H2 := Lib.hid hI2
        have S2 := Lib.hid s2
        have P2 := Lib.hid p2
        clear hI2 s2 p2 X2 X3 X4 X5
        have rc := IH.out M en b d2 w2 (by omega) (H2.out.lessReads HLESS.out) (by rw [hz2]; exact HSWP.out) H2.out.holds H2.out.hlt (by omega) (by omega) (by omega) (by omega) Y4.out Y5.out
        go_wp2_with fail
        refine rc.mono ?_
        rintro e w3 ⟨rfl, n3, os3, d3, ⟨p3, s3⟩, hw3⟩
        have hI3 : InS enc kk w blk off d.size w.heap.size (.func (.func g) #[] lb) (.func (.func sf) #[] sb) d3 w3 := by rw [hw3]; exact H2.out.on p3.1
        have R := Lib.hid (halves_done (by omega) (by omega) hb1 X1.out P2.out S2.out p3 s3)
        have H3 := Lib.hid hI3
        clear hw3 rc c0 c1 H2 hI3 p3 s3
        go_wp2
        go_end0
        exact H3.out.post ⟨permIn_trans _ _ _ _ _ P1.out R.out.2, R.out.1⟩
      · have i1 : (s : Int) < (m : Int) := by omega
        have i2 : (m : Int) < (en : Int) := by omega
        have i3 : (a : Int) < (s : Int) := by omega
        have i4 : (s : Int) < (M : Int) := by omega
        have i5 : (M : Int) < (en : Int) := by omega
        have i6 : ¬ (en : Int) < (b : Int) := by omega
        have rc := rotate_s hk g lb sf sb blk off s m en d wr HSWP.out HIS.out.holds HIS.out.hlt (by omega) (by omega) (by omega) hsz
        go_wp2_with fail
        refine rc.mono ?_
        rintro e w1 ⟨rfl, n1, os1, d1, ⟨rot1, p1⟩, hw1⟩
        have hI1 : InS enc kk w blk off d.size w.heap.size (.func (.func g) #[] lb) (.func (.func sf) #[] sb) d1 w1 := by rw [hw1]; exact HIS.out.on p1.1
        have P1 : Hid (PermIn a b d d1) := Lib.hid (permIn_mono _ _ _ _ _ _ (by omega) (by omega) hb p1)
        clear hw1 rc c0 c1 p1
        obtain ⟨X1, X2, X3, X4, X5⟩ := FIN.out d1 rot1
        have hz1 : d1.size = d.size := hI1.sz
        have c0 := hI1.c0
        have c1 := hI1.c1
        have H1 := Lib.hid hI1
        have X1 := Lib.hid X1
        have X2 := Lib.hid X2
        have X3 := Lib.hid X3
        have X4 := Lib.hid X4
        have X5 := Lib.hid X5
        have hb1 : b ≤ d1.size := by omega
        clear rot1 hI1 FIN
        have rc := IH.out a s M d1 w1 (by omega) (H1.out.lessReads HLESS.out) (by rw [hz1]; exact HSWP.out) H1.out.holds H1.out.hlt (by omega) (by omega) (by omega) (by omega) X2.out X3.out
        go_wp2_with fail
        refine rc.mono ?_
        rintro e w2 ⟨rfl, n2, os2, d2, ⟨p2, s2⟩, hw2⟩
        have hI2 : InS enc kk w blk off d.size w.heap.size (.func (.func g) #[] lb) (.func (.func sf) #[] sb) d2 w2 := by rw [hw2]; exact H1.out.on p2.1
        clear hw2 rc c0 c1
        have hz2 : d2.size = d.size := hI2.sz
        have c0 := hI2.c0
        have c1 := hI2.c1
        have Y4 := Lib.hid (sorted_other X4.out p2 (Or.inr (Nat.le_refl _)))
        have Y5 := Lib.hid (sorted_other X5.out p2 (Or.inr z6))
        have H2 := Lib.hid hI2
        have S2 := Lib.hid s2
        have P2 := Lib.hid p2
        clear hI2 s2 p2 X2 X3 X4 X5
        have s3 : SortedIn lt M b d2 := by have := Y4.out; rwa [show en = b by omega] at this
        have R := Lib.hid (halves_done (by omega) (by omega) hb1 X1.out P2.out S2.out (permIn_refl d2 M b) s3)
        clear c0 c1 s3
        go_wp2
        go_end0
        exact H2.out.post ⟨permIn_trans _ _ _ _ _ P1.out R.out.2, R.out.1⟩
      · have i1 : (s : Int) < (m : Int) := by omega
        have i2 : (m : Int) < (en : Int) := by omega
        have i3 : ¬ (a : Int) < (s : Int) := by omega
        have i5 : (M : Int) < (en : Int) := by omega
        have i6 : (en : Int) < (b : Int) := by omega
        have rc := rotate_s hk g lb sf sb blk off s m en d wr HSWP.out HIS.out.holds HIS.out.hlt (by omega) (by omega) (by omega) hsz
        go_wp2_with fail
        refine rc.mono ?_
        rintro e w1 ⟨rfl, n1, os1, d1, ⟨rot1, p1⟩, hw1⟩
        have hI1 : InS enc kk w blk off d.size w.heap.size (.func (.func g) #[] lb) (.func (.func sf) #[] sb) d1 w1 := by rw [hw1]; exact HIS.out.on p1.1
        have P1 : Hid (PermIn a b d d1) := Lib.hid (permIn_mono _ _ _ _ _ _ (by omega) (by omega) hb p1)
        clear hw1 rc c0 c1 p1
        obtain ⟨X1, X2, X3, X4, X5⟩ := FIN.out d1 rot1
        have hz1 : d1.size = d.size := hI1.sz
        have c0 := hI1.c0
        have c1 := hI1.c1
        have H1 := Lib.hid hI1
        have X1 := Lib.hid X1
        have X2 := Lib.hid X2
        have X3 := Lib.hid X3
        have X4 := Lib.hid X4
        have X5 := Lib.hid X5
        have hb1 : b ≤ d1.size := by omega
        clear rot1 hI1 FIN
        obtain ⟨w2, rfl⟩ : ∃ w2, w2 = w1 := ⟨_, rfl⟩
        obtain ⟨d2, hd2⟩ : ∃ d2, d2 = d1 := ⟨_, rfl⟩
        have s2 : SortedIn lt a M d2 := by rw [hd2]; have := X3.out; rwa [show s = a by omega] at this
        have p2 : PermIn a M d1 d2 := by rw [hd2]; exact permIn_refl _ _ _
        have hI2 : InS enc kk w blk off d.size w.heap.size (.func (.func g) #[] lb) (.func (.func sf) #[] sb) d2 w2 := by rw [hd2]; exact H1.out
        clear hd2 c0 c1
        have hz2 : d2.size = d.size := hI2.sz
        have c0 := hI2.c0
        have c1 := hI2.c1
        have Y4 := Lib.hid (sorted_other X4.out p2 (Or.inr (Nat.le_refl _)))
        have Y5 := Lib.hid (sorted_other X5.out p2 (Or.inr z6))
        have H2 := Lib.hid hI2
        have S2 := Lib.hid s2
        have P2 := Lib.hid p2
        clear hI2 s2 p2 X2 X3 X4 X5
        have rc := IH.out M en b d2 w2 (by omega) (H2.out.lessReads HLESS.out) (by rw [hz2]; exact HSWP.out) H2.out.holds H2.out.hlt (by omega) (by omega) (by omega) (by omega) Y4.out Y5.out
        go_wp2_with fail
        refine rc.mono ?_
        rintro e w3 ⟨rfl, n3, os3, d3, ⟨p3, s3⟩, hw3⟩
        have hI3 : InS enc kk w blk off d.size w.heap.size (.func (.func g) #[] lb) (.func (.func sf) #[] sb) d3 w3 := by rw [hw3]; exact H2.out.on p3.1
        have R := Lib.hid (halves_done (by omega) (by omega) hb1 X1.out P2.out S2.out p3 s3)
        have H3 := Lib.hid hI3
        clear hw3 rc c0 c1 H2 hI3 p3 s3
        go_wp2
        go_end0
        exact H3.out.post ⟨permIn_trans _ _ _ _ _ P1.out R.out.2, R.out.1⟩
      · have i1 : (s : Int) < (m : Int) := by omega
        have i2 : (m : Int) < (en : Int) := by omega
        have i3 : ¬ (a : Int) < (s : Int) := by omega
        have i5 : (M : Int) < (en : Int) := by omega
        have i6 : ¬ (en : Int) < (b : Int) := by omega
        have rc := rotate_s hk g lb sf sb blk off s m en d wr HSWP.out HIS.out.holds HIS.out.hlt (by omega) (by omega) (by omega) hsz
        go_wp2_with fail
        refine rc.mono ?_
        rintro e w1 ⟨rfl, n1, os1, d1, ⟨rot1, p1⟩, hw1⟩
        have hI1 : InS enc kk w blk off d.size w.heap.size (.func (.func g) #[] lb) (.func (.func sf) #[] sb) d1 w1 := by rw [hw1]; exact HIS.out.on p1.1
        have P1 : Hid (PermIn a b d d1) := Lib.hid (permIn_mono _ _ _ _ _ _ (by omega) (by omega) hb p1)
        clear hw1 rc c0 c1 p1
        obtain ⟨X1, X2, X3, X4, X5⟩ := FIN.out d1 rot1
        have hz1 : d1.size = d.size := hI1.sz
        have c0 := hI1.c0
        have c1 := hI1.c1
        have H1 := Lib.hid hI1
        have X1 := Lib.hid X1
        have X2 := Lib.hid X2
        have X3 := Lib.hid X3
        have X4 := Lib.hid X4
        have X5 := Lib.hid X5
        have hb1 : b ≤ d1.size := by omega
        clear rot1 hI1 FIN
        obtain ⟨w2, rfl⟩ : ∃ w2, w2 = w1 := ⟨_, rfl⟩
        obtain ⟨d2, hd2⟩ : ∃ d2, d2 = d1 := ⟨_, rfl⟩
        have s2 : SortedIn lt a M d2 := by rw [hd2]; have := X3.out; rwa [show s = a by omega] at this
        have p2 : PermIn a M d1 d2 := by rw [hd2]; exact permIn_refl _ _ _
        have hI2 : InS enc kk w blk off d.size w.heap.size (.func (.func g) #[] lb) (.func (.func sf) #[] sb) d2 w2 := by rw [hd2]; exact H1.out
        clear hd2 c0 c1
        have hz2 : d2.size = d.size := hI2.sz
        have c0 := hI2.c0
        have c1 := hI2.c1
        have Y4 := Lib.hid (sorted_other X4.out p2 (Or.inr (Nat.le_refl _)))
        have Y5 := Lib.hid (sorted_other X5.out p2 (Or.inr z6))
        have H2 := Lib.hid hI2
        have S2 := Lib.hid s2
        have P2 := Lib.hid p2
        clear hI2 s2 p2 X2 X3 X4 X5
        have s3 : SortedIn lt M b d2 := by have := Y4.out; rwa [show en = b by omega] at this
        have R := Lib.hid (halves_done (by omega) (by omega) hb1 X1.out P2.out S2.out (permIn_refl d2 M b) s3)
        clear c0 c1 s3
        go_wp2
        go_end0
        exact H2.out.post ⟨permIn_trans _ _ _ _ _ P1.out R.out.2, R.out.1⟩
      · exfalso; omega
      · exfalso; omega
      · have i1 : (s : Int) < (m : Int) := by omega
        have i2 : ¬ (m : Int) < (en : Int) := by omega
        have i3 : (a : Int) < (s : Int) := by omega
        have i4 : ¬ (s : Int) < (M : Int) := by omega
        have i5 : (M : Int) < (en : Int) := by omega
        have i6 : (en : Int) < (b : Int) := by omega
        obtain ⟨w1, rfl⟩ : ∃ w1, w1 = wr := ⟨_, rfl⟩
        obtain ⟨d1, hd1⟩ : ∃ d1, d1 = d := ⟨_, rfl⟩
        have rot1 : Rot d s m en d1 := by rw [hd1]; exact (by rw [show en = m by omega]; exact rot_refl_r d s m z2)
        have P1 : Hid (PermIn a b d d1) := Lib.hid (by rw [hd1]; exact permIn_refl _ _ _)
        have hI1 : InS enc kk w blk off d.size w.heap.size (.func (.func g) #[] lb) (.func (.func sf) #[] sb) d1 w1 := by rw [hd1]; exact HIS.out
        clear hd1 c0 c1
        obtain ⟨X1, X2, X3, X4, X5⟩ := FIN.out d1 rot1
        have hz1 : d1.size = d.size := hI1.sz
        have c0 := hI1.c0
        have c1 := hI1.c1
        have H1 := Lib.hid hI1
        have X1 := Lib.hid X1
        have X2 := Lib.hid X2
        have X3 := Lib.hid X3
        have X4 := Lib.hid X4
        have X5 := Lib.hid X5
        have hb1 : b ≤ d1.size := by omega
        clear rot1 hI1 FIN
        obtain ⟨w2, rfl⟩ : ∃ w2, w2 = w1 := ⟨_, rfl⟩
        obtain ⟨d2, hd2⟩ : ∃ d2, d2 = d1 := ⟨_, rfl⟩
        have s2 : SortedIn lt a M d2 := by rw [hd2]; have := X2.out; rwa [show s = M by omega] at this
        have p2 : PermIn a M d1 d2 := by rw [hd2]; exact permIn_refl _ _ _
        have hI2 : InS enc kk w blk off d.size w.heap.size (.func (.func g) #[] lb) (.func (.func sf) #[] sb) d2 w2 := by rw [hd2]; exact H1.out
        clear hd2 c0 c1
        have hz2 : d2.size = d.size := hI2.sz
        have c0 := hI2.c0
        have c1 := hI2.c1
        have Y4 := Lib.hid (sorted_other X4.out p2 (Or.inr (Nat.le_refl _)))
        have Y5 := Lib.hid (sorted_other X5.out p2 (Or.inr z6))
        have H2 := Lib.hid hI2
        have S2 := Lib.hid s2
        have P2 := Lib.hid p2
        clear hI2 s2 p2 X2 X3 X4 X5
        have rc := IH.out M en b d2 w2 (by omega) (H2.out.lessReads HLESS.out) (by rw [hz2]; exact HSWP.out) H2.out.holds H2.out.hlt (by omega) (by omega) (by omega) (by omega) Y4.out Y5.out
        go_wp2_with fail
        refine rc.mono ?_
        rintro e w3 ⟨rfl, n3, os3, d3, ⟨p3, s3⟩, hw3⟩
        have hI3 : InS enc kk w blk off d.size w.heap.size (.func (.func g) #[] lb) (.func (.func sf) #[] sb) d3 w3 := by rw [hw3]; exact H2.out.on p3.1
        have R := Lib.hid (halves_done (by omega) (by omega) hb1 X1.out P2.out S2.out p3 s3)
        have H3 := Lib.hid hI3
        clear hw3 rc c0 c1 H2 hI3 p3 s3
        go_wp2
        go_end0
        exact H3.out.post ⟨permIn_trans _ _ _ _ _ P1.out R.out.2, R.out.1⟩
end
end Go.Proofs.YtbnbjiddffihoaaGreatDoor

/- Walks over the library's stable sort: symMerge, its general case where the middle of the row lies not before the second part. -/
namespace Go.Proofs.YtbnbjiddffihoaaGreatDoor
open Go.RowKit Go.Sort Go.Lib

section
variable {α : Type} [Inhabited α] {enc : α → List Value} {kk : Nat} {lt : α → α → Bool}
variable (hk : ∀ x, (enc x).length = kk) (hS : SWO lt) (g : Nat) (lb : Array Value) (sf : Nat) (sb : Array Value)
set_option maxHeartbeats 8000000 in
set_option maxRecDepth 100000 in
include hk hS in
theorem sym_le (eg : ∀ args w, (callFunc g args).run Tryz.prog w = .ok (.enter g args) w) (blk off N a m b : Nat) (d : Array α) (w : World) (hN : b - a ≤ N + 1) (hih : ∀ (a m b : Nat) (d : Array α) (w : World), b - a ≤ N →
    LessG Tryz.prog g lb enc kk lt blk off d.size w → SwapSwapsK Tryz.prog sf sb enc kk blk off d.size → HoldsK enc kk w blk off d → blk < w.heap.size → a < m → m < b → b ≤ d.size → d.size < 4611686018427387904 →
    SortedIn lt a m d → SortedIn lt m b d →
    Calls Tryz.prog 154 #[dta g lb sf sb, .int .i64 a, .int .i64 m, .int .i64 b] w (SrtPost enc kk w blk off fun d' => PermIn a b d d' ∧ SortedIn lt a b d'))
    (hless : LessG Tryz.prog g lb enc kk lt blk off d.size w) (hswap : SwapSwapsK Tryz.prog sf sb enc kk blk off d.size) (hH : HoldsK enc kk w blk off d) (hblk : blk < w.heap.size) (ham : a + 1 < m) (hmb : m + 1 < b) (hb : b ≤ d.size) (hsz : d.size < 4611686018427387904)
    (hl : SortedIn lt a m d) (hr : SortedIn lt m b d) (hgt : m ≤ (a + b) / 2) :
    Calls Tryz.prog 154 #[dta g lb sf sb, .int .i64 a, .int .i64 m, .int .i64 b] w (SrtPost enc kk w blk off fun d' => PermIn a b d d' ∧ SortedIn lt a b d') := by
  have IH := Lib.hid hih
  have H0 := Lib.hid (InS.start (g := g) (lb := lb) (sf := sf) (sb := sb) hH hblk)
  have HLESS := Lib.hid hless
  have HSWP := Lib.hid hswap
  have HL := Lib.hid hl
  have HR := Lib.hid hr
  have t1 : ((m : Int) - (a : Int) == 1) = false := by rw [beq_eq_false_iff_ne]; omega
  have t2 : ((b : Int) - (m : Int) == 1) = false := by rw [beq_eq_false_iff_ne]; omega
  obtain ⟨M, hM⟩ : ∃ M : Nat, M = (a + b) / 2 := ⟨_, rfl⟩
  have HM := Lib.hid hM
  have hME : ((a : Int) + (b : Int)) / 2 = (M : Int) := by omega
  have hM1 : 2 * M ≤ a + b := by omega
  have hM2 : a + b ≤ 2 * M + 1 := by omega
  have hbs : b < 4611686018427387904 := by omega
  have hgt2 : m ≤ M := by omega
  have hgtI : ¬ (M : Int) < (m : Int) := by omega
  clear hless hswap hH hl hr hM hih hgt
  have FIN : Hid (∀ s s0 r0, ((m > M ∧ s0 = M + m - b ∧ r0 = M) ∨ (m ≤ M ∧ s0 = a ∧ r0 = m)) → s0 ≤ s → s ≤ r0 → (s = s0 ∨ lt d[M + m - 1 - (s - 1)]! d[s - 1]! = false) → (s = r0 ∨ lt d[M + m - 1 - s]! d[s]! = true) → ∀ r, Rot d s m (M + m - s) r →
    Cross lt a M b r ∧ SortedIn lt a s r ∧ SortedIn lt s M r ∧ SortedIn lt M (M + m - s) r ∧ SortedIn lt (M + m - s) b r) := Lib.hid (fun s s0 r0 h0 h1 h2 h3 h4 r h => by
    have hM := HM.out
    subst hM
    exact sym_cross hS (by omega) (by omega) HL.out HR.out h0 h1 h2 h3 h4 h)
  obtain ⟨s0, hs0⟩ : ∃ s0 : Nat, s0 = a := ⟨_, rfl⟩
  obtain ⟨r0, hr0⟩ : ∃ r0 : Nat, r0 = m := ⟨_, rfl⟩
  have h00 : (m > M ∧ s0 = M + m - b ∧ r0 = M) ∨ (m ≤ M ∧ s0 = a ∧ r0 = m) := by omega
  have hsr : s0 ≤ r0 ∧ r0 ≤ M ∧ r0 ≤ m ∧ a ≤ s0 ∧ M + m ≤ s0 + b := by omega
  obtain ⟨q1, q2, q3, q4, q5⟩ := hsr
  have HFIN := Lib.hid (fun s => FIN.out s s0 r0 h00)
  have E1 : Hid (Value.int .i64 ((a : Int)) = .int .i64 (s0 : Int)) := Lib.hid (by rw [hs0])
  have E2 : Hid (Value.int .i64 (m : Int) = .int .i64 (r0 : Int)) := Lib.hid (by rw [hr0])
  clear FIN h00 hs0 hr0
  go_enter Tryz.func154, Tryz.ntmps154
  go_wp2
  go_loopw [18, 19] (fun vs vr wr => ∃ (s r : Nat), vs = .int .i64 s ∧ vr = .int .i64 r ∧ s0 ≤ s ∧ s ≤ r ∧ r ≤ r0 ∧ (s = s0 ∨ lt d[M + m - 1 - (s - 1)]! d[s - 1]! = false) ∧ (r = r0 ∨ lt d[M + m - 1 - r]! d[r]! = true) ∧ InS enc kk w blk off d.size w.heap.size (.func (.func g) #[] lb) (.func (.func sf) #[] sb) d wr) (fun vs vr _ => (intOf vr).toNat - (intOf vs).toNat)
  case atStart => exact ⟨s0, r0, E1.out, E2.out, Nat.le_refl _, q1, Nat.le_refl _, .inl rfl, .inl rfl, H0.out⟩
  case round =>
    clear E1 E2
    obtain ⟨s, r, rfl, rfl, hs, hsr, hr, hP, hQ, hI⟩ := hrel
    have HP := Lib.hid hP
    have HQ := Lib.hid hQ
    have HIS := Lib.hid hI
    have c0 := hI.c0
    have c1 := hI.c1
    clear hP hQ
    by_cases hlt : s < r
    · have hlti : (s : Int) < (r : Int) := by omega
      cases hlv : lt d[M + m - 1 - (s + r) / 2]! d[(s + r) / 2]! with
      | false =>
        have HLV := Lib.hid hlv
        have hl := hI.less HLESS.out (i := M + m - 1 - (s + r) / 2) (j := (s + r) / 2) (by omega) (by omega) false hlv
        rw [show (((M + m - 1 - (s + r) / 2 : Nat) : Int)) = (M : Int) + (m : Int) - 1 - ((s : Int) + (r : Int)) / 2 by omega, show ((((s + r) / 2 : Nat) : Int)) = ((s : Int) + (r : Int)) / 2 by omega] at hl
        clear hI hlv
        go_wp2_with (go_at_fn g; refine hl.mono ?_; rintro e w1 ⟨rfl, hI1⟩)
        go_roundw
        case rel => exact ⟨(s + r) / 2 + 1, r, by rw [show ((s : Int) + (r : Int)) / 2 + 1 = (((s + r) / 2 + 1 : Nat) : Int) by omega], rfl, by omega, by omega, hr, .inr (by rw [Nat.add_sub_cancel]; exact HLV.out), HQ.out, hI1⟩
        case measure => simp [intOf]; omega
      | true =>
        have HLV := Lib.hid hlv
        have hl := hI.less HLESS.out (i := M + m - 1 - (s + r) / 2) (j := (s + r) / 2) (by omega) (by omega) true hlv
        rw [show (((M + m - 1 - (s + r) / 2 : Nat) : Int)) = (M : Int) + (m : Int) - 1 - ((s : Int) + (r : Int)) / 2 by omega, show ((((s + r) / 2 : Nat) : Int)) = ((s : Int) + (r : Int)) / 2 by omega] at hl
        clear hI hlv
        go_wp2_with (go_at_fn g; refine hl.mono ?_; rintro e w1 ⟨rfl, hI1⟩)
        go_roundw
        case rel => exact ⟨s, (s + r) / 2, rfl, by rw [show ((s : Int) + (r : Int)) / 2 = (((s + r) / 2 : Nat) : Int) by omega], hs, by omega, by omega, HP.out, .inr HLV.out, hI1⟩
        case measure => simp [intOf]; omega
    · have hge : ¬ (s : Int) < (r : Int) := by omega
      obtain ⟨en, hen⟩ : ∃ en : Nat, en = M + m - s := ⟨_, rfl⟩
      have hEE : (M : Int) + (m : Int) - (s : Int) = (en : Int) := by omega
      have hES : s + en = M + m := by omega
      have z1 : s ≤ M := by omega
      have z2 : s ≤ m := by omega
      have z3 : m ≤ en := by omega
      have z4 : en ≤ b := by omega
      have z5 : a ≤ s := by omega
      have z6 : M ≤ en := by omega
      have FIN : Hid (∀ x, Rot d s m en x → Cross lt a M b x ∧ SortedIn lt a s x ∧ SortedIn lt s M x ∧ SortedIn lt M en x ∧ SortedIn lt en b x) := Lib.hid (by
        rw [hen]
        exact HFIN.out s hs (by omega) HP.out (by have := HQ.out; rwa [show r = s by omega] at this))
      have hM3 : a < M := by omega
      have hM4 : M < b := by omega
      clear hI hen HP HQ hr hsr
      have hc : (s < m ∧ m < en ∧ a < s ∧ en < b) ∨ (s < m ∧ m < en ∧ a < s ∧ ¬ en < b) ∨ (s < m ∧ m < en ∧ ¬ a < s ∧ en < b) ∨ (s < m ∧ m < en ∧ ¬ a < s ∧ ¬ en < b) ∨ (¬ s < m ∧ s < M) ∨ (¬ s < m ∧ ¬ s < M) ∨ (s < m ∧ ¬ m < en) := by omega
      rcases hc with ⟨v1, v2, v3, v4⟩ | ⟨v1, v2, v3, v4⟩ | ⟨v1, v2, v3, v4⟩ | ⟨v1, v2, v3, v4⟩ | ⟨v1, v2⟩ | ⟨v1, v2⟩ | ⟨v1, v2⟩
      · have i1 : (s : Int) < (m : Int) := by omega
        have i2 : (m : Int) < (en : Int) := by omega
        have i3 : (a : Int) < (s : Int) := by omega
        have i4 : (s : Int) < (M : Int) := by omega
        have i5 : (M : Int) < (en : Int) := by omega
        have i6 : (en : Int) < (b : Int) := by omega
        have rc := rotate_s hk g lb sf sb blk off s m en d wr HSWP.out HIS.out.holds HIS.out.hlt (by omega) (by omega) (by omega) hsz
        go_wp2_with fail
        refine rc.mono ?_
        rintro e w1 ⟨rfl, n1, os1, d1, ⟨rot1, p1⟩, hw1⟩
        have hI1 : InS enc kk w blk off d.size w.heap.size (.func (.func g) #[] lb) (.func (.func sf) #[] sb) d1 w1 := by rw [hw1]; exact HIS.out.on p1.1
        have P1 : Hid (PermIn a b d d1) := Lib.hid (permIn_mono _ _ _ _ _ _ (by omega) (by omega) hb p1)
        clear hw1 rc c0 c1 p1
        obtain ⟨X1, X2, X3, X4, X5⟩ := FIN.out d1 rot1
        have hz1 : d1.size = d.size := hI1.sz
        have c0 := hI1.c0
        have c1 := hI1.c1
        have H1 := Lib.hid hI1
        have X1 := Lib.hid X1
        have X2 := Lib.hid X2
        have X3 := Lib.hid X3
        have X4 := Lib.hid X4
        have X5 := Lib.hid X5
        have hb1 : b ≤ d1.size := by omega
        clear rot1 hI1 FIN
        have rc := IH.out a s M d1 w1 (by omega) (H1.out.lessReads HLESS.out) (by rw [hz1]; exact HSWP.out) H1.out.holds H1.out.hlt (by omega) (by omega) (by omega) (by omega) X2.out X3.out
        go_wp2_with fail
        refine rc.mono ?_
        rintro e w2 ⟨rfl, n2, os2, d2, ⟨p2, s2⟩, hw2⟩
        have hI2 : InS enc kk w blk off d.size w.heap.size (.func (.func g) #[] lb) (.func (.func sf) #[] sb) d2 w2 := by rw [hw2]; exact H1.out.on p2.1
        clear hw2 rc c0 c1
        have hz2 : d2.size = d.size := hI2.sz
        have c0 := hI2.c0
        have c1 := hI2.c1
        have Y4 := Lib.hid (sorted_other X4.out p2 (Or.inr (Nat.le_refl _)))
        have Y5 := Lib.hid (sorted_other X5.out p2 (Or.inr z6))
        have H2 := Lib.hid hI2
        have S2 := Lib.hid s2
        have P2 := Lib.hid p2
        clear hI2 s2 p2 X2 X3 X4 X5
        have rc := IH.out M en b d2 w2 (by omega) (H2.out.lessReads HLESS.out) (by rw [hz2]; exact HSWP.out) H2.out.holds H2.out.hlt (by omega) (by omega) (by omega) (by omega) Y4.out Y5.out
        go_wp2_with fail
        refine rc.mono ?_
        rintro e w3 ⟨rfl, n3, os3, d3, ⟨p3, s3⟩, hw3⟩
        have hI3 : InS enc kk w blk off d.size w.heap.size (.func (.func g) #[] lb) (.func (.func sf) #[] sb) d3 w3 := by rw [hw3]; exact H2.out.on p3.1
        have R := Lib.hid (halves_done (by omega) (by omega) hb1 X1.out P2.out S2.out p3 s3)
        have H3 := Lib.hid hI3
        clear hw3 rc c0 c1 H2 hI3 p3 s3
        go_wp2
        go_end0
        exact H3.out.post ⟨permIn_trans _ _ _ _ _ P1.out R.out.2, R.out.1⟩
      · have i1 : (s : Int) < (m : Int) := by omega
        have i2 : (m : Int) < (en : Int) := by omega
        have i3 : (a : Int) < (s : Int) := by omega
        have i4 : (s : Int) < (M : Int) := by omega
        have i5 : (M : Int) < (en : Int) := by omega
        have i6 : ¬ (en : Int) < (b : Int) := by omega
        have rc := rotate_s hk g lb sf sb blk off s m en d wr HSWP.out HIS.out.holds HIS.out.hlt (by omega) (by omega) (by omega) hsz
        go_wp2_with fail
        refine rc.mono ?_
        rintro e w1 ⟨rfl, n1, os1, d1, ⟨rot1, p1⟩, hw1⟩
        have hI1 : InS enc kk w blk off d.size w.heap.size (.func (.func g) #[] lb) (.func (.func sf) #[] sb) d1 w1 := by rw [hw1]; exact HIS.out.on p1.1
        have P1 : Hid (PermIn a b d d1) := Lib.hid (permIn_mono _ _ _ _ _ _ (by omega) (by omega) hb p1)
        clear hw1 rc c0 c1 p1
        obtain ⟨X1, X2, X3, X4, X5⟩ := FIN.out d1 rot1
        have hz1 : d1.size = d.size := hI1.sz
        have c0 := hI1.c0
        have c1 := hI1.c1
        have H1 := Lib.hid hI1
        have X1 := Lib.hid X1
        have X2 := Lib.hid X2
        have X3 := Lib.hid X3
        have X4 := Lib.hid X4
        have X5 := Lib.hid X5
        have hb1 : b ≤ d1.size := by omega
        clear rot1 hI1 FIN
        have rc := IH.out a s M d1 w1 (by omega) (H1.out.lessReads HLESS.out) (by rw [hz1]; exact HSWP.out) H1.out.holds H1.out.hlt (by omega) (by omega) (by omega) (by omega) X2.out X3.out
        go_wp2_with fail
        refine rc.mono ?_
        rintro e w2 ⟨rfl, n2, os2, d2, ⟨p2, s2⟩, hw2⟩
        have hI2 : InS enc kk w blk off d.size w.heap.size (.func (.func g) #[] lb) (.func (.func sf) #[] sb) d2 w2 := by rw [hw2]; exact H1.out.on p2.1
        clear hw2 rc c0 c1
        have hz2 : d2.size = d.size := hI2.sz
        have c0 := hI2.c0
        have c1 := hI2.c1
        have Y4 := Lib.hid (sorted_other X4.out p2 (Or.inr (Nat.le_refl _)))
        have Y5 := Lib.hid (sorted_other X5.out p2 (Or.inr z6))
        have H2 := Lib.hid hI2
        have S2 := Lib.hid s2
        have P2 := Lib.hid p2
        clear hI2 s2 p2 X2 X3 X4 X5
        have s3 : SortedIn lt M b d2 := by have := Y4.out; rwa [show en = b by omega] at this
        have R := Lib.hid (halves_done (by omega) (by omega) hb1 X1.out P2.out S2.out (permIn_refl d2 M b) s3)
        clear c0 c1 s3
        go_wp2
        go_end0
        exact H2.out.post ⟨permIn_trans _ _ _ _ _ P1.out R.out.2, R.out.1⟩
      · have i1 : (s : Int) < (m : Int) := by omega
        have i2 : (m : Int) < (en : Int) := by omega
        have i3 : ¬ (a : Int) < (s : Int) := by omega
        have i5 : (M : Int) < (en : Int) := by omega
        have i6 : (en : Int) < (b : Int) := by omega
        have rc := rotate_s hk g lb sf sb blk off s m en d wr HSWP.out HIS.out.holds HIS.out.hlt (by omega) (by omega) (by omega) hsz
        go_wp2_with fail
        refine rc.mono ?_
        rintro e w1 ⟨rfl, n1, os1, d1, ⟨rot1, p1⟩, hw1⟩
        have hI1 : InS enc kk w blk off d.size w.heap.size (.func (.func g) #[] lb) (.func (.func sf) #[] sb) d1 w1 := by rw [hw1]; exact HIS.out.on p1.1
        have P1 : Hid (PermIn a b d d1) := Lib.hid (permIn_mono _ _ _ _ _ _ (by omega) (by omega) hb p1)
        clear hw1 rc c0 c1 p1
        obtain ⟨X1, X2, X3, X4, X5⟩ := FIN.out d1 rot1
        have hz1 : d1.size = d.size := hI1.sz
        have c0 := hI1.c0
        have c1 := hI1.c1
        have H1 := Lib.hid hI1
        have X1 := Lib.hid X1
        have X2 := Lib.hid X2
        have X3 := Lib.hid X3
        have X4 := Lib.hid X4
        have X5 := Lib.hid X5
        have hb1 : b ≤ d1.size := by omega
        clear rot1 hI1 FIN
        obtain ⟨w2, rfl⟩ : ∃ w2, w2 = w1 := ⟨_, rfl⟩
        obtain ⟨d2, hd2⟩ : ∃ d2, d2 = d1 := ⟨_, rfl⟩
        have s2 : SortedIn lt a M d2 := by rw [hd2]; have := X3.out; rwa [show s = a by omega] at this
        have p2 : PermIn a M d1 d2 := by rw [hd2]; exact permIn_refl _ _ _
        have hI2 : InS enc kk w blk off d.size w.heap.size (.func (.func g) #[] lb) (.func (.func sf) #[] sb) d2 w2 := by rw [hd2]; exact H1.out
        clear hd2 c0 c1
        have hz2 : d2.size = d.size := hI2.sz
        have c0 := hI2.c0
        have c1 := hI2.c1
        have Y4 := Lib.hid (sorted_other X4.out p2 (Or.inr (Nat.le_refl _)))
        have Y5 := Lib.hid (sorted_other X5.out p2 (Or.inr z6))
        have H2 := Lib.hid hI2
        have S2 := Lib.hid s2
        have P2 := Lib.hid p2
        clear hI2 s2 p2 X2 X3 X4 X5
        have rc := IH.out M en b d2 w2 (by omega) (H2.out.lessReads HLESS.out) (by rw [hz2]; exact HSWP.out) H2.out.holds H2.out.hlt (by omega) (by omega) (by omega) (by omega) Y4.out Y5.out
        go_wp2_with fail
        refine rc.mono ?_
        rintro e w3 ⟨rfl, n3, os3, d3, ⟨p3, s3⟩, hw3⟩
        have hI3 : InS enc kk w blk off d.size w.heap.size (.func (.func g) #[] lb) (.func (.func sf) #[] sb) d3 w3 := by rw [hw3]; exact H2.out.on p3.1
        have R := Lib.hid (halves_done (by omega) (by omega) hb1 X1.out P2.out S2.out p3 s3)
        have H3 := Lib.hid hI3
        clear hw3 rc c0 c1 H2 hI3 p3 s3
        go_wp2
        go_end0
        exact H3.out.post ⟨permIn_trans _ _ _ _ _ P1.out R.out.2, R.out.1⟩
      · have i1 : (s : Int) < (m : Int) := by omega
        have i2 : (m : Int) < (en : Int) := by omega
        have i3 : ¬ (a : Int) < (s : Int) := by omega
        have i5 : (M : Int) < (en : Int) := by omega
        have i6 : ¬ (en : Int) < (b : Int) := by omega
        have rc := rotate_s hk g lb sf sb blk off s m en d wr HSWP.out HIS.out.holds HIS.out.hlt (by omega) (by omega) (by omega) hsz
        go_wp2_with fail
        refine rc.mono ?_
        rintro e w1 ⟨rfl, n1, os1, d1, ⟨rot1, p1⟩, hw1⟩
        have hI1 : InS enc kk w blk off d.size w.heap.size (.func (.func g) #[] lb) (.func (.func sf) #[] sb) d1 w1 := by rw [hw1]; exact HIS.out.on p1.1
        have P1 : Hid (PermIn a b d d1) := Lib.hid (permIn_mono _ _ _ _ _ _ (by omega) (by omega) hb p1)
        clear hw1 rc c0 c1 p1
        obtain ⟨X1, X2, X3, X4, X5⟩ := FIN.out d1 rot1
        have hz1 : d1.size = d.size := hI1.sz
        have c0 := hI1.c0
        have c1 := hI1.c1
        have H1 := Lib.hid hI1
        have X1 := Lib.hid X1
        have X2 := Lib.hid X2
        have X3 := Lib.hid X3
        have X4 := Lib.hid X4
        have X5 := Lib.hid X5
        have hb1 : b ≤ d1.size := by omega
        clear rot1 hI1 FIN
        obtain ⟨w2, rfl⟩ : ∃ w2, w2 = w1 := ⟨_, rfl⟩
        obtain ⟨d2, hd2⟩ : ∃ d2, d2 = d1 := ⟨_, rfl⟩
        have s2 : SortedIn lt a M d2 := by rw [hd2]; have := X3.out; rwa [show s = a by omega] at this
        have p2 : PermIn a M d1 d2 := by rw [hd2]; exact permIn_refl _ _ _
        have hI2 : InS enc kk w blk off d.size w.heap.size (.func (.func g) #[] lb) (.func (.func sf) #[] sb) d2 w2 := by rw [hd2]; exact H1.out
        clear hd2 c0 c1
        have hz2 : d2.size = d.size := hI2.sz
        have c0 := hI2.c0
        have c1 := hI2.c1
        have Y4 := Lib.hid (sorted_other X4.out p2 (Or.inr (Nat.le_refl _)))
        have Y5 := Lib.hid (sorted_other X5.out p2 (Or.inr z6))
        have H2 := Lib.hid hI2
        have S2 := Lib.hid s2
        have P2 := Lib.hid p2
        clear hI2 s2 p2 X2 X3 X4 X5
        have s3 : SortedIn lt M b d2 := by have := Y4.out; rwa [show en = b by omega] at this
        have R := Lib.hid (halves_done (by omega) (by omega) hb1 X1.out P2.out S2.out (permIn_refl d2 M b) s3)
        clear c0 c1 s3
        go_wp2
        go_end0
        exact H2.out.post ⟨permIn_trans _ _ _ _ _ P1.out R.out.2, R.out.1⟩
      · have i1 : ¬ (s : Int) < (m : Int) := by omega
        have i3 : (a : Int) < (s : Int) := by omega
        have i4 : (s : Int) < (M : Int) := by omega
        have i5 : ¬ (M : Int) < (en : Int) := by omega
        obtain ⟨w1, rfl⟩ : ∃ w1, w1 = wr := ⟨_, rfl⟩
        obtain ⟨d1, hd1⟩ : ∃ d1, d1 = d := ⟨_, rfl⟩
        have rot1 : Rot d s m en d1 := by rw [hd1]; exact (by rw [show s = m by omega]; exact rot_refl_l d m en z3)
        have P1 : Hid (PermIn a b d d1) := Lib.hid (by rw [hd1]; exact permIn_refl _ _ _)
        have hI1 : InS enc kk w blk off d.size w.heap.size (.func (.func g) #[] lb) (.func (.func sf) #[] sb) d1 w1 := by rw [hd1]; exact HIS.out
        clear hd1 c0 c1
        obtain ⟨X1, X2, X3, X4, X5⟩ := FIN.out d1 rot1
        have hz1 : d1.size = d.size := hI1.sz
        have c0 := hI1.c0
        have c1 := hI1.c1
        have H1 := Lib.hid hI1
        have X1 := Lib.hid X1
        have X2 := Lib.hid X2
        have X3 := Lib.hid X3
        have X4 := Lib.hid X4
        have X5 := Lib.hid X5
        have hb1 : b ≤ d1.size := by omega
        clear rot1 hI1 FIN
        have rc := IH.out a s M d1 w1 (by omega) (H1.out.lessReads HLESS.out) (by rw [hz1]; exact HSWP.out) H1.out.holds H1.out.hlt (by omega) (by omega) (by omega) (by omega) X2.out X3.out
        go_wp2_with fail
        refine rc.mono ?_
        rintro e w2 ⟨rfl, n2, os2, d2, ⟨p2, s2⟩, hw2⟩
        have hI2 : InS enc kk w blk off d.size w.heap.size (.func (.func g) #[] lb) (.func (.func sf) #[] sb) d2 w2 := by rw [hw2]; exact H1.out.on p2.1
        clear hw2 rc c0 c1
        have hz2 : d2.size = d.size := hI2.sz
        have c0 := hI2.c0
        have c1 := hI2.c1
        have Y4 := Lib.hid (sorted_other X4.out p2 (Or.inr (Nat.le_refl _)))
        have Y5 := Lib.hid (sorted_other X5.out p2 (Or.inr z6))
        have H2 := Lib.hid hI2
        have S2 := Lib.hid s2
        have P2 := Lib.hid p2
        clear hI2 s2 p2 X2 X3 X4 X5
        have s3 : SortedIn lt M b d2 := by have := Y5.out; rwa [show en = M by omega] at this
        have R := Lib.hid (halves_done (by omega) (by omega) hb1 X1.out P2.out S2.out (permIn_refl d2 M b) s3)
        clear c0 c1 s3
        go_wp2
        go_end0
        exact H2.out.post ⟨permIn_trans _ _ _ _ _ P1.out R.out.2, R.out.1⟩
      · have i1 : ¬ (s : Int) < (m : Int) := by omega
        have i3 : (a : Int) < (s : Int) := by omega
        have i4 : ¬ (s : Int) < (M : Int) := by omega
        have i5 : ¬ (M : Int) < (en : Int) := by omega
        obtain ⟨w1, rfl⟩ : ∃ w1, w1 = wr := ⟨_, rfl⟩
        obtain ⟨d1, hd1⟩ : ∃ d1, d1 = d := ⟨_, rfl⟩
        have rot1 : Rot d s m en d1 := by rw [hd1]; exact (by rw [show s = m by omega]; exact rot_refl_l d m en z3)
        have P1 : Hid (PermIn a b d d1) := Lib.hid (by rw [hd1]; exact permIn_refl _ _ _)
        have hI1 : InS enc kk w blk off d.size w.heap.size (.func (.func g) #[] lb) (.func (.func sf) #[] sb) d1 w1 := by rw [hd1]; exact HIS.out
        clear hd1 c0 c1
        obtain ⟨X1, X2, X3, X4, X5⟩ := FIN.out d1 rot1
        have hz1 : d1.size = d.size := hI1.sz
        have c0 := hI1.c0
        have c1 := hI1.c1
        have H1 := Lib.hid hI1
        have X1 := Lib.hid X1
        have X2 := Lib.hid X2
        have X3 := Lib.hid X3
        have X4 := Lib.hid X4
        have X5 := Lib.hid X5
        have hb1 : b ≤ d1.size := by omega
        clear rot1 hI1 FIN
        obtain ⟨w2, rfl⟩ : ∃ w2, w2 = w1 := ⟨_, rfl⟩
        obtain ⟨d2, hd2⟩ : ∃ d2, d2 = d1 := ⟨_, rfl⟩
        have s2 : SortedIn lt a M d2 := by rw [hd2]; have := X2.out; rwa [show s = M by omega] at this
        have p2 : PermIn a M d1 d2 := by rw [hd2]; exact permIn_refl _ _ _
        have hI2 : InS enc kk w blk off d.size w.heap.size (.func (.func g) #[] lb) (.func (.func sf) #[] sb) d2 w2 := by rw [hd2]; exact H1.out
        clear hd2 c0 c1
        have hz2 : d2.size = d.size := hI2.sz
        have c0 := hI2.c0
        have c1 := hI2.c1
        have Y4 := Lib.hid (sorted_other X4.out p2 (Or.inr (Nat.le_refl _)))
        have Y5 := Lib.hid (sorted_other X5.out p2 (Or.inr z6))
        have H2 := Lib.hid hI2
        have S2 := Lib.hid s2
        have P2 := Lib.hid p2
        clear hI2 s2 p2 X2 X3 X4 X5
        have s3 : SortedIn lt M b d2 := by have := Y5.out; rwa [show en = M by omega] at this
        have R := Lib.hid (halves_done (by omega) (by omega) hb1 X1.out P2.out S2.out (permIn_refl d2 M b) s3)
        clear c0 c1 s3
        go_wp2
        go_end0
        exact H2.out.post ⟨permIn_trans _ _ _ _ _ P1.out R.out.2, R.out.1⟩
      · have i1 : (s : Int) < (m : Int) := by omega
        have i2 : ¬ (m : Int) < (en : Int) := by omega
        have i3 : (a : Int) < (s : Int) := by omega
        have i4 : ¬ (s : Int) < (M : Int) := by omega
        have i5 : (M : Int) < (en : Int) := by omega
        have i6 : (en : Int) < (b : Int) := by omega
        obtain ⟨w1, rfl⟩ : ∃ w1, w1 = wr := ⟨_, rfl⟩
        obtain ⟨d1, hd1⟩ : ∃ d1, d1 = d := ⟨_, rfl⟩
        have rot1 : Rot d s m en d1 := by rw [hd1]; exact (by rw [show en = m by omega]; exact rot_refl_r d s m z2)
        have P1 : Hid (PermIn a b d d1) := Lib.hid (by rw [hd1]; exact permIn_refl _ _ _)
        have hI1 : InS enc kk w blk off d.size w.heap.size (.func (.func g) #[] lb) (.func (.func sf) #[] sb) d1 w1 := by rw [hd1]; exact HIS.out
        clear hd1 c0 c1
        obtain ⟨X1, X2, X3, X4, X5⟩ := FIN.out d1 rot1
        have hz1 : d1.size = d.size := hI1.sz
        have c0 := hI1.c0
        have c1 := hI1.c1
        have H1 := Lib.hid hI1
        have X1 := Lib.hid X1
        have X2 := Lib.hid X2
        have X3 := Lib.hid X3
        have X4 := Lib.hid X4
        have X5 := Lib.hid X5
        have hb1 : b ≤ d1.size := by omega
        clear rot1 hI1 FIN
        obtain ⟨w2, rfl⟩ : ∃ w2, w2 = w1 := ⟨_, rfl⟩
        obtain ⟨d2, hd2⟩ : ∃ d2, d2 = d1 := ⟨_, rfl⟩
        have s2 : SortedIn lt a M d2 := by rw [hd2]; have := X2.out; rwa [show s = M by omega] at this
        have p2 : PermIn a M d1 d2 := by rw [hd2]; exact permIn_refl _ _ _
        have hI2 : InS enc kk w blk off d.size w.heap.size (.func (.func g) #[] lb) (.func (.func sf) #[] sb) d2 w2 := by rw [hd2]; exact H1.out
        clear hd2 c0 c1
        have hz2 : d2.size = d.size := hI2.sz
        have c0 := hI2.c0
        have c1 := hI2.c1
        have Y4 := Lib.hid (sorted_other X4.out p2 (Or.inr (Nat.le_refl _)))
        have Y5 := Lib.hid (sorted_other X5.out p2 (Or.inr z6))
        have H2 := Lib.hid hI2
        have S2 := Lib.hid s2
        have P2 := Lib.hid p2
        clear hI2 s2 p2 X2 X3 X4 X5
        have rc := IH.out M en b d2 w2 (by omega) (H2.out.lessReads HLESS.out) (by rw [hz2]; exact HSWP.out) H2.out.holds H2.out.hlt (by omega) (by omega) (by omega) (by omega) Y4.out Y5.out
        go_wp2_with fail
        refine rc.mono ?_
        rintro e w3 ⟨rfl, n3, os3, d3, ⟨p3, s3⟩, hw3⟩
        have hI3 : InS enc kk w blk off d.size w.heap.size (.func (.func g) #[] lb) (.func (.func sf) #[] sb) d3 w3 := by rw [hw3]; exact H2.out.on p3.1
        have R := Lib.hid (halves_done (by omega) (by omega) hb1 X1.out P2.out S2.out p3 s3)
        have H3 := Lib.hid hI3
        clear hw3 rc c0 c1 H2 hI3 p3 s3
        go_wp2
        go_end0
        exact H3.out.post ⟨permIn_trans _ _ _ _ _ P1.out R.out.2, R.out.1⟩
end
end Go.Proofs.YtbnbjiddffihoaaGreatDoor

/- Walks over the library's stable sort: symMerge whole, and stable. -/
namespace Go.Proofs.YtbnbjiddffihoaaGreatDoor
open Go.RowKit Go.Sort Go.Lib

section
variable {α : Type} [Inhabited α] {enc : α → List Value} {kk : Nat} {lt : α → α → Bool}
variable (hk : ∀ x, (enc x).length = kk) (hS : SWO lt) (g : Nat) (lb : Array Value) (sf : Nat) (sb : Array Value)

include hk hS in
theorem symmerge_s (eg : ∀ args w, (callFunc g args).run Tryz.prog w = .ok (.enter g args) w) (blk off : Nat) : ∀ (N a m b : Nat) (d : Array α) (w : World), b - a ≤ N →
    LessG Tryz.prog g lb enc kk lt blk off d.size w → SwapSwapsK Tryz.prog sf sb enc kk blk off d.size → HoldsK enc kk w blk off d → blk < w.heap.size → a < m → m < b → b ≤ d.size → d.size < 4611686018427387904 →
    SortedIn lt a m d → SortedIn lt m b d →
    Calls Tryz.prog 154 #[dta g lb sf sb, .int .i64 a, .int .i64 m, .int .i64 b] w (SrtPost enc kk w blk off fun d' => PermIn a b d d' ∧ SortedIn lt a b d')
  | 0, a, m, b, d, w, hN, hless, hswap, hH, hblk, ham, hmb, hb, hsz, hl, hr => by omega
  | N + 1, a, m, b, d, w, hN, hless, hswap, hH, hblk, ham, hmb, hb, hsz, hl, hr => by
    by_cases c1 : m = a + 1
    · exact sym_left hk hS g lb sf sb eg blk off a m b d w hless hswap hH hblk c1 hmb hb hsz hr
    by_cases c2 : b = m + 1
    · exact sym_right hk hS g lb sf sb eg blk off a m b d w hless hswap hH hblk (by omega) c2 hb hsz hl
    by_cases c3 : m > (a + b) / 2
    · exact sym_gt hk hS g lb sf sb eg blk off N a m b d w hN (symmerge_s eg blk off N) hless hswap hH hblk (by omega) (by omega) hb hsz hl hr c3
    · exact sym_le hk hS g lb sf sb eg blk off N a m b d w hN (symmerge_s eg blk off N) hless hswap hH hblk (by omega) (by omega) hb hsz hl hr (by omega)

theorem mul_lt_step {p q C : Nat} (h : p < q) : p * C + C ≤ q * C := by
  have : (p + 1) * C ≤ q * C := Nat.mul_le_mul_right _ h
  rwa [Nat.succ_mul] at this
def HalfS (lt : α → α → Bool) (B n q : Nat) (d : Array α) : Prop := (∀ p, p < q → SortedIn lt (p * (2 * B)) (p * (2 * B) + 2 * B) d) ∧ ∀ p, 2 * q ≤ p → p * B ≤ n → SortedIn lt (p * B) (min (p * B + B) n) d
theorem half_two {B q A : Nat} (hA : A = q * (2 * B)) : (2 * q) * B = A ∧ (2 * q + 1) * B = A + B := by
  have h : (2 * q) * B = A := by rw [hA, Nat.mul_comm 2 q, Nat.mul_assoc]
  exact ⟨h, by rw [Nat.succ_mul, h]⟩
theorem half_first {B n q A : Nat} {d : Array α} (h : HalfS lt B n q d) (hA : A = q * (2 * B)) (hn : A + B ≤ n) : SortedIn lt A (A + B) d := by
  obtain ⟨e1, e2⟩ := half_two hA
  have := h.2 (2 * q) (Nat.le_refl _) (by omega)
  rwa [e1, Nat.min_eq_left hn] at this
theorem half_second {B n q A e : Nat} {d : Array α} (h : HalfS lt B n q d) (hA : A = q * (2 * B)) (hn : A + B ≤ n) (he : e = min (A + B + B) n) : SortedIn lt (A + B) e d := by
  obtain ⟨e1, e2⟩ := half_two hA
  have := h.2 (2 * q + 1) (by omega) (by omega)
  rwa [e2, ← he] at this
theorem half_step {B n q A : Nat} {d d' : Array α} (h : HalfS lt B n q d) (hA : A = q * (2 * B)) (hp : PermIn A (A + 2 * B) d d') (hs : SortedIn lt A (A + 2 * B) d') : HalfS lt B n (q + 1) d' := by
  obtain ⟨e1, e2⟩ := half_two hA
  refine ⟨fun p hpq => ?_, fun p hpq hpn => ?_⟩
  · rcases Nat.lt_or_ge p q with hlt | hge
    · exact sorted_other (h.1 p hlt) hp (Or.inl (by rw [hA]; exact mul_lt_step hlt))
    · obtain rfl : p = q := by omega
      rw [← hA]; exact hs
  · refine sorted_other (h.2 p (by omega) hpn) hp (Or.inr ?_)
    have : (2 * q + 2) * B ≤ p * B := Nat.mul_le_mul_right _ (by omega)
    rw [show 2 * q + 2 = 2 * q + 1 + 1 by omega, Nat.succ_mul, e2] at this
    omega
theorem half_done {B n q A : Nat} {d d' : Array α} (h : HalfS lt B n q d) (hA : A = q * (2 * B)) (hAn : A ≤ n) (hb : n < A + 2 * B) (hp : PermIn A n d d') (hs : SortedIn lt A n d') : ∀ p, p * (B * 2) ≤ n → SortedIn lt (p * (B * 2)) (min (p * (B * 2) + B * 2) n) d' := by
  intro p hpn
  rw [Nat.mul_comm B 2] at *
  rcases Nat.lt_trichotomy p q with hlt | rfl | hlt
  · have := mul_lt_step (C := 2 * B) hlt
    rw [Nat.min_eq_left (by omega)]
    exact sorted_other (h.1 p hlt) hp (Or.inl (by omega))
  · rw [← hA, Nat.min_eq_right (by omega)]; exact hs
  · have := mul_lt_step (C := 2 * B) hlt
    omega
def BlkS (lt : α → α → Bool) (B n : Nat) (d : Array α) : Prop := ∀ q, q * B ≤ n → SortedIn lt (q * B) (min (q * B + B) n) d

set_option maxHeartbeats 8000000 in
set_option maxRecDepth 100000 in
include hk hS in
theorem stable_s (eg : ∀ args w, (callFunc g args).run Tryz.prog w = .ok (.enter g args) w) (blk off n : Nat) (d : Array α) (w : World) (hn : d.size = n)
    (hless : LessG Tryz.prog g lb enc kk lt blk off d.size w) (hswap : SwapSwapsK Tryz.prog sf sb enc kk blk off d.size) (hH : HoldsK enc kk w blk off d) (hblk : blk < w.heap.size) (hsz : n < 1152921504606846976) :
    Calls Tryz.prog 135 #[dta g lb sf sb, .int .i64 n] w (SrtPost enc kk w blk off fun d' => PermIn 0 n d d' ∧ SortedIn lt 0 n d') := by
  have H0 := Lib.hid (InS.start (g := g) (lb := lb) (sf := sf) (sb := sb) hH hblk)
  have HLESS := Lib.hid hless
  have HSWP := Lib.hid hswap
  have HN := Lib.hid hn
  have hdn : d.size ≤ n := by omega
  have hdn2 : n ≤ d.size := by omega
  clear hless hswap hH hn
  go_enter Tryz.func135, Tryz.ntmps135
  go_wp2
  go_loopw [5, 6] (fun va vb wr => ∃ (q : Nat) (dk : Array α), va = .int .i64 ((q * 20 : Nat) : Int) ∧ vb = .int .i64 ((q * 20 + 20 : Nat) : Int) ∧ q * 20 ≤ n ∧ InS enc kk w blk off d.size w.heap.size (.func (.func g) #[] lb) (.func (.func sf) #[] sb) dk wr ∧ PermIn 0 n d dk ∧ (∀ p, p < q → SortedIn lt (p * 20) (p * 20 + 20) dk)) (fun va _ _ => n - (intOf va).toNat)
  case atStart => exact ⟨0, d, by simp, by simp, by omega, H0.out, permIn_refl _ _ _, by intro p hp; omega⟩
  case round =>
    obtain ⟨q, dk, rfl, rfl, hq, hI, hpm, hso⟩ := hrel
    have HI := Lib.hid hI
    have HPM := Lib.hid hpm
    have HSO := Lib.hid hso
    have c0 := hI.c0
    have c1 := hI.c1
    have hsk := hI.sz
    clear hI hpm hso
    obtain ⟨a, ha⟩ : ∃ a, a = q * 20 := ⟨_, rfl⟩
    rw [← ha]
    rw [← ha] at hq
    have HA := Lib.hid ha
    clear ha
    by_cases hlt : a + 20 ≤ n
    · have rc := insertion_s hk hS g lb sf sb eg blk off a (a + 20) dk wr (HI.out.lessReads HLESS.out) (by rw [hsk]; exact HSWP.out) HI.out.holds HI.out.hlt (by omega) (by omega) (by omega)
      have hle : ((a + 20 : Nat) : Int) ≤ (n : Int) := by omega
      go_wp2_with fail
      refine rc.mono ?_
      rintro e w1 ⟨rfl, n1, os1, d1, ⟨p1, s1⟩, hw1⟩
      have hI1 : InS enc kk w blk off d.size w.heap.size (.func (.func g) #[] lb) (.func (.func sf) #[] sb) d1 w1 := by rw [hw1]; exact HI.out.on p1.1
      have REL : Hid (∃ (q : Nat) (dk : Array α), Value.int .i64 ((a + 20 : Nat) : Int) = .int .i64 ((q * 20 : Nat) : Int) ∧ Value.int .i64 (((a + 20 : Nat) : Int) + 20) = .int .i64 ((q * 20 + 20 : Nat) : Int) ∧ q * 20 ≤ n ∧ InS enc kk w blk off d.size w.heap.size (.func (.func g) #[] lb) (.func (.func sf) #[] sb) dk w1 ∧ PermIn 0 n d dk ∧ (∀ p, p < q → SortedIn lt (p * 20) (p * 20 + 20) dk)) := Lib.hid (by
        have ha := HA.out
        refine ⟨q + 1, d1, by congr 2; omega, by congr 1; omega, by omega, hI1, permIn_trans _ _ _ _ _ HPM.out (permIn_mono _ _ _ _ _ _ (by omega) hlt (by omega) p1), fun p hp => ?_⟩
        rcases Nat.lt_or_ge p q with h | h
        · exact sorted_other (HSO.out p h) p1 (Or.inl (by omega))
        · obtain rfl : p = q := by omega
          rw [← ha]; exact s1)
      clear hw1 rc c0 c1 p1 s1 hI1
      go_wp2
      go_roundw
      case rel => exact REL.out
      case measure => simp [intOf]; omega
    · have rc := insertion_s hk hS g lb sf sb eg blk off a n dk wr (HI.out.lessReads HLESS.out) (by rw [hsk]; exact HSWP.out) HI.out.holds HI.out.hlt (by omega) (by omega) (by omega)
      have hle : ¬ ((a + 20 : Nat) : Int) ≤ (n : Int) := by omega
      go_wp2_with fail
      refine rc.mono ?_
      rintro e w1 ⟨rfl, n1, os1, d1, ⟨p1, s1⟩, hw1⟩
      have hI1 : InS enc kk w blk off d.size w.heap.size (.func (.func g) #[] lb) (.func (.func sf) #[] sb) d1 w1 := by rw [hw1]; exact HI.out.on p1.1
      have ST : Hid (InS enc kk w blk off d.size w.heap.size (.func (.func g) #[] lb) (.func (.func sf) #[] sb) d1 w1 ∧ PermIn 0 n d d1 ∧ BlkS lt 20 n d1) := Lib.hid (by
        have ha := HA.out
        refine ⟨hI1, permIn_trans _ _ _ _ _ HPM.out (permIn_mono _ _ _ _ _ _ (by omega) (by omega) (by omega) p1), fun p hp => ?_⟩
        rcases Nat.lt_or_ge p q with h | h
        · rw [Nat.min_eq_left (by omega)]
          exact sorted_other (HSO.out p h) p1 (Or.inl (by omega))
        · obtain rfl : p = q := by omega
          rw [Nat.min_eq_right (by omega), ← ha]; exact s1)
      clear hw1 rc c0 c1 p1 s1 hI1 HI HPM HSO hsk
      go_wp2
      go_loopw [4] (fun vB wr => ∃ (B : Nat) (dk : Array α), vB = .int .i64 B ∧ 20 ≤ B ∧ B < 2305843009213693952 ∧ InS enc kk w blk off d.size w.heap.size (.func (.func g) #[] lb) (.func (.func sf) #[] sb) dk wr ∧ PermIn 0 n d dk ∧ BlkS lt B n dk) (fun vB _ => n - (intOf vB).toNat)
      case atStart => exact ⟨20, d1, rfl, by omega, by omega, ST.out.1, ST.out.2.1, ST.out.2.2⟩
      case round =>
        clear ST
        obtain ⟨B, dk, rfl, hB, hB2, hI, hpm, hbs⟩ := hrel
        have HI := Lib.hid hI
        have HPM := Lib.hid hpm
        have HBS := Lib.hid hbs
        clear hI hpm hbs
        by_cases hlt : B < n
        · have hlti : (B : Int) < (n : Int) := by omega
          go_wp2
          go_loopw [5, 6] (fun va vb wr => ∃ (q A : Nat) (dj : Array α), va = .int .i64 (A : Int) ∧ vb = .int .i64 ((A : Int) + 2 * (B : Int)) ∧ A = q * (2 * B) ∧ A ≤ n ∧ InS enc kk w blk off d.size w.heap.size (.func (.func g) #[] lb) (.func (.func sf) #[] sb) dj wr ∧ PermIn 0 n d dj ∧ HalfS lt B n q dj) (fun va _ _ => n - (intOf va).toNat)
          case atStart => exact ⟨0, 0, dk, rfl, by simp, by simp, by omega, HI.out, HPM.out, ⟨by intro p hp; omega, fun p _ hp => HBS.out p hp⟩⟩
          case round =>
            clear HI HPM HBS
            obtain ⟨q, A, dj, rfl, rfl, hA, hAn, hI, hpm, hhs⟩ := hrel
            have HI := Lib.hid hI
            have HPM := Lib.hid hpm
            have HHS := Lib.hid hhs
            have HA := Lib.hid hA
            have c0 := hI.c0
            have c1 := hI.c1
            have hsj := hI.sz
            clear hI hpm hhs hA
            by_cases hle : A + 2 * B ≤ n
            · have hlei : (A : Int) + 2 * (B : Int) ≤ (n : Int) := by omega
              have rc := symmerge_s hk hS g lb sf sb eg blk off n A (A + B) (A + 2 * B) dj wr (by omega) (HI.out.lessReads HLESS.out) (by rw [hsj]; exact HSWP.out) HI.out.holds HI.out.hlt (by omega) (by omega) (by omega) (by omega) (half_first HHS.out HA.out (by omega)) (half_second HHS.out HA.out (by omega) (by omega))
              rw [show ((A + B : Nat) : Int) = (A : Int) + (B : Int) by omega, show ((A + 2 * B : Nat) : Int) = (A : Int) + 2 * (B : Int) by omega] at rc
              go_wp2_with fail
              refine rc.mono ?_
              rintro e w1 ⟨rfl, n1, os1, d1, ⟨p1, s1⟩, hw1⟩
              have hI1 : InS enc kk w blk off d.size w.heap.size (.func (.func g) #[] lb) (.func (.func sf) #[] sb) d1 w1 := by rw [hw1]; exact HI.out.on p1.1
              have REL : Hid (∃ (q A' : Nat) (dj : Array α), Value.int .i64 ((A : Int) + 2 * (B : Int)) = .int .i64 (A' : Int) ∧ Value.int .i64 ((A : Int) + 2 * (B : Int) + 2 * (B : Int)) = .int .i64 ((A' : Int) + 2 * (B : Int)) ∧ A' = q * (2 * B) ∧ A' ≤ n ∧ InS enc kk w blk off d.size w.heap.size (.func (.func g) #[] lb) (.func (.func sf) #[] sb) dj w1 ∧ PermIn 0 n d dj ∧ HalfS lt B n q dj) := Lib.hid
                ⟨q + 1, A + 2 * B, d1, by congr 1, by congr 1, by rw [Nat.add_mul, Nat.one_mul, ← HA.out], hle, hI1, permIn_trans _ _ _ _ _ HPM.out (permIn_mono _ _ _ _ _ _ (by omega) hle (by omega) p1), half_step HHS.out HA.out p1 s1⟩
              clear hw1 rc c0 c1 p1 s1 hI1
              go_wp2
              go_roundw
              case rel => exact REL.out
              case measure => simp [intOf]; omega
            · have hlei : ¬ (A : Int) + 2 * (B : Int) ≤ (n : Int) := by omega
              by_cases hm : A + B < n
              · have hmi : (A : Int) + (B : Int) < (n : Int) := by omega
                have rc := symmerge_s hk hS g lb sf sb eg blk off n A (A + B) n dj wr (by omega) (HI.out.lessReads HLESS.out) (by rw [hsj]; exact HSWP.out) HI.out.holds HI.out.hlt (by omega) (by omega) (by omega) (by omega) (half_first HHS.out HA.out (by omega)) (half_second HHS.out HA.out (by omega) (by omega))
                rw [show ((A + B : Nat) : Int) = (A : Int) + (B : Int) by omega] at rc
                go_wp2_with fail
                refine rc.mono ?_
                rintro e w1 ⟨rfl, n1, os1, d1, ⟨p1, s1⟩, hw1⟩
                have hI1 : InS enc kk w blk off d.size w.heap.size (.func (.func g) #[] lb) (.func (.func sf) #[] sb) d1 w1 := by rw [hw1]; exact HI.out.on p1.1
                have REL : Hid (∃ (B' : Nat) (dk : Array α), Value.int .i64 ((B : Int) * 2) = .int .i64 (B' : Int) ∧ 20 ≤ B' ∧ B' < 2305843009213693952 ∧ InS enc kk w blk off d.size w.heap.size (.func (.func g) #[] lb) (.func (.func sf) #[] sb) dk w1 ∧ PermIn 0 n d dk ∧ BlkS lt B' n dk) := Lib.hid
                  ⟨B * 2, d1, by congr 1, by omega, by omega, hI1, permIn_trans _ _ _ _ _ HPM.out (permIn_mono _ _ _ _ _ _ (by omega) (by omega) (by omega) p1), half_done HHS.out HA.out hAn (by omega) p1 s1⟩
                clear hw1 rc c0 c1 p1 s1 hI1
                go_wp2
                go_roundw
                case rel => exact REL.out
                case measure => simp [intOf]; omega
              · have hmi : ¬ (A : Int) + (B : Int) < (n : Int) := by omega
                have REL : Hid (∃ (B' : Nat) (dk : Array α), Value.int .i64 ((B : Int) * 2) = .int .i64 (B' : Int) ∧ 20 ≤ B' ∧ B' < 2305843009213693952 ∧ InS enc kk w blk off d.size w.heap.size (.func (.func g) #[] lb) (.func (.func sf) #[] sb) dk wr ∧ PermIn 0 n d dk ∧ BlkS lt B' n dk) := Lib.hid
                  ⟨B * 2, dj, by congr 1, by omega, by omega, HI.out, HPM.out, half_done HHS.out HA.out hAn (by omega) (permIn_refl _ _ _) (by
                    obtain ⟨e1, e2⟩ := half_two HA.out
                    have := HHS.out.2 (2 * q) (Nat.le_refl _) (by omega)
                    rwa [e1, Nat.min_eq_right (by omega)] at this)⟩
                clear c0 c1
                go_wp2
                go_roundw
                case rel => exact REL.out
                case measure => simp [intOf]; omega
        · have hge : ¬ (B : Int) < (n : Int) := by omega
          go_wp2
          go_end0
          refine HI.out.post ⟨HPM.out, ?_⟩
          have := HBS.out 0 (by omega)
          rwa [Nat.zero_mul, Nat.zero_add, Nat.min_eq_right (by omega)] at this
end
end Go.Proofs.YtbnbjiddffihoaaGreatDoor

/- The place of a class. -/
namespace Go.Proofs.YtbnbjiddffihoaaGreatDoor
open Go.RowKit

def idxC (C : List (List Nd)) (v : Nat) (h : Int) : Nat := C.findIdx fun c => sameN (headW c) v h
theorem idxC_le (C : List (List Nd)) (v : Nat) (h : Int) : idxC C v h ≤ C.length := List.findIdx_le_length
end Go.Proofs.YtbnbjiddffihoaaGreatDoor

/- A list of lists of nodes that the call itself makes. -/
namespace Go.Proofs.YtbnbjiddffihoaaGreatDoor
open Go.RowKit

theorem flatH (l : List Hdr) : l.flatMap encH = l.map Hdr.val := by
  induction l with
  | nil => rfl
  | cons c r ih => rw [List.flatMap_cons, ih]; rfl
theorem own_cellH {e : TypeId} {base : Nat} {w : World} {g n cap j : Nat} {l : List Hdr} {q : Hdr} (h : OwnL 1 encH e base w (.slice (some ⟨g, 0, none⟩) n cap) l) (hj : l[j]? = some q) :
    w.cell? ⟨g, j, none⟩ = some q.val ∧ w.frozen? ⟨g, j, none⟩ = false ∧ ∀ y : Hdr, OwnL 1 encH e base (w.setCell ⟨g, j, none⟩ y.val) (.slice (some ⟨g, 0, none⟩) n cap) (l.set j y) := by
  rcases h.2 with ⟨h1, _⟩ | ⟨g', cap', cur, e1, e2, e3, e4, e5, e6, e7⟩
  · cases h1
  · cases e1
    have hjl := (List.getElem?_eq_some_iff.1 hj).1
    have hjc : j < cur.size := by omega
    rw [flatH] at e7
    refine ⟨?_, ?_, fun y => ⟨?_, .inr ⟨g, cap, cur.setIfInBounds j y.val, by simp, e2, heap_set e3 j _, by simpa using e4, e5, by simpa using e6, ?_⟩⟩⟩
    · have hx : (cur.toList.take (l.length * 1))[j]? = some q.val := by
        rw [e7, List.getElem?_map, hj]; rfl
      rw [List.getElem?_take, if_pos (by omega)] at hx
      simpa [World.cell?, e3] using hx
    · simp [World.frozen?, e3]
    · rw [flatH]; simp
    · rw [flatH, List.length_set, Array.toList_setIfInBounds, List.take_set, e7, List.map_set]

def OwnQ (base : Nat) (w : World) (v : Value) (qs : List Hdr) (C : List (List Nd)) : Prop :=
  OwnL 1 encH 23 base w v qs ∧ qs.length = C.length ∧
  (∀ (j : Nat) (q : Hdr) (c : List Nd), qs[j]? = some q → C[j]? = some c → OwnL 3 encN 57 base w q.val c) ∧
  ∀ (i j : Nat) (qi qj : Hdr) (g : Nat), qs[i]? = some qi → qs[j]? = some qj → qi.val.ownBlock = some g → qj.val.ownBlock = some g → i = j
theorem OwnQ.nil (base : Nat) (w : World) : OwnQ base w (.slice none 0 0) [] [] := ⟨OwnL.nil _ _ _ _ _, rfl, by intro j q c h; simp at h, by intro i j qi qj g h; simp at h⟩
theorem OwnQ.nx {base : Nat} {w w' : World} {v : Value} {qs : List Hdr} {C : List (List Nd)} (h : OwnQ base w v qs C) (k : Ex w w') : OwnQ base w' v qs C :=
  ⟨h.1.nx k, h.2.1, fun j q c hq hc => (h.2.2.1 j q c hq hc).nx k, h.2.2.2⟩
theorem OwnQ.ne {base : Nat} {w : World} {v : Value} {qs : List Hdr} {C : List (List Nd)} (h : OwnQ base w v qs C) {j g : Nat} {q : Hdr} (hq : qs[j]? = some q) (hg : q.val.ownBlock = some g) : ¬ v.ownBlock = some g := by
  intro hv
  obtain ⟨c, hc⟩ : ∃ c, C[j]? = some c := ⟨C[j]'(by have := (List.getElem?_eq_some_iff.1 hq).1; have := h.2.1; omega), by simp⟩
  obtain ⟨_, cur, h1⟩ := (h.2.2.1 j q c hq hc).blk hg
  obtain ⟨_, cur', h2⟩ := h.1.blk hv
  rw [h1] at h2
  simp at h2
theorem OwnQ.lt {base : Nat} {w : World} {v : Value} {qs : List Hdr} {C : List (List Nd)} (h : OwnQ base w v qs C) {j g : Nat} {q : Hdr} (hq : qs[j]? = some q) (hg : q.val.ownBlock = some g) : g < w.heap.size := by
  obtain ⟨c, hc⟩ : ∃ c, C[j]? = some c := ⟨C[j]'(by have := (List.getElem?_eq_some_iff.1 hq).1; have := h.2.1; omega), by simp⟩
  obtain ⟨_, cur, h1⟩ := (h.2.2.1 j q c hq hc).blk hg
  exact heap_lt h1
theorem OwnQ.put {base : Nat} {w1 w2 : World} {g n cap k : Nat} {qs : List Hdr} {C : List (List Nd)} {q q' : Hdr} {c' : List Nd} (h : OwnQ base w1 (.slice (some ⟨g, 0, none⟩) n cap) qs C) (hq : qs[k]? = some q)
    (ho : OwnL 3 encN 57 base w2 q'.val c') (kk : Chg (fun x => x < w1.heap.size ∧ ¬ q.val.ownBlock = some x) w1 w2) (hat : q'.val.ownBlock = q.val.ownBlock ∨ q'.val.ownBlock = some w1.heap.size) :
    w2.cell? ⟨g, k, none⟩ = some q.val ∧ w2.frozen? ⟨g, k, none⟩ = false ∧ OwnQ base (w2.setCell ⟨g, k, none⟩ q'.val) (.slice (some ⟨g, 0, none⟩) n cap) (qs.set k q') (C.set k c') := by
  have hg1 : ∀ (j : Nat) (q : Hdr) (x : Nat), qs[j]? = some q → q.val.ownBlock = some x → x ≠ g := fun j q x hj hx he => h.ne hj hx (by rw [he]; rfl)
  have ho1 : OwnL 1 encH 23 base w2 (.slice (some ⟨g, 0, none⟩) n cap) qs := h.1.chg kk (fun x hx hv => ⟨hx, fun hh => h.ne hq hh hv⟩)
  obtain ⟨f1, f2, f3⟩ := own_cellH ho1 hq
  have hne' : ∀ x, q'.val.ownBlock = some x → x ≠ g := by
    intro x hx he
    obtain ⟨_, cur, e1⟩ := ho.blk hx
    obtain ⟨_, cur', e2⟩ := ho1.blk (g := g) rfl
    rw [he, e2] at e1
    simp at e1
  have hset : Chg (· ≠ g) w2 (w2.setCell ⟨g, k, none⟩ q'.val) := (Chg.refl _ w2).setCell _ (fun x hx => hx)
  have hkl := (List.getElem?_eq_some_iff.1 hq).1
  refine ⟨f1, f2, f3 q', by simp [h.2.1], fun j r c hr hc => ?_, fun i j qi qj x hi hj gi gj => ?_⟩
  · by_cases hjk : j = k
    · subst hjk
      rw [List.getElem?_set_self hkl] at hr
      rw [List.getElem?_set_self (by rw [← h.2.1]; exact hkl)] at hc
      cases hr
      cases hc
      exact ho.chg hset (fun x _ hv => hne' x hv)
    · rw [List.getElem?_set_ne (by omega)] at hr hc
      have o1 := h.2.2.1 j r c hr hc
      have o2 : OwnL 3 encN 57 base w2 r.val c := o1.chg kk (fun x hx hv => ⟨hx, fun hh => hjk (h.2.2.2 j k r q x hr hq hv hh)⟩)
      exact o2.chg hset (fun x _ hv => hg1 j r x hr hv)
  · have key : ∀ (j : Nat) (qj : Hdr), j ≠ k → qs[j]? = some qj → qj.val.ownBlock = some x → q'.val.ownBlock = some x → False := by
      intro j qj hjk hj gj gk
      rcases hat with h1 | h1
      · exact hjk (h.2.2.2 j k qj q x hj hq gj (h1 ▸ gk))
      · have := h.lt hj gj
        rw [h1] at gk
        cases gk
        omega
    by_cases hik : i = k
    · by_cases hjk : j = k
      · omega
      · exfalso
        subst hik
        rw [List.getElem?_set_self hkl] at hi
        cases hi
        rw [List.getElem?_set_ne (by omega)] at hj
        exact key j qj hjk hj gj gi
    · rw [List.getElem?_set_ne (by omega)] at hi
      by_cases hjk : j = k
      · exfalso
        subst hjk
        rw [List.getElem?_set_self hkl] at hj
        cases hj
        exact key i qi hik hi gi gj
      · rw [List.getElem?_set_ne (by omega)] at hj
        exact h.2.2.2 i j qi qj x hi hj gi gj
def padC (C : List (List Nd)) (k : Nat) : List (List Nd) := if k = C.length then C ++ [[]] else C
def stepC (h : Int) (C : List (List Nd)) (x : Nd) : List (List Nd) :=
  (padC C (idxC C x.word h)).set (idxC C x.word h) ((padC C (idxC C x.word h))[idxC C x.word h]?.getD [] ++ [x])
end Go.Proofs.YtbnbjiddffihoaaGreatDoor

/- What the walks over Classes have in common. -/
namespace Go.Proofs.YtbnbjiddffihoaaGreatDoor
open Go.RowKit

theorem OwnQ.ne_blk {base g : Nat} {w : World} {v : Value} {qs : List Hdr} {C : List (List Nd)} {cs : List Value} (h : OwnQ base w v qs C) (b : Blk w g cs 57) : ¬ v.ownBlock = some g := by
  intro hv
  obtain ⟨_, cur, e⟩ := h.1.blk hv
  unfold Blk at b
  rw [b] at e
  simp at e
theorem Blk.chg {w w' : World} {g : Nat} {cs : List Value} {ty : TypeId} {S : Nat → Prop} (h : Blk w g cs ty) (k : Chg S w w') (hs : S g) : Blk w' g cs ty := (k.block g hs).trans h
end Go.Proofs.YtbnbjiddffihoaaGreatDoor

/- Classes of the reference. -/
namespace Go.Proofs.YtbnbjiddffihoaaGreatDoor
open Go.RowKit

end Go.Proofs.YtbnbjiddffihoaaGreatDoor

/- Find, Through, Neighbours, Height of the reference. -/
namespace Go.Proofs.YtbnbjiddffihoaaGreatDoor
open Go.RowKit

def Nd.val (x : Nd) : Value := .agg #[.int .i64 x.id, .string x.key, .int .u32 x.word]
def Nd.zero : Nd := ⟨0, ⟨#[]⟩, 0⟩
theorem bytesLess_total : ∀ x y : List UInt8, Op.bytesLess x y = false → Op.bytesLess y x = false → x = y
  | [], [], _, _ => rfl
  | [], b :: y, h, _ => by simp [Op.bytesLess] at h
  | a :: x, [], _, h => by simp [Op.bytesLess] at h
  | a :: x, b :: y, h1, h2 => by
    simp only [Op.bytesLess, Bool.or_eq_false_iff, Bool.and_eq_false_iff, decide_eq_false_iff_not, beq_eq_false_iff_ne] at h1 h2
    have hab : a = b := by
      rcases UInt8.lt_or_le a b with h | h
      · exact absurd h h1.1
      · rcases UInt8.lt_or_eq_of_le h with h | h
        · exact absurd h h2.1
        · exact h.symm
    subst hab
    rw [bytesLess_total x y (h1.2.resolve_left (by simp)) (h2.2.resolve_left (by simp))]
theorem insN_mem (out : List Nd) (x y : Nd) : y ∈ insN out x ↔ y ∈ out ∨ y = x := by
  unfold insN
  rw [List.mem_append, List.mem_cons]
  constructor
  · rintro (h | h | h)
    · exact .inl (List.mem_of_mem_take h)
    · exact .inr h
    · exact .inl (List.mem_of_mem_drop h)
  · rintro (h | h)
    · have : y ∈ out.take (atN out x out.length) ++ out.drop (atN out x out.length) := by rw [List.take_append_drop]; exact h
      rcases List.mem_append.1 this with h | h
      · exact .inl h
      · exact .inr (.inr h)
    · exact .inr (.inl h)
theorem sortN_mem (l : List Nd) (y : Nd) : y ∈ sortN l ↔ y ∈ l := by
  have : ∀ (l out : List Nd), y ∈ l.foldl insN out ↔ y ∈ out ∨ y ∈ l := by
    intro l
    induction l with
    | nil => intro out; simp
    | cons x r ih => intro out; rw [List.foldl_cons, ih, insN_mem, List.mem_cons, or_assoc]
  have := this l []
  simpa [sortN] using this

def findN (l : List Nd) (id : Int) : Nd × Bool := match l.find? (fun x => x.id == id) with | some x => (x, true) | none => (Nd.zero, false)
theorem findN_of {l : List Nd} {id : Int} {k : Nat} {y : Nd} (hy : l[k]? = some y) (he : y.id = id) (hno : ∀ j z, j < k → l[j]? = some z → z.id ≠ id) : findN l id = (y, true) := by
  have hk := (List.getElem?_eq_some_iff.1 hy).1
  have : l.find? (fun x => x.id == id) = some y := by
    rw [List.find?_eq_some_iff_getElem]
    refine ⟨by simpa using he, k, hk, (List.getElem?_eq_some_iff.1 hy).2, fun j hj => ?_⟩
    have := hno j l[j] hj (by simp)
    simpa using this
  unfold findN
  rw [this]
theorem findN_none {l : List Nd} {id : Int} (hno : ∀ j z, j < l.length → l[j]? = some z → z.id ≠ id) : findN l id = (Nd.zero, false) := by
  have : l.find? (fun x => x.id == id) = none := by
    rw [List.find?_eq_none]
    intro x hx
    obtain ⟨j, hj, he⟩ := List.mem_iff_getElem.1 hx
    have := hno j x hj (by rw [← he]; simp)
    simpa using this
  unfold findN
  rw [this]
def FdRel (l : List Nd) (id : Int) (w : World) (i : Value) (wr : World) : Prop :=
  ∃ k : Nat, k ≤ l.length ∧ i = .int .i64 k ∧ Ex w wr ∧ ∀ j z, j < k → l[j]? = some z → z.id ≠ id

set_option maxHeartbeats 1000000 in
theorem find_r (a : Option Addr) (n cp : Nat) (l : List Nd) (id : Int) (w : World) (h : Sl 3 encN w a n l) (hn : n ≤ 1000000) :
    Calls Tryz.prog 65 #[.slice a n cp, .int .i64 id] w fun e w' => e = .returned (.tuple #[(findN l id).1.val, .bool (findN l id).2]) ∧ Ex w w' := by
  have HL := Lib.hid h.len
  have hs := Lib.hid h
  have k1 := Ex.new w (.cells #[.int .i64 0, .string ⟨#[]⟩, .int .u32 0] 57)
  have B1 := Blk.new w [.int .i64 0, .string ⟨#[]⟩, .int .u32 0] 57
  obtain ⟨w1, hw1⟩ : ∃ w1, w1 = w.alloc (.cells #[.int .i64 0, .string ⟨#[]⟩, .int .u32 0] 57) := ⟨_, rfl⟩
  obtain ⟨g, hg⟩ : ∃ g, g = w.heap.size := ⟨_, rfl⟩
  have B1 : Blk w1 g [.int .i64 0, .string ⟨#[]⟩, .int .u32 0] 57 := by rw [hw1, hg]; exact B1
  rw [← hw1] at k1
  have hgn : w.heap.size ≤ g := by omega
  have HW1 := Lib.hid hw1
  have HG := Lib.hid hg
  clear h hw1 hg
  go_enter Tryz.func65, Tryz.ntmps65
  go_upto_region 1 with fail
  rw [← HG.out, ← HW1.out]
  go_wp2_with fail
  go_loopw [6] (fun i wr => FdRel l id w1 i wr) (fun i _ => n - (intOf i).toNat)
  case atStart => exact ⟨0, by omega, rfl, Ex.refl _, by intro _ _ h; omega⟩
  case round =>
    obtain ⟨k, hk, rfl, kw, hno⟩ := hrel
    have HNO := Lib.hid hno
    rw [HL.out] at hk
    clear hno
    obtain ⟨wo, rfl⟩ : ∃ wo : World, wo = wr := ⟨_, rfl⟩
    have B := B1.nx kw
    have q0 := B.cell 0 _ rfl
    have q1 := B.cell 1 _ rfl
    have q2 := B.cell 2 _ rfl
    have z0 := B.free 0
    have z1 := B.free 1
    have z2 := B.free 2
    by_cases hlt : k < n
    · obtain ⟨x1, o1, y, rfl, hx1, hy, hc1⟩ := ((hs.out.nx k1).nx kw).at hlt
      have e0 : wo.cell? ⟨x1, o1 + k * 3, none⟩ = some (.int .i64 y.id) := hc1 0 _ rfl
      have e1 : wo.cell? ⟨x1, o1 + k * 3 + 1, none⟩ = some (.string y.key) := hc1 1 _ rfl
      have e2 : wo.cell? ⟨x1, o1 + k * 3 + 1 + 1, none⟩ = some (.int .u32 y.word) := by simpa [Nat.add_assoc] using hc1 2 _ rfl
      have HY := Lib.hid hy
      have BO := Lib.hid B
      clear hy hc1 B B1
      by_cases hid : y.id = id
      · have HF : Hid (findN l id = (y, true)) := Lib.hid (findN_of HY.out hid HNO.out)
        have d1 : (y.id == id) = true := by simpa using hid
        clear hid
        go_wp2_with fail
        refine bodyPost_ret (v := .tuple #[.agg #[.int .i64 y.id, .string y.key, .int .u32 y.word], .bool true]) (by simp [results, Tryz.results65, go_sem, *]) rfl ⟨by rw [HF.out]; rfl, ?_⟩
        exact (((k1.nx kw).setNew (p := ⟨g, 0, none⟩) _ hgn).setNew (p := ⟨g, 1, none⟩) _ hgn).setNew (p := ⟨g, 2, none⟩) _ hgn
      · have d1 : (y.id == id) = false := by simpa using hid
        have HID := Lib.hid hid
        clear hid q0 q1 q2 z0 z1 z2
        go_wp2_with fail
        refine ⟨⟨k + 1, by rw [HL.out]; omega, by go_num, kw, fun j z hj hz => ?_⟩, by simp [intOf]; omega⟩
        rcases Nat.lt_or_ge j k with h | h
        · exact HNO.out j z h hz
        · obtain rfl : j = k := by omega
          rw [Option.some.inj (hz.symm.trans HY.out)]
          exact HID.out
    · have HF : Hid (findN l id = (Nd.zero, false)) := Lib.hid (findN_none (fun j z hj hz => HNO.out j z (by have := HL.out; omega) hz))
      clear B1
      go_wp2_with fail
      refine bodyPost_ret (v := .tuple #[.agg #[.int .i64 0, .string ⟨#[]⟩, .int .u32 0], .bool false]) (by simp [results, Tryz.results65, go_sem, *]) rfl ⟨by rw [HF.out]; rfl, ?_⟩
      exact (((k1.nx kw).setNew (p := ⟨g, 0, none⟩) _ hgn).setNew (p := ⟨g, 1, none⟩) _ hgn).setNew (p := ⟨g, 2, none⟩) _ hgn

def lvlN (h : Int) : Bool := decide (0 ≤ h) && decide (h ≤ 16)
theorem level_r (h : Int) (w : World) : Calls Tryz.prog 85 #[.int .i64 h] w fun e w' => e = .returned (.bool (lvlN h)) ∧ w = w' := by
  go_enter Tryz.func85, Tryz.ntmps85
  by_cases h0 : 0 ≤ h
  · have HV : Hid (lvlN h = decide (h ≤ 16)) := Lib.hid (by unfold lvlN; simp [h0])
    go_wp2
    go_ret
    exact ⟨by rw [HV.out]; rfl, rfl⟩
  · have HV : Hid (lvlN h = false) := Lib.hid (by unfold lvlN; simp [h0])
    go_wp2
    go_ret
    exact ⟨by rw [HV.out]; rfl, rfl⟩

theorem sort_word {l : List Nd} (hw : ∀ x ∈ l, x.word < 4294967296) : ∀ x ∈ sortN l, x.word < 4294967296 := fun x hx => hw x ((sortN_mem l x).1 hx)
end Go.Proofs.YtbnbjiddffihoaaGreatDoor

/- The order of nodes, and the sorted list of nodes, in plain Lean. -/
namespace Go.Proofs.YtbnbjiddffihoaaGreatDoor
open Go.RowKit

def ltN (a b : Nd) : Bool := Op.bytesLess a.key.toList b.key.toList || (a.key.toList == b.key.toList && decide (a.id < b.id))
theorem bl_trans {x y z : List UInt8} (h1 : Op.bytesLess x y = true) (h2 : Op.bytesLess y z = true) : Op.bytesLess x z = true := by
  rw [bytesLess_eq] at *
  simp only [decide_eq_true_eq] at *
  exact List.lt_trans h1 h2
theorem bl_asymm {x y : List UInt8} (h : Op.bytesLess x y = true) : Op.bytesLess y x = false := by
  cases h2 : Op.bytesLess y x with
  | false => rfl
  | true =>
    have h3 := bl_trans h h2
    rw [bytesLess_irrefl] at h3
    cases h3
theorem bl_tri (x y : List UInt8) : (Op.bytesLess x y = true ∧ Op.bytesLess y x = false ∧ x ≠ y) ∨ (x = y ∧ Op.bytesLess x y = false ∧ Op.bytesLess y x = false) ∨ (Op.bytesLess y x = true ∧ Op.bytesLess x y = false ∧ x ≠ y) := by
  cases h1 : Op.bytesLess x y with
  | true => exact .inl ⟨rfl, bl_asymm h1, fun he => by rw [he, bytesLess_irrefl] at h1; cases h1⟩
  | false =>
    cases h2 : Op.bytesLess y x with
    | true => exact .inr (.inr ⟨rfl, rfl, fun he => by rw [he, bytesLess_irrefl] at h2; cases h2⟩)
    | false => exact .inr (.inl ⟨bytesLess_total x y h1 h2, rfl, rfl⟩)
theorem ltN_iff (a b : Nd) : ltN a b = true ↔ Op.bytesLess a.key.toList b.key.toList = true ∨ (a.key.toList = b.key.toList ∧ a.id < b.id) := by
  unfold ltN; simp
theorem ltN_no (a b : Nd) : ltN a b = false ↔ Op.bytesLess b.key.toList a.key.toList = true ∨ (a.key.toList = b.key.toList ∧ b.id ≤ a.id) := by
  rw [← Bool.not_eq_true, ltN_iff]
  rcases bl_tri a.key.toList b.key.toList with ⟨h1, h2, h3⟩ | ⟨h1, h2, h3⟩ | ⟨h1, h2, h3⟩
  · simp [h1, h2, h3]
  · simp [h1, bytesLess_irrefl]
  · simp [h1, h2, h3]
theorem gtN_lt (a b : Nd) : gtN a b = ltN b a := by
  unfold gtN ltN
  rcases bl_tri a.key.toList b.key.toList with ⟨h1, h2, h3⟩ | ⟨h1, h2, h3⟩ | ⟨h1, h2, h3⟩
  · have e1 : (a.key.toList == b.key.toList) = false := by rw [beq_eq_false_iff_ne]; exact h3
    have e2 : (b.key.toList == a.key.toList) = false := by rw [beq_eq_false_iff_ne]; exact fun h => h3 h.symm
    rw [h1, h2, e1, e2]; rfl
  · simp [h1, bytesLess_irrefl]
  · have e1 : (a.key.toList == b.key.toList) = false := by rw [beq_eq_false_iff_ne]; exact h3
    have e2 : (b.key.toList == a.key.toList) = false := by rw [beq_eq_false_iff_ne]; exact fun h => h3 h.symm
    rw [h1, h2, e1, e2]; rfl
theorem swo_ltN : Sort.SWO ltN where
  irrefl x := by unfold ltN; simp [bytesLess_irrefl]
  trans x y z h1 h2 := by
    rw [ltN_iff] at *
    rcases h1 with h1 | ⟨h1, h1'⟩ <;> rcases h2 with h2 | ⟨h2, h2'⟩
    · exact .inl (bl_trans h1 h2)
    · exact .inl (by rw [← h2]; exact h1)
    · exact .inl (by rw [h1]; exact h2)
    · exact .inr ⟨h1.trans h2, by omega⟩
  ntrans x y z h1 h2 := by
    rw [ltN_no] at *
    rcases h1 with h1 | ⟨h1, h1'⟩ <;> rcases h2 with h2 | ⟨h2, h2'⟩
    · exact .inl (bl_trans h2 h1)
    · exact .inl (by rw [← h2]; exact h1)
    · exact .inl (by rw [h1]; exact h2)
    · exact .inr ⟨h1.trans h2, by omega⟩
def AscN (l : List Nd) : Prop := l.Pairwise fun x y => ltN y x = false
theorem atN_spec (out : List Nd) (x : Nd) (h : AscN out) : ∀ n, n ≤ out.length → (∀ j y, n ≤ j → out[j]? = some y → ltN x y = true) →
    (∀ j y, atN out x n ≤ j → out[j]? = some y → ltN x y = true) ∧ (∀ j y, j < atN out x n → out[j]? = some y → ltN x y = false)
  | 0, _, h1 => ⟨h1, by intro j y hj; unfold atN at hj; omega⟩
  | n + 1, hn, h1 => by
    have hy : out[n]? = some out[n] := List.getElem?_eq_getElem (by omega)
    unfold atN
    rw [hy]
    simp only
    split
    · rename_i hg
      rw [gtN_lt] at hg
      refine atN_spec out x h n (by omega) fun j y hj hjy => ?_
      rcases Nat.lt_or_ge n j with h2 | h2
      · exact h1 j y h2 hjy
      · obtain rfl : j = n := by omega
        rw [hy] at hjy
        cases hjy
        exact hg
    · rename_i hg
      rw [gtN_lt] at hg
      have hg : ltN x out[n] = false := by simpa using hg
      refine ⟨h1, fun j y hj hjy => ?_⟩
      rcases Nat.lt_or_ge j n with h2 | h2
      · have hj' := List.getElem?_eq_some_iff.1 hjy
        have := List.pairwise_iff_getElem.1 h j n hj'.1 (by omega) h2
        rw [hj'.2] at this
        exact swo_ltN.ntrans _ _ _ hg this
      · obtain rfl : j = n := by omega
        rw [hy] at hjy
        cases hjy
        exact hg
theorem insN_asc {out : List Nd} (x : Nd) (h : AscN out) : AscN (insN out x) := by
  obtain ⟨h1, h2⟩ := atN_spec out x h out.length (Nat.le_refl _) (by intro j y hj hjy; have := (List.getElem?_eq_some_iff.1 hjy).1; omega)
  unfold insN AscN
  have ha : (out.take (atN out x out.length) ++ out.drop (atN out x out.length)).Pairwise fun x y => ltN y x = false := by rw [List.take_append_drop]; exact h
  rw [List.pairwise_append] at ha ⊢
  refine ⟨ha.1, List.pairwise_cons.2 ⟨fun y hy => ?_, ha.2.1⟩, fun y hy z hz => ?_⟩
  · obtain ⟨j, hj⟩ := List.mem_iff_getElem?.1 hy
    rw [List.getElem?_drop] at hj
    exact swo_ltN.asymmA (h1 _ y (by omega) hj)
  · rcases List.mem_cons.1 hz with rfl | hz
    · obtain ⟨j, hj⟩ := List.mem_iff_getElem?.1 hy
      rw [List.getElem?_take] at hj
      split at hj
      · exact h2 j y (by assumption) hj
      · cases hj
    · exact ha.2.2 y hy z hz
theorem insN_perm (out : List Nd) (x : Nd) : (insN out x).Perm (x :: out) := by
  unfold insN
  have h := List.perm_middle (a := x) (l₁ := out.take (atN out x out.length)) (l₂ := out.drop (atN out x out.length))
  rw [List.take_append_drop] at h
  exact h
theorem fold_asc : ∀ (l out : List Nd), AscN out → AscN (l.foldl insN out)
  | [], _, h => h
  | x :: r, out, h => fold_asc r _ (insN_asc x h)
theorem fold_perm : ∀ (l out : List Nd), (l.foldl insN out).Perm (l ++ out)
  | [], _ => List.Perm.refl _
  | x :: r, out => by
    rw [List.foldl_cons, List.cons_append]
    exact (fold_perm r _).trans (((insN_perm out x).append_left r).trans List.perm_middle)
theorem sortN_asc (l : List Nd) : AscN (sortN l) := fold_asc l [] List.Pairwise.nil
theorem sortN_perm (l : List Nd) : (sortN l).Perm l := by
  have := fold_perm l []
  rwa [List.append_nil] at this
def KeysN (l : List Nd) : Prop := ∀ (i k : Nat) (x y : Nd), k < i → l[i]? = some x → l[k]? = some y → x.key ≠ y.key ∧ x.id ≠ y.id
theorem check_keys {l : List Nd} (h : checkN l = 0) : KeysN l := by
  unfold checkN at h
  split at h
  · omega
  · split at h
    · omega
    · split at h
      · omega
      · rename_i hd
        intro i k x y hk hx hy
        have : ¬ eqN x y = true := fun he => hd ((dupN_iff l).2 ⟨i, k, x, y, hk, hx, hy, he⟩)
        unfold eqN at this
        simp only [Bool.or_eq_true, beq_iff_eq, not_or] at this
        exact ⟨fun he => this.2 (by rw [he]), this.1⟩
theorem keys_eq {l : List Nd} (h : KeysN l) {x y : Nd} (hx : x ∈ l) (hy : y ∈ l) (he : x.key.toList = y.key.toList) : x = y := by
  obtain ⟨i, hi⟩ := List.mem_iff_getElem?.1 hx
  obtain ⟨k, hk⟩ := List.mem_iff_getElem?.1 hy
  have hke : x.key = y.key := by
    rw [ByteArray.toList_eq, ByteArray.toList_eq] at he
    exact ByteArray.ext (Array.toList_inj.1 he)
  rcases Nat.lt_trichotomy i k with hlt | rfl | hlt
  · exact absurd hke.symm (h k i y x hlt hk hi).1
  · exact Option.some.inj (hi.symm.trans hk)
  · exact absurd hke (h i k x y hlt hi hk).1
theorem ids_eq {l : List Nd} (h : KeysN l) {x y : Nd} (hx : x ∈ l) (hy : y ∈ l) (he : x.id = y.id) : x = y := by
  obtain ⟨i, hi⟩ := List.mem_iff_getElem?.1 hx
  obtain ⟨k, hk⟩ := List.mem_iff_getElem?.1 hy
  rcases Nat.lt_trichotomy i k with hlt | rfl | hlt
  · exact absurd he.symm (h k i y x hlt hk hi).2
  · exact Option.some.inj (hi.symm.trans hk)
  · exact absurd he (h i k x y hlt hi hk).2
theorem sortN_unique {l S : List Nd} (hk : KeysN l) (hp : S.Perm l) (hs : AscN S) : S = sortN l := by
  refine List.Perm.eq_of_pairwise (le := fun x y => ltN y x = false) ?_ hs (sortN_asc l) (hp.trans (sortN_perm l).symm)
  intro a b ha hb h1 h2
  have ha := hp.mem_iff.1 ha
  have hb := (sortN_mem l b).1 hb
  rw [ltN_no] at h1 h2
  rcases h1 with h1 | ⟨h1, _⟩
  · rcases h2 with h2 | ⟨h2, _⟩
    · rw [bl_asymm h1] at h2; cases h2
    · exact keys_eq hk ha hb h2
  · exact (keys_eq hk hb ha h1).symm
end Go.Proofs.YtbnbjiddffihoaaGreatDoor

/- The comparison of Sort of the package roster. -/
namespace Go.Proofs.YtbnbjiddffihoaaGreatDoor
open Go.RowKit Go.Sort Go.Lib

instance : Inhabited Nd := ⟨Nd.zero⟩

set_option maxRecDepth 100000 in
set_option maxHeartbeats 4000000 in
theorem less_n (blk off B n c i j : Nat) (x y : Nd) (w : World) (hb : w.cell? ⟨B, 0, none⟩ = some (.slice (some ⟨blk, off, none⟩) n c)) (hi : i < n) (hj : j < n) (hn : n < 4611686018427387904)
    (x0 : w.cell? ⟨blk, off + i * 3, none⟩ = some (.int .i64 x.id)) (x1 : w.cell? ⟨blk, off + i * 3 + 1, none⟩ = some (.string x.key)) (x2 : w.cell? ⟨blk, off + i * 3 + 2, none⟩ = some (.int .u32 x.word))
    (y0 : w.cell? ⟨blk, off + j * 3, none⟩ = some (.int .i64 y.id)) (y1 : w.cell? ⟨blk, off + j * 3 + 1, none⟩ = some (.string y.key)) (y2 : w.cell? ⟨blk, off + j * 3 + 2, none⟩ = some (.int .u32 y.word)) :
    Calls Tryz.prog 113 #[.int .i64 i, .int .i64 j, .pointer (some ⟨B, 0, none⟩)] w fun e w' => e = .returned (.bool (ltN x y)) ∧ ∃ (q : Nat) (o1 o2 : Obj), w' = ((w.drewN q).alloc o1).alloc o2 := by
  have hil : (i : Int) < (n : Int) := by omega
  have hjl : (j : Int) < (n : Int) := by omega
  have hi0 : (0 : Int) ≤ (i : Int) := by omega
  have hj0 : (0 : Int) ≤ (j : Int) := by omega
  have nb := World.new_ne w _ hb
  have nx0 := World.new_ne w _ x0
  have ny0 := World.new_ne w _ y0
  go_enter Tryz.func113, Tryz.ntmps113
  go_wp2
  go_region_held3 (fun w' => w'.cell? ⟨B, 0, none⟩ = some (.slice (some ⟨blk, off, none⟩) n c) ∧ w'.cell? ⟨blk, off + i * 3, none⟩ = some (.int .i64 x.id) ∧ w'.cell? ⟨blk, off + i * 3 + 1, none⟩ = some (.string x.key) ∧ w'.cell? ⟨blk, off + i * 3 + 2, none⟩ = some (.int .u32 x.word) ∧ w'.cell? ⟨blk, off + j * 3, none⟩ = some (.int .i64 y.id) ∧ w'.cell? ⟨blk, off + j * 3 + 1, none⟩ = some (.string y.key) ∧ w'.cell? ⟨blk, off + j * 3 + 2, none⟩ = some (.int .u32 y.word))
    (go_keep) (fail)
  all_goals
    cases h1 : Op.bytesLess x.key.toList y.key.toList with
    | true =>
      have HL : Hid (ltN x y = true) := Lib.hid (by unfold ltN; rw [h1]; rfl)
      go_wp2
      go_ret
      exact ⟨by rw [HL.out]; rfl, 1, _, _, rfl⟩
    | false =>
      cases h2 : (x.key.toList == y.key.toList) with
      | false =>
        have HL : Hid (ltN x y = false) := Lib.hid (by unfold ltN; rw [h1, h2]; rfl)
        go_wp2
        go_ret
        exact ⟨by rw [HL.out]; rfl, 1, _, _, rfl⟩
      | true =>
        by_cases h3 : x.id < y.id
        · have HL : Hid (ltN x y = true) := Lib.hid (by unfold ltN; rw [h1, h2, decide_eq_true h3]; rfl)
          go_wp2
          go_ret
          exact ⟨by rw [HL.out]; rfl, 1, _, _, rfl⟩
        · have HL : Hid (ltN x y = false) := Lib.hid (by unfold ltN; rw [h1, h2, decide_eq_false h3]; rfl)
          go_wp2
          go_ret
          exact ⟨by rw [HL.out]; rfl, 1, _, _, rfl⟩
end Go.Proofs.YtbnbjiddffihoaaGreatDoor

/- The comparison of Sort of the package roster in the worlds of the sort; a copy of a list of nodes. -/
namespace Go.Proofs.YtbnbjiddffihoaaGreatDoor
open Go.RowKit Go.Sort Go.Lib

theorem lessg_n (blk off B n c : Nat) (d : Array Nd) (w : World) (hd : d.size = n) (hH : HoldsK encN 3 w blk off d) (hblk : blk < w.heap.size) (hbox : w.cell? ⟨B, 0, none⟩ = some (.slice (some ⟨blk, off, none⟩) n c)) (hne : B ≠ blk) (hn : n < 4611686018427387904) :
    LessG Tryz.prog 113 #[.pointer (some ⟨B, 0, none⟩)] encN 3 ltN blk off d.size w := by
  intro m os dk hs i j hi hj
  have hB : B < w.heap.size := World.block_lt_of_cell? w _ hbox
  have hHk : HoldsK encN 3 (sortWorldK encN 3 w blk off m dk os) blk off dk := holdsK_sortWorldK encN 3 w blk off m d dk os hblk hH hs
  have hb : (sortWorldK encN 3 w blk off m dk os).cell? ⟨B, 0, none⟩ = some (.slice (some ⟨blk, off, none⟩) n c) := by
    unfold sortWorldK
    rw [cell?_grow _ _ _ (by rw [size_putRowK]; exact hB), cell?_putRowK_other encN 3 _ blk off _ _ hne]
    exact hbox
  refine (less_n blk off B n c i j dk[i]! dk[j]! _ hb (by omega) (by omega) hn (hHk.cell (i := i) (c := 0) (by omega) (by omega)).1 (hHk.cell (i := i) (c := 1) (by omega) (by omega)).1 (hHk.cell (i := i) (c := 2) (by omega) (by omega)).1
    (hHk.cell (i := j) (c := 0) (by omega) (by omega)).1 (hHk.cell (i := j) (c := 1) (by omega) (by omega)).1 (hHk.cell (i := j) (c := 2) (by omega) (by omega)).1).mono ?_
  rintro e w' ⟨rfl, q, o1, o2, rfl⟩
  refine ⟨rfl, q, #[o1, o2], ?_⟩
  rw [sortWorldK_drewN, alloc_eq_grow, alloc_eq_grow, grow_grow]
  unfold sortWorldK
  rw [grow_grow]
  rfl

set_option maxRecDepth 100000 in
set_option maxHeartbeats 2000000 in
theorem clone_n (a : Option Addr) (n c : Nat) (l : List Nd) (w : World) (h : Sl 3 encN w a n l) (hn : n ≤ 1000) :
    Calls Tryz.prog 112 #[.slice a n c] w fun e w' => ∃ v, e = .returned v ∧ OwnL 3 encN 57 w.heap.size w' v l ∧ Ex w w' := by
  have HL := Lib.hid h.len
  cases a with
  | none =>
    have hn0 : n = 0 := by
      rcases h.2 with h0 | ⟨x, o, e, _⟩
      · exact h0
      · cases e
    have hl : l = [] := List.eq_nil_of_length_eq_zero (HL.out.trans hn0)
    subst hn0 hl
    clear h HL
    have hq : ∀ w : World, (binOp .eql 23 (.slice none 0 c) (.slice none 0 0)).run Tryz.prog w = .ok (.bool true) w := fun w => Lib.run_eql_slice_nil w 23 57 none 0 c 0 0 Tryz.underlying23
    go_enter Tryz.func112, Tryz.ntmps112
    go_wp2
    go_ret
    exact ⟨_, rfl, OwnL.nil _ _ _ _ _, Ex.refl _⟩
  | some A =>
    have q0 := Ex.new w (.cells #[] 57)
    have h0 := h.nx q0
    have own0 : OwnL 3 encN 57 w.heap.size (w.alloc (.cells #[] 57)) (.slice (some ⟨w.heap.size, 0, none⟩) 0 0) [] := OwnL.empty (Nat.le_refl _) rfl
    clear h
    have hq : ∀ w : World, (binOp .eql 23 (.slice (some A) n c) (.slice none 0 0)).run Tryz.prog w = .ok (.bool false) w := fun w => Lib.run_eql_slice_nil w 23 57 (some A) n c 0 0 Tryz.underlying23
    go_enter Tryz.func112, Tryz.ntmps112
    go_wp2_with (at_builtin; (refine wpList_append_rd (enc := encN) _ rfl _ _ 23 rfl w.heap.size 57 (.agg #[.int .i64 0, .string ByteArray.empty, .int .u32 0]) 3 32 Tryz.underlying23 Tryz.infoN rfl (by omega) (by omega) _ [] own0 rfl _ (some A) n c l h0 (fun h => by cases h) (fun _ => rfl) (by simp [encN, Value.oneCell']) rfl (by simp) (by omega) (by simp) ?_); intro v1 w1 own1 hch0 hch1)
    go_ret
    rw [List.nil_append] at own1
    exact ⟨_, rfl, own1, Chg.trans q0 hch1⟩
end Go.Proofs.YtbnbjiddffihoaaGreatDoor
