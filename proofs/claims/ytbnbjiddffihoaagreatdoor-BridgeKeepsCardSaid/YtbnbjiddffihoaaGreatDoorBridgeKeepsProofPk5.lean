/- Texts for the statement BridgeKeepsProof, part 5 of 12: Lin, Per, Rnd, LinP, Bri, RouP, RouA, SrP, SrE, RepP, JoiP, ConP, Wo, ConL, Has, MapS, RedA, LoopT, RedB, RedD, PrR, ApW. -/
import Derived.Lib.SliceRun
import Derived.Maps.OwnSet
import Derived.Maps.OwnOps
import Derived.BigQuiet
import Derived.BigRegion
import Derived.Test.YtbnbjiddffihoaaGreatDoorBridgeKeepsProofPk1
import Derived.Test.YtbnbjiddffihoaaGreatDoorBridgeKeepsProofPk2
import Derived.Test.YtbnbjiddffihoaaGreatDoorBridgeKeepsProofPk3
import Derived.Test.YtbnbjiddffihoaaGreatDoorBridgeKeepsProofPk4

/- Sorting by introductions, in plain Lean: numbers 0 .. n - 1 stand for the nodes in ascending order, K t p q says that p refers to q before round t. -/
namespace Go.Proofs.YtbnbjiddffihoaaGreatDoor

namespace Lin
inductive Path (M : Nat → Nat → Prop) (lo hi : Nat) : Nat → Nat → Prop
  | refl {a : Nat} : lo ≤ a → a ≤ hi → Path M lo hi a a
  | step {a c b : Nat} : lo ≤ a → a ≤ hi → M a c → Path M lo hi c b → Path M lo hi a b
theorem Path.head {M : Nat → Nat → Prop} {lo hi a b : Nat} (h : Path M lo hi a b) : lo ≤ a ∧ a ≤ hi := by cases h <;> exact ⟨by assumption, by assumption⟩
theorem Path.trans {M : Nat → Nat → Prop} {lo hi a b c : Nat} (h : Path M lo hi a b) (k : Path M lo hi b c) : Path M lo hi a c := by
  induction h with
  | refl _ _ => exact k
  | step h1 h2 h3 _ ih => exact .step h1 h2 h3 (ih k)
theorem Path.mono {M M' : Nat → Nat → Prop} {lo hi lo' hi' a b : Nat} (h : Path M lo hi a b) (hm : ∀ x y, M x y → M' x y) (h1 : lo' ≤ lo) (h2 : hi ≤ hi') : Path M' lo' hi' a b := by
  induction h with
  | refl g1 g2 => exact .refl (by omega) (by omega)
  | step g1 g2 g3 _ ih => exact .step (by omega) (by omega) (hm _ _ g3) ih
theorem Path.one {M : Nat → Nat → Prop} {lo hi a b : Nat} (h1 : lo ≤ a) (h2 : a ≤ hi) (h3 : lo ≤ b) (h4 : b ≤ hi) (h : M a b) : Path M lo hi a b := .step h1 h2 h (.refl h3 h4)
theorem Path.symm {M : Nat → Nat → Prop} (hs : ∀ x y, M x y → M y x) {lo hi a b : Nat} (h : Path M lo hi a b) : Path M lo hi b a := by
  induction h with
  | refl g1 g2 => exact .refl g1 g2
  | step g1 g2 g3 k ih => exact ih.trans (.one k.head.1 k.head.2 g1 g2 (hs _ _ g3))

def Row (K : Nat → Nat → Prop) (p x : Nat) : Prop := x = p ∨ K p x
def Adj (K : Nat → Nat → Prop) (p x y : Nat) : Prop := Row K p x ∧ Row K p y ∧ x < y ∧ ∀ r, Row K p r → ¬ (x < r ∧ r < y)
def Sym (K : Nat → Nat → Prop) (x y : Nat) : Prop := K x y ∧ K y x
theorem Sym.symm {K : Nat → Nat → Prop} {x y : Nat} (h : Sym K x y) : Sym K y x := ⟨h.2, h.1⟩
def Rnd (K K' : Nat → Nat → Prop) : Prop := ∀ p x y, Adj K p x y → Sym K' x y

section
variable {K K' : Nat → Nat → Prop}
theorem chain (hR : Rnd K K') (p : Nat) : ∀ (d x y : Nat), y - x ≤ d → Row K p x → Row K p y → x < y → Path (Sym K') x y x y := by
  intro d
  induction d with
  | zero => intro x y h _ _ hl; omega
  | succ d ih =>
    intro x y h hx hy hl
    by_cases hb : ∃ r, Row K p r ∧ x < r ∧ r < y
    · obtain ⟨r, hr, h1, h2⟩ := hb
      have p1 := ih x r (by omega) hx hr h1
      have p2 := ih r y (by omega) hr hy h2
      exact (p1.mono (fun _ _ h => h) (by omega) (by omega)).trans (p2.mono (fun _ _ h => h) (by omega) (by omega))
    · exact .one (by omega) (by omega) (by omega) (by omega) (hR p x y ⟨hx, hy, hl, fun r hr hh => hb ⟨r, hr, hh⟩⟩)
theorem joined (hR : Rnd K K') {p x y lo hi : Nat} (hx : Row K p x) (hy : Row K p y) (h1 : lo ≤ x) (h2 : x ≤ hi) (h3 : lo ≤ y) (h4 : y ≤ hi) : Path (Sym K') lo hi x y := by
  rcases Nat.lt_trichotomy x y with h | h | h
  · exact (chain hR p _ x y (Nat.le_refl _) hx hy h).mono (fun _ _ h => h) h1 h4
  · subst h; exact .refl h1 h2
  · exact ((chain hR p _ y x (Nat.le_refl _) hy hx h).mono (fun _ _ h => h) h3 h2).symm (fun _ _ h => h.symm)
theorem edge (hR : Rnd K K') {a c lo hi : Nat} (h : K a c ∨ K c a) (h1 : lo ≤ a) (h2 : a ≤ hi) (h3 : lo ≤ c) (h4 : c ≤ hi) : Path (Sym K') lo hi a c := by
  rcases h with h | h
  · exact joined hR (p := a) (.inl rfl) (.inr h) h1 h2 h3 h4
  · exact joined hR (p := c) (.inr h) (.inl rfl) h1 h2 h3 h4
theorem keep (hR : Rnd K K') {lo hi a b : Nat} (h : Path (fun x y => K x y ∨ K y x) lo hi a b) : Path (Sym K') lo hi a b := by
  induction h with
  | refl g1 g2 => exact .refl g1 g2
  | step g1 g2 g3 k ih => exact (edge hR g3 g1 g2 k.head.1 k.head.2).trans ih
theorem lower (hR : Rnd K K') (hirr : ∀ x, ¬ K x x) {lo hi a b : Nat} (h : Path (Sym K) lo (hi + 1) a b) (hb : b ≤ hi) :
    (a ≤ hi → Path (Sym K') lo hi a b) ∧ (a = hi + 1 → ∀ e, K (hi + 1) e → lo ≤ e → e ≤ hi → Path (Sym K') lo hi e b) := by
  induction h with
  | refl g1 g2 => exact ⟨fun h => .refl g1 h, fun h => by omega⟩
  | step g1 g2 g3 k ih =>
    rename_i a c b
    obtain ⟨i1, i2⟩ := ih hb
    refine ⟨fun ha => ?_, fun ha e he h1 h2 => ?_⟩
    · by_cases hc : c ≤ hi
      · exact (edge hR (.inl g3.1) g1 ha k.head.1 hc).trans (i1 hc)
      · have hc : c = hi + 1 := by have := k.head.2; omega
        subst hc
        exact i2 rfl a g3.2 g1 ha
    · subst ha
      have hc : c ≤ hi := by
        have := k.head.2
        rcases Nat.lt_or_ge c (hi + 1) with h | h
        · omega
        · have : c = hi + 1 := by omega
          subst this
          exact absurd g3.1 (hirr _)
      exact (joined hR (p := hi + 1) (.inr he) (.inr g3.1) h1 h2 k.head.1 hc).trans (i1 hc)
theorem raise (hR : Rnd K K') (hirr : ∀ x, ¬ K x x) {lo hi a b : Nat} (h : Path (Sym K) lo hi a b) (hb : lo + 1 ≤ b) :
    (lo + 1 ≤ a → Path (Sym K') (lo + 1) hi a b) ∧ (a = lo → ∀ e, K lo e → lo + 1 ≤ e → e ≤ hi → Path (Sym K') (lo + 1) hi e b) := by
  induction h with
  | refl g1 g2 => exact ⟨fun h => .refl h g2, fun h => by omega⟩
  | step g1 g2 g3 k ih =>
    rename_i a c b
    obtain ⟨i1, i2⟩ := ih hb
    refine ⟨fun ha => ?_, fun ha e he h1 h2 => ?_⟩
    · by_cases hc : lo + 1 ≤ c
      · exact (edge hR (.inl g3.1) ha g2 hc k.head.2).trans (i1 hc)
      · have hc : c = lo := by have := k.head.1; omega
        subst hc
        exact i2 rfl a g3.2 ha g2
    · subst ha
      have hc : a + 1 ≤ c := by
        have := k.head.1
        rcases Nat.lt_or_ge a c with h | h
        · exact h
        · have : c = a := by omega
          subst this
          exact absurd g3.1 (hirr _)
      exact (joined hR (p := a) (.inr he) (.inr g3.1) h1 h2 hc k.head.2).trans (i1 hc)
end
theorem pair {M : Nat → Nat → Prop} {i b : Nat} (h : Path M i (i + 1) i b) (hb : b = i + 1) (hirr : ∀ x, ¬ M x x) : M i (i + 1) := by
  have gen : ∀ a b, Path M i (i + 1) a b → a = i → b = i + 1 → M i (i + 1) := by
    intro a b h
    induction h with
    | refl _ _ => intro h1 h2; omega
    | step g1 g2 g3 k ih =>
      rename_i a c b
      intro h1 h2
      subst h1
      have := k.head
      rcases (show c = a ∨ c = a + 1 by omega) with h | h
      · subst h; exact absurd g3 (hirr _)
      · subst h; exact g3
  exact gen i b h rfl hb
section
variable {n : Nat} {K : Nat → Nat → Nat → Prop}
theorem sorts (hR : ∀ t, Rnd (K t) (K (t + 1))) (hirr : ∀ t x, ¬ K t x x) (hc : ∀ a b, a < n → b < n → Path (fun x y => K 0 x y ∨ K 0 y x) 0 (n - 1) a b) {i : Nat} (hi : i + 1 < n) : Sym (K (n - 1)) i (i + 1) := by
  have h1 : Path (Sym (K 1)) 0 (n - 1) i (i + 1) := keep (hR 0) (hc i (i + 1) (by omega) hi)
  have up : ∀ d, d ≤ n - 1 - (i + 1) → Path (Sym (K (1 + d))) 0 (n - 1 - d) i (i + 1) := by
    intro d
    induction d with
    | zero => intro _; exact h1
    | succ d ih =>
      intro hd
      have h := ih (by omega)
      rw [show n - 1 - d = (n - 1 - (d + 1)) + 1 by omega] at h
      exact (lower (hR (1 + d)) (hirr _) h (by omega)).1 (by omega)
  have h2 := up (n - 1 - (i + 1)) (Nat.le_refl _)
  rw [show n - 1 - (n - 1 - (i + 1)) = i + 1 by omega] at h2
  have down : ∀ d, d ≤ i → Path (Sym (K (1 + (n - 1 - (i + 1)) + d))) d (i + 1) i (i + 1) := by
    intro d
    induction d with
    | zero => intro _; exact h2
    | succ d ih =>
      intro hd
      exact (raise (hR (1 + (n - 1 - (i + 1)) + d)) (hirr _) (ih (by omega)) (by omega)).1 (by omega)
  have h3 := down i (Nat.le_refl _)
  rw [show 1 + (n - 1 - (i + 1)) + i = n - 1 by omega] at h3
  exact pair h3 rfl (fun x h => hirr _ x h.1)
theorem stays {K K' : Nat → Nat → Prop} (hR : Rnd K K') {i : Nat} (h : Sym K i (i + 1)) : Sym K' i (i + 1) :=
  hR i i (i + 1) ⟨.inl rfl, .inr h.1, by omega, fun r _ hh => by omega⟩
end
end Lin
end Go.Proofs.YtbnbjiddffihoaaGreatDoor

/- Peers, their references and what they do in a round of the linear repair, in plain Lean. -/
namespace Go.Proofs.YtbnbjiddffihoaaGreatDoor
open Go.RowKit

def nums4 (x : Nr) : List Int := [x.1, x.2.1, x.2.2.1, x.2.2.2]
def numsP (p : Pr) : List Int := p.known ++ [p.left, p.right] ++ p.near.flatMap nums4
def ordN (N : List Nd) (l : List Int) (but : Int) : List Int := ((sortN N).filter fun x => !(x.id == but) && l.contains x.id).map Nd.id
def refsN (N : List Nd) (p : Pr) : List Int := if checkN N = 0 then ordN N (numsP p) p.id else []
def peerN (P : List Pr) (id : Int) : Pr := (P.find? fun p => p.id == id).getD ⟨id, 0, 0, [], []⟩
def normalN (N : List Nd) (P : List Pr) : List Pr := if checkN N = 0 then (sortN N).map fun x => peerN P x.id else []
section
variable {N : List Nd} {P : List Pr}
theorem mem_ord {l : List Int} {but id : Int} : id ∈ ordN N l but ↔ (∃ x ∈ N, x.id = id) ∧ id ≠ but ∧ id ∈ l := by
  unfold ordN
  simp only [List.mem_map, List.mem_filter, sortN_mem, Bool.and_eq_true, Bool.not_eq_true', beq_eq_false_iff_ne, List.contains_iff_mem]
  constructor
  · rintro ⟨x, ⟨h1, h2, h3⟩, rfl⟩; exact ⟨⟨x, h1, rfl⟩, h2, h3⟩
  · rintro ⟨⟨x, h1, rfl⟩, h2, h3⟩; exact ⟨x, ⟨h1, h2, h3⟩, rfl⟩
theorem mem_refs (h0 : checkN N = 0) {p : Pr} {id : Int} : id ∈ refsN N p ↔ (∃ x ∈ N, x.id = id) ∧ id ≠ p.id ∧ id ∈ numsP p := by
  unfold refsN
  rw [if_pos h0, mem_ord]
theorem peer_id (P : List Pr) (id : Int) : (peerN P id).id = id := by
  unfold peerN
  cases h : P.find? fun p => p.id == id with
  | none => rfl
  | some p => simpa using List.find?_some h
end
end Go.Proofs.YtbnbjiddffihoaaGreatDoor

/- A round of the linear repair sorts, in plain Lean. -/
namespace Go.Proofs.YtbnbjiddffihoaaGreatDoor
open Go.RowKit

section
variable {N : List Nd} {P : List Pr}
theorem sort_ids {N : List Nd} (h0 : checkN N = 0) : (sortN N).Pairwise fun x y => x.id ≠ y.id := List.Pairwise.imp (fun h => h.2) (sortN_str h0)
theorem peer_map {S : List Nd} (hd : S.Pairwise fun x y => x.id ≠ y.id) {f : Nd → Pr} (hf : ∀ x, (f x).id = x.id) {a : Nd} (ha : a ∈ S) : peerN (S.map f) a.id = f a := by
  unfold peerN
  have : (S.map f).find? (fun p => p.id == a.id) = some (f a) := by
    rw [List.find?_map]
    have e : ((fun p : Pr => p.id == a.id) ∘ f) = fun x : Nd => x.id == a.id := by funext x; simp [hf]
    rw [e]
    have hfd : S.find? (fun x => x.id == a.id) = some a := by
      obtain ⟨A, B, rfl⟩ := List.append_of_mem ha
      rw [List.find?_append]
      have hn : A.find? (fun x => x.id == a.id) = none := by
        rw [List.find?_eq_none]
        intro x hx
        have := (List.pairwise_append.1 hd).2.2 x hx a (by simp)
        simpa using this
      rw [hn]
      simp
    rw [hfd]; rfl
  rw [this]; rfl
theorem normal_peer (h0 : checkN N = 0) {a : Nd} (ha : a ∈ N) : peerN (normalN N P) a.id = peerN P a.id := by
  unfold normalN
  rw [if_pos h0]
  exact peer_map (sort_ids h0) (fun x => peer_id _ _) ((sortN_mem N a).2 ha)
def KR (N : List Nd) (P : List Pr) (x y : Nat) : Prop := ∃ a b, (sortN N)[x]? = some a ∧ (sortN N)[y]? = some b ∧ b.id ∈ refsN N (peerN P a.id)
theorem KR.lt {x y : Nat} (h : KR N P x y) : x < N.length ∧ y < N.length := by
  obtain ⟨a, b, h1, h2, _⟩ := h
  have g1 := (List.getElem?_eq_some_iff.1 h1).1
  have g2 := (List.getElem?_eq_some_iff.1 h2).1
  rw [sortN_length] at g1 g2
  exact ⟨g1, g2⟩
inductive Cl (R : Int → Int → Prop) : Int → Int → Prop
  | refl (a : Int) : Cl R a a
  | step {a c b : Int} : R a c ∨ R c a → Cl R c b → Cl R a b
theorem Cl.trans {R : Int → Int → Prop} {a b c : Int} (h : Cl R a b) (k : Cl R b c) : Cl R a c := by
  induction h with
  | refl _ => exact k
  | step h1 _ ih => exact .step h1 (ih k)
theorem Cl.one {R : Int → Int → Prop} {a b : Int} (h : R a b ∨ R b a) : Cl R a b := .step h (.refl b)
theorem Cl.symm {R : Int → Int → Prop} {a b : Int} (h : Cl R a b) : Cl R b a := by
  induction h with
  | refl _ => exact .refl _
  | step h1 _ ih => exact ih.trans (.one h1.symm)
theorem Cl.mono {R R' : Int → Int → Prop} (hr : ∀ a b, R a b → Cl R' a b) {a b : Int} (h : Cl R a b) : Cl R' a b := by
  induction h with
  | refl _ => exact .refl _
  | step h1 _ ih =>
    rcases h1 with h | h
    · exact (hr _ _ h).trans ih
    · exact (hr _ _ h).symm.trans ih
def EdgeN (N : List Nd) (P : List Pr) (u v : Int) : Prop := (∃ x ∈ N, x.id = u) ∧ v ∈ refsN N (peerN P u)
def ConnN (N : List Nd) (P : List Pr) : Prop := checkN N = 0 ∧ ∀ x ∈ N, ∀ y ∈ N, Cl (EdgeN N P) x.id y.id
end
end Go.Proofs.YtbnbjiddffihoaaGreatDoor

/- What the statements of chapter 16 say, in plain Lean. -/
namespace Go.Proofs.YtbnbjiddffihoaaGreatDoor
open Go.RowKit

section
variable {N : List Nd}
variable {P : List Pr}
end
end Go.Proofs.YtbnbjiddffihoaaGreatDoor

/- How each level is made from the one below, in plain Lean. -/
namespace Go.Proofs.YtbnbjiddffihoaaGreatDoor
open Go.RowKit

def otherN (N : List Nd) (id own : Int) : Int := if (findN N id).2 = true ∧ id ≠ own then id else 0
def zNr : Nr := (0, 0, 0, 0)
def nearAt (p : Pr) (i : Nat) : Nr := p.near[i]?.getD zNr
def linkB (N : List Nd) (p : Pr) (lev : Int) : Int × Int :=
  if (findN N p.id).2 = true ∧ checkN N = 0 ∧ lvlN lev = true ∧ lev ≤ p.near.length then
    (let y := if lev = 0 then (p.left, p.right) else if bitN (findN N p.id).1.word (lev - 1) = 1 then ((nearAt p (lev - 1).toNat).2.1, (nearAt p (lev - 1).toNat).2.2.2) else ((nearAt p (lev - 1).toNat).1, (nearAt p (lev - 1).toNat).2.2.1)
     (otherN N y.1 p.id, otherN N y.2 p.id))
  else (0, 0)
def pairB (N : List Nd) (own nb : Int) (lev : Nat) (zero one : Int) : Int × Int :=
  if (findN N nb).2 = true then (if bitN (findN N nb).1.word lev = 0 then ((findN N nb).1.id, otherN N one own) else (otherN N zero own, (findN N nb).1.id)) else (0, 0)
def stepB (N : List Nd) (st : Int → Pr) (p : Pr) (i : Nat) : Nr :=
  ((pairB N p.id (linkB N p i).1 i (nearAt (st (linkB N p i).1) i).1 (nearAt (st (linkB N p i).1) i).2.1).1, (pairB N p.id (linkB N p i).1 i (nearAt (st (linkB N p i).1) i).1 (nearAt (st (linkB N p i).1) i).2.1).2,
   (pairB N p.id (linkB N p i).2 i (nearAt (st (linkB N p i).2) i).2.2.1 (nearAt (st (linkB N p i).2) i).2.2.2).1, (pairB N p.id (linkB N p i).2 i (nearAt (st (linkB N p i).2) i).2.2.1 (nearAt (st (linkB N p i).2) i).2.2.2).2)
def nextB (N : List Nd) (st : Int → Pr) (p : Pr) (h : Nat) : List Nr := (List.range h).map (stepB N st p)
def bRoundN (N : List Nd) (P : List Pr) (h : Int) : List Pr := if lvlN h = true then (normalN N P).map fun p => { p with near := nextB N (peerN (normalN N P)) p h.toNat } else []
def linksB (N : List Nd) (P : List Pr) (h : Int) : List Lkd := if lvlN h = true then (normalN N P).map fun p => (p.id, (List.range (h.toNat + 1)).map fun (lev : Nat) => linkB N p lev) else []
noncomputable def exactB (N : List Nd) (P : List Pr) (h : Int) : Bool := (buildN N h).2 == 0 && decide (linksB N P h = (buildN N h).1)

section
variable {N : List Nd}
def bitIs (i b : Nat) (y : Nd) : Bool := bitN y.word i == b
theorem other_zero (h0 : checkN N = 0) (own : Int) : otherN N 0 own = 0 := by
  unfold otherN
  rw [if_neg]
  rintro ⟨h, _⟩
  rw [find_zero h0] at h
  cases h
theorem grp_parts (h0 : checkN N = 0) {i : Int} {v : Nat} {A B : List Nd} {x : Nd} (e : grpS N i v = A ++ x :: B) : (∀ z ∈ A, z ∈ N ∧ z.id ≠ x.id) ∧ (∀ z ∈ B, z ∈ N ∧ z.id ≠ x.id) := by
  have ha := grp_asc h0 i v
  rw [e] at ha
  have h1 := List.pairwise_append.1 ha
  have hm : ∀ z ∈ A ++ x :: B, z ∈ N := fun z hz => (grp_mem.1 (by rw [e]; exact hz)).1
  exact ⟨fun z hz => ⟨hm z (by simp [hz]), (h1.2.2 z hz x (by simp)).2⟩, fun z hz => ⟨hm z (by simp [hz]), (((List.pairwise_cons.1 h1.2.1).1 z hz).2).symm⟩⟩
end
end Go.Proofs.YtbnbjiddffihoaaGreatDoor

/- Routes over links, in plain Lean. -/
namespace Go.Proofs.YtbnbjiddffihoaaGreatDoor
open Go.RowKit

abbrev Hop := Int × Int × Int
def atL (L : List Lkd) (id lev : Int) : Int × Int := match L.find? (fun c => c.1 == id) with | some c => if lev < 0 then (0, 0) else c.2[lev.toNat]?.getD (0, 0) | none => (0, 0)
def hopN (N : List Nd) (L : List Lkd) (key : List UInt8) (right : Bool) (x : Nd) (lev : Nat) : Option Nd :=
  if right then (if (findN N (atL L x.id lev).2).2 && (Op.bytesLess x.key.toList (findN N (atL L x.id lev).2).1.key.toList && !Op.bytesLess key (findN N (atL L x.id lev).2).1.key.toList) then some (findN N (atL L x.id lev).2).1 else none)
  else (if (findN N (atL L x.id lev).1).2 && (Op.bytesLess (findN N (atL L x.id lev).1).1.key.toList x.key.toList && Op.bytesLess key (findN N (atL L x.id lev).1).1.key.toList) then some (findN N (atL L x.id lev).1).1 else none)
def rtF (N : List Nd) (L : List Lkd) (key : List UInt8) (right : Bool) : Nat → Nd → Nat → List Hop → Nd × List Hop
  | 0, x, _, out => (x, out)
  | _ + 1, x, 0, out => (x, out)
  | f + 1, x, lev + 1, out =>
    match hopN N L key right x lev with
    | some y => rtF N L key right f y (lev + 1) (out ++ [(x.id, y.id, (lev : Int))])
    | none => rtF N L key right f x lev out
def bey (N : List Nd) (right : Bool) (x : Nd) : Nat := N.countP fun z => if right then Op.bytesLess x.key.toList z.key.toList else Op.bytesLess z.key.toList x.key.toList
def measR (N : List Nd) (right : Bool) (x : Nd) (lev : Nat) : Nat := lev * (N.length + 1) + bey N right x
variable {N : List Nd} {L : List Lkd} {key : List UInt8} {right : Bool}
theorem hop_mem {x y : Nd} {lev : Nat} (h : hopN N L key right x lev = some y) : y ∈ N ∧
    (if right then Op.bytesLess x.key.toList y.key.toList = true ∧ Op.bytesLess key y.key.toList = false else Op.bytesLess y.key.toList x.key.toList = true ∧ Op.bytesLess key y.key.toList = true) := by
  unfold hopN at h
  cases right with
  | true =>
    rw [if_pos rfl] at h ⊢
    split at h
    · rename_i hc
      cases h
      simp only [Bool.and_eq_true, Bool.not_eq_true'] at hc
      exact ⟨(findN_mem hc.1).1, hc.2.1, hc.2.2⟩
    · cases h
  | false =>
    rw [if_neg (by simp)] at h ⊢
    split at h
    · rename_i hc
      cases h
      simp only [Bool.and_eq_true] at hc
      exact ⟨(findN_mem hc.1).1, hc.2.1, hc.2.2⟩
    · cases h
theorem count_lt {α : Type} {p q : α → Bool} : ∀ {l : List α} {y : α}, y ∈ l → (∀ z, p z = true → q z = true) → q y = true → p y = false → l.countP p < l.countP q
  | [], _, hy, _, _, _ => by cases hy
  | a :: l, y, hy, h, h1, h2 => by
    rw [List.countP_cons, List.countP_cons]
    have hle : l.countP p ≤ l.countP q := List.countP_mono_left (fun z _ => h z)
    rcases List.mem_cons.1 hy with rfl | hy
    · rw [h1, h2]; simp; omega
    · have := count_lt hy h h1 h2
      have h3 := h a
      cases hp : p a with
      | true => rw [h3 hp]; simp; omega
      | false =>
        generalize (if q a = true then 1 else 0) = z
        simp
        omega
theorem bey_lt {x y : Nd} {lev : Nat} (h : hopN N L key right x lev = some y) : bey N right y < bey N right x := by
  obtain ⟨hm, hc⟩ := hop_mem h
  unfold bey
  cases right with
  | true =>
    rw [if_pos rfl] at hc
    refine count_lt hm (fun z hz => ?_) ?_ ?_
    · rw [if_pos rfl] at hz ⊢; exact bl_trans hc.1 hz
    · rw [if_pos rfl]; exact hc.1
    · rw [if_pos rfl]; exact bytesLess_irrefl _
  | false =>
    rw [if_neg (by simp)] at hc
    refine count_lt hm (fun z hz => ?_) ?_ ?_
    · rw [if_neg (by simp)] at hz ⊢; exact bl_trans hz hc.1
    · rw [if_neg (by simp)]; exact hc.1
    · rw [if_neg (by simp)]; exact bytesLess_irrefl _
theorem bey_le (x : Nd) : bey N right x ≤ N.length := List.countP_le_length
theorem meas_hop {x y : Nd} {lev : Nat} (h : hopN N L key right x lev = some y) : measR N right y (lev + 1) < measR N right x (lev + 1) := by
  have := bey_lt h
  unfold measR
  omega
theorem meas_down (x : Nd) (lev : Nat) : measR N right x lev < measR N right x (lev + 1) := by
  unfold measR
  rw [Nat.add_mul]
  omega
def RtSt (N : List Nd) (L : List Lkd) (key : List UInt8) (right : Bool) (R : Nd × List Hop) (x : Nd) (lev : Nat) (out : List Hop) : Prop := ∃ f, measR N right x lev ≤ f ∧ rtF N L key right f x lev out = R
theorem RtSt.start {x : Nd} {lev : Nat} (hl : lev ≤ 17) : RtSt N L key right (rtF N L key right (18 * (N.length + 1)) x lev []) x lev [] := by
  refine ⟨_, ?_, rfl⟩
  unfold measR
  have := bey_le (N := N) (right := right) x
  have : lev * (N.length + 1) ≤ 17 * (N.length + 1) := Nat.mul_le_mul_right _ hl
  omega
theorem RtSt.hop {R : Nd × List Hop} {x y : Nd} {lev : Nat} {out : List Hop} (h : RtSt N L key right R x (lev + 1) out) (hh : hopN N L key right x lev = some y) : RtSt N L key right R y (lev + 1) (out ++ [(x.id, y.id, (lev : Int))]) := by
  obtain ⟨f, h1, h2⟩ := h
  have hm := meas_hop hh
  obtain ⟨f, rfl⟩ : ∃ g, f = g + 1 := ⟨f - 1, by omega⟩
  refine ⟨f, by omega, ?_⟩
  rw [← h2]
  show _ = (match hopN N L key right x lev with | some y => rtF N L key right f y (lev + 1) (out ++ [(x.id, y.id, (lev : Int))]) | none => rtF N L key right f x lev out)
  rw [hh]
theorem RtSt.down {R : Nd × List Hop} {x : Nd} {lev : Nat} {out : List Hop} (h : RtSt N L key right R x (lev + 1) out) (hh : hopN N L key right x lev = none) : RtSt N L key right R x lev out := by
  obtain ⟨f, h1, h2⟩ := h
  have hm := meas_down (N := N) (right := right) x lev
  obtain ⟨f, rfl⟩ : ∃ g, f = g + 1 := ⟨f - 1, by omega⟩
  refine ⟨f, by omega, ?_⟩
  rw [← h2]
  show _ = (match hopN N L key right x lev with | some y => rtF N L key right f y (lev + 1) (out ++ [(x.id, y.id, (lev : Int))]) | none => rtF N L key right f x lev out)
  rw [hh]
end Go.Proofs.YtbnbjiddffihoaaGreatDoor

/- How the hops of a route go, in plain Lean: over any links. -/
namespace Go.Proofs.YtbnbjiddffihoaaGreatDoor
open Go.RowKit

def DirN (key : List UInt8) (right : Bool) (x y : Nd) : Prop := if right then Op.bytesLess x.key.toList y.key.toList = true ∧ Op.bytesLess key y.key.toList = false else Op.bytesLess y.key.toList x.key.toList = true ∧ Op.bytesLess key y.key.toList = true
def HopsOk (N : List Nd) (key : List UInt8) (right : Bool) (x' : Nd) : Nd → Nat → List Hop → Prop
  | x, _, [] => x = x'
  | x, lev, h :: hs => ∃ (y : Nd) (lev' : Nat), y ∈ N ∧ h = (x.id, y.id, (lev' : Int)) ∧ lev' ≤ lev ∧ DirN key right x y ∧ HopsOk N key right x' y lev' hs
variable {N : List Nd} {L : List Lkd} {key : List UInt8} {right : Bool}
theorem HopsOk.mono {x' : Nd} : ∀ {hs : List Hop} {x : Nd} {lev lev2 : Nat}, HopsOk N key right x' x lev hs → lev ≤ lev2 → HopsOk N key right x' x lev2 hs
  | [], _, _, _, h, _ => h
  | _ :: _, _, _, _, ⟨y, l', h1, h2, h3, h4, h5⟩, hl => ⟨y, l', h1, h2, by omega, h4, h5⟩
theorem HopsOk.len {x' : Nd} : ∀ {hs : List Hop} {x : Nd} {lev : Nat}, HopsOk N key right x' x lev hs → hs.length + bey N right x' ≤ bey N right x
  | [], _, _, h => by rw [← show _ = x' from h]; simp
  | _ :: hs, x, _, ⟨y, l', h1, h2, h3, h4, h5⟩ => by
    have := h5.len
    have hlt : bey N right y < bey N right x := by
      unfold bey
      cases right with
      | true =>
        unfold DirN at h4
        rw [if_pos rfl] at h4
        refine count_lt h1 (fun z hz => ?_) ?_ ?_
        · rw [if_pos rfl] at hz ⊢; exact bl_trans h4.1 hz
        · rw [if_pos rfl]; exact h4.1
        · rw [if_pos rfl]; exact bytesLess_irrefl _
      | false =>
        unfold DirN at h4
        rw [if_neg (by simp)] at h4
        refine count_lt h1 (fun z hz => ?_) ?_ ?_
        · rw [if_neg (by simp)] at hz ⊢; exact bl_trans hz h4.1
        · rw [if_neg (by simp)]; exact h4.1
        · rw [if_neg (by simp)]; exact bytesLess_irrefl _
    simp only [List.length_cons]
    omega
theorem HopsOk.side {x' : Nd} : ∀ {hs : List Hop} {x : Nd} {lev : Nat}, HopsOk N key right x' x lev hs → (if right then Op.bytesLess key x.key.toList = false else Op.bytesLess key x.key.toList = true) → (if right then Op.bytesLess key x'.key.toList = false else Op.bytesLess key x'.key.toList = true)
  | [], _, _, h, hk => by rw [← show _ = x' from h]; exact hk
  | _ :: hs, x, _, ⟨y, l', h1, h2, h3, h4, h5⟩, hk => h5.side (by
      unfold DirN at h4
      cases right with
      | true => rw [if_pos rfl] at h4 ⊢; exact h4.2
      | false => rw [if_neg (by simp)] at h4 ⊢; exact h4.2)
theorem HopsOk.mem {x' : Nd} : ∀ {hs : List Hop} {x : Nd} {lev : Nat}, HopsOk N key right x' x lev hs → x ∈ N → x' ∈ N
  | [], _, _, h, hx => by rw [← show _ = x' from h]; exact hx
  | _ :: _, _, _, ⟨_, _, h1, _, _, _, h5⟩, _ => h5.mem h1
def RouteOk (N : List Nd) (key : List UInt8) (right : Bool) : Nd → Nat → List Hop → Prop
  | _, _, [] => True
  | x, lev, h :: hs => ∃ (y : Nd) (lev' : Nat), y ∈ N ∧ h = (x.id, y.id, (lev' : Int)) ∧ lev' ≤ lev ∧
      (DirN key right x y ∨ (right = false ∧ hs = [] ∧ lev' = 0 ∧ Op.bytesLess key y.key.toList = false ∧ Op.bytesLess y.key.toList x.key.toList = true)) ∧ RouteOk N key right y lev' hs
theorem HopsOk.route {x' : Nd} : ∀ {hs : List Hop} {x : Nd} {lev : Nat}, HopsOk N key right x' x lev hs → RouteOk N key right x lev hs
  | [], _, _, _ => trivial
  | _ :: _, _, _, ⟨y, l', h1, h2, h3, h4, h5⟩ => ⟨y, l', h1, h2, h3, .inl h4, h5.route⟩
theorem HopsOk.snoc {x' y : Nd} (hy : y ∈ N) (hr : right = false) (h1 : Op.bytesLess key y.key.toList = false) (h2 : Op.bytesLess y.key.toList x'.key.toList = true) : ∀ {hs : List Hop} {x : Nd} {lev : Nat}, HopsOk N key right x' x lev hs → RouteOk N key right x lev (hs ++ [(x'.id, y.id, 0)])
  | [], x, lev, h => by
    have h : x = x' := h
    subst h
    exact ⟨y, 0, hy, rfl, by omega, .inr ⟨hr, rfl, rfl, h1, h2⟩, trivial⟩
  | _ :: _, _, _, ⟨z, l', g1, g2, g3, g4, g5⟩ => ⟨z, l', g1, g2, g3, .inl g4, g5.snoc hy hr h1 h2⟩
end Go.Proofs.YtbnbjiddffihoaaGreatDoor

/- Runs, bounds and where searches end, in plain Lean. -/
namespace Go.Proofs.YtbnbjiddffihoaaGreatDoor
open Go.RowKit

def brkN (x : Nd) (lev : Int) (y : Nd) : Bool := y.id == x.id || sameN x.word y.word (lev + 1)
def runStep (x : Nd) (lev : Int) (s : Nat × Nat) (y : Nd) : Nat × Nat := if brkN x lev y then (s.1, 0) else (max s.1 (s.2 + 1), s.2 + 1)
def runF (x : Nd) (lev : Int) (G : List Nd) : Nat × Nat := G.foldl (runStep x lev) (0, 0)
def runN (l : List Nd) (id lev : Int) : Nat := if checkN l = 0 ∧ (findN l id).2 = true ∧ lvlN lev = true then (runF (findN l id).1 lev (thrG l id lev)).1 else 0
section
variable {x : Nd} {lev : Int}
theorem run_inv : ∀ (G : List Nd) (s : Nat × Nat), s.2 ≤ s.1 → (G.foldl (runStep x lev) s).2 ≤ (G.foldl (runStep x lev) s).1 ∧ s.1 ≤ (G.foldl (runStep x lev) s).1
  | [], s, h => ⟨h, Nat.le_refl _⟩
  | y :: G, s, h => by
    have h1 : (runStep x lev s y).2 ≤ (runStep x lev s y).1 ∧ s.1 ≤ (runStep x lev s y).1 := by
      unfold runStep
      split
      · exact ⟨Nat.zero_le _, Nat.le_refl _⟩
      · exact ⟨by show s.2 + 1 ≤ max s.1 (s.2 + 1); omega, by show s.1 ≤ max s.1 (s.2 + 1); omega⟩
    have := run_inv G _ h1.1
    exact ⟨this.1, Nat.le_trans h1.2 this.2⟩
theorem run_q : ∀ (Q : List Nd) (s : Nat × Nat), s.2 ≤ s.1 → (∀ y ∈ Q, brkN x lev y = false) → (Q.foldl (runStep x lev) s).2 = s.2 + Q.length
  | [], s, _, _ => rfl
  | y :: Q, s, h, hQ => by
    have e : runStep x lev s y = (max s.1 (s.2 + 1), s.2 + 1) := by unfold runStep; rw [hQ y (by simp)]; rfl
    show (Q.foldl (runStep x lev) (runStep x lev s y)).2 = _
    rw [e, run_q Q _ (by simp only; omega) (fun z hz => hQ z (by simp [hz]))]
    simp only [List.length_cons]
    omega
theorem run_seg (A Q B : List Nd) (hQ : ∀ y ∈ Q, brkN x lev y = false) : Q.length ≤ (runF x lev (A ++ Q ++ B)).1 := by
  unfold runF
  rw [List.foldl_append, List.foldl_append]
  have h1 := run_inv (x := x) (lev := lev) A (0, 0) (Nat.le_refl _)
  have h2 := run_q Q _ h1.1 hQ
  have h3 := run_inv (x := x) (lev := lev) Q _ h1.1
  have h4 := run_inv (x := x) (lev := lev) B _ h3.1
  omega
end
theorem runN_eq {l : List Nd} (h0 : checkN l = 0) {x : Nd} (hx : x ∈ l) {h : Nat} (hh : h ≤ 16) : runN l x.id h = (runF x h (grpS l h x.word)).1 := by
  have hf := find_in h0 hx
  unfold runN thrG
  rw [hf, if_pos ⟨h0, rfl, by unfold lvlN; simp; omega⟩]
  rfl
end Go.Proofs.YtbnbjiddffihoaaGreatDoor

/- Where searches over exact links end, and after how many hops, in plain Lean. -/
namespace Go.Proofs.YtbnbjiddffihoaaGreatDoor
open Go.RowKit

def dirL (right : Bool) (G : List Nd) : List Nd := if right then G else G.reverse
def dlt (right : Bool) (a b : Nd) : Bool := if right then Op.bytesLess a.key.toList b.key.toList else Op.bytesLess b.key.toList a.key.toList
def win (right : Bool) (key : List UInt8) (z : Nd) : Bool := if right then !Op.bytesLess key z.key.toList else Op.bytesLess key z.key.toList
theorem dlt_trans {right : Bool} {a b c : Nd} (h1 : dlt right a b = true) (h2 : dlt right b c = true) : dlt right a c = true := by
  cases right with
  | true => exact bl_trans h1 h2
  | false => exact bl_trans h2 h1
theorem dlt_irrefl {right : Bool} (a : Nd) : dlt right a a = false := by
  cases right <;> exact bytesLess_irrefl _
theorem win_down {right : Bool} {key : List UInt8} {a b : Nd} (h : dlt right a b = true) (hw : win right key b = true) : win right key a = true := by
  cases right with
  | true =>
    have h : Op.bytesLess a.key.toList b.key.toList = true := h
    have hw : (!Op.bytesLess key b.key.toList) = true := hw
    show (!Op.bytesLess key a.key.toList) = true
    cases hk : Op.bytesLess key a.key.toList with
    | false => rfl
    | true => rw [bl_trans hk h] at hw; cases hw
  | false =>
    have h : Op.bytesLess b.key.toList a.key.toList = true := h
    have hw : Op.bytesLess key b.key.toList = true := hw
    exact bl_trans hw h
theorem dir_asc {right : Bool} {G : List Nd} (h : AscS G) : (dirL right G).Pairwise fun a b => dlt right a b = true := by
  cases right with
  | true => exact List.Pairwise.imp (fun h => h.1) h
  | false => exact List.pairwise_reverse.2 (List.Pairwise.imp (fun h => h.1) h)
theorem dir_mem {right : Bool} {G : List Nd} {y : Nd} : y ∈ dirL right G ↔ y ∈ G := by cases right <;> simp [dirL]
section
variable {N : List Nd} {L : List Lkd} {key : List UInt8} {right : Bool}
def nextW (right : Bool) (key : List UInt8) : List Nd → Option Nd
  | [] => none
  | y :: _ => if win right key y = true then some y else none
theorem nextW_nil (right : Bool) (key : List UInt8) : nextW right key [] = none := rfl
theorem nextW_cons (right : Bool) (key : List UInt8) (y : Nd) (B : List Nd) : nextW right key (y :: B) = if win right key y = true then some y else none := rfl
theorem hop_exact (h0 : checkN N = 0) {x : Nd} {lev : Nat} (hl : lev ≤ 16) (hx : x ∈ N) (hL : atL L x.id lev = (neighN N x.id lev).1) {A B : List Nd} (e : dirL right (grpS N lev x.word) = A ++ x :: B) :
    hopN N L key right x lev = nextW right key B := by
  have hlv : lvlN (lev : Int) = true := by unfold lvlN; simp; omega
  have hm : ∀ y ∈ A ++ x :: B, y ∈ N := fun y hy => (grp_mem.1 (dir_mem.1 (by rw [e]; exact hy))).1
  have ha := dir_asc (right := right) (grp_asc h0 (lev : Int) x.word)
  rw [e] at ha
  have hxB := (List.pairwise_cons.1 (List.pairwise_append.1 ha).2.1).1
  cases right with
  | true =>
    have hn := neigh_split h0 hx hlv (A := A) (B := B) e
    unfold hopN
    rw [if_pos rfl, hL, hn]
    cases B with
    | nil => simp [headI, Nd.zero, find_zero h0, nextW_nil]
    | cons y B =>
      have hy := find_in h0 (hm y (by simp))
      have h1 : Op.bytesLess x.key.toList y.key.toList = true := hxB y (by simp)
      simp only [headI, List.head?_cons, Option.getD_some, hy]
      simp [h1, win, nextW_cons]
  | false =>
    have e' : grpS N lev x.word = B.reverse ++ x :: A.reverse := by
      have := congrArg List.reverse (show (grpS N lev x.word).reverse = A ++ x :: B from e)
      simpa using this
    have hn := neigh_split h0 hx hlv e'
    unfold hopN
    rw [if_neg (by simp), hL, hn]
    cases B with
    | nil => simp [lastI, Nd.zero, find_zero h0, nextW_nil]
    | cons y B =>
      have hy := find_in h0 (hm y (by simp))
      have h1 : Op.bytesLess y.key.toList x.key.toList = true := hxB y (by simp)
      simp only [lastI, List.reverse_cons, List.getLast?_append, List.getLast?_singleton, Option.some_or, Option.getD_some, hy]
      simp [h1, win, nextW_cons]
def CntSt (N : List Nd) (key : List UInt8) (right : Bool) (frm : Nd) (lev : Nat) (x : Nd) (q : Nat) : Prop :=
  ∃ P A Q B, dirL right (grpS N (lev : Int) frm.word) = P ++ x :: B ∧ P ++ [x] = A ++ Q ∧ Q.length = q ∧ (∀ y ∈ Q, brkN frm lev y = false) ∧ (∀ y ∈ B, win right key y = true → brkN frm lev y = false) ∧ (x = frm ∨ dlt right frm x = true)
theorem run_dir (h0 : checkN N = 0) {frm : Nd} (hf : frm ∈ N) {lev : Nat} (hl : lev ≤ 16) {A Q B : List Nd} (e : dirL right (grpS N (lev : Int) frm.word) = A ++ Q ++ B) (hQ : ∀ y ∈ Q, brkN frm lev y = false) : Q.length ≤ runN N frm.id lev := by
  rw [runN_eq h0 hf hl]
  cases right with
  | true =>
    have e : grpS N (lev : Int) frm.word = A ++ Q ++ B := e
    rw [e]; exact run_seg A Q B hQ
  | false =>
    have e' : grpS N (lev : Int) frm.word = B.reverse ++ Q.reverse ++ A.reverse := by
      have := congrArg List.reverse (show (grpS N lev frm.word).reverse = A ++ Q ++ B from e)
      simpa using this
    rw [e', ← List.length_reverse]; exact run_seg _ _ _ (fun y hy => hQ y (by simpa using hy))
theorem CntSt.le (h0 : checkN N = 0) {frm : Nd} (hf : frm ∈ N) {lev : Nat} (hl : lev ≤ 16) {x : Nd} {q : Nat} (h : CntSt N key right frm lev x q) : q ≤ runN N frm.id lev := by
  obtain ⟨P, A, Q, B, e1, e2, rfl, h3, _, _⟩ := h
  refine run_dir (right := right) (A := A) (B := B) h0 hf hl ?_ h3
  rw [e1, ← e2]; simp
theorem CntSt.mem {frm : Nd} {lev : Nat} {x : Nd} {q : Nat} (h : CntSt N key right frm lev x q) : x ∈ N ∧ sameN x.word frm.word lev = true := by
  obtain ⟨P, A, Q, B, e1, _⟩ := h
  exact grp_mem.1 (dir_mem.1 (by rw [e1]; simp))
theorem CntSt.own (hw : ∀ x ∈ N, x.word < 4294967296) {frm : Nd} (hf : frm ∈ N) {lev : Nat} {x : Nd} {q : Nat} (h : CntSt N key right frm lev x q) : grpS N (lev : Int) x.word = grpS N (lev : Int) frm.word :=
  grp_eq hw (hw x h.mem.1) (hw frm hf) h.mem.2
theorem CntSt.step (h0 : checkN N = 0) (hw : ∀ x ∈ N, x.word < 4294967296) {frm : Nd} (hf : frm ∈ N) {lev : Nat} (hl : lev ≤ 16) {x y : Nd} {q : Nat} (h : CntSt N key right frm lev x q) (hL : atL L x.id lev = (neighN N x.id lev).1) (hh : hopN N L key right x lev = some y) :
    CntSt N key right frm lev y (q + 1) := by
  have ho := h.own hw hf
  have hm := h.mem
  obtain ⟨P, A, Q, B, e1, e2, rfl, h3, h4, h5⟩ := h
  rw [hop_exact h0 hl hm.1 hL (by rw [ho]; exact e1)] at hh
  have ha := dir_asc (right := right) (grp_asc h0 (lev : Int) frm.word)
  rw [e1] at ha
  have hxB := (List.pairwise_cons.1 (List.pairwise_append.1 ha).2.1).1
  cases B with
  | nil => cases hh
  | cons z B =>
    rw [nextW_cons] at hh
    split at hh
    · rename_i hwin
      cases hh
      refine ⟨P ++ [x], A, Q ++ [y], B, by rw [e1]; simp, by rw [e2]; simp, by simp, ?_, fun z hz => h4 z (by simp [hz]), ?_⟩
      · intro z hz
        rcases List.mem_append.1 hz with h | h
        · exact h3 z h
        · have : z = y := by simpa using h
          rw [this]
          exact h4 y (by simp) hwin
      · have hxy := hxB y (by simp)
        rcases h5 with rfl | h5
        · exact .inr hxy
        · exact .inr (dlt_trans h5 hxy)
    · cases hh
theorem sameN_le {a b : Nat} {h k : Int} (hs : sameN a b h = true) (hk : k ≤ h) : sameN a b k = true := by
  unfold sameN at *
  simp only [decide_eq_true_eq] at *
  omega
theorem CntSt.down (h0 : checkN N = 0) (hw : ∀ x ∈ N, x.word < 4294967296) {frm : Nd} (hf : frm ∈ N) {lev : Nat} (hl : lev + 1 ≤ 16) {x : Nd} {q : Nat} (h : CntSt N key right frm (lev + 1) x q) (hL : atL L x.id (lev + 1 : Nat) = (neighN N x.id (lev + 1 : Nat)).1) (hh : hopN N L key right x (lev + 1) = none) :
    CntSt N key right frm lev x 0 := by
  have ho := h.own hw hf
  have hm := h.mem
  obtain ⟨P, A, Q, B, e1, e2, rfl, h3, h4, h5⟩ := h
  rw [hop_exact h0 hl hm.1 hL (by rw [ho]; exact e1)] at hh
  have ha := dir_asc (right := right) (grp_asc h0 ((lev + 1 : Nat) : Int) frm.word)
  rw [e1] at ha
  have ha2 := List.pairwise_append.1 ha
  have hxm : x ∈ dirL right (grpS N (lev : Int) frm.word) := dir_mem.2 (grp_mem.2 ⟨hm.1, sameN_le hm.2 (by omega)⟩)
  obtain ⟨P2, B2, f1⟩ := List.append_of_mem hxm
  have hb := dir_asc (right := right) (grp_asc h0 (lev : Int) frm.word)
  rw [f1] at hb
  have hb2 := (List.pairwise_cons.1 (List.pairwise_append.1 hb).2.1).1
  refine ⟨P2, P2 ++ [x], [], B2, f1, by simp, rfl, by simp, fun z hz hwz => ?_, h5⟩
  have hxz := hb2 z hz
  have hzN : z ∈ N := (grp_mem.1 (dir_mem.1 (by rw [f1]; simp [hz]))).1
  cases hbr : brkN frm lev z with
  | false => rfl
  | true =>
    exfalso
    unfold brkN at hbr
    rcases Bool.or_eq_true_iff.1 hbr with h | h
    · have hid : z.id = frm.id := by simpa using h
      have hz2 : z = frm := ids_eq (check_keys h0) hzN hf hid
      rw [hz2] at hxz
      rcases h5 with rfl | h5
      · rw [dlt_irrefl] at hxz; cases hxz
      · have := dlt_trans h5 hxz
        rw [dlt_irrefl] at this; cases this
    · have hzG : z ∈ dirL right (grpS N ((lev + 1 : Nat) : Int) frm.word) := dir_mem.2 (grp_mem.2 ⟨hzN, sameN_symm (by rw [show ((lev + 1 : Nat) : Int) = (lev : Int) + 1 by omega]; exact h)⟩)
      rw [e1] at hzG
      have hzB : z ∈ B := by
        rcases List.mem_append.1 hzG with h | h
        · have := ha2.2.2 z h x (by simp)
          have := dlt_trans this hxz
          rw [dlt_irrefl] at this; cases this
        · rcases List.mem_cons.1 h with h | h
          · rw [h, dlt_irrefl] at hxz; cases hxz
          · exact h
      cases B with
      | nil => cases hzB
      | cons y B =>
        rw [nextW_cons] at hh
        split at hh
        · cases hh
        · rename_i hwn
          rcases List.mem_cons.1 hzB with h | h
          · rw [h] at hwz; exact hwn hwz
          · exact hwn (win_down ((List.pairwise_cons.1 (List.pairwise_cons.1 ha2.2.1).2).1 z h) hwz)
end
end Go.Proofs.YtbnbjiddffihoaaGreatDoor

/- What the statements of chapters 17 and 18 say, in plain Lean. -/
namespace Go.Proofs.YtbnbjiddffihoaaGreatDoor
open Go.RowKit

section
variable {N : List Nd}
theorem pair_congr {own nb : Int} {lev : Nat} {z1 o1 z2 o2 : Int} (h : (findN N nb).2 = true → z1 = z2 ∧ o1 = o2) : pairB N own nb lev z1 o1 = pairB N own nb lev z2 o2 := by
  unfold pairB
  split
  · rename_i hf
    rw [(h hf).1, (h hf).2]
  · rfl
theorem step_congr {st st' : Int → Pr} (h : ∀ x ∈ N, st x.id = st' x.id) (p : Pr) (i : Nat) : stepB N st p i = stepB N st' p i := by
  have hf : ∀ nb, (findN N nb).2 = true → st nb = st' nb := fun nb hb => by
    obtain ⟨m1, m2⟩ := findN_mem hb
    have := h _ m1
    rwa [m2] at this
  have e1 := pair_congr (N := N) (own := p.id) (nb := (linkB N p i).1) (lev := i) (z1 := (nearAt (st (linkB N p i).1) i).1) (o1 := (nearAt (st (linkB N p i).1) i).2.1) (z2 := (nearAt (st' (linkB N p i).1) i).1) (o2 := (nearAt (st' (linkB N p i).1) i).2.1)
    (fun hb => by rw [hf _ hb]; exact ⟨rfl, rfl⟩)
  have e2 := pair_congr (N := N) (own := p.id) (nb := (linkB N p i).2) (lev := i) (z1 := (nearAt (st (linkB N p i).2) i).2.2.1) (o1 := (nearAt (st (linkB N p i).2) i).2.2.2) (z2 := (nearAt (st' (linkB N p i).2) i).2.2.1) (o2 := (nearAt (st' (linkB N p i).2) i).2.2.2)
    (fun hb => by rw [hf _ hb]; exact ⟨rfl, rfl⟩)
  unfold stepB
  rw [e1, e2]
theorem next_congr {st st' : Int → Pr} (h : ∀ x ∈ N, st x.id = st' x.id) (p : Pr) (k : Nat) : nextB N st p k = nextB N st' p k := by
  unfold nextB
  exact List.map_congr_left fun i _ => step_congr h p i
theorem broundN_map {P : List Pr} (h0 : checkN N = 0) {h : Nat} (hh : h ≤ 16) : bRoundN N P (h : Int) = (sortN N).map fun x => { peerN P x.id with near := nextB N (peerN P) (peerN P x.id) h } := by
  unfold bRoundN
  rw [if_pos (by unfold lvlN; simp; omega)]
  have hc : ∀ p, nextB N (peerN (normalN N P)) p h = nextB N (peerN P) p h := fun p => next_congr (fun x hx => normal_peer h0 hx) p h
  simp only [show ((h : Int)).toNat = h by omega, hc]
  unfold normalN
  rw [if_pos h0, List.map_map]
  rfl
def nearG (N : List Nd) (x : Nd) (i : Nat) : Nr :=
  (lastI (((grpS N i x.word).takeWhile fun y => !(y.id == x.id)).filter (bitIs i 0)), lastI (((grpS N i x.word).takeWhile fun y => !(y.id == x.id)).filter (bitIs i 1)),
   headI ((((grpS N i x.word).dropWhile fun y => !(y.id == x.id)).drop 1).filter (bitIs i 0)), headI ((((grpS N i x.word).dropWhile fun y => !(y.id == x.id)).drop 1).filter (bitIs i 1)))
theorem nearG_at (h0 : checkN N = 0) {x : Nd} {i : Nat} {A B : List Nd} (e : grpS N i x.word = A ++ x :: B) : nearG N x i = (lastI (A.filter (bitIs i 0)), lastI (A.filter (bitIs i 1)), headI (B.filter (bitIs i 0)), headI (B.filter (bitIs i 1))) := by
  obtain ⟨hA, _⟩ := grp_parts h0 e
  have h1 : (A ++ x :: B).takeWhile (fun y => !(y.id == x.id)) = A := by
    rw [List.takeWhile_append_of_pos (fun y hy => by simpa using (hA y hy).2), List.takeWhile_cons_of_neg (by simp), List.append_nil]
  have h2 : (A ++ x :: B).dropWhile (fun y => !(y.id == x.id)) = x :: B := by
    rw [List.dropWhile_append_of_pos (fun y hy => by simpa using (hA y hy).2), List.dropWhile_cons_of_neg (by simp)]
  unfold nearG
  rw [e, h1, h2]
  rfl
end
end Go.Proofs.YtbnbjiddffihoaaGreatDoor

/- Components by labels, in plain Lean. -/
namespace Go.Proofs.YtbnbjiddffihoaaGreatDoor
open Go.RowKit

namespace Lab
def joinL (lab : List Nat) (i j : Nat) : List Nat := (lab.set i (min (lab.getD i 0) (lab.getD j 0))).set j (min (lab.getD i 0) (lab.getD j 0))
def stepL (ids : List Int) (lab : List Nat) (q : Int × Int) : List Nat := match ids.findIdx? (· == q.1), ids.findIdx? (· == q.2) with
  | some i, some j => joinL lab i j
  | _, _ => lab
def sweepL (ids : List Int) (E : List (Int × Int)) (lab : List Nat) : List Nat := E.foldl (stepL ids) lab
def labsL (ids : List Int) (E : List (Int × Int)) : Nat → List Nat
  | 0 => List.range ids.length
  | t + 1 => sweepL ids E (labsL ids E t)
def partsL (ids : List Int) (E : List (Int × Int)) : Nat := ((List.range ids.length).filter fun i => (labsL ids E ids.length).getD i 0 == i).length
def Ed (ids : List Int) (E : List (Int × Int)) (i j : Nat) : Prop := ∃ q ∈ E, ids.findIdx? (· == q.1) = some i ∧ ids.findIdx? (· == q.2) = some j
inductive Cn (ids : List Int) (E : List (Int × Int)) : Nat → Nat → Prop
  | refl (i : Nat) : Cn ids E i i
  | step {i j k : Nat} : Ed ids E i j ∨ Ed ids E j i → Cn ids E j k → Cn ids E i k
variable {ids : List Int} {E : List (Int × Int)}
theorem Cn.trans {i j k : Nat} (h : Cn ids E i j) (g : Cn ids E j k) : Cn ids E i k := by
  induction h with
  | refl _ => exact g
  | step h1 _ ih => exact .step h1 (ih g)
theorem Cn.one {i j : Nat} (h : Ed ids E i j ∨ Ed ids E j i) : Cn ids E i j := .step h (.refl j)
theorem Cn.symm {i j : Nat} (h : Cn ids E i j) : Cn ids E j i := by
  induction h with
  | refl _ => exact .refl _
  | step h1 _ ih => exact ih.trans (.one h1.symm)
theorem ed_lt {i j : Nat} (h : Ed ids E i j) : i < ids.length ∧ j < ids.length := by
  obtain ⟨q, _, h1, h2⟩ := h
  exact ⟨(List.findIdx?_eq_some_iff_getElem.1 h1).1, (List.findIdx?_eq_some_iff_getElem.1 h2).1⟩
theorem set_getD (l : List Nat) (i x k : Nat) (h : i < l.length) : (l.set i x).getD k 0 = if k = i then x else l.getD k 0 := by
  rw [List.getD_eq_getElem?_getD, List.getD_eq_getElem?_getD]
  by_cases hk : k = i
  · subst hk; rw [if_pos rfl, List.getElem?_set_self h]; rfl
  · rw [if_neg hk, List.getElem?_set_ne (Ne.symm hk)]
theorem join_getD (lab : List Nat) (i j k : Nat) (hi : i < lab.length) (hj : j < lab.length) : (joinL lab i j).getD k 0 = if k = i ∨ k = j then min (lab.getD i 0) (lab.getD j 0) else lab.getD k 0 := by
  unfold joinL
  rw [set_getD _ _ _ _ (by simp; exact hj), set_getD _ _ _ _ hi]
  by_cases h1 : k = j
  · rw [if_pos h1, if_pos (.inr h1)]
  · rw [if_neg h1]
    by_cases h2 : k = i
    · rw [if_pos h2, if_pos (.inl h2)]
    · rw [if_neg h2, if_neg (by rintro (h | h); exact h2 h; exact h1 h)]
theorem join_len (lab : List Nat) (i j : Nat) : (joinL lab i j).length = lab.length := by unfold joinL; simp
def Okl (ids : List Int) (E : List (Int × Int)) (lab : List Nat) : Prop := lab.length = ids.length ∧ ∀ i, i < ids.length → lab.getD i 0 ≤ i ∧ Cn ids E i (lab.getD i 0)
def Lel (a b : List Nat) : Prop := ∀ i, b.getD i 0 ≤ a.getD i 0
theorem stepl_ok {lab : List Nat} (h : Okl ids E lab) {q : Int × Int} (hq : q ∈ E) : Okl ids E (stepL ids lab q) ∧ Lel lab (stepL ids lab q) := by
  unfold stepL
  cases h1 : ids.findIdx? (· == q.1) with
  | none => exact ⟨h, fun i => Nat.le_refl _⟩
  | some i =>
    cases h2 : ids.findIdx? (· == q.2) with
    | none => exact ⟨h, fun i => Nat.le_refl _⟩
    | some j =>
      simp only
      have he : Ed ids E i j := ⟨q, hq, h1, h2⟩
      obtain ⟨hi, hj⟩ := ed_lt he
      have li : i < lab.length := by rw [h.1]; exact hi
      have lj : j < lab.length := by rw [h.1]; exact hj
      have ci := h.2 i hi
      have cj := h.2 j hj
      have hij : Cn ids E i j := .one (.inl he)
      refine ⟨⟨by rw [join_len]; exact h.1, fun k hk => ?_⟩, fun k => ?_⟩
      · rw [join_getD lab i j k li lj]
        by_cases hkk : k = i ∨ k = j
        · rw [if_pos hkk]
          rcases hkk with rfl | rfl
          · refine ⟨by omega, ?_⟩
            rcases Nat.le_total (lab.getD k 0) (lab.getD j 0) with h | h
            · rw [Nat.min_eq_left h]; exact ci.2
            · rw [Nat.min_eq_right h]; exact hij.trans cj.2
          · refine ⟨by omega, ?_⟩
            rcases Nat.le_total (lab.getD i 0) (lab.getD k 0) with h | h
            · rw [Nat.min_eq_left h]; exact hij.symm.trans ci.2
            · rw [Nat.min_eq_right h]; exact cj.2
        · rw [if_neg hkk]; exact h.2 k hk
      · rw [join_getD lab i j k li lj]
        by_cases hkk : k = i ∨ k = j
        · rw [if_pos hkk]
          rcases hkk with rfl | rfl <;> omega
        · rw [if_neg hkk]; exact Nat.le_refl _
theorem fold_ok : ∀ (F : List (Int × Int)) (lab : List Nat), (∀ q ∈ F, q ∈ E) → Okl ids E lab → Okl ids E (F.foldl (stepL ids) lab) ∧ Lel lab (F.foldl (stepL ids) lab)
  | [], lab, _, h => ⟨h, fun _ => Nat.le_refl _⟩
  | q :: F, lab, hF, h => by
    obtain ⟨h1, h2⟩ := stepl_ok h (hF q (by simp))
    obtain ⟨h3, h4⟩ := fold_ok F _ (fun r hr => hF r (by simp [hr])) h1
    exact ⟨h3, fun i => Nat.le_trans (h4 i) (h2 i)⟩
theorem labs_ok : ∀ t, Okl ids E (labsL ids E t)
  | 0 => ⟨by simp [labsL], fun i hi => by
      have : (labsL ids E 0).getD i 0 = i := by unfold labsL; rw [List.getD_eq_getElem?_getD, List.getElem?_range hi]; rfl
      rw [this]
      exact ⟨Nat.le_refl _, .refl _⟩⟩
  | t + 1 => (fold_ok E _ (fun _ h => h) (labs_ok t)).1
theorem labs_le (t : Nat) : Lel (labsL ids E t) (labsL ids E (t + 1)) := (fold_ok E _ (fun _ h => h) (labs_ok t)).2
theorem carry {c : Nat} : ∀ (F : List (Int × Int)) (lab : List Nat), (∀ q ∈ F, q ∈ E) → Okl ids E lab → ∀ {q : Int × Int} {i j : Nat}, q ∈ F → ids.findIdx? (· == q.1) = some i → ids.findIdx? (· == q.2) = some j →
    (lab.getD i 0 ≤ c ∨ lab.getD j 0 ≤ c) → (F.foldl (stepL ids) lab).getD i 0 ≤ c ∧ (F.foldl (stepL ids) lab).getD j 0 ≤ c
  | [], _, _, _, _, _, _, hq, _, _, _ => by cases hq
  | r :: F, lab, hF, h, q, i, j, hq, h1, h2, hc => by
    have ho := stepl_ok h (hF r (by simp))
    have hl := (fold_ok F _ (fun r hr => hF r (by simp [hr])) ho.1).2
    show (F.foldl (stepL ids) (stepL ids lab r)).getD i 0 ≤ c ∧ (F.foldl (stepL ids) (stepL ids lab r)).getD j 0 ≤ c
    rcases List.mem_cons.1 hq with rfl | hq
    · have he : Ed ids E i j := ⟨q, hF q (by simp), h1, h2⟩
      obtain ⟨hi, hj⟩ := ed_lt he
      have li : i < lab.length := by rw [h.1]; exact hi
      have lj : j < lab.length := by rw [h.1]; exact hj
      have e : stepL ids lab q = joinL lab i j := by unfold stepL; rw [h1, h2]
      have gi : (stepL ids lab q).getD i 0 ≤ c := by rw [e, join_getD lab i j i li lj, if_pos (.inl rfl)]; omega
      have gj : (stepL ids lab q).getD j 0 ≤ c := by rw [e, join_getD lab i j j li lj, if_pos (.inr rfl)]; omega
      exact ⟨Nat.le_trans (hl i) gi, Nat.le_trans (hl j) gj⟩
    · refine carry F _ (fun r hr => hF r (by simp [hr])) ho.1 hq h1 h2 ?_
      rcases hc with hc | hc
      · exact .inl (Nat.le_trans (ho.2 i) hc)
      · exact .inr (Nat.le_trans (ho.2 j) hc)
theorem carry_labs {c t i j : Nat} (he : Ed ids E i j ∨ Ed ids E j i) (hc : (labsL ids E t).getD i 0 ≤ c) : (labsL ids E (t + 1)).getD j 0 ≤ c := by
  rcases he with ⟨q, hq, h1, h2⟩ | ⟨q, hq, h1, h2⟩
  · exact (carry E _ (fun _ h => h) (labs_ok t) hq h1 h2 (.inl hc)).2
  · exact (carry E _ (fun _ h => h) (labs_ok t) hq h1 h2 (.inr hc)).1
theorem border {P : Nat → Prop} (hdec : ∀ i, P i ∨ ¬ P i) {i j : Nat} (h : Cn ids E i j) : P i → ¬ P j → ∃ u v, (Ed ids E u v ∨ Ed ids E v u) ∧ P u ∧ ¬ P v ∧ Cn ids E i v := by
  induction h with
  | refl _ => intro h1 h2; exact absurd h1 h2
  | step h1 g ih =>
    rename_i i k j
    intro hi hj
    rcases hdec k with hk | hk
    · obtain ⟨u, v, h2, h3, h4, h5⟩ := ih hk hj
      exact ⟨u, v, h2, h3, h4, (Cn.one h1).trans h5⟩
    · exact ⟨i, k, h1, hi, hk, .one h1⟩
theorem conv {c : Nat} (hc : c < ids.length) {j : Nat} (hj : j < ids.length) (h : Cn ids E c j) : (labsL ids E ids.length).getD j 0 ≤ c := by
  -- the number of places that bear c or less grows until all of the component do
  have grow : ∀ t, (∀ j, j < ids.length → Cn ids E c j → (labsL ids E t).getD j 0 ≤ c) ∨ t + 1 ≤ ((List.range ids.length).countP fun i => decide ((labsL ids E t).getD i 0 ≤ c)) := by
    intro t
    induction t with
    | zero =>
      right
      refine List.countP_pos_iff.2 ⟨c, by simpa using hc, ?_⟩
      have := ((labs_ok (ids := ids) (E := E) 0).2 c hc).1
      simpa using this
    | succ t ih =>
      rcases ih with h | h
      · left
        intro j hj hcj
        exact Nat.le_trans (labs_le t j) (h j hj hcj)
      · by_cases hall : ∀ j, j < ids.length → Cn ids E c j → (labsL ids E t).getD j 0 ≤ c
        · left
          intro j hj hcj
          exact Nat.le_trans (labs_le t j) (hall j hj hcj)
        · right
          have hex : ∃ j, j < ids.length ∧ Cn ids E c j ∧ ¬ (labsL ids E t).getD j 0 ≤ c := by
            apply Classical.byContradiction
            intro hno
            exact hall fun j hj hcj => Classical.byContradiction fun hn => hno ⟨j, hj, hcj, hn⟩
          obtain ⟨j, hj, hcj, hn⟩ := hex
          obtain ⟨u, v, he, hu, hv, _⟩ := border (P := fun i => (labsL ids E t).getD i 0 ≤ c) (fun i => Classical.em _) hcj ((labs_ok (ids := ids) (E := E) t).2 c hc).1 hn
          have hvl : v < ids.length := by rcases he with h | h; exact (ed_lt h).2; exact (ed_lt h).1
          have := carry_labs he hu
          have hlt : ((List.range ids.length).countP fun i => decide ((labsL ids E t).getD i 0 ≤ c)) < ((List.range ids.length).countP fun i => decide ((labsL ids E (t + 1)).getD i 0 ≤ c)) :=
            count_lt (y := v) (by simpa using hvl) (fun z hz => by simp only [decide_eq_true_eq] at hz ⊢; exact Nat.le_trans (labs_le t z) hz) (by simpa using this) (by simpa using hv)
          omega
  rcases grow ids.length with g | g
  · exact g j hj h
  · have : ((List.range ids.length).countP fun i => decide ((labsL ids E ids.length).getD i 0 ≤ c)) ≤ (List.range ids.length).length := List.countP_le_length
    rw [List.length_range] at this
    omega
theorem parts_le_one : partsL ids E ≤ 1 ↔ ∀ i j, i < ids.length → j < ids.length → Cn ids E i j := by
  have hp : partsL ids E = (List.range ids.length).countP fun i => (labsL ids E ids.length).getD i 0 == i := (List.countP_eq_length_filter).symm
  constructor
  · intro h i j hi hj
    -- the labels of both are the only place that bears itself
    have root : ∀ k, k < ids.length → ∃ c, c < ids.length ∧ Cn ids E k c ∧ (labsL ids E ids.length).getD c 0 = c := by
      intro k
      induction k using Nat.strongRecOn with
      | ind k ih =>
        intro hk
        obtain ⟨h1, h2⟩ := (labs_ok (ids := ids) (E := E) ids.length).2 k hk
        by_cases he : (labsL ids E ids.length).getD k 0 = k
        · exact ⟨k, hk, .refl _, he⟩
        · obtain ⟨c, g1, g2, g3⟩ := ih ((labsL ids E ids.length).getD k 0) (by omega) (by omega)
          exact ⟨c, g1, h2.trans g2, g3⟩
    obtain ⟨a, a1, a2, a3⟩ := root i hi
    obtain ⟨b, b1, b2, b3⟩ := root j hj
    have hab : a = b := by
      apply Classical.byContradiction
      intro hne
      rw [hp] at h
      have hmem : ∀ {c}, c < ids.length → (labsL ids E ids.length).getD c 0 = c → c ∈ (List.range ids.length).filter fun i => (labsL ids E ids.length).getD i 0 == i := fun h1 h2 => List.mem_filter.2 ⟨by simpa using h1, by simpa using h2⟩
      have ha := hmem a1 a3
      have hb := hmem b1 b3
      rw [List.countP_eq_length_filter] at h
      match hl : (List.range ids.length).filter (fun i => (labsL ids E ids.length).getD i 0 == i), h, ha, hb with
      | [], _, ha, _ => cases ha
      | [z], _, ha, hb =>
        have e1 := List.mem_singleton.1 ha
        have e2 := List.mem_singleton.1 hb
        exact hne (e1.trans e2.symm)
      | _ :: _ :: _, h, _, _ => simp at h
    subst hab
    exact a2.trans b2.symm
  · intro h
    rw [hp]
    rcases Nat.eq_zero_or_pos ids.length with h0 | h0
    · rw [h0]; simp
    · have hz : ∀ i, i < ids.length → ((labsL ids E ids.length).getD i 0 == i) = (i == 0) := by
        intro i hi
        have := conv (E := E) h0 hi (h 0 i h0 hi)
        rw [Bool.eq_iff_iff, beq_iff_eq, beq_iff_eq]
        omega
      have : ((List.range ids.length).countP fun i => (labsL ids E ids.length).getD i 0 == i) = (List.range ids.length).countP fun i => i == 0 := by
        refine List.countP_congr fun i hi => ?_
        rw [hz i (by simpa using hi)]
      rw [this]
      have : (List.range ids.length).countP (fun i => i == 0) = (List.range ids.length).count 0 := rfl
      rw [this]
      have hnd : (List.range ids.length).Nodup := List.nodup_range
      exact List.nodup_iff_count.1 hnd 0
end Lab
end Go.Proofs.YtbnbjiddffihoaaGreatDoor

/- What connects the nodes, by labels; in plain Lean. -/
namespace Go.Proofs.YtbnbjiddffihoaaGreatDoor
open Go.RowKit

def pairsN (N : List Nd) (P : List Pr) : List (Int × Int) := N.flatMap fun x => (refsN N (peerN P x.id)).map fun v => (x.id, v)
def InE (N : List Nd) (E : List (Int × Int)) (u v : Int) : Prop := (u, v) ∈ E ∧ (∃ x ∈ N, x.id = u) ∧ ∃ y ∈ N, y.id = v
section
variable {N : List Nd} {E : List (Int × Int)}
theorem ids_get (h0 : checkN N = 0) {v : Int} {i : Nat} : (N.map Nd.id).findIdx? (· == v) = some i ↔ (N.map Nd.id)[i]? = some v := by
  have hk := check_keys h0
  constructor
  · intro h
    obtain ⟨h1, h2, _⟩ := List.findIdx?_eq_some_iff_getElem.1 h
    rw [List.getElem?_eq_getElem h1]
    simpa using h2
  · intro h
    obtain ⟨h1, h2⟩ := List.getElem?_eq_some_iff.1 h
    refine List.findIdx?_eq_some_iff_getElem.2 ⟨h1, by simpa using h2, fun j hj => ?_⟩
    have hjl : j < N.length := by simp at h1; omega
    have hil : i < N.length := by simpa using h1
    have := (hk i j N[i] N[j] hj (List.getElem?_eq_getElem hil) (List.getElem?_eq_getElem hjl)).2
    simp only [List.getElem_map, beq_iff_eq] at h2 ⊢
    intro he
    exact this (h2.trans he.symm)
theorem ed_iff (h0 : checkN N = 0) {i j : Nat} {x y : Nd} (hx : N[i]? = some x) (hy : N[j]? = some y) : Lab.Ed (N.map Nd.id) E i j ↔ InE N E x.id y.id := by
  have hx' : (N.map Nd.id)[i]? = some x.id := by rw [List.getElem?_map, hx]; rfl
  have hy' : (N.map Nd.id)[j]? = some y.id := by rw [List.getElem?_map, hy]; rfl
  constructor
  · rintro ⟨q, hq, h1, h2⟩
    have e1 := (ids_get h0).1 h1
    have e2 := (ids_get h0).1 h2
    rw [hx'] at e1
    rw [hy'] at e2
    cases q
    simp only [Option.some.injEq] at e1 e2
    subst e1 e2
    exact ⟨hq, ⟨x, List.mem_of_getElem? hx, rfl⟩, y, List.mem_of_getElem? hy, rfl⟩
  · rintro ⟨h, _, _⟩
    exact ⟨_, h, (ids_get h0).2 hx', (ids_get h0).2 hy'⟩
theorem node_get {i : Nat} (hi : i < (N.map Nd.id).length) : ∃ x, N[i]? = some x := ⟨N[i]'(by simpa using hi), by simp⟩
theorem cn_cl (h0 : checkN N = 0) {i j : Nat} (h : Lab.Cn (N.map Nd.id) E i j) : ∀ {x y : Nd}, N[i]? = some x → N[j]? = some y → Cl (InE N E) x.id y.id := by
  induction h with
  | refl i => intro x y hx hy; rw [hx] at hy; cases hy; exact .refl _
  | step h1 g ih =>
    rename_i i k j
    intro x y hx hy
    obtain ⟨z, hz⟩ : ∃ z, N[k]? = some z := node_get (by rcases h1 with h | h; exact (Lab.ed_lt h).2; exact (Lab.ed_lt h).1)
    exact (Cl.one (h1.imp (ed_iff h0 hx hz).1 (ed_iff h0 hz hx).1)).trans (ih hz hy)
theorem cl_cn (h0 : checkN N = 0) {u v : Int} (h : Cl (InE N E) u v) : ∀ {i j : Nat} {x y : Nd}, N[i]? = some x → N[j]? = some y → x.id = u → y.id = v → Lab.Cn (N.map Nd.id) E i j := by
  induction h with
  | refl u =>
    intro i j x y hx hy h1 h2
    have e1 : (N.map Nd.id)[i]? = some u := by rw [List.getElem?_map, hx, ← h1]; rfl
    have e2 : (N.map Nd.id)[j]? = some u := by rw [List.getElem?_map, hy, ← h2]; rfl
    have := (ids_get h0).2 e1
    rw [(ids_get h0).2 e2] at this
    cases this
    exact .refl _
  | step h1 g ih =>
    rename_i u c v
    intro i j x y hx hy hxu hyv
    obtain ⟨z, hz, hzc⟩ : ∃ z ∈ N, z.id = c := by
      rcases h1 with h | h
      · exact h.2.2
      · exact h.2.1
    obtain ⟨k, hk⟩ := List.mem_iff_getElem?.1 hz
    rw [← hxu, ← hzc] at h1
    exact (Lab.Cn.one (h1.imp (ed_iff h0 hx hk).2 (ed_iff h0 hk hx).2)).trans (ih hk hy hzc hyv)
theorem joined_iff (h0 : checkN N = 0) : Lab.partsL (N.map Nd.id) E ≤ 1 ↔ ∀ x ∈ N, ∀ y ∈ N, Cl (InE N E) x.id y.id := by
  rw [Lab.parts_le_one]
  constructor
  · intro h x hx y hy
    obtain ⟨i, hi⟩ := List.mem_iff_getElem?.1 hx
    obtain ⟨j, hj⟩ := List.mem_iff_getElem?.1 hy
    have li := (List.getElem?_eq_some_iff.1 hi).1
    have lj := (List.getElem?_eq_some_iff.1 hj).1
    exact cn_cl h0 (h i j (by simpa using li) (by simpa using lj)) hi hj
  · intro h i j hi hj
    obtain ⟨x, hx⟩ := node_get hi
    obtain ⟨y, hy⟩ := node_get hj
    exact cl_cn h0 (h x (List.mem_of_getElem? hx) y (List.mem_of_getElem? hy)) hx hy rfl rfl
theorem pairs_in {P : List Pr} (h0 : checkN N = 0) {u v : Int} : InE N (pairsN N P) u v ↔ EdgeN N P u v := by
  unfold InE pairsN
  simp only [List.mem_flatMap, List.mem_map, Prod.mk.injEq]
  constructor
  · rintro ⟨⟨x, hx, w, hw, rfl, rfl⟩, _, _⟩
    exact ⟨⟨x, hx, rfl⟩, hw⟩
  · rintro ⟨⟨x, hx, rfl⟩, hv⟩
    exact ⟨⟨x, hx, v, hv, rfl, rfl⟩, ⟨x, hx, rfl⟩, ((mem_refs h0).1 hv).1⟩
theorem conn_iff {P : List Pr} (h0 : checkN N = 0) : Lab.partsL (N.map Nd.id) (pairsN N P) ≤ 1 ↔ ConnN N P := by
  rw [joined_iff h0]
  constructor
  · intro h
    exact ⟨h0, fun x hx y hy => (h x hx y hy).mono (fun a b hab => .one (.inl ((pairs_in h0).1 hab)))⟩
  · rintro ⟨_, h⟩ x hx y hy
    exact (h x hx y hy).mono (fun a b hab => .one (.inl ((pairs_in h0).2 hab)))
def connB (N : List Nd) (P : List Pr) : Bool := checkN N == 0 && decide (Lab.partsL (N.map Nd.id) (pairsN N P) ≤ 1)
theorem connB_iff {P : List Pr} : connB N P = true ↔ ConnN N P := by
  unfold connB
  rw [Bool.and_eq_true, beq_iff_eq, decide_eq_true_eq]
  constructor
  · rintro ⟨h1, h2⟩; exact (conn_iff h1).1 h2
  · intro h; exact ⟨h.1, (conn_iff h.1).2 h⟩
end
end Go.Proofs.YtbnbjiddffihoaaGreatDoor

/- Without of the package roster: slices.Index, Contains, DeleteFunc. -/
namespace Go.Proofs.YtbnbjiddffihoaaGreatDoor
open Go.RowKit

end Go.Proofs.YtbnbjiddffihoaaGreatDoor

/- Contacts, gaps and the peers that know them, in plain Lean. -/
namespace Go.Proofs.YtbnbjiddffihoaaGreatDoor
open Go.RowKit

def besideN (g : List Nd) (k : Nat) (m : Int) : List Int := (g.zipIdx.filter fun q => decide (q.2 ≠ k) && decide ((q.2 : Int) - k ≤ m) && decide ((k : Int) - q.2 ≤ m)).map fun q => q.1.id
def contactsN (N : List Nd) (id width height : Int) : List Int :=
  if width < 1 ∨ lvlN height = false ∨ checkN N ≠ 0 then [] else ordN N ((List.range (height.toNat + 1)).flatMap fun (h : Nat) => besideN (throughN N id h).1 (throughN N id h).2.1 width) id
def peerC (N : List Nd) (width height : Int) (x : Nd) : Pr :=
  ⟨x.id, (neighN (sortN N) x.id 0).1.1, (neighN (sortN N) x.id 0).1.2, contactsN (sortN N) x.id width height, (List.range height.toNat).map (nearG (sortN N) x)⟩
def peersN (N : List Nd) (width height : Int) : List Pr := if checkN N = 0 ∧ lvlN height = true then (sortN N).map (peerC N width height) else []
theorem mem_beside {g : List Nd} {k : Nat} {m v : Int} : v ∈ besideN g k m ↔ ∃ j y, g[j]? = some y ∧ j ≠ k ∧ (j : Int) - k ≤ m ∧ (k : Int) - j ≤ m ∧ y.id = v := by
  unfold besideN
  rw [List.mem_map]
  constructor
  · rintro ⟨⟨y, j⟩, h1, rfl⟩
    obtain ⟨h2, h3⟩ := List.mem_filter.1 h1
    have h4 := List.mem_zipIdx_iff_getElem?.1 h2
    simp only [Bool.and_eq_true, decide_eq_true_eq] at h3
    exact ⟨j, y, h4, h3.1.1, h3.1.2, h3.2, rfl⟩
  · rintro ⟨j, y, h1, h2, h3, h4, rfl⟩
    refine ⟨(y, j), List.mem_filter.2 ⟨List.mem_zipIdx_iff_getElem?.2 h1, ?_⟩, rfl⟩
    simp only [Bool.and_eq_true, decide_eq_true_eq]
    exact ⟨⟨h2, h3⟩, h4⟩
section
variable {N : List Nd}
theorem thr_at (h0 : checkN N = 0) {x : Nd} (hx : x ∈ N) {h : Nat} (hh : h ≤ 16) : throughN N x.id h = (grpS N h x.word, idxI (grpS N h x.word) x.id, true) ∧ (grpS N h x.word)[idxI (grpS N h x.word) x.id]? = some x := by
  have hf := find_in h0 hx
  have hG : thrG N x.id h = grpS N h x.word := by unfold thrG; rw [hf]; rfl
  obtain ⟨A, B, e⟩ := grp_at hx (h := (h : Int)) (by unfold lvlN; simp; omega)
  have hi : idxI (grpS N h x.word) x.id = A.length := by
    have ha := grp_asc h0 (h : Int) x.word
    rw [e] at ha ⊢
    exact idxI_at ha (i := A.length) (x := x) (by simp)
  have hat : (grpS N h x.word)[idxI (grpS N h x.word) x.id]? = some x := by rw [hi, e]; simp
  refine ⟨?_, hat⟩
  unfold throughN
  rw [hG, if_pos ⟨by rw [hf], by rw [h0]; rfl, by unfold lvlN; simp; omega, (List.getElem?_eq_some_iff.1 hat).1⟩]
theorem thr_no {id : Int} (h : ∀ x ∈ N, x.id ≠ id) (l : Int) : throughN N id l = ([], 0, false) := by
  unfold throughN
  rw [if_neg]
  rintro ⟨h1, _⟩
  rw [findN_none fun j z _ hz => h z (List.mem_of_getElem? hz)] at h1
  cases h1
def Near (N : List Nd) (x y : Nd) (w : Int) (h : Nat) : Prop := ∃ i k j : Nat, i ≤ h ∧ (grpS N (i : Int) x.word)[k]? = some x ∧ (grpS N (i : Int) x.word)[j]? = some y ∧ j ≠ k ∧ (j : Int) - k ≤ w ∧ (k : Int) - j ≤ w
theorem grp_uniq (h0 : checkN N = 0) {i : Int} {v k j : Nat} {x y : Nd} (hk : (grpS N i v)[k]? = some x) (hj : (grpS N i v)[j]? = some y) (he : x.id = y.id) : k = j := by
  have := idxI_at (grp_asc h0 i v) hk
  have := idxI_at (grp_asc h0 i v) hj
  rw [he] at *
  omega
theorem chain_cl {R : Int → Int → Prop} : ∀ (S : List Nd), (∀ A a b B, S = A ++ a :: b :: B → R a.id b.id) → ∀ x ∈ S, ∀ y ∈ S, Cl R x.id y.id
  | [], _, x, hx, _, _ => by cases hx
  | [a], _, x, hx, y, hy => by
    simp only [List.mem_singleton] at hx hy
    subst hx hy
    exact .refl _
  | a :: b :: S, h, x, hx, y, hy => by
    have ih := chain_cl (b :: S) (fun A u v B e => h (a :: A) u v B (by rw [e]; rfl))
    have hab : Cl R a.id b.id := Cl.one (.inl (h [] a b S rfl))
    have hb : ∀ z ∈ a :: b :: S, Cl R b.id z.id := by
      intro z hz
      rcases List.mem_cons.1 hz with rfl | hz
      · exact hab.symm
      · exact ih b (by simp) z hz
    exact (hb x hx).symm.trans (hb y hy)
theorem contacts_sort (h0 : checkN N = 0) (id w h : Int) : contactsN (sortN N) id w h = contactsN N id w h := by
  have hs : sortN (sortN N) = sortN N := sort_perm (sortN_perm N) h0
  have hc : checkN (sortN N) = checkN N := by rw [check_perm (sortN_perm N) h0, h0]
  have ht : ∀ (i : Nat), throughN (sortN N) id i = throughN N id i := by
    intro i
    by_cases hx : ∃ x ∈ N, x.id = id
    · obtain ⟨x, hx, rfl⟩ := hx
      unfold throughN thrG
      rw [find_in h0 hx, find_in (hc.trans h0) ((sortN_mem N x).2 hx), hs, hc]
    · rw [thr_no (fun x hx' he => hx ⟨x, hx', he⟩), thr_no (fun x hx' he => hx ⟨x, (sortN_mem N x).1 hx', he⟩)]
  unfold contactsN ordN
  simp only [ht, hs, hc]
end
end Go.Proofs.YtbnbjiddffihoaaGreatDoor

/- Has and Ordered and Gap of the reference. -/
namespace Go.Proofs.YtbnbjiddffihoaaGreatDoor
open Go.RowKit

def OiPost (l : List Int) (w : World) (e : Ending) (w' : World) : Prop := ∃ v, e = .returned v ∧ OwnL 1 encI 3 w.heap.size w' v l ∧ Ex w w'
def HasRel (l : List Int) (v : Int) (n : Nat) (w : World) (i : Value) (wr : World) : Prop :=
  ∃ k : Nat, k ≤ n ∧ i = .int .i64 k ∧ Ex w wr ∧ ∀ j z, j < k → l[j]? = some z → z ≠ v
set_option maxHeartbeats 1000000 in
theorem has_r (a : Option Addr) (n c : Nat) (l : List Int) (v : Int) (w : World) (h : Sl 1 encI w a n l) (hn : n ≤ 4000000000000000000) :
    Calls Tryz.prog 117 #[.slice a n c, .int .i64 v] w fun e w' => e = .returned (.bool (l.contains v)) ∧ Ex w w' := by
  have HL := Lib.hid h.len
  have hs := Lib.hid h
  clear h
  go_enter Tryz.func117, Tryz.ntmps117
  go_wp2_with fail
  go_loopw [5] (fun i wr => HasRel l v n w i wr) (fun i _ => n - (intOf i).toNat)
  case atStart => exact ⟨0, by omega, rfl, Ex.refl _, by intro j z h; omega⟩
  case round =>
    obtain ⟨k, hk, rfl, kw, hno⟩ := hrel
    have HNO := Lib.hid hno
    clear hno
    obtain ⟨wo, rfl⟩ : ∃ wo : World, wo = wr := ⟨_, rfl⟩
    by_cases hlt : k < n
    · obtain ⟨x1, o1, y, rfl, hx1, hy, hc1⟩ := (hs.out.nx kw).at hlt
      have e0 : wo.cell? ⟨x1, o1 + k, none⟩ = some (.int .i64 y) := by simpa using hc1 0 _ rfl
      have HY := Lib.hid hy
      have KW := Lib.hid kw
      clear hc1 hy kw
      by_cases hv : y = v
      · have HC : Hid (l.contains v = true) := Lib.hid (by rw [List.contains_iff_mem, ← hv]; exact List.mem_of_getElem? HY.out)
        have hb : (y == v) = true := by rw [hv]; simp
        clear hv
        go_wp2_with fail
        go_ret
        exact ⟨by rw [HC.out]; rfl, KW.out⟩
      · have HV := Lib.hid hv
        have hb : (y == v) = false := by rw [beq_eq_false_iff_ne]; exact hv
        clear hv
        go_wp2_with fail
        refine ⟨⟨k + 1, by omega, by go_num, KW.out, fun j z hj hz => ?_⟩, by simp [intOf]; omega⟩
        rcases Nat.lt_or_ge j k with h | h
        · exact HNO.out j z h hz
        · obtain rfl : j = k := by omega
          rw [Option.some.inj (hz.symm.trans HY.out)]
          exact HV.out
    · obtain rfl : k = n := by omega
      have HC : Hid (l.contains v = false) := Lib.hid (by
        cases hc : l.contains v with
        | false => rfl
        | true =>
          rw [List.contains_iff_mem] at hc
          obtain ⟨j, hj⟩ := List.mem_iff_getElem?.1 hc
          exact absurd rfl (HNO.out j v (by have := (List.getElem?_eq_some_iff.1 hj).1; rw [← HL.out]; exact this) hj))
      have KW := Lib.hid kw
      clear hk hlt kw
      go_wp2_with fail
      go_ret
      exact ⟨by rw [HC.out]; rfl, KW.out⟩

def ordP (l : List Int) (but : Int) (y : Nd) : Bool := !(y.id == but) && l.contains y.id
def OrdRel (S : List Nd) (l : List Int) (but : Int) (w : World) (o i : Value) (wr : World) : Prop :=
  ∃ j : Nat, j ≤ S.length ∧ i = .int .i64 j ∧ OwnL 1 encI 3 w.heap.size wr o (((S.take j).filter (ordP l but)).map Nd.id) ∧ Ex w wr
theorem ord_snoc {S : List Nd} {l : List Int} {but : Int} {j : Nat} {y : Nd} (hy : S[j]? = some y) :
    ((S.take (j + 1)).filter (ordP l but)).map Nd.id = ((S.take j).filter (ordP l but)).map Nd.id ++ (if ordP l but y = true then [y.id] else []) := by
  rw [List.take_add_one, hy, List.filter_append, List.map_append]
  congr 1
  by_cases hp : ordP l but y = true
  · rw [if_pos hp]; simp [hp]
  · rw [if_neg hp]; simp [hp]
set_option maxRecDepth 100000 in
set_option maxHeartbeats 2000000 in
theorem ordered_r (a : Option Addr) (n c : Nat) (N : List Nd) (a2 : Option Addr) (n2 c2 : Nat) (l : List Int) (but : Int) (w : World) (h : Sl 3 encN w a n N) (hn : n ≤ 1000) (h2 : Sl 1 encI w a2 n2 l) (hn2 : n2 ≤ 4000000000000000000) :
    Calls Tryz.prog 79 #[.slice a n c, .slice a2 n2 c2, .int .i64 but] w (OiPost (ordN N l but) w) := by
  have hNn : N.length ≤ 1000 := by have := h.len; omega
  go_enter Tryz.func79, Tryz.ntmps79
  go_wp2_with fail
  (with_reducible refine (sort_r _ _ _ _ _ h hn).mono ?_)
  rintro e w1 ⟨a1, n1, c1, rfl, own1, kk⟩
  replace h2 := h2.nx kk
  have S1 : Sl 3 encN w1 a1 n1 (sortN N) := Slf.sl own1
  have hn1 : n1 = (sortN N).length := S1.len.symm
  subst hn1
  have hSl : (sortN N).length ≤ 1000 := by rw [sortN_length]; exact hNn
  have ES : Hid (ordN N l but = ((sortN N).filter (ordP l but)).map Nd.id) := Lib.hid rfl
  generalize sortN N = S at S1 hSl ES own1 ⊢
  have S1 := Lib.hid S1
  have H2 := Lib.hid h2
  have K1 : Hid (Ex w w1) := Lib.hid kk
  have hz1 := kk.size
  clear h own1 h2 kk hNn hn
  go_wp2_with fail
  go_loopw [7, 9] (fun o i wr => OrdRel S l but w1 o i wr) (fun _ i _ => S.length - (intOf i).toNat)
  case atStart => exact ⟨0, by omega, rfl, OwnL.nil _ _ _ _ _, Ex.refl _⟩
  case round =>
    obtain ⟨j, hj, rfl, own, ki⟩ := hrel
    obtain ⟨wi, rfl⟩ : ∃ wi : World, wi = wr := ⟨_, rfl⟩
    by_cases hjm : j < S.length
    · obtain ⟨x3, o3, y, rfl, hx3, hy, hc3⟩ := (S1.out.nx ki).at hjm
      have e0 : wi.cell? ⟨x3, o3 + j * 3, none⟩ = some (.int .i64 y.id) := hc3 0 _ rfl
      have SN := Lib.hid (ord_snoc (l := l) (but := but) hy)
      have hrl : (((S.take j).filter (ordP l but)).map Nd.id).length ≤ 1000 := by
        rw [List.length_map]
        have := List.length_filter_le (ordP l but) (S.take j)
        rw [List.length_take] at this
        omega
      generalize ((S.take j).filter (ordP l but)).map Nd.id = row at own SN hrl
      have OWN := Lib.hid own
      have KI := Lib.hid ki
      have zb := ki.size
      clear hy hc3 own ki
      by_cases hb : y.id = but
      · have hq : (y.id != but) = false := by simp [hb]
        have hq2 : (y.id == but) = true := by simp [hb]
        have PF : Hid (ordP l but y = false) := Lib.hid (by unfold ordP; rw [hq2]; rfl)
        clear hb
        go_wp2_with fail
        exact ⟨⟨j + 1, by omega, by go_num, by rw [SN.out, PF.out]; simpa using OWN.out, KI.out⟩, by simp [intOf]; omega⟩
      · have hq : (y.id != but) = true := by simpa using hb
        have hq2 : (y.id == but) = false := by simpa using hb
        clear hb
        go_wp2_with fail
        (with_reducible refine (has_r _ _ _ _ y.id _ (H2.out.nx KI.out) hn2).mono ?_)
        rintro e w5 ⟨rfl, kk⟩
        have K5 := Lib.hid kk
        have e5 : w5.cell? ⟨x3, o3 + j * 3, none⟩ = some (.int .i64 y.id) := Chg.cellv kk e0 hx3
        have own5 := OWN.out.nx kk
        have k5 := KI.out.nx kk
        have hx5 := Nat.lt_of_lt_of_le hx3 kk.size
        have zb5 := k5.size
        have PB : Hid (ordP l but y = l.contains y.id) := Lib.hid (by unfold ordP; rw [hq2]; rfl)
        clear kk e0
        generalize l.contains y.id = inl at PB ⊢
        cases inl with
        | false =>
          have K5' := Lib.hid k5
          have O5' := Lib.hid own5
          clear k5 own5
          go_wp2_with fail
          exact ⟨⟨j + 1, by omega, by go_num, by rw [SN.out, PB.out]; simpa using O5'.out, K5'.out⟩, by simp [intOf]; omega⟩
        | true =>
          generalize y.id = yi at SN e5 hq hq2 ⊢
          go_wp2_with (at_builtin; (refine wpList_append_lit (enc := encI) w5 rfl _ _ 22 rfl w1.heap.size 3 (.int .i64 0) 1 8 Tryz.underlying22 Tryz.infoI6 rfl (by omega) (by omega) _ _ own5 rfl (yi : Int) _ rfl rfl (by simp [encI, Value.oneCell']) _ (by simp) rfl (by omega) zb5 _ ?_); intro v6 w6 own6 _ ch1 _)
          refine ⟨⟨j + 1, by omega, by go_num, by rw [SN.out, PB.out]; exact own6, Chg.trans k5 ch1⟩, by simp [intOf]; omega⟩
    · obtain rfl : j = S.length := by omega
      rw [List.take_of_length_le (by omega)] at own
      have own := Lib.hid (own.base hz1)
      have KE := Lib.hid (K1.out.nx ki)
      clear hj hjm ki
      go_wp2_with fail
      go_ret
      exact ⟨_, rfl, by rw [ES.out]; exact own.out, KE.out⟩

end Go.Proofs.YtbnbjiddffihoaaGreatDoor

/- A set of numbers that the call itself has made: map[int]bool. -/
namespace Go.Proofs.YtbnbjiddffihoaaGreatDoor
open Go.RowKit Go.Maps

abbrev keyI (v : Int) : Lit := .int .i64 v
def SetM (P : Program) (k e : TypeId) (w : World) (b : Nat) (S : List Int) : Prop :=
  w.ownsMap (H := Unit) P k (plainElem P e) b S.length (setOf (.lit (.bool true)) (S.map keyI))
section
variable {P : Program} {k e t : TypeId} {w w' : World} {b : Nat} {S : List Int}
theorem SetM.made (w : World) (P : Program) (k e : TypeId) : SetM P k e (w.alloc (.map #[] 0)) w.heap.size [] := World.ownsMap_made _ _ _ _
theorem SetM.lt (h : SetM P k e w b S) : b < w.heap.size := World.ownsMap.lt h
theorem SetM.same (h : SetM P k e w b S) (hh : w'.heap[b]? = w.heap[b]?) : SetM P k e w' b S := by
  obtain ⟨es, clock, hb, r⟩ := h
  exact ⟨es, clock, hh.trans hb, r⟩
theorem SetM.nx (h : SetM P k e w b S) (kk : Ex w w') : SetM P k e w' b S := h.same (kk.block b h.lt)
theorem SetM.nxb {c : Nat} (h : SetM P k e w b S) (hc : b ≠ c) (kk : Exb c w w') : SetM P k e w' b S := h.same (kk.block b ⟨h.lt, hc⟩)
theorem key_lit (v : Int) : WideAt.IsKeyLit (keyI v) := by
  unfold keyI WideAt.IsKeyLit
  trivial
theorem set_atKey (S : List Int) (v : Int) : (setOf (H := Unit) (.lit (.bool true)) (S.map keyI)).atKey (keyI v) (.lit (.bool false)) = .lit (.bool (S.contains v)) := by
  have key : ∀ n, ∀ S : List Int, S.length = n → (setOf (H := Unit) (.lit (.bool true)) (S.map keyI)).atKey (keyI v) (.lit (.bool false)) = .lit (.bool (S.contains v)) := by
    intro n
    induction n with
    | zero =>
      intro S h
      rw [List.length_eq_zero_iff.1 h]
      rfl
    | succ n ih =>
      intro S h
      rcases List.eq_nil_or_concat S with rfl | ⟨S', x, rfl⟩
      · cases h
      · rw [List.concat_eq_append] at h ⊢
        have hi := ih S' (by simpa using h)
        rw [List.map_append, List.map_singleton, setOf_snoc]
        by_cases hx : v = x
        · subst hx
          rw [atKey_put_same (tidy_setOf _ _ (by intro y hy; obtain ⟨z, _, rfl⟩ := List.mem_map.1 hy; exact key_lit z)).isMap (key_lit v)]
          simp
        · rw [atKey_put_other (by simpa [keyI] using hx), hi]
          congr 2
          rw [Bool.eq_iff_iff]
          simp [hx]
  exact key _ S rfl
theorem plainElem_bool_inv (he : P.underlying e = some .bool) {v : Value} {x : Bool} {ps : List MemPlace} (h : plainElem (H := Unit) P e v = some (.lit (.bool x), ps)) : v = .bool x := by
  unfold plainElem at h
  rw [he] at h
  cases v <;> simp at h
  rw [h.1]
theorem SetM.get (h : SetM P k e w b S) (hk : P.underlying k = some (.int .i64)) (he : P.underlying e = some .bool) (ht : P.underlying t = some (.map k e)) (hz : (zeroValue e).run P w = .ok (.bool false) w) {v : Int} (hv : (Lit.int .i64 v).wf = true) :
    (Instr.lookup t (.map (some b)) (.int .i64 v) false).run P w = .ok (.bool (S.contains v)) w := by
  obtain ⟨u, ps, hrun, hR⟩ := World.ownsMap.lookup (t := t) (e := e) h (int_keyed hk) ht hz (plainElem_bool he false) (keyOf_int_mk hk hv)
  rw [set_atKey] at hR
  rw [hrun, plainElem_bool_inv he hR]
theorem turned_exb (h : w.mapTurned w' b) : Exb b w w' := by
  have g := h.grown
  exact ⟨g.os, g.tape, g.output, g.size, fun k hk => g.block k hk.1 (by simpa using hk.2)⟩
theorem SetM.put (h : SetM P k e w b S) (hk : P.underlying k = some (.int .i64)) (he : P.underlying e = some .bool) (ht : P.underlying t = some (.map k e)) (hS : S.length < 1000000) {v : Int} (hv : (Lit.int .i64 v).wf = true) :
    ∃ w', (Instr.mapUpdate t (.map (some b)) (.int .i64 v) (.bool true)).run P w = .ok () w' ∧ SetM P k e w' b (S ++ [v]) ∧ Exb b w w' ∧ w'.heap.size = w.heap.size := by
  obtain ⟨w', hrun, ho, ht'⟩ := World.ownsMap.store (t := t) (e := e) h (int_keyed hk) ht (by unfold maxLen; omega) (keyOf_int_mk hk hv) (plainElem_bool he true)
  refine ⟨w', hrun, ?_, turned_exb ht', ?_⟩
  · unfold SetM
    rw [List.map_append, List.map_singleton, setOf_snoc, List.length_append, List.length_singleton]
    exact ho
  · obtain ⟨es, clock, es', clock', hb, rfl⟩ := ht'
    simp [Go.ChangeMaps.setBlock]
theorem set_size (hS : S.Nodup) : size (setOf (H := Unit) (.lit (.bool true)) (S.map keyI)) = S.length := by
  have key : ∀ n, ∀ S : List Int, S.length = n → S.Nodup → size (setOf (H := Unit) (.lit (.bool true)) (S.map keyI)) = S.length := by
    intro n
    induction n with
    | zero =>
      intro S h _
      rw [List.length_eq_zero_iff.1 h]
      rfl
    | succ n ih =>
      intro S h hS
      rcases List.eq_nil_or_concat S with rfl | ⟨S', x, rfl⟩
      · cases h
      · rw [List.concat_eq_append] at h hS ⊢
        have hk : ∀ y ∈ S'.map keyI, WideAt.IsKeyLit y := by intro y hy; obtain ⟨z, _, rfl⟩ := List.mem_map.1 hy; exact key_lit z
        rw [List.map_append, List.map_singleton, setOf_snoc, size_put (tidy_setOf _ _ hk), has_setOf _ _ _ hk, ih S' (by simpa using h) (List.nodup_append.1 hS).1, if_neg]
        · simp
        · intro hc
          obtain ⟨y, hy, hyx⟩ := List.any_eq_true.1 hc
          obtain ⟨z, hz, rfl⟩ := List.mem_map.1 hy
          have : z = x := by
            by_cases hzx : z = x
            · exact hzx
            · rw [sameKey_ne (by simpa [keyI] using hzx)] at hyx; cases hyx
          exact (List.nodup_append.1 hS).2.2 z hz x (by simp) this
  exact key _ S rfl hS
theorem SetM.len (h : SetM P k e w b S) (ht : P.underlying t = some (.map k e)) (hS : S.Nodup) (ty : TypeId) : (Builtin.len_ #[t] ty #[.map (some b)]).run P w = .ok (.int .i64 S.length) w := by
  rw [World.ownsMap.len h ht ty, set_size hS]
end
end Go.Proofs.YtbnbjiddffihoaaGreatDoor

/- Gap, ascending, and the place of a node in a list, of the package redundant. -/
namespace Go.Proofs.YtbnbjiddffihoaaGreatDoor
open Go.RowKit Go.Maps

theorem sorted_own {l : List Nd} {base : Nat} {w : World} {v : Value} (h0 : checkN l = 0) (own : OwnL 3 encN 57 base w v (sortN l)) :
    ∃ a c, v = .slice a l.length c ∧ Sl 3 encN w a l.length (sortN l) ∧ l.length ≤ c ∧ c ≤ maxLen := by
  obtain ⟨a, c, e, r, h1, h2, _⟩ := own.rd (fun _ => rfl)
  rw [sortN_length] at e r h1
  exact ⟨a, c, e, r.mono (fun _ hk => hk.2), h1, h2⟩
def ascN (S : List Nd) (M : List Int) : List Int := (S.filter fun x => M.contains x.id).map Nd.id
def AscRel (S : List Nd) (M : List Int) (w : World) (o i : Value) (wr : World) : Prop :=
  ∃ j : Nat, j ≤ S.length ∧ i = .int .i64 j ∧ OwnL 1 encI 3 w.heap.size wr o (ascN (S.take j) M) ∧ Ex w wr
theorem asc_snoc {S : List Nd} {M : List Int} {j : Nat} {y : Nd} (hy : S[j]? = some y) : ascN (S.take (j + 1)) M = ascN (S.take j) M ++ (if M.contains y.id = true then [y.id] else []) := by
  unfold ascN
  rw [List.take_add_one, hy, List.filter_append, List.map_append]
  congr 1
  by_cases hp : M.contains y.id = true
  · rw [if_pos hp]; simp only [Option.toList_some, List.filter_cons, hp, if_true, List.filter_nil, List.map_cons, List.map_nil]
  · rw [if_neg hp]; simp only [Option.toList_some, List.filter_cons, hp, List.filter_nil, List.map_nil]; rfl
theorem Tryz.zeroB (w : World) : (zeroValue 4).run Tryz.prog w = .ok (.bool false) w := by kernel_rfl
set_option maxRecDepth 100000 in
set_option maxHeartbeats 2000000 in
theorem ascending_p (a : Option Addr) (n c : Nat) (N : List Nd) (bm : Nat) (M : List Int) (w : World) (h : Sl 3 encN w a n N) (hn : n ≤ 1000) (h0 : checkN N = 0) (hM : SetM Tryz.prog 3 4 w bm M) :
    Calls Tryz.prog 124 #[.slice a n c, .map (some bm)] w (OiPost (ascN (sortN N) M) w) := by
  have HL := Lib.hid h.len
  have HC := Lib.hid h0
  have HR := Lib.hid (fun x (hx : x ∈ N) => (roster_ok h0 x hx).1.1)
  clear h0
  go_enter Tryz.func124, Tryz.ntmps124
  go_wp2_with fail
  (with_reducible refine (sort_p _ _ _ _ _ h hn).mono ?_)
  rintro e w1 ⟨v, S, rfl, OS, ⟨hp, hsrt⟩, kk⟩
  replace hM := hM.nx kk
  have hSe : S = sortN N := sortN_unique (check_keys HC.out) hp hsrt
  subst hSe
  obtain ⟨a1, c1, rfl, S1, _, _⟩ := sorted_own HC.out OS
  rw [HL.out] at S1 ⊢
  have HI : Hid (∀ x ∈ sortN N, I64 x.id) := Lib.hid (fun x hx => HR.out x ((sortN_mem N x).1 hx))
  have hSl : (sortN N).length ≤ n := by rw [S1.len]; omega
  obtain ⟨S, hS⟩ : ∃ S, S = sortN N := ⟨_, rfl⟩
  rw [← hS] at S1 hSl HI ⊢
  have ES : Hid (ascN (sortN N) M = ascN S M) := Lib.hid (by rw [hS])
  clear hS
  have HSL := Lib.hid S1.len
  have S1 := Lib.hid S1
  have HM := Lib.hid hM
  have K1 := Lib.hid kk
  have hz1 := kk.size
  clear h OS hM kk hp hsrt HR
  go_wp2_with fail
  go_loopw [5, 11] (fun o i wr => AscRel S M w1 o i wr) (fun _ i _ => n - (intOf i).toNat)
  case atStart => exact ⟨0, by omega, rfl, OwnL.nil _ _ _ _ _, Ex.refl _⟩
  case round =>
    obtain ⟨j, hj, rfl, own, ki⟩ := hrel
    obtain ⟨wi, rfl⟩ : ∃ wi : World, wi = wr := ⟨_, rfl⟩
    by_cases hjm : j < n
    · obtain ⟨x3, o3, y, rfl, hx3, hy, hc3⟩ := (S1.out.nx ki).at hjm
      have e0 : wi.cell? ⟨x3, o3 + j * 3, none⟩ = some (.int .i64 y.id) := hc3 0 _ rfl
      have e1 : wi.cell? ⟨x3, o3 + j * 3 + 1, none⟩ = some (.string y.key) := hc3 1 _ rfl
      have e2 : wi.cell? ⟨x3, o3 + j * 3 + 1 + 1, none⟩ = some (.int .u32 y.word) := by simpa [Nat.add_assoc] using hc3 2 _ rfl
      have SN := Lib.hid (asc_snoc (M := M) hy)
      have hrl : (ascN (S.take j) M).length ≤ 1000 := by
        unfold ascN
        rw [List.length_map]
        have := List.length_filter_le (fun x => M.contains x.id) (S.take j)
        rw [List.length_take] at this
        omega
      have hyi := HI.out y (List.mem_of_getElem? hy)
      generalize ascN (S.take j) M = row at own SN hrl
      have KI := Lib.hid ki
      clear hy hc3 ki
      have B7 := Blk.new wi [.int .i64 y.id, .string y.key, .int .u32 y.word] 57
      have kk := Ex.new wi (.cells #[.int .i64 y.id, .string y.key, .int .u32 y.word] 57)
      obtain ⟨w7, hw7⟩ : ∃ w7, w7 = wi.alloc (.cells #[.int .i64 y.id, .string y.key, .int .u32 y.word] 57) := ⟨_, rfl⟩
      obtain ⟨g7, hg7⟩ : ∃ g7, g7 = wi.heap.size := ⟨_, rfl⟩
      replace B7 : Blk w7 g7 [.int .i64 y.id, .string y.key, .int .u32 y.word] 57 := by rw [hw7, hg7]; exact B7
      rw [← hw7] at kk
      have Hw7 := Lib.hid hw7
      have Hg7 := Lib.hid hg7
      replace own := own.nx kk
      have k7 := KI.out.nx kk
      have hz7 := k7.size
      have K7 := Lib.hid k7
      clear kk hw7 hg7 k7
      go_upto_region 5 with fail
      rw [← Hg7.out, ← Hw7.out]
      clear Hg7 Hw7
      have q0 := B7.cell 0 _ rfl
      have hv : (Lit.int .i64 y.id).wf = true := wf_of hyi
      have lk := SetM.get (t := 137) (HM.out.nx K7.out) Tryz.underlying3 Tryz.underlying4 Tryz.underlying137 (Tryz.zeroB _) hv
      have OWN := Lib.hid own
      generalize y.id = yi at SN q0 lk B7
      clear e0 e1 e2 own hyi hv
      generalize M.contains yi = inl at SN lk
      cases inl with
      | false =>
        clear B7
        go_wp2_with fail
        exact ⟨⟨j + 1, by rw [HSL.out]; omega, by go_num, by rw [SN.out]; simpa using OWN.out, K7.out⟩, by simp [intOf]; omega⟩
      | true =>
        have own7 := OWN.out
        have hl7 : row.length ≤ 1000000 := by omega
        clear B7
        go_wp2_with (at_builtin; (refine wpList_append_lit (enc := encI) w7 rfl _ _ 22 rfl w1.heap.size 3 (.int .i64 0) 1 8 Tryz.underlying22 Tryz.infoI6 rfl (by omega) (by omega) _ _ own7 rfl (yi : Int) _ rfl rfl (by simp [encI, Value.oneCell']) _ (by simp) rfl hl7 hz7 _ ?_); intro v6 w6 own6 _ ch1 _)
        refine ⟨⟨j + 1, by rw [HSL.out]; omega, by go_num, by rw [SN.out]; exact own6, Chg.trans K7.out ch1⟩, by simp [intOf]; omega⟩
    · obtain rfl : j = n := by have := HSL.out; omega
      rw [List.take_of_length_le (by rw [HSL.out]; exact Nat.le_refl _)] at own
      have own := Lib.hid (own.base hz1)
      have KE := Lib.hid (K1.out.nx ki)
      clear hj hjm ki
      go_wp2_with fail
      go_ret
      exact ⟨_, rfl, by rw [ES.out]; exact own.out, KE.out⟩
end Go.Proofs.YtbnbjiddffihoaaGreatDoor

/- What a loop of a law keeps. -/
namespace Go.Proofs.YtbnbjiddffihoaaGreatDoor
open Go.RowKit

theorem TabG.nxb {b : Nat} {w w' : World} (h : TabG w) (hb : ¬ 1 = b) (k : Exb b w w') : TabG w' := h.chg k ⟨h.lt, hb⟩
end Go.Proofs.YtbnbjiddffihoaaGreatDoor

/- Contacts of the package redundant. -/
namespace Go.Proofs.YtbnbjiddffihoaaGreatDoor
open Go.RowKit Go.Maps

set_option maxRecDepth 100000 in
set_option maxHeartbeats 2000000 in
theorem index_n (a : Option Addr) (n c : Nat) (l : List Nd) (x : Nd) (k0 : Nat) (w : World) (h : Sl 3 encN w a n l) (hn : n ≤ 1000) (hk0 : l[k0]? = some x) (hno : ∀ j z, j < k0 → l[j]? = some z → z.id ≠ x.id) :
    Calls Tryz.prog 123 #[.slice a n c, .agg #[.int .i64 x.id, .string x.key, .int .u32 x.word]] w fun e w' => e = .returned (.int .i64 k0) ∧ Ex w w' := by
  have HNO := Lib.hid hno
  have HK0 := Lib.hid hk0
  have hk0n : k0 < n := by have := (List.getElem?_eq_some_iff.1 hk0).1; have := h.len; omega
  have EX := Ex.refl w
  have B3 := Blk.new w [.int .i64 x.id, .string x.key, .int .u32 x.word] 57
  have kk := Ex.new w (.cells #[.int .i64 x.id, .string x.key, .int .u32 x.word] 57)
  obtain ⟨w1, hw1⟩ : ∃ w1, w1 = w.alloc (.cells #[.int .i64 x.id, .string x.key, .int .u32 x.word] 57) := ⟨_, rfl⟩
  obtain ⟨g3, hg3⟩ : ∃ g3, g3 = w.heap.size := ⟨_, rfl⟩
  replace B3 : Blk w1 g3 [.int .i64 x.id, .string x.key, .int .u32 x.word] 57 := by rw [hw1, hg3]; exact B3
  rw [← hw1] at kk
  have Hw1 := Lib.hid hw1
  have Hg3 := Lib.hid hg3
  replace h := h.nx kk
  replace EX := EX.nx kk
  clear kk hw1 hg3
  have HS := Lib.hid h
  have EX := Lib.hid EX
  clear hno hk0 h
  go_enter Tryz.func123, Tryz.ntmps123
  go_upto_region 1 with fail
  rw [← Hg3.out, ← Hw1.out]
  clear Hg3 Hw1
  have HB := Lib.hid B3
  clear B3
  go_wp2_with fail
  go_loopw [8] (fun i wr => ∃ j : Nat, j ≤ k0 ∧ i = .int .i64 j ∧ Ex w1 wr) (fun i _ => n - (intOf i).toNat)
  case atStart => exact ⟨0, by omega, rfl, Ex.refl _⟩
  case round =>
    obtain ⟨j, hj, rfl, kw⟩ := hrel
    obtain ⟨wo, rfl⟩ : ∃ wo : World, wo = wr := ⟨_, rfl⟩
    obtain ⟨x1, o1, y, rfl, hx1, hy, hc1⟩ := (HS.out.nx kw).at (j := j) (by omega)
    have e0 : wo.cell? ⟨x1, o1 + j * 3, none⟩ = some (.int .i64 y.id) := hc1 0 _ rfl
    have e1 : wo.cell? ⟨x1, o1 + j * 3 + 1, none⟩ = some (.string y.key) := hc1 1 _ rfl
    have e2 : wo.cell? ⟨x1, o1 + j * 3 + 1 + 1, none⟩ = some (.int .u32 y.word) := by simpa [Nat.add_assoc] using hc1 2 _ rfl
    have B := HB.out.nx kw
    have q0 := B.cell 0 _ rfl
    have q1 := B.cell 1 _ rfl
    have q2 := B.cell 2 _ rfl
    have KW := Lib.hid (EX.out.nx kw)
    have KV := Lib.hid kw
    by_cases hlt : j = k0
    · subst hlt
      obtain rfl : y = x := Option.some.inj (hy.symm.trans HK0.out)
      clear hc1 hy kw B
      go_wp2_with fail
      go_quiet (fail)
      go_wp2_with fail
      go_ret
      exact ⟨rfl, KW.out.drewN _⟩
    · have hb : (x.id == y.id) = false := by
        have := HNO.out j y (by omega) hy
        rw [beq_eq_false_iff_ne]
        exact fun h => this h.symm
      clear hc1 hy kw B
      go_wp2_with fail
      go_quiet (fail)
      go_wp2_with fail
      exact ⟨⟨j + 1, by omega, by go_num, KV.out.drewN _⟩, by simp [intOf]; omega⟩

theorem group_q (a : Option Addr) (n cap : Nat) (l : List Nd) (h : Int) (v : Nat) (w : World) (hs : Sl 3 encN w a n l) (hn : n ≤ 1000) (hw : ∀ x ∈ l, x.word < 4294967296) (hv : v < 4294967296) (hT : TabG w) :
    Calls Tryz.prog 118 #[.slice a n cap, .int .i64 h, .int .u32 v] w fun e w' => ∃ a' c', e = .returned (.slice a' (groupN l h v).length c') ∧ Slf 3 encN w w' a' (groupN l h v).length (groupN l h v) ∧ Ex w w' := by
  refine (group_p (S := (· < w.heap.size)) a n cap l h v w hs (fun _ hk => hk) hn hw hv hT).mono ?_
  rintro e w' ⟨a', n', c', rfl, r, k⟩
  obtain rfl : (groupN l h v).length = n' := r.1
  exact ⟨a', c', rfl, r, k⟩

def besP (g : List Nd) (k : Nat) (m : Int) (j : Nat) : List Int := ((g.zipIdx.take j).filter fun q => decide (q.2 ≠ k) && decide ((q.2 : Int) - k ≤ m) && decide ((k : Int) - q.2 ≤ m)).map fun q => q.1.id
theorem besP_snoc {g : List Nd} {k j : Nat} {m : Int} {y : Nd} (hy : g[j]? = some y) : besP g k m (j + 1) = besP g k m j ++ (if j ≠ k ∧ (j : Int) ≥ k - m ∧ (j : Int) ≤ k + m then [y.id] else []) := by
  unfold besP
  have hz : g.zipIdx[j]? = some (y, j) := by simp [List.getElem?_zipIdx, hy]
  rw [List.take_add_one, hz, List.filter_append, List.map_append]
  congr 1
  by_cases hp : j ≠ k ∧ (j : Int) ≥ k - m ∧ (j : Int) ≤ k + m
  · rw [if_pos hp]
    have : (decide (j ≠ k) && decide ((j : Int) - k ≤ m) && decide ((k : Int) - j ≤ m)) = true := by simp; omega
    simp only [Option.toList_some, List.filter_cons, this, if_true, List.filter_nil, List.map_cons, List.map_nil]
  · rw [if_neg hp]
    have : (decide (j ≠ k) && decide ((j : Int) - k ≤ m) && decide ((k : Int) - j ≤ m)) = false := by
      rw [Bool.eq_false_iff]
      intro h
      simp at h
      omega
    simp only [Option.toList_some, List.filter_cons, this, List.filter_nil, List.map_nil]
    rfl
theorem besP_all (g : List Nd) (k : Nat) (m : Int) : besP g k m g.length = besideN g k m := by
  unfold besP besideN
  rw [List.take_of_length_le (by simp)]
theorem besP_len (g : List Nd) (k : Nat) (m : Int) (j : Nat) : (besP g k m j).length ≤ g.length := by
  unfold besP
  rw [List.length_map]
  have := List.length_filter_le (fun q : Nd × Nat => decide (q.2 ≠ k) && decide ((q.2 : Int) - k ≤ m) && decide ((k : Int) - q.2 ≤ m)) (g.zipIdx.take j)
  rw [List.length_take, List.length_zipIdx] at this
  omega
def conS (N : List Nd) (x : Nd) (m : Int) (i : Nat) : List Int := (List.range i).flatMap fun h : Nat => besideN (grpS N h x.word) (idxI (grpS N h x.word) x.id) m
theorem conS_snoc (N : List Nd) (x : Nd) (m : Int) (i : Nat) : conS N x m (i + 1) = conS N x m i ++ besideN (grpS N i x.word) (idxI (grpS N i x.word) x.id) m := by
  unfold conS
  rw [List.range_succ, List.flatMap_append]
  simp
theorem grpS_le (N : List Nd) (h : Int) (v : Nat) : (grpS N h v).length ≤ N.length := by
  unfold grpS
  have := groupN_length (sortN N) h v
  rw [sortN_length] at this
  exact this
theorem beside_le (g : List Nd) (k : Nat) (m : Int) : (besideN g k m).length ≤ g.length := by
  rw [← besP_all]; exact besP_len _ _ _ _
theorem conS_len (N : List Nd) (x : Nd) (m : Int) (i : Nat) : (conS N x m i).length ≤ i * N.length := by
  induction i with
  | zero => simp [conS]
  | succ i ih =>
    rw [conS_snoc, List.length_append, Nat.succ_mul]
    have := beside_le (grpS N i x.word) (idxI (grpS N i x.word) x.id) m
    have := grpS_le N i x.word
    omega
theorem check_len {N : List Nd} (h0 : checkN N = 0) : N.length ≤ 64 := by
  unfold checkN at h0
  split at h0
  · cases h0
  · omega
theorem con_asc {N : List Nd} (h0 : checkN N = 0) {x : Nd} (hx : x ∈ N) {width height : Int} (hw : 1 ≤ width) (hh0 : 0 ≤ height) (hh : height ≤ 16) : ascN (sortN N) (conS N x (min width 64) (height.toNat + 1)) = contactsN N x.id width height := by
  have h64 := check_len h0
  unfold contactsN
  rw [if_neg (by
    rintro (h | h | h)
    · omega
    · unfold lvlN at h; simp at h; omega
    · exact h h0)]
  unfold ascN ordN
  congr 1
  refine List.filter_congr fun y hy => ?_
  have hy := (sortN_mem N y).1 hy
  rw [Bool.eq_iff_iff]
  simp only [Bool.and_eq_true, Bool.not_eq_true', beq_eq_false_iff_ne, List.contains_iff_mem, conS, List.mem_flatMap, List.mem_range]
  constructor
  · rintro ⟨i, hi, hb⟩
    obtain ⟨e1, e2⟩ := thr_at h0 hx (h := i) (by omega)
    obtain ⟨j, z, hz, h1, h2, h3, h4⟩ := mem_beside.1 hb
    have hzy : z = y := ids_eq (check_keys h0) (grp_mem.1 (List.mem_of_getElem? hz)).1 hy h4
    subst hzy
    refine ⟨fun he => h1 (grp_uniq h0 hz e2 he), i, hi, ?_⟩
    rw [e1]
    simp only
    exact mem_beside.2 ⟨j, z, hz, h1, by omega, by omega, rfl⟩
  · rintro ⟨hne, i, hi, hb⟩
    obtain ⟨e1, e2⟩ := thr_at h0 hx (h := i) (by omega)
    rw [e1] at hb
    simp only at hb
    obtain ⟨j, z, hz, h1, h2, h3, h4⟩ := mem_beside.1 hb
    have hj := (List.getElem?_eq_some_iff.1 hz).1
    have hk := (List.getElem?_eq_some_iff.1 e2).1
    have := grpS_le N i x.word
    exact ⟨i, hi, mem_beside.2 ⟨j, z, hz, h1, by omega, by omega, h4⟩⟩
theorem contacts_no {N : List Nd} {id width height : Int} (h : (findN N id).2 = false ∨ checkN N ≠ 0 ∨ width < 1 ∨ height < 0 ∨ 16 < height) : contactsN N id width height = [] := by
  unfold contactsN
  by_cases h1 : width < 1 ∨ lvlN height = false ∨ checkN N ≠ 0
  · rw [if_pos h1]
  · rw [if_neg h1]
    have hf : (findN N id).2 = false := by
      rcases h with h | h | h | h | h
      · exact h
      · exact absurd (.inr (.inr h)) h1
      · exact absurd (.inl h) h1
      · exact absurd (.inr (.inl (by unfold lvlN; simp; omega))) h1
      · exact absurd (.inr (.inl (by unfold lvlN; simp; omega))) h1
    have ht : ∀ i : Int, throughN N id i = ([], 0, false) := fun i => by
      unfold throughN
      rw [if_neg]
      rintro ⟨h1, _⟩
      rw [hf] at h1
      cases h1
    unfold ordN
    simp only [ht]
    have : (List.flatMap (fun h : Nat => besideN [] 0 width) (List.range (height.toNat + 1))) = [] := by
      rw [List.flatMap_eq_nil_iff]
      intro i _
      rfl
    rw [this]
    simp

def CoRel (N : List Nd) (x : Nd) (m : Int) (bm : Nat) (hh : Nat) (w : World) (i : Value) (wr : World) : Prop :=
  ∃ j : Nat, j ≤ hh ∧ i = .int .i64 j ∧ SetM Tryz.prog 3 4 wr bm (conS N x m j) ∧ Exb bm w wr
def CiRel (G : List Nd) (k : Nat) (m : Int) (C : List Int) (bm : Nat) (w : World) (i : Value) (wr : World) : Prop :=
  ∃ j : Nat, j ≤ G.length ∧ i = .int .i64 j ∧ SetM Tryz.prog 3 4 wr bm (C ++ besP G k m j) ∧ Exb bm w wr
set_option maxRecDepth 100000 in
set_option maxHeartbeats 8000000 in
theorem contacts_p (a : Option Addr) (n c : Nat) (N : List Nd) (id width height : Int) (w : World) (h : Sl 3 encN w a n N) (hn : n ≤ 1000) (hc : n ≤ c) (hm : c ≤ maxLen) (hw : ∀ x ∈ N, x.word < 4294967296) (hT : TabG w) :
    Calls Tryz.prog 89 #[.slice a n c, .int .i64 id, .int .i64 width, .int .i64 height] w (OiPost (contactsN N id width height) w) := by
  have HL := Lib.hid h.len
  have HXW := findN_word hw id
  have HW := Lib.hid (sort_word hw)
  have EX := Ex.refl w
  clear hw
  go_enter Tryz.func89, Tryz.ntmps89
  go_wp2_with fail
  (with_reducible refine (find_p _ _ _ _ id _ h (by omega)).mono ?_)
  rintro e w1 ⟨rfl, kk⟩
  replace h := h.nx kk
  replace hT := hT.nx kk
  replace EX := EX.nx kk
  clear kk
  obtain ⟨F, hF⟩ : ∃ F, F = findN N id := ⟨_, rfl⟩
  have HF := Lib.hid hF
  rw [← hF] at HXW ⊢
  clear hF
  obtain ⟨⟨xi, xk, xw⟩, ok⟩ := F
  simp only at HXW
  have B2 := Blk.new w1 [.int .i64 xi, .string xk, .int .u32 xw] 57
  have kk := Ex.new w1 (.cells #[.int .i64 xi, .string xk, .int .u32 xw] 57)
  obtain ⟨w2, hw2⟩ : ∃ w2, w2 = w1.alloc (.cells #[.int .i64 xi, .string xk, .int .u32 xw] 57) := ⟨_, rfl⟩
  obtain ⟨g2, hg2⟩ : ∃ g2, g2 = w1.heap.size := ⟨_, rfl⟩
  replace B2 : Blk w2 g2 [.int .i64 xi, .string xk, .int .u32 xw] 57 := by rw [hw2, hg2]; exact B2
  rw [← hw2] at kk
  have Hw2 := Lib.hid hw2
  have Hg2 := Lib.hid hg2
  replace h := h.nx kk
  replace hT := hT.nx kk
  replace EX := EX.nx kk
  clear kk hw2 hg2
  simp only [Nd.val]
  go_upto_region 2 with fail
  rw [← Hg2.out, ← Hw2.out]
  clear Hg2 Hw2
  have NO : Hid ((findN N id).2 = false ∨ checkN N ≠ 0 ∨ width < 1 ∨ height < 0 ∨ 16 < height → ∀ wx, Ex w wx → OiPost (contactsN N id width height) w (.returned (.slice none 0 0)) wx) := Lib.hid (fun hh wx kx => by rw [contacts_no hh]; exact ⟨_, rfl, OwnL.nil _ _ _ _ _, kx⟩)
  cases ok with
  | false =>
    have FI := Lib.hid (NO.out (.inl (by rw [← HF.out])) _ EX)
    clear h hT B2 NO EX
    go_wp2_with fail
    go_ret
    exact FI.out
  | true =>
    go_wp2_with fail
    (with_reducible refine (check_p _ _ _ _ _ h (by omega) hc hm).mono ?_)
    rintro e w3 ⟨rfl, kk⟩
    replace h := h.nx kk
    replace hT := hT.nx kk
    replace EX := EX.nx kk
    replace B2 := B2.nx kk
    clear kk
    by_cases hck : checkN N = 0
    case neg =>
      have d1 : (checkN N != 0) = true := by simpa using hck
      have FI := Lib.hid (NO.out (.inr (.inl hck)) _ EX)
      clear h hT B2 NO hck EX
      go_wp2_with fail
      go_ret
      exact FI.out
    have d1 : (checkN N != 0) = false := by simpa using hck
    have HC := Lib.hid hck
    clear hck
    by_cases hw1 : width < 1
    · have FI := Lib.hid (NO.out (.inr (.inr (.inl hw1))) _ EX)
      clear h hT B2 NO EX
      go_wp2_with fail
      go_ret
      exact FI.out
    by_cases hh0 : height < 0
    · have FI := Lib.hid (NO.out (.inr (.inr (.inr (.inl hh0)))) _ EX)
      clear h hT B2 NO EX
      go_wp2_with fail
      go_ret
      exact FI.out
    by_cases hh1 : 16 < height
    · have FI := Lib.hid (NO.out (.inr (.inr (.inr (.inr hh1)))) _ EX)
      clear h hT B2 NO EX
      go_wp2_with fail
      go_ret
      exact FI.out
    obtain ⟨hh, rfl⟩ := Int.eq_ofNat_of_zero_le (show 0 ≤ height by omega)
    have hh16 : hh ≤ 16 := by omega
    obtain ⟨hxN, hxi⟩ : (⟨xi, xk, xw⟩ : Nd) ∈ N ∧ xi = id := by
      have := findN_mem (l := N) (id := id) (by rw [← HF.out])
      rw [← HF.out] at this
      exact this
    replace hxi := Lib.hid hxi
    obtain ⟨x, hx⟩ : ∃ x : Nd, x = ⟨xi, xk, xw⟩ := ⟨_, rfl⟩
    rw [← hx] at hxN
    obtain ⟨rfl, rfl, rfl⟩ : xi = x.id ∧ xk = x.key ∧ xw = x.word := by rw [hx]; exact ⟨rfl, rfl, rfl⟩
    have HXN := Lib.hid hxN
    obtain ⟨m, hm64⟩ : ∃ m, min width 64 = m := ⟨_, rfl⟩
    have hm1 : 1 ≤ m := by omega
    have hm2 : m ≤ 64 := by omega
    have FIN : Hid (ascN (sortN N) (conS N x m (hh + 1)) = contactsN N id width hh) := Lib.hid (by rw [← hm64, ← hxi.out]; have := con_asc HC.out HXN.out (width := width) (height := hh) (by omega) (by omega) (by omega); simpa using this)
    have HI : Hid (∀ y ∈ sortN N, I64 y.id) := Lib.hid (fun y hy => (roster_ok HC.out y ((sortN_mem N y).1 hy)).1.1)
    have h64 := check_len HC.out
    clear hx hxN NO hxi HF
    have M4 := SetM.made w3 Tryz.prog 3 4
    have kk := Ex.new w3 (.map #[] 0)
    obtain ⟨w4, hw4⟩ : ∃ w4, w4 = w3.alloc (.map #[] 0) := ⟨_, rfl⟩
    obtain ⟨bm, hbm⟩ : ∃ bm, bm = w3.heap.size := ⟨_, rfl⟩
    replace M4 : SetM Tryz.prog 3 4 w4 bm [] := by rw [hw4, hbm]; exact M4
    rw [← hw4] at kk
    have Hw4 := Lib.hid hw4
    have Hbm := Lib.hid hbm
    have hgb : ¬ 1 = bm := by have := hT.lt; omega
    have hg2b : g2 ≠ bm := by have := B2.lt; omega
    have hwb : w.heap.size ≤ bm := by have := EX.size; omega
    have HS := Lib.hid (h.slb (show w3.heap.size ≤ bm by omega))
    replace HS := Lib.hid (HS.out.nxb (kk.b bm))
    replace hT := hT.nx kk
    replace EX := EX.nx kk
    replace B2 := B2.nx kk
    have h := h.nx kk
    clear kk hw4 hbm
    have hmm := @run_makeMap Tryz.prog
    go_upto_region 5 with fail
    rw [← Hbm.out, ← Hw4.out]
    clear Hbm Hw4
    clear hmm
    have hbm4 := M4.lt
    go_wp2_with fail
    (with_reducible refine (sort_p _ _ _ _ _ h hn).mono ?_)
    rintro e w5 ⟨v, S, rfl, OS, ⟨hp, hsrt⟩, kk⟩
    replace hT := hT.nx kk
    replace EX := EX.nx kk
    replace B2 := B2.nx kk
    replace M4 := M4.nx kk
    replace HS := Lib.hid (HS.out.nxb (kk.b bm))
    have hSe : S = sortN N := sortN_unique (check_keys HC.out) hp hsrt
    subst hSe
    obtain ⟨a1, c1, rfl, S1, _, _, _⟩ := OS.slf (fun _ => rfl)
    replace S1 := Lib.hid (S1.slb hbm4)
    have hsl : (sortN N).length ≤ 64 := by rw [sortN_length]; exact h64
    replace EX := Lib.hid EX
    replace hT := Lib.hid hT
    replace B2 := Lib.hid B2
    clear h OS kk hp hsrt
    go_wp2_with fail
    go_loopw [48] (fun i wr => CoRel N x m bm (hh + 1) w5 i wr) (fun i _ => hh + 1 - (intOf i).toNat)
    case atStart => exact ⟨0, by omega, rfl, M4, Exb.refl _ _⟩
    case round =>
      clear M4
      obtain ⟨i, hi, rfl, M, kw⟩ := hrel
      obtain ⟨wo, rfl⟩ : ∃ wo : World, wo = wr := ⟨_, rfl⟩
      by_cases hlt : i < hh + 1
      · have T1 := hT.out.nxb hgb kw
        have Q2 := B2.out.nxb hg2b kw
        have q0 := Q2.cell 0 _ rfl
        have q1 := Q2.cell 1 _ rfl
        have q2 := Q2.cell 2 _ rfl
        have S2 := (S1.out.nxb kw).sl
        have hi16 : i ≤ 16 := by omega
        have hbo := M.lt
        obtain ⟨_, hat⟩ := thr_at HC.out HXN.out (h := i) hi16
        replace hat := Lib.hid hat
        have KW := Lib.hid kw
        clear kw
        go_wp2_with fail
        (with_reducible refine (group_q _ _ _ (sortN N) i x.word _ S2 (by omega) HW.out HXW T1).mono ?_)
        rintro e w6 ⟨a3, c3, rfl, r3, kk⟩
        replace M := M.nx kk
        replace Q2 := Q2.nx kk
        have G3 := Lib.hid (r3.slb hbo)
        clear r3
        have hG : groupN (sortN N) i x.word = grpS N i x.word := rfl
        rw [hG] at G3 ⊢
        replace KW := Lib.hid (KW.out.nxb (kk.b bm))
        have hgl := grpS_le N i x.word
        have AI := Lib.hid (fun j z (hj : j < idxI (grpS N i x.word) x.id) (hz : (grpS N i x.word)[j]? = some z) => show z.id ≠ x.id from fun he => by have := grp_uniq HC.out hz hat.out he; omega)
        have GI : Hid (∀ y ∈ grpS N i x.word, I64 y.id) := Lib.hid (fun y hy => HI.out y (List.mem_filter.1 hy).1)
        have CS := Lib.hid (conS_snoc N x m i)
        have cl := conS_len N x m i
        have cl2 : (conS N x m i).length ≤ 17 * 64 := Nat.le_trans cl (Nat.mul_le_mul (by omega) h64)
        generalize hK : idxI (grpS N i x.word) x.id = k at hat AI CS
        generalize hGG : grpS N i x.word = G at G3 hgl hat AI GI CS hK ⊢
        generalize conS N x m i = C at M CS cl2
        have hkG : k < G.length := (List.getElem?_eq_some_iff.1 hat.out).1
        clear kk hK hGG hG cl S2 T1 q0 q1 q2
        have q0 := Q2.cell 0 _ rfl
        have q1 := Q2.cell 1 _ rfl
        have q2 := Q2.cell 2 _ rfl
        go_wp2_with fail
        (with_reducible refine (index_n _ _ _ G x k _ G3.out.sl (by omega) hat.out AI.out).mono ?_)
        rintro e w7 ⟨rfl, kk⟩
        replace M := M.nx kk
        replace G3 := Lib.hid (G3.out.nxb (kk.b bm))
        replace KW := Lib.hid (KW.out.nxb (kk.b bm))
        clear kk q0 q1 q2 Q2
        go_wp2_with fail
        go_loopw [61] (fun i wr => CiRel G k m C bm w7 i wr) (fun i _ => G.length - (intOf i).toNat)
        case atStart => exact ⟨0, by omega, rfl, by simpa [besP] using M, Exb.refl _ _⟩
        case round =>
          clear M
          obtain ⟨j, hj, rfl, M, kw⟩ := hrel
          obtain ⟨wp, rfl⟩ : ∃ wp : World, wp = wr := ⟨_, rfl⟩
          by_cases hjl : j < G.length
          · obtain ⟨x3, o3, y, rfl, hx3, hy, hc3⟩ := (G3.out.nxb kw).sl.at (j := j) (by omega)
            have e0 : wp.cell? ⟨x3, o3 + j * 3, none⟩ = some (.int .i64 y.id) := hc3 0 _ rfl
            have e1 : wp.cell? ⟨x3, o3 + j * 3 + 1, none⟩ = some (.string y.key) := hc3 1 _ rfl
            have e2 : wp.cell? ⟨x3, o3 + j * 3 + 1 + 1, none⟩ = some (.int .u32 y.word) := by simpa [Nat.add_assoc] using hc3 2 _ rfl
            have SN := Lib.hid (besP_snoc (k := k) (m := m) hy)
            have bl := besP_len G k m j
            have hyi := GI.out y (List.mem_of_getElem? hy)
            have hv := Lib.hid (wf_of hyi)
            have KV := Lib.hid kw
            clear hc3 hy kw
            generalize besP G k m j = R at M SN bl
            have B8 := Blk.new wp [.int .i64 y.id, .string y.key, .int .u32 y.word] 57
            have kk := Ex.new wp (.cells #[.int .i64 y.id, .string y.key, .int .u32 y.word] 57)
            obtain ⟨w8, hw8⟩ : ∃ w8, w8 = wp.alloc (.cells #[.int .i64 y.id, .string y.key, .int .u32 y.word] 57) := ⟨_, rfl⟩
            obtain ⟨g8, hg8⟩ : ∃ g8, g8 = wp.heap.size := ⟨_, rfl⟩
            replace B8 : Blk w8 g8 [.int .i64 y.id, .string y.key, .int .u32 y.word] 57 := by rw [hw8, hg8]; exact B8
            rw [← hw8] at kk
            have Hw8 := Lib.hid hw8
            have Hg8 := Lib.hid hg8
            replace M := M.nx kk
            replace KV := Lib.hid (KV.out.nxb (kk.b bm))
            clear kk hw8 hg8
            go_upto_region 14 with fail
            rw [← Hg8.out, ← Hw8.out]
            clear Hg8 Hw8
            have p0 := B8.cell 0 _ rfl
            clear e0 e1 e2 B8
            by_cases hp : j ≠ k ∧ (j : Int) ≥ k - m ∧ (j : Int) ≤ k + m
            · obtain ⟨b1, b2, b3⟩ := hp
              have SN : Hid (besP G k m (j + 1) = R ++ [y.id]) := Lib.hid (by rw [SN.out, if_pos ⟨b1, b2, b3⟩])
              have c1 : ((j : Int) != k) = true := by simp; omega
              obtain ⟨w9, hrun, M9, k9, _⟩ := M.put (t := 137) Tryz.underlying3 Tryz.underlying4 Tryz.underlying137 (by rw [List.length_append]; omega) hv.out
              have M9 := Lib.hid M9
              have K9 := Lib.hid (KV.out.nxb k9)
              clear M k9 hyi b1
              go_wp2_with fail
              refine ⟨⟨j + 1, by omega, by go_num, ?_, K9.out⟩, by simp [intOf]; omega⟩
              rw [SN.out, ← List.append_assoc]
              exact M9.out
            · have SN : Hid (besP G k m (j + 1) = R) := Lib.hid (by rw [SN.out, if_neg hp, List.append_nil])
              have RR := Lib.hid (show CiRel G k m C bm w7 (.int .i64 ((j : Int) + 1)) w8 from ⟨j + 1, by omega, by go_num, by rw [SN.out]; exact M, KV.out⟩)
              by_cases b1 : j = k
              · have c1 : ((j : Int) != k) = false := by simp; omega
                clear M hp b1
                go_wp2_with fail
                exact ⟨RR.out, by simp [intOf]; omega⟩
              · have c1 : ((j : Int) != k) = true := by simp; omega
                by_cases b2 : (j : Int) ≥ k - m
                · have b3 : ¬ (j : Int) ≤ k + m := fun h => hp ⟨b1, b2, h⟩
                  clear M hp b1
                  go_wp2_with fail
                  exact ⟨RR.out, by simp [intOf]; omega⟩
                · clear M hp b1
                  go_wp2_with fail
                  exact ⟨RR.out, by simp [intOf]; omega⟩
          · obtain rfl : j = G.length := by omega
            have RR := Lib.hid (show CoRel N x m bm (hh + 1) w5 (.int .i64 ((i : Int) + 1)) wp from ⟨i + 1, by omega, by go_num, by rw [CS.out, ← besP_all]; exact M, KW.out.nxb kw⟩)
            clear M kw
            go_wp2_with fail
            exact ⟨RR.out, by simp [intOf]; omega⟩
      · obtain rfl : i = hh + 1 := by omega
        have S0 := (HS.out.nxb kw).sl
        have EF := Lib.hid (Exl.nxb (b := bm) (w := w) ⟨EX.out, hwb⟩ kw).1
        clear kw hi hlt
        have hgo : ¬ ((hh + 1 : Nat) : Int) < (hh : Int) + 1 := by omega
        go_wp2_with fail
        (with_reducible refine (ascending_p _ _ _ N bm _ _ S0 hn HC.out M).mono ?_)
        rintro e wz ⟨vz, rfl, oz, kk⟩
        have OZ := Lib.hid (oz.base EF.out.size)
        have KZ := Lib.hid (EF.out.nx kk)
        clear M oz kk S0
        go_wp2_with fail
        go_ret
        exact ⟨_, rfl, by rw [← FIN.out]; exact OZ.out, KZ.out⟩
end Go.Proofs.YtbnbjiddffihoaaGreatDoor

/- names and Refs of the package redundant. -/
namespace Go.Proofs.YtbnbjiddffihoaaGreatDoor
open Go.RowKit

end Go.Proofs.YtbnbjiddffihoaaGreatDoor

/- Numbers, CopyPeer, Refs of the reference. NOT BUILT YET. -/
namespace Go.Proofs.YtbnbjiddffihoaaGreatDoor
open Go.RowKit

theorem lit2 {w u : World} (h : Ex w u) (x y : Int) : ∃ g v, g = u.heap.size ∧ v = u.alloc (.cells #[.int .i64 x, .int .i64 y] 3) ∧ Sl 1 encI v (some ⟨g, 0, none⟩) 2 [x, y] ∧ Ex u v ∧ Ex w v :=
  ⟨_, _, rfl, rfl, Sl.lit [x, y] rfl rfl (fun _ => rfl) rfl, Ex.new _ _, h.nx (Ex.new _ _)⟩
theorem lit4 {w u : World} (h : Ex w u) (y : Nr) : ∃ g v, g = u.heap.size ∧ v = u.alloc (.cells #[.int .i64 y.1, .int .i64 y.2.1, .int .i64 y.2.2.1, .int .i64 y.2.2.2] 3) ∧ Sl 1 encI v (some ⟨g, 0, none⟩) 4 (nums4 y) ∧ Ex u v ∧ Ex w v :=
  ⟨_, _, rfl, rfl, Sl.lit (nums4 y) rfl rfl (fun _ => rfl) rfl, Ex.new _ _, h.nx (Ex.new _ _)⟩
def NmCut (l : List Int) (w : World) (s : Value) (wx : World) : Prop := OwnL 1 encI 3 w.heap.size wx s l ∧ Ex w wx
def NmRel (l0 : List Int) (nr : List Nr) (w : World) (o i : Value) (wr : World) : Prop :=
  ∃ j : Nat, j ≤ nr.length ∧ i = .int .i64 j ∧ OwnL 1 encI 3 w.heap.size wr o (l0 ++ (nr.take j).flatMap nums4) ∧ Ex w wr
theorem nm_snoc {l0 : List Int} {nr : List Nr} {j : Nat} {y : Nr} (hy : nr[j]? = some y) : l0 ++ (nr.take (j + 1)).flatMap nums4 = (l0 ++ (nr.take j).flatMap nums4) ++ nums4 y := by
  rw [List.take_add_one, hy]
  simp
theorem nums_len (l : List Nr) : (l.flatMap nums4).length = 4 * l.length := by
  induction l with
  | nil => rfl
  | cons x l ih => rw [List.flatMap_cons, List.length_append, ih, List.length_cons, show (nums4 x).length = 4 from rfl]; omega
set_option maxRecDepth 100000 in
set_option maxHeartbeats 8000000 in
theorem numbers_r (p : Pr) (a1 : Option Addr) (n1 c1 : Nat) (a2 : Option Addr) (n2 c2 : Nat) (w : World) (h1 : Sl 1 encI w a1 n1 p.known) (h2 : Sl 4 encNr w a2 n2 p.near) (hn1 : n1 ≤ 2000000) (hn2 : n2 ≤ 2000000) (z1 : a1 = none → c1 = 0) :
    Calls Tryz.prog 131 #[.agg #[.int .i64 p.id, .slice a1 n1 c1, .int .i64 p.left, .int .i64 p.right, .slice a2 n2 c2]] w (OiPost (numsP p) w) := by
  obtain ⟨id, lf, rt, kn, nr⟩ := p
  have HN : Hid (numsP ⟨id, lf, rt, kn, nr⟩ = (kn ++ [lf, rt]) ++ nr.flatMap nums4) := Lib.hid rfl
  have hkl : kn.length ≤ 2000000 := by have : kn.length = n1 := h1.len; omega
  have hnl : nr.length = n2 := h2.len
  have hw0 := Nat.le_refl w.heap.size
  simp only at h1 h2 ⊢
  have B1 := Blk.new w [.int .i64 id, .slice a1 n1 c1, .int .i64 lf, .int .i64 rt, .slice a2 n2 c2] 45
  have kk := Ex.new w (.cells #[.int .i64 id, .slice a1 n1 c1, .int .i64 lf, .int .i64 rt, .slice a2 n2 c2] 45)
  obtain ⟨w1, hw1⟩ : ∃ w1, w1 = w.alloc (.cells #[.int .i64 id, .slice a1 n1 c1, .int .i64 lf, .int .i64 rt, .slice a2 n2 c2] 45) := ⟨_, rfl⟩
  obtain ⟨g, hg⟩ : ∃ g, g = w.heap.size := ⟨_, rfl⟩
  replace B1 : Blk w1 g [.int .i64 id, .slice a1 n1 c1, .int .i64 lf, .int .i64 rt, .slice a2 n2 c2] 45 := by rw [hw1, hg]; exact B1
  rw [← hw1] at kk
  have Hw1 := Lib.hid hw1
  have Hg := Lib.hid hg
  replace h1 := h1.nx kk
  replace h2 := h2.nx kk
  have hz1 := kk.size
  have K1 := Lib.hid kk
  have S1 := Lib.hid h1
  have S2 := Lib.hid h2
  clear h1 h2 kk hw1 hg
  go_enter Tryz.func131, Tryz.ntmps131
  go_upto_region 1 with fail
  rw [← Hg.out, ← Hw1.out]
  clear Hg Hw1
  have BH := Lib.hid B1
  clear B1
  go_cut [3] from 5 to 14 (fun s3 wx => NmCut (kn ++ [lf, rt]) w1 s3 wx)
  case first =>
    refine wp_region_held_drew (S := Ex w1) (by kernel_rfl) ((Ex.refl w1).drew) (fun hHeld => ?_)
    refine wpAnyH_take (i := 0) (oi := ⟨some 5, .fieldAddr 45 (.tmp 1) 1, 0, "ref.go:117", #[], none⟩) (v := ?_) rfl (by kernel_rfl) (by kernel_rfl) (by kernel_rfl) (fun _ _ _ h => h) (Or.inl ⟨by rfl, ?hyr1x0q1⟩) (by assumption) ?restr1x0q1
    case hyr1x0q1 => intro wq hSw; (go_simp); (try with_reducible rfl)
    try simp only [Act.put, List.setIfInBounds_toArray, List.set_cons_zero, List.set_cons_succ]
    refine wpAnyH_take (i := 1) (oi := ⟨some 6, .load 22 (.tmp 5), 22, "ref.go:117", #[⟨0, .data⟩], none⟩) (v := ?_) rfl (by kernel_rfl) (by kernel_rfl) (by kernel_rfl) (fun _ _ _ h => h) (Or.inl ⟨by rfl, ?hyr1x1q4⟩) (by assumption) ?restr1x1q4
    case hyr1x1q4 => intro wq hSw; (have cq := (BH.out.nx hSw).cell 1 _ rfl; go_simp); (try with_reducible rfl)
    try simp only [Act.put, List.setIfInBounds_toArray, List.set_cons_zero, List.set_cons_succ]
    refine wpAnyH_take (i := 3) (oi := ⟨some 8, .fieldAddr 45 (.tmp 1) 2, 0, "ref.go:117", #[], none⟩) (v := ?_) rfl (by kernel_rfl) (by kernel_rfl) (by kernel_rfl) (fun _ _ _ h => h) (Or.inl ⟨by rfl, ?hyr1x3q7⟩) (by assumption) ?restr1x3q7
    case hyr1x3q7 => intro wq hSw; (go_simp); (try with_reducible rfl)
    try simp only [Act.put, List.setIfInBounds_toArray, List.set_cons_zero, List.set_cons_succ]
    refine wpAnyH_take (i := 4) (oi := ⟨some 9, .load 3 (.tmp 8), 3, "ref.go:117", #[⟨3, .data⟩], none⟩) (v := ?_) rfl (by kernel_rfl) (by kernel_rfl) (by kernel_rfl) (fun _ _ _ h => h) (Or.inl ⟨by rfl, ?hyr1x4q10⟩) (by assumption) ?restr1x4q10
    case hyr1x4q10 => intro wq hSw; (have cq := (BH.out.nx hSw).cell 2 _ rfl; go_simp); (try with_reducible rfl)
    try simp only [Act.put, List.setIfInBounds_toArray, List.set_cons_zero, List.set_cons_succ]
    refine wpAnyH_take (i := 5) (oi := ⟨some 10, .fieldAddr 45 (.tmp 1) 3, 0, "ref.go:117", #[], none⟩) (v := ?_) rfl (by kernel_rfl) (by kernel_rfl) (by kernel_rfl) (fun _ _ _ h => h) (Or.inl ⟨by rfl, ?hyr1x5q13⟩) (by assumption) ?restr1x5q13
    case hyr1x5q13 => intro wq hSw; (go_simp); (try with_reducible rfl)
    try simp only [Act.put, List.setIfInBounds_toArray, List.set_cons_zero, List.set_cons_succ]
    refine wpAnyH_take (i := 6) (oi := ⟨some 11, .load 3 (.tmp 10), 3, "ref.go:117", #[⟨5, .data⟩], none⟩) (v := ?_) rfl (by kernel_rfl) (by kernel_rfl) (by kernel_rfl) (fun _ _ _ h => h) (Or.inl ⟨by rfl, ?hyr1x6q16⟩) (by assumption) ?restr1x6q16
    case hyr1x6q16 => intro wq hSw; (have cq := (BH.out.nx hSw).cell 3 _ rfl; go_simp); (try with_reducible rfl)
    try simp only [Act.put, List.setIfInBounds_toArray, List.set_cons_zero, List.set_cons_succ]
    refine wpAnyH_ready (rs := [2, 7]) (by kernel_rfl) (by simp) ?_
    refine AllReadyH.cons (o := ⟨some 7, .call { callee := .builtin .append, args := #[.const (.slice none 0 0), .tmp 6], argTypes := #[22, 22] }, 22, "ref.go:117", #[⟨1, .data⟩], none⟩) rfl (fun K hK => ?_) ?_
    · rw [if_pos (by rfl)]
      have s0 := S1.out.nx hHeld
      have z0 := Ex.size hHeld
      refine wp_append_rd (enc := encI) _ (.const (.slice none 0 0)) (.tmp 6) 22 rfl w1.heap.size 3 (.int .i64 0) 1 8 Tryz.underlying22 Tryz.infoI6 rfl (by omega) (by omega) _ [] (OwnL.nil _ _ _ _ _) rfl _ _ n1 c1 kn s0 z1 (fun _ => rfl) (by simp [encI, Value.oneCell']) rfl (by simp) (by omega) z0 ?_
      intro v7 w7 own7 ch0 ch1
      have k7 : Ex _ w7 := ch0.mono (fun k hk => ⟨hk, by simp [Value.ownBlock]⟩)
      (try replace L8 := L8.nx k7)
      have j7 : Ex w1 w7 := Chg.trans hHeld ch1
      rw [List.nil_append] at own7
      clear ch0 ch1 s0 z0 k7 hHeld
      have hHeld := j7
      clear j7
      refine hK.out _ _ (hHeld) (fun hHeld => ?_)
      clear hK K
      try simp only [Act.put, List.setIfInBounds_toArray, List.set_cons_zero, List.set_cons_succ]
      refine wpAnyH_ready (rs := [7]) (by kernel_rfl) (by simp) ?_
      refine AllReadyH.cons (o := ⟨some 12, .buildSlice 22 2 #[(0, .tmp 9), (1, .tmp 11)], 22, "ref.go:117", #[⟨4, .data⟩, ⟨6, .data⟩], none⟩) rfl (fun K hK => ?_) AllReadyH.nil
      go_simp
      obtain ⟨g8, u8, hg8, hu8, L8, k8, j8⟩ := lit2 hHeld lf rt
      (try replace own7 := own7.nx k8)
      (first | rw [← hg8, ← hu8] | (rw [show w1.drew.heap.size = w1.heap.size from rfl] at hg8; rw [← hg8, show ∀ o, (w1.alloc o).drew = w1.drew.alloc o from fun _ => rfl, ← hu8]))
      clear hg8 hu8 k8 hHeld
      have hHeld := j8
      clear j8
      refine hK.out _ _ (hHeld) (fun hHeld => ?_)
      clear hK K
      try simp only [Act.put, List.setIfInBounds_toArray, List.set_cons_zero, List.set_cons_succ]
      refine wpAnyH_ready (rs := [8]) (by kernel_rfl) (by simp) ?_
      refine AllReadyH.cons (o := ⟨some 13, .call { callee := .builtin .append, args := #[.tmp 7, .tmp 12], argTypes := #[22, 22] }, 22, "ref.go:117", #[⟨2, .data⟩, ⟨7, .data⟩, ⟨2, .chain⟩], none⟩) rfl (fun K hK => ?_) AllReadyH.nil
      rw [if_pos (by rfl)]
      have z0 := Ex.size hHeld
      refine wp_append_rd (enc := encI) _ (.tmp 7) (.tmp 12) 22 rfl w1.heap.size 3 (.int .i64 0) 1 8 Tryz.underlying22 Tryz.infoI6 rfl (by omega) (by omega) _ kn own7 rfl _ _ 2 2 [lf, rt] L8 (fun h => by cases h) (fun _ => rfl) (by simp [encI, Value.oneCell']) rfl (by omega) (by omega) z0 ?_
      intro v9 w9 own9 ch0 ch1
      have j9 : Ex w1 w9 := Chg.trans hHeld ch1
      clear ch0 ch1 z0 own7 L8 hHeld
      have hHeld := j9
      clear j9
      refine hK.out _ _ (hHeld) (fun hHeld => ?_)
      clear hK K
      try simp only [Act.put, List.setIfInBounds_toArray, List.set_cons_zero, List.set_cons_succ]
      refine wpAnyH_take (i := 9) (oi := ⟨some 3, .assign (.tmp 13), 22, "ref.go:117", #[⟨8, .data⟩, ⟨8, .chain⟩, ⟨0, .phase⟩, ⟨1, .phase⟩, ⟨2, .phase⟩, ⟨3, .phase⟩, ⟨4, .phase⟩, ⟨5, .phase⟩, ⟨6, .phase⟩, ⟨7, .phase⟩, ⟨8, .phase⟩], none⟩) (v := ?_) rfl (by kernel_rfl) (by kernel_rfl) (by kernel_rfl) (fun _ _ _ h => h) (Or.inl ⟨by rfl, ?hyr1x9q61⟩) (by assumption) ?restr1x9q61
      case hyr1x9q61 => intro wq hSw; (go_simp); (try with_reducible rfl)
      try simp only [Act.put, List.setIfInBounds_toArray, List.set_cons_zero, List.set_cons_succ]
      refine wpAnyH_done (by kernel_rfl) ?_ _
      go_wp2_with fail
      go_meet
      exact ⟨own9, hHeld⟩
    refine AllReadyH.cons (o := ⟨some 12, .buildSlice 22 2 #[(0, .tmp 9), (1, .tmp 11)], 22, "ref.go:117", #[⟨4, .data⟩, ⟨6, .data⟩], none⟩) rfl (fun K hK => ?_) AllReadyH.nil
    · go_simp
      obtain ⟨g8, u8, hg8, hu8, L8, k8, j8⟩ := lit2 hHeld lf rt
      (try replace own7 := own7.nx k8)
      (first | rw [← hg8, ← hu8] | (rw [show w1.drew.heap.size = w1.heap.size from rfl] at hg8; rw [← hg8, show ∀ o, (w1.alloc o).drew = w1.drew.alloc o from fun _ => rfl, ← hu8]))
      clear hg8 hu8 k8 hHeld
      have hHeld := j8
      clear j8
      refine hK.out _ _ (hHeld) (fun hHeld => ?_)
      clear hK K
      try simp only [Act.put, List.setIfInBounds_toArray, List.set_cons_zero, List.set_cons_succ]
      refine wpAnyH_ready (rs := [2]) (by kernel_rfl) (by simp) ?_
      refine AllReadyH.cons (o := ⟨some 7, .call { callee := .builtin .append, args := #[.const (.slice none 0 0), .tmp 6], argTypes := #[22, 22] }, 22, "ref.go:117", #[⟨1, .data⟩], none⟩) rfl (fun K hK => ?_) AllReadyH.nil
      rw [if_pos (by rfl)]
      have s0 := S1.out.nx hHeld
      have z0 := Ex.size hHeld
      refine wp_append_rd (enc := encI) _ (.const (.slice none 0 0)) (.tmp 6) 22 rfl w1.heap.size 3 (.int .i64 0) 1 8 Tryz.underlying22 Tryz.infoI6 rfl (by omega) (by omega) _ [] (OwnL.nil _ _ _ _ _) rfl _ _ n1 c1 kn s0 z1 (fun _ => rfl) (by simp [encI, Value.oneCell']) rfl (by simp) (by omega) z0 ?_
      intro v7 w7 own7 ch0 ch1
      have k7 : Ex _ w7 := ch0.mono (fun k hk => ⟨hk, by simp [Value.ownBlock]⟩)
      (try replace L8 := L8.nx k7)
      have j7 : Ex w1 w7 := Chg.trans hHeld ch1
      rw [List.nil_append] at own7
      clear ch0 ch1 s0 z0 k7 hHeld
      have hHeld := j7
      clear j7
      refine hK.out _ _ (hHeld) (fun hHeld => ?_)
      clear hK K
      try simp only [Act.put, List.setIfInBounds_toArray, List.set_cons_zero, List.set_cons_succ]
      refine wpAnyH_ready (rs := [8]) (by kernel_rfl) (by simp) ?_
      refine AllReadyH.cons (o := ⟨some 13, .call { callee := .builtin .append, args := #[.tmp 7, .tmp 12], argTypes := #[22, 22] }, 22, "ref.go:117", #[⟨2, .data⟩, ⟨7, .data⟩, ⟨2, .chain⟩], none⟩) rfl (fun K hK => ?_) AllReadyH.nil
      rw [if_pos (by rfl)]
      have z0 := Ex.size hHeld
      refine wp_append_rd (enc := encI) _ (.tmp 7) (.tmp 12) 22 rfl w1.heap.size 3 (.int .i64 0) 1 8 Tryz.underlying22 Tryz.infoI6 rfl (by omega) (by omega) _ kn own7 rfl _ _ 2 2 [lf, rt] L8 (fun h => by cases h) (fun _ => rfl) (by simp [encI, Value.oneCell']) rfl (by omega) (by omega) z0 ?_
      intro v9 w9 own9 ch0 ch1
      have j9 : Ex w1 w9 := Chg.trans hHeld ch1
      clear ch0 ch1 z0 own7 L8 hHeld
      have hHeld := j9
      clear j9
      refine hK.out _ _ (hHeld) (fun hHeld => ?_)
      clear hK K
      try simp only [Act.put, List.setIfInBounds_toArray, List.set_cons_zero, List.set_cons_succ]
      refine wpAnyH_take (i := 9) (oi := ⟨some 3, .assign (.tmp 13), 22, "ref.go:117", #[⟨8, .data⟩, ⟨8, .chain⟩, ⟨0, .phase⟩, ⟨1, .phase⟩, ⟨2, .phase⟩, ⟨3, .phase⟩, ⟨4, .phase⟩, ⟨5, .phase⟩, ⟨6, .phase⟩, ⟨7, .phase⟩, ⟨8, .phase⟩], none⟩) (v := ?_) rfl (by kernel_rfl) (by kernel_rfl) (by kernel_rfl) (fun _ _ _ h => h) (Or.inl ⟨by rfl, ?hyr1x9q107⟩) (by assumption) ?restr1x9q107
      case hyr1x9q107 => intro wq hSw; (go_simp); (try with_reducible rfl)
      try simp only [Act.put, List.setIfInBounds_toArray, List.set_cons_zero, List.set_cons_succ]
      refine wpAnyH_done (by kernel_rfl) ?_ _
      go_wp2_with fail
      go_meet
      exact ⟨own9, hHeld⟩
  case rest =>
    obtain ⟨own, kk⟩ := hcut
    have hl0 : (kn ++ [lf, rt]).length ≤ 2000002 := by simp; omega
    generalize kn ++ [lf, rt] = l0 at own HN hl0
    have OWN := Lib.hid own
    have KC := Lib.hid kk
    clear own kk
    go_wp2_with fail
    go_loopw [3, 4] (fun o i wr => NmRel l0 nr w1 o i wr) (fun _ i _ => nr.length - (intOf i).toNat)
    case atStart => exact ⟨0, by omega, rfl, by simpa using OWN.out, KC.out⟩
    case round =>
      obtain ⟨j, hj, rfl, own, ki⟩ := hrel
      obtain ⟨wi, rfl⟩ : ∃ wi : World, wi = wr := ⟨_, rfl⟩
      have b4 := (BH.out.nx ki).cell 4 _ rfl
      by_cases hjm : j < n2
      · obtain ⟨x3, o3, y, rfl, hx3, hy, hc3⟩ := S2.out.at hjm
        have e0 : w1.cell? ⟨x3, o3 + j * 4, none⟩ = some (.int .i64 y.1) := hc3 0 _ rfl
        have e1 : w1.cell? ⟨x3, o3 + j * 4 + 1, none⟩ = some (.int .i64 y.2.1) := hc3 1 _ rfl
        have e2 : w1.cell? ⟨x3, o3 + j * 4 + 2, none⟩ = some (.int .i64 y.2.2.1) := hc3 2 _ rfl
        have e3 : w1.cell? ⟨x3, o3 + j * 4 + 3, none⟩ = some (.int .i64 y.2.2.2) := hc3 3 _ rfl
        have SN := Lib.hid (nm_snoc (l0 := l0) hy)
        have hrl : (l0 ++ (nr.take j).flatMap nums4).length ≤ 50000000 := by
          rw [List.length_append, nums_len, List.length_take]
          omega
        generalize l0 ++ (nr.take j).flatMap nums4 = row at own SN hrl
        have E := Lib.hid (show ∀ wq, Ex w1 wq → wq.cell? ⟨x3, o3 + j * 4, none⟩ = some (.int .i64 y.1) ∧ wq.cell? ⟨x3, o3 + j * 4 + 1, none⟩ = some (.int .i64 y.2.1) ∧ wq.cell? ⟨x3, o3 + j * 4 + 2, none⟩ = some (.int .i64 y.2.2.1) ∧ wq.cell? ⟨x3, o3 + j * 4 + 3, none⟩ = some (.int .i64 y.2.2.2) from fun wq k => ⟨Chg.cellv k e0 hx3, Chg.cellv k e1 hx3, Chg.cellv k e2 hx3, Chg.cellv k e3 hx3⟩)
        have zb := ki.size
        have KI := Lib.hid ki
        have OWN := Lib.hid (own.nx (Ex.drew (Ex.refl wi)))
        clear hy hc3 e0 e1 e2 e3 own ki
        go_upto_region 5 with fail
        clear b4
        refine wp_region_held_drew (S := Ex w1) (by kernel_rfl) (KI.out.drew) (fun hHeld => ?_)
        refine wpAnyH_take (i := 0) (oi := ⟨some 21, .move (.tmp 3), 22, "ref.go:119", #[], none⟩) (v := ?_) rfl (by kernel_rfl) (by kernel_rfl) (by kernel_rfl) (fun _ _ _ h => h) (Or.inl ⟨by rfl, ?hyr2x0q1⟩) (by assumption) ?restr2x0q1
        case hyr2x0q1 => intro wq hSw; (go_simp); (try with_reducible rfl)
        try simp only [Act.put, List.setIfInBounds_toArray, List.set_cons_zero, List.set_cons_succ]
        refine wpAnyH_take (i := 1) (oi := ⟨some 22, .fieldAddr 45 (.tmp 1) 4, 0, "ref.go:119", #[], none⟩) (v := ?_) rfl (by kernel_rfl) (by kernel_rfl) (by kernel_rfl) (fun _ _ _ h => h) (Or.inl ⟨by rfl, ?hyr2x1q4⟩) (by assumption) ?restr2x1q4
        case hyr2x1q4 => intro wq hSw; (go_simp); (try with_reducible rfl)
        try simp only [Act.put, List.setIfInBounds_toArray, List.set_cons_zero, List.set_cons_succ]
        refine wpAnyH_take (i := 2) (oi := ⟨some 23, .load 43 (.tmp 22), 43, "ref.go:119", #[⟨1, .data⟩], none⟩) (v := ?_) rfl (by kernel_rfl) (by kernel_rfl) (by kernel_rfl) (fun _ _ _ h => h) (Or.inl ⟨by rfl, ?hyr2x2q7⟩) (by assumption) ?restr2x2q7
        case hyr2x2q7 => intro wq hSw; (have cq := (BH.out.nx hSw).cell 4 _ rfl; go_simp); (try with_reducible rfl)
        try simp only [Act.put, List.setIfInBounds_toArray, List.set_cons_zero, List.set_cons_succ]
        refine wpAnyH_take (i := 3) (oi := ⟨some 24, .move (.tmp 4), 3, "ref.go:119", #[], none⟩) (v := ?_) rfl (by kernel_rfl) (by kernel_rfl) (by kernel_rfl) (fun _ _ _ h => h) (Or.inl ⟨by rfl, ?hyr2x3q10⟩) (by assumption) ?restr2x3q10
        case hyr2x3q10 => intro wq hSw; (go_simp); (try with_reducible rfl)
        try simp only [Act.put, List.setIfInBounds_toArray, List.set_cons_zero, List.set_cons_succ]
        refine wpAnyH_take (i := 4) (oi := ⟨some 25, .indexAddr 43 (.tmp 23) (.tmp 24), 0, "ref.go:119", #[⟨2, .data⟩, ⟨3, .data⟩], none⟩) (v := ?_) rfl (by kernel_rfl) (by kernel_rfl) (by kernel_rfl) (fun _ _ _ h => h) (Or.inl ⟨by rfl, ?hyr2x4q13⟩) (by assumption) ?restr2x4q13
        case hyr2x4q13 => intro wq hSw; (go_simp); (try with_reducible rfl)
        try simp only [Act.put, List.setIfInBounds_toArray, List.set_cons_zero, List.set_cons_succ]
        refine wpAnyH_take (i := 5) (oi := ⟨some 26, .fieldAddr 49 (.tmp 25) 0, 0, "ref.go:119", #[⟨4, .data⟩], none⟩) (v := ?_) rfl (by kernel_rfl) (by kernel_rfl) (by kernel_rfl) (fun _ _ _ h => h) (Or.inl ⟨by rfl, ?hyr2x5q16⟩) (by assumption) ?restr2x5q16
        case hyr2x5q16 => intro wq hSw; (go_simp); (try with_reducible rfl)
        try simp only [Act.put, List.setIfInBounds_toArray, List.set_cons_zero, List.set_cons_succ]
        refine wpAnyH_take (i := 6) (oi := ⟨some 27, .load 3 (.tmp 26), 3, "ref.go:119", #[⟨5, .data⟩], none⟩) (v := ?_) rfl (by kernel_rfl) (by kernel_rfl) (by kernel_rfl) (fun _ _ _ h => h) (Or.inl ⟨by rfl, ?hyr2x6q19⟩) (by assumption) ?restr2x6q19
        case hyr2x6q19 => intro wq hSw; ((obtain ⟨q0, q1, q2, q3⟩ := E.out _ hSw); go_simp); (try with_reducible rfl)
        try simp only [Act.put, List.setIfInBounds_toArray, List.set_cons_zero, List.set_cons_succ]
        refine wpAnyH_take (i := 7) (oi := ⟨some 28, .fieldAddr 45 (.tmp 1) 4, 0, "ref.go:119", #[], none⟩) (v := ?_) rfl (by kernel_rfl) (by kernel_rfl) (by kernel_rfl) (fun _ _ _ h => h) (Or.inl ⟨by rfl, ?hyr2x7q22⟩) (by assumption) ?restr2x7q22
        case hyr2x7q22 => intro wq hSw; (go_simp); (try with_reducible rfl)
        try simp only [Act.put, List.setIfInBounds_toArray, List.set_cons_zero, List.set_cons_succ]
        refine wpAnyH_take (i := 8) (oi := ⟨some 29, .load 43 (.tmp 28), 43, "ref.go:119", #[⟨7, .data⟩], none⟩) (v := ?_) rfl (by kernel_rfl) (by kernel_rfl) (by kernel_rfl) (fun _ _ _ h => h) (Or.inl ⟨by rfl, ?hyr2x8q25⟩) (by assumption) ?restr2x8q25
        case hyr2x8q25 => intro wq hSw; (have cq := (BH.out.nx hSw).cell 4 _ rfl; go_simp); (try with_reducible rfl)
        try simp only [Act.put, List.setIfInBounds_toArray, List.set_cons_zero, List.set_cons_succ]
        refine wpAnyH_take (i := 9) (oi := ⟨some 30, .move (.tmp 4), 3, "ref.go:119", #[], none⟩) (v := ?_) rfl (by kernel_rfl) (by kernel_rfl) (by kernel_rfl) (fun _ _ _ h => h) (Or.inl ⟨by rfl, ?hyr2x9q28⟩) (by assumption) ?restr2x9q28
        case hyr2x9q28 => intro wq hSw; (go_simp); (try with_reducible rfl)
        try simp only [Act.put, List.setIfInBounds_toArray, List.set_cons_zero, List.set_cons_succ]
        refine wpAnyH_take (i := 10) (oi := ⟨some 31, .indexAddr 43 (.tmp 29) (.tmp 30), 0, "ref.go:119", #[⟨8, .data⟩, ⟨9, .data⟩], none⟩) (v := ?_) rfl (by kernel_rfl) (by kernel_rfl) (by kernel_rfl) (fun _ _ _ h => h) (Or.inl ⟨by rfl, ?hyr2x10q31⟩) (by assumption) ?restr2x10q31
        case hyr2x10q31 => intro wq hSw; (go_simp); (try with_reducible rfl)
        try simp only [Act.put, List.setIfInBounds_toArray, List.set_cons_zero, List.set_cons_succ]
        refine wpAnyH_take (i := 11) (oi := ⟨some 32, .fieldAddr 49 (.tmp 31) 1, 0, "ref.go:119", #[⟨10, .data⟩], none⟩) (v := ?_) rfl (by kernel_rfl) (by kernel_rfl) (by kernel_rfl) (fun _ _ _ h => h) (Or.inl ⟨by rfl, ?hyr2x11q34⟩) (by assumption) ?restr2x11q34
        case hyr2x11q34 => intro wq hSw; (go_simp); (try with_reducible rfl)
        try simp only [Act.put, List.setIfInBounds_toArray, List.set_cons_zero, List.set_cons_succ]
        refine wpAnyH_take (i := 12) (oi := ⟨some 33, .load 3 (.tmp 32), 3, "ref.go:119", #[⟨11, .data⟩], none⟩) (v := ?_) rfl (by kernel_rfl) (by kernel_rfl) (by kernel_rfl) (fun _ _ _ h => h) (Or.inl ⟨by rfl, ?hyr2x12q37⟩) (by assumption) ?restr2x12q37
        case hyr2x12q37 => intro wq hSw; ((obtain ⟨q0, q1, q2, q3⟩ := E.out _ hSw); go_simp); (try with_reducible rfl)
        try simp only [Act.put, List.setIfInBounds_toArray, List.set_cons_zero, List.set_cons_succ]
        refine wpAnyH_take (i := 13) (oi := ⟨some 34, .fieldAddr 45 (.tmp 1) 4, 0, "ref.go:119", #[], none⟩) (v := ?_) rfl (by kernel_rfl) (by kernel_rfl) (by kernel_rfl) (fun _ _ _ h => h) (Or.inl ⟨by rfl, ?hyr2x13q40⟩) (by assumption) ?restr2x13q40
        case hyr2x13q40 => intro wq hSw; (go_simp); (try with_reducible rfl)
        try simp only [Act.put, List.setIfInBounds_toArray, List.set_cons_zero, List.set_cons_succ]
        refine wpAnyH_take (i := 14) (oi := ⟨some 35, .load 43 (.tmp 34), 43, "ref.go:119", #[⟨13, .data⟩], none⟩) (v := ?_) rfl (by kernel_rfl) (by kernel_rfl) (by kernel_rfl) (fun _ _ _ h => h) (Or.inl ⟨by rfl, ?hyr2x14q43⟩) (by assumption) ?restr2x14q43
        case hyr2x14q43 => intro wq hSw; (have cq := (BH.out.nx hSw).cell 4 _ rfl; go_simp); (try with_reducible rfl)
        try simp only [Act.put, List.setIfInBounds_toArray, List.set_cons_zero, List.set_cons_succ]
        refine wpAnyH_take (i := 15) (oi := ⟨some 36, .move (.tmp 4), 3, "ref.go:119", #[], none⟩) (v := ?_) rfl (by kernel_rfl) (by kernel_rfl) (by kernel_rfl) (fun _ _ _ h => h) (Or.inl ⟨by rfl, ?hyr2x15q46⟩) (by assumption) ?restr2x15q46
        case hyr2x15q46 => intro wq hSw; (go_simp); (try with_reducible rfl)
        try simp only [Act.put, List.setIfInBounds_toArray, List.set_cons_zero, List.set_cons_succ]
        refine wpAnyH_take (i := 16) (oi := ⟨some 37, .indexAddr 43 (.tmp 35) (.tmp 36), 0, "ref.go:119", #[⟨14, .data⟩, ⟨15, .data⟩], none⟩) (v := ?_) rfl (by kernel_rfl) (by kernel_rfl) (by kernel_rfl) (fun _ _ _ h => h) (Or.inl ⟨by rfl, ?hyr2x16q49⟩) (by assumption) ?restr2x16q49
        case hyr2x16q49 => intro wq hSw; (go_simp); (try with_reducible rfl)
        try simp only [Act.put, List.setIfInBounds_toArray, List.set_cons_zero, List.set_cons_succ]
        refine wpAnyH_take (i := 17) (oi := ⟨some 38, .fieldAddr 49 (.tmp 37) 2, 0, "ref.go:119", #[⟨16, .data⟩], none⟩) (v := ?_) rfl (by kernel_rfl) (by kernel_rfl) (by kernel_rfl) (fun _ _ _ h => h) (Or.inl ⟨by rfl, ?hyr2x17q52⟩) (by assumption) ?restr2x17q52
        case hyr2x17q52 => intro wq hSw; (go_simp); (try with_reducible rfl)
        try simp only [Act.put, List.setIfInBounds_toArray, List.set_cons_zero, List.set_cons_succ]
        refine wpAnyH_take (i := 18) (oi := ⟨some 39, .load 3 (.tmp 38), 3, "ref.go:119", #[⟨17, .data⟩], none⟩) (v := ?_) rfl (by kernel_rfl) (by kernel_rfl) (by kernel_rfl) (fun _ _ _ h => h) (Or.inl ⟨by rfl, ?hyr2x18q55⟩) (by assumption) ?restr2x18q55
        case hyr2x18q55 => intro wq hSw; ((obtain ⟨q0, q1, q2, q3⟩ := E.out _ hSw); go_simp); (try with_reducible rfl)
        try simp only [Act.put, List.setIfInBounds_toArray, List.set_cons_zero, List.set_cons_succ]
        refine wpAnyH_take (i := 19) (oi := ⟨some 40, .fieldAddr 45 (.tmp 1) 4, 0, "ref.go:119", #[], none⟩) (v := ?_) rfl (by kernel_rfl) (by kernel_rfl) (by kernel_rfl) (fun _ _ _ h => h) (Or.inl ⟨by rfl, ?hyr2x19q58⟩) (by assumption) ?restr2x19q58
        case hyr2x19q58 => intro wq hSw; (go_simp); (try with_reducible rfl)
        try simp only [Act.put, List.setIfInBounds_toArray, List.set_cons_zero, List.set_cons_succ]
        refine wpAnyH_take (i := 20) (oi := ⟨some 41, .load 43 (.tmp 40), 43, "ref.go:119", #[⟨19, .data⟩], none⟩) (v := ?_) rfl (by kernel_rfl) (by kernel_rfl) (by kernel_rfl) (fun _ _ _ h => h) (Or.inl ⟨by rfl, ?hyr2x20q61⟩) (by assumption) ?restr2x20q61
        case hyr2x20q61 => intro wq hSw; (have cq := (BH.out.nx hSw).cell 4 _ rfl; go_simp); (try with_reducible rfl)
        try simp only [Act.put, List.setIfInBounds_toArray, List.set_cons_zero, List.set_cons_succ]
        refine wpAnyH_take (i := 21) (oi := ⟨some 42, .move (.tmp 4), 3, "ref.go:119", #[], none⟩) (v := ?_) rfl (by kernel_rfl) (by kernel_rfl) (by kernel_rfl) (fun _ _ _ h => h) (Or.inl ⟨by rfl, ?hyr2x21q64⟩) (by assumption) ?restr2x21q64
        case hyr2x21q64 => intro wq hSw; (go_simp); (try with_reducible rfl)
        try simp only [Act.put, List.setIfInBounds_toArray, List.set_cons_zero, List.set_cons_succ]
        refine wpAnyH_take (i := 22) (oi := ⟨some 43, .indexAddr 43 (.tmp 41) (.tmp 42), 0, "ref.go:119", #[⟨20, .data⟩, ⟨21, .data⟩], none⟩) (v := ?_) rfl (by kernel_rfl) (by kernel_rfl) (by kernel_rfl) (fun _ _ _ h => h) (Or.inl ⟨by rfl, ?hyr2x22q67⟩) (by assumption) ?restr2x22q67
        case hyr2x22q67 => intro wq hSw; (go_simp); (try with_reducible rfl)
        try simp only [Act.put, List.setIfInBounds_toArray, List.set_cons_zero, List.set_cons_succ]
        refine wpAnyH_take (i := 23) (oi := ⟨some 44, .fieldAddr 49 (.tmp 43) 3, 0, "ref.go:119", #[⟨22, .data⟩], none⟩) (v := ?_) rfl (by kernel_rfl) (by kernel_rfl) (by kernel_rfl) (fun _ _ _ h => h) (Or.inl ⟨by rfl, ?hyr2x23q70⟩) (by assumption) ?restr2x23q70
        case hyr2x23q70 => intro wq hSw; (go_simp); (try with_reducible rfl)
        try simp only [Act.put, List.setIfInBounds_toArray, List.set_cons_zero, List.set_cons_succ]
        refine wpAnyH_take (i := 24) (oi := ⟨some 45, .load 3 (.tmp 44), 3, "ref.go:119", #[⟨23, .data⟩], none⟩) (v := ?_) rfl (by kernel_rfl) (by kernel_rfl) (by kernel_rfl) (fun _ _ _ h => h) (Or.inl ⟨by rfl, ?hyr2x24q73⟩) (by assumption) ?restr2x24q73
        case hyr2x24q73 => intro wq hSw; ((obtain ⟨q0, q1, q2, q3⟩ := E.out _ hSw); go_simp); (try with_reducible rfl)
        try simp only [Act.put, List.setIfInBounds_toArray, List.set_cons_zero, List.set_cons_succ]
        refine wpAnyH_ready (rs := [25]) (by kernel_rfl) (by simp) ?_
        refine AllReadyH.cons (o := ⟨some 46, .buildSlice 22 4 #[(0, .tmp 27), (1, .tmp 33), (2, .tmp 39), (3, .tmp 45)], 22, "ref.go:119", #[⟨6, .data⟩, ⟨12, .data⟩, ⟨18, .data⟩, ⟨24, .data⟩], none⟩) rfl (fun K hK => ?_) AllReadyH.nil
        go_simp
        obtain ⟨g8, u8, hg8, hu8, L8, k8, j8⟩ := lit4 hHeld y
        replace OWN := Lib.hid (OWN.out.nx k8)
        (first | rw [← hg8, ← hu8] | (rw [show wi.drew.heap.size = wi.heap.size from rfl] at hg8; rw [← hg8, show ∀ o, (wi.alloc o).drew = wi.drew.alloc o from fun _ => rfl, ← hu8]))
        clear hg8 hu8 k8 hHeld
        have hHeld := j8
        clear j8
        refine hK.out _ _ (hHeld) (fun hHeld => ?_)
        clear hK K
        try simp only [Act.put, List.setIfInBounds_toArray, List.set_cons_zero, List.set_cons_succ]
        refine wpAnyH_ready (rs := [26]) (by kernel_rfl) (by simp) ?_
        refine AllReadyH.cons (o := ⟨some 47, .call { callee := .builtin .append, args := #[.tmp 21, .tmp 46], argTypes := #[22, 22] }, 22, "ref.go:119", #[⟨0, .data⟩, ⟨25, .data⟩], none⟩) rfl (fun K hK => ?_) AllReadyH.nil
        rw [if_pos (by rfl)]
        have z0 := Ex.size hHeld
        refine wp_append_rd (enc := encI) _ (.tmp 21) (.tmp 46) 22 rfl w1.heap.size 3 (.int .i64 0) 1 8 Tryz.underlying22 Tryz.infoI6 rfl (by omega) (by omega) _ row OWN.out rfl _ _ 4 4 (nums4 y) L8 (fun h => by cases h) (fun _ => rfl) (by simp [encI, Value.oneCell']) rfl (by omega) (by omega) z0 ?_
        intro v9 w9 own9 ch0 ch1
        have j9 : Ex w1 w9 := Chg.trans hHeld ch1
        clear ch0 ch1 z0 L8 hHeld
        have hHeld := j9
        clear j9
        refine hK.out _ _ (hHeld) (fun hHeld => ?_)
        clear hK K
        try simp only [Act.put, List.setIfInBounds_toArray, List.set_cons_zero, List.set_cons_succ]
        refine wpAnyH_take (i := 27) (oi := ⟨some 3, .assign (.tmp 47), 22, "ref.go:119", #[⟨26, .data⟩, ⟨26, .chain⟩, ⟨0, .phase⟩, ⟨1, .phase⟩, ⟨2, .phase⟩, ⟨3, .phase⟩, ⟨4, .phase⟩, ⟨5, .phase⟩, ⟨6, .phase⟩, ⟨7, .phase⟩, ⟨8, .phase⟩, ⟨9, .phase⟩, ⟨10, .phase⟩, ⟨11, .phase⟩, ⟨12, .phase⟩, ⟨13, .phase⟩, ⟨14, .phase⟩, ⟨15, .phase⟩, ⟨16, .phase⟩, ⟨17, .phase⟩, ⟨18, .phase⟩, ⟨19, .phase⟩, ⟨20, .phase⟩, ⟨21, .phase⟩, ⟨22, .phase⟩, ⟨23, .phase⟩, ⟨24, .phase⟩, ⟨25, .phase⟩, ⟨26, .phase⟩], none⟩) (v := ?_) rfl (by kernel_rfl) (by kernel_rfl) (by kernel_rfl) (fun _ _ _ h => h) (Or.inl ⟨by rfl, ?hyr2x27q101⟩) (by assumption) ?restr2x27q101
        case hyr2x27q101 => intro wq hSw; (go_simp); (try with_reducible rfl)
        try simp only [Act.put, List.setIfInBounds_toArray, List.set_cons_zero, List.set_cons_succ]
        refine wpAnyH_done (by kernel_rfl) ?_ _
        skip
        go_wp2_with fail
        exact ⟨⟨j + 1, by omega, by go_num, by rw [SN.out]; exact own9, hHeld⟩, by simp [intOf]; omega⟩
      · obtain rfl : j = n2 := by omega
        rw [List.take_of_length_le (by omega)] at own
        have own := Lib.hid (own.base hz1)
        have KE := Lib.hid (K1.out.nx ki)
        clear hj hjm ki
        go_wp2_with fail
        go_ret
        exact ⟨_, rfl, by rw [HN.out]; exact own.out, KE.out⟩
end Go.Proofs.YtbnbjiddffihoaaGreatDoor

/- append of a long slice that reads as a list. -/
namespace Go.Proofs.YtbnbjiddffihoaaGreatDoor
open Go.RowKit

theorem wp_append_rdW {P : Program} {α : Type} {enc : α → List Value} {o : Oper} {a : Act} {K : Act → World → Prop} {Q : Exit → Act → World → Prop} (w0 : World) (s x : Operand) (t : TypeId)
    (ho : o.op = .call { callee := .builtin .append, args := #[s, x], argTypes := #[t, t] })
    (base : Nat) (e : TypeId) (z : Value) (sz bytes : Nat) (ht : P.underlying t = some (.slice e)) (hi : (P.info? e).map (fun i => (i.zero, i.size, i.bytes)) = some (some z, sz, bytes))
    (hzs : z.cells.size = sz) (hsz : 0 < sz) (hby : bytes ≤ 65536)
    (v : Value) (l : List α) (hown : OwnL sz enc e base w0 v l) (hs : a.eval s = v) (S : Nat → Prop) (A : Option Addr) (n c : Nat) (news : List α) (hrd : Rd sz enc S w0 A n news) (hA : A = none → c = 0) (hlen : ∀ y, (enc y).length = sz) (h1 : ∀ y, ∀ u ∈ enc y, u.oneCell' = true)
    (hx : a.eval x = .slice A n c) (hb1 : 0 < bytes) (hmul : (l.length + n) * bytes ≤ 140737488355328) (hbase : base ≤ w0.heap.size)
    (h : ∀ v' w', OwnL sz enc e base w' v' (l ++ news) → Chg (fun k => k < w0.heap.size ∧ ¬ v.ownBlock = some k) w0 w' → Chg (· < base) w0 w' → K (a.put o.dst v') w') :
    o.wp P a w0 K Q := by
  obtain ⟨i, hi, hz0, hz1, hz2⟩ := info_parts hi
  have hlen2 : l.length + n ≤ (l.length + n) * bytes := Nat.le_mul_of_pos_right _ hb1
  have hnl := hrd.1
  cases A with
  | none =>
    have hc := hA rfl
    have hn0 : n = 0 := by
      rcases hrd.2 with h0 | ⟨x, o, e1, _⟩
      · exact h0
      · cases e1
    subst hn0 hc
    have hnews : news = [] := List.eq_nil_of_length_eq_zero hnl
    subst hnews
    refine wp_append_none s x t ho base e i sz ht hi v l.length (l.flatMap enc) hs hown hx ?_
    exact h v w0 (by simpa using hown) (Chg.refl _ _) (Chg.refl _ _)
  | some ad =>
    refine wp_append_own _ s x t ho base e i z sz bytes ht hi hz0 hz1 hz2 hzs hsz v l.length (l.flatMap enc) hs hown ad n c (news.flatMap enc) hx ?_ ?_ ?_ (by unfold maxLen; omega) (by omega) hbase ?_
    · have : ∀ l : List α, (l.flatMap enc).length = l.length * sz := by
        intro l
        induction l with
        | nil => simp
        | cons y r ih => rw [List.flatMap_cons, List.length_append, hlen, ih, List.length_cons, Nat.succ_mul]; omega
      rw [this, hnl]
    · intro j u hu
      have hj := (List.getElem?_eq_some_iff.1 hu).1
      rcases hrd.2 with h0 | ⟨x, o, e1, _, e3⟩
      · subst h0
        have : news = [] := List.eq_nil_of_length_eq_zero hnl
        subst this
        simp at hj
      · cases e1
        rw [Addr.add_lit]
        have hdiv : ∃ y, news[j / sz]? = some y ∧ (enc y)[j % sz]? = some u := by
          clear e3 hmul hlen2 hown h hx hrd
          induction news generalizing j n with
          | nil => simp at hu
          | cons y r ih =>
            rw [List.flatMap_cons] at hu
            by_cases hlt : j < sz
            · rw [List.getElem?_append_left (by rw [hlen]; exact hlt)] at hu
              exact ⟨y, by rw [Nat.div_eq_of_lt hlt]; rfl, by rw [Nat.mod_eq_of_lt hlt]; exact hu⟩
            · rw [List.getElem?_append_right (by rw [hlen]; omega), hlen] at hu
              obtain ⟨y', h1', h2'⟩ := ih (n := n - 1) (j := j - sz) (by simp at hnl; omega) hu (List.getElem?_eq_some_iff.1 hu).1
              have e1 : j / sz = (j - sz) / sz + 1 := by
                rw [Nat.div_eq_sub_div hsz (by omega)]
              have e2 : j % sz = (j - sz) % sz := by
                rw [Nat.mod_eq_sub_mod (by omega)]
              exact ⟨y', by rw [e1]; simpa using h1', by rw [e2]; exact h2'⟩
        obtain ⟨y, hy1, hy2⟩ := hdiv
        have := e3 _ y hy1 _ u hy2
        rw [Nat.add_assoc, Nat.mul_comm, Nat.div_add_mod] at this
        exact this
    · intro u hu
      obtain ⟨y, _, hy⟩ := List.mem_flatMap.1 hu
      exact h1 y u hy
    · intro v' w' hown' hgrow hnil
      have hch : Chg (fun k => k < w0.heap.size ∧ ¬ v.ownBlock = some k) w0 w' := ⟨hgrow.os, hgrow.tape, hgrow.output, hgrow.size, fun k hk => hgrow.block k hk.1 (fun h => hk.2 h.symm)⟩
      refine h v' w' ?_ hch (hch.mono fun k hk => ⟨by omega, fun hv => ?_⟩)
      · unfold OwnL
        simpa [List.flatMap_append, hnl] using hown'
      · have := hown.lt k hv
        omega
end Go.Proofs.YtbnbjiddffihoaaGreatDoor
