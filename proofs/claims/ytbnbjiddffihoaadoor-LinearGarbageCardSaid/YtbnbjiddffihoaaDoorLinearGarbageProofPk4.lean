/- Texts for the statement LinearGarbageProof, part 4 of 9: RouP, RouA, SrP, SrE, RepP, JoiP, ConP, Wo, ConL, Has, MapS, RedA, LoopT, RedB, RedD, PrR, ApW, RedE. -/
import Derived.Lib.SliceRun
import Derived.Maps.OwnSet
import Derived.Maps.OwnOps
import Derived.BigQuiet
import Derived.BigRegion
import Derived.Test.YtbnbjiddffihoaaDoorLinearGarbageProofPk1
import Derived.Test.YtbnbjiddffihoaaDoorLinearGarbageProofPk2
import Derived.Test.YtbnbjiddffihoaaDoorLinearGarbageProofPk3

/- Routes over links, in plain Lean. -/
namespace Go.Proofs.YtbnbjiddffihoaaDoor
open Go.RowKit

abbrev Hop := Int × Int × Int
def atL (L : List Lkd) (id lev : Int) : Int × Int := match L.find? (fun c => c.1 == id) with | some c => if lev < 0 then (0, 0) else c.2[lev.toNat]?.getD (0, 0) | none => (0, 0)
/-- the node to which a search hops -/
def hopN (N : List Nd) (L : List Lkd) (key : List UInt8) (right : Bool) (x : Nd) (lev : Nat) : Option Nd :=
  if right then (if (findN N (atL L x.id lev).2).2 && (Op.bytesLess x.key.toList (findN N (atL L x.id lev).2).1.key.toList && !Op.bytesLess key (findN N (atL L x.id lev).2).1.key.toList) then some (findN N (atL L x.id lev).2).1 else none)
  else (if (findN N (atL L x.id lev).1).2 && (Op.bytesLess (findN N (atL L x.id lev).1).1.key.toList x.key.toList && Op.bytesLess key (findN N (atL L x.id lev).1).1.key.toList) then some (findN N (atL L x.id lev).1).1 else none)
/-- the hops from a node on, from the level below lev on -/
def rtF (N : List Nd) (L : List Lkd) (key : List UInt8) (right : Bool) : Nat → Nd → Nat → List Hop → Nd × List Hop
  | 0, x, _, out => (x, out)
  | _ + 1, x, 0, out => (x, out)
  | f + 1, x, lev + 1, out =>
    match hopN N L key right x lev with
    | some y => rtF N L key right f y (lev + 1) (out ++ [(x.id, y.id, (lev : Int))])
    | none => rtF N L key right f x lev out
/-- how many nodes lie beyond -/
def bey (N : List Nd) (right : Bool) (x : Nd) : Nat := N.countP fun z => if right then Op.bytesLess x.key.toList z.key.toList else Op.bytesLess z.key.toList x.key.toList
def measR (N : List Nd) (right : Bool) (x : Nd) (lev : Nat) : Nat := lev * (N.length + 1) + bey N right x
def endN (frm : Int) (h : List Hop) : Int := match h.getLast? with | some p => p.2.1 | none => frm
variable {N : List Nd} {L : List Lkd} {key : List UInt8} {right : Bool}
theorem hop_mem {x y : Nd} {lev : Nat} (h : hopN N L key right x lev = some y) : y ∈ N ∧
    (if right then Op.bytesLess x.key.toList y.key.toList = true ∧ Op.bytesLess key y.key.toList = false else Op.bytesLess y.key.toList x.key.toList = true ∧ Op.bytesLess key y.key.toList = true) := by
  unfold hopN at h
  cases right with
  | true =>
    rw [if_pos rfl] at h ⊢
    split at h
    · rename_i hc
      cases h
      simp only [Bool.and_eq_true, Bool.not_eq_true'] at hc
      exact ⟨(findN_mem hc.1).1, hc.2.1, hc.2.2⟩
    · cases h
  | false =>
    rw [if_neg (by simp)] at h ⊢
    split at h
    · rename_i hc
      cases h
      simp only [Bool.and_eq_true] at hc
      exact ⟨(findN_mem hc.1).1, hc.2.1, hc.2.2⟩
    · cases h
theorem count_lt {α : Type} {p q : α → Bool} : ∀ {l : List α} {y : α}, y ∈ l → (∀ z, p z = true → q z = true) → q y = true → p y = false → l.countP p < l.countP q
  | [], _, hy, _, _, _ => by cases hy
  | a :: l, y, hy, h, h1, h2 => by
    rw [List.countP_cons, List.countP_cons]
    have hle : l.countP p ≤ l.countP q := List.countP_mono_left (fun z _ => h z)
    rcases List.mem_cons.1 hy with rfl | hy
    · rw [h1, h2]; simp; omega
    · have := count_lt hy h h1 h2
      have h3 := h a
      cases hp : p a with
      | true => rw [h3 hp]; simp; omega
      | false =>
        generalize (if q a = true then 1 else 0) = z
        simp
        omega
theorem bey_lt {x y : Nd} {lev : Nat} (h : hopN N L key right x lev = some y) : bey N right y < bey N right x := by
  obtain ⟨hm, hc⟩ := hop_mem h
  unfold bey
  cases right with
  | true =>
    rw [if_pos rfl] at hc
    refine count_lt hm (fun z hz => ?_) ?_ ?_
    · rw [if_pos rfl] at hz ⊢; exact bl_trans hc.1 hz
    · rw [if_pos rfl]; exact hc.1
    · rw [if_pos rfl]; exact bytesLess_irrefl _
  | false =>
    rw [if_neg (by simp)] at hc
    refine count_lt hm (fun z hz => ?_) ?_ ?_
    · rw [if_neg (by simp)] at hz ⊢; exact bl_trans hz hc.1
    · rw [if_neg (by simp)]; exact hc.1
    · rw [if_neg (by simp)]; exact bytesLess_irrefl _
theorem bey_le (x : Nd) : bey N right x ≤ N.length := List.countP_le_length
theorem meas_hop {x y : Nd} {lev : Nat} (h : hopN N L key right x lev = some y) : measR N right y (lev + 1) < measR N right x (lev + 1) := by
  have := bey_lt h
  unfold measR
  omega
theorem meas_down (x : Nd) (lev : Nat) : measR N right x lev < measR N right x (lev + 1) := by
  unfold measR
  rw [Nat.add_mul]
  omega
/-- a state of the search whose result is known -/
def RtSt (N : List Nd) (L : List Lkd) (key : List UInt8) (right : Bool) (R : Nd × List Hop) (x : Nd) (lev : Nat) (out : List Hop) : Prop := ∃ f, measR N right x lev ≤ f ∧ rtF N L key right f x lev out = R
theorem RtSt.start {x : Nd} {lev : Nat} (hl : lev ≤ 17) : RtSt N L key right (rtF N L key right (18 * (N.length + 1)) x lev []) x lev [] := by
  refine ⟨_, ?_, rfl⟩
  unfold measR
  have := bey_le (N := N) (right := right) x
  have : lev * (N.length + 1) ≤ 17 * (N.length + 1) := Nat.mul_le_mul_right _ hl
  omega
theorem RtSt.hop {R : Nd × List Hop} {x y : Nd} {lev : Nat} {out : List Hop} (h : RtSt N L key right R x (lev + 1) out) (hh : hopN N L key right x lev = some y) : RtSt N L key right R y (lev + 1) (out ++ [(x.id, y.id, (lev : Int))]) := by
  obtain ⟨f, h1, h2⟩ := h
  have hm := meas_hop hh
  obtain ⟨f, rfl⟩ : ∃ g, f = g + 1 := ⟨f - 1, by omega⟩
  refine ⟨f, by omega, ?_⟩
  rw [← h2]
  show _ = (match hopN N L key right x lev with | some y => rtF N L key right f y (lev + 1) (out ++ [(x.id, y.id, (lev : Int))]) | none => rtF N L key right f x lev out)
  rw [hh]
theorem RtSt.down {R : Nd × List Hop} {x : Nd} {lev : Nat} {out : List Hop} (h : RtSt N L key right R x (lev + 1) out) (hh : hopN N L key right x lev = none) : RtSt N L key right R x lev out := by
  obtain ⟨f, h1, h2⟩ := h
  have hm := meas_down (N := N) (right := right) x lev
  obtain ⟨f, rfl⟩ : ∃ g, f = g + 1 := ⟨f - 1, by omega⟩
  refine ⟨f, by omega, ?_⟩
  rw [← h2]
  show _ = (match hopN N L key right x lev with | some y => rtF N L key right f y (lev + 1) (out ++ [(x.id, y.id, (lev : Int))]) | none => rtF N L key right f x lev out)
  rw [hh]
end Go.Proofs.YtbnbjiddffihoaaDoor

/- How the hops of a route go, in plain Lean: over any links. -/
namespace Go.Proofs.YtbnbjiddffihoaaDoor
open Go.RowKit

/-- one hop on the side of the key -/
def DirN (key : List UInt8) (right : Bool) (x y : Nd) : Prop := if right then Op.bytesLess x.key.toList y.key.toList = true ∧ Op.bytesLess key y.key.toList = false else Op.bytesLess y.key.toList x.key.toList = true ∧ Op.bytesLess key y.key.toList = true
/-- hops from x at levels up to lev, ending at x' -/
def HopsOk (N : List Nd) (key : List UInt8) (right : Bool) (x' : Nd) : Nd → Nat → List Hop → Prop
  | x, _, [] => x = x'
  | x, lev, h :: hs => ∃ (y : Nd) (lev' : Nat), y ∈ N ∧ h = (x.id, y.id, (lev' : Int)) ∧ lev' ≤ lev ∧ DirN key right x y ∧ HopsOk N key right x' y lev' hs
variable {N : List Nd} {L : List Lkd} {key : List UInt8} {right : Bool}
theorem HopsOk.mono {x' : Nd} : ∀ {hs : List Hop} {x : Nd} {lev lev2 : Nat}, HopsOk N key right x' x lev hs → lev ≤ lev2 → HopsOk N key right x' x lev2 hs
  | [], _, _, _, h, _ => h
  | _ :: _, _, _, _, ⟨y, l', h1, h2, h3, h4, h5⟩, hl => ⟨y, l', h1, h2, by omega, h4, h5⟩
theorem HopsOk.len {x' : Nd} : ∀ {hs : List Hop} {x : Nd} {lev : Nat}, HopsOk N key right x' x lev hs → hs.length + bey N right x' ≤ bey N right x
  | [], _, _, h => by rw [← show _ = x' from h]; simp
  | _ :: hs, x, _, ⟨y, l', h1, h2, h3, h4, h5⟩ => by
    have := h5.len
    have hlt : bey N right y < bey N right x := by
      unfold bey
      cases right with
      | true =>
        unfold DirN at h4
        rw [if_pos rfl] at h4
        refine count_lt h1 (fun z hz => ?_) ?_ ?_
        · rw [if_pos rfl] at hz ⊢; exact bl_trans h4.1 hz
        · rw [if_pos rfl]; exact h4.1
        · rw [if_pos rfl]; exact bytesLess_irrefl _
      | false =>
        unfold DirN at h4
        rw [if_neg (by simp)] at h4
        refine count_lt h1 (fun z hz => ?_) ?_ ?_
        · rw [if_neg (by simp)] at hz ⊢; exact bl_trans hz h4.1
        · rw [if_neg (by simp)]; exact h4.1
        · rw [if_neg (by simp)]; exact bytesLess_irrefl _
    simp only [List.length_cons]
    omega
theorem HopsOk.side {x' : Nd} : ∀ {hs : List Hop} {x : Nd} {lev : Nat}, HopsOk N key right x' x lev hs → (if right then Op.bytesLess key x.key.toList = false else Op.bytesLess key x.key.toList = true) → (if right then Op.bytesLess key x'.key.toList = false else Op.bytesLess key x'.key.toList = true)
  | [], _, _, h, hk => by rw [← show _ = x' from h]; exact hk
  | _ :: hs, x, _, ⟨y, l', h1, h2, h3, h4, h5⟩, hk => h5.side (by
      unfold DirN at h4
      cases right with
      | true => rw [if_pos rfl] at h4 ⊢; exact h4.2
      | false => rw [if_neg (by simp)] at h4 ⊢; exact h4.2)
theorem HopsOk.mem {x' : Nd} : ∀ {hs : List Hop} {x : Nd} {lev : Nat}, HopsOk N key right x' x lev hs → x ∈ N → x' ∈ N
  | [], _, _, h, hx => by rw [← show _ = x' from h]; exact hx
  | _ :: _, _, _, ⟨_, _, h1, _, _, _, h5⟩, _ => h5.mem h1
/-- the hops of a route, with the last one -/
def RouteOk (N : List Nd) (key : List UInt8) (right : Bool) : Nd → Nat → List Hop → Prop
  | _, _, [] => True
  | x, lev, h :: hs => ∃ (y : Nd) (lev' : Nat), y ∈ N ∧ h = (x.id, y.id, (lev' : Int)) ∧ lev' ≤ lev ∧
      (DirN key right x y ∨ (right = false ∧ hs = [] ∧ lev' = 0 ∧ Op.bytesLess key y.key.toList = false ∧ Op.bytesLess y.key.toList x.key.toList = true)) ∧ RouteOk N key right y lev' hs
theorem HopsOk.route {x' : Nd} : ∀ {hs : List Hop} {x : Nd} {lev : Nat}, HopsOk N key right x' x lev hs → RouteOk N key right x lev hs
  | [], _, _, _ => trivial
  | _ :: _, _, _, ⟨y, l', h1, h2, h3, h4, h5⟩ => ⟨y, l', h1, h2, h3, .inl h4, h5.route⟩
theorem HopsOk.snoc {x' y : Nd} (hy : y ∈ N) (hr : right = false) (h1 : Op.bytesLess key y.key.toList = false) (h2 : Op.bytesLess y.key.toList x'.key.toList = true) : ∀ {hs : List Hop} {x : Nd} {lev : Nat}, HopsOk N key right x' x lev hs → RouteOk N key right x lev (hs ++ [(x'.id, y.id, 0)])
  | [], x, lev, h => by
    have h : x = x' := h
    subst h
    exact ⟨y, 0, hy, rfl, by omega, .inr ⟨hr, rfl, rfl, h1, h2⟩, trivial⟩
  | _ :: _, _, _, ⟨z, l', g1, g2, g3, g4, g5⟩ => ⟨z, l', g1, g2, g3, .inl g4, g5.snoc hy hr h1 h2⟩
end Go.Proofs.YtbnbjiddffihoaaDoor

/- Runs, bounds and where searches end, in plain Lean. -/
namespace Go.Proofs.YtbnbjiddffihoaaDoor
open Go.RowKit

def brkN (x : Nd) (lev : Int) (y : Nd) : Bool := y.id == x.id || sameN x.word y.word (lev + 1)
def runStep (x : Nd) (lev : Int) (s : Nat × Nat) (y : Nd) : Nat × Nat := if brkN x lev y then (s.1, 0) else (max s.1 (s.2 + 1), s.2 + 1)
def runF (x : Nd) (lev : Int) (G : List Nd) : Nat × Nat := G.foldl (runStep x lev) (0, 0)
def runN (l : List Nd) (id lev : Int) : Nat := if checkN l = 0 ∧ (findN l id).2 = true ∧ lvlN lev = true then (runF (findN l id).1 lev (thrG l id lev)).1 else 0
section
variable {x : Nd} {lev : Int}
theorem run_inv : ∀ (G : List Nd) (s : Nat × Nat), s.2 ≤ s.1 → (G.foldl (runStep x lev) s).2 ≤ (G.foldl (runStep x lev) s).1 ∧ s.1 ≤ (G.foldl (runStep x lev) s).1
  | [], s, h => ⟨h, Nat.le_refl _⟩
  | y :: G, s, h => by
    have h1 : (runStep x lev s y).2 ≤ (runStep x lev s y).1 ∧ s.1 ≤ (runStep x lev s y).1 := by
      unfold runStep
      split
      · exact ⟨Nat.zero_le _, Nat.le_refl _⟩
      · exact ⟨by show s.2 + 1 ≤ max s.1 (s.2 + 1); omega, by show s.1 ≤ max s.1 (s.2 + 1); omega⟩
    have := run_inv G _ h1.1
    exact ⟨this.1, Nat.le_trans h1.2 this.2⟩
theorem run_q : ∀ (Q : List Nd) (s : Nat × Nat), s.2 ≤ s.1 → (∀ y ∈ Q, brkN x lev y = false) → (Q.foldl (runStep x lev) s).2 = s.2 + Q.length
  | [], s, _, _ => rfl
  | y :: Q, s, h, hQ => by
    have e : runStep x lev s y = (max s.1 (s.2 + 1), s.2 + 1) := by unfold runStep; rw [hQ y (by simp)]; rfl
    show (Q.foldl (runStep x lev) (runStep x lev s y)).2 = _
    rw [e, run_q Q _ (by simp only; omega) (fun z hz => hQ z (by simp [hz]))]
    simp only [List.length_cons]
    omega
theorem run_seg (A Q B : List Nd) (hQ : ∀ y ∈ Q, brkN x lev y = false) : Q.length ≤ (runF x lev (A ++ Q ++ B)).1 := by
  unfold runF
  rw [List.foldl_append, List.foldl_append]
  have h1 := run_inv (x := x) (lev := lev) A (0, 0) (Nat.le_refl _)
  have h2 := run_q Q _ h1.1 hQ
  have h3 := run_inv (x := x) (lev := lev) Q _ h1.1
  have h4 := run_inv (x := x) (lev := lev) B _ h3.1
  omega
end
theorem runN_eq {l : List Nd} (h0 : checkN l = 0) {x : Nd} (hx : x ∈ l) {h : Nat} (hh : h ≤ 16) : runN l x.id h = (runF x h (grpS l h x.word)).1 := by
  have hf := find_in h0 hx
  unfold runN thrG
  rw [hf, if_pos ⟨h0, rfl, by unfold lvlN; simp; omega⟩]
  rfl
end Go.Proofs.YtbnbjiddffihoaaDoor

/- Where searches over exact links end, and after how many hops, in plain Lean. -/
namespace Go.Proofs.YtbnbjiddffihoaaDoor
open Go.RowKit

def dirL (right : Bool) (G : List Nd) : List Nd := if right then G else G.reverse
def dlt (right : Bool) (a b : Nd) : Bool := if right then Op.bytesLess a.key.toList b.key.toList else Op.bytesLess b.key.toList a.key.toList
def win (right : Bool) (key : List UInt8) (z : Nd) : Bool := if right then !Op.bytesLess key z.key.toList else Op.bytesLess key z.key.toList
theorem dlt_trans {right : Bool} {a b c : Nd} (h1 : dlt right a b = true) (h2 : dlt right b c = true) : dlt right a c = true := by
  cases right with
  | true => exact bl_trans h1 h2
  | false => exact bl_trans h2 h1
theorem dlt_irrefl {right : Bool} (a : Nd) : dlt right a a = false := by
  cases right <;> exact bytesLess_irrefl _
theorem win_down {right : Bool} {key : List UInt8} {a b : Nd} (h : dlt right a b = true) (hw : win right key b = true) : win right key a = true := by
  cases right with
  | true =>
    have h : Op.bytesLess a.key.toList b.key.toList = true := h
    have hw : (!Op.bytesLess key b.key.toList) = true := hw
    show (!Op.bytesLess key a.key.toList) = true
    cases hk : Op.bytesLess key a.key.toList with
    | false => rfl
    | true => rw [bl_trans hk h] at hw; cases hw
  | false =>
    have h : Op.bytesLess b.key.toList a.key.toList = true := h
    have hw : Op.bytesLess key b.key.toList = true := hw
    exact bl_trans hw h
theorem dir_asc {right : Bool} {G : List Nd} (h : AscS G) : (dirL right G).Pairwise fun a b => dlt right a b = true := by
  cases right with
  | true => exact List.Pairwise.imp (fun h => h.1) h
  | false => exact List.pairwise_reverse.2 (List.Pairwise.imp (fun h => h.1) h)
theorem dir_mem {right : Bool} {G : List Nd} {y : Nd} : y ∈ dirL right G ↔ y ∈ G := by cases right <;> simp [dirL]
section
variable {N : List Nd} {L : List Lkd} {key : List UInt8} {right : Bool}
/-- the first node of a list, if it is within the key -/
def nextW (right : Bool) (key : List UInt8) : List Nd → Option Nd
  | [] => none
  | y :: _ => if win right key y = true then some y else none
theorem nextW_nil (right : Bool) (key : List UInt8) : nextW right key [] = none := rfl
theorem nextW_cons (right : Bool) (key : List UInt8) (y : Nd) (B : List Nd) : nextW right key (y :: B) = if win right key y = true then some y else none := rfl
/-- a hop over exact links goes to the next node of the list, if it is within the key -/
theorem hop_exact (h0 : checkN N = 0) {x : Nd} {lev : Nat} (hl : lev ≤ 16) (hx : x ∈ N) (hL : atL L x.id lev = (neighN N x.id lev).1) {A B : List Nd} (e : dirL right (grpS N lev x.word) = A ++ x :: B) :
    hopN N L key right x lev = nextW right key B := by
  have hlv : lvlN (lev : Int) = true := by unfold lvlN; simp; omega
  have hm : ∀ y ∈ A ++ x :: B, y ∈ N := fun y hy => (grp_mem.1 (dir_mem.1 (by rw [e]; exact hy))).1
  have ha := dir_asc (right := right) (grp_asc h0 (lev : Int) x.word)
  rw [e] at ha
  have hxB := (List.pairwise_cons.1 (List.pairwise_append.1 ha).2.1).1
  cases right with
  | true =>
    have hn := neigh_split h0 hx hlv (A := A) (B := B) e
    unfold hopN
    rw [if_pos rfl, hL, hn]
    cases B with
    | nil => simp [headI, Nd.zero, find_zero h0, nextW_nil]
    | cons y B =>
      have hy := find_in h0 (hm y (by simp))
      have h1 : Op.bytesLess x.key.toList y.key.toList = true := hxB y (by simp)
      simp only [headI, List.head?_cons, Option.getD_some, hy]
      simp [h1, win, nextW_cons]
  | false =>
    have e' : grpS N lev x.word = B.reverse ++ x :: A.reverse := by
      have := congrArg List.reverse (show (grpS N lev x.word).reverse = A ++ x :: B from e)
      simpa using this
    have hn := neigh_split h0 hx hlv e'
    unfold hopN
    rw [if_neg (by simp), hL, hn]
    cases B with
    | nil => simp [lastI, Nd.zero, find_zero h0, nextW_nil]
    | cons y B =>
      have hy := find_in h0 (hm y (by simp))
      have h1 : Op.bytesLess y.key.toList x.key.toList = true := hxB y (by simp)
      simp only [lastI, List.reverse_cons, List.getLast?_append, List.getLast?_singleton, Option.some_or, Option.getD_some, hy]
      simp [h1, win, nextW_cons]
/-- where a search stands: at x, having made hops over Q at this level -/
def CntSt (N : List Nd) (key : List UInt8) (right : Bool) (frm : Nd) (lev : Nat) (x : Nd) (q : Nat) : Prop :=
  ∃ P A Q B, dirL right (grpS N (lev : Int) frm.word) = P ++ x :: B ∧ P ++ [x] = A ++ Q ∧ Q.length = q ∧ (∀ y ∈ Q, brkN frm lev y = false) ∧ (∀ y ∈ B, win right key y = true → brkN frm lev y = false) ∧ (x = frm ∨ dlt right frm x = true)
theorem run_dir (h0 : checkN N = 0) {frm : Nd} (hf : frm ∈ N) {lev : Nat} (hl : lev ≤ 16) {A Q B : List Nd} (e : dirL right (grpS N (lev : Int) frm.word) = A ++ Q ++ B) (hQ : ∀ y ∈ Q, brkN frm lev y = false) : Q.length ≤ runN N frm.id lev := by
  rw [runN_eq h0 hf hl]
  cases right with
  | true =>
    have e : grpS N (lev : Int) frm.word = A ++ Q ++ B := e
    rw [e]; exact run_seg A Q B hQ
  | false =>
    have e' : grpS N (lev : Int) frm.word = B.reverse ++ Q.reverse ++ A.reverse := by
      have := congrArg List.reverse (show (grpS N lev frm.word).reverse = A ++ Q ++ B from e)
      simpa using this
    rw [e', ← List.length_reverse]; exact run_seg _ _ _ (fun y hy => hQ y (by simpa using hy))
theorem CntSt.le (h0 : checkN N = 0) {frm : Nd} (hf : frm ∈ N) {lev : Nat} (hl : lev ≤ 16) {x : Nd} {q : Nat} (h : CntSt N key right frm lev x q) : q ≤ runN N frm.id lev := by
  obtain ⟨P, A, Q, B, e1, e2, rfl, h3, _, _⟩ := h
  refine run_dir (right := right) (A := A) (B := B) h0 hf hl ?_ h3
  rw [e1, ← e2]; simp
theorem CntSt.mem {frm : Nd} {lev : Nat} {x : Nd} {q : Nat} (h : CntSt N key right frm lev x q) : x ∈ N ∧ sameN x.word frm.word lev = true := by
  obtain ⟨P, A, Q, B, e1, _⟩ := h
  exact grp_mem.1 (dir_mem.1 (by rw [e1]; simp))
/-- the list of a node that agrees -/
theorem CntSt.own (hw : ∀ x ∈ N, x.word < 4294967296) {frm : Nd} (hf : frm ∈ N) {lev : Nat} {x : Nd} {q : Nat} (h : CntSt N key right frm lev x q) : grpS N (lev : Int) x.word = grpS N (lev : Int) frm.word :=
  grp_eq hw (hw x h.mem.1) (hw frm hf) h.mem.2
theorem CntSt.step (h0 : checkN N = 0) (hw : ∀ x ∈ N, x.word < 4294967296) {frm : Nd} (hf : frm ∈ N) {lev : Nat} (hl : lev ≤ 16) {x y : Nd} {q : Nat} (h : CntSt N key right frm lev x q) (hL : atL L x.id lev = (neighN N x.id lev).1) (hh : hopN N L key right x lev = some y) :
    CntSt N key right frm lev y (q + 1) := by
  have ho := h.own hw hf
  have hm := h.mem
  obtain ⟨P, A, Q, B, e1, e2, rfl, h3, h4, h5⟩ := h
  rw [hop_exact h0 hl hm.1 hL (by rw [ho]; exact e1)] at hh
  have ha := dir_asc (right := right) (grp_asc h0 (lev : Int) frm.word)
  rw [e1] at ha
  have hxB := (List.pairwise_cons.1 (List.pairwise_append.1 ha).2.1).1
  cases B with
  | nil => cases hh
  | cons z B =>
    rw [nextW_cons] at hh
    split at hh
    · rename_i hwin
      cases hh
      refine ⟨P ++ [x], A, Q ++ [y], B, by rw [e1]; simp, by rw [e2]; simp, by simp, ?_, fun z hz => h4 z (by simp [hz]), ?_⟩
      · intro z hz
        rcases List.mem_append.1 hz with h | h
        · exact h3 z h
        · have : z = y := by simpa using h
          rw [this]
          exact h4 y (by simp) hwin
      · have hxy := hxB y (by simp)
        rcases h5 with rfl | h5
        · exact .inr hxy
        · exact .inr (dlt_trans h5 hxy)
    · cases hh
theorem sameN_le {a b : Nat} {h k : Int} (hs : sameN a b h = true) (hk : k ≤ h) : sameN a b k = true := by
  unfold sameN at *
  simp only [decide_eq_true_eq] at *
  omega
theorem CntSt.down (h0 : checkN N = 0) (hw : ∀ x ∈ N, x.word < 4294967296) {frm : Nd} (hf : frm ∈ N) {lev : Nat} (hl : lev + 1 ≤ 16) {x : Nd} {q : Nat} (h : CntSt N key right frm (lev + 1) x q) (hL : atL L x.id (lev + 1 : Nat) = (neighN N x.id (lev + 1 : Nat)).1) (hh : hopN N L key right x (lev + 1) = none) :
    CntSt N key right frm lev x 0 := by
  have ho := h.own hw hf
  have hm := h.mem
  obtain ⟨P, A, Q, B, e1, e2, rfl, h3, h4, h5⟩ := h
  rw [hop_exact h0 hl hm.1 hL (by rw [ho]; exact e1)] at hh
  have ha := dir_asc (right := right) (grp_asc h0 ((lev + 1 : Nat) : Int) frm.word)
  rw [e1] at ha
  have ha2 := List.pairwise_append.1 ha
  have hxm : x ∈ dirL right (grpS N (lev : Int) frm.word) := dir_mem.2 (grp_mem.2 ⟨hm.1, sameN_le hm.2 (by omega)⟩)
  obtain ⟨P2, B2, f1⟩ := List.append_of_mem hxm
  have hb := dir_asc (right := right) (grp_asc h0 (lev : Int) frm.word)
  rw [f1] at hb
  have hb2 := (List.pairwise_cons.1 (List.pairwise_append.1 hb).2.1).1
  refine ⟨P2, P2 ++ [x], [], B2, f1, by simp, rfl, by simp, fun z hz hwz => ?_, h5⟩
  have hxz := hb2 z hz
  have hzN : z ∈ N := (grp_mem.1 (dir_mem.1 (by rw [f1]; simp [hz]))).1
  cases hbr : brkN frm lev z with
  | false => rfl
  | true =>
    exfalso
    unfold brkN at hbr
    rcases Bool.or_eq_true_iff.1 hbr with h | h
    · have hid : z.id = frm.id := by simpa using h
      have hz2 : z = frm := ids_eq (check_keys h0) hzN hf hid
      rw [hz2] at hxz
      rcases h5 with rfl | h5
      · rw [dlt_irrefl] at hxz; cases hxz
      · have := dlt_trans h5 hxz
        rw [dlt_irrefl] at this; cases this
    · have hzG : z ∈ dirL right (grpS N ((lev + 1 : Nat) : Int) frm.word) := dir_mem.2 (grp_mem.2 ⟨hzN, sameN_symm (by rw [show ((lev + 1 : Nat) : Int) = (lev : Int) + 1 by omega]; exact h)⟩)
      rw [e1] at hzG
      have hzB : z ∈ B := by
        rcases List.mem_append.1 hzG with h | h
        · have := ha2.2.2 z h x (by simp)
          have := dlt_trans this hxz
          rw [dlt_irrefl] at this; cases this
        · rcases List.mem_cons.1 h with h | h
          · rw [h, dlt_irrefl] at hxz; cases hxz
          · exact h
      cases B with
      | nil => cases hzB
      | cons y B =>
        rw [nextW_cons] at hh
        split at hh
        · cases hh
        · rename_i hwn
          rcases List.mem_cons.1 hzB with h | h
          · rw [h] at hwz; exact hwn hwz
          · exact hwn (win_down ((List.pairwise_cons.1 (List.pairwise_cons.1 ha2.2.1).2).1 z h) hwz)
end
theorem HopsOk.ends {N : List Nd} {key : List UInt8} {right : Bool} {x' : Nd} : ∀ {hs : List Hop} {x : Nd} {lev : Nat}, HopsOk N key right x' x lev hs → endN x.id hs = x'.id
  | [], x, _, h => by rw [show x = x' from h]; rfl
  | h :: hs, x, _, ⟨y, l', h1, h2, h3, h4, h5⟩ => by
    have := h5.ends
    cases hs with
    | nil => subst h2; exact this
    | cons g hs =>
      have e : endN x.id (h :: g :: hs) = endN y.id (g :: hs) := by
        unfold endN
        rw [List.getLast?_cons_cons]
        cases hq : (g :: hs).getLast? with
        | none => simp at hq
        | some p => rfl
      rw [e]; exact this
end Go.Proofs.YtbnbjiddffihoaaDoor

/- What the statements of chapters 17 and 18 say, in plain Lean. -/
namespace Go.Proofs.YtbnbjiddffihoaaDoor
open Go.RowKit

section
variable {N : List Nd}
end
end Go.Proofs.YtbnbjiddffihoaaDoor

/- Components by labels, in plain Lean. -/
namespace Go.Proofs.YtbnbjiddffihoaaDoor
open Go.RowKit

namespace Lab
/-- one pair of places is joined -/
def joinL (lab : List Nat) (i j : Nat) : List Nat := (lab.set i (min (lab.getD i 0) (lab.getD j 0))).set j (min (lab.getD i 0) (lab.getD j 0))
def stepL (ids : List Int) (lab : List Nat) (q : Int × Int) : List Nat := match ids.findIdx? (· == q.1), ids.findIdx? (· == q.2) with
  | some i, some j => joinL lab i j
  | _, _ => lab
def sweepL (ids : List Int) (E : List (Int × Int)) (lab : List Nat) : List Nat := E.foldl (stepL ids) lab
def labsL (ids : List Int) (E : List (Int × Int)) : Nat → List Nat
  | 0 => List.range ids.length
  | t + 1 => sweepL ids E (labsL ids E t)
/-- the number of components -/
def partsL (ids : List Int) (E : List (Int × Int)) : Nat := ((List.range ids.length).filter fun i => (labsL ids E ids.length).getD i 0 == i).length
/-- two places are joined by a pair -/
def Ed (ids : List Int) (E : List (Int × Int)) (i j : Nat) : Prop := ∃ q ∈ E, ids.findIdx? (· == q.1) = some i ∧ ids.findIdx? (· == q.2) = some j
inductive Cn (ids : List Int) (E : List (Int × Int)) : Nat → Nat → Prop
  | refl (i : Nat) : Cn ids E i i
  | step {i j k : Nat} : Ed ids E i j ∨ Ed ids E j i → Cn ids E j k → Cn ids E i k
variable {ids : List Int} {E : List (Int × Int)}
theorem Cn.trans {i j k : Nat} (h : Cn ids E i j) (g : Cn ids E j k) : Cn ids E i k := by
  induction h with
  | refl _ => exact g
  | step h1 _ ih => exact .step h1 (ih g)
theorem Cn.one {i j : Nat} (h : Ed ids E i j ∨ Ed ids E j i) : Cn ids E i j := .step h (.refl j)
theorem Cn.symm {i j : Nat} (h : Cn ids E i j) : Cn ids E j i := by
  induction h with
  | refl _ => exact .refl _
  | step h1 _ ih => exact ih.trans (.one h1.symm)
theorem ed_lt {i j : Nat} (h : Ed ids E i j) : i < ids.length ∧ j < ids.length := by
  obtain ⟨q, _, h1, h2⟩ := h
  exact ⟨(List.findIdx?_eq_some_iff_getElem.1 h1).1, (List.findIdx?_eq_some_iff_getElem.1 h2).1⟩
theorem set_getD (l : List Nat) (i x k : Nat) (h : i < l.length) : (l.set i x).getD k 0 = if k = i then x else l.getD k 0 := by
  rw [List.getD_eq_getElem?_getD, List.getD_eq_getElem?_getD]
  by_cases hk : k = i
  · subst hk; rw [if_pos rfl, List.getElem?_set_self h]; rfl
  · rw [if_neg hk, List.getElem?_set_ne (Ne.symm hk)]
theorem join_getD (lab : List Nat) (i j k : Nat) (hi : i < lab.length) (hj : j < lab.length) : (joinL lab i j).getD k 0 = if k = i ∨ k = j then min (lab.getD i 0) (lab.getD j 0) else lab.getD k 0 := by
  unfold joinL
  rw [set_getD _ _ _ _ (by simp; exact hj), set_getD _ _ _ _ hi]
  by_cases h1 : k = j
  · rw [if_pos h1, if_pos (.inr h1)]
  · rw [if_neg h1]
    by_cases h2 : k = i
    · rw [if_pos h2, if_pos (.inl h2)]
    · rw [if_neg h2, if_neg (by rintro (h | h); exact h2 h; exact h1 h)]
theorem join_len (lab : List Nat) (i j : Nat) : (joinL lab i j).length = lab.length := by unfold joinL; simp
/-- labels of a list: places of the same component, not above -/
def Okl (ids : List Int) (E : List (Int × Int)) (lab : List Nat) : Prop := lab.length = ids.length ∧ ∀ i, i < ids.length → lab.getD i 0 ≤ i ∧ Cn ids E i (lab.getD i 0)
/-- labels fall -/
def Lel (a b : List Nat) : Prop := ∀ i, b.getD i 0 ≤ a.getD i 0
theorem stepl_ok {lab : List Nat} (h : Okl ids E lab) {q : Int × Int} (hq : q ∈ E) : Okl ids E (stepL ids lab q) ∧ Lel lab (stepL ids lab q) := by
  unfold stepL
  cases h1 : ids.findIdx? (· == q.1) with
  | none => exact ⟨h, fun i => Nat.le_refl _⟩
  | some i =>
    cases h2 : ids.findIdx? (· == q.2) with
    | none => exact ⟨h, fun i => Nat.le_refl _⟩
    | some j =>
      simp only
      have he : Ed ids E i j := ⟨q, hq, h1, h2⟩
      obtain ⟨hi, hj⟩ := ed_lt he
      have li : i < lab.length := by rw [h.1]; exact hi
      have lj : j < lab.length := by rw [h.1]; exact hj
      have ci := h.2 i hi
      have cj := h.2 j hj
      have hij : Cn ids E i j := .one (.inl he)
      refine ⟨⟨by rw [join_len]; exact h.1, fun k hk => ?_⟩, fun k => ?_⟩
      · rw [join_getD lab i j k li lj]
        by_cases hkk : k = i ∨ k = j
        · rw [if_pos hkk]
          rcases hkk with rfl | rfl
          · refine ⟨by omega, ?_⟩
            rcases Nat.le_total (lab.getD k 0) (lab.getD j 0) with h | h
            · rw [Nat.min_eq_left h]; exact ci.2
            · rw [Nat.min_eq_right h]; exact hij.trans cj.2
          · refine ⟨by omega, ?_⟩
            rcases Nat.le_total (lab.getD i 0) (lab.getD k 0) with h | h
            · rw [Nat.min_eq_left h]; exact hij.symm.trans ci.2
            · rw [Nat.min_eq_right h]; exact cj.2
        · rw [if_neg hkk]; exact h.2 k hk
      · rw [join_getD lab i j k li lj]
        by_cases hkk : k = i ∨ k = j
        · rw [if_pos hkk]
          rcases hkk with rfl | rfl <;> omega
        · rw [if_neg hkk]; exact Nat.le_refl _
theorem fold_ok : ∀ (F : List (Int × Int)) (lab : List Nat), (∀ q ∈ F, q ∈ E) → Okl ids E lab → Okl ids E (F.foldl (stepL ids) lab) ∧ Lel lab (F.foldl (stepL ids) lab)
  | [], lab, _, h => ⟨h, fun _ => Nat.le_refl _⟩
  | q :: F, lab, hF, h => by
    obtain ⟨h1, h2⟩ := stepl_ok h (hF q (by simp))
    obtain ⟨h3, h4⟩ := fold_ok F _ (fun r hr => hF r (by simp [hr])) h1
    exact ⟨h3, fun i => Nat.le_trans (h4 i) (h2 i)⟩
theorem labs_ok : ∀ t, Okl ids E (labsL ids E t)
  | 0 => ⟨by simp [labsL], fun i hi => by
      have : (labsL ids E 0).getD i 0 = i := by unfold labsL; rw [List.getD_eq_getElem?_getD, List.getElem?_range hi]; rfl
      rw [this]
      exact ⟨Nat.le_refl _, .refl _⟩⟩
  | t + 1 => (fold_ok E _ (fun _ h => h) (labs_ok t)).1
theorem labs_le (t : Nat) : Lel (labsL ids E t) (labsL ids E (t + 1)) := (fold_ok E _ (fun _ h => h) (labs_ok t)).2
/-- an edge carries the least label over -/
theorem carry {c : Nat} : ∀ (F : List (Int × Int)) (lab : List Nat), (∀ q ∈ F, q ∈ E) → Okl ids E lab → ∀ {q : Int × Int} {i j : Nat}, q ∈ F → ids.findIdx? (· == q.1) = some i → ids.findIdx? (· == q.2) = some j →
    (lab.getD i 0 ≤ c ∨ lab.getD j 0 ≤ c) → (F.foldl (stepL ids) lab).getD i 0 ≤ c ∧ (F.foldl (stepL ids) lab).getD j 0 ≤ c
  | [], _, _, _, _, _, _, hq, _, _, _ => by cases hq
  | r :: F, lab, hF, h, q, i, j, hq, h1, h2, hc => by
    have ho := stepl_ok h (hF r (by simp))
    have hl := (fold_ok F _ (fun r hr => hF r (by simp [hr])) ho.1).2
    show (F.foldl (stepL ids) (stepL ids lab r)).getD i 0 ≤ c ∧ (F.foldl (stepL ids) (stepL ids lab r)).getD j 0 ≤ c
    rcases List.mem_cons.1 hq with rfl | hq
    · have he : Ed ids E i j := ⟨q, hF q (by simp), h1, h2⟩
      obtain ⟨hi, hj⟩ := ed_lt he
      have li : i < lab.length := by rw [h.1]; exact hi
      have lj : j < lab.length := by rw [h.1]; exact hj
      have e : stepL ids lab q = joinL lab i j := by unfold stepL; rw [h1, h2]
      have gi : (stepL ids lab q).getD i 0 ≤ c := by rw [e, join_getD lab i j i li lj, if_pos (.inl rfl)]; omega
      have gj : (stepL ids lab q).getD j 0 ≤ c := by rw [e, join_getD lab i j j li lj, if_pos (.inr rfl)]; omega
      exact ⟨Nat.le_trans (hl i) gi, Nat.le_trans (hl j) gj⟩
    · refine carry F _ (fun r hr => hF r (by simp [hr])) ho.1 hq h1 h2 ?_
      rcases hc with hc | hc
      · exact .inl (Nat.le_trans (ho.2 i) hc)
      · exact .inr (Nat.le_trans (ho.2 j) hc)
theorem carry_labs {c t i j : Nat} (he : Ed ids E i j ∨ Ed ids E j i) (hc : (labsL ids E t).getD i 0 ≤ c) : (labsL ids E (t + 1)).getD j 0 ≤ c := by
  rcases he with ⟨q, hq, h1, h2⟩ | ⟨q, hq, h1, h2⟩
  · exact (carry E _ (fun _ h => h) (labs_ok t) hq h1 h2 (.inl hc)).2
  · exact (carry E _ (fun _ h => h) (labs_ok t) hq h1 h2 (.inr hc)).1
/-- somewhere a label that is too great lies beside one that is not -/
theorem border {P : Nat → Prop} (hdec : ∀ i, P i ∨ ¬ P i) {i j : Nat} (h : Cn ids E i j) : P i → ¬ P j → ∃ u v, (Ed ids E u v ∨ Ed ids E v u) ∧ P u ∧ ¬ P v ∧ Cn ids E i v := by
  induction h with
  | refl _ => intro h1 h2; exact absurd h1 h2
  | step h1 g ih =>
    rename_i i k j
    intro hi hj
    rcases hdec k with hk | hk
    · obtain ⟨u, v, h2, h3, h4, h5⟩ := ih hk hj
      exact ⟨u, v, h2, h3, h4, (Cn.one h1).trans h5⟩
    · exact ⟨i, k, h1, hi, hk, .one h1⟩
/-- after as many sweeps as there are places all of a component bear its least place -/
theorem conv {c : Nat} (hc : c < ids.length) {j : Nat} (hj : j < ids.length) (h : Cn ids E c j) : (labsL ids E ids.length).getD j 0 ≤ c := by
  -- the number of places that bear c or less grows until all of the component do
  have grow : ∀ t, (∀ j, j < ids.length → Cn ids E c j → (labsL ids E t).getD j 0 ≤ c) ∨ t + 1 ≤ ((List.range ids.length).countP fun i => decide ((labsL ids E t).getD i 0 ≤ c)) := by
    intro t
    induction t with
    | zero =>
      right
      refine List.countP_pos_iff.2 ⟨c, by simpa using hc, ?_⟩
      have := ((labs_ok (ids := ids) (E := E) 0).2 c hc).1
      simpa using this
    | succ t ih =>
      rcases ih with h | h
      · left
        intro j hj hcj
        exact Nat.le_trans (labs_le t j) (h j hj hcj)
      · by_cases hall : ∀ j, j < ids.length → Cn ids E c j → (labsL ids E t).getD j 0 ≤ c
        · left
          intro j hj hcj
          exact Nat.le_trans (labs_le t j) (hall j hj hcj)
        · right
          have hex : ∃ j, j < ids.length ∧ Cn ids E c j ∧ ¬ (labsL ids E t).getD j 0 ≤ c := by
            apply Classical.byContradiction
            intro hno
            exact hall fun j hj hcj => Classical.byContradiction fun hn => hno ⟨j, hj, hcj, hn⟩
          obtain ⟨j, hj, hcj, hn⟩ := hex
          obtain ⟨u, v, he, hu, hv, _⟩ := border (P := fun i => (labsL ids E t).getD i 0 ≤ c) (fun i => Classical.em _) hcj ((labs_ok (ids := ids) (E := E) t).2 c hc).1 hn
          have hvl : v < ids.length := by rcases he with h | h; exact (ed_lt h).2; exact (ed_lt h).1
          have := carry_labs he hu
          have hlt : ((List.range ids.length).countP fun i => decide ((labsL ids E t).getD i 0 ≤ c)) < ((List.range ids.length).countP fun i => decide ((labsL ids E (t + 1)).getD i 0 ≤ c)) :=
            count_lt (y := v) (by simpa using hvl) (fun z hz => by simp only [decide_eq_true_eq] at hz ⊢; exact Nat.le_trans (labs_le t z) hz) (by simpa using this) (by simpa using hv)
          omega
  rcases grow ids.length with g | g
  · exact g j hj h
  · have : ((List.range ids.length).countP fun i => decide ((labsL ids E ids.length).getD i 0 ≤ c)) ≤ (List.range ids.length).length := List.countP_le_length
    rw [List.length_range] at this
    omega
/-- at most one component: all places are joined -/
theorem parts_le_one : partsL ids E ≤ 1 ↔ ∀ i j, i < ids.length → j < ids.length → Cn ids E i j := by
  have hp : partsL ids E = (List.range ids.length).countP fun i => (labsL ids E ids.length).getD i 0 == i := (List.countP_eq_length_filter).symm
  constructor
  · intro h i j hi hj
    -- the labels of both are the only place that bears itself
    have root : ∀ k, k < ids.length → ∃ c, c < ids.length ∧ Cn ids E k c ∧ (labsL ids E ids.length).getD c 0 = c := by
      intro k
      induction k using Nat.strongRecOn with
      | ind k ih =>
        intro hk
        obtain ⟨h1, h2⟩ := (labs_ok (ids := ids) (E := E) ids.length).2 k hk
        by_cases he : (labsL ids E ids.length).getD k 0 = k
        · exact ⟨k, hk, .refl _, he⟩
        · obtain ⟨c, g1, g2, g3⟩ := ih ((labsL ids E ids.length).getD k 0) (by omega) (by omega)
          exact ⟨c, g1, h2.trans g2, g3⟩
    obtain ⟨a, a1, a2, a3⟩ := root i hi
    obtain ⟨b, b1, b2, b3⟩ := root j hj
    have hab : a = b := by
      apply Classical.byContradiction
      intro hne
      rw [hp] at h
      have hmem : ∀ {c}, c < ids.length → (labsL ids E ids.length).getD c 0 = c → c ∈ (List.range ids.length).filter fun i => (labsL ids E ids.length).getD i 0 == i := fun h1 h2 => List.mem_filter.2 ⟨by simpa using h1, by simpa using h2⟩
      have ha := hmem a1 a3
      have hb := hmem b1 b3
      rw [List.countP_eq_length_filter] at h
      match hl : (List.range ids.length).filter (fun i => (labsL ids E ids.length).getD i 0 == i), h, ha, hb with
      | [], _, ha, _ => cases ha
      | [z], _, ha, hb =>
        have e1 := List.mem_singleton.1 ha
        have e2 := List.mem_singleton.1 hb
        exact hne (e1.trans e2.symm)
      | _ :: _ :: _, h, _, _ => simp at h
    subst hab
    exact a2.trans b2.symm
  · intro h
    rw [hp]
    rcases Nat.eq_zero_or_pos ids.length with h0 | h0
    · rw [h0]; simp
    · have hz : ∀ i, i < ids.length → ((labsL ids E ids.length).getD i 0 == i) = (i == 0) := by
        intro i hi
        have := conv (E := E) h0 hi (h 0 i h0 hi)
        rw [Bool.eq_iff_iff, beq_iff_eq, beq_iff_eq]
        omega
      have : ((List.range ids.length).countP fun i => (labsL ids E ids.length).getD i 0 == i) = (List.range ids.length).countP fun i => i == 0 := by
        refine List.countP_congr fun i hi => ?_
        rw [hz i (by simpa using hi)]
      rw [this]
      have : (List.range ids.length).countP (fun i => i == 0) = (List.range ids.length).count 0 := rfl
      rw [this]
      have hnd : (List.range ids.length).Nodup := List.nodup_range
      exact List.nodup_iff_count.1 hnd 0
end Lab
end Go.Proofs.YtbnbjiddffihoaaDoor

/- What connects the nodes, by labels; in plain Lean. -/
namespace Go.Proofs.YtbnbjiddffihoaaDoor
open Go.RowKit

/-- the pairs of nodes of which one refers to the other -/
def pairsN (N : List Nd) (P : List Pr) : List (Int × Int) := N.flatMap fun x => (refsN N (peerN P x.id)).map fun v => (x.id, v)
/-- pairs of numbers of nodes -/
def InE (N : List Nd) (E : List (Int × Int)) (u v : Int) : Prop := (u, v) ∈ E ∧ (∃ x ∈ N, x.id = u) ∧ ∃ y ∈ N, y.id = v
section
variable {N : List Nd} {E : List (Int × Int)}
theorem ids_get (h0 : checkN N = 0) {v : Int} {i : Nat} : (N.map Nd.id).findIdx? (· == v) = some i ↔ (N.map Nd.id)[i]? = some v := by
  have hk := check_keys h0
  constructor
  · intro h
    obtain ⟨h1, h2, _⟩ := List.findIdx?_eq_some_iff_getElem.1 h
    rw [List.getElem?_eq_getElem h1]
    simpa using h2
  · intro h
    obtain ⟨h1, h2⟩ := List.getElem?_eq_some_iff.1 h
    refine List.findIdx?_eq_some_iff_getElem.2 ⟨h1, by simpa using h2, fun j hj => ?_⟩
    have hjl : j < N.length := by simp at h1; omega
    have hil : i < N.length := by simpa using h1
    have := (hk i j N[i] N[j] hj (List.getElem?_eq_getElem hil) (List.getElem?_eq_getElem hjl)).2
    simp only [List.getElem_map, beq_iff_eq] at h2 ⊢
    intro he
    exact this (h2.trans he.symm)
theorem ed_iff (h0 : checkN N = 0) {i j : Nat} {x y : Nd} (hx : N[i]? = some x) (hy : N[j]? = some y) : Lab.Ed (N.map Nd.id) E i j ↔ InE N E x.id y.id := by
  have hx' : (N.map Nd.id)[i]? = some x.id := by rw [List.getElem?_map, hx]; rfl
  have hy' : (N.map Nd.id)[j]? = some y.id := by rw [List.getElem?_map, hy]; rfl
  constructor
  · rintro ⟨q, hq, h1, h2⟩
    have e1 := (ids_get h0).1 h1
    have e2 := (ids_get h0).1 h2
    rw [hx'] at e1
    rw [hy'] at e2
    cases q
    simp only [Option.some.injEq] at e1 e2
    subst e1 e2
    exact ⟨hq, ⟨x, List.mem_of_getElem? hx, rfl⟩, y, List.mem_of_getElem? hy, rfl⟩
  · rintro ⟨h, _, _⟩
    exact ⟨_, h, (ids_get h0).2 hx', (ids_get h0).2 hy'⟩
theorem node_get {i : Nat} (hi : i < (N.map Nd.id).length) : ∃ x, N[i]? = some x := ⟨N[i]'(by simpa using hi), by simp⟩
theorem cn_cl (h0 : checkN N = 0) {i j : Nat} (h : Lab.Cn (N.map Nd.id) E i j) : ∀ {x y : Nd}, N[i]? = some x → N[j]? = some y → Cl (InE N E) x.id y.id := by
  induction h with
  | refl i => intro x y hx hy; rw [hx] at hy; cases hy; exact .refl _
  | step h1 g ih =>
    rename_i i k j
    intro x y hx hy
    obtain ⟨z, hz⟩ : ∃ z, N[k]? = some z := node_get (by rcases h1 with h | h; exact (Lab.ed_lt h).2; exact (Lab.ed_lt h).1)
    exact (Cl.one (h1.imp (ed_iff h0 hx hz).1 (ed_iff h0 hz hx).1)).trans (ih hz hy)
theorem cl_cn (h0 : checkN N = 0) {u v : Int} (h : Cl (InE N E) u v) : ∀ {i j : Nat} {x y : Nd}, N[i]? = some x → N[j]? = some y → x.id = u → y.id = v → Lab.Cn (N.map Nd.id) E i j := by
  induction h with
  | refl u =>
    intro i j x y hx hy h1 h2
    have e1 : (N.map Nd.id)[i]? = some u := by rw [List.getElem?_map, hx, ← h1]; rfl
    have e2 : (N.map Nd.id)[j]? = some u := by rw [List.getElem?_map, hy, ← h2]; rfl
    have := (ids_get h0).2 e1
    rw [(ids_get h0).2 e2] at this
    cases this
    exact .refl _
  | step h1 g ih =>
    rename_i u c v
    intro i j x y hx hy hxu hyv
    obtain ⟨z, hz, hzc⟩ : ∃ z ∈ N, z.id = c := by
      rcases h1 with h | h
      · exact h.2.2
      · exact h.2.1
    obtain ⟨k, hk⟩ := List.mem_iff_getElem?.1 hz
    rw [← hxu, ← hzc] at h1
    exact (Lab.Cn.one (h1.imp (ed_iff h0 hx hk).2 (ed_iff h0 hk hx).2)).trans (ih hk hy hzc hyv)
/-- at most one component -/
theorem joined_iff (h0 : checkN N = 0) : Lab.partsL (N.map Nd.id) E ≤ 1 ↔ ∀ x ∈ N, ∀ y ∈ N, Cl (InE N E) x.id y.id := by
  rw [Lab.parts_le_one]
  constructor
  · intro h x hx y hy
    obtain ⟨i, hi⟩ := List.mem_iff_getElem?.1 hx
    obtain ⟨j, hj⟩ := List.mem_iff_getElem?.1 hy
    have li := (List.getElem?_eq_some_iff.1 hi).1
    have lj := (List.getElem?_eq_some_iff.1 hj).1
    exact cn_cl h0 (h i j (by simpa using li) (by simpa using lj)) hi hj
  · intro h i j hi hj
    obtain ⟨x, hx⟩ := node_get hi
    obtain ⟨y, hy⟩ := node_get hj
    exact cl_cn h0 (h x (List.mem_of_getElem? hx) y (List.mem_of_getElem? hy)) hx hy rfl rfl
theorem pairs_in {P : List Pr} (h0 : checkN N = 0) {u v : Int} : InE N (pairsN N P) u v ↔ EdgeN N P u v := by
  unfold InE pairsN
  simp only [List.mem_flatMap, List.mem_map, Prod.mk.injEq]
  constructor
  · rintro ⟨⟨x, hx, w, hw, rfl, rfl⟩, _, _⟩
    exact ⟨⟨x, hx, rfl⟩, hw⟩
  · rintro ⟨⟨x, hx, rfl⟩, hv⟩
    exact ⟨⟨x, hx, v, hv, rfl, rfl⟩, ⟨x, hx, rfl⟩, ((mem_refs h0).1 hv).1⟩
theorem conn_iff {P : List Pr} (h0 : checkN N = 0) : Lab.partsL (N.map Nd.id) (pairsN N P) ≤ 1 ↔ ConnN N P := by
  rw [joined_iff h0]
  constructor
  · intro h
    exact ⟨h0, fun x hx y hy => (h x hx y hy).mono (fun a b hab => .one (.inl ((pairs_in h0).1 hab)))⟩
  · rintro ⟨_, h⟩ x hx y hy
    exact (h x hx y hy).mono (fun a b hab => .one (.inl ((pairs_in h0).2 hab)))
/-- whether the nodes are connected -/
def connB (N : List Nd) (P : List Pr) : Bool := checkN N == 0 && decide (Lab.partsL (N.map Nd.id) (pairsN N P) ≤ 1)
theorem connB_iff {P : List Pr} : connB N P = true ↔ ConnN N P := by
  unfold connB
  rw [Bool.and_eq_true, beq_iff_eq, decide_eq_true_eq]
  constructor
  · rintro ⟨h1, h2⟩; exact (conn_iff h1).1 h2
  · intro h; exact ⟨h.1, (conn_iff h.1).2 h⟩
end
end Go.Proofs.YtbnbjiddffihoaaDoor

/- Without of the package roster: slices.Index, Contains, DeleteFunc. -/
namespace Go.Proofs.YtbnbjiddffihoaaDoor
open Go.RowKit

def IjRel (l : List Int) (v : Int) (n : Nat) (w : World) (i : Value) (wr : World) : Prop :=
  ∃ k : Nat, k ≤ n ∧ i = .int .i64 k ∧ Ex w wr ∧ ∀ j z, j < k → l[j]? = some z → z ≠ v
set_option maxHeartbeats 1000000 in
theorem index_i (a : Option Addr) (n c : Nat) (l : List Int) (v : Int) (w : World) (h : Sl 1 encI w a n l) (hn : n ≤ 4000000000000000000) :
    Calls Tryd.prog 110 #[.slice a n c, .int .i64 v] w fun e w' => ∃ r : Int, e = .returned (.int .i64 r) ∧ decide (0 ≤ r) = l.contains v ∧ Ex w w' := by
  have HL := Lib.hid h.len
  have hs := Lib.hid h
  clear h
  go_enter Tryd.func110, Tryd.ntmps110
  go_wp2
  go_loopw [8] (fun i wr => IjRel l v n w i wr) (fun i _ => n - (intOf i).toNat)
  case atStart => exact ⟨0, by omega, rfl, Ex.refl _, by intro j z h; omega⟩
  case round =>
    obtain ⟨k, hk, rfl, kw, hno⟩ := hrel
    have HNO := Lib.hid hno
    clear hno
    obtain ⟨wo, rfl⟩ : ∃ wo : World, wo = wr := ⟨_, rfl⟩
    by_cases hlt : k < n
    · obtain ⟨x1, o1, y, rfl, hx1, hy, hc1⟩ := (hs.out.nx kw).at hlt
      have e0 : wo.cell? ⟨x1, o1 + k, none⟩ = some (.int .i64 y) := by simpa using hc1 0 _ rfl
      have HY := Lib.hid hy
      have KW := Lib.hid kw
      clear hc1 hy kw
      by_cases hv : y = v
      · have HC : Hid (decide ((0 : Int) ≤ (k : Int)) = l.contains v) := Lib.hid (by
          have h1 : l.contains v = true := by rw [List.contains_iff_mem, ← hv]; exact List.mem_of_getElem? HY.out
          rw [h1]; simp)
        have hb : (v == y) = true := by rw [hv]; simp
        clear hv
        go_wp2_with fail
        go_ret
        exact ⟨k, rfl, HC.out, KW.out⟩
      · have HV := Lib.hid hv
        have hb : (v == y) = false := by rw [beq_eq_false_iff_ne]; exact fun h => hv h.symm
        clear hv
        go_wp2_with fail
        refine ⟨⟨k + 1, by omega, by go_num, KW.out, fun j z hj hz => ?_⟩, by simp [intOf]; omega⟩
        rcases Nat.lt_or_ge j k with h | h
        · exact HNO.out j z h hz
        · obtain rfl : j = k := by omega
          rw [Option.some.inj (hz.symm.trans HY.out)]
          exact HV.out
    · obtain rfl : k = n := by omega
      have HC : Hid (decide ((0 : Int) ≤ -1) = l.contains v) := Lib.hid (by
        have h1 : l.contains v = false := by
          cases hc : l.contains v with
          | false => rfl
          | true =>
            rw [List.contains_iff_mem] at hc
            obtain ⟨j, hj⟩ := List.mem_iff_getElem?.1 hc
            exact absurd rfl (HNO.out j v (by rw [← HL.out]; exact (List.getElem?_eq_some_iff.1 hj).1) hj)
        rw [h1]; rfl)
      have KW := Lib.hid kw
      clear kw hk hlt
      go_wp2_with fail
      go_ret
      exact ⟨-1, rfl, HC.out, KW.out⟩
theorem contains_i (a : Option Addr) (n c : Nat) (l : List Int) (v : Int) (w : World) (h : Sl 1 encI w a n l) (hn : n ≤ 4000000000000000000) :
    Calls Tryd.prog 94 #[.slice a n c, .int .i64 v] w fun e w' => e = .returned (.bool (l.contains v)) ∧ Ex w w' := by
  go_enter Tryd.func94, Tryd.ntmps94
  go_wp2_with fail
  (with_reducible refine (index_i _ _ _ _ _ _ h hn).mono ?_)
  rintro e w1 ⟨r, rfl, hr, kk⟩
  have HR := Lib.hid hr
  clear h hr
  go_wp2_with fail
  go_ret
  exact ⟨by rw [← HR.out]; rfl, kk⟩
end Go.Proofs.YtbnbjiddffihoaaDoor

/- Contacts, gaps and the peers that know them, in plain Lean. -/
namespace Go.Proofs.YtbnbjiddffihoaaDoor
open Go.RowKit

section
variable {N : List Nd}
/-- who is a contact -/
def Near (N : List Nd) (x y : Nd) (w : Int) (h : Nat) : Prop := ∃ i k j : Nat, i ≤ h ∧ (grpS N (i : Int) x.word)[k]? = some x ∧ (grpS N (i : Int) x.word)[j]? = some y ∧ j ≠ k ∧ (j : Int) - k ≤ w ∧ (k : Int) - j ≤ w
theorem chain_cl {R : Int → Int → Prop} : ∀ (S : List Nd), (∀ A a b B, S = A ++ a :: b :: B → R a.id b.id) → ∀ x ∈ S, ∀ y ∈ S, Cl R x.id y.id
  | [], _, x, hx, _, _ => by cases hx
  | [a], _, x, hx, y, hy => by
    simp only [List.mem_singleton] at hx hy
    subst hx hy
    exact .refl _
  | a :: b :: S, h, x, hx, y, hy => by
    have ih := chain_cl (b :: S) (fun A u v B e => h (a :: A) u v B (by rw [e]; rfl))
    have hab : Cl R a.id b.id := Cl.one (.inl (h [] a b S rfl))
    have hb : ∀ z ∈ a :: b :: S, Cl R b.id z.id := by
      intro z hz
      rcases List.mem_cons.1 hz with rfl | hz
      · exact hab.symm
      · exact ih b (by simp) z hz
    exact (hb x hx).symm.trans (hb y hy)
end
end Go.Proofs.YtbnbjiddffihoaaDoor

/- Has and Ordered and Gap of the reference. -/
namespace Go.Proofs.YtbnbjiddffihoaaDoor
open Go.RowKit

/-- a row of numbers, of the call's own -/
def OiPost (l : List Int) (w : World) (e : Ending) (w' : World) : Prop := ∃ v, e = .returned v ∧ OwnL 1 encI 3 w.heap.size w' v l ∧ Ex w w'
def HasRel (l : List Int) (v : Int) (n : Nat) (w : World) (i : Value) (wr : World) : Prop :=
  ∃ k : Nat, k ≤ n ∧ i = .int .i64 k ∧ Ex w wr ∧ ∀ j z, j < k → l[j]? = some z → z ≠ v
set_option maxHeartbeats 1000000 in
theorem has_r (a : Option Addr) (n c : Nat) (l : List Int) (v : Int) (w : World) (h : Sl 1 encI w a n l) (hn : n ≤ 4000000000000000000) :
    Calls Tryd.prog 35 #[.slice a n c, .int .i64 v] w fun e w' => e = .returned (.bool (l.contains v)) ∧ Ex w w' := by
  have HL := Lib.hid h.len
  have hs := Lib.hid h
  clear h
  go_enter Tryd.func35, Tryd.ntmps35
  go_wp2_with fail
  go_loopw [5] (fun i wr => HasRel l v n w i wr) (fun i _ => n - (intOf i).toNat)
  case atStart => exact ⟨0, by omega, rfl, Ex.refl _, by intro j z h; omega⟩
  case round =>
    obtain ⟨k, hk, rfl, kw, hno⟩ := hrel
    have HNO := Lib.hid hno
    clear hno
    obtain ⟨wo, rfl⟩ : ∃ wo : World, wo = wr := ⟨_, rfl⟩
    by_cases hlt : k < n
    · obtain ⟨x1, o1, y, rfl, hx1, hy, hc1⟩ := (hs.out.nx kw).at hlt
      have e0 : wo.cell? ⟨x1, o1 + k, none⟩ = some (.int .i64 y) := by simpa using hc1 0 _ rfl
      have HY := Lib.hid hy
      have KW := Lib.hid kw
      clear hc1 hy kw
      by_cases hv : y = v
      · have HC : Hid (l.contains v = true) := Lib.hid (by rw [List.contains_iff_mem, ← hv]; exact List.mem_of_getElem? HY.out)
        have hb : (y == v) = true := by rw [hv]; simp
        clear hv
        go_wp2_with fail
        go_ret
        exact ⟨by rw [HC.out]; rfl, KW.out⟩
      · have HV := Lib.hid hv
        have hb : (y == v) = false := by rw [beq_eq_false_iff_ne]; exact hv
        clear hv
        go_wp2_with fail
        refine ⟨⟨k + 1, by omega, by go_num, KW.out, fun j z hj hz => ?_⟩, by simp [intOf]; omega⟩
        rcases Nat.lt_or_ge j k with h | h
        · exact HNO.out j z h hz
        · obtain rfl : j = k := by omega
          rw [Option.some.inj (hz.symm.trans HY.out)]
          exact HV.out
    · obtain rfl : k = n := by omega
      have HC : Hid (l.contains v = false) := Lib.hid (by
        cases hc : l.contains v with
        | false => rfl
        | true =>
          rw [List.contains_iff_mem] at hc
          obtain ⟨j, hj⟩ := List.mem_iff_getElem?.1 hc
          exact absurd rfl (HNO.out j v (by have := (List.getElem?_eq_some_iff.1 hj).1; rw [← HL.out]; exact this) hj))
      have KW := Lib.hid kw
      clear hk hlt kw
      go_wp2_with fail
      go_ret
      exact ⟨by rw [HC.out]; rfl, KW.out⟩

def ordP (l : List Int) (but : Int) (y : Nd) : Bool := !(y.id == but) && l.contains y.id
def OrdRel (S : List Nd) (l : List Int) (but : Int) (w : World) (o i : Value) (wr : World) : Prop :=
  ∃ j : Nat, j ≤ S.length ∧ i = .int .i64 j ∧ OwnL 1 encI 3 w.heap.size wr o (((S.take j).filter (ordP l but)).map Nd.id) ∧ Ex w wr
theorem ord_snoc {S : List Nd} {l : List Int} {but : Int} {j : Nat} {y : Nd} (hy : S[j]? = some y) :
    ((S.take (j + 1)).filter (ordP l but)).map Nd.id = ((S.take j).filter (ordP l but)).map Nd.id ++ (if ordP l but y = true then [y.id] else []) := by
  rw [List.take_add_one, hy, List.filter_append, List.map_append]
  congr 1
  by_cases hp : ordP l but y = true
  · rw [if_pos hp]; simp [hp]
  · rw [if_neg hp]; simp [hp]
set_option maxRecDepth 100000 in
set_option maxHeartbeats 2000000 in
theorem ordered_r (a : Option Addr) (n c : Nat) (N : List Nd) (a2 : Option Addr) (n2 c2 : Nat) (l : List Int) (but : Int) (w : World) (h : Sl 3 encN w a n N) (hn : n ≤ 1000) (h2 : Sl 1 encI w a2 n2 l) (hn2 : n2 ≤ 4000000000000000000) :
    Calls Tryd.prog 66 #[.slice a n c, .slice a2 n2 c2, .int .i64 but] w (OiPost (ordN N l but) w) := by
  have hNn : N.length ≤ 1000 := by have := h.len; omega
  go_enter Tryd.func66, Tryd.ntmps66
  go_wp2_with fail
  (with_reducible refine (sort_r _ _ _ _ _ h hn).mono ?_)
  rintro e w1 ⟨a1, n1, c1, rfl, own1, kk⟩
  replace h2 := h2.nx kk
  have S1 : Sl 3 encN w1 a1 n1 (sortN N) := Slf.sl own1
  have hn1 : n1 = (sortN N).length := S1.len.symm
  subst hn1
  have hSl : (sortN N).length ≤ 1000 := by rw [sortN_length]; exact hNn
  have ES : Hid (ordN N l but = ((sortN N).filter (ordP l but)).map Nd.id) := Lib.hid rfl
  generalize sortN N = S at S1 hSl ES own1 ⊢
  have S1 := Lib.hid S1
  have H2 := Lib.hid h2
  have K1 : Hid (Ex w w1) := Lib.hid kk
  have hz1 := kk.size
  clear h own1 h2 kk hNn hn
  go_wp2_with fail
  go_loopw [7, 9] (fun o i wr => OrdRel S l but w1 o i wr) (fun _ i _ => S.length - (intOf i).toNat)
  case atStart => exact ⟨0, by omega, rfl, OwnL.nil _ _ _ _ _, Ex.refl _⟩
  case round =>
    obtain ⟨j, hj, rfl, own, ki⟩ := hrel
    obtain ⟨wi, rfl⟩ : ∃ wi : World, wi = wr := ⟨_, rfl⟩
    by_cases hjm : j < S.length
    · obtain ⟨x3, o3, y, rfl, hx3, hy, hc3⟩ := (S1.out.nx ki).at hjm
      have e0 : wi.cell? ⟨x3, o3 + j * 3, none⟩ = some (.int .i64 y.id) := hc3 0 _ rfl
      have SN := Lib.hid (ord_snoc (l := l) (but := but) hy)
      have hrl : (((S.take j).filter (ordP l but)).map Nd.id).length ≤ 1000 := by
        rw [List.length_map]
        have := List.length_filter_le (ordP l but) (S.take j)
        rw [List.length_take] at this
        omega
      generalize ((S.take j).filter (ordP l but)).map Nd.id = row at own SN hrl
      have OWN := Lib.hid own
      have KI := Lib.hid ki
      have zb := ki.size
      clear hy hc3 own ki
      by_cases hb : y.id = but
      · have hq : (y.id != but) = false := by simp [hb]
        have hq2 : (y.id == but) = true := by simp [hb]
        have PF : Hid (ordP l but y = false) := Lib.hid (by unfold ordP; rw [hq2]; rfl)
        clear hb
        go_wp2_with fail
        exact ⟨⟨j + 1, by omega, by go_num, by rw [SN.out, PF.out]; simpa using OWN.out, KI.out⟩, by simp [intOf]; omega⟩
      · have hq : (y.id != but) = true := by simpa using hb
        have hq2 : (y.id == but) = false := by simpa using hb
        clear hb
        go_wp2_with fail
        (with_reducible refine (has_r _ _ _ _ y.id _ (H2.out.nx KI.out) hn2).mono ?_)
        rintro e w5 ⟨rfl, kk⟩
        have K5 := Lib.hid kk
        have e5 : w5.cell? ⟨x3, o3 + j * 3, none⟩ = some (.int .i64 y.id) := Chg.cellv kk e0 hx3
        have own5 := OWN.out.nx kk
        have k5 := KI.out.nx kk
        have hx5 := Nat.lt_of_lt_of_le hx3 kk.size
        have zb5 := k5.size
        have PB : Hid (ordP l but y = l.contains y.id) := Lib.hid (by unfold ordP; rw [hq2]; rfl)
        clear kk e0
        generalize l.contains y.id = inl at PB ⊢
        cases inl with
        | false =>
          have K5' := Lib.hid k5
          have O5' := Lib.hid own5
          clear k5 own5
          go_wp2_with fail
          exact ⟨⟨j + 1, by omega, by go_num, by rw [SN.out, PB.out]; simpa using O5'.out, K5'.out⟩, by simp [intOf]; omega⟩
        | true =>
          generalize y.id = yi at SN e5 hq hq2 ⊢
          go_wp2_with (at_builtin; (refine wpList_append_lit (enc := encI) w5 rfl _ _ 22 rfl w1.heap.size 3 (.int .i64 0) 1 8 Tryd.underlying22 Tryd.infoI6 rfl (by omega) (by omega) _ _ own5 rfl (yi : Int) _ rfl rfl (by simp [encI, Value.oneCell']) _ (by simp) rfl (by omega) zb5 _ ?_); intro v6 w6 own6 _ ch1 _)
          refine ⟨⟨j + 1, by omega, by go_num, by rw [SN.out, PB.out]; exact own6, Chg.trans k5 ch1⟩, by simp [intOf]; omega⟩
    · obtain rfl : j = S.length := by omega
      rw [List.take_of_length_le (by omega)] at own
      have own := Lib.hid (own.base hz1)
      have KE := Lib.hid (K1.out.nx ki)
      clear hj hjm ki
      go_wp2_with fail
      go_ret
      exact ⟨_, rfl, by rw [ES.out]; exact own.out, KE.out⟩

end Go.Proofs.YtbnbjiddffihoaaDoor

/- A set of numbers that the call itself has made: map[int]bool. -/
namespace Go.Proofs.YtbnbjiddffihoaaDoor
open Go.RowKit Go.Maps

abbrev keyI (v : Int) : Lit := .int .i64 v
/-- block b is a map that holds true at these numbers, and at no other -/
def SetM (P : Program) (k e : TypeId) (w : World) (b : Nat) (S : List Int) : Prop :=
  w.ownsMap (H := Unit) P k (plainElem P e) b S.length (setOf (.lit (.bool true)) (S.map keyI))
section
variable {P : Program} {k e t : TypeId} {w w' : World} {b : Nat} {S : List Int}
theorem SetM.made (w : World) (P : Program) (k e : TypeId) : SetM P k e (w.alloc (.map #[] 0)) w.heap.size [] := World.ownsMap_made _ _ _ _
theorem SetM.lt (h : SetM P k e w b S) : b < w.heap.size := World.ownsMap.lt h
theorem SetM.same (h : SetM P k e w b S) (hh : w'.heap[b]? = w.heap[b]?) : SetM P k e w' b S := by
  obtain ⟨es, clock, hb, r⟩ := h
  exact ⟨es, clock, hh.trans hb, r⟩
theorem SetM.nx (h : SetM P k e w b S) (kk : Ex w w') : SetM P k e w' b S := h.same (kk.block b h.lt)
theorem SetM.nxb {c : Nat} (h : SetM P k e w b S) (hc : b ≠ c) (kk : Exb c w w') : SetM P k e w' b S := h.same (kk.block b ⟨h.lt, hc⟩)
theorem key_lit (v : Int) : WideAt.IsKeyLit (keyI v) := by
  unfold keyI WideAt.IsKeyLit
  trivial
theorem set_atKey (S : List Int) (v : Int) : (setOf (H := Unit) (.lit (.bool true)) (S.map keyI)).atKey (keyI v) (.lit (.bool false)) = .lit (.bool (S.contains v)) := by
  have key : ∀ n, ∀ S : List Int, S.length = n → (setOf (H := Unit) (.lit (.bool true)) (S.map keyI)).atKey (keyI v) (.lit (.bool false)) = .lit (.bool (S.contains v)) := by
    intro n
    induction n with
    | zero =>
      intro S h
      rw [List.length_eq_zero_iff.1 h]
      rfl
    | succ n ih =>
      intro S h
      rcases List.eq_nil_or_concat S with rfl | ⟨S', x, rfl⟩
      · cases h
      · rw [List.concat_eq_append] at h ⊢
        have hi := ih S' (by simpa using h)
        rw [List.map_append, List.map_singleton, setOf_snoc]
        by_cases hx : v = x
        · subst hx
          rw [atKey_put_same (tidy_setOf _ _ (by intro y hy; obtain ⟨z, _, rfl⟩ := List.mem_map.1 hy; exact key_lit z)).isMap (key_lit v)]
          simp
        · rw [atKey_put_other (by simpa [keyI] using hx), hi]
          congr 2
          rw [Bool.eq_iff_iff]
          simp [hx]
  exact key _ S rfl
theorem plainElem_bool_inv (he : P.underlying e = some .bool) {v : Value} {x : Bool} {ps : List MemPlace} (h : plainElem (H := Unit) P e v = some (.lit (.bool x), ps)) : v = .bool x := by
  unfold plainElem at h
  rw [he] at h
  cases v <;> simp at h
  rw [h.1]
theorem SetM.get (h : SetM P k e w b S) (hk : P.underlying k = some (.int .i64)) (he : P.underlying e = some .bool) (ht : P.underlying t = some (.map k e)) (hz : (zeroValue e).run P w = .ok (.bool false) w) {v : Int} (hv : (Lit.int .i64 v).wf = true) :
    (Instr.lookup t (.map (some b)) (.int .i64 v) false).run P w = .ok (.bool (S.contains v)) w := by
  obtain ⟨u, ps, hrun, hR⟩ := World.ownsMap.lookup (t := t) (e := e) h (int_keyed hk) ht hz (plainElem_bool he false) (keyOf_int_mk hk hv)
  rw [set_atKey] at hR
  rw [hrun, plainElem_bool_inv he hR]
theorem turned_exb (h : w.mapTurned w' b) : Exb b w w' := by
  have g := h.grown
  exact ⟨g.os, g.tape, g.output, g.size, fun k hk => g.block k hk.1 (by simpa using hk.2)⟩
theorem SetM.put (h : SetM P k e w b S) (hk : P.underlying k = some (.int .i64)) (he : P.underlying e = some .bool) (ht : P.underlying t = some (.map k e)) (hS : S.length < 1000000) {v : Int} (hv : (Lit.int .i64 v).wf = true) :
    ∃ w', (Instr.mapUpdate t (.map (some b)) (.int .i64 v) (.bool true)).run P w = .ok () w' ∧ SetM P k e w' b (S ++ [v]) ∧ Exb b w w' ∧ w'.heap.size = w.heap.size := by
  obtain ⟨w', hrun, ho, ht'⟩ := World.ownsMap.store (t := t) (e := e) h (int_keyed hk) ht (by unfold maxLen; omega) (keyOf_int_mk hk hv) (plainElem_bool he true)
  refine ⟨w', hrun, ?_, turned_exb ht', ?_⟩
  · unfold SetM
    rw [List.map_append, List.map_singleton, setOf_snoc, List.length_append, List.length_singleton]
    exact ho
  · obtain ⟨es, clock, es', clock', hb, rfl⟩ := ht'
    simp [Go.ChangeMaps.setBlock]
theorem set_size (hS : S.Nodup) : size (setOf (H := Unit) (.lit (.bool true)) (S.map keyI)) = S.length := by
  have key : ∀ n, ∀ S : List Int, S.length = n → S.Nodup → size (setOf (H := Unit) (.lit (.bool true)) (S.map keyI)) = S.length := by
    intro n
    induction n with
    | zero =>
      intro S h _
      rw [List.length_eq_zero_iff.1 h]
      rfl
    | succ n ih =>
      intro S h hS
      rcases List.eq_nil_or_concat S with rfl | ⟨S', x, rfl⟩
      · cases h
      · rw [List.concat_eq_append] at h hS ⊢
        have hk : ∀ y ∈ S'.map keyI, WideAt.IsKeyLit y := by intro y hy; obtain ⟨z, _, rfl⟩ := List.mem_map.1 hy; exact key_lit z
        rw [List.map_append, List.map_singleton, setOf_snoc, size_put (tidy_setOf _ _ hk), has_setOf _ _ _ hk, ih S' (by simpa using h) (List.nodup_append.1 hS).1, if_neg]
        · simp
        · intro hc
          obtain ⟨y, hy, hyx⟩ := List.any_eq_true.1 hc
          obtain ⟨z, hz, rfl⟩ := List.mem_map.1 hy
          have : z = x := by
            by_cases hzx : z = x
            · exact hzx
            · rw [sameKey_ne (by simpa [keyI] using hzx)] at hyx; cases hyx
          exact (List.nodup_append.1 hS).2.2 z hz x (by simp) this
  exact key _ S rfl hS
theorem SetM.len (h : SetM P k e w b S) (ht : P.underlying t = some (.map k e)) (hS : S.Nodup) (ty : TypeId) : (Builtin.len_ #[t] ty #[.map (some b)]).run P w = .ok (.int .i64 S.length) w := by
  rw [World.ownsMap.len h ht ty, set_size hS]
end
end Go.Proofs.YtbnbjiddffihoaaDoor

/- Gap, ascending, and the place of a node in a list, of the package redundant. -/
namespace Go.Proofs.YtbnbjiddffihoaaDoor
open Go.RowKit Go.Maps

/-- what Sort of a roster gives -/
theorem sorted_own {l : List Nd} {base : Nat} {w : World} {v : Value} (h0 : checkN l = 0) (own : OwnL 3 encN 52 base w v (sortN l)) :
    ∃ a c, v = .slice a l.length c ∧ Sl 3 encN w a l.length (sortN l) ∧ l.length ≤ c ∧ c ≤ maxLen := by
  obtain ⟨a, c, e, r, h1, h2, _⟩ := own.rd (fun _ => rfl)
  rw [sortN_length] at e r h1
  exact ⟨a, c, e, r.mono (fun _ hk => hk.2), h1, h2⟩
end Go.Proofs.YtbnbjiddffihoaaDoor

/- What a loop of a law keeps. -/
namespace Go.Proofs.YtbnbjiddffihoaaDoor
open Go.RowKit

theorem TabG.nxb {b : Nat} {w w' : World} (h : TabG w) (hb : ¬ 1 = b) (k : Exb b w w') : TabG w' := h.chg k ⟨h.lt, hb⟩
end Go.Proofs.YtbnbjiddffihoaaDoor

/- Contacts of the package redundant. -/
namespace Go.Proofs.YtbnbjiddffihoaaDoor
open Go.RowKit Go.Maps

theorem check_len {N : List Nd} (h0 : checkN N = 0) : N.length ≤ 64 := by
  unfold checkN at h0
  split at h0
  · cases h0
  · omega
end Go.Proofs.YtbnbjiddffihoaaDoor

/- names and Refs of the package redundant. -/
namespace Go.Proofs.YtbnbjiddffihoaaDoor
open Go.RowKit

theorem cont4 (y : Nr) (id : Int) : (nums4 y).contains id = (y.1 == id || y.2.1 == id || y.2.2.1 == id || y.2.2.2 == id) := by
  unfold nums4
  rw [Bool.eq_iff_iff]
  simp only [List.contains_iff_mem, List.mem_cons, List.not_mem_nil, or_false, Bool.or_eq_true, beq_iff_eq]
  omega
set_option maxHeartbeats 1000000 in
theorem names1_p (gx : Nat) (id : Int) (y : Nr) (w : World) (hx : Blk w gx [.int .i64 id] 3) :
    Calls Tryd.prog 106 #[.agg #[.int .i64 y.1, .int .i64 y.2.1, .int .i64 y.2.2.1, .int .i64 y.2.2.2], .pointer (some ⟨gx, 0, none⟩)] w fun e w' => e = .returned (.bool ((nums4 y).contains id)) ∧ Ex w w' := by
  have hg := hx.lt
  have EX := Ex.refl w
  have CN := Lib.hid (cont4 y id)
  have B2 := Blk.new w [.int .i64 y.1, .int .i64 y.2.1, .int .i64 y.2.2.1, .int .i64 y.2.2.2] 77
  have kk := Ex.new w (.cells #[.int .i64 y.1, .int .i64 y.2.1, .int .i64 y.2.2.1, .int .i64 y.2.2.2] 77)
  obtain ⟨w1, hw1⟩ : ∃ w1, w1 = w.alloc (.cells #[.int .i64 y.1, .int .i64 y.2.1, .int .i64 y.2.2.1, .int .i64 y.2.2.2] 77) := ⟨_, rfl⟩
  obtain ⟨g2, hg2⟩ : ∃ g2, g2 = w.heap.size := ⟨_, rfl⟩
  replace B2 : Blk w1 g2 [.int .i64 y.1, .int .i64 y.2.1, .int .i64 y.2.2.1, .int .i64 y.2.2.2] 77 := by rw [hw1, hg2]; exact B2
  rw [← hw1] at kk
  have Hw1 := Lib.hid hw1
  have Hg2 := Lib.hid hg2
  replace hx := hx.nx kk
  replace EX := EX.nx kk
  clear kk hw1 hg2
  go_enter Tryd.func106, Tryd.ntmps106
  go_upto_region 1 with fail
  rw [← Hg2.out, ← Hw1.out]
  clear Hg2 Hw1
  have q0 := hx.cell 0 _ rfl
  have p0 := B2.cell 0 _ rfl
  have p1 := B2.cell 1 _ rfl
  have p2 := B2.cell 2 _ rfl
  have p3 := B2.cell 3 _ rfl
  clear hx B2
  generalize hc1 : (y.1 == id) = c1 at CN
  generalize hc2 : (y.2.1 == id) = c2 at CN
  generalize hc3 : (y.2.2.1 == id) = c3 at CN
  generalize hc4 : (y.2.2.2 == id) = c4 at CN
  cases c1 with
  | true =>
    go_wp2_with fail
    go_ret
    exact ⟨by rw [CN.out]; rfl, EX⟩
  | false =>
    cases c2 with
    | true =>
      go_wp2_with fail
      go_ret
      exact ⟨by rw [CN.out]; rfl, EX⟩
    | false =>
      cases c3 with
      | true =>
        go_wp2_with fail
        go_ret
        exact ⟨by rw [CN.out]; rfl, EX⟩
      | false =>
        go_wp2_with fail
        go_ret
        exact ⟨by rw [CN.out]; rfl, EX⟩
def NmfRel (id : Int) (l : List Nr) (n : Nat) (w : World) (i : Value) (wr : World) : Prop :=
  ∃ k : Nat, k ≤ n ∧ i = .int .i64 k ∧ Ex w wr ∧ ∀ j z, j < k → l[j]? = some z → (nums4 z).contains id = false
set_option maxRecDepth 100000 in
set_option maxHeartbeats 2000000 in
theorem idxf_nr (gx : Nat) (id : Int) (a : Option Addr) (n c : Nat) (l : List Nr) (w : World) (h : Sl 4 encNr w a n l) (hn : n ≤ 4000000000000000000) (hx : Blk w gx [.int .i64 id] 3) :
    Calls Tryd.prog 130 #[.slice a n c, .func (.func 106) #[] #[.pointer (some ⟨gx, 0, none⟩)]] w fun e w' => ∃ r : Int, e = .returned (.int .i64 r) ∧ decide (0 ≤ r) = (l.flatMap nums4).contains id ∧ Ex w w' := by
  have HL := Lib.hid h.len
  have HX := Lib.hid hx
  have hs := Lib.hid h
  have eg : ∀ args w, (callFunc 106 args).run Tryd.prog w = .ok (.enter 106 args) w := enters_of Tryd.func106 (by kernel_rfl) rfl
  clear h hx
  go_enter Tryd.func130, Tryd.ntmps130
  go_wp2
  go_loopw [8] (fun i wr => NmfRel id l n w i wr) (fun i _ => n - (intOf i).toNat)
  case atStart => exact ⟨0, by omega, rfl, Ex.refl _, by intro j z h; omega⟩
  case round =>
    obtain ⟨k, hk, rfl, kw, hno⟩ := hrel
    have HNO := Lib.hid hno
    clear hno
    obtain ⟨wo, rfl⟩ : ∃ wo : World, wo = wr := ⟨_, rfl⟩
    by_cases hlt : k < n
    · obtain ⟨x1, o1, y, rfl, hx1, hy, hc1⟩ := (hs.out.nx kw).at hlt
      have e0 : wo.cell? ⟨x1, o1 + k * 4, none⟩ = some (.int .i64 y.1) := hc1 0 _ rfl
      have e1 : wo.cell? ⟨x1, o1 + k * 4 + 1, none⟩ = some (.int .i64 y.2.1) := hc1 1 _ rfl
      have e2 : wo.cell? ⟨x1, o1 + k * 4 + 1 + 1, none⟩ = some (.int .i64 y.2.2.1) := by simpa [Nat.add_assoc] using hc1 2 _ rfl
      have e3 : wo.cell? ⟨x1, o1 + k * 4 + 1 + 1 + 1, none⟩ = some (.int .i64 y.2.2.2) := by simpa [Nat.add_assoc] using hc1 3 _ rfl
      have HY := Lib.hid hy
      have HB := Lib.hid (HX.out.nx kw)
      have KW := Lib.hid kw
      clear hc1 hy kw
      go_wp2_with fail
      (with_reducible refine (names1_p gx id y _ HB.out).mono ?_)
      rintro e w2 ⟨rfl, k2⟩
      have K2 := Lib.hid (KW.out.nx k2)
      clear k2 e0 e1 e2 e3
      cases hb : (nums4 y).contains id with
      | true =>
        have HI : Hid ((l.flatMap nums4).contains id = true) := Lib.hid (by
          rw [List.contains_iff_mem, List.mem_flatMap]
          exact ⟨y, List.mem_of_getElem? HY.out, List.contains_iff_mem.1 hb⟩)
        clear hb
        go_wp2_with fail
        go_ret
        exact ⟨_, rfl, by rw [HI.out]; simp, K2.out⟩
      | false =>
        have HB := Lib.hid hb
        clear hb
        go_wp2_with fail
        refine ⟨⟨k + 1, by omega, by go_num, K2.out, fun j z hj hz => ?_⟩, by simp [intOf]; omega⟩
        rcases Nat.lt_or_ge j k with h | h
        · exact HNO.out j z h hz
        · obtain rfl : j = k := by omega
          rw [Option.some.inj (hz.symm.trans HY.out)]
          exact HB.out
    · obtain rfl : k = n := by omega
      have HI : Hid ((l.flatMap nums4).contains id = false) := Lib.hid (by
        rw [Bool.eq_false_iff]
        intro hc
        rw [List.contains_iff_mem, List.mem_flatMap] at hc
        obtain ⟨y, hy, hm⟩ := hc
        obtain ⟨j, hj⟩ := List.mem_iff_getElem?.1 hy
        have := HNO.out j y (by rw [← HL.out]; exact (List.getElem?_eq_some_iff.1 hj).1) hj
        rw [List.contains_iff_mem.2 hm] at this
        cases this)
      have KW := Lib.hid kw
      clear kw hk hlt
      go_wp2_with fail
      go_ret
      exact ⟨-1, rfl, by rw [HI.out]; rfl, KW.out⟩
theorem contf_nr (gx : Nat) (id : Int) (a : Option Addr) (n c : Nat) (l : List Nr) (w : World) (h : Sl 4 encNr w a n l) (hn : n ≤ 4000000000000000000) (hx : Blk w gx [.int .i64 id] 3) :
    Calls Tryd.prog 107 #[.slice a n c, .func (.func 106) #[] #[.pointer (some ⟨gx, 0, none⟩)]] w fun e w' => e = .returned (.bool ((l.flatMap nums4).contains id)) ∧ Ex w w' := by
  go_enter Tryd.func107, Tryd.ntmps107
  go_wp2_with fail
  (with_reducible refine (idxf_nr gx id _ _ _ _ _ h hn hx).mono ?_)
  rintro e w1 ⟨r, rfl, hr, kk⟩
  have HR := Lib.hid hr
  clear h hx hr
  go_wp2_with fail
  go_ret
  exact ⟨by rw [← HR.out]; rfl, kk⟩

theorem cont_nums (p : Pr) (id : Int) : (numsP p).contains id = (p.left == id || p.right == id || p.known.contains id || (p.near.flatMap nums4).contains id) := by
  unfold numsP
  rw [Bool.eq_iff_iff]
  simp only [List.contains_iff_mem, List.mem_append, List.mem_cons, List.not_mem_nil, or_false, Bool.or_eq_true, beq_iff_eq]
  constructor
  · rintro ((h | h | h) | h)
    · exact .inl (.inr h)
    · exact .inl (.inl (.inl h.symm))
    · exact .inl (.inl (.inr h.symm))
    · exact .inr h
  · rintro (((h | h) | h) | h)
    · exact .inl (.inr (.inl h.symm))
    · exact .inl (.inr (.inr h.symm))
    · exact .inl (.inl h)
    · exact .inr h
set_option maxHeartbeats 2000000 in
theorem names_p (p : Pr) (a1 : Option Addr) (n1 c1 : Nat) (a2 : Option Addr) (n2 c2 : Nat) (id : Int) (w : World) (h1 : Sl 1 encI w a1 n1 p.known) (h2 : Sl 4 encNr w a2 n2 p.near) (hn1 : n1 ≤ 4000000000000000000) (hn2 : n2 ≤ 4000000000000000000) :
    Calls Tryd.prog 65 #[.agg #[.int .i64 p.id, .slice a1 n1 c1, .int .i64 p.left, .int .i64 p.right, .slice a2 n2 c2], .int .i64 id] w fun e w' => e = .returned (.bool ((numsP p).contains id)) ∧ Ex w w' := by
  have EX := Ex.refl w
  have CN := Lib.hid (cont_nums p id)
  obtain ⟨g2, hg2⟩ : ∃ g2, g2 = w.heap.size := ⟨_, rfl⟩
  obtain ⟨g3, hg3⟩ : ∃ g3, g3 = (w.heap.size + 1) := ⟨_, rfl⟩
  obtain ⟨w1, hw1⟩ : ∃ w1, w1 = ((w.alloc (.cells #[.int .i64 p.id, .slice a1 n1 c1, .int .i64 p.left, .int .i64 p.right, .slice a2 n2 c2] 41)).alloc (.cells #[.int .i64 id] 3)) := ⟨_, rfl⟩
  have kk : Ex w w1 := by rw [hw1]; exact (((Ex.refl w).alloc (.cells #[.int .i64 p.id, .slice a1 n1 c1, .int .i64 p.left, .int .i64 p.right, .slice a2 n2 c2] 41)).alloc (.cells #[.int .i64 id] 3))
  have B2 : Blk w1 g2 [.int .i64 p.id, .slice a1 n1 c1, .int .i64 p.left, .int .i64 p.right, .slice a2 n2 c2] 41 := by rw [hw1]; simp only [hg2, hg3]; have hbk := ((Blk.new w [.int .i64 p.id, .slice a1 n1 c1, .int .i64 p.left, .int .i64 p.right, .slice a2 n2 c2] 41).nx (Ex.new _ (.cells #[.int .i64 id] 3))); simpa using hbk
  have B3 : Blk w1 g3 [.int .i64 id] 3 := by rw [hw1]; simp only [hg2, hg3]; have hbk := (Blk.new (w.alloc (.cells #[.int .i64 p.id, .slice a1 n1 c1, .int .i64 p.left, .int .i64 p.right, .slice a2 n2 c2] 41)) [.int .i64 id] 3); simpa using hbk
  have Hw1 := Lib.hid hw1
  have Hg2 := Lib.hid hg2
  have Hg3 := Lib.hid hg3
  replace h1 := h1.nx kk
  replace h2 := h2.nx kk
  replace EX := EX.nx kk
  clear kk hw1 hg2 hg3
  go_enter Tryd.func65, Tryd.ntmps65
  go_upto_region 2 with fail
  rw [← Hw1.out, ← Hg3.out, ← Hg2.out]
  clear Hw1 Hg3 Hg2
  have p1 := B2.cell 1 _ rfl
  have p2 := B2.cell 2 _ rfl
  have p3 := B2.cell 3 _ rfl
  have p4 := B2.cell 4 _ rfl
  have q0 := B3.cell 0 _ rfl
  have S1 := Lib.hid h1
  have S2 := Lib.hid h2
  replace B2 := Lib.hid B2
  replace B3 := Lib.hid B3
  clear h1 h2
  generalize hc1 : (p.left == id) = b1 at CN
  generalize hc2 : (p.right == id) = b2 at CN
  cases b1 with
  | true =>
    go_wp2_with fail
    go_ret
    exact ⟨by rw [CN.out]; rfl, EX⟩
  | false =>
    cases b2 with
    | true =>
      go_wp2_with fail
      go_ret
      exact ⟨by rw [CN.out]; rfl, EX⟩
    | false =>
      go_wp2_with fail
      (with_reducible refine (contains_i _ _ _ _ id _ S1.out hn1).mono ?_)
      rintro e w2 ⟨rfl, kk⟩
      replace EX := EX.nx kk
      generalize hc3 : p.known.contains id = b3 at CN
      have p4 := (B2.out.nx kk).cell 4 _ rfl
      have S2 := Lib.hid (S2.out.nx kk)
      have B3 := Lib.hid (B3.out.nx kk)
      clear kk p1 p2 p3 q0
      cases b3 with
      | true =>
        go_wp2_with fail
        go_ret
        exact ⟨by rw [CN.out]; rfl, EX⟩
      | false =>
        go_wp2_with fail
        (with_reducible refine (contf_nr g3 id _ _ _ _ _ S2.out hn2 B3.out).mono ?_)
        rintro e w3 ⟨rfl, kk⟩
        replace EX := EX.nx kk
        clear kk
        generalize hc4 : (p.near.flatMap nums4).contains id = b4 at CN
        have CN : Hid ((numsP p).contains id = b4) := Lib.hid (by rw [CN.out]; rfl)
        clear p4
        go_wp2_with fail
        go_ret
        exact ⟨by rw [CN.out]; rfl, EX⟩

set_option maxRecDepth 100000 in
set_option maxHeartbeats 4000000 in
theorem refs_p (a : Option Addr) (n c : Nat) (N : List Nd) (p : Pr) (a1 : Option Addr) (n1 c1 : Nat) (a2 : Option Addr) (n2 c2 : Nat) (w : World) (h : Sl 3 encN w a n N) (hn : n ≤ 1000) (hc : n ≤ c) (hm : c ≤ maxLen) (h1 : Sl 1 encI w a1 n1 p.known) (h2 : Sl 4 encNr w a2 n2 p.near) (hn1 : n1 ≤ 4000000000000000000) (hn2 : n2 ≤ 4000000000000000000) :
    Calls Tryd.prog 25 #[.slice a n c, .agg #[.int .i64 p.id, .slice a1 n1 c1, .int .i64 p.left, .int .i64 p.right, .slice a2 n2 c2]] w (OiPost (refsN N p) w) := by
  have HL := Lib.hid h.len
  have EX := Ex.refl w
  have B3 := Blk.new w [.int .i64 p.id, .slice a1 n1 c1, .int .i64 p.left, .int .i64 p.right, .slice a2 n2 c2] 41
  have kk := Ex.new w (.cells #[.int .i64 p.id, .slice a1 n1 c1, .int .i64 p.left, .int .i64 p.right, .slice a2 n2 c2] 41)
  obtain ⟨w1, hw1⟩ : ∃ w1, w1 = w.alloc (.cells #[.int .i64 p.id, .slice a1 n1 c1, .int .i64 p.left, .int .i64 p.right, .slice a2 n2 c2] 41) := ⟨_, rfl⟩
  obtain ⟨g3, hg3⟩ : ∃ g3, g3 = w.heap.size := ⟨_, rfl⟩
  replace B3 : Blk w1 g3 [.int .i64 p.id, .slice a1 n1 c1, .int .i64 p.left, .int .i64 p.right, .slice a2 n2 c2] 41 := by rw [hw1, hg3]; exact B3
  rw [← hw1] at kk
  have Hw1 := Lib.hid hw1
  have Hg3 := Lib.hid hg3
  replace h := h.nx kk
  replace h1 := h1.nx kk
  replace h2 := h2.nx kk
  replace EX := EX.nx kk
  clear kk hw1 hg3
  go_enter Tryd.func25, Tryd.ntmps25
  go_upto_region 1 with fail
  rw [← Hg3.out, ← Hw1.out]
  clear Hg3 Hw1
  go_wp2_with fail
  (with_reducible refine (check_p _ _ _ _ _ h (by omega) hc hm).mono ?_)
  rintro e w2 ⟨rfl, kk⟩
  replace h := h.nx kk
  replace h1 := h1.nx kk
  replace h2 := h2.nx kk
  replace EX := EX.nx kk
  replace B3 := B3.nx kk
  clear kk
  by_cases hck : checkN N = 0
  case neg =>
    have d1 : (checkN N != 0) = true := by simpa using hck
    have E0 : Hid (refsN N p = []) := Lib.hid (by unfold refsN; rw [if_neg hck])
    clear h h1 h2 hck B3
    go_wp2_with fail
    go_ret
    exact ⟨_, rfl, by rw [E0.out]; exact OwnL.nil _ _ _ _ _, EX⟩
  have d1 : (checkN N != 0) = false := by simpa using hck
  have HC := Lib.hid hck
  clear hck
  go_wp2_with fail
  (with_reducible refine (sort_p _ _ _ _ _ h hn).mono ?_)
  rintro e w3 ⟨v, S, rfl, OS, ⟨hp, hsrt⟩, kk⟩
  replace h1 := h1.nx kk
  replace h2 := h2.nx kk
  replace EX := EX.nx kk
  replace B3 := B3.nx kk
  clear kk
  have hSe : S = sortN N := sortN_unique (check_keys HC.out) hp hsrt
  subst hSe
  obtain ⟨a3, c3, rfl, S3, _, _⟩ := sorted_own HC.out OS
  rw [HL.out] at S3 ⊢
  have ES : Hid (refsN N p = ((sortN N).filter (ordP (numsP p) p.id)).map Nd.id) := Lib.hid (by unfold refsN; rw [if_pos HC.out]; rfl)
  generalize sortN N = S at S3 ES
  have HSL := Lib.hid S3.len
  replace S3 := Lib.hid S3
  have S1 := Lib.hid h1
  have S2 := Lib.hid h2
  have K1 := Lib.hid EX
  have hz1 := EX.size
  replace B3 := Lib.hid B3
  clear h h1 h2 OS EX hp hsrt
  go_wp2_with fail
  go_loopw [5, 14] (fun o i wr => OrdRel S (numsP p) p.id w3 o i wr) (fun _ i _ => n - (intOf i).toNat)
  case atStart => exact ⟨0, by omega, rfl, OwnL.nil _ _ _ _ _, Ex.refl _⟩
  case round =>
    obtain ⟨j, hj, rfl, own, ki⟩ := hrel
    obtain ⟨wi, rfl⟩ : ∃ wi : World, wi = wr := ⟨_, rfl⟩
    by_cases hjm : j < n
    · obtain ⟨x3, o3, y, rfl, hx3, hy, hc3⟩ := (S3.out.nx ki).at hjm
      have e0 : wi.cell? ⟨x3, o3 + j * 3, none⟩ = some (.int .i64 y.id) := hc3 0 _ rfl
      have e1 : wi.cell? ⟨x3, o3 + j * 3 + 1, none⟩ = some (.string y.key) := hc3 1 _ rfl
      have e2 : wi.cell? ⟨x3, o3 + j * 3 + 1 + 1, none⟩ = some (.int .u32 y.word) := by simpa [Nat.add_assoc] using hc3 2 _ rfl
      have SN := Lib.hid (ord_snoc (l := numsP p) (but := p.id) hy)
      have hrl : (((S.take j).filter (ordP (numsP p) p.id)).map Nd.id).length ≤ 1000 := by
        rw [List.length_map]
        have := List.length_filter_le (ordP (numsP p) p.id) (S.take j)
        rw [List.length_take] at this
        omega
      generalize ((S.take j).filter (ordP (numsP p) p.id)).map Nd.id = row at own SN hrl
      have KI := Lib.hid ki
      clear hy hc3 ki
      have B7 := Blk.new wi [.int .i64 y.id, .string y.key, .int .u32 y.word] 52
      have kk := Ex.new wi (.cells #[.int .i64 y.id, .string y.key, .int .u32 y.word] 52)
      obtain ⟨w7, hw7⟩ : ∃ w7, w7 = wi.alloc (.cells #[.int .i64 y.id, .string y.key, .int .u32 y.word] 52) := ⟨_, rfl⟩
      obtain ⟨g7, hg7⟩ : ∃ g7, g7 = wi.heap.size := ⟨_, rfl⟩
      replace B7 : Blk w7 g7 [.int .i64 y.id, .string y.key, .int .u32 y.word] 52 := by rw [hw7, hg7]; exact B7
      rw [← hw7] at kk
      have Hw7 := Lib.hid hw7
      have Hg7 := Lib.hid hg7
      replace own := own.nx kk
      have K7 := Lib.hid (KI.out.nx kk)
      clear kk hw7 hg7
      have Q3 := B3.out.nx K7.out
      go_upto_region 7 with fail
      rw [← Hg7.out, ← Hw7.out]
      clear Hg7 Hw7
      have q0 := B7.cell 0 _ rfl
      have p0 := Q3.cell 0 _ rfl
      clear e0 e1 e2
      by_cases hb : y.id = p.id
      · have hq : (y.id != p.id) = false := by simp [hb]
        have hq2 : (y.id == p.id) = true := by simp [hb]
        have PF : Hid (ordP (numsP p) p.id y = false) := Lib.hid (by unfold ordP; rw [hq2]; rfl)
        have OWN := Lib.hid own
        clear hb own hq2 B7 Q3
        go_wp2_with fail
        exact ⟨⟨j + 1, by rw [HSL.out]; omega, by go_num, by rw [SN.out, PF.out]; simpa using OWN.out, K7.out⟩, by simp [intOf]; omega⟩
      · have hq : (y.id != p.id) = true := by simpa using hb
        have hq2 : (y.id == p.id) = false := by simpa using hb
        have PB : Hid (ordP (numsP p) p.id y = (numsP p).contains y.id) := Lib.hid (by unfold ordP; rw [hq2]; rfl)
        have p1 := Q3.cell 1 _ rfl
        have p2 := Q3.cell 2 _ rfl
        have p3 := Q3.cell 3 _ rfl
        have p4 := Q3.cell 4 _ rfl
        clear hb hq2 Q3
        go_wp2_with fail
        (with_reducible refine (names_p p _ _ _ _ _ _ y.id _ (S1.out.nx K7.out) (S2.out.nx K7.out) hn1 hn2).mono ?_)
        rintro e w5 ⟨rfl, kk⟩
        replace own := own.nx kk
        replace B7 := B7.nx kk
        have K5 := Lib.hid (K7.out.nx kk)
        have zb5 := K5.out.size
        have q0 := B7.cell 0 _ rfl
        have OWN := Lib.hid own
        clear kk p0 p1 p2 p3 p4 own B7
        generalize (numsP p).contains y.id = inl at PB ⊢
        generalize y.id = yi at SN q0 hq
        cases inl with
        | false =>
          clear q0 hq
          go_wp2_with fail
          exact ⟨⟨j + 1, by rw [HSL.out]; omega, by go_num, by rw [SN.out, PB.out]; simpa using OWN.out, K5.out⟩, by simp [intOf]; omega⟩
        | true =>
          have own5 := OWN.out
          have hl7 : row.length ≤ 1000000 := by omega
          clear hq
          go_wp2_with (at_builtin; (refine wpList_append_lit (enc := encI) w5 rfl _ _ 22 rfl w3.heap.size 3 (.int .i64 0) 1 8 Tryd.underlying22 Tryd.infoI6 rfl (by omega) (by omega) _ _ own5 rfl (yi : Int) _ rfl rfl (by simp [encI, Value.oneCell']) _ (by simp) rfl hl7 zb5 _ ?_); intro v6 w6 own6 _ ch1 _)
          refine ⟨⟨j + 1, by rw [HSL.out]; omega, by go_num, by rw [SN.out, PB.out]; exact own6, Chg.trans K5.out ch1⟩, by simp [intOf]; omega⟩
    · obtain rfl : j = n := by have := HSL.out; omega
      rw [List.take_of_length_le (by rw [HSL.out]; exact Nat.le_refl _)] at own
      have own := Lib.hid (own.base hz1)
      have KE := Lib.hid (K1.out.nx ki)
      clear hj hjm ki
      go_wp2_with fail
      go_ret
      exact ⟨_, rfl, by rw [ES.out]; exact own.out, KE.out⟩
end Go.Proofs.YtbnbjiddffihoaaDoor

/- Numbers, CopyPeer, Refs of the reference. NOT BUILT YET. -/
namespace Go.Proofs.YtbnbjiddffihoaaDoor
open Go.RowKit

/-- a literal of two numbers -/
theorem lit2 {w u : World} (h : Ex w u) (x y : Int) : ∃ g v, g = u.heap.size ∧ v = u.alloc (.cells #[.int .i64 x, .int .i64 y] 3) ∧ Sl 1 encI v (some ⟨g, 0, none⟩) 2 [x, y] ∧ Ex u v ∧ Ex w v :=
  ⟨_, _, rfl, rfl, Sl.lit [x, y] rfl rfl (fun _ => rfl) rfl, Ex.new _ _, h.nx (Ex.new _ _)⟩
theorem lit4 {w u : World} (h : Ex w u) (y : Nr) : ∃ g v, g = u.heap.size ∧ v = u.alloc (.cells #[.int .i64 y.1, .int .i64 y.2.1, .int .i64 y.2.2.1, .int .i64 y.2.2.2] 3) ∧ Sl 1 encI v (some ⟨g, 0, none⟩) 4 (nums4 y) ∧ Ex u v ∧ Ex w v :=
  ⟨_, _, rfl, rfl, Sl.lit (nums4 y) rfl rfl (fun _ => rfl) rfl, Ex.new _ _, h.nx (Ex.new _ _)⟩
def NmCut (l : List Int) (w : World) (s : Value) (wx : World) : Prop := OwnL 1 encI 3 w.heap.size wx s l ∧ Ex w wx
def NmRel (l0 : List Int) (nr : List Nr) (w : World) (o i : Value) (wr : World) : Prop :=
  ∃ j : Nat, j ≤ nr.length ∧ i = .int .i64 j ∧ OwnL 1 encI 3 w.heap.size wr o (l0 ++ (nr.take j).flatMap nums4) ∧ Ex w wr
theorem nm_snoc {l0 : List Int} {nr : List Nr} {j : Nat} {y : Nr} (hy : nr[j]? = some y) : l0 ++ (nr.take (j + 1)).flatMap nums4 = (l0 ++ (nr.take j).flatMap nums4) ++ nums4 y := by
  rw [List.take_add_one, hy]
  simp
theorem nums_len (l : List Nr) : (l.flatMap nums4).length = 4 * l.length := by
  induction l with
  | nil => rfl
  | cons x l ih => rw [List.flatMap_cons, List.length_append, ih, List.length_cons, show (nums4 x).length = 4 from rfl]; omega
set_option maxRecDepth 100000 in
set_option maxHeartbeats 8000000 in
theorem numbers_r (p : Pr) (a1 : Option Addr) (n1 c1 : Nat) (a2 : Option Addr) (n2 c2 : Nat) (w : World) (h1 : Sl 1 encI w a1 n1 p.known) (h2 : Sl 4 encNr w a2 n2 p.near) (hn1 : n1 ≤ 2000000) (hn2 : n2 ≤ 2000000) (z1 : a1 = none → c1 = 0) :
    Calls Tryd.prog 67 #[.agg #[.int .i64 p.id, .slice a1 n1 c1, .int .i64 p.left, .int .i64 p.right, .slice a2 n2 c2]] w (OiPost (numsP p) w) := by
  obtain ⟨id, lf, rt, kn, nr⟩ := p
  have HN : Hid (numsP ⟨id, lf, rt, kn, nr⟩ = (kn ++ [lf, rt]) ++ nr.flatMap nums4) := Lib.hid rfl
  have hkl : kn.length ≤ 2000000 := by have : kn.length = n1 := h1.len; omega
  have hnl : nr.length = n2 := h2.len
  have hw0 := Nat.le_refl w.heap.size
  simp only at h1 h2 ⊢
  have B1 := Blk.new w [.int .i64 id, .slice a1 n1 c1, .int .i64 lf, .int .i64 rt, .slice a2 n2 c2] 41
  have kk := Ex.new w (.cells #[.int .i64 id, .slice a1 n1 c1, .int .i64 lf, .int .i64 rt, .slice a2 n2 c2] 41)
  obtain ⟨w1, hw1⟩ : ∃ w1, w1 = w.alloc (.cells #[.int .i64 id, .slice a1 n1 c1, .int .i64 lf, .int .i64 rt, .slice a2 n2 c2] 41) := ⟨_, rfl⟩
  obtain ⟨g, hg⟩ : ∃ g, g = w.heap.size := ⟨_, rfl⟩
  replace B1 : Blk w1 g [.int .i64 id, .slice a1 n1 c1, .int .i64 lf, .int .i64 rt, .slice a2 n2 c2] 41 := by rw [hw1, hg]; exact B1
  rw [← hw1] at kk
  have Hw1 := Lib.hid hw1
  have Hg := Lib.hid hg
  replace h1 := h1.nx kk
  replace h2 := h2.nx kk
  have hz1 := kk.size
  have K1 := Lib.hid kk
  have S1 := Lib.hid h1
  have S2 := Lib.hid h2
  clear h1 h2 kk hw1 hg
  go_enter Tryd.func67, Tryd.ntmps67
  go_upto_region 1 with fail
  rw [← Hg.out, ← Hw1.out]
  clear Hg Hw1
  have BH := Lib.hid B1
  clear B1
  go_cut [3] from 5 to 14 (fun s3 wx => NmCut (kn ++ [lf, rt]) w1 s3 wx)
  case first =>
    refine wp_region_held_drew (S := Ex w1) (by kernel_rfl) ((Ex.refl w1).drew) (fun hHeld => ?_)
    refine wpAnyH_take (i := 0) (oi := ⟨some 5, .fieldAddr 41 (.tmp 1) 1, 0, "ref.go:117", #[], none⟩) (v := ?_) rfl (by kernel_rfl) (by kernel_rfl) (by kernel_rfl) (fun _ _ _ h => h) (Or.inl ⟨by rfl, ?hyr1x0q1⟩) (by assumption) ?restr1x0q1
    case hyr1x0q1 => intro wq hSw; (go_simp); (try with_reducible rfl)
    try simp only [Act.put, List.setIfInBounds_toArray, List.set_cons_zero, List.set_cons_succ]
    refine wpAnyH_take (i := 1) (oi := ⟨some 6, .load 22 (.tmp 5), 22, "ref.go:117", #[⟨0, .data⟩], none⟩) (v := ?_) rfl (by kernel_rfl) (by kernel_rfl) (by kernel_rfl) (fun _ _ _ h => h) (Or.inl ⟨by rfl, ?hyr1x1q4⟩) (by assumption) ?restr1x1q4
    case hyr1x1q4 => intro wq hSw; (have cq := (BH.out.nx hSw).cell 1 _ rfl; go_simp); (try with_reducible rfl)
    try simp only [Act.put, List.setIfInBounds_toArray, List.set_cons_zero, List.set_cons_succ]
    refine wpAnyH_take (i := 3) (oi := ⟨some 8, .fieldAddr 41 (.tmp 1) 2, 0, "ref.go:117", #[], none⟩) (v := ?_) rfl (by kernel_rfl) (by kernel_rfl) (by kernel_rfl) (fun _ _ _ h => h) (Or.inl ⟨by rfl, ?hyr1x3q7⟩) (by assumption) ?restr1x3q7
    case hyr1x3q7 => intro wq hSw; (go_simp); (try with_reducible rfl)
    try simp only [Act.put, List.setIfInBounds_toArray, List.set_cons_zero, List.set_cons_succ]
    refine wpAnyH_take (i := 4) (oi := ⟨some 9, .load 3 (.tmp 8), 3, "ref.go:117", #[⟨3, .data⟩], none⟩) (v := ?_) rfl (by kernel_rfl) (by kernel_rfl) (by kernel_rfl) (fun _ _ _ h => h) (Or.inl ⟨by rfl, ?hyr1x4q10⟩) (by assumption) ?restr1x4q10
    case hyr1x4q10 => intro wq hSw; (have cq := (BH.out.nx hSw).cell 2 _ rfl; go_simp); (try with_reducible rfl)
    try simp only [Act.put, List.setIfInBounds_toArray, List.set_cons_zero, List.set_cons_succ]
    refine wpAnyH_take (i := 5) (oi := ⟨some 10, .fieldAddr 41 (.tmp 1) 3, 0, "ref.go:117", #[], none⟩) (v := ?_) rfl (by kernel_rfl) (by kernel_rfl) (by kernel_rfl) (fun _ _ _ h => h) (Or.inl ⟨by rfl, ?hyr1x5q13⟩) (by assumption) ?restr1x5q13
    case hyr1x5q13 => intro wq hSw; (go_simp); (try with_reducible rfl)
    try simp only [Act.put, List.setIfInBounds_toArray, List.set_cons_zero, List.set_cons_succ]
    refine wpAnyH_take (i := 6) (oi := ⟨some 11, .load 3 (.tmp 10), 3, "ref.go:117", #[⟨5, .data⟩], none⟩) (v := ?_) rfl (by kernel_rfl) (by kernel_rfl) (by kernel_rfl) (fun _ _ _ h => h) (Or.inl ⟨by rfl, ?hyr1x6q16⟩) (by assumption) ?restr1x6q16
    case hyr1x6q16 => intro wq hSw; (have cq := (BH.out.nx hSw).cell 3 _ rfl; go_simp); (try with_reducible rfl)
    try simp only [Act.put, List.setIfInBounds_toArray, List.set_cons_zero, List.set_cons_succ]
    refine wpAnyH_ready (rs := [2, 7]) (by kernel_rfl) (by simp) ?_
    refine AllReadyH.cons (o := ⟨some 7, .call { callee := .builtin .append, args := #[.const (.slice none 0 0), .tmp 6], argTypes := #[22, 22] }, 22, "ref.go:117", #[⟨1, .data⟩], none⟩) rfl (fun K hK => ?_) ?_
    · rw [if_pos (by rfl)]
      have s0 := S1.out.nx hHeld
      have z0 := Ex.size hHeld
      refine wp_append_rd (enc := encI) _ (.const (.slice none 0 0)) (.tmp 6) 22 rfl w1.heap.size 3 (.int .i64 0) 1 8 Tryd.underlying22 Tryd.infoI6 rfl (by omega) (by omega) _ [] (OwnL.nil _ _ _ _ _) rfl _ _ n1 c1 kn s0 z1 (fun _ => rfl) (by simp [encI, Value.oneCell']) rfl (by simp) (by omega) z0 ?_
      intro v7 w7 own7 ch0 ch1
      have k7 : Ex _ w7 := ch0.mono (fun k hk => ⟨hk, by simp [Value.ownBlock]⟩)
      (try replace L8 := L8.nx k7)
      have j7 : Ex w1 w7 := Chg.trans hHeld ch1
      rw [List.nil_append] at own7
      clear ch0 ch1 s0 z0 k7 hHeld
      have hHeld := j7
      clear j7
      refine hK.out _ _ (hHeld) (fun hHeld => ?_)
      clear hK K
      try simp only [Act.put, List.setIfInBounds_toArray, List.set_cons_zero, List.set_cons_succ]
      refine wpAnyH_ready (rs := [7]) (by kernel_rfl) (by simp) ?_
      refine AllReadyH.cons (o := ⟨some 12, .buildSlice 22 2 #[(0, .tmp 9), (1, .tmp 11)], 22, "ref.go:117", #[⟨4, .data⟩, ⟨6, .data⟩], none⟩) rfl (fun K hK => ?_) AllReadyH.nil
      go_simp
      obtain ⟨g8, u8, hg8, hu8, L8, k8, j8⟩ := lit2 hHeld lf rt
      (try replace own7 := own7.nx k8)
      (first | rw [← hg8, ← hu8] | (rw [show w1.drew.heap.size = w1.heap.size from rfl] at hg8; rw [← hg8, show ∀ o, (w1.alloc o).drew = w1.drew.alloc o from fun _ => rfl, ← hu8]))
      clear hg8 hu8 k8 hHeld
      have hHeld := j8
      clear j8
      refine hK.out _ _ (hHeld) (fun hHeld => ?_)
      clear hK K
      try simp only [Act.put, List.setIfInBounds_toArray, List.set_cons_zero, List.set_cons_succ]
      refine wpAnyH_ready (rs := [8]) (by kernel_rfl) (by simp) ?_
      refine AllReadyH.cons (o := ⟨some 13, .call { callee := .builtin .append, args := #[.tmp 7, .tmp 12], argTypes := #[22, 22] }, 22, "ref.go:117", #[⟨2, .data⟩, ⟨7, .data⟩, ⟨2, .chain⟩], none⟩) rfl (fun K hK => ?_) AllReadyH.nil
      rw [if_pos (by rfl)]
      have z0 := Ex.size hHeld
      refine wp_append_rd (enc := encI) _ (.tmp 7) (.tmp 12) 22 rfl w1.heap.size 3 (.int .i64 0) 1 8 Tryd.underlying22 Tryd.infoI6 rfl (by omega) (by omega) _ kn own7 rfl _ _ 2 2 [lf, rt] L8 (fun h => by cases h) (fun _ => rfl) (by simp [encI, Value.oneCell']) rfl (by omega) (by omega) z0 ?_
      intro v9 w9 own9 ch0 ch1
      have j9 : Ex w1 w9 := Chg.trans hHeld ch1
      clear ch0 ch1 z0 own7 L8 hHeld
      have hHeld := j9
      clear j9
      refine hK.out _ _ (hHeld) (fun hHeld => ?_)
      clear hK K
      try simp only [Act.put, List.setIfInBounds_toArray, List.set_cons_zero, List.set_cons_succ]
      refine wpAnyH_take (i := 9) (oi := ⟨some 3, .assign (.tmp 13), 22, "ref.go:117", #[⟨8, .data⟩, ⟨8, .chain⟩, ⟨0, .phase⟩, ⟨1, .phase⟩, ⟨2, .phase⟩, ⟨3, .phase⟩, ⟨4, .phase⟩, ⟨5, .phase⟩, ⟨6, .phase⟩, ⟨7, .phase⟩, ⟨8, .phase⟩], none⟩) (v := ?_) rfl (by kernel_rfl) (by kernel_rfl) (by kernel_rfl) (fun _ _ _ h => h) (Or.inl ⟨by rfl, ?hyr1x9q61⟩) (by assumption) ?restr1x9q61
      case hyr1x9q61 => intro wq hSw; (go_simp); (try with_reducible rfl)
      try simp only [Act.put, List.setIfInBounds_toArray, List.set_cons_zero, List.set_cons_succ]
      refine wpAnyH_done (by kernel_rfl) ?_ _
      go_wp2_with fail
      go_meet
      exact ⟨own9, hHeld⟩
    refine AllReadyH.cons (o := ⟨some 12, .buildSlice 22 2 #[(0, .tmp 9), (1, .tmp 11)], 22, "ref.go:117", #[⟨4, .data⟩, ⟨6, .data⟩], none⟩) rfl (fun K hK => ?_) AllReadyH.nil
    · go_simp
      obtain ⟨g8, u8, hg8, hu8, L8, k8, j8⟩ := lit2 hHeld lf rt
      (try replace own7 := own7.nx k8)
      (first | rw [← hg8, ← hu8] | (rw [show w1.drew.heap.size = w1.heap.size from rfl] at hg8; rw [← hg8, show ∀ o, (w1.alloc o).drew = w1.drew.alloc o from fun _ => rfl, ← hu8]))
      clear hg8 hu8 k8 hHeld
      have hHeld := j8
      clear j8
      refine hK.out _ _ (hHeld) (fun hHeld => ?_)
      clear hK K
      try simp only [Act.put, List.setIfInBounds_toArray, List.set_cons_zero, List.set_cons_succ]
      refine wpAnyH_ready (rs := [2]) (by kernel_rfl) (by simp) ?_
      refine AllReadyH.cons (o := ⟨some 7, .call { callee := .builtin .append, args := #[.const (.slice none 0 0), .tmp 6], argTypes := #[22, 22] }, 22, "ref.go:117", #[⟨1, .data⟩], none⟩) rfl (fun K hK => ?_) AllReadyH.nil
      rw [if_pos (by rfl)]
      have s0 := S1.out.nx hHeld
      have z0 := Ex.size hHeld
      refine wp_append_rd (enc := encI) _ (.const (.slice none 0 0)) (.tmp 6) 22 rfl w1.heap.size 3 (.int .i64 0) 1 8 Tryd.underlying22 Tryd.infoI6 rfl (by omega) (by omega) _ [] (OwnL.nil _ _ _ _ _) rfl _ _ n1 c1 kn s0 z1 (fun _ => rfl) (by simp [encI, Value.oneCell']) rfl (by simp) (by omega) z0 ?_
      intro v7 w7 own7 ch0 ch1
      have k7 : Ex _ w7 := ch0.mono (fun k hk => ⟨hk, by simp [Value.ownBlock]⟩)
      (try replace L8 := L8.nx k7)
      have j7 : Ex w1 w7 := Chg.trans hHeld ch1
      rw [List.nil_append] at own7
      clear ch0 ch1 s0 z0 k7 hHeld
      have hHeld := j7
      clear j7
      refine hK.out _ _ (hHeld) (fun hHeld => ?_)
      clear hK K
      try simp only [Act.put, List.setIfInBounds_toArray, List.set_cons_zero, List.set_cons_succ]
      refine wpAnyH_ready (rs := [8]) (by kernel_rfl) (by simp) ?_
      refine AllReadyH.cons (o := ⟨some 13, .call { callee := .builtin .append, args := #[.tmp 7, .tmp 12], argTypes := #[22, 22] }, 22, "ref.go:117", #[⟨2, .data⟩, ⟨7, .data⟩, ⟨2, .chain⟩], none⟩) rfl (fun K hK => ?_) AllReadyH.nil
      rw [if_pos (by rfl)]
      have z0 := Ex.size hHeld
      refine wp_append_rd (enc := encI) _ (.tmp 7) (.tmp 12) 22 rfl w1.heap.size 3 (.int .i64 0) 1 8 Tryd.underlying22 Tryd.infoI6 rfl (by omega) (by omega) _ kn own7 rfl _ _ 2 2 [lf, rt] L8 (fun h => by cases h) (fun _ => rfl) (by simp [encI, Value.oneCell']) rfl (by omega) (by omega) z0 ?_
      intro v9 w9 own9 ch0 ch1
      have j9 : Ex w1 w9 := Chg.trans hHeld ch1
      clear ch0 ch1 z0 own7 L8 hHeld
      have hHeld := j9
      clear j9
      refine hK.out _ _ (hHeld) (fun hHeld => ?_)
      clear hK K
      try simp only [Act.put, List.setIfInBounds_toArray, List.set_cons_zero, List.set_cons_succ]
      refine wpAnyH_take (i := 9) (oi := ⟨some 3, .assign (.tmp 13), 22, "ref.go:117", #[⟨8, .data⟩, ⟨8, .chain⟩, ⟨0, .phase⟩, ⟨1, .phase⟩, ⟨2, .phase⟩, ⟨3, .phase⟩, ⟨4, .phase⟩, ⟨5, .phase⟩, ⟨6, .phase⟩, ⟨7, .phase⟩, ⟨8, .phase⟩], none⟩) (v := ?_) rfl (by kernel_rfl) (by kernel_rfl) (by kernel_rfl) (fun _ _ _ h => h) (Or.inl ⟨by rfl, ?hyr1x9q107⟩) (by assumption) ?restr1x9q107
      case hyr1x9q107 => intro wq hSw; (go_simp); (try with_reducible rfl)
      try simp only [Act.put, List.setIfInBounds_toArray, List.set_cons_zero, List.set_cons_succ]
      refine wpAnyH_done (by kernel_rfl) ?_ _
      go_wp2_with fail
      go_meet
      exact ⟨own9, hHeld⟩
  case rest =>
    obtain ⟨own, kk⟩ := hcut
    have hl0 : (kn ++ [lf, rt]).length ≤ 2000002 := by simp; omega
    generalize kn ++ [lf, rt] = l0 at own HN hl0
    have OWN := Lib.hid own
    have KC := Lib.hid kk
    clear own kk
    go_wp2_with fail
    go_loopw [3, 4] (fun o i wr => NmRel l0 nr w1 o i wr) (fun _ i _ => nr.length - (intOf i).toNat)
    case atStart => exact ⟨0, by omega, rfl, by simpa using OWN.out, KC.out⟩
    case round =>
      obtain ⟨j, hj, rfl, own, ki⟩ := hrel
      obtain ⟨wi, rfl⟩ : ∃ wi : World, wi = wr := ⟨_, rfl⟩
      have b4 := (BH.out.nx ki).cell 4 _ rfl
      by_cases hjm : j < n2
      · obtain ⟨x3, o3, y, rfl, hx3, hy, hc3⟩ := S2.out.at hjm
        have e0 : w1.cell? ⟨x3, o3 + j * 4, none⟩ = some (.int .i64 y.1) := hc3 0 _ rfl
        have e1 : w1.cell? ⟨x3, o3 + j * 4 + 1, none⟩ = some (.int .i64 y.2.1) := hc3 1 _ rfl
        have e2 : w1.cell? ⟨x3, o3 + j * 4 + 2, none⟩ = some (.int .i64 y.2.2.1) := hc3 2 _ rfl
        have e3 : w1.cell? ⟨x3, o3 + j * 4 + 3, none⟩ = some (.int .i64 y.2.2.2) := hc3 3 _ rfl
        have SN := Lib.hid (nm_snoc (l0 := l0) hy)
        have hrl : (l0 ++ (nr.take j).flatMap nums4).length ≤ 50000000 := by
          rw [List.length_append, nums_len, List.length_take]
          omega
        generalize l0 ++ (nr.take j).flatMap nums4 = row at own SN hrl
        have E := Lib.hid (show ∀ wq, Ex w1 wq → wq.cell? ⟨x3, o3 + j * 4, none⟩ = some (.int .i64 y.1) ∧ wq.cell? ⟨x3, o3 + j * 4 + 1, none⟩ = some (.int .i64 y.2.1) ∧ wq.cell? ⟨x3, o3 + j * 4 + 2, none⟩ = some (.int .i64 y.2.2.1) ∧ wq.cell? ⟨x3, o3 + j * 4 + 3, none⟩ = some (.int .i64 y.2.2.2) from fun wq k => ⟨Chg.cellv k e0 hx3, Chg.cellv k e1 hx3, Chg.cellv k e2 hx3, Chg.cellv k e3 hx3⟩)
        have zb := ki.size
        have KI := Lib.hid ki
        have OWN := Lib.hid (own.nx (Ex.drew (Ex.refl wi)))
        clear hy hc3 e0 e1 e2 e3 own ki
        go_upto_region 5 with fail
        clear b4
        refine wp_region_held_drew (S := Ex w1) (by kernel_rfl) (KI.out.drew) (fun hHeld => ?_)
        refine wpAnyH_take (i := 0) (oi := ⟨some 21, .move (.tmp 3), 22, "ref.go:119", #[], none⟩) (v := ?_) rfl (by kernel_rfl) (by kernel_rfl) (by kernel_rfl) (fun _ _ _ h => h) (Or.inl ⟨by rfl, ?hyr2x0q1⟩) (by assumption) ?restr2x0q1
        case hyr2x0q1 => intro wq hSw; (go_simp); (try with_reducible rfl)
        try simp only [Act.put, List.setIfInBounds_toArray, List.set_cons_zero, List.set_cons_succ]
        refine wpAnyH_take (i := 1) (oi := ⟨some 22, .fieldAddr 41 (.tmp 1) 4, 0, "ref.go:119", #[], none⟩) (v := ?_) rfl (by kernel_rfl) (by kernel_rfl) (by kernel_rfl) (fun _ _ _ h => h) (Or.inl ⟨by rfl, ?hyr2x1q4⟩) (by assumption) ?restr2x1q4
        case hyr2x1q4 => intro wq hSw; (go_simp); (try with_reducible rfl)
        try simp only [Act.put, List.setIfInBounds_toArray, List.set_cons_zero, List.set_cons_succ]
        refine wpAnyH_take (i := 2) (oi := ⟨some 23, .load 39 (.tmp 22), 39, "ref.go:119", #[⟨1, .data⟩], none⟩) (v := ?_) rfl (by kernel_rfl) (by kernel_rfl) (by kernel_rfl) (fun _ _ _ h => h) (Or.inl ⟨by rfl, ?hyr2x2q7⟩) (by assumption) ?restr2x2q7
        case hyr2x2q7 => intro wq hSw; (have cq := (BH.out.nx hSw).cell 4 _ rfl; go_simp); (try with_reducible rfl)
        try simp only [Act.put, List.setIfInBounds_toArray, List.set_cons_zero, List.set_cons_succ]
        refine wpAnyH_take (i := 3) (oi := ⟨some 24, .move (.tmp 4), 3, "ref.go:119", #[], none⟩) (v := ?_) rfl (by kernel_rfl) (by kernel_rfl) (by kernel_rfl) (fun _ _ _ h => h) (Or.inl ⟨by rfl, ?hyr2x3q10⟩) (by assumption) ?restr2x3q10
        case hyr2x3q10 => intro wq hSw; (go_simp); (try with_reducible rfl)
        try simp only [Act.put, List.setIfInBounds_toArray, List.set_cons_zero, List.set_cons_succ]
        refine wpAnyH_take (i := 4) (oi := ⟨some 25, .indexAddr 39 (.tmp 23) (.tmp 24), 0, "ref.go:119", #[⟨2, .data⟩, ⟨3, .data⟩], none⟩) (v := ?_) rfl (by kernel_rfl) (by kernel_rfl) (by kernel_rfl) (fun _ _ _ h => h) (Or.inl ⟨by rfl, ?hyr2x4q13⟩) (by assumption) ?restr2x4q13
        case hyr2x4q13 => intro wq hSw; (go_simp); (try with_reducible rfl)
        try simp only [Act.put, List.setIfInBounds_toArray, List.set_cons_zero, List.set_cons_succ]
        refine wpAnyH_take (i := 5) (oi := ⟨some 26, .fieldAddr 77 (.tmp 25) 0, 0, "ref.go:119", #[⟨4, .data⟩], none⟩) (v := ?_) rfl (by kernel_rfl) (by kernel_rfl) (by kernel_rfl) (fun _ _ _ h => h) (Or.inl ⟨by rfl, ?hyr2x5q16⟩) (by assumption) ?restr2x5q16
        case hyr2x5q16 => intro wq hSw; (go_simp); (try with_reducible rfl)
        try simp only [Act.put, List.setIfInBounds_toArray, List.set_cons_zero, List.set_cons_succ]
        refine wpAnyH_take (i := 6) (oi := ⟨some 27, .load 3 (.tmp 26), 3, "ref.go:119", #[⟨5, .data⟩], none⟩) (v := ?_) rfl (by kernel_rfl) (by kernel_rfl) (by kernel_rfl) (fun _ _ _ h => h) (Or.inl ⟨by rfl, ?hyr2x6q19⟩) (by assumption) ?restr2x6q19
        case hyr2x6q19 => intro wq hSw; ((obtain ⟨q0, q1, q2, q3⟩ := E.out _ hSw); go_simp); (try with_reducible rfl)
        try simp only [Act.put, List.setIfInBounds_toArray, List.set_cons_zero, List.set_cons_succ]
        refine wpAnyH_take (i := 7) (oi := ⟨some 28, .fieldAddr 41 (.tmp 1) 4, 0, "ref.go:119", #[], none⟩) (v := ?_) rfl (by kernel_rfl) (by kernel_rfl) (by kernel_rfl) (fun _ _ _ h => h) (Or.inl ⟨by rfl, ?hyr2x7q22⟩) (by assumption) ?restr2x7q22
        case hyr2x7q22 => intro wq hSw; (go_simp); (try with_reducible rfl)
        try simp only [Act.put, List.setIfInBounds_toArray, List.set_cons_zero, List.set_cons_succ]
        refine wpAnyH_take (i := 8) (oi := ⟨some 29, .load 39 (.tmp 28), 39, "ref.go:119", #[⟨7, .data⟩], none⟩) (v := ?_) rfl (by kernel_rfl) (by kernel_rfl) (by kernel_rfl) (fun _ _ _ h => h) (Or.inl ⟨by rfl, ?hyr2x8q25⟩) (by assumption) ?restr2x8q25
        case hyr2x8q25 => intro wq hSw; (have cq := (BH.out.nx hSw).cell 4 _ rfl; go_simp); (try with_reducible rfl)
        try simp only [Act.put, List.setIfInBounds_toArray, List.set_cons_zero, List.set_cons_succ]
        refine wpAnyH_take (i := 9) (oi := ⟨some 30, .move (.tmp 4), 3, "ref.go:119", #[], none⟩) (v := ?_) rfl (by kernel_rfl) (by kernel_rfl) (by kernel_rfl) (fun _ _ _ h => h) (Or.inl ⟨by rfl, ?hyr2x9q28⟩) (by assumption) ?restr2x9q28
        case hyr2x9q28 => intro wq hSw; (go_simp); (try with_reducible rfl)
        try simp only [Act.put, List.setIfInBounds_toArray, List.set_cons_zero, List.set_cons_succ]
        refine wpAnyH_take (i := 10) (oi := ⟨some 31, .indexAddr 39 (.tmp 29) (.tmp 30), 0, "ref.go:119", #[⟨8, .data⟩, ⟨9, .data⟩], none⟩) (v := ?_) rfl (by kernel_rfl) (by kernel_rfl) (by kernel_rfl) (fun _ _ _ h => h) (Or.inl ⟨by rfl, ?hyr2x10q31⟩) (by assumption) ?restr2x10q31
        case hyr2x10q31 => intro wq hSw; (go_simp); (try with_reducible rfl)
        try simp only [Act.put, List.setIfInBounds_toArray, List.set_cons_zero, List.set_cons_succ]
        refine wpAnyH_take (i := 11) (oi := ⟨some 32, .fieldAddr 77 (.tmp 31) 1, 0, "ref.go:119", #[⟨10, .data⟩], none⟩) (v := ?_) rfl (by kernel_rfl) (by kernel_rfl) (by kernel_rfl) (fun _ _ _ h => h) (Or.inl ⟨by rfl, ?hyr2x11q34⟩) (by assumption) ?restr2x11q34
        case hyr2x11q34 => intro wq hSw; (go_simp); (try with_reducible rfl)
        try simp only [Act.put, List.setIfInBounds_toArray, List.set_cons_zero, List.set_cons_succ]
        refine wpAnyH_take (i := 12) (oi := ⟨some 33, .load 3 (.tmp 32), 3, "ref.go:119", #[⟨11, .data⟩], none⟩) (v := ?_) rfl (by kernel_rfl) (by kernel_rfl) (by kernel_rfl) (fun _ _ _ h => h) (Or.inl ⟨by rfl, ?hyr2x12q37⟩) (by assumption) ?restr2x12q37
        case hyr2x12q37 => intro wq hSw; ((obtain ⟨q0, q1, q2, q3⟩ := E.out _ hSw); go_simp); (try with_reducible rfl)
        try simp only [Act.put, List.setIfInBounds_toArray, List.set_cons_zero, List.set_cons_succ]
        refine wpAnyH_take (i := 13) (oi := ⟨some 34, .fieldAddr 41 (.tmp 1) 4, 0, "ref.go:119", #[], none⟩) (v := ?_) rfl (by kernel_rfl) (by kernel_rfl) (by kernel_rfl) (fun _ _ _ h => h) (Or.inl ⟨by rfl, ?hyr2x13q40⟩) (by assumption) ?restr2x13q40
        case hyr2x13q40 => intro wq hSw; (go_simp); (try with_reducible rfl)
        try simp only [Act.put, List.setIfInBounds_toArray, List.set_cons_zero, List.set_cons_succ]
        refine wpAnyH_take (i := 14) (oi := ⟨some 35, .load 39 (.tmp 34), 39, "ref.go:119", #[⟨13, .data⟩], none⟩) (v := ?_) rfl (by kernel_rfl) (by kernel_rfl) (by kernel_rfl) (fun _ _ _ h => h) (Or.inl ⟨by rfl, ?hyr2x14q43⟩) (by assumption) ?restr2x14q43
        case hyr2x14q43 => intro wq hSw; (have cq := (BH.out.nx hSw).cell 4 _ rfl; go_simp); (try with_reducible rfl)
        try simp only [Act.put, List.setIfInBounds_toArray, List.set_cons_zero, List.set_cons_succ]
        refine wpAnyH_take (i := 15) (oi := ⟨some 36, .move (.tmp 4), 3, "ref.go:119", #[], none⟩) (v := ?_) rfl (by kernel_rfl) (by kernel_rfl) (by kernel_rfl) (fun _ _ _ h => h) (Or.inl ⟨by rfl, ?hyr2x15q46⟩) (by assumption) ?restr2x15q46
        case hyr2x15q46 => intro wq hSw; (go_simp); (try with_reducible rfl)
        try simp only [Act.put, List.setIfInBounds_toArray, List.set_cons_zero, List.set_cons_succ]
        refine wpAnyH_take (i := 16) (oi := ⟨some 37, .indexAddr 39 (.tmp 35) (.tmp 36), 0, "ref.go:119", #[⟨14, .data⟩, ⟨15, .data⟩], none⟩) (v := ?_) rfl (by kernel_rfl) (by kernel_rfl) (by kernel_rfl) (fun _ _ _ h => h) (Or.inl ⟨by rfl, ?hyr2x16q49⟩) (by assumption) ?restr2x16q49
        case hyr2x16q49 => intro wq hSw; (go_simp); (try with_reducible rfl)
        try simp only [Act.put, List.setIfInBounds_toArray, List.set_cons_zero, List.set_cons_succ]
        refine wpAnyH_take (i := 17) (oi := ⟨some 38, .fieldAddr 77 (.tmp 37) 2, 0, "ref.go:119", #[⟨16, .data⟩], none⟩) (v := ?_) rfl (by kernel_rfl) (by kernel_rfl) (by kernel_rfl) (fun _ _ _ h => h) (Or.inl ⟨by rfl, ?hyr2x17q52⟩) (by assumption) ?restr2x17q52
        case hyr2x17q52 => intro wq hSw; (go_simp); (try with_reducible rfl)
        try simp only [Act.put, List.setIfInBounds_toArray, List.set_cons_zero, List.set_cons_succ]
        refine wpAnyH_take (i := 18) (oi := ⟨some 39, .load 3 (.tmp 38), 3, "ref.go:119", #[⟨17, .data⟩], none⟩) (v := ?_) rfl (by kernel_rfl) (by kernel_rfl) (by kernel_rfl) (fun _ _ _ h => h) (Or.inl ⟨by rfl, ?hyr2x18q55⟩) (by assumption) ?restr2x18q55
        case hyr2x18q55 => intro wq hSw; ((obtain ⟨q0, q1, q2, q3⟩ := E.out _ hSw); go_simp); (try with_reducible rfl)
        try simp only [Act.put, List.setIfInBounds_toArray, List.set_cons_zero, List.set_cons_succ]
        refine wpAnyH_take (i := 19) (oi := ⟨some 40, .fieldAddr 41 (.tmp 1) 4, 0, "ref.go:119", #[], none⟩) (v := ?_) rfl (by kernel_rfl) (by kernel_rfl) (by kernel_rfl) (fun _ _ _ h => h) (Or.inl ⟨by rfl, ?hyr2x19q58⟩) (by assumption) ?restr2x19q58
        case hyr2x19q58 => intro wq hSw; (go_simp); (try with_reducible rfl)
        try simp only [Act.put, List.setIfInBounds_toArray, List.set_cons_zero, List.set_cons_succ]
        refine wpAnyH_take (i := 20) (oi := ⟨some 41, .load 39 (.tmp 40), 39, "ref.go:119", #[⟨19, .data⟩], none⟩) (v := ?_) rfl (by kernel_rfl) (by kernel_rfl) (by kernel_rfl) (fun _ _ _ h => h) (Or.inl ⟨by rfl, ?hyr2x20q61⟩) (by assumption) ?restr2x20q61
        case hyr2x20q61 => intro wq hSw; (have cq := (BH.out.nx hSw).cell 4 _ rfl; go_simp); (try with_reducible rfl)
        try simp only [Act.put, List.setIfInBounds_toArray, List.set_cons_zero, List.set_cons_succ]
        refine wpAnyH_take (i := 21) (oi := ⟨some 42, .move (.tmp 4), 3, "ref.go:119", #[], none⟩) (v := ?_) rfl (by kernel_rfl) (by kernel_rfl) (by kernel_rfl) (fun _ _ _ h => h) (Or.inl ⟨by rfl, ?hyr2x21q64⟩) (by assumption) ?restr2x21q64
        case hyr2x21q64 => intro wq hSw; (go_simp); (try with_reducible rfl)
        try simp only [Act.put, List.setIfInBounds_toArray, List.set_cons_zero, List.set_cons_succ]
        refine wpAnyH_take (i := 22) (oi := ⟨some 43, .indexAddr 39 (.tmp 41) (.tmp 42), 0, "ref.go:119", #[⟨20, .data⟩, ⟨21, .data⟩], none⟩) (v := ?_) rfl (by kernel_rfl) (by kernel_rfl) (by kernel_rfl) (fun _ _ _ h => h) (Or.inl ⟨by rfl, ?hyr2x22q67⟩) (by assumption) ?restr2x22q67
        case hyr2x22q67 => intro wq hSw; (go_simp); (try with_reducible rfl)
        try simp only [Act.put, List.setIfInBounds_toArray, List.set_cons_zero, List.set_cons_succ]
        refine wpAnyH_take (i := 23) (oi := ⟨some 44, .fieldAddr 77 (.tmp 43) 3, 0, "ref.go:119", #[⟨22, .data⟩], none⟩) (v := ?_) rfl (by kernel_rfl) (by kernel_rfl) (by kernel_rfl) (fun _ _ _ h => h) (Or.inl ⟨by rfl, ?hyr2x23q70⟩) (by assumption) ?restr2x23q70
        case hyr2x23q70 => intro wq hSw; (go_simp); (try with_reducible rfl)
        try simp only [Act.put, List.setIfInBounds_toArray, List.set_cons_zero, List.set_cons_succ]
        refine wpAnyH_take (i := 24) (oi := ⟨some 45, .load 3 (.tmp 44), 3, "ref.go:119", #[⟨23, .data⟩], none⟩) (v := ?_) rfl (by kernel_rfl) (by kernel_rfl) (by kernel_rfl) (fun _ _ _ h => h) (Or.inl ⟨by rfl, ?hyr2x24q73⟩) (by assumption) ?restr2x24q73
        case hyr2x24q73 => intro wq hSw; ((obtain ⟨q0, q1, q2, q3⟩ := E.out _ hSw); go_simp); (try with_reducible rfl)
        try simp only [Act.put, List.setIfInBounds_toArray, List.set_cons_zero, List.set_cons_succ]
        refine wpAnyH_ready (rs := [25]) (by kernel_rfl) (by simp) ?_
        refine AllReadyH.cons (o := ⟨some 46, .buildSlice 22 4 #[(0, .tmp 27), (1, .tmp 33), (2, .tmp 39), (3, .tmp 45)], 22, "ref.go:119", #[⟨6, .data⟩, ⟨12, .data⟩, ⟨18, .data⟩, ⟨24, .data⟩], none⟩) rfl (fun K hK => ?_) AllReadyH.nil
        go_simp
        obtain ⟨g8, u8, hg8, hu8, L8, k8, j8⟩ := lit4 hHeld y
        replace OWN := Lib.hid (OWN.out.nx k8)
        (first | rw [← hg8, ← hu8] | (rw [show wi.drew.heap.size = wi.heap.size from rfl] at hg8; rw [← hg8, show ∀ o, (wi.alloc o).drew = wi.drew.alloc o from fun _ => rfl, ← hu8]))
        clear hg8 hu8 k8 hHeld
        have hHeld := j8
        clear j8
        refine hK.out _ _ (hHeld) (fun hHeld => ?_)
        clear hK K
        try simp only [Act.put, List.setIfInBounds_toArray, List.set_cons_zero, List.set_cons_succ]
        refine wpAnyH_ready (rs := [26]) (by kernel_rfl) (by simp) ?_
        refine AllReadyH.cons (o := ⟨some 47, .call { callee := .builtin .append, args := #[.tmp 21, .tmp 46], argTypes := #[22, 22] }, 22, "ref.go:119", #[⟨0, .data⟩, ⟨25, .data⟩], none⟩) rfl (fun K hK => ?_) AllReadyH.nil
        rw [if_pos (by rfl)]
        have z0 := Ex.size hHeld
        refine wp_append_rd (enc := encI) _ (.tmp 21) (.tmp 46) 22 rfl w1.heap.size 3 (.int .i64 0) 1 8 Tryd.underlying22 Tryd.infoI6 rfl (by omega) (by omega) _ row OWN.out rfl _ _ 4 4 (nums4 y) L8 (fun h => by cases h) (fun _ => rfl) (by simp [encI, Value.oneCell']) rfl (by omega) (by omega) z0 ?_
        intro v9 w9 own9 ch0 ch1
        have j9 : Ex w1 w9 := Chg.trans hHeld ch1
        clear ch0 ch1 z0 L8 hHeld
        have hHeld := j9
        clear j9
        refine hK.out _ _ (hHeld) (fun hHeld => ?_)
        clear hK K
        try simp only [Act.put, List.setIfInBounds_toArray, List.set_cons_zero, List.set_cons_succ]
        refine wpAnyH_take (i := 27) (oi := ⟨some 3, .assign (.tmp 47), 22, "ref.go:119", #[⟨26, .data⟩, ⟨26, .chain⟩, ⟨0, .phase⟩, ⟨1, .phase⟩, ⟨2, .phase⟩, ⟨3, .phase⟩, ⟨4, .phase⟩, ⟨5, .phase⟩, ⟨6, .phase⟩, ⟨7, .phase⟩, ⟨8, .phase⟩, ⟨9, .phase⟩, ⟨10, .phase⟩, ⟨11, .phase⟩, ⟨12, .phase⟩, ⟨13, .phase⟩, ⟨14, .phase⟩, ⟨15, .phase⟩, ⟨16, .phase⟩, ⟨17, .phase⟩, ⟨18, .phase⟩, ⟨19, .phase⟩, ⟨20, .phase⟩, ⟨21, .phase⟩, ⟨22, .phase⟩, ⟨23, .phase⟩, ⟨24, .phase⟩, ⟨25, .phase⟩, ⟨26, .phase⟩], none⟩) (v := ?_) rfl (by kernel_rfl) (by kernel_rfl) (by kernel_rfl) (fun _ _ _ h => h) (Or.inl ⟨by rfl, ?hyr2x27q101⟩) (by assumption) ?restr2x27q101
        case hyr2x27q101 => intro wq hSw; (go_simp); (try with_reducible rfl)
        try simp only [Act.put, List.setIfInBounds_toArray, List.set_cons_zero, List.set_cons_succ]
        refine wpAnyH_done (by kernel_rfl) ?_ _
        skip
        go_wp2_with fail
        exact ⟨⟨j + 1, by omega, by go_num, by rw [SN.out]; exact own9, hHeld⟩, by simp [intOf]; omega⟩
      · obtain rfl : j = n2 := by omega
        rw [List.take_of_length_le (by omega)] at own
        have own := Lib.hid (own.base hz1)
        have KE := Lib.hid (K1.out.nx ki)
        clear hj hjm ki
        go_wp2_with fail
        go_ret
        exact ⟨_, rfl, by rw [HN.out]; exact own.out, KE.out⟩
end Go.Proofs.YtbnbjiddffihoaaDoor

/- append of a long slice that reads as a list. -/
namespace Go.Proofs.YtbnbjiddffihoaaDoor
open Go.RowKit

/-- append of a whole slice that reads as a list -/
theorem wp_append_rdW {P : Program} {α : Type} {enc : α → List Value} {o : Oper} {a : Act} {K : Act → World → Prop} {Q : Exit → Act → World → Prop} (w0 : World) (s x : Operand) (t : TypeId)
    (ho : o.op = .call { callee := .builtin .append, args := #[s, x], argTypes := #[t, t] })
    (base : Nat) (e : TypeId) (z : Value) (sz bytes : Nat) (ht : P.underlying t = some (.slice e)) (hi : (P.info? e).map (fun i => (i.zero, i.size, i.bytes)) = some (some z, sz, bytes))
    (hzs : z.cells.size = sz) (hsz : 0 < sz) (hby : bytes ≤ 65536)
    (v : Value) (l : List α) (hown : OwnL sz enc e base w0 v l) (hs : a.eval s = v) (S : Nat → Prop) (A : Option Addr) (n c : Nat) (news : List α) (hrd : Rd sz enc S w0 A n news) (hA : A = none → c = 0) (hlen : ∀ y, (enc y).length = sz) (h1 : ∀ y, ∀ u ∈ enc y, u.oneCell' = true)
    (hx : a.eval x = .slice A n c) (hb1 : 0 < bytes) (hmul : (l.length + n) * bytes ≤ 140737488355328) (hbase : base ≤ w0.heap.size)
    (h : ∀ v' w', OwnL sz enc e base w' v' (l ++ news) → Chg (fun k => k < w0.heap.size ∧ ¬ v.ownBlock = some k) w0 w' → Chg (· < base) w0 w' → K (a.put o.dst v') w') :
    o.wp P a w0 K Q := by
  obtain ⟨i, hi, hz0, hz1, hz2⟩ := info_parts hi
  have hlen2 : l.length + n ≤ (l.length + n) * bytes := Nat.le_mul_of_pos_right _ hb1
  have hnl := hrd.1
  cases A with
  | none =>
    have hc := hA rfl
    have hn0 : n = 0 := by
      rcases hrd.2 with h0 | ⟨x, o, e1, _⟩
      · exact h0
      · cases e1
    subst hn0 hc
    have hnews : news = [] := List.eq_nil_of_length_eq_zero hnl
    subst hnews
    refine wp_append_none s x t ho base e i sz ht hi v l.length (l.flatMap enc) hs hown hx ?_
    exact h v w0 (by simpa using hown) (Chg.refl _ _) (Chg.refl _ _)
  | some ad =>
    refine wp_append_own _ s x t ho base e i z sz bytes ht hi hz0 hz1 hz2 hzs hsz v l.length (l.flatMap enc) hs hown ad n c (news.flatMap enc) hx ?_ ?_ ?_ (by unfold maxLen; omega) (by omega) hbase ?_
    · have : ∀ l : List α, (l.flatMap enc).length = l.length * sz := by
        intro l
        induction l with
        | nil => simp
        | cons y r ih => rw [List.flatMap_cons, List.length_append, hlen, ih, List.length_cons, Nat.succ_mul]; omega
      rw [this, hnl]
    · intro j u hu
      have hj := (List.getElem?_eq_some_iff.1 hu).1
      rcases hrd.2 with h0 | ⟨x, o, e1, _, e3⟩
      · subst h0
        have : news = [] := List.eq_nil_of_length_eq_zero hnl
        subst this
        simp at hj
      · cases e1
        rw [Addr.add_lit]
        have hdiv : ∃ y, news[j / sz]? = some y ∧ (enc y)[j % sz]? = some u := by
          clear e3 hmul hlen2 hown h hx hrd
          induction news generalizing j n with
          | nil => simp at hu
          | cons y r ih =>
            rw [List.flatMap_cons] at hu
            by_cases hlt : j < sz
            · rw [List.getElem?_append_left (by rw [hlen]; exact hlt)] at hu
              exact ⟨y, by rw [Nat.div_eq_of_lt hlt]; rfl, by rw [Nat.mod_eq_of_lt hlt]; exact hu⟩
            · rw [List.getElem?_append_right (by rw [hlen]; omega), hlen] at hu
              obtain ⟨y', h1', h2'⟩ := ih (n := n - 1) (j := j - sz) (by simp at hnl; omega) hu (List.getElem?_eq_some_iff.1 hu).1
              have e1 : j / sz = (j - sz) / sz + 1 := by
                rw [Nat.div_eq_sub_div hsz (by omega)]
              have e2 : j % sz = (j - sz) % sz := by
                rw [Nat.mod_eq_sub_mod (by omega)]
              exact ⟨y', by rw [e1]; simpa using h1', by rw [e2]; exact h2'⟩
        obtain ⟨y, hy1, hy2⟩ := hdiv
        have := e3 _ y hy1 _ u hy2
        rw [Nat.add_assoc, Nat.mul_comm, Nat.div_add_mod] at this
        exact this
    · intro u hu
      obtain ⟨y, _, hy⟩ := List.mem_flatMap.1 hu
      exact h1 y u hy
    · intro v' w' hown' hgrow hnil
      have hch : Chg (fun k => k < w0.heap.size ∧ ¬ v.ownBlock = some k) w0 w' := ⟨hgrow.os, hgrow.tape, hgrow.output, hgrow.size, fun k hk => hgrow.block k hk.1 (fun h => hk.2 h.symm)⟩
      refine h v' w' ?_ hch (hch.mono fun k hk => ⟨by omega, fun hv => ?_⟩)
      · unfold OwnL
        simpa [List.flatMap_append, hnl] using hown'
      · have := hown.lt k hv
        omega
end Go.Proofs.YtbnbjiddffihoaaDoor

/- Copies of rows and of peers. -/
namespace Go.Proofs.YtbnbjiddffihoaaDoor
open Go.RowKit

theorem Tryd.infoNr : (Tryd.prog.info? 77).map (fun i => (i.zero, i.size, i.bytes)) = some (some (.agg #[.int .i64 0, .int .i64 0, .int .i64 0, .int .i64 0]), 4, 32) := by kernel_rfl
theorem Tryd.infoPr : (Tryd.prog.info? 41).map (fun i => (i.zero, i.size, i.bytes)) = some (some (.agg #[.int .i64 0, .slice none 0 0, .int .i64 0, .int .i64 0, .slice none 0 0]), 5, 72) := by kernel_rfl
/-- append of a whole slice that reads as a list; the empty one may have any capacity -/
theorem wp_append_rq {P : Program} {α : Type} {enc : α → List Value} {o : Oper} {a : Act} {K : Act → World → Prop} {Q : Exit → Act → World → Prop} (w0 : World) (s x : Operand) (t : TypeId)
    (ho : o.op = .call { callee := .builtin .append, args := #[s, x], argTypes := #[t, t] })
    (base : Nat) (e : TypeId) (z : Value) (sz bytes : Nat) (ht : P.underlying t = some (.slice e)) (hi : (P.info? e).map (fun i => (i.zero, i.size, i.bytes)) = some (some z, sz, bytes))
    (hzs : z.cells.size = sz) (hsz : 0 < sz) (hby : bytes ≤ 65536)
    (v : Value) (l : List α) (hown : OwnL sz enc e base w0 v l) (hs : a.eval s = v) (A : Option Addr) (n c : Nat) (news : List α) (hrd : Sl sz enc w0 A n news) (hlen : ∀ y, (enc y).length = sz) (h1 : ∀ y, ∀ u ∈ enc y, u.oneCell' = true)
    (hx : a.eval x = .slice A n c) (hl : l.length ≤ 100000000) (hn : n ≤ 100000000) (hbase : base ≤ w0.heap.size)
    (h : ∀ v' w', OwnL sz enc e base w' v' (l ++ news) → Chg (fun k => k < w0.heap.size ∧ ¬ v.ownBlock = some k) w0 w' → Chg (· < base) w0 w' → K (a.put o.dst v') w') :
    o.wp P a w0 K Q := by
  by_cases hA : A = none → c = 0
  · exact wp_append_rd w0 s x t ho base e z sz bytes ht hi hzs hsz hby v l hown hs (· < w0.heap.size) A n c news hrd hA hlen h1 hx hl hn hbase h
  · have hAn : A = none := by
      cases A with
      | none => rfl
      | some _ => exact absurd (fun h => by cases h) hA
    subst hAn
    obtain ⟨i, hi, hz0, hz1, hz2⟩ := info_parts hi
    have hn0 : n = 0 := by
      rcases hrd.2 with h0 | ⟨x, o, e1, _⟩
      · exact h0
      · cases e1
    subst hn0
    have hnews : news = [] := List.eq_nil_of_length_eq_zero hrd.1
    subst hnews
    have hrun : (Builtin.append_ #[t, t] o.type #[v, .slice none 0 c]).run P w0 = .ok v w0 := by
      rcases hown.2 with ⟨rfl, _⟩ | ⟨g, cap, cur, rfl, _, _, hnc, _⟩
      · simp [Builtin.append_, run_underlying ht, sizeOf, typeInfo, hi, Builtin.lenOf, Builtin.firstCells, loadCells, loadCellsFrom]
      · simp [Builtin.append_, run_underlying ht, sizeOf, typeInfo, hi, Builtin.lenOf, Builtin.firstCells, hnc, storeCells, loadCells, loadCellsFrom]
    unfold Oper.wp execOp
    simp only [ho, resolve, invoke, builtin, Sem.run_bind, Sem.run_pure, Result.andThen_ok, List.map_toArray, List.map_cons, List.map_nil, hs, hx, hrun]
    exact h v w0 (by simpa using hown) (Chg.refl _ _) (Chg.refl _ _)
theorem wpList_append_rq {P : Program} {α : Type} {enc : α → List Value} {ops : Array Oper} {rest : List Oper} {o : Oper} {a : Act} {Q : Exit → Act → World → Prop} (w0 : World) (hgd : o.guard = none) (s x : Operand) (t : TypeId)
    (ho : o.op = .call { callee := .builtin .append, args := #[s, x], argTypes := #[t, t] })
    (base : Nat) (e : TypeId) (z : Value) (sz bytes : Nat) (ht : P.underlying t = some (.slice e)) (hi : (P.info? e).map (fun i => (i.zero, i.size, i.bytes)) = some (some z, sz, bytes))
    (hzs : z.cells.size = sz) (hsz : 0 < sz) (hby : bytes ≤ 65536)
    (v : Value) (l : List α) (hown : OwnL sz enc e base w0 v l) (hs : a.eval s = v) (A : Option Addr) (n c : Nat) (news : List α) (hrd : Sl sz enc w0 A n news) (hlen : ∀ y, (enc y).length = sz) (h1 : ∀ y, ∀ u ∈ enc y, u.oneCell' = true)
    (hx : a.eval x = .slice A n c) (hl : l.length ≤ 100000000) (hn : n ≤ 100000000) (hbase : base ≤ w0.heap.size)
    (h : ∀ v' w', OwnL sz enc e base w' v' (l ++ news) → Chg (fun k => k < w0.heap.size ∧ ¬ v.ownBlock = some k) w0 w' → Chg (· < base) w0 w' → wpList P ops Q rest (a.put o.dst v') w') :
    wpList P ops Q (o :: rest) a w0 :=
  wpList_plain hgd fun _ hK => wp_append_rq w0 s x t ho base e z sz bytes ht hi hzs hsz hby v l hown hs A n c news hrd hlen h1 hx hl hn hbase fun v' w' h2 h3 h4 => hK _ _ (h v' w' h2 h3 h4)

/-- append of a whole slice that reads as a list; the empty one may have any capacity -/
theorem wp_append_rqW {P : Program} {α : Type} {enc : α → List Value} {o : Oper} {a : Act} {K : Act → World → Prop} {Q : Exit → Act → World → Prop} (w0 : World) (s x : Operand) (t : TypeId)
    (ho : o.op = .call { callee := .builtin .append, args := #[s, x], argTypes := #[t, t] })
    (base : Nat) (e : TypeId) (z : Value) (sz bytes : Nat) (ht : P.underlying t = some (.slice e)) (hi : (P.info? e).map (fun i => (i.zero, i.size, i.bytes)) = some (some z, sz, bytes))
    (hzs : z.cells.size = sz) (hsz : 0 < sz) (hby : bytes ≤ 65536)
    (v : Value) (l : List α) (hown : OwnL sz enc e base w0 v l) (hs : a.eval s = v) (A : Option Addr) (n c : Nat) (news : List α) (hrd : Sl sz enc w0 A n news) (hlen : ∀ y, (enc y).length = sz) (h1 : ∀ y, ∀ u ∈ enc y, u.oneCell' = true)
    (hx : a.eval x = .slice A n c) (hb1 : 0 < bytes) (hmul : (l.length + n) * bytes ≤ 140737488355328) (hbase : base ≤ w0.heap.size)
    (h : ∀ v' w', OwnL sz enc e base w' v' (l ++ news) → Chg (fun k => k < w0.heap.size ∧ ¬ v.ownBlock = some k) w0 w' → Chg (· < base) w0 w' → K (a.put o.dst v') w') :
    o.wp P a w0 K Q := by
  by_cases hA : A = none → c = 0
  · exact wp_append_rdW w0 s x t ho base e z sz bytes ht hi hzs hsz hby v l hown hs (· < w0.heap.size) A n c news hrd hA hlen h1 hx hb1 hmul hbase h
  · have hAn : A = none := by
      cases A with
      | none => rfl
      | some _ => exact absurd (fun h => by cases h) hA
    subst hAn
    obtain ⟨i, hi, hz0, hz1, hz2⟩ := info_parts hi
    have hn0 : n = 0 := by
      rcases hrd.2 with h0 | ⟨x, o, e1, _⟩
      · exact h0
      · cases e1
    subst hn0
    have hnews : news = [] := List.eq_nil_of_length_eq_zero hrd.1
    subst hnews
    have hrun : (Builtin.append_ #[t, t] o.type #[v, .slice none 0 c]).run P w0 = .ok v w0 := by
      rcases hown.2 with ⟨rfl, _⟩ | ⟨g, cap, cur, rfl, _, _, hnc, _⟩
      · simp [Builtin.append_, run_underlying ht, sizeOf, typeInfo, hi, Builtin.lenOf, Builtin.firstCells, loadCells, loadCellsFrom]
      · simp [Builtin.append_, run_underlying ht, sizeOf, typeInfo, hi, Builtin.lenOf, Builtin.firstCells, hnc, storeCells, loadCells, loadCellsFrom]
    unfold Oper.wp execOp
    simp only [ho, resolve, invoke, builtin, Sem.run_bind, Sem.run_pure, Result.andThen_ok, List.map_toArray, List.map_cons, List.map_nil, hs, hx, hrun]
    exact h v w0 (by simpa using hown) (Chg.refl _ _) (Chg.refl _ _)
theorem wpList_append_rqW {P : Program} {α : Type} {enc : α → List Value} {ops : Array Oper} {rest : List Oper} {o : Oper} {a : Act} {Q : Exit → Act → World → Prop} (w0 : World) (hgd : o.guard = none) (s x : Operand) (t : TypeId)
    (ho : o.op = .call { callee := .builtin .append, args := #[s, x], argTypes := #[t, t] })
    (base : Nat) (e : TypeId) (z : Value) (sz bytes : Nat) (ht : P.underlying t = some (.slice e)) (hi : (P.info? e).map (fun i => (i.zero, i.size, i.bytes)) = some (some z, sz, bytes))
    (hzs : z.cells.size = sz) (hsz : 0 < sz) (hby : bytes ≤ 65536)
    (v : Value) (l : List α) (hown : OwnL sz enc e base w0 v l) (hs : a.eval s = v) (A : Option Addr) (n c : Nat) (news : List α) (hrd : Sl sz enc w0 A n news) (hlen : ∀ y, (enc y).length = sz) (h1 : ∀ y, ∀ u ∈ enc y, u.oneCell' = true)
    (hx : a.eval x = .slice A n c) (hb1 : 0 < bytes) (hmul : (l.length + n) * bytes ≤ 140737488355328) (hbase : base ≤ w0.heap.size)
    (h : ∀ v' w', OwnL sz enc e base w' v' (l ++ news) → Chg (fun k => k < w0.heap.size ∧ ¬ v.ownBlock = some k) w0 w' → Chg (· < base) w0 w' → wpList P ops Q rest (a.put o.dst v') w') :
    wpList P ops Q (o :: rest) a w0 :=
  wpList_plain hgd fun _ hK => wp_append_rqW w0 s x t ho base e z sz bytes ht hi hzs hsz hby v l hown hs A n c news hrd hlen h1 hx hb1 hmul hbase fun v' w' h2 h3 h4 => hK _ _ (h v' w' h2 h3 h4)

set_option maxRecDepth 100000 in
set_option maxHeartbeats 2000000 in
theorem clone_i (a : Option Addr) (n c : Nat) (l : List Int) (w : World) (h : Sl 1 encI w a n l) (hn : n ≤ 17592186044416) :
    Calls Tryd.prog 77 #[.slice a n c] w fun e w' => ∃ v, e = .returned v ∧ OwnL 1 encI 3 w.heap.size w' v l ∧ Ex w w' := by
  have HL := Lib.hid h.len
  cases a with
  | none =>
    have hn0 : n = 0 := by
      rcases h.2 with h0 | ⟨x, o, e, _⟩
      · exact h0
      · cases e
    have hl : l = [] := List.eq_nil_of_length_eq_zero (HL.out.trans hn0)
    subst hn0 hl
    clear h HL
    have hq : ∀ w : World, (binOp .eql 22 (.slice none 0 c) (.slice none 0 0)).run Tryd.prog w = .ok (.bool true) w := fun w => Lib.run_eql_slice_nil w 22 3 none 0 c 0 0 Tryd.underlying22
    go_enter Tryd.func77, Tryd.ntmps77
    go_wp2
    go_ret
    exact ⟨_, rfl, OwnL.nil _ _ _ _ _, Ex.refl _⟩
  | some A =>
    have q0 := Ex.new w (.cells #[] 3)
    have h0 := h.nx q0
    have own0 : OwnL 1 encI 3 w.heap.size (w.alloc (.cells #[] 3)) (.slice (some ⟨w.heap.size, 0, none⟩) 0 0) [] := OwnL.empty (Nat.le_refl _) rfl
    clear h
    have hq : ∀ w : World, (binOp .eql 22 (.slice (some A) n c) (.slice none 0 0)).run Tryd.prog w = .ok (.bool false) w := fun w => Lib.run_eql_slice_nil w 22 3 (some A) n c 0 0 Tryd.underlying22
    go_enter Tryd.func77, Tryd.ntmps77
    go_wp2_with (at_builtin; (refine wpList_append_rqW (enc := encI) _ rfl _ _ 22 rfl w.heap.size 3 (.int .i64 0) 1 8 Tryd.underlying22 Tryd.infoI6 rfl (by omega) (by omega) _ [] own0 rfl (some A) n c l h0 (fun _ => rfl) (by simp [encI, Value.oneCell']) rfl (by omega) (by simp; omega) (by simp) ?_); intro v1 w1 own1 hch0 hch1)
    go_ret
    exact ⟨_, rfl, by simpa using own1, Chg.trans q0 hch1⟩
set_option maxRecDepth 100000 in
set_option maxHeartbeats 2000000 in
theorem clone_nr (a : Option Addr) (n c : Nat) (l : List Nr) (w : World) (h : Sl 4 encNr w a n l) (hn : n ≤ 4398046511104) :
    Calls Tryd.prog 95 #[.slice a n c] w fun e w' => ∃ v, e = .returned v ∧ OwnL 4 encNr 77 w.heap.size w' v l ∧ Ex w w' := by
  have HL := Lib.hid h.len
  cases a with
  | none =>
    have hn0 : n = 0 := by
      rcases h.2 with h0 | ⟨x, o, e, _⟩
      · exact h0
      · cases e
    have hl : l = [] := List.eq_nil_of_length_eq_zero (HL.out.trans hn0)
    subst hn0 hl
    clear h HL
    have hq : ∀ w : World, (binOp .eql 39 (.slice none 0 c) (.slice none 0 0)).run Tryd.prog w = .ok (.bool true) w := fun w => Lib.run_eql_slice_nil w 39 77 none 0 c 0 0 Tryd.underlying39
    go_enter Tryd.func95, Tryd.ntmps95
    go_wp2
    go_ret
    exact ⟨_, rfl, OwnL.nil _ _ _ _ _, Ex.refl _⟩
  | some A =>
    have q0 := Ex.new w (.cells #[] 77)
    have h0 := h.nx q0
    have own0 : OwnL 4 encNr 77 w.heap.size (w.alloc (.cells #[] 77)) (.slice (some ⟨w.heap.size, 0, none⟩) 0 0) [] := OwnL.empty (Nat.le_refl _) rfl
    clear h
    have hq : ∀ w : World, (binOp .eql 39 (.slice (some A) n c) (.slice none 0 0)).run Tryd.prog w = .ok (.bool false) w := fun w => Lib.run_eql_slice_nil w 39 77 (some A) n c 0 0 Tryd.underlying39
    go_enter Tryd.func95, Tryd.ntmps95
    go_wp2_with (at_builtin; (refine wpList_append_rqW (enc := encNr) _ rfl _ _ 39 rfl w.heap.size 77 (.agg #[.int .i64 0, .int .i64 0, .int .i64 0, .int .i64 0]) 4 32 Tryd.underlying39 Tryd.infoNr rfl (by omega) (by omega) _ [] own0 rfl (some A) n c l h0 (fun _ => rfl) (by simp [encNr, Value.oneCell']) rfl (by omega) (by simp; omega) (by simp) ?_); intro v1 w1 own1 hch0 hch1)
    go_ret
    exact ⟨_, rfl, by simpa using own1, Chg.trans q0 hch1⟩

/-- a peer whose lists lie in memory made since base -/
def CpPost (p : Pr) (base : Nat) (w : World) (e : Ending) (w' : World) : Prop :=
  ∃ hk hn : Hdr, e = .returned (.agg #[.int .i64 p.id, hk.val, .int .i64 p.left, .int .i64 p.right, hn.val]) ∧ OwnL 1 encI 3 base w' hk.val p.known ∧ OwnL 4 encNr 77 base w' hn.val p.near ∧ Ex w w'
set_option maxRecDepth 100000 in
set_option maxHeartbeats 2000000 in
theorem copypeer_r (p : Pr) (a1 : Option Addr) (n1 c1 : Nat) (a2 : Option Addr) (n2 c2 : Nat) (w : World) (h1 : Sl 1 encI w a1 n1 p.known) (h2 : Sl 4 encNr w a2 n2 p.near) (hn1 : n1 ≤ 17592186044416) (hn2 : n2 ≤ 4398046511104) :
    Calls Tryd.prog 72 #[.agg #[.int .i64 p.id, .slice a1 n1 c1, .int .i64 p.left, .int .i64 p.right, .slice a2 n2 c2]] w (CpPost p w.heap.size w) := by
  have EX := Ex.refl w
  have S1 := Lib.hid h1
  have S2 := Lib.hid h2
  clear h1 h2
  obtain ⟨g1, hg1⟩ : ∃ g1, g1 = w.heap.size := ⟨_, rfl⟩
  obtain ⟨g2, hg2⟩ : ∃ g2, g2 = (w.heap.size + 1) := ⟨_, rfl⟩
  obtain ⟨w1, hw1⟩ : ∃ w1, w1 = ((w.alloc (.cells #[.int .i64 p.id, .slice a1 n1 c1, .int .i64 p.left, .int .i64 p.right, .slice a2 n2 c2] 41)).alloc (.cells #[.int .i64 0, .slice none 0 0, .int .i64 0, .int .i64 0, .slice none 0 0] 41)) := ⟨_, rfl⟩
  have kk : Ex w w1 := by rw [hw1]; exact (((Ex.refl w).alloc (.cells #[.int .i64 p.id, .slice a1 n1 c1, .int .i64 p.left, .int .i64 p.right, .slice a2 n2 c2] 41)).alloc (.cells #[.int .i64 0, .slice none 0 0, .int .i64 0, .int .i64 0, .slice none 0 0] 41))
  have B1 : Blk w1 g1 [.int .i64 p.id, .slice a1 n1 c1, .int .i64 p.left, .int .i64 p.right, .slice a2 n2 c2] 41 := by rw [hw1]; simp only [hg1, hg2]; have hbk := ((Blk.new w [.int .i64 p.id, .slice a1 n1 c1, .int .i64 p.left, .int .i64 p.right, .slice a2 n2 c2] 41).nx (Ex.new _ (.cells #[.int .i64 0, .slice none 0 0, .int .i64 0, .int .i64 0, .slice none 0 0] 41))); simpa using hbk
  have B2 : Blk w1 g2 [.int .i64 0, .slice none 0 0, .int .i64 0, .int .i64 0, .slice none 0 0] 41 := by rw [hw1]; simp only [hg1, hg2]; have hbk := (Blk.new (w.alloc (.cells #[.int .i64 p.id, .slice a1 n1 c1, .int .i64 p.left, .int .i64 p.right, .slice a2 n2 c2] 41)) [.int .i64 0, .slice none 0 0, .int .i64 0, .int .i64 0, .slice none 0 0] 41); simpa using hbk
  have Hw1 := Lib.hid hw1
  have Hg1 := Lib.hid hg1
  have Hg2 := Lib.hid hg2
  replace EX := EX.nx kk
  have hg1' : w.heap.size ≤ g1 := by omega
  have hg2' : w.heap.size ≤ g2 := by omega
  have h12 : ¬ g1 = g2 := by omega
  have h21 : ¬ g2 = g1 := by omega
  clear kk hw1 hg1 hg2
  go_enter Tryd.func72, Tryd.ntmps72
  go_upto_region 1 with fail
  rw [← Hw1.out, ← Hg2.out, ← Hg1.out]
  clear Hw1 Hg2 Hg1
  have hz1 := EX.size
  have q1 := B1.cell 1 _ rfl
  have h1 := S1.out.nx EX
  have own0 : OwnL 1 encI 3 w1.heap.size w1 (.slice none 0 0) [] := OwnL.nil _ _ _ _ _
  go_upto_region 2 with (at_builtin; (refine wpList_append_rqW (enc := encI) w1 rfl (.const (.slice none 0 0)) (.tmp 4) 22 rfl w1.heap.size 3 (.int .i64 0) 1 8 Tryd.underlying22 Tryd.infoI6 rfl (by omega) (by omega) _ [] own0 rfl a1 n1 c1 p.known h1 (fun _ => rfl) (by simp [encI, Value.oneCell']) rfl (by omega) (by simp; omega) (Nat.le_refl _) ?_); intro v1 w2 own1 ch0 ch1; rw [List.nil_append] at own1; obtain ⟨A1, C1, rfl, _, _, _, _⟩ := own1.slf (fun _ => rfl); have f1 := (B1.nx ch1).free 1; have r1 := (B1.nx ch1).cell 1 _ rfl; clear q1)
  have k2 : Ex w1 w2 := ch1
  have L1 := B1.lt
  have L2 := B2.lt
  have k3 : Ex w w2 := EX.nx k2
  obtain ⟨w3, hw3⟩ : ∃ w3, w3 = w2.setCell ⟨g1, 1, none⟩ (.slice A1 p.known.length C1) := ⟨_, rfl⟩
  have k4 : Ex w w3 := by rw [hw3]; exact k3.setNew (p := ⟨g1, 1, none⟩) _ hg1'
  have k5 : Exb g1 w2 w3 := by rw [hw3]; exact (Exb.refl g1 w2).setB (p := ⟨g1, 1, none⟩) _ rfl
  replace B1 : Blk w3 g1 [.int .i64 p.id, .slice A1 p.known.length C1, .int .i64 p.left, .int .i64 p.right, .slice a2 n2 c2] 41 := by rw [hw3]; exact (B1.nx k2).set 1 _
  replace B2 := (B2.nx k2).nxb h21 k5
  replace own1 := own1.nxb L1 k5
  have z3 : w1.heap.size ≤ w3.heap.size := Nat.le_trans k2.size k5.size
  rw [← hw3]
  clear hw3 f1 r1 own0 h1 ch0 ch1 k2 k3 k5
  have q4 := B1.cell 4 _ rfl
  have h2 := S2.out.nx k4
  have own0 : OwnL 4 encNr 77 w3.heap.size w3 (.slice none 0 0) [] := OwnL.nil _ _ _ _ _
  go_upto_region 3 with (at_builtin; (refine wpList_append_rqW (enc := encNr) w3 rfl (.const (.slice none 0 0)) (.tmp 8) 39 rfl w3.heap.size 77 (.agg #[.int .i64 0, .int .i64 0, .int .i64 0, .int .i64 0]) 4 32 Tryd.underlying39 Tryd.infoNr rfl (by omega) (by omega) _ [] own0 rfl a2 n2 c2 p.near h2 (fun _ => rfl) (by simp [encNr, Value.oneCell']) rfl (by omega) (by simp; omega) (Nat.le_refl _) ?_); intro v4 w4 own4 ch0 ch1; rw [List.nil_append] at own4; obtain ⟨A4, C4, rfl, _, _, _, _⟩ := own4.slf (fun _ => rfl); have f1 := (B1.nx ch1).free 4; have r1 := (B1.nx ch1).cell 4 _ rfl; clear q4)
  have k2 : Ex w3 w4 := ch1
  have L3 := B1.lt
  have k6 : Ex w w4 := k4.nx k2
  replace own1 := own1.nx k2
  obtain ⟨w5, hw5⟩ : ∃ w5, w5 = w4.setCell ⟨g1, 4, none⟩ (.slice A4 p.near.length C4) := ⟨_, rfl⟩
  have k7 : Ex w w5 := by rw [hw5]; exact k6.setNew (p := ⟨g1, 4, none⟩) _ hg1'
  have k8 : Exb g1 w4 w5 := by rw [hw5]; exact (Exb.refl g1 w4).setB (p := ⟨g1, 4, none⟩) _ rfl
  replace B1 : Blk w5 g1 [.int .i64 p.id, .slice A1 p.known.length C1, .int .i64 p.left, .int .i64 p.right, .slice A4 p.near.length C4] 41 := by rw [hw5]; exact (B1.nx k2).set 4 _
  replace B2 := (B2.nx k2).nxb h21 k8
  replace own1 := own1.nxb L1 k8
  replace own4 := own4.nxb L3 k8
  rw [← hw5]
  clear hw5 f1 r1 own0 h2 ch0 ch1 k2 k6 k8
  have p0 := B1.cell 0 _ rfl
  have p1 := B1.cell 1 _ rfl
  have p2 := B1.cell 2 _ rfl
  have p3 := B1.cell 3 _ rfl
  have p4 := B1.cell 4 _ rfl
  have q0 := B2.cell 0 _ rfl
  have q1 := B2.cell 1 _ rfl
  have q2 := B2.cell 2 _ rfl
  have q3 := B2.cell 3 _ rfl
  have q4 := B2.cell 4 _ rfl
  have f0 := B2.free 0
  have f1 := B2.free 1
  have f2 := B2.free 2
  have f3 := B2.free 3
  have f4 := B2.free 4
  have KE := Lib.hid (((((k7.setNew (p := ⟨g2, 0, none⟩) (.int .i64 p.id) hg2').setNew (p := ⟨g2, 1, none⟩) (.slice A1 p.known.length C1) hg2').setNew (p := ⟨g2, 2, none⟩) (.int .i64 p.left) hg2').setNew (p := ⟨g2, 3, none⟩) (.int .i64 p.right) hg2').setNew (p := ⟨g2, 4, none⟩) (.slice A4 p.near.length C4) hg2')
  have KB : Exb g2 w5 (((((w5.setCell ⟨g2, 0, none⟩ (.int .i64 p.id)).setCell ⟨g2, 1, none⟩ (.slice A1 p.known.length C1)).setCell ⟨g2, 2, none⟩ (.int .i64 p.left)).setCell ⟨g2, 3, none⟩ (.int .i64 p.right)).setCell ⟨g2, 4, none⟩ (.slice A4 p.near.length C4)) :=
    (((((Exb.refl g2 w5).setB (p := ⟨g2, 0, none⟩) _ rfl).setB (p := ⟨g2, 1, none⟩) _ rfl).setB (p := ⟨g2, 2, none⟩) _ rfl).setB (p := ⟨g2, 3, none⟩) _ rfl).setB (p := ⟨g2, 4, none⟩) _ rfl
  have O1 := Lib.hid ((own1.nxb L2 KB).base hz1)
  have O4 := Lib.hid ((own4.nxb (show g2 < w3.heap.size by omega) KB).base (show w.heap.size ≤ w3.heap.size by omega))
  clear B1 B2 own1 own4 KB k4 k7 EX
  go_wp2_with fail
  refine bodyPost_ret (v := .agg #[.int .i64 p.id, .slice A1 p.known.length C1, .int .i64 p.left, .int .i64 p.right, .slice A4 p.near.length C4]) (by simp [results, Tryd.results72, go_sem, *]) rfl ⟨(A1, p.known.length, C1), (A4, p.near.length, C4), rfl, O1.out, O4.out, KE.out⟩
end Go.Proofs.YtbnbjiddffihoaaDoor
