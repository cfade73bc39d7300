/- Texts for RepairReachesProof, RepairCrashesProof, RepairJoinsProof, RepairCleansProof, RepairRejoinsProof. -/
import Derived.Test.YtofmcalfbpjoeaaGreatDoorRpAll1
import Derived.Test.YtofmcalfbpjoeaaGreatDoorRpAll2
import Derived.Test.YtofmcalfbpjoeaaGreatDoorRpAll3
import Derived.Test.YtofmcalfbpjoeaaGreatDoorRpAll6
import Derived.Test.YtofmcalfbpjoeaaGreatDoorRpAll8
import Derived.Test.YtofmcalfbpjoeaaGreatDoorRpAll10
import Derived.Test.YtofmcalfbpjoeaaGreatDoorRpAll11
import Derived.Test.YtofmcalfbpjoeaaGreatDoorRpAll12
import Derived.Test.YtofmcalfbpjoeaaGreatDoorRpAll13
import Derived.Test.YtofmcalfbpjoeaaGreatDoorRpAll14
import Derived.Test.YtofmcalfbpjoeaaGreatDoorRpAll15
import Derived.Test.YtofmcalfbpjoeaaGreatDoorRpAll16
import Derived.Test.YtofmcalfbpjoeaaGreatDoorRpAll18
import Derived.Test.YtofmcalfbpjoeaaGreatDoorRpAll20
import Derived.Test.YtofmcalfbpjoeaaGreatDoorRpAll22
import Derived.Test.YtofmcalfbpjoeaaGreatDoorRpAll23

namespace Go.Proofs.YtofmcalfbpjoeaaGreatDoor
open Go.RowKit
def DirN (key : List UInt8) (right : Bool) (x y : Nd) : Prop := if right then Op.bytesLess x.key.toList y.key.toList = true ∧ Op.bytesLess key y.key.toList = false else Op.bytesLess y.key.toList x.key.toList = true ∧ Op.bytesLess key y.key.toList = true
def HopsOk (N : List Nd) (key : List UInt8) (right : Bool) (x' : Nd) : Nd → Nat → List Hop → Prop
 | x, _, [] => x = x'
 | x, lev, h :: hs => ∃ (y : Nd) (lev' : Nat), y ∈ N ∧ h = (x.id, y.id, (lev' : Int)) ∧ lev' ≤ lev ∧ DirN key right x y ∧ HopsOk N key right x' y lev' hs
variable {N : List Nd} {L : List Lkd} {key : List UInt8} {right : Bool}
theorem HopsOk.mono {x' : Nd} : ∀ {hs : List Hop} {x : Nd} {lev lev2 : Nat}, HopsOk N key right x' x lev hs → lev ≤ lev2 → HopsOk N key right x' x lev2 hs
 | [], _, _, _, h, _ => h
 | _ :: _, _, _, _, ⟨y, l', h1, h2, h3, h4, h5⟩, hl => ⟨y, l', h1, h2, by omega, h4, h5⟩
theorem HopsOk.len {x' : Nd} : ∀ {hs : List Hop} {x : Nd} {lev : Nat}, HopsOk N key right x' x lev hs → hs.length + bey N right x' ≤ bey N right x
 | [], _, _, h => by rw [← show _ = x' from h]; simp
 | _ :: hs, x, _, ⟨y, l', h1, h2, h3, h4, h5⟩ => by
  have := h5.len
  have hlt : bey N right y < bey N right x := by
   unfold bey
   cases right with
   | true =>
    unfold DirN at h4
    rw [if_pos rfl] at h4
    refine count_lt h1 (fun z hz => ?_) ?_ ?_
    ·rw [if_pos rfl] at hz ⊢; exact bl_trans h4.1 hz
    ·rw [if_pos rfl]; exact h4.1
    ·rw [if_pos rfl]; exact bytesLess_irrefl _
   | false =>
    unfold DirN at h4
    rw [if_neg (by simp)] at h4
    refine count_lt h1 (fun z hz => ?_) ?_ ?_
    ·rw [if_neg (by simp)] at hz ⊢; exact bl_trans hz h4.1
    ·rw [if_neg (by simp)]; exact h4.1
    ·rw [if_neg (by simp)]; exact bytesLess_irrefl _
  simp only [List.length_cons]
  omega
theorem HopsOk.mem {x' : Nd} : ∀ {hs : List Hop} {x : Nd} {lev : Nat}, HopsOk N key right x' x lev hs → x ∈ N → x' ∈ N
 | [], _, _, h, hx => by rw [← show _ = x' from h]; exact hx
 | _ :: _, _, _, ⟨_, _, h1, _, _, _, h5⟩, _ => h5.mem h1
def brkN (x : Nd) (lev : Int) (y : Nd) : Bool := y.id == x.id || sameN x.word y.word (lev + 1)
def runStep (x : Nd) (lev : Int) (s : Nat × Nat) (y : Nd) : Nat × Nat := if brkN x lev y then (s.1, 0) else (max s.1 (s.2 + 1), s.2 + 1)
def runF (x : Nd) (lev : Int) (G : List Nd) : Nat × Nat := G.foldl (runStep x lev) (0, 0)
def runN (l : List Nd) (id lev : Int) : Nat := if checkN l = 0 ∧ (findN l id).2 = true ∧ lvlN lev = true then (runF (findN l id).1 lev (thrG l id lev)).1 else 0
section
variable {x : Nd} {lev : Int}
theorem run_inv : ∀ (G : List Nd) (s : Nat × Nat), s.2 ≤ s.1 → (G.foldl (runStep x lev) s).2 ≤ (G.foldl (runStep x lev) s).1 ∧ s.1 ≤ (G.foldl (runStep x lev) s).1
 | [], s, h => ⟨h, Nat.le_refl _⟩
 | y :: G, s, h => by
  have h1 : (runStep x lev s y).2 ≤ (runStep x lev s y).1 ∧ s.1 ≤ (runStep x lev s y).1 := by
   unfold runStep
   split
   ·exact ⟨Nat.zero_le _, Nat.le_refl _⟩
   ·exact ⟨by show s.2 + 1 ≤ max s.1 (s.2 + 1); omega, by show s.1 ≤ max s.1 (s.2 + 1); omega⟩
  have := run_inv G _ h1.1
  exact ⟨this.1, Nat.le_trans h1.2 this.2⟩
theorem run_q : ∀ (Q : List Nd) (s : Nat × Nat), s.2 ≤ s.1 → (∀ y ∈ Q, brkN x lev y = false) → (Q.foldl (runStep x lev) s).2 = s.2 + Q.length
 | [], s, _, _ => rfl
 | y :: Q, s, h, hQ => by
  have e : runStep x lev s y = (max s.1 (s.2 + 1), s.2 + 1) := by unfold runStep; rw [hQ y (by simp)]; rfl
  show (Q.foldl (runStep x lev) (runStep x lev s y)).2 = _
  rw [e, run_q Q _ (by simp only; omega) (fun z hz => hQ z (by simp [hz]))]
  simp only [List.length_cons]
  omega
theorem run_seg (A Q B : List Nd) (hQ : ∀ y ∈ Q, brkN x lev y = false) : Q.length ≤ (runF x lev (A ++ Q ++ B)).1 := by
 unfold runF
 rw [List.foldl_append, List.foldl_append]
 have h1 := run_inv (x := x) (lev := lev) A (0, 0) (Nat.le_refl _)
 have h2 := run_q Q _ h1.1 hQ
 have h3 := run_inv (x := x) (lev := lev) Q _ h1.1
 have h4 := run_inv (x := x) (lev := lev) B _ h3.1
 omega
end
theorem runN_eq {l : List Nd} (h0 : checkN l = 0) {x : Nd} (hx : x ∈ l) {h : Nat} (hh : h ≤ 16) : runN l x.id h = (runF x h (grpS l h x.word)).1 := by
 have hf := find_in h0 hx
 unfold runN thrG
 rw [hf, if_pos ⟨h0, rfl, by unfold lvlN; simp; omega⟩]
 rfl
def dirL (right : Bool) (G : List Nd) : List Nd := if right then G else G.reverse
def dlt (right : Bool) (a b : Nd) : Bool := if right then Op.bytesLess a.key.toList b.key.toList else Op.bytesLess b.key.toList a.key.toList
def win (right : Bool) (key : List UInt8) (z : Nd) : Bool := if right then !Op.bytesLess key z.key.toList else Op.bytesLess key z.key.toList
theorem dlt_trans {right : Bool} {a b c : Nd} (h1 : dlt right a b = true) (h2 : dlt right b c = true) : dlt right a c = true := by
 cases right with
 | true => exact bl_trans h1 h2
 | false => exact bl_trans h2 h1
theorem dir_asc {right : Bool} {G : List Nd} (h : AscS G) : (dirL right G).Pairwise fun a b => dlt right a b = true := by
 cases right with
 | true => exact List.Pairwise.imp (fun h => h.1) h
 | false => exact List.pairwise_reverse.2 (List.Pairwise.imp (fun h => h.1) h)
theorem dir_mem {right : Bool} {G : List Nd} {y : Nd} : y ∈ dirL right G ↔ y ∈ G := by cases right <;> simp [dirL]
section
variable {N : List Nd} {L : List Lkd} {key : List UInt8} {right : Bool}
def nextW (right : Bool) (key : List UInt8) : List Nd → Option Nd
 | [] => none
 | y :: _ => if win right key y = true then some y else none
theorem nextW_nil (right : Bool) (key : List UInt8) : nextW right key [] = none := rfl
theorem nextW_cons (right : Bool) (key : List UInt8) (y : Nd) (B : List Nd) : nextW right key (y :: B) = if win right key y = true then some y else none := rfl
theorem hop_exact (h0 : checkN N = 0) {x : Nd} {lev : Nat} (hl : lev ≤ 16) (hx : x ∈ N) (hL : atL L x.id lev = (neighN N x.id lev).1) {A B : List Nd} (e : dirL right (grpS N lev x.word) = A ++ x :: B) :
  hopN N L key right x lev = nextW right key B := by
 have hlv : lvlN (lev : Int) = true := by unfold lvlN; simp; omega
 have hm : ∀ y ∈ A ++ x :: B, y ∈ N := fun y hy => (grp_mem.1 (dir_mem.1 (by rw [e]; exact hy))).1
 have ha := dir_asc (right := right) (grp_asc h0 (lev : Int) x.word)
 rw [e] at ha
 have hxB := (List.pairwise_cons.1 (List.pairwise_append.1 ha).2.1).1
 cases right with
 | true =>
  have hn := neigh_split h0 hx hlv (A := A) (B := B) e
  unfold hopN
  rw [if_pos rfl, hL, hn]
  cases B with
  | nil => simp [headI, Nd.zero, find_zero h0, nextW_nil]
  | cons y B =>
   have hy := find_in h0 (hm y (by simp))
   have h1 : Op.bytesLess x.key.toList y.key.toList = true := hxB y (by simp)
   simp only [headI, List.head?_cons, Option.getD_some, hy]
   simp [h1, win, nextW_cons]
 | false =>
  have e' : grpS N lev x.word = B.reverse ++ x :: A.reverse := by
   have := congrArg List.reverse (show (grpS N lev x.word).reverse = A ++ x :: B from e)
   simpa using this
  have hn := neigh_split h0 hx hlv e'
  unfold hopN
  rw [if_neg (by simp), hL, hn]
  cases B with
  | nil => simp [lastI, Nd.zero, find_zero h0, nextW_nil]
  | cons y B =>
   have hy := find_in h0 (hm y (by simp))
   have h1 : Op.bytesLess y.key.toList x.key.toList = true := hxB y (by simp)
   simp only [lastI, List.reverse_cons, List.getLast?_append, List.getLast?_singleton, Option.some_or, Option.getD_some, hy]
   simp [h1, win, nextW_cons]
def CntSt (N : List Nd) (key : List UInt8) (right : Bool) (frm : Nd) (lev : Nat) (x : Nd) (q : Nat) : Prop :=
 ∃ P A Q B, dirL right (grpS N (lev : Int) frm.word) = P ++ x :: B ∧ P ++ [x] = A ++ Q ∧ Q.length = q ∧ (∀ y ∈ Q, brkN frm lev y = false) ∧ (∀ y ∈ B, win right key y = true → brkN frm lev y = false) ∧ (x = frm ∨ dlt right frm x = true)
theorem run_dir (h0 : checkN N = 0) {frm : Nd} (hf : frm ∈ N) {lev : Nat} (hl : lev ≤ 16) {A Q B : List Nd} (e : dirL right (grpS N (lev : Int) frm.word) = A ++ Q ++ B) (hQ : ∀ y ∈ Q, brkN frm lev y = false) : Q.length ≤ runN N frm.id lev := by
 rw [runN_eq h0 hf hl]
 cases right with
 | true =>
  have e : grpS N (lev : Int) frm.word = A ++ Q ++ B := e
  rw [e]; exact run_seg A Q B hQ
 | false =>
  have e' : grpS N (lev : Int) frm.word = B.reverse ++ Q.reverse ++ A.reverse := by
   have := congrArg List.reverse (show (grpS N lev frm.word).reverse = A ++ Q ++ B from e)
   simpa using this
  rw [e', ← List.length_reverse]; exact run_seg _ _ _ (fun y hy => hQ y (by simpa using hy))
theorem CntSt.le (h0 : checkN N = 0) {frm : Nd} (hf : frm ∈ N) {lev : Nat} (hl : lev ≤ 16) {x : Nd} {q : Nat} (h : CntSt N key right frm lev x q) : q ≤ runN N frm.id lev := by
 obtain ⟨P, A, Q, B, e1, e2, rfl, h3, _, _⟩ := h
 refine run_dir (right := right) (A := A) (B := B) h0 hf hl ?_ h3
 rw [e1, ← e2]; simp
theorem CntSt.mem {frm : Nd} {lev : Nat} {x : Nd} {q : Nat} (h : CntSt N key right frm lev x q) : x ∈ N ∧ sameN x.word frm.word lev = true := by
 obtain ⟨P, A, Q, B, e1, _⟩ := h
 exact grp_mem.1 (dir_mem.1 (by rw [e1]; simp))
theorem CntSt.own (hw : ∀ x ∈ N, x.word < 4294967296) {frm : Nd} (hf : frm ∈ N) {lev : Nat} {x : Nd} {q : Nat} (h : CntSt N key right frm lev x q) : grpS N (lev : Int) x.word = grpS N (lev : Int) frm.word :=
 grp_eq hw (hw x h.mem.1) (hw frm hf) h.mem.2
theorem CntSt.step (h0 : checkN N = 0) (hw : ∀ x ∈ N, x.word < 4294967296) {frm : Nd} (hf : frm ∈ N) {lev : Nat} (hl : lev ≤ 16) {x y : Nd} {q : Nat} (h : CntSt N key right frm lev x q) (hL : atL L x.id lev = (neighN N x.id lev).1) (hh : hopN N L key right x lev = some y) :
  CntSt N key right frm lev y (q + 1) := by
 have ho := h.own hw hf
 have hm := h.mem
 obtain ⟨P, A, Q, B, e1, e2, rfl, h3, h4, h5⟩ := h
 rw [hop_exact h0 hl hm.1 hL (by rw [ho]; exact e1)] at hh
 have ha := dir_asc (right := right) (grp_asc h0 (lev : Int) frm.word)
 rw [e1] at ha
 have hxB := (List.pairwise_cons.1 (List.pairwise_append.1 ha).2.1).1
 cases B with
 | nil => cases hh
 | cons z B =>
  rw [nextW_cons] at hh
  split at hh
  ·rename_i hwin
   cases hh
   refine ⟨P ++ [x], A, Q ++ [y], B, by rw [e1]; simp, by rw [e2]; simp, by simp, ?_, fun z hz => h4 z (by simp [hz]), ?_⟩
   ·intro z hz
    rcases List.mem_append.1 hz with h | h
    ·exact h3 z h
    ·have : z = y := by simpa using h
     rw [this]
     exact h4 y (by simp) hwin
   ·have hxy := hxB y (by simp)
    rcases h5 with rfl | h5
    ·exact .inr hxy
    ·exact .inr (dlt_trans h5 hxy)
  ·cases hh
end
section
variable {N : List Nd}
theorem pair_congr {own nb : Int} {lev : Nat} {z1 o1 z2 o2 : Int} (h : (findN N nb).2 = true → z1 = z2 ∧ o1 = o2) : pairB N own nb lev z1 o1 = pairB N own nb lev z2 o2 := by
 unfold pairB
 split
 ·rename_i hf
  rw [(h hf).1, (h hf).2]
 ·rfl
theorem step_congr {st st' : Int → Pr} (h : ∀ x ∈ N, st x.id = st' x.id) (p : Pr) (i : Nat) : stepB N st p i = stepB N st' p i := by
 have hf : ∀ nb, (findN N nb).2 = true → st nb = st' nb := fun nb hb => by
  obtain ⟨m1, m2⟩ := findN_mem hb
  have := h _ m1
  rwa [m2] at this
 have e1 := pair_congr (N := N) (own := p.id) (nb := (linkB N p i).1) (lev := i) (z1 := (nearAt (st (linkB N p i).1) i).1) (o1 := (nearAt (st (linkB N p i).1) i).2.1) (z2 := (nearAt (st' (linkB N p i).1) i).1) (o2 := (nearAt (st' (linkB N p i).1) i).2.1)
  (fun hb => by rw [hf _ hb]; exact ⟨rfl, rfl⟩)
 have e2 := pair_congr (N := N) (own := p.id) (nb := (linkB N p i).2) (lev := i) (z1 := (nearAt (st (linkB N p i).2) i).2.2.1) (o1 := (nearAt (st (linkB N p i).2) i).2.2.2) (z2 := (nearAt (st' (linkB N p i).2) i).2.2.1) (o2 := (nearAt (st' (linkB N p i).2) i).2.2.2)
  (fun hb => by rw [hf _ hb]; exact ⟨rfl, rfl⟩)
 unfold stepB
 rw [e1, e2]
theorem next_congr {st st' : Int → Pr} (h : ∀ x ∈ N, st x.id = st' x.id) (p : Pr) (k : Nat) : nextB N st p k = nextB N st' p k := by
 unfold nextB
 exact List.map_congr_left fun i _ => step_congr h p i
theorem broundN_map {P : List Pr} (h0 : checkN N = 0) {h : Nat} (hh : h ≤ 16) : bRoundN N P (h : Int) = (sortN N).map fun x => { peerN P x.id with near := nextB N (peerN P) (peerN P x.id) h } := by
 unfold bRoundN
 rw [if_pos (by unfold lvlN; simp; omega)]
 have hc : ∀ p, nextB N (peerN (normalN N P)) p h = nextB N (peerN P) p h := fun p => next_congr (fun x hx => normal_peer h0 hx) p h
 simp only [show ((h : Int)).toNat = h by omega, hc]
 unfold normalN
 rw [if_pos h0, List.map_map]
 rfl
def rRoundN (N : List Nd) (P : List Pr) (h : Int) : List Pr := if lvlN h = true then ((roundN N P).zip (bRoundN N P h)).map fun q => { q.1 with near := q.2.near } else []
theorem rround_map {P : List Pr} (h0 : checkN N = 0) {h : Nat} (hh : h ≤ 16) : rRoundN N P (h : Int) = (sortN N).map fun x => { rndP N ((normalN N P).flatMap (introsN N)) (peerN P x.id) with near := nextB N (peerN P) (peerN P x.id) h } := by
 unfold rRoundN
 rw [if_pos (by unfold lvlN; simp; omega), round_map h0, broundN_map h0 hh, List.zip_map', List.map_map]
 rfl
theorem rround_peer {P : List Pr} (h0 : checkN N = 0) {h : Nat} (hh : h ≤ 16) {x : Nd} (hx : x ∈ N) : peerN (rRoundN N P (h : Int)) x.id = { rndP N ((normalN N P).flatMap (introsN N)) (peerN P x.id) with near := nextB N (peerN P) (peerN P x.id) h } := by
 rw [rround_map h0 hh]
 exact peer_map (sort_ids h0) (f := fun x => { rndP N ((normalN N P).flatMap (introsN N)) (peerN P x.id) with near := nextB N (peerN P) (peerN P x.id) h }) (fun x => peer_id P x.id) ((sortN_mem N x).2 hx)
def rRunsN (N : List Nd) (P : List Pr) (h : Int) : Nat → List Pr
 | 0 => P
 | t + 1 => rRoundN N (rRunsN N P h t) h
end
namespace Lab
def joinL (lab : List Nat) (i j : Nat) : List Nat := (lab.set i (min (lab.getD i 0) (lab.getD j 0))).set j (min (lab.getD i 0) (lab.getD j 0))
def stepL (ids : List Int) (lab : List Nat) (q : Int × Int) : List Nat := match ids.findIdx? (· == q.1), ids.findIdx? (· == q.2) with
 | some i, some j => joinL lab i j
 | _, _ => lab
def sweepL (ids : List Int) (E : List (Int × Int)) (lab : List Nat) : List Nat := E.foldl (stepL ids) lab
def labsL (ids : List Int) (E : List (Int × Int)) : Nat → List Nat
 | 0 => List.range ids.length
 | t + 1 => sweepL ids E (labsL ids E t)
def Ed (ids : List Int) (E : List (Int × Int)) (i j : Nat) : Prop := ∃ q ∈ E, ids.findIdx? (· == q.1) = some i ∧ ids.findIdx? (· == q.2) = some j
inductive Cn (ids : List Int) (E : List (Int × Int)) : Nat → Nat → Prop
 | refl (i : Nat) : Cn ids E i i
 | step {i j k : Nat} : Ed ids E i j ∨ Ed ids E j i → Cn ids E j k → Cn ids E i k
variable {ids : List Int} {E : List (Int × Int)}
theorem Cn.trans {i j k : Nat} (h : Cn ids E i j) (g : Cn ids E j k) : Cn ids E i k := by
 induction h with
 | refl _ => exact g
 | step h1 _ ih => exact .step h1 (ih g)
theorem Cn.one {i j : Nat} (h : Ed ids E i j ∨ Ed ids E j i) : Cn ids E i j := .step h (.refl j)
theorem Cn.symm {i j : Nat} (h : Cn ids E i j) : Cn ids E j i := by
 induction h with
 | refl _ => exact .refl _
 | step h1 _ ih => exact ih.trans (.one h1.symm)
theorem ed_lt {i j : Nat} (h : Ed ids E i j) : i < ids.length ∧ j < ids.length := by
 obtain ⟨q, _, h1, h2⟩ := h
 exact ⟨(List.findIdx?_eq_some_iff_getElem.1 h1).1, (List.findIdx?_eq_some_iff_getElem.1 h2).1⟩
theorem set_getD (l : List Nat) (i x k : Nat) (h : i < l.length) : (l.set i x).getD k 0 = if k = i then x else l.getD k 0 := by
 rw [List.getD_eq_getElem?_getD, List.getD_eq_getElem?_getD]
 by_cases hk : k = i
 ·subst hk; rw [if_pos rfl, List.getElem?_set_self h]; rfl
 ·rw [if_neg hk, List.getElem?_set_ne (Ne.symm hk)]
theorem join_getD (lab : List Nat) (i j k : Nat) (hi : i < lab.length) (hj : j < lab.length) : (joinL lab i j).getD k 0 = if k = i ∨ k = j then min (lab.getD i 0) (lab.getD j 0) else lab.getD k 0 := by
 unfold joinL
 rw [set_getD _ _ _ _ (by simp; exact hj), set_getD _ _ _ _ hi]
 by_cases h1 : k = j
 ·rw [if_pos h1, if_pos (.inr h1)]
 ·rw [if_neg h1]
  by_cases h2 : k = i
  ·rw [if_pos h2, if_pos (.inl h2)]
  ·rw [if_neg h2, if_neg (by rintro (h | h); exact h2 h; exact h1 h)]
theorem join_len (lab : List Nat) (i j : Nat) : (joinL lab i j).length = lab.length := by unfold joinL; simp
def Okl (ids : List Int) (E : List (Int × Int)) (lab : List Nat) : Prop := lab.length = ids.length ∧ ∀ i, i < ids.length → lab.getD i 0 ≤ i ∧ Cn ids E i (lab.getD i 0)
def Lel (a b : List Nat) : Prop := ∀ i, b.getD i 0 ≤ a.getD i 0
theorem stepl_ok {lab : List Nat} (h : Okl ids E lab) {q : Int × Int} (hq : q ∈ E) : Okl ids E (stepL ids lab q) ∧ Lel lab (stepL ids lab q) := by
 unfold stepL
 cases h1 : ids.findIdx? (· == q.1) with
 | none => exact ⟨h, fun i => Nat.le_refl _⟩
 | some i =>
  cases h2 : ids.findIdx? (· == q.2) with
  | none => exact ⟨h, fun i => Nat.le_refl _⟩
  | some j =>
   simp only
   have he : Ed ids E i j := ⟨q, hq, h1, h2⟩
   obtain ⟨hi, hj⟩ := ed_lt he
   have li : i < lab.length := by rw [h.1]; exact hi
   have lj : j < lab.length := by rw [h.1]; exact hj
   have ci := h.2 i hi
   have cj := h.2 j hj
   have hij : Cn ids E i j := .one (.inl he)
   refine ⟨⟨by rw [join_len]; exact h.1, fun k hk => ?_⟩, fun k => ?_⟩
   ·rw [join_getD lab i j k li lj]
    by_cases hkk : k = i ∨ k = j
    ·rw [if_pos hkk]
     rcases hkk with rfl | rfl
     ·refine ⟨by omega, ?_⟩
      rcases Nat.le_total (lab.getD k 0) (lab.getD j 0) with h | h
      ·rw [Nat.min_eq_left h]; exact ci.2
      ·rw [Nat.min_eq_right h]; exact hij.trans cj.2
     ·refine ⟨by omega, ?_⟩
      rcases Nat.le_total (lab.getD i 0) (lab.getD k 0) with h | h
      ·rw [Nat.min_eq_left h]; exact hij.symm.trans ci.2
      ·rw [Nat.min_eq_right h]; exact cj.2
    ·rw [if_neg hkk]; exact h.2 k hk
   ·rw [join_getD lab i j k li lj]
    by_cases hkk : k = i ∨ k = j
    ·rw [if_pos hkk]
     rcases hkk with rfl | rfl <;> omega
    ·rw [if_neg hkk]; exact Nat.le_refl _
theorem fold_ok : ∀ (F : List (Int × Int)) (lab : List Nat), (∀ q ∈ F, q ∈ E) → Okl ids E lab → Okl ids E (F.foldl (stepL ids) lab) ∧ Lel lab (F.foldl (stepL ids) lab)
 | [], lab, _, h => ⟨h, fun _ => Nat.le_refl _⟩
 | q :: F, lab, hF, h => by
  obtain ⟨h1, h2⟩ := stepl_ok h (hF q (by simp))
  obtain ⟨h3, h4⟩ := fold_ok F _ (fun r hr => hF r (by simp [hr])) h1
  exact ⟨h3, fun i => Nat.le_trans (h4 i) (h2 i)⟩
theorem labs_ok : ∀ t, Okl ids E (labsL ids E t)
 | 0 => ⟨by simp [labsL], fun i hi => by
   have : (labsL ids E 0).getD i 0 = i := by unfold labsL; rw [List.getD_eq_getElem?_getD, List.getElem?_range hi]; rfl
   rw [this]
   exact ⟨Nat.le_refl _, .refl _⟩⟩
 | t + 1 => (fold_ok E _ (fun _ h => h) (labs_ok t)).1
theorem labs_le (t : Nat) : Lel (labsL ids E t) (labsL ids E (t + 1)) := (fold_ok E _ (fun _ h => h) (labs_ok t)).2
theorem carry {c : Nat} : ∀ (F : List (Int × Int)) (lab : List Nat), (∀ q ∈ F, q ∈ E) → Okl ids E lab → ∀ {q : Int × Int} {i j : Nat}, q ∈ F → ids.findIdx? (· == q.1) = some i → ids.findIdx? (· == q.2) = some j →
  (lab.getD i 0 ≤ c ∨ lab.getD j 0 ≤ c) → (F.foldl (stepL ids) lab).getD i 0 ≤ c ∧ (F.foldl (stepL ids) lab).getD j 0 ≤ c
 | [], _, _, _, _, _, _, hq, _, _, _ => by cases hq
 | r :: F, lab, hF, h, q, i, j, hq, h1, h2, hc => by
  have ho := stepl_ok h (hF r (by simp))
  have hl := (fold_ok F _ (fun r hr => hF r (by simp [hr])) ho.1).2
  show (F.foldl (stepL ids) (stepL ids lab r)).getD i 0 ≤ c ∧ (F.foldl (stepL ids) (stepL ids lab r)).getD j 0 ≤ c
  rcases List.mem_cons.1 hq with rfl | hq
  ·have he : Ed ids E i j := ⟨q, hF q (by simp), h1, h2⟩
   obtain ⟨hi, hj⟩ := ed_lt he
   have li : i < lab.length := by rw [h.1]; exact hi
   have lj : j < lab.length := by rw [h.1]; exact hj
   have e : stepL ids lab q = joinL lab i j := by unfold stepL; rw [h1, h2]
   have gi : (stepL ids lab q).getD i 0 ≤ c := by rw [e, join_getD lab i j i li lj, if_pos (.inl rfl)]; omega
   have gj : (stepL ids lab q).getD j 0 ≤ c := by rw [e, join_getD lab i j j li lj, if_pos (.inr rfl)]; omega
   exact ⟨Nat.le_trans (hl i) gi, Nat.le_trans (hl j) gj⟩
  ·refine carry F _ (fun r hr => hF r (by simp [hr])) ho.1 hq h1 h2 ?_
   rcases hc with hc | hc
   ·exact .inl (Nat.le_trans (ho.2 i) hc)
   ·exact .inr (Nat.le_trans (ho.2 j) hc)
theorem carry_labs {c t i j : Nat} (he : Ed ids E i j ∨ Ed ids E j i) (hc : (labsL ids E t).getD i 0 ≤ c) : (labsL ids E (t + 1)).getD j 0 ≤ c := by
 rcases he with ⟨q, hq, h1, h2⟩ | ⟨q, hq, h1, h2⟩
 ·exact (carry E _ (fun _ h => h) (labs_ok t) hq h1 h2 (.inl hc)).2
 ·exact (carry E _ (fun _ h => h) (labs_ok t) hq h1 h2 (.inr hc)).1
theorem border {P : Nat → Prop} (hdec : ∀ i, P i ∨ ¬ P i) {i j : Nat} (h : Cn ids E i j) : P i → ¬ P j → ∃ u v, (Ed ids E u v ∨ Ed ids E v u) ∧ P u ∧ ¬ P v ∧ Cn ids E i v := by
 induction h with
 | refl _ => intro h1 h2; exact absurd h1 h2
 | step h1 g ih =>
  rename_i i k j
  intro hi hj
  rcases hdec k with hk | hk
  ·obtain ⟨u, v, h2, h3, h4, h5⟩ := ih hk hj
   exact ⟨u, v, h2, h3, h4, (Cn.one h1).trans h5⟩
  ·exact ⟨i, k, h1, hi, hk, .one h1⟩
theorem conv {c : Nat} (hc : c < ids.length) {j : Nat} (hj : j < ids.length) (h : Cn ids E c j) : (labsL ids E ids.length).getD j 0 ≤ c := by
 -- the number of places that bear c or less grows until all of the component do
 have grow : ∀ t, (∀ j, j < ids.length → Cn ids E c j → (labsL ids E t).getD j 0 ≤ c) ∨ t + 1 ≤ ((List.range ids.length).countP fun i => decide ((labsL ids E t).getD i 0 ≤ c)) := by
  intro t
  induction t with
  | zero =>
   right
   refine List.countP_pos_iff.2 ⟨c, by simpa using hc, ?_⟩
   have := ((labs_ok (ids := ids) (E := E) 0).2 c hc).1
   simpa using this
  | succ t ih =>
   rcases ih with h | h
   ·left
    intro j hj hcj
    exact Nat.le_trans (labs_le t j) (h j hj hcj)
   ·by_cases hall : ∀ j, j < ids.length → Cn ids E c j → (labsL ids E t).getD j 0 ≤ c
    ·left
     intro j hj hcj
     exact Nat.le_trans (labs_le t j) (hall j hj hcj)
    ·right
     have hex : ∃ j, j < ids.length ∧ Cn ids E c j ∧ ¬ (labsL ids E t).getD j 0 ≤ c := by
      apply Classical.byContradiction
      intro hno
      exact hall fun j hj hcj => Classical.byContradiction fun hn => hno ⟨j, hj, hcj, hn⟩
     obtain ⟨j, hj, hcj, hn⟩ := hex
     obtain ⟨u, v, he, hu, hv, _⟩ := border (P := fun i => (labsL ids E t).getD i 0 ≤ c) (fun i => Classical.em _) hcj ((labs_ok (ids := ids) (E := E) t).2 c hc).1 hn
     have hvl : v < ids.length := by rcases he with h | h; exact (ed_lt h).2; exact (ed_lt h).1
     have := carry_labs he hu
     have hlt : ((List.range ids.length).countP fun i => decide ((labsL ids E t).getD i 0 ≤ c)) < ((List.range ids.length).countP fun i => decide ((labsL ids E (t + 1)).getD i 0 ≤ c)) :=
      count_lt (y := v) (by simpa using hvl) (fun z hz => by simp only [decide_eq_true_eq] at hz ⊢; exact Nat.le_trans (labs_le t z) hz) (by simpa using this) (by simpa using hv)
     omega
 rcases grow ids.length with g | g
 ·exact g j hj h
 ·have : ((List.range ids.length).countP fun i => decide ((labsL ids E ids.length).getD i 0 ≤ c)) ≤ (List.range ids.length).length := List.countP_le_length
  rw [List.length_range] at this
  omega
end Lab
end Go.Proofs.YtofmcalfbpjoeaaGreatDoor
namespace Go.Proofs.YtofmcalfbpjoeaaGreatDoor
open Go.RowKit Go.Maps
theorem sorted_own {l : List Nd} {base : Nat} {w : World} {v : Value} (h0 : checkN l = 0) (own : OwnL 3 encN 78 base w v (sortN l)) :
  ∃ a c, v = .slice a l.length c ∧ Sl 3 encN w a l.length (sortN l) ∧ l.length ≤ c ∧ c ≤ maxLen := by
 obtain ⟨a, c, e, r, h1, h2, _⟩ := own.rd (fun _ => rfl)
 rw [sortN_length] at e r h1
 exact ⟨a, c, e, r.mono (fun _ hk => hk.2), h1, h2⟩
theorem cont4 (y : Nr) (id : Int) : (nums4 y).contains id = (y.1 == id || y.2.1 == id || y.2.2.1 == id || y.2.2.2 == id) := by
 unfold nums4
 rw [Bool.eq_iff_iff]
 simp only [List.contains_iff_mem, List.mem_cons, List.not_mem_nil, or_false, Bool.or_eq_true, beq_iff_eq]
 omega
set_option maxHeartbeats 1000000 in
theorem names1_p (gx : Nat) (id : Int) (y : Nr) (w : World) (hx : Blk w gx [.int .i64 id] 3) :
  Calls Tryz.prog 151 #[.agg #[.int .i64 y.1, .int .i64 y.2.1, .int .i64 y.2.2.1, .int .i64 y.2.2.2], .pointer (some ⟨gx, 0, none⟩)] w fun e w' => e = .returned (.bool ((nums4 y).contains id)) ∧ Ex w w' := by
 have hg := hx.lt
 have EX := Ex.refl w
 have CN := Lib.hid (cont4 y id)
 have B2 := Blk.new w [.int .i64 y.1, .int .i64 y.2.1, .int .i64 y.2.2.1, .int .i64 y.2.2.2] 75
 have kk := Ex.new w (.cells #[.int .i64 y.1, .int .i64 y.2.1, .int .i64 y.2.2.1, .int .i64 y.2.2.2] 75)
 obtain ⟨w1, hw1⟩ : ∃ w1, w1 = w.alloc (.cells #[.int .i64 y.1, .int .i64 y.2.1, .int .i64 y.2.2.1, .int .i64 y.2.2.2] 75) := ⟨_, rfl⟩
 obtain ⟨g2, hg2⟩ : ∃ g2, g2 = w.heap.size := ⟨_, rfl⟩
 replace B2 : Blk w1 g2 [.int .i64 y.1, .int .i64 y.2.1, .int .i64 y.2.2.1, .int .i64 y.2.2.2] 75 := by rw [hw1, hg2]; exact B2
 rw [← hw1] at kk
 have Hw1 := Lib.hid hw1
 have Hg2 := Lib.hid hg2
 replace hx := hx.nx kk
 replace EX := EX.nx kk
 clear kk hw1 hg2
 go_enter Tryz.func151, Tryz.ntmps151
 go_upto_region 1 with fail
 rw [← Hg2.out, ← Hw1.out]
 clear Hg2 Hw1
 have q0 := hx.cell 0 _ rfl
 have p0 := B2.cell 0 _ rfl
 have p1 := B2.cell 1 _ rfl
 have p2 := B2.cell 2 _ rfl
 have p3 := B2.cell 3 _ rfl
 clear hx B2
 generalize hc1 : (y.1 == id) = c1 at CN
 generalize hc2 : (y.2.1 == id) = c2 at CN
 generalize hc3 : (y.2.2.1 == id) = c3 at CN
 generalize hc4 : (y.2.2.2 == id) = c4 at CN
 cases c1 with
 | true =>
  go_wp2_with fail
  go_ret
  exact ⟨by rw [CN.out]; rfl, EX⟩
 | false =>
  cases c2 with
  | true =>
   go_wp2_with fail
   go_ret
   exact ⟨by rw [CN.out]; rfl, EX⟩
  | false =>
   cases c3 with
   | true =>
    go_wp2_with fail
    go_ret
    exact ⟨by rw [CN.out]; rfl, EX⟩
   | false =>
    go_wp2_with fail
    go_ret
    exact ⟨by rw [CN.out]; rfl, EX⟩
def NmfRel (id : Int) (l : List Nr) (n : Nat) (w : World) (i : Value) (wr : World) : Prop :=
 ∃ k : Nat, k ≤ n ∧ i = .int .i64 k ∧ Ex w wr ∧ ∀ j z, j < k → l[j]? = some z → (nums4 z).contains id = false
set_option maxRecDepth 100000 in
set_option maxHeartbeats 2000000 in
theorem idxf_nr (gx : Nat) (id : Int) (a : Option Addr) (n c : Nat) (l : List Nr) (w : World) (h : Sl 4 encNr w a n l) (hn : n ≤ 4000000000000000000) (hx : Blk w gx [.int .i64 id] 3) :
  Calls Tryz.prog 180 #[.slice a n c, .func (.func 151) #[] #[.pointer (some ⟨gx, 0, none⟩)]] w fun e w' => ∃ r : Int, e = .returned (.int .i64 r) ∧ decide (0 ≤ r) = (l.flatMap nums4).contains id ∧ Ex w w' := by
 have HL := Lib.hid h.len
 have HX := Lib.hid hx
 have hs := Lib.hid h
 have eg : ∀ args w, (callFunc 151 args).run Tryz.prog w = .ok (.enter 151 args) w := enters_of Tryz.func151 (by kernel_rfl) rfl
 clear h hx
 go_enter Tryz.func180, Tryz.ntmps180
 go_wp2
 go_loopw [8] (fun i wr => NmfRel id l n w i wr) (fun i _ => n - (intOf i).toNat)
 case atStart => exact ⟨0, by omega, rfl, Ex.refl _, by intro j z h; omega⟩
 case round =>
  obtain ⟨k, hk, rfl, kw, hno⟩ := hrel
  have HNO := Lib.hid hno
  clear hno
  obtain ⟨wo, rfl⟩ : ∃ wo : World, wo = wr := ⟨_, rfl⟩
  by_cases hlt : k < n
  ·obtain ⟨x1, o1, y, rfl, hx1, hy, hc1⟩ := (hs.out.nx kw).at hlt
   have e0 : wo.cell? ⟨x1, o1 + k * 4, none⟩ = some (.int .i64 y.1) := hc1 0 _ rfl
   have e1 : wo.cell? ⟨x1, o1 + k * 4 + 1, none⟩ = some (.int .i64 y.2.1) := hc1 1 _ rfl
   have e2 : wo.cell? ⟨x1, o1 + k * 4 + 1 + 1, none⟩ = some (.int .i64 y.2.2.1) := by simpa [Nat.add_assoc] using hc1 2 _ rfl
   have e3 : wo.cell? ⟨x1, o1 + k * 4 + 1 + 1 + 1, none⟩ = some (.int .i64 y.2.2.2) := by simpa [Nat.add_assoc] using hc1 3 _ rfl
   have HY := Lib.hid hy
   have HB := Lib.hid (HX.out.nx kw)
   have KW := Lib.hid kw
   clear hc1 hy kw
   go_wp2_with fail
   (with_reducible refine (names1_p gx id y _ HB.out).mono ?_)
   rintro e w2 ⟨rfl, k2⟩
   have K2 := Lib.hid (KW.out.nx k2)
   clear k2 e0 e1 e2 e3
   cases hb : (nums4 y).contains id with
   | true =>
    have HI : Hid ((l.flatMap nums4).contains id = true) := Lib.hid (by
     rw [List.contains_iff_mem, List.mem_flatMap]
     exact ⟨y, List.mem_of_getElem? HY.out, List.contains_iff_mem.1 hb⟩)
    clear hb
    go_wp2_with fail
    go_ret
    exact ⟨_, rfl, by rw [HI.out]; simp, K2.out⟩
   | false =>
    have HB := Lib.hid hb
    clear hb
    go_wp2_with fail
    refine ⟨⟨k + 1, by omega, by go_num, K2.out, fun j z hj hz => ?_⟩, by simp [intOf]; omega⟩
    rcases Nat.lt_or_ge j k with h | h
    ·exact HNO.out j z h hz
    ·obtain rfl : j = k := by omega
     rw [Option.some.inj (hz.symm.trans HY.out)]
     exact HB.out
  ·obtain rfl : k = n := by omega
   have HI : Hid ((l.flatMap nums4).contains id = false) := Lib.hid (by
    rw [Bool.eq_false_iff]
    intro hc
    rw [List.contains_iff_mem, List.mem_flatMap] at hc
    obtain ⟨y, hy, hm⟩ := hc
    obtain ⟨j, hj⟩ := List.mem_iff_getElem?.1 hy
    have := HNO.out j y (by rw [← HL.out]; exact (List.getElem?_eq_some_iff.1 hj).1) hj
    rw [List.contains_iff_mem.2 hm] at this
    cases this)
   have KW := Lib.hid kw
   clear kw hk hlt
   go_wp2_with fail
   go_ret
   exact ⟨-1, rfl, by rw [HI.out]; rfl, KW.out⟩
theorem contf_nr (gx : Nat) (id : Int) (a : Option Addr) (n c : Nat) (l : List Nr) (w : World) (h : Sl 4 encNr w a n l) (hn : n ≤ 4000000000000000000) (hx : Blk w gx [.int .i64 id] 3) :
  Calls Tryz.prog 152 #[.slice a n c, .func (.func 151) #[] #[.pointer (some ⟨gx, 0, none⟩)]] w fun e w' => e = .returned (.bool ((l.flatMap nums4).contains id)) ∧ Ex w w' := by
 go_enter Tryz.func152, Tryz.ntmps152
 go_wp2_with fail
 (with_reducible refine (idxf_nr gx id _ _ _ _ _ h hn hx).mono ?_)
 rintro e w1 ⟨r, rfl, hr, kk⟩
 have HR := Lib.hid hr
 clear h hx hr
 go_wp2_with fail
 go_ret
 exact ⟨by rw [← HR.out]; rfl, kk⟩
theorem cont_nums (p : Pr) (id : Int) : (numsP p).contains id = (p.left == id || p.right == id || p.known.contains id || (p.near.flatMap nums4).contains id) := by
 unfold numsP
 rw [Bool.eq_iff_iff]
 simp only [List.contains_iff_mem, List.mem_append, List.mem_cons, List.not_mem_nil, or_false, Bool.or_eq_true, beq_iff_eq]
 constructor
 ·rintro ((h | h | h) | h)
  ·exact .inl (.inr h)
  ·exact .inl (.inl (.inl h.symm))
  ·exact .inl (.inl (.inr h.symm))
  ·exact .inr h
 ·rintro (((h | h) | h) | h)
  ·exact .inl (.inr (.inl h.symm))
  ·exact .inl (.inr (.inr h.symm))
  ·exact .inl (.inl h)
  ·exact .inr h
set_option maxHeartbeats 2000000 in
theorem names_p (p : Pr) (a1 : Option Addr) (n1 c1 : Nat) (a2 : Option Addr) (n2 c2 : Nat) (id : Int) (w : World) (h1 : Sl 1 encI w a1 n1 p.known) (h2 : Sl 4 encNr w a2 n2 p.near) (hn1 : n1 ≤ 4000000000000000000) (hn2 : n2 ≤ 4000000000000000000) :
  Calls Tryz.prog 97 #[.agg #[.int .i64 p.id, .slice a1 n1 c1, .int .i64 p.left, .int .i64 p.right, .slice a2 n2 c2], .int .i64 id] w fun e w' => e = .returned (.bool ((numsP p).contains id)) ∧ Ex w w' := by
 have EX := Ex.refl w
 have CN := Lib.hid (cont_nums p id)
 obtain ⟨g2, hg2⟩ : ∃ g2, g2 = w.heap.size := ⟨_, rfl⟩
 obtain ⟨g3, hg3⟩ : ∃ g3, g3 = (w.heap.size + 1) := ⟨_, rfl⟩
 obtain ⟨w1, hw1⟩ : ∃ w1, w1 = ((w.alloc (.cells #[.int .i64 p.id, .slice a1 n1 c1, .int .i64 p.left, .int .i64 p.right, .slice a2 n2 c2] 42)).alloc (.cells #[.int .i64 id] 3)) := ⟨_, rfl⟩
 have kk : Ex w w1 := by rw [hw1]; exact (((Ex.refl w).alloc (.cells #[.int .i64 p.id, .slice a1 n1 c1, .int .i64 p.left, .int .i64 p.right, .slice a2 n2 c2] 42)).alloc (.cells #[.int .i64 id] 3))
 have B2 : Blk w1 g2 [.int .i64 p.id, .slice a1 n1 c1, .int .i64 p.left, .int .i64 p.right, .slice a2 n2 c2] 42 := by rw [hw1]; simp only [hg2, hg3]; have hbk := ((Blk.new w [.int .i64 p.id, .slice a1 n1 c1, .int .i64 p.left, .int .i64 p.right, .slice a2 n2 c2] 42).nx (Ex.new _ (.cells #[.int .i64 id] 3))); simpa using hbk
 have B3 : Blk w1 g3 [.int .i64 id] 3 := by rw [hw1]; simp only [hg2, hg3]; have hbk := (Blk.new (w.alloc (.cells #[.int .i64 p.id, .slice a1 n1 c1, .int .i64 p.left, .int .i64 p.right, .slice a2 n2 c2] 42)) [.int .i64 id] 3); simpa using hbk
 have Hw1 := Lib.hid hw1
 have Hg2 := Lib.hid hg2
 have Hg3 := Lib.hid hg3
 replace h1 := h1.nx kk
 replace h2 := h2.nx kk
 replace EX := EX.nx kk
 clear kk hw1 hg2 hg3
 go_enter Tryz.func97, Tryz.ntmps97
 go_upto_region 2 with fail
 rw [← Hw1.out, ← Hg3.out, ← Hg2.out]
 clear Hw1 Hg3 Hg2
 have p1 := B2.cell 1 _ rfl
 have p2 := B2.cell 2 _ rfl
 have p3 := B2.cell 3 _ rfl
 have p4 := B2.cell 4 _ rfl
 have q0 := B3.cell 0 _ rfl
 have S1 := Lib.hid h1
 have S2 := Lib.hid h2
 replace B2 := Lib.hid B2
 replace B3 := Lib.hid B3
 clear h1 h2
 generalize hc1 : (p.left == id) = b1 at CN
 generalize hc2 : (p.right == id) = b2 at CN
 cases b1 with
 | true =>
  go_wp2_with fail
  go_ret
  exact ⟨by rw [CN.out]; rfl, EX⟩
 | false =>
  cases b2 with
  | true =>
   go_wp2_with fail
   go_ret
   exact ⟨by rw [CN.out]; rfl, EX⟩
  | false =>
   go_wp2_with fail
   (with_reducible refine (contains_i _ _ _ _ id _ S1.out hn1).mono ?_)
   rintro e w2 ⟨rfl, kk⟩
   replace EX := EX.nx kk
   generalize hc3 : p.known.contains id = b3 at CN
   have p4 := (B2.out.nx kk).cell 4 _ rfl
   have S2 := Lib.hid (S2.out.nx kk)
   have B3 := Lib.hid (B3.out.nx kk)
   clear kk p1 p2 p3 q0
   cases b3 with
   | true =>
    go_wp2_with fail
    go_ret
    exact ⟨by rw [CN.out]; rfl, EX⟩
   | false =>
    go_wp2_with fail
    (with_reducible refine (contf_nr g3 id _ _ _ _ _ S2.out hn2 B3.out).mono ?_)
    rintro e w3 ⟨rfl, kk⟩
    replace EX := EX.nx kk
    clear kk
    generalize hc4 : (p.near.flatMap nums4).contains id = b4 at CN
    have CN : Hid ((numsP p).contains id = b4) := Lib.hid (by rw [CN.out]; rfl)
    clear p4
    go_wp2_with fail
    go_ret
    exact ⟨by rw [CN.out]; rfl, EX⟩
set_option maxRecDepth 100000 in
set_option maxHeartbeats 4000000 in
theorem refs_p (a : Option Addr) (n c : Nat) (N : List Nd) (p : Pr) (a1 : Option Addr) (n1 c1 : Nat) (a2 : Option Addr) (n2 c2 : Nat) (w : World) (h : Sl 3 encN w a n N) (hn : n ≤ 1000) (hc : n ≤ c) (hm : c ≤ maxLen) (h1 : Sl 1 encI w a1 n1 p.known) (h2 : Sl 4 encNr w a2 n2 p.near) (hn1 : n1 ≤ 4000000000000000000) (hn2 : n2 ≤ 4000000000000000000) :
  Calls Tryz.prog 37 #[.slice a n c, .agg #[.int .i64 p.id, .slice a1 n1 c1, .int .i64 p.left, .int .i64 p.right, .slice a2 n2 c2]] w (OiPost (refsN N p) w) := by
 have HL := Lib.hid h.len
 have EX := Ex.refl w
 have B3 := Blk.new w [.int .i64 p.id, .slice a1 n1 c1, .int .i64 p.left, .int .i64 p.right, .slice a2 n2 c2] 42
 have kk := Ex.new w (.cells #[.int .i64 p.id, .slice a1 n1 c1, .int .i64 p.left, .int .i64 p.right, .slice a2 n2 c2] 42)
 obtain ⟨w1, hw1⟩ : ∃ w1, w1 = w.alloc (.cells #[.int .i64 p.id, .slice a1 n1 c1, .int .i64 p.left, .int .i64 p.right, .slice a2 n2 c2] 42) := ⟨_, rfl⟩
 obtain ⟨g3, hg3⟩ : ∃ g3, g3 = w.heap.size := ⟨_, rfl⟩
 replace B3 : Blk w1 g3 [.int .i64 p.id, .slice a1 n1 c1, .int .i64 p.left, .int .i64 p.right, .slice a2 n2 c2] 42 := by rw [hw1, hg3]; exact B3
 rw [← hw1] at kk
 have Hw1 := Lib.hid hw1
 have Hg3 := Lib.hid hg3
 replace h := h.nx kk
 replace h1 := h1.nx kk
 replace h2 := h2.nx kk
 replace EX := EX.nx kk
 clear kk hw1 hg3
 go_enter Tryz.func37, Tryz.ntmps37
 go_upto_region 1 with fail
 rw [← Hg3.out, ← Hw1.out]
 clear Hg3 Hw1
 go_wp2_with fail
 (with_reducible refine (check_p _ _ _ _ _ h (by omega) hc hm).mono ?_)
 rintro e w2 ⟨rfl, kk⟩
 replace h := h.nx kk
 replace h1 := h1.nx kk
 replace h2 := h2.nx kk
 replace EX := EX.nx kk
 replace B3 := B3.nx kk
 clear kk
 by_cases hck : checkN N = 0
 case neg =>
  have d1 : (checkN N != 0) = true := by simpa using hck
  have E0 : Hid (refsN N p = []) := Lib.hid (by unfold refsN; rw [if_neg hck])
  clear h h1 h2 hck B3
  go_wp2_with fail
  go_ret
  exact ⟨_, rfl, by rw [E0.out]; exact OwnL.nil _ _ _ _ _, EX⟩
 have d1 : (checkN N != 0) = false := by simpa using hck
 have HC := Lib.hid hck
 clear hck
 go_wp2_with fail
 (with_reducible refine (sort_p _ _ _ _ _ h hn).mono ?_)
 rintro e w3 ⟨v, S, rfl, OS, ⟨hp, hsrt⟩, kk⟩
 replace h1 := h1.nx kk
 replace h2 := h2.nx kk
 replace EX := EX.nx kk
 replace B3 := B3.nx kk
 clear kk
 have hSe : S = sortN N := sortN_unique (check_keys HC.out) hp hsrt
 subst hSe
 obtain ⟨a3, c3, rfl, S3, _, _⟩ := sorted_own HC.out OS
 rw [HL.out] at S3 ⊢
 have ES : Hid (refsN N p = ((sortN N).filter (ordP (numsP p) p.id)).map Nd.id) := Lib.hid (by unfold refsN; rw [if_pos HC.out]; rfl)
 generalize sortN N = S at S3 ES
 have HSL := Lib.hid S3.len
 replace S3 := Lib.hid S3
 have S1 := Lib.hid h1
 have S2 := Lib.hid h2
 have K1 := Lib.hid EX
 have hz1 := EX.size
 replace B3 := Lib.hid B3
 clear h h1 h2 OS EX hp hsrt
 go_wp2_with fail
 go_loopw [5, 14] (fun o i wr => OrdRel S (numsP p) p.id w3 o i wr) (fun _ i _ => n - (intOf i).toNat)
 case atStart => exact ⟨0, by omega, rfl, OwnL.nil _ _ _ _ _, Ex.refl _⟩
 case round =>
  obtain ⟨j, hj, rfl, own, ki⟩ := hrel
  obtain ⟨wi, rfl⟩ : ∃ wi : World, wi = wr := ⟨_, rfl⟩
  by_cases hjm : j < n
  ·obtain ⟨x3, o3, y, rfl, hx3, hy, hc3⟩ := (S3.out.nx ki).at hjm
   have e0 : wi.cell? ⟨x3, o3 + j * 3, none⟩ = some (.int .i64 y.id) := hc3 0 _ rfl
   have e1 : wi.cell? ⟨x3, o3 + j * 3 + 1, none⟩ = some (.string y.key) := hc3 1 _ rfl
   have e2 : wi.cell? ⟨x3, o3 + j * 3 + 1 + 1, none⟩ = some (.int .u32 y.word) := by simpa [Nat.add_assoc] using hc3 2 _ rfl
   have SN := Lib.hid (ord_snoc (l := numsP p) (but := p.id) hy)
   have hrl : (((S.take j).filter (ordP (numsP p) p.id)).map Nd.id).length ≤ 1000 := by
    rw [List.length_map]
    have := List.length_filter_le (ordP (numsP p) p.id) (S.take j)
    rw [List.length_take] at this
    omega
   generalize ((S.take j).filter (ordP (numsP p) p.id)).map Nd.id = row at own SN hrl
   have KI := Lib.hid ki
   clear hy hc3 ki
   have B7 := Blk.new wi [.int .i64 y.id, .string y.key, .int .u32 y.word] 78
   have kk := Ex.new wi (.cells #[.int .i64 y.id, .string y.key, .int .u32 y.word] 78)
   obtain ⟨w7, hw7⟩ : ∃ w7, w7 = wi.alloc (.cells #[.int .i64 y.id, .string y.key, .int .u32 y.word] 78) := ⟨_, rfl⟩
   obtain ⟨g7, hg7⟩ : ∃ g7, g7 = wi.heap.size := ⟨_, rfl⟩
   replace B7 : Blk w7 g7 [.int .i64 y.id, .string y.key, .int .u32 y.word] 78 := by rw [hw7, hg7]; exact B7
   rw [← hw7] at kk
   have Hw7 := Lib.hid hw7
   have Hg7 := Lib.hid hg7
   replace own := own.nx kk
   have K7 := Lib.hid (KI.out.nx kk)
   clear kk hw7 hg7
   have Q3 := B3.out.nx K7.out
   go_upto_region 7 with fail
   rw [← Hg7.out, ← Hw7.out]
   clear Hg7 Hw7
   have q0 := B7.cell 0 _ rfl
   have p0 := Q3.cell 0 _ rfl
   clear e0 e1 e2
   by_cases hb : y.id = p.id
   ·have hq : (y.id != p.id) = false := by simp [hb]
    have hq2 : (y.id == p.id) = true := by simp [hb]
    have PF : Hid (ordP (numsP p) p.id y = false) := Lib.hid (by unfold ordP; rw [hq2]; rfl)
    have OWN := Lib.hid own
    clear hb own hq2 B7 Q3
    go_wp2_with fail
    exact ⟨⟨j + 1, by rw [HSL.out]; omega, by go_num, by rw [SN.out, PF.out]; simpa using OWN.out, K7.out⟩, by simp [intOf]; omega⟩
   ·have hq : (y.id != p.id) = true := by simpa using hb
    have hq2 : (y.id == p.id) = false := by simpa using hb
    have PB : Hid (ordP (numsP p) p.id y = (numsP p).contains y.id) := Lib.hid (by unfold ordP; rw [hq2]; rfl)
    have p1 := Q3.cell 1 _ rfl
    have p2 := Q3.cell 2 _ rfl
    have p3 := Q3.cell 3 _ rfl
    have p4 := Q3.cell 4 _ rfl
    clear hb hq2 Q3
    go_wp2_with fail
    (with_reducible refine (names_p p _ _ _ _ _ _ y.id _ (S1.out.nx K7.out) (S2.out.nx K7.out) hn1 hn2).mono ?_)
    rintro e w5 ⟨rfl, kk⟩
    replace own := own.nx kk
    replace B7 := B7.nx kk
    have K5 := Lib.hid (K7.out.nx kk)
    have zb5 := K5.out.size
    have q0 := B7.cell 0 _ rfl
    have OWN := Lib.hid own
    clear kk p0 p1 p2 p3 p4 own B7
    generalize (numsP p).contains y.id = inl at PB ⊢
    generalize y.id = yi at SN q0 hq
    cases inl with
    | false =>
     clear q0 hq
     go_wp2_with fail
     exact ⟨⟨j + 1, by rw [HSL.out]; omega, by go_num, by rw [SN.out, PB.out]; simpa using OWN.out, K5.out⟩, by simp [intOf]; omega⟩
    | true =>
     have own5 := OWN.out
     have hl7 : row.length ≤ 1000000 := by omega
     clear hq
     go_wp2_with (at_builtin; (refine wpList_append_lit (enc := encI) w5 rfl _ _ 22 rfl w3.heap.size 3 (.int .i64 0) 1 8 Tryz.underlying22 Tryz.infoI6 rfl (by omega) (by omega) _ _ own5 rfl (yi : Int) _ rfl rfl (by simp [encI, Value.oneCell']) _ (by simp) rfl hl7 zb5 _ ?_); intro v6 w6 own6 _ ch1 _)
     refine ⟨⟨j + 1, by rw [HSL.out]; omega, by go_num, by rw [SN.out, PB.out]; exact own6, Chg.trans K5.out ch1⟩, by simp [intOf]; omega⟩
  ·obtain rfl : j = n := by have := HSL.out; omega
   rw [List.take_of_length_le (by rw [HSL.out]; exact Nat.le_refl _)] at own
   have own := Lib.hid (own.base hz1)
   have KE := Lib.hid (K1.out.nx ki)
   clear hj hjm ki
   go_wp2_with fail
   go_ret
   exact ⟨_, rfl, by rw [ES.out]; exact own.out, KE.out⟩
theorem Tryz.infoNr : (Tryz.prog.info? 75).map (fun i => (i.zero, i.size, i.bytes)) = some (some (.agg #[.int .i64 0, .int .i64 0, .int .i64 0, .int .i64 0]), 4, 32) := by kernel_rfl
theorem Tryz.infoPr : (Tryz.prog.info? 42).map (fun i => (i.zero, i.size, i.bytes)) = some (some (.agg #[.int .i64 0, .slice none 0 0, .int .i64 0, .int .i64 0, .slice none 0 0]), 5, 72) := by kernel_rfl
theorem wp_append_rqW {P : Program} {α : Type} {enc : α → List Value} {o : Oper} {a : Act} {K : Act → World → Prop} {Q : Exit → Act → World → Prop} (w0 : World) (s x : Operand) (t : TypeId)
  (ho : o.op = .call { callee := .builtin .append, args := #[s, x], argTypes := #[t, t] })
  (base : Nat) (e : TypeId) (z : Value) (sz bytes : Nat) (ht : P.underlying t = some (.slice e)) (hi : (P.info? e).map (fun i => (i.zero, i.size, i.bytes)) = some (some z, sz, bytes))
  (hzs : z.cells.size = sz) (hsz : 0 < sz) (hby : bytes ≤ 65536)
  (v : Value) (l : List α) (hown : OwnL sz enc e base w0 v l) (hs : a.eval s = v) (A : Option Addr) (n c : Nat) (news : List α) (hrd : Sl sz enc w0 A n news) (hlen : ∀ y, (enc y).length = sz) (h1 : ∀ y, ∀ u ∈ enc y, u.oneCell' = true)
  (hx : a.eval x = .slice A n c) (hb1 : 0 < bytes) (hmul : (l.length + n) * bytes ≤ 140737488355328) (hbase : base ≤ w0.heap.size)
  (h : ∀ v' w', OwnL sz enc e base w' v' (l ++ news) → Chg (fun k => k < w0.heap.size ∧ ¬ v.ownBlock = some k) w0 w' → Chg (· < base) w0 w' → K (a.put o.dst v') w') :
  o.wp P a w0 K Q := by
 by_cases hA : A = none → c = 0
 ·exact wp_append_rdW w0 s x t ho base e z sz bytes ht hi hzs hsz hby v l hown hs (· < w0.heap.size) A n c news hrd hA hlen h1 hx hb1 hmul hbase h
 ·have hAn : A = none := by
   cases A with
   | none => rfl
   | some _ => exact absurd (fun h => by cases h) hA
  subst hAn
  obtain ⟨i, hi, hz0, hz1, hz2⟩ := info_parts hi
  have hn0 : n = 0 := by
   rcases hrd.2 with h0 | ⟨x, o, e1, _⟩
   ·exact h0
   ·cases e1
  subst hn0
  have hnews : news = [] := List.eq_nil_of_length_eq_zero hrd.1
  subst hnews
  have hrun : (Builtin.append_ #[t, t] o.type #[v, .slice none 0 c]).run P w0 = .ok v w0 := by
   rcases hown.2 with ⟨rfl, _⟩ | ⟨g, cap, cur, rfl, _, _, hnc, _⟩
   ·simp [Builtin.append_, run_underlying ht, sizeOf, typeInfo, hi, Builtin.lenOf, Builtin.firstCells, loadCells, loadCellsFrom]
   ·simp [Builtin.append_, run_underlying ht, sizeOf, typeInfo, hi, Builtin.lenOf, Builtin.firstCells, hnc, storeCells, loadCells, loadCellsFrom]
  unfold Oper.wp execOp
  simp only [ho, resolve, invoke, builtin, Sem.run_bind, Sem.run_pure, Result.andThen_ok, List.map_toArray, List.map_cons, List.map_nil, hs, hx, hrun]
  exact h v w0 (by simpa using hown) (Chg.refl _ _) (Chg.refl _ _)
theorem wpList_append_rqW {P : Program} {α : Type} {enc : α → List Value} {ops : Array Oper} {rest : List Oper} {o : Oper} {a : Act} {Q : Exit → Act → World → Prop} (w0 : World) (hgd : o.guard = none) (s x : Operand) (t : TypeId)
  (ho : o.op = .call { callee := .builtin .append, args := #[s, x], argTypes := #[t, t] })
  (base : Nat) (e : TypeId) (z : Value) (sz bytes : Nat) (ht : P.underlying t = some (.slice e)) (hi : (P.info? e).map (fun i => (i.zero, i.size, i.bytes)) = some (some z, sz, bytes))
  (hzs : z.cells.size = sz) (hsz : 0 < sz) (hby : bytes ≤ 65536)
  (v : Value) (l : List α) (hown : OwnL sz enc e base w0 v l) (hs : a.eval s = v) (A : Option Addr) (n c : Nat) (news : List α) (hrd : Sl sz enc w0 A n news) (hlen : ∀ y, (enc y).length = sz) (h1 : ∀ y, ∀ u ∈ enc y, u.oneCell' = true)
  (hx : a.eval x = .slice A n c) (hb1 : 0 < bytes) (hmul : (l.length + n) * bytes ≤ 140737488355328) (hbase : base ≤ w0.heap.size)
  (h : ∀ v' w', OwnL sz enc e base w' v' (l ++ news) → Chg (fun k => k < w0.heap.size ∧ ¬ v.ownBlock = some k) w0 w' → Chg (· < base) w0 w' → wpList P ops Q rest (a.put o.dst v') w') :
  wpList P ops Q (o :: rest) a w0 :=
 wpList_plain hgd fun _ hK => wp_append_rqW w0 s x t ho base e z sz bytes ht hi hzs hsz hby v l hown hs A n c news hrd hlen h1 hx hb1 hmul hbase fun v' w' h2 h3 h4 => hK _ _ (h v' w' h2 h3 h4)
set_option maxRecDepth 100000 in
set_option maxHeartbeats 2000000 in
theorem clone_i (a : Option Addr) (n c : Nat) (l : List Int) (w : World) (h : Sl 1 encI w a n l) (hn : n ≤ 17592186044416) :
  Calls Tryz.prog 91 #[.slice a n c] w fun e w' => ∃ v, e = .returned v ∧ OwnL 1 encI 3 w.heap.size w' v l ∧ Ex w w' := by
 have HL := Lib.hid h.len
 cases a with
 | none =>
  have hn0 : n = 0 := by
   rcases h.2 with h0 | ⟨x, o, e, _⟩
   ·exact h0
   ·cases e
  have hl : l = [] := List.eq_nil_of_length_eq_zero (HL.out.trans hn0)
  subst hn0 hl
  clear h HL
  have hq : ∀ w : World, (binOp .eql 22 (.slice none 0 c) (.slice none 0 0)).run Tryz.prog w = .ok (.bool true) w := fun w => Lib.run_eql_slice_nil w 22 3 none 0 c 0 0 Tryz.underlying22
  go_enter Tryz.func91, Tryz.ntmps91
  go_wp2
  go_ret
  exact ⟨_, rfl, OwnL.nil _ _ _ _ _, Ex.refl _⟩
 | some A =>
  have q0 := Ex.new w (.cells #[] 3)
  have h0 := h.nx q0
  have own0 : OwnL 1 encI 3 w.heap.size (w.alloc (.cells #[] 3)) (.slice (some ⟨w.heap.size, 0, none⟩) 0 0) [] := OwnL.empty (Nat.le_refl _) rfl
  clear h
  have hq : ∀ w : World, (binOp .eql 22 (.slice (some A) n c) (.slice none 0 0)).run Tryz.prog w = .ok (.bool false) w := fun w => Lib.run_eql_slice_nil w 22 3 (some A) n c 0 0 Tryz.underlying22
  go_enter Tryz.func91, Tryz.ntmps91
  go_wp2_with (at_builtin; (refine wpList_append_rqW (enc := encI) _ rfl _ _ 22 rfl w.heap.size 3 (.int .i64 0) 1 8 Tryz.underlying22 Tryz.infoI6 rfl (by omega) (by omega) _ [] own0 rfl (some A) n c l h0 (fun _ => rfl) (by simp [encI, Value.oneCell']) rfl (by omega) (by simp; omega) (by simp) ?_); intro v1 w1 own1 hch0 hch1)
  go_ret
  exact ⟨_, rfl, by simpa using own1, Chg.trans q0 hch1⟩
set_option maxRecDepth 100000 in
set_option maxHeartbeats 2000000 in
theorem clone_nr (a : Option Addr) (n c : Nat) (l : List Nr) (w : World) (h : Sl 4 encNr w a n l) (hn : n ≤ 4398046511104) :
  Calls Tryz.prog 92 #[.slice a n c] w fun e w' => ∃ v, e = .returned v ∧ OwnL 4 encNr 75 w.heap.size w' v l ∧ Ex w w' := by
 have HL := Lib.hid h.len
 cases a with
 | none =>
  have hn0 : n = 0 := by
   rcases h.2 with h0 | ⟨x, o, e, _⟩
   ·exact h0
   ·cases e
  have hl : l = [] := List.eq_nil_of_length_eq_zero (HL.out.trans hn0)
  subst hn0 hl
  clear h HL
  have hq : ∀ w : World, (binOp .eql 40 (.slice none 0 c) (.slice none 0 0)).run Tryz.prog w = .ok (.bool true) w := fun w => Lib.run_eql_slice_nil w 40 75 none 0 c 0 0 Tryz.underlying40
  go_enter Tryz.func92, Tryz.ntmps92
  go_wp2
  go_ret
  exact ⟨_, rfl, OwnL.nil _ _ _ _ _, Ex.refl _⟩
 | some A =>
  have q0 := Ex.new w (.cells #[] 75)
  have h0 := h.nx q0
  have own0 : OwnL 4 encNr 75 w.heap.size (w.alloc (.cells #[] 75)) (.slice (some ⟨w.heap.size, 0, none⟩) 0 0) [] := OwnL.empty (Nat.le_refl _) rfl
  clear h
  have hq : ∀ w : World, (binOp .eql 40 (.slice (some A) n c) (.slice none 0 0)).run Tryz.prog w = .ok (.bool false) w := fun w => Lib.run_eql_slice_nil w 40 75 (some A) n c 0 0 Tryz.underlying40
  go_enter Tryz.func92, Tryz.ntmps92
  go_wp2_with (at_builtin; (refine wpList_append_rqW (enc := encNr) _ rfl _ _ 40 rfl w.heap.size 75 (.agg #[.int .i64 0, .int .i64 0, .int .i64 0, .int .i64 0]) 4 32 Tryz.underlying40 Tryz.infoNr rfl (by omega) (by omega) _ [] own0 rfl (some A) n c l h0 (fun _ => rfl) (by simp [encNr, Value.oneCell']) rfl (by omega) (by simp; omega) (by simp) ?_); intro v1 w1 own1 hch0 hch1)
  go_ret
  exact ⟨_, rfl, by simpa using own1, Chg.trans q0 hch1⟩
def Acc (β lo hi : Nat) (w6 wr : World) (o : Value) : Prop := Chg (fun k => k < hi ∧ (k < β ∨ lo ≤ k)) w6 wr ∧ hi ≤ wr.heap.size ∧ ∀ g, o.ownBlock = some g → g < lo ∨ hi ≤ g
theorem Acc.start {β lo hi : Nat} {w : World} {o : Value} (hs : hi ≤ w.heap.size) (ho : ∀ g, o.ownBlock = some g → g < lo ∨ hi ≤ g) : Acc β lo hi w w o := ⟨Chg.refl _ _, hs, ho⟩
theorem Acc.step {β lo hi : Nat} {w6 wr w9 : World} {o o' : Value} (h : Acc β lo hi w6 wr o) (hb : ∀ g, o.ownBlock = some g → β ≤ g) (k : Chg (fun k => k < wr.heap.size ∧ ¬ o.ownBlock = some k) wr w9) (ho : o'.ownBlock = o.ownBlock ∨ ∀ g, o'.ownBlock = some g → wr.heap.size ≤ g) : Acc β lo hi w6 w9 o' := by
 refine ⟨h.1.trans (k.mono fun x hx => ⟨Nat.lt_of_lt_of_le hx.1 h.2.1, fun hv => ?_⟩), Nat.le_trans h.2.1 k.size, fun g hg => ?_⟩
 ·have h1 := hb x hv
  have h2 := h.2.2 x hv
  have h3 := hx.2
  have h4 := hx.1
  omega
 ·rcases ho with h1 | h1
  ·exact h.2.2 g (by rw [← h1]; exact hg)
  ·have := h1 g hg; have := h.2.1; omega
theorem Acc.nx {β lo hi : Nat} {w6 wr w9 : World} {o : Value} (h : Acc β lo hi w6 wr o) (k : Ex wr w9) : Acc β lo hi w6 w9 o :=
 ⟨h.1.trans (Chg.mono k fun x hx => Nat.lt_of_lt_of_le hx.1 h.2.1), Nat.le_trans h.2.1 k.size, h.2.2⟩
theorem Acc.sl {α : Type} {sz n : Nat} {enc : α → List Value} {a : Option Addr} {l : List α} {β : Nat} {w5 w6 wr : World} {o : Value} (h : Acc β w5.heap.size w6.heap.size w6 wr o) (s : Slf sz enc w5 w6 a n l) : Sl sz enc wr a n l :=
 (Rd.chg s h.1 (fun _ hk => ⟨hk.2, .inr hk.1⟩)).mono fun _ hk => Nat.lt_of_lt_of_le hk.2 h.2.1
theorem Acc.ex {w2 w6 wr : World} {lo : Nat} {o : Value} (h : Acc w2.heap.size lo w6.heap.size w6 wr o) (k : Ex w2 w6) : Ex w2 wr :=
 Chg.trans k (Chg.mono h.1 fun _ hk => ⟨Nat.lt_of_lt_of_le hk k.size, .inl hk⟩)
theorem OwnW.blk_lt {α : Type} {sz e base : Nat} {enc : α → List Value} {w : World} {v : Value} {l : List α} (h : OwnW sz enc e base w v l) {g : Nat} (hg : v.ownBlock = some g) : g < w.heap.size := by
 obtain ⟨_, cur, hh⟩ := h.blk hg
 exact heap_lt hh
theorem OwnL.ne_blk {α : Type} {sz e base g' : Nat} {enc : α → List Value} {w : World} {v : Value} {l : List α} {cs : List Value} {ty : TypeId} (h : OwnL sz enc e base w v l) (B : Blk w g' cs ty) (hne : e ≠ ty) {g : Nat} (hg : v.ownBlock = some g) : g ≠ g' := by
 rintro rfl
 obtain ⟨_, cur, hh⟩ := h.blk hg
 exact blk_kind hne hh B
theorem OwnL.put {α : Type} {sz e base g' : Nat} {enc : α → List Value} {w w' : World} {v : Value} {l : List α} {cs : List Value} {ty : TypeId} (h : OwnL sz enc e base w v l) (B : Blk w g' cs ty) (hne : e ≠ ty) (k : Exb g' w w') : OwnL sz enc e base w' v l :=
 h.chg k fun _ hx hv => ⟨hx, h.ne_blk B hne hv⟩
theorem Blk.low {w w' : World} {g B : Nat} {cs : List Value} {ty : TypeId} (h : Blk w g cs ty) (hg : g < B) (k : Chg (· < B) w w') : Blk w' g cs ty := (Chg.block k g hg).trans h
theorem Exb.nxb' {g : Nat} {wk wp wq wz : World} (h : Exb g wk wp) (k : Exb g wp wq) (c : Chg (· < wk.heap.size) wq wz) : Exb g wk wz :=
 Chg.trans (h.nxb k) (Chg.mono c fun _ hk => hk.1)
section
variable {eP eI eN : TypeId} {base : Nat} {w w1 : World} {v : Value} {qs : List PQ} {P : List Pr}
theorem OwnP.upd (h : OwnP eP eI eN base w v qs P) {a : Nat} {q' : PQ} {p' : Pr} {w2 : World} (ha : a < qs.length) (row : OwnW 5 encQ eP base w2 v (qs.set a q')) (hq' : q'.1 = p'.nums)
  (oK : OwnL 1 encI eI base w2 q'.2.1.val p'.known) (oN : OwnL 4 encNr eN base w2 q'.2.2.val p'.near)
  (keep : ∀ (j : Nat) (r : PQ) (d : Pr), j ≠ a → qs[j]? = some r → P[j]? = some d → OwnL 1 encI eI base w2 r.2.1.val d.known ∧ OwnL 4 encNr eN base w2 r.2.2.val d.near)
  (fk : ∀ (j : Nat) (r : PQ) (g : Nat), j ≠ a → qs[j]? = some r → r.2.1.val.ownBlock = some g → ¬ q'.2.1.val.ownBlock = some g)
  (fn : ∀ (j : Nat) (r : PQ) (g : Nat), j ≠ a → qs[j]? = some r → r.2.2.val.ownBlock = some g → ¬ q'.2.2.val.ownBlock = some g) :
  OwnP eP eI eN base w2 v (qs.set a q') (P.set a p') := by
 have hl := h.2.1
 refine ⟨row, by simp [hl], fun j r d hr hd => ?_, fun i j qi qj g hi hj gi gj => ?_, fun i j qi qj g hi hj gi gj => ?_⟩
 ·by_cases hja : j = a
  ·subst hja
   rw [List.getElem?_set_self ha] at hr
   rw [List.getElem?_set_self (by omega)] at hd
   cases hr
   cases hd
   exact ⟨hq', oK, oN⟩
  ·rw [List.getElem?_set_ne (fun h => hja h.symm)] at hr hd
   exact ⟨(h.2.2.1 j r d hr hd).1, keep j r d hja hr hd⟩
 ·by_cases hia : i = a
  ·by_cases hja : j = a
   ·omega
   ·subst hia
    rw [List.getElem?_set_self ha] at hi
    rw [List.getElem?_set_ne (fun h => hja h.symm)] at hj
    cases hi
    exact absurd gi (fk j qj g hja hj gj)
  ·rw [List.getElem?_set_ne (fun h => hia h.symm)] at hi
   by_cases hja : j = a
   ·subst hja
    rw [List.getElem?_set_self ha] at hj
    cases hj
    exact absurd gj (fk i qi g hia hi gi)
   ·rw [List.getElem?_set_ne (fun h => hja h.symm)] at hj
    exact h.2.2.2.1 i j qi qj g hi hj gi gj
 ·by_cases hia : i = a
  ·by_cases hja : j = a
   ·omega
   ·subst hia
    rw [List.getElem?_set_self ha] at hi
    rw [List.getElem?_set_ne (fun h => hja h.symm)] at hj
    cases hi
    exact absurd gi (fn j qj g hja hj gj)
  ·rw [List.getElem?_set_ne (fun h => hia h.symm)] at hi
   by_cases hja : j = a
   ·subst hja
    rw [List.getElem?_set_self ha] at hj
    cases hj
    exact absurd gj (fn i qi g hia hi gi)
   ·rw [List.getElem?_set_ne (fun h => hja h.symm)] at hj
    exact h.2.2.2.2 i j qi qj g hi hj gi gj
theorem set_chg {g o : Nat} (w : World) (u : Value) : Chg (fun k => k < w.heap.size ∧ ¬ k = g) w (w.setCell ⟨g, o, none⟩ u) :=
 (Chg.refl _ w).setCell (p := ⟨g, o, none⟩) u (fun k hk => hk.2)
end
section
variable {eP eI eN : TypeId} {base : Nat} {w : World} {v : Value} {qs : List PQ} {P : List Pr}
theorem OwnP.swapN (hI : eP ≠ eI) (hN : eP ≠ eN) (hIN : eI ≠ eN) {g n cap : Nat} (h : OwnP eP eI eN base w (.slice (some ⟨g, 0, none⟩) n cap) qs P) {a : Nat} {p : Pr} {hk hn hn' : Hdr} {nr : List Nr} (hq : qs[a]? = some (p.nums, hk, hn)) (hp : P[a]? = some p)
  (A : OwnL 4 encNr eN base w hn'.val nr) (fn : ∀ (j : Nat) (r : PQ) (g' : Nat), j ≠ a → qs[j]? = some r → r.2.2.val.ownBlock = some g' → ¬ hn'.val.ownBlock = some g') :
  w.cell? ⟨g, a * 5 + 4, none⟩ = some hn.val ∧ w.frozen? ⟨g, a * 5 + 4, none⟩ = false ∧
   OwnP eP eI eN base (w.setCell ⟨g, a * 5 + 4, none⟩ hn'.val) (.slice (some ⟨g, 0, none⟩) n cap) (qs.set a (p.nums, hk, hn')) (P.set a { p with near := nr }) := by
 obtain ⟨s1, s2, s3⟩ := OwnW.set1 encQ_len h.1 hq (c := 4) (by omega)
 have ch := set_chg (g := g) (o := a * 5 + 4) w hn'.val
 have nN : ∀ (j : Nat) (r : PQ) (d : Pr), qs[j]? = some r → P[j]? = some d → OwnL 4 encNr eN base (w.setCell ⟨g, a * 5 + 4, none⟩ hn'.val) r.2.2.val d.near := fun j r d hr hd =>
  (h.2.2.1 j r d hr hd).2.2.chg ch (fun x hx hv => ⟨hx, fun he => by subst he; exact h.neN hN hr hv rfl⟩)
 have nK : ∀ (j : Nat) (r : PQ) (d : Pr), qs[j]? = some r → P[j]? = some d → OwnL 1 encI eI base (w.setCell ⟨g, a * 5 + 4, none⟩ hn'.val) r.2.1.val d.known := fun j r d hr hd =>
  (h.2.2.1 j r d hr hd).2.1.chg ch (fun x hx hv => ⟨hx, fun he => by subst he; exact h.neI hI hr hv rfl⟩)
 have A2 : OwnL 4 encNr eN base (w.setCell ⟨g, a * 5 + 4, none⟩ hn'.val) hn'.val nr := A.chg ch (fun x hx hv => ⟨hx, fun he => by
  subst he
  obtain ⟨_, c1, h1⟩ := A.blk hv
  obtain ⟨_, c2, h2⟩ := h.1.blk rfl
  exact blk_kind hN h2 h1⟩)
 refine ⟨s1, s2, h.upd (q' := (p.nums, hk, hn')) (p' := { p with near := nr }) (List.getElem?_eq_some_iff.1 hq).1 (s3 _ _ rfl) rfl (show OwnL 1 encI eI base _ hk.val p.known from nK a (p.nums, hk, hn) p hq hp) A2 (fun j r d hj hr hd => ⟨nK j r d hr hd, nN j r d hr hd⟩) (fun j r g' hj hr hg hv => ?_) (fun j r g' hj hr hg hv => fn j r g' hj hr hg hv)⟩
 exact hj (h.2.2.2.1 j a r _ g' hr hq hg hv)
end
def comb (p q : Pr) : Pr := { p with near := q.near }
def mixP (P Q : List Pr) (j : Nat) : List Pr := (List.zipWith comb P Q).take j ++ P.drop j
theorem mixP_zero (P Q : List Pr) : mixP P Q 0 = P := rfl
theorem mixP_len {P Q : List Pr} (h : P.length = Q.length) (j : Nat) : (mixP P Q j).length = P.length := by
 unfold mixP
 rw [List.length_append, List.length_take, List.length_zipWith, List.length_drop]
 omega
theorem mixP_all {P Q : List Pr} (h : P.length = Q.length) : mixP P Q P.length = (P.zip Q).map fun q => { q.1 with near := q.2.near } := by
 unfold mixP
 rw [List.drop_length, List.append_nil, List.take_of_length_le (by rw [List.length_zipWith]; omega), List.zip, List.map_zipWith]
 rfl
theorem mixP_at {P Q : List Pr} (h : P.length = Q.length) {j : Nat} {p : Pr} (hp : P[j]? = some p) : (mixP P Q j)[j]? = some p := by
 have hj := (List.getElem?_eq_some_iff.1 hp).1
 unfold mixP
 rw [List.getElem?_append_right (by rw [List.length_take]; omega), List.length_take, List.length_zipWith, show j - min j (min P.length Q.length) = 0 by omega, List.getElem?_drop, Nat.add_zero]
 exact hp
theorem mixP_set {P Q : List Pr} (h : P.length = Q.length) {j : Nat} {p q : Pr} (hp : P[j]? = some p) (hq : Q[j]? = some q) : (mixP P Q j).set j (comb p q) = mixP P Q (j + 1) := by
 have hj := (List.getElem?_eq_some_iff.1 hp).1
 apply List.ext_getElem?
 intro i
 unfold mixP
 by_cases hij : j = i
 ·subst hij
  rw [List.getElem?_set_self (by rw [List.length_append, List.length_take, List.length_zipWith, List.length_drop]; omega), List.getElem?_append_left (by rw [List.length_take, List.length_zipWith]; omega), List.getElem?_take, if_pos (by omega), List.getElem?_zipWith, hp, hq]
 ·rw [List.getElem?_set_ne hij]
  by_cases hl : i < j
  ·rw [List.getElem?_append_left (by rw [List.length_take, List.length_zipWith]; omega), List.getElem?_append_left (by rw [List.length_take, List.length_zipWith]; omega), List.getElem?_take, List.getElem?_take, if_pos hl, if_pos (by omega)]
  ·rw [List.getElem?_append_right (by rw [List.length_take, List.length_zipWith]; omega), List.getElem?_append_right (by rw [List.length_take, List.length_zipWith]; omega), List.getElem?_drop, List.getElem?_drop, List.length_take, List.length_take, List.length_zipWith]
   congr 1
   omega
def MixQ (S : Nat) (qs2 : List PQ) (j : Nat) (qs : List PQ) : Prop := ∀ (i : Nat) (q : PQ) (g : Nat), qs[i]? = some q → q.2.2.val.ownBlock = some g → g < S ∨ (i < j ∧ ∃ q2, qs2[i]? = some q2 ∧ q2.2.2 = q.2.2)
theorem MixQ.start {eP eI eN : TypeId} {base S : Nat} {w : World} {v : Value} {qs qs2 : List PQ} {P : List Pr} (h : OwnP eP eI eN base w v qs P) (hS : w.heap.size ≤ S) : MixQ S qs2 0 qs := fun i q g hq hg => by
 obtain ⟨p, _, _, _, r3⟩ := h.getp hq
 exact .inl (Nat.lt_of_lt_of_le (r3.lt g hg).2 hS)
theorem MixQ.fn {eP eI eN : TypeId} {S : Nat} {w : World} {v : Value} {qs qs2 : List PQ} {Q : List Pr} {j : Nat} {q2 : PQ} (h : MixQ S qs2 j qs) (h2 : OwnP eP eI eN S w v qs2 Q) (hq2 : qs2[j]? = some q2) :
  ∀ (i : Nat) (r : PQ) (g' : Nat), i ≠ j → qs[i]? = some r → r.2.2.val.ownBlock = some g' → ¬ q2.2.2.val.ownBlock = some g' := fun i r g hij hr hg hv => by
 obtain ⟨p, _, _, _, r3⟩ := h2.getp hq2
 have hS := (r3.lt g hv).1
 rcases h i r g hr hg with h1 | ⟨_, q3, h3, h4⟩
 ·omega
 ·exact hij (h2.2.2.2.2 i j q3 q2 g h3 hq2 (by rw [h4]; exact hg) hv)
theorem MixQ.step {S : Nat} {qs qs2 : List PQ} {j : Nat} {q2 q' : PQ} (h : MixQ S qs2 j qs) (hq2 : qs2[j]? = some q2) (he : q2.2.2 = q'.2.2) : MixQ S qs2 (j + 1) (qs.set j q') := fun i q g hq hg => by
 by_cases hij : j = i
 ·subst hij
  rw [List.getElem?_set] at hq
  simp at hq
  obtain ⟨_, rfl⟩ := hq
  exact .inr ⟨by omega, q2, hq2, he⟩
 ·rw [List.getElem?_set_ne hij] at hq
  rcases h i q g hq hg with h1 | ⟨h1, h2⟩
  ·exact .inl h1
  ·exact .inr ⟨by omega, h2⟩
structure Fl where
 peers : List Pr
 msgs : List (Int × Int)
def nodeB (N : List Nd) (v : Int) : Prop := ∃ x ∈ N, x.id = v
section
variable {N : List Nd} {f : Fl}
end
section
variable {N : List Nd} {f g : Fl}
def DelTo (N : List Nd) (f g : Fl) (D : List (Int × Int)) : Prop :=
 (∀ x ∈ N, (peerN g.peers x.id).left = (peerN f.peers x.id).left ∧ (peerN g.peers x.id).right = (peerN f.peers x.id).right ∧ (peerN g.peers x.id).near = (peerN f.peers x.id).near ∧
  ∀ v, nodeB N v → v ≠ x.id → (v ∈ (peerN g.peers x.id).known ↔ v ∈ (peerN f.peers x.id).known ∨ (x.id, v) ∈ D)) ∧ ∀ m, m ∈ f.msgs ↔ m ∈ g.msgs ∨ m ∈ D
theorem DelTo.refl (N : List Nd) (f : Fl) : DelTo N f f [] := ⟨fun x hx => ⟨rfl, rfl, rfl, fun v _ _ => by simp⟩, fun m => by simp⟩
end
theorem Blk.app {α : Type} {sz e base g : Nat} {enc : α → List Value} {w w' : World} {v : Value} {l : List α} {cs : List Value} {ty : TypeId} (B : Blk w g cs ty) (own : OwnL sz enc e base w v l) (hne : e ≠ ty) (k : Chg (fun k => k < w.heap.size ∧ ¬ v.ownBlock = some k) w w') : Blk w' g cs ty :=
 (Chg.block k g ⟨B.lt, fun hv => own.ne_blk B hne hv rfl⟩).trans B
theorem OwnL.app {α β : Type} {sz sz' e e' base base' : Nat} {enc : α → List Value} {enc' : β → List Value} {w w' : World} {v v' : Value} {l : List α} {l' : List β} (o : OwnL sz enc e base w v l) (own : OwnL sz' enc' e' base' w v' l') (hne : e ≠ e') (k : Chg (fun k => k < w.heap.size ∧ ¬ v'.ownBlock = some k) w w') : OwnL sz enc e base w' v l :=
 o.chg k fun x hx hv => ⟨hx, fun hv' => by
  obtain ⟨_, c1, h1⟩ := o.blk hv
  obtain ⟨_, c2, h2⟩ := own.blk hv'
  exact blk_kind hne h1 h2⟩
theorem OwnL.apart {α β : Type} {sz sz' e e' base base' g : Nat} {enc : α → List Value} {enc' : β → List Value} {w w' : World} {v v' : Value} {l : List α} {l' : List β} (o : OwnL sz enc e base w v l) (own : OwnL sz' enc' e' base' w v' l') (hne : e ≠ e') (hg : v'.ownBlock = some g) (k : Exb g w w') : OwnL sz enc e base w' v l :=
 o.chg k fun x hx hv => ⟨hx, by
  rintro rfl
  obtain ⟨_, c1, h1⟩ := o.blk hv
  obtain ⟨_, c2, h2⟩ := own.blk hg
  exact blk_kind hne h1 h2⟩
end Go.Proofs.YtofmcalfbpjoeaaGreatDoor
