/- Texts for the statement SearchAgreesProof, part 6 of 11: SrE, Run, MapV, RouR, NLb. -/
import Derived.MapKept
import Derived.Test.YtkjlhcfocefhpaaDoorSearchAgreesProofPk1
import Derived.Test.YtkjlhcfocefhpaaDoorSearchAgreesProofPk2
import Derived.Test.YtkjlhcfocefhpaaDoorSearchAgreesProofPk3
import Derived.Test.YtkjlhcfocefhpaaDoorSearchAgreesProofPk4
import Derived.Test.YtkjlhcfocefhpaaDoorSearchAgreesProofPk5

/- Where searches over exact links end, and after how many hops, in plain Lean. -/
namespace Go.Proofs.YtkjlhcfocefhpaaDoor
open Go.RowKit

/-- the owner of a key -/
def ownF (key : List UInt8) (o : Nd) (x : Nd) : Nd := if Op.bytesLess key x.key.toList then o else x
def ownN (l : List Nd) (key : ByteArray) : Nd × Bool := if checkN l = 0 ∧ l.length ≠ 0 ∧ key.size ≤ 64 then ((sortN l).foldl (ownF key.toList) ((sortN l).head?.getD Nd.zero), true) else (Nd.zero, false)

def dirL (right : Bool) (G : List Nd) : List Nd := if right then G else G.reverse
def dlt (right : Bool) (a b : Nd) : Bool := if right then Op.bytesLess a.key.toList b.key.toList else Op.bytesLess b.key.toList a.key.toList
def win (right : Bool) (key : List UInt8) (z : Nd) : Bool := if right then !Op.bytesLess key z.key.toList else Op.bytesLess key z.key.toList
theorem dlt_trans {right : Bool} {a b c : Nd} (h1 : dlt right a b = true) (h2 : dlt right b c = true) : dlt right a c = true := by
  cases right with
  | true => exact bl_trans h1 h2
  | false => exact bl_trans h2 h1
theorem dlt_irrefl {right : Bool} (a : Nd) : dlt right a a = false := by
  cases right <;> exact bytesLess_irrefl _
theorem win_down {right : Bool} {key : List UInt8} {a b : Nd} (h : dlt right a b = true) (hw : win right key b = true) : win right key a = true := by
  cases right with
  | true =>
    have h : Op.bytesLess a.key.toList b.key.toList = true := h
    have hw : (!Op.bytesLess key b.key.toList) = true := hw
    show (!Op.bytesLess key a.key.toList) = true
    cases hk : Op.bytesLess key a.key.toList with
    | false => rfl
    | true => rw [bl_trans hk h] at hw; cases hw
  | false =>
    have h : Op.bytesLess b.key.toList a.key.toList = true := h
    have hw : Op.bytesLess key b.key.toList = true := hw
    exact bl_trans hw h
theorem dir_asc {right : Bool} {G : List Nd} (h : AscS G) : (dirL right G).Pairwise fun a b => dlt right a b = true := by
  cases right with
  | true => exact List.Pairwise.imp (fun h => h.1) h
  | false => exact List.pairwise_reverse.2 (List.Pairwise.imp (fun h => h.1) h)
theorem dir_mem {right : Bool} {G : List Nd} {y : Nd} : y ∈ dirL right G ↔ y ∈ G := by cases right <;> simp [dirL]
section
variable {N : List Nd} {L : List Lkd} {key : List UInt8} {right : Bool}
/-- the first node of a list, if it is within the key -/
def nextW (right : Bool) (key : List UInt8) : List Nd → Option Nd
  | [] => none
  | y :: _ => if win right key y = true then some y else none
theorem nextW_nil (right : Bool) (key : List UInt8) : nextW right key [] = none := rfl
theorem nextW_cons (right : Bool) (key : List UInt8) (y : Nd) (B : List Nd) : nextW right key (y :: B) = if win right key y = true then some y else none := rfl
/-- a hop over exact links goes to the next node of the list, if it is within the key -/
theorem hop_exact (h0 : checkN N = 0) {x : Nd} {lev : Nat} (hl : lev ≤ 16) (hx : x ∈ N) (hL : atL L x.id lev = (neighN N x.id lev).1) {A B : List Nd} (e : dirL right (grpS N lev x.word) = A ++ x :: B) :
    hopN N L key right x lev = nextW right key B := by
  have hlv : lvlN (lev : Int) = true := by unfold lvlN; simp; omega
  have hm : ∀ y ∈ A ++ x :: B, y ∈ N := fun y hy => (grp_mem.1 (dir_mem.1 (by rw [e]; exact hy))).1
  have ha := dir_asc (right := right) (grp_asc h0 (lev : Int) x.word)
  rw [e] at ha
  have hxB := (List.pairwise_cons.1 (List.pairwise_append.1 ha).2.1).1
  cases right with
  | true =>
    have hn := neigh_split h0 hx hlv (A := A) (B := B) e
    unfold hopN
    rw [if_pos rfl, hL, hn]
    cases B with
    | nil => simp [headI, Nd.zero, find_zero h0, nextW_nil]
    | cons y B =>
      have hy := find_in h0 (hm y (by simp))
      have h1 : Op.bytesLess x.key.toList y.key.toList = true := hxB y (by simp)
      simp only [headI, List.head?_cons, Option.getD_some, hy]
      simp [h1, win, nextW_cons]
  | false =>
    have e' : grpS N lev x.word = B.reverse ++ x :: A.reverse := by
      have := congrArg List.reverse (show (grpS N lev x.word).reverse = A ++ x :: B from e)
      simpa using this
    have hn := neigh_split h0 hx hlv e'
    unfold hopN
    rw [if_neg (by simp), hL, hn]
    cases B with
    | nil => simp [lastI, Nd.zero, find_zero h0, nextW_nil]
    | cons y B =>
      have hy := find_in h0 (hm y (by simp))
      have h1 : Op.bytesLess y.key.toList x.key.toList = true := hxB y (by simp)
      simp only [lastI, List.reverse_cons, List.getLast?_append, List.getLast?_singleton, Option.some_or, Option.getD_some, hy]
      simp [h1, win, nextW_cons]
/-- the sum of the runs below a level -/
def runS (N : List Nd) (frm : Int) (lev : Nat) : Nat := ((List.range lev).map fun (h : Nat) => runN N frm h).sum
theorem runS_succ (frm : Int) (lev : Nat) : runS N frm (lev + 1) = runS N frm lev + runN N frm lev := by
  unfold runS; rw [List.range_succ, List.map_append, List.sum_append]; simp
theorem runS_mono (frm : Int) (a : Nat) : ∀ d, runS N frm a ≤ runS N frm (a + d)
  | 0 => Nat.le_refl _
  | d + 1 => Nat.le_trans (runS_mono frm a d) (by rw [show a + (d + 1) = (a + d) + 1 from rfl, runS_succ]; omega)
/-- where a search stands: at x, having made hops over Q at this level -/
def CntSt (N : List Nd) (key : List UInt8) (right : Bool) (frm : Nd) (lev : Nat) (x : Nd) (q : Nat) : Prop :=
  ∃ P A Q B, dirL right (grpS N (lev : Int) frm.word) = P ++ x :: B ∧ P ++ [x] = A ++ Q ∧ Q.length = q ∧ (∀ y ∈ Q, brkN frm lev y = false) ∧ (∀ y ∈ B, win right key y = true → brkN frm lev y = false) ∧ (x = frm ∨ dlt right frm x = true)
theorem run_dir (h0 : checkN N = 0) {frm : Nd} (hf : frm ∈ N) {lev : Nat} (hl : lev ≤ 16) {A Q B : List Nd} (e : dirL right (grpS N (lev : Int) frm.word) = A ++ Q ++ B) (hQ : ∀ y ∈ Q, brkN frm lev y = false) : Q.length ≤ runN N frm.id lev := by
  rw [runN_eq h0 hf hl]
  cases right with
  | true =>
    have e : grpS N (lev : Int) frm.word = A ++ Q ++ B := e
    rw [e]; exact run_seg A Q B hQ
  | false =>
    have e' : grpS N (lev : Int) frm.word = B.reverse ++ Q.reverse ++ A.reverse := by
      have := congrArg List.reverse (show (grpS N lev frm.word).reverse = A ++ Q ++ B from e)
      simpa using this
    rw [e', ← List.length_reverse]; exact run_seg _ _ _ (fun y hy => hQ y (by simpa using hy))
theorem CntSt.le (h0 : checkN N = 0) {frm : Nd} (hf : frm ∈ N) {lev : Nat} (hl : lev ≤ 16) {x : Nd} {q : Nat} (h : CntSt N key right frm lev x q) : q ≤ runN N frm.id lev := by
  obtain ⟨P, A, Q, B, e1, e2, rfl, h3, _, _⟩ := h
  refine run_dir (right := right) (A := A) (B := B) h0 hf hl ?_ h3
  rw [e1, ← e2]; simp
theorem CntSt.mem {frm : Nd} {lev : Nat} {x : Nd} {q : Nat} (h : CntSt N key right frm lev x q) : x ∈ N ∧ sameN x.word frm.word lev = true := by
  obtain ⟨P, A, Q, B, e1, _⟩ := h
  exact grp_mem.1 (dir_mem.1 (by rw [e1]; simp))
/-- the list of a node that agrees -/
theorem CntSt.own (hw : ∀ x ∈ N, x.word < 4294967296) {frm : Nd} (hf : frm ∈ N) {lev : Nat} {x : Nd} {q : Nat} (h : CntSt N key right frm lev x q) : grpS N (lev : Int) x.word = grpS N (lev : Int) frm.word :=
  grp_eq hw (hw x h.mem.1) (hw frm hf) h.mem.2
theorem CntSt.step (h0 : checkN N = 0) (hw : ∀ x ∈ N, x.word < 4294967296) {frm : Nd} (hf : frm ∈ N) {lev : Nat} (hl : lev ≤ 16) {x y : Nd} {q : Nat} (h : CntSt N key right frm lev x q) (hL : atL L x.id lev = (neighN N x.id lev).1) (hh : hopN N L key right x lev = some y) :
    CntSt N key right frm lev y (q + 1) := by
  have ho := h.own hw hf
  have hm := h.mem
  obtain ⟨P, A, Q, B, e1, e2, rfl, h3, h4, h5⟩ := h
  rw [hop_exact h0 hl hm.1 hL (by rw [ho]; exact e1)] at hh
  have ha := dir_asc (right := right) (grp_asc h0 (lev : Int) frm.word)
  rw [e1] at ha
  have hxB := (List.pairwise_cons.1 (List.pairwise_append.1 ha).2.1).1
  cases B with
  | nil => cases hh
  | cons z B =>
    rw [nextW_cons] at hh
    split at hh
    · rename_i hwin
      cases hh
      refine ⟨P ++ [x], A, Q ++ [y], B, by rw [e1]; simp, by rw [e2]; simp, by simp, ?_, fun z hz => h4 z (by simp [hz]), ?_⟩
      · intro z hz
        rcases List.mem_append.1 hz with h | h
        · exact h3 z h
        · have : z = y := by simpa using h
          rw [this]
          exact h4 y (by simp) hwin
      · have hxy := hxB y (by simp)
        rcases h5 with rfl | h5
        · exact .inr hxy
        · exact .inr (dlt_trans h5 hxy)
    · cases hh
theorem sameN_le {a b : Nat} {h k : Int} (hs : sameN a b h = true) (hk : k ≤ h) : sameN a b k = true := by
  unfold sameN at *
  simp only [decide_eq_true_eq] at *
  omega
theorem CntSt.down (h0 : checkN N = 0) (hw : ∀ x ∈ N, x.word < 4294967296) {frm : Nd} (hf : frm ∈ N) {lev : Nat} (hl : lev + 1 ≤ 16) {x : Nd} {q : Nat} (h : CntSt N key right frm (lev + 1) x q) (hL : atL L x.id (lev + 1 : Nat) = (neighN N x.id (lev + 1 : Nat)).1) (hh : hopN N L key right x (lev + 1) = none) :
    CntSt N key right frm lev x 0 := by
  have ho := h.own hw hf
  have hm := h.mem
  obtain ⟨P, A, Q, B, e1, e2, rfl, h3, h4, h5⟩ := h
  rw [hop_exact h0 hl hm.1 hL (by rw [ho]; exact e1)] at hh
  have ha := dir_asc (right := right) (grp_asc h0 ((lev + 1 : Nat) : Int) frm.word)
  rw [e1] at ha
  have ha2 := List.pairwise_append.1 ha
  have hxm : x ∈ dirL right (grpS N (lev : Int) frm.word) := dir_mem.2 (grp_mem.2 ⟨hm.1, sameN_le hm.2 (by omega)⟩)
  obtain ⟨P2, B2, f1⟩ := List.append_of_mem hxm
  have hb := dir_asc (right := right) (grp_asc h0 (lev : Int) frm.word)
  rw [f1] at hb
  have hb2 := (List.pairwise_cons.1 (List.pairwise_append.1 hb).2.1).1
  refine ⟨P2, P2 ++ [x], [], B2, f1, by simp, rfl, by simp, fun z hz hwz => ?_, h5⟩
  have hxz := hb2 z hz
  have hzN : z ∈ N := (grp_mem.1 (dir_mem.1 (by rw [f1]; simp [hz]))).1
  cases hbr : brkN frm lev z with
  | false => rfl
  | true =>
    exfalso
    unfold brkN at hbr
    rcases Bool.or_eq_true_iff.1 hbr with h | h
    · have hid : z.id = frm.id := by simpa using h
      have hz2 : z = frm := ids_eq (check_keys h0) hzN hf hid
      rw [hz2] at hxz
      rcases h5 with rfl | h5
      · rw [dlt_irrefl] at hxz; cases hxz
      · have := dlt_trans h5 hxz
        rw [dlt_irrefl] at this; cases this
    · have hzG : z ∈ dirL right (grpS N ((lev + 1 : Nat) : Int) frm.word) := dir_mem.2 (grp_mem.2 ⟨hzN, sameN_symm (by rw [show ((lev + 1 : Nat) : Int) = (lev : Int) + 1 by omega]; exact h)⟩)
      rw [e1] at hzG
      have hzB : z ∈ B := by
        rcases List.mem_append.1 hzG with h | h
        · have := ha2.2.2 z h x (by simp)
          have := dlt_trans this hxz
          rw [dlt_irrefl] at this; cases this
        · rcases List.mem_cons.1 h with h | h
          · rw [h, dlt_irrefl] at hxz; cases hxz
          · exact h
      cases B with
      | nil => cases hzB
      | cons y B =>
        rw [nextW_cons] at hh
        split at hh
        · cases hh
        · rename_i hwn
          rcases List.mem_cons.1 hzB with h | h
          · rw [h] at hwz; exact hwn hwz
          · exact hwn (win_down ((List.pairwise_cons.1 (List.pairwise_cons.1 ha2.2.1).2).1 z h) hwz)
/-- how many hops a search makes -/
theorem rt_cnt (h0 : checkN N = 0) (hw : ∀ x ∈ N, x.word < 4294967296) {frm : Nd} (hf : frm ∈ N) {top : Nat} (ht : top ≤ 16) (hL : ∀ x ∈ N, ∀ lev : Nat, lev ≤ top → atL L x.id lev = (neighN N x.id lev).1) :
    ∀ (f : Nat) (x : Nd) (lev q : Nat) (out : List Hop), lev ≤ top → CntSt N key right frm lev x q → (rtF N L key right f x (lev + 1) out).2.length + q ≤ out.length + runS N frm.id (lev + 1)
  | 0, x, lev, q, out, hl, h => by
    have := h.le h0 hf (by omega)
    rw [runS_succ]
    show out.length + q ≤ _
    omega
  | f + 1, x, lev, q, out, hl, h => by
    have e : rtF N L key right (f + 1) x (lev + 1) out = (match hopN N L key right x lev with | some y => rtF N L key right f y (lev + 1) (out ++ [(x.id, y.id, (lev : Int))]) | none => rtF N L key right f x lev out) := rfl
    have hq := h.le h0 hf (by omega)
    cases hh : hopN N L key right x lev with
    | some y =>
      rw [hh] at e
      have := rt_cnt h0 hw hf ht hL f y lev (q + 1) (out ++ [(x.id, y.id, (lev : Int))]) hl (h.step h0 hw hf (by omega) (hL x h.mem.1 lev hl) hh)
      rw [e]
      simp only [List.length_append, List.length_singleton] at this ⊢
      omega
    | none =>
      rw [hh] at e
      rw [e, runS_succ]
      cases lev with
      | zero =>
        have : rtF N L key right f x 0 out = (x, out) := by cases f <;> rfl
        simp only [this]
        omega
      | succ lev =>
        have := rt_cnt h0 hw hf ht hL f x lev 0 out (by omega) (h.down h0 hw hf (by omega) (hL x h.mem.1 (lev + 1) hl) hh)
        simp only at this ⊢
        omega
/-- behind a search there is no hop at level 0 -/
theorem rt_last : ∀ (f : Nat) (x : Nd) (lev : Nat) (out : List Hop), measR N right x (lev + 1) ≤ f → hopN N L key right (rtF N L key right f x (lev + 1) out).1 0 = none
  | 0, x, lev, out, h => by
    unfold measR at h
    have : 1 * (N.length + 1) ≤ (lev + 1) * (N.length + 1) := Nat.mul_le_mul_right _ (by omega)
    omega
  | f + 1, x, lev, out, h => by
    have e : rtF N L key right (f + 1) x (lev + 1) out = (match hopN N L key right x lev with | some y => rtF N L key right f y (lev + 1) (out ++ [(x.id, y.id, (lev : Int))]) | none => rtF N L key right f x lev out) := rfl
    cases hh : hopN N L key right x lev with
    | some y =>
      rw [hh] at e
      rw [e]
      exact rt_last f y lev _ (by have := meas_hop hh; omega)
    | none =>
      rw [hh] at e
      rw [e]
      cases lev with
      | zero =>
        have : rtF N L key right f x 0 out = (x, out) := by cases f <;> rfl
        simp only [this]
        exact hh
      | succ lev => exact rt_last f x lev _ (by have := meas_down (N := N) (right := right) x (lev + 1); omega)
end
theorem HopsOk.ends {N : List Nd} {key : List UInt8} {right : Bool} {x' : Nd} : ∀ {hs : List Hop} {x : Nd} {lev : Nat}, HopsOk N key right x' x lev hs → endN x.id hs = x'.id
  | [], x, _, h => by rw [show x = x' from h]; rfl
  | h :: hs, x, _, ⟨y, l', h1, h2, h3, h4, h5⟩ => by
    have := h5.ends
    cases hs with
    | nil => subst h2; exact this
    | cons g hs =>
      have e : endN x.id (h :: g :: hs) = endN y.id (g :: hs) := by
        unfold endN
        rw [List.getLast?_cons_cons]
        cases hq : (g :: hs).getLast? with
        | none => simp at hq
        | some p => rfl
      rw [e]; exact this
theorem endN_snoc (frm : Int) (hs : List Hop) (p : Hop) : endN frm (hs ++ [p]) = p.2.1 := by unfold endN; simp
/-- the owner, by its place -/
theorem own_at {key : List UInt8} {A B : List Nd} {x : Nd} (hx : A = [] ∨ Op.bytesLess key x.key.toList = false) (hB : ∀ y ∈ B, Op.bytesLess key y.key.toList = true) : (A ++ x :: B).foldl (ownF key) ((A ++ x :: B).head?.getD Nd.zero) = x := by
  have hb : ∀ (B : List Nd) (o : Nd), (∀ y ∈ B, Op.bytesLess key y.key.toList = true) → B.foldl (ownF key) o = o := by
    intro B
    induction B with
    | nil => intro o _; rfl
    | cons y B ih =>
      intro o h
      show B.foldl (ownF key) (ownF key o y) = o
      have : ownF key o y = o := by unfold ownF; rw [h y (by simp)]; rfl
      rw [this, ih o (fun z hz => h z (by simp [hz]))]
  rw [List.foldl_append, List.foldl_cons, hb B _ hB]
  rcases hx with rfl | hx
  · show ownF key x x = x
    unfold ownF; split <;> rfl
  · unfold ownF; rw [hx]; rfl
/-- searches over exact links of level 0 end at the owner -/
theorem end_law {N : List Nd} (h0 : checkN N = 0) {L : List Lkd} {x : Nd} (hx : x ∈ N) {k : ByteArray} (hk : k.size ≤ 64) (ht : 0 ≤ topL L x.id) (hL : ∀ x ∈ N, atL L x.id 0 = (neighN N x.id (0 : Nat)).1) :
    (routeN N L x.id k).2 = 0 ∧ endN x.id (routeN N L x.id k).1 = (ownN N k).1.id ∧ (ownN N k).2 = true := by
  have hf := find_in h0 hx
  have hne : N.length ≠ 0 := by intro h; rw [List.length_eq_zero_iff.1 h] at hx; cases hx
  unfold ownN routeN
  rw [if_pos (show checkN N = 0 ∧ N.length ≠ 0 ∧ k.size ≤ 64 from ⟨h0, hne, hk⟩), if_neg (show ¬ (checkN N ≠ 0 ∨ 64 < k.size) by rintro (h | h); exact h h0; omega), hf, if_neg (show ¬ (true = false) by simp)]
  simp only
  generalize hr : (!Op.bytesLess k.toList x.key.toList) = right
  obtain ⟨lev, hlev⟩ : ∃ lev, (topL L x.id + 1).toNat = lev + 1 := ⟨(topL L x.id).toNat, by omega⟩
  have hl16 : lev ≤ 16 := by
    have : topL L x.id ≤ 16 := by unfold topL; split <;> omega
    omega
  rw [hlev]
  obtain ⟨hs, e1, e2⟩ := rtF_ok (N := N) (L := L) (key := k.toList) (right := right) (18 * (N.length + 1)) x (lev + 1) []
  have hlast := rt_last (N := N) (L := L) (key := k.toList) (right := right) (18 * (N.length + 1)) x lev [] (by
    unfold measR
    have := bey_le (N := N) (right := right) x
    have : (lev + 1) * (N.length + 1) ≤ 17 * (N.length + 1) := Nat.mul_le_mul_right _ (by omega)
    omega)
  rw [List.nil_append] at e1
  generalize rtF N L k.toList right (18 * (N.length + 1)) x (lev + 1) [] = R at e1 e2 hlast
  obtain ⟨x', out⟩ := R
  simp only at e1 e2 hlast ⊢
  subst e1
  have hx' := e2.mem hx
  have hside := e2.side (by cases right <;> simpa using hr)
  have hend := e2.ends
  have hg : grpS N ((0 : Nat) : Int) x'.word = sortN N := by
    unfold grpS groupN
    rw [List.filter_eq_self]
    intro y _
    unfold sameN
    simp
  obtain ⟨A, B, eS⟩ := List.append_of_mem ((sortN_mem N x').2 hx')
  have hasc := sortN_str h0
  rw [eS] at hasc
  have ha2 := List.pairwise_append.1 hasc
  have hn := neigh_split h0 hx' (h := ((0 : Nat) : Int)) rfl (A := A) (B := B) (by rw [hg]; exact eS)
  have hat : atL L x'.id 0 = (lastI A, headI B) := by rw [hL x' hx', hn]
  have hmem : ∀ y ∈ A ++ x' :: B, y ∈ N := fun y hy => (sortN_mem N y).1 (by rw [eS]; exact hy)
  rw [eS]
  cases right with
  | true =>
    rw [if_pos rfl] at hside
    rw [hop_exact (right := true) h0 (by omega) hx' (by simpa using hL x' hx') (A := A) (B := B) (by rw [hg]; exact eS)] at hlast
    rw [if_neg (by simp)]
    refine ⟨rfl, ?_, by trivial⟩
    show endN x.id out = _
    rw [hend, own_at (.inr hside)]
    intro y hy
    cases B with
    | nil => cases hy
    | cons z B =>
      rw [nextW_cons] at hlast
      split at hlast
      · cases hlast
      · rename_i hz
        have hz : Op.bytesLess k.toList z.key.toList = true := by
          have : ¬ (!Op.bytesLess k.toList z.key.toList) = true := hz
          simpa using this
        rcases List.mem_cons.1 hy with h | h
        · rw [h]; exact hz
        · exact bl_trans hz ((List.pairwise_cons.1 (List.pairwise_cons.1 ha2.2.1).2).1 y h).1
  | false =>
    rw [if_neg (by simp)] at hside
    rw [hop_exact (right := false) h0 (by omega) hx' (by simpa using hL x' hx') (A := B.reverse) (B := A.reverse) (by rw [hg, eS]; simp [dirL])] at hlast
    have hB : ∀ y ∈ x' :: B, Op.bytesLess k.toList y.key.toList = true := fun y hy => by
      rcases List.mem_cons.1 hy with h | h
      · rw [h]; exact hside
      · exact bl_trans hside ((List.pairwise_cons.1 ha2.2.1).1 y h).1
    rcases List.eq_nil_or_concat A with hA | ⟨A', z, hA⟩
    · subst hA
      have hz : (findN N (atL L x'.id 0).1).2 = false := by
        rw [hat]
        show (findN N (lastI [])).2 = false
        have : lastI [] = 0 := rfl
        rw [this, find_zero h0]
      rw [if_neg (by rw [hz]; simp)]
      refine ⟨rfl, ?_, by trivial⟩
      show endN x.id out = _
      rw [hend, own_at (.inl rfl) (fun y hy => hB y (by simp [hy]))]
    · rw [List.concat_eq_append] at hA
      subst hA
      have hzN : z ∈ N := hmem z (by simp)
      have hz : (findN N (atL L x'.id 0).1) = (z, true) := by
        rw [hat]
        show findN N (lastI (A' ++ [z])) = _
        have : lastI (A' ++ [z]) = z.id := by unfold lastI; simp
        rw [this, find_in h0 hzN]
      have hzk : Op.bytesLess k.toList z.key.toList = false := by
        have hrev : (A' ++ [z]).reverse = z :: A'.reverse := by simp
        rw [hrev] at hlast
        rw [nextW_cons] at hlast
        split at hlast
        · cases hlast
        · rename_i hh
          have : ¬ Op.bytesLess k.toList z.key.toList = true := hh
          simpa using this
      rw [hz]
      rw [if_pos (by simp [hzk])]
      refine ⟨rfl, ?_, by trivial⟩
      show endN x.id (out ++ [(x'.id, z.id, 0)]) = _
      rw [endN_snoc]
      have e3 : A' ++ [z] ++ x' :: B = A' ++ z :: (x' :: B) := by simp
      rw [e3, own_at (.inr hzk) hB]
/-- the row of a node in a list of exact links -/
theorem build_top {N : List Nd} (h0 : checkN N = 0) {h : Nat} (hh : h ≤ 16) {x : Nd} (hx : x ∈ N) : topL (buildN N (h : Int)).1 x.id = h ∧ ∀ lev : Nat, lev ≤ h → atL (buildN N (h : Int)).1 x.id lev = (neighN N x.id lev).1 := by
  have h0s : checkN (sortN N) = 0 := check_perm (sortN_perm N) h0
  have hfind : (buildN N (h : Int)).1.find? (fun c => c.1 == x.id) = some (rowN (sortN N) (h + 1) x) := by
    unfold buildN
    rw [if_neg (by rw [h0]; simp), if_neg (by unfold lvlN; simp; omega)]
    simp only
    rw [show ((h : Int)).toNat + 1 = h + 1 by omega, List.find?_map]
    have : ((fun (c : Lkd) => c.1 == x.id) ∘ rowN (sortN N) (h + 1)) = fun y : Nd => y.id == x.id := rfl
    rw [this]
    have hf := find_in h0s ((sortN_mem N x).2 hx)
    unfold findN at hf
    split at hf
    · rename_i y hy
      cases hf
      rw [hy]; rfl
    · cases hf
  have hnb : ∀ lev : Nat, lev ≤ 16 → (neighN (sortN N) x.id lev) = neighN N x.id lev := fun lev hl => by
    have hlv : lvlN (lev : Int) = true := by unfold lvlN; simp; omega
    obtain ⟨A, B, e⟩ := grp_at hx hlv
    have es : grpS (sortN N) lev x.word = A ++ x :: B := by
      unfold grpS at e ⊢
      rw [sort_perm (sortN_perm N) h0]; exact e
    rw [neigh_split h0 hx hlv e, neigh_split h0s ((sortN_mem N x).2 hx) hlv es]
  refine ⟨?_, fun lev hl => ?_⟩
  · unfold topL
    rw [hfind]
    simp only [rowN_len]
    omega
  · unfold atL
    rw [hfind]
    simp only
    rw [if_neg (by omega)]
    unfold rowN
    simp only
    rw [show ((lev : Int)).toNat = lev by omega, List.getElem?_map, List.getElem?_range (by omega)]
    simp only [Option.map_some, Option.getD_some]
    rw [hnb lev (by omega)]
/-- from the height on a level has single nodes -/
theorem single_high {N : List Nd} (h0 : checkN N = 0) (hw : ∀ x ∈ N, x.word < 4294967296) {h : Nat} (hh : h < 16) (hle : heightN N ≤ h) {x y : Nd} (hx : x ∈ N) (hy : y ∈ N) (hs : sameN x.word y.word (h : Int) = true) : x = y := by
  have hne : N.length ≠ 0 := by intro h; rw [List.length_eq_zero_iff.1 h] at hx; cases hx
  have hws : ∀ x ∈ sortN N, x.word < 4294967296 := fun x hx => hw x ((sortN_mem N x).1 hx)
  have h1 := (height_spec h0 hne).1 (by omega)
  rw [classesN_fold (by omega)] at h1
  have h2 := classes_mono hws (heightN N) (h - heightN N) (by omega)
  rw [show heightN N + (h - heightN N) = h by omega] at h2
  obtain ⟨H1, _, _, H4⟩ := split_law h hh (sortN N) hws
  rw [sortN_length] at H4
  have hone : ∀ c ∈ foldC (h : Int) (sortN N), c.length ≤ 1 := by
    have gen : ∀ C : List (List Nd), (∀ c ∈ C, 0 < c.length) → lensC C ≤ C.length → ∀ c ∈ C, c.length ≤ 1 := by
      have hge : ∀ C : List (List Nd), (∀ c ∈ C, 0 < c.length) → C.length ≤ lensC C := by
        intro C
        induction C with
        | nil => intro _; exact Nat.zero_le _
        | cons c C ih =>
          intro hC
          have := ih (fun d hd => hC d (by simp [hd]))
          have := hC c (by simp)
          unfold lensC at *
          simp only [List.map_cons, List.sum_cons, List.length_cons] at *
          omega
      intro C
      induction C with
      | nil => intro _ _ c hc; cases hc
      | cons d C ih =>
        intro hC hs c hc
        have h1 := hge C (fun e he => hC e (by simp [he]))
        have h2 := hC d (by simp)
        have h3 : lensC (d :: C) = d.length + lensC C := by unfold lensC; simp
        rw [h3, List.length_cons] at hs
        rcases List.mem_cons.1 hc with rfl | hc
        · omega
        · exact ih (fun e he => hC e (by simp [he])) (by omega) c hc
    exact gen _ (fun c hc => (H1.mem c hc).1) (by omega)
  obtain ⟨c, hc, hxc⟩ := H1.all x ((sortN_mem N x).2 hx)
  obtain ⟨d, hd, hyd⟩ := H1.all y ((sortN_mem N y).2 hy)
  obtain ⟨i, hi⟩ := List.mem_iff_getElem?.1 hc
  obtain ⟨j, hj⟩ := List.mem_iff_getElem?.1 hd
  have hxs := (H1.mem c hc).2 x hxc
  have hys := (H1.mem d hd).2 y hyd
  obtain ⟨zc, hzc, ezc⟩ := headW_mem (H1.mem c hc).1
  obtain ⟨zd, hzd, ezd⟩ := headW_mem (H1.mem d hd).1
  have wc : headW c < 4294967296 := by rw [ezc]; exact hws _ ((H1.mem c hc).2 zc hzc).1
  have wd : headW d < 4294967296 := by rw [ezd]; exact hws _ ((H1.mem d hd).2 zd hzd).1
  have wx := hw x hx
  have wy := hw y hy
  have hij := H1.heads i j c d hi hj (sameN_trans wc wx wd hxs.2 (sameN_trans wx wy wd hs (sameN_symm hys.2)))
  subst hij
  have hcd : c = d := Option.some.inj (hi.symm.trans hj)
  subst hcd
  have h1 := hone c hc
  match c, h1, hxc, hyd with
  | [z], _, hxc, hyd => 
    have e1 : x = z := by simpa using hxc
    have e2 : y = z := by simpa using hyd
    rw [e1, e2]
/-- what SearchEnds says -/
theorem ends_law {N : List Nd} (h0 : checkN N = 0) (hw : ∀ x ∈ N, x.word < 4294967296) {h : Nat} (hh : h ≤ 16) (hle : heightN N ≤ h) {x : Nd} (hx : x ∈ N) {k : ByteArray} (hk : k.size ≤ 64) :
    (routeN N (buildN N (h : Int)).1 x.id k).1.length ≤ boundN N x.id := by
  obtain ⟨ht, hL⟩ := build_top h0 hh hx
  have hL' : ∀ y ∈ N, ∀ lev : Nat, lev ≤ h → atL (buildN N (h : Int)).1 y.id lev = (neighN N y.id lev).1 := fun y hy => (build_top h0 hh hy).2
  have hf := find_in h0 hx
  have key : ∀ right, (rtF N (buildN N (h : Int)).1 k.toList right (18 * (N.length + 1)) x (h + 1) []).2.length ≤ runS N x.id 17 := fun right => by
    obtain ⟨P, B, e⟩ := List.append_of_mem (dir_mem (right := right).2 (grp_mem.2 ⟨hx, sameN_refl _ (show (h : Int) ≤ 16 by omega)⟩) : x ∈ dirL right (grpS N (h : Int) x.word))
    have hst : CntSt N k.toList right x h x 0 := by
      refine ⟨P, P ++ [x], [], B, e, by simp, rfl, by simp, fun z hz _ => ?_, .inl rfl⟩
      have hzG := grp_mem.1 (dir_mem.1 (show z ∈ dirL right (grpS N (h : Int) x.word) by rw [e]; simp [hz]))
      have hasc := dir_asc (right := right) (grp_asc h0 (h : Int) x.word)
      rw [e] at hasc
      have hxz := (List.pairwise_cons.1 (List.pairwise_append.1 hasc).2.1).1 z hz
      by_cases h16 : h < 16
      · have := single_high h0 hw h16 hle hzG.1 hx hzG.2
        rw [this, dlt_irrefl] at hxz; cases hxz
      · have hc := commonN_le x.word z.word
        cases hb : brkN x (h : Int) z with
        | false => rfl
        | true =>
          unfold brkN sameN at hb
          simp only [Bool.or_eq_true, beq_iff_eq, decide_eq_true_eq] at hb
          rcases hb with hb | hb
          · have := ids_eq (check_keys h0) hzG.1 hx hb
            rw [this, dlt_irrefl] at hxz; cases hxz
          · omega
    have := rt_cnt (right := right) (key := k.toList) h0 hw hx hh hL' (18 * (N.length + 1)) x h 0 [] (Nat.le_refl _) hst
    have hm := runS_mono (N := N) x.id (h + 1) (16 - h)
    rw [show h + 1 + (16 - h) = 17 by omega] at hm
    simp only [List.length_nil] at this
    omega
  rw [boundN_eq h0 hx]
  have e17 : ((List.range 17).map fun (h : Nat) => runN N x.id h).sum = runS N x.id 17 := rfl
  rw [e17]
  unfold routeN
  rw [if_neg (by rintro (h | h); exact h h0; omega), hf, if_neg (by simp)]
  simp only
  rw [ht, show ((h : Int) + 1).toNat = h + 1 by omega]
  have := key (!Op.bytesLess k.toList x.key.toList)
  split
  · simp only [List.length_append, List.length_singleton]; omega
  · simp only; omega
/-- the owner of the key of a node -/
theorem own_self {N : List Nd} (h0 : checkN N = 0) {x : Nd} (hx : x ∈ N) (hk : x.key.size ≤ 64) : ownN N x.key = (x, true) := by
  have hne : N.length ≠ 0 := by intro h; rw [List.length_eq_zero_iff.1 h] at hx; cases hx
  unfold ownN
  rw [if_pos ⟨h0, hne, hk⟩]
  obtain ⟨A, B, eS⟩ := List.append_of_mem ((sortN_mem N x).2 hx)
  have hasc := sortN_str h0
  rw [eS] at hasc ⊢
  rw [own_at (.inr (bytesLess_irrefl _)) (fun y hy => ((List.pairwise_cons.1 (List.pairwise_append.1 hasc).2.1).1 y hy).1)]
end Go.Proofs.YtkjlhcfocefhpaaDoor

/- Run and Bound: the package search and the reference. -/
namespace Go.Proofs.YtkjlhcfocefhpaaDoor
open Go.RowKit

theorem runF_snoc (x : Nd) (lev : Int) (G : List Nd) (k : Nat) (y : Nd) (hy : G[k]? = some y) : runF x lev (G.take (k + 1)) = runStep x lev (runF x lev (G.take k)) y := by
  unfold runF
  rw [take_snocN G k y hy, List.foldl_append]; rfl
theorem run_len (x : Nd) (lev : Int) (G : List Nd) : (runF x lev G).1 ≤ G.length ∧ (runF x lev G).2 ≤ G.length := by
  have h1 := run_count (x := x) (lev := lev) G (0, 0) (Nat.le_refl _)
  have h2 := run_inv (x := x) (lev := lev) G (0, 0) (Nat.le_refl _)
  have h3 : (G.countP fun y => !brkN x lev y) ≤ G.length := List.countP_le_length
  unfold runF
  omega
theorem step_brk {x y : Nd} {lev : Int} {s : Nat × Nat} (h : brkN x lev y = true) : runStep x lev s y = (s.1, 0) := by unfold runStep; rw [if_pos h]
theorem step_free {x y : Nd} {lev : Int} {s : Nat × Nat} (h : brkN x lev y = false) : runStep x lev s y = (max s.1 (s.2 + 1), s.2 + 1) := by unfold runStep; rw [h]; rfl
theorem runN_no {l : List Nd} {id lev : Int} (h : checkN l ≠ 0 ∨ (findN l id).2 = false ∨ lvlN lev = false) : runN l id lev = 0 := by
  unfold runN
  rw [if_neg]
  rintro ⟨h1, h2, h3⟩
  rcases h with h | h | h
  · exact h h1
  · rw [h] at h2; cases h2
  · rw [h] at h3; cases h3
theorem runN_yes {l : List Nd} {id lev : Int} {x : Nd} (h : checkN l = 0) (h2 : (x, true) = findN l id) (h3 : lvlN lev = true) : runN l id lev = (runF x lev (groupN (sortN l) lev x.word)).1 := by
  unfold runN thrG
  rw [← h2, if_pos ⟨h, rfl, h3⟩]
theorem runN_le (l : List Nd) (id lev : Int) : runN l id lev ≤ l.length := by
  unfold runN
  split
  · have h1 := (run_len (findN l id).1 lev (thrG l id lev)).1
    have h2 : (thrG l id lev).length ≤ (sortN l).length := List.length_filter_le _ _
    rw [sortN_length] at h2
    omega
  · omega
def RnRel (x : Nd) (lev : Int) (G : List Nd) (g : Nat) (w : World) (m r i : Value) (wr : World) : Prop :=
  ∃ k : Nat, k ≤ G.length ∧ i = .int .i64 k ∧ m = .int .i64 ((runF x lev (G.take k)).1 : Nat) ∧ r = .int .i64 ((runF x lev (G.take k)).2 : Nat) ∧ Ex w wr
theorem max_nat (a b : Nat) : (max (a : Int) (b : Int)) = ((max a b : Nat) : Int) := by omega
set_option maxRecDepth 100000 in
set_option maxHeartbeats 4000000 in
theorem run_p (a : Option Addr) (n c : Nat) (l : List Nd) (id lev : Int) (w : World) (hs : Sl 3 encN w a n l) (hn : n ≤ 1000) (hc : n ≤ c) (hm : c ≤ maxLen) (hw : ∀ x ∈ l, x.word < 4294967296) (hT : TabG w) :
    Calls Tryd.prog 29 #[.slice a n c, .int .i64 id, .int .i64 lev] w fun e w' => e = .returned (.int .i64 (runN l id lev)) ∧ Ex w w' := by
  have HW := Lib.hid hw
  have HXW := findN_word hw id
  have HL := Lib.hid hs.len
  have EX := Ex.refl w
  clear hw
  go_enter Tryd.func29, Tryd.ntmps29
  go_wp2_with fail
  (with_reducible refine (find_p _ _ _ _ _ _ hs (by omega)).mono ?_)
  rintro e w1 ⟨rfl, kk⟩
  replace hs := hs.nx kk
  replace hT := Lib.hid (hT.nx kk)
  replace EX := EX.nx kk
  clear kk
  obtain ⟨F, hF⟩ : ∃ F, F = findN l id := ⟨_, rfl⟩
  have HF := Lib.hid hF
  rw [← hF] at HXW ⊢
  obtain ⟨x, ok⟩ := F
  unfold Nd.val
  simp only at HXW ⊢
  clear hF
  have B := Blk.new w1 [.int .i64 x.id, .string x.key, .int .u32 x.word] 48
  have kk := Ex.new w1 (.cells #[.int .i64 x.id, .string x.key, .int .u32 x.word] 48)
  obtain ⟨w2, hw2⟩ : ∃ w2, w2 = w1.alloc (.cells #[.int .i64 x.id, .string x.key, .int .u32 x.word] 48) := ⟨_, rfl⟩
  obtain ⟨g, hg⟩ : ∃ g, g = w1.heap.size := ⟨_, rfl⟩
  replace B : Blk w2 g [.int .i64 x.id, .string x.key, .int .u32 x.word] 48 := by rw [hw2, hg]; exact B
  rw [← hw2] at kk
  have Hw2 := Lib.hid hw2
  have Hg := Lib.hid hg
  replace hs := hs.nx kk
  replace hT := Lib.hid (hT.out.nx kk)
  replace EX := EX.nx kk
  clear kk hw2 hg
  go_upto_region 2 with fail
  rw [← Hg.out, ← Hw2.out]
  clear Hg Hw2
  cases ok with
  | false =>
    have RN := Lib.hid (runN_no (lev := lev) (.inr (.inl (show (findN l id).2 = false by rw [← HF.out]))))
    clear hs B
    go_wp2_with fail
    go_ret
    exact ⟨by rw [RN.out]; rfl, EX⟩
  | true =>
    go_wp2_with fail
    (with_reducible refine (check_p _ _ _ _ _ hs (by omega) hc hm).mono ?_)
    rintro e w3 ⟨rfl, kk⟩
    replace hs := hs.nx kk
    replace hT := Lib.hid (hT.out.nx kk)
    replace EX := EX.nx kk
    replace B := B.nx kk
    clear kk
    by_cases hck : checkN l = 0
    case neg =>
      have RN := Lib.hid (runN_no (id := id) (lev := lev) (.inl hck))
      have d1 : (checkN l != 0) = true := by simpa using hck
      clear hs hck B
      go_wp2_with fail
      go_ret
      exact ⟨by rw [RN.out]; rfl, EX⟩
    have d1 : (checkN l != 0) = false := by simpa using hck
    have HC := Lib.hid hck
    clear hck
    by_cases hlo : lev < 0
    · have RN := Lib.hid (runN_no (l := l) (id := id) (.inr (.inr (show lvlN lev = false by unfold lvlN; simp; omega))))
      clear hs B
      go_wp2_with fail
      go_ret
      exact ⟨by rw [RN.out]; rfl, EX⟩
    · by_cases hhi : 16 < lev
      · have RN := Lib.hid (runN_no (l := l) (id := id) (.inr (.inr (show lvlN lev = false by unfold lvlN; simp; omega))))
        clear hs B
        go_wp2_with fail
        go_ret
        exact ⟨by rw [RN.out]; rfl, EX⟩
      · have RY := Lib.hid (runN_yes HC.out HF.out (show lvlN lev = true by unfold lvlN; simp; omega))
        go_upto_region 5 with fail
        refine wp_region_held_drew (S := Ex w3.drew) (by kernel_rfl) (Ex.refl _) (fun hHeld => ?_)
        refine wpAnyH_take (i := 0) (oi := ⟨some 34, .move (.tmp 0), 23, "search.go:100", #[], none⟩) (v := ?_) rfl (by kernel_rfl) (by kernel_rfl) (by kernel_rfl) (fun _ _ _ h => h) (Or.inl ⟨by rfl, ?hyr1x0⟩) (by assumption) ?restr1x0
        case hyr1x0 => intro wq hSw; (go_simp); (try with_reducible rfl)
        try simp only [Act.put, List.setIfInBounds_toArray, List.set_cons_zero, List.set_cons_succ]
        refine wpAnyH_take (i := 2) (oi := ⟨some 36, .move (.tmp 2), 3, "search.go:100", #[], none⟩) (v := ?_) rfl (by kernel_rfl) (by kernel_rfl) (by kernel_rfl) (fun _ _ _ h => h) (Or.inl ⟨by rfl, ?hyr1x2⟩) (by assumption) ?restr1x2
        case hyr1x2 => intro wq hSw; (go_simp); (try with_reducible rfl)
        try simp only [Act.put, List.setIfInBounds_toArray, List.set_cons_zero, List.set_cons_succ]
        refine wpAnyH_take (i := 3) (oi := ⟨some 37, .fieldAddr 48 (.tmp 7) 2, 0, "search.go:100", #[], none⟩) (v := ?_) rfl (by kernel_rfl) (by kernel_rfl) (by kernel_rfl) (fun _ _ _ h => h) (Or.inl ⟨by rfl, ?hyr1x3⟩) (by assumption) ?restr1x3
        case hyr1x3 => intro wq hSw; (go_simp); (try with_reducible rfl)
        try simp only [Act.put, List.setIfInBounds_toArray, List.set_cons_zero, List.set_cons_succ]
        refine wpAnyH_take (i := 4) (oi := ⟨some 38, .load 46 (.tmp 37), 46, "search.go:100", #[⟨3, .data⟩], none⟩) (v := ?_) rfl (by kernel_rfl) (by kernel_rfl) (by kernel_rfl) (fun _ _ _ h => h) (Or.inl ⟨by rfl, ?hyr1x4⟩) (by assumption) ?restr1x4
        case hyr1x4 => intro wq hSw; (have hSw' : Ex w3 wq := (Ex.refl w3).drew.nx hSw; have cq := (B.nx hSw').cell 2 _ rfl; go_simp); (try with_reducible rfl)
        try simp only [Act.put, List.setIfInBounds_toArray, List.set_cons_zero, List.set_cons_succ]
        refine wpAnyH_take (i := 7) (oi := ⟨some 41, .move (.const (.int .i64 0)), 3, "search.go:100", #[], none⟩) (v := ?_) rfl (by kernel_rfl) (by kernel_rfl) (by kernel_rfl) (fun _ _ _ h => h) (Or.inl ⟨by rfl, ?hyr1x7⟩) (by assumption) ?restr1x7
        case hyr1x7 => intro wq hSw; (go_simp); (try with_reducible rfl)
        try simp only [Act.put, List.setIfInBounds_toArray, List.set_cons_zero, List.set_cons_succ]
        refine wpAnyH_ready (rs := [1]) (by kernel_rfl) (by simp) ?_
        refine AllReadyH.cons (o := ⟨some 35, .call { callee := .value (.func 73), args := #[.tmp 34], argTypes := #[23] }, 23, "search.go:100", #[⟨0, .data⟩], none⟩) rfl (fun K hK => ?_) AllReadyH.nil
        go_simp
        (with_reducible refine (sort_p _ _ _ _ _ (hs.nx (Ex.refl w3).drew) hn).mono ?_)
        rintro e w5 ⟨v, S, rfl, OS, ⟨hp, hsrt⟩, k5⟩
        replace k5 : Ex w3.drew w5 := k5
        have hSe : S = sortN l := sortN_unique (check_keys HC.out) hp hsrt
        subst hSe
        obtain ⟨a5, c5, rfl, r5, hc5, hm5⟩ := OS.sl3 (fun _ => rfl)
        replace B := B.nx ((Ex.refl w3).drew.nx k5)
        have hT5 := hT.out.nx ((Ex.refl w3).drew.nx k5)
        rw [sortN_length] at r5 hc5 ⊢
        rw [HL.out] at r5 hc5 ⊢
        have hL5 := HL.out
        have r5 : Rd 3 encN (· < w5.heap.size) w5 a5 n (sortN l) := r5
        refine hK.out _ _ k5 (fun _ => ?_)
        clear hK K
        try simp only [Act.put, List.setIfInBounds_toArray, List.set_cons_zero, List.set_cons_succ]
        refine wpAnyH_switch (S' := Ex w5) (fun _ hSw => Ex.nx k5 hSw) ?_
        clear hHeld
        have hHeld := Ex.refl w5
        refine wpAnyH_ready (rs := [5]) (by kernel_rfl) (by simp) ?_
        refine AllReadyH.cons (o := ⟨some 39, .call { callee := .value (.func 72), args := #[.tmp 35, .tmp 36, .tmp 38], argTypes := #[23, 3, 46] }, 23, "search.go:100", #[⟨1, .data⟩, ⟨2, .data⟩, ⟨4, .data⟩, ⟨1, .chain⟩], none⟩) rfl (fun K hK => ?_) AllReadyH.nil
        go_simp
        (with_reducible refine (group_p _ _ _ _ lev x.word _ r5 (fun _ hk => hk) (by omega) (fun y hy => HW.out y ((sortN_mem l y).1 hy)) HXW hT5).mono ?_)
        rintro e w6 ⟨a6, n6, c6, rfl, r6, k6⟩
        replace k6 : Ex w5 w6 := k6
        refine hK.out _ _ k6 (fun _ => ?_)
        clear hK K
        try simp only [Act.put, List.setIfInBounds_toArray, List.set_cons_zero, List.set_cons_succ]
        refine wpAnyH_switch (S' := Ex w6) (fun _ hSw => Ex.nx k6 hSw) ?_
        clear hHeld
        have hHeld := Ex.refl w6
        refine wpAnyH_take (i := 6) (oi := ⟨some 40, .call { callee := .builtin .len, args := #[.tmp 39], argTypes := #[23] }, 3, "search.go:100", #[⟨5, .data⟩], none⟩) (v := ?_) rfl (by kernel_rfl) (by kernel_rfl) (by kernel_rfl) (fun _ _ _ h => h) (Or.inl ⟨by rfl, ?hyr1x6⟩) (by assumption) ?restr1x6
        case hyr1x6 => intro wq hSw; (go_simp); (try with_reducible rfl)
        try simp only [Act.put, List.setIfInBounds_toArray, List.set_cons_zero, List.set_cons_succ]
        refine wpAnyH_done (by kernel_rfl) ?_ _
        have k7 := ((Ex.refl w3).drew.nx k5).nx k6
        obtain ⟨G, hG⟩ : ∃ G, G = groupN (sortN l) lev x.word := ⟨_, rfl⟩
        rw [← hG] at r6 RY
        have hGl : G.length = n6 := r6.1
        have hGs : G.length ≤ 1000 := by
          have : (groupN (sortN l) lev x.word).length ≤ (sortN l).length := List.length_filter_le _ _
          rw [sortN_length, HL.out] at this
          rw [hG]; omega
        have hn6 : n6 ≤ 1000 := by omega
        have GW : Hid (∀ y ∈ G, y.word < 4294967296) := Lib.hid (fun y hy => HW.out y ((sortN_mem l y).1 (by rw [hG] at hy; exact (List.mem_filter.1 hy).1)))
        have SG : Hid (Sl 3 encN w6 a6 n6 G) := Lib.hid (Rd.mono r6 (fun _ hk => hk.2))
        have TT6 := Lib.hid (hT5.nx k6)
        have BX := Lib.hid (B.nx k6)
        have E6 := Lib.hid (EX.nx k7)
        have HGL := Lib.hid hGl
        clear r5 r6 k5 k6 k7 hG B hT hs EX OS hT5 hp hsrt hm5 hc5 hGl hL5
        go_wp2_with fail
        go_loopw [9, 10, 41] (fun m r i wr => RnRel x lev G g w6 m r i wr) (fun _ _ i _ => n6 - (intOf i).toNat)
        case atStart => exact ⟨0, by omega, rfl, rfl, rfl, Ex.refl _⟩
        case round =>
          obtain ⟨k, hk, rfl, rfl, rfl, kw⟩ := hrel
          obtain ⟨wo, rfl⟩ : ∃ wo : World, wo = wr := ⟨_, rfl⟩
          rw [HGL.out] at hk
          by_cases hlt : k < n6
          · obtain ⟨x1, o1, y, rfl, hx1, hy, hc1⟩ := (SG.out.nx kw).at hlt
            have f0 : wo.cell? ⟨x1, o1 + k * 3, none⟩ = some (.int .i64 y.id) := hc1 0 _ rfl
            have f1 : wo.cell? ⟨x1, o1 + k * 3 + 1, none⟩ = some (.string y.key) := hc1 1 _ rfl
            have f2 : wo.cell? ⟨x1, o1 + k * 3 + 1 + 1, none⟩ = some (.int .u32 y.word) := by simpa [Nat.add_assoc] using hc1 2 _ rfl
            have SN := Lib.hid (runF_snoc x lev G k y hy)
            have hyw := GW.out y (List.mem_of_getElem? hy)
            obtain ⟨s, hs⟩ : ∃ s, s = runF x lev (G.take k) := ⟨_, rfl⟩
            have hsl := run_len x lev (G.take k)
            have htl : (G.take k).length ≤ k := by simp; omega
            rw [← hs] at SN hsl ⊢
            have E6 := Lib.hid (E6.out.nx kw)
            have BX := BX.out.nx kw
            have TT6 := Lib.hid (TT6.out.nx kw)
            have KW := Lib.hid kw
            obtain ⟨s1, s2⟩ := s
            have hs1 : s1 ≤ 1000 := by simp only at hsl; omega
            have hs2 : s2 ≤ 1000 := by simp only at hsl; omega
            clear hsl htl
            simp only at SN ⊢
            clear hs hc1 hy kw
            have BY := Blk.new wo [.int .i64 y.id, .string y.key, .int .u32 y.word] 48
            have kk := Ex.new wo (.cells #[.int .i64 y.id, .string y.key, .int .u32 y.word] 48)
            obtain ⟨w7, hw7⟩ : ∃ w7, w7 = wo.alloc (.cells #[.int .i64 y.id, .string y.key, .int .u32 y.word] 48) := ⟨_, rfl⟩
            obtain ⟨gy, hgy⟩ : ∃ gy, gy = wo.heap.size := ⟨_, rfl⟩
            replace BY : Blk w7 gy [.int .i64 y.id, .string y.key, .int .u32 y.word] 48 := by rw [hw7, hgy]; exact BY
            rw [← hw7] at kk
            have Hw7 := Lib.hid hw7
            have Hgy := Lib.hid hgy
            replace BX := BX.nx kk
            replace TT6 := Lib.hid (TT6.out.nx kk)
            replace KW := Lib.hid (KW.out.nx kk)
            clear kk hw7 hgy
            go_upto_region 8 with fail
            rw [← Hgy.out, ← Hw7.out]
            clear Hgy Hw7
            have x2 := BX.cell 2 _ rfl
            have y0 := BY.cell 0 _ rfl
            have y2 := BY.cell 2 _ rfl
            clear f0 f1 f2 BX BY
            by_cases hid : y.id = id
            · have hb : (y.id == id) = true := by simpa using hid
              have RR : Hid (RnRel x lev G g w6 (.int .i64 (s1 : Nat)) (.int .i64 0) (.int .i64 ((k : Int) + 1)) w7) := Lib.hid
                ⟨k + 1, by rw [HGL.out]; omega, by go_num, by rw [SN.out, step_brk]; unfold brkN; rw [show x.id = id from by have h := findN_mem (show (findN l id).2 = true by rw [← HF.out]); rw [← HF.out] at h; exact h.2, hb]; rfl,
                  by rw [SN.out, step_brk]; rfl; unfold brkN; rw [show x.id = id from by have h := findN_mem (show (findN l id).2 = true by rw [← HF.out]); rw [← HF.out] at h; exact h.2, hb]; rfl, KW.out⟩
              clear hid x2 y2
              go_wp2_with fail
              exact ⟨RR.out, by simp [intOf]; omega⟩
            · have hb : (y.id == id) = false := by simpa using hid
              have hxid : Hid (x.id = id) := Lib.hid (by have h := findN_mem (show (findN l id).2 = true by rw [← HF.out]); rw [← HF.out] at h; exact h.2)
              clear hid
              go_wp2_with fail
              (with_reducible refine (same_p _ _ _ _ HXW hyw TT6.out).mono ?_)
              rintro e w8 ⟨rfl, rfl⟩
              cases hsm : sameN x.word y.word (lev + 1) with
              | true =>
                have RR : Hid (RnRel x lev G g w6 (.int .i64 (s1 : Nat)) (.int .i64 0) (.int .i64 ((k : Int) + 1)) w7) := Lib.hid
                  ⟨k + 1, by rw [HGL.out]; omega, by go_num, by rw [SN.out, step_brk]; unfold brkN; rw [hsm]; simp, by rw [SN.out, step_brk]; rfl; unfold brkN; rw [hsm]; simp, KW.out⟩
                clear x2 y2
                go_wp2_with fail
                exact ⟨RR.out, by simp [intOf]; omega⟩
              | false =>
                have hbk : brkN x lev y = false := by unfold brkN; rw [hsm, hxid.out, hb]; rfl
                have RR : Hid (RnRel x lev G g w6 (.int .i64 ((max s1 (s2 + 1) : Nat) : Int)) (.int .i64 ((s2 : Int) + 1)) (.int .i64 ((k : Int) + 1)) w7) := Lib.hid
                  ⟨k + 1, by rw [HGL.out]; omega, by go_num, by rw [SN.out, step_free hbk], by rw [SN.out, step_free hbk]; go_num, KW.out⟩
                have hmx : max (s1 : Int) ((s2 : Int) + 1) = ((max s1 (s2 + 1) : Nat) : Int) := by omega
                have HMX := Lib.hid hmx
                clear x2 y2 hmx hbk
                go_wp2_with fail
                rw [HMX.out]
                exact ⟨RR.out, by simp [intOf]; omega⟩
          · obtain rfl : k = n6 := by omega
            have RZ : Hid (((runF x lev (G.take k)).1 : Nat) = runN l id lev) := Lib.hid (by rw [RY.out, List.take_of_length_le (by rw [HGL.out]; exact Nat.le_refl _)])
            rw [RZ.out]
            have E6 := Lib.hid (E6.out.nx kw)
            clear hk hlt kw
            go_wp2_with fail
            go_ret
            exact ⟨rfl, E6.out⟩
end Go.Proofs.YtkjlhcfocefhpaaDoor

/- Maps from numbers to any values, that the call itself makes. -/
namespace Go.Proofs.YtkjlhcfocefhpaaDoor
open Go.RowKit

/-- the value of the first entry with a key -/
def atV (es : List MapEntry) (x : Int) : Option Value := (es.find? fun e => match e.key with | .int .i64 k => k == x | _ => false).map (·.val)
def KeysI (es : List MapEntry) : Prop := ∀ e ∈ es, ∃ k : Int, e.key = .int .i64 k
/-- block b is a map that answers by f -/
def MapV (w : World) (b : Nat) (f : Int → Option Value) : Prop := ∃ (A : Array MapEntry) (clock : Nat), w.heap[b]? = some (.map A clock) ∧ KeysI A.toList ∧ ∀ x, atV A.toList x = f x
theorem MapV.made (w : World) : MapV (w.alloc (.map #[] 0)) w.heap.size (fun _ => none) := ⟨#[], 0, heap_new w _, by simp [KeysI], fun _ => rfl⟩
theorem MapV.chg {w w' : World} {b : Nat} {f : Int → Option Value} {S : Nat → Prop} (h : MapV w b f) (k : Chg S w w') (hb : S b) : MapV w' b f := by
  obtain ⟨A, c, h1, h2⟩ := h
  exact ⟨A, c, (k.block b hb).trans h1, h2⟩
theorem MapV.lt {w : World} {b : Nat} {f : Int → Option Value} (h : MapV w b f) : b < w.heap.size := by
  obtain ⟨A, c, h1, _⟩ := h
  exact heap_lt h1
theorem MapV.nx {w w' : World} {b : Nat} {f : Int → Option Value} (h : MapV w b f) (k : Ex w w') : MapV w' b f := h.chg k h.lt
theorem MapV.nxb {w w' : World} {b c : Nat} {f : Int → Option Value} (h : MapV w b f) (hb : b ≠ c) (k : Exb c w w') : MapV w' b f := h.chg k ⟨h.lt, hb⟩
theorem findNow_i (kind : TypeDesc) (hk : ∀ a b : Int, Instr.sameNow kind (.int .i64 a) (.int .i64 b) = some (a == b)) (x : Int) : ∀ (es : List MapEntry) (i : Nat), KeysI es →
    ∃ r, Instr.findNow kind (.int .i64 x) es i = some r ∧ r.map (·.2) = atV es x ∧ ∀ p, r = some p → ∃ j e, p = (i + j, e.val) ∧ es[j]? = some e ∧ e.key = .int .i64 x ∧ ∀ j' e', j' < j → es[j']? = some e' → e'.key ≠ .int .i64 x
  | [], i, _ => ⟨none, rfl, rfl, by intro p h; cases h⟩
  | e :: es, i, h => by
    obtain ⟨k, hke⟩ := h e (by simp)
    unfold Instr.findNow
    rw [hke, hk]
    by_cases hx : x = k
    · subst hx
      refine ⟨some (i, e.val), by simp, ?_, ?_⟩
      · unfold atV
        rw [List.find?_cons_of_pos (by rw [hke]; simp)]
        rfl
      · intro p hp
        cases hp
        exact ⟨0, e, rfl, rfl, hke, by intro j' e' hj; omega⟩
    · obtain ⟨r, h1, h2, h3⟩ := findNow_i kind hk x es (i + 1) (fun e he => h e (by simp [he]))
      have hxb : (x == k) = false := by simpa using hx
      refine ⟨r, by rw [hxb]; exact h1, ?_, ?_⟩
      · rw [h2]
        unfold atV
        rw [List.find?_cons_of_neg]
        rw [hke]
        simp
        exact fun h => hx h.symm
      · intro p hp
        obtain ⟨j, e', e1, e2, e3, e4⟩ := h3 p hp
        refine ⟨j + 1, e', by rw [e1]; congr 1; omega, e2, e3, ?_⟩
        intro j' e'' hj he
        cases j' with
        | zero =>
          cases he
          rw [hke]
          intro h
          cases h
          exact hx rfl
        | succ j' => exact e4 j' e'' (by omega) he
theorem same_i {n : TypeDesc} (h : n = .int .i64) (a b : Int) : Instr.sameNow n (.int .i64 a) (.int .i64 b) = some (a == b) := by
  subst h
  simp [Instr.sameNow]
theorem chk_i {P : Program} {w : World} {kt : TypeId} (hk : P.underlying kt = some (.int .i64)) (x : Int) (e : Bool) : (Instr.checkKey e 10000 kt (.int .i64 x)).run P w = .ok () w :=
  MapKept.run_checkKey (n := 9999) hk (by simp [MapKept.IsKey]) e
theorem fnd_i {P : Program} {w : World} {kt : TypeId} (hk : P.underlying kt = some (.int .i64)) (x : Int) (es : List MapEntry) {r : Option (Nat × Value)} (hr : Instr.findNow (.int .i64) (.int .i64 x) es 0 = some r) : (Instr.findKey kt (.int .i64 x) es).run P w = .ok r w := by
  unfold Instr.findKey
  simp only [Sem.run_bind, run_underlying hk, Result.andThen, hr]
  rfl
theorem MapV.look {P : Program} {w : World} {b : Nat} {f : Int → Option Value} (h : MapV w b f) {mt kt et : TypeId} {z : Value} (hm : P.underlying mt = some (.map kt et)) (hk : P.underlying kt = some (.int .i64)) (hz : (zeroValue et).run P w = .ok z w) (x : Int) :
    (Instr.lookup mt (.map (some b)) (.int .i64 x) true).run P w = .ok (.tuple #[(f x).getD z, .bool (f x).isSome]) w := by
  obtain ⟨A, c, h1, h2, h3⟩ := h
  obtain ⟨r, r1, r2, _⟩ := findNow_i (.int .i64) (same_i rfl) x A.toList 0 h2
  rw [h3 x] at r2
  cases r with
  | none =>
    have : f x = none := by simpa using r2.symm
    simp [Instr.lookup, run_underlying hm, MapKept.run_getObj_map h1, chk_i hk, fnd_i hk x _ r1, hz, this, Result.andThen]
  | some p =>
    have : f x = some p.2 := by simpa using r2.symm
    simp [Instr.lookup, run_underlying hm, MapKept.run_getObj_map h1, chk_i hk, fnd_i hk x _ r1, this, Result.andThen]
theorem MapV.look1 {P : Program} {w : World} {b : Nat} {f : Int → Option Value} (h : MapV w b f) {mt kt et : TypeId} {z : Value} (hm : P.underlying mt = some (.map kt et)) (hk : P.underlying kt = some (.int .i64)) (hz : (zeroValue et).run P w = .ok z w) (x : Int) :
    (Instr.lookup mt (.map (some b)) (.int .i64 x) false).run P w = .ok ((f x).getD z) w := by
  obtain ⟨A, c, h1, h2, h3⟩ := h
  obtain ⟨r, r1, r2, _⟩ := findNow_i (.int .i64) (same_i rfl) x A.toList 0 h2
  rw [h3 x] at r2
  cases r with
  | none =>
    have : f x = none := by simpa using r2.symm
    simp [Instr.lookup, run_underlying hm, MapKept.run_getObj_map h1, chk_i hk, fnd_i hk x _ r1, hz, this, Result.andThen]
  | some p =>
    have : f x = some p.2 := by simpa using r2.symm
    simp [Instr.lookup, run_underlying hm, MapKept.run_getObj_map h1, chk_i hk, fnd_i hk x _ r1, this, Result.andThen]
theorem atV_push (es : List MapEntry) (x y : Int) (v : Value) (t : Nat) (h : atV es x = none) : atV (es ++ [⟨.int .i64 x, v, t⟩]) y = if y = x then some v else atV es y := by
  unfold atV at *
  rw [List.find?_append]
  by_cases hy : y = x
  · subst hy
    rw [if_pos rfl]
    rw [Option.map_eq_none_iff] at h
    rw [h]
    simp
  · rw [if_neg hy]
    cases he : es.find? (fun e => match e.key with | .int .i64 k => k == y | _ => false) with
    | some e => rfl
    | none =>
      have : ¬ x = y := fun h => hy h.symm
      simp [this]
theorem atV_set (x : Int) (v : Value) (g : MapEntry → MapEntry) : ∀ (es : List MapEntry) (j : Nat) (e : MapEntry), KeysI es → es[j]? = some e → e.key = .int .i64 x → (∀ j' e', j' < j → es[j']? = some e' → e'.key ≠ .int .i64 x) →
    (g e).key = .int .i64 x → (g e).val = v → ∀ y, atV (es.modify j g) y = if y = x then some v else atV es y
  | [], j, e, _, he, _, _, _, _, _ => by simp at he
  | e0 :: es, 0, e, hK, he, hk, _, g1, g2, y => by
    cases he
    show atV (g e0 :: es) y = _
    unfold atV
    by_cases hy : y = x
    · subst hy
      rw [if_pos rfl, List.find?_cons_of_pos (by rw [g1]; simp)]
      rw [← g2]; rfl
    · rw [if_neg hy, List.find?_cons_of_neg (by rw [g1]; simp; exact fun h => hy h.symm), List.find?_cons_of_neg (by rw [hk]; simp; exact fun h => hy h.symm)]
  | e0 :: es, j + 1, e, hK, he, hk, hno, g1, g2, y => by
    have ih := atV_set x v g es j e (fun e he => hK e (by simp [he])) he hk (fun j' e' hj h => hno (j' + 1) e' (by omega) h) g1 g2 y
    show atV (e0 :: es.modify j g) y = _
    obtain ⟨k0, hk0⟩ := hK e0 (by simp)
    have hne : e0.key ≠ .int .i64 x := hno 0 e0 (by omega) rfl
    unfold atV at *
    by_cases h0 : k0 = y
    · have hyx : ¬ y = x := by intro h; apply hne; rw [hk0, h0, h]
      rw [if_neg hyx, List.find?_cons_of_pos (by rw [hk0]; simp [h0]), List.find?_cons_of_pos (by rw [hk0]; simp [h0])]
    · rw [List.find?_cons_of_neg (by rw [hk0]; simpa using h0), List.find?_cons_of_neg (by rw [hk0]; simpa using h0)]
      exact ih
theorem MapV.put {P : Program} {w : World} {b : Nat} {f : Int → Option Value} (h : MapV w b f) {mt kt et : TypeId} (hm : P.underlying mt = some (.map kt et)) (hk : P.underlying kt = some (.int .i64)) (x : Int) (v : Value) :
    ∃ w', (Instr.mapUpdate mt (.map (some b)) (.int .i64 x) v).run P w = .ok () w' ∧ MapV w' b (fun y => if y = x then some v else f y) ∧ Exb b w w' := by
  obtain ⟨A, c, h1, h2, h3⟩ := h
  obtain ⟨r, r1, r2, r3⟩ := findNow_i (.int .i64) (same_i rfl) x A.toList 0 h2
  have hlt := heap_lt h1
  have hch : ∀ o : Obj, Exb b w { w with heap := w.heap.setIfInBounds b o } := fun o =>
    ⟨rfl, rfl, rfl, by simp, fun k hk => by simp only []; rw [Array.getElem?_setIfInBounds_ne (fun e => hk.2 e.symm)]⟩
  cases r with
  | none =>
    have hf : atV A.toList x = none := by simpa using r2.symm
    refine ⟨{ w with heap := w.heap.setIfInBounds b (.map (A.push ⟨.int .i64 x, v, c⟩) (c + 1)) }, ?_, ⟨A.push ⟨.int .i64 x, v, c⟩, c + 1, by simp [hlt], ?_, fun y => ?_⟩, hch _⟩
    · simp [Instr.mapUpdate, run_underlying hm, MapKept.run_getObj_map h1, chk_i hk, fnd_i hk x _ r1, MapKept.run_setObj_map _ h1, Result.andThen]
    · intro e he
      rw [Array.toList_push] at he
      rcases List.mem_append.1 he with he | he
      · exact h2 e he
      · rw [List.mem_singleton.1 he]; exact ⟨x, rfl⟩
    · rw [Array.toList_push, atV_push _ _ _ _ _ hf, h3]
  | some p =>
    obtain ⟨j, e, e1, e2, e3, e4⟩ := r3 p rfl
    have hj : p.1 = j := by rw [e1]; simp
    obtain ⟨q, u⟩ := p
    simp only at hj
    subst hj
    have hA : A[q]? = some e := by rw [← Array.getElem?_toList]; exact e2
    refine ⟨{ w with heap := w.heap.setIfInBounds b (.map (A.modify q fun e => { e with key := .int .i64 x, val := v }) c) }, ?_, ⟨A.modify q fun e => { e with key := .int .i64 x, val := v }, c, by simp [hlt], ?_, fun y => ?_⟩, hch _⟩
    · simp [Instr.mapUpdate, run_underlying hm, MapKept.run_getObj_map h1, chk_i hk, fnd_i hk x _ r1, MapKept.run_setObj_map _ h1, hA, e3, Instr.keyThatStays, Instr.sameBits, Result.andThen]
    · intro e' he
      rw [Array.toList_modify] at he
      obtain ⟨i, hi⟩ := List.mem_iff_getElem?.1 he
      rw [List.getElem?_modify] at hi
      cases ha : A.toList[i]? with
      | none => rw [ha] at hi; cases hi
      | some e0 =>
        rw [ha] at hi
        have := h2 e0 (List.mem_of_getElem? ha)
        simp only [Option.map_eq_map, Option.map_some, Option.some.injEq] at hi
        split at hi
        · rw [← hi]; exact ⟨x, rfl⟩
        · rw [← hi]; exact this
    · rw [Array.toList_modify, atV_set x v _ A.toList q e h2 e2 e3 e4 rfl rfl y, h3]
end Go.Proofs.YtkjlhcfocefhpaaDoor

/- Route of the reference (printed by gen_rour.py). -/
namespace Go.Proofs.YtkjlhcfocefhpaaDoor
open Go.RowKit

theorem find_lk {L : List Lkd} {id : Int} {k : Nat} {d : Lkd} (hd : L[k]? = some d) (he : d.1 = id) (hno : ∀ j z, j < k → L[j]? = some z → z.1 ≠ id) : L.find? (fun c => c.1 == id) = some d := by
  rw [List.find?_eq_some_iff_getElem]
  obtain ⟨hk, e⟩ := List.getElem?_eq_some_iff.1 hd
  refine ⟨by simp [he], k, hk, e, fun j hj => ?_⟩
  have := hno j L[j] hj (List.getElem?_eq_getElem (by omega))
  simpa using this
theorem find_lk_none {L : List Lkd} {id : Int} (hno : ∀ j z, j < L.length → L[j]? = some z → z.1 ≠ id) : L.find? (fun c => c.1 == id) = none := by
  rw [List.find?_eq_none]
  intro c hc
  obtain ⟨j, hj⟩ := List.mem_iff_getElem?.1 hc
  have := hno j c (List.getElem?_eq_some_iff.1 hj).1 hj
  simpa using this
def AtkRel (L : List Lkd) (id : Int) (n : Nat) (w : World) (i : Value) (wr : World) : Prop := ∃ k : Nat, k ≤ n ∧ i = .int .i64 k ∧ Ex w wr ∧ ∀ j z, j < k → L[j]? = some z → z.1 ≠ id
def LkvPost (p : Int × Int) (w : World) (e : Ending) (w' : World) : Prop := e = .returned (.agg #[.int .i64 p.1, .int .i64 p.2]) ∧ Ex w w'
theorem blk2 {w : World} {g : Nat} {x y : Value} {ty : TypeId} (h : Blk w g [x, y] ty) : w.cell? ⟨g, 0, none⟩ = some x ∧ w.cell? ⟨g, 1, none⟩ = some y ∧ w.frozen? ⟨g, 0, none⟩ = false ∧ w.frozen? ⟨g, 1, none⟩ = false ∧ g < w.heap.size := ⟨h.cell 0 _ rfl, h.cell 1 _ rfl, h.free 0, h.free 1, h.lt⟩
set_option maxRecDepth 100000 in
set_option maxHeartbeats 2000000 in
theorem at_r (a : Option Addr) (n c : Nat) (L : List Lkd) (id lev : Int) (w : World) (h : LkL w a n L) (hn : n ≤ 1000000) (hlv : -9223372036854775808 ≤ lev ∧ lev ≤ 9223372036854775807) :
    Calls Tryd.prog 70 #[.slice a n c, .int .i64 id, .int .i64 lev] w (LkvPost (atL L id lev) w) := by
  have HL := Lib.hid h.len
  have k1 := Ex.new w (.cells #[.int .i64 0, .int .i64 0] 74)
  have B1 := Blk.new w [.int .i64 0, .int .i64 0] 74
  obtain ⟨w1, hw1⟩ : ∃ w1, w1 = w.alloc (.cells #[.int .i64 0, .int .i64 0] 74) := ⟨_, rfl⟩
  obtain ⟨g, hg⟩ : ∃ g, g = w.heap.size := ⟨_, rfl⟩
  have B1 : Blk w1 g [.int .i64 0, .int .i64 0] 74 := by rw [hw1, hg]; exact B1
  rw [← hw1] at k1
  have hgw : w.heap.size ≤ g := by omega
  have HW1 := Lib.hid hw1
  have HG := Lib.hid hg
  have S1 := Lib.hid (h.nx k1)
  have KE : Hid (∀ (wr : World) (v0 v1 : Value), Ex w1 wr → Ex w ((wr.setCell ⟨g, 0, none⟩ v0).setCell ⟨g, 1, none⟩ v1)) := Lib.hid (fun wr v0 v1 k => ((k1.nx k).setNew (p := ⟨g, 0, none⟩) _ hgw).setNew (p := ⟨g, 1, none⟩) _ hgw)
  clear h hw1 hg k1 hgw
  go_enter Tryd.func70, Tryd.ntmps70
  go_upto_region 1 with fail
  rw [← HG.out, ← HW1.out]
  go_wp2_with fail
  go_loopw [7] (fun i wr => AtkRel L id n w1 i wr) (fun i _ => n - (intOf i).toNat)
  case atStart => exact ⟨0, by omega, rfl, Ex.refl _, by intro j z h; omega⟩
  case round =>
    obtain ⟨k, hk, rfl, kw, hno⟩ := hrel
    obtain ⟨wo, rfl⟩ : ∃ wo : World, wo = wr := ⟨_, rfl⟩
    have HNO := Lib.hid hno
    obtain ⟨q0, q1, z0, z1, hgo⟩ := blk2 (B1.nx kw)
    have KO := Lib.hid (fun v0 v1 => KE.out wo v0 v1 kw)
    clear hno
    by_cases hlt : k < n
    · obtain ⟨x1, o1, a', n', c', d, rfl, hx1, hd, hc1, r1⟩ := NL.at (S1.out.nx kw) hlt
      have e0 : wo.cell? ⟨x1, o1 + k * 2, none⟩ = some (.int .i64 d.1) := hc1 0 _ rfl
      have e1 : wo.cell? ⟨x1, o1 + k * 2 + 1, none⟩ = some (.slice a' n' c') := hc1 1 _ rfl
      have HD := Lib.hid hd
      have hdl := r1.len
      clear hc1 hd
      by_cases hid : d.1 = id
      · have hb : (d.1 == id) = true := by simpa using hid
        have FD := find_lk HD.out hid HNO.out
        by_cases h0 : lev < 0
        · have AT : Hid (atL L id lev = (0, 0)) := Lib.hid (by unfold atL; rw [FD]; simp only; rw [if_pos h0])
          clear FD r1 kw hid hdl
          go_wp2_with fail
          refine bodyPost_ret (v := .agg #[.int .i64 0, .int .i64 0]) (by simp [results, Tryd.results70, go_sem, *]) rfl ⟨by rw [AT.out], KO.out _ _⟩
        · by_cases h1 : (n' : Int) ≤ lev
          · have AT : Hid (atL L id lev = (0, 0)) := Lib.hid (by unfold atL; rw [FD]; simp only; rw [if_neg h0, List.getElem?_eq_none (by omega)]; rfl)
            clear FD r1 kw hid hdl
            go_wp2_with fail
            refine bodyPost_ret (v := .agg #[.int .i64 0, .int .i64 0]) (by simp [results, Tryd.results70, go_sem, *]) rfl ⟨by rw [AT.out], KO.out _ _⟩
          · obtain ⟨m, rfl⟩ := Int.eq_ofNat_of_zero_le (show 0 ≤ lev by omega)
            obtain ⟨x2, o2, y, rfl, hx2, hy, hc2⟩ := r1.at (j := m) (by omega)
            have f0 : wo.cell? ⟨x2, o2 + m * 2, none⟩ = some (.int .i64 y.1) := hc2 0 _ rfl
            have f1 : wo.cell? ⟨x2, o2 + m * 2 + 1, none⟩ = some (.int .i64 y.2) := hc2 1 _ rfl
            have AT : Hid (atL L id (m : Int) = y) := Lib.hid (by unfold atL; rw [FD]; simp only; rw [if_neg h0]; show d.2[m]?.getD (0, 0) = y; rw [hy]; rfl)
            have hgx : ¬ g = x2 ∨ True := .inr trivial
            clear FD r1 kw hid hdl hc2 hy hgx
            go_wp2_with fail
            refine bodyPost_ret (v := .agg #[.int .i64 y.1, .int .i64 y.2]) (by simp [results, Tryd.results70, go_sem, *]) rfl ⟨by rw [AT.out], KO.out _ _⟩
      · have hb : (d.1 == id) = false := by simpa using hid
        have HI := Lib.hid hid
        have KW := Lib.hid kw
        clear r1 hdl kw hid
        go_wp2_with fail
        refine ⟨⟨k + 1, by omega, by go_num, KW.out, fun j z hj hz => ?_⟩, by simp [intOf]; omega⟩
        rcases Nat.lt_or_ge j k with h | h
        · exact HNO.out j z h hz
        · obtain rfl : j = k := by omega
          rw [Option.some.inj (hz.symm.trans HD.out)]
          exact HI.out
    · obtain rfl : k = n := by omega
      have AT : Hid (atL L id lev = (0, 0)) := Lib.hid (by unfold atL; rw [find_lk_none (fun j z hj hz => HNO.out j z (by rw [← HL.out]; exact hj) hz)])
      clear hk hlt kw
      go_wp2_with fail
      refine bodyPost_ret (v := .agg #[.int .i64 0, .int .i64 0]) (by simp [results, Tryd.results70, go_sem, *]) rfl ⟨by rw [AT.out], KO.out _ _⟩
set_option maxHeartbeats 1000000 in
theorem top_r (a : Option Addr) (n c : Nat) (L : List Lkd) (id : Int) (w : World) (h : LkL w a n L) (hn : n ≤ 1000000) (hs : ∀ c ∈ L, c.2.length ≤ 9223372036854775807) :
    Calls Tryd.prog 68 #[.slice a n c, .int .i64 id] w fun e w' => e = .returned (.int .i64 (topL L id)) ∧ Ex w w' := by
  have HL := Lib.hid h.len
  have S1 := Lib.hid h
  have HS := Lib.hid hs
  clear h hs
  go_enter Tryd.func68, Tryd.ntmps68
  go_wp2_with fail
  go_loopw [5] (fun i wr => AtkRel L id n w i wr) (fun i _ => n - (intOf i).toNat)
  case atStart => exact ⟨0, by omega, rfl, Ex.refl _, by intro j z h; omega⟩
  case round =>
    obtain ⟨k, hk, rfl, kw, hno⟩ := hrel
    obtain ⟨wo, rfl⟩ : ∃ wo : World, wo = wr := ⟨_, rfl⟩
    have HNO := Lib.hid hno
    have KW := Lib.hid kw
    clear hno
    by_cases hlt : k < n
    · obtain ⟨x1, o1, a', n', c', d, rfl, hx1, hd, hc1, r1⟩ := NL.at (S1.out.nx kw) hlt
      have e0 : wo.cell? ⟨x1, o1 + k * 2, none⟩ = some (.int .i64 d.1) := hc1 0 _ rfl
      have e1 : wo.cell? ⟨x1, o1 + k * 2 + 1, none⟩ = some (.slice a' n' c') := hc1 1 _ rfl
      have HD := Lib.hid hd
      have hdl := r1.len
      have hnb : n' ≤ 9223372036854775807 := by rw [← hdl]; exact HS.out d (List.mem_of_getElem? hd)
      clear hc1 hd r1 kw
      by_cases hid : d.1 = id
      · have hb : (d.1 == id) = true := by simpa using hid
        have FD := find_lk HD.out hid HNO.out
        have AT : Hid (topL L id = min ((n' : Int) - 1) 16) := Lib.hid (by unfold topL; rw [FD]; simp only; rw [hdl])
        clear FD hid hdl
        by_cases h16 : (n' : Int) - 1 ≤ 16
        · have em : min ((n' : Int) - 1) 16 = (n' : Int) - 1 := by omega
          have AT2 := Lib.hid (AT.out.trans em)
          go_wp2_with fail
          go_ret
          exact ⟨by rw [AT2.out]; rfl, KW.out⟩
        · have em : min ((n' : Int) - 1) 16 = 16 := by omega
          have AT2 := Lib.hid (AT.out.trans em)
          go_wp2_with fail
          go_ret
          exact ⟨by rw [AT2.out]; rfl, KW.out⟩
      · have hb : (d.1 == id) = false := by simpa using hid
        have HI := Lib.hid hid
        clear hdl hid
        go_wp2_with fail
        refine ⟨⟨k + 1, by omega, by go_num, KW.out, fun j z hj hz => ?_⟩, by simp [intOf]; omega⟩
        rcases Nat.lt_or_ge j k with h | h
        · exact HNO.out j z h hz
        · obtain rfl : j = k := by omega
          rw [Option.some.inj (hz.symm.trans HD.out)]
          exact HI.out
    · obtain rfl : k = n := by omega
      have AT : Hid (topL L id = -1) := Lib.hid (by unfold topL; rw [find_lk_none (fun j z hj hz => HNO.out j z (by rw [← HL.out]; exact hj) hz)])
      clear hk hlt kw
      go_wp2_with fail
      go_ret
      exact ⟨by rw [AT.out]; rfl, KW.out⟩
/-- what next returns: a node, and whether the search hops there -/
def NxPost (o : Option Nd) (w : World) (e : Ending) (w' : World) : Prop := ∃ (Y : Nd) (ok : Bool), e = .returned (.tuple #[.agg #[.int .i64 Y.id, .string Y.key, .int .u32 Y.word], .bool ok]) ∧ o = (if ok = true then some Y else none) ∧ Ex w w'
def RH (g : Nat) (wx wq : World) : Prop := Exb g wx wq ∧ ∃ a b c, Blk wq g [a, b, c] 48
theorem le_not (a b : List UInt8) : (Op.bytesLess a b || a == b) = !Op.bytesLess b a := by
  rcases bl_tri a b with ⟨h1, h2, h3⟩ | ⟨h1, h2, h3⟩ | ⟨h1, h2, h3⟩
  · rw [h1, h2]; rfl
  · rw [h1, bytesLess_irrefl]; simp
  · rw [h1, h2]; simpa using h3
set_option maxRecDepth 100000 in
set_option maxHeartbeats 4000000 in
theorem next_r (a : Option Addr) (n c : Nat) (N : List Nd) (a2 : Option Addr) (n2 c2 : Nat) (L : List Lkd) (x : Nd) (s : ByteArray) (lev : Nat) (right : Bool) (w : World) (h : Sl 3 encN w a n N) (hn : n ≤ 1000) (h2 : LkL w a2 n2 L) (hn2 : n2 ≤ 1000000) (hlv : lev ≤ 1000) :
    Calls Tryd.prog 69 #[.slice a n c, .slice a2 n2 c2, .agg #[.int .i64 x.id, .string x.key, .int .u32 x.word], .string s, .int .i64 lev, .bool right] w (NxPost (hopN N L s.toList right x lev) w) := by
  have B8 := Blk.new w [.int .i64 x.id, .string x.key, .int .u32 x.word] 48
  have k1 := Ex.new w (.cells #[.int .i64 x.id, .string x.key, .int .u32 x.word] 48)
  have B12 := Blk.new (w.alloc (.cells #[.int .i64 x.id, .string x.key, .int .u32 x.word] 48)) [.int .i64 0, .string ⟨#[]⟩, .int .u32 0] 48
  have k2 := Ex.new (w.alloc (.cells #[.int .i64 x.id, .string x.key, .int .u32 x.word] 48)) (.cells #[.int .i64 0, .string ⟨#[]⟩, .int .u32 0] 48)
  have B8 := B8.nx k2
  obtain ⟨w1, hw1⟩ : ∃ w1, w1 = (w.alloc (.cells #[.int .i64 x.id, .string x.key, .int .u32 x.word] 48)).alloc (.cells #[.int .i64 0, .string ⟨#[]⟩, .int .u32 0] 48) := ⟨_, rfl⟩
  obtain ⟨g8, hg8⟩ : ∃ g8, g8 = w.heap.size := ⟨_, rfl⟩
  obtain ⟨g12, hg12⟩ : ∃ g12, g12 = w.heap.size + 1 := ⟨_, rfl⟩
  have B8 : Blk w1 g8 [.int .i64 x.id, .string x.key, .int .u32 x.word] 48 := by rw [hw1, hg8]; exact B8
  have B12 : Blk w1 g12 [.int .i64 0, .string ⟨#[]⟩, .int .u32 0] 48 := by rw [hw1, hg12]; simpa using B12
  have k1 := k1.nx k2
  rw [← hw1] at k1
  have hgw : w.heap.size ≤ g12 := by omega
  have hgg : g8 < g12 := by omega
  have HW1 := Lib.hid hw1
  have HG8 := Lib.hid hg8
  have HG12 := Lib.hid hg12
  have SN := h.nx k1
  have SL := h2.nx k1
  have b0 := B8.cell 0 _ rfl
  have EX := k1
  clear h h2 hw1 hg8 hg12 k1 k2
  go_enter Tryd.func69, Tryd.ntmps69
  go_upto_region 1 with fail
  rw [← HG12.out, ← HW1.out, ← HG8.out]
  clear HG12 HW1 HG8
  go_wp2_with fail
  (with_reducible refine (at_r _ _ _ _ _ _ _ SL hn2 (by omega)).mono ?_)
  rintro e w2 ⟨rfl, kk⟩
  obtain ⟨P, hP⟩ : ∃ P, P = atL L x.id (lev : Int) := ⟨_, rfl⟩
  rw [← hP]
  have HP := Lib.hid hP
  clear hP
  replace SN := SN.nx kk
  replace EX := EX.nx kk
  replace B8 := B8.nx kk
  replace B12 := B12.nx kk
  clear kk SL b0
  have B14 := Blk.new w2 [.int .i64 P.1, .int .i64 P.2] 74
  have kk := Ex.new w2 (.cells #[.int .i64 P.1, .int .i64 P.2] 74)
  obtain ⟨w3, hw3⟩ : ∃ w3, w3 = w2.alloc (.cells #[.int .i64 P.1, .int .i64 P.2] 74) := ⟨_, rfl⟩
  obtain ⟨g14, hg14⟩ : ∃ g14, g14 = w2.heap.size := ⟨_, rfl⟩
  have B14 : Blk w3 g14 [.int .i64 P.1, .int .i64 P.2] 74 := by rw [hw3, hg14]; exact B14
  rw [← hw3] at kk
  have HW3 := Lib.hid hw3
  have HG14 := Lib.hid hg14
  replace SN := SN.nx kk
  replace EX := EX.nx kk
  replace B8 := B8.nx kk
  replace B12 := B12.nx kk
  have b0 := B14.cell 0 _ rfl
  have b1 := B14.cell 1 _ rfl
  clear kk hw3 hg14
  go_upto_region 2 with fail
  rw [← HG14.out, ← HW3.out]
  clear HG14 HW3
  cases right with
  | true =>
    go_wp2_with fail
    (with_reducible refine (find_r _ _ _ _ _ _ SN (by omega)).mono ?_)
    rintro e w5 ⟨rfl, kk⟩
    obtain ⟨FR, hFR⟩ : ∃ FR, FR = findN N P.2 := ⟨_, rfl⟩
    rw [← hFR]
    have HFR := Lib.hid (hFR.trans (by rw [HP.out]))
    replace EX := EX.nx kk
    replace B8 := B8.nx kk
    replace B12 := B12.nx kk
    obtain ⟨Y, ok⟩ := FR
    unfold Nd.val
    simp only
    clear kk hFR SN B14 b0 b1
    have BY := Blk.new w5 [.int .i64 Y.id, .string Y.key, .int .u32 Y.word] 48
    have kk := Ex.new w5 (.cells #[.int .i64 Y.id, .string Y.key, .int .u32 Y.word] 48)
    obtain ⟨wx, hwx⟩ : ∃ wx, wx = w5.alloc (.cells #[.int .i64 Y.id, .string Y.key, .int .u32 Y.word] 48) := ⟨_, rfl⟩
    obtain ⟨gy, hgy⟩ : ∃ gy, gy = w5.heap.size := ⟨_, rfl⟩
    have BY : Blk wx gy [.int .i64 Y.id, .string Y.key, .int .u32 Y.word] 48 := by rw [hwx, hgy]; exact BY
    rw [← hwx] at kk
    have hg12y : g12 < gy := by rw [hgy]; exact B12.lt
    have HWX := Lib.hid hwx
    have HGY := Lib.hid hgy
    have EX := EX.nx kk
    replace B8 := B8.nx kk
    replace B12 := B12.nx kk
    clear kk hwx hgy
    have y0 := BY.cell 0 _ rfl
    have y1 := BY.cell 1 _ rfl
    have y2 := BY.cell 2 _ rfl
    have x1 := B8.cell 1 _ rfl
    have hyg : gy < wx.heap.size ∧ gy ≠ g12 := ⟨BY.lt, by omega⟩
    have hxg : g8 < wx.heap.size ∧ g8 ≠ g12 := ⟨B8.lt, by omega⟩
    have FIN := Lib.hid (fun (cur : World) (k : Exb g12 wx cur) => (Exl.nxb (b := g12) (w := w) ⟨EX, hgw⟩ k).1)
    clear EX B8 BY
    go_upto_region 4 with fail
    rw [← HGY.out, ← HWX.out]
    clear HGY HWX
    cases ok with
    | false =>
      have HO : Hid (hopN N L s.toList true x lev = none) := Lib.hid (by unfold hopN; rw [if_pos rfl, ← HFR.out]; simp)
      clear HFR
      refine wp_region_held_drew (S := RH g12 wx) (by kernel_rfl) (⟨(Exb.refl g12 wx).drew, _, _, _, B12⟩) (fun hHeld => ?_)
      refine wpAnyH_take (i := 0) (oi := ⟨some 32, .load 48 (.tmp 15), 48, "ref.go:28", #[], none⟩) (v := ?_) rfl (by kernel_rfl) (by kernel_rfl) (by kernel_rfl) (fun _ _ _ h => h) (Or.inl ⟨by rfl, ?hyr1x0q1⟩) (by assumption) ?restr1x0q1
      case hyr1x0q1 => intro wq hSw; (have c0 := Chg.cellv hSw.1 y0 hyg; have c1 := Chg.cellv hSw.1 y1 hyg; have c2 := Chg.cellv hSw.1 y2 hyg; go_simp); (try with_reducible rfl)
      try simp only [Act.put, List.setIfInBounds_toArray, List.set_cons_zero, List.set_cons_succ]
      refine wpAnyH_take (i := 1) (oi := ⟨some 33, .move (.tmp 16), 4, "ref.go:28", #[], none⟩) (v := ?_) rfl (by kernel_rfl) (by kernel_rfl) (by kernel_rfl) (fun _ _ _ h => h) (Or.inl ⟨by rfl, ?hyr1x1q4⟩) (by assumption) ?restr1x1q4
      case hyr1x1q4 => intro wq hSw; (go_simp); (try with_reducible rfl)
      try simp only [Act.put, List.setIfInBounds_toArray, List.set_cons_zero, List.set_cons_succ]
      refine wpAnyH_take (i := 2) (oi := ⟨some 34, .move (.tmp 33), 4, "ref.go:28", #[⟨1, .data⟩], none⟩) (v := ?_) rfl (by kernel_rfl) (by kernel_rfl) (by kernel_rfl) (fun _ _ _ h => h) (Or.inl ⟨by rfl, ?hyr1x2q7⟩) (by assumption) ?restr1x2q7
      case hyr1x2q7 => intro wq hSw; (go_simp); (try with_reducible rfl)
      try simp only [Act.put, List.setIfInBounds_toArray, List.set_cons_zero, List.set_cons_succ]
      refine wpAnyH_take (i := 3) (oi := ⟨some 35, .fieldAddr 48 (.tmp 15) 1, 0, "ref.go:28", #[⟨2, .guard⟩], some (2, true)⟩) (v := undef) rfl (by kernel_rfl) (by kernel_rfl) (by kernel_rfl) (fun _ _ _ h => h) (Or.inr ⟨by rfl, rfl⟩) (by assumption) ?_
      try simp only [Act.put, List.setIfInBounds_toArray, List.set_cons_zero, List.set_cons_succ]
      refine wpAnyH_take (i := 4) (oi := ⟨some 36, .load 9 (.tmp 35), 9, "ref.go:28", #[⟨3, .data⟩, ⟨2, .guard⟩], some (2, true)⟩) (v := undef) rfl (by kernel_rfl) (by kernel_rfl) (by kernel_rfl) (fun _ _ _ h => h) (Or.inr ⟨by rfl, rfl⟩) (by assumption) ?_
      try simp only [Act.put, List.setIfInBounds_toArray, List.set_cons_zero, List.set_cons_succ]
      refine wpAnyH_take (i := 5) (oi := ⟨some 37, .fieldAddr 48 (.tmp 8) 1, 0, "ref.go:28", #[⟨2, .guard⟩], some (2, true)⟩) (v := undef) rfl (by kernel_rfl) (by kernel_rfl) (by kernel_rfl) (fun _ _ _ h => h) (Or.inr ⟨by rfl, rfl⟩) (by assumption) ?_
      try simp only [Act.put, List.setIfInBounds_toArray, List.set_cons_zero, List.set_cons_succ]
      refine wpAnyH_take (i := 6) (oi := ⟨some 38, .load 9 (.tmp 37), 9, "ref.go:28", #[⟨5, .data⟩, ⟨2, .guard⟩], some (2, true)⟩) (v := undef) rfl (by kernel_rfl) (by kernel_rfl) (by kernel_rfl) (fun _ _ _ h => h) (Or.inr ⟨by rfl, rfl⟩) (by assumption) ?_
      try simp only [Act.put, List.setIfInBounds_toArray, List.set_cons_zero, List.set_cons_succ]
      refine wpAnyH_take (i := 7) (oi := ⟨some 39, .binOp .gtr 9 (.tmp 36) (.tmp 38) 9, 4, "ref.go:28", #[⟨4, .data⟩, ⟨6, .data⟩, ⟨2, .guard⟩], some (2, true)⟩) (v := undef) rfl (by kernel_rfl) (by kernel_rfl) (by kernel_rfl) (fun _ _ _ h => h) (Or.inr ⟨by rfl, rfl⟩) (by assumption) ?_
      try simp only [Act.put, List.setIfInBounds_toArray, List.set_cons_zero, List.set_cons_succ]
      refine wpAnyH_take (i := 8) (oi := ⟨some 40, .pick (.tmp 34) (.tmp 39) (.const (.bool false)), 4, "ref.go:28", #[⟨2, .data⟩, ⟨7, .data⟩], none⟩) (v := ?_) rfl (by kernel_rfl) (by kernel_rfl) (by kernel_rfl) (fun _ _ _ h => h) (Or.inl ⟨by rfl, ?hyr1x8q20⟩) (by assumption) ?restr1x8q20
      case hyr1x8q20 => intro wq hSw; (go_simp); (try with_reducible rfl)
      try simp only [Act.put, List.setIfInBounds_toArray, List.set_cons_zero, List.set_cons_succ]
      refine wpAnyH_take (i := 9) (oi := ⟨some 41, .move (.tmp 40), 4, "ref.go:28", #[⟨8, .data⟩, ⟨2, .chain⟩], none⟩) (v := ?_) rfl (by kernel_rfl) (by kernel_rfl) (by kernel_rfl) (fun _ _ _ h => h) (Or.inl ⟨by rfl, ?hyr1x9q23⟩) (by assumption) ?restr1x9q23
      case hyr1x9q23 => intro wq hSw; (go_simp); (try with_reducible rfl)
      try simp only [Act.put, List.setIfInBounds_toArray, List.set_cons_zero, List.set_cons_succ]
      refine wpAnyH_take (i := 10) (oi := ⟨some 42, .fieldAddr 48 (.tmp 15) 1, 0, "ref.go:28", #[⟨9, .guard⟩, { on := 15, ground := Ground.gcOnly Departure.lateStores }], some (9, true)⟩) (v := undef) rfl (by kernel_rfl) (by kernel_rfl) (by kernel_rfl) (fun _ _ _ h => h) (Or.inr ⟨by rfl, rfl⟩) (by assumption) ?_
      try simp only [Act.put, List.setIfInBounds_toArray, List.set_cons_zero, List.set_cons_succ]
      refine wpAnyH_take (i := 11) (oi := ⟨some 43, .load 9 (.tmp 42), 9, "ref.go:28", #[⟨10, .data⟩, ⟨9, .guard⟩, { on := 15, ground := Ground.gcOnly Departure.lateStores }], some (9, true)⟩) (v := undef) rfl (by kernel_rfl) (by kernel_rfl) (by kernel_rfl) (fun _ _ _ h => h) (Or.inr ⟨by rfl, rfl⟩) (by assumption) ?_
      try simp only [Act.put, List.setIfInBounds_toArray, List.set_cons_zero, List.set_cons_succ]
      refine wpAnyH_take (i := 12) (oi := ⟨some 44, .move (.tmp 3), 9, "ref.go:28", #[⟨9, .guard⟩, { on := 15, ground := Ground.gcOnly Departure.lateStores }], some (9, true)⟩) (v := undef) rfl (by kernel_rfl) (by kernel_rfl) (by kernel_rfl) (fun _ _ _ h => h) (Or.inr ⟨by rfl, rfl⟩) (by assumption) ?_
      try simp only [Act.put, List.setIfInBounds_toArray, List.set_cons_zero, List.set_cons_succ]
      refine wpAnyH_take (i := 13) (oi := ⟨some 45, .binOp .leq 9 (.tmp 43) (.tmp 44) 9, 4, "ref.go:28", #[⟨11, .data⟩, ⟨12, .data⟩, ⟨9, .guard⟩, { on := 15, ground := Ground.gcOnly Departure.lateStores }], some (9, true)⟩) (v := undef) rfl (by kernel_rfl) (by kernel_rfl) (by kernel_rfl) (fun _ _ _ h => h) (Or.inr ⟨by rfl, rfl⟩) (by assumption) ?_
      try simp only [Act.put, List.setIfInBounds_toArray, List.set_cons_zero, List.set_cons_succ]
      refine wpAnyH_take (i := 14) (oi := ⟨some 46, .pick (.tmp 41) (.tmp 45) (.const (.bool false)), 4, "ref.go:28", #[⟨9, .data⟩, ⟨13, .data⟩, { on := 15, ground := Ground.gcOnly Departure.lateStores }], none⟩) (v := ?_) rfl (by kernel_rfl) (by kernel_rfl) (by kernel_rfl) (fun _ _ _ h => h) (Or.inl ⟨by rfl, ?hyr1x14q34⟩) (by assumption) ?restr1x14q34
      case hyr1x14q34 => intro wq hSw; (go_simp); (try with_reducible rfl)
      try simp only [Act.put, List.setIfInBounds_toArray, List.set_cons_zero, List.set_cons_succ]
      refine wpAnyH_ready (rs := [15]) (by kernel_rfl) (by simp) ?_
      refine AllReadyH.cons (o := ⟨none, .store 48 (.tmp 12) (.tmp 32), 0, "ref.go:28", #[⟨0, .data⟩, ⟨9, .chain⟩, ⟨0, .phase⟩, { on := 1, ground := Ground.textOnly Departure.lateStores }, { on := 2, ground := Ground.textOnly Departure.lateStores }, { on := 3, ground := Ground.textOnly Departure.lateStores }, { on := 4, ground := Ground.textOnly Departure.lateStores }, { on := 5, ground := Ground.textOnly Departure.lateStores }, { on := 6, ground := Ground.textOnly Departure.lateStores }, { on := 7, ground := Ground.textOnly Departure.lateStores }, { on := 8, ground := Ground.textOnly Departure.lateStores }, { on := 9, ground := Ground.textOnly Departure.lateStores }, { on := 10, ground := Ground.textOnly Departure.lateStores }, { on := 11, ground := Ground.textOnly Departure.lateStores }, { on := 12, ground := Ground.textOnly Departure.lateStores }, { on := 13, ground := Ground.textOnly Departure.lateStores }, { on := 14, ground := Ground.textOnly Departure.lateStores }], none⟩) rfl (fun K hK => ?_) AllReadyH.nil
      have q0 := B12.cell 0 _ rfl
      have q1 := B12.cell 1 _ rfl
      have q2 := B12.cell 2 _ rfl
      have z0 := B12.free 0
      have z1 := B12.free 1
      have z2 := B12.free 2
      have KB := ((B12.set 0 (.int .i64 Y.id)).set 1 (.string Y.key)).set 2 (.int .u32 Y.word)
      simp only [List.set_cons_zero, List.set_cons_succ] at KB
      go_simp
      clear q0 q1 q2 z0 z1 z2
      refine hK.out _ _ (⟨((((Exb.refl g12 wx).setB (p := ⟨g12, 0, none⟩) (.int .i64 Y.id) rfl).setB (p := ⟨g12, 1, none⟩) (.string Y.key) rfl).setB (p := ⟨g12, 2, none⟩) (.int .u32 Y.word) rfl).drew, _, _, _, KB⟩) (fun hHeld => ?_)
      clear hK K
      try simp only [Act.put, List.setIfInBounds_toArray, List.set_cons_zero, List.set_cons_succ]
      refine wpAnyH_take (i := 16) (oi := ⟨some 13, .assign (.tmp 46), 4, "ref.go:28", #[⟨14, .data⟩, ⟨15, .chain⟩, ⟨0, .phase⟩, ⟨1, .phase⟩, ⟨2, .phase⟩, ⟨3, .phase⟩, ⟨4, .phase⟩, ⟨5, .phase⟩, ⟨6, .phase⟩, ⟨7, .phase⟩, ⟨8, .phase⟩, ⟨9, .phase⟩, ⟨10, .phase⟩, ⟨11, .phase⟩, ⟨12, .phase⟩, ⟨13, .phase⟩, ⟨14, .phase⟩, ⟨15, .phase⟩], none⟩) (v := ?_) rfl (by kernel_rfl) (by kernel_rfl) (by kernel_rfl) (fun _ _ _ h => h) (Or.inl ⟨by rfl, ?hyr1x16q52⟩) (by assumption) ?restr1x16q52
      case hyr1x16q52 => intro wq hSw; (go_simp); (try with_reducible rfl)
      try simp only [Act.put, List.setIfInBounds_toArray, List.set_cons_zero, List.set_cons_succ]
      refine wpAnyH_done (by kernel_rfl) ?_ _
      have q0 := KB.cell 0 _ rfl
      have q1 := KB.cell 1 _ rfl
      have q2 := KB.cell 2 _ rfl
      have KF := FIN.out _ hHeld.1
      clear hHeld KB
      go_wp2_with fail
      refine bodyPost_ret (v := .tuple #[.agg #[.int .i64 Y.id, .string Y.key, .int .u32 Y.word], .bool (false)]) (by simp [results, Tryd.results69, go_sem, *]) rfl ⟨Y, false, rfl, HO.out, KF⟩
    | true =>
      cases hless : Op.bytesLess x.key.toList Y.key.toList with
      | false =>
        have HO : Hid (hopN N L s.toList true x lev = none) := Lib.hid (by unfold hopN; rw [if_pos rfl, ← HFR.out]; simp [hless])
        have hgt : (Op.bytesLess Y.key.toList x.key.toList || Y.key.toList == x.key.toList) = true := by
          rcases bl_tri Y.key.toList x.key.toList with ⟨h, _⟩ | ⟨h, _⟩ | ⟨h, _⟩
          · rw [h]; rfl
          · rw [h]; simp
          · rw [hless] at h; cases h
        obtain ⟨gb, hgb⟩ : ∃ gb, gb = (Op.bytesLess Y.key.toList x.key.toList || Y.key.toList == x.key.toList) := ⟨_, rfl⟩
        clear HFR hgb gb
        rcases Bool.or_eq_true_iff.1 hgt with g1 | g1
        · clear hgt
          refine wp_region_held_drew (S := RH g12 wx) (by kernel_rfl) (⟨(Exb.refl g12 wx).drew, _, _, _, B12⟩) (fun hHeld => ?_)
          refine wpAnyH_take (i := 0) (oi := ⟨some 32, .load 48 (.tmp 15), 48, "ref.go:28", #[], none⟩) (v := ?_) rfl (by kernel_rfl) (by kernel_rfl) (by kernel_rfl) (fun _ _ _ h => h) (Or.inl ⟨by rfl, ?hyr2x0q1⟩) (by assumption) ?restr2x0q1
          case hyr2x0q1 => intro wq hSw; (have c0 := Chg.cellv hSw.1 y0 hyg; have c1 := Chg.cellv hSw.1 y1 hyg; have c2 := Chg.cellv hSw.1 y2 hyg; go_simp); (try with_reducible rfl)
          try simp only [Act.put, List.setIfInBounds_toArray, List.set_cons_zero, List.set_cons_succ]
          refine wpAnyH_take (i := 1) (oi := ⟨some 33, .move (.tmp 16), 4, "ref.go:28", #[], none⟩) (v := ?_) rfl (by kernel_rfl) (by kernel_rfl) (by kernel_rfl) (fun _ _ _ h => h) (Or.inl ⟨by rfl, ?hyr2x1q4⟩) (by assumption) ?restr2x1q4
          case hyr2x1q4 => intro wq hSw; (go_simp); (try with_reducible rfl)
          try simp only [Act.put, List.setIfInBounds_toArray, List.set_cons_zero, List.set_cons_succ]
          refine wpAnyH_take (i := 2) (oi := ⟨some 34, .move (.tmp 33), 4, "ref.go:28", #[⟨1, .data⟩], none⟩) (v := ?_) rfl (by kernel_rfl) (by kernel_rfl) (by kernel_rfl) (fun _ _ _ h => h) (Or.inl ⟨by rfl, ?hyr2x2q7⟩) (by assumption) ?restr2x2q7
          case hyr2x2q7 => intro wq hSw; (go_simp); (try with_reducible rfl)
          try simp only [Act.put, List.setIfInBounds_toArray, List.set_cons_zero, List.set_cons_succ]
          refine wpAnyH_take (i := 3) (oi := ⟨some 35, .fieldAddr 48 (.tmp 15) 1, 0, "ref.go:28", #[⟨2, .guard⟩], some (2, true)⟩) (v := ?_) rfl (by kernel_rfl) (by kernel_rfl) (by kernel_rfl) (fun _ _ _ h => h) (Or.inl ⟨by rfl, ?hyr2x3q10⟩) (by assumption) ?restr2x3q10
          case hyr2x3q10 => intro wq hSw; (go_simp); (try with_reducible rfl)
          try simp only [Act.put, List.setIfInBounds_toArray, List.set_cons_zero, List.set_cons_succ]
          refine wpAnyH_take (i := 4) (oi := ⟨some 36, .load 9 (.tmp 35), 9, "ref.go:28", #[⟨3, .data⟩, ⟨2, .guard⟩], some (2, true)⟩) (v := ?_) rfl (by kernel_rfl) (by kernel_rfl) (by kernel_rfl) (fun _ _ _ h => h) (Or.inl ⟨by rfl, ?hyr2x4q13⟩) (by assumption) ?restr2x4q13
          case hyr2x4q13 => intro wq hSw; (have c1 := Chg.cellv hSw.1 y1 hyg; go_simp); (try with_reducible rfl)
          try simp only [Act.put, List.setIfInBounds_toArray, List.set_cons_zero, List.set_cons_succ]
          refine wpAnyH_take (i := 5) (oi := ⟨some 37, .fieldAddr 48 (.tmp 8) 1, 0, "ref.go:28", #[⟨2, .guard⟩], some (2, true)⟩) (v := ?_) rfl (by kernel_rfl) (by kernel_rfl) (by kernel_rfl) (fun _ _ _ h => h) (Or.inl ⟨by rfl, ?hyr2x5q16⟩) (by assumption) ?restr2x5q16
          case hyr2x5q16 => intro wq hSw; (go_simp); (try with_reducible rfl)
          try simp only [Act.put, List.setIfInBounds_toArray, List.set_cons_zero, List.set_cons_succ]
          refine wpAnyH_take (i := 6) (oi := ⟨some 38, .load 9 (.tmp 37), 9, "ref.go:28", #[⟨5, .data⟩, ⟨2, .guard⟩], some (2, true)⟩) (v := ?_) rfl (by kernel_rfl) (by kernel_rfl) (by kernel_rfl) (fun _ _ _ h => h) (Or.inl ⟨by rfl, ?hyr2x6q19⟩) (by assumption) ?restr2x6q19
          case hyr2x6q19 => intro wq hSw; (have c1 := Chg.cellv hSw.1 x1 hxg; go_simp); (try with_reducible rfl)
          try simp only [Act.put, List.setIfInBounds_toArray, List.set_cons_zero, List.set_cons_succ]
          refine wpAnyH_take (i := 7) (oi := ⟨some 39, .binOp .gtr 9 (.tmp 36) (.tmp 38) 9, 4, "ref.go:28", #[⟨4, .data⟩, ⟨6, .data⟩, ⟨2, .guard⟩], some (2, true)⟩) (v := ?_) rfl (by kernel_rfl) (by kernel_rfl) (by kernel_rfl) (fun _ _ _ h => h) (Or.inl ⟨by rfl, ?hyr2x7q22⟩) (by assumption) ?restr2x7q22
          case hyr2x7q22 => intro wq hSw; (go_simp); (try with_reducible rfl)
          try simp only [Act.put, List.setIfInBounds_toArray, List.set_cons_zero, List.set_cons_succ]
          refine wpAnyH_take (i := 8) (oi := ⟨some 40, .pick (.tmp 34) (.tmp 39) (.const (.bool false)), 4, "ref.go:28", #[⟨2, .data⟩, ⟨7, .data⟩], none⟩) (v := ?_) rfl (by kernel_rfl) (by kernel_rfl) (by kernel_rfl) (fun _ _ _ h => h) (Or.inl ⟨by rfl, ?hyr2x8q25⟩) (by assumption) ?restr2x8q25
          case hyr2x8q25 => intro wq hSw; (go_simp); (try with_reducible rfl)
          try simp only [Act.put, List.setIfInBounds_toArray, List.set_cons_zero, List.set_cons_succ]
          refine wpAnyH_take (i := 9) (oi := ⟨some 41, .move (.tmp 40), 4, "ref.go:28", #[⟨8, .data⟩, ⟨2, .chain⟩], none⟩) (v := ?_) rfl (by kernel_rfl) (by kernel_rfl) (by kernel_rfl) (fun _ _ _ h => h) (Or.inl ⟨by rfl, ?hyr2x9q28⟩) (by assumption) ?restr2x9q28
          case hyr2x9q28 => intro wq hSw; (go_simp); (try with_reducible rfl)
          try simp only [Act.put, List.setIfInBounds_toArray, List.set_cons_zero, List.set_cons_succ]
          refine wpAnyH_take (i := 10) (oi := ⟨some 42, .fieldAddr 48 (.tmp 15) 1, 0, "ref.go:28", #[⟨9, .guard⟩, { on := 15, ground := Ground.gcOnly Departure.lateStores }], some (9, true)⟩) (v := undef) rfl (by kernel_rfl) (by kernel_rfl) (by kernel_rfl) (fun _ _ _ h => h) (Or.inr ⟨by rfl, rfl⟩) (by assumption) ?_
          try simp only [Act.put, List.setIfInBounds_toArray, List.set_cons_zero, List.set_cons_succ]
          refine wpAnyH_take (i := 11) (oi := ⟨some 43, .load 9 (.tmp 42), 9, "ref.go:28", #[⟨10, .data⟩, ⟨9, .guard⟩, { on := 15, ground := Ground.gcOnly Departure.lateStores }], some (9, true)⟩) (v := undef) rfl (by kernel_rfl) (by kernel_rfl) (by kernel_rfl) (fun _ _ _ h => h) (Or.inr ⟨by rfl, rfl⟩) (by assumption) ?_
          try simp only [Act.put, List.setIfInBounds_toArray, List.set_cons_zero, List.set_cons_succ]
          refine wpAnyH_take (i := 12) (oi := ⟨some 44, .move (.tmp 3), 9, "ref.go:28", #[⟨9, .guard⟩, { on := 15, ground := Ground.gcOnly Departure.lateStores }], some (9, true)⟩) (v := undef) rfl (by kernel_rfl) (by kernel_rfl) (by kernel_rfl) (fun _ _ _ h => h) (Or.inr ⟨by rfl, rfl⟩) (by assumption) ?_
          try simp only [Act.put, List.setIfInBounds_toArray, List.set_cons_zero, List.set_cons_succ]
          refine wpAnyH_take (i := 13) (oi := ⟨some 45, .binOp .leq 9 (.tmp 43) (.tmp 44) 9, 4, "ref.go:28", #[⟨11, .data⟩, ⟨12, .data⟩, ⟨9, .guard⟩, { on := 15, ground := Ground.gcOnly Departure.lateStores }], some (9, true)⟩) (v := undef) rfl (by kernel_rfl) (by kernel_rfl) (by kernel_rfl) (fun _ _ _ h => h) (Or.inr ⟨by rfl, rfl⟩) (by assumption) ?_
          try simp only [Act.put, List.setIfInBounds_toArray, List.set_cons_zero, List.set_cons_succ]
          refine wpAnyH_take (i := 14) (oi := ⟨some 46, .pick (.tmp 41) (.tmp 45) (.const (.bool false)), 4, "ref.go:28", #[⟨9, .data⟩, ⟨13, .data⟩, { on := 15, ground := Ground.gcOnly Departure.lateStores }], none⟩) (v := ?_) rfl (by kernel_rfl) (by kernel_rfl) (by kernel_rfl) (fun _ _ _ h => h) (Or.inl ⟨by rfl, ?hyr2x14q39⟩) (by assumption) ?restr2x14q39
          case hyr2x14q39 => intro wq hSw; (go_simp); (try with_reducible rfl)
          try simp only [Act.put, List.setIfInBounds_toArray, List.set_cons_zero, List.set_cons_succ]
          refine wpAnyH_ready (rs := [15]) (by kernel_rfl) (by simp) ?_
          refine AllReadyH.cons (o := ⟨none, .store 48 (.tmp 12) (.tmp 32), 0, "ref.go:28", #[⟨0, .data⟩, ⟨9, .chain⟩, ⟨0, .phase⟩, { on := 1, ground := Ground.textOnly Departure.lateStores }, { on := 2, ground := Ground.textOnly Departure.lateStores }, { on := 3, ground := Ground.textOnly Departure.lateStores }, { on := 4, ground := Ground.textOnly Departure.lateStores }, { on := 5, ground := Ground.textOnly Departure.lateStores }, { on := 6, ground := Ground.textOnly Departure.lateStores }, { on := 7, ground := Ground.textOnly Departure.lateStores }, { on := 8, ground := Ground.textOnly Departure.lateStores }, { on := 9, ground := Ground.textOnly Departure.lateStores }, { on := 10, ground := Ground.textOnly Departure.lateStores }, { on := 11, ground := Ground.textOnly Departure.lateStores }, { on := 12, ground := Ground.textOnly Departure.lateStores }, { on := 13, ground := Ground.textOnly Departure.lateStores }, { on := 14, ground := Ground.textOnly Departure.lateStores }], none⟩) rfl (fun K hK => ?_) AllReadyH.nil
          have q0 := B12.cell 0 _ rfl
          have q1 := B12.cell 1 _ rfl
          have q2 := B12.cell 2 _ rfl
          have z0 := B12.free 0
          have z1 := B12.free 1
          have z2 := B12.free 2
          have KB := ((B12.set 0 (.int .i64 Y.id)).set 1 (.string Y.key)).set 2 (.int .u32 Y.word)
          simp only [List.set_cons_zero, List.set_cons_succ] at KB
          go_simp
          clear q0 q1 q2 z0 z1 z2
          refine hK.out _ _ (⟨((((Exb.refl g12 wx).setB (p := ⟨g12, 0, none⟩) (.int .i64 Y.id) rfl).setB (p := ⟨g12, 1, none⟩) (.string Y.key) rfl).setB (p := ⟨g12, 2, none⟩) (.int .u32 Y.word) rfl).drew, _, _, _, KB⟩) (fun hHeld => ?_)
          clear hK K
          try simp only [Act.put, List.setIfInBounds_toArray, List.set_cons_zero, List.set_cons_succ]
          refine wpAnyH_take (i := 16) (oi := ⟨some 13, .assign (.tmp 46), 4, "ref.go:28", #[⟨14, .data⟩, ⟨15, .chain⟩, ⟨0, .phase⟩, ⟨1, .phase⟩, ⟨2, .phase⟩, ⟨3, .phase⟩, ⟨4, .phase⟩, ⟨5, .phase⟩, ⟨6, .phase⟩, ⟨7, .phase⟩, ⟨8, .phase⟩, ⟨9, .phase⟩, ⟨10, .phase⟩, ⟨11, .phase⟩, ⟨12, .phase⟩, ⟨13, .phase⟩, ⟨14, .phase⟩, ⟨15, .phase⟩], none⟩) (v := ?_) rfl (by kernel_rfl) (by kernel_rfl) (by kernel_rfl) (fun _ _ _ h => h) (Or.inl ⟨by rfl, ?hyr2x16q57⟩) (by assumption) ?restr2x16q57
          case hyr2x16q57 => intro wq hSw; (go_simp); (try with_reducible rfl)
          try simp only [Act.put, List.setIfInBounds_toArray, List.set_cons_zero, List.set_cons_succ]
          refine wpAnyH_done (by kernel_rfl) ?_ _
          have q0 := KB.cell 0 _ rfl
          have q1 := KB.cell 1 _ rfl
          have q2 := KB.cell 2 _ rfl
          have KF := FIN.out _ hHeld.1
          clear hHeld KB
          go_wp2_with fail
          refine bodyPost_ret (v := .tuple #[.agg #[.int .i64 Y.id, .string Y.key, .int .u32 Y.word], .bool (false)]) (by simp [results, Tryd.results69, go_sem, *]) rfl ⟨Y, false, rfl, HO.out, KF⟩
        · cases g2 : Op.bytesLess Y.key.toList x.key.toList with
          | true =>
            rw [beq_iff_eq.1 g1, bytesLess_irrefl] at g2
            cases g2
          | false =>
            clear hgt
            refine wp_region_held_drew (S := RH g12 wx) (by kernel_rfl) (⟨(Exb.refl g12 wx).drew, _, _, _, B12⟩) (fun hHeld => ?_)
            refine wpAnyH_take (i := 0) (oi := ⟨some 32, .load 48 (.tmp 15), 48, "ref.go:28", #[], none⟩) (v := ?_) rfl (by kernel_rfl) (by kernel_rfl) (by kernel_rfl) (fun _ _ _ h => h) (Or.inl ⟨by rfl, ?hyr3x0q1⟩) (by assumption) ?restr3x0q1
            case hyr3x0q1 => intro wq hSw; (have c0 := Chg.cellv hSw.1 y0 hyg; have c1 := Chg.cellv hSw.1 y1 hyg; have c2 := Chg.cellv hSw.1 y2 hyg; go_simp); (try with_reducible rfl)
            try simp only [Act.put, List.setIfInBounds_toArray, List.set_cons_zero, List.set_cons_succ]
            refine wpAnyH_take (i := 1) (oi := ⟨some 33, .move (.tmp 16), 4, "ref.go:28", #[], none⟩) (v := ?_) rfl (by kernel_rfl) (by kernel_rfl) (by kernel_rfl) (fun _ _ _ h => h) (Or.inl ⟨by rfl, ?hyr3x1q4⟩) (by assumption) ?restr3x1q4
            case hyr3x1q4 => intro wq hSw; (go_simp); (try with_reducible rfl)
            try simp only [Act.put, List.setIfInBounds_toArray, List.set_cons_zero, List.set_cons_succ]
            refine wpAnyH_take (i := 2) (oi := ⟨some 34, .move (.tmp 33), 4, "ref.go:28", #[⟨1, .data⟩], none⟩) (v := ?_) rfl (by kernel_rfl) (by kernel_rfl) (by kernel_rfl) (fun _ _ _ h => h) (Or.inl ⟨by rfl, ?hyr3x2q7⟩) (by assumption) ?restr3x2q7
            case hyr3x2q7 => intro wq hSw; (go_simp); (try with_reducible rfl)
            try simp only [Act.put, List.setIfInBounds_toArray, List.set_cons_zero, List.set_cons_succ]
            refine wpAnyH_take (i := 3) (oi := ⟨some 35, .fieldAddr 48 (.tmp 15) 1, 0, "ref.go:28", #[⟨2, .guard⟩], some (2, true)⟩) (v := ?_) rfl (by kernel_rfl) (by kernel_rfl) (by kernel_rfl) (fun _ _ _ h => h) (Or.inl ⟨by rfl, ?hyr3x3q10⟩) (by assumption) ?restr3x3q10
            case hyr3x3q10 => intro wq hSw; (go_simp); (try with_reducible rfl)
            try simp only [Act.put, List.setIfInBounds_toArray, List.set_cons_zero, List.set_cons_succ]
            refine wpAnyH_take (i := 4) (oi := ⟨some 36, .load 9 (.tmp 35), 9, "ref.go:28", #[⟨3, .data⟩, ⟨2, .guard⟩], some (2, true)⟩) (v := ?_) rfl (by kernel_rfl) (by kernel_rfl) (by kernel_rfl) (fun _ _ _ h => h) (Or.inl ⟨by rfl, ?hyr3x4q13⟩) (by assumption) ?restr3x4q13
            case hyr3x4q13 => intro wq hSw; (have c1 := Chg.cellv hSw.1 y1 hyg; go_simp); (try with_reducible rfl)
            try simp only [Act.put, List.setIfInBounds_toArray, List.set_cons_zero, List.set_cons_succ]
            refine wpAnyH_take (i := 5) (oi := ⟨some 37, .fieldAddr 48 (.tmp 8) 1, 0, "ref.go:28", #[⟨2, .guard⟩], some (2, true)⟩) (v := ?_) rfl (by kernel_rfl) (by kernel_rfl) (by kernel_rfl) (fun _ _ _ h => h) (Or.inl ⟨by rfl, ?hyr3x5q16⟩) (by assumption) ?restr3x5q16
            case hyr3x5q16 => intro wq hSw; (go_simp); (try with_reducible rfl)
            try simp only [Act.put, List.setIfInBounds_toArray, List.set_cons_zero, List.set_cons_succ]
            refine wpAnyH_take (i := 6) (oi := ⟨some 38, .load 9 (.tmp 37), 9, "ref.go:28", #[⟨5, .data⟩, ⟨2, .guard⟩], some (2, true)⟩) (v := ?_) rfl (by kernel_rfl) (by kernel_rfl) (by kernel_rfl) (fun _ _ _ h => h) (Or.inl ⟨by rfl, ?hyr3x6q19⟩) (by assumption) ?restr3x6q19
            case hyr3x6q19 => intro wq hSw; (have c1 := Chg.cellv hSw.1 x1 hxg; go_simp); (try with_reducible rfl)
            try simp only [Act.put, List.setIfInBounds_toArray, List.set_cons_zero, List.set_cons_succ]
            refine wpAnyH_take (i := 7) (oi := ⟨some 39, .binOp .gtr 9 (.tmp 36) (.tmp 38) 9, 4, "ref.go:28", #[⟨4, .data⟩, ⟨6, .data⟩, ⟨2, .guard⟩], some (2, true)⟩) (v := ?_) rfl (by kernel_rfl) (by kernel_rfl) (by kernel_rfl) (fun _ _ _ h => h) (Or.inl ⟨by rfl, ?hyr3x7q22⟩) (by assumption) ?restr3x7q22
            case hyr3x7q22 => intro wq hSw; (go_simp); (try with_reducible rfl)
            try simp only [Act.put, List.setIfInBounds_toArray, List.set_cons_zero, List.set_cons_succ]
            refine wpAnyH_take (i := 8) (oi := ⟨some 40, .pick (.tmp 34) (.tmp 39) (.const (.bool false)), 4, "ref.go:28", #[⟨2, .data⟩, ⟨7, .data⟩], none⟩) (v := ?_) rfl (by kernel_rfl) (by kernel_rfl) (by kernel_rfl) (fun _ _ _ h => h) (Or.inl ⟨by rfl, ?hyr3x8q25⟩) (by assumption) ?restr3x8q25
            case hyr3x8q25 => intro wq hSw; (go_simp); (try with_reducible rfl)
            try simp only [Act.put, List.setIfInBounds_toArray, List.set_cons_zero, List.set_cons_succ]
            refine wpAnyH_take (i := 9) (oi := ⟨some 41, .move (.tmp 40), 4, "ref.go:28", #[⟨8, .data⟩, ⟨2, .chain⟩], none⟩) (v := ?_) rfl (by kernel_rfl) (by kernel_rfl) (by kernel_rfl) (fun _ _ _ h => h) (Or.inl ⟨by rfl, ?hyr3x9q28⟩) (by assumption) ?restr3x9q28
            case hyr3x9q28 => intro wq hSw; (go_simp); (try with_reducible rfl)
            try simp only [Act.put, List.setIfInBounds_toArray, List.set_cons_zero, List.set_cons_succ]
            refine wpAnyH_take (i := 10) (oi := ⟨some 42, .fieldAddr 48 (.tmp 15) 1, 0, "ref.go:28", #[⟨9, .guard⟩, { on := 15, ground := Ground.gcOnly Departure.lateStores }], some (9, true)⟩) (v := undef) rfl (by kernel_rfl) (by kernel_rfl) (by kernel_rfl) (fun _ _ _ h => h) (Or.inr ⟨by rfl, rfl⟩) (by assumption) ?_
            try simp only [Act.put, List.setIfInBounds_toArray, List.set_cons_zero, List.set_cons_succ]
            refine wpAnyH_take (i := 11) (oi := ⟨some 43, .load 9 (.tmp 42), 9, "ref.go:28", #[⟨10, .data⟩, ⟨9, .guard⟩, { on := 15, ground := Ground.gcOnly Departure.lateStores }], some (9, true)⟩) (v := undef) rfl (by kernel_rfl) (by kernel_rfl) (by kernel_rfl) (fun _ _ _ h => h) (Or.inr ⟨by rfl, rfl⟩) (by assumption) ?_
            try simp only [Act.put, List.setIfInBounds_toArray, List.set_cons_zero, List.set_cons_succ]
            refine wpAnyH_take (i := 12) (oi := ⟨some 44, .move (.tmp 3), 9, "ref.go:28", #[⟨9, .guard⟩, { on := 15, ground := Ground.gcOnly Departure.lateStores }], some (9, true)⟩) (v := undef) rfl (by kernel_rfl) (by kernel_rfl) (by kernel_rfl) (fun _ _ _ h => h) (Or.inr ⟨by rfl, rfl⟩) (by assumption) ?_
            try simp only [Act.put, List.setIfInBounds_toArray, List.set_cons_zero, List.set_cons_succ]
            refine wpAnyH_take (i := 13) (oi := ⟨some 45, .binOp .leq 9 (.tmp 43) (.tmp 44) 9, 4, "ref.go:28", #[⟨11, .data⟩, ⟨12, .data⟩, ⟨9, .guard⟩, { on := 15, ground := Ground.gcOnly Departure.lateStores }], some (9, true)⟩) (v := undef) rfl (by kernel_rfl) (by kernel_rfl) (by kernel_rfl) (fun _ _ _ h => h) (Or.inr ⟨by rfl, rfl⟩) (by assumption) ?_
            try simp only [Act.put, List.setIfInBounds_toArray, List.set_cons_zero, List.set_cons_succ]
            refine wpAnyH_take (i := 14) (oi := ⟨some 46, .pick (.tmp 41) (.tmp 45) (.const (.bool false)), 4, "ref.go:28", #[⟨9, .data⟩, ⟨13, .data⟩, { on := 15, ground := Ground.gcOnly Departure.lateStores }], none⟩) (v := ?_) rfl (by kernel_rfl) (by kernel_rfl) (by kernel_rfl) (fun _ _ _ h => h) (Or.inl ⟨by rfl, ?hyr3x14q39⟩) (by assumption) ?restr3x14q39
            case hyr3x14q39 => intro wq hSw; (go_simp); (try with_reducible rfl)
            try simp only [Act.put, List.setIfInBounds_toArray, List.set_cons_zero, List.set_cons_succ]
            refine wpAnyH_ready (rs := [15]) (by kernel_rfl) (by simp) ?_
            refine AllReadyH.cons (o := ⟨none, .store 48 (.tmp 12) (.tmp 32), 0, "ref.go:28", #[⟨0, .data⟩, ⟨9, .chain⟩, ⟨0, .phase⟩, { on := 1, ground := Ground.textOnly Departure.lateStores }, { on := 2, ground := Ground.textOnly Departure.lateStores }, { on := 3, ground := Ground.textOnly Departure.lateStores }, { on := 4, ground := Ground.textOnly Departure.lateStores }, { on := 5, ground := Ground.textOnly Departure.lateStores }, { on := 6, ground := Ground.textOnly Departure.lateStores }, { on := 7, ground := Ground.textOnly Departure.lateStores }, { on := 8, ground := Ground.textOnly Departure.lateStores }, { on := 9, ground := Ground.textOnly Departure.lateStores }, { on := 10, ground := Ground.textOnly Departure.lateStores }, { on := 11, ground := Ground.textOnly Departure.lateStores }, { on := 12, ground := Ground.textOnly Departure.lateStores }, { on := 13, ground := Ground.textOnly Departure.lateStores }, { on := 14, ground := Ground.textOnly Departure.lateStores }], none⟩) rfl (fun K hK => ?_) AllReadyH.nil
            have q0 := B12.cell 0 _ rfl
            have q1 := B12.cell 1 _ rfl
            have q2 := B12.cell 2 _ rfl
            have z0 := B12.free 0
            have z1 := B12.free 1
            have z2 := B12.free 2
            have KB := ((B12.set 0 (.int .i64 Y.id)).set 1 (.string Y.key)).set 2 (.int .u32 Y.word)
            simp only [List.set_cons_zero, List.set_cons_succ] at KB
            go_simp
            clear q0 q1 q2 z0 z1 z2
            refine hK.out _ _ (⟨((((Exb.refl g12 wx).setB (p := ⟨g12, 0, none⟩) (.int .i64 Y.id) rfl).setB (p := ⟨g12, 1, none⟩) (.string Y.key) rfl).setB (p := ⟨g12, 2, none⟩) (.int .u32 Y.word) rfl).drew, _, _, _, KB⟩) (fun hHeld => ?_)
            clear hK K
            try simp only [Act.put, List.setIfInBounds_toArray, List.set_cons_zero, List.set_cons_succ]
            refine wpAnyH_take (i := 16) (oi := ⟨some 13, .assign (.tmp 46), 4, "ref.go:28", #[⟨14, .data⟩, ⟨15, .chain⟩, ⟨0, .phase⟩, ⟨1, .phase⟩, ⟨2, .phase⟩, ⟨3, .phase⟩, ⟨4, .phase⟩, ⟨5, .phase⟩, ⟨6, .phase⟩, ⟨7, .phase⟩, ⟨8, .phase⟩, ⟨9, .phase⟩, ⟨10, .phase⟩, ⟨11, .phase⟩, ⟨12, .phase⟩, ⟨13, .phase⟩, ⟨14, .phase⟩, ⟨15, .phase⟩], none⟩) (v := ?_) rfl (by kernel_rfl) (by kernel_rfl) (by kernel_rfl) (fun _ _ _ h => h) (Or.inl ⟨by rfl, ?hyr3x16q57⟩) (by assumption) ?restr3x16q57
            case hyr3x16q57 => intro wq hSw; (go_simp); (try with_reducible rfl)
            try simp only [Act.put, List.setIfInBounds_toArray, List.set_cons_zero, List.set_cons_succ]
            refine wpAnyH_done (by kernel_rfl) ?_ _
            have q0 := KB.cell 0 _ rfl
            have q1 := KB.cell 1 _ rfl
            have q2 := KB.cell 2 _ rfl
            have KF := FIN.out _ hHeld.1
            clear hHeld KB
            go_wp2_with fail
            refine bodyPost_ret (v := .tuple #[.agg #[.int .i64 Y.id, .string Y.key, .int .u32 Y.word], .bool (false)]) (by simp [results, Tryd.results69, go_sem, *]) rfl ⟨Y, false, rfl, HO.out, KF⟩
      | true =>
        have HO : Hid (hopN N L s.toList true x lev = if (!Op.bytesLess s.toList Y.key.toList) = true then some Y else none) := Lib.hid (by unfold hopN; rw [if_pos rfl, ← HFR.out]; simp [hless])
        have g1 := bl_asymm hless
        have g2 : (Y.key.toList == x.key.toList) = false := by
          rw [beq_eq_false_iff_ne]; intro h; rw [h, bytesLess_irrefl] at hless; cases hless
        have LE : (Op.bytesLess Y.key.toList s.toList || Y.key.toList == s.toList) = !Op.bytesLess s.toList Y.key.toList := le_not _ _
        clear HFR
        refine wp_region_held_drew (S := RH g12 wx) (by kernel_rfl) (⟨(Exb.refl g12 wx).drew, _, _, _, B12⟩) (fun hHeld => ?_)
        refine wpAnyH_take (i := 0) (oi := ⟨some 32, .load 48 (.tmp 15), 48, "ref.go:28", #[], none⟩) (v := ?_) rfl (by kernel_rfl) (by kernel_rfl) (by kernel_rfl) (fun _ _ _ h => h) (Or.inl ⟨by rfl, ?hyr4x0q1⟩) (by assumption) ?restr4x0q1
        case hyr4x0q1 => intro wq hSw; (have c0 := Chg.cellv hSw.1 y0 hyg; have c1 := Chg.cellv hSw.1 y1 hyg; have c2 := Chg.cellv hSw.1 y2 hyg; go_simp); (try with_reducible rfl)
        try simp only [Act.put, List.setIfInBounds_toArray, List.set_cons_zero, List.set_cons_succ]
        refine wpAnyH_take (i := 1) (oi := ⟨some 33, .move (.tmp 16), 4, "ref.go:28", #[], none⟩) (v := ?_) rfl (by kernel_rfl) (by kernel_rfl) (by kernel_rfl) (fun _ _ _ h => h) (Or.inl ⟨by rfl, ?hyr4x1q4⟩) (by assumption) ?restr4x1q4
        case hyr4x1q4 => intro wq hSw; (go_simp); (try with_reducible rfl)
        try simp only [Act.put, List.setIfInBounds_toArray, List.set_cons_zero, List.set_cons_succ]
        refine wpAnyH_take (i := 2) (oi := ⟨some 34, .move (.tmp 33), 4, "ref.go:28", #[⟨1, .data⟩], none⟩) (v := ?_) rfl (by kernel_rfl) (by kernel_rfl) (by kernel_rfl) (fun _ _ _ h => h) (Or.inl ⟨by rfl, ?hyr4x2q7⟩) (by assumption) ?restr4x2q7
        case hyr4x2q7 => intro wq hSw; (go_simp); (try with_reducible rfl)
        try simp only [Act.put, List.setIfInBounds_toArray, List.set_cons_zero, List.set_cons_succ]
        refine wpAnyH_take (i := 3) (oi := ⟨some 35, .fieldAddr 48 (.tmp 15) 1, 0, "ref.go:28", #[⟨2, .guard⟩], some (2, true)⟩) (v := ?_) rfl (by kernel_rfl) (by kernel_rfl) (by kernel_rfl) (fun _ _ _ h => h) (Or.inl ⟨by rfl, ?hyr4x3q10⟩) (by assumption) ?restr4x3q10
        case hyr4x3q10 => intro wq hSw; (go_simp); (try with_reducible rfl)
        try simp only [Act.put, List.setIfInBounds_toArray, List.set_cons_zero, List.set_cons_succ]
        refine wpAnyH_take (i := 4) (oi := ⟨some 36, .load 9 (.tmp 35), 9, "ref.go:28", #[⟨3, .data⟩, ⟨2, .guard⟩], some (2, true)⟩) (v := ?_) rfl (by kernel_rfl) (by kernel_rfl) (by kernel_rfl) (fun _ _ _ h => h) (Or.inl ⟨by rfl, ?hyr4x4q13⟩) (by assumption) ?restr4x4q13
        case hyr4x4q13 => intro wq hSw; (have c1 := Chg.cellv hSw.1 y1 hyg; go_simp); (try with_reducible rfl)
        try simp only [Act.put, List.setIfInBounds_toArray, List.set_cons_zero, List.set_cons_succ]
        refine wpAnyH_take (i := 5) (oi := ⟨some 37, .fieldAddr 48 (.tmp 8) 1, 0, "ref.go:28", #[⟨2, .guard⟩], some (2, true)⟩) (v := ?_) rfl (by kernel_rfl) (by kernel_rfl) (by kernel_rfl) (fun _ _ _ h => h) (Or.inl ⟨by rfl, ?hyr4x5q16⟩) (by assumption) ?restr4x5q16
        case hyr4x5q16 => intro wq hSw; (go_simp); (try with_reducible rfl)
        try simp only [Act.put, List.setIfInBounds_toArray, List.set_cons_zero, List.set_cons_succ]
        refine wpAnyH_take (i := 6) (oi := ⟨some 38, .load 9 (.tmp 37), 9, "ref.go:28", #[⟨5, .data⟩, ⟨2, .guard⟩], some (2, true)⟩) (v := ?_) rfl (by kernel_rfl) (by kernel_rfl) (by kernel_rfl) (fun _ _ _ h => h) (Or.inl ⟨by rfl, ?hyr4x6q19⟩) (by assumption) ?restr4x6q19
        case hyr4x6q19 => intro wq hSw; (have c1 := Chg.cellv hSw.1 x1 hxg; go_simp); (try with_reducible rfl)
        try simp only [Act.put, List.setIfInBounds_toArray, List.set_cons_zero, List.set_cons_succ]
        refine wpAnyH_take (i := 7) (oi := ⟨some 39, .binOp .gtr 9 (.tmp 36) (.tmp 38) 9, 4, "ref.go:28", #[⟨4, .data⟩, ⟨6, .data⟩, ⟨2, .guard⟩], some (2, true)⟩) (v := ?_) rfl (by kernel_rfl) (by kernel_rfl) (by kernel_rfl) (fun _ _ _ h => h) (Or.inl ⟨by rfl, ?hyr4x7q22⟩) (by assumption) ?restr4x7q22
        case hyr4x7q22 => intro wq hSw; (go_simp); (try with_reducible rfl)
        try simp only [Act.put, List.setIfInBounds_toArray, List.set_cons_zero, List.set_cons_succ]
        refine wpAnyH_take (i := 8) (oi := ⟨some 40, .pick (.tmp 34) (.tmp 39) (.const (.bool false)), 4, "ref.go:28", #[⟨2, .data⟩, ⟨7, .data⟩], none⟩) (v := ?_) rfl (by kernel_rfl) (by kernel_rfl) (by kernel_rfl) (fun _ _ _ h => h) (Or.inl ⟨by rfl, ?hyr4x8q25⟩) (by assumption) ?restr4x8q25
        case hyr4x8q25 => intro wq hSw; (go_simp); (try with_reducible rfl)
        try simp only [Act.put, List.setIfInBounds_toArray, List.set_cons_zero, List.set_cons_succ]
        refine wpAnyH_take (i := 9) (oi := ⟨some 41, .move (.tmp 40), 4, "ref.go:28", #[⟨8, .data⟩, ⟨2, .chain⟩], none⟩) (v := ?_) rfl (by kernel_rfl) (by kernel_rfl) (by kernel_rfl) (fun _ _ _ h => h) (Or.inl ⟨by rfl, ?hyr4x9q28⟩) (by assumption) ?restr4x9q28
        case hyr4x9q28 => intro wq hSw; (go_simp); (try with_reducible rfl)
        try simp only [Act.put, List.setIfInBounds_toArray, List.set_cons_zero, List.set_cons_succ]
        refine wpAnyH_take (i := 10) (oi := ⟨some 42, .fieldAddr 48 (.tmp 15) 1, 0, "ref.go:28", #[⟨9, .guard⟩, { on := 15, ground := Ground.gcOnly Departure.lateStores }], some (9, true)⟩) (v := ?_) rfl (by kernel_rfl) (by kernel_rfl) (by kernel_rfl) (fun _ _ _ h => h) (Or.inl ⟨by rfl, ?hyr4x10q31⟩) (by assumption) ?restr4x10q31
        case hyr4x10q31 => intro wq hSw; (go_simp); (try with_reducible rfl)
        try simp only [Act.put, List.setIfInBounds_toArray, List.set_cons_zero, List.set_cons_succ]
        refine wpAnyH_take (i := 11) (oi := ⟨some 43, .load 9 (.tmp 42), 9, "ref.go:28", #[⟨10, .data⟩, ⟨9, .guard⟩, { on := 15, ground := Ground.gcOnly Departure.lateStores }], some (9, true)⟩) (v := ?_) rfl (by kernel_rfl) (by kernel_rfl) (by kernel_rfl) (fun _ _ _ h => h) (Or.inl ⟨by rfl, ?hyr4x11q34⟩) (by assumption) ?restr4x11q34
        case hyr4x11q34 => intro wq hSw; (have c1 := Chg.cellv hSw.1 y1 hyg; go_simp); (try with_reducible rfl)
        try simp only [Act.put, List.setIfInBounds_toArray, List.set_cons_zero, List.set_cons_succ]
        refine wpAnyH_take (i := 12) (oi := ⟨some 44, .move (.tmp 3), 9, "ref.go:28", #[⟨9, .guard⟩, { on := 15, ground := Ground.gcOnly Departure.lateStores }], some (9, true)⟩) (v := ?_) rfl (by kernel_rfl) (by kernel_rfl) (by kernel_rfl) (fun _ _ _ h => h) (Or.inl ⟨by rfl, ?hyr4x12q37⟩) (by assumption) ?restr4x12q37
        case hyr4x12q37 => intro wq hSw; (go_simp); (try with_reducible rfl)
        try simp only [Act.put, List.setIfInBounds_toArray, List.set_cons_zero, List.set_cons_succ]
        refine wpAnyH_take (i := 13) (oi := ⟨some 45, .binOp .leq 9 (.tmp 43) (.tmp 44) 9, 4, "ref.go:28", #[⟨11, .data⟩, ⟨12, .data⟩, ⟨9, .guard⟩, { on := 15, ground := Ground.gcOnly Departure.lateStores }], some (9, true)⟩) (v := ?_) rfl (by kernel_rfl) (by kernel_rfl) (by kernel_rfl) (fun _ _ _ h => h) (Or.inl ⟨by rfl, ?hyr4x13q40⟩) (by assumption) ?restr4x13q40
        case hyr4x13q40 => intro wq hSw; (go_simp); (try with_reducible rfl)
        try simp only [Act.put, List.setIfInBounds_toArray, List.set_cons_zero, List.set_cons_succ]
        refine wpAnyH_take (i := 14) (oi := ⟨some 46, .pick (.tmp 41) (.tmp 45) (.const (.bool false)), 4, "ref.go:28", #[⟨9, .data⟩, ⟨13, .data⟩, { on := 15, ground := Ground.gcOnly Departure.lateStores }], none⟩) (v := ?_) rfl (by kernel_rfl) (by kernel_rfl) (by kernel_rfl) (fun _ _ _ h => h) (Or.inl ⟨by rfl, ?hyr4x14q43⟩) (by assumption) ?restr4x14q43
        case hyr4x14q43 => intro wq hSw; (go_simp); (try with_reducible rfl)
        try simp only [Act.put, List.setIfInBounds_toArray, List.set_cons_zero, List.set_cons_succ]
        refine wpAnyH_ready (rs := [15]) (by kernel_rfl) (by simp) ?_
        refine AllReadyH.cons (o := ⟨none, .store 48 (.tmp 12) (.tmp 32), 0, "ref.go:28", #[⟨0, .data⟩, ⟨9, .chain⟩, ⟨0, .phase⟩, { on := 1, ground := Ground.textOnly Departure.lateStores }, { on := 2, ground := Ground.textOnly Departure.lateStores }, { on := 3, ground := Ground.textOnly Departure.lateStores }, { on := 4, ground := Ground.textOnly Departure.lateStores }, { on := 5, ground := Ground.textOnly Departure.lateStores }, { on := 6, ground := Ground.textOnly Departure.lateStores }, { on := 7, ground := Ground.textOnly Departure.lateStores }, { on := 8, ground := Ground.textOnly Departure.lateStores }, { on := 9, ground := Ground.textOnly Departure.lateStores }, { on := 10, ground := Ground.textOnly Departure.lateStores }, { on := 11, ground := Ground.textOnly Departure.lateStores }, { on := 12, ground := Ground.textOnly Departure.lateStores }, { on := 13, ground := Ground.textOnly Departure.lateStores }, { on := 14, ground := Ground.textOnly Departure.lateStores }], none⟩) rfl (fun K hK => ?_) AllReadyH.nil
        have q0 := B12.cell 0 _ rfl
        have q1 := B12.cell 1 _ rfl
        have q2 := B12.cell 2 _ rfl
        have z0 := B12.free 0
        have z1 := B12.free 1
        have z2 := B12.free 2
        have KB := ((B12.set 0 (.int .i64 Y.id)).set 1 (.string Y.key)).set 2 (.int .u32 Y.word)
        simp only [List.set_cons_zero, List.set_cons_succ] at KB
        go_simp
        clear q0 q1 q2 z0 z1 z2
        refine hK.out _ _ (⟨((((Exb.refl g12 wx).setB (p := ⟨g12, 0, none⟩) (.int .i64 Y.id) rfl).setB (p := ⟨g12, 1, none⟩) (.string Y.key) rfl).setB (p := ⟨g12, 2, none⟩) (.int .u32 Y.word) rfl).drew, _, _, _, KB⟩) (fun hHeld => ?_)
        clear hK K
        try simp only [Act.put, List.setIfInBounds_toArray, List.set_cons_zero, List.set_cons_succ]
        refine wpAnyH_take (i := 16) (oi := ⟨some 13, .assign (.tmp 46), 4, "ref.go:28", #[⟨14, .data⟩, ⟨15, .chain⟩, ⟨0, .phase⟩, ⟨1, .phase⟩, ⟨2, .phase⟩, ⟨3, .phase⟩, ⟨4, .phase⟩, ⟨5, .phase⟩, ⟨6, .phase⟩, ⟨7, .phase⟩, ⟨8, .phase⟩, ⟨9, .phase⟩, ⟨10, .phase⟩, ⟨11, .phase⟩, ⟨12, .phase⟩, ⟨13, .phase⟩, ⟨14, .phase⟩, ⟨15, .phase⟩], none⟩) (v := ?_) rfl (by kernel_rfl) (by kernel_rfl) (by kernel_rfl) (fun _ _ _ h => h) (Or.inl ⟨by rfl, ?hyr4x16q61⟩) (by assumption) ?restr4x16q61
        case hyr4x16q61 => intro wq hSw; (go_simp); (try with_reducible rfl)
        try simp only [Act.put, List.setIfInBounds_toArray, List.set_cons_zero, List.set_cons_succ]
        refine wpAnyH_done (by kernel_rfl) ?_ _
        have q0 := KB.cell 0 _ rfl
        have q1 := KB.cell 1 _ rfl
        have q2 := KB.cell 2 _ rfl
        have KF := FIN.out _ hHeld.1
        clear hHeld KB
        go_wp2_with fail
        refine bodyPost_ret (v := .tuple #[.agg #[.int .i64 Y.id, .string Y.key, .int .u32 Y.word], .bool (!Op.bytesLess s.toList Y.key.toList)]) (by simp [results, Tryd.results69, go_sem, *]) rfl ⟨Y, !Op.bytesLess s.toList Y.key.toList, rfl, HO.out, KF⟩
  | false =>
    go_wp2_with fail
    (with_reducible refine (find_r _ _ _ _ _ _ SN (by omega)).mono ?_)
    rintro e w5 ⟨rfl, kk⟩
    obtain ⟨FR, hFR⟩ : ∃ FR, FR = findN N P.1 := ⟨_, rfl⟩
    rw [← hFR]
    have HFR := Lib.hid (hFR.trans (by rw [HP.out]))
    replace EX := EX.nx kk
    replace B8 := B8.nx kk
    replace B12 := B12.nx kk
    obtain ⟨Y, ok⟩ := FR
    unfold Nd.val
    simp only
    clear kk hFR SN B14 b0 b1
    have BY := Blk.new w5 [.int .i64 Y.id, .string Y.key, .int .u32 Y.word] 48
    have kk := Ex.new w5 (.cells #[.int .i64 Y.id, .string Y.key, .int .u32 Y.word] 48)
    obtain ⟨wx, hwx⟩ : ∃ wx, wx = w5.alloc (.cells #[.int .i64 Y.id, .string Y.key, .int .u32 Y.word] 48) := ⟨_, rfl⟩
    obtain ⟨gy, hgy⟩ : ∃ gy, gy = w5.heap.size := ⟨_, rfl⟩
    have BY : Blk wx gy [.int .i64 Y.id, .string Y.key, .int .u32 Y.word] 48 := by rw [hwx, hgy]; exact BY
    rw [← hwx] at kk
    have hg12y : g12 < gy := by rw [hgy]; exact B12.lt
    have HWX := Lib.hid hwx
    have HGY := Lib.hid hgy
    have EX := EX.nx kk
    replace B8 := B8.nx kk
    replace B12 := B12.nx kk
    clear kk hwx hgy
    have y0 := BY.cell 0 _ rfl
    have y1 := BY.cell 1 _ rfl
    have y2 := BY.cell 2 _ rfl
    have x1 := B8.cell 1 _ rfl
    have hyg : gy < wx.heap.size ∧ gy ≠ g12 := ⟨BY.lt, by omega⟩
    have hxg : g8 < wx.heap.size ∧ g8 ≠ g12 := ⟨B8.lt, by omega⟩
    have FIN := Lib.hid (fun (cur : World) (k : Exb g12 wx cur) => (Exl.nxb (b := g12) (w := w) ⟨EX, hgw⟩ k).1)
    clear EX B8 BY
    go_upto_region 6 with fail
    rw [← HGY.out, ← HWX.out]
    clear HGY HWX
    cases ok with
    | false =>
      have HO : Hid (hopN N L s.toList false x lev = none) := Lib.hid (by unfold hopN; rw [if_neg (by simp), ← HFR.out]; simp)
      clear HFR
      refine wp_region_held_drew (S := RH g12 wx) (by kernel_rfl) (⟨(Exb.refl g12 wx).drew, _, _, _, B12⟩) (fun hHeld => ?_)
      refine wpAnyH_take (i := 0) (oi := ⟨some 54, .load 48 (.tmp 17), 48, "ref.go:31", #[], none⟩) (v := ?_) rfl (by kernel_rfl) (by kernel_rfl) (by kernel_rfl) (fun _ _ _ h => h) (Or.inl ⟨by rfl, ?hyr5x0q1⟩) (by assumption) ?restr5x0q1
      case hyr5x0q1 => intro wq hSw; (have c0 := Chg.cellv hSw.1 y0 hyg; have c1 := Chg.cellv hSw.1 y1 hyg; have c2 := Chg.cellv hSw.1 y2 hyg; go_simp); (try with_reducible rfl)
      try simp only [Act.put, List.setIfInBounds_toArray, List.set_cons_zero, List.set_cons_succ]
      refine wpAnyH_take (i := 1) (oi := ⟨some 55, .move (.tmp 18), 4, "ref.go:31", #[], none⟩) (v := ?_) rfl (by kernel_rfl) (by kernel_rfl) (by kernel_rfl) (fun _ _ _ h => h) (Or.inl ⟨by rfl, ?hyr5x1q4⟩) (by assumption) ?restr5x1q4
      case hyr5x1q4 => intro wq hSw; (go_simp); (try with_reducible rfl)
      try simp only [Act.put, List.setIfInBounds_toArray, List.set_cons_zero, List.set_cons_succ]
      refine wpAnyH_take (i := 2) (oi := ⟨some 56, .move (.tmp 55), 4, "ref.go:31", #[⟨1, .data⟩], none⟩) (v := ?_) rfl (by kernel_rfl) (by kernel_rfl) (by kernel_rfl) (fun _ _ _ h => h) (Or.inl ⟨by rfl, ?hyr5x2q7⟩) (by assumption) ?restr5x2q7
      case hyr5x2q7 => intro wq hSw; (go_simp); (try with_reducible rfl)
      try simp only [Act.put, List.setIfInBounds_toArray, List.set_cons_zero, List.set_cons_succ]
      refine wpAnyH_take (i := 3) (oi := ⟨some 57, .fieldAddr 48 (.tmp 17) 1, 0, "ref.go:31", #[⟨2, .guard⟩], some (2, true)⟩) (v := undef) rfl (by kernel_rfl) (by kernel_rfl) (by kernel_rfl) (fun _ _ _ h => h) (Or.inr ⟨by rfl, rfl⟩) (by assumption) ?_
      try simp only [Act.put, List.setIfInBounds_toArray, List.set_cons_zero, List.set_cons_succ]
      refine wpAnyH_take (i := 4) (oi := ⟨some 58, .load 9 (.tmp 57), 9, "ref.go:31", #[⟨3, .data⟩, ⟨2, .guard⟩], some (2, true)⟩) (v := undef) rfl (by kernel_rfl) (by kernel_rfl) (by kernel_rfl) (fun _ _ _ h => h) (Or.inr ⟨by rfl, rfl⟩) (by assumption) ?_
      try simp only [Act.put, List.setIfInBounds_toArray, List.set_cons_zero, List.set_cons_succ]
      refine wpAnyH_take (i := 5) (oi := ⟨some 59, .fieldAddr 48 (.tmp 8) 1, 0, "ref.go:31", #[⟨2, .guard⟩], some (2, true)⟩) (v := undef) rfl (by kernel_rfl) (by kernel_rfl) (by kernel_rfl) (fun _ _ _ h => h) (Or.inr ⟨by rfl, rfl⟩) (by assumption) ?_
      try simp only [Act.put, List.setIfInBounds_toArray, List.set_cons_zero, List.set_cons_succ]
      refine wpAnyH_take (i := 6) (oi := ⟨some 60, .load 9 (.tmp 59), 9, "ref.go:31", #[⟨5, .data⟩, ⟨2, .guard⟩], some (2, true)⟩) (v := undef) rfl (by kernel_rfl) (by kernel_rfl) (by kernel_rfl) (fun _ _ _ h => h) (Or.inr ⟨by rfl, rfl⟩) (by assumption) ?_
      try simp only [Act.put, List.setIfInBounds_toArray, List.set_cons_zero, List.set_cons_succ]
      refine wpAnyH_take (i := 7) (oi := ⟨some 61, .binOp .lss 9 (.tmp 58) (.tmp 60) 9, 4, "ref.go:31", #[⟨4, .data⟩, ⟨6, .data⟩, ⟨2, .guard⟩], some (2, true)⟩) (v := undef) rfl (by kernel_rfl) (by kernel_rfl) (by kernel_rfl) (fun _ _ _ h => h) (Or.inr ⟨by rfl, rfl⟩) (by assumption) ?_
      try simp only [Act.put, List.setIfInBounds_toArray, List.set_cons_zero, List.set_cons_succ]
      refine wpAnyH_take (i := 8) (oi := ⟨some 62, .pick (.tmp 56) (.tmp 61) (.const (.bool false)), 4, "ref.go:31", #[⟨2, .data⟩, ⟨7, .data⟩], none⟩) (v := ?_) rfl (by kernel_rfl) (by kernel_rfl) (by kernel_rfl) (fun _ _ _ h => h) (Or.inl ⟨by rfl, ?hyr5x8q20⟩) (by assumption) ?restr5x8q20
      case hyr5x8q20 => intro wq hSw; (go_simp); (try with_reducible rfl)
      try simp only [Act.put, List.setIfInBounds_toArray, List.set_cons_zero, List.set_cons_succ]
      refine wpAnyH_take (i := 9) (oi := ⟨some 63, .move (.tmp 62), 4, "ref.go:31", #[⟨8, .data⟩, ⟨2, .chain⟩], none⟩) (v := ?_) rfl (by kernel_rfl) (by kernel_rfl) (by kernel_rfl) (fun _ _ _ h => h) (Or.inl ⟨by rfl, ?hyr5x9q23⟩) (by assumption) ?restr5x9q23
      case hyr5x9q23 => intro wq hSw; (go_simp); (try with_reducible rfl)
      try simp only [Act.put, List.setIfInBounds_toArray, List.set_cons_zero, List.set_cons_succ]
      refine wpAnyH_take (i := 10) (oi := ⟨some 64, .fieldAddr 48 (.tmp 17) 1, 0, "ref.go:31", #[⟨9, .guard⟩, { on := 15, ground := Ground.gcOnly Departure.lateStores }], some (9, true)⟩) (v := undef) rfl (by kernel_rfl) (by kernel_rfl) (by kernel_rfl) (fun _ _ _ h => h) (Or.inr ⟨by rfl, rfl⟩) (by assumption) ?_
      try simp only [Act.put, List.setIfInBounds_toArray, List.set_cons_zero, List.set_cons_succ]
      refine wpAnyH_take (i := 11) (oi := ⟨some 65, .load 9 (.tmp 64), 9, "ref.go:31", #[⟨10, .data⟩, ⟨9, .guard⟩, { on := 15, ground := Ground.gcOnly Departure.lateStores }], some (9, true)⟩) (v := undef) rfl (by kernel_rfl) (by kernel_rfl) (by kernel_rfl) (fun _ _ _ h => h) (Or.inr ⟨by rfl, rfl⟩) (by assumption) ?_
      try simp only [Act.put, List.setIfInBounds_toArray, List.set_cons_zero, List.set_cons_succ]
      refine wpAnyH_take (i := 12) (oi := ⟨some 66, .move (.tmp 3), 9, "ref.go:31", #[⟨9, .guard⟩, { on := 15, ground := Ground.gcOnly Departure.lateStores }], some (9, true)⟩) (v := undef) rfl (by kernel_rfl) (by kernel_rfl) (by kernel_rfl) (fun _ _ _ h => h) (Or.inr ⟨by rfl, rfl⟩) (by assumption) ?_
      try simp only [Act.put, List.setIfInBounds_toArray, List.set_cons_zero, List.set_cons_succ]
      refine wpAnyH_take (i := 13) (oi := ⟨some 67, .binOp .gtr 9 (.tmp 65) (.tmp 66) 9, 4, "ref.go:31", #[⟨11, .data⟩, ⟨12, .data⟩, ⟨9, .guard⟩, { on := 15, ground := Ground.gcOnly Departure.lateStores }], some (9, true)⟩) (v := undef) rfl (by kernel_rfl) (by kernel_rfl) (by kernel_rfl) (fun _ _ _ h => h) (Or.inr ⟨by rfl, rfl⟩) (by assumption) ?_
      try simp only [Act.put, List.setIfInBounds_toArray, List.set_cons_zero, List.set_cons_succ]
      refine wpAnyH_take (i := 14) (oi := ⟨some 68, .pick (.tmp 63) (.tmp 67) (.const (.bool false)), 4, "ref.go:31", #[⟨9, .data⟩, ⟨13, .data⟩, { on := 15, ground := Ground.gcOnly Departure.lateStores }], none⟩) (v := ?_) rfl (by kernel_rfl) (by kernel_rfl) (by kernel_rfl) (fun _ _ _ h => h) (Or.inl ⟨by rfl, ?hyr5x14q34⟩) (by assumption) ?restr5x14q34
      case hyr5x14q34 => intro wq hSw; (go_simp); (try with_reducible rfl)
      try simp only [Act.put, List.setIfInBounds_toArray, List.set_cons_zero, List.set_cons_succ]
      refine wpAnyH_ready (rs := [15]) (by kernel_rfl) (by simp) ?_
      refine AllReadyH.cons (o := ⟨none, .store 48 (.tmp 12) (.tmp 54), 0, "ref.go:31", #[⟨0, .data⟩, ⟨9, .chain⟩, ⟨0, .phase⟩, { on := 1, ground := Ground.textOnly Departure.lateStores }, { on := 2, ground := Ground.textOnly Departure.lateStores }, { on := 3, ground := Ground.textOnly Departure.lateStores }, { on := 4, ground := Ground.textOnly Departure.lateStores }, { on := 5, ground := Ground.textOnly Departure.lateStores }, { on := 6, ground := Ground.textOnly Departure.lateStores }, { on := 7, ground := Ground.textOnly Departure.lateStores }, { on := 8, ground := Ground.textOnly Departure.lateStores }, { on := 9, ground := Ground.textOnly Departure.lateStores }, { on := 10, ground := Ground.textOnly Departure.lateStores }, { on := 11, ground := Ground.textOnly Departure.lateStores }, { on := 12, ground := Ground.textOnly Departure.lateStores }, { on := 13, ground := Ground.textOnly Departure.lateStores }, { on := 14, ground := Ground.textOnly Departure.lateStores }], none⟩) rfl (fun K hK => ?_) AllReadyH.nil
      have q0 := B12.cell 0 _ rfl
      have q1 := B12.cell 1 _ rfl
      have q2 := B12.cell 2 _ rfl
      have z0 := B12.free 0
      have z1 := B12.free 1
      have z2 := B12.free 2
      have KB := ((B12.set 0 (.int .i64 Y.id)).set 1 (.string Y.key)).set 2 (.int .u32 Y.word)
      simp only [List.set_cons_zero, List.set_cons_succ] at KB
      go_simp
      clear q0 q1 q2 z0 z1 z2
      refine hK.out _ _ (⟨((((Exb.refl g12 wx).setB (p := ⟨g12, 0, none⟩) (.int .i64 Y.id) rfl).setB (p := ⟨g12, 1, none⟩) (.string Y.key) rfl).setB (p := ⟨g12, 2, none⟩) (.int .u32 Y.word) rfl).drew, _, _, _, KB⟩) (fun hHeld => ?_)
      clear hK K
      try simp only [Act.put, List.setIfInBounds_toArray, List.set_cons_zero, List.set_cons_succ]
      refine wpAnyH_take (i := 16) (oi := ⟨some 13, .assign (.tmp 68), 4, "ref.go:31", #[⟨14, .data⟩, ⟨15, .chain⟩, ⟨0, .phase⟩, ⟨1, .phase⟩, ⟨2, .phase⟩, ⟨3, .phase⟩, ⟨4, .phase⟩, ⟨5, .phase⟩, ⟨6, .phase⟩, ⟨7, .phase⟩, ⟨8, .phase⟩, ⟨9, .phase⟩, ⟨10, .phase⟩, ⟨11, .phase⟩, ⟨12, .phase⟩, ⟨13, .phase⟩, ⟨14, .phase⟩, ⟨15, .phase⟩], none⟩) (v := ?_) rfl (by kernel_rfl) (by kernel_rfl) (by kernel_rfl) (fun _ _ _ h => h) (Or.inl ⟨by rfl, ?hyr5x16q52⟩) (by assumption) ?restr5x16q52
      case hyr5x16q52 => intro wq hSw; (go_simp); (try with_reducible rfl)
      try simp only [Act.put, List.setIfInBounds_toArray, List.set_cons_zero, List.set_cons_succ]
      refine wpAnyH_done (by kernel_rfl) ?_ _
      have q0 := KB.cell 0 _ rfl
      have q1 := KB.cell 1 _ rfl
      have q2 := KB.cell 2 _ rfl
      have KF := FIN.out _ hHeld.1
      clear hHeld KB
      go_wp2_with fail
      refine bodyPost_ret (v := .tuple #[.agg #[.int .i64 Y.id, .string Y.key, .int .u32 Y.word], .bool (false)]) (by simp [results, Tryd.results69, go_sem, *]) rfl ⟨Y, false, rfl, HO.out, KF⟩
    | true =>
      cases hless : Op.bytesLess Y.key.toList x.key.toList with
      | false =>
        have HO : Hid (hopN N L s.toList false x lev = none) := Lib.hid (by unfold hopN; rw [if_neg (by simp), ← HFR.out]; simp [hless])
        clear HFR
        refine wp_region_held_drew (S := RH g12 wx) (by kernel_rfl) (⟨(Exb.refl g12 wx).drew, _, _, _, B12⟩) (fun hHeld => ?_)
        refine wpAnyH_take (i := 0) (oi := ⟨some 54, .load 48 (.tmp 17), 48, "ref.go:31", #[], none⟩) (v := ?_) rfl (by kernel_rfl) (by kernel_rfl) (by kernel_rfl) (fun _ _ _ h => h) (Or.inl ⟨by rfl, ?hyr6x0q1⟩) (by assumption) ?restr6x0q1
        case hyr6x0q1 => intro wq hSw; (have c0 := Chg.cellv hSw.1 y0 hyg; have c1 := Chg.cellv hSw.1 y1 hyg; have c2 := Chg.cellv hSw.1 y2 hyg; go_simp); (try with_reducible rfl)
        try simp only [Act.put, List.setIfInBounds_toArray, List.set_cons_zero, List.set_cons_succ]
        refine wpAnyH_take (i := 1) (oi := ⟨some 55, .move (.tmp 18), 4, "ref.go:31", #[], none⟩) (v := ?_) rfl (by kernel_rfl) (by kernel_rfl) (by kernel_rfl) (fun _ _ _ h => h) (Or.inl ⟨by rfl, ?hyr6x1q4⟩) (by assumption) ?restr6x1q4
        case hyr6x1q4 => intro wq hSw; (go_simp); (try with_reducible rfl)
        try simp only [Act.put, List.setIfInBounds_toArray, List.set_cons_zero, List.set_cons_succ]
        refine wpAnyH_take (i := 2) (oi := ⟨some 56, .move (.tmp 55), 4, "ref.go:31", #[⟨1, .data⟩], none⟩) (v := ?_) rfl (by kernel_rfl) (by kernel_rfl) (by kernel_rfl) (fun _ _ _ h => h) (Or.inl ⟨by rfl, ?hyr6x2q7⟩) (by assumption) ?restr6x2q7
        case hyr6x2q7 => intro wq hSw; (go_simp); (try with_reducible rfl)
        try simp only [Act.put, List.setIfInBounds_toArray, List.set_cons_zero, List.set_cons_succ]
        refine wpAnyH_take (i := 3) (oi := ⟨some 57, .fieldAddr 48 (.tmp 17) 1, 0, "ref.go:31", #[⟨2, .guard⟩], some (2, true)⟩) (v := ?_) rfl (by kernel_rfl) (by kernel_rfl) (by kernel_rfl) (fun _ _ _ h => h) (Or.inl ⟨by rfl, ?hyr6x3q10⟩) (by assumption) ?restr6x3q10
        case hyr6x3q10 => intro wq hSw; (go_simp); (try with_reducible rfl)
        try simp only [Act.put, List.setIfInBounds_toArray, List.set_cons_zero, List.set_cons_succ]
        refine wpAnyH_take (i := 4) (oi := ⟨some 58, .load 9 (.tmp 57), 9, "ref.go:31", #[⟨3, .data⟩, ⟨2, .guard⟩], some (2, true)⟩) (v := ?_) rfl (by kernel_rfl) (by kernel_rfl) (by kernel_rfl) (fun _ _ _ h => h) (Or.inl ⟨by rfl, ?hyr6x4q13⟩) (by assumption) ?restr6x4q13
        case hyr6x4q13 => intro wq hSw; (have c1 := Chg.cellv hSw.1 y1 hyg; go_simp); (try with_reducible rfl)
        try simp only [Act.put, List.setIfInBounds_toArray, List.set_cons_zero, List.set_cons_succ]
        refine wpAnyH_take (i := 5) (oi := ⟨some 59, .fieldAddr 48 (.tmp 8) 1, 0, "ref.go:31", #[⟨2, .guard⟩], some (2, true)⟩) (v := ?_) rfl (by kernel_rfl) (by kernel_rfl) (by kernel_rfl) (fun _ _ _ h => h) (Or.inl ⟨by rfl, ?hyr6x5q16⟩) (by assumption) ?restr6x5q16
        case hyr6x5q16 => intro wq hSw; (go_simp); (try with_reducible rfl)
        try simp only [Act.put, List.setIfInBounds_toArray, List.set_cons_zero, List.set_cons_succ]
        refine wpAnyH_take (i := 6) (oi := ⟨some 60, .load 9 (.tmp 59), 9, "ref.go:31", #[⟨5, .data⟩, ⟨2, .guard⟩], some (2, true)⟩) (v := ?_) rfl (by kernel_rfl) (by kernel_rfl) (by kernel_rfl) (fun _ _ _ h => h) (Or.inl ⟨by rfl, ?hyr6x6q19⟩) (by assumption) ?restr6x6q19
        case hyr6x6q19 => intro wq hSw; (have c1 := Chg.cellv hSw.1 x1 hxg; go_simp); (try with_reducible rfl)
        try simp only [Act.put, List.setIfInBounds_toArray, List.set_cons_zero, List.set_cons_succ]
        refine wpAnyH_take (i := 7) (oi := ⟨some 61, .binOp .lss 9 (.tmp 58) (.tmp 60) 9, 4, "ref.go:31", #[⟨4, .data⟩, ⟨6, .data⟩, ⟨2, .guard⟩], some (2, true)⟩) (v := ?_) rfl (by kernel_rfl) (by kernel_rfl) (by kernel_rfl) (fun _ _ _ h => h) (Or.inl ⟨by rfl, ?hyr6x7q22⟩) (by assumption) ?restr6x7q22
        case hyr6x7q22 => intro wq hSw; (go_simp); (try with_reducible rfl)
        try simp only [Act.put, List.setIfInBounds_toArray, List.set_cons_zero, List.set_cons_succ]
        refine wpAnyH_take (i := 8) (oi := ⟨some 62, .pick (.tmp 56) (.tmp 61) (.const (.bool false)), 4, "ref.go:31", #[⟨2, .data⟩, ⟨7, .data⟩], none⟩) (v := ?_) rfl (by kernel_rfl) (by kernel_rfl) (by kernel_rfl) (fun _ _ _ h => h) (Or.inl ⟨by rfl, ?hyr6x8q25⟩) (by assumption) ?restr6x8q25
        case hyr6x8q25 => intro wq hSw; (go_simp); (try with_reducible rfl)
        try simp only [Act.put, List.setIfInBounds_toArray, List.set_cons_zero, List.set_cons_succ]
        refine wpAnyH_take (i := 9) (oi := ⟨some 63, .move (.tmp 62), 4, "ref.go:31", #[⟨8, .data⟩, ⟨2, .chain⟩], none⟩) (v := ?_) rfl (by kernel_rfl) (by kernel_rfl) (by kernel_rfl) (fun _ _ _ h => h) (Or.inl ⟨by rfl, ?hyr6x9q28⟩) (by assumption) ?restr6x9q28
        case hyr6x9q28 => intro wq hSw; (go_simp); (try with_reducible rfl)
        try simp only [Act.put, List.setIfInBounds_toArray, List.set_cons_zero, List.set_cons_succ]
        refine wpAnyH_take (i := 10) (oi := ⟨some 64, .fieldAddr 48 (.tmp 17) 1, 0, "ref.go:31", #[⟨9, .guard⟩, { on := 15, ground := Ground.gcOnly Departure.lateStores }], some (9, true)⟩) (v := undef) rfl (by kernel_rfl) (by kernel_rfl) (by kernel_rfl) (fun _ _ _ h => h) (Or.inr ⟨by rfl, rfl⟩) (by assumption) ?_
        try simp only [Act.put, List.setIfInBounds_toArray, List.set_cons_zero, List.set_cons_succ]
        refine wpAnyH_take (i := 11) (oi := ⟨some 65, .load 9 (.tmp 64), 9, "ref.go:31", #[⟨10, .data⟩, ⟨9, .guard⟩, { on := 15, ground := Ground.gcOnly Departure.lateStores }], some (9, true)⟩) (v := undef) rfl (by kernel_rfl) (by kernel_rfl) (by kernel_rfl) (fun _ _ _ h => h) (Or.inr ⟨by rfl, rfl⟩) (by assumption) ?_
        try simp only [Act.put, List.setIfInBounds_toArray, List.set_cons_zero, List.set_cons_succ]
        refine wpAnyH_take (i := 12) (oi := ⟨some 66, .move (.tmp 3), 9, "ref.go:31", #[⟨9, .guard⟩, { on := 15, ground := Ground.gcOnly Departure.lateStores }], some (9, true)⟩) (v := undef) rfl (by kernel_rfl) (by kernel_rfl) (by kernel_rfl) (fun _ _ _ h => h) (Or.inr ⟨by rfl, rfl⟩) (by assumption) ?_
        try simp only [Act.put, List.setIfInBounds_toArray, List.set_cons_zero, List.set_cons_succ]
        refine wpAnyH_take (i := 13) (oi := ⟨some 67, .binOp .gtr 9 (.tmp 65) (.tmp 66) 9, 4, "ref.go:31", #[⟨11, .data⟩, ⟨12, .data⟩, ⟨9, .guard⟩, { on := 15, ground := Ground.gcOnly Departure.lateStores }], some (9, true)⟩) (v := undef) rfl (by kernel_rfl) (by kernel_rfl) (by kernel_rfl) (fun _ _ _ h => h) (Or.inr ⟨by rfl, rfl⟩) (by assumption) ?_
        try simp only [Act.put, List.setIfInBounds_toArray, List.set_cons_zero, List.set_cons_succ]
        refine wpAnyH_take (i := 14) (oi := ⟨some 68, .pick (.tmp 63) (.tmp 67) (.const (.bool false)), 4, "ref.go:31", #[⟨9, .data⟩, ⟨13, .data⟩, { on := 15, ground := Ground.gcOnly Departure.lateStores }], none⟩) (v := ?_) rfl (by kernel_rfl) (by kernel_rfl) (by kernel_rfl) (fun _ _ _ h => h) (Or.inl ⟨by rfl, ?hyr6x14q39⟩) (by assumption) ?restr6x14q39
        case hyr6x14q39 => intro wq hSw; (go_simp); (try with_reducible rfl)
        try simp only [Act.put, List.setIfInBounds_toArray, List.set_cons_zero, List.set_cons_succ]
        refine wpAnyH_ready (rs := [15]) (by kernel_rfl) (by simp) ?_
        refine AllReadyH.cons (o := ⟨none, .store 48 (.tmp 12) (.tmp 54), 0, "ref.go:31", #[⟨0, .data⟩, ⟨9, .chain⟩, ⟨0, .phase⟩, { on := 1, ground := Ground.textOnly Departure.lateStores }, { on := 2, ground := Ground.textOnly Departure.lateStores }, { on := 3, ground := Ground.textOnly Departure.lateStores }, { on := 4, ground := Ground.textOnly Departure.lateStores }, { on := 5, ground := Ground.textOnly Departure.lateStores }, { on := 6, ground := Ground.textOnly Departure.lateStores }, { on := 7, ground := Ground.textOnly Departure.lateStores }, { on := 8, ground := Ground.textOnly Departure.lateStores }, { on := 9, ground := Ground.textOnly Departure.lateStores }, { on := 10, ground := Ground.textOnly Departure.lateStores }, { on := 11, ground := Ground.textOnly Departure.lateStores }, { on := 12, ground := Ground.textOnly Departure.lateStores }, { on := 13, ground := Ground.textOnly Departure.lateStores }, { on := 14, ground := Ground.textOnly Departure.lateStores }], none⟩) rfl (fun K hK => ?_) AllReadyH.nil
        have q0 := B12.cell 0 _ rfl
        have q1 := B12.cell 1 _ rfl
        have q2 := B12.cell 2 _ rfl
        have z0 := B12.free 0
        have z1 := B12.free 1
        have z2 := B12.free 2
        have KB := ((B12.set 0 (.int .i64 Y.id)).set 1 (.string Y.key)).set 2 (.int .u32 Y.word)
        simp only [List.set_cons_zero, List.set_cons_succ] at KB
        go_simp
        clear q0 q1 q2 z0 z1 z2
        refine hK.out _ _ (⟨((((Exb.refl g12 wx).setB (p := ⟨g12, 0, none⟩) (.int .i64 Y.id) rfl).setB (p := ⟨g12, 1, none⟩) (.string Y.key) rfl).setB (p := ⟨g12, 2, none⟩) (.int .u32 Y.word) rfl).drew, _, _, _, KB⟩) (fun hHeld => ?_)
        clear hK K
        try simp only [Act.put, List.setIfInBounds_toArray, List.set_cons_zero, List.set_cons_succ]
        refine wpAnyH_take (i := 16) (oi := ⟨some 13, .assign (.tmp 68), 4, "ref.go:31", #[⟨14, .data⟩, ⟨15, .chain⟩, ⟨0, .phase⟩, ⟨1, .phase⟩, ⟨2, .phase⟩, ⟨3, .phase⟩, ⟨4, .phase⟩, ⟨5, .phase⟩, ⟨6, .phase⟩, ⟨7, .phase⟩, ⟨8, .phase⟩, ⟨9, .phase⟩, ⟨10, .phase⟩, ⟨11, .phase⟩, ⟨12, .phase⟩, ⟨13, .phase⟩, ⟨14, .phase⟩, ⟨15, .phase⟩], none⟩) (v := ?_) rfl (by kernel_rfl) (by kernel_rfl) (by kernel_rfl) (fun _ _ _ h => h) (Or.inl ⟨by rfl, ?hyr6x16q57⟩) (by assumption) ?restr6x16q57
        case hyr6x16q57 => intro wq hSw; (go_simp); (try with_reducible rfl)
        try simp only [Act.put, List.setIfInBounds_toArray, List.set_cons_zero, List.set_cons_succ]
        refine wpAnyH_done (by kernel_rfl) ?_ _
        have q0 := KB.cell 0 _ rfl
        have q1 := KB.cell 1 _ rfl
        have q2 := KB.cell 2 _ rfl
        have KF := FIN.out _ hHeld.1
        clear hHeld KB
        go_wp2_with fail
        refine bodyPost_ret (v := .tuple #[.agg #[.int .i64 Y.id, .string Y.key, .int .u32 Y.word], .bool (false)]) (by simp [results, Tryd.results69, go_sem, *]) rfl ⟨Y, false, rfl, HO.out, KF⟩
      | true =>
        have HO : Hid (hopN N L s.toList false x lev = if (Op.bytesLess s.toList Y.key.toList) = true then some Y else none) := Lib.hid (by unfold hopN; rw [if_neg (by simp), ← HFR.out]; simp [hless])
        have LE : (!(Op.bytesLess Y.key.toList s.toList || Y.key.toList == s.toList)) = Op.bytesLess s.toList Y.key.toList := by rw [le_not, Bool.not_not]
        clear HFR
        refine wp_region_held_drew (S := RH g12 wx) (by kernel_rfl) (⟨(Exb.refl g12 wx).drew, _, _, _, B12⟩) (fun hHeld => ?_)
        refine wpAnyH_take (i := 0) (oi := ⟨some 54, .load 48 (.tmp 17), 48, "ref.go:31", #[], none⟩) (v := ?_) rfl (by kernel_rfl) (by kernel_rfl) (by kernel_rfl) (fun _ _ _ h => h) (Or.inl ⟨by rfl, ?hyr7x0q1⟩) (by assumption) ?restr7x0q1
        case hyr7x0q1 => intro wq hSw; (have c0 := Chg.cellv hSw.1 y0 hyg; have c1 := Chg.cellv hSw.1 y1 hyg; have c2 := Chg.cellv hSw.1 y2 hyg; go_simp); (try with_reducible rfl)
        try simp only [Act.put, List.setIfInBounds_toArray, List.set_cons_zero, List.set_cons_succ]
        refine wpAnyH_take (i := 1) (oi := ⟨some 55, .move (.tmp 18), 4, "ref.go:31", #[], none⟩) (v := ?_) rfl (by kernel_rfl) (by kernel_rfl) (by kernel_rfl) (fun _ _ _ h => h) (Or.inl ⟨by rfl, ?hyr7x1q4⟩) (by assumption) ?restr7x1q4
        case hyr7x1q4 => intro wq hSw; (go_simp); (try with_reducible rfl)
        try simp only [Act.put, List.setIfInBounds_toArray, List.set_cons_zero, List.set_cons_succ]
        refine wpAnyH_take (i := 2) (oi := ⟨some 56, .move (.tmp 55), 4, "ref.go:31", #[⟨1, .data⟩], none⟩) (v := ?_) rfl (by kernel_rfl) (by kernel_rfl) (by kernel_rfl) (fun _ _ _ h => h) (Or.inl ⟨by rfl, ?hyr7x2q7⟩) (by assumption) ?restr7x2q7
        case hyr7x2q7 => intro wq hSw; (go_simp); (try with_reducible rfl)
        try simp only [Act.put, List.setIfInBounds_toArray, List.set_cons_zero, List.set_cons_succ]
        refine wpAnyH_take (i := 3) (oi := ⟨some 57, .fieldAddr 48 (.tmp 17) 1, 0, "ref.go:31", #[⟨2, .guard⟩], some (2, true)⟩) (v := ?_) rfl (by kernel_rfl) (by kernel_rfl) (by kernel_rfl) (fun _ _ _ h => h) (Or.inl ⟨by rfl, ?hyr7x3q10⟩) (by assumption) ?restr7x3q10
        case hyr7x3q10 => intro wq hSw; (go_simp); (try with_reducible rfl)
        try simp only [Act.put, List.setIfInBounds_toArray, List.set_cons_zero, List.set_cons_succ]
        refine wpAnyH_take (i := 4) (oi := ⟨some 58, .load 9 (.tmp 57), 9, "ref.go:31", #[⟨3, .data⟩, ⟨2, .guard⟩], some (2, true)⟩) (v := ?_) rfl (by kernel_rfl) (by kernel_rfl) (by kernel_rfl) (fun _ _ _ h => h) (Or.inl ⟨by rfl, ?hyr7x4q13⟩) (by assumption) ?restr7x4q13
        case hyr7x4q13 => intro wq hSw; (have c1 := Chg.cellv hSw.1 y1 hyg; go_simp); (try with_reducible rfl)
        try simp only [Act.put, List.setIfInBounds_toArray, List.set_cons_zero, List.set_cons_succ]
        refine wpAnyH_take (i := 5) (oi := ⟨some 59, .fieldAddr 48 (.tmp 8) 1, 0, "ref.go:31", #[⟨2, .guard⟩], some (2, true)⟩) (v := ?_) rfl (by kernel_rfl) (by kernel_rfl) (by kernel_rfl) (fun _ _ _ h => h) (Or.inl ⟨by rfl, ?hyr7x5q16⟩) (by assumption) ?restr7x5q16
        case hyr7x5q16 => intro wq hSw; (go_simp); (try with_reducible rfl)
        try simp only [Act.put, List.setIfInBounds_toArray, List.set_cons_zero, List.set_cons_succ]
        refine wpAnyH_take (i := 6) (oi := ⟨some 60, .load 9 (.tmp 59), 9, "ref.go:31", #[⟨5, .data⟩, ⟨2, .guard⟩], some (2, true)⟩) (v := ?_) rfl (by kernel_rfl) (by kernel_rfl) (by kernel_rfl) (fun _ _ _ h => h) (Or.inl ⟨by rfl, ?hyr7x6q19⟩) (by assumption) ?restr7x6q19
        case hyr7x6q19 => intro wq hSw; (have c1 := Chg.cellv hSw.1 x1 hxg; go_simp); (try with_reducible rfl)
        try simp only [Act.put, List.setIfInBounds_toArray, List.set_cons_zero, List.set_cons_succ]
        refine wpAnyH_take (i := 7) (oi := ⟨some 61, .binOp .lss 9 (.tmp 58) (.tmp 60) 9, 4, "ref.go:31", #[⟨4, .data⟩, ⟨6, .data⟩, ⟨2, .guard⟩], some (2, true)⟩) (v := ?_) rfl (by kernel_rfl) (by kernel_rfl) (by kernel_rfl) (fun _ _ _ h => h) (Or.inl ⟨by rfl, ?hyr7x7q22⟩) (by assumption) ?restr7x7q22
        case hyr7x7q22 => intro wq hSw; (go_simp); (try with_reducible rfl)
        try simp only [Act.put, List.setIfInBounds_toArray, List.set_cons_zero, List.set_cons_succ]
        refine wpAnyH_take (i := 8) (oi := ⟨some 62, .pick (.tmp 56) (.tmp 61) (.const (.bool false)), 4, "ref.go:31", #[⟨2, .data⟩, ⟨7, .data⟩], none⟩) (v := ?_) rfl (by kernel_rfl) (by kernel_rfl) (by kernel_rfl) (fun _ _ _ h => h) (Or.inl ⟨by rfl, ?hyr7x8q25⟩) (by assumption) ?restr7x8q25
        case hyr7x8q25 => intro wq hSw; (go_simp); (try with_reducible rfl)
        try simp only [Act.put, List.setIfInBounds_toArray, List.set_cons_zero, List.set_cons_succ]
        refine wpAnyH_take (i := 9) (oi := ⟨some 63, .move (.tmp 62), 4, "ref.go:31", #[⟨8, .data⟩, ⟨2, .chain⟩], none⟩) (v := ?_) rfl (by kernel_rfl) (by kernel_rfl) (by kernel_rfl) (fun _ _ _ h => h) (Or.inl ⟨by rfl, ?hyr7x9q28⟩) (by assumption) ?restr7x9q28
        case hyr7x9q28 => intro wq hSw; (go_simp); (try with_reducible rfl)
        try simp only [Act.put, List.setIfInBounds_toArray, List.set_cons_zero, List.set_cons_succ]
        refine wpAnyH_take (i := 10) (oi := ⟨some 64, .fieldAddr 48 (.tmp 17) 1, 0, "ref.go:31", #[⟨9, .guard⟩, { on := 15, ground := Ground.gcOnly Departure.lateStores }], some (9, true)⟩) (v := ?_) rfl (by kernel_rfl) (by kernel_rfl) (by kernel_rfl) (fun _ _ _ h => h) (Or.inl ⟨by rfl, ?hyr7x10q31⟩) (by assumption) ?restr7x10q31
        case hyr7x10q31 => intro wq hSw; (go_simp); (try with_reducible rfl)
        try simp only [Act.put, List.setIfInBounds_toArray, List.set_cons_zero, List.set_cons_succ]
        refine wpAnyH_take (i := 11) (oi := ⟨some 65, .load 9 (.tmp 64), 9, "ref.go:31", #[⟨10, .data⟩, ⟨9, .guard⟩, { on := 15, ground := Ground.gcOnly Departure.lateStores }], some (9, true)⟩) (v := ?_) rfl (by kernel_rfl) (by kernel_rfl) (by kernel_rfl) (fun _ _ _ h => h) (Or.inl ⟨by rfl, ?hyr7x11q34⟩) (by assumption) ?restr7x11q34
        case hyr7x11q34 => intro wq hSw; (have c1 := Chg.cellv hSw.1 y1 hyg; go_simp); (try with_reducible rfl)
        try simp only [Act.put, List.setIfInBounds_toArray, List.set_cons_zero, List.set_cons_succ]
        refine wpAnyH_take (i := 12) (oi := ⟨some 66, .move (.tmp 3), 9, "ref.go:31", #[⟨9, .guard⟩, { on := 15, ground := Ground.gcOnly Departure.lateStores }], some (9, true)⟩) (v := ?_) rfl (by kernel_rfl) (by kernel_rfl) (by kernel_rfl) (fun _ _ _ h => h) (Or.inl ⟨by rfl, ?hyr7x12q37⟩) (by assumption) ?restr7x12q37
        case hyr7x12q37 => intro wq hSw; (go_simp); (try with_reducible rfl)
        try simp only [Act.put, List.setIfInBounds_toArray, List.set_cons_zero, List.set_cons_succ]
        refine wpAnyH_take (i := 13) (oi := ⟨some 67, .binOp .gtr 9 (.tmp 65) (.tmp 66) 9, 4, "ref.go:31", #[⟨11, .data⟩, ⟨12, .data⟩, ⟨9, .guard⟩, { on := 15, ground := Ground.gcOnly Departure.lateStores }], some (9, true)⟩) (v := ?_) rfl (by kernel_rfl) (by kernel_rfl) (by kernel_rfl) (fun _ _ _ h => h) (Or.inl ⟨by rfl, ?hyr7x13q40⟩) (by assumption) ?restr7x13q40
        case hyr7x13q40 => intro wq hSw; (go_simp); (try with_reducible rfl)
        try simp only [Act.put, List.setIfInBounds_toArray, List.set_cons_zero, List.set_cons_succ]
        refine wpAnyH_take (i := 14) (oi := ⟨some 68, .pick (.tmp 63) (.tmp 67) (.const (.bool false)), 4, "ref.go:31", #[⟨9, .data⟩, ⟨13, .data⟩, { on := 15, ground := Ground.gcOnly Departure.lateStores }], none⟩) (v := ?_) rfl (by kernel_rfl) (by kernel_rfl) (by kernel_rfl) (fun _ _ _ h => h) (Or.inl ⟨by rfl, ?hyr7x14q43⟩) (by assumption) ?restr7x14q43
        case hyr7x14q43 => intro wq hSw; (go_simp); (try with_reducible rfl)
        try simp only [Act.put, List.setIfInBounds_toArray, List.set_cons_zero, List.set_cons_succ]
        refine wpAnyH_ready (rs := [15]) (by kernel_rfl) (by simp) ?_
        refine AllReadyH.cons (o := ⟨none, .store 48 (.tmp 12) (.tmp 54), 0, "ref.go:31", #[⟨0, .data⟩, ⟨9, .chain⟩, ⟨0, .phase⟩, { on := 1, ground := Ground.textOnly Departure.lateStores }, { on := 2, ground := Ground.textOnly Departure.lateStores }, { on := 3, ground := Ground.textOnly Departure.lateStores }, { on := 4, ground := Ground.textOnly Departure.lateStores }, { on := 5, ground := Ground.textOnly Departure.lateStores }, { on := 6, ground := Ground.textOnly Departure.lateStores }, { on := 7, ground := Ground.textOnly Departure.lateStores }, { on := 8, ground := Ground.textOnly Departure.lateStores }, { on := 9, ground := Ground.textOnly Departure.lateStores }, { on := 10, ground := Ground.textOnly Departure.lateStores }, { on := 11, ground := Ground.textOnly Departure.lateStores }, { on := 12, ground := Ground.textOnly Departure.lateStores }, { on := 13, ground := Ground.textOnly Departure.lateStores }, { on := 14, ground := Ground.textOnly Departure.lateStores }], none⟩) rfl (fun K hK => ?_) AllReadyH.nil
        have q0 := B12.cell 0 _ rfl
        have q1 := B12.cell 1 _ rfl
        have q2 := B12.cell 2 _ rfl
        have z0 := B12.free 0
        have z1 := B12.free 1
        have z2 := B12.free 2
        have KB := ((B12.set 0 (.int .i64 Y.id)).set 1 (.string Y.key)).set 2 (.int .u32 Y.word)
        simp only [List.set_cons_zero, List.set_cons_succ] at KB
        go_simp
        clear q0 q1 q2 z0 z1 z2
        refine hK.out _ _ (⟨((((Exb.refl g12 wx).setB (p := ⟨g12, 0, none⟩) (.int .i64 Y.id) rfl).setB (p := ⟨g12, 1, none⟩) (.string Y.key) rfl).setB (p := ⟨g12, 2, none⟩) (.int .u32 Y.word) rfl).drew, _, _, _, KB⟩) (fun hHeld => ?_)
        clear hK K
        try simp only [Act.put, List.setIfInBounds_toArray, List.set_cons_zero, List.set_cons_succ]
        refine wpAnyH_take (i := 16) (oi := ⟨some 13, .assign (.tmp 68), 4, "ref.go:31", #[⟨14, .data⟩, ⟨15, .chain⟩, ⟨0, .phase⟩, ⟨1, .phase⟩, ⟨2, .phase⟩, ⟨3, .phase⟩, ⟨4, .phase⟩, ⟨5, .phase⟩, ⟨6, .phase⟩, ⟨7, .phase⟩, ⟨8, .phase⟩, ⟨9, .phase⟩, ⟨10, .phase⟩, ⟨11, .phase⟩, ⟨12, .phase⟩, ⟨13, .phase⟩, ⟨14, .phase⟩, ⟨15, .phase⟩], none⟩) (v := ?_) rfl (by kernel_rfl) (by kernel_rfl) (by kernel_rfl) (fun _ _ _ h => h) (Or.inl ⟨by rfl, ?hyr7x16q61⟩) (by assumption) ?restr7x16q61
        case hyr7x16q61 => intro wq hSw; (go_simp); (try with_reducible rfl)
        try simp only [Act.put, List.setIfInBounds_toArray, List.set_cons_zero, List.set_cons_succ]
        refine wpAnyH_done (by kernel_rfl) ?_ _
        have q0 := KB.cell 0 _ rfl
        have q1 := KB.cell 1 _ rfl
        have q2 := KB.cell 2 _ rfl
        have KF := FIN.out _ hHeld.1
        clear hHeld KB
        go_wp2_with fail
        refine bodyPost_ret (v := .tuple #[.agg #[.int .i64 Y.id, .string Y.key, .int .u32 Y.word], .bool (Op.bytesLess s.toList Y.key.toList)]) (by simp [results, Tryd.results69, go_sem, *]) rfl ⟨Y, Op.bytesLess s.toList Y.key.toList, rfl, HO.out, KF⟩
end Go.Proofs.YtkjlhcfocefhpaaDoor

/- Lists of links that don't lie in a block. -/
namespace Go.Proofs.YtkjlhcfocefhpaaDoor
open Go.RowKit

def LkB (b : Nat) (w : World) (a : Option Addr) (n : Nat) (L : List Lkd) : Prop :=
  ∃ qs : List (Int × Hdr), Slb 2 (encP encI) b w a n qs ∧ L.length = n ∧ ∀ (j : Nat) (q : Int × Hdr) (c : Lkd), qs[j]? = some q → L[j]? = some c → q.1 = c.1 ∧ Slb 2 encS b w q.2.1 q.2.2.1 c.2
theorem LkB.nxb {b : Nat} {w w' : World} {a : Option Addr} {n : Nat} {L : List Lkd} (h : LkB b w a n L) (k : Exb b w w') : LkB b w' a n L := by
  obtain ⟨qs, h1, h2, h3⟩ := h
  exact ⟨qs, h1.nxb k, h2, fun j q c hq hc => ⟨(h3 j q c hq hc).1, (h3 j q c hq hc).2.nxb k⟩⟩
theorem LkB.nl {b : Nat} {w : World} {a : Option Addr} {n : Nat} {L : List Lkd} (h : LkB b w a n L) : LkL w a n L := by
  obtain ⟨qs, h1, h2, h3⟩ := h
  exact ⟨qs, h1.sl, h2, fun j q c hq hc => ⟨(h3 j q c hq hc).1, (h3 j q c hq hc).2.sl⟩⟩
theorem NL.lkb {b : Nat} {w : World} {a : Option Addr} {n : Nat} {L : List Lkd} (h : LkL w a n L) (hb : w.heap.size ≤ b) : LkB b w a n L := by
  obtain ⟨qs, h1, h2, h3⟩ := h
  exact ⟨qs, h1.slb hb, h2, fun j q c hq hc => ⟨(h3 j q c hq hc).1, (h3 j q c hq hc).2.slb hb⟩⟩
end Go.Proofs.YtkjlhcfocefhpaaDoor
