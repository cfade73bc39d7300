/- Shared texts. -/
import Derived.Shelf.Spec.SlicesInsertGrow
import Derived.Laws.OwnMore
import Derived.Test.YtlgdjigocopglaaGreatDoorRqAll17
import Derived.Test.YtlgdjigocopglaaGreatDoorRqAll18
set_option linter.unusedSimpArgs false
set_option linter.unusedVariables false

namespace Go.Proofs.YtlgdjigocopglaaGreatDoor
open Go.RowKit
def dirL (right : Bool) (G : List Nd) : List Nd := if right then G else G.reverse
def dlt (right : Bool) (a b : Nd) : Bool := if right then Op.bytesLess a.key.toList b.key.toList else Op.bytesLess b.key.toList a.key.toList
def win (right : Bool) (key : List UInt8) (z : Nd) : Bool := if right then !Op.bytesLess key z.key.toList else Op.bytesLess key z.key.toList
theorem dlt_trans {right : Bool} {a b c : Nd} (h1 : dlt right a b = true) (h2 : dlt right b c = true) : dlt right a c = true := by
 cases right with
 | true => exact bl_trans h1 h2
 | false => exact bl_trans h2 h1
theorem dir_asc {right : Bool} {G : List Nd} (h : AscS G) : (dirL right G).Pairwise fun a b => dlt right a b = true := by
 cases right with
 | true => exact List.Pairwise.imp (fun h => h.1) h
 | false => exact List.pairwise_reverse.2 (List.Pairwise.imp (fun h => h.1) h)
theorem dir_mem {right : Bool} {G : List Nd} {y : Nd} : y ∈ dirL right G ↔ y ∈ G := by cases right <;> simp [dirL]
section
variable {N : List Nd} {L : List Lkd} {key : List UInt8} {right : Bool}
def nextW (right : Bool) (key : List UInt8) : List Nd → Option Nd
 | [] => none
 | y :: _ => if win right key y = true then some y else none
theorem nextW_nil (right : Bool) (key : List UInt8) : nextW right key [] = none := rfl
theorem nextW_cons (right : Bool) (key : List UInt8) (y : Nd) (B : List Nd) : nextW right key (y :: B) = if win right key y = true then some y else none := rfl
theorem hop_exact (h0 : checkN N = 0) {x : Nd} {lev : Nat} (hl : lev ≤ 16) (hx : x ∈ N) (hL : atL L x.id lev = (neighN N x.id lev).1) {A B : List Nd} (e : dirL right (grpS N lev x.word) = A ++ x :: B) :
  hopN N L key right x lev = nextW right key B := by
 have hlv : lvlN (lev : Int) = true := by unfold lvlN; simp; omega
 have hm : ∀ y ∈ A ++ x :: B, y ∈ N := fun y hy => (grp_mem.1 (dir_mem.1 (by rw [e]; exact hy))).1
 have ha := dir_asc (right := right) (grp_asc h0 (lev : Int) x.word)
 rw [e] at ha
 have hxB := (List.pairwise_cons.1 (List.pairwise_append.1 ha).2.1).1
 cases right with
 | true =>
  have hn := neigh_split h0 hx hlv (A := A) (B := B) e
  unfold hopN
  rw [if_pos rfl, hL, hn]
  cases B with
  | nil => simp [headI, Nd.zero, find_zero h0, nextW_nil]
  | cons y B =>
   have hy := find_in h0 (hm y (by simp))
   have h1 : Op.bytesLess x.key.toList y.key.toList = true := hxB y (by simp)
   simp only [headI, List.head?_cons, Option.getD_some, hy]
   simp [h1, win, nextW_cons]
 | false =>
  have e' : grpS N lev x.word = B.reverse ++ x :: A.reverse := by
   have := congrArg List.reverse (show (grpS N lev x.word).reverse = A ++ x :: B from e)
   simpa using this
  have hn := neigh_split h0 hx hlv e'
  unfold hopN
  rw [if_neg (by simp), hL, hn]
  cases B with
  | nil => simp [lastI, Nd.zero, find_zero h0, nextW_nil]
  | cons y B =>
   have hy := find_in h0 (hm y (by simp))
   have h1 : Op.bytesLess y.key.toList x.key.toList = true := hxB y (by simp)
   simp only [lastI, List.reverse_cons, List.getLast?_append, List.getLast?_singleton, Option.some_or, Option.getD_some, hy]
   simp [h1, win, nextW_cons]
def CntSt (N : List Nd) (key : List UInt8) (right : Bool) (frm : Nd) (lev : Nat) (x : Nd) (q : Nat) : Prop :=
 ∃ P A Q B, dirL right (grpS N (lev : Int) frm.word) = P ++ x :: B ∧ P ++ [x] = A ++ Q ∧ Q.length = q ∧ (∀ y ∈ Q, brkN frm lev y = false) ∧ (∀ y ∈ B, win right key y = true → brkN frm lev y = false) ∧ (x = frm ∨ dlt right frm x = true)
theorem run_dir (h0 : checkN N = 0) {frm : Nd} (hf : frm ∈ N) {lev : Nat} (hl : lev ≤ 16) {A Q B : List Nd} (e : dirL right (grpS N (lev : Int) frm.word) = A ++ Q ++ B) (hQ : ∀ y ∈ Q, brkN frm lev y = false) : Q.length ≤ runN N frm.id lev := by
 rw [runN_eq h0 hf hl]
 cases right with
 | true =>
  have e : grpS N (lev : Int) frm.word = A ++ Q ++ B := e
  rw [e]; exact run_seg A Q B hQ
 | false =>
  have e' : grpS N (lev : Int) frm.word = B.reverse ++ Q.reverse ++ A.reverse := by
   have := congrArg List.reverse (show (grpS N lev frm.word).reverse = A ++ Q ++ B from e)
   simpa using this
  rw [e', ← List.length_reverse]; exact run_seg _ _ _ (fun y hy => hQ y (by simpa using hy))
theorem CntSt.le (h0 : checkN N = 0) {frm : Nd} (hf : frm ∈ N) {lev : Nat} (hl : lev ≤ 16) {x : Nd} {q : Nat} (h : CntSt N key right frm lev x q) : q ≤ runN N frm.id lev := by
 obtain ⟨P, A, Q, B, e1, e2, rfl, h3, _, _⟩ := h
 refine run_dir (right := right) (A := A) (B := B) h0 hf hl ?_ h3
 rw [e1, ← e2]; simp
theorem CntSt.mem {frm : Nd} {lev : Nat} {x : Nd} {q : Nat} (h : CntSt N key right frm lev x q) : x ∈ N ∧ sameN x.word frm.word lev = true := by
 obtain ⟨P, A, Q, B, e1, _⟩ := h
 exact grp_mem.1 (dir_mem.1 (by rw [e1]; simp))
theorem CntSt.own (hw : ∀ x ∈ N, x.word < 4294967296) {frm : Nd} (hf : frm ∈ N) {lev : Nat} {x : Nd} {q : Nat} (h : CntSt N key right frm lev x q) : grpS N (lev : Int) x.word = grpS N (lev : Int) frm.word :=
 grp_eq hw (hw x h.mem.1) (hw frm hf) h.mem.2
theorem CntSt.step (h0 : checkN N = 0) (hw : ∀ x ∈ N, x.word < 4294967296) {frm : Nd} (hf : frm ∈ N) {lev : Nat} (hl : lev ≤ 16) {x y : Nd} {q : Nat} (h : CntSt N key right frm lev x q) (hL : atL L x.id lev = (neighN N x.id lev).1) (hh : hopN N L key right x lev = some y) :
  CntSt N key right frm lev y (q + 1) := by
 have ho := h.own hw hf
 have hm := h.mem
 obtain ⟨P, A, Q, B, e1, e2, rfl, h3, h4, h5⟩ := h
 rw [hop_exact h0 hl hm.1 hL (by rw [ho]; exact e1)] at hh
 have ha := dir_asc (right := right) (grp_asc h0 (lev : Int) frm.word)
 rw [e1] at ha
 have hxB := (List.pairwise_cons.1 (List.pairwise_append.1 ha).2.1).1
 cases B with
 | nil => cases hh
 | cons z B =>
  rw [nextW_cons] at hh
  split at hh
  ·rename_i hwin
   cases hh
   refine ⟨P ++ [x], A, Q ++ [y], B, by rw [e1]; simp, by rw [e2]; simp, by simp, ?_, fun z hz => h4 z (by simp [hz]), ?_⟩
   ·intro z hz
    rcases List.mem_append.1 hz with h | h
    ·exact h3 z h
    ·have : z = y := by simpa using h
     rw [this]
     exact h4 y (by simp) hwin
   ·have hxy := hxB y (by simp)
    rcases h5 with rfl | h5
    ·exact .inr hxy
    ·exact .inr (dlt_trans h5 hxy)
  ·cases hh
end
end Go.Proofs.YtlgdjigocopglaaGreatDoor
namespace Go.Proofs.YtlgdjigocopglaaGreatDoor
open Go.RowKit Go.Maps
theorem sorted_own {l : List Nd} {base : Nat} {w : World} {v : Value} (h0 : checkN l = 0) (own : OwnL 3 encN 56 base w v (sortN l)) :
  ∃ a c, v = .slice a l.length c ∧ Sl 3 encN w a l.length (sortN l) ∧ l.length ≤ c ∧ c ≤ maxLen := by
 obtain ⟨a, c, e, r, h1, h2, _⟩ := own.rd (fun _ => rfl)
 rw [sortN_length] at e r h1
 exact ⟨a, c, e, r.mono (fun _ hk => hk.2), h1, h2⟩
theorem find_word {N : List Nd} (hw : ∀ x ∈ N, x.word < 4294967296) (id : Int) (h : (findN N id).2 = true) : (findN N id).1.word < 4294967296 := hw _ (findN_mem h).1
set_option maxHeartbeats 1000000 in
theorem other_p (a : Option Addr) (n c : Nat) (N : List Nd) (id own : Int) (w : World) (h : Sl 3 encN w a n N) (hn : n ≤ 1000) :
  Calls Tryz.prog 82 #[.slice a n c, .int .i64 id, .int .i64 own] w fun e w' => e = .returned (.int .i64 (otherN N id own)) ∧ Ex w w' := by
 have EX := Ex.refl w
 have E1 : Hid (∀ o, o = (findN N id).2 → otherN N id own = if o = true ∧ id ≠ own then id else 0) := lH (fun o ho => by rw [ho]; rfl)
 go_enter Tryz.func82, Tryz.ntmps82
 go_wp2_with fail
 (with_reducible refine (find_p _ _ _ _ id _ h (by omega)).mono ?_)
 rintro e w1 ⟨rfl, kk⟩
 replace EX := EX.nx kk
 clear kk
 replace E1 := E1.out _ rfl
 obtain ⟨F, hF⟩ : ∃ F, F = findN N id := ⟨_, rfl⟩
 rw [← hF] at E1 ⊢
 clear hF h
 obtain ⟨⟨xi, xk, xw⟩, ok⟩ := F
 replace E1 := lH E1
 have B5 := Blk.new w1 [.int .i64 xi, .string xk, .int .u32 xw] 56
 have kk := Ex.new w1 (.cells #[.int .i64 xi, .string xk, .int .u32 xw] 56)
 obtain ⟨w2, hw2⟩ : ∃ w2, w2 = w1.alloc (.cells #[.int .i64 xi, .string xk, .int .u32 xw] 56) := ⟨_, rfl⟩
 obtain ⟨g5, hg5⟩ : ∃ g5, g5 = w1.heap.size := ⟨_, rfl⟩
 replace B5 : Blk w2 g5 [.int .i64 xi, .string xk, .int .u32 xw] 56 := by rw [hw2, hg5]; exact B5
 rw [← hw2] at kk
 have Hw2 := lH hw2
 have Hg5 := lH hg5
 replace EX := EX.nx kk
 clear kk hw2 hg5
 simp only [Nd.val]
 go_upto_region 2 with fail
 rw [← Hg5.out, ← Hw2.out]
 clear Hg5 Hw2
 clear B5
 cases ok with
 | false =>
  have E1 : Hid (otherN N id own = 0) := lH (E1.out.trans (if_neg (by simp)))
  go_wp2_with fail
  go_ret
  exact ⟨by rw [E1.out]; rfl, EX⟩
 | true =>
  by_cases he : id = own
  ·have EZ : Hid (otherN N id own = 0) := lH (E1.out.trans (if_neg (by simp [he])))
   have d1 : (id == own) = true := by simpa using he
   clear he E1
   go_wp2_with fail
   go_ret
   exact ⟨by rw [EZ.out]; rfl, EX⟩
  ·have EZ : Hid (otherN N id own = id) := lH (E1.out.trans (if_pos ⟨rfl, he⟩))
   have d1 : (id == own) = false := by simpa using he
   clear he E1
   go_wp2_with fail
   go_ret
   exact ⟨by rw [EZ.out]; rfl, EX⟩
theorem pair_no {N : List Nd} {nb : Int} (own : Int) (lev : Nat) (zero one : Int) (h : (findN N nb).2 = false) : pairB N own nb lev zero one = (0, 0) := by unfold pairB; rw [if_neg (by rw [h]; simp)]
theorem pair_z {N : List Nd} {nb : Int} (own : Int) (lev : Nat) (zero one : Int) (h : (findN N nb).2 = true) (hb : bitN (findN N nb).1.word lev = 0) : pairB N own nb lev zero one = ((findN N nb).1.id, otherN N one own) := by unfold pairB; rw [if_pos h, if_pos hb]
theorem pair_o {N : List Nd} {nb : Int} (own : Int) (lev : Nat) (zero one : Int) (h : (findN N nb).2 = true) (hb : ¬ bitN (findN N nb).1.word lev = 0) : pairB N own nb lev zero one = (otherN N zero own, (findN N nb).1.id) := by unfold pairB; rw [if_pos h, if_neg hb]
set_option maxRecDepth 100000 in
set_option maxHeartbeats 2000000 in
theorem pair_p (a : Option Addr) (n c : Nat) (N : List Nd) (own nb : Int) (lev : Nat) (zero one : Int) (w : World) (h : Sl 3 encN w a n N) (hn : n ≤ 1000) (hw : ∀ x ∈ N, x.word < 4294967296) (hl : lev ≤ 16) :
  Calls Tryz.prog 119 #[.slice a n c, .int .i64 own, .int .i64 nb, .int .i64 lev, .int .i64 zero, .int .i64 one] w fun e w' => e = .returned (.tuple #[.int .i64 (pairB N own nb lev zero one).1, .int .i64 (pairB N own nb lev zero one).2]) ∧ Ex w w' := by
 have EX := Ex.refl w
 have P0 := pair_no (N := N) (nb := nb) own lev zero one
 have P1 := pair_z (N := N) (nb := nb) own lev zero one
 have P2 := pair_o (N := N) (nb := nb) own lev zero one
 have FW := find_word hw nb
 clear hw
 go_enter Tryz.func119, Tryz.ntmps119
 generalize hPB : pairB N own nb lev zero one = PB at P0 P1 P2 ⊢
 clear hPB
 replace P0 := lH P0
 replace P1 := lH P1
 replace P2 := lH P2
 replace FW := lH FW
 go_wp2_with fail
 (with_reducible refine (find_p _ _ _ _ nb _ h (by omega)).mono ?_)
 rintro e w1 ⟨rfl, kk⟩
 replace EX := EX.nx kk
 replace h := h.nx kk
 clear kk
 replace P0 := P0.out
 replace P1 := P1.out
 replace P2 := P2.out
 replace FW := FW.out
 obtain ⟨F, hF⟩ : ∃ F, F = findN N nb := ⟨_, rfl⟩
 rw [← hF] at P0 P1 P2 FW ⊢
 clear hF
 obtain ⟨⟨xi, xk, xw⟩, ok⟩ := F
 have B5 := Blk.new w1 [.int .i64 xi, .string xk, .int .u32 xw] 56
 have kk := Ex.new w1 (.cells #[.int .i64 xi, .string xk, .int .u32 xw] 56)
 obtain ⟨w2, hw2⟩ : ∃ w2, w2 = w1.alloc (.cells #[.int .i64 xi, .string xk, .int .u32 xw] 56) := ⟨_, rfl⟩
 obtain ⟨g5, hg5⟩ : ∃ g5, g5 = w1.heap.size := ⟨_, rfl⟩
 replace B5 : Blk w2 g5 [.int .i64 xi, .string xk, .int .u32 xw] 56 := by rw [hw2, hg5]; exact B5
 rw [← hw2] at kk
 have Hw2 := lH hw2
 have Hg5 := lH hg5
 replace EX := EX.nx kk
 replace h := h.nx kk
 clear kk hw2 hg5
 simp only [Nd.val]
 go_upto_region 2 with fail
 rw [← Hg5.out, ← Hw2.out]
 clear Hg5 Hw2
 cases ok with
 | false =>
  have E1 := lH (P0 rfl)
  clear P0 P1 P2 FW h B5
  go_wp2_with fail
  go_ret2
  exact ⟨by rw [E1.out]; rfl, EX⟩
 | true =>
  have q2 := B5.cell 2 _ rfl
  have FWh := FW rfl
  by_cases hb : bitN xw lev = 0
  ·have E1 := lH (P1 rfl hb)
   have d1 : (((bitN xw lev : Nat) : Int) == 0) = true := by rw [hb]; rfl
   have BF : Hid (∀ wq, Ex w2 wq → wq.cell? ⟨g5, 0, none⟩ = some (.int .i64 xi)) := lH (fun wq kq => (B5.nx kq).cell 0 _ rfl)
   have H := lH h
   have K := lH EX
   clear P0 P1 P2 FW h B5 hb EX
   go_wp2_with fail
   refine (bit_p xw lev _ FWh (by omega) (by omega)).mono ?_
   rintro e w3 ⟨rfl, rfl⟩
   clear FWh
   go_upto_region 5 with fail
   clear q2
   refine wp_region_held_drew (S := Ex w2) (by kernel_rfl) ((Ex.refl w2).drew) (fun hHeld => ?_)
   obtain ⟨wd, hwdx⟩ : ∃ wd : World, wd = World.drew w2 := ⟨_, rfl⟩
   rw [← hwdx] at hHeld ⊢
   have hDrew : Ex w2 wd := by rw [hwdx]; exact (Ex.refl w2).drew
   clear hwdx
   refine tkH 0 (v := ?_) rfl (by kernel_rfl) (fun _ _ _ h => h) (by rfl) ?y1x0q5 (by assumption) ?z1x0q5
   case y1x0q5 => intro wq hSw; (go_simp); (try with_reducible rfl)
   refine tkH 1 (v := ?_) rfl (by kernel_rfl) (fun _ _ _ h => h) (by rfl) ?y1x1q8 (by assumption) ?z1x1q8
   case y1x1q8 => intro wq hSw; (have cq := BF.out wq hSw; go_simp); (try with_reducible rfl)
   refine tkH 2 (v := ?_) rfl (by kernel_rfl) (fun _ _ _ h => h) (by rfl) ?y1x2q11 (by assumption) ?z1x2q11
   case y1x2q11 => intro wq hSw; (go_simp); (try with_reducible rfl)
   refine tkH 3 (v := ?_) rfl (by kernel_rfl) (fun _ _ _ h => h) (by rfl) ?y1x3q14 (by assumption) ?z1x3q14
   case y1x3q14 => intro wq hSw; (go_simp); (try with_reducible rfl)
   refine tkH 4 (v := ?_) rfl (by kernel_rfl) (fun _ _ _ h => h) (by rfl) ?y1x4q17 (by assumption) ?z1x4q17
   case y1x4q17 => intro wq hSw; (go_simp); (try with_reducible rfl)
   refine wpAnyH_ready (rs := [5]) (by kernel_rfl) (by simp) ?_
   refine AllReadyH.cons (o := ⟨_, _, _, _, _, _⟩) rfl (fun K hK => ?_) AllReadyH.nil
   go_simp
   (with_reducible refine (other_p _ _ _ N one own _ (H.out.nx hHeld) hn).mono ?_)
   rintro e wb ⟨rfl, kk⟩
   replace hHeld := hHeld.nx kk
   clear kk
   refine hK.out _ _ (hHeld) (fun hHeld => ?_)
   clear hK K
   refine tkH 6 (v := ?_) rfl (by kernel_rfl) (fun _ _ _ h => h) (by rfl) ?y1x6q30 (by assumption) ?z1x6q30
   case y1x6q30 => intro wq hSw; (go_simp); (try with_reducible rfl)
   refine tkH 7 (v := ?_) rfl (by kernel_rfl) (fun _ _ _ h => h) (by rfl) ?y1x7q33 (by assumption) ?z1x7q33
   case y1x7q33 => intro wq hSw; (go_simp); (try with_reducible rfl)
   refine wpAnyH_done (by kernel_rfl) ?_ _
   have KE := lH (K.out.nx hHeld)
   clear hHeld hDrew
   go_wp2_with fail
   go_ret2
   exact ⟨by rw [E1.out]; rfl, KE.out⟩
  ·have E1 := lH (P2 rfl hb)
   have d1 : (((bitN xw lev : Nat) : Int) == 0) = false := by simpa using hb
   have BF : Hid (∀ wq, Ex w2 wq → wq.cell? ⟨g5, 0, none⟩ = some (.int .i64 xi)) := lH (fun wq kq => (B5.nx kq).cell 0 _ rfl)
   have H := lH h
   have K := lH EX
   clear P0 P1 P2 FW h B5 hb EX
   go_wp2_with fail
   refine (bit_p xw lev _ FWh (by omega) (by omega)).mono ?_
   rintro e w3 ⟨rfl, rfl⟩
   clear FWh
   go_upto_region 6 with fail
   clear q2
   refine wp_region_held_drew (S := Ex w2) (by kernel_rfl) ((Ex.refl w2).drew) (fun hHeld => ?_)
   obtain ⟨wd, hwdx⟩ : ∃ wd : World, wd = World.drew w2 := ⟨_, rfl⟩
   rw [← hwdx] at hHeld ⊢
   have hDrew : Ex w2 wd := by rw [hwdx]; exact (Ex.refl w2).drew
   clear hwdx
   refine tkH 0 (v := ?_) rfl (by kernel_rfl) (fun _ _ _ h => h) (by rfl) ?y2x0q5 (by assumption) ?z2x0q5
   case y2x0q5 => intro wq hSw; (go_simp); (try with_reducible rfl)
   refine tkH 1 (v := ?_) rfl (by kernel_rfl) (fun _ _ _ h => h) (by rfl) ?y2x1q8 (by assumption) ?z2x1q8
   case y2x1q8 => intro wq hSw; (go_simp); (try with_reducible rfl)
   refine tkH 2 (v := ?_) rfl (by kernel_rfl) (fun _ _ _ h => h) (by rfl) ?y2x2q11 (by assumption) ?z2x2q11
   case y2x2q11 => intro wq hSw; (go_simp); (try with_reducible rfl)
   refine tkH 4 (v := ?_) rfl (by kernel_rfl) (fun _ _ _ h => h) (by rfl) ?y2x4q14 (by assumption) ?z2x4q14
   case y2x4q14 => intro wq hSw; (go_simp); (try with_reducible rfl)
   refine tkH 5 (v := ?_) rfl (by kernel_rfl) (fun _ _ _ h => h) (by rfl) ?y2x5q17 (by assumption) ?z2x5q17
   case y2x5q17 => intro wq hSw; (have cq := BF.out wq hSw; go_simp); (try with_reducible rfl)
   refine wpAnyH_ready (rs := [3]) (by kernel_rfl) (by simp) ?_
   refine AllReadyH.cons (o := ⟨_, _, _, _, _, _⟩) rfl (fun K hK => ?_) AllReadyH.nil
   go_simp
   (with_reducible refine (other_p _ _ _ N zero own _ (H.out.nx hHeld) hn).mono ?_)
   rintro e wb ⟨rfl, kk⟩
   replace hHeld := hHeld.nx kk
   clear kk
   refine hK.out _ _ (hHeld) (fun hHeld => ?_)
   clear hK K
   refine tkH 6 (v := ?_) rfl (by kernel_rfl) (fun _ _ _ h => h) (by rfl) ?y2x6q30 (by assumption) ?z2x6q30
   case y2x6q30 => intro wq hSw; (go_simp); (try with_reducible rfl)
   refine tkH 7 (v := ?_) rfl (by kernel_rfl) (fun _ _ _ h => h) (by rfl) ?y2x7q33 (by assumption) ?z2x7q33
   case y2x7q33 => intro wq hSw; (go_simp); (try with_reducible rfl)
   refine wpAnyH_done (by kernel_rfl) ?_ _
   have KE := lH (K.out.nx hHeld)
   clear hHeld hDrew
   go_wp2_with fail
   go_ret2
   exact ⟨by rw [E1.out]; rfl, KE.out⟩
theorem at1_p (gx : Nat) (id : Int) (w : World) (hx : Blk w gx [.int .i64 id] 3) : PredI 135 #[.pointer (some ⟨gx, 0, none⟩)] id w := by
 intro p h1 h2 w' kk
 have q0 := (hx.nx kk).cell 0 _ rfl
 have hg := (hx.nx kk).lt
 have hne : ¬ gx = w'.heap.size := by omega
 obtain ⟨a1, n1, c1⟩ := h1
 obtain ⟨a2, n2, c2⟩ := h2
 simp only [Hdr.val]
 clear hx kk
 go_enter Tryz.func135, Tryz.ntmps135
 go_wp2
 go_ret
 exact ⟨rfl, (Ex.refl _).alloc _⟩
def nrV (x : Nr) : Value := .agg #[.int .i64 x.1, .int .i64 x.2.1, .int .i64 x.2.2.1, .int .i64 x.2.2.2]
theorem near_at {p : Pr} {i : Nat} {x : Nr} (h : p.near[i]? = some x) : nearAt p i = x := by unfold nearAt; rw [h]; rfl
theorem near_out {p : Pr} {i : Nat} (h : p.near.length ≤ i) : nearAt p i = (0, 0, 0, 0) := by unfold nearAt; rw [List.getElem?_eq_none h]; rfl
set_option maxRecDepth 100000 in
set_option maxHeartbeats 2000000 in
theorem at_p (a2 : Option Addr) (n2 c2 : Nat) (P : List Pr) (id : Int) (lev : Nat) (w : World) (h2 : PL w a2 n2 P) (hn2 : n2 ≤ 4000000000000000000) (hP : ∀ p ∈ P, p.near.length ≤ 4000000000000000000) (hl : lev ≤ 16) :
  Calls Tryz.prog 118 #[.slice a2 n2 c2, .int .i64 id, .int .i64 lev] w fun e w' => e = .returned (nrV (nearAt (peerN P id) lev)) ∧ Ex w w' := by
 have EG : Hid (∀ args w, (callFunc 135 args).run Tryz.prog w = .ok (.enter 135 args) w) := lH (enters_of Tryz.func135 (by kernel_rfl) rfl)
 have EX := Ex.refl w
 have HP := lH hP
 clear hP
 have hwi : w.heap.size ≤ w.heap.size := Nat.le_refl _
 obtain ⟨g4, hg4⟩ : ∃ g4, g4 = w.heap.size := ⟨_, rfl⟩
 obtain ⟨g6, hg6⟩ : ∃ g6, g6 = (w.heap.size + 1) := ⟨_, rfl⟩
 obtain ⟨w1, hw1⟩ : ∃ w1, w1 = ((w.alloc (.cells #[.int .i64 id] 3)).alloc (.cells #[.int .i64 0, .int .i64 0, .int .i64 0, .int .i64 0] 50)) := ⟨_, rfl⟩
 have kk : Ex w w1 := by rw [hw1]; exact (((Ex.refl w).alloc (.cells #[.int .i64 id] 3)).alloc (.cells #[.int .i64 0, .int .i64 0, .int .i64 0, .int .i64 0] 50))
 have B4 : Blk w1 g4 [.int .i64 id] 3 := by rw [hw1]; simp only [hg4, hg6]; have hbk := ((Blk.new w [.int .i64 id] 3).nx (Ex.new _ (.cells #[.int .i64 0, .int .i64 0, .int .i64 0, .int .i64 0] 50))); simpa using hbk
 have B6 : Blk w1 g6 [.int .i64 0, .int .i64 0, .int .i64 0, .int .i64 0] 50 := by rw [hw1]; simp only [hg4, hg6]; have hbk := (Blk.new (w.alloc (.cells #[.int .i64 id] 3)) [.int .i64 0, .int .i64 0, .int .i64 0, .int .i64 0] 50); simpa using hbk
 have Hw1 := lH hw1
 have Hg4 := lH hg4
 have Hg6 := lH hg6
 replace h2 := h2.nx kk
 replace EX := EX.nx kk
 have hz6 : w.heap.size ≤ g6 := by omega
 clear kk hw1 hg4 hg6
 go_enter Tryz.func118, Tryz.ntmps118
 go_upto_region 1 with fail
 rw [← Hw1.out, ← Hg6.out, ← Hg4.out]
 clear Hw1 Hg6 Hg4
 have PI := at1_p g4 id w1 B4
 replace B6 := lH B6
 clear B4
 go_wp2_with fail
 (with_reducible refine (idxf_pr _ _ _ EG.out _ _ _ P _ h2 hn2 PI).mono ?_)
 rintro e w2 ⟨rfl, kk⟩
 replace B6 := B6.out.nx kk
 replace EX := EX.nx kk
 replace h2 := h2.nx kk
 clear kk PI
 have f0 := B6.free 0
 have f1 := B6.free 1
 have f2 := B6.free 2
 have f3 := B6.free 3
 have c0 := B6.cell 0 _ rfl
 have c1 := B6.cell 1 _ rfl
 have c2 := B6.cell 2 _ rfl
 have c3 := B6.cell 3 _ rfl
 rcases idxQ_cases P id with ⟨k, y, hq, hkl, hyk, hpy, -⟩ | ⟨hq, hpy⟩
 ·rw [hq]
  have hk2 : k < n2 := by have := h2.len; omega
  have hk0 : ¬ (k : Int) < 0 := by omega
  have hk1 : (0 : Int) ≤ (k : Int) := by omega
  have hk3 : (k : Int) < (n2 : Int) := by omega
  obtain ⟨x5, o5, b1, m1, d1, b4, m4, d4, y', rfl, hx5, hy', e0, e1, e2, e3, e4, s1, s4⟩ := h2.rd hk2
  obtain rfl : y = y' := Option.some.inj (hyk.symm.trans hy')
  have hm4 := s4.len
  have hyP := HP.out y (List.mem_of_getElem? hyk)
  have HPY := lH hpy
  clear e0 e1 e2 e3 s1 hy' hkl hq hpy hyk h2
  by_cases hlt : lev < m4
  ·obtain ⟨x6, o6, ny, rfl, hx6, hny, hc6⟩ := s4.at hlt
   have V : Hid (nearAt (peerN P id) lev = ny) := lH (by rw [HPY.out]; exact near_at hny)
   have r0 : w2.cell? ⟨x6, o6 + lev * 4, none⟩ = some (.int .i64 ny.1) := hc6 0 _ rfl
   have r1 : w2.cell? ⟨x6, o6 + lev * 4 + 1, none⟩ = some (.int .i64 ny.2.1) := hc6 1 _ rfl
   have r2 : w2.cell? ⟨x6, o6 + lev * 4 + 1 + 1, none⟩ = some (.int .i64 ny.2.2.1) := by simpa [Nat.add_assoc] using hc6 2 _ rfl
   have r3 : w2.cell? ⟨x6, o6 + lev * 4 + 1 + 1 + 1, none⟩ = some (.int .i64 ny.2.2.2) := by simpa [Nat.add_assoc] using hc6 3 _ rfl
   have d1 : decide ((lev : Int) ≥ (m4 : Int)) = false := by simp; omega
   have d2 : decide ((m4 : Int) ≤ (lev : Int)) = false := by simp; omega
   have hl1 : (lev : Int) < (m4 : Int) := by omega
   have KE := lH ((((EX.setNew (p := ⟨g6, 0, none⟩) (.int .i64 ny.1) hz6).setNew (p := ⟨g6, 1, none⟩) (.int .i64 ny.2.1) hz6).setNew (p := ⟨g6, 2, none⟩) (.int .i64 ny.2.2.1) hz6).setNew (p := ⟨g6, 3, none⟩) (.int .i64 ny.2.2.2) hz6)
   clear s4 hc6 hny EX HPY
   go_wp2_with fail
   refine bodyPost_ret (v := nrV ny) (by simp [results, Tryz.results118, go_sem, nrV, *]) rfl ⟨by rw [V.out], KE.out⟩
  ·have V : Hid (nearAt (peerN P id) lev = (0, 0, 0, 0)) := lH (by rw [HPY.out]; exact near_out (by omega))
   have hge : m4 ≤ lev := by omega
   have KE := lH ((((EX.setNew (p := ⟨g6, 0, none⟩) (.int .i64 0) hz6).setNew (p := ⟨g6, 1, none⟩) (.int .i64 0) hz6).setNew (p := ⟨g6, 2, none⟩) (.int .i64 0) hz6).setNew (p := ⟨g6, 3, none⟩) (.int .i64 0) hz6)
   clear s4 EX HPY hlt
   go_wp2_with fail
   refine bodyPost_ret (v := nrV (0, 0, 0, 0)) (by simp [results, Tryz.results118, go_sem, nrV, *]) rfl ⟨by rw [V.out], KE.out⟩
 ·rw [hq]
  have V : Hid (nearAt (peerN P id) lev = (0, 0, 0, 0)) := lH (by rw [hpy]; exact near_out (Nat.zero_le _))
  have KE := lH ((((EX.setNew (p := ⟨g6, 0, none⟩) (.int .i64 0) hz6).setNew (p := ⟨g6, 1, none⟩) (.int .i64 0) hz6).setNew (p := ⟨g6, 2, none⟩) (.int .i64 0) hz6).setNew (p := ⟨g6, 3, none⟩) (.int .i64 0) hz6)
  clear hq hpy EX h2
  go_wp2_with fail
  refine bodyPost_ret (v := nrV (0, 0, 0, 0)) (by simp [results, Tryz.results118, go_sem, nrV, *]) rfl ⟨by rw [V.out], KE.out⟩
theorem link_no {N : List Nd} {p : Pr} {lev : Int} (h : ¬ ((findN N p.id).2 = true ∧ checkN N = 0 ∧ lvlN lev = true ∧ lev ≤ p.near.length)) : linkB N p lev = (0, 0) := by unfold linkB; rw [if_neg h]
theorem link_zero {N : List Nd} {p : Pr} {lev : Int} (h : (findN N p.id).2 = true ∧ checkN N = 0 ∧ lvlN lev = true ∧ lev ≤ p.near.length) (h0 : lev = 0) : linkB N p lev = (otherN N p.left p.id, otherN N p.right p.id) := by unfold linkB; rw [if_pos h, if_pos h0]
theorem link_bit {N : List Nd} {p : Pr} {lev : Int} {x : Nr} (h : (findN N p.id).2 = true ∧ checkN N = 0 ∧ lvlN lev = true ∧ lev ≤ p.near.length) (h0 : ¬ lev = 0) (hx : nearAt p (lev - 1).toNat = x) :
  (bitN (findN N p.id).1.word (lev - 1) = 1 → linkB N p lev = (otherN N x.2.1 p.id, otherN N x.2.2.2 p.id)) ∧ (¬ bitN (findN N p.id).1.word (lev - 1) = 1 → linkB N p lev = (otherN N x.1 p.id, otherN N x.2.2.1 p.id)) := by
 unfold linkB
 rw [if_pos h, if_neg h0, hx]
 exact ⟨fun hb => by rw [if_pos hb], fun hb => by rw [if_neg hb]⟩
theorem lvl_of {lev : Int} (h0 : 0 ≤ lev) (h1 : lev ≤ 16) : lvlN lev = true := by unfold lvlN; simp; omega
set_option maxRecDepth 100000 in
set_option maxHeartbeats 4000000 in
theorem link_p (a : Option Addr) (n c : Nat) (N : List Nd) (p : Pr) (a1 : Option Addr) (n1 c1 : Nat) (a2 : Option Addr) (n2 c2 : Nat) (lev : Int) (w : World) (h : Sl 3 encN w a n N) (hn : n ≤ 1000) (hc : n ≤ c) (hm : c ≤ maxLen) (hw : ∀ x ∈ N, x.word < 4294967296) (h2 : Sl 4 encNr w a2 n2 p.near) (hn2 : n2 ≤ 4000000000000000000) :
  Calls Tryz.prog 42 #[.slice a n c, .agg #[.int .i64 p.id, .slice a1 n1 c1, .int .i64 p.left, .int .i64 p.right, .slice a2 n2 c2], .int .i64 lev] w fun e w' => e = .returned (.agg #[.int .i64 (linkB N p lev).1, .int .i64 (linkB N p lev).2]) ∧ Ex w w' := by
 have EX := Ex.refl w
 have H0 := lH h
 have FW := lH (find_word hw p.id)
 have LN := lH (link_no (N := N) (p := p) (lev := lev))
 have LZ := lH (link_zero (N := N) (p := p) (lev := lev))
 have LB := lH (fun x => link_bit (N := N) (p := p) (lev := lev) (x := x))
 have hml := h2.len
 rw [hml] at LN LZ LB
 clear hw
 generalize hLB : linkB N p lev = L at LN LZ LB ⊢
 clear hLB
 obtain ⟨g4, hg4⟩ : ∃ g4, g4 = w.heap.size := ⟨_, rfl⟩
 obtain ⟨g6, hg6⟩ : ∃ g6, g6 = (w.heap.size + 1) := ⟨_, rfl⟩
 obtain ⟨w1, hw1⟩ : ∃ w1, w1 = ((w.alloc (.cells #[.int .i64 p.id, .slice a1 n1 c1, .int .i64 p.left, .int .i64 p.right, .slice a2 n2 c2] 41)).alloc (.cells #[.int .i64 0, .int .i64 0] 69)) := ⟨_, rfl⟩
 have kk : Ex w w1 := by rw [hw1]; exact (((Ex.refl w).alloc (.cells #[.int .i64 p.id, .slice a1 n1 c1, .int .i64 p.left, .int .i64 p.right, .slice a2 n2 c2] 41)).alloc (.cells #[.int .i64 0, .int .i64 0] 69))
 have B4 : Blk w1 g4 [.int .i64 p.id, .slice a1 n1 c1, .int .i64 p.left, .int .i64 p.right, .slice a2 n2 c2] 41 := by rw [hw1]; simp only [hg4, hg6]; have hbk := ((Blk.new w [.int .i64 p.id, .slice a1 n1 c1, .int .i64 p.left, .int .i64 p.right, .slice a2 n2 c2] 41).nx (Ex.new _ (.cells #[.int .i64 0, .int .i64 0] 69))); simpa using hbk
 have B6 : Blk w1 g6 [.int .i64 0, .int .i64 0] 69 := by rw [hw1]; simp only [hg4, hg6]; have hbk := (Blk.new (w.alloc (.cells #[.int .i64 p.id, .slice a1 n1 c1, .int .i64 p.left, .int .i64 p.right, .slice a2 n2 c2] 41)) [.int .i64 0, .int .i64 0] 69); simpa using hbk
 have Hw1 := lH hw1
 have Hg4 := lH hg4
 have Hg6 := lH hg6
 replace h := h.nx kk
 replace h2 := h2.nx kk
 replace EX := EX.nx kk
 have zg6 : w.heap.size ≤ g6 := by omega
 clear kk hw1 hg4 hg6
 go_enter Tryz.func42, Tryz.ntmps42
 go_upto_region 1 with fail
 rw [← Hw1.out, ← Hg6.out, ← Hg4.out]
 clear Hw1 Hg6 Hg4
 have q0 := B4.cell 0 _ rfl
 go_wp2_with fail
 (with_reducible refine (find_p _ _ _ _ p.id _ h (by omega)).mono ?_)
 rintro e w2 ⟨rfl, kk⟩
 replace h := h.nx kk
 replace h2 := h2.nx kk
 replace EX := EX.nx kk
 replace B4 := B4.nx kk
 replace B6 := B6.nx kk
 clear kk
 replace FW := FW.out
 replace LN := LN.out
 replace LZ := LZ.out
 replace LB := LB.out
 obtain ⟨F, hF⟩ : ∃ F, F = findN N p.id := ⟨_, rfl⟩
 rw [← hF] at FW LN LZ LB ⊢
 clear hF q0
 obtain ⟨⟨xi, xk, xw⟩, ok⟩ := F
 replace FW := lH FW
 replace LN := lH LN
 replace LZ := lH LZ
 replace LB := lH LB
 have B7 := Blk.new w2 [.int .i64 xi, .string xk, .int .u32 xw] 56
 have kk := Ex.new w2 (.cells #[.int .i64 xi, .string xk, .int .u32 xw] 56)
 obtain ⟨w3, hw3⟩ : ∃ w3, w3 = w2.alloc (.cells #[.int .i64 xi, .string xk, .int .u32 xw] 56) := ⟨_, rfl⟩
 obtain ⟨g7, hg7⟩ : ∃ g7, g7 = w2.heap.size := ⟨_, rfl⟩
 replace B7 : Blk w3 g7 [.int .i64 xi, .string xk, .int .u32 xw] 56 := by rw [hw3, hg7]; exact B7
 rw [← hw3] at kk
 have Hw3 := lH hw3
 have Hg7 := lH hg7
 replace h := h.nx kk
 replace h2 := h2.nx kk
 replace EX := EX.nx kk
 replace B4 := B4.nx kk
 replace B6 := B6.nx kk
 clear kk hw3 hg7
 simp only [Nd.val]
 go_upto_region 2 with fail
 rw [← Hg7.out, ← Hw3.out]
 clear Hg7 Hw3
 have FAIL : ∀ wz, wz = w3 → 1 = 1 := fun _ _ => rfl
 clear FAIL
 by_cases hok : ok = true
 case neg =>
  obtain rfl : ok = false := by simpa using hok
  have E0 : Hid (L = (0, 0)) := lH (LN.out (fun hh => by cases hh.1))
  have r0 := B6.cell 0 _ rfl
  have r1 := B6.cell 1 _ rfl
  have f0 := B6.free 0
  have f1 := B6.free 1
  have KE := lH ((EX.setNew (p := ⟨g6, 0, none⟩) (.int .i64 0) zg6).setNew (p := ⟨g6, 1, none⟩) (.int .i64 0) zg6)
  clear h h2 EX B4 B6 B7 hok
  go_wp2_with fail
  refine bodyPost_ret (v := .agg #[.int .i64 0, .int .i64 0]) (by simp [results, Tryz.results42, go_sem, *]) rfl ⟨by rw [E0.out], KE.out⟩
 subst hok
 go_wp2_with fail
 (with_reducible refine (check_p _ _ _ _ _ h (by omega) hc hm).mono ?_)
 rintro e w4 ⟨rfl, kk⟩
 replace h := h.nx kk
 replace h2 := h2.nx kk
 replace EX := EX.nx kk
 replace B4 := B4.nx kk
 replace B6 := B6.nx kk
 replace B7 := B7.nx kk
 clear kk
 by_cases hbad : ¬ checkN N = 0 ∨ lev < 0 ∨ 16 < lev ∨ (n2 : Int) < lev
 case pos =>
  have E0 : Hid (L = (0, 0)) := lH (LN.out (fun hh => by
   rcases hbad with hb | hb | hb | hb
   ·exact hb hh.2.1
   ·have := hh.2.2.1; unfold lvlN at this; simp at this; omega
   ·have := hh.2.2.1; unfold lvlN at this; simp at this; omega
   ·have := hh.2.2.2; omega))
  have p4 := B4.cell 4 _ rfl
  have r0 := B6.cell 0 _ rfl
  have r1 := B6.cell 1 _ rfl
  have f0 := B6.free 0
  have f1 := B6.free 1
  have KE := lH ((EX.setNew (p := ⟨g6, 0, none⟩) (.int .i64 0) zg6).setNew (p := ⟨g6, 1, none⟩) (.int .i64 0) zg6)
  clear h h2 EX B4 B6 B7
  have HB : ((checkN N != 0) || (decide (lev < 0) || (decide (lev > 16) || decide (lev > (n2 : Int))))) = true := by
   rcases hbad with hb | hb | hb | hb
   ·have : (checkN N != 0) = true := by simpa using hb
    rw [this]; rfl
   ·have : decide (lev < 0) = true := by simpa using hb
    rw [this]; simp
   ·have : decide (lev > 16) = true := by simpa using hb
    rw [this]; simp
   ·have : decide (lev > (n2 : Int)) = true := by simpa using hb
    rw [this]; simp
  clear hbad
  by_cases b1 : checkN N = 0
  case neg =>
   have d1 : (checkN N != 0) = true := by simpa using b1
   clear HB b1
   go_wp2_with fail
   refine bodyPost_ret (v := .agg #[.int .i64 0, .int .i64 0]) (by simp [results, Tryz.results42, go_sem, *]) rfl ⟨by rw [E0.out], KE.out⟩
  have d1 : (checkN N != 0) = false := by simpa using b1
  rw [d1] at HB
  clear b1
  by_cases b2 : lev < 0
  ·clear HB
   go_wp2_with fail
   refine bodyPost_ret (v := .agg #[.int .i64 0, .int .i64 0]) (by simp [results, Tryz.results42, go_sem, *]) rfl ⟨by rw [E0.out], KE.out⟩
  by_cases b3 : lev > 16
  ·clear HB
   go_wp2_with fail
   refine bodyPost_ret (v := .agg #[.int .i64 0, .int .i64 0]) (by simp [results, Tryz.results42, go_sem, *]) rfl ⟨by rw [E0.out], KE.out⟩
  have b4 : lev > (n2 : Int) := by
   have e2 : decide (lev < 0) = false := by simpa using b2
   have e3 : decide (lev > 16) = false := by simpa using b3
   rw [e2, e3] at HB
   simpa using HB
  clear HB
  go_wp2_with fail
  refine bodyPost_ret (v := .agg #[.int .i64 0, .int .i64 0]) (by simp [results, Tryz.results42, go_sem, *]) rfl ⟨by rw [E0.out], KE.out⟩
 have hck : checkN N = 0 := Decidable.byContradiction (fun h => hbad (.inl h))
 have hl0 : 0 ≤ lev := by omega
 have hl1 : lev ≤ 16 := by omega
 have hl2 : lev ≤ (n2 : Int) := by omega
 have CND : Hid (True ∧ checkN N = 0 ∧ lvlN lev = true ∧ lev ≤ (n2 : Int)) := lH ⟨trivial, hck, lvl_of hl0 hl1, hl2⟩
 have d1 : (checkN N != 0) = false := by simpa using hck
 have d2 : decide (lev < 0) = false := by simp; omega
 have d3 : decide (lev > 16) = false := by simp; omega
 have d4 : decide (lev > (n2 : Int)) = false := by simp; omega
 have FWh := FW.out trivial
 clear hbad hck LN FW
 obtain ⟨k, rfl⟩ := Int.eq_ofNat_of_zero_le hl0
 have p2 := B4.cell 2 _ rfl
 have p3 := B4.cell 3 _ rfl
 have p4 := B4.cell 4 _ rfl
 go_upto_region 4 with fail
 by_cases h0 : (k : Int) = 0
 ·have E0 := lH (LZ.out CND.out h0)
  have hk0 : k = 0 := by omega
  subst hk0
  have B9 := Blk.new w4 [.int .i64 p.left, .int .i64 p.right] 69
  have kk := Ex.new w4 (.cells #[.int .i64 p.left, .int .i64 p.right] 69)
  obtain ⟨w5, hw5⟩ : ∃ w5, w5 = w4.alloc (.cells #[.int .i64 p.left, .int .i64 p.right] 69) := ⟨_, rfl⟩
  obtain ⟨g9, hg9⟩ : ∃ g9, g9 = w4.heap.size := ⟨_, rfl⟩
  replace B9 : Blk w5 g9 [.int .i64 p.left, .int .i64 p.right] 69 := by rw [hw5, hg9]; exact B9
  rw [← hw5] at kk
  have Hw5 := lH hw5
  have Hg9 := lH hg9
  replace EX := EX.nx kk
  replace B4 := B4.nx kk
  replace B6 := B6.nx kk
  clear kk hw5 hg9
  clear h h2 B7 LZ LB h0
  go_upto_region 10 with fail
  clear p2 p3 p4
  rw [← Hg9.out, ← Hw5.out]
  clear Hg9 Hw5
  have Y0 : Hid (∀ wq, Ex w5 wq → wq.cell? ⟨g9, 0, none⟩ = some (.int .i64 p.left)) := lH (fun wq kq => (B9.nx kq).cell 0 _ rfl)
  have Y1 : Hid (∀ wq, Ex w5 wq → wq.cell? ⟨g9, 1, none⟩ = some (.int .i64 p.right)) := lH (fun wq kq => (B9.nx kq).cell 1 _ rfl)
  have QI : Hid (∀ wq, Ex w5 wq → wq.cell? ⟨g4, 0, none⟩ = some (.int .i64 p.id)) := lH (fun wq kq => (B4.nx kq).cell 0 _ rfl)
  have HS := lH (H0.out.nx EX)
  have K := lH EX
  replace B6 := lH B6
  clear B9 B4 EX
  refine wp_region_late_drew (S := Ex w5) [13] (by kernel_rfl) ((Ex.refl w5).drew) (fun hHeld => ?_)
  obtain ⟨wd, hwdx⟩ : ∃ wd : World, wd = World.drew w5 := ⟨_, rfl⟩
  rw [← hwdx] at hHeld ⊢
  have hDrew : Ex w5 wd := by rw [hwdx]; exact (Ex.refl w5).drew
  clear hwdx
  refine tkL 0 (v := ?_) rfl (by kernel_rfl) (fun _ _ _ h => h) (by rfl) ?y1x0q5 (by assumption) ?z1x0q5
  case y1x0q5 => intro wq hSw; (go_simp); (try with_reducible rfl)
  refine tkL 1 (v := ?_) rfl (by kernel_rfl) (fun _ _ _ h => h) (by rfl) ?y1x1q8 (by assumption) ?z1x1q8
  case y1x1q8 => intro wq hSw; (go_simp); (try with_reducible rfl)
  refine tkL 2 (v := ?_) rfl (by kernel_rfl) (fun _ _ _ h => h) (by rfl) ?y1x2q11 (by assumption) ?z1x2q11
  case y1x2q11 => intro wq hSw; (have cq := Y0.out wq hSw; go_simp); (try with_reducible rfl)
  refine tkL 3 (v := ?_) rfl (by kernel_rfl) (fun _ _ _ h => h) (by rfl) ?y1x3q14 (by assumption) ?z1x3q14
  case y1x3q14 => intro wq hSw; (go_simp); (try with_reducible rfl)
  refine tkL 4 (v := ?_) rfl (by kernel_rfl) (fun _ _ _ h => h) (by rfl) ?y1x4q17 (by assumption) ?z1x4q17
  case y1x4q17 => intro wq hSw; (have cq := QI.out wq hSw; go_simp); (try with_reducible rfl)
  refine tkL 6 (v := ?_) rfl (by kernel_rfl) (fun _ _ _ h => h) (by rfl) ?y1x6q20 (by assumption) ?z1x6q20
  case y1x6q20 => intro wq hSw; (go_simp); (try with_reducible rfl)
  refine tkL 7 (v := ?_) rfl (by kernel_rfl) (fun _ _ _ h => h) (by rfl) ?y1x7q23 (by assumption) ?z1x7q23
  case y1x7q23 => intro wq hSw; (go_simp); (try with_reducible rfl)
  refine tkL 8 (v := ?_) rfl (by kernel_rfl) (fun _ _ _ h => h) (by rfl) ?y1x8q26 (by assumption) ?z1x8q26
  case y1x8q26 => intro wq hSw; (have cq := Y1.out wq hSw; go_simp); (try with_reducible rfl)
  refine tkL 9 (v := ?_) rfl (by kernel_rfl) (fun _ _ _ h => h) (by rfl) ?y1x9q29 (by assumption) ?z1x9q29
  case y1x9q29 => intro wq hSw; (go_simp); (try with_reducible rfl)
  refine tkL 10 (v := ?_) rfl (by kernel_rfl) (fun _ _ _ h => h) (by rfl) ?y1x10q32 (by assumption) ?z1x10q32
  case y1x10q32 => intro wq hSw; (have cq := QI.out wq hSw; go_simp); (try with_reducible rfl)
  refine wpAnyL_ready (rs := [5]) (by kernel_rfl) (by simp) ?_
  refine AllReadyL.cons (o := ⟨_, _, _, _, _, _⟩) rfl (fun K hK => ?_) AllReadyL.nil
  go_simp
  (with_reducible refine (other_p _ _ _ N p.left p.id _ (HS.out.nx hHeld) hn).mono ?_)
  rintro e wb ⟨rfl, kk⟩
  replace hHeld := hHeld.nx kk
  clear kk
  refine hK.out _ _ (hHeld) (fun hHeld => ?_)
  clear hK K
  refine wpAnyL_ready (rs := [11]) (by kernel_rfl) (by simp) ?_
  refine AllReadyL.cons (o := ⟨_, _, _, _, _, _⟩) rfl (fun K hK => ?_) AllReadyL.nil
  go_simp
  (with_reducible refine (other_p _ _ _ N p.right p.id _ (HS.out.nx hHeld) hn).mono ?_)
  rintro e wc ⟨rfl, kk⟩
  replace hHeld := hHeld.nx kk
  clear kk
  have B6z := B6.out.nx hHeld
  have f0 := B6z.free 0
  have f1 := B6z.free 1
  have r0 := B6z.cell 0 _ rfl
  have r1 := B6z.cell 1 _ rfl
  refine hK.out _ _ (hHeld) (fun hHeld => ?_)
  clear hK K
  refine tkL 12 (v := ?_) rfl (by kernel_rfl) (fun _ _ _ h => h) (by rfl) ?y1x12q60 (by assumption) ?z1x12q60
  case y1x12q60 => intro wq hSw; (go_simp); (try with_reducible rfl)
  refine wpAnyL_ready (rs := [13]) (by kernel_rfl) (by simp) ?_
  refine AllReadyL.consL (o := ⟨_, _, _, _, _, _⟩) rfl (by rfl) (fun K hK => ?_) AllReadyL.nil
  go_simp
  refine hK.out _ _ ?_
  clear hK K
  refine wpAnyL_done (by kernel_rfl) ?_ _
  have KE := lH (((K.out.nx hHeld).setNew (p := ⟨g6, 0, none⟩) (.int .i64 (otherN N p.left p.id)) zg6).setNew (p := ⟨g6, 1, none⟩) (.int .i64 (otherN N p.right p.id)) zg6)
  clear hDrew hHeld B6z
  go_wp2_with fail
  refine bodyPost_ret (v := .agg #[.int .i64 (otherN N p.left p.id), .int .i64 (otherN N p.right p.id)]) (by simp [results, Tryz.results42, go_sem, *]) rfl ⟨by rw [E0.out], KE.out⟩
 ·obtain ⟨x6, o6, ny, rfl, hx6, hny, hc6⟩ := h2.at (show k - 1 < n2 by omega)
  have LX := lH (LB.out ny CND.out h0 (by rw [show ((k : Int) - 1).toNat = k - 1 by omega]; exact near_at hny))
  have r0 : w4.cell? ⟨x6, o6 + (k - 1) * 4, none⟩ = some (.int .i64 ny.1) := hc6 0 _ rfl
  have r1 : w4.cell? ⟨x6, o6 + (k - 1) * 4 + 1, none⟩ = some (.int .i64 ny.2.1) := hc6 1 _ rfl
  have r2 : w4.cell? ⟨x6, o6 + (k - 1) * 4 + 1 + 1, none⟩ = some (.int .i64 ny.2.2.1) := by simpa [Nat.add_assoc] using hc6 2 _ rfl
  have r3 : w4.cell? ⟨x6, o6 + (k - 1) * 4 + 1 + 1 + 1, none⟩ = some (.int .i64 ny.2.2.2) := by simpa [Nat.add_assoc] using hc6 3 _ rfl
  have hkp : (0 : Int) < (k : Int) := by omega
  have hwk : IntKind.i64.wrap ((k : Int) - 1) = (k : Int) - 1 := IntWalk.i64_in _ (by omega)
  have h01 : (1 : Int) ≤ (k : Int) := by omega
  have h02 : (k : Int) - 1 < (n2 : Int) := by omega
  have hl4 := B4.lt
  have hl6 := B6.lt
  have hl7 := B7.lt
  have zz := EX.size
  have B9 := Blk.new w4 [.int .i64 p.left, .int .i64 p.right] 69
  have kk := Ex.new w4 (.cells #[.int .i64 p.left, .int .i64 p.right] 69)
  obtain ⟨w5, hw5⟩ : ∃ w5, w5 = w4.alloc (.cells #[.int .i64 p.left, .int .i64 p.right] 69) := ⟨_, rfl⟩
  obtain ⟨g9, hg9⟩ : ∃ g9, g9 = w4.heap.size := ⟨_, rfl⟩
  replace B9 : Blk w5 g9 [.int .i64 p.left, .int .i64 p.right] 69 := by rw [hw5, hg9]; exact B9
  rw [← hw5] at kk
  have Hw5 := lH hw5
  have Hg9 := lH hg9
  replace EX := EX.nx kk
  replace B4 := B4.nx kk
  replace B6 := B6.nx kk
  replace B7 := B7.nx kk
  have zg9 : w.heap.size ≤ g9 := by omega
  have h49 : ¬ g4 = g9 := by omega
  have h69 : ¬ g6 = g9 := by omega
  have h79 : ¬ g7 = g9 := by omega
  have t0 := Chg.cellv kk r0 hx6
  have t1 := Chg.cellv kk r1 hx6
  have t2 := Chg.cellv kk r2 hx6
  have t3 := Chg.cellv kk r3 hx6
  clear r0 r1 r2 r3 kk hw5 hg9 h h2 hc6 hny LB LZ h0 hl4 hl6 hl7 zz
  go_upto_region 5 with fail
  rw [← Hg9.out, ← Hw5.out]
  clear Hg9 Hw5
  have p4 := B4.cell 4 _ rfl
  clear p2 p3
  have hl9 := B9.lt
  have B10 := Blk.new w5 [.int .i64 ny.1, .int .i64 ny.2.1, .int .i64 ny.2.2.1, .int .i64 ny.2.2.2] 50
  have kk := Ex.new w5 (.cells #[.int .i64 ny.1, .int .i64 ny.2.1, .int .i64 ny.2.2.1, .int .i64 ny.2.2.2] 50)
  obtain ⟨w6, hw6⟩ : ∃ w6, w6 = w5.alloc (.cells #[.int .i64 ny.1, .int .i64 ny.2.1, .int .i64 ny.2.2.1, .int .i64 ny.2.2.2] 50) := ⟨_, rfl⟩
  obtain ⟨g10, hg10⟩ : ∃ g10, g10 = w5.heap.size := ⟨_, rfl⟩
  replace B10 : Blk w6 g10 [.int .i64 ny.1, .int .i64 ny.2.1, .int .i64 ny.2.2.1, .int .i64 ny.2.2.2] 50 := by rw [hw6, hg10]; exact B10
  rw [← hw6] at kk
  have Hw6 := lH hw6
  have Hg10 := lH hg10
  replace EX := EX.nx kk
  replace B4 := B4.nx kk
  replace B6 := B6.nx kk
  replace B7 := B7.nx kk
  replace B9 := B9.nx kk
  have h10 : ¬ g10 = g9 := by omega
  clear kk hw6 hg10 hl9
  go_upto_region 7 with fail
  rw [← Hg10.out, ← Hw6.out]
  clear Hg10 Hw6
  clear t0 t1 t2 t3 p4
  have u0 := B10.cell 0 _ rfl
  have u2 := B10.cell 2 _ rfl
  have f0 := B9.free 0
  have f1 := B9.free 1
  have v0 := B9.cell 0 _ rfl
  have v1 := B9.cell 1 _ rfl
  have KB0 : Exb g9 w6 ((w6.setCell ⟨g9, 0, none⟩ (.int .i64 ny.1)).setCell ⟨g9, 1, none⟩ (.int .i64 ny.2.2.1)) := ((Exb.refl g9 w6).setB (p := ⟨g9, 0, none⟩) _ rfl).setB (p := ⟨g9, 1, none⟩) _ rfl
  have BS0 : Blk ((w6.setCell ⟨g9, 0, none⟩ (.int .i64 ny.1)).setCell ⟨g9, 1, none⟩ (.int .i64 ny.2.2.1)) g9 [.int .i64 ny.1, .int .i64 ny.2.2.1] 69 := (B9.set 0 (.int .i64 ny.1)).set 1 (.int .i64 ny.2.2.1)
  have KS0 : Ex w ((w6.setCell ⟨g9, 0, none⟩ (.int .i64 ny.1)).setCell ⟨g9, 1, none⟩ (.int .i64 ny.2.2.1)) := (EX.setNew (p := ⟨g9, 0, none⟩) _ zg9).setNew (p := ⟨g9, 1, none⟩) _ zg9
  replace B4 := lH B4
  replace B6 := lH B6
  replace B7 := lH B7
  replace B10 := lH B10
  replace KB0 := lH KB0
  replace BS0 := lH BS0
  replace KS0 := lH KS0
  clear B9 EX
  go_upto_region 8 with fail
  obtain ⟨w7, hw7⟩ : ∃ w7, w7 = ((w6.setCell ⟨g9, 0, none⟩ (.int .i64 ny.1)).setCell ⟨g9, 1, none⟩ (.int .i64 ny.2.2.1)) := ⟨_, rfl⟩
  rw [← hw7] at KB0 BS0 KS0 ⊢
  have B9 := BS0.out
  have EX := KS0.out
  replace B4 := B4.out.nxb h49 KB0.out
  replace B6 := B6.out.nxb h69 KB0.out
  replace B7 := B7.out.nxb h79 KB0.out
  replace B10 := B10.out.nxb h10 KB0.out
  clear hw7 KB0 BS0 KS0 f0 f1 v0 v1
  clear u0 u2
  have q2 := B7.cell 2 _ rfl
  go_wp2_with fail
  refine (bit_p xw ((k : Int) - 1) _ FWh (by omega) (by omega)).mono ?_
  rintro e w8 ⟨rfl, rfl⟩
  by_cases hb : bitN xw ((k : Int) - 1) = 1
  ·have E0 := lH (LX.out.1 hb)
   have db : (((bitN xw ((k : Int) - 1) : Nat) : Int) == 1) = true := by rw [hb]; rfl
   clear hb FWh LX
   have u0 := B10.cell 1 _ rfl
   have u2 := B10.cell 3 _ rfl
   have f0 := B9.free 0
   have f1 := B9.free 1
   have v0 := B9.cell 0 _ rfl
   have v1 := B9.cell 1 _ rfl
   have KB0 : Exb g9 w7 ((w7.setCell ⟨g9, 0, none⟩ (.int .i64 ny.2.1)).setCell ⟨g9, 1, none⟩ (.int .i64 ny.2.2.2)) := ((Exb.refl g9 w7).setB (p := ⟨g9, 0, none⟩) _ rfl).setB (p := ⟨g9, 1, none⟩) _ rfl
   have BS0 : Blk ((w7.setCell ⟨g9, 0, none⟩ (.int .i64 ny.2.1)).setCell ⟨g9, 1, none⟩ (.int .i64 ny.2.2.2)) g9 [.int .i64 ny.2.1, .int .i64 ny.2.2.2] 69 := (B9.set 0 (.int .i64 ny.2.1)).set 1 (.int .i64 ny.2.2.2)
   have KS0 : Ex w ((w7.setCell ⟨g9, 0, none⟩ (.int .i64 ny.2.1)).setCell ⟨g9, 1, none⟩ (.int .i64 ny.2.2.2)) := (EX.setNew (p := ⟨g9, 0, none⟩) _ zg9).setNew (p := ⟨g9, 1, none⟩) _ zg9
   replace B4 := lH B4
   replace B6 := lH B6
   replace B7 := lH B7
   replace B10 := lH B10
   replace KB0 := lH KB0
   replace BS0 := lH BS0
   replace KS0 := lH KS0
   clear B9 EX
   go_upto_region 10 with fail
   obtain ⟨w9, hw9⟩ : ∃ w9, w9 = ((w7.setCell ⟨g9, 0, none⟩ (.int .i64 ny.2.1)).setCell ⟨g9, 1, none⟩ (.int .i64 ny.2.2.2)) := ⟨_, rfl⟩
   rw [← hw9] at KB0 BS0 KS0 ⊢
   have B9 := BS0.out
   have EX := KS0.out
   replace B4 := B4.out.nxb h49 KB0.out
   replace B6 := B6.out.nxb h69 KB0.out
   replace B7 := B7.out.nxb h79 KB0.out
   replace B10 := B10.out.nxb h10 KB0.out
   clear hw9 KB0 BS0 KS0 f0 f1 v0 v1
   clear u0 u2 q2 B7 B10
   have Y0 : Hid (∀ wq, Ex w9 wq → wq.cell? ⟨g9, 0, none⟩ = some (.int .i64 ny.2.1)) := lH (fun wq kq => (B9.nx kq).cell 0 _ rfl)
   have Y1 : Hid (∀ wq, Ex w9 wq → wq.cell? ⟨g9, 1, none⟩ = some (.int .i64 ny.2.2.2)) := lH (fun wq kq => (B9.nx kq).cell 1 _ rfl)
   have QI : Hid (∀ wq, Ex w9 wq → wq.cell? ⟨g4, 0, none⟩ = some (.int .i64 p.id)) := lH (fun wq kq => (B4.nx kq).cell 0 _ rfl)
   have HS := lH (H0.out.nx EX)
   have K := lH EX
   replace B6 := lH B6
   clear B9 B4 EX
   refine wp_region_late_drew (S := Ex w9) [13] (by kernel_rfl) ((Ex.refl w9).drew) (fun hHeld => ?_)
   obtain ⟨wd, hwdx⟩ : ∃ wd : World, wd = World.drew w9 := ⟨_, rfl⟩
   rw [← hwdx] at hHeld ⊢
   have hDrew : Ex w9 wd := by rw [hwdx]; exact (Ex.refl w9).drew
   clear hwdx
   refine tkL 0 (v := ?_) rfl (by kernel_rfl) (fun _ _ _ h => h) (by rfl) ?y2x0q5 (by assumption) ?z2x0q5
   case y2x0q5 => intro wq hSw; (go_simp); (try with_reducible rfl)
   refine tkL 1 (v := ?_) rfl (by kernel_rfl) (fun _ _ _ h => h) (by rfl) ?y2x1q8 (by assumption) ?z2x1q8
   case y2x1q8 => intro wq hSw; (go_simp); (try with_reducible rfl)
   refine tkL 2 (v := ?_) rfl (by kernel_rfl) (fun _ _ _ h => h) (by rfl) ?y2x2q11 (by assumption) ?z2x2q11
   case y2x2q11 => intro wq hSw; (have cq := Y0.out wq hSw; go_simp); (try with_reducible rfl)
   refine tkL 3 (v := ?_) rfl (by kernel_rfl) (fun _ _ _ h => h) (by rfl) ?y2x3q14 (by assumption) ?z2x3q14
   case y2x3q14 => intro wq hSw; (go_simp); (try with_reducible rfl)
   refine tkL 4 (v := ?_) rfl (by kernel_rfl) (fun _ _ _ h => h) (by rfl) ?y2x4q17 (by assumption) ?z2x4q17
   case y2x4q17 => intro wq hSw; (have cq := QI.out wq hSw; go_simp); (try with_reducible rfl)
   refine tkL 6 (v := ?_) rfl (by kernel_rfl) (fun _ _ _ h => h) (by rfl) ?y2x6q20 (by assumption) ?z2x6q20
   case y2x6q20 => intro wq hSw; (go_simp); (try with_reducible rfl)
   refine tkL 7 (v := ?_) rfl (by kernel_rfl) (fun _ _ _ h => h) (by rfl) ?y2x7q23 (by assumption) ?z2x7q23
   case y2x7q23 => intro wq hSw; (go_simp); (try with_reducible rfl)
   refine tkL 8 (v := ?_) rfl (by kernel_rfl) (fun _ _ _ h => h) (by rfl) ?y2x8q26 (by assumption) ?z2x8q26
   case y2x8q26 => intro wq hSw; (have cq := Y1.out wq hSw; go_simp); (try with_reducible rfl)
   refine tkL 9 (v := ?_) rfl (by kernel_rfl) (fun _ _ _ h => h) (by rfl) ?y2x9q29 (by assumption) ?z2x9q29
   case y2x9q29 => intro wq hSw; (go_simp); (try with_reducible rfl)
   refine tkL 10 (v := ?_) rfl (by kernel_rfl) (fun _ _ _ h => h) (by rfl) ?y2x10q32 (by assumption) ?z2x10q32
   case y2x10q32 => intro wq hSw; (have cq := QI.out wq hSw; go_simp); (try with_reducible rfl)
   refine wpAnyL_ready (rs := [5]) (by kernel_rfl) (by simp) ?_
   refine AllReadyL.cons (o := ⟨_, _, _, _, _, _⟩) rfl (fun K hK => ?_) AllReadyL.nil
   go_simp
   (with_reducible refine (other_p _ _ _ N ny.2.1 p.id _ (HS.out.nx hHeld) hn).mono ?_)
   rintro e wb ⟨rfl, kk⟩
   replace hHeld := hHeld.nx kk
   clear kk
   refine hK.out _ _ (hHeld) (fun hHeld => ?_)
   clear hK K
   refine wpAnyL_ready (rs := [11]) (by kernel_rfl) (by simp) ?_
   refine AllReadyL.cons (o := ⟨_, _, _, _, _, _⟩) rfl (fun K hK => ?_) AllReadyL.nil
   go_simp
   (with_reducible refine (other_p _ _ _ N ny.2.2.2 p.id _ (HS.out.nx hHeld) hn).mono ?_)
   rintro e wc ⟨rfl, kk⟩
   replace hHeld := hHeld.nx kk
   clear kk
   have B6z := B6.out.nx hHeld
   have f0 := B6z.free 0
   have f1 := B6z.free 1
   have r0 := B6z.cell 0 _ rfl
   have r1 := B6z.cell 1 _ rfl
   refine hK.out _ _ (hHeld) (fun hHeld => ?_)
   clear hK K
   refine tkL 12 (v := ?_) rfl (by kernel_rfl) (fun _ _ _ h => h) (by rfl) ?y2x12q60 (by assumption) ?z2x12q60
   case y2x12q60 => intro wq hSw; (go_simp); (try with_reducible rfl)
   refine wpAnyL_ready (rs := [13]) (by kernel_rfl) (by simp) ?_
   refine AllReadyL.consL (o := ⟨_, _, _, _, _, _⟩) rfl (by rfl) (fun K hK => ?_) AllReadyL.nil
   go_simp
   refine hK.out _ _ ?_
   clear hK K
   refine wpAnyL_done (by kernel_rfl) ?_ _
   have KE := lH (((K.out.nx hHeld).setNew (p := ⟨g6, 0, none⟩) (.int .i64 (otherN N ny.2.1 p.id)) zg6).setNew (p := ⟨g6, 1, none⟩) (.int .i64 (otherN N ny.2.2.2 p.id)) zg6)
   clear hDrew hHeld B6z
   go_wp2_with fail
   refine bodyPost_ret (v := .agg #[.int .i64 (otherN N ny.2.1 p.id), .int .i64 (otherN N ny.2.2.2 p.id)]) (by simp [results, Tryz.results42, go_sem, *]) rfl ⟨by rw [E0.out], KE.out⟩
  ·have E0 := lH (LX.out.2 hb)
   have db : (((bitN xw ((k : Int) - 1) : Nat) : Int) == 1) = false := by simp; omega
   clear hb FWh LX
   go_upto_region 10 with fail
   clear q2 B7 B10
   have Y0 : Hid (∀ wq, Ex w7 wq → wq.cell? ⟨g9, 0, none⟩ = some (.int .i64 ny.1)) := lH (fun wq kq => (B9.nx kq).cell 0 _ rfl)
   have Y1 : Hid (∀ wq, Ex w7 wq → wq.cell? ⟨g9, 1, none⟩ = some (.int .i64 ny.2.2.1)) := lH (fun wq kq => (B9.nx kq).cell 1 _ rfl)
   have QI : Hid (∀ wq, Ex w7 wq → wq.cell? ⟨g4, 0, none⟩ = some (.int .i64 p.id)) := lH (fun wq kq => (B4.nx kq).cell 0 _ rfl)
   have HS := lH (H0.out.nx EX)
   have K := lH EX
   replace B6 := lH B6
   clear B9 B4 EX
   refine wp_region_late_drew (S := Ex w7) [13] (by kernel_rfl) ((Ex.refl w7).drew) (fun hHeld => ?_)
   obtain ⟨wd, hwdx⟩ : ∃ wd : World, wd = World.drew w7 := ⟨_, rfl⟩
   rw [← hwdx] at hHeld ⊢
   have hDrew : Ex w7 wd := by rw [hwdx]; exact (Ex.refl w7).drew
   clear hwdx
   refine tkL 0 (v := ?_) rfl (by kernel_rfl) (fun _ _ _ h => h) (by rfl) ?y3x0q5 (by assumption) ?z3x0q5
   case y3x0q5 => intro wq hSw; (go_simp); (try with_reducible rfl)
   refine tkL 1 (v := ?_) rfl (by kernel_rfl) (fun _ _ _ h => h) (by rfl) ?y3x1q8 (by assumption) ?z3x1q8
   case y3x1q8 => intro wq hSw; (go_simp); (try with_reducible rfl)
   refine tkL 2 (v := ?_) rfl (by kernel_rfl) (fun _ _ _ h => h) (by rfl) ?y3x2q11 (by assumption) ?z3x2q11
   case y3x2q11 => intro wq hSw; (have cq := Y0.out wq hSw; go_simp); (try with_reducible rfl)
   refine tkL 3 (v := ?_) rfl (by kernel_rfl) (fun _ _ _ h => h) (by rfl) ?y3x3q14 (by assumption) ?z3x3q14
   case y3x3q14 => intro wq hSw; (go_simp); (try with_reducible rfl)
   refine tkL 4 (v := ?_) rfl (by kernel_rfl) (fun _ _ _ h => h) (by rfl) ?y3x4q17 (by assumption) ?z3x4q17
   case y3x4q17 => intro wq hSw; (have cq := QI.out wq hSw; go_simp); (try with_reducible rfl)
   refine tkL 6 (v := ?_) rfl (by kernel_rfl) (fun _ _ _ h => h) (by rfl) ?y3x6q20 (by assumption) ?z3x6q20
   case y3x6q20 => intro wq hSw; (go_simp); (try with_reducible rfl)
   refine tkL 7 (v := ?_) rfl (by kernel_rfl) (fun _ _ _ h => h) (by rfl) ?y3x7q23 (by assumption) ?z3x7q23
   case y3x7q23 => intro wq hSw; (go_simp); (try with_reducible rfl)
   refine tkL 8 (v := ?_) rfl (by kernel_rfl) (fun _ _ _ h => h) (by rfl) ?y3x8q26 (by assumption) ?z3x8q26
   case y3x8q26 => intro wq hSw; (have cq := Y1.out wq hSw; go_simp); (try with_reducible rfl)
   refine tkL 9 (v := ?_) rfl (by kernel_rfl) (fun _ _ _ h => h) (by rfl) ?y3x9q29 (by assumption) ?z3x9q29
   case y3x9q29 => intro wq hSw; (go_simp); (try with_reducible rfl)
   refine tkL 10 (v := ?_) rfl (by kernel_rfl) (fun _ _ _ h => h) (by rfl) ?y3x10q32 (by assumption) ?z3x10q32
   case y3x10q32 => intro wq hSw; (have cq := QI.out wq hSw; go_simp); (try with_reducible rfl)
   refine wpAnyL_ready (rs := [5]) (by kernel_rfl) (by simp) ?_
   refine AllReadyL.cons (o := ⟨_, _, _, _, _, _⟩) rfl (fun K hK => ?_) AllReadyL.nil
   go_simp
   (with_reducible refine (other_p _ _ _ N ny.1 p.id _ (HS.out.nx hHeld) hn).mono ?_)
   rintro e wb ⟨rfl, kk⟩
   replace hHeld := hHeld.nx kk
   clear kk
   refine hK.out _ _ (hHeld) (fun hHeld => ?_)
   clear hK K
   refine wpAnyL_ready (rs := [11]) (by kernel_rfl) (by simp) ?_
   refine AllReadyL.cons (o := ⟨_, _, _, _, _, _⟩) rfl (fun K hK => ?_) AllReadyL.nil
   go_simp
   (with_reducible refine (other_p _ _ _ N ny.2.2.1 p.id _ (HS.out.nx hHeld) hn).mono ?_)
   rintro e wc ⟨rfl, kk⟩
   replace hHeld := hHeld.nx kk
   clear kk
   have B6z := B6.out.nx hHeld
   have f0 := B6z.free 0
   have f1 := B6z.free 1
   have r0 := B6z.cell 0 _ rfl
   have r1 := B6z.cell 1 _ rfl
   refine hK.out _ _ (hHeld) (fun hHeld => ?_)
   clear hK K
   refine tkL 12 (v := ?_) rfl (by kernel_rfl) (fun _ _ _ h => h) (by rfl) ?y3x12q60 (by assumption) ?z3x12q60
   case y3x12q60 => intro wq hSw; (go_simp); (try with_reducible rfl)
   refine wpAnyL_ready (rs := [13]) (by kernel_rfl) (by simp) ?_
   refine AllReadyL.consL (o := ⟨_, _, _, _, _, _⟩) rfl (by rfl) (fun K hK => ?_) AllReadyL.nil
   go_simp
   refine hK.out _ _ ?_
   clear hK K
   refine wpAnyL_done (by kernel_rfl) ?_ _
   have KE := lH (((K.out.nx hHeld).setNew (p := ⟨g6, 0, none⟩) (.int .i64 (otherN N ny.1 p.id)) zg6).setNew (p := ⟨g6, 1, none⟩) (.int .i64 (otherN N ny.2.2.1 p.id)) zg6)
   clear hDrew hHeld B6z
   go_wp2_with fail
   refine bodyPost_ret (v := .agg #[.int .i64 (otherN N ny.1 p.id), .int .i64 (otherN N ny.2.2.1 p.id)]) (by simp [results, Tryz.results42, go_sem, *]) rfl ⟨by rw [E0.out], KE.out⟩
def Acc (β lo hi : Nat) (w6 wr : World) (o : Value) : Prop := Chg (fun k => k < hi ∧ (k < β ∨ lo ≤ k)) w6 wr ∧ hi ≤ wr.heap.size ∧ ∀ g, o.ownBlock = some g → g < lo ∨ hi ≤ g
theorem Acc.start {β lo hi : Nat} {w : World} {o : Value} (hs : hi ≤ w.heap.size) (ho : ∀ g, o.ownBlock = some g → g < lo ∨ hi ≤ g) : Acc β lo hi w w o := ⟨Chg.refl _ _, hs, ho⟩
theorem Acc.step {β lo hi : Nat} {w6 wr w9 : World} {o o' : Value} (h : Acc β lo hi w6 wr o) (hb : ∀ g, o.ownBlock = some g → β ≤ g) (k : Chg (fun k => k < wr.heap.size ∧ ¬ o.ownBlock = some k) wr w9) (ho : o'.ownBlock = o.ownBlock ∨ ∀ g, o'.ownBlock = some g → wr.heap.size ≤ g) : Acc β lo hi w6 w9 o' := by
 refine ⟨h.1.trans (k.mono fun x hx => ⟨Nat.lt_of_lt_of_le hx.1 h.2.1, fun hv => ?_⟩), Nat.le_trans h.2.1 k.size, fun g hg => ?_⟩
 ·have h1 := hb x hv
  have h2 := h.2.2 x hv
  have h3 := hx.2
  have h4 := hx.1
  omega
 ·rcases ho with h1 | h1
  ·exact h.2.2 g (by rw [← h1]; exact hg)
  ·have := h1 g hg; have := h.2.1; omega
theorem Acc.nx {β lo hi : Nat} {w6 wr w9 : World} {o : Value} (h : Acc β lo hi w6 wr o) (k : Ex wr w9) : Acc β lo hi w6 w9 o :=
 ⟨h.1.trans (Chg.mono k fun x hx => Nat.lt_of_lt_of_le hx.1 h.2.1), Nat.le_trans h.2.1 k.size, h.2.2⟩
theorem Acc.sl {α : Type} {sz n : Nat} {enc : α → List Value} {a : Option Addr} {l : List α} {β : Nat} {w5 w6 wr : World} {o : Value} (h : Acc β w5.heap.size w6.heap.size w6 wr o) (s : Slf sz enc w5 w6 a n l) : Sl sz enc wr a n l :=
 (Rd.chg s h.1 (fun _ hk => ⟨hk.2, .inr hk.1⟩)).mono fun _ hk => Nat.lt_of_lt_of_le hk.2 h.2.1
theorem Acc.ex {w2 w6 wr : World} {lo : Nat} {o : Value} (h : Acc w2.heap.size lo w6.heap.size w6 wr o) (k : Ex w2 w6) : Ex w2 wr :=
 Chg.trans k (Chg.mono h.1 fun _ hk => ⟨Nat.lt_of_lt_of_le hk k.size, .inl hk⟩)
theorem norm1_p (gx : Nat) (x : Nd) (w : World) (hx : Blk w gx [.int .i64 x.id, .string x.key, .int .u32 x.word] 56) : PredI 104 #[.pointer (some ⟨gx, 0, none⟩)] x.id w := by
 intro p h1 h2 w' kk
 have q0 := (hx.nx kk).cell 0 _ rfl
 have hg := (hx.nx kk).lt
 have hne : ¬ gx = w'.heap.size := by omega
 obtain ⟨a1, n1, c1⟩ := h1
 obtain ⟨a2, n2, c2⟩ := h2
 simp only [Hdr.val]
 clear hx kk
 go_enter Tryz.func104, Tryz.ntmps104
 go_wp2
 go_ret
 exact ⟨rfl, (Ex.refl _).alloc _⟩
def NoRel (S : List Nd) (P : List Pr) (w : World) (o i : Value) (wr : World) : Prop :=
 ∃ (j : Nat) (qs : List PQ), j ≤ S.length ∧ i = .int .i64 j ∧ OwnPr w.heap.size wr o qs ((S.take j).map fun x => peerN P x.id) ∧ Ex w wr
theorem no_snoc {S : List Nd} {P : List Pr} {j : Nat} {x : Nd} (hy : S[j]? = some x) : ((S.take (j + 1)).map fun x => peerN P x.id) = ((S.take j).map fun x => peerN P x.id) ++ [peerN P x.id] := by
 rw [take_snocN S j x hy, List.map_append]; rfl
set_option maxRecDepth 100000 in
set_option maxHeartbeats 8000000 in
theorem normal_p (a : Option Addr) (n c : Nat) (N : List Nd) (a2 : Option Addr) (n2 c2 : Nat) (P : List Pr) (w : World) (h : Sl 3 encN w a n N) (hn : n ≤ 1000) (hc : n ≤ c) (hm : c ≤ maxLen) (h2 : PL w a2 n2 P) (hn2 : n2 ≤ 4000000000000000000) (hP : SmallP P) :
  Calls Tryz.prog 63 #[.slice a n c, .slice a2 n2 c2] w (PlPost (normalN N P) w) := by
 have HL := lH h.len
 have HP := lH hP
 clear hP
 have EG : Hid (∀ args w, (callFunc 104 args).run Tryz.prog w = .ok (.enter 104 args) w) := lH (enters_of Tryz.func104 (by kernel_rfl) rfl)
 have H2 := lH h2
 clear h2
 go_enter Tryz.func63, Tryz.ntmps63
 go_wp2_with fail
 (with_reducible refine (check_p _ _ _ _ _ h (by omega) hc hm).mono ?_)
 rintro e w0 ⟨rfl, kk⟩
 replace h := h.nx kk
 have K0 := lH kk
 clear kk
 by_cases hck : checkN N = 0
 case neg =>
  have d1 : (checkN N != 0) = true := by simpa using hck
  have E0 : Hid (normalN N P = []) := lH (by unfold normalN; rw [if_neg hck])
  clear h hck
  go_wp2_with fail
  go_ret
  exact ⟨_, [], rfl, by rw [E0.out]; exact OwnP.nil _ _ _ _ _, K0.out⟩
 have d1 : (checkN N != 0) = false := by simpa using hck
 have E0 : Hid (normalN N P = (sortN N).map fun x => peerN P x.id) := lH (by unfold normalN; rw [if_pos hck])
 have HC := lH hck
 clear hck
 go_wp2_with fail
 (with_reducible refine (sort_p _ _ _ _ _ h hn).mono ?_)
 rintro e w1 ⟨v, S, rfl, OS, ⟨hp, hsrt⟩, kk⟩
 have hSe : S = sortN N := sortN_unique (check_keys HC.out) hp hsrt
 subst hSe
 obtain ⟨a1, c1, rfl, S1, _, _⟩ := sorted_own HC.out OS
 rw [HL.out] at S1 ⊢
 have hSl : (sortN N).length = n := by rw [S1.len]
 generalize sortN N = S at S1 hSl E0 ⊢
 have S1 := lH S1
 have K1 := lH (K0.out.nx kk)
 have HSL := lH hSl
 have z01 := K1.out.size
 clear h OS kk hp hsrt hSl
 go_wp2_with fail
 go_loopw [5, 16] (fun o i wr => NoRel S P w1 o i wr) (fun _ i _ => n - (intOf i).toNat)
 case atStart => exact ⟨0, [], by omega, rfl, OwnP.nil _ _ _ _ _, Ex.refl _⟩
 case round =>
  obtain ⟨j, qs, hj, rfl, own, ki⟩ := hrel
  rw [HSL.out] at hj
  obtain ⟨wi, rfl⟩ : ∃ wi : World, wi = wr := ⟨_, rfl⟩
  by_cases hjm : j < n
  ·obtain ⟨x3, o3, x, rfl, hx3, hy, hc3⟩ := (S1.out.nx ki).at hjm
   have e0 : wi.cell? ⟨x3, o3 + j * 3, none⟩ = some (.int .i64 x.id) := hc3 0 _ rfl
   have e1 : wi.cell? ⟨x3, o3 + j * 3 + 1, none⟩ = some (.string x.key) := hc3 1 _ rfl
   have e2 : wi.cell? ⟨x3, o3 + j * 3 + 1 + 1, none⟩ = some (.int .u32 x.word) := by simpa [Nat.add_assoc] using hc3 2 _ rfl
   have SN := lH (no_snoc (P := P) hy)
   have hql : qs.length = j := by rw [own.2.1, List.length_map, List.length_take, HSL.out]; omega
   have hwi := ki.size
   have KI := lH ki
   have OWN := lH own
   clear hy own ki hc3
   have B7 := Blk.new wi [.int .i64 x.id, .string x.key, .int .u32 x.word] 56
   have kk := Ex.new wi (.cells #[.int .i64 x.id, .string x.key, .int .u32 x.word] 56)
   obtain ⟨w4, hw4⟩ : ∃ w4, w4 = wi.alloc (.cells #[.int .i64 x.id, .string x.key, .int .u32 x.word] 56) := ⟨_, rfl⟩
   obtain ⟨g7, hg7⟩ : ∃ g7, g7 = wi.heap.size := ⟨_, rfl⟩
   replace B7 : Blk w4 g7 [.int .i64 x.id, .string x.key, .int .u32 x.word] 56 := by rw [hw4, hg7]; exact B7
   rw [← hw4] at kk
   have Hw4 := lH hw4
   have Hg7 := lH hg7
   have zg7 : wi.heap.size ≤ g7 := by omega
   have K4 := lH kk
   clear kk hw4 hg7
   go_upto_region 7 with fail
   rw [← Hg7.out, ← Hw4.out]
   clear Hg7 Hw4
   have q0 := B7.cell 0 _ rfl
   clear e0 e1 e2
   have hz4 := K4.out.size
   have hl7 := B7.lt
   have B8 := Blk.new w4 [.int .i64 x.id, .slice none 0 0, .int .i64 0, .int .i64 0, .slice none 0 0] 41
   have kk := Ex.new w4 (.cells #[.int .i64 x.id, .slice none 0 0, .int .i64 0, .int .i64 0, .slice none 0 0] 41)
   obtain ⟨w5, hw5⟩ : ∃ w5, w5 = w4.alloc (.cells #[.int .i64 x.id, .slice none 0 0, .int .i64 0, .int .i64 0, .slice none 0 0] 41) := ⟨_, rfl⟩
   obtain ⟨g8, hg8⟩ : ∃ g8, g8 = w4.heap.size := ⟨_, rfl⟩
   replace B8 : Blk w5 g8 [.int .i64 x.id, .slice none 0 0, .int .i64 0, .int .i64 0, .slice none 0 0] 41 := by rw [hw5, hg8]; exact B8
   rw [← hw5] at kk
   have Hw5 := lH hw5
   have Hg8 := lH hg8
   replace B7 := B7.nx kk
   replace K4 := lH (K4.out.nx kk)
   have zg8 : wi.heap.size ≤ g8 := by omega
   clear kk hw5 hg8
   go_upto_region 8 with fail
   rw [← Hg8.out, ← Hw5.out]
   clear Hg8 Hw5
   clear q0
   have PI := norm1_p g7 x w5 B7
   replace B8 := lH B8
   clear B7
   go_wp2_with fail
   (with_reducible refine (idxf_pr _ _ _ EG.out _ _ _ P _ (H2.out.nx (K1.out.nx (KI.out.nx K4.out))) hn2 PI).mono ?_)
   rintro e w6 ⟨rfl, kk⟩
   replace B8 := lH (B8.out.nx kk)
   replace K4 := lH (K4.out.nx kk)
   have HG8 := lH B8.out.lt
   clear kk PI
   rcases idxQ_cases P x.id with ⟨k, y, hq, hkl, hyk, hpy, -⟩ | ⟨hq, hpy⟩
   ·have hk2 : k < n2 := by have := H2.out.len; omega
    obtain ⟨x5, o5, b1, m1, d1, b4, m4, d4, y', rfl, hx5, hy', e0, e1, e2, e3, e4, s1, s4⟩ := (H2.out.nx (K1.out.nx KI.out)).rd hk2
    obtain rfl : y = y' := Option.some.inj (hyk.symm.trans hy')
    have HPY := lH hpy
    have hyP := HP.out y (List.mem_of_getElem? hyk)
    have hl1 : m1 ≤ 17592186044416 := by have := s1.len; omega
    have hl4 : m4 ≤ 4398046511104 := by have := s4.len; omega
    have S1y := lH s1
    have S4y := lH s4
    have c0 := Chg.cellv K4.out e0 hx5
    have c1 := Chg.cellv K4.out e1 hx5
    have c2 := Chg.cellv K4.out e2 hx5
    have c3 := Chg.cellv K4.out e3 hx5
    have c4 := Chg.cellv K4.out e4 hx5
    have f0 := B8.out.free 0
    have f1 := B8.out.free 1
    have f2 := B8.out.free 2
    have f3 := B8.out.free 3
    have f4 := B8.out.free 4
    have r0 := B8.out.cell 0 _ rfl
    have r1 := B8.out.cell 1 _ rfl
    have r2 := B8.out.cell 2 _ rfl
    have r3 := B8.out.cell 3 _ rfl
    have r4 := B8.out.cell 4 _ rfl
    have hk0 : (0 : Int) ≤ (k : Int) := by omega
    rw [hq]
    clear hq hkl hyk hpy hyP e0 e1 e2 e3 e4 s1 s4 hy' hx5
    go_upto_region 11 with fail
    have KB0 : Exb g8 w6 (((((w6.setCell ⟨g8, 0, none⟩ (.int .i64 y.id)).setCell ⟨g8, 1, none⟩ (.slice b1 m1 d1)).setCell ⟨g8, 2, none⟩ (.int .i64 y.left)).setCell ⟨g8, 3, none⟩ (.int .i64 y.right)).setCell ⟨g8, 4, none⟩ (.slice b4 m4 d4)) :=
     (((((Exb.refl g8 w6).setB (p := ⟨g8, 0, none⟩) _ rfl).setB (p := ⟨g8, 1, none⟩) _ rfl).setB (p := ⟨g8, 2, none⟩) _ rfl).setB (p := ⟨g8, 3, none⟩) _ rfl).setB (p := ⟨g8, 4, none⟩) _ rfl
    have BS0 := ((((B8.out.set 0 (.int .i64 y.id)).set 1 (.slice b1 m1 d1)).set 2 (.int .i64 y.left)).set 3 (.int .i64 y.right)).set 4 (.slice b4 m4 d4)
    obtain ⟨w7, hw7⟩ : ∃ w7, w7 = (((((w6.setCell ⟨g8, 0, none⟩ (.int .i64 y.id)).setCell ⟨g8, 1, none⟩ (.slice b1 m1 d1)).setCell ⟨g8, 2, none⟩ (.int .i64 y.left)).setCell ⟨g8, 3, none⟩ (.int .i64 y.right)).setCell ⟨g8, 4, none⟩ (.slice b4 m4 d4)) := ⟨_, rfl⟩
    rw [← hw7] at KB0 BS0
    have BS : Blk w7 g8 [.int .i64 y.id, .slice b1 m1 d1, .int .i64 y.left, .int .i64 y.right, .slice b4 m4 d4] 41 := BS0
    have K8 := lH (Exl.nxb (b := g8) (w := wi) ⟨K4.out, zg8⟩ KB0).1
    rw [← hw7]
    have hg8l := BS.lt
    have B8s := lH BS
    have hz8 := K8.out.size
    clear hw7 KB0 BS0 BS c0 c1 c2 c3 c4 f0 f1 f2 f3 f4 r0 r1 r2 r3 r4 B8 K4
    refine wp_region_late_drew (S := Ex w7) [7, 8, 9] (by kernel_rfl) ((Ex.refl w7).drew) (fun hHeld => ?_)
    refine tkL 0 (v := ?_) rfl (by kernel_rfl) (fun _ _ _ h => h) (by rfl) ?y1x0q1 (by assumption) ?z1x0q1
    case y1x0q1 => intro wq hSw; (go_simp); (try with_reducible rfl)
    refine tkL 1 (v := ?_) rfl (by kernel_rfl) (fun _ _ _ h => h) (by rfl) ?y1x1q4 (by assumption) ?z1x1q4
    case y1x1q4 => intro wq hSw; (have cq := (B8s.out.nx hSw).cell 1 _ rfl; go_simp); (try with_reducible rfl)
    refine tkL 3 (v := ?_) rfl (by kernel_rfl) (fun _ _ _ h => h) (by rfl) ?y1x3q7 (by assumption) ?z1x3q7
    case y1x3q7 => intro wq hSw; (go_simp); (try with_reducible rfl)
    refine tkL 4 (v := ?_) rfl (by kernel_rfl) (fun _ _ _ h => h) (by rfl) ?y1x4q10 (by assumption) ?z1x4q10
    case y1x4q10 => intro wq hSw; (have cq := (B8s.out.nx hSw).cell 4 _ rfl; go_simp); (try with_reducible rfl)
    refine wpAnyL_ready (rs := [2]) (by kernel_rfl) (by simp) ?_
    refine AllReadyL.cons (o := ⟨_, _, _, _, _, _⟩) rfl (fun K hK => ?_) AllReadyL.nil
    go_simp
    (with_reducible refine (clone_i _ _ _ _ _ ((S1y.out.nx K8.out).nx hHeld) hl1).mono ?_)
    rintro e wc ⟨vc, rfl, own2, kk⟩
    (try replace own5 := own5.nx kk)
    obtain ⟨A2, C2, rfl, _, _, _, _⟩ := own2.slf (fun _ => rfl)
    replace own2 := own2.base hHeld.size
    replace hHeld := hHeld.nx kk
    clear kk
    have BQ := B8s.out.nx hHeld
    have KZ := hHeld.b g8
    refine hK.out _ _ (hHeld) (fun hHeld => ?_)
    clear hK K
    refine tkL 6 (v := ?_) rfl (by kernel_rfl) (fun _ _ _ h => h) (by rfl) ?y1x6q28 (by assumption) ?z1x6q28
    case y1x6q28 => intro wq hSw; (go_simp); (try with_reducible rfl)
    refine wpAnyL_ready (rs := [5]) (by kernel_rfl) (by simp) ?_
    refine AllReadyL.cons (o := ⟨_, _, _, _, _, _⟩) rfl (fun K hK => ?_) AllReadyL.nil
    go_simp
    (with_reducible refine (clone_nr _ _ _ _ _ ((S4y.out.nx K8.out).nx hHeld) hl4).mono ?_)
    rintro e wc ⟨vc, rfl, own5, kk⟩
    (try replace own2 := own2.nx kk)
    obtain ⟨A5, C5, rfl, _, _, _, _⟩ := own5.slf (fun _ => rfl)
    replace own5 := own5.base hHeld.size
    replace hHeld := hHeld.nx kk
    clear kk
    have BQ := B8s.out.nx hHeld
    have KZ := hHeld.b g8
    refine hK.out _ _ (hHeld) (fun hHeld => ?_)
    clear hK K
    refine wpAnyL_ready (rs := [7]) (by kernel_rfl) (by simp) ?_
    refine AllReadyL.consL (o := ⟨_, _, _, _, _, _⟩) rfl (by rfl) (fun K hK => ?_) AllReadyL.nil
    have cq := BQ.cell 1 _ rfl
    have fq := BQ.free 1
    go_simp
    clear cq fq
    replace BQ := BQ.set 1 (.slice A2 y.known.length C2)
    replace own2 := own2.nxb hg8l ((Exb.refl g8 _).setB (p := ⟨g8, 1, none⟩) (.slice A2 y.known.length C2) rfl)
    replace own5 := own5.nxb hg8l ((Exb.refl g8 _).setB (p := ⟨g8, 1, none⟩) (.slice A2 y.known.length C2) rfl)
    replace KZ := KZ.setB (p := ⟨g8, 1, none⟩) (.slice A2 y.known.length C2) rfl
    refine hK.out _ _ ?_
    clear hK K
    refine wpAnyL_ready (rs := [8]) (by kernel_rfl) (by simp) ?_
    refine AllReadyL.consL (o := ⟨_, _, _, _, _, _⟩) rfl (by rfl) (fun K hK => ?_) AllReadyL.nil
    go_simp
    refine hK.out _ _ ?_
    clear hK K
    refine wpAnyL_ready (rs := [9]) (by kernel_rfl) (by simp) ?_
    refine AllReadyL.consL (o := ⟨_, _, _, _, _, _⟩) rfl (by rfl) (fun K hK => ?_) AllReadyL.nil
    have cq := BQ.cell 4 _ rfl
    have fq := BQ.free 4
    go_simp
    clear cq fq
    replace BQ := BQ.set 4 (.slice A5 y.near.length C5)
    replace own2 := own2.nxb hg8l ((Exb.refl g8 _).setB (p := ⟨g8, 4, none⟩) (.slice A5 y.near.length C5) rfl)
    replace own5 := own5.nxb hg8l ((Exb.refl g8 _).setB (p := ⟨g8, 4, none⟩) (.slice A5 y.near.length C5) rfl)
    replace KZ := KZ.setB (p := ⟨g8, 4, none⟩) (.slice A5 y.near.length C5) rfl
    refine hK.out _ _ ?_
    clear hK K
    refine wpAnyL_done (by kernel_rfl) ?_ _
    obtain ⟨wz, hwz⟩ : ∃ wz, wz = (wc.setCell ⟨g8, 1, none⟩ (.slice A2 y.known.length C2)).setCell ⟨g8, 4, none⟩ (.slice A5 y.near.length C5) := ⟨_, rfl⟩
    rw [← hwz] at BQ own2 own5 KZ ⊢
    clear hwz
    have BF : Blk wz g8 [.int .i64 y.id, .slice A2 y.known.length C2, .int .i64 y.left, .int .i64 y.right, .slice A5 y.near.length C5] 41 := BQ
    have p0 := BF.cell 0 _ rfl
    have p1 := BF.cell 1 _ rfl
    have p2 := BF.cell 2 _ rfl
    have p3 := BF.cell 3 _ rfl
    have p4 := BF.cell 4 _ rfl
    have KW := lH (Exl.nxb (b := g8) (w := wi) ⟨K8.out, zg8⟩ KZ).1
    have OP := lH (OWN.out.nx KW.out)
    have zw := KW.out.size
    replace own2 := lH (own2.base hz8)
    replace own5 := lH (own5.base hz8)
    have hw3 : w1.heap.size ≤ wi.heap.size := hwi
    have KN := KW.out.nx (Ex.new _ (.cells #[.int .i64 y.id, .slice A2 y.known.length C2, .int .i64 y.left, .int .i64 y.right, .slice A5 y.near.length C5] 41))
    have zn := Nat.le_trans hw3 KN.size
    clear BQ BF KZ hHeld
    go_wp2_with (at_builtin; (refine wpList_append_W (enc := encQ) _ rfl _ _ 24 rfl w1.heap.size 41 (.agg #[.int .i64 0, .slice none 0 0, .int .i64 0, .int .i64 0, .slice none 0 0]) 5 72 Tryz.underlying24 Tryz.infoPr rfl (by omega) (by omega) _ qs (OP.out.nx (Ex.new _ _)).row rfl _ 1 1 [(y.nums, (A2, y.known.length, C2), (A5, y.near.length, C5))] (Sl.lit _ rfl rfl encQ_len rfl) encQ_len encQ_one rfl (by omega) (by omega) zn ?_); intro v9 w9 own9 ch0 ch1 _)
    have RR := OWN.out.app (by decide) (by decide) hw3 KN (own2.out.nx (Ex.new _ _)) (own5.out.nx (Ex.new _ _)) own9 ch0
    exact ⟨⟨j + 1, _, by rw [HSL.out]; omega, by go_num, by rw [SN.out, HPY.out]; exact RR, Chg.trans (KI.out.nx KN) ch1⟩, by simp [intOf]; omega⟩
   ·have HPY := lH hpy
    have hw3 : w1.heap.size ≤ wi.heap.size := hwi
    have r0 := B8.out.cell 0 _ rfl
    have r1 := B8.out.cell 1 _ rfl
    have r2 := B8.out.cell 2 _ rfl
    have r3 := B8.out.cell 3 _ rfl
    have r4 := B8.out.cell 4 _ rfl
    have KN := K4.out.nx (Ex.new _ (.cells #[.int .i64 x.id, .slice none 0 0, .int .i64 0, .int .i64 0, .slice none 0 0] 41))
    have zn := Nat.le_trans hw3 KN.size
    have OP := lH (OWN.out.nx K4.out)
    rw [hq]
    clear hq hpy
    go_wp2_with (at_builtin; (refine wpList_append_W (enc := encQ) _ rfl _ _ 24 rfl w1.heap.size 41 (.agg #[.int .i64 0, .slice none 0 0, .int .i64 0, .int .i64 0, .slice none 0 0]) 5 72 Tryz.underlying24 Tryz.infoPr rfl (by omega) (by omega) _ qs (OP.out.nx (Ex.new _ _)).row rfl _ 1 1 [((x.id, 0, 0), (none, 0, 0), (none, 0, 0))] (Sl.lit _ rfl rfl encQ_len rfl) encQ_len encQ_one rfl (by omega) (by omega) zn ?_); intro v9 w9 own9 ch0 ch1 _)
    have RR := OWN.out.app (p := ⟨x.id, 0, 0, [], []⟩) (hk := (none, 0, 0)) (hn := (none, 0, 0)) (by decide) (by decide) hw3 KN (OwnL.nil _ _ _ _ _) (OwnL.nil _ _ _ _ _) own9 ch0
    exact ⟨⟨j + 1, _, by rw [HSL.out]; omega, by go_num, by rw [SN.out, HPY.out]; exact RR, Chg.trans (KI.out.nx KN) ch1⟩, by simp [intOf]; omega⟩
  ·obtain rfl : j = n := by omega
   rw [List.take_of_length_le (by rw [HSL.out]; exact Nat.le_refl _)] at own
   have OWN := lH (own.lower z01)
   have KI := lH (K1.out.nx ki)
   clear own ki hj hjm
   go_wp2_with fail
   go_ret
   exact ⟨_, qs, rfl, by rw [E0.out]; exact OWN.out, KI.out⟩
end Go.Proofs.YtlgdjigocopglaaGreatDoor
namespace Go.Proofs.YtlgdjigocopglaaGreatDoor
open Go.RowKit Go.Maps
def AccM (β lo hi bm : Nat) (w6 wr : World) (f : Int → Value) : Prop :=
 Chg (fun k => k < hi ∧ k ≠ bm ∧ (k < β ∨ lo ≤ k)) w6 wr ∧ hi ≤ wr.heap.size ∧ ∀ v g, (f v).ownBlock = some g → g < lo ∨ hi ≤ g
section
variable {β lo hi bm : Nat} {w6 wr w9 : World} {f : Int → Value}
theorem AccM.sl {α : Type} {sz n : Nat} {enc : α → List Value} {a : Option Addr} {l : List α} {w5 w6 wr : World} (h : AccM β w5.heap.size w6.heap.size bm w6 wr f) (hb : bm < w5.heap.size) (s : Slf sz enc w5 w6 a n l) : Sl sz enc wr a n l :=
 (Rd.chg s h.1 (fun _ hk => ⟨hk.2, by omega, .inr hk.1⟩)).mono fun _ hk => Nat.lt_of_lt_of_le hk.2 h.2.1
theorem AccM.blk {g : Nat} {cs : List Value} {ty : TypeId} (h : AccM β lo w6.heap.size bm w6 wr f) (B : Blk w6 g cs ty) (hg : lo ≤ g) (hb : bm ≠ g) : Blk wr g cs ty :=
 (Chg.block h.1 g ⟨B.lt, fun h => hb h.symm, .inr hg⟩).trans B
end
theorem Slf.row {α β : Type} {sz n sz' e base : Nat} {enc : α → List Value} {enc' : β → List Value} {w0 w w' : World} {a : Option Addr} {l : List α} {v : Value} {l' : List β} (s : Slf sz enc w0 w a n l) (h : OwnL sz' enc' e base w0 v l') (k : Chg (fun k => k < w.heap.size ∧ ¬ v.ownBlock = some k) w w') : Slf sz enc w0 w' a n l :=
 (Rd.chg s k fun _ hk => ⟨hk.2, fun hv => by have := (h.lt _ hv).2; have := hk.1; omega⟩).mono fun _ hk => ⟨hk.1, Nat.lt_of_lt_of_le hk.2 k.size⟩
theorem QuL.base {e : TypeId} {base base' : Nat} {w : World} {v : Value} {l : List Int} (h : QuL e base w v l) (hb : base' ≤ base) : QuL e base' w v l := by
 rcases h with h | ⟨g, o, cap, cur, h1, h2, h3⟩
 ·exact .inl h
 ·exact .inr ⟨g, o, cap, cur, h1, Nat.le_trans hb h2, h3⟩
end Go.Proofs.YtlgdjigocopglaaGreatDoor
namespace Go.Proofs.YtlgdjigocopglaaGreatDoor
open Go.RowKit Go.Maps
theorem normal_le (N : List Nd) (P : List Pr) : (normalN N P).length ≤ N.length ∧ (0 < (normalN N P).length → checkN N = 0) := by
 unfold normalN
 split
 ·rename_i h; exact ⟨by rw [List.length_map, sortN_length]; exact Nat.le_refl _, fun _ => h⟩
 ·exact ⟨Nat.zero_le _, fun h => by cases h⟩
theorem normal_small (N : List Nd) {P : List Pr} (h : SmallP P) : SmallP (normalN N P) := by
 intro p hp
 unfold normalN at hp
 split at hp
 ·obtain ⟨x, _, rfl⟩ := List.mem_map.1 hp
  unfold peerN
  cases hf : P.find? fun p => p.id == x.id with
  | none => exact ⟨Nat.zero_le _, Nat.zero_le _⟩
  | some q => exact h q (List.mem_of_find?_eq_some hf)
 ·cases hp
theorem AccM.one {β lo hi bm : Nat} {w6 wp w1 w3 : World} {f : Int → Value} {x : Int} {va : Value} (h : AccM β lo hi bm w6 wp f) (hb : ∀ v g, (f v).ownBlock = some g → β ≤ g)
  (k1 : Chg (fun k => k < wp.heap.size ∧ ¬ (f x).ownBlock = some k) wp w1) (la : ∀ g, va.ownBlock = some g → (f x).ownBlock = some g ∨ wp.heap.size ≤ g) (k3 : Exb bm w1 w3) : AccM β lo hi bm w6 w3 (upd f x va) := by
 have s1 := k1.size
 have s3 := k3.size
 have hs := h.2.1
 have key : ∀ v k, k < hi ∧ k ≠ bm ∧ (k < β ∨ lo ≤ k) → ¬ (f v).ownBlock = some k := fun v k hk hv => by
  have h1 := hb v k hv
  have h2 := h.2.2 v k hv
  omega
 refine ⟨h.1.trans ((k1.mono fun k hk => ⟨by omega, key x k hk⟩).trans (Chg.mono k3 fun k hk => ⟨by omega, hk.2.1⟩)), by omega, fun v g hv => ?_⟩
 unfold upd at hv
 by_cases h3 : v = x
 ·rw [if_pos h3] at hv
  rcases la g hv with h2 | h2
  ·exact h.2.2 x g h2
  ·omega
 ·rw [if_neg h3] at hv
  exact h.2.2 v g hv
def lrow (N : List Nd) (h : Nat) (p : Pr) : Lkd := (p.id, (List.range (h + 1)).map fun (lev : Nat) => linkB N p lev)
theorem links_eq {N : List Nd} {P : List Pr} {h : Nat} (hh : h ≤ 16) : linksB N P h = (normalN N P).map (lrow N h) := by
 unfold linksB
 rw [if_pos (lvl_of (by omega) (by omega))]
 rfl
theorem links_no {N : List Nd} {P : List Pr} {h : Int} (hh : lvlN h = false) : linksB N P h = [] := by unfold linksB; rw [if_neg (by rw [hh]; simp)]
theorem litLk {w0 u : World} (_ : Ex w0 u) (y : Int × Int) : ∃ g v, g = u.heap.size ∧ v = u.alloc (.cells #[.int .i64 y.1, .int .i64 y.2] 69) ∧ Sl 2 encS v (some ⟨g, 0, none⟩) 1 [y] ∧ Ex u v :=
 ⟨_, _, rfl, rfl, Sl.lit [y] rfl rfl (fun _ => rfl) rfl, Ex.new _ _⟩
def LsPost (L : List Lkd) (w : World) (en : Ending) (w' : World) : Prop := ∃ (v : Value) (qs : List (Int × Hdr)), en = .returned v ∧ OwnLk w.heap.size w' v qs L ∧ Ex w w'
def LoRel (N : List Nd) (Q : List Pr) (h : Nat) (w : World) (o i : Value) (wr : World) : Prop :=
 ∃ (j : Nat) (qs : List (Int × Hdr)), j ≤ Q.length ∧ i = .int .i64 j ∧ OwnLk w.heap.size wr o qs ((Q.take j).map (lrow N h)) ∧ Ex w wr
def LiRel (N : List Nd) (p : Pr) (h g : Nat) (w : World) (i : Value) (wr : World) : Prop :=
 ∃ (lev : Nat) (A : Option Addr) (m c : Nat), lev ≤ h + 1 ∧ i = .int .i64 lev ∧ Blk wr g [.int .i64 p.id, .slice A m c] 106 ∧ OwnL 2 encS 69 w.heap.size wr (.slice A m c) ((List.range lev).map fun (lev : Nat) => linkB N p lev) ∧ Exb g w wr
set_option maxRecDepth 100000 in
set_option maxHeartbeats 8000000 in
theorem links_p (a : Option Addr) (n c : Nat) (N : List Nd) (a2 : Option Addr) (n2 c2 : Nat) (P : List Pr) (hh : Int) (w : World) (h : Sl 3 encN w a n N) (hn : n ≤ 1000) (hc : n ≤ c) (hm : c ≤ maxLen) (hw : ∀ x ∈ N, x.word < 4294967296) (h2 : PL w a2 n2 P) (hn2 : n2 ≤ 4000000000000000000) (hP : SmallP P) :
  Calls Tryz.prog 47 #[.slice a n c, .slice a2 n2 c2, .int .i64 hh] w (LsPost (linksB N P hh) w) := by
 have HL := lH h.len
 have HW := lH hw
 clear hw
 have NO : Hid (lvlN hh = false → LsPost (linksB N P hh) w (.returned (.slice none 0 0)) w) := lH (fun h => by
  rw [links_no h]
  exact ⟨_, [], rfl, OwnN.nil _ _ _ _ _ _ _ _, Ex.refl _⟩)
 by_cases h0 : hh < 0
 ·have FI := lH (NO.out (by unfold lvlN; simp; omega))
  clear h h2 hP NO
  go_enter Tryz.func47, Tryz.ntmps47
  go_wp2_with fail
  go_ret
  exact FI.out
 by_cases h1 : hh > 16
 ·have FI := lH (NO.out (by unfold lvlN; simp; omega))
  clear h h2 hP NO
  go_enter Tryz.func47, Tryz.ntmps47
  go_wp2_with fail
  go_ret
  exact FI.out
 obtain ⟨k, rfl⟩ := Int.eq_ofNat_of_zero_le (show 0 ≤ hh by omega)
 have hk16 : k ≤ 16 := by omega
 have HR := lH (links_eq (N := N) (P := P) hk16)
 clear NO
 go_enter Tryz.func47, Tryz.ntmps47
 go_wp2_with fail
 (with_reducible refine (normal_p _ _ _ N _ _ _ P _ h hn hc hm h2 hn2 hP).mono ?_)
 rintro e w3 ⟨v3, qs, rfl, OQ, kk⟩
 replace h := h.nx kk
 clear h2
 have K03 := lH kk
 obtain ⟨hQ1, hQ2⟩ := normal_le N P
 have HQS := lH (normal_small N hP)
 generalize normalN N P = Q at OQ hQ1 hQ2 HR HQS
 obtain ⟨aQ, cQ, rfl, PQ0, _, _, _, _⟩ := OQ.pl
 have HPQ := lH PQ0
 have hQn : Q.length ≤ n := by have := HL.out; omega
 have hz3 := kk.size
 have HS := lH h
 clear OQ PQ0 kk hQ1 hQ2 hP h
 go_wp2_with fail
 go_loopw [7, 22] (fun o i wr => LoRel N Q k w3 o i wr) (fun _ i _ => Q.length - (intOf i).toNat)
 case atStart => exact ⟨0, [], by omega, rfl, OwnN.nil _ _ _ _ _ _ _ _, Ex.refl _⟩
 case round =>
  obtain ⟨j, qz, hj, rfl, own, ki⟩ := hrel
  obtain ⟨wi, rfl⟩ : ∃ wi : World, wi = wr := ⟨_, rfl⟩
  by_cases hjm : j < Q.length
  ·obtain ⟨x5, o5, b1, m1, d1, b4, m4, d4, y, rfl, hx5, hy, e0, e1, e2, e3, e4, s1, s4⟩ := (HPQ.out.nx ki).rd hjm
   have ET : Hid ((Q.take (j + 1)).map (lrow N k) = (Q.take j).map (lrow N k) ++ [(y.id, (List.range (k + 1)).map fun (lev : Nat) => linkB N y lev)]) := lH (by rw [List.take_add_one, hy, List.map_append]; rfl)
   have hyP := HQS.out y (List.mem_of_getElem? hy)
   have hql : qz.length = j := by rw [own.2.1, List.length_map, List.length_take]; omega
   have hl4 : m4 ≤ 4000000000000000000 := by have := s4.len; omega
   have hwi := ki.size
   have S4y := lH s4
   have KI := lH ki
   have OWN := lH own
   clear hy own ki hyP s1 s4
   have B9 := Blk.new wi [.int .i64 y.id, .slice b1 m1 d1, .int .i64 y.left, .int .i64 y.right, .slice b4 m4 d4] 41
   have kk := Ex.new wi (.cells #[.int .i64 y.id, .slice b1 m1 d1, .int .i64 y.left, .int .i64 y.right, .slice b4 m4 d4] 41)
   obtain ⟨w7, hw7⟩ : ∃ w7, w7 = wi.alloc (.cells #[.int .i64 y.id, .slice b1 m1 d1, .int .i64 y.left, .int .i64 y.right, .slice b4 m4 d4] 41) := ⟨_, rfl⟩
   obtain ⟨g9, hg9⟩ : ∃ g9, g9 = wi.heap.size := ⟨_, rfl⟩
   replace B9 : Blk w7 g9 [.int .i64 y.id, .slice b1 m1 d1, .int .i64 y.left, .int .i64 y.right, .slice b4 m4 d4] 41 := by rw [hw7, hg9]; exact B9
   rw [← hw7] at kk
   have Hw7 := lH hw7
   have Hg9 := lH hg9
   have zg9 : wi.heap.size ≤ g9 := by omega
   have K7 := lH kk
   clear kk hw7 hg9
   go_upto_region 7 with fail
   rw [← Hg9.out, ← Hw7.out]
   clear Hg9 Hw7
   clear e0 e1 e2 e3 e4
   have p0 := B9.cell 0 _ rfl
   have hg9l := B9.lt
   have B10 := Blk.new w7 [.int .i64 y.id, .slice none 0 0] 106
   have kk := Ex.new w7 (.cells #[.int .i64 y.id, .slice none 0 0] 106)
   obtain ⟨w8, hw8⟩ : ∃ w8, w8 = w7.alloc (.cells #[.int .i64 y.id, .slice none 0 0] 106) := ⟨_, rfl⟩
   obtain ⟨g10, hg10⟩ : ∃ g10, g10 = w7.heap.size := ⟨_, rfl⟩
   replace B10 : Blk w8 g10 [.int .i64 y.id, .slice none 0 0] 106 := by rw [hw8, hg10]; exact B10
   rw [← hw8] at kk
   have Hw8 := lH hw8
   have Hg10 := lH hg10
   replace B9 := B9.nx kk
   have zg10 : w7.heap.size ≤ g10 := by omega
   have n910 : ¬ g9 = g10 := by omega
   have zgi : wi.heap.size ≤ g10 := by have := K7.out.size; omega
   have K8 := lH (K7.out.nx kk)
   clear kk hw8 hg10
   go_upto_region 8 with fail
   rw [← Hg10.out, ← Hw8.out]
   clear Hg10 Hw8
   clear p0
   have B9s := lH B9
   have hgk := B10.lt
   have hwk : IntKind.i64.wrap ((k : Int) + 1) = (k : Int) + 1 := IntWalk.i64_in _ (by omega)
   clear B9
   go_wp2_with fail
   go_loopw [31] (fun i wr => LiRel N y k g10 w8 i wr) (fun i _ => k + 1 - (intOf i).toNat)
   case atStart => exact ⟨0, none, 0, 0, by omega, rfl, B10, OwnL.nil _ _ _ _ _, Exb.refl _ _⟩
   case round =>
    clear B10
    obtain ⟨lev, A, m, cc, hlev, rfl, BR, lrw, kv⟩ := hrel
    obtain ⟨wp, rfl⟩ : ∃ wp : World, wp = wr := ⟨_, rfl⟩
    have KV := lH (Exl.nxb (b := g10) (w := wi) ⟨K8.out, zgi⟩ kv).1
    by_cases hl2 : lev ≤ k
    ·have SP := lH (HS.out.nx (KI.out.nx KV.out))
     have SN4 := lH (S4y.out.nx KV.out)
     have KVV := lH kv
     have NSN : Hid (((List.range (lev + 1)).map fun (lev : Nat) => linkB N y lev) = ((List.range lev).map fun (lev : Nat) => linkB N y lev) ++ [linkB N y lev]) := lH (by rw [List.range_succ, List.map_append]; rfl)
     have hrl : ((List.range lev).map fun (lev : Nat) => linkB N y lev).length = lev := by simp
     generalize hyy : linkB N y lev = yy at NSN
     have HYY := lH hyy
     generalize ((List.range lev).map fun (lev : Nat) => linkB N y lev) = row at lrw NSN hrl
     have BPP := lH BR
     have NROW := lH lrw
     have zk := kv.size
     clear hyy lrw kv BR
     have BN := lH (B9s.out.nxb n910 KVV.out)
     have hlk : (lev : Int) < (k : Int) + 1 := by omega
     go_upto_region 11 with fail
     refine wp_region_late_drew (S := Ex wp) [7, 8, 9] (by kernel_rfl) ((Ex.refl wp).drew) (fun hHeld => ?_)
     obtain ⟨wd, hwdx⟩ : ∃ wd : World, wd = World.drew wp := ⟨_, rfl⟩
     rw [← hwdx] at hHeld ⊢
     have hDrew : Ex wp wd := by rw [hwdx]; exact (Ex.refl wp).drew
     clear hwdx
     refine tkL 0 (v := ?_) rfl (by kernel_rfl) (fun _ _ _ h => h) (by rfl) ?y1x0q5 (by assumption) ?z1x0q5
     case y1x0q5 => intro wq hSw; (go_simp); (try with_reducible rfl)
     refine tkL 1 (v := ?_) rfl (by kernel_rfl) (fun _ _ _ h => h) (by rfl) ?y1x1q8 (by assumption) ?z1x1q8
     case y1x1q8 => intro wq hSw; (have cq := (BPP.out.nx hSw).cell 1 _ rfl; go_simp); (try with_reducible rfl)
     refine tkL 2 (v := ?_) rfl (by kernel_rfl) (fun _ _ _ h => h) (by rfl) ?y1x2q11 (by assumption) ?z1x2q11
     case y1x2q11 => intro wq hSw; (go_simp); (try with_reducible rfl)
     refine tkL 3 (v := ?_) rfl (by kernel_rfl) (fun _ _ _ h => h) (by rfl) ?y1x3q14 (by assumption) ?z1x3q14
     case y1x3q14 => intro wq hSw; (have B := BN.out.nx hSw; have c0 := B.cell 0 _ rfl; have c1 := B.cell 1 _ rfl; have c2 := B.cell 2 _ rfl; have c3 := B.cell 3 _ rfl; have c4 := B.cell 4 _ rfl; go_simp); (try with_reducible rfl)
     refine tkL 4 (v := ?_) rfl (by kernel_rfl) (fun _ _ _ h => h) (by rfl) ?y1x4q17 (by assumption) ?z1x4q17
     case y1x4q17 => intro wq hSw; (go_simp); (try with_reducible rfl)
     refine wpAnyL_ready (rs := [5]) (by kernel_rfl) (by simp) ?_
     refine AllReadyL.cons (o := ⟨_, _, _, _, _, _⟩) rfl (fun K hK => ?_) AllReadyL.nil
     go_simp
     (with_reducible refine (link_p _ _ _ N y _ _ _ _ _ _ (lev : Int) _ (SP.out.nx hHeld) hn hc hm HW.out (SN4.out.nx hHeld) hl4).mono ?_)
     rintro e wq ⟨rfl, kk⟩
     rw [HYY.out]
     replace hHeld := hHeld.nx kk
     clear kk
     refine hK.out _ _ (hHeld) (fun hHeld => ?_)
     clear hK K
     refine wpAnyL_ready (rs := [6]) (by kernel_rfl) (by simp) ?_
     refine AllReadyL.cons (o := ⟨_, _, _, _, _, _⟩) rfl (fun K hK => ?_) AllReadyL.nil
     go_simp
     obtain ⟨g8, wq2, hg8, hwq2, SX, kk⟩ := litLk hHeld yy
     rw [← hg8, ← hwq2]
     replace hHeld := hHeld.nx kk
     clear hg8 hwq2 kk
     refine hK.out _ _ (hHeld) (fun hHeld => ?_)
     clear hK K
     refine wpAnyL_ready (rs := [7]) (by kernel_rfl) (by simp) ?_
     refine AllReadyL.consL (o := ⟨_, _, _, _, _, _⟩) rfl (by rfl) (fun K hK => ?_) AllReadyL.nil
     rw [if_pos (by rfl)]
     have own4 := NROW.out.nx hHeld
     refine wp_append_rd (enc := encS) _ (.tmp 35) (.tmp 40) 104 rfl w8.heap.size 69 (.agg #[.int .i64 0, .int .i64 0]) 2 16 Tryz.underlying104 Tryz.infoLk rfl (by omega) (by omega) _ row own4 rfl _ _ 1 1 [yy] SX (fun h => by cases h) (fun _ => rfl) (by simp [encS, Value.oneCell']) rfl (by omega) (by omega) (Nat.le_trans zk hHeld.size) ?_
     intro v9 wz own9 ch0 ch1
     obtain ⟨A9, C9, e9, _⟩ := own9.rd (fun _ => rfl)
     rw [show (row ++ [yy]).length = lev + 1 by rw [List.length_append, hrl]; rfl] at e9
     subst e9
     have BZ := (BPP.out.nx hHeld).low hgk ch1
     have KQ : Exb g10 w8 wz := KVV.out.nxb' (hHeld.b g10) ch1
     refine hK.out _ _ ?_
     clear hK K
     refine wpAnyL_ready (rs := [8]) (by kernel_rfl) (by simp) ?_
     refine AllReadyL.consL (o := ⟨_, _, _, _, _, _⟩) rfl (by rfl) (fun K hK => ?_) AllReadyL.nil
     go_simp
     refine hK.out _ _ ?_
     clear hK K
     refine wpAnyL_ready (rs := [9]) (by kernel_rfl) (by simp) ?_
     refine AllReadyL.consL (o := ⟨_, _, _, _, _, _⟩) rfl (by rfl) (fun K hK => ?_) AllReadyL.nil
     have c4 := BZ.cell 1 _ rfl
     have f4 := BZ.free 1
     go_simp
     clear c4 f4
     refine hK.out _ _ ?_
     clear hK K
     refine wpAnyL_done (by kernel_rfl) ?_ _
     have BY := BZ.set 1 (.slice A9 (lev + 1) C9)
     have K9 : Exb g10 w8 (wz.setCell ⟨g10, 1, none⟩ (.slice A9 (lev + 1) C9)) := KQ.setB (p := ⟨g10, 1, none⟩) _ rfl
     have own8 := lH (own9.put BZ (by decide) ((Exb.refl g10 wz).setB (p := ⟨g10, 1, none⟩) (.slice A9 (lev + 1) C9) rfl))
     have RR := lH (show LiRel N y k g10 w8 (.int .i64 ((lev : Int) + 1)) (wz.setCell ⟨g10, 1, none⟩ (.slice A9 (lev + 1) C9)) from ⟨lev + 1, A9, _, C9, by omega, by go_num, BY, by rw [NSN.out]; exact own8.out, K9⟩)
     clear BY K9 own8 own9 BZ KQ ch0 ch1 hHeld own4 SX
     go_wp2_with fail
     exact ⟨RR.out, by simp [intOf]; omega⟩
    ·obtain rfl : lev = k + 1 := by omega
     have p0 := BR.cell 0 _ rfl
     have p1 := BR.cell 1 _ rfl
     obtain ⟨A, cc, e9, _⟩ := lrw.rd (fun _ => rfl)
     cases e9
     have OQ1 := OWN.out.nx KV.out
     have KW : Ex wi wp := KV.out
     have hzi : w3.heap.size ≤ w8.heap.size := by have := K8.out.size; omega
     have hzp : w3.heap.size ≤ wp.heap.size := Nat.le_trans hzi kv.size
     have hlk : ¬ (((k + 1 : Nat) : Int) < (k : Int) + 1) := by omega
     have FR : ∀ (j : Nat) (r : Int × Hdr) (g : Nat), qz[j]? = some r → r.2.val.ownBlock = some g → ¬ (Value.slice A ((List.range (k + 1)).map fun (lev : Nat) => linkB N y lev).length cc).ownBlock = some g := by
      intro j r g hr hg hv
      have h1 := OWN.out.lt hr hg
      have h2 := (lrw.lt g hv).1
      have h3 := K8.out.size
      omega
     generalize ((List.range (k + 1)).map fun (lev : Nat) => linkB N y lev) = row at lrw p1 FR ET
     have k8 := Ex.new wp (.cells #[.int .i64 y.id, .slice A row.length cc] 106)
     have SX : Sl 2 (encP encI) (wp.alloc (.cells #[.int .i64 y.id, .slice A row.length cc] 106)) (some ⟨wp.heap.size, 0, none⟩) 1 [((y.id, (A, row.length, cc)) : Int × Hdr)] := Sl.lit _ rfl rfl (fun _ => rfl) rfl
     have OQ2 := OQ1.nx k8
     have own2 := lrw.nx k8
     have ki8 := (KI.out.nx KW).nx k8
     clear BR kv hlev hl2 lrw
     go_wp2_with (at_builtin; (refine wpList_append_W (enc := encP encI) _ rfl _ _ 72 rfl w3.heap.size 106 (.agg #[.int .i64 0, .slice none 0 0]) 2 32 Tryz.underlying72 Tryz.infoLd rfl (by omega) (by omega) _ _ OQ2.1 rfl _ 1 1 [_] SX (fun _ => rfl) (by simp [encP, encI, Hdr.val, Value.oneCell']) rfl (by omega) (by omega) (by simp; omega) ?_); intro v7 w9 own7 ch0 ch1 _)
     have OQ7 := OQ2.push (by decide) own7 ch0 (own2.base (by omega)) FR
     exact ⟨⟨j + 1, qz ++ [((y.id, (A, row.length, cc)) : Int × Hdr)], by omega, by go_num, by rw [ET.out]; exact OQ7, Chg.trans ki8 ch1⟩, by simp [intOf]; omega⟩
  ·obtain rfl : j = Q.length := by omega
   rw [List.take_length] at own
   have OWN := lH (OwnN.base own hz3)
   have KI := lH (K03.out.nx ki)
   clear own ki hj hjm
   go_wp2_with fail
   go_ret
   exact ⟨_, qz, rfl, by rw [HR.out]; exact OWN.out, KI.out⟩
theorem Blk.app {α : Type} {sz e base g : Nat} {enc : α → List Value} {w w' : World} {v : Value} {l : List α} {cs : List Value} {ty : TypeId} (B : Blk w g cs ty) (own : OwnL sz enc e base w v l) (hne : e ≠ ty) (k : Chg (fun k => k < w.heap.size ∧ ¬ v.ownBlock = some k) w w') : Blk w' g cs ty :=
 (Chg.block k g ⟨B.lt, fun hv => own.ne_blk B hne hv rfl⟩).trans B
theorem OwnL.app {α β : Type} {sz sz' e e' base base' : Nat} {enc : α → List Value} {enc' : β → List Value} {w w' : World} {v v' : Value} {l : List α} {l' : List β} (o : OwnL sz enc e base w v l) (own : OwnL sz' enc' e' base' w v' l') (hne : e ≠ e') (k : Chg (fun k => k < w.heap.size ∧ ¬ v'.ownBlock = some k) w w') : OwnL sz enc e base w' v l :=
 o.chg k fun x hx hv => ⟨hx, fun hv' => by
  obtain ⟨_, c1, h1⟩ := o.blk hv
  obtain ⟨_, c2, h2⟩ := own.blk hv'
  exact blk_kind hne h1 h2⟩
theorem OwnL.apart {α β : Type} {sz sz' e e' base base' g : Nat} {enc : α → List Value} {enc' : β → List Value} {w w' : World} {v v' : Value} {l : List α} {l' : List β} (o : OwnL sz enc e base w v l) (own : OwnL sz' enc' e' base' w v' l') (hne : e ≠ e') (hg : v'.ownBlock = some g) (k : Exb g w w') : OwnL sz enc e base w' v l :=
 o.chg k fun x hx hv => ⟨hx, by
  rintro rfl
  obtain ⟨_, c1, h1⟩ := o.blk hv
  obtain ⟨_, c2, h2⟩ := own.blk hg
  exact blk_kind hne h1 h2⟩
def FewQ (m M : Nat) (P : List Pr) : Prop := ∀ p ∈ P, p.known.length ≤ m ∧ p.near.length ≤ M
theorem FewQ.set {m M m' M' a : Nat} {P : List Pr} (h : FewQ m M P) (hm : m ≤ m') (hM : M ≤ M') {p : Pr} (hp : p.known.length ≤ m' ∧ p.near.length ≤ M') : FewQ m' M' (P.set a p) := fun x hx => by
 rcases List.mem_or_eq_of_mem_set hx with h1 | h1
 ·have := h x h1; omega
 ·rw [h1]; exact hp
end Go.Proofs.YtlgdjigocopglaaGreatDoor
