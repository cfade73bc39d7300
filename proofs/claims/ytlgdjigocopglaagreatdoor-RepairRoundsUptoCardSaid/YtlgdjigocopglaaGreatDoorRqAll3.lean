/- Shared texts. -/
import Derived.Deep.DeepCutAuto
import Derived.ArgAppend
import Derived.Sort.Walk0
import Derived.Sort.LotA
import Derived.Shelf.Abstract
import Derived.Shelf.SlSortFuncK.ComposeK
import Derived.Shelf.GgSortFunc.SmallK
import Derived.BigRegion
import Derived.Lib.SliceRun
import Derived.Test.YtlgdjigocopglaaGreatDoorRqAll2
set_option linter.unusedSimpArgs false
set_option linter.unusedVariables false

namespace Go.Proofs.YtlgdjigocopglaaGreatDoor
open Go.RowKit
structure Nd where
 id : Int
 key : ByteArray
 word : Nat
def encN (x : Nd) : List Value := [.int .i64 x.id, .string x.key, .int .u32 x.word]
theorem Tryz.infoN : (Tryz.prog.info? 56).map (fun i => (i.zero, i.size, i.bytes)) = some (some (.agg #[.int .i64 0, .string ByteArray.empty, .int .u32 0]), 3, 32) := by kernel_rfl
def groupN (l : List Nd) (h : Int) (v : Nat) : List Nd := l.filter fun x => sameN x.word v h
theorem take_snocN {α : Type} (l : List α) (k : Nat) (y : α) (h : l[k]? = some y) : l.take (k + 1) = l.take k ++ [y] := by
 rw [List.take_add_one, h]; rfl
theorem str_neN {x y : ByteArray} (h : ¬ x = y) : (x.toList == y.toList) = false := by
 rw [ByteArray.toList_eq, ByteArray.toList_eq, beq_eq_false_iff_ne]
 intro he
 exact h (ByteArray.ext (Array.toList_inj.1 he))
theorem str_eqN {x y : ByteArray} (h : x = y) : (x.toList == y.toList) = true := by subst h; simp
theorem vkey_r (s : ByteArray) (w : World) : Calls Tryz.prog 116 #[.string s] w fun e w' => e = .returned (.bool (decide ((s.size : Int) ≤ 64))) ∧ w = w' := by
 go_enter Tryz.func116, Tryz.ntmps116
 go_wp2
 go_ret
 exact ⟨rfl, rfl⟩
def badN (x : Nd) : Bool := decide (x.id < 1) || decide (2147483647 < x.id) || !decide ((x.key.size : Int) ≤ 64) || !validN x.word
def eqN (x y : Nd) : Bool := x.id == y.id || x.key.toList == y.key.toList
def dupN (l : List Nd) : Bool := (List.range l.length).any fun (i : Nat) => (List.range i).any fun (k : Nat) => match l[i]?, l[k]? with | some x, some y => eqN x y | _, _ => false
theorem dupN_iff (l : List Nd) : dupN l = true ↔ ∃ (i k : Nat) (x y : Nd), k < i ∧ l[i]? = some x ∧ l[k]? = some y ∧ eqN x y = true := by
 unfold dupN
 simp only [List.any_eq_true, List.mem_range]
 constructor
 ·rintro ⟨i, _, k, hk, h⟩
  cases hx : l[i]? with
  | none => simp [hx] at h
  | some x =>
   cases hy : l[k]? with
   | none => simp [hx, hy] at h
   | some y => exact ⟨i, k, x, y, hk, hx, hy, by simpa [hx, hy] using h⟩
 ·rintro ⟨i, k, x, y, hk, hx, hy, he⟩
  exact ⟨i, (List.getElem?_eq_some_iff.1 hx).1, k, hk, by simpa [hx, hy] using he⟩
def checkN (l : List Nd) : Int := if 64 < l.length then 3 else if l.any badN then 1 else if dupN l then 5 else 0
def N2Rel (n : Nat) (l : List Nd) (w : World) (i j : Value) (wr : World) : Prop :=
 ∃ k : Nat, k ≤ n ∧ i = .int .i64 k ∧ Ex w wr ∧ ∀ i' k' x y, i' < k → k' < i' → l[i']? = some x → l[k']? = some y → eqN x y = false
def N3Rel (n : Nat) (l : List Nd) (x : Nd) (w : World) (i : Value) (wr : World) : Prop :=
 ∃ k : Nat, k ≤ n ∧ i = .int .i64 k ∧ Ex w wr ∧ ∀ k' y, k' < k → l[k']? = some y → eqN x y = false
def N1Rel (n : Nat) (l : List Nd) (w : World) (i : Value) (wr : World) : Prop :=
 ∃ k : Nat, k ≤ n ∧ i = .int .i64 k ∧ Ex w wr ∧ ∀ k' y, k' < k → l[k']? = some y → badN y = false
set_option maxHeartbeats 2000000 in
theorem check_r (a : Option Addr) (n c : Nat) (l : List Nd) (w : World) (h : Sl 3 encN w a n l) (hn : n ≤ 1000000) :
  Calls Tryz.prog 80 #[.slice a n c] w fun e w' => e = .returned (.int .i64 (checkN l)) ∧ Ex w w' := by
 have hlen := h.len
 go_enter Tryz.func80, Tryz.ntmps80
 by_cases h64 : 64 < n
 ·have HC : Hid (checkN l = 3) := lH (by unfold checkN; rw [if_pos (by omega)])
  clear h hlen
  go_wp2_with fail
  go_ret
  exact ⟨by rw [HC.out]; rfl, Ex.refl _⟩
 have HL := lH hlen
 clear hlen
 go_wp2_with fail
 go_loopw [3] (fun i wr => N1Rel n l w i wr) (fun i _ => n - (intOf i).toNat)
 case atStart => exact ⟨0, by omega, rfl, Ex.refl _, by intro _ _ h; omega⟩
 case round =>
  obtain ⟨k, hk, rfl, kw, hgood⟩ := hrel
  have HG := lH hgood
  clear hgood
  obtain ⟨wo, rfl⟩ : ∃ wo : World, wo = wr := ⟨_, rfl⟩
  by_cases hlt : k < n
  ·obtain ⟨x1, o1, y, rfl, hx1, hy, hc1⟩ := (h.nx kw).at hlt
   have e0 : wo.cell? ⟨x1, o1 + k * 3, none⟩ = some (.int .i64 y.id) := hc1 0 _ rfl
   have e1 : wo.cell? ⟨x1, o1 + k * 3 + 1, none⟩ = some (.string y.key) := hc1 1 _ rfl
   have e2 : wo.cell? ⟨x1, o1 + k * 3 + 1 + 1, none⟩ = some (.int .u32 y.word) := by simpa [Nat.add_assoc] using hc1 2 _ rfl
   have e2' : wo.cell? ⟨x1, o1 + k * 3 + 2, none⟩ = some (.int .u32 y.word) := hc1 2 _ rfl
   have HY := lH hy
   have BAD : badN y = true → checkN l = 1 := fun hb => by
    unfold checkN
    rw [if_neg (by rw [HL.out]; exact h64), if_pos (List.any_eq_true.2 ⟨y, List.mem_of_getElem? HY.out, hb⟩)]
   clear hc1 hy h
   by_cases b1 : y.id < 1
   ·have HB := lH (BAD (by unfold badN; simp [b1]))
    clear BAD
    go_wp2_with fail
    go_ret
    exact ⟨by rw [HB.out]; rfl, kw⟩
   by_cases b2 : 2147483647 < y.id
   ·have HB := lH (BAD (by unfold badN; simp [b2]))
    clear BAD
    go_wp2_with fail
    go_ret
    exact ⟨by rw [HB.out]; rfl, kw⟩
   have BAD := lH BAD
   go_wp2_with fail
   refine (vkey_r _ _).mono ?_
   rintro e w2 ⟨rfl, rfl⟩
   by_cases b3 : (y.key.size : Int) ≤ 64
   ·have d3 : decide ((y.key.size : Int) ≤ 64) = true := by simpa using b3
    rw [d3]
    clear d3
    go_wp2_with fail
    refine (wvalid_r _ _).mono ?_
    rintro e w2 ⟨rfl, rfl⟩
    cases b4 : validN y.word with
    | true =>
     have BG : Hid (badN y = false) := lH (by unfold badN; simp [b1, b2, b3, b4])
     clear BAD b4 b3
     go_wp2_with fail
     refine ⟨⟨k + 1, by omega, by go_num, kw, fun k' y' hk' hy' => ?_⟩, by simp [intOf]; omega⟩
     rcases Nat.lt_or_ge k' k with h | h
     ·exact HG.out k' y' h hy'
     ·obtain rfl : k' = k := by omega
      rw [Option.some.inj (hy'.symm.trans HY.out)]
      exact BG.out
    | false =>
     have HB := lH (BAD.out (by unfold badN; simp [b4]))
     clear BAD b4
     go_wp2_with fail
     go_ret
     exact ⟨by rw [HB.out]; rfl, kw⟩
   ·have d3 : decide ((y.key.size : Int) ≤ 64) = false := by simpa using b3
    have HB := lH (BAD.out (by unfold badN; simp [b3]))
    rw [d3]
    clear d3 BAD b3
    go_wp2_with fail
    go_ret
    exact ⟨by rw [HB.out]; rfl, kw⟩
  ·obtain rfl : k = n := by omega
   have HNB : Hid (l.any badN = false) := lH (by
    rw [List.any_eq_false]
    intro y hy
    obtain ⟨j, hj, he⟩ := List.mem_iff_getElem.1 hy
    rw [HG.out j y (by rw [← HL.out]; exact hj) (by rw [← he]; simp)]
    simp)
   clear HG hlt hk
   obtain ⟨w1, rfl⟩ : ∃ w1 : World, w1 = wo := ⟨_, rfl⟩
   have hs := lH h
   clear h
   go_wp2_with fail
   go_loopw [4, 5] (fun i j wr => N2Rel k l w i j wr) (fun i _ _ => k - (intOf i).toNat)
   case atStart => exact ⟨0, by omega, rfl, kw, by intro _ _ _ _ h; omega⟩
   case round =>
    obtain ⟨m, hm, rfl, kw, hgood⟩ := hrel
    have HG := lH hgood
    clear hgood
    obtain ⟨wo, rfl⟩ : ∃ wo : World, wo = wr := ⟨_, rfl⟩
    by_cases hlt : m < k
    ·obtain ⟨x1, o1, x, rfl, hx1, hx, hc1⟩ := (hs.out.nx kw).at hlt
     have HX := lH hx
     have HC := lH hc1
     clear hx hc1
     go_wp2_with fail
     go_loopw [5] (fun j wr => N3Rel m l x w j wr) (fun j _ => m - (intOf j).toNat)
     case atStart => exact ⟨0, by omega, rfl, kw, by intro _ _ h; omega⟩
     case round =>
      obtain ⟨q, hq, rfl, kv, hok⟩ := hrel
      have HO := lH hok
      clear hok
      obtain ⟨wi, rfl⟩ : ∃ wi : World, wi = wr := ⟨_, rfl⟩
      by_cases hlq : q < m
      ·obtain ⟨x2, o2, y, e2, hx2, hy, hc2⟩ := (hs.out.nx kv).at (Nat.lt_trans hlq hlt)
       cases e2
       obtain ⟨x3, o3, x', e3, hx3, hx', hc1⟩ := (hs.out.nx kv).at hlt
       cases e3
       obtain rfl : x = x' := Option.some.inj (HX.out.symm.trans hx')
       have e0 : wi.cell? ⟨x1, o1 + m * 3, none⟩ = some (.int .i64 x.id) := hc1 0 _ rfl
       have e1 : wi.cell? ⟨x1, o1 + m * 3 + 1, none⟩ = some (.string x.key) := hc1 1 _ rfl
       have f0 : wi.cell? ⟨x1, o1 + q * 3, none⟩ = some (.int .i64 y.id) := hc2 0 _ rfl
       have f1 : wi.cell? ⟨x1, o1 + q * 3 + 1, none⟩ = some (.string y.key) := hc2 1 _ rfl
       have HY := lH hy
       have hqk := Nat.lt_trans hlq hlt
       have DUP : eqN x y = true → checkN l = 5 := fun he => by
        unfold checkN
        rw [if_neg (by rw [HL.out]; exact h64), HNB.out, if_neg (by simp), if_pos ((dupN_iff l).2 ⟨m, q, x, y, hlq, HX.out, HY.out, he⟩)]
       clear hc1 hc2 hy hx' HC hx1 hx2 hx3
       by_cases d1 : x.id = y.id
       ·have HB := lH (DUP (by unfold eqN; simp [d1]))
        have b1 : (x.id == y.id) = true := by simp [d1]
        clear DUP d1
        go_wp2_with fail
        go_quiet (fail)
        go_wp2_with fail
        go_ret
        exact ⟨by rw [HB.out]; rfl, kv.drewN _⟩
       ·have b1 : (x.id == y.id) = false := by simp [d1]
        by_cases d2 : x.key = y.key
        ·have b2 := str_eqN d2
         have HB := lH (DUP (by unfold eqN; rw [b2]; simp))
         clear DUP d1 d2
         go_wp2_with fail
         go_quiet (fail)
         go_wp2_with fail
         go_ret
         exact ⟨by rw [HB.out]; rfl, kv.drewN _⟩
        ·have b2 := str_neN d2
         have HB : Hid (eqN x y = false) := lH (by unfold eqN; rw [b1, b2]; rfl)
         clear DUP d1 d2
         go_wp2_with fail
         go_quiet (fail)
         go_wp2_with fail
         refine ⟨⟨q + 1, by omega, by go_num, kv.drewN _, fun k' y' hk' hy' => ?_⟩, by simp [intOf]; omega⟩
         rcases Nat.lt_or_ge k' q with h | h
         ·exact HO.out k' y' h hy'
         ·obtain rfl : k' = q := by omega
          rw [Option.some.inj (hy'.symm.trans HY.out)]
          exact HB.out
      ·obtain rfl : q = m := by omega
       clear hlq hq HC
       go_wp2_with fail
       refine ⟨⟨q + 1, by omega, by go_num, kv, fun i' k' x' y' hi' hk' hx' hy' => ?_⟩, by simp [intOf]; omega⟩
       rcases Nat.lt_or_ge i' q with h | h
       ·exact HG.out i' k' x' y' h hk' hx' hy'
       ·obtain rfl : i' = q := by omega
        rw [Option.some.inj (hx'.symm.trans HX.out)]
        exact HO.out k' y' hk' hy'
    ·obtain rfl : m = k := by omega
     have HC : Hid (checkN l = 0) := lH (by
      unfold checkN
      rw [if_neg (by rw [HL.out]; exact h64), HNB.out, if_neg (by simp), if_neg]
      intro hd
      obtain ⟨i, k, x, y, hk, hx, hy, he⟩ := (dupN_iff l).1 hd
      rw [HG.out i k x y (by have := (List.getElem?_eq_some_iff.1 hx).1; have := HL.out; omega) hk hx hy] at he
      cases he)
     clear HG hlt hm HNB
     go_wp2_with fail
     go_ret
     exact ⟨by rw [HC.out]; rfl, kw⟩
theorem is_r (a : Option Addr) (n c : Nat) (l : List Nd) (w : World) (h : Sl 3 encN w a n l) (hn : n ≤ 1000000) :
  Calls Tryz.prog 39 #[.slice a n c] w fun e w' => e = .returned (.bool (checkN l == 0)) ∧ Ex w w' := by
 go_enter Tryz.func39, Tryz.ntmps39
 go_wp2_with fail
 refine (check_r a n c l w h hn).mono ?_
 rintro e w1 ⟨rfl, kk⟩
 clear h
 go_wp2_with fail
 go_ret
 exact ⟨rfl, kk⟩
def gtN (a b : Nd) : Bool := !(Op.bytesLess a.key.toList b.key.toList || a.key.toList == b.key.toList) || (a.key.toList == b.key.toList && decide (b.id < a.id))
def atN (out : List Nd) (x : Nd) : Nat → Nat
 | 0 => 0
 | n + 1 => match out[n]? with
  | some y => if gtN y x then atN out x n else n + 1
  | none => n + 1
theorem atN_le (out : List Nd) (x : Nd) : ∀ n, atN out x n ≤ n
 | 0 => Nat.le_refl _
 | n + 1 => by
  unfold atN
  split
  ·split
   ·exact Nat.le_succ_of_le (atN_le out x n)
   ·exact Nat.le_refl _
  ·exact Nat.le_refl _
def insN (out : List Nd) (x : Nd) : List Nd := out.take (atN out x out.length) ++ x :: out.drop (atN out x out.length)
def sortN (l : List Nd) : List Nd := l.foldl insN []
theorem insN_length (out : List Nd) (x : Nd) : (insN out x).length = out.length + 1 := by
 unfold insN
 have := atN_le out x out.length
 simp; omega
theorem sortN_length (l : List Nd) : (sortN l).length = l.length := by
 have : ∀ (l out : List Nd), (l.foldl insN out).length = out.length + l.length := by
  intro l
  induction l with
  | nil => intro out; rfl
  | cons x r ih => intro out; rw [List.foldl_cons, ih, insN_length, List.length_cons]; omega
 have := this l []
 simpa [sortN] using this
theorem bytesLess_irrefl : ∀ x : List UInt8, Op.bytesLess x x = false
 | [] => rfl
 | a :: x => by unfold Op.bytesLess; rw [bytesLess_irrefl x]; simp
abbrev Hdr := Option Addr × Nat × Nat
def Hdr.val (q : Hdr) : Value := .slice q.1 q.2.1 q.2.2
def encH (q : Hdr) : List Value := [q.val]
theorem Tryz.infoH : (Tryz.prog.info? 23).map (fun i => (i.zero, i.size, i.bytes)) = some (some (.slice none 0 0), 1, 24) := by kernel_rfl
def LL (w : World) (a : Option Addr) (n : Nat) (C : List (List Nd)) : Prop :=
 ∃ qs : List Hdr, Sl 1 encH w a n qs ∧ C.length = n ∧ ∀ (j : Nat) (q : Hdr) (c : List Nd), qs[j]? = some q → C[j]? = some c → Sl 3 encN w q.1 q.2.1 c
theorem LL.nx {w w' : World} {a : Option Addr} {n : Nat} {C : List (List Nd)} (h : LL w a n C) (k : Ex w w') : LL w' a n C := by
 obtain ⟨qs, h1, h2, h3⟩ := h
 exact ⟨qs, h1.nx k, h2, fun j q c hq hc => (h3 j q c hq hc).nx k⟩
theorem LL.len {w : World} {a : Option Addr} {n : Nat} {C : List (List Nd)} (h : LL w a n C) : C.length = n := by
 obtain ⟨qs, h1, h2, h3⟩ := h
 exact h2
theorem LL.at {w : World} {a : Option Addr} {n : Nat} {C : List (List Nd)} (h : LL w a n C) {j : Nat} (hj : j < n) :
  ∃ x o a' n' c' c, a = some ⟨x, o, none⟩ ∧ x < w.heap.size ∧ C[j]? = some c ∧ w.cell? ⟨x, o + j, none⟩ = some (.slice a' n' c') ∧ Sl 3 encN w a' n' c := by
 obtain ⟨qs, h1, h2, h3⟩ := h
 obtain ⟨x, o, q, e, hx, hq, hc⟩ := h1.at hj
 obtain ⟨c, hcc⟩ : ∃ c, C[j]? = some c := ⟨C[j]'(by omega), by simp⟩
 refine ⟨x, o, q.1, q.2.1, q.2.2, c, e, hx, hcc, ?_, h3 j q c hq hcc⟩
 have := hc 0 _ rfl
 rw [Nat.mul_one, Nat.add_zero] at this
 exact this
theorem LL.nil (w : World) (a : Option Addr) : LL w a 0 [] := ⟨[], Sl.nil _ _ _ _, rfl, by intro j q c h; simp at h⟩
def headW (c : List Nd) : Nat := match c with | [] => 0 | y :: _ => y.word
theorem flatW_len {α : Type} {sz : Nat} {enc : α → List Value} (h : ∀ y, (enc y).length = sz) (l : List α) : (l.flatMap enc).length = l.length * sz := by
 induction l with
 | nil => simp
 | cons y r ih => rw [List.flatMap_cons, List.length_append, h, ih, List.length_cons, Nat.succ_mul]; omega
theorem Sl.flatW {α : Type} {sz n : Nat} {enc : α → List Value} {w : World} {x o : Nat} {l : List α} (hlen : ∀ y, (enc y).length = sz) (hsz : 0 < sz) (h : Sl sz enc w (some ⟨x, o, none⟩) n l) :
  ∀ j u, (l.flatMap enc)[j]? = some u → w.cell? ⟨x, o + j, none⟩ = some u := by
 intro j u hu
 have hj := (List.getElem?_eq_some_iff.1 hu).1
 rcases h.2 with h0 | ⟨x', o', e1, _, e3⟩
 ·have : l = [] := List.eq_nil_of_length_eq_zero (h.1.trans h0)
  subst this
  simp at hj
 ·cases e1
  have hdiv : ∀ (l : List α) (j : Nat), (l.flatMap enc)[j]? = some u → ∃ y, l[j / sz]? = some y ∧ (enc y)[j % sz]? = some u := by
   intro l
   induction l with
   | nil => intro j hu; simp at hu
   | cons y r ih =>
    intro j hu
    rw [List.flatMap_cons] at hu
    by_cases hlt : j < sz
    ·rw [List.getElem?_append_left (by rw [hlen]; exact hlt)] at hu
     exact ⟨y, by rw [Nat.div_eq_of_lt hlt]; rfl, by rw [Nat.mod_eq_of_lt hlt]; exact hu⟩
    ·rw [List.getElem?_append_right (by rw [hlen]; omega), hlen] at hu
     obtain ⟨y', h1', h2'⟩ := ih (j - sz) hu
     have e1 : j / sz = (j - sz) / sz + 1 := by rw [Nat.div_eq_sub_div hsz (by omega)]
     have e2 : j % sz = (j - sz) % sz := by rw [Nat.mod_eq_sub_mod (by omega)]
     exact ⟨y', by rw [e1]; simpa using h1', by rw [e2]; exact h2'⟩
  obtain ⟨y, hy1, hy2⟩ := hdiv l j hu
  have := e3 _ y hy1 _ u hy2
  rw [Nat.add_assoc, Nat.mul_comm, Nat.div_add_mod] at this
  exact this
section
variable {α : Type} {sz : Nat} {enc : α → List Value} {e : TypeId} {base : Nat} {w w' : World} {v : Value} {l : List α}
def OwnW (sz : Nat) (enc : α → List Value) (e : TypeId) (base : Nat) (w : World) (v : Value) (l : List α) : Prop :=
 (v = .slice none 0 0 ∧ l = []) ∨ ∃ (g cap : Nat) (cur : Array Value), v = .slice (some ⟨g, 0, none⟩) l.length cap ∧ base ≤ g ∧ w.heap[g]? = some (.cells cur e (0, 0)) ∧ l.length ≤ cap ∧ cap ≤ maxLen ∧ cap * sz ≤ cur.size ∧ cur.toList.take (l.length * sz) = l.flatMap enc
theorem OwnL.toW (h : OwnL sz enc e base w v l) : OwnW sz enc e base w v l := by
 rcases h.2 with ⟨h1, h2⟩ | ⟨g, cap, cur, h1, h2, h3, h4, h5, h6, h7⟩
 ·exact .inl ⟨h1, List.eq_nil_of_length_eq_zero h2⟩
 ·exact .inr ⟨g, cap, cur, h1, h2, h3, h4, h5, Nat.le_of_eq h6.symm, h7⟩
theorem OwnW.nil (sz : Nat) (enc : α → List Value) (e : TypeId) (base : Nat) (w : World) : OwnW sz enc e base w (.slice none 0 0) [] := .inl ⟨rfl, rfl⟩
theorem OwnW.blk (h : OwnW sz enc e base w v l) {g : Nat} (hg : v.ownBlock = some g) : base ≤ g ∧ ∃ cur, w.heap[g]? = some (.cells cur e (0, 0)) := by
 rcases h with ⟨rfl, _⟩ | ⟨g', cap, cur, rfl, hb, hh, _⟩
 ·cases hg
 ·obtain rfl : g' = g := by simpa [Value.ownBlock] using hg
  exact ⟨hb, cur, hh⟩
theorem OwnW.chg (h : OwnW sz enc e base w v l) {S : Nat → Prop} (k : Chg S w w') (hs : ∀ x, x < w.heap.size → v.ownBlock = some x → S x) : OwnW sz enc e base w' v l := by
 rcases h with h | ⟨g, cap, cur, rfl, hb, hh, rest⟩
 ·exact .inl h
 ·exact .inr ⟨g, cap, cur, rfl, hb, (k.block g (hs g (heap_lt hh) rfl)).trans hh, rest⟩
theorem OwnW.nx (h : OwnW sz enc e base w v l) (k : Ex w w') : OwnW sz enc e base w' v l := h.chg k (fun _ hx _ => hx)
theorem OwnW.nxb {b : Nat} (h : OwnW sz enc e base w v l) (hb : b < base) (k : Exb b w w') : OwnW sz enc e base w' v l := h.chg k (fun x hx hv => ⟨hx, by have := (h.blk hv).1; omega⟩)
theorem OwnW.lower {base' : Nat} (h : OwnW sz enc e base w v l) (hb : base' ≤ base) : OwnW sz enc e base' w v l := by
 rcases h with h | ⟨g, cap, cur, h1, h2, rest⟩
 ·exact .inl h
 ·exact .inr ⟨g, cap, cur, h1, by omega, rest⟩
theorem OwnW.rd (h : OwnW sz enc e base w v l) (hsz : ∀ y, (enc y).length = sz) :
  ∃ a cap, v = .slice a l.length cap ∧ Rd sz enc (fun k => base ≤ k ∧ k < w.heap.size) w a l.length l ∧ l.length ≤ cap ∧ cap ≤ maxLen ∧ (l ≠ [] → ∃ g, a = some ⟨g, 0, none⟩ ∧ base ≤ g) ∧ (a = none → cap = 0) := by
 rcases h with ⟨rfl, rfl⟩ | ⟨g, cap, cur, rfl, hb, hg, h1, h2, h3, h4⟩
 ·exact ⟨none, 0, rfl, Rd.nil _ _ _ _ _, by simp, by unfold maxLen; omega, fun h => absurd rfl h, fun _ => rfl⟩
 ·refine ⟨_, cap, rfl, (Rd.block l hg rfl hsz (fun i u hu => ?_)).mono (fun k hk => by subst hk; exact ⟨hb, heap_lt hg⟩), h1, h2, fun _ => ⟨g, rfl, hb⟩, fun h => by cases h⟩
  rw [← h4, List.getElem?_take] at hu
  split at hu
  ·simpa using hu
  ·cases hu
theorem wp_append_W {P : Program} {o : Oper} {a : Act} {K : Act → World → Prop} {Q : Exit → Act → World → Prop} (w : World) (s x : Operand) (t : TypeId)
  (ho : o.op = .call { callee := .builtin .append, args := #[s, x], argTypes := #[t, t] })
  (base : Nat) (e : TypeId) (z : Value) (sz bytes : Nat) (ht : P.underlying t = some (.slice e)) (hi : (P.info? e).map (fun i => (i.zero, i.size, i.bytes)) = some (some z, sz, bytes))
  (hzs : z.cells.size = sz) (hsz : 0 < sz) (hby : bytes ≤ 65536)
  (v : Value) (l : List α) (hown : OwnW sz enc e base w v l) (hs : a.eval s = v) (A : Addr) (n c : Nat) (news : List α) (hrd : Sl sz enc w (some A) n news) (hlen : ∀ y, (enc y).length = sz) (h1 : ∀ y, ∀ u ∈ enc y, u.oneCell' = true)
  (hx : a.eval x = .slice (some A) n c) (hl : l.length ≤ 1000000) (hn : n ≤ 1000000) (hbase : base ≤ w.heap.size)
  (h : ∀ v' w', OwnW sz enc e base w' v' (l ++ news) → Chg (fun k => k < w.heap.size ∧ ¬ v.ownBlock = some k) w w' → Chg (· < base) w w' → (v'.ownBlock = v.ownBlock ∨ ∀ g, v'.ownBlock = some g → w.heap.size ≤ g) → K (a.put o.dst v') w') :
  o.wp P a w K Q := by
 obtain ⟨i, hi, hz0, hz1, hz2⟩ := info_parts hi
 have hnl := hrd.len
 have hmul : (l.length + n) * bytes ≤ 2000000 * 65536 := Nat.mul_le_mul (by omega) hby
 have hnew : ∀ j u, (news.flatMap enc)[j]? = some u → w.cell? (A.add j) = some u := by
  intro j u hu
  rcases hrd.2 with h0 | ⟨x, o, e1, _, _⟩
  ·have : news = [] := List.eq_nil_of_length_eq_zero (hnl.trans h0)
   subst this
   simp at hu
  ·cases e1
   rw [Addr.add_lit]
   exact hrd.flatW hlen hsz j u hu
 have hnf : (news.flatMap enc).length = n * sz := by rw [flatW_len hlen, hnl]
 have h1f : ∀ u ∈ news.flatMap enc, u.oneCell' = true := fun u hu => by
  obtain ⟨y, _, hy⟩ := List.mem_flatMap.1 hu
  exact h1 y u hy
 have close : ∀ v' w', (Builtin.append_ #[t, t] o.type #[v, .slice (some A) n c]).run P w = .ok v' w' → K (a.put o.dst v') w' → o.wp P a w K Q := by
  intro v' w' hrun hK
  unfold Oper.wp
  simp [execOp, ho, resolve, invoke, builtin, hs, hx, hrun, Result.andThen]
  exact hK
 have fresh : ∀ v' w', w'.ownsRow w.heap.size e sz v' (l.length + n) (l.flatMap enc ++ news.flatMap enc) → w.grownBy w' none → (∀ g, v.ownBlock = some g → base ≤ g) → K (a.put o.dst v') w' := by
  intro v' w' hr hg hvb
  have ho : OwnL sz enc e w.heap.size w' v' (l ++ news) := by
   unfold OwnL
   rw [List.length_append, hnl, List.flatMap_append]
   exact hr
  have hch : Ex w w' := ⟨hg.os, hg.tape, hg.output, hg.size, fun k hk => hg.block k hk (by simp)⟩
  exact h v' w' (OwnW.lower (OwnL.toW ho) hbase) (Chg.mono hch (fun k hk => hk.1)) (Chg.mono hch (fun k (hk : k < base) => by show k < w.heap.size; omega)) (.inr fun g hg => ((OwnL.toW ho).blk hg).1)
 rcases hown with ⟨rfl, rfl⟩ | ⟨g, cap, cur, rfl, hbg, hg, hnc, hcm, hcs, htake⟩
 ·obtain ⟨v', w', hrun, r1, r2, _, _⟩ := run_append_own_at (P := P) w w.heap.size t o.type e i z sz bytes ht hi hz0 hz1 hz2 hzs hsz (.slice none 0 0) 0 [] (World.ownsRow_nil _ _ e sz) A n c (news.flatMap enc) hnf hnew h1f (by unfold maxLen; omega) (by simp only [Nat.zero_add]; have : n * bytes ≤ 1000000 * 65536 := Nat.mul_le_mul hn hby; omega) (Nat.le_refl _)
  refine close v' w' hrun (fresh v' w' (by simpa using r1) r2 (fun g hg => by cases hg))
 ·by_cases hroom : l.length + n ≤ cap
  ·have hmm : (l.length + n) * sz ≤ cap * sz := Nat.mul_le_mul_right _ hroom
   rw [Nat.add_mul] at hmm
   have hrun := run_append_room (P := P) w t o.type e i ht hi g l.length cap cur hg A n c (news.flatMap enc) (by rw [hz1]; exact hnf) hnew h1f hroom (by rw [hz1, hnf]; omega)
   refine close _ _ hrun (h _ _ (.inr ⟨g, cap, _, ?_, hbg, setRow_heap w g cur _ e _ hg, ?_, hcm, ?_, ?_⟩) ⟨rfl, rfl, rfl, by simp [World.setRow], fun k hk => setRow_other w g k _ (fun he => hk.2 (by rw [he]; rfl))⟩ ⟨rfl, rfl, rfl, by simp [World.setRow], fun k hk => setRow_other w g k _ (by omega)⟩ (.inl rfl))
   ·rw [List.length_append, hnl]
   ·rw [List.length_append, hnl]; exact hroom
   ·simp only [List.size_toArray, List.length_append, List.length_take, List.length_drop, Array.length_toList, hz1, hnf]
    omega
   ·rw [List.length_append, hnl, hz1, htake, List.flatMap_append, Nat.add_mul]
    have : (l.flatMap enc ++ news.flatMap enc).length = l.length * sz + n * sz := by rw [List.length_append, flatW_len hlen, hnf]
    rw [← this]
    exact List.take_left
  ·have holds : ∀ j u, (l.flatMap enc)[j]? = some u → w.cell? ((⟨g, 0, none⟩ : Addr).add j) = some u := by
    intro j u hu
    rw [Addr.add_lit, Nat.zero_add, World.cell?, hg]
    rw [← htake, List.getElem?_take] at hu
    split at hu
    ·simpa using hu
    ·cases hu
   obtain ⟨v', w', hrun, r1, r2⟩ := run_append_arg_grows (P := P) w t o.type e i z sz bytes ht hi hz0 hz1 hz2 hzs hsz ⟨g, 0, none⟩ l.length cap (l.flatMap enc) (by rw [flatW_len hlen]) holds A n c (news.flatMap enc) hnf hnew (by omega) (by unfold maxLen; omega) (by omega)
   exact close v' w' hrun (fresh v' w' r1 r2 (fun g' hg' => by simp [Value.ownBlock] at hg'; omega))
theorem wpList_append_W {P : Program} {ops : Array Oper} {rest : List Oper} {o : Oper} {a : Act} {Q : Exit → Act → World → Prop} (w : World) (hgd : o.guard = none) (s x : Operand) (t : TypeId)
  (ho : o.op = .call { callee := .builtin .append, args := #[s, x], argTypes := #[t, t] })
  (base : Nat) (e : TypeId) (z : Value) (sz bytes : Nat) (ht : P.underlying t = some (.slice e)) (hi : (P.info? e).map (fun i => (i.zero, i.size, i.bytes)) = some (some z, sz, bytes))
  (hzs : z.cells.size = sz) (hsz : 0 < sz) (hby : bytes ≤ 65536)
  (v : Value) (l : List α) (hown : OwnW sz enc e base w v l) (hs : a.eval s = v) (A : Addr) (n c : Nat) (news : List α) (hrd : Sl sz enc w (some A) n news) (hlen : ∀ y, (enc y).length = sz) (h1 : ∀ y, ∀ u ∈ enc y, u.oneCell' = true)
  (hx : a.eval x = .slice (some A) n c) (hl : l.length ≤ 1000000) (hn : n ≤ 1000000) (hbase : base ≤ w.heap.size)
  (h : ∀ v' w', OwnW sz enc e base w' v' (l ++ news) → Chg (fun k => k < w.heap.size ∧ ¬ v.ownBlock = some k) w w' → Chg (· < base) w w' → (v'.ownBlock = v.ownBlock ∨ ∀ g, v'.ownBlock = some g → w.heap.size ≤ g) → wpList P ops Q rest (a.put o.dst v') w') :
  wpList P ops Q (o :: rest) a w :=
 wpList_plain hgd fun _ hK => wp_append_W w s x t ho base e z sz bytes ht hi hzs hsz hby v l hown hs A n c news hrd hlen h1 hx hl hn hbase fun v' w' h2 h3 h4 h5 => hK _ _ (h v' w' h2 h3 h4 h5)
theorem flat_setW {c : Nat} (hsz : ∀ y, (enc y).length = sz) (hc : c < sz) {y' : α} {u : Value} :
  ∀ (L : List α) (j : Nat) (y : α), L[j]? = some y → enc y' = (enc y).set c u → (L.set j y').flatMap enc = (L.flatMap enc).set (j * sz + c) u
 | [], j, y, h, _ => by simp at h
 | z :: r, 0, y, h, hv => by
  simp at h; subst h
  rw [List.set_cons_zero, List.flatMap_cons, List.flatMap_cons, hv, Nat.zero_mul, Nat.zero_add, List.set_append_left _ _ (by rw [hsz]; exact hc)]
 | z :: r, j + 1, y, h, hv => by
  rw [List.set_cons_succ, List.flatMap_cons, List.flatMap_cons, flat_setW hsz hc r j y (by simpa using h) hv, List.set_append_right _ _ (by rw [hsz, Nat.succ_mul]; omega), hsz]
  congr 2
  rw [Nat.succ_mul]; omega
theorem OwnW.set1 (hsz : ∀ y, (enc y).length = sz) {g n cap j c : Nat} {y : α} (h : OwnW sz enc e base w (.slice (some ⟨g, 0, none⟩) n cap) l)
  (hy : l[j]? = some y) (hc : c < sz) : w.cell? ⟨g, j * sz + c, none⟩ = (enc y)[c]? ∧ w.frozen? ⟨g, j * sz + c, none⟩ = false ∧
   ∀ (y' : α) (u : Value), enc y' = (enc y).set c u → OwnW sz enc e base (w.setCell ⟨g, j * sz + c, none⟩ u) (.slice (some ⟨g, 0, none⟩) n cap) (l.set j y') := by
 rcases h with ⟨h1, _⟩ | ⟨g', cap', cur, e1, e2, e3, e4, e5, e6, e7⟩
 ·cases h1
 ·obtain ⟨rfl, hLn, rfl⟩ : g = g' ∧ n = l.length ∧ cap = cap' := by simpa using e1
  have hjl := (List.getElem?_eq_some_iff.1 hy).1
  have hlt : j * sz + c < l.length * sz := by
   have : (j + 1) * sz ≤ l.length * sz := Nat.mul_le_mul_right _ hjl
   rw [Nat.succ_mul] at this; omega
  refine ⟨?_, by simp [World.frozen?, e3], fun y' u hv => .inr ⟨g, cap, _, by simp [hLn], e2, heap_set e3 _ u, by simpa using e4, e5, by simpa using e6, ?_⟩⟩
  ·have h2 : (cur.toList.take (l.length * sz))[j * sz + c]? = (enc y)[c]? := by
    rw [e7]
    have hcy : c < (enc y).length := by rw [hsz]; exact hc
    rw [List.getElem?_eq_getElem hcy]
    exact flat_at hsz l j y hy c _ (List.getElem?_eq_getElem hcy)
   rw [List.getElem?_take, if_pos hlt] at h2
   simpa [World.cell?, e3] using h2
  ·rw [flat_setW hsz hc l j y hy hv, ← e7, List.length_set]
   simp only [Array.toList_setIfInBounds, List.take_set]
end
theorem OwnL.blk {α : Type} {sz e base : Nat} {enc : α → List Value} {w : World} {v : Value} {l : List α} (h : OwnL sz enc e base w v l) {g : Nat} (hg : v.ownBlock = some g) : base ≤ g ∧ ∃ cur, w.heap[g]? = some (.cells cur e (0, 0)) := by
 rcases h.2 with ⟨rfl, _⟩ | ⟨g', cap, cur, rfl, hb, hh, _⟩
 ·cases hg
 ·obtain rfl : g' = g := by simpa [Value.ownBlock] using hg
  exact ⟨hb, cur, hh⟩
section
variable {A β : Type} {encA : A → List Value} {s1 s2 : Nat} {encB : β → List Value} {e1 e2 : TypeId}
def encP (encA : A → List Value) (q : A × Hdr) : List Value := encA q.1 ++ [q.2.val]
def NL (encA : A → List Value) (s1 s2 : Nat) (encB : β → List Value) (w : World) (a : Option Addr) (n : Nat) (L : List (A × List β)) : Prop :=
 ∃ qs : List (A × Hdr), Sl s1 (encP encA) w a n qs ∧ L.length = n ∧ ∀ (j : Nat) (q : A × Hdr) (c : A × List β), qs[j]? = some q → L[j]? = some c → q.1 = c.1 ∧ Sl s2 encB w q.2.1 q.2.2.1 c.2
theorem NL.nx {w w' : World} {a : Option Addr} {n : Nat} {L : List (A × List β)} (h : NL encA s1 s2 encB w a n L) (k : Ex w w') : NL encA s1 s2 encB w' a n L := by
 obtain ⟨qs, h1, h2, h3⟩ := h
 exact ⟨qs, h1.nx k, h2, fun j q c hq hc => ⟨(h3 j q c hq hc).1, (h3 j q c hq hc).2.nx k⟩⟩
theorem NL.len {w : World} {a : Option Addr} {n : Nat} {L : List (A × List β)} (h : NL encA s1 s2 encB w a n L) : L.length = n := by
 obtain ⟨qs, h1, h2, h3⟩ := h
 exact h2
theorem NL.at {w : World} {a : Option Addr} {n : Nat} {L : List (A × List β)} (h : NL encA s1 s2 encB w a n L) {j : Nat} (hj : j < n) :
  ∃ x o a' n' c' c, a = some ⟨x, o, none⟩ ∧ x < w.heap.size ∧ L[j]? = some c ∧ (∀ i u, (encA c.1 ++ [.slice a' n' c'])[i]? = some u → w.cell? ⟨x, o + j * s1 + i, none⟩ = some u) ∧ Sl s2 encB w a' n' c.2 := by
 obtain ⟨qs, h1, h2, h3⟩ := h
 obtain ⟨x, o, q, e, hx, hq, hc⟩ := h1.at hj
 obtain ⟨c, hcc⟩ : ∃ c, L[j]? = some c := ⟨L[j]'(by omega), by simp⟩
 obtain ⟨r1, r2⟩ := h3 j q c hq hcc
 refine ⟨x, o, q.2.1, q.2.2.1, q.2.2.2, c, e, hx, hcc, fun i u hu => hc i u ?_, r2⟩
 unfold encP
 rw [r1]
 exact hu
theorem NL.nil (encA : A → List Value) (s1 s2 : Nat) (encB : β → List Value) (w : World) (a : Option Addr) : NL encA s1 s2 encB w a 0 [] := ⟨[], Sl.nil _ _ _ _, rfl, by intro j q c h; simp at h⟩
def OwnN (encA : A → List Value) (s1 s2 : Nat) (encB : β → List Value) (e1 e2 : TypeId) (base : Nat) (w : World) (v : Value) (qs : List (A × Hdr)) (L : List (A × List β)) : Prop :=
 OwnW s1 (encP encA) e1 base w v qs ∧ qs.length = L.length ∧
 (∀ (j : Nat) (q : A × Hdr) (c : A × List β), qs[j]? = some q → L[j]? = some c → q.1 = c.1 ∧ OwnL s2 encB e2 base w q.2.val c.2) ∧
 ∀ (i j : Nat) (qi qj : A × Hdr) (g : Nat), qs[i]? = some qi → qs[j]? = some qj → qi.2.val.ownBlock = some g → qj.2.val.ownBlock = some g → i = j
theorem OwnN.nil (encA : A → List Value) (s1 s2 : Nat) (encB : β → List Value) (e1 e2 : TypeId) (base : Nat) (w : World) : OwnN encA s1 s2 encB e1 e2 base w (.slice none 0 0) [] [] :=
 ⟨OwnW.nil _ _ _ _ _, rfl, by intro j q c h; simp at h, by intro i j qi qj g h; simp at h⟩
variable {base : Nat} {w w' : World} {v v' : Value} {qs : List (A × Hdr)} {L : List (A × List β)}
theorem OwnN.nx (h : OwnN encA s1 s2 encB e1 e2 base w v qs L) (k : Ex w w') : OwnN encA s1 s2 encB e1 e2 base w' v qs L :=
 ⟨h.1.nx k, h.2.1, fun j q c hq hc => ⟨(h.2.2.1 j q c hq hc).1, (h.2.2.1 j q c hq hc).2.nx k⟩, h.2.2.2⟩
theorem OwnN.nxb {b : Nat} (h : OwnN encA s1 s2 encB e1 e2 base w v qs L) (hb : b < base) (k : Exb b w w') : OwnN encA s1 s2 encB e1 e2 base w' v qs L :=
 ⟨h.1.nxb hb k, h.2.1, fun j q c hq hc => ⟨(h.2.2.1 j q c hq hc).1, (h.2.2.1 j q c hq hc).2.nxb hb k⟩, h.2.2.2⟩
theorem OwnN.blk (h : OwnN encA s1 s2 encB e1 e2 base w v qs L) {j g : Nat} {q : A × Hdr} (hq : qs[j]? = some q) (hg : q.2.val.ownBlock = some g) : base ≤ g ∧ ∃ cur, w.heap[g]? = some (.cells cur e2 (0, 0)) := by
 obtain ⟨c, hc⟩ : ∃ c, L[j]? = some c := ⟨L[j]'(by have := (List.getElem?_eq_some_iff.1 hq).1; have := h.2.1; omega), by simp⟩
 exact (h.2.2.1 j q c hq hc).2.blk hg
theorem OwnN.lt (h : OwnN encA s1 s2 encB e1 e2 base w v qs L) {j g : Nat} {q : A × Hdr} (hq : qs[j]? = some q) (hg : q.2.val.ownBlock = some g) : g < w.heap.size := by
 obtain ⟨_, cur, h1⟩ := h.blk hq hg
 exact heap_lt h1
theorem OwnN.ne (hne : e1 ≠ e2) (h : OwnN encA s1 s2 encB e1 e2 base w v qs L) {j g : Nat} {q : A × Hdr} (hq : qs[j]? = some q) (hg : q.2.val.ownBlock = some g) : ¬ v.ownBlock = some g := by
 intro hv
 obtain ⟨_, cur, h1⟩ := h.blk hq hg
 obtain ⟨_, cur', h2⟩ := h.1.blk hv
 rw [h1] at h2
 simp at h2
 exact hne h2.2.symm
theorem OwnN.push (hne : e1 ≠ e2) (h : OwnN encA s1 s2 encB e1 e2 base w v qs L) {q : A × Hdr} {c : List β} (ho : OwnW s1 (encP encA) e1 base w' v' (qs ++ [q]))
  (k : Chg (fun k => k < w.heap.size ∧ ¬ v.ownBlock = some k) w w') (hin : OwnL s2 encB e2 base w q.2.val c) (hfr : ∀ (j : Nat) (r : A × Hdr) (g : Nat), qs[j]? = some r → r.2.val.ownBlock = some g → ¬ q.2.val.ownBlock = some g) :
  OwnN encA s1 s2 encB e1 e2 base w' v' (qs ++ [q]) (L ++ [(q.1, c)]) := by
 have hqv : ∀ g, q.2.val.ownBlock = some g → ¬ v.ownBlock = some g := by
  intro g hg hv
  obtain ⟨_, cur, h1⟩ := hin.blk hg
  obtain ⟨_, cur', h2⟩ := h.1.blk hv
  rw [h1] at h2
  simp at h2
  exact hne h2.2.symm
 refine ⟨ho, by simp [h.2.1], fun j r d hr hd => ?_, fun i j qi qj g hi hj gi gj => ?_⟩
 ·rcases Nat.lt_or_ge j qs.length with hl | hl
  ·rw [List.getElem?_append_left hl] at hr
   rw [List.getElem?_append_left (by rw [← h.2.1]; exact hl)] at hd
   obtain ⟨r1, r2⟩ := h.2.2.1 j r d hr hd
   exact ⟨r1, r2.chg k (fun x hx hv => ⟨hx, h.ne hne hr hv⟩)⟩
  ·obtain rfl : j = qs.length := by have := (List.getElem?_eq_some_iff.1 hr).1; simp at this; omega
   simp at hr
   rw [h.2.1] at hd
   simp at hd
   subst hr hd
   exact ⟨rfl, hin.chg k (fun x hx hv => ⟨hx, hqv x hv⟩)⟩
 ·have last : ∀ (i : Nat) (r : A × Hdr), (qs ++ [q])[i]? = some r → (i < qs.length ∧ qs[i]? = some r) ∨ (i = qs.length ∧ r = q) := by
   intro i r hr
   rcases Nat.lt_or_ge i qs.length with hl | hl
   ·rw [List.getElem?_append_left hl] at hr; exact .inl ⟨hl, hr⟩
   ·obtain rfl : i = qs.length := by have := (List.getElem?_eq_some_iff.1 hr).1; simp at this; omega
    simp at hr
    exact .inr ⟨rfl, hr.symm⟩
  rcases last i qi hi with ⟨h1, h2⟩ | ⟨h1, h2⟩ <;> rcases last j qj hj with ⟨h3, h4⟩ | ⟨h3, h4⟩
  ·exact h.2.2.2 i j qi qj g h2 h4 gi gj
  ·subst h4; exact absurd gj (hfr i qi g h2 gi)
  ·subst h2; exact absurd gi (hfr j qj g h4 gj)
  ·omega
theorem OwnN.nl (hA : ∀ y, (encP encA y).length = s1) (hB : ∀ y, (encB y).length = s2) (h : OwnN encA s1 s2 encB e1 e2 base w v qs L) :
  ∃ a cap, v = .slice a L.length cap ∧ NL encA s1 s2 encB w a L.length L ∧ L.length ≤ cap ∧ cap ≤ maxLen ∧ (L ≠ [] → ∃ g, a = some ⟨g, 0, none⟩ ∧ base ≤ g) ∧ (a = none → cap = 0) := by
 obtain ⟨a, cap, e, r, c1, c2, c3, c4⟩ := h.1.rd hA
 rw [h.2.1] at e r c1
 refine ⟨a, cap, e, ⟨qs, Rd.mono r (fun _ hk => hk.2), rfl, fun j q c hq hc => ?_⟩, c1, c2, fun hL => c3 (fun h0 => hL ?_), c4⟩
 ·obtain ⟨r1, r2⟩ := h.2.2.1 j q c hq hc
  refine ⟨r1, ?_⟩
  obtain ⟨a', cap', e', r', _⟩ := r2.rd hB
  obtain ⟨x, q1, q2, q3⟩ := q
  simp only [Hdr.val, Value.slice.injEq] at e'
  obtain ⟨rfl, rfl, rfl⟩ := e'
  exact Rd.mono r' (fun _ hk => hk.2)
 ·have := h.2.1
  rw [h0] at this
  exact List.eq_nil_of_length_eq_zero this.symm
end
section
variable {A β : Type} {encA : A → List Value} {p s2 : Nat} {encB : β → List Value} {e1 e2 : TypeId} {base : Nat} {w w' : World} {v v' : Value} {qs : List (A × Hdr)} {L : List (A × List β)}
theorem OwnN.get (h : OwnN encA (p + 1) s2 encB e1 e2 base w v qs L) {k : Nat} {c : A × List β} (hc : L[k]? = some c) : ∃ hd : Hdr, qs[k]? = some (c.1, hd) ∧ OwnL s2 encB e2 base w hd.val c.2 := by
 obtain ⟨q, hq⟩ : ∃ q, qs[k]? = some q := ⟨qs[k]'(by have := (List.getElem?_eq_some_iff.1 hc).1; have := h.2.1; omega), by simp⟩
 obtain ⟨r1, r2⟩ := h.2.2.1 k q c hq hc
 exact ⟨q.2, by rw [hq, ← r1], r2⟩
theorem OwnN.mod (hne : e1 ≠ e2) (h : OwnN encA (p + 1) s2 encB e1 e2 base w v qs L) {k : Nat} {a : A} {hd hd' : Hdr} {c' : List β} (hq : qs[k]? = some (a, hd)) (ho : OwnL s2 encB e2 base w' hd'.val c')
  (kk : Chg (fun x => x < w.heap.size ∧ ¬ hd.val.ownBlock = some x) w w') (hat : hd'.val.ownBlock = hd.val.ownBlock ∨ ∀ x, hd'.val.ownBlock = some x → w.heap.size ≤ x) :
  OwnW (p + 1) (encP encA) e1 base w' v qs ∧ (∀ (j : Nat) (q : A × Hdr) (c : A × List β), j ≠ k → qs[j]? = some q → L[j]? = some c → q.1 = c.1 ∧ OwnL s2 encB e2 base w' q.2.val c.2) ∧
   (∀ x, hd'.val.ownBlock = some x → ¬ v.ownBlock = some x) ∧ ∀ (j : Nat) (q : A × Hdr) (x : Nat), j ≠ k → qs[j]? = some q → q.2.val.ownBlock = some x → ¬ hd'.val.ownBlock = some x := by
 have ho1 : OwnW (p + 1) (encP encA) e1 base w' v qs := h.1.chg kk (fun x hx hv => ⟨hx, fun hh => h.ne hne hq hh hv⟩)
 refine ⟨ho1, fun j q c hjk hr hc => ?_, fun x hx hv => ?_, fun j q x hjk hr hx hy => ?_⟩
 ·obtain ⟨r1, r2⟩ := h.2.2.1 j q c hr hc
  exact ⟨r1, r2.chg kk (fun x hx hv => ⟨hx, fun hh => hjk (h.2.2.2 j k q (a, hd) x hr hq hv hh)⟩)⟩
 ·obtain ⟨_, cur, h1⟩ := ho.blk hx
  obtain ⟨_, cur', h2⟩ := ho1.blk hv
  rw [h1] at h2
  simp at h2
  exact hne h2.2.symm
 ·rcases hat with h1 | h1
  ·exact hjk (h.2.2.2 j k q (a, hd) x hr hq hx (h1 ▸ hy))
  ·have := h.lt hr hx
   have := h1 x hy
   omega
theorem OwnN.put (hA : ∀ y, (encA y).length = p) (hne : e1 ≠ e2) {g n cap : Nat} (h : OwnN encA (p + 1) s2 encB e1 e2 base w (.slice (some ⟨g, 0, none⟩) n cap) qs L) {k : Nat} {a : A} {hd hd' : Hdr} {c' : List β} (hq : qs[k]? = some (a, hd))
  (ho : OwnL s2 encB e2 base w' hd'.val c') (kk : Chg (fun x => x < w.heap.size ∧ ¬ hd.val.ownBlock = some x) w w') (hat : hd'.val.ownBlock = hd.val.ownBlock ∨ ∀ x, hd'.val.ownBlock = some x → w.heap.size ≤ x) :
  w'.cell? ⟨g, k * (p + 1) + p, none⟩ = some hd.val ∧ w'.frozen? ⟨g, k * (p + 1) + p, none⟩ = false ∧
   OwnN encA (p + 1) s2 encB e1 e2 base (w'.setCell ⟨g, k * (p + 1) + p, none⟩ hd'.val) (.slice (some ⟨g, 0, none⟩) n cap) (qs.set k (a, hd')) (L.set k (a, c')) := by
 obtain ⟨o1, o2, o3, o4⟩ := h.mod hne hq ho kk hat
 have hsz : ∀ y, (encP encA y).length = p + 1 := fun y => by unfold encP; simp [hA]
 obtain ⟨f1, f2, f3⟩ := o1.set1 hsz hq (c := p) (by omega)
 have hkl := (List.getElem?_eq_some_iff.1 hq).1
 have hset : Chg (· ≠ g) w' (w'.setCell ⟨g, k * (p + 1) + p, none⟩ hd'.val) := (Chg.refl _ w').setCell _ (fun x hx => hx)
 have hgb : (Value.slice (some ⟨g, 0, none⟩) n cap).ownBlock = some g := rfl
 refine ⟨?_, f2, f3 (a, hd') hd'.val ?_, by simp [h.2.1], fun j r c hr hc => ?_, fun i j qi qj x hi hj gi gj => ?_⟩
 ·rw [f1]
  unfold encP
  rw [List.getElem?_append_right (by rw [hA]; exact Nat.le_refl _), hA, Nat.sub_self]
  rfl
 ·unfold encP
  rw [List.set_append_right _ _ (by rw [hA]; exact Nat.le_refl _), hA, Nat.sub_self]
  rfl
 ·by_cases hjk : j = k
  ·subst hjk
   rw [List.getElem?_set_self hkl] at hr
   rw [List.getElem?_set_self (by rw [← h.2.1]; exact hkl)] at hc
   cases hr
   cases hc
   exact ⟨rfl, ho.chg hset (fun x _ hv => by intro he; subst he; exact o3 _ hv hgb)⟩
  ·rw [List.getElem?_set_ne (by omega)] at hr hc
   obtain ⟨r1, r2⟩ := o2 j r c hjk hr hc
   refine ⟨r1, r2.chg hset (fun x _ hv => ?_)⟩
   intro he
   subst he
   exact h.ne hne hr hv hgb
 ·by_cases hik : i = k
  ·by_cases hjk : j = k
   ·omega
   ·exfalso
    subst hik
    rw [List.getElem?_set_self hkl] at hi
    cases hi
    rw [List.getElem?_set_ne (by omega)] at hj
    exact o4 j qj x hjk hj gj gi
  ·rw [List.getElem?_set_ne (by omega)] at hi
   by_cases hjk : j = k
   ·exfalso
    subst hjk
    rw [List.getElem?_set_self hkl] at hj
    cases hj
    exact o4 i qi x hik hi gi gj
   ·rw [List.getElem?_set_ne (by omega)] at hj
    exact h.2.2.2 i j qi qj x hi hj gi gj
theorem OwnN.keep (hne : e1 ≠ e2) (h : OwnN encA (p + 1) s2 encB e1 e2 base w v qs L) {k : Nat} {a : A} {hd : Hdr} {c' : List β} (hq : qs[k]? = some (a, hd)) (ho : OwnL s2 encB e2 base w' hd.val c')
  (kk : Chg (fun x => x < w.heap.size ∧ ¬ hd.val.ownBlock = some x) w w') : OwnN encA (p + 1) s2 encB e1 e2 base w' v qs (L.set k (a, c')) := by
 obtain ⟨o1, o2, o3, o4⟩ := h.mod hne hq ho kk (.inl rfl)
 have hkl := (List.getElem?_eq_some_iff.1 hq).1
 refine ⟨o1, by simp [h.2.1], fun j r c hr hc => ?_, h.2.2.2⟩
 by_cases hjk : j = k
 ·subst hjk
  rw [List.getElem?_set_self (by rw [← h.2.1]; exact hkl)] at hc
  obtain rfl : (a, hd) = r := Option.some.inj (hq.symm.trans hr)
  cases hc
  exact ⟨rfl, ho⟩
 ·rw [List.getElem?_set_ne (by omega)] at hc
  exact o2 j r c hjk hr hc
theorem OwnL.lit {α : Type} {sz : Nat} {enc : α → List Value} {e : TypeId} {base : Nat} {w : World} (l : List α) (hsz : ∀ y, (enc y).length = sz) (hb : base ≤ w.heap.size) (hl : l.length ≤ maxLen) {cs : Array Value} (hc : cs = (l.flatMap enc).toArray) :
  OwnL sz enc e base (w.alloc (.cells cs e)) (.slice (some ⟨w.heap.size, 0, none⟩) l.length l.length) l := by
 subst hc
 have hf : (l.flatMap enc).length = l.length * sz := flatN_len hsz l
 exact ⟨hf, .inr ⟨w.heap.size, l.length, _, rfl, hb, heap_new w _, Nat.le_refl _, hl, by simp [hf], by simp only [← hf, List.toList_toArray]; exact List.take_length⟩⟩
end
abbrev Nr := Int × Int × Int × Int
structure Pr where
 id : Int
 left : Int
 right : Int
 known : List Int
 near : List Nr
def encNr (x : Nr) : List Value := [.int .i64 x.1, .int .i64 x.2.1, .int .i64 x.2.2.1, .int .i64 x.2.2.2]
abbrev PQ := (Int × Int × Int) × Hdr × Hdr
def encQ (q : PQ) : List Value := [.int .i64 q.1.1, q.2.1.val, .int .i64 q.1.2.1, .int .i64 q.1.2.2, q.2.2.val]
def Pr.nums (p : Pr) : Int × Int × Int := (p.id, p.left, p.right)
def PrV (w : World) (q : PQ) (p : Pr) : Prop := q.1 = p.nums ∧ Sl 1 encI w q.2.1.1 q.2.1.2.1 p.known ∧ Sl 4 encNr w q.2.2.1 q.2.2.2.1 p.near
def PL (w : World) (a : Option Addr) (n : Nat) (P : List Pr) : Prop := ∃ qs : List PQ, Sl 5 encQ w a n qs ∧ P.length = n ∧ ∀ (j : Nat) (q : PQ) (p : Pr), qs[j]? = some q → P[j]? = some p → PrV w q p
def PrVb (b : Nat) (w : World) (q : PQ) (p : Pr) : Prop := q.1 = p.nums ∧ Slb 1 encI b w q.2.1.1 q.2.1.2.1 p.known ∧ Slb 4 encNr b w q.2.2.1 q.2.2.2.1 p.near
def PLb (b : Nat) (w : World) (a : Option Addr) (n : Nat) (P : List Pr) : Prop := ∃ qs : List PQ, Slb 5 encQ b w a n qs ∧ P.length = n ∧ ∀ (j : Nat) (q : PQ) (p : Pr), qs[j]? = some q → P[j]? = some p → PrVb b w q p
section
variable {w w' : World} {a : Option Addr} {n b : Nat} {P : List Pr} {q : PQ} {p : Pr}
theorem PrV.nx (h : PrV w q p) (k : Ex w w') : PrV w' q p := ⟨h.1, h.2.1.nx k, h.2.2.nx k⟩
theorem PrVb.nxb (h : PrVb b w q p) (k : Exb b w w') : PrVb b w' q p := ⟨h.1, h.2.1.nxb k, h.2.2.nxb k⟩
theorem PrVb.v (h : PrVb b w q p) : PrV w q p := ⟨h.1, h.2.1.sl, h.2.2.sl⟩
theorem PrV.vb (h : PrV w q p) (hb : w.heap.size ≤ b) : PrVb b w q p := ⟨h.1, h.2.1.slb hb, h.2.2.slb hb⟩
theorem PL.nx (h : PL w a n P) (k : Ex w w') : PL w' a n P := by
 obtain ⟨qs, h1, h2, h3⟩ := h
 exact ⟨qs, h1.nx k, h2, fun j q p hq hp => (h3 j q p hq hp).nx k⟩
theorem PLb.nxb (h : PLb b w a n P) (k : Exb b w w') : PLb b w' a n P := by
 obtain ⟨qs, h1, h2, h3⟩ := h
 exact ⟨qs, h1.nxb k, h2, fun j q p hq hp => (h3 j q p hq hp).nxb k⟩
theorem PLb.pl (h : PLb b w a n P) : PL w a n P := by
 obtain ⟨qs, h1, h2, h3⟩ := h
 exact ⟨qs, h1.sl, h2, fun j q p hq hp => (h3 j q p hq hp).v⟩
theorem PL.len (h : PL w a n P) : P.length = n := by obtain ⟨_, _, h2, _⟩ := h; exact h2
theorem PLb.len (h : PLb b w a n P) : P.length = n := by obtain ⟨_, _, h2, _⟩ := h; exact h2
theorem PL.nil (w : World) (a : Option Addr) : PL w a 0 [] := ⟨[], Sl.nil _ _ _ _, rfl, by intro j q p h; simp at h⟩
theorem PL.at (h : PL w a n P) {j : Nat} (hj : j < n) :
  ∃ (x o : Nat) (a1 : Option Addr) (n1 c1 : Nat) (a2 : Option Addr) (n2 c2 : Nat) (p : Pr), a = some ⟨x, o, none⟩ ∧ x < w.heap.size ∧ P[j]? = some p ∧
   (∀ i u, (encQ (p.nums, (a1, n1, c1), (a2, n2, c2)))[i]? = some u → w.cell? ⟨x, o + j * 5 + i, none⟩ = some u) ∧ Sl 1 encI w a1 n1 p.known ∧ Sl 4 encNr w a2 n2 p.near := by
 obtain ⟨qs, h1, h2, h3⟩ := h
 obtain ⟨x, o, q, e, hx, hq, hc⟩ := h1.at hj
 obtain ⟨p, hp⟩ : ∃ p, P[j]? = some p := ⟨P[j]'(by omega), by simp⟩
 obtain ⟨r1, r2, r3⟩ := h3 j q p hq hp
 obtain ⟨q0, ⟨a1, n1, c1⟩, a2, n2, c2⟩ := q
 simp only at r1 r2 r3
 subst r1
 exact ⟨x, o, a1, n1, c1, a2, n2, c2, p, e, hx, hp, hc, r2, r3⟩
end
def OwnP (eP eI eN : TypeId) (base : Nat) (w : World) (v : Value) (qs : List PQ) (P : List Pr) : Prop :=
 OwnW 5 encQ eP base w v qs ∧ qs.length = P.length ∧
 (∀ (j : Nat) (q : PQ) (p : Pr), qs[j]? = some q → P[j]? = some p → q.1 = p.nums ∧ OwnL 1 encI eI base w q.2.1.val p.known ∧ OwnL 4 encNr eN base w q.2.2.val p.near) ∧
 (∀ (i j : Nat) (qi qj : PQ) (g : Nat), qs[i]? = some qi → qs[j]? = some qj → qi.2.1.val.ownBlock = some g → qj.2.1.val.ownBlock = some g → i = j) ∧
 (∀ (i j : Nat) (qi qj : PQ) (g : Nat), qs[i]? = some qi → qs[j]? = some qj → qi.2.2.val.ownBlock = some g → qj.2.2.val.ownBlock = some g → i = j)
section
variable {eP eI eN : TypeId} {base : Nat} {w w' : World} {v v' : Value} {qs : List PQ} {P : List Pr}
theorem OwnP.nil (eP eI eN : TypeId) (base : Nat) (w : World) : OwnP eP eI eN base w (.slice none 0 0) [] [] :=
 ⟨OwnW.nil _ _ _ _ _, rfl, by intro j q p h; simp at h, by intro i j qi qj g h; simp at h, by intro i j qi qj g h; simp at h⟩
theorem OwnP.nx (h : OwnP eP eI eN base w v qs P) (k : Ex w w') : OwnP eP eI eN base w' v qs P :=
 ⟨h.1.nx k, h.2.1, fun j q p hq hp => ⟨(h.2.2.1 j q p hq hp).1, (h.2.2.1 j q p hq hp).2.1.nx k, (h.2.2.1 j q p hq hp).2.2.nx k⟩, h.2.2.2⟩
theorem OwnP.nxb {b : Nat} (h : OwnP eP eI eN base w v qs P) (hb : b < base) (k : Exb b w w') : OwnP eP eI eN base w' v qs P :=
 ⟨h.1.nxb hb k, h.2.1, fun j q p hq hp => ⟨(h.2.2.1 j q p hq hp).1, (h.2.2.1 j q p hq hp).2.1.nxb hb k, (h.2.2.1 j q p hq hp).2.2.nxb hb k⟩, h.2.2.2⟩
theorem OwnP.lower {base' : Nat} (h : OwnP eP eI eN base w v qs P) (hb : base' ≤ base) : OwnP eP eI eN base' w v qs P :=
 ⟨h.1.lower hb, h.2.1, fun j q p hq hp => ⟨(h.2.2.1 j q p hq hp).1, (h.2.2.1 j q p hq hp).2.1.base hb, (h.2.2.1 j q p hq hp).2.2.base hb⟩, h.2.2.2⟩
theorem blk_kind {g : Nat} {c1 c2 : Array Value} {e1 e2 : TypeId} (hne : e1 ≠ e2) (h1 : w.heap[g]? = some (.cells c1 e1 (0, 0))) (h2 : w.heap[g]? = some (.cells c2 e2 (0, 0))) : False := by
 rw [h1] at h2
 simp at h2
 exact hne h2.2
theorem OwnP.getp (h : OwnP eP eI eN base w v qs P) {j : Nat} {q : PQ} (hq : qs[j]? = some q) : ∃ p, P[j]? = some p ∧ q.1 = p.nums ∧ OwnL 1 encI eI base w q.2.1.val p.known ∧ OwnL 4 encNr eN base w q.2.2.val p.near := by
 obtain ⟨p, hp⟩ : ∃ p, P[j]? = some p := ⟨P[j]'(by have := (List.getElem?_eq_some_iff.1 hq).1; have := h.2.1; omega), by simp⟩
 exact ⟨p, hp, h.2.2.1 j q p hq hp⟩
theorem OwnP.get (h : OwnP eP eI eN base w v qs P) {j : Nat} {p : Pr} (hp : P[j]? = some p) : ∃ hk hn : Hdr, qs[j]? = some (p.nums, hk, hn) ∧ OwnL 1 encI eI base w hk.val p.known ∧ OwnL 4 encNr eN base w hn.val p.near := by
 obtain ⟨q, hq⟩ : ∃ q, qs[j]? = some q := ⟨qs[j]'(by have := (List.getElem?_eq_some_iff.1 hp).1; have := h.2.1; omega), by simp⟩
 obtain ⟨r1, r2, r3⟩ := h.2.2.1 j q p hq hp
 obtain ⟨q0, hk, hn⟩ := q
 simp only at r1 r2 r3
 subst r1
 exact ⟨hk, hn, hq, r2, r3⟩
theorem OwnP.neI (hI : eP ≠ eI) (h : OwnP eP eI eN base w v qs P) {j g : Nat} {q : PQ} (hq : qs[j]? = some q) (hg : q.2.1.val.ownBlock = some g) : ¬ v.ownBlock = some g := fun hv => by
 obtain ⟨p, _, _, r2, _⟩ := h.getp hq
 obtain ⟨_, c1, h1⟩ := r2.blk hg
 obtain ⟨_, c2, h2⟩ := h.1.blk hv
 exact blk_kind hI h2 h1
theorem OwnP.neN (hN : eP ≠ eN) (h : OwnP eP eI eN base w v qs P) {j g : Nat} {q : PQ} (hq : qs[j]? = some q) (hg : q.2.2.val.ownBlock = some g) : ¬ v.ownBlock = some g := fun hv => by
 obtain ⟨p, _, _, _, r3⟩ := h.getp hq
 obtain ⟨_, c1, h1⟩ := r3.blk hg
 obtain ⟨_, c2, h2⟩ := h.1.blk hv
 exact blk_kind hN h2 h1
theorem OwnP.push (hI : eP ≠ eI) (hN : eP ≠ eN) (h : OwnP eP eI eN base w v qs P) {p : Pr} {hk hn : Hdr} (ho : OwnW 5 encQ eP base w' v' (qs ++ [(p.nums, hk, hn)]))
  (k : Chg (fun k => k < w.heap.size ∧ ¬ v.ownBlock = some k) w w') (ik : OwnL 1 encI eI base w hk.val p.known) (inr : OwnL 4 encNr eN base w hn.val p.near)
  (fk : ∀ (j : Nat) (r : PQ) (g : Nat), qs[j]? = some r → r.2.1.val.ownBlock = some g → ¬ hk.val.ownBlock = some g) (fn : ∀ (j : Nat) (r : PQ) (g : Nat), qs[j]? = some r → r.2.2.val.ownBlock = some g → ¬ hn.val.ownBlock = some g) :
  OwnP eP eI eN base w' v' (qs ++ [(p.nums, hk, hn)]) (P ++ [p]) := by
 have nk : ∀ g, hk.val.ownBlock = some g → ¬ v.ownBlock = some g := fun g hg hv => by
  obtain ⟨_, c1, h1⟩ := ik.blk hg
  obtain ⟨_, c2, h2⟩ := h.1.blk hv
  exact blk_kind hI h2 h1
 have nn : ∀ g, hn.val.ownBlock = some g → ¬ v.ownBlock = some g := fun g hg hv => by
  obtain ⟨_, c1, h1⟩ := inr.blk hg
  obtain ⟨_, c2, h2⟩ := h.1.blk hv
  exact blk_kind hN h2 h1
 have last : ∀ (i : Nat) (r : PQ), (qs ++ [(p.nums, hk, hn)])[i]? = some r → (i < qs.length ∧ qs[i]? = some r) ∨ (i = qs.length ∧ r = (p.nums, hk, hn)) := by
  intro i r hr
  rcases Nat.lt_or_ge i qs.length with hl | hl
  ·rw [List.getElem?_append_left hl] at hr; exact .inl ⟨hl, hr⟩
  ·obtain rfl : i = qs.length := by have := (List.getElem?_eq_some_iff.1 hr).1; simp at this; omega
   simp at hr
   exact .inr ⟨rfl, hr.symm⟩
 refine ⟨ho, by simp [h.2.1], fun j r d hr hd => ?_, fun i j qi qj g hi hj gi gj => ?_, fun i j qi qj g hi hj gi gj => ?_⟩
 ·rcases last j r hr with ⟨h1, h2⟩ | ⟨h1, h2⟩
  ·rw [List.getElem?_append_left (by rw [← h.2.1]; exact h1)] at hd
   obtain ⟨r1, r2, r3⟩ := h.2.2.1 j r d h2 hd
   exact ⟨r1, r2.chg k (fun x hx hv => ⟨hx, h.neI hI h2 hv⟩), r3.chg k (fun x hx hv => ⟨hx, h.neN hN h2 hv⟩)⟩
  ·subst h1 h2
   rw [h.2.1] at hd
   simp at hd
   subst hd
   exact ⟨rfl, ik.chg k (fun x hx hv => ⟨hx, nk x hv⟩), inr.chg k (fun x hx hv => ⟨hx, nn x hv⟩)⟩
 ·rcases last i qi hi with ⟨h1, h2⟩ | ⟨h1, h2⟩ <;> rcases last j qj hj with ⟨h3, h4⟩ | ⟨h3, h4⟩
  ·exact h.2.2.2.1 i j qi qj g h2 h4 gi gj
  ·subst h4; exact absurd gj (fk i qi g h2 gi)
  ·subst h2; exact absurd gi (fk j qj g h4 gj)
  ·omega
 ·rcases last i qi hi with ⟨h1, h2⟩ | ⟨h1, h2⟩ <;> rcases last j qj hj with ⟨h3, h4⟩ | ⟨h3, h4⟩
  ·exact h.2.2.2.2 i j qi qj g h2 h4 gi gj
  ·subst h4; exact absurd gj (fn i qi g h2 gi)
  ·subst h2; exact absurd gi (fn j qj g h4 gj)
  ·omega
theorem encQ_len (q : PQ) : (encQ q).length = 5 := rfl
theorem OwnP.pl (h : OwnP eP eI eN base w v qs P) :
  ∃ a cap, v = .slice a P.length cap ∧ PL w a P.length P ∧ P.length ≤ cap ∧ cap ≤ maxLen ∧ (P ≠ [] → ∃ g, a = some ⟨g, 0, none⟩ ∧ base ≤ g) ∧ (a = none → cap = 0) := by
 obtain ⟨a, cap, e, r, c1, c2, c3, c4⟩ := h.1.rd encQ_len
 rw [h.2.1] at e r c1
 refine ⟨a, cap, e, ⟨qs, Rd.mono r (fun _ hk => hk.2), rfl, fun j q p hq hp => ?_⟩, c1, c2, fun hL => c3 (fun h0 => hL ?_), c4⟩
 ·obtain ⟨r1, r2, r3⟩ := h.2.2.1 j q p hq hp
  refine ⟨r1, ?_, ?_⟩
  ·obtain ⟨a', cap', e', r', _⟩ := r2.rd (fun _ => rfl)
   obtain ⟨q0, ⟨x1, x2, x3⟩, hn⟩ := q
   simp only [Hdr.val, Value.slice.injEq] at e'
   obtain ⟨rfl, rfl, rfl⟩ := e'
   exact Rd.mono r' (fun _ hk => hk.2)
  ·obtain ⟨a', cap', e', r', _⟩ := r3.rd (fun _ => rfl)
   obtain ⟨q0, hk, ⟨x1, x2, x3⟩⟩ := q
   simp only [Hdr.val, Value.slice.injEq] at e'
   obtain ⟨rfl, rfl, rfl⟩ := e'
   exact Rd.mono r' (fun _ hk => hk.2)
 ·have := h.2.1
  rw [h0] at this
  exact List.eq_nil_of_length_eq_zero this.symm
end
def idxC (C : List (List Nd)) (v : Nat) (h : Int) : Nat := C.findIdx fun c => sameN (headW c) v h
theorem idxC_le (C : List (List Nd)) (v : Nat) (h : Int) : idxC C v h ≤ C.length := List.findIdx_le_length
theorem idxC_of {C : List (List Nd)} {v : Nat} {h : Int} {k : Nat} {c : List Nd} (hc : C[k]? = some c) (hk : sameN (headW c) v h = true) (hlt : ∀ j c, j < k → C[j]? = some c → sameN (headW c) v h = false) : idxC C v h = k := by
 have hkl := (List.getElem?_eq_some_iff.1 hc).1
 have he : C[k] = c := (List.getElem?_eq_some_iff.1 hc).2
 rw [idxC, List.findIdx_eq hkl]
 refine ⟨by rw [he]; exact hk, fun j hj => ?_⟩
 exact hlt j _ hj (List.getElem?_eq_getElem (by omega))
theorem idxC_none {C : List (List Nd)} {v : Nat} {h : Int} (hlt : ∀ j c, j < C.length → C[j]? = some c → sameN (headW c) v h = false) : idxC C v h = C.length := by
 rw [idxC, List.findIdx_eq_length]
 intro c hc
 obtain ⟨j, hj, he⟩ := List.mem_iff_getElem.1 hc
 have := hlt j c hj (by rw [← he]; simp)
 simpa using this
def idxV (C : List (List Nd)) (v : Nat) (h : Int) : Int := if idxC C v h < C.length then (idxC C v h : Int) else -1
def IdxRel (n : Nat) (C : List (List Nd)) (v : Nat) (h : Int) (w : World) (i : Value) (wr : World) : Prop :=
 ∃ k : Nat, k ≤ n ∧ i = .int .i64 k ∧ Ex w wr ∧ ∀ j c, j < k → C[j]? = some c → sameN (headW c) v h = false
def GoodC (C : List (List Nd)) : Prop := ∀ c ∈ C, 0 < c.length ∧ c.length ≤ 1000000 ∧ ∀ y ∈ c, y.word < 4294967296
theorem flatH (l : List Hdr) : l.flatMap encH = l.map Hdr.val := by
 induction l with
 | nil => rfl
 | cons c r ih => rw [List.flatMap_cons, ih]; rfl
theorem own_cellH {e : TypeId} {base : Nat} {w : World} {g n cap j : Nat} {l : List Hdr} {q : Hdr} (h : OwnL 1 encH e base w (.slice (some ⟨g, 0, none⟩) n cap) l) (hj : l[j]? = some q) :
  w.cell? ⟨g, j, none⟩ = some q.val ∧ w.frozen? ⟨g, j, none⟩ = false ∧ ∀ y : Hdr, OwnL 1 encH e base (w.setCell ⟨g, j, none⟩ y.val) (.slice (some ⟨g, 0, none⟩) n cap) (l.set j y) := by
 rcases h.2 with ⟨h1, _⟩ | ⟨g', cap', cur, e1, e2, e3, e4, e5, e6, e7⟩
 ·cases h1
 ·cases e1
  have hjl := (List.getElem?_eq_some_iff.1 hj).1
  have hjc : j < cur.size := by omega
  rw [flatH] at e7
  refine ⟨?_, ?_, fun y => ⟨?_, .inr ⟨g, cap, cur.setIfInBounds j y.val, by simp, e2, heap_set e3 j _, by simpa using e4, e5, by simpa using e6, ?_⟩⟩⟩
  ·have hx : (cur.toList.take (l.length * 1))[j]? = some q.val := by
    rw [e7, List.getElem?_map, hj]; rfl
   rw [List.getElem?_take, if_pos (by omega)] at hx
   simpa [World.cell?, e3] using hx
  ·simp [World.frozen?, e3]
  ·rw [flatH]; simp
  ·rw [flatH, List.length_set, Array.toList_setIfInBounds, List.take_set, e7, List.map_set]
def OwnQ (base : Nat) (w : World) (v : Value) (qs : List Hdr) (C : List (List Nd)) : Prop :=
 OwnL 1 encH 23 base w v qs ∧ qs.length = C.length ∧
 (∀ (j : Nat) (q : Hdr) (c : List Nd), qs[j]? = some q → C[j]? = some c → OwnL 3 encN 56 base w q.val c) ∧
 ∀ (i j : Nat) (qi qj : Hdr) (g : Nat), qs[i]? = some qi → qs[j]? = some qj → qi.val.ownBlock = some g → qj.val.ownBlock = some g → i = j
theorem OwnQ.nil (base : Nat) (w : World) : OwnQ base w (.slice none 0 0) [] [] := ⟨OwnL.nil _ _ _ _ _, rfl, by intro j q c h; simp at h, by intro i j qi qj g h; simp at h⟩
theorem OwnQ.nx {base : Nat} {w w' : World} {v : Value} {qs : List Hdr} {C : List (List Nd)} (h : OwnQ base w v qs C) (k : Ex w w') : OwnQ base w' v qs C :=
 ⟨h.1.nx k, h.2.1, fun j q c hq hc => (h.2.2.1 j q c hq hc).nx k, h.2.2.2⟩
theorem OwnQ.ne {base : Nat} {w : World} {v : Value} {qs : List Hdr} {C : List (List Nd)} (h : OwnQ base w v qs C) {j g : Nat} {q : Hdr} (hq : qs[j]? = some q) (hg : q.val.ownBlock = some g) : ¬ v.ownBlock = some g := by
 intro hv
 obtain ⟨c, hc⟩ : ∃ c, C[j]? = some c := ⟨C[j]'(by have := (List.getElem?_eq_some_iff.1 hq).1; have := h.2.1; omega), by simp⟩
 obtain ⟨_, cur, h1⟩ := (h.2.2.1 j q c hq hc).blk hg
 obtain ⟨_, cur', h2⟩ := h.1.blk hv
 rw [h1] at h2
 simp at h2
theorem OwnQ.lt {base : Nat} {w : World} {v : Value} {qs : List Hdr} {C : List (List Nd)} (h : OwnQ base w v qs C) {j g : Nat} {q : Hdr} (hq : qs[j]? = some q) (hg : q.val.ownBlock = some g) : g < w.heap.size := by
 obtain ⟨c, hc⟩ : ∃ c, C[j]? = some c := ⟨C[j]'(by have := (List.getElem?_eq_some_iff.1 hq).1; have := h.2.1; omega), by simp⟩
 obtain ⟨_, cur, h1⟩ := (h.2.2.1 j q c hq hc).blk hg
 exact heap_lt h1
theorem OwnQ.pad {base : Nat} {w w' : World} {v v' : Value} {qs : List Hdr} {C : List (List Nd)} (h : OwnQ base w v qs C) (ho : OwnL 1 encH 23 base w' v' (qs ++ [((none, 0, 0) : Hdr)]))
  (k : Chg (fun k => k < w.heap.size ∧ ¬ v.ownBlock = some k) w w') : OwnQ base w' v' (qs ++ [((none, 0, 0) : Hdr)]) (C ++ [[]]) := by
 refine ⟨ho, by simp [h.2.1], fun j q c hq hc => ?_, fun i j qi qj g hi hj gi gj => ?_⟩
 ·rcases Nat.lt_or_ge j qs.length with hl | hl
  ·rw [List.getElem?_append_left hl] at hq
   rw [List.getElem?_append_left (by rw [← h.2.1]; exact hl)] at hc
   exact (h.2.2.1 j q c hq hc).chg k (fun x hx hv => ⟨hx, h.ne hq hv⟩)
  ·obtain rfl : j = qs.length := by have := (List.getElem?_eq_some_iff.1 hq).1; simp at this; omega
   simp at hq
   rw [h.2.1] at hc
   simp at hc
   subst hq hc
   exact OwnL.nil _ _ _ _ _
 ·have hn : ∀ (i : Nat) (q : Hdr), (qs ++ [((none, 0, 0) : Hdr)])[i]? = some q → q.val.ownBlock = some g → qs[i]? = some q := by
   intro i q hq hg
   rcases Nat.lt_or_ge i qs.length with hl | hl
   ·rw [List.getElem?_append_left hl] at hq; exact hq
   ·obtain rfl : i = qs.length := by have := (List.getElem?_eq_some_iff.1 hq).1; simp at this; omega
    simp at hq
    subst hq
    cases hg
  exact h.2.2.2 i j qi qj g (hn i qi hi gi) (hn j qj hj gj) gi gj
theorem OwnQ.put {base : Nat} {w1 w2 : World} {g n cap k : Nat} {qs : List Hdr} {C : List (List Nd)} {q q' : Hdr} {c' : List Nd} (h : OwnQ base w1 (.slice (some ⟨g, 0, none⟩) n cap) qs C) (hq : qs[k]? = some q)
  (ho : OwnL 3 encN 56 base w2 q'.val c') (kk : Chg (fun x => x < w1.heap.size ∧ ¬ q.val.ownBlock = some x) w1 w2) (hat : q'.val.ownBlock = q.val.ownBlock ∨ q'.val.ownBlock = some w1.heap.size) :
  w2.cell? ⟨g, k, none⟩ = some q.val ∧ w2.frozen? ⟨g, k, none⟩ = false ∧ OwnQ base (w2.setCell ⟨g, k, none⟩ q'.val) (.slice (some ⟨g, 0, none⟩) n cap) (qs.set k q') (C.set k c') := by
 have hg1 : ∀ (j : Nat) (q : Hdr) (x : Nat), qs[j]? = some q → q.val.ownBlock = some x → x ≠ g := fun j q x hj hx he => h.ne hj hx (by rw [he]; rfl)
 have ho1 : OwnL 1 encH 23 base w2 (.slice (some ⟨g, 0, none⟩) n cap) qs := h.1.chg kk (fun x hx hv => ⟨hx, fun hh => h.ne hq hh hv⟩)
 obtain ⟨f1, f2, f3⟩ := own_cellH ho1 hq
 have hne' : ∀ x, q'.val.ownBlock = some x → x ≠ g := by
  intro x hx he
  obtain ⟨_, cur, e1⟩ := ho.blk hx
  obtain ⟨_, cur', e2⟩ := ho1.blk (g := g) rfl
  rw [he, e2] at e1
  simp at e1
 have hset : Chg (· ≠ g) w2 (w2.setCell ⟨g, k, none⟩ q'.val) := (Chg.refl _ w2).setCell _ (fun x hx => hx)
 have hkl := (List.getElem?_eq_some_iff.1 hq).1
 refine ⟨f1, f2, f3 q', by simp [h.2.1], fun j r c hr hc => ?_, fun i j qi qj x hi hj gi gj => ?_⟩
 ·by_cases hjk : j = k
  ·subst hjk
   rw [List.getElem?_set_self hkl] at hr
   rw [List.getElem?_set_self (by rw [← h.2.1]; exact hkl)] at hc
   cases hr
   cases hc
   exact ho.chg hset (fun x _ hv => hne' x hv)
  ·rw [List.getElem?_set_ne (by omega)] at hr hc
   have o1 := h.2.2.1 j r c hr hc
   have o2 : OwnL 3 encN 56 base w2 r.val c := o1.chg kk (fun x hx hv => ⟨hx, fun hh => hjk (h.2.2.2 j k r q x hr hq hv hh)⟩)
   exact o2.chg hset (fun x _ hv => hg1 j r x hr hv)
 ·have key : ∀ (j : Nat) (qj : Hdr), j ≠ k → qs[j]? = some qj → qj.val.ownBlock = some x → q'.val.ownBlock = some x → False := by
   intro j qj hjk hj gj gk
   rcases hat with h1 | h1
   ·exact hjk (h.2.2.2 j k qj q x hj hq gj (h1 ▸ gk))
   ·have := h.lt hj gj
    rw [h1] at gk
    cases gk
    omega
  by_cases hik : i = k
  ·by_cases hjk : j = k
   ·omega
   ·exfalso
    subst hik
    rw [List.getElem?_set_self hkl] at hi
    cases hi
    rw [List.getElem?_set_ne (by omega)] at hj
    exact key j qj hjk hj gj gi
  ·rw [List.getElem?_set_ne (by omega)] at hi
   by_cases hjk : j = k
   ·exfalso
    subst hjk
    rw [List.getElem?_set_self hkl] at hj
    cases hj
    exact key i qi hik hi gi gj
   ·rw [List.getElem?_set_ne (by omega)] at hj
    exact h.2.2.2 i j qi qj x hi hj gi gj
theorem OwnQ.ll {base : Nat} {w : World} {v : Value} {qs : List Hdr} {C : List (List Nd)} (h : OwnQ base w v qs C) :
  ∃ a cap, v = .slice a C.length cap ∧ LL w a C.length C ∧ C.length ≤ cap ∧ cap ≤ maxLen ∧ (C ≠ [] → ∃ g, a = some ⟨g, 0, none⟩ ∧ base ≤ g) := by
 obtain ⟨a, cap, e, r, c1, c2, c3⟩ := h.1.rd (fun _ => rfl)
 rw [h.2.1] at e r c1
 refine ⟨a, cap, e, ⟨qs, Rd.mono r (fun _ hk => hk.2), rfl, fun j q c hq hc => ?_⟩, c1, c2, fun hC => c3 (fun h0 => hC ?_)⟩
 ·obtain ⟨a', cap', e', r', _⟩ := (h.2.2.1 j q c hq hc).rd (fun _ => rfl)
  obtain ⟨q1, q2, q3⟩ := q
  simp only [Hdr.val, Value.slice.injEq] at e'
  obtain ⟨rfl, rfl, rfl⟩ := e'
  exact Rd.mono r' (fun _ hk => hk.2)
 ·have := h.2.1
  rw [h0] at this
  exact List.eq_nil_of_length_eq_zero this.symm
def padC (C : List (List Nd)) (k : Nat) : List (List Nd) := if k = C.length then C ++ [[]] else C
def stepC (h : Int) (C : List (List Nd)) (x : Nd) : List (List Nd) :=
 (padC C (idxC C x.word h)).set (idxC C x.word h) ((padC C (idxC C x.word h))[idxC C x.word h]?.getD [] ++ [x])
def classesN (l : List Nd) (h : Int) : List (List Nd) := if 16 < h then [] else l.foldl (stepC h) []
def foldC (h : Int) (l : List Nd) : List (List Nd) := l.foldl (stepC h) []
theorem foldC_snoc (h : Int) (l : List Nd) (k : Nat) (y : Nd) (hy : l[k]? = some y) : foldC h (l.take (k + 1)) = stepC h (foldC h (l.take k)) y := by
 unfold foldC
 rw [take_snocN l k y hy, List.foldl_append]
 rfl
theorem padC_length (C : List (List Nd)) (k : Nat) : C.length ≤ (padC C k).length ∧ (padC C k).length ≤ C.length + 1 := by
 unfold padC
 split <;> simp
theorem stepC_length (h : Int) (C : List (List Nd)) (x : Nd) : (stepC h C x).length ≤ C.length + 1 := by
 unfold stepC
 rw [List.length_set]
 exact (padC_length _ _).2
theorem foldC_length (h : Int) (l : List Nd) : (foldC h l).length ≤ l.length := by
 have : ∀ (l : List Nd) (C : List (List Nd)), (l.foldl (stepC h) C).length ≤ C.length + l.length := by
  intro l
  induction l with
  | nil => intro C; simp
  | cons x r ih => intro C; have := ih (stepC h C x); have := stepC_length h C x; simp at *; omega
 have := this l []
 simpa [foldC] using this
def Fine (n : Nat) (P : Nd → Prop) (C : List (List Nd)) : Prop := ∀ c ∈ C, 0 < c.length ∧ c.length ≤ n ∧ ∀ y ∈ c, P y
theorem stepC_fine {h : Int} {n : Nat} {P : Nd → Prop} {C : List (List Nd)} {x : Nd} (hC : Fine n P C) (hx : P x) : Fine (n + 1) P (stepC h C x) := by
 intro c hc
 unfold stepC at hc
 have hpad : ∀ c, c ∈ padC C (idxC C x.word h) → c ∈ C ∨ c = [] := by
  intro c hc
  unfold padC at hc
  split at hc
  ·rcases List.mem_append.1 hc with h | h
   ·exact .inl h
   ·exact .inr (List.mem_singleton.1 h)
  ·exact .inl hc
 rcases List.mem_or_eq_of_mem_set hc with hm | rfl
 ·by_cases hin : c ∈ C
  ·have := hC c hin
   exact ⟨this.1, by omega, this.2.2⟩
  ·
   exfalso
   rcases hpad c hm with h1 | h1
   ·exact hin h1
   ·subst h1
    obtain ⟨j, hj, he⟩ := List.mem_iff_getElem.1 hc
    rw [List.getElem_set] at he
    split at he
    ·simp at he
    ·rename_i hne
     have hjl : j < (padC C (idxC C x.word h)).length := by rw [List.length_set] at hj; exact hj
     by_cases hi : idxC C x.word h = C.length
     ·have hp : padC C (idxC C x.word h) = C ++ [[]] := by unfold padC; rw [if_pos hi]
      have hjC : j < C.length := by rw [hp] at hjl; simp at hjl; omega
      have : C[j] = [] := by
       have h2 : (padC C (idxC C x.word h))[j]? = some [] := by rw [List.getElem?_eq_getElem hjl, he]
       rw [hp, List.getElem?_append_left hjC, List.getElem?_eq_getElem hjC] at h2
       exact Option.some.inj h2
      exact hin (this ▸ List.getElem_mem hjC)
     ·have hp : padC C (idxC C x.word h) = C := by unfold padC; rw [if_neg hi]
      rw [hp] at hm
      exact hin hm
 ·have hg : ∀ o : Option (List Nd), (∀ c, o = some c → c ∈ C ∨ c = []) → (o.getD []).length ≤ n ∧ ∀ y ∈ o.getD [], P y := by
   intro o ho
   cases o with
   | none => simp
   | some c =>
    rcases ho c rfl with h | h
    ·exact ⟨(hC c h).2.1, (hC c h).2.2⟩
    ·subst h; simp
  obtain ⟨g1, g2⟩ := hg _ (fun c hc => hpad c (List.mem_of_getElem? hc))
  refine ⟨by simp, by simp; exact g1, fun y hy => ?_⟩
  rcases List.mem_append.1 hy with h | h
  ·exact g2 y h
  ·rw [List.mem_singleton.1 h]; exact hx
theorem foldC_fine {h : Int} {P : Nd → Prop} (l : List Nd) (hP : ∀ y ∈ l, P y) : Fine l.length P (foldC h l) := by
 have : ∀ (l : List Nd) (n : Nat) (C : List (List Nd)), (∀ y ∈ l, P y) → Fine n P C → Fine (n + l.length) P (l.foldl (stepC h) C) := by
  intro l
  induction l with
  | nil => intro n C _ hC; exact hC
  | cons x r ih =>
   intro n C hl hC
   have := ih (n + 1) (stepC h C x) (fun y hy => hl y (List.mem_cons_of_mem _ hy)) (stepC_fine hC (hl x (List.mem_cons_self ..)))
   rw [List.length_cons, show n + (r.length + 1) = n + 1 + r.length by omega]
   exact this
 have := this l 0 [] hP (by intro c hc; simp at hc)
 rw [Nat.zero_add] at this
 exact this
def ClPost (C : List (List Nd)) (w : World) (e : Ending) (w' : World) : Prop := ∃ (a : Option Addr) (cp : Nat), e = .returned (.slice a C.length cp) ∧ LL w' a C.length C ∧ Ex w w'
theorem OwnQ.cast {base : Nat} {w w' : World} {v : Value} {qs : List Hdr} {C : List (List Nd)} (h : OwnQ base w v qs C) (e : w' = w) : OwnQ base w' v qs C := e ▸ h
theorem OwnQ.ne_blk {base g : Nat} {w : World} {v : Value} {qs : List Hdr} {C : List (List Nd)} {cs : List Value} (h : OwnQ base w v qs C) (b : Blk w g cs 56) : ¬ v.ownBlock = some g := by
 intro hv
 obtain ⟨_, cur, e⟩ := h.1.blk hv
 unfold Blk at b
 rw [b] at e
 simp at e
theorem Blk.chg {w w' : World} {g : Nat} {cs : List Value} {ty : TypeId} {S : Nat → Prop} (h : Blk w g cs ty) (k : Chg S w w') (hs : S g) : Blk w' g cs ty := (k.block g hs).trans h
def ClRel (l : List Nd) (h : Int) (n : Nat) (w1 : World) (o i : Value) (wr : World) : Prop :=
 ∃ (k : Nat) (qs : List Hdr), k ≤ n ∧ i = .int .i64 k ∧ OwnQ w1.heap.size wr o qs (foldC h (l.take k)) ∧ Ex w1 wr
theorem classesN_big {l : List Nd} {h : Int} (hh : 16 < h) : classesN l h = [] := by unfold classesN; rw [if_pos hh]
theorem classesN_fold {l : List Nd} {h : Int} (hh : ¬ 16 < h) : classesN l h = foldC h l := by unfold classesN; rw [if_neg hh]; rfl
def Nd.val (x : Nd) : Value := .agg #[.int .i64 x.id, .string x.key, .int .u32 x.word]
def Nd.zero : Nd := ⟨0, ⟨#[]⟩, 0⟩
theorem bytesLess_total : ∀ x y : List UInt8, Op.bytesLess x y = false → Op.bytesLess y x = false → x = y
 | [], [], _, _ => rfl
 | [], b :: y, h, _ => by simp [Op.bytesLess] at h
 | a :: x, [], _, h => by simp [Op.bytesLess] at h
 | a :: x, b :: y, h1, h2 => by
  simp only [Op.bytesLess, Bool.or_eq_false_iff, Bool.and_eq_false_iff, decide_eq_false_iff_not, beq_eq_false_iff_ne] at h1 h2
  have hab : a = b := by
   rcases UInt8.lt_or_le a b with h | h
   ·exact absurd h h1.1
   ·rcases UInt8.lt_or_eq_of_le h with h | h
    ·exact absurd h h2.1
    ·exact h.symm
  subst hab
  rw [bytesLess_total x y (h1.2.resolve_left (by simp)) (h2.2.resolve_left (by simp))]
theorem insN_mem (out : List Nd) (x y : Nd) : y ∈ insN out x ↔ y ∈ out ∨ y = x := by
 unfold insN
 rw [List.mem_append, List.mem_cons]
 constructor
 ·rintro (h | h | h)
  ·exact .inl (List.mem_of_mem_take h)
  ·exact .inr h
  ·exact .inl (List.mem_of_mem_drop h)
 ·rintro (h | h)
  ·have : y ∈ out.take (atN out x out.length) ++ out.drop (atN out x out.length) := by rw [List.take_append_drop]; exact h
   rcases List.mem_append.1 this with h | h
   ·exact .inl h
   ·exact .inr (.inr h)
  ·exact .inr (.inl h)
theorem sortN_mem (l : List Nd) (y : Nd) : y ∈ sortN l ↔ y ∈ l := by
 have : ∀ (l out : List Nd), y ∈ l.foldl insN out ↔ y ∈ out ∨ y ∈ l := by
  intro l
  induction l with
  | nil => intro out; simp
  | cons x r ih => intro out; rw [List.foldl_cons, ih, insN_mem, List.mem_cons, or_assoc]
 have := this l []
 simpa [sortN] using this
def findN (l : List Nd) (id : Int) : Nd × Bool := match l.find? (fun x => x.id == id) with | some x => (x, true) | none => (Nd.zero, false)
theorem findN_none {l : List Nd} {id : Int} (hno : ∀ j z, j < l.length → l[j]? = some z → z.id ≠ id) : findN l id = (Nd.zero, false) := by
 have : l.find? (fun x => x.id == id) = none := by
  rw [List.find?_eq_none]
  intro x hx
  obtain ⟨j, hj, he⟩ := List.mem_iff_getElem.1 hx
  have := hno j x hj (by rw [← he]; simp)
  simpa using this
 unfold findN
 rw [this]
def lvlN (h : Int) : Bool := decide (0 ≤ h) && decide (h ≤ 16)
def ltN (a b : Nd) : Bool := Op.bytesLess a.key.toList b.key.toList || (a.key.toList == b.key.toList && decide (a.id < b.id))
theorem bl_trans {x y z : List UInt8} (h1 : Op.bytesLess x y = true) (h2 : Op.bytesLess y z = true) : Op.bytesLess x z = true := by
 rw [bytesLess_eq] at *
 simp only [decide_eq_true_eq] at *
 exact List.lt_trans h1 h2
theorem bl_asymm {x y : List UInt8} (h : Op.bytesLess x y = true) : Op.bytesLess y x = false := by
 cases h2 : Op.bytesLess y x with
 | false => rfl
 | true =>
  have h3 := bl_trans h h2
  rw [bytesLess_irrefl] at h3
  cases h3
theorem bl_tri (x y : List UInt8) : (Op.bytesLess x y = true ∧ Op.bytesLess y x = false ∧ x ≠ y) ∨ (x = y ∧ Op.bytesLess x y = false ∧ Op.bytesLess y x = false) ∨ (Op.bytesLess y x = true ∧ Op.bytesLess x y = false ∧ x ≠ y) := by
 cases h1 : Op.bytesLess x y with
 | true => exact .inl ⟨rfl, bl_asymm h1, fun he => by rw [he, bytesLess_irrefl] at h1; cases h1⟩
 | false =>
  cases h2 : Op.bytesLess y x with
  | true => exact .inr (.inr ⟨rfl, rfl, fun he => by rw [he, bytesLess_irrefl] at h2; cases h2⟩)
  | false => exact .inr (.inl ⟨bytesLess_total x y h1 h2, rfl, rfl⟩)
theorem ltN_iff (a b : Nd) : ltN a b = true ↔ Op.bytesLess a.key.toList b.key.toList = true ∨ (a.key.toList = b.key.toList ∧ a.id < b.id) := by
 unfold ltN; simp
theorem ltN_no (a b : Nd) : ltN a b = false ↔ Op.bytesLess b.key.toList a.key.toList = true ∨ (a.key.toList = b.key.toList ∧ b.id ≤ a.id) := by
 rw [← Bool.not_eq_true, ltN_iff]
 rcases bl_tri a.key.toList b.key.toList with ⟨h1, h2, h3⟩ | ⟨h1, h2, h3⟩ | ⟨h1, h2, h3⟩
 ·simp [h1, h2, h3]
 ·simp [h1, bytesLess_irrefl]
 ·simp [h1, h2, h3]
theorem gtN_lt (a b : Nd) : gtN a b = ltN b a := by
 unfold gtN ltN
 rcases bl_tri a.key.toList b.key.toList with ⟨h1, h2, h3⟩ | ⟨h1, h2, h3⟩ | ⟨h1, h2, h3⟩
 ·have e1 : (a.key.toList == b.key.toList) = false := by rw [beq_eq_false_iff_ne]; exact h3
  have e2 : (b.key.toList == a.key.toList) = false := by rw [beq_eq_false_iff_ne]; exact fun h => h3 h.symm
  rw [h1, h2, e1, e2]; rfl
 ·simp [h1, bytesLess_irrefl]
 ·have e1 : (a.key.toList == b.key.toList) = false := by rw [beq_eq_false_iff_ne]; exact h3
  have e2 : (b.key.toList == a.key.toList) = false := by rw [beq_eq_false_iff_ne]; exact fun h => h3 h.symm
  rw [h1, h2, e1, e2]; rfl
theorem swo_ltN : Sort.SWO ltN where
 irrefl x := by unfold ltN; simp [bytesLess_irrefl]
 trans x y z h1 h2 := by
  rw [ltN_iff] at *
  rcases h1 with h1 | ⟨h1, h1'⟩ <;> rcases h2 with h2 | ⟨h2, h2'⟩
  ·exact .inl (bl_trans h1 h2)
  ·exact .inl (by rw [← h2]; exact h1)
  ·exact .inl (by rw [h1]; exact h2)
  ·exact .inr ⟨h1.trans h2, by omega⟩
 ntrans x y z h1 h2 := by
  rw [ltN_no] at *
  rcases h1 with h1 | ⟨h1, h1'⟩ <;> rcases h2 with h2 | ⟨h2, h2'⟩
  ·exact .inl (bl_trans h2 h1)
  ·exact .inl (by rw [← h2]; exact h1)
  ·exact .inl (by rw [h1]; exact h2)
  ·exact .inr ⟨h1.trans h2, by omega⟩
def AscN (l : List Nd) : Prop := l.Pairwise fun x y => ltN y x = false
theorem atN_spec (out : List Nd) (x : Nd) (h : AscN out) : ∀ n, n ≤ out.length → (∀ j y, n ≤ j → out[j]? = some y → ltN x y = true) →
  (∀ j y, atN out x n ≤ j → out[j]? = some y → ltN x y = true) ∧ (∀ j y, j < atN out x n → out[j]? = some y → ltN x y = false)
 | 0, _, h1 => ⟨h1, by intro j y hj; unfold atN at hj; omega⟩
 | n + 1, hn, h1 => by
  have hy : out[n]? = some out[n] := List.getElem?_eq_getElem (by omega)
  unfold atN
  rw [hy]
  simp only
  split
  ·rename_i hg
   rw [gtN_lt] at hg
   refine atN_spec out x h n (by omega) fun j y hj hjy => ?_
   rcases Nat.lt_or_ge n j with h2 | h2
   ·exact h1 j y h2 hjy
   ·obtain rfl : j = n := by omega
    rw [hy] at hjy
    cases hjy
    exact hg
  ·rename_i hg
   rw [gtN_lt] at hg
   have hg : ltN x out[n] = false := by simpa using hg
   refine ⟨h1, fun j y hj hjy => ?_⟩
   rcases Nat.lt_or_ge j n with h2 | h2
   ·have hj' := List.getElem?_eq_some_iff.1 hjy
    have := List.pairwise_iff_getElem.1 h j n hj'.1 (by omega) h2
    rw [hj'.2] at this
    exact swo_ltN.ntrans _ _ _ hg this
   ·obtain rfl : j = n := by omega
    rw [hy] at hjy
    cases hjy
    exact hg
theorem insN_asc {out : List Nd} (x : Nd) (h : AscN out) : AscN (insN out x) := by
 obtain ⟨h1, h2⟩ := atN_spec out x h out.length (Nat.le_refl _) (by intro j y hj hjy; have := (List.getElem?_eq_some_iff.1 hjy).1; omega)
 unfold insN AscN
 have ha : (out.take (atN out x out.length) ++ out.drop (atN out x out.length)).Pairwise fun x y => ltN y x = false := by rw [List.take_append_drop]; exact h
 rw [List.pairwise_append] at ha ⊢
 refine ⟨ha.1, List.pairwise_cons.2 ⟨fun y hy => ?_, ha.2.1⟩, fun y hy z hz => ?_⟩
 ·obtain ⟨j, hj⟩ := List.mem_iff_getElem?.1 hy
  rw [List.getElem?_drop] at hj
  exact swo_ltN.asymmA (h1 _ y (by omega) hj)
 ·rcases List.mem_cons.1 hz with rfl | hz
  ·obtain ⟨j, hj⟩ := List.mem_iff_getElem?.1 hy
   rw [List.getElem?_take] at hj
   split at hj
   ·exact h2 j y (by assumption) hj
   ·cases hj
  ·exact ha.2.2 y hy z hz
theorem insN_perm (out : List Nd) (x : Nd) : (insN out x).Perm (x :: out) := by
 unfold insN
 have h := List.perm_middle (a := x) (l₁ := out.take (atN out x out.length)) (l₂ := out.drop (atN out x out.length))
 rw [List.take_append_drop] at h
 exact h
theorem fold_asc : ∀ (l out : List Nd), AscN out → AscN (l.foldl insN out)
 | [], _, h => h
 | x :: r, out, h => fold_asc r _ (insN_asc x h)
theorem fold_perm : ∀ (l out : List Nd), (l.foldl insN out).Perm (l ++ out)
 | [], _ => List.Perm.refl _
 | x :: r, out => by
  rw [List.foldl_cons, List.cons_append]
  exact (fold_perm r _).trans (((insN_perm out x).append_left r).trans List.perm_middle)
theorem sortN_asc (l : List Nd) : AscN (sortN l) := fold_asc l [] List.Pairwise.nil
theorem sortN_perm (l : List Nd) : (sortN l).Perm l := by
 have := fold_perm l []
 rwa [List.append_nil] at this
def KeysN (l : List Nd) : Prop := ∀ (i k : Nat) (x y : Nd), k < i → l[i]? = some x → l[k]? = some y → x.key ≠ y.key ∧ x.id ≠ y.id
theorem check_keys {l : List Nd} (h : checkN l = 0) : KeysN l := by
 unfold checkN at h
 split at h
 ·omega
 ·split at h
  ·omega
  ·split at h
   ·omega
   ·rename_i hd
    intro i k x y hk hx hy
    have : ¬ eqN x y = true := fun he => hd ((dupN_iff l).2 ⟨i, k, x, y, hk, hx, hy, he⟩)
    unfold eqN at this
    simp only [Bool.or_eq_true, beq_iff_eq, not_or] at this
    exact ⟨fun he => this.2 (by rw [he]), this.1⟩
theorem keys_eq {l : List Nd} (h : KeysN l) {x y : Nd} (hx : x ∈ l) (hy : y ∈ l) (he : x.key.toList = y.key.toList) : x = y := by
 obtain ⟨i, hi⟩ := List.mem_iff_getElem?.1 hx
 obtain ⟨k, hk⟩ := List.mem_iff_getElem?.1 hy
 have hke : x.key = y.key := by
  rw [ByteArray.toList_eq, ByteArray.toList_eq] at he
  exact ByteArray.ext (Array.toList_inj.1 he)
 rcases Nat.lt_trichotomy i k with hlt | rfl | hlt
 ·exact absurd hke.symm (h k i y x hlt hk hi).1
 ·exact Option.some.inj (hi.symm.trans hk)
 ·exact absurd hke (h i k x y hlt hi hk).1
theorem ids_eq {l : List Nd} (h : KeysN l) {x y : Nd} (hx : x ∈ l) (hy : y ∈ l) (he : x.id = y.id) : x = y := by
 obtain ⟨i, hi⟩ := List.mem_iff_getElem?.1 hx
 obtain ⟨k, hk⟩ := List.mem_iff_getElem?.1 hy
 rcases Nat.lt_trichotomy i k with hlt | rfl | hlt
 ·exact absurd he.symm (h k i y x hlt hk hi).2
 ·exact Option.some.inj (hi.symm.trans hk)
 ·exact absurd he (h i k x y hlt hi hk).2
theorem sortN_unique {l S : List Nd} (hk : KeysN l) (hp : S.Perm l) (hs : AscN S) : S = sortN l := by
 refine List.Perm.eq_of_pairwise (le := fun x y => ltN y x = false) ?_ hs (sortN_asc l) (hp.trans (sortN_perm l).symm)
 intro a b ha hb h1 h2
 have ha := hp.mem_iff.1 ha
 have hb := (sortN_mem l b).1 hb
 rw [ltN_no] at h1 h2
 rcases h1 with h1 | ⟨h1, _⟩
 ·rcases h2 with h2 | ⟨h2, _⟩
  ·rw [bl_asymm h1] at h2; cases h2
  ·exact keys_eq hk ha hb h2
 ·exact (keys_eq hk hb ha h1).symm
def PredG (g : Nat) (lb : Array Value) (p : Nd → Bool) (w : World) : Prop := ∀ (x : Nd) (w' : World), Ex w w' → Calls Tryz.prog g (#[x.val] ++ lb) w' fun e w'' => e = .returned (.bool (p x)) ∧ Ex w' w''
theorem PredG.nx {g : Nat} {lb : Array Value} {p : Nd → Bool} {w w' : World} (h : PredG g lb p w) (k : Ex w w') : PredG g lb p w' := fun x w'' k2 => h x w'' (k.nx k2)
def idxB (p : Nd → Bool) (l : List Nd) : Int := if l.findIdx p < l.length then (l.findIdx p : Int) else -1
theorem idxB_of {p : Nd → Bool} {l : List Nd} {k : Nat} {y : Nd} (hy : l[k]? = some y) (hp : p y = true) (hno : ∀ j z, j < k → l[j]? = some z → p z = false) : idxB p l = k ∧ k < l.length := by
 have hk := (List.getElem?_eq_some_iff.1 hy)
 have hk1 := hk.1
 have : l.findIdx p = k := by
  rw [List.findIdx_eq hk.1]
  refine ⟨by rw [hk.2]; exact hp, fun j hj => ?_⟩
  exact hno j _ hj (List.getElem?_eq_getElem (by omega))
 unfold idxB
 rw [this, if_pos hk.1]
 exact ⟨rfl, hk.1⟩
theorem idxB_none {p : Nd → Bool} {l : List Nd} (hno : ∀ j z, j < l.length → l[j]? = some z → p z = false) : idxB p l = -1 := by
 unfold idxB
 rw [if_neg]
 rw [List.findIdx_lt_length]
 rintro ⟨x, hx, hp⟩
 obtain ⟨j, hj⟩ := List.mem_iff_getElem?.1 hx
 rw [hno j x (List.getElem?_eq_some_iff.1 hj).1 hj] at hp
 cases hp
theorem idxB_any (p : Nd → Bool) (l : List Nd) : decide (0 ≤ idxB p l) = l.any p := by
 unfold idxB
 split
 ·rename_i h
  rw [List.findIdx_lt_length] at h
  have h1 : l.any p = true := List.any_eq_true.2 h
  rw [h1]; simp
 ·rename_i h
  rw [List.findIdx_lt_length] at h
  have h1 : l.any p = false := by
   rw [List.any_eq_false]
   intro x hx hp
   exact h ⟨x, hx, hp⟩
  rw [h1]; simp
def IdRel (p : Nd → Bool) (l : List Nd) (n : Nat) (w : World) (i : Value) (wr : World) : Prop :=
 ∃ k : Nat, k ≤ n ∧ i = .int .i64 k ∧ Ex w wr ∧ ∀ j z, j < k → l[j]? = some z → p z = false
set_option maxRecDepth 100000 in
set_option maxHeartbeats 2000000 in
theorem idxf_n (g : Nat) (lb : Array Value) (p : Nd → Bool) (eg : ∀ args w, (callFunc g args).run Tryz.prog w = .ok (.enter g args) w) (a : Option Addr) (n c : Nat) (l : List Nd) (w : World) (h : Sl 3 encN w a n l) (hn : n ≤ 1000000) (hp : PredG g lb p w) :
  Calls Tryz.prog 105 #[.slice a n c, .func (.func g) #[] lb] w fun e w' => e = .returned (.int .i64 (idxB p l)) ∧ Ex w w' := by
 have HL := lH h.len
 have HP := lH hp
 have hs := lH h
 clear h hp
 go_enter Tryz.func105, Tryz.ntmps105
 go_wp2
 go_loopw [8] (fun i wr => IdRel p l n w i wr) (fun i _ => n - (intOf i).toNat)
 case atStart => exact ⟨0, by omega, rfl, Ex.refl _, by intro j z h; omega⟩
 case round =>
  obtain ⟨k, hk, rfl, kw, hno⟩ := hrel
  have HNO := lH hno
  clear hno
  obtain ⟨wo, rfl⟩ : ∃ wo : World, wo = wr := ⟨_, rfl⟩
  by_cases hlt : k < n
  ·obtain ⟨x1, o1, y, rfl, hx1, hy, hc1⟩ := (hs.out.nx kw).at hlt
   have e0 : wo.cell? ⟨x1, o1 + k * 3, none⟩ = some (.int .i64 y.id) := hc1 0 _ rfl
   have e1 : wo.cell? ⟨x1, o1 + k * 3 + 1, none⟩ = some (.string y.key) := hc1 1 _ rfl
   have e2 : wo.cell? ⟨x1, o1 + k * 3 + 1 + 1, none⟩ = some (.int .u32 y.word) := by simpa [Nat.add_assoc] using hc1 2 _ rfl
   have e2' : wo.cell? ⟨x1, o1 + k * 3 + 2, none⟩ = some (.int .u32 y.word) := hc1 2 _ rfl
   have HY := lH hy
   have hc := HP.out y wo kw
   have KW := lH kw
   clear hc1 hy kw
   unfold Nd.val at hc
   go_wp2_with fail
   refine hc.mono ?_
   rintro e w2 ⟨rfl, k2⟩
   have K2 := lH (KW.out.nx k2)
   clear hc k2 e0 e1 e2 e2'
   cases hb : p y with
   | true =>
    have HI : Hid (idxB p l = k) := lH (idxB_of HY.out hb HNO.out).1
    clear hb
    go_wp2_with fail
    go_ret
    exact ⟨by rw [HI.out]; rfl, K2.out⟩
   | false =>
    have HB := lH hb
    clear hb
    go_wp2_with fail
    refine ⟨⟨k + 1, by omega, by go_num, K2.out, fun j z hj hz => ?_⟩, by simp [intOf]; omega⟩
    rcases Nat.lt_or_ge j k with h | h
    ·exact HNO.out j z h hz
    ·obtain rfl : j = k := by omega
     rw [Option.some.inj (hz.symm.trans HY.out)]
     exact HB.out
  ·obtain rfl : k = n := by omega
   have HI : Hid (idxB p l = -1) := lH (idxB_none (fun j z hj hz => HNO.out j z (by rw [← HL.out]; exact hj) hz))
   have KW := lH kw
   clear kw hk hlt
   go_wp2_with fail
   go_ret
   exact ⟨by rw [HI.out]; rfl, KW.out⟩
theorem contf_n (g : Nat) (lb : Array Value) (p : Nd → Bool) (eg : ∀ args w, (callFunc g args).run Tryz.prog w = .ok (.enter g args) w) (a : Option Addr) (n c : Nat) (l : List Nd) (w : World) (h : Sl 3 encN w a n l) (hn : n ≤ 1000000) (hp : PredG g lb p w) :
  Calls Tryz.prog 97 #[.slice a n c, .func (.func g) #[] lb] w fun e w' => e = .returned (.bool (l.any p)) ∧ Ex w w' := by
 have HA := lH (idxB_any p l)
 go_enter Tryz.func97, Tryz.ntmps97
 go_wp2_with fail
 (with_reducible refine (idxf_n g lb p eg _ _ _ _ _ h hn hp).mono ?_)
 rintro e w1 ⟨rfl, kk⟩
 clear h hp
 go_wp2_with fail
 go_ret
 exact ⟨by rw [← HA.out]; rfl, kk⟩
theorem find1_p (gx : Nat) (id : Int) (w : World) (hx : Blk w gx [.int .i64 id] 3) : PredG 106 #[.pointer (some ⟨gx, 0, none⟩)] (fun x => x.id == id) w := by
 intro x w' kk
 have q0 := (hx.nx kk).cell 0 _ rfl
 have hg := (hx.nx kk).lt
 have hne : ¬ gx = w'.heap.size := by omega
 unfold Nd.val
 clear hx kk
 go_enter Tryz.func106, Tryz.ntmps106
 go_wp2
 go_ret
 exact ⟨rfl, (Ex.refl _).alloc _⟩
theorem idxB_find (l : List Nd) (id : Int) : (∃ (k : Nat) (y : Nd), idxB (fun x => x.id == id) l = k ∧ k < l.length ∧ l[k]? = some y ∧ findN l id = (y, true)) ∨ (idxB (fun x => x.id == id) l = -1 ∧ findN l id = (Nd.zero, false)) := by
 unfold findN idxB
 by_cases h : l.findIdx (fun x => x.id == id) < l.length
 ·refine .inl ⟨l.findIdx (fun x => x.id == id), l[l.findIdx (fun x => x.id == id)], by rw [if_pos h], h, List.getElem?_eq_getElem h, ?_⟩
  rw [List.find?_eq_getElem?_findIdx, List.getElem?_eq_getElem h]
 ·refine .inr ⟨by rw [if_neg h], ?_⟩
  rw [List.find?_eq_getElem?_findIdx, List.getElem?_eq_none (by omega)]
def NbPost (r : Nd × Bool) (w : World) (e : Ending) (w' : World) : Prop := e = .returned (.tuple #[r.1.val, .bool r.2]) ∧ Ex w w'
set_option maxRecDepth 100000 in
set_option maxHeartbeats 2000000 in
theorem find_p (a : Option Addr) (n c : Nat) (l : List Nd) (id : Int) (w : World) (h : Sl 3 encN w a n l) (hn : n ≤ 1000000) :
  Calls Tryz.prog 64 #[.slice a n c, .int .i64 id] w (NbPost (findN l id) w) := by
 have HL := lH h.len
 have hs := lH h
 have k1 := Ex.new w (.cells #[.int .i64 id] 3)
 have B1 := Blk.new w [.int .i64 id] 3
 have k2 := k1.alloc (.cells #[.int .i64 0, .string ⟨#[]⟩, .int .u32 0] 56)
 have B2 := Blk.new (w.alloc (.cells #[.int .i64 id] 3)) [.int .i64 0, .string ⟨#[]⟩, .int .u32 0] 56
 have B1 := B1.nx (Ex.new _ (.cells #[.int .i64 0, .string ⟨#[]⟩, .int .u32 0] 56))
 obtain ⟨w1, hw1⟩ : ∃ w1, w1 = (w.alloc (.cells #[.int .i64 id] 3)).alloc (.cells #[.int .i64 0, .string ⟨#[]⟩, .int .u32 0] 56) := ⟨_, rfl⟩
 obtain ⟨g, hg⟩ : ∃ g, g = w.heap.size + 1 := ⟨_, rfl⟩
 obtain ⟨gi, hgi⟩ : ∃ gi, gi = w.heap.size := ⟨_, rfl⟩
 have B2 : Blk w1 g [.int .i64 0, .string ⟨#[]⟩, .int .u32 0] 56 := by rw [hw1, hg]; simpa using B2
 have B1 : Blk w1 gi [.int .i64 id] 3 := by rw [hw1, hgi]; exact B1
 rw [← hw1] at k2
 have hgn : w.heap.size ≤ g := by omega
 have eg : ∀ args w, (callFunc 106 args).run Tryz.prog w = .ok (.enter 106 args) w := enters_of Tryz.func106 (by kernel_rfl) rfl
 have HW1 := lH hw1
 have HG := lH hg
 have HGI := lH hgi
 have EG := lH eg
 clear h hw1 hg hgi k1 eg
 go_enter Tryz.func64, Tryz.ntmps64
 go_upto_region 1 with fail
 rw [← HG.out, ← HW1.out, ← HGI.out]
 go_wp2_with fail
 (with_reducible refine (idxf_n 106 #[.pointer (some ⟨gi, 0, none⟩)] (fun x => x.id == id) EG.out _ _ _ _ _ (hs.out.nx k2) hn (find1_p gi id w1 B1)).mono ?_)
 rintro e w3 ⟨rfl, k3⟩
 have B3 := B2.nx k3
 have q0 := B3.cell 0 _ rfl
 have q1 := B3.cell 1 _ rfl
 have q2 := B3.cell 2 _ rfl
 have z0 := B3.free 0
 have z1 := B3.free 1
 have z2 := B3.free 2
 have kk := k2.nx k3
 have KE : Hid (∀ v0 v1 v2, Ex w (((w3.setCell ⟨g, 0, none⟩ v0).setCell ⟨g, 1, none⟩ v1).setCell ⟨g, 2, none⟩ v2)) := lH (fun v0 v1 v2 => ((kk.setNew (p := ⟨g, 0, none⟩) _ hgn).setNew (p := ⟨g, 1, none⟩) _ hgn).setNew (p := ⟨g, 2, none⟩) _ hgn)
 have hgw := B3.lt
 rcases idxB_find l id with ⟨k, y, hi, hk, hy, hf⟩ | ⟨hi, hf⟩
 ·rw [hi]
  have HF := lH hf
  obtain ⟨x1, o1, y', ha, hx1, hy', hc1⟩ := (hs.out.nx kk).at (j := k) (by rw [← HL.out]; exact hk)
  obtain rfl : y = y' := Option.some.inj (hy.symm.trans hy')
  subst ha
  have e0 : w3.cell? ⟨x1, o1 + k * 3, none⟩ = some (.int .i64 y.id) := hc1 0 _ rfl
  have e1 : w3.cell? ⟨x1, o1 + k * 3 + 1, none⟩ = some (.string y.key) := hc1 1 _ rfl
  have e2 : w3.cell? ⟨x1, o1 + k * 3 + 1 + 1, none⟩ = some (.int .u32 y.word) := by simpa [Nat.add_assoc] using hc1 2 _ rfl
  have hkn : (k : Int) < (n : Int) := by have := HL.out; omega
  have hk0 : ¬ (k : Int) < 0 := by omega
  clear hi hf hy hy' hc1 B1 B2 B3 k2 k3 kk hk
  go_wp2_with fail
  refine bodyPost_ret (v := .tuple #[.agg #[.int .i64 y.id, .string y.key, .int .u32 y.word], .bool true]) (by simp [results, Tryz.results64, go_sem, *]) rfl ⟨by rw [HF.out]; rfl, KE.out _ _ _⟩
 ·rw [hi]
  have HF := lH hf
  clear hi hf B1 B2 B3 k2 k3 kk
  go_wp2_with fail
  refine bodyPost_ret (v := .tuple #[.agg #[.int .i64 0, .string ⟨#[]⟩, .int .u32 0], .bool false]) (by simp [results, Tryz.results64, go_sem, *]) rfl ⟨by rw [HF.out]; rfl, KE.out _ _ _⟩
theorem sameN_refl (a : Nat) {h : Int} (hh : h ≤ 16) : sameN a a h = true := by unfold sameN; rw [common_self]; simpa using hh
theorem sameN_symm {a b : Nat} {h : Int} (hs : sameN a b h = true) : sameN b a h = true := by unfold sameN at *; rw [commonN_comm]; exact hs
theorem sameN_trans {a b c : Nat} {h : Int} (ha : a < 4294967296) (hb : b < 4294967296) (hc : c < 4294967296) (h1 : sameN a b h = true) (h2 : sameN b c h = true) : sameN a c h = true := by
 unfold sameN at *
 have := common_min ha hb hc
 simp at *
 omega
theorem stepC_cases (h : Int) (C : List (List Nd)) (x : Nd) :
  ((∀ c ∈ C, sameN (headW c) x.word h = false) ∧ stepC h C x = C ++ [[x]]) ∨
  ∃ K c, C[K]? = some c ∧ sameN (headW c) x.word h = true ∧ stepC h C x = C.set K (c ++ [x]) := by
 have hle := idxC_le C x.word h
 by_cases hK : idxC C x.word h = C.length
 ·refine .inl ⟨fun c hc => ?_, ?_⟩
  ·have := (List.findIdx_eq_length.1 hK) c hc
   simpa using this
  ·unfold stepC padC
   rw [hK, if_pos rfl, List.getElem?_append_right (Nat.le_refl _)]
   simp
 ·refine .inr ⟨idxC C x.word h, C[idxC C x.word h]'(by omega), by simp, ?_, ?_⟩
  ·exact List.findIdx_getElem (p := fun c => sameN (headW c) x.word h) (w := by unfold idxC at *; omega)
  ·unfold stepC padC
   rw [if_neg hK]
   congr 2
   rw [List.getElem?_eq_getElem (by omega)]
   rfl
structure Cls (h : Int) (l : List Nd) (C : List (List Nd)) : Prop where
 all : ∀ y ∈ l, ∃ c ∈ C, y ∈ c
 mem : ∀ c ∈ C, 0 < c.length ∧ ∀ y ∈ c, y ∈ l ∧ sameN (headW c) y.word h = true
 heads : ∀ (i j : Nat) ci cj, C[i]? = some ci → C[j]? = some cj → sameN (headW ci) (headW cj) h = true → i = j
theorem headW_mem {c : List Nd} (h : 0 < c.length) : ∃ y ∈ c, headW c = y.word := by
 cases c with
 | nil => simp at h
 | cons y r => exact ⟨y, by simp, rfl⟩
theorem headW_snoc {c : List Nd} (x : Nd) (h : 0 < c.length) : headW (c ++ [x]) = headW c := by
 cases c with
 | nil => simp at h
 | cons y r => rfl
theorem Cls.step {h : Int} {l : List Nd} {C : List (List Nd)} {x : Nd} (hh : h ≤ 16) (H : Cls h l C) (hl : ∀ y ∈ l, y.word < 4294967296) (hx : x.word < 4294967296) : Cls h (l ++ [x]) (stepC h C x) := by
 have hw : ∀ c ∈ C, headW c < 4294967296 := fun c hc => by
  obtain ⟨y, hy, he⟩ := headW_mem (H.mem c hc).1
  rw [he]; exact hl y ((H.mem c hc).2 y hy).1
 rcases stepC_cases h C x with ⟨hno, he⟩ | ⟨K, c, hc, hs, he⟩
 ·rw [he]
  refine ⟨fun y hy => ?_, fun d hd => ?_, fun i j ci cj hi hj hs => ?_⟩
  ·rcases List.mem_append.1 hy with hy | hy
   ·obtain ⟨c, hc, hyc⟩ := H.all y hy
    exact ⟨c, List.mem_append_left _ hc, hyc⟩
   ·exact ⟨[x], by simp, hy⟩
  ·rcases List.mem_append.1 hd with hd | hd
   ·exact ⟨(H.mem d hd).1, fun y hy => ⟨List.mem_append_left _ ((H.mem d hd).2 y hy).1, ((H.mem d hd).2 y hy).2⟩⟩
   ·rw [List.mem_singleton.1 hd]
    refine ⟨by simp, fun y hy => ?_⟩
    rw [List.mem_singleton.1 hy]
    exact ⟨by simp, sameN_refl _ hh⟩
  ·have last : ∀ (i : Nat) ci, (C ++ [[x]])[i]? = some ci → (i < C.length ∧ C[i]? = some ci) ∨ (i = C.length ∧ ci = [x]) := by
    intro i ci hi
    rcases Nat.lt_or_ge i C.length with h | h
    ·rw [List.getElem?_append_left h] at hi; exact .inl ⟨h, hi⟩
    ·have := (List.getElem?_eq_some_iff.1 hi).1
     simp at this
     obtain rfl : i = C.length := by omega
     simp at hi
     exact .inr ⟨rfl, hi.symm⟩
   rcases last i ci hi with ⟨h1, h2⟩ | ⟨h1, h2⟩ <;> rcases last j cj hj with ⟨h3, h4⟩ | ⟨h3, h4⟩
   ·exact H.heads i j ci cj h2 h4 hs
   ·rw [h4] at hs
    have := hno ci (List.mem_of_getElem? h2)
    rw [show headW [x] = x.word from rfl, this] at hs
    cases hs
   ·rw [h2] at hs
    have := hno cj (List.mem_of_getElem? h4)
    have hs := sameN_symm hs
    rw [show headW [x] = x.word from rfl, this] at hs
    cases hs
   ·omega
 ·rw [he]
  have hcm := H.mem c (List.mem_of_getElem? hc)
  have hKl := (List.getElem?_eq_some_iff.1 hc).1
  refine ⟨fun y hy => ?_, fun d hd => ?_, fun i j ci cj hi hj hs => ?_⟩
  ·rcases List.mem_append.1 hy with hy | hy
   ·obtain ⟨d, hd, hyd⟩ := H.all y hy
    obtain ⟨j, hj⟩ := List.mem_iff_getElem?.1 hd
    by_cases hjK : j = K
    ·subst hjK
     obtain rfl : c = d := Option.some.inj (hc.symm.trans hj)
     exact ⟨c ++ [x], List.mem_iff_getElem?.2 ⟨j, by rw [List.getElem?_set_self hKl]⟩, List.mem_append_left _ hyd⟩
    ·exact ⟨d, List.mem_iff_getElem?.2 ⟨j, by rw [List.getElem?_set_ne (by omega)]; exact hj⟩, hyd⟩
   ·exact ⟨c ++ [x], List.mem_iff_getElem?.2 ⟨K, by rw [List.getElem?_set_self hKl]⟩, by rw [List.mem_singleton.1 hy]; simp⟩
  ·rcases List.mem_or_eq_of_mem_set hd with hd | rfl
   ·exact ⟨(H.mem d hd).1, fun y hy => ⟨List.mem_append_left _ ((H.mem d hd).2 y hy).1, ((H.mem d hd).2 y hy).2⟩⟩
   ·refine ⟨by simp, fun y hy => ?_⟩
    rw [headW_snoc x hcm.1]
    rcases List.mem_append.1 hy with hy | hy
    ·exact ⟨List.mem_append_left _ (hcm.2 y hy).1, (hcm.2 y hy).2⟩
    ·rw [List.mem_singleton.1 hy]; exact ⟨by simp, hs⟩
  ·have hd : ∀ (i : Nat) ci, (C.set K (c ++ [x]))[i]? = some ci → ∃ di, C[i]? = some di ∧ headW ci = headW di := by
    intro i ci hi
    by_cases hiK : i = K
    ·subst hiK
     rw [List.getElem?_set_self hKl] at hi
     cases hi
     exact ⟨c, hc, headW_snoc x hcm.1⟩
    ·rw [List.getElem?_set_ne (by omega)] at hi
     exact ⟨ci, hi, rfl⟩
   obtain ⟨di, h1, h2⟩ := hd i ci hi
   obtain ⟨dj, h3, h4⟩ := hd j cj hj
   rw [h2, h4] at hs
   exact H.heads i j di dj h1 h3 hs
theorem snoc_ind {α : Type} {P : List α → Prop} (h0 : P []) (h1 : ∀ l x, P l → P (l ++ [x])) (l : List α) : P l := by
 have : ∀ l : List α, P l.reverse := by
  intro l
  induction l with
  | nil => exact h0
  | cons x r ih => rw [List.reverse_cons]; exact h1 _ _ ih
 have := this l.reverse
 rwa [List.reverse_reverse] at this
theorem foldC_append (h : Int) (l : List Nd) (x : Nd) : foldC h (l ++ [x]) = stepC h (foldC h l) x := by unfold foldC; rw [List.foldl_append]; rfl
open Classical in
noncomputable def cntN (h : Int) : List Nd → Nat
 | [] => 0
 | x :: l => cntN h l + if ∃ y ∈ l, sameN y.word x.word h = true then 0 else 1
open Classical in
theorem foldC_cnt {h : Int} (hh : h ≤ 16) (l : List Nd) (hl : ∀ y ∈ l, y.word < 4294967296) : Cls h l (foldC h l) ∧ (foldC h l).length = cntN h l.reverse := by
 induction l using snoc_ind with
 | h0 => exact ⟨⟨by simp, by simp [foldC], by simp [foldC]⟩, rfl⟩
 | h1 l x ih =>
  have hl' : ∀ y ∈ l, y.word < 4294967296 := fun y hy => hl y (List.mem_append_left _ hy)
  have hx : x.word < 4294967296 := hl x (by simp)
  obtain ⟨H1, H3⟩ := ih hl'
  rw [foldC_append]
  refine ⟨H1.step hh hl' hx, ?_⟩
  rw [List.reverse_append, List.reverse_singleton, List.singleton_append]
  unfold cntN
  rw [← H3]
  generalize foldC h l = C at H1
  have hw1 : ∀ c ∈ C, headW c < 4294967296 := fun c hc => by
   obtain ⟨y, hy, he⟩ := headW_mem (H1.mem c hc).1
   rw [he]; exact hl' y ((H1.mem c hc).2 y hy).1
  rcases stepC_cases h C x with ⟨hno, he⟩ | ⟨K, d, hd, hs, he⟩
  ·rw [he, if_neg]
   ·simp
   ·rintro ⟨y, hy, h1⟩
    obtain ⟨c, hc, hyc⟩ := H1.all y (List.mem_reverse.1 hy)
    have := sameN_trans (hw1 c hc) (hl' y (List.mem_reverse.1 hy)) hx ((H1.mem c hc).2 y hyc).2 h1
    rw [hno c hc] at this
    cases this
  ·rw [he, if_pos]
   ·simp
   ·have hdC := List.mem_of_getElem? hd
    obtain ⟨y, hy, hye⟩ := headW_mem (H1.mem d hdC).1
    refine ⟨y, List.mem_reverse.2 ((H1.mem d hdC).2 y hy).1, ?_⟩
    rw [← hye]; exact hs
theorem classes_le (l : List Nd) (h : Int) : (classesN l h).length ≤ l.length := by
 by_cases h16 : 16 < h
 ·rw [classesN_big h16]; simp
 ·rw [classesN_fold h16]; exact foldC_length h l
def idxI (g : List Nd) (id : Int) : Nat := g.findIdx fun x => x.id == id
theorem idxI_of {g : List Nd} {id : Int} {k : Nat} {y : Nd} (hy : g[k]? = some y) (he : y.id = id) (hno : ∀ j z, j < k → g[j]? = some z → z.id ≠ id) : idxI g id = k := by
 have hk := (List.getElem?_eq_some_iff.1 hy).1
 have hv := (List.getElem?_eq_some_iff.1 hy).2
 rw [idxI, List.findIdx_eq hk]
 refine ⟨by rw [hv]; simpa using he, fun j hj => ?_⟩
 have := hno j _ hj (List.getElem?_eq_getElem (by omega))
 simpa using this
def thrG (l : List Nd) (id : Int) (h : Int) : List Nd := groupN (sortN l) h (findN l id).1.word
def throughN (l : List Nd) (id : Int) (h : Int) : List Nd × Nat × Bool :=
 if (findN l id).2 = true ∧ (checkN l == 0) = true ∧ lvlN h = true ∧ idxI (thrG l id h) id < (thrG l id h).length then (thrG l id h, idxI (thrG l id h) id, true) else ([], 0, false)
def leftN (g : List Nd) (i : Nat) : Int := if i = 0 then 0 else (g[i - 1]?.getD Nd.zero).id
def rightN (g : List Nd) (i : Nat) : Int := (g[i + 1]?.getD Nd.zero).id
def neighN (l : List Nd) (id : Int) (h : Int) : (Int × Int) × Bool :=
 if (throughN l id h).2.2 then ((leftN (throughN l id h).1 (throughN l id h).2.1, rightN (throughN l id h).1 (throughN l id h).2.1), true) else ((0, 0), false)
theorem Tryz.infoLk : (Tryz.prog.info? 69).map (fun i => (i.zero, i.size, i.bytes)) = some (some (.agg #[.int .i64 0, .int .i64 0]), 2, 16) := by kernel_rfl
theorem Tryz.infoLd : (Tryz.prog.info? 106).map (fun i => (i.zero, i.size, i.bytes)) = some (some (.agg #[.int .i64 0, .slice none 0 0]), 2, 32) := by kernel_rfl
abbrev Lkd := Int × List (Int × Int)
def rowN (S : List Nd) (m : Nat) (x : Nd) : Lkd := (x.id, (List.range m).map fun (h : Nat) => (neighN S x.id h).1)
def buildN (l : List Nd) (height : Int) : List Lkd × Int :=
 if (checkN l == 0) = false then ([], 1) else if lvlN height = false then ([], 2) else ((sortN l).map (rowN (sortN l) (height.toNat + 1)), 0)
abbrev OwnLk (base : Nat) (w : World) (v : Value) (qs : List (Int × Hdr)) (L : List Lkd) : Prop := OwnN encI 2 2 encS 106 69 base w v qs L
abbrev LkL (w : World) (a : Option Addr) (n : Nat) (L : List Lkd) : Prop := NL encI 2 2 encS w a n L
def LkPost (L : List Lkd) (e : Int) (w : World) (en : Ending) (w' : World) : Prop :=
 ∃ (v : Value) (qs : List (Int × Hdr)), en = .returned (.tuple #[v, .int .i64 e]) ∧ OwnLk w.heap.size w' v qs L ∧ Ex w w'
theorem OwnN.base {A β : Type} {encA : A → List Value} {s1 s2 : Nat} {encB : β → List Value} {e1 e2 : TypeId} {base base' : Nat} {w : World} {v : Value} {qs : List (A × Hdr)} {L : List (A × List β)}
  (h : OwnN encA s1 s2 encB e1 e2 base w v qs L) (hb : base' ≤ base) : OwnN encA s1 s2 encB e1 e2 base' w v qs L :=
 ⟨h.1.lower hb, h.2.1, fun j q c hq hc => ⟨(h.2.2.1 j q c hq hc).1, (h.2.2.1 j q c hq hc).2.base hb⟩, h.2.2.2⟩
def I64 (x : Int) : Prop := -9223372036854775808 ≤ x ∧ x ≤ 9223372036854775807
theorem flat_set1 {α : Type} {sz : Nat} {enc : α → List Value} (hsz : ∀ y, (enc y).length = sz) {c : Nat} (hc : c < sz) {y' : α} {v : Value} :
  ∀ (L : List α) (j : Nat) (y : α), L[j]? = some y → enc y' = (enc y).set c v → (L.set j y').flatMap enc = (L.flatMap enc).set (j * sz + c) v
 | [], j, y, h, _ => by simp at h
 | z :: r, 0, y, h, hv => by
  simp at h; subst h
  rw [List.set_cons_zero, List.flatMap_cons, List.flatMap_cons, hv, Nat.zero_mul, Nat.zero_add, List.set_append_left _ _ (by rw [hsz]; exact hc)]
 | z :: r, j + 1, y, h, hv => by
  rw [List.set_cons_succ, List.flatMap_cons, List.flatMap_cons, flat_set1 hsz hc r j y (by simpa using h) hv, List.set_append_right _ _ (by rw [hsz, Nat.succ_mul]; omega), hsz]
  congr 2
  rw [Nat.succ_mul]; omega
theorem own_set1 {α : Type} {sz : Nat} {enc : α → List Value} (hsz : ∀ y, (enc y).length = sz) {e : TypeId} {base : Nat} {w : World} {g n cap j c : Nat} {L : List α} {y : α} (h : OwnL sz enc e base w (.slice (some ⟨g, 0, none⟩) n cap) L)
  (hy : L[j]? = some y) (hc : c < sz) : w.cell? ⟨g, j * sz + c, none⟩ = (enc y)[c]? ∧ w.frozen? ⟨g, j * sz + c, none⟩ = false ∧
   ∀ (y' : α) (v : Value), enc y' = (enc y).set c v → OwnL sz enc e base (w.setCell ⟨g, j * sz + c, none⟩ v) (.slice (some ⟨g, 0, none⟩) n cap) (L.set j y') := by
 rcases h.2 with ⟨h1, _⟩ | ⟨g', cap', cur, e1, e2, e3, e4, e5, e6, e7⟩
 ·cases h1
 ·obtain ⟨rfl, hLn, rfl⟩ : g = g' ∧ n = L.length ∧ cap = cap' := by simpa using e1
  have hjl := (List.getElem?_eq_some_iff.1 hy).1
  have hlt : j * sz + c < L.length * sz := by
   have : (j + 1) * sz ≤ L.length * sz := Nat.mul_le_mul_right _ hjl
   rw [Nat.succ_mul] at this; omega
  refine ⟨?_, by simp [World.frozen?, e3], fun y' v hv => ⟨?_, .inr ⟨g, cap, _, by simp [hLn], e2, heap_set e3 _ v, by simpa using e4, e5, by simpa using e6, ?_⟩⟩⟩
  ·have h2 : (cur.toList.take (L.length * sz))[j * sz + c]? = (enc y)[c]? := by
    rw [e7]
    have hcy : c < (enc y).length := by rw [hsz]; exact hc
    rw [List.getElem?_eq_getElem hcy]
    exact flat_at hsz L j y hy c _ (List.getElem?_eq_getElem hcy)
   rw [List.getElem?_take, if_pos hlt] at h2
   simpa [World.cell?, e3] using h2
  ·rw [flatN_len hsz]
  ·rw [flat_set1 hsz hc L j y hy hv, ← e7, List.length_set]
   simp only [Array.toList_setIfInBounds, List.take_set]
def NOk (x : Nd) : Prop := I64 x.id ∧ x.word < 4294967296 ∧ x.key.size ≤ 65
theorem roster_ok {l : List Nd} (h : checkN l = 0) : ∀ x ∈ l, NOk x ∧ 1 ≤ x.id ∧ x.id ≤ 2147483647 ∧ x.key.size ≤ 64 ∧ x.word < 65536 := by
 intro x hx
 have hb : badN x = false := by
  cases hb : badN x with
  | false => rfl
  | true =>
   exfalso
   unfold checkN at h
   have : l.any badN = true := List.any_eq_true.2 ⟨x, hx, hb⟩
   rw [this] at h
   split at h <;> simp at h
 unfold badN validN at hb
 simp at hb
 obtain ⟨⟨⟨h1, h2⟩, h3⟩, h4⟩ := hb
 exact ⟨⟨⟨by omega, by omega⟩, by omega, by omega⟩, by omega, by omega, by omega, by omega⟩
def nums4 (x : Nr) : List Int := [x.1, x.2.1, x.2.2.1, x.2.2.2]
def numsP (p : Pr) : List Int := p.known ++ [p.left, p.right] ++ p.near.flatMap nums4
def ordN (N : List Nd) (l : List Int) (but : Int) : List Int := ((sortN N).filter fun x => !(x.id == but) && l.contains x.id).map Nd.id
def refsN (N : List Nd) (p : Pr) : List Int := if checkN N = 0 then ordN N (numsP p) p.id else []
def peerN (P : List Pr) (id : Int) : Pr := (P.find? fun p => p.id == id).getD ⟨id, 0, 0, [], []⟩
def normalN (N : List Nd) (P : List Pr) : List Pr := if checkN N = 0 then (sortN N).map fun x => peerN P x.id else []
section
variable {N : List Nd} {P : List Pr}
end
def PeRel (P : List Pr) (id : Int) (n : Nat) (w : World) (i : Value) (wr : World) : Prop :=
 ∃ k : Nat, k ≤ n ∧ i = .int .i64 k ∧ Ex w wr ∧ ∀ j z, j < k → P[j]? = some z → z.id ≠ id
theorem peerN_at {P : List Pr} {id : Int} {k : Nat} {y : Pr} (hy : P[k]? = some y) (he : y.id = id) (hno : ∀ j z, j < k → P[j]? = some z → z.id ≠ id) : peerN P id = y := by
 unfold peerN
 have hk := (List.getElem?_eq_some_iff.1 hy)
 have hkl := hk.1
 have : P.find? (fun p => p.id == id) = some y := by
  rw [List.find?_eq_some_iff_getElem]
  refine ⟨by simpa using he, k, hk.1, hk.2, fun j hj => ?_⟩
  have := hno j _ hj (List.getElem?_eq_getElem (by omega))
  simpa using this
 rw [this]
 rfl
theorem peerN_none {P : List Pr} {id : Int} (hno : ∀ j z, j < P.length → P[j]? = some z → z.id ≠ id) : peerN P id = ⟨id, 0, 0, [], []⟩ := by
 unfold peerN
 have : P.find? (fun p => p.id == id) = none := by
  rw [List.find?_eq_none]
  intro x hx
  obtain ⟨j, hj⟩ := List.mem_iff_getElem?.1 hx
  simpa using hno j x (List.getElem?_eq_some_iff.1 hj).1 hj
 rw [this]
 rfl
def SmRel (L M : List Lkd) (n : Nat) (w : World) (i : Value) (wr : World) : Prop := ∃ k : Nat, k ≤ n ∧ i = .int .i64 k ∧ Ex w wr ∧ L.take k = M.take k
def SvRel (r s : List (Int × Int)) (n : Nat) (w : World) (i : Value) (wr : World) : Prop := ∃ k : Nat, k ≤ n ∧ i = .int .i64 k ∧ Ex w wr ∧ r.take k = s.take k
theorem take_snoc_eq {α : Type} {L M : List α} {k : Nat} {c d : α} (h : L.take k = M.take k) (hc : L[k]? = some c) (hd : M[k]? = some d) (he : c = d) : L.take (k + 1) = M.take (k + 1) := by
 rw [List.take_add_one, List.take_add_one, h, hc, hd, he]
theorem ne_at {α : Type} {L M : List α} {k : Nat} {c d : α} (hc : L[k]? = some c) (hd : M[k]? = some d) (he : c ≠ d) : ¬ L = M := by
 intro h
 rw [h, hd] at hc
 exact he (Option.some.inj hc).symm
end Go.Proofs.YtlgdjigocopglaaGreatDoor
