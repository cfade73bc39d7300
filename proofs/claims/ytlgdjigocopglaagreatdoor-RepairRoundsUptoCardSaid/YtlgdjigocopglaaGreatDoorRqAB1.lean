/- Shared texts. -/
import Derived.Test.YtlgdjigocopglaaGreatDoorRqAll19
import Derived.Test.YtlgdjigocopglaaGreatDoorRqABCDF1
import Derived.Test.YtlgdjigocopglaaGreatDoorRqABDEF1
import Derived.Test.YtlgdjigocopglaaGreatDoorRqABF1
set_option linter.unusedSimpArgs false
set_option linter.unusedVariables false

namespace Go.Proofs.YtlgdjigocopglaaGreatDoor
open Go.RowKit
theorem run_copy_rowN {P : Program} (w : World) (dT sT ty elem : TypeId) (sz g o dLen dCap n : Nat) (a : Addr) (sLen sCap : Nat) (cur : Array Value) (t : TypeId) (cs : List Value)
  (hu : P.underlying dT = some (.slice elem)) (hs : (P.info? elem).map (·.size) = some sz)
  (hg : w.heap[g]? = some (.cells cur t (0, 0))) (hn : n = Nat.min sLen dLen) (hcs : cs.length = n * sz)
  (hsrc : ∀ j v, cs[j]? = some v → w.cell? (a.add j) = some v) (hfit : o + cs.length ≤ cur.size) (h1 : ∀ v ∈ cs, v.oneCell' = true) :
  (Builtin.copy_ #[dT, sT] ty #[.slice (some ⟨g, o, none⟩) dLen dCap, .slice (some a) sLen sCap]).run P w =
   .ok (goInt n) (w.setRow g (cur.toList.take o ++ cs ++ cur.toList.drop (o + cs.length)).toArray) := by
 have hl := run_loadCells_list (P := P) w a cs hsrc
 have hst := run_storeCells_at P g o t cs 0 cur w hg (by simpa using hfit) h1
 cases hq : P.info? elem with
 | none => simp [hq] at hs
 | some i =>
  have hi : i.size = sz := by simpa [hq] using hs
  rw [hcs] at hl
  simp [Builtin.copy_, run_underlying hu, Builtin.lenOf, Builtin.firstCells, sizeOf, typeInfo, hq, hi, ← hn, hl, hst]
theorem run_copy_none0 {P : Program} (w : World) (dT sT ty elem : TypeId) (sz : Nat) (d a : Option Addr) (dLen dCap sLen sCap : Nat) (hu : P.underlying dT = some (.slice elem)) (hs : (P.info? elem).map (·.size) = some sz)
  (hn : Nat.min sLen dLen = 0) : (Builtin.copy_ #[dT, sT] ty #[.slice d dLen dCap, .slice a sLen sCap]).run P w = .ok (goInt 0) w := by
 cases hq : P.info? elem with
 | none => simp [hq] at hs
 | some i =>
  cases d <;> cases a <;> simp [Builtin.copy_, run_underlying hu, Builtin.lenOf, Builtin.firstCells, sizeOf, typeInfo, hq, hn, storeCells, loadCells, loadCellsFrom]
section
variable {α : Type} {sz : Nat} {enc : α → List Value}
theorem flatN_drop (hsz : ∀ y, (enc y).length = sz) : ∀ (l : List α) (m : Nat), (l.drop m).flatMap enc = (l.flatMap enc).drop (m * sz)
 | [], m => by simp
 | y :: r, 0 => by simp
 | y :: r, m + 1 => by
  rw [List.drop_succ_cons, List.flatMap_cons, flatN_drop hsz r m, Nat.succ_mul, Nat.add_comm (m * sz), List.drop_append, hsz,
   List.drop_of_length_le (l := enc y) (by rw [hsz]; omega), Nat.add_sub_cancel_left, List.nil_append]
theorem wp_copy_shift {P : Program} {o : Oper} {a : Act} {K : Act → World → Prop} {Q : Exit → Act → World → Prop} (w : World) (d s : Operand) (t : TypeId)
  (ho : o.op = .call { callee := .builtin .copy, args := #[d, s], argTypes := #[t, t] }) (base : Nat) (e : TypeId) (hu : P.underlying t = some (.slice e)) (hi : (P.info? e).map (·.size) = some sz)
  (hsz : ∀ y, (enc y).length = sz) (h1 : ∀ y, ∀ u ∈ enc y, u.oneCell' = true)
  (g n cap m : Nat) (L : List α) (hown : OwnL sz enc e base w (.slice (some ⟨g, 0, none⟩) (n + 1) cap) L) (hm : m ≤ n) (dp sp : Option Addr) (cd cs : Nat)
  (hd : a.eval d = .slice dp (n - m) cd) (hs : a.eval s = .slice sp (n + 1 - m) cs) (hp : m < n → dp = some ⟨g, (m + 1) * sz, none⟩ ∧ sp = some ⟨g, m * sz, none⟩)
  (h : ∀ w', OwnL sz enc e base w' (.slice (some ⟨g, 0, none⟩) (n + 1) cap) (L.take (m + 1) ++ (L.drop m).take (n - m)) → Chg (· ≠ g) w w' → w'.heap.size = w.heap.size → K (a.put o.dst (goInt (n - m : Nat))) w') : o.wp P a w K Q := by
 have hL : L.length = n + 1 := by
  rcases hown.2 with ⟨h1, _⟩ | ⟨g', cap', cur, e1, _⟩
  ·cases h1
  ·have e2 : g = g' ∧ n + 1 = L.length ∧ cap = cap' := by simpa using e1
   exact e2.2.1.symm
 rcases Nat.lt_or_ge m n with hlt | hge
 ·obtain ⟨rfl, rfl⟩ := hp hlt
  rcases hown.2 with ⟨h1', _⟩ | ⟨g', cap', cur, e1, e2, e3, e4, e5, e6, e7⟩
  ·cases h1'
  ·obtain ⟨rfl, hLn, rfl⟩ : g = g' ∧ n + 1 = L.length ∧ cap = cap' := by simpa using e1
   rw [← hLn] at e4 e7
   have hfl : (((L.drop m).take (n - m)).flatMap enc).length = (n - m) * sz := by rw [flatN_len hsz, List.length_take, List.length_drop]; congr 1; omega
   have hmul : (m + 1) * sz + (n - m) * sz = (n + 1) * sz := by rw [← Nat.add_mul]; congr 1; omega
   have hle : (n + 1) * sz ≤ cap * sz := Nat.mul_le_mul_right _ (by omega)
   have hrun := run_copy_rowN (P := P) w t t o.type e sz g ((m + 1) * sz) (n - m) cd (n - m) ⟨g, m * sz, none⟩ (n + 1 - m) cs cur e (((L.drop m).take (n - m)).flatMap enc) hu hi e3
    (by show n - m = min _ _; omega) hfl
    (fun j v hj => by
     rw [Addr.add_lit, World.cell?, e3]
     show cur[m * sz + j]? = some v
     have hjl := (List.getElem?_eq_some_iff.1 hj).1
     rw [hfl] at hjl
     rw [flatN_take hsz, flatN_drop hsz, List.getElem?_take, if_pos hjl, List.getElem?_drop, ← e7, List.getElem?_take] at hj
     split at hj
     ·simpa using hj
     ·cases hj)
    (by rw [hfl, hmul, e6]; exact hle) (fun v hv => by obtain ⟨y, _, hy⟩ := List.mem_flatMap.1 hv; exact h1 y v hy)
   unfold Oper.wp execOp
   simp only [ho, resolve, invoke, builtin, Sem.run_bind, Sem.run_pure, Result.andThen_ok, List.map_toArray, List.map_cons, List.map_nil, hd, hs, hrun]
   refine h _ ⟨?_, .inr ⟨g, cap, _, ?_, e2, setRow_heap w g cur _ e _ e3, ?_, e5, ?_, ?_⟩⟩ ⟨rfl, rfl, rfl, by simp [World.setRow], fun k hk => setRow_other w g k _ hk⟩ (by simp [World.setRow])
   ·rw [flatN_len hsz]
   ·congr 1
    rw [List.length_append, List.length_take, List.length_take, List.length_drop]; omega
   ·rw [List.length_append, List.length_take, List.length_take, List.length_drop]; omega
   ·simp only [List.size_toArray, List.length_append, List.length_take, List.length_drop, Array.length_toList, hfl]; omega
   ·rw [List.length_append, List.length_take, List.length_take, List.length_drop, List.flatMap_append, flatN_take hsz L, ← e7]
    rw [List.take_take, show (min (m + 1) L.length + min (n - m) (L.length - m)) = n + 1 by omega, show min ((m + 1) * sz) ((n + 1) * sz) = (m + 1) * sz from Nat.min_eq_left (Nat.mul_le_mul_right _ (by omega))]
    show (_ ++ _ ++ _ : List Value).take _ = _
    rw [List.append_assoc]
    have hA : (cur.toList.take ((m + 1) * sz)).length = (m + 1) * sz := by rw [List.length_take, Array.length_toList, e6]; exact Nat.min_eq_left (by omega)
    rw [List.take_append, hA, List.take_of_length_le (by omega), ← hmul, Nat.add_sub_cancel_left, List.take_append, hfl, Nat.sub_self, List.take_of_length_le (l := List.flatMap enc _) (by rw [hfl]; exact Nat.le_refl _), List.take_zero, List.append_nil]
 ·obtain rfl : m = n := by omega
  have hrun := run_copy_none0 (P := P) w t t o.type e sz dp sp (m - m) cd (m + 1 - m) cs hu hi (by show min _ _ = 0; omega)
  unfold Oper.wp execOp
  simp only [ho, resolve, invoke, builtin, Sem.run_bind, Sem.run_pure, Result.andThen_ok, List.map_toArray, List.map_cons, List.map_nil, hd, hs, hrun]
  have := h w (by rw [Nat.sub_self, List.take_zero, List.append_nil, List.take_of_length_le (by omega)]; exact hown) (Chg.refl _ _) rfl
  rw [Nat.sub_self] at this
  exact this
end
theorem common_unique {a b c : Nat} (ha : a < 4294967296) (hb : b < 4294967296) (hc : c ≤ 16) (h1 : ∀ i, i < c → a.testBit i = b.testBit i) (h2 : c < 16 → a.testBit c ≠ b.testBit c) : c = commonN a b := by
 rcases Nat.lt_trichotomy c (commonN a b) with h | h | h
 ·exact absurd (common_lt ha hb h) (h2 (by have := commonN_le a b; omega))
 ·exact h
 ·exact absurd (h1 _ h) (common_at ha hb (by omega))
set_option maxHeartbeats 1000000 in
theorem bit_r (a : Nat) (i : Int) (w : World) (ha : a < 4294967296) (hi1 : -9223372036854775808 ≤ i) (hi2 : i ≤ 9223372036854775807) :
  Calls Tryz.prog 84 #[.int .u32 a, .int .i64 i] w fun e w' => e = .returned (.int .i64 (bitN a i)) ∧ w = w' := by
 by_cases hi : i < 0 ∨ 16 ≤ i
 ·have hz := lH (bit_zero a i hi)
  rcases Int.lt_or_le i 0 with h | h
  ·have d1 : decide (i < 0) = true := by simpa using h
   clear hi
   go_enter Tryz.func84, Tryz.ntmps84
   go_wp2
   go_ret
   exact ⟨by rw [hz.out]; rfl, rfl⟩
  ·have d1 : decide (i < 0) = false := by simpa using h
   have d2 : decide (16 ≤ i) = true := by simp; omega
   clear hi
   go_enter Tryz.func84, Tryz.ntmps84
   go_wp2
   go_ret
   exact ⟨by rw [hz.out]; rfl, rfl⟩
 ·have hk := lH (bit_key a i ha (by omega) (by omega))
  have d1 : decide (i < 0) = false := by simp; omega
  have d2 : decide (16 ≤ i) = false := by simp; omega
  have e1 : 0 ≤ i := by omega
  have e2 : i < 16 := by omega
  clear hi
  go_enter Tryz.func84, Tryz.ntmps84
  go_wp2
  go_ret
  exact ⟨by rw [← hk.out]; rfl, rfl⟩
theorem bitN_nat (a k : Nat) : bitN a (k : Int) = if 16 ≤ k then 0 else a / 2 ^ k % 2 := by
 unfold bitN
 by_cases h : 16 ≤ k
 ·rw [if_pos (by omega), if_pos h]
 ·rw [if_neg (by omega), if_neg h]; simp
set_option maxHeartbeats 1000000 in
theorem common_r (a b : Nat) (w : World) (ha : a < 4294967296) (hb : b < 4294967296) :
  Calls Tryz.prog 165 #[.int .u32 a, .int .u32 b] w fun e w' => e = .returned (.int .i64 (commonN a b)) ∧ w = w' := by
 go_enter Tryz.func165, Tryz.ntmps165
 go_wp2
 go_loop [5] (fun i => ∃ k : Nat, k ≤ 16 ∧ i = .int .i64 k ∧ ∀ i, i < k → a.testBit i = b.testBit i) (fun i => 16 - (intOf i).toNat)
 case atStart => exact ⟨0, by omega, rfl, by omega⟩
 case round =>
  obtain ⟨k, hk, rfl, hbits⟩ := hrel
  have Hb := lH hbits
  clear hbits
  by_cases hlt : k < 16
  ·by_cases heq : a.testBit k = b.testBit k
   ·have H2 : Hid (bitN a (k : Int) = bitN b (k : Int)) := by
     show bitN a (k : Int) = bitN b (k : Int)
     rw [bitN_nat, bitN_nat, if_neg (by omega), if_neg (by omega)]
     exact (bit_eq_iff a b k).1 heq
    have Heq := lH heq
    clear heq
    go_wp2_with fail
    refine (bit_r _ _ _ ha (by omega) (by omega)).mono ?_
    rintro e w1 ⟨rfl, rfl⟩
    go_wp2_with fail
    refine (bit_r _ _ _ hb (by omega) (by omega)).mono ?_
    rintro e w1 ⟨rfl, rfl⟩
    rw [H2.out]
    go_wp2_with fail
    go_round
    case rel => exact ⟨k + 1, by omega, by go_num, fun i hi => by
     by_cases h : i = k
     ·subst h; exact Heq.out
     ·exact Hb.out i (by omega)⟩
    case measure => simp [intOf]; omega
   ·have H2 : ((bitN a (k : Int) : Int) == (bitN b (k : Int) : Int)) = false := by
     rw [bitN_nat, bitN_nat, if_neg (by omega), if_neg (by omega)]
     have hne : ¬ a / 2 ^ k % 2 = b / 2 ^ k % 2 := fun h => heq ((bit_eq_iff a b k).2 h)
     generalize a / 2 ^ k % 2 = x at *
     generalize b / 2 ^ k % 2 = y at *
     exact beq_eq_false_iff_ne.2 (by omega)
    have HC : Hid (commonN a b = k) := (common_unique ha hb (by omega) Hb.out (fun _ => heq)).symm
    clear heq
    go_wp2_with fail
    refine (bit_r _ _ _ ha (by omega) (by omega)).mono ?_
    rintro e w1 ⟨rfl, rfl⟩
    go_wp2_with fail
    refine (bit_r _ _ _ hb (by omega) (by omega)).mono ?_
    rintro e w1 ⟨rfl, rfl⟩
    go_wp2_with fail
    go_ret
    exact ⟨by rw [HC.out]; rfl, rfl⟩
  ·have HC : Hid (commonN a b = k) := (common_unique ha hb (by omega) Hb.out (fun h => absurd h (by omega))).symm
   have d1 : decide ((k : Int) < 16) = false := by simp; omega
   go_wp2_with fail
   go_ret
   exact ⟨by rw [HC.out]; rfl, rfl⟩
set_option maxHeartbeats 1000000 in
theorem same_r (a b : Nat) (h : Int) (w : World) (ha : a < 4294967296) (hb : b < 4294967296) :
  Calls Tryz.prog 162 #[.int .u32 a, .int .u32 b, .int .i64 h] w fun e w' => e = .returned (.bool (sameN a b h)) ∧ w = w' := by
 go_enter Tryz.func162, Tryz.ntmps162
 go_wp2_with fail
 refine (common_r _ _ _ ha hb).mono ?_
 rintro e w1 ⟨rfl, rfl⟩
 go_wp2_with fail
 go_ret
 exact ⟨rfl, rfl⟩
set_option maxHeartbeats 1000000 in
theorem group_r {S : Nat → Prop} (a : Option Addr) (n cap : Nat) (l : List Nd) (h : Int) (v : Nat) (w : World) (hr : Rd 3 encN S w a n l) (hS : ∀ k, S k → k < w.heap.size) (hn : n ≤ 1000)
  (hw : ∀ x ∈ l, x.word < 4294967296) (hv : v < 4294967296) :
  Calls Tryz.prog 156 #[.slice a n cap, .int .i64 h, .int .u32 v] w (NodesPost (groupN l h v) w) := by
 have hlen := hr.1
 have HL := lH hlen
 have HW := lH hw
 clear hlen hw
 go_enter Tryz.func156, Tryz.ntmps156
 go_wp2
 go_loopw [7, 8] (fun o i wr => GroupRel l h v w o i wr) (fun _ i _ => n - (intOf i).toNat)
 case atStart => exact ⟨0, by omega, rfl, OwnL.nil _ _ _ _ _, Chg.refl _ _⟩
 case round =>
  obtain ⟨k, hk, rfl, hown, hc⟩ := hrel
  obtain ⟨wo, rfl⟩ : ∃ wo : World, wo = wr := ⟨_, rfl⟩
  have hwo := hr.chg hc hS
  have hsz := hc.size
  have hgl := groupN_length (l.take k) h v
  rw [List.length_take] at hgl
  have hkl := HL.out
  by_cases hlt' : k < n
  ·by_cases h16 : h ≤ 16
   ·obtain ⟨x, o, y, rfl, hx, hy, hcell⟩ := hwo.at hlt'
    have e0 : wo.cell? ⟨x, o + k * 3, none⟩ = some (.int .i64 y.id) := hcell 0 _ rfl
    have e1 : wo.cell? ⟨x, o + k * 3 + 1, none⟩ = some (.string y.key) := hcell 1 _ rfl
    have e2 : wo.cell? ⟨x, o + k * 3 + 2, none⟩ = some (.int .u32 y.word) := hcell 2 _ rfl
    have e3 : wo.cell? ⟨x, o + k * 3 + 1 + 1, none⟩ = some (.int .u32 y.word) := by simpa [Nat.add_assoc] using hcell 2 _ rfl
    have hyw := HW.out y (List.mem_of_getElem? hy)
    have Hy := lH hy
    clear hy hcell hr hwo hkl
    by_cases hs : sameN y.word v h = true
    ·go_wp2_with (first
      | (go_at_call 162; refine (same_r _ _ _ _ hyw hv).mono ?_; rintro e w1 ⟨rfl, rfl⟩)
      | (at_builtin; go_loud (refine wpList_append_lit (enc := encN) wo rfl _ _ 23 rfl w.heap.size 56 (.agg #[.int .i64 0, .string ByteArray.empty, .int .u32 0]) 3 32 Tryz.underlying23 Tryz.infoN rfl (by omega) (by omega) _ _ hown rfl y _ rfl rfl (by simp [encN, Value.oneCell']) _ (by simp) rfl (by omega) (by omega) _ ?_); intro v' w3 hown3 _ hch3 hz3))
     go_roundw
     case rel => exact ⟨k + 1, by have := HL.out; omega, by go_num, by rw [groupN_snoc l h v k y Hy.out, if_pos hs]; exact hown3, hc.then hch3 (fun _ h => h)⟩
     case measure => simp [intOf]; omega
    ·have hs : sameN y.word v h = false := by simpa using hs
     go_wp2_with (go_at_call 162; refine (same_r _ _ _ _ hyw hv).mono ?_; rintro e w1 ⟨rfl, rfl⟩)
     go_roundw
     case rel => exact ⟨k + 1, by have := HL.out; omega, by go_num, by rw [groupN_snoc l h v k y Hy.out, if_neg (by simp [hs])]; exact hown, hc⟩
     case measure => simp [intOf]; omega
   ·have hnone : ∀ l' : List Nd, groupN l' h v = [] := fun l' => by
     unfold groupN
     rw [List.filter_eq_nil_iff]
     intro x _
     have := commonN_le x.word v
     unfold sameN
     simp; omega
    have d1 : decide (h ≤ 16) = false := by simpa using h16
    rw [hnone] at hown
    obtain ⟨a', cap', rfl, hrd, _⟩ := hown.rd (fun _ => rfl)
    have HN := lH (hnone l)
    clear hown hr hwo hnone
    go_wp2
    go_ret
    exact ⟨a', _, cap', rfl, by rw [HN.out]; exact hrd, hc⟩
  ·obtain rfl : k = n := by omega
   rw [List.take_of_length_le (by omega)] at hown
   obtain ⟨a', cap', rfl, hrd, _⟩ := hown.rd (fun _ => rfl)
   clear hown hr hwo
   go_wp2
   go_ret
   exact ⟨a', _, cap', rfl, hrd, hc⟩
theorem sortN_snoc (l : List Nd) (k : Nat) (y : Nd) (hy : l[k]? = some y) : sortN (l.take (k + 1)) = insN (sortN (l.take k)) y := by
 unfold sortN
 rw [take_snocN l k y hy, List.foldl_append]
 rfl
theorem shift_set (out : List Nd) (y : Nd) (j : Nat) (hj : j ≤ out.length) (L7 : List Nd) (hL : L7 = out ++ [(⟨0, ByteArray.empty, 0⟩ : Nd)]) :
  (L7.take (j + 1) ++ (L7.drop j).take (out.length - j)).set j y = L7.take j ++ y :: out.drop j := by
 have hl : L7.length = out.length + 1 := by rw [hL]; simp
 have h1 : (L7.drop j).take (out.length - j) = out.drop j := by
  rw [hL, List.drop_append_of_le_length hj, List.take_append_of_le_length (by simp), List.take_of_length_le (by simp)]
 have h2 : L7.take (j + 1) = L7.take j ++ [L7[j]'(by omega)] := by rw [List.take_succ_eq_append_getElem (by omega)]
 rw [h1, h2, List.append_assoc, List.set_append_right _ _ (by simp; omega)]
 congr 1
 have : j - (L7.take j).length = 0 := by simp; omega
 rw [this]
 rfl
def SoRel (l : List Nd) (n : Nat) (w : World) (o i : Value) (wr : World) : Prop :=
 ∃ k : Nat, k ≤ n ∧ i = .int .i64 k ∧ OwnL 3 encN 56 w.heap.size wr o (sortN (l.take k)) ∧ Ex w wr
def AtRel (out : List Nd) (x : Nd) (w : World) (j : Value) (wr : World) : Prop :=
 ∃ k : Nat, k ≤ out.length ∧ j = .int .i64 k ∧ atN out x out.length = atN out x k ∧ Ex w wr
set_option maxRecDepth 100000 in
set_option maxHeartbeats 4000000 in
theorem sort_r (a : Option Addr) (n cp : Nat) (l : List Nd) (w : World) (h : Sl 3 encN w a n l) (hn : n ≤ 1000) :
  Calls Tryz.prog 120 #[.slice a n cp] w (NodesPost (sortN l) w) := by
 have HL := lH h.len
 have hs := lH h
 clear h
 go_enter Tryz.func120, Tryz.ntmps120
 go_wp2_with fail
 go_loopw [3, 4] (fun o i wr => SoRel l n w o i wr) (fun _ i _ => n - (intOf i).toNat)
 case atStart => exact ⟨0, by omega, rfl, OwnL.nil _ _ _ _ _, Ex.refl _⟩
 case round =>
  obtain ⟨k, hk, rfl, own, kw⟩ := hrel
  obtain ⟨wo, rfl⟩ : ∃ wo : World, wo = wr := ⟨_, rfl⟩
  by_cases hlt : k < n
  ·obtain ⟨x1, o1, y, rfl, hx1, hy, hc1⟩ := (hs.out.nx kw).at hlt
   have e0 : wo.cell? ⟨x1, o1 + k * 3, none⟩ = some (.int .i64 y.id) := hc1 0 _ rfl
   have e1 : wo.cell? ⟨x1, o1 + k * 3 + 1, none⟩ = some (.string y.key) := hc1 1 _ rfl
   have e2 : wo.cell? ⟨x1, o1 + k * 3 + 1 + 1, none⟩ = some (.int .u32 y.word) := by simpa [Nat.add_assoc] using hc1 2 _ rfl
   have FSn := lH (sortN_snoc l k y hy)
   have hFL : (sortN (l.take k)).length = k := by rw [sortN_length, List.length_take, HL.out]; omega
   generalize sortN (l.take k) = out at own FSn hFL
   obtain ⟨a3, cap3, rfl, r3, c3, m3, nil3⟩ := own.slf (fun _ => rfl)
   have hol : out.length ≤ 1000 := by omega
   have HY := lH hy
   have HFL := lH hFL
   have OWN := lH own
   have NIL := lH nil3
   have E0 := lH e0
   have E1 := lH e1
   have E2 := lH e2
   clear own hc1 hy e0 e1 e2 nil3 hFL
   go_wp2_with fail
   go_loopw [5] (fun j wr => AtRel out y wo j wr) (fun j _ => (intOf j).toNat)
   case atStart => exact ⟨out.length, Nat.le_refl _, rfl, rfl, Ex.refl _⟩
   case round =>
    obtain ⟨j, hj, rfl, hat, ki⟩ := hrel
    have HAT := lH hat
    obtain ⟨wi, rfl⟩ : ∃ wi : World, wi = wr := ⟨_, rfl⟩
    clear hat
    have hz0 := ki.size
    by_cases hj0 : 0 < j
    ·obtain ⟨x2, o2, z, rfl, hx2, hzz, hc2⟩ := ((r3.sl).nx ki).at (j := j - 1) (by omega)
     have f0 : wi.cell? ⟨x2, o2 + (j - 1) * 3, none⟩ = some (.int .i64 z.id) := hc2 0 _ rfl
     have f1 : wi.cell? ⟨x2, o2 + (j - 1) * 3 + 1, none⟩ = some (.string z.key) := hc2 1 _ rfl
     have g0 := Chg.cellv ki E0.out hx1
     have g1 := Chg.cellv ki E1.out hx1
     have hj1 : (j : Int) - 1 = ((j - 1 : Nat) : Int) := by omega
     have ZZ := lH hzz
     have STOP : gtN z y = false → atN out y out.length = j := fun h => by
      rw [HAT.out]
      obtain ⟨m, rfl⟩ : ∃ m, j = m + 1 := ⟨j - 1, by omega⟩
      unfold atN
      rw [show m = m + 1 - 1 from rfl, ZZ.out]
      simp [h]
     have GOON : gtN z y = true → atN out y out.length = atN out y (j - 1) := fun h => by
      rw [HAT.out]
      obtain ⟨m, rfl⟩ : ∃ m, j = m + 1 := ⟨j - 1, by omega⟩
      conv => lhs; unfold atN
      rw [show out[m]? = some z from ZZ.out]
      simp [h]
     have GT : gtN z y = (!(Op.bytesLess z.key.toList y.key.toList || z.key.toList == y.key.toList) || (z.key.toList == y.key.toList && decide (y.id < z.id))) := rfl
     clear hc2 hzz
     cases hb : Op.bytesLess z.key.toList y.key.toList with
     | true =>
      have he : (z.key.toList == y.key.toList) = false := by
       cases he : (z.key.toList == y.key.toList) with
       | false => rfl
       | true => rw [eq_of_beq he, bytesLess_irrefl] at hb; cases hb
      have HAT' := lH (STOP (by rw [GT, hb, he]; rfl))
      clear STOP GOON GT
      go_wp2_with fail
      go_quiet (fail)
      clear f0 f1 g0 g1 hb he
      have hz : w.heap.size ≤ wi.heap.size := Nat.le_trans kw.size ki.size
      go_upto_region 9 with (at_builtin; (refine wpList_append_lit (enc := encN) _ rfl _ _ 23 rfl w.heap.size 56 (.agg #[.int .i64 0, .string ByteArray.empty, .int .u32 0]) 3 32 Tryz.underlying23 Tryz.infoN rfl (by omega) (by omega) _ _ (OWN.out.nx (ki.drewN _)) rfl (⟨0, ByteArray.empty, 0⟩ : Nd) _ rfl rfl (by simp [encN, Value.oneCell']) _ (by simp) rfl (by omega) (by exact hz) _ ?_); intro v7 w7 own7 _ ch1 _)
      have k7 : Ex w w7 := Chg.trans (kw.nx (ki.drewN _)) ch1
      obtain ⟨L7, hL7⟩ : ∃ L7, L7 = out ++ [(⟨0, ByteArray.empty, 0⟩ : Nd)] := ⟨_, rfl⟩
      rw [← hL7] at own7
      have hl7 : L7.length = out.length + 1 := by rw [hL7]; simp
      obtain ⟨A7, cap7, rfl, _, c7, m7, some7⟩ := own7.rd (fun _ => rfl)
      obtain ⟨g7, rfl, hg7⟩ := some7 (by intro h0; rw [h0] at hl7; simp at hl7)
      rw [hl7] at own7 c7 ⊢
      have STEP : Hid (insN out y = L7.take j ++ y :: out.drop j) := lH (by unfold insN; rw [HAT'.out, hL7, List.take_append_of_le_length hj])
      have SH : Hid ((L7.take (j + 1) ++ (L7.drop j).take (out.length - j)).set j y = L7.take j ++ y :: out.drop j) := lH (shift_set out y j hj L7 hL7)
      have hcj : (j : Int) + 1 ≤ (cap7 : Int) := by omega
      have hcj2 : j + 1 ≤ cap7 := by omega
      have hjo : (j : Int) ≤ (out.length : Int) := by omega
      have jw : IntKind.i64.wrap ((j : Int) + 1) = (j : Int) + 1 := IntWalk.i64_in _ (by omega)
      have j0' : (0 : Int) ≤ (j : Int) + 1 := by omega
      have jt : ((j : Int) + 1).toNat = j + 1 := by omega
      have jc : ¬ cap7 = j := by omega
      have hjo2 : (j : Int) ≤ (out.length : Int) + 1 := by omega
      clear hL7 hl7 some7 ch1 hz ki HAT'
      go_wp2_with fail
      refine wp_region_held_drew (S := fun _ => True) (by kernel_rfl) (trivial) (fun hHeld => ?_)
      refine tkH 0 (v := ?_) rfl (by kernel_rfl) (fun _ _ _ h => h) (by rfl) ?y1x0q1 (by assumption) ?z1x0q1
      case y1x0q1 => intro wq hSw; (go_simp); (try with_reducible rfl)
      try simp only [Act.put, sA, sB, sC]
      refine tkH 1 (v := ?_) rfl (by kernel_rfl) (fun _ _ _ h => h) (by rfl) ?y1x1q4 (by assumption) ?z1x1q4
      case y1x1q4 => intro wq hSw; (go_simp); (try with_reducible rfl)
      try simp only [Act.put, sA, sB, sC]
      refine tkH 2 (v := ?_) rfl (by kernel_rfl) (fun _ _ _ h => h) (by rfl) ?y1x2q7 (by assumption) ?z1x2q7
      case y1x2q7 => intro wq hSw; (go_simp); (try with_reducible rfl)
      try simp only [Act.put, sA, sB, sC]
      refine tkH 3 (v := ?_) rfl (by kernel_rfl) (fun _ _ _ h => h) (by rfl) ?y1x3q10 (by assumption) ?z1x3q10
      case y1x3q10 => intro wq hSw; (go_simp); (try with_reducible rfl)
      try simp only [Act.put, sA, sB, sC]
      refine tkH 4 (v := ?_) rfl (by kernel_rfl) (fun _ _ _ h => h) (by rfl) ?y1x4q13 (by assumption) ?z1x4q13
      case y1x4q13 => intro wq hSw; (go_simp); (try with_reducible rfl)
      try simp only [Act.put, sA, sB, sC]
      refine tkH 5 (v := ?_) rfl (by kernel_rfl) (fun _ _ _ h => h) (by rfl) ?y1x5q16 (by assumption) ?z1x5q16
      case y1x5q16 => intro wq hSw; (go_simp); (try with_reducible rfl)
      try simp only [Act.put, sA, sB, sC]
      refine tkH 6 (v := ?_) rfl (by kernel_rfl) (fun _ _ _ h => h) (by rfl) ?y1x6q19 (by assumption) ?z1x6q19
      case y1x6q19 => intro wq hSw; (go_simp); (try with_reducible rfl)
      try simp only [Act.put, sA, sB, sC]
      refine wpAnyH_ready (rs := [7]) (by kernel_rfl) (by simp) ?_
      refine AllReadyH.cons (o := ⟨_, _, _, _, _, _⟩) rfl (fun K hK => ?_) AllReadyH.nil
      rw [if_pos (by rfl)]
      refine wp_copy_shift (enc := encN) (sz := 3) _ (.tmp 67) (.tmp 70) 23 rfl w.heap.size 56 Tryz.underlying23 (by kernel_rfl) (fun _ => rfl) (by simp [encN, Value.oneCell']) g7 out.length cap7 j L7 own7 hj _ _ _ _ rfl rfl (fun hlt => ⟨by rw [if_neg (by omega)], rfl⟩) ?_
      intro w8 own8 ch8 sz8
      refine hK.out _ _ (trivial) (fun hHeld => ?_)
      clear hK K
      try simp only [Act.put, sA, sB, sC]
      refine wpAnyH_done (by kernel_rfl) ?_ _
      have k8 : Ex w w8 := Chg.trans k7.drew (ch8.mono (fun x (hx : x < w.heap.size) => by omega))
      obtain ⟨x5, o5, y5, he5, hx5, hy5, hc5⟩ := (hs.out.nx k8).at hlt
      cases he5
      obtain rfl : y = y5 := Option.some.inj (HY.out.symm.trans hy5)
      have b0 : w8.cell? ⟨x1, o1 + k * 3, none⟩ = some (.int .i64 y.id) := hc5 0 _ rfl
      have b1 : w8.cell? ⟨x1, o1 + k * 3 + 1, none⟩ = some (.string y.key) := hc5 1 _ rfl
      have b2 : w8.cell? ⟨x1, o1 + k * 3 + 1 + 1, none⟩ = some (.int .u32 y.word) := by simpa [Nat.add_assoc] using hc5 2 _ rfl
      obtain ⟨⟨va, vb, vc, d0, d1, d2⟩, fz, OS⟩ := own_set3 own8 (j := j) (by omega) y
      have fz0 := fz (j * 3)
      have fz1 := fz (j * 3 + 1)
      have fz2 := fz (j * 3 + 1 + 1)
      clear hc5 hy5 own8 ch8 fz
      go_wp2_with fail
      exact ⟨⟨k + 1, by omega, by go_num, by rw [FSn.out, STEP.out, ← SH.out]; exact OS, ((k8.setNew (p := ⟨g7, j * 3, none⟩) _ hg7).setNew (p := ⟨g7, j * 3 + 1, none⟩) _ hg7).setNew (p := ⟨g7, j * 3 + 2, none⟩) _ hg7⟩, by simp [intOf]; omega⟩
     | false =>
      cases he : (z.key.toList == y.key.toList) with
      | true =>
       by_cases hid : y.id < z.id
       ·have hN := lH (GOON (by rw [GT]; simp [hb, he, hid]))
        clear STOP GOON GT
        go_wp2_with fail
        go_quiet (fail)
        go_wp2_with fail
        exact ⟨⟨j - 1, by omega, by first | rfl | rw [hj1], hN.out, ki.drewN _⟩, by simp [intOf]; omega⟩
       ·have HAT' := lH (STOP (by rw [GT]; simp [hb, he, hid]))
        clear STOP GOON GT
        go_wp2_with fail
        go_quiet (fail)
        clear f0 f1 g0 g1
        have hz : w.heap.size ≤ wi.heap.size := Nat.le_trans kw.size ki.size
        go_upto_region 9 with (at_builtin; (refine wpList_append_lit (enc := encN) _ rfl _ _ 23 rfl w.heap.size 56 (.agg #[.int .i64 0, .string ByteArray.empty, .int .u32 0]) 3 32 Tryz.underlying23 Tryz.infoN rfl (by omega) (by omega) _ _ (OWN.out.nx (ki.drewN _)) rfl (⟨0, ByteArray.empty, 0⟩ : Nd) _ rfl rfl (by simp [encN, Value.oneCell']) _ (by simp) rfl (by omega) (by exact hz) _ ?_); intro v7 w7 own7 _ ch1 _)
        have k7 : Ex w w7 := Chg.trans (kw.nx (ki.drewN _)) ch1
        obtain ⟨L7, hL7⟩ : ∃ L7, L7 = out ++ [(⟨0, ByteArray.empty, 0⟩ : Nd)] := ⟨_, rfl⟩
        rw [← hL7] at own7
        have hl7 : L7.length = out.length + 1 := by rw [hL7]; simp
        obtain ⟨A7, cap7, rfl, _, c7, m7, some7⟩ := own7.rd (fun _ => rfl)
        obtain ⟨g7, rfl, hg7⟩ := some7 (by intro h0; rw [h0] at hl7; simp at hl7)
        rw [hl7] at own7 c7 ⊢
        have STEP : Hid (insN out y = L7.take j ++ y :: out.drop j) := lH (by unfold insN; rw [HAT'.out, hL7, List.take_append_of_le_length hj])
        have SH : Hid ((L7.take (j + 1) ++ (L7.drop j).take (out.length - j)).set j y = L7.take j ++ y :: out.drop j) := lH (shift_set out y j hj L7 hL7)
        have hcj : (j : Int) + 1 ≤ (cap7 : Int) := by omega
        have hcj2 : j + 1 ≤ cap7 := by omega
        have hjo : (j : Int) ≤ (out.length : Int) := by omega
        have jw : IntKind.i64.wrap ((j : Int) + 1) = (j : Int) + 1 := IntWalk.i64_in _ (by omega)
        have j0' : (0 : Int) ≤ (j : Int) + 1 := by omega
        have jt : ((j : Int) + 1).toNat = j + 1 := by omega
        have jc : ¬ cap7 = j := by omega
        have hjo2 : (j : Int) ≤ (out.length : Int) + 1 := by omega
        clear hL7 hl7 some7 ch1 hz ki HAT'
        go_wp2_with fail
        refine wp_region_held_drew (S := fun _ => True) (by kernel_rfl) (trivial) (fun hHeld => ?_)
        refine tkH 0 (v := ?_) rfl (by kernel_rfl) (fun _ _ _ h => h) (by rfl) ?y2x0q1 (by assumption) ?z2x0q1
        case y2x0q1 => intro wq hSw; (go_simp); (try with_reducible rfl)
        try simp only [Act.put, sA, sB, sC]
        refine tkH 1 (v := ?_) rfl (by kernel_rfl) (fun _ _ _ h => h) (by rfl) ?y2x1q4 (by assumption) ?z2x1q4
        case y2x1q4 => intro wq hSw; (go_simp); (try with_reducible rfl)
        try simp only [Act.put, sA, sB, sC]
        refine tkH 2 (v := ?_) rfl (by kernel_rfl) (fun _ _ _ h => h) (by rfl) ?y2x2q7 (by assumption) ?z2x2q7
        case y2x2q7 => intro wq hSw; (go_simp); (try with_reducible rfl)
        try simp only [Act.put, sA, sB, sC]
        refine tkH 3 (v := ?_) rfl (by kernel_rfl) (fun _ _ _ h => h) (by rfl) ?y2x3q10 (by assumption) ?z2x3q10
        case y2x3q10 => intro wq hSw; (go_simp); (try with_reducible rfl)
        try simp only [Act.put, sA, sB, sC]
        refine tkH 4 (v := ?_) rfl (by kernel_rfl) (fun _ _ _ h => h) (by rfl) ?y2x4q13 (by assumption) ?z2x4q13
        case y2x4q13 => intro wq hSw; (go_simp); (try with_reducible rfl)
        try simp only [Act.put, sA, sB, sC]
        refine tkH 5 (v := ?_) rfl (by kernel_rfl) (fun _ _ _ h => h) (by rfl) ?y2x5q16 (by assumption) ?z2x5q16
        case y2x5q16 => intro wq hSw; (go_simp); (try with_reducible rfl)
        try simp only [Act.put, sA, sB, sC]
        refine tkH 6 (v := ?_) rfl (by kernel_rfl) (fun _ _ _ h => h) (by rfl) ?y2x6q19 (by assumption) ?z2x6q19
        case y2x6q19 => intro wq hSw; (go_simp); (try with_reducible rfl)
        try simp only [Act.put, sA, sB, sC]
        refine wpAnyH_ready (rs := [7]) (by kernel_rfl) (by simp) ?_
        refine AllReadyH.cons (o := ⟨_, _, _, _, _, _⟩) rfl (fun K hK => ?_) AllReadyH.nil
        rw [if_pos (by rfl)]
        refine wp_copy_shift (enc := encN) (sz := 3) _ (.tmp 67) (.tmp 70) 23 rfl w.heap.size 56 Tryz.underlying23 (by kernel_rfl) (fun _ => rfl) (by simp [encN, Value.oneCell']) g7 out.length cap7 j L7 own7 hj _ _ _ _ rfl rfl (fun hlt => ⟨by rw [if_neg (by omega)], rfl⟩) ?_
        intro w8 own8 ch8 sz8
        refine hK.out _ _ (trivial) (fun hHeld => ?_)
        clear hK K
        try simp only [Act.put, sA, sB, sC]
        refine wpAnyH_done (by kernel_rfl) ?_ _
        have k8 : Ex w w8 := Chg.trans k7.drew (ch8.mono (fun x (hx : x < w.heap.size) => by omega))
        obtain ⟨x5, o5, y5, he5, hx5, hy5, hc5⟩ := (hs.out.nx k8).at hlt
        cases he5
        obtain rfl : y = y5 := Option.some.inj (HY.out.symm.trans hy5)
        have b0 : w8.cell? ⟨x1, o1 + k * 3, none⟩ = some (.int .i64 y.id) := hc5 0 _ rfl
        have b1 : w8.cell? ⟨x1, o1 + k * 3 + 1, none⟩ = some (.string y.key) := hc5 1 _ rfl
        have b2 : w8.cell? ⟨x1, o1 + k * 3 + 1 + 1, none⟩ = some (.int .u32 y.word) := by simpa [Nat.add_assoc] using hc5 2 _ rfl
        obtain ⟨⟨va, vb, vc, d0, d1, d2⟩, fz, OS⟩ := own_set3 own8 (j := j) (by omega) y
        have fz0 := fz (j * 3)
        have fz1 := fz (j * 3 + 1)
        have fz2 := fz (j * 3 + 1 + 1)
        clear hc5 hy5 own8 ch8 fz
        go_wp2_with fail
        exact ⟨⟨k + 1, by omega, by go_num, by rw [FSn.out, STEP.out, ← SH.out]; exact OS, ((k8.setNew (p := ⟨g7, j * 3, none⟩) _ hg7).setNew (p := ⟨g7, j * 3 + 1, none⟩) _ hg7).setNew (p := ⟨g7, j * 3 + 2, none⟩) _ hg7⟩, by simp [intOf]; omega⟩
      | false =>
       have hN := lH (GOON (by rw [GT]; simp [hb, he]))
       clear STOP GOON GT
       go_wp2_with fail
       go_quiet (fail)
       go_wp2_with fail
       exact ⟨⟨j - 1, by omega, by first | rfl | rw [hj1], hN.out, ki.drewN _⟩, by simp [intOf]; omega⟩
    ·have HAT' : Hid (atN out y out.length = j) := lH (by rw [HAT.out, show j = 0 by omega]; simp [atN])
     go_wp2_with fail
     go_quiet (fail)
     have hz : w.heap.size ≤ wi.heap.size := Nat.le_trans kw.size ki.size
     go_upto_region 9 with (at_builtin; (refine wpList_append_lit (enc := encN) _ rfl _ _ 23 rfl w.heap.size 56 (.agg #[.int .i64 0, .string ByteArray.empty, .int .u32 0]) 3 32 Tryz.underlying23 Tryz.infoN rfl (by omega) (by omega) _ _ (OWN.out.nx (ki.drewN _)) rfl (⟨0, ByteArray.empty, 0⟩ : Nd) _ rfl rfl (by simp [encN, Value.oneCell']) _ (by simp) rfl (by omega) (by exact hz) _ ?_); intro v7 w7 own7 _ ch1 _)
     have k7 : Ex w w7 := Chg.trans (kw.nx (ki.drewN _)) ch1
     obtain ⟨L7, hL7⟩ : ∃ L7, L7 = out ++ [(⟨0, ByteArray.empty, 0⟩ : Nd)] := ⟨_, rfl⟩
     rw [← hL7] at own7
     have hl7 : L7.length = out.length + 1 := by rw [hL7]; simp
     obtain ⟨A7, cap7, rfl, _, c7, m7, some7⟩ := own7.rd (fun _ => rfl)
     obtain ⟨g7, rfl, hg7⟩ := some7 (by intro h0; rw [h0] at hl7; simp at hl7)
     rw [hl7] at own7 c7 ⊢
     have STEP : Hid (insN out y = L7.take j ++ y :: out.drop j) := lH (by unfold insN; rw [HAT'.out, hL7, List.take_append_of_le_length hj])
     have SH : Hid ((L7.take (j + 1) ++ (L7.drop j).take (out.length - j)).set j y = L7.take j ++ y :: out.drop j) := lH (shift_set out y j hj L7 hL7)
     have hcj : (j : Int) + 1 ≤ (cap7 : Int) := by omega
     have hcj2 : j + 1 ≤ cap7 := by omega
     have hjo : (j : Int) ≤ (out.length : Int) := by omega
     have jw : IntKind.i64.wrap ((j : Int) + 1) = (j : Int) + 1 := IntWalk.i64_in _ (by omega)
     have j0' : (0 : Int) ≤ (j : Int) + 1 := by omega
     have jt : ((j : Int) + 1).toNat = j + 1 := by omega
     have jc : ¬ cap7 = j := by omega
     have hjo2 : (j : Int) ≤ (out.length : Int) + 1 := by omega
     clear hL7 hl7 some7 ch1 hz ki HAT'
     go_wp2_with fail
     refine wp_region_held_drew (S := fun _ => True) (by kernel_rfl) (trivial) (fun hHeld => ?_)
     refine tkH 0 (v := ?_) rfl (by kernel_rfl) (fun _ _ _ h => h) (by rfl) ?y3x0q1 (by assumption) ?z3x0q1
     case y3x0q1 => intro wq hSw; (go_simp); (try with_reducible rfl)
     try simp only [Act.put, sA, sB, sC]
     refine tkH 1 (v := ?_) rfl (by kernel_rfl) (fun _ _ _ h => h) (by rfl) ?y3x1q4 (by assumption) ?z3x1q4
     case y3x1q4 => intro wq hSw; (go_simp); (try with_reducible rfl)
     try simp only [Act.put, sA, sB, sC]
     refine tkH 2 (v := ?_) rfl (by kernel_rfl) (fun _ _ _ h => h) (by rfl) ?y3x2q7 (by assumption) ?z3x2q7
     case y3x2q7 => intro wq hSw; (go_simp); (try with_reducible rfl)
     try simp only [Act.put, sA, sB, sC]
     refine tkH 3 (v := ?_) rfl (by kernel_rfl) (fun _ _ _ h => h) (by rfl) ?y3x3q10 (by assumption) ?z3x3q10
     case y3x3q10 => intro wq hSw; (go_simp); (try with_reducible rfl)
     try simp only [Act.put, sA, sB, sC]
     refine tkH 4 (v := ?_) rfl (by kernel_rfl) (fun _ _ _ h => h) (by rfl) ?y3x4q13 (by assumption) ?z3x4q13
     case y3x4q13 => intro wq hSw; (go_simp); (try with_reducible rfl)
     try simp only [Act.put, sA, sB, sC]
     refine tkH 5 (v := ?_) rfl (by kernel_rfl) (fun _ _ _ h => h) (by rfl) ?y3x5q16 (by assumption) ?z3x5q16
     case y3x5q16 => intro wq hSw; (go_simp); (try with_reducible rfl)
     try simp only [Act.put, sA, sB, sC]
     refine tkH 6 (v := ?_) rfl (by kernel_rfl) (fun _ _ _ h => h) (by rfl) ?y3x6q19 (by assumption) ?z3x6q19
     case y3x6q19 => intro wq hSw; (go_simp); (try with_reducible rfl)
     try simp only [Act.put, sA, sB, sC]
     refine wpAnyH_ready (rs := [7]) (by kernel_rfl) (by simp) ?_
     refine AllReadyH.cons (o := ⟨_, _, _, _, _, _⟩) rfl (fun K hK => ?_) AllReadyH.nil
     rw [if_pos (by rfl)]
     refine wp_copy_shift (enc := encN) (sz := 3) _ (.tmp 67) (.tmp 70) 23 rfl w.heap.size 56 Tryz.underlying23 (by kernel_rfl) (fun _ => rfl) (by simp [encN, Value.oneCell']) g7 out.length cap7 j L7 own7 hj _ _ _ _ rfl rfl (fun hlt => ⟨by rw [if_neg (by omega)], rfl⟩) ?_
     intro w8 own8 ch8 sz8
     refine hK.out _ _ (trivial) (fun hHeld => ?_)
     clear hK K
     try simp only [Act.put, sA, sB, sC]
     refine wpAnyH_done (by kernel_rfl) ?_ _
     have k8 : Ex w w8 := Chg.trans k7.drew (ch8.mono (fun x (hx : x < w.heap.size) => by omega))
     obtain ⟨x5, o5, y5, he5, hx5, hy5, hc5⟩ := (hs.out.nx k8).at hlt
     cases he5
     obtain rfl : y = y5 := Option.some.inj (HY.out.symm.trans hy5)
     have b0 : w8.cell? ⟨x1, o1 + k * 3, none⟩ = some (.int .i64 y.id) := hc5 0 _ rfl
     have b1 : w8.cell? ⟨x1, o1 + k * 3 + 1, none⟩ = some (.string y.key) := hc5 1 _ rfl
     have b2 : w8.cell? ⟨x1, o1 + k * 3 + 1 + 1, none⟩ = some (.int .u32 y.word) := by simpa [Nat.add_assoc] using hc5 2 _ rfl
     obtain ⟨⟨va, vb, vc, d0, d1, d2⟩, fz, OS⟩ := own_set3 own8 (j := j) (by omega) y
     have fz0 := fz (j * 3)
     have fz1 := fz (j * 3 + 1)
     have fz2 := fz (j * 3 + 1 + 1)
     clear hc5 hy5 own8 ch8 fz
     go_wp2_with fail
     exact ⟨⟨k + 1, by omega, by go_num, by rw [FSn.out, STEP.out, ← SH.out]; exact OS, ((k8.setNew (p := ⟨g7, j * 3, none⟩) _ hg7).setNew (p := ⟨g7, j * 3 + 1, none⟩) _ hg7).setNew (p := ⟨g7, j * 3 + 2, none⟩) _ hg7⟩, by simp [intOf]; omega⟩
  ·obtain rfl : k = n := by omega
   rw [List.take_of_length_le (by rw [HL.out]; exact Nat.le_refl _)] at own
   obtain ⟨a3, cap3, rfl, r3, c3, m3, nil3⟩ := own.slf (fun _ => rfl)
   clear own hk
   go_wp2_with fail
   go_ret
   exact ⟨a3, _, cap3, rfl, r3, kw⟩
theorem findN_of {l : List Nd} {id : Int} {k : Nat} {y : Nd} (hy : l[k]? = some y) (he : y.id = id) (hno : ∀ j z, j < k → l[j]? = some z → z.id ≠ id) : findN l id = (y, true) := by
 have hk := (List.getElem?_eq_some_iff.1 hy).1
 have : l.find? (fun x => x.id == id) = some y := by
  rw [List.find?_eq_some_iff_getElem]
  refine ⟨by simpa using he, k, hk, (List.getElem?_eq_some_iff.1 hy).2, fun j hj => ?_⟩
  have := hno j l[j] hj (by simp)
  simpa using this
 unfold findN
 rw [this]
def FdRel (l : List Nd) (id : Int) (w : World) (i : Value) (wr : World) : Prop :=
 ∃ k : Nat, k ≤ l.length ∧ i = .int .i64 k ∧ Ex w wr ∧ ∀ j z, j < k → l[j]? = some z → z.id ≠ id
set_option maxHeartbeats 1000000 in
theorem find_r (a : Option Addr) (n cp : Nat) (l : List Nd) (id : Int) (w : World) (h : Sl 3 encN w a n l) (hn : n ≤ 1000000) :
  Calls Tryz.prog 83 #[.slice a n cp, .int .i64 id] w fun e w' => e = .returned (.tuple #[(findN l id).1.val, .bool (findN l id).2]) ∧ Ex w w' := by
 have HL := lH h.len
 have hs := lH h
 have k1 := Ex.new w (.cells #[.int .i64 0, .string ⟨#[]⟩, .int .u32 0] 56)
 have B1 := Blk.new w [.int .i64 0, .string ⟨#[]⟩, .int .u32 0] 56
 obtain ⟨w1, hw1⟩ : ∃ w1, w1 = w.alloc (.cells #[.int .i64 0, .string ⟨#[]⟩, .int .u32 0] 56) := ⟨_, rfl⟩
 obtain ⟨g, hg⟩ : ∃ g, g = w.heap.size := ⟨_, rfl⟩
 have B1 : Blk w1 g [.int .i64 0, .string ⟨#[]⟩, .int .u32 0] 56 := by rw [hw1, hg]; exact B1
 rw [← hw1] at k1
 have hgn : w.heap.size ≤ g := by omega
 have HW1 := lH hw1
 have HG := lH hg
 clear h hw1 hg
 go_enter Tryz.func83, Tryz.ntmps83
 go_upto_region 1 with fail
 rw [← HG.out, ← HW1.out]
 go_wp2_with fail
 go_loopw [6] (fun i wr => FdRel l id w1 i wr) (fun i _ => n - (intOf i).toNat)
 case atStart => exact ⟨0, by omega, rfl, Ex.refl _, by intro _ _ h; omega⟩
 case round =>
  obtain ⟨k, hk, rfl, kw, hno⟩ := hrel
  have HNO := lH hno
  rw [HL.out] at hk
  clear hno
  obtain ⟨wo, rfl⟩ : ∃ wo : World, wo = wr := ⟨_, rfl⟩
  have B := B1.nx kw
  have q0 := B.cell 0 _ rfl
  have q1 := B.cell 1 _ rfl
  have q2 := B.cell 2 _ rfl
  have z0 := B.free 0
  have z1 := B.free 1
  have z2 := B.free 2
  by_cases hlt : k < n
  ·obtain ⟨x1, o1, y, rfl, hx1, hy, hc1⟩ := ((hs.out.nx k1).nx kw).at hlt
   have e0 : wo.cell? ⟨x1, o1 + k * 3, none⟩ = some (.int .i64 y.id) := hc1 0 _ rfl
   have e1 : wo.cell? ⟨x1, o1 + k * 3 + 1, none⟩ = some (.string y.key) := hc1 1 _ rfl
   have e2 : wo.cell? ⟨x1, o1 + k * 3 + 1 + 1, none⟩ = some (.int .u32 y.word) := by simpa [Nat.add_assoc] using hc1 2 _ rfl
   have HY := lH hy
   have BO := lH B
   clear hy hc1 B B1
   by_cases hid : y.id = id
   ·have HF : Hid (findN l id = (y, true)) := lH (findN_of HY.out hid HNO.out)
    have d1 : (y.id == id) = true := by simpa using hid
    clear hid
    go_wp2_with fail
    refine bodyPost_ret (v := .tuple #[.agg #[.int .i64 y.id, .string y.key, .int .u32 y.word], .bool true]) (by simp [results, Tryz.results83, go_sem, *]) rfl ⟨by rw [HF.out]; rfl, ?_⟩
    exact (((k1.nx kw).setNew (p := ⟨g, 0, none⟩) _ hgn).setNew (p := ⟨g, 1, none⟩) _ hgn).setNew (p := ⟨g, 2, none⟩) _ hgn
   ·have d1 : (y.id == id) = false := by simpa using hid
    have HID := lH hid
    clear hid q0 q1 q2 z0 z1 z2
    go_wp2_with fail
    refine ⟨⟨k + 1, by rw [HL.out]; omega, by go_num, kw, fun j z hj hz => ?_⟩, by simp [intOf]; omega⟩
    rcases Nat.lt_or_ge j k with h | h
    ·exact HNO.out j z h hz
    ·obtain rfl : j = k := by omega
     rw [Option.some.inj (hz.symm.trans HY.out)]
     exact HID.out
  ·have HF : Hid (findN l id = (Nd.zero, false)) := lH (findN_none (fun j z hj hz => HNO.out j z (by have := HL.out; omega) hz))
   clear B1
   go_wp2_with fail
   refine bodyPost_ret (v := .tuple #[.agg #[.int .i64 0, .string ⟨#[]⟩, .int .u32 0], .bool false]) (by simp [results, Tryz.results83, go_sem, *]) rfl ⟨by rw [HF.out]; rfl, ?_⟩
   exact (((k1.nx kw).setNew (p := ⟨g, 0, none⟩) _ hgn).setNew (p := ⟨g, 1, none⟩) _ hgn).setNew (p := ⟨g, 2, none⟩) _ hgn
theorem level_r (h : Int) (w : World) : Calls Tryz.prog 58 #[.int .i64 h] w fun e w' => e = .returned (.bool (lvlN h)) ∧ w = w' := by
 go_enter Tryz.func58, Tryz.ntmps58
 by_cases h0 : 0 ≤ h
 ·have HV : Hid (lvlN h = decide (h ≤ 16)) := lH (by unfold lvlN; simp [h0])
  go_wp2
  go_ret
  exact ⟨by rw [HV.out]; rfl, rfl⟩
 ·have HV : Hid (lvlN h = false) := lH (by unfold lvlN; simp [h0])
  go_wp2
  go_ret
  exact ⟨by rw [HV.out]; rfl, rfl⟩
theorem idxI_none {g : List Nd} {id : Int} (hno : ∀ j z, j < g.length → g[j]? = some z → z.id ≠ id) : idxI g id = g.length := by
 rw [idxI, List.findIdx_eq_length]
 intro x hx
 obtain ⟨j, hj, he⟩ := List.mem_iff_getElem.1 hx
 have := hno j x hj (by rw [← he]; simp)
 simpa using this
def ThPost (r : List Nd × Nat × Bool) (w : World) (e : Ending) (w' : World) : Prop :=
 ∃ (a : Option Addr) (cp : Nat), e = .returned (.tuple #[.slice a r.1.length cp, .int .i64 r.2.1, .bool r.2.2]) ∧ Sl 3 encN w' a r.1.length r.1 ∧ Ex w w'
def ThPostF (r : List Nd × Nat × Bool) (w : World) (e : Ending) (w' : World) : Prop :=
 ∃ (a : Option Addr) (cp : Nat), e = .returned (.tuple #[.slice a r.1.length cp, .int .i64 r.2.1, .bool r.2.2]) ∧ Slf 3 encN w w' a r.1.length r.1 ∧ Ex w w'
theorem thPost_none {l : List Nd} {id h : Int} {w w' : World} (hne : throughN l id h = ([], 0, false)) (k : Ex w w') : ThPostF (throughN l id h) w (.returned (.tuple #[.slice none 0 0, .int .i64 0, .bool false])) w' := by
 rw [hne]
 exact ⟨none, 0, rfl, Slf.nil _ _ _ _ _, k⟩
def TgRel (g : List Nd) (id : Int) (w : World) (i : Value) (wr : World) : Prop :=
 ∃ k : Nat, k ≤ g.length ∧ i = .int .i64 k ∧ Ex w wr ∧ ∀ j z, j < k → g[j]? = some z → z.id ≠ id
set_option maxRecDepth 100000 in
set_option maxHeartbeats 2000000 in
theorem through_f (a : Option Addr) (n cp : Nat) (l : List Nd) (id h : Int) (w : World) (hs : Sl 3 encN w a n l) (hn : n ≤ 1000) (hw : ∀ x ∈ l, x.word < 4294967296) :
  Calls Tryz.prog 136 #[.slice a n cp, .int .i64 id, .int .i64 h] w (ThPostF (throughN l id h) w) := by
 have HW := lH (sort_word hw)
 have HX := findN_word hw id
 have HL := lH hs.len
 clear hw
 go_enter Tryz.func136, Tryz.ntmps136
 go_wp2_with fail
 (with_reducible refine (find_r _ _ _ _ _ _ hs (by omega)).mono ?_)
 rintro e w1 ⟨rfl, k1⟩
 have S1 := hs.nx k1
 obtain ⟨F, hF⟩ : ∃ F, F = findN l id := ⟨_, rfl⟩
 have HF := lH hF
 rw [← hF] at HX ⊢
 obtain ⟨⟨xi, xk, xw⟩, ok⟩ := F
 have k2 := Ex.new w1 (.cells #[.int .i64 xi, .string xk, .int .u32 xw] 56)
 have B2 := Blk.new w1 [.int .i64 xi, .string xk, .int .u32 xw] 56
 obtain ⟨w2, hw2⟩ : ∃ w2, w2 = w1.alloc (.cells #[.int .i64 xi, .string xk, .int .u32 xw] 56) := ⟨_, rfl⟩
 obtain ⟨g2, hg2⟩ : ∃ g2, g2 = w1.heap.size := ⟨_, rfl⟩
 have B2 : Blk w2 g2 [.int .i64 xi, .string xk, .int .u32 xw] 56 := by rw [hw2, hg2]; exact B2
 rw [← hw2] at k2
 have HW2 := lH hw2
 have HG2 := lH hg2
 replace S1 := S1.nx k2
 replace k1 := k1.nx k2
 clear hF hw2 hg2 k2 hs
 simp only [Nd.val]
 go_upto_region 2 with fail
 rw [← HG2.out, ← HW2.out]
 cases ok with
 | false =>
  have HT : Hid (throughN l id h = ([], 0, false)) := lH (by unfold throughN; rw [if_neg]; rintro ⟨h1, _⟩; rw [← HF.out] at h1; cases h1)
  clear S1 B2
  go_wp2_with fail
  refine bodyPost_ret (v := .tuple #[.slice none 0 0, .int .i64 0, .bool false]) (by simp [results, Tryz.results136, go_sem, *]) rfl (thPost_none HT.out k1)
 | true =>
  go_wp2_with fail
  (with_reducible refine (is_r _ _ _ _ _ S1 (by omega)).mono ?_)
  rintro e w3 ⟨rfl, k3⟩
  replace S1 := S1.nx k3
  replace k1 := k1.nx k3
  replace B2 := B2.nx k3
  clear k3
  cases hc : (checkN l == 0) with
  | false =>
   have HT : Hid (throughN l id h = ([], 0, false)) := lH (by unfold throughN; rw [if_neg]; rintro ⟨_, h1, _⟩; rw [hc] at h1; cases h1)
   clear S1 B2 hc
   go_wp2_with fail
   refine bodyPost_ret (v := .tuple #[.slice none 0 0, .int .i64 0, .bool false]) (by simp [results, Tryz.results136, go_sem, *]) rfl (thPost_none HT.out k1)
  | true =>
   have HC := lH hc
   clear hc
   go_wp2_with fail
   refine (level_r h _).mono ?_
   rintro e w4 ⟨rfl, rfl⟩
   cases hl : lvlN h with
   | false =>
    have HT : Hid (throughN l id h = ([], 0, false)) := lH (by unfold throughN; rw [if_neg]; rintro ⟨_, _, h1, _⟩; rw [hl] at h1; cases h1)
    clear S1 B2 hl
    go_wp2_with fail
    refine bodyPost_ret (v := .tuple #[.slice none 0 0, .int .i64 0, .bool false]) (by simp [results, Tryz.results136, go_sem, *]) rfl (thPost_none HT.out k1)
   | true =>
    have HLV := lH hl
    clear hl
    go_wp2_with fail
    replace B2 := B2.nx (Ex.refl w3).drew
    refine wp_region_held_drew (S := Ex w3.drew) (by kernel_rfl) (Ex.refl _) (fun hHeld => ?_)
    refine tkH 0 (v := ?_) rfl (by kernel_rfl) (fun _ _ _ h => h) (by rfl) ?hyr1x0 (by assumption) ?restr1x0
    case hyr1x0 => intro wq hSw; (go_simp); (try with_reducible rfl)
    refine tkH 2 (v := ?_) rfl (by kernel_rfl) (fun _ _ _ h => h) (by rfl) ?hyr1x2 (by assumption) ?restr1x2
    case hyr1x2 => intro wq hSw; (go_simp); (try with_reducible rfl)
    refine tkH 3 (v := ?_) rfl (by kernel_rfl) (fun _ _ _ h => h) (by rfl) ?hyr1x3 (by assumption) ?restr1x3
    case hyr1x3 => intro wq hSw; (go_simp); (try with_reducible rfl)
    refine tkH 4 (v := ?_) rfl (by kernel_rfl) (fun _ _ _ h => h) (by rfl) ?hyr1x4 (by assumption) ?restr1x4
    case hyr1x4 => intro wq hSw; (have cq := (B2.nx hSw).cell 2 _ rfl; go_simp); (try with_reducible rfl)
    refine wpAnyH_ready (rs := [1]) (by kernel_rfl) (by simp) ?_
    refine AllReadyH.cons (o := ⟨_, _, _, _, _, _⟩) rfl (fun K hK => ?_) AllReadyH.nil
    go_simp
    (with_reducible refine (sort_r _ _ _ _ _ (S1.nx (Ex.refl w3).drew) hn).mono ?_)
    rintro e w5 ⟨a5, n5, c5, rfl, r5, k5⟩
    have r5 : Slf 3 encN w3.drew w5 a5 n5 _ := r5
    replace k5 : Ex w3.drew w5 := k5
    replace B2 := B2.nx k5
    have hn5 : n5 ≤ 1000 := by have := r5.len; have := sortN_length l; have := HL.out; omega
    refine hK.out _ _ k5 (fun _ => ?_)
    clear hK K
    refine wpAnyH_switch (S' := Ex w5) (fun _ hSw => Ex.nx k5 hSw) ?_
    clear hHeld
    have hHeld := Ex.refl w5
    refine wpAnyH_ready (rs := [5]) (by kernel_rfl) (by simp) ?_
    refine AllReadyH.cons (o := ⟨_, _, _, _, _, _⟩) rfl (fun K hK => ?_) AllReadyH.nil
    go_simp
    refine (group_r _ _ _ _ h xw _ r5.sl (fun _ hk => hk) hn5 HW.out HX).mono ?_
    rintro e w6 ⟨a6, n6, c6, rfl, r6, k6⟩
    have r6 : Slf 3 encN w5 w6 a6 n6 _ := r6
    replace k6 : Ex w5 w6 := k6
    refine hK.out _ _ k6 (fun _ => ?_)
    clear hK K
    refine wpAnyH_switch (S' := Ex w6) (fun _ hSw => Ex.nx k6 hSw) ?_
    clear hHeld
    have hHeld := Ex.refl w6
    refine tkH 6 (v := ?_) rfl (by kernel_rfl) (fun _ _ _ h => h) (by rfl) ?hyr1x6 (by assumption) ?restr1x6
    case hyr1x6 => intro wq hSw; (go_simp); (try with_reducible rfl)
    refine wpAnyH_done (by kernel_rfl) ?_ _
    have k7 := k1.nx (((Ex.refl w3).drew.nx k5).nx k6)
    have HG : Hid (thrG l id h = groupN (sortN l) h xw) := lH (by unfold thrG; rw [← HF.out])
    have RG : Slf 3 encN w w6 a6 n6 _ := r6.old (Nat.le_trans k1.size k5.size)
    clear r5 r6 k5 k6 hn5 S1 B2 k1
    have RG := RG
    have hng := RG.len
    subst hng
    have hgl := groupN_length (sortN l) h xw
    rw [sortN_length] at hgl
    have hgl : (groupN (sortN l) h xw).length ≤ 1000 := by have := HL.out; omega
    generalize groupN (sortN l) h xw = G at RG HG hgl ⊢
    have RG := lH RG
    go_wp2_with fail
    go_loopw [12] (fun i wr => TgRel G id w6 i wr) (fun i _ => G.length - (intOf i).toNat)
    case atStart => exact ⟨0, by omega, rfl, Ex.refl _, by intro _ _ h; omega⟩
    case round =>
     obtain ⟨k, hk, rfl, kw, hno⟩ := hrel
     have HNO := lH hno
     obtain ⟨wo, rfl⟩ : ∃ wo : World, wo = wr := ⟨_, rfl⟩
     clear hno
     by_cases hlt : k < G.length
     ·obtain ⟨x1, o1, y, rfl, hx1, hy, hc1⟩ := (RG.out.nx kw).sl.at hlt
      have e0 : wo.cell? ⟨x1, o1 + k * 3, none⟩ = some (.int .i64 y.id) := hc1 0 _ rfl
      have HY := lH hy
      have hlt' := lH hlt
      clear hy hc1
      by_cases hid : y.id = id
      ·have HI : idxI G id = k := idxI_of HY.out hid HNO.out
       have HT : Hid (throughN l id h = (G, k, true)) := lH (by unfold throughN; rw [HG.out, HI, if_pos]; exact ⟨by rw [← HF.out], HC.out, HLV.out, hlt⟩)
       have d1 : (y.id == id) = true := by simpa using hid
       clear hid HI
       go_wp2_with fail
       refine bodyPost_ret (v := .tuple #[.slice (some ⟨x1, o1, none⟩) G.length c6, .int .i64 k, .bool true]) (by simp [results, Tryz.results136, go_sem, *]) rfl ?_
       rw [HT.out]
       exact ⟨_, _, rfl, RG.out.nx kw, k7.nx kw⟩
      ·have d1 : (y.id == id) = false := by simpa using hid
       have HID := lH hid
       clear hid
       go_wp2_with fail
       refine ⟨⟨k + 1, by omega, by go_num, kw, fun j z hj hz => ?_⟩, by simp [intOf]; omega⟩
       rcases Nat.lt_or_ge j k with h | h
       ·exact HNO.out j z h hz
       ·obtain rfl : j = k := by omega
        rw [Option.some.inj (hz.symm.trans HY.out)]
        exact HID.out
     ·obtain rfl : k = G.length := by omega
      have HT : Hid (throughN l id h = ([], 0, false)) := lH (by unfold throughN; rw [HG.out, if_neg]; rintro ⟨_, _, _, h1⟩; rw [idxI_none HNO.out] at h1; omega)
      clear hk hlt
      go_wp2_with fail
      refine bodyPost_ret (v := .tuple #[.slice none 0 0, .int .i64 0, .bool false]) (by simp [results, Tryz.results136, go_sem, *]) rfl (thPost_none HT.out (k7.nx kw))
theorem through_r (a : Option Addr) (n cp : Nat) (l : List Nd) (id h : Int) (w : World) (hs : Sl 3 encN w a n l) (hn : n ≤ 1000) (hw : ∀ x ∈ l, x.word < 4294967296) :
  Calls Tryz.prog 136 #[.slice a n cp, .int .i64 id, .int .i64 h] w (ThPost (throughN l id h) w) :=
 (through_f a n cp l id h w hs hn hw).mono fun _ _ ⟨a', c', e, s, k⟩ => ⟨a', c', e, s.sl, k⟩
theorem throughN_lt {l : List Nd} {id h : Int} (hr : (throughN l id h).2.2 = true) : (throughN l id h).2.1 < (throughN l id h).1.length := by
 unfold throughN at *
 split at hr
 ·rename_i hc
  rw [if_pos hc]
  exact hc.2.2.2
 ·cases hr
theorem throughN_len (l : List Nd) (id h : Int) : (throughN l id h).1.length ≤ l.length := by
 unfold throughN
 split
 ·unfold thrG
  have := groupN_length (sortN l) h (findN l id).1.word
  rw [sortN_length] at this
  exact this
 ·simp
theorem idAt {w : World} {a : Option Addr} {n : Nat} {G : List Nd} (h : Sl 3 encN w a n G) {j : Nat} (hj : j < n) : ∃ x o, a = some ⟨x, o, none⟩ ∧ x < w.heap.size ∧ w.cell? ⟨x, o + j * 3, none⟩ = some (.int .i64 (G[j]?.getD Nd.zero).id) := by
 obtain ⟨x, o, y, e, hx, hy, hc⟩ := h.at hj
 exact ⟨x, o, e, hx, by rw [hy]; exact hc 0 _ rfl⟩
set_option maxRecDepth 100000 in
set_option maxHeartbeats 2000000 in
theorem neigh_r (a : Option Addr) (n cp : Nat) (l : List Nd) (id h : Int) (w : World) (hs : Sl 3 encN w a n l) (hn : n ≤ 1000) (hw : ∀ x ∈ l, x.word < 4294967296) :
  Calls Tryz.prog 123 #[.slice a n cp, .int .i64 id, .int .i64 h] w (NgPost (neighN l id h) w) := by
 have HW := lH hw
 have HL := lH hs.len
 have k1 := Ex.new w (.cells #[.int .i64 0, .int .i64 0] 69)
 have B1 := Blk.new w [.int .i64 0, .int .i64 0] 69
 obtain ⟨w1, hw1⟩ : ∃ w1, w1 = w.alloc (.cells #[.int .i64 0, .int .i64 0] 69) := ⟨_, rfl⟩
 obtain ⟨g, hg⟩ : ∃ g, g = w.heap.size := ⟨_, rfl⟩
 have B1 : Blk w1 g [.int .i64 0, .int .i64 0] 69 := by rw [hw1, hg]; exact B1
 rw [← hw1] at k1
 have hgn : w.heap.size ≤ g := by omega
 have HW1 := lH hw1
 have HG := lH hg
 have S1 := hs.nx k1
 clear hs hw1 hg hw
 go_enter Tryz.func123, Tryz.ntmps123
 go_upto_region 1 with fail
 rw [← HG.out, ← HW1.out]
 go_wp2_with fail
 (with_reducible refine (through_r _ _ _ _ _ _ _ S1 hn HW.out).mono ?_)
 rintro e w2 ⟨a2, c2, rfl, R2, k2⟩
 have HLT := fun hr => throughN_lt (l := l) (id := id) (h := h) hr
 have HLE := throughN_len l id h
 have HNE : Hid (neighN l id h = if (throughN l id h).2.2 then ((leftN (throughN l id h).1 (throughN l id h).2.1, rightN (throughN l id h).1 (throughN l id h).2.1), true) else ((0, 0), false)) := lH rfl
 have hle := HL.out
 generalize throughN l id h = r at R2 HLT HLE HNE ⊢
 obtain ⟨G, i, ok⟩ := r
 have kk := k1.nx k2
 have B := B1.nx k2
 have hgl : G.length ≤ 1000 := by have := HLE; simp at this; omega
 clear S1 B1 k1 k2 HLE hle
 simp only
 cases ok with
 | false =>
  have HE : Hid (neighN l id h = ((0, 0), false)) := HNE
  have q0 := B.cell 0 _ rfl
  have q1 := B.cell 1 _ rfl
  have z0 := B.free 0
  have z1 := B.free 1
  clear R2 HLT HNE
  go_wp2_with fail
  refine bodyPost_ret (v := .tuple #[.agg #[.int .i64 0, .int .i64 0], .bool false]) (by simp [results, Tryz.results123, go_sem, *]) rfl ⟨by rw [HE.out], ?_⟩
  exact (kk.setNew (p := ⟨g, 0, none⟩) _ hgn).setNew (p := ⟨g, 1, none⟩) _ hgn
 | true =>
  have hi : i < G.length := HLT rfl
  have HE : Hid (neighN l id h = ((leftN G i, rightN G i), true)) := HNE
  have k3 := Ex.new w2 (.cells #[.int .i64 0, .int .i64 0] 69)
  have B3 := Blk.new w2 [.int .i64 0, .int .i64 0] 69
  obtain ⟨w3, hw3⟩ : ∃ w3, w3 = w2.alloc (.cells #[.int .i64 0, .int .i64 0] 69) := ⟨_, rfl⟩
  obtain ⟨g3, hg3⟩ : ∃ g3, g3 = w2.heap.size := ⟨_, rfl⟩
  have B3 : Blk w3 g3 [.int .i64 0, .int .i64 0] 69 := by rw [hw3, hg3]; exact B3
  rw [← hw3] at k3
  have hgg : g ≠ g3 := by have := B.lt; omega
  have hgn3 : w.heap.size ≤ g3 := by have := kk.size; omega
  have HW3 := lH hw3
  have HG3 := lH hg3
  replace B := B.nx k3
  replace kk := kk.nx k3
  have R3 := R2.nx k3
  clear hw3 hg3 k3 R2 HLT HNE
  go_upto_region 5 with fail
  rw [← HG3.out, ← HW3.out]
  -- the left neighbour
  obtain ⟨L, hL⟩ : ∃ L, L = leftN G i := ⟨_, rfl⟩
  obtain ⟨Rr, hR⟩ : ∃ Rr, Rr = rightN G i := ⟨_, rfl⟩
  rw [← hL, ← hR] at HE
  have q0 := B3.cell 0 _ rfl
  have q1 := B3.cell 1 _ rfl
  have z0 := B3.free 0
  have z1 := B3.free 1
  have p0 := B.cell 0 _ rfl
  have p1 := B.cell 1 _ rfl
  have y0 := B.free 0
  have y1 := B.free 1
  have hgg2 : ¬ g = g3 := hgg
  have hgg3 : ¬ g3 = g := fun h => hgg h.symm
  by_cases hi0 : i = 0
  ·have hL0 : L = 0 := by rw [hL]; unfold leftN; rw [if_pos hi0]
   subst hL0
   have d0 : ¬ (0 : Int) < (i : Int) := by omega
   by_cases hr : i + 1 < G.length
   ·have hR1 : Rr = (G[i + 1]?.getD Nd.zero).id := hR
    obtain ⟨x5, o5, ex, hx5, f5⟩ := idAt R3 (j := i + 1) hr
    subst ex
    rw [← hR1] at f5
    replace f5 : w3.cell? ⟨x5, o5 + 3, none⟩ = some (.int .i64 Rr) := by rw [hi0] at f5; exact f5
    have dr : (i : Int) + 1 < (G.length : Int) := by omega
    clear hL hR R3 hR1
    go_wp2_with fail
    refine bodyPost_ret (v := .tuple #[.agg #[.int .i64 0, .int .i64 Rr], .bool true]) (by simp [results, Tryz.results123, go_sem, *]) rfl ⟨by rw [HE.out], ?_⟩
    repeat (first | exact kk | refine Ex.setNew ?_ _ (by first | exact hgn | exact hgn3))
   ·have hR1 : Rr = 0 := by rw [hR]; unfold rightN; rw [List.getElem?_eq_none (by omega)]; rfl
    subst hR1
    have dr : ¬ (i : Int) + 1 < (G.length : Int) := by omega
    clear hL hR R3
    go_wp2_with fail
    refine bodyPost_ret (v := .tuple #[.agg #[.int .i64 0, .int .i64 0], .bool true]) (by simp [results, Tryz.results123, go_sem, *]) rfl ⟨by rw [HE.out], ?_⟩
    repeat (first | exact kk | refine Ex.setNew ?_ _ (by first | exact hgn | exact hgn3))
  ·have hL0 : L = (G[i - 1]?.getD Nd.zero).id := by rw [hL]; unfold leftN; rw [if_neg hi0]
   have d0 : (0 : Int) < (i : Int) := by omega
   have hi1 : (i : Int) - 1 = ((i - 1 : Nat) : Int) := by omega
   obtain ⟨x4, o4, rfl, hx4, f4⟩ := idAt R3 (j := i - 1) (by simp only at hi ⊢; omega)
   rw [← hL0] at f4
   clear hL0
   by_cases hr : i + 1 < G.length
   ·have hR1 : Rr = (G[i + 1]?.getD Nd.zero).id := hR
    obtain ⟨x5, o5, ex, hx5, f5⟩ := idAt R3 (j := i + 1) hr
    cases ex
    rw [← hR1] at f5
    have dr : (i : Int) + 1 < (G.length : Int) := by omega
    clear hL hR R3 hR1
    go_wp2_with fail
    refine bodyPost_ret (v := .tuple #[.agg #[.int .i64 L, .int .i64 Rr], .bool true]) (by simp [results, Tryz.results123, go_sem, *]) rfl ⟨by rw [HE.out], ?_⟩
    repeat (first | exact kk | refine Ex.setNew ?_ _ (by first | exact hgn | exact hgn3))
   ·have hR1 : Rr = 0 := by rw [hR]; unfold rightN; rw [List.getElem?_eq_none (by omega)]; rfl
    subst hR1
    have dr : ¬ (i : Int) + 1 < (G.length : Int) := by omega
    clear hL hR R3
    go_wp2_with fail
    refine bodyPost_ret (v := .tuple #[.agg #[.int .i64 L, .int .i64 0], .bool true]) (by simp [results, Tryz.results123, go_sem, *]) rfl ⟨by rw [HE.out], ?_⟩
    repeat (first | exact kk | refine Ex.setNew ?_ _ (by first | exact hgn | exact hgn3))
def BdRel (S : List Nd) (m n : Nat) (w1 : World) (o i : Value) (wr : World) : Prop :=
 ∃ (k : Nat) (qs : List (Int × Hdr)), k ≤ n ∧ i = .int .i64 k ∧ OwnLk w1.heap.size wr o qs ((S.take k).map (rowN S m)) ∧ Ex w1 wr
def LvRel (S : List Nd) (m : Nat) (x : Nd) (g : Nat) (w : World) (i : Value) (wr : World) : Prop :=
 ∃ (j : Nat) (v : Value), j ≤ m ∧ i = .int .i64 j ∧ Blk wr g [.int .i64 x.id, v] 106 ∧ OwnL 2 encS 69 w.heap.size wr v (rowN S j x).2 ∧ Exb g w wr
theorem rowN_succ (S : List Nd) (j : Nat) (x : Nd) : (rowN S (j + 1) x).2 = (rowN S j x).2 ++ [(neighN S x.id (j : Nat)).1] := by
 unfold rowN
 simp [List.range_succ]
set_option maxRecDepth 100000 in
set_option maxHeartbeats 4000000 in
theorem build_r (a : Option Addr) (n cp : Nat) (l : List Nd) (h : Int) (w : World) (hs : Sl 3 encN w a n l) (hn : n ≤ 1000) (hw : ∀ x ∈ l, x.word < 4294967296) :
  Calls Tryz.prog 90 #[.slice a n cp, .int .i64 h] w (LkPost (buildN l h).1 (buildN l h).2 w) := by
 have HW := lH (sort_word hw)
 have HL := lH hs.len
 clear hw
 go_enter Tryz.func90, Tryz.ntmps90
 go_wp2_with fail
 (with_reducible refine (is_r _ _ _ _ _ hs (by omega)).mono ?_)
 rintro e w1 ⟨rfl, k1⟩
 have S1 := hs.nx k1
 clear hs
 cases hc : (checkN l == 0) with
 | false =>
  have HB : Hid (buildN l h = ([], 1)) := lH (by unfold buildN; rw [if_pos hc])
  clear S1 hc
  go_wp2_with fail
  go_ret2
  rw [HB.out]
  exact ⟨_, [], rfl, OwnN.nil _ _ _ _ _ _ _ _, k1⟩
 | true =>
  go_wp2_with fail
  refine (level_r h _).mono ?_
  rintro e w2 ⟨rfl, rfl⟩
  cases hl : lvlN h with
  | false =>
   have HB : Hid (buildN l h = ([], 2)) := lH (by unfold buildN; rw [if_neg (by rw [hc]; simp), if_pos hl])
   clear S1 hc hl
   go_wp2_with fail
   go_ret2
   rw [HB.out]
   exact ⟨_, [], rfl, OwnN.nil _ _ _ _ _ _ _ _, k1⟩
  | true =>
   have HB : Hid (buildN l h = ((sortN l).map (rowN (sortN l) (h.toNat + 1)), 0)) := lH (by unfold buildN; rw [if_neg (by rw [hc]; simp), if_neg (by rw [hl]; simp)])
   have hh : 0 ≤ h ∧ h ≤ 16 := by unfold lvlN at hl; simpa using hl
   obtain ⟨m, rfl⟩ := Int.eq_ofNat_of_zero_le hh.1
   have hm : m ≤ 16 := by have := hh.2; omega
   clear hc hl hh
   go_wp2_with fail
   (with_reducible refine (sort_r _ _ _ _ _ S1 hn).mono ?_)
   rintro e w3 ⟨a3, n3, c3, rfl, r3, k3⟩
   have r3 : Slf 3 encN w1 w3 a3 n3 _ := r3
   have R3 := r3.sl
   have hn3 : n3 ≤ 1000 := by have := r3.len; have := sortN_length l; have := HL.out; omega
   have k3 : Ex w w3 := k1.nx k3
   clear S1 k1 r3
   obtain ⟨S, hS⟩ : ∃ S, S = sortN l := ⟨_, rfl⟩
   rw [← hS] at R3 HW HB
   have HSL := lH R3.len
   have R3 := lH R3
   have K3 := lH k3
   have hz3 := k3.size
   clear hS k3
   go_wp2_with fail
   go_loopw [7, 8] (fun o i wr => BdRel S (m + 1) n3 w3 o i wr) (fun _ i _ => n3 - (intOf i).toNat)
   case atStart => exact ⟨0, [], by omega, rfl, OwnN.nil _ _ _ _ _ _ _ _, Ex.refl _⟩
   case round =>
    obtain ⟨k, qs, hk, rfl, OQ, kw⟩ := hrel
    obtain ⟨wo, rfl⟩ : ∃ wo : World, wo = wr := ⟨_, rfl⟩
    by_cases hlt : k < n3
    ·obtain ⟨x1, o1, x, rfl, hx1, hx, hc1⟩ := (R3.out.nx kw).at hlt
     have e0 : wo.cell? ⟨x1, o1 + k * 3, none⟩ = some (.int .i64 x.id) := hc1 0 _ rfl
     have HX := lH hx
     have OQ := lH OQ
     have B9 := Blk.new wo [.int .i64 x.id, .slice none 0 0] 106
     have k9 := Ex.new wo (.cells #[.int .i64 x.id, .slice none 0 0] 106)
     obtain ⟨w9, hw9⟩ : ∃ w9, w9 = wo.alloc (.cells #[.int .i64 x.id, .slice none 0 0] 106) := ⟨_, rfl⟩
     obtain ⟨g9, hg9⟩ : ∃ g9, g9 = wo.heap.size := ⟨_, rfl⟩
     have B9 : Blk w9 g9 [.int .i64 x.id, .slice none 0 0] 106 := by rw [hw9, hg9]; exact B9
     rw [← hw9] at k9
     have hgo : wo.heap.size ≤ g9 := by omega
     have hg9' : g9 < w9.heap.size := B9.lt
     have HW9 := lH hw9
     have HG9 := lH hg9
     have hzo := kw.size
     have K9 := lH k9
     have KW := lH kw
     clear hw9 hg9 hc1 hx kw k9
     go_upto_region 11 with fail
     rw [← HG9.out, ← HW9.out]
     go_wp2_with fail
     clear e0
     go_loopw [10] (fun i wr => LvRel S (m + 1) x g9 w9 i wr) (fun i _ => m + 1 - (intOf i).toNat)
     case atStart => exact ⟨0, _, by omega, rfl, B9, OwnL.nil _ _ _ _ _, Exb.refl _ _⟩
     case round =>
      clear B9
      obtain ⟨j, vv, hj, rfl, B9, own, kv⟩ := hrel
      obtain ⟨wi, rfl⟩ : ∃ wi : World, wi = wr := ⟨_, rfl⟩
      have ki : Ex wo wi := Ex.of_exb ((K9.out.b g9).nxb kv) hgo
      by_cases hjm : j ≤ m
      ·have e0 : wi.cell? ⟨x1, o1 + k * 3, none⟩ = some (.int .i64 x.id) := by
        obtain ⟨x5, o5, y5, he5, hx5, hy5, hc5⟩ := ((R3.out.nx KW.out).nx ki).at hlt
        cases he5
        obtain rfl : x = y5 := Option.some.inj (HX.out.symm.trans hy5)
        exact hc5 0 _ rfl
       have RI := (R3.out.nx KW.out).nx ki
       have RS := lH (rowN_succ S j x)
       have hrl := rowN_len S j x
       go_wp2_with fail
       (with_reducible refine (neigh_r _ _ _ _ _ _ _ RI hn3 HW.out).mono ?_)
       rintro e w4 ⟨rfl, k4⟩
       obtain ⟨⟨⟨nl, nr⟩, nok⟩, hN⟩ : ∃ N, N = neighN S x.id (j : Nat) := ⟨_, rfl⟩
       have HN := lH hN
       rw [← hN]
       generalize (rowN S j x).2 = row at own RS hrl
       have own4 := own.nx k4
       replace B9 := B9.nx k4
       replace kv := kv.nxb (k4.b g9)
       clear RI k4 hN e0 own
       have B5 := Blk.new w4 [.int .i64 nl, .int .i64 nr] 69
       have k5 := Ex.new w4 (.cells #[.int .i64 nl, .int .i64 nr] 69)
       obtain ⟨w5, hw5⟩ : ∃ w5, w5 = w4.alloc (.cells #[.int .i64 nl, .int .i64 nr] 69) := ⟨_, rfl⟩
       obtain ⟨g5, hg5⟩ : ∃ g5, g5 = w4.heap.size := ⟨_, rfl⟩
       have B5 : Blk w5 g5 [.int .i64 nl, .int .i64 nr] 69 := by rw [hw5, hg5]; exact B5
       rw [← hw5] at k5
       have HW5 := lH hw5
       have HG5 := lH hg5
       replace own4 := own4.nx k5
       replace B9 := B9.nx k5
       replace kv := kv.nxb (k5.b g9)
       clear hw5 hg5 k5
       go_upto_region 15 with fail
       rw [← HG5.out, ← HW5.out]
       have q0 := B5.cell 0 _ rfl
       have q1 := B5.cell 1 _ rfl
       have p0 := B9.cell 0 _ rfl
       have p1 := B9.cell 1 _ rfl
       have zb := kv.size
       go_wp2_with (at_builtin; (refine wpList_append_lit (enc := encS) w5 rfl _ _ 104 rfl w9.heap.size 69 (.agg #[.int .i64 0, .int .i64 0]) 2 16 Tryz.underlying104 Tryz.infoLk rfl (by omega) (by omega) _ _ own4 rfl ((nl, nr) : Int × Int) _ rfl rfl (by simp [encS, Value.oneCell']) _ (by simp) rfl (by omega) zb _ ?_); intro v6 w6 own6 _ ch1 _; obtain ⟨a6, c6, rfl, _, _, _, _⟩ := own6.rd (fun _ => rfl); have B6 : Blk w6 g9 _ _ := (ch1.block g9 hg9').trans B9; have z6 := B6.free 1; have p6 := B6.cell 1 _ rfl)
       rw [← HN.out] at RS
       have own7 : OwnL 2 encS 69 w9.heap.size (w6.setCell ⟨g9, 1, none⟩ (.slice a6 (row ++ [(nl, nr)]).length c6)) (.slice a6 (row ++ [(nl, nr)]).length c6) (row ++ [(nl, nr)]) :=
        own6.chg ((Chg.refl (· ≠ g9) w6).setCell _ (fun x hx => hx)) (fun x _ hv => by have := (own6.lt x hv).1; omega)
       have kv7 : Exb g9 w9 (w6.setCell ⟨g9, 1, none⟩ (.slice a6 (row ++ [(nl, nr)]).length c6)) := (show Exb g9 w9 w6 from Chg.trans kv (ch1.mono (fun x hx => hx.1))).setB _ rfl
       have B7 := B6.set 1 (.slice a6 (row ++ [(nl, nr)]).length c6)
       have hll : (row ++ [(nl, nr)]).length = j + 1 := by simp [hrl]
       rw [hll] at own7 kv7 B7
       exact ⟨⟨j + 1, _, by omega, by go_num, B7, by rw [RS.out]; exact own7, kv7⟩, by simp [intOf]; omega⟩
      ·obtain rfl : j = m + 1 := by omega
       have OQ1 := OQ.out.nx ki
       have q0 := B9.cell 0 _ rfl
       have q1 := B9.cell 1 _ rfl
       obtain ⟨a6, c6, rfl, _, _, _, _⟩ := own.rd (fun _ => rfl)
       have hkq : qs.length = k := by rw [OQ1.2.1, List.length_map, List.length_take, HSL.out]; omega
       have hzi : w3.heap.size ≤ wi.heap.size := by have := ki.size; omega
       have hjm1 : ((m : Int) + 1) ≤ (m : Int) + 1 := by omega
       have FR : ∀ (j : Nat) (r : Int × Hdr) (g : Nat), qs[j]? = some r → r.2.val.ownBlock = some g → ¬ (Value.slice a6 (rowN S (m + 1) x).2.length c6).ownBlock = some g := by
        intro j r g hr hg hv
        have h1 := OQ.out.lt hr hg
        have h2 := (own.lt g hv).1
        omega
       clear hjm hj hjm1
       have k8 := Ex.new wi (.cells #[.int .i64 x.id, .slice a6 (rowN S (m + 1) x).2.length c6] 106)
       have SX : Sl 2 (encP encI) (wi.alloc (.cells #[.int .i64 x.id, .slice a6 (rowN S (m + 1) x).2.length c6] 106)) (some ⟨wi.heap.size, 0, none⟩) 1 [((x.id, (a6, (rowN S (m + 1) x).2.length, c6)) : Int × Hdr)] := Sl.lit _ rfl rfl (fun _ => rfl) rfl
       have OQ2 := OQ1.nx k8
       have own2 := own.nx k8
       have ki8 := ki.nx k8
       go_wp2_with (at_builtin; (refine wpList_append_W (enc := encP encI) _ rfl _ _ 72 rfl w3.heap.size 106 (.agg #[.int .i64 0, .slice none 0 0]) 2 32 Tryz.underlying72 Tryz.infoLd rfl (by omega) (by omega) _ _ OQ2.1 rfl _ 1 1 [_] SX (fun _ => rfl) (by simp [encP, encI, Hdr.val, Value.oneCell']) rfl (by omega) (by omega) (by simp; omega) ?_); intro v7 w7 own7 ch0 ch1 _)
       have OQ7 := OQ2.push (by decide) own7 ch0 (own2.base (by omega)) FR
       have kw7 : Ex w3 w7 := Chg.trans (KW.out.nx ki8) ch1
       have ET : (S.take (k + 1)).map (rowN S (m + 1)) = (S.take k).map (rowN S (m + 1)) ++ [(x.id, (rowN S (m + 1) x).2)] := by rw [List.take_add_one, HX.out, List.map_append]; rfl
       exact ⟨⟨k + 1, qs ++ [((x.id, (a6, (rowN S (m + 1) x).2.length, c6)) : Int × Hdr)], by omega, by go_num, by rw [ET]; exact OQ7, kw7⟩, by simp [intOf]; omega⟩
    ·obtain rfl : k = n3 := by omega
     rw [List.take_of_length_le (by rw [HSL.out]; exact Nat.le_refl _)] at OQ
     have HB2 := HB
     clear hk hlt
     go_wp2_with fail
     go_ret2
     rw [HB.out]
     exact ⟨_, qs, rfl, OQ.base hz3, K3.out.nx kw⟩
set_option maxHeartbeats 1000000 in
theorem oddkey_t {b : Nat} (w : World) (h : TK w b) (hL : LetG w) (hgb : ¬ 0 = b) : Calls Tryz.prog 41 #[.pointer (some ⟨b, 0, none⟩)] w (KeyPost 65 b w) := by
 go_enter Tryz.func41, Tryz.ntmps41
 go_wp2_with fail
 refine (bool_t 10 _ h (by omega) (by omega)).mono ?_
 clear h
 rintro e w1 ⟨r, rfl, T, kk⟩
 have L1 := hL.nxb hgb kk
 clear hL
 cases r with
 | true =>
  go_wp2_with fail
  refine (next_t 6 _ T (by omega) (by omega)).mono ?_
  clear T
  rintro e w2 ⟨j, rfl, j0, j1, T, k2⟩
  obtain ⟨j, rfl⟩ := Int.eq_ofNat_of_zero_le j0
  obtain ⟨s, hs, hc⟩ := (L1.nxb hgb k2) j (by omega)
  have kk := kk.nxb k2
  have HS := lH hs
  clear hs k2 L1
  go_wp2_with fail
  refine (long_x s 65 _ HS.out (by omega)).mono ?_
  rintro e w3 ⟨⟨r, rfl, hr⟩, rfl⟩
  have HR := lH hr
  clear hr
  go_wp2_with fail
  go_ret
  exact ⟨r, rfl, Nat.le_of_eq HR.out, T, kk⟩
 | false =>
  go_wp2_with fail
  refine (key_t _ T L1 hgb).mono ?_
  clear T
  rintro e w2 ⟨s, rfl, hs, T, k2⟩
  have kk := kk.nxb k2
  clear k2 L1
  go_wp2_with fail
  go_ret
  exact ⟨s, rfl, by omega, T, kk⟩
structure OddOf (n b : Nat) (w w' : World) (v : Value) (L : List Nd) : Prop where
 own : OwnL 3 encN 56 w.heap.size w' v L
 len : L.length ≤ n + 1
 ok : ∀ x ∈ L, NOk x
 tape : TK w' b
 k : Exb b w w'
theorem ok_set {L : List Nd} (h : ∀ x ∈ L, NOk x) (j : Nat) {y : Nd} (hy : NOk y) : ∀ x ∈ L.set j y, NOk x := fun x hx => by
 rcases List.mem_or_eq_of_mem_set hx with h1 | rfl
 ·exact h x h1
 ·exact hy
theorem ok_snoc {L : List Nd} (h : ∀ x ∈ L, NOk x) {y : Nd} (hy : NOk y) : ∀ x ∈ L ++ [y], NOk x := fun x hx => by
 rcases List.mem_append.1 hx with h1 | h1
 ·exact h x h1
 ·rw [List.mem_singleton.1 h1]; exact hy
set_option maxRecDepth 100000 in
set_option maxHeartbeats 8000000 in
theorem oddroster_t {b : Nat} (a : Option Addr) (n cp : Nat) (l : List Nd) (w : World) (h : TK w b) (hs : Slb 3 encN b w a n l) (hnil : a = none → cp = 0) (hn : n ≤ 100) (hok : ∀ x ∈ l, NOk x) (hL : LetG w) (hgb : ¬ 0 = b) :
  Calls Tryz.prog 14 #[.pointer (some ⟨b, 0, none⟩), .slice a n cp] w fun e w' => ∃ v L, e = .returned v ∧ OddOf n b w w' v L := by
 have OK := lH hok
 have NIL := lH hnil
 have hlen := hs.len
 have hbw := h.lt
 have own0 : OwnL 3 encN 56 w.heap.size w (.slice none 0 0) [] := OwnL.nil _ _ _ _ _
 have s0 := hs.sl
 clear hok hnil
 go_enter Tryz.func14, Tryz.ntmps14
 go_upto_region 2 with (at_builtin; (refine wpList_append_rd (enc := encN) w rfl (.const (.slice none 0 0)) (.tmp 6) 23 rfl w.heap.size 56 (.agg #[.int .i64 0, .string ByteArray.empty, .int .u32 0]) 3 32 Tryz.underlying23 Tryz.infoN rfl (by omega) (by omega) _ [] own0 rfl _ a n cp l s0 NIL.out (fun _ => rfl) (by simp [encN, Value.oneCell']) rfl (by simp) (by omega) (Nat.le_refl _) ?_); intro v1 w1 own1 ch0 ch1)
 rw [List.nil_append] at own1
 have k1 : Ex w w1 := ch1
 replace h := h.nx k1
 replace hL := hL.nx k1
 have kk := k1.b b
 obtain ⟨a1, c1, rfl, _, _, _, some1⟩ := own1.rd (fun _ => rfl)
 subst hlen
 have z1 := k1.size
 have k1 := lH k1
 clear own0 s0 hs ch0 ch1
 by_cases hn0 : l.length = 0
 ·have d0 : ((l.length : Int) == 0) = true := by rw [hn0]; rfl
  have hl0 : l = [] := List.eq_nil_of_length_eq_zero hn0
  subst hl0
  have own1 : OwnL 3 encN 56 w.heap.size w1 (.slice a1 0 c1) [] := own1
  clear some1 hn0
  go_wp2_with fail
  refine (pick_t (n := 3) (-1) 1 [0, 1, -1] h rfl rfl rfl (by omega) (by omega) (by intro x hx; simp at hx; omega)).mono ?_
  clear h
  rintro e w2 ⟨r, rfl, r0, r1, T, k2⟩
  have own2 := own1.nxb hbw k2
  replace kk := kk.nxb k2
  replace hL := hL.nxb hgb k2
  clear own1 k2
  go_wp2_with fail
  refine (oddkey_t _ T hL hgb).mono ?_
  clear T
  rintro e w3 ⟨s, rfl, hsz, T, k2⟩
  have own3 := own2.nxb hbw k2
  replace kk := kk.nxb k2
  clear own2 k2 hL
  go_wp2_with fail
  refine (pick_t (n := 2) (0) 65536 [0, 65536] T rfl rfl rfl (by omega) (by omega) (by intro x hx; simp at hx; omega)).mono ?_
  clear T
  rintro e w4 ⟨m, rfl, m0, m1, T, k2⟩
  obtain ⟨m, rfl⟩ := Int.eq_ofNat_of_zero_le m0
  have hmw : IntKind.u32.wrap (m : Int) = (m : Int) := by rw [wrap_u32n]; omega
  have own4 := own3.nxb hbw k2
  replace kk := kk.nxb k2
  have z4 := kk.size
  clear own3 k2
  go_wp2_with (at_builtin; (refine wpList_append_lit (enc := encN) w4 rfl _ _ 23 rfl w.heap.size 56 (.agg #[.int .i64 0, .string ByteArray.empty, .int .u32 0]) 3 32 Tryz.underlying23 Tryz.infoN rfl (by omega) (by omega) _ _ own4 rfl (⟨r, s, m⟩ : Nd) _ rfl rfl (by simp [encN, Value.oneCell']) _ (by simp) rfl (by omega) (by omega) _ ?_); intro v9 w9 own9 ch0 ch1 _)
  go_ret
  exact ⟨v9, _, rfl, ⟨own9, by simp, ok_snoc OK.out ⟨⟨by show _ ≤ r; omega, by show r ≤ _; omega⟩, by show m < _; omega, hsz⟩, TP.chg T ch1 (fun x hx => by omega), Chg.trans kk (ch1.mono (fun x hx => hx.1))⟩⟩
 ·have d0 : ((l.length : Int) == 0) = false := beq_eq_false_iff_ne.2 (by omega)
  obtain ⟨g, rfl, hg⟩ := some1 (fun h0 => hn0 (by rw [h0]; rfl))
  have hlp : 0 < l.length := by omega
  have hgb' : ¬ g = b := by omega
  have HN0 := lH hn0
  clear some1 hn0
  go_wp2_with fail
  refine (next_t (l.length : Int) _ h (by omega) (by omega)).mono ?_
  clear h
  rintro e w2 ⟨j, rfl, j0, j1, T, k2⟩
  obtain ⟨j, rfl⟩ := Int.eq_ofNat_of_zero_le j0
  have hjl : j < l.length := by omega
  have hjl' : (j : Int) < (l.length : Int) := by omega
  have own2 := own1.nxb hbw k2
  replace kk := kk.nxb k2
  replace hL := hL.nxb hgb k2
  obtain ⟨y, hy⟩ : ∃ y, l[j]? = some y := ⟨l[j], by simp⟩
  have hyok := lH (OK.out y (List.mem_of_getElem? hy))
  have HY := lH hy
  clear own1 k2 hy
  go_wp2_with fail
  refine (next_t 6 _ T (by omega) (by omega)).mono ?_
  clear T
  rintro e w3 ⟨r, rfl, r0, r1, T, k2⟩
  have own3 := own2.nxb hbw k2
  replace kk := kk.nxb k2
  replace hL := hL.nxb hgb k2
  clear own2 k2
  have hr : r = 0 ∨ r = 1 ∨ r = 2 ∨ r = 3 ∨ r = 4 ∨ r = 5 := by omega
  clear r0 r1
  rcases hr with rfl | rfl | rfl | rfl | rfl | rfl
  ·go_wp2_with fail
   refine (pick_t (n := 5) (-9223372036854775808) 2147483648 [0, -1, 2147483648, 2147483647, -9223372036854775808] T rfl rfl rfl (by omega) (by omega) (by intro x hx; simp at hx; omega)).mono ?_
   clear T hL
   rintro e w4 ⟨m, rfl, m0, m1, T, k2⟩
   have own4 := own3.nxb hbw k2
   replace kk := kk.nxb k2
   obtain ⟨q0, f0, OS⟩ := own_set1 (sz := 3) (enc := encN) (c := 0) (fun _ => rfl) own4 HY.out (by omega)
   have q0 : w4.cell? ⟨g, j * 3, none⟩ = some (.int .i64 y.id) := q0
   have f0 : w4.frozen? ⟨g, j * 3, none⟩ = false := f0
   have OS := lH (OS ⟨m, y.key, y.word⟩ (.int .i64 m) rfl)
   clear own3 own4 k2
   go_wp2_with fail
   go_ret
   exact ⟨_, _, rfl, ⟨OS.out, by simp, ok_set OK.out j ⟨⟨by show _ ≤ m; omega, by show m ≤ _; omega⟩, hyok.out.2.1, hyok.out.2.2⟩, T.set _ (by show b < g; omega), kk.setNew _ hg⟩⟩
  ·go_wp2_with fail
   refine (oddkey_t _ T hL hgb).mono ?_
   clear T hL
   rintro e w4 ⟨s, rfl, hsz, T, k2⟩
   have own4 := own3.nxb hbw k2
   replace kk := kk.nxb k2
   obtain ⟨q0, f0, OS⟩ := own_set1 (sz := 3) (enc := encN) (c := 1) (fun _ => rfl) own4 HY.out (by omega)
   have q0 : w4.cell? ⟨g, j * 3 + 1, none⟩ = some (.string y.key) := q0
   have OS := lH (OS ⟨y.id, s, y.word⟩ (.string s) rfl)
   clear own3 own4 k2
   go_wp2_with fail
   go_ret
   exact ⟨_, _, rfl, ⟨OS.out, by simp, ok_set OK.out j ⟨hyok.out.1, hyok.out.2.1, hsz⟩, T.set _ (by show b < g; omega), kk.setNew _ hg⟩⟩
  ·go_wp2_with fail
   refine (pick_t (n := 3) (0) 4294967295 [65536, 4294967295, 5] T rfl rfl rfl (by omega) (by omega) (by intro x hx; simp at hx; omega)).mono ?_
   clear T hL
   rintro e w4 ⟨m, rfl, m0, m1, T, k2⟩
   obtain ⟨m, rfl⟩ := Int.eq_ofNat_of_zero_le m0
   have hmw : IntKind.u32.wrap (m : Int) = (m : Int) := by rw [wrap_u32n]; omega
   have own4 := own3.nxb hbw k2
   replace kk := kk.nxb k2
   obtain ⟨q0, f0, OS⟩ := own_set1 (sz := 3) (enc := encN) (c := 2) (fun _ => rfl) own4 HY.out (by omega)
   have q0 : w4.cell? ⟨g, j * 3 + 2, none⟩ = some (.int .u32 y.word) := q0
   have OS := lH (OS ⟨y.id, y.key, m⟩ (.int .u32 m) rfl)
   clear own3 own4 k2
   go_wp2_with fail
   go_ret
   exact ⟨_, _, rfl, ⟨OS.out, by simp, ok_set OK.out j ⟨hyok.out.1, by show m < _; omega, hyok.out.2.2⟩, T.set _ (by show b < g; omega), kk.setNew _ hg⟩⟩
  ·have e0 : w3.cell? ⟨g, j * 3, none⟩ = some (.int .i64 y.id) := (own_set1 (sz := 3) (enc := encN) (c := 0) (fun _ => rfl) own3 HY.out (by omega)).1
   have e1 : w3.cell? ⟨g, j * 3 + 1, none⟩ = some (.string y.key) := (own_set1 (sz := 3) (enc := encN) (c := 1) (fun _ => rfl) own3 HY.out (by omega)).1
   have e2 : w3.cell? ⟨g, j * 3 + 1 + 1, none⟩ = some (.int .u32 y.word) := (own_set1 (sz := 3) (enc := encN) (c := 2) (fun _ => rfl) own3 HY.out (by omega)).1
   have z4 := kk.size
   clear hL
   go_wp2_with (at_builtin; (refine wpList_append_lit (enc := encN) w3 rfl _ _ 23 rfl w.heap.size 56 (.agg #[.int .i64 0, .string ByteArray.empty, .int .u32 0]) 3 32 Tryz.underlying23 Tryz.infoN rfl (by omega) (by omega) _ _ own3 rfl y _ rfl rfl (by simp [encN, Value.oneCell']) _ (by simp) rfl (by omega) (by omega) _ ?_); intro v9 w9 own9 ch0 ch1 _)
   go_ret
   exact ⟨v9, _, rfl, ⟨own9, by simp, ok_snoc OK.out hyok.out, TP.chg T ch1 (fun x hx => by omega), Chg.trans kk (ch1.mono (fun x hx => hx.1))⟩⟩
  ·clear hL
   go_wp2_with fail
   have own4 : OwnL 3 encN 56 w.heap.size w3.drew (.slice (some ⟨g, 0, none⟩) l.length c1) l := own3.nxb hbw (Exb.refl b w3).drew
   have T : TK w3.drew b := T
   have kk := kk.drew
   clear own3
   refine wp_region_held_drew (S := fun _ => True) (by kernel_rfl) (trivial) (fun hHeld => ?_)
   refine tkH 0 (v := ?_) rfl (by kernel_rfl) (fun _ _ _ h => h) (by rfl) ?y1x0q1 (by assumption) ?z1x0q1
   case y1x0q1 => intro wq hSw; (go_simp); (try with_reducible rfl)
   refine tkH 1 (v := ?_) rfl (by kernel_rfl) (fun _ _ _ h => h) (by rfl) ?y1x1q4 (by assumption) ?z1x1q4
   case y1x1q4 => intro wq hSw; (go_simp); (try with_reducible rfl)
   refine tkH 4 (v := ?_) rfl (by kernel_rfl) (fun _ _ _ h => h) (by rfl) ?y1x4q7 (by assumption) ?z1x4q7
   case y1x4q7 => intro wq hSw; (go_simp); (try with_reducible rfl)
   refine tkH 5 (v := ?_) rfl (by kernel_rfl) (fun _ _ _ h => h) (by rfl) ?y1x5q10 (by assumption) ?z1x5q10
   case y1x5q10 => intro wq hSw; (go_simp); (try with_reducible rfl)
   refine tkH 6 (v := ?_) rfl (by kernel_rfl) (fun _ _ _ h => h) (by rfl) ?y1x6q13 (by assumption) ?z1x6q13
   case y1x6q13 => intro wq hSw; (go_simp); (try with_reducible rfl)
   refine wpAnyH_ready (rs := [2, 7]) (by kernel_rfl) (by simp) ?_
   refine AllReadyH.cons (o := ⟨_, _, _, _, _, _⟩) rfl (fun K hK => ?_) ?_
   ·go_simp
    (refine (next_t 50 _ T (by omega) (by omega)).mono ?_)
    clear T
    rintro e w5 ⟨m, rfl, m0, m1, T, k2⟩
    have mw : IntKind.i64.wrap (1 + m) = 1 + m := IntWalk.i64_in _ (by omega)
    replace own4 := own4.nxb hbw k2
    replace kk := kk.nxb k2
    clear k2
    refine hK.out _ _ (trivial) (fun hHeld => ?_)
    clear hK K
    refine tkH 3 (v := ?_) rfl (by kernel_rfl) (fun _ _ _ h => h) (by rfl) ?y1x3q29 (by assumption) ?z1x3q29
    case y1x3q29 => intro wq hSw; (go_simp); (try with_reducible rfl)
    refine wpAnyH_ready (rs := [7]) (by kernel_rfl) (by simp) ?_
    refine AllReadyH.cons (o := ⟨_, _, _, _, _, _⟩) rfl (fun K hK => ?_) AllReadyH.nil
    have e1 : World.cell? _ ⟨g, j * 3 + 1, none⟩ = some (.string y.key) := (own_set1 (sz := 3) (enc := encN) (c := 1) (fun _ => rfl) own4 HY.out (by omega)).1
    go_simp
    clear e1
    refine hK.out _ _ (trivial) (fun hHeld => ?_)
    clear hK K
    refine tkH 8 (v := ?_) rfl (by kernel_rfl) (fun _ _ _ h => h) (by rfl) ?y1x8q40 (by assumption) ?z1x8q40
    case y1x8q40 => intro wq hSw; (go_simp); (try with_reducible rfl)
    refine wpAnyH_ready (rs := [9]) (by kernel_rfl) (by simp) ?_
    refine AllReadyH.cons (o := ⟨_, _, _, _, _, _⟩) rfl (fun K hK => ?_) AllReadyH.nil
    have z5 := kk.size
    have SX : Sl 3 encN (w5.alloc (.cells #[.int .i64 (1 + m), .string y.key, .int .u32 0] 56)) (some ⟨w5.heap.size, 0, none⟩) 1 [(⟨1 + m, y.key, 0⟩ : Nd)] := Sl.lit _ rfl rfl (fun _ => rfl) rfl
    go_simp
    have k6 := Ex.new w5 (.cells #[.int .i64 (1 + m), .string y.key, .int .u32 0] 56)
    replace own4 := own4.nx k6
    replace kk := kk.nxb (k6.b b)
    replace T := T.nx k6
    clear k6
    refine hK.out _ _ (trivial) (fun hHeld => ?_)
    clear hK K
    refine wpAnyH_ready (rs := [10]) (by kernel_rfl) (by simp) ?_
    refine AllReadyH.cons (o := ⟨_, _, _, _, _, _⟩) rfl (fun K hK => ?_) AllReadyH.nil
    rw [if_pos (by rfl)]
    have z6 := kk.size
    refine wp_append_rd (enc := encN) _ (.tmp 76) (.tmp 85) 23 rfl w.heap.size 56 (.agg #[.int .i64 0, .string ByteArray.empty, .int .u32 0]) 3 32 Tryz.underlying23 Tryz.infoN rfl (by omega) (by omega) _ l own4 rfl _ _ 1 1 [_] SX (fun h => by cases h) (fun _ => rfl) (by simp [encN, Value.oneCell']) rfl (by omega) (by omega) z6 ?_
    intro v9 w9 own9 ch0 ch1
    refine hK.out _ _ (trivial) (fun hHeld => ?_)
    clear hK K
    refine tkH 11 (v := ?_) rfl (by kernel_rfl) (fun _ _ _ h => h) (by rfl) ?y1x11q65 (by assumption) ?z1x11q65
    case y1x11q65 => intro wq hSw; (go_simp); (try with_reducible rfl)
    refine wpAnyH_done (by kernel_rfl) ?_ _
    go_wp2_with fail
    go_ret
    exact ⟨v9, _, rfl, ⟨own9, by simp, ok_snoc OK.out ⟨⟨by show _ ≤ 1 + m; omega, by show 1 + m ≤ _; omega⟩, by show 0 < _; omega, hyok.out.2.2⟩, TP.chg T ch1 (fun x hx => by omega), Chg.trans kk (ch1.mono (fun x hx => hx.1))⟩⟩
   refine AllReadyH.cons (o := ⟨_, _, _, _, _, _⟩) rfl (fun K hK => ?_) AllReadyH.nil
   ·have e1 : World.cell? _ ⟨g, j * 3 + 1, none⟩ = some (.string y.key) := (own_set1 (sz := 3) (enc := encN) (c := 1) (fun _ => rfl) own4 HY.out (by omega)).1
    go_simp
    clear e1
    refine hK.out _ _ (trivial) (fun hHeld => ?_)
    clear hK K
    refine wpAnyH_ready (rs := [2]) (by kernel_rfl) (by simp) ?_
    refine AllReadyH.cons (o := ⟨_, _, _, _, _, _⟩) rfl (fun K hK => ?_) AllReadyH.nil
    go_simp
    (refine (next_t 50 _ T (by omega) (by omega)).mono ?_)
    clear T
    rintro e w5 ⟨m, rfl, m0, m1, T, k2⟩
    have mw : IntKind.i64.wrap (1 + m) = 1 + m := IntWalk.i64_in _ (by omega)
    replace own4 := own4.nxb hbw k2
    replace kk := kk.nxb k2
    clear k2
    refine hK.out _ _ (trivial) (fun hHeld => ?_)
    clear hK K
    refine tkH 3 (v := ?_) rfl (by kernel_rfl) (fun _ _ _ h => h) (by rfl) ?y1x3q90 (by assumption) ?z1x3q90
    case y1x3q90 => intro wq hSw; (go_simp); (try with_reducible rfl)
    refine tkH 8 (v := ?_) rfl (by kernel_rfl) (fun _ _ _ h => h) (by rfl) ?y1x8q93 (by assumption) ?z1x8q93
    case y1x8q93 => intro wq hSw; (go_simp); (try with_reducible rfl)
    refine wpAnyH_ready (rs := [9]) (by kernel_rfl) (by simp) ?_
    refine AllReadyH.cons (o := ⟨_, _, _, _, _, _⟩) rfl (fun K hK => ?_) AllReadyH.nil
    have z5 := kk.size
    have SX : Sl 3 encN (w5.alloc (.cells #[.int .i64 (1 + m), .string y.key, .int .u32 0] 56)) (some ⟨w5.heap.size, 0, none⟩) 1 [(⟨1 + m, y.key, 0⟩ : Nd)] := Sl.lit _ rfl rfl (fun _ => rfl) rfl
    go_simp
    have k6 := Ex.new w5 (.cells #[.int .i64 (1 + m), .string y.key, .int .u32 0] 56)
    replace own4 := own4.nx k6
    replace kk := kk.nxb (k6.b b)
    replace T := T.nx k6
    clear k6
    refine hK.out _ _ (trivial) (fun hHeld => ?_)
    clear hK K
    refine wpAnyH_ready (rs := [10]) (by kernel_rfl) (by simp) ?_
    refine AllReadyH.cons (o := ⟨_, _, _, _, _, _⟩) rfl (fun K hK => ?_) AllReadyH.nil
    rw [if_pos (by rfl)]
    have z6 := kk.size
    refine wp_append_rd (enc := encN) _ (.tmp 76) (.tmp 85) 23 rfl w.heap.size 56 (.agg #[.int .i64 0, .string ByteArray.empty, .int .u32 0]) 3 32 Tryz.underlying23 Tryz.infoN rfl (by omega) (by omega) _ l own4 rfl _ _ 1 1 [_] SX (fun h => by cases h) (fun _ => rfl) (by simp [encN, Value.oneCell']) rfl (by omega) (by omega) z6 ?_
    intro v9 w9 own9 ch0 ch1
    refine hK.out _ _ (trivial) (fun hHeld => ?_)
    clear hK K
    refine tkH 11 (v := ?_) rfl (by kernel_rfl) (fun _ _ _ h => h) (by rfl) ?y1x11q118 (by assumption) ?z1x11q118
    case y1x11q118 => intro wq hSw; (go_simp); (try with_reducible rfl)
    refine wpAnyH_done (by kernel_rfl) ?_ _
    go_wp2_with fail
    go_ret
    exact ⟨v9, _, rfl, ⟨own9, by simp, ok_snoc OK.out ⟨⟨by show _ ≤ 1 + m; omega, by show 1 + m ≤ _; omega⟩, by show 0 < _; omega, hyok.out.2.2⟩, TP.chg T ch1 (fun x hx => by omega), Chg.trans kk (ch1.mono (fun x hx => hx.1))⟩⟩
  ·go_wp2_with fail
   have own4 : OwnL 3 encN 56 w.heap.size w3.drew (.slice (some ⟨g, 0, none⟩) l.length c1) l := own3.nxb hbw (Exb.refl b w3).drew
   have T : TK w3.drew b := T
   have kk := kk.drew
   have hL := hL.nxb hgb (Exb.refl b w3).drew
   clear own3
   refine wp_region_held_drew (S := fun _ => True) (by kernel_rfl) (trivial) (fun hHeld => ?_)
   refine tkH 0 (v := ?_) rfl (by kernel_rfl) (fun _ _ _ h => h) (by rfl) ?y2x0q1 (by assumption) ?z2x0q1
   case y2x0q1 => intro wq hSw; (go_simp); (try with_reducible rfl)
   refine tkH 1 (v := ?_) rfl (by kernel_rfl) (fun _ _ _ h => h) (by rfl) ?y2x1q4 (by assumption) ?z2x1q4
   case y2x1q4 => intro wq hSw; (go_simp); (try with_reducible rfl)
   refine tkH 2 (v := ?_) rfl (by kernel_rfl) (fun _ _ _ h => h) (by rfl) ?y2x2q7 (by assumption) ?z2x2q7
   case y2x2q7 => intro wq hSw; (go_simp); (try with_reducible rfl)
   refine tkH 3 (v := ?_) rfl (by kernel_rfl) (fun _ _ _ h => h) (by rfl) ?y2x3q10 (by assumption) ?z2x3q10
   case y2x3q10 => intro wq hSw; (go_simp); (try with_reducible rfl)
   refine tkH 5 (v := ?_) rfl (by kernel_rfl) (fun _ _ _ h => h) (by rfl) ?y2x5q13 (by assumption) ?z2x5q13
   case y2x5q13 => intro wq hSw; (go_simp); (try with_reducible rfl)
   refine wpAnyH_ready (rs := [4, 6]) (by kernel_rfl) (by simp) ?_
   refine AllReadyH.cons (o := ⟨_, _, _, _, _, _⟩) rfl (fun K hK => ?_) ?_
   ·have e1 : World.cell? _ ⟨g, j * 3, none⟩ = some (.int .i64 y.id) := (own_set1 (sz := 3) (enc := encN) (c := 0) (fun _ => rfl) own4 HY.out (by omega)).1
    go_simp
    clear e1
    refine hK.out _ _ (trivial) (fun hHeld => ?_)
    clear hK K
    refine wpAnyH_ready (rs := [6]) (by kernel_rfl) (by simp) ?_
    refine AllReadyH.cons (o := ⟨_, _, _, _, _, _⟩) rfl (fun K hK => ?_) AllReadyH.nil
    go_simp
    (refine (key_t _ T hL hgb).mono ?_)
    clear T hL
    rintro e w5 ⟨s, rfl, hsz, T, k2⟩
    replace own4 := own4.nxb hbw k2
    replace kk := kk.nxb k2
    clear k2
    refine hK.out _ _ (trivial) (fun hHeld => ?_)
    clear hK K
    refine tkH 7 (v := ?_) rfl (by kernel_rfl) (fun _ _ _ h => h) (by rfl) ?y2x7q36 (by assumption) ?z2x7q36
    case y2x7q36 => intro wq hSw; (go_simp); (try with_reducible rfl)
    refine wpAnyH_ready (rs := [8]) (by kernel_rfl) (by simp) ?_
    refine AllReadyH.cons (o := ⟨_, _, _, _, _, _⟩) rfl (fun K hK => ?_) AllReadyH.nil
    have z5 := kk.size
    have SX : Sl 3 encN (w5.alloc (.cells #[.int .i64 y.id, .string s, .int .u32 0] 56)) (some ⟨w5.heap.size, 0, none⟩) 1 [(⟨y.id, s, 0⟩ : Nd)] := Sl.lit _ rfl rfl (fun _ => rfl) rfl
    go_simp
    have k6 := Ex.new w5 (.cells #[.int .i64 y.id, .string s, .int .u32 0] 56)
    replace own4 := own4.nx k6
    replace kk := kk.nxb (k6.b b)
    replace T := T.nx k6
    clear k6
    refine hK.out _ _ (trivial) (fun hHeld => ?_)
    clear hK K
    refine wpAnyH_ready (rs := [9]) (by kernel_rfl) (by simp) ?_
    refine AllReadyH.cons (o := ⟨_, _, _, _, _, _⟩) rfl (fun K hK => ?_) AllReadyH.nil
    rw [if_pos (by rfl)]
    have z6 := kk.size
    refine wp_append_rd (enc := encN) _ (.tmp 32) (.tmp 40) 23 rfl w.heap.size 56 (.agg #[.int .i64 0, .string ByteArray.empty, .int .u32 0]) 3 32 Tryz.underlying23 Tryz.infoN rfl (by omega) (by omega) _ l own4 rfl _ _ 1 1 [_] SX (fun h => by cases h) (fun _ => rfl) (by simp [encN, Value.oneCell']) rfl (by omega) (by omega) z6 ?_
    intro v9 w9 own9 ch0 ch1
    refine hK.out _ _ (trivial) (fun hHeld => ?_)
    clear hK K
    refine tkH 10 (v := ?_) rfl (by kernel_rfl) (fun _ _ _ h => h) (by rfl) ?y2x10q61 (by assumption) ?z2x10q61
    case y2x10q61 => intro wq hSw; (go_simp); (try with_reducible rfl)
    refine wpAnyH_done (by kernel_rfl) ?_ _
    go_wp2_with fail
    go_ret
    exact ⟨v9, _, rfl, ⟨own9, by simp, ok_snoc OK.out ⟨hyok.out.1, by show 0 < _; omega, by show s.size ≤ _; omega⟩, TP.chg T ch1 (fun x hx => by omega), Chg.trans kk (ch1.mono (fun x hx => hx.1))⟩⟩
   refine AllReadyH.cons (o := ⟨_, _, _, _, _, _⟩) rfl (fun K hK => ?_) AllReadyH.nil
   ·go_simp
    (refine (key_t _ T hL hgb).mono ?_)
    clear T hL
    rintro e w5 ⟨s, rfl, hsz, T, k2⟩
    replace own4 := own4.nxb hbw k2
    replace kk := kk.nxb k2
    clear k2
    refine hK.out _ _ (trivial) (fun hHeld => ?_)
    clear hK K
    refine wpAnyH_ready (rs := [4]) (by kernel_rfl) (by simp) ?_
    refine AllReadyH.cons (o := ⟨_, _, _, _, _, _⟩) rfl (fun K hK => ?_) AllReadyH.nil
    have e1 : World.cell? _ ⟨g, j * 3, none⟩ = some (.int .i64 y.id) := (own_set1 (sz := 3) (enc := encN) (c := 0) (fun _ => rfl) own4 HY.out (by omega)).1
    go_simp
    clear e1
    refine hK.out _ _ (trivial) (fun hHeld => ?_)
    clear hK K
    refine tkH 7 (v := ?_) rfl (by kernel_rfl) (fun _ _ _ h => h) (by rfl) ?y2x7q85 (by assumption) ?z2x7q85
    case y2x7q85 => intro wq hSw; (go_simp); (try with_reducible rfl)
    refine wpAnyH_ready (rs := [8]) (by kernel_rfl) (by simp) ?_
    refine AllReadyH.cons (o := ⟨_, _, _, _, _, _⟩) rfl (fun K hK => ?_) AllReadyH.nil
    have z5 := kk.size
    have SX : Sl 3 encN (w5.alloc (.cells #[.int .i64 y.id, .string s, .int .u32 0] 56)) (some ⟨w5.heap.size, 0, none⟩) 1 [(⟨y.id, s, 0⟩ : Nd)] := Sl.lit _ rfl rfl (fun _ => rfl) rfl
    go_simp
    have k6 := Ex.new w5 (.cells #[.int .i64 y.id, .string s, .int .u32 0] 56)
    replace own4 := own4.nx k6
    replace kk := kk.nxb (k6.b b)
    replace T := T.nx k6
    clear k6
    refine hK.out _ _ (trivial) (fun hHeld => ?_)
    clear hK K
    refine wpAnyH_ready (rs := [9]) (by kernel_rfl) (by simp) ?_
    refine AllReadyH.cons (o := ⟨_, _, _, _, _, _⟩) rfl (fun K hK => ?_) AllReadyH.nil
    rw [if_pos (by rfl)]
    have z6 := kk.size
    refine wp_append_rd (enc := encN) _ (.tmp 32) (.tmp 40) 23 rfl w.heap.size 56 (.agg #[.int .i64 0, .string ByteArray.empty, .int .u32 0]) 3 32 Tryz.underlying23 Tryz.infoN rfl (by omega) (by omega) _ l own4 rfl _ _ 1 1 [_] SX (fun h => by cases h) (fun _ => rfl) (by simp [encN, Value.oneCell']) rfl (by omega) (by omega) z6 ?_
    intro v9 w9 own9 ch0 ch1
    refine hK.out _ _ (trivial) (fun hHeld => ?_)
    clear hK K
    refine tkH 10 (v := ?_) rfl (by kernel_rfl) (fun _ _ _ h => h) (by rfl) ?y2x10q110 (by assumption) ?z2x10q110
    case y2x10q110 => intro wq hSw; (go_simp); (try with_reducible rfl)
    refine wpAnyH_done (by kernel_rfl) ?_ _
    go_wp2_with fail
    go_ret
    exact ⟨v9, _, rfl, ⟨own9, by simp, ok_snoc OK.out ⟨hyok.out.1, by show 0 < _; omega, by show s.size ≤ _; omega⟩, TP.chg T ch1 (fun x hx => by omega), Chg.trans kk (ch1.mono (fun x hx => hx.1))⟩⟩
def CtRel (b n : Nat) (w : World) (i : Value) (wr : World) : Prop := ∃ k : Nat, k ≤ n ∧ i = .int .i64 k ∧ Exb b w wr ∧ TK wr b
def CpPost (p : Pr) (base : Nat) (w : World) (e : Ending) (w' : World) : Prop :=
 ∃ hk hn : Hdr, e = .returned (.agg #[.int .i64 p.id, hk.val, .int .i64 p.left, .int .i64 p.right, hn.val]) ∧ OwnL 1 encI 3 base w' hk.val p.known ∧ OwnL 4 encNr 50 base w' hn.val p.near ∧ Ex w w'
set_option maxRecDepth 100000 in
set_option maxHeartbeats 2000000 in
theorem copypeer_r (p : Pr) (a1 : Option Addr) (n1 c1 : Nat) (a2 : Option Addr) (n2 c2 : Nat) (w : World) (h1 : Sl 1 encI w a1 n1 p.known) (h2 : Sl 4 encNr w a2 n2 p.near) (hn1 : n1 ≤ 17592186044416) (hn2 : n2 ≤ 4398046511104) :
  Calls Tryz.prog 88 #[.agg #[.int .i64 p.id, .slice a1 n1 c1, .int .i64 p.left, .int .i64 p.right, .slice a2 n2 c2]] w (CpPost p w.heap.size w) := by
 have EX := Ex.refl w
 have S1 := lH h1
 have S2 := lH h2
 clear h1 h2
 obtain ⟨g1, hg1⟩ : ∃ g1, g1 = w.heap.size := ⟨_, rfl⟩
 obtain ⟨g2, hg2⟩ : ∃ g2, g2 = (w.heap.size + 1) := ⟨_, rfl⟩
 obtain ⟨w1, hw1⟩ : ∃ w1, w1 = ((w.alloc (.cells #[.int .i64 p.id, .slice a1 n1 c1, .int .i64 p.left, .int .i64 p.right, .slice a2 n2 c2] 41)).alloc (.cells #[.int .i64 0, .slice none 0 0, .int .i64 0, .int .i64 0, .slice none 0 0] 41)) := ⟨_, rfl⟩
 have kk : Ex w w1 := by rw [hw1]; exact (((Ex.refl w).alloc (.cells #[.int .i64 p.id, .slice a1 n1 c1, .int .i64 p.left, .int .i64 p.right, .slice a2 n2 c2] 41)).alloc (.cells #[.int .i64 0, .slice none 0 0, .int .i64 0, .int .i64 0, .slice none 0 0] 41))
 have B1 : Blk w1 g1 [.int .i64 p.id, .slice a1 n1 c1, .int .i64 p.left, .int .i64 p.right, .slice a2 n2 c2] 41 := by rw [hw1]; simp only [hg1, hg2]; have hbk := ((Blk.new w [.int .i64 p.id, .slice a1 n1 c1, .int .i64 p.left, .int .i64 p.right, .slice a2 n2 c2] 41).nx (Ex.new _ (.cells #[.int .i64 0, .slice none 0 0, .int .i64 0, .int .i64 0, .slice none 0 0] 41))); simpa using hbk
 have B2 : Blk w1 g2 [.int .i64 0, .slice none 0 0, .int .i64 0, .int .i64 0, .slice none 0 0] 41 := by rw [hw1]; simp only [hg1, hg2]; have hbk := (Blk.new (w.alloc (.cells #[.int .i64 p.id, .slice a1 n1 c1, .int .i64 p.left, .int .i64 p.right, .slice a2 n2 c2] 41)) [.int .i64 0, .slice none 0 0, .int .i64 0, .int .i64 0, .slice none 0 0] 41); simpa using hbk
 have Hw1 := lH hw1
 have Hg1 := lH hg1
 have Hg2 := lH hg2
 replace EX := EX.nx kk
 have hg1' : w.heap.size ≤ g1 := by omega
 have hg2' : w.heap.size ≤ g2 := by omega
 have h12 : ¬ g1 = g2 := by omega
 have h21 : ¬ g2 = g1 := by omega
 clear kk hw1 hg1 hg2
 go_enter Tryz.func88, Tryz.ntmps88
 go_upto_region 1 with fail
 rw [← Hw1.out, ← Hg2.out, ← Hg1.out]
 clear Hw1 Hg2 Hg1
 have hz1 := EX.size
 have q1 := B1.cell 1 _ rfl
 have h1 := S1.out.nx EX
 have own0 : OwnL 1 encI 3 w1.heap.size w1 (.slice none 0 0) [] := OwnL.nil _ _ _ _ _
 go_upto_region 2 with (at_builtin; (refine wpList_append_rqW (enc := encI) w1 rfl (.const (.slice none 0 0)) (.tmp 4) 22 rfl w1.heap.size 3 (.int .i64 0) 1 8 Tryz.underlying22 Tryz.infoI6 rfl (by omega) (by omega) _ [] own0 rfl a1 n1 c1 p.known h1 (fun _ => rfl) (by simp [encI, Value.oneCell']) rfl (by omega) (by simp; omega) (Nat.le_refl _) ?_); intro v1 w2 own1 ch0 ch1; rw [List.nil_append] at own1; obtain ⟨A1, C1, rfl, _, _, _, _⟩ := own1.slf (fun _ => rfl); have f1 := (B1.nx ch1).free 1; have r1 := (B1.nx ch1).cell 1 _ rfl; clear q1)
 have k2 : Ex w1 w2 := ch1
 have L1 := B1.lt
 have L2 := B2.lt
 have k3 : Ex w w2 := EX.nx k2
 obtain ⟨w3, hw3⟩ : ∃ w3, w3 = w2.setCell ⟨g1, 1, none⟩ (.slice A1 p.known.length C1) := ⟨_, rfl⟩
 have k4 : Ex w w3 := by rw [hw3]; exact k3.setNew (p := ⟨g1, 1, none⟩) _ hg1'
 have k5 : Exb g1 w2 w3 := by rw [hw3]; exact (Exb.refl g1 w2).setB (p := ⟨g1, 1, none⟩) _ rfl
 replace B1 : Blk w3 g1 [.int .i64 p.id, .slice A1 p.known.length C1, .int .i64 p.left, .int .i64 p.right, .slice a2 n2 c2] 41 := by rw [hw3]; exact (B1.nx k2).set 1 _
 replace B2 := (B2.nx k2).nxb h21 k5
 replace own1 := own1.nxb L1 k5
 have z3 : w1.heap.size ≤ w3.heap.size := Nat.le_trans k2.size k5.size
 rw [← hw3]
 clear hw3 f1 r1 own0 h1 ch0 ch1 k2 k3 k5
 have q4 := B1.cell 4 _ rfl
 have h2 := S2.out.nx k4
 have own0 : OwnL 4 encNr 50 w3.heap.size w3 (.slice none 0 0) [] := OwnL.nil _ _ _ _ _
 go_upto_region 3 with (at_builtin; (refine wpList_append_rqW (enc := encNr) w3 rfl (.const (.slice none 0 0)) (.tmp 8) 39 rfl w3.heap.size 50 (.agg #[.int .i64 0, .int .i64 0, .int .i64 0, .int .i64 0]) 4 32 Tryz.underlying39 Tryz.infoNr rfl (by omega) (by omega) _ [] own0 rfl a2 n2 c2 p.near h2 (fun _ => rfl) (by simp [encNr, Value.oneCell']) rfl (by omega) (by simp; omega) (Nat.le_refl _) ?_); intro v4 w4 own4 ch0 ch1; rw [List.nil_append] at own4; obtain ⟨A4, C4, rfl, _, _, _, _⟩ := own4.slf (fun _ => rfl); have f1 := (B1.nx ch1).free 4; have r1 := (B1.nx ch1).cell 4 _ rfl; clear q4)
 have k2 : Ex w3 w4 := ch1
 have L3 := B1.lt
 have k6 : Ex w w4 := k4.nx k2
 replace own1 := own1.nx k2
 obtain ⟨w5, hw5⟩ : ∃ w5, w5 = w4.setCell ⟨g1, 4, none⟩ (.slice A4 p.near.length C4) := ⟨_, rfl⟩
 have k7 : Ex w w5 := by rw [hw5]; exact k6.setNew (p := ⟨g1, 4, none⟩) _ hg1'
 have k8 : Exb g1 w4 w5 := by rw [hw5]; exact (Exb.refl g1 w4).setB (p := ⟨g1, 4, none⟩) _ rfl
 replace B1 : Blk w5 g1 [.int .i64 p.id, .slice A1 p.known.length C1, .int .i64 p.left, .int .i64 p.right, .slice A4 p.near.length C4] 41 := by rw [hw5]; exact (B1.nx k2).set 4 _
 replace B2 := (B2.nx k2).nxb h21 k8
 replace own1 := own1.nxb L1 k8
 replace own4 := own4.nxb L3 k8
 rw [← hw5]
 clear hw5 f1 r1 own0 h2 ch0 ch1 k2 k6 k8
 have p0 := B1.cell 0 _ rfl
 have p1 := B1.cell 1 _ rfl
 have p2 := B1.cell 2 _ rfl
 have p3 := B1.cell 3 _ rfl
 have p4 := B1.cell 4 _ rfl
 have q0 := B2.cell 0 _ rfl
 have q1 := B2.cell 1 _ rfl
 have q2 := B2.cell 2 _ rfl
 have q3 := B2.cell 3 _ rfl
 have q4 := B2.cell 4 _ rfl
 have f0 := B2.free 0
 have f1 := B2.free 1
 have f2 := B2.free 2
 have f3 := B2.free 3
 have f4 := B2.free 4
 have KE := lH (((((k7.setNew (p := ⟨g2, 0, none⟩) (.int .i64 p.id) hg2').setNew (p := ⟨g2, 1, none⟩) (.slice A1 p.known.length C1) hg2').setNew (p := ⟨g2, 2, none⟩) (.int .i64 p.left) hg2').setNew (p := ⟨g2, 3, none⟩) (.int .i64 p.right) hg2').setNew (p := ⟨g2, 4, none⟩) (.slice A4 p.near.length C4) hg2')
 have KB : Exb g2 w5 (((((w5.setCell ⟨g2, 0, none⟩ (.int .i64 p.id)).setCell ⟨g2, 1, none⟩ (.slice A1 p.known.length C1)).setCell ⟨g2, 2, none⟩ (.int .i64 p.left)).setCell ⟨g2, 3, none⟩ (.int .i64 p.right)).setCell ⟨g2, 4, none⟩ (.slice A4 p.near.length C4)) :=
  (((((Exb.refl g2 w5).setB (p := ⟨g2, 0, none⟩) _ rfl).setB (p := ⟨g2, 1, none⟩) _ rfl).setB (p := ⟨g2, 2, none⟩) _ rfl).setB (p := ⟨g2, 3, none⟩) _ rfl).setB (p := ⟨g2, 4, none⟩) _ rfl
 have O1 := lH ((own1.nxb L2 KB).base hz1)
 have O4 := lH ((own4.nxb (show g2 < w3.heap.size by omega) KB).base (show w.heap.size ≤ w3.heap.size by omega))
 clear B1 B2 own1 own4 KB k4 k7 EX
 go_wp2_with fail
 refine bodyPost_ret (v := .agg #[.int .i64 p.id, .slice A1 p.known.length C1, .int .i64 p.left, .int .i64 p.right, .slice A4 p.near.length C4]) (by simp [results, Tryz.results88, go_sem, *]) rfl ⟨(A1, p.known.length, C1), (A4, p.near.length, C4), rfl, O1.out, O4.out, KE.out⟩
end Go.Proofs.YtlgdjigocopglaaGreatDoor
