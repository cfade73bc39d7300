/- Texts for RepairReachesProof. -/
import Derived.Test.YtofmcalfbpjoeaaGreatDoorRpAll1
import Derived.Test.YtofmcalfbpjoeaaGreatDoorRpAll3
import Derived.Test.YtofmcalfbpjoeaaGreatDoorRpAll6
import Derived.Test.YtofmcalfbpjoeaaGreatDoorRpAll11
import Derived.Test.YtofmcalfbpjoeaaGreatDoorRpAll12
import Derived.Test.YtofmcalfbpjoeaaGreatDoorRpAll14
import Derived.Test.YtofmcalfbpjoeaaGreatDoorRpAll16
import Derived.Test.YtofmcalfbpjoeaaGreatDoorRpAll20
import Derived.Test.YtofmcalfbpjoeaaGreatDoorRpAll22
import Derived.Test.YtofmcalfbpjoeaaGreatDoorRpAll24
import Derived.Test.YtofmcalfbpjoeaaGreatDoorRpABCE1
import Derived.Test.YtofmcalfbpjoeaaGreatDoorRpAB1

namespace Go.Proofs.YtofmcalfbpjoeaaGreatDoor
open Go.RowKit
theorem run_copy_rowN {P : Program} (w : World) (dT sT ty elem : TypeId) (sz g o dLen dCap n : Nat) (a : Addr) (sLen sCap : Nat) (cur : Array Value) (t : TypeId) (cs : List Value)
  (hu : P.underlying dT = some (.slice elem)) (hs : (P.info? elem).map (·.size) = some sz)
  (hg : w.heap[g]? = some (.cells cur t (0, 0))) (hn : n = Nat.min sLen dLen) (hcs : cs.length = n * sz)
  (hsrc : ∀ j v, cs[j]? = some v → w.cell? (a.add j) = some v) (hfit : o + cs.length ≤ cur.size) (h1 : ∀ v ∈ cs, v.oneCell' = true) :
  (Builtin.copy_ #[dT, sT] ty #[.slice (some ⟨g, o, none⟩) dLen dCap, .slice (some a) sLen sCap]).run P w =
   .ok (goInt n) (w.setRow g (cur.toList.take o ++ cs ++ cur.toList.drop (o + cs.length)).toArray) := by
 have hl := run_loadCells_list (P := P) w a cs hsrc
 have hst := run_storeCells_at P g o t cs 0 cur w hg (by simpa using hfit) h1
 cases hq : P.info? elem with
 | none => simp [hq] at hs
 | some i =>
  have hi : i.size = sz := by simpa [hq] using hs
  rw [hcs] at hl
  simp [Builtin.copy_, run_underlying hu, Builtin.lenOf, Builtin.firstCells, sizeOf, typeInfo, hq, hi, ← hn, hl, hst]
theorem run_copy_none0 {P : Program} (w : World) (dT sT ty elem : TypeId) (sz : Nat) (d a : Option Addr) (dLen dCap sLen sCap : Nat) (hu : P.underlying dT = some (.slice elem)) (hs : (P.info? elem).map (·.size) = some sz)
  (hn : Nat.min sLen dLen = 0) : (Builtin.copy_ #[dT, sT] ty #[.slice d dLen dCap, .slice a sLen sCap]).run P w = .ok (goInt 0) w := by
 cases hq : P.info? elem with
 | none => simp [hq] at hs
 | some i =>
  cases d <;> cases a <;> simp [Builtin.copy_, run_underlying hu, Builtin.lenOf, Builtin.firstCells, sizeOf, typeInfo, hq, hn, storeCells, loadCells, loadCellsFrom]
section
variable {α : Type} {sz : Nat} {enc : α → List Value}
theorem flatN_drop (hsz : ∀ y, (enc y).length = sz) : ∀ (l : List α) (m : Nat), (l.drop m).flatMap enc = (l.flatMap enc).drop (m * sz)
 | [], m => by simp
 | y :: r, 0 => by simp
 | y :: r, m + 1 => by
  rw [List.drop_succ_cons, List.flatMap_cons, flatN_drop hsz r m, Nat.succ_mul, Nat.add_comm (m * sz), List.drop_append, hsz,
   List.drop_of_length_le (l := enc y) (by rw [hsz]; omega), Nat.add_sub_cancel_left, List.nil_append]
theorem wp_copy_shift {P : Program} {o : Oper} {a : Act} {K : Act → World → Prop} {Q : Exit → Act → World → Prop} (w : World) (d s : Operand) (t : TypeId)
  (ho : o.op = .call { callee := .builtin .copy, args := #[d, s], argTypes := #[t, t] }) (base : Nat) (e : TypeId) (hu : P.underlying t = some (.slice e)) (hi : (P.info? e).map (·.size) = some sz)
  (hsz : ∀ y, (enc y).length = sz) (h1 : ∀ y, ∀ u ∈ enc y, u.oneCell' = true)
  (g n cap m : Nat) (L : List α) (hown : OwnL sz enc e base w (.slice (some ⟨g, 0, none⟩) (n + 1) cap) L) (hm : m ≤ n) (dp sp : Option Addr) (cd cs : Nat)
  (hd : a.eval d = .slice dp (n - m) cd) (hs : a.eval s = .slice sp (n + 1 - m) cs) (hp : m < n → dp = some ⟨g, (m + 1) * sz, none⟩ ∧ sp = some ⟨g, m * sz, none⟩)
  (h : ∀ w', OwnL sz enc e base w' (.slice (some ⟨g, 0, none⟩) (n + 1) cap) (L.take (m + 1) ++ (L.drop m).take (n - m)) → Chg (· ≠ g) w w' → w'.heap.size = w.heap.size → K (a.put o.dst (goInt (n - m : Nat))) w') : o.wp P a w K Q := by
 have hL : L.length = n + 1 := by
  rcases hown.2 with ⟨h1, _⟩ | ⟨g', cap', cur, e1, _⟩
  ·cases h1
  ·have e2 : g = g' ∧ n + 1 = L.length ∧ cap = cap' := by simpa using e1
   exact e2.2.1.symm
 rcases Nat.lt_or_ge m n with hlt | hge
 ·obtain ⟨rfl, rfl⟩ := hp hlt
  rcases hown.2 with ⟨h1', _⟩ | ⟨g', cap', cur, e1, e2, e3, e4, e5, e6, e7⟩
  ·cases h1'
  ·obtain ⟨rfl, hLn, rfl⟩ : g = g' ∧ n + 1 = L.length ∧ cap = cap' := by simpa using e1
   rw [← hLn] at e4 e7
   have hfl : (((L.drop m).take (n - m)).flatMap enc).length = (n - m) * sz := by rw [flatN_len hsz, List.length_take, List.length_drop]; congr 1; omega
   have hmul : (m + 1) * sz + (n - m) * sz = (n + 1) * sz := by rw [← Nat.add_mul]; congr 1; omega
   have hle : (n + 1) * sz ≤ cap * sz := Nat.mul_le_mul_right _ (by omega)
   have hrun := run_copy_rowN (P := P) w t t o.type e sz g ((m + 1) * sz) (n - m) cd (n - m) ⟨g, m * sz, none⟩ (n + 1 - m) cs cur e (((L.drop m).take (n - m)).flatMap enc) hu hi e3
    (by show n - m = min _ _; omega) hfl
    (fun j v hj => by
     rw [Addr.add_lit, World.cell?, e3]
     show cur[m * sz + j]? = some v
     have hjl := (List.getElem?_eq_some_iff.1 hj).1
     rw [hfl] at hjl
     rw [flatN_take hsz, flatN_drop hsz, List.getElem?_take, if_pos hjl, List.getElem?_drop, ← e7, List.getElem?_take] at hj
     split at hj
     ·simpa using hj
     ·cases hj)
    (by rw [hfl, hmul, e6]; exact hle) (fun v hv => by obtain ⟨y, _, hy⟩ := List.mem_flatMap.1 hv; exact h1 y v hy)
   unfold Oper.wp execOp
   simp only [ho, resolve, invoke, builtin, Sem.run_bind, Sem.run_pure, Result.andThen_ok, List.map_toArray, List.map_cons, List.map_nil, hd, hs, hrun]
   refine h _ ⟨?_, .inr ⟨g, cap, _, ?_, e2, setRow_heap w g cur _ e _ e3, ?_, e5, ?_, ?_⟩⟩ ⟨rfl, rfl, rfl, by simp [World.setRow], fun k hk => setRow_other w g k _ hk⟩ (by simp [World.setRow])
   ·rw [flatN_len hsz]
   ·congr 1
    rw [List.length_append, List.length_take, List.length_take, List.length_drop]; omega
   ·rw [List.length_append, List.length_take, List.length_take, List.length_drop]; omega
   ·simp only [List.size_toArray, List.length_append, List.length_take, List.length_drop, Array.length_toList, hfl]; omega
   ·rw [List.length_append, List.length_take, List.length_take, List.length_drop, List.flatMap_append, flatN_take hsz L, ← e7]
    rw [List.take_take, show (min (m + 1) L.length + min (n - m) (L.length - m)) = n + 1 by omega, show min ((m + 1) * sz) ((n + 1) * sz) = (m + 1) * sz from Nat.min_eq_left (Nat.mul_le_mul_right _ (by omega))]
    show (_ ++ _ ++ _ : List Value).take _ = _
    rw [List.append_assoc]
    have hA : (cur.toList.take ((m + 1) * sz)).length = (m + 1) * sz := by rw [List.length_take, Array.length_toList, e6]; exact Nat.min_eq_left (by omega)
    rw [List.take_append, hA, List.take_of_length_le (by omega), ← hmul, Nat.add_sub_cancel_left, List.take_append, hfl, Nat.sub_self, List.take_of_length_le (l := List.flatMap enc _) (by rw [hfl]; exact Nat.le_refl _), List.take_zero, List.append_nil]
 ·obtain rfl : m = n := by omega
  have hrun := run_copy_none0 (P := P) w t t o.type e sz dp sp (m - m) cd (m + 1 - m) cs hu hi (by show min _ _ = 0; omega)
  unfold Oper.wp execOp
  simp only [ho, resolve, invoke, builtin, Sem.run_bind, Sem.run_pure, Result.andThen_ok, List.map_toArray, List.map_cons, List.map_nil, hd, hs, hrun]
  have := h w (by rw [Nat.sub_self, List.take_zero, List.append_nil, List.take_of_length_le (by omega)]; exact hown) (Chg.refl _ _) rfl
  rw [Nat.sub_self] at this
  exact this
end
theorem sortN_snoc (l : List Nd) (k : Nat) (y : Nd) (hy : l[k]? = some y) : sortN (l.take (k + 1)) = insN (sortN (l.take k)) y := by
 unfold sortN
 rw [take_snocN l k y hy, List.foldl_append]
 rfl
theorem shift_set (out : List Nd) (y : Nd) (j : Nat) (hj : j ≤ out.length) (L7 : List Nd) (hL : L7 = out ++ [(⟨0, ByteArray.empty, 0⟩ : Nd)]) :
  (L7.take (j + 1) ++ (L7.drop j).take (out.length - j)).set j y = L7.take j ++ y :: out.drop j := by
 have hl : L7.length = out.length + 1 := by rw [hL]; simp
 have h1 : (L7.drop j).take (out.length - j) = out.drop j := by
  rw [hL, List.drop_append_of_le_length hj, List.take_append_of_le_length (by simp), List.take_of_length_le (by simp)]
 have h2 : L7.take (j + 1) = L7.take j ++ [L7[j]'(by omega)] := by rw [List.take_succ_eq_append_getElem (by omega)]
 rw [h1, h2, List.append_assoc, List.set_append_right _ _ (by simp; omega)]
 congr 1
 have : j - (L7.take j).length = 0 := by simp; omega
 rw [this]
 rfl
def SoRel (l : List Nd) (n : Nat) (w : World) (o i : Value) (wr : World) : Prop :=
 ∃ k : Nat, k ≤ n ∧ i = .int .i64 k ∧ OwnL 3 encN 78 w.heap.size wr o (sortN (l.take k)) ∧ Ex w wr
def AtRel (out : List Nd) (x : Nd) (w : World) (j : Value) (wr : World) : Prop :=
 ∃ k : Nat, k ≤ out.length ∧ j = .int .i64 k ∧ atN out x out.length = atN out x k ∧ Ex w wr
set_option maxRecDepth 100000 in
set_option maxHeartbeats 4000000 in
theorem sort_r (a : Option Addr) (n cp : Nat) (l : List Nd) (w : World) (h : Sl 3 encN w a n l) (hn : n ≤ 1000) :
  Calls Tryz.prog 138 #[.slice a n cp] w (NodesPost (sortN l) w) := by
 have HL := Lib.hid h.len
 have hs := Lib.hid h
 clear h
 go_enter Tryz.func138, Tryz.ntmps138
 go_wp2_with fail
 go_loopw [3, 4] (fun o i wr => SoRel l n w o i wr) (fun _ i _ => n - (intOf i).toNat)
 case atStart => exact ⟨0, by omega, rfl, OwnL.nil _ _ _ _ _, Ex.refl _⟩
 case round =>
  obtain ⟨k, hk, rfl, own, kw⟩ := hrel
  obtain ⟨wo, rfl⟩ : ∃ wo : World, wo = wr := ⟨_, rfl⟩
  by_cases hlt : k < n
  ·obtain ⟨x1, o1, y, rfl, hx1, hy, hc1⟩ := (hs.out.nx kw).at hlt
   have e0 : wo.cell? ⟨x1, o1 + k * 3, none⟩ = some (.int .i64 y.id) := hc1 0 _ rfl
   have e1 : wo.cell? ⟨x1, o1 + k * 3 + 1, none⟩ = some (.string y.key) := hc1 1 _ rfl
   have e2 : wo.cell? ⟨x1, o1 + k * 3 + 1 + 1, none⟩ = some (.int .u32 y.word) := by simpa [Nat.add_assoc] using hc1 2 _ rfl
   have FS := Lib.hid (sortN_snoc l k y hy)
   have hFL : (sortN (l.take k)).length = k := by rw [sortN_length, List.length_take, HL.out]; omega
   generalize sortN (l.take k) = out at own FS hFL
   obtain ⟨a3, cap3, rfl, r3, c3, m3, nil3⟩ := own.slf (fun _ => rfl)
   have hol : out.length ≤ 1000 := by omega
   have HY := Lib.hid hy
   have HFL := Lib.hid hFL
   have OWN := Lib.hid own
   have NIL := Lib.hid nil3
   have E0 := Lib.hid e0
   have E1 := Lib.hid e1
   have E2 := Lib.hid e2
   clear own hc1 hy e0 e1 e2 nil3 hFL
   go_wp2_with fail
   go_loopw [5] (fun j wr => AtRel out y wo j wr) (fun j _ => (intOf j).toNat)
   case atStart => exact ⟨out.length, Nat.le_refl _, rfl, rfl, Ex.refl _⟩
   case round =>
    obtain ⟨j, hj, rfl, hat, ki⟩ := hrel
    have HAT := Lib.hid hat
    obtain ⟨wi, rfl⟩ : ∃ wi : World, wi = wr := ⟨_, rfl⟩
    clear hat
    have hz0 := ki.size
    by_cases hj0 : 0 < j
    ·obtain ⟨x2, o2, z, rfl, hx2, hzz, hc2⟩ := ((r3.sl).nx ki).at (j := j - 1) (by omega)
     have f0 : wi.cell? ⟨x2, o2 + (j - 1) * 3, none⟩ = some (.int .i64 z.id) := hc2 0 _ rfl
     have f1 : wi.cell? ⟨x2, o2 + (j - 1) * 3 + 1, none⟩ = some (.string z.key) := hc2 1 _ rfl
     have g0 := Chg.cellv ki E0.out hx1
     have g1 := Chg.cellv ki E1.out hx1
     have hj1 : (j : Int) - 1 = ((j - 1 : Nat) : Int) := by omega
     have ZZ := Lib.hid hzz
     have STOP : gtN z y = false → atN out y out.length = j := fun h => by
      rw [HAT.out]
      obtain ⟨m, rfl⟩ : ∃ m, j = m + 1 := ⟨j - 1, by omega⟩
      unfold atN
      rw [show m = m + 1 - 1 from rfl, ZZ.out]
      simp [h]
     have GOON : gtN z y = true → atN out y out.length = atN out y (j - 1) := fun h => by
      rw [HAT.out]
      obtain ⟨m, rfl⟩ : ∃ m, j = m + 1 := ⟨j - 1, by omega⟩
      conv => lhs; unfold atN
      rw [show out[m]? = some z from ZZ.out]
      simp [h]
     have GT : gtN z y = (!(Op.bytesLess z.key.toList y.key.toList || z.key.toList == y.key.toList) || (z.key.toList == y.key.toList && decide (y.id < z.id))) := rfl
     clear hc2 hzz
     cases hb : Op.bytesLess z.key.toList y.key.toList with
     | true =>
      have he : (z.key.toList == y.key.toList) = false := by
       cases he : (z.key.toList == y.key.toList) with
       | false => rfl
       | true => rw [eq_of_beq he, bytesLess_irrefl] at hb; cases hb
      have HAT' := Lib.hid (STOP (by rw [GT, hb, he]; rfl))
      clear STOP GOON GT
      go_wp2_with fail
      go_quiet (fail)
      clear f0 f1 g0 g1 hb he
      have hz : w.heap.size ≤ wi.heap.size := Nat.le_trans kw.size ki.size
      go_upto_region 9 with (at_builtin; (refine wpList_append_lit (enc := encN) _ rfl _ _ 23 rfl w.heap.size 78 (.agg #[.int .i64 0, .string ByteArray.empty, .int .u32 0]) 3 32 Tryz.underlying23 Tryz.infoN rfl (by omega) (by omega) _ _ (OWN.out.nx (ki.drewN _)) rfl (⟨0, ByteArray.empty, 0⟩ : Nd) _ rfl rfl (by simp [encN, Value.oneCell']) _ (by simp) rfl (by omega) (by exact hz) _ ?_); intro v7 w7 own7 _ ch1 _)
      have k7 : Ex w w7 := Chg.trans (kw.nx (ki.drewN _)) ch1
      obtain ⟨L7, hL7⟩ : ∃ L7, L7 = out ++ [(⟨0, ByteArray.empty, 0⟩ : Nd)] := ⟨_, rfl⟩
      rw [← hL7] at own7
      have hl7 : L7.length = out.length + 1 := by rw [hL7]; simp
      obtain ⟨A7, cap7, rfl, _, c7, m7, some7⟩ := own7.rd (fun _ => rfl)
      obtain ⟨g7, rfl, hg7⟩ := some7 (by intro h0; rw [h0] at hl7; simp at hl7)
      rw [hl7] at own7 c7 ⊢
      have STEP : Hid (insN out y = L7.take j ++ y :: out.drop j) := Lib.hid (by unfold insN; rw [HAT'.out, hL7, List.take_append_of_le_length hj])
      have SH : Hid ((L7.take (j + 1) ++ (L7.drop j).take (out.length - j)).set j y = L7.take j ++ y :: out.drop j) := Lib.hid (shift_set out y j hj L7 hL7)
      have hcj : (j : Int) + 1 ≤ (cap7 : Int) := by omega
      have hcj2 : j + 1 ≤ cap7 := by omega
      have hjo : (j : Int) ≤ (out.length : Int) := by omega
      have jw : IntKind.i64.wrap ((j : Int) + 1) = (j : Int) + 1 := IntWalk.i64_in _ (by omega)
      have j0' : (0 : Int) ≤ (j : Int) + 1 := by omega
      have jt : ((j : Int) + 1).toNat = j + 1 := by omega
      have jc : ¬ cap7 = j := by omega
      have hjo2 : (j : Int) ≤ (out.length : Int) + 1 := by omega
      clear hL7 hl7 some7 ch1 hz ki HAT'
      go_wp2_with fail
      refine wp_region_held_drew (S := fun _ => True) (by kernel_rfl) (trivial) (fun hHeld => ?_)
      refine wpAnyH_take (i := 0) (oi := ⟨_, _, _, _, _, _⟩) (v := ?_) rfl (by kernel_rfl) (by kernel_rfl) (by kernel_rfl) (fun _ _ _ h => h) (Or.inl ⟨by rfl, ?hyr1x0q1⟩) (by assumption) ?restr1x0q1
      case hyr1x0q1 => intro wq hSw; (go_simp); (try with_reducible rfl)
      try simp only [Act.put, List.setIfInBounds_toArray, List.set_cons_zero, List.set_cons_succ]
      refine wpAnyH_take (i := 1) (oi := ⟨_, _, _, _, _, _⟩) (v := ?_) rfl (by kernel_rfl) (by kernel_rfl) (by kernel_rfl) (fun _ _ _ h => h) (Or.inl ⟨by rfl, ?hyr1x1q4⟩) (by assumption) ?restr1x1q4
      case hyr1x1q4 => intro wq hSw; (go_simp); (try with_reducible rfl)
      try simp only [Act.put, List.setIfInBounds_toArray, List.set_cons_zero, List.set_cons_succ]
      refine wpAnyH_take (i := 2) (oi := ⟨_, _, _, _, _, _⟩) (v := ?_) rfl (by kernel_rfl) (by kernel_rfl) (by kernel_rfl) (fun _ _ _ h => h) (Or.inl ⟨by rfl, ?hyr1x2q7⟩) (by assumption) ?restr1x2q7
      case hyr1x2q7 => intro wq hSw; (go_simp); (try with_reducible rfl)
      try simp only [Act.put, List.setIfInBounds_toArray, List.set_cons_zero, List.set_cons_succ]
      refine wpAnyH_take (i := 3) (oi := ⟨_, _, _, _, _, _⟩) (v := ?_) rfl (by kernel_rfl) (by kernel_rfl) (by kernel_rfl) (fun _ _ _ h => h) (Or.inl ⟨by rfl, ?hyr1x3q10⟩) (by assumption) ?restr1x3q10
      case hyr1x3q10 => intro wq hSw; (go_simp); (try with_reducible rfl)
      try simp only [Act.put, List.setIfInBounds_toArray, List.set_cons_zero, List.set_cons_succ]
      refine wpAnyH_take (i := 4) (oi := ⟨_, _, _, _, _, _⟩) (v := ?_) rfl (by kernel_rfl) (by kernel_rfl) (by kernel_rfl) (fun _ _ _ h => h) (Or.inl ⟨by rfl, ?hyr1x4q13⟩) (by assumption) ?restr1x4q13
      case hyr1x4q13 => intro wq hSw; (go_simp); (try with_reducible rfl)
      try simp only [Act.put, List.setIfInBounds_toArray, List.set_cons_zero, List.set_cons_succ]
      refine wpAnyH_take (i := 5) (oi := ⟨_, _, _, _, _, _⟩) (v := ?_) rfl (by kernel_rfl) (by kernel_rfl) (by kernel_rfl) (fun _ _ _ h => h) (Or.inl ⟨by rfl, ?hyr1x5q16⟩) (by assumption) ?restr1x5q16
      case hyr1x5q16 => intro wq hSw; (go_simp); (try with_reducible rfl)
      try simp only [Act.put, List.setIfInBounds_toArray, List.set_cons_zero, List.set_cons_succ]
      refine wpAnyH_take (i := 6) (oi := ⟨_, _, _, _, _, _⟩) (v := ?_) rfl (by kernel_rfl) (by kernel_rfl) (by kernel_rfl) (fun _ _ _ h => h) (Or.inl ⟨by rfl, ?hyr1x6q19⟩) (by assumption) ?restr1x6q19
      case hyr1x6q19 => intro wq hSw; (go_simp); (try with_reducible rfl)
      try simp only [Act.put, List.setIfInBounds_toArray, List.set_cons_zero, List.set_cons_succ]
      refine wpAnyH_ready (rs := [7]) (by kernel_rfl) (by simp) ?_
      refine AllReadyH.cons (o := ⟨_, _, _, _, _, _⟩) rfl (fun K hK => ?_) AllReadyH.nil
      rw [if_pos (by rfl)]
      refine wp_copy_shift (enc := encN) (sz := 3) _ (.tmp 67) (.tmp 70) 23 rfl w.heap.size 78 Tryz.underlying23 (by kernel_rfl) (fun _ => rfl) (by simp [encN, Value.oneCell']) g7 out.length cap7 j L7 own7 hj _ _ _ _ rfl rfl (fun hlt => ⟨by rw [if_neg (by omega)], rfl⟩) ?_
      intro w8 own8 ch8 sz8
      refine hK.out _ _ (trivial) (fun hHeld => ?_)
      clear hK K
      try simp only [Act.put, List.setIfInBounds_toArray, List.set_cons_zero, List.set_cons_succ]
      refine wpAnyH_done (by kernel_rfl) ?_ _
      have k8 : Ex w w8 := Chg.trans k7.drew (ch8.mono (fun x (hx : x < w.heap.size) => by omega))
      obtain ⟨x5, o5, y5, he5, hx5, hy5, hc5⟩ := (hs.out.nx k8).at hlt
      cases he5
      obtain rfl : y = y5 := Option.some.inj (HY.out.symm.trans hy5)
      have b0 : w8.cell? ⟨x1, o1 + k * 3, none⟩ = some (.int .i64 y.id) := hc5 0 _ rfl
      have b1 : w8.cell? ⟨x1, o1 + k * 3 + 1, none⟩ = some (.string y.key) := hc5 1 _ rfl
      have b2 : w8.cell? ⟨x1, o1 + k * 3 + 1 + 1, none⟩ = some (.int .u32 y.word) := by simpa [Nat.add_assoc] using hc5 2 _ rfl
      obtain ⟨⟨va, vb, vc, d0, d1, d2⟩, fz, OS⟩ := own_set3 own8 (j := j) (by omega) y
      have fz0 := fz (j * 3)
      have fz1 := fz (j * 3 + 1)
      have fz2 := fz (j * 3 + 1 + 1)
      clear hc5 hy5 own8 ch8 fz
      go_wp2_with fail
      exact ⟨⟨k + 1, by omega, by go_num, by rw [FS.out, STEP.out, ← SH.out]; exact OS, ((k8.setNew (p := ⟨g7, j * 3, none⟩) _ hg7).setNew (p := ⟨g7, j * 3 + 1, none⟩) _ hg7).setNew (p := ⟨g7, j * 3 + 2, none⟩) _ hg7⟩, by simp [intOf]; omega⟩
     | false =>
      cases he : (z.key.toList == y.key.toList) with
      | true =>
       by_cases hid : y.id < z.id
       ·have hN := Lib.hid (GOON (by rw [GT]; simp [hb, he, hid]))
        clear STOP GOON GT
        go_wp2_with fail
        go_quiet (fail)
        go_wp2_with fail
        exact ⟨⟨j - 1, by omega, by first | rfl | rw [hj1], hN.out, ki.drewN _⟩, by simp [intOf]; omega⟩
       ·have HAT' := Lib.hid (STOP (by rw [GT]; simp [hb, he, hid]))
        clear STOP GOON GT
        go_wp2_with fail
        go_quiet (fail)
        clear f0 f1 g0 g1
        have hz : w.heap.size ≤ wi.heap.size := Nat.le_trans kw.size ki.size
        go_upto_region 9 with (at_builtin; (refine wpList_append_lit (enc := encN) _ rfl _ _ 23 rfl w.heap.size 78 (.agg #[.int .i64 0, .string ByteArray.empty, .int .u32 0]) 3 32 Tryz.underlying23 Tryz.infoN rfl (by omega) (by omega) _ _ (OWN.out.nx (ki.drewN _)) rfl (⟨0, ByteArray.empty, 0⟩ : Nd) _ rfl rfl (by simp [encN, Value.oneCell']) _ (by simp) rfl (by omega) (by exact hz) _ ?_); intro v7 w7 own7 _ ch1 _)
        have k7 : Ex w w7 := Chg.trans (kw.nx (ki.drewN _)) ch1
        obtain ⟨L7, hL7⟩ : ∃ L7, L7 = out ++ [(⟨0, ByteArray.empty, 0⟩ : Nd)] := ⟨_, rfl⟩
        rw [← hL7] at own7
        have hl7 : L7.length = out.length + 1 := by rw [hL7]; simp
        obtain ⟨A7, cap7, rfl, _, c7, m7, some7⟩ := own7.rd (fun _ => rfl)
        obtain ⟨g7, rfl, hg7⟩ := some7 (by intro h0; rw [h0] at hl7; simp at hl7)
        rw [hl7] at own7 c7 ⊢
        have STEP : Hid (insN out y = L7.take j ++ y :: out.drop j) := Lib.hid (by unfold insN; rw [HAT'.out, hL7, List.take_append_of_le_length hj])
        have SH : Hid ((L7.take (j + 1) ++ (L7.drop j).take (out.length - j)).set j y = L7.take j ++ y :: out.drop j) := Lib.hid (shift_set out y j hj L7 hL7)
        have hcj : (j : Int) + 1 ≤ (cap7 : Int) := by omega
        have hcj2 : j + 1 ≤ cap7 := by omega
        have hjo : (j : Int) ≤ (out.length : Int) := by omega
        have jw : IntKind.i64.wrap ((j : Int) + 1) = (j : Int) + 1 := IntWalk.i64_in _ (by omega)
        have j0' : (0 : Int) ≤ (j : Int) + 1 := by omega
        have jt : ((j : Int) + 1).toNat = j + 1 := by omega
        have jc : ¬ cap7 = j := by omega
        have hjo2 : (j : Int) ≤ (out.length : Int) + 1 := by omega
        clear hL7 hl7 some7 ch1 hz ki HAT'
        go_wp2_with fail
        refine wp_region_held_drew (S := fun _ => True) (by kernel_rfl) (trivial) (fun hHeld => ?_)
        refine wpAnyH_take (i := 0) (oi := ⟨_, _, _, _, _, _⟩) (v := ?_) rfl (by kernel_rfl) (by kernel_rfl) (by kernel_rfl) (fun _ _ _ h => h) (Or.inl ⟨by rfl, ?hyr2x0q1⟩) (by assumption) ?restr2x0q1
        case hyr2x0q1 => intro wq hSw; (go_simp); (try with_reducible rfl)
        try simp only [Act.put, List.setIfInBounds_toArray, List.set_cons_zero, List.set_cons_succ]
        refine wpAnyH_take (i := 1) (oi := ⟨_, _, _, _, _, _⟩) (v := ?_) rfl (by kernel_rfl) (by kernel_rfl) (by kernel_rfl) (fun _ _ _ h => h) (Or.inl ⟨by rfl, ?hyr2x1q4⟩) (by assumption) ?restr2x1q4
        case hyr2x1q4 => intro wq hSw; (go_simp); (try with_reducible rfl)
        try simp only [Act.put, List.setIfInBounds_toArray, List.set_cons_zero, List.set_cons_succ]
        refine wpAnyH_take (i := 2) (oi := ⟨_, _, _, _, _, _⟩) (v := ?_) rfl (by kernel_rfl) (by kernel_rfl) (by kernel_rfl) (fun _ _ _ h => h) (Or.inl ⟨by rfl, ?hyr2x2q7⟩) (by assumption) ?restr2x2q7
        case hyr2x2q7 => intro wq hSw; (go_simp); (try with_reducible rfl)
        try simp only [Act.put, List.setIfInBounds_toArray, List.set_cons_zero, List.set_cons_succ]
        refine wpAnyH_take (i := 3) (oi := ⟨_, _, _, _, _, _⟩) (v := ?_) rfl (by kernel_rfl) (by kernel_rfl) (by kernel_rfl) (fun _ _ _ h => h) (Or.inl ⟨by rfl, ?hyr2x3q10⟩) (by assumption) ?restr2x3q10
        case hyr2x3q10 => intro wq hSw; (go_simp); (try with_reducible rfl)
        try simp only [Act.put, List.setIfInBounds_toArray, List.set_cons_zero, List.set_cons_succ]
        refine wpAnyH_take (i := 4) (oi := ⟨_, _, _, _, _, _⟩) (v := ?_) rfl (by kernel_rfl) (by kernel_rfl) (by kernel_rfl) (fun _ _ _ h => h) (Or.inl ⟨by rfl, ?hyr2x4q13⟩) (by assumption) ?restr2x4q13
        case hyr2x4q13 => intro wq hSw; (go_simp); (try with_reducible rfl)
        try simp only [Act.put, List.setIfInBounds_toArray, List.set_cons_zero, List.set_cons_succ]
        refine wpAnyH_take (i := 5) (oi := ⟨_, _, _, _, _, _⟩) (v := ?_) rfl (by kernel_rfl) (by kernel_rfl) (by kernel_rfl) (fun _ _ _ h => h) (Or.inl ⟨by rfl, ?hyr2x5q16⟩) (by assumption) ?restr2x5q16
        case hyr2x5q16 => intro wq hSw; (go_simp); (try with_reducible rfl)
        try simp only [Act.put, List.setIfInBounds_toArray, List.set_cons_zero, List.set_cons_succ]
        refine wpAnyH_take (i := 6) (oi := ⟨_, _, _, _, _, _⟩) (v := ?_) rfl (by kernel_rfl) (by kernel_rfl) (by kernel_rfl) (fun _ _ _ h => h) (Or.inl ⟨by rfl, ?hyr2x6q19⟩) (by assumption) ?restr2x6q19
        case hyr2x6q19 => intro wq hSw; (go_simp); (try with_reducible rfl)
        try simp only [Act.put, List.setIfInBounds_toArray, List.set_cons_zero, List.set_cons_succ]
        refine wpAnyH_ready (rs := [7]) (by kernel_rfl) (by simp) ?_
        refine AllReadyH.cons (o := ⟨_, _, _, _, _, _⟩) rfl (fun K hK => ?_) AllReadyH.nil
        rw [if_pos (by rfl)]
        refine wp_copy_shift (enc := encN) (sz := 3) _ (.tmp 67) (.tmp 70) 23 rfl w.heap.size 78 Tryz.underlying23 (by kernel_rfl) (fun _ => rfl) (by simp [encN, Value.oneCell']) g7 out.length cap7 j L7 own7 hj _ _ _ _ rfl rfl (fun hlt => ⟨by rw [if_neg (by omega)], rfl⟩) ?_
        intro w8 own8 ch8 sz8
        refine hK.out _ _ (trivial) (fun hHeld => ?_)
        clear hK K
        try simp only [Act.put, List.setIfInBounds_toArray, List.set_cons_zero, List.set_cons_succ]
        refine wpAnyH_done (by kernel_rfl) ?_ _
        have k8 : Ex w w8 := Chg.trans k7.drew (ch8.mono (fun x (hx : x < w.heap.size) => by omega))
        obtain ⟨x5, o5, y5, he5, hx5, hy5, hc5⟩ := (hs.out.nx k8).at hlt
        cases he5
        obtain rfl : y = y5 := Option.some.inj (HY.out.symm.trans hy5)
        have b0 : w8.cell? ⟨x1, o1 + k * 3, none⟩ = some (.int .i64 y.id) := hc5 0 _ rfl
        have b1 : w8.cell? ⟨x1, o1 + k * 3 + 1, none⟩ = some (.string y.key) := hc5 1 _ rfl
        have b2 : w8.cell? ⟨x1, o1 + k * 3 + 1 + 1, none⟩ = some (.int .u32 y.word) := by simpa [Nat.add_assoc] using hc5 2 _ rfl
        obtain ⟨⟨va, vb, vc, d0, d1, d2⟩, fz, OS⟩ := own_set3 own8 (j := j) (by omega) y
        have fz0 := fz (j * 3)
        have fz1 := fz (j * 3 + 1)
        have fz2 := fz (j * 3 + 1 + 1)
        clear hc5 hy5 own8 ch8 fz
        go_wp2_with fail
        exact ⟨⟨k + 1, by omega, by go_num, by rw [FS.out, STEP.out, ← SH.out]; exact OS, ((k8.setNew (p := ⟨g7, j * 3, none⟩) _ hg7).setNew (p := ⟨g7, j * 3 + 1, none⟩) _ hg7).setNew (p := ⟨g7, j * 3 + 2, none⟩) _ hg7⟩, by simp [intOf]; omega⟩
      | false =>
       have hN := Lib.hid (GOON (by rw [GT]; simp [hb, he]))
       clear STOP GOON GT
       go_wp2_with fail
       go_quiet (fail)
       go_wp2_with fail
       exact ⟨⟨j - 1, by omega, by first | rfl | rw [hj1], hN.out, ki.drewN _⟩, by simp [intOf]; omega⟩
    ·have HAT' : Hid (atN out y out.length = j) := Lib.hid (by rw [HAT.out, show j = 0 by omega]; simp [atN])
     go_wp2_with fail
     go_quiet (fail)
     have hz : w.heap.size ≤ wi.heap.size := Nat.le_trans kw.size ki.size
     go_upto_region 9 with (at_builtin; (refine wpList_append_lit (enc := encN) _ rfl _ _ 23 rfl w.heap.size 78 (.agg #[.int .i64 0, .string ByteArray.empty, .int .u32 0]) 3 32 Tryz.underlying23 Tryz.infoN rfl (by omega) (by omega) _ _ (OWN.out.nx (ki.drewN _)) rfl (⟨0, ByteArray.empty, 0⟩ : Nd) _ rfl rfl (by simp [encN, Value.oneCell']) _ (by simp) rfl (by omega) (by exact hz) _ ?_); intro v7 w7 own7 _ ch1 _)
     have k7 : Ex w w7 := Chg.trans (kw.nx (ki.drewN _)) ch1
     obtain ⟨L7, hL7⟩ : ∃ L7, L7 = out ++ [(⟨0, ByteArray.empty, 0⟩ : Nd)] := ⟨_, rfl⟩
     rw [← hL7] at own7
     have hl7 : L7.length = out.length + 1 := by rw [hL7]; simp
     obtain ⟨A7, cap7, rfl, _, c7, m7, some7⟩ := own7.rd (fun _ => rfl)
     obtain ⟨g7, rfl, hg7⟩ := some7 (by intro h0; rw [h0] at hl7; simp at hl7)
     rw [hl7] at own7 c7 ⊢
     have STEP : Hid (insN out y = L7.take j ++ y :: out.drop j) := Lib.hid (by unfold insN; rw [HAT'.out, hL7, List.take_append_of_le_length hj])
     have SH : Hid ((L7.take (j + 1) ++ (L7.drop j).take (out.length - j)).set j y = L7.take j ++ y :: out.drop j) := Lib.hid (shift_set out y j hj L7 hL7)
     have hcj : (j : Int) + 1 ≤ (cap7 : Int) := by omega
     have hcj2 : j + 1 ≤ cap7 := by omega
     have hjo : (j : Int) ≤ (out.length : Int) := by omega
     have jw : IntKind.i64.wrap ((j : Int) + 1) = (j : Int) + 1 := IntWalk.i64_in _ (by omega)
     have j0' : (0 : Int) ≤ (j : Int) + 1 := by omega
     have jt : ((j : Int) + 1).toNat = j + 1 := by omega
     have jc : ¬ cap7 = j := by omega
     have hjo2 : (j : Int) ≤ (out.length : Int) + 1 := by omega
     clear hL7 hl7 some7 ch1 hz ki HAT'
     go_wp2_with fail
     refine wp_region_held_drew (S := fun _ => True) (by kernel_rfl) (trivial) (fun hHeld => ?_)
     refine wpAnyH_take (i := 0) (oi := ⟨_, _, _, _, _, _⟩) (v := ?_) rfl (by kernel_rfl) (by kernel_rfl) (by kernel_rfl) (fun _ _ _ h => h) (Or.inl ⟨by rfl, ?hyr3x0q1⟩) (by assumption) ?restr3x0q1
     case hyr3x0q1 => intro wq hSw; (go_simp); (try with_reducible rfl)
     try simp only [Act.put, List.setIfInBounds_toArray, List.set_cons_zero, List.set_cons_succ]
     refine wpAnyH_take (i := 1) (oi := ⟨_, _, _, _, _, _⟩) (v := ?_) rfl (by kernel_rfl) (by kernel_rfl) (by kernel_rfl) (fun _ _ _ h => h) (Or.inl ⟨by rfl, ?hyr3x1q4⟩) (by assumption) ?restr3x1q4
     case hyr3x1q4 => intro wq hSw; (go_simp); (try with_reducible rfl)
     try simp only [Act.put, List.setIfInBounds_toArray, List.set_cons_zero, List.set_cons_succ]
     refine wpAnyH_take (i := 2) (oi := ⟨_, _, _, _, _, _⟩) (v := ?_) rfl (by kernel_rfl) (by kernel_rfl) (by kernel_rfl) (fun _ _ _ h => h) (Or.inl ⟨by rfl, ?hyr3x2q7⟩) (by assumption) ?restr3x2q7
     case hyr3x2q7 => intro wq hSw; (go_simp); (try with_reducible rfl)
     try simp only [Act.put, List.setIfInBounds_toArray, List.set_cons_zero, List.set_cons_succ]
     refine wpAnyH_take (i := 3) (oi := ⟨_, _, _, _, _, _⟩) (v := ?_) rfl (by kernel_rfl) (by kernel_rfl) (by kernel_rfl) (fun _ _ _ h => h) (Or.inl ⟨by rfl, ?hyr3x3q10⟩) (by assumption) ?restr3x3q10
     case hyr3x3q10 => intro wq hSw; (go_simp); (try with_reducible rfl)
     try simp only [Act.put, List.setIfInBounds_toArray, List.set_cons_zero, List.set_cons_succ]
     refine wpAnyH_take (i := 4) (oi := ⟨_, _, _, _, _, _⟩) (v := ?_) rfl (by kernel_rfl) (by kernel_rfl) (by kernel_rfl) (fun _ _ _ h => h) (Or.inl ⟨by rfl, ?hyr3x4q13⟩) (by assumption) ?restr3x4q13
     case hyr3x4q13 => intro wq hSw; (go_simp); (try with_reducible rfl)
     try simp only [Act.put, List.setIfInBounds_toArray, List.set_cons_zero, List.set_cons_succ]
     refine wpAnyH_take (i := 5) (oi := ⟨_, _, _, _, _, _⟩) (v := ?_) rfl (by kernel_rfl) (by kernel_rfl) (by kernel_rfl) (fun _ _ _ h => h) (Or.inl ⟨by rfl, ?hyr3x5q16⟩) (by assumption) ?restr3x5q16
     case hyr3x5q16 => intro wq hSw; (go_simp); (try with_reducible rfl)
     try simp only [Act.put, List.setIfInBounds_toArray, List.set_cons_zero, List.set_cons_succ]
     refine wpAnyH_take (i := 6) (oi := ⟨_, _, _, _, _, _⟩) (v := ?_) rfl (by kernel_rfl) (by kernel_rfl) (by kernel_rfl) (fun _ _ _ h => h) (Or.inl ⟨by rfl, ?hyr3x6q19⟩) (by assumption) ?restr3x6q19
     case hyr3x6q19 => intro wq hSw; (go_simp); (try with_reducible rfl)
     try simp only [Act.put, List.setIfInBounds_toArray, List.set_cons_zero, List.set_cons_succ]
     refine wpAnyH_ready (rs := [7]) (by kernel_rfl) (by simp) ?_
     refine AllReadyH.cons (o := ⟨_, _, _, _, _, _⟩) rfl (fun K hK => ?_) AllReadyH.nil
     rw [if_pos (by rfl)]
     refine wp_copy_shift (enc := encN) (sz := 3) _ (.tmp 67) (.tmp 70) 23 rfl w.heap.size 78 Tryz.underlying23 (by kernel_rfl) (fun _ => rfl) (by simp [encN, Value.oneCell']) g7 out.length cap7 j L7 own7 hj _ _ _ _ rfl rfl (fun hlt => ⟨by rw [if_neg (by omega)], rfl⟩) ?_
     intro w8 own8 ch8 sz8
     refine hK.out _ _ (trivial) (fun hHeld => ?_)
     clear hK K
     try simp only [Act.put, List.setIfInBounds_toArray, List.set_cons_zero, List.set_cons_succ]
     refine wpAnyH_done (by kernel_rfl) ?_ _
     have k8 : Ex w w8 := Chg.trans k7.drew (ch8.mono (fun x (hx : x < w.heap.size) => by omega))
     obtain ⟨x5, o5, y5, he5, hx5, hy5, hc5⟩ := (hs.out.nx k8).at hlt
     cases he5
     obtain rfl : y = y5 := Option.some.inj (HY.out.symm.trans hy5)
     have b0 : w8.cell? ⟨x1, o1 + k * 3, none⟩ = some (.int .i64 y.id) := hc5 0 _ rfl
     have b1 : w8.cell? ⟨x1, o1 + k * 3 + 1, none⟩ = some (.string y.key) := hc5 1 _ rfl
     have b2 : w8.cell? ⟨x1, o1 + k * 3 + 1 + 1, none⟩ = some (.int .u32 y.word) := by simpa [Nat.add_assoc] using hc5 2 _ rfl
     obtain ⟨⟨va, vb, vc, d0, d1, d2⟩, fz, OS⟩ := own_set3 own8 (j := j) (by omega) y
     have fz0 := fz (j * 3)
     have fz1 := fz (j * 3 + 1)
     have fz2 := fz (j * 3 + 1 + 1)
     clear hc5 hy5 own8 ch8 fz
     go_wp2_with fail
     exact ⟨⟨k + 1, by omega, by go_num, by rw [FS.out, STEP.out, ← SH.out]; exact OS, ((k8.setNew (p := ⟨g7, j * 3, none⟩) _ hg7).setNew (p := ⟨g7, j * 3 + 1, none⟩) _ hg7).setNew (p := ⟨g7, j * 3 + 2, none⟩) _ hg7⟩, by simp [intOf]; omega⟩
  ·obtain rfl : k = n := by omega
   rw [List.take_of_length_le (by rw [HL.out]; exact Nat.le_refl _)] at own
   obtain ⟨a3, cap3, rfl, r3, c3, m3, nil3⟩ := own.slf (fun _ => rfl)
   clear own hk
   go_wp2_with fail
   go_ret
   exact ⟨a3, _, cap3, rfl, r3, kw⟩
abbrev IL (w : World) (a : Option Addr) (n : Nat) (M : List (List Int)) : Prop := NL enc0 1 1 encI w a n (M.map pairU)
def HasRel (l : List Int) (v : Int) (n : Nat) (w : World) (i : Value) (wr : World) : Prop :=
 ∃ k : Nat, k ≤ n ∧ i = .int .i64 k ∧ Ex w wr ∧ ∀ j z, j < k → l[j]? = some z → z ≠ v
set_option maxHeartbeats 1000000 in
theorem has_r (a : Option Addr) (n c : Nat) (l : List Int) (v : Int) (w : World) (h : Sl 1 encI w a n l) (hn : n ≤ 4000000000000000000) :
  Calls Tryz.prog 173 #[.slice a n c, .int .i64 v] w fun e w' => e = .returned (.bool (l.contains v)) ∧ Ex w w' := by
 have HL := Lib.hid h.len
 have hs := Lib.hid h
 clear h
 go_enter Tryz.func173, Tryz.ntmps173
 go_wp2_with fail
 go_loopw [5] (fun i wr => HasRel l v n w i wr) (fun i _ => n - (intOf i).toNat)
 case atStart => exact ⟨0, by omega, rfl, Ex.refl _, by intro j z h; omega⟩
 case round =>
  obtain ⟨k, hk, rfl, kw, hno⟩ := hrel
  have HNO := Lib.hid hno
  clear hno
  obtain ⟨wo, rfl⟩ : ∃ wo : World, wo = wr := ⟨_, rfl⟩
  by_cases hlt : k < n
  ·obtain ⟨x1, o1, y, rfl, hx1, hy, hc1⟩ := (hs.out.nx kw).at hlt
   have e0 : wo.cell? ⟨x1, o1 + k, none⟩ = some (.int .i64 y) := by simpa using hc1 0 _ rfl
   have HY := Lib.hid hy
   have KW := Lib.hid kw
   clear hc1 hy kw
   by_cases hv : y = v
   ·have HC : Hid (l.contains v = true) := Lib.hid (by rw [List.contains_iff_mem, ← hv]; exact List.mem_of_getElem? HY.out)
    have hb : (y == v) = true := by rw [hv]; simp
    clear hv
    go_wp2_with fail
    go_ret
    exact ⟨by rw [HC.out]; rfl, KW.out⟩
   ·have HV := Lib.hid hv
    have hb : (y == v) = false := by rw [beq_eq_false_iff_ne]; exact hv
    clear hv
    go_wp2_with fail
    refine ⟨⟨k + 1, by omega, by go_num, KW.out, fun j z hj hz => ?_⟩, by simp [intOf]; omega⟩
    rcases Nat.lt_or_ge j k with h | h
    ·exact HNO.out j z h hz
    ·obtain rfl : j = k := by omega
     rw [Option.some.inj (hz.symm.trans HY.out)]
     exact HV.out
  ·obtain rfl : k = n := by omega
   have HC : Hid (l.contains v = false) := Lib.hid (by
    cases hc : l.contains v with
    | false => rfl
    | true =>
     rw [List.contains_iff_mem] at hc
     obtain ⟨j, hj⟩ := List.mem_iff_getElem?.1 hc
     exact absurd rfl (HNO.out j v (by have := (List.getElem?_eq_some_iff.1 hj).1; rw [← HL.out]; exact this) hj))
   have KW := Lib.hid kw
   clear hk hlt kw
   go_wp2_with fail
   go_ret
   exact ⟨by rw [HC.out]; rfl, KW.out⟩
set_option maxRecDepth 100000 in
set_option maxHeartbeats 2000000 in
theorem ordered_r (a : Option Addr) (n c : Nat) (N : List Nd) (a2 : Option Addr) (n2 c2 : Nat) (l : List Int) (but : Int) (w : World) (h : Sl 3 encN w a n N) (hn : n ≤ 1000) (h2 : Sl 1 encI w a2 n2 l) (hn2 : n2 ≤ 4000000000000000000) :
  Calls Tryz.prog 135 #[.slice a n c, .slice a2 n2 c2, .int .i64 but] w (OiPost (ordN N l but) w) := by
 have hNn : N.length ≤ 1000 := by have := h.len; omega
 go_enter Tryz.func135, Tryz.ntmps135
 go_wp2_with fail
 (with_reducible refine (sort_r _ _ _ _ _ h hn).mono ?_)
 rintro e w1 ⟨a1, n1, c1, rfl, own1, kk⟩
 replace h2 := h2.nx kk
 have S1 : Sl 3 encN w1 a1 n1 (sortN N) := Slf.sl own1
 have hn1 : n1 = (sortN N).length := S1.len.symm
 subst hn1
 have hSl : (sortN N).length ≤ 1000 := by rw [sortN_length]; exact hNn
 have ES : Hid (ordN N l but = ((sortN N).filter (ordP l but)).map Nd.id) := Lib.hid rfl
 generalize sortN N = S at S1 hSl ES own1 ⊢
 have S1 := Lib.hid S1
 have H2 := Lib.hid h2
 have K1 : Hid (Ex w w1) := Lib.hid kk
 have hz1 := kk.size
 clear h own1 h2 kk hNn hn
 go_wp2_with fail
 go_loopw [7, 9] (fun o i wr => OrdRel S l but w1 o i wr) (fun _ i _ => S.length - (intOf i).toNat)
 case atStart => exact ⟨0, by omega, rfl, OwnL.nil _ _ _ _ _, Ex.refl _⟩
 case round =>
  obtain ⟨j, hj, rfl, own, ki⟩ := hrel
  obtain ⟨wi, rfl⟩ : ∃ wi : World, wi = wr := ⟨_, rfl⟩
  by_cases hjm : j < S.length
  ·obtain ⟨x3, o3, y, rfl, hx3, hy, hc3⟩ := (S1.out.nx ki).at hjm
   have e0 : wi.cell? ⟨x3, o3 + j * 3, none⟩ = some (.int .i64 y.id) := hc3 0 _ rfl
   have SN := Lib.hid (ord_snoc (l := l) (but := but) hy)
   have hrl : (((S.take j).filter (ordP l but)).map Nd.id).length ≤ 1000 := by
    rw [List.length_map]
    have := List.length_filter_le (ordP l but) (S.take j)
    rw [List.length_take] at this
    omega
   generalize ((S.take j).filter (ordP l but)).map Nd.id = row at own SN hrl
   have OWN := Lib.hid own
   have KI := Lib.hid ki
   have zb := ki.size
   clear hy hc3 own ki
   by_cases hb : y.id = but
   ·have hq : (y.id != but) = false := by simp [hb]
    have hq2 : (y.id == but) = true := by simp [hb]
    have PF : Hid (ordP l but y = false) := Lib.hid (by unfold ordP; rw [hq2]; rfl)
    clear hb
    go_wp2_with fail
    exact ⟨⟨j + 1, by omega, by go_num, by rw [SN.out, PF.out]; simpa using OWN.out, KI.out⟩, by simp [intOf]; omega⟩
   ·have hq : (y.id != but) = true := by simpa using hb
    have hq2 : (y.id == but) = false := by simpa using hb
    clear hb
    go_wp2_with fail
    (with_reducible refine (has_r _ _ _ _ y.id _ (H2.out.nx KI.out) hn2).mono ?_)
    rintro e w5 ⟨rfl, kk⟩
    have K5 := Lib.hid kk
    have e5 : w5.cell? ⟨x3, o3 + j * 3, none⟩ = some (.int .i64 y.id) := Chg.cellv kk e0 hx3
    have own5 := OWN.out.nx kk
    have k5 := KI.out.nx kk
    have hx5 := Nat.lt_of_lt_of_le hx3 kk.size
    have zb5 := k5.size
    have PB : Hid (ordP l but y = l.contains y.id) := Lib.hid (by unfold ordP; rw [hq2]; rfl)
    clear kk e0
    generalize l.contains y.id = inl at PB ⊢
    cases inl with
    | false =>
     have K5' := Lib.hid k5
     have O5' := Lib.hid own5
     clear k5 own5
     go_wp2_with fail
     exact ⟨⟨j + 1, by omega, by go_num, by rw [SN.out, PB.out]; simpa using O5'.out, K5'.out⟩, by simp [intOf]; omega⟩
    | true =>
     generalize y.id = yi at SN e5 hq hq2 ⊢
     go_wp2_with (at_builtin; (refine wpList_append_lit (enc := encI) w5 rfl _ _ 22 rfl w1.heap.size 3 (.int .i64 0) 1 8 Tryz.underlying22 Tryz.infoI6 rfl (by omega) (by omega) _ _ own5 rfl (yi : Int) _ rfl rfl (by simp [encI, Value.oneCell']) _ (by simp) rfl (by omega) zb5 _ ?_); intro v6 w6 own6 _ ch1 _)
     refine ⟨⟨j + 1, by omega, by go_num, by rw [SN.out, PB.out]; exact own6, Chg.trans k5 ch1⟩, by simp [intOf]; omega⟩
  ·obtain rfl : j = S.length := by omega
   rw [List.take_of_length_le (by omega)] at own
   have own := Lib.hid (own.base hz1)
   have KE := Lib.hid (K1.out.nx ki)
   clear hj hjm ki
   go_wp2_with fail
   go_ret
   exact ⟨_, rfl, by rw [ES.out]; exact own.out, KE.out⟩
theorem lit2 {w u : World} (h : Ex w u) (x y : Int) : ∃ g v, g = u.heap.size ∧ v = u.alloc (.cells #[.int .i64 x, .int .i64 y] 3) ∧ Sl 1 encI v (some ⟨g, 0, none⟩) 2 [x, y] ∧ Ex u v ∧ Ex w v :=
 ⟨_, _, rfl, rfl, Sl.lit [x, y] rfl rfl (fun _ => rfl) rfl, Ex.new _ _, h.nx (Ex.new _ _)⟩
theorem lit4 {w u : World} (h : Ex w u) (y : Nr) : ∃ g v, g = u.heap.size ∧ v = u.alloc (.cells #[.int .i64 y.1, .int .i64 y.2.1, .int .i64 y.2.2.1, .int .i64 y.2.2.2] 3) ∧ Sl 1 encI v (some ⟨g, 0, none⟩) 4 (nums4 y) ∧ Ex u v ∧ Ex w v :=
 ⟨_, _, rfl, rfl, Sl.lit (nums4 y) rfl rfl (fun _ => rfl) rfl, Ex.new _ _, h.nx (Ex.new _ _)⟩
def NmCut (l : List Int) (w : World) (s : Value) (wx : World) : Prop := OwnL 1 encI 3 w.heap.size wx s l ∧ Ex w wx
set_option maxRecDepth 100000 in
set_option maxHeartbeats 8000000 in
theorem numbers_r (p : Pr) (a1 : Option Addr) (n1 c1 : Nat) (a2 : Option Addr) (n2 c2 : Nat) (w : World) (h1 : Sl 1 encI w a1 n1 p.known) (h2 : Sl 4 encNr w a2 n2 p.near) (hn1 : n1 ≤ 2000000) (hn2 : n2 ≤ 2000000) (z1 : a1 = none → c1 = 0) :
  Calls Tryz.prog 160 #[.agg #[.int .i64 p.id, .slice a1 n1 c1, .int .i64 p.left, .int .i64 p.right, .slice a2 n2 c2]] w (OiPost (numsP p) w) := by
 obtain ⟨id, lf, rt, kn, nr⟩ := p
 have HN : Hid (numsP ⟨id, lf, rt, kn, nr⟩ = (kn ++ [lf, rt]) ++ nr.flatMap nums4) := Lib.hid rfl
 have hkl : kn.length ≤ 2000000 := by have : kn.length = n1 := h1.len; omega
 have hnl : nr.length = n2 := h2.len
 have hw0 := Nat.le_refl w.heap.size
 simp only at h1 h2 ⊢
 have B1 := Blk.new w [.int .i64 id, .slice a1 n1 c1, .int .i64 lf, .int .i64 rt, .slice a2 n2 c2] 42
 have kk := Ex.new w (.cells #[.int .i64 id, .slice a1 n1 c1, .int .i64 lf, .int .i64 rt, .slice a2 n2 c2] 42)
 obtain ⟨w1, hw1⟩ : ∃ w1, w1 = w.alloc (.cells #[.int .i64 id, .slice a1 n1 c1, .int .i64 lf, .int .i64 rt, .slice a2 n2 c2] 42) := ⟨_, rfl⟩
 obtain ⟨g, hg⟩ : ∃ g, g = w.heap.size := ⟨_, rfl⟩
 replace B1 : Blk w1 g [.int .i64 id, .slice a1 n1 c1, .int .i64 lf, .int .i64 rt, .slice a2 n2 c2] 42 := by rw [hw1, hg]; exact B1
 rw [← hw1] at kk
 have Hw1 := Lib.hid hw1
 have Hg := Lib.hid hg
 replace h1 := h1.nx kk
 replace h2 := h2.nx kk
 have hz1 := kk.size
 have K1 := Lib.hid kk
 have S1 := Lib.hid h1
 have S2 := Lib.hid h2
 clear h1 h2 kk hw1 hg
 go_enter Tryz.func160, Tryz.ntmps160
 go_upto_region 1 with fail
 rw [← Hg.out, ← Hw1.out]
 clear Hg Hw1
 have BH := Lib.hid B1
 clear B1
 go_cut [3] from 5 to 14 (fun s3 wx => NmCut (kn ++ [lf, rt]) w1 s3 wx)
 case first =>
  refine wp_region_held_drew (S := Ex w1) (by kernel_rfl) ((Ex.refl w1).drew) (fun hHeld => ?_)
  refine wpAnyH_take (i := 0) (oi := ⟨_, _, _, _, _, _⟩) (v := ?_) rfl (by kernel_rfl) (by kernel_rfl) (by kernel_rfl) (fun _ _ _ h => h) (Or.inl ⟨by rfl, ?hyr1x0q1⟩) (by assumption) ?restr1x0q1
  case hyr1x0q1 => intro wq hSw; (go_simp); (try with_reducible rfl)
  refine wpAnyH_take (i := 1) (oi := ⟨_, _, _, _, _, _⟩) (v := ?_) rfl (by kernel_rfl) (by kernel_rfl) (by kernel_rfl) (fun _ _ _ h => h) (Or.inl ⟨by rfl, ?hyr1x1q4⟩) (by assumption) ?restr1x1q4
  case hyr1x1q4 => intro wq hSw; (have cq := (BH.out.nx hSw).cell 1 _ rfl; go_simp); (try with_reducible rfl)
  refine wpAnyH_take (i := 3) (oi := ⟨_, _, _, _, _, _⟩) (v := ?_) rfl (by kernel_rfl) (by kernel_rfl) (by kernel_rfl) (fun _ _ _ h => h) (Or.inl ⟨by rfl, ?hyr1x3q7⟩) (by assumption) ?restr1x3q7
  case hyr1x3q7 => intro wq hSw; (go_simp); (try with_reducible rfl)
  refine wpAnyH_take (i := 4) (oi := ⟨_, _, _, _, _, _⟩) (v := ?_) rfl (by kernel_rfl) (by kernel_rfl) (by kernel_rfl) (fun _ _ _ h => h) (Or.inl ⟨by rfl, ?hyr1x4q10⟩) (by assumption) ?restr1x4q10
  case hyr1x4q10 => intro wq hSw; (have cq := (BH.out.nx hSw).cell 2 _ rfl; go_simp); (try with_reducible rfl)
  refine wpAnyH_take (i := 5) (oi := ⟨_, _, _, _, _, _⟩) (v := ?_) rfl (by kernel_rfl) (by kernel_rfl) (by kernel_rfl) (fun _ _ _ h => h) (Or.inl ⟨by rfl, ?hyr1x5q13⟩) (by assumption) ?restr1x5q13
  case hyr1x5q13 => intro wq hSw; (go_simp); (try with_reducible rfl)
  refine wpAnyH_take (i := 6) (oi := ⟨_, _, _, _, _, _⟩) (v := ?_) rfl (by kernel_rfl) (by kernel_rfl) (by kernel_rfl) (fun _ _ _ h => h) (Or.inl ⟨by rfl, ?hyr1x6q16⟩) (by assumption) ?restr1x6q16
  case hyr1x6q16 => intro wq hSw; (have cq := (BH.out.nx hSw).cell 3 _ rfl; go_simp); (try with_reducible rfl)
  refine wpAnyH_ready (rs := [2, 7]) (by kernel_rfl) (by simp) ?_
  refine AllReadyH.cons (o := ⟨_, _, _, _, _, _⟩) rfl (fun K hK => ?_) ?_
  ·rw [if_pos (by rfl)]
   have s0 := S1.out.nx hHeld
   have z0 := Ex.size hHeld
   refine wp_append_rd (enc := encI) _ (.const (.slice none 0 0)) (.tmp 6) 22 rfl w1.heap.size 3 (.int .i64 0) 1 8 Tryz.underlying22 Tryz.infoI6 rfl (by omega) (by omega) _ [] (OwnL.nil _ _ _ _ _) rfl _ _ n1 c1 kn s0 z1 (fun _ => rfl) (by simp [encI, Value.oneCell']) rfl (by simp) (by omega) z0 ?_
   intro v7 w7 own7 ch0 ch1
   have k7 : Ex _ w7 := ch0.mono (fun k hk => ⟨hk, by simp [Value.ownBlock]⟩)
   (try replace L8 := L8.nx k7)
   have j7 : Ex w1 w7 := Chg.trans hHeld ch1
   rw [List.nil_append] at own7
   clear ch0 ch1 s0 z0 k7 hHeld
   have hHeld := j7
   clear j7
   refine hK.out _ _ (hHeld) (fun hHeld => ?_)
   clear hK K
   refine wpAnyH_ready (rs := [7]) (by kernel_rfl) (by simp) ?_
   refine AllReadyH.cons (o := ⟨_, _, _, _, _, _⟩) rfl (fun K hK => ?_) AllReadyH.nil
   go_simp
   obtain ⟨g8, u8, hg8, hu8, L8, k8, j8⟩ := lit2 hHeld lf rt
   (try replace own7 := own7.nx k8)
   (first | rw [← hg8, ← hu8] | (rw [show w1.drew.heap.size = w1.heap.size from rfl] at hg8; rw [← hg8, show ∀ o, (w1.alloc o).drew = w1.drew.alloc o from fun _ => rfl, ← hu8]))
   clear hg8 hu8 k8 hHeld
   have hHeld := j8
   clear j8
   refine hK.out _ _ (hHeld) (fun hHeld => ?_)
   clear hK K
   refine wpAnyH_ready (rs := [8]) (by kernel_rfl) (by simp) ?_
   refine AllReadyH.cons (o := ⟨_, _, _, _, _, _⟩) rfl (fun K hK => ?_) AllReadyH.nil
   rw [if_pos (by rfl)]
   have z0 := Ex.size hHeld
   refine wp_append_rd (enc := encI) _ (.tmp 7) (.tmp 12) 22 rfl w1.heap.size 3 (.int .i64 0) 1 8 Tryz.underlying22 Tryz.infoI6 rfl (by omega) (by omega) _ kn own7 rfl _ _ 2 2 [lf, rt] L8 (fun h => by cases h) (fun _ => rfl) (by simp [encI, Value.oneCell']) rfl (by omega) (by omega) z0 ?_
   intro v9 w9 own9 ch0 ch1
   have j9 : Ex w1 w9 := Chg.trans hHeld ch1
   clear ch0 ch1 z0 own7 L8 hHeld
   have hHeld := j9
   clear j9
   refine hK.out _ _ (hHeld) (fun hHeld => ?_)
   clear hK K
   refine wpAnyH_take (i := 9) (oi := ⟨_, _, _, _, _, _⟩) (v := ?_) rfl (by kernel_rfl) (by kernel_rfl) (by kernel_rfl) (fun _ _ _ h => h) (Or.inl ⟨by rfl, ?hyr1x9q61⟩) (by assumption) ?restr1x9q61
   case hyr1x9q61 => intro wq hSw; (go_simp); (try with_reducible rfl)
   refine wpAnyH_done (by kernel_rfl) ?_ _
   go_wp2_with fail
   go_meet
   exact ⟨own9, hHeld⟩
  refine AllReadyH.cons (o := ⟨_, _, _, _, _, _⟩) rfl (fun K hK => ?_) AllReadyH.nil
  ·go_simp
   obtain ⟨g8, u8, hg8, hu8, L8, k8, j8⟩ := lit2 hHeld lf rt
   (try replace own7 := own7.nx k8)
   (first | rw [← hg8, ← hu8] | (rw [show w1.drew.heap.size = w1.heap.size from rfl] at hg8; rw [← hg8, show ∀ o, (w1.alloc o).drew = w1.drew.alloc o from fun _ => rfl, ← hu8]))
   clear hg8 hu8 k8 hHeld
   have hHeld := j8
   clear j8
   refine hK.out _ _ (hHeld) (fun hHeld => ?_)
   clear hK K
   refine wpAnyH_ready (rs := [2]) (by kernel_rfl) (by simp) ?_
   refine AllReadyH.cons (o := ⟨_, _, _, _, _, _⟩) rfl (fun K hK => ?_) AllReadyH.nil
   rw [if_pos (by rfl)]
   have s0 := S1.out.nx hHeld
   have z0 := Ex.size hHeld
   refine wp_append_rd (enc := encI) _ (.const (.slice none 0 0)) (.tmp 6) 22 rfl w1.heap.size 3 (.int .i64 0) 1 8 Tryz.underlying22 Tryz.infoI6 rfl (by omega) (by omega) _ [] (OwnL.nil _ _ _ _ _) rfl _ _ n1 c1 kn s0 z1 (fun _ => rfl) (by simp [encI, Value.oneCell']) rfl (by simp) (by omega) z0 ?_
   intro v7 w7 own7 ch0 ch1
   have k7 : Ex _ w7 := ch0.mono (fun k hk => ⟨hk, by simp [Value.ownBlock]⟩)
   (try replace L8 := L8.nx k7)
   have j7 : Ex w1 w7 := Chg.trans hHeld ch1
   rw [List.nil_append] at own7
   clear ch0 ch1 s0 z0 k7 hHeld
   have hHeld := j7
   clear j7
   refine hK.out _ _ (hHeld) (fun hHeld => ?_)
   clear hK K
   refine wpAnyH_ready (rs := [8]) (by kernel_rfl) (by simp) ?_
   refine AllReadyH.cons (o := ⟨_, _, _, _, _, _⟩) rfl (fun K hK => ?_) AllReadyH.nil
   rw [if_pos (by rfl)]
   have z0 := Ex.size hHeld
   refine wp_append_rd (enc := encI) _ (.tmp 7) (.tmp 12) 22 rfl w1.heap.size 3 (.int .i64 0) 1 8 Tryz.underlying22 Tryz.infoI6 rfl (by omega) (by omega) _ kn own7 rfl _ _ 2 2 [lf, rt] L8 (fun h => by cases h) (fun _ => rfl) (by simp [encI, Value.oneCell']) rfl (by omega) (by omega) z0 ?_
   intro v9 w9 own9 ch0 ch1
   have j9 : Ex w1 w9 := Chg.trans hHeld ch1
   clear ch0 ch1 z0 own7 L8 hHeld
   have hHeld := j9
   clear j9
   refine hK.out _ _ (hHeld) (fun hHeld => ?_)
   clear hK K
   refine wpAnyH_take (i := 9) (oi := ⟨_, _, _, _, _, _⟩) (v := ?_) rfl (by kernel_rfl) (by kernel_rfl) (by kernel_rfl) (fun _ _ _ h => h) (Or.inl ⟨by rfl, ?hyr1x9q107⟩) (by assumption) ?restr1x9q107
   case hyr1x9q107 => intro wq hSw; (go_simp); (try with_reducible rfl)
   refine wpAnyH_done (by kernel_rfl) ?_ _
   go_wp2_with fail
   go_meet
   exact ⟨own9, hHeld⟩
 case rest =>
  obtain ⟨own, kk⟩ := hcut
  have hl0 : (kn ++ [lf, rt]).length ≤ 2000002 := by simp; omega
  generalize kn ++ [lf, rt] = l0 at own HN hl0
  have OWN := Lib.hid own
  have KC := Lib.hid kk
  clear own kk
  go_wp2_with fail
  go_loopw [3, 4] (fun o i wr => NmRel l0 nr w1 o i wr) (fun _ i _ => nr.length - (intOf i).toNat)
  case atStart => exact ⟨0, by omega, rfl, by simpa using OWN.out, KC.out⟩
  case round =>
   obtain ⟨j, hj, rfl, own, ki⟩ := hrel
   obtain ⟨wi, rfl⟩ : ∃ wi : World, wi = wr := ⟨_, rfl⟩
   have b4 := (BH.out.nx ki).cell 4 _ rfl
   by_cases hjm : j < n2
   ·obtain ⟨x3, o3, y, rfl, hx3, hy, hc3⟩ := S2.out.at hjm
    have e0 : w1.cell? ⟨x3, o3 + j * 4, none⟩ = some (.int .i64 y.1) := hc3 0 _ rfl
    have e1 : w1.cell? ⟨x3, o3 + j * 4 + 1, none⟩ = some (.int .i64 y.2.1) := hc3 1 _ rfl
    have e2 : w1.cell? ⟨x3, o3 + j * 4 + 2, none⟩ = some (.int .i64 y.2.2.1) := hc3 2 _ rfl
    have e3 : w1.cell? ⟨x3, o3 + j * 4 + 3, none⟩ = some (.int .i64 y.2.2.2) := hc3 3 _ rfl
    have SN := Lib.hid (nm_snoc (l0 := l0) hy)
    have hrl : (l0 ++ (nr.take j).flatMap nums4).length ≤ 50000000 := by
     rw [List.length_append, nums_len, List.length_take]
     omega
    generalize l0 ++ (nr.take j).flatMap nums4 = row at own SN hrl
    have E := Lib.hid (show ∀ wq, Ex w1 wq → wq.cell? ⟨x3, o3 + j * 4, none⟩ = some (.int .i64 y.1) ∧ wq.cell? ⟨x3, o3 + j * 4 + 1, none⟩ = some (.int .i64 y.2.1) ∧ wq.cell? ⟨x3, o3 + j * 4 + 2, none⟩ = some (.int .i64 y.2.2.1) ∧ wq.cell? ⟨x3, o3 + j * 4 + 3, none⟩ = some (.int .i64 y.2.2.2) from fun wq k => ⟨Chg.cellv k e0 hx3, Chg.cellv k e1 hx3, Chg.cellv k e2 hx3, Chg.cellv k e3 hx3⟩)
    have zb := ki.size
    have KI := Lib.hid ki
    have OWN := Lib.hid (own.nx (Ex.drew (Ex.refl wi)))
    clear hy hc3 e0 e1 e2 e3 own ki
    go_upto_region 5 with fail
    clear b4
    refine wp_region_held_drew (S := Ex w1) (by kernel_rfl) (KI.out.drew) (fun hHeld => ?_)
    refine wpAnyH_take (i := 0) (oi := ⟨_, _, _, _, _, _⟩) (v := ?_) rfl (by kernel_rfl) (by kernel_rfl) (by kernel_rfl) (fun _ _ _ h => h) (Or.inl ⟨by rfl, ?hyr2x0q1⟩) (by assumption) ?restr2x0q1
    case hyr2x0q1 => intro wq hSw; (go_simp); (try with_reducible rfl)
    refine wpAnyH_take (i := 1) (oi := ⟨_, _, _, _, _, _⟩) (v := ?_) rfl (by kernel_rfl) (by kernel_rfl) (by kernel_rfl) (fun _ _ _ h => h) (Or.inl ⟨by rfl, ?hyr2x1q4⟩) (by assumption) ?restr2x1q4
    case hyr2x1q4 => intro wq hSw; (go_simp); (try with_reducible rfl)
    refine wpAnyH_take (i := 2) (oi := ⟨_, _, _, _, _, _⟩) (v := ?_) rfl (by kernel_rfl) (by kernel_rfl) (by kernel_rfl) (fun _ _ _ h => h) (Or.inl ⟨by rfl, ?hyr2x2q7⟩) (by assumption) ?restr2x2q7
    case hyr2x2q7 => intro wq hSw; (have cq := (BH.out.nx hSw).cell 4 _ rfl; go_simp); (try with_reducible rfl)
    refine wpAnyH_take (i := 3) (oi := ⟨_, _, _, _, _, _⟩) (v := ?_) rfl (by kernel_rfl) (by kernel_rfl) (by kernel_rfl) (fun _ _ _ h => h) (Or.inl ⟨by rfl, ?hyr2x3q10⟩) (by assumption) ?restr2x3q10
    case hyr2x3q10 => intro wq hSw; (go_simp); (try with_reducible rfl)
    refine wpAnyH_take (i := 4) (oi := ⟨_, _, _, _, _, _⟩) (v := ?_) rfl (by kernel_rfl) (by kernel_rfl) (by kernel_rfl) (fun _ _ _ h => h) (Or.inl ⟨by rfl, ?hyr2x4q13⟩) (by assumption) ?restr2x4q13
    case hyr2x4q13 => intro wq hSw; (go_simp); (try with_reducible rfl)
    refine wpAnyH_take (i := 5) (oi := ⟨_, _, _, _, _, _⟩) (v := ?_) rfl (by kernel_rfl) (by kernel_rfl) (by kernel_rfl) (fun _ _ _ h => h) (Or.inl ⟨by rfl, ?hyr2x5q16⟩) (by assumption) ?restr2x5q16
    case hyr2x5q16 => intro wq hSw; (go_simp); (try with_reducible rfl)
    refine wpAnyH_take (i := 6) (oi := ⟨_, _, _, _, _, _⟩) (v := ?_) rfl (by kernel_rfl) (by kernel_rfl) (by kernel_rfl) (fun _ _ _ h => h) (Or.inl ⟨by rfl, ?hyr2x6q19⟩) (by assumption) ?restr2x6q19
    case hyr2x6q19 => intro wq hSw; ((obtain ⟨q0, q1, q2, q3⟩ := E.out _ hSw); go_simp); (try with_reducible rfl)
    refine wpAnyH_take (i := 7) (oi := ⟨_, _, _, _, _, _⟩) (v := ?_) rfl (by kernel_rfl) (by kernel_rfl) (by kernel_rfl) (fun _ _ _ h => h) (Or.inl ⟨by rfl, ?hyr2x7q22⟩) (by assumption) ?restr2x7q22
    case hyr2x7q22 => intro wq hSw; (go_simp); (try with_reducible rfl)
    refine wpAnyH_take (i := 8) (oi := ⟨_, _, _, _, _, _⟩) (v := ?_) rfl (by kernel_rfl) (by kernel_rfl) (by kernel_rfl) (fun _ _ _ h => h) (Or.inl ⟨by rfl, ?hyr2x8q25⟩) (by assumption) ?restr2x8q25
    case hyr2x8q25 => intro wq hSw; (have cq := (BH.out.nx hSw).cell 4 _ rfl; go_simp); (try with_reducible rfl)
    refine wpAnyH_take (i := 9) (oi := ⟨_, _, _, _, _, _⟩) (v := ?_) rfl (by kernel_rfl) (by kernel_rfl) (by kernel_rfl) (fun _ _ _ h => h) (Or.inl ⟨by rfl, ?hyr2x9q28⟩) (by assumption) ?restr2x9q28
    case hyr2x9q28 => intro wq hSw; (go_simp); (try with_reducible rfl)
    refine wpAnyH_take (i := 10) (oi := ⟨_, _, _, _, _, _⟩) (v := ?_) rfl (by kernel_rfl) (by kernel_rfl) (by kernel_rfl) (fun _ _ _ h => h) (Or.inl ⟨by rfl, ?hyr2x10q31⟩) (by assumption) ?restr2x10q31
    case hyr2x10q31 => intro wq hSw; (go_simp); (try with_reducible rfl)
    refine wpAnyH_take (i := 11) (oi := ⟨_, _, _, _, _, _⟩) (v := ?_) rfl (by kernel_rfl) (by kernel_rfl) (by kernel_rfl) (fun _ _ _ h => h) (Or.inl ⟨by rfl, ?hyr2x11q34⟩) (by assumption) ?restr2x11q34
    case hyr2x11q34 => intro wq hSw; (go_simp); (try with_reducible rfl)
    refine wpAnyH_take (i := 12) (oi := ⟨_, _, _, _, _, _⟩) (v := ?_) rfl (by kernel_rfl) (by kernel_rfl) (by kernel_rfl) (fun _ _ _ h => h) (Or.inl ⟨by rfl, ?hyr2x12q37⟩) (by assumption) ?restr2x12q37
    case hyr2x12q37 => intro wq hSw; ((obtain ⟨q0, q1, q2, q3⟩ := E.out _ hSw); go_simp); (try with_reducible rfl)
    refine wpAnyH_take (i := 13) (oi := ⟨_, _, _, _, _, _⟩) (v := ?_) rfl (by kernel_rfl) (by kernel_rfl) (by kernel_rfl) (fun _ _ _ h => h) (Or.inl ⟨by rfl, ?hyr2x13q40⟩) (by assumption) ?restr2x13q40
    case hyr2x13q40 => intro wq hSw; (go_simp); (try with_reducible rfl)
    refine wpAnyH_take (i := 14) (oi := ⟨_, _, _, _, _, _⟩) (v := ?_) rfl (by kernel_rfl) (by kernel_rfl) (by kernel_rfl) (fun _ _ _ h => h) (Or.inl ⟨by rfl, ?hyr2x14q43⟩) (by assumption) ?restr2x14q43
    case hyr2x14q43 => intro wq hSw; (have cq := (BH.out.nx hSw).cell 4 _ rfl; go_simp); (try with_reducible rfl)
    refine wpAnyH_take (i := 15) (oi := ⟨_, _, _, _, _, _⟩) (v := ?_) rfl (by kernel_rfl) (by kernel_rfl) (by kernel_rfl) (fun _ _ _ h => h) (Or.inl ⟨by rfl, ?hyr2x15q46⟩) (by assumption) ?restr2x15q46
    case hyr2x15q46 => intro wq hSw; (go_simp); (try with_reducible rfl)
    refine wpAnyH_take (i := 16) (oi := ⟨_, _, _, _, _, _⟩) (v := ?_) rfl (by kernel_rfl) (by kernel_rfl) (by kernel_rfl) (fun _ _ _ h => h) (Or.inl ⟨by rfl, ?hyr2x16q49⟩) (by assumption) ?restr2x16q49
    case hyr2x16q49 => intro wq hSw; (go_simp); (try with_reducible rfl)
    refine wpAnyH_take (i := 17) (oi := ⟨_, _, _, _, _, _⟩) (v := ?_) rfl (by kernel_rfl) (by kernel_rfl) (by kernel_rfl) (fun _ _ _ h => h) (Or.inl ⟨by rfl, ?hyr2x17q52⟩) (by assumption) ?restr2x17q52
    case hyr2x17q52 => intro wq hSw; (go_simp); (try with_reducible rfl)
    refine wpAnyH_take (i := 18) (oi := ⟨_, _, _, _, _, _⟩) (v := ?_) rfl (by kernel_rfl) (by kernel_rfl) (by kernel_rfl) (fun _ _ _ h => h) (Or.inl ⟨by rfl, ?hyr2x18q55⟩) (by assumption) ?restr2x18q55
    case hyr2x18q55 => intro wq hSw; ((obtain ⟨q0, q1, q2, q3⟩ := E.out _ hSw); go_simp); (try with_reducible rfl)
    refine wpAnyH_take (i := 19) (oi := ⟨_, _, _, _, _, _⟩) (v := ?_) rfl (by kernel_rfl) (by kernel_rfl) (by kernel_rfl) (fun _ _ _ h => h) (Or.inl ⟨by rfl, ?hyr2x19q58⟩) (by assumption) ?restr2x19q58
    case hyr2x19q58 => intro wq hSw; (go_simp); (try with_reducible rfl)
    refine wpAnyH_take (i := 20) (oi := ⟨_, _, _, _, _, _⟩) (v := ?_) rfl (by kernel_rfl) (by kernel_rfl) (by kernel_rfl) (fun _ _ _ h => h) (Or.inl ⟨by rfl, ?hyr2x20q61⟩) (by assumption) ?restr2x20q61
    case hyr2x20q61 => intro wq hSw; (have cq := (BH.out.nx hSw).cell 4 _ rfl; go_simp); (try with_reducible rfl)
    refine wpAnyH_take (i := 21) (oi := ⟨_, _, _, _, _, _⟩) (v := ?_) rfl (by kernel_rfl) (by kernel_rfl) (by kernel_rfl) (fun _ _ _ h => h) (Or.inl ⟨by rfl, ?hyr2x21q64⟩) (by assumption) ?restr2x21q64
    case hyr2x21q64 => intro wq hSw; (go_simp); (try with_reducible rfl)
    refine wpAnyH_take (i := 22) (oi := ⟨_, _, _, _, _, _⟩) (v := ?_) rfl (by kernel_rfl) (by kernel_rfl) (by kernel_rfl) (fun _ _ _ h => h) (Or.inl ⟨by rfl, ?hyr2x22q67⟩) (by assumption) ?restr2x22q67
    case hyr2x22q67 => intro wq hSw; (go_simp); (try with_reducible rfl)
    refine wpAnyH_take (i := 23) (oi := ⟨_, _, _, _, _, _⟩) (v := ?_) rfl (by kernel_rfl) (by kernel_rfl) (by kernel_rfl) (fun _ _ _ h => h) (Or.inl ⟨by rfl, ?hyr2x23q70⟩) (by assumption) ?restr2x23q70
    case hyr2x23q70 => intro wq hSw; (go_simp); (try with_reducible rfl)
    refine wpAnyH_take (i := 24) (oi := ⟨_, _, _, _, _, _⟩) (v := ?_) rfl (by kernel_rfl) (by kernel_rfl) (by kernel_rfl) (fun _ _ _ h => h) (Or.inl ⟨by rfl, ?hyr2x24q73⟩) (by assumption) ?restr2x24q73
    case hyr2x24q73 => intro wq hSw; ((obtain ⟨q0, q1, q2, q3⟩ := E.out _ hSw); go_simp); (try with_reducible rfl)
    refine wpAnyH_ready (rs := [25]) (by kernel_rfl) (by simp) ?_
    refine AllReadyH.cons (o := ⟨_, _, _, _, _, _⟩) rfl (fun K hK => ?_) AllReadyH.nil
    go_simp
    obtain ⟨g8, u8, hg8, hu8, L8, k8, j8⟩ := lit4 hHeld y
    replace OWN := Lib.hid (OWN.out.nx k8)
    (first | rw [← hg8, ← hu8] | (rw [show wi.drew.heap.size = wi.heap.size from rfl] at hg8; rw [← hg8, show ∀ o, (wi.alloc o).drew = wi.drew.alloc o from fun _ => rfl, ← hu8]))
    clear hg8 hu8 k8 hHeld
    have hHeld := j8
    clear j8
    refine hK.out _ _ (hHeld) (fun hHeld => ?_)
    clear hK K
    refine wpAnyH_ready (rs := [26]) (by kernel_rfl) (by simp) ?_
    refine AllReadyH.cons (o := ⟨_, _, _, _, _, _⟩) rfl (fun K hK => ?_) AllReadyH.nil
    rw [if_pos (by rfl)]
    have z0 := Ex.size hHeld
    refine wp_append_rd (enc := encI) _ (.tmp 21) (.tmp 46) 22 rfl w1.heap.size 3 (.int .i64 0) 1 8 Tryz.underlying22 Tryz.infoI6 rfl (by omega) (by omega) _ row OWN.out rfl _ _ 4 4 (nums4 y) L8 (fun h => by cases h) (fun _ => rfl) (by simp [encI, Value.oneCell']) rfl (by omega) (by omega) z0 ?_
    intro v9 w9 own9 ch0 ch1
    have j9 : Ex w1 w9 := Chg.trans hHeld ch1
    clear ch0 ch1 z0 L8 hHeld
    have hHeld := j9
    clear j9
    refine hK.out _ _ (hHeld) (fun hHeld => ?_)
    clear hK K
    refine wpAnyH_take (i := 27) (oi := ⟨_, _, _, _, _, _⟩) (v := ?_) rfl (by kernel_rfl) (by kernel_rfl) (by kernel_rfl) (fun _ _ _ h => h) (Or.inl ⟨by rfl, ?hyr2x27q101⟩) (by assumption) ?restr2x27q101
    case hyr2x27q101 => intro wq hSw; (go_simp); (try with_reducible rfl)
    refine wpAnyH_done (by kernel_rfl) ?_ _
    skip
    go_wp2_with fail
    exact ⟨⟨j + 1, by omega, by go_num, by rw [SN.out]; exact own9, hHeld⟩, by simp [intOf]; omega⟩
   ·obtain rfl : j = n2 := by omega
    rw [List.take_of_length_le (by omega)] at own
    have own := Lib.hid (own.base hz1)
    have KE := Lib.hid (K1.out.nx ki)
    clear hj hjm ki
    go_wp2_with fail
    go_ret
    exact ⟨_, rfl, by rw [HN.out]; exact own.out, KE.out⟩
def CpPost (p : Pr) (base : Nat) (w : World) (e : Ending) (w' : World) : Prop :=
 ∃ hk hn : Hdr, e = .returned (.agg #[.int .i64 p.id, hk.val, .int .i64 p.left, .int .i64 p.right, hn.val]) ∧ OwnL 1 encI 3 base w' hk.val p.known ∧ OwnL 4 encNr 75 base w' hn.val p.near ∧ Ex w w'
set_option maxRecDepth 100000 in
set_option maxHeartbeats 2000000 in
theorem copypeer_r (p : Pr) (a1 : Option Addr) (n1 c1 : Nat) (a2 : Option Addr) (n2 c2 : Nat) (w : World) (h1 : Sl 1 encI w a1 n1 p.known) (h2 : Sl 4 encNr w a2 n2 p.near) (hn1 : n1 ≤ 17592186044416) (hn2 : n2 ≤ 4398046511104) :
  Calls Tryz.prog 128 #[.agg #[.int .i64 p.id, .slice a1 n1 c1, .int .i64 p.left, .int .i64 p.right, .slice a2 n2 c2]] w (CpPost p w.heap.size w) := by
 have EX := Ex.refl w
 have S1 := Lib.hid h1
 have S2 := Lib.hid h2
 clear h1 h2
 obtain ⟨g1, hg1⟩ : ∃ g1, g1 = w.heap.size := ⟨_, rfl⟩
 obtain ⟨g2, hg2⟩ : ∃ g2, g2 = (w.heap.size + 1) := ⟨_, rfl⟩
 obtain ⟨w1, hw1⟩ : ∃ w1, w1 = ((w.alloc (.cells #[.int .i64 p.id, .slice a1 n1 c1, .int .i64 p.left, .int .i64 p.right, .slice a2 n2 c2] 42)).alloc (.cells #[.int .i64 0, .slice none 0 0, .int .i64 0, .int .i64 0, .slice none 0 0] 42)) := ⟨_, rfl⟩
 have kk : Ex w w1 := by rw [hw1]; exact (((Ex.refl w).alloc (.cells #[.int .i64 p.id, .slice a1 n1 c1, .int .i64 p.left, .int .i64 p.right, .slice a2 n2 c2] 42)).alloc (.cells #[.int .i64 0, .slice none 0 0, .int .i64 0, .int .i64 0, .slice none 0 0] 42))
 have B1 : Blk w1 g1 [.int .i64 p.id, .slice a1 n1 c1, .int .i64 p.left, .int .i64 p.right, .slice a2 n2 c2] 42 := by rw [hw1]; simp only [hg1, hg2]; have hbk := ((Blk.new w [.int .i64 p.id, .slice a1 n1 c1, .int .i64 p.left, .int .i64 p.right, .slice a2 n2 c2] 42).nx (Ex.new _ (.cells #[.int .i64 0, .slice none 0 0, .int .i64 0, .int .i64 0, .slice none 0 0] 42))); simpa using hbk
 have B2 : Blk w1 g2 [.int .i64 0, .slice none 0 0, .int .i64 0, .int .i64 0, .slice none 0 0] 42 := by rw [hw1]; simp only [hg1, hg2]; have hbk := (Blk.new (w.alloc (.cells #[.int .i64 p.id, .slice a1 n1 c1, .int .i64 p.left, .int .i64 p.right, .slice a2 n2 c2] 42)) [.int .i64 0, .slice none 0 0, .int .i64 0, .int .i64 0, .slice none 0 0] 42); simpa using hbk
 have Hw1 := Lib.hid hw1
 have Hg1 := Lib.hid hg1
 have Hg2 := Lib.hid hg2
 replace EX := EX.nx kk
 have hg1' : w.heap.size ≤ g1 := by omega
 have hg2' : w.heap.size ≤ g2 := by omega
 have h12 : ¬ g1 = g2 := by omega
 have h21 : ¬ g2 = g1 := by omega
 clear kk hw1 hg1 hg2
 go_enter Tryz.func128, Tryz.ntmps128
 go_upto_region 1 with fail
 rw [← Hw1.out, ← Hg2.out, ← Hg1.out]
 clear Hw1 Hg2 Hg1
 have hz1 := EX.size
 have q1 := B1.cell 1 _ rfl
 have h1 := S1.out.nx EX
 have own0 : OwnL 1 encI 3 w1.heap.size w1 (.slice none 0 0) [] := OwnL.nil _ _ _ _ _
 go_upto_region 2 with (at_builtin; (refine wpList_append_rqW (enc := encI) w1 rfl (.const (.slice none 0 0)) (.tmp 4) 22 rfl w1.heap.size 3 (.int .i64 0) 1 8 Tryz.underlying22 Tryz.infoI6 rfl (by omega) (by omega) _ [] own0 rfl a1 n1 c1 p.known h1 (fun _ => rfl) (by simp [encI, Value.oneCell']) rfl (by omega) (by simp; omega) (Nat.le_refl _) ?_); intro v1 w2 own1 ch0 ch1; rw [List.nil_append] at own1; obtain ⟨A1, C1, rfl, _, _, _, _⟩ := own1.slf (fun _ => rfl); have f1 := (B1.nx ch1).free 1; have r1 := (B1.nx ch1).cell 1 _ rfl; clear q1)
 have k2 : Ex w1 w2 := ch1
 have L1 := B1.lt
 have L2 := B2.lt
 have k3 : Ex w w2 := EX.nx k2
 obtain ⟨w3, hw3⟩ : ∃ w3, w3 = w2.setCell ⟨g1, 1, none⟩ (.slice A1 p.known.length C1) := ⟨_, rfl⟩
 have k4 : Ex w w3 := by rw [hw3]; exact k3.setNew (p := ⟨g1, 1, none⟩) _ hg1'
 have k5 : Exb g1 w2 w3 := by rw [hw3]; exact (Exb.refl g1 w2).setB (p := ⟨g1, 1, none⟩) _ rfl
 replace B1 : Blk w3 g1 [.int .i64 p.id, .slice A1 p.known.length C1, .int .i64 p.left, .int .i64 p.right, .slice a2 n2 c2] 42 := by rw [hw3]; exact (B1.nx k2).set 1 _
 replace B2 := (B2.nx k2).nxb h21 k5
 replace own1 := own1.nxb L1 k5
 have z3 : w1.heap.size ≤ w3.heap.size := Nat.le_trans k2.size k5.size
 rw [← hw3]
 clear hw3 f1 r1 own0 h1 ch0 ch1 k2 k3 k5
 have q4 := B1.cell 4 _ rfl
 have h2 := S2.out.nx k4
 have own0 : OwnL 4 encNr 75 w3.heap.size w3 (.slice none 0 0) [] := OwnL.nil _ _ _ _ _
 go_upto_region 3 with (at_builtin; (refine wpList_append_rqW (enc := encNr) w3 rfl (.const (.slice none 0 0)) (.tmp 8) 40 rfl w3.heap.size 75 (.agg #[.int .i64 0, .int .i64 0, .int .i64 0, .int .i64 0]) 4 32 Tryz.underlying40 Tryz.infoNr rfl (by omega) (by omega) _ [] own0 rfl a2 n2 c2 p.near h2 (fun _ => rfl) (by simp [encNr, Value.oneCell']) rfl (by omega) (by simp; omega) (Nat.le_refl _) ?_); intro v4 w4 own4 ch0 ch1; rw [List.nil_append] at own4; obtain ⟨A4, C4, rfl, _, _, _, _⟩ := own4.slf (fun _ => rfl); have f1 := (B1.nx ch1).free 4; have r1 := (B1.nx ch1).cell 4 _ rfl; clear q4)
 have k2 : Ex w3 w4 := ch1
 have L3 := B1.lt
 have k6 : Ex w w4 := k4.nx k2
 replace own1 := own1.nx k2
 obtain ⟨w5, hw5⟩ : ∃ w5, w5 = w4.setCell ⟨g1, 4, none⟩ (.slice A4 p.near.length C4) := ⟨_, rfl⟩
 have k7 : Ex w w5 := by rw [hw5]; exact k6.setNew (p := ⟨g1, 4, none⟩) _ hg1'
 have k8 : Exb g1 w4 w5 := by rw [hw5]; exact (Exb.refl g1 w4).setB (p := ⟨g1, 4, none⟩) _ rfl
 replace B1 : Blk w5 g1 [.int .i64 p.id, .slice A1 p.known.length C1, .int .i64 p.left, .int .i64 p.right, .slice A4 p.near.length C4] 42 := by rw [hw5]; exact (B1.nx k2).set 4 _
 replace B2 := (B2.nx k2).nxb h21 k8
 replace own1 := own1.nxb L1 k8
 replace own4 := own4.nxb L3 k8
 rw [← hw5]
 clear hw5 f1 r1 own0 h2 ch0 ch1 k2 k6 k8
 have p0 := B1.cell 0 _ rfl
 have p1 := B1.cell 1 _ rfl
 have p2 := B1.cell 2 _ rfl
 have p3 := B1.cell 3 _ rfl
 have p4 := B1.cell 4 _ rfl
 have q0 := B2.cell 0 _ rfl
 have q1 := B2.cell 1 _ rfl
 have q2 := B2.cell 2 _ rfl
 have q3 := B2.cell 3 _ rfl
 have q4 := B2.cell 4 _ rfl
 have f0 := B2.free 0
 have f1 := B2.free 1
 have f2 := B2.free 2
 have f3 := B2.free 3
 have f4 := B2.free 4
 have KE := Lib.hid (((((k7.setNew (p := ⟨g2, 0, none⟩) (.int .i64 p.id) hg2').setNew (p := ⟨g2, 1, none⟩) (.slice A1 p.known.length C1) hg2').setNew (p := ⟨g2, 2, none⟩) (.int .i64 p.left) hg2').setNew (p := ⟨g2, 3, none⟩) (.int .i64 p.right) hg2').setNew (p := ⟨g2, 4, none⟩) (.slice A4 p.near.length C4) hg2')
 have KB : Exb g2 w5 (((((w5.setCell ⟨g2, 0, none⟩ (.int .i64 p.id)).setCell ⟨g2, 1, none⟩ (.slice A1 p.known.length C1)).setCell ⟨g2, 2, none⟩ (.int .i64 p.left)).setCell ⟨g2, 3, none⟩ (.int .i64 p.right)).setCell ⟨g2, 4, none⟩ (.slice A4 p.near.length C4)) :=
  (((((Exb.refl g2 w5).setB (p := ⟨g2, 0, none⟩) _ rfl).setB (p := ⟨g2, 1, none⟩) _ rfl).setB (p := ⟨g2, 2, none⟩) _ rfl).setB (p := ⟨g2, 3, none⟩) _ rfl).setB (p := ⟨g2, 4, none⟩) _ rfl
 have O1 := Lib.hid ((own1.nxb L2 KB).base hz1)
 have O4 := Lib.hid ((own4.nxb (show g2 < w3.heap.size by omega) KB).base (show w.heap.size ≤ w3.heap.size by omega))
 clear B1 B2 own1 own4 KB k4 k7 EX
 go_wp2_with fail
 refine bodyPost_ret (v := .agg #[.int .i64 p.id, .slice A1 p.known.length C1, .int .i64 p.left, .int .i64 p.right, .slice A4 p.near.length C4]) (by simp [results, Tryz.results128, go_sem, *]) rfl ⟨(A1, p.known.length, C1), (A4, p.near.length, C4), rfl, O1.out, O4.out, KE.out⟩
end Go.Proofs.YtofmcalfbpjoeaaGreatDoor
