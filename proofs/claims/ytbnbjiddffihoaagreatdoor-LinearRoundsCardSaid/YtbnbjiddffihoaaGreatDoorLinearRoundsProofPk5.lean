/- Texts for the statement LinearRoundsProof, part 5 of 9: RedE, Lat, RedF, MapR, Que, MapG, BfsP, RedG, RedK, LinR, LinA, LiR, InsL, LinB. -/
import Derived.WideKeyEntry
import Derived.Deep.LoopGhost
import Derived.Shelf.Spec.SlicesInsertGrow
import Derived.Test.YtbnbjiddffihoaaGreatDoorLinearRoundsProofPk1
import Derived.Test.YtbnbjiddffihoaaGreatDoorLinearRoundsProofPk4

/- Copies of rows and of peers. -/
namespace Go.Proofs.YtbnbjiddffihoaaGreatDoor
open Go.RowKit

theorem Tryz.infoNr : (Tryz.prog.info? 49).map (fun i => (i.zero, i.size, i.bytes)) = some (some (.agg #[.int .i64 0, .int .i64 0, .int .i64 0, .int .i64 0]), 4, 32) := by kernel_rfl
theorem Tryz.infoPr : (Tryz.prog.info? 45).map (fun i => (i.zero, i.size, i.bytes)) = some (some (.agg #[.int .i64 0, .slice none 0 0, .int .i64 0, .int .i64 0, .slice none 0 0]), 5, 72) := by kernel_rfl
theorem wp_append_rq {P : Program} {α : Type} {enc : α → List Value} {o : Oper} {a : Act} {K : Act → World → Prop} {Q : Exit → Act → World → Prop} (w0 : World) (s x : Operand) (t : TypeId)
    (ho : o.op = .call { callee := .builtin .append, args := #[s, x], argTypes := #[t, t] })
    (base : Nat) (e : TypeId) (z : Value) (sz bytes : Nat) (ht : P.underlying t = some (.slice e)) (hi : (P.info? e).map (fun i => (i.zero, i.size, i.bytes)) = some (some z, sz, bytes))
    (hzs : z.cells.size = sz) (hsz : 0 < sz) (hby : bytes ≤ 65536)
    (v : Value) (l : List α) (hown : OwnL sz enc e base w0 v l) (hs : a.eval s = v) (A : Option Addr) (n c : Nat) (news : List α) (hrd : Sl sz enc w0 A n news) (hlen : ∀ y, (enc y).length = sz) (h1 : ∀ y, ∀ u ∈ enc y, u.oneCell' = true)
    (hx : a.eval x = .slice A n c) (hl : l.length ≤ 100000000) (hn : n ≤ 100000000) (hbase : base ≤ w0.heap.size)
    (h : ∀ v' w', OwnL sz enc e base w' v' (l ++ news) → Chg (fun k => k < w0.heap.size ∧ ¬ v.ownBlock = some k) w0 w' → Chg (· < base) w0 w' → K (a.put o.dst v') w') :
    o.wp P a w0 K Q := by
  by_cases hA : A = none → c = 0
  · exact wp_append_rd w0 s x t ho base e z sz bytes ht hi hzs hsz hby v l hown hs (· < w0.heap.size) A n c news hrd hA hlen h1 hx hl hn hbase h
  · have hAn : A = none := by
      cases A with
      | none => rfl
      | some _ => exact absurd (fun h => by cases h) hA
    subst hAn
    obtain ⟨i, hi, hz0, hz1, hz2⟩ := info_parts hi
    have hn0 : n = 0 := by
      rcases hrd.2 with h0 | ⟨x, o, e1, _⟩
      · exact h0
      · cases e1
    subst hn0
    have hnews : news = [] := List.eq_nil_of_length_eq_zero hrd.1
    subst hnews
    have hrun : (Builtin.append_ #[t, t] o.type #[v, .slice none 0 c]).run P w0 = .ok v w0 := by
      rcases hown.2 with ⟨rfl, _⟩ | ⟨g, cap, cur, rfl, _, _, hnc, _⟩
      · simp [Builtin.append_, run_underlying ht, sizeOf, typeInfo, hi, Builtin.lenOf, Builtin.firstCells, loadCells, loadCellsFrom]
      · simp [Builtin.append_, run_underlying ht, sizeOf, typeInfo, hi, Builtin.lenOf, Builtin.firstCells, hnc, storeCells, loadCells, loadCellsFrom]
    unfold Oper.wp execOp
    simp only [ho, resolve, invoke, builtin, Sem.run_bind, Sem.run_pure, Result.andThen_ok, List.map_toArray, List.map_cons, List.map_nil, hs, hx, hrun]
    exact h v w0 (by simpa using hown) (Chg.refl _ _) (Chg.refl _ _)
theorem wpList_append_rq {P : Program} {α : Type} {enc : α → List Value} {ops : Array Oper} {rest : List Oper} {o : Oper} {a : Act} {Q : Exit → Act → World → Prop} (w0 : World) (hgd : o.guard = none) (s x : Operand) (t : TypeId)
    (ho : o.op = .call { callee := .builtin .append, args := #[s, x], argTypes := #[t, t] })
    (base : Nat) (e : TypeId) (z : Value) (sz bytes : Nat) (ht : P.underlying t = some (.slice e)) (hi : (P.info? e).map (fun i => (i.zero, i.size, i.bytes)) = some (some z, sz, bytes))
    (hzs : z.cells.size = sz) (hsz : 0 < sz) (hby : bytes ≤ 65536)
    (v : Value) (l : List α) (hown : OwnL sz enc e base w0 v l) (hs : a.eval s = v) (A : Option Addr) (n c : Nat) (news : List α) (hrd : Sl sz enc w0 A n news) (hlen : ∀ y, (enc y).length = sz) (h1 : ∀ y, ∀ u ∈ enc y, u.oneCell' = true)
    (hx : a.eval x = .slice A n c) (hl : l.length ≤ 100000000) (hn : n ≤ 100000000) (hbase : base ≤ w0.heap.size)
    (h : ∀ v' w', OwnL sz enc e base w' v' (l ++ news) → Chg (fun k => k < w0.heap.size ∧ ¬ v.ownBlock = some k) w0 w' → Chg (· < base) w0 w' → wpList P ops Q rest (a.put o.dst v') w') :
    wpList P ops Q (o :: rest) a w0 :=
  wpList_plain hgd fun _ hK => wp_append_rq w0 s x t ho base e z sz bytes ht hi hzs hsz hby v l hown hs A n c news hrd hlen h1 hx hl hn hbase fun v' w' h2 h3 h4 => hK _ _ (h v' w' h2 h3 h4)

theorem wp_append_rqW {P : Program} {α : Type} {enc : α → List Value} {o : Oper} {a : Act} {K : Act → World → Prop} {Q : Exit → Act → World → Prop} (w0 : World) (s x : Operand) (t : TypeId)
    (ho : o.op = .call { callee := .builtin .append, args := #[s, x], argTypes := #[t, t] })
    (base : Nat) (e : TypeId) (z : Value) (sz bytes : Nat) (ht : P.underlying t = some (.slice e)) (hi : (P.info? e).map (fun i => (i.zero, i.size, i.bytes)) = some (some z, sz, bytes))
    (hzs : z.cells.size = sz) (hsz : 0 < sz) (hby : bytes ≤ 65536)
    (v : Value) (l : List α) (hown : OwnL sz enc e base w0 v l) (hs : a.eval s = v) (A : Option Addr) (n c : Nat) (news : List α) (hrd : Sl sz enc w0 A n news) (hlen : ∀ y, (enc y).length = sz) (h1 : ∀ y, ∀ u ∈ enc y, u.oneCell' = true)
    (hx : a.eval x = .slice A n c) (hb1 : 0 < bytes) (hmul : (l.length + n) * bytes ≤ 140737488355328) (hbase : base ≤ w0.heap.size)
    (h : ∀ v' w', OwnL sz enc e base w' v' (l ++ news) → Chg (fun k => k < w0.heap.size ∧ ¬ v.ownBlock = some k) w0 w' → Chg (· < base) w0 w' → K (a.put o.dst v') w') :
    o.wp P a w0 K Q := by
  by_cases hA : A = none → c = 0
  · exact wp_append_rdW w0 s x t ho base e z sz bytes ht hi hzs hsz hby v l hown hs (· < w0.heap.size) A n c news hrd hA hlen h1 hx hb1 hmul hbase h
  · have hAn : A = none := by
      cases A with
      | none => rfl
      | some _ => exact absurd (fun h => by cases h) hA
    subst hAn
    obtain ⟨i, hi, hz0, hz1, hz2⟩ := info_parts hi
    have hn0 : n = 0 := by
      rcases hrd.2 with h0 | ⟨x, o, e1, _⟩
      · exact h0
      · cases e1
    subst hn0
    have hnews : news = [] := List.eq_nil_of_length_eq_zero hrd.1
    subst hnews
    have hrun : (Builtin.append_ #[t, t] o.type #[v, .slice none 0 c]).run P w0 = .ok v w0 := by
      rcases hown.2 with ⟨rfl, _⟩ | ⟨g, cap, cur, rfl, _, _, hnc, _⟩
      · simp [Builtin.append_, run_underlying ht, sizeOf, typeInfo, hi, Builtin.lenOf, Builtin.firstCells, loadCells, loadCellsFrom]
      · simp [Builtin.append_, run_underlying ht, sizeOf, typeInfo, hi, Builtin.lenOf, Builtin.firstCells, hnc, storeCells, loadCells, loadCellsFrom]
    unfold Oper.wp execOp
    simp only [ho, resolve, invoke, builtin, Sem.run_bind, Sem.run_pure, Result.andThen_ok, List.map_toArray, List.map_cons, List.map_nil, hs, hx, hrun]
    exact h v w0 (by simpa using hown) (Chg.refl _ _) (Chg.refl _ _)
theorem wpList_append_rqW {P : Program} {α : Type} {enc : α → List Value} {ops : Array Oper} {rest : List Oper} {o : Oper} {a : Act} {Q : Exit → Act → World → Prop} (w0 : World) (hgd : o.guard = none) (s x : Operand) (t : TypeId)
    (ho : o.op = .call { callee := .builtin .append, args := #[s, x], argTypes := #[t, t] })
    (base : Nat) (e : TypeId) (z : Value) (sz bytes : Nat) (ht : P.underlying t = some (.slice e)) (hi : (P.info? e).map (fun i => (i.zero, i.size, i.bytes)) = some (some z, sz, bytes))
    (hzs : z.cells.size = sz) (hsz : 0 < sz) (hby : bytes ≤ 65536)
    (v : Value) (l : List α) (hown : OwnL sz enc e base w0 v l) (hs : a.eval s = v) (A : Option Addr) (n c : Nat) (news : List α) (hrd : Sl sz enc w0 A n news) (hlen : ∀ y, (enc y).length = sz) (h1 : ∀ y, ∀ u ∈ enc y, u.oneCell' = true)
    (hx : a.eval x = .slice A n c) (hb1 : 0 < bytes) (hmul : (l.length + n) * bytes ≤ 140737488355328) (hbase : base ≤ w0.heap.size)
    (h : ∀ v' w', OwnL sz enc e base w' v' (l ++ news) → Chg (fun k => k < w0.heap.size ∧ ¬ v.ownBlock = some k) w0 w' → Chg (· < base) w0 w' → wpList P ops Q rest (a.put o.dst v') w') :
    wpList P ops Q (o :: rest) a w0 :=
  wpList_plain hgd fun _ hK => wp_append_rqW w0 s x t ho base e z sz bytes ht hi hzs hsz hby v l hown hs A n c news hrd hlen h1 hx hb1 hmul hbase fun v' w' h2 h3 h4 => hK _ _ (h v' w' h2 h3 h4)

set_option maxRecDepth 100000 in
set_option maxHeartbeats 2000000 in
theorem clone_i (a : Option Addr) (n c : Nat) (l : List Int) (w : World) (h : Sl 1 encI w a n l) (hn : n ≤ 17592186044416) :
    Calls Tryz.prog 60 #[.slice a n c] w fun e w' => ∃ v, e = .returned v ∧ OwnL 1 encI 3 w.heap.size w' v l ∧ Ex w w' := by
  have HL := Lib.hid h.len
  cases a with
  | none =>
    have hn0 : n = 0 := by
      rcases h.2 with h0 | ⟨x, o, e, _⟩
      · exact h0
      · cases e
    have hl : l = [] := List.eq_nil_of_length_eq_zero (HL.out.trans hn0)
    subst hn0 hl
    clear h HL
    have hq : ∀ w : World, (binOp .eql 22 (.slice none 0 c) (.slice none 0 0)).run Tryz.prog w = .ok (.bool true) w := fun w => Lib.run_eql_slice_nil w 22 3 none 0 c 0 0 Tryz.underlying22
    go_enter Tryz.func60, Tryz.ntmps60
    go_wp2
    go_ret
    exact ⟨_, rfl, OwnL.nil _ _ _ _ _, Ex.refl _⟩
  | some A =>
    have q0 := Ex.new w (.cells #[] 3)
    have h0 := h.nx q0
    have own0 : OwnL 1 encI 3 w.heap.size (w.alloc (.cells #[] 3)) (.slice (some ⟨w.heap.size, 0, none⟩) 0 0) [] := OwnL.empty (Nat.le_refl _) rfl
    clear h
    have hq : ∀ w : World, (binOp .eql 22 (.slice (some A) n c) (.slice none 0 0)).run Tryz.prog w = .ok (.bool false) w := fun w => Lib.run_eql_slice_nil w 22 3 (some A) n c 0 0 Tryz.underlying22
    go_enter Tryz.func60, Tryz.ntmps60
    go_wp2_with (at_builtin; (refine wpList_append_rqW (enc := encI) _ rfl _ _ 22 rfl w.heap.size 3 (.int .i64 0) 1 8 Tryz.underlying22 Tryz.infoI6 rfl (by omega) (by omega) _ [] own0 rfl (some A) n c l h0 (fun _ => rfl) (by simp [encI, Value.oneCell']) rfl (by omega) (by simp; omega) (by simp) ?_); intro v1 w1 own1 hch0 hch1)
    go_ret
    exact ⟨_, rfl, by simpa using own1, Chg.trans q0 hch1⟩
set_option maxRecDepth 100000 in
set_option maxHeartbeats 2000000 in
theorem clone_nr (a : Option Addr) (n c : Nat) (l : List Nr) (w : World) (h : Sl 4 encNr w a n l) (hn : n ≤ 4398046511104) :
    Calls Tryz.prog 76 #[.slice a n c] w fun e w' => ∃ v, e = .returned v ∧ OwnL 4 encNr 49 w.heap.size w' v l ∧ Ex w w' := by
  have HL := Lib.hid h.len
  cases a with
  | none =>
    have hn0 : n = 0 := by
      rcases h.2 with h0 | ⟨x, o, e, _⟩
      · exact h0
      · cases e
    have hl : l = [] := List.eq_nil_of_length_eq_zero (HL.out.trans hn0)
    subst hn0 hl
    clear h HL
    have hq : ∀ w : World, (binOp .eql 43 (.slice none 0 c) (.slice none 0 0)).run Tryz.prog w = .ok (.bool true) w := fun w => Lib.run_eql_slice_nil w 43 49 none 0 c 0 0 Tryz.underlying43
    go_enter Tryz.func76, Tryz.ntmps76
    go_wp2
    go_ret
    exact ⟨_, rfl, OwnL.nil _ _ _ _ _, Ex.refl _⟩
  | some A =>
    have q0 := Ex.new w (.cells #[] 49)
    have h0 := h.nx q0
    have own0 : OwnL 4 encNr 49 w.heap.size (w.alloc (.cells #[] 49)) (.slice (some ⟨w.heap.size, 0, none⟩) 0 0) [] := OwnL.empty (Nat.le_refl _) rfl
    clear h
    have hq : ∀ w : World, (binOp .eql 43 (.slice (some A) n c) (.slice none 0 0)).run Tryz.prog w = .ok (.bool false) w := fun w => Lib.run_eql_slice_nil w 43 49 (some A) n c 0 0 Tryz.underlying43
    go_enter Tryz.func76, Tryz.ntmps76
    go_wp2_with (at_builtin; (refine wpList_append_rqW (enc := encNr) _ rfl _ _ 43 rfl w.heap.size 49 (.agg #[.int .i64 0, .int .i64 0, .int .i64 0, .int .i64 0]) 4 32 Tryz.underlying43 Tryz.infoNr rfl (by omega) (by omega) _ [] own0 rfl (some A) n c l h0 (fun _ => rfl) (by simp [encNr, Value.oneCell']) rfl (by omega) (by simp; omega) (by simp) ?_); intro v1 w1 own1 hch0 hch1)
    go_ret
    exact ⟨_, rfl, by simpa using own1, Chg.trans q0 hch1⟩

def CpPost (p : Pr) (base : Nat) (w : World) (e : Ending) (w' : World) : Prop :=
  ∃ hk hn : Hdr, e = .returned (.agg #[.int .i64 p.id, hk.val, .int .i64 p.left, .int .i64 p.right, hn.val]) ∧ OwnL 1 encI 3 base w' hk.val p.known ∧ OwnL 4 encNr 49 base w' hn.val p.near ∧ Ex w w'
set_option maxRecDepth 100000 in
set_option maxHeartbeats 2000000 in
theorem copypeer_r (p : Pr) (a1 : Option Addr) (n1 c1 : Nat) (a2 : Option Addr) (n2 c2 : Nat) (w : World) (h1 : Sl 1 encI w a1 n1 p.known) (h2 : Sl 4 encNr w a2 n2 p.near) (hn1 : n1 ≤ 17592186044416) (hn2 : n2 ≤ 4398046511104) :
    Calls Tryz.prog 63 #[.agg #[.int .i64 p.id, .slice a1 n1 c1, .int .i64 p.left, .int .i64 p.right, .slice a2 n2 c2]] w (CpPost p w.heap.size w) := by
  have EX := Ex.refl w
  have S1 := Lib.hid h1
  have S2 := Lib.hid h2
  clear h1 h2
  obtain ⟨g1, hg1⟩ : ∃ g1, g1 = w.heap.size := ⟨_, rfl⟩
  obtain ⟨g2, hg2⟩ : ∃ g2, g2 = (w.heap.size + 1) := ⟨_, rfl⟩
  obtain ⟨w1, hw1⟩ : ∃ w1, w1 = ((w.alloc (.cells #[.int .i64 p.id, .slice a1 n1 c1, .int .i64 p.left, .int .i64 p.right, .slice a2 n2 c2] 45)).alloc (.cells #[.int .i64 0, .slice none 0 0, .int .i64 0, .int .i64 0, .slice none 0 0] 45)) := ⟨_, rfl⟩
  have kk : Ex w w1 := by rw [hw1]; exact (((Ex.refl w).alloc (.cells #[.int .i64 p.id, .slice a1 n1 c1, .int .i64 p.left, .int .i64 p.right, .slice a2 n2 c2] 45)).alloc (.cells #[.int .i64 0, .slice none 0 0, .int .i64 0, .int .i64 0, .slice none 0 0] 45))
  have B1 : Blk w1 g1 [.int .i64 p.id, .slice a1 n1 c1, .int .i64 p.left, .int .i64 p.right, .slice a2 n2 c2] 45 := by rw [hw1]; simp only [hg1, hg2]; have hbk := ((Blk.new w [.int .i64 p.id, .slice a1 n1 c1, .int .i64 p.left, .int .i64 p.right, .slice a2 n2 c2] 45).nx (Ex.new _ (.cells #[.int .i64 0, .slice none 0 0, .int .i64 0, .int .i64 0, .slice none 0 0] 45))); simpa using hbk
  have B2 : Blk w1 g2 [.int .i64 0, .slice none 0 0, .int .i64 0, .int .i64 0, .slice none 0 0] 45 := by rw [hw1]; simp only [hg1, hg2]; have hbk := (Blk.new (w.alloc (.cells #[.int .i64 p.id, .slice a1 n1 c1, .int .i64 p.left, .int .i64 p.right, .slice a2 n2 c2] 45)) [.int .i64 0, .slice none 0 0, .int .i64 0, .int .i64 0, .slice none 0 0] 45); simpa using hbk
  have Hw1 := Lib.hid hw1
  have Hg1 := Lib.hid hg1
  have Hg2 := Lib.hid hg2
  replace EX := EX.nx kk
  have hg1' : w.heap.size ≤ g1 := by omega
  have hg2' : w.heap.size ≤ g2 := by omega
  have h12 : ¬ g1 = g2 := by omega
  have h21 : ¬ g2 = g1 := by omega
  clear kk hw1 hg1 hg2
  go_enter Tryz.func63, Tryz.ntmps63
  go_upto_region 1 with fail
  rw [← Hw1.out, ← Hg2.out, ← Hg1.out]
  clear Hw1 Hg2 Hg1
  have hz1 := EX.size
  have q1 := B1.cell 1 _ rfl
  have h1 := S1.out.nx EX
  have own0 : OwnL 1 encI 3 w1.heap.size w1 (.slice none 0 0) [] := OwnL.nil _ _ _ _ _
  go_upto_region 2 with (at_builtin; (refine wpList_append_rqW (enc := encI) w1 rfl (.const (.slice none 0 0)) (.tmp 4) 22 rfl w1.heap.size 3 (.int .i64 0) 1 8 Tryz.underlying22 Tryz.infoI6 rfl (by omega) (by omega) _ [] own0 rfl a1 n1 c1 p.known h1 (fun _ => rfl) (by simp [encI, Value.oneCell']) rfl (by omega) (by simp; omega) (Nat.le_refl _) ?_); intro v1 w2 own1 ch0 ch1; rw [List.nil_append] at own1; obtain ⟨A1, C1, rfl, _, _, _, _⟩ := own1.slf (fun _ => rfl); have f1 := (B1.nx ch1).free 1; have r1 := (B1.nx ch1).cell 1 _ rfl; clear q1)
  have k2 : Ex w1 w2 := ch1
  have L1 := B1.lt
  have L2 := B2.lt
  have k3 : Ex w w2 := EX.nx k2
  obtain ⟨w3, hw3⟩ : ∃ w3, w3 = w2.setCell ⟨g1, 1, none⟩ (.slice A1 p.known.length C1) := ⟨_, rfl⟩
  have k4 : Ex w w3 := by rw [hw3]; exact k3.setNew (p := ⟨g1, 1, none⟩) _ hg1'
  have k5 : Exb g1 w2 w3 := by rw [hw3]; exact (Exb.refl g1 w2).setB (p := ⟨g1, 1, none⟩) _ rfl
  replace B1 : Blk w3 g1 [.int .i64 p.id, .slice A1 p.known.length C1, .int .i64 p.left, .int .i64 p.right, .slice a2 n2 c2] 45 := by rw [hw3]; exact (B1.nx k2).set 1 _
  replace B2 := (B2.nx k2).nxb h21 k5
  replace own1 := own1.nxb L1 k5
  have z3 : w1.heap.size ≤ w3.heap.size := Nat.le_trans k2.size k5.size
  rw [← hw3]
  clear hw3 f1 r1 own0 h1 ch0 ch1 k2 k3 k5
  have q4 := B1.cell 4 _ rfl
  have h2 := S2.out.nx k4
  have own0 : OwnL 4 encNr 49 w3.heap.size w3 (.slice none 0 0) [] := OwnL.nil _ _ _ _ _
  go_upto_region 3 with (at_builtin; (refine wpList_append_rqW (enc := encNr) w3 rfl (.const (.slice none 0 0)) (.tmp 8) 43 rfl w3.heap.size 49 (.agg #[.int .i64 0, .int .i64 0, .int .i64 0, .int .i64 0]) 4 32 Tryz.underlying43 Tryz.infoNr rfl (by omega) (by omega) _ [] own0 rfl a2 n2 c2 p.near h2 (fun _ => rfl) (by simp [encNr, Value.oneCell']) rfl (by omega) (by simp; omega) (Nat.le_refl _) ?_); intro v4 w4 own4 ch0 ch1; rw [List.nil_append] at own4; obtain ⟨A4, C4, rfl, _, _, _, _⟩ := own4.slf (fun _ => rfl); have f1 := (B1.nx ch1).free 4; have r1 := (B1.nx ch1).cell 4 _ rfl; clear q4)
  have k2 : Ex w3 w4 := ch1
  have L3 := B1.lt
  have k6 : Ex w w4 := k4.nx k2
  replace own1 := own1.nx k2
  obtain ⟨w5, hw5⟩ : ∃ w5, w5 = w4.setCell ⟨g1, 4, none⟩ (.slice A4 p.near.length C4) := ⟨_, rfl⟩
  have k7 : Ex w w5 := by rw [hw5]; exact k6.setNew (p := ⟨g1, 4, none⟩) _ hg1'
  have k8 : Exb g1 w4 w5 := by rw [hw5]; exact (Exb.refl g1 w4).setB (p := ⟨g1, 4, none⟩) _ rfl
  replace B1 : Blk w5 g1 [.int .i64 p.id, .slice A1 p.known.length C1, .int .i64 p.left, .int .i64 p.right, .slice A4 p.near.length C4] 45 := by rw [hw5]; exact (B1.nx k2).set 4 _
  replace B2 := (B2.nx k2).nxb h21 k8
  replace own1 := own1.nxb L1 k8
  replace own4 := own4.nxb L3 k8
  rw [← hw5]
  clear hw5 f1 r1 own0 h2 ch0 ch1 k2 k6 k8
  have p0 := B1.cell 0 _ rfl
  have p1 := B1.cell 1 _ rfl
  have p2 := B1.cell 2 _ rfl
  have p3 := B1.cell 3 _ rfl
  have p4 := B1.cell 4 _ rfl
  have q0 := B2.cell 0 _ rfl
  have q1 := B2.cell 1 _ rfl
  have q2 := B2.cell 2 _ rfl
  have q3 := B2.cell 3 _ rfl
  have q4 := B2.cell 4 _ rfl
  have f0 := B2.free 0
  have f1 := B2.free 1
  have f2 := B2.free 2
  have f3 := B2.free 3
  have f4 := B2.free 4
  have KE := Lib.hid (((((k7.setNew (p := ⟨g2, 0, none⟩) (.int .i64 p.id) hg2').setNew (p := ⟨g2, 1, none⟩) (.slice A1 p.known.length C1) hg2').setNew (p := ⟨g2, 2, none⟩) (.int .i64 p.left) hg2').setNew (p := ⟨g2, 3, none⟩) (.int .i64 p.right) hg2').setNew (p := ⟨g2, 4, none⟩) (.slice A4 p.near.length C4) hg2')
  have KB : Exb g2 w5 (((((w5.setCell ⟨g2, 0, none⟩ (.int .i64 p.id)).setCell ⟨g2, 1, none⟩ (.slice A1 p.known.length C1)).setCell ⟨g2, 2, none⟩ (.int .i64 p.left)).setCell ⟨g2, 3, none⟩ (.int .i64 p.right)).setCell ⟨g2, 4, none⟩ (.slice A4 p.near.length C4)) :=
    (((((Exb.refl g2 w5).setB (p := ⟨g2, 0, none⟩) _ rfl).setB (p := ⟨g2, 1, none⟩) _ rfl).setB (p := ⟨g2, 2, none⟩) _ rfl).setB (p := ⟨g2, 3, none⟩) _ rfl).setB (p := ⟨g2, 4, none⟩) _ rfl
  have O1 := Lib.hid ((own1.nxb L2 KB).base hz1)
  have O4 := Lib.hid ((own4.nxb (show g2 < w3.heap.size by omega) KB).base (show w.heap.size ≤ w3.heap.size by omega))
  clear B1 B2 own1 own4 KB k4 k7 EX
  go_wp2_with fail
  refine bodyPost_ret (v := .agg #[.int .i64 p.id, .slice A1 p.known.length C1, .int .i64 p.left, .int .i64 p.right, .slice A4 p.near.length C4]) (by simp [results, Tryz.results63, go_sem, *]) rfl ⟨(A1, p.known.length, C1), (A4, p.near.length, C4), rfl, O1.out, O4.out, KE.out⟩
end Go.Proofs.YtbnbjiddffihoaaGreatDoor

/- A region that draws its order: the held condition need not be shown behind operations that wait for all that is taken first. -/
namespace Go.Proofs.YtbnbjiddffihoaaGreatDoor
open Go.RowKit

section
variable {P : Program} {ops : Array Oper} {Q : Exit → Act → World → Prop} {md : Region.Mode} {S : World → Prop} {late : List Nat}

def wpAnyL (P : Program) (md : Region.Mode) (ops : Array Oper) (Q : Exit → Act → World → Prop) (S : World → Prop) (late : List Nat) : Nat → Array Bool → Act → World → Prop
  | 0, listed, a, w => Region.ready md ops listed = [] ∧ Q .normal a w
  | fuel + 1, listed, a, w =>
    (Region.ready md ops listed = [] → Q .normal a w) ∧
    ∀ i ∈ Region.ready md ops listed, wpOp P ops Q i (fun a' w' => (late.contains i = false → S w → S w') ∧ wpAnyL P md ops Q S late fuel (listed.setIfInBounds i true) a' w') a w
theorem wpAny_of_late : ∀ (fuel : Nat) (listed : Array Bool) (a : Act) (w : World), wpAnyL P md ops Q S late fuel listed a w → wpAny P md ops Q fuel listed a w
  | 0, _, _, _, h => h
  | fuel + 1, _, _, _, h => ⟨h.1, fun i hi => wpOp_mono (fun a' w' h' => wpAny_of_late fuel _ a' w' h'.2) (h.2 i hi)⟩
def reachO (md : Region.Mode) (ops : Array Oper) (i : Nat) : Nat → Nat → Bool
  | 0, _ => false
  | f + 1, j => match ops[j]? with
    | some o => o.after.any fun e => Region.binds md e && (e.on == i || reachO md ops i f e.on)
    | none => false
def lateOk (md : Region.Mode) (ops : Array Oper) (late : List Nat) (i : Nat) : Bool := late.all fun j => reachO md ops i ops.size j
def Clo (md : Region.Mode) (ops : Array Oper) (listed : Array Bool) : Prop :=
  ∀ j o, ops[j]? = some o → listed.getD j false = true → ∀ e ∈ o.after, Region.binds md e = true → listed.getD e.on false = true
def closedO (md : Region.Mode) (ops : Array Oper) (listed : Array Bool) : Bool :=
  (List.range ops.size).all fun j => match ops[j]? with
    | some o => !(listed.getD j false) || o.after.all fun e => !(Region.binds md e) || listed.getD e.on false
    | none => true
theorem closedO_spec {listed : Array Bool} (h : closedO md ops listed = true) : Clo md ops listed := by
  intro j o hj hl e he hb
  have hjs : j < ops.size := (Array.getElem?_eq_some_iff.1 hj).1
  have h1 := List.all_eq_true.1 h j (List.mem_range.2 hjs)
  simp only [hj, hl, Bool.not_true, Bool.false_or] at h1
  rw [Array.all_eq_true'] at h1
  have h2 := h1 e he
  simpa [hb] using h2
theorem reach_listed {i : Nat} {listed : Array Bool} (hc : Clo md ops listed) : ∀ (f j : Nat), (∀ o, ops[j]? = some o → ∀ e ∈ o.after, Region.binds md e = true → listed.getD e.on false = true) → reachO md ops i f j = true → listed.getD i false = true
  | 0, _, _, h => by cases h
  | f + 1, j, hp, h => by
    unfold reachO at h
    cases ho : ops[j]? with
    | none => simp [ho] at h
    | some o =>
      simp only [ho] at h
      rw [Array.any_eq_true'] at h
      obtain ⟨e, he, h2⟩ := h
      rw [Bool.and_eq_true, Bool.or_eq_true, beq_iff_eq] at h2
      have hl := hp o ho e he h2.1
      rcases h2.2 with h3 | h3
      · rw [← h3]; exact hl
      · exact reach_listed hc f e.on (fun o' ho' e' he' hb' => hc e.on o' ho' hl e' he' hb') h3
theorem getD_mono {listed : Array Bool} {j k : Nat} (h : listed.getD k false = true) : (listed.setIfInBounds j true).getD k false = true := by
  rw [Array.getD_eq_getD_getElem?] at h ⊢
  rw [Array.getElem?_setIfInBounds]
  split
  · split
    · rfl
    · rename_i hk hs
      subst hk
      rw [Array.getElem?_eq_none (by omega)] at h
      exact h
  · exact h
theorem getD_self {listed : Array Bool} {j k : Nat} (h : (listed.setIfInBounds j true).getD k false = true) : k = j ∨ listed.getD k false = true := by
  by_cases hk : k = j
  · exact .inl hk
  · right
    rw [Array.getD_eq_getD_getElem?] at h ⊢
    rwa [Array.getElem?_setIfInBounds, if_neg (fun e => hk e.symm)] at h
theorem Clo.step {j : Nat} {oj : Oper} {listed : Array Bool} (hc : Clo md ops listed) (hoj : ops[j]? = some oj) (hall : ∀ e ∈ oj.after, Region.binds md e = true → listed.getD e.on false = true) : Clo md ops (listed.setIfInBounds j true) := by
  intro p o hp hl e he hb
  rcases getD_self hl with rfl | h1
  · obtain rfl : oj = o := Option.some.inj (hoj.symm.trans hp)
    exact getD_mono (hall e he hb)
  · exact getD_mono (hc p o hp h1 e he hb)
theorem wpAnyL_first {i : Nat} {oi : Oper} {v : Value} (hi : ops[i]? = some oi) (hsel : ∀ (j : Nat) (o : Oper) cs b, ops[j]? = some o → o.op ≠ .select cs b)
    (hQ : ∀ c a w, Q (.panic c) (a.put oi.dst v) w → Q (.panic c) a w) (hl : lateOk md ops late i = true) :
    ∀ (fuel : Nat) (listed : Array Bool) (a : Act) (w : World), Clo md ops listed →
      (∀ j oj, ops[j]? = some oj → j ≠ i → listed.getD j true = false → (∀ e ∈ oj.after, Region.binds md e = true → e.on ≠ i) → oi.apart ops oj = true) →
      i ∈ Region.ready md ops listed → YieldsIf P ops S oi v a → S w →
      wpAnyL P md ops Q S late fuel (listed.setIfInBounds i true) (a.put oi.dst v) w → wpAnyL P md ops Q S late (fuel + 1) listed a w := by
  have hun : ∀ listed : Array Bool, i ∈ Region.ready md ops listed → listed.getD i false = true → False := fun listed hr h => by
    have h0 := (mem_ready.1 hr).1
    rw [Array.getD_eq_getD_getElem?] at h h0
    cases h1 : listed[i]? with
    | none => rw [h1] at h; cases h
    | some b => rw [h1] at h h0; simp only [Option.getD_some] at h h0; rw [h] at h0; cases h0
  have hearly : ∀ (listed : Array Bool) j, Clo md ops listed → i ∈ Region.ready md ops listed → j ∈ Region.ready md ops listed → late.contains j = false := fun listed j hc hr hj => by
    rw [Bool.eq_false_iff]
    intro hcj
    have h1 := List.all_eq_true.1 hl j (List.contains_iff_mem.1 hcj)
    obtain ⟨_, oj, hoj, hall⟩ := mem_ready.1 hj
    exact hun listed hr (reach_listed hc _ j (fun o ho e he hb => by
      obtain rfl : oj = o := Option.some.inj (hoj.symm.trans ho)
      exact hall e he hb) h1)
  intro fuel
  induction fuel with
  | zero =>
    intro listed a w hcl _ hr hy hS H
    refine ⟨fun h => (by rw [h] at hr; cases hr), fun j hj => ?_⟩
    by_cases hji : j = i
    · subst hji; exact hy.wpOp hi hS ⟨fun _ _ => hS, H⟩
    · have := ready_mono hj hji
      rw [H.1] at this
      cases this
  | succ fuel ih =>
    intro listed a w hcl hfree hr hy hS H
    refine ⟨fun h => (by rw [h] at hr; cases hr), fun j hj => ?_⟩
    by_cases hji : j = i
    · subst hji; exact hy.wpOp hi hS ⟨fun _ _ => hS, H⟩
    · have h1 := H.2 j (ready_mono hj hji)
      have hej := hearly listed j hcl hr hj
      obtain ⟨hjun, oj, hoj, hall⟩ := mem_ready.1 hj
      have hnot : ∀ e ∈ oj.after, Region.binds md e = true → e.on ≠ i := fun e he hb heq => hun listed hr (by rw [← heq]; exact hall e he hb)
      have h2 := wpOp_putIf hoj (hfree j oj hoj hji hjun hnot) (fun cs b => hsel i oi cs b hi) (fun cs b => hsel j oj cs b hoj) hQ hy h1
      have hfree' : ∀ k ok, ops[k]? = some ok → k ≠ i → (listed.setIfInBounds j true).getD k true = false →
          (∀ e ∈ ok.after, Region.binds md e = true → e.on ≠ i) → oi.apart ops ok = true := fun k ok hk hki hun hno => by
        refine hfree k ok hk hki ?_ hno
        by_cases hjk : j = k
        · subst hjk; exact hjun
        · rw [getD_set_ne true hjk] at hun; exact hun
      refine wpOp_mono (fun a' w' h3 => ⟨h3.2.1, ih (listed.setIfInBounds j true) a' w' (hcl.step hoj hall) hfree' (ready_mono hr (Ne.symm hji)) h3.1 (h3.2.1 hej hS) ?_⟩) h2
      rw [Array.setIfInBounds_comm _ _ hji]
      exact h3.2.2
theorem wpAnyL_take {i : Nat} {oi : Oper} {v : Value} {fuel : Nat} {listed : Array Bool} {a : Act} {w : World} (hi : ops[i]? = some oi)
    (hs : Region.noSelect ops = true) (hf : Region.free md ops listed i = true) (hr : (Region.ready md ops listed).contains i = true)
    (hQ : ∀ c a w, Q (.panic c) (a.put oi.dst v) w → Q (.panic c) a w) (hy : YieldsIf P ops S oi v a) (hl : lateOk md ops late i = true) (hc : closedO md ops listed = true) (hS : S w)
    (h : wpAnyL P md ops Q S late fuel (listed.setIfInBounds i true) (a.put oi.dst v) w) : wpAnyL P md ops Q S late (fuel + 1) listed a w :=
  wpAnyL_first hi (Region.noSelect_spec hs) hQ hl fuel listed a w (closedO_spec hc) (Region.free_spec hi hf) (by simpa using hr) hy hS h
def AllReadyL (P : Program) (md : Region.Mode) (ops : Array Oper) (Q : Exit → Act → World → Prop) (S : World → Prop) (late : List Nat) (fuel : Nat) (listed : Array Bool) (a : Act) (w : World) (rs : List Nat) : Prop :=
  ∀ i ∈ rs, wpOp P ops Q i (fun a' w' => (late.contains i = false → S w → S w') ∧ wpAnyL P md ops Q S late fuel (listed.setIfInBounds i true) a' w') a w
theorem AllReadyL.nil {fuel : Nat} {listed : Array Bool} {a : Act} {w : World} : AllReadyL P md ops Q S late fuel listed a w [] := fun _ h => by cases h
theorem AllReadyL.cons {fuel : Nat} {listed : Array Bool} {a : Act} {w : World} {i : Nat} {o : Oper} {rs : List Nat} (ho : ops[i]? = some o)
    (h : ∀ K' : Act → World → Prop, Shut (∀ a w, S w → (S w → wpAnyL P md ops Q S late fuel (listed.setIfInBounds i true) a w) → K' a w) → if Region.wanted o (yielded ops a.tmps) = true then Oper.wp P o a w K' Q else K' (a.put o.dst undef) w)
    (hs : AllReadyL P md ops Q S late fuel listed a w rs) : AllReadyL P md ops Q S late fuel listed a w (i :: rs) := fun j hj => by
  rcases List.mem_cons.1 hj with rfl | hj
  · exact wpOp_step ho (fun K' hK => h K' (fun a w hS hW => hK a w ⟨fun _ _ => hS, hW hS⟩))
  · exact hs j hj
theorem AllReadyL.consL {fuel : Nat} {listed : Array Bool} {a : Act} {w : World} {i : Nat} {o : Oper} {rs : List Nat} (ho : ops[i]? = some o) (hl : late.contains i = true)
    (h : ∀ K' : Act → World → Prop, Shut (∀ a w, wpAnyL P md ops Q S late fuel (listed.setIfInBounds i true) a w → K' a w) → if Region.wanted o (yielded ops a.tmps) = true then Oper.wp P o a w K' Q else K' (a.put o.dst undef) w)
    (hs : AllReadyL P md ops Q S late fuel listed a w rs) : AllReadyL P md ops Q S late fuel listed a w (i :: rs) := fun j hj => by
  rcases List.mem_cons.1 hj with rfl | hj
  · exact wpOp_step ho (fun K' hK => h K' (fun a w hW => hK a w ⟨fun h0 => (Bool.noConfusion (hl.symm.trans h0)), hW⟩))
  · exact hs j hj
theorem wpAnyL_ready {rs : List Nat} {fuel : Nat} {listed : Array Bool} {a : Act} {w : World} (hr : Region.ready md ops listed = rs) (hne : rs ≠ [])
    (h : AllReadyL P md ops Q S late fuel listed a w rs) : wpAnyL P md ops Q S late (fuel + 1) listed a w := by
  refine ⟨fun h0 => absurd (hr.symm.trans h0) hne, ?_⟩
  rw [hr]
  exact h
theorem wpAnyL_done {listed : Array Bool} {a : Act} {w : World} (hr : Region.ready md ops listed = []) (h : Q .normal a w) : ∀ fuel, wpAnyL P md ops Q S late fuel listed a w
  | 0 => ⟨hr, h⟩
  | _ + 1 => ⟨fun _ => h, by rw [hr]; simp⟩
theorem wp_region_late_drew (late : List Nat) {id : Nat} {a : Act} {w : World} (hm : P.follows .mixedOrders = true) (hS : S w.drew)
    (h : S w.drew → wpAnyL P .any ops Q S late ops.size (Array.replicate ops.size false) a w.drew) : (Code.region id ops true).wp P Q a w :=
  wp_region_any hm (wpAny_of_late _ _ _ _ (h hS))
end
end Go.Proofs.YtbnbjiddffihoaaGreatDoor

/- Crash, of the package redundant and of its reference. -/
namespace Go.Proofs.YtbnbjiddffihoaaGreatDoor
open Go.RowKit

abbrev OwnPr (base : Nat) (w : World) (v : Value) (qs : List PQ) (P : List Pr) : Prop := OwnP 45 3 49 base w v qs P
def PlPost (P : List Pr) (w : World) (e : Ending) (w' : World) : Prop := ∃ v qs, e = .returned v ∧ OwnPr w.heap.size w' v qs P ∧ Ex w w'
theorem OwnP.app {eP eI eN : TypeId} (hI : eP ≠ eI) (hN : eP ≠ eN) {base : Nat} {w0 w1 w2 : World} {v v' : Value} {qs : List PQ} {P : List Pr} {p : Pr} {hk hn : Hdr} (h : OwnP eP eI eN base w0 v qs P) (hb : base ≤ w0.heap.size) (kk : Ex w0 w1)
    (ik : OwnL 1 encI eI w0.heap.size w1 hk.val p.known) (inr : OwnL 4 encNr eN w0.heap.size w1 hn.val p.near)
    (ho : OwnW 5 encQ eP base w2 v' (qs ++ [(p.nums, hk, hn)])) (k : Chg (fun k => k < w1.heap.size ∧ ¬ v.ownBlock = some k) w1 w2) : OwnP eP eI eN base w2 v' (qs ++ [(p.nums, hk, hn)]) (P ++ [p]) := by
  refine (h.nx kk).push hI hN ho k (ik.base hb) (inr.base hb) (fun j r g hr hg hv => ?_) (fun j r g hr hg hv => ?_)
  · obtain ⟨q, _, _, r2, _⟩ := h.getp hr
    have h1 := (r2.lt g hg).2
    have h2 := (ik.lt g hv).1
    omega
  · obtain ⟨q, _, _, _, r3⟩ := h.getp hr
    have h1 := (r3.lt g hg).2
    have h2 := (inr.lt g hv).1
    omega
theorem PL.rd {w : World} {a : Option Addr} {n : Nat} {P : List Pr} (h : PL w a n P) {j : Nat} (hj : j < n) :
    ∃ (x o : Nat) (a1 : Option Addr) (n1 c1 : Nat) (a2 : Option Addr) (n2 c2 : Nat) (p : Pr), a = some ⟨x, o, none⟩ ∧ x < w.heap.size ∧ P[j]? = some p ∧ w.cell? ⟨x, o + j * 5, none⟩ = some (.int .i64 p.id) ∧ w.cell? ⟨x, o + j * 5 + 1, none⟩ = some (.slice a1 n1 c1) ∧
      w.cell? ⟨x, o + j * 5 + 1 + 1, none⟩ = some (.int .i64 p.left) ∧ w.cell? ⟨x, o + j * 5 + 1 + 1 + 1, none⟩ = some (.int .i64 p.right) ∧ w.cell? ⟨x, o + j * 5 + 1 + 1 + 1 + 1, none⟩ = some (.slice a2 n2 c2) ∧ Sl 1 encI w a1 n1 p.known ∧ Sl 4 encNr w a2 n2 p.near := by
  obtain ⟨x, o, a1, n1, c1, a2, n2, c2, p, e1, e2, e3, e4, e5, e6⟩ := h.at hj
  exact ⟨x, o, a1, n1, c1, a2, n2, c2, p, e1, e2, e3, e4 0 _ rfl, e4 1 _ rfl, e4 2 _ rfl, e4 3 _ rfl, e4 4 _ rfl, e5, e6⟩
def SmallP (P : List Pr) : Prop := ∀ p ∈ P, p.known.length ≤ 17592186044416 ∧ p.near.length ≤ 4398046511104
theorem OwnP.row {eP eI eN : TypeId} {base : Nat} {w : World} {v : Value} {qs : List PQ} {P : List Pr} (h : OwnP eP eI eN base w v qs P) : OwnW 5 encQ eP base w v qs := h.1
theorem encQ_one (q : PQ) : ∀ u ∈ encQ q, u.oneCell' = true := by
  intro u hu
  simp only [encQ, List.mem_cons, List.not_mem_nil, or_false] at hu
  rcases hu with rfl | rfl | rfl | rfl | rfl <;> rfl
end Go.Proofs.YtbnbjiddffihoaaGreatDoor

/- A map from numbers to slices that the call itself has made: what lies at each key, as it stands; and the entry that is taken before it is stored. -/
namespace Go.Proofs.YtbnbjiddffihoaaGreatDoor
open Go.RowKit Go.Maps
open Go.ChangeMaps Go.MapKept
open Go.WideElems (Fit findIdx_born findIdx_arr modify_last set_self)

def rawR (v : Value) : Option (DataW Value × List MemPlace) := some (.held v, [])
abbrev nilS : Value := .slice none 0 0
def RawM (P : Program) (k : TypeId) (w : World) (b n : Nat) (f : Int → Value) : Prop :=
  ∃ D, w.ownsMap P k rawR b n D ∧ ∀ v, D.atKey (keyI v) (.held nilS) = .held (f v)
def upd (f : Int → Value) (v : Int) (u : Value) : Int → Value := fun x => if x = v then u else f x
section
variable {P : Program} {k e t : TypeId} {w w' : World} {b n : Nat} {f : Int → Value}
theorem RawM.made (w : World) (P : Program) (k : TypeId) : RawM P k (w.alloc (.map #[] 0)) w.heap.size 0 (fun _ => nilS) := ⟨_, World.ownsMap_made _ _ _ _, fun _ => rfl⟩
theorem RawM.lt (h : RawM P k w b n f) : b < w.heap.size := by obtain ⟨D, h, _⟩ := h; exact World.ownsMap.lt h
theorem RawM.same (h : RawM P k w b n f) (hh : w'.heap[b]? = w.heap[b]?) : RawM P k w' b n f := by
  obtain ⟨D, ⟨es, clock, hb, r⟩, hf⟩ := h
  exact ⟨D, ⟨es, clock, hh.trans hb, r⟩, hf⟩
theorem RawM.nx (h : RawM P k w b n f) (kk : Ex w w') : RawM P k w' b n f := h.same (kk.block b h.lt)
theorem RawM.nxb {c : Nat} (h : RawM P k w b n f) (hc : b ≠ c) (kk : Exb c w w') : RawM P k w' b n f := h.same (kk.block b ⟨h.lt, hc⟩)
theorem RawM.get (h : RawM P k w b n f) (hk : P.underlying k = some (.int .i64)) (ht : P.underlying t = some (.map k e)) (hz : (zeroValue e).run P w = .ok nilS w) {v : Int} (hv : (Lit.int .i64 v).wf = true) :
    (Instr.lookup t (.map (some b)) (.int .i64 v) false).run P w = .ok (f v) w := by
  obtain ⟨D, h, hf⟩ := h
  obtain ⟨u, ps, hrun, hR⟩ := World.ownsMap.lookup (t := t) (e := e) h (int_keyed hk) ht hz (zd := .held nilS) (zp := []) rfl (keyOf_int_mk hk hv)
  rw [hf] at hR
  unfold rawR at hR
  simp only [Option.some.injEq, Prod.mk.injEq, DataW.held.injEq] at hR
  rw [hrun, hR.1]
theorem raw_put {D : DataW Value} (hD : IsMap D) (hf : ∀ v, D.atKey (keyI v) (.held nilS) = .held (f v)) (v : Int) (u : Value) : ∀ x, (D.put (keyI v) (.held u)).atKey (keyI x) (.held nilS) = .held (upd f v u x) := by
  intro x
  unfold upd
  by_cases hx : x = v
  · subst hx
    rw [atKey_put_same hD (key_lit x), if_pos rfl]
  · rw [atKey_put_other (by simpa [keyI] using hx), hf, if_neg hx]
theorem RawM.put (h : RawM P k w b n f) (hk : P.underlying k = some (.int .i64)) (ht : P.underlying t = some (.map k e)) (hn : n < 100000000) {v : Int} (hv : (Lit.int .i64 v).wf = true) (u : Value) :
    ∃ w', (Instr.mapUpdate t (.map (some b)) (.int .i64 v) u).run P w = .ok () w' ∧ RawM P k w' b (n + 1) (upd f v u) ∧ Exb b w w' ∧ w'.heap.size = w.heap.size := by
  obtain ⟨D, h, hf⟩ := h
  obtain ⟨w', hrun, ho, ht'⟩ := World.ownsMap.store (t := t) (e := e) (val := u) (d := .held u) (ps := []) h (int_keyed hk) ht (by unfold maxLen; omega) (keyOf_int_mk hk hv) rfl
  refine ⟨w', hrun, ⟨_, ho, raw_put h.isMap hf v u⟩, turned_exb ht', ?_⟩
  obtain ⟨es, clock, es', clock', hb, rfl⟩ := ht'
  simp [Go.ChangeMaps.setBlock]
theorem RawM.entry (h : RawM P k w b n f) (hk : P.underlying k = some (.int .i64)) (ht : P.underlying t = some (.map k e)) (hz : ∀ u : World, (zeroValue e).run P u = .ok nilS u) (hn : n < 100000000) {v : Int} (hv : (Lit.int .i64 v).wf = true) :
    ∃ (v0 : Value) (st : Nat) (w1 : World), (Instr.mapEntry t (.map (some b)) (.int .i64 v)).run P w = .ok (.tuple #[v0, goInt st]) w1 ∧ Exb b w w1 ∧ w1.heap.size = w.heap.size ∧
      ∀ (w2 : World) (u : Value), w2.heap[b]? = w1.heap[b]? → ∃ w3, (Instr.entryStore t (.map (some b)) (goInt st) u).run P w2 = .ok () w3 ∧ RawM P k w3 b (n + 1) (upd f v u) ∧ Exb b w2 w3 ∧ w3.heap.size = w2.heap.size := by
  have K := int_keyed (P := P) hk
  have hkey := keyOf_int_mk (P := P) hk hv
  obtain ⟨D, ⟨es, clock, hb, F, hs, hD⟩, hf⟩ := h
  have hM : RawM P k w b n f := ⟨D, ⟨es, clock, hb, F, hs, hD⟩, hf⟩
  obtain ⟨s1, s2, _⟩ := F.stamped
  have fin : ∀ (es1 : Array MapEntry) (c1 : Nat) (w2 : World) (u : Value) (es' : Array MapEntry) (c' : Nat), (setBlock w b (.map es1 c1)).heap[b]? = w2.heap[b]? →
      (Instr.mapUpdate t (.map (some b)) (.int .i64 v) u).run P w = .ok () (setBlock w b (.map es' c')) → RawM P k (setBlock w2 b (.map es' c')) b (n + 1) (upd f v u) ∧ Exb b w2 (setBlock w2 b (.map es' c')) ∧ (setBlock w2 b (.map es' c')).heap.size = w2.heap.size := by
    intro es1 c1 w2 u es' c' hw2 hrun
    obtain ⟨w', hrun', hM', _, _⟩ := hM.put hk ht hn hv u
    rw [hrun] at hrun'
    cases hrun'
    have h2 : w2.heap[b]? = some (.map es1 c1) := hw2.symm.trans (heap_setBlock_same hb _)
    refine ⟨hM'.same ((heap_setBlock_same h2 _).trans (heap_setBlock_same hb _).symm), turned_exb ⟨es1, c1, es', c', h2, rfl⟩, by simp [setBlock]⟩
  rcases K.find w hkey es.toList F.keys with ⟨h1, h2⟩ | ⟨j, e0, h1, h2, h3⟩
  · refine ⟨nilS, clock, setBlock w b (.map (es.push ⟨.int .i64 v, nilS, clock⟩) (clock + 1)), ?_, turned_exb ⟨es, clock, _, _, hb, rfl⟩, by simp [setBlock], fun w2 u hw2 => ⟨setBlock w2 b (.map (es.push ⟨.int .i64 v, u, clock⟩) (clock + 1)), ?_, fin _ _ w2 u _ _ hw2.symm ?_⟩⟩
    · simp [Instr.mapEntry, run_underlying ht, MapKept.run_getObj_map hb, K.check w false hkey, h1, hz, MapKept.run_setObj_map _ hb, Result.andThen, setBlock]
    · have hw2 : w2.heap[b]? = some (.map (es.push ⟨.int .i64 v, nilS, clock⟩) (clock + 1)) := hw2.trans (heap_setBlock_same hb _)
      have hidx : (es.push ⟨.int .i64 v, nilS, clock⟩).findIdx? (fun e => ((e.born : Nat) : Int) == ((clock : Nat) : Int)) = some es.size := by
        rw [findIdx_arr]
        refine findIdx_born (l := (es.push ⟨.int .i64 v, nilS, clock⟩).toList) (j := es.size) (e0 := ⟨.int .i64 v, nilS, clock⟩) ?_ (by simp)
        simp only [Array.toList_push, List.map_append, List.map_cons, List.map_nil]
        refine List.nodup_append.2 ⟨s2, by simp, fun a ha c hc e1 => ?_⟩
        simp only [List.mem_singleton] at hc
        obtain ⟨x, hx, rfl⟩ := List.mem_map.1 ha
        have := s1 x hx
        omega
      have hmod : (es.push ⟨.int .i64 v, nilS, clock⟩).modify es.size (fun e => { e with val := u }) = es.push ⟨.int .i64 v, u, clock⟩ := by
        apply Array.ext'
        rw [Array.toList_modify, Array.toList_push, Array.toList_push, ← Array.length_toList, modify_last]
      simp [Instr.entryStore, MapKept.run_getObj_map hw2, asInt, asIntOf, goInt, hidx, hmod, MapKept.run_setObj_map _ hw2, Result.andThen, setBlock]
    · simp [Instr.mapUpdate, run_underlying ht, MapKept.run_getObj_map hb, K.check w false hkey, h1, MapKept.run_setObj_map _ hb, Result.andThen, setBlock]
  · have hj : es[j]? = some e0 := by simpa using h2
    have hsame : es.modify j (fun e => { e with key := .int .i64 v }) = es := by
      apply Array.ext'
      rw [Array.toList_modify, modify_eq_set _ _ _ _ h2]
      have : ({ e0 with key := .int .i64 v } : MapEntry) = e0 := by rw [← h3]
      rw [this]
      exact set_self _ _ _ h2
    refine ⟨e0.val, e0.born, setBlock w b (.map es clock), ?_, turned_exb ⟨es, clock, _, _, hb, rfl⟩, by simp [setBlock], fun w2 u hw2 => ⟨setBlock w2 b (.map (es.modify j (fun e' => { e' with key := .int .i64 v, val := u })) clock), ?_, fin _ _ w2 u _ _ hw2.symm ?_⟩⟩
    · simp [Instr.mapEntry, run_underlying ht, MapKept.run_getObj_map hb, K.check w false hkey, h1, hj, h3, K.stays w hkey, hsame, MapKept.run_setObj_map _ hb, Result.andThen, setBlock]
    · have hw2 : w2.heap[b]? = some (.map es clock) := hw2.trans (heap_setBlock_same hb _)
      have hidx : es.findIdx? (fun e => ((e.born : Nat) : Int) == ((e0.born : Nat) : Int)) = some j := by
        rw [findIdx_arr]
        exact findIdx_born s2 h2
      have hmod : es.modify j (fun e => { e with val := u }) = es.modify j (fun e' => { e' with key := .int .i64 v, val := u }) := by
        apply Array.ext'
        rw [Array.toList_modify, Array.toList_modify, modify_eq_set _ _ _ _ h2, modify_eq_set _ _ _ _ h2, ← h3]
      simp [Instr.entryStore, MapKept.run_getObj_map hw2, asInt, asIntOf, goInt, hidx, hmod, MapKept.run_setObj_map _ hw2, Result.andThen, setBlock]
    · simp [Instr.mapUpdate, run_underlying ht, MapKept.run_getObj_map hb, K.check w false hkey, h1, hj, h3, K.stays w hkey, MapKept.run_setObj_map _ hb, Result.andThen, setBlock]
end
end Go.Proofs.YtbnbjiddffihoaaGreatDoor

/- A row of numbers of the call's own, of which the first ones may be cut off: append behind, take in front. -/
namespace Go.Proofs.YtbnbjiddffihoaaGreatDoor
open Go.RowKit

def QuL (e : TypeId) (base : Nat) (w : World) (v : Value) (l : List Int) : Prop :=
  (v = .slice none 0 0 ∧ l = []) ∨ ∃ (g o cap : Nat) (cur : Array Value), v = .slice (some ⟨g, o, none⟩) l.length cap ∧ base ≤ g ∧ w.heap[g]? = some (.cells cur e (0, 0)) ∧ l.length ≤ cap ∧ cap ≤ maxLen ∧ o + cap ≤ cur.size ∧ (cur.toList.drop o).take l.length = l.flatMap encI
section
variable {e : TypeId} {base : Nat} {w w' : World} {v : Value} {l : List Int}
theorem flatI_len (l : List Int) : (l.flatMap encI).length = l.length := by
  induction l with
  | nil => rfl
  | cons x l ih => rw [List.flatMap_cons, List.length_append, ih, List.length_cons, show (encI x).length = 1 from rfl]; omega
theorem flatI_map (l : List Int) : l.flatMap encI = l.map (Value.int .i64) := by
  induction l with
  | nil => rfl
  | cons y r ih => rw [List.flatMap_cons, ih]; rfl
theorem QuL.chg (h : QuL e base w v l) {S : Nat → Prop} (k : Chg S w w') (hs : ∀ k, k < w.heap.size → v.ownBlock = some k → S k) : QuL e base w' v l := by
  rcases h with h | ⟨g, o, cap, cur, rfl, hb, hg, rest⟩
  · exact .inl h
  · exact .inr ⟨g, o, cap, cur, rfl, hb, (k.block g (hs g (heap_lt hg) rfl)).trans hg, rest⟩
theorem QuL.nx (h : QuL e base w v l) (k : Ex w w') : QuL e base w' v l := h.chg k (fun _ hk _ => hk)
theorem QuL.lt (h : QuL e base w v l) {g : Nat} (hg : v.ownBlock = some g) : base ≤ g ∧ g < w.heap.size := by
  rcases h with ⟨rfl, _⟩ | ⟨g', o, cap, cur, rfl, hb, hh, _⟩
  · cases hg
  · cases hg
    exact ⟨hb, heap_lt hh⟩
theorem QuL.nxb {b : Nat} (h : QuL e base w v l) (hb : b < base) (k : Exb b w w') : QuL e base w' v l := h.chg k (fun x hx hv => ⟨hx, by have := (h.lt hv).1; omega⟩)
theorem QuL.front {x : Int} (h : QuL e base w v (x :: l)) : ∃ g o cap, v = .slice (some ⟨g, o, none⟩) (l.length + 1) cap ∧ g < w.heap.size ∧ base ≤ g ∧ 1 ≤ cap ∧ l.length + 1 ≤ cap ∧ w.cell? ⟨g, o, none⟩ = some (.int .i64 x) ∧
    QuL e base w (.slice (some (if cap = 1 then ⟨g, o, none⟩ else ⟨g, o + 1, none⟩)) l.length (cap - 1)) l := by
  rcases h with ⟨_, h⟩ | ⟨g, o, cap, cur, rfl, hb, hg, h1, h2, h3, h4⟩
  · cases h
  · have h1' : l.length + 1 ≤ cap := by simpa using h1
    have hc : cur.toList[o]? = some (.int .i64 x) := by
      have := congrArg (fun L : List Value => L[0]?) h4
      simpa [List.getElem?_take, List.getElem?_drop, encI] using this
    refine ⟨g, o, cap, by simp, heap_lt hg, hb, by omega, h1', ?_, ?_⟩
    · have : cur[o]? = some (.int .i64 x) := by simpa using hc
      simp [World.cell?, hg, this]
    · have h5 : (cur.toList.drop (o + 1)).take l.length = l.flatMap encI := by
        have hd : cur.toList.drop o = .int .i64 x :: cur.toList.drop (o + 1) := by
          obtain ⟨hlt, he⟩ := List.getElem?_eq_some_iff.1 hc
          rw [List.drop_eq_getElem_cons hlt, he]
        rw [hd, List.length_cons, List.take_succ_cons, List.flatMap_cons] at h4
        exact (List.cons.inj h4).2
      by_cases hcap : cap = 1
      · have hl0 : l = [] := List.eq_nil_of_length_eq_zero (by omega)
        subst hl0
        rw [if_pos hcap]
        exact .inr ⟨g, o, cap - 1, cur, by simp, hb, hg, by simp, by omega, by omega, by simp⟩
      · rw [if_neg hcap]
        exact .inr ⟨g, o + 1, cap - 1, cur, by simp, hb, hg, by omega, by omega, by omega, h5⟩
theorem QuL.append {P : Program} (h : QuL e base w v l) (t ty : TypeId) {z : Value} {bytes : Nat} (ht : P.underlying t = some (.slice e)) (hi : (P.info? e).map (fun i => (i.zero, i.size, i.bytes)) = some (some z, 1, bytes)) (hzs : z.cells.size = 1) (hby : bytes ≤ 65536)
    {S : Nat → Prop} {A : Option Addr} {n c : Nat} {news : List Int} (hrd : Rd 1 encI S w A n news) (hA : A = none → c = 0) (hl : l.length ≤ 100000000) (hn : n ≤ 100000000) (hbase : base ≤ w.heap.size) :
    ∃ v' w', (Builtin.append_ #[t, t] ty #[v, .slice A n c]).run P w = .ok v' w' ∧ QuL e base w' v' (l ++ news) ∧ Chg (fun k => k < w.heap.size ∧ ¬ v.ownBlock = some k) w w' ∧ Chg (· < base) w w' ∧ (v'.ownBlock = v.ownBlock ∨ v'.ownBlock = some w.heap.size) := by
  obtain ⟨i, hi, hz0, hz1, hz2⟩ := info_parts hi
  have hmul : (l.length + n) * bytes ≤ 200000000 * 65536 := Nat.mul_le_mul (by omega) hby
  have hnl := hrd.1
  have nothing : news = [] → (Builtin.append_ #[t, t] ty #[v, .slice A n c]).run P w = .ok v w → ∃ v' w', (Builtin.append_ #[t, t] ty #[v, .slice A n c]).run P w = .ok v' w' ∧ QuL e base w' v' (l ++ news) ∧ Chg (fun k => k < w.heap.size ∧ ¬ v.ownBlock = some k) w w' ∧ Chg (· < base) w w' ∧ (v'.ownBlock = v.ownBlock ∨ v'.ownBlock = some w.heap.size) :=
    fun hnews hrun => ⟨v, w, hrun, by rw [hnews]; simpa using h, Chg.refl _ _, Chg.refl _ _, .inl rfl⟩
  by_cases hn0 : n = 0
  · subst hn0
    have hnews : news = [] := List.eq_nil_of_length_eq_zero hnl
    refine nothing hnews ?_
    rcases h with ⟨rfl, _⟩ | ⟨g, o, cap, cur, rfl, _, _, hnc, _⟩
    · cases A <;> simp [Builtin.append_, run_underlying ht, sizeOf, typeInfo, hi, Builtin.lenOf, Builtin.firstCells, loadCells, loadCellsFrom]
    · cases A <;> simp [Builtin.append_, run_underlying ht, sizeOf, typeInfo, hi, Builtin.lenOf, Builtin.firstCells, hnc, storeCells, loadCells, loadCellsFrom]
  · obtain ⟨ad, rfl, hcells⟩ : ∃ ad, A = some ad ∧ ∀ j u, (news.flatMap encI)[j]? = some u → w.cell? (ad.add j) = some u := by
      rcases hrd.2 with h0 | ⟨x, o, rfl, hx, hc⟩
      · exact absurd h0 hn0
      · refine ⟨_, rfl, fun j u hu => ?_⟩
        have hflat := flatI_map news
        rw [hflat, List.getElem?_map] at hu
        cases hy : news[j]? with
        | none => rw [hy] at hu; cases hu
        | some y =>
          rw [hy] at hu
          cases hu
          have := hc j y hy 0 _ rfl
          have hadd : (⟨x, o, none⟩ : Addr).add j = ⟨x, o + j, none⟩ := by unfold Addr.add; split <;> simp_all
          rw [hadd]
          simpa using this
    have hfl : (news.flatMap encI).length = n * i.size := by rw [flatI_len, hz1, hnl, Nat.mul_one]
    have h1f : ∀ u ∈ news.flatMap encI, u.oneCell' = true := by
      intro u hu
      obtain ⟨y, _, hy⟩ := List.mem_flatMap.1 hu
      simp only [encI, List.mem_singleton] at hy
      subst hy
      rfl
    have fresh : ∀ (old : Nat), old < l.length + n →
        QuL e base (w.drew.alloc (.cells ((l.flatMap encI).toArray ++ (news.flatMap encI).toArray ++ Builtin.zeroCells z.cells (grownCap w (l.length + n) old e - (l.length + n))) e)) (.slice (some ⟨w.heap.size, 0, none⟩) (l.length + n) (grownCap w (l.length + n) old e)) (l ++ news) := by
      intro old ho
      have hge := grownCap_ge w (l.length + n) old e
      have hcm : grownCap w (l.length + n) old e ≤ maxLen := grownCap_le_maxLen w (l.length + n) old e (by unfold maxLen; omega)
      refine .inr ⟨w.heap.size, 0, _, _, by rw [List.length_append, hnl], hbase, heap_alloc_new w.drew _, by rw [List.length_append, hnl]; exact hge, hcm, ?_, ?_⟩
      · simp only [Array.size_append, List.size_toArray, size_zeroCells, hzs, flatI_len, hnl]
        omega
      · simp only [Array.toList_append, List.append_assoc, List.drop_zero]
        rw [← List.append_assoc, ← List.flatMap_append, ← flatI_len (l ++ news)]
        exact List.take_left
    have hex : ∀ o : Obj, Ex w (w.drew.alloc o) := fun o => ⟨rfl, rfl, rfl, by simp, fun k hk => heap_alloc_old w.drew _ hk⟩
    rcases h with ⟨rfl, rfl⟩ | ⟨g, o, cap, cur, rfl, hb, hg, h1, h2, h3, h4⟩
    · have hr := run_append_nil (P := P) w t ty e i z ht hi hz0 ad n c (news.flatMap encI) hfl hcells (by omega) (by omega) (by rw [hz2]; simp only [List.length_nil, Nat.zero_add] at hmul; omega)
      have hf := fresh 0 (by simp; omega)
      simp only [List.length_nil, Nat.zero_add, List.flatMap_nil, List.nil_append] at hf ⊢
      refine ⟨_, _, hr, by simpa using hf, (hex _).mono fun k hk => hk.1, (hex _).mono fun k (hk : k < base) => by show k < w.heap.size; omega, .inr rfl⟩
    · by_cases hroom : l.length + n ≤ cap
      · have hfc := run_firstCells_some (P := P) w i.size n ad n c (news.flatMap encI) hfl hcells
        have hst := run_storeCells_at P g (o + l.length) e (news.flatMap encI) 0 cur w hg (by rw [flatI_len, hnl]; omega) h1f
        simp only [Nat.add_zero] at hst
        have hadd : (⟨g, o, none⟩ : Addr).add (l.length * i.size) = ⟨g, o + l.length, none⟩ := by rw [hz1, Nat.mul_one]; unfold Addr.add; split <;> simp_all
        refine ⟨.slice (some ⟨g, o, none⟩) (l.length + n) cap, w.setRow g (cur.toList.take (o + l.length) ++ news.flatMap encI ++ cur.toList.drop (o + l.length + (news.flatMap encI).length)).toArray, ?_, .inr ⟨g, o, cap, _, by rw [List.length_append, hnl], hb, setRow_heap w g cur _ e _ hg, by rw [List.length_append, hnl]; exact hroom, h2, ?_, ?_⟩, ⟨rfl, rfl, rfl, by simp [World.setRow], fun k hk => setRow_other w g k _ (fun he => hk.2 (by rw [he]; rfl))⟩, ⟨rfl, rfl, rfl, by simp [World.setRow], fun k (hk : k < base) => setRow_other w g k _ (by omega)⟩, .inl rfl⟩
        · simp [Builtin.append_, run_underlying ht, sizeOf, typeInfo, hi, Builtin.lenOf, hroom, hfc, hadd, hst]
        · simp only [List.size_toArray, List.length_append, List.length_take, List.length_drop, Array.length_toList, flatI_len, hnl]
          omega
        · rw [List.flatMap_append, ← h4, List.length_append, hnl]
          have hsz : o + l.length ≤ cur.toList.length := by simp; omega
          simp only [List.append_assoc]
          rw [List.drop_append_of_le_length (by rw [List.length_take]; omega), List.drop_take, show o + l.length - o = l.length by omega, ← List.append_assoc]
          rw [List.take_append_of_le_length (by rw [List.length_append, List.length_take, List.length_drop, flatI_len, hnl]; omega)]
          rw [List.take_of_length_le (by rw [List.length_append, List.length_take, List.length_drop, flatI_len, hnl]; omega)]
      · have holds : ∀ j u, (l.flatMap encI)[j]? = some u → w.cell? ((⟨g, o, none⟩ : Addr).add j) = some u := by
          intro j u hu
          have hadd : (⟨g, o, none⟩ : Addr).add j = ⟨g, o + j, none⟩ := by unfold Addr.add; split <;> simp_all
          rw [hadd]
          rw [← h4, List.getElem?_take] at hu
          split at hu
          · rw [List.getElem?_drop] at hu
            have : cur[o + j]? = some u := by simpa using hu
            simp [World.cell?, hg, this]
          · cases hu
        have hr := run_append_grow (P := P) w t ty e i z ht hi hz0 ⟨g, o, none⟩ l.length cap (l.flatMap encI) (by rw [flatI_len, hz1, Nat.mul_one]) holds ad n c (news.flatMap encI) hfl hcells (by omega) (by omega) (growslice_fits (by omega) (by rw [hz2]; omega))
        exact ⟨_, _, hr, fresh cap (by omega), (hex _).mono fun k hk => hk.1, (hex _).mono fun k (hk : k < base) => by show k < w.heap.size; omega, .inr rfl⟩
end
end Go.Proofs.YtbnbjiddffihoaaGreatDoor

/- Groups of numbers: a map from numbers to rows of numbers, which the call itself has made. -/
namespace Go.Proofs.YtbnbjiddffihoaaGreatDoor
open Go.RowKit

def GrpM (P : Program) (k e : TypeId) (base : Nat) (w : World) (b n : Nat) (f : Int → Value) (J : Int → List Int) : Prop :=
  RawM P k w b n f ∧ b < base ∧ base ≤ w.heap.size ∧ (∀ v, OwnL 1 encI e base w (f v) (J v)) ∧ ∀ v v' g, v ≠ v' → (f v).ownBlock = some g → ¬ (f v').ownBlock = some g
section
variable {P : Program} {k e : TypeId} {base : Nat} {w w' : World} {b n : Nat} {f : Int → Value} {J : Int → List Int}
theorem GrpM.made (w : World) (P : Program) (k e : TypeId) : GrpM P k e (w.heap.size + 1) (w.alloc (.map #[] 0)) w.heap.size 0 (fun _ => nilS) (fun _ => []) :=
  ⟨RawM.made w P k, by omega, by simp, fun _ => OwnL.nil _ _ _ _ _, fun _ _ _ _ h => by cases h⟩
theorem GrpM.nx (h : GrpM P k e base w b n f J) (kk : Ex w w') : GrpM P k e base w' b n f J :=
  ⟨h.1.nx kk, h.2.1, Nat.le_trans h.2.2.1 kk.size, fun v => (h.2.2.2.1 v).nx kk, h.2.2.2.2⟩
theorem GrpM.nxb {c : Nat} (h : GrpM P k e base w b n f J) (hc : c < base) (hb : b ≠ c) (kk : Exb c w w') : GrpM P k e base w' b n f J :=
  ⟨h.1.nxb hb kk, h.2.1, Nat.le_trans h.2.2.1 kk.size, fun v => (h.2.2.2.1 v).nxb hc kk, h.2.2.2.2⟩
theorem GrpM.row (h : GrpM P k e base w b n f J) (v : Int) : OwnL 1 encI e base w (f v) (J v) := h.2.2.2.1 v
def grp2 (J : Int → List Int) (x y : Int) : Int → List Int := fun v => if v = y then J y ++ [x] else if v = x then J x ++ [y] else J v
theorem GrpM.two (h : GrpM P k e base w b n f J) {x y : Int} (hxy : x ≠ y) {w1 w2 w3 : World} {a' c' : Value} {n' : Nat}
    (A : OwnL 1 encI e base w1 a' (J x ++ [y])) (k1 : Chg (fun k => k < w.heap.size ∧ ¬ (f x).ownBlock = some k) w w1) (la : ∀ g, a'.ownBlock = some g → (f x).ownBlock = some g ∨ w.heap.size ≤ g)
    (C : OwnL 1 encI e base w2 c' (J y ++ [x])) (k2 : Chg (fun k => k < w1.heap.size ∧ ¬ (f y).ownBlock = some k) w1 w2) (lc : ∀ g, c'.ownBlock = some g → (f y).ownBlock = some g ∨ w1.heap.size ≤ g)
    (k3 : Exb b w2 w3) (R : RawM P k w3 b n' (upd (upd f x a') y c')) : GrpM P k e base w3 b n' (upd (upd f x a') y c') (grp2 J x y) := by
  obtain ⟨h1, hb, hs, hO, hd⟩ := h
  have s1 := k1.size
  have s2 := k2.size
  have s3 := k3.size
  have A2 : OwnL 1 encI e base w2 a' (J x ++ [y]) := A.chg k2 fun g hg hv => ⟨hg, fun hy => by
    rcases la g hv with h2 | h2
    · exact hd x y g hxy h2 hy
    · have := ((hO y).lt g hy).2; omega⟩
  have blk : ∀ v g, v ≠ x → v ≠ y → (f v).ownBlock = some g → g < w.heap.size := fun v g _ _ hv => ((hO v).lt g hv).2
  refine ⟨R, hb, by omega, fun v => ?_, fun v v' g hne hv hv' => ?_⟩
  · unfold upd grp2
    by_cases hvy : v = y
    · rw [if_pos hvy, if_pos hvy]
      exact C.nxb hb k3
    · rw [if_neg hvy, if_neg hvy]
      by_cases hvx : v = x
      · rw [if_pos hvx, if_pos hvx]
        exact A2.nxb hb k3
      · rw [if_neg hvx, if_neg hvx]
        have O1 : OwnL 1 encI e base w1 (f v) (J v) := (hO v).chg k1 fun g hg hv => ⟨hg, hd v x g hvx hv⟩
        have O2 : OwnL 1 encI e base w2 (f v) (J v) := O1.chg k2 fun g hg hv => ⟨hg, hd v y g hvy hv⟩
        exact O2.nxb hb k3
  · unfold upd at hv hv'
    have ca : ∀ g, a'.ownBlock = some g → c'.ownBlock = some g → False := by
      intro g ha hc
      rcases la g ha with h2 | h2
      · rcases lc g hc with h3 | h3
        · exact hd x y g hxy h2 h3
        · have := ((hO x).lt g h2).2; omega
      · rcases lc g hc with h3 | h3
        · have := ((hO y).lt g h3).2; omega
        · have := (A.lt g ha).2; omega
    have ov : ∀ u g, u ≠ x → u ≠ y → (f u).ownBlock = some g → ¬ a'.ownBlock = some g ∧ ¬ c'.ownBlock = some g := by
      intro u g hux huy hu
      refine ⟨fun ha => ?_, fun hc => ?_⟩
      · rcases la g ha with h2 | h2
        · exact hd u x g hux hu h2
        · have := ((hO u).lt g hu).2; omega
      · rcases lc g hc with h2 | h2
        · exact hd u y g huy hu h2
        · have := ((hO u).lt g hu).2; omega
    by_cases hvy : v = y
    · rw [if_pos hvy] at hv
      rw [if_neg (by omega)] at hv'
      by_cases hvx' : v' = x
      · rw [if_pos hvx'] at hv'; exact ca g hv' hv
      · rw [if_neg hvx'] at hv'; exact (ov v' g hvx' (by omega) hv').2 hv
    · rw [if_neg hvy] at hv
      by_cases hvx : v = x
      · rw [if_pos hvx] at hv
        by_cases hvy' : v' = y
        · rw [if_pos hvy'] at hv'; exact ca g hv hv'
        · rw [if_neg hvy', if_neg (by omega)] at hv'; exact (ov v' g (by omega) hvy' hv').1 hv
      · rw [if_neg hvx] at hv
        by_cases hvy' : v' = y
        · rw [if_pos hvy'] at hv'; exact (ov v g hvx hvy hv).2 hv'
        · rw [if_neg hvy'] at hv'
          by_cases hvx' : v' = x
          · rw [if_pos hvx'] at hv'; exact (ov v g hvx hvy hv).1 hv'
          · rw [if_neg hvx'] at hv'; exact hd v v' g hne hv hv'
end
end Go.Proofs.YtbnbjiddffihoaaGreatDoor

/- Who is met from the first node along joined numbers, in plain Lean. -/
namespace Go.Proofs.YtbnbjiddffihoaaGreatDoor
open Go.RowKit

section
variable {N : List Nd} {P : List Pr} {J : Int → List Int} {M T : List Int}
end
end Go.Proofs.YtbnbjiddffihoaaGreatDoor

/- Crash, Peer, Refs, Contacts of the reference. -/
namespace Go.Proofs.YtbnbjiddffihoaaGreatDoor
open Go.RowKit

def PeRel (P : List Pr) (id : Int) (n : Nat) (w : World) (i : Value) (wr : World) : Prop :=
  ∃ k : Nat, k ≤ n ∧ i = .int .i64 k ∧ Ex w wr ∧ ∀ j z, j < k → P[j]? = some z → z.id ≠ id
theorem peerN_at {P : List Pr} {id : Int} {k : Nat} {y : Pr} (hy : P[k]? = some y) (he : y.id = id) (hno : ∀ j z, j < k → P[j]? = some z → z.id ≠ id) : peerN P id = y := by
  unfold peerN
  have hk := (List.getElem?_eq_some_iff.1 hy)
  have hkl := hk.1
  have : P.find? (fun p => p.id == id) = some y := by
    rw [List.find?_eq_some_iff_getElem]
    refine ⟨by simpa using he, k, hk.1, hk.2, fun j hj => ?_⟩
    have := hno j _ hj (List.getElem?_eq_getElem (by omega))
    simpa using this
  rw [this]
  rfl
theorem peerN_none {P : List Pr} {id : Int} (hno : ∀ j z, j < P.length → P[j]? = some z → z.id ≠ id) : peerN P id = ⟨id, 0, 0, [], []⟩ := by
  unfold peerN
  have : P.find? (fun p => p.id == id) = none := by
    rw [List.find?_eq_none]
    intro x hx
    obtain ⟨j, hj⟩ := List.mem_iff_getElem?.1 hx
    simpa using hno j x (List.getElem?_eq_some_iff.1 hj).1 hj
  rw [this]
  rfl
set_option maxRecDepth 100000 in
set_option maxHeartbeats 8000000 in
theorem peer_r (a : Option Addr) (n c : Nat) (P : List Pr) (id : Int) (w : World) (h : PL w a n P) (hn : n ≤ 1000000) (hP : SmallP P) :
    Calls Tryz.prog 25 #[.slice a n c, .int .i64 id] w (CpPost (peerN P id) w.heap.size w) := by
  have HL := Lib.hid h.len
  have EX := Ex.refl w
  have B4 := Blk.new w [.int .i64 0, .slice none 0 0, .int .i64 0, .int .i64 0, .slice none 0 0] 45
  have kk := Ex.new w (.cells #[.int .i64 0, .slice none 0 0, .int .i64 0, .int .i64 0, .slice none 0 0] 45)
  obtain ⟨w1, hw1⟩ : ∃ w1, w1 = w.alloc (.cells #[.int .i64 0, .slice none 0 0, .int .i64 0, .int .i64 0, .slice none 0 0] 45) := ⟨_, rfl⟩
  obtain ⟨g4, hg4⟩ : ∃ g4, g4 = w.heap.size := ⟨_, rfl⟩
  replace B4 : Blk w1 g4 [.int .i64 0, .slice none 0 0, .int .i64 0, .int .i64 0, .slice none 0 0] 45 := by rw [hw1, hg4]; exact B4
  rw [← hw1] at kk
  have Hw1 := Lib.hid hw1
  have Hg4 := Lib.hid hg4
  replace h := h.nx kk
  replace EX := EX.nx kk
  have hg4' : w.heap.size ≤ g4 := by omega
  clear kk hw1 hg4
  have HS := Lib.hid h
  have HP := Lib.hid hP
  have HB := Lib.hid B4
  have EX := Lib.hid EX
  clear h hP
  go_enter Tryz.func25, Tryz.ntmps25
  go_upto_region 1 with fail
  rw [← Hg4.out, ← Hw1.out]
  clear Hg4 Hw1
  have hg4l := B4.lt
  clear B4
  go_wp2_with fail
  go_loopw [5] (fun i wr => PeRel P id n w1 i wr) (fun i _ => n - (intOf i).toNat)
  case atStart => exact ⟨0, by omega, rfl, Ex.refl _, by intro j z h; omega⟩
  case round =>
    obtain ⟨k, hk, rfl, kw, hno⟩ := hrel
    have HNO := Lib.hid hno
    clear hno
    obtain ⟨wo, rfl⟩ : ∃ wo : World, wo = wr := ⟨_, rfl⟩
    by_cases hlt : k < n
    · obtain ⟨x3, o3, b1, m1, d1, b4, m4, d4, y, rfl, hx3, hy, e0, e1, e2, e3, e4, s1, s4⟩ := (HS.out.nx kw).rd hlt
      have hyP := HP.out y (List.mem_of_getElem? hy)
      have hl1 : m1 ≤ 17592186044416 := by have := s1.len; omega
      have hl4 : m4 ≤ 4398046511104 := by have := s4.len; omega
      have HY := Lib.hid hy
      have KW := Lib.hid kw
      clear hy kw hyP
      by_cases hv : y.id = id
      · have hb : (y.id == id) = true := by simp [hv]
        have HP : Hid (peerN P id = y) := Lib.hid (peerN_at HY.out hv HNO.out)
        have hz := KW.out.size
        clear hv
        go_wp2_with fail
        (with_reducible refine (copypeer_r y _ _ _ _ _ _ _ s1 s4 hl1 hl4).mono ?_)
        rintro e w9 ⟨⟨A2, M2, C2⟩, ⟨A5, M5, C5⟩, rfl, own2, own5, kk⟩
        simp only [Hdr.val] at own2 own5 ⊢
        have B4 := HB.out.nx (KW.out.nx kk)
        have q0 := B4.cell 0 _ rfl
        have q1 := B4.cell 1 _ rfl
        have q2 := B4.cell 2 _ rfl
        have q3 := B4.cell 3 _ rfl
        have q4 := B4.cell 4 _ rfl
        have f0 := B4.free 0
        have f1 := B4.free 1
        have f2 := B4.free 2
        have f3 := B4.free 3
        have f4 := B4.free 4
        have hgo : g4 < wo.heap.size := Nat.lt_of_lt_of_le hg4l hz
        have k7 : Ex w w9 := EX.out.nx (KW.out.nx kk)
        have KE := Lib.hid (((((k7.setNew (p := ⟨g4, 0, none⟩) (.int .i64 y.id) hg4').setNew (p := ⟨g4, 1, none⟩) (.slice A2 M2 C2) hg4').setNew (p := ⟨g4, 2, none⟩) (.int .i64 y.left) hg4').setNew (p := ⟨g4, 3, none⟩) (.int .i64 y.right) hg4').setNew (p := ⟨g4, 4, none⟩) (.slice A5 M5 C5) hg4')
        have KB : Exb g4 w9 (((((w9.setCell ⟨g4, 0, none⟩ (.int .i64 y.id)).setCell ⟨g4, 1, none⟩ (.slice A2 M2 C2)).setCell ⟨g4, 2, none⟩ (.int .i64 y.left)).setCell ⟨g4, 3, none⟩ (.int .i64 y.right)).setCell ⟨g4, 4, none⟩ (.slice A5 M5 C5)) :=
          (((((Exb.refl g4 w9).setB (p := ⟨g4, 0, none⟩) _ rfl).setB (p := ⟨g4, 1, none⟩) _ rfl).setB (p := ⟨g4, 2, none⟩) _ rfl).setB (p := ⟨g4, 3, none⟩) _ rfl).setB (p := ⟨g4, 4, none⟩) _ rfl
        have hzw : w.heap.size ≤ wo.heap.size := (EX.out.nx KW.out).size
        have O1 := Lib.hid ((own2.nxb hgo KB).base hzw)
        have O4 := Lib.hid ((own5.nxb hgo KB).base hzw)
        clear B4 own2 own5 KB k7 e0 e1 e2 e3 e4 s1 s4 kk
        go_wp2_with fail
        refine bodyPost_ret (v := .agg #[.int .i64 y.id, .slice A2 M2 C2, .int .i64 y.left, .int .i64 y.right, .slice A5 M5 C5]) (by simp [results, Tryz.results25, go_sem, *]) rfl ?_
        rw [HP.out]
        exact ⟨(A2, M2, C2), (A5, M5, C5), rfl, O1.out, O4.out, KE.out⟩
      · have HV := Lib.hid hv
        have hb : (y.id == id) = false := by simpa using hv
        clear hv e1 e2 e3 e4 s1 s4
        go_wp2_with fail
        refine ⟨⟨k + 1, by omega, by go_num, KW.out, fun j z hj hz => ?_⟩, by simp [intOf]; omega⟩
        rcases Nat.lt_or_ge j k with h | h
        · exact HNO.out j z h hz
        · obtain rfl : j = k := by omega
          rw [Option.some.inj (hz.symm.trans HY.out)]
          exact HV.out
    · obtain rfl : k = n := by omega
      have HP : Hid (peerN P id = ⟨id, 0, 0, [], []⟩) := Lib.hid (peerN_none (fun j z hj hz => HNO.out j z (by rw [← HL.out]; exact hj) hz))
      have B4 := HB.out.nx kw
      have q0 := B4.cell 0 _ rfl
      have q1 := B4.cell 1 _ rfl
      have q2 := B4.cell 2 _ rfl
      have q3 := B4.cell 3 _ rfl
      have q4 := B4.cell 4 _ rfl
      have f0 := B4.free 0
      have f1 := B4.free 1
      have f2 := B4.free 2
      have f3 := B4.free 3
      have f4 := B4.free 4
      have k7 : Ex w wo := EX.out.nx kw
      have KE := Lib.hid (((((k7.setNew (p := ⟨g4, 0, none⟩) (.int .i64 id) hg4').setNew (p := ⟨g4, 1, none⟩) (.slice none 0 0) hg4').setNew (p := ⟨g4, 2, none⟩) (.int .i64 0) hg4').setNew (p := ⟨g4, 3, none⟩) (.int .i64 0) hg4').setNew (p := ⟨g4, 4, none⟩) (.slice none 0 0) hg4')
      clear B4 k7 kw hk hlt
      go_wp2_with fail
      refine bodyPost_ret (v := .agg #[.int .i64 id, .slice none 0 0, .int .i64 0, .int .i64 0, .slice none 0 0]) (by simp [results, Tryz.results25, go_sem, *]) rfl ?_
      rw [HP.out]
      exact ⟨(none, 0, 0), (none, 0, 0), rfl, OwnL.nil _ _ _ _ _, OwnL.nil _ _ _ _ _, KE.out⟩
end Go.Proofs.YtbnbjiddffihoaaGreatDoor

/- Connected of the package redundant, first half: the references are laid out by number. -/
namespace Go.Proofs.YtbnbjiddffihoaaGreatDoor
open Go.RowKit Go.Maps

def PredI (g : Nat) (lb : Array Value) (id : Int) (w : World) : Prop := ∀ (x : Pr) (h1 h2 : Hdr) (w' : World), Ex w w' → Calls Tryz.prog g (#[.agg #[.int .i64 x.id, h1.val, .int .i64 x.left, .int .i64 x.right, h2.val]] ++ lb) w' fun e w'' => e = .returned (.bool (x.id == id)) ∧ Ex w' w''
def idxQ (id : Int) (P : List Pr) : Int := if P.findIdx (fun p => p.id == id) < P.length then (P.findIdx (fun p => p.id == id) : Int) else -1
theorem idxQ_of {P : List Pr} {id : Int} {k : Nat} {y : Pr} (hy : P[k]? = some y) (he : y.id = id) (hno : ∀ j z, j < k → P[j]? = some z → z.id ≠ id) : idxQ id P = k := by
  have hk := (List.getElem?_eq_some_iff.1 hy)
  have hkl := hk.1
  have h1 : P.findIdx (fun p => p.id == id) = k := by
    rw [List.findIdx_eq hkl]
    refine ⟨by rw [hk.2]; simpa using he, fun j hj => ?_⟩
    have := hno j _ hj (List.getElem?_eq_getElem (by omega))
    simpa using this
  unfold idxQ
  rw [h1, if_pos hkl]
theorem idxQ_none {P : List Pr} {id : Int} (hno : ∀ j z, j < P.length → P[j]? = some z → z.id ≠ id) : idxQ id P = -1 := by
  unfold idxQ
  rw [if_neg]
  intro h
  have h1 := List.findIdx_getElem (w := h)
  have h2 := hno _ _ h (List.getElem?_eq_getElem h)
  simp at h1
  exact h2 h1
theorem idxQ_cases (P : List Pr) (id : Int) : (∃ (k : Nat) (y : Pr), idxQ id P = k ∧ k < P.length ∧ P[k]? = some y ∧ peerN P id = y ∧ y.id = id) ∨ (idxQ id P = -1 ∧ peerN P id = ⟨id, 0, 0, [], []⟩) := by
  by_cases h : P.findIdx (fun p => p.id == id) < P.length
  · have h1 : (P[P.findIdx (fun p => p.id == id)]).id = id := by simpa using List.findIdx_getElem (w := h)
    have hno : ∀ j z, j < P.findIdx (fun p => p.id == id) → P[j]? = some z → z.id ≠ id := fun j z hj hz => by
      have := List.not_of_lt_findIdx hj
      rw [List.getElem?_eq_getElem (by omega)] at hz
      cases hz
      simpa using this
    exact .inl ⟨_, _, by unfold idxQ; rw [if_pos h], h, List.getElem?_eq_getElem h, peerN_at (List.getElem?_eq_getElem h) h1 hno, h1⟩
  · have hno : ∀ j z, j < P.length → P[j]? = some z → z.id ≠ id := fun j z hj hz => by
      have := List.not_of_lt_findIdx (p := fun p : Pr => p.id == id) (xs := P) (i := j) (by omega)
      rw [List.getElem?_eq_getElem (by omega)] at hz
      cases hz
      simpa using this
    exact .inr ⟨by unfold idxQ; rw [if_neg h], peerN_none hno⟩
set_option maxRecDepth 100000 in
set_option maxHeartbeats 2000000 in
theorem idxf_pr (g : Nat) (lb : Array Value) (id : Int) (eg : ∀ args w, (callFunc g args).run Tryz.prog w = .ok (.enter g args) w) (a : Option Addr) (n c : Nat) (P : List Pr) (w : World) (h : PL w a n P) (hn : n ≤ 4000000000000000000) (hp : PredI g lb id w) :
    Calls Tryz.prog 74 #[.slice a n c, .func (.func g) #[] lb] w fun e w' => e = .returned (.int .i64 (idxQ id P)) ∧ Ex w w' := by
  have HL := Lib.hid h.len
  have HP := Lib.hid hp
  have hs := Lib.hid h
  clear h hp
  go_enter Tryz.func74, Tryz.ntmps74
  go_wp2
  go_loopw [8] (fun i wr => PeRel P id n w i wr) (fun i _ => n - (intOf i).toNat)
  case atStart => exact ⟨0, by omega, rfl, Ex.refl _, by intro j z h; omega⟩
  case round =>
    obtain ⟨k, hk, rfl, kw, hno⟩ := hrel
    have HNO := Lib.hid hno
    clear hno
    obtain ⟨wo, rfl⟩ : ∃ wo : World, wo = wr := ⟨_, rfl⟩
    by_cases hlt : k < n
    · obtain ⟨x3, o3, b1, m1, d1, b4, m4, d4, y, rfl, hx3, hy, e0, e1, e2, e3, e4, s1, s4⟩ := (hs.out.nx kw).rd hlt
      have HY := Lib.hid hy
      have hc := HP.out y (b1, m1, d1) (b4, m4, d4) wo kw
      have KW := Lib.hid kw
      simp only [Hdr.val] at hc
      clear hy kw s1 s4
      go_wp2_with fail
      refine hc.mono ?_
      rintro e w2 ⟨rfl, k2⟩
      have K2 := Lib.hid (KW.out.nx k2)
      clear hc k2 e0 e1 e2 e3 e4
      by_cases hv : y.id = id
      · have HI : Hid (idxQ id P = k) := Lib.hid (idxQ_of HY.out hv HNO.out)
        have hb : (y.id == id) = true := by simpa using hv
        rw [hb]
        clear hv hb
        go_wp2_with fail
        go_ret
        exact ⟨by rw [HI.out]; rfl, K2.out⟩
      · have HV := Lib.hid hv
        have hb : (y.id == id) = false := by simpa using hv
        rw [hb]
        clear hv hb
        go_wp2_with fail
        refine ⟨⟨k + 1, by omega, by go_num, K2.out, fun j z hj hz => ?_⟩, by simp [intOf]; omega⟩
        rcases Nat.lt_or_ge j k with h | h
        · exact HNO.out j z h hz
        · obtain rfl : j = k := by omega
          rw [Option.some.inj (hz.symm.trans HY.out)]
          exact HV.out
    · obtain rfl : k = n := by omega
      have HI : Hid (idxQ id P = -1) := Lib.hid (idxQ_none (fun j z hj hz => HNO.out j z (by rw [← HL.out]; exact hj) hz))
      have KW := Lib.hid kw
      clear kw hk hlt
      go_wp2_with fail
      go_ret
      exact ⟨by rw [HI.out]; rfl, KW.out⟩
end Go.Proofs.YtbnbjiddffihoaaGreatDoor

/- What the walks of chapter 16 use, in plain Lean. -/
namespace Go.Proofs.YtbnbjiddffihoaaGreatDoor
open Go.RowKit

def gtP (N : List Nd) (own : Nd) (id : Int) : Bool := !(Op.bytesLess (findN N id).1.key.toList own.key.toList || ((findN N id).1.key.toList == own.key.toList))
def insAt (l : List Int) (i : Nat) (v : Int) : List Int := l.take i ++ v :: l.drop i
theorem findIdx_two {p : Int → Bool} {A B : List Int} (hA : ∀ u ∈ A, p u = false) (hB : ∀ u ∈ B, p u = true) : (A ++ B).findIdx p = A.length := by
  have h1 : A.findIdx p = A.length := List.findIdx_eq_length.2 (by simpa using hA)
  rw [List.findIdx_append, if_neg (by omega)]
  cases B with
  | nil => simp
  | cons b B => simp [List.findIdx_cons, hB b (by simp)]
section
variable {N : List Nd}
theorem row_law (h0 : checkN N = 0) {x : Nd} (hx : x ∈ N) {p : Pr} (hid : x.id = p.id) : insAt (refsN N p) ((refsN N p).findIdx (gtP N x)) p.id = arN N p := by
  obtain ⟨A, B, e⟩ := List.append_of_mem ((sortN_mem N x).2 hx)
  have hs := sortN_str h0
  unfold AscS at hs
  rw [e] at hs
  have hA : ∀ y ∈ A, Op.bytesLess y.key.toList x.key.toList = true ∧ y.id ≠ x.id := fun y hy => (List.pairwise_append.1 hs).2.2 y hy x (by simp)
  have hB : ∀ y ∈ B, Op.bytesLess x.key.toList y.key.toList = true ∧ x.id ≠ y.id := fun y hy => (List.pairwise_cons.1 (List.pairwise_append.1 hs).2.1).1 y hy
  have mA : ∀ y ∈ A, y ∈ N := fun y hy => (sortN_mem N y).1 (by rw [e]; simp [hy])
  have mB : ∀ y ∈ B, y ∈ N := fun y hy => (sortN_mem N y).1 (by rw [e]; simp [hy])
  have hr : refsN N p = (A.filter fun y => (numsP p).contains y.id).map Nd.id ++ (B.filter fun y => (numsP p).contains y.id).map Nd.id := by
    have fA : (A.filter fun y => !(y.id == p.id) && (numsP p).contains y.id) = A.filter fun y => (numsP p).contains y.id := List.filter_congr fun y hy => by
      have h1 := (hA y hy).2
      rw [hid] at h1
      simp [h1]
    have fB : (B.filter fun y => !(y.id == p.id) && (numsP p).contains y.id) = B.filter fun y => (numsP p).contains y.id := List.filter_congr fun y hy => by
      have h1 := (hB y hy).2
      rw [hid] at h1
      simp [Ne.symm h1]
    unfold refsN
    rw [if_pos h0]
    unfold ordN
    rw [e, List.filter_append, List.filter_cons_of_neg (by simp [hid]), fA, fB, List.map_append]
  have ha : arN N p = (A.filter fun y => (numsP p).contains y.id).map Nd.id ++ p.id :: (B.filter fun y => (numsP p).contains y.id).map Nd.id := by
    have fA : (A.filter fun y => y.id == p.id || (numsP p).contains y.id) = A.filter fun y => (numsP p).contains y.id := List.filter_congr fun y hy => by
      have h1 := (hA y hy).2
      rw [hid] at h1
      simp [h1]
    have fB : (B.filter fun y => y.id == p.id || (numsP p).contains y.id) = B.filter fun y => (numsP p).contains y.id := List.filter_congr fun y hy => by
      have h1 := (hB y hy).2
      rw [hid] at h1
      simp [Ne.symm h1]
    rw [ar_eq h0 hx hid, e, List.filter_append, List.filter_cons_of_pos (by simp [hid]), fA, fB, List.map_append, List.map_cons, hid]
  have hi : (refsN N p).findIdx (gtP N x) = ((A.filter fun y => (numsP p).contains y.id).map Nd.id).length := by
    rw [hr]
    refine findIdx_two (fun u hu => ?_) (fun u hu => ?_)
    · obtain ⟨y, hy, rfl⟩ := List.mem_map.1 hu
      have hy := (List.mem_filter.1 hy).1
      unfold gtP
      rw [find_in h0 (mA y hy), (hA y hy).1]
      rfl
    · obtain ⟨y, hy, rfl⟩ := List.mem_map.1 hu
      have hy := (List.mem_filter.1 hy).1
      have h1 := (hB y hy).1
      have h2 := bl_asymm h1
      have h3 : (y.key.toList == x.key.toList) = false := by
        rw [beq_eq_false_iff_ne]
        intro he
        rw [he, bytesLess_irrefl] at h1
        cases h1
      unfold gtP
      rw [find_in h0 (mB y hy), h2, h3]
      rfl
  rw [hi, ha, hr]
  unfold insAt
  rw [List.take_left, List.drop_left]
theorem ord_congr {l l' : List Int} {but : Int} (h : ∀ v, v ∈ l ↔ v ∈ l') : ordN N l but = ordN N l' but := by
  unfold ordN
  congr 1
  refine List.filter_congr fun y _ => ?_
  rw [Bool.eq_iff_iff]
  simp only [Bool.and_eq_true, List.contains_iff_mem, h]
theorem known_eq (h0 : checkN N = 0) (id l r : Int) (T : List Int) : refsN N ⟨id, l, r, T, []⟩ = ordN N ([l, r] ++ T) id := by
  unfold refsN
  rw [if_pos h0]
  refine ord_congr fun v => ?_
  unfold numsP
  simp only [List.flatMap_nil, List.append_nil, List.mem_append, List.mem_cons, List.not_mem_nil, or_false]
  exact Or.comm
theorem ar_ids (p : Pr) : ∀ v ∈ arN N p, ∃ x ∈ N, x.id = v := by
  intro v hv
  unfold arN at hv
  split at hv
  · exact (mem_ord.1 hv).1
  · cases hv
theorem ord_len (l : List Int) (but : Int) : (ordN N l but).length ≤ N.length := by
  unfold ordN
  rw [List.length_map]
  exact Nat.le_trans (List.length_filter_le _ _) (Nat.le_of_eq (sortN_length N))
theorem ar_len (p : Pr) : (arN N p).length ≤ N.length := by
  unfold arN
  split
  · exact ord_len _ _
  · exact Nat.zero_le _
theorem ar_nodup' (p : Pr) : (arN N p).Nodup := by
  by_cases h0 : checkN N = 0
  · exact ar_nodup h0
  · unfold arN
    rw [if_neg (fun h => h0 h.2)]
    exact List.Pairwise.nil
end
theorem zip_at {l : List Int} {j : Nat} {a b : Int} (ha : l[j]? = some a) (hb : l[j + 1]? = some b) : (l.zip l.tail)[j]? = some (a, b) := by
  rw [List.getElem?_zip_eq_some]
  exact ⟨ha, by rw [List.getElem?_tail]; exact hb⟩
theorem prs_snoc {id : Int} {l : List Int} {j : Nat} {a b : Int} (ha : l[j]? = some a) (hb : l[j + 1]? = some b) :
    ((l.zip l.tail).take (j + 1)).flatMap (pr2 id) = ((l.zip l.tail).take j).flatMap (pr2 id) ++ pr2 id (a, b) := by
  rw [List.take_add_one, zip_at ha hb, List.flatMap_append]
  simp
theorem prs_all {id : Int} {l : List Int} {j : Nat} (hj : l.length ≤ j + 1) : ((l.zip l.tail).take j).flatMap (pr2 id) = prsN id l := by
  unfold prsN
  rw [List.take_of_length_le (by rw [List.length_zip, List.length_tail]; omega)]
theorem pr2_len (id : Int) (q : Int × Int) : (pr2 id q).length ≤ 2 := by
  unfold pr2
  rw [List.length_append]
  split <;> split <;> simp
theorem prs_take_len (id : Int) (L : List (Int × Int)) : (L.flatMap (pr2 id)).length ≤ 2 * L.length := by
  induction L with
  | nil => simp
  | cons a L ih =>
    rw [List.flatMap_cons, List.length_append, List.length_cons]
    have := pr2_len id a
    omega
theorem prs_len (id : Int) (l : List Int) : (prsN id l).length ≤ 2 * l.length := by
  unfold prsN
  have := prs_take_len id (l.zip l.tail)
  rw [List.length_zip, List.length_tail] at this
  omega
theorem intros_len (N : List Nd) (p : Pr) : (introsN N p).length ≤ 2 * N.length := by
  have h1 := prs_len p.id (arN N p)
  have h2 := ar_len (N := N) p
  unfold introsN
  omega
theorem prs_from {id : Int} {l : List Int} {q : Int × Int} (h : q ∈ prsN id l) : q.1 ∈ l ∧ q.2 ∈ l := by
  obtain ⟨_, A, B, e | e⟩ := prs_inv (u := q.1) (v := q.2) h <;> rw [e] <;> simp
theorem told_snoc (M : List (Int × Int)) (m : Int × Int) (id : Int) : toldN (M ++ [m]) id = toldN M id ++ (if m.1 = id then [m.2] else []) := by
  unfold toldN
  rw [List.filter_append, List.map_append]
  congr 1
  by_cases h : m.1 = id
  · rw [if_pos h]; simp [h]
  · rw [if_neg h]; simp [h]
theorem told_len (M : List (Int × Int)) (id : Int) : (toldN M id).length ≤ M.length := by
  unfold toldN
  rw [List.length_map]
  exact List.length_filter_le _ _
theorem bes_nodup {id : Int} {l : List Int} (hd : l.Nodup) {i : Nat} (hi : l[i]? = some id) : besN id l = ((if i = 0 then 0 else l[i - 1]?.getD 0), l[i + 1]?.getD 0) := by
  have hf : l.findIdx? (· == id) = some i := by
    rw [List.findIdx?_eq_some_iff_getElem]
    obtain ⟨h1, h2⟩ := List.getElem?_eq_some_iff.1 hi
    refine ⟨h1, by simp [h2], fun j hj => ?_⟩
    have := (List.pairwise_iff_getElem.1 hd) j i (by omega) h1 hj
    rw [h2] at this
    simpa using this
  unfold besN
  rw [hf]
theorem bes_none {id : Int} {l : List Int} (h : id ∉ l) : besN id l = (0, 0) := by
  have hf : l.findIdx? (· == id) = none := by
    rw [List.findIdx?_eq_none_iff]
    intro x hx
    simp only [beq_eq_false_iff_ne]
    intro he
    exact h (he ▸ hx)
  unfold besN
  rw [hf]
def okL (N : List Nd) (p : Pr) : Bool := decide ((p.left, p.right) = (neighN N p.id (0 : Nat)).1)
def exactLB (N : List Nd) (P : List Pr) : Bool := (checkN N == 0) && (normalN N P).all (okL N)
end Go.Proofs.YtbnbjiddffihoaaGreatDoor

/- Normal of the package linear. -/
namespace Go.Proofs.YtbnbjiddffihoaaGreatDoor
open Go.RowKit

theorem norm1_p (gx : Nat) (x : Nd) (w : World) (hx : Blk w gx [.int .i64 x.id, .string x.key, .int .u32 x.word] 57) : PredI 75 #[.pointer (some ⟨gx, 0, none⟩)] x.id w := by
  intro p h1 h2 w' kk
  have q0 := (hx.nx kk).cell 0 _ rfl
  have hg := (hx.nx kk).lt
  have hne : ¬ gx = w'.heap.size := by omega
  obtain ⟨a1, n1, c1⟩ := h1
  obtain ⟨a2, n2, c2⟩ := h2
  simp only [Hdr.val]
  clear hx kk
  go_enter Tryz.func75, Tryz.ntmps75
  go_wp2
  go_ret
  exact ⟨rfl, (Ex.refl _).alloc _⟩
def NoRel (S : List Nd) (P : List Pr) (w : World) (o i : Value) (wr : World) : Prop :=
  ∃ (j : Nat) (qs : List PQ), j ≤ S.length ∧ i = .int .i64 j ∧ OwnPr w.heap.size wr o qs ((S.take j).map fun x => peerN P x.id) ∧ Ex w wr
theorem no_snoc {S : List Nd} {P : List Pr} {j : Nat} {x : Nd} (hy : S[j]? = some x) : ((S.take (j + 1)).map fun x => peerN P x.id) = ((S.take j).map fun x => peerN P x.id) ++ [peerN P x.id] := by
  rw [take_snocN S j x hy, List.map_append]; rfl
set_option maxRecDepth 100000 in
set_option maxHeartbeats 8000000 in
theorem normal_p (a : Option Addr) (n c : Nat) (N : List Nd) (a2 : Option Addr) (n2 c2 : Nat) (P : List Pr) (w : World) (h : Sl 3 encN w a n N) (hn : n ≤ 1000) (hc : n ≤ c) (hm : c ≤ maxLen) (h2 : PL w a2 n2 P) (hn2 : n2 ≤ 4000000000000000000) (hP : SmallP P) :
    Calls Tryz.prog 39 #[.slice a n c, .slice a2 n2 c2] w (PlPost (normalN N P) w) := by
  have HL := Lib.hid h.len
  have HP := Lib.hid hP
  clear hP
  have EG : Hid (∀ args w, (callFunc 75 args).run Tryz.prog w = .ok (.enter 75 args) w) := Lib.hid (enters_of Tryz.func75 (by kernel_rfl) rfl)
  have H2 := Lib.hid h2
  clear h2
  go_enter Tryz.func39, Tryz.ntmps39
  go_wp2_with fail
  (with_reducible refine (check_p _ _ _ _ _ h (by omega) hc hm).mono ?_)
  rintro e w0 ⟨rfl, kk⟩
  replace h := h.nx kk
  have K0 := Lib.hid kk
  clear kk
  by_cases hck : checkN N = 0
  case neg =>
    have d1 : (checkN N != 0) = true := by simpa using hck
    have E0 : Hid (normalN N P = []) := Lib.hid (by unfold normalN; rw [if_neg hck])
    clear h hck
    go_wp2_with fail
    go_ret
    exact ⟨_, [], rfl, by rw [E0.out]; exact OwnP.nil _ _ _ _ _, K0.out⟩
  have d1 : (checkN N != 0) = false := by simpa using hck
  have E0 : Hid (normalN N P = (sortN N).map fun x => peerN P x.id) := Lib.hid (by unfold normalN; rw [if_pos hck])
  have HC := Lib.hid hck
  clear hck
  go_wp2_with fail
  (with_reducible refine (sort_p _ _ _ _ _ h hn).mono ?_)
  rintro e w1 ⟨v, S, rfl, OS, ⟨hp, hsrt⟩, kk⟩
  have hSe : S = sortN N := sortN_unique (check_keys HC.out) hp hsrt
  subst hSe
  obtain ⟨a1, c1, rfl, S1, _, _⟩ := sorted_own HC.out OS
  rw [HL.out] at S1 ⊢
  have hSl : (sortN N).length = n := by rw [S1.len]
  generalize sortN N = S at S1 hSl E0 ⊢
  have S1 := Lib.hid S1
  have K1 := Lib.hid (K0.out.nx kk)
  have HSL := Lib.hid hSl
  have z01 := K1.out.size
  clear h OS kk hp hsrt hSl
  go_wp2_with fail
  go_loopw [5, 16] (fun o i wr => NoRel S P w1 o i wr) (fun _ i _ => n - (intOf i).toNat)
  case atStart => exact ⟨0, [], by omega, rfl, OwnP.nil _ _ _ _ _, Ex.refl _⟩
  case round =>
    obtain ⟨j, qs, hj, rfl, own, ki⟩ := hrel
    rw [HSL.out] at hj
    obtain ⟨wi, rfl⟩ : ∃ wi : World, wi = wr := ⟨_, rfl⟩
    by_cases hjm : j < n
    · obtain ⟨x3, o3, x, rfl, hx3, hy, hc3⟩ := (S1.out.nx ki).at hjm
      have e0 : wi.cell? ⟨x3, o3 + j * 3, none⟩ = some (.int .i64 x.id) := hc3 0 _ rfl
      have e1 : wi.cell? ⟨x3, o3 + j * 3 + 1, none⟩ = some (.string x.key) := hc3 1 _ rfl
      have e2 : wi.cell? ⟨x3, o3 + j * 3 + 1 + 1, none⟩ = some (.int .u32 x.word) := by simpa [Nat.add_assoc] using hc3 2 _ rfl
      have SN := Lib.hid (no_snoc (P := P) hy)
      have hql : qs.length = j := by rw [own.2.1, List.length_map, List.length_take, HSL.out]; omega
      have hwi := ki.size
      have KI := Lib.hid ki
      have OWN := Lib.hid own
      clear hy own ki hc3
      have B7 := Blk.new wi [.int .i64 x.id, .string x.key, .int .u32 x.word] 57
      have kk := Ex.new wi (.cells #[.int .i64 x.id, .string x.key, .int .u32 x.word] 57)
      obtain ⟨w4, hw4⟩ : ∃ w4, w4 = wi.alloc (.cells #[.int .i64 x.id, .string x.key, .int .u32 x.word] 57) := ⟨_, rfl⟩
      obtain ⟨g7, hg7⟩ : ∃ g7, g7 = wi.heap.size := ⟨_, rfl⟩
      replace B7 : Blk w4 g7 [.int .i64 x.id, .string x.key, .int .u32 x.word] 57 := by rw [hw4, hg7]; exact B7
      rw [← hw4] at kk
      have Hw4 := Lib.hid hw4
      have Hg7 := Lib.hid hg7
      have zg7 : wi.heap.size ≤ g7 := by omega
      have K4 := Lib.hid kk
      clear kk hw4 hg7
      go_upto_region 7 with fail
      rw [← Hg7.out, ← Hw4.out]
      clear Hg7 Hw4
      have q0 := B7.cell 0 _ rfl
      clear e0 e1 e2
      have hz4 := K4.out.size
      have hl7 := B7.lt
      have B8 := Blk.new w4 [.int .i64 x.id, .slice none 0 0, .int .i64 0, .int .i64 0, .slice none 0 0] 45
      have kk := Ex.new w4 (.cells #[.int .i64 x.id, .slice none 0 0, .int .i64 0, .int .i64 0, .slice none 0 0] 45)
      obtain ⟨w5, hw5⟩ : ∃ w5, w5 = w4.alloc (.cells #[.int .i64 x.id, .slice none 0 0, .int .i64 0, .int .i64 0, .slice none 0 0] 45) := ⟨_, rfl⟩
      obtain ⟨g8, hg8⟩ : ∃ g8, g8 = w4.heap.size := ⟨_, rfl⟩
      replace B8 : Blk w5 g8 [.int .i64 x.id, .slice none 0 0, .int .i64 0, .int .i64 0, .slice none 0 0] 45 := by rw [hw5, hg8]; exact B8
      rw [← hw5] at kk
      have Hw5 := Lib.hid hw5
      have Hg8 := Lib.hid hg8
      replace B7 := B7.nx kk
      replace K4 := Lib.hid (K4.out.nx kk)
      have zg8 : wi.heap.size ≤ g8 := by omega
      clear kk hw5 hg8
      go_upto_region 8 with fail
      rw [← Hg8.out, ← Hw5.out]
      clear Hg8 Hw5
      clear q0
      have PI := norm1_p g7 x w5 B7
      replace B8 := Lib.hid B8
      clear B7
      go_wp2_with fail
      (with_reducible refine (idxf_pr _ _ _ EG.out _ _ _ P _ (H2.out.nx (K1.out.nx (KI.out.nx K4.out))) hn2 PI).mono ?_)
      rintro e w6 ⟨rfl, kk⟩
      replace B8 := Lib.hid (B8.out.nx kk)
      replace K4 := Lib.hid (K4.out.nx kk)
      have HG8 := Lib.hid B8.out.lt
      clear kk PI
      rcases idxQ_cases P x.id with ⟨k, y, hq, hkl, hyk, hpy, -⟩ | ⟨hq, hpy⟩
      · have hk2 : k < n2 := by have := H2.out.len; omega
        obtain ⟨x5, o5, b1, m1, d1, b4, m4, d4, y', rfl, hx5, hy', e0, e1, e2, e3, e4, s1, s4⟩ := (H2.out.nx (K1.out.nx KI.out)).rd hk2
        obtain rfl : y = y' := Option.some.inj (hyk.symm.trans hy')
        have HPY := Lib.hid hpy
        have hyP := HP.out y (List.mem_of_getElem? hyk)
        have hl1 : m1 ≤ 17592186044416 := by have := s1.len; omega
        have hl4 : m4 ≤ 4398046511104 := by have := s4.len; omega
        have S1y := Lib.hid s1
        have S4y := Lib.hid s4
        have c0 := Chg.cellv K4.out e0 hx5
        have c1 := Chg.cellv K4.out e1 hx5
        have c2 := Chg.cellv K4.out e2 hx5
        have c3 := Chg.cellv K4.out e3 hx5
        have c4 := Chg.cellv K4.out e4 hx5
        have f0 := B8.out.free 0
        have f1 := B8.out.free 1
        have f2 := B8.out.free 2
        have f3 := B8.out.free 3
        have f4 := B8.out.free 4
        have r0 := B8.out.cell 0 _ rfl
        have r1 := B8.out.cell 1 _ rfl
        have r2 := B8.out.cell 2 _ rfl
        have r3 := B8.out.cell 3 _ rfl
        have r4 := B8.out.cell 4 _ rfl
        have hk0 : (0 : Int) ≤ (k : Int) := by omega
        rw [hq]
        clear hq hkl hyk hpy hyP e0 e1 e2 e3 e4 s1 s4 hy' hx5
        go_upto_region 11 with fail
        have KB0 : Exb g8 w6 (((((w6.setCell ⟨g8, 0, none⟩ (.int .i64 y.id)).setCell ⟨g8, 1, none⟩ (.slice b1 m1 d1)).setCell ⟨g8, 2, none⟩ (.int .i64 y.left)).setCell ⟨g8, 3, none⟩ (.int .i64 y.right)).setCell ⟨g8, 4, none⟩ (.slice b4 m4 d4)) :=
          (((((Exb.refl g8 w6).setB (p := ⟨g8, 0, none⟩) _ rfl).setB (p := ⟨g8, 1, none⟩) _ rfl).setB (p := ⟨g8, 2, none⟩) _ rfl).setB (p := ⟨g8, 3, none⟩) _ rfl).setB (p := ⟨g8, 4, none⟩) _ rfl
        have BS0 := ((((B8.out.set 0 (.int .i64 y.id)).set 1 (.slice b1 m1 d1)).set 2 (.int .i64 y.left)).set 3 (.int .i64 y.right)).set 4 (.slice b4 m4 d4)
        obtain ⟨w7, hw7⟩ : ∃ w7, w7 = (((((w6.setCell ⟨g8, 0, none⟩ (.int .i64 y.id)).setCell ⟨g8, 1, none⟩ (.slice b1 m1 d1)).setCell ⟨g8, 2, none⟩ (.int .i64 y.left)).setCell ⟨g8, 3, none⟩ (.int .i64 y.right)).setCell ⟨g8, 4, none⟩ (.slice b4 m4 d4)) := ⟨_, rfl⟩
        rw [← hw7] at KB0 BS0
        have BS : Blk w7 g8 [.int .i64 y.id, .slice b1 m1 d1, .int .i64 y.left, .int .i64 y.right, .slice b4 m4 d4] 45 := BS0
        have K8 := Lib.hid (Exl.nxb (b := g8) (w := wi) ⟨K4.out, zg8⟩ KB0).1
        rw [← hw7]
        have hg8l := BS.lt
        have B8s := Lib.hid BS
        have hz8 := K8.out.size
        clear hw7 KB0 BS0 BS c0 c1 c2 c3 c4 f0 f1 f2 f3 f4 r0 r1 r2 r3 r4 B8 K4
        refine wp_region_late_drew (S := Ex w7) [7, 8, 9] (by kernel_rfl) ((Ex.refl w7).drew) (fun hHeld => ?_)
        refine wpAnyL_take (i := 0) (oi := ⟨some 32, .fieldAddr 45 (.tmp 8) 1, 0, "linear.go:23", #[], none⟩) (v := ?_) rfl (by kernel_rfl) (by kernel_rfl) (by kernel_rfl) (fun _ _ _ h => h) (Or.inl ⟨by rfl, ?hyr1x0q1⟩) (by kernel_rfl) (by kernel_rfl) (by assumption) ?restr1x0q1
        case hyr1x0q1 => intro wq hSw; (go_simp); (try with_reducible rfl)
        try simp only [Act.put, List.setIfInBounds_toArray, List.set_cons_zero, List.set_cons_succ]
        refine wpAnyL_take (i := 1) (oi := ⟨some 33, .load 22 (.tmp 32), 22, "linear.go:23", #[⟨0, .data⟩], none⟩) (v := ?_) rfl (by kernel_rfl) (by kernel_rfl) (by kernel_rfl) (fun _ _ _ h => h) (Or.inl ⟨by rfl, ?hyr1x1q4⟩) (by kernel_rfl) (by kernel_rfl) (by assumption) ?restr1x1q4
        case hyr1x1q4 => intro wq hSw; (have cq := (B8s.out.nx hSw).cell 1 _ rfl; go_simp); (try with_reducible rfl)
        try simp only [Act.put, List.setIfInBounds_toArray, List.set_cons_zero, List.set_cons_succ]
        refine wpAnyL_take (i := 3) (oi := ⟨some 35, .fieldAddr 45 (.tmp 8) 4, 0, "linear.go:23", #[], none⟩) (v := ?_) rfl (by kernel_rfl) (by kernel_rfl) (by kernel_rfl) (fun _ _ _ h => h) (Or.inl ⟨by rfl, ?hyr1x3q7⟩) (by kernel_rfl) (by kernel_rfl) (by assumption) ?restr1x3q7
        case hyr1x3q7 => intro wq hSw; (go_simp); (try with_reducible rfl)
        try simp only [Act.put, List.setIfInBounds_toArray, List.set_cons_zero, List.set_cons_succ]
        refine wpAnyL_take (i := 4) (oi := ⟨some 36, .load 43 (.tmp 35), 43, "linear.go:23", #[⟨3, .data⟩], none⟩) (v := ?_) rfl (by kernel_rfl) (by kernel_rfl) (by kernel_rfl) (fun _ _ _ h => h) (Or.inl ⟨by rfl, ?hyr1x4q10⟩) (by kernel_rfl) (by kernel_rfl) (by assumption) ?restr1x4q10
        case hyr1x4q10 => intro wq hSw; (have cq := (B8s.out.nx hSw).cell 4 _ rfl; go_simp); (try with_reducible rfl)
        try simp only [Act.put, List.setIfInBounds_toArray, List.set_cons_zero, List.set_cons_succ]
        refine wpAnyL_ready (rs := [2]) (by kernel_rfl) (by simp) ?_
        refine AllReadyL.cons (o := ⟨some 34, .call { callee := .value (.func 60), args := #[.tmp 33], argTypes := #[22] }, 22, "linear.go:23", #[⟨1, .data⟩], none⟩) rfl (fun K hK => ?_) AllReadyL.nil
        go_simp
        (with_reducible refine (clone_i _ _ _ _ _ ((S1y.out.nx K8.out).nx hHeld) hl1).mono ?_)
        rintro e wc ⟨vc, rfl, own2, kk⟩
        (try replace own5 := own5.nx kk)
        obtain ⟨A2, C2, rfl, _, _, _, _⟩ := own2.slf (fun _ => rfl)
        replace own2 := own2.base hHeld.size
        replace hHeld := hHeld.nx kk
        clear kk
        have BQ := B8s.out.nx hHeld
        have KZ := hHeld.b g8
        refine hK.out _ _ (hHeld) (fun hHeld => ?_)
        clear hK K
        try simp only [Act.put, List.setIfInBounds_toArray, List.set_cons_zero, List.set_cons_succ]
        refine wpAnyL_take (i := 6) (oi := ⟨some 38, .fieldAddr 45 (.tmp 8) 1, 0, "linear.go:23", #[⟨0, .phase⟩, ⟨1, .phase⟩, ⟨2, .phase⟩, ⟨3, .phase⟩, ⟨4, .phase⟩, { on := 5, ground := Ground.textOnly Departure.lateStoresUnsure }], none⟩) (v := ?_) rfl (by kernel_rfl) (by kernel_rfl) (by kernel_rfl) (fun _ _ _ h => h) (Or.inl ⟨by rfl, ?hyr1x6q28⟩) (by kernel_rfl) (by kernel_rfl) (by assumption) ?restr1x6q28
        case hyr1x6q28 => intro wq hSw; (go_simp); (try with_reducible rfl)
        try simp only [Act.put, List.setIfInBounds_toArray, List.set_cons_zero, List.set_cons_succ]
        refine wpAnyL_ready (rs := [5]) (by kernel_rfl) (by simp) ?_
        refine AllReadyL.cons (o := ⟨some 37, .call { callee := .value (.func 76), args := #[.tmp 36], argTypes := #[43] }, 43, "linear.go:23", #[⟨4, .data⟩, ⟨2, .chain⟩], none⟩) rfl (fun K hK => ?_) AllReadyL.nil
        go_simp
        (with_reducible refine (clone_nr _ _ _ _ _ ((S4y.out.nx K8.out).nx hHeld) hl4).mono ?_)
        rintro e wc ⟨vc, rfl, own5, kk⟩
        (try replace own2 := own2.nx kk)
        obtain ⟨A5, C5, rfl, _, _, _, _⟩ := own5.slf (fun _ => rfl)
        replace own5 := own5.base hHeld.size
        replace hHeld := hHeld.nx kk
        clear kk
        have BQ := B8s.out.nx hHeld
        have KZ := hHeld.b g8
        refine hK.out _ _ (hHeld) (fun hHeld => ?_)
        clear hK K
        try simp only [Act.put, List.setIfInBounds_toArray, List.set_cons_zero, List.set_cons_succ]
        refine wpAnyL_ready (rs := [7]) (by kernel_rfl) (by simp) ?_
        refine AllReadyL.consL (o := ⟨none, .store 22 (.tmp 38) (.tmp 34), 0, "linear.go:23", #[⟨6, .data⟩, ⟨2, .data⟩, ⟨5, .chain⟩, ⟨0, .phase⟩, ⟨1, .phase⟩, ⟨2, .phase⟩, ⟨3, .phase⟩, ⟨4, .phase⟩, { on := 5, ground := Ground.textOnly Departure.lateStoresUnsure }], none⟩) rfl (by rfl) (fun K hK => ?_) AllReadyL.nil
        have cq := BQ.cell 1 _ rfl
        have fq := BQ.free 1
        go_simp
        clear cq fq
        replace BQ := BQ.set 1 (.slice A2 y.known.length C2)
        replace own2 := own2.nxb hg8l ((Exb.refl g8 _).setB (p := ⟨g8, 1, none⟩) (.slice A2 y.known.length C2) rfl)
        replace own5 := own5.nxb hg8l ((Exb.refl g8 _).setB (p := ⟨g8, 1, none⟩) (.slice A2 y.known.length C2) rfl)
        replace KZ := KZ.setB (p := ⟨g8, 1, none⟩) (.slice A2 y.known.length C2) rfl
        refine hK.out _ _ ?_
        clear hK K
        try simp only [Act.put, List.setIfInBounds_toArray, List.set_cons_zero, List.set_cons_succ]
        refine wpAnyL_ready (rs := [8]) (by kernel_rfl) (by simp) ?_
        refine AllReadyL.consL (o := ⟨some 39, .fieldAddr 45 (.tmp 8) 4, 0, "linear.go:23", #[⟨0, .phase⟩, ⟨1, .phase⟩, ⟨2, .phase⟩, ⟨3, .phase⟩, ⟨4, .phase⟩, ⟨5, .phase⟩, ⟨6, .phase⟩, ⟨7, .phase⟩], none⟩) rfl (by rfl) (fun K hK => ?_) AllReadyL.nil
        go_simp
        refine hK.out _ _ ?_
        clear hK K
        try simp only [Act.put, List.setIfInBounds_toArray, List.set_cons_zero, List.set_cons_succ]
        refine wpAnyL_ready (rs := [9]) (by kernel_rfl) (by simp) ?_
        refine AllReadyL.consL (o := ⟨none, .store 43 (.tmp 39) (.tmp 37), 0, "linear.go:23", #[⟨8, .data⟩, ⟨5, .data⟩, ⟨7, .chain⟩, ⟨0, .phase⟩, ⟨1, .phase⟩, ⟨2, .phase⟩, ⟨3, .phase⟩, ⟨4, .phase⟩, ⟨5, .phase⟩, ⟨6, .phase⟩, ⟨7, .phase⟩], none⟩) rfl (by rfl) (fun K hK => ?_) AllReadyL.nil
        have cq := BQ.cell 4 _ rfl
        have fq := BQ.free 4
        go_simp
        clear cq fq
        replace BQ := BQ.set 4 (.slice A5 y.near.length C5)
        replace own2 := own2.nxb hg8l ((Exb.refl g8 _).setB (p := ⟨g8, 4, none⟩) (.slice A5 y.near.length C5) rfl)
        replace own5 := own5.nxb hg8l ((Exb.refl g8 _).setB (p := ⟨g8, 4, none⟩) (.slice A5 y.near.length C5) rfl)
        replace KZ := KZ.setB (p := ⟨g8, 4, none⟩) (.slice A5 y.near.length C5) rfl
        refine hK.out _ _ ?_
        clear hK K
        try simp only [Act.put, List.setIfInBounds_toArray, List.set_cons_zero, List.set_cons_succ]
        refine wpAnyL_done (by kernel_rfl) ?_ _
        obtain ⟨wz, hwz⟩ : ∃ wz, wz = (wc.setCell ⟨g8, 1, none⟩ (.slice A2 y.known.length C2)).setCell ⟨g8, 4, none⟩ (.slice A5 y.near.length C5) := ⟨_, rfl⟩
        rw [← hwz] at BQ own2 own5 KZ ⊢
        clear hwz
        have BF : Blk wz g8 [.int .i64 y.id, .slice A2 y.known.length C2, .int .i64 y.left, .int .i64 y.right, .slice A5 y.near.length C5] 45 := BQ
        have p0 := BF.cell 0 _ rfl
        have p1 := BF.cell 1 _ rfl
        have p2 := BF.cell 2 _ rfl
        have p3 := BF.cell 3 _ rfl
        have p4 := BF.cell 4 _ rfl
        have KW := Lib.hid (Exl.nxb (b := g8) (w := wi) ⟨K8.out, zg8⟩ KZ).1
        have OP := Lib.hid (OWN.out.nx KW.out)
        have zw := KW.out.size
        replace own2 := Lib.hid (own2.base hz8)
        replace own5 := Lib.hid (own5.base hz8)
        have hw3 : w1.heap.size ≤ wi.heap.size := hwi
        have KN := KW.out.nx (Ex.new _ (.cells #[.int .i64 y.id, .slice A2 y.known.length C2, .int .i64 y.left, .int .i64 y.right, .slice A5 y.near.length C5] 45))
        have zn := Nat.le_trans hw3 KN.size
        clear BQ BF KZ hHeld
        go_wp2_with (at_builtin; (refine wpList_append_W (enc := encQ) _ rfl _ _ 24 rfl w1.heap.size 45 (.agg #[.int .i64 0, .slice none 0 0, .int .i64 0, .int .i64 0, .slice none 0 0]) 5 72 Tryz.underlying24 Tryz.infoPr rfl (by omega) (by omega) _ qs (OP.out.nx (Ex.new _ _)).row rfl _ 1 1 [(y.nums, (A2, y.known.length, C2), (A5, y.near.length, C5))] (Sl.lit _ rfl rfl encQ_len rfl) encQ_len encQ_one rfl (by omega) (by omega) zn ?_); intro v9 w9 own9 ch0 ch1 _)
        have RR := OWN.out.app (by decide) (by decide) hw3 KN (own2.out.nx (Ex.new _ _)) (own5.out.nx (Ex.new _ _)) own9 ch0
        exact ⟨⟨j + 1, _, by rw [HSL.out]; omega, by go_num, by rw [SN.out, HPY.out]; exact RR, Chg.trans (KI.out.nx KN) ch1⟩, by simp [intOf]; omega⟩
      · have HPY := Lib.hid hpy
        have hw3 : w1.heap.size ≤ wi.heap.size := hwi
        have r0 := B8.out.cell 0 _ rfl
        have r1 := B8.out.cell 1 _ rfl
        have r2 := B8.out.cell 2 _ rfl
        have r3 := B8.out.cell 3 _ rfl
        have r4 := B8.out.cell 4 _ rfl
        have KN := K4.out.nx (Ex.new _ (.cells #[.int .i64 x.id, .slice none 0 0, .int .i64 0, .int .i64 0, .slice none 0 0] 45))
        have zn := Nat.le_trans hw3 KN.size
        have OP := Lib.hid (OWN.out.nx K4.out)
        rw [hq]
        clear hq hpy
        go_wp2_with (at_builtin; (refine wpList_append_W (enc := encQ) _ rfl _ _ 24 rfl w1.heap.size 45 (.agg #[.int .i64 0, .slice none 0 0, .int .i64 0, .int .i64 0, .slice none 0 0]) 5 72 Tryz.underlying24 Tryz.infoPr rfl (by omega) (by omega) _ qs (OP.out.nx (Ex.new _ _)).row rfl _ 1 1 [((x.id, 0, 0), (none, 0, 0), (none, 0, 0))] (Sl.lit _ rfl rfl encQ_len rfl) encQ_len encQ_one rfl (by omega) (by omega) zn ?_); intro v9 w9 own9 ch0 ch1 _)
        have RR := OWN.out.app (p := ⟨x.id, 0, 0, [], []⟩) (hk := (none, 0, 0)) (hn := (none, 0, 0)) (by decide) (by decide) hw3 KN (OwnL.nil _ _ _ _ _) (OwnL.nil _ _ _ _ _) own9 ch0
        exact ⟨⟨j + 1, _, by rw [HSL.out]; omega, by go_num, by rw [SN.out, HPY.out]; exact RR, Chg.trans (KI.out.nx KN) ch1⟩, by simp [intOf]; omega⟩
    · obtain rfl : j = n := by omega
      rw [List.take_of_length_le (by rw [HSL.out]; exact Nat.le_refl _)] at own
      have OWN := Lib.hid (own.lower z01)
      have KI := Lib.hid (K1.out.nx ki)
      clear own ki hj hjm
      go_wp2_with fail
      go_ret
      exact ⟨_, qs, rfl, by rw [E0.out]; exact OWN.out, KI.out⟩
end Go.Proofs.YtbnbjiddffihoaaGreatDoor

/- Normal of the reference 16. -/
namespace Go.Proofs.YtbnbjiddffihoaaGreatDoor
open Go.RowKit

theorem normal_yes {N : List Nd} {P : List Pr} (h : (checkN N == 0) = true) : normalN N P = (sortN N).map fun x => peerN P x.id := by unfold normalN; rw [if_pos (by simpa using h)]
theorem normal_not {N : List Nd} {P : List Pr} (h : (checkN N == 0) = false) : normalN N P = [] := by unfold normalN; rw [if_neg (by simpa using h)]
set_option maxRecDepth 100000 in
set_option maxHeartbeats 8000000 in
theorem normal_r (a : Option Addr) (n c : Nat) (N : List Nd) (a2 : Option Addr) (n2 c2 : Nat) (P : List Pr) (w : World) (h : Sl 3 encN w a n N) (hn : n ≤ 1000) (h2 : PL w a2 n2 P) (hn2 : n2 ≤ 1000000) (hP : SmallP P) :
    Calls Tryz.prog 40 #[.slice a n c, .slice a2 n2 c2] w (PlPost (normalN N P) w) := by
  have HL := Lib.hid h.len
  have HP := Lib.hid hP
  have EX := Ex.refl w
  clear hP
  go_enter Tryz.func40, Tryz.ntmps40
  go_wp2_with fail
  (with_reducible refine (is_r _ _ _ N _ h (by omega)).mono ?_)
  rintro e w1 ⟨rfl, kk⟩
  replace h := h.nx kk
  replace h2 := h2.nx kk
  replace EX := EX.nx kk
  clear kk
  cases hc : (checkN N == 0) with
  | false =>
    have E0 := Lib.hid (normal_not (P := P) hc)
    have EX := Lib.hid EX
    clear h h2 hc
    go_wp2_with fail
    go_ret
    exact ⟨_, [], rfl, by rw [E0.out]; exact OwnP.nil _ _ _ _ _, EX.out⟩
  | true =>
    have E0 := Lib.hid (normal_yes (P := P) hc)
    clear hc
    go_wp2_with fail
    (with_reducible refine (sort_r _ _ _ N _ h hn).mono ?_)
    rintro e w3 ⟨a3, n3, c3, rfl, r3, kk⟩
    replace h2 := h2.nx kk
    replace EX := EX.nx kk
    clear kk
    have r3 : Slf 3 encN w1 w3 a3 n3 _ := r3
    have R3 := Lib.hid r3.sl
    have hn3 : n3 ≤ 1000 := by have := r3.len; have := sortN_length N; have := HL.out; omega
    obtain ⟨S, hS⟩ : ∃ S, S = sortN N := ⟨_, rfl⟩
    rw [← hS] at R3 E0
    have HSL := Lib.hid R3.out.len
    have H2 := Lib.hid h2
    have z0 := EX.size
    have EX := Lib.hid EX
    clear h h2 hS r3
    go_wp2_with fail
    go_loopw [5, 7] (fun o i wr => NoRel S P w3 o i wr) (fun _ i _ => n3 - (intOf i).toNat)
    case atStart => exact ⟨0, [], by omega, rfl, OwnP.nil _ _ _ _ _, Ex.refl _⟩
    case round =>
      obtain ⟨j, qs, hj, rfl, own, ki⟩ := hrel
      rw [HSL.out] at hj
      obtain ⟨wi, rfl⟩ : ∃ wi : World, wi = wr := ⟨_, rfl⟩
      by_cases hjm : j < n3
      · obtain ⟨x3, o3, x, rfl, hx3, hy, hc3⟩ := (R3.out.nx ki).at hjm
        have e0 : wi.cell? ⟨x3, o3 + j * 3, none⟩ = some (.int .i64 x.id) := hc3 0 _ rfl
        have SN := Lib.hid (no_snoc (P := P) hy)
        have hql : qs.length = j := by rw [own.2.1, List.length_map, List.length_take, HSL.out]; omega
        have hwi := ki.size
        have KI := Lib.hid ki
        have OWN := Lib.hid own
        clear hy own ki hc3
        go_wp2_with fail
        (with_reducible refine (peer_r _ _ _ P x.id _ (H2.out.nx KI.out) hn2 HP.out).mono ?_)
        rintro e w6 ⟨hk, hnr, rfl, own2, own5, kk⟩
        generalize peerN P x.id = p at SN own2 own5 ⊢
        have K6 := Lib.hid kk
        have OP := Lib.hid (OWN.out.nx kk)
        have KN := kk.nx (Ex.new _ (.cells #[.int .i64 p.id, hk.val, .int .i64 p.left, .int .i64 p.right, hnr.val] 45))
        have zn := Nat.le_trans hwi KN.size
        have o2 := Lib.hid own2
        have o5 := Lib.hid own5
        obtain ⟨A2, M2, C2⟩ := hk
        obtain ⟨A5, M5, C5⟩ := hnr
        simp only [Hdr.val] at KN zn ⊢
        clear e0 kk own2 own5
        go_wp2_with (at_builtin; (refine wpList_append_W (enc := encQ) _ rfl _ _ 24 rfl w3.heap.size 45 (.agg #[.int .i64 0, .slice none 0 0, .int .i64 0, .int .i64 0, .slice none 0 0]) 5 72 Tryz.underlying24 Tryz.infoPr rfl (by omega) (by omega) _ qs (OP.out.nx (Ex.new _ _)).row rfl _ 1 1 [(p.nums, (A2, M2, C2), (A5, M5, C5))] (Sl.lit _ rfl rfl encQ_len rfl) encQ_len encQ_one rfl (by omega) (by omega) zn ?_); intro v9 w9 own9 ch0 ch1 _)
        have RR := OWN.out.app (p := p) (hk := (A2, M2, C2)) (hn := (A5, M5, C5)) (by decide) (by decide) hwi KN (o2.out.nx (Ex.new _ _)) (o5.out.nx (Ex.new _ _)) own9 ch0
        exact ⟨⟨j + 1, _, by rw [HSL.out]; omega, by go_num, by rw [SN.out]; exact RR, Chg.trans (KI.out.nx KN) ch1⟩, by simp [intOf]; omega⟩
      · obtain rfl : j = n3 := by omega
        rw [List.take_of_length_le (by rw [HSL.out]; exact Nat.le_refl _)] at own
        have OWN := Lib.hid (own.lower z0)
        have KI := Lib.hid (EX.out.nx ki)
        clear own ki hj hjm
        go_wp2_with fail
        go_ret
        exact ⟨_, qs, rfl, by rw [E0.out]; exact OWN.out, KI.out⟩
end Go.Proofs.YtbnbjiddffihoaaGreatDoor

/- slices.Insert of one number into a row of the call's own, by the shelf's contracts; slices.Index and IndexFunc over numbers. -/
namespace Go.Proofs.YtbnbjiddffihoaaGreatDoor
open Go.RowKit Go.Shelf

def renI : Ren where
  f := fun x => match x with | 21 => 106 | 27 => 129 | 28 => 130 | 35 => 143 | 39 => 158 | _ => x
  t := fun x => match x with | 0 => 0 | 3 => 3 | 4 => 4 | 22 => 22 | _ => x
  g := fun x => x
theorem Tryz.lays21 : Lays2.n21 Tryz.prog renI where
  mixed := by kernel_rfl
  f21 := by kernel_rfl
  f27 := by kernel_rfl
  f28 := by kernel_rfl
  f35 := by kernel_rfl
  f39 := by kernel_rfl
  t0 := by kernel_rfl
  a0 := fun w => by kernel_rfl
  z0 := fun w => by kernel_rfl
  v0 := fun w => by kernel_rfl
  t3 := by kernel_rfl
  a3 := fun w => by kernel_rfl
  z3 := fun w => by kernel_rfl
  v3 := fun w => by kernel_rfl
  t4 := by kernel_rfl
  a4 := fun w => by kernel_rfl
  z4 := fun w => by kernel_rfl
  v4 := fun w => by kernel_rfl
  t22 := by kernel_rfl
  a22 := fun w => by kernel_rfl
  z22 := fun w => by kernel_rfl
  v22 := fun w => by kernel_rfl
  i3 := by kernel_rfl

def arrSet : Array Value → Nat → List Value → Array Value
  | a, _, [] => a
  | a, o, v :: vs => arrSet (a.setIfInBounds o v) (o + 1) vs
theorem arrSet_size : ∀ (vs : List Value) (a : Array Value) (o : Nat), (arrSet a o vs).size = a.size
  | [], _, _ => rfl
  | v :: vs, a, o => by
    show (arrSet (a.setIfInBounds o v) (o + 1) vs).size = a.size
    rw [arrSet_size vs]; simp
theorem arrSet_list : ∀ (vs : List Value) (a : Array Value) (o : Nat), o + vs.length ≤ a.size → (arrSet a o vs).toList = a.toList.take o ++ vs ++ a.toList.drop (o + vs.length)
  | [], a, o, _ => by simp [arrSet]
  | v :: vs, a, o, h => by
    show (arrSet (a.setIfInBounds o v) (o + 1) vs).toList = _
    simp only [List.length_cons] at h
    rw [arrSet_list vs _ _ (by simp; omega), Array.toList_setIfInBounds, List.take_set, List.drop_set_of_lt (by omega), List.take_succ_eq_append_getElem (by simp; omega),
      List.set_append_right _ _ (by simp; omega)]
    have : (a.toList.take o).length = o := by simp; omega
    rw [this, Nat.sub_self, List.set_cons_zero, List.length_cons, show o + 1 + vs.length = o + (vs.length + 1) by omega]
    simp
theorem heap_setCells {g : Nat} {ty : TypeId} : ∀ (vs : List Value) (w : World) (cur : Array Value) (o : Nat), w.heap[g]? = some (.cells cur ty (0, 0)) → (w.setCells g o vs).heap[g]? = some (.cells (arrSet cur o vs) ty (0, 0))
  | [], _, _, _, h => h
  | v :: vs, w, cur, o, h => heap_setCells vs (w.setCell ⟨g, o, none⟩ v) (cur.setIfInBounds o v) (o + 1) (heap_set h o v)
theorem chg_setCells {g base : Nat} (hb : base ≤ g) : ∀ (vs : List Value) (w w0 : World) (o : Nat), Chg (· < base) w0 w → Chg (· < base) w0 (w.setCells g o vs)
  | [], _, _, _, h => h
  | v :: vs, w, w0, o, h => chg_setCells hb vs _ w0 (o + 1) (h.setCell (p := ⟨g, o, none⟩) v (fun k hk => by show k ≠ g; omega))
def valsI (l : List Int) : List Value := l.map fun x => Value.int .i64 x
theorem vals_flat (l : List Int) : l.flatMap encI = valsI l := by
  induction l with
  | nil => rfl
  | cons x l ih => rw [List.flatMap_cons, ih]; rfl
theorem vals_len (l : List Int) : (valsI l).length = l.length := by unfold valsI; simp
theorem vals_one (l : List Int) : ∀ v ∈ valsI l, v.oneCell' = true := by
  intro v hv
  obtain ⟨x, _, rfl⟩ := List.mem_map.1 hv
  rfl
theorem own_vals {e base g cap : Nat} {w : World} {cur : Array Value} {L : List Int} {n : Nat} (hn : L.length = n) (hb : base ≤ g) (hg : w.heap[g]? = some (.cells cur e (0, 0))) (h1 : n ≤ cap) (h2 : cap ≤ maxLen) (h3 : cur.size = cap) (h4 : cur.toList.take n = valsI L) :
    OwnL 1 encI e base w (.slice (some ⟨g, 0, none⟩) n cap) L := by
  subst hn
  refine ⟨by rw [vals_flat, vals_len]; omega, .inr ⟨g, cap, cur, rfl, hb, hg, h1, h2, by omega, ?_⟩⟩
  rw [Nat.mul_one, vals_flat]
  exact h4
def insZ (l : List Int) (i : Nat) (v : Int) : List Int := l.take i ++ v :: l.drop i
theorem ins_vals (l : List Int) (i : Nat) (v : Int) : valsI (insZ l i v) = (valsI l).take i ++ [Value.int .i64 v] ++ (valsI l).drop i := by
  unfold insZ valsI
  simp [List.map_take, List.map_drop]
theorem ins_len (l : List Int) (i : Nat) (v : Int) (hi : i ≤ l.length) : (insZ l i v).length = l.length + 1 := by
  unfold insZ
  simp
  omega
theorem zero_size (k : Nat) : (Builtin.zeroCells (Value.int .i64 0).cells k).size = k := by simp [Builtin.zeroCells, Value.cells]
def InsPost (l : List Int) (i : Nat) (u : Int) (base : Nat) (w : World) (e : Ending) (w' : World) : Prop := ∃ v', e = .returned v' ∧ OwnL 1 encI 3 base w' v' (insZ l i u) ∧ Chg (· < base) w w'
set_option maxRecDepth 100000 in
set_option maxHeartbeats 2000000 in
theorem insert_i (v : Value) (l : List Int) (base : Nat) (i : Nat) (u : Int) (g : Nat) (w : World) (own : OwnL 1 encI 3 base w v l) (hb : base ≤ w.heap.size) (hl : l.length ≤ 1000000) (hi : i ≤ l.length) (B : Blk w g [.int .i64 u] 3) (hne : ¬ v.ownBlock = some g) :
    Calls Tryz.prog 106 #[v, .int .i64 i, .slice (some ⟨g, 0, none⟩) 1 1] w (InsPost l i u base w) := by
  have hvs : ∀ (j : Nat) (x : Value), ([Value.int .i64 u] : List Value)[j]? = some x → w.cell? ⟨g, 0 + j, none⟩ = some x := fun j x hj => by rw [Nat.zero_add]; exact B.cell j x hj
  have h1v : ∀ x ∈ ([Value.int .i64 u] : List Value), x.oneCell' = true := by intro x hx; rw [List.mem_singleton.1 hx]; rfl
  have hgl := B.lt
  rcases own.2 with ⟨rfl, hn⟩ | ⟨g0, cap, cur, rfl, hb0, hg, h1, h2, h3, h4⟩
  · have hl0 : l = [] := List.eq_nil_of_length_eq_zero hn
    subst hl0
    obtain rfl : i = 0 := by simpa using hi
    have H := Any2.slices_Insert_int_end_grow Tryz.lays21 none 0 0 g 0 1 1 [] [.int .i64 u] w (by omega) (by omega) (by omega) (by omega) rfl rfl (fun _ => rfl) (fun a ha => by cases ha) hvs h1v
    refine Calls.mono H ?_
    rintro e w' ⟨rfl, rfl⟩
    refine ⟨_, rfl, ?_, (Chg.refl _ w).drew.alloc _ (fun k (hk : k < base) => by show k < w.heap.size; omega)⟩
    refine own_vals (cur := _) rfl hb (heap_new w _) (grownCap_ge _ _ _ _) (grownCap_le_maxLen _ _ _ _ (by unfold maxLen; omega)) ?_ ?_
    · have := grownCap_ge w 1 0 (renI.t 3)
      simp [zero_size]
      omega
    · simp [insZ, valsI]
  · rw [Nat.mul_one, vals_flat] at h4
    have hcl := vals_len l
    have hcs : ∀ (j : Nat) (x : Value), (valsI l)[j]? = some x → w.cell? ⟨g0, 0 + j, none⟩ = some x := fun j x hj => by
      rw [Nat.zero_add, World.cell?, hg]
      rw [← h4, List.getElem?_take] at hj
      split at hj
      · simpa using hj
      · cases hj
    have hne0 : ¬ g = g0 := fun h => hne (by rw [h]; rfl)
    have hfz : ∀ j, w.frozen? ⟨g0, j, none⟩ = false := fun j => by simp [World.frozen?, hg]
    have hsp : ∀ j, j < cap → (w.cell? ⟨g0, j, none⟩).isSome = true := fun j hj => by
      have : j < cur.size := by omega
      simp [World.cell?, hg, this]
    have hm63 : cap ≤ 9223372036854775807 := by unfold maxLen at h2; omega
    rcases Nat.lt_or_ge l.length cap with hroom | hfull
    · rcases Nat.lt_or_ge i l.length with hlt | hge
      · have H := Any2.slices_Insert_int_shift Tryz.lays21 g0 0 l.length cap i g 0 1 1 (valsI l) [.int .i64 u] w hlt (by omega) (by omega) hm63 hne0 hcl rfl hcs (fun j hj => by rw [Nat.zero_add]; exact hsp j (by omega)) (fun j _ => by rw [Nat.zero_add]; exact hfz j) hvs (vals_one l) h1v
          3 3 1 cap (by have := B; unfold Blk at this; simp [World.shape?, this]) (by simp [World.shape?, hg]; omega) (by omega) (B.free 0) (B.free 1)
        refine Calls.mono H ?_
        rintro e w' ⟨rfl, rfl⟩
        simp only [Nat.zero_add]
        have hd : (valsI l).drop i = (valsI l).drop i := rfl
        have hh := heap_setCells [.int .i64 u] _ _ i (heap_setCells ((valsI l).drop i) w.drew cur (i + 1) hg)
        refine ⟨_, rfl, own_vals (ins_len l i u hi) hb0 hh (by omega) h2 (by rw [arrSet_size, arrSet_size]; omega) ?_, chg_setCells hb0 _ _ _ _ (chg_setCells hb0 _ _ _ _ ((Chg.refl _ w).drew))⟩
        have hdl : ((valsI l).drop i).length = l.length - i := by rw [List.length_drop, hcl]
        rw [arrSet_list _ _ _ (by rw [arrSet_size]; simp; omega), arrSet_list _ _ _ (by rw [hdl]; omega), ins_vals]
        have e1 : (cur.toList.take i) = (valsI l).take i := by rw [← h4, List.take_take, Nat.min_eq_left (by omega)]
        have e2 : (cur.toList.take (i + 1)).length = i + 1 := by simp; omega
        have r1 : (cur.toList.take (i + 1) ++ (valsI l).drop i ++ cur.toList.drop (i + 1 + ((valsI l).drop i).length)).take i = (valsI l).take i := by
          rw [List.append_assoc, List.take_append_of_le_length (by omega), List.take_take, Nat.min_eq_left (by omega), e1]
        have r2 : (cur.toList.take (i + 1) ++ (valsI l).drop i ++ cur.toList.drop (i + 1 + ((valsI l).drop i).length)).drop (i + [Value.int .i64 u].length) = (valsI l).drop i ++ cur.toList.drop (i + 1 + ((valsI l).drop i).length) := by
          rw [List.length_singleton, List.append_assoc, List.drop_append_of_le_length (by omega), List.drop_of_length_le (by omega), List.nil_append]
        rw [r1, r2, ← List.append_assoc, List.take_append_of_le_length (by rw [List.length_append, List.length_append, hdl, List.length_take, hcl, List.length_singleton]; omega), List.take_of_length_le (by rw [List.length_append, List.length_append, hdl, List.length_take, hcl, List.length_singleton]; omega)]
      · obtain rfl : i = l.length := by omega
        have H := Any2.slices_Insert_int_end_room Tryz.lays21 g0 0 l.length cap g 0 1 1 [.int .i64 u] w (by omega) (by omega) hm63 rfl (fun j hj => hsp _ (by omega)) (fun j _ => hfz _) hvs h1v
        refine Calls.mono H ?_
        rintro e w' ⟨rfl, rfl⟩
        simp only [Nat.zero_add]
        have hh := heap_setCells [.int .i64 u] w cur l.length hg
        refine ⟨_, rfl, own_vals (ins_len l _ u (Nat.le_refl _)) hb0 hh (by omega) h2 (by rw [arrSet_size]; omega) ?_, chg_setCells hb0 _ _ _ _ (Chg.refl _ w)⟩
        rw [arrSet_list _ _ _ (by simp; omega), ins_vals, h4, List.take_of_length_le (l := valsI l) (by omega), List.drop_of_length_le (l := valsI l) (by omega), List.append_nil]
        rw [List.take_append_of_le_length (by simp [hcl]), List.take_of_length_le (by simp [hcl])]
    · have hcap : cap = l.length := by omega
      rcases Nat.lt_or_ge i l.length with hlt | hge
      · have H := Any2.slices_Insert_int_grow Tryz.lays21 g0 0 l.length cap i g 0 1 1 (valsI l) [.int .i64 u] w hlt (by omega) h1 (by omega) (by omega) hcl rfl hcs hvs (vals_one l) h1v
        refine Calls.mono H ?_
        rintro e w' ⟨rfl, rfl⟩
        obtain ⟨G, hG⟩ : ∃ G, G = grownCap w (l.length + 1) cap (renI.t 3) := ⟨_, rfl⟩
        have hG1 := grownCap_ge w (l.length + 1) cap (renI.t 3)
        have hG2 := grownCap_le_maxLen w (l.length + 1) cap (renI.t 3) (by unfold maxLen; omega)
        rw [← hG] at hG1 hG2 ⊢
        obtain ⟨row, hrow⟩ : ∃ row : Array Value, row = ((valsI l).take i).toArray ++ Builtin.zeroCells (Value.int .i64 0).cells (l.length + 1 - i) ++ Builtin.zeroCells (Value.int .i64 0).cells (G - (l.length + 1)) := ⟨_, rfl⟩
        have hrs : row.size = G := by rw [hrow]; simp [zero_size, hcl]; omega
        have hrt : row.toList.take i = (valsI l).take i := by
          have h9 : row.toList = (valsI l).take i ++ ((Builtin.zeroCells (Value.int .i64 0).cells (l.length + 1 - i)).toList ++ (Builtin.zeroCells (Value.int .i64 0).cells (G - (l.length + 1))).toList) := by rw [hrow]; simp
          have h8 : ((valsI l).take i).length = i := by rw [List.length_take, hcl]; omega
          rw [h9, List.take_append_of_le_length (by omega), List.take_of_length_le (by omega)]
        rw [← hrow]
        have hw1 : (w.alloc (.cells row (renI.t 3))).drew.heap[w.heap.size]? = some (.cells row 3 (0, 0)) := heap_new w _
        have hh1 := heap_setCells [.int .i64 u] _ row i hw1
        have hh := heap_setCells ((valsI l).drop i) ((w.alloc (.cells row (renI.t 3))).drew.setCells w.heap.size i [.int .i64 u]).drew _ (i + 1) hh1
        refine ⟨_, rfl, own_vals (cur := _) (ins_len l i u hi) hb hh hG1 hG2 (by rw [arrSet_size, arrSet_size]; exact hrs) ?_, chg_setCells hb _ _ _ _ (Chg.drew (chg_setCells hb _ _ _ _ (((Chg.refl _ w).alloc _ (fun k (hk : k < base) => by show k < w.heap.size; omega)).drew)))⟩
        have hdl : ((valsI l).drop i).length = l.length - i := by rw [List.length_drop, hcl]
        rw [arrSet_list _ _ _ (by rw [arrSet_size, hdl]; omega), arrSet_list _ _ _ (by simp; omega), ins_vals]
        have e2 : (row.toList.take i ++ [Value.int .i64 u]).length = i + 1 := by simp [hrs]; omega
        have r1 : (row.toList.take i ++ [Value.int .i64 u] ++ row.toList.drop (i + [Value.int .i64 u].length)).take (i + 1) = (valsI l).take i ++ [Value.int .i64 u] := by
          rw [List.take_append_of_le_length (by omega), List.take_of_length_le (by omega), hrt]
        rw [r1, List.take_append_of_le_length (by rw [List.length_append, List.length_append, hdl, List.length_take, hcl, List.length_singleton]; omega), List.take_of_length_le (by rw [List.length_append, List.length_append, hdl, List.length_take, hcl, List.length_singleton]; omega)]
      · obtain rfl : i = l.length := by omega
        have H := Any2.slices_Insert_int_end_grow Tryz.lays21 (some ⟨g0, 0, none⟩) l.length cap g 0 1 1 (valsI l) [.int .i64 u] w (by omega) h1 (by omega) (by omega) hcl rfl (fun h => by cases h) (fun a ha => by cases ha; intro j x hj; rw [Addr.add_lit]; exact hcs j x hj) hvs h1v
        refine Calls.mono H ?_
        rintro e w' ⟨rfl, rfl⟩
        refine ⟨_, rfl, ?_, (Chg.refl _ w).drew.alloc _ (fun k (hk : k < base) => by show k < w.heap.size; omega)⟩
        have hG1 := grownCap_ge w (l.length + 1) cap (renI.t 3)
        refine own_vals (cur := _) (ins_len l _ u (Nat.le_refl _)) hb (heap_new w _) hG1 (grownCap_le_maxLen _ _ _ _ (by unfold maxLen; omega)) ?_ ?_
        · simp [zero_size, hcl]
          omega
        · rw [ins_vals, List.take_of_length_le (l := valsI l) (by omega), List.drop_of_length_le (l := valsI l) (by omega), List.append_nil]
          simp only [Array.toList_append]
          rw [List.take_append_of_le_length (by simp [hcl]), List.take_of_length_le (by simp [hcl])]

def PredZ (g : Nat) (lb : Array Value) (p : Int → Bool) (w : World) : Prop := ∀ (x : Int) (w' : World), Ex w w' → Calls Tryz.prog g (#[.int .i64 x] ++ lb) w' fun e w'' => e = .returned (.bool (p x)) ∧ Ex w' w''
def idxZ (p : Int → Bool) (l : List Int) : Int := if l.findIdx p < l.length then (l.findIdx p : Int) else -1
theorem idxZ_of {p : Int → Bool} {l : List Int} {k : Nat} {y : Int} (hy : l[k]? = some y) (hp : p y = true) (hno : ∀ j z, j < k → l[j]? = some z → p z = false) : idxZ p l = k := by
  have hk := (List.getElem?_eq_some_iff.1 hy)
  have hk1 := hk.1
  have : l.findIdx p = k := by
    rw [List.findIdx_eq hk.1]
    refine ⟨by rw [hk.2]; exact hp, fun j hj => ?_⟩
    exact hno j _ hj (List.getElem?_eq_getElem (by omega))
  unfold idxZ
  rw [this, if_pos hk.1]
theorem idxZ_none {p : Int → Bool} {l : List Int} (hno : ∀ j z, j < l.length → l[j]? = some z → p z = false) : idxZ p l = -1 := by
  unfold idxZ
  rw [if_neg]
  rw [List.findIdx_lt_length]
  rintro ⟨x, hx, hp⟩
  obtain ⟨j, hj⟩ := List.mem_iff_getElem?.1 hx
  rw [hno j x (List.getElem?_eq_some_iff.1 hj).1 hj] at hp
  cases hp
theorem idxZ_cases (p : Int → Bool) (l : List Int) : (∃ k : Nat, idxZ p l = k ∧ l.findIdx p = k ∧ k < l.length) ∨ (idxZ p l = -1 ∧ l.findIdx p = l.length) := by
  unfold idxZ
  by_cases h : l.findIdx p < l.length
  · exact .inl ⟨_, by rw [if_pos h], rfl, h⟩
  · exact .inr ⟨by rw [if_neg h], by have := List.findIdx_le_length (p := p) (xs := l); omega⟩
def IzRel (p : Int → Bool) (l : List Int) (n : Nat) (w : World) (i : Value) (wr : World) : Prop :=
  ∃ k : Nat, k ≤ n ∧ i = .int .i64 k ∧ Ex w wr ∧ ∀ j z, j < k → l[j]? = some z → p z = false
set_option maxRecDepth 100000 in
set_option maxHeartbeats 2000000 in
theorem idxf_z (g : Nat) (lb : Array Value) (p : Int → Bool) (eg : ∀ args w, (callFunc g args).run Tryz.prog w = .ok (.enter g args) w) (a : Option Addr) (n c : Nat) (l : List Int) (w : World) (h : Sl 1 encI w a n l) (hn : n ≤ 1000000) (hp : PredZ g lb p w) :
    Calls Tryz.prog 104 #[.slice a n c, .func (.func g) #[] lb] w fun e w' => e = .returned (.int .i64 (idxZ p l)) ∧ Ex w w' := by
  have HL := Lib.hid h.len
  have HP := Lib.hid hp
  have hs := Lib.hid h
  clear h hp
  go_enter Tryz.func104, Tryz.ntmps104
  go_wp2
  go_loopw [8] (fun i wr => IzRel p l n w i wr) (fun i _ => n - (intOf i).toNat)
  case atStart => exact ⟨0, by omega, rfl, Ex.refl _, by intro j z h; omega⟩
  case round =>
    obtain ⟨k, hk, rfl, kw, hno⟩ := hrel
    have HNO := Lib.hid hno
    clear hno
    obtain ⟨wo, rfl⟩ : ∃ wo : World, wo = wr := ⟨_, rfl⟩
    by_cases hlt : k < n
    · obtain ⟨x1, o1, y, rfl, hx1, hy, hc1⟩ := (hs.out.nx kw).at hlt
      have e0 : wo.cell? ⟨x1, o1 + k, none⟩ = some (.int .i64 y) := by simpa using hc1 0 _ rfl
      have HY := Lib.hid hy
      have hc := HP.out y wo kw
      have KW := Lib.hid kw
      clear hc1 hy kw
      go_wp2_with fail
      refine hc.mono ?_
      rintro e w2 ⟨rfl, k2⟩
      have K2 := Lib.hid (KW.out.nx k2)
      clear hc k2 e0
      cases hb : p y with
      | true =>
        have HI : Hid (idxZ p l = k) := Lib.hid (idxZ_of HY.out hb HNO.out)
        clear hb
        go_wp2_with fail
        go_ret
        exact ⟨by rw [HI.out]; rfl, K2.out⟩
      | false =>
        have HB := Lib.hid hb
        clear hb
        go_wp2_with fail
        refine ⟨⟨k + 1, by omega, by go_num, K2.out, fun j z hj hz => ?_⟩, by simp [intOf]; omega⟩
        rcases Nat.lt_or_ge j k with h | h
        · exact HNO.out j z h hz
        · obtain rfl : j = k := by omega
          rw [Option.some.inj (hz.symm.trans HY.out)]
          exact HB.out
    · obtain rfl : k = n := by omega
      have HI : Hid (idxZ p l = -1) := Lib.hid (idxZ_none (fun j z hj hz => HNO.out j z (by rw [← HL.out]; exact hj) hz))
      have KW := Lib.hid kw
      clear kw hk hlt
      go_wp2_with fail
      go_ret
      exact ⟨by rw [HI.out]; rfl, KW.out⟩
set_option maxHeartbeats 1000000 in
theorem index_e (a : Option Addr) (n c : Nat) (l : List Int) (v : Int) (w : World) (h : Sl 1 encI w a n l) (hn : n ≤ 4000000000000000000) :
    Calls Tryz.prog 71 #[.slice a n c, .int .i64 v] w fun e w' => e = .returned (.int .i64 (idxZ (fun x => v == x) l)) ∧ Ex w w' := by
  have HL := Lib.hid h.len
  have hs := Lib.hid h
  clear h
  go_enter Tryz.func71, Tryz.ntmps71
  go_wp2
  go_loopw [8] (fun i wr => IzRel (fun x => v == x) l n w i wr) (fun i _ => n - (intOf i).toNat)
  case atStart => exact ⟨0, by omega, rfl, Ex.refl _, by intro j z h; omega⟩
  case round =>
    obtain ⟨k, hk, rfl, kw, hno⟩ := hrel
    have HNO := Lib.hid hno
    clear hno
    obtain ⟨wo, rfl⟩ : ∃ wo : World, wo = wr := ⟨_, rfl⟩
    by_cases hlt : k < n
    · obtain ⟨x1, o1, y, rfl, hx1, hy, hc1⟩ := (hs.out.nx kw).at hlt
      have e0 : wo.cell? ⟨x1, o1 + k, none⟩ = some (.int .i64 y) := by simpa using hc1 0 _ rfl
      have HY := Lib.hid hy
      have KW := Lib.hid kw
      clear hc1 hy kw
      cases hb : (v == y) with
      | true =>
        have HI : Hid (idxZ (fun x => v == x) l = k) := Lib.hid (idxZ_of HY.out hb HNO.out)
        go_wp2_with fail
        go_ret
        exact ⟨by rw [HI.out]; rfl, KW.out⟩
      | false =>
        have HB := Lib.hid hb
        go_wp2_with fail
        refine ⟨⟨k + 1, by omega, by go_num, KW.out, fun j z hj hz => ?_⟩, by simp [intOf]; omega⟩
        rcases Nat.lt_or_ge j k with h | h
        · exact HNO.out j z h hz
        · obtain rfl : j = k := by omega
          rw [Option.some.inj (hz.symm.trans HY.out)]
          exact HB.out
    · obtain rfl : k = n := by omega
      have HI : Hid (idxZ (fun x => v == x) l = -1) := Lib.hid (idxZ_none (fun j z hj hz => HNO.out j z (by rw [← HL.out]; exact hj) hz))
      have KW := Lib.hid kw
      clear kw hk hlt
      go_wp2_with fail
      go_ret
      exact ⟨by rw [HI.out]; rfl, KW.out⟩
end Go.Proofs.YtbnbjiddffihoaaGreatDoor

/- The row of a peer, of the package linear. -/
namespace Go.Proofs.YtbnbjiddffihoaaGreatDoor
open Go.RowKit

set_option maxHeartbeats 1000000 in
theorem row1_p (g2 g5 : Nat) (a : Option Addr) (n c : Nat) (N : List Nd) (own : Nd) (w : World) (h2 : Blk w g2 [.slice a n c] 23) (h5 : Blk w g5 [.int .i64 own.id, .string own.key, .int .u32 own.word] 57) (hs : Sl 3 encN w a n N) (hn : n ≤ 1000) :
    PredZ 105 #[.pointer (some ⟨g2, 0, none⟩), .pointer (some ⟨g5, 0, none⟩)] (gtP N own) w := by
  intro id w' kk
  have q0 := (h2.nx kk).cell 0 _ rfl
  have B5 := h5.nx kk
  have HS := Lib.hid (hs.nx kk)
  have HG : Hid (gtP N own id = !(Op.bytesLess (findN N id).1.key.toList own.key.toList || ((findN N id).1.key.toList == own.key.toList))) := Lib.hid rfl
  clear h2 h5 hs kk
  go_enter Tryz.func105, Tryz.ntmps105
  go_wp2_with fail
  (with_reducible refine (find_p _ _ _ _ id _ HS.out (by omega)).mono ?_)
  rintro e w1 ⟨rfl, kk⟩
  replace B5 := B5.nx kk
  have K1 := Lib.hid kk
  clear kk q0 HS
  generalize findN N id = F at HG ⊢
  obtain ⟨⟨xi, xk, xw⟩, ok⟩ := F
  simp only at HG
  have q5 := B5.cell 1 _ rfl
  have hg5 := B5.lt
  have hne : ¬ g5 = w1.heap.size := by omega
  have KE := Lib.hid (K1.out.nx (Ex.new w1 (.cells #[.int .i64 xi, .string xk, .int .u32 xw] 57)))
  simp only [Nd.val]
  clear B5 K1
  go_wp2_with fail
  go_ret
  exact ⟨by rw [HG.out, Bool.not_or]; rfl, KE.out⟩
theorem ar_no {N : List Nd} {p : Pr} (h : ¬ ((findN N p.id).2 = true ∧ checkN N = 0)) : arN N p = [] := by unfold arN; rw [if_neg h]
set_option maxRecDepth 100000 in
set_option maxHeartbeats 4000000 in
theorem row_p (a : Option Addr) (n c : Nat) (N : List Nd) (p : Pr) (a1 : Option Addr) (n1 c1 : Nat) (a2 : Option Addr) (n2 c2 : Nat) (w : World) (h : Sl 3 encN w a n N) (hn : n ≤ 1000) (hc : n ≤ c) (hm : c ≤ maxLen) (h1 : Sl 1 encI w a1 n1 p.known) (h2 : Sl 4 encNr w a2 n2 p.near) (hn1 : n1 ≤ 4000000000000000000) (hn2 : n2 ≤ 4000000000000000000) :
    Calls Tryz.prog 69 #[.slice a n c, .agg #[.int .i64 p.id, .slice a1 n1 c1, .int .i64 p.left, .int .i64 p.right, .slice a2 n2 c2]] w (OiPost (arN N p) w) := by
  have HL := Lib.hid h.len
  have EX := Ex.refl w
  have EG : Hid (∀ args w, (callFunc 105 args).run Tryz.prog w = .ok (.enter 105 args) w) := Lib.hid (enters_of Tryz.func105 (by kernel_rfl) rfl)
  obtain ⟨g2, hg2⟩ : ∃ g2, g2 = w.heap.size := ⟨_, rfl⟩
  obtain ⟨g3, hg3⟩ : ∃ g3, g3 = (w.heap.size + 1) := ⟨_, rfl⟩
  obtain ⟨w1, hw1⟩ : ∃ w1, w1 = ((w.alloc (.cells #[.slice a n c] 23)).alloc (.cells #[.int .i64 p.id, .slice a1 n1 c1, .int .i64 p.left, .int .i64 p.right, .slice a2 n2 c2] 45)) := ⟨_, rfl⟩
  have kk : Ex w w1 := by rw [hw1]; exact (((Ex.refl w).alloc (.cells #[.slice a n c] 23)).alloc (.cells #[.int .i64 p.id, .slice a1 n1 c1, .int .i64 p.left, .int .i64 p.right, .slice a2 n2 c2] 45))
  have B2 : Blk w1 g2 [.slice a n c] 23 := by rw [hw1]; simp only [hg2, hg3]; have hbk := ((Blk.new w [.slice a n c] 23).nx (Ex.new _ (.cells #[.int .i64 p.id, .slice a1 n1 c1, .int .i64 p.left, .int .i64 p.right, .slice a2 n2 c2] 45))); simpa using hbk
  have B3 : Blk w1 g3 [.int .i64 p.id, .slice a1 n1 c1, .int .i64 p.left, .int .i64 p.right, .slice a2 n2 c2] 45 := by rw [hw1]; simp only [hg2, hg3]; have hbk := (Blk.new (w.alloc (.cells #[.slice a n c] 23)) [.int .i64 p.id, .slice a1 n1 c1, .int .i64 p.left, .int .i64 p.right, .slice a2 n2 c2] 45); simpa using hbk
  have Hw1 := Lib.hid hw1
  have Hg2 := Lib.hid hg2
  have Hg3 := Lib.hid hg3
  replace h := h.nx kk
  replace h1 := h1.nx kk
  replace h2 := h2.nx kk
  replace EX := EX.nx kk
  clear kk hw1 hg2 hg3
  go_enter Tryz.func69, Tryz.ntmps69
  go_upto_region 1 with fail
  rw [← Hw1.out, ← Hg3.out, ← Hg2.out]
  clear Hw1 Hg3 Hg2
  have q2 := B2.cell 0 _ rfl
  have q3 := B3.cell 0 _ rfl
  go_wp2_with fail
  (with_reducible refine (find_p _ _ _ _ p.id _ h (by omega)).mono ?_)
  rintro e w2 ⟨rfl, kk⟩
  replace h := h.nx kk
  replace h1 := h1.nx kk
  replace h2 := h2.nx kk
  replace EX := EX.nx kk
  replace B2 := B2.nx kk
  replace B3 := B3.nx kk
  clear kk
  clear q2 q3
  have HNO := Lib.hid (ar_no (N := N) (p := p))
  have HFM := Lib.hid (fun hf => findN_mem (l := N) (id := p.id) hf)
  obtain ⟨F, hF⟩ : ∃ F, F = findN N p.id := ⟨_, rfl⟩
  have HF := Lib.hid hF
  rw [← hF] at HNO ⊢
  clear hF
  obtain ⟨⟨xi, xk, xw⟩, ok⟩ := F
  have B5 := Blk.new w2 [.int .i64 xi, .string xk, .int .u32 xw] 57
  have kk := Ex.new w2 (.cells #[.int .i64 xi, .string xk, .int .u32 xw] 57)
  obtain ⟨w3, hw3⟩ : ∃ w3, w3 = w2.alloc (.cells #[.int .i64 xi, .string xk, .int .u32 xw] 57) := ⟨_, rfl⟩
  obtain ⟨g5, hg5⟩ : ∃ g5, g5 = w2.heap.size := ⟨_, rfl⟩
  replace B5 : Blk w3 g5 [.int .i64 xi, .string xk, .int .u32 xw] 57 := by rw [hw3, hg5]; exact B5
  rw [← hw3] at kk
  have Hw3 := Lib.hid hw3
  have Hg5 := Lib.hid hg5
  replace h := h.nx kk
  replace h1 := h1.nx kk
  replace h2 := h2.nx kk
  replace EX := EX.nx kk
  replace B2 := B2.nx kk
  replace B3 := B3.nx kk
  clear kk hw3 hg5
  simp only [Nd.val]
  go_upto_region 2 with fail
  rw [← Hg5.out, ← Hw3.out]
  clear Hg5 Hw3
  cases ok with
  | false =>
    have E0 : Hid (arN N p = []) := Lib.hid (HNO.out (fun hh => by cases hh.1))
    have EX := Lib.hid EX
    clear h h1 h2 B2 B3 B5
    go_wp2_with fail
    go_ret
    exact ⟨_, rfl, by rw [E0.out]; exact OwnL.nil _ _ _ _ _, EX.out⟩
  | true =>
    have q2 := B2.cell 0 _ rfl
    go_wp2_with fail
    (with_reducible refine (check_p _ _ _ _ _ h (by omega) hc hm).mono ?_)
    rintro e w4 ⟨rfl, kk⟩
    replace h := h.nx kk
    replace h1 := h1.nx kk
    replace h2 := h2.nx kk
    replace EX := EX.nx kk
    replace B2 := B2.nx kk
    replace B3 := B3.nx kk
    replace B5 := B5.nx kk
    clear kk
    clear q2
    by_cases hck : checkN N = 0
    case neg =>
      have d1 : (checkN N != 0) = true := by simpa using hck
      have E0 : Hid (arN N p = []) := Lib.hid (HNO.out (fun hh => hck hh.2))
      have EX := Lib.hid EX
      clear h h1 h2 B2 B3 B5 hck
      go_wp2_with fail
      go_ret
      exact ⟨_, rfl, by rw [E0.out]; exact OwnL.nil _ _ _ _ _, EX.out⟩
    have d1 : (checkN N != 0) = false := by simpa using hck
    have HC := Lib.hid hck
    clear hck HNO
    obtain ⟨hxN, hxi⟩ : (⟨xi, xk, xw⟩ : Nd) ∈ N ∧ xi = p.id := by
      have := HFM.out (by rw [← HF.out])
      rw [← HF.out] at this
      exact this
    have RL := Lib.hid (row_law HC.out hxN (p := p) hxi)
    clear hxN hxi HFM
    have q2 := B2.cell 0 _ rfl
    have q30 := B3.cell 0 _ rfl
    have q31 := B3.cell 1 _ rfl
    have q32 := B3.cell 2 _ rfl
    have q33 := B3.cell 3 _ rfl
    have q34 := B3.cell 4 _ rfl
    have z4 := EX.size
    go_wp2_with fail
    (with_reducible refine (refs_p _ _ _ N p _ _ _ _ _ _ _ h (by omega) hc hm h1 h2 hn1 hn2).mono ?_)
    rintro e w5 ⟨v, rfl, own, kk⟩
    replace h := h.nx kk
    replace EX := EX.nx kk
    replace B2 := B2.nx kk
    replace B3 := B3.nx kk
    replace B5 := B5.nx kk
    clear kk
    clear q2 q30 q31 q32 q33 q34 h1 h2
    replace own := own.base z4
    obtain ⟨aR, cR, rfl, R1, hcR, hmR, _⟩ := own.slf (fun _ => rfl)
    have hrl : (refsN N p).length ≤ 1000 := by
      have := HL.out
      have h9 : (refsN N p).length ≤ N.length := by
        unfold refsN
        split
        · exact ord_len _ _
        · exact Nat.zero_le _
      omega
    generalize refsN N p = R at own R1 RL hcR hrl ⊢
    have RS := R1.sl
    have PI := row1_p g2 g5 a n c N ⟨xi, xk, xw⟩ w5 B2 B5 h hn
    go_wp2_with fail
    (with_reducible refine (idxf_z _ _ _ EG.out _ _ _ R _ RS (by omega) PI).mono ?_)
    rintro e w6 ⟨rfl, kk⟩
    replace own := own.nx kk
    replace EX := EX.nx kk
    replace B3 := B3.nx kk
    clear kk PI RS R1 B2 B5 h
    have zw := EX.size
    have q30 := B3.cell 0 _ rfl
    have FIN : Hid (∀ (i : Nat), R.findIdx (gtP N ⟨xi, xk, xw⟩) = i → insZ R i p.id = arN N p) := Lib.hid (fun i hi => by rw [← RL.out, ← hi]; rfl)
    rcases idxZ_cases (gtP N ⟨xi, xk, xw⟩) R with ⟨k, hq, hi, hk⟩ | ⟨hq, hi⟩
    · rw [hq]
      have hk0 : ¬ (k : Int) < 0 := by omega
      have HI := Lib.hid (FIN.out k hi)
      have zw6 := EX.size
      have hne9 : ∀ g, g = w6.heap.size → ¬ (Value.slice aR R.length cR).ownBlock = some g := fun g hg hv => by have := (own.lt g hv).2; omega
      clear hq hi FIN
      have B9 := Blk.new w6 [.int .i64 p.id] 3
      have kk := Ex.new w6 (.cells #[.int .i64 p.id] 3)
      obtain ⟨w7, hw7⟩ : ∃ w7, w7 = w6.alloc (.cells #[.int .i64 p.id] 3) := ⟨_, rfl⟩
      obtain ⟨g9, hg9⟩ : ∃ g9, g9 = w6.heap.size := ⟨_, rfl⟩
      replace B9 : Blk w7 g9 [.int .i64 p.id] 3 := by rw [hw7, hg9]; exact B9
      rw [← hw7] at kk
      have Hw7 := Lib.hid hw7
      have Hg9 := Lib.hid hg9
      replace own := own.nx kk
      replace EX := EX.nx kk
      replace hne9 := Lib.hid (hne9 g9 hg9)
      clear kk hw7 hg9
      have zw7 := EX.size
      go_wp2_with fail
      rw [← Hg9.out, ← Hw7.out]
      clear Hg9 Hw7 q30 B3
      (with_reducible refine (insert_i _ R w.heap.size k p.id g9 _ own zw7 (by omega) (by omega) B9 hne9.out).mono ?_)
      rintro e w8 ⟨v8, rfl, own8, ch⟩
      have FO := Lib.hid own8
      have FE := Lib.hid (Chg.trans EX ch)
      clear own8 ch own B9 EX
      go_wp2_with fail
      go_ret
      exact ⟨_, rfl, by rw [← HI.out]; exact FO.out, FE.out⟩
    · rw [hq]
      have HI := Lib.hid (FIN.out R.length hi)
      have zw6 := EX.size
      have hne9 : ∀ g, g = w6.heap.size → ¬ (Value.slice aR R.length cR).ownBlock = some g := fun g hg hv => by have := (own.lt g hv).2; omega
      clear hq hi FIN
      have B9 := Blk.new w6 [.int .i64 p.id] 3
      have kk := Ex.new w6 (.cells #[.int .i64 p.id] 3)
      obtain ⟨w7, hw7⟩ : ∃ w7, w7 = w6.alloc (.cells #[.int .i64 p.id] 3) := ⟨_, rfl⟩
      obtain ⟨g9, hg9⟩ : ∃ g9, g9 = w6.heap.size := ⟨_, rfl⟩
      replace B9 : Blk w7 g9 [.int .i64 p.id] 3 := by rw [hw7, hg9]; exact B9
      rw [← hw7] at kk
      have Hw7 := Lib.hid hw7
      have Hg9 := Lib.hid hg9
      replace own := own.nx kk
      replace EX := EX.nx kk
      replace hne9 := Lib.hid (hne9 g9 hg9)
      clear kk hw7 hg9
      have zw7 := EX.size
      go_wp2_with fail
      rw [← Hg9.out, ← Hw7.out]
      clear Hg9 Hw7 q30 B3
      (with_reducible refine (insert_i _ R w.heap.size R.length p.id g9 _ own zw7 (by omega) (by omega) B9 hne9.out).mono ?_)
      rintro e w8 ⟨v8, rfl, own8, ch⟩
      have FO := Lib.hid own8
      have FE := Lib.hid (Chg.trans EX ch)
      clear own8 ch own B9 EX
      go_wp2_with fail
      go_ret
      exact ⟨_, rfl, by rw [← HI.out]; exact FO.out, FE.out⟩
end Go.Proofs.YtbnbjiddffihoaaGreatDoor
