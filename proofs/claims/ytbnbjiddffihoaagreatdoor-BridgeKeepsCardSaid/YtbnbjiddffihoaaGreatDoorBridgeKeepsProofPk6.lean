/- Texts for the statement BridgeKeepsProof, part 6 of 12: RedE, Lat, RedF, MapR, Que, MapG, BfsP, RedG, RedK, BriA, BriB. -/
import Derived.WideKeyEntry
import Derived.Deep.LoopGhost
import Derived.Test.YtbnbjiddffihoaaGreatDoorBridgeKeepsProofPk1
import Derived.Test.YtbnbjiddffihoaaGreatDoorBridgeKeepsProofPk3
import Derived.Test.YtbnbjiddffihoaaGreatDoorBridgeKeepsProofPk5

/- Copies of rows and of peers. -/
namespace Go.Proofs.YtbnbjiddffihoaaGreatDoor
open Go.RowKit

theorem Tryz.infoNr : (Tryz.prog.info? 49).map (fun i => (i.zero, i.size, i.bytes)) = some (some (.agg #[.int .i64 0, .int .i64 0, .int .i64 0, .int .i64 0]), 4, 32) := by kernel_rfl
theorem Tryz.infoPr : (Tryz.prog.info? 45).map (fun i => (i.zero, i.size, i.bytes)) = some (some (.agg #[.int .i64 0, .slice none 0 0, .int .i64 0, .int .i64 0, .slice none 0 0]), 5, 72) := by kernel_rfl
theorem wp_append_rq {P : Program} {α : Type} {enc : α → List Value} {o : Oper} {a : Act} {K : Act → World → Prop} {Q : Exit → Act → World → Prop} (w0 : World) (s x : Operand) (t : TypeId)
    (ho : o.op = .call { callee := .builtin .append, args := #[s, x], argTypes := #[t, t] })
    (base : Nat) (e : TypeId) (z : Value) (sz bytes : Nat) (ht : P.underlying t = some (.slice e)) (hi : (P.info? e).map (fun i => (i.zero, i.size, i.bytes)) = some (some z, sz, bytes))
    (hzs : z.cells.size = sz) (hsz : 0 < sz) (hby : bytes ≤ 65536)
    (v : Value) (l : List α) (hown : OwnL sz enc e base w0 v l) (hs : a.eval s = v) (A : Option Addr) (n c : Nat) (news : List α) (hrd : Sl sz enc w0 A n news) (hlen : ∀ y, (enc y).length = sz) (h1 : ∀ y, ∀ u ∈ enc y, u.oneCell' = true)
    (hx : a.eval x = .slice A n c) (hl : l.length ≤ 100000000) (hn : n ≤ 100000000) (hbase : base ≤ w0.heap.size)
    (h : ∀ v' w', OwnL sz enc e base w' v' (l ++ news) → Chg (fun k => k < w0.heap.size ∧ ¬ v.ownBlock = some k) w0 w' → Chg (· < base) w0 w' → K (a.put o.dst v') w') :
    o.wp P a w0 K Q := by
  by_cases hA : A = none → c = 0
  · exact wp_append_rd w0 s x t ho base e z sz bytes ht hi hzs hsz hby v l hown hs (· < w0.heap.size) A n c news hrd hA hlen h1 hx hl hn hbase h
  · have hAn : A = none := by
      cases A with
      | none => rfl
      | some _ => exact absurd (fun h => by cases h) hA
    subst hAn
    obtain ⟨i, hi, hz0, hz1, hz2⟩ := info_parts hi
    have hn0 : n = 0 := by
      rcases hrd.2 with h0 | ⟨x, o, e1, _⟩
      · exact h0
      · cases e1
    subst hn0
    have hnews : news = [] := List.eq_nil_of_length_eq_zero hrd.1
    subst hnews
    have hrun : (Builtin.append_ #[t, t] o.type #[v, .slice none 0 c]).run P w0 = .ok v w0 := by
      rcases hown.2 with ⟨rfl, _⟩ | ⟨g, cap, cur, rfl, _, _, hnc, _⟩
      · simp [Builtin.append_, run_underlying ht, sizeOf, typeInfo, hi, Builtin.lenOf, Builtin.firstCells, loadCells, loadCellsFrom]
      · simp [Builtin.append_, run_underlying ht, sizeOf, typeInfo, hi, Builtin.lenOf, Builtin.firstCells, hnc, storeCells, loadCells, loadCellsFrom]
    unfold Oper.wp execOp
    simp only [ho, resolve, invoke, builtin, Sem.run_bind, Sem.run_pure, Result.andThen_ok, List.map_toArray, List.map_cons, List.map_nil, hs, hx, hrun]
    exact h v w0 (by simpa using hown) (Chg.refl _ _) (Chg.refl _ _)
theorem wpList_append_rq {P : Program} {α : Type} {enc : α → List Value} {ops : Array Oper} {rest : List Oper} {o : Oper} {a : Act} {Q : Exit → Act → World → Prop} (w0 : World) (hgd : o.guard = none) (s x : Operand) (t : TypeId)
    (ho : o.op = .call { callee := .builtin .append, args := #[s, x], argTypes := #[t, t] })
    (base : Nat) (e : TypeId) (z : Value) (sz bytes : Nat) (ht : P.underlying t = some (.slice e)) (hi : (P.info? e).map (fun i => (i.zero, i.size, i.bytes)) = some (some z, sz, bytes))
    (hzs : z.cells.size = sz) (hsz : 0 < sz) (hby : bytes ≤ 65536)
    (v : Value) (l : List α) (hown : OwnL sz enc e base w0 v l) (hs : a.eval s = v) (A : Option Addr) (n c : Nat) (news : List α) (hrd : Sl sz enc w0 A n news) (hlen : ∀ y, (enc y).length = sz) (h1 : ∀ y, ∀ u ∈ enc y, u.oneCell' = true)
    (hx : a.eval x = .slice A n c) (hl : l.length ≤ 100000000) (hn : n ≤ 100000000) (hbase : base ≤ w0.heap.size)
    (h : ∀ v' w', OwnL sz enc e base w' v' (l ++ news) → Chg (fun k => k < w0.heap.size ∧ ¬ v.ownBlock = some k) w0 w' → Chg (· < base) w0 w' → wpList P ops Q rest (a.put o.dst v') w') :
    wpList P ops Q (o :: rest) a w0 :=
  wpList_plain hgd fun _ hK => wp_append_rq w0 s x t ho base e z sz bytes ht hi hzs hsz hby v l hown hs A n c news hrd hlen h1 hx hl hn hbase fun v' w' h2 h3 h4 => hK _ _ (h v' w' h2 h3 h4)

theorem wp_append_rqW {P : Program} {α : Type} {enc : α → List Value} {o : Oper} {a : Act} {K : Act → World → Prop} {Q : Exit → Act → World → Prop} (w0 : World) (s x : Operand) (t : TypeId)
    (ho : o.op = .call { callee := .builtin .append, args := #[s, x], argTypes := #[t, t] })
    (base : Nat) (e : TypeId) (z : Value) (sz bytes : Nat) (ht : P.underlying t = some (.slice e)) (hi : (P.info? e).map (fun i => (i.zero, i.size, i.bytes)) = some (some z, sz, bytes))
    (hzs : z.cells.size = sz) (hsz : 0 < sz) (hby : bytes ≤ 65536)
    (v : Value) (l : List α) (hown : OwnL sz enc e base w0 v l) (hs : a.eval s = v) (A : Option Addr) (n c : Nat) (news : List α) (hrd : Sl sz enc w0 A n news) (hlen : ∀ y, (enc y).length = sz) (h1 : ∀ y, ∀ u ∈ enc y, u.oneCell' = true)
    (hx : a.eval x = .slice A n c) (hb1 : 0 < bytes) (hmul : (l.length + n) * bytes ≤ 140737488355328) (hbase : base ≤ w0.heap.size)
    (h : ∀ v' w', OwnL sz enc e base w' v' (l ++ news) → Chg (fun k => k < w0.heap.size ∧ ¬ v.ownBlock = some k) w0 w' → Chg (· < base) w0 w' → K (a.put o.dst v') w') :
    o.wp P a w0 K Q := by
  by_cases hA : A = none → c = 0
  · exact wp_append_rdW w0 s x t ho base e z sz bytes ht hi hzs hsz hby v l hown hs (· < w0.heap.size) A n c news hrd hA hlen h1 hx hb1 hmul hbase h
  · have hAn : A = none := by
      cases A with
      | none => rfl
      | some _ => exact absurd (fun h => by cases h) hA
    subst hAn
    obtain ⟨i, hi, hz0, hz1, hz2⟩ := info_parts hi
    have hn0 : n = 0 := by
      rcases hrd.2 with h0 | ⟨x, o, e1, _⟩
      · exact h0
      · cases e1
    subst hn0
    have hnews : news = [] := List.eq_nil_of_length_eq_zero hrd.1
    subst hnews
    have hrun : (Builtin.append_ #[t, t] o.type #[v, .slice none 0 c]).run P w0 = .ok v w0 := by
      rcases hown.2 with ⟨rfl, _⟩ | ⟨g, cap, cur, rfl, _, _, hnc, _⟩
      · simp [Builtin.append_, run_underlying ht, sizeOf, typeInfo, hi, Builtin.lenOf, Builtin.firstCells, loadCells, loadCellsFrom]
      · simp [Builtin.append_, run_underlying ht, sizeOf, typeInfo, hi, Builtin.lenOf, Builtin.firstCells, hnc, storeCells, loadCells, loadCellsFrom]
    unfold Oper.wp execOp
    simp only [ho, resolve, invoke, builtin, Sem.run_bind, Sem.run_pure, Result.andThen_ok, List.map_toArray, List.map_cons, List.map_nil, hs, hx, hrun]
    exact h v w0 (by simpa using hown) (Chg.refl _ _) (Chg.refl _ _)
theorem wpList_append_rqW {P : Program} {α : Type} {enc : α → List Value} {ops : Array Oper} {rest : List Oper} {o : Oper} {a : Act} {Q : Exit → Act → World → Prop} (w0 : World) (hgd : o.guard = none) (s x : Operand) (t : TypeId)
    (ho : o.op = .call { callee := .builtin .append, args := #[s, x], argTypes := #[t, t] })
    (base : Nat) (e : TypeId) (z : Value) (sz bytes : Nat) (ht : P.underlying t = some (.slice e)) (hi : (P.info? e).map (fun i => (i.zero, i.size, i.bytes)) = some (some z, sz, bytes))
    (hzs : z.cells.size = sz) (hsz : 0 < sz) (hby : bytes ≤ 65536)
    (v : Value) (l : List α) (hown : OwnL sz enc e base w0 v l) (hs : a.eval s = v) (A : Option Addr) (n c : Nat) (news : List α) (hrd : Sl sz enc w0 A n news) (hlen : ∀ y, (enc y).length = sz) (h1 : ∀ y, ∀ u ∈ enc y, u.oneCell' = true)
    (hx : a.eval x = .slice A n c) (hb1 : 0 < bytes) (hmul : (l.length + n) * bytes ≤ 140737488355328) (hbase : base ≤ w0.heap.size)
    (h : ∀ v' w', OwnL sz enc e base w' v' (l ++ news) → Chg (fun k => k < w0.heap.size ∧ ¬ v.ownBlock = some k) w0 w' → Chg (· < base) w0 w' → wpList P ops Q rest (a.put o.dst v') w') :
    wpList P ops Q (o :: rest) a w0 :=
  wpList_plain hgd fun _ hK => wp_append_rqW w0 s x t ho base e z sz bytes ht hi hzs hsz hby v l hown hs A n c news hrd hlen h1 hx hb1 hmul hbase fun v' w' h2 h3 h4 => hK _ _ (h v' w' h2 h3 h4)

set_option maxRecDepth 100000 in
set_option maxHeartbeats 2000000 in
theorem clone_i (a : Option Addr) (n c : Nat) (l : List Int) (w : World) (h : Sl 1 encI w a n l) (hn : n ≤ 17592186044416) :
    Calls Tryz.prog 60 #[.slice a n c] w fun e w' => ∃ v, e = .returned v ∧ OwnL 1 encI 3 w.heap.size w' v l ∧ Ex w w' := by
  have HL := Lib.hid h.len
  cases a with
  | none =>
    have hn0 : n = 0 := by
      rcases h.2 with h0 | ⟨x, o, e, _⟩
      · exact h0
      · cases e
    have hl : l = [] := List.eq_nil_of_length_eq_zero (HL.out.trans hn0)
    subst hn0 hl
    clear h HL
    have hq : ∀ w : World, (binOp .eql 22 (.slice none 0 c) (.slice none 0 0)).run Tryz.prog w = .ok (.bool true) w := fun w => Lib.run_eql_slice_nil w 22 3 none 0 c 0 0 Tryz.underlying22
    go_enter Tryz.func60, Tryz.ntmps60
    go_wp2
    go_ret
    exact ⟨_, rfl, OwnL.nil _ _ _ _ _, Ex.refl _⟩
  | some A =>
    have q0 := Ex.new w (.cells #[] 3)
    have h0 := h.nx q0
    have own0 : OwnL 1 encI 3 w.heap.size (w.alloc (.cells #[] 3)) (.slice (some ⟨w.heap.size, 0, none⟩) 0 0) [] := OwnL.empty (Nat.le_refl _) rfl
    clear h
    have hq : ∀ w : World, (binOp .eql 22 (.slice (some A) n c) (.slice none 0 0)).run Tryz.prog w = .ok (.bool false) w := fun w => Lib.run_eql_slice_nil w 22 3 (some A) n c 0 0 Tryz.underlying22
    go_enter Tryz.func60, Tryz.ntmps60
    go_wp2_with (at_builtin; (refine wpList_append_rqW (enc := encI) _ rfl _ _ 22 rfl w.heap.size 3 (.int .i64 0) 1 8 Tryz.underlying22 Tryz.infoI6 rfl (by omega) (by omega) _ [] own0 rfl (some A) n c l h0 (fun _ => rfl) (by simp [encI, Value.oneCell']) rfl (by omega) (by simp; omega) (by simp) ?_); intro v1 w1 own1 hch0 hch1)
    go_ret
    exact ⟨_, rfl, by simpa using own1, Chg.trans q0 hch1⟩
set_option maxRecDepth 100000 in
set_option maxHeartbeats 2000000 in
theorem clone_nr (a : Option Addr) (n c : Nat) (l : List Nr) (w : World) (h : Sl 4 encNr w a n l) (hn : n ≤ 4398046511104) :
    Calls Tryz.prog 76 #[.slice a n c] w fun e w' => ∃ v, e = .returned v ∧ OwnL 4 encNr 49 w.heap.size w' v l ∧ Ex w w' := by
  have HL := Lib.hid h.len
  cases a with
  | none =>
    have hn0 : n = 0 := by
      rcases h.2 with h0 | ⟨x, o, e, _⟩
      · exact h0
      · cases e
    have hl : l = [] := List.eq_nil_of_length_eq_zero (HL.out.trans hn0)
    subst hn0 hl
    clear h HL
    have hq : ∀ w : World, (binOp .eql 43 (.slice none 0 c) (.slice none 0 0)).run Tryz.prog w = .ok (.bool true) w := fun w => Lib.run_eql_slice_nil w 43 49 none 0 c 0 0 Tryz.underlying43
    go_enter Tryz.func76, Tryz.ntmps76
    go_wp2
    go_ret
    exact ⟨_, rfl, OwnL.nil _ _ _ _ _, Ex.refl _⟩
  | some A =>
    have q0 := Ex.new w (.cells #[] 49)
    have h0 := h.nx q0
    have own0 : OwnL 4 encNr 49 w.heap.size (w.alloc (.cells #[] 49)) (.slice (some ⟨w.heap.size, 0, none⟩) 0 0) [] := OwnL.empty (Nat.le_refl _) rfl
    clear h
    have hq : ∀ w : World, (binOp .eql 43 (.slice (some A) n c) (.slice none 0 0)).run Tryz.prog w = .ok (.bool false) w := fun w => Lib.run_eql_slice_nil w 43 49 (some A) n c 0 0 Tryz.underlying43
    go_enter Tryz.func76, Tryz.ntmps76
    go_wp2_with (at_builtin; (refine wpList_append_rqW (enc := encNr) _ rfl _ _ 43 rfl w.heap.size 49 (.agg #[.int .i64 0, .int .i64 0, .int .i64 0, .int .i64 0]) 4 32 Tryz.underlying43 Tryz.infoNr rfl (by omega) (by omega) _ [] own0 rfl (some A) n c l h0 (fun _ => rfl) (by simp [encNr, Value.oneCell']) rfl (by omega) (by simp; omega) (by simp) ?_); intro v1 w1 own1 hch0 hch1)
    go_ret
    exact ⟨_, rfl, by simpa using own1, Chg.trans q0 hch1⟩

def CpPost (p : Pr) (base : Nat) (w : World) (e : Ending) (w' : World) : Prop :=
  ∃ hk hn : Hdr, e = .returned (.agg #[.int .i64 p.id, hk.val, .int .i64 p.left, .int .i64 p.right, hn.val]) ∧ OwnL 1 encI 3 base w' hk.val p.known ∧ OwnL 4 encNr 49 base w' hn.val p.near ∧ Ex w w'
set_option maxRecDepth 100000 in
set_option maxHeartbeats 2000000 in
theorem copypeer_r (p : Pr) (a1 : Option Addr) (n1 c1 : Nat) (a2 : Option Addr) (n2 c2 : Nat) (w : World) (h1 : Sl 1 encI w a1 n1 p.known) (h2 : Sl 4 encNr w a2 n2 p.near) (hn1 : n1 ≤ 17592186044416) (hn2 : n2 ≤ 4398046511104) :
    Calls Tryz.prog 63 #[.agg #[.int .i64 p.id, .slice a1 n1 c1, .int .i64 p.left, .int .i64 p.right, .slice a2 n2 c2]] w (CpPost p w.heap.size w) := by
  have EX := Ex.refl w
  have S1 := Lib.hid h1
  have S2 := Lib.hid h2
  clear h1 h2
  obtain ⟨g1, hg1⟩ : ∃ g1, g1 = w.heap.size := ⟨_, rfl⟩
  obtain ⟨g2, hg2⟩ : ∃ g2, g2 = (w.heap.size + 1) := ⟨_, rfl⟩
  obtain ⟨w1, hw1⟩ : ∃ w1, w1 = ((w.alloc (.cells #[.int .i64 p.id, .slice a1 n1 c1, .int .i64 p.left, .int .i64 p.right, .slice a2 n2 c2] 45)).alloc (.cells #[.int .i64 0, .slice none 0 0, .int .i64 0, .int .i64 0, .slice none 0 0] 45)) := ⟨_, rfl⟩
  have kk : Ex w w1 := by rw [hw1]; exact (((Ex.refl w).alloc (.cells #[.int .i64 p.id, .slice a1 n1 c1, .int .i64 p.left, .int .i64 p.right, .slice a2 n2 c2] 45)).alloc (.cells #[.int .i64 0, .slice none 0 0, .int .i64 0, .int .i64 0, .slice none 0 0] 45))
  have B1 : Blk w1 g1 [.int .i64 p.id, .slice a1 n1 c1, .int .i64 p.left, .int .i64 p.right, .slice a2 n2 c2] 45 := by rw [hw1]; simp only [hg1, hg2]; have hbk := ((Blk.new w [.int .i64 p.id, .slice a1 n1 c1, .int .i64 p.left, .int .i64 p.right, .slice a2 n2 c2] 45).nx (Ex.new _ (.cells #[.int .i64 0, .slice none 0 0, .int .i64 0, .int .i64 0, .slice none 0 0] 45))); simpa using hbk
  have B2 : Blk w1 g2 [.int .i64 0, .slice none 0 0, .int .i64 0, .int .i64 0, .slice none 0 0] 45 := by rw [hw1]; simp only [hg1, hg2]; have hbk := (Blk.new (w.alloc (.cells #[.int .i64 p.id, .slice a1 n1 c1, .int .i64 p.left, .int .i64 p.right, .slice a2 n2 c2] 45)) [.int .i64 0, .slice none 0 0, .int .i64 0, .int .i64 0, .slice none 0 0] 45); simpa using hbk
  have Hw1 := Lib.hid hw1
  have Hg1 := Lib.hid hg1
  have Hg2 := Lib.hid hg2
  replace EX := EX.nx kk
  have hg1' : w.heap.size ≤ g1 := by omega
  have hg2' : w.heap.size ≤ g2 := by omega
  have h12 : ¬ g1 = g2 := by omega
  have h21 : ¬ g2 = g1 := by omega
  clear kk hw1 hg1 hg2
  go_enter Tryz.func63, Tryz.ntmps63
  go_upto_region 1 with fail
  rw [← Hw1.out, ← Hg2.out, ← Hg1.out]
  clear Hw1 Hg2 Hg1
  have hz1 := EX.size
  have q1 := B1.cell 1 _ rfl
  have h1 := S1.out.nx EX
  have own0 : OwnL 1 encI 3 w1.heap.size w1 (.slice none 0 0) [] := OwnL.nil _ _ _ _ _
  go_upto_region 2 with (at_builtin; (refine wpList_append_rqW (enc := encI) w1 rfl (.const (.slice none 0 0)) (.tmp 4) 22 rfl w1.heap.size 3 (.int .i64 0) 1 8 Tryz.underlying22 Tryz.infoI6 rfl (by omega) (by omega) _ [] own0 rfl a1 n1 c1 p.known h1 (fun _ => rfl) (by simp [encI, Value.oneCell']) rfl (by omega) (by simp; omega) (Nat.le_refl _) ?_); intro v1 w2 own1 ch0 ch1; rw [List.nil_append] at own1; obtain ⟨A1, C1, rfl, _, _, _, _⟩ := own1.slf (fun _ => rfl); have f1 := (B1.nx ch1).free 1; have r1 := (B1.nx ch1).cell 1 _ rfl; clear q1)
  have k2 : Ex w1 w2 := ch1
  have L1 := B1.lt
  have L2 := B2.lt
  have k3 : Ex w w2 := EX.nx k2
  obtain ⟨w3, hw3⟩ : ∃ w3, w3 = w2.setCell ⟨g1, 1, none⟩ (.slice A1 p.known.length C1) := ⟨_, rfl⟩
  have k4 : Ex w w3 := by rw [hw3]; exact k3.setNew (p := ⟨g1, 1, none⟩) _ hg1'
  have k5 : Exb g1 w2 w3 := by rw [hw3]; exact (Exb.refl g1 w2).setB (p := ⟨g1, 1, none⟩) _ rfl
  replace B1 : Blk w3 g1 [.int .i64 p.id, .slice A1 p.known.length C1, .int .i64 p.left, .int .i64 p.right, .slice a2 n2 c2] 45 := by rw [hw3]; exact (B1.nx k2).set 1 _
  replace B2 := (B2.nx k2).nxb h21 k5
  replace own1 := own1.nxb L1 k5
  have z3 : w1.heap.size ≤ w3.heap.size := Nat.le_trans k2.size k5.size
  rw [← hw3]
  clear hw3 f1 r1 own0 h1 ch0 ch1 k2 k3 k5
  have q4 := B1.cell 4 _ rfl
  have h2 := S2.out.nx k4
  have own0 : OwnL 4 encNr 49 w3.heap.size w3 (.slice none 0 0) [] := OwnL.nil _ _ _ _ _
  go_upto_region 3 with (at_builtin; (refine wpList_append_rqW (enc := encNr) w3 rfl (.const (.slice none 0 0)) (.tmp 8) 43 rfl w3.heap.size 49 (.agg #[.int .i64 0, .int .i64 0, .int .i64 0, .int .i64 0]) 4 32 Tryz.underlying43 Tryz.infoNr rfl (by omega) (by omega) _ [] own0 rfl a2 n2 c2 p.near h2 (fun _ => rfl) (by simp [encNr, Value.oneCell']) rfl (by omega) (by simp; omega) (Nat.le_refl _) ?_); intro v4 w4 own4 ch0 ch1; rw [List.nil_append] at own4; obtain ⟨A4, C4, rfl, _, _, _, _⟩ := own4.slf (fun _ => rfl); have f1 := (B1.nx ch1).free 4; have r1 := (B1.nx ch1).cell 4 _ rfl; clear q4)
  have k2 : Ex w3 w4 := ch1
  have L3 := B1.lt
  have k6 : Ex w w4 := k4.nx k2
  replace own1 := own1.nx k2
  obtain ⟨w5, hw5⟩ : ∃ w5, w5 = w4.setCell ⟨g1, 4, none⟩ (.slice A4 p.near.length C4) := ⟨_, rfl⟩
  have k7 : Ex w w5 := by rw [hw5]; exact k6.setNew (p := ⟨g1, 4, none⟩) _ hg1'
  have k8 : Exb g1 w4 w5 := by rw [hw5]; exact (Exb.refl g1 w4).setB (p := ⟨g1, 4, none⟩) _ rfl
  replace B1 : Blk w5 g1 [.int .i64 p.id, .slice A1 p.known.length C1, .int .i64 p.left, .int .i64 p.right, .slice A4 p.near.length C4] 45 := by rw [hw5]; exact (B1.nx k2).set 4 _
  replace B2 := (B2.nx k2).nxb h21 k8
  replace own1 := own1.nxb L1 k8
  replace own4 := own4.nxb L3 k8
  rw [← hw5]
  clear hw5 f1 r1 own0 h2 ch0 ch1 k2 k6 k8
  have p0 := B1.cell 0 _ rfl
  have p1 := B1.cell 1 _ rfl
  have p2 := B1.cell 2 _ rfl
  have p3 := B1.cell 3 _ rfl
  have p4 := B1.cell 4 _ rfl
  have q0 := B2.cell 0 _ rfl
  have q1 := B2.cell 1 _ rfl
  have q2 := B2.cell 2 _ rfl
  have q3 := B2.cell 3 _ rfl
  have q4 := B2.cell 4 _ rfl
  have f0 := B2.free 0
  have f1 := B2.free 1
  have f2 := B2.free 2
  have f3 := B2.free 3
  have f4 := B2.free 4
  have KE := Lib.hid (((((k7.setNew (p := ⟨g2, 0, none⟩) (.int .i64 p.id) hg2').setNew (p := ⟨g2, 1, none⟩) (.slice A1 p.known.length C1) hg2').setNew (p := ⟨g2, 2, none⟩) (.int .i64 p.left) hg2').setNew (p := ⟨g2, 3, none⟩) (.int .i64 p.right) hg2').setNew (p := ⟨g2, 4, none⟩) (.slice A4 p.near.length C4) hg2')
  have KB : Exb g2 w5 (((((w5.setCell ⟨g2, 0, none⟩ (.int .i64 p.id)).setCell ⟨g2, 1, none⟩ (.slice A1 p.known.length C1)).setCell ⟨g2, 2, none⟩ (.int .i64 p.left)).setCell ⟨g2, 3, none⟩ (.int .i64 p.right)).setCell ⟨g2, 4, none⟩ (.slice A4 p.near.length C4)) :=
    (((((Exb.refl g2 w5).setB (p := ⟨g2, 0, none⟩) _ rfl).setB (p := ⟨g2, 1, none⟩) _ rfl).setB (p := ⟨g2, 2, none⟩) _ rfl).setB (p := ⟨g2, 3, none⟩) _ rfl).setB (p := ⟨g2, 4, none⟩) _ rfl
  have O1 := Lib.hid ((own1.nxb L2 KB).base hz1)
  have O4 := Lib.hid ((own4.nxb (show g2 < w3.heap.size by omega) KB).base (show w.heap.size ≤ w3.heap.size by omega))
  clear B1 B2 own1 own4 KB k4 k7 EX
  go_wp2_with fail
  refine bodyPost_ret (v := .agg #[.int .i64 p.id, .slice A1 p.known.length C1, .int .i64 p.left, .int .i64 p.right, .slice A4 p.near.length C4]) (by simp [results, Tryz.results63, go_sem, *]) rfl ⟨(A1, p.known.length, C1), (A4, p.near.length, C4), rfl, O1.out, O4.out, KE.out⟩
end Go.Proofs.YtbnbjiddffihoaaGreatDoor

/- A region that draws its order: the held condition need not be shown behind operations that wait for all that is taken first. -/
namespace Go.Proofs.YtbnbjiddffihoaaGreatDoor
open Go.RowKit

section
variable {P : Program} {ops : Array Oper} {Q : Exit → Act → World → Prop} {md : Region.Mode} {S : World → Prop} {late : List Nat}

def wpAnyL (P : Program) (md : Region.Mode) (ops : Array Oper) (Q : Exit → Act → World → Prop) (S : World → Prop) (late : List Nat) : Nat → Array Bool → Act → World → Prop
  | 0, listed, a, w => Region.ready md ops listed = [] ∧ Q .normal a w
  | fuel + 1, listed, a, w =>
    (Region.ready md ops listed = [] → Q .normal a w) ∧
    ∀ i ∈ Region.ready md ops listed, wpOp P ops Q i (fun a' w' => (late.contains i = false → S w → S w') ∧ wpAnyL P md ops Q S late fuel (listed.setIfInBounds i true) a' w') a w
theorem wpAny_of_late : ∀ (fuel : Nat) (listed : Array Bool) (a : Act) (w : World), wpAnyL P md ops Q S late fuel listed a w → wpAny P md ops Q fuel listed a w
  | 0, _, _, _, h => h
  | fuel + 1, _, _, _, h => ⟨h.1, fun i hi => wpOp_mono (fun a' w' h' => wpAny_of_late fuel _ a' w' h'.2) (h.2 i hi)⟩
def reachO (md : Region.Mode) (ops : Array Oper) (i : Nat) : Nat → Nat → Bool
  | 0, _ => false
  | f + 1, j => match ops[j]? with
    | some o => o.after.any fun e => Region.binds md e && (e.on == i || reachO md ops i f e.on)
    | none => false
def lateOk (md : Region.Mode) (ops : Array Oper) (late : List Nat) (i : Nat) : Bool := late.all fun j => reachO md ops i ops.size j
def Clo (md : Region.Mode) (ops : Array Oper) (listed : Array Bool) : Prop :=
  ∀ j o, ops[j]? = some o → listed.getD j false = true → ∀ e ∈ o.after, Region.binds md e = true → listed.getD e.on false = true
def closedO (md : Region.Mode) (ops : Array Oper) (listed : Array Bool) : Bool :=
  (List.range ops.size).all fun j => match ops[j]? with
    | some o => !(listed.getD j false) || o.after.all fun e => !(Region.binds md e) || listed.getD e.on false
    | none => true
theorem closedO_spec {listed : Array Bool} (h : closedO md ops listed = true) : Clo md ops listed := by
  intro j o hj hl e he hb
  have hjs : j < ops.size := (Array.getElem?_eq_some_iff.1 hj).1
  have h1 := List.all_eq_true.1 h j (List.mem_range.2 hjs)
  simp only [hj, hl, Bool.not_true, Bool.false_or] at h1
  rw [Array.all_eq_true'] at h1
  have h2 := h1 e he
  simpa [hb] using h2
theorem reach_listed {i : Nat} {listed : Array Bool} (hc : Clo md ops listed) : ∀ (f j : Nat), (∀ o, ops[j]? = some o → ∀ e ∈ o.after, Region.binds md e = true → listed.getD e.on false = true) → reachO md ops i f j = true → listed.getD i false = true
  | 0, _, _, h => by cases h
  | f + 1, j, hp, h => by
    unfold reachO at h
    cases ho : ops[j]? with
    | none => simp [ho] at h
    | some o =>
      simp only [ho] at h
      rw [Array.any_eq_true'] at h
      obtain ⟨e, he, h2⟩ := h
      rw [Bool.and_eq_true, Bool.or_eq_true, beq_iff_eq] at h2
      have hl := hp o ho e he h2.1
      rcases h2.2 with h3 | h3
      · rw [← h3]; exact hl
      · exact reach_listed hc f e.on (fun o' ho' e' he' hb' => hc e.on o' ho' hl e' he' hb') h3
theorem getD_mono {listed : Array Bool} {j k : Nat} (h : listed.getD k false = true) : (listed.setIfInBounds j true).getD k false = true := by
  rw [Array.getD_eq_getD_getElem?] at h ⊢
  rw [Array.getElem?_setIfInBounds]
  split
  · split
    · rfl
    · rename_i hk hs
      subst hk
      rw [Array.getElem?_eq_none (by omega)] at h
      exact h
  · exact h
theorem getD_self {listed : Array Bool} {j k : Nat} (h : (listed.setIfInBounds j true).getD k false = true) : k = j ∨ listed.getD k false = true := by
  by_cases hk : k = j
  · exact .inl hk
  · right
    rw [Array.getD_eq_getD_getElem?] at h ⊢
    rwa [Array.getElem?_setIfInBounds, if_neg (fun e => hk e.symm)] at h
theorem Clo.step {j : Nat} {oj : Oper} {listed : Array Bool} (hc : Clo md ops listed) (hoj : ops[j]? = some oj) (hall : ∀ e ∈ oj.after, Region.binds md e = true → listed.getD e.on false = true) : Clo md ops (listed.setIfInBounds j true) := by
  intro p o hp hl e he hb
  rcases getD_self hl with rfl | h1
  · obtain rfl : oj = o := Option.some.inj (hoj.symm.trans hp)
    exact getD_mono (hall e he hb)
  · exact getD_mono (hc p o hp h1 e he hb)
theorem wpAnyL_first {i : Nat} {oi : Oper} {v : Value} (hi : ops[i]? = some oi) (hsel : ∀ (j : Nat) (o : Oper) cs b, ops[j]? = some o → o.op ≠ .select cs b)
    (hQ : ∀ c a w, Q (.panic c) (a.put oi.dst v) w → Q (.panic c) a w) (hl : lateOk md ops late i = true) :
    ∀ (fuel : Nat) (listed : Array Bool) (a : Act) (w : World), Clo md ops listed →
      (∀ j oj, ops[j]? = some oj → j ≠ i → listed.getD j true = false → (∀ e ∈ oj.after, Region.binds md e = true → e.on ≠ i) → oi.apart ops oj = true) →
      i ∈ Region.ready md ops listed → YieldsIf P ops S oi v a → S w →
      wpAnyL P md ops Q S late fuel (listed.setIfInBounds i true) (a.put oi.dst v) w → wpAnyL P md ops Q S late (fuel + 1) listed a w := by
  have hun : ∀ listed : Array Bool, i ∈ Region.ready md ops listed → listed.getD i false = true → False := fun listed hr h => by
    have h0 := (mem_ready.1 hr).1
    rw [Array.getD_eq_getD_getElem?] at h h0
    cases h1 : listed[i]? with
    | none => rw [h1] at h; cases h
    | some b => rw [h1] at h h0; simp only [Option.getD_some] at h h0; rw [h] at h0; cases h0
  have hearly : ∀ (listed : Array Bool) j, Clo md ops listed → i ∈ Region.ready md ops listed → j ∈ Region.ready md ops listed → late.contains j = false := fun listed j hc hr hj => by
    rw [Bool.eq_false_iff]
    intro hcj
    have h1 := List.all_eq_true.1 hl j (List.contains_iff_mem.1 hcj)
    obtain ⟨_, oj, hoj, hall⟩ := mem_ready.1 hj
    exact hun listed hr (reach_listed hc _ j (fun o ho e he hb => by
      obtain rfl : oj = o := Option.some.inj (hoj.symm.trans ho)
      exact hall e he hb) h1)
  intro fuel
  induction fuel with
  | zero =>
    intro listed a w hcl _ hr hy hS H
    refine ⟨fun h => (by rw [h] at hr; cases hr), fun j hj => ?_⟩
    by_cases hji : j = i
    · subst hji; exact hy.wpOp hi hS ⟨fun _ _ => hS, H⟩
    · have := ready_mono hj hji
      rw [H.1] at this
      cases this
  | succ fuel ih =>
    intro listed a w hcl hfree hr hy hS H
    refine ⟨fun h => (by rw [h] at hr; cases hr), fun j hj => ?_⟩
    by_cases hji : j = i
    · subst hji; exact hy.wpOp hi hS ⟨fun _ _ => hS, H⟩
    · have h1 := H.2 j (ready_mono hj hji)
      have hej := hearly listed j hcl hr hj
      obtain ⟨hjun, oj, hoj, hall⟩ := mem_ready.1 hj
      have hnot : ∀ e ∈ oj.after, Region.binds md e = true → e.on ≠ i := fun e he hb heq => hun listed hr (by rw [← heq]; exact hall e he hb)
      have h2 := wpOp_putIf hoj (hfree j oj hoj hji hjun hnot) (fun cs b => hsel i oi cs b hi) (fun cs b => hsel j oj cs b hoj) hQ hy h1
      have hfree' : ∀ k ok, ops[k]? = some ok → k ≠ i → (listed.setIfInBounds j true).getD k true = false →
          (∀ e ∈ ok.after, Region.binds md e = true → e.on ≠ i) → oi.apart ops ok = true := fun k ok hk hki hun hno => by
        refine hfree k ok hk hki ?_ hno
        by_cases hjk : j = k
        · subst hjk; exact hjun
        · rw [getD_set_ne true hjk] at hun; exact hun
      refine wpOp_mono (fun a' w' h3 => ⟨h3.2.1, ih (listed.setIfInBounds j true) a' w' (hcl.step hoj hall) hfree' (ready_mono hr (Ne.symm hji)) h3.1 (h3.2.1 hej hS) ?_⟩) h2
      rw [Array.setIfInBounds_comm _ _ hji]
      exact h3.2.2
theorem wpAnyL_firstP {i : Nat} {oi : Oper} {v : Value} (hi : ops[i]? = some oi) (hsel : ∀ (j : Nat) (o : Oper) cs b, ops[j]? = some o → o.op ≠ .select cs b)
    (hQ : ∀ c a w, Q (.panic c) (a.put oi.dst v) w → Q (.panic c) a w) :
    ∀ (fuel : Nat) (listed : Array Bool) (a : Act) (w : World),
      (∀ j oj, ops[j]? = some oj → j ≠ i → listed.getD j true = false → (∀ e ∈ oj.after, Region.binds md e = true → e.on ≠ i) → oi.apart ops oj = true) →
      i ∈ Region.ready md ops listed → YieldsIf P ops (fun _ => True) oi v a →
      wpAnyL P md ops Q S late fuel (listed.setIfInBounds i true) (a.put oi.dst v) w → wpAnyL P md ops Q S late (fuel + 1) listed a w := by
  have hun : ∀ listed : Array Bool, i ∈ Region.ready md ops listed → listed.getD i false = true → False := fun listed hr h => by
    have h0 := (mem_ready.1 hr).1
    rw [Array.getD_eq_getD_getElem?] at h h0
    cases h1 : listed[i]? with
    | none => rw [h1] at h; cases h
    | some b => rw [h1] at h h0; simp only [Option.getD_some] at h h0; rw [h] at h0; cases h0
  intro fuel
  induction fuel with
  | zero =>
    intro listed a w _ hr hy H
    refine ⟨fun h => (by rw [h] at hr; cases hr), fun j hj => ?_⟩
    by_cases hji : j = i
    · subst hji; exact hy.wpOp hi trivial ⟨fun _ h => h, H⟩
    · have := ready_mono hj hji
      rw [H.1] at this
      cases this
  | succ fuel ih =>
    intro listed a w hfree hr hy H
    refine ⟨fun h => (by rw [h] at hr; cases hr), fun j hj => ?_⟩
    by_cases hji : j = i
    · subst hji; exact hy.wpOp hi trivial ⟨fun _ h => h, H⟩
    · have h1 := H.2 j (ready_mono hj hji)
      obtain ⟨hjun, oj, hoj, hall⟩ := mem_ready.1 hj
      have hnot : ∀ e ∈ oj.after, Region.binds md e = true → e.on ≠ i := fun e he hb heq => hun listed hr (by rw [← heq]; exact hall e he hb)
      have h2 := wpOp_putIf hoj (hfree j oj hoj hji hjun hnot) (fun cs b => hsel i oi cs b hi) (fun cs b => hsel j oj cs b hoj) hQ hy h1
      have hfree' : ∀ k ok, ops[k]? = some ok → k ≠ i → (listed.setIfInBounds j true).getD k true = false →
          (∀ e ∈ ok.after, Region.binds md e = true → e.on ≠ i) → oi.apart ops ok = true := fun k ok hk hki hun hno => by
        refine hfree k ok hk hki ?_ hno
        by_cases hjk : j = k
        · subst hjk; exact hjun
        · rw [getD_set_ne true hjk] at hun; exact hun
      refine wpOp_mono (fun a' w' h3 => ⟨h3.2.1, ih (listed.setIfInBounds j true) a' w' hfree' (ready_mono hr (Ne.symm hji)) h3.1 ?_⟩) h2
      rw [Array.setIfInBounds_comm _ _ hji]
      exact h3.2.2
theorem wpAnyL_takeP {i : Nat} {oi : Oper} {v : Value} {fuel : Nat} {listed : Array Bool} {a : Act} {w : World} (hi : ops[i]? = some oi)
    (hs : Region.noSelect ops = true) (hf : Region.free md ops listed i = true) (hr : (Region.ready md ops listed).contains i = true)
    (hQ : ∀ c a w, Q (.panic c) (a.put oi.dst v) w → Q (.panic c) a w) (hy : YieldsIf P ops (fun _ => True) oi v a)
    (h : wpAnyL P md ops Q S late fuel (listed.setIfInBounds i true) (a.put oi.dst v) w) : wpAnyL P md ops Q S late (fuel + 1) listed a w :=
  wpAnyL_firstP hi (Region.noSelect_spec hs) hQ fuel listed a w (Region.free_spec hi hf) (by simpa using hr) hy h
theorem wpAnyL_take {i : Nat} {oi : Oper} {v : Value} {fuel : Nat} {listed : Array Bool} {a : Act} {w : World} (hi : ops[i]? = some oi)
    (hs : Region.noSelect ops = true) (hf : Region.free md ops listed i = true) (hr : (Region.ready md ops listed).contains i = true)
    (hQ : ∀ c a w, Q (.panic c) (a.put oi.dst v) w → Q (.panic c) a w) (hy : YieldsIf P ops S oi v a) (hl : lateOk md ops late i = true) (hc : closedO md ops listed = true) (hS : S w)
    (h : wpAnyL P md ops Q S late fuel (listed.setIfInBounds i true) (a.put oi.dst v) w) : wpAnyL P md ops Q S late (fuel + 1) listed a w :=
  wpAnyL_first hi (Region.noSelect_spec hs) hQ hl fuel listed a w (closedO_spec hc) (Region.free_spec hi hf) (by simpa using hr) hy hS h
def AllReadyL (P : Program) (md : Region.Mode) (ops : Array Oper) (Q : Exit → Act → World → Prop) (S : World → Prop) (late : List Nat) (fuel : Nat) (listed : Array Bool) (a : Act) (w : World) (rs : List Nat) : Prop :=
  ∀ i ∈ rs, wpOp P ops Q i (fun a' w' => (late.contains i = false → S w → S w') ∧ wpAnyL P md ops Q S late fuel (listed.setIfInBounds i true) a' w') a w
theorem AllReadyL.nil {fuel : Nat} {listed : Array Bool} {a : Act} {w : World} : AllReadyL P md ops Q S late fuel listed a w [] := fun _ h => by cases h
theorem AllReadyL.cons {fuel : Nat} {listed : Array Bool} {a : Act} {w : World} {i : Nat} {o : Oper} {rs : List Nat} (ho : ops[i]? = some o)
    (h : ∀ K' : Act → World → Prop, Shut (∀ a w, S w → (S w → wpAnyL P md ops Q S late fuel (listed.setIfInBounds i true) a w) → K' a w) → if Region.wanted o (yielded ops a.tmps) = true then Oper.wp P o a w K' Q else K' (a.put o.dst undef) w)
    (hs : AllReadyL P md ops Q S late fuel listed a w rs) : AllReadyL P md ops Q S late fuel listed a w (i :: rs) := fun j hj => by
  rcases List.mem_cons.1 hj with rfl | hj
  · exact wpOp_step ho (fun K' hK => h K' (fun a w hS hW => hK a w ⟨fun _ _ => hS, hW hS⟩))
  · exact hs j hj
theorem AllReadyL.consL {fuel : Nat} {listed : Array Bool} {a : Act} {w : World} {i : Nat} {o : Oper} {rs : List Nat} (ho : ops[i]? = some o) (hl : late.contains i = true)
    (h : ∀ K' : Act → World → Prop, Shut (∀ a w, wpAnyL P md ops Q S late fuel (listed.setIfInBounds i true) a w → K' a w) → if Region.wanted o (yielded ops a.tmps) = true then Oper.wp P o a w K' Q else K' (a.put o.dst undef) w)
    (hs : AllReadyL P md ops Q S late fuel listed a w rs) : AllReadyL P md ops Q S late fuel listed a w (i :: rs) := fun j hj => by
  rcases List.mem_cons.1 hj with rfl | hj
  · exact wpOp_step ho (fun K' hK => h K' (fun a w hW => hK a w ⟨fun h0 => (Bool.noConfusion (hl.symm.trans h0)), hW⟩))
  · exact hs j hj
theorem wpAnyL_ready {rs : List Nat} {fuel : Nat} {listed : Array Bool} {a : Act} {w : World} (hr : Region.ready md ops listed = rs) (hne : rs ≠ [])
    (h : AllReadyL P md ops Q S late fuel listed a w rs) : wpAnyL P md ops Q S late (fuel + 1) listed a w := by
  refine ⟨fun h0 => absurd (hr.symm.trans h0) hne, ?_⟩
  rw [hr]
  exact h
theorem wpAnyL_done {listed : Array Bool} {a : Act} {w : World} (hr : Region.ready md ops listed = []) (h : Q .normal a w) : ∀ fuel, wpAnyL P md ops Q S late fuel listed a w
  | 0 => ⟨hr, h⟩
  | _ + 1 => ⟨fun _ => h, by rw [hr]; simp⟩
theorem wp_region_late_drew (late : List Nat) {id : Nat} {a : Act} {w : World} (hm : P.follows .mixedOrders = true) (hS : S w.drew)
    (h : S w.drew → wpAnyL P .any ops Q S late ops.size (Array.replicate ops.size false) a w.drew) : (Code.region id ops true).wp P Q a w :=
  wp_region_any hm (wpAny_of_late _ _ _ _ (h hS))
end
end Go.Proofs.YtbnbjiddffihoaaGreatDoor

/- Crash, of the package redundant and of its reference. -/
namespace Go.Proofs.YtbnbjiddffihoaaGreatDoor
open Go.RowKit

abbrev OwnPr (base : Nat) (w : World) (v : Value) (qs : List PQ) (P : List Pr) : Prop := OwnP 45 3 49 base w v qs P
def PlPost (P : List Pr) (w : World) (e : Ending) (w' : World) : Prop := ∃ v qs, e = .returned v ∧ OwnPr w.heap.size w' v qs P ∧ Ex w w'
theorem OwnP.app {eP eI eN : TypeId} (hI : eP ≠ eI) (hN : eP ≠ eN) {base : Nat} {w0 w1 w2 : World} {v v' : Value} {qs : List PQ} {P : List Pr} {p : Pr} {hk hn : Hdr} (h : OwnP eP eI eN base w0 v qs P) (hb : base ≤ w0.heap.size) (kk : Ex w0 w1)
    (ik : OwnL 1 encI eI w0.heap.size w1 hk.val p.known) (inr : OwnL 4 encNr eN w0.heap.size w1 hn.val p.near)
    (ho : OwnW 5 encQ eP base w2 v' (qs ++ [(p.nums, hk, hn)])) (k : Chg (fun k => k < w1.heap.size ∧ ¬ v.ownBlock = some k) w1 w2) : OwnP eP eI eN base w2 v' (qs ++ [(p.nums, hk, hn)]) (P ++ [p]) := by
  refine (h.nx kk).push hI hN ho k (ik.base hb) (inr.base hb) (fun j r g hr hg hv => ?_) (fun j r g hr hg hv => ?_)
  · obtain ⟨q, _, _, r2, _⟩ := h.getp hr
    have h1 := (r2.lt g hg).2
    have h2 := (ik.lt g hv).1
    omega
  · obtain ⟨q, _, _, _, r3⟩ := h.getp hr
    have h1 := (r3.lt g hg).2
    have h2 := (inr.lt g hv).1
    omega
theorem PL.rd {w : World} {a : Option Addr} {n : Nat} {P : List Pr} (h : PL w a n P) {j : Nat} (hj : j < n) :
    ∃ (x o : Nat) (a1 : Option Addr) (n1 c1 : Nat) (a2 : Option Addr) (n2 c2 : Nat) (p : Pr), a = some ⟨x, o, none⟩ ∧ x < w.heap.size ∧ P[j]? = some p ∧ w.cell? ⟨x, o + j * 5, none⟩ = some (.int .i64 p.id) ∧ w.cell? ⟨x, o + j * 5 + 1, none⟩ = some (.slice a1 n1 c1) ∧
      w.cell? ⟨x, o + j * 5 + 1 + 1, none⟩ = some (.int .i64 p.left) ∧ w.cell? ⟨x, o + j * 5 + 1 + 1 + 1, none⟩ = some (.int .i64 p.right) ∧ w.cell? ⟨x, o + j * 5 + 1 + 1 + 1 + 1, none⟩ = some (.slice a2 n2 c2) ∧ Sl 1 encI w a1 n1 p.known ∧ Sl 4 encNr w a2 n2 p.near := by
  obtain ⟨x, o, a1, n1, c1, a2, n2, c2, p, e1, e2, e3, e4, e5, e6⟩ := h.at hj
  exact ⟨x, o, a1, n1, c1, a2, n2, c2, p, e1, e2, e3, e4 0 _ rfl, e4 1 _ rfl, e4 2 _ rfl, e4 3 _ rfl, e4 4 _ rfl, e5, e6⟩
def SmallP (P : List Pr) : Prop := ∀ p ∈ P, p.known.length ≤ 17592186044416 ∧ p.near.length ≤ 4398046511104
theorem OwnP.row {eP eI eN : TypeId} {base : Nat} {w : World} {v : Value} {qs : List PQ} {P : List Pr} (h : OwnP eP eI eN base w v qs P) : OwnW 5 encQ eP base w v qs := h.1
theorem encQ_one (q : PQ) : ∀ u ∈ encQ q, u.oneCell' = true := by
  intro u hu
  simp only [encQ, List.mem_cons, List.not_mem_nil, or_false] at hu
  rcases hu with rfl | rfl | rfl | rfl | rfl <;> rfl
end Go.Proofs.YtbnbjiddffihoaaGreatDoor

/- A map from numbers to slices that the call itself has made: what lies at each key, as it stands; and the entry that is taken before it is stored. -/
namespace Go.Proofs.YtbnbjiddffihoaaGreatDoor
open Go.RowKit Go.Maps
open Go.ChangeMaps Go.MapKept
open Go.WideElems (Fit findIdx_born findIdx_arr modify_last set_self)

def rawR (v : Value) : Option (DataW Value × List MemPlace) := some (.held v, [])
abbrev nilS : Value := .slice none 0 0
def RawM (P : Program) (k : TypeId) (w : World) (b n : Nat) (f : Int → Value) : Prop :=
  ∃ D, w.ownsMap P k rawR b n D ∧ ∀ v, D.atKey (keyI v) (.held nilS) = .held (f v)
def upd (f : Int → Value) (v : Int) (u : Value) : Int → Value := fun x => if x = v then u else f x
section
variable {P : Program} {k e t : TypeId} {w w' : World} {b n : Nat} {f : Int → Value}
theorem RawM.made (w : World) (P : Program) (k : TypeId) : RawM P k (w.alloc (.map #[] 0)) w.heap.size 0 (fun _ => nilS) := ⟨_, World.ownsMap_made _ _ _ _, fun _ => rfl⟩
theorem RawM.lt (h : RawM P k w b n f) : b < w.heap.size := by obtain ⟨D, h, _⟩ := h; exact World.ownsMap.lt h
theorem RawM.same (h : RawM P k w b n f) (hh : w'.heap[b]? = w.heap[b]?) : RawM P k w' b n f := by
  obtain ⟨D, ⟨es, clock, hb, r⟩, hf⟩ := h
  exact ⟨D, ⟨es, clock, hh.trans hb, r⟩, hf⟩
theorem RawM.nx (h : RawM P k w b n f) (kk : Ex w w') : RawM P k w' b n f := h.same (kk.block b h.lt)
theorem RawM.nxb {c : Nat} (h : RawM P k w b n f) (hc : b ≠ c) (kk : Exb c w w') : RawM P k w' b n f := h.same (kk.block b ⟨h.lt, hc⟩)
theorem RawM.get (h : RawM P k w b n f) (hk : P.underlying k = some (.int .i64)) (ht : P.underlying t = some (.map k e)) (hz : (zeroValue e).run P w = .ok nilS w) {v : Int} (hv : (Lit.int .i64 v).wf = true) :
    (Instr.lookup t (.map (some b)) (.int .i64 v) false).run P w = .ok (f v) w := by
  obtain ⟨D, h, hf⟩ := h
  obtain ⟨u, ps, hrun, hR⟩ := World.ownsMap.lookup (t := t) (e := e) h (int_keyed hk) ht hz (zd := .held nilS) (zp := []) rfl (keyOf_int_mk hk hv)
  rw [hf] at hR
  unfold rawR at hR
  simp only [Option.some.injEq, Prod.mk.injEq, DataW.held.injEq] at hR
  rw [hrun, hR.1]
theorem raw_put {D : DataW Value} (hD : IsMap D) (hf : ∀ v, D.atKey (keyI v) (.held nilS) = .held (f v)) (v : Int) (u : Value) : ∀ x, (D.put (keyI v) (.held u)).atKey (keyI x) (.held nilS) = .held (upd f v u x) := by
  intro x
  unfold upd
  by_cases hx : x = v
  · subst hx
    rw [atKey_put_same hD (key_lit x), if_pos rfl]
  · rw [atKey_put_other (by simpa [keyI] using hx), hf, if_neg hx]
theorem RawM.put (h : RawM P k w b n f) (hk : P.underlying k = some (.int .i64)) (ht : P.underlying t = some (.map k e)) (hn : n < 100000000) {v : Int} (hv : (Lit.int .i64 v).wf = true) (u : Value) :
    ∃ w', (Instr.mapUpdate t (.map (some b)) (.int .i64 v) u).run P w = .ok () w' ∧ RawM P k w' b (n + 1) (upd f v u) ∧ Exb b w w' ∧ w'.heap.size = w.heap.size := by
  obtain ⟨D, h, hf⟩ := h
  obtain ⟨w', hrun, ho, ht'⟩ := World.ownsMap.store (t := t) (e := e) (val := u) (d := .held u) (ps := []) h (int_keyed hk) ht (by unfold maxLen; omega) (keyOf_int_mk hk hv) rfl
  refine ⟨w', hrun, ⟨_, ho, raw_put h.isMap hf v u⟩, turned_exb ht', ?_⟩
  obtain ⟨es, clock, es', clock', hb, rfl⟩ := ht'
  simp [Go.ChangeMaps.setBlock]
theorem RawM.entry (h : RawM P k w b n f) (hk : P.underlying k = some (.int .i64)) (ht : P.underlying t = some (.map k e)) (hz : ∀ u : World, (zeroValue e).run P u = .ok nilS u) (hn : n < 100000000) {v : Int} (hv : (Lit.int .i64 v).wf = true) :
    ∃ (v0 : Value) (st : Nat) (w1 : World), (Instr.mapEntry t (.map (some b)) (.int .i64 v)).run P w = .ok (.tuple #[v0, goInt st]) w1 ∧ Exb b w w1 ∧ w1.heap.size = w.heap.size ∧
      ∀ (w2 : World) (u : Value), w2.heap[b]? = w1.heap[b]? → ∃ w3, (Instr.entryStore t (.map (some b)) (goInt st) u).run P w2 = .ok () w3 ∧ RawM P k w3 b (n + 1) (upd f v u) ∧ Exb b w2 w3 ∧ w3.heap.size = w2.heap.size := by
  have K := int_keyed (P := P) hk
  have hkey := keyOf_int_mk (P := P) hk hv
  obtain ⟨D, ⟨es, clock, hb, F, hs, hD⟩, hf⟩ := h
  have hM : RawM P k w b n f := ⟨D, ⟨es, clock, hb, F, hs, hD⟩, hf⟩
  obtain ⟨s1, s2, _⟩ := F.stamped
  have fin : ∀ (es1 : Array MapEntry) (c1 : Nat) (w2 : World) (u : Value) (es' : Array MapEntry) (c' : Nat), (setBlock w b (.map es1 c1)).heap[b]? = w2.heap[b]? →
      (Instr.mapUpdate t (.map (some b)) (.int .i64 v) u).run P w = .ok () (setBlock w b (.map es' c')) → RawM P k (setBlock w2 b (.map es' c')) b (n + 1) (upd f v u) ∧ Exb b w2 (setBlock w2 b (.map es' c')) ∧ (setBlock w2 b (.map es' c')).heap.size = w2.heap.size := by
    intro es1 c1 w2 u es' c' hw2 hrun
    obtain ⟨w', hrun', hM', _, _⟩ := hM.put hk ht hn hv u
    rw [hrun] at hrun'
    cases hrun'
    have h2 : w2.heap[b]? = some (.map es1 c1) := hw2.symm.trans (heap_setBlock_same hb _)
    refine ⟨hM'.same ((heap_setBlock_same h2 _).trans (heap_setBlock_same hb _).symm), turned_exb ⟨es1, c1, es', c', h2, rfl⟩, by simp [setBlock]⟩
  rcases K.find w hkey es.toList F.keys with ⟨h1, h2⟩ | ⟨j, e0, h1, h2, h3⟩
  · refine ⟨nilS, clock, setBlock w b (.map (es.push ⟨.int .i64 v, nilS, clock⟩) (clock + 1)), ?_, turned_exb ⟨es, clock, _, _, hb, rfl⟩, by simp [setBlock], fun w2 u hw2 => ⟨setBlock w2 b (.map (es.push ⟨.int .i64 v, u, clock⟩) (clock + 1)), ?_, fin _ _ w2 u _ _ hw2.symm ?_⟩⟩
    · simp [Instr.mapEntry, run_underlying ht, MapKept.run_getObj_map hb, K.check w false hkey, h1, hz, MapKept.run_setObj_map _ hb, Result.andThen, setBlock]
    · have hw2 : w2.heap[b]? = some (.map (es.push ⟨.int .i64 v, nilS, clock⟩) (clock + 1)) := hw2.trans (heap_setBlock_same hb _)
      have hidx : (es.push ⟨.int .i64 v, nilS, clock⟩).findIdx? (fun e => ((e.born : Nat) : Int) == ((clock : Nat) : Int)) = some es.size := by
        rw [findIdx_arr]
        refine findIdx_born (l := (es.push ⟨.int .i64 v, nilS, clock⟩).toList) (j := es.size) (e0 := ⟨.int .i64 v, nilS, clock⟩) ?_ (by simp)
        simp only [Array.toList_push, List.map_append, List.map_cons, List.map_nil]
        refine List.nodup_append.2 ⟨s2, by simp, fun a ha c hc e1 => ?_⟩
        simp only [List.mem_singleton] at hc
        obtain ⟨x, hx, rfl⟩ := List.mem_map.1 ha
        have := s1 x hx
        omega
      have hmod : (es.push ⟨.int .i64 v, nilS, clock⟩).modify es.size (fun e => { e with val := u }) = es.push ⟨.int .i64 v, u, clock⟩ := by
        apply Array.ext'
        rw [Array.toList_modify, Array.toList_push, Array.toList_push, ← Array.length_toList, modify_last]
      simp [Instr.entryStore, MapKept.run_getObj_map hw2, asInt, asIntOf, goInt, hidx, hmod, MapKept.run_setObj_map _ hw2, Result.andThen, setBlock]
    · simp [Instr.mapUpdate, run_underlying ht, MapKept.run_getObj_map hb, K.check w false hkey, h1, MapKept.run_setObj_map _ hb, Result.andThen, setBlock]
  · have hj : es[j]? = some e0 := by simpa using h2
    have hsame : es.modify j (fun e => { e with key := .int .i64 v }) = es := by
      apply Array.ext'
      rw [Array.toList_modify, modify_eq_set _ _ _ _ h2]
      have : ({ e0 with key := .int .i64 v } : MapEntry) = e0 := by rw [← h3]
      rw [this]
      exact set_self _ _ _ h2
    refine ⟨e0.val, e0.born, setBlock w b (.map es clock), ?_, turned_exb ⟨es, clock, _, _, hb, rfl⟩, by simp [setBlock], fun w2 u hw2 => ⟨setBlock w2 b (.map (es.modify j (fun e' => { e' with key := .int .i64 v, val := u })) clock), ?_, fin _ _ w2 u _ _ hw2.symm ?_⟩⟩
    · simp [Instr.mapEntry, run_underlying ht, MapKept.run_getObj_map hb, K.check w false hkey, h1, hj, h3, K.stays w hkey, hsame, MapKept.run_setObj_map _ hb, Result.andThen, setBlock]
    · have hw2 : w2.heap[b]? = some (.map es clock) := hw2.trans (heap_setBlock_same hb _)
      have hidx : es.findIdx? (fun e => ((e.born : Nat) : Int) == ((e0.born : Nat) : Int)) = some j := by
        rw [findIdx_arr]
        exact findIdx_born s2 h2
      have hmod : es.modify j (fun e => { e with val := u }) = es.modify j (fun e' => { e' with key := .int .i64 v, val := u }) := by
        apply Array.ext'
        rw [Array.toList_modify, Array.toList_modify, modify_eq_set _ _ _ _ h2, modify_eq_set _ _ _ _ h2, ← h3]
      simp [Instr.entryStore, MapKept.run_getObj_map hw2, asInt, asIntOf, goInt, hidx, hmod, MapKept.run_setObj_map _ hw2, Result.andThen, setBlock]
    · simp [Instr.mapUpdate, run_underlying ht, MapKept.run_getObj_map hb, K.check w false hkey, h1, hj, h3, K.stays w hkey, MapKept.run_setObj_map _ hb, Result.andThen, setBlock]
end
end Go.Proofs.YtbnbjiddffihoaaGreatDoor

/- A row of numbers of the call's own, of which the first ones may be cut off: append behind, take in front. -/
namespace Go.Proofs.YtbnbjiddffihoaaGreatDoor
open Go.RowKit

def QuL (e : TypeId) (base : Nat) (w : World) (v : Value) (l : List Int) : Prop :=
  (v = .slice none 0 0 ∧ l = []) ∨ ∃ (g o cap : Nat) (cur : Array Value), v = .slice (some ⟨g, o, none⟩) l.length cap ∧ base ≤ g ∧ w.heap[g]? = some (.cells cur e (0, 0)) ∧ l.length ≤ cap ∧ cap ≤ maxLen ∧ o + cap ≤ cur.size ∧ (cur.toList.drop o).take l.length = l.flatMap encI
section
variable {e : TypeId} {base : Nat} {w w' : World} {v : Value} {l : List Int}
theorem flatI_len (l : List Int) : (l.flatMap encI).length = l.length := by
  induction l with
  | nil => rfl
  | cons x l ih => rw [List.flatMap_cons, List.length_append, ih, List.length_cons, show (encI x).length = 1 from rfl]; omega
theorem flatI_map (l : List Int) : l.flatMap encI = l.map (Value.int .i64) := by
  induction l with
  | nil => rfl
  | cons y r ih => rw [List.flatMap_cons, ih]; rfl
theorem QuL.chg (h : QuL e base w v l) {S : Nat → Prop} (k : Chg S w w') (hs : ∀ k, k < w.heap.size → v.ownBlock = some k → S k) : QuL e base w' v l := by
  rcases h with h | ⟨g, o, cap, cur, rfl, hb, hg, rest⟩
  · exact .inl h
  · exact .inr ⟨g, o, cap, cur, rfl, hb, (k.block g (hs g (heap_lt hg) rfl)).trans hg, rest⟩
theorem QuL.nx (h : QuL e base w v l) (k : Ex w w') : QuL e base w' v l := h.chg k (fun _ hk _ => hk)
theorem QuL.lt (h : QuL e base w v l) {g : Nat} (hg : v.ownBlock = some g) : base ≤ g ∧ g < w.heap.size := by
  rcases h with ⟨rfl, _⟩ | ⟨g', o, cap, cur, rfl, hb, hh, _⟩
  · cases hg
  · cases hg
    exact ⟨hb, heap_lt hh⟩
theorem QuL.nxb {b : Nat} (h : QuL e base w v l) (hb : b < base) (k : Exb b w w') : QuL e base w' v l := h.chg k (fun x hx hv => ⟨hx, by have := (h.lt hv).1; omega⟩)
theorem QuL.front {x : Int} (h : QuL e base w v (x :: l)) : ∃ g o cap, v = .slice (some ⟨g, o, none⟩) (l.length + 1) cap ∧ g < w.heap.size ∧ base ≤ g ∧ 1 ≤ cap ∧ l.length + 1 ≤ cap ∧ w.cell? ⟨g, o, none⟩ = some (.int .i64 x) ∧
    QuL e base w (.slice (some (if cap = 1 then ⟨g, o, none⟩ else ⟨g, o + 1, none⟩)) l.length (cap - 1)) l := by
  rcases h with ⟨_, h⟩ | ⟨g, o, cap, cur, rfl, hb, hg, h1, h2, h3, h4⟩
  · cases h
  · have h1' : l.length + 1 ≤ cap := by simpa using h1
    have hc : cur.toList[o]? = some (.int .i64 x) := by
      have := congrArg (fun L : List Value => L[0]?) h4
      simpa [List.getElem?_take, List.getElem?_drop, encI] using this
    refine ⟨g, o, cap, by simp, heap_lt hg, hb, by omega, h1', ?_, ?_⟩
    · have : cur[o]? = some (.int .i64 x) := by simpa using hc
      simp [World.cell?, hg, this]
    · have h5 : (cur.toList.drop (o + 1)).take l.length = l.flatMap encI := by
        have hd : cur.toList.drop o = .int .i64 x :: cur.toList.drop (o + 1) := by
          obtain ⟨hlt, he⟩ := List.getElem?_eq_some_iff.1 hc
          rw [List.drop_eq_getElem_cons hlt, he]
        rw [hd, List.length_cons, List.take_succ_cons, List.flatMap_cons] at h4
        exact (List.cons.inj h4).2
      by_cases hcap : cap = 1
      · have hl0 : l = [] := List.eq_nil_of_length_eq_zero (by omega)
        subst hl0
        rw [if_pos hcap]
        exact .inr ⟨g, o, cap - 1, cur, by simp, hb, hg, by simp, by omega, by omega, by simp⟩
      · rw [if_neg hcap]
        exact .inr ⟨g, o + 1, cap - 1, cur, by simp, hb, hg, by omega, by omega, by omega, h5⟩
theorem QuL.append {P : Program} (h : QuL e base w v l) (t ty : TypeId) {z : Value} {bytes : Nat} (ht : P.underlying t = some (.slice e)) (hi : (P.info? e).map (fun i => (i.zero, i.size, i.bytes)) = some (some z, 1, bytes)) (hzs : z.cells.size = 1) (hby : bytes ≤ 65536)
    {S : Nat → Prop} {A : Option Addr} {n c : Nat} {news : List Int} (hrd : Rd 1 encI S w A n news) (hA : A = none → c = 0) (hl : l.length ≤ 100000000) (hn : n ≤ 100000000) (hbase : base ≤ w.heap.size) :
    ∃ v' w', (Builtin.append_ #[t, t] ty #[v, .slice A n c]).run P w = .ok v' w' ∧ QuL e base w' v' (l ++ news) ∧ Chg (fun k => k < w.heap.size ∧ ¬ v.ownBlock = some k) w w' ∧ Chg (· < base) w w' ∧ (v'.ownBlock = v.ownBlock ∨ v'.ownBlock = some w.heap.size) := by
  obtain ⟨i, hi, hz0, hz1, hz2⟩ := info_parts hi
  have hmul : (l.length + n) * bytes ≤ 200000000 * 65536 := Nat.mul_le_mul (by omega) hby
  have hnl := hrd.1
  have nothing : news = [] → (Builtin.append_ #[t, t] ty #[v, .slice A n c]).run P w = .ok v w → ∃ v' w', (Builtin.append_ #[t, t] ty #[v, .slice A n c]).run P w = .ok v' w' ∧ QuL e base w' v' (l ++ news) ∧ Chg (fun k => k < w.heap.size ∧ ¬ v.ownBlock = some k) w w' ∧ Chg (· < base) w w' ∧ (v'.ownBlock = v.ownBlock ∨ v'.ownBlock = some w.heap.size) :=
    fun hnews hrun => ⟨v, w, hrun, by rw [hnews]; simpa using h, Chg.refl _ _, Chg.refl _ _, .inl rfl⟩
  by_cases hn0 : n = 0
  · subst hn0
    have hnews : news = [] := List.eq_nil_of_length_eq_zero hnl
    refine nothing hnews ?_
    rcases h with ⟨rfl, _⟩ | ⟨g, o, cap, cur, rfl, _, _, hnc, _⟩
    · cases A <;> simp [Builtin.append_, run_underlying ht, sizeOf, typeInfo, hi, Builtin.lenOf, Builtin.firstCells, loadCells, loadCellsFrom]
    · cases A <;> simp [Builtin.append_, run_underlying ht, sizeOf, typeInfo, hi, Builtin.lenOf, Builtin.firstCells, hnc, storeCells, loadCells, loadCellsFrom]
  · obtain ⟨ad, rfl, hcells⟩ : ∃ ad, A = some ad ∧ ∀ j u, (news.flatMap encI)[j]? = some u → w.cell? (ad.add j) = some u := by
      rcases hrd.2 with h0 | ⟨x, o, rfl, hx, hc⟩
      · exact absurd h0 hn0
      · refine ⟨_, rfl, fun j u hu => ?_⟩
        have hflat := flatI_map news
        rw [hflat, List.getElem?_map] at hu
        cases hy : news[j]? with
        | none => rw [hy] at hu; cases hu
        | some y =>
          rw [hy] at hu
          cases hu
          have := hc j y hy 0 _ rfl
          have hadd : (⟨x, o, none⟩ : Addr).add j = ⟨x, o + j, none⟩ := by unfold Addr.add; split <;> simp_all
          rw [hadd]
          simpa using this
    have hfl : (news.flatMap encI).length = n * i.size := by rw [flatI_len, hz1, hnl, Nat.mul_one]
    have h1f : ∀ u ∈ news.flatMap encI, u.oneCell' = true := by
      intro u hu
      obtain ⟨y, _, hy⟩ := List.mem_flatMap.1 hu
      simp only [encI, List.mem_singleton] at hy
      subst hy
      rfl
    have fresh : ∀ (old : Nat), old < l.length + n →
        QuL e base (w.drew.alloc (.cells ((l.flatMap encI).toArray ++ (news.flatMap encI).toArray ++ Builtin.zeroCells z.cells (grownCap w (l.length + n) old e - (l.length + n))) e)) (.slice (some ⟨w.heap.size, 0, none⟩) (l.length + n) (grownCap w (l.length + n) old e)) (l ++ news) := by
      intro old ho
      have hge := grownCap_ge w (l.length + n) old e
      have hcm : grownCap w (l.length + n) old e ≤ maxLen := grownCap_le_maxLen w (l.length + n) old e (by unfold maxLen; omega)
      refine .inr ⟨w.heap.size, 0, _, _, by rw [List.length_append, hnl], hbase, heap_alloc_new w.drew _, by rw [List.length_append, hnl]; exact hge, hcm, ?_, ?_⟩
      · simp only [Array.size_append, List.size_toArray, size_zeroCells, hzs, flatI_len, hnl]
        omega
      · simp only [Array.toList_append, List.append_assoc, List.drop_zero]
        rw [← List.append_assoc, ← List.flatMap_append, ← flatI_len (l ++ news)]
        exact List.take_left
    have hex : ∀ o : Obj, Ex w (w.drew.alloc o) := fun o => ⟨rfl, rfl, rfl, by simp, fun k hk => heap_alloc_old w.drew _ hk⟩
    rcases h with ⟨rfl, rfl⟩ | ⟨g, o, cap, cur, rfl, hb, hg, h1, h2, h3, h4⟩
    · have hr := run_append_nil (P := P) w t ty e i z ht hi hz0 ad n c (news.flatMap encI) hfl hcells (by omega) (by omega) (by rw [hz2]; simp only [List.length_nil, Nat.zero_add] at hmul; omega)
      have hf := fresh 0 (by simp; omega)
      simp only [List.length_nil, Nat.zero_add, List.flatMap_nil, List.nil_append] at hf ⊢
      refine ⟨_, _, hr, by simpa using hf, (hex _).mono fun k hk => hk.1, (hex _).mono fun k (hk : k < base) => by show k < w.heap.size; omega, .inr rfl⟩
    · by_cases hroom : l.length + n ≤ cap
      · have hfc := run_firstCells_some (P := P) w i.size n ad n c (news.flatMap encI) hfl hcells
        have hst := run_storeCells_at P g (o + l.length) e (news.flatMap encI) 0 cur w hg (by rw [flatI_len, hnl]; omega) h1f
        simp only [Nat.add_zero] at hst
        have hadd : (⟨g, o, none⟩ : Addr).add (l.length * i.size) = ⟨g, o + l.length, none⟩ := by rw [hz1, Nat.mul_one]; unfold Addr.add; split <;> simp_all
        refine ⟨.slice (some ⟨g, o, none⟩) (l.length + n) cap, w.setRow g (cur.toList.take (o + l.length) ++ news.flatMap encI ++ cur.toList.drop (o + l.length + (news.flatMap encI).length)).toArray, ?_, .inr ⟨g, o, cap, _, by rw [List.length_append, hnl], hb, setRow_heap w g cur _ e _ hg, by rw [List.length_append, hnl]; exact hroom, h2, ?_, ?_⟩, ⟨rfl, rfl, rfl, by simp [World.setRow], fun k hk => setRow_other w g k _ (fun he => hk.2 (by rw [he]; rfl))⟩, ⟨rfl, rfl, rfl, by simp [World.setRow], fun k (hk : k < base) => setRow_other w g k _ (by omega)⟩, .inl rfl⟩
        · simp [Builtin.append_, run_underlying ht, sizeOf, typeInfo, hi, Builtin.lenOf, hroom, hfc, hadd, hst]
        · simp only [List.size_toArray, List.length_append, List.length_take, List.length_drop, Array.length_toList, flatI_len, hnl]
          omega
        · rw [List.flatMap_append, ← h4, List.length_append, hnl]
          have hsz : o + l.length ≤ cur.toList.length := by simp; omega
          simp only [List.append_assoc]
          rw [List.drop_append_of_le_length (by rw [List.length_take]; omega), List.drop_take, show o + l.length - o = l.length by omega, ← List.append_assoc]
          rw [List.take_append_of_le_length (by rw [List.length_append, List.length_take, List.length_drop, flatI_len, hnl]; omega)]
          rw [List.take_of_length_le (by rw [List.length_append, List.length_take, List.length_drop, flatI_len, hnl]; omega)]
      · have holds : ∀ j u, (l.flatMap encI)[j]? = some u → w.cell? ((⟨g, o, none⟩ : Addr).add j) = some u := by
          intro j u hu
          have hadd : (⟨g, o, none⟩ : Addr).add j = ⟨g, o + j, none⟩ := by unfold Addr.add; split <;> simp_all
          rw [hadd]
          rw [← h4, List.getElem?_take] at hu
          split at hu
          · rw [List.getElem?_drop] at hu
            have : cur[o + j]? = some u := by simpa using hu
            simp [World.cell?, hg, this]
          · cases hu
        have hr := run_append_grow (P := P) w t ty e i z ht hi hz0 ⟨g, o, none⟩ l.length cap (l.flatMap encI) (by rw [flatI_len, hz1, Nat.mul_one]) holds ad n c (news.flatMap encI) hfl hcells (by omega) (by omega) (growslice_fits (by omega) (by rw [hz2]; omega))
        exact ⟨_, _, hr, fresh cap (by omega), (hex _).mono fun k hk => hk.1, (hex _).mono fun k (hk : k < base) => by show k < w.heap.size; omega, .inr rfl⟩
end
end Go.Proofs.YtbnbjiddffihoaaGreatDoor

/- Groups of numbers: a map from numbers to rows of numbers, which the call itself has made. -/
namespace Go.Proofs.YtbnbjiddffihoaaGreatDoor
open Go.RowKit

def GrpM (P : Program) (k e : TypeId) (base : Nat) (w : World) (b n : Nat) (f : Int → Value) (J : Int → List Int) : Prop :=
  RawM P k w b n f ∧ b < base ∧ base ≤ w.heap.size ∧ (∀ v, OwnL 1 encI e base w (f v) (J v)) ∧ ∀ v v' g, v ≠ v' → (f v).ownBlock = some g → ¬ (f v').ownBlock = some g
section
variable {P : Program} {k e : TypeId} {base : Nat} {w w' : World} {b n : Nat} {f : Int → Value} {J : Int → List Int}
theorem GrpM.made (w : World) (P : Program) (k e : TypeId) : GrpM P k e (w.heap.size + 1) (w.alloc (.map #[] 0)) w.heap.size 0 (fun _ => nilS) (fun _ => []) :=
  ⟨RawM.made w P k, by omega, by simp, fun _ => OwnL.nil _ _ _ _ _, fun _ _ _ _ h => by cases h⟩
theorem GrpM.nx (h : GrpM P k e base w b n f J) (kk : Ex w w') : GrpM P k e base w' b n f J :=
  ⟨h.1.nx kk, h.2.1, Nat.le_trans h.2.2.1 kk.size, fun v => (h.2.2.2.1 v).nx kk, h.2.2.2.2⟩
theorem GrpM.nxb {c : Nat} (h : GrpM P k e base w b n f J) (hc : c < base) (hb : b ≠ c) (kk : Exb c w w') : GrpM P k e base w' b n f J :=
  ⟨h.1.nxb hb kk, h.2.1, Nat.le_trans h.2.2.1 kk.size, fun v => (h.2.2.2.1 v).nxb hc kk, h.2.2.2.2⟩
theorem GrpM.row (h : GrpM P k e base w b n f J) (v : Int) : OwnL 1 encI e base w (f v) (J v) := h.2.2.2.1 v
def grp2 (J : Int → List Int) (x y : Int) : Int → List Int := fun v => if v = y then J y ++ [x] else if v = x then J x ++ [y] else J v
theorem GrpM.two (h : GrpM P k e base w b n f J) {x y : Int} (hxy : x ≠ y) {w1 w2 w3 : World} {a' c' : Value} {n' : Nat}
    (A : OwnL 1 encI e base w1 a' (J x ++ [y])) (k1 : Chg (fun k => k < w.heap.size ∧ ¬ (f x).ownBlock = some k) w w1) (la : ∀ g, a'.ownBlock = some g → (f x).ownBlock = some g ∨ w.heap.size ≤ g)
    (C : OwnL 1 encI e base w2 c' (J y ++ [x])) (k2 : Chg (fun k => k < w1.heap.size ∧ ¬ (f y).ownBlock = some k) w1 w2) (lc : ∀ g, c'.ownBlock = some g → (f y).ownBlock = some g ∨ w1.heap.size ≤ g)
    (k3 : Exb b w2 w3) (R : RawM P k w3 b n' (upd (upd f x a') y c')) : GrpM P k e base w3 b n' (upd (upd f x a') y c') (grp2 J x y) := by
  obtain ⟨h1, hb, hs, hO, hd⟩ := h
  have s1 := k1.size
  have s2 := k2.size
  have s3 := k3.size
  have A2 : OwnL 1 encI e base w2 a' (J x ++ [y]) := A.chg k2 fun g hg hv => ⟨hg, fun hy => by
    rcases la g hv with h2 | h2
    · exact hd x y g hxy h2 hy
    · have := ((hO y).lt g hy).2; omega⟩
  have blk : ∀ v g, v ≠ x → v ≠ y → (f v).ownBlock = some g → g < w.heap.size := fun v g _ _ hv => ((hO v).lt g hv).2
  refine ⟨R, hb, by omega, fun v => ?_, fun v v' g hne hv hv' => ?_⟩
  · unfold upd grp2
    by_cases hvy : v = y
    · rw [if_pos hvy, if_pos hvy]
      exact C.nxb hb k3
    · rw [if_neg hvy, if_neg hvy]
      by_cases hvx : v = x
      · rw [if_pos hvx, if_pos hvx]
        exact A2.nxb hb k3
      · rw [if_neg hvx, if_neg hvx]
        have O1 : OwnL 1 encI e base w1 (f v) (J v) := (hO v).chg k1 fun g hg hv => ⟨hg, hd v x g hvx hv⟩
        have O2 : OwnL 1 encI e base w2 (f v) (J v) := O1.chg k2 fun g hg hv => ⟨hg, hd v y g hvy hv⟩
        exact O2.nxb hb k3
  · unfold upd at hv hv'
    have ca : ∀ g, a'.ownBlock = some g → c'.ownBlock = some g → False := by
      intro g ha hc
      rcases la g ha with h2 | h2
      · rcases lc g hc with h3 | h3
        · exact hd x y g hxy h2 h3
        · have := ((hO x).lt g h2).2; omega
      · rcases lc g hc with h3 | h3
        · have := ((hO y).lt g h3).2; omega
        · have := (A.lt g ha).2; omega
    have ov : ∀ u g, u ≠ x → u ≠ y → (f u).ownBlock = some g → ¬ a'.ownBlock = some g ∧ ¬ c'.ownBlock = some g := by
      intro u g hux huy hu
      refine ⟨fun ha => ?_, fun hc => ?_⟩
      · rcases la g ha with h2 | h2
        · exact hd u x g hux hu h2
        · have := ((hO u).lt g hu).2; omega
      · rcases lc g hc with h2 | h2
        · exact hd u y g huy hu h2
        · have := ((hO u).lt g hu).2; omega
    by_cases hvy : v = y
    · rw [if_pos hvy] at hv
      rw [if_neg (by omega)] at hv'
      by_cases hvx' : v' = x
      · rw [if_pos hvx'] at hv'; exact ca g hv' hv
      · rw [if_neg hvx'] at hv'; exact (ov v' g hvx' (by omega) hv').2 hv
    · rw [if_neg hvy] at hv
      by_cases hvx : v = x
      · rw [if_pos hvx] at hv
        by_cases hvy' : v' = y
        · rw [if_pos hvy'] at hv'; exact ca g hv hv'
        · rw [if_neg hvy', if_neg (by omega)] at hv'; exact (ov v' g (by omega) hvy' hv').1 hv
      · rw [if_neg hvx] at hv
        by_cases hvy' : v' = y
        · rw [if_pos hvy'] at hv'; exact (ov v g hvx hvy hv).2 hv'
        · rw [if_neg hvy'] at hv'
          by_cases hvx' : v' = x
          · rw [if_pos hvx'] at hv'; exact (ov v g hvx hvy hv).1 hv'
          · rw [if_neg hvx'] at hv'; exact hd v v' g hne hv hv'
end
end Go.Proofs.YtbnbjiddffihoaaGreatDoor

/- Who is met from the first node along joined numbers, in plain Lean. -/
namespace Go.Proofs.YtbnbjiddffihoaaGreatDoor
open Go.RowKit

section
variable {N : List Nd} {P : List Pr} {J : Int → List Int} {M T : List Int}
theorem refs_len (h0 : checkN N = 0) (p : Pr) : (refsN N p).length ≤ N.length := by
  unfold refsN
  rw [if_pos h0]
  unfold ordN
  rw [List.length_map]
  have := List.length_filter_le (fun x => !(x.id == p.id) && (numsP p).contains x.id) (sortN N)
  rwa [sortN_length] at this
theorem pairs_len (h0 : checkN N = 0) : ∀ L : List Nd, (L.flatMap fun x => (refsN N (peerN P x.id)).map fun v => (x.id, v)).length ≤ L.length * N.length
  | [] => by simp
  | x :: L => by
    have := pairs_len h0 L
    have := refs_len h0 (peerN P x.id)
    rw [List.flatMap_cons, List.length_append, List.length_map, List.length_cons, Nat.succ_mul]
    omega
end
end Go.Proofs.YtbnbjiddffihoaaGreatDoor

/- Crash, Peer, Refs, Contacts of the reference. -/
namespace Go.Proofs.YtbnbjiddffihoaaGreatDoor
open Go.RowKit

def PeRel (P : List Pr) (id : Int) (n : Nat) (w : World) (i : Value) (wr : World) : Prop :=
  ∃ k : Nat, k ≤ n ∧ i = .int .i64 k ∧ Ex w wr ∧ ∀ j z, j < k → P[j]? = some z → z.id ≠ id
theorem peerN_at {P : List Pr} {id : Int} {k : Nat} {y : Pr} (hy : P[k]? = some y) (he : y.id = id) (hno : ∀ j z, j < k → P[j]? = some z → z.id ≠ id) : peerN P id = y := by
  unfold peerN
  have hk := (List.getElem?_eq_some_iff.1 hy)
  have hkl := hk.1
  have : P.find? (fun p => p.id == id) = some y := by
    rw [List.find?_eq_some_iff_getElem]
    refine ⟨by simpa using he, k, hk.1, hk.2, fun j hj => ?_⟩
    have := hno j _ hj (List.getElem?_eq_getElem (by omega))
    simpa using this
  rw [this]
  rfl
theorem peerN_none {P : List Pr} {id : Int} (hno : ∀ j z, j < P.length → P[j]? = some z → z.id ≠ id) : peerN P id = ⟨id, 0, 0, [], []⟩ := by
  unfold peerN
  have : P.find? (fun p => p.id == id) = none := by
    rw [List.find?_eq_none]
    intro x hx
    obtain ⟨j, hj⟩ := List.mem_iff_getElem?.1 hx
    simpa using hno j x (List.getElem?_eq_some_iff.1 hj).1 hj
  rw [this]
  rfl
set_option maxRecDepth 100000 in
set_option maxHeartbeats 8000000 in
theorem peer_r (a : Option Addr) (n c : Nat) (P : List Pr) (id : Int) (w : World) (h : PL w a n P) (hn : n ≤ 1000000) (hP : SmallP P) :
    Calls Tryz.prog 25 #[.slice a n c, .int .i64 id] w (CpPost (peerN P id) w.heap.size w) := by
  have HL := Lib.hid h.len
  have EX := Ex.refl w
  have B4 := Blk.new w [.int .i64 0, .slice none 0 0, .int .i64 0, .int .i64 0, .slice none 0 0] 45
  have kk := Ex.new w (.cells #[.int .i64 0, .slice none 0 0, .int .i64 0, .int .i64 0, .slice none 0 0] 45)
  obtain ⟨w1, hw1⟩ : ∃ w1, w1 = w.alloc (.cells #[.int .i64 0, .slice none 0 0, .int .i64 0, .int .i64 0, .slice none 0 0] 45) := ⟨_, rfl⟩
  obtain ⟨g4, hg4⟩ : ∃ g4, g4 = w.heap.size := ⟨_, rfl⟩
  replace B4 : Blk w1 g4 [.int .i64 0, .slice none 0 0, .int .i64 0, .int .i64 0, .slice none 0 0] 45 := by rw [hw1, hg4]; exact B4
  rw [← hw1] at kk
  have Hw1 := Lib.hid hw1
  have Hg4 := Lib.hid hg4
  replace h := h.nx kk
  replace EX := EX.nx kk
  have hg4' : w.heap.size ≤ g4 := by omega
  clear kk hw1 hg4
  have HS := Lib.hid h
  have HP := Lib.hid hP
  have HB := Lib.hid B4
  have EX := Lib.hid EX
  clear h hP
  go_enter Tryz.func25, Tryz.ntmps25
  go_upto_region 1 with fail
  rw [← Hg4.out, ← Hw1.out]
  clear Hg4 Hw1
  have hg4l := B4.lt
  clear B4
  go_wp2_with fail
  go_loopw [5] (fun i wr => PeRel P id n w1 i wr) (fun i _ => n - (intOf i).toNat)
  case atStart => exact ⟨0, by omega, rfl, Ex.refl _, by intro j z h; omega⟩
  case round =>
    obtain ⟨k, hk, rfl, kw, hno⟩ := hrel
    have HNO := Lib.hid hno
    clear hno
    obtain ⟨wo, rfl⟩ : ∃ wo : World, wo = wr := ⟨_, rfl⟩
    by_cases hlt : k < n
    · obtain ⟨x3, o3, b1, m1, d1, b4, m4, d4, y, rfl, hx3, hy, e0, e1, e2, e3, e4, s1, s4⟩ := (HS.out.nx kw).rd hlt
      have hyP := HP.out y (List.mem_of_getElem? hy)
      have hl1 : m1 ≤ 17592186044416 := by have := s1.len; omega
      have hl4 : m4 ≤ 4398046511104 := by have := s4.len; omega
      have HY := Lib.hid hy
      have KW := Lib.hid kw
      clear hy kw hyP
      by_cases hv : y.id = id
      · have hb : (y.id == id) = true := by simp [hv]
        have HP : Hid (peerN P id = y) := Lib.hid (peerN_at HY.out hv HNO.out)
        have hz := KW.out.size
        clear hv
        go_wp2_with fail
        (with_reducible refine (copypeer_r y _ _ _ _ _ _ _ s1 s4 hl1 hl4).mono ?_)
        rintro e w9 ⟨⟨A2, M2, C2⟩, ⟨A5, M5, C5⟩, rfl, own2, own5, kk⟩
        simp only [Hdr.val] at own2 own5 ⊢
        have B4 := HB.out.nx (KW.out.nx kk)
        have q0 := B4.cell 0 _ rfl
        have q1 := B4.cell 1 _ rfl
        have q2 := B4.cell 2 _ rfl
        have q3 := B4.cell 3 _ rfl
        have q4 := B4.cell 4 _ rfl
        have f0 := B4.free 0
        have f1 := B4.free 1
        have f2 := B4.free 2
        have f3 := B4.free 3
        have f4 := B4.free 4
        have hgo : g4 < wo.heap.size := Nat.lt_of_lt_of_le hg4l hz
        have k7 : Ex w w9 := EX.out.nx (KW.out.nx kk)
        have KE := Lib.hid (((((k7.setNew (p := ⟨g4, 0, none⟩) (.int .i64 y.id) hg4').setNew (p := ⟨g4, 1, none⟩) (.slice A2 M2 C2) hg4').setNew (p := ⟨g4, 2, none⟩) (.int .i64 y.left) hg4').setNew (p := ⟨g4, 3, none⟩) (.int .i64 y.right) hg4').setNew (p := ⟨g4, 4, none⟩) (.slice A5 M5 C5) hg4')
        have KB : Exb g4 w9 (((((w9.setCell ⟨g4, 0, none⟩ (.int .i64 y.id)).setCell ⟨g4, 1, none⟩ (.slice A2 M2 C2)).setCell ⟨g4, 2, none⟩ (.int .i64 y.left)).setCell ⟨g4, 3, none⟩ (.int .i64 y.right)).setCell ⟨g4, 4, none⟩ (.slice A5 M5 C5)) :=
          (((((Exb.refl g4 w9).setB (p := ⟨g4, 0, none⟩) _ rfl).setB (p := ⟨g4, 1, none⟩) _ rfl).setB (p := ⟨g4, 2, none⟩) _ rfl).setB (p := ⟨g4, 3, none⟩) _ rfl).setB (p := ⟨g4, 4, none⟩) _ rfl
        have hzw : w.heap.size ≤ wo.heap.size := (EX.out.nx KW.out).size
        have O1 := Lib.hid ((own2.nxb hgo KB).base hzw)
        have O4 := Lib.hid ((own5.nxb hgo KB).base hzw)
        clear B4 own2 own5 KB k7 e0 e1 e2 e3 e4 s1 s4 kk
        go_wp2_with fail
        refine bodyPost_ret (v := .agg #[.int .i64 y.id, .slice A2 M2 C2, .int .i64 y.left, .int .i64 y.right, .slice A5 M5 C5]) (by simp [results, Tryz.results25, go_sem, *]) rfl ?_
        rw [HP.out]
        exact ⟨(A2, M2, C2), (A5, M5, C5), rfl, O1.out, O4.out, KE.out⟩
      · have HV := Lib.hid hv
        have hb : (y.id == id) = false := by simpa using hv
        clear hv e1 e2 e3 e4 s1 s4
        go_wp2_with fail
        refine ⟨⟨k + 1, by omega, by go_num, KW.out, fun j z hj hz => ?_⟩, by simp [intOf]; omega⟩
        rcases Nat.lt_or_ge j k with h | h
        · exact HNO.out j z h hz
        · obtain rfl : j = k := by omega
          rw [Option.some.inj (hz.symm.trans HY.out)]
          exact HV.out
    · obtain rfl : k = n := by omega
      have HP : Hid (peerN P id = ⟨id, 0, 0, [], []⟩) := Lib.hid (peerN_none (fun j z hj hz => HNO.out j z (by rw [← HL.out]; exact hj) hz))
      have B4 := HB.out.nx kw
      have q0 := B4.cell 0 _ rfl
      have q1 := B4.cell 1 _ rfl
      have q2 := B4.cell 2 _ rfl
      have q3 := B4.cell 3 _ rfl
      have q4 := B4.cell 4 _ rfl
      have f0 := B4.free 0
      have f1 := B4.free 1
      have f2 := B4.free 2
      have f3 := B4.free 3
      have f4 := B4.free 4
      have k7 : Ex w wo := EX.out.nx kw
      have KE := Lib.hid (((((k7.setNew (p := ⟨g4, 0, none⟩) (.int .i64 id) hg4').setNew (p := ⟨g4, 1, none⟩) (.slice none 0 0) hg4').setNew (p := ⟨g4, 2, none⟩) (.int .i64 0) hg4').setNew (p := ⟨g4, 3, none⟩) (.int .i64 0) hg4').setNew (p := ⟨g4, 4, none⟩) (.slice none 0 0) hg4')
      clear B4 k7 kw hk hlt
      go_wp2_with fail
      refine bodyPost_ret (v := .agg #[.int .i64 id, .slice none 0 0, .int .i64 0, .int .i64 0, .slice none 0 0]) (by simp [results, Tryz.results25, go_sem, *]) rfl ?_
      rw [HP.out]
      exact ⟨(none, 0, 0), (none, 0, 0), rfl, OwnL.nil _ _ _ _ _, OwnL.nil _ _ _ _ _, KE.out⟩
end Go.Proofs.YtbnbjiddffihoaaGreatDoor

/- Connected of the package redundant, first half: the references are laid out by number. -/
namespace Go.Proofs.YtbnbjiddffihoaaGreatDoor
open Go.RowKit Go.Maps

def PredI (g : Nat) (lb : Array Value) (id : Int) (w : World) : Prop := ∀ (x : Pr) (h1 h2 : Hdr) (w' : World), Ex w w' → Calls Tryz.prog g (#[.agg #[.int .i64 x.id, h1.val, .int .i64 x.left, .int .i64 x.right, h2.val]] ++ lb) w' fun e w'' => e = .returned (.bool (x.id == id)) ∧ Ex w' w''
def idxQ (id : Int) (P : List Pr) : Int := if P.findIdx (fun p => p.id == id) < P.length then (P.findIdx (fun p => p.id == id) : Int) else -1
theorem idxQ_of {P : List Pr} {id : Int} {k : Nat} {y : Pr} (hy : P[k]? = some y) (he : y.id = id) (hno : ∀ j z, j < k → P[j]? = some z → z.id ≠ id) : idxQ id P = k := by
  have hk := (List.getElem?_eq_some_iff.1 hy)
  have hkl := hk.1
  have h1 : P.findIdx (fun p => p.id == id) = k := by
    rw [List.findIdx_eq hkl]
    refine ⟨by rw [hk.2]; simpa using he, fun j hj => ?_⟩
    have := hno j _ hj (List.getElem?_eq_getElem (by omega))
    simpa using this
  unfold idxQ
  rw [h1, if_pos hkl]
theorem idxQ_none {P : List Pr} {id : Int} (hno : ∀ j z, j < P.length → P[j]? = some z → z.id ≠ id) : idxQ id P = -1 := by
  unfold idxQ
  rw [if_neg]
  intro h
  have h1 := List.findIdx_getElem (w := h)
  have h2 := hno _ _ h (List.getElem?_eq_getElem h)
  simp at h1
  exact h2 h1
theorem idxQ_cases (P : List Pr) (id : Int) : (∃ (k : Nat) (y : Pr), idxQ id P = k ∧ k < P.length ∧ P[k]? = some y ∧ peerN P id = y ∧ y.id = id) ∨ (idxQ id P = -1 ∧ peerN P id = ⟨id, 0, 0, [], []⟩) := by
  by_cases h : P.findIdx (fun p => p.id == id) < P.length
  · have h1 : (P[P.findIdx (fun p => p.id == id)]).id = id := by simpa using List.findIdx_getElem (w := h)
    have hno : ∀ j z, j < P.findIdx (fun p => p.id == id) → P[j]? = some z → z.id ≠ id := fun j z hj hz => by
      have := List.not_of_lt_findIdx hj
      rw [List.getElem?_eq_getElem (by omega)] at hz
      cases hz
      simpa using this
    exact .inl ⟨_, _, by unfold idxQ; rw [if_pos h], h, List.getElem?_eq_getElem h, peerN_at (List.getElem?_eq_getElem h) h1 hno, h1⟩
  · have hno : ∀ j z, j < P.length → P[j]? = some z → z.id ≠ id := fun j z hj hz => by
      have := List.not_of_lt_findIdx (p := fun p : Pr => p.id == id) (xs := P) (i := j) (by omega)
      rw [List.getElem?_eq_getElem (by omega)] at hz
      cases hz
      simpa using this
    exact .inr ⟨by unfold idxQ; rw [if_neg h], peerN_none hno⟩
set_option maxRecDepth 100000 in
set_option maxHeartbeats 2000000 in
theorem idxf_pr (g : Nat) (lb : Array Value) (id : Int) (eg : ∀ args w, (callFunc g args).run Tryz.prog w = .ok (.enter g args) w) (a : Option Addr) (n c : Nat) (P : List Pr) (w : World) (h : PL w a n P) (hn : n ≤ 4000000000000000000) (hp : PredI g lb id w) :
    Calls Tryz.prog 74 #[.slice a n c, .func (.func g) #[] lb] w fun e w' => e = .returned (.int .i64 (idxQ id P)) ∧ Ex w w' := by
  have HL := Lib.hid h.len
  have HP := Lib.hid hp
  have hs := Lib.hid h
  clear h hp
  go_enter Tryz.func74, Tryz.ntmps74
  go_wp2
  go_loopw [8] (fun i wr => PeRel P id n w i wr) (fun i _ => n - (intOf i).toNat)
  case atStart => exact ⟨0, by omega, rfl, Ex.refl _, by intro j z h; omega⟩
  case round =>
    obtain ⟨k, hk, rfl, kw, hno⟩ := hrel
    have HNO := Lib.hid hno
    clear hno
    obtain ⟨wo, rfl⟩ : ∃ wo : World, wo = wr := ⟨_, rfl⟩
    by_cases hlt : k < n
    · obtain ⟨x3, o3, b1, m1, d1, b4, m4, d4, y, rfl, hx3, hy, e0, e1, e2, e3, e4, s1, s4⟩ := (hs.out.nx kw).rd hlt
      have HY := Lib.hid hy
      have hc := HP.out y (b1, m1, d1) (b4, m4, d4) wo kw
      have KW := Lib.hid kw
      simp only [Hdr.val] at hc
      clear hy kw s1 s4
      go_wp2_with fail
      refine hc.mono ?_
      rintro e w2 ⟨rfl, k2⟩
      have K2 := Lib.hid (KW.out.nx k2)
      clear hc k2 e0 e1 e2 e3 e4
      by_cases hv : y.id = id
      · have HI : Hid (idxQ id P = k) := Lib.hid (idxQ_of HY.out hv HNO.out)
        have hb : (y.id == id) = true := by simpa using hv
        rw [hb]
        clear hv hb
        go_wp2_with fail
        go_ret
        exact ⟨by rw [HI.out]; rfl, K2.out⟩
      · have HV := Lib.hid hv
        have hb : (y.id == id) = false := by simpa using hv
        rw [hb]
        clear hv hb
        go_wp2_with fail
        refine ⟨⟨k + 1, by omega, by go_num, K2.out, fun j z hj hz => ?_⟩, by simp [intOf]; omega⟩
        rcases Nat.lt_or_ge j k with h | h
        · exact HNO.out j z h hz
        · obtain rfl : j = k := by omega
          rw [Option.some.inj (hz.symm.trans HY.out)]
          exact HV.out
    · obtain rfl : k = n := by omega
      have HI : Hid (idxQ id P = -1) := Lib.hid (idxQ_none (fun j z hj hz => HNO.out j z (by rw [← HL.out]; exact hj) hz))
      have KW := Lib.hid kw
      clear kw hk hlt
      go_wp2_with fail
      go_ret
      exact ⟨by rw [HI.out]; rfl, KW.out⟩
end Go.Proofs.YtbnbjiddffihoaaGreatDoor

/- The helpers of the package bridge. -/
namespace Go.Proofs.YtbnbjiddffihoaaGreatDoor
open Go.RowKit

theorem find_word {N : List Nd} (hw : ∀ x ∈ N, x.word < 4294967296) (id : Int) (h : (findN N id).2 = true) : (findN N id).1.word < 4294967296 := hw _ (findN_mem h).1
set_option maxHeartbeats 1000000 in
theorem other_p (a : Option Addr) (n c : Nat) (N : List Nd) (id own : Int) (w : World) (h : Sl 3 encN w a n N) (hn : n ≤ 1000) :
    Calls Tryz.prog 84 #[.slice a n c, .int .i64 id, .int .i64 own] w fun e w' => e = .returned (.int .i64 (otherN N id own)) ∧ Ex w w' := by
  have EX := Ex.refl w
  have E1 : Hid (∀ o, o = (findN N id).2 → otherN N id own = if o = true ∧ id ≠ own then id else 0) := Lib.hid (fun o ho => by rw [ho]; rfl)
  go_enter Tryz.func84, Tryz.ntmps84
  go_wp2_with fail
  (with_reducible refine (find_p _ _ _ _ id _ h (by omega)).mono ?_)
  rintro e w1 ⟨rfl, kk⟩
  replace EX := EX.nx kk
  clear kk
  replace E1 := E1.out _ rfl
  obtain ⟨F, hF⟩ : ∃ F, F = findN N id := ⟨_, rfl⟩
  rw [← hF] at E1 ⊢
  clear hF h
  obtain ⟨⟨xi, xk, xw⟩, ok⟩ := F
  replace E1 := Lib.hid E1
  have B5 := Blk.new w1 [.int .i64 xi, .string xk, .int .u32 xw] 57
  have kk := Ex.new w1 (.cells #[.int .i64 xi, .string xk, .int .u32 xw] 57)
  obtain ⟨w2, hw2⟩ : ∃ w2, w2 = w1.alloc (.cells #[.int .i64 xi, .string xk, .int .u32 xw] 57) := ⟨_, rfl⟩
  obtain ⟨g5, hg5⟩ : ∃ g5, g5 = w1.heap.size := ⟨_, rfl⟩
  replace B5 : Blk w2 g5 [.int .i64 xi, .string xk, .int .u32 xw] 57 := by rw [hw2, hg5]; exact B5
  rw [← hw2] at kk
  have Hw2 := Lib.hid hw2
  have Hg5 := Lib.hid hg5
  replace EX := EX.nx kk
  clear kk hw2 hg5
  simp only [Nd.val]
  go_upto_region 2 with fail
  rw [← Hg5.out, ← Hw2.out]
  clear Hg5 Hw2
  clear B5
  cases ok with
  | false =>
    have E1 : Hid (otherN N id own = 0) := Lib.hid (E1.out.trans (if_neg (by simp)))
    go_wp2_with fail
    go_ret
    exact ⟨by rw [E1.out]; rfl, EX⟩
  | true =>
    by_cases he : id = own
    · have EZ : Hid (otherN N id own = 0) := Lib.hid (E1.out.trans (if_neg (by simp [he])))
      have d1 : (id == own) = true := by simpa using he
      clear he E1
      go_wp2_with fail
      go_ret
      exact ⟨by rw [EZ.out]; rfl, EX⟩
    · have EZ : Hid (otherN N id own = id) := Lib.hid (E1.out.trans (if_pos ⟨rfl, he⟩))
      have d1 : (id == own) = false := by simpa using he
      clear he E1
      go_wp2_with fail
      go_ret
      exact ⟨by rw [EZ.out]; rfl, EX⟩
theorem pair_no {N : List Nd} {nb : Int} (own : Int) (lev : Nat) (zero one : Int) (h : (findN N nb).2 = false) : pairB N own nb lev zero one = (0, 0) := by unfold pairB; rw [if_neg (by rw [h]; simp)]
theorem pair_z {N : List Nd} {nb : Int} (own : Int) (lev : Nat) (zero one : Int) (h : (findN N nb).2 = true) (hb : bitN (findN N nb).1.word lev = 0) : pairB N own nb lev zero one = ((findN N nb).1.id, otherN N one own) := by unfold pairB; rw [if_pos h, if_pos hb]
theorem pair_o {N : List Nd} {nb : Int} (own : Int) (lev : Nat) (zero one : Int) (h : (findN N nb).2 = true) (hb : ¬ bitN (findN N nb).1.word lev = 0) : pairB N own nb lev zero one = (otherN N zero own, (findN N nb).1.id) := by unfold pairB; rw [if_pos h, if_neg hb]
set_option maxRecDepth 100000 in
set_option maxHeartbeats 2000000 in
theorem pair_p (a : Option Addr) (n c : Nat) (N : List Nd) (own nb : Int) (lev : Nat) (zero one : Int) (w : World) (h : Sl 3 encN w a n N) (hn : n ≤ 1000) (hw : ∀ x ∈ N, x.word < 4294967296) (hl : lev ≤ 16) :
    Calls Tryz.prog 99 #[.slice a n c, .int .i64 own, .int .i64 nb, .int .i64 lev, .int .i64 zero, .int .i64 one] w fun e w' => e = .returned (.tuple #[.int .i64 (pairB N own nb lev zero one).1, .int .i64 (pairB N own nb lev zero one).2]) ∧ Ex w w' := by
  have EX := Ex.refl w
  have P0 := pair_no (N := N) (nb := nb) own lev zero one
  have P1 := pair_z (N := N) (nb := nb) own lev zero one
  have P2 := pair_o (N := N) (nb := nb) own lev zero one
  have FW := find_word hw nb
  clear hw
  go_enter Tryz.func99, Tryz.ntmps99
  generalize hPB : pairB N own nb lev zero one = PB at P0 P1 P2 ⊢
  clear hPB
  replace P0 := Lib.hid P0
  replace P1 := Lib.hid P1
  replace P2 := Lib.hid P2
  replace FW := Lib.hid FW
  go_wp2_with fail
  (with_reducible refine (find_p _ _ _ _ nb _ h (by omega)).mono ?_)
  rintro e w1 ⟨rfl, kk⟩
  replace EX := EX.nx kk
  replace h := h.nx kk
  clear kk
  replace P0 := P0.out
  replace P1 := P1.out
  replace P2 := P2.out
  replace FW := FW.out
  obtain ⟨F, hF⟩ : ∃ F, F = findN N nb := ⟨_, rfl⟩
  rw [← hF] at P0 P1 P2 FW ⊢
  clear hF
  obtain ⟨⟨xi, xk, xw⟩, ok⟩ := F
  have B5 := Blk.new w1 [.int .i64 xi, .string xk, .int .u32 xw] 57
  have kk := Ex.new w1 (.cells #[.int .i64 xi, .string xk, .int .u32 xw] 57)
  obtain ⟨w2, hw2⟩ : ∃ w2, w2 = w1.alloc (.cells #[.int .i64 xi, .string xk, .int .u32 xw] 57) := ⟨_, rfl⟩
  obtain ⟨g5, hg5⟩ : ∃ g5, g5 = w1.heap.size := ⟨_, rfl⟩
  replace B5 : Blk w2 g5 [.int .i64 xi, .string xk, .int .u32 xw] 57 := by rw [hw2, hg5]; exact B5
  rw [← hw2] at kk
  have Hw2 := Lib.hid hw2
  have Hg5 := Lib.hid hg5
  replace EX := EX.nx kk
  replace h := h.nx kk
  clear kk hw2 hg5
  simp only [Nd.val]
  go_upto_region 2 with fail
  rw [← Hg5.out, ← Hw2.out]
  clear Hg5 Hw2
  cases ok with
  | false =>
    have E1 := Lib.hid (P0 rfl)
    clear P0 P1 P2 FW h B5
    go_wp2_with fail
    go_ret2
    exact ⟨by rw [E1.out]; rfl, EX⟩
  | true =>
    have q2 := B5.cell 2 _ rfl
    have FWh := FW rfl
    by_cases hb : bitN xw lev = 0
    · have E1 := Lib.hid (P1 rfl hb)
      have d1 : (((bitN xw lev : Nat) : Int) == 0) = true := by rw [hb]; rfl
      have BF : Hid (∀ wq, Ex w2 wq → wq.cell? ⟨g5, 0, none⟩ = some (.int .i64 xi)) := Lib.hid (fun wq kq => (B5.nx kq).cell 0 _ rfl)
      have H := Lib.hid h
      have K := Lib.hid EX
      clear P0 P1 P2 FW h B5 hb EX
      go_wp2_with fail
      refine (bit_p xw lev _ FWh (by omega) (by omega)).mono ?_
      rintro e w3 ⟨rfl, rfl⟩
      clear FWh
      go_upto_region 5 with fail
      clear q2
      refine wp_region_held_drew (S := Ex w2) (by kernel_rfl) ((Ex.refl w2).drew) (fun hHeld => ?_)
      obtain ⟨wd, hwdx⟩ : ∃ wd : World, wd = World.drew w2 := ⟨_, rfl⟩
      rw [← hwdx] at hHeld ⊢
      have hDrew : Ex w2 wd := by rw [hwdx]; exact (Ex.refl w2).drew
      clear hwdx
      refine wpAnyH_take (i := 0) (oi := ⟨some 31, .fieldAddr 57 (.tmp 14) 0, 0, "bridge.go:46", #[], none⟩) (v := ?_) rfl (by kernel_rfl) (by kernel_rfl) (by kernel_rfl) (fun _ _ _ h => h) (Or.inl ⟨by rfl, ?hyr1x0q5⟩) (by assumption) ?restr1x0q5
      case hyr1x0q5 => intro wq hSw; (go_simp); (try with_reducible rfl)
      try simp only [Act.put, List.setIfInBounds_toArray, List.set_cons_zero, List.set_cons_succ]
      refine wpAnyH_take (i := 1) (oi := ⟨some 32, .load 3 (.tmp 31), 3, "bridge.go:46", #[⟨0, .data⟩], none⟩) (v := ?_) rfl (by kernel_rfl) (by kernel_rfl) (by kernel_rfl) (fun _ _ _ h => h) (Or.inl ⟨by rfl, ?hyr1x1q8⟩) (by assumption) ?restr1x1q8
      case hyr1x1q8 => intro wq hSw; (have cq := BF.out wq hSw; go_simp); (try with_reducible rfl)
      try simp only [Act.put, List.setIfInBounds_toArray, List.set_cons_zero, List.set_cons_succ]
      refine wpAnyH_take (i := 2) (oi := ⟨some 33, .move (.tmp 0), 23, "bridge.go:46", #[], none⟩) (v := ?_) rfl (by kernel_rfl) (by kernel_rfl) (by kernel_rfl) (fun _ _ _ h => h) (Or.inl ⟨by rfl, ?hyr1x2q11⟩) (by assumption) ?restr1x2q11
      case hyr1x2q11 => intro wq hSw; (go_simp); (try with_reducible rfl)
      try simp only [Act.put, List.setIfInBounds_toArray, List.set_cons_zero, List.set_cons_succ]
      refine wpAnyH_take (i := 3) (oi := ⟨some 34, .move (.tmp 5), 3, "bridge.go:46", #[], none⟩) (v := ?_) rfl (by kernel_rfl) (by kernel_rfl) (by kernel_rfl) (fun _ _ _ h => h) (Or.inl ⟨by rfl, ?hyr1x3q14⟩) (by assumption) ?restr1x3q14
      case hyr1x3q14 => intro wq hSw; (go_simp); (try with_reducible rfl)
      try simp only [Act.put, List.setIfInBounds_toArray, List.set_cons_zero, List.set_cons_succ]
      refine wpAnyH_take (i := 4) (oi := ⟨some 35, .move (.tmp 1), 3, "bridge.go:46", #[], none⟩) (v := ?_) rfl (by kernel_rfl) (by kernel_rfl) (by kernel_rfl) (fun _ _ _ h => h) (Or.inl ⟨by rfl, ?hyr1x4q17⟩) (by assumption) ?restr1x4q17
      case hyr1x4q17 => intro wq hSw; (go_simp); (try with_reducible rfl)
      try simp only [Act.put, List.setIfInBounds_toArray, List.set_cons_zero, List.set_cons_succ]
      refine wpAnyH_ready (rs := [5]) (by kernel_rfl) (by simp) ?_
      refine AllReadyH.cons (o := ⟨some 36, .call { callee := .value (.func 84), args := #[.tmp 33, .tmp 34, .tmp 35], argTypes := #[23, 3, 3] }, 3, "bridge.go:46", #[⟨2, .data⟩, ⟨3, .data⟩, ⟨4, .data⟩], none⟩) rfl (fun K hK => ?_) AllReadyH.nil
      go_simp
      (with_reducible refine (other_p _ _ _ N one own _ (H.out.nx hHeld) hn).mono ?_)
      rintro e wb ⟨rfl, kk⟩
      replace hHeld := hHeld.nx kk
      clear kk
      refine hK.out _ _ (hHeld) (fun hHeld => ?_)
      clear hK K
      try simp only [Act.put, List.setIfInBounds_toArray, List.set_cons_zero, List.set_cons_succ]
      refine wpAnyH_take (i := 6) (oi := ⟨some 12, .assign (.tmp 32), 3, "bridge.go:46", #[⟨1, .data⟩, ⟨5, .chain⟩, ⟨0, .phase⟩, ⟨1, .phase⟩, { on := 2, ground := Ground.textOnly Departure.lateStores }, { on := 3, ground := Ground.textOnly Departure.lateStores }, { on := 4, ground := Ground.textOnly Departure.lateStores }, { on := 5, ground := Ground.textOnly Departure.lateStoresUnsure }], none⟩) (v := ?_) rfl (by kernel_rfl) (by kernel_rfl) (by kernel_rfl) (fun _ _ _ h => h) (Or.inl ⟨by rfl, ?hyr1x6q30⟩) (by assumption) ?restr1x6q30
      case hyr1x6q30 => intro wq hSw; (go_simp); (try with_reducible rfl)
      try simp only [Act.put, List.setIfInBounds_toArray, List.set_cons_zero, List.set_cons_succ]
      refine wpAnyH_take (i := 7) (oi := ⟨some 13, .assign (.tmp 36), 3, "bridge.go:46", #[⟨5, .data⟩, ⟨6, .chain⟩, ⟨0, .phase⟩, ⟨1, .phase⟩, ⟨2, .phase⟩, ⟨3, .phase⟩, ⟨4, .phase⟩, ⟨5, .phase⟩, ⟨6, .phase⟩], none⟩) (v := ?_) rfl (by kernel_rfl) (by kernel_rfl) (by kernel_rfl) (fun _ _ _ h => h) (Or.inl ⟨by rfl, ?hyr1x7q33⟩) (by assumption) ?restr1x7q33
      case hyr1x7q33 => intro wq hSw; (go_simp); (try with_reducible rfl)
      try simp only [Act.put, List.setIfInBounds_toArray, List.set_cons_zero, List.set_cons_succ]
      refine wpAnyH_done (by kernel_rfl) ?_ _
      have KE := Lib.hid (K.out.nx hHeld)
      clear hHeld hDrew
      go_wp2_with fail
      go_ret2
      exact ⟨by rw [E1.out]; rfl, KE.out⟩
    · have E1 := Lib.hid (P2 rfl hb)
      have d1 : (((bitN xw lev : Nat) : Int) == 0) = false := by simpa using hb
      have BF : Hid (∀ wq, Ex w2 wq → wq.cell? ⟨g5, 0, none⟩ = some (.int .i64 xi)) := Lib.hid (fun wq kq => (B5.nx kq).cell 0 _ rfl)
      have H := Lib.hid h
      have K := Lib.hid EX
      clear P0 P1 P2 FW h B5 hb EX
      go_wp2_with fail
      refine (bit_p xw lev _ FWh (by omega) (by omega)).mono ?_
      rintro e w3 ⟨rfl, rfl⟩
      clear FWh
      go_upto_region 6 with fail
      clear q2
      refine wp_region_held_drew (S := Ex w2) (by kernel_rfl) ((Ex.refl w2).drew) (fun hHeld => ?_)
      obtain ⟨wd, hwdx⟩ : ∃ wd : World, wd = World.drew w2 := ⟨_, rfl⟩
      rw [← hwdx] at hHeld ⊢
      have hDrew : Ex w2 wd := by rw [hwdx]; exact (Ex.refl w2).drew
      clear hwdx
      refine wpAnyH_take (i := 0) (oi := ⟨some 37, .move (.tmp 0), 23, "bridge.go:48", #[], none⟩) (v := ?_) rfl (by kernel_rfl) (by kernel_rfl) (by kernel_rfl) (fun _ _ _ h => h) (Or.inl ⟨by rfl, ?hyr2x0q5⟩) (by assumption) ?restr2x0q5
      case hyr2x0q5 => intro wq hSw; (go_simp); (try with_reducible rfl)
      try simp only [Act.put, List.setIfInBounds_toArray, List.set_cons_zero, List.set_cons_succ]
      refine wpAnyH_take (i := 1) (oi := ⟨some 38, .move (.tmp 4), 3, "bridge.go:48", #[], none⟩) (v := ?_) rfl (by kernel_rfl) (by kernel_rfl) (by kernel_rfl) (fun _ _ _ h => h) (Or.inl ⟨by rfl, ?hyr2x1q8⟩) (by assumption) ?restr2x1q8
      case hyr2x1q8 => intro wq hSw; (go_simp); (try with_reducible rfl)
      try simp only [Act.put, List.setIfInBounds_toArray, List.set_cons_zero, List.set_cons_succ]
      refine wpAnyH_take (i := 2) (oi := ⟨some 39, .move (.tmp 1), 3, "bridge.go:48", #[], none⟩) (v := ?_) rfl (by kernel_rfl) (by kernel_rfl) (by kernel_rfl) (fun _ _ _ h => h) (Or.inl ⟨by rfl, ?hyr2x2q11⟩) (by assumption) ?restr2x2q11
      case hyr2x2q11 => intro wq hSw; (go_simp); (try with_reducible rfl)
      try simp only [Act.put, List.setIfInBounds_toArray, List.set_cons_zero, List.set_cons_succ]
      refine wpAnyH_take (i := 4) (oi := ⟨some 41, .fieldAddr 57 (.tmp 14) 0, 0, "bridge.go:48", #[{ on := 6, ground := Ground.gcOnly Departure.lateStores }], none⟩) (v := ?_) rfl (by kernel_rfl) (by kernel_rfl) (by kernel_rfl) (fun _ _ _ h => h) (Or.inl ⟨by rfl, ?hyr2x4q14⟩) (by assumption) ?restr2x4q14
      case hyr2x4q14 => intro wq hSw; (go_simp); (try with_reducible rfl)
      try simp only [Act.put, List.setIfInBounds_toArray, List.set_cons_zero, List.set_cons_succ]
      refine wpAnyH_take (i := 5) (oi := ⟨some 42, .load 3 (.tmp 41), 3, "bridge.go:48", #[⟨4, .data⟩, { on := 6, ground := Ground.gcOnly Departure.lateStores }], none⟩) (v := ?_) rfl (by kernel_rfl) (by kernel_rfl) (by kernel_rfl) (fun _ _ _ h => h) (Or.inl ⟨by rfl, ?hyr2x5q17⟩) (by assumption) ?restr2x5q17
      case hyr2x5q17 => intro wq hSw; (have cq := BF.out wq hSw; go_simp); (try with_reducible rfl)
      try simp only [Act.put, List.setIfInBounds_toArray, List.set_cons_zero, List.set_cons_succ]
      refine wpAnyH_ready (rs := [3]) (by kernel_rfl) (by simp) ?_
      refine AllReadyH.cons (o := ⟨some 40, .call { callee := .value (.func 84), args := #[.tmp 37, .tmp 38, .tmp 39], argTypes := #[23, 3, 3] }, 3, "bridge.go:48", #[⟨0, .data⟩, ⟨1, .data⟩, ⟨2, .data⟩], none⟩) rfl (fun K hK => ?_) AllReadyH.nil
      go_simp
      (with_reducible refine (other_p _ _ _ N zero own _ (H.out.nx hHeld) hn).mono ?_)
      rintro e wb ⟨rfl, kk⟩
      replace hHeld := hHeld.nx kk
      clear kk
      refine hK.out _ _ (hHeld) (fun hHeld => ?_)
      clear hK K
      try simp only [Act.put, List.setIfInBounds_toArray, List.set_cons_zero, List.set_cons_succ]
      refine wpAnyH_take (i := 6) (oi := ⟨some 12, .assign (.tmp 40), 3, "bridge.go:48", #[⟨3, .data⟩, ⟨3, .chain⟩, ⟨0, .phase⟩, ⟨1, .phase⟩, ⟨2, .phase⟩, ⟨3, .phase⟩, { on := 4, ground := Ground.textOnly Departure.lateStores }, { on := 5, ground := Ground.textOnly Departure.lateStores }], none⟩) (v := ?_) rfl (by kernel_rfl) (by kernel_rfl) (by kernel_rfl) (fun _ _ _ h => h) (Or.inl ⟨by rfl, ?hyr2x6q30⟩) (by assumption) ?restr2x6q30
      case hyr2x6q30 => intro wq hSw; (go_simp); (try with_reducible rfl)
      try simp only [Act.put, List.setIfInBounds_toArray, List.set_cons_zero, List.set_cons_succ]
      refine wpAnyH_take (i := 7) (oi := ⟨some 13, .assign (.tmp 42), 3, "bridge.go:48", #[⟨5, .data⟩, ⟨6, .chain⟩, ⟨0, .phase⟩, ⟨1, .phase⟩, ⟨2, .phase⟩, ⟨3, .phase⟩, ⟨4, .phase⟩, ⟨5, .phase⟩, ⟨6, .phase⟩], none⟩) (v := ?_) rfl (by kernel_rfl) (by kernel_rfl) (by kernel_rfl) (fun _ _ _ h => h) (Or.inl ⟨by rfl, ?hyr2x7q33⟩) (by assumption) ?restr2x7q33
      case hyr2x7q33 => intro wq hSw; (go_simp); (try with_reducible rfl)
      try simp only [Act.put, List.setIfInBounds_toArray, List.set_cons_zero, List.set_cons_succ]
      refine wpAnyH_done (by kernel_rfl) ?_ _
      have KE := Lib.hid (K.out.nx hHeld)
      clear hHeld hDrew
      go_wp2_with fail
      go_ret2
      exact ⟨by rw [E1.out]; rfl, KE.out⟩
theorem at1_p (gx : Nat) (id : Int) (w : World) (hx : Blk w gx [.int .i64 id] 3) : PredI 126 #[.pointer (some ⟨gx, 0, none⟩)] id w := by
  intro p h1 h2 w' kk
  have q0 := (hx.nx kk).cell 0 _ rfl
  have hg := (hx.nx kk).lt
  have hne : ¬ gx = w'.heap.size := by omega
  obtain ⟨a1, n1, c1⟩ := h1
  obtain ⟨a2, n2, c2⟩ := h2
  simp only [Hdr.val]
  clear hx kk
  go_enter Tryz.func126, Tryz.ntmps126
  go_wp2
  go_ret
  exact ⟨rfl, (Ex.refl _).alloc _⟩
def nrV (x : Nr) : Value := .agg #[.int .i64 x.1, .int .i64 x.2.1, .int .i64 x.2.2.1, .int .i64 x.2.2.2]
theorem near_at {p : Pr} {i : Nat} {x : Nr} (h : p.near[i]? = some x) : nearAt p i = x := by unfold nearAt; rw [h]; rfl
theorem near_out {p : Pr} {i : Nat} (h : p.near.length ≤ i) : nearAt p i = (0, 0, 0, 0) := by unfold nearAt; rw [List.getElem?_eq_none h]; rfl
set_option maxRecDepth 100000 in
set_option maxHeartbeats 2000000 in
theorem at_p (a2 : Option Addr) (n2 c2 : Nat) (P : List Pr) (id : Int) (lev : Nat) (w : World) (h2 : PL w a2 n2 P) (hn2 : n2 ≤ 4000000000000000000) (hP : ∀ p ∈ P, p.near.length ≤ 4000000000000000000) (hl : lev ≤ 16) :
    Calls Tryz.prog 98 #[.slice a2 n2 c2, .int .i64 id, .int .i64 lev] w fun e w' => e = .returned (nrV (nearAt (peerN P id) lev)) ∧ Ex w w' := by
  have EG : Hid (∀ args w, (callFunc 126 args).run Tryz.prog w = .ok (.enter 126 args) w) := Lib.hid (enters_of Tryz.func126 (by kernel_rfl) rfl)
  have EX := Ex.refl w
  have HP := Lib.hid hP
  clear hP
  have hwi : w.heap.size ≤ w.heap.size := Nat.le_refl _
  obtain ⟨g4, hg4⟩ : ∃ g4, g4 = w.heap.size := ⟨_, rfl⟩
  obtain ⟨g6, hg6⟩ : ∃ g6, g6 = (w.heap.size + 1) := ⟨_, rfl⟩
  obtain ⟨w1, hw1⟩ : ∃ w1, w1 = ((w.alloc (.cells #[.int .i64 id] 3)).alloc (.cells #[.int .i64 0, .int .i64 0, .int .i64 0, .int .i64 0] 49)) := ⟨_, rfl⟩
  have kk : Ex w w1 := by rw [hw1]; exact (((Ex.refl w).alloc (.cells #[.int .i64 id] 3)).alloc (.cells #[.int .i64 0, .int .i64 0, .int .i64 0, .int .i64 0] 49))
  have B4 : Blk w1 g4 [.int .i64 id] 3 := by rw [hw1]; simp only [hg4, hg6]; have hbk := ((Blk.new w [.int .i64 id] 3).nx (Ex.new _ (.cells #[.int .i64 0, .int .i64 0, .int .i64 0, .int .i64 0] 49))); simpa using hbk
  have B6 : Blk w1 g6 [.int .i64 0, .int .i64 0, .int .i64 0, .int .i64 0] 49 := by rw [hw1]; simp only [hg4, hg6]; have hbk := (Blk.new (w.alloc (.cells #[.int .i64 id] 3)) [.int .i64 0, .int .i64 0, .int .i64 0, .int .i64 0] 49); simpa using hbk
  have Hw1 := Lib.hid hw1
  have Hg4 := Lib.hid hg4
  have Hg6 := Lib.hid hg6
  replace h2 := h2.nx kk
  replace EX := EX.nx kk
  have hz6 : w.heap.size ≤ g6 := by omega
  clear kk hw1 hg4 hg6
  go_enter Tryz.func98, Tryz.ntmps98
  go_upto_region 1 with fail
  rw [← Hw1.out, ← Hg6.out, ← Hg4.out]
  clear Hw1 Hg6 Hg4
  have PI := at1_p g4 id w1 B4
  replace B6 := Lib.hid B6
  clear B4
  go_wp2_with fail
  (with_reducible refine (idxf_pr _ _ _ EG.out _ _ _ P _ h2 hn2 PI).mono ?_)
  rintro e w2 ⟨rfl, kk⟩
  replace B6 := B6.out.nx kk
  replace EX := EX.nx kk
  replace h2 := h2.nx kk
  clear kk PI
  have f0 := B6.free 0
  have f1 := B6.free 1
  have f2 := B6.free 2
  have f3 := B6.free 3
  have c0 := B6.cell 0 _ rfl
  have c1 := B6.cell 1 _ rfl
  have c2 := B6.cell 2 _ rfl
  have c3 := B6.cell 3 _ rfl
  rcases idxQ_cases P id with ⟨k, y, hq, hkl, hyk, hpy, -⟩ | ⟨hq, hpy⟩
  · rw [hq]
    have hk2 : k < n2 := by have := h2.len; omega
    have hk0 : ¬ (k : Int) < 0 := by omega
    have hk1 : (0 : Int) ≤ (k : Int) := by omega
    have hk3 : (k : Int) < (n2 : Int) := by omega
    obtain ⟨x5, o5, b1, m1, d1, b4, m4, d4, y', rfl, hx5, hy', e0, e1, e2, e3, e4, s1, s4⟩ := h2.rd hk2
    obtain rfl : y = y' := Option.some.inj (hyk.symm.trans hy')
    have hm4 := s4.len
    have hyP := HP.out y (List.mem_of_getElem? hyk)
    have HPY := Lib.hid hpy
    clear e0 e1 e2 e3 s1 hy' hkl hq hpy hyk h2
    by_cases hlt : lev < m4
    · obtain ⟨x6, o6, ny, rfl, hx6, hny, hc6⟩ := s4.at hlt
      have V : Hid (nearAt (peerN P id) lev = ny) := Lib.hid (by rw [HPY.out]; exact near_at hny)
      have r0 : w2.cell? ⟨x6, o6 + lev * 4, none⟩ = some (.int .i64 ny.1) := hc6 0 _ rfl
      have r1 : w2.cell? ⟨x6, o6 + lev * 4 + 1, none⟩ = some (.int .i64 ny.2.1) := hc6 1 _ rfl
      have r2 : w2.cell? ⟨x6, o6 + lev * 4 + 1 + 1, none⟩ = some (.int .i64 ny.2.2.1) := by simpa [Nat.add_assoc] using hc6 2 _ rfl
      have r3 : w2.cell? ⟨x6, o6 + lev * 4 + 1 + 1 + 1, none⟩ = some (.int .i64 ny.2.2.2) := by simpa [Nat.add_assoc] using hc6 3 _ rfl
      have d1 : decide ((lev : Int) ≥ (m4 : Int)) = false := by simp; omega
      have d2 : decide ((m4 : Int) ≤ (lev : Int)) = false := by simp; omega
      have hl1 : (lev : Int) < (m4 : Int) := by omega
      have KE := Lib.hid ((((EX.setNew (p := ⟨g6, 0, none⟩) (.int .i64 ny.1) hz6).setNew (p := ⟨g6, 1, none⟩) (.int .i64 ny.2.1) hz6).setNew (p := ⟨g6, 2, none⟩) (.int .i64 ny.2.2.1) hz6).setNew (p := ⟨g6, 3, none⟩) (.int .i64 ny.2.2.2) hz6)
      clear s4 hc6 hny EX HPY
      go_wp2_with fail
      refine bodyPost_ret (v := nrV ny) (by simp [results, Tryz.results98, go_sem, nrV, *]) rfl ⟨by rw [V.out], KE.out⟩
    · have V : Hid (nearAt (peerN P id) lev = (0, 0, 0, 0)) := Lib.hid (by rw [HPY.out]; exact near_out (by omega))
      have hge : m4 ≤ lev := by omega
      have KE := Lib.hid ((((EX.setNew (p := ⟨g6, 0, none⟩) (.int .i64 0) hz6).setNew (p := ⟨g6, 1, none⟩) (.int .i64 0) hz6).setNew (p := ⟨g6, 2, none⟩) (.int .i64 0) hz6).setNew (p := ⟨g6, 3, none⟩) (.int .i64 0) hz6)
      clear s4 EX HPY hlt
      go_wp2_with fail
      refine bodyPost_ret (v := nrV (0, 0, 0, 0)) (by simp [results, Tryz.results98, go_sem, nrV, *]) rfl ⟨by rw [V.out], KE.out⟩
  · rw [hq]
    have V : Hid (nearAt (peerN P id) lev = (0, 0, 0, 0)) := Lib.hid (by rw [hpy]; exact near_out (Nat.zero_le _))
    have KE := Lib.hid ((((EX.setNew (p := ⟨g6, 0, none⟩) (.int .i64 0) hz6).setNew (p := ⟨g6, 1, none⟩) (.int .i64 0) hz6).setNew (p := ⟨g6, 2, none⟩) (.int .i64 0) hz6).setNew (p := ⟨g6, 3, none⟩) (.int .i64 0) hz6)
    clear hq hpy EX h2
    go_wp2_with fail
    refine bodyPost_ret (v := nrV (0, 0, 0, 0)) (by simp [results, Tryz.results98, go_sem, nrV, *]) rfl ⟨by rw [V.out], KE.out⟩
end Go.Proofs.YtbnbjiddffihoaaGreatDoor

/- Link of the package bridge. -/
namespace Go.Proofs.YtbnbjiddffihoaaGreatDoor
open Go.RowKit

theorem link_no {N : List Nd} {p : Pr} {lev : Int} (h : ¬ ((findN N p.id).2 = true ∧ checkN N = 0 ∧ lvlN lev = true ∧ lev ≤ p.near.length)) : linkB N p lev = (0, 0) := by unfold linkB; rw [if_neg h]
theorem link_zero {N : List Nd} {p : Pr} {lev : Int} (h : (findN N p.id).2 = true ∧ checkN N = 0 ∧ lvlN lev = true ∧ lev ≤ p.near.length) (h0 : lev = 0) : linkB N p lev = (otherN N p.left p.id, otherN N p.right p.id) := by unfold linkB; rw [if_pos h, if_pos h0]
theorem link_bit {N : List Nd} {p : Pr} {lev : Int} {x : Nr} (h : (findN N p.id).2 = true ∧ checkN N = 0 ∧ lvlN lev = true ∧ lev ≤ p.near.length) (h0 : ¬ lev = 0) (hx : nearAt p (lev - 1).toNat = x) :
    (bitN (findN N p.id).1.word (lev - 1) = 1 → linkB N p lev = (otherN N x.2.1 p.id, otherN N x.2.2.2 p.id)) ∧ (¬ bitN (findN N p.id).1.word (lev - 1) = 1 → linkB N p lev = (otherN N x.1 p.id, otherN N x.2.2.1 p.id)) := by
  unfold linkB
  rw [if_pos h, if_neg h0, hx]
  exact ⟨fun hb => by rw [if_pos hb], fun hb => by rw [if_neg hb]⟩
theorem lvl_of {lev : Int} (h0 : 0 ≤ lev) (h1 : lev ≤ 16) : lvlN lev = true := by unfold lvlN; simp; omega
set_option maxRecDepth 100000 in
set_option maxHeartbeats 4000000 in
theorem link_p (a : Option Addr) (n c : Nat) (N : List Nd) (p : Pr) (a1 : Option Addr) (n1 c1 : Nat) (a2 : Option Addr) (n2 c2 : Nat) (lev : Int) (w : World) (h : Sl 3 encN w a n N) (hn : n ≤ 1000) (hc : n ≤ c) (hm : c ≤ maxLen) (hw : ∀ x ∈ N, x.word < 4294967296) (h2 : Sl 4 encNr w a2 n2 p.near) (hn2 : n2 ≤ 4000000000000000000) :
    Calls Tryz.prog 47 #[.slice a n c, .agg #[.int .i64 p.id, .slice a1 n1 c1, .int .i64 p.left, .int .i64 p.right, .slice a2 n2 c2], .int .i64 lev] w fun e w' => e = .returned (.agg #[.int .i64 (linkB N p lev).1, .int .i64 (linkB N p lev).2]) ∧ Ex w w' := by
  have EX := Ex.refl w
  have H0 := Lib.hid h
  have FW := Lib.hid (find_word hw p.id)
  have LN := Lib.hid (link_no (N := N) (p := p) (lev := lev))
  have LZ := Lib.hid (link_zero (N := N) (p := p) (lev := lev))
  have LB := Lib.hid (fun x => link_bit (N := N) (p := p) (lev := lev) (x := x))
  have hml := h2.len
  rw [hml] at LN LZ LB
  clear hw
  generalize hLB : linkB N p lev = L at LN LZ LB ⊢
  clear hLB
  obtain ⟨g4, hg4⟩ : ∃ g4, g4 = w.heap.size := ⟨_, rfl⟩
  obtain ⟨g6, hg6⟩ : ∃ g6, g6 = (w.heap.size + 1) := ⟨_, rfl⟩
  obtain ⟨w1, hw1⟩ : ∃ w1, w1 = ((w.alloc (.cells #[.int .i64 p.id, .slice a1 n1 c1, .int .i64 p.left, .int .i64 p.right, .slice a2 n2 c2] 45)).alloc (.cells #[.int .i64 0, .int .i64 0] 65)) := ⟨_, rfl⟩
  have kk : Ex w w1 := by rw [hw1]; exact (((Ex.refl w).alloc (.cells #[.int .i64 p.id, .slice a1 n1 c1, .int .i64 p.left, .int .i64 p.right, .slice a2 n2 c2] 45)).alloc (.cells #[.int .i64 0, .int .i64 0] 65))
  have B4 : Blk w1 g4 [.int .i64 p.id, .slice a1 n1 c1, .int .i64 p.left, .int .i64 p.right, .slice a2 n2 c2] 45 := by rw [hw1]; simp only [hg4, hg6]; have hbk := ((Blk.new w [.int .i64 p.id, .slice a1 n1 c1, .int .i64 p.left, .int .i64 p.right, .slice a2 n2 c2] 45).nx (Ex.new _ (.cells #[.int .i64 0, .int .i64 0] 65))); simpa using hbk
  have B6 : Blk w1 g6 [.int .i64 0, .int .i64 0] 65 := by rw [hw1]; simp only [hg4, hg6]; have hbk := (Blk.new (w.alloc (.cells #[.int .i64 p.id, .slice a1 n1 c1, .int .i64 p.left, .int .i64 p.right, .slice a2 n2 c2] 45)) [.int .i64 0, .int .i64 0] 65); simpa using hbk
  have Hw1 := Lib.hid hw1
  have Hg4 := Lib.hid hg4
  have Hg6 := Lib.hid hg6
  replace h := h.nx kk
  replace h2 := h2.nx kk
  replace EX := EX.nx kk
  have zg6 : w.heap.size ≤ g6 := by omega
  clear kk hw1 hg4 hg6
  go_enter Tryz.func47, Tryz.ntmps47
  go_upto_region 1 with fail
  rw [← Hw1.out, ← Hg6.out, ← Hg4.out]
  clear Hw1 Hg6 Hg4
  have q0 := B4.cell 0 _ rfl
  go_wp2_with fail
  (with_reducible refine (find_p _ _ _ _ p.id _ h (by omega)).mono ?_)
  rintro e w2 ⟨rfl, kk⟩
  replace h := h.nx kk
  replace h2 := h2.nx kk
  replace EX := EX.nx kk
  replace B4 := B4.nx kk
  replace B6 := B6.nx kk
  clear kk
  replace FW := FW.out
  replace LN := LN.out
  replace LZ := LZ.out
  replace LB := LB.out
  obtain ⟨F, hF⟩ : ∃ F, F = findN N p.id := ⟨_, rfl⟩
  rw [← hF] at FW LN LZ LB ⊢
  clear hF q0
  obtain ⟨⟨xi, xk, xw⟩, ok⟩ := F
  replace FW := Lib.hid FW
  replace LN := Lib.hid LN
  replace LZ := Lib.hid LZ
  replace LB := Lib.hid LB
  have B7 := Blk.new w2 [.int .i64 xi, .string xk, .int .u32 xw] 57
  have kk := Ex.new w2 (.cells #[.int .i64 xi, .string xk, .int .u32 xw] 57)
  obtain ⟨w3, hw3⟩ : ∃ w3, w3 = w2.alloc (.cells #[.int .i64 xi, .string xk, .int .u32 xw] 57) := ⟨_, rfl⟩
  obtain ⟨g7, hg7⟩ : ∃ g7, g7 = w2.heap.size := ⟨_, rfl⟩
  replace B7 : Blk w3 g7 [.int .i64 xi, .string xk, .int .u32 xw] 57 := by rw [hw3, hg7]; exact B7
  rw [← hw3] at kk
  have Hw3 := Lib.hid hw3
  have Hg7 := Lib.hid hg7
  replace h := h.nx kk
  replace h2 := h2.nx kk
  replace EX := EX.nx kk
  replace B4 := B4.nx kk
  replace B6 := B6.nx kk
  clear kk hw3 hg7
  simp only [Nd.val]
  go_upto_region 2 with fail
  rw [← Hg7.out, ← Hw3.out]
  clear Hg7 Hw3
  have FAIL : ∀ wz, wz = w3 → 1 = 1 := fun _ _ => rfl
  clear FAIL
  by_cases hok : ok = true
  case neg =>
    obtain rfl : ok = false := by simpa using hok
    have E0 : Hid (L = (0, 0)) := Lib.hid (LN.out (fun hh => by cases hh.1))
    have r0 := B6.cell 0 _ rfl
    have r1 := B6.cell 1 _ rfl
    have f0 := B6.free 0
    have f1 := B6.free 1
    have KE := Lib.hid ((EX.setNew (p := ⟨g6, 0, none⟩) (.int .i64 0) zg6).setNew (p := ⟨g6, 1, none⟩) (.int .i64 0) zg6)
    clear h h2 EX B4 B6 B7 hok
    go_wp2_with fail
    refine bodyPost_ret (v := .agg #[.int .i64 0, .int .i64 0]) (by simp [results, Tryz.results47, go_sem, *]) rfl ⟨by rw [E0.out], KE.out⟩
  subst hok
  go_wp2_with fail
  (with_reducible refine (check_p _ _ _ _ _ h (by omega) hc hm).mono ?_)
  rintro e w4 ⟨rfl, kk⟩
  replace h := h.nx kk
  replace h2 := h2.nx kk
  replace EX := EX.nx kk
  replace B4 := B4.nx kk
  replace B6 := B6.nx kk
  replace B7 := B7.nx kk
  clear kk
  by_cases hbad : ¬ checkN N = 0 ∨ lev < 0 ∨ 16 < lev ∨ (n2 : Int) < lev
  case pos =>
    have E0 : Hid (L = (0, 0)) := Lib.hid (LN.out (fun hh => by
      rcases hbad with hb | hb | hb | hb
      · exact hb hh.2.1
      · have := hh.2.2.1; unfold lvlN at this; simp at this; omega
      · have := hh.2.2.1; unfold lvlN at this; simp at this; omega
      · have := hh.2.2.2; omega))
    have p4 := B4.cell 4 _ rfl
    have r0 := B6.cell 0 _ rfl
    have r1 := B6.cell 1 _ rfl
    have f0 := B6.free 0
    have f1 := B6.free 1
    have KE := Lib.hid ((EX.setNew (p := ⟨g6, 0, none⟩) (.int .i64 0) zg6).setNew (p := ⟨g6, 1, none⟩) (.int .i64 0) zg6)
    clear h h2 EX B4 B6 B7
    have HB : ((checkN N != 0) || (decide (lev < 0) || (decide (lev > 16) || decide (lev > (n2 : Int))))) = true := by
      rcases hbad with hb | hb | hb | hb
      · have : (checkN N != 0) = true := by simpa using hb
        rw [this]; rfl
      · have : decide (lev < 0) = true := by simpa using hb
        rw [this]; simp
      · have : decide (lev > 16) = true := by simpa using hb
        rw [this]; simp
      · have : decide (lev > (n2 : Int)) = true := by simpa using hb
        rw [this]; simp
    clear hbad
    by_cases b1 : checkN N = 0
    case neg =>
      have d1 : (checkN N != 0) = true := by simpa using b1
      clear HB b1
      go_wp2_with fail
      refine bodyPost_ret (v := .agg #[.int .i64 0, .int .i64 0]) (by simp [results, Tryz.results47, go_sem, *]) rfl ⟨by rw [E0.out], KE.out⟩
    have d1 : (checkN N != 0) = false := by simpa using b1
    rw [d1] at HB
    clear b1
    by_cases b2 : lev < 0
    · clear HB
      go_wp2_with fail
      refine bodyPost_ret (v := .agg #[.int .i64 0, .int .i64 0]) (by simp [results, Tryz.results47, go_sem, *]) rfl ⟨by rw [E0.out], KE.out⟩
    by_cases b3 : lev > 16
    · clear HB
      go_wp2_with fail
      refine bodyPost_ret (v := .agg #[.int .i64 0, .int .i64 0]) (by simp [results, Tryz.results47, go_sem, *]) rfl ⟨by rw [E0.out], KE.out⟩
    have b4 : lev > (n2 : Int) := by
      have e2 : decide (lev < 0) = false := by simpa using b2
      have e3 : decide (lev > 16) = false := by simpa using b3
      rw [e2, e3] at HB
      simpa using HB
    clear HB
    go_wp2_with fail
    refine bodyPost_ret (v := .agg #[.int .i64 0, .int .i64 0]) (by simp [results, Tryz.results47, go_sem, *]) rfl ⟨by rw [E0.out], KE.out⟩
  have hck : checkN N = 0 := Decidable.byContradiction (fun h => hbad (.inl h))
  have hl0 : 0 ≤ lev := by omega
  have hl1 : lev ≤ 16 := by omega
  have hl2 : lev ≤ (n2 : Int) := by omega
  have CND : Hid (True ∧ checkN N = 0 ∧ lvlN lev = true ∧ lev ≤ (n2 : Int)) := Lib.hid ⟨trivial, hck, lvl_of hl0 hl1, hl2⟩
  have d1 : (checkN N != 0) = false := by simpa using hck
  have d2 : decide (lev < 0) = false := by simp; omega
  have d3 : decide (lev > 16) = false := by simp; omega
  have d4 : decide (lev > (n2 : Int)) = false := by simp; omega
  have FWh := FW.out trivial
  clear hbad hck LN FW
  obtain ⟨k, rfl⟩ := Int.eq_ofNat_of_zero_le hl0
  have p2 := B4.cell 2 _ rfl
  have p3 := B4.cell 3 _ rfl
  have p4 := B4.cell 4 _ rfl
  go_upto_region 4 with fail
  by_cases h0 : (k : Int) = 0
  · have E0 := Lib.hid (LZ.out CND.out h0)
    have hk0 : k = 0 := by omega
    subst hk0
    have B9 := Blk.new w4 [.int .i64 p.left, .int .i64 p.right] 65
    have kk := Ex.new w4 (.cells #[.int .i64 p.left, .int .i64 p.right] 65)
    obtain ⟨w5, hw5⟩ : ∃ w5, w5 = w4.alloc (.cells #[.int .i64 p.left, .int .i64 p.right] 65) := ⟨_, rfl⟩
    obtain ⟨g9, hg9⟩ : ∃ g9, g9 = w4.heap.size := ⟨_, rfl⟩
    replace B9 : Blk w5 g9 [.int .i64 p.left, .int .i64 p.right] 65 := by rw [hw5, hg9]; exact B9
    rw [← hw5] at kk
    have Hw5 := Lib.hid hw5
    have Hg9 := Lib.hid hg9
    replace EX := EX.nx kk
    replace B4 := B4.nx kk
    replace B6 := B6.nx kk
    clear kk hw5 hg9
    clear h h2 B7 LZ LB h0
    go_upto_region 10 with fail
    clear p2 p3 p4
    rw [← Hg9.out, ← Hw5.out]
    clear Hg9 Hw5
    have Y0 : Hid (∀ wq, Ex w5 wq → wq.cell? ⟨g9, 0, none⟩ = some (.int .i64 p.left)) := Lib.hid (fun wq kq => (B9.nx kq).cell 0 _ rfl)
    have Y1 : Hid (∀ wq, Ex w5 wq → wq.cell? ⟨g9, 1, none⟩ = some (.int .i64 p.right)) := Lib.hid (fun wq kq => (B9.nx kq).cell 1 _ rfl)
    have QI : Hid (∀ wq, Ex w5 wq → wq.cell? ⟨g4, 0, none⟩ = some (.int .i64 p.id)) := Lib.hid (fun wq kq => (B4.nx kq).cell 0 _ rfl)
    have HS := Lib.hid (H0.out.nx EX)
    have K := Lib.hid EX
    replace B6 := Lib.hid B6
    clear B9 B4 EX
    refine wp_region_late_drew (S := Ex w5) [13] (by kernel_rfl) ((Ex.refl w5).drew) (fun hHeld => ?_)
    obtain ⟨wd, hwdx⟩ : ∃ wd : World, wd = World.drew w5 := ⟨_, rfl⟩
    rw [← hwdx] at hHeld ⊢
    have hDrew : Ex w5 wd := by rw [hwdx]; exact (Ex.refl w5).drew
    clear hwdx
    refine wpAnyL_take (i := 0) (oi := ⟨some 70, .move (.tmp 0), 23, "bridge.go:36", #[], none⟩) (v := ?_) rfl (by kernel_rfl) (by kernel_rfl) (by kernel_rfl) (fun _ _ _ h => h) (Or.inl ⟨by rfl, ?hyr1x0q5⟩) (by kernel_rfl) (by kernel_rfl) (by assumption) ?restr1x0q5
    case hyr1x0q5 => intro wq hSw; (go_simp); (try with_reducible rfl)
    try simp only [Act.put, List.setIfInBounds_toArray, List.set_cons_zero, List.set_cons_succ]
    refine wpAnyL_take (i := 1) (oi := ⟨some 71, .fieldAddr 65 (.tmp 9) 0, 0, "bridge.go:36", #[], none⟩) (v := ?_) rfl (by kernel_rfl) (by kernel_rfl) (by kernel_rfl) (fun _ _ _ h => h) (Or.inl ⟨by rfl, ?hyr1x1q8⟩) (by kernel_rfl) (by kernel_rfl) (by assumption) ?restr1x1q8
    case hyr1x1q8 => intro wq hSw; (go_simp); (try with_reducible rfl)
    try simp only [Act.put, List.setIfInBounds_toArray, List.set_cons_zero, List.set_cons_succ]
    refine wpAnyL_take (i := 2) (oi := ⟨some 72, .load 3 (.tmp 71), 3, "bridge.go:36", #[⟨1, .data⟩], none⟩) (v := ?_) rfl (by kernel_rfl) (by kernel_rfl) (by kernel_rfl) (fun _ _ _ h => h) (Or.inl ⟨by rfl, ?hyr1x2q11⟩) (by kernel_rfl) (by kernel_rfl) (by assumption) ?restr1x2q11
    case hyr1x2q11 => intro wq hSw; (have cq := Y0.out wq hSw; go_simp); (try with_reducible rfl)
    try simp only [Act.put, List.setIfInBounds_toArray, List.set_cons_zero, List.set_cons_succ]
    refine wpAnyL_take (i := 3) (oi := ⟨some 73, .fieldAddr 45 (.tmp 4) 0, 0, "bridge.go:36", #[], none⟩) (v := ?_) rfl (by kernel_rfl) (by kernel_rfl) (by kernel_rfl) (fun _ _ _ h => h) (Or.inl ⟨by rfl, ?hyr1x3q14⟩) (by kernel_rfl) (by kernel_rfl) (by assumption) ?restr1x3q14
    case hyr1x3q14 => intro wq hSw; (go_simp); (try with_reducible rfl)
    try simp only [Act.put, List.setIfInBounds_toArray, List.set_cons_zero, List.set_cons_succ]
    refine wpAnyL_take (i := 4) (oi := ⟨some 74, .load 3 (.tmp 73), 3, "bridge.go:36", #[⟨3, .data⟩], none⟩) (v := ?_) rfl (by kernel_rfl) (by kernel_rfl) (by kernel_rfl) (fun _ _ _ h => h) (Or.inl ⟨by rfl, ?hyr1x4q17⟩) (by kernel_rfl) (by kernel_rfl) (by assumption) ?restr1x4q17
    case hyr1x4q17 => intro wq hSw; (have cq := QI.out wq hSw; go_simp); (try with_reducible rfl)
    try simp only [Act.put, List.setIfInBounds_toArray, List.set_cons_zero, List.set_cons_succ]
    refine wpAnyL_take (i := 6) (oi := ⟨some 76, .move (.tmp 0), 23, "bridge.go:36", #[], none⟩) (v := ?_) rfl (by kernel_rfl) (by kernel_rfl) (by kernel_rfl) (fun _ _ _ h => h) (Or.inl ⟨by rfl, ?hyr1x6q20⟩) (by kernel_rfl) (by kernel_rfl) (by assumption) ?restr1x6q20
    case hyr1x6q20 => intro wq hSw; (go_simp); (try with_reducible rfl)
    try simp only [Act.put, List.setIfInBounds_toArray, List.set_cons_zero, List.set_cons_succ]
    refine wpAnyL_take (i := 7) (oi := ⟨some 77, .fieldAddr 65 (.tmp 9) 1, 0, "bridge.go:36", #[], none⟩) (v := ?_) rfl (by kernel_rfl) (by kernel_rfl) (by kernel_rfl) (fun _ _ _ h => h) (Or.inl ⟨by rfl, ?hyr1x7q23⟩) (by kernel_rfl) (by kernel_rfl) (by assumption) ?restr1x7q23
    case hyr1x7q23 => intro wq hSw; (go_simp); (try with_reducible rfl)
    try simp only [Act.put, List.setIfInBounds_toArray, List.set_cons_zero, List.set_cons_succ]
    refine wpAnyL_take (i := 8) (oi := ⟨some 78, .load 3 (.tmp 77), 3, "bridge.go:36", #[⟨7, .data⟩], none⟩) (v := ?_) rfl (by kernel_rfl) (by kernel_rfl) (by kernel_rfl) (fun _ _ _ h => h) (Or.inl ⟨by rfl, ?hyr1x8q26⟩) (by kernel_rfl) (by kernel_rfl) (by assumption) ?restr1x8q26
    case hyr1x8q26 => intro wq hSw; (have cq := Y1.out wq hSw; go_simp); (try with_reducible rfl)
    try simp only [Act.put, List.setIfInBounds_toArray, List.set_cons_zero, List.set_cons_succ]
    refine wpAnyL_take (i := 9) (oi := ⟨some 79, .fieldAddr 45 (.tmp 4) 0, 0, "bridge.go:36", #[], none⟩) (v := ?_) rfl (by kernel_rfl) (by kernel_rfl) (by kernel_rfl) (fun _ _ _ h => h) (Or.inl ⟨by rfl, ?hyr1x9q29⟩) (by kernel_rfl) (by kernel_rfl) (by assumption) ?restr1x9q29
    case hyr1x9q29 => intro wq hSw; (go_simp); (try with_reducible rfl)
    try simp only [Act.put, List.setIfInBounds_toArray, List.set_cons_zero, List.set_cons_succ]
    refine wpAnyL_take (i := 10) (oi := ⟨some 80, .load 3 (.tmp 79), 3, "bridge.go:36", #[⟨9, .data⟩], none⟩) (v := ?_) rfl (by kernel_rfl) (by kernel_rfl) (by kernel_rfl) (fun _ _ _ h => h) (Or.inl ⟨by rfl, ?hyr1x10q32⟩) (by kernel_rfl) (by kernel_rfl) (by assumption) ?restr1x10q32
    case hyr1x10q32 => intro wq hSw; (have cq := QI.out wq hSw; go_simp); (try with_reducible rfl)
    try simp only [Act.put, List.setIfInBounds_toArray, List.set_cons_zero, List.set_cons_succ]
    refine wpAnyL_ready (rs := [5]) (by kernel_rfl) (by simp) ?_
    refine AllReadyL.cons (o := ⟨some 75, .call { callee := .value (.func 84), args := #[.tmp 70, .tmp 72, .tmp 74], argTypes := #[23, 3, 3] }, 3, "bridge.go:36", #[⟨0, .data⟩, ⟨2, .data⟩, ⟨4, .data⟩], none⟩) rfl (fun K hK => ?_) AllReadyL.nil
    go_simp
    (with_reducible refine (other_p _ _ _ N p.left p.id _ (HS.out.nx hHeld) hn).mono ?_)
    rintro e wb ⟨rfl, kk⟩
    replace hHeld := hHeld.nx kk
    clear kk
    refine hK.out _ _ (hHeld) (fun hHeld => ?_)
    clear hK K
    try simp only [Act.put, List.setIfInBounds_toArray, List.set_cons_zero, List.set_cons_succ]
    refine wpAnyL_ready (rs := [11]) (by kernel_rfl) (by simp) ?_
    refine AllReadyL.cons (o := ⟨some 81, .call { callee := .value (.func 84), args := #[.tmp 76, .tmp 78, .tmp 80], argTypes := #[23, 3, 3] }, 3, "bridge.go:36", #[⟨6, .data⟩, ⟨8, .data⟩, ⟨10, .data⟩, ⟨5, .chain⟩], none⟩) rfl (fun K hK => ?_) AllReadyL.nil
    go_simp
    (with_reducible refine (other_p _ _ _ N p.right p.id _ (HS.out.nx hHeld) hn).mono ?_)
    rintro e wc ⟨rfl, kk⟩
    replace hHeld := hHeld.nx kk
    clear kk
    have B6z := B6.out.nx hHeld
    have f0 := B6z.free 0
    have f1 := B6z.free 1
    have r0 := B6z.cell 0 _ rfl
    have r1 := B6z.cell 1 _ rfl
    refine hK.out _ _ (hHeld) (fun hHeld => ?_)
    clear hK K
    try simp only [Act.put, List.setIfInBounds_toArray, List.set_cons_zero, List.set_cons_succ]
    refine wpAnyL_take (i := 12) (oi := ⟨some 82, .build 65 #[(0, .tmp 75), (1, .tmp 81)], 65, "bridge.go:36", #[⟨5, .data⟩, ⟨11, .data⟩], none⟩) (v := ?_) rfl (by kernel_rfl) (by kernel_rfl) (by kernel_rfl) (fun _ _ _ h => h) (Or.inl ⟨by rfl, ?hyr1x12q60⟩) (by kernel_rfl) (by kernel_rfl) (by assumption) ?restr1x12q60
    case hyr1x12q60 => intro wq hSw; (go_simp); (try with_reducible rfl)
    try simp only [Act.put, List.setIfInBounds_toArray, List.set_cons_zero, List.set_cons_succ]
    refine wpAnyL_ready (rs := [13]) (by kernel_rfl) (by simp) ?_
    refine AllReadyL.consL (o := ⟨none, .store 65 (.tmp 6) (.tmp 82), 0, "bridge.go:36", #[⟨12, .data⟩, ⟨11, .chain⟩, ⟨0, .phase⟩, ⟨1, .phase⟩, ⟨2, .phase⟩, ⟨3, .phase⟩, ⟨4, .phase⟩, ⟨5, .phase⟩, ⟨6, .phase⟩, ⟨7, .phase⟩, ⟨8, .phase⟩, ⟨9, .phase⟩, ⟨10, .phase⟩, ⟨11, .phase⟩, ⟨12, .phase⟩], none⟩) rfl (by rfl) (fun K hK => ?_) AllReadyL.nil
    go_simp
    refine hK.out _ _ ?_
    clear hK K
    try simp only [Act.put, List.setIfInBounds_toArray, List.set_cons_zero, List.set_cons_succ]
    refine wpAnyL_done (by kernel_rfl) ?_ _
    have KE := Lib.hid (((K.out.nx hHeld).setNew (p := ⟨g6, 0, none⟩) (.int .i64 (otherN N p.left p.id)) zg6).setNew (p := ⟨g6, 1, none⟩) (.int .i64 (otherN N p.right p.id)) zg6)
    clear hDrew hHeld B6z
    go_wp2_with fail
    refine bodyPost_ret (v := .agg #[.int .i64 (otherN N p.left p.id), .int .i64 (otherN N p.right p.id)]) (by simp [results, Tryz.results47, go_sem, *]) rfl ⟨by rw [E0.out], KE.out⟩
  · obtain ⟨x6, o6, ny, rfl, hx6, hny, hc6⟩ := h2.at (show k - 1 < n2 by omega)
    have LX := Lib.hid (LB.out ny CND.out h0 (by rw [show ((k : Int) - 1).toNat = k - 1 by omega]; exact near_at hny))
    have r0 : w4.cell? ⟨x6, o6 + (k - 1) * 4, none⟩ = some (.int .i64 ny.1) := hc6 0 _ rfl
    have r1 : w4.cell? ⟨x6, o6 + (k - 1) * 4 + 1, none⟩ = some (.int .i64 ny.2.1) := hc6 1 _ rfl
    have r2 : w4.cell? ⟨x6, o6 + (k - 1) * 4 + 1 + 1, none⟩ = some (.int .i64 ny.2.2.1) := by simpa [Nat.add_assoc] using hc6 2 _ rfl
    have r3 : w4.cell? ⟨x6, o6 + (k - 1) * 4 + 1 + 1 + 1, none⟩ = some (.int .i64 ny.2.2.2) := by simpa [Nat.add_assoc] using hc6 3 _ rfl
    have hkp : (0 : Int) < (k : Int) := by omega
    have hwk : IntKind.i64.wrap ((k : Int) - 1) = (k : Int) - 1 := IntWalk.i64_in _ (by omega)
    have h01 : (1 : Int) ≤ (k : Int) := by omega
    have h02 : (k : Int) - 1 < (n2 : Int) := by omega
    have hl4 := B4.lt
    have hl6 := B6.lt
    have hl7 := B7.lt
    have zz := EX.size
    have B9 := Blk.new w4 [.int .i64 p.left, .int .i64 p.right] 65
    have kk := Ex.new w4 (.cells #[.int .i64 p.left, .int .i64 p.right] 65)
    obtain ⟨w5, hw5⟩ : ∃ w5, w5 = w4.alloc (.cells #[.int .i64 p.left, .int .i64 p.right] 65) := ⟨_, rfl⟩
    obtain ⟨g9, hg9⟩ : ∃ g9, g9 = w4.heap.size := ⟨_, rfl⟩
    replace B9 : Blk w5 g9 [.int .i64 p.left, .int .i64 p.right] 65 := by rw [hw5, hg9]; exact B9
    rw [← hw5] at kk
    have Hw5 := Lib.hid hw5
    have Hg9 := Lib.hid hg9
    replace EX := EX.nx kk
    replace B4 := B4.nx kk
    replace B6 := B6.nx kk
    replace B7 := B7.nx kk
    have zg9 : w.heap.size ≤ g9 := by omega
    have h49 : ¬ g4 = g9 := by omega
    have h69 : ¬ g6 = g9 := by omega
    have h79 : ¬ g7 = g9 := by omega
    have t0 := Chg.cellv kk r0 hx6
    have t1 := Chg.cellv kk r1 hx6
    have t2 := Chg.cellv kk r2 hx6
    have t3 := Chg.cellv kk r3 hx6
    clear r0 r1 r2 r3 kk hw5 hg9 h h2 hc6 hny LB LZ h0 hl4 hl6 hl7 zz
    go_upto_region 5 with fail
    rw [← Hg9.out, ← Hw5.out]
    clear Hg9 Hw5
    have p4 := B4.cell 4 _ rfl
    clear p2 p3
    have hl9 := B9.lt
    have B10 := Blk.new w5 [.int .i64 ny.1, .int .i64 ny.2.1, .int .i64 ny.2.2.1, .int .i64 ny.2.2.2] 49
    have kk := Ex.new w5 (.cells #[.int .i64 ny.1, .int .i64 ny.2.1, .int .i64 ny.2.2.1, .int .i64 ny.2.2.2] 49)
    obtain ⟨w6, hw6⟩ : ∃ w6, w6 = w5.alloc (.cells #[.int .i64 ny.1, .int .i64 ny.2.1, .int .i64 ny.2.2.1, .int .i64 ny.2.2.2] 49) := ⟨_, rfl⟩
    obtain ⟨g10, hg10⟩ : ∃ g10, g10 = w5.heap.size := ⟨_, rfl⟩
    replace B10 : Blk w6 g10 [.int .i64 ny.1, .int .i64 ny.2.1, .int .i64 ny.2.2.1, .int .i64 ny.2.2.2] 49 := by rw [hw6, hg10]; exact B10
    rw [← hw6] at kk
    have Hw6 := Lib.hid hw6
    have Hg10 := Lib.hid hg10
    replace EX := EX.nx kk
    replace B4 := B4.nx kk
    replace B6 := B6.nx kk
    replace B7 := B7.nx kk
    replace B9 := B9.nx kk
    have h10 : ¬ g10 = g9 := by omega
    clear kk hw6 hg10 hl9
    go_upto_region 7 with fail
    rw [← Hg10.out, ← Hw6.out]
    clear Hg10 Hw6
    clear t0 t1 t2 t3 p4
    have u0 := B10.cell 0 _ rfl
    have u2 := B10.cell 2 _ rfl
    have f0 := B9.free 0
    have f1 := B9.free 1
    have v0 := B9.cell 0 _ rfl
    have v1 := B9.cell 1 _ rfl
    have KB0 : Exb g9 w6 ((w6.setCell ⟨g9, 0, none⟩ (.int .i64 ny.1)).setCell ⟨g9, 1, none⟩ (.int .i64 ny.2.2.1)) := ((Exb.refl g9 w6).setB (p := ⟨g9, 0, none⟩) _ rfl).setB (p := ⟨g9, 1, none⟩) _ rfl
    have BS0 : Blk ((w6.setCell ⟨g9, 0, none⟩ (.int .i64 ny.1)).setCell ⟨g9, 1, none⟩ (.int .i64 ny.2.2.1)) g9 [.int .i64 ny.1, .int .i64 ny.2.2.1] 65 := (B9.set 0 (.int .i64 ny.1)).set 1 (.int .i64 ny.2.2.1)
    have KS0 : Ex w ((w6.setCell ⟨g9, 0, none⟩ (.int .i64 ny.1)).setCell ⟨g9, 1, none⟩ (.int .i64 ny.2.2.1)) := (EX.setNew (p := ⟨g9, 0, none⟩) _ zg9).setNew (p := ⟨g9, 1, none⟩) _ zg9
    replace B4 := Lib.hid B4
    replace B6 := Lib.hid B6
    replace B7 := Lib.hid B7
    replace B10 := Lib.hid B10
    replace KB0 := Lib.hid KB0
    replace BS0 := Lib.hid BS0
    replace KS0 := Lib.hid KS0
    clear B9 EX
    go_upto_region 8 with fail
    obtain ⟨w7, hw7⟩ : ∃ w7, w7 = ((w6.setCell ⟨g9, 0, none⟩ (.int .i64 ny.1)).setCell ⟨g9, 1, none⟩ (.int .i64 ny.2.2.1)) := ⟨_, rfl⟩
    rw [← hw7] at KB0 BS0 KS0 ⊢
    have B9 := BS0.out
    have EX := KS0.out
    replace B4 := B4.out.nxb h49 KB0.out
    replace B6 := B6.out.nxb h69 KB0.out
    replace B7 := B7.out.nxb h79 KB0.out
    replace B10 := B10.out.nxb h10 KB0.out
    clear hw7 KB0 BS0 KS0 f0 f1 v0 v1
    clear u0 u2
    have q2 := B7.cell 2 _ rfl
    go_wp2_with fail
    refine (bit_p xw ((k : Int) - 1) _ FWh (by omega) (by omega)).mono ?_
    rintro e w8 ⟨rfl, rfl⟩
    by_cases hb : bitN xw ((k : Int) - 1) = 1
    · have E0 := Lib.hid (LX.out.1 hb)
      have db : (((bitN xw ((k : Int) - 1) : Nat) : Int) == 1) = true := by rw [hb]; rfl
      clear hb FWh LX
      have u0 := B10.cell 1 _ rfl
      have u2 := B10.cell 3 _ rfl
      have f0 := B9.free 0
      have f1 := B9.free 1
      have v0 := B9.cell 0 _ rfl
      have v1 := B9.cell 1 _ rfl
      have KB0 : Exb g9 w7 ((w7.setCell ⟨g9, 0, none⟩ (.int .i64 ny.2.1)).setCell ⟨g9, 1, none⟩ (.int .i64 ny.2.2.2)) := ((Exb.refl g9 w7).setB (p := ⟨g9, 0, none⟩) _ rfl).setB (p := ⟨g9, 1, none⟩) _ rfl
      have BS0 : Blk ((w7.setCell ⟨g9, 0, none⟩ (.int .i64 ny.2.1)).setCell ⟨g9, 1, none⟩ (.int .i64 ny.2.2.2)) g9 [.int .i64 ny.2.1, .int .i64 ny.2.2.2] 65 := (B9.set 0 (.int .i64 ny.2.1)).set 1 (.int .i64 ny.2.2.2)
      have KS0 : Ex w ((w7.setCell ⟨g9, 0, none⟩ (.int .i64 ny.2.1)).setCell ⟨g9, 1, none⟩ (.int .i64 ny.2.2.2)) := (EX.setNew (p := ⟨g9, 0, none⟩) _ zg9).setNew (p := ⟨g9, 1, none⟩) _ zg9
      replace B4 := Lib.hid B4
      replace B6 := Lib.hid B6
      replace B7 := Lib.hid B7
      replace B10 := Lib.hid B10
      replace KB0 := Lib.hid KB0
      replace BS0 := Lib.hid BS0
      replace KS0 := Lib.hid KS0
      clear B9 EX
      go_upto_region 10 with fail
      obtain ⟨w9, hw9⟩ : ∃ w9, w9 = ((w7.setCell ⟨g9, 0, none⟩ (.int .i64 ny.2.1)).setCell ⟨g9, 1, none⟩ (.int .i64 ny.2.2.2)) := ⟨_, rfl⟩
      rw [← hw9] at KB0 BS0 KS0 ⊢
      have B9 := BS0.out
      have EX := KS0.out
      replace B4 := B4.out.nxb h49 KB0.out
      replace B6 := B6.out.nxb h69 KB0.out
      replace B7 := B7.out.nxb h79 KB0.out
      replace B10 := B10.out.nxb h10 KB0.out
      clear hw9 KB0 BS0 KS0 f0 f1 v0 v1
      clear u0 u2 q2 B7 B10
      have Y0 : Hid (∀ wq, Ex w9 wq → wq.cell? ⟨g9, 0, none⟩ = some (.int .i64 ny.2.1)) := Lib.hid (fun wq kq => (B9.nx kq).cell 0 _ rfl)
      have Y1 : Hid (∀ wq, Ex w9 wq → wq.cell? ⟨g9, 1, none⟩ = some (.int .i64 ny.2.2.2)) := Lib.hid (fun wq kq => (B9.nx kq).cell 1 _ rfl)
      have QI : Hid (∀ wq, Ex w9 wq → wq.cell? ⟨g4, 0, none⟩ = some (.int .i64 p.id)) := Lib.hid (fun wq kq => (B4.nx kq).cell 0 _ rfl)
      have HS := Lib.hid (H0.out.nx EX)
      have K := Lib.hid EX
      replace B6 := Lib.hid B6
      clear B9 B4 EX
      refine wp_region_late_drew (S := Ex w9) [13] (by kernel_rfl) ((Ex.refl w9).drew) (fun hHeld => ?_)
      obtain ⟨wd, hwdx⟩ : ∃ wd : World, wd = World.drew w9 := ⟨_, rfl⟩
      rw [← hwdx] at hHeld ⊢
      have hDrew : Ex w9 wd := by rw [hwdx]; exact (Ex.refl w9).drew
      clear hwdx
      refine wpAnyL_take (i := 0) (oi := ⟨some 70, .move (.tmp 0), 23, "bridge.go:36", #[], none⟩) (v := ?_) rfl (by kernel_rfl) (by kernel_rfl) (by kernel_rfl) (fun _ _ _ h => h) (Or.inl ⟨by rfl, ?hyr2x0q5⟩) (by kernel_rfl) (by kernel_rfl) (by assumption) ?restr2x0q5
      case hyr2x0q5 => intro wq hSw; (go_simp); (try with_reducible rfl)
      try simp only [Act.put, List.setIfInBounds_toArray, List.set_cons_zero, List.set_cons_succ]
      refine wpAnyL_take (i := 1) (oi := ⟨some 71, .fieldAddr 65 (.tmp 9) 0, 0, "bridge.go:36", #[], none⟩) (v := ?_) rfl (by kernel_rfl) (by kernel_rfl) (by kernel_rfl) (fun _ _ _ h => h) (Or.inl ⟨by rfl, ?hyr2x1q8⟩) (by kernel_rfl) (by kernel_rfl) (by assumption) ?restr2x1q8
      case hyr2x1q8 => intro wq hSw; (go_simp); (try with_reducible rfl)
      try simp only [Act.put, List.setIfInBounds_toArray, List.set_cons_zero, List.set_cons_succ]
      refine wpAnyL_take (i := 2) (oi := ⟨some 72, .load 3 (.tmp 71), 3, "bridge.go:36", #[⟨1, .data⟩], none⟩) (v := ?_) rfl (by kernel_rfl) (by kernel_rfl) (by kernel_rfl) (fun _ _ _ h => h) (Or.inl ⟨by rfl, ?hyr2x2q11⟩) (by kernel_rfl) (by kernel_rfl) (by assumption) ?restr2x2q11
      case hyr2x2q11 => intro wq hSw; (have cq := Y0.out wq hSw; go_simp); (try with_reducible rfl)
      try simp only [Act.put, List.setIfInBounds_toArray, List.set_cons_zero, List.set_cons_succ]
      refine wpAnyL_take (i := 3) (oi := ⟨some 73, .fieldAddr 45 (.tmp 4) 0, 0, "bridge.go:36", #[], none⟩) (v := ?_) rfl (by kernel_rfl) (by kernel_rfl) (by kernel_rfl) (fun _ _ _ h => h) (Or.inl ⟨by rfl, ?hyr2x3q14⟩) (by kernel_rfl) (by kernel_rfl) (by assumption) ?restr2x3q14
      case hyr2x3q14 => intro wq hSw; (go_simp); (try with_reducible rfl)
      try simp only [Act.put, List.setIfInBounds_toArray, List.set_cons_zero, List.set_cons_succ]
      refine wpAnyL_take (i := 4) (oi := ⟨some 74, .load 3 (.tmp 73), 3, "bridge.go:36", #[⟨3, .data⟩], none⟩) (v := ?_) rfl (by kernel_rfl) (by kernel_rfl) (by kernel_rfl) (fun _ _ _ h => h) (Or.inl ⟨by rfl, ?hyr2x4q17⟩) (by kernel_rfl) (by kernel_rfl) (by assumption) ?restr2x4q17
      case hyr2x4q17 => intro wq hSw; (have cq := QI.out wq hSw; go_simp); (try with_reducible rfl)
      try simp only [Act.put, List.setIfInBounds_toArray, List.set_cons_zero, List.set_cons_succ]
      refine wpAnyL_take (i := 6) (oi := ⟨some 76, .move (.tmp 0), 23, "bridge.go:36", #[], none⟩) (v := ?_) rfl (by kernel_rfl) (by kernel_rfl) (by kernel_rfl) (fun _ _ _ h => h) (Or.inl ⟨by rfl, ?hyr2x6q20⟩) (by kernel_rfl) (by kernel_rfl) (by assumption) ?restr2x6q20
      case hyr2x6q20 => intro wq hSw; (go_simp); (try with_reducible rfl)
      try simp only [Act.put, List.setIfInBounds_toArray, List.set_cons_zero, List.set_cons_succ]
      refine wpAnyL_take (i := 7) (oi := ⟨some 77, .fieldAddr 65 (.tmp 9) 1, 0, "bridge.go:36", #[], none⟩) (v := ?_) rfl (by kernel_rfl) (by kernel_rfl) (by kernel_rfl) (fun _ _ _ h => h) (Or.inl ⟨by rfl, ?hyr2x7q23⟩) (by kernel_rfl) (by kernel_rfl) (by assumption) ?restr2x7q23
      case hyr2x7q23 => intro wq hSw; (go_simp); (try with_reducible rfl)
      try simp only [Act.put, List.setIfInBounds_toArray, List.set_cons_zero, List.set_cons_succ]
      refine wpAnyL_take (i := 8) (oi := ⟨some 78, .load 3 (.tmp 77), 3, "bridge.go:36", #[⟨7, .data⟩], none⟩) (v := ?_) rfl (by kernel_rfl) (by kernel_rfl) (by kernel_rfl) (fun _ _ _ h => h) (Or.inl ⟨by rfl, ?hyr2x8q26⟩) (by kernel_rfl) (by kernel_rfl) (by assumption) ?restr2x8q26
      case hyr2x8q26 => intro wq hSw; (have cq := Y1.out wq hSw; go_simp); (try with_reducible rfl)
      try simp only [Act.put, List.setIfInBounds_toArray, List.set_cons_zero, List.set_cons_succ]
      refine wpAnyL_take (i := 9) (oi := ⟨some 79, .fieldAddr 45 (.tmp 4) 0, 0, "bridge.go:36", #[], none⟩) (v := ?_) rfl (by kernel_rfl) (by kernel_rfl) (by kernel_rfl) (fun _ _ _ h => h) (Or.inl ⟨by rfl, ?hyr2x9q29⟩) (by kernel_rfl) (by kernel_rfl) (by assumption) ?restr2x9q29
      case hyr2x9q29 => intro wq hSw; (go_simp); (try with_reducible rfl)
      try simp only [Act.put, List.setIfInBounds_toArray, List.set_cons_zero, List.set_cons_succ]
      refine wpAnyL_take (i := 10) (oi := ⟨some 80, .load 3 (.tmp 79), 3, "bridge.go:36", #[⟨9, .data⟩], none⟩) (v := ?_) rfl (by kernel_rfl) (by kernel_rfl) (by kernel_rfl) (fun _ _ _ h => h) (Or.inl ⟨by rfl, ?hyr2x10q32⟩) (by kernel_rfl) (by kernel_rfl) (by assumption) ?restr2x10q32
      case hyr2x10q32 => intro wq hSw; (have cq := QI.out wq hSw; go_simp); (try with_reducible rfl)
      try simp only [Act.put, List.setIfInBounds_toArray, List.set_cons_zero, List.set_cons_succ]
      refine wpAnyL_ready (rs := [5]) (by kernel_rfl) (by simp) ?_
      refine AllReadyL.cons (o := ⟨some 75, .call { callee := .value (.func 84), args := #[.tmp 70, .tmp 72, .tmp 74], argTypes := #[23, 3, 3] }, 3, "bridge.go:36", #[⟨0, .data⟩, ⟨2, .data⟩, ⟨4, .data⟩], none⟩) rfl (fun K hK => ?_) AllReadyL.nil
      go_simp
      (with_reducible refine (other_p _ _ _ N ny.2.1 p.id _ (HS.out.nx hHeld) hn).mono ?_)
      rintro e wb ⟨rfl, kk⟩
      replace hHeld := hHeld.nx kk
      clear kk
      refine hK.out _ _ (hHeld) (fun hHeld => ?_)
      clear hK K
      try simp only [Act.put, List.setIfInBounds_toArray, List.set_cons_zero, List.set_cons_succ]
      refine wpAnyL_ready (rs := [11]) (by kernel_rfl) (by simp) ?_
      refine AllReadyL.cons (o := ⟨some 81, .call { callee := .value (.func 84), args := #[.tmp 76, .tmp 78, .tmp 80], argTypes := #[23, 3, 3] }, 3, "bridge.go:36", #[⟨6, .data⟩, ⟨8, .data⟩, ⟨10, .data⟩, ⟨5, .chain⟩], none⟩) rfl (fun K hK => ?_) AllReadyL.nil
      go_simp
      (with_reducible refine (other_p _ _ _ N ny.2.2.2 p.id _ (HS.out.nx hHeld) hn).mono ?_)
      rintro e wc ⟨rfl, kk⟩
      replace hHeld := hHeld.nx kk
      clear kk
      have B6z := B6.out.nx hHeld
      have f0 := B6z.free 0
      have f1 := B6z.free 1
      have r0 := B6z.cell 0 _ rfl
      have r1 := B6z.cell 1 _ rfl
      refine hK.out _ _ (hHeld) (fun hHeld => ?_)
      clear hK K
      try simp only [Act.put, List.setIfInBounds_toArray, List.set_cons_zero, List.set_cons_succ]
      refine wpAnyL_take (i := 12) (oi := ⟨some 82, .build 65 #[(0, .tmp 75), (1, .tmp 81)], 65, "bridge.go:36", #[⟨5, .data⟩, ⟨11, .data⟩], none⟩) (v := ?_) rfl (by kernel_rfl) (by kernel_rfl) (by kernel_rfl) (fun _ _ _ h => h) (Or.inl ⟨by rfl, ?hyr2x12q60⟩) (by kernel_rfl) (by kernel_rfl) (by assumption) ?restr2x12q60
      case hyr2x12q60 => intro wq hSw; (go_simp); (try with_reducible rfl)
      try simp only [Act.put, List.setIfInBounds_toArray, List.set_cons_zero, List.set_cons_succ]
      refine wpAnyL_ready (rs := [13]) (by kernel_rfl) (by simp) ?_
      refine AllReadyL.consL (o := ⟨none, .store 65 (.tmp 6) (.tmp 82), 0, "bridge.go:36", #[⟨12, .data⟩, ⟨11, .chain⟩, ⟨0, .phase⟩, ⟨1, .phase⟩, ⟨2, .phase⟩, ⟨3, .phase⟩, ⟨4, .phase⟩, ⟨5, .phase⟩, ⟨6, .phase⟩, ⟨7, .phase⟩, ⟨8, .phase⟩, ⟨9, .phase⟩, ⟨10, .phase⟩, ⟨11, .phase⟩, ⟨12, .phase⟩], none⟩) rfl (by rfl) (fun K hK => ?_) AllReadyL.nil
      go_simp
      refine hK.out _ _ ?_
      clear hK K
      try simp only [Act.put, List.setIfInBounds_toArray, List.set_cons_zero, List.set_cons_succ]
      refine wpAnyL_done (by kernel_rfl) ?_ _
      have KE := Lib.hid (((K.out.nx hHeld).setNew (p := ⟨g6, 0, none⟩) (.int .i64 (otherN N ny.2.1 p.id)) zg6).setNew (p := ⟨g6, 1, none⟩) (.int .i64 (otherN N ny.2.2.2 p.id)) zg6)
      clear hDrew hHeld B6z
      go_wp2_with fail
      refine bodyPost_ret (v := .agg #[.int .i64 (otherN N ny.2.1 p.id), .int .i64 (otherN N ny.2.2.2 p.id)]) (by simp [results, Tryz.results47, go_sem, *]) rfl ⟨by rw [E0.out], KE.out⟩
    · have E0 := Lib.hid (LX.out.2 hb)
      have db : (((bitN xw ((k : Int) - 1) : Nat) : Int) == 1) = false := by simp; omega
      clear hb FWh LX
      go_upto_region 10 with fail
      clear q2 B7 B10
      have Y0 : Hid (∀ wq, Ex w7 wq → wq.cell? ⟨g9, 0, none⟩ = some (.int .i64 ny.1)) := Lib.hid (fun wq kq => (B9.nx kq).cell 0 _ rfl)
      have Y1 : Hid (∀ wq, Ex w7 wq → wq.cell? ⟨g9, 1, none⟩ = some (.int .i64 ny.2.2.1)) := Lib.hid (fun wq kq => (B9.nx kq).cell 1 _ rfl)
      have QI : Hid (∀ wq, Ex w7 wq → wq.cell? ⟨g4, 0, none⟩ = some (.int .i64 p.id)) := Lib.hid (fun wq kq => (B4.nx kq).cell 0 _ rfl)
      have HS := Lib.hid (H0.out.nx EX)
      have K := Lib.hid EX
      replace B6 := Lib.hid B6
      clear B9 B4 EX
      refine wp_region_late_drew (S := Ex w7) [13] (by kernel_rfl) ((Ex.refl w7).drew) (fun hHeld => ?_)
      obtain ⟨wd, hwdx⟩ : ∃ wd : World, wd = World.drew w7 := ⟨_, rfl⟩
      rw [← hwdx] at hHeld ⊢
      have hDrew : Ex w7 wd := by rw [hwdx]; exact (Ex.refl w7).drew
      clear hwdx
      refine wpAnyL_take (i := 0) (oi := ⟨some 70, .move (.tmp 0), 23, "bridge.go:36", #[], none⟩) (v := ?_) rfl (by kernel_rfl) (by kernel_rfl) (by kernel_rfl) (fun _ _ _ h => h) (Or.inl ⟨by rfl, ?hyr3x0q5⟩) (by kernel_rfl) (by kernel_rfl) (by assumption) ?restr3x0q5
      case hyr3x0q5 => intro wq hSw; (go_simp); (try with_reducible rfl)
      try simp only [Act.put, List.setIfInBounds_toArray, List.set_cons_zero, List.set_cons_succ]
      refine wpAnyL_take (i := 1) (oi := ⟨some 71, .fieldAddr 65 (.tmp 9) 0, 0, "bridge.go:36", #[], none⟩) (v := ?_) rfl (by kernel_rfl) (by kernel_rfl) (by kernel_rfl) (fun _ _ _ h => h) (Or.inl ⟨by rfl, ?hyr3x1q8⟩) (by kernel_rfl) (by kernel_rfl) (by assumption) ?restr3x1q8
      case hyr3x1q8 => intro wq hSw; (go_simp); (try with_reducible rfl)
      try simp only [Act.put, List.setIfInBounds_toArray, List.set_cons_zero, List.set_cons_succ]
      refine wpAnyL_take (i := 2) (oi := ⟨some 72, .load 3 (.tmp 71), 3, "bridge.go:36", #[⟨1, .data⟩], none⟩) (v := ?_) rfl (by kernel_rfl) (by kernel_rfl) (by kernel_rfl) (fun _ _ _ h => h) (Or.inl ⟨by rfl, ?hyr3x2q11⟩) (by kernel_rfl) (by kernel_rfl) (by assumption) ?restr3x2q11
      case hyr3x2q11 => intro wq hSw; (have cq := Y0.out wq hSw; go_simp); (try with_reducible rfl)
      try simp only [Act.put, List.setIfInBounds_toArray, List.set_cons_zero, List.set_cons_succ]
      refine wpAnyL_take (i := 3) (oi := ⟨some 73, .fieldAddr 45 (.tmp 4) 0, 0, "bridge.go:36", #[], none⟩) (v := ?_) rfl (by kernel_rfl) (by kernel_rfl) (by kernel_rfl) (fun _ _ _ h => h) (Or.inl ⟨by rfl, ?hyr3x3q14⟩) (by kernel_rfl) (by kernel_rfl) (by assumption) ?restr3x3q14
      case hyr3x3q14 => intro wq hSw; (go_simp); (try with_reducible rfl)
      try simp only [Act.put, List.setIfInBounds_toArray, List.set_cons_zero, List.set_cons_succ]
      refine wpAnyL_take (i := 4) (oi := ⟨some 74, .load 3 (.tmp 73), 3, "bridge.go:36", #[⟨3, .data⟩], none⟩) (v := ?_) rfl (by kernel_rfl) (by kernel_rfl) (by kernel_rfl) (fun _ _ _ h => h) (Or.inl ⟨by rfl, ?hyr3x4q17⟩) (by kernel_rfl) (by kernel_rfl) (by assumption) ?restr3x4q17
      case hyr3x4q17 => intro wq hSw; (have cq := QI.out wq hSw; go_simp); (try with_reducible rfl)
      try simp only [Act.put, List.setIfInBounds_toArray, List.set_cons_zero, List.set_cons_succ]
      refine wpAnyL_take (i := 6) (oi := ⟨some 76, .move (.tmp 0), 23, "bridge.go:36", #[], none⟩) (v := ?_) rfl (by kernel_rfl) (by kernel_rfl) (by kernel_rfl) (fun _ _ _ h => h) (Or.inl ⟨by rfl, ?hyr3x6q20⟩) (by kernel_rfl) (by kernel_rfl) (by assumption) ?restr3x6q20
      case hyr3x6q20 => intro wq hSw; (go_simp); (try with_reducible rfl)
      try simp only [Act.put, List.setIfInBounds_toArray, List.set_cons_zero, List.set_cons_succ]
      refine wpAnyL_take (i := 7) (oi := ⟨some 77, .fieldAddr 65 (.tmp 9) 1, 0, "bridge.go:36", #[], none⟩) (v := ?_) rfl (by kernel_rfl) (by kernel_rfl) (by kernel_rfl) (fun _ _ _ h => h) (Or.inl ⟨by rfl, ?hyr3x7q23⟩) (by kernel_rfl) (by kernel_rfl) (by assumption) ?restr3x7q23
      case hyr3x7q23 => intro wq hSw; (go_simp); (try with_reducible rfl)
      try simp only [Act.put, List.setIfInBounds_toArray, List.set_cons_zero, List.set_cons_succ]
      refine wpAnyL_take (i := 8) (oi := ⟨some 78, .load 3 (.tmp 77), 3, "bridge.go:36", #[⟨7, .data⟩], none⟩) (v := ?_) rfl (by kernel_rfl) (by kernel_rfl) (by kernel_rfl) (fun _ _ _ h => h) (Or.inl ⟨by rfl, ?hyr3x8q26⟩) (by kernel_rfl) (by kernel_rfl) (by assumption) ?restr3x8q26
      case hyr3x8q26 => intro wq hSw; (have cq := Y1.out wq hSw; go_simp); (try with_reducible rfl)
      try simp only [Act.put, List.setIfInBounds_toArray, List.set_cons_zero, List.set_cons_succ]
      refine wpAnyL_take (i := 9) (oi := ⟨some 79, .fieldAddr 45 (.tmp 4) 0, 0, "bridge.go:36", #[], none⟩) (v := ?_) rfl (by kernel_rfl) (by kernel_rfl) (by kernel_rfl) (fun _ _ _ h => h) (Or.inl ⟨by rfl, ?hyr3x9q29⟩) (by kernel_rfl) (by kernel_rfl) (by assumption) ?restr3x9q29
      case hyr3x9q29 => intro wq hSw; (go_simp); (try with_reducible rfl)
      try simp only [Act.put, List.setIfInBounds_toArray, List.set_cons_zero, List.set_cons_succ]
      refine wpAnyL_take (i := 10) (oi := ⟨some 80, .load 3 (.tmp 79), 3, "bridge.go:36", #[⟨9, .data⟩], none⟩) (v := ?_) rfl (by kernel_rfl) (by kernel_rfl) (by kernel_rfl) (fun _ _ _ h => h) (Or.inl ⟨by rfl, ?hyr3x10q32⟩) (by kernel_rfl) (by kernel_rfl) (by assumption) ?restr3x10q32
      case hyr3x10q32 => intro wq hSw; (have cq := QI.out wq hSw; go_simp); (try with_reducible rfl)
      try simp only [Act.put, List.setIfInBounds_toArray, List.set_cons_zero, List.set_cons_succ]
      refine wpAnyL_ready (rs := [5]) (by kernel_rfl) (by simp) ?_
      refine AllReadyL.cons (o := ⟨some 75, .call { callee := .value (.func 84), args := #[.tmp 70, .tmp 72, .tmp 74], argTypes := #[23, 3, 3] }, 3, "bridge.go:36", #[⟨0, .data⟩, ⟨2, .data⟩, ⟨4, .data⟩], none⟩) rfl (fun K hK => ?_) AllReadyL.nil
      go_simp
      (with_reducible refine (other_p _ _ _ N ny.1 p.id _ (HS.out.nx hHeld) hn).mono ?_)
      rintro e wb ⟨rfl, kk⟩
      replace hHeld := hHeld.nx kk
      clear kk
      refine hK.out _ _ (hHeld) (fun hHeld => ?_)
      clear hK K
      try simp only [Act.put, List.setIfInBounds_toArray, List.set_cons_zero, List.set_cons_succ]
      refine wpAnyL_ready (rs := [11]) (by kernel_rfl) (by simp) ?_
      refine AllReadyL.cons (o := ⟨some 81, .call { callee := .value (.func 84), args := #[.tmp 76, .tmp 78, .tmp 80], argTypes := #[23, 3, 3] }, 3, "bridge.go:36", #[⟨6, .data⟩, ⟨8, .data⟩, ⟨10, .data⟩, ⟨5, .chain⟩], none⟩) rfl (fun K hK => ?_) AllReadyL.nil
      go_simp
      (with_reducible refine (other_p _ _ _ N ny.2.2.1 p.id _ (HS.out.nx hHeld) hn).mono ?_)
      rintro e wc ⟨rfl, kk⟩
      replace hHeld := hHeld.nx kk
      clear kk
      have B6z := B6.out.nx hHeld
      have f0 := B6z.free 0
      have f1 := B6z.free 1
      have r0 := B6z.cell 0 _ rfl
      have r1 := B6z.cell 1 _ rfl
      refine hK.out _ _ (hHeld) (fun hHeld => ?_)
      clear hK K
      try simp only [Act.put, List.setIfInBounds_toArray, List.set_cons_zero, List.set_cons_succ]
      refine wpAnyL_take (i := 12) (oi := ⟨some 82, .build 65 #[(0, .tmp 75), (1, .tmp 81)], 65, "bridge.go:36", #[⟨5, .data⟩, ⟨11, .data⟩], none⟩) (v := ?_) rfl (by kernel_rfl) (by kernel_rfl) (by kernel_rfl) (fun _ _ _ h => h) (Or.inl ⟨by rfl, ?hyr3x12q60⟩) (by kernel_rfl) (by kernel_rfl) (by assumption) ?restr3x12q60
      case hyr3x12q60 => intro wq hSw; (go_simp); (try with_reducible rfl)
      try simp only [Act.put, List.setIfInBounds_toArray, List.set_cons_zero, List.set_cons_succ]
      refine wpAnyL_ready (rs := [13]) (by kernel_rfl) (by simp) ?_
      refine AllReadyL.consL (o := ⟨none, .store 65 (.tmp 6) (.tmp 82), 0, "bridge.go:36", #[⟨12, .data⟩, ⟨11, .chain⟩, ⟨0, .phase⟩, ⟨1, .phase⟩, ⟨2, .phase⟩, ⟨3, .phase⟩, ⟨4, .phase⟩, ⟨5, .phase⟩, ⟨6, .phase⟩, ⟨7, .phase⟩, ⟨8, .phase⟩, ⟨9, .phase⟩, ⟨10, .phase⟩, ⟨11, .phase⟩, ⟨12, .phase⟩], none⟩) rfl (by rfl) (fun K hK => ?_) AllReadyL.nil
      go_simp
      refine hK.out _ _ ?_
      clear hK K
      try simp only [Act.put, List.setIfInBounds_toArray, List.set_cons_zero, List.set_cons_succ]
      refine wpAnyL_done (by kernel_rfl) ?_ _
      have KE := Lib.hid (((K.out.nx hHeld).setNew (p := ⟨g6, 0, none⟩) (.int .i64 (otherN N ny.1 p.id)) zg6).setNew (p := ⟨g6, 1, none⟩) (.int .i64 (otherN N ny.2.2.1 p.id)) zg6)
      clear hDrew hHeld B6z
      go_wp2_with fail
      refine bodyPost_ret (v := .agg #[.int .i64 (otherN N ny.1 p.id), .int .i64 (otherN N ny.2.2.1 p.id)]) (by simp [results, Tryz.results47, go_sem, *]) rfl ⟨by rw [E0.out], KE.out⟩
end Go.Proofs.YtbnbjiddffihoaaGreatDoor
