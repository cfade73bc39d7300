/- Shared texts. -/
import Derived.Deep.LoopGhost
import Derived.Test.YtlgdjigocopglaaGreatDoorRqAll15
import Derived.Test.YtlgdjigocopglaaGreatDoorRqAll16
set_option linter.unusedSimpArgs false
set_option linter.unusedVariables false

namespace Go.Proofs.YtlgdjigocopglaaGreatDoor
open Go.RowKit
def DirN (key : List UInt8) (right : Bool) (x y : Nd) : Prop := if right then Op.bytesLess x.key.toList y.key.toList = true ∧ Op.bytesLess key y.key.toList = false else Op.bytesLess y.key.toList x.key.toList = true ∧ Op.bytesLess key y.key.toList = true
def HopsOk (N : List Nd) (key : List UInt8) (right : Bool) (x' : Nd) : Nd → Nat → List Hop → Prop
 | x, _, [] => x = x'
 | x, lev, h :: hs => ∃ (y : Nd) (lev' : Nat), y ∈ N ∧ h = (x.id, y.id, (lev' : Int)) ∧ lev' ≤ lev ∧ DirN key right x y ∧ HopsOk N key right x' y lev' hs
variable {N : List Nd} {L : List Lkd} {key : List UInt8} {right : Bool}
theorem HopsOk.mono {x' : Nd} : ∀ {hs : List Hop} {x : Nd} {lev lev2 : Nat}, HopsOk N key right x' x lev hs → lev ≤ lev2 → HopsOk N key right x' x lev2 hs
 | [], _, _, _, h, _ => h
 | _ :: _, _, _, _, ⟨y, l', h1, h2, h3, h4, h5⟩, hl => ⟨y, l', h1, h2, by omega, h4, h5⟩
theorem HopsOk.len {x' : Nd} : ∀ {hs : List Hop} {x : Nd} {lev : Nat}, HopsOk N key right x' x lev hs → hs.length + bey N right x' ≤ bey N right x
 | [], _, _, h => by rw [← show _ = x' from h]; simp
 | _ :: hs, x, _, ⟨y, l', h1, h2, h3, h4, h5⟩ => by
  have := h5.len
  have hlt : bey N right y < bey N right x := by
   unfold bey
   cases right with
   | true =>
    unfold DirN at h4
    rw [if_pos rfl] at h4
    refine count_lt h1 (fun z hz => ?_) ?_ ?_
    ·rw [if_pos rfl] at hz ⊢; exact bl_trans h4.1 hz
    ·rw [if_pos rfl]; exact h4.1
    ·rw [if_pos rfl]; exact bytesLess_irrefl _
   | false =>
    unfold DirN at h4
    rw [if_neg (by simp)] at h4
    refine count_lt h1 (fun z hz => ?_) ?_ ?_
    ·rw [if_neg (by simp)] at hz ⊢; exact bl_trans hz h4.1
    ·rw [if_neg (by simp)]; exact h4.1
    ·rw [if_neg (by simp)]; exact bytesLess_irrefl _
  simp only [List.length_cons]
  omega
theorem HopsOk.mem {x' : Nd} : ∀ {hs : List Hop} {x : Nd} {lev : Nat}, HopsOk N key right x' x lev hs → x ∈ N → x' ∈ N
 | [], _, _, h, hx => by rw [← show _ = x' from h]; exact hx
 | _ :: _, _, _, ⟨_, _, h1, _, _, _, h5⟩, _ => h5.mem h1
theorem Tryz.infoNr : (Tryz.prog.info? 50).map (fun i => (i.zero, i.size, i.bytes)) = some (some (.agg #[.int .i64 0, .int .i64 0, .int .i64 0, .int .i64 0]), 4, 32) := by kernel_rfl
theorem Tryz.infoPr : (Tryz.prog.info? 41).map (fun i => (i.zero, i.size, i.bytes)) = some (some (.agg #[.int .i64 0, .slice none 0 0, .int .i64 0, .int .i64 0, .slice none 0 0]), 5, 72) := by kernel_rfl
theorem wp_append_rqW {P : Program} {α : Type} {enc : α → List Value} {o : Oper} {a : Act} {K : Act → World → Prop} {Q : Exit → Act → World → Prop} (w0 : World) (s x : Operand) (t : TypeId)
  (ho : o.op = .call { callee := .builtin .append, args := #[s, x], argTypes := #[t, t] })
  (base : Nat) (e : TypeId) (z : Value) (sz bytes : Nat) (ht : P.underlying t = some (.slice e)) (hi : (P.info? e).map (fun i => (i.zero, i.size, i.bytes)) = some (some z, sz, bytes))
  (hzs : z.cells.size = sz) (hsz : 0 < sz) (hby : bytes ≤ 65536)
  (v : Value) (l : List α) (hown : OwnL sz enc e base w0 v l) (hs : a.eval s = v) (A : Option Addr) (n c : Nat) (news : List α) (hrd : Sl sz enc w0 A n news) (hlen : ∀ y, (enc y).length = sz) (h1 : ∀ y, ∀ u ∈ enc y, u.oneCell' = true)
  (hx : a.eval x = .slice A n c) (hb1 : 0 < bytes) (hmul : (l.length + n) * bytes ≤ 140737488355328) (hbase : base ≤ w0.heap.size)
  (h : ∀ v' w', OwnL sz enc e base w' v' (l ++ news) → Chg (fun k => k < w0.heap.size ∧ ¬ v.ownBlock = some k) w0 w' → Chg (· < base) w0 w' → K (a.put o.dst v') w') :
  o.wp P a w0 K Q := by
 by_cases hA : A = none → c = 0
 ·exact wp_append_rdW w0 s x t ho base e z sz bytes ht hi hzs hsz hby v l hown hs (· < w0.heap.size) A n c news hrd hA hlen h1 hx hb1 hmul hbase h
 ·have hAn : A = none := by
   cases A with
   | none => rfl
   | some _ => exact absurd (fun h => by cases h) hA
  subst hAn
  obtain ⟨i, hi, hz0, hz1, hz2⟩ := info_parts hi
  have hn0 : n = 0 := by
   rcases hrd.2 with h0 | ⟨x, o, e1, _⟩
   ·exact h0
   ·cases e1
  subst hn0
  have hnews : news = [] := List.eq_nil_of_length_eq_zero hrd.1
  subst hnews
  have hrun : (Builtin.append_ #[t, t] o.type #[v, .slice none 0 c]).run P w0 = .ok v w0 := by
   rcases hown.2 with ⟨rfl, _⟩ | ⟨g, cap, cur, rfl, _, _, hnc, _⟩
   ·simp [Builtin.append_, run_underlying ht, sizeOf, typeInfo, hi, Builtin.lenOf, Builtin.firstCells, loadCells, loadCellsFrom]
   ·simp [Builtin.append_, run_underlying ht, sizeOf, typeInfo, hi, Builtin.lenOf, Builtin.firstCells, hnc, storeCells, loadCells, loadCellsFrom]
  unfold Oper.wp execOp
  simp only [ho, resolve, invoke, builtin, Sem.run_bind, Sem.run_pure, Result.andThen_ok, List.map_toArray, List.map_cons, List.map_nil, hs, hx, hrun]
  exact h v w0 (by simpa using hown) (Chg.refl _ _) (Chg.refl _ _)
theorem wpList_append_rqW {P : Program} {α : Type} {enc : α → List Value} {ops : Array Oper} {rest : List Oper} {o : Oper} {a : Act} {Q : Exit → Act → World → Prop} (w0 : World) (hgd : o.guard = none) (s x : Operand) (t : TypeId)
  (ho : o.op = .call { callee := .builtin .append, args := #[s, x], argTypes := #[t, t] })
  (base : Nat) (e : TypeId) (z : Value) (sz bytes : Nat) (ht : P.underlying t = some (.slice e)) (hi : (P.info? e).map (fun i => (i.zero, i.size, i.bytes)) = some (some z, sz, bytes))
  (hzs : z.cells.size = sz) (hsz : 0 < sz) (hby : bytes ≤ 65536)
  (v : Value) (l : List α) (hown : OwnL sz enc e base w0 v l) (hs : a.eval s = v) (A : Option Addr) (n c : Nat) (news : List α) (hrd : Sl sz enc w0 A n news) (hlen : ∀ y, (enc y).length = sz) (h1 : ∀ y, ∀ u ∈ enc y, u.oneCell' = true)
  (hx : a.eval x = .slice A n c) (hb1 : 0 < bytes) (hmul : (l.length + n) * bytes ≤ 140737488355328) (hbase : base ≤ w0.heap.size)
  (h : ∀ v' w', OwnL sz enc e base w' v' (l ++ news) → Chg (fun k => k < w0.heap.size ∧ ¬ v.ownBlock = some k) w0 w' → Chg (· < base) w0 w' → wpList P ops Q rest (a.put o.dst v') w') :
  wpList P ops Q (o :: rest) a w0 :=
 wpList_plain hgd fun _ hK => wp_append_rqW w0 s x t ho base e z sz bytes ht hi hzs hsz hby v l hown hs A n c news hrd hlen h1 hx hb1 hmul hbase fun v' w' h2 h3 h4 => hK _ _ (h v' w' h2 h3 h4)
set_option maxRecDepth 100000 in
set_option maxHeartbeats 2000000 in
theorem clone_i (a : Option Addr) (n c : Nat) (l : List Int) (w : World) (h : Sl 1 encI w a n l) (hn : n ≤ 17592186044416) :
  Calls Tryz.prog 74 #[.slice a n c] w fun e w' => ∃ v, e = .returned v ∧ OwnL 1 encI 3 w.heap.size w' v l ∧ Ex w w' := by
 have HL := lH h.len
 cases a with
 | none =>
  have hn0 : n = 0 := by
   rcases h.2 with h0 | ⟨x, o, e, _⟩
   ·exact h0
   ·cases e
  have hl : l = [] := List.eq_nil_of_length_eq_zero (HL.out.trans hn0)
  subst hn0 hl
  clear h HL
  have hq : ∀ w : World, (binOp .eql 22 (.slice none 0 c) (.slice none 0 0)).run Tryz.prog w = .ok (.bool true) w := fun w => Lib.run_eql_slice_nil w 22 3 none 0 c 0 0 Tryz.underlying22
  go_enter Tryz.func74, Tryz.ntmps74
  go_wp2
  go_ret
  exact ⟨_, rfl, OwnL.nil _ _ _ _ _, Ex.refl _⟩
 | some A =>
  have q0 := Ex.new w (.cells #[] 3)
  have h0 := h.nx q0
  have own0 : OwnL 1 encI 3 w.heap.size (w.alloc (.cells #[] 3)) (.slice (some ⟨w.heap.size, 0, none⟩) 0 0) [] := OwnL.empty (Nat.le_refl _) rfl
  clear h
  have hq : ∀ w : World, (binOp .eql 22 (.slice (some A) n c) (.slice none 0 0)).run Tryz.prog w = .ok (.bool false) w := fun w => Lib.run_eql_slice_nil w 22 3 (some A) n c 0 0 Tryz.underlying22
  go_enter Tryz.func74, Tryz.ntmps74
  go_wp2_with (at_builtin; (refine wpList_append_rqW (enc := encI) _ rfl _ _ 22 rfl w.heap.size 3 (.int .i64 0) 1 8 Tryz.underlying22 Tryz.infoI6 rfl (by omega) (by omega) _ [] own0 rfl (some A) n c l h0 (fun _ => rfl) (by simp [encI, Value.oneCell']) rfl (by omega) (by simp; omega) (by simp) ?_); intro v1 w1 own1 hch0 hch1)
  go_ret
  exact ⟨_, rfl, by simpa using own1, Chg.trans q0 hch1⟩
set_option maxRecDepth 100000 in
set_option maxHeartbeats 2000000 in
theorem clone_nr (a : Option Addr) (n c : Nat) (l : List Nr) (w : World) (h : Sl 4 encNr w a n l) (hn : n ≤ 4398046511104) :
  Calls Tryz.prog 75 #[.slice a n c] w fun e w' => ∃ v, e = .returned v ∧ OwnL 4 encNr 50 w.heap.size w' v l ∧ Ex w w' := by
 have HL := lH h.len
 cases a with
 | none =>
  have hn0 : n = 0 := by
   rcases h.2 with h0 | ⟨x, o, e, _⟩
   ·exact h0
   ·cases e
  have hl : l = [] := List.eq_nil_of_length_eq_zero (HL.out.trans hn0)
  subst hn0 hl
  clear h HL
  have hq : ∀ w : World, (binOp .eql 39 (.slice none 0 c) (.slice none 0 0)).run Tryz.prog w = .ok (.bool true) w := fun w => Lib.run_eql_slice_nil w 39 50 none 0 c 0 0 Tryz.underlying39
  go_enter Tryz.func75, Tryz.ntmps75
  go_wp2
  go_ret
  exact ⟨_, rfl, OwnL.nil _ _ _ _ _, Ex.refl _⟩
 | some A =>
  have q0 := Ex.new w (.cells #[] 50)
  have h0 := h.nx q0
  have own0 : OwnL 4 encNr 50 w.heap.size (w.alloc (.cells #[] 50)) (.slice (some ⟨w.heap.size, 0, none⟩) 0 0) [] := OwnL.empty (Nat.le_refl _) rfl
  clear h
  have hq : ∀ w : World, (binOp .eql 39 (.slice (some A) n c) (.slice none 0 0)).run Tryz.prog w = .ok (.bool false) w := fun w => Lib.run_eql_slice_nil w 39 50 (some A) n c 0 0 Tryz.underlying39
  go_enter Tryz.func75, Tryz.ntmps75
  go_wp2_with (at_builtin; (refine wpList_append_rqW (enc := encNr) _ rfl _ _ 39 rfl w.heap.size 50 (.agg #[.int .i64 0, .int .i64 0, .int .i64 0, .int .i64 0]) 4 32 Tryz.underlying39 Tryz.infoNr rfl (by omega) (by omega) _ [] own0 rfl (some A) n c l h0 (fun _ => rfl) (by simp [encNr, Value.oneCell']) rfl (by omega) (by simp; omega) (by simp) ?_); intro v1 w1 own1 hch0 hch1)
  go_ret
  exact ⟨_, rfl, by simpa using own1, Chg.trans q0 hch1⟩
end Go.Proofs.YtlgdjigocopglaaGreatDoor
namespace Go.Proofs.YtlgdjigocopglaaGreatDoor
open Go.RowKit Go.Maps
def PredI (g : Nat) (lb : Array Value) (id : Int) (w : World) : Prop := ∀ (x : Pr) (h1 h2 : Hdr) (w' : World), Ex w w' → Calls Tryz.prog g (#[.agg #[.int .i64 x.id, h1.val, .int .i64 x.left, .int .i64 x.right, h2.val]] ++ lb) w' fun e w'' => e = .returned (.bool (x.id == id)) ∧ Ex w' w''
def idxQ (id : Int) (P : List Pr) : Int := if P.findIdx (fun p => p.id == id) < P.length then (P.findIdx (fun p => p.id == id) : Int) else -1
theorem idxQ_of {P : List Pr} {id : Int} {k : Nat} {y : Pr} (hy : P[k]? = some y) (he : y.id = id) (hno : ∀ j z, j < k → P[j]? = some z → z.id ≠ id) : idxQ id P = k := by
 have hk := (List.getElem?_eq_some_iff.1 hy)
 have hkl := hk.1
 have h1 : P.findIdx (fun p => p.id == id) = k := by
  rw [List.findIdx_eq hkl]
  refine ⟨by rw [hk.2]; simpa using he, fun j hj => ?_⟩
  have := hno j _ hj (List.getElem?_eq_getElem (by omega))
  simpa using this
 unfold idxQ
 rw [h1, if_pos hkl]
theorem idxQ_none {P : List Pr} {id : Int} (hno : ∀ j z, j < P.length → P[j]? = some z → z.id ≠ id) : idxQ id P = -1 := by
 unfold idxQ
 rw [if_neg]
 intro h
 have h1 := List.findIdx_getElem (w := h)
 have h2 := hno _ _ h (List.getElem?_eq_getElem h)
 simp at h1
 exact h2 h1
theorem idxQ_cases (P : List Pr) (id : Int) : (∃ (k : Nat) (y : Pr), idxQ id P = k ∧ k < P.length ∧ P[k]? = some y ∧ peerN P id = y ∧ y.id = id) ∨ (idxQ id P = -1 ∧ peerN P id = ⟨id, 0, 0, [], []⟩) := by
 by_cases h : P.findIdx (fun p => p.id == id) < P.length
 ·have h1 : (P[P.findIdx (fun p => p.id == id)]).id = id := by simpa using List.findIdx_getElem (w := h)
  have hno : ∀ j z, j < P.findIdx (fun p => p.id == id) → P[j]? = some z → z.id ≠ id := fun j z hj hz => by
   have := List.not_of_lt_findIdx hj
   rw [List.getElem?_eq_getElem (by omega)] at hz
   cases hz
   simpa using this
  exact .inl ⟨_, _, by unfold idxQ; rw [if_pos h], h, List.getElem?_eq_getElem h, peerN_at (List.getElem?_eq_getElem h) h1 hno, h1⟩
 ·have hno : ∀ j z, j < P.length → P[j]? = some z → z.id ≠ id := fun j z hj hz => by
   have := List.not_of_lt_findIdx (p := fun p : Pr => p.id == id) (xs := P) (i := j) (by omega)
   rw [List.getElem?_eq_getElem (by omega)] at hz
   cases hz
   simpa using this
  exact .inr ⟨by unfold idxQ; rw [if_neg h], peerN_none hno⟩
set_option maxRecDepth 100000 in
set_option maxHeartbeats 2000000 in
theorem idxf_pr (g : Nat) (lb : Array Value) (id : Int) (eg : ∀ args w, (callFunc g args).run Tryz.prog w = .ok (.enter g args) w) (a : Option Addr) (n c : Nat) (P : List Pr) (w : World) (h : PL w a n P) (hn : n ≤ 4000000000000000000) (hp : PredI g lb id w) :
  Calls Tryz.prog 69 #[.slice a n c, .func (.func g) #[] lb] w fun e w' => e = .returned (.int .i64 (idxQ id P)) ∧ Ex w w' := by
 have HL := lH h.len
 have HP := lH hp
 have hs := lH h
 clear h hp
 go_enter Tryz.func69, Tryz.ntmps69
 go_wp2
 go_loopw [8] (fun i wr => PeRel P id n w i wr) (fun i _ => n - (intOf i).toNat)
 case atStart => exact ⟨0, by omega, rfl, Ex.refl _, by intro j z h; omega⟩
 case round =>
  obtain ⟨k, hk, rfl, kw, hno⟩ := hrel
  have HNO := lH hno
  clear hno
  obtain ⟨wo, rfl⟩ : ∃ wo : World, wo = wr := ⟨_, rfl⟩
  by_cases hlt : k < n
  ·obtain ⟨x3, o3, b1, m1, d1, b4, m4, d4, y, rfl, hx3, hy, e0, e1, e2, e3, e4, s1, s4⟩ := (hs.out.nx kw).rd hlt
   have HY := lH hy
   have hc := HP.out y (b1, m1, d1) (b4, m4, d4) wo kw
   have KW := lH kw
   simp only [Hdr.val] at hc
   clear hy kw s1 s4
   go_wp2_with fail
   refine hc.mono ?_
   rintro e w2 ⟨rfl, k2⟩
   have K2 := lH (KW.out.nx k2)
   clear hc k2 e0 e1 e2 e3 e4
   by_cases hv : y.id = id
   ·have HI : Hid (idxQ id P = k) := lH (idxQ_of HY.out hv HNO.out)
    have hb : (y.id == id) = true := by simpa using hv
    rw [hb]
    clear hv hb
    go_wp2_with fail
    go_ret
    exact ⟨by rw [HI.out]; rfl, K2.out⟩
   ·have HV := lH hv
    have hb : (y.id == id) = false := by simpa using hv
    rw [hb]
    clear hv hb
    go_wp2_with fail
    refine ⟨⟨k + 1, by omega, by go_num, K2.out, fun j z hj hz => ?_⟩, by simp [intOf]; omega⟩
    rcases Nat.lt_or_ge j k with h | h
    ·exact HNO.out j z h hz
    ·obtain rfl : j = k := by omega
     rw [Option.some.inj (hz.symm.trans HY.out)]
     exact HV.out
  ·obtain rfl : k = n := by omega
   have HI : Hid (idxQ id P = -1) := lH (idxQ_none (fun j z hj hz => HNO.out j z (by rw [← HL.out]; exact hj) hz))
   have KW := lH kw
   clear kw hk hlt
   go_wp2_with fail
   go_ret
   exact ⟨by rw [HI.out]; rfl, KW.out⟩
theorem OwnL.ne_blk {α : Type} {sz e base g' : Nat} {enc : α → List Value} {w : World} {v : Value} {l : List α} {cs : List Value} {ty : TypeId} (h : OwnL sz enc e base w v l) (B : Blk w g' cs ty) (hne : e ≠ ty) {g : Nat} (hg : v.ownBlock = some g) : g ≠ g' := by
 rintro rfl
 obtain ⟨_, cur, hh⟩ := h.blk hg
 exact blk_kind hne hh B
theorem OwnL.put {α : Type} {sz e base g' : Nat} {enc : α → List Value} {w w' : World} {v : Value} {l : List α} {cs : List Value} {ty : TypeId} (h : OwnL sz enc e base w v l) (B : Blk w g' cs ty) (hne : e ≠ ty) (k : Exb g' w w') : OwnL sz enc e base w' v l :=
 h.chg k fun _ hx hv => ⟨hx, h.ne_blk B hne hv⟩
theorem Blk.low {w w' : World} {g B : Nat} {cs : List Value} {ty : TypeId} (h : Blk w g cs ty) (hg : g < B) (k : Chg (· < B) w w') : Blk w' g cs ty := (Chg.block k g hg).trans h
theorem Exb.nxb' {g : Nat} {wk wp wq wz : World} (h : Exb g wk wp) (k : Exb g wp wq) (c : Chg (· < wk.heap.size) wq wz) : Exb g wk wz :=
 Chg.trans (h.nxb k) (Chg.mono c fun _ hk => hk.1)
end Go.Proofs.YtlgdjigocopglaaGreatDoor
