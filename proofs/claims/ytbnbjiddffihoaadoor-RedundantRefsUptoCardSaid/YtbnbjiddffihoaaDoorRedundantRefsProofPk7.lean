/- Texts for the statement RedundantRefsProof, part 7 of 10: RedL, Pai, Jnd, Jon, CoR. -/
import Derived.Deep.LoopGhost
import Derived.BigQuiet
import Derived.Laws.OwnMore
import Derived.Test.YtbnbjiddffihoaaDoorRedundantRefsProofPk1
import Derived.Test.YtbnbjiddffihoaaDoorRedundantRefsProofPk3
import Derived.Test.YtbnbjiddffihoaaDoorRedundantRefsProofPk4
import Derived.Test.YtbnbjiddffihoaaDoorRedundantRefsProofPk5
import Derived.Test.YtbnbjiddffihoaaDoorRedundantRefsProofPk6

/- Connected of the package redundant. -/
namespace Go.Proofs.YtbnbjiddffihoaaDoor
open Go.RowKit Go.Maps

/-! ### the rows of a map grow while a list of later memory is read -/
def AccM (β lo hi bm : Nat) (w6 wr : World) (f : Int → Value) : Prop :=
  Chg (fun k => k < hi ∧ k ≠ bm ∧ (k < β ∨ lo ≤ k)) w6 wr ∧ hi ≤ wr.heap.size ∧ ∀ v g, (f v).ownBlock = some g → g < lo ∨ hi ≤ g
section
variable {β lo hi bm : Nat} {w6 wr w9 : World} {f : Int → Value}
theorem AccM.sl {α : Type} {sz n : Nat} {enc : α → List Value} {a : Option Addr} {l : List α} {w5 w6 wr : World} (h : AccM β w5.heap.size w6.heap.size bm w6 wr f) (hb : bm < w5.heap.size) (s : Slf sz enc w5 w6 a n l) : Sl sz enc wr a n l :=
  (Rd.chg s h.1 (fun _ hk => ⟨hk.2, by omega, .inr hk.1⟩)).mono fun _ hk => Nat.lt_of_lt_of_le hk.2 h.2.1
theorem AccM.blk {g : Nat} {cs : List Value} {ty : TypeId} (h : AccM β lo w6.heap.size bm w6 wr f) (B : Blk w6 g cs ty) (hg : lo ≤ g) (hb : bm ≠ g) : Blk wr g cs ty :=
  (Chg.block h.1 g ⟨B.lt, fun h => hb h.symm, .inr hg⟩).trans B
theorem AccM.exb {w2 : World} (h : AccM β lo w6.heap.size bm w6 wr f) (k : Exb bm w2 w6) (hβ : w2.heap.size ≤ β) : Exb bm w2 wr :=
  Chg.trans k (Chg.mono h.1 fun x hx => ⟨Nat.lt_of_lt_of_le hx.1 k.size, hx.2, .inl (Nat.lt_of_lt_of_le hx.1 hβ)⟩)
end
theorem own_hist {va v : Value} {c s : Nat} (h : va.ownBlock = v.ownBlock ∨ va.ownBlock = some c) (hs : s ≤ c) : ∀ g, va.ownBlock = some g → v.ownBlock = some g ∨ s ≤ g := fun g hg => by
  rcases h with h | h
  · exact .inl (by rw [← h]; exact hg)
  · rw [h] at hg; cases hg; exact .inr hs
theorem hold_ex {bm g7 : Nat} {wp cur w' : World} (h : Chg (fun k => k = bm ∨ k = g7) wp cur) (hb : bm < wp.heap.size) (hg : g7 < wp.heap.size) (k : Ex cur w') : Chg (fun k => k = bm ∨ k = g7) wp w' :=
  Chg.trans h (Chg.mono k fun x hx => by have := h.size; show x < cur.heap.size; omega)
theorem hold_row {bm g7 : Nat} {wp cur w' : World} {v : Value} (h : Chg (fun k => k = bm ∨ k = g7) wp cur) (hb : bm < wp.heap.size) (hg : g7 < wp.heap.size) (n : ¬ v.ownBlock = some bm ∧ ¬ v.ownBlock = some g7) (k : Chg (fun k => k < cur.heap.size ∧ ¬ v.ownBlock = some k) cur w') : Chg (fun k => k = bm ∨ k = g7) wp w' :=
  Chg.trans h (Chg.mono k fun x hx => by
    have := h.size
    rcases hx with rfl | rfl
    · exact ⟨by omega, n.1⟩
    · exact ⟨by omega, n.2⟩)
theorem AccM.two {β lo hi bm : Nat} {w6 wp w1 w2 w3 : World} {f : Int → Value} {x y : Int} {va vc : Value} (h : AccM β lo hi bm w6 wp f) (hb : ∀ v g, (f v).ownBlock = some g → β ≤ g)
    (k1 : Chg (fun k => k < wp.heap.size ∧ ¬ (f x).ownBlock = some k) wp w1) (la : ∀ g, va.ownBlock = some g → (f x).ownBlock = some g ∨ wp.heap.size ≤ g)
    (k2 : Chg (fun k => k < w1.heap.size ∧ ¬ (f y).ownBlock = some k) w1 w2) (lc : ∀ g, vc.ownBlock = some g → (f y).ownBlock = some g ∨ w1.heap.size ≤ g) (k3 : Exb bm w2 w3) : AccM β lo hi bm w6 w3 (upd (upd f x va) y vc) := by
  have s1 := k1.size
  have s2 := k2.size
  have s3 := k3.size
  have hs := h.2.1
  have key : ∀ v k, k < hi ∧ k ≠ bm ∧ (k < β ∨ lo ≤ k) → ¬ (f v).ownBlock = some k := fun v k hk hv => by
    have h1 := hb v k hv
    have h2 := h.2.2 v k hv
    omega
  refine ⟨h.1.trans ((k1.mono fun k hk => ⟨by omega, key x k hk⟩).trans ((k2.mono fun k hk => ⟨by omega, key y k hk⟩).trans (Chg.mono k3 fun k hk => ⟨by omega, hk.2.1⟩))), by omega, fun v g hv => ?_⟩
  unfold upd at hv
  by_cases h1 : v = y
  · rw [if_pos h1] at hv
    rcases lc g hv with h2 | h2
    · exact h.2.2 y g h2
    · omega
  · rw [if_neg h1] at hv
    by_cases h3 : v = x
    · rw [if_pos h3] at hv
      rcases la g hv with h2 | h2
      · exact h.2.2 x g h2
      · omega
    · rw [if_neg h3] at hv
      exact h.2.2 v g hv
/-- the pairs of the first j nodes -/
def prsU (N : List Nd) (P : List Pr) (j : Nat) : List (Int × Int) := (N.take j).flatMap fun x => (refsN N (peerN P x.id)).map fun v => (x.id, v)
theorem prsU_snoc {N : List Nd} {P : List Pr} {j : Nat} {x : Nd} (hx : N[j]? = some x) : prsU N P (j + 1) = prsU N P j ++ (refsN N (peerN P x.id)).map fun v => (x.id, v) := by
  unfold prsU
  rw [take_snocN N j x hx, List.flatMap_append]
  simp
theorem prsU_all (N : List Nd) (P : List Pr) : prsU N P N.length = pairsN N P := by
  unfold prsU pairsN
  rw [List.take_of_length_le (Nat.le_refl _)]
theorem prsU_len {N : List Nd} (h0 : checkN N = 0) (P : List Pr) (j : Nat) : (prsU N P j).length ≤ 64 * 64 := by
  have h1 := pairs_len (P := P) h0 (N.take j)
  have h2 := check_len h0
  have h3 : (N.take j).length ≤ 64 := by rw [List.length_take]; omega
  unfold prsU
  exact Nat.le_trans h1 (Nat.mul_le_mul h3 h2)
theorem refs_empty {N : List Nd} (h0 : checkN N = 0) (id : Int) : refsN N ⟨id, 0, 0, [], []⟩ = [] := by
  unfold refsN
  rw [if_pos h0]
  unfold ordN
  rw [List.map_eq_nil_iff, List.filter_eq_nil_iff]
  intro x hx
  have := (roster_ok h0 x ((sortN_mem N x).1 hx)).2.1
  simp only [numsP, Bool.and_eq_true, List.contains_iff_mem, List.flatMap_nil, List.append_nil, List.nil_append, List.mem_cons, List.not_mem_nil, or_false]
  omega
abbrev GpM (base : Nat) (w : World) (b n : Nat) (f : Int → Value) (J : Int → List Int) : Prop := GrpM Tryd.prog 3 3 base w b n f J
def CnRel (N : List Nd) (P : List Pr) (bm : Nat) (w : World) (i : Value) (wr : World) : Prop :=
  ∃ (j n : Nat) (f : Int → Value), j ≤ N.length ∧ i = .int .i64 j ∧ GpM w.heap.size wr bm n f (jOf (prsU N P j)) ∧ n = 2 * (prsU N P j).length ∧ Exb bm w wr
def CmRel (x : Int) (l : List Int) (E : List (Int × Int)) (bm lo : Nat) (w w6 : World) (i : Value) (wr : World) : Prop :=
  ∃ (j n : Nat) (f : Int → Value), j ≤ l.length ∧ i = .int .i64 j ∧ GpM w.heap.size wr bm n f (jOf (E ++ (l.take j).map fun v => (x, v))) ∧ n = 2 * (E.length + j) ∧ AccM w.heap.size lo w6.heap.size bm w6 wr f
theorem Tryd.zeroS (w : World) : (zeroValue 22).run Tryd.prog w = .ok nilS w := by kernel_rfl
theorem litF {wp u : World} (hz : wp.heap.size ≤ u.heap.size) (x : Int) : ∃ g v, g = u.heap.size ∧ v = u.alloc (.cells #[.int .i64 x] 3) ∧ Slf 1 encI wp v (some ⟨g, 0, none⟩) 1 [x] ∧ Ex u v :=
  ⟨_, _, rfl, rfl, Slf.lit [x] rfl hz rfl (fun _ => rfl) rfl, Ex.new _ _⟩
theorem Slf.row2 {α : Type} {sz n : Nat} {enc : α → List Value} {w0 w w' : World} {a : Option Addr} {l : List α} {v : Value} (s : Slf sz enc w0 w a n l) (h : ∀ g, v.ownBlock = some g → g < w0.heap.size) (k : Chg (fun k => k < w.heap.size ∧ ¬ v.ownBlock = some k) w w') : Slf sz enc w0 w' a n l :=
  (Rd.chg s k fun _ hk => ⟨hk.2, fun hv => by have := h _ hv; have := hk.1; omega⟩).mono fun _ hk => ⟨hk.1, Nat.lt_of_lt_of_le hk.2 k.size⟩
theorem Slf.row {α β : Type} {sz n sz' e base : Nat} {enc : α → List Value} {enc' : β → List Value} {w0 w w' : World} {a : Option Addr} {l : List α} {v : Value} {l' : List β} (s : Slf sz enc w0 w a n l) (h : OwnL sz' enc' e base w0 v l') (k : Chg (fun k => k < w.heap.size ∧ ¬ v.ownBlock = some k) w w') : Slf sz enc w0 w' a n l :=
  (Rd.chg s k fun _ hk => ⟨hk.2, fun hv => by have := (h.lt _ hv).2; have := hk.1; omega⟩).mono fun _ hk => ⟨hk.1, Nat.lt_of_lt_of_le hk.2 k.size⟩

theorem sumJ_le {J : Int → List Int} (hJ : ∀ u, (J u).length ≤ 10000) (L : List Nd) : (L.map fun x => (J x.id).length).sum ≤ L.length * 10000 := by
  induction L with
  | nil => simp
  | cons x L ih =>
    have := hJ x.id
    rw [List.map_cons, List.sum_cons, List.length_cons]
    omega
theorem todo_le {N : List Nd} {J : Int → List Int} (hN : N.length ≤ 64) (hJ : ∀ u, (J u).length ≤ 10000) (M T : List Int) : todoN N J M T ≤ T.length + 640000 := by
  have h1 := sumJ_le hJ (N.filter fun x => !(M.contains x.id))
  have h2 := List.length_filter_le (fun x : Nd => !(M.contains x.id)) N
  unfold todoN
  omega
theorem todo_len (N : List Nd) (J : Int → List Int) (M T : List Int) : T.length ≤ todoN N J M T := by unfold todoN; omega
theorem todo_old (N : List Nd) (J : Int → List Int) (M T : List Int) (v : Int) : todoN N J M T + 1 = todoN N J M (v :: T) := by unfold todoN; rw [List.length_cons]; omega
theorem QuL.no {e : TypeId} {base : Nat} {w : World} {v : Value} (h : QuL e base w v []) : ∃ a c, v = .slice a 0 c := by
  rcases h with ⟨rfl, _⟩ | ⟨g, o, cap, cur, rfl, _⟩
  · exact ⟨none, 0, rfl⟩
  · exact ⟨_, cap, rfl⟩
theorem QuL.base {e : TypeId} {base base' : Nat} {w : World} {v : Value} {l : List Int} (h : QuL e base w v l) (hb : base' ≤ base) : QuL e base' w v l := by
  rcases h with h | ⟨g, o, cap, cur, h1, h2, h3⟩
  · exact .inl h
  · exact .inr ⟨g, o, cap, cur, h1, Nat.le_trans hb h2, h3⟩
theorem OwnL.rdz {α : Type} {sz e base : Nat} {enc : α → List Value} {w : World} {v : Value} {l : List α} (h : OwnL sz enc e base w v l) (hsz : ∀ y, (enc y).length = sz) :
    ∃ a cap, v = .slice a l.length cap ∧ Rd sz enc (fun k => base ≤ k ∧ k < w.heap.size) w a l.length l ∧ (a = none → cap = 0) := by
  obtain ⟨a, cap, e1, r, _⟩ := h.rd hsz
  refine ⟨a, cap, e1, r, fun h0 => ?_⟩
  subst h0
  rcases h.2 with ⟨e2, hn⟩ | ⟨g, cap', cur, e2, _⟩
  · rw [e1] at e2
    injection e2
  · rw [e1] at e2
    simp at e2
theorem wpList_append_hap {P : Program} {ops : Array Oper} {rest : List Oper} {o : Oper} {a : Act} {Q : Exit → Act → World → Prop} {w : World} (hgd : o.guard = none) (s x : Operand) (t : TypeId)
    (ho : o.op = .call { callee := .builtin .append, args := #[s, x], argTypes := #[t, t] }) {v v' : Value} {A : Option Addr} {n c : Nat} {w' : World} (hap : (Builtin.append_ #[t, t] o.type #[v, .slice A n c]).run P w = .ok v' w')
    (hs : a.eval s = v) (hx : a.eval x = .slice A n c) (h : wpList P ops Q rest (a.put o.dst v') w') : wpList P ops Q (o :: rest) a w :=
  wpList_plain hgd fun K hK => by
    unfold Oper.wp execOp
    simp only [ho, resolve, invoke, builtin, Sem.run_bind, Sem.run_pure, Result.andThen_ok, List.map_toArray, List.map_cons, List.map_nil, hs, hx, hap]
    exact hK _ _ h
abbrev SetB (w : World) (b : Nat) (S : List Int) : Prop := SetM Tryd.prog 3 4 w b S
def startN (N : List Nd) : List Int := match N with | [] => [] | s :: _ => [s.id]
theorem startN_at {N : List Nd} {x : Nd} (h : N[0]? = some x) : startN N = [x.id] := by
  cases N with
  | nil => cases h
  | cons y N => simp at h; rw [h]; rfl
theorem startN_bfs (N : List Nd) (P : List Pr) (J : Int → List Int) : Bfs N P J [] (startN N) := bfs_start
theorem startN_len (N : List Nd) : (startN N).length ≤ 1 := by
  cases N with
  | nil => exact Nat.zero_le _
  | cons y N => exact Nat.le_refl _
def CqRel (N : List Nd) (bs : Nat) (w6 : World) (o : Value) (wr : World) : Prop :=
  QuL 3 (bs + 1) wr o (startN N) ∧ Ex w6 wr
def CbRel (N : List Nd) (P : List Pr) (J : Int → List Int) (bs : Nat) (wi : World) (k : Nat) (o : Value) (wr : World) : Prop :=
  ∃ M T, Bfs N P J M T ∧ SetB wr bs M ∧ QuL 3 (bs + 1) wr o T ∧ Ex wi wr ∧ k = todoN N J M T ∧ k ≤ 700000

set_option maxRecDepth 100000 in
set_option maxHeartbeats 16000000 in
theorem connected_p (a : Option Addr) (n c : Nat) (N : List Nd) (a2 : Option Addr) (n2 c2 : Nat) (P : List Pr) (w : World) (h : Sl 3 encN w a n N) (hn : n ≤ 1000) (hc : n ≤ c) (hm : c ≤ maxLen) (h2 : PL w a2 n2 P) (hn2 : n2 ≤ 4000000000000000000) (hP : ∀ p ∈ P, p.known.length ≤ 4000000000000000000 ∧ p.near.length ≤ 4000000000000000000) :
    Calls Tryd.prog 22 #[.slice a n c, .slice a2 n2 c2] w fun e w' => e = .returned (.bool (connB N P)) ∧ Ex w w' := by
  have HL := Lib.hid h.len
  have HP := Lib.hid hP
  have H2 := Lib.hid h2
  have EX := Ex.refl w
  clear hP h2
  go_enter Tryd.func22, Tryd.ntmps22
  go_wp2_with fail
  (with_reducible refine (check_p _ _ _ _ _ h (by omega) hc hm).mono ?_)
  rintro e w1 ⟨rfl, kk⟩
  replace h := h.nx kk
  replace EX := EX.nx kk
  clear kk
  by_cases hck : checkN N = 0
  case neg =>
    have d1 : (checkN N != 0) = true := by simpa using hck
    have E0 : Hid (connB N P = false) := Lib.hid (by unfold connB; rw [show (checkN N == 0) = false by simpa using hck]; rfl)
    clear h hck
    go_wp2_with fail
    go_ret
    exact ⟨by rw [E0.out]; rfl, EX⟩
  have d1 : (checkN N != 0) = false := by simpa using hck
  have HC := Lib.hid hck
  have hn64 : n ≤ 64 := by have := check_len hck; have := HL.out; omega
  have HI : Hid (∀ x ∈ N, I64 x.id) := Lib.hid (fun x hx => (roster_ok HC.out x hx).1.1)
  clear hck
  have G4 := GrpM.made w1 Tryd.prog 3 3
  have kk := Ex.new w1 (.map #[] 0)
  obtain ⟨w4, hw4⟩ : ∃ w4, w4 = w1.alloc (.map #[] 0) := ⟨_, rfl⟩
  obtain ⟨bm, hbm⟩ : ∃ bm, bm = w1.heap.size := ⟨_, rfl⟩
  have hsz4 : w4.heap.size = bm + 1 := by rw [hw4, hbm]; simp
  replace G4 : GpM w4.heap.size w4 bm 0 (fun _ => nilS) (fun _ => []) := by rw [hsz4, hw4, hbm]; exact G4
  rw [← hw4] at kk
  have Hw4 := Lib.hid hw4
  have Hbm := Lib.hid hbm
  have hwb : w.heap.size ≤ bm := by have := EX.size; omega
  have HS := Lib.hid (h.slb (show w1.heap.size ≤ bm by omega))
  replace HS := Lib.hid (HS.out.nxb (kk.b bm))
  have EX1 := Lib.hid (EX.nx kk)
  have HPL := Lib.hid ((H2.out.plb hwb).nxb (EX1.out.b bm))
  clear kk hw4 hbm h
  have hmm := @run_makeMap Tryd.prog
  go_upto_region 4 with fail
  rw [← Hbm.out, ← Hw4.out]
  clear Hbm Hw4
  clear hmm
  have hbm4 : bm < w4.heap.size := by omega
  replace hsz4 := Lib.hid hsz4
  clear EX
  go_wp2_with fail
  go_loopw [20] (fun i wr => CnRel N P bm w4 i wr) (fun i _ => n - (intOf i).toNat)
  case atStart => exact ⟨0, 0, fun _ => nilS, by omega, rfl, G4, rfl, Exb.refl _ _⟩
  case round =>
    clear G4
    obtain ⟨j, nn, f, hj, rfl, GP, hnn, kw⟩ := hrel
    obtain ⟨wi, rfl⟩ : ∃ wi : World, wi = wr := ⟨_, rfl⟩
    have hjn : j ≤ n := by have := HL.out; omega
    have HNN := Lib.hid hnn
    clear hnn hj
    by_cases hjm : j < n
    · obtain ⟨x3, o3, x, rfl, hx3, hy, hc3⟩ := (HS.out.nxb kw).sl.at hjm
      have e0 : wi.cell? ⟨x3, o3 + j * 3, none⟩ = some (.int .i64 x.id) := hc3 0 _ rfl
      have e1 : wi.cell? ⟨x3, o3 + j * 3 + 1, none⟩ = some (.string x.key) := hc3 1 _ rfl
      have e2 : wi.cell? ⟨x3, o3 + j * 3 + 1 + 1, none⟩ = some (.int .u32 x.word) := by simpa [Nat.add_assoc] using hc3 2 _ rfl
      have SN := Lib.hid (prsU_snoc (P := P) hy)
      have hxI := Lib.hid (HI.out x (List.mem_of_getElem? hy))
      have KW := Lib.hid kw
      have GW := Lib.hid GP
      have hbi : bm < wi.heap.size := Nat.lt_of_lt_of_le hbm4 kw.size
      have PE := prsU_len HC.out P j
      clear hc3 hy kw GP
      have B7 := Blk.new wi [.int .i64 x.id, .string x.key, .int .u32 x.word] 52
      have kk := Ex.new wi (.cells #[.int .i64 x.id, .string x.key, .int .u32 x.word] 52)
      obtain ⟨w7, hw7⟩ : ∃ w7, w7 = wi.alloc (.cells #[.int .i64 x.id, .string x.key, .int .u32 x.word] 52) := ⟨_, rfl⟩
      obtain ⟨g7, hg7⟩ : ∃ g7, g7 = wi.heap.size := ⟨_, rfl⟩
      replace B7 : Blk w7 g7 [.int .i64 x.id, .string x.key, .int .u32 x.word] 52 := by rw [hw7, hg7]; exact B7
      rw [← hw7] at kk
      have Hw7 := Lib.hid hw7
      have Hg7 := Lib.hid hg7
      have zg7 : wi.heap.size ≤ g7 := by omega
      have n7b : bm ≠ g7 := by omega
      have K7 := Lib.hid kk
      clear kk hw7 hg7
      go_upto_region 7 with fail
      rw [← Hg7.out, ← Hw7.out]
      clear Hg7 Hw7
      have eg : ∀ args w, (callFunc 61 args).run Tryd.prog w = .ok (.enter 61 args) w := enters_of Tryd.func61 (by kernel_rfl) rfl
      have EG := Lib.hid eg
      have HB := Lib.hid B7
      clear eg B7 e0 e1 e2
      have PLW := Lib.hid (((HPL.out.nxb KW.out).nxb (K7.out.b bm)).pl)
      go_wp2_with fail
      (with_reducible refine (idxf_pr 61 #[.pointer (some ⟨g7, 0, none⟩)] x.id EG.out _ _ _ P w7 PLW.out hn2 (conn1_p g7 x w7 HB.out)).mono ?_)
      rintro e w8 ⟨rfl, k8⟩
      replace K7 := Lib.hid (K7.out.nx k8)
      replace PLW := Lib.hid (PLW.out.nx k8)
      replace HB := Lib.hid (HB.out.nx k8)
      clear k8
      rcases idxQ_cases P x.id with ⟨k, y, hi, hk, hyk, hpe, hyid⟩ | ⟨hi, hpe⟩
      case inr =>
        rw [hi]
        have RR := Lib.hid (show CnRel N P bm w4 (.int .i64 ((j : Int) + 1)) w8 from ⟨j + 1, nn, f, by have := HL.out; omega, by go_num, by rw [SN.out, hpe, refs_empty HC.out]; simpa using GW.out.nx K7.out, by rw [SN.out, hpe, refs_empty HC.out]; simpa using HNN.out, KW.out.nxb (K7.out.b bm)⟩)
        clear hi hpe
        go_wp2_with fail
        exact ⟨RR.out, by simp [intOf]; omega⟩
      replace hyid := Lib.hid hyid
      rw [hi]
      have hk2 : k < n2 := by have := PLW.out.len; omega
      obtain ⟨xp, op, b1, m1, d1', b4, m4, d4, y', rfl, hxp, hyk', p0, p1, p2, p3, p4, s1, s4⟩ := PLW.out.rd hk2
      obtain rfl : y = y' := Option.some.inj (hyk.symm.trans hyk')
      have hyP := HP.out y (List.mem_of_getElem? hyk)
      have hl1 : m1 ≤ 4000000000000000000 := by have := s1.len; omega
      have hl4 : m4 ≤ 4000000000000000000 := by have := s4.len; omega
      have hk0 : ¬ (k : Int) < 0 := by omega
      have hkn : (k : Int) < (n2 : Int) := by omega
      have hpe := Lib.hid hpe
      have S1 := Lib.hid s1
      have S4 := Lib.hid s4
      clear hi hyk hyk' s1 s4 hyP hk
      go_wp2_with fail
      (with_reducible refine (refs_p _ _ _ N y _ _ _ _ _ _ _ ((HS.out.nxb KW.out).nxb (K7.out.b bm)).sl hn hc hm S1.out S4.out hl1 hl4).mono ?_)
      rintro e w9 ⟨v9, rfl, o9, kk⟩
      obtain ⟨A9, C9, rfl, r9, _, _, _⟩ := o9.slf (fun _ => rfl)
      replace r9 := Lib.hid (r9.old K7.out.size)
      have hlr := refs_len HC.out y
      have HRI : Hid (∀ v ∈ refsN N y, I64 v ∧ v ≠ x.id) := Lib.hid (fun v hv => by
        obtain ⟨⟨z, hz, rfl⟩, h2, _⟩ := (mem_refs HC.out).1 hv
        exact ⟨HI.out z hz, by rw [hyid.out] at h2; exact h2⟩)
      have hL9 := r9.out.len
      have SN : Hid (prsU N P (j + 1) = prsU N P j ++ (refsN N y).map fun v => (x.id, v)) := Lib.hid (by rw [SN.out, hpe.out])
      replace HB := Lib.hid (HB.out.nx kk)
      have K9 := Lib.hid (K7.out.nx kk)
      have A0 : Hid (AccM w4.heap.size wi.heap.size w9.heap.size bm w9 w9 f) := Lib.hid ⟨Chg.refl _ _, Nat.le_refl _, fun v g hg => .inl ((GW.out.row v).lt g hg).2⟩
      have G9 := Lib.hid (GW.out.nx K9.out)
      generalize refsN N y = L at r9 hlr HRI hL9 SN ⊢
      have hLl : L.length ≤ 64 := by have := HL.out; omega
      have hz9 := K9.out.size
      clear o9 kk p0 p1 p2 p3 p4 hyid hlr
      go_wp2_with fail
      go_loopw [36] (fun i wr => CmRel x.id L (prsU N P j) bm wi.heap.size w4 w9 i wr) (fun i _ => L.length - (intOf i).toNat)
      case atStart => exact ⟨0, nn, f, by omega, rfl, by simpa using G9.out, by simpa using HNN.out, A0.out⟩
      case round =>
        clear A0 G9 GW
        obtain ⟨i, m, f2, hi, rfl, GP, hm2, ac⟩ := hrel
        obtain ⟨wp, rfl⟩ : ∃ wp : World, wp = wr := ⟨_, rfl⟩
        by_cases hil : i < L.length
        · obtain ⟨xr, or, id, rfl, hxr, hid, hcr⟩ := (ac.sl hbi r9.out).at (j := i) hil
          have f0 : wp.cell? ⟨xr, or + i, none⟩ = some (.int .i64 id) := by simpa using hcr 0 _ rfl
          have LS : Hid ((L.take (i + 1)).map (fun v => (x.id, v)) = (L.take i).map (fun v => (x.id, v)) ++ [(x.id, id)]) := Lib.hid (by rw [take_snocN L i id hid, List.map_append]; rfl)
          obtain ⟨hidI, hne⟩ := HRI.out id (List.mem_of_getElem? hid)
          have BP := Lib.hid (ac.blk HB.out (by omega) n7b)
          have GPH := Lib.hid GP
          have AC := Lib.hid ac
          have M2 := Lib.hid hm2
          have hm100 : m < 1000000 := by omega
          have zbp : bm < wp.heap.size := GP.1.lt
          have zgp : g7 < wp.heap.size := BP.out.lt
          have NB : Hid (∀ v, ¬ (f2 v).ownBlock = some bm ∧ ¬ (f2 v).ownBlock = some g7) := Lib.hid (fun v => ⟨fun hv => by have := ((GPH.out.row v).lt bm hv).1; omega, fun hv => OwnL.ne_blk (GPH.out.row v) BP.out (by decide) hv rfl⟩)
          have JX := Lib.hid (show ∀ u, (jOf (prsU N P j ++ (L.take i).map fun v => (x.id, v)) u).length ≤ 100000 from fun u => by
            have hne : ∀ q ∈ prsU N P j ++ (L.take i).map (fun v => (x.id, v)), q.1 ≠ q.2 := fun q hq => by
              rcases List.mem_append.1 hq with h1 | h1
              · refine pairs_ne HC.out (P := P) (q := q) ?_
                unfold prsU at h1
                unfold pairsN
                obtain ⟨z, hz, h2⟩ := List.mem_flatMap.1 h1
                exact List.mem_flatMap.2 ⟨z, List.mem_of_mem_take hz, h2⟩
              · obtain ⟨v, hv, rfl⟩ := List.mem_map.1 h1
                exact fun h => (HRI.out v (List.mem_of_mem_take hv)).2 h.symm
            have h1 := ((jOf_law _ _ rfl hne) u).1
            rw [List.length_append, List.length_map, List.length_take] at h1
            omega)
          generalize hJ : jOf (prsU N P j ++ (L.take i).map fun v => (x.id, v)) = J at GP GPH JX
          have HJ := Lib.hid hJ
          have wx1 := Lib.hid (wf_of hxI.out)
          have wx2 := Lib.hid (wf_of hidI)
          have hne2 : id ≠ x.id := hne
          have jlx := JX.out x.id
          have jly := JX.out id
          clear hcr hid ac hm2 hJ GP JX
          go_upto_region 12 with fail
          refine wp_region_late_drew (S := Chg (fun k => k = bm ∨ k = g7) wp) [19, 21, 22] (by kernel_rfl) ((Chg.refl _ wp).drew) (fun hHeld => ?_)
          obtain ⟨wd, hwdx⟩ : ∃ wd : World, wd = World.drew wp := ⟨_, rfl⟩
          rw [← hwdx] at hHeld ⊢
          have hDrew : Ex wp wd := by rw [hwdx]; exact (Ex.refl wp).drew
          clear hwdx
          refine wpAnyL_take (i := 0) (oi := ⟨some 40, .move (.tmp 5), 80, "redundant.go:139", #[], none⟩) (v := ?_) rfl (by kernel_rfl) (by kernel_rfl) (by kernel_rfl) (fun _ _ _ h => h) (Or.inl ⟨by rfl, ?hyr1x0q5⟩) (by kernel_rfl) (by kernel_rfl) (by assumption) ?restr1x0q5
          case hyr1x0q5 => intro wq hSw; (go_simp); (try with_reducible rfl)
          try simp only [Act.put, List.setIfInBounds_toArray, List.set_cons_zero, List.set_cons_succ]
          refine wpAnyL_take (i := 1) (oi := ⟨some 41, .fieldAddr 52 (.tmp 7) 0, 0, "redundant.go:139", #[], none⟩) (v := ?_) rfl (by kernel_rfl) (by kernel_rfl) (by kernel_rfl) (fun _ _ _ h => h) (Or.inl ⟨by rfl, ?hyr1x1q8⟩) (by kernel_rfl) (by kernel_rfl) (by assumption) ?restr1x1q8
          case hyr1x1q8 => intro wq hSw; (go_simp); (try with_reducible rfl)
          try simp only [Act.put, List.setIfInBounds_toArray, List.set_cons_zero, List.set_cons_succ]
          refine wpAnyL_take (i := 2) (oi := ⟨some 42, .load 3 (.tmp 41), 3, "redundant.go:139", #[⟨1, .data⟩], none⟩) (v := ?_) rfl (by kernel_rfl) (by kernel_rfl) (by kernel_rfl) (fun _ _ _ h => h) (Or.inl ⟨by rfl, ?hyr1x2q11⟩) (by kernel_rfl) (by kernel_rfl) (by assumption) ?restr1x2q11
          case hyr1x2q11 => intro wq hSw; (have cq := ((show Blk wq g7 _ _ from (hSw.block g7 (.inr rfl)).trans BP.out).cell 0 _ rfl); go_simp); (try with_reducible rfl)
          try simp only [Act.put, List.setIfInBounds_toArray, List.set_cons_zero, List.set_cons_succ]
          refine wpAnyL_takeP (i := 3) (oi := ⟨some 43, .move (.tmp 5), 80, "redundant.go:139", #[{ on := 21, ground := Ground.gcOnly Departure.lateStores }], none⟩) (v := ?_) rfl (by kernel_rfl) (by kernel_rfl) (by kernel_rfl) (fun _ _ _ h => h) (Or.inl ⟨by rfl, ?hyr1x3q14⟩) ?restr1x3q14
          case hyr1x3q14 => intro wq hSw; (go_simp); (try with_reducible rfl)
          try simp only [Act.put, List.setIfInBounds_toArray, List.set_cons_zero, List.set_cons_succ]
          refine wpAnyL_takeP (i := 4) (oi := ⟨some 44, .move (.tmp 10), 3, "redundant.go:139", #[{ on := 21, ground := Ground.gcOnly Departure.lateStores }], none⟩) (v := ?_) rfl (by kernel_rfl) (by kernel_rfl) (by kernel_rfl) (fun _ _ _ h => h) (Or.inl ⟨by rfl, ?hyr1x4q17⟩) ?restr1x4q17
          case hyr1x4q17 => intro wq hSw; (go_simp); (try with_reducible rfl)
          try simp only [Act.put, List.setIfInBounds_toArray, List.set_cons_zero, List.set_cons_succ]
          refine wpAnyL_take (i := 5) (oi := ⟨some 45, .move (.tmp 5), 80, "redundant.go:139", #[], none⟩) (v := ?_) rfl (by kernel_rfl) (by kernel_rfl) (by kernel_rfl) (fun _ _ _ h => h) (Or.inl ⟨by rfl, ?hyr1x5q20⟩) (by kernel_rfl) (by kernel_rfl) (by assumption) ?restr1x5q20
          case hyr1x5q20 => intro wq hSw; (go_simp); (try with_reducible rfl)
          try simp only [Act.put, List.setIfInBounds_toArray, List.set_cons_zero, List.set_cons_succ]
          refine wpAnyL_take (i := 6) (oi := ⟨some 46, .fieldAddr 52 (.tmp 7) 0, 0, "redundant.go:139", #[], none⟩) (v := ?_) rfl (by kernel_rfl) (by kernel_rfl) (by kernel_rfl) (fun _ _ _ h => h) (Or.inl ⟨by rfl, ?hyr1x6q23⟩) (by kernel_rfl) (by kernel_rfl) (by assumption) ?restr1x6q23
          case hyr1x6q23 => intro wq hSw; (go_simp); (try with_reducible rfl)
          try simp only [Act.put, List.setIfInBounds_toArray, List.set_cons_zero, List.set_cons_succ]
          refine wpAnyL_take (i := 7) (oi := ⟨some 47, .load 3 (.tmp 46), 3, "redundant.go:139", #[⟨6, .data⟩], none⟩) (v := ?_) rfl (by kernel_rfl) (by kernel_rfl) (by kernel_rfl) (fun _ _ _ h => h) (Or.inl ⟨by rfl, ?hyr1x7q26⟩) (by kernel_rfl) (by kernel_rfl) (by assumption) ?restr1x7q26
          case hyr1x7q26 => intro wq hSw; (have cq := ((show Blk wq g7 _ _ from (hSw.block g7 (.inr rfl)).trans BP.out).cell 0 _ rfl); go_simp); (try with_reducible rfl)
          try simp only [Act.put, List.setIfInBounds_toArray, List.set_cons_zero, List.set_cons_succ]
          refine wpAnyL_take (i := 8) (oi := ⟨some 48, .lookup 80 (.tmp 45) (.tmp 47) false, 22, "redundant.go:139", #[⟨5, .data⟩, ⟨7, .data⟩], none⟩) (v := ?_) rfl (by kernel_rfl) (by kernel_rfl) (by kernel_rfl) (fun _ _ _ h => h) (Or.inl ⟨by rfl, ?hyr1x8q29⟩) (by kernel_rfl) (by kernel_rfl) (by assumption) ?restr1x8q29
          case hyr1x8q29 => intro wq hSw; (have lk := (RawM.same GPH.out.1 (hSw.block bm (.inl rfl))).get (t := 80) Tryd.underlying3 Tryd.underlying80 (Tryd.zeroS _) wx1.out; go_simp); (try with_reducible rfl)
          try simp only [Act.put, List.setIfInBounds_toArray, List.set_cons_zero, List.set_cons_succ]
          refine wpAnyL_take (i := 9) (oi := ⟨some 49, .move (.tmp 10), 3, "redundant.go:139", #[], none⟩) (v := ?_) rfl (by kernel_rfl) (by kernel_rfl) (by kernel_rfl) (fun _ _ _ h => h) (Or.inl ⟨by rfl, ?hyr1x9q32⟩) (by kernel_rfl) (by kernel_rfl) (by assumption) ?restr1x9q32
          case hyr1x9q32 => intro wq hSw; (go_simp); (try with_reducible rfl)
          try simp only [Act.put, List.setIfInBounds_toArray, List.set_cons_zero, List.set_cons_succ]
          refine wpAnyL_take (i := 12) (oi := ⟨some 52, .move (.tmp 5), 80, "redundant.go:139", #[], none⟩) (v := ?_) rfl (by kernel_rfl) (by kernel_rfl) (by kernel_rfl) (fun _ _ _ h => h) (Or.inl ⟨by rfl, ?hyr1x12q35⟩) (by kernel_rfl) (by kernel_rfl) (by assumption) ?restr1x12q35
          case hyr1x12q35 => intro wq hSw; (go_simp); (try with_reducible rfl)
          try simp only [Act.put, List.setIfInBounds_toArray, List.set_cons_zero, List.set_cons_succ]
          refine wpAnyL_take (i := 13) (oi := ⟨some 53, .move (.tmp 10), 3, "redundant.go:139", #[], none⟩) (v := ?_) rfl (by kernel_rfl) (by kernel_rfl) (by kernel_rfl) (fun _ _ _ h => h) (Or.inl ⟨by rfl, ?hyr1x13q38⟩) (by kernel_rfl) (by kernel_rfl) (by assumption) ?restr1x13q38
          case hyr1x13q38 => intro wq hSw; (go_simp); (try with_reducible rfl)
          try simp only [Act.put, List.setIfInBounds_toArray, List.set_cons_zero, List.set_cons_succ]
          refine wpAnyL_take (i := 14) (oi := ⟨some 54, .lookup 80 (.tmp 52) (.tmp 53) false, 22, "redundant.go:139", #[⟨12, .data⟩, ⟨13, .data⟩], none⟩) (v := ?_) rfl (by kernel_rfl) (by kernel_rfl) (by kernel_rfl) (fun _ _ _ h => h) (Or.inl ⟨by rfl, ?hyr1x14q41⟩) (by kernel_rfl) (by kernel_rfl) (by assumption) ?restr1x14q41
          case hyr1x14q41 => intro wq hSw; (have lk := (RawM.same GPH.out.1 (hSw.block bm (.inl rfl))).get (t := 80) Tryd.underlying3 Tryd.underlying80 (Tryd.zeroS _) wx2.out; go_simp); (try with_reducible rfl)
          try simp only [Act.put, List.setIfInBounds_toArray, List.set_cons_zero, List.set_cons_succ]
          refine wpAnyL_take (i := 15) (oi := ⟨some 55, .fieldAddr 52 (.tmp 7) 0, 0, "redundant.go:139", #[], none⟩) (v := ?_) rfl (by kernel_rfl) (by kernel_rfl) (by kernel_rfl) (fun _ _ _ h => h) (Or.inl ⟨by rfl, ?hyr1x15q44⟩) (by kernel_rfl) (by kernel_rfl) (by assumption) ?restr1x15q44
          case hyr1x15q44 => intro wq hSw; (go_simp); (try with_reducible rfl)
          try simp only [Act.put, List.setIfInBounds_toArray, List.set_cons_zero, List.set_cons_succ]
          refine wpAnyL_take (i := 16) (oi := ⟨some 56, .load 3 (.tmp 55), 3, "redundant.go:139", #[⟨15, .data⟩], none⟩) (v := ?_) rfl (by kernel_rfl) (by kernel_rfl) (by kernel_rfl) (fun _ _ _ h => h) (Or.inl ⟨by rfl, ?hyr1x16q47⟩) (by kernel_rfl) (by kernel_rfl) (by assumption) ?restr1x16q47
          case hyr1x16q47 => intro wq hSw; (have cq := ((show Blk wq g7 _ _ from (hSw.block g7 (.inr rfl)).trans BP.out).cell 0 _ rfl); go_simp); (try with_reducible rfl)
          try simp only [Act.put, List.setIfInBounds_toArray, List.set_cons_zero, List.set_cons_succ]
          refine wpAnyL_ready (rs := [10, 17]) (by kernel_rfl) (by simp) ?_
          refine AllReadyL.cons (o := ⟨some 50, .buildSlice 22 1 #[(0, .tmp 49)], 22, "redundant.go:139", #[⟨9, .data⟩], none⟩) rfl (fun K hK => ?_) ?_
          · go_simp
            obtain ⟨g8, wq, hg8, hwq, SX, kk⟩ := litF hHeld.size id
            rw [← hg8, ← hwq]
            clear hg8 hwq
            (try replace SY := SY.nx kk)
            replace hDrew := hDrew.nx kk
            replace hHeld := hold_ex hHeld zbp zgp kk
            clear kk
            refine hK.out _ _ (hHeld) (fun hHeld => ?_)
            clear hK K
            try simp only [Act.put, List.setIfInBounds_toArray, List.set_cons_zero, List.set_cons_succ]
            refine wpAnyL_ready (rs := [11, 17]) (by kernel_rfl) (by simp) ?_
            refine AllReadyL.cons (o := ⟨some 51, .call { callee := .builtin .append, args := #[.tmp 48, .tmp 50], argTypes := #[22, 22] }, 22, "redundant.go:139", #[⟨8, .data⟩, ⟨10, .data⟩], none⟩) rfl (fun K hK => ?_) ?_
            · rw [if_pos (by rfl)]
              have rx := (GPH.out.row x.id).nx hDrew
              have zbase := Nat.le_trans GPH.out.2.2.1 hDrew.size
              refine wp_append_rda (enc := encI) _ (.tmp 48) (.tmp 50) 22 rfl w4.heap.size 3 (.int .i64 0) 1 8 Tryd.underlying22 Tryd.infoI6 rfl (by omega) (by omega) _ (J x.id) rx rfl _ _ 1 1 [id] SX (fun h => by cases h) (fun _ => rfl) (by simp [encI, Value.oneCell']) rfl (by omega) (by omega) zbase ?_
              intro va w1 A ch0 ch1 hva
              have KA : Chg (fun k => k < wp.heap.size ∧ ¬ (f2 x.id).ownBlock = some k) wp w1 := Chg.trans (Chg.mono hDrew (fun k hk => hk.1)) (Chg.mono ch0 (fun k hk => ⟨Nat.lt_of_lt_of_le hk.1 hDrew.size, hk.2⟩))
              have la := own_hist hva hDrew.size
              (try replace SY := SY.row2 (fun g hg => ((GPH.out.row x.id).lt g hg).2) ch0)
              have KE := Ex.refl w1
              replace hHeld := hold_row hHeld zbp zgp (NB.out x.id) ch0
              have zb1 := Nat.le_trans zbase ch0.size
              clear ch0 ch1 hva rx hDrew SX
              refine hK.out _ _ (hHeld) (fun hHeld => ?_)
              clear hK K
              try simp only [Act.put, List.setIfInBounds_toArray, List.set_cons_zero, List.set_cons_succ]
              refine wpAnyL_ready (rs := [17]) (by kernel_rfl) (by simp) ?_
              refine AllReadyL.cons (o := ⟨some 57, .buildSlice 22 1 #[(0, .tmp 56)], 22, "redundant.go:139", #[⟨16, .data⟩], none⟩) rfl (fun K hK => ?_) AllReadyL.nil
              go_simp
              obtain ⟨g9, wq, hg9, hwq, SY, kk⟩ := litF hHeld.size x.id
              rw [← hg9, ← hwq]
              clear hg9 hwq
              (try replace SX := SX.nx kk)
              (first | replace hDrew := hDrew.nx kk | replace KE := KE.nx kk)
              replace hHeld := hold_ex hHeld zbp zgp kk
              clear kk
              refine hK.out _ _ (hHeld) (fun hHeld => ?_)
              clear hK K
              try simp only [Act.put, List.setIfInBounds_toArray, List.set_cons_zero, List.set_cons_succ]
              refine wpAnyL_ready (rs := [18]) (by kernel_rfl) (by simp) ?_
              refine AllReadyL.cons (o := ⟨some 58, .call { callee := .builtin .append, args := #[.tmp 54, .tmp 57], argTypes := #[22, 22] }, 22, "redundant.go:139", #[⟨14, .data⟩, ⟨17, .data⟩, ⟨11, .chain⟩], none⟩) rfl (fun K hK => ?_) AllReadyL.nil
              rw [if_pos (by rfl)]
              have ry := ((GPH.out.row id).chg KA (fun g hg hv => ⟨hg, fun hx => GPH.out.2.2.2.2 id x.id g hne2 hv hx⟩)).nx KE
              have zb2 := Nat.le_trans zb1 KE.size
              refine wp_append_rda (enc := encI) _ (.tmp 54) (.tmp 57) 22 rfl w4.heap.size 3 (.int .i64 0) 1 8 Tryd.underlying22 Tryd.infoI6 rfl (by omega) (by omega) _ (J id) ry rfl _ _ 1 1 [x.id] SY (fun h => by cases h) (fun _ => rfl) (by simp [encI, Value.oneCell']) rfl (by omega) (by omega) zb2 ?_
              intro vc w2 C ch0 ch1 hvc
              have KC : Chg (fun k => k < w1.heap.size ∧ ¬ (f2 id).ownBlock = some k) w1 w2 := Chg.trans (Chg.mono KE (fun k hk => hk.1)) (Chg.mono ch0 (fun k hk => ⟨Nat.lt_of_lt_of_le hk.1 KE.size, hk.2⟩))
              have lc := own_hist hvc KE.size
              replace hHeld := hold_row hHeld zbp zgp (NB.out id) ch0
              clear ch0 ch1 hvc ry SY KE
              refine hK.out _ _ (hHeld) (fun hHeld => ?_)
              clear hK K
              try simp only [Act.put, List.setIfInBounds_toArray, List.set_cons_zero, List.set_cons_succ]
              refine wpAnyL_ready (rs := [19]) (by kernel_rfl) (by simp) ?_
              refine AllReadyL.consL (o := ⟨some 59, .mapEntry 80 (.tmp 40) (.tmp 42), 0, "redundant.go:139", #[⟨0, .data⟩, ⟨2, .data⟩, ⟨18, .chain⟩, { on := 0, ground := Ground.textOnly Departure.tupleMapEntryFirst }, { on := 1, ground := Ground.textOnly Departure.tupleMapEntryFirst }, { on := 2, ground := Ground.textOnly Departure.tupleMapEntryFirst }, { on := 3, ground := Ground.textOnly Departure.lateStores }, { on := 4, ground := Ground.textOnly Departure.lateStores }, { on := 5, ground := Ground.textOnly Departure.tupleMapEntryFirst }, { on := 6, ground := Ground.textOnly Departure.tupleMapEntryFirst }, { on := 7, ground := Ground.textOnly Departure.tupleMapEntryFirst }, { on := 8, ground := Ground.textOnly Departure.tupleMapEntryFirst }, { on := 9, ground := Ground.textOnly Departure.tupleMapEntryFirst }, { on := 10, ground := Ground.textOnly Departure.tupleMapEntryFirst }, ⟨11, .phase⟩, { on := 12, ground := Ground.textOnly Departure.lateStores }, { on := 13, ground := Ground.textOnly Departure.lateStores }, ⟨14, .phase⟩, { on := 15, ground := Ground.textOnly Departure.lateStores }, { on := 16, ground := Ground.textOnly Departure.lateStores }, { on := 17, ground := Ground.textOnly Departure.lateStoresUnsure }, ⟨18, .phase⟩], none⟩) rfl (by rfl) (fun K hK => ?_) AllReadyL.nil
              have R2 := RawM.same GPH.out.1 (hHeld.block bm (.inl rfl))
              obtain ⟨v0, st, we, hrun, k3, sz3, back⟩ := R2.entry (t := 80) Tryd.underlying3 Tryd.underlying80 (fun u => Tryd.zeroS u) (by omega) wx1.out
              go_simp
              clear hrun sz3 R2
              refine hK.out _ _ ?_
              clear hK K
              try simp only [Act.put, List.setIfInBounds_toArray, List.set_cons_zero, List.set_cons_succ]
              refine wpAnyL_takeP (i := 20) (oi := ⟨some 60, .extract (.tmp 59) 1, 3, "redundant.go:139", #[⟨19, .data⟩], none⟩) (v := ?_) rfl (by kernel_rfl) (by kernel_rfl) (by kernel_rfl) (fun _ _ _ h => h) (Or.inl ⟨by rfl, ?hyr1x20q116⟩) ?restr1x20q116
              case hyr1x20q116 => intro wq hSw; (go_simp); (try with_reducible rfl)
              try simp only [Act.put, List.setIfInBounds_toArray, List.set_cons_zero, List.set_cons_succ]
              refine wpAnyL_ready (rs := [21]) (by kernel_rfl) (by simp) ?_
              refine AllReadyL.consL (o := ⟨none, .entryStore 80 (.tmp 40) (.tmp 60) (.tmp 51), 0, "redundant.go:139", #[⟨0, .data⟩, ⟨20, .data⟩, ⟨11, .data⟩, ⟨19, .chain⟩, ⟨0, .phase⟩, ⟨1, .phase⟩, ⟨2, .phase⟩, { on := 3, ground := Ground.textOnly Departure.lateStores }, { on := 4, ground := Ground.textOnly Departure.lateStores }, ⟨5, .phase⟩, ⟨6, .phase⟩, ⟨7, .phase⟩, ⟨8, .phase⟩, ⟨9, .phase⟩, ⟨10, .phase⟩, ⟨11, .phase⟩, { on := 12, ground := Ground.textOnly Departure.lateStores }, { on := 13, ground := Ground.textOnly Departure.lateStores }, ⟨14, .phase⟩, { on := 15, ground := Ground.textOnly Departure.lateStores }, { on := 16, ground := Ground.textOnly Departure.lateStores }, { on := 17, ground := Ground.textOnly Departure.lateStoresUnsure }, ⟨18, .phase⟩, ⟨19, .phase⟩], none⟩) rfl (by rfl) (fun K hK => ?_) AllReadyL.nil
              obtain ⟨wf, hrun2, R3, k4, sz4⟩ := back we va rfl
              simp only [goInt] at hrun2
              go_simp
              clear hrun2 sz4 back
              refine hK.out _ _ ?_
              clear hK K
              try simp only [Act.put, List.setIfInBounds_toArray, List.set_cons_zero, List.set_cons_succ]
              refine wpAnyL_ready (rs := [22]) (by kernel_rfl) (by simp) ?_
              refine AllReadyL.consL (o := ⟨none, .mapUpdate 80 (.tmp 43) (.tmp 44) (.tmp 58), 0, "redundant.go:139", #[⟨3, .data⟩, ⟨4, .data⟩, ⟨18, .data⟩, ⟨21, .chain⟩, ⟨0, .phase⟩, ⟨1, .phase⟩, ⟨2, .phase⟩, ⟨3, .phase⟩, ⟨4, .phase⟩, ⟨5, .phase⟩, ⟨6, .phase⟩, ⟨7, .phase⟩, ⟨8, .phase⟩, ⟨9, .phase⟩, ⟨10, .phase⟩, ⟨11, .phase⟩, ⟨12, .phase⟩, ⟨13, .phase⟩, ⟨14, .phase⟩, ⟨15, .phase⟩, ⟨16, .phase⟩, ⟨17, .phase⟩, ⟨18, .phase⟩, ⟨19, .phase⟩, ⟨20, .phase⟩, ⟨21, .phase⟩], none⟩) rfl (by rfl) (fun K hK => ?_) AllReadyL.nil
              obtain ⟨wg, hrun3, R4, k5, sz5⟩ := R3.put (t := 80) Tryd.underlying3 Tryd.underlying80 (by omega) wx2.out vc
              go_simp
              clear hrun3 sz5 R3
              refine hK.out _ _ ?_
              clear hK K
              try simp only [Act.put, List.setIfInBounds_toArray, List.set_cons_zero, List.set_cons_succ]
              refine wpAnyL_done (by kernel_rfl) ?_ _
              have KF := k3.nxb (k4.nxb k5)
              have GN := GPH.out.two (x := x.id) (y := id) (fun h => hne2 h.symm) A KA la C KC lc KF R4
              have AN := AC.out.two (fun v g hg => ((GPH.out.row v).lt g hg).1) KA la KC lc KF
              have RR := Lib.hid (show CmRel x.id L (prsU N P j) bm wi.heap.size w4 w9 (.int .i64 ((i : Int) + 1)) wg from ⟨i + 1, m + 1 + 1, _, by omega, by go_num, by rw [LS.out, ← List.append_assoc, jOf_snoc, HJ.out]; exact GN, by rw [M2.out]; omega, AN⟩)
              clear GN AN KF A C KA KC la lc R4 k3 k4 k5 hHeld
              go_wp2_with fail
              exact ⟨RR.out, by simp [intOf]; omega⟩
            refine AllReadyL.cons (o := ⟨some 57, .buildSlice 22 1 #[(0, .tmp 56)], 22, "redundant.go:139", #[⟨16, .data⟩], none⟩) rfl (fun K hK => ?_) AllReadyL.nil
            · go_simp
              obtain ⟨g9, wq, hg9, hwq, SY, kk⟩ := litF hHeld.size x.id
              rw [← hg9, ← hwq]
              clear hg9 hwq
              (try replace SX := SX.nx kk)
              (first | replace hDrew := hDrew.nx kk | replace KE := KE.nx kk)
              replace hHeld := hold_ex hHeld zbp zgp kk
              clear kk
              refine hK.out _ _ (hHeld) (fun hHeld => ?_)
              clear hK K
              try simp only [Act.put, List.setIfInBounds_toArray, List.set_cons_zero, List.set_cons_succ]
              refine wpAnyL_ready (rs := [11]) (by kernel_rfl) (by simp) ?_
              refine AllReadyL.cons (o := ⟨some 51, .call { callee := .builtin .append, args := #[.tmp 48, .tmp 50], argTypes := #[22, 22] }, 22, "redundant.go:139", #[⟨8, .data⟩, ⟨10, .data⟩], none⟩) rfl (fun K hK => ?_) AllReadyL.nil
              rw [if_pos (by rfl)]
              have rx := (GPH.out.row x.id).nx hDrew
              have zbase := Nat.le_trans GPH.out.2.2.1 hDrew.size
              refine wp_append_rda (enc := encI) _ (.tmp 48) (.tmp 50) 22 rfl w4.heap.size 3 (.int .i64 0) 1 8 Tryd.underlying22 Tryd.infoI6 rfl (by omega) (by omega) _ (J x.id) rx rfl _ _ 1 1 [id] SX (fun h => by cases h) (fun _ => rfl) (by simp [encI, Value.oneCell']) rfl (by omega) (by omega) zbase ?_
              intro va w1 A ch0 ch1 hva
              have KA : Chg (fun k => k < wp.heap.size ∧ ¬ (f2 x.id).ownBlock = some k) wp w1 := Chg.trans (Chg.mono hDrew (fun k hk => hk.1)) (Chg.mono ch0 (fun k hk => ⟨Nat.lt_of_lt_of_le hk.1 hDrew.size, hk.2⟩))
              have la := own_hist hva hDrew.size
              (try replace SY := SY.row2 (fun g hg => ((GPH.out.row x.id).lt g hg).2) ch0)
              have KE := Ex.refl w1
              replace hHeld := hold_row hHeld zbp zgp (NB.out x.id) ch0
              have zb1 := Nat.le_trans zbase ch0.size
              clear ch0 ch1 hva rx hDrew SX
              refine hK.out _ _ (hHeld) (fun hHeld => ?_)
              clear hK K
              try simp only [Act.put, List.setIfInBounds_toArray, List.set_cons_zero, List.set_cons_succ]
              refine wpAnyL_ready (rs := [18]) (by kernel_rfl) (by simp) ?_
              refine AllReadyL.cons (o := ⟨some 58, .call { callee := .builtin .append, args := #[.tmp 54, .tmp 57], argTypes := #[22, 22] }, 22, "redundant.go:139", #[⟨14, .data⟩, ⟨17, .data⟩, ⟨11, .chain⟩], none⟩) rfl (fun K hK => ?_) AllReadyL.nil
              rw [if_pos (by rfl)]
              have ry := ((GPH.out.row id).chg KA (fun g hg hv => ⟨hg, fun hx => GPH.out.2.2.2.2 id x.id g hne2 hv hx⟩)).nx KE
              have zb2 := Nat.le_trans zb1 KE.size
              refine wp_append_rda (enc := encI) _ (.tmp 54) (.tmp 57) 22 rfl w4.heap.size 3 (.int .i64 0) 1 8 Tryd.underlying22 Tryd.infoI6 rfl (by omega) (by omega) _ (J id) ry rfl _ _ 1 1 [x.id] SY (fun h => by cases h) (fun _ => rfl) (by simp [encI, Value.oneCell']) rfl (by omega) (by omega) zb2 ?_
              intro vc w2 C ch0 ch1 hvc
              have KC : Chg (fun k => k < w1.heap.size ∧ ¬ (f2 id).ownBlock = some k) w1 w2 := Chg.trans (Chg.mono KE (fun k hk => hk.1)) (Chg.mono ch0 (fun k hk => ⟨Nat.lt_of_lt_of_le hk.1 KE.size, hk.2⟩))
              have lc := own_hist hvc KE.size
              replace hHeld := hold_row hHeld zbp zgp (NB.out id) ch0
              clear ch0 ch1 hvc ry SY KE
              refine hK.out _ _ (hHeld) (fun hHeld => ?_)
              clear hK K
              try simp only [Act.put, List.setIfInBounds_toArray, List.set_cons_zero, List.set_cons_succ]
              refine wpAnyL_ready (rs := [19]) (by kernel_rfl) (by simp) ?_
              refine AllReadyL.consL (o := ⟨some 59, .mapEntry 80 (.tmp 40) (.tmp 42), 0, "redundant.go:139", #[⟨0, .data⟩, ⟨2, .data⟩, ⟨18, .chain⟩, { on := 0, ground := Ground.textOnly Departure.tupleMapEntryFirst }, { on := 1, ground := Ground.textOnly Departure.tupleMapEntryFirst }, { on := 2, ground := Ground.textOnly Departure.tupleMapEntryFirst }, { on := 3, ground := Ground.textOnly Departure.lateStores }, { on := 4, ground := Ground.textOnly Departure.lateStores }, { on := 5, ground := Ground.textOnly Departure.tupleMapEntryFirst }, { on := 6, ground := Ground.textOnly Departure.tupleMapEntryFirst }, { on := 7, ground := Ground.textOnly Departure.tupleMapEntryFirst }, { on := 8, ground := Ground.textOnly Departure.tupleMapEntryFirst }, { on := 9, ground := Ground.textOnly Departure.tupleMapEntryFirst }, { on := 10, ground := Ground.textOnly Departure.tupleMapEntryFirst }, ⟨11, .phase⟩, { on := 12, ground := Ground.textOnly Departure.lateStores }, { on := 13, ground := Ground.textOnly Departure.lateStores }, ⟨14, .phase⟩, { on := 15, ground := Ground.textOnly Departure.lateStores }, { on := 16, ground := Ground.textOnly Departure.lateStores }, { on := 17, ground := Ground.textOnly Departure.lateStoresUnsure }, ⟨18, .phase⟩], none⟩) rfl (by rfl) (fun K hK => ?_) AllReadyL.nil
              have R2 := RawM.same GPH.out.1 (hHeld.block bm (.inl rfl))
              obtain ⟨v0, st, we, hrun, k3, sz3, back⟩ := R2.entry (t := 80) Tryd.underlying3 Tryd.underlying80 (fun u => Tryd.zeroS u) (by omega) wx1.out
              go_simp
              clear hrun sz3 R2
              refine hK.out _ _ ?_
              clear hK K
              try simp only [Act.put, List.setIfInBounds_toArray, List.set_cons_zero, List.set_cons_succ]
              refine wpAnyL_takeP (i := 20) (oi := ⟨some 60, .extract (.tmp 59) 1, 3, "redundant.go:139", #[⟨19, .data⟩], none⟩) (v := ?_) rfl (by kernel_rfl) (by kernel_rfl) (by kernel_rfl) (fun _ _ _ h => h) (Or.inl ⟨by rfl, ?hyr1x20q190⟩) ?restr1x20q190
              case hyr1x20q190 => intro wq hSw; (go_simp); (try with_reducible rfl)
              try simp only [Act.put, List.setIfInBounds_toArray, List.set_cons_zero, List.set_cons_succ]
              refine wpAnyL_ready (rs := [21]) (by kernel_rfl) (by simp) ?_
              refine AllReadyL.consL (o := ⟨none, .entryStore 80 (.tmp 40) (.tmp 60) (.tmp 51), 0, "redundant.go:139", #[⟨0, .data⟩, ⟨20, .data⟩, ⟨11, .data⟩, ⟨19, .chain⟩, ⟨0, .phase⟩, ⟨1, .phase⟩, ⟨2, .phase⟩, { on := 3, ground := Ground.textOnly Departure.lateStores }, { on := 4, ground := Ground.textOnly Departure.lateStores }, ⟨5, .phase⟩, ⟨6, .phase⟩, ⟨7, .phase⟩, ⟨8, .phase⟩, ⟨9, .phase⟩, ⟨10, .phase⟩, ⟨11, .phase⟩, { on := 12, ground := Ground.textOnly Departure.lateStores }, { on := 13, ground := Ground.textOnly Departure.lateStores }, ⟨14, .phase⟩, { on := 15, ground := Ground.textOnly Departure.lateStores }, { on := 16, ground := Ground.textOnly Departure.lateStores }, { on := 17, ground := Ground.textOnly Departure.lateStoresUnsure }, ⟨18, .phase⟩, ⟨19, .phase⟩], none⟩) rfl (by rfl) (fun K hK => ?_) AllReadyL.nil
              obtain ⟨wf, hrun2, R3, k4, sz4⟩ := back we va rfl
              simp only [goInt] at hrun2
              go_simp
              clear hrun2 sz4 back
              refine hK.out _ _ ?_
              clear hK K
              try simp only [Act.put, List.setIfInBounds_toArray, List.set_cons_zero, List.set_cons_succ]
              refine wpAnyL_ready (rs := [22]) (by kernel_rfl) (by simp) ?_
              refine AllReadyL.consL (o := ⟨none, .mapUpdate 80 (.tmp 43) (.tmp 44) (.tmp 58), 0, "redundant.go:139", #[⟨3, .data⟩, ⟨4, .data⟩, ⟨18, .data⟩, ⟨21, .chain⟩, ⟨0, .phase⟩, ⟨1, .phase⟩, ⟨2, .phase⟩, ⟨3, .phase⟩, ⟨4, .phase⟩, ⟨5, .phase⟩, ⟨6, .phase⟩, ⟨7, .phase⟩, ⟨8, .phase⟩, ⟨9, .phase⟩, ⟨10, .phase⟩, ⟨11, .phase⟩, ⟨12, .phase⟩, ⟨13, .phase⟩, ⟨14, .phase⟩, ⟨15, .phase⟩, ⟨16, .phase⟩, ⟨17, .phase⟩, ⟨18, .phase⟩, ⟨19, .phase⟩, ⟨20, .phase⟩, ⟨21, .phase⟩], none⟩) rfl (by rfl) (fun K hK => ?_) AllReadyL.nil
              obtain ⟨wg, hrun3, R4, k5, sz5⟩ := R3.put (t := 80) Tryd.underlying3 Tryd.underlying80 (by omega) wx2.out vc
              go_simp
              clear hrun3 sz5 R3
              refine hK.out _ _ ?_
              clear hK K
              try simp only [Act.put, List.setIfInBounds_toArray, List.set_cons_zero, List.set_cons_succ]
              refine wpAnyL_done (by kernel_rfl) ?_ _
              have KF := k3.nxb (k4.nxb k5)
              have GN := GPH.out.two (x := x.id) (y := id) (fun h => hne2 h.symm) A KA la C KC lc KF R4
              have AN := AC.out.two (fun v g hg => ((GPH.out.row v).lt g hg).1) KA la KC lc KF
              have RR := Lib.hid (show CmRel x.id L (prsU N P j) bm wi.heap.size w4 w9 (.int .i64 ((i : Int) + 1)) wg from ⟨i + 1, m + 1 + 1, _, by omega, by go_num, by rw [LS.out, ← List.append_assoc, jOf_snoc, HJ.out]; exact GN, by rw [M2.out]; omega, AN⟩)
              clear GN AN KF A C KA KC la lc R4 k3 k4 k5 hHeld
              go_wp2_with fail
              exact ⟨RR.out, by simp [intOf]; omega⟩
          refine AllReadyL.cons (o := ⟨some 57, .buildSlice 22 1 #[(0, .tmp 56)], 22, "redundant.go:139", #[⟨16, .data⟩], none⟩) rfl (fun K hK => ?_) AllReadyL.nil
          · go_simp
            obtain ⟨g9, wq, hg9, hwq, SY, kk⟩ := litF hHeld.size x.id
            rw [← hg9, ← hwq]
            clear hg9 hwq
            (try replace SX := SX.nx kk)
            (first | replace hDrew := hDrew.nx kk | replace KE := KE.nx kk)
            replace hHeld := hold_ex hHeld zbp zgp kk
            clear kk
            refine hK.out _ _ (hHeld) (fun hHeld => ?_)
            clear hK K
            try simp only [Act.put, List.setIfInBounds_toArray, List.set_cons_zero, List.set_cons_succ]
            refine wpAnyL_ready (rs := [10]) (by kernel_rfl) (by simp) ?_
            refine AllReadyL.cons (o := ⟨some 50, .buildSlice 22 1 #[(0, .tmp 49)], 22, "redundant.go:139", #[⟨9, .data⟩], none⟩) rfl (fun K hK => ?_) AllReadyL.nil
            go_simp
            obtain ⟨g8, wq, hg8, hwq, SX, kk⟩ := litF hHeld.size id
            rw [← hg8, ← hwq]
            clear hg8 hwq
            (try replace SY := SY.nx kk)
            replace hDrew := hDrew.nx kk
            replace hHeld := hold_ex hHeld zbp zgp kk
            clear kk
            refine hK.out _ _ (hHeld) (fun hHeld => ?_)
            clear hK K
            try simp only [Act.put, List.setIfInBounds_toArray, List.set_cons_zero, List.set_cons_succ]
            refine wpAnyL_ready (rs := [11]) (by kernel_rfl) (by simp) ?_
            refine AllReadyL.cons (o := ⟨some 51, .call { callee := .builtin .append, args := #[.tmp 48, .tmp 50], argTypes := #[22, 22] }, 22, "redundant.go:139", #[⟨8, .data⟩, ⟨10, .data⟩], none⟩) rfl (fun K hK => ?_) AllReadyL.nil
            rw [if_pos (by rfl)]
            have rx := (GPH.out.row x.id).nx hDrew
            have zbase := Nat.le_trans GPH.out.2.2.1 hDrew.size
            refine wp_append_rda (enc := encI) _ (.tmp 48) (.tmp 50) 22 rfl w4.heap.size 3 (.int .i64 0) 1 8 Tryd.underlying22 Tryd.infoI6 rfl (by omega) (by omega) _ (J x.id) rx rfl _ _ 1 1 [id] SX (fun h => by cases h) (fun _ => rfl) (by simp [encI, Value.oneCell']) rfl (by omega) (by omega) zbase ?_
            intro va w1 A ch0 ch1 hva
            have KA : Chg (fun k => k < wp.heap.size ∧ ¬ (f2 x.id).ownBlock = some k) wp w1 := Chg.trans (Chg.mono hDrew (fun k hk => hk.1)) (Chg.mono ch0 (fun k hk => ⟨Nat.lt_of_lt_of_le hk.1 hDrew.size, hk.2⟩))
            have la := own_hist hva hDrew.size
            (try replace SY := SY.row2 (fun g hg => ((GPH.out.row x.id).lt g hg).2) ch0)
            have KE := Ex.refl w1
            replace hHeld := hold_row hHeld zbp zgp (NB.out x.id) ch0
            have zb1 := Nat.le_trans zbase ch0.size
            clear ch0 ch1 hva rx hDrew SX
            refine hK.out _ _ (hHeld) (fun hHeld => ?_)
            clear hK K
            try simp only [Act.put, List.setIfInBounds_toArray, List.set_cons_zero, List.set_cons_succ]
            refine wpAnyL_ready (rs := [18]) (by kernel_rfl) (by simp) ?_
            refine AllReadyL.cons (o := ⟨some 58, .call { callee := .builtin .append, args := #[.tmp 54, .tmp 57], argTypes := #[22, 22] }, 22, "redundant.go:139", #[⟨14, .data⟩, ⟨17, .data⟩, ⟨11, .chain⟩], none⟩) rfl (fun K hK => ?_) AllReadyL.nil
            rw [if_pos (by rfl)]
            have ry := ((GPH.out.row id).chg KA (fun g hg hv => ⟨hg, fun hx => GPH.out.2.2.2.2 id x.id g hne2 hv hx⟩)).nx KE
            have zb2 := Nat.le_trans zb1 KE.size
            refine wp_append_rda (enc := encI) _ (.tmp 54) (.tmp 57) 22 rfl w4.heap.size 3 (.int .i64 0) 1 8 Tryd.underlying22 Tryd.infoI6 rfl (by omega) (by omega) _ (J id) ry rfl _ _ 1 1 [x.id] SY (fun h => by cases h) (fun _ => rfl) (by simp [encI, Value.oneCell']) rfl (by omega) (by omega) zb2 ?_
            intro vc w2 C ch0 ch1 hvc
            have KC : Chg (fun k => k < w1.heap.size ∧ ¬ (f2 id).ownBlock = some k) w1 w2 := Chg.trans (Chg.mono KE (fun k hk => hk.1)) (Chg.mono ch0 (fun k hk => ⟨Nat.lt_of_lt_of_le hk.1 KE.size, hk.2⟩))
            have lc := own_hist hvc KE.size
            replace hHeld := hold_row hHeld zbp zgp (NB.out id) ch0
            clear ch0 ch1 hvc ry SY KE
            refine hK.out _ _ (hHeld) (fun hHeld => ?_)
            clear hK K
            try simp only [Act.put, List.setIfInBounds_toArray, List.set_cons_zero, List.set_cons_succ]
            refine wpAnyL_ready (rs := [19]) (by kernel_rfl) (by simp) ?_
            refine AllReadyL.consL (o := ⟨some 59, .mapEntry 80 (.tmp 40) (.tmp 42), 0, "redundant.go:139", #[⟨0, .data⟩, ⟨2, .data⟩, ⟨18, .chain⟩, { on := 0, ground := Ground.textOnly Departure.tupleMapEntryFirst }, { on := 1, ground := Ground.textOnly Departure.tupleMapEntryFirst }, { on := 2, ground := Ground.textOnly Departure.tupleMapEntryFirst }, { on := 3, ground := Ground.textOnly Departure.lateStores }, { on := 4, ground := Ground.textOnly Departure.lateStores }, { on := 5, ground := Ground.textOnly Departure.tupleMapEntryFirst }, { on := 6, ground := Ground.textOnly Departure.tupleMapEntryFirst }, { on := 7, ground := Ground.textOnly Departure.tupleMapEntryFirst }, { on := 8, ground := Ground.textOnly Departure.tupleMapEntryFirst }, { on := 9, ground := Ground.textOnly Departure.tupleMapEntryFirst }, { on := 10, ground := Ground.textOnly Departure.tupleMapEntryFirst }, ⟨11, .phase⟩, { on := 12, ground := Ground.textOnly Departure.lateStores }, { on := 13, ground := Ground.textOnly Departure.lateStores }, ⟨14, .phase⟩, { on := 15, ground := Ground.textOnly Departure.lateStores }, { on := 16, ground := Ground.textOnly Departure.lateStores }, { on := 17, ground := Ground.textOnly Departure.lateStoresUnsure }, ⟨18, .phase⟩], none⟩) rfl (by rfl) (fun K hK => ?_) AllReadyL.nil
            have R2 := RawM.same GPH.out.1 (hHeld.block bm (.inl rfl))
            obtain ⟨v0, st, we, hrun, k3, sz3, back⟩ := R2.entry (t := 80) Tryd.underlying3 Tryd.underlying80 (fun u => Tryd.zeroS u) (by omega) wx1.out
            go_simp
            clear hrun sz3 R2
            refine hK.out _ _ ?_
            clear hK K
            try simp only [Act.put, List.setIfInBounds_toArray, List.set_cons_zero, List.set_cons_succ]
            refine wpAnyL_takeP (i := 20) (oi := ⟨some 60, .extract (.tmp 59) 1, 3, "redundant.go:139", #[⟨19, .data⟩], none⟩) (v := ?_) rfl (by kernel_rfl) (by kernel_rfl) (by kernel_rfl) (fun _ _ _ h => h) (Or.inl ⟨by rfl, ?hyr1x20q277⟩) ?restr1x20q277
            case hyr1x20q277 => intro wq hSw; (go_simp); (try with_reducible rfl)
            try simp only [Act.put, List.setIfInBounds_toArray, List.set_cons_zero, List.set_cons_succ]
            refine wpAnyL_ready (rs := [21]) (by kernel_rfl) (by simp) ?_
            refine AllReadyL.consL (o := ⟨none, .entryStore 80 (.tmp 40) (.tmp 60) (.tmp 51), 0, "redundant.go:139", #[⟨0, .data⟩, ⟨20, .data⟩, ⟨11, .data⟩, ⟨19, .chain⟩, ⟨0, .phase⟩, ⟨1, .phase⟩, ⟨2, .phase⟩, { on := 3, ground := Ground.textOnly Departure.lateStores }, { on := 4, ground := Ground.textOnly Departure.lateStores }, ⟨5, .phase⟩, ⟨6, .phase⟩, ⟨7, .phase⟩, ⟨8, .phase⟩, ⟨9, .phase⟩, ⟨10, .phase⟩, ⟨11, .phase⟩, { on := 12, ground := Ground.textOnly Departure.lateStores }, { on := 13, ground := Ground.textOnly Departure.lateStores }, ⟨14, .phase⟩, { on := 15, ground := Ground.textOnly Departure.lateStores }, { on := 16, ground := Ground.textOnly Departure.lateStores }, { on := 17, ground := Ground.textOnly Departure.lateStoresUnsure }, ⟨18, .phase⟩, ⟨19, .phase⟩], none⟩) rfl (by rfl) (fun K hK => ?_) AllReadyL.nil
            obtain ⟨wf, hrun2, R3, k4, sz4⟩ := back we va rfl
            simp only [goInt] at hrun2
            go_simp
            clear hrun2 sz4 back
            refine hK.out _ _ ?_
            clear hK K
            try simp only [Act.put, List.setIfInBounds_toArray, List.set_cons_zero, List.set_cons_succ]
            refine wpAnyL_ready (rs := [22]) (by kernel_rfl) (by simp) ?_
            refine AllReadyL.consL (o := ⟨none, .mapUpdate 80 (.tmp 43) (.tmp 44) (.tmp 58), 0, "redundant.go:139", #[⟨3, .data⟩, ⟨4, .data⟩, ⟨18, .data⟩, ⟨21, .chain⟩, ⟨0, .phase⟩, ⟨1, .phase⟩, ⟨2, .phase⟩, ⟨3, .phase⟩, ⟨4, .phase⟩, ⟨5, .phase⟩, ⟨6, .phase⟩, ⟨7, .phase⟩, ⟨8, .phase⟩, ⟨9, .phase⟩, ⟨10, .phase⟩, ⟨11, .phase⟩, ⟨12, .phase⟩, ⟨13, .phase⟩, ⟨14, .phase⟩, ⟨15, .phase⟩, ⟨16, .phase⟩, ⟨17, .phase⟩, ⟨18, .phase⟩, ⟨19, .phase⟩, ⟨20, .phase⟩, ⟨21, .phase⟩], none⟩) rfl (by rfl) (fun K hK => ?_) AllReadyL.nil
            obtain ⟨wg, hrun3, R4, k5, sz5⟩ := R3.put (t := 80) Tryd.underlying3 Tryd.underlying80 (by omega) wx2.out vc
            go_simp
            clear hrun3 sz5 R3
            refine hK.out _ _ ?_
            clear hK K
            try simp only [Act.put, List.setIfInBounds_toArray, List.set_cons_zero, List.set_cons_succ]
            refine wpAnyL_done (by kernel_rfl) ?_ _
            have KF := k3.nxb (k4.nxb k5)
            have GN := GPH.out.two (x := x.id) (y := id) (fun h => hne2 h.symm) A KA la C KC lc KF R4
            have AN := AC.out.two (fun v g hg => ((GPH.out.row v).lt g hg).1) KA la KC lc KF
            have RR := Lib.hid (show CmRel x.id L (prsU N P j) bm wi.heap.size w4 w9 (.int .i64 ((i : Int) + 1)) wg from ⟨i + 1, m + 1 + 1, _, by omega, by go_num, by rw [LS.out, ← List.append_assoc, jOf_snoc, HJ.out]; exact GN, by rw [M2.out]; omega, AN⟩)
            clear GN AN KF A C KA KC la lc R4 k3 k4 k5 hHeld
            go_wp2_with fail
            exact ⟨RR.out, by simp [intOf]; omega⟩
        · obtain rfl : i = L.length := by omega
          rw [List.take_of_length_le (Nat.le_refl _), ← SN.out] at GP
          have RR := Lib.hid (show CnRel N P bm w4 (.int .i64 ((j : Int) + 1)) wp from ⟨j + 1, m, f2, by have := HL.out; omega, by go_num, GP, by rw [SN.out, List.length_append, List.length_map]; exact hm2, (ac.exb (KW.out.nxb (K9.out.b bm)) (Nat.le_refl _))⟩)
          clear GP ac
          go_wp2_with fail
          exact ⟨RR.out, by simp [intOf]; omega⟩
    · have hjN : j = N.length := by have := HL.out; omega
      have PE := prsU_len HC.out P N.length
      rw [hjN] at GP
      rw [prsU_all] at GP PE
      clear hjN
      have HJ : Hid (∀ u v, v ∈ jOf (pairsN N P) u ↔ EdgeN N P u v ∨ EdgeN N P v u) := Lib.hid (fun u v => joined_law HC.out)
      have JX : Hid (∀ u, (jOf (pairsN N P) u).length ≤ 10000) := Lib.hid (fun u => by
        have h1 := ((jOf_law _ (pairsN N P) rfl (fun q hq => pairs_ne HC.out hq)) u).1
        omega)
      generalize jOf (pairsN N P) = J at GP HJ JX
      have GW := Lib.hid GP
      have KW := Lib.hid kw
      clear GP kw PE
      have G6 := SetM.made wi Tryd.prog 3 4
      have kk := Ex.new wi (.map #[] 0)
      obtain ⟨w6, hw6⟩ : ∃ w6, w6 = wi.alloc (.map #[] 0) := ⟨_, rfl⟩
      obtain ⟨bs, hbs⟩ : ∃ bs, bs = wi.heap.size := ⟨_, rfl⟩
      have hsz6 : w6.heap.size = bs + 1 := by rw [hw6, hbs]; simp
      rw [← hbs, ← hw6] at G6
      rw [← hw6] at kk
      have Hw6 := Lib.hid hw6
      have Hbs := Lib.hid hbs
      have Hbs' := Lib.hid hbs
      have K6 := Lib.hid kk
      replace G6 := Lib.hid G6
      replace hsz6 := Lib.hid hsz6
      clear kk hw6 hbs
      have hmm := @run_makeMap Tryd.prog
      go_upto_region 16 with fail
      rw [← Hbs.out, ← Hw6.out]
      clear Hbs Hw6
      clear hmm hjm hjn
      go_upto_if 66 with fail
      go_cut [12] from 67 to 71 (fun q wk => CqRel N bs w6 q wk)
      case first =>
        by_cases hn0 : n = 0
        · have CUT : Hid (CqRel N bs w6 (.slice none 0 0) w6) := Lib.hid (by
            have : N = [] := List.eq_nil_of_length_eq_zero (by have := HL.out; omega)
            subst this
            exact ⟨.inl ⟨rfl, rfl⟩, Ex.refl _⟩)
          subst hn0
          go_wp2_with fail
          go_meet
          exact CUT.out
        · have hn1 : 0 < n := by omega
          obtain ⟨x3, o3, x, rfl, hx3, hy, hc3⟩ := ((HS.out.nxb KW.out).nxb (K6.out.b bm)).sl.at hn1
          have e0 : w6.cell? ⟨x3, o3, none⟩ = some (.int .i64 x.id) := by simpa using hc3 0 _ rfl
          have HX := Lib.hid (startN_at hy)
          obtain ⟨g7, hg7⟩ : ∃ g7, g7 = w6.heap.size := ⟨_, rfl⟩
          obtain ⟨w7, hw7⟩ : ∃ w7, w7 = w6.alloc (.cells #[.int .i64 x.id] 3) := ⟨_, rfl⟩
          have CUT : Hid (CqRel N bs w6 (.slice (some ⟨g7, 0, none⟩) 1 1) w7) := Lib.hid (by
            unfold CqRel
            rw [HX.out, hg7, hw7]
            exact ⟨QuL.ofL (OwnL.lit [x.id] (fun _ => rfl) (by have := hsz6.out; omega) (by simp [maxLen]) rfl), Ex.new _ _⟩)
          have Hg7 := Lib.hid hg7
          have Hw7 := Lib.hid hw7
          clear hc3 hy hg7 hw7
          go_upto_region 19 with fail
          rw [← Hg7.out, ← Hw7.out]
          clear Hg7 Hw7
          go_wp2_with fail
          go_meet
          exact CUT.out
      case rest =>
        rename World => wk
        obtain ⟨Q1, k7⟩ := hcut
        have C0 : Hid (CbRel N P J bs wi (todoN N J [] (startN N)) u12 wk) := Lib.hid ⟨[], startN N, startN_bfs N P J, G6.out.nx k7, Q1, K6.out.nx k7, rfl, by have h1 := todo_le (N := N) (by have := HL.out; omega) JX.out [] (startN N); have h2 := startN_len N; omega⟩
        clear Q1 k7
        have hwb6 : wi.heap.size = bs := Hbs'.out.symm
        go_upto_region 19 with fail
        go_loopg [12] (todoN N J [] (startN N)) (fun k o wr => CbRel N P J bs wi k o wr)
        case atStart => exact C0.out
        case round =>
          clear C0
          obtain ⟨M, T, BF, SM, QT, kx, rfl, hk7⟩ := hrel
          obtain ⟨wp, rfl⟩ : ∃ wp : World, wp = wr := ⟨_, rfl⟩
          have HK7 := Lib.hid hk7
          have BL := Lib.hid (Nat.le_trans (bfs_len HC.out BF) (show N.length ≤ 64 by have := HL.out; omega))
          have BFH := Lib.hid BF
          have SMH := Lib.hid SM
          have KX := Lib.hid kx
          clear hk7 SM kx
          cases T with
          | nil =>
            obtain ⟨aq, cq, rfl⟩ := QT.no
            have RES : Hid (decide ((M.length : Int) = n) = connB N P) := Lib.hid (by rw [← HL.out]; exact conn_bool HC.out HJ.out BFH.out)
            have hlen := fun ty => SMH.out.len (t := 83) Tryd.underlying83 BFH.out.1 ty
            have KE := Lib.hid ((Exl.nxb (⟨EX1.out, hwb⟩ : Exl bm w w4) KW.out).nx KX.out).1
            clear BF QT
            go_wp2_with fail
            go_ret
            exact ⟨by rw [← RES.out]; rfl, KE.out⟩
          | cons v T =>
            obtain ⟨g, o, cap, rfl, hg, hbg, hc1, hcl, e0, Q2⟩ := QT.front
            obtain ⟨x, hx, hxv⟩ := bfs_node HC.out BFH.out (.inr (List.mem_cons_self ..))
            have hvI := Lib.hid (hxv ▸ HI.out x hx)
            have wv := Lib.hid (wf_of hvI.out)
            have TL := Lib.hid (Nat.le_trans (todo_len N J M (v :: T)) HK7.out)
            have lk := fun hz => SMH.out.get (t := 83) Tryd.underlying3 Tryd.underlying4 Tryd.underlying83 hz wv.out
            replace lk := lk (Tryd.zeroB _)
            clear QT BF
            by_cases hcap : cap = 1
            · subst hcap
              obtain rfl : T = [] := List.eq_nil_of_length_eq_zero (by omega)
              replace Q2 : QuL 3 (bs + 1) wp (.slice (some ⟨g, o, none⟩) 0 0) [] := by rw [if_pos rfl] at Q2; exact Q2
              by_cases hv : v ∈ M
              · have d1 : M.contains v = true := by simpa using hv
                have RR := Lib.hid (show CbRel N P J bs wi (todoN N J M []) (.slice (some ⟨g, o, none⟩) 0 0) wp from ⟨M, [], bfs_old BFH.out hv, SMH.out, Q2, KX.out, rfl, by have := HK7.out; have := todo_old N J M [] v; omega⟩)
                clear Q2
                go_wp2_with fail
                go_roundg (todoN N J M [])
                case measure => have := todo_old N J M [] v; omega
                case rel => exact RR.out
              · have d1 : M.contains v = false := by simpa using hv
                obtain ⟨wq, hput, SM2, kb, hzq⟩ := SMH.out.put (t := 83) Tryd.underlying3 Tryd.underlying4 Tryd.underlying83 (by have := BL.out; omega) wv.out
                have kx2 := Lib.hid ((Exl.nxb (⟨KX.out, by omega⟩ : Exl bs wi wp) kb).1)
                have GQ := GW.out.nx kx2.out
                have lk2 := GQ.1.get (t := 80) Tryd.underlying3 Tryd.underlying80 (Tryd.zeroS _) wv.out
                obtain ⟨ar, cr, er, rr, hr0⟩ := (GQ.row v).rdz (fun _ => rfl)
                rw [er] at lk2
                have hq6 : bs + 1 ≤ wq.heap.size := by have := SM2.lt; omega
                obtain ⟨v9, w9, hap, Q3, c1, c2, _⟩ := (Q2.nxb (by omega) kb).append (P := Tryd.prog) 22 22 (z := .int .i64 0) (bytes := 8) Tryd.underlying22 Tryd.infoI6 rfl (by omega) rr hr0 (by have := TL.out; simp at this; omega) (by have := JX.out v; omega) hq6
                have TN : Hid (todoN N J (M ++ [v]) ([] ++ J v) + 1 = todoN N J M (v :: [])) := Lib.hid (by subst hxv; exact todo_new HC.out hx hv)
                have RR := Lib.hid (show CbRel N P J bs wi (todoN N J (M ++ [v]) ([] ++ J v)) v9 w9 from ⟨M ++ [v], [] ++ J v, bfs_new (fun u v => (HJ.out u v).1) BFH.out hv, SM2.same (c2.block bs (Nat.lt_succ_self _)), Q3, Chg.trans kx2.out (Chg.mono c2 fun k hk => by show k < bs + 1; omega), rfl, by have := HK7.out; have := TN.out; omega⟩)
                clear Q2 GQ er rr hr0 Q3 c1 c2 hx hxv SM2 kb
                go_wp2_with (at_builtin; go_loud (refine wpList_append_hap rfl _ _ 22 rfl hap rfl rfl ?_))
                go_roundg (todoN N J (M ++ [v]) ([] ++ J v))
                case measure => have := TN.out; omega
                case rel => exact RR.out
            · rw [if_neg hcap] at Q2
              by_cases hv : v ∈ M
              · have d1 : M.contains v = true := by simpa using hv
                have RR := Lib.hid (show CbRel N P J bs wi (todoN N J M T) (.slice (some ⟨g, o + 1, none⟩) T.length (cap - 1)) wp from ⟨M, T, bfs_old BFH.out hv, SMH.out, Q2, KX.out, rfl, by have := HK7.out; have := todo_old N J M T v; omega⟩)
                clear Q2
                go_wp2_with fail
                go_roundg (todoN N J M T)
                case measure => have := todo_old N J M T v; omega
                case rel => exact RR.out
              · have d1 : M.contains v = false := by simpa using hv
                obtain ⟨wq, hput, SM2, kb, hzq⟩ := SMH.out.put (t := 83) Tryd.underlying3 Tryd.underlying4 Tryd.underlying83 (by have := BL.out; omega) wv.out
                have kx2 := Lib.hid ((Exl.nxb (⟨KX.out, by omega⟩ : Exl bs wi wp) kb).1)
                have GQ := GW.out.nx kx2.out
                have lk2 := GQ.1.get (t := 80) Tryd.underlying3 Tryd.underlying80 (Tryd.zeroS _) wv.out
                obtain ⟨ar, cr, er, rr, hr0⟩ := (GQ.row v).rdz (fun _ => rfl)
                rw [er] at lk2
                have hq6 : bs + 1 ≤ wq.heap.size := by have := SM2.lt; omega
                obtain ⟨v9, w9, hap, Q3, c1, c2, _⟩ := (Q2.nxb (by omega) kb).append (P := Tryd.prog) 22 22 (z := .int .i64 0) (bytes := 8) Tryd.underlying22 Tryd.infoI6 rfl (by omega) rr hr0 (by have := TL.out; simp at this; omega) (by have := JX.out v; omega) hq6
                have TN : Hid (todoN N J (M ++ [v]) (T ++ J v) + 1 = todoN N J M (v :: T)) := Lib.hid (by subst hxv; exact todo_new HC.out hx hv)
                have RR := Lib.hid (show CbRel N P J bs wi (todoN N J (M ++ [v]) (T ++ J v)) v9 w9 from ⟨M ++ [v], T ++ J v, bfs_new (fun u v => (HJ.out u v).1) BFH.out hv, SM2.same (c2.block bs (Nat.lt_succ_self _)), Q3, Chg.trans kx2.out (Chg.mono c2 fun k hk => by show k < bs + 1; omega), rfl, by have := HK7.out; have := TN.out; omega⟩)
                clear Q2 GQ er rr hr0 Q3 c1 c2 hx hxv SM2 kb
                go_wp2_with (at_builtin; go_loud (refine wpList_append_hap rfl _ _ 22 rfl hap rfl rfl ?_))
                go_roundg (todoN N J (M ++ [v]) (T ++ J v))
                case measure => have := TN.out; omega
                case rel => exact RR.out
end Go.Proofs.YtbnbjiddffihoaaDoor

/- Pairs of the reference of chapter 14. -/
namespace Go.Proofs.YtbnbjiddffihoaaDoor
open Go.RowKit

def encP2 (q : Int × Int) : List Value := [.int .i64 q.1, .int .i64 q.2]
theorem Tryd.infoP2 : (Tryd.prog.info? 127).map (fun i => (i.zero, i.size, i.bytes)) = some (some (.agg #[.int .i64 0, .int .i64 0]), 2, 16) := by kernel_rfl
theorem encP2_one (q : Int × Int) : ∀ u ∈ encP2 q, u.oneCell' = true := by
  intro u hu
  simp only [encP2, List.mem_cons, List.not_mem_nil, or_false] at hu
  rcases hu with rfl | rfl <;> rfl
theorem peerN_small {P : List Pr} {m : Nat} (h : ∀ p ∈ P, p.known.length ≤ m ∧ p.near.length ≤ m) (id : Int) : (peerN P id).known.length ≤ m ∧ (peerN P id).near.length ≤ m := by
  unfold peerN
  cases hf : P.find? fun p => p.id == id with
  | none => exact ⟨Nat.zero_le _, Nat.zero_le _⟩
  | some p => exact h p (List.mem_of_find?_eq_some hf)
def PqPost (E : List (Int × Int)) (w : World) (e : Ending) (w' : World) : Prop := ∃ v, e = .returned v ∧ OwnW 2 encP2 127 w.heap.size w' v E ∧ Ex w w'
def PaRel (N : List Nd) (P : List Pr) (w : World) (o i : Value) (wr : World) : Prop :=
  ∃ j : Nat, j ≤ N.length ∧ i = .int .i64 j ∧ OwnW 2 encP2 127 w.heap.size wr o (prsU N P j) ∧ Ex w wr
def PbRel (x : Int) (l : List Int) (E : List (Int × Int)) (β lo : Nat) (w6 : World) (o i : Value) (wr : World) : Prop :=
  ∃ j : Nat, j ≤ l.length ∧ i = .int .i64 j ∧ OwnW 2 encP2 127 β wr o (E ++ (l.take j).map fun v => (x, v)) ∧ Acc β lo w6.heap.size w6 wr o
theorem litP2 {w0 u : World} (_ : Ex w0 u) (x y : Int) : ∃ g v, g = u.heap.size ∧ v = u.alloc (.cells #[.int .i64 x, .int .i64 y] 127) ∧ Sl 2 encP2 v (some ⟨g, 0, none⟩) 1 [(x, y)] ∧ Ex u v :=
  ⟨_, _, rfl, rfl, Sl.lit [(x, y)] rfl rfl (fun _ => rfl) rfl, Ex.new _ _⟩
set_option maxRecDepth 100000 in
set_option maxHeartbeats 16000000 in
theorem pairs_r (a : Option Addr) (n c : Nat) (N : List Nd) (a2 : Option Addr) (n2 c2 : Nat) (P : List Pr) (w : World) (h : Sl 3 encN w a n N) (hn : n ≤ 1000) (h0 : checkN N = 0) (h2 : PL w a2 n2 P) (hn2 : n2 ≤ 1000000) (hP : ∀ p ∈ P, p.known.length ≤ 2000000 ∧ p.near.length ≤ 2000000) :
    Calls Tryd.prog 63 #[.slice a n c, .slice a2 n2 c2] w (PqPost (pairsN N P) w) := by
  have HL := Lib.hid h.len
  have HC := Lib.hid h0
  have hn64 : n ≤ 64 := by have := check_len h0; have := HL.out; omega
  have HS := Lib.hid h
  have HPL := Lib.hid h2
  have HP := Lib.hid hP
  have HSP : Hid (SmallP P) := Lib.hid (fun p hp => by have := HP.out p hp; omega)
  clear h h0 h2 hP
  go_enter Tryd.func63, Tryd.ntmps63
  go_wp2_with fail
  go_loopw [5, 6] (fun o i wr => PaRel N P w o i wr) (fun _ i _ => n - (intOf i).toNat)
  case atStart => exact ⟨0, Nat.zero_le _, rfl, OwnW.nil _ _ _ _ _, Ex.refl _⟩
  case round =>
    obtain ⟨j, hj, rfl, own, kw⟩ := hrel
    obtain ⟨wo, rfl⟩ : ∃ wo : World, wo = wr := ⟨_, rfl⟩
    by_cases hlt : j < n
    · obtain ⟨x3, o3, x, rfl, hx3, hy, hc3⟩ := (HS.out.nx kw).at hlt
      have e0 : wo.cell? ⟨x3, o3 + j * 3, none⟩ = some (.int .i64 x.id) := hc3 0 _ rfl
      have HY := Lib.hid hy
      have SN := Lib.hid (prsU_snoc (P := P) hy)
      have PE := prsU_len HC.out P j
      have KW := Lib.hid kw
      have hzo := kw.size
      have BLO := Lib.hid (fun g hg => own.blk_lt (g := g) hg)
      clear hc3 hy kw hj
      go_wp2_with fail
      (with_reducible refine (peer_r _ _ _ P x.id _ (HPL.out.nx KW.out) hn2 HSP.out).mono ?_)
      rintro e w6 ⟨hk, hq, rfl, ok1, ok2, kk⟩
      replace own := own.nx kk
      have K6 := Lib.hid kk
      have hz6 := kk.size
      have hpl := peerN_small HP.out x.id
      generalize peerN P x.id = p at ok1 ok2 hpl SN ⊢
      obtain ⟨A1, C1, E1, r1, z1⟩ := ok1.rdz (fun _ => rfl)
      obtain ⟨A2, C2, E2, r2, z2⟩ := ok2.rdz (fun _ => rfl)
      rw [E1, E2]
      have s1 : Sl 1 encI w6 A1 p.known.length p.known := r1.mono (fun _ hk => hk.2)
      have s2 : Sl 4 encNr w6 A2 p.near.length p.near := r2.mono (fun _ hk => hk.2)
      clear kk ok1 ok2 r1 r2 z2 E1 E2 e0
      go_wp2_with fail
      (with_reducible refine (refs_r _ _ _ N p _ _ _ _ _ _ _ (HS.out.nx (KW.out.nx K6.out)) hn s1 s2 hpl.1 hpl.2 z1).mono ?_)
      rintro e w7 ⟨v7, rfl, o7, kk⟩
      replace own := own.nx kk
      obtain ⟨A7, C7, rfl, r7, _, _, _⟩ := o7.slf (fun _ => rfl)
      have R7 := Lib.hid r7
      have hlr := refs_len HC.out p
      have K7 := Lib.hid (K6.out.nx kk)
      have hz7 := kk.size
      have A0 := Lib.hid (Acc.start (β := w.heap.size) (lo := w6.heap.size) (Nat.le_refl w7.heap.size) (fun g hg => .inl (by have := BLO.out g hg; omega)))
      generalize refsN N p = L at r7 R7 hlr SN ⊢
      have hLl : L.length ≤ 64 := by have := HL.out; omega
      generalize hE : prsU N P j = E at own PE SN
      clear o7 kk s1 s2 hpl z1 r7 hlr hE BLO
      go_wp2_with fail
      go_loopw [5, 8] (fun o i wr => PbRel x.id L E w.heap.size w6.heap.size w7 o i wr) (fun _ i _ => L.length - (intOf i).toNat)
      case atStart => exact ⟨0, Nat.zero_le _, rfl, by simpa using own, A0.out⟩
      case round =>
        clear own A0
        obtain ⟨k, hk, rfl, own, ac⟩ := hrel
        obtain ⟨wp, rfl⟩ : ∃ wp : World, wp = wr := ⟨_, rfl⟩
        by_cases hkl : k < L.length
        · obtain ⟨xr, or, id, rfl, hxr, hid, hcr⟩ := (ac.sl R7.out).at hkl
          have f0 : wp.cell? ⟨xr, or + k, none⟩ = some (.int .i64 id) := by simpa using hcr 0 _ rfl
          have F0 := Lib.hid (fun wq (k : Ex wp wq) => Chg.cellv k f0 hxr)
          obtain ⟨x3', o3', x', he', hx3', hy', hc3'⟩ := (HS.out.nx (ac.ex (KW.out.nx K7.out))).at hlt
          cases he'
          obtain rfl : x = x' := Option.some.inj (HY.out.symm.trans hy')
          have e0 : wp.cell? ⟨x3, o3 + j * 3, none⟩ = some (.int .i64 x.id) := hc3' 0 _ rfl
          have X0 := Lib.hid (fun wq (k : Ex wp wq) => Chg.cellv k e0 hx3')
          have LS : Hid ((L.take (k + 1)).map (fun v => (x.id, v)) = (L.take k).map (fun v => (x.id, v)) ++ [(x.id, id)]) := Lib.hid (by rw [take_snocN L k id hid, List.map_append]; rfl)
          have zb := (ac.ex (KW.out.nx K7.out)).size
          have AC := Lib.hid ac
          have OWN := Lib.hid own
          have hl7 : (E ++ (L.take k).map fun v => (x.id, v)).length ≤ 1000000 := by rw [List.length_append, List.length_map, List.length_take]; omega
          clear hcr hid hxr f0 hy' hc3' hx3' e0 ac own
          generalize (L.take k).map (fun v => (x.id, v)) = R at OWN LS hl7
          go_upto_region 9 with fail
          refine wp_region_late_drew (S := Ex wp) [12] (by kernel_rfl) ((Ex.refl wp).drew) (fun hHeld => ?_)
          obtain ⟨wd, hwdx⟩ : ∃ wd : World, wd = World.drew wp := ⟨_, rfl⟩
          rw [← hwdx] at hHeld ⊢
          have hDrew : Ex wp wd := by rw [hwdx]; exact (Ex.refl wp).drew
          clear hwdx
          refine wpAnyL_take (i := 0) (oi := ⟨some 30, .move (.tmp 5), 86, "ref.go:148", #[], none⟩) (v := ?_) rfl (by kernel_rfl) (by kernel_rfl) (by kernel_rfl) (fun _ _ _ h => h) (Or.inl ⟨by rfl, ?hyr1x0q5⟩) (by kernel_rfl) (by kernel_rfl) (by assumption) ?restr1x0q5
          case hyr1x0q5 => intro wq hSw; (go_simp); (try with_reducible rfl)
          try simp only [Act.put, List.setIfInBounds_toArray, List.set_cons_zero, List.set_cons_succ]
          refine wpAnyL_take (i := 1) (oi := ⟨some 31, .move (.tmp 0), 23, "ref.go:148", #[], none⟩) (v := ?_) rfl (by kernel_rfl) (by kernel_rfl) (by kernel_rfl) (fun _ _ _ h => h) (Or.inl ⟨by rfl, ?hyr1x1q8⟩) (by kernel_rfl) (by kernel_rfl) (by assumption) ?restr1x1q8
          case hyr1x1q8 => intro wq hSw; (go_simp); (try with_reducible rfl)
          try simp only [Act.put, List.setIfInBounds_toArray, List.set_cons_zero, List.set_cons_succ]
          refine wpAnyL_take (i := 2) (oi := ⟨some 32, .move (.tmp 6), 3, "ref.go:148", #[], none⟩) (v := ?_) rfl (by kernel_rfl) (by kernel_rfl) (by kernel_rfl) (fun _ _ _ h => h) (Or.inl ⟨by rfl, ?hyr1x2q11⟩) (by kernel_rfl) (by kernel_rfl) (by assumption) ?restr1x2q11
          case hyr1x2q11 => intro wq hSw; (go_simp); (try with_reducible rfl)
          try simp only [Act.put, List.setIfInBounds_toArray, List.set_cons_zero, List.set_cons_succ]
          refine wpAnyL_take (i := 3) (oi := ⟨some 33, .indexAddr 23 (.tmp 31) (.tmp 32), 0, "ref.go:148", #[⟨1, .data⟩, ⟨2, .data⟩], none⟩) (v := ?_) rfl (by kernel_rfl) (by kernel_rfl) (by kernel_rfl) (fun _ _ _ h => h) (Or.inl ⟨by rfl, ?hyr1x3q14⟩) (by kernel_rfl) (by kernel_rfl) (by assumption) ?restr1x3q14
          case hyr1x3q14 => intro wq hSw; (go_simp); (try with_reducible rfl)
          try simp only [Act.put, List.setIfInBounds_toArray, List.set_cons_zero, List.set_cons_succ]
          refine wpAnyL_take (i := 4) (oi := ⟨some 34, .fieldAddr 52 (.tmp 33) 0, 0, "ref.go:148", #[⟨3, .data⟩], none⟩) (v := ?_) rfl (by kernel_rfl) (by kernel_rfl) (by kernel_rfl) (fun _ _ _ h => h) (Or.inl ⟨by rfl, ?hyr1x4q17⟩) (by kernel_rfl) (by kernel_rfl) (by assumption) ?restr1x4q17
          case hyr1x4q17 => intro wq hSw; (go_simp); (try with_reducible rfl)
          try simp only [Act.put, List.setIfInBounds_toArray, List.set_cons_zero, List.set_cons_succ]
          refine wpAnyL_take (i := 5) (oi := ⟨some 35, .load 3 (.tmp 34), 3, "ref.go:148", #[⟨4, .data⟩], none⟩) (v := ?_) rfl (by kernel_rfl) (by kernel_rfl) (by kernel_rfl) (fun _ _ _ h => h) (Or.inl ⟨by rfl, ?hyr1x5q20⟩) (by kernel_rfl) (by kernel_rfl) (by assumption) ?restr1x5q20
          case hyr1x5q20 => intro wq hSw; (have cq := X0.out wq hSw; go_simp); (try with_reducible rfl)
          try simp only [Act.put, List.setIfInBounds_toArray, List.set_cons_zero, List.set_cons_succ]
          refine wpAnyL_take (i := 6) (oi := ⟨some 36, .move (.tmp 7), 22, "ref.go:148", #[], none⟩) (v := ?_) rfl (by kernel_rfl) (by kernel_rfl) (by kernel_rfl) (fun _ _ _ h => h) (Or.inl ⟨by rfl, ?hyr1x6q23⟩) (by kernel_rfl) (by kernel_rfl) (by assumption) ?restr1x6q23
          case hyr1x6q23 => intro wq hSw; (go_simp); (try with_reducible rfl)
          try simp only [Act.put, List.setIfInBounds_toArray, List.set_cons_zero, List.set_cons_succ]
          refine wpAnyL_take (i := 7) (oi := ⟨some 37, .move (.tmp 8), 3, "ref.go:148", #[], none⟩) (v := ?_) rfl (by kernel_rfl) (by kernel_rfl) (by kernel_rfl) (fun _ _ _ h => h) (Or.inl ⟨by rfl, ?hyr1x7q26⟩) (by kernel_rfl) (by kernel_rfl) (by assumption) ?restr1x7q26
          case hyr1x7q26 => intro wq hSw; (go_simp); (try with_reducible rfl)
          try simp only [Act.put, List.setIfInBounds_toArray, List.set_cons_zero, List.set_cons_succ]
          refine wpAnyL_take (i := 8) (oi := ⟨some 38, .indexAddr 22 (.tmp 36) (.tmp 37), 0, "ref.go:148", #[⟨6, .data⟩, ⟨7, .data⟩], none⟩) (v := ?_) rfl (by kernel_rfl) (by kernel_rfl) (by kernel_rfl) (fun _ _ _ h => h) (Or.inl ⟨by rfl, ?hyr1x8q29⟩) (by kernel_rfl) (by kernel_rfl) (by assumption) ?restr1x8q29
          case hyr1x8q29 => intro wq hSw; (go_simp); (try with_reducible rfl)
          try simp only [Act.put, List.setIfInBounds_toArray, List.set_cons_zero, List.set_cons_succ]
          refine wpAnyL_take (i := 9) (oi := ⟨some 39, .load 3 (.tmp 38), 3, "ref.go:148", #[⟨8, .data⟩], none⟩) (v := ?_) rfl (by kernel_rfl) (by kernel_rfl) (by kernel_rfl) (fun _ _ _ h => h) (Or.inl ⟨by rfl, ?hyr1x9q32⟩) (by kernel_rfl) (by kernel_rfl) (by assumption) ?restr1x9q32
          case hyr1x9q32 => intro wq hSw; (have cq := F0.out wq hSw; go_simp); (try with_reducible rfl)
          try simp only [Act.put, List.setIfInBounds_toArray, List.set_cons_zero, List.set_cons_succ]
          refine wpAnyL_take (i := 10) (oi := ⟨some 40, .build 127 #[(0, .tmp 35), (1, .tmp 39)], 127, "ref.go:148", #[⟨5, .data⟩, ⟨9, .data⟩], none⟩) (v := ?_) rfl (by kernel_rfl) (by kernel_rfl) (by kernel_rfl) (fun _ _ _ h => h) (Or.inl ⟨by rfl, ?hyr1x10q35⟩) (by kernel_rfl) (by kernel_rfl) (by assumption) ?restr1x10q35
          case hyr1x10q35 => intro wq hSw; (go_simp); (try with_reducible rfl)
          try simp only [Act.put, List.setIfInBounds_toArray, List.set_cons_zero, List.set_cons_succ]
          refine wpAnyL_ready (rs := [11]) (by kernel_rfl) (by simp) ?_
          refine AllReadyL.cons (o := ⟨some 41, .buildSlice 86 1 #[(0, .tmp 40)], 86, "ref.go:148", #[⟨10, .data⟩], none⟩) rfl (fun K hK => ?_) AllReadyL.nil
          go_simp
          obtain ⟨g8, wz, hg8, hwz, SZ, kk⟩ := litP2 hHeld x.id id
          rw [← hg8, ← hwz]
          clear hg8 hwz
          replace hHeld := hHeld.nx kk
          clear kk
          refine hK.out _ _ (hHeld) (fun hHeld => ?_)
          clear hK K
          try simp only [Act.put, List.setIfInBounds_toArray, List.set_cons_zero, List.set_cons_succ]
          refine wpAnyL_ready (rs := [12]) (by kernel_rfl) (by simp) ?_
          refine AllReadyL.consL (o := ⟨some 42, .call { callee := .builtin .append, args := #[.tmp 30, .tmp 41], argTypes := #[86, 86] }, 86, "ref.go:148", #[⟨0, .data⟩, ⟨11, .data⟩], none⟩) rfl (by rfl) (fun K hK => ?_) AllReadyL.nil
          rw [if_pos (by rfl)]
          have own7 := OWN.out.nx hHeld
          have zc := Nat.le_trans zb hHeld.size
          refine wp_append_W (enc := encP2) _ (.tmp 30) (.tmp 41) 86 rfl w.heap.size 127 (.agg #[.int .i64 0, .int .i64 0]) 2 16 Tryd.underlying86 Tryd.infoP2 rfl (by omega) (by omega) _ _ own7 rfl _ 1 1 [(x.id, id)] SZ (fun _ => rfl) encP2_one rfl hl7 (by omega) zc ?_
          intro v6 w9 own9 ch0 ch1 hv
          have RR := Lib.hid (show PbRel x.id L E w.heap.size w6.heap.size w7 v6 (.int .i64 ((k : Int) + 1)) w9 from ⟨k + 1, by omega, by go_num, by rw [LS.out, ← List.append_assoc]; exact own9, (AC.out.nx hHeld).step (fun g hg => (own7.blk hg).1) ch0 hv⟩)
          clear own7 own9 ch0 hv SZ hHeld
          refine hK.out _ _ ?_
          clear hK K
          try simp only [Act.put, List.setIfInBounds_toArray, List.set_cons_zero, List.set_cons_succ]
          refine wpAnyL_takeP (i := 13) (oi := ⟨some 5, .assign (.tmp 42), 86, "ref.go:148", #[⟨12, .data⟩, ⟨12, .chain⟩, ⟨0, .phase⟩, ⟨1, .phase⟩, ⟨2, .phase⟩, ⟨3, .phase⟩, ⟨4, .phase⟩, ⟨5, .phase⟩, ⟨6, .phase⟩, ⟨7, .phase⟩, ⟨8, .phase⟩, ⟨9, .phase⟩, ⟨10, .phase⟩, ⟨11, .phase⟩, ⟨12, .phase⟩], none⟩) (v := ?_) rfl (by kernel_rfl) (by kernel_rfl) (by kernel_rfl) (fun _ _ _ h => h) (Or.inl ⟨by rfl, ?hyr1x13q61⟩) ?restr1x13q61
          case hyr1x13q61 => intro wq hSw; (go_simp); (try with_reducible rfl)
          try simp only [Act.put, List.setIfInBounds_toArray, List.set_cons_zero, List.set_cons_succ]
          refine wpAnyL_done (by kernel_rfl) ?_ _
          go_wp2_with fail
          exact ⟨RR.out, by simp [intOf]; omega⟩
        · obtain rfl : k = L.length := by omega
          rw [List.take_of_length_le (Nat.le_refl _), ← SN.out] at own
          have RR := Lib.hid (show PaRel N P w u5 (.int .i64 ((j : Int) + 1)) wp from ⟨j + 1, by have := HL.out; omega, by go_num, own, ac.ex (KW.out.nx K7.out)⟩)
          clear own ac
          go_wp2_with fail
          exact ⟨RR.out, by simp [intOf]; omega⟩
    · have hjN : j = N.length := by have := HL.out; omega
      have hjn : j = n := by have := HL.out; omega
      rw [hjN, prsU_all] at own
      have OW := Lib.hid own
      have K1 := Lib.hid kw
      clear own kw hj hjN hjn
      go_wp2_with fail
      go_ret
      exact ⟨_, rfl, OW.out, K1.out⟩
end Go.Proofs.YtbnbjiddffihoaaDoor

/- index of the reference of chapter 7. -/
namespace Go.Proofs.YtbnbjiddffihoaaDoor
open Go.RowKit

/-- the place of a number, or -1 -/
def idxL (l : List Int) (v : Int) : Int := match l.findIdx? (· == v) with | some i => i | none => -1
def IxRel (l : List Int) (v : Int) (n : Nat) (w : World) (i : Value) (wr : World) : Prop :=
  ∃ k : Nat, k ≤ n ∧ i = .int .i64 k ∧ Ex w wr ∧ ∀ j z, j < k → l[j]? = some z → z ≠ v
theorem idxL_at {l : List Int} {v : Int} {k : Nat} (hk : l[k]? = some v) (hno : ∀ j z, j < k → l[j]? = some z → z ≠ v) : idxL l v = k := by
  obtain ⟨hlt, he⟩ := List.getElem?_eq_some_iff.1 hk
  have : l.findIdx? (· == v) = some k := by
    rw [List.findIdx?_eq_some_iff_getElem]
    refine ⟨hlt, by simp [he], fun j hj => ?_⟩
    have := hno j (l[j]) hj (List.getElem?_eq_getElem (by omega))
    simpa using this
  unfold idxL
  rw [this]
theorem idxL_no {l : List Int} {v : Int} (hno : ∀ j z, j < l.length → l[j]? = some z → z ≠ v) : idxL l v = -1 := by
  have : l.findIdx? (· == v) = none := by
    rw [List.findIdx?_eq_none_iff]
    intro x hx
    obtain ⟨j, hj, rfl⟩ := List.getElem_of_mem hx
    simpa using hno j _ hj (List.getElem?_eq_getElem hj)
  unfold idxL
  rw [this]
set_option maxHeartbeats 1000000 in
theorem index7_r (a : Option Addr) (n c : Nat) (l : List Int) (v : Int) (w : World) (h : Sl 1 encI w a n l) (hn : n ≤ 1000000) :
    Calls Tryd.prog 101 #[.slice a n c, .int .i64 v] w fun e w' => e = .returned (.int .i64 (idxL l v)) ∧ Ex w w' := by
  have HL := Lib.hid h.len
  have hs := Lib.hid h
  clear h
  go_enter Tryd.func101, Tryd.ntmps101
  go_wp2_with fail
  go_loopw [5] (fun i wr => IxRel l v n w i wr) (fun i _ => n - (intOf i).toNat)
  case atStart => exact ⟨0, by omega, rfl, Ex.refl _, by omega⟩
  case round =>
    obtain ⟨k, hk, rfl, kw, hno⟩ := hrel
    obtain ⟨wo, rfl⟩ : ∃ wo : World, wo = wr := ⟨_, rfl⟩
    have HNO := Lib.hid hno
    clear hno
    by_cases hlt : k < n
    · obtain ⟨x1, o1, y, rfl, hx1, hy, hc1⟩ := (hs.out.nx kw).at hlt
      have e0 : wo.cell? ⟨x1, o1 + k, none⟩ = some (.int .i64 y) := by simpa using hc1 0 _ rfl
      have HY := Lib.hid hy
      clear hc1 hy
      by_cases hv : y = v
      · have HR : Hid (idxL l v = k) := Lib.hid (idxL_at (hv ▸ HY.out) HNO.out)
        have d1 : (y == v) = true := by simpa using hv
        have K1 := Lib.hid kw
        clear hv kw
        go_wp2_with fail
        go_ret
        exact ⟨by rw [HR.out]; rfl, K1.out⟩
      · have d1 : (y == v) = false := by simpa using hv
        have RR := Lib.hid (show IxRel l v n w (.int .i64 ((k : Int) + 1)) wo from ⟨k + 1, by omega, by go_num, kw, fun j z hj hz => by
          by_cases hjk : j < k
          · exact HNO.out j z hjk hz
          · obtain rfl : j = k := by omega
            have := HY.out.symm.trans hz
            rw [← Option.some.inj this]
            exact hv⟩)
        clear hv kw
        go_wp2_with fail
        exact ⟨RR.out, by simp [intOf]; omega⟩
    · obtain rfl : k = n := by omega
      have HR : Hid (idxL l v = -1) := Lib.hid (idxL_no (fun j z hj hz => HNO.out j z (by have := HL.out; omega) hz))
      have K1 := Lib.hid kw
      clear hk hlt kw
      go_wp2_with fail
      go_ret
      exact ⟨by rw [HR.out]; rfl, K1.out⟩
end Go.Proofs.YtbnbjiddffihoaaDoor

/- Joined of the reference of chapter 7: how many components it gives. -/
namespace Go.Proofs.YtbnbjiddffihoaaDoor
open Go.RowKit

def IsjRel (c : List Nd) (n : Nat) (w : World) (o i : Value) (wr : World) : Prop :=
  ∃ k : Nat, k ≤ n ∧ i = .int .i64 k ∧ OwnL 1 encI 3 w.heap.size wr o ((c.take k).map Nd.id) ∧ Ex w wr
set_option maxRecDepth 100000 in
set_option maxHeartbeats 2000000 in
theorem idsj_r (a : Option Addr) (n c : Nat) (l : List Nd) (w : World) (hs : Sl 3 encN w a n l) (hn : n ≤ 100000) :
    Calls Tryd.prog 100 #[.slice a n c] w (OiPost (l.map Nd.id) w) := by
  have HL := Lib.hid hs.len
  have hll := hs.len
  have HS := Lib.hid hs
  clear hs
  go_enter Tryd.func100, Tryd.ntmps100
  go_wp2_with fail
  go_loopw [3, 4] (fun o i wr => IsjRel l n w o i wr) (fun _ i _ => n - (intOf i).toNat)
  case atStart => exact ⟨0, by omega, rfl, OwnL.nil _ _ _ _ _, Ex.refl _⟩
  case round =>
    obtain ⟨j, hj, rfl, own, ki⟩ := hrel
    obtain ⟨wi, rfl⟩ : ∃ wi : World, wi = wr := ⟨_, rfl⟩
    by_cases hjm : j < n
    · obtain ⟨x3, o3, y, rfl, hx3, hy, hc3⟩ := (HS.out.nx ki).at hjm
      have e0 : wi.cell? ⟨x3, o3 + j * 3, none⟩ = some (.int .i64 y.id) := hc3 0 _ rfl
      have SN : Hid ((l.take (j + 1)).map Nd.id = (l.take j).map Nd.id ++ [y.id]) := Lib.hid (by rw [take_snocN l j y hy, List.map_append]; rfl)
      have hrl : ((l.take j).map Nd.id).length = j := by rw [List.length_map, List.length_take]; omega
      clear hy hc3
      have zb := ki.size
      generalize (l.take j).map Nd.id = row at own SN hrl
      generalize y.id = yi at SN e0
      go_wp2_with (at_builtin; (refine wpList_append_lit (enc := encI) wi rfl _ _ 22 rfl w.heap.size 3 (.int .i64 0) 1 8 Tryd.underlying22 Tryd.infoI6 rfl (by omega) (by omega) _ _ own rfl (yi : Int) _ rfl rfl (by simp [encI, Value.oneCell']) _ (by simp) rfl (by omega) (by omega) _ ?_); intro v5 w6 own6 ch0 ch1 hz6)
      refine ⟨⟨j + 1, by omega, by go_num, by rw [SN.out]; exact own6, Chg.trans ki ch1⟩, by simp [intOf]; omega⟩
    · obtain rfl : j = n := by omega
      rw [List.take_of_length_le (by omega)] at own
      have own := Lib.hid own
      clear hj hjm
      go_wp2_with fail
      go_ret
      exact ⟨_, rfl, own.out, ki⟩

/-! ### rows of values, of labels -/
def encV (v : Value) : List Value := [v]
def encNt (v : Nat) : List Value := [.int .i64 v]
theorem flatV (l : List Value) : l.flatMap encV = l := by
  induction l with
  | nil => rfl
  | cons x l ih => rw [List.flatMap_cons, ih]; rfl
theorem flatNt (l : List Nat) : l.flatMap encNt = l.map fun v : Nat => Value.int .i64 (v : Int) := by
  induction l with
  | nil => rfl
  | cons x l ih => rw [List.flatMap_cons, ih]; rfl
theorem labs_of {e base n : Nat} {w : World} {v : Value} {L : List Value} (h : OwnL 1 encV e base w v L) (hl : L.length = n) (hv : ∀ i, i < n → L[i]? = some (.int .i64 i)) : OwnL 1 encNt e base w v (List.range n) := by
  have : L = (List.range n).map fun i : Nat => Value.int .i64 (i : Int) := by
    refine List.ext_getElem? fun i => ?_
    by_cases hi : i < n
    · rw [hv i hi, List.getElem?_map, List.getElem?_range hi]; rfl
    · rw [List.getElem?_eq_none (by omega), List.getElem?_eq_none (by simp; omega)]
  unfold OwnL at h ⊢
  rw [flatV] at h
  rw [flatNt, List.length_range, ← this, ← hl]
  exact h
theorem make_row (w : World) (n : Nat) (hn : n ≤ 1000) : ∃ w' L, (Instr.makeSlice 22 (.int .i64 n) (.int .i64 n)).run Tryd.prog w = .ok (.slice (some ⟨w.heap.size, 0, none⟩) n n) w' ∧ OwnL 1 encV 3 w.heap.size w' (.slice (some ⟨w.heap.size, 0, none⟩) n n) L ∧ L.length = n ∧ Ex w w' := by
  obtain ⟨i, hi, hz0, hz1, hz2⟩ := info_parts Tryd.infoI6
  obtain ⟨w', hrun, hr, hg⟩ := run_makeSlice_full (P := Tryd.prog) (w := w) w.heap.size 22 3 i (.int .i64 0) 1 Tryd.underlying22 hi hz0 hz1 .i64 .i64 n (by omega) (by rw [hz2]; omega) (by unfold maxLen; omega) (Nat.le_refl _)
  have hl : (madeCells (Value.int .i64 0).cells (n * 1)).toList.length = n := by simp [size_madeCells]
  refine ⟨w', _, hrun, ?_, hl, ⟨hg.os, hg.tape, hg.output, hg.size, fun k hk => hg.block k hk (by simp)⟩⟩
  unfold OwnL
  rw [flatV, hl]
  exact hr
def JPost (m : Nat) (w : World) (e : Ending) (w' : World) : Prop := ∃ a c, e = .returned (.slice a m c) ∧ Ex w w'
abbrev LabRow (base g n : Nat) (w : World) (L : List Nat) : Prop := OwnL 1 encNt 3 base w (.slice (some ⟨g, 0, none⟩) n n) L
def JaRel (n g : Nat) (w : World) (i : Value) (wr : World) : Prop :=
  ∃ (k : Nat) (L : List Value), k ≤ n ∧ i = .int .i64 k ∧ OwnL 1 encV 3 w.heap.size wr (.slice (some ⟨g, 0, none⟩) n n) L ∧ L.length = n ∧ (∀ i, i < k → L[i]? = some (.int .i64 i)) ∧ Ex w wr
def JbRel (ids : List Int) (E : List (Int × Int)) (g n : Nat) (w : World) (i : Value) (wr : World) : Prop :=
  ∃ t : Nat, t ≤ n ∧ i = .int .i64 t ∧ LabRow w.heap.size g n wr (Lab.labsL ids E t) ∧ Ex w wr
def JcRel (ids : List Int) (E : List (Int × Int)) (lab : List Nat) (g n : Nat) (w : World) (i : Value) (wr : World) : Prop :=
  ∃ j : Nat, j ≤ E.length ∧ i = .int .i64 j ∧ LabRow w.heap.size g n wr ((E.take j).foldl (Lab.stepL ids) lab) ∧ Ex w wr
theorem lab_cell {base g n i : Nat} {w : World} {cur : List Nat} (h : LabRow base g n w cur) (hi : i < cur.length) : w.cell? ⟨g, i, none⟩ = some (.int .i64 (cur.getD i 0 : Nat)) ∧ w.frozen? ⟨g, i, none⟩ = false := by
  obtain ⟨s1, s2, _⟩ := own_set1 (sz := 1) (enc := encNt) (fun _ => rfl) h (List.getElem?_eq_getElem hi) (c := 0) (by omega)
  simp only [Nat.mul_one, Nat.add_zero] at s1 s2
  refine ⟨?_, s2⟩
  rw [s1, List.getD_eq_getElem?_getD, List.getElem?_eq_getElem hi]
  rfl
theorem lab_set {base g n i : Nat} {w : World} {cur : List Nat} (h : LabRow base g n w cur) (hi : i < cur.length) (m : Nat) : LabRow base g n (w.setCell ⟨g, i, none⟩ (.int .i64 (m : Nat))) (cur.set i m) := by
  obtain ⟨_, _, s3⟩ := own_set1 (sz := 1) (enc := encNt) (fun _ => rfl) h (List.getElem?_eq_getElem hi) (c := 0) (by omega)
  simp only [Nat.mul_one, Nat.add_zero] at s3
  exact s3 m _ rfl
theorem fold_len (ids : List Int) (F : List (Int × Int)) (lab : List Nat) : (F.foldl (Lab.stepL ids) lab).length = lab.length := by
  induction F generalizing lab with
  | nil => rfl
  | cons q F ih =>
    rw [List.foldl_cons, ih]
    unfold Lab.stepL
    split
    · exact Lab.join_len _ _ _
    · rfl
theorem labs_len (ids : List Int) (E : List (Int × Int)) (t : Nat) : (Lab.labsL ids E t).length = ids.length := by
  induction t with
  | zero => simp [Lab.labsL]
  | succ t ih => exact (fold_len ids E _).trans ih
theorem idxL_some {l : List Int} {v : Int} {i : Nat} (h : l.findIdx? (· == v) = some i) : idxL l v = i ∧ i < l.length := by
  unfold idxL
  rw [h]
  exact ⟨rfl, (List.findIdx?_eq_some_iff_getElem.1 h).1⟩
theorem idxL_none {l : List Int} {v : Int} (h : l.findIdx? (· == v) = none) : idxL l v = -1 := by unfold idxL; rw [h]
def encHd (h : Hdr) : List Value := [h.val]
theorem Tryd.infoSI : (Tryd.prog.info? 22).map (fun i => (i.zero, i.size, i.bytes)) = some (some (.slice none 0 0), 1, 24) := by kernel_rfl
def cntL (lab : List Nat) (i : Nat) : Nat := ((List.range i).filter fun k => lab.getD k 0 == k).length
theorem cntL_succ (lab : List Nat) (i : Nat) : cntL lab (i + 1) = cntL lab i + if lab.getD i 0 = i then 1 else 0 := by
  unfold cntL
  rw [List.range_succ, List.filter_append, List.length_append]
  by_cases h : lab.getD i 0 = i
  · have hb : (lab.getD i 0 == i) = true := by rw [beq_iff_eq]; exact h
    rw [if_pos h]
    simp only [List.filter_cons, List.filter_nil, hb]
    rfl
  · have hb : (lab.getD i 0 == i) = false := by rw [beq_eq_false_iff_ne]; exact h
    rw [if_neg h]
    simp only [List.filter_cons, List.filter_nil, hb]
    rfl
theorem cntL_le (lab : List Nat) (i : Nat) : cntL lab i ≤ i := by
  unfold cntL
  have := List.length_filter_le (fun k => lab.getD k 0 == k) (List.range i)
  simpa using this
def JdRel (lab : List Nat) (n : Nat) (w : World) (o i : Value) (wr : World) : Prop :=
  ∃ (k : Nat) (qs : List Hdr), k ≤ n ∧ i = .int .i64 k ∧ OwnL 1 encHd 22 w.heap.size wr o qs ∧ qs.length = cntL lab k ∧ Ex w wr
def JeRel (b : Prop) (k n : Nat) (w : World) (o i : Value) (wr : World) : Prop :=
  ∃ (j : Nat) (l : List Int), k ≤ j ∧ j ≤ n ∧ i = .int .i64 j ∧ OwnL 1 encI 3 w.heap.size wr o l ∧ l.length ≤ j ∧ (b → k < j → l ≠ []) ∧ (¬ b → l = []) ∧ Ex w wr
set_option maxRecDepth 100000 in
set_option maxHeartbeats 16000000 in
theorem joined_r (a : Option Addr) (n c : Nat) (N : List Nd) (a2 : Option Addr) (n2 c2 : Nat) (E : List (Int × Int)) (w : World) (h : Sl 3 encN w a n N) (hn : n ≤ 1000) (h2 : Sl 2 encP2 w a2 n2 E) (hn2 : n2 ≤ 1000000) :
    Calls Tryd.prog 62 #[.slice a n c, .slice a2 n2 c2] w (JPost (Lab.partsL (N.map Nd.id) E) w) := by
  have HL := Lib.hid h.len
  have HL2 := Lib.hid h2.len
  have EX := Ex.refl w
  go_enter Tryd.func62, Tryd.ntmps62
  go_wp2_with fail
  (with_reducible refine (idsj_r _ _ _ N _ h (by omega)).mono ?_)
  rintro e w1 ⟨v1, rfl, own, kk⟩
  replace h2 := h2.nx kk
  replace EX := EX.nx kk
  clear kk
  obtain ⟨aI, cI, rfl, IDS, _, _, _⟩ := own.slf (fun _ => rfl)
  have hIl : (N.map Nd.id).length = n := by rw [List.length_map]; exact HL.out
  rw [hIl] at IDS ⊢
  generalize hids : N.map Nd.id = ids at IDS hIl ⊢
  have HI := Lib.hid hids
  clear hids
  have IL := Lib.hid hIl
  have IDS := Lib.hid IDS.sl
  have H2 := Lib.hid h2
  have EXH := Lib.hid EX
  clear own h h2 EX hIl
  obtain ⟨w2, L0, hmk, row, hrl, k2⟩ := make_row w1 n hn
  obtain ⟨g, hg⟩ : ∃ g, g = w1.heap.size := ⟨_, rfl⟩
  rw [← hg] at hmk row
  have HG := Lib.hid hg
  have zg : w1.heap.size ≤ g := by omega
  have ROW := Lib.hid row
  have K2 := Lib.hid k2
  have HR := Lib.hid hrl
  clear hg row k2 hrl
  go_wp2_with fail
  clear hmk
  go_loopw [7] (fun i wr => JaRel n g w1 i wr) (fun i _ => n - (intOf i).toNat)
  case atStart => exact ⟨0, L0, Nat.zero_le _, rfl, by rw [HG.out]; rw [HG.out] at ROW; exact ROW.out, HR.out, fun i hi => absurd hi (Nat.not_lt_zero _), K2.out⟩
  case round =>
    clear ROW K2 HR
    obtain ⟨k, L, hk, rfl, row, hL, hLv, kw⟩ := hrel
    obtain ⟨wo, rfl⟩ : ∃ wo : World, wo = wr := ⟨_, rfl⟩
    have HLL := Lib.hid hL
    have HLV := Lib.hid hLv
    have KW := Lib.hid kw
    clear hL hLv kw
    by_cases hlt : k < n
    · have hy : L[k]? = some (L[k]'(by have := HLL.out; omega)) := List.getElem?_eq_getElem _
      obtain ⟨s1, s2, s3⟩ := own_set1 (sz := 1) (enc := encV) (fun _ => rfl) row hy (c := 0) (by omega)
      simp only [Nat.mul_one, Nat.add_zero] at s1 s2 s3
      generalize L[k]'(by have := HLL.out; omega) = y at hy s1 s3
      have s1 : wo.cell? ⟨g, k, none⟩ = some y := s1
      have RR := Lib.hid (show JaRel n g w1 (.int .i64 ((k : Int) + 1)) (wo.setCell ⟨g, k, none⟩ (.int .i64 k)) from ⟨k + 1, L.set k (.int .i64 k), by omega, by go_num, s3 _ _ rfl, by rw [List.length_set]; exact HLL.out, fun i hi => by
        by_cases hik : i = k
        · subst hik
          exact List.getElem?_set_self (by have := HLL.out; omega)
        · rw [List.getElem?_set_ne (fun h => hik h.symm)]
          exact HLV.out i (by omega), KW.out.setNew _ zg⟩)
      clear row s3 hy
      go_wp2_with fail
      exact ⟨RR.out, by simp [intOf]; omega⟩
    · obtain rfl : n = k := by omega
      have LR := Lib.hid (labs_of row HLL.out (fun i hi => HLV.out i hi))
      clear row hk hlt HLV HLL
      go_wp2_with fail
      go_loopw [8] (fun i wr => JbRel ids E g n w1 i wr) (fun i _ => n - (intOf i).toNat)
      case atStart => exact ⟨0, Nat.zero_le _, rfl, by show LabRow _ _ _ _ (List.range ids.length); rw [IL.out]; exact LR.out, KW.out⟩
      case round =>
        clear LR KW
        obtain ⟨t, ht, rfl, row, kw⟩ := hrel
        obtain ⟨wt, rfl⟩ : ∃ wt : World, wt = wr := ⟨_, rfl⟩
        have KW := Lib.hid kw
        clear kw
        by_cases htt : t < n
        · have LL := Lib.hid ((labs_len ids E t).trans IL.out)
          have LS : Hid (Lab.labsL ids E (t + 1) = E.foldl (Lab.stepL ids) (Lab.labsL ids E t)) := Lib.hid rfl
          generalize Lab.labsL ids E t = lab at row LL LS
          have ROW := Lib.hid row
          clear row
          go_wp2_with fail
          go_loopw [9] (fun i wr => JcRel ids E lab g n w1 i wr) (fun i _ => E.length - (intOf i).toNat)
          case atStart => exact ⟨0, Nat.zero_le _, rfl, ROW.out, KW.out⟩
          case round =>
            clear ROW KW
            obtain ⟨j, hj, rfl, row, kv⟩ := hrel
            obtain ⟨wp, rfl⟩ : ∃ wp : World, wp = wr := ⟨_, rfl⟩
            have KV := Lib.hid kv
            have ROW := Lib.hid row
            clear kv row
            by_cases hjl : j < n2
            · obtain ⟨xe, oe, q, rfl, hxe, hq, hce⟩ := (H2.out.nx KV.out).at hjl
              have f0 : wp.cell? ⟨xe, oe + j * 2, none⟩ = some (.int .i64 q.1) := by simpa using hce 0 _ rfl
              have f1 : wp.cell? ⟨xe, oe + j * 2 + 1, none⟩ = some (.int .i64 q.2) := by simpa using hce 1 _ rfl
              have F0 := Lib.hid (fun wq (k : Ex wp wq) => Chg.cellv k f0 hxe)
              have F1 := Lib.hid (fun wq (k : Ex wp wq) => Chg.cellv k f1 hxe)
              have SN : Hid ((E.take (j + 1)).foldl (Lab.stepL ids) lab = Lab.stepL ids ((E.take j).foldl (Lab.stepL ids) lab) q) := Lib.hid (by
                rw [List.take_add_one, hq, List.foldl_append]; rfl)
              have CL := Lib.hid ((fold_len ids (E.take j) lab).trans LL.out)
              have hjE : j + 1 ≤ E.length := by have := HL2.out; omega
              generalize (E.take j).foldl (Lab.stepL ids) lab = cur at ROW SN CL
              clear hce hq f0 f1 hxe
              go_upto_region 13 with fail
              refine wp_region_held_drew (S := Ex wp) (by kernel_rfl) ((Ex.refl wp).drew) (fun hHeld => ?_)
              obtain ⟨wd, hwdx⟩ : ∃ wd : World, wd = World.drew wp := ⟨_, rfl⟩
              rw [← hwdx] at hHeld ⊢
              have hDrew : Ex wp wd := by rw [hwdx]; exact (Ex.refl wp).drew
              clear hwdx
              refine wpAnyH_take (i := 0) (oi := ⟨some 44, .move (.tmp 5), 22, "ref.go:92", #[], none⟩) (v := ?_) rfl (by kernel_rfl) (by kernel_rfl) (by kernel_rfl) (fun _ _ _ h => h) (Or.inl ⟨by rfl, ?hyr1x0q5⟩) (by assumption) ?restr1x0q5
              case hyr1x0q5 => intro wq hSw; (go_simp); (try with_reducible rfl)
              try simp only [Act.put, List.setIfInBounds_toArray, List.set_cons_zero, List.set_cons_succ]
              refine wpAnyH_take (i := 1) (oi := ⟨some 45, .move (.tmp 1), 86, "ref.go:92", #[], none⟩) (v := ?_) rfl (by kernel_rfl) (by kernel_rfl) (by kernel_rfl) (fun _ _ _ h => h) (Or.inl ⟨by rfl, ?hyr1x1q8⟩) (by assumption) ?restr1x1q8
              case hyr1x1q8 => intro wq hSw; (go_simp); (try with_reducible rfl)
              try simp only [Act.put, List.setIfInBounds_toArray, List.set_cons_zero, List.set_cons_succ]
              refine wpAnyH_take (i := 2) (oi := ⟨some 46, .move (.tmp 9), 3, "ref.go:92", #[], none⟩) (v := ?_) rfl (by kernel_rfl) (by kernel_rfl) (by kernel_rfl) (fun _ _ _ h => h) (Or.inl ⟨by rfl, ?hyr1x2q11⟩) (by assumption) ?restr1x2q11
              case hyr1x2q11 => intro wq hSw; (go_simp); (try with_reducible rfl)
              try simp only [Act.put, List.setIfInBounds_toArray, List.set_cons_zero, List.set_cons_succ]
              refine wpAnyH_take (i := 3) (oi := ⟨some 47, .indexAddr 86 (.tmp 45) (.tmp 46), 0, "ref.go:92", #[⟨1, .data⟩, ⟨2, .data⟩], none⟩) (v := ?_) rfl (by kernel_rfl) (by kernel_rfl) (by kernel_rfl) (fun _ _ _ h => h) (Or.inl ⟨by rfl, ?hyr1x3q14⟩) (by assumption) ?restr1x3q14
              case hyr1x3q14 => intro wq hSw; (go_simp); (try with_reducible rfl)
              try simp only [Act.put, List.setIfInBounds_toArray, List.set_cons_zero, List.set_cons_succ]
              refine wpAnyH_take (i := 4) (oi := ⟨some 48, .indexAddr 127 (.tmp 47) (.const (.int .i64 0)), 0, "ref.go:92", #[⟨3, .data⟩], none⟩) (v := ?_) rfl (by kernel_rfl) (by kernel_rfl) (by kernel_rfl) (fun _ _ _ h => h) (Or.inl ⟨by rfl, ?hyr1x4q17⟩) (by assumption) ?restr1x4q17
              case hyr1x4q17 => intro wq hSw; (go_simp); (try with_reducible rfl)
              try simp only [Act.put, List.setIfInBounds_toArray, List.set_cons_zero, List.set_cons_succ]
              refine wpAnyH_take (i := 5) (oi := ⟨some 49, .load 3 (.tmp 48), 3, "ref.go:92", #[⟨4, .data⟩], none⟩) (v := ?_) rfl (by kernel_rfl) (by kernel_rfl) (by kernel_rfl) (fun _ _ _ h => h) (Or.inl ⟨by rfl, ?hyr1x5q20⟩) (by assumption) ?restr1x5q20
              case hyr1x5q20 => intro wq hSw; (have cq := F0.out wq hSw; go_simp); (try with_reducible rfl)
              try simp only [Act.put, List.setIfInBounds_toArray, List.set_cons_zero, List.set_cons_succ]
              refine wpAnyH_take (i := 7) (oi := ⟨some 51, .move (.tmp 5), 22, "ref.go:92", #[], none⟩) (v := ?_) rfl (by kernel_rfl) (by kernel_rfl) (by kernel_rfl) (fun _ _ _ h => h) (Or.inl ⟨by rfl, ?hyr1x7q23⟩) (by assumption) ?restr1x7q23
              case hyr1x7q23 => intro wq hSw; (go_simp); (try with_reducible rfl)
              try simp only [Act.put, List.setIfInBounds_toArray, List.set_cons_zero, List.set_cons_succ]
              refine wpAnyH_take (i := 8) (oi := ⟨some 52, .move (.tmp 1), 86, "ref.go:92", #[], none⟩) (v := ?_) rfl (by kernel_rfl) (by kernel_rfl) (by kernel_rfl) (fun _ _ _ h => h) (Or.inl ⟨by rfl, ?hyr1x8q26⟩) (by assumption) ?restr1x8q26
              case hyr1x8q26 => intro wq hSw; (go_simp); (try with_reducible rfl)
              try simp only [Act.put, List.setIfInBounds_toArray, List.set_cons_zero, List.set_cons_succ]
              refine wpAnyH_take (i := 9) (oi := ⟨some 53, .move (.tmp 9), 3, "ref.go:92", #[], none⟩) (v := ?_) rfl (by kernel_rfl) (by kernel_rfl) (by kernel_rfl) (fun _ _ _ h => h) (Or.inl ⟨by rfl, ?hyr1x9q29⟩) (by assumption) ?restr1x9q29
              case hyr1x9q29 => intro wq hSw; (go_simp); (try with_reducible rfl)
              try simp only [Act.put, List.setIfInBounds_toArray, List.set_cons_zero, List.set_cons_succ]
              refine wpAnyH_take (i := 10) (oi := ⟨some 54, .indexAddr 86 (.tmp 52) (.tmp 53), 0, "ref.go:92", #[⟨8, .data⟩, ⟨9, .data⟩], none⟩) (v := ?_) rfl (by kernel_rfl) (by kernel_rfl) (by kernel_rfl) (fun _ _ _ h => h) (Or.inl ⟨by rfl, ?hyr1x10q32⟩) (by assumption) ?restr1x10q32
              case hyr1x10q32 => intro wq hSw; (go_simp); (try with_reducible rfl)
              try simp only [Act.put, List.setIfInBounds_toArray, List.set_cons_zero, List.set_cons_succ]
              refine wpAnyH_take (i := 11) (oi := ⟨some 55, .indexAddr 127 (.tmp 54) (.const (.int .i64 1)), 0, "ref.go:92", #[⟨10, .data⟩], none⟩) (v := ?_) rfl (by kernel_rfl) (by kernel_rfl) (by kernel_rfl) (fun _ _ _ h => h) (Or.inl ⟨by rfl, ?hyr1x11q35⟩) (by assumption) ?restr1x11q35
              case hyr1x11q35 => intro wq hSw; (go_simp); (try with_reducible rfl)
              try simp only [Act.put, List.setIfInBounds_toArray, List.set_cons_zero, List.set_cons_succ]
              refine wpAnyH_take (i := 12) (oi := ⟨some 56, .load 3 (.tmp 55), 3, "ref.go:92", #[⟨11, .data⟩], none⟩) (v := ?_) rfl (by kernel_rfl) (by kernel_rfl) (by kernel_rfl) (fun _ _ _ h => h) (Or.inl ⟨by rfl, ?hyr1x12q38⟩) (by assumption) ?restr1x12q38
              case hyr1x12q38 => intro wq hSw; (have cq := F1.out wq hSw; go_simp); (try with_reducible rfl)
              try simp only [Act.put, List.setIfInBounds_toArray, List.set_cons_zero, List.set_cons_succ]
              refine wpAnyH_ready (rs := [6]) (by kernel_rfl) (by simp) ?_
              refine AllReadyH.cons (o := ⟨some 50, .call { callee := .value (.func 101), args := #[.tmp 44, .tmp 49], argTypes := #[22, 3] }, 3, "ref.go:92", #[⟨0, .data⟩, ⟨5, .data⟩], none⟩) rfl (fun K hK => ?_) AllReadyH.nil
              go_simp
              (with_reducible refine (index7_r _ _ _ ids q.1 _ (IDS.out.nx (KV.out.nx hHeld)) (by omega)).mono ?_)
              rintro e wb ⟨rfl, kk⟩
              replace hHeld := hHeld.nx kk
              clear kk
              refine hK.out _ _ (hHeld) (fun hHeld => ?_)
              clear hK K
              try simp only [Act.put, List.setIfInBounds_toArray, List.set_cons_zero, List.set_cons_succ]
              refine wpAnyH_ready (rs := [13]) (by kernel_rfl) (by simp) ?_
              refine AllReadyH.cons (o := ⟨some 57, .call { callee := .value (.func 101), args := #[.tmp 51, .tmp 56], argTypes := #[22, 3] }, 3, "ref.go:92", #[⟨7, .data⟩, ⟨12, .data⟩, ⟨6, .chain⟩], none⟩) rfl (fun K hK => ?_) AllReadyH.nil
              go_simp
              (with_reducible refine (index7_r _ _ _ ids q.2 _ (IDS.out.nx (KV.out.nx hHeld)) (by omega)).mono ?_)
              rintro e wc ⟨rfl, kk⟩
              replace hHeld := hHeld.nx kk
              clear kk
              refine hK.out _ _ (hHeld) (fun hHeld => ?_)
              clear hK K
              try simp only [Act.put, List.setIfInBounds_toArray, List.set_cons_zero, List.set_cons_succ]
              refine wpAnyH_take (i := 14) (oi := ⟨some 10, .assign (.tmp 50), 3, "ref.go:92", #[⟨6, .data⟩, ⟨13, .chain⟩, ⟨0, .phase⟩, ⟨1, .phase⟩, ⟨2, .phase⟩, ⟨3, .phase⟩, ⟨4, .phase⟩, ⟨5, .phase⟩, ⟨6, .phase⟩, { on := 7, ground := Ground.textOnly Departure.lateStores }, { on := 8, ground := Ground.textOnly Departure.lateStores }, { on := 9, ground := Ground.textOnly Departure.lateStores }, { on := 10, ground := Ground.textOnly Departure.lateStores }, { on := 11, ground := Ground.textOnly Departure.lateStores }, { on := 12, ground := Ground.textOnly Departure.lateStores }, { on := 13, ground := Ground.textOnly Departure.lateStoresUnsure }], none⟩) (v := ?_) rfl (by kernel_rfl) (by kernel_rfl) (by kernel_rfl) (fun _ _ _ h => h) (Or.inl ⟨by rfl, ?hyr1x14q61⟩) (by assumption) ?restr1x14q61
              case hyr1x14q61 => intro wq hSw; (go_simp); (try with_reducible rfl)
              try simp only [Act.put, List.setIfInBounds_toArray, List.set_cons_zero, List.set_cons_succ]
              refine wpAnyH_take (i := 15) (oi := ⟨some 11, .assign (.tmp 57), 3, "ref.go:92", #[⟨13, .data⟩, ⟨14, .chain⟩, ⟨0, .phase⟩, ⟨1, .phase⟩, ⟨2, .phase⟩, ⟨3, .phase⟩, ⟨4, .phase⟩, ⟨5, .phase⟩, ⟨6, .phase⟩, ⟨7, .phase⟩, ⟨8, .phase⟩, ⟨9, .phase⟩, ⟨10, .phase⟩, ⟨11, .phase⟩, ⟨12, .phase⟩, ⟨13, .phase⟩, ⟨14, .phase⟩], none⟩) (v := ?_) rfl (by kernel_rfl) (by kernel_rfl) (by kernel_rfl) (fun _ _ _ h => h) (Or.inl ⟨by rfl, ?hyr1x15q64⟩) (by assumption) ?restr1x15q64
              case hyr1x15q64 => intro wq hSw; (go_simp); (try with_reducible rfl)
              try simp only [Act.put, List.setIfInBounds_toArray, List.set_cons_zero, List.set_cons_succ]
              refine wpAnyH_done (by kernel_rfl) ?_ _
              have KC := Lib.hid (KV.out.nx hHeld)
              have RC := Lib.hid (ROW.out.nx hHeld)
              clear hHeld hDrew ROW
              cases e1 : ids.findIdx? (· == q.1) with
              | none =>
                rw [idxL_none e1]
                have RR := Lib.hid (show JcRel ids E lab g n w1 (.int .i64 ((j : Int) + 1)) wc from ⟨j + 1, hjE, by go_num, by rw [SN.out, show Lab.stepL ids cur q = cur by unfold Lab.stepL; rw [e1]]; exact RC.out, KC.out⟩)
                clear e1
                go_wp2_with fail
                exact ⟨RR.out, by simp [intOf]; omega⟩
              | some i1 =>
                obtain ⟨x1, hi1⟩ := idxL_some e1
                rw [x1]
                have hi1n : i1 < n := by have := IL.out; omega
                cases e2 : ids.findIdx? (· == q.2) with
                | none =>
                  rw [idxL_none e2]
                  have RR := Lib.hid (show JcRel ids E lab g n w1 (.int .i64 ((j : Int) + 1)) wc from ⟨j + 1, hjE, by go_num, by rw [SN.out, show Lab.stepL ids cur q = cur by unfold Lab.stepL; rw [e1, e2]]; exact RC.out, KC.out⟩)
                  clear e1 e2 x1 hi1
                  go_wp2_with fail
                  exact ⟨RR.out, by simp [intOf]; omega⟩
                | some i2 =>
                  obtain ⟨x2, hi2⟩ := idxL_some e2
                  rw [x2]
                  have hi2n : i2 < n := by have := IL.out; omega
                  have ST : Hid (Lab.stepL ids cur q = Lab.joinL cur i1 i2) := Lib.hid (by unfold Lab.stepL; rw [e1, e2])
                  have hc1 : i1 < cur.length := by have := CL.out; omega
                  have hc2 : i2 < cur.length := by have := CL.out; omega
                  obtain ⟨p1, r1⟩ := lab_cell RC.out hc1
                  obtain ⟨p2, r2⟩ := lab_cell RC.out hc2
                  have JJ : Hid (Lab.joinL cur i1 i2 = (cur.set i1 (min (cur.getD i1 0) (cur.getD i2 0))).set i2 (min (cur.getD i1 0) (cur.getD i2 0))) := Lib.hid rfl
                  generalize cur.getD i1 0 = x at p1 JJ
                  generalize cur.getD i2 0 = y at p2 JJ
                  have hmin : min (x : Int) (y : Int) = ((min x y : Nat) : Int) := by omega
                  generalize min x y = m at hmin JJ
                  have RR := Lib.hid (fun d => show JcRel ids E lab g n w1 (.int .i64 ((j : Int) + 1)) (((wc.drewN d).setCell ⟨g, i1, none⟩ (.int .i64 (m : Nat))).setCell ⟨g, i2, none⟩ (.int .i64 (m : Nat))) from ⟨j + 1, hjE, by go_num, by
                    rw [SN.out, ST.out, JJ.out]
                    exact lab_set (lab_set (OwnL.nx RC.out ((Ex.refl wc).drewN d)) hc1 m) (by rw [List.length_set]; exact hc2) m, ((KC.out.drewN d).setNew _ zg).setNew _ zg⟩)
                  have q3 := fun d => lab_cell (lab_set (OwnL.nx RC.out ((Ex.refl wc).drewN d)) hc1 m) (i := i2) (by rw [List.length_set]; exact hc2)
                  have p3 := fun d => (q3 d).1
                  have r3 := fun d => (q3 d).2
                  clear e1 e2 x1 x2 hi1 hi2 hc1 hc2 ST SN RC JJ q3
                  go_wp2_with fail
                  go_quiet (fail)
                  go_wp2_with fail
                  exact ⟨RR.out _, by simp [intOf]; omega⟩
            · have hjE : j = E.length := by have := HL2.out; omega
              have RR := Lib.hid (show JbRel ids E g n w1 (.int .i64 ((t : Int) + 1)) wp from ⟨t + 1, by omega, by go_num, by rw [LS.out]; have h := ROW.out; rw [hjE, List.take_of_length_le (Nat.le_refl _)] at h; exact h, KV.out⟩)
              clear hj hjE ROW
              go_wp2_with fail
              exact ⟨RR.out, by simp [intOf]; omega⟩
        · obtain rfl : n = t := by omega
          have PT : Hid (Lab.partsL ids E = ((List.range n).filter fun i => (Lab.labsL ids E n).getD i 0 == i).length) := Lib.hid (by unfold Lab.partsL; rw [IL.out])
          have LL := Lib.hid ((labs_len ids E n).trans IL.out)
          generalize Lab.labsL ids E n = lab at row PT LL
          have ROW := Lib.hid row
          clear row ht htt
          go_wp2_with fail
          go_loopw [13, 14] (fun o i wr => JdRel lab n wt o i wr) (fun _ i _ => n - (intOf i).toNat)
          case atStart => exact ⟨0, [], Nat.zero_le _, rfl, OwnL.nil _ _ _ _ _, rfl, Ex.refl _⟩
          case round =>
            obtain ⟨k, qs, hk, rfl, own, hq, kv⟩ := hrel
            obtain ⟨wo, rfl⟩ : ∃ wo : World, wo = wr := ⟨_, rfl⟩
            have OWN := Lib.hid own
            have HQ := Lib.hid hq
            have KV := Lib.hid kv
            have hql : qs.length ≤ 1000 := by have := cntL_le lab k; omega
            have hzv := kv.size
            clear own hq kv
            by_cases hkn : k < n
            · have CS := Lib.hid (cntL_succ lab k)
              have hkl : k < lab.length := by have := LL.out; omega
              have RO := Lib.hid (OwnL.nx ROW.out KV.out)
              go_wp2_with fail
              go_loopw [15, 16] (fun o i wr => JeRel (lab.getD k 0 = k) k n wo o i wr) (fun _ i _ => n - (intOf i).toNat)
              case atStart => exact ⟨k, [], Nat.le_refl _, hk, rfl, OwnL.nil _ _ _ _ _, Nat.zero_le _, fun _ h => absurd h (Nat.lt_irrefl _), fun _ => rfl, Ex.refl _⟩
              case round =>
                obtain ⟨j, l, hkj, hjn, rfl, own, hll, hl1, hl2, kx⟩ := hrel
                obtain ⟨wp, rfl⟩ : ∃ wp : World, wp = wr := ⟨_, rfl⟩
                have RP := Lib.hid (OwnL.nx RO.out kx)
                have OWL := Lib.hid own
                have L1 := Lib.hid hl1
                have L2 := Lib.hid hl2
                have KX := Lib.hid kx
                have zx := kx.size
                obtain ⟨p1, r1⟩ := lab_cell RP.out hkl
                clear own hl1 hl2 kx
                by_cases hb : lab.getD k 0 = k
                · replace p1 : wp.cell? ⟨g, k, none⟩ = some (.int .i64 (k : Nat)) := by rw [hb] at p1; exact p1
                  by_cases hjl : j < n
                  · obtain ⟨p2, r2⟩ := lab_cell RP.out (i := j) (by have := LL.out; omega)
                    obtain ⟨xi, oi, v, rfl, hxi, hv, hci⟩ := (IDS.out.nx (KW.out.nx (KV.out.nx KX.out))).at hjl
                    have f0 : wp.cell? ⟨xi, oi + j, none⟩ = some (.int .i64 v) := by simpa using hci 0 _ rfl
                    clear hv hci
                    have B0 := Lib.hid hb
                    clear hb
                    by_cases hx : lab.getD j 0 = k
                    · replace p2 : wp.cell? ⟨g, j, none⟩ = some (.int .i64 (k : Nat)) := by rw [hx] at p2; exact p2
                      have own := OWL.out
                      clear hx
                      go_wp2_with (at_builtin; (refine wpList_append_lit (enc := encI) wp rfl _ _ 22 rfl wo.heap.size 3 (.int .i64 0) 1 8 Tryd.underlying22 Tryd.infoI6 rfl (by omega) (by omega) _ _ own rfl (v : Int) _ rfl rfl (by simp [encI, Value.oneCell']) _ (by simp) rfl (by omega) (by omega) _ ?_); intro v5 w6 own6 ch0 ch1 hz6)
                      refine ⟨⟨j + 1, l ++ [v], by omega, by omega, by go_num, own6, by simp; omega, fun _ _ => by simp, fun h => absurd B0.out h, Chg.trans KX.out ch1⟩, by simp [intOf]; omega⟩
                    · have d2 : (((lab.getD j 0 : Nat) : Int) == (k : Int)) = false := by rw [beq_eq_false_iff_ne]; omega
                      have hkj' : k < j := by
                        rcases Nat.lt_or_ge k j with h | h
                        · exact h
                        · obtain rfl : k = j := by omega
                          exact absurd B0.out hx
                      have RR := Lib.hid (show JeRel (lab.getD k 0 = k) k n wo u15 (.int .i64 ((j : Int) + 1)) wp from ⟨j + 1, l, by omega, by omega, by go_num, OWL.out, by omega, fun h _ => L1.out h hkj', L2.out, KX.out⟩)
                      generalize lab.getD j 0 = xj at p2 d2
                      clear hx
                      go_wp2_with fail
                      exact ⟨RR.out, by simp [intOf]; omega⟩
                  · obtain rfl : n = j := by omega
                    have hne := L1.out hb hkn
                    obtain ⟨A, C, rfl, _, _, _, _⟩ := OWL.out.slf (fun _ => rfl)
                    have hpos : 0 < l.length := List.length_pos_iff.2 hne
                    have ownO := OwnL.nx OWN.out KX.out
                    have CS1 : Hid (cntL lab (k + 1) = cntL lab k + 1) := Lib.hid (by rw [CS.out, if_pos hb])
                    clear hb hne
                    go_wp2_with (at_builtin; (refine wpList_append_lit (enc := encHd) wp rfl _ _ 84 rfl wt.heap.size 22 (.slice none 0 0) 1 24 Tryd.underlying84 Tryd.infoSI rfl (by omega) (by omega) _ _ ownO rfl ((A, l.length, C) : Hdr) _ rfl rfl (by simp [encHd, Hdr.val, Value.oneCell']) _ (by simp) rfl (by omega) (by omega) _ ?_); intro v5 w6 own6 ch0 ch1 hz6)
                    refine ⟨⟨k + 1, qs ++ [(A, l.length, C)], by omega, by go_num, own6, by rw [CS1.out, List.length_append, HQ.out]; rfl, Chg.trans (KV.out.nx KX.out) ch1⟩, by simp [intOf]; omega⟩
                · have hl0 := L2.out hb
                  have CS0 : Hid (cntL lab (k + 1) = cntL lab k) := Lib.hid (by rw [CS.out, if_neg hb]; rfl)
                  have RR := Lib.hid (show JdRel lab n wt u13 (.int .i64 ((k : Int) + 1)) wp from ⟨k + 1, qs, by omega, by go_num, OwnL.nx OWN.out KX.out, by rw [CS0.out]; exact HQ.out, KV.out.nx KX.out⟩)
                  have d1 : (((lab.getD k 0 : Nat) : Int) == (k : Int)) = false := by rw [beq_eq_false_iff_ne]; omega
                  subst hl0
                  obtain ⟨A, C, rfl, _, _, _, _⟩ := OWL.out.slf (fun _ => rfl)
                  generalize lab.getD k 0 = xk at p1 d1
                  clear hb
                  by_cases hjl : j < n
                  · go_wp2_with fail
                    exact ⟨RR.out, by simp [intOf]; omega⟩
                  · obtain rfl : n = j := by omega
                    go_wp2_with fail
                    exact ⟨RR.out, by simp [intOf]; omega⟩
            · obtain rfl : n = k := by omega
              obtain ⟨A, C, rfl, _, _, _, _⟩ := OWN.out.slf (fun _ => rfl)
              have KE := Lib.hid (EXH.out.nx (KW.out.nx KV.out))
              have HQ2 : Hid (Lab.partsL ids E = qs.length) := Lib.hid (by rw [PT.out, HQ.out]; rfl)
              clear hk hkn
              go_wp2_with fail
              go_ret
              exact ⟨_, _, by first | (rw [HQ2.out]; rfl) | (rw [HI.out, HQ2.out]; rfl), KE.out⟩
end Go.Proofs.YtbnbjiddffihoaaDoor

/- Connected of the reference of chapter 14. -/
namespace Go.Proofs.YtbnbjiddffihoaaDoor
open Go.RowKit

set_option maxRecDepth 100000 in
set_option maxHeartbeats 4000000 in
theorem connected_r (a : Option Addr) (n c : Nat) (N : List Nd) (a2 : Option Addr) (n2 c2 : Nat) (P : List Pr) (w : World) (h : Sl 3 encN w a n N) (hn : n ≤ 1000) (h2 : PL w a2 n2 P) (hn2 : n2 ≤ 1000000) (hP : ∀ p ∈ P, p.known.length ≤ 2000000 ∧ p.near.length ≤ 2000000) :
    Calls Tryd.prog 23 #[.slice a n c, .slice a2 n2 c2] w fun e w' => e = .returned (.bool (connB N P)) ∧ Ex w w' := by
  have HL := Lib.hid h.len
  have EX := Ex.refl w
  go_enter Tryd.func23, Tryd.ntmps23
  go_wp2_with fail
  (with_reducible refine (is_r _ _ _ _ _ h (by omega)).mono ?_)
  rintro e w1 ⟨rfl, kk⟩
  replace h := h.nx kk
  replace h2 := h2.nx kk
  replace EX := EX.nx kk
  clear kk
  by_cases hck : checkN N = 0
  case neg =>
    have d1 : (checkN N == 0) = false := by simpa using hck
    have E0 : Hid (connB N P = false) := Lib.hid (by unfold connB; rw [d1]; rfl)
    have EH := Lib.hid EX
    rw [d1]
    clear h h2 hck EX
    go_wp2_with fail
    go_ret
    exact ⟨by rw [E0.out]; rfl, EH.out⟩
  have d1 : (checkN N == 0) = true := by simpa using hck
  have E0 : Hid (connB N P = decide (Lab.partsL (N.map Nd.id) (pairsN N P) ≤ 1)) := Lib.hid (by unfold connB; rw [d1]; rfl)
  rw [d1]
  have HC := Lib.hid hck
  clear hck d1
  go_wp2_with fail
  (with_reducible refine (pairs_r _ _ _ N _ _ _ P _ h hn HC.out h2 hn2 hP).mono ?_)
  rintro e w2 ⟨v2, rfl, own, kk⟩
  replace h := h.nx kk
  replace EX := EX.nx kk
  clear kk
  obtain ⟨a3, c3, rfl, r3, _, _, _, _⟩ := own.rd (fun _ => rfl)
  have S3 : Sl 2 encP2 w2 a3 (pairsN N P).length (pairsN N P) := Rd.mono r3 (fun _ hk => hk.2)
  have hpl : (pairsN N P).length ≤ 1000000 := by have := prsU_len HC.out P N.length; rw [prsU_all] at this; omega
  clear own r3 h2
  go_wp2_with fail
  (with_reducible refine (joined_r _ _ _ N _ _ _ (pairsN N P) _ h hn S3 hpl).mono ?_)
  rintro e w3 ⟨aj, cj, rfl, kk⟩
  replace EX := EX.nx kk
  clear kk
  generalize Lab.partsL (N.map Nd.id) (pairsN N P) = m at E0 ⊢
  have EH := Lib.hid EX
  clear h S3 hpl EX
  have E1 : Hid (connB N P = decide ((m : Int) ≤ 1)) := Lib.hid (by rw [E0.out, decide_eq_decide]; omega)
  clear E0
  go_wp2_with fail
  go_ret
  exact ⟨by rw [E1.out]; rfl, EH.out⟩
end Go.Proofs.YtbnbjiddffihoaaDoor
