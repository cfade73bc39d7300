/- Texts for the statement RedundantContactsProof, part 7 of 8: RedL, Sane14, TSome. -/
import Derived.Deep.LoopGhost
import Derived.Test.YtbnbjiddffihoaaDoorRedundantContactsProofPk1
import Derived.Test.YtbnbjiddffihoaaDoorRedundantContactsProofPk3
import Derived.Test.YtbnbjiddffihoaaDoorRedundantContactsProofPk5
import Derived.Test.YtbnbjiddffihoaaDoorRedundantContactsProofPk6

/- Connected of the package redundant. -/
namespace Go.Proofs.YtbnbjiddffihoaaDoor
open Go.RowKit Go.Maps

/-! ### the rows of a map grow while a list of later memory is read -/
def AccM (β lo hi bm : Nat) (w6 wr : World) (f : Int → Value) : Prop :=
  Chg (fun k => k < hi ∧ k ≠ bm ∧ (k < β ∨ lo ≤ k)) w6 wr ∧ hi ≤ wr.heap.size ∧ ∀ v g, (f v).ownBlock = some g → g < lo ∨ hi ≤ g
section
variable {β lo hi bm : Nat} {w6 wr w9 : World} {f : Int → Value}
theorem AccM.sl {α : Type} {sz n : Nat} {enc : α → List Value} {a : Option Addr} {l : List α} {w5 w6 wr : World} (h : AccM β w5.heap.size w6.heap.size bm w6 wr f) (hb : bm < w5.heap.size) (s : Slf sz enc w5 w6 a n l) : Sl sz enc wr a n l :=
  (Rd.chg s h.1 (fun _ hk => ⟨hk.2, by omega, .inr hk.1⟩)).mono fun _ hk => Nat.lt_of_lt_of_le hk.2 h.2.1
theorem AccM.blk {g : Nat} {cs : List Value} {ty : TypeId} (h : AccM β lo w6.heap.size bm w6 wr f) (B : Blk w6 g cs ty) (hg : lo ≤ g) (hb : bm ≠ g) : Blk wr g cs ty :=
  (Chg.block h.1 g ⟨B.lt, fun h => hb h.symm, .inr hg⟩).trans B
theorem AccM.exb {w2 : World} (h : AccM β lo w6.heap.size bm w6 wr f) (k : Exb bm w2 w6) (hβ : w2.heap.size ≤ β) : Exb bm w2 wr :=
  Chg.trans k (Chg.mono h.1 fun x hx => ⟨Nat.lt_of_lt_of_le hx.1 k.size, hx.2, .inl (Nat.lt_of_lt_of_le hx.1 hβ)⟩)
end
theorem own_hist {va v : Value} {c s : Nat} (h : va.ownBlock = v.ownBlock ∨ va.ownBlock = some c) (hs : s ≤ c) : ∀ g, va.ownBlock = some g → v.ownBlock = some g ∨ s ≤ g := fun g hg => by
  rcases h with h | h
  · exact .inl (by rw [← h]; exact hg)
  · rw [h] at hg; cases hg; exact .inr hs
theorem hold_ex {bm g7 : Nat} {wp cur w' : World} (h : Chg (fun k => k = bm ∨ k = g7) wp cur) (hb : bm < wp.heap.size) (hg : g7 < wp.heap.size) (k : Ex cur w') : Chg (fun k => k = bm ∨ k = g7) wp w' :=
  Chg.trans h (Chg.mono k fun x hx => by have := h.size; show x < cur.heap.size; omega)
theorem hold_row {bm g7 : Nat} {wp cur w' : World} {v : Value} (h : Chg (fun k => k = bm ∨ k = g7) wp cur) (hb : bm < wp.heap.size) (hg : g7 < wp.heap.size) (n : ¬ v.ownBlock = some bm ∧ ¬ v.ownBlock = some g7) (k : Chg (fun k => k < cur.heap.size ∧ ¬ v.ownBlock = some k) cur w') : Chg (fun k => k = bm ∨ k = g7) wp w' :=
  Chg.trans h (Chg.mono k fun x hx => by
    have := h.size
    rcases hx with rfl | rfl
    · exact ⟨by omega, n.1⟩
    · exact ⟨by omega, n.2⟩)
theorem AccM.two {β lo hi bm : Nat} {w6 wp w1 w2 w3 : World} {f : Int → Value} {x y : Int} {va vc : Value} (h : AccM β lo hi bm w6 wp f) (hb : ∀ v g, (f v).ownBlock = some g → β ≤ g)
    (k1 : Chg (fun k => k < wp.heap.size ∧ ¬ (f x).ownBlock = some k) wp w1) (la : ∀ g, va.ownBlock = some g → (f x).ownBlock = some g ∨ wp.heap.size ≤ g)
    (k2 : Chg (fun k => k < w1.heap.size ∧ ¬ (f y).ownBlock = some k) w1 w2) (lc : ∀ g, vc.ownBlock = some g → (f y).ownBlock = some g ∨ w1.heap.size ≤ g) (k3 : Exb bm w2 w3) : AccM β lo hi bm w6 w3 (upd (upd f x va) y vc) := by
  have s1 := k1.size
  have s2 := k2.size
  have s3 := k3.size
  have hs := h.2.1
  have key : ∀ v k, k < hi ∧ k ≠ bm ∧ (k < β ∨ lo ≤ k) → ¬ (f v).ownBlock = some k := fun v k hk hv => by
    have h1 := hb v k hv
    have h2 := h.2.2 v k hv
    omega
  refine ⟨h.1.trans ((k1.mono fun k hk => ⟨by omega, key x k hk⟩).trans ((k2.mono fun k hk => ⟨by omega, key y k hk⟩).trans (Chg.mono k3 fun k hk => ⟨by omega, hk.2.1⟩))), by omega, fun v g hv => ?_⟩
  unfold upd at hv
  by_cases h1 : v = y
  · rw [if_pos h1] at hv
    rcases lc g hv with h2 | h2
    · exact h.2.2 y g h2
    · omega
  · rw [if_neg h1] at hv
    by_cases h3 : v = x
    · rw [if_pos h3] at hv
      rcases la g hv with h2 | h2
      · exact h.2.2 x g h2
      · omega
    · rw [if_neg h3] at hv
      exact h.2.2 v g hv
/-- the pairs of the first j nodes -/
def prsU (N : List Nd) (P : List Pr) (j : Nat) : List (Int × Int) := (N.take j).flatMap fun x => (refsN N (peerN P x.id)).map fun v => (x.id, v)
theorem prsU_snoc {N : List Nd} {P : List Pr} {j : Nat} {x : Nd} (hx : N[j]? = some x) : prsU N P (j + 1) = prsU N P j ++ (refsN N (peerN P x.id)).map fun v => (x.id, v) := by
  unfold prsU
  rw [take_snocN N j x hx, List.flatMap_append]
  simp
theorem prsU_all (N : List Nd) (P : List Pr) : prsU N P N.length = pairsN N P := by
  unfold prsU pairsN
  rw [List.take_of_length_le (Nat.le_refl _)]
theorem prsU_len {N : List Nd} (h0 : checkN N = 0) (P : List Pr) (j : Nat) : (prsU N P j).length ≤ 64 * 64 := by
  have h1 := pairs_len (P := P) h0 (N.take j)
  have h2 := check_len h0
  have h3 : (N.take j).length ≤ 64 := by rw [List.length_take]; omega
  unfold prsU
  exact Nat.le_trans h1 (Nat.mul_le_mul h3 h2)
theorem refs_empty {N : List Nd} (h0 : checkN N = 0) (id : Int) : refsN N ⟨id, 0, 0, [], []⟩ = [] := by
  unfold refsN
  rw [if_pos h0]
  unfold ordN
  rw [List.map_eq_nil_iff, List.filter_eq_nil_iff]
  intro x hx
  have := (roster_ok h0 x ((sortN_mem N x).1 hx)).2.1
  simp only [numsP, Bool.and_eq_true, List.contains_iff_mem, List.flatMap_nil, List.append_nil, List.nil_append, List.mem_cons, List.not_mem_nil, or_false]
  omega
abbrev GpM (base : Nat) (w : World) (b n : Nat) (f : Int → Value) (J : Int → List Int) : Prop := GrpM Tryd.prog 3 3 base w b n f J
def CnRel (N : List Nd) (P : List Pr) (bm : Nat) (w : World) (i : Value) (wr : World) : Prop :=
  ∃ (j n : Nat) (f : Int → Value), j ≤ N.length ∧ i = .int .i64 j ∧ GpM w.heap.size wr bm n f (jOf (prsU N P j)) ∧ n = 2 * (prsU N P j).length ∧ Exb bm w wr
def CmRel (x : Int) (l : List Int) (E : List (Int × Int)) (bm lo : Nat) (w w6 : World) (i : Value) (wr : World) : Prop :=
  ∃ (j n : Nat) (f : Int → Value), j ≤ l.length ∧ i = .int .i64 j ∧ GpM w.heap.size wr bm n f (jOf (E ++ (l.take j).map fun v => (x, v))) ∧ n = 2 * (E.length + j) ∧ AccM w.heap.size lo w6.heap.size bm w6 wr f
theorem Tryd.zeroS (w : World) : (zeroValue 22).run Tryd.prog w = .ok nilS w := by kernel_rfl
theorem litF {wp u : World} (hz : wp.heap.size ≤ u.heap.size) (x : Int) : ∃ g v, g = u.heap.size ∧ v = u.alloc (.cells #[.int .i64 x] 3) ∧ Slf 1 encI wp v (some ⟨g, 0, none⟩) 1 [x] ∧ Ex u v :=
  ⟨_, _, rfl, rfl, Slf.lit [x] rfl hz rfl (fun _ => rfl) rfl, Ex.new _ _⟩
theorem Slf.row2 {α : Type} {sz n : Nat} {enc : α → List Value} {w0 w w' : World} {a : Option Addr} {l : List α} {v : Value} (s : Slf sz enc w0 w a n l) (h : ∀ g, v.ownBlock = some g → g < w0.heap.size) (k : Chg (fun k => k < w.heap.size ∧ ¬ v.ownBlock = some k) w w') : Slf sz enc w0 w' a n l :=
  (Rd.chg s k fun _ hk => ⟨hk.2, fun hv => by have := h _ hv; have := hk.1; omega⟩).mono fun _ hk => ⟨hk.1, Nat.lt_of_lt_of_le hk.2 k.size⟩
theorem Slf.row {α β : Type} {sz n sz' e base : Nat} {enc : α → List Value} {enc' : β → List Value} {w0 w w' : World} {a : Option Addr} {l : List α} {v : Value} {l' : List β} (s : Slf sz enc w0 w a n l) (h : OwnL sz' enc' e base w0 v l') (k : Chg (fun k => k < w.heap.size ∧ ¬ v.ownBlock = some k) w w') : Slf sz enc w0 w' a n l :=
  (Rd.chg s k fun _ hk => ⟨hk.2, fun hv => by have := (h.lt _ hv).2; have := hk.1; omega⟩).mono fun _ hk => ⟨hk.1, Nat.lt_of_lt_of_le hk.2 k.size⟩

theorem sumJ_le {J : Int → List Int} (hJ : ∀ u, (J u).length ≤ 10000) (L : List Nd) : (L.map fun x => (J x.id).length).sum ≤ L.length * 10000 := by
  induction L with
  | nil => simp
  | cons x L ih =>
    have := hJ x.id
    rw [List.map_cons, List.sum_cons, List.length_cons]
    omega
theorem todo_le {N : List Nd} {J : Int → List Int} (hN : N.length ≤ 64) (hJ : ∀ u, (J u).length ≤ 10000) (M T : List Int) : todoN N J M T ≤ T.length + 640000 := by
  have h1 := sumJ_le hJ (N.filter fun x => !(M.contains x.id))
  have h2 := List.length_filter_le (fun x : Nd => !(M.contains x.id)) N
  unfold todoN
  omega
theorem todo_len (N : List Nd) (J : Int → List Int) (M T : List Int) : T.length ≤ todoN N J M T := by unfold todoN; omega
theorem todo_old (N : List Nd) (J : Int → List Int) (M T : List Int) (v : Int) : todoN N J M T + 1 = todoN N J M (v :: T) := by unfold todoN; rw [List.length_cons]; omega
theorem QuL.no {e : TypeId} {base : Nat} {w : World} {v : Value} (h : QuL e base w v []) : ∃ a c, v = .slice a 0 c := by
  rcases h with ⟨rfl, _⟩ | ⟨g, o, cap, cur, rfl, _⟩
  · exact ⟨none, 0, rfl⟩
  · exact ⟨_, cap, rfl⟩
theorem QuL.base {e : TypeId} {base base' : Nat} {w : World} {v : Value} {l : List Int} (h : QuL e base w v l) (hb : base' ≤ base) : QuL e base' w v l := by
  rcases h with h | ⟨g, o, cap, cur, h1, h2, h3⟩
  · exact .inl h
  · exact .inr ⟨g, o, cap, cur, h1, Nat.le_trans hb h2, h3⟩
theorem OwnL.rdz {α : Type} {sz e base : Nat} {enc : α → List Value} {w : World} {v : Value} {l : List α} (h : OwnL sz enc e base w v l) (hsz : ∀ y, (enc y).length = sz) :
    ∃ a cap, v = .slice a l.length cap ∧ Rd sz enc (fun k => base ≤ k ∧ k < w.heap.size) w a l.length l ∧ (a = none → cap = 0) := by
  obtain ⟨a, cap, e1, r, _⟩ := h.rd hsz
  refine ⟨a, cap, e1, r, fun h0 => ?_⟩
  subst h0
  rcases h.2 with ⟨e2, hn⟩ | ⟨g, cap', cur, e2, _⟩
  · rw [e1] at e2
    injection e2
  · rw [e1] at e2
    simp at e2
theorem wpList_append_hap {P : Program} {ops : Array Oper} {rest : List Oper} {o : Oper} {a : Act} {Q : Exit → Act → World → Prop} {w : World} (hgd : o.guard = none) (s x : Operand) (t : TypeId)
    (ho : o.op = .call { callee := .builtin .append, args := #[s, x], argTypes := #[t, t] }) {v v' : Value} {A : Option Addr} {n c : Nat} {w' : World} (hap : (Builtin.append_ #[t, t] o.type #[v, .slice A n c]).run P w = .ok v' w')
    (hs : a.eval s = v) (hx : a.eval x = .slice A n c) (h : wpList P ops Q rest (a.put o.dst v') w') : wpList P ops Q (o :: rest) a w :=
  wpList_plain hgd fun K hK => by
    unfold Oper.wp execOp
    simp only [ho, resolve, invoke, builtin, Sem.run_bind, Sem.run_pure, Result.andThen_ok, List.map_toArray, List.map_cons, List.map_nil, hs, hx, hap]
    exact hK _ _ h
abbrev SetB (w : World) (b : Nat) (S : List Int) : Prop := SetM Tryd.prog 3 4 w b S
def startN (N : List Nd) : List Int := match N with | [] => [] | s :: _ => [s.id]
theorem startN_at {N : List Nd} {x : Nd} (h : N[0]? = some x) : startN N = [x.id] := by
  cases N with
  | nil => cases h
  | cons y N => simp at h; rw [h]; rfl
theorem startN_bfs (N : List Nd) (P : List Pr) (J : Int → List Int) : Bfs N P J [] (startN N) := bfs_start
theorem startN_len (N : List Nd) : (startN N).length ≤ 1 := by
  cases N with
  | nil => exact Nat.zero_le _
  | cons y N => exact Nat.le_refl _
def CqRel (N : List Nd) (bs : Nat) (w6 : World) (o : Value) (wr : World) : Prop :=
  QuL 3 (bs + 1) wr o (startN N) ∧ Ex w6 wr
def CbRel (N : List Nd) (P : List Pr) (J : Int → List Int) (bs : Nat) (wi : World) (k : Nat) (o : Value) (wr : World) : Prop :=
  ∃ M T, Bfs N P J M T ∧ SetB wr bs M ∧ QuL 3 (bs + 1) wr o T ∧ Ex wi wr ∧ k = todoN N J M T ∧ k ≤ 700000

set_option maxRecDepth 100000 in
set_option maxHeartbeats 16000000 in
theorem connected_p (a : Option Addr) (n c : Nat) (N : List Nd) (a2 : Option Addr) (n2 c2 : Nat) (P : List Pr) (w : World) (h : Sl 3 encN w a n N) (hn : n ≤ 1000) (hc : n ≤ c) (hm : c ≤ maxLen) (h2 : PL w a2 n2 P) (hn2 : n2 ≤ 4000000000000000000) (hP : ∀ p ∈ P, p.known.length ≤ 4000000000000000000 ∧ p.near.length ≤ 4000000000000000000) :
    Calls Tryd.prog 22 #[.slice a n c, .slice a2 n2 c2] w fun e w' => e = .returned (.bool (connB N P)) ∧ Ex w w' := by
  have HL := Lib.hid h.len
  have HP := Lib.hid hP
  have H2 := Lib.hid h2
  have EX := Ex.refl w
  clear hP h2
  go_enter Tryd.func22, Tryd.ntmps22
  go_wp2_with fail
  (with_reducible refine (check_p _ _ _ _ _ h (by omega) hc hm).mono ?_)
  rintro e w1 ⟨rfl, kk⟩
  replace h := h.nx kk
  replace EX := EX.nx kk
  clear kk
  by_cases hck : checkN N = 0
  case neg =>
    have d1 : (checkN N != 0) = true := by simpa using hck
    have E0 : Hid (connB N P = false) := Lib.hid (by unfold connB; rw [show (checkN N == 0) = false by simpa using hck]; rfl)
    clear h hck
    go_wp2_with fail
    go_ret
    exact ⟨by rw [E0.out]; rfl, EX⟩
  have d1 : (checkN N != 0) = false := by simpa using hck
  have HC := Lib.hid hck
  have hn64 : n ≤ 64 := by have := check_len hck; have := HL.out; omega
  have HI : Hid (∀ x ∈ N, I64 x.id) := Lib.hid (fun x hx => (roster_ok HC.out x hx).1.1)
  clear hck
  have G4 := GrpM.made w1 Tryd.prog 3 3
  have kk := Ex.new w1 (.map #[] 0)
  obtain ⟨w4, hw4⟩ : ∃ w4, w4 = w1.alloc (.map #[] 0) := ⟨_, rfl⟩
  obtain ⟨bm, hbm⟩ : ∃ bm, bm = w1.heap.size := ⟨_, rfl⟩
  have hsz4 : w4.heap.size = bm + 1 := by rw [hw4, hbm]; simp
  replace G4 : GpM w4.heap.size w4 bm 0 (fun _ => nilS) (fun _ => []) := by rw [hsz4, hw4, hbm]; exact G4
  rw [← hw4] at kk
  have Hw4 := Lib.hid hw4
  have Hbm := Lib.hid hbm
  have hwb : w.heap.size ≤ bm := by have := EX.size; omega
  have HS := Lib.hid (h.slb (show w1.heap.size ≤ bm by omega))
  replace HS := Lib.hid (HS.out.nxb (kk.b bm))
  have EX1 := Lib.hid (EX.nx kk)
  have HPL := Lib.hid ((H2.out.plb hwb).nxb (EX1.out.b bm))
  clear kk hw4 hbm h
  have hmm := @run_makeMap Tryd.prog
  go_upto_region 4 with fail
  rw [← Hbm.out, ← Hw4.out]
  clear Hbm Hw4
  clear hmm
  have hbm4 : bm < w4.heap.size := by omega
  replace hsz4 := Lib.hid hsz4
  clear EX
  go_wp2_with fail
  go_loopw [20] (fun i wr => CnRel N P bm w4 i wr) (fun i _ => n - (intOf i).toNat)
  case atStart => exact ⟨0, 0, fun _ => nilS, by omega, rfl, G4, rfl, Exb.refl _ _⟩
  case round =>
    clear G4
    obtain ⟨j, nn, f, hj, rfl, GP, hnn, kw⟩ := hrel
    obtain ⟨wi, rfl⟩ : ∃ wi : World, wi = wr := ⟨_, rfl⟩
    have hjn : j ≤ n := by have := HL.out; omega
    have HNN := Lib.hid hnn
    clear hnn hj
    by_cases hjm : j < n
    · obtain ⟨x3, o3, x, rfl, hx3, hy, hc3⟩ := (HS.out.nxb kw).sl.at hjm
      have e0 : wi.cell? ⟨x3, o3 + j * 3, none⟩ = some (.int .i64 x.id) := hc3 0 _ rfl
      have e1 : wi.cell? ⟨x3, o3 + j * 3 + 1, none⟩ = some (.string x.key) := hc3 1 _ rfl
      have e2 : wi.cell? ⟨x3, o3 + j * 3 + 1 + 1, none⟩ = some (.int .u32 x.word) := by simpa [Nat.add_assoc] using hc3 2 _ rfl
      have SN := Lib.hid (prsU_snoc (P := P) hy)
      have hxI := Lib.hid (HI.out x (List.mem_of_getElem? hy))
      have KW := Lib.hid kw
      have GW := Lib.hid GP
      have hbi : bm < wi.heap.size := Nat.lt_of_lt_of_le hbm4 kw.size
      have PE := prsU_len HC.out P j
      clear hc3 hy kw GP
      have B7 := Blk.new wi [.int .i64 x.id, .string x.key, .int .u32 x.word] 52
      have kk := Ex.new wi (.cells #[.int .i64 x.id, .string x.key, .int .u32 x.word] 52)
      obtain ⟨w7, hw7⟩ : ∃ w7, w7 = wi.alloc (.cells #[.int .i64 x.id, .string x.key, .int .u32 x.word] 52) := ⟨_, rfl⟩
      obtain ⟨g7, hg7⟩ : ∃ g7, g7 = wi.heap.size := ⟨_, rfl⟩
      replace B7 : Blk w7 g7 [.int .i64 x.id, .string x.key, .int .u32 x.word] 52 := by rw [hw7, hg7]; exact B7
      rw [← hw7] at kk
      have Hw7 := Lib.hid hw7
      have Hg7 := Lib.hid hg7
      have zg7 : wi.heap.size ≤ g7 := by omega
      have n7b : bm ≠ g7 := by omega
      have K7 := Lib.hid kk
      clear kk hw7 hg7
      go_upto_region 7 with fail
      rw [← Hg7.out, ← Hw7.out]
      clear Hg7 Hw7
      have eg : ∀ args w, (callFunc 61 args).run Tryd.prog w = .ok (.enter 61 args) w := enters_of Tryd.func61 (by kernel_rfl) rfl
      have EG := Lib.hid eg
      have HB := Lib.hid B7
      clear eg B7 e0 e1 e2
      have PLW := Lib.hid (((HPL.out.nxb KW.out).nxb (K7.out.b bm)).pl)
      go_wp2_with fail
      (with_reducible refine (idxf_pr 61 #[.pointer (some ⟨g7, 0, none⟩)] x.id EG.out _ _ _ P w7 PLW.out hn2 (conn1_p g7 x w7 HB.out)).mono ?_)
      rintro e w8 ⟨rfl, k8⟩
      replace K7 := Lib.hid (K7.out.nx k8)
      replace PLW := Lib.hid (PLW.out.nx k8)
      replace HB := Lib.hid (HB.out.nx k8)
      clear k8
      rcases idxQ_cases P x.id with ⟨k, y, hi, hk, hyk, hpe, hyid⟩ | ⟨hi, hpe⟩
      case inr =>
        rw [hi]
        have RR := Lib.hid (show CnRel N P bm w4 (.int .i64 ((j : Int) + 1)) w8 from ⟨j + 1, nn, f, by have := HL.out; omega, by go_num, by rw [SN.out, hpe, refs_empty HC.out]; simpa using GW.out.nx K7.out, by rw [SN.out, hpe, refs_empty HC.out]; simpa using HNN.out, KW.out.nxb (K7.out.b bm)⟩)
        clear hi hpe
        go_wp2_with fail
        exact ⟨RR.out, by simp [intOf]; omega⟩
      replace hyid := Lib.hid hyid
      rw [hi]
      have hk2 : k < n2 := by have := PLW.out.len; omega
      obtain ⟨xp, op, b1, m1, d1', b4, m4, d4, y', rfl, hxp, hyk', p0, p1, p2, p3, p4, s1, s4⟩ := PLW.out.rd hk2
      obtain rfl : y = y' := Option.some.inj (hyk.symm.trans hyk')
      have hyP := HP.out y (List.mem_of_getElem? hyk)
      have hl1 : m1 ≤ 4000000000000000000 := by have := s1.len; omega
      have hl4 : m4 ≤ 4000000000000000000 := by have := s4.len; omega
      have hk0 : ¬ (k : Int) < 0 := by omega
      have hkn : (k : Int) < (n2 : Int) := by omega
      have hpe := Lib.hid hpe
      have S1 := Lib.hid s1
      have S4 := Lib.hid s4
      clear hi hyk hyk' s1 s4 hyP hk
      go_wp2_with fail
      (with_reducible refine (refs_p _ _ _ N y _ _ _ _ _ _ _ ((HS.out.nxb KW.out).nxb (K7.out.b bm)).sl hn hc hm S1.out S4.out hl1 hl4).mono ?_)
      rintro e w9 ⟨v9, rfl, o9, kk⟩
      obtain ⟨A9, C9, rfl, r9, _, _, _⟩ := o9.slf (fun _ => rfl)
      replace r9 := Lib.hid (r9.old K7.out.size)
      have hlr := refs_len HC.out y
      have HRI : Hid (∀ v ∈ refsN N y, I64 v ∧ v ≠ x.id) := Lib.hid (fun v hv => by
        obtain ⟨⟨z, hz, rfl⟩, h2, _⟩ := (mem_refs HC.out).1 hv
        exact ⟨HI.out z hz, by rw [hyid.out] at h2; exact h2⟩)
      have hL9 := r9.out.len
      have SN : Hid (prsU N P (j + 1) = prsU N P j ++ (refsN N y).map fun v => (x.id, v)) := Lib.hid (by rw [SN.out, hpe.out])
      replace HB := Lib.hid (HB.out.nx kk)
      have K9 := Lib.hid (K7.out.nx kk)
      have A0 : Hid (AccM w4.heap.size wi.heap.size w9.heap.size bm w9 w9 f) := Lib.hid ⟨Chg.refl _ _, Nat.le_refl _, fun v g hg => .inl ((GW.out.row v).lt g hg).2⟩
      have G9 := Lib.hid (GW.out.nx K9.out)
      generalize refsN N y = L at r9 hlr HRI hL9 SN ⊢
      have hLl : L.length ≤ 64 := by have := HL.out; omega
      have hz9 := K9.out.size
      clear o9 kk p0 p1 p2 p3 p4 hyid hlr
      go_wp2_with fail
      go_loopw [36] (fun i wr => CmRel x.id L (prsU N P j) bm wi.heap.size w4 w9 i wr) (fun i _ => L.length - (intOf i).toNat)
      case atStart => exact ⟨0, nn, f, by omega, rfl, by simpa using G9.out, by simpa using HNN.out, A0.out⟩
      case round =>
        clear A0 G9 GW
        obtain ⟨i, m, f2, hi, rfl, GP, hm2, ac⟩ := hrel
        obtain ⟨wp, rfl⟩ : ∃ wp : World, wp = wr := ⟨_, rfl⟩
        by_cases hil : i < L.length
        · obtain ⟨xr, or, id, rfl, hxr, hid, hcr⟩ := (ac.sl hbi r9.out).at (j := i) hil
          have f0 : wp.cell? ⟨xr, or + i, none⟩ = some (.int .i64 id) := by simpa using hcr 0 _ rfl
          have LS : Hid ((L.take (i + 1)).map (fun v => (x.id, v)) = (L.take i).map (fun v => (x.id, v)) ++ [(x.id, id)]) := Lib.hid (by rw [take_snocN L i id hid, List.map_append]; rfl)
          obtain ⟨hidI, hne⟩ := HRI.out id (List.mem_of_getElem? hid)
          have BP := Lib.hid (ac.blk HB.out (by omega) n7b)
          have GPH := Lib.hid GP
          have AC := Lib.hid ac
          have M2 := Lib.hid hm2
          have hm100 : m < 1000000 := by omega
          have zbp : bm < wp.heap.size := GP.1.lt
          have zgp : g7 < wp.heap.size := BP.out.lt
          have NB : Hid (∀ v, ¬ (f2 v).ownBlock = some bm ∧ ¬ (f2 v).ownBlock = some g7) := Lib.hid (fun v => ⟨fun hv => by have := ((GPH.out.row v).lt bm hv).1; omega, fun hv => OwnL.ne_blk (GPH.out.row v) BP.out (by decide) hv rfl⟩)
          have JX := Lib.hid (show ∀ u, (jOf (prsU N P j ++ (L.take i).map fun v => (x.id, v)) u).length ≤ 100000 from fun u => by
            have hne : ∀ q ∈ prsU N P j ++ (L.take i).map (fun v => (x.id, v)), q.1 ≠ q.2 := fun q hq => by
              rcases List.mem_append.1 hq with h1 | h1
              · refine pairs_ne HC.out (P := P) (q := q) ?_
                unfold prsU at h1
                unfold pairsN
                obtain ⟨z, hz, h2⟩ := List.mem_flatMap.1 h1
                exact List.mem_flatMap.2 ⟨z, List.mem_of_mem_take hz, h2⟩
              · obtain ⟨v, hv, rfl⟩ := List.mem_map.1 h1
                exact fun h => (HRI.out v (List.mem_of_mem_take hv)).2 h.symm
            have h1 := ((jOf_law _ _ rfl hne) u).1
            rw [List.length_append, List.length_map, List.length_take] at h1
            omega)
          generalize hJ : jOf (prsU N P j ++ (L.take i).map fun v => (x.id, v)) = J at GP GPH JX
          have HJ := Lib.hid hJ
          have wx1 := Lib.hid (wf_of hxI.out)
          have wx2 := Lib.hid (wf_of hidI)
          have hne2 : id ≠ x.id := hne
          have jlx := JX.out x.id
          have jly := JX.out id
          clear hcr hid ac hm2 hJ GP JX
          go_upto_region 12 with fail
          refine wp_region_late_drew (S := Chg (fun k => k = bm ∨ k = g7) wp) [19, 21, 22] (by kernel_rfl) ((Chg.refl _ wp).drew) (fun hHeld => ?_)
          obtain ⟨wd, hwdx⟩ : ∃ wd : World, wd = World.drew wp := ⟨_, rfl⟩
          rw [← hwdx] at hHeld ⊢
          have hDrew : Ex wp wd := by rw [hwdx]; exact (Ex.refl wp).drew
          clear hwdx
          refine wpAnyL_take (i := 0) (oi := ⟨some 40, .move (.tmp 5), 80, "redundant.go:139", #[], none⟩) (v := ?_) rfl (by kernel_rfl) (by kernel_rfl) (by kernel_rfl) (fun _ _ _ h => h) (Or.inl ⟨by rfl, ?hyr1x0q5⟩) (by kernel_rfl) (by kernel_rfl) (by assumption) ?restr1x0q5
          case hyr1x0q5 => intro wq hSw; (go_simp); (try with_reducible rfl)
          try simp only [Act.put, List.setIfInBounds_toArray, List.set_cons_zero, List.set_cons_succ]
          refine wpAnyL_take (i := 1) (oi := ⟨some 41, .fieldAddr 52 (.tmp 7) 0, 0, "redundant.go:139", #[], none⟩) (v := ?_) rfl (by kernel_rfl) (by kernel_rfl) (by kernel_rfl) (fun _ _ _ h => h) (Or.inl ⟨by rfl, ?hyr1x1q8⟩) (by kernel_rfl) (by kernel_rfl) (by assumption) ?restr1x1q8
          case hyr1x1q8 => intro wq hSw; (go_simp); (try with_reducible rfl)
          try simp only [Act.put, List.setIfInBounds_toArray, List.set_cons_zero, List.set_cons_succ]
          refine wpAnyL_take (i := 2) (oi := ⟨some 42, .load 3 (.tmp 41), 3, "redundant.go:139", #[⟨1, .data⟩], none⟩) (v := ?_) rfl (by kernel_rfl) (by kernel_rfl) (by kernel_rfl) (fun _ _ _ h => h) (Or.inl ⟨by rfl, ?hyr1x2q11⟩) (by kernel_rfl) (by kernel_rfl) (by assumption) ?restr1x2q11
          case hyr1x2q11 => intro wq hSw; (have cq := ((show Blk wq g7 _ _ from (hSw.block g7 (.inr rfl)).trans BP.out).cell 0 _ rfl); go_simp); (try with_reducible rfl)
          try simp only [Act.put, List.setIfInBounds_toArray, List.set_cons_zero, List.set_cons_succ]
          refine wpAnyL_takeP (i := 3) (oi := ⟨some 43, .move (.tmp 5), 80, "redundant.go:139", #[{ on := 21, ground := Ground.gcOnly Departure.lateStores }], none⟩) (v := ?_) rfl (by kernel_rfl) (by kernel_rfl) (by kernel_rfl) (fun _ _ _ h => h) (Or.inl ⟨by rfl, ?hyr1x3q14⟩) ?restr1x3q14
          case hyr1x3q14 => intro wq hSw; (go_simp); (try with_reducible rfl)
          try simp only [Act.put, List.setIfInBounds_toArray, List.set_cons_zero, List.set_cons_succ]
          refine wpAnyL_takeP (i := 4) (oi := ⟨some 44, .move (.tmp 10), 3, "redundant.go:139", #[{ on := 21, ground := Ground.gcOnly Departure.lateStores }], none⟩) (v := ?_) rfl (by kernel_rfl) (by kernel_rfl) (by kernel_rfl) (fun _ _ _ h => h) (Or.inl ⟨by rfl, ?hyr1x4q17⟩) ?restr1x4q17
          case hyr1x4q17 => intro wq hSw; (go_simp); (try with_reducible rfl)
          try simp only [Act.put, List.setIfInBounds_toArray, List.set_cons_zero, List.set_cons_succ]
          refine wpAnyL_take (i := 5) (oi := ⟨some 45, .move (.tmp 5), 80, "redundant.go:139", #[], none⟩) (v := ?_) rfl (by kernel_rfl) (by kernel_rfl) (by kernel_rfl) (fun _ _ _ h => h) (Or.inl ⟨by rfl, ?hyr1x5q20⟩) (by kernel_rfl) (by kernel_rfl) (by assumption) ?restr1x5q20
          case hyr1x5q20 => intro wq hSw; (go_simp); (try with_reducible rfl)
          try simp only [Act.put, List.setIfInBounds_toArray, List.set_cons_zero, List.set_cons_succ]
          refine wpAnyL_take (i := 6) (oi := ⟨some 46, .fieldAddr 52 (.tmp 7) 0, 0, "redundant.go:139", #[], none⟩) (v := ?_) rfl (by kernel_rfl) (by kernel_rfl) (by kernel_rfl) (fun _ _ _ h => h) (Or.inl ⟨by rfl, ?hyr1x6q23⟩) (by kernel_rfl) (by kernel_rfl) (by assumption) ?restr1x6q23
          case hyr1x6q23 => intro wq hSw; (go_simp); (try with_reducible rfl)
          try simp only [Act.put, List.setIfInBounds_toArray, List.set_cons_zero, List.set_cons_succ]
          refine wpAnyL_take (i := 7) (oi := ⟨some 47, .load 3 (.tmp 46), 3, "redundant.go:139", #[⟨6, .data⟩], none⟩) (v := ?_) rfl (by kernel_rfl) (by kernel_rfl) (by kernel_rfl) (fun _ _ _ h => h) (Or.inl ⟨by rfl, ?hyr1x7q26⟩) (by kernel_rfl) (by kernel_rfl) (by assumption) ?restr1x7q26
          case hyr1x7q26 => intro wq hSw; (have cq := ((show Blk wq g7 _ _ from (hSw.block g7 (.inr rfl)).trans BP.out).cell 0 _ rfl); go_simp); (try with_reducible rfl)
          try simp only [Act.put, List.setIfInBounds_toArray, List.set_cons_zero, List.set_cons_succ]
          refine wpAnyL_take (i := 8) (oi := ⟨some 48, .lookup 80 (.tmp 45) (.tmp 47) false, 22, "redundant.go:139", #[⟨5, .data⟩, ⟨7, .data⟩], none⟩) (v := ?_) rfl (by kernel_rfl) (by kernel_rfl) (by kernel_rfl) (fun _ _ _ h => h) (Or.inl ⟨by rfl, ?hyr1x8q29⟩) (by kernel_rfl) (by kernel_rfl) (by assumption) ?restr1x8q29
          case hyr1x8q29 => intro wq hSw; (have lk := (RawM.same GPH.out.1 (hSw.block bm (.inl rfl))).get (t := 80) Tryd.underlying3 Tryd.underlying80 (Tryd.zeroS _) wx1.out; go_simp); (try with_reducible rfl)
          try simp only [Act.put, List.setIfInBounds_toArray, List.set_cons_zero, List.set_cons_succ]
          refine wpAnyL_take (i := 9) (oi := ⟨some 49, .move (.tmp 10), 3, "redundant.go:139", #[], none⟩) (v := ?_) rfl (by kernel_rfl) (by kernel_rfl) (by kernel_rfl) (fun _ _ _ h => h) (Or.inl ⟨by rfl, ?hyr1x9q32⟩) (by kernel_rfl) (by kernel_rfl) (by assumption) ?restr1x9q32
          case hyr1x9q32 => intro wq hSw; (go_simp); (try with_reducible rfl)
          try simp only [Act.put, List.setIfInBounds_toArray, List.set_cons_zero, List.set_cons_succ]
          refine wpAnyL_take (i := 12) (oi := ⟨some 52, .move (.tmp 5), 80, "redundant.go:139", #[], none⟩) (v := ?_) rfl (by kernel_rfl) (by kernel_rfl) (by kernel_rfl) (fun _ _ _ h => h) (Or.inl ⟨by rfl, ?hyr1x12q35⟩) (by kernel_rfl) (by kernel_rfl) (by assumption) ?restr1x12q35
          case hyr1x12q35 => intro wq hSw; (go_simp); (try with_reducible rfl)
          try simp only [Act.put, List.setIfInBounds_toArray, List.set_cons_zero, List.set_cons_succ]
          refine wpAnyL_take (i := 13) (oi := ⟨some 53, .move (.tmp 10), 3, "redundant.go:139", #[], none⟩) (v := ?_) rfl (by kernel_rfl) (by kernel_rfl) (by kernel_rfl) (fun _ _ _ h => h) (Or.inl ⟨by rfl, ?hyr1x13q38⟩) (by kernel_rfl) (by kernel_rfl) (by assumption) ?restr1x13q38
          case hyr1x13q38 => intro wq hSw; (go_simp); (try with_reducible rfl)
          try simp only [Act.put, List.setIfInBounds_toArray, List.set_cons_zero, List.set_cons_succ]
          refine wpAnyL_take (i := 14) (oi := ⟨some 54, .lookup 80 (.tmp 52) (.tmp 53) false, 22, "redundant.go:139", #[⟨12, .data⟩, ⟨13, .data⟩], none⟩) (v := ?_) rfl (by kernel_rfl) (by kernel_rfl) (by kernel_rfl) (fun _ _ _ h => h) (Or.inl ⟨by rfl, ?hyr1x14q41⟩) (by kernel_rfl) (by kernel_rfl) (by assumption) ?restr1x14q41
          case hyr1x14q41 => intro wq hSw; (have lk := (RawM.same GPH.out.1 (hSw.block bm (.inl rfl))).get (t := 80) Tryd.underlying3 Tryd.underlying80 (Tryd.zeroS _) wx2.out; go_simp); (try with_reducible rfl)
          try simp only [Act.put, List.setIfInBounds_toArray, List.set_cons_zero, List.set_cons_succ]
          refine wpAnyL_take (i := 15) (oi := ⟨some 55, .fieldAddr 52 (.tmp 7) 0, 0, "redundant.go:139", #[], none⟩) (v := ?_) rfl (by kernel_rfl) (by kernel_rfl) (by kernel_rfl) (fun _ _ _ h => h) (Or.inl ⟨by rfl, ?hyr1x15q44⟩) (by kernel_rfl) (by kernel_rfl) (by assumption) ?restr1x15q44
          case hyr1x15q44 => intro wq hSw; (go_simp); (try with_reducible rfl)
          try simp only [Act.put, List.setIfInBounds_toArray, List.set_cons_zero, List.set_cons_succ]
          refine wpAnyL_take (i := 16) (oi := ⟨some 56, .load 3 (.tmp 55), 3, "redundant.go:139", #[⟨15, .data⟩], none⟩) (v := ?_) rfl (by kernel_rfl) (by kernel_rfl) (by kernel_rfl) (fun _ _ _ h => h) (Or.inl ⟨by rfl, ?hyr1x16q47⟩) (by kernel_rfl) (by kernel_rfl) (by assumption) ?restr1x16q47
          case hyr1x16q47 => intro wq hSw; (have cq := ((show Blk wq g7 _ _ from (hSw.block g7 (.inr rfl)).trans BP.out).cell 0 _ rfl); go_simp); (try with_reducible rfl)
          try simp only [Act.put, List.setIfInBounds_toArray, List.set_cons_zero, List.set_cons_succ]
          refine wpAnyL_ready (rs := [10, 17]) (by kernel_rfl) (by simp) ?_
          refine AllReadyL.cons (o := ⟨some 50, .buildSlice 22 1 #[(0, .tmp 49)], 22, "redundant.go:139", #[⟨9, .data⟩], none⟩) rfl (fun K hK => ?_) ?_
          · go_simp
            obtain ⟨g8, wq, hg8, hwq, SX, kk⟩ := litF hHeld.size id
            rw [← hg8, ← hwq]
            clear hg8 hwq
            (try replace SY := SY.nx kk)
            replace hDrew := hDrew.nx kk
            replace hHeld := hold_ex hHeld zbp zgp kk
            clear kk
            refine hK.out _ _ (hHeld) (fun hHeld => ?_)
            clear hK K
            try simp only [Act.put, List.setIfInBounds_toArray, List.set_cons_zero, List.set_cons_succ]
            refine wpAnyL_ready (rs := [11, 17]) (by kernel_rfl) (by simp) ?_
            refine AllReadyL.cons (o := ⟨some 51, .call { callee := .builtin .append, args := #[.tmp 48, .tmp 50], argTypes := #[22, 22] }, 22, "redundant.go:139", #[⟨8, .data⟩, ⟨10, .data⟩], none⟩) rfl (fun K hK => ?_) ?_
            · rw [if_pos (by rfl)]
              have rx := (GPH.out.row x.id).nx hDrew
              have zbase := Nat.le_trans GPH.out.2.2.1 hDrew.size
              refine wp_append_rda (enc := encI) _ (.tmp 48) (.tmp 50) 22 rfl w4.heap.size 3 (.int .i64 0) 1 8 Tryd.underlying22 Tryd.infoI6 rfl (by omega) (by omega) _ (J x.id) rx rfl _ _ 1 1 [id] SX (fun h => by cases h) (fun _ => rfl) (by simp [encI, Value.oneCell']) rfl (by omega) (by omega) zbase ?_
              intro va w1 A ch0 ch1 hva
              have KA : Chg (fun k => k < wp.heap.size ∧ ¬ (f2 x.id).ownBlock = some k) wp w1 := Chg.trans (Chg.mono hDrew (fun k hk => hk.1)) (Chg.mono ch0 (fun k hk => ⟨Nat.lt_of_lt_of_le hk.1 hDrew.size, hk.2⟩))
              have la := own_hist hva hDrew.size
              (try replace SY := SY.row2 (fun g hg => ((GPH.out.row x.id).lt g hg).2) ch0)
              have KE := Ex.refl w1
              replace hHeld := hold_row hHeld zbp zgp (NB.out x.id) ch0
              have zb1 := Nat.le_trans zbase ch0.size
              clear ch0 ch1 hva rx hDrew SX
              refine hK.out _ _ (hHeld) (fun hHeld => ?_)
              clear hK K
              try simp only [Act.put, List.setIfInBounds_toArray, List.set_cons_zero, List.set_cons_succ]
              refine wpAnyL_ready (rs := [17]) (by kernel_rfl) (by simp) ?_
              refine AllReadyL.cons (o := ⟨some 57, .buildSlice 22 1 #[(0, .tmp 56)], 22, "redundant.go:139", #[⟨16, .data⟩], none⟩) rfl (fun K hK => ?_) AllReadyL.nil
              go_simp
              obtain ⟨g9, wq, hg9, hwq, SY, kk⟩ := litF hHeld.size x.id
              rw [← hg9, ← hwq]
              clear hg9 hwq
              (try replace SX := SX.nx kk)
              (first | replace hDrew := hDrew.nx kk | replace KE := KE.nx kk)
              replace hHeld := hold_ex hHeld zbp zgp kk
              clear kk
              refine hK.out _ _ (hHeld) (fun hHeld => ?_)
              clear hK K
              try simp only [Act.put, List.setIfInBounds_toArray, List.set_cons_zero, List.set_cons_succ]
              refine wpAnyL_ready (rs := [18]) (by kernel_rfl) (by simp) ?_
              refine AllReadyL.cons (o := ⟨some 58, .call { callee := .builtin .append, args := #[.tmp 54, .tmp 57], argTypes := #[22, 22] }, 22, "redundant.go:139", #[⟨14, .data⟩, ⟨17, .data⟩, ⟨11, .chain⟩], none⟩) rfl (fun K hK => ?_) AllReadyL.nil
              rw [if_pos (by rfl)]
              have ry := ((GPH.out.row id).chg KA (fun g hg hv => ⟨hg, fun hx => GPH.out.2.2.2.2 id x.id g hne2 hv hx⟩)).nx KE
              have zb2 := Nat.le_trans zb1 KE.size
              refine wp_append_rda (enc := encI) _ (.tmp 54) (.tmp 57) 22 rfl w4.heap.size 3 (.int .i64 0) 1 8 Tryd.underlying22 Tryd.infoI6 rfl (by omega) (by omega) _ (J id) ry rfl _ _ 1 1 [x.id] SY (fun h => by cases h) (fun _ => rfl) (by simp [encI, Value.oneCell']) rfl (by omega) (by omega) zb2 ?_
              intro vc w2 C ch0 ch1 hvc
              have KC : Chg (fun k => k < w1.heap.size ∧ ¬ (f2 id).ownBlock = some k) w1 w2 := Chg.trans (Chg.mono KE (fun k hk => hk.1)) (Chg.mono ch0 (fun k hk => ⟨Nat.lt_of_lt_of_le hk.1 KE.size, hk.2⟩))
              have lc := own_hist hvc KE.size
              replace hHeld := hold_row hHeld zbp zgp (NB.out id) ch0
              clear ch0 ch1 hvc ry SY KE
              refine hK.out _ _ (hHeld) (fun hHeld => ?_)
              clear hK K
              try simp only [Act.put, List.setIfInBounds_toArray, List.set_cons_zero, List.set_cons_succ]
              refine wpAnyL_ready (rs := [19]) (by kernel_rfl) (by simp) ?_
              refine AllReadyL.consL (o := ⟨some 59, .mapEntry 80 (.tmp 40) (.tmp 42), 0, "redundant.go:139", #[⟨0, .data⟩, ⟨2, .data⟩, ⟨18, .chain⟩, { on := 0, ground := Ground.textOnly Departure.tupleMapEntryFirst }, { on := 1, ground := Ground.textOnly Departure.tupleMapEntryFirst }, { on := 2, ground := Ground.textOnly Departure.tupleMapEntryFirst }, { on := 3, ground := Ground.textOnly Departure.lateStores }, { on := 4, ground := Ground.textOnly Departure.lateStores }, { on := 5, ground := Ground.textOnly Departure.tupleMapEntryFirst }, { on := 6, ground := Ground.textOnly Departure.tupleMapEntryFirst }, { on := 7, ground := Ground.textOnly Departure.tupleMapEntryFirst }, { on := 8, ground := Ground.textOnly Departure.tupleMapEntryFirst }, { on := 9, ground := Ground.textOnly Departure.tupleMapEntryFirst }, { on := 10, ground := Ground.textOnly Departure.tupleMapEntryFirst }, ⟨11, .phase⟩, { on := 12, ground := Ground.textOnly Departure.lateStores }, { on := 13, ground := Ground.textOnly Departure.lateStores }, ⟨14, .phase⟩, { on := 15, ground := Ground.textOnly Departure.lateStores }, { on := 16, ground := Ground.textOnly Departure.lateStores }, { on := 17, ground := Ground.textOnly Departure.lateStoresUnsure }, ⟨18, .phase⟩], none⟩) rfl (by rfl) (fun K hK => ?_) AllReadyL.nil
              have R2 := RawM.same GPH.out.1 (hHeld.block bm (.inl rfl))
              obtain ⟨v0, st, we, hrun, k3, sz3, back⟩ := R2.entry (t := 80) Tryd.underlying3 Tryd.underlying80 (fun u => Tryd.zeroS u) (by omega) wx1.out
              go_simp
              clear hrun sz3 R2
              refine hK.out _ _ ?_
              clear hK K
              try simp only [Act.put, List.setIfInBounds_toArray, List.set_cons_zero, List.set_cons_succ]
              refine wpAnyL_takeP (i := 20) (oi := ⟨some 60, .extract (.tmp 59) 1, 3, "redundant.go:139", #[⟨19, .data⟩], none⟩) (v := ?_) rfl (by kernel_rfl) (by kernel_rfl) (by kernel_rfl) (fun _ _ _ h => h) (Or.inl ⟨by rfl, ?hyr1x20q116⟩) ?restr1x20q116
              case hyr1x20q116 => intro wq hSw; (go_simp); (try with_reducible rfl)
              try simp only [Act.put, List.setIfInBounds_toArray, List.set_cons_zero, List.set_cons_succ]
              refine wpAnyL_ready (rs := [21]) (by kernel_rfl) (by simp) ?_
              refine AllReadyL.consL (o := ⟨none, .entryStore 80 (.tmp 40) (.tmp 60) (.tmp 51), 0, "redundant.go:139", #[⟨0, .data⟩, ⟨20, .data⟩, ⟨11, .data⟩, ⟨19, .chain⟩, ⟨0, .phase⟩, ⟨1, .phase⟩, ⟨2, .phase⟩, { on := 3, ground := Ground.textOnly Departure.lateStores }, { on := 4, ground := Ground.textOnly Departure.lateStores }, ⟨5, .phase⟩, ⟨6, .phase⟩, ⟨7, .phase⟩, ⟨8, .phase⟩, ⟨9, .phase⟩, ⟨10, .phase⟩, ⟨11, .phase⟩, { on := 12, ground := Ground.textOnly Departure.lateStores }, { on := 13, ground := Ground.textOnly Departure.lateStores }, ⟨14, .phase⟩, { on := 15, ground := Ground.textOnly Departure.lateStores }, { on := 16, ground := Ground.textOnly Departure.lateStores }, { on := 17, ground := Ground.textOnly Departure.lateStoresUnsure }, ⟨18, .phase⟩, ⟨19, .phase⟩], none⟩) rfl (by rfl) (fun K hK => ?_) AllReadyL.nil
              obtain ⟨wf, hrun2, R3, k4, sz4⟩ := back we va rfl
              simp only [goInt] at hrun2
              go_simp
              clear hrun2 sz4 back
              refine hK.out _ _ ?_
              clear hK K
              try simp only [Act.put, List.setIfInBounds_toArray, List.set_cons_zero, List.set_cons_succ]
              refine wpAnyL_ready (rs := [22]) (by kernel_rfl) (by simp) ?_
              refine AllReadyL.consL (o := ⟨none, .mapUpdate 80 (.tmp 43) (.tmp 44) (.tmp 58), 0, "redundant.go:139", #[⟨3, .data⟩, ⟨4, .data⟩, ⟨18, .data⟩, ⟨21, .chain⟩, ⟨0, .phase⟩, ⟨1, .phase⟩, ⟨2, .phase⟩, ⟨3, .phase⟩, ⟨4, .phase⟩, ⟨5, .phase⟩, ⟨6, .phase⟩, ⟨7, .phase⟩, ⟨8, .phase⟩, ⟨9, .phase⟩, ⟨10, .phase⟩, ⟨11, .phase⟩, ⟨12, .phase⟩, ⟨13, .phase⟩, ⟨14, .phase⟩, ⟨15, .phase⟩, ⟨16, .phase⟩, ⟨17, .phase⟩, ⟨18, .phase⟩, ⟨19, .phase⟩, ⟨20, .phase⟩, ⟨21, .phase⟩], none⟩) rfl (by rfl) (fun K hK => ?_) AllReadyL.nil
              obtain ⟨wg, hrun3, R4, k5, sz5⟩ := R3.put (t := 80) Tryd.underlying3 Tryd.underlying80 (by omega) wx2.out vc
              go_simp
              clear hrun3 sz5 R3
              refine hK.out _ _ ?_
              clear hK K
              try simp only [Act.put, List.setIfInBounds_toArray, List.set_cons_zero, List.set_cons_succ]
              refine wpAnyL_done (by kernel_rfl) ?_ _
              have KF := k3.nxb (k4.nxb k5)
              have GN := GPH.out.two (x := x.id) (y := id) (fun h => hne2 h.symm) A KA la C KC lc KF R4
              have AN := AC.out.two (fun v g hg => ((GPH.out.row v).lt g hg).1) KA la KC lc KF
              have RR := Lib.hid (show CmRel x.id L (prsU N P j) bm wi.heap.size w4 w9 (.int .i64 ((i : Int) + 1)) wg from ⟨i + 1, m + 1 + 1, _, by omega, by go_num, by rw [LS.out, ← List.append_assoc, jOf_snoc, HJ.out]; exact GN, by rw [M2.out]; omega, AN⟩)
              clear GN AN KF A C KA KC la lc R4 k3 k4 k5 hHeld
              go_wp2_with fail
              exact ⟨RR.out, by simp [intOf]; omega⟩
            refine AllReadyL.cons (o := ⟨some 57, .buildSlice 22 1 #[(0, .tmp 56)], 22, "redundant.go:139", #[⟨16, .data⟩], none⟩) rfl (fun K hK => ?_) AllReadyL.nil
            · go_simp
              obtain ⟨g9, wq, hg9, hwq, SY, kk⟩ := litF hHeld.size x.id
              rw [← hg9, ← hwq]
              clear hg9 hwq
              (try replace SX := SX.nx kk)
              (first | replace hDrew := hDrew.nx kk | replace KE := KE.nx kk)
              replace hHeld := hold_ex hHeld zbp zgp kk
              clear kk
              refine hK.out _ _ (hHeld) (fun hHeld => ?_)
              clear hK K
              try simp only [Act.put, List.setIfInBounds_toArray, List.set_cons_zero, List.set_cons_succ]
              refine wpAnyL_ready (rs := [11]) (by kernel_rfl) (by simp) ?_
              refine AllReadyL.cons (o := ⟨some 51, .call { callee := .builtin .append, args := #[.tmp 48, .tmp 50], argTypes := #[22, 22] }, 22, "redundant.go:139", #[⟨8, .data⟩, ⟨10, .data⟩], none⟩) rfl (fun K hK => ?_) AllReadyL.nil
              rw [if_pos (by rfl)]
              have rx := (GPH.out.row x.id).nx hDrew
              have zbase := Nat.le_trans GPH.out.2.2.1 hDrew.size
              refine wp_append_rda (enc := encI) _ (.tmp 48) (.tmp 50) 22 rfl w4.heap.size 3 (.int .i64 0) 1 8 Tryd.underlying22 Tryd.infoI6 rfl (by omega) (by omega) _ (J x.id) rx rfl _ _ 1 1 [id] SX (fun h => by cases h) (fun _ => rfl) (by simp [encI, Value.oneCell']) rfl (by omega) (by omega) zbase ?_
              intro va w1 A ch0 ch1 hva
              have KA : Chg (fun k => k < wp.heap.size ∧ ¬ (f2 x.id).ownBlock = some k) wp w1 := Chg.trans (Chg.mono hDrew (fun k hk => hk.1)) (Chg.mono ch0 (fun k hk => ⟨Nat.lt_of_lt_of_le hk.1 hDrew.size, hk.2⟩))
              have la := own_hist hva hDrew.size
              (try replace SY := SY.row2 (fun g hg => ((GPH.out.row x.id).lt g hg).2) ch0)
              have KE := Ex.refl w1
              replace hHeld := hold_row hHeld zbp zgp (NB.out x.id) ch0
              have zb1 := Nat.le_trans zbase ch0.size
              clear ch0 ch1 hva rx hDrew SX
              refine hK.out _ _ (hHeld) (fun hHeld => ?_)
              clear hK K
              try simp only [Act.put, List.setIfInBounds_toArray, List.set_cons_zero, List.set_cons_succ]
              refine wpAnyL_ready (rs := [18]) (by kernel_rfl) (by simp) ?_
              refine AllReadyL.cons (o := ⟨some 58, .call { callee := .builtin .append, args := #[.tmp 54, .tmp 57], argTypes := #[22, 22] }, 22, "redundant.go:139", #[⟨14, .data⟩, ⟨17, .data⟩, ⟨11, .chain⟩], none⟩) rfl (fun K hK => ?_) AllReadyL.nil
              rw [if_pos (by rfl)]
              have ry := ((GPH.out.row id).chg KA (fun g hg hv => ⟨hg, fun hx => GPH.out.2.2.2.2 id x.id g hne2 hv hx⟩)).nx KE
              have zb2 := Nat.le_trans zb1 KE.size
              refine wp_append_rda (enc := encI) _ (.tmp 54) (.tmp 57) 22 rfl w4.heap.size 3 (.int .i64 0) 1 8 Tryd.underlying22 Tryd.infoI6 rfl (by omega) (by omega) _ (J id) ry rfl _ _ 1 1 [x.id] SY (fun h => by cases h) (fun _ => rfl) (by simp [encI, Value.oneCell']) rfl (by omega) (by omega) zb2 ?_
              intro vc w2 C ch0 ch1 hvc
              have KC : Chg (fun k => k < w1.heap.size ∧ ¬ (f2 id).ownBlock = some k) w1 w2 := Chg.trans (Chg.mono KE (fun k hk => hk.1)) (Chg.mono ch0 (fun k hk => ⟨Nat.lt_of_lt_of_le hk.1 KE.size, hk.2⟩))
              have lc := own_hist hvc KE.size
              replace hHeld := hold_row hHeld zbp zgp (NB.out id) ch0
              clear ch0 ch1 hvc ry SY KE
              refine hK.out _ _ (hHeld) (fun hHeld => ?_)
              clear hK K
              try simp only [Act.put, List.setIfInBounds_toArray, List.set_cons_zero, List.set_cons_succ]
              refine wpAnyL_ready (rs := [19]) (by kernel_rfl) (by simp) ?_
              refine AllReadyL.consL (o := ⟨some 59, .mapEntry 80 (.tmp 40) (.tmp 42), 0, "redundant.go:139", #[⟨0, .data⟩, ⟨2, .data⟩, ⟨18, .chain⟩, { on := 0, ground := Ground.textOnly Departure.tupleMapEntryFirst }, { on := 1, ground := Ground.textOnly Departure.tupleMapEntryFirst }, { on := 2, ground := Ground.textOnly Departure.tupleMapEntryFirst }, { on := 3, ground := Ground.textOnly Departure.lateStores }, { on := 4, ground := Ground.textOnly Departure.lateStores }, { on := 5, ground := Ground.textOnly Departure.tupleMapEntryFirst }, { on := 6, ground := Ground.textOnly Departure.tupleMapEntryFirst }, { on := 7, ground := Ground.textOnly Departure.tupleMapEntryFirst }, { on := 8, ground := Ground.textOnly Departure.tupleMapEntryFirst }, { on := 9, ground := Ground.textOnly Departure.tupleMapEntryFirst }, { on := 10, ground := Ground.textOnly Departure.tupleMapEntryFirst }, ⟨11, .phase⟩, { on := 12, ground := Ground.textOnly Departure.lateStores }, { on := 13, ground := Ground.textOnly Departure.lateStores }, ⟨14, .phase⟩, { on := 15, ground := Ground.textOnly Departure.lateStores }, { on := 16, ground := Ground.textOnly Departure.lateStores }, { on := 17, ground := Ground.textOnly Departure.lateStoresUnsure }, ⟨18, .phase⟩], none⟩) rfl (by rfl) (fun K hK => ?_) AllReadyL.nil
              have R2 := RawM.same GPH.out.1 (hHeld.block bm (.inl rfl))
              obtain ⟨v0, st, we, hrun, k3, sz3, back⟩ := R2.entry (t := 80) Tryd.underlying3 Tryd.underlying80 (fun u => Tryd.zeroS u) (by omega) wx1.out
              go_simp
              clear hrun sz3 R2
              refine hK.out _ _ ?_
              clear hK K
              try simp only [Act.put, List.setIfInBounds_toArray, List.set_cons_zero, List.set_cons_succ]
              refine wpAnyL_takeP (i := 20) (oi := ⟨some 60, .extract (.tmp 59) 1, 3, "redundant.go:139", #[⟨19, .data⟩], none⟩) (v := ?_) rfl (by kernel_rfl) (by kernel_rfl) (by kernel_rfl) (fun _ _ _ h => h) (Or.inl ⟨by rfl, ?hyr1x20q190⟩) ?restr1x20q190
              case hyr1x20q190 => intro wq hSw; (go_simp); (try with_reducible rfl)
              try simp only [Act.put, List.setIfInBounds_toArray, List.set_cons_zero, List.set_cons_succ]
              refine wpAnyL_ready (rs := [21]) (by kernel_rfl) (by simp) ?_
              refine AllReadyL.consL (o := ⟨none, .entryStore 80 (.tmp 40) (.tmp 60) (.tmp 51), 0, "redundant.go:139", #[⟨0, .data⟩, ⟨20, .data⟩, ⟨11, .data⟩, ⟨19, .chain⟩, ⟨0, .phase⟩, ⟨1, .phase⟩, ⟨2, .phase⟩, { on := 3, ground := Ground.textOnly Departure.lateStores }, { on := 4, ground := Ground.textOnly Departure.lateStores }, ⟨5, .phase⟩, ⟨6, .phase⟩, ⟨7, .phase⟩, ⟨8, .phase⟩, ⟨9, .phase⟩, ⟨10, .phase⟩, ⟨11, .phase⟩, { on := 12, ground := Ground.textOnly Departure.lateStores }, { on := 13, ground := Ground.textOnly Departure.lateStores }, ⟨14, .phase⟩, { on := 15, ground := Ground.textOnly Departure.lateStores }, { on := 16, ground := Ground.textOnly Departure.lateStores }, { on := 17, ground := Ground.textOnly Departure.lateStoresUnsure }, ⟨18, .phase⟩, ⟨19, .phase⟩], none⟩) rfl (by rfl) (fun K hK => ?_) AllReadyL.nil
              obtain ⟨wf, hrun2, R3, k4, sz4⟩ := back we va rfl
              simp only [goInt] at hrun2
              go_simp
              clear hrun2 sz4 back
              refine hK.out _ _ ?_
              clear hK K
              try simp only [Act.put, List.setIfInBounds_toArray, List.set_cons_zero, List.set_cons_succ]
              refine wpAnyL_ready (rs := [22]) (by kernel_rfl) (by simp) ?_
              refine AllReadyL.consL (o := ⟨none, .mapUpdate 80 (.tmp 43) (.tmp 44) (.tmp 58), 0, "redundant.go:139", #[⟨3, .data⟩, ⟨4, .data⟩, ⟨18, .data⟩, ⟨21, .chain⟩, ⟨0, .phase⟩, ⟨1, .phase⟩, ⟨2, .phase⟩, ⟨3, .phase⟩, ⟨4, .phase⟩, ⟨5, .phase⟩, ⟨6, .phase⟩, ⟨7, .phase⟩, ⟨8, .phase⟩, ⟨9, .phase⟩, ⟨10, .phase⟩, ⟨11, .phase⟩, ⟨12, .phase⟩, ⟨13, .phase⟩, ⟨14, .phase⟩, ⟨15, .phase⟩, ⟨16, .phase⟩, ⟨17, .phase⟩, ⟨18, .phase⟩, ⟨19, .phase⟩, ⟨20, .phase⟩, ⟨21, .phase⟩], none⟩) rfl (by rfl) (fun K hK => ?_) AllReadyL.nil
              obtain ⟨wg, hrun3, R4, k5, sz5⟩ := R3.put (t := 80) Tryd.underlying3 Tryd.underlying80 (by omega) wx2.out vc
              go_simp
              clear hrun3 sz5 R3
              refine hK.out _ _ ?_
              clear hK K
              try simp only [Act.put, List.setIfInBounds_toArray, List.set_cons_zero, List.set_cons_succ]
              refine wpAnyL_done (by kernel_rfl) ?_ _
              have KF := k3.nxb (k4.nxb k5)
              have GN := GPH.out.two (x := x.id) (y := id) (fun h => hne2 h.symm) A KA la C KC lc KF R4
              have AN := AC.out.two (fun v g hg => ((GPH.out.row v).lt g hg).1) KA la KC lc KF
              have RR := Lib.hid (show CmRel x.id L (prsU N P j) bm wi.heap.size w4 w9 (.int .i64 ((i : Int) + 1)) wg from ⟨i + 1, m + 1 + 1, _, by omega, by go_num, by rw [LS.out, ← List.append_assoc, jOf_snoc, HJ.out]; exact GN, by rw [M2.out]; omega, AN⟩)
              clear GN AN KF A C KA KC la lc R4 k3 k4 k5 hHeld
              go_wp2_with fail
              exact ⟨RR.out, by simp [intOf]; omega⟩
          refine AllReadyL.cons (o := ⟨some 57, .buildSlice 22 1 #[(0, .tmp 56)], 22, "redundant.go:139", #[⟨16, .data⟩], none⟩) rfl (fun K hK => ?_) AllReadyL.nil
          · go_simp
            obtain ⟨g9, wq, hg9, hwq, SY, kk⟩ := litF hHeld.size x.id
            rw [← hg9, ← hwq]
            clear hg9 hwq
            (try replace SX := SX.nx kk)
            (first | replace hDrew := hDrew.nx kk | replace KE := KE.nx kk)
            replace hHeld := hold_ex hHeld zbp zgp kk
            clear kk
            refine hK.out _ _ (hHeld) (fun hHeld => ?_)
            clear hK K
            try simp only [Act.put, List.setIfInBounds_toArray, List.set_cons_zero, List.set_cons_succ]
            refine wpAnyL_ready (rs := [10]) (by kernel_rfl) (by simp) ?_
            refine AllReadyL.cons (o := ⟨some 50, .buildSlice 22 1 #[(0, .tmp 49)], 22, "redundant.go:139", #[⟨9, .data⟩], none⟩) rfl (fun K hK => ?_) AllReadyL.nil
            go_simp
            obtain ⟨g8, wq, hg8, hwq, SX, kk⟩ := litF hHeld.size id
            rw [← hg8, ← hwq]
            clear hg8 hwq
            (try replace SY := SY.nx kk)
            replace hDrew := hDrew.nx kk
            replace hHeld := hold_ex hHeld zbp zgp kk
            clear kk
            refine hK.out _ _ (hHeld) (fun hHeld => ?_)
            clear hK K
            try simp only [Act.put, List.setIfInBounds_toArray, List.set_cons_zero, List.set_cons_succ]
            refine wpAnyL_ready (rs := [11]) (by kernel_rfl) (by simp) ?_
            refine AllReadyL.cons (o := ⟨some 51, .call { callee := .builtin .append, args := #[.tmp 48, .tmp 50], argTypes := #[22, 22] }, 22, "redundant.go:139", #[⟨8, .data⟩, ⟨10, .data⟩], none⟩) rfl (fun K hK => ?_) AllReadyL.nil
            rw [if_pos (by rfl)]
            have rx := (GPH.out.row x.id).nx hDrew
            have zbase := Nat.le_trans GPH.out.2.2.1 hDrew.size
            refine wp_append_rda (enc := encI) _ (.tmp 48) (.tmp 50) 22 rfl w4.heap.size 3 (.int .i64 0) 1 8 Tryd.underlying22 Tryd.infoI6 rfl (by omega) (by omega) _ (J x.id) rx rfl _ _ 1 1 [id] SX (fun h => by cases h) (fun _ => rfl) (by simp [encI, Value.oneCell']) rfl (by omega) (by omega) zbase ?_
            intro va w1 A ch0 ch1 hva
            have KA : Chg (fun k => k < wp.heap.size ∧ ¬ (f2 x.id).ownBlock = some k) wp w1 := Chg.trans (Chg.mono hDrew (fun k hk => hk.1)) (Chg.mono ch0 (fun k hk => ⟨Nat.lt_of_lt_of_le hk.1 hDrew.size, hk.2⟩))
            have la := own_hist hva hDrew.size
            (try replace SY := SY.row2 (fun g hg => ((GPH.out.row x.id).lt g hg).2) ch0)
            have KE := Ex.refl w1
            replace hHeld := hold_row hHeld zbp zgp (NB.out x.id) ch0
            have zb1 := Nat.le_trans zbase ch0.size
            clear ch0 ch1 hva rx hDrew SX
            refine hK.out _ _ (hHeld) (fun hHeld => ?_)
            clear hK K
            try simp only [Act.put, List.setIfInBounds_toArray, List.set_cons_zero, List.set_cons_succ]
            refine wpAnyL_ready (rs := [18]) (by kernel_rfl) (by simp) ?_
            refine AllReadyL.cons (o := ⟨some 58, .call { callee := .builtin .append, args := #[.tmp 54, .tmp 57], argTypes := #[22, 22] }, 22, "redundant.go:139", #[⟨14, .data⟩, ⟨17, .data⟩, ⟨11, .chain⟩], none⟩) rfl (fun K hK => ?_) AllReadyL.nil
            rw [if_pos (by rfl)]
            have ry := ((GPH.out.row id).chg KA (fun g hg hv => ⟨hg, fun hx => GPH.out.2.2.2.2 id x.id g hne2 hv hx⟩)).nx KE
            have zb2 := Nat.le_trans zb1 KE.size
            refine wp_append_rda (enc := encI) _ (.tmp 54) (.tmp 57) 22 rfl w4.heap.size 3 (.int .i64 0) 1 8 Tryd.underlying22 Tryd.infoI6 rfl (by omega) (by omega) _ (J id) ry rfl _ _ 1 1 [x.id] SY (fun h => by cases h) (fun _ => rfl) (by simp [encI, Value.oneCell']) rfl (by omega) (by omega) zb2 ?_
            intro vc w2 C ch0 ch1 hvc
            have KC : Chg (fun k => k < w1.heap.size ∧ ¬ (f2 id).ownBlock = some k) w1 w2 := Chg.trans (Chg.mono KE (fun k hk => hk.1)) (Chg.mono ch0 (fun k hk => ⟨Nat.lt_of_lt_of_le hk.1 KE.size, hk.2⟩))
            have lc := own_hist hvc KE.size
            replace hHeld := hold_row hHeld zbp zgp (NB.out id) ch0
            clear ch0 ch1 hvc ry SY KE
            refine hK.out _ _ (hHeld) (fun hHeld => ?_)
            clear hK K
            try simp only [Act.put, List.setIfInBounds_toArray, List.set_cons_zero, List.set_cons_succ]
            refine wpAnyL_ready (rs := [19]) (by kernel_rfl) (by simp) ?_
            refine AllReadyL.consL (o := ⟨some 59, .mapEntry 80 (.tmp 40) (.tmp 42), 0, "redundant.go:139", #[⟨0, .data⟩, ⟨2, .data⟩, ⟨18, .chain⟩, { on := 0, ground := Ground.textOnly Departure.tupleMapEntryFirst }, { on := 1, ground := Ground.textOnly Departure.tupleMapEntryFirst }, { on := 2, ground := Ground.textOnly Departure.tupleMapEntryFirst }, { on := 3, ground := Ground.textOnly Departure.lateStores }, { on := 4, ground := Ground.textOnly Departure.lateStores }, { on := 5, ground := Ground.textOnly Departure.tupleMapEntryFirst }, { on := 6, ground := Ground.textOnly Departure.tupleMapEntryFirst }, { on := 7, ground := Ground.textOnly Departure.tupleMapEntryFirst }, { on := 8, ground := Ground.textOnly Departure.tupleMapEntryFirst }, { on := 9, ground := Ground.textOnly Departure.tupleMapEntryFirst }, { on := 10, ground := Ground.textOnly Departure.tupleMapEntryFirst }, ⟨11, .phase⟩, { on := 12, ground := Ground.textOnly Departure.lateStores }, { on := 13, ground := Ground.textOnly Departure.lateStores }, ⟨14, .phase⟩, { on := 15, ground := Ground.textOnly Departure.lateStores }, { on := 16, ground := Ground.textOnly Departure.lateStores }, { on := 17, ground := Ground.textOnly Departure.lateStoresUnsure }, ⟨18, .phase⟩], none⟩) rfl (by rfl) (fun K hK => ?_) AllReadyL.nil
            have R2 := RawM.same GPH.out.1 (hHeld.block bm (.inl rfl))
            obtain ⟨v0, st, we, hrun, k3, sz3, back⟩ := R2.entry (t := 80) Tryd.underlying3 Tryd.underlying80 (fun u => Tryd.zeroS u) (by omega) wx1.out
            go_simp
            clear hrun sz3 R2
            refine hK.out _ _ ?_
            clear hK K
            try simp only [Act.put, List.setIfInBounds_toArray, List.set_cons_zero, List.set_cons_succ]
            refine wpAnyL_takeP (i := 20) (oi := ⟨some 60, .extract (.tmp 59) 1, 3, "redundant.go:139", #[⟨19, .data⟩], none⟩) (v := ?_) rfl (by kernel_rfl) (by kernel_rfl) (by kernel_rfl) (fun _ _ _ h => h) (Or.inl ⟨by rfl, ?hyr1x20q277⟩) ?restr1x20q277
            case hyr1x20q277 => intro wq hSw; (go_simp); (try with_reducible rfl)
            try simp only [Act.put, List.setIfInBounds_toArray, List.set_cons_zero, List.set_cons_succ]
            refine wpAnyL_ready (rs := [21]) (by kernel_rfl) (by simp) ?_
            refine AllReadyL.consL (o := ⟨none, .entryStore 80 (.tmp 40) (.tmp 60) (.tmp 51), 0, "redundant.go:139", #[⟨0, .data⟩, ⟨20, .data⟩, ⟨11, .data⟩, ⟨19, .chain⟩, ⟨0, .phase⟩, ⟨1, .phase⟩, ⟨2, .phase⟩, { on := 3, ground := Ground.textOnly Departure.lateStores }, { on := 4, ground := Ground.textOnly Departure.lateStores }, ⟨5, .phase⟩, ⟨6, .phase⟩, ⟨7, .phase⟩, ⟨8, .phase⟩, ⟨9, .phase⟩, ⟨10, .phase⟩, ⟨11, .phase⟩, { on := 12, ground := Ground.textOnly Departure.lateStores }, { on := 13, ground := Ground.textOnly Departure.lateStores }, ⟨14, .phase⟩, { on := 15, ground := Ground.textOnly Departure.lateStores }, { on := 16, ground := Ground.textOnly Departure.lateStores }, { on := 17, ground := Ground.textOnly Departure.lateStoresUnsure }, ⟨18, .phase⟩, ⟨19, .phase⟩], none⟩) rfl (by rfl) (fun K hK => ?_) AllReadyL.nil
            obtain ⟨wf, hrun2, R3, k4, sz4⟩ := back we va rfl
            simp only [goInt] at hrun2
            go_simp
            clear hrun2 sz4 back
            refine hK.out _ _ ?_
            clear hK K
            try simp only [Act.put, List.setIfInBounds_toArray, List.set_cons_zero, List.set_cons_succ]
            refine wpAnyL_ready (rs := [22]) (by kernel_rfl) (by simp) ?_
            refine AllReadyL.consL (o := ⟨none, .mapUpdate 80 (.tmp 43) (.tmp 44) (.tmp 58), 0, "redundant.go:139", #[⟨3, .data⟩, ⟨4, .data⟩, ⟨18, .data⟩, ⟨21, .chain⟩, ⟨0, .phase⟩, ⟨1, .phase⟩, ⟨2, .phase⟩, ⟨3, .phase⟩, ⟨4, .phase⟩, ⟨5, .phase⟩, ⟨6, .phase⟩, ⟨7, .phase⟩, ⟨8, .phase⟩, ⟨9, .phase⟩, ⟨10, .phase⟩, ⟨11, .phase⟩, ⟨12, .phase⟩, ⟨13, .phase⟩, ⟨14, .phase⟩, ⟨15, .phase⟩, ⟨16, .phase⟩, ⟨17, .phase⟩, ⟨18, .phase⟩, ⟨19, .phase⟩, ⟨20, .phase⟩, ⟨21, .phase⟩], none⟩) rfl (by rfl) (fun K hK => ?_) AllReadyL.nil
            obtain ⟨wg, hrun3, R4, k5, sz5⟩ := R3.put (t := 80) Tryd.underlying3 Tryd.underlying80 (by omega) wx2.out vc
            go_simp
            clear hrun3 sz5 R3
            refine hK.out _ _ ?_
            clear hK K
            try simp only [Act.put, List.setIfInBounds_toArray, List.set_cons_zero, List.set_cons_succ]
            refine wpAnyL_done (by kernel_rfl) ?_ _
            have KF := k3.nxb (k4.nxb k5)
            have GN := GPH.out.two (x := x.id) (y := id) (fun h => hne2 h.symm) A KA la C KC lc KF R4
            have AN := AC.out.two (fun v g hg => ((GPH.out.row v).lt g hg).1) KA la KC lc KF
            have RR := Lib.hid (show CmRel x.id L (prsU N P j) bm wi.heap.size w4 w9 (.int .i64 ((i : Int) + 1)) wg from ⟨i + 1, m + 1 + 1, _, by omega, by go_num, by rw [LS.out, ← List.append_assoc, jOf_snoc, HJ.out]; exact GN, by rw [M2.out]; omega, AN⟩)
            clear GN AN KF A C KA KC la lc R4 k3 k4 k5 hHeld
            go_wp2_with fail
            exact ⟨RR.out, by simp [intOf]; omega⟩
        · obtain rfl : i = L.length := by omega
          rw [List.take_of_length_le (Nat.le_refl _), ← SN.out] at GP
          have RR := Lib.hid (show CnRel N P bm w4 (.int .i64 ((j : Int) + 1)) wp from ⟨j + 1, m, f2, by have := HL.out; omega, by go_num, GP, by rw [SN.out, List.length_append, List.length_map]; exact hm2, (ac.exb (KW.out.nxb (K9.out.b bm)) (Nat.le_refl _))⟩)
          clear GP ac
          go_wp2_with fail
          exact ⟨RR.out, by simp [intOf]; omega⟩
    · have hjN : j = N.length := by have := HL.out; omega
      have PE := prsU_len HC.out P N.length
      rw [hjN] at GP
      rw [prsU_all] at GP PE
      clear hjN
      have HJ : Hid (∀ u v, v ∈ jOf (pairsN N P) u ↔ EdgeN N P u v ∨ EdgeN N P v u) := Lib.hid (fun u v => joined_law HC.out)
      have JX : Hid (∀ u, (jOf (pairsN N P) u).length ≤ 10000) := Lib.hid (fun u => by
        have h1 := ((jOf_law _ (pairsN N P) rfl (fun q hq => pairs_ne HC.out hq)) u).1
        omega)
      generalize jOf (pairsN N P) = J at GP HJ JX
      have GW := Lib.hid GP
      have KW := Lib.hid kw
      clear GP kw PE
      have G6 := SetM.made wi Tryd.prog 3 4
      have kk := Ex.new wi (.map #[] 0)
      obtain ⟨w6, hw6⟩ : ∃ w6, w6 = wi.alloc (.map #[] 0) := ⟨_, rfl⟩
      obtain ⟨bs, hbs⟩ : ∃ bs, bs = wi.heap.size := ⟨_, rfl⟩
      have hsz6 : w6.heap.size = bs + 1 := by rw [hw6, hbs]; simp
      rw [← hbs, ← hw6] at G6
      rw [← hw6] at kk
      have Hw6 := Lib.hid hw6
      have Hbs := Lib.hid hbs
      have Hbs' := Lib.hid hbs
      have K6 := Lib.hid kk
      replace G6 := Lib.hid G6
      replace hsz6 := Lib.hid hsz6
      clear kk hw6 hbs
      have hmm := @run_makeMap Tryd.prog
      go_upto_region 16 with fail
      rw [← Hbs.out, ← Hw6.out]
      clear Hbs Hw6
      clear hmm hjm hjn
      go_upto_if 66 with fail
      go_cut [12] from 67 to 71 (fun q wk => CqRel N bs w6 q wk)
      case first =>
        by_cases hn0 : n = 0
        · have CUT : Hid (CqRel N bs w6 (.slice none 0 0) w6) := Lib.hid (by
            have : N = [] := List.eq_nil_of_length_eq_zero (by have := HL.out; omega)
            subst this
            exact ⟨.inl ⟨rfl, rfl⟩, Ex.refl _⟩)
          subst hn0
          go_wp2_with fail
          go_meet
          exact CUT.out
        · have hn1 : 0 < n := by omega
          obtain ⟨x3, o3, x, rfl, hx3, hy, hc3⟩ := ((HS.out.nxb KW.out).nxb (K6.out.b bm)).sl.at hn1
          have e0 : w6.cell? ⟨x3, o3, none⟩ = some (.int .i64 x.id) := by simpa using hc3 0 _ rfl
          have HX := Lib.hid (startN_at hy)
          obtain ⟨g7, hg7⟩ : ∃ g7, g7 = w6.heap.size := ⟨_, rfl⟩
          obtain ⟨w7, hw7⟩ : ∃ w7, w7 = w6.alloc (.cells #[.int .i64 x.id] 3) := ⟨_, rfl⟩
          have CUT : Hid (CqRel N bs w6 (.slice (some ⟨g7, 0, none⟩) 1 1) w7) := Lib.hid (by
            unfold CqRel
            rw [HX.out, hg7, hw7]
            exact ⟨QuL.ofL (OwnL.lit [x.id] (fun _ => rfl) (by have := hsz6.out; omega) (by simp [maxLen]) rfl), Ex.new _ _⟩)
          have Hg7 := Lib.hid hg7
          have Hw7 := Lib.hid hw7
          clear hc3 hy hg7 hw7
          go_upto_region 19 with fail
          rw [← Hg7.out, ← Hw7.out]
          clear Hg7 Hw7
          go_wp2_with fail
          go_meet
          exact CUT.out
      case rest =>
        rename World => wk
        obtain ⟨Q1, k7⟩ := hcut
        have C0 : Hid (CbRel N P J bs wi (todoN N J [] (startN N)) u12 wk) := Lib.hid ⟨[], startN N, startN_bfs N P J, G6.out.nx k7, Q1, K6.out.nx k7, rfl, by have h1 := todo_le (N := N) (by have := HL.out; omega) JX.out [] (startN N); have h2 := startN_len N; omega⟩
        clear Q1 k7
        have hwb6 : wi.heap.size = bs := Hbs'.out.symm
        go_upto_region 19 with fail
        go_loopg [12] (todoN N J [] (startN N)) (fun k o wr => CbRel N P J bs wi k o wr)
        case atStart => exact C0.out
        case round =>
          clear C0
          obtain ⟨M, T, BF, SM, QT, kx, rfl, hk7⟩ := hrel
          obtain ⟨wp, rfl⟩ : ∃ wp : World, wp = wr := ⟨_, rfl⟩
          have HK7 := Lib.hid hk7
          have BL := Lib.hid (Nat.le_trans (bfs_len HC.out BF) (show N.length ≤ 64 by have := HL.out; omega))
          have BFH := Lib.hid BF
          have SMH := Lib.hid SM
          have KX := Lib.hid kx
          clear hk7 SM kx
          cases T with
          | nil =>
            obtain ⟨aq, cq, rfl⟩ := QT.no
            have RES : Hid (decide ((M.length : Int) = n) = connB N P) := Lib.hid (by rw [← HL.out]; exact conn_bool HC.out HJ.out BFH.out)
            have hlen := fun ty => SMH.out.len (t := 83) Tryd.underlying83 BFH.out.1 ty
            have KE := Lib.hid ((Exl.nxb (⟨EX1.out, hwb⟩ : Exl bm w w4) KW.out).nx KX.out).1
            clear BF QT
            go_wp2_with fail
            go_ret
            exact ⟨by rw [← RES.out]; rfl, KE.out⟩
          | cons v T =>
            obtain ⟨g, o, cap, rfl, hg, hbg, hc1, hcl, e0, Q2⟩ := QT.front
            obtain ⟨x, hx, hxv⟩ := bfs_node HC.out BFH.out (.inr (List.mem_cons_self ..))
            have hvI := Lib.hid (hxv ▸ HI.out x hx)
            have wv := Lib.hid (wf_of hvI.out)
            have TL := Lib.hid (Nat.le_trans (todo_len N J M (v :: T)) HK7.out)
            have lk := fun hz => SMH.out.get (t := 83) Tryd.underlying3 Tryd.underlying4 Tryd.underlying83 hz wv.out
            replace lk := lk (Tryd.zeroB _)
            clear QT BF
            by_cases hcap : cap = 1
            · subst hcap
              obtain rfl : T = [] := List.eq_nil_of_length_eq_zero (by omega)
              replace Q2 : QuL 3 (bs + 1) wp (.slice (some ⟨g, o, none⟩) 0 0) [] := by rw [if_pos rfl] at Q2; exact Q2
              by_cases hv : v ∈ M
              · have d1 : M.contains v = true := by simpa using hv
                have RR := Lib.hid (show CbRel N P J bs wi (todoN N J M []) (.slice (some ⟨g, o, none⟩) 0 0) wp from ⟨M, [], bfs_old BFH.out hv, SMH.out, Q2, KX.out, rfl, by have := HK7.out; have := todo_old N J M [] v; omega⟩)
                clear Q2
                go_wp2_with fail
                go_roundg (todoN N J M [])
                case measure => have := todo_old N J M [] v; omega
                case rel => exact RR.out
              · have d1 : M.contains v = false := by simpa using hv
                obtain ⟨wq, hput, SM2, kb, hzq⟩ := SMH.out.put (t := 83) Tryd.underlying3 Tryd.underlying4 Tryd.underlying83 (by have := BL.out; omega) wv.out
                have kx2 := Lib.hid ((Exl.nxb (⟨KX.out, by omega⟩ : Exl bs wi wp) kb).1)
                have GQ := GW.out.nx kx2.out
                have lk2 := GQ.1.get (t := 80) Tryd.underlying3 Tryd.underlying80 (Tryd.zeroS _) wv.out
                obtain ⟨ar, cr, er, rr, hr0⟩ := (GQ.row v).rdz (fun _ => rfl)
                rw [er] at lk2
                have hq6 : bs + 1 ≤ wq.heap.size := by have := SM2.lt; omega
                obtain ⟨v9, w9, hap, Q3, c1, c2, _⟩ := (Q2.nxb (by omega) kb).append (P := Tryd.prog) 22 22 (z := .int .i64 0) (bytes := 8) Tryd.underlying22 Tryd.infoI6 rfl (by omega) rr hr0 (by have := TL.out; simp at this; omega) (by have := JX.out v; omega) hq6
                have TN : Hid (todoN N J (M ++ [v]) ([] ++ J v) + 1 = todoN N J M (v :: [])) := Lib.hid (by subst hxv; exact todo_new HC.out hx hv)
                have RR := Lib.hid (show CbRel N P J bs wi (todoN N J (M ++ [v]) ([] ++ J v)) v9 w9 from ⟨M ++ [v], [] ++ J v, bfs_new (fun u v => (HJ.out u v).1) BFH.out hv, SM2.same (c2.block bs (Nat.lt_succ_self _)), Q3, Chg.trans kx2.out (Chg.mono c2 fun k hk => by show k < bs + 1; omega), rfl, by have := HK7.out; have := TN.out; omega⟩)
                clear Q2 GQ er rr hr0 Q3 c1 c2 hx hxv SM2 kb
                go_wp2_with (at_builtin; go_loud (refine wpList_append_hap rfl _ _ 22 rfl hap rfl rfl ?_))
                go_roundg (todoN N J (M ++ [v]) ([] ++ J v))
                case measure => have := TN.out; omega
                case rel => exact RR.out
            · rw [if_neg hcap] at Q2
              by_cases hv : v ∈ M
              · have d1 : M.contains v = true := by simpa using hv
                have RR := Lib.hid (show CbRel N P J bs wi (todoN N J M T) (.slice (some ⟨g, o + 1, none⟩) T.length (cap - 1)) wp from ⟨M, T, bfs_old BFH.out hv, SMH.out, Q2, KX.out, rfl, by have := HK7.out; have := todo_old N J M T v; omega⟩)
                clear Q2
                go_wp2_with fail
                go_roundg (todoN N J M T)
                case measure => have := todo_old N J M T v; omega
                case rel => exact RR.out
              · have d1 : M.contains v = false := by simpa using hv
                obtain ⟨wq, hput, SM2, kb, hzq⟩ := SMH.out.put (t := 83) Tryd.underlying3 Tryd.underlying4 Tryd.underlying83 (by have := BL.out; omega) wv.out
                have kx2 := Lib.hid ((Exl.nxb (⟨KX.out, by omega⟩ : Exl bs wi wp) kb).1)
                have GQ := GW.out.nx kx2.out
                have lk2 := GQ.1.get (t := 80) Tryd.underlying3 Tryd.underlying80 (Tryd.zeroS _) wv.out
                obtain ⟨ar, cr, er, rr, hr0⟩ := (GQ.row v).rdz (fun _ => rfl)
                rw [er] at lk2
                have hq6 : bs + 1 ≤ wq.heap.size := by have := SM2.lt; omega
                obtain ⟨v9, w9, hap, Q3, c1, c2, _⟩ := (Q2.nxb (by omega) kb).append (P := Tryd.prog) 22 22 (z := .int .i64 0) (bytes := 8) Tryd.underlying22 Tryd.infoI6 rfl (by omega) rr hr0 (by have := TL.out; simp at this; omega) (by have := JX.out v; omega) hq6
                have TN : Hid (todoN N J (M ++ [v]) (T ++ J v) + 1 = todoN N J M (v :: T)) := Lib.hid (by subst hxv; exact todo_new HC.out hx hv)
                have RR := Lib.hid (show CbRel N P J bs wi (todoN N J (M ++ [v]) (T ++ J v)) v9 w9 from ⟨M ++ [v], T ++ J v, bfs_new (fun u v => (HJ.out u v).1) BFH.out hv, SM2.same (c2.block bs (Nat.lt_succ_self _)), Q3, Chg.trans kx2.out (Chg.mono c2 fun k hk => by show k < bs + 1; omega), rfl, by have := HK7.out; have := TN.out; omega⟩)
                clear Q2 GQ er rr hr0 Q3 c1 c2 hx hxv SM2 kb
                go_wp2_with (at_builtin; go_loud (refine wpList_append_hap rfl _ _ 22 rfl hap rfl rfl ?_))
                go_roundg (todoN N J (M ++ [v]) (T ++ J v))
                case measure => have := TN.out; omega
                case rel => exact RR.out
end Go.Proofs.YtbnbjiddffihoaaDoor

/- The sanity check of chapter 14 (printed by gen_l14.py). -/
namespace Go.Proofs.YtbnbjiddffihoaaDoor
open Go.RowKit

def fiveN : List Nd := [⟨1, ⟨#[97]⟩, 0⟩, ⟨2, ⟨#[98]⟩, 1⟩, ⟨3, ⟨#[99]⟩, 2⟩, ⟨4, ⟨#[100]⟩, 3⟩, ⟨5, ⟨#[101]⟩, 4⟩]
theorem five_con : contactsN fiveN 3 2 0 = [1, 2, 4, 5] := by decide +kernel
theorem five_len : (peersN fiveN 2 1).length = 5 := by decide +kernel
theorem five_gap : gapN fiveN [2, 3] = 2 := by decide +kernel
theorem five_conn : connB fiveN (peersN fiveN 2 1) = true := by decide +kernel
theorem five_crash : (crashN (peersN fiveN 2 1) [1]).length = 4 := by decide +kernel
theorem fiveW : ∀ x ∈ fiveN, x.word < 4294967296 := by decide +kernel
theorem five_all : (peersN fiveN 2 1).all (fun p => decide (p.known.length ≤ 1000) && decide (p.near.length ≤ 1000)) = true := by decide +kernel
theorem five_small2 : SmallP (peersN fiveN 2 1) := fun p hp => by
  have h := List.all_eq_true.1 five_all p hp
  simp only [Bool.and_eq_true, decide_eq_true_eq] at h
  omega
theorem five_small : ∀ p ∈ peersN fiveN 2 1, p.known.length ≤ 4000000000000000000 ∧ p.near.length ≤ 4000000000000000000 := fun p hp => by have := five_small2 p hp; omega
theorem five_at2 : ((peersN fiveN 2 1)[2]?).map (fun p => (p.left, p.near.length, (p.near[0]?).map fun x => x.1)) = some (2, 1, some 1) := by decide +kernel
theorem five_two {y : Pr} (hy : (peersN fiveN 2 1)[2]? = some y) : y.left = 2 ∧ y.near.length = 1 ∧ ∃ z : Nr, y.near[0]? = some z ∧ z.1 = 1 := by
  have h := five_at2
  rw [hy] at h
  simp only [Option.map_some, Option.some.injEq, Prod.mk.injEq] at h
  obtain ⟨h1, h2, h3⟩ := h
  refine ⟨h1, h2, ?_⟩
  cases hz : y.near[0]? with
  | none => rw [hz] at h3; cases h3
  | some z => rw [hz] at h3; exact ⟨z, rfl, Option.some.inj h3⟩
theorem five_at0 : ((peersN fiveN 2 1)[0]?).map (fun p => decide (0 < (refsN fiveN p).length)) = some true := by decide +kernel
theorem five_one {y : Pr} (hy : (peersN fiveN 2 1)[0]? = some y) : 0 < (refsN fiveN y).length := by
  have h := five_at0
  rw [hy] at h
  simpa using h
theorem litE {w0 u : World} (_ : Ex w0 u) (x : Int) : ∃ g v, g = u.heap.size ∧ v = u.alloc (.cells #[.int .i64 x] 3) ∧ Sl 1 encI v (some ⟨g, 0, none⟩) 1 [x] ∧ Ex u v :=
  ⟨_, _, rfl, rfl, Sl.lit [x] rfl rfl (fun _ => rfl) rfl, Ex.new _ _⟩
def ThPost5 (w : World) (e : Ending) (w' : World) : Prop := ∃ a, e = .returned (.slice a 5 5) ∧ Sl 3 encN w' a 5 fiveN ∧ Ex w w'
theorem five_x (w : World) : Calls Tryd.prog 57 #[] w (ThPost5 w) := by
  go_enter Tryd.func57, Tryd.ntmps57
  go_wp2_with fail
  go_ret
  exact ⟨_, rfl, Sl.lit fiveN rfl rfl (fun _ => rfl) rfl, Ex.new _ _⟩
set_option maxRecDepth 100000 in
set_option maxHeartbeats 8000000 in
theorem sane14_x (w : World) (hT : TabG w) : Calls Tryd.prog 20 #[] w fun e w' => e = .returned (.bool true) ∧ Ex w w' := by
  go_enter Tryd.func20, Tryd.ntmps20
  have k := Ex.refl w
  have T := hT
  clear hT
  go_wp2_with fail
  (with_reducible refine (five_x _).mono ?_)
  rintro e w1 ⟨a1, rfl, s1, kk⟩
  replace k := k.nx kk
  replace T := T.nx kk
  clear kk
  go_wp2_with fail
  (with_reducible refine (contacts_p _ _ _ fiveN 3 2 0 _ s1 (by omega) (by omega) (by unfold maxLen; omega) fiveW T).mono ?_)
  rintro e w2 ⟨v, rfl, own, kk⟩
  replace k := k.nx kk
  replace T := T.nx kk
  replace s1 := s1.nx kk
  clear kk
  rw [five_con] at own
  obtain ⟨aC, cC, rfl, C, _, _, _⟩ := own.slf (fun _ => rfl)
  have C := C.sl
  simp only [List.length_cons, List.length_nil, Nat.zero_add, Nat.reduceAdd] at C ⊢
  clear own s1
  replace C := Lib.hid C
  go_wp2_with fail
  (with_reducible refine (five_x _).mono ?_)
  rintro e w3 ⟨a1, rfl, s1, kk⟩
  replace k := k.nx kk
  replace T := T.nx kk
  replace C := Lib.hid (C.out.nx kk)
  clear kk
  go_wp2_with fail
  (with_reducible refine (peers_p _ _ _ fiveN 2 1 _ s1 (by omega) (by omega) (by unfold maxLen; omega) fiveW T).mono ?_)
  rintro e w4 ⟨v, qs, rfl, own, kk⟩
  replace k := k.nx kk
  replace T := T.nx kk
  replace C := Lib.hid (C.out.nx kk)
  replace s1 := s1.nx kk
  clear kk
  obtain ⟨aP, cP, rfl, P, _, _, _⟩ := own.pl
  have hP5 := Lib.hid five_len
  rw [five_len] at P ⊢
  clear own s1
  replace P := Lib.hid P
  obtain ⟨x1, o1, y1, rfl, hx1, hy1, hc1⟩ := C.out.at (j := 0) (by omega)
  obtain ⟨x2, o2, y2, he, _, hy2, hc2⟩ := C.out.at (j := 3) (by omega)
  cases he
  cases hy1
  cases hy2
  have e0 : w4.cell? ⟨x1, o1, none⟩ = some (.int .i64 1) := by simpa using hc1 0 _ rfl
  have e1 : w4.cell? ⟨x1, o1 + 3, none⟩ = some (.int .i64 5) := by simpa using hc2 0 _ rfl
  have C0 := Lib.hid (fun wq (k : Ex w4 wq) => Chg.cellv k e0 hx1)
  have C3 := Lib.hid (fun wq (k : Ex w4 wq) => Chg.cellv k e1 hx1)
  clear hc1 hc2 e0 e1 hx1 C
  obtain ⟨xp, op, b1, m1, d1, b4, m4, d4, y, rfl, hxp, hy, p0, p1, p2, p3, p4, _, s4⟩ := P.out.rd (j := 2) (by omega)
  obtain ⟨hyl, hyn, z, hz, hzl⟩ := five_two hy
  have hm4 : m4 = 1 := s4.len.symm.trans hyn
  subst hm4
  obtain ⟨xn, on, z', rfl, hxn, hz', hcz⟩ := s4.at (j := 0) (by omega)
  obtain rfl : z = z' := Option.some.inj (hz.symm.trans hz')
  have q0 : w4.cell? ⟨xn, on, none⟩ = some (.int .i64 1) := by have h := hcz 0 _ rfl; rw [hzl] at h; simpa using h
  have e2 : w4.cell? ⟨xp, op + 10 + 1 + 1, none⟩ = some (.int .i64 2) := by rw [hyl] at p2; simpa using p2
  have e4 : w4.cell? ⟨xp, op + 10 + 1 + 1 + 1 + 1, none⟩ = some (.slice (some ⟨xn, on, none⟩) 1 d4) := by simpa using p4
  have Q0 := Lib.hid (fun wq (k : Ex w4 wq) => Chg.cellv k q0 hxn)
  have P2 := Lib.hid (fun wq (k : Ex w4 wq) => Chg.cellv k e2 hxp)
  have P4 := Lib.hid (fun wq (k : Ex w4 wq) => Chg.cellv k e4 hxp)
  clear p0 p1 p2 p3 p4 hy hyl hyn hz hz' hzl hcz s4 hxn q0 e2 e4
  obtain ⟨xp', op', b1', m1', d1', b4', m4', d4', y', he, _, hy', p0, p1, p2, p3, p4, r1, r4⟩ := P.out.rd (j := 0) (by omega)
  cases he
  have hy1 := Lib.hid (five_one hy')
  have p0 : w4.cell? ⟨xp, op, none⟩ = some (.int .i64 y'.id) := by simpa using p0
  have p1 : w4.cell? ⟨xp, op + 1, none⟩ = some (.slice b1' m1' d1') := by simpa using p1
  have p2 : w4.cell? ⟨xp, op + 1 + 1, none⟩ = some (.int .i64 y'.left) := by simpa using p2
  have p3 : w4.cell? ⟨xp, op + 1 + 1 + 1, none⟩ = some (.int .i64 y'.right) := by simpa using p3
  have p4 : w4.cell? ⟨xp, op + 1 + 1 + 1 + 1, none⟩ = some (.slice b4' m4' d4') := by simpa using p4
  have R0 := Lib.hid (fun wq (k : Ex w4 wq) => Chg.cellv k p0 hxp)
  have R1 := Lib.hid (fun wq (k : Ex w4 wq) => Chg.cellv k p1 hxp)
  have R2 := Lib.hid (fun wq (k : Ex w4 wq) => Chg.cellv k p2 hxp)
  have R3 := Lib.hid (fun wq (k : Ex w4 wq) => Chg.cellv k p3 hxp)
  have R4 := Lib.hid (fun wq (k : Ex w4 wq) => Chg.cellv k p4 hxp)
  have hl1 : m1' ≤ 4000000000000000000 := by have := r1.len; have := (five_small y' (List.mem_of_getElem? hy')).1; omega
  have hl4 : m4' ≤ 4000000000000000000 := by have := r4.len; have := (five_small y' (List.mem_of_getElem? hy')).2; omega
  have r1 := Lib.hid r1
  have r4 := Lib.hid r4
  clear hy' hxp p0 p1 p2 p3 p4
  have K4 := Lib.hid k
  clear k T
  go_upto_region 3 with fail
  refine wp_region_held_drew (S := Ex w4) (by kernel_rfl) ((Ex.refl w4).drew) (fun hHeld => ?_)
  obtain ⟨wd, hwdx⟩ : ∃ wd : World, wd = World.drew w4 := ⟨_, rfl⟩
  rw [← hwdx] at hHeld ⊢
  have hDrew : Ex w4 wd := by rw [hwdx]; exact (Ex.refl w4).drew
  clear hwdx
  refine wpAnyH_take (i := 0) (oi := ⟨some 7, .move (.tmp 1), 22, "law.go:23", #[], none⟩) (v := ?_) rfl (by kernel_rfl) (by kernel_rfl) (by kernel_rfl) (fun _ _ _ h => h) (Or.inl ⟨by rfl, ?hyr1x0q5⟩) (by assumption) ?restr1x0q5
  case hyr1x0q5 => intro wq hSw; (go_simp); (try with_reducible rfl)
  try simp only [Act.put, List.setIfInBounds_toArray, List.set_cons_zero, List.set_cons_succ]
  refine wpAnyH_take (i := 1) (oi := ⟨some 8, .call { callee := .builtin .len, args := #[.tmp 7], argTypes := #[22] }, 3, "law.go:23", #[⟨0, .data⟩], none⟩) (v := ?_) rfl (by kernel_rfl) (by kernel_rfl) (by kernel_rfl) (fun _ _ _ h => h) (Or.inl ⟨by rfl, ?hyr1x1q8⟩) (by assumption) ?restr1x1q8
  case hyr1x1q8 => intro wq hSw; (go_simp); (try with_reducible rfl)
  try simp only [Act.put, List.setIfInBounds_toArray, List.set_cons_zero, List.set_cons_succ]
  refine wpAnyH_take (i := 2) (oi := ⟨some 9, .binOp .eql 3 (.tmp 8) (.const (.int .i64 4)) 3, 4, "law.go:23", #[⟨1, .data⟩], none⟩) (v := ?_) rfl (by kernel_rfl) (by kernel_rfl) (by kernel_rfl) (fun _ _ _ h => h) (Or.inl ⟨by rfl, ?hyr1x2q11⟩) (by assumption) ?restr1x2q11
  case hyr1x2q11 => intro wq hSw; (go_simp); (try with_reducible rfl)
  try simp only [Act.put, List.setIfInBounds_toArray, List.set_cons_zero, List.set_cons_succ]
  refine wpAnyH_take (i := 3) (oi := ⟨some 10, .move (.tmp 9), 4, "law.go:23", #[⟨2, .data⟩], none⟩) (v := ?_) rfl (by kernel_rfl) (by kernel_rfl) (by kernel_rfl) (fun _ _ _ h => h) (Or.inl ⟨by rfl, ?hyr1x3q14⟩) (by assumption) ?restr1x3q14
  case hyr1x3q14 => intro wq hSw; (go_simp); (try with_reducible rfl)
  try simp only [Act.put, List.setIfInBounds_toArray, List.set_cons_zero, List.set_cons_succ]
  refine wpAnyH_take (i := 4) (oi := ⟨some 11, .move (.tmp 1), 22, "law.go:23", #[⟨3, .guard⟩], some (3, true)⟩) (v := ?_) rfl (by kernel_rfl) (by kernel_rfl) (by kernel_rfl) (fun _ _ _ h => h) (Or.inl ⟨by rfl, ?hyr1x4q17⟩) (by assumption) ?restr1x4q17
  case hyr1x4q17 => intro wq hSw; (go_simp); (try with_reducible rfl)
  try simp only [Act.put, List.setIfInBounds_toArray, List.set_cons_zero, List.set_cons_succ]
  refine wpAnyH_take (i := 5) (oi := ⟨some 12, .indexAddr 22 (.tmp 11) (.const (.int .i64 0)), 0, "law.go:23", #[⟨4, .data⟩, ⟨3, .guard⟩], some (3, true)⟩) (v := ?_) rfl (by kernel_rfl) (by kernel_rfl) (by kernel_rfl) (fun _ _ _ h => h) (Or.inl ⟨by rfl, ?hyr1x5q20⟩) (by assumption) ?restr1x5q20
  case hyr1x5q20 => intro wq hSw; (go_simp); (try with_reducible rfl)
  try simp only [Act.put, List.setIfInBounds_toArray, List.set_cons_zero, List.set_cons_succ]
  refine wpAnyH_take (i := 6) (oi := ⟨some 13, .load 3 (.tmp 12), 3, "law.go:23", #[⟨5, .data⟩, ⟨3, .guard⟩], some (3, true)⟩) (v := ?_) rfl (by kernel_rfl) (by kernel_rfl) (by kernel_rfl) (fun _ _ _ h => h) (Or.inl ⟨by rfl, ?hyr1x6q23⟩) (by assumption) ?restr1x6q23
  case hyr1x6q23 => intro wq hSw; (have cq := C0.out wq hSw; go_simp); (try with_reducible rfl)
  try simp only [Act.put, List.setIfInBounds_toArray, List.set_cons_zero, List.set_cons_succ]
  refine wpAnyH_take (i := 7) (oi := ⟨some 14, .binOp .eql 3 (.tmp 13) (.const (.int .i64 1)) 3, 4, "law.go:23", #[⟨6, .data⟩, ⟨3, .guard⟩], some (3, true)⟩) (v := ?_) rfl (by kernel_rfl) (by kernel_rfl) (by kernel_rfl) (fun _ _ _ h => h) (Or.inl ⟨by rfl, ?hyr1x7q26⟩) (by assumption) ?restr1x7q26
  case hyr1x7q26 => intro wq hSw; (go_simp); (try with_reducible rfl)
  try simp only [Act.put, List.setIfInBounds_toArray, List.set_cons_zero, List.set_cons_succ]
  refine wpAnyH_take (i := 8) (oi := ⟨some 15, .pick (.tmp 10) (.tmp 14) (.const (.bool false)), 4, "law.go:23", #[⟨3, .data⟩, ⟨7, .data⟩], none⟩) (v := ?_) rfl (by kernel_rfl) (by kernel_rfl) (by kernel_rfl) (fun _ _ _ h => h) (Or.inl ⟨by rfl, ?hyr1x8q29⟩) (by assumption) ?restr1x8q29
  case hyr1x8q29 => intro wq hSw; (go_simp); (try with_reducible rfl)
  try simp only [Act.put, List.setIfInBounds_toArray, List.set_cons_zero, List.set_cons_succ]
  refine wpAnyH_take (i := 9) (oi := ⟨some 16, .move (.tmp 15), 4, "law.go:23", #[⟨8, .data⟩, ⟨3, .chain⟩], none⟩) (v := ?_) rfl (by kernel_rfl) (by kernel_rfl) (by kernel_rfl) (fun _ _ _ h => h) (Or.inl ⟨by rfl, ?hyr1x9q32⟩) (by assumption) ?restr1x9q32
  case hyr1x9q32 => intro wq hSw; (go_simp); (try with_reducible rfl)
  try simp only [Act.put, List.setIfInBounds_toArray, List.set_cons_zero, List.set_cons_succ]
  refine wpAnyH_take (i := 10) (oi := ⟨some 17, .move (.tmp 1), 22, "law.go:23", #[⟨9, .guard⟩], some (9, true)⟩) (v := ?_) rfl (by kernel_rfl) (by kernel_rfl) (by kernel_rfl) (fun _ _ _ h => h) (Or.inl ⟨by rfl, ?hyr1x10q35⟩) (by assumption) ?restr1x10q35
  case hyr1x10q35 => intro wq hSw; (go_simp); (try with_reducible rfl)
  try simp only [Act.put, List.setIfInBounds_toArray, List.set_cons_zero, List.set_cons_succ]
  refine wpAnyH_take (i := 11) (oi := ⟨some 18, .indexAddr 22 (.tmp 17) (.const (.int .i64 3)), 0, "law.go:23", #[⟨10, .data⟩, ⟨9, .guard⟩], some (9, true)⟩) (v := ?_) rfl (by kernel_rfl) (by kernel_rfl) (by kernel_rfl) (fun _ _ _ h => h) (Or.inl ⟨by rfl, ?hyr1x11q38⟩) (by assumption) ?restr1x11q38
  case hyr1x11q38 => intro wq hSw; (go_simp); (try with_reducible rfl)
  try simp only [Act.put, List.setIfInBounds_toArray, List.set_cons_zero, List.set_cons_succ]
  refine wpAnyH_take (i := 12) (oi := ⟨some 19, .load 3 (.tmp 18), 3, "law.go:23", #[⟨11, .data⟩, ⟨9, .guard⟩], some (9, true)⟩) (v := ?_) rfl (by kernel_rfl) (by kernel_rfl) (by kernel_rfl) (fun _ _ _ h => h) (Or.inl ⟨by rfl, ?hyr1x12q41⟩) (by assumption) ?restr1x12q41
  case hyr1x12q41 => intro wq hSw; (have cq := C3.out wq hSw; go_simp); (try with_reducible rfl)
  try simp only [Act.put, List.setIfInBounds_toArray, List.set_cons_zero, List.set_cons_succ]
  refine wpAnyH_take (i := 13) (oi := ⟨some 20, .binOp .eql 3 (.tmp 19) (.const (.int .i64 5)) 3, 4, "law.go:23", #[⟨12, .data⟩, ⟨9, .guard⟩], some (9, true)⟩) (v := ?_) rfl (by kernel_rfl) (by kernel_rfl) (by kernel_rfl) (fun _ _ _ h => h) (Or.inl ⟨by rfl, ?hyr1x13q44⟩) (by assumption) ?restr1x13q44
  case hyr1x13q44 => intro wq hSw; (go_simp); (try with_reducible rfl)
  try simp only [Act.put, List.setIfInBounds_toArray, List.set_cons_zero, List.set_cons_succ]
  refine wpAnyH_take (i := 14) (oi := ⟨some 21, .pick (.tmp 16) (.tmp 20) (.const (.bool false)), 4, "law.go:23", #[⟨9, .data⟩, ⟨13, .data⟩], none⟩) (v := ?_) rfl (by kernel_rfl) (by kernel_rfl) (by kernel_rfl) (fun _ _ _ h => h) (Or.inl ⟨by rfl, ?hyr1x14q47⟩) (by assumption) ?restr1x14q47
  case hyr1x14q47 => intro wq hSw; (go_simp); (try with_reducible rfl)
  try simp only [Act.put, List.setIfInBounds_toArray, List.set_cons_zero, List.set_cons_succ]
  refine wpAnyH_take (i := 15) (oi := ⟨some 22, .move (.tmp 21), 4, "law.go:23", #[⟨14, .data⟩, ⟨9, .chain⟩], none⟩) (v := ?_) rfl (by kernel_rfl) (by kernel_rfl) (by kernel_rfl) (fun _ _ _ h => h) (Or.inl ⟨by rfl, ?hyr1x15q50⟩) (by assumption) ?restr1x15q50
  case hyr1x15q50 => intro wq hSw; (go_simp); (try with_reducible rfl)
  try simp only [Act.put, List.setIfInBounds_toArray, List.set_cons_zero, List.set_cons_succ]
  refine wpAnyH_ready (rs := [16, 17]) (by kernel_rfl) (by simp) ?_
  refine AllReadyH.cons (o := ⟨some 23, .call { callee := .value (.func 57), args := #[], argTypes := #[] }, 23, "law.go:23", #[⟨15, .chain⟩, ⟨15, .guard⟩], some (15, true)⟩) rfl (fun K hK => ?_) ?_
  · go_simp
    (with_reducible refine (five_x _).mono ?_)
    rintro e w5 ⟨a5, rfl, s5, kk⟩
    (try replace SB := SB.nx kk)
    replace hHeld := hHeld.nx kk
    clear kk
    refine hK.out _ _ (hHeld) (fun hHeld => ?_)
    clear hK K
    try simp only [Act.put, List.setIfInBounds_toArray, List.set_cons_zero, List.set_cons_succ]
    refine wpAnyH_ready (rs := [17]) (by kernel_rfl) (by simp) ?_
    refine AllReadyH.cons (o := ⟨some 24, .buildSlice 22 2 #[(0, .const (.int .i64 2)), (1, .const (.int .i64 3))], 22, "law.go:23", #[⟨15, .guard⟩], some (15, true)⟩) rfl (fun K hK => ?_) AllReadyH.nil
    go_simp
    obtain ⟨gB, wB, hgB, hwB, SB, kk, jj⟩ := lit2 hHeld 2 3
    rw [← hgB, ← hwB]
    clear hgB hwB jj
    (try replace s5 := s5.nx kk)
    replace hHeld := hHeld.nx kk
    clear kk
    refine hK.out _ _ (hHeld) (fun hHeld => ?_)
    clear hK K
    try simp only [Act.put, List.setIfInBounds_toArray, List.set_cons_zero, List.set_cons_succ]
    refine wpAnyH_ready (rs := [18]) (by kernel_rfl) (by simp) ?_
    refine AllReadyH.cons (o := ⟨some 25, .call { callee := .value (.func 53), args := #[.tmp 23, .tmp 24], argTypes := #[23, 22] }, 3, "law.go:23", #[⟨16, .data⟩, ⟨17, .data⟩, ⟨16, .chain⟩, ⟨15, .guard⟩], some (15, true)⟩) rfl (fun K hK => ?_) AllReadyH.nil
    go_simp
    (with_reducible refine (gap_p _ _ _ fiveN _ _ _ [2, 3] _ s5 (by omega) (by omega) (by unfold maxLen; omega) SB (by omega)).mono ?_)
    rintro e w6 ⟨rfl, kk⟩
    rw [five_gap]
    replace hHeld := hHeld.nx kk
    clear kk s5 SB
    refine hK.out _ _ (hHeld) (fun hHeld => ?_)
    clear hK K
    try simp only [Act.put, List.setIfInBounds_toArray, List.set_cons_zero, List.set_cons_succ]
    refine wpAnyH_take (i := 19) (oi := ⟨some 26, .binOp .eql 3 (.tmp 25) (.const (.int .i64 2)) 3, 4, "law.go:23", #[⟨18, .data⟩, ⟨15, .guard⟩], some (15, true)⟩) (v := ?_) rfl (by kernel_rfl) (by kernel_rfl) (by kernel_rfl) (fun _ _ _ h => h) (Or.inl ⟨by rfl, ?hyr1x19q87⟩) (by assumption) ?restr1x19q87
    case hyr1x19q87 => intro wq hSw; (go_simp); (try with_reducible rfl)
    try simp only [Act.put, List.setIfInBounds_toArray, List.set_cons_zero, List.set_cons_succ]
    refine wpAnyH_take (i := 20) (oi := ⟨some 27, .pick (.tmp 22) (.tmp 26) (.const (.bool false)), 4, "law.go:23", #[⟨15, .data⟩, ⟨19, .data⟩], none⟩) (v := ?_) rfl (by kernel_rfl) (by kernel_rfl) (by kernel_rfl) (fun _ _ _ h => h) (Or.inl ⟨by rfl, ?hyr1x20q90⟩) (by assumption) ?restr1x20q90
    case hyr1x20q90 => intro wq hSw; (go_simp); (try with_reducible rfl)
    try simp only [Act.put, List.setIfInBounds_toArray, List.set_cons_zero, List.set_cons_succ]
    refine wpAnyH_take (i := 21) (oi := ⟨some 28, .move (.tmp 27), 4, "law.go:23", #[⟨20, .data⟩, ⟨18, .chain⟩], none⟩) (v := ?_) rfl (by kernel_rfl) (by kernel_rfl) (by kernel_rfl) (fun _ _ _ h => h) (Or.inl ⟨by rfl, ?hyr1x21q93⟩) (by assumption) ?restr1x21q93
    case hyr1x21q93 => intro wq hSw; (go_simp); (try with_reducible rfl)
    try simp only [Act.put, List.setIfInBounds_toArray, List.set_cons_zero, List.set_cons_succ]
    refine wpAnyH_take (i := 22) (oi := ⟨some 29, .move (.tmp 2), 36, "law.go:23", #[⟨21, .guard⟩], some (21, true)⟩) (v := ?_) rfl (by kernel_rfl) (by kernel_rfl) (by kernel_rfl) (fun _ _ _ h => h) (Or.inl ⟨by rfl, ?hyr1x22q96⟩) (by assumption) ?restr1x22q96
    case hyr1x22q96 => intro wq hSw; (go_simp); (try with_reducible rfl)
    try simp only [Act.put, List.setIfInBounds_toArray, List.set_cons_zero, List.set_cons_succ]
    refine wpAnyH_take (i := 23) (oi := ⟨some 30, .call { callee := .builtin .len, args := #[.tmp 29], argTypes := #[36] }, 3, "law.go:23", #[⟨22, .data⟩, ⟨21, .guard⟩], some (21, true)⟩) (v := ?_) rfl (by kernel_rfl) (by kernel_rfl) (by kernel_rfl) (fun _ _ _ h => h) (Or.inl ⟨by rfl, ?hyr1x23q99⟩) (by assumption) ?restr1x23q99
    case hyr1x23q99 => intro wq hSw; (go_simp); (try with_reducible rfl)
    try simp only [Act.put, List.setIfInBounds_toArray, List.set_cons_zero, List.set_cons_succ]
    refine wpAnyH_take (i := 24) (oi := ⟨some 31, .binOp .eql 3 (.tmp 30) (.const (.int .i64 5)) 3, 4, "law.go:23", #[⟨23, .data⟩, ⟨21, .guard⟩], some (21, true)⟩) (v := ?_) rfl (by kernel_rfl) (by kernel_rfl) (by kernel_rfl) (fun _ _ _ h => h) (Or.inl ⟨by rfl, ?hyr1x24q102⟩) (by assumption) ?restr1x24q102
    case hyr1x24q102 => intro wq hSw; (go_simp); (try with_reducible rfl)
    try simp only [Act.put, List.setIfInBounds_toArray, List.set_cons_zero, List.set_cons_succ]
    refine wpAnyH_take (i := 25) (oi := ⟨some 32, .pick (.tmp 28) (.tmp 31) (.const (.bool false)), 4, "law.go:23", #[⟨21, .data⟩, ⟨24, .data⟩], none⟩) (v := ?_) rfl (by kernel_rfl) (by kernel_rfl) (by kernel_rfl) (fun _ _ _ h => h) (Or.inl ⟨by rfl, ?hyr1x25q105⟩) (by assumption) ?restr1x25q105
    case hyr1x25q105 => intro wq hSw; (go_simp); (try with_reducible rfl)
    try simp only [Act.put, List.setIfInBounds_toArray, List.set_cons_zero, List.set_cons_succ]
    refine wpAnyH_take (i := 26) (oi := ⟨some 33, .move (.tmp 32), 4, "law.go:23", #[⟨25, .data⟩, ⟨21, .chain⟩], none⟩) (v := ?_) rfl (by kernel_rfl) (by kernel_rfl) (by kernel_rfl) (fun _ _ _ h => h) (Or.inl ⟨by rfl, ?hyr1x26q108⟩) (by assumption) ?restr1x26q108
    case hyr1x26q108 => intro wq hSw; (go_simp); (try with_reducible rfl)
    try simp only [Act.put, List.setIfInBounds_toArray, List.set_cons_zero, List.set_cons_succ]
    refine wpAnyH_take (i := 27) (oi := ⟨some 34, .move (.tmp 2), 36, "law.go:23", #[⟨26, .guard⟩], some (26, true)⟩) (v := ?_) rfl (by kernel_rfl) (by kernel_rfl) (by kernel_rfl) (fun _ _ _ h => h) (Or.inl ⟨by rfl, ?hyr1x27q111⟩) (by assumption) ?restr1x27q111
    case hyr1x27q111 => intro wq hSw; (go_simp); (try with_reducible rfl)
    try simp only [Act.put, List.setIfInBounds_toArray, List.set_cons_zero, List.set_cons_succ]
    refine wpAnyH_take (i := 28) (oi := ⟨some 35, .indexAddr 36 (.tmp 34) (.const (.int .i64 2)), 0, "law.go:23", #[⟨27, .data⟩, ⟨26, .guard⟩], some (26, true)⟩) (v := ?_) rfl (by kernel_rfl) (by kernel_rfl) (by kernel_rfl) (fun _ _ _ h => h) (Or.inl ⟨by rfl, ?hyr1x28q114⟩) (by assumption) ?restr1x28q114
    case hyr1x28q114 => intro wq hSw; (go_simp); (try with_reducible rfl)
    try simp only [Act.put, List.setIfInBounds_toArray, List.set_cons_zero, List.set_cons_succ]
    refine wpAnyH_take (i := 29) (oi := ⟨some 36, .fieldAddr 41 (.tmp 35) 2, 0, "law.go:23", #[⟨28, .data⟩, ⟨26, .guard⟩], some (26, true)⟩) (v := ?_) rfl (by kernel_rfl) (by kernel_rfl) (by kernel_rfl) (fun _ _ _ h => h) (Or.inl ⟨by rfl, ?hyr1x29q117⟩) (by assumption) ?restr1x29q117
    case hyr1x29q117 => intro wq hSw; (go_simp); (try with_reducible rfl)
    try simp only [Act.put, List.setIfInBounds_toArray, List.set_cons_zero, List.set_cons_succ]
    refine wpAnyH_take (i := 30) (oi := ⟨some 37, .load 3 (.tmp 36), 3, "law.go:23", #[⟨29, .data⟩, ⟨26, .guard⟩], some (26, true)⟩) (v := ?_) rfl (by kernel_rfl) (by kernel_rfl) (by kernel_rfl) (fun _ _ _ h => h) (Or.inl ⟨by rfl, ?hyr1x30q120⟩) (by assumption) ?restr1x30q120
    case hyr1x30q120 => intro wq hSw; (have cq := P2.out wq hSw; go_simp); (try with_reducible rfl)
    try simp only [Act.put, List.setIfInBounds_toArray, List.set_cons_zero, List.set_cons_succ]
    refine wpAnyH_take (i := 31) (oi := ⟨some 38, .binOp .eql 3 (.tmp 37) (.const (.int .i64 2)) 3, 4, "law.go:23", #[⟨30, .data⟩, ⟨26, .guard⟩], some (26, true)⟩) (v := ?_) rfl (by kernel_rfl) (by kernel_rfl) (by kernel_rfl) (fun _ _ _ h => h) (Or.inl ⟨by rfl, ?hyr1x31q123⟩) (by assumption) ?restr1x31q123
    case hyr1x31q123 => intro wq hSw; (go_simp); (try with_reducible rfl)
    try simp only [Act.put, List.setIfInBounds_toArray, List.set_cons_zero, List.set_cons_succ]
    refine wpAnyH_take (i := 32) (oi := ⟨some 39, .pick (.tmp 33) (.tmp 38) (.const (.bool false)), 4, "law.go:23", #[⟨26, .data⟩, ⟨31, .data⟩], none⟩) (v := ?_) rfl (by kernel_rfl) (by kernel_rfl) (by kernel_rfl) (fun _ _ _ h => h) (Or.inl ⟨by rfl, ?hyr1x32q126⟩) (by assumption) ?restr1x32q126
    case hyr1x32q126 => intro wq hSw; (go_simp); (try with_reducible rfl)
    try simp only [Act.put, List.setIfInBounds_toArray, List.set_cons_zero, List.set_cons_succ]
    refine wpAnyH_take (i := 33) (oi := ⟨some 40, .move (.tmp 39), 4, "law.go:23", #[⟨32, .data⟩, ⟨26, .chain⟩], none⟩) (v := ?_) rfl (by kernel_rfl) (by kernel_rfl) (by kernel_rfl) (fun _ _ _ h => h) (Or.inl ⟨by rfl, ?hyr1x33q129⟩) (by assumption) ?restr1x33q129
    case hyr1x33q129 => intro wq hSw; (go_simp); (try with_reducible rfl)
    try simp only [Act.put, List.setIfInBounds_toArray, List.set_cons_zero, List.set_cons_succ]
    refine wpAnyH_take (i := 34) (oi := ⟨some 41, .move (.tmp 2), 36, "law.go:23", #[⟨33, .guard⟩], some (33, true)⟩) (v := ?_) rfl (by kernel_rfl) (by kernel_rfl) (by kernel_rfl) (fun _ _ _ h => h) (Or.inl ⟨by rfl, ?hyr1x34q132⟩) (by assumption) ?restr1x34q132
    case hyr1x34q132 => intro wq hSw; (go_simp); (try with_reducible rfl)
    try simp only [Act.put, List.setIfInBounds_toArray, List.set_cons_zero, List.set_cons_succ]
    refine wpAnyH_take (i := 35) (oi := ⟨some 42, .indexAddr 36 (.tmp 41) (.const (.int .i64 2)), 0, "law.go:23", #[⟨34, .data⟩, ⟨33, .guard⟩], some (33, true)⟩) (v := ?_) rfl (by kernel_rfl) (by kernel_rfl) (by kernel_rfl) (fun _ _ _ h => h) (Or.inl ⟨by rfl, ?hyr1x35q135⟩) (by assumption) ?restr1x35q135
    case hyr1x35q135 => intro wq hSw; (go_simp); (try with_reducible rfl)
    try simp only [Act.put, List.setIfInBounds_toArray, List.set_cons_zero, List.set_cons_succ]
    refine wpAnyH_take (i := 36) (oi := ⟨some 43, .fieldAddr 41 (.tmp 42) 4, 0, "law.go:23", #[⟨35, .data⟩, ⟨33, .guard⟩], some (33, true)⟩) (v := ?_) rfl (by kernel_rfl) (by kernel_rfl) (by kernel_rfl) (fun _ _ _ h => h) (Or.inl ⟨by rfl, ?hyr1x36q138⟩) (by assumption) ?restr1x36q138
    case hyr1x36q138 => intro wq hSw; (go_simp); (try with_reducible rfl)
    try simp only [Act.put, List.setIfInBounds_toArray, List.set_cons_zero, List.set_cons_succ]
    refine wpAnyH_take (i := 37) (oi := ⟨some 44, .load 39 (.tmp 43), 39, "law.go:23", #[⟨36, .data⟩, ⟨33, .guard⟩], some (33, true)⟩) (v := ?_) rfl (by kernel_rfl) (by kernel_rfl) (by kernel_rfl) (fun _ _ _ h => h) (Or.inl ⟨by rfl, ?hyr1x37q141⟩) (by assumption) ?restr1x37q141
    case hyr1x37q141 => intro wq hSw; (have cq := P4.out wq hSw; go_simp); (try with_reducible rfl)
    try simp only [Act.put, List.setIfInBounds_toArray, List.set_cons_zero, List.set_cons_succ]
    refine wpAnyH_take (i := 38) (oi := ⟨some 45, .call { callee := .builtin .len, args := #[.tmp 44], argTypes := #[39] }, 3, "law.go:23", #[⟨37, .data⟩, ⟨33, .guard⟩], some (33, true)⟩) (v := ?_) rfl (by kernel_rfl) (by kernel_rfl) (by kernel_rfl) (fun _ _ _ h => h) (Or.inl ⟨by rfl, ?hyr1x38q144⟩) (by assumption) ?restr1x38q144
    case hyr1x38q144 => intro wq hSw; (go_simp); (try with_reducible rfl)
    try simp only [Act.put, List.setIfInBounds_toArray, List.set_cons_zero, List.set_cons_succ]
    refine wpAnyH_take (i := 39) (oi := ⟨some 46, .binOp .eql 3 (.tmp 45) (.const (.int .i64 1)) 3, 4, "law.go:23", #[⟨38, .data⟩, ⟨33, .guard⟩], some (33, true)⟩) (v := ?_) rfl (by kernel_rfl) (by kernel_rfl) (by kernel_rfl) (fun _ _ _ h => h) (Or.inl ⟨by rfl, ?hyr1x39q147⟩) (by assumption) ?restr1x39q147
    case hyr1x39q147 => intro wq hSw; (go_simp); (try with_reducible rfl)
    try simp only [Act.put, List.setIfInBounds_toArray, List.set_cons_zero, List.set_cons_succ]
    refine wpAnyH_take (i := 40) (oi := ⟨some 47, .pick (.tmp 40) (.tmp 46) (.const (.bool false)), 4, "law.go:23", #[⟨33, .data⟩, ⟨39, .data⟩], none⟩) (v := ?_) rfl (by kernel_rfl) (by kernel_rfl) (by kernel_rfl) (fun _ _ _ h => h) (Or.inl ⟨by rfl, ?hyr1x40q150⟩) (by assumption) ?restr1x40q150
    case hyr1x40q150 => intro wq hSw; (go_simp); (try with_reducible rfl)
    try simp only [Act.put, List.setIfInBounds_toArray, List.set_cons_zero, List.set_cons_succ]
    refine wpAnyH_take (i := 41) (oi := ⟨some 48, .move (.tmp 47), 4, "law.go:23", #[⟨40, .data⟩, ⟨33, .chain⟩], none⟩) (v := ?_) rfl (by kernel_rfl) (by kernel_rfl) (by kernel_rfl) (fun _ _ _ h => h) (Or.inl ⟨by rfl, ?hyr1x41q153⟩) (by assumption) ?restr1x41q153
    case hyr1x41q153 => intro wq hSw; (go_simp); (try with_reducible rfl)
    try simp only [Act.put, List.setIfInBounds_toArray, List.set_cons_zero, List.set_cons_succ]
    refine wpAnyH_take (i := 42) (oi := ⟨some 49, .move (.tmp 2), 36, "law.go:23", #[⟨41, .guard⟩], some (41, true)⟩) (v := ?_) rfl (by kernel_rfl) (by kernel_rfl) (by kernel_rfl) (fun _ _ _ h => h) (Or.inl ⟨by rfl, ?hyr1x42q156⟩) (by assumption) ?restr1x42q156
    case hyr1x42q156 => intro wq hSw; (go_simp); (try with_reducible rfl)
    try simp only [Act.put, List.setIfInBounds_toArray, List.set_cons_zero, List.set_cons_succ]
    refine wpAnyH_take (i := 43) (oi := ⟨some 50, .indexAddr 36 (.tmp 49) (.const (.int .i64 2)), 0, "law.go:23", #[⟨42, .data⟩, ⟨41, .guard⟩], some (41, true)⟩) (v := ?_) rfl (by kernel_rfl) (by kernel_rfl) (by kernel_rfl) (fun _ _ _ h => h) (Or.inl ⟨by rfl, ?hyr1x43q159⟩) (by assumption) ?restr1x43q159
    case hyr1x43q159 => intro wq hSw; (go_simp); (try with_reducible rfl)
    try simp only [Act.put, List.setIfInBounds_toArray, List.set_cons_zero, List.set_cons_succ]
    refine wpAnyH_take (i := 44) (oi := ⟨some 51, .fieldAddr 41 (.tmp 50) 4, 0, "law.go:23", #[⟨43, .data⟩, ⟨41, .guard⟩], some (41, true)⟩) (v := ?_) rfl (by kernel_rfl) (by kernel_rfl) (by kernel_rfl) (fun _ _ _ h => h) (Or.inl ⟨by rfl, ?hyr1x44q162⟩) (by assumption) ?restr1x44q162
    case hyr1x44q162 => intro wq hSw; (go_simp); (try with_reducible rfl)
    try simp only [Act.put, List.setIfInBounds_toArray, List.set_cons_zero, List.set_cons_succ]
    refine wpAnyH_take (i := 45) (oi := ⟨some 52, .load 39 (.tmp 51), 39, "law.go:23", #[⟨44, .data⟩, ⟨41, .guard⟩], some (41, true)⟩) (v := ?_) rfl (by kernel_rfl) (by kernel_rfl) (by kernel_rfl) (fun _ _ _ h => h) (Or.inl ⟨by rfl, ?hyr1x45q165⟩) (by assumption) ?restr1x45q165
    case hyr1x45q165 => intro wq hSw; (have cq := P4.out wq hSw; go_simp); (try with_reducible rfl)
    try simp only [Act.put, List.setIfInBounds_toArray, List.set_cons_zero, List.set_cons_succ]
    refine wpAnyH_take (i := 46) (oi := ⟨some 53, .indexAddr 39 (.tmp 52) (.const (.int .i64 0)), 0, "law.go:23", #[⟨45, .data⟩, ⟨41, .guard⟩], some (41, true)⟩) (v := ?_) rfl (by kernel_rfl) (by kernel_rfl) (by kernel_rfl) (fun _ _ _ h => h) (Or.inl ⟨by rfl, ?hyr1x46q168⟩) (by assumption) ?restr1x46q168
    case hyr1x46q168 => intro wq hSw; (go_simp); (try with_reducible rfl)
    try simp only [Act.put, List.setIfInBounds_toArray, List.set_cons_zero, List.set_cons_succ]
    refine wpAnyH_take (i := 47) (oi := ⟨some 54, .fieldAddr 77 (.tmp 53) 0, 0, "law.go:23", #[⟨46, .data⟩, ⟨41, .guard⟩], some (41, true)⟩) (v := ?_) rfl (by kernel_rfl) (by kernel_rfl) (by kernel_rfl) (fun _ _ _ h => h) (Or.inl ⟨by rfl, ?hyr1x47q171⟩) (by assumption) ?restr1x47q171
    case hyr1x47q171 => intro wq hSw; (go_simp); (try with_reducible rfl)
    try simp only [Act.put, List.setIfInBounds_toArray, List.set_cons_zero, List.set_cons_succ]
    refine wpAnyH_take (i := 48) (oi := ⟨some 55, .load 3 (.tmp 54), 3, "law.go:23", #[⟨47, .data⟩, ⟨41, .guard⟩], some (41, true)⟩) (v := ?_) rfl (by kernel_rfl) (by kernel_rfl) (by kernel_rfl) (fun _ _ _ h => h) (Or.inl ⟨by rfl, ?hyr1x48q174⟩) (by assumption) ?restr1x48q174
    case hyr1x48q174 => intro wq hSw; (have cq := Q0.out wq hSw; go_simp); (try with_reducible rfl)
    try simp only [Act.put, List.setIfInBounds_toArray, List.set_cons_zero, List.set_cons_succ]
    refine wpAnyH_take (i := 49) (oi := ⟨some 56, .binOp .eql 3 (.tmp 55) (.const (.int .i64 1)) 3, 4, "law.go:23", #[⟨48, .data⟩, ⟨41, .guard⟩], some (41, true)⟩) (v := ?_) rfl (by kernel_rfl) (by kernel_rfl) (by kernel_rfl) (fun _ _ _ h => h) (Or.inl ⟨by rfl, ?hyr1x49q177⟩) (by assumption) ?restr1x49q177
    case hyr1x49q177 => intro wq hSw; (go_simp); (try with_reducible rfl)
    try simp only [Act.put, List.setIfInBounds_toArray, List.set_cons_zero, List.set_cons_succ]
    refine wpAnyH_take (i := 50) (oi := ⟨some 57, .pick (.tmp 48) (.tmp 56) (.const (.bool false)), 4, "law.go:23", #[⟨41, .data⟩, ⟨49, .data⟩], none⟩) (v := ?_) rfl (by kernel_rfl) (by kernel_rfl) (by kernel_rfl) (fun _ _ _ h => h) (Or.inl ⟨by rfl, ?hyr1x50q180⟩) (by assumption) ?restr1x50q180
    case hyr1x50q180 => intro wq hSw; (go_simp); (try with_reducible rfl)
    try simp only [Act.put, List.setIfInBounds_toArray, List.set_cons_zero, List.set_cons_succ]
    refine wpAnyH_take (i := 51) (oi := ⟨some 58, .move (.tmp 57), 4, "law.go:23", #[⟨50, .data⟩, ⟨41, .chain⟩], none⟩) (v := ?_) rfl (by kernel_rfl) (by kernel_rfl) (by kernel_rfl) (fun _ _ _ h => h) (Or.inl ⟨by rfl, ?hyr1x51q183⟩) (by assumption) ?restr1x51q183
    case hyr1x51q183 => intro wq hSw; (go_simp); (try with_reducible rfl)
    try simp only [Act.put, List.setIfInBounds_toArray, List.set_cons_zero, List.set_cons_succ]
    refine wpAnyH_take (i := 53) (oi := ⟨some 60, .move (.tmp 2), 36, "law.go:23", #[⟨51, .guard⟩], some (51, true)⟩) (v := ?_) rfl (by kernel_rfl) (by kernel_rfl) (by kernel_rfl) (fun _ _ _ h => h) (Or.inl ⟨by rfl, ?hyr1x53q186⟩) (by assumption) ?restr1x53q186
    case hyr1x53q186 => intro wq hSw; (go_simp); (try with_reducible rfl)
    try simp only [Act.put, List.setIfInBounds_toArray, List.set_cons_zero, List.set_cons_succ]
    refine wpAnyH_ready (rs := [52]) (by kernel_rfl) (by simp) ?_
    refine AllReadyH.cons (o := ⟨some 59, .call { callee := .value (.func 57), args := #[], argTypes := #[] }, 23, "law.go:23", #[⟨51, .chain⟩, ⟨51, .guard⟩], some (51, true)⟩) rfl (fun K hK => ?_) AllReadyH.nil
    go_simp
    (with_reducible refine (five_x _).mono ?_)
    rintro e w7 ⟨a5, rfl, s5, kk⟩
    replace hHeld := hHeld.nx kk
    clear kk
    refine hK.out _ _ (hHeld) (fun hHeld => ?_)
    clear hK K
    try simp only [Act.put, List.setIfInBounds_toArray, List.set_cons_zero, List.set_cons_succ]
    refine wpAnyH_ready (rs := [54]) (by kernel_rfl) (by simp) ?_
    refine AllReadyH.cons (o := ⟨some 61, .call { callee := .value (.func 22), args := #[.tmp 59, .tmp 60], argTypes := #[23, 36] }, 4, "law.go:23", #[⟨52, .data⟩, ⟨53, .data⟩, ⟨52, .chain⟩, ⟨51, .guard⟩], some (51, true)⟩) rfl (fun K hK => ?_) AllReadyH.nil
    go_simp
    (with_reducible refine (connected_p _ _ _ fiveN _ _ _ _ _ s5 (by omega) (by omega) (by unfold maxLen; omega) (P.out.nx hHeld) (by omega) five_small).mono ?_)
    rintro e w8 ⟨rfl, kk⟩
    rw [five_conn]
    replace hHeld := hHeld.nx kk
    clear kk s5
    refine hK.out _ _ (hHeld) (fun hHeld => ?_)
    clear hK K
    try simp only [Act.put, List.setIfInBounds_toArray, List.set_cons_zero, List.set_cons_succ]
    refine wpAnyH_take (i := 55) (oi := ⟨some 62, .pick (.tmp 58) (.tmp 61) (.const (.bool false)), 4, "law.go:23", #[⟨51, .data⟩, ⟨54, .data⟩], none⟩) (v := ?_) rfl (by kernel_rfl) (by kernel_rfl) (by kernel_rfl) (fun _ _ _ h => h) (Or.inl ⟨by rfl, ?hyr1x55q210⟩) (by assumption) ?restr1x55q210
    case hyr1x55q210 => intro wq hSw; (go_simp); (try with_reducible rfl)
    try simp only [Act.put, List.setIfInBounds_toArray, List.set_cons_zero, List.set_cons_succ]
    refine wpAnyH_take (i := 56) (oi := ⟨some 63, .move (.tmp 62), 4, "law.go:23", #[⟨55, .data⟩, ⟨54, .chain⟩], none⟩) (v := ?_) rfl (by kernel_rfl) (by kernel_rfl) (by kernel_rfl) (fun _ _ _ h => h) (Or.inl ⟨by rfl, ?hyr1x56q213⟩) (by assumption) ?restr1x56q213
    case hyr1x56q213 => intro wq hSw; (go_simp); (try with_reducible rfl)
    try simp only [Act.put, List.setIfInBounds_toArray, List.set_cons_zero, List.set_cons_succ]
    refine wpAnyH_take (i := 58) (oi := ⟨some 65, .move (.tmp 2), 36, "law.go:23", #[⟨56, .guard⟩], some (56, true)⟩) (v := ?_) rfl (by kernel_rfl) (by kernel_rfl) (by kernel_rfl) (fun _ _ _ h => h) (Or.inl ⟨by rfl, ?hyr1x58q216⟩) (by assumption) ?restr1x58q216
    case hyr1x58q216 => intro wq hSw; (go_simp); (try with_reducible rfl)
    try simp only [Act.put, List.setIfInBounds_toArray, List.set_cons_zero, List.set_cons_succ]
    refine wpAnyH_take (i := 59) (oi := ⟨some 66, .indexAddr 36 (.tmp 65) (.const (.int .i64 0)), 0, "law.go:23", #[⟨58, .data⟩, ⟨56, .guard⟩], some (56, true)⟩) (v := ?_) rfl (by kernel_rfl) (by kernel_rfl) (by kernel_rfl) (fun _ _ _ h => h) (Or.inl ⟨by rfl, ?hyr1x59q219⟩) (by assumption) ?restr1x59q219
    case hyr1x59q219 => intro wq hSw; (go_simp); (try with_reducible rfl)
    try simp only [Act.put, List.setIfInBounds_toArray, List.set_cons_zero, List.set_cons_succ]
    refine wpAnyH_take (i := 60) (oi := ⟨some 67, .load 41 (.tmp 66), 41, "law.go:23", #[⟨59, .data⟩, ⟨56, .guard⟩], some (56, true)⟩) (v := ?_) rfl (by kernel_rfl) (by kernel_rfl) (by kernel_rfl) (fun _ _ _ h => h) (Or.inl ⟨by rfl, ?hyr1x60q222⟩) (by assumption) ?restr1x60q222
    case hyr1x60q222 => intro wq hSw; (have c0 := R0.out wq hSw; have c1 := R1.out wq hSw; have c2 := R2.out wq hSw; have c3 := R3.out wq hSw; have c4 := R4.out wq hSw; go_simp); (try with_reducible rfl)
    try simp only [Act.put, List.setIfInBounds_toArray, List.set_cons_zero, List.set_cons_succ]
    refine wpAnyH_ready (rs := [57]) (by kernel_rfl) (by simp) ?_
    refine AllReadyH.cons (o := ⟨some 64, .call { callee := .value (.func 57), args := #[], argTypes := #[] }, 23, "law.go:23", #[⟨56, .chain⟩, ⟨56, .guard⟩], some (56, true)⟩) rfl (fun K hK => ?_) AllReadyH.nil
    go_simp
    (with_reducible refine (five_x _).mono ?_)
    rintro e w9 ⟨a5, rfl, s5, kk⟩
    replace hHeld := hHeld.nx kk
    clear kk
    refine hK.out _ _ (hHeld) (fun hHeld => ?_)
    clear hK K
    try simp only [Act.put, List.setIfInBounds_toArray, List.set_cons_zero, List.set_cons_succ]
    refine wpAnyH_ready (rs := [61]) (by kernel_rfl) (by simp) ?_
    refine AllReadyH.cons (o := ⟨some 68, .call { callee := .value (.func 25), args := #[.tmp 64, .tmp 67], argTypes := #[23, 41] }, 22, "law.go:23", #[⟨57, .data⟩, ⟨60, .data⟩, ⟨57, .chain⟩, ⟨56, .guard⟩], some (56, true)⟩) rfl (fun K hK => ?_) AllReadyH.nil
    go_simp
    (with_reducible refine (refs_p _ _ _ fiveN y' _ _ _ _ _ _ _ s5 (by omega) (by omega) (by unfold maxLen; omega) (r1.out.nx hHeld) (r4.out.nx hHeld) hl1 hl4).mono ?_)
    rintro e w10 ⟨v, rfl, own, kk⟩
    obtain ⟨aR, cR, rfl, R, _, _, _⟩ := own.slf (fun _ => rfl)
    have hR := hy1.out
    generalize (refsN fiveN y').length = nr at R hR ⊢
    have hR' : (0 : Int) < (nr : Int) := by omega
    replace hHeld := hHeld.nx kk
    clear kk s5 own R
    refine hK.out _ _ (hHeld) (fun hHeld => ?_)
    clear hK K
    try simp only [Act.put, List.setIfInBounds_toArray, List.set_cons_zero, List.set_cons_succ]
    refine wpAnyH_take (i := 62) (oi := ⟨some 69, .call { callee := .builtin .len, args := #[.tmp 68], argTypes := #[22] }, 3, "law.go:23", #[⟨61, .data⟩, ⟨56, .guard⟩], some (56, true)⟩) (v := ?_) rfl (by kernel_rfl) (by kernel_rfl) (by kernel_rfl) (fun _ _ _ h => h) (Or.inl ⟨by rfl, ?hyr1x62q249⟩) (by assumption) ?restr1x62q249
    case hyr1x62q249 => intro wq hSw; (go_simp); (try with_reducible rfl)
    try simp only [Act.put, List.setIfInBounds_toArray, List.set_cons_zero, List.set_cons_succ]
    refine wpAnyH_take (i := 63) (oi := ⟨some 70, .binOp .gtr 3 (.tmp 69) (.const (.int .i64 0)) 3, 4, "law.go:23", #[⟨62, .data⟩, ⟨56, .guard⟩], some (56, true)⟩) (v := ?_) rfl (by kernel_rfl) (by kernel_rfl) (by kernel_rfl) (fun _ _ _ h => h) (Or.inl ⟨by rfl, ?hyr1x63q252⟩) (by assumption) ?restr1x63q252
    case hyr1x63q252 => intro wq hSw; (go_simp); (try with_reducible rfl)
    try simp only [Act.put, List.setIfInBounds_toArray, List.set_cons_zero, List.set_cons_succ]
    refine wpAnyH_take (i := 64) (oi := ⟨some 71, .pick (.tmp 63) (.tmp 70) (.const (.bool false)), 4, "law.go:23", #[⟨56, .data⟩, ⟨63, .data⟩], none⟩) (v := ?_) rfl (by kernel_rfl) (by kernel_rfl) (by kernel_rfl) (fun _ _ _ h => h) (Or.inl ⟨by rfl, ?hyr1x64q255⟩) (by assumption) ?restr1x64q255
    case hyr1x64q255 => intro wq hSw; (go_simp); (try with_reducible rfl)
    try simp only [Act.put, List.setIfInBounds_toArray, List.set_cons_zero, List.set_cons_succ]
    refine wpAnyH_take (i := 65) (oi := ⟨some 72, .move (.tmp 71), 4, "law.go:23", #[⟨64, .data⟩, ⟨61, .chain⟩], none⟩) (v := ?_) rfl (by kernel_rfl) (by kernel_rfl) (by kernel_rfl) (fun _ _ _ h => h) (Or.inl ⟨by rfl, ?hyr1x65q258⟩) (by assumption) ?restr1x65q258
    case hyr1x65q258 => intro wq hSw; (go_simp); (try with_reducible rfl)
    try simp only [Act.put, List.setIfInBounds_toArray, List.set_cons_zero, List.set_cons_succ]
    refine wpAnyH_take (i := 66) (oi := ⟨some 73, .move (.tmp 2), 36, "law.go:23", #[⟨65, .guard⟩], some (65, true)⟩) (v := ?_) rfl (by kernel_rfl) (by kernel_rfl) (by kernel_rfl) (fun _ _ _ h => h) (Or.inl ⟨by rfl, ?hyr1x66q261⟩) (by assumption) ?restr1x66q261
    case hyr1x66q261 => intro wq hSw; (go_simp); (try with_reducible rfl)
    try simp only [Act.put, List.setIfInBounds_toArray, List.set_cons_zero, List.set_cons_succ]
    refine wpAnyH_ready (rs := [67]) (by kernel_rfl) (by simp) ?_
    refine AllReadyH.cons (o := ⟨some 74, .buildSlice 22 1 #[(0, .const (.int .i64 1))], 22, "law.go:23", #[⟨65, .guard⟩], some (65, true)⟩) rfl (fun K hK => ?_) AllReadyH.nil
    go_simp
    obtain ⟨gB, wB, hgB, hwB, SB, kk⟩ := litE hHeld 1
    rw [← hgB, ← hwB]
    clear hgB hwB
    replace hHeld := hHeld.nx kk
    clear kk
    refine hK.out _ _ (hHeld) (fun hHeld => ?_)
    clear hK K
    try simp only [Act.put, List.setIfInBounds_toArray, List.set_cons_zero, List.set_cons_succ]
    refine wpAnyH_ready (rs := [68]) (by kernel_rfl) (by simp) ?_
    refine AllReadyH.cons (o := ⟨some 75, .call { callee := .value (.func 55), args := #[.tmp 73, .tmp 74], argTypes := #[36, 22] }, 36, "law.go:23", #[⟨66, .data⟩, ⟨67, .data⟩, ⟨65, .chain⟩, ⟨65, .guard⟩], some (65, true)⟩) rfl (fun K hK => ?_) AllReadyH.nil
    go_simp
    (with_reducible refine (crash_p _ _ _ _ _ _ _ [1] _ (P.out.nx hHeld) (by omega) five_small2 SB (by omega)).mono ?_)
    rintro e w11 ⟨v, qs', rfl, own, kk⟩
    obtain ⟨aQ, cQ, rfl, Q, _, _, _⟩ := own.pl
    rw [five_crash]
    replace hHeld := hHeld.nx kk
    clear kk own Q SB
    refine hK.out _ _ (hHeld) (fun hHeld => ?_)
    clear hK K
    try simp only [Act.put, List.setIfInBounds_toArray, List.set_cons_zero, List.set_cons_succ]
    refine wpAnyH_take (i := 69) (oi := ⟨some 76, .call { callee := .builtin .len, args := #[.tmp 75], argTypes := #[36] }, 3, "law.go:23", #[⟨68, .data⟩, ⟨65, .guard⟩], some (65, true)⟩) (v := ?_) rfl (by kernel_rfl) (by kernel_rfl) (by kernel_rfl) (fun _ _ _ h => h) (Or.inl ⟨by rfl, ?hyr1x69q287⟩) (by assumption) ?restr1x69q287
    case hyr1x69q287 => intro wq hSw; (go_simp); (try with_reducible rfl)
    try simp only [Act.put, List.setIfInBounds_toArray, List.set_cons_zero, List.set_cons_succ]
    refine wpAnyH_take (i := 70) (oi := ⟨some 77, .binOp .eql 3 (.tmp 76) (.const (.int .i64 4)) 3, 4, "law.go:23", #[⟨69, .data⟩, ⟨65, .guard⟩], some (65, true)⟩) (v := ?_) rfl (by kernel_rfl) (by kernel_rfl) (by kernel_rfl) (fun _ _ _ h => h) (Or.inl ⟨by rfl, ?hyr1x70q290⟩) (by assumption) ?restr1x70q290
    case hyr1x70q290 => intro wq hSw; (go_simp); (try with_reducible rfl)
    try simp only [Act.put, List.setIfInBounds_toArray, List.set_cons_zero, List.set_cons_succ]
    refine wpAnyH_take (i := 71) (oi := ⟨some 78, .pick (.tmp 72) (.tmp 77) (.const (.bool false)), 4, "law.go:23", #[⟨65, .data⟩, ⟨70, .data⟩], none⟩) (v := ?_) rfl (by kernel_rfl) (by kernel_rfl) (by kernel_rfl) (fun _ _ _ h => h) (Or.inl ⟨by rfl, ?hyr1x71q293⟩) (by assumption) ?restr1x71q293
    case hyr1x71q293 => intro wq hSw; (go_simp); (try with_reducible rfl)
    try simp only [Act.put, List.setIfInBounds_toArray, List.set_cons_zero, List.set_cons_succ]
    refine wpAnyH_take (i := 72) (oi := ⟨some 0, .assign (.tmp 78), 4, "law.go:23", (#[⟨71, .data⟩, ⟨68, .chain⟩, ⟨0, .phase⟩, ⟨1, .phase⟩, ⟨2, .phase⟩, ⟨3, .phase⟩, ⟨4, .phase⟩, ⟨5, .phase⟩, ⟨6, .phase⟩, ⟨7, .phase⟩, ⟨8, .phase⟩, ⟨9, .phase⟩, ⟨10, .phase⟩, ⟨11, .phase⟩, ⟨12, .phase⟩, ⟨13, .phase⟩, ⟨14, .phase⟩, ⟨15, .phase⟩, ⟨16, .phase⟩, ⟨17, .phase⟩, ⟨18, .phase⟩, ⟨19, .phase⟩, ⟨20, .phase⟩, ⟨21, .phase⟩, ⟨22, .phase⟩, ⟨23, .phase⟩, ⟨24, .phase⟩, ⟨25, .phase⟩, ⟨26, .phase⟩, ⟨27, .phase⟩, ⟨28, .phase⟩, ⟨29, .phase⟩, ⟨30, .phase⟩, ⟨31, .phase⟩, ⟨32, .phase⟩, ⟨33, .phase⟩, ⟨34, .phase⟩, ⟨35, .phase⟩, ⟨36, .phase⟩, ⟨37, .phase⟩, ⟨38, .phase⟩, ⟨39, .phase⟩, ⟨40, .phase⟩, ⟨41, .phase⟩, ⟨42, .phase⟩, ⟨43, .phase⟩, ⟨44, .phase⟩, ⟨45, .phase⟩, ⟨46, .phase⟩, ⟨47, .phase⟩] ++ #[⟨48, .phase⟩, ⟨49, .phase⟩, ⟨50, .phase⟩, ⟨51, .phase⟩, ⟨52, .phase⟩, ⟨53, .phase⟩, ⟨54, .phase⟩, ⟨55, .phase⟩, ⟨56, .phase⟩, ⟨57, .phase⟩, ⟨58, .phase⟩, ⟨59, .phase⟩, ⟨60, .phase⟩, ⟨61, .phase⟩, ⟨62, .phase⟩, ⟨63, .phase⟩, ⟨64, .phase⟩, ⟨65, .phase⟩, ⟨66, .phase⟩, ⟨67, .phase⟩, ⟨68, .phase⟩, ⟨69, .phase⟩, ⟨70, .phase⟩, ⟨71, .phase⟩]), none⟩) (v := ?_) rfl (by kernel_rfl) (by kernel_rfl) (by kernel_rfl) (fun _ _ _ h => h) (Or.inl ⟨by rfl, ?hyr1x72q296⟩) (by assumption) ?restr1x72q296
    case hyr1x72q296 => intro wq hSw; (go_simp); (try with_reducible rfl)
    try simp only [Act.put, List.setIfInBounds_toArray, List.set_cons_zero, List.set_cons_succ]
    refine wpAnyH_done (by kernel_rfl) ?_ _
    have KE := K4.out.nx hHeld
    go_wp2_with fail
    go_ret
    exact ⟨rfl, KE⟩
  refine AllReadyH.cons (o := ⟨some 24, .buildSlice 22 2 #[(0, .const (.int .i64 2)), (1, .const (.int .i64 3))], 22, "law.go:23", #[⟨15, .guard⟩], some (15, true)⟩) rfl (fun K hK => ?_) AllReadyH.nil
  · go_simp
    obtain ⟨gB, wB, hgB, hwB, SB, kk, jj⟩ := lit2 hHeld 2 3
    rw [← hgB, ← hwB]
    clear hgB hwB jj
    (try replace s5 := s5.nx kk)
    replace hHeld := hHeld.nx kk
    clear kk
    refine hK.out _ _ (hHeld) (fun hHeld => ?_)
    clear hK K
    try simp only [Act.put, List.setIfInBounds_toArray, List.set_cons_zero, List.set_cons_succ]
    refine wpAnyH_ready (rs := [16]) (by kernel_rfl) (by simp) ?_
    refine AllReadyH.cons (o := ⟨some 23, .call { callee := .value (.func 57), args := #[], argTypes := #[] }, 23, "law.go:23", #[⟨15, .chain⟩, ⟨15, .guard⟩], some (15, true)⟩) rfl (fun K hK => ?_) AllReadyH.nil
    go_simp
    (with_reducible refine (five_x _).mono ?_)
    rintro e w5 ⟨a5, rfl, s5, kk⟩
    (try replace SB := SB.nx kk)
    replace hHeld := hHeld.nx kk
    clear kk
    refine hK.out _ _ (hHeld) (fun hHeld => ?_)
    clear hK K
    try simp only [Act.put, List.setIfInBounds_toArray, List.set_cons_zero, List.set_cons_succ]
    refine wpAnyH_ready (rs := [18]) (by kernel_rfl) (by simp) ?_
    refine AllReadyH.cons (o := ⟨some 25, .call { callee := .value (.func 53), args := #[.tmp 23, .tmp 24], argTypes := #[23, 22] }, 3, "law.go:23", #[⟨16, .data⟩, ⟨17, .data⟩, ⟨16, .chain⟩, ⟨15, .guard⟩], some (15, true)⟩) rfl (fun K hK => ?_) AllReadyH.nil
    go_simp
    (with_reducible refine (gap_p _ _ _ fiveN _ _ _ [2, 3] _ s5 (by omega) (by omega) (by unfold maxLen; omega) SB (by omega)).mono ?_)
    rintro e w6 ⟨rfl, kk⟩
    rw [five_gap]
    replace hHeld := hHeld.nx kk
    clear kk s5 SB
    refine hK.out _ _ (hHeld) (fun hHeld => ?_)
    clear hK K
    try simp only [Act.put, List.setIfInBounds_toArray, List.set_cons_zero, List.set_cons_succ]
    refine wpAnyH_take (i := 19) (oi := ⟨some 26, .binOp .eql 3 (.tmp 25) (.const (.int .i64 2)) 3, 4, "law.go:23", #[⟨18, .data⟩, ⟨15, .guard⟩], some (15, true)⟩) (v := ?_) rfl (by kernel_rfl) (by kernel_rfl) (by kernel_rfl) (fun _ _ _ h => h) (Or.inl ⟨by rfl, ?hyr1x19q334⟩) (by assumption) ?restr1x19q334
    case hyr1x19q334 => intro wq hSw; (go_simp); (try with_reducible rfl)
    try simp only [Act.put, List.setIfInBounds_toArray, List.set_cons_zero, List.set_cons_succ]
    refine wpAnyH_take (i := 20) (oi := ⟨some 27, .pick (.tmp 22) (.tmp 26) (.const (.bool false)), 4, "law.go:23", #[⟨15, .data⟩, ⟨19, .data⟩], none⟩) (v := ?_) rfl (by kernel_rfl) (by kernel_rfl) (by kernel_rfl) (fun _ _ _ h => h) (Or.inl ⟨by rfl, ?hyr1x20q337⟩) (by assumption) ?restr1x20q337
    case hyr1x20q337 => intro wq hSw; (go_simp); (try with_reducible rfl)
    try simp only [Act.put, List.setIfInBounds_toArray, List.set_cons_zero, List.set_cons_succ]
    refine wpAnyH_take (i := 21) (oi := ⟨some 28, .move (.tmp 27), 4, "law.go:23", #[⟨20, .data⟩, ⟨18, .chain⟩], none⟩) (v := ?_) rfl (by kernel_rfl) (by kernel_rfl) (by kernel_rfl) (fun _ _ _ h => h) (Or.inl ⟨by rfl, ?hyr1x21q340⟩) (by assumption) ?restr1x21q340
    case hyr1x21q340 => intro wq hSw; (go_simp); (try with_reducible rfl)
    try simp only [Act.put, List.setIfInBounds_toArray, List.set_cons_zero, List.set_cons_succ]
    refine wpAnyH_take (i := 22) (oi := ⟨some 29, .move (.tmp 2), 36, "law.go:23", #[⟨21, .guard⟩], some (21, true)⟩) (v := ?_) rfl (by kernel_rfl) (by kernel_rfl) (by kernel_rfl) (fun _ _ _ h => h) (Or.inl ⟨by rfl, ?hyr1x22q343⟩) (by assumption) ?restr1x22q343
    case hyr1x22q343 => intro wq hSw; (go_simp); (try with_reducible rfl)
    try simp only [Act.put, List.setIfInBounds_toArray, List.set_cons_zero, List.set_cons_succ]
    refine wpAnyH_take (i := 23) (oi := ⟨some 30, .call { callee := .builtin .len, args := #[.tmp 29], argTypes := #[36] }, 3, "law.go:23", #[⟨22, .data⟩, ⟨21, .guard⟩], some (21, true)⟩) (v := ?_) rfl (by kernel_rfl) (by kernel_rfl) (by kernel_rfl) (fun _ _ _ h => h) (Or.inl ⟨by rfl, ?hyr1x23q346⟩) (by assumption) ?restr1x23q346
    case hyr1x23q346 => intro wq hSw; (go_simp); (try with_reducible rfl)
    try simp only [Act.put, List.setIfInBounds_toArray, List.set_cons_zero, List.set_cons_succ]
    refine wpAnyH_take (i := 24) (oi := ⟨some 31, .binOp .eql 3 (.tmp 30) (.const (.int .i64 5)) 3, 4, "law.go:23", #[⟨23, .data⟩, ⟨21, .guard⟩], some (21, true)⟩) (v := ?_) rfl (by kernel_rfl) (by kernel_rfl) (by kernel_rfl) (fun _ _ _ h => h) (Or.inl ⟨by rfl, ?hyr1x24q349⟩) (by assumption) ?restr1x24q349
    case hyr1x24q349 => intro wq hSw; (go_simp); (try with_reducible rfl)
    try simp only [Act.put, List.setIfInBounds_toArray, List.set_cons_zero, List.set_cons_succ]
    refine wpAnyH_take (i := 25) (oi := ⟨some 32, .pick (.tmp 28) (.tmp 31) (.const (.bool false)), 4, "law.go:23", #[⟨21, .data⟩, ⟨24, .data⟩], none⟩) (v := ?_) rfl (by kernel_rfl) (by kernel_rfl) (by kernel_rfl) (fun _ _ _ h => h) (Or.inl ⟨by rfl, ?hyr1x25q352⟩) (by assumption) ?restr1x25q352
    case hyr1x25q352 => intro wq hSw; (go_simp); (try with_reducible rfl)
    try simp only [Act.put, List.setIfInBounds_toArray, List.set_cons_zero, List.set_cons_succ]
    refine wpAnyH_take (i := 26) (oi := ⟨some 33, .move (.tmp 32), 4, "law.go:23", #[⟨25, .data⟩, ⟨21, .chain⟩], none⟩) (v := ?_) rfl (by kernel_rfl) (by kernel_rfl) (by kernel_rfl) (fun _ _ _ h => h) (Or.inl ⟨by rfl, ?hyr1x26q355⟩) (by assumption) ?restr1x26q355
    case hyr1x26q355 => intro wq hSw; (go_simp); (try with_reducible rfl)
    try simp only [Act.put, List.setIfInBounds_toArray, List.set_cons_zero, List.set_cons_succ]
    refine wpAnyH_take (i := 27) (oi := ⟨some 34, .move (.tmp 2), 36, "law.go:23", #[⟨26, .guard⟩], some (26, true)⟩) (v := ?_) rfl (by kernel_rfl) (by kernel_rfl) (by kernel_rfl) (fun _ _ _ h => h) (Or.inl ⟨by rfl, ?hyr1x27q358⟩) (by assumption) ?restr1x27q358
    case hyr1x27q358 => intro wq hSw; (go_simp); (try with_reducible rfl)
    try simp only [Act.put, List.setIfInBounds_toArray, List.set_cons_zero, List.set_cons_succ]
    refine wpAnyH_take (i := 28) (oi := ⟨some 35, .indexAddr 36 (.tmp 34) (.const (.int .i64 2)), 0, "law.go:23", #[⟨27, .data⟩, ⟨26, .guard⟩], some (26, true)⟩) (v := ?_) rfl (by kernel_rfl) (by kernel_rfl) (by kernel_rfl) (fun _ _ _ h => h) (Or.inl ⟨by rfl, ?hyr1x28q361⟩) (by assumption) ?restr1x28q361
    case hyr1x28q361 => intro wq hSw; (go_simp); (try with_reducible rfl)
    try simp only [Act.put, List.setIfInBounds_toArray, List.set_cons_zero, List.set_cons_succ]
    refine wpAnyH_take (i := 29) (oi := ⟨some 36, .fieldAddr 41 (.tmp 35) 2, 0, "law.go:23", #[⟨28, .data⟩, ⟨26, .guard⟩], some (26, true)⟩) (v := ?_) rfl (by kernel_rfl) (by kernel_rfl) (by kernel_rfl) (fun _ _ _ h => h) (Or.inl ⟨by rfl, ?hyr1x29q364⟩) (by assumption) ?restr1x29q364
    case hyr1x29q364 => intro wq hSw; (go_simp); (try with_reducible rfl)
    try simp only [Act.put, List.setIfInBounds_toArray, List.set_cons_zero, List.set_cons_succ]
    refine wpAnyH_take (i := 30) (oi := ⟨some 37, .load 3 (.tmp 36), 3, "law.go:23", #[⟨29, .data⟩, ⟨26, .guard⟩], some (26, true)⟩) (v := ?_) rfl (by kernel_rfl) (by kernel_rfl) (by kernel_rfl) (fun _ _ _ h => h) (Or.inl ⟨by rfl, ?hyr1x30q367⟩) (by assumption) ?restr1x30q367
    case hyr1x30q367 => intro wq hSw; (have cq := P2.out wq hSw; go_simp); (try with_reducible rfl)
    try simp only [Act.put, List.setIfInBounds_toArray, List.set_cons_zero, List.set_cons_succ]
    refine wpAnyH_take (i := 31) (oi := ⟨some 38, .binOp .eql 3 (.tmp 37) (.const (.int .i64 2)) 3, 4, "law.go:23", #[⟨30, .data⟩, ⟨26, .guard⟩], some (26, true)⟩) (v := ?_) rfl (by kernel_rfl) (by kernel_rfl) (by kernel_rfl) (fun _ _ _ h => h) (Or.inl ⟨by rfl, ?hyr1x31q370⟩) (by assumption) ?restr1x31q370
    case hyr1x31q370 => intro wq hSw; (go_simp); (try with_reducible rfl)
    try simp only [Act.put, List.setIfInBounds_toArray, List.set_cons_zero, List.set_cons_succ]
    refine wpAnyH_take (i := 32) (oi := ⟨some 39, .pick (.tmp 33) (.tmp 38) (.const (.bool false)), 4, "law.go:23", #[⟨26, .data⟩, ⟨31, .data⟩], none⟩) (v := ?_) rfl (by kernel_rfl) (by kernel_rfl) (by kernel_rfl) (fun _ _ _ h => h) (Or.inl ⟨by rfl, ?hyr1x32q373⟩) (by assumption) ?restr1x32q373
    case hyr1x32q373 => intro wq hSw; (go_simp); (try with_reducible rfl)
    try simp only [Act.put, List.setIfInBounds_toArray, List.set_cons_zero, List.set_cons_succ]
    refine wpAnyH_take (i := 33) (oi := ⟨some 40, .move (.tmp 39), 4, "law.go:23", #[⟨32, .data⟩, ⟨26, .chain⟩], none⟩) (v := ?_) rfl (by kernel_rfl) (by kernel_rfl) (by kernel_rfl) (fun _ _ _ h => h) (Or.inl ⟨by rfl, ?hyr1x33q376⟩) (by assumption) ?restr1x33q376
    case hyr1x33q376 => intro wq hSw; (go_simp); (try with_reducible rfl)
    try simp only [Act.put, List.setIfInBounds_toArray, List.set_cons_zero, List.set_cons_succ]
    refine wpAnyH_take (i := 34) (oi := ⟨some 41, .move (.tmp 2), 36, "law.go:23", #[⟨33, .guard⟩], some (33, true)⟩) (v := ?_) rfl (by kernel_rfl) (by kernel_rfl) (by kernel_rfl) (fun _ _ _ h => h) (Or.inl ⟨by rfl, ?hyr1x34q379⟩) (by assumption) ?restr1x34q379
    case hyr1x34q379 => intro wq hSw; (go_simp); (try with_reducible rfl)
    try simp only [Act.put, List.setIfInBounds_toArray, List.set_cons_zero, List.set_cons_succ]
    refine wpAnyH_take (i := 35) (oi := ⟨some 42, .indexAddr 36 (.tmp 41) (.const (.int .i64 2)), 0, "law.go:23", #[⟨34, .data⟩, ⟨33, .guard⟩], some (33, true)⟩) (v := ?_) rfl (by kernel_rfl) (by kernel_rfl) (by kernel_rfl) (fun _ _ _ h => h) (Or.inl ⟨by rfl, ?hyr1x35q382⟩) (by assumption) ?restr1x35q382
    case hyr1x35q382 => intro wq hSw; (go_simp); (try with_reducible rfl)
    try simp only [Act.put, List.setIfInBounds_toArray, List.set_cons_zero, List.set_cons_succ]
    refine wpAnyH_take (i := 36) (oi := ⟨some 43, .fieldAddr 41 (.tmp 42) 4, 0, "law.go:23", #[⟨35, .data⟩, ⟨33, .guard⟩], some (33, true)⟩) (v := ?_) rfl (by kernel_rfl) (by kernel_rfl) (by kernel_rfl) (fun _ _ _ h => h) (Or.inl ⟨by rfl, ?hyr1x36q385⟩) (by assumption) ?restr1x36q385
    case hyr1x36q385 => intro wq hSw; (go_simp); (try with_reducible rfl)
    try simp only [Act.put, List.setIfInBounds_toArray, List.set_cons_zero, List.set_cons_succ]
    refine wpAnyH_take (i := 37) (oi := ⟨some 44, .load 39 (.tmp 43), 39, "law.go:23", #[⟨36, .data⟩, ⟨33, .guard⟩], some (33, true)⟩) (v := ?_) rfl (by kernel_rfl) (by kernel_rfl) (by kernel_rfl) (fun _ _ _ h => h) (Or.inl ⟨by rfl, ?hyr1x37q388⟩) (by assumption) ?restr1x37q388
    case hyr1x37q388 => intro wq hSw; (have cq := P4.out wq hSw; go_simp); (try with_reducible rfl)
    try simp only [Act.put, List.setIfInBounds_toArray, List.set_cons_zero, List.set_cons_succ]
    refine wpAnyH_take (i := 38) (oi := ⟨some 45, .call { callee := .builtin .len, args := #[.tmp 44], argTypes := #[39] }, 3, "law.go:23", #[⟨37, .data⟩, ⟨33, .guard⟩], some (33, true)⟩) (v := ?_) rfl (by kernel_rfl) (by kernel_rfl) (by kernel_rfl) (fun _ _ _ h => h) (Or.inl ⟨by rfl, ?hyr1x38q391⟩) (by assumption) ?restr1x38q391
    case hyr1x38q391 => intro wq hSw; (go_simp); (try with_reducible rfl)
    try simp only [Act.put, List.setIfInBounds_toArray, List.set_cons_zero, List.set_cons_succ]
    refine wpAnyH_take (i := 39) (oi := ⟨some 46, .binOp .eql 3 (.tmp 45) (.const (.int .i64 1)) 3, 4, "law.go:23", #[⟨38, .data⟩, ⟨33, .guard⟩], some (33, true)⟩) (v := ?_) rfl (by kernel_rfl) (by kernel_rfl) (by kernel_rfl) (fun _ _ _ h => h) (Or.inl ⟨by rfl, ?hyr1x39q394⟩) (by assumption) ?restr1x39q394
    case hyr1x39q394 => intro wq hSw; (go_simp); (try with_reducible rfl)
    try simp only [Act.put, List.setIfInBounds_toArray, List.set_cons_zero, List.set_cons_succ]
    refine wpAnyH_take (i := 40) (oi := ⟨some 47, .pick (.tmp 40) (.tmp 46) (.const (.bool false)), 4, "law.go:23", #[⟨33, .data⟩, ⟨39, .data⟩], none⟩) (v := ?_) rfl (by kernel_rfl) (by kernel_rfl) (by kernel_rfl) (fun _ _ _ h => h) (Or.inl ⟨by rfl, ?hyr1x40q397⟩) (by assumption) ?restr1x40q397
    case hyr1x40q397 => intro wq hSw; (go_simp); (try with_reducible rfl)
    try simp only [Act.put, List.setIfInBounds_toArray, List.set_cons_zero, List.set_cons_succ]
    refine wpAnyH_take (i := 41) (oi := ⟨some 48, .move (.tmp 47), 4, "law.go:23", #[⟨40, .data⟩, ⟨33, .chain⟩], none⟩) (v := ?_) rfl (by kernel_rfl) (by kernel_rfl) (by kernel_rfl) (fun _ _ _ h => h) (Or.inl ⟨by rfl, ?hyr1x41q400⟩) (by assumption) ?restr1x41q400
    case hyr1x41q400 => intro wq hSw; (go_simp); (try with_reducible rfl)
    try simp only [Act.put, List.setIfInBounds_toArray, List.set_cons_zero, List.set_cons_succ]
    refine wpAnyH_take (i := 42) (oi := ⟨some 49, .move (.tmp 2), 36, "law.go:23", #[⟨41, .guard⟩], some (41, true)⟩) (v := ?_) rfl (by kernel_rfl) (by kernel_rfl) (by kernel_rfl) (fun _ _ _ h => h) (Or.inl ⟨by rfl, ?hyr1x42q403⟩) (by assumption) ?restr1x42q403
    case hyr1x42q403 => intro wq hSw; (go_simp); (try with_reducible rfl)
    try simp only [Act.put, List.setIfInBounds_toArray, List.set_cons_zero, List.set_cons_succ]
    refine wpAnyH_take (i := 43) (oi := ⟨some 50, .indexAddr 36 (.tmp 49) (.const (.int .i64 2)), 0, "law.go:23", #[⟨42, .data⟩, ⟨41, .guard⟩], some (41, true)⟩) (v := ?_) rfl (by kernel_rfl) (by kernel_rfl) (by kernel_rfl) (fun _ _ _ h => h) (Or.inl ⟨by rfl, ?hyr1x43q406⟩) (by assumption) ?restr1x43q406
    case hyr1x43q406 => intro wq hSw; (go_simp); (try with_reducible rfl)
    try simp only [Act.put, List.setIfInBounds_toArray, List.set_cons_zero, List.set_cons_succ]
    refine wpAnyH_take (i := 44) (oi := ⟨some 51, .fieldAddr 41 (.tmp 50) 4, 0, "law.go:23", #[⟨43, .data⟩, ⟨41, .guard⟩], some (41, true)⟩) (v := ?_) rfl (by kernel_rfl) (by kernel_rfl) (by kernel_rfl) (fun _ _ _ h => h) (Or.inl ⟨by rfl, ?hyr1x44q409⟩) (by assumption) ?restr1x44q409
    case hyr1x44q409 => intro wq hSw; (go_simp); (try with_reducible rfl)
    try simp only [Act.put, List.setIfInBounds_toArray, List.set_cons_zero, List.set_cons_succ]
    refine wpAnyH_take (i := 45) (oi := ⟨some 52, .load 39 (.tmp 51), 39, "law.go:23", #[⟨44, .data⟩, ⟨41, .guard⟩], some (41, true)⟩) (v := ?_) rfl (by kernel_rfl) (by kernel_rfl) (by kernel_rfl) (fun _ _ _ h => h) (Or.inl ⟨by rfl, ?hyr1x45q412⟩) (by assumption) ?restr1x45q412
    case hyr1x45q412 => intro wq hSw; (have cq := P4.out wq hSw; go_simp); (try with_reducible rfl)
    try simp only [Act.put, List.setIfInBounds_toArray, List.set_cons_zero, List.set_cons_succ]
    refine wpAnyH_take (i := 46) (oi := ⟨some 53, .indexAddr 39 (.tmp 52) (.const (.int .i64 0)), 0, "law.go:23", #[⟨45, .data⟩, ⟨41, .guard⟩], some (41, true)⟩) (v := ?_) rfl (by kernel_rfl) (by kernel_rfl) (by kernel_rfl) (fun _ _ _ h => h) (Or.inl ⟨by rfl, ?hyr1x46q415⟩) (by assumption) ?restr1x46q415
    case hyr1x46q415 => intro wq hSw; (go_simp); (try with_reducible rfl)
    try simp only [Act.put, List.setIfInBounds_toArray, List.set_cons_zero, List.set_cons_succ]
    refine wpAnyH_take (i := 47) (oi := ⟨some 54, .fieldAddr 77 (.tmp 53) 0, 0, "law.go:23", #[⟨46, .data⟩, ⟨41, .guard⟩], some (41, true)⟩) (v := ?_) rfl (by kernel_rfl) (by kernel_rfl) (by kernel_rfl) (fun _ _ _ h => h) (Or.inl ⟨by rfl, ?hyr1x47q418⟩) (by assumption) ?restr1x47q418
    case hyr1x47q418 => intro wq hSw; (go_simp); (try with_reducible rfl)
    try simp only [Act.put, List.setIfInBounds_toArray, List.set_cons_zero, List.set_cons_succ]
    refine wpAnyH_take (i := 48) (oi := ⟨some 55, .load 3 (.tmp 54), 3, "law.go:23", #[⟨47, .data⟩, ⟨41, .guard⟩], some (41, true)⟩) (v := ?_) rfl (by kernel_rfl) (by kernel_rfl) (by kernel_rfl) (fun _ _ _ h => h) (Or.inl ⟨by rfl, ?hyr1x48q421⟩) (by assumption) ?restr1x48q421
    case hyr1x48q421 => intro wq hSw; (have cq := Q0.out wq hSw; go_simp); (try with_reducible rfl)
    try simp only [Act.put, List.setIfInBounds_toArray, List.set_cons_zero, List.set_cons_succ]
    refine wpAnyH_take (i := 49) (oi := ⟨some 56, .binOp .eql 3 (.tmp 55) (.const (.int .i64 1)) 3, 4, "law.go:23", #[⟨48, .data⟩, ⟨41, .guard⟩], some (41, true)⟩) (v := ?_) rfl (by kernel_rfl) (by kernel_rfl) (by kernel_rfl) (fun _ _ _ h => h) (Or.inl ⟨by rfl, ?hyr1x49q424⟩) (by assumption) ?restr1x49q424
    case hyr1x49q424 => intro wq hSw; (go_simp); (try with_reducible rfl)
    try simp only [Act.put, List.setIfInBounds_toArray, List.set_cons_zero, List.set_cons_succ]
    refine wpAnyH_take (i := 50) (oi := ⟨some 57, .pick (.tmp 48) (.tmp 56) (.const (.bool false)), 4, "law.go:23", #[⟨41, .data⟩, ⟨49, .data⟩], none⟩) (v := ?_) rfl (by kernel_rfl) (by kernel_rfl) (by kernel_rfl) (fun _ _ _ h => h) (Or.inl ⟨by rfl, ?hyr1x50q427⟩) (by assumption) ?restr1x50q427
    case hyr1x50q427 => intro wq hSw; (go_simp); (try with_reducible rfl)
    try simp only [Act.put, List.setIfInBounds_toArray, List.set_cons_zero, List.set_cons_succ]
    refine wpAnyH_take (i := 51) (oi := ⟨some 58, .move (.tmp 57), 4, "law.go:23", #[⟨50, .data⟩, ⟨41, .chain⟩], none⟩) (v := ?_) rfl (by kernel_rfl) (by kernel_rfl) (by kernel_rfl) (fun _ _ _ h => h) (Or.inl ⟨by rfl, ?hyr1x51q430⟩) (by assumption) ?restr1x51q430
    case hyr1x51q430 => intro wq hSw; (go_simp); (try with_reducible rfl)
    try simp only [Act.put, List.setIfInBounds_toArray, List.set_cons_zero, List.set_cons_succ]
    refine wpAnyH_take (i := 53) (oi := ⟨some 60, .move (.tmp 2), 36, "law.go:23", #[⟨51, .guard⟩], some (51, true)⟩) (v := ?_) rfl (by kernel_rfl) (by kernel_rfl) (by kernel_rfl) (fun _ _ _ h => h) (Or.inl ⟨by rfl, ?hyr1x53q433⟩) (by assumption) ?restr1x53q433
    case hyr1x53q433 => intro wq hSw; (go_simp); (try with_reducible rfl)
    try simp only [Act.put, List.setIfInBounds_toArray, List.set_cons_zero, List.set_cons_succ]
    refine wpAnyH_ready (rs := [52]) (by kernel_rfl) (by simp) ?_
    refine AllReadyH.cons (o := ⟨some 59, .call { callee := .value (.func 57), args := #[], argTypes := #[] }, 23, "law.go:23", #[⟨51, .chain⟩, ⟨51, .guard⟩], some (51, true)⟩) rfl (fun K hK => ?_) AllReadyH.nil
    go_simp
    (with_reducible refine (five_x _).mono ?_)
    rintro e w7 ⟨a5, rfl, s5, kk⟩
    replace hHeld := hHeld.nx kk
    clear kk
    refine hK.out _ _ (hHeld) (fun hHeld => ?_)
    clear hK K
    try simp only [Act.put, List.setIfInBounds_toArray, List.set_cons_zero, List.set_cons_succ]
    refine wpAnyH_ready (rs := [54]) (by kernel_rfl) (by simp) ?_
    refine AllReadyH.cons (o := ⟨some 61, .call { callee := .value (.func 22), args := #[.tmp 59, .tmp 60], argTypes := #[23, 36] }, 4, "law.go:23", #[⟨52, .data⟩, ⟨53, .data⟩, ⟨52, .chain⟩, ⟨51, .guard⟩], some (51, true)⟩) rfl (fun K hK => ?_) AllReadyH.nil
    go_simp
    (with_reducible refine (connected_p _ _ _ fiveN _ _ _ _ _ s5 (by omega) (by omega) (by unfold maxLen; omega) (P.out.nx hHeld) (by omega) five_small).mono ?_)
    rintro e w8 ⟨rfl, kk⟩
    rw [five_conn]
    replace hHeld := hHeld.nx kk
    clear kk s5
    refine hK.out _ _ (hHeld) (fun hHeld => ?_)
    clear hK K
    try simp only [Act.put, List.setIfInBounds_toArray, List.set_cons_zero, List.set_cons_succ]
    refine wpAnyH_take (i := 55) (oi := ⟨some 62, .pick (.tmp 58) (.tmp 61) (.const (.bool false)), 4, "law.go:23", #[⟨51, .data⟩, ⟨54, .data⟩], none⟩) (v := ?_) rfl (by kernel_rfl) (by kernel_rfl) (by kernel_rfl) (fun _ _ _ h => h) (Or.inl ⟨by rfl, ?hyr1x55q457⟩) (by assumption) ?restr1x55q457
    case hyr1x55q457 => intro wq hSw; (go_simp); (try with_reducible rfl)
    try simp only [Act.put, List.setIfInBounds_toArray, List.set_cons_zero, List.set_cons_succ]
    refine wpAnyH_take (i := 56) (oi := ⟨some 63, .move (.tmp 62), 4, "law.go:23", #[⟨55, .data⟩, ⟨54, .chain⟩], none⟩) (v := ?_) rfl (by kernel_rfl) (by kernel_rfl) (by kernel_rfl) (fun _ _ _ h => h) (Or.inl ⟨by rfl, ?hyr1x56q460⟩) (by assumption) ?restr1x56q460
    case hyr1x56q460 => intro wq hSw; (go_simp); (try with_reducible rfl)
    try simp only [Act.put, List.setIfInBounds_toArray, List.set_cons_zero, List.set_cons_succ]
    refine wpAnyH_take (i := 58) (oi := ⟨some 65, .move (.tmp 2), 36, "law.go:23", #[⟨56, .guard⟩], some (56, true)⟩) (v := ?_) rfl (by kernel_rfl) (by kernel_rfl) (by kernel_rfl) (fun _ _ _ h => h) (Or.inl ⟨by rfl, ?hyr1x58q463⟩) (by assumption) ?restr1x58q463
    case hyr1x58q463 => intro wq hSw; (go_simp); (try with_reducible rfl)
    try simp only [Act.put, List.setIfInBounds_toArray, List.set_cons_zero, List.set_cons_succ]
    refine wpAnyH_take (i := 59) (oi := ⟨some 66, .indexAddr 36 (.tmp 65) (.const (.int .i64 0)), 0, "law.go:23", #[⟨58, .data⟩, ⟨56, .guard⟩], some (56, true)⟩) (v := ?_) rfl (by kernel_rfl) (by kernel_rfl) (by kernel_rfl) (fun _ _ _ h => h) (Or.inl ⟨by rfl, ?hyr1x59q466⟩) (by assumption) ?restr1x59q466
    case hyr1x59q466 => intro wq hSw; (go_simp); (try with_reducible rfl)
    try simp only [Act.put, List.setIfInBounds_toArray, List.set_cons_zero, List.set_cons_succ]
    refine wpAnyH_take (i := 60) (oi := ⟨some 67, .load 41 (.tmp 66), 41, "law.go:23", #[⟨59, .data⟩, ⟨56, .guard⟩], some (56, true)⟩) (v := ?_) rfl (by kernel_rfl) (by kernel_rfl) (by kernel_rfl) (fun _ _ _ h => h) (Or.inl ⟨by rfl, ?hyr1x60q469⟩) (by assumption) ?restr1x60q469
    case hyr1x60q469 => intro wq hSw; (have c0 := R0.out wq hSw; have c1 := R1.out wq hSw; have c2 := R2.out wq hSw; have c3 := R3.out wq hSw; have c4 := R4.out wq hSw; go_simp); (try with_reducible rfl)
    try simp only [Act.put, List.setIfInBounds_toArray, List.set_cons_zero, List.set_cons_succ]
    refine wpAnyH_ready (rs := [57]) (by kernel_rfl) (by simp) ?_
    refine AllReadyH.cons (o := ⟨some 64, .call { callee := .value (.func 57), args := #[], argTypes := #[] }, 23, "law.go:23", #[⟨56, .chain⟩, ⟨56, .guard⟩], some (56, true)⟩) rfl (fun K hK => ?_) AllReadyH.nil
    go_simp
    (with_reducible refine (five_x _).mono ?_)
    rintro e w9 ⟨a5, rfl, s5, kk⟩
    replace hHeld := hHeld.nx kk
    clear kk
    refine hK.out _ _ (hHeld) (fun hHeld => ?_)
    clear hK K
    try simp only [Act.put, List.setIfInBounds_toArray, List.set_cons_zero, List.set_cons_succ]
    refine wpAnyH_ready (rs := [61]) (by kernel_rfl) (by simp) ?_
    refine AllReadyH.cons (o := ⟨some 68, .call { callee := .value (.func 25), args := #[.tmp 64, .tmp 67], argTypes := #[23, 41] }, 22, "law.go:23", #[⟨57, .data⟩, ⟨60, .data⟩, ⟨57, .chain⟩, ⟨56, .guard⟩], some (56, true)⟩) rfl (fun K hK => ?_) AllReadyH.nil
    go_simp
    (with_reducible refine (refs_p _ _ _ fiveN y' _ _ _ _ _ _ _ s5 (by omega) (by omega) (by unfold maxLen; omega) (r1.out.nx hHeld) (r4.out.nx hHeld) hl1 hl4).mono ?_)
    rintro e w10 ⟨v, rfl, own, kk⟩
    obtain ⟨aR, cR, rfl, R, _, _, _⟩ := own.slf (fun _ => rfl)
    have hR := hy1.out
    generalize (refsN fiveN y').length = nr at R hR ⊢
    have hR' : (0 : Int) < (nr : Int) := by omega
    replace hHeld := hHeld.nx kk
    clear kk s5 own R
    refine hK.out _ _ (hHeld) (fun hHeld => ?_)
    clear hK K
    try simp only [Act.put, List.setIfInBounds_toArray, List.set_cons_zero, List.set_cons_succ]
    refine wpAnyH_take (i := 62) (oi := ⟨some 69, .call { callee := .builtin .len, args := #[.tmp 68], argTypes := #[22] }, 3, "law.go:23", #[⟨61, .data⟩, ⟨56, .guard⟩], some (56, true)⟩) (v := ?_) rfl (by kernel_rfl) (by kernel_rfl) (by kernel_rfl) (fun _ _ _ h => h) (Or.inl ⟨by rfl, ?hyr1x62q496⟩) (by assumption) ?restr1x62q496
    case hyr1x62q496 => intro wq hSw; (go_simp); (try with_reducible rfl)
    try simp only [Act.put, List.setIfInBounds_toArray, List.set_cons_zero, List.set_cons_succ]
    refine wpAnyH_take (i := 63) (oi := ⟨some 70, .binOp .gtr 3 (.tmp 69) (.const (.int .i64 0)) 3, 4, "law.go:23", #[⟨62, .data⟩, ⟨56, .guard⟩], some (56, true)⟩) (v := ?_) rfl (by kernel_rfl) (by kernel_rfl) (by kernel_rfl) (fun _ _ _ h => h) (Or.inl ⟨by rfl, ?hyr1x63q499⟩) (by assumption) ?restr1x63q499
    case hyr1x63q499 => intro wq hSw; (go_simp); (try with_reducible rfl)
    try simp only [Act.put, List.setIfInBounds_toArray, List.set_cons_zero, List.set_cons_succ]
    refine wpAnyH_take (i := 64) (oi := ⟨some 71, .pick (.tmp 63) (.tmp 70) (.const (.bool false)), 4, "law.go:23", #[⟨56, .data⟩, ⟨63, .data⟩], none⟩) (v := ?_) rfl (by kernel_rfl) (by kernel_rfl) (by kernel_rfl) (fun _ _ _ h => h) (Or.inl ⟨by rfl, ?hyr1x64q502⟩) (by assumption) ?restr1x64q502
    case hyr1x64q502 => intro wq hSw; (go_simp); (try with_reducible rfl)
    try simp only [Act.put, List.setIfInBounds_toArray, List.set_cons_zero, List.set_cons_succ]
    refine wpAnyH_take (i := 65) (oi := ⟨some 72, .move (.tmp 71), 4, "law.go:23", #[⟨64, .data⟩, ⟨61, .chain⟩], none⟩) (v := ?_) rfl (by kernel_rfl) (by kernel_rfl) (by kernel_rfl) (fun _ _ _ h => h) (Or.inl ⟨by rfl, ?hyr1x65q505⟩) (by assumption) ?restr1x65q505
    case hyr1x65q505 => intro wq hSw; (go_simp); (try with_reducible rfl)
    try simp only [Act.put, List.setIfInBounds_toArray, List.set_cons_zero, List.set_cons_succ]
    refine wpAnyH_take (i := 66) (oi := ⟨some 73, .move (.tmp 2), 36, "law.go:23", #[⟨65, .guard⟩], some (65, true)⟩) (v := ?_) rfl (by kernel_rfl) (by kernel_rfl) (by kernel_rfl) (fun _ _ _ h => h) (Or.inl ⟨by rfl, ?hyr1x66q508⟩) (by assumption) ?restr1x66q508
    case hyr1x66q508 => intro wq hSw; (go_simp); (try with_reducible rfl)
    try simp only [Act.put, List.setIfInBounds_toArray, List.set_cons_zero, List.set_cons_succ]
    refine wpAnyH_ready (rs := [67]) (by kernel_rfl) (by simp) ?_
    refine AllReadyH.cons (o := ⟨some 74, .buildSlice 22 1 #[(0, .const (.int .i64 1))], 22, "law.go:23", #[⟨65, .guard⟩], some (65, true)⟩) rfl (fun K hK => ?_) AllReadyH.nil
    go_simp
    obtain ⟨gB, wB, hgB, hwB, SB, kk⟩ := litE hHeld 1
    rw [← hgB, ← hwB]
    clear hgB hwB
    replace hHeld := hHeld.nx kk
    clear kk
    refine hK.out _ _ (hHeld) (fun hHeld => ?_)
    clear hK K
    try simp only [Act.put, List.setIfInBounds_toArray, List.set_cons_zero, List.set_cons_succ]
    refine wpAnyH_ready (rs := [68]) (by kernel_rfl) (by simp) ?_
    refine AllReadyH.cons (o := ⟨some 75, .call { callee := .value (.func 55), args := #[.tmp 73, .tmp 74], argTypes := #[36, 22] }, 36, "law.go:23", #[⟨66, .data⟩, ⟨67, .data⟩, ⟨65, .chain⟩, ⟨65, .guard⟩], some (65, true)⟩) rfl (fun K hK => ?_) AllReadyH.nil
    go_simp
    (with_reducible refine (crash_p _ _ _ _ _ _ _ [1] _ (P.out.nx hHeld) (by omega) five_small2 SB (by omega)).mono ?_)
    rintro e w11 ⟨v, qs', rfl, own, kk⟩
    obtain ⟨aQ, cQ, rfl, Q, _, _, _⟩ := own.pl
    rw [five_crash]
    replace hHeld := hHeld.nx kk
    clear kk own Q SB
    refine hK.out _ _ (hHeld) (fun hHeld => ?_)
    clear hK K
    try simp only [Act.put, List.setIfInBounds_toArray, List.set_cons_zero, List.set_cons_succ]
    refine wpAnyH_take (i := 69) (oi := ⟨some 76, .call { callee := .builtin .len, args := #[.tmp 75], argTypes := #[36] }, 3, "law.go:23", #[⟨68, .data⟩, ⟨65, .guard⟩], some (65, true)⟩) (v := ?_) rfl (by kernel_rfl) (by kernel_rfl) (by kernel_rfl) (fun _ _ _ h => h) (Or.inl ⟨by rfl, ?hyr1x69q534⟩) (by assumption) ?restr1x69q534
    case hyr1x69q534 => intro wq hSw; (go_simp); (try with_reducible rfl)
    try simp only [Act.put, List.setIfInBounds_toArray, List.set_cons_zero, List.set_cons_succ]
    refine wpAnyH_take (i := 70) (oi := ⟨some 77, .binOp .eql 3 (.tmp 76) (.const (.int .i64 4)) 3, 4, "law.go:23", #[⟨69, .data⟩, ⟨65, .guard⟩], some (65, true)⟩) (v := ?_) rfl (by kernel_rfl) (by kernel_rfl) (by kernel_rfl) (fun _ _ _ h => h) (Or.inl ⟨by rfl, ?hyr1x70q537⟩) (by assumption) ?restr1x70q537
    case hyr1x70q537 => intro wq hSw; (go_simp); (try with_reducible rfl)
    try simp only [Act.put, List.setIfInBounds_toArray, List.set_cons_zero, List.set_cons_succ]
    refine wpAnyH_take (i := 71) (oi := ⟨some 78, .pick (.tmp 72) (.tmp 77) (.const (.bool false)), 4, "law.go:23", #[⟨65, .data⟩, ⟨70, .data⟩], none⟩) (v := ?_) rfl (by kernel_rfl) (by kernel_rfl) (by kernel_rfl) (fun _ _ _ h => h) (Or.inl ⟨by rfl, ?hyr1x71q540⟩) (by assumption) ?restr1x71q540
    case hyr1x71q540 => intro wq hSw; (go_simp); (try with_reducible rfl)
    try simp only [Act.put, List.setIfInBounds_toArray, List.set_cons_zero, List.set_cons_succ]
    refine wpAnyH_take (i := 72) (oi := ⟨some 0, .assign (.tmp 78), 4, "law.go:23", (#[⟨71, .data⟩, ⟨68, .chain⟩, ⟨0, .phase⟩, ⟨1, .phase⟩, ⟨2, .phase⟩, ⟨3, .phase⟩, ⟨4, .phase⟩, ⟨5, .phase⟩, ⟨6, .phase⟩, ⟨7, .phase⟩, ⟨8, .phase⟩, ⟨9, .phase⟩, ⟨10, .phase⟩, ⟨11, .phase⟩, ⟨12, .phase⟩, ⟨13, .phase⟩, ⟨14, .phase⟩, ⟨15, .phase⟩, ⟨16, .phase⟩, ⟨17, .phase⟩, ⟨18, .phase⟩, ⟨19, .phase⟩, ⟨20, .phase⟩, ⟨21, .phase⟩, ⟨22, .phase⟩, ⟨23, .phase⟩, ⟨24, .phase⟩, ⟨25, .phase⟩, ⟨26, .phase⟩, ⟨27, .phase⟩, ⟨28, .phase⟩, ⟨29, .phase⟩, ⟨30, .phase⟩, ⟨31, .phase⟩, ⟨32, .phase⟩, ⟨33, .phase⟩, ⟨34, .phase⟩, ⟨35, .phase⟩, ⟨36, .phase⟩, ⟨37, .phase⟩, ⟨38, .phase⟩, ⟨39, .phase⟩, ⟨40, .phase⟩, ⟨41, .phase⟩, ⟨42, .phase⟩, ⟨43, .phase⟩, ⟨44, .phase⟩, ⟨45, .phase⟩, ⟨46, .phase⟩, ⟨47, .phase⟩] ++ #[⟨48, .phase⟩, ⟨49, .phase⟩, ⟨50, .phase⟩, ⟨51, .phase⟩, ⟨52, .phase⟩, ⟨53, .phase⟩, ⟨54, .phase⟩, ⟨55, .phase⟩, ⟨56, .phase⟩, ⟨57, .phase⟩, ⟨58, .phase⟩, ⟨59, .phase⟩, ⟨60, .phase⟩, ⟨61, .phase⟩, ⟨62, .phase⟩, ⟨63, .phase⟩, ⟨64, .phase⟩, ⟨65, .phase⟩, ⟨66, .phase⟩, ⟨67, .phase⟩, ⟨68, .phase⟩, ⟨69, .phase⟩, ⟨70, .phase⟩, ⟨71, .phase⟩]), none⟩) (v := ?_) rfl (by kernel_rfl) (by kernel_rfl) (by kernel_rfl) (fun _ _ _ h => h) (Or.inl ⟨by rfl, ?hyr1x72q543⟩) (by assumption) ?restr1x72q543
    case hyr1x72q543 => intro wq hSw; (go_simp); (try with_reducible rfl)
    try simp only [Act.put, List.setIfInBounds_toArray, List.set_cons_zero, List.set_cons_succ]
    refine wpAnyH_done (by kernel_rfl) ?_ _
    have KE := K4.out.nx hHeld
    go_wp2_with fail
    go_ret
    exact ⟨rfl, KE⟩
end Go.Proofs.YtbnbjiddffihoaaDoor

/- Rosters of at least one node, from the tape. -/
namespace Go.Proofs.YtbnbjiddffihoaaDoor
open Go.RowKit

end Go.Proofs.YtbnbjiddffihoaaDoor
