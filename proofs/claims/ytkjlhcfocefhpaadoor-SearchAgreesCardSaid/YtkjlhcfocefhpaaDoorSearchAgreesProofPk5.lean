/- Texts for the statement SearchAgreesProof, part 5 of 11: BldM, BldW, BldQ, IdlL, RouP, RouA, SrP. -/
import Derived.Test.YtkjlhcfocefhpaaDoorSearchAgreesProofPk4

/- The memory of Build of the package ideal: rows of links that are written link by link. -/
namespace Go.Proofs.YtkjlhcfocefhpaaDoor
open Go.RowKit

/-- a block of one of the lists within -/
def InQ (qs : List (Int × Hdr)) (k : Nat) : Prop := ∃ (j : Nat) (r : Int × Hdr), qs[j]? = some r ∧ r.2.val.ownBlock = some k
/-- all that was there is as it was, but perhaps the lists within -/
def Exq (qs : List (Int × Hdr)) (w w' : World) : Prop := Chg (fun k => k < w.heap.size ∧ ¬ InQ qs k) w w'
theorem Exq.refl (qs : List (Int × Hdr)) (w : World) : Exq qs w w := Chg.refl _ w
theorem Exq.size {qs : List (Int × Hdr)} {w w' : World} (k : Exq qs w w') : w.heap.size ≤ w'.heap.size := Chg.size k
theorem Exq.nxq {qs : List (Int × Hdr)} {w w1 w2 : World} (h : Exq qs w w1) (k : Exq qs w1 w2) : Exq qs w w2 := Chg.trans h (Chg.mono k (fun _ hk => ⟨Nat.lt_of_lt_of_le hk.1 h.size, hk.2⟩))
theorem Exq.nx {qs : List (Int × Hdr)} {w w1 w2 : World} (h : Exq qs w w1) (k : Ex w1 w2) : Exq qs w w2 := Chg.trans h (Chg.mono k (fun _ hk => Nat.lt_of_lt_of_le hk.1 h.size))
theorem Exq.of_ex {qs : List (Int × Hdr)} {w w' : World} (k : Ex w w') : Exq qs w w' := Chg.mono k (fun _ hk => hk.1)
theorem Exq.set {qs : List (Int × Hdr)} {w w' : World} (h : Exq qs w w') {p : Addr} (v : Value) (hp : InQ qs p.block) : Exq qs w (w'.setCell p v) := Chg.setCell h v (fun k hk he => hk.2 (he ▸ hp))
theorem inQ_base {base : Nat} {w : World} {v : Value} {qs : List (Int × Hdr)} {L : List Lkd} (h : OwnLk base w v qs L) {k : Nat} (hk : InQ qs k) : base ≤ k ∧ k < w.heap.size := by
  obtain ⟨j, r, hr, hg⟩ := hk
  exact ⟨(OwnN.blk h hr hg).1, OwnN.lt h hr hg⟩
theorem inQ_ne {base : Nat} {w : World} {v : Value} {qs : List (Int × Hdr)} {L : List Lkd} (h : OwnLk base w v qs L) {k : Nat} (hk : v.ownBlock = some k) : ¬ InQ qs k := by
  rintro ⟨j, r, hr, hg⟩
  exact OwnN.ne (by decide) h hr hg hk
/-- lists of numbers that lie in T -/
def ILt (T : Nat → Prop) (w : World) (a : Option Addr) (n : Nat) (M : List (List Int)) : Prop :=
  ∃ hs : List (Unit × Hdr), Rd 1 (encP enc0) T w a n hs ∧ M.length = n ∧ ∀ (j : Nat) (q : Unit × Hdr) (c : List Int), hs[j]? = some q → M[j]? = some c → Rd 1 encI T w q.2.1 q.2.2.1 c
theorem ILt.chg {T : Nat → Prop} {w w' : World} {a : Option Addr} {n : Nat} {M : List (List Int)} (h : ILt T w a n M) (k : Chg T w w') : ILt T w' a n M := by
  obtain ⟨hs, h1, h2, h3⟩ := h
  exact ⟨hs, Rd.chg h1 k (fun _ x => x), h2, fun j q c hq hc => Rd.chg (h3 j q c hq hc) k (fun _ x => x)⟩
theorem ILt.at {T : Nat → Prop} {w : World} {a : Option Addr} {n : Nat} {M : List (List Int)} (h : ILt T w a n M) {j : Nat} (hj : j < n) :
    ∃ x o a' n' c' c, a = some ⟨x, o, none⟩ ∧ T x ∧ M[j]? = some c ∧ w.cell? ⟨x, o + j, none⟩ = some (.slice a' n' c') ∧ Rd 1 encI T w a' n' c := by
  obtain ⟨hs, h1, h2, h3⟩ := h
  obtain ⟨x, o, q, e, hx, hq, hc⟩ := Rd.at h1 hj
  obtain ⟨c, hcc⟩ : ∃ c, M[j]? = some c := ⟨M[j]'(by omega), by simp⟩
  refine ⟨x, o, q.2.1, q.2.2.1, q.2.2.2, c, e, hx, hcc, ?_, h3 j q c hq hcc⟩
  have := hc 0 _ rfl
  rw [Nat.mul_one, Nat.add_zero] at this
  exact this
theorem OwnIL.ilt {base : Nat} {w : World} {v : Value} {qs : List (Unit × Hdr)} {M : List (List Int)} (h : OwnIL base w v qs M) :
    ∃ a cap, v = .slice a M.length cap ∧ ILt (fun k => base ≤ k ∧ k < w.heap.size) w a M.length M := by
  obtain ⟨a, cap, e, r, c1, c2, c3, c4⟩ := h.1.rd (fun _ => rfl)
  have hl := h.2.1
  rw [List.length_map] at hl
  rw [hl] at e r
  refine ⟨a, cap, e, qs, r, rfl, fun j q c hq hc => ?_⟩
  obtain ⟨r1, r2⟩ := h.2.2.1 j q (pairU c) hq (by rw [List.getElem?_map, hc]; rfl)
  obtain ⟨a', cap', e', r', _⟩ := r2.rd (fun _ => rfl)
  obtain ⟨x, q1, q2, q3⟩ := q
  simp only [Hdr.val, Value.slice.injEq] at e'
  obtain ⟨rfl, rfl, rfl⟩ := e'
  exact r'
theorem mkLk0 (w : World) : (Instr.makeSlice 88 (.int .i64 1) (.int .i64 1)).run Tryd.prog w = .ok (.slice (some ⟨w.heap.size, 0, none⟩) 1 1) (w.alloc (.cells ((List.replicate 1 ((0, 0) : Int × Int)).flatMap encS).toArray 74)) := by kernel_rfl
theorem mkLk1 (w : World) : (Instr.makeSlice 88 (.int .i64 2) (.int .i64 2)).run Tryd.prog w = .ok (.slice (some ⟨w.heap.size, 0, none⟩) 2 2) (w.alloc (.cells ((List.replicate 2 ((0, 0) : Int × Int)).flatMap encS).toArray 74)) := by kernel_rfl
theorem mkLk2 (w : World) : (Instr.makeSlice 88 (.int .i64 3) (.int .i64 3)).run Tryd.prog w = .ok (.slice (some ⟨w.heap.size, 0, none⟩) 3 3) (w.alloc (.cells ((List.replicate 3 ((0, 0) : Int × Int)).flatMap encS).toArray 74)) := by kernel_rfl
theorem mkLk3 (w : World) : (Instr.makeSlice 88 (.int .i64 4) (.int .i64 4)).run Tryd.prog w = .ok (.slice (some ⟨w.heap.size, 0, none⟩) 4 4) (w.alloc (.cells ((List.replicate 4 ((0, 0) : Int × Int)).flatMap encS).toArray 74)) := by kernel_rfl
theorem mkLk4 (w : World) : (Instr.makeSlice 88 (.int .i64 5) (.int .i64 5)).run Tryd.prog w = .ok (.slice (some ⟨w.heap.size, 0, none⟩) 5 5) (w.alloc (.cells ((List.replicate 5 ((0, 0) : Int × Int)).flatMap encS).toArray 74)) := by kernel_rfl
theorem mkLk5 (w : World) : (Instr.makeSlice 88 (.int .i64 6) (.int .i64 6)).run Tryd.prog w = .ok (.slice (some ⟨w.heap.size, 0, none⟩) 6 6) (w.alloc (.cells ((List.replicate 6 ((0, 0) : Int × Int)).flatMap encS).toArray 74)) := by kernel_rfl
theorem mkLk6 (w : World) : (Instr.makeSlice 88 (.int .i64 7) (.int .i64 7)).run Tryd.prog w = .ok (.slice (some ⟨w.heap.size, 0, none⟩) 7 7) (w.alloc (.cells ((List.replicate 7 ((0, 0) : Int × Int)).flatMap encS).toArray 74)) := by kernel_rfl
theorem mkLk7 (w : World) : (Instr.makeSlice 88 (.int .i64 8) (.int .i64 8)).run Tryd.prog w = .ok (.slice (some ⟨w.heap.size, 0, none⟩) 8 8) (w.alloc (.cells ((List.replicate 8 ((0, 0) : Int × Int)).flatMap encS).toArray 74)) := by kernel_rfl
theorem mkLk8 (w : World) : (Instr.makeSlice 88 (.int .i64 9) (.int .i64 9)).run Tryd.prog w = .ok (.slice (some ⟨w.heap.size, 0, none⟩) 9 9) (w.alloc (.cells ((List.replicate 9 ((0, 0) : Int × Int)).flatMap encS).toArray 74)) := by kernel_rfl
theorem mkLk9 (w : World) : (Instr.makeSlice 88 (.int .i64 10) (.int .i64 10)).run Tryd.prog w = .ok (.slice (some ⟨w.heap.size, 0, none⟩) 10 10) (w.alloc (.cells ((List.replicate 10 ((0, 0) : Int × Int)).flatMap encS).toArray 74)) := by kernel_rfl
theorem mkLk10 (w : World) : (Instr.makeSlice 88 (.int .i64 11) (.int .i64 11)).run Tryd.prog w = .ok (.slice (some ⟨w.heap.size, 0, none⟩) 11 11) (w.alloc (.cells ((List.replicate 11 ((0, 0) : Int × Int)).flatMap encS).toArray 74)) := by kernel_rfl
theorem mkLk11 (w : World) : (Instr.makeSlice 88 (.int .i64 12) (.int .i64 12)).run Tryd.prog w = .ok (.slice (some ⟨w.heap.size, 0, none⟩) 12 12) (w.alloc (.cells ((List.replicate 12 ((0, 0) : Int × Int)).flatMap encS).toArray 74)) := by kernel_rfl
theorem mkLk12 (w : World) : (Instr.makeSlice 88 (.int .i64 13) (.int .i64 13)).run Tryd.prog w = .ok (.slice (some ⟨w.heap.size, 0, none⟩) 13 13) (w.alloc (.cells ((List.replicate 13 ((0, 0) : Int × Int)).flatMap encS).toArray 74)) := by kernel_rfl
theorem mkLk13 (w : World) : (Instr.makeSlice 88 (.int .i64 14) (.int .i64 14)).run Tryd.prog w = .ok (.slice (some ⟨w.heap.size, 0, none⟩) 14 14) (w.alloc (.cells ((List.replicate 14 ((0, 0) : Int × Int)).flatMap encS).toArray 74)) := by kernel_rfl
theorem mkLk14 (w : World) : (Instr.makeSlice 88 (.int .i64 15) (.int .i64 15)).run Tryd.prog w = .ok (.slice (some ⟨w.heap.size, 0, none⟩) 15 15) (w.alloc (.cells ((List.replicate 15 ((0, 0) : Int × Int)).flatMap encS).toArray 74)) := by kernel_rfl
theorem mkLk15 (w : World) : (Instr.makeSlice 88 (.int .i64 16) (.int .i64 16)).run Tryd.prog w = .ok (.slice (some ⟨w.heap.size, 0, none⟩) 16 16) (w.alloc (.cells ((List.replicate 16 ((0, 0) : Int × Int)).flatMap encS).toArray 74)) := by kernel_rfl
theorem mkLk16 (w : World) : (Instr.makeSlice 88 (.int .i64 17) (.int .i64 17)).run Tryd.prog w = .ok (.slice (some ⟨w.heap.size, 0, none⟩) 17 17) (w.alloc (.cells ((List.replicate 17 ((0, 0) : Int × Int)).flatMap encS).toArray 74)) := by kernel_rfl
theorem mkLk (m M1 : Nat) (hm : m ≤ 16) (h : M1 = m + 1) (w : World) : (Instr.makeSlice 88 (.int .i64 ((m : Int) + 1)) (.int .i64 ((m : Int) + 1))).run Tryd.prog w =
    .ok (.slice (some ⟨w.heap.size, 0, none⟩) M1 M1) (w.alloc (.cells ((List.replicate M1 ((0, 0) : Int × Int)).flatMap encS).toArray 74)) := by
  subst h
  match m, hm with
  | 0, _ => exact mkLk0 w
  | 1, _ => exact mkLk1 w
  | 2, _ => exact mkLk2 w
  | 3, _ => exact mkLk3 w
  | 4, _ => exact mkLk4 w
  | 5, _ => exact mkLk5 w
  | 6, _ => exact mkLk6 w
  | 7, _ => exact mkLk7 w
  | 8, _ => exact mkLk8 w
  | 9, _ => exact mkLk9 w
  | 10, _ => exact mkLk10 w
  | 11, _ => exact mkLk11 w
  | 12, _ => exact mkLk12 w
  | 13, _ => exact mkLk13 w
  | 14, _ => exact mkLk14 w
  | 15, _ => exact mkLk15 w
  | 16, _ => exact mkLk16 w
  | m + 17, h => exact absurd h (by omega)
theorem rows_set {S : List Nd} (hd : S.Pairwise fun x y => x.id ≠ y.id) {m p j : Nat} {y : Nd} (hp : S[p]? = some y) (hj : j < m) (F G : FnL) (hG : ∀ x h, (x ≠ y.id ∨ h ≠ j) → G x h = F x h) :
    rowsF S m G = (rowsF S m F).set p (y.id, ((List.range m).map fun j => F y.id j).set j (G y.id j)) := by
  obtain ⟨hpl, hpe⟩ := List.getElem?_eq_some_iff.1 hp
  apply List.ext_getElem?
  intro i
  unfold rowsF
  by_cases hi : i = p
  · subst hi
    rw [List.getElem?_set_self (by simpa using hpl), List.getElem?_map, hp]
    simp only [Option.map_some, Option.some.injEq, Prod.mk.injEq, true_and]
    apply List.ext_getElem?
    intro h
    by_cases hh : h = j
    · subst hh
      rw [List.getElem?_set_self (by simpa using hj), List.getElem?_map, List.getElem?_range hj]
      rfl
    · rw [List.getElem?_set_ne (by omega)]
      simp only [List.getElem?_map]
      by_cases hm : h < m
      · rw [List.getElem?_range hm]
        simp only [Option.map_some]
        rw [hG _ _ (.inr hh)]
      · rw [List.getElem?_eq_none (by simpa using hm)]; rfl
  · rw [List.getElem?_set_ne (by omega)]
    simp only [List.getElem?_map]
    cases hx : S[i]? with
    | none => rfl
    | some x =>
      simp only [Option.map_some]
      have hne : x.id ≠ y.id := by
        obtain ⟨hil, hie⟩ := List.getElem?_eq_some_iff.1 hx
        have hw := List.pairwise_iff_getElem.1 hd
        rcases Nat.lt_or_gt_of_ne hi with h | h
        · have := hw i p hil hpl h; rwa [hie, hpe] at this
        · have := hw p i hpl hil h; rw [hie, hpe] at this; exact fun e => this e.symm
      congr 2
      apply List.map_congr_left
      intro h _
      exact hG _ _ (.inl hne)
/-- what the walk needs of the row at place p -/
theorem rows_at {base : Nat} {w : World} {v : Value} {qs : List (Int × Hdr)} {S : List Nd} {m : Nat} {F : FnL} (hd : S.Pairwise fun x y => x.id ≠ y.id) (h : OwnLk base w v qs (rowsF S m F)) {p j : Nat} {y : Nd} (hp : S[p]? = some y) (hj : j < m) :
    ∃ g cap g' cap', v = .slice (some ⟨g, 0, none⟩) S.length cap ∧ g < w.heap.size ∧ ¬ InQ qs g ∧ w.cell? ⟨g, p * 2 + 1, none⟩ = some (.slice (some ⟨g', 0, none⟩) m cap') ∧ InQ qs g' ∧
      (∃ u, w.cell? ⟨g', j * 2, none⟩ = some u) ∧ (∃ u, w.cell? ⟨g', j * 2 + 1, none⟩ = some u) ∧ w.frozen? ⟨g', j * 2, none⟩ = false ∧ w.frozen? ⟨g', j * 2 + 1, none⟩ = false ∧
      (∀ u : Int, OwnLk base (w.setCell ⟨g', j * 2, none⟩ (.int .i64 u)) v qs (rowsF S m (updL F y.id j u))) ∧
      ∀ u : Int, OwnLk base (w.setCell ⟨g', j * 2 + 1, none⟩ (.int .i64 u)) v qs (rowsF S m (updR F y.id j u)) := by
  have hpl := (List.getElem?_eq_some_iff.1 hp).1
  have hL : (rowsF S m F)[p]? = some (y.id, (List.range m).map fun j => F y.id j) := by unfold rowsF; rw [List.getElem?_map, hp]; rfl
  obtain ⟨hd1, hq, ho⟩ := OwnN.get (p := 1) h hL
  obtain ⟨a, cap, e, r, c1, c2, c3, c4⟩ := h.1.rd (fun _ => rfl)
  have hlen : qs.length = S.length := by rw [h.2.1]; unfold rowsF; simp
  obtain ⟨g, hga, hgb⟩ := c3 (by intro h0; rw [h0] at hlen; simp at hlen; omega)
  cases hga
  subst e
  have hvb : (Value.slice (some ⟨g, 0, none⟩) qs.length cap).ownBlock = some g := rfl
  have hrow : ((List.range m).map fun j => F y.id j)[j]? = some (F y.id j) := by rw [List.getElem?_map, List.getElem?_range hj]; rfl
  have hhd : ∃ g' cap', hd1.val = .slice (some ⟨g', 0, none⟩) m cap' := by
    rcases ho.2 with ⟨h1, h2⟩ | ⟨g', cap', cur, h1, _⟩
    · exfalso; have h2' := h2; simp at h2'; omega
    · exact ⟨g', cap', by rw [h1]; simp⟩
  obtain ⟨g', cap', hv'⟩ := hhd
  have hinq : InQ qs g' := ⟨p, _, hq, by rw [hv']; rfl⟩
  have hcell := (h.1.set1 (sz := 2) (enc := encP encI) (c := 1) (fun _ => rfl) hq (by omega)).1
  rw [hv'] at ho
  obtain ⟨q0, f0, O0⟩ := own_set1 (sz := 2) (enc := encS) (c := 0) (fun _ => rfl) ho hrow (by omega)
  obtain ⟨q1, f1, O1⟩ := own_set1 (sz := 2) (enc := encS) (c := 1) (fun _ => rfl) ho hrow (by omega)
  have hgl : g < w.heap.size := by obtain ⟨_, cur, hc⟩ := OwnW.blk h.1 hvb; exact heap_lt hc
  have key : ∀ (c : Nat) (u : Value) (row' : List (Int × Int)), OwnL 2 encS 74 base (w.setCell ⟨g', j * 2 + c, none⟩ u) hd1.val row' → OwnLk base (w.setCell ⟨g', j * 2 + c, none⟩ u) (.slice (some ⟨g, 0, none⟩) qs.length cap) qs ((rowsF S m F).set p (y.id, row')) := by
    intro c u row' ho'
    exact OwnN.keep (by decide) h hq ho' ((Chg.refl _ w).setCell _ (fun x hx he => hx.2 (by rw [hv', he]; rfl)))
  refine ⟨g, cap, g', cap', by rw [hlen], hgl, inQ_ne h hvb, ?_, hinq, ⟨_, q0⟩, ⟨_, q1⟩, f0, f1, fun u => ?_, fun u => ?_⟩
  · rw [← hv']
    exact hcell
  · rw [rows_set hd hp hj F (updL F y.id j u) (fun x h hx => by unfold updL; rw [if_neg (fun e => by rcases hx with hx | hx; exact hx e.1; exact hx e.2)])]
    have hu : updL F y.id j u y.id j = (u, (F y.id j).2) := by unfold updL; rw [if_pos ⟨rfl, rfl⟩]
    rw [hu]
    refine key 0 _ _ ?_
    rw [hv']
    exact O0 (u, (F y.id j).2) (.int .i64 u) rfl
  · rw [rows_set hd hp hj F (updR F y.id j u) (fun x h hx => by unfold updR; rw [if_neg (fun e => by rcases hx with hx | hx; exact hx e.1; exact hx e.2)])]
    have hu : updR F y.id j u y.id j = ((F y.id j).1, u) := by unfold updR; rw [if_pos ⟨rfl, rfl⟩]
    rw [hu]
    refine key 1 _ _ ?_
    rw [hv']
    exact O1 ((F y.id j).1, u) (.int .i64 u) rfl
end Go.Proofs.YtkjlhcfocefhpaaDoor

/- Build of the package ideal. -/
namespace Go.Proofs.YtkjlhcfocefhpaaDoor
open Go.RowKit

def posK (S : List Nd) : Nat → Int → Int
  | 0 => fun _ => 0
  | k + 1 => fun y => if y = (S[k]?.getD Nd.zero).id then (k : Int) else posK S k y
theorem posK_at {S : List Nd} (hd : S.Pairwise fun x y => x.id ≠ y.id) : ∀ (k p : Nat) (y : Nd), p < k → k ≤ S.length → S[p]? = some y → posK S k y.id = p
  | 0, _, _, h, _, _ => by omega
  | k + 1, p, y, hp, hk, hy => by
    unfold posK
    by_cases he : p = k
    · subst he; rw [hy]; exact if_pos rfl
    · obtain ⟨z, hz⟩ : ∃ z, S[k]? = some z := ⟨S[k], List.getElem?_eq_getElem (by omega)⟩
      have hne : y.id ≠ z.id := by
        obtain ⟨h1, e1⟩ := List.getElem?_eq_some_iff.1 hy
        obtain ⟨h2, e2⟩ := List.getElem?_eq_some_iff.1 hz
        have := List.pairwise_iff_getElem.1 hd p k h1 h2 (by omega)
        rwa [e1, e2] at this
      rw [hz, if_neg (by exact hne)]
      exact posK_at hd k p y (by omega) (by omega) hy
theorem rows0_snoc (S : List Nd) (m k : Nat) (x : Nd) (hx : S[k]? = some x) : rowsF (S.take (k + 1)) m (procB S 0) = rowsF (S.take k) m (procB S 0) ++ [(x.id, List.replicate m (0, 0))] := by
  unfold rowsF
  rw [take_snocN S k x hx, List.map_append]
  congr 1
  show [(x.id, (List.range m).map fun _ => ((0, 0) : Int × Int))] = _
  rw [List.map_const', List.length_range]
theorem lists_in {S : List Nd} {h : Int} : ∀ c ∈ listsN S h, ∀ x ∈ c, ∃ y ∈ S, y.id = x := by
  intro c hc x hx
  unfold listsN at hc
  split at hc
  · obtain ⟨d, hd, rfl⟩ := List.mem_map.1 hc
    obtain ⟨y, hy, rfl⟩ := List.mem_map.1 hx
    refine ⟨y, ?_, rfl⟩
    by_cases hh : 16 < h
    · rw [classesN_big hh] at hd; cases hd
    · rw [classesN_fold hh] at hd
      exact (sortN_mem S y).1 ((foldC_fine (h := h) (P := fun y => y ∈ sortN S) (sortN S) (fun _ hy => hy) d hd).2.2 y hy)
  · cases hc
theorem lists_sm {S : List Nd} {h : Int} (hl : S.length ≤ 1000) : (listsN S h).length ≤ 1000 ∧ ∀ c ∈ listsN S h, c.length ≤ 1000 := by
  unfold listsN
  split
  · have := classesN_sm (sortN S) h (by rw [sortN_length]; exact hl)
    refine ⟨by rw [List.length_map]; exact this.1, fun c hc => ?_⟩
    obtain ⟨d, hd, rfl⟩ := List.mem_map.1 hc
    unfold idsN
    rw [List.length_map]
    exact this.2 d hd
  · exact ⟨by simp, by simp⟩
def B1Rel (S : List Nd) (m b : Nat) (w : World) (o i : Value) (wr : World) : Prop :=
  ∃ (k : Nat) (qs : List (Int × Hdr)), k ≤ S.length ∧ i = .int .i64 k ∧ OwnLk w.heap.size wr o qs (rowsF (S.take k) m (procB S 0)) ∧ MapI wr b k (posK S k) ∧ Exb b w wr
def B2Rel (S : List Nd) (m base : Nat) (v : Value) (qs : List (Int × Hdr)) (w : World) (i : Value) (wr : World) : Prop :=
  ∃ j : Nat, j ≤ m ∧ i = .int .i64 j ∧ OwnLk base wr v qs (rowsF S m (procB S j)) ∧ Exq qs w wr
def B3Rel (S : List Nd) (m base j : Nat) (M : List (List Int)) (v : Value) (qs : List (Int × Hdr)) (w : World) (i : Value) (wr : World) : Prop :=
  ∃ q : Nat, q ≤ M.length ∧ i = .int .i64 q ∧ OwnLk base wr v qs (rowsF S m (procL j (M.take q) (procB S j))) ∧ Exq qs w wr
def B4Rel (S : List Nd) (m base j : Nat) (c : List Int) (F : FnL) (v : Value) (qs : List (Int × Hdr)) (w : World) (i : Value) (wr : World) : Prop :=
  ∃ r : Nat, (r < c.length ∨ r = 0) ∧ i = .int .i64 ((r : Int) + 1) ∧ OwnLk base wr v qs (rowsF S m (procI c j F r)) ∧ Exq qs w wr
theorem blk_ne {α : Type} {sz base g : Nat} {enc : α → List Value} {e ty : TypeId} {w : World} {v : Value} {l : List α} {cs : List Value} (h : OwnW sz enc e base w v l) (B : Blk w g cs ty) (hne : ty ≠ e) : ¬ v.ownBlock = some g := by
  intro hv
  obtain ⟨_, cur, e1⟩ := h.blk hv
  unfold Blk at B
  rw [B] at e1
  simp at e1
  exact hne e1.2
theorem own_out {base : Nat} {w : World} {v : Value} {qs : List (Int × Hdr)} {S : List Nd} {m : Nat} {F : FnL} (h : OwnLk base w v qs (rowsF S m F)) : ∃ a c, v = .slice a S.length c := by
  obtain ⟨a, c, e, _⟩ := h.1.rd (fun _ => rfl)
  refine ⟨a, c, ?_⟩
  rw [e, h.2.1]
  unfold rowsF
  rw [List.length_map]
theorem atI_of {c : List Int} {r : Nat} {x : Int} (h : c[r]? = some x) : atI c r = x := by unfold atI; rw [h]; rfl
theorem Chg.undrew {S : Nat → Prop} {w w' : World} (h : Chg S w w') : Chg S w.drew w' := ⟨h.1, h.2, h.3, h.4, h.5⟩
theorem mem_at {S : List Nd} {x : Int} (h : ∃ y : Nd, y ∈ S ∧ y.id = x) : ∃ (p : Nat) (y : Nd), S[p]? = some y ∧ y.id = x := by
  obtain ⟨y, hy, e⟩ := h
  obtain ⟨p, hp⟩ := List.mem_iff_getElem?.1 hy
  exact ⟨p, y, hp, e⟩

set_option maxRecDepth 100000 in
set_option maxHeartbeats 8000000 in
/-- what Build lays, in its own words -/
theorem build_q (a : Option Addr) (n c : Nat) (l : List Nd) (h : Int) (w : World) (hs : Sl 3 encN w a n l) (hn : n ≤ 1000) (hc : n ≤ c) (hm : c ≤ maxLen) (hw : ∀ x ∈ l, x.word < 4294967296) (hT : TabG w)
    (L : List Lkd) (e0 : Int) (hL1 : checkN l ≠ 0 → L = [] ∧ e0 = 1) (hL2 : checkN l = 0 → lvlN h = false → L = [] ∧ e0 = 2) (hL3 : checkN l = 0 → ∀ m : Nat, h = m → m ≤ 16 → L = rowsF (sortN l) (m + 1) (procB (sortN l) (m + 1)) ∧ e0 = 0) :
    Calls Tryd.prog 36 #[.slice a n c, .int .i64 h] w (LkPost L e0 w) := by
  have HW := Lib.hid hw
  have HL := Lib.hid hs.len
  have HT := Lib.hid hT
  have H1 := Lib.hid hL1
  have H2 := Lib.hid hL2
  have H3 := Lib.hid hL3
  have hmm := @run_makeMap Tryd.prog
  clear hw hT hL1 hL2 hL3
  go_enter Tryd.func36, Tryd.ntmps36
  go_wp2_with fail
  (with_reducible refine (ordered_p _ _ _ _ _ hs hn hc hm).mono ?_)
  rintro e w0 ⟨v, S, rfl, OS, ⟨hp, hsrt⟩, k0⟩
  have SL := Lib.hid hp.length_eq
  have SW : Hid (∀ x ∈ S, x.word < 4294967296) := Lib.hid (fun x hx => HW.out x (hp.mem_iff.1 hx))
  have HSR := Lib.hid hsrt
  replace HT := Lib.hid (HT.out.nx k0)
  have SOK : Hid (checkN l = 0 → ∀ x ∈ S, 1 ≤ x.id ∧ x.id ≤ 2147483647) := Lib.hid (fun h0 x hx => by
    have := roster_ok h0 x (hp.mem_iff.1 hx)
    exact ⟨this.2.1, this.2.2.1⟩)
  clear hp hsrt hs
  by_cases hck : checkN l = 0
  case neg =>
    obtain ⟨rfl, rfl⟩ := H1.out hck
    have d1 : (checkN l == 0) = false := by simpa using hck
    rw [d1]
    clear hck d1 OS
    go_wp2_with fail
    go_ret2
    exact ⟨_, [], rfl, OwnN.nil _ _ _ _ _ _ _ _, k0⟩
  have HCK := Lib.hid hck
  have d1 : (checkN l == 0) = true := by simpa using hck
  rw [d1]
  clear hck d1
  by_cases hlo : h < 0
  · obtain ⟨rfl, rfl⟩ := H2.out HCK.out (by unfold lvlN; simp; omega)
    clear OS
    go_wp2_with fail
    go_ret2
    exact ⟨_, [], rfl, OwnN.nil _ _ _ _ _ _ _ _, k0⟩
  by_cases hhi : 16 < h
  · obtain ⟨rfl, rfl⟩ := H2.out HCK.out (by unfold lvlN; simp; omega)
    clear OS
    go_wp2_with fail
    go_ret2
    exact ⟨_, [], rfl, OwnN.nil _ _ _ _ _ _ _ _, k0⟩
  obtain ⟨m, rfl⟩ := Int.eq_ofNat_of_zero_le (show 0 ≤ h by omega)
  have hm16 : m ≤ 16 := by omega
  obtain ⟨hLL, rfl⟩ := H3.out HCK.out m rfl hm16
  rw [← HSR.out HCK.out] at hLL
  have HLL := Lib.hid hLL
  have ID : Hid (S.Pairwise fun x y => x.id ≠ y.id) := Lib.hid (by
    rw [HSR.out HCK.out]
    exact (sortN_str HCK.out).imp (fun h => h.2))
  have SOK := Lib.hid (SOK.out HCK.out)
  obtain ⟨M1, hM1⟩ : ∃ M1, M1 = m + 1 := ⟨_, rfl⟩
  rw [← hM1] at HLL
  have HM1 := Lib.hid hM1
  have hM17 : M1 ≤ 17 := by omega
  clear hM1
  obtain ⟨aS, cS, rfl, sS, hcS, hmS⟩ := OS.sl3 (fun _ => rfl)
  have hnS : S.length ≤ 1000 := by have := HL.out; have := SL.out; omega
  clear OS hLL H1 H2 H3 hlo hhi
  obtain ⟨w1, hw1⟩ : ∃ w1, w1 = w0.alloc (.map #[] 0) := ⟨_, rfl⟩
  obtain ⟨b, hb⟩ : ∃ b, b = w0.heap.size := ⟨_, rfl⟩
  have MI : MapI w1 b 0 (posK S 0) := by rw [hw1, hb]; exact MapI.made w0
  have k1 : Ex w0 w1 := by rw [hw1]; exact Ex.new _ _
  have sSb := (sS.slb (Nat.le_of_eq hb.symm)).nxb (k1.b b)
  have hb0 : w.heap.size ≤ b := by have := k0.size; omega
  have HT1 := Lib.hid (HT.out.nx k1)
  have hTb : 1 < b := by have := HT.out.lt; omega
  have hTb := Lib.hid hTb
  have hbw1 : b < w1.heap.size := MI.lt
  have HW1 := Lib.hid hw1
  have HB := Lib.hid hb
  have K1 := Lib.hid (k0.nx k1)
  have SSB := Lib.hid sSb
  clear hw1 hb k0 k1 sS sSb
  go_upto_region 7 with fail
  rw [← HB.out, ← HW1.out]
  go_wp2_with fail
  go_loopw [9, 32] (fun o i wr => B1Rel S M1 b w1 o i wr) (fun _ i _ => S.length - (intOf i).toNat)
  case atStart => exact ⟨0, [], by omega, rfl, OwnN.nil _ _ _ _ _ _ _ _, MI, Exb.refl _ _⟩
  case round =>
    clear MI
    obtain ⟨k, qs, hk, rfl, OQ, MI, kw⟩ := hrel
    obtain ⟨wo, rfl⟩ : ∃ wo : World, wo = wr := ⟨_, rfl⟩
    by_cases hlt : k < S.length
    · obtain ⟨x1, o1, y, rfl, hx1, hy, hc1⟩ := ((SSB.out.nxb kw).sl).at hlt
      obtain ⟨yi, yk, yw⟩ := y
      have e0 : wo.cell? ⟨x1, o1 + k * 3, none⟩ = some (.int .i64 yi) := hc1 0 _ rfl
      have e1 : wo.cell? ⟨x1, o1 + k * 3 + 1, none⟩ = some (.string yk) := hc1 1 _ rfl
      have e2 : wo.cell? ⟨x1, o1 + k * 3 + 2, none⟩ = some (.int .u32 yw) := hc1 2 _ rfl
      have e2' : wo.cell? ⟨x1, o1 + k * 3 + 1 + 1, none⟩ = some (.int .u32 yw) := e2
      have RS := Lib.hid (rows0_snoc S M1 k _ hy)
      have hid := SOK.out _ (List.mem_of_getElem? hy)
      have hid1 : 1 ≤ yi := hid.1
      have hid2 : yi ≤ 2147483647 := hid.2
      have PK : Hid ((fun y => if y = yi then (k : Int) else posK S k y) = posK S (k + 1)) := Lib.hid (by
        show _ = fun y => if y = (S[k]?.getD Nd.zero).id then (k : Int) else posK S k y
        rw [hy]; rfl)
      clear hy hc1 hid
      have k7 := Ex.new wo (.cells #[.int .i64 yi, .string yk, .int .u32 yw] 48)
      have B4 := Blk.new wo [.int .i64 yi, .string yk, .int .u32 yw] 48
      obtain ⟨w7, hw7⟩ : ∃ w7, w7 = wo.alloc (.cells #[.int .i64 yi, .string yk, .int .u32 yw] 48) := ⟨_, rfl⟩
      obtain ⟨g4, hg4⟩ : ∃ g4, g4 = wo.heap.size := ⟨_, rfl⟩
      have B4 : Blk w7 g4 [.int .i64 yi, .string yk, .int .u32 yw] 48 := by rw [hw7, hg4]; exact B4
      rw [← hw7] at k7
      have hg4b : g4 ≠ b := by have := MI.lt; omega
      have HW7 := Lib.hid hw7
      have HG4 := Lib.hid hg4
      replace OQ := OwnN.nx OQ k7
      replace MI := MI.nx k7
      replace kw := kw.nxb (k7.b b)
      clear hw7 hg4 k7
      go_upto_region 11 with fail
      rw [← HG4.out, ← HW7.out]
      clear e0 e1 e2 e2'
      obtain ⟨wm, hrun, MI2, km⟩ := MI.put (x := yi) (v := k) (by omega) (by omega) (show k < maxLen by unfold maxLen; omega)
      have y0 := B4.cell 0 _ rfl
      have B4m := Lib.hid (B4.nxb hg4b km)
      have OQm := Lib.hid (OwnN.nxb OQ hbw1 km)
      replace kw := Lib.hid (kw.nxb km)
      rw [PK.out] at MI2
      have MI2 := Lib.hid MI2
      clear OQ MI B4 km
      go_upto_region 12 with fail
      clear hrun y0
      have B4d := Lib.hid (B4m.out.nx (Ex.refl wm).drew)
      obtain ⟨Z, hZ⟩ : ∃ Z, Z = ((List.replicate M1 ((0, 0) : Int × Int)).flatMap encS).toArray := ⟨_, rfl⟩
      have cm : (Instr.makeSlice 88 (.int .i64 ((m : Int) + 1)) (.int .i64 ((m : Int) + 1))).run Tryd.prog wm.drew = .ok (.slice (some ⟨wm.drew.heap.size, 0, none⟩) M1 M1) (wm.drew.alloc (.cells Z 74)) := by
        rw [hZ]; exact mkLk m M1 hm16 HM1.out _
      have CM := Lib.hid cm
      have HZ := Lib.hid hZ
      have hbs : w1.heap.size ≤ wm.heap.size := kw.out.size
      have IN : Hid (OwnL 2 encS 74 w1.heap.size (wm.alloc (.cells Z 74)) (.slice (some ⟨wm.heap.size, 0, none⟩) M1 M1) (List.replicate M1 ((0, 0) : Int × Int))) := Lib.hid (by
        have := OwnL.lit (sz := 2) (enc := encS) (e := 74) (base := w1.heap.size) (w := wm) (List.replicate M1 ((0, 0) : Int × Int)) (fun _ => rfl) hbs (by rw [List.length_replicate]; unfold maxLen; omega) (cs := Z) hZ
        rwa [List.length_replicate] at this)
      have hkq : qs.length = k := by rw [OQm.out.2.1]; unfold rowsF; rw [List.length_map, List.length_take]; omega
      have hkq := Lib.hid hkq
      have FR : Hid (∀ (j : Nat) (r : Int × Hdr) (g : Nat), qs[j]? = some r → r.2.val.ownBlock = some g → ¬ (Value.slice (some ⟨wm.heap.size, 0, none⟩) M1 M1).ownBlock = some g) := Lib.hid (by
        intro j r g hr hg hv
        have h1 : g < wm.heap.size := OwnN.lt OQm.out hr hg
        cases hv
        exact Nat.lt_irrefl _ h1)
      have wrm : IntKind.i64.wrap ((m : Int) + 1) = (m : Int) + 1 := IntWalk.i64_in _ (by omega)
      have NB := Lib.hid (blk_ne OQm.out.1 B4m.out (by decide))
      have G4L : Hid (g4 < wm.heap.size) := Lib.hid B4m.out.lt
      clear cm hZ
      refine wp_region_held_drew (S := Chg (· = g4) wm.drew) (by kernel_rfl) (Chg.refl _ _) (fun hHeld => ?_)
      refine wpAnyH_take (i := 0) (oi := ⟨some 41, .move (.tmp 9), 24, "ideal.go:79", #[], none⟩) (v := ?_) rfl (by kernel_rfl) (by kernel_rfl) (by kernel_rfl) (fun _ _ _ h => h) (Or.inl ⟨by rfl, ?hyr1x0q1⟩) (by assumption) ?restr1x0q1
      case hyr1x0q1 => intro wq hSw; (go_simp); (try with_reducible rfl)
      try simp only [Act.put, List.setIfInBounds_toArray, List.set_cons_zero, List.set_cons_succ]
      refine wpAnyH_take (i := 1) (oi := ⟨some 42, .fieldAddr 48 (.tmp 11) 0, 0, "ideal.go:79", #[], none⟩) (v := ?_) rfl (by kernel_rfl) (by kernel_rfl) (by kernel_rfl) (fun _ _ _ h => h) (Or.inl ⟨by rfl, ?hyr1x1q4⟩) (by assumption) ?restr1x1q4
      case hyr1x1q4 => intro wq hSw; (go_simp); (try with_reducible rfl)
      try simp only [Act.put, List.setIfInBounds_toArray, List.set_cons_zero, List.set_cons_succ]
      refine wpAnyH_take (i := 2) (oi := ⟨some 43, .load 3 (.tmp 42), 3, "ideal.go:79", #[⟨1, .data⟩], none⟩) (v := ?_) rfl (by kernel_rfl) (by kernel_rfl) (by kernel_rfl) (fun _ _ _ h => h) (Or.inl ⟨by rfl, ?hyr1x2q7⟩) (by assumption) ?restr1x2q7
      case hyr1x2q7 => intro wq hSw; (have cq := (B4d.out.chg hSw rfl).cell 0 _ rfl; go_simp); (try with_reducible rfl)
      try simp only [Act.put, List.setIfInBounds_toArray, List.set_cons_zero, List.set_cons_succ]
      refine wpAnyH_take (i := 3) (oi := ⟨some 44, .move (.tmp 1), 3, "ideal.go:79", #[], none⟩) (v := ?_) rfl (by kernel_rfl) (by kernel_rfl) (by kernel_rfl) (fun _ _ _ h => h) (Or.inl ⟨by rfl, ?hyr1x3q10⟩) (by assumption) ?restr1x3q10
      case hyr1x3q10 => intro wq hSw; (go_simp); (try with_reducible rfl)
      try simp only [Act.put, List.setIfInBounds_toArray, List.set_cons_zero, List.set_cons_succ]
      refine wpAnyH_take (i := 4) (oi := ⟨some 45, .binOp .add 3 (.tmp 44) (.const (.int .i64 1)) 3, 3, "ideal.go:79", #[⟨3, .data⟩], none⟩) (v := ?_) rfl (by kernel_rfl) (by kernel_rfl) (by kernel_rfl) (fun _ _ _ h => h) (Or.inl ⟨by rfl, ?hyr1x4q13⟩) (by assumption) ?restr1x4q13
      case hyr1x4q13 => intro wq hSw; (go_simp); (try with_reducible rfl)
      try simp only [Act.put, List.setIfInBounds_toArray, List.set_cons_zero, List.set_cons_succ]
      refine wpAnyH_ready (rs := [5]) (by kernel_rfl) (by simp) ?_
      refine AllReadyH.cons (o := ⟨some 46, .makeSlice 88 (.tmp 45) (.tmp 45), 88, "ideal.go:79", #[⟨4, .data⟩, ⟨4, .data⟩], none⟩) rfl (fun K hK => ?_) AllReadyH.nil
      have cm := CM.out
      go_simp
      clear cm
      refine hK.out _ _ ((Chg.undrew ((Chg.refl (· = g4) wm).alloc _ (fun x hx => by cases hx; exact G4L.out)).drew)) (fun hHeld => ?_)
      clear hK K
      try simp only [Act.put, List.setIfInBounds_toArray, List.set_cons_zero, List.set_cons_succ]
      refine wpAnyH_take (i := 6) (oi := ⟨some 47, .build 90 #[(0, .tmp 43), (1, .tmp 46)], 90, "ideal.go:79", #[⟨2, .data⟩, ⟨5, .data⟩], none⟩) (v := ?_) rfl (by kernel_rfl) (by kernel_rfl) (by kernel_rfl) (fun _ _ _ h => h) (Or.inl ⟨by rfl, ?hyr1x6q24⟩) (by assumption) ?restr1x6q24
      case hyr1x6q24 => intro wq hSw; (go_simp); (try with_reducible rfl)
      try simp only [Act.put, List.setIfInBounds_toArray, List.set_cons_zero, List.set_cons_succ]
      refine wpAnyH_ready (rs := [7]) (by kernel_rfl) (by simp) ?_
      refine AllReadyH.cons (o := ⟨some 48, .buildSlice 24 1 #[(0, .tmp 47)], 24, "ideal.go:79", #[⟨6, .data⟩], none⟩) rfl (fun K hK => ?_) AllReadyH.nil
      go_simp
      refine hK.out _ _ ((Chg.undrew (((Chg.refl (· = g4) wm).alloc _ (fun x hx => by cases hx; exact G4L.out)).alloc _ (fun x hx => by cases hx; exact Nat.lt_of_lt_of_le G4L.out (Ex.new wm _).size)).drew)) (fun hHeld => ?_)
      clear hK K
      try simp only [Act.put, List.setIfInBounds_toArray, List.set_cons_zero, List.set_cons_succ]
      refine wpAnyH_ready (rs := [8]) (by kernel_rfl) (by simp) ?_
      refine AllReadyH.cons (o := ⟨some 49, .call { callee := .builtin .append, args := #[.tmp 41, .tmp 48], argTypes := #[24, 24] }, 24, "ideal.go:79", #[⟨0, .data⟩, ⟨7, .data⟩], none⟩) rfl (fun K hK => ?_) AllReadyH.nil
      rw [if_pos (by rfl)]
      have kz : Ex wm ((wm.alloc (.cells Z 74)).alloc (.cells #[.int .i64 yi, .slice (some ⟨wm.heap.size, 0, none⟩) M1 M1] 90)).drew := ((Ex.new wm (.cells Z 74)).alloc _).drew
      have OQ2 := OwnN.nx OQm.out kz
      have hql : qs.length ≤ 1000000 := by rw [hkq.out]; omega
      have SX0 : Sl 2 (encP encI) ((wm.alloc (.cells Z 74)).alloc (.cells #[.int .i64 yi, .slice (some ⟨wm.heap.size, 0, none⟩) M1 M1] 90)) (some ⟨wm.heap.size + 1, 0, none⟩) 1 [((yi, (some ⟨wm.heap.size, 0, none⟩, M1, M1)) : Int × Hdr)] := Sl.lit _ (by simp) rfl (fun _ => rfl) rfl
      have SX := SX0.nx (Ex.refl _).drew
      have zz := Nat.le_trans hbs kz.size
      refine wp_append_W (enc := encP encI) _ (.tmp 41) (.tmp 48) 24 rfl w1.heap.size 90 (.agg #[.int .i64 0, .slice none 0 0]) 2 32 Tryd.underlying24 Tryd.infoLd rfl (by omega) (by omega) _ qs OQ2.1 rfl _ 1 1 [((yi, (some ⟨wm.heap.size, 0, none⟩, M1, M1)) : Int × Hdr)] SX (fun _ => rfl) (by simp [encP, encI, Hdr.val, Value.oneCell']) rfl hql (by omega) zz ?_
      intro v9 w9 own9 ch0 ch1 _
      refine hK.out _ _ ((Chg.undrew (Chg.trans (Chg.mono kz (fun x hx => by cases hx; exact G4L.out)) (Chg.mono ch0 (fun x hx => by cases hx; exact ⟨Nat.lt_of_lt_of_le G4L.out kz.size, NB.out⟩))))) (fun hHeld => ?_)
      clear hK K
      try simp only [Act.put, List.setIfInBounds_toArray, List.set_cons_zero, List.set_cons_succ]
      refine wpAnyH_take (i := 9) (oi := ⟨some 9, .assign (.tmp 49), 24, "ideal.go:79", #[⟨8, .data⟩, ⟨8, .chain⟩, ⟨0, .phase⟩, ⟨1, .phase⟩, ⟨2, .phase⟩, ⟨3, .phase⟩, ⟨4, .phase⟩, ⟨5, .phase⟩, ⟨6, .phase⟩, ⟨7, .phase⟩, ⟨8, .phase⟩], none⟩) (v := ?_) rfl (by kernel_rfl) (by kernel_rfl) (by kernel_rfl) (fun _ _ _ h => h) (Or.inl ⟨by rfl, ?hyr1x9q47⟩) (by assumption) ?restr1x9q47
      case hyr1x9q47 => intro wq hSw; (go_simp); (try with_reducible rfl)
      try simp only [Act.put, List.setIfInBounds_toArray, List.set_cons_zero, List.set_cons_succ]
      refine wpAnyH_done (by kernel_rfl) ?_ _
      have OQ9 := OwnN.push (by decide) OQ2 own9 ch0 (IN.out.nx (Ex.new _ _).drew) FR.out
      have kw9 : Exb b w1 w9 := Chg.trans (Chg.trans kw.out (Chg.mono kz (fun x hx => Nat.lt_of_lt_of_le hx.1 kw.out.size))) (Chg.mono ch1 (fun x hx => hx.1))
      have MI9 := MI2.out.chg (S := (· = b)) (Chg.trans (Chg.mono kz (fun x hx => by cases hx; exact MI2.out.lt)) (Chg.mono ch1 (fun x hx => by cases hx; exact hbw1))) rfl
      clear OQ2 own9 ch0 ch1 SX SX0
      go_wp2_with fail
      exact ⟨⟨k + 1, _, by omega, by go_num, by rw [RS.out]; exact OQ9, MI9, kw9⟩, by simp [intOf]; omega⟩
    · obtain rfl : k = S.length := by omega
      rw [List.take_length] at OQ
      obtain ⟨ao, co, rfl⟩ := own_out OQ
      have HQB : Hid (∀ k, InQ qs k → w1.heap.size ≤ k ∧ k < wo.heap.size) := Lib.hid (fun k hk => inQ_base OQ hk)
      have KT : Hid (∀ wr, Exq qs wo wr → Exb b w1 wr) := Lib.hid (fun wr kq => Chg.trans kw (Chg.mono kq (fun x hx => ⟨Nat.lt_of_lt_of_le hx.1 kw.size, fun hi => by have h1 := (HQB.out x hi).1; have h2 := hx.1; exact absurd h2 (Nat.not_lt.2 h1)⟩)))
      have MIH : Hid (∀ wr, Exq qs wo wr → MapI wr b S.length (posK S S.length)) := Lib.hid (fun wr kq => MI.chg kq ⟨MI.lt, fun hi => by have h1 := (HQB.out b hi).1; omega⟩)
      have KW := Lib.hid kw
      have hzo := kw.size
      clear hk hlt kw MI
      have wrm : IntKind.i64.wrap ((m : Int) + 1) = (m : Int) + 1 := IntWalk.i64_in _ (by omega)
      go_wp2_with fail
      go_loopw [53] (fun i wr => B2Rel S M1 w1.heap.size (.slice ao S.length co) qs wo i wr) (fun i _ => M1 - (intOf i).toNat)
      case atStart => exact ⟨0, by omega, rfl, OQ, Exq.refl _ _⟩
      case round =>
        clear OQ
        obtain ⟨j, hj, rfl, OQ, kq⟩ := hrel
        obtain ⟨wj, rfl⟩ : ∃ wj : World, wj = wr := ⟨_, rfl⟩
        by_cases hjm : j < M1
        · have hjm1 : (j : Int) < (m : Int) + 1 := by have := HM1.out; omega
          have SSj := (SSB.out.nxb (KT.out _ kq)).sl
          have TGj : TabG wj := HT1.out.chg (KT.out _ kq) ⟨HT1.out.lt, by have := hTb.out; omega⟩
          have OQH := Lib.hid OQ
          have KQ := Lib.hid kq
          have hzj := kq.size
          have HLI := Lib.hid (lists_in (S := S) (h := (j : Int)))
          have HLS := Lib.hid (lists_sm (h := (j : Int)) hnS)
          have HPB : Hid (procB S (j + 1) = procL j (listsN S (j : Int)) (procB S j)) := Lib.hid rfl
          clear OQ kq
          go_wp2_with fail
          (with_reducible refine (lists_p _ _ _ _ _ _ SSj hnS hcS hmS SW.out TGj).mono ?_)
          rintro e w5 ⟨vl, ql, rfl, OL, k5⟩
          obtain ⟨aL, cL, rfl, LT⟩ := OwnIL.ilt OL
          obtain ⟨M, hM⟩ : ∃ M, M = listsN S (j : Int) := ⟨_, rfl⟩
          rw [← hM] at LT HLI HLS HPB ⊢
          have LT := Lib.hid LT
          have OQ := OwnN.nx OQH.out k5
          have K5 := Lib.hid k5
          have hz5 := k5.size
          have hMl := HLS.out.1
          have KL : Hid (∀ u v, w5.heap.size ≤ u.heap.size → Exq qs u v → Chg (fun k => wj.heap.size ≤ k ∧ k < w5.heap.size) u v) := Lib.hid (fun u v hu kq => Chg.mono kq (fun x hx => ⟨Nat.lt_of_lt_of_le hx.2 hu, fun hi => by have h1 := (HQB.out x hi).2; have h2 := hx.1; omega⟩))
          clear OL k5 SSj TGj hM
          go_wp2_with fail
          go_loopw [60] (fun i wr => B3Rel S M1 w1.heap.size j M (.slice ao S.length co) qs w5 i wr) (fun i _ => M.length - (intOf i).toNat)
          case atStart => exact ⟨0, by omega, rfl, OQ, Exq.refl _ _⟩
          case round =>
            clear OQ
            obtain ⟨q, hq, rfl, OQ, k3⟩ := hrel
            obtain ⟨wq3, rfl⟩ : ∃ wq3 : World, wq3 = wr := ⟨_, rfl⟩
            by_cases hqm : q < M.length
            · obtain ⟨x3, o3, a', n', c', cc, rfl, hx3, hcc, hcell, hids⟩ := (LT.out.chg (KL.out _ _ (Nat.le_refl _) k3)).at hqm
              have hnl := hids.1
              subst hnl
              have hcl : cc.length ≤ 1000 := HLS.out.2 cc (List.mem_of_getElem? hcc)
              have HIN := Lib.hid (HLI.out cc (List.mem_of_getElem? hcc))
              have PS := Lib.hid (procL_snoc j M (procB S j) q cc hcc)
              have hz3 := k3.size
              have HID := Lib.hid hids
              have K3 := Lib.hid k3
              obtain ⟨F, hF⟩ : ∃ F, F = procL j (M.take q) (procB S j) := ⟨_, rfl⟩
              rw [← hF] at OQ PS
              clear hcc hids k3 hF
              go_wp2_with fail
              clear hcell
              go_loopw [15] (fun i wr => B4Rel S M1 w1.heap.size j cc F (.slice ao S.length co) qs wq3 i wr) (fun i _ => cc.length - (intOf i).toNat)
              case atStart => exact ⟨0, .inr rfl, rfl, OQ, Exq.refl _ _⟩
              case round =>
                clear OQ
                obtain ⟨r, hr, rfl, OQ, k4⟩ := hrel
                obtain ⟨wi, rfl⟩ : ∃ wi : World, wi = wr := ⟨_, rfl⟩
                by_cases hrm : r + 1 < cc.length
                · have k4d : Exq qs wq3 wi.drew := k4.nx (Ex.refl wi).drew
                  have OQ := OwnN.nx OQ (Ex.refl wi).drew
                  have RI := HID.out.chg (KL.out _ _ hz3 k4d) (fun _ x => x)
                  obtain ⟨x6, o6, i1, rfl, hx6, hi1, hc6⟩ := RI.at hrm
                  obtain ⟨x7, o7, i0, e67, _, hi0, hc7⟩ := RI.at (show r < cc.length by omega)
                  cases e67
                  have E1 : wi.drew.cell? ⟨x6, o6 + (r + 1), none⟩ = some (.int .i64 i1) := by simpa using hc6 0 _ rfl
                  have E0 : wi.drew.cell? ⟨x6, o6 + r, none⟩ = some (.int .i64 i0) := by simpa using hc7 0 _ rfl
                  obtain ⟨p1, y1, hp1, hy1⟩ := mem_at (HIN.out i1 (List.mem_of_getElem? hi1))
                  obtain ⟨p0, y0, hp0, hy0⟩ := mem_at (HIN.out i0 (List.mem_of_getElem? hi0))
                  have PP : Hid (procI cc j F (r + 1) = updR (updL (procI cc j F r) i1 j i0) i0 j i1) := Lib.hid (by rw [← atI_of hi1, ← atI_of hi0]; rfl)
                  obtain ⟨FF, hFF⟩ : ∃ FF, FF = procI cc j F r := ⟨_, rfl⟩
                  rw [← hFF] at OQ PP
                  have b1 := SOK.out _ (List.mem_of_getElem? hp1)
                  have b0 := SOK.out _ (List.mem_of_getElem? hp0)
                  rw [hy1] at b1
                  rw [hy0] at b0
                  have hq1 := posK_at ID.out S.length p1 y1 (List.getElem?_eq_some_iff.1 hp1).1 (Nat.le_refl _) hp1
                  have hq0 := posK_at ID.out S.length p0 y0 (List.getElem?_eq_some_iff.1 hp0).1 (Nat.le_refl _) hp0
                  have hl1 := (List.getElem?_eq_some_iff.1 hp1).1
                  have hl0 := (List.getElem?_eq_some_iff.1 hp0).1
                  rw [hy1] at hq1
                  rw [hy0] at hq0
                  have KK := KQ.out.nxq ((Exq.of_ex K5.out).nxq (K3.out.nxq k4d))
                  have LK1 : Hid (∀ wq, Exq qs wi.drew wq → (Instr.lookup 116 (.map (some b)) (.int .i64 i1) false).run Tryd.prog wq = .ok (.int .i64 (p1 : Int)) wq) := Lib.hid (fun wq hSw => by
                    have := (MIH.out wq (KK.nxq hSw)).look (x := i1) (by omega)
                    rwa [hq1] at this)
                  have LK0 : Hid (∀ wq, Exq qs wi.drew wq → (Instr.lookup 116 (.map (some b)) (.int .i64 i0) false).run Tryd.prog wq = .ok (.int .i64 (p0 : Int)) wq) := Lib.hid (fun wq hSw => by
                    have := (MIH.out wq (KK.nxq hSw)).look (x := i0) (by omega)
                    rwa [hq0] at this)
                  have NX : Hid (x6 < wi.drew.heap.size ∧ ¬ InQ qs x6) := Lib.hid ⟨by have := k4d.size; have := hx6.2; omega, fun hi => by have h1 := (HQB.out x6 hi).2; have h2 := hx6.1; omega⟩
                  obtain ⟨g, cap, g1, cap1, ev, hgl, hgq, hc1, hin1, ⟨u10, hu10⟩, ⟨u11, hu11⟩, f10, f11, OU1, OV1⟩ := rows_at ID.out OQ hp1 hjm
                  cases ev
                  rw [hy1] at OU1
                  have OQ1 := OU1 i0
                  have ks1 : Exq qs wi.drew (wi.drew.setCell ⟨g1, j * 2, none⟩ (.int .i64 i0)) := (Exq.refl _ _).set _ hin1
                  obtain ⟨g', cap', g0, cap0, ev, hgl', hgq', hc0, hin0, ⟨u00, hu00⟩, ⟨u01, hu01⟩, f00, f01, OU0, OV0⟩ := rows_at ID.out (OwnN.nx OQ1 (Ex.refl _).drew) hp0 hjm
                  cases ev
                  rw [hy0] at OV0
                  have OQ0 := Lib.hid (OV0 i1)
                  have NG : Hid (g < wi.drew.heap.size ∧ ¬ InQ qs g) := Lib.hid ⟨hgl, hgq⟩
                  have NG' : Hid (g < (wi.drew.setCell ⟨g1, j * 2, none⟩ (.int .i64 i0)).drew.heap.size ∧ ¬ InQ qs g) := Lib.hid ⟨hgl', hgq⟩
                  have HE1 := Lib.hid E1
                  have HE0 := Lib.hid E0
                  have HC1 := Lib.hid hc1
                  have KS1 := Lib.hid ks1
                  have KS1d : Hid (Exq qs wi.drew (wi.drew.setCell ⟨g1, j * 2, none⟩ (.int .i64 i0)).drew) := Lib.hid (ks1.nx (Ex.refl _).drew)
                  have HC0 : Hid (wi.drew.cell? ⟨g, p0 * 2 + 1, none⟩ = some (.slice (some ⟨g0, 0, none⟩) M1 cap0)) := Lib.hid ((Chg.cell (p := ⟨g, p0 * 2 + 1, none⟩) KS1d.out NG.out).symm.trans hc0)
                  have IN1 := Lib.hid hin1
                  have IN0 := Lib.hid hin0
                  have ST1 := Lib.hid (And.intro hu10 f10)
                  obtain ⟨gx, capx, g0', cap0', ev, _, _, hc0', _, _, ⟨u01', hu01'⟩, _, f01', _, _⟩ := rows_at ID.out OQ hp0 hjm
                  cases ev
                  have hg00 : g0 = g0' := by
                    have := hc0'.symm.trans HC0.out
                    simp at this
                    exact this.1.symm
                  subst hg00
                  have ST0 : Hid (wi.cell? ⟨g0, j * 2 + 1, none⟩ = some u01' ∧ wi.frozen? ⟨g0, j * 2 + 1, none⟩ = false) := Lib.hid ⟨hu01', f01'⟩
                  clear hc0' hu01' f01'
                  have K4D := Lib.hid k4d
                  have wr1 : IntKind.i64.wrap ((r : Int) + 1 + 1) = (r : Int) + 1 + 1 := IntWalk.i64_in _ (by omega)
                  have hrm1 : (r : Int) + 1 < (cc.length : Int) := by omega
                  have wr0 : IntKind.i64.wrap (r : Int) = (r : Int) := IntWalk.i64_in _ (by omega)
                  have hr01 : (0 : Int) ≤ (r : Int) + 1 := by omega
                  have hrm0 : (r : Int) < (cc.length : Int) := by omega
                  have hp1S : (p1 : Int) < (S.length : Int) := by omega
                  have hp0S : (p0 : Int) < (S.length : Int) := by omega
                  have hjM : (j : Int) < (M1 : Int) := by omega
                  clear hFF b1 b0 hq1 hq0 hy1 hy0 hp1 hp0 hc6 hc7 hi0 hi1 E1 E0 OU1 OV1 OU0 OV0 OQ OQ1 ks1 hgl hgq hgl' hgq' hc1 hc0 hin1 hin0 hu10 hu11 hu00 hu01 f10 f11 f00 f01 RI k4 k4d hx6 KK
                  go_wp2_with fail
                  refine wp_region_held_drew (S := Exq qs wi.drew) (by kernel_rfl) (Exq.refl _ _) (fun hHeld => ?_)
                  refine wpAnyH_take (i := 0) (oi := ⟨some 70, .move (.tmp 9), 24, "ideal.go:84", #[], none⟩) (v := ?_) rfl (by kernel_rfl) (by kernel_rfl) (by kernel_rfl) (fun _ _ _ h => h) (Or.inl ⟨by rfl, ?hyr2x0q1⟩) (by assumption) ?restr2x0q1
                  case hyr2x0q1 => intro wq hSw; (go_simp); (try with_reducible rfl)
                  try simp only [Act.put, List.setIfInBounds_toArray, List.set_cons_zero, List.set_cons_succ]
                  refine wpAnyH_take (i := 1) (oi := ⟨some 71, .move (.tmp 8), 116, "ideal.go:84", #[], none⟩) (v := ?_) rfl (by kernel_rfl) (by kernel_rfl) (by kernel_rfl) (fun _ _ _ h => h) (Or.inl ⟨by rfl, ?hyr2x1q4⟩) (by assumption) ?restr2x1q4
                  case hyr2x1q4 => intro wq hSw; (go_simp); (try with_reducible rfl)
                  try simp only [Act.put, List.setIfInBounds_toArray, List.set_cons_zero, List.set_cons_succ]
                  refine wpAnyH_take (i := 2) (oi := ⟨some 72, .move (.tmp 14), 22, "ideal.go:84", #[], none⟩) (v := ?_) rfl (by kernel_rfl) (by kernel_rfl) (by kernel_rfl) (fun _ _ _ h => h) (Or.inl ⟨by rfl, ?hyr2x2q7⟩) (by assumption) ?restr2x2q7
                  case hyr2x2q7 => intro wq hSw; (go_simp); (try with_reducible rfl)
                  try simp only [Act.put, List.setIfInBounds_toArray, List.set_cons_zero, List.set_cons_succ]
                  refine wpAnyH_take (i := 3) (oi := ⟨some 73, .move (.tmp 15), 3, "ideal.go:84", #[], none⟩) (v := ?_) rfl (by kernel_rfl) (by kernel_rfl) (by kernel_rfl) (fun _ _ _ h => h) (Or.inl ⟨by rfl, ?hyr2x3q10⟩) (by assumption) ?restr2x3q10
                  case hyr2x3q10 => intro wq hSw; (go_simp); (try with_reducible rfl)
                  try simp only [Act.put, List.setIfInBounds_toArray, List.set_cons_zero, List.set_cons_succ]
                  refine wpAnyH_take (i := 4) (oi := ⟨some 74, .indexAddr 22 (.tmp 72) (.tmp 73), 0, "ideal.go:84", #[⟨2, .data⟩, ⟨3, .data⟩], none⟩) (v := ?_) rfl (by kernel_rfl) (by kernel_rfl) (by kernel_rfl) (fun _ _ _ h => h) (Or.inl ⟨by rfl, ?hyr2x4q13⟩) (by assumption) ?restr2x4q13
                  case hyr2x4q13 => intro wq hSw; (go_simp); (try with_reducible rfl)
                  try simp only [Act.put, List.setIfInBounds_toArray, List.set_cons_zero, List.set_cons_succ]
                  refine wpAnyH_take (i := 5) (oi := ⟨some 75, .load 3 (.tmp 74), 3, "ideal.go:84", #[⟨4, .data⟩], none⟩) (v := ?_) rfl (by kernel_rfl) (by kernel_rfl) (by kernel_rfl) (fun _ _ _ h => h) (Or.inl ⟨by rfl, ?hyr2x5q16⟩) (by assumption) ?restr2x5q16
                  case hyr2x5q16 => intro wq hSw; (have cq := Chg.cellv hSw HE1.out NX.out; go_simp); (try with_reducible rfl)
                  try simp only [Act.put, List.setIfInBounds_toArray, List.set_cons_zero, List.set_cons_succ]
                  refine wpAnyH_take (i := 6) (oi := ⟨some 76, .lookup 116 (.tmp 71) (.tmp 75) false, 3, "ideal.go:84", #[⟨1, .data⟩, ⟨5, .data⟩], none⟩) (v := ?_) rfl (by kernel_rfl) (by kernel_rfl) (by kernel_rfl) (fun _ _ _ h => h) (Or.inl ⟨by rfl, ?hyr2x6q19⟩) (by assumption) ?restr2x6q19
                  case hyr2x6q19 => intro wq hSw; (have cq := LK1.out _ hSw; go_simp); (try with_reducible rfl)
                  try simp only [Act.put, List.setIfInBounds_toArray, List.set_cons_zero, List.set_cons_succ]
                  refine wpAnyH_take (i := 7) (oi := ⟨some 77, .indexAddr 24 (.tmp 70) (.tmp 76), 0, "ideal.go:84", #[⟨0, .data⟩, ⟨6, .data⟩], none⟩) (v := ?_) rfl (by kernel_rfl) (by kernel_rfl) (by kernel_rfl) (fun _ _ _ h => h) (Or.inl ⟨by rfl, ?hyr2x7q22⟩) (by assumption) ?restr2x7q22
                  case hyr2x7q22 => intro wq hSw; (go_simp); (try with_reducible rfl)
                  try simp only [Act.put, List.setIfInBounds_toArray, List.set_cons_zero, List.set_cons_succ]
                  refine wpAnyH_take (i := 8) (oi := ⟨some 78, .fieldAddr 90 (.tmp 77) 1, 0, "ideal.go:84", #[⟨7, .data⟩], none⟩) (v := ?_) rfl (by kernel_rfl) (by kernel_rfl) (by kernel_rfl) (fun _ _ _ h => h) (Or.inl ⟨by rfl, ?hyr2x8q25⟩) (by assumption) ?restr2x8q25
                  case hyr2x8q25 => intro wq hSw; (go_simp); (try with_reducible rfl)
                  try simp only [Act.put, List.setIfInBounds_toArray, List.set_cons_zero, List.set_cons_succ]
                  refine wpAnyH_take (i := 9) (oi := ⟨some 79, .load 88 (.tmp 78), 88, "ideal.go:84", #[⟨8, .data⟩], none⟩) (v := ?_) rfl (by kernel_rfl) (by kernel_rfl) (by kernel_rfl) (fun _ _ _ h => h) (Or.inl ⟨by rfl, ?hyr2x9q28⟩) (by assumption) ?restr2x9q28
                  case hyr2x9q28 => intro wq hSw; (have cq := Chg.cellv hSw HC1.out NG.out; go_simp); (try with_reducible rfl)
                  try simp only [Act.put, List.setIfInBounds_toArray, List.set_cons_zero, List.set_cons_succ]
                  refine wpAnyH_take (i := 10) (oi := ⟨some 80, .move (.tmp 12), 3, "ideal.go:84", #[], none⟩) (v := ?_) rfl (by kernel_rfl) (by kernel_rfl) (by kernel_rfl) (fun _ _ _ h => h) (Or.inl ⟨by rfl, ?hyr2x10q31⟩) (by assumption) ?restr2x10q31
                  case hyr2x10q31 => intro wq hSw; (go_simp); (try with_reducible rfl)
                  try simp only [Act.put, List.setIfInBounds_toArray, List.set_cons_zero, List.set_cons_succ]
                  refine wpAnyH_take (i := 11) (oi := ⟨some 81, .move (.tmp 14), 22, "ideal.go:84", #[], none⟩) (v := ?_) rfl (by kernel_rfl) (by kernel_rfl) (by kernel_rfl) (fun _ _ _ h => h) (Or.inl ⟨by rfl, ?hyr2x11q34⟩) (by assumption) ?restr2x11q34
                  case hyr2x11q34 => intro wq hSw; (go_simp); (try with_reducible rfl)
                  try simp only [Act.put, List.setIfInBounds_toArray, List.set_cons_zero, List.set_cons_succ]
                  refine wpAnyH_take (i := 12) (oi := ⟨some 82, .move (.tmp 15), 3, "ideal.go:84", #[], none⟩) (v := ?_) rfl (by kernel_rfl) (by kernel_rfl) (by kernel_rfl) (fun _ _ _ h => h) (Or.inl ⟨by rfl, ?hyr2x12q37⟩) (by assumption) ?restr2x12q37
                  case hyr2x12q37 => intro wq hSw; (go_simp); (try with_reducible rfl)
                  try simp only [Act.put, List.setIfInBounds_toArray, List.set_cons_zero, List.set_cons_succ]
                  refine wpAnyH_take (i := 13) (oi := ⟨some 83, .binOp .sub 3 (.tmp 82) (.const (.int .i64 1)) 3, 3, "ideal.go:84", #[⟨12, .data⟩], none⟩) (v := ?_) rfl (by kernel_rfl) (by kernel_rfl) (by kernel_rfl) (fun _ _ _ h => h) (Or.inl ⟨by rfl, ?hyr2x13q40⟩) (by assumption) ?restr2x13q40
                  case hyr2x13q40 => intro wq hSw; (go_simp); (try with_reducible rfl)
                  try simp only [Act.put, List.setIfInBounds_toArray, List.set_cons_zero, List.set_cons_succ]
                  refine wpAnyH_take (i := 14) (oi := ⟨some 84, .indexAddr 22 (.tmp 81) (.tmp 83), 0, "ideal.go:84", #[⟨11, .data⟩, ⟨13, .data⟩], none⟩) (v := ?_) rfl (by kernel_rfl) (by kernel_rfl) (by kernel_rfl) (fun _ _ _ h => h) (Or.inl ⟨by rfl, ?hyr2x14q43⟩) (by assumption) ?restr2x14q43
                  case hyr2x14q43 => intro wq hSw; (go_simp); (try with_reducible rfl)
                  try simp only [Act.put, List.setIfInBounds_toArray, List.set_cons_zero, List.set_cons_succ]
                  refine wpAnyH_take (i := 15) (oi := ⟨some 85, .load 3 (.tmp 84), 3, "ideal.go:84", #[⟨14, .data⟩], none⟩) (v := ?_) rfl (by kernel_rfl) (by kernel_rfl) (by kernel_rfl) (fun _ _ _ h => h) (Or.inl ⟨by rfl, ?hyr2x15q46⟩) (by assumption) ?restr2x15q46
                  case hyr2x15q46 => intro wq hSw; (have cq := Chg.cellv hSw HE0.out NX.out; go_simp); (try with_reducible rfl)
                  try simp only [Act.put, List.setIfInBounds_toArray, List.set_cons_zero, List.set_cons_succ]
                  refine wpAnyH_take (i := 16) (oi := ⟨some 86, .indexAddr 88 (.tmp 79) (.tmp 80), 0, "ideal.go:84", #[⟨9, .data⟩, ⟨10, .data⟩, ⟨0, .phase⟩, ⟨1, .phase⟩, ⟨2, .phase⟩, ⟨3, .phase⟩, ⟨4, .phase⟩, ⟨5, .phase⟩, ⟨6, .phase⟩, ⟨7, .phase⟩, ⟨8, .phase⟩, ⟨9, .phase⟩, ⟨10, .phase⟩, ⟨11, .phase⟩, ⟨12, .phase⟩, ⟨13, .phase⟩, ⟨14, .phase⟩, ⟨15, .phase⟩], none⟩) (v := ?_) rfl (by kernel_rfl) (by kernel_rfl) (by kernel_rfl) (fun _ _ _ h => h) (Or.inl ⟨by rfl, ?hyr2x16q49⟩) (by assumption) ?restr2x16q49
                  case hyr2x16q49 => intro wq hSw; (go_simp); (try with_reducible rfl)
                  try simp only [Act.put, List.setIfInBounds_toArray, List.set_cons_zero, List.set_cons_succ]
                  refine wpAnyH_take (i := 17) (oi := ⟨some 87, .fieldAddr 74 (.tmp 86) 0, 0, "ideal.go:84", #[⟨16, .data⟩, ⟨0, .phase⟩, ⟨1, .phase⟩, ⟨2, .phase⟩, ⟨3, .phase⟩, ⟨4, .phase⟩, ⟨5, .phase⟩, ⟨6, .phase⟩, ⟨7, .phase⟩, ⟨8, .phase⟩, ⟨9, .phase⟩, ⟨10, .phase⟩, ⟨11, .phase⟩, ⟨12, .phase⟩, ⟨13, .phase⟩, ⟨14, .phase⟩, ⟨15, .phase⟩], none⟩) (v := ?_) rfl (by kernel_rfl) (by kernel_rfl) (by kernel_rfl) (fun _ _ _ h => h) (Or.inl ⟨by rfl, ?hyr2x17q52⟩) (by assumption) ?restr2x17q52
                  case hyr2x17q52 => intro wq hSw; (go_simp); (try with_reducible rfl)
                  try simp only [Act.put, List.setIfInBounds_toArray, List.set_cons_zero, List.set_cons_succ]
                  refine wpAnyH_ready (rs := [18]) (by kernel_rfl) (by simp) ?_
                  refine AllReadyH.cons (o := ⟨none, .store 3 (.tmp 87) (.tmp 85), 0, "ideal.go:84", #[⟨17, .data⟩, ⟨15, .data⟩, ⟨0, .phase⟩, ⟨1, .phase⟩, ⟨2, .phase⟩, ⟨3, .phase⟩, ⟨4, .phase⟩, ⟨5, .phase⟩, ⟨6, .phase⟩, ⟨7, .phase⟩, ⟨8, .phase⟩, ⟨9, .phase⟩, ⟨10, .phase⟩, ⟨11, .phase⟩, ⟨12, .phase⟩, ⟨13, .phase⟩, ⟨14, .phase⟩, ⟨15, .phase⟩], none⟩) rfl (fun K hK => ?_) AllReadyH.nil
                  have st := ST1.out
                  go_simp
                  refine hK.out _ _ (KS1.out) (fun hHeld => ?_)
                  clear hK K
                  try simp only [Act.put, List.setIfInBounds_toArray, List.set_cons_zero, List.set_cons_succ]
                  refine wpAnyH_done (by kernel_rfl) ?_ _
                  go_wp2_with fail
                  refine wp_region_held_drew (S := Exq qs wi.drew) (by kernel_rfl) (KS1d.out) (fun hHeld => ?_)
                  refine wpAnyH_take (i := 0) (oi := ⟨some 88, .move (.tmp 9), 24, "ideal.go:85", #[], none⟩) (v := ?_) rfl (by kernel_rfl) (by kernel_rfl) (by kernel_rfl) (fun _ _ _ h => h) (Or.inl ⟨by rfl, ?hyr3x0q1⟩) (by assumption) ?restr3x0q1
                  case hyr3x0q1 => intro wq hSw; (go_simp); (try with_reducible rfl)
                  try simp only [Act.put, List.setIfInBounds_toArray, List.set_cons_zero, List.set_cons_succ]
                  refine wpAnyH_take (i := 1) (oi := ⟨some 89, .move (.tmp 8), 116, "ideal.go:85", #[], none⟩) (v := ?_) rfl (by kernel_rfl) (by kernel_rfl) (by kernel_rfl) (fun _ _ _ h => h) (Or.inl ⟨by rfl, ?hyr3x1q4⟩) (by assumption) ?restr3x1q4
                  case hyr3x1q4 => intro wq hSw; (go_simp); (try with_reducible rfl)
                  try simp only [Act.put, List.setIfInBounds_toArray, List.set_cons_zero, List.set_cons_succ]
                  refine wpAnyH_take (i := 2) (oi := ⟨some 90, .move (.tmp 14), 22, "ideal.go:85", #[], none⟩) (v := ?_) rfl (by kernel_rfl) (by kernel_rfl) (by kernel_rfl) (fun _ _ _ h => h) (Or.inl ⟨by rfl, ?hyr3x2q7⟩) (by assumption) ?restr3x2q7
                  case hyr3x2q7 => intro wq hSw; (go_simp); (try with_reducible rfl)
                  try simp only [Act.put, List.setIfInBounds_toArray, List.set_cons_zero, List.set_cons_succ]
                  refine wpAnyH_take (i := 3) (oi := ⟨some 91, .move (.tmp 15), 3, "ideal.go:85", #[], none⟩) (v := ?_) rfl (by kernel_rfl) (by kernel_rfl) (by kernel_rfl) (fun _ _ _ h => h) (Or.inl ⟨by rfl, ?hyr3x3q10⟩) (by assumption) ?restr3x3q10
                  case hyr3x3q10 => intro wq hSw; (go_simp); (try with_reducible rfl)
                  try simp only [Act.put, List.setIfInBounds_toArray, List.set_cons_zero, List.set_cons_succ]
                  refine wpAnyH_take (i := 4) (oi := ⟨some 92, .binOp .sub 3 (.tmp 91) (.const (.int .i64 1)) 3, 3, "ideal.go:85", #[⟨3, .data⟩], none⟩) (v := ?_) rfl (by kernel_rfl) (by kernel_rfl) (by kernel_rfl) (fun _ _ _ h => h) (Or.inl ⟨by rfl, ?hyr3x4q13⟩) (by assumption) ?restr3x4q13
                  case hyr3x4q13 => intro wq hSw; (go_simp); (try with_reducible rfl)
                  try simp only [Act.put, List.setIfInBounds_toArray, List.set_cons_zero, List.set_cons_succ]
                  refine wpAnyH_take (i := 5) (oi := ⟨some 93, .indexAddr 22 (.tmp 90) (.tmp 92), 0, "ideal.go:85", #[⟨2, .data⟩, ⟨4, .data⟩], none⟩) (v := ?_) rfl (by kernel_rfl) (by kernel_rfl) (by kernel_rfl) (fun _ _ _ h => h) (Or.inl ⟨by rfl, ?hyr3x5q16⟩) (by assumption) ?restr3x5q16
                  case hyr3x5q16 => intro wq hSw; (go_simp); (try with_reducible rfl)
                  try simp only [Act.put, List.setIfInBounds_toArray, List.set_cons_zero, List.set_cons_succ]
                  refine wpAnyH_take (i := 6) (oi := ⟨some 94, .load 3 (.tmp 93), 3, "ideal.go:85", #[⟨5, .data⟩], none⟩) (v := ?_) rfl (by kernel_rfl) (by kernel_rfl) (by kernel_rfl) (fun _ _ _ h => h) (Or.inl ⟨by rfl, ?hyr3x6q19⟩) (by assumption) ?restr3x6q19
                  case hyr3x6q19 => intro wq hSw; (have cq := Chg.cellv hSw HE0.out NX.out; go_simp); (try with_reducible rfl)
                  try simp only [Act.put, List.setIfInBounds_toArray, List.set_cons_zero, List.set_cons_succ]
                  refine wpAnyH_take (i := 7) (oi := ⟨some 95, .lookup 116 (.tmp 89) (.tmp 94) false, 3, "ideal.go:85", #[⟨1, .data⟩, ⟨6, .data⟩], none⟩) (v := ?_) rfl (by kernel_rfl) (by kernel_rfl) (by kernel_rfl) (fun _ _ _ h => h) (Or.inl ⟨by rfl, ?hyr3x7q22⟩) (by assumption) ?restr3x7q22
                  case hyr3x7q22 => intro wq hSw; (have cq := LK0.out _ hSw; go_simp); (try with_reducible rfl)
                  try simp only [Act.put, List.setIfInBounds_toArray, List.set_cons_zero, List.set_cons_succ]
                  refine wpAnyH_take (i := 8) (oi := ⟨some 96, .indexAddr 24 (.tmp 88) (.tmp 95), 0, "ideal.go:85", #[⟨0, .data⟩, ⟨7, .data⟩], none⟩) (v := ?_) rfl (by kernel_rfl) (by kernel_rfl) (by kernel_rfl) (fun _ _ _ h => h) (Or.inl ⟨by rfl, ?hyr3x8q25⟩) (by assumption) ?restr3x8q25
                  case hyr3x8q25 => intro wq hSw; (go_simp); (try with_reducible rfl)
                  try simp only [Act.put, List.setIfInBounds_toArray, List.set_cons_zero, List.set_cons_succ]
                  refine wpAnyH_take (i := 9) (oi := ⟨some 97, .fieldAddr 90 (.tmp 96) 1, 0, "ideal.go:85", #[⟨8, .data⟩], none⟩) (v := ?_) rfl (by kernel_rfl) (by kernel_rfl) (by kernel_rfl) (fun _ _ _ h => h) (Or.inl ⟨by rfl, ?hyr3x9q28⟩) (by assumption) ?restr3x9q28
                  case hyr3x9q28 => intro wq hSw; (go_simp); (try with_reducible rfl)
                  try simp only [Act.put, List.setIfInBounds_toArray, List.set_cons_zero, List.set_cons_succ]
                  refine wpAnyH_take (i := 10) (oi := ⟨some 98, .load 88 (.tmp 97), 88, "ideal.go:85", #[⟨9, .data⟩], none⟩) (v := ?_) rfl (by kernel_rfl) (by kernel_rfl) (by kernel_rfl) (fun _ _ _ h => h) (Or.inl ⟨by rfl, ?hyr3x10q31⟩) (by assumption) ?restr3x10q31
                  case hyr3x10q31 => intro wq hSw; (have cq := Chg.cellv hSw HC0.out NG.out; go_simp); (try with_reducible rfl)
                  try simp only [Act.put, List.setIfInBounds_toArray, List.set_cons_zero, List.set_cons_succ]
                  refine wpAnyH_take (i := 11) (oi := ⟨some 99, .move (.tmp 12), 3, "ideal.go:85", #[], none⟩) (v := ?_) rfl (by kernel_rfl) (by kernel_rfl) (by kernel_rfl) (fun _ _ _ h => h) (Or.inl ⟨by rfl, ?hyr3x11q34⟩) (by assumption) ?restr3x11q34
                  case hyr3x11q34 => intro wq hSw; (go_simp); (try with_reducible rfl)
                  try simp only [Act.put, List.setIfInBounds_toArray, List.set_cons_zero, List.set_cons_succ]
                  refine wpAnyH_take (i := 12) (oi := ⟨some 100, .move (.tmp 14), 22, "ideal.go:85", #[], none⟩) (v := ?_) rfl (by kernel_rfl) (by kernel_rfl) (by kernel_rfl) (fun _ _ _ h => h) (Or.inl ⟨by rfl, ?hyr3x12q37⟩) (by assumption) ?restr3x12q37
                  case hyr3x12q37 => intro wq hSw; (go_simp); (try with_reducible rfl)
                  try simp only [Act.put, List.setIfInBounds_toArray, List.set_cons_zero, List.set_cons_succ]
                  refine wpAnyH_take (i := 13) (oi := ⟨some 101, .move (.tmp 15), 3, "ideal.go:85", #[], none⟩) (v := ?_) rfl (by kernel_rfl) (by kernel_rfl) (by kernel_rfl) (fun _ _ _ h => h) (Or.inl ⟨by rfl, ?hyr3x13q40⟩) (by assumption) ?restr3x13q40
                  case hyr3x13q40 => intro wq hSw; (go_simp); (try with_reducible rfl)
                  try simp only [Act.put, List.setIfInBounds_toArray, List.set_cons_zero, List.set_cons_succ]
                  refine wpAnyH_take (i := 14) (oi := ⟨some 102, .indexAddr 22 (.tmp 100) (.tmp 101), 0, "ideal.go:85", #[⟨12, .data⟩, ⟨13, .data⟩], none⟩) (v := ?_) rfl (by kernel_rfl) (by kernel_rfl) (by kernel_rfl) (fun _ _ _ h => h) (Or.inl ⟨by rfl, ?hyr3x14q43⟩) (by assumption) ?restr3x14q43
                  case hyr3x14q43 => intro wq hSw; (go_simp); (try with_reducible rfl)
                  try simp only [Act.put, List.setIfInBounds_toArray, List.set_cons_zero, List.set_cons_succ]
                  refine wpAnyH_take (i := 15) (oi := ⟨some 103, .load 3 (.tmp 102), 3, "ideal.go:85", #[⟨14, .data⟩], none⟩) (v := ?_) rfl (by kernel_rfl) (by kernel_rfl) (by kernel_rfl) (fun _ _ _ h => h) (Or.inl ⟨by rfl, ?hyr3x15q46⟩) (by assumption) ?restr3x15q46
                  case hyr3x15q46 => intro wq hSw; (have cq := Chg.cellv hSw HE1.out NX.out; go_simp); (try with_reducible rfl)
                  try simp only [Act.put, List.setIfInBounds_toArray, List.set_cons_zero, List.set_cons_succ]
                  refine wpAnyH_take (i := 16) (oi := ⟨some 104, .indexAddr 88 (.tmp 98) (.tmp 99), 0, "ideal.go:85", #[⟨10, .data⟩, ⟨11, .data⟩, ⟨0, .phase⟩, ⟨1, .phase⟩, ⟨2, .phase⟩, ⟨3, .phase⟩, ⟨4, .phase⟩, ⟨5, .phase⟩, ⟨6, .phase⟩, ⟨7, .phase⟩, ⟨8, .phase⟩, ⟨9, .phase⟩, ⟨10, .phase⟩, ⟨11, .phase⟩, ⟨12, .phase⟩, ⟨13, .phase⟩, ⟨14, .phase⟩, ⟨15, .phase⟩], none⟩) (v := ?_) rfl (by kernel_rfl) (by kernel_rfl) (by kernel_rfl) (fun _ _ _ h => h) (Or.inl ⟨by rfl, ?hyr3x16q49⟩) (by assumption) ?restr3x16q49
                  case hyr3x16q49 => intro wq hSw; (go_simp); (try with_reducible rfl)
                  try simp only [Act.put, List.setIfInBounds_toArray, List.set_cons_zero, List.set_cons_succ]
                  refine wpAnyH_take (i := 17) (oi := ⟨some 105, .fieldAddr 74 (.tmp 104) 1, 0, "ideal.go:85", #[⟨16, .data⟩, ⟨0, .phase⟩, ⟨1, .phase⟩, ⟨2, .phase⟩, ⟨3, .phase⟩, ⟨4, .phase⟩, ⟨5, .phase⟩, ⟨6, .phase⟩, ⟨7, .phase⟩, ⟨8, .phase⟩, ⟨9, .phase⟩, ⟨10, .phase⟩, ⟨11, .phase⟩, ⟨12, .phase⟩, ⟨13, .phase⟩, ⟨14, .phase⟩, ⟨15, .phase⟩], none⟩) (v := ?_) rfl (by kernel_rfl) (by kernel_rfl) (by kernel_rfl) (fun _ _ _ h => h) (Or.inl ⟨by rfl, ?hyr3x17q52⟩) (by assumption) ?restr3x17q52
                  case hyr3x17q52 => intro wq hSw; (go_simp); (try with_reducible rfl)
                  try simp only [Act.put, List.setIfInBounds_toArray, List.set_cons_zero, List.set_cons_succ]
                  refine wpAnyH_ready (rs := [18]) (by kernel_rfl) (by simp) ?_
                  refine AllReadyH.cons (o := ⟨none, .store 3 (.tmp 105) (.tmp 103), 0, "ideal.go:85", #[⟨17, .data⟩, ⟨15, .data⟩, ⟨0, .phase⟩, ⟨1, .phase⟩, ⟨2, .phase⟩, ⟨3, .phase⟩, ⟨4, .phase⟩, ⟨5, .phase⟩, ⟨6, .phase⟩, ⟨7, .phase⟩, ⟨8, .phase⟩, ⟨9, .phase⟩, ⟨10, .phase⟩, ⟨11, .phase⟩, ⟨12, .phase⟩, ⟨13, .phase⟩, ⟨14, .phase⟩, ⟨15, .phase⟩], none⟩) rfl (fun K hK => ?_) AllReadyH.nil
                  have st := ST0.out
                  go_simp
                  refine hK.out _ _ (Exq.set (p := ⟨g0, j * 2 + 1, none⟩) KS1d.out _ IN0.out) (fun hHeld => ?_)
                  clear hK K
                  try simp only [Act.put, List.setIfInBounds_toArray, List.set_cons_zero, List.set_cons_succ]
                  refine wpAnyH_done (by kernel_rfl) ?_ _
                  go_wp2_with fail
                  exact ⟨⟨r + 1, by omega, by go_num, by rw [PP.out]; exact OQ0.out, K4D.out.nxq (Exq.set (p := ⟨g0, j * 2 + 1, none⟩) KS1d.out _ IN0.out)⟩, by simp [intOf]; omega⟩
                · obtain ⟨FF, hFF⟩ : ∃ FF, FF = procI cc j F r := ⟨_, rfl⟩
                  have hre : r = cc.length - 1 := by omega
                  rw [← hFF] at OQ
                  rw [hre] at hFF
                  rw [← hFF] at PS
                  have dlt : ¬ ((r : Int) + 1 < (cc.length : Int)) := by omega
                  have OQ := Lib.hid OQ
                  have k34 := K3.out.nxq k4
                  clear hFF hre hrm k4
                  go_wp2_with fail
                  exact ⟨⟨q + 1, by omega, by go_num, by rw [PS.out]; exact OQ.out, k34⟩, by simp [intOf]; omega⟩
            · obtain rfl : q = M.length := by omega
              rw [List.take_length, ← HPB.out] at OQ
              have OQ := Lib.hid OQ
              have kj := KQ.out.nxq ((Exq.of_ex K5.out).nxq k3)
              clear hqm hq k3
              go_wp2_with fail
              exact ⟨⟨j + 1, by omega, by go_num, OQ.out, kj⟩, by simp [intOf]; omega⟩
        · obtain rfl : j = M1 := by omega
          rw [← HLL.out] at OQ
          have OQ := Lib.hid (OwnN.base OQ (show w.heap.size ≤ w1.heap.size by omega))
          have KE : Ex w wj := Chg.trans K1.out (Chg.mono (KT.out _ kq) (fun x hx => ⟨Nat.lt_of_lt_of_le hx K1.out.size, by have : x < w.heap.size := hx; omega⟩))
          have dlt : ¬ ((j : Int) < (m : Int) + 1) := by have := HM1.out; omega
          clear hjm hj kq
          go_wp2_with fail
          go_ret2
          exact ⟨_, qs, rfl, OQ.out, KE⟩
end Go.Proofs.YtkjlhcfocefhpaaDoor

/- What Build of the package ideal lays is what the reference says. -/
namespace Go.Proofs.YtkjlhcfocefhpaaDoor
open Go.RowKit

theorem fil_fold {h : Int} (hh : h ≤ 16) (l : List Nd) (hl : ∀ y ∈ l, y.word < 4294967296) : ∀ c ∈ foldC h l, c = l.filter fun y => sameN (headW c) y.word h := by
  induction l using snoc_ind with
  | h0 => intro c hc; simp [foldC] at hc
  | h1 l x ih =>
    have hl' : ∀ y ∈ l, y.word < 4294967296 := fun y hy => hl y (List.mem_append_left _ hy)
    have hx : x.word < 4294967296 := hl x (by simp)
    have ih := ih hl'
    have H := (foldC_cnt hh l hl').1
    rw [foldC_append]
    generalize foldC h l = C at H ih
    have hw : ∀ c ∈ C, headW c < 4294967296 := fun c hc => by
      obtain ⟨y, hy, he⟩ := headW_mem (H.mem c hc).1
      rw [he]; exact hl' y ((H.mem c hc).2 y hy).1
    rcases stepC_cases h C x with ⟨hno, he⟩ | ⟨K, c, hc, hs, he⟩
    · rw [he]
      intro d hd
      rw [List.filter_append]
      rcases List.mem_append.1 hd with hd | hd
      · have h1 := hno d hd
        rw [← ih d hd]
        simp [h1]
      · obtain rfl := List.mem_singleton.1 hd
        have h1 : l.filter (fun y => sameN (headW [x]) y.word h) = [] := by
          rw [List.filter_eq_nil_iff]
          intro y hy hxy
          obtain ⟨c, hc, hyc⟩ := H.all y hy
          have := sameN_trans (hw c hc) (hl' y hy) hx ((H.mem c hc).2 y hyc).2 (sameN_symm hxy)
          rw [hno c hc] at this
          cases this
        rw [h1]
        have : sameN (headW [x]) x.word h = true := sameN_refl _ hh
        simp [this]
    · rw [he]
      intro d hd
      rw [List.filter_append]
      obtain ⟨i, hi⟩ := List.mem_iff_getElem?.1 hd
      have hcm := List.mem_of_getElem? hc
      by_cases hik : i = K
      · subst hik
        rw [List.getElem?_set_self (List.getElem?_eq_some_iff.1 hc).1] at hi
        cases hi
        rw [headW_snoc x (H.mem c hcm).1, ← ih c hcm]
        simp [hs]
      · rw [List.getElem?_set_ne (by omega)] at hi
        have hdm := List.mem_of_getElem? hi
        have h1 : sameN (headW d) x.word h = false := by
          cases hsd : sameN (headW d) x.word h with
          | false => rfl
          | true => exact absurd (H.heads i K d c hi hc (sameN_trans (hw d hdm) hx (hw c hcm) hsd (sameN_symm hs))) hik
        rw [← ih d hdm]
        simp [h1]
theorem sort_check {l : List Nd} (h : checkN l = 0) : checkN (sortN l) = 0 := by
  have hp := sortN_perm l
  unfold checkN at h ⊢
  split at h
  · omega
  rename_i hlen
  split at h
  · omega
  rename_i hbad
  split at h
  · omega
  rename_i hdup
  have h0 : checkN l = 0 := by unfold checkN; rw [if_neg hlen, if_neg hbad, if_neg hdup]
  rw [if_neg (by rw [hp.length_eq]; exact hlen), if_neg (by
    intro hb
    obtain ⟨x, hx, hxb⟩ := List.any_eq_true.1 hb
    exact hbad (List.any_eq_true.2 ⟨x, hp.mem_iff.1 hx, hxb⟩)), if_neg]
  intro hd
  obtain ⟨i, k, x, y, hki, hx, hy, he⟩ := (dupN_iff _).1 hd
  have := asc_at (sortN_str h0) hy hx hki
  unfold eqN at he
  rcases Bool.or_eq_true_iff.1 he with h1 | h1
  · exact this.2 (by simpa using (beq_iff_eq.1 h1).symm)
  · rw [beq_iff_eq.1 h1, bytesLess_irrefl] at this
    cases this.1
theorem sort_sort {l : List Nd} (h : checkN l = 0) : sortN (sortN l) = sortN l :=
  sortN_unique (check_keys h) ((sortN_perm _).trans (sortN_perm l)) (sortN_asc _)
theorem find_in {S : List Nd} (h : checkN S = 0) {x : Nd} (hx : x ∈ S) : findN S x.id = (x, true) := by
  have h2 : (findN S x.id).2 = true := by
    unfold findN
    cases e : S.find? (fun y => y.id == x.id) with
    | none => have := List.find?_eq_none.1 e x hx; simp at this
    | some y => rfl
  obtain ⟨h3, h4⟩ := findN_mem h2
  have h5 := ids_eq (check_keys h) h3 hx h4
  exact Prod.ext h5 h2
theorem procB_high (S : List Nd) (x : Int) (j : Nat) : ∀ k, k ≤ j → procB S k x j = (0, 0)
  | 0, _ => rfl
  | k + 1, hk => by
    show procL k (listsN S (k : Nat)) (procB S k) x j = _
    rw [procL_level _ _ _ _ _ (by omega)]
    exact procB_high S x j k (by omega)
theorem procB_low (S : List Nd) (x : Int) (j : Nat) : ∀ d, procB S (j + 1 + d) x j = procB S (j + 1) x j
  | 0 => rfl
  | d + 1 => by
    show procL (j + 1 + d) _ (procB S (j + 1 + d)) x j = _
    rw [procL_level _ _ _ _ _ (by omega)]
    exact procB_low S x j d
theorem atI_ids {c : List Nd} {q : Nat} (_ : q < c.length) : atI (idsN c) q = (c[q]?.getD Nd.zero).id := by
  unfold atI idsN
  rw [List.getElem?_map]
  cases h : c[q]? with
  | none => exact absurd (List.getElem?_eq_none_iff.1 h) (by omega)
  | some y => rfl
theorem build_at {l : List Nd} (h0 : checkN l = 0) (hw : ∀ x ∈ l, x.word < 4294967296) {x : Nd} (hx : x ∈ sortN l) {j : Nat} (hj : j ≤ 16) : procB (sortN l) (j + 1) x.id j = (neighN (sortN l) x.id (j : Nat)).1 := by
  obtain ⟨S, hS⟩ : ∃ S, S = sortN l := ⟨_, rfl⟩
  have hc := sort_check h0
  have hss := sort_sort h0
  have hA := sortN_str h0
  have hws : ∀ y ∈ S, y.word < 4294967296 := fun y hy => hw y ((sortN_mem l y).1 (hS ▸ hy))
  rw [← hS] at hx hc hss hA ⊢
  have hlv : lvlN (j : Int) = true := by unfold lvlN; simp; omega
  have hf := find_in hc hx
  have hL : listsN S (j : Int) = (foldC (j : Int) S).map idsN := by
    unfold listsN
    rw [if_pos ⟨by rw [hc]; rfl, hlv⟩, hss, classesN_fold (by omega)]
  obtain ⟨i, hi, _, hn⟩ := neighN_yes (l := S) (id := x.id) (h := (j : Int)) hc (by rw [hf]) hlv
  have HC := (foldC_cnt (show (j : Int) ≤ 16 by omega) S hws).1
  have HF := fil_fold (show (j : Int) ≤ 16 by omega) S hws
  have hth : thrG S x.id (j : Int) = groupN S (j : Int) x.word := by unfold thrG; rw [hss, hf]
  rw [hth] at hi hn
  rw [hf] at hi
  obtain ⟨c, hcm, hxc⟩ := HC.all x hx
  have hgc : groupN S (j : Int) x.word = c := by
    have hsx := ((HC.mem c hcm).2 x hxc).2
    obtain ⟨y0, hy0, he0⟩ := headW_mem (HC.mem c hcm).1
    have hwc : headW c < 4294967296 := by rw [he0]; exact hws y0 ((HC.mem c hcm).2 y0 hy0).1
    conv => rhs; rw [HF c hcm]
    unfold groupN
    apply List.filter_congr
    intro y hy
    rw [Bool.eq_iff_iff]
    exact ⟨fun h => sameN_trans hwc (hws x hx) (hws y hy) hsx (sameN_symm h), fun h => sameN_trans (hws y hy) hwc (hws x hx) (sameN_symm h) hsx⟩
  rw [hgc] at hi hn
  have hAc : AscS c := by rw [HF c hcm]; exact List.Pairwise.filter _ hA
  have hil := (List.getElem?_eq_some_iff.1 hi).1
  show procL j (listsN S (j : Nat)) (procB S j) x.id j = _
  have hxi : x.id = atI (idsN c) i := by rw [atI_ids hil, hi]; rfl
  rw [hL, hn, hxi]
  rw [procL_at j _ _ ?_ ?_ (idsN c) (List.mem_map.2 ⟨c, hcm, rfl⟩) i (by unfold idsN; simpa using hil) (procB_high S _ j j (Nat.le_refl _))]
  · have hlen : (idsN c).length = c.length := by unfold idsN; simp
    show _ = (leftN c i, rightN c i)
    congr 1
    · unfold leftN
      by_cases h1 : i = 0
      · rw [if_neg (by omega), if_pos h1]
      · rw [if_pos (by omega), if_neg h1, atI_ids (by omega)]
    · unfold rightN
      rw [hlen]
      by_cases h1 : i + 1 < c.length
      · rw [if_pos h1, atI_ids h1]
      · rw [if_neg h1, List.getElem?_eq_none (by omega)]; rfl
  · rw [List.pairwise_map, List.pairwise_iff_getElem]
    intro p q hp hq hpq z hz1 hz2
    obtain ⟨y1, hy1, e1⟩ := List.mem_map.1 hz1
    obtain ⟨y2, hy2, e2⟩ := List.mem_map.1 hz2
    have m1 := (HC.mem _ (List.getElem_mem hp)).2 y1 hy1
    have m2 := (HC.mem _ (List.getElem_mem hq)).2 y2 hy2
    have e : y1 = y2 := ids_eq (check_keys hc) m1.1 m2.1 (e1.trans e2.symm)
    subst e
    have hwc : ∀ d ∈ foldC (j : Int) S, headW d < 4294967296 := fun d hd => by
      obtain ⟨y0, hy0, he0⟩ := headW_mem (HC.mem d hd).1
      rw [he0]; exact hws y0 ((HC.mem d hd).2 y0 hy0).1
    have := HC.heads p q _ _ (List.getElem?_eq_getElem hp) (List.getElem?_eq_getElem hq) (sameN_trans (hwc _ (List.getElem_mem hp)) (hws y1 m1.1) (hwc _ (List.getElem_mem hq)) m1.2 (sameN_symm m2.2))
    omega
  · intro d hd
    obtain ⟨c', hc', rfl⟩ := List.mem_map.1 hd
    have hA' : AscS c' := by rw [HF c' hc']; exact List.Pairwise.filter _ hA
    unfold idsN List.Nodup
    rw [List.pairwise_map]
    exact hA'.imp (fun h => h.2)
theorem build_rows {l : List Nd} (h0 : checkN l = 0) (hw : ∀ x ∈ l, x.word < 4294967296) {m : Nat} (hm : m ≤ 16) : rowsF (sortN l) (m + 1) (procB (sortN l) (m + 1)) = (sortN l).map (rowN (sortN l) (m + 1)) := by
  unfold rowsF rowN
  apply List.map_congr_left
  intro x hx
  congr 1
  apply List.map_congr_left
  intro j hj
  have hj := List.mem_range.1 hj
  have := procB_low (sortN l) x.id j (m - j)
  rw [show j + 1 + (m - j) = m + 1 by omega] at this
  rw [this, build_at h0 hw hx (by omega)]
theorem build_p (a : Option Addr) (n c : Nat) (l : List Nd) (h : Int) (w : World) (hs : Sl 3 encN w a n l) (hn : n ≤ 1000) (hc : n ≤ c) (hm : c ≤ maxLen) (hw : ∀ x ∈ l, x.word < 4294967296) (hT : TabG w) :
    Calls Tryd.prog 36 #[.slice a n c, .int .i64 h] w (LkPost (buildN l h).1 (buildN l h).2 w) := by
  refine build_q a n c l h w hs hn hc hm hw hT _ _ (fun h0 => ?_) (fun h0 h1 => ?_) (fun h0 m he hm => ?_)
  · unfold buildN
    rw [if_pos (by rw [beq_eq_false_iff_ne]; exact h0)]
    exact ⟨rfl, rfl⟩
  · unfold buildN
    rw [if_neg (by rw [h0]; simp), if_pos h1]
    exact ⟨rfl, rfl⟩
  · subst he
    unfold buildN
    rw [if_neg (by rw [h0]; simp), if_neg (by unfold lvlN; simp; omega)]
    rw [build_rows h0 hw hm]
    exact ⟨rfl, rfl⟩
end Go.Proofs.YtkjlhcfocefhpaaDoor

/- What the statements on the unique skip graph say, in plain Lean. -/
namespace Go.Proofs.YtkjlhcfocefhpaaDoor
open Go.RowKit

theorem check_perm {l l' : List Nd} (hp : l'.Perm l) (h : checkN l = 0) : checkN l' = 0 := by
  have hk := check_keys h
  unfold checkN at h ⊢
  split at h
  · omega
  rename_i hlen
  split at h
  · omega
  rename_i hbad
  rw [if_neg (by rw [hp.length_eq]; exact hlen), if_neg (by
    intro hb
    obtain ⟨x, hx, hxb⟩ := List.any_eq_true.1 hb
    exact hbad (List.any_eq_true.2 ⟨x, hp.mem_iff.1 hx, hxb⟩)), if_neg]
  intro hd
  obtain ⟨i, k, x, y, hki, hx, hy, he⟩ := (dupN_iff _).1 hd
  have h2 : l'.Pairwise fun x y => x.key.toList ≠ y.key.toList ∧ x.id ≠ y.id :=
    (hp.symm.pairwise_iff (fun {x y} hxy => ⟨fun he => hxy.1 he.symm, fun he => hxy.2 he.symm⟩)).1 (keys_pw hk)
  obtain ⟨hi, e1⟩ := List.getElem?_eq_some_iff.1 hx
  obtain ⟨hk, e2⟩ := List.getElem?_eq_some_iff.1 hy
  have := List.pairwise_iff_getElem.1 h2 k i hk hi hki
  rw [e1, e2] at this
  unfold eqN at he
  rcases Bool.or_eq_true_iff.1 he with h1 | h1
  · exact this.2 (by simpa using (beq_iff_eq.1 h1).symm)
  · exact this.1 (beq_iff_eq.1 h1).symm
theorem sort_perm {l l' : List Nd} (hp : l'.Perm l) (h : checkN l = 0) : sortN l' = sortN l :=
  sortN_unique (check_keys h) ((sortN_perm l').trans hp) (sortN_asc l')
theorem build_perm {l l' : List Nd} (hp : l'.Perm l) (h : checkN l = 0) (m : Int) : buildN l' m = buildN l m := by
  unfold buildN
  rw [sort_perm hp h, check_perm hp h, h]
theorem check_id {l : List Nd} (h : checkN l = 0) {x : Nd} (hx : x ∈ l) : 1 ≤ x.id := by
  unfold checkN at h
  split at h
  · omega
  · split at h
    · omega
    · rename_i hb
      have hb : badN x = false := by
        cases hy2 : badN x with
        | false => rfl
        | true => exact absurd (List.any_eq_true.2 ⟨x, hx, hy2⟩) hb
      unfold badN at hb
      simp only [Bool.or_eq_false_iff, decide_eq_false_iff_not] at hb
      omega
def lastI (A : List Nd) : Int := (A.getLast?.getD Nd.zero).id
def headI (B : List Nd) : Int := (B.head?.getD Nd.zero).id
/-- the nodes that agree with a word -/
def grpS (l : List Nd) (h : Int) (v : Nat) : List Nd := groupN (sortN l) h v
theorem grp_eq {l : List Nd} {h : Int} {u v : Nat} (hw : ∀ x ∈ l, x.word < 4294967296) (hu : u < 4294967296) (hv : v < 4294967296) (hs : sameN u v h = true) : grpS l h u = grpS l h v := by
  unfold grpS groupN
  apply List.filter_congr
  intro y hy
  have hy := hw y ((sortN_mem l y).1 hy)
  rw [Bool.eq_iff_iff]
  exact ⟨fun h => sameN_trans hy hu hv h hs, fun h => sameN_trans hy hv hu h (sameN_symm hs)⟩
theorem grp_mem {l : List Nd} {h : Int} {v : Nat} {y : Nd} : y ∈ grpS l h v ↔ y ∈ l ∧ sameN y.word v h = true := by
  unfold grpS groupN
  rw [List.mem_filter, sortN_mem]
theorem neigh_split {l : List Nd} (h0 : checkN l = 0) {x : Nd} (hx : x ∈ l) {h : Int} (hl : lvlN h = true) {A B : List Nd} (e : grpS l h x.word = A ++ x :: B) : neighN l x.id h = ((lastI A, headI B), true) := by
  have hf := find_in h0 hx
  obtain ⟨i, hi, _, hn⟩ := neighN_yes (l := l) (id := x.id) (h := h) h0 (by rw [hf]) hl
  have hG : thrG l x.id h = A ++ x :: B := by unfold thrG; rw [hf]; exact e
  have hA : AscS (thrG l x.id h) := asc_group (sortN_str h0) h _
  rw [hf] at hi
  rw [hG] at hi hn hA
  have h1 := idxI_at hA hi
  have h2 := idxI_at hA (i := A.length) (x := x) (by simp)
  have hi : i = A.length := by simp only at h1; omega
  subst hi
  rw [hn]
  congr 2
  · unfold leftN lastI
    by_cases ha : A.length = 0
    · rw [if_pos ha, List.length_eq_zero_iff.1 ha]; rfl
    · rw [if_neg ha, List.getElem?_append_left (by omega), List.getLast?_eq_getElem?]
  · unfold rightN headI
    rw [List.getElem?_append_right (by omega), show A.length + 1 - A.length = 1 by omega, List.getElem?_cons_succ, List.head?_eq_getElem?]
theorem grp_at {l : List Nd} {x : Nd} (hx : x ∈ l) {h : Int} (hl : lvlN h = true) : ∃ A B, grpS l h x.word = A ++ x :: B := by
  have : x ∈ grpS l h x.word := grp_mem.2 ⟨hx, sameN_refl _ (by unfold lvlN at hl; simp at hl; exact hl.2)⟩
  exact List.append_of_mem this
theorem grp_asc {l : List Nd} (h0 : checkN l = 0) (h : Int) (v : Nat) : AscS (grpS l h v) := asc_group (sortN_str h0) h v
theorem find_zero {l : List Nd} (h0 : checkN l = 0) : findN l 0 = (Nd.zero, false) :=
  findN_none fun j z _ hz => by have := check_id h0 (List.mem_of_getElem? hz); omega
/-- what IdealMutual says of a node -/
theorem mut_law {l : List Nd} (h0 : checkN l = 0) (hw : ∀ x ∈ l, x.word < 4294967296) {h : Int} (hl : lvlN h = true) {x : Nd} (hx : x ∈ l) :
    (neighN l x.id h).2 = true ∧ ((findN l (neighN l x.id h).1.2).2 = false → (neighN l x.id h).1.2 = 0) ∧
    (∀ z ∈ l, Op.bytesLess x.key.toList z.key.toList = true → sameN z.word x.word h = true → (findN l (neighN l x.id h).1.2).2 = true ∧ Op.bytesLess z.key.toList (findN l (neighN l x.id h).1.2).1.key.toList = false) ∧
    ((findN l (neighN l x.id h).1.2).2 = true → (neighN l (findN l (neighN l x.id h).1.2).1.id h).2 = true ∧ (neighN l (findN l (neighN l x.id h).1.2).1.id h).1.1 = x.id ∧
      Op.bytesLess x.key.toList (findN l (neighN l x.id h).1.2).1.key.toList = true ∧ sameN (findN l (neighN l x.id h).1.2).1.word x.word h = true) := by
  obtain ⟨A, B, e⟩ := grp_at hx hl
  have hn := neigh_split h0 hx hl e
  have ha := grp_asc h0 h x.word
  rw [hn]
  rw [e] at ha
  have hz : ∀ z ∈ l, Op.bytesLess x.key.toList z.key.toList = true → sameN z.word x.word h = true → z ∈ B := fun z hz hb hs => by
    have := grp_mem.2 ⟨hz, hs⟩
    rw [e] at this
    rcases List.mem_append.1 this with h1 | h1
    · have := (List.pairwise_append.1 ha).2.2 z h1 x (by simp)
      rw [bl_asymm this.1] at hb
      cases hb
    · rcases List.mem_cons.1 h1 with h1 | h1
      · subst h1; rw [bytesLess_irrefl] at hb; cases hb
      · exact h1
  cases B with
  | nil =>
    have hf := find_zero h0
    show true = true ∧ ((findN l 0).2 = false → (0 : Int) = 0) ∧ (∀ z ∈ l, _ → _ → (findN l 0).2 = true ∧ _) ∧ ((findN l 0).2 = true → _)
    rw [hf]
    exact ⟨rfl, fun _ => rfl, fun z h1 h2 h3 => (by cases hz z h1 h2 h3), fun h => by cases h⟩
  | cons r B =>
    have hr := grp_mem.1 (show r ∈ grpS l h x.word by rw [e]; simp)
    have hf := find_in h0 hr.1
    have e2 : grpS l h r.word = (A ++ [x]) ++ r :: B := by rw [grp_eq hw (hw r hr.1) (hw x hx) hr.2, e]; simp
    have hn2 := neigh_split h0 hr.1 hl e2
    show true = true ∧ ((findN l r.id).2 = false → r.id = 0) ∧ (∀ z ∈ l, _ → _ → (findN l r.id).2 = true ∧ Op.bytesLess z.key.toList (findN l r.id).1.key.toList = false) ∧ ((findN l r.id).2 = true → (neighN l (findN l r.id).1.id h).2 = true ∧ (neighN l (findN l r.id).1.id h).1.1 = x.id ∧ Op.bytesLess x.key.toList (findN l r.id).1.key.toList = true ∧ sameN (findN l r.id).1.word x.word h = true)
    rw [hf]
    dsimp only
    rw [hn2]
    have hxr := (List.pairwise_append.1 ha).2.1
    rw [List.pairwise_cons] at hxr
    refine ⟨by trivial, (by simp), fun z h1 h2 h3 => ⟨by trivial, ?_⟩, fun _ => ⟨by trivial, ?_, (hxr.1 r (by simp)).1, hr.2⟩⟩
    · rcases List.mem_cons.1 (hz z h1 h2 h3) with h4 | h4
      · subst h4; exact bytesLess_irrefl _
      · exact bl_asymm ((List.pairwise_cons.1 hxr.2).1 z h4).1
    · unfold lastI; simp
theorem lists_of {l : List Nd} (h0 : checkN l = 0) {h : Nat} (hh : h ≤ 16) : listsN l (h : Int) = (foldC (h : Int) (sortN l)).map idsN := by
  unfold listsN
  rw [if_pos ⟨by rw [h0]; rfl, by unfold lvlN; simp; omega⟩, classesN_fold (by omega)]
theorem part_ge (m : Nat) (c : List Nd) (hc : 0 < c.length) : 1 ≤ partC m c := by
  unfold partC
  by_cases h : 0 < onesN c m
  · rw [if_pos h]; omega
  · rw [if_neg h, if_pos (by omega)]; omega
theorem parts_le (m : Nat) (C : List (List Nd)) (hc : ∀ c ∈ C, 0 < c.length) : C.length ≤ partsC m C ∧ partsC m C ≤ 2 * C.length := by
  unfold partsC
  induction C with
  | nil => simp
  | cons c C ih =>
    have h1 := ih (fun d hd => hc d (by simp [hd]))
    have h2 := part_ge m c (hc c (by simp))
    have h3 : partC m c ≤ 2 := by unfold partC; split <;> split <;> omega
    simp only [List.map_cons, List.sum_cons, List.length_cons]
    omega
theorem classes_mono {S : List Nd} (hw : ∀ x ∈ S, x.word < 4294967296) (m : Nat) : ∀ d, m + d ≤ 16 → (foldC (m : Int) S).length ≤ (foldC ((m + d : Nat) : Int) S).length
  | 0, _ => Nat.le_refl _
  | d + 1, h => by
    obtain ⟨H1, H2, H3, H4⟩ := split_law (m + d) (by omega) S hw
    have h1 := classes_mono hw m d (by omega)
    have h2 := (parts_le (m + d) _ (fun c hc => (H1.mem c hc).1)).1
    have e : (((m + d : Nat) : Int) + 1) = ((m + (d + 1) : Nat) : Int) := by omega
    rw [e] at H3
    omega
theorem height_spec {l : List Nd} (h0 : checkN l = 0) (hne : l.length ≠ 0) : (heightN l < 16 → ¬ (classesN (sortN l) (heightN l : Nat)).length < l.length) ∧ ∀ j, j < heightN l → (classesN (sortN l) (j : Nat)).length < l.length := by
  unfold heightN
  rw [if_neg (by rw [h0]; simp [hne])]
  cases e : (List.range 16).find? fun h => !decide ((classesN (sortN l) (h : Nat)).length < l.length) with
  | none =>
    refine ⟨fun h => absurd h (by simp), fun j hj => ?_⟩
    have := List.find?_eq_none.1 e j (by simpa using hj)
    simpa using this
  | some k =>
    have h1 := List.find?_some e
    refine ⟨fun _ => by simpa using h1, fun j hj => ?_⟩
    have hj : j < k := hj
    obtain ⟨_, us, vs, e2, h3⟩ := List.find?_eq_some_iff_append.1 e
    have hk : k < 16 := by have : k ∈ List.range 16 := by rw [e2]; simp
                           simpa using this
    have hjm : j ∈ us := by
      have hp : (List.range 16).Pairwise (· < ·) := List.pairwise_lt_range
      have hj2 : j ∈ List.range 16 := by simp; omega
      rw [e2] at hp hj2
      rcases List.mem_append.1 hj2 with h | h
      · exact h
      · have h5 := (List.pairwise_append.1 hp).2.1
        rcases List.mem_cons.1 h with h | h
        · omega
        · have := (List.pairwise_cons.1 h5).1 j h; omega
    simpa using h3 j hjm
/-- what IdealNested says -/
theorem nest_law {l : List Nd} (h0 : checkN l = 0) (hne : l.length ≠ 0) (hw : ∀ x ∈ l, x.word < 4294967296) {h : Nat} (hh : h < 16) :
    (∀ m ∈ listsN l (h : Int), m.Pairwise fun a b => (findN l a).2 = true ∧ (findN l b).2 = true ∧ Op.bytesLess (findN l a).1.key.toList (findN l b).1.key.toList = true) ∧
    ((listsN l (h : Int)).map List.length).sum = l.length ∧ (listsN l (h : Int)).length ≤ (listsN l ((h : Int) + 1)).length ∧ (listsN l ((h : Int) + 1)).length ≤ 2 * (listsN l (h : Int)).length ∧
    (h < heightN l ∨ (listsN l (h : Int)).length = l.length) ∧ (heightN l ≤ h ∨ (listsN l (h : Int)).length < l.length) := by
  have e1 := lists_of h0 (h := h) (by omega)
  have e2 := lists_of h0 (h := h + 1) (by omega)
  rw [show ((h + 1 : Nat) : Int) = (h : Int) + 1 by omega] at e2
  rw [e1, e2]
  have hws := sort_word hw
  obtain ⟨H1, H2, H3, H4⟩ := split_law h hh (sortN l) hws
  have hP := parts_le h _ (fun c hc => (H1.mem c hc).1)
  obtain ⟨HS1, HS2⟩ := height_spec h0 hne
  have hle := classes_le (sortN l) (h : Int)
  rw [classesN_fold (by omega), sortN_length] at hle
  refine ⟨?_, ?_, by simp; omega, by simp; omega, ?_, ?_⟩
  · intro m hm
    obtain ⟨c, hc, rfl⟩ := List.mem_map.1 hm
    have hcf := fil_fold (show (h : Int) ≤ 16 by omega) (sortN l) hws c hc
    have ha : AscS c := by rw [hcf]; exact List.Pairwise.filter _ (sortN_str h0)
    have hcl : ∀ y ∈ c, y ∈ l := fun y hy => (sortN_mem l y).1 ((H1.mem c hc).2 y hy).1
    unfold idsN
    rw [List.pairwise_map]
    refine List.Pairwise.imp_of_mem ?_ ha
    intro a b hma hmb hab
    rw [find_in h0 (hcl a hma), find_in h0 (hcl b hmb)]
    exact ⟨rfl, rfl, hab.1⟩
  · have : ((foldC (h : Int) (sortN l)).map idsN).map List.length = (foldC (h : Int) (sortN l)).map List.length := by
      rw [List.map_map]; apply List.map_congr_left; intro c _; simp [idsN]
    rw [this]
    unfold lensC at H4
    rw [H4, sortN_length]
  · rcases Nat.lt_or_ge h (heightN l) with h1 | h1
    · exact .inl h1
    · right
      have h2 := HS1 (by omega)
      rw [classesN_fold (by omega)] at h2
      have h3 := classes_mono hws (heightN l) (h - heightN l) (by omega)
      rw [show heightN l + (h - heightN l) = h by omega] at h3
      simp
      omega
  · rcases Nat.lt_or_ge h (heightN l) with h1 | h1
    · right
      have := HS2 h h1
      rw [classesN_fold (by omega)] at this
      simpa using this
    · exact .inl h1
/-- a higher build, cut -/
theorem build_cut {l : List Nd} (h0 : checkN l = 0) {h : Nat} (hh : h < 16) : ((buildN l ((h : Int) + 1)).1.map fun c => (c.1, c.2.take (h + 1))) = (buildN l (h : Int)).1 := by
  unfold buildN
  rw [if_neg (by rw [h0]; simp), if_neg (by unfold lvlN; simp; omega), if_neg (by rw [h0]; simp), if_neg (by unfold lvlN; simp; omega)]
  simp only [List.map_map]
  apply List.map_congr_left
  intro x _
  show ((rowN _ _ x).1, (rowN _ _ x).2.take (h + 1)) = rowN _ _ x
  unfold rowN
  simp only [← List.map_take]
  rw [List.take_range]
  have e1 : min (h + 1) (((h : Int) + 1).toNat + 1) = h + 1 := by omega
  have e2 : ((h : Int)).toNat + 1 = h + 1 := by omega
  rw [e1, e2]
theorem build_ok0 {l : List Nd} (h0 : checkN l = 0) {h : Nat} (hh : h ≤ 16) : (buildN l (h : Int)).2 = 0 ∧ (buildN l (h : Int)).1.length = l.length ∧ ∀ c ∈ (buildN l (h : Int)).1, c.2.length = h + 1 := by
  unfold buildN
  rw [if_neg (by rw [h0]; simp), if_neg (by unfold lvlN; simp; omega)]
  refine ⟨rfl, by simp [sortN_length], ?_⟩
  intro c hc
  obtain ⟨x, _, rfl⟩ := List.mem_map.1 hc
  rw [rowN_len]
  omega
/-- what remains without a number -/
def dropN (l : List Nd) (id : Int) : List Nd := l.filter fun y => !(y.id == id)
theorem drop_check {l : List Nd} (h0 : checkN l = 0) (id : Int) : checkN (dropN l id) = 0 := by
  have hk := keys_pw (check_keys h0)
  have hs : (dropN l id).Sublist l := List.filter_sublist
  unfold checkN at h0 ⊢
  split at h0
  · omega
  rename_i hlen
  split at h0
  · omega
  rename_i hbad
  rw [if_neg (by have := hs.length_le; omega), if_neg (by
    intro hb
    obtain ⟨x, hx, hxb⟩ := List.any_eq_true.1 hb
    exact hbad (List.any_eq_true.2 ⟨x, hs.subset hx, hxb⟩)), if_neg]
  intro hd
  obtain ⟨i, k, x, y, hki, hx, hy, he⟩ := (dupN_iff _).1 hd
  have h2 := hk.sublist hs
  obtain ⟨hi, e1⟩ := List.getElem?_eq_some_iff.1 hx
  obtain ⟨hk, e2⟩ := List.getElem?_eq_some_iff.1 hy
  have := List.pairwise_iff_getElem.1 h2 k i hk hi hki
  rw [e1, e2] at this
  unfold eqN at he
  rcases Bool.or_eq_true_iff.1 he with h1 | h1
  · exact this.2 (by simpa using (beq_iff_eq.1 h1).symm)
  · exact this.1 (beq_iff_eq.1 h1).symm
theorem drop_sort {l : List Nd} (h0 : checkN l = 0) (id : Int) : sortN (dropN l id) = dropN (sortN l) id := by
  symm
  apply sortN_unique (check_keys (drop_check h0 id))
  · exact (sortN_perm l).filter _
  · exact List.Pairwise.filter _ (sortN_asc l)
theorem drop_grp {l : List Nd} (h0 : checkN l = 0) (id : Int) (h : Int) (v : Nat) : grpS (dropN l id) h v = dropN (grpS l h v) id := by
  unfold grpS groupN
  rw [drop_sort h0]
  unfold dropN
  rw [List.filter_filter, List.filter_filter]
  apply List.filter_congr
  intro y _
  rw [Bool.and_comm]
theorem drop_none {A : List Nd} {id : Int} (h : ∀ y ∈ A, y.id ≠ id) : dropN A id = A := by
  unfold dropN
  rw [List.filter_eq_self]
  intro y hy
  have := h y hy
  simp [this]
theorem drop_app (A B : List Nd) (id : Int) : dropN (A ++ B) id = dropN A id ++ dropN B id := by unfold dropN; rw [List.filter_append]
theorem drop_yes (y : Nd) (B : List Nd) {id : Int} (h : y.id = id) : dropN (y :: B) id = dropN B id := by unfold dropN; rw [List.filter_cons_of_neg (by simp [h])]
theorem drop_no (y : Nd) (B : List Nd) {id : Int} (h : y.id ≠ id) : dropN (y :: B) id = y :: dropN B id := by unfold dropN; rw [List.filter_cons_of_pos (by simp [h])]
theorem drop_nil (id : Int) : dropN [] id = [] := rfl
/-- what IdealLocal says of a node -/
theorem loc_law {l : List Nd} (h0 : checkN l = 0) (hw : ∀ x ∈ l, x.word < 4294967296) {h : Int} (hl : lvlN h = true) {x y : Nd} (hx : x ∈ l) (hy : y ∈ dropN l x.id) :
    (neighN l y.id h).2 = true ∧ (neighN (dropN l x.id) y.id h).2 = true ∧ (neighN l x.id h).2 = true ∧
    ((neighN l y.id h).1.1 ≠ (neighN (dropN l x.id) y.id h).1.1 → (neighN l y.id h).1.1 = x.id) ∧
    ((neighN l y.id h).1.2 ≠ (neighN (dropN l x.id) y.id h).1.2 → (neighN l y.id h).1.2 = x.id) ∧
    ((neighN l y.id h).1.1 = x.id → (neighN (dropN l x.id) y.id h).1.1 = (neighN l x.id h).1.1) ∧
    ((neighN l y.id h).1.2 = x.id → (neighN (dropN l x.id) y.id h).1.2 = (neighN l x.id h).1.2) := by
  have hyl : y ∈ l := (List.mem_filter.1 hy).1
  have hyx : y.id ≠ x.id := by have := (List.mem_filter.1 hy).2; simpa using this
  have hx1 := check_id h0 hx
  obtain ⟨A, B, e⟩ := grp_at hyl hl
  have ha := grp_asc h0 h y.word
  have hn := neigh_split h0 hyl hl e
  have e2 : grpS (dropN l x.id) h y.word = dropN A x.id ++ y :: dropN B x.id := by
    rw [drop_grp h0, e, drop_app, drop_no _ _ hyx]
  have hn2 := neigh_split (drop_check h0 x.id) hy hl e2
  obtain ⟨A3, B3, e3⟩ := grp_at hx hl
  have hn3 := neigh_split h0 hx hl e3
  have hmem : ∀ z ∈ grpS l h y.word, z.id = x.id → z = x := fun z hz he => ids_eq (check_keys h0) (grp_mem.1 hz).1 hx he
  have hxg : x ∈ grpS l h y.word → grpS l h x.word = grpS l h y.word := fun hm => grp_eq hw (hw x hx) (hw y hyl) (grp_mem.1 hm).2
  have hxn : ∀ A' B', grpS l h y.word = A' ++ x :: B' → (neighN l x.id h) = ((lastI A', headI B'), true) := fun A' B' e' => by
    refine neigh_split h0 hx hl ?_
    rw [hxg (by rw [e']; simp), e']
  have hnone : ∀ {P Q : List Nd}, (∀ z ∈ P, z ∈ grpS l h y.word) → (∀ z ∈ P, z.id ≠ x.id) → dropN P x.id = P := fun _ h2 => drop_none h2
  rw [hn, hn2]
  rw [e] at ha hmem hxn
  have hL : (lastI A ≠ lastI (dropN A x.id) → lastI A = x.id) ∧ (lastI A = x.id → lastI (dropN A x.id) = (neighN l x.id h).1.1) := by
    rcases List.eq_nil_or_concat A with rfl | ⟨A', z, rfl⟩
    · exact ⟨fun h => absurd rfl h, fun h => by have : (0 : Int) = x.id := h; omega⟩
    · rw [List.concat_eq_append] at *
      have e5 : lastI (A' ++ [z]) = z.id := by unfold lastI; simp
      by_cases hz : z.id = x.id
      · have hzx := hmem z (by simp) hz
        subst hzx
        have h7 := hxn A' (y :: B) (by simp)
        rw [h7, drop_app, drop_yes _ _ rfl, drop_nil, List.append_nil, drop_none (fun w hw' => ?_)]
        · exact ⟨fun _ => e5, fun _ => rfl⟩
        · have h8 := (List.pairwise_append.1 (List.pairwise_append.1 ha).1).2.2 w hw' z (by simp)
          exact h8.2
      · have e6 : lastI (dropN (A' ++ [z]) x.id) = z.id := by rw [drop_app, drop_no _ _ hz, drop_nil]; unfold lastI; simp
        rw [e5, e6]
        exact ⟨fun h => absurd rfl h, fun h => absurd h hz⟩
  have hR : (headI B ≠ headI (dropN B x.id) → headI B = x.id) ∧ (headI B = x.id → headI (dropN B x.id) = (neighN l x.id h).1.2) := by
    cases B with
    | nil => exact ⟨fun h => absurd rfl h, fun h => by have : (0 : Int) = x.id := h; omega⟩
    | cons z B' =>
      have e5 : headI (z :: B') = z.id := rfl
      by_cases hz : z.id = x.id
      · have hzx := hmem z (by simp) hz
        subst hzx
        have h7 := hxn (A ++ [y]) B' (by simp)
        rw [h7, drop_yes _ _ rfl, drop_none (fun w hw' => ?_)]
        · exact ⟨fun _ => e5, fun _ => rfl⟩
        · have h8 := (List.pairwise_cons.1 (List.pairwise_cons.1 (List.pairwise_append.1 ha).2.1).2).1 w hw'
          exact fun h => h8.2 h.symm
      · have e6 : headI (dropN (z :: B') x.id) = z.id := by rw [drop_no _ _ hz]; rfl
        rw [e5, e6]
        exact ⟨fun h => absurd rfl h, fun h => absurd h hz⟩
  refine ⟨rfl, rfl, by rw [hn3], hL.1, hR.1, hL.2, hR.2⟩
theorem drop_len {l : List Nd} (h0 : checkN l = 0) {x : Nd} (hx : x ∈ l) : (dropN l x.id).length + 1 = l.length := by
  obtain ⟨A, B, rfl⟩ := List.append_of_mem hx
  have hk := keys_pw (check_keys h0)
  rw [drop_app, drop_yes _ _ rfl, drop_none, drop_none]
  · simp; omega
  · intro y hy
    exact fun h => ((List.pairwise_cons.1 (List.pairwise_append.1 hk).2.1).1 y hy).2 h.symm
  · intro y hy
    exact ((List.pairwise_append.1 hk).2.2 y hy x (by simp)).2
theorem lists_small (l : List Nd) (h : Int) (hl : l.length ≤ 1000) : (listsN l h).length ≤ 1000000 ∧ ∀ m ∈ listsN l h, m.length ≤ 1000000 := by
  unfold listsN
  split
  · have := classesN_sm (sortN l) h (by rw [sortN_length]; exact hl)
    refine ⟨by simp; omega, fun m hm => ?_⟩
    obtain ⟨c, hc, rfl⟩ := List.mem_map.1 hm
    have := this.2 c hc
    unfold idsN
    simp
    omega
  · simp
theorem buildN_small (l : List Nd) (h : Int) (hl : l.length ≤ 1000) : (buildN l h).1.length ≤ 1000 ∧ ∀ c ∈ (buildN l h).1, c.2.length ≤ 17 := by
  unfold buildN
  split
  · simp
  · split
    · simp
    · rename_i hv
      refine ⟨by simp [sortN_length]; omega, fun c hc => ?_⟩
      obtain ⟨x, _, rfl⟩ := List.mem_map.1 hc
      rw [rowN_len]
      unfold lvlN at hv
      simp at hv
      omega
end Go.Proofs.YtkjlhcfocefhpaaDoor

/- Routes over links, in plain Lean. -/
namespace Go.Proofs.YtkjlhcfocefhpaaDoor
open Go.RowKit

abbrev Hop := Int × Int × Int
def atL (L : List Lkd) (id lev : Int) : Int × Int := match L.find? (fun c => c.1 == id) with | some c => if lev < 0 then (0, 0) else c.2[lev.toNat]?.getD (0, 0) | none => (0, 0)
def topL (L : List Lkd) (id : Int) : Int := match L.find? (fun c => c.1 == id) with | some c => min ((c.2.length : Int) - 1) 16 | none => -1
/-- the node to which a search hops -/
def hopN (N : List Nd) (L : List Lkd) (key : List UInt8) (right : Bool) (x : Nd) (lev : Nat) : Option Nd :=
  if right then (if (findN N (atL L x.id lev).2).2 && (Op.bytesLess x.key.toList (findN N (atL L x.id lev).2).1.key.toList && !Op.bytesLess key (findN N (atL L x.id lev).2).1.key.toList) then some (findN N (atL L x.id lev).2).1 else none)
  else (if (findN N (atL L x.id lev).1).2 && (Op.bytesLess (findN N (atL L x.id lev).1).1.key.toList x.key.toList && Op.bytesLess key (findN N (atL L x.id lev).1).1.key.toList) then some (findN N (atL L x.id lev).1).1 else none)
/-- the hops from a node on, from the level below lev on -/
def rtF (N : List Nd) (L : List Lkd) (key : List UInt8) (right : Bool) : Nat → Nd → Nat → List Hop → Nd × List Hop
  | 0, x, _, out => (x, out)
  | _ + 1, x, 0, out => (x, out)
  | f + 1, x, lev + 1, out =>
    match hopN N L key right x lev with
    | some y => rtF N L key right f y (lev + 1) (out ++ [(x.id, y.id, (lev : Int))])
    | none => rtF N L key right f x lev out
/-- how many nodes lie beyond -/
def bey (N : List Nd) (right : Bool) (x : Nd) : Nat := N.countP fun z => if right then Op.bytesLess x.key.toList z.key.toList else Op.bytesLess z.key.toList x.key.toList
def measR (N : List Nd) (right : Bool) (x : Nd) (lev : Nat) : Nat := lev * (N.length + 1) + bey N right x
def routeN (N : List Nd) (L : List Lkd) (frm : Int) (key : ByteArray) : List Hop × Int :=
  if checkN N ≠ 0 ∨ 64 < key.size then ([], 1)
  else if (findN N frm).2 = false then ([], 6)
  else
    let right := !Op.bytesLess key.toList (findN N frm).1.key.toList
    let r := rtF N L key.toList right (18 * (N.length + 1)) (findN N frm).1 (topL L frm + 1).toNat []
    if (findN N (atL L r.1.id 0).1).2 && !right && !Op.bytesLess key.toList (findN N (atL L r.1.id 0).1).1.key.toList then (r.2 ++ [(r.1.id, (findN N (atL L r.1.id 0).1).1.id, 0)], 0) else (r.2, 0)
def endN (frm : Int) (h : List Hop) : Int := match h.getLast? with | some p => p.2.1 | none => frm
variable {N : List Nd} {L : List Lkd} {key : List UInt8} {right : Bool}
theorem hop_mem {x y : Nd} {lev : Nat} (h : hopN N L key right x lev = some y) : y ∈ N ∧
    (if right then Op.bytesLess x.key.toList y.key.toList = true ∧ Op.bytesLess key y.key.toList = false else Op.bytesLess y.key.toList x.key.toList = true ∧ Op.bytesLess key y.key.toList = true) := by
  unfold hopN at h
  cases right with
  | true =>
    rw [if_pos rfl] at h ⊢
    split at h
    · rename_i hc
      cases h
      simp only [Bool.and_eq_true, Bool.not_eq_true'] at hc
      exact ⟨(findN_mem hc.1).1, hc.2.1, hc.2.2⟩
    · cases h
  | false =>
    rw [if_neg (by simp)] at h ⊢
    split at h
    · rename_i hc
      cases h
      simp only [Bool.and_eq_true] at hc
      exact ⟨(findN_mem hc.1).1, hc.2.1, hc.2.2⟩
    · cases h
theorem count_lt {α : Type} {p q : α → Bool} : ∀ {l : List α} {y : α}, y ∈ l → (∀ z, p z = true → q z = true) → q y = true → p y = false → l.countP p < l.countP q
  | [], _, hy, _, _, _ => by cases hy
  | a :: l, y, hy, h, h1, h2 => by
    rw [List.countP_cons, List.countP_cons]
    have hle : l.countP p ≤ l.countP q := List.countP_mono_left (fun z _ => h z)
    rcases List.mem_cons.1 hy with rfl | hy
    · rw [h1, h2]; simp; omega
    · have := count_lt hy h h1 h2
      have h3 := h a
      cases hp : p a with
      | true => rw [h3 hp]; simp; omega
      | false =>
        generalize (if q a = true then 1 else 0) = z
        simp
        omega
theorem bey_lt {x y : Nd} {lev : Nat} (h : hopN N L key right x lev = some y) : bey N right y < bey N right x := by
  obtain ⟨hm, hc⟩ := hop_mem h
  unfold bey
  cases right with
  | true =>
    rw [if_pos rfl] at hc
    refine count_lt hm (fun z hz => ?_) ?_ ?_
    · rw [if_pos rfl] at hz ⊢; exact bl_trans hc.1 hz
    · rw [if_pos rfl]; exact hc.1
    · rw [if_pos rfl]; exact bytesLess_irrefl _
  | false =>
    rw [if_neg (by simp)] at hc
    refine count_lt hm (fun z hz => ?_) ?_ ?_
    · rw [if_neg (by simp)] at hz ⊢; exact bl_trans hz hc.1
    · rw [if_neg (by simp)]; exact hc.1
    · rw [if_neg (by simp)]; exact bytesLess_irrefl _
theorem bey_le (x : Nd) : bey N right x ≤ N.length := List.countP_le_length
theorem meas_hop {x y : Nd} {lev : Nat} (h : hopN N L key right x lev = some y) : measR N right y (lev + 1) < measR N right x (lev + 1) := by
  have := bey_lt h
  unfold measR
  omega
theorem meas_down (x : Nd) (lev : Nat) : measR N right x lev < measR N right x (lev + 1) := by
  unfold measR
  rw [Nat.add_mul]
  omega
theorem rtF_succ : ∀ (f : Nat) (x : Nd) (lev : Nat) (out : List Hop), measR N right x lev ≤ f → rtF N L key right (f + 1) x lev out = rtF N L key right f x lev out
  | 0, x, lev, out, h => by
    have h0 : lev = 0 := by
      unfold measR at h
      rcases Nat.eq_zero_or_pos lev with h0 | h0
      · exact h0
      · have : 1 * (N.length + 1) ≤ lev * (N.length + 1) := Nat.mul_le_mul_right _ h0
        omega
    subst h0
    rfl
  | f + 1, x, 0, out, _ => rfl
  | f + 1, x, lev + 1, out, h => by
    show (match hopN N L key right x lev with | some y => rtF N L key right (f + 1) y (lev + 1) _ | none => rtF N L key right (f + 1) x lev out) = (match hopN N L key right x lev with | some y => rtF N L key right f y (lev + 1) _ | none => rtF N L key right f x lev out)
    cases hh : hopN N L key right x lev with
    | some y =>
      have := meas_hop hh
      exact rtF_succ f y (lev + 1) _ (by omega)
    | none =>
      have := meas_down (N := N) (right := right) x lev
      exact rtF_succ f x lev out (by omega)
/-- a state of the search whose result is known -/
def RtSt (N : List Nd) (L : List Lkd) (key : List UInt8) (right : Bool) (R : Nd × List Hop) (x : Nd) (lev : Nat) (out : List Hop) : Prop := ∃ f, measR N right x lev ≤ f ∧ rtF N L key right f x lev out = R
theorem RtSt.start {x : Nd} {lev : Nat} (hl : lev ≤ 17) : RtSt N L key right (rtF N L key right (18 * (N.length + 1)) x lev []) x lev [] := by
  refine ⟨_, ?_, rfl⟩
  unfold measR
  have := bey_le (N := N) (right := right) x
  have : lev * (N.length + 1) ≤ 17 * (N.length + 1) := Nat.mul_le_mul_right _ hl
  omega
theorem RtSt.hop {R : Nd × List Hop} {x y : Nd} {lev : Nat} {out : List Hop} (h : RtSt N L key right R x (lev + 1) out) (hh : hopN N L key right x lev = some y) : RtSt N L key right R y (lev + 1) (out ++ [(x.id, y.id, (lev : Int))]) := by
  obtain ⟨f, h1, h2⟩ := h
  have hm := meas_hop hh
  obtain ⟨f, rfl⟩ : ∃ g, f = g + 1 := ⟨f - 1, by omega⟩
  refine ⟨f, by omega, ?_⟩
  rw [← h2]
  show _ = (match hopN N L key right x lev with | some y => rtF N L key right f y (lev + 1) (out ++ [(x.id, y.id, (lev : Int))]) | none => rtF N L key right f x lev out)
  rw [hh]
theorem RtSt.down {R : Nd × List Hop} {x : Nd} {lev : Nat} {out : List Hop} (h : RtSt N L key right R x (lev + 1) out) (hh : hopN N L key right x lev = none) : RtSt N L key right R x lev out := by
  obtain ⟨f, h1, h2⟩ := h
  have hm := meas_down (N := N) (right := right) x lev
  obtain ⟨f, rfl⟩ : ∃ g, f = g + 1 := ⟨f - 1, by omega⟩
  refine ⟨f, by omega, ?_⟩
  rw [← h2]
  show _ = (match hopN N L key right x lev with | some y => rtF N L key right f y (lev + 1) (out ++ [(x.id, y.id, (lev : Int))]) | none => rtF N L key right f x lev out)
  rw [hh]
theorem RtSt.done {R : Nd × List Hop} {x : Nd} {out : List Hop} (h : RtSt N L key right R x 0 out) : R = (x, out) := by
  obtain ⟨f, h1, h2⟩ := h
  rw [← h2]
  cases f <;> rfl
end Go.Proofs.YtkjlhcfocefhpaaDoor

/- How the hops of a route go, in plain Lean: over any links. -/
namespace Go.Proofs.YtkjlhcfocefhpaaDoor
open Go.RowKit

/-- one hop on the side of the key -/
def DirN (key : List UInt8) (right : Bool) (x y : Nd) : Prop := if right then Op.bytesLess x.key.toList y.key.toList = true ∧ Op.bytesLess key y.key.toList = false else Op.bytesLess y.key.toList x.key.toList = true ∧ Op.bytesLess key y.key.toList = true
/-- hops from x at levels up to lev, ending at x' -/
def HopsOk (N : List Nd) (key : List UInt8) (right : Bool) (x' : Nd) : Nd → Nat → List Hop → Prop
  | x, _, [] => x = x'
  | x, lev, h :: hs => ∃ (y : Nd) (lev' : Nat), y ∈ N ∧ h = (x.id, y.id, (lev' : Int)) ∧ lev' ≤ lev ∧ DirN key right x y ∧ HopsOk N key right x' y lev' hs
variable {N : List Nd} {L : List Lkd} {key : List UInt8} {right : Bool}
theorem HopsOk.mono {x' : Nd} : ∀ {hs : List Hop} {x : Nd} {lev lev2 : Nat}, HopsOk N key right x' x lev hs → lev ≤ lev2 → HopsOk N key right x' x lev2 hs
  | [], _, _, _, h, _ => h
  | _ :: _, _, _, _, ⟨y, l', h1, h2, h3, h4, h5⟩, hl => ⟨y, l', h1, h2, by omega, h4, h5⟩
theorem rtF_ok : ∀ (f : Nat) (x : Nd) (lev : Nat) (out : List Hop), ∃ hs, (rtF N L key right f x lev out).2 = out ++ hs ∧ HopsOk N key right (rtF N L key right f x lev out).1 x (lev - 1) hs
  | 0, x, lev, out => ⟨[], by simp [rtF], rfl⟩
  | f + 1, x, 0, out => ⟨[], by simp [rtF], rfl⟩
  | f + 1, x, lev + 1, out => by
    have e : rtF N L key right (f + 1) x (lev + 1) out = (match hopN N L key right x lev with | some y => rtF N L key right f y (lev + 1) (out ++ [(x.id, y.id, (lev : Int))]) | none => rtF N L key right f x lev out) := rfl
    cases hh : hopN N L key right x lev with
    | some y =>
      rw [hh] at e
      obtain ⟨hs, h1, h2⟩ := rtF_ok f y (lev + 1) (out ++ [(x.id, y.id, (lev : Int))])
      rw [e]
      refine ⟨(x.id, y.id, (lev : Int)) :: hs, by rw [h1]; simp, y, lev, (hop_mem hh).1, rfl, by omega, (hop_mem hh).2, h2⟩
    | none =>
      rw [hh] at e
      obtain ⟨hs, h1, h2⟩ := rtF_ok f x lev out
      rw [e]
      exact ⟨hs, h1, h2.mono (by omega)⟩
theorem HopsOk.len {x' : Nd} : ∀ {hs : List Hop} {x : Nd} {lev : Nat}, HopsOk N key right x' x lev hs → hs.length + bey N right x' ≤ bey N right x
  | [], _, _, h => by rw [← show _ = x' from h]; simp
  | _ :: hs, x, _, ⟨y, l', h1, h2, h3, h4, h5⟩ => by
    have := h5.len
    have hlt : bey N right y < bey N right x := by
      unfold bey
      cases right with
      | true =>
        unfold DirN at h4
        rw [if_pos rfl] at h4
        refine count_lt h1 (fun z hz => ?_) ?_ ?_
        · rw [if_pos rfl] at hz ⊢; exact bl_trans h4.1 hz
        · rw [if_pos rfl]; exact h4.1
        · rw [if_pos rfl]; exact bytesLess_irrefl _
      | false =>
        unfold DirN at h4
        rw [if_neg (by simp)] at h4
        refine count_lt h1 (fun z hz => ?_) ?_ ?_
        · rw [if_neg (by simp)] at hz ⊢; exact bl_trans hz h4.1
        · rw [if_neg (by simp)]; exact h4.1
        · rw [if_neg (by simp)]; exact bytesLess_irrefl _
    simp only [List.length_cons]
    omega
theorem HopsOk.side {x' : Nd} : ∀ {hs : List Hop} {x : Nd} {lev : Nat}, HopsOk N key right x' x lev hs → (if right then Op.bytesLess key x.key.toList = false else Op.bytesLess key x.key.toList = true) → (if right then Op.bytesLess key x'.key.toList = false else Op.bytesLess key x'.key.toList = true)
  | [], _, _, h, hk => by rw [← show _ = x' from h]; exact hk
  | _ :: hs, x, _, ⟨y, l', h1, h2, h3, h4, h5⟩, hk => h5.side (by
      unfold DirN at h4
      cases right with
      | true => rw [if_pos rfl] at h4 ⊢; exact h4.2
      | false => rw [if_neg (by simp)] at h4 ⊢; exact h4.2)
theorem HopsOk.mem {x' : Nd} : ∀ {hs : List Hop} {x : Nd} {lev : Nat}, HopsOk N key right x' x lev hs → x ∈ N → x' ∈ N
  | [], _, _, h, hx => by rw [← show _ = x' from h]; exact hx
  | _ :: _, _, _, ⟨_, _, h1, _, _, _, h5⟩, _ => h5.mem h1
theorem bey_self {x : Nd} (hx : x ∈ N) : bey N right x < N.length := by
  unfold bey
  have : N.countP (fun z => if right then Op.bytesLess x.key.toList z.key.toList else Op.bytesLess z.key.toList x.key.toList) < N.countP (fun _ => true) :=
    count_lt hx (fun _ _ => rfl) rfl (by cases right <;> simp [bytesLess_irrefl])
  rwa [List.countP_true] at this
/-- the hops of a route, with the last one -/
def RouteOk (N : List Nd) (key : List UInt8) (right : Bool) : Nd → Nat → List Hop → Prop
  | _, _, [] => True
  | x, lev, h :: hs => ∃ (y : Nd) (lev' : Nat), y ∈ N ∧ h = (x.id, y.id, (lev' : Int)) ∧ lev' ≤ lev ∧
      (DirN key right x y ∨ (right = false ∧ hs = [] ∧ lev' = 0 ∧ Op.bytesLess key y.key.toList = false ∧ Op.bytesLess y.key.toList x.key.toList = true)) ∧ RouteOk N key right y lev' hs
theorem HopsOk.route {x' : Nd} : ∀ {hs : List Hop} {x : Nd} {lev : Nat}, HopsOk N key right x' x lev hs → RouteOk N key right x lev hs
  | [], _, _, _ => trivial
  | _ :: _, _, _, ⟨y, l', h1, h2, h3, h4, h5⟩ => ⟨y, l', h1, h2, h3, .inl h4, h5.route⟩
theorem HopsOk.snoc {x' y : Nd} (hy : y ∈ N) (hr : right = false) (h1 : Op.bytesLess key y.key.toList = false) (h2 : Op.bytesLess y.key.toList x'.key.toList = true) : ∀ {hs : List Hop} {x : Nd} {lev : Nat}, HopsOk N key right x' x lev hs → RouteOk N key right x lev (hs ++ [(x'.id, y.id, 0)])
  | [], x, lev, h => by
    have h : x = x' := h
    subst h
    exact ⟨y, 0, hy, rfl, by omega, .inr ⟨hr, rfl, rfl, h1, h2⟩, trivial⟩
  | _ :: _, _, _, ⟨z, l', g1, g2, g3, g4, g5⟩ => ⟨z, l', g1, g2, g3, .inl g4, g5.snoc hy hr h1 h2⟩
/-- what SearchApproaches says -/
theorem appr_law (h0 : checkN N = 0) {k : ByteArray} (hk : k.size ≤ 64) {x : Nd} (hx : x ∈ N) :
    (routeN N L x.id k).2 = 0 ∧ (routeN N L x.id k).1.length < N.length ∧ RouteOk N k.toList (!Op.bytesLess k.toList x.key.toList) x 16 (routeN N L x.id k).1 := by
  have hf := find_in h0 hx
  unfold routeN
  rw [if_neg (by rintro (h | h); exact h h0; omega), hf, if_neg (by simp)]
  simp only
  generalize hr : (!Op.bytesLess k.toList x.key.toList) = right
  have htop : (topL L x.id + 1).toNat ≤ 17 := by
    unfold topL
    split <;> omega
  obtain ⟨hs, e1, e2⟩ := rtF_ok (N := N) (L := L) (key := k.toList) (right := right) (18 * (N.length + 1)) x (topL L x.id + 1).toNat []
  rw [List.nil_append] at e1
  generalize rtF N L k.toList right (18 * (N.length + 1)) x (topL L x.id + 1).toNat [] = R at e1 e2
  obtain ⟨x', out⟩ := R
  simp only at e1 e2 ⊢
  subst e1
  have e2 := e2.mono (show _ ≤ 16 by omega)
  have hl := e2.len
  have hbx := bey_self (right := right) hx
  split
  · rename_i hc
    simp only [Bool.and_eq_true, Bool.not_eq_true'] at hc
    obtain ⟨⟨c1, c2⟩, c3⟩ := hc
    subst c2
    obtain ⟨m1, m2⟩ := findN_mem c1
    have hkx := e2.side (by rw [if_neg (by simp)]; simpa using hr)
    rw [if_neg (by simp)] at hkx
    have hyx : Op.bytesLess (findN N (atL L x'.id 0).1).1.key.toList x'.key.toList = true := by
      rcases bl_tri (findN N (atL L x'.id 0).1).1.key.toList x'.key.toList with ⟨h, _⟩ | ⟨h, _⟩ | ⟨h, _⟩
      · exact h
      · rw [h, hkx] at c3; cases c3
      · rw [bl_trans hkx h] at c3; cases c3
    refine ⟨rfl, ?_, e2.snoc m1 rfl c3 hyx⟩
    have h1 : 0 < bey N false x' := by
      unfold bey
      rw [List.countP_pos_iff]
      exact ⟨_, m1, by rw [if_neg (by simp)]; exact hyx⟩
    simp only [List.length_append, List.length_singleton]
    omega
  · exact ⟨rfl, by show out.length < _; omega, e2.route⟩
end Go.Proofs.YtkjlhcfocefhpaaDoor

/- Runs, bounds and where searches end, in plain Lean. -/
namespace Go.Proofs.YtkjlhcfocefhpaaDoor
open Go.RowKit

def brkN (x : Nd) (lev : Int) (y : Nd) : Bool := y.id == x.id || sameN x.word y.word (lev + 1)
def runStep (x : Nd) (lev : Int) (s : Nat × Nat) (y : Nd) : Nat × Nat := if brkN x lev y then (s.1, 0) else (max s.1 (s.2 + 1), s.2 + 1)
def runF (x : Nd) (lev : Int) (G : List Nd) : Nat × Nat := G.foldl (runStep x lev) (0, 0)
def runN (l : List Nd) (id lev : Int) : Nat := if checkN l = 0 ∧ (findN l id).2 = true ∧ lvlN lev = true then (runF (findN l id).1 lev (thrG l id lev)).1 else 0
def boundN (l : List Nd) (id : Int) : Nat := if (findN l id).2 = true ∧ checkN l = 0 then 1 + ((List.range 17).map fun (h : Nat) => runN l id h).sum else 0
section
variable {x : Nd} {lev : Int}
theorem run_inv : ∀ (G : List Nd) (s : Nat × Nat), s.2 ≤ s.1 → (G.foldl (runStep x lev) s).2 ≤ (G.foldl (runStep x lev) s).1 ∧ s.1 ≤ (G.foldl (runStep x lev) s).1
  | [], s, h => ⟨h, Nat.le_refl _⟩
  | y :: G, s, h => by
    have h1 : (runStep x lev s y).2 ≤ (runStep x lev s y).1 ∧ s.1 ≤ (runStep x lev s y).1 := by
      unfold runStep
      split
      · exact ⟨Nat.zero_le _, Nat.le_refl _⟩
      · exact ⟨by show s.2 + 1 ≤ max s.1 (s.2 + 1); omega, by show s.1 ≤ max s.1 (s.2 + 1); omega⟩
    have := run_inv G _ h1.1
    exact ⟨this.1, Nat.le_trans h1.2 this.2⟩
theorem run_q : ∀ (Q : List Nd) (s : Nat × Nat), s.2 ≤ s.1 → (∀ y ∈ Q, brkN x lev y = false) → (Q.foldl (runStep x lev) s).2 = s.2 + Q.length
  | [], s, _, _ => rfl
  | y :: Q, s, h, hQ => by
    have e : runStep x lev s y = (max s.1 (s.2 + 1), s.2 + 1) := by unfold runStep; rw [hQ y (by simp)]; rfl
    show (Q.foldl (runStep x lev) (runStep x lev s y)).2 = _
    rw [e, run_q Q _ (by simp only; omega) (fun z hz => hQ z (by simp [hz]))]
    simp only [List.length_cons]
    omega
theorem run_seg (A Q B : List Nd) (hQ : ∀ y ∈ Q, brkN x lev y = false) : Q.length ≤ (runF x lev (A ++ Q ++ B)).1 := by
  unfold runF
  rw [List.foldl_append, List.foldl_append]
  have h1 := run_inv (x := x) (lev := lev) A (0, 0) (Nat.le_refl _)
  have h2 := run_q Q _ h1.1 hQ
  have h3 := run_inv (x := x) (lev := lev) Q _ h1.1
  have h4 := run_inv (x := x) (lev := lev) B _ h3.1
  omega
theorem run_count : ∀ (G : List Nd) (s : Nat × Nat), s.2 ≤ s.1 → (G.foldl (runStep x lev) s).1 ≤ s.1 + G.countP fun y => !brkN x lev y
  | [], s, _ => Nat.le_refl _
  | y :: G, s, h => by
    show (G.foldl (runStep x lev) (runStep x lev s y)).1 ≤ _
    rw [List.countP_cons]
    cases hb : brkN x lev y with
    | true =>
      have e : runStep x lev s y = (s.1, 0) := by unfold runStep; rw [hb]; rfl
      rw [e]
      have := run_count G (s.1, 0) (Nat.zero_le _)
      simp only at this ⊢
      omega
    | false =>
      have e : runStep x lev s y = (max s.1 (s.2 + 1), s.2 + 1) := by unfold runStep; rw [hb]; rfl
      rw [e]
      have := run_count G (max s.1 (s.2 + 1), s.2 + 1) (by simp only; omega)
      simp only [Bool.not_false, if_true] at this ⊢
      omega
theorem run_brk : ∀ (G : List Nd) (s : Nat × Nat), (∀ y ∈ G, brkN x lev y = true) → (G.foldl (runStep x lev) s).1 = s.1
  | [], s, _ => rfl
  | y :: G, s, h => by
    have e : runStep x lev s y = (s.1, 0) := by unfold runStep; rw [h y (by simp)]; rfl
    show (G.foldl (runStep x lev) (runStep x lev s y)).1 = _
    rw [e, run_brk G _ (fun z hz => h z (by simp [hz]))]
theorem run_free : ∀ (Q : List Nd) (s : Nat × Nat), s.2 ≤ s.1 → (∀ y ∈ Q, brkN x lev y = false) → (Q.foldl (runStep x lev) s).1 = max s.1 (s.2 + Q.length)
  | [], s, h, _ => by show s.1 = max s.1 (s.2 + 0); omega
  | y :: Q, s, h, hQ => by
    have e : runStep x lev s y = (max s.1 (s.2 + 1), s.2 + 1) := by unfold runStep; rw [hQ y (by simp)]; rfl
    show (Q.foldl (runStep x lev) (runStep x lev s y)).1 = _
    rw [e, run_free Q _ (by simp only; omega) (fun z hz => hQ z (by simp [hz]))]
    simp only [List.length_cons]
    omega
end
/-- the sum of counts of the values of a function is at most a count -/
theorem sum_count {α : Type} (p : α → Bool) (f : α → Nat) (m : Nat) : ∀ l : List α, ((List.range m).map fun h => l.countP fun y => p y && f y == h).sum ≤ l.countP p
  | [] => by
    simp only [List.countP_nil]
    induction m with
    | zero => simp
    | succ m ih => rw [List.range_succ, List.map_append, List.sum_append]; simpa using ih
  | y :: l => by
    have ih := sum_count p f m l
    have h1 : ∀ k, ((List.range k).map fun h => (y :: l).countP fun y => p y && f y == h).sum = ((List.range k).map fun h => l.countP fun y => p y && f y == h).sum + if p y = true ∧ f y < k then 1 else 0 := by
      intro k
      induction k with
      | zero => simp
      | succ k ihk =>
        rw [List.range_succ, List.map_append, List.sum_append, List.map_append, List.sum_append, ihk]
        simp only [List.map_cons, List.map_nil, List.sum_cons, List.sum_nil, List.countP_cons, Bool.and_eq_true, beq_iff_eq]
        by_cases hp : p y = true
        · by_cases h2 : f y = k
          · rw [if_neg (by omega), if_pos ⟨hp, h2⟩, if_pos ⟨hp, by omega⟩]; omega
          · by_cases h3 : f y < k
            · rw [if_pos ⟨hp, h3⟩, if_neg (by rintro ⟨_, h⟩; exact h2 h), if_pos ⟨hp, by omega⟩]; omega
            · rw [if_neg (by rintro ⟨_, h⟩; exact h3 h), if_neg (by rintro ⟨_, h⟩; exact h2 h), if_neg (by rintro ⟨_, h⟩; omega)]; omega
        · rw [if_neg (by rintro ⟨h, _⟩; exact hp h), if_neg (by rintro ⟨h, _⟩; exact hp h), if_neg (by rintro ⟨h, _⟩; exact hp h)]; omega
    rw [h1, List.countP_cons]
    by_cases hp : p y = true
    · rw [if_pos hp]
      split <;> omega
    · rw [if_neg hp, if_neg (by rintro ⟨h, _⟩; exact hp h)]; omega
theorem nb_common {x y : Nd} {h : Nat} (hs : sameN y.word x.word (h : Int) = true) (hb : brkN x (h : Int) y = false) : y.id ≠ x.id ∧ commonN x.word y.word = h := by
  unfold brkN at hb
  simp only [Bool.or_eq_false_iff, beq_eq_false_iff_ne] at hb
  refine ⟨hb.1, ?_⟩
  have h2 := hb.2
  unfold sameN at hs h2
  rw [commonN_comm] at hs
  simp only [decide_eq_true_eq, decide_eq_false_iff_not] at hs h2
  omega
theorem sum_le {α : Type} {f g : α → Nat} : ∀ (l : List α), (∀ x ∈ l, f x ≤ g x) → (l.map f).sum ≤ (l.map g).sum
  | [], _ => Nat.le_refl _
  | x :: l, h => by
    have := sum_le l (fun y hy => h y (by simp [hy]))
    have := h x (by simp)
    simp only [List.map_cons, List.sum_cons]
    omega
theorem runN_eq {l : List Nd} (h0 : checkN l = 0) {x : Nd} (hx : x ∈ l) {h : Nat} (hh : h ≤ 16) : runN l x.id h = (runF x h (grpS l h x.word)).1 := by
  have hf := find_in h0 hx
  unfold runN thrG
  rw [hf, if_pos ⟨h0, rfl, by unfold lvlN; simp; omega⟩]
  rfl
theorem boundN_eq {l : List Nd} (h0 : checkN l = 0) {x : Nd} (hx : x ∈ l) : boundN l x.id = 1 + ((List.range 17).map fun (h : Nat) => runN l x.id h).sum := by
  unfold boundN
  rw [if_pos ⟨by rw [find_in h0 hx], h0⟩]
/-- Bound is at most the number of nodes -/
theorem bound_le {l : List Nd} (h0 : checkN l = 0) {x : Nd} (hx : x ∈ l) : boundN l x.id ≤ l.length := by
  rw [boundN_eq h0 hx]
  have h1 : ((List.range 17).map fun (h : Nat) => runN l x.id h).sum ≤ ((List.range 17).map fun h => (sortN l).countP fun y => (!(y.id == x.id)) && commonN x.word y.word == h).sum := by
    refine sum_le _ (fun h hh => ?_)
    have hh : h < 17 := by simpa using hh
    rw [runN_eq h0 hx (by omega)]
    have := run_count (x := x) (lev := (h : Int)) (grpS l h x.word) (0, 0) (Nat.le_refl _)
    refine Nat.le_trans (by unfold runF; simpa using this) ?_
    unfold grpS groupN
    rw [List.countP_filter]
    refine List.countP_mono_left (fun y _ hy => ?_)
    simp only [Bool.and_eq_true, Bool.not_eq_true'] at hy
    obtain ⟨h1, h2⟩ := nb_common hy.2 hy.1
    simp [h1, h2]
  have h2 := sum_count (fun y : Nd => !(y.id == x.id)) (fun y => commonN x.word y.word) 17 (sortN l)
  have h3 : (sortN l).countP (fun y : Nd => !(y.id == x.id)) < (sortN l).countP (fun _ => true) :=
    count_lt ((sortN_mem l x).2 hx) (fun _ _ => rfl) rfl (by simp)
  rw [List.countP_true, sortN_length] at h3
  omega
theorem bound_pos {l : List Nd} (h0 : checkN l = 0) {x : Nd} (hx : x ∈ l) : 1 ≤ boundN l x.id := by rw [boundN_eq h0 hx]; omega
theorem find_perm {l l' : List Nd} (hp : l'.Perm l) (h0 : checkN l = 0) (id : Int) : findN l' id = findN l id := by
  have h0' := check_perm hp h0
  cases h : (findN l id).2 with
  | true =>
    obtain ⟨h1, h2⟩ := findN_mem h
    have := find_in h0' (hp.mem_iff.2 h1)
    rw [h2] at this
    rw [this, ← h]
  | false =>
    cases h' : (findN l' id).2 with
    | true =>
      obtain ⟨h1, h2⟩ := findN_mem h'
      have := find_in h0 (hp.mem_iff.1 h1)
      rw [h2] at this
      rw [this] at h
      cases h
    | false =>
      unfold findN at h h' ⊢
      split at h <;> split at h' <;> simp_all
/-- Bound does not depend on the order -/
theorem bound_perm {l l' : List Nd} (hp : l'.Perm l) (h0 : checkN l = 0) (id : Int) : boundN l' id = boundN l id := by
  have h0' := check_perm hp h0
  have hr : ∀ lev, runN l' id lev = runN l id lev := fun lev => by
    unfold runN thrG
    rw [find_perm hp h0, sort_perm hp h0]
    simp only [h0, h0']
  unfold boundN
  rw [find_perm hp h0]
  simp only [hr, h0, h0']
/-- Bound of nodes whose words are all equal -/
theorem bound_eq {l : List Nd} (h0 : checkN l = 0) {u : Nat} (hu : ∀ y ∈ l, y.word = u) {x : Nd} (hx : x ∈ l) {A B : List Nd} (e : sortN l = A ++ x :: B) : boundN l x.id = 1 + max A.length B.length := by
  rw [boundN_eq h0 hx]
  have hg : ∀ h : Nat, h ≤ 16 → grpS l h x.word = A ++ x :: B := fun h hh => by
    unfold grpS groupN
    rw [← e, List.filter_eq_self]
    intro y hy
    rw [hu y ((sortN_mem l y).1 hy), hu x hx]
    exact sameN_refl _ (by omega)
  have hm : ∀ y ∈ A ++ x :: B, y ∈ l := fun y hy => (sortN_mem l y).1 (by rw [e]; exact hy)
  have hz : ∀ h, h < 16 → runN l x.id (h : Nat) = 0 := fun h hh => by
    rw [runN_eq h0 hx (by omega), hg h (by omega)]
    unfold runF
    rw [run_brk _ _ (fun y hy => by unfold brkN; rw [hu y (hm y hy), hu x hx, sameN_refl _ (by omega)]; simp)]
  have hs := sortN_str h0
  rw [e] at hs
  have hs2 := List.pairwise_append.1 hs
  have hA : ∀ y ∈ A, brkN x (16 : Nat) y = false := fun y hy => by
    have h1 := (hs2.2.2 y hy x (by simp)).2
    have h2 := commonN_le x.word y.word
    unfold brkN sameN
    simp [h1]
    omega
  have hB : ∀ y ∈ B, brkN x (16 : Nat) y = false := fun y hy => by
    have h1 := ((List.pairwise_cons.1 hs2.2.1).1 y hy).2
    have h2 := commonN_le x.word y.word
    unfold brkN sameN
    simp [Ne.symm h1]
    omega
  have h16 : runN l x.id (16 : Nat) = max A.length B.length := by
    rw [runN_eq h0 hx (by omega), hg 16 (by omega)]
    unfold runF
    rw [List.foldl_append, List.foldl_cons]
    have e1 := run_free A (0, 0) (Nat.le_refl _) hA
    have e2 : ∀ s, runStep x ((16 : Nat) : Int) s x = (s.1, 0) := fun s => by unfold runStep brkN; simp
    rw [e2, run_free B _ (Nat.zero_le _) hB, e1]
    simp
  rw [List.range_succ, List.map_append, List.sum_append]
  have : ((List.range 16).map fun (h : Nat) => runN l x.id h).sum = 0 := by
    have : ∀ m, m ≤ 16 → ((List.range m).map fun (h : Nat) => runN l x.id h).sum = 0 := by
      intro m
      induction m with
      | zero => intro _; rfl
      | succ m ih =>
        intro hm
        rw [List.range_succ, List.map_append, List.sum_append, ih (by omega)]
        simp [hz m (by omega)]
    exact this 16 (Nat.le_refl _)
  rw [this]
  simp only [List.map_cons, List.map_nil, List.sum_cons, List.sum_nil]
  rw [show (((16 : Nat)) : Int) = ((16 : Nat) : Int) from rfl, h16]
  omega
end Go.Proofs.YtkjlhcfocefhpaaDoor
