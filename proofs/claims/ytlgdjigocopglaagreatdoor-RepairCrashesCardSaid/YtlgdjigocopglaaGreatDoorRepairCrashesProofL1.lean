/- Texts for RepairCrashesProof. -/
import Derived.Test.YtlgdjigocopglaaGreatDoorRqABCDF1
import Derived.Test.YtlgdjigocopglaaGreatDoorRqABF1
import Derived.Test.YtlgdjigocopglaaGreatDoorRqDEF1
import Derived.Test.YtlgdjigocopglaaGreatDoorRqCF1
set_option linter.unusedSimpArgs false
set_option linter.unusedVariables false

namespace Go.Proofs.YtlgdjigocopglaaGreatDoor
open Go.RowKit
theorem wo1_p (gx : Nat) (a : Option Addr) (n c : Nat) (ids : List Int) (w : World) (hx : Blk w gx [.slice a n c] 22) (hs : Sl 1 encI w a n ids) (hn : n ≤ 4000000000000000000) :
  PredG 78 #[.pointer (some ⟨gx, 0, none⟩)] (fun x => ids.contains x.id) w := by
 intro x w' kk
 have hg := (hx.nx kk).lt
 have hne : ¬ gx = w'.heap.size := by omega
 have k2 := Ex.new w' (.cells #[.int .i64 x.id, .string x.key, .int .u32 x.word] 56)
 have S2 := lH ((hs.nx kk).nx k2)
 have K2 := lH k2
 have q0 := (hx.nx kk).cell 0 _ rfl
 unfold Nd.val
 clear hx kk hs k2
 go_enter Tryz.func78, Tryz.ntmps78
 go_wp2_with fail
 (with_reducible refine (contains_i _ _ _ _ _ _ S2.out hn).mono ?_)
 rintro e w1 ⟨rfl, k3⟩
 have K3 := lH (K2.out.nx k3)
 clear k3
 go_wp2_with fail
 go_ret
 exact ⟨by simp, K3.out⟩
theorem own_setc {base : Nat} {w : World} {g m cap j : Nat} {L : List Nd} (h : OwnL 3 encN 56 base w (.slice (some ⟨g, 0, none⟩) m cap) L) (v : Value) (hj : m * 3 ≤ j) :
  OwnL 3 encN 56 base (w.setCell ⟨g, j, none⟩ v) (.slice (some ⟨g, 0, none⟩) m cap) L := by
 rcases h.2 with ⟨h1, _⟩ | ⟨g', cap', cur, e1, e2, e3, e4, e5, e6, e7⟩
 ·cases h1
 ·obtain ⟨rfl, hLn, rfl⟩ : g = g' ∧ m = L.length ∧ cap = cap' := by simpa using e1
  refine ⟨h.1, .inr ⟨g, cap, _, e1, e2, heap_set e3 j v, e4, e5, by simp [e6], ?_⟩⟩
  rw [← e7, Array.toList_setIfInBounds, List.take_set_of_le (by rw [← hLn]; exact hj)]
theorem own_setcs {base : Nat} {g m cap : Nat} {L : List Nd} : ∀ (vs : List Value) (w : World) (j : Nat), m * 3 ≤ j → OwnL 3 encN 56 base w (.slice (some ⟨g, 0, none⟩) m cap) L →
  OwnL 3 encN 56 base (w.setCells g j vs) (.slice (some ⟨g, 0, none⟩) m cap) L
 | [], _, _, _, h => h
 | v :: vs, w, j, hj, h => own_setcs vs _ (j + 1) (by omega) (own_setc h v hj)
theorem ex_setcs {g : Nat} {w0 : World} (hg : w0.heap.size ≤ g) : ∀ (vs : List Value) (w : World) (j : Nat), Ex w0 w → Ex w0 (w.setCells g j vs)
 | [], _, _, h => h
 | v :: vs, w, j, h => ex_setcs hg vs _ (j + 1) (h.setNew (p := ⟨g, j, none⟩) v hg)
theorem own_cutn {base : Nat} {w : World} {g n m cap : Nat} {L : List Nd} (h : OwnL 3 encN 56 base w (.slice (some ⟨g, 0, none⟩) n cap) L) (hm : m ≤ L.length) :
  OwnL 3 encN 56 base w (.slice (some ⟨g, 0, none⟩) m cap) (L.take m) := by
 have hml : (L.take m).length = m := by rw [List.length_take]; omega
 rcases h.2 with ⟨h1, _⟩ | ⟨g', cap', cur, e1, e2, e3, e4, e5, e6, e7⟩
 ·cases h1
 ·obtain ⟨rfl, hLn, rfl⟩ : g = g' ∧ n = L.length ∧ cap = cap' := by simpa using e1
  refine ⟨by rw [flatN_len (sz := 3) (fun _ => rfl)], .inr ⟨g, cap, cur, by simp [hml], e2, e3, by omega, e5, e6, ?_⟩⟩
  rw [hml, flatN_take (sz := 3) (fun _ => rfl), ← e7, List.take_take, Nat.min_eq_left (Nat.mul_le_mul_right _ hm)]
theorem own_cell {base : Nat} {w : World} {g n cap : Nat} {L : List Nd} (h : OwnL 3 encN 56 base w (.slice (some ⟨g, 0, none⟩) n cap) L) (j : Nat) (hj : j < n * 3) : (w.cell? ⟨g, j, none⟩).isSome = true ∧ w.frozen? ⟨g, j, none⟩ = false := by
 rcases h.2 with ⟨h1, _⟩ | ⟨g', cap', cur, e1, e2, e3, e4, e5, e6, e7⟩
 ·cases h1
 ·obtain ⟨rfl, hLn, rfl⟩ : g = g' ∧ n = L.length ∧ cap = cap' := by simpa using e1
  have hsz : j < cur.size := by rw [e6]; omega
  exact ⟨by simp [World.cell?, e3, hsz], by simp [World.frozen?, e3]⟩
theorem Tryz.zeroN (w : World) : (zeroValue 56).run Tryz.prog w = .ok (.agg #[.int .i64 0, .string ⟨#[]⟩, .int .u32 0]) w := by kernel_rfl
theorem run_clear_row {base : Nat} {w : World} {g n m cap c' : Nat} {L : List Nd} (h : OwnL 3 encN 56 base w (.slice (some ⟨g, 0, none⟩) n cap) L) (hm : m < n) (ty : TypeId) :
  ∃ vs, (Builtin.clear_ #[23] ty #[.slice (some ⟨g, m * 3, none⟩) (n - m) c']).run Tryz.prog w = .ok (.tuple #[]) (w.setCells g (m * 3) vs) := by
 obtain ⟨vs, hvs⟩ : ∃ vs, vs = (Builtin.zeroCells (Value.cells (.agg #[.int .i64 0, .string ⟨#[]⟩, .int .u32 0])) (n - m)).toList := ⟨_, rfl⟩
 have hcells : (Value.cells (.agg #[.int .i64 0, .string ⟨#[]⟩, .int .u32 0])) = #[.int .i64 0, .string ⟨#[]⟩, .int .u32 0] := rfl
 have hl : vs.length = (n - m) * 3 := by rw [hvs, hcells]; simp [Builtin.zeroCells]
 have h1 : ∀ v ∈ vs, v.oneCell' = true := by
  intro v hv
  rw [hvs, hcells] at hv
  simp only [Builtin.zeroCells, Array.toList_map, List.mem_map] at hv
  obtain ⟨i, _, rfl⟩ := hv
  have hi : i % 3 < 3 := Nat.mod_lt _ (by omega)
  show ((#[Value.int .i64 0, .string ⟨#[]⟩, .int .u32 0] : Array Value)[i % 3]!).oneCell' = true
  generalize i % 3 = q at hi
  match q, hi with
  | 0, _ => rfl
  | 1, _ => rfl
  | 2, _ => rfl
 have hst := run_storeCells_cells (P := Tryz.prog) g (m * 3) vs 0 w (by intro j hj; rw [hl] at hj; exact (own_cell h _ (by omega)).1) (by intro j hj; rw [hl] at hj; exact (own_cell h _ (by omega)).2) h1
 simp only [Nat.add_zero] at hst
 obtain ⟨q, hq⟩ : ∃ q, n - m = q + 1 := ⟨n - m - 1, by omega⟩
 refine ⟨vs, ?_⟩
 rw [hq] at hvs ⊢
 simp [Builtin.clear_, run_underlying Tryz.underlying23, Tryz.zeroN, ← hvs, hst]
def DlRel (l : List Nd) (p : Nd → Bool) (g cap base n : Nat) (w : World) (i j : Value) (wr : World) : Prop :=
 ∃ (k : Nat) (X : List Nd), k ≤ n ∧ j = .int .i64 k ∧ i = .int .i64 (((l.take k).filter fun x => !p x).length : Nat) ∧ ((l.take k).filter fun x => !p x).length < k ∧ X.length = n ∧
  X.take ((l.take k).filter fun x => !p x).length = (l.take k).filter (fun x => !p x) ∧ X.drop k = l.drop k ∧ OwnL 3 encN 56 base wr (.slice (some ⟨g, 0, none⟩) n cap) X ∧ Ex w wr
theorem filt_snoc (l : List Nd) (q : Nd → Bool) (k : Nat) (y : Nd) (hy : l[k]? = some y) : (l.take (k + 1)).filter q = (l.take k).filter q ++ (if q y = true then [y] else []) := by
 rw [List.take_add_one, hy, List.filter_append]
 congr 1
 simp only [Option.toList_some, List.filter_cons, List.filter_nil]
theorem set_mid {X : List Nd} {i k : Nat} {Y Z : List Nd} {y : Nd} (h1 : X.take i = Y) (h2 : X.drop k = Z) (hl : Y.length = i) (hi : i < k) (hk : k < X.length) : (X.set i y).take (i + 1) = Y ++ [y] ∧ (X.set i y).drop (k + 1) = Z.drop 1 := by
 refine ⟨?_, ?_⟩
 ·rw [List.take_set, List.take_succ_eq_append_getElem (by omega), h1, List.set_append_right _ _ (by omega), hl, Nat.sub_self]
  rfl
 ·rw [List.drop_set_of_lt (by omega), ← h2, List.drop_drop]
theorem idx_filter {l : List Nd} {p : Nd → Bool} {k : Nat} (hno : ∀ j z, j < k → l[j]? = some z → p z = false) : (l.take k).filter (fun x => !p x) = l.take k := by
 rw [List.filter_eq_self]
 intro x hx
 obtain ⟨j, hj⟩ := List.mem_iff_getElem?.1 hx
 rw [List.getElem?_take] at hj
 split at hj
 ·rw [hno j x (by assumption) hj]; rfl
 ·cases hj
theorem idxB_cases (l : List Nd) (p : Nd → Bool) : (∃ (k : Nat) (y : Nd), idxB p l = k ∧ k < l.length ∧ l[k]? = some y ∧ p y = true ∧ (l.take k).filter (fun x => !p x) = l.take k) ∨ (idxB p l = -1 ∧ l.filter (fun x => !p x) = l) := by
 unfold idxB
 by_cases h : l.findIdx p < l.length
 ·refine .inl ⟨l.findIdx p, l[l.findIdx p], by rw [if_pos h], h, List.getElem?_eq_getElem h, List.findIdx_getElem, idx_filter (fun j z hj hz => ?_)⟩
  have := List.not_of_lt_findIdx hj
  rw [List.getElem?_eq_getElem (by omega)] at hz
  cases hz
  simpa using this
 ·refine .inr ⟨by rw [if_neg h], ?_⟩
  rw [List.filter_eq_self]
  intro x hx
  cases hp : p x with
  | false => rfl
  | true => exact absurd (List.findIdx_lt_length.2 ⟨x, hx, hp⟩) h
def NdPost (l : List Nd) (base : Nat) (w : World) (e : Ending) (w' : World) : Prop := ∃ v : Value, e = .returned v ∧ OwnL 3 encN 56 base w' v l ∧ Ex w w'
set_option maxRecDepth 100000 in
set_option maxHeartbeats 4000000 in
theorem delete_n (gf : Nat) (lb : Array Value) (p : Nd → Bool) (eg : ∀ args w, (callFunc gf args).run Tryz.prog w = .ok (.enter gf args) w) (v : Value) (l : List Nd) (w0 w : World) (h : OwnL 3 encN 56 w0.heap.size w v l) (hn : l.length ≤ 1000) (k0 : Ex w0 w) (hp : PredG gf lb p w0) :
  Calls Tryz.prog 76 #[v, .func (.func gf) #[] lb] w (NdPost (l.filter fun x => !p x) w0.heap.size w0) := by
 obtain ⟨a, cap, rfl, S, hc, hm, _⟩ := h.slf (fun _ => rfl)
 have HP := lH hp
 have EG := lH eg
 have H := lH h
 have S := lH S.sl
 have K0 := lH k0
 obtain ⟨n, hnl⟩ : ∃ n, n = l.length := ⟨_, rfl⟩
 rw [← hnl] at H S hc hn ⊢
 have HN := lH hnl
 clear h hp eg k0 hnl
 go_enter Tryz.func76, Tryz.ntmps76
 go_wp2_with fail
 (with_reducible refine (idxf_n gf lb p EG.out _ _ _ _ _ S.out (by omega) (HP.out.nx K0.out)).mono ?_)
 rintro e w1 ⟨rfl, kk⟩
 have K1 := lH (K0.out.nx kk)
 have H1 := lH (H.out.nx kk)
 clear kk H S K0
 rcases idxB_cases l p with ⟨q, y0, hq, hql, hy0, hpy, hf0⟩ | ⟨hq, hf⟩
 ·rw [hq]
  rw [← HN.out] at hql
  rcases H1.out.2 with ⟨he, _⟩ | ⟨g, cap', cur, e1, e2, _⟩
  ·simp only [Value.slice.injEq] at he
   omega
  ·obtain ⟨rfl, hx0, rfl⟩ : a = some ⟨g, 0, none⟩ ∧ n = l.length ∧ cap = cap' := by simpa using e1
   clear hx0
   have hF : (l.take (q + 1)).filter (fun x => !p x) = l.take q := by rw [filt_snoc _ _ _ _ hy0, hf0, hpy]; simp
   have hFl : ((l.take (q + 1)).filter (fun x => !p x)).length = q := by rw [hF, List.length_take, ← HN.out]; omega
   have RR := lH (show DlRel l p g cap w0.heap.size n w0 (.int .i64 q) (.int .i64 ((q : Int) + 1)) w1 from
    ⟨q + 1, l, by omega, by go_num, by rw [hFl], by rw [hFl]; omega, HN.out.symm, by rw [hFl, hF], rfl, H1.out, K1.out⟩)
   have q0 : ¬ (q : Int) = -1 := by omega
   have q1 : ((q : Int) == -1) = false := by rw [beq_eq_false_iff_ne]; omega
   have HG := lH e2
   clear hq hy0 hpy hf0 hF hFl e1 e2 H1 K1
   go_wp2_with fail
   go_loopw [5, 6] (fun i j wr => DlRel l p g cap w0.heap.size n w0 i j wr) (fun _ j _ => n - (intOf j).toNat)
   case atStart => exact RR.out
   case round =>
    clear RR
    obtain ⟨k, X, hk, rfl, rfl, hik, hX, hXt, hXd, own, kw⟩ := hrel
    obtain ⟨wo, rfl⟩ : ∃ wo : World, wo = wr := ⟨_, rfl⟩
    obtain ⟨i, hi⟩ : ∃ i, i = ((l.take k).filter fun x => !p x).length := ⟨_, rfl⟩
    rw [← hi] at hik hXt ⊢
    have HI := lH hi
    have KW := lH kw
    by_cases hlt : k < n
    ·obtain ⟨y, hy⟩ : ∃ y, l[k]? = some y := ⟨l[k]'(by rw [← HN.out]; exact hlt), by simp⟩
     have hXy : X[k]? = some y := by
      have h1 := congrArg (·[0]?) hXd
      simpa [List.getElem?_drop, hy] using h1
     have hs : Sl 3 encN wo (some ⟨g, 0, none⟩) n X := by
      obtain ⟨_, _, e5, s5, _⟩ := own.slf (fun _ => rfl)
      rw [hX] at e5 s5
      cases e5
      exact s5.sl
     obtain ⟨x1, o1, y', he, hx1, hy', hc1⟩ := hs.at hlt
     cases he
     obtain rfl : y = y' := Option.some.inj (hXy.symm.trans hy')
     have e0 : wo.cell? ⟨g, 0 + k * 3, none⟩ = some (.int .i64 y.id) := hc1 0 _ rfl
     have e1 : wo.cell? ⟨g, 0 + k * 3 + 1, none⟩ = some (.string y.key) := hc1 1 _ rfl
     have e2 : wo.cell? ⟨g, 0 + k * 3 + 1 + 1, none⟩ = some (.int .u32 y.word) := by simpa [Nat.add_assoc] using hc1 2 _ rfl
     rw [Nat.zero_add] at e0 e1 e2
     have k7 := Ex.new wo (.cells #[.int .i64 y.id, .string y.key, .int .u32 y.word] 56)
     have B7 := Blk.new wo [.int .i64 y.id, .string y.key, .int .u32 y.word] 56
     obtain ⟨w2, hw2⟩ : ∃ w2, w2 = wo.alloc (.cells #[.int .i64 y.id, .string y.key, .int .u32 y.word] 56) := ⟨_, rfl⟩
     obtain ⟨g7, hg7⟩ : ∃ g7, g7 = wo.heap.size := ⟨_, rfl⟩
     have B7 : Blk w2 g7 [.int .i64 y.id, .string y.key, .int .u32 y.word] 56 := by rw [hw2, hg7]; exact B7
     rw [← hw2] at k7
     have hg7b : w0.heap.size ≤ g7 := by rw [hg7]; exact kw.size
     have hne7 : ¬ g = g7 := by rw [hg7]; omega
     have hc := HP.out y w2 (kw.nx k7)
     unfold Nd.val at hc
     have own2 := own.nx k7
     have c0 := B7.cell 0 _ rfl
     have c1 := B7.cell 1 _ rfl
     have c2 := B7.cell 2 _ rfl
     have KW2 := lH (kw.nx k7)
     have HW2 := lH hw2
     have HG7 := lH hg7
     have FSn := lH (filt_snoc l (fun x => !p x) k y hy)
     have hXd1 : l.drop (k + 1) = (l.drop k).drop 1 := by rw [List.drop_drop]
     have HXT := lH hXt
     have HXD := lH hXd
     have HXD1 := lH hXd1
     have HX := lH hX
     have OWN2 := lH own2
     have hilen := lH hi.symm
     clear hi hs hc1 hy hXy hy' k7 hw2 hg7 own own2 kw hXt hXd hXd1 hX
     go_upto_region 8 with fail
     rw [← HG7.out, ← HW2.out]
     have eg := EG.out
     go_wp2_with fail
     refine hc.mono ?_
     rintro e w3 ⟨rfl, k3⟩
     have K3 := lH (KW2.out.nx k3)
     have own3 := OWN2.out.nx k3
     have B8 := B7.nx k3
     have c0 := B8.cell 0 _ rfl
     have c1 := B8.cell 1 _ rfl
     have c2 := B8.cell 2 _ rfl
     clear hc k3 e0 e1 e2 B7 OWN2 eg
     cases hb : p y with
     | true =>
      have F1 : (l.take (k + 1)).filter (fun x => !p x) = (l.take k).filter (fun x => !p x) := by rw [FSn.out]; simp [hb]
      have RZ := lH (show DlRel l p g cap w0.heap.size n w0 (.int .i64 (i : Nat)) (.int .i64 ((k : Int) + 1)) w3 from
       ⟨k + 1, X, by omega, by go_num, by rw [F1, HI.out], by rw [F1, ← HI.out]; omega, HX.out, by rw [F1, ← HI.out]; exact HXT.out, by rw [HXD1.out, ← HXD.out, List.drop_drop], own3, K3.out⟩)
      clear F1 own3 hb B8 c0 c1 c2
      go_wp2_with fail
      exact ⟨RZ.out, by simp [intOf]; omega⟩
     | false =>
      have F1 : (l.take (k + 1)).filter (fun x => !p x) = (l.take k).filter (fun x => !p x) ++ [y] := by rw [FSn.out]; simp [hb]
      have F1l : ((l.take (k + 1)).filter (fun x => !p x)).length = i + 1 := by rw [F1, List.length_append, ← HI.out]; rfl
      obtain ⟨⟨va, vb, vc, d0, d1, d2⟩, fz, OS⟩ := own_set3 own3 (j := i) (by omega) y
      obtain ⟨s1, s2⟩ := set_mid (y := y) HXT.out HXD.out hilen.out hik (by rw [HX.out]; exact hlt)
      have hgw : w0.heap.size ≤ g := HG.out
      have RZ := lH (show DlRel l p g cap w0.heap.size n w0 (.int .i64 ((i : Int) + 1)) (.int .i64 ((k : Int) + 1)) (((w3.setCell ⟨g, i * 3, none⟩ (.int .i64 y.id)).setCell ⟨g, i * 3 + 1, none⟩ (.string y.key)).setCell ⟨g, i * 3 + 2, none⟩ (.int .u32 y.word)) from
       ⟨k + 1, X.set i y, by omega, by go_num, by rw [F1l]; go_num, by rw [F1l]; omega, by rw [List.length_set]; exact HX.out, by rw [F1l, s1, F1], by rw [s2, HXD1.out], OS,
        ((K3.out.setNew (p := ⟨g, i * 3, none⟩) _ hgw).setNew (p := ⟨g, i * 3 + 1, none⟩) _ hgw).setNew (p := ⟨g, i * 3 + 2, none⟩) _ hgw⟩)
      have z0 := fz (i * 3)
      have z1 := fz (i * 3 + 1)
      have z2 := fz (i * 3 + 1 + 1)
      clear F1 F1l own3 hb B8 OS s1 s2 fz
      go_wp2_with fail
      exact ⟨RZ.out, by simp [intOf]; omega⟩
    ·obtain rfl : k = n := by omega
     have hfl : l.take k = l := List.take_of_length_le (by rw [← HN.out]; exact Nat.le_refl _)
     rw [hfl] at hXt HI
     obtain ⟨vs, hcl⟩ := run_clear_row (c' := cap - i) own hik 0
     have hcl : ∀ ty, (Builtin.clear_ #[23] ty #[.slice (some ⟨g, i * 3, none⟩) (k - i) (cap - i)]).run Tryz.prog wo = .ok (.tuple #[]) (wo.setCells g (i * 3) vs) := fun _ => hcl
     have O9 := lH (own_setcs vs wo (i * 3) (Nat.le_refl _) (own_cutn own (m := i) (by rw [hX]; omega)))
     rw [hXt] at O9
     have K9 := lH (ex_setcs HG.out vs wo (i * 3) KW.out)
     have hic : ¬ cap = i := by omega
     clear own kw hXd hX hXt hfl hk hlt hi
     go_wp2_with (simp only [hcl])
     go_ret
     exact ⟨_, rfl, O9.out, K9.out⟩
 ·rw [hq]
  have HF := lH hf
  clear hq hf
  go_wp2_with fail
  go_ret
  exact ⟨_, rfl, by rw [HF.out, HN.out]; rw [← HN.out]; exact H1.out, K1.out⟩
def withoutN (l : List Nd) (ids : List Int) : List Nd := l.filter fun x => !(ids.contains x.id)
set_option maxHeartbeats 1000000 in
theorem without_p (a : Option Addr) (n c : Nat) (l : List Nd) (a2 : Option Addr) (n2 c2 : Nat) (ids : List Int) (w : World) (h : Sl 3 encN w a n l) (hn : n ≤ 1000) (h2 : Sl 1 encI w a2 n2 ids) (hn2 : n2 ≤ 4000000000000000000) :
  Calls Tryz.prog 36 #[.slice a n c, .slice a2 n2 c2] w (NdPost (withoutN l ids) w.heap.size w) := by
 have HL := lH h.len
 have k1 := Ex.new w (.cells #[.slice a2 n2 c2] 22)
 have B1 := Blk.new w [.slice a2 n2 c2] 22
 obtain ⟨w1, hw1⟩ : ∃ w1, w1 = w.alloc (.cells #[.slice a2 n2 c2] 22) := ⟨_, rfl⟩
 obtain ⟨g, hg⟩ : ∃ g, g = w.heap.size := ⟨_, rfl⟩
 have B1 : Blk w1 g [.slice a2 n2 c2] 22 := by rw [hw1, hg]; exact B1
 rw [← hw1] at k1
 have HW1 := lH hw1
 have HG := lH hg
 have PG := lH (wo1_p g a2 n2 c2 ids w1 B1 (h2.nx k1) hn2)
 have eg : ∀ args w, (callFunc 78 args).run Tryz.prog w = .ok (.enter 78 args) w := enters_of Tryz.func78 (by kernel_rfl) rfl
 have EG := lH eg
 have S1 := h.nx k1
 have K1 := lH k1
 clear h h2 hw1 hg B1 k1 eg
 go_enter Tryz.func36, Tryz.ntmps36
 go_upto_region 1 with fail
 rw [← HG.out, ← HW1.out]
 go_wp2_with fail
 (with_reducible refine (clone_n _ _ _ _ _ S1 hn).mono ?_)
 rintro e w2 ⟨v, rfl, own, k2⟩
 clear S1
 go_wp2_with fail
 (with_reducible refine (delete_n _ _ _ EG.out v l w1 w2 own (by rw [HL.out]; exact hn) k2 PG.out).mono ?_)
 rintro e w3 ⟨v3, rfl, own3, k3⟩
 have O3 := lH (OwnL.base own3 K1.out.size)
 have K3 := lH (K1.out.nx k3)
 clear own own3 k2 k3
 go_wp2_with fail
 go_ret
 exact ⟨_, rfl, O3.out, K3.out⟩
def gapStep (s : Nat × Nat) (b : Bool) : Nat × Nat := (max s.1 (if b then s.2 + 1 else 0), if b then s.2 + 1 else 0)
def gapF (bs : List Bool) (s : Nat × Nat) : Nat × Nat := bs.foldl gapStep s
def gapN (N : List Nd) (down : List Int) : Nat := if checkN N = 0 then (gapF ((sortN N).map fun x => down.contains x.id) (0, 0)).1 else 0
def crashN (P : List Pr) (down : List Int) : List Pr := P.filter fun p => !(down.contains p.id)
theorem gap_mono_s : ∀ (bs : List Bool) (s : Nat × Nat), s.1 ≤ (gapF bs s).1
 | [], s => Nat.le_refl _
 | b :: bs, s => by
  have := gap_mono_s bs (gapStep s b)
  unfold gapF at this ⊢
  rw [List.foldl_cons]
  unfold gapStep at this ⊢
  simp only at this
  omega
theorem gap_le_s : ∀ (bs : List Bool) (s : Nat × Nat), (gapF bs s).1 ≤ max s.1 (s.2 + bs.length)
 | [], s => by unfold gapF; simp; omega
 | b :: bs, s => by
  have := gap_le_s bs (gapStep s b)
  unfold gapF at this ⊢
  rw [List.foldl_cons]
  unfold gapStep at this ⊢
  cases b <;> simp at this ⊢ <;> omega
theorem gap_run : ∀ (bs : List Bool) (s : Nat × Nat), (∀ b ∈ bs, b = true) → 0 < bs.length → s.2 + bs.length ≤ (gapF bs s).1
 | [b], s, h, _ => by
  have := h b (by simp)
  subst this
  show _ ≤ (gapStep s true).1
  unfold gapStep
  simp
  omega
 | b :: c :: bs, s, h, _ => by
  have := h b (by simp)
  subst this
  have := gap_run (c :: bs) (gapStep s true) (fun x hx => h x (by simp_all)) (by simp)
  unfold gapF at this ⊢
  rw [List.foldl_cons]
  unfold gapStep at this ⊢
  simp at this ⊢
  omega
theorem gap_app (A B : List Bool) (s : Nat × Nat) : gapF (A ++ B) s = gapF B (gapF A s) := by unfold gapF; rw [List.foldl_append]
theorem gap_inner {A D B : List Bool} {s : Nat × Nat} (h : ∀ b ∈ D, b = true) : D.length ≤ (gapF (A ++ D ++ B) s).1 := by
 rw [gap_app, gap_app]
 by_cases hd : D.length = 0
 ·omega
 ·have h1 := gap_run D (gapF A s) h (by omega)
  have h2 := gap_mono_s B (gapF D (gapF A s))
  omega
theorem gap_le (N : List Nd) (down : List Int) : gapN N down ≤ N.length := by
 unfold gapN
 split
 ·have := gap_le_s ((sortN N).map fun x => down.contains x.id) (0, 0)
  simp [sortN_length] at this
  simpa using this
 ·omega
section
variable {N : List Nd}
def Near (N : List Nd) (x y : Nd) (w : Int) (h : Nat) : Prop := ∃ i k j : Nat, i ≤ h ∧ (grpS N (i : Int) x.word)[k]? = some x ∧ (grpS N (i : Int) x.word)[j]? = some y ∧ j ≠ k ∧ (j : Int) - k ≤ w ∧ (k : Int) - j ≤ w
theorem mem_contacts (h0 : checkN N = 0) {x : Nd} (hx : x ∈ N) {w : Int} (hw1 : 1 ≤ w) {h : Nat} (hh : h ≤ 16) {v : Int} : v ∈ contactsN N x.id w h ↔ ∃ y ∈ N, y.id = v ∧ Near N x y w h := by
 unfold contactsN
 rw [if_neg (by
  rintro (h | h | h)
  ·omega
  ·unfold lvlN at h; simp at h; omega
  ·exact h h0), mem_ord]
 simp only [Int.toNat_natCast, List.mem_flatMap, List.mem_range]
 constructor
 ·rintro ⟨⟨y, hy, rfl⟩, hne, i, hi, hb⟩
  obtain ⟨e1, e2⟩ := thr_at h0 hx (h := i) (by omega)
  rw [e1] at hb
  obtain ⟨j, z, hz, h1, h2, h3, h4⟩ := mem_beside.1 hb
  have : z = y := by
   have := ids_eq (check_keys h0) (grp_mem.1 (List.mem_of_getElem? hz)).1 hy h4
   exact this
  subst this
  exact ⟨z, hy, rfl, i, _, j, by omega, e2, hz, h1, h2, h3⟩
 ·rintro ⟨y, hy, rfl, i, k, j, hi, hk, hj, h1, h2, h3⟩
  obtain ⟨e1, e2⟩ := thr_at h0 hx (h := i) (by omega)
  have hkk := grp_uniq h0 hk e2 rfl
  subst hkk
  refine ⟨⟨y, hy, rfl⟩, fun he => h1 (grp_uniq h0 hj e2 he), i, by omega, ?_⟩
  rw [e1]
  exact mem_beside.2 ⟨j, y, hj, h1, h2, h3, rfl⟩
theorem filter_two {α : Type} {p : α → Bool} {S A' B' : List α} {a b : α} (h : S.filter p = A' ++ a :: b :: B') : ∃ A D B, S = A ++ a :: (D ++ b :: B) ∧ ∀ d ∈ D, p d = false := by
 obtain ⟨l1, l2, rfl, _, h2⟩ := List.filter_eq_append_iff.1 h
 obtain ⟨m1, m2, rfl, _, _, h3⟩ := List.filter_eq_cons_iff.1 h2
 obtain ⟨k1, k2, rfl, h4, _, _⟩ := List.filter_eq_cons_iff.1 h3
 exact ⟨l1 ++ m1, k1, k2, by simp, fun d hd => by simpa using h4 d hd⟩
theorem sub_check {l : List Nd} (h0 : checkN l = 0) (p : Nd → Bool) : checkN (l.filter p) = 0 := by
 have hk := check_keys h0
 unfold checkN at h0 ⊢
 split at h0
 ·omega
 rename_i hlen
 split at h0
 ·omega
 rename_i hbad
 have hle := List.length_filter_le p l
 rw [if_neg (by omega), if_neg (by
  intro hb
  obtain ⟨x, hx, hxb⟩ := List.any_eq_true.1 hb
  exact hbad (List.any_eq_true.2 ⟨x, (List.mem_filter.1 hx).1, hxb⟩)), if_neg]
 intro hd
 obtain ⟨i, k, x, y, hki, hx, hy, he⟩ := (dupN_iff _).1 hd
 have h2 : (l.filter p).Pairwise fun x y => x.key.toList ≠ y.key.toList ∧ x.id ≠ y.id := List.Pairwise.filter p (keys_pw hk)
 obtain ⟨hi, e1⟩ := List.getElem?_eq_some_iff.1 hx
 obtain ⟨hk, e2⟩ := List.getElem?_eq_some_iff.1 hy
 have := List.pairwise_iff_getElem.1 h2 k i hk hi hki
 rw [e1, e2] at this
 unfold eqN at he
 rcases Bool.or_eq_true_iff.1 he with h1 | h1
 ·exact this.2 (by simpa using (beq_iff_eq.1 h1).symm)
 ·exact this.1 (beq_iff_eq.1 h1).symm
theorem sort_filter {l : List Nd} (h0 : checkN l = 0) (p : Nd → Bool) : sortN (l.filter p) = (sortN l).filter p :=
 (sortN_unique (check_keys (sub_check h0 p)) ((sortN_perm l).filter p) (List.Pairwise.filter p (sortN_asc l))).symm
theorem survive_law (h0 : checkN N = 0) {h : Nat} (hh : h ≤ 16) {wd : Int} {down : List Int} (hg : (gapN N down : Int) < wd) :
  ConnN (withoutN N down) (crashN (peersN N wd h) down) ∧ (crashN (peersN N wd h) down).length = (withoutN N down).length := by
 have hp : peersN N wd h = (sortN N).map (peerC N wd h) := by unfold peersN; rw [if_pos ⟨h0, by unfold lvlN; simp; omega⟩]
 have hcr : crashN (peersN N wd h) down = ((sortN N).filter fun x => !(down.contains x.id)).map (peerC N wd h) := by
  unfold crashN
  rw [hp, List.filter_map]
  rfl
 have h1 : checkN (withoutN N down) = 0 := sub_check h0 _
 have hsw : sortN (withoutN N down) = (sortN N).filter fun x => !(down.contains x.id) := sort_filter h0 _
 refine ⟨⟨h1, fun x hx y hy => ?_⟩, ?_⟩
 ·refine chain_cl (sortN (withoutN N down)) ?_ x ((sortN_mem _ x).2 hx) y ((sortN_mem _ y).2 hy)
  intro A' a b B' e
  have ha := (sortN_mem _ a).1 (show a ∈ sortN (withoutN N down) by rw [e]; simp)
  have hb := (sortN_mem _ b).1 (show b ∈ sortN (withoutN N down) by rw [e]; simp)
  have haN : a ∈ N := (List.mem_filter.1 ha).1
  have hbN : b ∈ N := (List.mem_filter.1 hb).1
  rw [hsw] at e
  obtain ⟨A, D, B, eS, hD⟩ := filter_two e
  have hgap : D.length ≤ gapN N down := by
   unfold gapN
   rw [if_pos h0, eS]
   have := gap_inner (A := (A ++ [a]).map fun x => down.contains x.id) (D := D.map fun x => down.contains x.id) (B := (b :: B).map fun x => down.contains x.id) (s := (0, 0)) (by
    intro z hz
    obtain ⟨d, hd, rfl⟩ := List.mem_map.1 hz
    simpa using hD d hd)
   rw [List.length_map] at this
   simpa using this
  refine ⟨⟨a, ha, rfl⟩, ?_⟩
  have hpa : peerN (crashN (peersN N wd h) down) a.id = peerC N wd h a := by
   rw [hcr]
   refine peer_map (List.Pairwise.filter _ (sort_ids h0)) (fun _ => rfl) ?_
   rw [← hsw]
   exact (sortN_mem _ a).2 ha
  rw [mem_refs h1, hpa]
  have hids := sort_ids h0
  refine ⟨⟨b, hb, rfl⟩, ?_, ?_⟩
  ·rw [eS] at hids
   have := (List.pairwise_append.1 hids).2.1
   rw [List.pairwise_cons] at this
   exact fun he => this.1 b (by simp) he.symm
  ·show b.id ∈ contactsN (sortN N) a.id wd h ++ _ ++ _
   rw [contacts_sort h0]
   refine List.mem_append_left _ (List.mem_append_left _ ?_)
   rw [mem_contacts h0 haN (by omega) hh]
   refine ⟨b, hbN, rfl, 0, A.length, A.length + D.length + 1, by omega, ?_, ?_, by omega, by omega, by omega⟩
   ·rw [grp_zero, eS]; simp
   ·rw [grp_zero, eS, List.getElem?_append_right (by omega), show A.length + D.length + 1 - A.length = D.length + 1 by omega, List.getElem?_cons_succ, List.getElem?_append_right (by omega)]; simp
 ·rw [hcr, List.length_map, ← hsw, sortN_length]
end
def GapRel (S : List Nd) (down : List Int) (w : World) (b r i : Value) (wr : World) : Prop :=
 ∃ j : Nat, j ≤ S.length ∧ i = .int .i64 j ∧ b = .int .i64 (gapF ((S.take j).map fun x => down.contains x.id) (0, 0)).1 ∧ r = .int .i64 (gapF ((S.take j).map fun x => down.contains x.id) (0, 0)).2 ∧ Ex w wr
theorem gap_snoc {S : List Nd} {down : List Int} {j : Nat} {y : Nd} (hy : S[j]? = some y) (s : Nat × Nat) :
  gapF ((S.take (j + 1)).map fun x => down.contains x.id) s = gapStep (gapF ((S.take j).map fun x => down.contains x.id) s) (down.contains y.id) := by
 rw [List.take_add_one, hy, List.map_append, gap_app]
 rfl
theorem gap_two : ∀ (bs : List Bool) (s : Nat × Nat), (gapF bs s).2 ≤ s.2 + bs.length
 | [], s => Nat.le_refl _
 | b :: bs, s => by
  have := gap_two bs (gapStep s b)
  unfold gapF at this ⊢
  rw [List.foldl_cons]
  unfold gapStep at this ⊢
  cases b <;> simp at this ⊢ <;> omega
end Go.Proofs.YtlgdjigocopglaaGreatDoor
namespace Go.Proofs.YtlgdjigocopglaaGreatDoor
open Go.RowKit Go.Maps
set_option maxRecDepth 100000 in
set_option maxHeartbeats 2000000 in
theorem gap_p (a : Option Addr) (n c : Nat) (N : List Nd) (a2 : Option Addr) (n2 c2 : Nat) (down : List Int) (w : World) (h : Sl 3 encN w a n N) (hn : n ≤ 1000) (hc : n ≤ c) (hm : c ≤ maxLen) (h2 : Sl 1 encI w a2 n2 down) (hn2 : n2 ≤ 4000000000000000000) :
  Calls Tryz.prog 34 #[.slice a n c, .slice a2 n2 c2] w fun e w' => e = .returned (.int .i64 (gapN N down)) ∧ Ex w w' := by
 have HL := lH h.len
 go_enter Tryz.func34, Tryz.ntmps34
 go_wp2_with fail
 (with_reducible refine (check_p _ _ _ _ _ h (by omega) hc hm).mono ?_)
 rintro e w0 ⟨rfl, kk⟩
 replace h := h.nx kk
 replace h2 := h2.nx kk
 have K0 := lH kk
 clear kk
 by_cases hck : checkN N = 0
 case neg =>
  have d1 : (checkN N != 0) = true := by simpa using hck
  have E0 : Hid (gapN N down = 0) := lH (by unfold gapN; rw [if_neg hck])
  clear h h2 hck
  go_wp2_with fail
  go_ret
  exact ⟨by rw [E0.out]; rfl, K0.out⟩
 have d1 : (checkN N != 0) = false := by simpa using hck
 have EG : Hid (gapN N down = (gapF ((sortN N).map fun x => down.contains x.id) (0, 0)).1) := lH (by unfold gapN; rw [if_pos hck])
 have HC := lH hck
 clear hck
 go_wp2_with fail
 (with_reducible refine (sort_p _ _ _ _ _ h hn).mono ?_)
 rintro e w1 ⟨v, S, rfl, OS, ⟨hp, hsrt⟩, kk⟩
 replace h2 := h2.nx kk
 have hSe : S = sortN N := sortN_unique (check_keys HC.out) hp hsrt
 subst hSe
 obtain ⟨a1, c1, rfl, S1, _, _⟩ := sorted_own HC.out OS
 rw [HL.out] at S1 ⊢
 have hSl : (sortN N).length ≤ n := by rw [S1.len]; omega
 generalize sortN N = S at S1 hSl EG ⊢
 have HSL := lH S1.len
 have S1 := lH S1
 have H2 := lH h2
 have K1 := lH (K0.out.nx kk)
 clear h OS h2 kk hp hsrt
 go_wp2_with fail
 go_loopw [5, 6, 15] (fun b r i wr => GapRel S down w1 b r i wr) (fun _ _ i _ => n - (intOf i).toNat)
 case atStart => exact ⟨0, by omega, rfl, rfl, rfl, Ex.refl _⟩
 case round =>
  obtain ⟨j, hj, rfl, rfl, rfl, ki⟩ := hrel
  obtain ⟨wi, rfl⟩ : ∃ wi : World, wi = wr := ⟨_, rfl⟩
  by_cases hjm : j < n
  ·obtain ⟨x3, o3, y, rfl, hx3, hy, hc3⟩ := (S1.out.nx ki).at hjm
   have e0 : wi.cell? ⟨x3, o3 + j * 3, none⟩ = some (.int .i64 y.id) := hc3 0 _ rfl
   have e1 : wi.cell? ⟨x3, o3 + j * 3 + 1, none⟩ = some (.string y.key) := hc3 1 _ rfl
   have e2 : wi.cell? ⟨x3, o3 + j * 3 + 1 + 1, none⟩ = some (.int .u32 y.word) := by simpa [Nat.add_assoc] using hc3 2 _ rfl
   have SN := lH (gap_snoc (down := down) hy (0, 0))
   have b1 := gap_le_s ((S.take j).map fun x => down.contains x.id) (0, 0)
   have b2 := gap_two ((S.take j).map fun x => down.contains x.id) (0, 0)
   rw [List.length_map, List.length_take] at b1 b2
   obtain ⟨⟨p, q⟩, hpq⟩ : ∃ s, s = gapF ((S.take j).map fun x => down.contains x.id) (0, 0) := ⟨_, rfl⟩
   rw [← hpq] at SN b1 b2 ⊢
   simp only at b1 b2 ⊢
   have hp : p ≤ 1000 := by simp at b1; omega
   have hq : q ≤ 1000 := by simp at b2; omega
   have KI := lH ki
   clear hy hc3 ki hpq b1 b2
   have B7 := Blk.new wi [.int .i64 y.id, .string y.key, .int .u32 y.word] 56
   have kk := Ex.new wi (.cells #[.int .i64 y.id, .string y.key, .int .u32 y.word] 56)
   obtain ⟨w7, hw7⟩ : ∃ w7, w7 = wi.alloc (.cells #[.int .i64 y.id, .string y.key, .int .u32 y.word] 56) := ⟨_, rfl⟩
   obtain ⟨g7, hg7⟩ : ∃ g7, g7 = wi.heap.size := ⟨_, rfl⟩
   replace B7 : Blk w7 g7 [.int .i64 y.id, .string y.key, .int .u32 y.word] 56 := by rw [hw7, hg7]; exact B7
   rw [← hw7] at kk
   have Hw7 := lH hw7
   have Hg7 := lH hg7
   have K7 := lH (KI.out.nx kk)
   clear kk hw7 hg7
   go_upto_region 7 with fail
   rw [← Hg7.out, ← Hw7.out]
   clear Hg7 Hw7
   have q0 := B7.cell 0 _ rfl
   clear B7 e0 e1 e2
   go_wp2_with fail
   (with_reducible refine (contains_i _ _ _ _ y.id _ (H2.out.nx K7.out) hn2).mono ?_)
   rintro e w5 ⟨rfl, kk⟩
   have k5 := lH (K7.out.nx kk)
   clear kk q0
   generalize down.contains y.id = inl at SN ⊢
   cases inl with
   | false =>
    have hm : max (p : Int) 0 = (p : Int) := by omega
    go_wp2_with fail
    refine ⟨⟨j + 1, by rw [HSL.out]; omega, by go_num, ?_, ?_, k5.out⟩, by simp [intOf]; omega⟩
    ·rw [SN.out]; unfold gapStep; simp
    ·rw [SN.out]; unfold gapStep; simp
   | true =>
    go_wp2_with fail
    refine ⟨⟨j + 1, by rw [HSL.out]; omega, by go_num, ?_, ?_, k5.out⟩, by simp [intOf]; omega⟩
    ·rw [SN.out]; unfold gapStep; simp; omega
    ·rw [SN.out]; unfold gapStep; simp
  ·obtain rfl : j = n := by have := HSL.out; omega
   rw [List.take_of_length_le (by rw [HSL.out]; exact Nat.le_refl _)]
   have EE : Hid (gapN N down = (gapF (S.map fun x => down.contains x.id) (0, 0)).1) := EG
   have KE := lH (K1.out.nx ki)
   clear hj hjm ki
   go_wp2_with fail
   go_ret
   exact ⟨by rw [EE.out]; rfl, KE.out⟩
theorem crash_snoc {P : List Pr} {down : List Int} {j : Nat} {y : Pr} (hy : P[j]? = some y) : crashN (P.take (j + 1)) down = crashN (P.take j) down ++ (if down.contains y.id = true then [] else [y]) := by
 unfold crashN
 rw [List.take_add_one, hy, List.filter_append]
 congr 1
 by_cases hp : down.contains y.id = true
 ·rw [if_pos hp]; simp only [Option.toList_some, List.filter_cons, hp, List.filter_nil]; rfl
 ·rw [if_neg hp]
  have : down.contains y.id = false := by simpa using hp
  simp only [Option.toList_some, List.filter_cons, this, List.filter_nil]; rfl
def CrRel (P : List Pr) (down : List Int) (n : Nat) (w : World) (o i : Value) (wr : World) : Prop :=
 ∃ (j : Nat) (qs : List PQ), j ≤ n ∧ i = .int .i64 j ∧ OwnPr w.heap.size wr o qs (crashN (P.take j) down) ∧ Ex w wr
set_option maxRecDepth 100000 in
set_option maxHeartbeats 8000000 in
theorem crash_p (a : Option Addr) (n c : Nat) (P : List Pr) (a2 : Option Addr) (n2 c2 : Nat) (down : List Int) (w : World) (h : PL w a n P) (hn : n ≤ 1000) (hP : SmallP P) (h2 : Sl 1 encI w a2 n2 down) (hn2 : n2 ≤ 4000000000000000000) :
  Calls Tryz.prog 35 #[.slice a n c, .slice a2 n2 c2] w (PlPost (crashN P down) w) := by
 have HL := lH h.len
 have HS := lH h
 have H2 := lH h2
 have HP := lH hP
 clear h h2 hP
 go_enter Tryz.func35, Tryz.ntmps35
 go_wp2_with fail
 go_loopw [5, 10] (fun o i wr => CrRel P down n w o i wr) (fun _ i _ => n - (intOf i).toNat)
 case atStart => exact ⟨0, [], by omega, rfl, OwnP.nil _ _ _ _ _, Ex.refl _⟩
 case round =>
  obtain ⟨j, qs, hj, rfl, own, ki⟩ := hrel
  obtain ⟨wi, rfl⟩ : ∃ wi : World, wi = wr := ⟨_, rfl⟩
  by_cases hjm : j < n
  ·obtain ⟨x3, o3, b1, m1, d1, b4, m4, d4, y, rfl, hx3, hy, e0, e1, e2, e3, e4, s1, s4⟩ := (HS.out.nx ki).rd hjm
   have SN := lH (crash_snoc (down := down) hy)
   have hyP := HP.out y (List.mem_of_getElem? hy)
   have hl1 : m1 ≤ 17592186044416 := by have := s1.len; omega
   have hl4 : m4 ≤ 4398046511104 := by have := s4.len; omega
   have S1 := lH s1
   have S4 := lH s4
   have KI := lH ki
   have OWN := lH own
   have hqs : qs.length ≤ 1000 := by
    have h1 := own.2.1
    have h2 : (crashN (P.take j) down).length ≤ (P.take j).length := List.length_filter_le _ _
    rw [List.length_take] at h2
    omega
   have hwi := ki.size
   clear hy s1 s4 ki own hyP
   have B7 := Blk.new wi [.int .i64 y.id, .slice b1 m1 d1, .int .i64 y.left, .int .i64 y.right, .slice b4 m4 d4] 41
   have kk := Ex.new wi (.cells #[.int .i64 y.id, .slice b1 m1 d1, .int .i64 y.left, .int .i64 y.right, .slice b4 m4 d4] 41)
   obtain ⟨w8, hw8⟩ : ∃ w8, w8 = wi.alloc (.cells #[.int .i64 y.id, .slice b1 m1 d1, .int .i64 y.left, .int .i64 y.right, .slice b4 m4 d4] 41) := ⟨_, rfl⟩
   obtain ⟨g7, hg7⟩ : ∃ g7, g7 = wi.heap.size := ⟨_, rfl⟩
   replace B7 : Blk w8 g7 [.int .i64 y.id, .slice b1 m1 d1, .int .i64 y.left, .int .i64 y.right, .slice b4 m4 d4] 41 := by rw [hw8, hg7]; exact B7
   rw [← hw8] at kk
   have Hw8 := lH hw8
   have Hg7 := lH hg7
   have hg7i : wi.heap.size ≤ g7 := by omega
   have K8 := lH kk
   clear kk hw8 hg7
   go_upto_region 5 with fail
   rw [← Hg7.out, ← Hw8.out]
   clear Hg7 Hw8
   have q0 := B7.cell 0 _ rfl
   clear e0 e1 e2 e3 e4
   go_wp2_with fail
   (with_reducible refine (contains_i _ _ _ _ y.id _ (H2.out.nx (KI.out.nx K8.out)) hn2).mono ?_)
   rintro e w5 ⟨rfl, kk⟩
   replace B7 := B7.nx kk
   replace K8 := lH (K8.out.nx kk)
   have hz8 := K8.out.size
   clear kk q0
   generalize down.contains y.id = inl at SN ⊢
   cases inl with
   | true =>
    clear B7
    go_wp2_with fail
    exact ⟨⟨j + 1, qs, by omega, by go_num, by rw [SN.out]; simpa using OWN.out.nx K8.out, KI.out.nx K8.out⟩, by simp [intOf]; omega⟩
   | false =>
    have hg7l := B7.lt
    replace B7 := lH B7
    go_upto_region 6 with fail
    refine wp_region_late_drew (S := Ex w5) [7, 8, 9] (by kernel_rfl) ((Ex.refl w5).drew) (fun hHeld => ?_)
    refine tkL 0 (v := ?_) rfl (by kernel_rfl) (fun _ _ _ h => h) (by rfl) ?y1x0q1 (by assumption) ?z1x0q1
    case y1x0q1 => intro wq hSw; (go_simp); (try with_reducible rfl)
    refine tkL 1 (v := ?_) rfl (by kernel_rfl) (fun _ _ _ h => h) (by rfl) ?y1x1q4 (by assumption) ?z1x1q4
    case y1x1q4 => intro wq hSw; (have cq := (B7.out.nx hSw).cell 1 _ rfl; go_simp); (try with_reducible rfl)
    refine tkL 3 (v := ?_) rfl (by kernel_rfl) (fun _ _ _ h => h) (by rfl) ?y1x3q7 (by assumption) ?z1x3q7
    case y1x3q7 => intro wq hSw; (go_simp); (try with_reducible rfl)
    refine tkL 4 (v := ?_) rfl (by kernel_rfl) (fun _ _ _ h => h) (by rfl) ?y1x4q10 (by assumption) ?z1x4q10
    case y1x4q10 => intro wq hSw; (have cq := (B7.out.nx hSw).cell 4 _ rfl; go_simp); (try with_reducible rfl)
    refine wpAnyL_ready (rs := [2]) (by kernel_rfl) (by simp) ?_
    refine AllReadyL.cons (o := ⟨_, _, _, _, _, _⟩) rfl (fun K hK => ?_) AllReadyL.nil
    go_simp
    (with_reducible refine (clone_i _ _ _ _ _ ((S1.out.nx K8.out).nx hHeld) hl1).mono ?_)
    rintro e wc ⟨vc, rfl, own2, kk⟩
    (try replace own5 := own5.nx kk)
    obtain ⟨A2, C2, rfl, _, _, _, _⟩ := own2.slf (fun _ => rfl)
    replace own2 := own2.base hHeld.size
    replace hHeld := hHeld.nx kk
    clear kk
    have BQ := B7.out.nx hHeld
    have KZ := hHeld.b g7
    refine hK.out _ _ (hHeld) (fun hHeld => ?_)
    clear hK K
    refine tkL 6 (v := ?_) rfl (by kernel_rfl) (fun _ _ _ h => h) (by rfl) ?y1x6q28 (by assumption) ?z1x6q28
    case y1x6q28 => intro wq hSw; (go_simp); (try with_reducible rfl)
    refine wpAnyL_ready (rs := [5]) (by kernel_rfl) (by simp) ?_
    refine AllReadyL.cons (o := ⟨_, _, _, _, _, _⟩) rfl (fun K hK => ?_) AllReadyL.nil
    go_simp
    (with_reducible refine (clone_nr _ _ _ _ _ ((S4.out.nx K8.out).nx hHeld) hl4).mono ?_)
    rintro e wc ⟨vc, rfl, own5, kk⟩
    (try replace own2 := own2.nx kk)
    obtain ⟨A5, C5, rfl, _, _, _, _⟩ := own5.slf (fun _ => rfl)
    replace own5 := own5.base hHeld.size
    replace hHeld := hHeld.nx kk
    clear kk
    have BQ := B7.out.nx hHeld
    have KZ := hHeld.b g7
    refine hK.out _ _ (hHeld) (fun hHeld => ?_)
    clear hK K
    refine wpAnyL_ready (rs := [7]) (by kernel_rfl) (by simp) ?_
    refine AllReadyL.consL (o := ⟨_, _, _, _, _, _⟩) rfl (by rfl) (fun K hK => ?_) AllReadyL.nil
    have cq := BQ.cell 1 _ rfl
    have fq := BQ.free 1
    go_simp
    clear cq fq
    replace BQ := BQ.set 1 (.slice A2 y.known.length C2)
    replace own2 := own2.nxb hg7l ((Exb.refl g7 _).setB (p := ⟨g7, 1, none⟩) (.slice A2 y.known.length C2) rfl)
    replace own5 := own5.nxb hg7l ((Exb.refl g7 _).setB (p := ⟨g7, 1, none⟩) (.slice A2 y.known.length C2) rfl)
    replace KZ := KZ.setB (p := ⟨g7, 1, none⟩) (.slice A2 y.known.length C2) rfl
    refine hK.out _ _ ?_
    clear hK K
    refine wpAnyL_ready (rs := [8]) (by kernel_rfl) (by simp) ?_
    refine AllReadyL.consL (o := ⟨_, _, _, _, _, _⟩) rfl (by rfl) (fun K hK => ?_) AllReadyL.nil
    go_simp
    refine hK.out _ _ ?_
    clear hK K
    refine wpAnyL_ready (rs := [9]) (by kernel_rfl) (by simp) ?_
    refine AllReadyL.consL (o := ⟨_, _, _, _, _, _⟩) rfl (by rfl) (fun K hK => ?_) AllReadyL.nil
    have cq := BQ.cell 4 _ rfl
    have fq := BQ.free 4
    go_simp
    clear cq fq
    replace BQ := BQ.set 4 (.slice A5 y.near.length C5)
    replace own2 := own2.nxb hg7l ((Exb.refl g7 _).setB (p := ⟨g7, 4, none⟩) (.slice A5 y.near.length C5) rfl)
    replace own5 := own5.nxb hg7l ((Exb.refl g7 _).setB (p := ⟨g7, 4, none⟩) (.slice A5 y.near.length C5) rfl)
    replace KZ := KZ.setB (p := ⟨g7, 4, none⟩) (.slice A5 y.near.length C5) rfl
    refine hK.out _ _ ?_
    clear hK K
    refine wpAnyL_done (by kernel_rfl) ?_ _
    obtain ⟨wz, hwz⟩ : ∃ wz, wz = (wc.setCell ⟨g7, 1, none⟩ (.slice A2 y.known.length C2)).setCell ⟨g7, 4, none⟩ (.slice A5 y.near.length C5) := ⟨_, rfl⟩
    rw [← hwz] at BQ own2 own5 KZ ⊢
    clear hwz
    have BF : Blk wz g7 [.int .i64 y.id, .slice A2 y.known.length C2, .int .i64 y.left, .int .i64 y.right, .slice A5 y.near.length C5] 41 := BQ
    have p0 := BF.cell 0 _ rfl
    have p1 := BF.cell 1 _ rfl
    have p2 := BF.cell 2 _ rfl
    have p3 := BF.cell 3 _ rfl
    have p4 := BF.cell 4 _ rfl
    have KW := lH (Exl.nxb (b := g7) (w := wi) ⟨K8.out, hg7i⟩ KZ).1
    have OP := lH (OWN.out.nx KW.out)
    have zw := KW.out.size
    replace own2 := lH (own2.base hz8)
    replace own5 := lH (own5.base hz8)
    have hw3 : w.heap.size ≤ wi.heap.size := hwi
    have KN := KW.out.nx (Ex.new _ (.cells #[.int .i64 y.id, .slice A2 y.known.length C2, .int .i64 y.left, .int .i64 y.right, .slice A5 y.near.length C5] 41))
    have zn := Nat.le_trans hw3 KN.size
    clear BQ BF KZ hHeld
    go_wp2_with (at_builtin; (refine wpList_append_W (enc := encQ) _ rfl _ _ 24 rfl w.heap.size 41 (.agg #[.int .i64 0, .slice none 0 0, .int .i64 0, .int .i64 0, .slice none 0 0]) 5 72 Tryz.underlying24 Tryz.infoPr rfl (by omega) (by omega) _ qs (OP.out.nx (Ex.new _ _)).row rfl _ 1 1 [(y.nums, (A2, y.known.length, C2), (A5, y.near.length, C5))] (Sl.lit _ rfl rfl encQ_len rfl) encQ_len encQ_one rfl (by omega) (by omega) zn ?_); intro v9 w9 own9 ch0 ch1 _)
    have RR := OWN.out.app (by decide) (by decide) hw3 KN (own2.out.nx (Ex.new _ _)) (own5.out.nx (Ex.new _ _)) own9 ch0
    exact ⟨⟨j + 1, _, by omega, by go_num, by rw [SN.out]; exact RR, Chg.trans (KI.out.nx KN) ch1⟩, by simp [intOf]; omega⟩
  ·obtain rfl : j = n := by omega
   rw [List.take_of_length_le (by rw [HL.out]; exact Nat.le_refl _)] at own
   have OWN := lH own
   have KI := lH ki
   clear own ki hj hjm
   go_wp2_with fail
   go_ret
   exact ⟨_, qs, rfl, OWN.out, KI.out⟩
structure DnOf (n b : Nat) (w w' : World) (v : Value) (l : List Int) : Prop where
 own : OwnL 1 encI 3 w.heap.size w' v l
 len : l.length ≤ n
 i64 : ∀ x ∈ l, I64 x
 tape : TK w' b
 k : Exb b w w'
set_option maxRecDepth 100000 in
set_option maxHeartbeats 2000000 in
theorem down_t {b : Nat} (n : Nat) (a : Option Addr) (na cp : Nat) (l : List Nd) (w : World) (h : TK w b) (hs : Slb 3 encN b w a na l) (hna : na ≤ 1000) (hi : ∀ x ∈ l, I64 x.id) (hn : n ≤ 1000) :
  Calls Tryz.prog 33 #[.pointer (some ⟨b, 0, none⟩), .slice a na cp, .int .i64 n] w fun e w' => ∃ v r, e = .returned v ∧ DnOf n b w w' v r := by
 have hbw := h.lt
 have HI := lH hi
 clear hi
 go_enter Tryz.func33, Tryz.ntmps33
 go_wp2_with fail
 refine (next_t ((n : Int) + 1) _ h (by omega) (by omega)).mono ?_
 rintro e w1 ⟨q, rfl, q0, q1, T, kk⟩
 obtain ⟨q, rfl⟩ := Int.eq_ofNat_of_zero_le q0
 have HS := lH hs
 clear h hs
 go_wp2_with fail
 go_loopw [7, 8] (fun o i wr => ∃ (q : Nat) (L : List Int), L.length + q ≤ n ∧ i = .int .i64 q ∧ DnOf n b w wr o L) (fun _ i _ => (intOf i).toNat)
 case atStart => exact ⟨q, [], by simp; omega, rfl, OwnL.nil _ _ _ _ _, by simp, by simp, T, kk⟩
 case round =>
  clear T kk
  obtain ⟨q, L, hq, rfl, R⟩ := hrel
  obtain ⟨wo, rfl⟩ : ∃ wo : World, wo = wr := ⟨_, rfl⟩
  by_cases hq0 : 0 < q
  ·have T := R.tape
   have R := lH R
   go_wp2_with fail
   refine (id_t _ _ _ l _ T (HS.out.nxb R.out.k) hna HI.out).mono ?_
   clear T
   rintro e w2 ⟨r, rfl, hr, T, k2⟩
   have HR := lH hr
   have own := R.out.own.nxb hbw k2
   have kk := R.out.k.nxb k2
   have zz := kk.size
   have hLl : L.length ≤ 1000 := by omega
   clear k2 hr
   go_wp2_with (at_builtin; (refine wpList_append_lit (enc := encI) w2 rfl _ _ 22 rfl w.heap.size 3 (.int .i64 0) 1 8 Tryz.underlying22 Tryz.infoI6 rfl (by omega) (by omega) _ _ own rfl (r : Int) _ rfl rfl (by simp [encI, Value.oneCell']) _ (by simp) rfl (by omega) zz _ ?_); intro v6 w6 own6 _ ch1 _)
   refine ⟨⟨q - 1, L ++ [r], by simp; omega, by rw [show ((q - 1 : Nat) : Int) = (q : Int) - 1 by omega], own6, by simp; omega, ?_, TP.chg T ch1 (fun x hx => by omega), Chg.trans kk (ch1.mono (fun x hx => hx.1))⟩, by simp [intOf]; omega⟩
   intro x hx
   rcases List.mem_append.1 hx with h1 | h1
   ·exact R.out.i64 x h1
   ·rw [List.mem_singleton.1 h1]; exact HR.out
  ·have R := lH R
   go_wp2_with fail
   go_ret
   exact ⟨_, L, rfl, R.out⟩
section
variable {N : List Nd} {P Q : List Pr}
theorem stale_run (h0 : checkN N = 0) {k : Nat} (hk : k ≤ 16) {r : Int} (hr : 1 ≤ r) : staleN N (repN N P k r) = 0 := by
 unfold repN
 rw [if_pos (lvl_of (by omega) (by omega))]
 obtain ⟨t, ht⟩ : ∃ t, (max (min r 4096) 0).toNat = t + 1 := ⟨(max (min r 4096) 0).toNat - 1, by omega⟩
 rw [ht]
 exact stale_law h0 hk
end
set_option maxRecDepth 100000 in
set_option maxHeartbeats 16000000 in
theorem repaircrashes_walk (a1 : Option Addr) (n1 c1 : Nat) (l1 : List Int) (w : World) (h1 : Sl 1 encI w a1 n1 l1) (hc1 : n1 ≤ c1) (hm1 : c1 ≤ maxLen) (hT : TabG w) (hL : LetG w) :
  Calls Tryz.prog 8 #[.slice a1 n1 c1] w fun e w' => e = .returned (.bool true) ∧ Ex w w' := by
 go_enter Tryz.func8, Tryz.ntmps8
 go_wp2_with fail
 refine (new_t _ _ _ l1 _ h1 hc1 hm1).mono ?_
 rintro e w1 ⟨rfl, T, kk, z1⟩
 obtain ⟨b, hb⟩ : ∃ b, b = w.heap.size := ⟨_, rfl⟩
 rw [← hb] at T ⊢
 have hgt : ¬ 1 = b := by have := hT.lt; omega
 have hgl : ¬ 0 = b := by have := hL.lt; omega
 have T1 : Hid (TabG w1) := lH (hT.nx kk)
 have L1 : Hid (LetG w1) := lH (hL.nx kk)
 have QL : Hid (Exl b w w1) := lH ⟨kk, by omega⟩
 clear h1 hT hL kk hb z1
 have hbo := T.lt
 go_wp2_with fail
 refine (some_n 8 _ T L1.out hgl (by omega) (by omega)).mono ?_
 clear T
 rintro e x1 ⟨v1, L, rfl, R, hL1⟩
 have kw := R.k
 have T := R.tape
 obtain ⟨aX, cX, rfl, SX, hcX, hmX, _⟩ := R.own.slf (fun _ => rfl)
 have SX := SX.slb hbo
 have RL := R.len
 have H0 := lH R.ok
 have HW : Hid (∀ x ∈ L, x.word < 4294967296) := lH (fun x hx => by have := R.word x hx; omega)
 have HI : Hid (∀ x ∈ L, I64 x.id) := lH (fun x hx => (roster_ok R.ok x hx).1.1)
 clear R
 go_wp2_with fail
 refine (next_t 3 _ T (by omega) (by omega)).mono ?_
 clear T
 rintro e x2 ⟨hh, rfl, hh0, hh1, T, kk⟩
 replace kw := kw.nxb kk
 replace SX := SX.nxb kk
 clear kk
 obtain ⟨ht, rfl⟩ : ∃ t : Nat, hh = t := ⟨hh.toNat, by omega⟩
 have ht16 : ht ≤ 16 := by omega
 have hb3 := T.lt
 go_wp2_with fail
 refine (down_t 4 _ _ _ _ _ T SX (by omega) HI.out (by omega)).mono ?_
 clear T
 rintro e x3 ⟨v3, D, rfl, RD⟩
 replace kw := kw.nxb RD.k
 replace SX := (SX.nxb RD.k).sl
 obtain ⟨aD, cD, rfl, SD, hcD, hmD, _⟩ := RD.own.slf (fun _ => rfl)
 have hDl := RD.len
 have TG := lH (T1.out.nxb hgt kw)
 have QX := lH (QL.out.nxb kw).1
 have HS := lH SX
 have HD := lH SD.sl
 clear RD SX SD kw
 go_wp2_with fail
 (with_reducible refine (gap_p _ _ _ L _ _ _ D _ HS.out (by omega) hcX hmX HD.out (by omega)).mono ?_)
 rintro e x4 ⟨rfl, kk⟩
 replace TG := lH (TG.out.nx kk)
 replace QX := lH (QX.out.nx kk)
 replace HS := lH (HS.out.nx kk)
 replace HD := lH (HD.out.nx kk)
 have hgle := gap_le L D
 obtain ⟨g, hg⟩ : ∃ g, g = gapN L D := ⟨_, rfl⟩
 rw [← hg] at hgle ⊢
 have g0 : ¬ (g : Int) < 0 := by omega
 have g1 : ¬ (g : Int) > (L.length : Int) := by omega
 have hwg : IntKind.i64.wrap ((g : Int) + 1) = (g : Int) + 1 := IntWalk.i64_in _ (by omega)
 have SV := lH (survive_law H0.out ht16 (wd := (g : Int) + 1) (down := D) (by rw [← hg]; omega))
 have HP := lH (peers_sm (N := L) ((g : Int) + 1) ht16 (by omega))
 have PL0 := lH (peers_len H0.out ((g : Int) + 1) ht16)
 have HWR : Hid (∀ x ∈ withoutN L D, x.word < 4294967296) := lH (fun x hx => HW.out x (List.mem_filter.1 hx).1)
 have hRl : (withoutN L D).length ≤ L.length := List.length_filter_le _ _
 have HR0 := lH SV.out.1.1
 clear hg
 clear kk
 go_wp2_with fail
 (with_reducible refine (peers_p _ _ _ L ((g : Int) + 1) (ht : Int) _ HS.out (by omega) hcX hmX HW.out TG.out).mono ?_)
 rintro e x5 ⟨v, q5, rfl, own, kk⟩
 replace TG := lH (TG.out.nx kk)
 replace QX := lH (QX.out.nx kk)
 replace HS := lH (HS.out.nx kk)
 replace HD := lH (HD.out.nx kk)
 obtain ⟨aP, cP, rfl, PP, _, _, _⟩ := own.pl
 clear own
 have SC : Hid (FewQ 100 200 (crashN (peersN L ((g : Int) + 1) ht) D)) := lH (fun p hp => HP.out p (List.mem_filter.1 hp).1)
 generalize peersN L ((g : Int) + 1) (ht : Int) = P at PP HP SV SC PL0 ⊢
 rw [PL0.out] at PP ⊢
 replace PP := lH PP
 clear kk
 go_wp2_with fail
 (with_reducible refine (crash_p _ _ _ P _ _ _ D _ PP.out (by omega) (few_smallR HP.out) HD.out (by omega)).mono ?_)
 rintro e x6 ⟨v, q6, rfl, own, kk⟩
 replace TG := lH (TG.out.nx kk)
 replace QX := lH (QX.out.nx kk)
 replace HS := lH (HS.out.nx kk)
 replace HD := lH (HD.out.nx kk)
 replace PP := lH (PP.out.nx kk)
 obtain ⟨aC, cC, rfl, PC, _, _, _⟩ := own.pl
 clear own
 have SVL := lH SV.out.2
 have SVC := lH SV.out.1
 generalize crashN P D = Cr at PC SC SVL SVC ⊢
 rw [SVL.out] at PC ⊢
 replace PC := lH PC
 clear SV PP HP
 clear kk
 go_wp2_with fail
 (with_reducible refine (without_p _ _ _ L _ _ _ D _ HS.out (by omega) HD.out (by omega)).mono ?_)
 rintro e x7 ⟨v, rfl, OR, kk⟩
 replace TG := lH (TG.out.nx kk)
 replace QX := lH (QX.out.nx kk)
 replace HS := lH (HS.out.nx kk)
 replace HD := lH (HD.out.nx kk)
 replace PC := lH (PC.out.nx kk)
 obtain ⟨aR, cR, rfl, SR, hcR, hmR, _⟩ := OR.slf (fun _ => rfl)
 generalize withoutN L D = Re at PC SVL SVC SR HWR hRl HR0 hcR ⊢
 have HR := lH SR.sl
 clear OR SR
 clear kk
 obtain ⟨m, hm⟩ : ∃ m : Nat, m = Re.length * (ht + 1) := ⟨_, rfl⟩
 have hm1 : m ≤ 200 := by
  have : Re.length * (ht + 1) ≤ 20 * 5 := Nat.mul_le_mul (by omega) (by omega)
  omega
 have hmi : (Re.length : Int) * ((ht : Int) + 1) = (m : Int) := by rw [hm]; push_cast; rfl
 have hrn : rndsR (Re.length : Int) (ht : Int) = (m : Int) := by unfold rndsR; rw [if_pos (by omega), hmi]
 have hwh : IntKind.i64.wrap ((ht : Int) + 1) = (ht : Int) + 1 := IntWalk.i64_in _ (by omega)
 have hwm : IntKind.i64.wrap ((Re.length : Int) * ((ht : Int) + 1)) = (m : Int) := by rw [hmi]; exact IntWalk.i64_in _ (by omega)
 have HM := lH hm
 clear hm hmi
 have R1 := lH (run_law HWR.out ht16 SVC.out (r := (m : Int)) (by rw [HM.out]; exact Int.le_refl _))
 have RL1 := lH (run_len (P := Cr) HR0.out ht16 (m : Int))
 have RF := lH (run_few (N := Re) (by omega) SC.out (ht : Int) (m : Int))
 have RS : Hid (0 < Re.length → staleN Re (repN Re Cr (ht : Int) (m : Int)) = 0) := lH (fun h => stale_run HR0.out ht16 (by
  have : 1 * 1 ≤ Re.length * (ht + 1) := Nat.mul_le_mul h (by omega)
  rw [← HM.out] at this
  omega))
 go_wp2_with fail
 (with_reducible refine (rounds18_p (Re.length : Int) (ht : Int) _).mono ?_)
 rintro e w7 ⟨rfl, hw7⟩
 subst hw7
 rw [hrn]
 clear hrn
 go_wp2_with fail
 (with_reducible refine (run_p _ _ _ Re _ _ _ Cr (ht : Int) (m : Int) _ HR.out (by omega) hcR hmR HWR.out PC.out (by omega) (few_smallR SC.out)).mono ?_)
 rintro e x8 ⟨v, q8, rfl, own, kk⟩
 replace TG := lH (TG.out.nx kk)
 replace QX := lH (QX.out.nx kk)
 replace HS := lH (HS.out.nx kk)
 replace HD := lH (HD.out.nx kk)
 replace PC := lH (PC.out.nx kk)
 replace HR := lH (HR.out.nx kk)
 obtain ⟨aA, cA, rfl, PA, _, _, _, _⟩ := own.pl
 clear own
 generalize repN Re Cr (ht : Int) (m : Int) = A at PA R1 RL1 RF RS ⊢
 rw [RL1.out] at PA ⊢
 replace PA := lH PA
 clear kk
 go_wp2_with fail
 (with_reducible refine (bexact_p _ _ _ Re _ _ _ A ht _ HR.out (by omega) hcR hmR HWR.out TG.out PA.out (by omega) (few_smallR RF.out)).mono ?_)
 rintro e x9 ⟨rfl, kk⟩
 replace TG := lH (TG.out.nx kk)
 replace QX := lH (QX.out.nx kk)
 replace HS := lH (HS.out.nx kk)
 replace HD := lH (HD.out.nx kk)
 replace PC := lH (PC.out.nx kk)
 replace HR := lH (HR.out.nx kk)
 replace PA := lH (PA.out.nx kk)
 rw [R1.out]
 clear kk
 by_cases hz : Re.length = 0
 ·have d0 : ((Re.length : Int) == 0) = true := by simp [hz]
  go_wp2_with fail
  (with_reducible refine (sane18_x _ TG.out).mono ?_)
  rintro e y1 ⟨rfl, kk⟩
  replace TG := lH (TG.out.nx kk)
  replace QX := lH (QX.out.nx kk)
  replace HS := lH (HS.out.nx kk)
  replace HD := lH (HD.out.nx kk)
  replace PC := lH (PC.out.nx kk)
  replace HR := lH (HR.out.nx kk)
  replace PA := lH (PA.out.nx kk)
  clear kk
  go_wp2_with fail
  go_ret
  exact ⟨rfl, QX.out⟩
 ·have d0 : ((Re.length : Int) == 0) = false := by simpa using hz
  go_wp2_with fail
  (with_reducible refine (stale_p _ _ _ Re _ _ _ A _ HR.out (by omega) hcR hmR PA.out (by omega) (few_two RF.out)).mono ?_)
  rintro e y1 ⟨rfl, kk⟩
  replace TG := lH (TG.out.nx kk)
  replace QX := lH (QX.out.nx kk)
  replace HS := lH (HS.out.nx kk)
  replace HD := lH (HD.out.nx kk)
  replace PC := lH (PC.out.nx kk)
  replace HR := lH (HR.out.nx kk)
  replace PA := lH (PA.out.nx kk)
  rw [RS.out (by omega)]
  clear kk
  go_wp2_with fail
  (with_reducible refine (sane18_x _ TG.out).mono ?_)
  rintro e y2 ⟨rfl, kk⟩
  replace TG := lH (TG.out.nx kk)
  replace QX := lH (QX.out.nx kk)
  replace HS := lH (HS.out.nx kk)
  replace HD := lH (HD.out.nx kk)
  replace PC := lH (PC.out.nx kk)
  replace HR := lH (HR.out.nx kk)
  replace PA := lH (PA.out.nx kk)
  clear kk
  go_wp2_with fail
  go_ret
  exact ⟨rfl, QX.out⟩
end Go.Proofs.YtlgdjigocopglaaGreatDoor
/-
 RepairCrashes returns true for every list of numbers, and leaves its arguments as they were.
 Condition: the table of math/bits and the letters of the keys are as the program text lays them (tied by the card).
-/
namespace Go.Proofs.YtlgdjigocopglaaGreatDoor
open Go.ChangeShapes Go.WideShapes Go.ChangeAt Go.RowKit Go.Deep Go.Joins
open Go.ChangeMaps (open_string shut_string)
set_option linter.unusedVariables false
theorem Tryz.cellsInt : Tryz.prog.cellsOf 3 = 1 := by kernel_rfl
set_option maxRecDepth 100000 in
set_option maxHeartbeats 1000000 in
theorem repairCrashes_lifted (os : Os) (started : os.Started) (H : Type) (enc : TypeId × Value → H) :
  ReturnsInHanded {} Tryz.checked os 8 .any (fun w args => (Rows.repairCrashesSpec.pre enc Tryz.prog Tryz.f8 [] false w args ∧ laidMetH Tryz.prog Rows.repairCrashesRow.laid w) ∧ sizedMet enc Tryz.prog Tryz.f8 (OpenSpec.ofChange Rows.repairCrashesSpec) false w args)
   (Rows.repairCrashesSpec.post enc Tryz.prog Tryz.f8 false true false false) := by
 refine returnsInHanded_of_change_and (C := Tryz.checked) (X := fun w _ => laidMetH Tryz.prog Rows.repairCrashesRow.laid w) (fun _ _ _ hh h => h.of_heap hh) own started (by kernel_rfl) Tryz.func8
  (ChangeSpec.witness_shaped (enc := enc) (C := Tryz.checked) (os := os) (X := fun w _ => laidMetH Tryz.prog Rows.repairCrashesRow.laid w) false (World.doorLaid Tryz.prog 400 os) #[.slice none 0 0] 8 rfl (World.shaped_of_RefB (by kernel_rfl) (by kernel_rfl)) (by kernel_rfl) (by kernel_rfl) (by kernel_rfl) (laidMetH_of_parts3 (fuel := 8) (laidMet_of_run' 8 (by kernel_rfl) (by kernel_rfl)) (by kernel_rfl) (by kernel_rfl))) ?_
 intro W base args ds gs before hval0 hW _ _ hL _
 have hval : ∀ (j : Nat) t v, Tryz.f8.params[j]? = some t → args[j]? = some v → Value.okWide Tryz.prog W .any base t v := hval0
 have hW' := hW
 obtain ⟨p, q, hA0, hV, rfl, hfz, hnd⟩ := hW
 have hA : DataW.TrodAll enc Tryz.prog W 0 (fun _ => true) true Tryz.f8.params.toList args.toList ds p := hA0
 rw [Tryz.params8] at hA hval
 obtain ⟨v0, vs0, d0, ds0, p0, q0, hargs, rfl, rfl, h0, r0⟩ := trodAll_cons hA
 obtain ⟨rfl, rfl, rfl⟩ := trodAll_nil r0
 obtain rfl : args = #[v0] := by cases args; simp_all
 obtain ⟨rfl, rfl⟩ := trodVars_none hV
 have k0 := h0
 have lt0 : ∀ x ∈ p0, x.block < W.heap.size := by obtain ⟨m, hm⟩ := k0; exact DataW.trod_lt m _ _ _ hm
 obtain ⟨A0, n0, cap0, l0, rfl, rd0, hc0, hm0, wf0, nl0⟩ := rd_ints Tryz.underlying22 Tryz.underlying3 Tryz.cellsInt (hval 0 22 v0 rfl rfl) h0
 clear hA0 hval0
 have hT : TabG W := tabG_of hL (by kernel_rfl)
 have hL2 : LetG W := letG_second hL (by kernel_rfl) (by kernel_rfl)
 refine (repaircrashes_walk A0 n0 cap0 l0 W rd0 hc0 hm0 hT hL2).mono fun e W' ⟨he, hch⟩ => ?_
 have bel : Below W.heap.size W W' := hch.below (fun _ h => h)
 subst he
 exact ⟨_, rfl, _, _, _, [], _, [], hW', trodAll_mk1 (shut_bool Tryz.underlying4 _), (trodAll_cons_mk (Below.trod laidOut (by kernel_rfl) (of_decide_eq_true (by kernel_rfl)) k0 bel lt0) trodAll_mk0), rfl, bel.frame _, fun h => by cases h⟩
theorem repairCrashes_over : Rows.repairCrashesRow.holds Tryz.pinned (OpenSpec.ofChange Rows.repairCrashesSpec) :=
 OpenClaim.holds_of_wide 8 Tryz.f8 rfl rfl rfl rfl rfl rfl rfl ⟨rfl, rfl, rfl, rfl, rfl⟩ rfl rfl rfl rfl rfl (by kernel_rfl) Tryz.func8 (by kernel_rfl)
  (of_decide_eq_true (by kernel_rfl)) (by unfold Func.isWrapper; first | (rw [if_pos (by decide +kernel)]; kernel_rfl) | (rw [if_neg (by decide +kernel)]; exact ⟨rfl, rfl⟩))
  (fun os started H enc _ => repairCrashes_lifted os started H enc)
theorem RepairCrashes_holds : Rows.RepairCrashesCardSaid :=
 Claim7.holds_tied_plain_at .later [] [.data, .data] true (true, "b790f26ef35c85b0afa36e3ca6ce5369a92ddcf9cf001d61a03045e2f3eaabbf") false
  repairCrashes_over (fun _ h => by cases h) (by kernel_rfl) (fun _ h => by cases h) repairCrashes_row_tie rfl ⟨rfl, rfl⟩ (by kernel_rfl) rfl
  (fun f fn hf hfn => by
   obtain rfl : f = 8 := Option.some.inj ((show Tryz.prog.funcNamed "skipgraph/skipgraphlaw18.RepairCrashes" = some 8 by kernel_rfl).symm.trans hf) |>.symm
   obtain rfl : fn = Tryz.f8 := (Option.some.inj (Tryz.func8.symm.trans hfn)).symm
   exact ⟨by kernel_rfl, fun j t ht => by
    rw [Tryz.params8] at ht
    have hm : t ∈ [22] := by simpa using Array.mem_of_getElem? ht
    have hall : ([22].all fun u => !Tryz.prog.wantsStandIn u) = true := by kernel_rfl
    exact (show Tryz.prog.wantsStandIn t = false by simpa using List.all_eq_true.1 hall t hm)⟩)
  (by kernel_rfl)
#print axioms RepairCrashes_holds
end Go.Proofs.YtlgdjigocopglaaGreatDoor
