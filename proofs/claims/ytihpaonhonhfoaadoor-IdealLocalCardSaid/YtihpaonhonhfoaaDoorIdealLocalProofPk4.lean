/- Texts for the statement IdealLocalProof, part 4 of 7: Chk, SameN, Ls, Idx, ClsP, SplP, Cnt, Thr, Node, Idl, NbP, NbI, NestB. -/
import Derived.Deep.RegionHeld3
import Derived.Deep.DeepCutAuto
import Derived.Test.YtihpaonhonhfoaaDoorIdealLocalProofPk2
import Derived.Test.YtihpaonhonhfoaaDoorIdealLocalProofPk3

/- Check of the package roster. -/
namespace Go.Proofs.YtihpaonhonhfoaaDoor
open Go.RowKit

theorem vkey_p (s : ByteArray) (w : World) : Calls Tryd.prog 69 #[.string s] w fun e w' => e = .returned (.bool (decide ((s.size : Int) ≤ 64))) ∧ w = w' := by
  go_enter Tryd.func69, Tryd.ntmps69
  go_wp2
  go_ret
  exact ⟨rfl, rfl⟩
theorem eqN_symm (x y : Nd) : eqN x y = eqN y x := by
  unfold eqN
  rw [Bool.eq_iff_iff]
  simp only [Bool.or_eq_true, beq_iff_eq]
  exact ⟨fun h => h.imp Eq.symm Eq.symm, fun h => h.imp Eq.symm Eq.symm⟩
set_option maxRecDepth 100000 in
theorem check1_p (gx : Nat) (x : Nd) (w : World) (hx : Blk w gx [.int .i64 x.id, .string x.key, .int .u32 x.word] 48) : PredG 72 #[.pointer (some ⟨gx, 0, none⟩)] (fun y => eqN y x) w := by
  intro y w' kk
  have B := hx.nx kk
  have q0 := B.cell 0 _ rfl
  have q1 := B.cell 1 _ rfl
  have hg := B.lt
  have hne : ¬ gx = w'.heap.size := by omega
  unfold Nd.val
  clear hx kk B
  by_cases h1 : y.id = x.id
  · have d1 : (y.id == x.id) = true := by simpa using h1
    have HE : Hid (eqN y x = true) := Lib.hid (by unfold eqN; rw [d1]; rfl)
    clear h1
    go_enter Tryd.func72, Tryd.ntmps72
    go_wp2
    go_ret
    exact ⟨by rw [HE.out]; rfl, (Ex.refl _).alloc _⟩
  · have d1 : (y.id == x.id) = false := by simpa using h1
    have HE : Hid (eqN y x = (y.key.toList == x.key.toList)) := Lib.hid (by unfold eqN; rw [d1]; rfl)
    clear h1
    go_enter Tryd.func72, Tryd.ntmps72
    go_wp2
    go_ret
    exact ⟨by rw [HE.out]; rfl, (Ex.refl _).alloc _⟩
def NdRel (n : Nat) (l : List Nd) (w : World) (i : Value) (wr : World) : Prop :=
  ∃ k : Nat, k ≤ n ∧ i = .int .i64 k ∧ Ex w wr ∧ ∀ i' x, i' < k → l[i']? = some x → (l.take i').any (fun y => eqN y x) = false

set_option maxRecDepth 100000 in
set_option maxHeartbeats 4000000 in
theorem check_p (a : Option Addr) (n c : Nat) (l : List Nd) (w : World) (h : Sl 3 encN w a n l) (hn : n ≤ 1000000) (hc : n ≤ c) (hm : c ≤ maxLen) :
    Calls Tryd.prog 48 #[.slice a n c] w fun e w' => e = .returned (.int .i64 (checkN l)) ∧ Ex w w' := by
  have hlen := h.len
  unfold maxLen at hm
  have eg : ∀ args w, (callFunc 72 args).run Tryd.prog w = .ok (.enter 72 args) w := enters_of Tryd.func72 (by kernel_rfl) rfl
  have EG := Lib.hid eg
  clear eg
  go_enter Tryd.func48, Tryd.ntmps48
  by_cases h64 : 64 < n
  · have HC : Hid (checkN l = 3) := Lib.hid (by unfold checkN; rw [if_pos (by omega)])
    clear h hlen
    go_wp2_with fail
    go_ret
    exact ⟨by rw [HC.out]; rfl, Ex.refl _⟩
  have HL := Lib.hid hlen
  clear hlen
  go_wp2_with fail
  go_loopw [12] (fun i wr => N1Rel n l w i wr) (fun i _ => n - (intOf i).toNat)
  case atStart => exact ⟨0, by omega, rfl, Ex.refl _, by intro _ _ h; omega⟩
  case round =>
    obtain ⟨k, hk, rfl, kw, hgood⟩ := hrel
    have HG := Lib.hid hgood
    clear hgood
    obtain ⟨wo, rfl⟩ : ∃ wo : World, wo = wr := ⟨_, rfl⟩
    by_cases hlt : k < n
    · obtain ⟨x1, o1, y, rfl, hx1, hy, hc1⟩ := (h.nx kw).at hlt
      have e0 : wo.cell? ⟨x1, o1 + k * 3, none⟩ = some (.int .i64 y.id) := hc1 0 _ rfl
      have e1 : wo.cell? ⟨x1, o1 + k * 3 + 1, none⟩ = some (.string y.key) := hc1 1 _ rfl
      have e2 : wo.cell? ⟨x1, o1 + k * 3 + 1 + 1, none⟩ = some (.int .u32 y.word) := by simpa [Nat.add_assoc] using hc1 2 _ rfl
      have e2' : wo.cell? ⟨x1, o1 + k * 3 + 2, none⟩ = some (.int .u32 y.word) := hc1 2 _ rfl
      have HY := Lib.hid hy
      have BAD : badN y = true → checkN l = 1 := fun hb => by
        unfold checkN
        rw [if_neg (by rw [HL.out]; exact h64), if_pos (List.any_eq_true.2 ⟨y, List.mem_of_getElem? HY.out, hb⟩)]
      have KW := Lib.hid (kw.alloc (.cells #[.int .i64 y.id, .string y.key, .int .u32 y.word] 48))
      clear hc1 hy h kw
      by_cases b1 : y.id < 1
      · have HB := Lib.hid (BAD (by unfold badN; simp [b1]))
        clear BAD
        go_wp2_with fail
        go_ret
        exact ⟨by rw [HB.out]; rfl, KW.out⟩
      by_cases b2 : 2147483647 < y.id
      · have HB := Lib.hid (BAD (by unfold badN; simp [b2]))
        clear BAD
        go_wp2_with fail
        go_ret
        exact ⟨by rw [HB.out]; rfl, KW.out⟩
      have BAD := Lib.hid BAD
      go_wp2_with fail
      refine (vkey_p _ _).mono ?_
      rintro e w2 ⟨rfl, rfl⟩
      by_cases b3 : (y.key.size : Int) ≤ 64
      · have d3 : decide ((y.key.size : Int) ≤ 64) = true := by simpa using b3
        rw [d3]
        clear d3
        go_wp2_with fail
        refine (wvalid_p _ _).mono ?_
        rintro e w2 ⟨rfl, rfl⟩
        cases b4 : validN y.word with
        | true =>
          have BG : Hid (badN y = false) := Lib.hid (by unfold badN; simp [b1, b2, b3, b4])
          clear BAD b4 b3
          go_wp2_with fail
          refine ⟨⟨k + 1, by omega, by go_num, KW.out, fun k' y' hk' hy' => ?_⟩, by simp [intOf]; omega⟩
          rcases Nat.lt_or_ge k' k with h | h
          · exact HG.out k' y' h hy'
          · obtain rfl : k' = k := by omega
            rw [Option.some.inj (hy'.symm.trans HY.out)]
            exact BG.out
        | false =>
          have HB := Lib.hid (BAD.out (by unfold badN; simp [b4]))
          clear BAD b4
          go_wp2_with fail
          go_ret
          exact ⟨by rw [HB.out]; rfl, KW.out⟩
      · have d3 : decide ((y.key.size : Int) ≤ 64) = false := by simpa using b3
        have HB := Lib.hid (BAD.out (by unfold badN; simp [b3]))
        rw [d3]
        clear d3 BAD b3
        go_wp2_with fail
        go_ret
        exact ⟨by rw [HB.out]; rfl, KW.out⟩
    · obtain rfl : k = n := by omega
      have HNB : Hid (l.any badN = false) := Lib.hid (by
        rw [List.any_eq_false]
        intro y hy
        obtain ⟨j, hj, he⟩ := List.mem_iff_getElem.1 hy
        rw [HG.out j y (by rw [← HL.out]; exact hj) (by rw [← he]; simp)]
        simp)
      clear HG hlt hk
      obtain ⟨w1, rfl⟩ : ∃ w1 : World, w1 = wo := ⟨_, rfl⟩
      have hs := Lib.hid h
      clear h
      go_wp2_with fail
      go_loopw [39] (fun i wr => NdRel k l w i wr) (fun i _ => k - (intOf i).toNat)
      case atStart => exact ⟨0, by omega, rfl, kw, by intro _ _ h; omega⟩
      case round =>
        clear kw
        obtain ⟨m, hm2, rfl, kw, hgood⟩ := hrel
        have HG := Lib.hid hgood
        clear hgood
        obtain ⟨wo, rfl⟩ : ∃ wo : World, wo = wr := ⟨_, rfl⟩
        by_cases hlt : m < k
        · obtain ⟨x1, o1, x, rfl, hx1, hx, hc1⟩ := (hs.out.nx kw).at hlt
          have e0 : wo.cell? ⟨x1, o1 + m * 3, none⟩ = some (.int .i64 x.id) := hc1 0 _ rfl
          have e1 : wo.cell? ⟨x1, o1 + m * 3 + 1, none⟩ = some (.string x.key) := hc1 1 _ rfl
          have e2 : wo.cell? ⟨x1, o1 + m * 3 + 1 + 1, none⟩ = some (.int .u32 x.word) := by simpa [Nat.add_assoc] using hc1 2 _ rfl
          have e2' : wo.cell? ⟨x1, o1 + m * 3 + 2, none⟩ = some (.int .u32 x.word) := hc1 2 _ rfl
          have HX := Lib.hid hx
          have k2 := Ex.new wo (.cells #[.int .i64 x.id, .string x.key, .int .u32 x.word] 48)
          have B2 := Blk.new wo [.int .i64 x.id, .string x.key, .int .u32 x.word] 48
          obtain ⟨w2, hw2⟩ : ∃ w2, w2 = wo.alloc (.cells #[.int .i64 x.id, .string x.key, .int .u32 x.word] 48) := ⟨_, rfl⟩
          obtain ⟨g, hg⟩ : ∃ g, g = wo.heap.size := ⟨_, rfl⟩
          have B2 : Blk w2 g [.int .i64 x.id, .string x.key, .int .u32 x.word] 48 := by rw [hw2, hg]; exact B2
          rw [← hw2] at k2
          have KW := Lib.hid (kw.nx k2)
          have HW2 := Lib.hid hw2
          have HGG := Lib.hid hg
          have hmc : (m : Int) ≤ (c : Int) := by omega
          have S2 := (hs.out.nx (kw.nx k2)).take (m := m) (by omega)
          have PG := check1_p g x w2 B2
          clear hc1 hx hx1 kw k2 hw2 hg B2
          go_upto_region 12 with fail
          rw [← HGG.out, ← HW2.out]
          go_wp2_with fail
          (with_reducible refine (contf_n 72 #[.pointer (some ⟨g, 0, none⟩)] (fun y => eqN y x) EG.out _ _ _ _ _ S2 (by omega) PG).mono ?_)
          rintro e w3 ⟨rfl, k3⟩
          have K3 := Lib.hid (KW.out.nx k3)
          clear S2 PG k3 e0 e1 e2 e2'
          cases hb : (l.take m).any (fun y => eqN y x) with
          | true =>
            have HC : Hid (checkN l = 5) := Lib.hid (by
              unfold checkN
              rw [if_neg (by rw [HL.out]; exact h64), HNB.out, if_neg (by simp), if_pos]
              obtain ⟨y, hy, he⟩ := List.any_eq_true.1 hb
              obtain ⟨q, hq⟩ := List.mem_iff_getElem?.1 hy
              rw [List.getElem?_take] at hq
              split at hq
              · rename_i hqm
                exact (dupN_iff l).2 ⟨m, q, x, y, hqm, HX.out, hq, by rw [eqN_symm]; exact he⟩
              · cases hq)
            clear hb
            go_wp2_with fail
            go_ret
            exact ⟨by rw [HC.out]; rfl, K3.out⟩
          | false =>
            have HB := Lib.hid hb
            clear hb
            go_wp2_with fail
            refine ⟨⟨m + 1, by omega, by go_num, K3.out, fun i' x' hi' hx' => ?_⟩, by simp [intOf]; omega⟩
            rcases Nat.lt_or_ge i' m with h | h
            · exact HG.out i' x' h hx'
            · obtain rfl : i' = m := by omega
              rw [Option.some.inj (hx'.symm.trans HX.out)]
              exact HB.out
        · obtain rfl : m = k := by omega
          have HC : Hid (checkN l = 0) := Lib.hid (by
            unfold checkN
            rw [if_neg (by rw [HL.out]; exact h64), HNB.out, if_neg (by simp), if_neg]
            intro hd
            obtain ⟨i, q, x, y, hq, hx, hy, he⟩ := (dupN_iff l).1 hd
            have hi := HG.out i x (by have := (List.getElem?_eq_some_iff.1 hx).1; have := HL.out; omega) hx
            rw [List.any_eq_false] at hi
            refine hi y ?_ (by rw [eqN_symm]; exact he)
            exact List.mem_iff_getElem?.2 ⟨q, by rw [List.getElem?_take, if_pos hq]; exact hy⟩)
          have KW := Lib.hid kw
          clear HG hlt hm2 HNB kw
          go_wp2_with fail
          go_ret
          exact ⟨by rw [HC.out]; rfl, KW.out⟩
end Go.Proofs.YtihpaonhonhfoaaDoor

/- When two lists of nodes are equal. -/
namespace Go.Proofs.YtihpaonhonhfoaaDoor
open Go.RowKit

end Go.Proofs.YtihpaonhonhfoaaDoor

/- Lists of lists of nodes. -/
namespace Go.Proofs.YtihpaonhonhfoaaDoor
open Go.RowKit

/-- the closure of Classes: a list's first word agrees with a node's word at a level -/
theorem same_pE (a b : Nat) (h : Int) (w : World) (ha : a < 4294967296) (hb : b < 4294967296) (hT : TabG w) :
    Calls Tryd.prog 63 #[.int .u32 a, .int .u32 b, .int .i64 h] w fun e w' => e = .returned (.bool (sameN a b h)) ∧ Ex w w' :=
  (same_p a b h w ha hb hT).mono fun _ _ h => ⟨h.1, by rw [← h.2]; exact Ex.refl _⟩
theorem TabG.nx {w w' : World} (h : TabG w) (k : Ex w w') : TabG w' := h.chg k h.lt
set_option maxHeartbeats 1000000 in
theorem cls1_p (a : Option Addr) (n cp gx gh : Nat) (c : List Nd) (id : Int) (key : ByteArray) (v : Nat) (h : Int) (w : World) (hr : Sl 3 encN w a n c) (hc : 0 < n) (hn : n ≤ 1000000) (hcw : ∀ y ∈ c, y.word < 4294967296) (hv : v < 4294967296)
    (hx : Blk w gx [.int .i64 id, .string key, .int .u32 v] 48) (hh : Blk w gh [.int .i64 h] 3) (hT : TabG w) :
    Calls Tryd.prog 67 #[.slice a n cp, .pointer (some ⟨gx, 0, none⟩), .pointer (some ⟨gh, 0, none⟩)] w fun e w' => e = .returned (.bool (sameN (headW c) v h)) ∧ Ex w w' := by
  obtain ⟨x1, o1, y, rfl, hx1, hy, hc1⟩ := hr.at hc
  have e2 : w.cell? ⟨x1, o1 + 2, none⟩ = some (.int .u32 y.word) := by simpa using hc1 2 _ rfl
  have f2 := hx.cell 2 _ rfl
  have f0 := hh.cell 0 _ rfl
  have lx := hx.lt
  have lh := hh.lt
  have hyw := hcw y (List.mem_of_getElem? hy)
  have hW : headW c = y.word := by
    cases c with
    | nil => simp at hy
    | cons z r => simp at hy; subst hy; rfl
  have HT := Lib.hid hT
  rw [hW]
  clear hW hc1 hy hr hcw hx hh hT
  go_enter Tryd.func67, Tryd.ntmps67
  go_wp2_with fail
  refine wp_region_held_drew (S := Ex w.drew) (by kernel_rfl) (Ex.refl _) (fun hHeld => ?_)
  refine wpAnyH_take (i := 0) (oi := ⟨some 5, .move (.tmp 0), 23, "word.go:57", #[], none⟩) (v := ?_) rfl (by kernel_rfl) (by kernel_rfl) (by kernel_rfl) (fun _ _ _ h => h) (Or.inl ⟨by rfl, ?hyr1x0⟩) (by assumption) ?restr1x0
  case hyr1x0 => intro wq hSw; (go_simp); (try with_reducible rfl)
  try simp only [Act.put, List.setIfInBounds_toArray, List.set_cons_zero, List.set_cons_succ]
  refine wpAnyH_take (i := 1) (oi := ⟨some 6, .indexAddr 23 (.tmp 5) (.const (.int .i64 0)), 0, "word.go:57", #[⟨0, .data⟩], none⟩) (v := ?_) rfl (by kernel_rfl) (by kernel_rfl) (by kernel_rfl) (fun _ _ _ h => h) (Or.inl ⟨by rfl, ?hyr1x1⟩) (by assumption) ?restr1x1
  case hyr1x1 => intro wq hSw; (go_simp); (try with_reducible rfl)
  try simp only [Act.put, List.setIfInBounds_toArray, List.set_cons_zero, List.set_cons_succ]
  refine wpAnyH_take (i := 2) (oi := ⟨some 7, .fieldAddr 48 (.tmp 6) 2, 0, "word.go:57", #[⟨1, .data⟩], none⟩) (v := ?_) rfl (by kernel_rfl) (by kernel_rfl) (by kernel_rfl) (fun _ _ _ h => h) (Or.inl ⟨by rfl, ?hyr1x2⟩) (by assumption) ?restr1x2
  case hyr1x2 => intro wq hSw; (go_simp); (try with_reducible rfl)
  try simp only [Act.put, List.setIfInBounds_toArray, List.set_cons_zero, List.set_cons_succ]
  refine wpAnyH_take (i := 3) (oi := ⟨some 8, .load 46 (.tmp 7), 46, "word.go:57", #[⟨2, .data⟩], none⟩) (v := ?_) rfl (by kernel_rfl) (by kernel_rfl) (by kernel_rfl) (fun _ _ _ h => h) (Or.inl ⟨by rfl, ?hyr1x3⟩) (by assumption) ?restr1x3
  case hyr1x3 => intro wq hSw; (have cq := Chg.cellv hSw e2 hx1; go_simp); (try with_reducible rfl)
  try simp only [Act.put, List.setIfInBounds_toArray, List.set_cons_zero, List.set_cons_succ]
  refine wpAnyH_take (i := 4) (oi := ⟨some 9, .fieldAddr 48 (.tmp 1) 2, 0, "word.go:57", #[], none⟩) (v := ?_) rfl (by kernel_rfl) (by kernel_rfl) (by kernel_rfl) (fun _ _ _ h => h) (Or.inl ⟨by rfl, ?hyr1x4⟩) (by assumption) ?restr1x4
  case hyr1x4 => intro wq hSw; (go_simp); (try with_reducible rfl)
  try simp only [Act.put, List.setIfInBounds_toArray, List.set_cons_zero, List.set_cons_succ]
  refine wpAnyH_take (i := 5) (oi := ⟨some 10, .load 46 (.tmp 9), 46, "word.go:57", #[⟨4, .data⟩], none⟩) (v := ?_) rfl (by kernel_rfl) (by kernel_rfl) (by kernel_rfl) (fun _ _ _ h => h) (Or.inl ⟨by rfl, ?hyr1x5⟩) (by assumption) ?restr1x5
  case hyr1x5 => intro wq hSw; (have cq := Chg.cellv hSw f2 lx; go_simp); (try with_reducible rfl)
  try simp only [Act.put, List.setIfInBounds_toArray, List.set_cons_zero, List.set_cons_succ]
  refine wpAnyH_take (i := 6) (oi := ⟨some 11, .load 3 (.tmp 2), 3, "word.go:57", #[], none⟩) (v := ?_) rfl (by kernel_rfl) (by kernel_rfl) (by kernel_rfl) (fun _ _ _ h => h) (Or.inl ⟨by rfl, ?hyr1x6⟩) (by assumption) ?restr1x6
  case hyr1x6 => intro wq hSw; (have cq := Chg.cellv hSw f0 lh; go_simp); (try with_reducible rfl)
  try simp only [Act.put, List.setIfInBounds_toArray, List.set_cons_zero, List.set_cons_succ]
  refine wpAnyH_ready (rs := [7]) (by kernel_rfl) (by simp) ?_
  refine AllReadyH.cons (o := ⟨some 12, .call { callee := .value (.func 63), args := #[.tmp 8, .tmp 10, .tmp 11], argTypes := #[46, 46, 3] }, 4, "word.go:57", #[⟨3, .data⟩, ⟨5, .data⟩, ⟨6, .data⟩], none⟩) rfl (fun K hK => ?_) AllReadyH.nil
  go_simp
  (with_reducible refine (same_pE _ _ _ _ hyw hv (HT.out.nx (Ex.refl w).drew)).mono ?_)
  rintro e v1 ⟨rfl, kk⟩
  refine hK.out _ _ kk (fun _ => ?_)
  clear hK K
  try simp only [Act.put, List.setIfInBounds_toArray, List.set_cons_zero, List.set_cons_succ]
  refine wpAnyH_switch (S' := Ex v1) (fun _ hSw => Ex.nx kk hSw) ?_
  clear hHeld
  have hHeld := Ex.refl v1
  refine wpAnyH_take (i := 8) (oi := ⟨some 4, .assign (.tmp 12), 4, "word.go:57", #[⟨7, .data⟩, ⟨7, .chain⟩, ⟨0, .phase⟩, ⟨1, .phase⟩, ⟨2, .phase⟩, ⟨3, .phase⟩, ⟨4, .phase⟩, ⟨5, .phase⟩, ⟨6, .phase⟩, ⟨7, .phase⟩], none⟩) (v := ?_) rfl (by kernel_rfl) (by kernel_rfl) (by kernel_rfl) (fun _ _ _ h => h) (Or.inl ⟨by rfl, ?hyr1x8⟩) (by assumption) ?restr1x8
  case hyr1x8 => intro wq hSw; (go_simp); (try with_reducible rfl)
  try simp only [Act.put, List.setIfInBounds_toArray, List.set_cons_zero, List.set_cons_succ]
  refine wpAnyH_done (by kernel_rfl) ?_ _
  go_wp2_with fail
  go_ret
  exact ⟨rfl, (Ex.refl w).drew.nx kk⟩

end Go.Proofs.YtihpaonhonhfoaaDoor

/- slices.IndexFunc over a list of lists of nodes, with the closure of Classes. -/
namespace Go.Proofs.YtihpaonhonhfoaaDoor
open Go.RowKit

set_option maxHeartbeats 1000000 in
theorem idx_p (a : Option Addr) (n cp gx gh : Nat) (C : List (List Nd)) (id : Int) (key : ByteArray) (v : Nat) (h : Int) (w : World) (hr : LL w a n C) (hn : n ≤ 1000000) (hC : GoodC C) (hv : v < 4294967296)
    (hx : Blk w gx [.int .i64 id, .string key, .int .u32 v] 48) (hh : Blk w gh [.int .i64 h] 3) (hT : TabG w) :
    Calls Tryd.prog 66 #[.slice a n cp, .func (.func 67) #[] #[.pointer (some ⟨gx, 0, none⟩), .pointer (some ⟨gh, 0, none⟩)]] w
      fun e w' => e = .returned (.int .i64 (idxV C v h)) ∧ Ex w w' := by
  have HL := Lib.hid hr.len
  have HC := Lib.hid hC
  have HT := Lib.hid hT
  have HX := Lib.hid hx
  have HH := Lib.hid hh
  clear hC hT hx hh
  go_enter Tryd.func66, Tryd.ntmps66
  go_wp2_with fail
  go_loopw [8] (fun i wr => IdxRel n C v h w i wr) (fun i _ => n - (intOf i).toNat)
  case atStart => exact ⟨0, by omega, rfl, Ex.refl _, by intro _ _ h; omega⟩
  case round =>
    obtain ⟨k, hk, rfl, kw, hno⟩ := hrel
    have HNO := Lib.hid hno
    clear hno
    obtain ⟨wo, rfl⟩ : ∃ wo : World, wo = wr := ⟨_, rfl⟩
    by_cases hlt : k < n
    · obtain ⟨x1, o1, b1, m1, d1, c, rfl, hx1, hy, hc1, r1⟩ := (hr.nx kw).at hlt
      obtain ⟨p1, p2, p3⟩ := HC.out c (List.mem_of_getElem? hy)
      rw [r1.len] at p1 p2
      have HY := Lib.hid hy
      have P3 := Lib.hid p3
      clear hy hr hx1 p3
      go_wp2_with fail
      (with_reducible refine (cls1_p _ _ _ _ _ _ _ _ _ _ _ r1 p1 p2 P3.out hv (HX.out.nx kw) (HH.out.nx kw) (HT.out.nx kw)).mono ?_)
      rintro e w2 ⟨rfl, kk⟩
      replace kw := kw.nx kk
      clear kk hc1 r1
      cases hs : sameN (headW c) v h with
      | true =>
        have HI : Hid (idxV C v h = k) := Lib.hid (by unfold idxV; rw [idxC_of HY.out hs HNO.out, if_pos (by rw [HL.out]; exact hlt)])
        clear hs
        go_wp2_with fail
        go_ret
        exact ⟨by rw [HI.out]; rfl, kw⟩
      | false =>
        have HS := Lib.hid hs
        clear hs
        go_wp2_with fail
        refine ⟨⟨k + 1, by omega, by go_num, kw, fun j c' hj hc' => ?_⟩, by simp [intOf]; omega⟩
        rcases Nat.lt_or_ge j k with h | h
        · exact HNO.out j c' h hc'
        · obtain rfl : j = k := by omega
          rw [Option.some.inj (hc'.symm.trans HY.out)]
          exact HS.out
    · obtain rfl : k = n := by omega
      have HI : Hid (idxV C v h = -1) := Lib.hid (by unfold idxV; rw [idxC_none (fun j c hj hc => HNO.out j c (by rw [← HL.out]; exact hj) hc), if_neg (by omega)])
      clear hr hk hlt
      go_wp2_with fail
      go_ret
      exact ⟨by rw [HI.out]; rfl, kw⟩

end Go.Proofs.YtihpaonhonhfoaaDoor

/- Classes of the package word. -/
namespace Go.Proofs.YtihpaonhonhfoaaDoor
open Go.RowKit

set_option maxRecDepth 100000 in
set_option maxHeartbeats 4000000 in
theorem classes_p (a : Option Addr) (n cp : Nat) (l : List Nd) (h : Int) (w : World) (hs : Sl 3 encN w a n l) (hn : n ≤ 1000) (hw : ∀ x ∈ l, x.word < 4294967296) (hT : TabG w) :
    Calls Tryd.prog 45 #[.slice a n cp, .int .i64 h] w (ClPost (classesN l h) w) := by
  have HL := Lib.hid hs.len
  have hs := Lib.hid hs
  have HW := Lib.hid hw
  have HT := Lib.hid hT
  have k1 := Ex.new w (.cells #[.int .i64 h] 3)
  have BH := Blk.new w [.int .i64 h] 3
  obtain ⟨w1, hw1⟩ : ∃ w1, w1 = w.alloc (.cells #[.int .i64 h] 3) := ⟨_, rfl⟩
  obtain ⟨gh, hgh⟩ : ∃ gh, gh = w.heap.size := ⟨_, rfl⟩
  have BH : Blk w1 gh [.int .i64 h] 3 := by rw [hw1, hgh]; exact BH
  rw [← hw1] at k1
  have HW1 := Lib.hid hw1
  have HGH := Lib.hid hgh
  have HK1 := Lib.hid k1
  have c0 := BH.cell 0 _ rfl
  clear hw hT hw1 hgh k1
  go_enter Tryd.func45, Tryd.ntmps45
  go_upto_region 1 with fail
  rw [← HGH.out, ← HW1.out]
  by_cases h16 : 16 < h
  · have HC : Hid (classesN l h = []) := Lib.hid (classesN_big h16)
    clear BH
    go_wp2_with fail
    go_ret
    exact ⟨none, 0, by rw [HC.out]; rfl, by rw [HC.out]; exact LL.nil _ _, HK1.out⟩
  have HF := Lib.hid (classesN_fold (l := l) h16)
  have BH := Lib.hid BH
  go_wp2_with fail
  go_loopw [5, 13] (fun o i wr => ClRel l h n w1 o i wr) (fun _ i _ => n - (intOf i).toNat)
  case atStart => exact ⟨0, [], by omega, rfl, OwnQ.nil _ _, Ex.refl _⟩
  case round =>
    obtain ⟨k, qs, hk, rfl, OQ, kx⟩ := hrel
    obtain ⟨wo, rfl⟩ : ∃ wo : World, wo = wr := ⟨_, rfl⟩
    by_cases hlt : k < n
    · obtain ⟨x1, o1, y, rfl, hx1, hy, hc1⟩ := (hs.out.nx (HK1.out.nx kx)).at hlt
      have e0 : wo.cell? ⟨x1, o1 + k * 3, none⟩ = some (.int .i64 y.id) := hc1 0 _ rfl
      have e1 : wo.cell? ⟨x1, o1 + k * 3 + 1, none⟩ = some (.string y.key) := hc1 1 _ rfl
      have e2 : wo.cell? ⟨x1, o1 + k * 3 + 1 + 1, none⟩ = some (.int .u32 y.word) := by simpa [Nat.add_assoc] using hc1 2 _ rfl
      have e2' : wo.cell? ⟨x1, o1 + k * 3 + 2, none⟩ = some (.int .u32 y.word) := hc1 2 _ rfl
      have hyw := HW.out y (List.mem_of_getElem? hy)
      have FS := Lib.hid (foldC_snoc h l k y hy)
      have hFL : (foldC h (l.take k)).length ≤ k := Nat.le_trans (foldC_length h (l.take k)) (by rw [List.length_take]; omega)
      have FF : Hid (Fine 100000 (fun y => y.word < 4294967296) (foldC h (l.take k))) := Lib.hid (fun c hc => by
        have := foldC_fine (h := h) (l.take k) (P := fun y => y.word < 4294967296) (fun y hy => HW.out y (List.mem_of_mem_take hy)) c hc
        exact ⟨this.1, Nat.le_trans this.2.1 (by rw [List.length_take]; omega), this.2.2⟩)
      generalize foldC h (l.take k) = C at OQ FS hFL FF
      clear hc1 hy
      have B7 := Blk.new wo [.int .i64 y.id, .string y.key, .int .u32 y.word] 48
      have k2 := Ex.new wo (.cells #[.int .i64 y.id, .string y.key, .int .u32 y.word] 48)
      obtain ⟨w2, hw2⟩ : ∃ w2, w2 = wo.alloc (.cells #[.int .i64 y.id, .string y.key, .int .u32 y.word] 48) := ⟨_, rfl⟩
      obtain ⟨g7, hg7⟩ : ∃ g7, g7 = wo.heap.size := ⟨_, rfl⟩
      have B7 : Blk w2 g7 [.int .i64 y.id, .string y.key, .int .u32 y.word] 48 := by rw [hw2, hg7]; exact B7
      rw [← hw2] at k2
      have HW2 := Lib.hid hw2
      have HG7 := Lib.hid hg7
      replace OQ := OQ.nx k2
      replace kx := kx.nx k2
      obtain ⟨a3, cap3, rfl, ll3, hc3, _, _⟩ := OQ.ll
      clear hw2 hg7 k2 c0
      go_upto_region 7 with fail
      rw [← HG7.out, ← HW2.out]
      clear e0 e1 e2 e2'
      go_wp2_with fail
      have hGood : GoodC C := fun c hc => ⟨(FF.out c hc).1, Nat.le_trans (FF.out c hc).2.1 (by omega), (FF.out c hc).2.2⟩
      (with_reducible refine (idx_p _ _ _ _ _ _ _ _ _ _ _ ll3 (by omega) hGood hyw B7 (BH.out.nx kx) (HT.out.nx (HK1.out.nx kx))).mono ?_)
      rintro e w3 ⟨rfl, kk⟩
      replace OQ := OQ.nx kk
      replace kx := kx.nx kk
      replace B7 := Lib.hid (B7.nx kk)
      obtain ⟨KX, hKX⟩ : ∃ KX, KX = idxC C y.word h := ⟨_, rfl⟩
      have KI := Lib.hid hKX.symm
      have hKle : KX ≤ C.length := by rw [hKX]; exact idxC_le _ _ _
      clear kk ll3 hGood
      by_cases hKn : KX = C.length
      · have IV : idxV C y.word h = -1 := by unfold idxV; rw [← hKX, if_neg (by omega)]
        rw [IV]
        have lq : qs.length ≤ 1000000 := by rw [OQ.2.1]; omega
        have zq := kx.size
        clear hKX IV
        go_upto_region 11 with (at_builtin; (refine wpList_append_lit (enc := encH) w3 rfl _ _ 74 rfl w1.heap.size 23 (.slice none 0 0) 1 24 Tryd.underlying74 Tryd.infoH rfl (by omega) (by omega) _ _ OQ.1 rfl ((none, 0, 0) : Hdr) _ rfl rfl (by simp [encH, Hdr.val, Value.oneCell']) _ (by simp) rfl lq (by omega) _ ?_); intro vp wp ownp ch0 ch1 _)
        have B7 := Lib.hid (B7.out.chg ch0 ⟨B7.out.lt, OQ.ne_blk B7.out⟩)
        have OQ := OQ.pad ownp ch0
        replace kx : Ex w1 wp := Chg.trans kx ch1
        obtain ⟨C', hC'⟩ : ∃ C' : List (List Nd), C' = C ++ [[]] := ⟨_, rfl⟩
        rw [← hC'] at OQ
        have CL : C'.length = C.length + 1 := by rw [hC']; simp
        have EC : Hid (C' = padC C KX) := Lib.hid (by unfold padC; rw [if_pos (by omega), hC'])
        have CLEN : Hid (∀ c ∈ C', c.length ≤ 1000000) := Lib.hid (fun c hc => by
          rw [hC'] at hc
          rcases List.mem_append.1 hc with h1 | h1
          · exact Nat.le_trans (FF.out c h1).2.1 (by omega)
          · rw [List.mem_singleton.1 h1]; simp)
        generalize (qs ++ [((none, 0, 0) : Hdr)]) = qs at OQ
        obtain ⟨wa, rfl⟩ : ∃ wa : World, wa = wp := ⟨_, rfl⟩
        have hKC : KX < C'.length := by omega
        have NL : Hid (C'.length ≤ 1000001) := Lib.hid (by omega)
        clear hC' CL ownp ch0 ch1
        rw [← hKn]
        clear hKn
        obtain ⟨a4, cap4, he4, ll4, _, _, some4⟩ := OQ.ll
        cases he4
        obtain ⟨g4, e4, hg4⟩ := some4 (by intro h0; rw [h0] at hKC; simp at hKC)
        first | subst e4 | (obtain rfl : g4 = g3 := by cases e4; rfl)
        obtain ⟨c, hc⟩ : ∃ c, C'[KX]? = some c := ⟨C'[KX]'hKC, by simp⟩
        obtain ⟨⟨qa, qn, qc⟩, hq⟩ : ∃ q : Hdr, qs[KX]? = some q := ⟨qs[KX]'(by rw [OQ.2.1]; exact hKC), by simp⟩
        have hcl : c.length ≤ 1000000 := CLEN.out c (List.mem_of_getElem? hc)
        obtain ⟨cy, hcy⟩ : ∃ cy : List Nd, cy = c ++ [y] := ⟨_, rfl⟩
        have FIN : Hid (stepC h C y = C'.set KX cy) := Lib.hid (by unfold stepC; rw [KI.out, ← EC.out, hc, hcy]; rfl)
        have HCY := Lib.hid hcy
        clear hcy
        have HQ := Lib.hid hq
        have HCC := Lib.hid hc
        have hn4 : (KX : Int) < (C'.length : Int) := by omega
        have hn5 : C'.length ≤ 1000001 := NL.out
        clear hc hq ll4 some4
        go_wp2_with fail
        have OQ := Lib.hid (OQ.nx (Ex.refl wa).drew)
        have kx := kx.nx (Ex.refl wa).drew
        have SXF : ∀ cur : World, Sl 3 encN (cur.alloc (.cells #[.int .i64 y.id, .string y.key, .int .u32 y.word] 48)) (some ⟨cur.heap.size, 0, none⟩) 1 [y] := fun cur => Sl.lit _ rfl rfl (fun _ => rfl) rfl
        refine wp_region_held_drew (S := fun _ => True) (by kernel_rfl) (trivial) (fun hHeld => ?_)
        refine wpAnyH_take (i := 0) (oi := ⟨some 27, .move (.tmp 5), 74, "word.go:62", #[], none⟩) (v := ?_) rfl (by kernel_rfl) (by kernel_rfl) (by kernel_rfl) (fun _ _ _ h => h) (Or.inl ⟨by rfl, ?hyr1x0q1⟩) (by assumption) ?restr1x0q1
        case hyr1x0q1 => intro wq hSw; (go_simp); (try with_reducible rfl)
        try simp only [Act.put, List.setIfInBounds_toArray, List.set_cons_zero, List.set_cons_succ]
        refine wpAnyH_take (i := 1) (oi := ⟨some 28, .move (.tmp 8), 3, "word.go:62", #[], none⟩) (v := ?_) rfl (by kernel_rfl) (by kernel_rfl) (by kernel_rfl) (fun _ _ _ h => h) (Or.inl ⟨by rfl, ?hyr1x1q4⟩) (by assumption) ?restr1x1q4
        case hyr1x1q4 => intro wq hSw; (go_simp); (try with_reducible rfl)
        try simp only [Act.put, List.setIfInBounds_toArray, List.set_cons_zero, List.set_cons_succ]
        refine wpAnyH_take (i := 2) (oi := ⟨some 29, .move (.tmp 5), 74, "word.go:62", #[], none⟩) (v := ?_) rfl (by kernel_rfl) (by kernel_rfl) (by kernel_rfl) (fun _ _ _ h => h) (Or.inl ⟨by rfl, ?hyr1x2q7⟩) (by assumption) ?restr1x2q7
        case hyr1x2q7 => intro wq hSw; (go_simp); (try with_reducible rfl)
        try simp only [Act.put, List.setIfInBounds_toArray, List.set_cons_zero, List.set_cons_succ]
        refine wpAnyH_take (i := 3) (oi := ⟨some 30, .move (.tmp 8), 3, "word.go:62", #[], none⟩) (v := ?_) rfl (by kernel_rfl) (by kernel_rfl) (by kernel_rfl) (fun _ _ _ h => h) (Or.inl ⟨by rfl, ?hyr1x3q10⟩) (by assumption) ?restr1x3q10
        case hyr1x3q10 => intro wq hSw; (go_simp); (try with_reducible rfl)
        try simp only [Act.put, List.setIfInBounds_toArray, List.set_cons_zero, List.set_cons_succ]
        refine wpAnyH_take (i := 4) (oi := ⟨some 31, .indexAddr 74 (.tmp 29) (.tmp 30), 0, "word.go:62", #[⟨2, .data⟩, ⟨3, .data⟩], none⟩) (v := ?_) rfl (by kernel_rfl) (by kernel_rfl) (by kernel_rfl) (fun _ _ _ h => h) (Or.inl ⟨by rfl, ?hyr1x4q13⟩) (by assumption) ?restr1x4q13
        case hyr1x4q13 => intro wq hSw; (go_simp); (try with_reducible rfl)
        try simp only [Act.put, List.setIfInBounds_toArray, List.set_cons_zero, List.set_cons_succ]
        refine wpAnyH_ready (rs := [5, 6]) (by kernel_rfl) (by simp) ?_
        refine AllReadyH.cons (o := ⟨some 32, .load 23 (.tmp 31), 23, "word.go:62", #[⟨4, .data⟩], none⟩) rfl (fun K hK => ?_) ?_
        · have cc := (own_cellH OQ.out.1 HQ.out).1
          simp only [Hdr.val] at cc
          (try have cc2 : (wa.alloc (.cells #[.int .i64 y.id, .string y.key, .int .u32 y.word] 48)).cell? ⟨g4, KX, none⟩ = some (.slice qa qn qc) := cc)
          go_simp
          clear cc
          (try clear cc2)
          refine hK.out _ _ (trivial) (fun hHeld => ?_)
          clear hK K
          try simp only [Act.put, List.setIfInBounds_toArray, List.set_cons_zero, List.set_cons_succ]
          refine wpAnyH_ready (rs := [6]) (by kernel_rfl) (by simp) ?_
          refine AllReadyH.cons (o := ⟨some 33, .load 48 (.tmp 7), 48, "word.go:62", #[], none⟩) rfl (fun K hK => ?_) AllReadyH.nil
          have b0 := B7.out.cell 0 _ rfl
          have b1 := B7.out.cell 1 _ rfl
          have b2 := B7.out.cell 2 _ rfl
          go_simp
          clear b0 b1 b2
          refine hK.out _ _ (trivial) (fun hHeld => ?_)
          clear hK K
          try simp only [Act.put, List.setIfInBounds_toArray, List.set_cons_zero, List.set_cons_succ]
          refine wpAnyH_ready (rs := [7]) (by kernel_rfl) (by simp) ?_
          refine AllReadyH.cons (o := ⟨some 34, .buildSlice 23 1 #[(0, .tmp 33)], 23, "word.go:62", #[⟨6, .data⟩], none⟩) rfl (fun K hK => ?_) AllReadyH.nil
          go_simp
          have SX := SXF wa.drew
          have e7 := Ex.new wa.drew (.cells #[.int .i64 y.id, .string y.key, .int .u32 y.word] 48)
          replace OQ := Lib.hid (OQ.out.nx e7)
          replace kx := kx.nx e7
          clear e7
          refine hK.out _ _ (trivial) (fun hHeld => ?_)
          clear hK K
          try simp only [Act.put, List.setIfInBounds_toArray, List.set_cons_zero, List.set_cons_succ]
          refine wpAnyH_ready (rs := [8]) (by kernel_rfl) (by simp) ?_
          refine AllReadyH.cons (o := ⟨some 35, .call { callee := .builtin .append, args := #[.tmp 32, .tmp 34], argTypes := #[23, 23] }, 23, "word.go:62", #[⟨5, .data⟩, ⟨7, .data⟩], none⟩) rfl (fun K hK => ?_) AllReadyH.nil
          rw [if_pos (by rfl)]
          have z0 := Ex.size kx
          have oi := OQ.out.2.2.1 KX _ _ HQ.out HCC.out
          refine wp_append_rda (enc := encN) _ (.tmp 32) (.tmp 34) 23 rfl w1.heap.size 48 (.agg #[.int .i64 0, .string ByteArray.empty, .int .u32 0]) 3 32 Tryd.underlying23 Tryd.infoN rfl (by omega) (by omega) _ c oi rfl _ _ 1 1 [y] SX (fun h => by cases h) (fun _ => rfl) (by simp [encN, Value.oneCell']) rfl hcl (by omega) z0 ?_
          intro v8 w8 own8 ch0 ch1 hat
          rw [← HCY.out] at own8
          obtain ⟨a8, cap8, rfl, _, _, _, _⟩ := own8.rd (fun _ => rfl)
          obtain ⟨pc, pf, OQ2⟩ := OwnQ.put (q' := (a8, cy.length, cap8)) OQ.out HQ.out own8 ch0 hat
          replace kx : Ex w1 w8 := Chg.trans kx ch1
          replace OQ := Lib.hid OQ2
          clear OQ2 own8 ch0 ch1 hat oi z0 SX
          refine hK.out _ _ (trivial) (fun hHeld => ?_)
          clear hK K
          try simp only [Act.put, List.setIfInBounds_toArray, List.set_cons_zero, List.set_cons_succ]
          refine wpAnyH_take (i := 9) (oi := ⟨some 36, .indexAddr 74 (.tmp 27) (.tmp 28), 0, "word.go:62", #[⟨0, .data⟩, ⟨1, .data⟩, ⟨0, .phase⟩, ⟨1, .phase⟩, ⟨2, .phase⟩, ⟨3, .phase⟩, ⟨4, .phase⟩, ⟨5, .phase⟩, ⟨6, .phase⟩, ⟨7, .phase⟩, ⟨8, .phase⟩], none⟩) (v := ?_) rfl (by kernel_rfl) (by kernel_rfl) (by kernel_rfl) (fun _ _ _ h => h) (Or.inl ⟨by rfl, ?hyr1x9q64⟩) (by assumption) ?restr1x9q64
          case hyr1x9q64 => intro wq hSw; (go_simp); (try with_reducible rfl)
          try simp only [Act.put, List.setIfInBounds_toArray, List.set_cons_zero, List.set_cons_succ]
          refine wpAnyH_ready (rs := [10]) (by kernel_rfl) (by simp) ?_
          refine AllReadyH.cons (o := ⟨none, .store 23 (.tmp 36) (.tmp 35), 0, "word.go:62", #[⟨9, .data⟩, ⟨8, .data⟩, ⟨8, .chain⟩, ⟨0, .phase⟩, ⟨1, .phase⟩, ⟨2, .phase⟩, ⟨3, .phase⟩, ⟨4, .phase⟩, ⟨5, .phase⟩, ⟨6, .phase⟩, ⟨7, .phase⟩, ⟨8, .phase⟩], none⟩) rfl (fun K hK => ?_) AllReadyH.nil
          go_simp
          clear pc pf
          refine hK.out _ _ (trivial) (fun hHeld => ?_)
          clear hK K
          try simp only [Act.put, List.setIfInBounds_toArray, List.set_cons_zero, List.set_cons_succ]
          refine wpAnyH_done (by kernel_rfl) ?_ _
          replace kx := kx.setNew (p := ⟨g4, KX, none⟩) (Hdr.val (a8, cy.length, cap8)) hg4
          obtain ⟨wz, hwz⟩ : ∃ wz, wz = w8.setCell ⟨g4, KX, none⟩ (.slice a8 cy.length cap8) := ⟨_, rfl⟩
          have OQ := Lib.hid (OwnQ.cast OQ.out (w' := wz) hwz)
          have kx : Ex w1 wz := by rw [hwz]; exact kx
          rw [← hwz]
          clear hwz SXF hHeld hn5 hcl
          go_wp2_with fail
          exact ⟨⟨k + 1, _, by omega, by go_num, by rw [FS.out, FIN.out]; exact OQ.out, kx⟩, by simp [intOf]; omega⟩
        refine AllReadyH.cons (o := ⟨some 33, .load 48 (.tmp 7), 48, "word.go:62", #[], none⟩) rfl (fun K hK => ?_) AllReadyH.nil
        · have b0 := B7.out.cell 0 _ rfl
          have b1 := B7.out.cell 1 _ rfl
          have b2 := B7.out.cell 2 _ rfl
          go_simp
          clear b0 b1 b2
          refine hK.out _ _ (trivial) (fun hHeld => ?_)
          clear hK K
          try simp only [Act.put, List.setIfInBounds_toArray, List.set_cons_zero, List.set_cons_succ]
          refine wpAnyH_ready (rs := [5, 7]) (by kernel_rfl) (by simp) ?_
          refine AllReadyH.cons (o := ⟨some 32, .load 23 (.tmp 31), 23, "word.go:62", #[⟨4, .data⟩], none⟩) rfl (fun K hK => ?_) ?_
          · have cc := (own_cellH OQ.out.1 HQ.out).1
            simp only [Hdr.val] at cc
            (try have cc2 : (wa.alloc (.cells #[.int .i64 y.id, .string y.key, .int .u32 y.word] 48)).cell? ⟨g4, KX, none⟩ = some (.slice qa qn qc) := cc)
            go_simp
            clear cc
            (try clear cc2)
            refine hK.out _ _ (trivial) (fun hHeld => ?_)
            clear hK K
            try simp only [Act.put, List.setIfInBounds_toArray, List.set_cons_zero, List.set_cons_succ]
            refine wpAnyH_ready (rs := [7]) (by kernel_rfl) (by simp) ?_
            refine AllReadyH.cons (o := ⟨some 34, .buildSlice 23 1 #[(0, .tmp 33)], 23, "word.go:62", #[⟨6, .data⟩], none⟩) rfl (fun K hK => ?_) AllReadyH.nil
            go_simp
            have SX := SXF wa.drew
            have e7 := Ex.new wa.drew (.cells #[.int .i64 y.id, .string y.key, .int .u32 y.word] 48)
            replace OQ := Lib.hid (OQ.out.nx e7)
            replace kx := kx.nx e7
            clear e7
            refine hK.out _ _ (trivial) (fun hHeld => ?_)
            clear hK K
            try simp only [Act.put, List.setIfInBounds_toArray, List.set_cons_zero, List.set_cons_succ]
            refine wpAnyH_ready (rs := [8]) (by kernel_rfl) (by simp) ?_
            refine AllReadyH.cons (o := ⟨some 35, .call { callee := .builtin .append, args := #[.tmp 32, .tmp 34], argTypes := #[23, 23] }, 23, "word.go:62", #[⟨5, .data⟩, ⟨7, .data⟩], none⟩) rfl (fun K hK => ?_) AllReadyH.nil
            rw [if_pos (by rfl)]
            have z0 := Ex.size kx
            have oi := OQ.out.2.2.1 KX _ _ HQ.out HCC.out
            refine wp_append_rda (enc := encN) _ (.tmp 32) (.tmp 34) 23 rfl w1.heap.size 48 (.agg #[.int .i64 0, .string ByteArray.empty, .int .u32 0]) 3 32 Tryd.underlying23 Tryd.infoN rfl (by omega) (by omega) _ c oi rfl _ _ 1 1 [y] SX (fun h => by cases h) (fun _ => rfl) (by simp [encN, Value.oneCell']) rfl hcl (by omega) z0 ?_
            intro v8 w8 own8 ch0 ch1 hat
            rw [← HCY.out] at own8
            obtain ⟨a8, cap8, rfl, _, _, _, _⟩ := own8.rd (fun _ => rfl)
            obtain ⟨pc, pf, OQ2⟩ := OwnQ.put (q' := (a8, cy.length, cap8)) OQ.out HQ.out own8 ch0 hat
            replace kx : Ex w1 w8 := Chg.trans kx ch1
            replace OQ := Lib.hid OQ2
            clear OQ2 own8 ch0 ch1 hat oi z0 SX
            refine hK.out _ _ (trivial) (fun hHeld => ?_)
            clear hK K
            try simp only [Act.put, List.setIfInBounds_toArray, List.set_cons_zero, List.set_cons_succ]
            refine wpAnyH_take (i := 9) (oi := ⟨some 36, .indexAddr 74 (.tmp 27) (.tmp 28), 0, "word.go:62", #[⟨0, .data⟩, ⟨1, .data⟩, ⟨0, .phase⟩, ⟨1, .phase⟩, ⟨2, .phase⟩, ⟨3, .phase⟩, ⟨4, .phase⟩, ⟨5, .phase⟩, ⟨6, .phase⟩, ⟨7, .phase⟩, ⟨8, .phase⟩], none⟩) (v := ?_) rfl (by kernel_rfl) (by kernel_rfl) (by kernel_rfl) (fun _ _ _ h => h) (Or.inl ⟨by rfl, ?hyr1x9q123⟩) (by assumption) ?restr1x9q123
            case hyr1x9q123 => intro wq hSw; (go_simp); (try with_reducible rfl)
            try simp only [Act.put, List.setIfInBounds_toArray, List.set_cons_zero, List.set_cons_succ]
            refine wpAnyH_ready (rs := [10]) (by kernel_rfl) (by simp) ?_
            refine AllReadyH.cons (o := ⟨none, .store 23 (.tmp 36) (.tmp 35), 0, "word.go:62", #[⟨9, .data⟩, ⟨8, .data⟩, ⟨8, .chain⟩, ⟨0, .phase⟩, ⟨1, .phase⟩, ⟨2, .phase⟩, ⟨3, .phase⟩, ⟨4, .phase⟩, ⟨5, .phase⟩, ⟨6, .phase⟩, ⟨7, .phase⟩, ⟨8, .phase⟩], none⟩) rfl (fun K hK => ?_) AllReadyH.nil
            go_simp
            clear pc pf
            refine hK.out _ _ (trivial) (fun hHeld => ?_)
            clear hK K
            try simp only [Act.put, List.setIfInBounds_toArray, List.set_cons_zero, List.set_cons_succ]
            refine wpAnyH_done (by kernel_rfl) ?_ _
            replace kx := kx.setNew (p := ⟨g4, KX, none⟩) (Hdr.val (a8, cy.length, cap8)) hg4
            obtain ⟨wz, hwz⟩ : ∃ wz, wz = w8.setCell ⟨g4, KX, none⟩ (.slice a8 cy.length cap8) := ⟨_, rfl⟩
            have OQ := Lib.hid (OwnQ.cast OQ.out (w' := wz) hwz)
            have kx : Ex w1 wz := by rw [hwz]; exact kx
            rw [← hwz]
            clear hwz SXF hHeld hn5 hcl
            go_wp2_with fail
            exact ⟨⟨k + 1, _, by omega, by go_num, by rw [FS.out, FIN.out]; exact OQ.out, kx⟩, by simp [intOf]; omega⟩
          refine AllReadyH.cons (o := ⟨some 34, .buildSlice 23 1 #[(0, .tmp 33)], 23, "word.go:62", #[⟨6, .data⟩], none⟩) rfl (fun K hK => ?_) AllReadyH.nil
          · go_simp
            have SX := SXF wa.drew
            have e7 := Ex.new wa.drew (.cells #[.int .i64 y.id, .string y.key, .int .u32 y.word] 48)
            replace OQ := Lib.hid (OQ.out.nx e7)
            replace kx := kx.nx e7
            clear e7
            refine hK.out _ _ (trivial) (fun hHeld => ?_)
            clear hK K
            try simp only [Act.put, List.setIfInBounds_toArray, List.set_cons_zero, List.set_cons_succ]
            refine wpAnyH_ready (rs := [5]) (by kernel_rfl) (by simp) ?_
            refine AllReadyH.cons (o := ⟨some 32, .load 23 (.tmp 31), 23, "word.go:62", #[⟨4, .data⟩], none⟩) rfl (fun K hK => ?_) AllReadyH.nil
            have cc := (own_cellH OQ.out.1 HQ.out).1
            simp only [Hdr.val] at cc
            (try have cc2 : (wa.alloc (.cells #[.int .i64 y.id, .string y.key, .int .u32 y.word] 48)).cell? ⟨g4, KX, none⟩ = some (.slice qa qn qc) := cc)
            go_simp
            clear cc
            (try clear cc2)
            refine hK.out _ _ (trivial) (fun hHeld => ?_)
            clear hK K
            try simp only [Act.put, List.setIfInBounds_toArray, List.set_cons_zero, List.set_cons_succ]
            refine wpAnyH_ready (rs := [8]) (by kernel_rfl) (by simp) ?_
            refine AllReadyH.cons (o := ⟨some 35, .call { callee := .builtin .append, args := #[.tmp 32, .tmp 34], argTypes := #[23, 23] }, 23, "word.go:62", #[⟨5, .data⟩, ⟨7, .data⟩], none⟩) rfl (fun K hK => ?_) AllReadyH.nil
            rw [if_pos (by rfl)]
            have z0 := Ex.size kx
            have oi := OQ.out.2.2.1 KX _ _ HQ.out HCC.out
            refine wp_append_rda (enc := encN) _ (.tmp 32) (.tmp 34) 23 rfl w1.heap.size 48 (.agg #[.int .i64 0, .string ByteArray.empty, .int .u32 0]) 3 32 Tryd.underlying23 Tryd.infoN rfl (by omega) (by omega) _ c oi rfl _ _ 1 1 [y] SX (fun h => by cases h) (fun _ => rfl) (by simp [encN, Value.oneCell']) rfl hcl (by omega) z0 ?_
            intro v8 w8 own8 ch0 ch1 hat
            rw [← HCY.out] at own8
            obtain ⟨a8, cap8, rfl, _, _, _, _⟩ := own8.rd (fun _ => rfl)
            obtain ⟨pc, pf, OQ2⟩ := OwnQ.put (q' := (a8, cy.length, cap8)) OQ.out HQ.out own8 ch0 hat
            replace kx : Ex w1 w8 := Chg.trans kx ch1
            replace OQ := Lib.hid OQ2
            clear OQ2 own8 ch0 ch1 hat oi z0 SX
            refine hK.out _ _ (trivial) (fun hHeld => ?_)
            clear hK K
            try simp only [Act.put, List.setIfInBounds_toArray, List.set_cons_zero, List.set_cons_succ]
            refine wpAnyH_take (i := 9) (oi := ⟨some 36, .indexAddr 74 (.tmp 27) (.tmp 28), 0, "word.go:62", #[⟨0, .data⟩, ⟨1, .data⟩, ⟨0, .phase⟩, ⟨1, .phase⟩, ⟨2, .phase⟩, ⟨3, .phase⟩, ⟨4, .phase⟩, ⟨5, .phase⟩, ⟨6, .phase⟩, ⟨7, .phase⟩, ⟨8, .phase⟩], none⟩) (v := ?_) rfl (by kernel_rfl) (by kernel_rfl) (by kernel_rfl) (fun _ _ _ h => h) (Or.inl ⟨by rfl, ?hyr1x9q172⟩) (by assumption) ?restr1x9q172
            case hyr1x9q172 => intro wq hSw; (go_simp); (try with_reducible rfl)
            try simp only [Act.put, List.setIfInBounds_toArray, List.set_cons_zero, List.set_cons_succ]
            refine wpAnyH_ready (rs := [10]) (by kernel_rfl) (by simp) ?_
            refine AllReadyH.cons (o := ⟨none, .store 23 (.tmp 36) (.tmp 35), 0, "word.go:62", #[⟨9, .data⟩, ⟨8, .data⟩, ⟨8, .chain⟩, ⟨0, .phase⟩, ⟨1, .phase⟩, ⟨2, .phase⟩, ⟨3, .phase⟩, ⟨4, .phase⟩, ⟨5, .phase⟩, ⟨6, .phase⟩, ⟨7, .phase⟩, ⟨8, .phase⟩], none⟩) rfl (fun K hK => ?_) AllReadyH.nil
            go_simp
            clear pc pf
            refine hK.out _ _ (trivial) (fun hHeld => ?_)
            clear hK K
            try simp only [Act.put, List.setIfInBounds_toArray, List.set_cons_zero, List.set_cons_succ]
            refine wpAnyH_done (by kernel_rfl) ?_ _
            replace kx := kx.setNew (p := ⟨g4, KX, none⟩) (Hdr.val (a8, cy.length, cap8)) hg4
            obtain ⟨wz, hwz⟩ : ∃ wz, wz = w8.setCell ⟨g4, KX, none⟩ (.slice a8 cy.length cap8) := ⟨_, rfl⟩
            have OQ := Lib.hid (OwnQ.cast OQ.out (w' := wz) hwz)
            have kx : Ex w1 wz := by rw [hwz]; exact kx
            rw [← hwz]
            clear hwz SXF hHeld hn5 hcl
            go_wp2_with fail
            exact ⟨⟨k + 1, _, by omega, by go_num, by rw [FS.out, FIN.out]; exact OQ.out, kx⟩, by simp [intOf]; omega⟩
      · have IV : idxV C y.word h = (KX : Int) := by unfold idxV; rw [← hKX, if_pos (by omega)]
        rw [IV]
        obtain ⟨wa, rfl⟩ : ∃ wa : World, wa = w3 := ⟨_, rfl⟩
        have k0 : (0 : Int) ≤ (KX : Int) := by omega
        clear hKX IV
        have EC : Hid (C = padC C KX) := Lib.hid (by unfold padC; rw [if_neg (by omega)])
        have CLEN : Hid (∀ c ∈ C, c.length ≤ 1000000) := Lib.hid (fun c hc => Nat.le_trans (FF.out c hc).2.1 (by omega))
        have hKC : KX < C.length := by omega
        have NL : Hid (C.length ≤ 1000001) := Lib.hid (by omega)
        obtain ⟨a4, cap4, he4, ll4, _, _, some4⟩ := OQ.ll
        cases he4
        obtain ⟨g4, e4, hg4⟩ := some4 (by intro h0; rw [h0] at hKC; simp at hKC)
        first | subst e4 | (obtain rfl : g4 = g3 := by cases e4; rfl)
        obtain ⟨c, hc⟩ : ∃ c, C[KX]? = some c := ⟨C[KX]'hKC, by simp⟩
        obtain ⟨⟨qa, qn, qc⟩, hq⟩ : ∃ q : Hdr, qs[KX]? = some q := ⟨qs[KX]'(by rw [OQ.2.1]; exact hKC), by simp⟩
        have hcl : c.length ≤ 1000000 := CLEN.out c (List.mem_of_getElem? hc)
        obtain ⟨cy, hcy⟩ : ∃ cy : List Nd, cy = c ++ [y] := ⟨_, rfl⟩
        have FIN : Hid (stepC h C y = C.set KX cy) := Lib.hid (by unfold stepC; rw [KI.out, ← EC.out, hc, hcy]; rfl)
        have HCY := Lib.hid hcy
        clear hcy
        have HQ := Lib.hid hq
        have HCC := Lib.hid hc
        have hn4 : (KX : Int) < (C.length : Int) := by omega
        have hn5 : C.length ≤ 1000001 := NL.out
        clear hc hq ll4 some4
        go_wp2_with fail
        have OQ := Lib.hid (OQ.nx (Ex.refl wa).drew)
        have kx := kx.nx (Ex.refl wa).drew
        have SXF : ∀ cur : World, Sl 3 encN (cur.alloc (.cells #[.int .i64 y.id, .string y.key, .int .u32 y.word] 48)) (some ⟨cur.heap.size, 0, none⟩) 1 [y] := fun cur => Sl.lit _ rfl rfl (fun _ => rfl) rfl
        refine wp_region_held_drew (S := fun _ => True) (by kernel_rfl) (trivial) (fun hHeld => ?_)
        refine wpAnyH_take (i := 0) (oi := ⟨some 27, .move (.tmp 5), 74, "word.go:62", #[], none⟩) (v := ?_) rfl (by kernel_rfl) (by kernel_rfl) (by kernel_rfl) (fun _ _ _ h => h) (Or.inl ⟨by rfl, ?hyr2x0q1⟩) (by assumption) ?restr2x0q1
        case hyr2x0q1 => intro wq hSw; (go_simp); (try with_reducible rfl)
        try simp only [Act.put, List.setIfInBounds_toArray, List.set_cons_zero, List.set_cons_succ]
        refine wpAnyH_take (i := 1) (oi := ⟨some 28, .move (.tmp 8), 3, "word.go:62", #[], none⟩) (v := ?_) rfl (by kernel_rfl) (by kernel_rfl) (by kernel_rfl) (fun _ _ _ h => h) (Or.inl ⟨by rfl, ?hyr2x1q4⟩) (by assumption) ?restr2x1q4
        case hyr2x1q4 => intro wq hSw; (go_simp); (try with_reducible rfl)
        try simp only [Act.put, List.setIfInBounds_toArray, List.set_cons_zero, List.set_cons_succ]
        refine wpAnyH_take (i := 2) (oi := ⟨some 29, .move (.tmp 5), 74, "word.go:62", #[], none⟩) (v := ?_) rfl (by kernel_rfl) (by kernel_rfl) (by kernel_rfl) (fun _ _ _ h => h) (Or.inl ⟨by rfl, ?hyr2x2q7⟩) (by assumption) ?restr2x2q7
        case hyr2x2q7 => intro wq hSw; (go_simp); (try with_reducible rfl)
        try simp only [Act.put, List.setIfInBounds_toArray, List.set_cons_zero, List.set_cons_succ]
        refine wpAnyH_take (i := 3) (oi := ⟨some 30, .move (.tmp 8), 3, "word.go:62", #[], none⟩) (v := ?_) rfl (by kernel_rfl) (by kernel_rfl) (by kernel_rfl) (fun _ _ _ h => h) (Or.inl ⟨by rfl, ?hyr2x3q10⟩) (by assumption) ?restr2x3q10
        case hyr2x3q10 => intro wq hSw; (go_simp); (try with_reducible rfl)
        try simp only [Act.put, List.setIfInBounds_toArray, List.set_cons_zero, List.set_cons_succ]
        refine wpAnyH_take (i := 4) (oi := ⟨some 31, .indexAddr 74 (.tmp 29) (.tmp 30), 0, "word.go:62", #[⟨2, .data⟩, ⟨3, .data⟩], none⟩) (v := ?_) rfl (by kernel_rfl) (by kernel_rfl) (by kernel_rfl) (fun _ _ _ h => h) (Or.inl ⟨by rfl, ?hyr2x4q13⟩) (by assumption) ?restr2x4q13
        case hyr2x4q13 => intro wq hSw; (go_simp); (try with_reducible rfl)
        try simp only [Act.put, List.setIfInBounds_toArray, List.set_cons_zero, List.set_cons_succ]
        refine wpAnyH_ready (rs := [5, 6]) (by kernel_rfl) (by simp) ?_
        refine AllReadyH.cons (o := ⟨some 32, .load 23 (.tmp 31), 23, "word.go:62", #[⟨4, .data⟩], none⟩) rfl (fun K hK => ?_) ?_
        · have cc := (own_cellH OQ.out.1 HQ.out).1
          simp only [Hdr.val] at cc
          (try have cc2 : (wa.alloc (.cells #[.int .i64 y.id, .string y.key, .int .u32 y.word] 48)).cell? ⟨g4, KX, none⟩ = some (.slice qa qn qc) := cc)
          go_simp
          clear cc
          (try clear cc2)
          refine hK.out _ _ (trivial) (fun hHeld => ?_)
          clear hK K
          try simp only [Act.put, List.setIfInBounds_toArray, List.set_cons_zero, List.set_cons_succ]
          refine wpAnyH_ready (rs := [6]) (by kernel_rfl) (by simp) ?_
          refine AllReadyH.cons (o := ⟨some 33, .load 48 (.tmp 7), 48, "word.go:62", #[], none⟩) rfl (fun K hK => ?_) AllReadyH.nil
          have b0 := B7.out.cell 0 _ rfl
          have b1 := B7.out.cell 1 _ rfl
          have b2 := B7.out.cell 2 _ rfl
          go_simp
          clear b0 b1 b2
          refine hK.out _ _ (trivial) (fun hHeld => ?_)
          clear hK K
          try simp only [Act.put, List.setIfInBounds_toArray, List.set_cons_zero, List.set_cons_succ]
          refine wpAnyH_ready (rs := [7]) (by kernel_rfl) (by simp) ?_
          refine AllReadyH.cons (o := ⟨some 34, .buildSlice 23 1 #[(0, .tmp 33)], 23, "word.go:62", #[⟨6, .data⟩], none⟩) rfl (fun K hK => ?_) AllReadyH.nil
          go_simp
          have SX := SXF wa.drew
          have e7 := Ex.new wa.drew (.cells #[.int .i64 y.id, .string y.key, .int .u32 y.word] 48)
          replace OQ := Lib.hid (OQ.out.nx e7)
          replace kx := kx.nx e7
          clear e7
          refine hK.out _ _ (trivial) (fun hHeld => ?_)
          clear hK K
          try simp only [Act.put, List.setIfInBounds_toArray, List.set_cons_zero, List.set_cons_succ]
          refine wpAnyH_ready (rs := [8]) (by kernel_rfl) (by simp) ?_
          refine AllReadyH.cons (o := ⟨some 35, .call { callee := .builtin .append, args := #[.tmp 32, .tmp 34], argTypes := #[23, 23] }, 23, "word.go:62", #[⟨5, .data⟩, ⟨7, .data⟩], none⟩) rfl (fun K hK => ?_) AllReadyH.nil
          rw [if_pos (by rfl)]
          have z0 := Ex.size kx
          have oi := OQ.out.2.2.1 KX _ _ HQ.out HCC.out
          refine wp_append_rda (enc := encN) _ (.tmp 32) (.tmp 34) 23 rfl w1.heap.size 48 (.agg #[.int .i64 0, .string ByteArray.empty, .int .u32 0]) 3 32 Tryd.underlying23 Tryd.infoN rfl (by omega) (by omega) _ c oi rfl _ _ 1 1 [y] SX (fun h => by cases h) (fun _ => rfl) (by simp [encN, Value.oneCell']) rfl hcl (by omega) z0 ?_
          intro v8 w8 own8 ch0 ch1 hat
          rw [← HCY.out] at own8
          obtain ⟨a8, cap8, rfl, _, _, _, _⟩ := own8.rd (fun _ => rfl)
          obtain ⟨pc, pf, OQ2⟩ := OwnQ.put (q' := (a8, cy.length, cap8)) OQ.out HQ.out own8 ch0 hat
          replace kx : Ex w1 w8 := Chg.trans kx ch1
          replace OQ := Lib.hid OQ2
          clear OQ2 own8 ch0 ch1 hat oi z0 SX
          refine hK.out _ _ (trivial) (fun hHeld => ?_)
          clear hK K
          try simp only [Act.put, List.setIfInBounds_toArray, List.set_cons_zero, List.set_cons_succ]
          refine wpAnyH_take (i := 9) (oi := ⟨some 36, .indexAddr 74 (.tmp 27) (.tmp 28), 0, "word.go:62", #[⟨0, .data⟩, ⟨1, .data⟩, ⟨0, .phase⟩, ⟨1, .phase⟩, ⟨2, .phase⟩, ⟨3, .phase⟩, ⟨4, .phase⟩, ⟨5, .phase⟩, ⟨6, .phase⟩, ⟨7, .phase⟩, ⟨8, .phase⟩], none⟩) (v := ?_) rfl (by kernel_rfl) (by kernel_rfl) (by kernel_rfl) (fun _ _ _ h => h) (Or.inl ⟨by rfl, ?hyr2x9q64⟩) (by assumption) ?restr2x9q64
          case hyr2x9q64 => intro wq hSw; (go_simp); (try with_reducible rfl)
          try simp only [Act.put, List.setIfInBounds_toArray, List.set_cons_zero, List.set_cons_succ]
          refine wpAnyH_ready (rs := [10]) (by kernel_rfl) (by simp) ?_
          refine AllReadyH.cons (o := ⟨none, .store 23 (.tmp 36) (.tmp 35), 0, "word.go:62", #[⟨9, .data⟩, ⟨8, .data⟩, ⟨8, .chain⟩, ⟨0, .phase⟩, ⟨1, .phase⟩, ⟨2, .phase⟩, ⟨3, .phase⟩, ⟨4, .phase⟩, ⟨5, .phase⟩, ⟨6, .phase⟩, ⟨7, .phase⟩, ⟨8, .phase⟩], none⟩) rfl (fun K hK => ?_) AllReadyH.nil
          go_simp
          clear pc pf
          refine hK.out _ _ (trivial) (fun hHeld => ?_)
          clear hK K
          try simp only [Act.put, List.setIfInBounds_toArray, List.set_cons_zero, List.set_cons_succ]
          refine wpAnyH_done (by kernel_rfl) ?_ _
          replace kx := kx.setNew (p := ⟨g4, KX, none⟩) (Hdr.val (a8, cy.length, cap8)) hg4
          obtain ⟨wz, hwz⟩ : ∃ wz, wz = w8.setCell ⟨g4, KX, none⟩ (.slice a8 cy.length cap8) := ⟨_, rfl⟩
          have OQ := Lib.hid (OwnQ.cast OQ.out (w' := wz) hwz)
          have kx : Ex w1 wz := by rw [hwz]; exact kx
          rw [← hwz]
          clear hwz SXF hHeld hn5 hcl
          go_wp2_with fail
          exact ⟨⟨k + 1, _, by omega, by go_num, by rw [FS.out, FIN.out]; exact OQ.out, kx⟩, by simp [intOf]; omega⟩
        refine AllReadyH.cons (o := ⟨some 33, .load 48 (.tmp 7), 48, "word.go:62", #[], none⟩) rfl (fun K hK => ?_) AllReadyH.nil
        · have b0 := B7.out.cell 0 _ rfl
          have b1 := B7.out.cell 1 _ rfl
          have b2 := B7.out.cell 2 _ rfl
          go_simp
          clear b0 b1 b2
          refine hK.out _ _ (trivial) (fun hHeld => ?_)
          clear hK K
          try simp only [Act.put, List.setIfInBounds_toArray, List.set_cons_zero, List.set_cons_succ]
          refine wpAnyH_ready (rs := [5, 7]) (by kernel_rfl) (by simp) ?_
          refine AllReadyH.cons (o := ⟨some 32, .load 23 (.tmp 31), 23, "word.go:62", #[⟨4, .data⟩], none⟩) rfl (fun K hK => ?_) ?_
          · have cc := (own_cellH OQ.out.1 HQ.out).1
            simp only [Hdr.val] at cc
            (try have cc2 : (wa.alloc (.cells #[.int .i64 y.id, .string y.key, .int .u32 y.word] 48)).cell? ⟨g4, KX, none⟩ = some (.slice qa qn qc) := cc)
            go_simp
            clear cc
            (try clear cc2)
            refine hK.out _ _ (trivial) (fun hHeld => ?_)
            clear hK K
            try simp only [Act.put, List.setIfInBounds_toArray, List.set_cons_zero, List.set_cons_succ]
            refine wpAnyH_ready (rs := [7]) (by kernel_rfl) (by simp) ?_
            refine AllReadyH.cons (o := ⟨some 34, .buildSlice 23 1 #[(0, .tmp 33)], 23, "word.go:62", #[⟨6, .data⟩], none⟩) rfl (fun K hK => ?_) AllReadyH.nil
            go_simp
            have SX := SXF wa.drew
            have e7 := Ex.new wa.drew (.cells #[.int .i64 y.id, .string y.key, .int .u32 y.word] 48)
            replace OQ := Lib.hid (OQ.out.nx e7)
            replace kx := kx.nx e7
            clear e7
            refine hK.out _ _ (trivial) (fun hHeld => ?_)
            clear hK K
            try simp only [Act.put, List.setIfInBounds_toArray, List.set_cons_zero, List.set_cons_succ]
            refine wpAnyH_ready (rs := [8]) (by kernel_rfl) (by simp) ?_
            refine AllReadyH.cons (o := ⟨some 35, .call { callee := .builtin .append, args := #[.tmp 32, .tmp 34], argTypes := #[23, 23] }, 23, "word.go:62", #[⟨5, .data⟩, ⟨7, .data⟩], none⟩) rfl (fun K hK => ?_) AllReadyH.nil
            rw [if_pos (by rfl)]
            have z0 := Ex.size kx
            have oi := OQ.out.2.2.1 KX _ _ HQ.out HCC.out
            refine wp_append_rda (enc := encN) _ (.tmp 32) (.tmp 34) 23 rfl w1.heap.size 48 (.agg #[.int .i64 0, .string ByteArray.empty, .int .u32 0]) 3 32 Tryd.underlying23 Tryd.infoN rfl (by omega) (by omega) _ c oi rfl _ _ 1 1 [y] SX (fun h => by cases h) (fun _ => rfl) (by simp [encN, Value.oneCell']) rfl hcl (by omega) z0 ?_
            intro v8 w8 own8 ch0 ch1 hat
            rw [← HCY.out] at own8
            obtain ⟨a8, cap8, rfl, _, _, _, _⟩ := own8.rd (fun _ => rfl)
            obtain ⟨pc, pf, OQ2⟩ := OwnQ.put (q' := (a8, cy.length, cap8)) OQ.out HQ.out own8 ch0 hat
            replace kx : Ex w1 w8 := Chg.trans kx ch1
            replace OQ := Lib.hid OQ2
            clear OQ2 own8 ch0 ch1 hat oi z0 SX
            refine hK.out _ _ (trivial) (fun hHeld => ?_)
            clear hK K
            try simp only [Act.put, List.setIfInBounds_toArray, List.set_cons_zero, List.set_cons_succ]
            refine wpAnyH_take (i := 9) (oi := ⟨some 36, .indexAddr 74 (.tmp 27) (.tmp 28), 0, "word.go:62", #[⟨0, .data⟩, ⟨1, .data⟩, ⟨0, .phase⟩, ⟨1, .phase⟩, ⟨2, .phase⟩, ⟨3, .phase⟩, ⟨4, .phase⟩, ⟨5, .phase⟩, ⟨6, .phase⟩, ⟨7, .phase⟩, ⟨8, .phase⟩], none⟩) (v := ?_) rfl (by kernel_rfl) (by kernel_rfl) (by kernel_rfl) (fun _ _ _ h => h) (Or.inl ⟨by rfl, ?hyr2x9q123⟩) (by assumption) ?restr2x9q123
            case hyr2x9q123 => intro wq hSw; (go_simp); (try with_reducible rfl)
            try simp only [Act.put, List.setIfInBounds_toArray, List.set_cons_zero, List.set_cons_succ]
            refine wpAnyH_ready (rs := [10]) (by kernel_rfl) (by simp) ?_
            refine AllReadyH.cons (o := ⟨none, .store 23 (.tmp 36) (.tmp 35), 0, "word.go:62", #[⟨9, .data⟩, ⟨8, .data⟩, ⟨8, .chain⟩, ⟨0, .phase⟩, ⟨1, .phase⟩, ⟨2, .phase⟩, ⟨3, .phase⟩, ⟨4, .phase⟩, ⟨5, .phase⟩, ⟨6, .phase⟩, ⟨7, .phase⟩, ⟨8, .phase⟩], none⟩) rfl (fun K hK => ?_) AllReadyH.nil
            go_simp
            clear pc pf
            refine hK.out _ _ (trivial) (fun hHeld => ?_)
            clear hK K
            try simp only [Act.put, List.setIfInBounds_toArray, List.set_cons_zero, List.set_cons_succ]
            refine wpAnyH_done (by kernel_rfl) ?_ _
            replace kx := kx.setNew (p := ⟨g4, KX, none⟩) (Hdr.val (a8, cy.length, cap8)) hg4
            obtain ⟨wz, hwz⟩ : ∃ wz, wz = w8.setCell ⟨g4, KX, none⟩ (.slice a8 cy.length cap8) := ⟨_, rfl⟩
            have OQ := Lib.hid (OwnQ.cast OQ.out (w' := wz) hwz)
            have kx : Ex w1 wz := by rw [hwz]; exact kx
            rw [← hwz]
            clear hwz SXF hHeld hn5 hcl
            go_wp2_with fail
            exact ⟨⟨k + 1, _, by omega, by go_num, by rw [FS.out, FIN.out]; exact OQ.out, kx⟩, by simp [intOf]; omega⟩
          refine AllReadyH.cons (o := ⟨some 34, .buildSlice 23 1 #[(0, .tmp 33)], 23, "word.go:62", #[⟨6, .data⟩], none⟩) rfl (fun K hK => ?_) AllReadyH.nil
          · go_simp
            have SX := SXF wa.drew
            have e7 := Ex.new wa.drew (.cells #[.int .i64 y.id, .string y.key, .int .u32 y.word] 48)
            replace OQ := Lib.hid (OQ.out.nx e7)
            replace kx := kx.nx e7
            clear e7
            refine hK.out _ _ (trivial) (fun hHeld => ?_)
            clear hK K
            try simp only [Act.put, List.setIfInBounds_toArray, List.set_cons_zero, List.set_cons_succ]
            refine wpAnyH_ready (rs := [5]) (by kernel_rfl) (by simp) ?_
            refine AllReadyH.cons (o := ⟨some 32, .load 23 (.tmp 31), 23, "word.go:62", #[⟨4, .data⟩], none⟩) rfl (fun K hK => ?_) AllReadyH.nil
            have cc := (own_cellH OQ.out.1 HQ.out).1
            simp only [Hdr.val] at cc
            (try have cc2 : (wa.alloc (.cells #[.int .i64 y.id, .string y.key, .int .u32 y.word] 48)).cell? ⟨g4, KX, none⟩ = some (.slice qa qn qc) := cc)
            go_simp
            clear cc
            (try clear cc2)
            refine hK.out _ _ (trivial) (fun hHeld => ?_)
            clear hK K
            try simp only [Act.put, List.setIfInBounds_toArray, List.set_cons_zero, List.set_cons_succ]
            refine wpAnyH_ready (rs := [8]) (by kernel_rfl) (by simp) ?_
            refine AllReadyH.cons (o := ⟨some 35, .call { callee := .builtin .append, args := #[.tmp 32, .tmp 34], argTypes := #[23, 23] }, 23, "word.go:62", #[⟨5, .data⟩, ⟨7, .data⟩], none⟩) rfl (fun K hK => ?_) AllReadyH.nil
            rw [if_pos (by rfl)]
            have z0 := Ex.size kx
            have oi := OQ.out.2.2.1 KX _ _ HQ.out HCC.out
            refine wp_append_rda (enc := encN) _ (.tmp 32) (.tmp 34) 23 rfl w1.heap.size 48 (.agg #[.int .i64 0, .string ByteArray.empty, .int .u32 0]) 3 32 Tryd.underlying23 Tryd.infoN rfl (by omega) (by omega) _ c oi rfl _ _ 1 1 [y] SX (fun h => by cases h) (fun _ => rfl) (by simp [encN, Value.oneCell']) rfl hcl (by omega) z0 ?_
            intro v8 w8 own8 ch0 ch1 hat
            rw [← HCY.out] at own8
            obtain ⟨a8, cap8, rfl, _, _, _, _⟩ := own8.rd (fun _ => rfl)
            obtain ⟨pc, pf, OQ2⟩ := OwnQ.put (q' := (a8, cy.length, cap8)) OQ.out HQ.out own8 ch0 hat
            replace kx : Ex w1 w8 := Chg.trans kx ch1
            replace OQ := Lib.hid OQ2
            clear OQ2 own8 ch0 ch1 hat oi z0 SX
            refine hK.out _ _ (trivial) (fun hHeld => ?_)
            clear hK K
            try simp only [Act.put, List.setIfInBounds_toArray, List.set_cons_zero, List.set_cons_succ]
            refine wpAnyH_take (i := 9) (oi := ⟨some 36, .indexAddr 74 (.tmp 27) (.tmp 28), 0, "word.go:62", #[⟨0, .data⟩, ⟨1, .data⟩, ⟨0, .phase⟩, ⟨1, .phase⟩, ⟨2, .phase⟩, ⟨3, .phase⟩, ⟨4, .phase⟩, ⟨5, .phase⟩, ⟨6, .phase⟩, ⟨7, .phase⟩, ⟨8, .phase⟩], none⟩) (v := ?_) rfl (by kernel_rfl) (by kernel_rfl) (by kernel_rfl) (fun _ _ _ h => h) (Or.inl ⟨by rfl, ?hyr2x9q172⟩) (by assumption) ?restr2x9q172
            case hyr2x9q172 => intro wq hSw; (go_simp); (try with_reducible rfl)
            try simp only [Act.put, List.setIfInBounds_toArray, List.set_cons_zero, List.set_cons_succ]
            refine wpAnyH_ready (rs := [10]) (by kernel_rfl) (by simp) ?_
            refine AllReadyH.cons (o := ⟨none, .store 23 (.tmp 36) (.tmp 35), 0, "word.go:62", #[⟨9, .data⟩, ⟨8, .data⟩, ⟨8, .chain⟩, ⟨0, .phase⟩, ⟨1, .phase⟩, ⟨2, .phase⟩, ⟨3, .phase⟩, ⟨4, .phase⟩, ⟨5, .phase⟩, ⟨6, .phase⟩, ⟨7, .phase⟩, ⟨8, .phase⟩], none⟩) rfl (fun K hK => ?_) AllReadyH.nil
            go_simp
            clear pc pf
            refine hK.out _ _ (trivial) (fun hHeld => ?_)
            clear hK K
            try simp only [Act.put, List.setIfInBounds_toArray, List.set_cons_zero, List.set_cons_succ]
            refine wpAnyH_done (by kernel_rfl) ?_ _
            replace kx := kx.setNew (p := ⟨g4, KX, none⟩) (Hdr.val (a8, cy.length, cap8)) hg4
            obtain ⟨wz, hwz⟩ : ∃ wz, wz = w8.setCell ⟨g4, KX, none⟩ (.slice a8 cy.length cap8) := ⟨_, rfl⟩
            have OQ := Lib.hid (OwnQ.cast OQ.out (w' := wz) hwz)
            have kx : Ex w1 wz := by rw [hwz]; exact kx
            rw [← hwz]
            clear hwz SXF hHeld hn5 hcl
            go_wp2_with fail
            exact ⟨⟨k + 1, _, by omega, by go_num, by rw [FS.out, FIN.out]; exact OQ.out, kx⟩, by simp [intOf]; omega⟩
    · obtain rfl : k = n := by omega
      rw [List.take_of_length_le (by rw [HL.out]; exact Nat.le_refl _)] at OQ
      obtain ⟨a3, cap3, rfl, ll3, hc3, _, _⟩ := OQ.ll
      have LL3 := Lib.hid ll3
      clear OQ ll3 hk hlt
      go_wp2_with fail
      go_ret
      exact ⟨a3, cap3, by rw [HF.out]; rfl, by rw [HF.out]; exact LL3.out, HK1.out.nx kx⟩
end Go.Proofs.YtihpaonhonhfoaaDoor

/- The plain law of WordSplits: what the classes of two levels have to do with each other. -/
namespace Go.Proofs.YtihpaonhonhfoaaDoor
open Go.RowKit

theorem sameN_refl (a : Nat) {h : Int} (hh : h ≤ 16) : sameN a a h = true := by unfold sameN; rw [common_self]; simpa using hh
theorem sameN_symm {a b : Nat} {h : Int} (hs : sameN a b h = true) : sameN b a h = true := by unfold sameN at *; rw [commonN_comm]; exact hs
theorem sameN_trans {a b c : Nat} {h : Int} (ha : a < 4294967296) (hb : b < 4294967296) (hc : c < 4294967296) (h1 : sameN a b h = true) (h2 : sameN b c h = true) : sameN a c h = true := by
  unfold sameN at *
  have := common_min ha hb hc
  simp at *
  omega
theorem same_succ {a b m : Nat} (ha : a < 4294967296) (hb : b < 4294967296) (hm : m < 16) :
    sameN a b ((m : Int) + 1) = true ↔ sameN a b m = true ∧ bitN a m = bitN b m := by
  have key : a.testBit m = b.testBit m ↔ bitN a m = bitN b m := by
    rw [bitN_of a m hm, bitN_of b m hm]; exact bit_eq_iff a b m
  unfold sameN
  simp only [decide_eq_true_eq]
  constructor
  · intro h
    exact ⟨by omega, key.1 (common_lt ha hb (by omega))⟩
  · rintro ⟨h1, h2⟩
    rcases Nat.lt_or_ge m (commonN a b) with h | h
    · omega
    · exfalso
      have he : commonN a b = m := by omega
      have := common_at ha hb (by omega)
      rw [he] at this
      exact this (key.2 h2)

theorem stepC_cases (h : Int) (C : List (List Nd)) (x : Nd) :
    ((∀ c ∈ C, sameN (headW c) x.word h = false) ∧ stepC h C x = C ++ [[x]]) ∨
    ∃ K c, C[K]? = some c ∧ sameN (headW c) x.word h = true ∧ stepC h C x = C.set K (c ++ [x]) := by
  have hle := idxC_le C x.word h
  by_cases hK : idxC C x.word h = C.length
  · refine .inl ⟨fun c hc => ?_, ?_⟩
    · have := (List.findIdx_eq_length.1 hK) c hc
      simpa using this
    · unfold stepC padC
      rw [hK, if_pos rfl, List.getElem?_append_right (Nat.le_refl _)]
      simp
  · refine .inr ⟨idxC C x.word h, C[idxC C x.word h]'(by omega), by simp, ?_, ?_⟩
    · exact List.findIdx_getElem (p := fun c => sameN (headW c) x.word h) (w := by unfold idxC at *; omega)
    · unfold stepC padC
      rw [if_neg hK]
      congr 2
      rw [List.getElem?_eq_getElem (by omega)]
      rfl

/-- what is known of the classes of a level -/
structure Cls (h : Int) (l : List Nd) (C : List (List Nd)) : Prop where
  all : ∀ y ∈ l, ∃ c ∈ C, y ∈ c
  mem : ∀ c ∈ C, 0 < c.length ∧ ∀ y ∈ c, y ∈ l ∧ sameN (headW c) y.word h = true
  heads : ∀ (i j : Nat) ci cj, C[i]? = some ci → C[j]? = some cj → sameN (headW ci) (headW cj) h = true → i = j
theorem headW_mem {c : List Nd} (h : 0 < c.length) : ∃ y ∈ c, headW c = y.word := by
  cases c with
  | nil => simp at h
  | cons y r => exact ⟨y, by simp, rfl⟩
theorem headW_snoc {c : List Nd} (x : Nd) (h : 0 < c.length) : headW (c ++ [x]) = headW c := by
  cases c with
  | nil => simp at h
  | cons y r => rfl

theorem Cls.step {h : Int} {l : List Nd} {C : List (List Nd)} {x : Nd} (hh : h ≤ 16) (H : Cls h l C) (hl : ∀ y ∈ l, y.word < 4294967296) (hx : x.word < 4294967296) : Cls h (l ++ [x]) (stepC h C x) := by
  have hw : ∀ c ∈ C, headW c < 4294967296 := fun c hc => by
    obtain ⟨y, hy, he⟩ := headW_mem (H.mem c hc).1
    rw [he]; exact hl y ((H.mem c hc).2 y hy).1
  rcases stepC_cases h C x with ⟨hno, he⟩ | ⟨K, c, hc, hs, he⟩
  · rw [he]
    refine ⟨fun y hy => ?_, fun d hd => ?_, fun i j ci cj hi hj hs => ?_⟩
    · rcases List.mem_append.1 hy with hy | hy
      · obtain ⟨c, hc, hyc⟩ := H.all y hy
        exact ⟨c, List.mem_append_left _ hc, hyc⟩
      · exact ⟨[x], by simp, hy⟩
    · rcases List.mem_append.1 hd with hd | hd
      · exact ⟨(H.mem d hd).1, fun y hy => ⟨List.mem_append_left _ ((H.mem d hd).2 y hy).1, ((H.mem d hd).2 y hy).2⟩⟩
      · rw [List.mem_singleton.1 hd]
        refine ⟨by simp, fun y hy => ?_⟩
        rw [List.mem_singleton.1 hy]
        exact ⟨by simp, sameN_refl _ hh⟩
    · have last : ∀ (i : Nat) ci, (C ++ [[x]])[i]? = some ci → (i < C.length ∧ C[i]? = some ci) ∨ (i = C.length ∧ ci = [x]) := by
        intro i ci hi
        rcases Nat.lt_or_ge i C.length with h | h
        · rw [List.getElem?_append_left h] at hi; exact .inl ⟨h, hi⟩
        · have := (List.getElem?_eq_some_iff.1 hi).1
          simp at this
          obtain rfl : i = C.length := by omega
          simp at hi
          exact .inr ⟨rfl, hi.symm⟩
      rcases last i ci hi with ⟨h1, h2⟩ | ⟨h1, h2⟩ <;> rcases last j cj hj with ⟨h3, h4⟩ | ⟨h3, h4⟩
      · exact H.heads i j ci cj h2 h4 hs
      · rw [h4] at hs
        have := hno ci (List.mem_of_getElem? h2)
        rw [show headW [x] = x.word from rfl, this] at hs
        cases hs
      · rw [h2] at hs
        have := hno cj (List.mem_of_getElem? h4)
        have hs := sameN_symm hs
        rw [show headW [x] = x.word from rfl, this] at hs
        cases hs
      · omega
  · rw [he]
    have hcm := H.mem c (List.mem_of_getElem? hc)
    have hKl := (List.getElem?_eq_some_iff.1 hc).1
    refine ⟨fun y hy => ?_, fun d hd => ?_, fun i j ci cj hi hj hs => ?_⟩
    · rcases List.mem_append.1 hy with hy | hy
      · obtain ⟨d, hd, hyd⟩ := H.all y hy
        obtain ⟨j, hj⟩ := List.mem_iff_getElem?.1 hd
        by_cases hjK : j = K
        · subst hjK
          obtain rfl : c = d := Option.some.inj (hc.symm.trans hj)
          exact ⟨c ++ [x], List.mem_iff_getElem?.2 ⟨j, by rw [List.getElem?_set_self hKl]⟩, List.mem_append_left _ hyd⟩
        · exact ⟨d, List.mem_iff_getElem?.2 ⟨j, by rw [List.getElem?_set_ne (by omega)]; exact hj⟩, hyd⟩
      · exact ⟨c ++ [x], List.mem_iff_getElem?.2 ⟨K, by rw [List.getElem?_set_self hKl]⟩, by rw [List.mem_singleton.1 hy]; simp⟩
    · rcases List.mem_or_eq_of_mem_set hd with hd | rfl
      · exact ⟨(H.mem d hd).1, fun y hy => ⟨List.mem_append_left _ ((H.mem d hd).2 y hy).1, ((H.mem d hd).2 y hy).2⟩⟩
      · refine ⟨by simp, fun y hy => ?_⟩
        rw [headW_snoc x hcm.1]
        rcases List.mem_append.1 hy with hy | hy
        · exact ⟨List.mem_append_left _ (hcm.2 y hy).1, (hcm.2 y hy).2⟩
        · rw [List.mem_singleton.1 hy]; exact ⟨by simp, hs⟩
    · have hd : ∀ (i : Nat) ci, (C.set K (c ++ [x]))[i]? = some ci → ∃ di, C[i]? = some di ∧ headW ci = headW di := by
        intro i ci hi
        by_cases hiK : i = K
        · subst hiK
          rw [List.getElem?_set_self hKl] at hi
          cases hi
          exact ⟨c, hc, headW_snoc x hcm.1⟩
        · rw [List.getElem?_set_ne (by omega)] at hi
          exact ⟨ci, hi, rfl⟩
      obtain ⟨di, h1, h2⟩ := hd i ci hi
      obtain ⟨dj, h3, h4⟩ := hd j cj hj
      rw [h2, h4] at hs
      exact H.heads i j di dj h1 h3 hs

def onesN (c : List Nd) (m : Nat) : Nat := (c.map fun y => bitN y.word m).sum
def partC (m : Nat) (c : List Nd) : Nat := (if 0 < onesN c m then 1 else 0) + (if onesN c m < c.length then 1 else 0)
def partsC (m : Nat) (C : List (List Nd)) : Nat := (C.map (partC m)).sum
def lensC (C : List (List Nd)) : Nat := (C.map List.length).sum
theorem ones_le (c : List Nd) (m : Nat) : onesN c m ≤ c.length := by
  unfold onesN
  induction c with
  | nil => simp
  | cons y r ih => have := bitN_lt y.word m; simp at *; omega
theorem ones_pos (c : List Nd) (m : Nat) : 0 < onesN c m ↔ ∃ y ∈ c, bitN y.word m = 1 := by
  unfold onesN
  induction c with
  | nil => simp
  | cons y r ih =>
    have h := bitN_lt y.word m
    simp only [List.map_cons, List.sum_cons, List.mem_cons, exists_eq_or_imp]
    rw [← ih]
    omega
theorem ones_lt (c : List Nd) (m : Nat) : onesN c m < c.length ↔ ∃ y ∈ c, bitN y.word m = 0 := by
  induction c with
  | nil => simp [onesN]
  | cons y r ih =>
    have h := bitN_lt y.word m
    have h2 := ones_le r m
    have h3 : onesN (y :: r) m = bitN y.word m + onesN r m := by unfold onesN; simp
    rw [h3]
    simp only [List.mem_cons, exists_eq_or_imp, List.length_cons]
    rw [← ih]
    omega
theorem ones_snoc (c : List Nd) (x : Nd) (m : Nat) : onesN (c ++ [x]) m = onesN c m + bitN x.word m := by unfold onesN; simp
theorem part_snoc (c : List Nd) (x : Nd) (m : Nat) : partC m (c ++ [x]) = partC m c + if (∃ y ∈ c, bitN y.word m = bitN x.word m) then 0 else 1 := by
  unfold partC
  rw [ones_snoc, List.length_append, List.length_singleton]
  have hle := ones_le c m
  have hp := ones_pos c m
  have hq := ones_lt c m
  have hb := bitN_lt x.word m
  rcases Nat.lt_or_ge (bitN x.word m) 1 with h0 | h1
  · have hz : bitN x.word m = 0 := by omega
    rw [hz]
    simp only [← hq]
    split <;> split <;> split <;> split <;> omega
  · have hz : bitN x.word m = 1 := by omega
    rw [hz]
    simp only [← hp]
    split <;> split <;> split <;> split <;> omega
theorem part_one (x : Nd) (m : Nat) : partC m [x] = 1 := by
  have hb := bitN_lt x.word m
  unfold partC onesN
  simp
  split <;> split <;> omega
theorem sum_set : ∀ (l : List Nat) (k v u : Nat), l[k]? = some u → (l.set k v).sum + u = l.sum + v
  | [], k, v, u, h => by simp at h
  | y :: r, 0, v, u, h => by simp at h; subst h; simp; omega
  | y :: r, k + 1, v, u, h => by
    have := sum_set r k v u (by simpa using h)
    simp; omega
theorem lensC_step (h : Int) (C : List (List Nd)) (x : Nd) : lensC (stepC h C x) = lensC C + 1 := by
  unfold lensC
  rcases stepC_cases h C x with ⟨_, he⟩ | ⟨K, c, hc, hs, he⟩
  · rw [he]; simp
  · rw [he, List.map_set]
    have := sum_set (C.map List.length) K (c ++ [x]).length c.length (by simp [hc])
    simp at *
    omega
theorem snoc_ind {α : Type} {P : List α → Prop} (h0 : P []) (h1 : ∀ l x, P l → P (l ++ [x])) (l : List α) : P l := by
  have : ∀ l : List α, P l.reverse := by
    intro l
    induction l with
    | nil => exact h0
    | cons x r ih => rw [List.reverse_cons]; exact h1 _ _ ih
  have := this l.reverse
  rwa [List.reverse_reverse] at this
theorem foldC_append (h : Int) (l : List Nd) (x : Nd) : foldC h (l ++ [x]) = stepC h (foldC h l) x := by unfold foldC; rw [List.foldl_append]; rfl

/-- the two levels together -/
theorem split_law (m : Nat) (hm : m < 16) (l : List Nd) (hl : ∀ y ∈ l, y.word < 4294967296) :
    Cls m l (foldC m l) ∧ Cls ((m : Int) + 1) l (foldC ((m : Int) + 1) l) ∧ (foldC ((m : Int) + 1) l).length = partsC m (foldC m l) ∧ lensC (foldC m l) = l.length := by
  induction l using snoc_ind with
  | h0 => exact ⟨⟨by simp, by simp [foldC], by simp [foldC]⟩, ⟨by simp, by simp [foldC], by simp [foldC]⟩, rfl, rfl⟩
  | h1 l x ih =>
    have hl' : ∀ y ∈ l, y.word < 4294967296 := fun y hy => hl y (List.mem_append_left _ hy)
    have hx : x.word < 4294967296 := hl x (by simp)
    obtain ⟨H1, H2, H3, H4⟩ := ih hl'
    rw [foldC_append, foldC_append]
    refine ⟨H1.step (by omega) hl' hx, H2.step (by omega) hl' hx, ?_, by rw [lensC_step, H4]; simp⟩
    generalize foldC (m : Int) l = C at H1 H3 H4
    generalize foldC ((m : Int) + 1) l = D at H2 H3
    have hw1 : ∀ c ∈ C, headW c < 4294967296 := fun c hc => by
      obtain ⟨y, hy, he⟩ := headW_mem (H1.mem c hc).1
      rw [he]; exact hl' y ((H1.mem c hc).2 y hy).1
    have hw2 : ∀ c ∈ D, headW c < 4294967296 := fun c hc => by
      obtain ⟨y, hy, he⟩ := headW_mem (H2.mem c hc).1
      rw [he]; exact hl' y ((H2.mem c hc).2 y hy).1
    -- whether a class of D takes x
    have take : ∀ y ∈ l, sameN y.word x.word m = true → bitN y.word m = bitN x.word m → ∃ d ∈ D, sameN (headW d) x.word ((m : Int) + 1) = true := by
      intro y hy h1 h2
      obtain ⟨d, hd, hyd⟩ := H2.all y hy
      exact ⟨d, hd, sameN_trans (hw2 d hd) (hl' y hy) hx ((H2.mem d hd).2 y hyd).2 ((same_succ (hl' y hy) hx hm).2 ⟨h1, h2⟩)⟩
    have back : ∀ d ∈ D, sameN (headW d) x.word ((m : Int) + 1) = true → ∃ y ∈ l, sameN y.word x.word m = true ∧ bitN y.word m = bitN x.word m := by
      intro d hd hs
      obtain ⟨y, hy, he⟩ := headW_mem (H2.mem d hd).1
      have hyl := ((H2.mem d hd).2 y hy).1
      rw [he] at hs
      exact ⟨y, hyl, (same_succ (hl' y hyl) hx hm).1 hs⟩
    have hD : (stepC ((m : Int) + 1) D x).length = D.length + if (∃ y ∈ l, sameN y.word x.word m = true ∧ bitN y.word m = bitN x.word m) then 0 else 1 := by
      rcases stepC_cases ((m : Int) + 1) D x with ⟨hno, he⟩ | ⟨K, d, hd, hs, he⟩
      · rw [he, if_neg]
        · simp
        · rintro ⟨y, hy, h1, h2⟩
          obtain ⟨d, hd, hs⟩ := take y hy h1 h2
          rw [hno d hd] at hs
          cases hs
      · rw [he, if_pos (back d (List.mem_of_getElem? hd) hs)]
        simp
    rw [hD, H3]
    rcases stepC_cases (m : Int) C x with ⟨hno, he⟩ | ⟨K, c, hc, hs, he⟩
    · rw [he, if_neg]
      · unfold partsC; simp [part_one]
      · rintro ⟨y, hy, h1, _⟩
        obtain ⟨c, hc, hyc⟩ := H1.all y hy
        have := sameN_trans (hw1 c hc) (hl' y hy) hx ((H1.mem c hc).2 y hyc).2 h1
        rw [hno c hc] at this
        cases this
    · have hcC := List.mem_of_getElem? hc
      have hiff : (∃ y ∈ l, sameN y.word x.word m = true ∧ bitN y.word m = bitN x.word m) ↔ ∃ y ∈ c, bitN y.word m = bitN x.word m := by
        constructor
        · rintro ⟨y, hy, h1, h2⟩
          obtain ⟨d, hd, hyd⟩ := H1.all y hy
          obtain ⟨j, hj⟩ := List.mem_iff_getElem?.1 hd
          have hdx := sameN_trans (hw1 d hd) (hl' y hy) hx ((H1.mem d hd).2 y hyd).2 h1
          have hdc := sameN_trans (hw1 d hd) hx (hw1 c hcC) hdx (sameN_symm hs)
          obtain rfl := H1.heads j K d c hj hc hdc
          obtain rfl : c = d := Option.some.inj (hc.symm.trans hj)
          exact ⟨y, hyd, h2⟩
        · rintro ⟨y, hy, h2⟩
          have h3 := (H1.mem c hcC).2 y hy
          exact ⟨y, h3.1, sameN_trans (hl' y h3.1) (hw1 c hcC) hx (sameN_symm h3.2) hs, h2⟩
      rw [he]
      unfold partsC
      rw [List.map_set]
      have := sum_set (C.map (partC m)) K (partC m (c ++ [x])) (partC m c) (by simp [hc])
      rw [part_snoc] at this
      by_cases hex : ∃ y ∈ c, bitN y.word m = bitN x.word m
      · rw [if_pos (hiff.2 hex)]
        rw [part_snoc, if_pos hex] at *
        omega
      · rw [if_neg (fun h => hex (hiff.1 h))]
        rw [part_snoc, if_neg hex] at *
        omega
end Go.Proofs.YtihpaonhonhfoaaDoor

/- How many classes there are does not depend on the order of the nodes. -/
namespace Go.Proofs.YtihpaonhonhfoaaDoor
open Go.RowKit

open Classical in
/-- how many nodes have none behind them in the same class -/
noncomputable def cntN (h : Int) : List Nd → Nat
  | [] => 0
  | x :: l => cntN h l + if ∃ y ∈ l, sameN y.word x.word h = true then 0 else 1
open Classical in
theorem cntN_perm {h : Int} {l l' : List Nd} (hp : l.Perm l') : (∀ y ∈ l, y.word < 4294967296) → cntN h l = cntN h l' := by
  induction hp with
  | nil => intro _; rfl
  | @cons x l1 l2 hp ih =>
    intro hw
    unfold cntN
    rw [ih (fun y hy => hw y (by simp [hy]))]
    congr 1
    have : (∃ y ∈ l1, sameN y.word x.word h = true) ↔ (∃ y ∈ l2, sameN y.word x.word h = true) := ⟨fun ⟨y, hy, k⟩ => ⟨y, hp.mem_iff.1 hy, k⟩, fun ⟨y, hy, k⟩ => ⟨y, hp.mem_iff.2 hy, k⟩⟩
    simp only [this]
  | swap x y l =>
    intro hw
    have hx := hw x (by simp)
    have hy := hw y (by simp)
    have hl : ∀ z ∈ l, z.word < 4294967296 := fun z hz => hw z (by simp [hz])
    unfold cntN
    unfold cntN
    simp only [List.mem_cons, exists_eq_or_imp]
    by_cases s : sameN x.word y.word h = true
    · have s' := sameN_symm s
      have e : (∃ z ∈ l, sameN z.word x.word h = true) ↔ (∃ z ∈ l, sameN z.word y.word h = true) :=
        ⟨fun ⟨z, hz, k⟩ => ⟨z, hz, sameN_trans (hl z hz) hx hy k s⟩, fun ⟨z, hz, k⟩ => ⟨z, hz, sameN_trans (hl z hz) hy hx k s'⟩⟩
      rw [if_pos (Or.inl s), if_pos (Or.inl s')]
      simp only [e]
    · have s' : ¬ sameN y.word x.word h = true := fun k => s (sameN_symm k)
      simp only [s, s', false_or]
      simp only [Bool.false_eq_true, false_or]
      omega
  | trans h1 h2 ih1 ih2 =>
    intro hw
    rw [ih1 hw, ih2 (fun y hy => hw y (h1.mem_iff.2 hy))]
open Classical in
theorem foldC_cnt {h : Int} (hh : h ≤ 16) (l : List Nd) (hl : ∀ y ∈ l, y.word < 4294967296) : Cls h l (foldC h l) ∧ (foldC h l).length = cntN h l.reverse := by
  induction l using snoc_ind with
  | h0 => exact ⟨⟨by simp, by simp [foldC], by simp [foldC]⟩, rfl⟩
  | h1 l x ih =>
    have hl' : ∀ y ∈ l, y.word < 4294967296 := fun y hy => hl y (List.mem_append_left _ hy)
    have hx : x.word < 4294967296 := hl x (by simp)
    obtain ⟨H1, H3⟩ := ih hl'
    rw [foldC_append]
    refine ⟨H1.step hh hl' hx, ?_⟩
    rw [List.reverse_append, List.reverse_singleton, List.singleton_append]
    unfold cntN
    rw [← H3]
    generalize foldC h l = C at H1
    have hw1 : ∀ c ∈ C, headW c < 4294967296 := fun c hc => by
      obtain ⟨y, hy, he⟩ := headW_mem (H1.mem c hc).1
      rw [he]; exact hl' y ((H1.mem c hc).2 y hy).1
    rcases stepC_cases h C x with ⟨hno, he⟩ | ⟨K, d, hd, hs, he⟩
    · rw [he, if_neg]
      · simp
      · rintro ⟨y, hy, h1⟩
        obtain ⟨c, hc, hyc⟩ := H1.all y (List.mem_reverse.1 hy)
        have := sameN_trans (hw1 c hc) (hl' y (List.mem_reverse.1 hy)) hx ((H1.mem c hc).2 y hyc).2 h1
        rw [hno c hc] at this
        cases this
    · rw [he, if_pos]
      · simp
      · have hdC := List.mem_of_getElem? hd
        obtain ⟨y, hy, hye⟩ := headW_mem (H1.mem d hdC).1
        refine ⟨y, List.mem_reverse.2 ((H1.mem d hdC).2 y hy).1, ?_⟩
        rw [← hye]; exact hs
theorem classes_count {h : Int} {l l' : List Nd} (hp : l.Perm l') (hl : ∀ y ∈ l, y.word < 4294967296) : (classesN l h).length = (classesN l' h).length := by
  by_cases h16 : 16 < h
  · rw [classesN_big h16, classesN_big h16]
  · rw [classesN_fold h16, classesN_fold h16, (foldC_cnt (by omega) l hl).2, (foldC_cnt (by omega) l' (fun y hy => hl y (hp.mem_iff.2 hy))).2]
    exact cntN_perm ((l.reverse_perm.trans hp).trans l'.reverse_perm.symm) (fun y hy => hl y (List.mem_reverse.1 hy))
theorem classes_le (l : List Nd) (h : Int) : (classesN l h).length ≤ l.length := by
  by_cases h16 : 16 < h
  · rw [classesN_big h16]; simp
  · rw [classesN_fold h16]; exact foldC_length h l
end Go.Proofs.YtihpaonhonhfoaaDoor

/- Through and Neighbours of the reference. -/
namespace Go.Proofs.YtihpaonhonhfoaaDoor
open Go.RowKit

def idxI (g : List Nd) (id : Int) : Nat := g.findIdx fun x => x.id == id
theorem idxI_of {g : List Nd} {id : Int} {k : Nat} {y : Nd} (hy : g[k]? = some y) (he : y.id = id) (hno : ∀ j z, j < k → g[j]? = some z → z.id ≠ id) : idxI g id = k := by
  have hk := (List.getElem?_eq_some_iff.1 hy).1
  have hv := (List.getElem?_eq_some_iff.1 hy).2
  rw [idxI, List.findIdx_eq hk]
  refine ⟨by rw [hv]; simpa using he, fun j hj => ?_⟩
  have := hno j _ hj (List.getElem?_eq_getElem (by omega))
  simpa using this
theorem idxI_none {g : List Nd} {id : Int} (hno : ∀ j z, j < g.length → g[j]? = some z → z.id ≠ id) : idxI g id = g.length := by
  rw [idxI, List.findIdx_eq_length]
  intro x hx
  obtain ⟨j, hj, he⟩ := List.mem_iff_getElem.1 hx
  have := hno j x hj (by rw [← he]; simp)
  simpa using this
/-- the list of a level through a node, the node's place in it -/
def thrG (l : List Nd) (id : Int) (h : Int) : List Nd := groupN (sortN l) h (findN l id).1.word
def throughN (l : List Nd) (id : Int) (h : Int) : List Nd × Nat × Bool :=
  if (findN l id).2 = true ∧ (checkN l == 0) = true ∧ lvlN h = true ∧ idxI (thrG l id h) id < (thrG l id h).length then (thrG l id h, idxI (thrG l id h) id, true) else ([], 0, false)
def ThPost (r : List Nd × Nat × Bool) (w : World) (e : Ending) (w' : World) : Prop :=
  ∃ (a : Option Addr) (cp : Nat), e = .returned (.tuple #[.slice a r.1.length cp, .int .i64 r.2.1, .bool r.2.2]) ∧ Sl 3 encN w' a r.1.length r.1 ∧ Ex w w'
theorem thPost_none {l : List Nd} {id h : Int} {w w' : World} (hne : throughN l id h = ([], 0, false)) (k : Ex w w') : ThPost (throughN l id h) w (.returned (.tuple #[.slice none 0 0, .int .i64 0, .bool false])) w' := by
  rw [hne]
  exact ⟨none, 0, rfl, Sl.nil _ _ _ _, k⟩
def TgRel (g : List Nd) (id : Int) (w : World) (i : Value) (wr : World) : Prop :=
  ∃ k : Nat, k ≤ g.length ∧ i = .int .i64 k ∧ Ex w wr ∧ ∀ j z, j < k → g[j]? = some z → z.id ≠ id
theorem findN_word {l : List Nd} (hw : ∀ x ∈ l, x.word < 4294967296) (id : Int) : (findN l id).1.word < 4294967296 := by
  unfold findN
  split
  · rename_i x hx
    exact hw x (List.mem_of_find?_eq_some hx)
  · show 0 < _; omega

set_option maxRecDepth 100000 in
set_option maxHeartbeats 2000000 in
theorem through_r (a : Option Addr) (n cp : Nat) (l : List Nd) (id h : Int) (w : World) (hs : Sl 3 encN w a n l) (hn : n ≤ 1000) (hw : ∀ x ∈ l, x.word < 4294967296) :
    Calls Tryd.prog 43 #[.slice a n cp, .int .i64 id, .int .i64 h] w (ThPost (throughN l id h) w) := by
  have HW := Lib.hid (sort_word hw)
  have HX := findN_word hw id
  have HL := Lib.hid hs.len
  clear hw
  go_enter Tryd.func43, Tryd.ntmps43
  go_wp2_with fail
  (with_reducible refine (find_r _ _ _ _ _ _ hs (by omega)).mono ?_)
  rintro e w1 ⟨rfl, k1⟩
  have S1 := hs.nx k1
  obtain ⟨F, hF⟩ : ∃ F, F = findN l id := ⟨_, rfl⟩
  have HF := Lib.hid hF
  rw [← hF] at HX ⊢
  obtain ⟨⟨xi, xk, xw⟩, ok⟩ := F
  have k2 := Ex.new w1 (.cells #[.int .i64 xi, .string xk, .int .u32 xw] 48)
  have B2 := Blk.new w1 [.int .i64 xi, .string xk, .int .u32 xw] 48
  obtain ⟨w2, hw2⟩ : ∃ w2, w2 = w1.alloc (.cells #[.int .i64 xi, .string xk, .int .u32 xw] 48) := ⟨_, rfl⟩
  obtain ⟨g2, hg2⟩ : ∃ g2, g2 = w1.heap.size := ⟨_, rfl⟩
  have B2 : Blk w2 g2 [.int .i64 xi, .string xk, .int .u32 xw] 48 := by rw [hw2, hg2]; exact B2
  rw [← hw2] at k2
  have HW2 := Lib.hid hw2
  have HG2 := Lib.hid hg2
  replace S1 := S1.nx k2
  replace k1 := k1.nx k2
  clear hF hw2 hg2 k2 hs
  simp only [Nd.val]
  go_upto_region 2 with fail
  rw [← HG2.out, ← HW2.out]
  cases ok with
  | false =>
    have HT : Hid (throughN l id h = ([], 0, false)) := Lib.hid (by unfold throughN; rw [if_neg]; rintro ⟨h1, _⟩; rw [← HF.out] at h1; cases h1)
    clear S1 B2
    go_wp2_with fail
    refine bodyPost_ret (v := .tuple #[.slice none 0 0, .int .i64 0, .bool false]) (by simp [results, Tryd.results43, go_sem, *]) rfl (thPost_none HT.out k1)
  | true =>
    go_wp2_with fail
    (with_reducible refine (is_r _ _ _ _ _ S1 (by omega)).mono ?_)
    rintro e w3 ⟨rfl, k3⟩
    replace S1 := S1.nx k3
    replace k1 := k1.nx k3
    replace B2 := B2.nx k3
    clear k3
    cases hc : (checkN l == 0) with
    | false =>
      have HT : Hid (throughN l id h = ([], 0, false)) := Lib.hid (by unfold throughN; rw [if_neg]; rintro ⟨_, h1, _⟩; rw [hc] at h1; cases h1)
      clear S1 B2 hc
      go_wp2_with fail
      refine bodyPost_ret (v := .tuple #[.slice none 0 0, .int .i64 0, .bool false]) (by simp [results, Tryd.results43, go_sem, *]) rfl (thPost_none HT.out k1)
    | true =>
      have HC := Lib.hid hc
      clear hc
      go_wp2_with fail
      refine (level_r h _).mono ?_
      rintro e w4 ⟨rfl, rfl⟩
      cases hl : lvlN h with
      | false =>
        have HT : Hid (throughN l id h = ([], 0, false)) := Lib.hid (by unfold throughN; rw [if_neg]; rintro ⟨_, _, h1, _⟩; rw [hl] at h1; cases h1)
        clear S1 B2 hl
        go_wp2_with fail
        refine bodyPost_ret (v := .tuple #[.slice none 0 0, .int .i64 0, .bool false]) (by simp [results, Tryd.results43, go_sem, *]) rfl (thPost_none HT.out k1)
      | true =>
        have HLV := Lib.hid hl
        clear hl
        go_wp2_with fail
        replace B2 := B2.nx (Ex.refl w3).drew
        refine wp_region_held_drew (S := Ex w3.drew) (by kernel_rfl) (Ex.refl _) (fun hHeld => ?_)
        refine wpAnyH_take (i := 0) (oi := ⟨some 31, .move (.tmp 0), 23, "ref.go:36", #[], none⟩) (v := ?_) rfl (by kernel_rfl) (by kernel_rfl) (by kernel_rfl) (fun _ _ _ h => h) (Or.inl ⟨by rfl, ?hyr1x0⟩) (by assumption) ?restr1x0
        case hyr1x0 => intro wq hSw; (go_simp); (try with_reducible rfl)
        try simp only [Act.put, List.setIfInBounds_toArray, List.set_cons_zero, List.set_cons_succ]
        refine wpAnyH_take (i := 2) (oi := ⟨some 33, .move (.tmp 2), 3, "ref.go:36", #[], none⟩) (v := ?_) rfl (by kernel_rfl) (by kernel_rfl) (by kernel_rfl) (fun _ _ _ h => h) (Or.inl ⟨by rfl, ?hyr1x2⟩) (by assumption) ?restr1x2
        case hyr1x2 => intro wq hSw; (go_simp); (try with_reducible rfl)
        try simp only [Act.put, List.setIfInBounds_toArray, List.set_cons_zero, List.set_cons_succ]
        refine wpAnyH_take (i := 3) (oi := ⟨some 34, .fieldAddr 48 (.tmp 9) 2, 0, "ref.go:36", #[], none⟩) (v := ?_) rfl (by kernel_rfl) (by kernel_rfl) (by kernel_rfl) (fun _ _ _ h => h) (Or.inl ⟨by rfl, ?hyr1x3⟩) (by assumption) ?restr1x3
        case hyr1x3 => intro wq hSw; (go_simp); (try with_reducible rfl)
        try simp only [Act.put, List.setIfInBounds_toArray, List.set_cons_zero, List.set_cons_succ]
        refine wpAnyH_take (i := 4) (oi := ⟨some 35, .load 46 (.tmp 34), 46, "ref.go:36", #[⟨3, .data⟩], none⟩) (v := ?_) rfl (by kernel_rfl) (by kernel_rfl) (by kernel_rfl) (fun _ _ _ h => h) (Or.inl ⟨by rfl, ?hyr1x4⟩) (by assumption) ?restr1x4
        case hyr1x4 => intro wq hSw; (have cq := (B2.nx hSw).cell 2 _ rfl; go_simp); (try with_reducible rfl)
        try simp only [Act.put, List.setIfInBounds_toArray, List.set_cons_zero, List.set_cons_succ]
        refine wpAnyH_ready (rs := [1]) (by kernel_rfl) (by simp) ?_
        refine AllReadyH.cons (o := ⟨some 32, .call { callee := .value (.func 41), args := #[.tmp 31], argTypes := #[23] }, 23, "ref.go:36", #[⟨0, .data⟩], none⟩) rfl (fun K hK => ?_) AllReadyH.nil
        go_simp
        (with_reducible refine (sort_r _ _ _ _ _ (S1.nx (Ex.refl w3).drew) hn).mono ?_)
        rintro e w5 ⟨a5, n5, c5, rfl, r5, k5⟩
        have r5 : Slf 3 encN w3.drew w5 a5 n5 _ := r5
        replace k5 : Ex w3.drew w5 := k5
        replace B2 := B2.nx k5
        have hn5 : n5 ≤ 1000 := by have := r5.len; have := sortN_length l; have := HL.out; omega
        refine hK.out _ _ k5 (fun _ => ?_)
        clear hK K
        try simp only [Act.put, List.setIfInBounds_toArray, List.set_cons_zero, List.set_cons_succ]
        refine wpAnyH_switch (S' := Ex w5) (fun _ hSw => Ex.nx k5 hSw) ?_
        clear hHeld
        have hHeld := Ex.refl w5
        refine wpAnyH_ready (rs := [5]) (by kernel_rfl) (by simp) ?_
        refine AllReadyH.cons (o := ⟨some 36, .call { callee := .value (.func 65), args := #[.tmp 32, .tmp 33, .tmp 35], argTypes := #[23, 3, 46] }, 23, "ref.go:36", #[⟨1, .data⟩, ⟨2, .data⟩, ⟨4, .data⟩, ⟨1, .chain⟩], none⟩) rfl (fun K hK => ?_) AllReadyH.nil
        go_simp
        refine (group_r _ _ _ _ h xw _ r5.sl (fun _ hk => hk) hn5 HW.out HX).mono ?_
        rintro e w6 ⟨a6, n6, c6, rfl, r6, k6⟩
        have r6 : Slf 3 encN w5 w6 a6 n6 _ := r6
        replace k6 : Ex w5 w6 := k6
        refine hK.out _ _ k6 (fun _ => ?_)
        clear hK K
        try simp only [Act.put, List.setIfInBounds_toArray, List.set_cons_zero, List.set_cons_succ]
        refine wpAnyH_switch (S' := Ex w6) (fun _ hSw => Ex.nx k6 hSw) ?_
        clear hHeld
        have hHeld := Ex.refl w6
        refine wpAnyH_take (i := 6) (oi := ⟨some 11, .assign (.tmp 36), 23, "ref.go:36", #[⟨5, .data⟩, ⟨5, .chain⟩, ⟨0, .phase⟩, ⟨1, .phase⟩, ⟨2, .phase⟩, ⟨3, .phase⟩, ⟨4, .phase⟩, ⟨5, .phase⟩], none⟩) (v := ?_) rfl (by kernel_rfl) (by kernel_rfl) (by kernel_rfl) (fun _ _ _ h => h) (Or.inl ⟨by rfl, ?hyr1x6⟩) (by assumption) ?restr1x6
        case hyr1x6 => intro wq hSw; (go_simp); (try with_reducible rfl)
        try simp only [Act.put, List.setIfInBounds_toArray, List.set_cons_zero, List.set_cons_succ]
        refine wpAnyH_done (by kernel_rfl) ?_ _
        have k7 := k1.nx (((Ex.refl w3).drew.nx k5).nx k6)
        have HG : Hid (thrG l id h = groupN (sortN l) h xw) := Lib.hid (by unfold thrG; rw [← HF.out])
        have RG := r6.sl
        clear r5 r6 k5 k6 hn5 S1 B2 k1
        have RG := RG
        have hng := RG.len
        subst hng
        have hgl := groupN_length (sortN l) h xw
        rw [sortN_length] at hgl
        have hgl : (groupN (sortN l) h xw).length ≤ 1000 := by have := HL.out; omega
        generalize groupN (sortN l) h xw = G at RG HG hgl ⊢
        have RG := Lib.hid RG
        go_wp2_with fail
        go_loopw [12] (fun i wr => TgRel G id w6 i wr) (fun i _ => G.length - (intOf i).toNat)
        case atStart => exact ⟨0, by omega, rfl, Ex.refl _, by intro _ _ h; omega⟩
        case round =>
          obtain ⟨k, hk, rfl, kw, hno⟩ := hrel
          have HNO := Lib.hid hno
          obtain ⟨wo, rfl⟩ : ∃ wo : World, wo = wr := ⟨_, rfl⟩
          clear hno
          by_cases hlt : k < G.length
          · obtain ⟨x1, o1, y, rfl, hx1, hy, hc1⟩ := (RG.out.nx kw).at hlt
            have e0 : wo.cell? ⟨x1, o1 + k * 3, none⟩ = some (.int .i64 y.id) := hc1 0 _ rfl
            have HY := Lib.hid hy
            have hlt' := Lib.hid hlt
            clear hy hc1
            by_cases hid : y.id = id
            · have HI : idxI G id = k := idxI_of HY.out hid HNO.out
              have HT : Hid (throughN l id h = (G, k, true)) := Lib.hid (by unfold throughN; rw [HG.out, HI, if_pos]; exact ⟨by rw [← HF.out], HC.out, HLV.out, hlt⟩)
              have d1 : (y.id == id) = true := by simpa using hid
              clear hid HI
              go_wp2_with fail
              refine bodyPost_ret (v := .tuple #[.slice (some ⟨x1, o1, none⟩) G.length c6, .int .i64 k, .bool true]) (by simp [results, Tryd.results43, go_sem, *]) rfl ?_
              rw [HT.out]
              exact ⟨_, _, rfl, RG.out.nx kw, k7.nx kw⟩
            · have d1 : (y.id == id) = false := by simpa using hid
              have HID := Lib.hid hid
              clear hid
              go_wp2_with fail
              refine ⟨⟨k + 1, by omega, by go_num, kw, fun j z hj hz => ?_⟩, by simp [intOf]; omega⟩
              rcases Nat.lt_or_ge j k with h | h
              · exact HNO.out j z h hz
              · obtain rfl : j = k := by omega
                rw [Option.some.inj (hz.symm.trans HY.out)]
                exact HID.out
          · obtain rfl : k = G.length := by omega
            have HT : Hid (throughN l id h = ([], 0, false)) := Lib.hid (by unfold throughN; rw [HG.out, if_neg]; rintro ⟨_, _, _, h1⟩; rw [idxI_none HNO.out] at h1; omega)
            clear hk hlt
            go_wp2_with fail
            refine bodyPost_ret (v := .tuple #[.slice none 0 0, .int .i64 0, .bool false]) (by simp [results, Tryd.results43, go_sem, *]) rfl (thPost_none HT.out (k7.nx kw))

def leftN (g : List Nd) (i : Nat) : Int := if i = 0 then 0 else (g[i - 1]?.getD Nd.zero).id
def rightN (g : List Nd) (i : Nat) : Int := (g[i + 1]?.getD Nd.zero).id
def neighN (l : List Nd) (id : Int) (h : Int) : (Int × Int) × Bool :=
  if (throughN l id h).2.2 then ((leftN (throughN l id h).1 (throughN l id h).2.1, rightN (throughN l id h).1 (throughN l id h).2.1), true) else ((0, 0), false)
theorem throughN_lt {l : List Nd} {id h : Int} (hr : (throughN l id h).2.2 = true) : (throughN l id h).2.1 < (throughN l id h).1.length := by
  unfold throughN at *
  split at hr
  · rename_i hc
    rw [if_pos hc]
    exact hc.2.2.2
  · cases hr
theorem throughN_len (l : List Nd) (id h : Int) : (throughN l id h).1.length ≤ l.length := by
  unfold throughN
  split
  · unfold thrG
    have := groupN_length (sortN l) h (findN l id).1.word
    rw [sortN_length] at this
    exact this
  · simp
theorem idAt {w : World} {a : Option Addr} {n : Nat} {G : List Nd} (h : Sl 3 encN w a n G) {j : Nat} (hj : j < n) : ∃ x o, a = some ⟨x, o, none⟩ ∧ x < w.heap.size ∧ w.cell? ⟨x, o + j * 3, none⟩ = some (.int .i64 (G[j]?.getD Nd.zero).id) := by
  obtain ⟨x, o, y, e, hx, hy, hc⟩ := h.at hj
  exact ⟨x, o, e, hx, by rw [hy]; exact hc 0 _ rfl⟩
def NgPost (r : (Int × Int) × Bool) (w : World) (e : Ending) (w' : World) : Prop :=
  e = .returned (.tuple #[.agg #[.int .i64 r.1.1, .int .i64 r.1.2], .bool r.2]) ∧ Ex w w'

set_option maxRecDepth 100000 in
set_option maxHeartbeats 2000000 in
theorem neigh_r (a : Option Addr) (n cp : Nat) (l : List Nd) (id h : Int) (w : World) (hs : Sl 3 encN w a n l) (hn : n ≤ 1000) (hw : ∀ x ∈ l, x.word < 4294967296) :
    Calls Tryd.prog 18 #[.slice a n cp, .int .i64 id, .int .i64 h] w (NgPost (neighN l id h) w) := by
  have HW := Lib.hid hw
  have HL := Lib.hid hs.len
  have k1 := Ex.new w (.cells #[.int .i64 0, .int .i64 0] 36)
  have B1 := Blk.new w [.int .i64 0, .int .i64 0] 36
  obtain ⟨w1, hw1⟩ : ∃ w1, w1 = w.alloc (.cells #[.int .i64 0, .int .i64 0] 36) := ⟨_, rfl⟩
  obtain ⟨g, hg⟩ : ∃ g, g = w.heap.size := ⟨_, rfl⟩
  have B1 : Blk w1 g [.int .i64 0, .int .i64 0] 36 := by rw [hw1, hg]; exact B1
  rw [← hw1] at k1
  have hgn : w.heap.size ≤ g := by omega
  have HW1 := Lib.hid hw1
  have HG := Lib.hid hg
  have S1 := hs.nx k1
  clear hs hw1 hg hw
  go_enter Tryd.func18, Tryd.ntmps18
  go_upto_region 1 with fail
  rw [← HG.out, ← HW1.out]
  go_wp2_with fail
  (with_reducible refine (through_r _ _ _ _ _ _ _ S1 hn HW.out).mono ?_)
  rintro e w2 ⟨a2, c2, rfl, R2, k2⟩
  have HLT := fun hr => throughN_lt (l := l) (id := id) (h := h) hr
  have HLE := throughN_len l id h
  have HNE : Hid (neighN l id h = if (throughN l id h).2.2 then ((leftN (throughN l id h).1 (throughN l id h).2.1, rightN (throughN l id h).1 (throughN l id h).2.1), true) else ((0, 0), false)) := Lib.hid rfl
  have hle := HL.out
  generalize throughN l id h = r at R2 HLT HLE HNE ⊢
  obtain ⟨G, i, ok⟩ := r
  have kk := k1.nx k2
  have B := B1.nx k2
  have hgl : G.length ≤ 1000 := by have := HLE; simp at this; omega
  clear S1 B1 k1 k2 HLE hle
  simp only
  cases ok with
  | false =>
    have HE : Hid (neighN l id h = ((0, 0), false)) := HNE
    have q0 := B.cell 0 _ rfl
    have q1 := B.cell 1 _ rfl
    have z0 := B.free 0
    have z1 := B.free 1
    clear R2 HLT HNE
    go_wp2_with fail
    refine bodyPost_ret (v := .tuple #[.agg #[.int .i64 0, .int .i64 0], .bool false]) (by simp [results, Tryd.results18, go_sem, *]) rfl ⟨by rw [HE.out], ?_⟩
    exact (kk.setNew (p := ⟨g, 0, none⟩) _ hgn).setNew (p := ⟨g, 1, none⟩) _ hgn
  | true =>
    have hi : i < G.length := HLT rfl
    have HE : Hid (neighN l id h = ((leftN G i, rightN G i), true)) := HNE
    have k3 := Ex.new w2 (.cells #[.int .i64 0, .int .i64 0] 36)
    have B3 := Blk.new w2 [.int .i64 0, .int .i64 0] 36
    obtain ⟨w3, hw3⟩ : ∃ w3, w3 = w2.alloc (.cells #[.int .i64 0, .int .i64 0] 36) := ⟨_, rfl⟩
    obtain ⟨g3, hg3⟩ : ∃ g3, g3 = w2.heap.size := ⟨_, rfl⟩
    have B3 : Blk w3 g3 [.int .i64 0, .int .i64 0] 36 := by rw [hw3, hg3]; exact B3
    rw [← hw3] at k3
    have hgg : g ≠ g3 := by have := B.lt; omega
    have hgn3 : w.heap.size ≤ g3 := by have := kk.size; omega
    have HW3 := Lib.hid hw3
    have HG3 := Lib.hid hg3
    replace B := B.nx k3
    replace kk := kk.nx k3
    have R3 := R2.nx k3
    clear hw3 hg3 k3 R2 HLT HNE
    go_upto_region 5 with fail
    rw [← HG3.out, ← HW3.out]
    -- the left neighbour
    obtain ⟨L, hL⟩ : ∃ L, L = leftN G i := ⟨_, rfl⟩
    obtain ⟨Rr, hR⟩ : ∃ Rr, Rr = rightN G i := ⟨_, rfl⟩
    rw [← hL, ← hR] at HE
    have q0 := B3.cell 0 _ rfl
    have q1 := B3.cell 1 _ rfl
    have z0 := B3.free 0
    have z1 := B3.free 1
    have p0 := B.cell 0 _ rfl
    have p1 := B.cell 1 _ rfl
    have y0 := B.free 0
    have y1 := B.free 1
    have hgg2 : ¬ g = g3 := hgg
    have hgg3 : ¬ g3 = g := fun h => hgg h.symm
    by_cases hi0 : i = 0
    · have hL0 : L = 0 := by rw [hL]; unfold leftN; rw [if_pos hi0]
      subst hL0
      have d0 : ¬ (0 : Int) < (i : Int) := by omega
      by_cases hr : i + 1 < G.length
      · have hR1 : Rr = (G[i + 1]?.getD Nd.zero).id := hR
        obtain ⟨x5, o5, ex, hx5, f5⟩ := idAt R3 (j := i + 1) hr
        subst ex
        rw [← hR1] at f5
        replace f5 : w3.cell? ⟨x5, o5 + 3, none⟩ = some (.int .i64 Rr) := by rw [hi0] at f5; exact f5
        have dr : (i : Int) + 1 < (G.length : Int) := by omega
        clear hL hR R3 hR1
        go_wp2_with fail
        refine bodyPost_ret (v := .tuple #[.agg #[.int .i64 0, .int .i64 Rr], .bool true]) (by simp [results, Tryd.results18, go_sem, *]) rfl ⟨by rw [HE.out], ?_⟩
        repeat (first | exact kk | refine Ex.setNew ?_ _ (by first | exact hgn | exact hgn3))
      · have hR1 : Rr = 0 := by rw [hR]; unfold rightN; rw [List.getElem?_eq_none (by omega)]; rfl
        subst hR1
        have dr : ¬ (i : Int) + 1 < (G.length : Int) := by omega
        clear hL hR R3
        go_wp2_with fail
        refine bodyPost_ret (v := .tuple #[.agg #[.int .i64 0, .int .i64 0], .bool true]) (by simp [results, Tryd.results18, go_sem, *]) rfl ⟨by rw [HE.out], ?_⟩
        repeat (first | exact kk | refine Ex.setNew ?_ _ (by first | exact hgn | exact hgn3))
    · have hL0 : L = (G[i - 1]?.getD Nd.zero).id := by rw [hL]; unfold leftN; rw [if_neg hi0]
      have d0 : (0 : Int) < (i : Int) := by omega
      have hi1 : (i : Int) - 1 = ((i - 1 : Nat) : Int) := by omega
      obtain ⟨x4, o4, rfl, hx4, f4⟩ := idAt R3 (j := i - 1) (by simp only at hi ⊢; omega)
      rw [← hL0] at f4
      clear hL0
      by_cases hr : i + 1 < G.length
      · have hR1 : Rr = (G[i + 1]?.getD Nd.zero).id := hR
        obtain ⟨x5, o5, ex, hx5, f5⟩ := idAt R3 (j := i + 1) hr
        cases ex
        rw [← hR1] at f5
        have dr : (i : Int) + 1 < (G.length : Int) := by omega
        clear hL hR R3 hR1
        go_wp2_with fail
        refine bodyPost_ret (v := .tuple #[.agg #[.int .i64 L, .int .i64 Rr], .bool true]) (by simp [results, Tryd.results18, go_sem, *]) rfl ⟨by rw [HE.out], ?_⟩
        repeat (first | exact kk | refine Ex.setNew ?_ _ (by first | exact hgn | exact hgn3))
      · have hR1 : Rr = 0 := by rw [hR]; unfold rightN; rw [List.getElem?_eq_none (by omega)]; rfl
        subst hR1
        have dr : ¬ (i : Int) + 1 < (G.length : Int) := by omega
        clear hL hR R3
        go_wp2_with fail
        refine bodyPost_ret (v := .tuple #[.agg #[.int .i64 L, .int .i64 0], .bool true]) (by simp [results, Tryd.results18, go_sem, *]) rfl ⟨by rw [HE.out], ?_⟩
        repeat (first | exact kk | refine Ex.setNew ?_ _ (by first | exact hgn | exact hgn3))
end Go.Proofs.YtihpaonhonhfoaaDoor

/- Nodes, and walks over Group of the package word and of its reference. -/
namespace Go.Proofs.YtihpaonhonhfoaaDoor
open Go.RowKit

set_option maxHeartbeats 1000000 in
theorem group_p {S : Nat → Prop} (a : Option Addr) (n cap : Nat) (l : List Nd) (h : Int) (v : Nat) (w : World) (hr : Rd 3 encN S w a n l) (hS : ∀ k, S k → k < w.heap.size) (hn : n ≤ 1000)
    (hw : ∀ x ∈ l, x.word < 4294967296) (hv : v < 4294967296) (hT : TabG w) :
    Calls Tryd.prog 42 #[.slice a n cap, .int .i64 h, .int .u32 v] w (NodesPost (groupN l h v) w) := by
  have hlen := hr.1
  have hlt := hT.lt
  have HT := Lib.hid hT
  have HL := Lib.hid hlen
  have HW := Lib.hid hw
  clear hT hlen hw
  go_enter Tryd.func42, Tryd.ntmps42
  go_wp2
  go_loopw [7, 12] (fun o i wr => GroupRel l h v w o i wr) (fun _ i _ => n - (intOf i).toNat)
  case atStart => exact ⟨0, by omega, rfl, OwnL.nil _ _ _ _ _, Chg.refl _ _⟩
  case round =>
    obtain ⟨k, hk, rfl, hown, hc⟩ := hrel
    obtain ⟨wo, rfl⟩ : ∃ wo : World, wo = wr := ⟨_, rfl⟩
    have hwo := hr.chg hc hS
    have hsz := hc.size
    have HT' := Lib.hid (HT.out.chg hc hlt)
    have hgl := groupN_length (l.take k) h v
    rw [List.length_take] at hgl
    have hkl := HL.out
    by_cases hlt' : k < n
    · obtain ⟨x, o, y, rfl, hx, hy, hcell⟩ := hwo.at hlt'
      have e0 : wo.cell? ⟨x, o + k * 3, none⟩ = some (.int .i64 y.id) := hcell 0 _ rfl
      have e1 : wo.cell? ⟨x, o + k * 3 + 1, none⟩ = some (.string y.key) := hcell 1 _ rfl
      have e2 : wo.cell? ⟨x, o + k * 3 + 1 + 1, none⟩ = some (.int .u32 y.word) := by simpa [Nat.add_assoc] using hcell 2 _ rfl
      have hyw := HW.out y (List.mem_of_getElem? hy)
      have Hy := Lib.hid hy
      have hc1 := hc.alloc (.cells #[.int .i64 y.id, .string y.key, .int .u32 y.word] 48) (by intro k hk; omega)
      have hown1 := hown.alloc (.cells #[.int .i64 y.id, .string y.key, .int .u32 y.word] 48)
      have HT1 := Lib.hid (HT'.out.chg ((Chg.refl (· < wo.heap.size) wo).alloc (.cells #[.int .i64 y.id, .string y.key, .int .u32 y.word] 48) (by simp)) (by omega))
      clear hy hcell hr hwo hkl
      by_cases hs : sameN y.word v h = true
      · go_wp2_with (first
          | (go_at_call 63; refine (same_p _ _ _ _ hyw hv HT1.out).mono ?_; rintro e w1 ⟨rfl, rfl⟩)
          | (at_builtin; go_loud (refine wpList_append_lit (enc := encN) (wo.alloc (.cells #[.int .i64 y.id, .string y.key, .int .u32 y.word] 48)) rfl _ _ 23 rfl w.heap.size 48 (.agg #[.int .i64 0, .string ByteArray.empty, .int .u32 0]) 3 32 Tryd.underlying23 Tryd.infoN rfl (by omega) (by omega) _ _ hown1 rfl y _ rfl rfl (by simp [encN, Value.oneCell']) _ (by simp) rfl (by omega) (by simp; omega) _ ?_); intro v' w3 hown3 _ hch3 hz3))
        go_roundw
        case rel => exact ⟨k + 1, by have := HL.out; omega, by go_num, by rw [groupN_snoc l h v k y Hy.out, if_pos hs]; exact hown3, hc1.then hch3 (fun _ h => h)⟩
        case measure => simp [intOf]; omega
      · have hs : sameN y.word v h = false := by simpa using hs
        go_wp2_with (go_at_call 63; refine (same_p _ _ _ _ hyw hv HT1.out).mono ?_; rintro e w1 ⟨rfl, rfl⟩)
        go_roundw
        case rel => exact ⟨k + 1, by have := HL.out; omega, by go_num, by rw [groupN_snoc l h v k y Hy.out, if_neg (by simp [hs])]; exact hown1, hc1⟩
        case measure => simp [intOf]; omega
    · obtain rfl : k = n := by omega
      rw [List.take_of_length_le (by omega)] at hown
      obtain ⟨a', cap', rfl, hrd, _⟩ := hown.rd (fun _ => rfl)
      clear hown hr hwo
      go_wp2
      go_ret
      exact ⟨a', _, cap', rfl, hrd, hc⟩

/-- the sanity check of the statements -/
theorem groupN_sane : groupN [⟨0, ByteArray.empty, 1⟩, ⟨0, ByteArray.empty, 2⟩] 1 3 = [⟨0, ByteArray.empty, 1⟩] := by
  have h1 : commonN 1 3 = 1 := by decide +kernel
  have h2 : commonN 2 3 = 0 := by decide +kernel
  simp [groupN, sameN, h1, h2]

end Go.Proofs.YtihpaonhonhfoaaDoor

/- ordered and Height of the package ideal. -/
namespace Go.Proofs.YtihpaonhonhfoaaDoor
open Go.RowKit

/-- a sorted list of nodes, and whether they are a roster -/
def OrdPost (l : List Nd) (w : World) (e : Ending) (w' : World) : Prop :=
  ∃ (v : Value) (S : List Nd), e = .returned (.tuple #[v, .bool (checkN l == 0)]) ∧ OwnL 3 encN 48 w.heap.size w' v S ∧ (S.Perm l ∧ (checkN l = 0 → S = sortN l)) ∧ Ex w w'
set_option maxHeartbeats 1000000 in
theorem ordered_p (a : Option Addr) (n c : Nat) (l : List Nd) (w : World) (h : Sl 3 encN w a n l) (hn : n ≤ 1000) (hc : n ≤ c) (hm : c ≤ maxLen) :
    Calls Tryd.prog 39 #[.slice a n c] w (OrdPost l w) := by
  go_enter Tryd.func39, Tryd.ntmps39
  go_wp2_with fail
  (with_reducible refine (sort_p _ _ _ _ _ h hn).mono ?_)
  rintro e w1 ⟨v, S, rfl, own1, ⟨hp, ha⟩, k1⟩
  have h1 := h.nx k1
  have O1 := Lib.hid own1
  have HP := Lib.hid hp
  have HA := Lib.hid ha
  have K1 := Lib.hid k1
  clear h own1 hp ha k1
  go_wp2_with fail
  (with_reducible refine (check_p _ _ _ _ _ h1 (by omega) hc hm).mono ?_)
  rintro e w2 ⟨rfl, k2⟩
  have O2 := Lib.hid (O1.out.nx k2)
  have K2 := Lib.hid (K1.out.nx k2)
  clear h1 k2
  go_wp2_with fail
  go_ret2
  exact ⟨v, S, rfl, O2.out, ⟨HP.out, fun h0 => sortN_unique (check_keys h0) HP.out HA.out⟩, K2.out⟩

def HpRel (l : List Nd) (w : World) (i : Value) (wr : World) : Prop := ∃ k : Nat, k ≤ 16 ∧ i = .int .i64 k ∧ Ex w wr ∧ ∀ j, j < k → (classesN l (j : Nat)).length < l.length
set_option maxHeartbeats 2000000 in
theorem height_p (a : Option Addr) (n c : Nat) (l : List Nd) (w : World) (hs : Sl 3 encN w a n l) (hn : n ≤ 1000) (hc : n ≤ c) (hm : c ≤ maxLen) (hw : ∀ x ∈ l, x.word < 4294967296) (hT : TabG w) :
    Calls Tryd.prog 23 #[.slice a n c] w fun e w' => e = .returned (.int .i64 (heightN l)) ∧ Ex w w' := by
  have HW := Lib.hid hw
  have HL := Lib.hid hs.len
  have HT := Lib.hid hT
  have CNT : ∀ j : Int, (classesN (sortN l) j).length = (classesN l j).length := fun j => classes_count (sortN_perm l) (fun y hy => HW.out y ((sortN_mem l y).1 hy))
  have CNT := Lib.hid CNT
  clear hw hT
  go_enter Tryd.func23, Tryd.ntmps23
  go_wp2_with fail
  (with_reducible refine (check_p _ _ _ _ _ hs (by omega) hc hm).mono ?_)
  rintro e w1 ⟨rfl, k1⟩
  have S1 := hs.nx k1
  clear hs
  by_cases hck : checkN l = 0
  · have HC := Lib.hid hck
    rw [hck]
    clear hck
    have S1 := Lib.hid S1
    have HT1 := Lib.hid (HT.out.nx k1)
    go_wp2_with fail
    go_loopw [7] (fun i wr => HpRel l w1 i wr) (fun i _ => 16 - (intOf i).toNat)
    case atStart => exact ⟨0, by omega, rfl, Ex.refl _, by intro _ h; omega⟩
    case round =>
      obtain ⟨k, hk, rfl, kw, hno⟩ := hrel
      have HNO := Lib.hid hno
      obtain ⟨wo, rfl⟩ : ∃ wo : World, wo = wr := ⟨_, rfl⟩
      clear hno
      by_cases hlt : k < 16
      · have SO := S1.out.nx kw
        have TO := HT1.out.nx kw
        go_wp2_with fail
        (with_reducible refine (classes_p _ _ _ _ _ _ SO hn HW.out TO).mono ?_)
        rintro e w2 ⟨a2, c2, rfl, C2, k2⟩
        replace kw := kw.nx k2
        clear SO C2 TO
        have hle := classes_le l (k : Int)
        by_cases heq : (classesN l (k : Int)).length = l.length
        · have d1 : (((classesN l (k : Int)).length : Int) == (n : Int)) = true := by rw [beq_iff_eq, heq, HL.out]
          have HH : Hid (heightN l = k) := Lib.hid (by
            by_cases h0 : l.length = 0
            · have : k = 0 := by
                rcases Nat.eq_zero_or_pos k with h | h
                · exact h
                · have := HNO.out 0 h; omega
              rw [this]; unfold heightN; rw [if_pos (.inr h0)]
            · exact heightN_of hlt (by rw [HC.out]; rfl) h0 (by rw [CNT.out, heq]; omega) (fun j hj => by rw [CNT.out]; exact HNO.out j hj))
          clear heq hle
          go_wp2_with fail
          go_ret
          exact ⟨by rw [HH.out]; rfl, k1.nx kw⟩
        · have d1 : (((classesN l (k : Int)).length : Int) == (n : Int)) = false := by rw [beq_eq_false_iff_ne, ← HL.out]; omega
          have HM : Hid ((classesN l (k : Int)).length < l.length) := Lib.hid (by omega)
          clear heq hle
          go_wp2_with fail
          refine ⟨⟨k + 1, by omega, by go_num, kw, fun j hj => ?_⟩, by simp [intOf]; omega⟩
          rcases Nat.lt_or_ge j k with h | h
          · exact HNO.out j h
          · obtain rfl : j = k := by omega
            exact HM.out
      · obtain rfl : k = 16 := by omega
        have HH : Hid (heightN l = 16) := Lib.hid (heightN_top (by rw [HC.out]; rfl) (by have := HNO.out 0 (by omega); omega) (fun j hj => by rw [CNT.out]; exact HNO.out j hj))
        have KW := Lib.hid (k1.nx kw)
        clear kw hk hlt
        go_wp2_with fail
        go_ret
        exact ⟨by rw [HH.out]; rfl, KW.out⟩
  · have d1 : (checkN l != 0) = true := by rw [bne_iff_ne]; exact hck
    have HH : Hid (heightN l = 0) := Lib.hid (by unfold heightN; rw [if_pos (.inl (by rw [beq_eq_false_iff_ne]; exact hck))])
    clear S1 hck
    go_wp2_with fail
    go_ret
    exact ⟨by rw [HH.out]; rfl, k1⟩

/-- the neighbours that are found in a list of nodes: the last one before x, the first one behind it -/
def nbStep (x : Nd) (s : Int × Int) (y : Nd) : Int × Int :=
  (if Op.bytesLess y.key.toList x.key.toList then y.id else s.1, if !(Op.bytesLess y.key.toList x.key.toList || y.key.toList == x.key.toList) && s.2 == 0 then y.id else s.2)
def nbFold (x : Nd) (G : List Nd) : Int × Int := G.foldl (nbStep x) (0, 0)
theorem nbFold_snoc (x : Nd) (G : List Nd) (k : Nat) (y : Nd) (hy : G[k]? = some y) : nbFold x (G.take (k + 1)) = nbStep x (nbFold x (G.take k)) y := by
  unfold nbFold
  rw [take_snocN G k y hy, List.foldl_append]
  rfl
end Go.Proofs.YtihpaonhonhfoaaDoor

/- The neighbours of a node in a sorted list, in plain Lean. -/
namespace Go.Proofs.YtihpaonhonhfoaaDoor
open Go.RowKit

/-- strictly ascending by key, with different numbers -/
def AscS (l : List Nd) : Prop := l.Pairwise fun x y => Op.bytesLess x.key.toList y.key.toList = true ∧ x.id ≠ y.id
theorem keys_pw {l : List Nd} (h : KeysN l) : l.Pairwise fun x y => x.key.toList ≠ y.key.toList ∧ x.id ≠ y.id := by
  rw [List.pairwise_iff_getElem]
  intro i j hi hj hij
  have := h j i l[j] l[i] hij (List.getElem?_eq_getElem hj) (List.getElem?_eq_getElem hi)
  refine ⟨fun he => this.1 ?_, fun he => this.2 he.symm⟩
  rw [ByteArray.toList_eq, ByteArray.toList_eq] at he
  exact (ByteArray.ext (Array.toList_inj.1 he)).symm
theorem sortN_str {l : List Nd} (h : checkN l = 0) : AscS (sortN l) := by
  have h1 : (sortN l).Pairwise fun x y => x.key.toList ≠ y.key.toList ∧ x.id ≠ y.id :=
    ((sortN_perm l).symm.pairwise_iff (fun {x y} hxy => ⟨fun he => hxy.1 he.symm, fun he => hxy.2 he.symm⟩)).1 (keys_pw (check_keys h))
  have h2 := sortN_asc l
  unfold AscN at h2
  unfold AscS
  refine (h1.and h2).imp ?_
  rintro x y ⟨⟨a, b⟩, c⟩
  rw [ltN_no] at c
  rcases c with c | ⟨c, _⟩
  · exact ⟨c, b⟩
  · exact absurd c.symm a
theorem asc_group {l : List Nd} (h : AscS l) (lev : Int) (v : Nat) : AscS (groupN l lev v) := List.Pairwise.filter _ h
theorem asc_at {G : List Nd} (h : AscS G) {i j : Nat} {x y : Nd} (hx : G[i]? = some x) (hy : G[j]? = some y) (hij : i < j) : Op.bytesLess x.key.toList y.key.toList = true ∧ x.id ≠ y.id := by
  obtain ⟨hi, e1⟩ := List.getElem?_eq_some_iff.1 hx
  obtain ⟨hj, e2⟩ := List.getElem?_eq_some_iff.1 hy
  have := List.pairwise_iff_getElem.1 h i j hi hj hij
  rwa [e1, e2] at this
theorem idxI_at {G : List Nd} (h : AscS G) {i : Nat} {x : Nd} (hx : G[i]? = some x) : idxI G x.id = i := by
  refine idxI_of hx rfl fun j z hj hz => ?_
  exact (asc_at h hz hx hj).2
theorem step_less {x y : Nd} {s : Int × Int} (h : Op.bytesLess y.key.toList x.key.toList = true) : nbStep x s y = (y.id, s.2) := by unfold nbStep; rw [h]; rfl
theorem step_same (x : Nd) (s : Int × Int) : nbStep x s x = s := by unfold nbStep; simp [bytesLess_irrefl]
theorem step_more {x y : Nd} {s : Int × Int} (h : Op.bytesLess x.key.toList y.key.toList = true) : nbStep x s y = (s.1, if s.2 = 0 then y.id else s.2) := by
  have h1 := bl_asymm h
  have h2 : (y.key.toList == x.key.toList) = false := by
    rw [beq_eq_false_iff_ne]
    intro he
    rw [he, bytesLess_irrefl] at h
    cases h
  unfold nbStep
  rw [h1, h2]
  simp
theorem nbFold_a {G : List Nd} (h : AscS G) {i : Nat} {x : Nd} (hx : G[i]? = some x) : ∀ k, k ≤ i → nbFold x (G.take k) = (leftN G k, 0) := by
  intro k
  induction k with
  | zero => intro _; rfl
  | succ k ih =>
    intro hk
    have hl := (List.getElem?_eq_some_iff.1 hx).1
    obtain ⟨y, hy⟩ : ∃ y, G[k]? = some y := ⟨G[k], List.getElem?_eq_getElem (by omega)⟩
    rw [nbFold_snoc x G k y hy, ih (by omega), step_less (asc_at h hy hx (by omega)).1]
    show ((y.id, 0) : Int × Int) = (leftN G (k + 1), 0)
    unfold leftN
    rw [if_neg (by omega), Nat.add_sub_cancel, hy]
    rfl
theorem nbFold_b {G : List Nd} (h : AscS G) {i : Nat} {x : Nd} (hx : G[i]? = some x) : nbFold x (G.take (i + 1)) = (leftN G i, 0) := by
  rw [nbFold_snoc x G i x hx, nbFold_a h hx i (Nat.le_refl _), step_same]
theorem nbFold_c {G : List Nd} (h : AscS G) (hid : ∀ y ∈ G, 1 ≤ y.id) {i : Nat} {x : Nd} (hx : G[i]? = some x) : ∀ d, i + 2 + d ≤ G.length → nbFold x (G.take (i + 2 + d)) = (leftN G i, rightN G i) := by
  intro d hd
  have hd0 : i + 1 < G.length := by omega
  obtain ⟨z, hz⟩ : ∃ z, G[i + 1]? = some z := ⟨G[i + 1], List.getElem?_eq_getElem hd0⟩
  have hz1 := hid z (List.mem_of_getElem? hz)
  have hr : rightN G i = z.id := by unfold rightN; rw [hz]; rfl
  induction d with
  | zero =>
    rw [Nat.add_zero, show i + 2 = i + 1 + 1 from rfl, nbFold_snoc x G (i + 1) z hz, nbFold_b h hx, step_more (asc_at h hx hz (by omega)).1, hr]
    rfl
  | succ d ih =>
    obtain ⟨y, hy⟩ : ∃ y, G[i + 2 + d]? = some y := ⟨G[i + 2 + d]'(by omega), List.getElem?_eq_getElem (by omega)⟩
    rw [← Nat.add_assoc, nbFold_snoc x G (i + 2 + d) y hy, ih (by omega), step_more (asc_at h hx hy (by omega)).1]
    show (leftN G i, if rightN G i = 0 then y.id else rightN G i) = _
    rw [if_neg (by rw [hr]; omega)]
theorem nbFold_all {G : List Nd} (h : AscS G) (hid : ∀ y ∈ G, 1 ≤ y.id) {i : Nat} {x : Nd} (hx : G[i]? = some x) : nbFold x G = (leftN G i, rightN G i) := by
  have hl := (List.getElem?_eq_some_iff.1 hx).1
  rcases Nat.lt_or_ge (i + 1) G.length with h1 | h1
  · have := nbFold_c h hid hx (G.length - (i + 2)) (by omega)
    rwa [show i + 2 + (G.length - (i + 2)) = G.length by omega, List.take_length] at this
  · have := nbFold_b h hx
    rw [show i + 1 = G.length by omega, List.take_length] at this
    rw [this]
    have : rightN G i = 0 := by unfold rightN; rw [List.getElem?_eq_none h1]; rfl
    rw [this]
/-- the neighbours by the definition of the reference -/
theorem neighN_no {l : List Nd} {id h : Int} (hno : checkN l ≠ 0 ∨ (findN l id).2 = false ∨ lvlN h = false) : neighN l id h = ((0, 0), false) := by
  have ht : throughN l id h = ([], 0, false) := by
    unfold throughN
    rw [if_neg]
    rintro ⟨h1, h2, h3, _⟩
    rcases hno with h | h | h
    · exact h (by simpa using h2)
    · rw [h1] at h; cases h
    · rw [h3] at h; cases h
  unfold neighN
  rw [ht]
  rfl
theorem findN_mem {l : List Nd} {id : Int} (h : (findN l id).2 = true) : (findN l id).1 ∈ l ∧ (findN l id).1.id = id := by
  unfold findN at *
  cases e : l.find? (fun x => x.id == id) with
  | none => rw [e] at h; cases h
  | some x =>
    exact ⟨List.mem_of_find?_eq_some e, by simpa using List.find?_some e⟩
theorem neighN_yes {l : List Nd} {id h : Int} (h1 : checkN l = 0) (h2 : (findN l id).2 = true) (h3 : lvlN h = true) :
    ∃ i, (thrG l id h)[i]? = some (findN l id).1 ∧ throughN l id h = (thrG l id h, i, true) ∧ neighN l id h = ((leftN (thrG l id h) i, rightN (thrG l id h) i), true) := by
  obtain ⟨m1, m2⟩ := findN_mem h2
  have hA : AscS (thrG l id h) := asc_group (sortN_str h1) h _
  have hm : (findN l id).1 ∈ thrG l id h := by
    unfold thrG groupN
    rw [List.mem_filter]
    exact ⟨(sortN_mem l _).2 m1, sameN_refl _ (by unfold lvlN at h3; simp at h3; exact h3.2)⟩
  obtain ⟨i, hi⟩ := List.mem_iff_getElem?.1 hm
  have hid := idxI_at hA hi
  rw [m2] at hid
  have hlt := (List.getElem?_eq_some_iff.1 hi).1
  have ht : throughN l id h = (thrG l id h, i, true) := by
    unfold throughN
    rw [if_pos ⟨h2, by rw [h1]; rfl, h3, by rw [hid]; exact hlt⟩, hid]
  refine ⟨i, hi, ht, ?_⟩
  unfold neighN
  rw [ht]
  rfl
theorem nbFold_neigh {l : List Nd} {id h : Int} (h1 : checkN l = 0) (h2 : (findN l id).2 = true) (h3 : lvlN h = true) : neighN l id h = (nbFold (findN l id).1 (thrG l id h), true) := by
  obtain ⟨i, hi, _, hn⟩ := neighN_yes h1 h2 h3
  have hA : AscS (thrG l id h) := asc_group (sortN_str h1) h _
  have hid : ∀ y ∈ thrG l id h, 1 ≤ y.id := fun y hy => by
    unfold thrG groupN at hy
    have := (sortN_mem l y).1 (List.mem_filter.1 hy).1
    unfold checkN at h1
    split at h1
    · omega
    · split at h1
      · omega
      · rename_i hb
        have hb : badN y = false := by
          cases hy2 : badN y with
          | false => rfl
          | true => exact absurd (List.any_eq_true.2 ⟨y, this, hy2⟩) hb
        unfold badN at hb
        simp only [Bool.or_eq_false_iff, decide_eq_false_iff_not] at hb
        omega
  rw [hn, nbFold_all hA hid hi]
end Go.Proofs.YtihpaonhonhfoaaDoor

/- Neighbours of the package ideal. -/
namespace Go.Proofs.YtihpaonhonhfoaaDoor
open Go.RowKit

def NiRel (x : Nd) (G : List Nd) (g12 : Nat) (w : World) (i : Value) (wr : World) : Prop :=
  ∃ k : Nat, k ≤ G.length ∧ i = .int .i64 k ∧ Exb g12 w wr ∧ Blk wr g12 [.int .i64 (nbFold x (G.take k)).1, .int .i64 (nbFold x (G.take k)).2] 36
theorem ng_no {l : List Nd} {id h : Int} {w w' : World} (hno : neighN l id h = ((0, 0), false)) (k : Ex w w') : NgPost (neighN l id h) w (.returned (.tuple #[.agg #[.int .i64 0, .int .i64 0], .bool false])) w' := by
  rw [hno]; exact ⟨rfl, k⟩
theorem ng_yes {l : List Nd} {id h : Int} {x : Nd} {G : List Nd} {w w' : World} (hy : neighN l id h = (nbFold x G, true)) (k : Ex w w') : NgPost (neighN l id h) w (.returned (.tuple #[.agg #[.int .i64 (nbFold x G).1, .int .i64 (nbFold x G).2], .bool true])) w' := by
  rw [hy]; exact ⟨rfl, k⟩
theorem OwnL.sl3 {sz e base : Nat} {α : Type} {enc : α → List Value} {w : World} {v : Value} {l : List α} (h : OwnL sz enc e base w v l) (hsz : ∀ y, (enc y).length = sz) : ∃ a cap, v = .slice a l.length cap ∧ Sl sz enc w a l.length l ∧ l.length ≤ cap ∧ cap ≤ maxLen := by
  obtain ⟨a, cap, e, h1, h2, h3, _⟩ := h.rd hsz
  exact ⟨a, cap, e, h1.mono (fun _ hk => hk.2), h2, h3⟩

set_option maxRecDepth 100000 in
set_option maxHeartbeats 2000000 in
theorem neigh_p (a : Option Addr) (n c : Nat) (l : List Nd) (id h : Int) (w : World) (hs : Sl 3 encN w a n l) (hn : n ≤ 1000) (hc : n ≤ c) (hm : c ≤ maxLen) (hw : ∀ x ∈ l, x.word < 4294967296) (hT : TabG w) :
    Calls Tryd.prog 17 #[.slice a n c, .int .i64 id, .int .i64 h] w (NgPost (neighN l id h) w) := by
  have HW := Lib.hid hw
  have HXW := findN_word hw id
  have HL := Lib.hid hs.len
  have k1 := Ex.new w (.cells #[.int .i64 0, .int .i64 0] 36)
  have B1 := Blk.new w [.int .i64 0, .int .i64 0] 36
  obtain ⟨w1, hw1⟩ : ∃ w1, w1 = w.alloc (.cells #[.int .i64 0, .int .i64 0] 36) := ⟨_, rfl⟩
  obtain ⟨g, hg⟩ : ∃ g, g = w.heap.size := ⟨_, rfl⟩
  have B1 : Blk w1 g [.int .i64 0, .int .i64 0] 36 := by rw [hw1, hg]; exact B1
  rw [← hw1] at k1
  have hgn : w.heap.size ≤ g := by omega
  have HW1 := Lib.hid hw1
  have HG := Lib.hid hg
  have S1 := hs.nx k1
  have HT := Lib.hid (hT.nx k1)
  clear hs hw1 hg hw hT
  go_enter Tryd.func17, Tryd.ntmps17
  go_upto_region 1 with fail
  rw [← HG.out, ← HW1.out]
  go_wp2_with fail
  (with_reducible refine (ordered_p _ _ _ _ _ S1 hn hc hm).mono ?_)
  rintro e w2 ⟨v, S, rfl, OS, ⟨hp, hsrt⟩, k2⟩
  have SL := Lib.hid hp.length_eq
  have HSR := Lib.hid hsrt
  have SW : Hid (∀ x ∈ S, x.word < 4294967296) := Lib.hid (fun x hx => HW.out x (hp.mem_iff.1 hx))
  replace S1 := S1.nx k2
  replace B1 := B1.nx k2
  replace HT := Lib.hid (HT.out.nx k2)
  replace k1 := k1.nx k2
  have OS := Lib.hid OS
  clear hp hsrt k2
  go_wp2_with fail
  (with_reducible refine (find_p _ _ _ _ _ _ S1 (by omega)).mono ?_)
  rintro e w3 ⟨rfl, k3⟩
  obtain ⟨F, hF⟩ : ∃ F, F = findN l id := ⟨_, rfl⟩
  have HF := Lib.hid hF
  rw [← hF] at HXW ⊢
  obtain ⟨⟨xi, xk, xw⟩, ok⟩ := F
  have k4 := Ex.new w3 (.cells #[.int .i64 xi, .string xk, .int .u32 xw] 48)
  have B2 := Blk.new w3 [.int .i64 xi, .string xk, .int .u32 xw] 48
  obtain ⟨w4, hw4⟩ : ∃ w4, w4 = w3.alloc (.cells #[.int .i64 xi, .string xk, .int .u32 xw] 48) := ⟨_, rfl⟩
  obtain ⟨g2, hg2⟩ : ∃ g2, g2 = w3.heap.size := ⟨_, rfl⟩
  have B2 : Blk w4 g2 [.int .i64 xi, .string xk, .int .u32 xw] 48 := by rw [hw4, hg2]; exact B2
  rw [← hw4] at k4
  have HW4 := Lib.hid hw4
  have HG2 := Lib.hid hg2
  replace k3 := k3.nx k4
  replace OS := Lib.hid (OS.out.nx k3)
  replace B1 := B1.nx k3
  replace HT := Lib.hid (HT.out.nx k3)
  replace k1 := k1.nx k3
  clear hF hw4 hg2 k4 k3 S1
  simp only [Nd.val]
  go_upto_region 3 with fail
  rw [← HG2.out, ← HW4.out]
  by_cases hck : checkN l = 0
  case neg =>
    have HNO : Hid (neighN l id h = ((0, 0), false)) := Lib.hid (neighN_no (.inl hck))
    have d1 : (checkN l == 0) = false := by simpa using hck
    rw [d1]
    have q0 := B1.cell 0 _ rfl
    have q1 := B1.cell 1 _ rfl
    have z0 := B1.free 0
    have z1 := B1.free 1
    clear hck d1 B2
    go_wp2_with fail
    refine bodyPost_ret (v := .tuple #[.agg #[.int .i64 0, .int .i64 0], .bool false]) (by simp [results, Tryd.results17, go_sem, *]) rfl (ng_no HNO.out ?_)
    exact (k1.setNew (p := ⟨g, 0, none⟩) _ hgn).setNew (p := ⟨g, 1, none⟩) _ hgn
  have HCK := Lib.hid hck
  have d1 : (checkN l == 0) = true := by simpa using hck
  rw [d1]
  clear hck d1
  cases ok with
  | false =>
    have HNO : Hid (neighN l id h = ((0, 0), false)) := Lib.hid (neighN_no (.inr (.inl (by rw [← HF.out]))))
    have q0 := B1.cell 0 _ rfl
    have q1 := B1.cell 1 _ rfl
    have z0 := B1.free 0
    have z1 := B1.free 1
    clear B2
    go_wp2_with fail
    refine bodyPost_ret (v := .tuple #[.agg #[.int .i64 0, .int .i64 0], .bool false]) (by simp [results, Tryd.results17, go_sem, *]) rfl (ng_no HNO.out ?_)
    exact (k1.setNew (p := ⟨g, 0, none⟩) _ hgn).setNew (p := ⟨g, 1, none⟩) _ hgn
  | true =>
    by_cases hlo : h < 0
    · have HNO : Hid (neighN l id h = ((0, 0), false)) := Lib.hid (neighN_no (.inr (.inr (by unfold lvlN; simp; omega))))
      have q0 := B1.cell 0 _ rfl
      have q1 := B1.cell 1 _ rfl
      have z0 := B1.free 0
      have z1 := B1.free 1
      clear B2
      go_wp2_with fail
      refine bodyPost_ret (v := .tuple #[.agg #[.int .i64 0, .int .i64 0], .bool false]) (by simp [results, Tryd.results17, go_sem, *]) rfl (ng_no HNO.out ?_)
      exact (k1.setNew (p := ⟨g, 0, none⟩) _ hgn).setNew (p := ⟨g, 1, none⟩) _ hgn
    · by_cases hhi : 16 < h
      · have HNO : Hid (neighN l id h = ((0, 0), false)) := Lib.hid (neighN_no (.inr (.inr (by unfold lvlN; simp; omega))))
        have q0 := B1.cell 0 _ rfl
        have q1 := B1.cell 1 _ rfl
        have z0 := B1.free 0
        have z1 := B1.free 1
        clear B2
        go_wp2_with fail
        refine bodyPost_ret (v := .tuple #[.agg #[.int .i64 0, .int .i64 0], .bool false]) (by simp [results, Tryd.results17, go_sem, *]) rfl (ng_no HNO.out ?_)
        exact (k1.setNew (p := ⟨g, 0, none⟩) _ hgn).setNew (p := ⟨g, 1, none⟩) _ hgn
      · have HYES : Hid (neighN l id h = (nbFold ⟨xi, xk, xw⟩ (groupN S h xw), true)) := Lib.hid (by
          have := nbFold_neigh (l := l) (id := id) (h := h) HCK.out (by rw [← HF.out]) (by unfold lvlN; simp; omega)
          unfold thrG at this
          rw [← HF.out, ← HSR.out HCK.out] at this
          exact this)
        have k5 := Ex.new w4 (.cells #[.int .i64 0, .int .i64 0] 36)
        have B3 := Blk.new w4 [.int .i64 0, .int .i64 0] 36
        obtain ⟨w5, hw5⟩ : ∃ w5, w5 = w4.alloc (.cells #[.int .i64 0, .int .i64 0] 36) := ⟨_, rfl⟩
        obtain ⟨g3, hg3⟩ : ∃ g3, g3 = w4.heap.size := ⟨_, rfl⟩
        have B3 : Blk w5 g3 [.int .i64 0, .int .i64 0] 36 := by rw [hw5, hg3]; exact B3
        rw [← hw5] at k5
        have h13 : g ≠ g3 := by have := B1.lt; omega
        have h23 : g2 ≠ g3 := by have := B2.lt; omega
        have hgn3 : w.heap.size ≤ g3 := by have := k1.size; omega
        have HW5 := Lib.hid hw5
        have HG3 := Lib.hid hg3
        replace OS := OS.out.nx k5
        replace B1 := B1.nx k5
        replace B2 := B2.nx k5
        replace HT := Lib.hid (HT.out.nx k5)
        replace k1 := k1.nx k5
        obtain ⟨aS, cS, rfl, sS, _, _⟩ := OS.sl3 (fun _ => rfl)
        have b22 := B2.cell 2 _ rfl
        have hnS : S.length ≤ 1000 := by have := HL.out; have := SL.out; omega
        clear hw5 hg3 k5
        go_upto_region 6 with fail
        rw [← HG3.out, ← HW5.out]
        clear OS
        have sS : Rd 3 encN (· < w5.heap.size) w5 aS S.length S := sS
        go_wp2_with fail
        (with_reducible refine (group_p _ _ _ _ _ _ _ sS (fun _ hk => hk) hnS SW.out HXW HT.out).mono ?_)
        rintro e w6 ⟨a6, n6, c6, rfl, r6, k6⟩
        have r6 : Slf 3 encN w5 w6 a6 n6 _ := r6
        replace k6 : Ex w5 w6 := k6
        have hgl := groupN_length S h xw
        generalize groupN S h xw = G at r6 HYES hgl ⊢
        have RG := Lib.hid (r6.slb B3.lt)
        have hng := r6.len
        subst hng
        replace B1 := B1.nx k6
        replace B2 := Lib.hid (B2.nx k6)
        replace B3 := B3.nx k6
        replace k1 := k1.nx k6
        have B1 := Lib.hid B1
        clear r6 k6 sS b22
        have hG6 : G.length ≤ 1000 := by omega
        go_wp2_with fail
        go_loopw [47] (fun i wr => NiRel ⟨xi, xk, xw⟩ G g3 w6 i wr) (fun i _ => G.length - (intOf i).toNat)
        case atStart => exact ⟨0, by omega, rfl, Exb.refl _ _, B3⟩
        case round =>
          obtain ⟨k, hk, rfl, kw, B3⟩ := hrel
          obtain ⟨wo, rfl⟩ : ∃ wo : World, wo = wr := ⟨_, rfl⟩
          by_cases hlt : k < G.length
          · obtain ⟨x1, o1, y, rfl, hx1, hy, hc1⟩ := ((RG.out.nxb kw).sl).at hlt
            obtain ⟨yi, yk, yw⟩ := y
            have e0 : wo.cell? ⟨x1, o1 + k * 3, none⟩ = some (.int .i64 yi) := hc1 0 _ rfl
            have e1 : wo.cell? ⟨x1, o1 + k * 3 + 1, none⟩ = some (.string yk) := hc1 1 _ rfl
            have e2 : wo.cell? ⟨x1, o1 + k * 3 + 2, none⟩ = some (.int .u32 yw) := hc1 2 _ rfl
            have e2' : wo.cell? ⟨x1, o1 + k * 3 + 1 + 1, none⟩ = some (.int .u32 yw) := e2
            have FS : Hid (nbFold ⟨xi, xk, xw⟩ (G.take (k + 1)) = nbStep ⟨xi, xk, xw⟩ (nbFold ⟨xi, xk, xw⟩ (G.take k)) ⟨yi, yk, yw⟩) := Lib.hid (nbFold_snoc _ _ _ _ hy)
            clear hy hc1
            obtain ⟨FF, hFF⟩ : ∃ FF, FF = nbFold ⟨xi, xk, xw⟩ (G.take k) := ⟨_, rfl⟩
            rw [← hFF] at B3 FS
            clear hFF
            obtain ⟨f1, f2⟩ := FF
            have k7 := Ex.new wo (.cells #[.int .i64 yi, .string yk, .int .u32 yw] 48)
            have B4 := Blk.new wo [.int .i64 yi, .string yk, .int .u32 yw] 48
            obtain ⟨w7, hw7⟩ : ∃ w7, w7 = wo.alloc (.cells #[.int .i64 yi, .string yk, .int .u32 yw] 48) := ⟨_, rfl⟩
            obtain ⟨g4, hg4⟩ : ∃ g4, g4 = wo.heap.size := ⟨_, rfl⟩
            have B4 : Blk w7 g4 [.int .i64 yi, .string yk, .int .u32 yw] 48 := by rw [hw7, hg4]; exact B4
            rw [← hw7] at k7
            have h34 : g3 ≠ g4 := by have := B3.lt; omega
            have HW7 := Lib.hid hw7
            have HG4 := Lib.hid hg4
            have B3 := B3.nx k7
            have kw := kw.nxb (k7.b g3)
            have B2' := B2.out.nxb h23 kw
            clear hw7 hg4 k7
            go_upto_region 9 with fail
            rw [← HG4.out, ← HW7.out]
            clear e0 e1 e2 e2'
            have p1 := B2'.cell 1 _ rfl
            have y0 := B4.cell 0 _ rfl
            have y1 := B4.cell 1 _ rfl
            have t0 := B3.cell 0 _ rfl
            have t1 := B3.cell 1 _ rfl
            have z0 := B3.free 0
            have z1 := B3.free 1
            cases hb : Op.bytesLess yk.toList xk.toList with
            | true =>
              have FS' : Hid (nbFold ⟨xi, xk, xw⟩ (G.take (k + 1)) = (yi, f2)) := Lib.hid (by rw [FS.out]; exact step_less hb)
              have B3' := B3.set 0 (.int .i64 yi)
              clear B2' B4 B3
              go_wp2_with fail
              refine ⟨⟨k + 1, by omega, by go_num, kw.setB _ rfl, ?_⟩, by simp [intOf]; omega⟩
              rw [FS'.out]; exact B3'
            | false =>
              cases he : (yk.toList == xk.toList) with
              | true =>
                have FS' : Hid (nbFold ⟨xi, xk, xw⟩ (G.take (k + 1)) = (f1, f2)) := Lib.hid (by rw [FS.out]; unfold nbStep; simp [hb, he])
                have B3' := Lib.hid B3
                clear B2' B4 B3
                go_wp2_with fail
                refine ⟨⟨k + 1, by omega, by go_num, kw, ?_⟩, by simp [intOf]; omega⟩
                rw [FS'.out]; exact B3'.out
              | false =>
                by_cases h0 : f2 = 0
                · have FS' : Hid (nbFold ⟨xi, xk, xw⟩ (G.take (k + 1)) = (f1, yi)) := Lib.hid (by rw [FS.out]; unfold nbStep; simp [hb, he, h0])
                  have B3' := B3.set 1 (.int .i64 yi)
                  subst h0
                  clear B2' B4 B3
                  go_wp2_with fail
                  refine ⟨⟨k + 1, by omega, by go_num, kw.setB _ rfl, ?_⟩, by simp [intOf]; omega⟩
                  rw [FS'.out]; exact B3'
                · have FS' : Hid (nbFold ⟨xi, xk, xw⟩ (G.take (k + 1)) = (f1, f2)) := Lib.hid (by rw [FS.out]; unfold nbStep; simp [hb, he, h0])
                  have d0 : (f2 == 0) = false := by simpa using h0
                  have B3' := Lib.hid B3
                  clear B2' B4 B3
                  go_wp2_with fail
                  refine ⟨⟨k + 1, by omega, by go_num, kw, ?_⟩, by simp [intOf]; omega⟩
                  rw [FS'.out]; exact B3'.out
          · obtain rfl : k = G.length := by omega
            rw [List.take_length] at B3
            have B1' := B1.out.nxb h13 kw
            have kw' := k1.nx (Ex.refl _)
            have KK : Ex w wo := (Chg.trans k1 (Chg.mono kw (fun q (hq : q < w.heap.size) => ⟨Nat.lt_of_lt_of_le hq k1.size, by omega⟩)))
            obtain ⟨FF, hFF⟩ : ∃ FF, FF = nbFold ⟨xi, xk, xw⟩ G := ⟨_, rfl⟩
            rw [← hFF] at B3
            have HYES' : Hid (neighN l id h = (FF, true)) := Lib.hid (by rw [HYES.out, hFF])
            clear hFF HYES
            obtain ⟨f1, f2⟩ := FF
            have t0 := B3.cell 0 _ rfl
            have t1 := B3.cell 1 _ rfl
            have q0 := B1'.cell 0 _ rfl
            have q1 := B1'.cell 1 _ rfl
            have z0 := B1'.free 0
            have z1 := B1'.free 1
            clear B1' B3 hk hlt kw'
            have h13' : ¬ g = g3 := h13
            go_wp2_with fail
            refine bodyPost_ret (v := .tuple #[.agg #[.int .i64 f1, .int .i64 f2], .bool true]) (by simp [results, Tryd.results17, go_sem, *]) rfl ⟨by rw [HYES'.out], ?_⟩
            exact (KK.setNew (p := ⟨g, 0, none⟩) _ hgn).setNew (p := ⟨g, 1, none⟩) _ hgn
end Go.Proofs.YtihpaonhonhfoaaDoor

/- What a call does to lists of its own whose elements hold a list each. -/
namespace Go.Proofs.YtihpaonhonhfoaaDoor
open Go.RowKit

section
variable {A β : Type} {encA : A → List Value} {p s2 : Nat} {encB : β → List Value} {e1 e2 : TypeId} {base : Nat} {w w' : World} {v v' : Value} {qs : List (A × Hdr)} {L : List (A × List β)}
theorem OwnN.get (h : OwnN encA (p + 1) s2 encB e1 e2 base w v qs L) {k : Nat} {c : A × List β} (hc : L[k]? = some c) : ∃ hd : Hdr, qs[k]? = some (c.1, hd) ∧ OwnL s2 encB e2 base w hd.val c.2 := by
  obtain ⟨q, hq⟩ : ∃ q, qs[k]? = some q := ⟨qs[k]'(by have := (List.getElem?_eq_some_iff.1 hc).1; have := h.2.1; omega), by simp⟩
  obtain ⟨r1, r2⟩ := h.2.2.1 k q c hq hc
  exact ⟨q.2, by rw [hq, ← r1], r2⟩
/-- one list is put anew: in memory alone -/
theorem OwnN.mod (hne : e1 ≠ e2) (h : OwnN encA (p + 1) s2 encB e1 e2 base w v qs L) {k : Nat} {a : A} {hd hd' : Hdr} {c' : List β} (hq : qs[k]? = some (a, hd)) (ho : OwnL s2 encB e2 base w' hd'.val c')
    (kk : Chg (fun x => x < w.heap.size ∧ ¬ hd.val.ownBlock = some x) w w') (hat : hd'.val.ownBlock = hd.val.ownBlock ∨ ∀ x, hd'.val.ownBlock = some x → w.heap.size ≤ x) :
    OwnW (p + 1) (encP encA) e1 base w' v qs ∧ (∀ (j : Nat) (q : A × Hdr) (c : A × List β), j ≠ k → qs[j]? = some q → L[j]? = some c → q.1 = c.1 ∧ OwnL s2 encB e2 base w' q.2.val c.2) ∧
      (∀ x, hd'.val.ownBlock = some x → ¬ v.ownBlock = some x) ∧ ∀ (j : Nat) (q : A × Hdr) (x : Nat), j ≠ k → qs[j]? = some q → q.2.val.ownBlock = some x → ¬ hd'.val.ownBlock = some x := by
  have ho1 : OwnW (p + 1) (encP encA) e1 base w' v qs := h.1.chg kk (fun x hx hv => ⟨hx, fun hh => h.ne hne hq hh hv⟩)
  refine ⟨ho1, fun j q c hjk hr hc => ?_, fun x hx hv => ?_, fun j q x hjk hr hx hy => ?_⟩
  · obtain ⟨r1, r2⟩ := h.2.2.1 j q c hr hc
    exact ⟨r1, r2.chg kk (fun x hx hv => ⟨hx, fun hh => hjk (h.2.2.2 j k q (a, hd) x hr hq hv hh)⟩)⟩
  · obtain ⟨_, cur, h1⟩ := ho.blk hx
    obtain ⟨_, cur', h2⟩ := ho1.blk hv
    rw [h1] at h2
    simp at h2
    exact hne h2.2.symm
  · rcases hat with h1 | h1
    · exact hjk (h.2.2.2 j k q (a, hd) x hr hq hx (h1 ▸ hy))
    · have := h.lt hr hx
      have := h1 x hy
      omega
/-- .. and its head is stored -/
theorem OwnN.put (hA : ∀ y, (encA y).length = p) (hne : e1 ≠ e2) {g n cap : Nat} (h : OwnN encA (p + 1) s2 encB e1 e2 base w (.slice (some ⟨g, 0, none⟩) n cap) qs L) {k : Nat} {a : A} {hd hd' : Hdr} {c' : List β} (hq : qs[k]? = some (a, hd))
    (ho : OwnL s2 encB e2 base w' hd'.val c') (kk : Chg (fun x => x < w.heap.size ∧ ¬ hd.val.ownBlock = some x) w w') (hat : hd'.val.ownBlock = hd.val.ownBlock ∨ ∀ x, hd'.val.ownBlock = some x → w.heap.size ≤ x) :
    w'.cell? ⟨g, k * (p + 1) + p, none⟩ = some hd.val ∧ w'.frozen? ⟨g, k * (p + 1) + p, none⟩ = false ∧
      OwnN encA (p + 1) s2 encB e1 e2 base (w'.setCell ⟨g, k * (p + 1) + p, none⟩ hd'.val) (.slice (some ⟨g, 0, none⟩) n cap) (qs.set k (a, hd')) (L.set k (a, c')) := by
  obtain ⟨o1, o2, o3, o4⟩ := h.mod hne hq ho kk hat
  have hsz : ∀ y, (encP encA y).length = p + 1 := fun y => by unfold encP; simp [hA]
  obtain ⟨f1, f2, f3⟩ := o1.set1 hsz hq (c := p) (by omega)
  have hkl := (List.getElem?_eq_some_iff.1 hq).1
  have hset : Chg (· ≠ g) w' (w'.setCell ⟨g, k * (p + 1) + p, none⟩ hd'.val) := (Chg.refl _ w').setCell _ (fun x hx => hx)
  have hgb : (Value.slice (some ⟨g, 0, none⟩) n cap).ownBlock = some g := rfl
  refine ⟨?_, f2, f3 (a, hd') hd'.val ?_, by simp [h.2.1], fun j r c hr hc => ?_, fun i j qi qj x hi hj gi gj => ?_⟩
  · rw [f1]
    unfold encP
    rw [List.getElem?_append_right (by rw [hA]; exact Nat.le_refl _), hA, Nat.sub_self]
    rfl
  · unfold encP
    rw [List.set_append_right _ _ (by rw [hA]; exact Nat.le_refl _), hA, Nat.sub_self]
    rfl
  · by_cases hjk : j = k
    · subst hjk
      rw [List.getElem?_set_self hkl] at hr
      rw [List.getElem?_set_self (by rw [← h.2.1]; exact hkl)] at hc
      cases hr
      cases hc
      exact ⟨rfl, ho.chg hset (fun x _ hv => by intro he; subst he; exact o3 _ hv hgb)⟩
    · rw [List.getElem?_set_ne (by omega)] at hr hc
      obtain ⟨r1, r2⟩ := o2 j r c hjk hr hc
      refine ⟨r1, r2.chg hset (fun x _ hv => ?_)⟩
      intro he
      subst he
      exact h.ne hne hr hv hgb
  · by_cases hik : i = k
    · by_cases hjk : j = k
      · omega
      · exfalso
        subst hik
        rw [List.getElem?_set_self hkl] at hi
        cases hi
        rw [List.getElem?_set_ne (by omega)] at hj
        exact o4 j qj x hjk hj gj gi
    · rw [List.getElem?_set_ne (by omega)] at hi
      by_cases hjk : j = k
      · exfalso
        subst hjk
        rw [List.getElem?_set_self hkl] at hj
        cases hj
        exact o4 i qi x hik hi gi gj
      · rw [List.getElem?_set_ne (by omega)] at hj
        exact h.2.2.2 i j qi qj x hi hj gi gj
/-- .. or its head stays as it is -/
theorem OwnN.keep (hne : e1 ≠ e2) (h : OwnN encA (p + 1) s2 encB e1 e2 base w v qs L) {k : Nat} {a : A} {hd : Hdr} {c' : List β} (hq : qs[k]? = some (a, hd)) (ho : OwnL s2 encB e2 base w' hd.val c')
    (kk : Chg (fun x => x < w.heap.size ∧ ¬ hd.val.ownBlock = some x) w w') : OwnN encA (p + 1) s2 encB e1 e2 base w' v qs (L.set k (a, c')) := by
  obtain ⟨o1, o2, o3, o4⟩ := h.mod hne hq ho kk (.inl rfl)
  have hkl := (List.getElem?_eq_some_iff.1 hq).1
  refine ⟨o1, by simp [h.2.1], fun j r c hr hc => ?_, h.2.2.2⟩
  by_cases hjk : j = k
  · subst hjk
    rw [List.getElem?_set_self (by rw [← h.2.1]; exact hkl)] at hc
    obtain rfl : (a, hd) = r := Option.some.inj (hq.symm.trans hr)
    cases hc
    exact ⟨rfl, ho⟩
  · rw [List.getElem?_set_ne (by omega)] at hc
    exact o2 j r c hjk hr hc
theorem get_erase {α : Type} (l : List α) (k i : Nat) : (l.take k ++ l.drop (k + 1))[i]? = if k ≤ l.length then (if i < k then l[i]? else l[i + 1]?) else l[i]? := by
  by_cases hk : k ≤ l.length
  · rw [if_pos hk]
    by_cases hi : i < k
    · rw [if_pos hi, List.getElem?_append_left (by rw [List.length_take]; omega), List.getElem?_take, if_pos hi]
    · rw [if_neg hi, List.getElem?_append_right (by rw [List.length_take]; omega), List.length_take, List.getElem?_drop]
      congr 1
      omega
  · rw [if_neg hk, List.take_of_length_le (by omega), List.drop_of_length_le (by omega), List.append_nil]
/-- one element is taken out -/
theorem OwnN.erase (hne : e1 ≠ e2) (h : OwnN encA (p + 1) s2 encB e1 e2 base w v qs L) {k : Nat} (hk : k < L.length) (ho : OwnW (p + 1) (encP encA) e1 base w' v' (qs.take k ++ qs.drop (k + 1)))
    (kk : Chg (fun x => x < w.heap.size ∧ ¬ v.ownBlock = some x) w w') : OwnN encA (p + 1) s2 encB e1 e2 base w' v' (qs.take k ++ qs.drop (k + 1)) (L.take k ++ L.drop (k + 1)) := by
  have hl := h.2.1
  refine ⟨ho, by simp; omega, fun j q c hq hc => ?_, fun i j qi qj x hi hj gi gj => ?_⟩
  · rw [get_erase, if_pos (by omega)] at hq hc
    have key : ∀ j, qs[j]? = some q → L[j]? = some c → q.1 = c.1 ∧ OwnL s2 encB e2 base w' q.2.val c.2 := fun j hq hc => by
      obtain ⟨r1, r2⟩ := h.2.2.1 j q c hq hc
      exact ⟨r1, r2.chg kk (fun x hx hv => ⟨hx, h.ne hne hq hv⟩)⟩
    split at hq
    · rename_i hj
      rw [if_pos hj] at hc
      exact key j hq hc
    · rename_i hj
      rw [if_neg hj] at hc
      exact key (j + 1) hq hc
  · rw [get_erase, if_pos (by omega)] at hi hj
    split at hi <;> split at hj
    · exact h.2.2.2 i j qi qj x hi hj gi gj
    · have := h.2.2.2 i (j + 1) qi qj x hi hj gi gj; omega
    · have := h.2.2.2 (i + 1) j qi qj x hi hj gi gj; omega
    · have := h.2.2.2 (i + 1) (j + 1) qi qj x hi hj gi gj; omega
/-- a row that was just written out is the call's own -/
theorem OwnL.lit {α : Type} {sz : Nat} {enc : α → List Value} {e : TypeId} {base : Nat} {w : World} (l : List α) (hsz : ∀ y, (enc y).length = sz) (hb : base ≤ w.heap.size) (hl : l.length ≤ maxLen) {cs : Array Value} (hc : cs = (l.flatMap enc).toArray) :
    OwnL sz enc e base (w.alloc (.cells cs e)) (.slice (some ⟨w.heap.size, 0, none⟩) l.length l.length) l := by
  subst hc
  have hf : (l.flatMap enc).length = l.length * sz := flatN_len hsz l
  exact ⟨hf, .inr ⟨w.heap.size, l.length, _, rfl, hb, heap_new w _, Nat.le_refl _, hl, by simp [hf], by simp only [← hf, List.toList_toArray]; exact List.take_length⟩⟩
end
end Go.Proofs.YtihpaonhonhfoaaDoor
