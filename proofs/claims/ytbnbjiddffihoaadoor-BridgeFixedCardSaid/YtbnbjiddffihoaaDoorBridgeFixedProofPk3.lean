/- Texts for the statement BridgeFixedProof, part 3 of 9: Chk, SameN, Ls, Idx, ClsP, SplP, Cnt, Thr, Node, Idl, NbP, NbI, Bd, Ils, BldP, MapI, Tape, TapeK, Key, TWord. -/
import Derived.Deep.RegionHeld3
import Derived.Deep.DeepCutAuto
import Derived.Test.YtbnbjiddffihoaaDoorRows
import Derived.WalkArith
import Derived.Maps.OwnOps
import Derived.Maps.Views
import Derived.Test.YtbnbjiddffihoaaDoorBridgeFixedProofPk1
import Derived.Test.YtbnbjiddffihoaaDoorBridgeFixedProofPk2

/- Check of the package roster. -/
namespace Go.Proofs.YtbnbjiddffihoaaDoor
open Go.RowKit

theorem vkey_p (s : ByteArray) (w : World) : Calls Tryd.prog 96 #[.string s] w fun e w' => e = .returned (.bool (decide ((s.size : Int) ≤ 64))) ∧ w = w' := by
  go_enter Tryd.func96, Tryd.ntmps96
  go_wp2
  go_ret
  exact ⟨rfl, rfl⟩
theorem eqN_symm (x y : Nd) : eqN x y = eqN y x := by
  unfold eqN
  rw [Bool.eq_iff_iff]
  simp only [Bool.or_eq_true, beq_iff_eq]
  exact ⟨fun h => h.imp Eq.symm Eq.symm, fun h => h.imp Eq.symm Eq.symm⟩
set_option maxRecDepth 100000 in
theorem check1_p (gx : Nat) (x : Nd) (w : World) (hx : Blk w gx [.int .i64 x.id, .string x.key, .int .u32 x.word] 52) : PredG 99 #[.pointer (some ⟨gx, 0, none⟩)] (fun y => eqN y x) w := by
  intro y w' kk
  have B := hx.nx kk
  have q0 := B.cell 0 _ rfl
  have q1 := B.cell 1 _ rfl
  have hg := B.lt
  have hne : ¬ gx = w'.heap.size := by omega
  unfold Nd.val
  clear hx kk B
  by_cases h1 : y.id = x.id
  · have d1 : (y.id == x.id) = true := by simpa using h1
    have HE : Hid (eqN y x = true) := Lib.hid (by unfold eqN; rw [d1]; rfl)
    clear h1
    go_enter Tryd.func99, Tryd.ntmps99
    go_wp2
    go_ret
    exact ⟨by rw [HE.out]; rfl, (Ex.refl _).alloc _⟩
  · have d1 : (y.id == x.id) = false := by simpa using h1
    have HE : Hid (eqN y x = (y.key.toList == x.key.toList)) := Lib.hid (by unfold eqN; rw [d1]; rfl)
    clear h1
    go_enter Tryd.func99, Tryd.ntmps99
    go_wp2
    go_ret
    exact ⟨by rw [HE.out]; rfl, (Ex.refl _).alloc _⟩
def NdRel (n : Nat) (l : List Nd) (w : World) (i : Value) (wr : World) : Prop :=
  ∃ k : Nat, k ≤ n ∧ i = .int .i64 k ∧ Ex w wr ∧ ∀ i' x, i' < k → l[i']? = some x → (l.take i').any (fun y => eqN y x) = false

set_option maxRecDepth 100000 in
set_option maxHeartbeats 4000000 in
theorem check_p (a : Option Addr) (n c : Nat) (l : List Nd) (w : World) (h : Sl 3 encN w a n l) (hn : n ≤ 1000000) (hc : n ≤ c) (hm : c ≤ maxLen) :
    Calls Tryd.prog 59 #[.slice a n c] w fun e w' => e = .returned (.int .i64 (checkN l)) ∧ Ex w w' := by
  have hlen := h.len
  unfold maxLen at hm
  have eg : ∀ args w, (callFunc 99 args).run Tryd.prog w = .ok (.enter 99 args) w := enters_of Tryd.func99 (by kernel_rfl) rfl
  have EG := Lib.hid eg
  clear eg
  go_enter Tryd.func59, Tryd.ntmps59
  by_cases h64 : 64 < n
  · have HC : Hid (checkN l = 3) := Lib.hid (by unfold checkN; rw [if_pos (by omega)])
    clear h hlen
    go_wp2_with fail
    go_ret
    exact ⟨by rw [HC.out]; rfl, Ex.refl _⟩
  have HL := Lib.hid hlen
  clear hlen
  go_wp2_with fail
  go_loopw [12] (fun i wr => N1Rel n l w i wr) (fun i _ => n - (intOf i).toNat)
  case atStart => exact ⟨0, by omega, rfl, Ex.refl _, by intro _ _ h; omega⟩
  case round =>
    obtain ⟨k, hk, rfl, kw, hgood⟩ := hrel
    have HG := Lib.hid hgood
    clear hgood
    obtain ⟨wo, rfl⟩ : ∃ wo : World, wo = wr := ⟨_, rfl⟩
    by_cases hlt : k < n
    · obtain ⟨x1, o1, y, rfl, hx1, hy, hc1⟩ := (h.nx kw).at hlt
      have e0 : wo.cell? ⟨x1, o1 + k * 3, none⟩ = some (.int .i64 y.id) := hc1 0 _ rfl
      have e1 : wo.cell? ⟨x1, o1 + k * 3 + 1, none⟩ = some (.string y.key) := hc1 1 _ rfl
      have e2 : wo.cell? ⟨x1, o1 + k * 3 + 1 + 1, none⟩ = some (.int .u32 y.word) := by simpa [Nat.add_assoc] using hc1 2 _ rfl
      have e2' : wo.cell? ⟨x1, o1 + k * 3 + 2, none⟩ = some (.int .u32 y.word) := hc1 2 _ rfl
      have HY := Lib.hid hy
      have BAD : badN y = true → checkN l = 1 := fun hb => by
        unfold checkN
        rw [if_neg (by rw [HL.out]; exact h64), if_pos (List.any_eq_true.2 ⟨y, List.mem_of_getElem? HY.out, hb⟩)]
      have KW := Lib.hid (kw.alloc (.cells #[.int .i64 y.id, .string y.key, .int .u32 y.word] 52))
      clear hc1 hy h kw
      by_cases b1 : y.id < 1
      · have HB := Lib.hid (BAD (by unfold badN; simp [b1]))
        clear BAD
        go_wp2_with fail
        go_ret
        exact ⟨by rw [HB.out]; rfl, KW.out⟩
      by_cases b2 : 2147483647 < y.id
      · have HB := Lib.hid (BAD (by unfold badN; simp [b2]))
        clear BAD
        go_wp2_with fail
        go_ret
        exact ⟨by rw [HB.out]; rfl, KW.out⟩
      have BAD := Lib.hid BAD
      go_wp2_with fail
      refine (vkey_p _ _).mono ?_
      rintro e w2 ⟨rfl, rfl⟩
      by_cases b3 : (y.key.size : Int) ≤ 64
      · have d3 : decide ((y.key.size : Int) ≤ 64) = true := by simpa using b3
        rw [d3]
        clear d3
        go_wp2_with fail
        refine (wvalid_p _ _).mono ?_
        rintro e w2 ⟨rfl, rfl⟩
        cases b4 : validN y.word with
        | true =>
          have BG : Hid (badN y = false) := Lib.hid (by unfold badN; simp [b1, b2, b3, b4])
          clear BAD b4 b3
          go_wp2_with fail
          refine ⟨⟨k + 1, by omega, by go_num, KW.out, fun k' y' hk' hy' => ?_⟩, by simp [intOf]; omega⟩
          rcases Nat.lt_or_ge k' k with h | h
          · exact HG.out k' y' h hy'
          · obtain rfl : k' = k := by omega
            rw [Option.some.inj (hy'.symm.trans HY.out)]
            exact BG.out
        | false =>
          have HB := Lib.hid (BAD.out (by unfold badN; simp [b4]))
          clear BAD b4
          go_wp2_with fail
          go_ret
          exact ⟨by rw [HB.out]; rfl, KW.out⟩
      · have d3 : decide ((y.key.size : Int) ≤ 64) = false := by simpa using b3
        have HB := Lib.hid (BAD.out (by unfold badN; simp [b3]))
        rw [d3]
        clear d3 BAD b3
        go_wp2_with fail
        go_ret
        exact ⟨by rw [HB.out]; rfl, KW.out⟩
    · obtain rfl : k = n := by omega
      have HNB : Hid (l.any badN = false) := Lib.hid (by
        rw [List.any_eq_false]
        intro y hy
        obtain ⟨j, hj, he⟩ := List.mem_iff_getElem.1 hy
        rw [HG.out j y (by rw [← HL.out]; exact hj) (by rw [← he]; simp)]
        simp)
      clear HG hlt hk
      obtain ⟨w1, rfl⟩ : ∃ w1 : World, w1 = wo := ⟨_, rfl⟩
      have hs := Lib.hid h
      clear h
      go_wp2_with fail
      go_loopw [39] (fun i wr => NdRel k l w i wr) (fun i _ => k - (intOf i).toNat)
      case atStart => exact ⟨0, by omega, rfl, kw, by intro _ _ h; omega⟩
      case round =>
        clear kw
        obtain ⟨m, hm2, rfl, kw, hgood⟩ := hrel
        have HG := Lib.hid hgood
        clear hgood
        obtain ⟨wo, rfl⟩ : ∃ wo : World, wo = wr := ⟨_, rfl⟩
        by_cases hlt : m < k
        · obtain ⟨x1, o1, x, rfl, hx1, hx, hc1⟩ := (hs.out.nx kw).at hlt
          have e0 : wo.cell? ⟨x1, o1 + m * 3, none⟩ = some (.int .i64 x.id) := hc1 0 _ rfl
          have e1 : wo.cell? ⟨x1, o1 + m * 3 + 1, none⟩ = some (.string x.key) := hc1 1 _ rfl
          have e2 : wo.cell? ⟨x1, o1 + m * 3 + 1 + 1, none⟩ = some (.int .u32 x.word) := by simpa [Nat.add_assoc] using hc1 2 _ rfl
          have e2' : wo.cell? ⟨x1, o1 + m * 3 + 2, none⟩ = some (.int .u32 x.word) := hc1 2 _ rfl
          have HX := Lib.hid hx
          have k2 := Ex.new wo (.cells #[.int .i64 x.id, .string x.key, .int .u32 x.word] 52)
          have B2 := Blk.new wo [.int .i64 x.id, .string x.key, .int .u32 x.word] 52
          obtain ⟨w2, hw2⟩ : ∃ w2, w2 = wo.alloc (.cells #[.int .i64 x.id, .string x.key, .int .u32 x.word] 52) := ⟨_, rfl⟩
          obtain ⟨g, hg⟩ : ∃ g, g = wo.heap.size := ⟨_, rfl⟩
          have B2 : Blk w2 g [.int .i64 x.id, .string x.key, .int .u32 x.word] 52 := by rw [hw2, hg]; exact B2
          rw [← hw2] at k2
          have KW := Lib.hid (kw.nx k2)
          have HW2 := Lib.hid hw2
          have HGG := Lib.hid hg
          have hmc : (m : Int) ≤ (c : Int) := by omega
          have S2 := (hs.out.nx (kw.nx k2)).take (m := m) (by omega)
          have PG := check1_p g x w2 B2
          clear hc1 hx hx1 kw k2 hw2 hg B2
          go_upto_region 12 with fail
          rw [← HGG.out, ← HW2.out]
          go_wp2_with fail
          (with_reducible refine (contf_n 99 #[.pointer (some ⟨g, 0, none⟩)] (fun y => eqN y x) EG.out _ _ _ _ _ S2 (by omega) PG).mono ?_)
          rintro e w3 ⟨rfl, k3⟩
          have K3 := Lib.hid (KW.out.nx k3)
          clear S2 PG k3 e0 e1 e2 e2'
          cases hb : (l.take m).any (fun y => eqN y x) with
          | true =>
            have HC : Hid (checkN l = 5) := Lib.hid (by
              unfold checkN
              rw [if_neg (by rw [HL.out]; exact h64), HNB.out, if_neg (by simp), if_pos]
              obtain ⟨y, hy, he⟩ := List.any_eq_true.1 hb
              obtain ⟨q, hq⟩ := List.mem_iff_getElem?.1 hy
              rw [List.getElem?_take] at hq
              split at hq
              · rename_i hqm
                exact (dupN_iff l).2 ⟨m, q, x, y, hqm, HX.out, hq, by rw [eqN_symm]; exact he⟩
              · cases hq)
            clear hb
            go_wp2_with fail
            go_ret
            exact ⟨by rw [HC.out]; rfl, K3.out⟩
          | false =>
            have HB := Lib.hid hb
            clear hb
            go_wp2_with fail
            refine ⟨⟨m + 1, by omega, by go_num, K3.out, fun i' x' hi' hx' => ?_⟩, by simp [intOf]; omega⟩
            rcases Nat.lt_or_ge i' m with h | h
            · exact HG.out i' x' h hx'
            · obtain rfl : i' = m := by omega
              rw [Option.some.inj (hx'.symm.trans HX.out)]
              exact HB.out
        · obtain rfl : m = k := by omega
          have HC : Hid (checkN l = 0) := Lib.hid (by
            unfold checkN
            rw [if_neg (by rw [HL.out]; exact h64), HNB.out, if_neg (by simp), if_neg]
            intro hd
            obtain ⟨i, q, x, y, hq, hx, hy, he⟩ := (dupN_iff l).1 hd
            have hi := HG.out i x (by have := (List.getElem?_eq_some_iff.1 hx).1; have := HL.out; omega) hx
            rw [List.any_eq_false] at hi
            refine hi y ?_ (by rw [eqN_symm]; exact he)
            exact List.mem_iff_getElem?.2 ⟨q, by rw [List.getElem?_take, if_pos hq]; exact hy⟩)
          have KW := Lib.hid kw
          clear HG hlt hm2 HNB kw
          go_wp2_with fail
          go_ret
          exact ⟨by rw [HC.out]; rfl, KW.out⟩
end Go.Proofs.YtbnbjiddffihoaaDoor

/- When two lists of nodes are equal. -/
namespace Go.Proofs.YtbnbjiddffihoaaDoor
open Go.RowKit

end Go.Proofs.YtbnbjiddffihoaaDoor

/- Lists of lists of nodes. -/
namespace Go.Proofs.YtbnbjiddffihoaaDoor
open Go.RowKit

/-- the closure of Classes: a list's first word agrees with a node's word at a level -/
theorem same_pE (a b : Nat) (h : Int) (w : World) (ha : a < 4294967296) (hb : b < 4294967296) (hT : TabG w) :
    Calls Tryd.prog 124 #[.int .u32 a, .int .u32 b, .int .i64 h] w fun e w' => e = .returned (.bool (sameN a b h)) ∧ Ex w w' :=
  (same_p a b h w ha hb hT).mono fun _ _ h => ⟨h.1, by rw [← h.2]; exact Ex.refl _⟩
theorem TabG.nx {w w' : World} (h : TabG w) (k : Ex w w') : TabG w' := h.chg k h.lt
set_option maxHeartbeats 1000000 in
theorem cls1_p (a : Option Addr) (n cp gx gh : Nat) (c : List Nd) (id : Int) (key : ByteArray) (v : Nat) (h : Int) (w : World) (hr : Sl 3 encN w a n c) (hc : 0 < n) (hn : n ≤ 1000000) (hcw : ∀ y ∈ c, y.word < 4294967296) (hv : v < 4294967296)
    (hx : Blk w gx [.int .i64 id, .string key, .int .u32 v] 52) (hh : Blk w gh [.int .i64 h] 3) (hT : TabG w) :
    Calls Tryd.prog 135 #[.slice a n cp, .pointer (some ⟨gx, 0, none⟩), .pointer (some ⟨gh, 0, none⟩)] w fun e w' => e = .returned (.bool (sameN (headW c) v h)) ∧ Ex w w' := by
  obtain ⟨x1, o1, y, rfl, hx1, hy, hc1⟩ := hr.at hc
  have e2 : w.cell? ⟨x1, o1 + 2, none⟩ = some (.int .u32 y.word) := by simpa using hc1 2 _ rfl
  have f2 := hx.cell 2 _ rfl
  have f0 := hh.cell 0 _ rfl
  have lx := hx.lt
  have lh := hh.lt
  have hyw := hcw y (List.mem_of_getElem? hy)
  have hW : headW c = y.word := by
    cases c with
    | nil => simp at hy
    | cons z r => simp at hy; subst hy; rfl
  have HT := Lib.hid hT
  rw [hW]
  clear hW hc1 hy hr hcw hx hh hT
  go_enter Tryd.func135, Tryd.ntmps135
  go_wp2_with fail
  refine wp_region_held_drew (S := Ex w.drew) (by kernel_rfl) (Ex.refl _) (fun hHeld => ?_)
  refine wpAnyH_take (i := 0) (oi := ⟨some 5, .move (.tmp 0), 23, "word.go:57", #[], none⟩) (v := ?_) rfl (by kernel_rfl) (by kernel_rfl) (by kernel_rfl) (fun _ _ _ h => h) (Or.inl ⟨by rfl, ?hyr1x0⟩) (by assumption) ?restr1x0
  case hyr1x0 => intro wq hSw; (go_simp); (try with_reducible rfl)
  try simp only [Act.put, List.setIfInBounds_toArray, List.set_cons_zero, List.set_cons_succ]
  refine wpAnyH_take (i := 1) (oi := ⟨some 6, .indexAddr 23 (.tmp 5) (.const (.int .i64 0)), 0, "word.go:57", #[⟨0, .data⟩], none⟩) (v := ?_) rfl (by kernel_rfl) (by kernel_rfl) (by kernel_rfl) (fun _ _ _ h => h) (Or.inl ⟨by rfl, ?hyr1x1⟩) (by assumption) ?restr1x1
  case hyr1x1 => intro wq hSw; (go_simp); (try with_reducible rfl)
  try simp only [Act.put, List.setIfInBounds_toArray, List.set_cons_zero, List.set_cons_succ]
  refine wpAnyH_take (i := 2) (oi := ⟨some 7, .fieldAddr 52 (.tmp 6) 2, 0, "word.go:57", #[⟨1, .data⟩], none⟩) (v := ?_) rfl (by kernel_rfl) (by kernel_rfl) (by kernel_rfl) (fun _ _ _ h => h) (Or.inl ⟨by rfl, ?hyr1x2⟩) (by assumption) ?restr1x2
  case hyr1x2 => intro wq hSw; (go_simp); (try with_reducible rfl)
  try simp only [Act.put, List.setIfInBounds_toArray, List.set_cons_zero, List.set_cons_succ]
  refine wpAnyH_take (i := 3) (oi := ⟨some 8, .load 50 (.tmp 7), 50, "word.go:57", #[⟨2, .data⟩], none⟩) (v := ?_) rfl (by kernel_rfl) (by kernel_rfl) (by kernel_rfl) (fun _ _ _ h => h) (Or.inl ⟨by rfl, ?hyr1x3⟩) (by assumption) ?restr1x3
  case hyr1x3 => intro wq hSw; (have cq := Chg.cellv hSw e2 hx1; go_simp); (try with_reducible rfl)
  try simp only [Act.put, List.setIfInBounds_toArray, List.set_cons_zero, List.set_cons_succ]
  refine wpAnyH_take (i := 4) (oi := ⟨some 9, .fieldAddr 52 (.tmp 1) 2, 0, "word.go:57", #[], none⟩) (v := ?_) rfl (by kernel_rfl) (by kernel_rfl) (by kernel_rfl) (fun _ _ _ h => h) (Or.inl ⟨by rfl, ?hyr1x4⟩) (by assumption) ?restr1x4
  case hyr1x4 => intro wq hSw; (go_simp); (try with_reducible rfl)
  try simp only [Act.put, List.setIfInBounds_toArray, List.set_cons_zero, List.set_cons_succ]
  refine wpAnyH_take (i := 5) (oi := ⟨some 10, .load 50 (.tmp 9), 50, "word.go:57", #[⟨4, .data⟩], none⟩) (v := ?_) rfl (by kernel_rfl) (by kernel_rfl) (by kernel_rfl) (fun _ _ _ h => h) (Or.inl ⟨by rfl, ?hyr1x5⟩) (by assumption) ?restr1x5
  case hyr1x5 => intro wq hSw; (have cq := Chg.cellv hSw f2 lx; go_simp); (try with_reducible rfl)
  try simp only [Act.put, List.setIfInBounds_toArray, List.set_cons_zero, List.set_cons_succ]
  refine wpAnyH_take (i := 6) (oi := ⟨some 11, .load 3 (.tmp 2), 3, "word.go:57", #[], none⟩) (v := ?_) rfl (by kernel_rfl) (by kernel_rfl) (by kernel_rfl) (fun _ _ _ h => h) (Or.inl ⟨by rfl, ?hyr1x6⟩) (by assumption) ?restr1x6
  case hyr1x6 => intro wq hSw; (have cq := Chg.cellv hSw f0 lh; go_simp); (try with_reducible rfl)
  try simp only [Act.put, List.setIfInBounds_toArray, List.set_cons_zero, List.set_cons_succ]
  refine wpAnyH_ready (rs := [7]) (by kernel_rfl) (by simp) ?_
  refine AllReadyH.cons (o := ⟨some 12, .call { callee := .value (.func 124), args := #[.tmp 8, .tmp 10, .tmp 11], argTypes := #[50, 50, 3] }, 4, "word.go:57", #[⟨3, .data⟩, ⟨5, .data⟩, ⟨6, .data⟩], none⟩) rfl (fun K hK => ?_) AllReadyH.nil
  go_simp
  (with_reducible refine (same_pE _ _ _ _ hyw hv (HT.out.nx (Ex.refl w).drew)).mono ?_)
  rintro e v1 ⟨rfl, kk⟩
  refine hK.out _ _ kk (fun _ => ?_)
  clear hK K
  try simp only [Act.put, List.setIfInBounds_toArray, List.set_cons_zero, List.set_cons_succ]
  refine wpAnyH_switch (S' := Ex v1) (fun _ hSw => Ex.nx kk hSw) ?_
  clear hHeld
  have hHeld := Ex.refl v1
  refine wpAnyH_take (i := 8) (oi := ⟨some 4, .assign (.tmp 12), 4, "word.go:57", #[⟨7, .data⟩, ⟨7, .chain⟩, ⟨0, .phase⟩, ⟨1, .phase⟩, ⟨2, .phase⟩, ⟨3, .phase⟩, ⟨4, .phase⟩, ⟨5, .phase⟩, ⟨6, .phase⟩, ⟨7, .phase⟩], none⟩) (v := ?_) rfl (by kernel_rfl) (by kernel_rfl) (by kernel_rfl) (fun _ _ _ h => h) (Or.inl ⟨by rfl, ?hyr1x8⟩) (by assumption) ?restr1x8
  case hyr1x8 => intro wq hSw; (go_simp); (try with_reducible rfl)
  try simp only [Act.put, List.setIfInBounds_toArray, List.set_cons_zero, List.set_cons_succ]
  refine wpAnyH_done (by kernel_rfl) ?_ _
  go_wp2_with fail
  go_ret
  exact ⟨rfl, (Ex.refl w).drew.nx kk⟩

end Go.Proofs.YtbnbjiddffihoaaDoor

/- slices.IndexFunc over a list of lists of nodes, with the closure of Classes. -/
namespace Go.Proofs.YtbnbjiddffihoaaDoor
open Go.RowKit

set_option maxHeartbeats 1000000 in
theorem idx_p (a : Option Addr) (n cp gx gh : Nat) (C : List (List Nd)) (id : Int) (key : ByteArray) (v : Nat) (h : Int) (w : World) (hr : LL w a n C) (hn : n ≤ 1000000) (hC : GoodC C) (hv : v < 4294967296)
    (hx : Blk w gx [.int .i64 id, .string key, .int .u32 v] 52) (hh : Blk w gh [.int .i64 h] 3) (hT : TabG w) :
    Calls Tryd.prog 134 #[.slice a n cp, .func (.func 135) #[] #[.pointer (some ⟨gx, 0, none⟩), .pointer (some ⟨gh, 0, none⟩)]] w
      fun e w' => e = .returned (.int .i64 (idxV C v h)) ∧ Ex w w' := by
  have HL := Lib.hid hr.len
  have HC := Lib.hid hC
  have HT := Lib.hid hT
  have HX := Lib.hid hx
  have HH := Lib.hid hh
  clear hC hT hx hh
  go_enter Tryd.func134, Tryd.ntmps134
  go_wp2_with fail
  go_loopw [8] (fun i wr => IdxRel n C v h w i wr) (fun i _ => n - (intOf i).toNat)
  case atStart => exact ⟨0, by omega, rfl, Ex.refl _, by intro _ _ h; omega⟩
  case round =>
    obtain ⟨k, hk, rfl, kw, hno⟩ := hrel
    have HNO := Lib.hid hno
    clear hno
    obtain ⟨wo, rfl⟩ : ∃ wo : World, wo = wr := ⟨_, rfl⟩
    by_cases hlt : k < n
    · obtain ⟨x1, o1, b1, m1, d1, c, rfl, hx1, hy, hc1, r1⟩ := (hr.nx kw).at hlt
      obtain ⟨p1, p2, p3⟩ := HC.out c (List.mem_of_getElem? hy)
      rw [r1.len] at p1 p2
      have HY := Lib.hid hy
      have P3 := Lib.hid p3
      clear hy hr hx1 p3
      go_wp2_with fail
      (with_reducible refine (cls1_p _ _ _ _ _ _ _ _ _ _ _ r1 p1 p2 P3.out hv (HX.out.nx kw) (HH.out.nx kw) (HT.out.nx kw)).mono ?_)
      rintro e w2 ⟨rfl, kk⟩
      replace kw := kw.nx kk
      clear kk hc1 r1
      cases hs : sameN (headW c) v h with
      | true =>
        have HI : Hid (idxV C v h = k) := Lib.hid (by unfold idxV; rw [idxC_of HY.out hs HNO.out, if_pos (by rw [HL.out]; exact hlt)])
        clear hs
        go_wp2_with fail
        go_ret
        exact ⟨by rw [HI.out]; rfl, kw⟩
      | false =>
        have HS := Lib.hid hs
        clear hs
        go_wp2_with fail
        refine ⟨⟨k + 1, by omega, by go_num, kw, fun j c' hj hc' => ?_⟩, by simp [intOf]; omega⟩
        rcases Nat.lt_or_ge j k with h | h
        · exact HNO.out j c' h hc'
        · obtain rfl : j = k := by omega
          rw [Option.some.inj (hc'.symm.trans HY.out)]
          exact HS.out
    · obtain rfl : k = n := by omega
      have HI : Hid (idxV C v h = -1) := Lib.hid (by unfold idxV; rw [idxC_none (fun j c hj hc => HNO.out j c (by rw [← HL.out]; exact hj) hc), if_neg (by omega)])
      clear hr hk hlt
      go_wp2_with fail
      go_ret
      exact ⟨by rw [HI.out]; rfl, kw⟩

end Go.Proofs.YtbnbjiddffihoaaDoor

/- Classes of the package word. -/
namespace Go.Proofs.YtbnbjiddffihoaaDoor
open Go.RowKit

set_option maxRecDepth 100000 in
set_option maxHeartbeats 4000000 in
theorem classes_p (a : Option Addr) (n cp : Nat) (l : List Nd) (h : Int) (w : World) (hs : Sl 3 encN w a n l) (hn : n ≤ 1000) (hw : ∀ x ∈ l, x.word < 4294967296) (hT : TabG w) :
    Calls Tryd.prog 112 #[.slice a n cp, .int .i64 h] w (ClPost (classesN l h) w) := by
  have HL := Lib.hid hs.len
  have hs := Lib.hid hs
  have HW := Lib.hid hw
  have HT := Lib.hid hT
  have k1 := Ex.new w (.cells #[.int .i64 h] 3)
  have BH := Blk.new w [.int .i64 h] 3
  obtain ⟨w1, hw1⟩ : ∃ w1, w1 = w.alloc (.cells #[.int .i64 h] 3) := ⟨_, rfl⟩
  obtain ⟨gh, hgh⟩ : ∃ gh, gh = w.heap.size := ⟨_, rfl⟩
  have BH : Blk w1 gh [.int .i64 h] 3 := by rw [hw1, hgh]; exact BH
  rw [← hw1] at k1
  have HW1 := Lib.hid hw1
  have HGH := Lib.hid hgh
  have HK1 := Lib.hid k1
  have c0 := BH.cell 0 _ rfl
  clear hw hT hw1 hgh k1
  go_enter Tryd.func112, Tryd.ntmps112
  go_upto_region 1 with fail
  rw [← HGH.out, ← HW1.out]
  by_cases h16 : 16 < h
  · have HC : Hid (classesN l h = []) := Lib.hid (classesN_big h16)
    clear BH
    go_wp2_with fail
    go_ret
    exact ⟨none, 0, by rw [HC.out]; rfl, by rw [HC.out]; exact LL.nil _ _, HK1.out⟩
  have HF := Lib.hid (classesN_fold (l := l) h16)
  have BH := Lib.hid BH
  go_wp2_with fail
  go_loopw [5, 13] (fun o i wr => ClRel l h n w1 o i wr) (fun _ i _ => n - (intOf i).toNat)
  case atStart => exact ⟨0, [], by omega, rfl, OwnQ.nil _ _, Ex.refl _⟩
  case round =>
    obtain ⟨k, qs, hk, rfl, OQ, kx⟩ := hrel
    obtain ⟨wo, rfl⟩ : ∃ wo : World, wo = wr := ⟨_, rfl⟩
    by_cases hlt : k < n
    · obtain ⟨x1, o1, y, rfl, hx1, hy, hc1⟩ := (hs.out.nx (HK1.out.nx kx)).at hlt
      have e0 : wo.cell? ⟨x1, o1 + k * 3, none⟩ = some (.int .i64 y.id) := hc1 0 _ rfl
      have e1 : wo.cell? ⟨x1, o1 + k * 3 + 1, none⟩ = some (.string y.key) := hc1 1 _ rfl
      have e2 : wo.cell? ⟨x1, o1 + k * 3 + 1 + 1, none⟩ = some (.int .u32 y.word) := by simpa [Nat.add_assoc] using hc1 2 _ rfl
      have e2' : wo.cell? ⟨x1, o1 + k * 3 + 2, none⟩ = some (.int .u32 y.word) := hc1 2 _ rfl
      have hyw := HW.out y (List.mem_of_getElem? hy)
      have FS := Lib.hid (foldC_snoc h l k y hy)
      have hFL : (foldC h (l.take k)).length ≤ k := Nat.le_trans (foldC_length h (l.take k)) (by rw [List.length_take]; omega)
      have FF : Hid (Fine 100000 (fun y => y.word < 4294967296) (foldC h (l.take k))) := Lib.hid (fun c hc => by
        have := foldC_fine (h := h) (l.take k) (P := fun y => y.word < 4294967296) (fun y hy => HW.out y (List.mem_of_mem_take hy)) c hc
        exact ⟨this.1, Nat.le_trans this.2.1 (by rw [List.length_take]; omega), this.2.2⟩)
      generalize foldC h (l.take k) = C at OQ FS hFL FF
      clear hc1 hy
      have B7 := Blk.new wo [.int .i64 y.id, .string y.key, .int .u32 y.word] 52
      have k2 := Ex.new wo (.cells #[.int .i64 y.id, .string y.key, .int .u32 y.word] 52)
      obtain ⟨w2, hw2⟩ : ∃ w2, w2 = wo.alloc (.cells #[.int .i64 y.id, .string y.key, .int .u32 y.word] 52) := ⟨_, rfl⟩
      obtain ⟨g7, hg7⟩ : ∃ g7, g7 = wo.heap.size := ⟨_, rfl⟩
      have B7 : Blk w2 g7 [.int .i64 y.id, .string y.key, .int .u32 y.word] 52 := by rw [hw2, hg7]; exact B7
      rw [← hw2] at k2
      have HW2 := Lib.hid hw2
      have HG7 := Lib.hid hg7
      replace OQ := OQ.nx k2
      replace kx := kx.nx k2
      obtain ⟨a3, cap3, rfl, ll3, hc3, _, _⟩ := OQ.ll
      clear hw2 hg7 k2 c0
      go_upto_region 7 with fail
      rw [← HG7.out, ← HW2.out]
      clear e0 e1 e2 e2'
      go_wp2_with fail
      have hGood : GoodC C := fun c hc => ⟨(FF.out c hc).1, Nat.le_trans (FF.out c hc).2.1 (by omega), (FF.out c hc).2.2⟩
      (with_reducible refine (idx_p _ _ _ _ _ _ _ _ _ _ _ ll3 (by omega) hGood hyw B7 (BH.out.nx kx) (HT.out.nx (HK1.out.nx kx))).mono ?_)
      rintro e w3 ⟨rfl, kk⟩
      replace OQ := OQ.nx kk
      replace kx := kx.nx kk
      replace B7 := Lib.hid (B7.nx kk)
      obtain ⟨KX, hKX⟩ : ∃ KX, KX = idxC C y.word h := ⟨_, rfl⟩
      have KI := Lib.hid hKX.symm
      have hKle : KX ≤ C.length := by rw [hKX]; exact idxC_le _ _ _
      clear kk ll3 hGood
      by_cases hKn : KX = C.length
      · have IV : idxV C y.word h = -1 := by unfold idxV; rw [← hKX, if_neg (by omega)]
        rw [IV]
        have lq : qs.length ≤ 1000000 := by rw [OQ.2.1]; omega
        have zq := kx.size
        clear hKX IV
        go_upto_region 11 with (at_builtin; (refine wpList_append_lit (enc := encH) w3 rfl _ _ 136 rfl w1.heap.size 23 (.slice none 0 0) 1 24 Tryd.underlying136 Tryd.infoH rfl (by omega) (by omega) _ _ OQ.1 rfl ((none, 0, 0) : Hdr) _ rfl rfl (by simp [encH, Hdr.val, Value.oneCell']) _ (by simp) rfl lq (by omega) _ ?_); intro vp wp ownp ch0 ch1 _)
        have B7 := Lib.hid (B7.out.chg ch0 ⟨B7.out.lt, OQ.ne_blk B7.out⟩)
        have OQ := OQ.pad ownp ch0
        replace kx : Ex w1 wp := Chg.trans kx ch1
        obtain ⟨C', hC'⟩ : ∃ C' : List (List Nd), C' = C ++ [[]] := ⟨_, rfl⟩
        rw [← hC'] at OQ
        have CL : C'.length = C.length + 1 := by rw [hC']; simp
        have EC : Hid (C' = padC C KX) := Lib.hid (by unfold padC; rw [if_pos (by omega), hC'])
        have CLEN : Hid (∀ c ∈ C', c.length ≤ 1000000) := Lib.hid (fun c hc => by
          rw [hC'] at hc
          rcases List.mem_append.1 hc with h1 | h1
          · exact Nat.le_trans (FF.out c h1).2.1 (by omega)
          · rw [List.mem_singleton.1 h1]; simp)
        generalize (qs ++ [((none, 0, 0) : Hdr)]) = qs at OQ
        obtain ⟨wa, rfl⟩ : ∃ wa : World, wa = wp := ⟨_, rfl⟩
        have hKC : KX < C'.length := by omega
        have NL : Hid (C'.length ≤ 1000001) := Lib.hid (by omega)
        clear hC' CL ownp ch0 ch1
        rw [← hKn]
        clear hKn
        obtain ⟨a4, cap4, he4, ll4, _, _, some4⟩ := OQ.ll
        cases he4
        obtain ⟨g4, e4, hg4⟩ := some4 (by intro h0; rw [h0] at hKC; simp at hKC)
        first | subst e4 | (obtain rfl : g4 = g3 := by cases e4; rfl)
        obtain ⟨c, hc⟩ : ∃ c, C'[KX]? = some c := ⟨C'[KX]'hKC, by simp⟩
        obtain ⟨⟨qa, qn, qc⟩, hq⟩ : ∃ q : Hdr, qs[KX]? = some q := ⟨qs[KX]'(by rw [OQ.2.1]; exact hKC), by simp⟩
        have hcl : c.length ≤ 1000000 := CLEN.out c (List.mem_of_getElem? hc)
        obtain ⟨cy, hcy⟩ : ∃ cy : List Nd, cy = c ++ [y] := ⟨_, rfl⟩
        have FIN : Hid (stepC h C y = C'.set KX cy) := Lib.hid (by unfold stepC; rw [KI.out, ← EC.out, hc, hcy]; rfl)
        have HCY := Lib.hid hcy
        clear hcy
        have HQ := Lib.hid hq
        have HCC := Lib.hid hc
        have hn4 : (KX : Int) < (C'.length : Int) := by omega
        have hn5 : C'.length ≤ 1000001 := NL.out
        clear hc hq ll4 some4
        go_wp2_with fail
        have OQ := Lib.hid (OQ.nx (Ex.refl wa).drew)
        have kx := kx.nx (Ex.refl wa).drew
        have SXF : ∀ cur : World, Sl 3 encN (cur.alloc (.cells #[.int .i64 y.id, .string y.key, .int .u32 y.word] 52)) (some ⟨cur.heap.size, 0, none⟩) 1 [y] := fun cur => Sl.lit _ rfl rfl (fun _ => rfl) rfl
        refine wp_region_held_drew (S := fun _ => True) (by kernel_rfl) (trivial) (fun hHeld => ?_)
        refine wpAnyH_take (i := 0) (oi := ⟨some 27, .move (.tmp 5), 136, "word.go:62", #[], none⟩) (v := ?_) rfl (by kernel_rfl) (by kernel_rfl) (by kernel_rfl) (fun _ _ _ h => h) (Or.inl ⟨by rfl, ?hyr1x0q1⟩) (by assumption) ?restr1x0q1
        case hyr1x0q1 => intro wq hSw; (go_simp); (try with_reducible rfl)
        try simp only [Act.put, List.setIfInBounds_toArray, List.set_cons_zero, List.set_cons_succ]
        refine wpAnyH_take (i := 1) (oi := ⟨some 28, .move (.tmp 8), 3, "word.go:62", #[], none⟩) (v := ?_) rfl (by kernel_rfl) (by kernel_rfl) (by kernel_rfl) (fun _ _ _ h => h) (Or.inl ⟨by rfl, ?hyr1x1q4⟩) (by assumption) ?restr1x1q4
        case hyr1x1q4 => intro wq hSw; (go_simp); (try with_reducible rfl)
        try simp only [Act.put, List.setIfInBounds_toArray, List.set_cons_zero, List.set_cons_succ]
        refine wpAnyH_take (i := 2) (oi := ⟨some 29, .move (.tmp 5), 136, "word.go:62", #[], none⟩) (v := ?_) rfl (by kernel_rfl) (by kernel_rfl) (by kernel_rfl) (fun _ _ _ h => h) (Or.inl ⟨by rfl, ?hyr1x2q7⟩) (by assumption) ?restr1x2q7
        case hyr1x2q7 => intro wq hSw; (go_simp); (try with_reducible rfl)
        try simp only [Act.put, List.setIfInBounds_toArray, List.set_cons_zero, List.set_cons_succ]
        refine wpAnyH_take (i := 3) (oi := ⟨some 30, .move (.tmp 8), 3, "word.go:62", #[], none⟩) (v := ?_) rfl (by kernel_rfl) (by kernel_rfl) (by kernel_rfl) (fun _ _ _ h => h) (Or.inl ⟨by rfl, ?hyr1x3q10⟩) (by assumption) ?restr1x3q10
        case hyr1x3q10 => intro wq hSw; (go_simp); (try with_reducible rfl)
        try simp only [Act.put, List.setIfInBounds_toArray, List.set_cons_zero, List.set_cons_succ]
        refine wpAnyH_take (i := 4) (oi := ⟨some 31, .indexAddr 136 (.tmp 29) (.tmp 30), 0, "word.go:62", #[⟨2, .data⟩, ⟨3, .data⟩], none⟩) (v := ?_) rfl (by kernel_rfl) (by kernel_rfl) (by kernel_rfl) (fun _ _ _ h => h) (Or.inl ⟨by rfl, ?hyr1x4q13⟩) (by assumption) ?restr1x4q13
        case hyr1x4q13 => intro wq hSw; (go_simp); (try with_reducible rfl)
        try simp only [Act.put, List.setIfInBounds_toArray, List.set_cons_zero, List.set_cons_succ]
        refine wpAnyH_ready (rs := [5, 6]) (by kernel_rfl) (by simp) ?_
        refine AllReadyH.cons (o := ⟨some 32, .load 23 (.tmp 31), 23, "word.go:62", #[⟨4, .data⟩], none⟩) rfl (fun K hK => ?_) ?_
        · have cc := (own_cellH OQ.out.1 HQ.out).1
          simp only [Hdr.val] at cc
          (try have cc2 : (wa.alloc (.cells #[.int .i64 y.id, .string y.key, .int .u32 y.word] 52)).cell? ⟨g4, KX, none⟩ = some (.slice qa qn qc) := cc)
          go_simp
          clear cc
          (try clear cc2)
          refine hK.out _ _ (trivial) (fun hHeld => ?_)
          clear hK K
          try simp only [Act.put, List.setIfInBounds_toArray, List.set_cons_zero, List.set_cons_succ]
          refine wpAnyH_ready (rs := [6]) (by kernel_rfl) (by simp) ?_
          refine AllReadyH.cons (o := ⟨some 33, .load 52 (.tmp 7), 52, "word.go:62", #[], none⟩) rfl (fun K hK => ?_) AllReadyH.nil
          have b0 := B7.out.cell 0 _ rfl
          have b1 := B7.out.cell 1 _ rfl
          have b2 := B7.out.cell 2 _ rfl
          go_simp
          clear b0 b1 b2
          refine hK.out _ _ (trivial) (fun hHeld => ?_)
          clear hK K
          try simp only [Act.put, List.setIfInBounds_toArray, List.set_cons_zero, List.set_cons_succ]
          refine wpAnyH_ready (rs := [7]) (by kernel_rfl) (by simp) ?_
          refine AllReadyH.cons (o := ⟨some 34, .buildSlice 23 1 #[(0, .tmp 33)], 23, "word.go:62", #[⟨6, .data⟩], none⟩) rfl (fun K hK => ?_) AllReadyH.nil
          go_simp
          have SX := SXF wa.drew
          have e7 := Ex.new wa.drew (.cells #[.int .i64 y.id, .string y.key, .int .u32 y.word] 52)
          replace OQ := Lib.hid (OQ.out.nx e7)
          replace kx := kx.nx e7
          clear e7
          refine hK.out _ _ (trivial) (fun hHeld => ?_)
          clear hK K
          try simp only [Act.put, List.setIfInBounds_toArray, List.set_cons_zero, List.set_cons_succ]
          refine wpAnyH_ready (rs := [8]) (by kernel_rfl) (by simp) ?_
          refine AllReadyH.cons (o := ⟨some 35, .call { callee := .builtin .append, args := #[.tmp 32, .tmp 34], argTypes := #[23, 23] }, 23, "word.go:62", #[⟨5, .data⟩, ⟨7, .data⟩], none⟩) rfl (fun K hK => ?_) AllReadyH.nil
          rw [if_pos (by rfl)]
          have z0 := Ex.size kx
          have oi := OQ.out.2.2.1 KX _ _ HQ.out HCC.out
          refine wp_append_rda (enc := encN) _ (.tmp 32) (.tmp 34) 23 rfl w1.heap.size 52 (.agg #[.int .i64 0, .string ByteArray.empty, .int .u32 0]) 3 32 Tryd.underlying23 Tryd.infoN rfl (by omega) (by omega) _ c oi rfl _ _ 1 1 [y] SX (fun h => by cases h) (fun _ => rfl) (by simp [encN, Value.oneCell']) rfl (by omega) (by omega) z0 ?_
          intro v8 w8 own8 ch0 ch1 hat
          rw [← HCY.out] at own8
          obtain ⟨a8, cap8, rfl, _, _, _, _⟩ := own8.rd (fun _ => rfl)
          obtain ⟨pc, pf, OQ2⟩ := OwnQ.put (q' := (a8, cy.length, cap8)) OQ.out HQ.out own8 ch0 hat
          replace kx : Ex w1 w8 := Chg.trans kx ch1
          replace OQ := Lib.hid OQ2
          clear OQ2 own8 ch0 ch1 hat oi z0 SX
          refine hK.out _ _ (trivial) (fun hHeld => ?_)
          clear hK K
          try simp only [Act.put, List.setIfInBounds_toArray, List.set_cons_zero, List.set_cons_succ]
          refine wpAnyH_take (i := 9) (oi := ⟨some 36, .indexAddr 136 (.tmp 27) (.tmp 28), 0, "word.go:62", #[⟨0, .data⟩, ⟨1, .data⟩, ⟨0, .phase⟩, ⟨1, .phase⟩, ⟨2, .phase⟩, ⟨3, .phase⟩, ⟨4, .phase⟩, ⟨5, .phase⟩, ⟨6, .phase⟩, ⟨7, .phase⟩, ⟨8, .phase⟩], none⟩) (v := ?_) rfl (by kernel_rfl) (by kernel_rfl) (by kernel_rfl) (fun _ _ _ h => h) (Or.inl ⟨by rfl, ?hyr1x9q64⟩) (by assumption) ?restr1x9q64
          case hyr1x9q64 => intro wq hSw; (go_simp); (try with_reducible rfl)
          try simp only [Act.put, List.setIfInBounds_toArray, List.set_cons_zero, List.set_cons_succ]
          refine wpAnyH_ready (rs := [10]) (by kernel_rfl) (by simp) ?_
          refine AllReadyH.cons (o := ⟨none, .store 23 (.tmp 36) (.tmp 35), 0, "word.go:62", #[⟨9, .data⟩, ⟨8, .data⟩, ⟨8, .chain⟩, ⟨0, .phase⟩, ⟨1, .phase⟩, ⟨2, .phase⟩, ⟨3, .phase⟩, ⟨4, .phase⟩, ⟨5, .phase⟩, ⟨6, .phase⟩, ⟨7, .phase⟩, ⟨8, .phase⟩], none⟩) rfl (fun K hK => ?_) AllReadyH.nil
          go_simp
          clear pc pf
          refine hK.out _ _ (trivial) (fun hHeld => ?_)
          clear hK K
          try simp only [Act.put, List.setIfInBounds_toArray, List.set_cons_zero, List.set_cons_succ]
          refine wpAnyH_done (by kernel_rfl) ?_ _
          replace kx := kx.setNew (p := ⟨g4, KX, none⟩) (Hdr.val (a8, cy.length, cap8)) hg4
          obtain ⟨wz, hwz⟩ : ∃ wz, wz = w8.setCell ⟨g4, KX, none⟩ (.slice a8 cy.length cap8) := ⟨_, rfl⟩
          have OQ := Lib.hid (OwnQ.cast OQ.out (w' := wz) hwz)
          have kx : Ex w1 wz := by rw [hwz]; exact kx
          rw [← hwz]
          clear hwz SXF hHeld hn5 hcl
          go_wp2_with fail
          exact ⟨⟨k + 1, _, by omega, by go_num, by rw [FS.out, FIN.out]; exact OQ.out, kx⟩, by simp [intOf]; omega⟩
        refine AllReadyH.cons (o := ⟨some 33, .load 52 (.tmp 7), 52, "word.go:62", #[], none⟩) rfl (fun K hK => ?_) AllReadyH.nil
        · have b0 := B7.out.cell 0 _ rfl
          have b1 := B7.out.cell 1 _ rfl
          have b2 := B7.out.cell 2 _ rfl
          go_simp
          clear b0 b1 b2
          refine hK.out _ _ (trivial) (fun hHeld => ?_)
          clear hK K
          try simp only [Act.put, List.setIfInBounds_toArray, List.set_cons_zero, List.set_cons_succ]
          refine wpAnyH_ready (rs := [5, 7]) (by kernel_rfl) (by simp) ?_
          refine AllReadyH.cons (o := ⟨some 32, .load 23 (.tmp 31), 23, "word.go:62", #[⟨4, .data⟩], none⟩) rfl (fun K hK => ?_) ?_
          · have cc := (own_cellH OQ.out.1 HQ.out).1
            simp only [Hdr.val] at cc
            (try have cc2 : (wa.alloc (.cells #[.int .i64 y.id, .string y.key, .int .u32 y.word] 52)).cell? ⟨g4, KX, none⟩ = some (.slice qa qn qc) := cc)
            go_simp
            clear cc
            (try clear cc2)
            refine hK.out _ _ (trivial) (fun hHeld => ?_)
            clear hK K
            try simp only [Act.put, List.setIfInBounds_toArray, List.set_cons_zero, List.set_cons_succ]
            refine wpAnyH_ready (rs := [7]) (by kernel_rfl) (by simp) ?_
            refine AllReadyH.cons (o := ⟨some 34, .buildSlice 23 1 #[(0, .tmp 33)], 23, "word.go:62", #[⟨6, .data⟩], none⟩) rfl (fun K hK => ?_) AllReadyH.nil
            go_simp
            have SX := SXF wa.drew
            have e7 := Ex.new wa.drew (.cells #[.int .i64 y.id, .string y.key, .int .u32 y.word] 52)
            replace OQ := Lib.hid (OQ.out.nx e7)
            replace kx := kx.nx e7
            clear e7
            refine hK.out _ _ (trivial) (fun hHeld => ?_)
            clear hK K
            try simp only [Act.put, List.setIfInBounds_toArray, List.set_cons_zero, List.set_cons_succ]
            refine wpAnyH_ready (rs := [8]) (by kernel_rfl) (by simp) ?_
            refine AllReadyH.cons (o := ⟨some 35, .call { callee := .builtin .append, args := #[.tmp 32, .tmp 34], argTypes := #[23, 23] }, 23, "word.go:62", #[⟨5, .data⟩, ⟨7, .data⟩], none⟩) rfl (fun K hK => ?_) AllReadyH.nil
            rw [if_pos (by rfl)]
            have z0 := Ex.size kx
            have oi := OQ.out.2.2.1 KX _ _ HQ.out HCC.out
            refine wp_append_rda (enc := encN) _ (.tmp 32) (.tmp 34) 23 rfl w1.heap.size 52 (.agg #[.int .i64 0, .string ByteArray.empty, .int .u32 0]) 3 32 Tryd.underlying23 Tryd.infoN rfl (by omega) (by omega) _ c oi rfl _ _ 1 1 [y] SX (fun h => by cases h) (fun _ => rfl) (by simp [encN, Value.oneCell']) rfl (by omega) (by omega) z0 ?_
            intro v8 w8 own8 ch0 ch1 hat
            rw [← HCY.out] at own8
            obtain ⟨a8, cap8, rfl, _, _, _, _⟩ := own8.rd (fun _ => rfl)
            obtain ⟨pc, pf, OQ2⟩ := OwnQ.put (q' := (a8, cy.length, cap8)) OQ.out HQ.out own8 ch0 hat
            replace kx : Ex w1 w8 := Chg.trans kx ch1
            replace OQ := Lib.hid OQ2
            clear OQ2 own8 ch0 ch1 hat oi z0 SX
            refine hK.out _ _ (trivial) (fun hHeld => ?_)
            clear hK K
            try simp only [Act.put, List.setIfInBounds_toArray, List.set_cons_zero, List.set_cons_succ]
            refine wpAnyH_take (i := 9) (oi := ⟨some 36, .indexAddr 136 (.tmp 27) (.tmp 28), 0, "word.go:62", #[⟨0, .data⟩, ⟨1, .data⟩, ⟨0, .phase⟩, ⟨1, .phase⟩, ⟨2, .phase⟩, ⟨3, .phase⟩, ⟨4, .phase⟩, ⟨5, .phase⟩, ⟨6, .phase⟩, ⟨7, .phase⟩, ⟨8, .phase⟩], none⟩) (v := ?_) rfl (by kernel_rfl) (by kernel_rfl) (by kernel_rfl) (fun _ _ _ h => h) (Or.inl ⟨by rfl, ?hyr1x9q123⟩) (by assumption) ?restr1x9q123
            case hyr1x9q123 => intro wq hSw; (go_simp); (try with_reducible rfl)
            try simp only [Act.put, List.setIfInBounds_toArray, List.set_cons_zero, List.set_cons_succ]
            refine wpAnyH_ready (rs := [10]) (by kernel_rfl) (by simp) ?_
            refine AllReadyH.cons (o := ⟨none, .store 23 (.tmp 36) (.tmp 35), 0, "word.go:62", #[⟨9, .data⟩, ⟨8, .data⟩, ⟨8, .chain⟩, ⟨0, .phase⟩, ⟨1, .phase⟩, ⟨2, .phase⟩, ⟨3, .phase⟩, ⟨4, .phase⟩, ⟨5, .phase⟩, ⟨6, .phase⟩, ⟨7, .phase⟩, ⟨8, .phase⟩], none⟩) rfl (fun K hK => ?_) AllReadyH.nil
            go_simp
            clear pc pf
            refine hK.out _ _ (trivial) (fun hHeld => ?_)
            clear hK K
            try simp only [Act.put, List.setIfInBounds_toArray, List.set_cons_zero, List.set_cons_succ]
            refine wpAnyH_done (by kernel_rfl) ?_ _
            replace kx := kx.setNew (p := ⟨g4, KX, none⟩) (Hdr.val (a8, cy.length, cap8)) hg4
            obtain ⟨wz, hwz⟩ : ∃ wz, wz = w8.setCell ⟨g4, KX, none⟩ (.slice a8 cy.length cap8) := ⟨_, rfl⟩
            have OQ := Lib.hid (OwnQ.cast OQ.out (w' := wz) hwz)
            have kx : Ex w1 wz := by rw [hwz]; exact kx
            rw [← hwz]
            clear hwz SXF hHeld hn5 hcl
            go_wp2_with fail
            exact ⟨⟨k + 1, _, by omega, by go_num, by rw [FS.out, FIN.out]; exact OQ.out, kx⟩, by simp [intOf]; omega⟩
          refine AllReadyH.cons (o := ⟨some 34, .buildSlice 23 1 #[(0, .tmp 33)], 23, "word.go:62", #[⟨6, .data⟩], none⟩) rfl (fun K hK => ?_) AllReadyH.nil
          · go_simp
            have SX := SXF wa.drew
            have e7 := Ex.new wa.drew (.cells #[.int .i64 y.id, .string y.key, .int .u32 y.word] 52)
            replace OQ := Lib.hid (OQ.out.nx e7)
            replace kx := kx.nx e7
            clear e7
            refine hK.out _ _ (trivial) (fun hHeld => ?_)
            clear hK K
            try simp only [Act.put, List.setIfInBounds_toArray, List.set_cons_zero, List.set_cons_succ]
            refine wpAnyH_ready (rs := [5]) (by kernel_rfl) (by simp) ?_
            refine AllReadyH.cons (o := ⟨some 32, .load 23 (.tmp 31), 23, "word.go:62", #[⟨4, .data⟩], none⟩) rfl (fun K hK => ?_) AllReadyH.nil
            have cc := (own_cellH OQ.out.1 HQ.out).1
            simp only [Hdr.val] at cc
            (try have cc2 : (wa.alloc (.cells #[.int .i64 y.id, .string y.key, .int .u32 y.word] 52)).cell? ⟨g4, KX, none⟩ = some (.slice qa qn qc) := cc)
            go_simp
            clear cc
            (try clear cc2)
            refine hK.out _ _ (trivial) (fun hHeld => ?_)
            clear hK K
            try simp only [Act.put, List.setIfInBounds_toArray, List.set_cons_zero, List.set_cons_succ]
            refine wpAnyH_ready (rs := [8]) (by kernel_rfl) (by simp) ?_
            refine AllReadyH.cons (o := ⟨some 35, .call { callee := .builtin .append, args := #[.tmp 32, .tmp 34], argTypes := #[23, 23] }, 23, "word.go:62", #[⟨5, .data⟩, ⟨7, .data⟩], none⟩) rfl (fun K hK => ?_) AllReadyH.nil
            rw [if_pos (by rfl)]
            have z0 := Ex.size kx
            have oi := OQ.out.2.2.1 KX _ _ HQ.out HCC.out
            refine wp_append_rda (enc := encN) _ (.tmp 32) (.tmp 34) 23 rfl w1.heap.size 52 (.agg #[.int .i64 0, .string ByteArray.empty, .int .u32 0]) 3 32 Tryd.underlying23 Tryd.infoN rfl (by omega) (by omega) _ c oi rfl _ _ 1 1 [y] SX (fun h => by cases h) (fun _ => rfl) (by simp [encN, Value.oneCell']) rfl (by omega) (by omega) z0 ?_
            intro v8 w8 own8 ch0 ch1 hat
            rw [← HCY.out] at own8
            obtain ⟨a8, cap8, rfl, _, _, _, _⟩ := own8.rd (fun _ => rfl)
            obtain ⟨pc, pf, OQ2⟩ := OwnQ.put (q' := (a8, cy.length, cap8)) OQ.out HQ.out own8 ch0 hat
            replace kx : Ex w1 w8 := Chg.trans kx ch1
            replace OQ := Lib.hid OQ2
            clear OQ2 own8 ch0 ch1 hat oi z0 SX
            refine hK.out _ _ (trivial) (fun hHeld => ?_)
            clear hK K
            try simp only [Act.put, List.setIfInBounds_toArray, List.set_cons_zero, List.set_cons_succ]
            refine wpAnyH_take (i := 9) (oi := ⟨some 36, .indexAddr 136 (.tmp 27) (.tmp 28), 0, "word.go:62", #[⟨0, .data⟩, ⟨1, .data⟩, ⟨0, .phase⟩, ⟨1, .phase⟩, ⟨2, .phase⟩, ⟨3, .phase⟩, ⟨4, .phase⟩, ⟨5, .phase⟩, ⟨6, .phase⟩, ⟨7, .phase⟩, ⟨8, .phase⟩], none⟩) (v := ?_) rfl (by kernel_rfl) (by kernel_rfl) (by kernel_rfl) (fun _ _ _ h => h) (Or.inl ⟨by rfl, ?hyr1x9q172⟩) (by assumption) ?restr1x9q172
            case hyr1x9q172 => intro wq hSw; (go_simp); (try with_reducible rfl)
            try simp only [Act.put, List.setIfInBounds_toArray, List.set_cons_zero, List.set_cons_succ]
            refine wpAnyH_ready (rs := [10]) (by kernel_rfl) (by simp) ?_
            refine AllReadyH.cons (o := ⟨none, .store 23 (.tmp 36) (.tmp 35), 0, "word.go:62", #[⟨9, .data⟩, ⟨8, .data⟩, ⟨8, .chain⟩, ⟨0, .phase⟩, ⟨1, .phase⟩, ⟨2, .phase⟩, ⟨3, .phase⟩, ⟨4, .phase⟩, ⟨5, .phase⟩, ⟨6, .phase⟩, ⟨7, .phase⟩, ⟨8, .phase⟩], none⟩) rfl (fun K hK => ?_) AllReadyH.nil
            go_simp
            clear pc pf
            refine hK.out _ _ (trivial) (fun hHeld => ?_)
            clear hK K
            try simp only [Act.put, List.setIfInBounds_toArray, List.set_cons_zero, List.set_cons_succ]
            refine wpAnyH_done (by kernel_rfl) ?_ _
            replace kx := kx.setNew (p := ⟨g4, KX, none⟩) (Hdr.val (a8, cy.length, cap8)) hg4
            obtain ⟨wz, hwz⟩ : ∃ wz, wz = w8.setCell ⟨g4, KX, none⟩ (.slice a8 cy.length cap8) := ⟨_, rfl⟩
            have OQ := Lib.hid (OwnQ.cast OQ.out (w' := wz) hwz)
            have kx : Ex w1 wz := by rw [hwz]; exact kx
            rw [← hwz]
            clear hwz SXF hHeld hn5 hcl
            go_wp2_with fail
            exact ⟨⟨k + 1, _, by omega, by go_num, by rw [FS.out, FIN.out]; exact OQ.out, kx⟩, by simp [intOf]; omega⟩
      · have IV : idxV C y.word h = (KX : Int) := by unfold idxV; rw [← hKX, if_pos (by omega)]
        rw [IV]
        obtain ⟨wa, rfl⟩ : ∃ wa : World, wa = w3 := ⟨_, rfl⟩
        have k0 : (0 : Int) ≤ (KX : Int) := by omega
        clear hKX IV
        have EC : Hid (C = padC C KX) := Lib.hid (by unfold padC; rw [if_neg (by omega)])
        have CLEN : Hid (∀ c ∈ C, c.length ≤ 1000000) := Lib.hid (fun c hc => Nat.le_trans (FF.out c hc).2.1 (by omega))
        have hKC : KX < C.length := by omega
        have NL : Hid (C.length ≤ 1000001) := Lib.hid (by omega)
        obtain ⟨a4, cap4, he4, ll4, _, _, some4⟩ := OQ.ll
        cases he4
        obtain ⟨g4, e4, hg4⟩ := some4 (by intro h0; rw [h0] at hKC; simp at hKC)
        first | subst e4 | (obtain rfl : g4 = g3 := by cases e4; rfl)
        obtain ⟨c, hc⟩ : ∃ c, C[KX]? = some c := ⟨C[KX]'hKC, by simp⟩
        obtain ⟨⟨qa, qn, qc⟩, hq⟩ : ∃ q : Hdr, qs[KX]? = some q := ⟨qs[KX]'(by rw [OQ.2.1]; exact hKC), by simp⟩
        have hcl : c.length ≤ 1000000 := CLEN.out c (List.mem_of_getElem? hc)
        obtain ⟨cy, hcy⟩ : ∃ cy : List Nd, cy = c ++ [y] := ⟨_, rfl⟩
        have FIN : Hid (stepC h C y = C.set KX cy) := Lib.hid (by unfold stepC; rw [KI.out, ← EC.out, hc, hcy]; rfl)
        have HCY := Lib.hid hcy
        clear hcy
        have HQ := Lib.hid hq
        have HCC := Lib.hid hc
        have hn4 : (KX : Int) < (C.length : Int) := by omega
        have hn5 : C.length ≤ 1000001 := NL.out
        clear hc hq ll4 some4
        go_wp2_with fail
        have OQ := Lib.hid (OQ.nx (Ex.refl wa).drew)
        have kx := kx.nx (Ex.refl wa).drew
        have SXF : ∀ cur : World, Sl 3 encN (cur.alloc (.cells #[.int .i64 y.id, .string y.key, .int .u32 y.word] 52)) (some ⟨cur.heap.size, 0, none⟩) 1 [y] := fun cur => Sl.lit _ rfl rfl (fun _ => rfl) rfl
        refine wp_region_held_drew (S := fun _ => True) (by kernel_rfl) (trivial) (fun hHeld => ?_)
        refine wpAnyH_take (i := 0) (oi := ⟨some 27, .move (.tmp 5), 136, "word.go:62", #[], none⟩) (v := ?_) rfl (by kernel_rfl) (by kernel_rfl) (by kernel_rfl) (fun _ _ _ h => h) (Or.inl ⟨by rfl, ?hyr2x0q1⟩) (by assumption) ?restr2x0q1
        case hyr2x0q1 => intro wq hSw; (go_simp); (try with_reducible rfl)
        try simp only [Act.put, List.setIfInBounds_toArray, List.set_cons_zero, List.set_cons_succ]
        refine wpAnyH_take (i := 1) (oi := ⟨some 28, .move (.tmp 8), 3, "word.go:62", #[], none⟩) (v := ?_) rfl (by kernel_rfl) (by kernel_rfl) (by kernel_rfl) (fun _ _ _ h => h) (Or.inl ⟨by rfl, ?hyr2x1q4⟩) (by assumption) ?restr2x1q4
        case hyr2x1q4 => intro wq hSw; (go_simp); (try with_reducible rfl)
        try simp only [Act.put, List.setIfInBounds_toArray, List.set_cons_zero, List.set_cons_succ]
        refine wpAnyH_take (i := 2) (oi := ⟨some 29, .move (.tmp 5), 136, "word.go:62", #[], none⟩) (v := ?_) rfl (by kernel_rfl) (by kernel_rfl) (by kernel_rfl) (fun _ _ _ h => h) (Or.inl ⟨by rfl, ?hyr2x2q7⟩) (by assumption) ?restr2x2q7
        case hyr2x2q7 => intro wq hSw; (go_simp); (try with_reducible rfl)
        try simp only [Act.put, List.setIfInBounds_toArray, List.set_cons_zero, List.set_cons_succ]
        refine wpAnyH_take (i := 3) (oi := ⟨some 30, .move (.tmp 8), 3, "word.go:62", #[], none⟩) (v := ?_) rfl (by kernel_rfl) (by kernel_rfl) (by kernel_rfl) (fun _ _ _ h => h) (Or.inl ⟨by rfl, ?hyr2x3q10⟩) (by assumption) ?restr2x3q10
        case hyr2x3q10 => intro wq hSw; (go_simp); (try with_reducible rfl)
        try simp only [Act.put, List.setIfInBounds_toArray, List.set_cons_zero, List.set_cons_succ]
        refine wpAnyH_take (i := 4) (oi := ⟨some 31, .indexAddr 136 (.tmp 29) (.tmp 30), 0, "word.go:62", #[⟨2, .data⟩, ⟨3, .data⟩], none⟩) (v := ?_) rfl (by kernel_rfl) (by kernel_rfl) (by kernel_rfl) (fun _ _ _ h => h) (Or.inl ⟨by rfl, ?hyr2x4q13⟩) (by assumption) ?restr2x4q13
        case hyr2x4q13 => intro wq hSw; (go_simp); (try with_reducible rfl)
        try simp only [Act.put, List.setIfInBounds_toArray, List.set_cons_zero, List.set_cons_succ]
        refine wpAnyH_ready (rs := [5, 6]) (by kernel_rfl) (by simp) ?_
        refine AllReadyH.cons (o := ⟨some 32, .load 23 (.tmp 31), 23, "word.go:62", #[⟨4, .data⟩], none⟩) rfl (fun K hK => ?_) ?_
        · have cc := (own_cellH OQ.out.1 HQ.out).1
          simp only [Hdr.val] at cc
          (try have cc2 : (wa.alloc (.cells #[.int .i64 y.id, .string y.key, .int .u32 y.word] 52)).cell? ⟨g4, KX, none⟩ = some (.slice qa qn qc) := cc)
          go_simp
          clear cc
          (try clear cc2)
          refine hK.out _ _ (trivial) (fun hHeld => ?_)
          clear hK K
          try simp only [Act.put, List.setIfInBounds_toArray, List.set_cons_zero, List.set_cons_succ]
          refine wpAnyH_ready (rs := [6]) (by kernel_rfl) (by simp) ?_
          refine AllReadyH.cons (o := ⟨some 33, .load 52 (.tmp 7), 52, "word.go:62", #[], none⟩) rfl (fun K hK => ?_) AllReadyH.nil
          have b0 := B7.out.cell 0 _ rfl
          have b1 := B7.out.cell 1 _ rfl
          have b2 := B7.out.cell 2 _ rfl
          go_simp
          clear b0 b1 b2
          refine hK.out _ _ (trivial) (fun hHeld => ?_)
          clear hK K
          try simp only [Act.put, List.setIfInBounds_toArray, List.set_cons_zero, List.set_cons_succ]
          refine wpAnyH_ready (rs := [7]) (by kernel_rfl) (by simp) ?_
          refine AllReadyH.cons (o := ⟨some 34, .buildSlice 23 1 #[(0, .tmp 33)], 23, "word.go:62", #[⟨6, .data⟩], none⟩) rfl (fun K hK => ?_) AllReadyH.nil
          go_simp
          have SX := SXF wa.drew
          have e7 := Ex.new wa.drew (.cells #[.int .i64 y.id, .string y.key, .int .u32 y.word] 52)
          replace OQ := Lib.hid (OQ.out.nx e7)
          replace kx := kx.nx e7
          clear e7
          refine hK.out _ _ (trivial) (fun hHeld => ?_)
          clear hK K
          try simp only [Act.put, List.setIfInBounds_toArray, List.set_cons_zero, List.set_cons_succ]
          refine wpAnyH_ready (rs := [8]) (by kernel_rfl) (by simp) ?_
          refine AllReadyH.cons (o := ⟨some 35, .call { callee := .builtin .append, args := #[.tmp 32, .tmp 34], argTypes := #[23, 23] }, 23, "word.go:62", #[⟨5, .data⟩, ⟨7, .data⟩], none⟩) rfl (fun K hK => ?_) AllReadyH.nil
          rw [if_pos (by rfl)]
          have z0 := Ex.size kx
          have oi := OQ.out.2.2.1 KX _ _ HQ.out HCC.out
          refine wp_append_rda (enc := encN) _ (.tmp 32) (.tmp 34) 23 rfl w1.heap.size 52 (.agg #[.int .i64 0, .string ByteArray.empty, .int .u32 0]) 3 32 Tryd.underlying23 Tryd.infoN rfl (by omega) (by omega) _ c oi rfl _ _ 1 1 [y] SX (fun h => by cases h) (fun _ => rfl) (by simp [encN, Value.oneCell']) rfl (by omega) (by omega) z0 ?_
          intro v8 w8 own8 ch0 ch1 hat
          rw [← HCY.out] at own8
          obtain ⟨a8, cap8, rfl, _, _, _, _⟩ := own8.rd (fun _ => rfl)
          obtain ⟨pc, pf, OQ2⟩ := OwnQ.put (q' := (a8, cy.length, cap8)) OQ.out HQ.out own8 ch0 hat
          replace kx : Ex w1 w8 := Chg.trans kx ch1
          replace OQ := Lib.hid OQ2
          clear OQ2 own8 ch0 ch1 hat oi z0 SX
          refine hK.out _ _ (trivial) (fun hHeld => ?_)
          clear hK K
          try simp only [Act.put, List.setIfInBounds_toArray, List.set_cons_zero, List.set_cons_succ]
          refine wpAnyH_take (i := 9) (oi := ⟨some 36, .indexAddr 136 (.tmp 27) (.tmp 28), 0, "word.go:62", #[⟨0, .data⟩, ⟨1, .data⟩, ⟨0, .phase⟩, ⟨1, .phase⟩, ⟨2, .phase⟩, ⟨3, .phase⟩, ⟨4, .phase⟩, ⟨5, .phase⟩, ⟨6, .phase⟩, ⟨7, .phase⟩, ⟨8, .phase⟩], none⟩) (v := ?_) rfl (by kernel_rfl) (by kernel_rfl) (by kernel_rfl) (fun _ _ _ h => h) (Or.inl ⟨by rfl, ?hyr2x9q64⟩) (by assumption) ?restr2x9q64
          case hyr2x9q64 => intro wq hSw; (go_simp); (try with_reducible rfl)
          try simp only [Act.put, List.setIfInBounds_toArray, List.set_cons_zero, List.set_cons_succ]
          refine wpAnyH_ready (rs := [10]) (by kernel_rfl) (by simp) ?_
          refine AllReadyH.cons (o := ⟨none, .store 23 (.tmp 36) (.tmp 35), 0, "word.go:62", #[⟨9, .data⟩, ⟨8, .data⟩, ⟨8, .chain⟩, ⟨0, .phase⟩, ⟨1, .phase⟩, ⟨2, .phase⟩, ⟨3, .phase⟩, ⟨4, .phase⟩, ⟨5, .phase⟩, ⟨6, .phase⟩, ⟨7, .phase⟩, ⟨8, .phase⟩], none⟩) rfl (fun K hK => ?_) AllReadyH.nil
          go_simp
          clear pc pf
          refine hK.out _ _ (trivial) (fun hHeld => ?_)
          clear hK K
          try simp only [Act.put, List.setIfInBounds_toArray, List.set_cons_zero, List.set_cons_succ]
          refine wpAnyH_done (by kernel_rfl) ?_ _
          replace kx := kx.setNew (p := ⟨g4, KX, none⟩) (Hdr.val (a8, cy.length, cap8)) hg4
          obtain ⟨wz, hwz⟩ : ∃ wz, wz = w8.setCell ⟨g4, KX, none⟩ (.slice a8 cy.length cap8) := ⟨_, rfl⟩
          have OQ := Lib.hid (OwnQ.cast OQ.out (w' := wz) hwz)
          have kx : Ex w1 wz := by rw [hwz]; exact kx
          rw [← hwz]
          clear hwz SXF hHeld hn5 hcl
          go_wp2_with fail
          exact ⟨⟨k + 1, _, by omega, by go_num, by rw [FS.out, FIN.out]; exact OQ.out, kx⟩, by simp [intOf]; omega⟩
        refine AllReadyH.cons (o := ⟨some 33, .load 52 (.tmp 7), 52, "word.go:62", #[], none⟩) rfl (fun K hK => ?_) AllReadyH.nil
        · have b0 := B7.out.cell 0 _ rfl
          have b1 := B7.out.cell 1 _ rfl
          have b2 := B7.out.cell 2 _ rfl
          go_simp
          clear b0 b1 b2
          refine hK.out _ _ (trivial) (fun hHeld => ?_)
          clear hK K
          try simp only [Act.put, List.setIfInBounds_toArray, List.set_cons_zero, List.set_cons_succ]
          refine wpAnyH_ready (rs := [5, 7]) (by kernel_rfl) (by simp) ?_
          refine AllReadyH.cons (o := ⟨some 32, .load 23 (.tmp 31), 23, "word.go:62", #[⟨4, .data⟩], none⟩) rfl (fun K hK => ?_) ?_
          · have cc := (own_cellH OQ.out.1 HQ.out).1
            simp only [Hdr.val] at cc
            (try have cc2 : (wa.alloc (.cells #[.int .i64 y.id, .string y.key, .int .u32 y.word] 52)).cell? ⟨g4, KX, none⟩ = some (.slice qa qn qc) := cc)
            go_simp
            clear cc
            (try clear cc2)
            refine hK.out _ _ (trivial) (fun hHeld => ?_)
            clear hK K
            try simp only [Act.put, List.setIfInBounds_toArray, List.set_cons_zero, List.set_cons_succ]
            refine wpAnyH_ready (rs := [7]) (by kernel_rfl) (by simp) ?_
            refine AllReadyH.cons (o := ⟨some 34, .buildSlice 23 1 #[(0, .tmp 33)], 23, "word.go:62", #[⟨6, .data⟩], none⟩) rfl (fun K hK => ?_) AllReadyH.nil
            go_simp
            have SX := SXF wa.drew
            have e7 := Ex.new wa.drew (.cells #[.int .i64 y.id, .string y.key, .int .u32 y.word] 52)
            replace OQ := Lib.hid (OQ.out.nx e7)
            replace kx := kx.nx e7
            clear e7
            refine hK.out _ _ (trivial) (fun hHeld => ?_)
            clear hK K
            try simp only [Act.put, List.setIfInBounds_toArray, List.set_cons_zero, List.set_cons_succ]
            refine wpAnyH_ready (rs := [8]) (by kernel_rfl) (by simp) ?_
            refine AllReadyH.cons (o := ⟨some 35, .call { callee := .builtin .append, args := #[.tmp 32, .tmp 34], argTypes := #[23, 23] }, 23, "word.go:62", #[⟨5, .data⟩, ⟨7, .data⟩], none⟩) rfl (fun K hK => ?_) AllReadyH.nil
            rw [if_pos (by rfl)]
            have z0 := Ex.size kx
            have oi := OQ.out.2.2.1 KX _ _ HQ.out HCC.out
            refine wp_append_rda (enc := encN) _ (.tmp 32) (.tmp 34) 23 rfl w1.heap.size 52 (.agg #[.int .i64 0, .string ByteArray.empty, .int .u32 0]) 3 32 Tryd.underlying23 Tryd.infoN rfl (by omega) (by omega) _ c oi rfl _ _ 1 1 [y] SX (fun h => by cases h) (fun _ => rfl) (by simp [encN, Value.oneCell']) rfl (by omega) (by omega) z0 ?_
            intro v8 w8 own8 ch0 ch1 hat
            rw [← HCY.out] at own8
            obtain ⟨a8, cap8, rfl, _, _, _, _⟩ := own8.rd (fun _ => rfl)
            obtain ⟨pc, pf, OQ2⟩ := OwnQ.put (q' := (a8, cy.length, cap8)) OQ.out HQ.out own8 ch0 hat
            replace kx : Ex w1 w8 := Chg.trans kx ch1
            replace OQ := Lib.hid OQ2
            clear OQ2 own8 ch0 ch1 hat oi z0 SX
            refine hK.out _ _ (trivial) (fun hHeld => ?_)
            clear hK K
            try simp only [Act.put, List.setIfInBounds_toArray, List.set_cons_zero, List.set_cons_succ]
            refine wpAnyH_take (i := 9) (oi := ⟨some 36, .indexAddr 136 (.tmp 27) (.tmp 28), 0, "word.go:62", #[⟨0, .data⟩, ⟨1, .data⟩, ⟨0, .phase⟩, ⟨1, .phase⟩, ⟨2, .phase⟩, ⟨3, .phase⟩, ⟨4, .phase⟩, ⟨5, .phase⟩, ⟨6, .phase⟩, ⟨7, .phase⟩, ⟨8, .phase⟩], none⟩) (v := ?_) rfl (by kernel_rfl) (by kernel_rfl) (by kernel_rfl) (fun _ _ _ h => h) (Or.inl ⟨by rfl, ?hyr2x9q123⟩) (by assumption) ?restr2x9q123
            case hyr2x9q123 => intro wq hSw; (go_simp); (try with_reducible rfl)
            try simp only [Act.put, List.setIfInBounds_toArray, List.set_cons_zero, List.set_cons_succ]
            refine wpAnyH_ready (rs := [10]) (by kernel_rfl) (by simp) ?_
            refine AllReadyH.cons (o := ⟨none, .store 23 (.tmp 36) (.tmp 35), 0, "word.go:62", #[⟨9, .data⟩, ⟨8, .data⟩, ⟨8, .chain⟩, ⟨0, .phase⟩, ⟨1, .phase⟩, ⟨2, .phase⟩, ⟨3, .phase⟩, ⟨4, .phase⟩, ⟨5, .phase⟩, ⟨6, .phase⟩, ⟨7, .phase⟩, ⟨8, .phase⟩], none⟩) rfl (fun K hK => ?_) AllReadyH.nil
            go_simp
            clear pc pf
            refine hK.out _ _ (trivial) (fun hHeld => ?_)
            clear hK K
            try simp only [Act.put, List.setIfInBounds_toArray, List.set_cons_zero, List.set_cons_succ]
            refine wpAnyH_done (by kernel_rfl) ?_ _
            replace kx := kx.setNew (p := ⟨g4, KX, none⟩) (Hdr.val (a8, cy.length, cap8)) hg4
            obtain ⟨wz, hwz⟩ : ∃ wz, wz = w8.setCell ⟨g4, KX, none⟩ (.slice a8 cy.length cap8) := ⟨_, rfl⟩
            have OQ := Lib.hid (OwnQ.cast OQ.out (w' := wz) hwz)
            have kx : Ex w1 wz := by rw [hwz]; exact kx
            rw [← hwz]
            clear hwz SXF hHeld hn5 hcl
            go_wp2_with fail
            exact ⟨⟨k + 1, _, by omega, by go_num, by rw [FS.out, FIN.out]; exact OQ.out, kx⟩, by simp [intOf]; omega⟩
          refine AllReadyH.cons (o := ⟨some 34, .buildSlice 23 1 #[(0, .tmp 33)], 23, "word.go:62", #[⟨6, .data⟩], none⟩) rfl (fun K hK => ?_) AllReadyH.nil
          · go_simp
            have SX := SXF wa.drew
            have e7 := Ex.new wa.drew (.cells #[.int .i64 y.id, .string y.key, .int .u32 y.word] 52)
            replace OQ := Lib.hid (OQ.out.nx e7)
            replace kx := kx.nx e7
            clear e7
            refine hK.out _ _ (trivial) (fun hHeld => ?_)
            clear hK K
            try simp only [Act.put, List.setIfInBounds_toArray, List.set_cons_zero, List.set_cons_succ]
            refine wpAnyH_ready (rs := [5]) (by kernel_rfl) (by simp) ?_
            refine AllReadyH.cons (o := ⟨some 32, .load 23 (.tmp 31), 23, "word.go:62", #[⟨4, .data⟩], none⟩) rfl (fun K hK => ?_) AllReadyH.nil
            have cc := (own_cellH OQ.out.1 HQ.out).1
            simp only [Hdr.val] at cc
            (try have cc2 : (wa.alloc (.cells #[.int .i64 y.id, .string y.key, .int .u32 y.word] 52)).cell? ⟨g4, KX, none⟩ = some (.slice qa qn qc) := cc)
            go_simp
            clear cc
            (try clear cc2)
            refine hK.out _ _ (trivial) (fun hHeld => ?_)
            clear hK K
            try simp only [Act.put, List.setIfInBounds_toArray, List.set_cons_zero, List.set_cons_succ]
            refine wpAnyH_ready (rs := [8]) (by kernel_rfl) (by simp) ?_
            refine AllReadyH.cons (o := ⟨some 35, .call { callee := .builtin .append, args := #[.tmp 32, .tmp 34], argTypes := #[23, 23] }, 23, "word.go:62", #[⟨5, .data⟩, ⟨7, .data⟩], none⟩) rfl (fun K hK => ?_) AllReadyH.nil
            rw [if_pos (by rfl)]
            have z0 := Ex.size kx
            have oi := OQ.out.2.2.1 KX _ _ HQ.out HCC.out
            refine wp_append_rda (enc := encN) _ (.tmp 32) (.tmp 34) 23 rfl w1.heap.size 52 (.agg #[.int .i64 0, .string ByteArray.empty, .int .u32 0]) 3 32 Tryd.underlying23 Tryd.infoN rfl (by omega) (by omega) _ c oi rfl _ _ 1 1 [y] SX (fun h => by cases h) (fun _ => rfl) (by simp [encN, Value.oneCell']) rfl (by omega) (by omega) z0 ?_
            intro v8 w8 own8 ch0 ch1 hat
            rw [← HCY.out] at own8
            obtain ⟨a8, cap8, rfl, _, _, _, _⟩ := own8.rd (fun _ => rfl)
            obtain ⟨pc, pf, OQ2⟩ := OwnQ.put (q' := (a8, cy.length, cap8)) OQ.out HQ.out own8 ch0 hat
            replace kx : Ex w1 w8 := Chg.trans kx ch1
            replace OQ := Lib.hid OQ2
            clear OQ2 own8 ch0 ch1 hat oi z0 SX
            refine hK.out _ _ (trivial) (fun hHeld => ?_)
            clear hK K
            try simp only [Act.put, List.setIfInBounds_toArray, List.set_cons_zero, List.set_cons_succ]
            refine wpAnyH_take (i := 9) (oi := ⟨some 36, .indexAddr 136 (.tmp 27) (.tmp 28), 0, "word.go:62", #[⟨0, .data⟩, ⟨1, .data⟩, ⟨0, .phase⟩, ⟨1, .phase⟩, ⟨2, .phase⟩, ⟨3, .phase⟩, ⟨4, .phase⟩, ⟨5, .phase⟩, ⟨6, .phase⟩, ⟨7, .phase⟩, ⟨8, .phase⟩], none⟩) (v := ?_) rfl (by kernel_rfl) (by kernel_rfl) (by kernel_rfl) (fun _ _ _ h => h) (Or.inl ⟨by rfl, ?hyr2x9q172⟩) (by assumption) ?restr2x9q172
            case hyr2x9q172 => intro wq hSw; (go_simp); (try with_reducible rfl)
            try simp only [Act.put, List.setIfInBounds_toArray, List.set_cons_zero, List.set_cons_succ]
            refine wpAnyH_ready (rs := [10]) (by kernel_rfl) (by simp) ?_
            refine AllReadyH.cons (o := ⟨none, .store 23 (.tmp 36) (.tmp 35), 0, "word.go:62", #[⟨9, .data⟩, ⟨8, .data⟩, ⟨8, .chain⟩, ⟨0, .phase⟩, ⟨1, .phase⟩, ⟨2, .phase⟩, ⟨3, .phase⟩, ⟨4, .phase⟩, ⟨5, .phase⟩, ⟨6, .phase⟩, ⟨7, .phase⟩, ⟨8, .phase⟩], none⟩) rfl (fun K hK => ?_) AllReadyH.nil
            go_simp
            clear pc pf
            refine hK.out _ _ (trivial) (fun hHeld => ?_)
            clear hK K
            try simp only [Act.put, List.setIfInBounds_toArray, List.set_cons_zero, List.set_cons_succ]
            refine wpAnyH_done (by kernel_rfl) ?_ _
            replace kx := kx.setNew (p := ⟨g4, KX, none⟩) (Hdr.val (a8, cy.length, cap8)) hg4
            obtain ⟨wz, hwz⟩ : ∃ wz, wz = w8.setCell ⟨g4, KX, none⟩ (.slice a8 cy.length cap8) := ⟨_, rfl⟩
            have OQ := Lib.hid (OwnQ.cast OQ.out (w' := wz) hwz)
            have kx : Ex w1 wz := by rw [hwz]; exact kx
            rw [← hwz]
            clear hwz SXF hHeld hn5 hcl
            go_wp2_with fail
            exact ⟨⟨k + 1, _, by omega, by go_num, by rw [FS.out, FIN.out]; exact OQ.out, kx⟩, by simp [intOf]; omega⟩
    · obtain rfl : k = n := by omega
      rw [List.take_of_length_le (by rw [HL.out]; exact Nat.le_refl _)] at OQ
      obtain ⟨a3, cap3, rfl, ll3, hc3, _, _⟩ := OQ.ll
      have LL3 := Lib.hid ll3
      clear OQ ll3 hk hlt
      go_wp2_with fail
      go_ret
      exact ⟨a3, cap3, by rw [HF.out]; rfl, by rw [HF.out]; exact LL3.out, HK1.out.nx kx⟩
end Go.Proofs.YtbnbjiddffihoaaDoor

/- The plain law of WordSplits: what the classes of two levels have to do with each other. -/
namespace Go.Proofs.YtbnbjiddffihoaaDoor
open Go.RowKit

theorem sameN_refl (a : Nat) {h : Int} (hh : h ≤ 16) : sameN a a h = true := by unfold sameN; rw [common_self]; simpa using hh
theorem sameN_symm {a b : Nat} {h : Int} (hs : sameN a b h = true) : sameN b a h = true := by unfold sameN at *; rw [commonN_comm]; exact hs
theorem sameN_trans {a b c : Nat} {h : Int} (ha : a < 4294967296) (hb : b < 4294967296) (hc : c < 4294967296) (h1 : sameN a b h = true) (h2 : sameN b c h = true) : sameN a c h = true := by
  unfold sameN at *
  have := common_min ha hb hc
  simp at *
  omega
theorem same_succ {a b m : Nat} (ha : a < 4294967296) (hb : b < 4294967296) (hm : m < 16) :
    sameN a b ((m : Int) + 1) = true ↔ sameN a b m = true ∧ bitN a m = bitN b m := by
  have key : a.testBit m = b.testBit m ↔ bitN a m = bitN b m := by
    rw [bitN_of a m hm, bitN_of b m hm]; exact bit_eq_iff a b m
  unfold sameN
  simp only [decide_eq_true_eq]
  constructor
  · intro h
    exact ⟨by omega, key.1 (common_lt ha hb (by omega))⟩
  · rintro ⟨h1, h2⟩
    rcases Nat.lt_or_ge m (commonN a b) with h | h
    · omega
    · exfalso
      have he : commonN a b = m := by omega
      have := common_at ha hb (by omega)
      rw [he] at this
      exact this (key.2 h2)

theorem stepC_cases (h : Int) (C : List (List Nd)) (x : Nd) :
    ((∀ c ∈ C, sameN (headW c) x.word h = false) ∧ stepC h C x = C ++ [[x]]) ∨
    ∃ K c, C[K]? = some c ∧ sameN (headW c) x.word h = true ∧ stepC h C x = C.set K (c ++ [x]) := by
  have hle := idxC_le C x.word h
  by_cases hK : idxC C x.word h = C.length
  · refine .inl ⟨fun c hc => ?_, ?_⟩
    · have := (List.findIdx_eq_length.1 hK) c hc
      simpa using this
    · unfold stepC padC
      rw [hK, if_pos rfl, List.getElem?_append_right (Nat.le_refl _)]
      simp
  · refine .inr ⟨idxC C x.word h, C[idxC C x.word h]'(by omega), by simp, ?_, ?_⟩
    · exact List.findIdx_getElem (p := fun c => sameN (headW c) x.word h) (w := by unfold idxC at *; omega)
    · unfold stepC padC
      rw [if_neg hK]
      congr 2
      rw [List.getElem?_eq_getElem (by omega)]
      rfl

/-- what is known of the classes of a level -/
structure Cls (h : Int) (l : List Nd) (C : List (List Nd)) : Prop where
  all : ∀ y ∈ l, ∃ c ∈ C, y ∈ c
  mem : ∀ c ∈ C, 0 < c.length ∧ ∀ y ∈ c, y ∈ l ∧ sameN (headW c) y.word h = true
  heads : ∀ (i j : Nat) ci cj, C[i]? = some ci → C[j]? = some cj → sameN (headW ci) (headW cj) h = true → i = j
theorem headW_mem {c : List Nd} (h : 0 < c.length) : ∃ y ∈ c, headW c = y.word := by
  cases c with
  | nil => simp at h
  | cons y r => exact ⟨y, by simp, rfl⟩
theorem headW_snoc {c : List Nd} (x : Nd) (h : 0 < c.length) : headW (c ++ [x]) = headW c := by
  cases c with
  | nil => simp at h
  | cons y r => rfl

theorem Cls.step {h : Int} {l : List Nd} {C : List (List Nd)} {x : Nd} (hh : h ≤ 16) (H : Cls h l C) (hl : ∀ y ∈ l, y.word < 4294967296) (hx : x.word < 4294967296) : Cls h (l ++ [x]) (stepC h C x) := by
  have hw : ∀ c ∈ C, headW c < 4294967296 := fun c hc => by
    obtain ⟨y, hy, he⟩ := headW_mem (H.mem c hc).1
    rw [he]; exact hl y ((H.mem c hc).2 y hy).1
  rcases stepC_cases h C x with ⟨hno, he⟩ | ⟨K, c, hc, hs, he⟩
  · rw [he]
    refine ⟨fun y hy => ?_, fun d hd => ?_, fun i j ci cj hi hj hs => ?_⟩
    · rcases List.mem_append.1 hy with hy | hy
      · obtain ⟨c, hc, hyc⟩ := H.all y hy
        exact ⟨c, List.mem_append_left _ hc, hyc⟩
      · exact ⟨[x], by simp, hy⟩
    · rcases List.mem_append.1 hd with hd | hd
      · exact ⟨(H.mem d hd).1, fun y hy => ⟨List.mem_append_left _ ((H.mem d hd).2 y hy).1, ((H.mem d hd).2 y hy).2⟩⟩
      · rw [List.mem_singleton.1 hd]
        refine ⟨by simp, fun y hy => ?_⟩
        rw [List.mem_singleton.1 hy]
        exact ⟨by simp, sameN_refl _ hh⟩
    · have last : ∀ (i : Nat) ci, (C ++ [[x]])[i]? = some ci → (i < C.length ∧ C[i]? = some ci) ∨ (i = C.length ∧ ci = [x]) := by
        intro i ci hi
        rcases Nat.lt_or_ge i C.length with h | h
        · rw [List.getElem?_append_left h] at hi; exact .inl ⟨h, hi⟩
        · have := (List.getElem?_eq_some_iff.1 hi).1
          simp at this
          obtain rfl : i = C.length := by omega
          simp at hi
          exact .inr ⟨rfl, hi.symm⟩
      rcases last i ci hi with ⟨h1, h2⟩ | ⟨h1, h2⟩ <;> rcases last j cj hj with ⟨h3, h4⟩ | ⟨h3, h4⟩
      · exact H.heads i j ci cj h2 h4 hs
      · rw [h4] at hs
        have := hno ci (List.mem_of_getElem? h2)
        rw [show headW [x] = x.word from rfl, this] at hs
        cases hs
      · rw [h2] at hs
        have := hno cj (List.mem_of_getElem? h4)
        have hs := sameN_symm hs
        rw [show headW [x] = x.word from rfl, this] at hs
        cases hs
      · omega
  · rw [he]
    have hcm := H.mem c (List.mem_of_getElem? hc)
    have hKl := (List.getElem?_eq_some_iff.1 hc).1
    refine ⟨fun y hy => ?_, fun d hd => ?_, fun i j ci cj hi hj hs => ?_⟩
    · rcases List.mem_append.1 hy with hy | hy
      · obtain ⟨d, hd, hyd⟩ := H.all y hy
        obtain ⟨j, hj⟩ := List.mem_iff_getElem?.1 hd
        by_cases hjK : j = K
        · subst hjK
          obtain rfl : c = d := Option.some.inj (hc.symm.trans hj)
          exact ⟨c ++ [x], List.mem_iff_getElem?.2 ⟨j, by rw [List.getElem?_set_self hKl]⟩, List.mem_append_left _ hyd⟩
        · exact ⟨d, List.mem_iff_getElem?.2 ⟨j, by rw [List.getElem?_set_ne (by omega)]; exact hj⟩, hyd⟩
      · exact ⟨c ++ [x], List.mem_iff_getElem?.2 ⟨K, by rw [List.getElem?_set_self hKl]⟩, by rw [List.mem_singleton.1 hy]; simp⟩
    · rcases List.mem_or_eq_of_mem_set hd with hd | rfl
      · exact ⟨(H.mem d hd).1, fun y hy => ⟨List.mem_append_left _ ((H.mem d hd).2 y hy).1, ((H.mem d hd).2 y hy).2⟩⟩
      · refine ⟨by simp, fun y hy => ?_⟩
        rw [headW_snoc x hcm.1]
        rcases List.mem_append.1 hy with hy | hy
        · exact ⟨List.mem_append_left _ (hcm.2 y hy).1, (hcm.2 y hy).2⟩
        · rw [List.mem_singleton.1 hy]; exact ⟨by simp, hs⟩
    · have hd : ∀ (i : Nat) ci, (C.set K (c ++ [x]))[i]? = some ci → ∃ di, C[i]? = some di ∧ headW ci = headW di := by
        intro i ci hi
        by_cases hiK : i = K
        · subst hiK
          rw [List.getElem?_set_self hKl] at hi
          cases hi
          exact ⟨c, hc, headW_snoc x hcm.1⟩
        · rw [List.getElem?_set_ne (by omega)] at hi
          exact ⟨ci, hi, rfl⟩
      obtain ⟨di, h1, h2⟩ := hd i ci hi
      obtain ⟨dj, h3, h4⟩ := hd j cj hj
      rw [h2, h4] at hs
      exact H.heads i j di dj h1 h3 hs

theorem snoc_ind {α : Type} {P : List α → Prop} (h0 : P []) (h1 : ∀ l x, P l → P (l ++ [x])) (l : List α) : P l := by
  have : ∀ l : List α, P l.reverse := by
    intro l
    induction l with
    | nil => exact h0
    | cons x r ih => rw [List.reverse_cons]; exact h1 _ _ ih
  have := this l.reverse
  rwa [List.reverse_reverse] at this
theorem foldC_append (h : Int) (l : List Nd) (x : Nd) : foldC h (l ++ [x]) = stepC h (foldC h l) x := by unfold foldC; rw [List.foldl_append]; rfl

end Go.Proofs.YtbnbjiddffihoaaDoor

/- How many classes there are does not depend on the order of the nodes. -/
namespace Go.Proofs.YtbnbjiddffihoaaDoor
open Go.RowKit

open Classical in
/-- how many nodes have none behind them in the same class -/
noncomputable def cntN (h : Int) : List Nd → Nat
  | [] => 0
  | x :: l => cntN h l + if ∃ y ∈ l, sameN y.word x.word h = true then 0 else 1
open Classical in
theorem foldC_cnt {h : Int} (hh : h ≤ 16) (l : List Nd) (hl : ∀ y ∈ l, y.word < 4294967296) : Cls h l (foldC h l) ∧ (foldC h l).length = cntN h l.reverse := by
  induction l using snoc_ind with
  | h0 => exact ⟨⟨by simp, by simp [foldC], by simp [foldC]⟩, rfl⟩
  | h1 l x ih =>
    have hl' : ∀ y ∈ l, y.word < 4294967296 := fun y hy => hl y (List.mem_append_left _ hy)
    have hx : x.word < 4294967296 := hl x (by simp)
    obtain ⟨H1, H3⟩ := ih hl'
    rw [foldC_append]
    refine ⟨H1.step hh hl' hx, ?_⟩
    rw [List.reverse_append, List.reverse_singleton, List.singleton_append]
    unfold cntN
    rw [← H3]
    generalize foldC h l = C at H1
    have hw1 : ∀ c ∈ C, headW c < 4294967296 := fun c hc => by
      obtain ⟨y, hy, he⟩ := headW_mem (H1.mem c hc).1
      rw [he]; exact hl' y ((H1.mem c hc).2 y hy).1
    rcases stepC_cases h C x with ⟨hno, he⟩ | ⟨K, d, hd, hs, he⟩
    · rw [he, if_neg]
      · simp
      · rintro ⟨y, hy, h1⟩
        obtain ⟨c, hc, hyc⟩ := H1.all y (List.mem_reverse.1 hy)
        have := sameN_trans (hw1 c hc) (hl' y (List.mem_reverse.1 hy)) hx ((H1.mem c hc).2 y hyc).2 h1
        rw [hno c hc] at this
        cases this
    · rw [he, if_pos]
      · simp
      · have hdC := List.mem_of_getElem? hd
        obtain ⟨y, hy, hye⟩ := headW_mem (H1.mem d hdC).1
        refine ⟨y, List.mem_reverse.2 ((H1.mem d hdC).2 y hy).1, ?_⟩
        rw [← hye]; exact hs
theorem classes_le (l : List Nd) (h : Int) : (classesN l h).length ≤ l.length := by
  by_cases h16 : 16 < h
  · rw [classesN_big h16]; simp
  · rw [classesN_fold h16]; exact foldC_length h l
end Go.Proofs.YtbnbjiddffihoaaDoor

/- Through and Neighbours of the reference. -/
namespace Go.Proofs.YtbnbjiddffihoaaDoor
open Go.RowKit

def idxI (g : List Nd) (id : Int) : Nat := g.findIdx fun x => x.id == id
theorem idxI_of {g : List Nd} {id : Int} {k : Nat} {y : Nd} (hy : g[k]? = some y) (he : y.id = id) (hno : ∀ j z, j < k → g[j]? = some z → z.id ≠ id) : idxI g id = k := by
  have hk := (List.getElem?_eq_some_iff.1 hy).1
  have hv := (List.getElem?_eq_some_iff.1 hy).2
  rw [idxI, List.findIdx_eq hk]
  refine ⟨by rw [hv]; simpa using he, fun j hj => ?_⟩
  have := hno j _ hj (List.getElem?_eq_getElem (by omega))
  simpa using this
/-- the list of a level through a node, the node's place in it -/
def thrG (l : List Nd) (id : Int) (h : Int) : List Nd := groupN (sortN l) h (findN l id).1.word
def throughN (l : List Nd) (id : Int) (h : Int) : List Nd × Nat × Bool :=
  if (findN l id).2 = true ∧ (checkN l == 0) = true ∧ lvlN h = true ∧ idxI (thrG l id h) id < (thrG l id h).length then (thrG l id h, idxI (thrG l id h) id, true) else ([], 0, false)
theorem findN_word {l : List Nd} (hw : ∀ x ∈ l, x.word < 4294967296) (id : Int) : (findN l id).1.word < 4294967296 := by
  unfold findN
  split
  · rename_i x hx
    exact hw x (List.mem_of_find?_eq_some hx)
  · show 0 < _; omega

def leftN (g : List Nd) (i : Nat) : Int := if i = 0 then 0 else (g[i - 1]?.getD Nd.zero).id
def rightN (g : List Nd) (i : Nat) : Int := (g[i + 1]?.getD Nd.zero).id
def neighN (l : List Nd) (id : Int) (h : Int) : (Int × Int) × Bool :=
  if (throughN l id h).2.2 then ((leftN (throughN l id h).1 (throughN l id h).2.1, rightN (throughN l id h).1 (throughN l id h).2.1), true) else ((0, 0), false)
def NgPost (r : (Int × Int) × Bool) (w : World) (e : Ending) (w' : World) : Prop :=
  e = .returned (.tuple #[.agg #[.int .i64 r.1.1, .int .i64 r.1.2], .bool r.2]) ∧ Ex w w'

end Go.Proofs.YtbnbjiddffihoaaDoor

/- Nodes, and walks over Group of the package word and of its reference. -/
namespace Go.Proofs.YtbnbjiddffihoaaDoor
open Go.RowKit

set_option maxHeartbeats 1000000 in
theorem group_p {S : Nat → Prop} (a : Option Addr) (n cap : Nat) (l : List Nd) (h : Int) (v : Nat) (w : World) (hr : Rd 3 encN S w a n l) (hS : ∀ k, S k → k < w.heap.size) (hn : n ≤ 1000)
    (hw : ∀ x ∈ l, x.word < 4294967296) (hv : v < 4294967296) (hT : TabG w) :
    Calls Tryd.prog 90 #[.slice a n cap, .int .i64 h, .int .u32 v] w (NodesPost (groupN l h v) w) := by
  have hlen := hr.1
  have hlt := hT.lt
  have HT := Lib.hid hT
  have HL := Lib.hid hlen
  have HW := Lib.hid hw
  clear hT hlen hw
  go_enter Tryd.func90, Tryd.ntmps90
  go_wp2
  go_loopw [7, 12] (fun o i wr => GroupRel l h v w o i wr) (fun _ i _ => n - (intOf i).toNat)
  case atStart => exact ⟨0, by omega, rfl, OwnL.nil _ _ _ _ _, Chg.refl _ _⟩
  case round =>
    obtain ⟨k, hk, rfl, hown, hc⟩ := hrel
    obtain ⟨wo, rfl⟩ : ∃ wo : World, wo = wr := ⟨_, rfl⟩
    have hwo := hr.chg hc hS
    have hsz := hc.size
    have HT' := Lib.hid (HT.out.chg hc hlt)
    have hgl := groupN_length (l.take k) h v
    rw [List.length_take] at hgl
    have hkl := HL.out
    by_cases hlt' : k < n
    · obtain ⟨x, o, y, rfl, hx, hy, hcell⟩ := hwo.at hlt'
      have e0 : wo.cell? ⟨x, o + k * 3, none⟩ = some (.int .i64 y.id) := hcell 0 _ rfl
      have e1 : wo.cell? ⟨x, o + k * 3 + 1, none⟩ = some (.string y.key) := hcell 1 _ rfl
      have e2 : wo.cell? ⟨x, o + k * 3 + 1 + 1, none⟩ = some (.int .u32 y.word) := by simpa [Nat.add_assoc] using hcell 2 _ rfl
      have hyw := HW.out y (List.mem_of_getElem? hy)
      have Hy := Lib.hid hy
      have hc1 := hc.alloc (.cells #[.int .i64 y.id, .string y.key, .int .u32 y.word] 52) (by intro k hk; omega)
      have hown1 := hown.alloc (.cells #[.int .i64 y.id, .string y.key, .int .u32 y.word] 52)
      have HT1 := Lib.hid (HT'.out.chg ((Chg.refl (· < wo.heap.size) wo).alloc (.cells #[.int .i64 y.id, .string y.key, .int .u32 y.word] 52) (by simp)) (by omega))
      clear hy hcell hr hwo hkl
      by_cases hs : sameN y.word v h = true
      · go_wp2_with (first
          | (go_at_call 124; refine (same_p _ _ _ _ hyw hv HT1.out).mono ?_; rintro e w1 ⟨rfl, rfl⟩)
          | (at_builtin; go_loud (refine wpList_append_lit (enc := encN) (wo.alloc (.cells #[.int .i64 y.id, .string y.key, .int .u32 y.word] 52)) rfl _ _ 23 rfl w.heap.size 52 (.agg #[.int .i64 0, .string ByteArray.empty, .int .u32 0]) 3 32 Tryd.underlying23 Tryd.infoN rfl (by omega) (by omega) _ _ hown1 rfl y _ rfl rfl (by simp [encN, Value.oneCell']) _ (by simp) rfl (by omega) (by simp; omega) _ ?_); intro v' w3 hown3 _ hch3 hz3))
        go_roundw
        case rel => exact ⟨k + 1, by have := HL.out; omega, by go_num, by rw [groupN_snoc l h v k y Hy.out, if_pos hs]; exact hown3, hc1.then hch3 (fun _ h => h)⟩
        case measure => simp [intOf]; omega
      · have hs : sameN y.word v h = false := by simpa using hs
        go_wp2_with (go_at_call 124; refine (same_p _ _ _ _ hyw hv HT1.out).mono ?_; rintro e w1 ⟨rfl, rfl⟩)
        go_roundw
        case rel => exact ⟨k + 1, by have := HL.out; omega, by go_num, by rw [groupN_snoc l h v k y Hy.out, if_neg (by simp [hs])]; exact hown1, hc1⟩
        case measure => simp [intOf]; omega
    · obtain rfl : k = n := by omega
      rw [List.take_of_length_le (by omega)] at hown
      obtain ⟨a', cap', rfl, hrd, _⟩ := hown.rd (fun _ => rfl)
      clear hown hr hwo
      go_wp2
      go_ret
      exact ⟨a', _, cap', rfl, hrd, hc⟩

end Go.Proofs.YtbnbjiddffihoaaDoor

/- ordered and Height of the package ideal. -/
namespace Go.Proofs.YtbnbjiddffihoaaDoor
open Go.RowKit

/-- a sorted list of nodes, and whether they are a roster -/
def OrdPost (l : List Nd) (w : World) (e : Ending) (w' : World) : Prop :=
  ∃ (v : Value) (S : List Nd), e = .returned (.tuple #[v, .bool (checkN l == 0)]) ∧ OwnL 3 encN 52 w.heap.size w' v S ∧ (S.Perm l ∧ (checkN l = 0 → S = sortN l)) ∧ Ex w w'
set_option maxHeartbeats 1000000 in
theorem ordered_p (a : Option Addr) (n c : Nat) (l : List Nd) (w : World) (h : Sl 3 encN w a n l) (hn : n ≤ 1000) (hc : n ≤ c) (hm : c ≤ maxLen) :
    Calls Tryd.prog 75 #[.slice a n c] w (OrdPost l w) := by
  go_enter Tryd.func75, Tryd.ntmps75
  go_wp2_with fail
  (with_reducible refine (sort_p _ _ _ _ _ h hn).mono ?_)
  rintro e w1 ⟨v, S, rfl, own1, ⟨hp, ha⟩, k1⟩
  have h1 := h.nx k1
  have O1 := Lib.hid own1
  have HP := Lib.hid hp
  have HA := Lib.hid ha
  have K1 := Lib.hid k1
  clear h own1 hp ha k1
  go_wp2_with fail
  (with_reducible refine (check_p _ _ _ _ _ h1 (by omega) hc hm).mono ?_)
  rintro e w2 ⟨rfl, k2⟩
  have O2 := Lib.hid (O1.out.nx k2)
  have K2 := Lib.hid (K1.out.nx k2)
  clear h1 k2
  go_wp2_with fail
  go_ret2
  exact ⟨v, S, rfl, O2.out, ⟨HP.out, fun h0 => sortN_unique (check_keys h0) HP.out HA.out⟩, K2.out⟩

/-- the neighbours that are found in a list of nodes: the last one before x, the first one behind it -/
def nbStep (x : Nd) (s : Int × Int) (y : Nd) : Int × Int :=
  (if Op.bytesLess y.key.toList x.key.toList then y.id else s.1, if !(Op.bytesLess y.key.toList x.key.toList || y.key.toList == x.key.toList) && s.2 == 0 then y.id else s.2)
def nbFold (x : Nd) (G : List Nd) : Int × Int := G.foldl (nbStep x) (0, 0)
theorem nbFold_snoc (x : Nd) (G : List Nd) (k : Nat) (y : Nd) (hy : G[k]? = some y) : nbFold x (G.take (k + 1)) = nbStep x (nbFold x (G.take k)) y := by
  unfold nbFold
  rw [take_snocN G k y hy, List.foldl_append]
  rfl
end Go.Proofs.YtbnbjiddffihoaaDoor

/- The neighbours of a node in a sorted list, in plain Lean. -/
namespace Go.Proofs.YtbnbjiddffihoaaDoor
open Go.RowKit

/-- strictly ascending by key, with different numbers -/
def AscS (l : List Nd) : Prop := l.Pairwise fun x y => Op.bytesLess x.key.toList y.key.toList = true ∧ x.id ≠ y.id
theorem keys_pw {l : List Nd} (h : KeysN l) : l.Pairwise fun x y => x.key.toList ≠ y.key.toList ∧ x.id ≠ y.id := by
  rw [List.pairwise_iff_getElem]
  intro i j hi hj hij
  have := h j i l[j] l[i] hij (List.getElem?_eq_getElem hj) (List.getElem?_eq_getElem hi)
  refine ⟨fun he => this.1 ?_, fun he => this.2 he.symm⟩
  rw [ByteArray.toList_eq, ByteArray.toList_eq] at he
  exact (ByteArray.ext (Array.toList_inj.1 he)).symm
theorem sortN_str {l : List Nd} (h : checkN l = 0) : AscS (sortN l) := by
  have h1 : (sortN l).Pairwise fun x y => x.key.toList ≠ y.key.toList ∧ x.id ≠ y.id :=
    ((sortN_perm l).symm.pairwise_iff (fun {x y} hxy => ⟨fun he => hxy.1 he.symm, fun he => hxy.2 he.symm⟩)).1 (keys_pw (check_keys h))
  have h2 := sortN_asc l
  unfold AscN at h2
  unfold AscS
  refine (h1.and h2).imp ?_
  rintro x y ⟨⟨a, b⟩, c⟩
  rw [ltN_no] at c
  rcases c with c | ⟨c, _⟩
  · exact ⟨c, b⟩
  · exact absurd c.symm a
theorem asc_group {l : List Nd} (h : AscS l) (lev : Int) (v : Nat) : AscS (groupN l lev v) := List.Pairwise.filter _ h
theorem asc_at {G : List Nd} (h : AscS G) {i j : Nat} {x y : Nd} (hx : G[i]? = some x) (hy : G[j]? = some y) (hij : i < j) : Op.bytesLess x.key.toList y.key.toList = true ∧ x.id ≠ y.id := by
  obtain ⟨hi, e1⟩ := List.getElem?_eq_some_iff.1 hx
  obtain ⟨hj, e2⟩ := List.getElem?_eq_some_iff.1 hy
  have := List.pairwise_iff_getElem.1 h i j hi hj hij
  rwa [e1, e2] at this
theorem idxI_at {G : List Nd} (h : AscS G) {i : Nat} {x : Nd} (hx : G[i]? = some x) : idxI G x.id = i := by
  refine idxI_of hx rfl fun j z hj hz => ?_
  exact (asc_at h hz hx hj).2
theorem step_less {x y : Nd} {s : Int × Int} (h : Op.bytesLess y.key.toList x.key.toList = true) : nbStep x s y = (y.id, s.2) := by unfold nbStep; rw [h]; rfl
theorem step_same (x : Nd) (s : Int × Int) : nbStep x s x = s := by unfold nbStep; simp [bytesLess_irrefl]
theorem step_more {x y : Nd} {s : Int × Int} (h : Op.bytesLess x.key.toList y.key.toList = true) : nbStep x s y = (s.1, if s.2 = 0 then y.id else s.2) := by
  have h1 := bl_asymm h
  have h2 : (y.key.toList == x.key.toList) = false := by
    rw [beq_eq_false_iff_ne]
    intro he
    rw [he, bytesLess_irrefl] at h
    cases h
  unfold nbStep
  rw [h1, h2]
  simp
theorem nbFold_a {G : List Nd} (h : AscS G) {i : Nat} {x : Nd} (hx : G[i]? = some x) : ∀ k, k ≤ i → nbFold x (G.take k) = (leftN G k, 0) := by
  intro k
  induction k with
  | zero => intro _; rfl
  | succ k ih =>
    intro hk
    have hl := (List.getElem?_eq_some_iff.1 hx).1
    obtain ⟨y, hy⟩ : ∃ y, G[k]? = some y := ⟨G[k], List.getElem?_eq_getElem (by omega)⟩
    rw [nbFold_snoc x G k y hy, ih (by omega), step_less (asc_at h hy hx (by omega)).1]
    show ((y.id, 0) : Int × Int) = (leftN G (k + 1), 0)
    unfold leftN
    rw [if_neg (by omega), Nat.add_sub_cancel, hy]
    rfl
theorem nbFold_b {G : List Nd} (h : AscS G) {i : Nat} {x : Nd} (hx : G[i]? = some x) : nbFold x (G.take (i + 1)) = (leftN G i, 0) := by
  rw [nbFold_snoc x G i x hx, nbFold_a h hx i (Nat.le_refl _), step_same]
theorem nbFold_c {G : List Nd} (h : AscS G) (hid : ∀ y ∈ G, 1 ≤ y.id) {i : Nat} {x : Nd} (hx : G[i]? = some x) : ∀ d, i + 2 + d ≤ G.length → nbFold x (G.take (i + 2 + d)) = (leftN G i, rightN G i) := by
  intro d hd
  have hd0 : i + 1 < G.length := by omega
  obtain ⟨z, hz⟩ : ∃ z, G[i + 1]? = some z := ⟨G[i + 1], List.getElem?_eq_getElem hd0⟩
  have hz1 := hid z (List.mem_of_getElem? hz)
  have hr : rightN G i = z.id := by unfold rightN; rw [hz]; rfl
  induction d with
  | zero =>
    rw [Nat.add_zero, show i + 2 = i + 1 + 1 from rfl, nbFold_snoc x G (i + 1) z hz, nbFold_b h hx, step_more (asc_at h hx hz (by omega)).1, hr]
    rfl
  | succ d ih =>
    obtain ⟨y, hy⟩ : ∃ y, G[i + 2 + d]? = some y := ⟨G[i + 2 + d]'(by omega), List.getElem?_eq_getElem (by omega)⟩
    rw [← Nat.add_assoc, nbFold_snoc x G (i + 2 + d) y hy, ih (by omega), step_more (asc_at h hx hy (by omega)).1]
    show (leftN G i, if rightN G i = 0 then y.id else rightN G i) = _
    rw [if_neg (by rw [hr]; omega)]
theorem nbFold_all {G : List Nd} (h : AscS G) (hid : ∀ y ∈ G, 1 ≤ y.id) {i : Nat} {x : Nd} (hx : G[i]? = some x) : nbFold x G = (leftN G i, rightN G i) := by
  have hl := (List.getElem?_eq_some_iff.1 hx).1
  rcases Nat.lt_or_ge (i + 1) G.length with h1 | h1
  · have := nbFold_c h hid hx (G.length - (i + 2)) (by omega)
    rwa [show i + 2 + (G.length - (i + 2)) = G.length by omega, List.take_length] at this
  · have := nbFold_b h hx
    rw [show i + 1 = G.length by omega, List.take_length] at this
    rw [this]
    have : rightN G i = 0 := by unfold rightN; rw [List.getElem?_eq_none h1]; rfl
    rw [this]
/-- the neighbours by the definition of the reference -/
theorem neighN_no {l : List Nd} {id h : Int} (hno : checkN l ≠ 0 ∨ (findN l id).2 = false ∨ lvlN h = false) : neighN l id h = ((0, 0), false) := by
  have ht : throughN l id h = ([], 0, false) := by
    unfold throughN
    rw [if_neg]
    rintro ⟨h1, h2, h3, _⟩
    rcases hno with h | h | h
    · exact h (by simpa using h2)
    · rw [h1] at h; cases h
    · rw [h3] at h; cases h
  unfold neighN
  rw [ht]
  rfl
theorem findN_mem {l : List Nd} {id : Int} (h : (findN l id).2 = true) : (findN l id).1 ∈ l ∧ (findN l id).1.id = id := by
  unfold findN at *
  cases e : l.find? (fun x => x.id == id) with
  | none => rw [e] at h; cases h
  | some x =>
    exact ⟨List.mem_of_find?_eq_some e, by simpa using List.find?_some e⟩
theorem neighN_yes {l : List Nd} {id h : Int} (h1 : checkN l = 0) (h2 : (findN l id).2 = true) (h3 : lvlN h = true) :
    ∃ i, (thrG l id h)[i]? = some (findN l id).1 ∧ throughN l id h = (thrG l id h, i, true) ∧ neighN l id h = ((leftN (thrG l id h) i, rightN (thrG l id h) i), true) := by
  obtain ⟨m1, m2⟩ := findN_mem h2
  have hA : AscS (thrG l id h) := asc_group (sortN_str h1) h _
  have hm : (findN l id).1 ∈ thrG l id h := by
    unfold thrG groupN
    rw [List.mem_filter]
    exact ⟨(sortN_mem l _).2 m1, sameN_refl _ (by unfold lvlN at h3; simp at h3; exact h3.2)⟩
  obtain ⟨i, hi⟩ := List.mem_iff_getElem?.1 hm
  have hid := idxI_at hA hi
  rw [m2] at hid
  have hlt := (List.getElem?_eq_some_iff.1 hi).1
  have ht : throughN l id h = (thrG l id h, i, true) := by
    unfold throughN
    rw [if_pos ⟨h2, by rw [h1]; rfl, h3, by rw [hid]; exact hlt⟩, hid]
  refine ⟨i, hi, ht, ?_⟩
  unfold neighN
  rw [ht]
  rfl
theorem nbFold_neigh {l : List Nd} {id h : Int} (h1 : checkN l = 0) (h2 : (findN l id).2 = true) (h3 : lvlN h = true) : neighN l id h = (nbFold (findN l id).1 (thrG l id h), true) := by
  obtain ⟨i, hi, _, hn⟩ := neighN_yes h1 h2 h3
  have hA : AscS (thrG l id h) := asc_group (sortN_str h1) h _
  have hid : ∀ y ∈ thrG l id h, 1 ≤ y.id := fun y hy => by
    unfold thrG groupN at hy
    have := (sortN_mem l y).1 (List.mem_filter.1 hy).1
    unfold checkN at h1
    split at h1
    · omega
    · split at h1
      · omega
      · rename_i hb
        have hb : badN y = false := by
          cases hy2 : badN y with
          | false => rfl
          | true => exact absurd (List.any_eq_true.2 ⟨y, this, hy2⟩) hb
        unfold badN at hb
        simp only [Bool.or_eq_false_iff, decide_eq_false_iff_not] at hb
        omega
  rw [hn, nbFold_all hA hid hi]
end Go.Proofs.YtbnbjiddffihoaaDoor

/- Neighbours of the package ideal. -/
namespace Go.Proofs.YtbnbjiddffihoaaDoor
open Go.RowKit

def NiRel (x : Nd) (G : List Nd) (g12 : Nat) (w : World) (i : Value) (wr : World) : Prop :=
  ∃ k : Nat, k ≤ G.length ∧ i = .int .i64 k ∧ Exb g12 w wr ∧ Blk wr g12 [.int .i64 (nbFold x (G.take k)).1, .int .i64 (nbFold x (G.take k)).2] 92
theorem ng_no {l : List Nd} {id h : Int} {w w' : World} (hno : neighN l id h = ((0, 0), false)) (k : Ex w w') : NgPost (neighN l id h) w (.returned (.tuple #[.agg #[.int .i64 0, .int .i64 0], .bool false])) w' := by
  rw [hno]; exact ⟨rfl, k⟩
theorem OwnL.sl3 {sz e base : Nat} {α : Type} {enc : α → List Value} {w : World} {v : Value} {l : List α} (h : OwnL sz enc e base w v l) (hsz : ∀ y, (enc y).length = sz) : ∃ a cap, v = .slice a l.length cap ∧ Sl sz enc w a l.length l ∧ l.length ≤ cap ∧ cap ≤ maxLen := by
  obtain ⟨a, cap, e, h1, h2, h3, _⟩ := h.rd hsz
  exact ⟨a, cap, e, h1.mono (fun _ hk => hk.2), h2, h3⟩

set_option maxRecDepth 100000 in
set_option maxHeartbeats 2000000 in
theorem neigh_p (a : Option Addr) (n c : Nat) (l : List Nd) (id h : Int) (w : World) (hs : Sl 3 encN w a n l) (hn : n ≤ 1000) (hc : n ≤ c) (hm : c ≤ maxLen) (hw : ∀ x ∈ l, x.word < 4294967296) (hT : TabG w) :
    Calls Tryd.prog 69 #[.slice a n c, .int .i64 id, .int .i64 h] w (NgPost (neighN l id h) w) := by
  have HW := Lib.hid hw
  have HXW := findN_word hw id
  have HL := Lib.hid hs.len
  have k1 := Ex.new w (.cells #[.int .i64 0, .int .i64 0] 92)
  have B1 := Blk.new w [.int .i64 0, .int .i64 0] 92
  obtain ⟨w1, hw1⟩ : ∃ w1, w1 = w.alloc (.cells #[.int .i64 0, .int .i64 0] 92) := ⟨_, rfl⟩
  obtain ⟨g, hg⟩ : ∃ g, g = w.heap.size := ⟨_, rfl⟩
  have B1 : Blk w1 g [.int .i64 0, .int .i64 0] 92 := by rw [hw1, hg]; exact B1
  rw [← hw1] at k1
  have hgn : w.heap.size ≤ g := by omega
  have HW1 := Lib.hid hw1
  have HG := Lib.hid hg
  have S1 := hs.nx k1
  have HT := Lib.hid (hT.nx k1)
  clear hs hw1 hg hw hT
  go_enter Tryd.func69, Tryd.ntmps69
  go_upto_region 1 with fail
  rw [← HG.out, ← HW1.out]
  go_wp2_with fail
  (with_reducible refine (ordered_p _ _ _ _ _ S1 hn hc hm).mono ?_)
  rintro e w2 ⟨v, S, rfl, OS, ⟨hp, hsrt⟩, k2⟩
  have SL := Lib.hid hp.length_eq
  have HSR := Lib.hid hsrt
  have SW : Hid (∀ x ∈ S, x.word < 4294967296) := Lib.hid (fun x hx => HW.out x (hp.mem_iff.1 hx))
  replace S1 := S1.nx k2
  replace B1 := B1.nx k2
  replace HT := Lib.hid (HT.out.nx k2)
  replace k1 := k1.nx k2
  have OS := Lib.hid OS
  clear hp hsrt k2
  go_wp2_with fail
  (with_reducible refine (find_p _ _ _ _ _ _ S1 (by omega)).mono ?_)
  rintro e w3 ⟨rfl, k3⟩
  obtain ⟨F, hF⟩ : ∃ F, F = findN l id := ⟨_, rfl⟩
  have HF := Lib.hid hF
  rw [← hF] at HXW ⊢
  obtain ⟨⟨xi, xk, xw⟩, ok⟩ := F
  have k4 := Ex.new w3 (.cells #[.int .i64 xi, .string xk, .int .u32 xw] 52)
  have B2 := Blk.new w3 [.int .i64 xi, .string xk, .int .u32 xw] 52
  obtain ⟨w4, hw4⟩ : ∃ w4, w4 = w3.alloc (.cells #[.int .i64 xi, .string xk, .int .u32 xw] 52) := ⟨_, rfl⟩
  obtain ⟨g2, hg2⟩ : ∃ g2, g2 = w3.heap.size := ⟨_, rfl⟩
  have B2 : Blk w4 g2 [.int .i64 xi, .string xk, .int .u32 xw] 52 := by rw [hw4, hg2]; exact B2
  rw [← hw4] at k4
  have HW4 := Lib.hid hw4
  have HG2 := Lib.hid hg2
  replace k3 := k3.nx k4
  replace OS := Lib.hid (OS.out.nx k3)
  replace B1 := B1.nx k3
  replace HT := Lib.hid (HT.out.nx k3)
  replace k1 := k1.nx k3
  clear hF hw4 hg2 k4 k3 S1
  simp only [Nd.val]
  go_upto_region 3 with fail
  rw [← HG2.out, ← HW4.out]
  by_cases hck : checkN l = 0
  case neg =>
    have HNO : Hid (neighN l id h = ((0, 0), false)) := Lib.hid (neighN_no (.inl hck))
    have d1 : (checkN l == 0) = false := by simpa using hck
    rw [d1]
    have q0 := B1.cell 0 _ rfl
    have q1 := B1.cell 1 _ rfl
    have z0 := B1.free 0
    have z1 := B1.free 1
    clear hck d1 B2
    go_wp2_with fail
    refine bodyPost_ret (v := .tuple #[.agg #[.int .i64 0, .int .i64 0], .bool false]) (by simp [results, Tryd.results69, go_sem, *]) rfl (ng_no HNO.out ?_)
    exact (k1.setNew (p := ⟨g, 0, none⟩) _ hgn).setNew (p := ⟨g, 1, none⟩) _ hgn
  have HCK := Lib.hid hck
  have d1 : (checkN l == 0) = true := by simpa using hck
  rw [d1]
  clear hck d1
  cases ok with
  | false =>
    have HNO : Hid (neighN l id h = ((0, 0), false)) := Lib.hid (neighN_no (.inr (.inl (by rw [← HF.out]))))
    have q0 := B1.cell 0 _ rfl
    have q1 := B1.cell 1 _ rfl
    have z0 := B1.free 0
    have z1 := B1.free 1
    clear B2
    go_wp2_with fail
    refine bodyPost_ret (v := .tuple #[.agg #[.int .i64 0, .int .i64 0], .bool false]) (by simp [results, Tryd.results69, go_sem, *]) rfl (ng_no HNO.out ?_)
    exact (k1.setNew (p := ⟨g, 0, none⟩) _ hgn).setNew (p := ⟨g, 1, none⟩) _ hgn
  | true =>
    by_cases hlo : h < 0
    · have HNO : Hid (neighN l id h = ((0, 0), false)) := Lib.hid (neighN_no (.inr (.inr (by unfold lvlN; simp; omega))))
      have q0 := B1.cell 0 _ rfl
      have q1 := B1.cell 1 _ rfl
      have z0 := B1.free 0
      have z1 := B1.free 1
      clear B2
      go_wp2_with fail
      refine bodyPost_ret (v := .tuple #[.agg #[.int .i64 0, .int .i64 0], .bool false]) (by simp [results, Tryd.results69, go_sem, *]) rfl (ng_no HNO.out ?_)
      exact (k1.setNew (p := ⟨g, 0, none⟩) _ hgn).setNew (p := ⟨g, 1, none⟩) _ hgn
    · by_cases hhi : 16 < h
      · have HNO : Hid (neighN l id h = ((0, 0), false)) := Lib.hid (neighN_no (.inr (.inr (by unfold lvlN; simp; omega))))
        have q0 := B1.cell 0 _ rfl
        have q1 := B1.cell 1 _ rfl
        have z0 := B1.free 0
        have z1 := B1.free 1
        clear B2
        go_wp2_with fail
        refine bodyPost_ret (v := .tuple #[.agg #[.int .i64 0, .int .i64 0], .bool false]) (by simp [results, Tryd.results69, go_sem, *]) rfl (ng_no HNO.out ?_)
        exact (k1.setNew (p := ⟨g, 0, none⟩) _ hgn).setNew (p := ⟨g, 1, none⟩) _ hgn
      · have HYES : Hid (neighN l id h = (nbFold ⟨xi, xk, xw⟩ (groupN S h xw), true)) := Lib.hid (by
          have := nbFold_neigh (l := l) (id := id) (h := h) HCK.out (by rw [← HF.out]) (by unfold lvlN; simp; omega)
          unfold thrG at this
          rw [← HF.out, ← HSR.out HCK.out] at this
          exact this)
        have k5 := Ex.new w4 (.cells #[.int .i64 0, .int .i64 0] 92)
        have B3 := Blk.new w4 [.int .i64 0, .int .i64 0] 92
        obtain ⟨w5, hw5⟩ : ∃ w5, w5 = w4.alloc (.cells #[.int .i64 0, .int .i64 0] 92) := ⟨_, rfl⟩
        obtain ⟨g3, hg3⟩ : ∃ g3, g3 = w4.heap.size := ⟨_, rfl⟩
        have B3 : Blk w5 g3 [.int .i64 0, .int .i64 0] 92 := by rw [hw5, hg3]; exact B3
        rw [← hw5] at k5
        have h13 : g ≠ g3 := by have := B1.lt; omega
        have h23 : g2 ≠ g3 := by have := B2.lt; omega
        have hgn3 : w.heap.size ≤ g3 := by have := k1.size; omega
        have HW5 := Lib.hid hw5
        have HG3 := Lib.hid hg3
        replace OS := OS.out.nx k5
        replace B1 := B1.nx k5
        replace B2 := B2.nx k5
        replace HT := Lib.hid (HT.out.nx k5)
        replace k1 := k1.nx k5
        obtain ⟨aS, cS, rfl, sS, _, _⟩ := OS.sl3 (fun _ => rfl)
        have b22 := B2.cell 2 _ rfl
        have hnS : S.length ≤ 1000 := by have := HL.out; have := SL.out; omega
        clear hw5 hg3 k5
        go_upto_region 6 with fail
        rw [← HG3.out, ← HW5.out]
        clear OS
        have sS : Rd 3 encN (· < w5.heap.size) w5 aS S.length S := sS
        go_wp2_with fail
        (with_reducible refine (group_p _ _ _ _ _ _ _ sS (fun _ hk => hk) hnS SW.out HXW HT.out).mono ?_)
        rintro e w6 ⟨a6, n6, c6, rfl, r6, k6⟩
        have r6 : Slf 3 encN w5 w6 a6 n6 _ := r6
        replace k6 : Ex w5 w6 := k6
        have hgl := groupN_length S h xw
        generalize groupN S h xw = G at r6 HYES hgl ⊢
        have RG := Lib.hid (r6.slb B3.lt)
        have hng := r6.len
        subst hng
        replace B1 := B1.nx k6
        replace B2 := Lib.hid (B2.nx k6)
        replace B3 := B3.nx k6
        replace k1 := k1.nx k6
        have B1 := Lib.hid B1
        clear r6 k6 sS b22
        have hG6 : G.length ≤ 1000 := by omega
        go_wp2_with fail
        go_loopw [47] (fun i wr => NiRel ⟨xi, xk, xw⟩ G g3 w6 i wr) (fun i _ => G.length - (intOf i).toNat)
        case atStart => exact ⟨0, by omega, rfl, Exb.refl _ _, B3⟩
        case round =>
          obtain ⟨k, hk, rfl, kw, B3⟩ := hrel
          obtain ⟨wo, rfl⟩ : ∃ wo : World, wo = wr := ⟨_, rfl⟩
          by_cases hlt : k < G.length
          · obtain ⟨x1, o1, y, rfl, hx1, hy, hc1⟩ := ((RG.out.nxb kw).sl).at hlt
            obtain ⟨yi, yk, yw⟩ := y
            have e0 : wo.cell? ⟨x1, o1 + k * 3, none⟩ = some (.int .i64 yi) := hc1 0 _ rfl
            have e1 : wo.cell? ⟨x1, o1 + k * 3 + 1, none⟩ = some (.string yk) := hc1 1 _ rfl
            have e2 : wo.cell? ⟨x1, o1 + k * 3 + 2, none⟩ = some (.int .u32 yw) := hc1 2 _ rfl
            have e2' : wo.cell? ⟨x1, o1 + k * 3 + 1 + 1, none⟩ = some (.int .u32 yw) := e2
            have FS : Hid (nbFold ⟨xi, xk, xw⟩ (G.take (k + 1)) = nbStep ⟨xi, xk, xw⟩ (nbFold ⟨xi, xk, xw⟩ (G.take k)) ⟨yi, yk, yw⟩) := Lib.hid (nbFold_snoc _ _ _ _ hy)
            clear hy hc1
            obtain ⟨FF, hFF⟩ : ∃ FF, FF = nbFold ⟨xi, xk, xw⟩ (G.take k) := ⟨_, rfl⟩
            rw [← hFF] at B3 FS
            clear hFF
            obtain ⟨f1, f2⟩ := FF
            have k7 := Ex.new wo (.cells #[.int .i64 yi, .string yk, .int .u32 yw] 52)
            have B4 := Blk.new wo [.int .i64 yi, .string yk, .int .u32 yw] 52
            obtain ⟨w7, hw7⟩ : ∃ w7, w7 = wo.alloc (.cells #[.int .i64 yi, .string yk, .int .u32 yw] 52) := ⟨_, rfl⟩
            obtain ⟨g4, hg4⟩ : ∃ g4, g4 = wo.heap.size := ⟨_, rfl⟩
            have B4 : Blk w7 g4 [.int .i64 yi, .string yk, .int .u32 yw] 52 := by rw [hw7, hg4]; exact B4
            rw [← hw7] at k7
            have h34 : g3 ≠ g4 := by have := B3.lt; omega
            have HW7 := Lib.hid hw7
            have HG4 := Lib.hid hg4
            have B3 := B3.nx k7
            have kw := kw.nxb (k7.b g3)
            have B2' := B2.out.nxb h23 kw
            clear hw7 hg4 k7
            go_upto_region 9 with fail
            rw [← HG4.out, ← HW7.out]
            clear e0 e1 e2 e2'
            have p1 := B2'.cell 1 _ rfl
            have y0 := B4.cell 0 _ rfl
            have y1 := B4.cell 1 _ rfl
            have t0 := B3.cell 0 _ rfl
            have t1 := B3.cell 1 _ rfl
            have z0 := B3.free 0
            have z1 := B3.free 1
            cases hb : Op.bytesLess yk.toList xk.toList with
            | true =>
              have FS' : Hid (nbFold ⟨xi, xk, xw⟩ (G.take (k + 1)) = (yi, f2)) := Lib.hid (by rw [FS.out]; exact step_less hb)
              have B3' := B3.set 0 (.int .i64 yi)
              clear B2' B4 B3
              go_wp2_with fail
              refine ⟨⟨k + 1, by omega, by go_num, kw.setB _ rfl, ?_⟩, by simp [intOf]; omega⟩
              rw [FS'.out]; exact B3'
            | false =>
              cases he : (yk.toList == xk.toList) with
              | true =>
                have FS' : Hid (nbFold ⟨xi, xk, xw⟩ (G.take (k + 1)) = (f1, f2)) := Lib.hid (by rw [FS.out]; unfold nbStep; simp [hb, he])
                have B3' := Lib.hid B3
                clear B2' B4 B3
                go_wp2_with fail
                refine ⟨⟨k + 1, by omega, by go_num, kw, ?_⟩, by simp [intOf]; omega⟩
                rw [FS'.out]; exact B3'.out
              | false =>
                by_cases h0 : f2 = 0
                · have FS' : Hid (nbFold ⟨xi, xk, xw⟩ (G.take (k + 1)) = (f1, yi)) := Lib.hid (by rw [FS.out]; unfold nbStep; simp [hb, he, h0])
                  have B3' := B3.set 1 (.int .i64 yi)
                  subst h0
                  clear B2' B4 B3
                  go_wp2_with fail
                  refine ⟨⟨k + 1, by omega, by go_num, kw.setB _ rfl, ?_⟩, by simp [intOf]; omega⟩
                  rw [FS'.out]; exact B3'
                · have FS' : Hid (nbFold ⟨xi, xk, xw⟩ (G.take (k + 1)) = (f1, f2)) := Lib.hid (by rw [FS.out]; unfold nbStep; simp [hb, he, h0])
                  have d0 : (f2 == 0) = false := by simpa using h0
                  have B3' := Lib.hid B3
                  clear B2' B4 B3
                  go_wp2_with fail
                  refine ⟨⟨k + 1, by omega, by go_num, kw, ?_⟩, by simp [intOf]; omega⟩
                  rw [FS'.out]; exact B3'.out
          · obtain rfl : k = G.length := by omega
            rw [List.take_length] at B3
            have B1' := B1.out.nxb h13 kw
            have kw' := k1.nx (Ex.refl _)
            have KK : Ex w wo := (Chg.trans k1 (Chg.mono kw (fun q (hq : q < w.heap.size) => ⟨Nat.lt_of_lt_of_le hq k1.size, by omega⟩)))
            obtain ⟨FF, hFF⟩ : ∃ FF, FF = nbFold ⟨xi, xk, xw⟩ G := ⟨_, rfl⟩
            rw [← hFF] at B3
            have HYES' : Hid (neighN l id h = (FF, true)) := Lib.hid (by rw [HYES.out, hFF])
            clear hFF HYES
            obtain ⟨f1, f2⟩ := FF
            have t0 := B3.cell 0 _ rfl
            have t1 := B3.cell 1 _ rfl
            have q0 := B1'.cell 0 _ rfl
            have q1 := B1'.cell 1 _ rfl
            have z0 := B1'.free 0
            have z1 := B1'.free 1
            clear B1' B3 hk hlt kw'
            have h13' : ¬ g = g3 := h13
            go_wp2_with fail
            refine bodyPost_ret (v := .tuple #[.agg #[.int .i64 f1, .int .i64 f2], .bool true]) (by simp [results, Tryd.results69, go_sem, *]) rfl ⟨by rw [HYES'.out], ?_⟩
            exact (KK.setNew (p := ⟨g, 0, none⟩) _ hgn).setNew (p := ⟨g, 1, none⟩) _ hgn
end Go.Proofs.YtbnbjiddffihoaaDoor

/- Build of the reference. -/
namespace Go.Proofs.YtbnbjiddffihoaaDoor
open Go.RowKit

theorem Tryd.infoLk : (Tryd.prog.info? 92).map (fun i => (i.zero, i.size, i.bytes)) = some (some (.agg #[.int .i64 0, .int .i64 0]), 2, 16) := by kernel_rfl
theorem Tryd.infoLd : (Tryd.prog.info? 107).map (fun i => (i.zero, i.size, i.bytes)) = some (some (.agg #[.int .i64 0, .slice none 0 0]), 2, 32) := by kernel_rfl

abbrev Lkd := Int × List (Int × Int)
/-- the links of a node of a sorted roster at the levels below m -/
def rowN (S : List Nd) (m : Nat) (x : Nd) : Lkd := (x.id, (List.range m).map fun (h : Nat) => (neighN S x.id h).1)
def buildN (l : List Nd) (height : Int) : List Lkd × Int :=
  if (checkN l == 0) = false then ([], 1) else if lvlN height = false then ([], 2) else ((sortN l).map (rowN (sortN l) (height.toNat + 1)), 0)
abbrev OwnLk (base : Nat) (w : World) (v : Value) (qs : List (Int × Hdr)) (L : List Lkd) : Prop := OwnN encI 2 2 encS 107 92 base w v qs L
abbrev LkL (w : World) (a : Option Addr) (n : Nat) (L : List Lkd) : Prop := NL encI 2 2 encS w a n L
/-- a list of links that was just made -/
def LkPost (L : List Lkd) (e : Int) (w : World) (en : Ending) (w' : World) : Prop :=
  ∃ (v : Value) (qs : List (Int × Hdr)), en = .returned (.tuple #[v, .int .i64 e]) ∧ OwnLk w.heap.size w' v qs L ∧ Ex w w'
theorem OwnN.base {A β : Type} {encA : A → List Value} {s1 s2 : Nat} {encB : β → List Value} {e1 e2 : TypeId} {base base' : Nat} {w : World} {v : Value} {qs : List (A × Hdr)} {L : List (A × List β)}
    (h : OwnN encA s1 s2 encB e1 e2 base w v qs L) (hb : base' ≤ base) : OwnN encA s1 s2 encB e1 e2 base' w v qs L :=
  ⟨h.1.lower hb, h.2.1, fun j q c hq hc => ⟨(h.2.2.1 j q c hq hc).1, (h.2.2.1 j q c hq hc).2.base hb⟩, h.2.2.2⟩
theorem rowN_len (S : List Nd) (j : Nat) (x : Nd) : (rowN S j x).2.length = j := by unfold rowN; simp

end Go.Proofs.YtbnbjiddffihoaaDoor

/- Lists of lists of numbers: ids of nodes, Lists of the package ideal. -/
namespace Go.Proofs.YtbnbjiddffihoaaDoor
open Go.RowKit

theorem Tryd.infoI6 : (Tryd.prog.info? 3).map (fun i => (i.zero, i.size, i.bytes)) = some (some (.int .i64 0), 1, 8) := by kernel_rfl
theorem Tryd.infoIL : (Tryd.prog.info? 22).map (fun i => (i.zero, i.size, i.bytes)) = some (some (.slice none 0 0), 1, 24) := by kernel_rfl

def enc0 : Unit → List Value := fun _ => []
def pairU (m : List Int) : Unit × List Int := ((), m)
abbrev OwnIL (base : Nat) (w : World) (v : Value) (qs : List (Unit × Hdr)) (M : List (List Int)) : Prop := OwnN enc0 1 1 encI 22 3 base w v qs (M.map pairU)
def IlPost (M : List (List Int)) (w : World) (e : Ending) (w' : World) : Prop :=
  ∃ (v : Value) (qs : List (Unit × Hdr)), e = .returned v ∧ OwnIL w.heap.size w' v qs M ∧ Ex w w'
def idsN (c : List Nd) : List Int := c.map Nd.id
theorem idsN_snoc (c : List Nd) (k : Nat) (y : Nd) (hy : c[k]? = some y) : idsN (c.take (k + 1)) = idsN (c.take k) ++ [y.id] := by
  unfold idsN; rw [take_snocN c k y hy, List.map_append]; rfl
theorem idsC_snoc (C : List (List Nd)) (k : Nat) (c : List Nd) (hc : C[k]? = some c) : (((C.take (k + 1)).map idsN).map pairU) = (((C.take k).map idsN).map pairU) ++ [((), idsN c)] := by
  rw [List.take_add_one, hc, List.map_append, List.map_append]; rfl
def listsN (l : List Nd) (h : Int) : List (List Int) := if (checkN l == 0) = true ∧ lvlN h = true then (classesN (sortN l) h).map idsN else []
theorem classesN_sm (l : List Nd) (h : Int) (hl : l.length ≤ 1000) : (classesN l h).length ≤ 1000 ∧ ∀ c ∈ classesN l h, c.length ≤ 1000 := by
  refine ⟨Nat.le_trans (classes_le l h) hl, ?_⟩
  intro c hc
  by_cases hh : 16 < h
  · rw [classesN_big hh] at hc; cases hc
  · rw [classesN_fold hh] at hc
    have := foldC_fine (h := h) (P := fun _ => True) l (fun _ _ => trivial)
    exact Nat.le_trans (this c hc).2.1 hl
def IdqRel (c : List Nd) (n : Nat) (w : World) (o i : Value) (wr : World) : Prop :=
  ∃ k : Nat, k ≤ n ∧ i = .int .i64 k ∧ OwnL 1 encI 3 w.heap.size wr o (idsN (c.take k)) ∧ Ex w wr
def IlRel (C : List (List Nd)) (w : World) (o i : Value) (wr : World) : Prop :=
  ∃ (k : Nat) (qs : List (Unit × Hdr)), k ≤ C.length ∧ i = .int .i64 k ∧ OwnIL w.heap.size wr o qs ((C.take k).map idsN) ∧ Ex w wr

set_option maxRecDepth 100000 in
set_option maxHeartbeats 2000000 in
theorem lists_p (a : Option Addr) (n c : Nat) (l : List Nd) (h : Int) (w : World) (hs : Sl 3 encN w a n l) (hn : n ≤ 1000) (hc : n ≤ c) (hm : c ≤ maxLen) (hw : ∀ x ∈ l, x.word < 4294967296) (hT : TabG w) :
    Calls Tryd.prog 76 #[.slice a n c, .int .i64 h] w (IlPost (listsN l h) w) := by
  have HW := Lib.hid hw
  have HL := Lib.hid hs.len
  have HT := Lib.hid hT
  clear hw hT
  go_enter Tryd.func76, Tryd.ntmps76
  go_wp2_with fail
  (with_reducible refine (ordered_p _ _ _ _ _ hs hn hc hm).mono ?_)
  rintro e w1 ⟨v, S, rfl, OS, ⟨hp, hsrt⟩, k1⟩
  have SL := Lib.hid hp.length_eq
  have SW : Hid (∀ x ∈ S, x.word < 4294967296) := Lib.hid (fun x hx => HW.out x (hp.mem_iff.1 hx))
  have HSR := Lib.hid hsrt
  replace HT := Lib.hid (HT.out.nx k1)
  clear hp hsrt hs
  by_cases hck : checkN l = 0
  case neg =>
    have HNO : Hid (listsN l h = []) := Lib.hid (by unfold listsN; rw [if_neg]; rintro ⟨h1, _⟩; exact hck (by simpa using h1))
    have d1 : (checkN l == 0) = false := by simpa using hck
    rw [d1]
    clear hck d1 OS
    go_wp2_with fail
    go_ret
    rw [HNO.out]
    exact ⟨_, [], rfl, OwnN.nil _ _ _ _ _ _ _ _, k1⟩
  have HCK := Lib.hid hck
  have d1 : (checkN l == 0) = true := by simpa using hck
  rw [d1]
  clear hck d1
  by_cases hlo : h < 0
  · have HNO : Hid (listsN l h = []) := Lib.hid (by unfold listsN; rw [if_neg]; rintro ⟨_, h1⟩; unfold lvlN at h1; simp at h1; omega)
    clear OS
    go_wp2_with fail
    go_ret
    rw [HNO.out]
    exact ⟨_, [], rfl, OwnN.nil _ _ _ _ _ _ _ _, k1⟩
  by_cases hhi : 16 < h
  · have HNO : Hid (listsN l h = []) := Lib.hid (by unfold listsN; rw [if_neg]; rintro ⟨_, h1⟩; unfold lvlN at h1; simp at h1; omega)
    clear OS
    go_wp2_with fail
    go_ret
    rw [HNO.out]
    exact ⟨_, [], rfl, OwnN.nil _ _ _ _ _ _ _ _, k1⟩
  have HYES : Hid (listsN l h = (classesN S h).map idsN) := Lib.hid (by
    unfold listsN; rw [if_pos ⟨by rw [HCK.out]; rfl, by unfold lvlN; simp; omega⟩, HSR.out HCK.out])
  have HSM := Lib.hid (classesN_sm S h (by have := HL.out; have := SL.out; omega))
  obtain ⟨aS, cS, rfl, sS, _, _⟩ := OS.sl3 (fun _ => rfl)
  have hnS : S.length ≤ 1000 := by have := HL.out; have := SL.out; omega
  clear OS
  go_wp2_with fail
  (with_reducible refine (classes_p _ _ _ _ _ _ sS hnS SW.out HT.out).mono ?_)
  rintro e w2 ⟨a2, c2, rfl, C2, k2⟩
  replace k1 := Lib.hid (k1.nx k2)
  have hsz := k1.out.size
  generalize classesN S h = C at C2 HSM HYES ⊢
  have C2 := Lib.hid C2
  have hC := HSM.out.1
  clear k2 sS
  go_wp2_with fail
  go_loopw [7, 32] (fun o i wr => IlRel C w2 o i wr) (fun _ i _ => C.length - (intOf i).toNat)
  case atStart => exact ⟨0, [], by omega, rfl, OwnN.nil _ _ _ _ _ _ _ _, Ex.refl _⟩
  case round =>
    obtain ⟨k, qs, hk, rfl, OQ, kw⟩ := hrel
    obtain ⟨wo, rfl⟩ : ∃ wo : World, wo = wr := ⟨_, rfl⟩
    by_cases hlt : k < C.length
    · obtain ⟨x1, o1, a', n', c', cc, rfl, hx1, hcc, hcell, hsl⟩ := (C2.out.nx kw).at hlt
      have HCC := Lib.hid hcc
      have hnl := hsl.len
      have hcl : cc.length ≤ 1000 := HSM.out.2 cc (List.mem_of_getElem? hcc)
      subst hnl
      have OQ := Lib.hid OQ
      have HSL := Lib.hid hsl
      have hzo := kw.size
      have KW := Lib.hid kw
      clear hcc hsl kw
      go_wp2_with fail
      clear hcell
      go_loopw [10, 38] (fun o i wr => IdqRel cc cc.length wo o i wr) (fun _ i _ => cc.length - (intOf i).toNat)
      case atStart => exact ⟨0, by omega, rfl, OwnL.nil _ _ _ _ _, Ex.refl _⟩
      case round =>
        obtain ⟨j, hj, rfl, own, ki⟩ := hrel
        obtain ⟨wi, rfl⟩ : ∃ wi : World, wi = wr := ⟨_, rfl⟩
        by_cases hjm : j < cc.length
        · obtain ⟨x3, o3, y, rfl, hx3, hy, hc3⟩ := (HSL.out.nx ki).at hjm
          obtain ⟨yi, yk, yw⟩ := y
          have e0 : wi.cell? ⟨x3, o3 + j * 3, none⟩ = some (.int .i64 yi) := hc3 0 _ rfl
          have e1 : wi.cell? ⟨x3, o3 + j * 3 + 1, none⟩ = some (.string yk) := hc3 1 _ rfl
          have e2 : wi.cell? ⟨x3, o3 + j * 3 + 2, none⟩ = some (.int .u32 yw) := hc3 2 _ rfl
          have e2' : wi.cell? ⟨x3, o3 + j * 3 + 1 + 1, none⟩ = some (.int .u32 yw) := e2
          have SN := Lib.hid (idsN_snoc cc j _ hy)
          have hrl : (idsN (cc.take j)).length = j := by unfold idsN; rw [List.length_map, List.length_take]; omega
          clear hy hc3
          have k7 := Ex.new wi (.cells #[.int .i64 yi, .string yk, .int .u32 yw] 52)
          have B4 := Blk.new wi [.int .i64 yi, .string yk, .int .u32 yw] 52
          obtain ⟨w7, hw7⟩ : ∃ w7, w7 = wi.alloc (.cells #[.int .i64 yi, .string yk, .int .u32 yw] 52) := ⟨_, rfl⟩
          obtain ⟨g4, hg4⟩ : ∃ g4, g4 = wi.heap.size := ⟨_, rfl⟩
          have B4 : Blk w7 g4 [.int .i64 yi, .string yk, .int .u32 yw] 52 := by rw [hw7, hg4]; exact B4
          rw [← hw7] at k7
          have HW7 := Lib.hid hw7
          have HG4 := Lib.hid hg4
          replace own := own.nx k7
          replace ki := ki.nx k7
          generalize idsN (cc.take j) = row at own SN hrl
          clear hw7 hg4 k7
          go_upto_region 12 with fail
          rw [← HG4.out, ← HW7.out]
          clear e0 e1 e2 e2'
          have y0 := B4.cell 0 _ rfl
          have zb := ki.size
          go_wp2_with (at_builtin; (refine wpList_append_lit (enc := encI) w7 rfl _ _ 22 rfl wo.heap.size 3 (.int .i64 0) 1 8 Tryd.underlying22 Tryd.infoI6 rfl (by omega) (by omega) _ _ own rfl (yi : Int) _ rfl rfl (by simp [encI, Value.oneCell']) _ (by simp) rfl (by omega) zb _ ?_); intro v6 w6 own6 _ ch1 _)
          refine ⟨⟨j + 1, by omega, by go_num, by rw [SN.out]; exact own6, Chg.trans ki ch1⟩, by simp [intOf]; omega⟩
        · obtain rfl : j = cc.length := by omega
          rw [List.take_length] at own
          have OQ1 := OQ.out.nx ki
          obtain ⟨a6, c6, rfl, _, _, _, _⟩ := own.rd (fun _ => rfl)
          have hkq : qs.length = k := by rw [OQ1.2.1, List.length_map, List.length_map, List.length_take]; omega
          have hzi : w2.heap.size ≤ wi.heap.size := by have := ki.size; omega
          have FR : ∀ (j : Nat) (r : Unit × Hdr) (g : Nat), qs[j]? = some r → r.2.val.ownBlock = some g → ¬ (Value.slice a6 (idsN cc).length c6).ownBlock = some g := by
            intro j r g hr hg hv
            have h1 := OQ.out.lt hr hg
            have h2 := (own.lt g hv).1
            omega
          clear hjm hj
          have k8 := Ex.new wi (.cells #[.slice a6 (idsN cc).length c6] 22)
          have SX : Sl 1 (encP enc0) (wi.alloc (.cells #[.slice a6 (idsN cc).length c6] 22)) (some ⟨wi.heap.size, 0, none⟩) 1 [(((), (a6, (idsN cc).length, c6)) : Unit × Hdr)] := Sl.lit _ rfl rfl (fun _ => rfl) rfl
          have OQ2 := OQ1.nx k8
          have own2 := own.nx k8
          have ki8 := ki.nx k8
          have hql : qs.length ≤ 1000000 := by omega
          go_wp2_with (at_builtin; (refine wpList_append_W (enc := encP enc0) _ rfl _ _ 84 rfl w2.heap.size 22 (.slice none 0 0) 1 24 Tryd.underlying84 Tryd.infoIL rfl (by omega) (by omega) _ _ OQ2.1 rfl _ 1 1 [_] SX (fun _ => rfl) (by simp [encP, enc0, Hdr.val, Value.oneCell']) rfl hql (by omega) (by simp; omega) ?_); intro v7 w7 own7 ch0 ch1 _)
          have OQ7 := OQ2.push (by decide) own7 ch0 (own2.base (by omega)) FR
          have kw7 : Ex w2 w7 := Chg.trans (KW.out.nx ki8) ch1
          exact ⟨⟨k + 1, qs ++ [(((), (a6, (idsN cc).length, c6)) : Unit × Hdr)], by omega, by go_num, by show OwnN enc0 1 1 encI _ _ _ _ _ _ (((C.take (k + 1)).map idsN).map pairU); rw [idsC_snoc C k cc HCC.out]; exact OQ7, kw7⟩, by simp [intOf]; omega⟩
    · obtain rfl : k = C.length := by omega
      rw [List.take_length] at OQ
      have OQ := Lib.hid OQ
      clear hk hlt
      go_wp2_with fail
      go_ret
      rw [HYES.out]
      exact ⟨_, qs, rfl, OwnN.base OQ.out hsz, k1.out.nx kw⟩
end Go.Proofs.YtbnbjiddffihoaaDoor

/- The links that Build of the package ideal lays, in plain Lean: link by link from the lists, against the neighbours by their definition. -/
namespace Go.Proofs.YtbnbjiddffihoaaDoor
open Go.RowKit

/-- links: of a number, at a level -/
abbrev FnL := Int → Nat → Int × Int
def updL (F : FnL) (id : Int) (j : Nat) (v : Int) : FnL := fun x h => if x = id ∧ h = j then (v, (F x h).2) else F x h
def updR (F : FnL) (id : Int) (j : Nat) (v : Int) : FnL := fun x h => if x = id ∧ h = j then ((F x h).1, v) else F x h
def atI (ids : List Int) (q : Nat) : Int := ids[q]?.getD 0
/-- the first n links of a list -/
def procI (ids : List Int) (j : Nat) (F : FnL) : Nat → FnL
  | 0 => F
  | n + 1 => updR (updL (procI ids j F n) (atI ids (n + 1)) j (atI ids n)) (atI ids n) j (atI ids (n + 1))
def procL (j : Nat) (M : List (List Int)) (F : FnL) : FnL := M.foldl (fun F ids => procI ids j F (ids.length - 1)) F
def procB (S : List Nd) : Nat → FnL
  | 0 => fun _ _ => (0, 0)
  | j + 1 => procL j (listsN S (j : Nat)) (procB S j)
def rowsF (S : List Nd) (m : Nat) (F : FnL) : List Lkd := S.map fun x => (x.id, (List.range m).map fun j => F x.id j)

theorem procL_snoc (j : Nat) (M : List (List Int)) (F : FnL) (k : Nat) (c : List Int) (hc : M[k]? = some c) : procL j (M.take (k + 1)) F = procI c j (procL j (M.take k) F) (c.length - 1) := by
  unfold procL
  rw [List.take_add_one, hc, List.foldl_append]
  rfl
theorem procI_other (ids : List Int) (j : Nat) (F : FnL) (n : Nat) (x : Int) (h : Nat) (hx : h ≠ j ∨ ∀ q, q ≤ n → x ≠ atI ids q) : procI ids j F n x h = F x h := by
  induction n with
  | zero => rfl
  | succ n ih =>
    have ih := ih (hx.imp id (fun g q hq => g q (by omega)))
    show updR (updL (procI ids j F n) (atI ids (n + 1)) j (atI ids n)) (atI ids n) j (atI ids (n + 1)) x h = _
    unfold updR updL
    rcases hx with hx | hx
    · rw [if_neg (fun e => hx e.2), if_neg (fun e => hx e.2), ih]
    · rw [if_neg (fun e => hx n (by omega) e.1), if_neg (fun e => hx (n + 1) (by omega) e.1), ih]
theorem atI_inj {ids : List Int} (hn : ids.Nodup) {p q : Nat} (hp : p < ids.length) (hq : q < ids.length) (e : atI ids p = atI ids q) : p = q := by
  unfold atI at e
  rw [List.getElem?_eq_getElem hp, List.getElem?_eq_getElem hq] at e
  have hw := List.pairwise_iff_getElem.1 hn
  rcases Nat.lt_trichotomy p q with h | h | h
  · exact absurd e (hw p q hp hq h)
  · exact h
  · exact absurd e.symm (hw q p hq hp h)
theorem procI_at {ids : List Int} (hn : ids.Nodup) (j : Nat) (F : FnL) {p : Nat} (hp : p < ids.length) :
    ∀ n, n < ids.length → procI ids j F n (atI ids p) j = (if 1 ≤ p ∧ p ≤ n then atI ids (p - 1) else (F (atI ids p) j).1, if p < n then atI ids (p + 1) else (F (atI ids p) j).2) := by
  intro n
  induction n with
  | zero => intro _; rw [if_neg (by omega), if_neg (by omega)]; rfl
  | succ n ih =>
    intro hl
    have ih := ih (by omega)
    have e1 : (atI ids p = atI ids (n + 1)) ↔ p = n + 1 := ⟨fun e => atI_inj hn hp hl e, fun e => by rw [e]⟩
    have e2 : (atI ids p = atI ids n) ↔ p = n := ⟨fun e => atI_inj hn hp (by omega) e, fun e => by rw [e]⟩
    show updR (updL (procI ids j F n) (atI ids (n + 1)) j (atI ids n)) (atI ids n) j (atI ids (n + 1)) (atI ids p) j = _
    unfold updR updL
    simp only [e1, e2, and_true]
    by_cases h1 : p = n + 1
    · rw [if_neg (by omega), if_pos h1, ih, if_pos (by omega : 1 ≤ p ∧ p ≤ n + 1), if_neg (by omega : ¬ p < n + 1)]
      simp only
      rw [if_neg (by omega : ¬ p < n), h1]
      rfl
    · by_cases h2 : p = n
      · rw [if_pos h2, if_neg h1, ih]
        simp only
        rw [if_pos (by omega : p < n + 1), h2]
        by_cases h3 : 1 ≤ n
        · rw [if_pos ⟨h3, Nat.le_refl _⟩, if_pos ⟨h3, by omega⟩]
        · rw [if_neg (by omega), if_neg (by omega)]
      · rw [if_neg h2, if_neg h1, ih]
        congr 1
        · by_cases h3 : 1 ≤ p ∧ p ≤ n
          · rw [if_pos h3, if_pos (by omega)]
          · rw [if_neg h3, if_neg (by omega)]
        · by_cases h3 : p < n
          · rw [if_pos h3, if_pos (by omega)]
          · rw [if_neg h3, if_neg (by omega)]
theorem procL_level (j : Nat) (M : List (List Int)) (F : FnL) (x : Int) (h : Nat) (hh : h ≠ j) : procL j M F x h = F x h := by
  unfold procL
  induction M generalizing F with
  | nil => rfl
  | cons c M ih => rw [List.foldl_cons, ih, procI_other _ _ _ _ _ _ (.inl hh)]
theorem atI_mem {ids : List Int} {q : Nat} (hq : q < ids.length) : atI ids q ∈ ids := by
  unfold atI; rw [List.getElem?_eq_getElem hq]; exact List.getElem_mem hq
theorem procI_mem (ids : List Int) (j : Nat) (F : FnL) (x : Int) (h : Nat) (hx : x ∉ ids) : procI ids j F (ids.length - 1) x h = F x h := by
  by_cases h0 : ids = []
  · subst h0; rfl
  · have : 0 < ids.length := List.length_pos_iff.2 h0
    exact procI_other _ _ _ _ _ _ (.inr fun q hq e => hx (e ▸ atI_mem (by omega)))
theorem procL_not (j : Nat) (M : List (List Int)) (F : FnL) (x : Int) (h : Nat) (hx : ∀ c ∈ M, x ∉ c) : procL j M F x h = F x h := by
  unfold procL
  induction M generalizing F with
  | nil => rfl
  | cons c M ih => rw [List.foldl_cons, ih _ (fun d hd => hx d (by simp [hd])), procI_mem _ _ _ _ _ (hx c (by simp))]
theorem procL_at (j : Nat) : ∀ (M : List (List Int)) (F : FnL), M.Pairwise (fun c d => ∀ x ∈ c, x ∉ d) → (∀ c ∈ M, c.Nodup) → ∀ c ∈ M, ∀ p, p < c.length → F (atI c p) j = (0, 0) →
    procL j M F (atI c p) j = (if 1 ≤ p then atI c (p - 1) else 0, if p + 1 < c.length then atI c (p + 1) else 0)
  | [], _, _, _, c, hc, _, _, _ => by cases hc
  | d :: M, F, hM, hN, c, hc, p, hp, hF => by
    rw [List.pairwise_cons] at hM
    show procL j M (procI d j F (d.length - 1)) (atI c p) j = _
    by_cases hcd : c ∈ M
    · rw [procL_at j M _ hM.2 (fun c hc => hN c (by simp [hc])) c hcd p hp]
      rw [procI_mem _ _ _ _ _ (fun hx => hM.1 c hcd _ hx (atI_mem hp))]
      exact hF
    · obtain rfl : c = d := by rcases List.mem_cons.1 hc with e | e; exact e; exact absurd e hcd
      rw [procL_not _ _ _ _ _ (fun d hd hx => hM.1 d hd _ (atI_mem hp) hx), procI_at (hN c (by simp)) j F hp (c.length - 1) (by omega), hF]
      congr 1
      · by_cases h3 : 1 ≤ p
        · rw [if_pos h3, if_pos (by omega)]
        · rw [if_neg h3, if_neg (by omega)]
      · by_cases h3 : p < c.length - 1
        · rw [if_pos h3, if_pos (by omega)]
        · rw [if_neg h3, if_neg (by omega)]
end Go.Proofs.YtbnbjiddffihoaaDoor

/- A map from numbers to numbers that the call itself makes. -/
namespace Go.Proofs.YtbnbjiddffihoaaDoor
open Go.RowKit

theorem Tryd.lawI : Go.Maps.Keyed Tryd.prog 3 := Go.Maps.int_keyed Tryd.underlying3
theorem Tryd.zeroI (w : World) : (zeroValue 3).run Tryd.prog w = .ok (.int .i64 0) w := by kernel_rfl
/-- block b is a map of at most n entries that answers by f -/
def MapI (w : World) (b n : Nat) (f : Int → Int) : Prop :=
  ∃ D : DataW Unit, w.ownsMap Tryd.prog 3 (plainElem Tryd.prog 3) b n D ∧ ∀ x : Int, D.atKey (.int .i64 x) (.lit (.int .i64 0)) = .lit (.int .i64 (f x))
theorem MapI.made (w : World) : MapI (w.alloc (.map #[] 0)) w.heap.size 0 (fun _ => 0) := ⟨.map [], World.ownsMap_made _ _ _ _, fun _ => rfl⟩
theorem wf_of {x : Int} (h : -9223372036854775808 ≤ x ∧ x ≤ 9223372036854775807) : (Lit.int .i64 x).wf = true := by
  exact WalkArith.wf_i64 h
theorem MapI.chg {w w' : World} {b n : Nat} {f : Int → Int} {S : Nat → Prop} (h : MapI w b n f) (k : Chg S w w') (hb : S b) : MapI w' b n f := by
  obtain ⟨D, ⟨es, clock, e1, F, e2, e3⟩, h2⟩ := h
  exact ⟨D, ⟨es, clock, (k.block b hb).trans e1, F, e2, e3⟩, h2⟩
theorem MapI.lt {w : World} {b n : Nat} {f : Int → Int} (h : MapI w b n f) : b < w.heap.size := by
  obtain ⟨D, h1, h2⟩ := h
  exact h1.lt
theorem MapI.nx {w w' : World} {b n : Nat} {f : Int → Int} (h : MapI w b n f) (k : Ex w w') : MapI w' b n f := h.chg k h.lt
theorem MapI.look {w : World} {b n : Nat} {f : Int → Int} (h : MapI w b n f) {x : Int} (hx : -9223372036854775808 ≤ x ∧ x ≤ 9223372036854775807) :
    (Instr.lookup 104 (.map (some b)) (.int .i64 x) false).run Tryd.prog w = .ok (.int .i64 (f x)) w := by
  obtain ⟨D, h1, h2⟩ := h
  obtain ⟨c, hrun, hat, _⟩ := h1.lookup_int (t := 104) Tryd.lawI Tryd.underlying104 Tryd.underlying3 (Tryd.zeroI w) (Go.Maps.keyOf_int_mk Tryd.underlying3 (wf_of hx))
  rw [h2 x] at hat
  cases hat
  exact hrun
theorem MapI.put {w : World} {b n : Nat} {f : Int → Int} (h : MapI w b n f) {x v : Int} (hx : -9223372036854775808 ≤ x ∧ x ≤ 9223372036854775807) (hv : -9223372036854775808 ≤ v ∧ v ≤ 9223372036854775807) (hn : n < maxLen) :
    ∃ w', (Instr.mapUpdate 104 (.map (some b)) (.int .i64 x) (.int .i64 v)).run Tryd.prog w = .ok () w' ∧ MapI w' b (n + 1) (fun y => if y = x then v else f y) ∧ Exb b w w' := by
  obtain ⟨D, h1, h2⟩ := h
  have hm : Go.Maps.IsMap D := by obtain ⟨_, _, _, _, _, e⟩ := h1; exact ⟨_, e⟩
  obtain ⟨w', hrun, h3, h4⟩ := h1.update (t := 104) Tryd.lawI Tryd.underlying104 hn (Go.Maps.keyOf_int_mk Tryd.underlying3 (wf_of hx)) (plainElem_int Tryd.underlying3 (wf_of hv))
  refine ⟨w', hrun, ⟨_, h3, fun y => ?_⟩, ⟨h4.1, h4.2, h4.3, h4.4, fun i hi => h4.5 i hi.1 (fun e => hi.2 (Option.some.inj e))⟩⟩
  by_cases hy : y = x
  · subst hy
    show _ = DataW.lit (.int .i64 (if y = y then v else f y))
    rw [if_pos rfl]
    exact Go.Maps.atKey_put_same hm (show Go.WideAt.IsKeyLit (.int .i64 y) from trivial) _ _
  · show _ = DataW.lit (.int .i64 (if y = x then v else f y))
    rw [if_neg hy, Go.Maps.atKey_put_other (fun e => hy (by cases e; rfl))]
    exact h2 y
end Go.Proofs.YtbnbjiddffihoaaDoor

/- Walks over the tape of numbers from which the statements draw. -/
namespace Go.Proofs.YtbnbjiddffihoaaDoor
open Go.RowKit

set_option maxHeartbeats 400000 in
theorem mod_any (v n : Int) (w : World) (hn : 1 ≤ n) (hn2 : n ≤ 9223372036854775807) :
    Calls Tryd.prog 48 #[.int .i64 v, .int .i64 n] w fun e w' => e = .returned (.int .i64 (v % n)) ∧ w = w' := by
  obtain ⟨h1, h2⟩ := tmod_bounds v n hn
  have H3 := Lib.hid (emod_of_tmod v n hn)
  go_enter Tryd.func48, Tryd.ntmps48
  go_wp2
  · go_ret
    exact ⟨by rw [H3.out, if_pos ‹_›]; rfl, rfl⟩
  · go_ret
    exact ⟨by rw [H3.out, if_neg (by omega)]; rfl, rfl⟩

set_option maxHeartbeats 400000 in
theorem next_end (b len cap i : Nat) (n : Int) (a : Option Addr) (w : World) (hb : w.heap[b]? = some (.cells #[.slice a len cap, .int .i64 i] 66 (0, 0))) (hi : len ≤ i) (hn : ¬ n < 1) :
    Calls Tryd.prog 15 #[.pointer (some ⟨b, 0, none⟩), .int .i64 n] w fun e w' => e = .returned (.int .i64 0) ∧ ∃ m, w.drewN m = w' := by
  have c0 : w.cell? ⟨b, 0, none⟩ = some (.slice a len cap) := by simp [World.cell?, hb]
  have c1 : w.cell? ⟨b, 1, none⟩ = some (.int .i64 i) := by simp [World.cell?, hb]
  have d1 : decide (n < 1) = false := by simp; omega
  clear hb
  go_enter Tryd.func15, Tryd.ntmps15
  go_wp2
  go_quiet (fail)
  go_wp2
  go_ret
  exact ⟨rfl, _, rfl⟩

set_option maxHeartbeats 400000 in
theorem next_small (b : Nat) (n : Int) (w : World) (hn : n < 1) :
    Calls Tryd.prog 15 #[.pointer (some ⟨b, 0, none⟩), .int .i64 n] w fun e w' => e = .returned (.int .i64 0) ∧ ∃ m, w.drewN m = w' := by
  have d1 : decide (n < 1) = true := by simp; omega
  go_enter Tryd.func15, Tryd.ntmps15
  go_wp2
  go_quiet (fail)
  go_wp2
  go_ret
  exact ⟨rfl, _, rfl⟩

set_option maxHeartbeats 400000 in
theorem next_go (b len cap i x o : Nat) (n v : Int) (w : World) (hb : w.heap[b]? = some (.cells #[.slice (some ⟨x, o, none⟩) len cap, .int .i64 i] 66 (0, 0))) (hi : i < len) (hl : len ≤ 600) (hn : ¬ n < 1) (hn2 : n ≤ 9223372036854775807)
    (hx : x ≠ b) (hc : w.cell? ⟨x, o + i, none⟩ = some (.int .i64 v)) :
    Calls Tryd.prog 15 #[.pointer (some ⟨b, 0, none⟩), .int .i64 n] w fun e w' => e = .returned (.int .i64 (v % n)) ∧ ∃ m k, ((w.drewN k).setCell ⟨b, 1, none⟩ (.int .i64 (i + 1))).drewN m = w' := by
  have c0 : w.cell? ⟨b, 0, none⟩ = some (.slice (some ⟨x, o, none⟩) len cap) := by simp [World.cell?, hb]
  have c1 : w.cell? ⟨b, 1, none⟩ = some (.int .i64 i) := by simp [World.cell?, hb]
  have f1 : w.frozen? ⟨b, 1, none⟩ = false := by simp [World.frozen?, hb]
  have d1 : decide (n < 1) = false := by simp; omega
  have e1 : IntKind.i64.wrap (i : Int) = i := IntWalk.i64_in _ (by omega)
  have e2 : IntKind.i64.wrap ((i : Int) + 1) = (i : Int) + 1 := IntWalk.i64_in _ (by omega)
  clear hb
  go_enter Tryd.func15, Tryd.ntmps15
  go_wp2
  go_quiet (fail)
  go_wp2
  go_quiet ((go_at_call 48; exact quiet_of_eq (mod_any _ _ _ (by omega) (by omega))))
  go_wp2
  go_ret
  exact ⟨rfl, _, _, rfl⟩

theorem next_x {B b : Nat} (n : Int) (w : World) (h : TP 66 B w b) (hn2 : n ≤ 9223372036854775807) :
    Calls Tryd.prog 15 #[.pointer (some ⟨b, 0, none⟩), .int .i64 n] w (SomeInt 0 (if n < 1 then 0 else n - 1) 66 B b w) := by
  by_cases hn : n < 1
  · refine (next_small b n w hn).mono ?_
    rintro e w' ⟨rfl, m, rfl⟩
    exact ⟨0, rfl, by omega, by rw [if_pos hn]; omega, (Chg.refl _ _).drewN _, h⟩
  · obtain ⟨a, cap, i, x, o, l, h1, h2, h3, h4, h5⟩ := id h
    by_cases hi : i < l.length
    · rcases h5 with rfl | ⟨rfl, e2, e3, e4⟩
      · simp at hi
      · refine (next_go b _ cap i x o n _ w h1 hi h3 hn hn2 e2 (e4 i hi)).mono ?_
        rintro e w' ⟨rfl, m, k, rfl⟩
        refine ⟨_, rfl, Int.emod_nonneg _ (by omega), ?_, ?_, ?_⟩
        · rw [if_neg hn]; have := Int.emod_lt_of_pos (l.getD i 0) (show 0 < n by omega); omega
        · exact (((Chg.refl _ _).drewN _).setCell _ (fun k hk => hk.2)).drewN _
        · refine ⟨_, cap, i + 1, x, o, l, ?_, h2, h3, by omega, .inr ⟨rfl, e2, e3, fun j hj => ?_⟩⟩
          · show (w.setCell ⟨b, 1, none⟩ (.int .i64 (i + 1))).heap[b]? = _
            simp [World.setCell, Array.getElem?_modify, h1]
          · show (w.setCell ⟨b, 1, none⟩ (.int .i64 (i + 1))).cell? _ = _
            rw [World.cell?_of_block (w := w) (Below.heap_setCell w _ _ _ e2)]
            exact e4 j hj
    · refine (next_end b _ cap i n a w h1 (by omega) hn).mono ?_
      rintro e w' ⟨rfl, m, rfl⟩
      exact ⟨0, rfl, by omega, by rw [if_neg hn]; omega, (Chg.refl _ _).drewN _, h⟩

/-- Pick: some number of the list -/
theorem pick_x {B b s so len : Nat} (lo hi : Int) (l : List Int) (w : World) (h : TP 66 B w b) (hB : B ≤ s) (hs : s < w.heap.size) (hl : l.length = len) (hl0 : 0 < len) (hl2 : len ≤ 100)
    (hc : ∀ j, j < len → w.cell? ⟨s, so + j, none⟩ = some (.int .i64 (l.getD j 0))) (hr : ∀ x ∈ l, lo ≤ x ∧ x ≤ hi) :
    Calls Tryd.prog 16 #[.pointer (some ⟨b, 0, none⟩), .slice (some ⟨s, so, none⟩) len len] w (SomeInt lo hi 66 B b w) := by
  have hlt := h.lt
  go_enter Tryd.func16, Tryd.ntmps16
  go_wp2_with fail
  refine (next_x _ w h (by omega)).mono ?_
  rintro e w1 ⟨r, rfl, r0, r1, k1, t1⟩
  rw [if_neg (by omega)] at r1
  obtain ⟨j, rfl⟩ := Int.eq_ofNat_of_zero_le r0
  have hj : j < len := by omega
  have hc1 : w1.cell? ⟨s, so + j, none⟩ = some (.int .i64 (l.getD j 0)) := k1.cellv (hc j hj) ⟨hs, by simp; omega⟩
  have hm : l.getD j 0 ∈ l := by simp [List.getD, hl, hj]
  have hr1 := hr _ hm
  clear hc hr hl hm
  go_wp2
  go_ret
  exact ⟨_, rfl, hr1.1, hr1.2, k1, t1⟩


/-- Pick on a list that was just written out -/
theorem pick_lit {B b n s : Nat} (lo hi : Int) (l : List Int) {A : Array Value} {W0 : World} (h : TP 66 B W0 b) (hB : B ≤ W0.heap.size) (hs : s = W0.heap.size) (hA : A = (l.map (Value.int .i64)).toArray) (hl : l.length = n) (hl0 : 0 < n) (hl2 : n ≤ 100)
    (hr : ∀ x ∈ l, lo ≤ x ∧ x ≤ hi) :
    Calls Tryd.prog 16 #[.pointer (some ⟨b, 0, none⟩), .slice (some ⟨s, 0, none⟩) n n] (W0.alloc (.cells A 3)) (SomeInt lo hi 66 B b W0) := by
  subst hA hs
  have hc := (Chg.refl (· < W0.heap.size) W0).alloc (.cells (l.map (Value.int .i64)).toArray 3) (fun k hk => hk)
  refine (pick_x (s := W0.heap.size) (so := 0) lo hi l _ (h.chg hc (by omega)) hB (by simp) hl hl0 hl2 ?_ hr).mono ?_
  · intro j hj
    simp [List.getD, hl, hj]
  · rintro e w' ⟨r, rfl, r0, r1, k1, t1⟩
    exact ⟨r, rfl, r0, r1, (hc.mono (fun k hk => hk.1)).trans (k1.mono (by simp; intro k h1 h2; omega)), t1⟩


/-- a new tape -/
def NewTape (w : World) (e : Ending) (w' : World) : Prop :=
  e = .returned (.pointer (some ⟨w.heap.size, 0, none⟩)) ∧ TP 66 (w.heap.size + 1) w' w.heap.size ∧ Chg (· < w.heap.size) w w'

theorem tape_made {S : Nat → Prop} {n cap m : Nat} {a : Option Addr} {l : List Int} {w : World} (h : Rd 1 encI S w a n l) (hS : ∀ k, S k → k < w.heap.size) (hm : m ≤ n) (hm2 : m ≤ 600) :
    TP 66 (w.heap.size + 1) (w.alloc (.cells #[.slice a m cap, .int .i64 0] 66)) w.heap.size := by
  have hl : (l.take m).length = m := by have := h.1; simp; omega
  rcases Nat.eq_zero_or_pos m with h0 | h0
  · subst h0
    exact ⟨a, cap, 0, 0, 0, [], by simpa using heap_new w _, by omega, by simp, by simp, .inl rfl⟩
  · obtain ⟨x, o, y, rfl, hx, _, _⟩ := h.at (j := 0) (by omega)
    have hx := hS x hx
    refine ⟨_, cap, 0, x, o, l.take m, by rw [hl]; exact heap_new w _, by omega, by omega, by omega, .inr ⟨rfl, by omega, by omega, fun j hj => ?_⟩⟩
    have hj : j < m := by omega
    obtain ⟨x', o', y', e1, _, e3, e4⟩ := h.at (j := j) (by omega)
    cases e1
    have e5 := e4 0 _ rfl
    have e6 : (l.take m).getD j 0 = y' := by simp [List.getD, List.getElem?_take, hj, e3]
    rw [e6]
    rw [World.cell?_of_block (w := w) (Below.heap_alloc w _ _ (by simp; omega))]
    simpa using e5

set_option maxHeartbeats 400000 in
theorem new_x {S : Nat → Prop} (a : Option Addr) (n cap : Nat) (l : List Int) (w : World) (h : Rd 1 encI S w a n l) (hS : ∀ k, S k → k < w.heap.size) (hn : n ≤ cap) (hcap : cap ≤ maxLen) :
    Calls Tryd.prog 11 #[.slice a n cap] w (NewTape w) := by
  unfold maxLen at hcap
  by_cases h6 : 600 < n
  · have hm := tape_made (cap := cap) (m := 600) h hS (by omega) (by omega)
    go_enter Tryd.func11, Tryd.ntmps11
    go_wp2
    go_ret
    exact ⟨rfl, hm, (Chg.refl _ _).alloc _ (by simp)⟩
  · have hm := tape_made (cap := cap) (m := n) h hS (by omega) (by omega)
    go_enter Tryd.func11, Tryd.ntmps11
    go_wp2
    go_ret
    exact ⟨rfl, hm, (Chg.refl _ _).alloc _ (by simp)⟩
end Go.Proofs.YtbnbjiddffihoaaDoor

/- The tape, in the standard forms. -/
namespace Go.Proofs.YtbnbjiddffihoaaDoor
open Go.RowKit

/-- a tape at b -/
def TK (w : World) (b : Nat) : Prop := TP 66 (b + 1) w b
theorem TK.lt {w : World} {b : Nat} (h : TK w b) : b < w.heap.size := by
  obtain ⟨_, _, _, _, _, _, h1, _⟩ := h
  exact heap_lt h1
theorem TK.nx {w w' : World} {b : Nat} (h : TK w b) (k : Ex w w') : TK w' b := TP.chg h k (fun x hx => Nat.lt_of_lt_of_le hx h.lt)
/-- a store behind the tape -/
theorem TK.set {w : World} {b : Nat} (h : TK w b) {p : Addr} (v : Value) (hp : b < p.block) : TK (w.setCell p v) b :=
  TP.chg h ((Chg.refl (· < b + 1) w).setCell v (fun k (hk : k < b + 1) => by omega)) (fun _ hk => hk)
/-- a number below n (0 if there is none) -/
def NumPost (n : Int) (b : Nat) (w : World) (e : Ending) (w' : World) : Prop :=
  ∃ r : Int, e = .returned (.int .i64 r) ∧ 0 ≤ r ∧ r ≤ n ∧ TK w' b ∧ Exb b w w'
theorem next_t {b : Nat} (n : Int) (w : World) (h : TK w b) (h1 : 1 ≤ n) (h2 : n ≤ 9223372036854775807) :
    Calls Tryd.prog 15 #[.pointer (some ⟨b, 0, none⟩), .int .i64 n] w (NumPost (n - 1) b w) := by
  refine (next_x n w h h2).mono ?_
  rintro e w' ⟨r, rfl, r0, r1, k, t⟩
  rw [if_neg (by omega)] at r1
  exact ⟨r, rfl, r0, r1, t, k⟩
theorem new_t (a : Option Addr) (n cap : Nat) (l : List Int) (w : World) (h : Sl 1 encI w a n l) (hn : n ≤ cap) (hcap : cap ≤ maxLen) :
    Calls Tryd.prog 11 #[.slice a n cap] w fun e w' => e = .returned (.pointer (some ⟨w.heap.size, 0, none⟩)) ∧ TK w' w.heap.size ∧ Ex w w' ∧ w.heap.size < w'.heap.size := by
  refine (new_x a n cap l w h (fun _ hk => hk) hn hcap).mono ?_
  rintro e w' ⟨rfl, t, k⟩
  have hlt : w.heap.size < w'.heap.size := by
    obtain ⟨_, _, _, _, _, _, h1, _⟩ := t
    exact heap_lt h1
  exact ⟨rfl, t, k, hlt⟩
end Go.Proofs.YtbnbjiddffihoaaDoor

/- Keys of the tape. -/
namespace Go.Proofs.YtbnbjiddffihoaaDoor
open Go.RowKit

/-- the letters, as they are laid: strings of one byte -/
def LetG (w : World) : Prop := ∀ j, j < 6 → ∃ s : ByteArray, s.size = 1 ∧ w.cell? ⟨0, j, none⟩ = some (.string s)
theorem LetG.lt {w : World} (h : LetG w) : 0 < w.heap.size := by
  obtain ⟨s, _, h⟩ := h 0 (by omega)
  exact World.block_lt_of_cell? w _ h
theorem LetG.nx {w w' : World} (h : LetG w) (k : Ex w w') : LetG w' := fun j hj => by
  obtain ⟨s, h1, h2⟩ := h j hj
  exact ⟨s, h1, Chg.cellv k h2 (World.block_lt_of_cell? w _ h2)⟩
theorem LetG.nxb {b : Nat} {w w' : World} (h : LetG w) (hb : ¬ 0 = b) (k : Exb b w w') : LetG w' := fun j hj => by
  obtain ⟨s, h1, h2⟩ := h j hj
  exact ⟨s, h1, Chg.cellv k h2 ⟨World.block_lt_of_cell? w _ h2, hb⟩⟩

def LongRel (k0 : Nat) (o i : Value) : Prop := ∃ (k : Nat) (s : ByteArray), k ≤ k0 ∧ i = .int .i64 k ∧ o = .string s ∧ s.size = k
set_option maxHeartbeats 400000 in
theorem long_x (s : ByteArray) (n : Nat) (w : World) (hs : s.size = 1) (hn : n ≤ 1000) :
    Calls Tryd.prog 83 #[.string s, .int .i64 n] w fun e w' => (∃ r : ByteArray, e = .returned (.string r) ∧ r.size = n) ∧ w = w' := by
  have HS := Lib.hid hs
  have hs1 : s.size ≤ 1 := Nat.le_of_eq hs
  clear hs
  go_enter Tryd.func83, Tryd.ntmps83
  go_wp2
  go_loop [5, 6] (fun o i => LongRel n o i) (fun _ i => n - (intOf i).toNat)
  case atStart => exact ⟨0, ⟨#[]⟩, by omega, rfl, rfl, rfl⟩
  case round =>
    obtain ⟨k, o, hk, rfl, rfl, ho⟩ := hrel
    have HO := Lib.hid ho
    have ho1 : o.size ≤ 1000 := by omega
    clear ho
    by_cases hlt : k < n
    · go_wp2
      go_round
      case rel => exact ⟨k + 1, _, by omega, by go_num, rfl, by rw [ByteArray.size_append, HO.out, HS.out]⟩
      case measure => simp [intOf]; omega
    · go_wp2
      go_ret
      exact ⟨⟨o, rfl, by rw [HO.out]; omega⟩, rfl⟩

def KeyPost (m b : Nat) (w : World) (e : Ending) (w' : World) : Prop := ∃ s : ByteArray, e = .returned (.string s) ∧ s.size ≤ m ∧ TK w' b ∧ Exb b w w'
def KeyRel (b : Nat) (w : World) (o i : Value) (wr : World) : Prop := ∃ (k : Nat) (s : ByteArray), k ≤ 3 ∧ i = .int .i64 k ∧ o = .string s ∧ s.size + k ≤ 3 ∧ TK wr b ∧ Exb b w wr

set_option maxHeartbeats 1000000 in
theorem key_t {b : Nat} (w : World) (h : TK w b) (hL : LetG w) (hgb : ¬ 0 = b) : Calls Tryd.prog 45 #[.pointer (some ⟨b, 0, none⟩)] w (KeyPost 64 b w) := by
  go_enter Tryd.func45, Tryd.ntmps45
  go_wp2_with fail
  refine (next_t 12 _ h (by omega) (by omega)).mono ?_
  rintro e w1 ⟨r, rfl, r0, r1, T, k1⟩
  have L1 := hL.nxb hgb k1
  clear h hL
  by_cases h10 : r = 10
  · subst h10
    go_wp2_with fail
    refine (next_t 6 _ T (by omega) (by omega)).mono ?_
    clear T
    rintro e w2 ⟨j, rfl, j0, j1, T, k2⟩
    obtain ⟨j, rfl⟩ := Int.eq_ofNat_of_zero_le j0
    obtain ⟨s, hs, hc⟩ := (L1.nxb hgb k2) j (by omega)
    have kk := k1.nxb k2
    have HS := Lib.hid hs
    clear hs k1 k2 L1
    go_wp2_with fail
    refine (long_x s 64 _ HS.out (by omega)).mono ?_
    rintro e w3 ⟨⟨r, rfl, hr⟩, rfl⟩
    have HR := Lib.hid hr
    clear hr
    go_wp2_with fail
    go_ret
    exact ⟨r, rfl, Nat.le_of_eq HR.out, T, kk⟩
  · have d10 : (r == 10) = false := by simp [h10]
    by_cases h11 : r = 11
    · subst h11
      clear h10
      go_wp2_with fail
      go_ret
      exact ⟨⟨#[]⟩, rfl, by simp [ByteArray.size], T, k1⟩
    · have d11 : (r == 11) = false := by simp [h11]
      clear h10 h11
      go_wp2_with fail
      refine (next_t 3 _ T (by omega) (by omega)).mono ?_
      clear T
      rintro e w2 ⟨m, rfl, m0, m1, T, k2⟩
      obtain ⟨m, rfl⟩ := Int.eq_ofNat_of_zero_le m0
      have L2 := L1.nxb hgb k2
      have kk := k1.nxb k2
      clear k1 k2 L1
      go_wp2_with fail
      go_loopw [3, 4] (fun o i wr => KeyRel b w2 o i wr) (fun _ i _ => (intOf i).toNat)
      case atStart => exact ⟨m + 1, ⟨#[]⟩, by omega, congrArg (Value.int .i64) (by omega), rfl, by show 0 + (m + 1) ≤ 3; omega, T, Exb.refl _ _⟩
      case round =>
        clear T
        obtain ⟨k, o, hk, rfl, rfl, ho, T, kw⟩ := hrel
        obtain ⟨wo, rfl⟩ : ∃ wo : World, wo = wr := ⟨_, rfl⟩
        have ho1 : o.size ≤ 3 := by omega
        by_cases hk0 : 0 < k
        · go_wp2_with fail
          refine (next_t 6 _ T (by omega) (by omega)).mono ?_
          clear T
          rintro e w4 ⟨j, rfl, j0, j1, T, k4⟩
          obtain ⟨j, rfl⟩ := Int.eq_ofNat_of_zero_le j0
          obtain ⟨s, hs, hc⟩ := ((L2.nxb hgb kw).nxb hgb k4) j (by omega)
          replace kw := kw.nxb k4
          have HS := Lib.hid hs
          have hs1 : s.size ≤ 1 := Nat.le_of_eq hs
          clear hs k4 L2
          go_wp2_with fail
          refine ⟨⟨k - 1, o ++ s, by omega, ?_, rfl, by rw [ByteArray.size_append, HS.out]; omega, T, kw⟩, by simp [intOf]; omega⟩
          rw [show ((k - 1 : Nat) : Int) = (k : Int) - 1 by omega]
        · clear L2
          go_wp2_with fail
          go_ret
          exact ⟨o, rfl, by omega, T, kk.nxb kw⟩
end Go.Proofs.YtbnbjiddffihoaaDoor

/- A walk over the words that are drawn from a tape. -/
namespace Go.Proofs.YtbnbjiddffihoaaDoor
open Go.RowKit

/-- some word -/
def SomeWord (ty B b : Nat) (w : World) (e : Ending) (w' : World) : Prop :=
  ∃ r : Nat, e = .returned (.int .u32 r) ∧ r < 65536 ∧ Chg (fun k => k < w.heap.size ∧ k ≠ b) w w' ∧ TP ty B w' b

theorem conv_u32 (r : Int) (h0 : 0 ≤ r) (h1 : r < 65536) : ∃ m : Nat, r = m ∧ m < 65536 ∧ IntKind.u32.wrap r = (m : Int) := by
  obtain ⟨m, rfl⟩ := Int.eq_ofNat_of_zero_le h0
  refine ⟨m, rfl, by omega, ?_⟩
  simp [IntKind.wrap, IntKind.signed, IntKind.bits]
  omega

set_option maxHeartbeats 1000000 in
theorem word_x {B b : Nat} (w : World) (h : TP 66 B w b) (hB : B ≤ w.heap.size) :
    Calls Tryd.prog 46 #[.pointer (some ⟨b, 0, none⟩)] w (SomeWord 66 B b w) := by
  go_enter Tryd.func46, Tryd.ntmps46
  go_wp2_with fail
  refine (next_x _ w h (by omega)).mono ?_
  rintro e w1 ⟨r, rfl, r0, r1, k1, t1⟩
  have z1 := k1.size
  by_cases e4 : r = 4
  · subst e4
    go_wp2_with fail
    refine (next_x _ _ t1 (by omega)).mono ?_
    rintro e w2 ⟨s, rfl, s0, s1, k2, t2⟩
    rw [if_neg (by omega)] at s1
    obtain ⟨m, rfl, hm, hw⟩ := conv_u32 s s0 (by omega)
    go_wp2_with fail
    go_ret
    exact ⟨m, rfl, hm, k1.then k2 (by intro k hk; omega), t2⟩
  · have d4 : (r == 4) = false := by simp [e4]
    by_cases e5 : r = 5
    · subst e5
      go_wp2_with fail
      refine (pick_lit 0 65535 [0, 65535, 32768] t1 (by omega) (by simp) (by rfl) (by rfl) (by omega) (by omega) (by simp)).mono ?_
      rintro e w2 ⟨s, rfl, s0, s1, k2, t2⟩
      obtain ⟨m, rfl, hm, hw⟩ := conv_u32 s s0 (by omega)
      go_wp2_with fail
      go_ret
      exact ⟨m, rfl, hm, k1.then k2 (by intro k hk; omega), t2⟩
    · have d5 : (r == 5) = false := by simp [e5]
      clear e4 e5
      go_wp2_with fail
      refine (next_x _ _ t1 (by omega)).mono ?_
      rintro e w2 ⟨s, rfl, s0, s1, k2, t2⟩
      rw [if_neg (by omega)] at s1
      obtain ⟨m, rfl, hm, hw⟩ := conv_u32 s s0 (by omega)
      go_wp2_with fail
      go_ret
      exact ⟨m, rfl, hm, k1.then k2 (by intro k hk; omega), t2⟩
end Go.Proofs.YtbnbjiddffihoaaDoor
