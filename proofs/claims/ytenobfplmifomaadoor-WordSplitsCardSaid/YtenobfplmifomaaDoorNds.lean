/- Nodes: when two lists are equal, which lists are rosters. -/
import Derived.Test.YtenobfplmifomaaDoorNode
import Derived.Test.YtenobfplmifomaaDoorK
namespace Go.Proofs.YtenobfplmifomaaDoor
open Go.RowKit

theorem str_neN {x y : ByteArray} (h : ¬ x = y) : (x.toList == y.toList) = false := by
  rw [ByteArray.toList_eq, ByteArray.toList_eq, beq_eq_false_iff_ne]
  intro he
  exact h (ByteArray.ext (Array.toList_inj.1 he))
theorem str_eqN {x y : ByteArray} (h : x = y) : (x.toList == y.toList) = true := by subst h; simp

def NRel (n : Nat) (w : World) (i : Value) (wr : World) : Prop := ∃ k : Nat, k ≤ n ∧ i = .int .i64 k ∧ Ex w wr

set_option maxHeartbeats 1000000 in
theorem samenodes_x (a1 a2 : Option Addr) (n c1 c2 : Nat) (l : List Nd) (w : World) (h1 : Sl 3 encN w a1 n l) (h2 : Sl 3 encN w a2 n l) (hn : n ≤ 1000000) :
    Calls Tryd.prog 24 #[.slice a1 n c1, .slice a2 n c2] w fun e w' => e = .returned (.bool true) ∧ Ex w w' := by
  go_enter Tryd.func24, Tryd.ntmps24
  go_wp2_with fail
  go_loopw [5] (fun i wr => NRel n w i wr) (fun i _ => n - (intOf i).toNat)
  case atStart => exact ⟨0, by omega, rfl, Ex.refl _⟩
  case round =>
    obtain ⟨k, hk, rfl, kw⟩ := hrel
    obtain ⟨wo, rfl⟩ : ∃ wo : World, wo = wr := ⟨_, rfl⟩
    by_cases hlt : k < n
    · obtain ⟨x1, o1, y, rfl, hx1, hy, hc1⟩ := (h1.nx kw).at hlt
      obtain ⟨x2, o2, y', rfl, hx2, hy', hc2⟩ := (h2.nx kw).at hlt
      obtain rfl : y = y' := Option.some.inj (hy.symm.trans hy')
      have e0 : wo.cell? ⟨x1, o1 + k * 3, none⟩ = some (.int .i64 y.id) := hc1 0 _ rfl
      have e1 : wo.cell? ⟨x1, o1 + k * 3 + 1, none⟩ = some (.string y.key) := hc1 1 _ rfl
      have e2 : wo.cell? ⟨x1, o1 + k * 3 + 1 + 1, none⟩ = some (.int .u32 y.word) := by simpa [Nat.add_assoc] using hc1 2 _ rfl
      have f0 : wo.cell? ⟨x2, o2 + k * 3, none⟩ = some (.int .i64 y.id) := hc2 0 _ rfl
      have f1 : wo.cell? ⟨x2, o2 + k * 3 + 1, none⟩ = some (.string y.key) := hc2 1 _ rfl
      have f2 : wo.cell? ⟨x2, o2 + k * 3 + 1 + 1, none⟩ = some (.int .u32 y.word) := by simpa [Nat.add_assoc] using hc2 2 _ rfl
      clear hc1 hc2 hy hy' h1 h2
      go_wp2_with fail
      go_quiet (fail)
      go_wp2_with fail
      exact ⟨⟨k + 1, by omega, by go_num, kw.drewN _⟩, by simp [intOf]; omega⟩
    · obtain rfl : k = n := by omega
      clear h1 h2 hk hlt
      go_wp2_with fail
      go_ret
      exact ⟨rfl, kw⟩

theorem vkey_r (s : ByteArray) (w : World) : Calls Tryd.prog 38 #[.string s] w fun e w' => e = .returned (.bool (decide ((s.size : Int) ≤ 64))) ∧ w = w' := by
  go_enter Tryd.func38, Tryd.ntmps38
  go_wp2
  go_ret
  exact ⟨rfl, rfl⟩

/-- a node that may not be in a roster -/
def badN (x : Nd) : Bool := decide (x.id < 1) || decide (2147483647 < x.id) || !decide ((x.key.size : Int) ≤ 64) || !validN x.word
def eqN (x y : Nd) : Bool := x.id == y.id || x.key.toList == y.key.toList
def dupN (l : List Nd) : Bool := (List.range l.length).any fun (i : Nat) => (List.range i).any fun (k : Nat) => match l[i]?, l[k]? with | some x, some y => eqN x y | _, _ => false
theorem dupN_iff (l : List Nd) : dupN l = true ↔ ∃ (i k : Nat) (x y : Nd), k < i ∧ l[i]? = some x ∧ l[k]? = some y ∧ eqN x y = true := by
  unfold dupN
  simp only [List.any_eq_true, List.mem_range]
  constructor
  · rintro ⟨i, _, k, hk, h⟩
    cases hx : l[i]? with
    | none => simp [hx] at h
    | some x =>
      cases hy : l[k]? with
      | none => simp [hx, hy] at h
      | some y => exact ⟨i, k, x, y, hk, hx, hy, by simpa [hx, hy] using h⟩
  · rintro ⟨i, k, x, y, hk, hx, hy, he⟩
    exact ⟨i, (List.getElem?_eq_some_iff.1 hx).1, k, hk, by simpa [hx, hy] using he⟩
def checkN (l : List Nd) : Int := if 64 < l.length then 3 else if l.any badN then 1 else if dupN l then 5 else 0

def N2Rel (n : Nat) (l : List Nd) (w : World) (i j : Value) (wr : World) : Prop :=
  ∃ k : Nat, k ≤ n ∧ i = .int .i64 k ∧ Ex w wr ∧ ∀ i' k' x y, i' < k → k' < i' → l[i']? = some x → l[k']? = some y → eqN x y = false
def N3Rel (n : Nat) (l : List Nd) (x : Nd) (w : World) (i : Value) (wr : World) : Prop :=
  ∃ k : Nat, k ≤ n ∧ i = .int .i64 k ∧ Ex w wr ∧ ∀ k' y, k' < k → l[k']? = some y → eqN x y = false
def N1Rel (n : Nat) (l : List Nd) (w : World) (i : Value) (wr : World) : Prop :=
  ∃ k : Nat, k ≤ n ∧ i = .int .i64 k ∧ Ex w wr ∧ ∀ k' y, k' < k → l[k']? = some y → badN y = false

set_option maxHeartbeats 2000000 in
theorem check_r (a : Option Addr) (n c : Nat) (l : List Nd) (w : World) (h : Sl 3 encN w a n l) (hn : n ≤ 1000000) :
    Calls Tryd.prog 37 #[.slice a n c] w fun e w' => e = .returned (.int .i64 (checkN l)) ∧ Ex w w' := by
  have hlen := h.len
  go_enter Tryd.func37, Tryd.ntmps37
  by_cases h64 : 64 < n
  · have HC : Hid (checkN l = 3) := Lib.hid (by unfold checkN; rw [if_pos (by omega)])
    clear h hlen
    go_wp2_with fail
    go_ret
    exact ⟨by rw [HC.out]; rfl, Ex.refl _⟩
  have HL := Lib.hid hlen
  clear hlen
  go_wp2_with fail
  go_loopw [3] (fun i wr => N1Rel n l w i wr) (fun i _ => n - (intOf i).toNat)
  case atStart => exact ⟨0, by omega, rfl, Ex.refl _, by intro _ _ h; omega⟩
  case round =>
    obtain ⟨k, hk, rfl, kw, hgood⟩ := hrel
    have HG := Lib.hid hgood
    clear hgood
    obtain ⟨wo, rfl⟩ : ∃ wo : World, wo = wr := ⟨_, rfl⟩
    by_cases hlt : k < n
    · obtain ⟨x1, o1, y, rfl, hx1, hy, hc1⟩ := (h.nx kw).at hlt
      have e0 : wo.cell? ⟨x1, o1 + k * 3, none⟩ = some (.int .i64 y.id) := hc1 0 _ rfl
      have e1 : wo.cell? ⟨x1, o1 + k * 3 + 1, none⟩ = some (.string y.key) := hc1 1 _ rfl
      have e2 : wo.cell? ⟨x1, o1 + k * 3 + 1 + 1, none⟩ = some (.int .u32 y.word) := by simpa [Nat.add_assoc] using hc1 2 _ rfl
      have e2' : wo.cell? ⟨x1, o1 + k * 3 + 2, none⟩ = some (.int .u32 y.word) := hc1 2 _ rfl
      have HY := Lib.hid hy
      have BAD : badN y = true → checkN l = 1 := fun hb => by
        unfold checkN
        rw [if_neg (by rw [HL.out]; exact h64), if_pos (List.any_eq_true.2 ⟨y, List.mem_of_getElem? HY.out, hb⟩)]
      clear hc1 hy h
      by_cases b1 : y.id < 1
      · have HB := Lib.hid (BAD (by unfold badN; simp [b1]))
        clear BAD
        go_wp2_with fail
        go_ret
        exact ⟨by rw [HB.out]; rfl, kw⟩
      by_cases b2 : 2147483647 < y.id
      · have HB := Lib.hid (BAD (by unfold badN; simp [b2]))
        clear BAD
        go_wp2_with fail
        go_ret
        exact ⟨by rw [HB.out]; rfl, kw⟩
      have BAD := Lib.hid BAD
      go_wp2_with fail
      refine (vkey_r _ _).mono ?_
      rintro e w2 ⟨rfl, rfl⟩
      by_cases b3 : (y.key.size : Int) ≤ 64
      · have d3 : decide ((y.key.size : Int) ≤ 64) = true := by simpa using b3
        rw [d3]
        clear d3
        go_wp2_with fail
        refine (wvalid_r _ _).mono ?_
        rintro e w2 ⟨rfl, rfl⟩
        cases b4 : validN y.word with
        | true =>
          have BG : Hid (badN y = false) := Lib.hid (by unfold badN; simp [b1, b2, b3, b4])
          clear BAD b4 b3
          go_wp2_with fail
          refine ⟨⟨k + 1, by omega, by go_num, kw, fun k' y' hk' hy' => ?_⟩, by simp [intOf]; omega⟩
          rcases Nat.lt_or_ge k' k with h | h
          · exact HG.out k' y' h hy'
          · obtain rfl : k' = k := by omega
            rw [Option.some.inj (hy'.symm.trans HY.out)]
            exact BG.out
        | false =>
          have HB := Lib.hid (BAD.out (by unfold badN; simp [b4]))
          clear BAD b4
          go_wp2_with fail
          go_ret
          exact ⟨by rw [HB.out]; rfl, kw⟩
      · have d3 : decide ((y.key.size : Int) ≤ 64) = false := by simpa using b3
        have HB := Lib.hid (BAD.out (by unfold badN; simp [b3]))
        rw [d3]
        clear d3 BAD b3
        go_wp2_with fail
        go_ret
        exact ⟨by rw [HB.out]; rfl, kw⟩
    · obtain rfl : k = n := by omega
      have HNB : Hid (l.any badN = false) := Lib.hid (by
        rw [List.any_eq_false]
        intro y hy
        obtain ⟨j, hj, he⟩ := List.mem_iff_getElem.1 hy
        rw [HG.out j y (by rw [← HL.out]; exact hj) (by rw [← he]; simp)]
        simp)
      clear HG hlt hk
      obtain ⟨w1, rfl⟩ : ∃ w1 : World, w1 = wo := ⟨_, rfl⟩
      have hs := Lib.hid h
      clear h
      go_wp2_with fail
      go_loopw [4, 5] (fun i j wr => N2Rel k l w i j wr) (fun i _ _ => k - (intOf i).toNat)
      case atStart => exact ⟨0, by omega, rfl, kw, by intro _ _ _ _ h; omega⟩
      case round =>
        obtain ⟨m, hm, rfl, kw, hgood⟩ := hrel
        have HG := Lib.hid hgood
        clear hgood
        obtain ⟨wo, rfl⟩ : ∃ wo : World, wo = wr := ⟨_, rfl⟩
        by_cases hlt : m < k
        · obtain ⟨x1, o1, x, rfl, hx1, hx, hc1⟩ := (hs.out.nx kw).at hlt
          have HX := Lib.hid hx
          have HC := Lib.hid hc1
          clear hx hc1
          go_wp2_with fail
          go_loopw [5] (fun j wr => N3Rel m l x w j wr) (fun j _ => m - (intOf j).toNat)
          case atStart => exact ⟨0, by omega, rfl, kw, by intro _ _ h; omega⟩
          case round =>
            obtain ⟨q, hq, rfl, kv, hok⟩ := hrel
            have HO := Lib.hid hok
            clear hok
            obtain ⟨wi, rfl⟩ : ∃ wi : World, wi = wr := ⟨_, rfl⟩
            by_cases hlq : q < m
            · obtain ⟨x2, o2, y, e2, hx2, hy, hc2⟩ := (hs.out.nx kv).at (Nat.lt_trans hlq hlt)
              cases e2
              obtain ⟨x3, o3, x', e3, hx3, hx', hc1⟩ := (hs.out.nx kv).at hlt
              cases e3
              obtain rfl : x = x' := Option.some.inj (HX.out.symm.trans hx')
              have e0 : wi.cell? ⟨x1, o1 + m * 3, none⟩ = some (.int .i64 x.id) := hc1 0 _ rfl
              have e1 : wi.cell? ⟨x1, o1 + m * 3 + 1, none⟩ = some (.string x.key) := hc1 1 _ rfl
              have f0 : wi.cell? ⟨x1, o1 + q * 3, none⟩ = some (.int .i64 y.id) := hc2 0 _ rfl
              have f1 : wi.cell? ⟨x1, o1 + q * 3 + 1, none⟩ = some (.string y.key) := hc2 1 _ rfl
              have HY := Lib.hid hy
              have hqk := Nat.lt_trans hlq hlt
              have DUP : eqN x y = true → checkN l = 5 := fun he => by
                unfold checkN
                rw [if_neg (by rw [HL.out]; exact h64), HNB.out, if_neg (by simp), if_pos ((dupN_iff l).2 ⟨m, q, x, y, hlq, HX.out, HY.out, he⟩)]
              clear hc1 hc2 hy hx' HC hx1 hx2 hx3
              by_cases d1 : x.id = y.id
              · have HB := Lib.hid (DUP (by unfold eqN; simp [d1]))
                have b1 : (x.id == y.id) = true := by simp [d1]
                clear DUP d1
                go_wp2_with fail
                go_quiet (fail)
                go_wp2_with fail
                go_ret
                exact ⟨by rw [HB.out]; rfl, kv.drewN _⟩
              · have b1 : (x.id == y.id) = false := by simp [d1]
                by_cases d2 : x.key = y.key
                · have b2 := str_eqN d2
                  have HB := Lib.hid (DUP (by unfold eqN; rw [b2]; simp))
                  clear DUP d1 d2
                  go_wp2_with fail
                  go_quiet (fail)
                  go_wp2_with fail
                  go_ret
                  exact ⟨by rw [HB.out]; rfl, kv.drewN _⟩
                · have b2 := str_neN d2
                  have HB : Hid (eqN x y = false) := Lib.hid (by unfold eqN; rw [b1, b2]; rfl)
                  clear DUP d1 d2
                  go_wp2_with fail
                  go_quiet (fail)
                  go_wp2_with fail
                  refine ⟨⟨q + 1, by omega, by go_num, kv.drewN _, fun k' y' hk' hy' => ?_⟩, by simp [intOf]; omega⟩
                  rcases Nat.lt_or_ge k' q with h | h
                  · exact HO.out k' y' h hy'
                  · obtain rfl : k' = q := by omega
                    rw [Option.some.inj (hy'.symm.trans HY.out)]
                    exact HB.out
            · obtain rfl : q = m := by omega
              clear hlq hq HC
              go_wp2_with fail
              refine ⟨⟨q + 1, by omega, by go_num, kv, fun i' k' x' y' hi' hk' hx' hy' => ?_⟩, by simp [intOf]; omega⟩
              rcases Nat.lt_or_ge i' q with h | h
              · exact HG.out i' k' x' y' h hk' hx' hy'
              · obtain rfl : i' = q := by omega
                rw [Option.some.inj (hx'.symm.trans HX.out)]
                exact HO.out k' y' hk' hy'
        · obtain rfl : m = k := by omega
          have HC : Hid (checkN l = 0) := Lib.hid (by
            unfold checkN
            rw [if_neg (by rw [HL.out]; exact h64), HNB.out, if_neg (by simp), if_neg]
            intro hd
            obtain ⟨i, k, x, y, hk, hx, hy, he⟩ := (dupN_iff l).1 hd
            rw [HG.out i k x y (by have := (List.getElem?_eq_some_iff.1 hx).1; have := HL.out; omega) hk hx hy] at he
            cases he)
          clear HG hlt hm HNB
          go_wp2_with fail
          go_ret
          exact ⟨by rw [HC.out]; rfl, kw⟩
theorem is_r (a : Option Addr) (n c : Nat) (l : List Nd) (w : World) (h : Sl 3 encN w a n l) (hn : n ≤ 1000000) :
    Calls Tryd.prog 33 #[.slice a n c] w fun e w' => e = .returned (.bool (checkN l == 0)) ∧ Ex w w' := by
  go_enter Tryd.func33, Tryd.ntmps33
  go_wp2_with fail
  refine (check_r a n c l w h hn).mono ?_
  rintro e w1 ⟨rfl, kk⟩
  clear h
  go_wp2_with fail
  go_ret
  exact ⟨rfl, kk⟩
end Go.Proofs.YtenobfplmifomaaDoor
