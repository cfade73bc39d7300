/- Texts for the statement WireNodesProof, part 2 of 12: Nds, Tape, TapeK, Key, TWord, ApH, Rost, TapeBool, Copy, Sort, LsR, IdxR. -/
import Derived.Test.YtjaemckdfoaopaaDoorRows
import Derived.Maps.AppendAt
import Derived.Deep.RegionHeld3
import Derived.Laws.CopyOwn
import Derived.Deep.DeepCutAuto
import Derived.Test.YtjaemckdfoaopaaDoorWireNodesProofPk1

/- Nodes: when two lists are equal, which lists are rosters. -/
namespace Go.Proofs.YtjaemckdfoaopaaDoor
open Go.RowKit

theorem str_neN {x y : ByteArray} (h : ¬ x = y) : (x.toList == y.toList) = false := by
  rw [ByteArray.toList_eq, ByteArray.toList_eq, beq_eq_false_iff_ne]
  intro he
  exact h (ByteArray.ext (Array.toList_inj.1 he))
theorem str_eqN {x y : ByteArray} (h : x = y) : (x.toList == y.toList) = true := by subst h; simp

def NRel (n : Nat) (w : World) (i : Value) (wr : World) : Prop := ∃ k : Nat, k ≤ n ∧ i = .int .i64 k ∧ Ex w wr

theorem vkey_r (s : ByteArray) (w : World) : Calls Tryd.prog 60 #[.string s] w fun e w' => e = .returned (.bool (decide ((s.size : Int) ≤ 64))) ∧ w = w' := by
  go_enter Tryd.func60, Tryd.ntmps60
  go_wp2
  go_ret
  exact ⟨rfl, rfl⟩

/-- a node that may not be in a roster -/
def badN (x : Nd) : Bool := decide (x.id < 1) || decide (2147483647 < x.id) || !decide ((x.key.size : Int) ≤ 64) || !validN x.word
def eqN (x y : Nd) : Bool := x.id == y.id || x.key.toList == y.key.toList
def dupN (l : List Nd) : Bool := (List.range l.length).any fun (i : Nat) => (List.range i).any fun (k : Nat) => match l[i]?, l[k]? with | some x, some y => eqN x y | _, _ => false
theorem dupN_iff (l : List Nd) : dupN l = true ↔ ∃ (i k : Nat) (x y : Nd), k < i ∧ l[i]? = some x ∧ l[k]? = some y ∧ eqN x y = true := by
  unfold dupN
  simp only [List.any_eq_true, List.mem_range]
  constructor
  · rintro ⟨i, _, k, hk, h⟩
    cases hx : l[i]? with
    | none => simp [hx] at h
    | some x =>
      cases hy : l[k]? with
      | none => simp [hx, hy] at h
      | some y => exact ⟨i, k, x, y, hk, hx, hy, by simpa [hx, hy] using h⟩
  · rintro ⟨i, k, x, y, hk, hx, hy, he⟩
    exact ⟨i, (List.getElem?_eq_some_iff.1 hx).1, k, hk, by simpa [hx, hy] using he⟩
def checkN (l : List Nd) : Int := if 64 < l.length then 3 else if l.any badN then 1 else if dupN l then 5 else 0

def N2Rel (n : Nat) (l : List Nd) (w : World) (i j : Value) (wr : World) : Prop :=
  ∃ k : Nat, k ≤ n ∧ i = .int .i64 k ∧ Ex w wr ∧ ∀ i' k' x y, i' < k → k' < i' → l[i']? = some x → l[k']? = some y → eqN x y = false
def N3Rel (n : Nat) (l : List Nd) (x : Nd) (w : World) (i : Value) (wr : World) : Prop :=
  ∃ k : Nat, k ≤ n ∧ i = .int .i64 k ∧ Ex w wr ∧ ∀ k' y, k' < k → l[k']? = some y → eqN x y = false
def N1Rel (n : Nat) (l : List Nd) (w : World) (i : Value) (wr : World) : Prop :=
  ∃ k : Nat, k ≤ n ∧ i = .int .i64 k ∧ Ex w wr ∧ ∀ k' y, k' < k → l[k']? = some y → badN y = false

set_option maxHeartbeats 2000000 in
theorem check_r (a : Option Addr) (n c : Nat) (l : List Nd) (w : World) (h : Sl 3 encN w a n l) (hn : n ≤ 1000000) :
    Calls Tryd.prog 49 #[.slice a n c] w fun e w' => e = .returned (.int .i64 (checkN l)) ∧ Ex w w' := by
  have hlen := h.len
  go_enter Tryd.func49, Tryd.ntmps49
  by_cases h64 : 64 < n
  · have HC : Hid (checkN l = 3) := Lib.hid (by unfold checkN; rw [if_pos (by omega)])
    clear h hlen
    go_wp2_with fail
    go_ret
    exact ⟨by rw [HC.out]; rfl, Ex.refl _⟩
  have HL := Lib.hid hlen
  clear hlen
  go_wp2_with fail
  go_loopw [3] (fun i wr => N1Rel n l w i wr) (fun i _ => n - (intOf i).toNat)
  case atStart => exact ⟨0, by omega, rfl, Ex.refl _, by intro _ _ h; omega⟩
  case round =>
    obtain ⟨k, hk, rfl, kw, hgood⟩ := hrel
    have HG := Lib.hid hgood
    clear hgood
    obtain ⟨wo, rfl⟩ : ∃ wo : World, wo = wr := ⟨_, rfl⟩
    by_cases hlt : k < n
    · obtain ⟨x1, o1, y, rfl, hx1, hy, hc1⟩ := (h.nx kw).at hlt
      have e0 : wo.cell? ⟨x1, o1 + k * 3, none⟩ = some (.int .i64 y.id) := hc1 0 _ rfl
      have e1 : wo.cell? ⟨x1, o1 + k * 3 + 1, none⟩ = some (.string y.key) := hc1 1 _ rfl
      have e2 : wo.cell? ⟨x1, o1 + k * 3 + 1 + 1, none⟩ = some (.int .u32 y.word) := by simpa [Nat.add_assoc] using hc1 2 _ rfl
      have e2' : wo.cell? ⟨x1, o1 + k * 3 + 2, none⟩ = some (.int .u32 y.word) := hc1 2 _ rfl
      have HY := Lib.hid hy
      have BAD : badN y = true → checkN l = 1 := fun hb => by
        unfold checkN
        rw [if_neg (by rw [HL.out]; exact h64), if_pos (List.any_eq_true.2 ⟨y, List.mem_of_getElem? HY.out, hb⟩)]
      clear hc1 hy h
      by_cases b1 : y.id < 1
      · have HB := Lib.hid (BAD (by unfold badN; simp [b1]))
        clear BAD
        go_wp2_with fail
        go_ret
        exact ⟨by rw [HB.out]; rfl, kw⟩
      by_cases b2 : 2147483647 < y.id
      · have HB := Lib.hid (BAD (by unfold badN; simp [b2]))
        clear BAD
        go_wp2_with fail
        go_ret
        exact ⟨by rw [HB.out]; rfl, kw⟩
      have BAD := Lib.hid BAD
      go_wp2_with fail
      refine (vkey_r _ _).mono ?_
      rintro e w2 ⟨rfl, rfl⟩
      by_cases b3 : (y.key.size : Int) ≤ 64
      · have d3 : decide ((y.key.size : Int) ≤ 64) = true := by simpa using b3
        rw [d3]
        clear d3
        go_wp2_with fail
        refine (wvalid_r _ _).mono ?_
        rintro e w2 ⟨rfl, rfl⟩
        cases b4 : validN y.word with
        | true =>
          have BG : Hid (badN y = false) := Lib.hid (by unfold badN; simp [b1, b2, b3, b4])
          clear BAD b4 b3
          go_wp2_with fail
          refine ⟨⟨k + 1, by omega, by go_num, kw, fun k' y' hk' hy' => ?_⟩, by simp [intOf]; omega⟩
          rcases Nat.lt_or_ge k' k with h | h
          · exact HG.out k' y' h hy'
          · obtain rfl : k' = k := by omega
            rw [Option.some.inj (hy'.symm.trans HY.out)]
            exact BG.out
        | false =>
          have HB := Lib.hid (BAD.out (by unfold badN; simp [b4]))
          clear BAD b4
          go_wp2_with fail
          go_ret
          exact ⟨by rw [HB.out]; rfl, kw⟩
      · have d3 : decide ((y.key.size : Int) ≤ 64) = false := by simpa using b3
        have HB := Lib.hid (BAD.out (by unfold badN; simp [b3]))
        rw [d3]
        clear d3 BAD b3
        go_wp2_with fail
        go_ret
        exact ⟨by rw [HB.out]; rfl, kw⟩
    · obtain rfl : k = n := by omega
      have HNB : Hid (l.any badN = false) := Lib.hid (by
        rw [List.any_eq_false]
        intro y hy
        obtain ⟨j, hj, he⟩ := List.mem_iff_getElem.1 hy
        rw [HG.out j y (by rw [← HL.out]; exact hj) (by rw [← he]; simp)]
        simp)
      clear HG hlt hk
      obtain ⟨w1, rfl⟩ : ∃ w1 : World, w1 = wo := ⟨_, rfl⟩
      have hs := Lib.hid h
      clear h
      go_wp2_with fail
      go_loopw [4, 5] (fun i j wr => N2Rel k l w i j wr) (fun i _ _ => k - (intOf i).toNat)
      case atStart => exact ⟨0, by omega, rfl, kw, by intro _ _ _ _ h; omega⟩
      case round =>
        obtain ⟨m, hm, rfl, kw, hgood⟩ := hrel
        have HG := Lib.hid hgood
        clear hgood
        obtain ⟨wo, rfl⟩ : ∃ wo : World, wo = wr := ⟨_, rfl⟩
        by_cases hlt : m < k
        · obtain ⟨x1, o1, x, rfl, hx1, hx, hc1⟩ := (hs.out.nx kw).at hlt
          have HX := Lib.hid hx
          have HC := Lib.hid hc1
          clear hx hc1
          go_wp2_with fail
          go_loopw [5] (fun j wr => N3Rel m l x w j wr) (fun j _ => m - (intOf j).toNat)
          case atStart => exact ⟨0, by omega, rfl, kw, by intro _ _ h; omega⟩
          case round =>
            obtain ⟨q, hq, rfl, kv, hok⟩ := hrel
            have HO := Lib.hid hok
            clear hok
            obtain ⟨wi, rfl⟩ : ∃ wi : World, wi = wr := ⟨_, rfl⟩
            by_cases hlq : q < m
            · obtain ⟨x2, o2, y, e2, hx2, hy, hc2⟩ := (hs.out.nx kv).at (Nat.lt_trans hlq hlt)
              cases e2
              obtain ⟨x3, o3, x', e3, hx3, hx', hc1⟩ := (hs.out.nx kv).at hlt
              cases e3
              obtain rfl : x = x' := Option.some.inj (HX.out.symm.trans hx')
              have e0 : wi.cell? ⟨x1, o1 + m * 3, none⟩ = some (.int .i64 x.id) := hc1 0 _ rfl
              have e1 : wi.cell? ⟨x1, o1 + m * 3 + 1, none⟩ = some (.string x.key) := hc1 1 _ rfl
              have f0 : wi.cell? ⟨x1, o1 + q * 3, none⟩ = some (.int .i64 y.id) := hc2 0 _ rfl
              have f1 : wi.cell? ⟨x1, o1 + q * 3 + 1, none⟩ = some (.string y.key) := hc2 1 _ rfl
              have HY := Lib.hid hy
              have hqk := Nat.lt_trans hlq hlt
              have DUP : eqN x y = true → checkN l = 5 := fun he => by
                unfold checkN
                rw [if_neg (by rw [HL.out]; exact h64), HNB.out, if_neg (by simp), if_pos ((dupN_iff l).2 ⟨m, q, x, y, hlq, HX.out, HY.out, he⟩)]
              clear hc1 hc2 hy hx' HC hx1 hx2 hx3
              by_cases d1 : x.id = y.id
              · have HB := Lib.hid (DUP (by unfold eqN; simp [d1]))
                have b1 : (x.id == y.id) = true := by simp [d1]
                clear DUP d1
                go_wp2_with fail
                go_quiet (fail)
                go_wp2_with fail
                go_ret
                exact ⟨by rw [HB.out]; rfl, kv.drewN _⟩
              · have b1 : (x.id == y.id) = false := by simp [d1]
                by_cases d2 : x.key = y.key
                · have b2 := str_eqN d2
                  have HB := Lib.hid (DUP (by unfold eqN; rw [b2]; simp))
                  clear DUP d1 d2
                  go_wp2_with fail
                  go_quiet (fail)
                  go_wp2_with fail
                  go_ret
                  exact ⟨by rw [HB.out]; rfl, kv.drewN _⟩
                · have b2 := str_neN d2
                  have HB : Hid (eqN x y = false) := Lib.hid (by unfold eqN; rw [b1, b2]; rfl)
                  clear DUP d1 d2
                  go_wp2_with fail
                  go_quiet (fail)
                  go_wp2_with fail
                  refine ⟨⟨q + 1, by omega, by go_num, kv.drewN _, fun k' y' hk' hy' => ?_⟩, by simp [intOf]; omega⟩
                  rcases Nat.lt_or_ge k' q with h | h
                  · exact HO.out k' y' h hy'
                  · obtain rfl : k' = q := by omega
                    rw [Option.some.inj (hy'.symm.trans HY.out)]
                    exact HB.out
            · obtain rfl : q = m := by omega
              clear hlq hq HC
              go_wp2_with fail
              refine ⟨⟨q + 1, by omega, by go_num, kv, fun i' k' x' y' hi' hk' hx' hy' => ?_⟩, by simp [intOf]; omega⟩
              rcases Nat.lt_or_ge i' q with h | h
              · exact HG.out i' k' x' y' h hk' hx' hy'
              · obtain rfl : i' = q := by omega
                rw [Option.some.inj (hx'.symm.trans HX.out)]
                exact HO.out k' y' hk' hy'
        · obtain rfl : m = k := by omega
          have HC : Hid (checkN l = 0) := Lib.hid (by
            unfold checkN
            rw [if_neg (by rw [HL.out]; exact h64), HNB.out, if_neg (by simp), if_neg]
            intro hd
            obtain ⟨i, k, x, y, hk, hx, hy, he⟩ := (dupN_iff l).1 hd
            rw [HG.out i k x y (by have := (List.getElem?_eq_some_iff.1 hx).1; have := HL.out; omega) hk hx hy] at he
            cases he)
          clear HG hlt hm HNB
          go_wp2_with fail
          go_ret
          exact ⟨by rw [HC.out]; rfl, kw⟩
theorem is_r (a : Option Addr) (n c : Nat) (l : List Nd) (w : World) (h : Sl 3 encN w a n l) (hn : n ≤ 1000000) :
    Calls Tryd.prog 36 #[.slice a n c] w fun e w' => e = .returned (.bool (checkN l == 0)) ∧ Ex w w' := by
  go_enter Tryd.func36, Tryd.ntmps36
  go_wp2_with fail
  refine (check_r a n c l w h hn).mono ?_
  rintro e w1 ⟨rfl, kk⟩
  clear h
  go_wp2_with fail
  go_ret
  exact ⟨rfl, kk⟩

end Go.Proofs.YtjaemckdfoaopaaDoor

/- Walks over the tape of numbers from which the statements draw. -/
namespace Go.Proofs.YtjaemckdfoaopaaDoor
open Go.RowKit

set_option maxHeartbeats 400000 in
theorem mod_any (v n : Int) (w : World) (hn : 1 ≤ n) (hn2 : n ≤ 9223372036854775807) :
    Calls Tryd.prog 32 #[.int .i64 v, .int .i64 n] w fun e w' => e = .returned (.int .i64 (v % n)) ∧ w = w' := by
  obtain ⟨h1, h2⟩ := tmod_bounds v n hn
  have H3 := Lib.hid (emod_of_tmod v n hn)
  go_enter Tryd.func32, Tryd.ntmps32
  go_wp2
  · go_ret
    exact ⟨by rw [H3.out, if_pos ‹_›]; rfl, rfl⟩
  · go_ret
    exact ⟨by rw [H3.out, if_neg (by omega)]; rfl, rfl⟩

set_option maxHeartbeats 400000 in
theorem next_end (b len cap i : Nat) (n : Int) (a : Option Addr) (w : World) (hb : w.heap[b]? = some (.cells #[.slice a len cap, .int .i64 i] 57 (0, 0))) (hi : len ≤ i) (hn : ¬ n < 1) :
    Calls Tryd.prog 10 #[.pointer (some ⟨b, 0, none⟩), .int .i64 n] w fun e w' => e = .returned (.int .i64 0) ∧ ∃ m, w.drewN m = w' := by
  have c0 : w.cell? ⟨b, 0, none⟩ = some (.slice a len cap) := by simp [World.cell?, hb]
  have c1 : w.cell? ⟨b, 1, none⟩ = some (.int .i64 i) := by simp [World.cell?, hb]
  have d1 : decide (n < 1) = false := by simp; omega
  clear hb
  go_enter Tryd.func10, Tryd.ntmps10
  go_wp2
  go_quiet (fail)
  go_wp2
  go_ret
  exact ⟨rfl, _, rfl⟩

set_option maxHeartbeats 400000 in
theorem next_small (b : Nat) (n : Int) (w : World) (hn : n < 1) :
    Calls Tryd.prog 10 #[.pointer (some ⟨b, 0, none⟩), .int .i64 n] w fun e w' => e = .returned (.int .i64 0) ∧ ∃ m, w.drewN m = w' := by
  have d1 : decide (n < 1) = true := by simp; omega
  go_enter Tryd.func10, Tryd.ntmps10
  go_wp2
  go_quiet (fail)
  go_wp2
  go_ret
  exact ⟨rfl, _, rfl⟩

set_option maxHeartbeats 400000 in
theorem next_go (b len cap i x o : Nat) (n v : Int) (w : World) (hb : w.heap[b]? = some (.cells #[.slice (some ⟨x, o, none⟩) len cap, .int .i64 i] 57 (0, 0))) (hi : i < len) (hl : len ≤ 600) (hn : ¬ n < 1) (hn2 : n ≤ 9223372036854775807)
    (hx : x ≠ b) (hc : w.cell? ⟨x, o + i, none⟩ = some (.int .i64 v)) :
    Calls Tryd.prog 10 #[.pointer (some ⟨b, 0, none⟩), .int .i64 n] w fun e w' => e = .returned (.int .i64 (v % n)) ∧ ∃ m k, ((w.drewN k).setCell ⟨b, 1, none⟩ (.int .i64 (i + 1))).drewN m = w' := by
  have c0 : w.cell? ⟨b, 0, none⟩ = some (.slice (some ⟨x, o, none⟩) len cap) := by simp [World.cell?, hb]
  have c1 : w.cell? ⟨b, 1, none⟩ = some (.int .i64 i) := by simp [World.cell?, hb]
  have f1 : w.frozen? ⟨b, 1, none⟩ = false := by simp [World.frozen?, hb]
  have d1 : decide (n < 1) = false := by simp; omega
  have e1 : IntKind.i64.wrap (i : Int) = i := IntWalk.i64_in _ (by omega)
  have e2 : IntKind.i64.wrap ((i : Int) + 1) = (i : Int) + 1 := IntWalk.i64_in _ (by omega)
  clear hb
  go_enter Tryd.func10, Tryd.ntmps10
  go_wp2
  go_quiet (fail)
  go_wp2
  go_quiet ((go_at_call 32; exact quiet_of_eq (mod_any _ _ _ (by omega) (by omega))))
  go_wp2
  go_ret
  exact ⟨rfl, _, _, rfl⟩

theorem next_x {B b : Nat} (n : Int) (w : World) (h : TP 57 B w b) (hn2 : n ≤ 9223372036854775807) :
    Calls Tryd.prog 10 #[.pointer (some ⟨b, 0, none⟩), .int .i64 n] w (SomeInt 0 (if n < 1 then 0 else n - 1) 57 B b w) := by
  by_cases hn : n < 1
  · refine (next_small b n w hn).mono ?_
    rintro e w' ⟨rfl, m, rfl⟩
    exact ⟨0, rfl, by omega, by rw [if_pos hn]; omega, (Chg.refl _ _).drewN _, h⟩
  · obtain ⟨a, cap, i, x, o, l, h1, h2, h3, h4, h5⟩ := id h
    by_cases hi : i < l.length
    · rcases h5 with rfl | ⟨rfl, e2, e3, e4⟩
      · simp at hi
      · refine (next_go b _ cap i x o n _ w h1 hi h3 hn hn2 e2 (e4 i hi)).mono ?_
        rintro e w' ⟨rfl, m, k, rfl⟩
        refine ⟨_, rfl, Int.emod_nonneg _ (by omega), ?_, ?_, ?_⟩
        · rw [if_neg hn]; have := Int.emod_lt_of_pos (l.getD i 0) (show 0 < n by omega); omega
        · exact (((Chg.refl _ _).drewN _).setCell _ (fun k hk => hk.2)).drewN _
        · refine ⟨_, cap, i + 1, x, o, l, ?_, h2, h3, by omega, .inr ⟨rfl, e2, e3, fun j hj => ?_⟩⟩
          · show (w.setCell ⟨b, 1, none⟩ (.int .i64 (i + 1))).heap[b]? = _
            simp [World.setCell, Array.getElem?_modify, h1]
          · show (w.setCell ⟨b, 1, none⟩ (.int .i64 (i + 1))).cell? _ = _
            rw [World.cell?_of_block (w := w) (Below.heap_setCell w _ _ _ e2)]
            exact e4 j hj
    · refine (next_end b _ cap i n a w h1 (by omega) hn).mono ?_
      rintro e w' ⟨rfl, m, rfl⟩
      exact ⟨0, rfl, by omega, by rw [if_neg hn]; omega, (Chg.refl _ _).drewN _, h⟩

/-- Pick: some number of the list -/
theorem pick_x {B b s so len : Nat} (lo hi : Int) (l : List Int) (w : World) (h : TP 57 B w b) (hB : B ≤ s) (hs : s < w.heap.size) (hl : l.length = len) (hl0 : 0 < len) (hl2 : len ≤ 100)
    (hc : ∀ j, j < len → w.cell? ⟨s, so + j, none⟩ = some (.int .i64 (l.getD j 0))) (hr : ∀ x ∈ l, lo ≤ x ∧ x ≤ hi) :
    Calls Tryd.prog 40 #[.pointer (some ⟨b, 0, none⟩), .slice (some ⟨s, so, none⟩) len len] w (SomeInt lo hi 57 B b w) := by
  have hlt := h.lt
  go_enter Tryd.func40, Tryd.ntmps40
  go_wp2_with fail
  refine (next_x _ w h (by omega)).mono ?_
  rintro e w1 ⟨r, rfl, r0, r1, k1, t1⟩
  rw [if_neg (by omega)] at r1
  obtain ⟨j, rfl⟩ := Int.eq_ofNat_of_zero_le r0
  have hj : j < len := by omega
  have hc1 : w1.cell? ⟨s, so + j, none⟩ = some (.int .i64 (l.getD j 0)) := k1.cellv (hc j hj) ⟨hs, by simp; omega⟩
  have hm : l.getD j 0 ∈ l := by simp [List.getD, hl, hj]
  have hr1 := hr _ hm
  clear hc hr hl hm
  go_wp2
  go_ret
  exact ⟨_, rfl, hr1.1, hr1.2, k1, t1⟩


/-- Pick on a list that was just written out -/
theorem pick_lit {B b n s : Nat} (lo hi : Int) (l : List Int) {A : Array Value} {W0 : World} (h : TP 57 B W0 b) (hB : B ≤ W0.heap.size) (hs : s = W0.heap.size) (hA : A = (l.map (Value.int .i64)).toArray) (hl : l.length = n) (hl0 : 0 < n) (hl2 : n ≤ 100)
    (hr : ∀ x ∈ l, lo ≤ x ∧ x ≤ hi) :
    Calls Tryd.prog 40 #[.pointer (some ⟨b, 0, none⟩), .slice (some ⟨s, 0, none⟩) n n] (W0.alloc (.cells A 3)) (SomeInt lo hi 57 B b W0) := by
  subst hA hs
  have hc := (Chg.refl (· < W0.heap.size) W0).alloc (.cells (l.map (Value.int .i64)).toArray 3) (fun k hk => hk)
  refine (pick_x (s := W0.heap.size) (so := 0) lo hi l _ (h.chg hc (by omega)) hB (by simp) hl hl0 hl2 ?_ hr).mono ?_
  · intro j hj
    simp [List.getD, hl, hj]
  · rintro e w' ⟨r, rfl, r0, r1, k1, t1⟩
    exact ⟨r, rfl, r0, r1, (hc.mono (fun k hk => hk.1)).trans (k1.mono (by simp; intro k h1 h2; omega)), t1⟩


/-- a new tape -/
def NewTape (w : World) (e : Ending) (w' : World) : Prop :=
  e = .returned (.pointer (some ⟨w.heap.size, 0, none⟩)) ∧ TP 57 (w.heap.size + 1) w' w.heap.size ∧ Chg (· < w.heap.size) w w'

theorem tape_made {S : Nat → Prop} {n cap m : Nat} {a : Option Addr} {l : List Int} {w : World} (h : Rd 1 encI S w a n l) (hS : ∀ k, S k → k < w.heap.size) (hm : m ≤ n) (hm2 : m ≤ 600) :
    TP 57 (w.heap.size + 1) (w.alloc (.cells #[.slice a m cap, .int .i64 0] 57)) w.heap.size := by
  have hl : (l.take m).length = m := by have := h.1; simp; omega
  rcases Nat.eq_zero_or_pos m with h0 | h0
  · subst h0
    exact ⟨a, cap, 0, 0, 0, [], by simpa using heap_new w _, by omega, by simp, by simp, .inl rfl⟩
  · obtain ⟨x, o, y, rfl, hx, _, _⟩ := h.at (j := 0) (by omega)
    have hx := hS x hx
    refine ⟨_, cap, 0, x, o, l.take m, by rw [hl]; exact heap_new w _, by omega, by omega, by omega, .inr ⟨rfl, by omega, by omega, fun j hj => ?_⟩⟩
    have hj : j < m := by omega
    obtain ⟨x', o', y', e1, _, e3, e4⟩ := h.at (j := j) (by omega)
    cases e1
    have e5 := e4 0 _ rfl
    have e6 : (l.take m).getD j 0 = y' := by simp [List.getD, List.getElem?_take, hj, e3]
    rw [e6]
    rw [World.cell?_of_block (w := w) (Below.heap_alloc w _ _ (by simp; omega))]
    simpa using e5

set_option maxHeartbeats 400000 in
theorem new_x {S : Nat → Prop} (a : Option Addr) (n cap : Nat) (l : List Int) (w : World) (h : Rd 1 encI S w a n l) (hS : ∀ k, S k → k < w.heap.size) (hn : n ≤ cap) (hcap : cap ≤ maxLen) :
    Calls Tryd.prog 6 #[.slice a n cap] w (NewTape w) := by
  unfold maxLen at hcap
  by_cases h6 : 600 < n
  · have hm := tape_made (cap := cap) (m := 600) h hS (by omega) (by omega)
    go_enter Tryd.func6, Tryd.ntmps6
    go_wp2
    go_ret
    exact ⟨rfl, hm, (Chg.refl _ _).alloc _ (by simp)⟩
  · have hm := tape_made (cap := cap) (m := n) h hS (by omega) (by omega)
    go_enter Tryd.func6, Tryd.ntmps6
    go_wp2
    go_ret
    exact ⟨rfl, hm, (Chg.refl _ _).alloc _ (by simp)⟩
end Go.Proofs.YtjaemckdfoaopaaDoor

/- The tape, in the standard forms. -/
namespace Go.Proofs.YtjaemckdfoaopaaDoor
open Go.RowKit

/-- a tape at b -/
def TK (w : World) (b : Nat) : Prop := TP 57 (b + 1) w b
theorem TK.lt {w : World} {b : Nat} (h : TK w b) : b < w.heap.size := by
  obtain ⟨_, _, _, _, _, _, h1, _⟩ := h
  exact heap_lt h1
theorem TK.nx {w w' : World} {b : Nat} (h : TK w b) (k : Ex w w') : TK w' b := TP.chg h k (fun x hx => Nat.lt_of_lt_of_le hx h.lt)
/-- a store behind the tape -/
theorem TK.set {w : World} {b : Nat} (h : TK w b) {p : Addr} (v : Value) (hp : b < p.block) : TK (w.setCell p v) b :=
  TP.chg h ((Chg.refl (· < b + 1) w).setCell v (fun k (hk : k < b + 1) => by omega)) (fun _ hk => hk)
/-- a number below n (0 if there is none) -/
def NumPost (n : Int) (b : Nat) (w : World) (e : Ending) (w' : World) : Prop :=
  ∃ r : Int, e = .returned (.int .i64 r) ∧ 0 ≤ r ∧ r ≤ n ∧ TK w' b ∧ Exb b w w'
theorem next_t {b : Nat} (n : Int) (w : World) (h : TK w b) (h1 : 1 ≤ n) (h2 : n ≤ 9223372036854775807) :
    Calls Tryd.prog 10 #[.pointer (some ⟨b, 0, none⟩), .int .i64 n] w (NumPost (n - 1) b w) := by
  refine (next_x n w h h2).mono ?_
  rintro e w' ⟨r, rfl, r0, r1, k, t⟩
  rw [if_neg (by omega)] at r1
  exact ⟨r, rfl, r0, r1, t, k⟩
theorem next_t0 {b : Nat} (n : Int) (w : World) (h : TK w b) (h2 : n ≤ 9223372036854775807) :
    Calls Tryd.prog 10 #[.pointer (some ⟨b, 0, none⟩), .int .i64 n] w (NumPost (if n < 1 then 0 else n - 1) b w) := by
  refine (next_x n w h h2).mono ?_
  rintro e w' ⟨r, rfl, r0, r1, k, t⟩
  exact ⟨r, rfl, r0, r1, t, k⟩
/-- one of some numbers that were just written out -/
theorem pick_t {b n s : Nat} (lo hi : Int) (l : List Int) {A : Array Value} {w : World} (h : TK w b) (hs : s = w.heap.size) (hA : A = (l.map (Value.int .i64)).toArray) (hl : l.length = n) (hl0 : 0 < n) (hl2 : n ≤ 100)
    (hr : ∀ x ∈ l, lo ≤ x ∧ x ≤ hi) :
    Calls Tryd.prog 40 #[.pointer (some ⟨b, 0, none⟩), .slice (some ⟨s, 0, none⟩) n n] (w.alloc (.cells A 3)) fun e w' =>
      ∃ r : Int, e = .returned (.int .i64 r) ∧ lo ≤ r ∧ r ≤ hi ∧ TK w' b ∧ Exb b w w' := by
  refine (pick_lit lo hi l h h.lt hs hA hl hl0 hl2 hr).mono ?_
  rintro e w' ⟨r, rfl, r0, r1, k, t⟩
  exact ⟨r, rfl, r0, r1, t, k⟩
theorem new_t (a : Option Addr) (n cap : Nat) (l : List Int) (w : World) (h : Sl 1 encI w a n l) (hn : n ≤ cap) (hcap : cap ≤ maxLen) :
    Calls Tryd.prog 6 #[.slice a n cap] w fun e w' => e = .returned (.pointer (some ⟨w.heap.size, 0, none⟩)) ∧ TK w' w.heap.size ∧ Ex w w' ∧ w.heap.size < w'.heap.size := by
  refine (new_x a n cap l w h (fun _ hk => hk) hn hcap).mono ?_
  rintro e w' ⟨rfl, t, k⟩
  have hlt : w.heap.size < w'.heap.size := by
    obtain ⟨_, _, _, _, _, _, h1, _⟩ := t
    exact heap_lt h1
  exact ⟨rfl, t, k, hlt⟩
end Go.Proofs.YtjaemckdfoaopaaDoor

/- Keys of the tape. -/
namespace Go.Proofs.YtjaemckdfoaopaaDoor
open Go.RowKit

/-- the letters, as they are laid: strings of one byte -/
def LetG (w : World) : Prop := ∀ j, j < 6 → ∃ s : ByteArray, s.size = 1 ∧ w.cell? ⟨0, j, none⟩ = some (.string s)
theorem LetG.lt {w : World} (h : LetG w) : 0 < w.heap.size := by
  obtain ⟨s, _, h⟩ := h 0 (by omega)
  exact World.block_lt_of_cell? w _ h
theorem LetG.nx {w w' : World} (h : LetG w) (k : Ex w w') : LetG w' := fun j hj => by
  obtain ⟨s, h1, h2⟩ := h j hj
  exact ⟨s, h1, Chg.cellv k h2 (World.block_lt_of_cell? w _ h2)⟩
theorem LetG.nxb {b : Nat} {w w' : World} (h : LetG w) (hb : ¬ 0 = b) (k : Exb b w w') : LetG w' := fun j hj => by
  obtain ⟨s, h1, h2⟩ := h j hj
  exact ⟨s, h1, Chg.cellv k h2 ⟨World.block_lt_of_cell? w _ h2, hb⟩⟩

def LongRel (k0 : Nat) (o i : Value) : Prop := ∃ (k : Nat) (s : ByteArray), k ≤ k0 ∧ i = .int .i64 k ∧ o = .string s ∧ s.size = k
set_option maxHeartbeats 400000 in
theorem long_x (s : ByteArray) (n : Nat) (w : World) (hs : s.size = 1) (hn : n ≤ 1000) :
    Calls Tryd.prog 31 #[.string s, .int .i64 n] w fun e w' => (∃ r : ByteArray, e = .returned (.string r) ∧ r.size = n) ∧ w = w' := by
  have HS := Lib.hid hs
  have hs1 : s.size ≤ 1 := Nat.le_of_eq hs
  clear hs
  go_enter Tryd.func31, Tryd.ntmps31
  go_wp2
  go_loop [5, 6] (fun o i => LongRel n o i) (fun _ i => n - (intOf i).toNat)
  case atStart => exact ⟨0, ⟨#[]⟩, by omega, rfl, rfl, rfl⟩
  case round =>
    obtain ⟨k, o, hk, rfl, rfl, ho⟩ := hrel
    have HO := Lib.hid ho
    have ho1 : o.size ≤ 1000 := by omega
    clear ho
    by_cases hlt : k < n
    · go_wp2
      go_round
      case rel => exact ⟨k + 1, _, by omega, by go_num, rfl, by rw [ByteArray.size_append, HO.out, HS.out]⟩
      case measure => simp [intOf]; omega
    · go_wp2
      go_ret
      exact ⟨⟨o, rfl, by rw [HO.out]; omega⟩, rfl⟩

def KeyPost (m b : Nat) (w : World) (e : Ending) (w' : World) : Prop := ∃ s : ByteArray, e = .returned (.string s) ∧ s.size ≤ m ∧ TK w' b ∧ Exb b w w'
def KeyRel (b : Nat) (w : World) (o i : Value) (wr : World) : Prop := ∃ (k : Nat) (s : ByteArray), k ≤ 3 ∧ i = .int .i64 k ∧ o = .string s ∧ s.size + k ≤ 3 ∧ TK wr b ∧ Exb b w wr

set_option maxHeartbeats 1000000 in
theorem key_t {b : Nat} (w : World) (h : TK w b) (hL : LetG w) (hgb : ¬ 0 = b) : Calls Tryd.prog 9 #[.pointer (some ⟨b, 0, none⟩)] w (KeyPost 64 b w) := by
  go_enter Tryd.func9, Tryd.ntmps9
  go_wp2_with fail
  refine (next_t 12 _ h (by omega) (by omega)).mono ?_
  rintro e w1 ⟨r, rfl, r0, r1, T, k1⟩
  have L1 := hL.nxb hgb k1
  clear h hL
  by_cases h10 : r = 10
  · subst h10
    go_wp2_with fail
    refine (next_t 6 _ T (by omega) (by omega)).mono ?_
    clear T
    rintro e w2 ⟨j, rfl, j0, j1, T, k2⟩
    obtain ⟨j, rfl⟩ := Int.eq_ofNat_of_zero_le j0
    obtain ⟨s, hs, hc⟩ := (L1.nxb hgb k2) j (by omega)
    have kk := k1.nxb k2
    have HS := Lib.hid hs
    clear hs k1 k2 L1
    go_wp2_with fail
    refine (long_x s 64 _ HS.out (by omega)).mono ?_
    rintro e w3 ⟨⟨r, rfl, hr⟩, rfl⟩
    have HR := Lib.hid hr
    clear hr
    go_wp2_with fail
    go_ret
    exact ⟨r, rfl, Nat.le_of_eq HR.out, T, kk⟩
  · have d10 : (r == 10) = false := by simp [h10]
    by_cases h11 : r = 11
    · subst h11
      clear h10
      go_wp2_with fail
      go_ret
      exact ⟨⟨#[]⟩, rfl, by simp [ByteArray.size], T, k1⟩
    · have d11 : (r == 11) = false := by simp [h11]
      clear h10 h11
      go_wp2_with fail
      refine (next_t 3 _ T (by omega) (by omega)).mono ?_
      clear T
      rintro e w2 ⟨m, rfl, m0, m1, T, k2⟩
      obtain ⟨m, rfl⟩ := Int.eq_ofNat_of_zero_le m0
      have L2 := L1.nxb hgb k2
      have kk := k1.nxb k2
      clear k1 k2 L1
      go_wp2_with fail
      go_loopw [3, 4] (fun o i wr => KeyRel b w2 o i wr) (fun _ i _ => (intOf i).toNat)
      case atStart => exact ⟨m + 1, ⟨#[]⟩, by omega, congrArg (Value.int .i64) (by omega), rfl, by show 0 + (m + 1) ≤ 3; omega, T, Exb.refl _ _⟩
      case round =>
        clear T
        obtain ⟨k, o, hk, rfl, rfl, ho, T, kw⟩ := hrel
        obtain ⟨wo, rfl⟩ : ∃ wo : World, wo = wr := ⟨_, rfl⟩
        have ho1 : o.size ≤ 3 := by omega
        by_cases hk0 : 0 < k
        · go_wp2_with fail
          refine (next_t 6 _ T (by omega) (by omega)).mono ?_
          clear T
          rintro e w4 ⟨j, rfl, j0, j1, T, k4⟩
          obtain ⟨j, rfl⟩ := Int.eq_ofNat_of_zero_le j0
          obtain ⟨s, hs, hc⟩ := ((L2.nxb hgb kw).nxb hgb k4) j (by omega)
          replace kw := kw.nxb k4
          have HS := Lib.hid hs
          have hs1 : s.size ≤ 1 := Nat.le_of_eq hs
          clear hs k4 L2
          go_wp2_with fail
          refine ⟨⟨k - 1, o ++ s, by omega, ?_, rfl, by rw [ByteArray.size_append, HS.out]; omega, T, kw⟩, by simp [intOf]; omega⟩
          rw [show ((k - 1 : Nat) : Int) = (k : Int) - 1 by omega]
        · clear L2
          go_wp2_with fail
          go_ret
          exact ⟨o, rfl, by omega, T, kk.nxb kw⟩
end Go.Proofs.YtjaemckdfoaopaaDoor

/- A walk over the words that are drawn from a tape. -/
namespace Go.Proofs.YtjaemckdfoaopaaDoor
open Go.RowKit

/-- some word -/
def SomeWord (ty B b : Nat) (w : World) (e : Ending) (w' : World) : Prop :=
  ∃ r : Nat, e = .returned (.int .u32 r) ∧ r < 65536 ∧ Chg (fun k => k < w.heap.size ∧ k ≠ b) w w' ∧ TP ty B w' b

theorem conv_u32 (r : Int) (h0 : 0 ≤ r) (h1 : r < 65536) : ∃ m : Nat, r = m ∧ m < 65536 ∧ IntKind.u32.wrap r = (m : Int) := by
  obtain ⟨m, rfl⟩ := Int.eq_ofNat_of_zero_le h0
  refine ⟨m, rfl, by omega, ?_⟩
  simp [IntKind.wrap, IntKind.signed, IntKind.bits]
  omega

set_option maxHeartbeats 1000000 in
theorem word_x {B b : Nat} (w : World) (h : TP 57 B w b) (hB : B ≤ w.heap.size) :
    Calls Tryd.prog 35 #[.pointer (some ⟨b, 0, none⟩)] w (SomeWord 57 B b w) := by
  go_enter Tryd.func35, Tryd.ntmps35
  go_wp2_with fail
  refine (next_x _ w h (by omega)).mono ?_
  rintro e w1 ⟨r, rfl, r0, r1, k1, t1⟩
  have z1 := k1.size
  by_cases e4 : r = 4
  · subst e4
    go_wp2_with fail
    refine (next_x _ _ t1 (by omega)).mono ?_
    rintro e w2 ⟨s, rfl, s0, s1, k2, t2⟩
    rw [if_neg (by omega)] at s1
    obtain ⟨m, rfl, hm, hw⟩ := conv_u32 s s0 (by omega)
    go_wp2_with fail
    go_ret
    exact ⟨m, rfl, hm, k1.then k2 (by intro k hk; omega), t2⟩
  · have d4 : (r == 4) = false := by simp [e4]
    by_cases e5 : r = 5
    · subst e5
      go_wp2_with fail
      refine (pick_lit 0 65535 [0, 65535, 32768] t1 (by omega) (by simp) (by rfl) (by rfl) (by omega) (by omega) (by simp)).mono ?_
      rintro e w2 ⟨s, rfl, s0, s1, k2, t2⟩
      obtain ⟨m, rfl, hm, hw⟩ := conv_u32 s s0 (by omega)
      go_wp2_with fail
      go_ret
      exact ⟨m, rfl, hm, k1.then k2 (by intro k hk; omega), t2⟩
    · have d5 : (r == 5) = false := by simp [e5]
      clear e4 e5
      go_wp2_with fail
      refine (next_x _ _ t1 (by omega)).mono ?_
      rintro e w2 ⟨s, rfl, s0, s1, k2, t2⟩
      rw [if_neg (by omega)] at s1
      obtain ⟨m, rfl, hm, hw⟩ := conv_u32 s s0 (by omega)
      go_wp2_with fail
      go_ret
      exact ⟨m, rfl, hm, k1.then k2 (by intro k hk; omega), t2⟩
end Go.Proofs.YtjaemckdfoaopaaDoor

/- The two laws of append, for a region that draws its order. -/
namespace Go.Proofs.YtjaemckdfoaopaaDoor
open Go.RowKit

theorem wp_append_none {P : Program} {w : World} {o : Oper} {a : Act} {K : Act → World → Prop} {Q : Exit → Act → World → Prop} (s x : Operand) (t : TypeId)
    (ho : o.op = .call { callee := .builtin .append, args := #[s, x], argTypes := #[t, t] })
    (base : Nat) (e : TypeId) (i : TypeInfo) (size : Nat) (ht : P.underlying t = some (.slice e)) (hi : P.info? e = some i)
    (v : Value) (n : Nat) (xs : List Value) (hs : a.eval s = v) (hown : w.ownsRow base e size v n xs) (hx : a.eval x = .slice none 0 0)
    (h : K (a.put o.dst v) w) : o.wp P a w K Q := by
  have hrun := run_append_owned_none (P := P) (w := w) base t o.type e i size ht hi v n xs hown
  unfold Oper.wp
  simp [execOp, ho, resolve, invoke, builtin, hs, hx, hrun, Result.andThen]
  exact h

/-- append of one element that was just written out -/
theorem wp_append_lit {P : Program} {α : Type} {enc : α → List Value} {o : Oper} {a : Act} {K : Act → World → Prop} {Q : Exit → Act → World → Prop} (w0 : World) (s x : Operand) (t : TypeId)
    (ho : o.op = .call { callee := .builtin .append, args := #[s, x], argTypes := #[t, t] })
    (base : Nat) (e : TypeId) (z : Value) (sz bytes : Nat) (ht : P.underlying t = some (.slice e)) (hi : (P.info? e).map (fun i => (i.zero, i.size, i.bytes)) = some (some z, sz, bytes))
    (hzs : z.cells.size = sz) (hsz : 0 < sz) (hby : bytes ≤ 65536)
    (v : Value) (l : List α) (hown : OwnL sz enc e base w0 v l) (hs : a.eval s = v) (y : α) (A : Array Value) (hA : A = (enc y).toArray) (hlen : (enc y).length = sz) (h1 : ∀ u ∈ enc y, u.oneCell' = true)
    (k : Nat) (hk : k = w0.heap.size) (hx : a.eval x = .slice (some ⟨k, 0, none⟩) 1 1) (hl : l.length ≤ 1000000) (hbase : base ≤ w0.heap.size) (e' : TypeId)
    (h : ∀ v' w', OwnL sz enc e base w' v' (l ++ [y]) → Chg (fun k => k < w0.heap.size ∧ ¬ v.ownBlock = some k) w0 w' → Chg (· < base) w0 w' → w0.heap.size < w'.heap.size → K (a.put o.dst v') w') :
    o.wp P a (w0.alloc (.cells A e')) K Q := by
  subst hA hk
  obtain ⟨i, hi, hz0, hz1, hz2⟩ := info_parts hi
  have hmul : (l.length + 1) * bytes ≤ 1000001 * 65536 := Nat.mul_le_mul (by omega) hby
  refine wp_append_own _ s x t ho base e i z sz bytes ht hi hz0 hz1 hz2 hzs hsz v l.length (l.flatMap enc) hs (hown.alloc _) ⟨w0.heap.size, 0, none⟩ 1 1 (enc y) hx (by simp [hlen]) ?_ h1 (by unfold maxLen; omega) (by omega) (by simp; omega) ?_
  · intro j u hu
    rw [Addr.add_lit]
    simp only [Nat.zero_add]
    rw [World.cell?, heap_new]
    simpa using hu
  · intro v' w' hown' hgrow hnil
    have hz' := hgrow.size
    simp at hz'
    have hch : Chg (fun k => k < w0.heap.size ∧ ¬ v.ownBlock = some k) w0 w' := ⟨hgrow.os, hgrow.tape, hgrow.output, by omega, fun k hk => by
      rw [hgrow.block k (by simp; omega) (fun h => hk.2 h.symm)]
      exact Below.heap_alloc _ _ _ hk.1⟩
    refine h v' w' ?_ hch (hch.mono fun k hk => ⟨by omega, fun hv => ?_⟩) hz'
    · unfold OwnL
      simpa [List.flatMap_append] using hown'
    · have := hown.lt k hv
      omega

/-- append of a whole slice that reads as a list -/
theorem wp_append_rd {P : Program} {α : Type} {enc : α → List Value} {o : Oper} {a : Act} {K : Act → World → Prop} {Q : Exit → Act → World → Prop} (w0 : World) (s x : Operand) (t : TypeId)
    (ho : o.op = .call { callee := .builtin .append, args := #[s, x], argTypes := #[t, t] })
    (base : Nat) (e : TypeId) (z : Value) (sz bytes : Nat) (ht : P.underlying t = some (.slice e)) (hi : (P.info? e).map (fun i => (i.zero, i.size, i.bytes)) = some (some z, sz, bytes))
    (hzs : z.cells.size = sz) (hsz : 0 < sz) (hby : bytes ≤ 65536)
    (v : Value) (l : List α) (hown : OwnL sz enc e base w0 v l) (hs : a.eval s = v) (S : Nat → Prop) (A : Option Addr) (n c : Nat) (news : List α) (hrd : Rd sz enc S w0 A n news) (hA : A = none → c = 0) (hlen : ∀ y, (enc y).length = sz) (h1 : ∀ y, ∀ u ∈ enc y, u.oneCell' = true)
    (hx : a.eval x = .slice A n c) (hl : l.length ≤ 1000000) (hn : n ≤ 1000000) (hbase : base ≤ w0.heap.size)
    (h : ∀ v' w', OwnL sz enc e base w' v' (l ++ news) → Chg (fun k => k < w0.heap.size ∧ ¬ v.ownBlock = some k) w0 w' → Chg (· < base) w0 w' → K (a.put o.dst v') w') :
    o.wp P a w0 K Q := by
  obtain ⟨i, hi, hz0, hz1, hz2⟩ := info_parts hi
  have hmul : (l.length + n) * bytes ≤ 2000000 * 65536 := Nat.mul_le_mul (by omega) hby
  have hnl := hrd.1
  cases A with
  | none =>
    have hc := hA rfl
    have hn0 : n = 0 := by
      rcases hrd.2 with h0 | ⟨x, o, e1, _⟩
      · exact h0
      · cases e1
    subst hn0 hc
    have hnews : news = [] := List.eq_nil_of_length_eq_zero hnl
    subst hnews
    refine wp_append_none s x t ho base e i sz ht hi v l.length (l.flatMap enc) hs hown hx ?_
    exact h v w0 (by simpa using hown) (Chg.refl _ _) (Chg.refl _ _)
  | some ad =>
    refine wp_append_own _ s x t ho base e i z sz bytes ht hi hz0 hz1 hz2 hzs hsz v l.length (l.flatMap enc) hs hown ad n c (news.flatMap enc) hx ?_ ?_ ?_ (by unfold maxLen; omega) (by omega) hbase ?_
    · have : ∀ l : List α, (l.flatMap enc).length = l.length * sz := by
        intro l
        induction l with
        | nil => simp
        | cons y r ih => rw [List.flatMap_cons, List.length_append, hlen, ih, List.length_cons, Nat.succ_mul]; omega
      rw [this, hnl]
    · intro j u hu
      have hj := (List.getElem?_eq_some_iff.1 hu).1
      rcases hrd.2 with h0 | ⟨x, o, e1, _, e3⟩
      · subst h0
        have : news = [] := List.eq_nil_of_length_eq_zero hnl
        subst this
        simp at hj
      · cases e1
        rw [Addr.add_lit]
        have hdiv : ∃ y, news[j / sz]? = some y ∧ (enc y)[j % sz]? = some u := by
          clear e3 hmul hown h hx hrd
          induction news generalizing j n with
          | nil => simp at hu
          | cons y r ih =>
            rw [List.flatMap_cons] at hu
            by_cases hlt : j < sz
            · rw [List.getElem?_append_left (by rw [hlen]; exact hlt)] at hu
              exact ⟨y, by rw [Nat.div_eq_of_lt hlt]; rfl, by rw [Nat.mod_eq_of_lt hlt]; exact hu⟩
            · rw [List.getElem?_append_right (by rw [hlen]; omega), hlen] at hu
              obtain ⟨y', h1', h2'⟩ := ih (n := n - 1) (j := j - sz) (by omega) (by simp at hnl; omega) hu (List.getElem?_eq_some_iff.1 hu).1
              have e1 : j / sz = (j - sz) / sz + 1 := by
                rw [Nat.div_eq_sub_div hsz (by omega)]
              have e2 : j % sz = (j - sz) % sz := by
                rw [Nat.mod_eq_sub_mod (by omega)]
              exact ⟨y', by rw [e1]; simpa using h1', by rw [e2]; exact h2'⟩
        obtain ⟨y, hy1, hy2⟩ := hdiv
        have := e3 _ y hy1 _ u hy2
        rw [Nat.add_assoc, Nat.mul_comm, Nat.div_add_mod] at this
        exact this
    · intro u hu
      obtain ⟨y, _, hy⟩ := List.mem_flatMap.1 hu
      exact h1 y u hy
    · intro v' w' hown' hgrow hnil
      have hch : Chg (fun k => k < w0.heap.size ∧ ¬ v.ownBlock = some k) w0 w' := ⟨hgrow.os, hgrow.tape, hgrow.output, hgrow.size, fun k hk => hgrow.block k hk.1 (fun h => hk.2 h.symm)⟩
      refine h v' w' ?_ hch (hch.mono fun k hk => ⟨by omega, fun hv => ?_⟩)
      · unfold OwnL
        simpa [List.flatMap_append, hnl] using hown'
      · have := hown.lt k hv
        omega


theorem wp_append_own_at {P : Program} (w : World) {o : Oper} {a : Act} {K : Act → World → Prop} {Q : Exit → Act → World → Prop} (s x : Operand) (t : TypeId)
    (ho : o.op = .call { callee := .builtin .append, args := #[s, x], argTypes := #[t, t] })
    (base : Nat) (e : TypeId) (i : TypeInfo) (z : Value) (size bytes : Nat) (ht : P.underlying t = some (.slice e)) (hi : P.info? e = some i) (hz : i.zero = some z)
    (hsize : i.size = size) (hby : i.bytes = bytes) (hzs : z.cells.size = size) (hsz : 0 < size)
    (v : Value) (n : Nat) (xs : List Value) (hs : a.eval s = v) (hown : w.ownsRow base e size v n xs)
    (ad : Addr) (m c : Nat) (news : List Value) (hx : a.eval x = .slice (some ad) m c) (hl : news.length = m * size) (hnews : ∀ j u, news[j]? = some u → w.cell? (ad.add j) = some u) (h1 : ∀ u ∈ news, u.oneCell' = true)
    (h63 : n + m ≤ maxLen) (hbytes : (n + m) * bytes ≤ 140737488355328) (hbase : base ≤ w.heap.size)
    (h : ∀ v' w', w'.ownsRow base e size v' (n + m) (xs ++ news) → w.grownBy w' v.ownBlock → (v' = .slice none 0 0 ↔ v = .slice none 0 0 ∧ m = 0) → (v'.ownBlock = v.ownBlock ∨ v'.ownBlock = some w.heap.size) → K (a.put o.dst v') w') : o.wp P a w K Q := by
  obtain ⟨v', w', hr, h2, h3, h4, h5⟩ := run_append_own_at (P := P) w base t o.type e i z size bytes ht hi hz hsize hby hzs hsz v n xs hown ad m c news hl hnews h1 h63 hbytes hbase
  unfold Oper.wp execOp
  simp only [ho, resolve, invoke, builtin, Sem.run_bind, Sem.run_pure, Result.andThen_ok, List.map_toArray, List.map_cons, List.map_nil, hs, hx, hr]
  exact h v' w' h2 h3 h4 h5
/-- append of a whole slice that reads as a list -/
theorem wp_append_rda {P : Program} {α : Type} {enc : α → List Value} {o : Oper} {a : Act} {K : Act → World → Prop} {Q : Exit → Act → World → Prop} (w0 : World) (s x : Operand) (t : TypeId)
    (ho : o.op = .call { callee := .builtin .append, args := #[s, x], argTypes := #[t, t] })
    (base : Nat) (e : TypeId) (z : Value) (sz bytes : Nat) (ht : P.underlying t = some (.slice e)) (hi : (P.info? e).map (fun i => (i.zero, i.size, i.bytes)) = some (some z, sz, bytes))
    (hzs : z.cells.size = sz) (hsz : 0 < sz) (hby : bytes ≤ 65536)
    (v : Value) (l : List α) (hown : OwnL sz enc e base w0 v l) (hs : a.eval s = v) (S : Nat → Prop) (A : Option Addr) (n c : Nat) (news : List α) (hrd : Rd sz enc S w0 A n news) (hA : A = none → c = 0) (hlen : ∀ y, (enc y).length = sz) (h1 : ∀ y, ∀ u ∈ enc y, u.oneCell' = true)
    (hx : a.eval x = .slice A n c) (hl : l.length ≤ 1000000) (hn : n ≤ 1000000) (hbase : base ≤ w0.heap.size)
    (h : ∀ v' w', OwnL sz enc e base w' v' (l ++ news) → Chg (fun k => k < w0.heap.size ∧ ¬ v.ownBlock = some k) w0 w' → Chg (· < base) w0 w' → (v'.ownBlock = v.ownBlock ∨ v'.ownBlock = some w0.heap.size) → K (a.put o.dst v') w') :
    o.wp P a w0 K Q := by
  obtain ⟨i, hi, hz0, hz1, hz2⟩ := info_parts hi
  have hmul : (l.length + n) * bytes ≤ 2000000 * 65536 := Nat.mul_le_mul (by omega) hby
  have hnl := hrd.1
  cases A with
  | none =>
    have hc := hA rfl
    have hn0 : n = 0 := by
      rcases hrd.2 with h0 | ⟨x, o, e1, _⟩
      · exact h0
      · cases e1
    subst hn0 hc
    have hnews : news = [] := List.eq_nil_of_length_eq_zero hnl
    subst hnews
    refine wp_append_none s x t ho base e i sz ht hi v l.length (l.flatMap enc) hs hown hx ?_
    exact h v w0 (by simpa using hown) (Chg.refl _ _) (Chg.refl _ _) (.inl rfl)
  | some ad =>
    refine wp_append_own_at _ s x t ho base e i z sz bytes ht hi hz0 hz1 hz2 hzs hsz v l.length (l.flatMap enc) hs hown ad n c (news.flatMap enc) hx ?_ ?_ ?_ (by unfold maxLen; omega) (by omega) hbase ?_
    · have : ∀ l : List α, (l.flatMap enc).length = l.length * sz := by
        intro l
        induction l with
        | nil => simp
        | cons y r ih => rw [List.flatMap_cons, List.length_append, hlen, ih, List.length_cons, Nat.succ_mul]; omega
      rw [this, hnl]
    · intro j u hu
      have hj := (List.getElem?_eq_some_iff.1 hu).1
      rcases hrd.2 with h0 | ⟨x, o, e1, _, e3⟩
      · subst h0
        have : news = [] := List.eq_nil_of_length_eq_zero hnl
        subst this
        simp at hj
      · cases e1
        rw [Addr.add_lit]
        have hdiv : ∃ y, news[j / sz]? = some y ∧ (enc y)[j % sz]? = some u := by
          clear e3 hmul hown h hx hrd
          induction news generalizing j n with
          | nil => simp at hu
          | cons y r ih =>
            rw [List.flatMap_cons] at hu
            by_cases hlt : j < sz
            · rw [List.getElem?_append_left (by rw [hlen]; exact hlt)] at hu
              exact ⟨y, by rw [Nat.div_eq_of_lt hlt]; rfl, by rw [Nat.mod_eq_of_lt hlt]; exact hu⟩
            · rw [List.getElem?_append_right (by rw [hlen]; omega), hlen] at hu
              obtain ⟨y', h1', h2'⟩ := ih (n := n - 1) (j := j - sz) (by omega) (by simp at hnl; omega) hu (List.getElem?_eq_some_iff.1 hu).1
              have e1 : j / sz = (j - sz) / sz + 1 := by
                rw [Nat.div_eq_sub_div hsz (by omega)]
              have e2 : j % sz = (j - sz) % sz := by
                rw [Nat.mod_eq_sub_mod (by omega)]
              exact ⟨y', by rw [e1]; simpa using h1', by rw [e2]; exact h2'⟩
        obtain ⟨y, hy1, hy2⟩ := hdiv
        have := e3 _ y hy1 _ u hy2
        rw [Nat.add_assoc, Nat.mul_comm, Nat.div_add_mod] at this
        exact this
    · intro u hu
      obtain ⟨y, _, hy⟩ := List.mem_flatMap.1 hu
      exact h1 y u hy
    · intro v' w' hown' hgrow hnil hat
      have hch : Chg (fun k => k < w0.heap.size ∧ ¬ v.ownBlock = some k) w0 w' := ⟨hgrow.os, hgrow.tape, hgrow.output, hgrow.size, fun k hk => hgrow.block k hk.1 (fun h => hk.2 h.symm)⟩
      refine h v' w' ?_ hch (hch.mono fun k hk => ⟨by omega, fun hv => ?_⟩) hat
      · unfold OwnL
        simpa [List.flatMap_append, hnl] using hown'
      · have := hown.lt k hv
        omega

end Go.Proofs.YtjaemckdfoaopaaDoor

/- Rosters of the tape. -/
namespace Go.Proofs.YtjaemckdfoaopaaDoor
open Go.RowKit

theorem word_t {b : Nat} (w : World) (h : TK w b) : Calls Tryd.prog 35 #[.pointer (some ⟨b, 0, none⟩)] w fun e w' => ∃ m : Nat, e = .returned (.int .u32 m) ∧ m < 65536 ∧ TK w' b ∧ Exb b w w' :=
  (word_x w h h.lt).mono fun e w' ⟨m, he, hm, k, t⟩ => ⟨m, he, hm, t, k⟩

/-- a roster that was just made -/
structure RosterOf (n b : Nat) (w w' : World) (v : Value) (L : List Nd) : Prop where
  own : OwnL 3 encN 68 w.heap.size w' v L
  len : L.length ≤ n
  ok : checkN L = 0
  word : ∀ x ∈ L, x.word < 65536
  tape : TK w' b
  k : Exb b w w'
def RosRel (n b : Nat) (w : World) (o i : Value) (wr : World) : Prop := ∃ (k : Nat) (L : List Nd), L.length + k ≤ n ∧ i = .int .i64 k ∧ RosterOf n b w wr o L

theorem append_cells (A : Array Value) (y : Nd) (hA : A = #[.int .i64 y.id, .string y.key, .int .u32 y.word]) : A = (encN y).toArray := hA

set_option maxRecDepth 100000 in
set_option maxHeartbeats 2000000 in
theorem roster_t {b : Nat} (n : Nat) (w : World) (h : TK w b) (hL : LetG w) (hgb : ¬ 0 = b) (hn0 : 1 ≤ n) (hn : n ≤ 60) :
    Calls Tryd.prog 19 #[.pointer (some ⟨b, 0, none⟩), .int .i64 n] w fun e w' => ∃ v L, e = .returned v ∧ RosterOf n b w w' v L := by
  have hbw := h.lt
  go_enter Tryd.func19, Tryd.ntmps19
  go_wp2_with fail
  refine (next_t ((n : Int) + 1) _ h (by omega) (by omega)).mono ?_
  clear h
  rintro e w1 ⟨k, rfl, k0, k1, T, kk⟩
  obtain ⟨k, rfl⟩ := Int.eq_ofNat_of_zero_le k0
  go_wp2_with fail
  go_loopw [5, 6] (fun o i wr => RosRel n b w o i wr) (fun _ i _ => (intOf i).toNat)
  case atStart => exact ⟨k, [], by simp; omega, rfl, OwnL.nil _ _ _ _ _, by simp, by decide, by simp, T, kk⟩
  case round =>
    clear T kk
    obtain ⟨q, L, hq, rfl, R⟩ := hrel
    obtain ⟨wo, rfl⟩ : ∃ wo : World, wo = wr := ⟨_, rfl⟩
    have T := R.tape
    by_cases hq0 : 0 < q
    · have L1 := hL.nxb hgb R.k
      clear hL
      have R := Lib.hid R
      go_wp2_with fail
      refine (next_t (3 * (n : Int)) _ T (by omega) (by omega)).mono ?_
      clear T
      rintro e w2 ⟨d, rfl, d0, d1, T, k2⟩
      have L2 := L1.nxb hgb k2
      clear L1
      go_wp2_with fail
      refine (key_t _ T L2 hgb).mono ?_
      clear T
      rintro e w3 ⟨s, rfl, hs, T, k3⟩
      replace k2 := k2.nxb k3
      clear L2 k3
      go_wp2_with fail
      refine (word_t _ T).mono ?_
      clear T
      rintro e w4 ⟨m, rfl, hm, T, k4⟩
      replace k2 := k2.nxb k4
      clear k4
      have B4 := Blk.new w4 [.int .i64 (1 + d), .string s, .int .u32 m] 68
      have e4 := Ex.new w4 (.cells #[.int .i64 (1 + d), .string s, .int .u32 m] 68)
      obtain ⟨w5, hw5⟩ : ∃ w5, w5 = w4.alloc (.cells #[.int .i64 (1 + d), .string s, .int .u32 m] 68) := ⟨_, rfl⟩
      obtain ⟨g, hg⟩ : ∃ g, g = w4.heap.size := ⟨_, rfl⟩
      have B4 : Blk w5 g [.int .i64 (1 + d), .string s, .int .u32 m] 68 := by rw [hw5, hg]; exact B4
      rw [← hw5] at e4
      replace T := T.nx e4
      replace k2 := k2.nxb (e4.b b)
      have HW := Lib.hid hw5
      have HG := Lib.hid hg
      clear hw5 hg e4
      go_wp2_with fail
      rw [← HG.out, ← HW.out]
      have own5 := R.out.own.nxb hbw k2
      obtain ⟨A5, C5, rfl, s5, o5, m5, nil5⟩ := own5.slf (fun _ => rfl)
      have lenL : L.length ≤ 60 := by omega
      have NIL := Lib.hid nil5
      have O5 := Lib.hid own5
      have S5 : Sl 3 encN w5 A5 L.length L := s5.sl
      clear s5 nil5 own5
      obtain ⟨X, hX⟩ : ∃ X : Nd, X = ⟨1 + d, s, m⟩ := ⟨_, rfl⟩
      have SXF : ∀ cur, Ex w5 cur → Sl 3 encN (cur.alloc (.cells #[.int .i64 (1 + d), .string s, .int .u32 m] 68)) (some ⟨cur.heap.size, 0, none⟩) 1 [X] := fun cur _ => by rw [hX]; exact Sl.lit _ rfl rfl (fun _ => rfl) rfl
      have OWN0 : ∀ cur, Ex w5 cur → OwnL 3 encN 68 w5.heap.size cur (.slice none 0 0) [] := fun _ _ => OwnL.nil _ _ _ _ _
      have HX := Lib.hid hX
      have S5F := fun cur (h : Ex w5 cur) => S5.nx h
      have hX3 : m < 65536 := hm
      clear hX S5 hm d0 d1 hs
      refine wp_region_held_drew (S := Ex w5) (by kernel_rfl) ((Ex.refl w5).drew) (fun hHeld => ?_)
      refine wpAnyH_take (i := 0) (oi := { dst := some 26, op := Op.move (Operand.tmp 5), type := 43, pos := "tape.go:132", after := #[], guard := none }) (v := ?_) rfl (by kernel_rfl) (by kernel_rfl) (by kernel_rfl) (fun _ _ _ h => h) (Or.inl ⟨by rfl, ?hyr1x0q1⟩) (by assumption) ?restr1x0q1
      case hyr1x0q1 => intro wq hSw; (go_simp); (try with_reducible rfl)
      try simp only [Act.put, List.setIfInBounds_toArray, List.set_cons_zero, List.set_cons_succ]
      refine wpAnyH_take (i := 2) (oi := { dst := some 28, op := Op.load 68 (Operand.tmp 7), type := 68, pos := "tape.go:132", after := #[], guard := none }) (v := ?_) rfl (by kernel_rfl) (by kernel_rfl) (by kernel_rfl) (fun _ _ _ h => h) (Or.inl ⟨by rfl, ?hyr1x2q4⟩) (by assumption) ?restr1x2q4
      case hyr1x2q4 => intro wq hSw; (have cq := (B4.nx hSw).cell 0 _ rfl; have cq1 := (B4.nx hSw).cell 1 _ rfl; have cq2 := (B4.nx hSw).cell 2 _ rfl; go_simp); (try with_reducible rfl)
      try simp only [Act.put, List.setIfInBounds_toArray, List.set_cons_zero, List.set_cons_succ]
      refine wpAnyH_ready (rs := [1, 3]) (by kernel_rfl) (by simp) ?_
      refine AllReadyH.cons (o := { dst := some 27, op := Op.call { callee := Callee.builtin Builtin.append, args := #[Operand.const (Value.slice none 0 0), Operand.tmp 26], argTypes := #[43, 43] }, type := 43, pos := "tape.go:132", after := #[{ on := 0, ground := Ground.data }], guard := none }) rfl (fun K hK => ?_) ?_
      · rw [if_pos (by rfl)]
        have own0 := OWN0 _ hHeld
        have s0 := S5F _ hHeld
        have z0 := Ex.size hHeld
        refine wp_append_rd (enc := encN) _ (.const (.slice none 0 0)) (.tmp 26) 43 rfl w5.heap.size 68 (.agg #[.int .i64 0, .string ByteArray.empty, .int .u32 0]) 3 32 Tryd.underlying43 Tryd.infoN rfl (by omega) (by omega) _ [] own0 rfl _ A5 L.length C5 L s0 NIL.out (fun _ => rfl) (by simp [encN, Value.oneCell']) rfl (by simp) (by omega) z0 ?_
        intro v6 w6 own6 ch0 ch1
        have j6 : Ex w5 w6 := Chg.trans hHeld ch1
        (try replace SX := SX.nx (Chg.mono ch0 (fun k hk => ⟨hk, by simp [Value.ownBlock]⟩)))
        clear own0 s0 z0 ch0 ch1
        refine hK.out _ _ (j6) (fun hHeld => ?_)
        clear hK K
        try simp only [Act.put, List.setIfInBounds_toArray, List.set_cons_zero, List.set_cons_succ]
        refine wpAnyH_ready (rs := [3]) (by kernel_rfl) (by simp) ?_
        refine AllReadyH.cons (o := { dst := some 29, op := Op.buildSlice 43 1 #[(0, Operand.tmp 28)], type := 43, pos := "tape.go:132", after := #[{ on := 2, ground := Ground.data }], guard := none }) rfl (fun K hK => ?_) AllReadyH.nil
        go_simp
        have SX := SXF _ hHeld
        have j6 := hHeld.alloc (.cells #[.int .i64 (1 + d), .string s, .int .u32 m] 68)
        (try replace own6 := own6.alloc (.cells #[.int .i64 (1 + d), .string s, .int .u32 m] 68))
        refine hK.out _ _ (j6) (fun hHeld => ?_)
        clear hK K
        try simp only [Act.put, List.setIfInBounds_toArray, List.set_cons_zero, List.set_cons_succ]
        refine wpAnyH_ready (rs := [4]) (by kernel_rfl) (by simp) ?_
        refine AllReadyH.cons (o := { dst := some 30, op := Op.call { callee := Callee.builtin Builtin.append, args := #[Operand.tmp 27, Operand.tmp 29], argTypes := #[43, 43] }, type := 43, pos := "tape.go:132", after := #[{ on := 1, ground := Ground.data }, { on := 3, ground := Ground.data }, { on := 1, ground := Ground.chain }], guard := none }) rfl (fun K hK => ?_) AllReadyH.nil
        rw [if_pos (by rfl)]
        have z0 := Ex.size hHeld
        refine wp_append_rd (enc := encN) _ (.tmp 27) (.tmp 29) 43 rfl w5.heap.size 68 (.agg #[.int .i64 0, .string ByteArray.empty, .int .u32 0]) 3 32 Tryd.underlying43 Tryd.infoN rfl (by omega) (by omega) _ ([] ++ L) own6 rfl _ _ 1 1 [X] SX (fun h => by cases h) (fun _ => rfl) (by simp [encN, Value.oneCell']) rfl (by rw [List.nil_append]; omega) (by omega) z0 ?_
        intro v7 w7 own7 ch0 ch1
        have j7 : Ex w5 w7 := Chg.trans hHeld ch1
        rw [List.nil_append] at own7
        obtain ⟨L7, h7⟩ : ∃ L7, L7 = L ++ [X] := ⟨_, rfl⟩
        rw [← h7] at own7
        have l7 : L7.length ≤ 61 := by rw [h7, List.length_append, List.length_singleton]; omega
        have H7 := Lib.hid h7
        clear h7
        obtain ⟨A7, C7, rfl, s7, _, _, _⟩ := own7.slf (fun _ => rfl)
        have s7 := s7.sl
        clear own7 own6 SX z0 ch0 ch1
        refine hK.out _ _ (j7) (fun hHeld => ?_)
        clear hK K
        try simp only [Act.put, List.setIfInBounds_toArray, List.set_cons_zero, List.set_cons_succ]
        refine wpAnyH_ready (rs := [5]) (by kernel_rfl) (by simp) ?_
        refine AllReadyH.cons (o := { dst := some 31, op := Op.call { callee := Callee.value (Operand.func 36), args := #[Operand.tmp 30], argTypes := #[43] }, type := 4, pos := "tape.go:132", after := #[{ on := 4, ground := Ground.data }, { on := 4, ground := Ground.chain }], guard := none }) rfl (fun K hK => ?_) AllReadyH.nil
        go_simp
        (with_reducible refine (is_r _ _ _ _ _ s7 (by omega)).mono ?_)
        rintro e w8 ⟨rfl, kk⟩
        have j8 := hHeld.nx kk
        clear kk s7
        refine hK.out _ _ (j8) (fun hHeld => ?_)
        clear hK K
        try simp only [Act.put, List.setIfInBounds_toArray, List.set_cons_zero, List.set_cons_succ]
        refine wpAnyH_done (by kernel_rfl) ?_ _
        replace T := T.nx hHeld
        have own8 := O5.out.nx hHeld
        have B8 := B4.nx hHeld
        have k8 := k2.nxb (hHeld.b b)
        have c0 := B8.cell 0 _ rfl
        have c1 := B8.cell 1 _ rfl
        have c2 := B8.cell 2 _ rfl
        have k9 := R.out.k.nxb k8
        have z8 := k9.size
        clear hHeld B8 B4 SXF OWN0 S5F j6 j7 j8 s7 k8 l7
        cases hc : (checkN L7 == 0) with
        | true =>
          have HCK : Hid (checkN (L ++ [X]) = 0) := Lib.hid (by rw [← H7.out]; simpa using hc)
          clear hc
          go_wp2_with (at_builtin; (refine wpList_append_lit (enc := encN) w8 rfl _ _ 43 rfl w.heap.size 68 (.agg #[.int .i64 0, .string ByteArray.empty, .int .u32 0]) 3 32 Tryd.underlying43 Tryd.infoN rfl (by omega) (by omega) _ _ own8 rfl X _ (by rw [HX.out]; rfl) rfl (by simp [encN, Value.oneCell']) _ (by simp) rfl (by omega) (by omega) _ ?_); intro v9 w9 own9 _ ch1 _)
          refine ⟨⟨q - 1, L ++ [X], by simp; omega, by rw [show ((q - 1 : Nat) : Int) = (q : Int) - 1 by omega], own9, by simp; omega, HCK.out, ?_, TP.chg T ch1 (fun x hx => by omega), Chg.trans k9 (ch1.mono (fun x hx => hx.1))⟩, by simp [intOf]; omega⟩
          intro x hx
          rcases List.mem_append.1 hx with hx | hx
          · exact R.out.word x hx
          · rw [List.mem_singleton.1 hx, HX.out]; exact hX3
        | false =>
          clear hc
          go_wp2_with fail
          exact ⟨⟨q - 1, L, by omega, by rw [show ((q - 1 : Nat) : Int) = (q : Int) - 1 by omega], own8, by omega, R.out.ok, R.out.word, T, k9⟩, by simp [intOf]; omega⟩
      refine AllReadyH.cons (o := { dst := some 29, op := Op.buildSlice 43 1 #[(0, Operand.tmp 28)], type := 43, pos := "tape.go:132", after := #[{ on := 2, ground := Ground.data }], guard := none }) rfl (fun K hK => ?_) AllReadyH.nil
      · go_simp
        have SX := SXF _ hHeld
        have j6 := hHeld.alloc (.cells #[.int .i64 (1 + d), .string s, .int .u32 m] 68)
        (try replace own6 := own6.alloc (.cells #[.int .i64 (1 + d), .string s, .int .u32 m] 68))
        refine hK.out _ _ (j6) (fun hHeld => ?_)
        clear hK K
        try simp only [Act.put, List.setIfInBounds_toArray, List.set_cons_zero, List.set_cons_succ]
        refine wpAnyH_ready (rs := [1]) (by kernel_rfl) (by simp) ?_
        refine AllReadyH.cons (o := { dst := some 27, op := Op.call { callee := Callee.builtin Builtin.append, args := #[Operand.const (Value.slice none 0 0), Operand.tmp 26], argTypes := #[43, 43] }, type := 43, pos := "tape.go:132", after := #[{ on := 0, ground := Ground.data }], guard := none }) rfl (fun K hK => ?_) AllReadyH.nil
        rw [if_pos (by rfl)]
        have own0 := OWN0 _ hHeld
        have s0 := S5F _ hHeld
        have z0 := Ex.size hHeld
        refine wp_append_rd (enc := encN) _ (.const (.slice none 0 0)) (.tmp 26) 43 rfl w5.heap.size 68 (.agg #[.int .i64 0, .string ByteArray.empty, .int .u32 0]) 3 32 Tryd.underlying43 Tryd.infoN rfl (by omega) (by omega) _ [] own0 rfl _ A5 L.length C5 L s0 NIL.out (fun _ => rfl) (by simp [encN, Value.oneCell']) rfl (by simp) (by omega) z0 ?_
        intro v6 w6 own6 ch0 ch1
        have j6 : Ex w5 w6 := Chg.trans hHeld ch1
        (try replace SX := SX.nx (Chg.mono ch0 (fun k hk => ⟨hk, by simp [Value.ownBlock]⟩)))
        clear own0 s0 z0 ch0 ch1
        refine hK.out _ _ (j6) (fun hHeld => ?_)
        clear hK K
        try simp only [Act.put, List.setIfInBounds_toArray, List.set_cons_zero, List.set_cons_succ]
        refine wpAnyH_ready (rs := [4]) (by kernel_rfl) (by simp) ?_
        refine AllReadyH.cons (o := { dst := some 30, op := Op.call { callee := Callee.builtin Builtin.append, args := #[Operand.tmp 27, Operand.tmp 29], argTypes := #[43, 43] }, type := 43, pos := "tape.go:132", after := #[{ on := 1, ground := Ground.data }, { on := 3, ground := Ground.data }, { on := 1, ground := Ground.chain }], guard := none }) rfl (fun K hK => ?_) AllReadyH.nil
        rw [if_pos (by rfl)]
        have z0 := Ex.size hHeld
        refine wp_append_rd (enc := encN) _ (.tmp 27) (.tmp 29) 43 rfl w5.heap.size 68 (.agg #[.int .i64 0, .string ByteArray.empty, .int .u32 0]) 3 32 Tryd.underlying43 Tryd.infoN rfl (by omega) (by omega) _ ([] ++ L) own6 rfl _ _ 1 1 [X] SX (fun h => by cases h) (fun _ => rfl) (by simp [encN, Value.oneCell']) rfl (by rw [List.nil_append]; omega) (by omega) z0 ?_
        intro v7 w7 own7 ch0 ch1
        have j7 : Ex w5 w7 := Chg.trans hHeld ch1
        rw [List.nil_append] at own7
        obtain ⟨L7, h7⟩ : ∃ L7, L7 = L ++ [X] := ⟨_, rfl⟩
        rw [← h7] at own7
        have l7 : L7.length ≤ 61 := by rw [h7, List.length_append, List.length_singleton]; omega
        have H7 := Lib.hid h7
        clear h7
        obtain ⟨A7, C7, rfl, s7, _, _, _⟩ := own7.slf (fun _ => rfl)
        have s7 := s7.sl
        clear own7 own6 SX z0 ch0 ch1
        refine hK.out _ _ (j7) (fun hHeld => ?_)
        clear hK K
        try simp only [Act.put, List.setIfInBounds_toArray, List.set_cons_zero, List.set_cons_succ]
        refine wpAnyH_ready (rs := [5]) (by kernel_rfl) (by simp) ?_
        refine AllReadyH.cons (o := { dst := some 31, op := Op.call { callee := Callee.value (Operand.func 36), args := #[Operand.tmp 30], argTypes := #[43] }, type := 4, pos := "tape.go:132", after := #[{ on := 4, ground := Ground.data }, { on := 4, ground := Ground.chain }], guard := none }) rfl (fun K hK => ?_) AllReadyH.nil
        go_simp
        (with_reducible refine (is_r _ _ _ _ _ s7 (by omega)).mono ?_)
        rintro e w8 ⟨rfl, kk⟩
        have j8 := hHeld.nx kk
        clear kk s7
        refine hK.out _ _ (j8) (fun hHeld => ?_)
        clear hK K
        try simp only [Act.put, List.setIfInBounds_toArray, List.set_cons_zero, List.set_cons_succ]
        refine wpAnyH_done (by kernel_rfl) ?_ _
        replace T := T.nx hHeld
        have own8 := O5.out.nx hHeld
        have B8 := B4.nx hHeld
        have k8 := k2.nxb (hHeld.b b)
        have c0 := B8.cell 0 _ rfl
        have c1 := B8.cell 1 _ rfl
        have c2 := B8.cell 2 _ rfl
        have k9 := R.out.k.nxb k8
        have z8 := k9.size
        clear hHeld B8 B4 SXF OWN0 S5F j6 j7 j8 s7 k8 l7
        cases hc : (checkN L7 == 0) with
        | true =>
          have HCK : Hid (checkN (L ++ [X]) = 0) := Lib.hid (by rw [← H7.out]; simpa using hc)
          clear hc
          go_wp2_with (at_builtin; (refine wpList_append_lit (enc := encN) w8 rfl _ _ 43 rfl w.heap.size 68 (.agg #[.int .i64 0, .string ByteArray.empty, .int .u32 0]) 3 32 Tryd.underlying43 Tryd.infoN rfl (by omega) (by omega) _ _ own8 rfl X _ (by rw [HX.out]; rfl) rfl (by simp [encN, Value.oneCell']) _ (by simp) rfl (by omega) (by omega) _ ?_); intro v9 w9 own9 _ ch1 _)
          refine ⟨⟨q - 1, L ++ [X], by simp; omega, by rw [show ((q - 1 : Nat) : Int) = (q : Int) - 1 by omega], own9, by simp; omega, HCK.out, ?_, TP.chg T ch1 (fun x hx => by omega), Chg.trans k9 (ch1.mono (fun x hx => hx.1))⟩, by simp [intOf]; omega⟩
          intro x hx
          rcases List.mem_append.1 hx with hx | hx
          · exact R.out.word x hx
          · rw [List.mem_singleton.1 hx, HX.out]; exact hX3
        | false =>
          clear hc
          go_wp2_with fail
          exact ⟨⟨q - 1, L, by omega, by rw [show ((q - 1 : Nat) : Int) = (q : Int) - 1 by omega], own8, by omega, R.out.ok, R.out.word, T, k9⟩, by simp [intOf]; omega⟩
    · clear hL T
      go_wp2_with fail
      go_ret
      exact ⟨_, L, rfl, R⟩
end Go.Proofs.YtjaemckdfoaopaaDoor

/- Bool of the tape, in the standard forms. -/
namespace Go.Proofs.YtjaemckdfoaopaaDoor
open Go.RowKit
set_option maxHeartbeats 400000 in
theorem bool_t {b : Nat} (n : Int) (w : World) (h : TK w b) (h1 : 1 ≤ n) (h2 : n ≤ 1000000) :
    Calls Tryd.prog 22 #[.pointer (some ⟨b, 0, none⟩), .int .i64 n] w fun e w' => ∃ r : Bool, e = .returned (.bool r) ∧ TK w' b ∧ Exb b w w' := by
  go_enter Tryd.func22, Tryd.ntmps22
  go_wp2_with fail
  refine (next_t n _ h h1 (by omega)).mono ?_
  rintro e w1 ⟨r, rfl, r0, r1, t1, k1⟩
  go_wp2_with fail
  go_ret
  exact ⟨_, rfl, t1, k1⟩
end Go.Proofs.YtjaemckdfoaopaaDoor

/- copy inside one row of the call's own. -/
namespace Go.Proofs.YtjaemckdfoaopaaDoor
open Go.RowKit

theorem run_copy_rowN {P : Program} (w : World) (dT sT ty elem : TypeId) (sz g o dLen dCap n : Nat) (a : Addr) (sLen sCap : Nat) (cur : Array Value) (t : TypeId) (cs : List Value)
    (hu : P.underlying dT = some (.slice elem)) (hs : (P.info? elem).map (·.size) = some sz)
    (hg : w.heap[g]? = some (.cells cur t (0, 0))) (hn : n = Nat.min sLen dLen) (hcs : cs.length = n * sz)
    (hsrc : ∀ j v, cs[j]? = some v → w.cell? (a.add j) = some v) (hfit : o + cs.length ≤ cur.size) (h1 : ∀ v ∈ cs, v.oneCell' = true) :
    (Builtin.copy_ #[dT, sT] ty #[.slice (some ⟨g, o, none⟩) dLen dCap, .slice (some a) sLen sCap]).run P w =
      .ok (goInt n) (w.setRow g (cur.toList.take o ++ cs ++ cur.toList.drop (o + cs.length)).toArray) := by
  have hl := run_loadCells_list (P := P) w a cs hsrc
  have hst := run_storeCells_at P g o t cs 0 cur w hg (by simpa using hfit) h1
  cases hq : P.info? elem with
  | none => simp [hq] at hs
  | some i =>
    have hi : i.size = sz := by simpa [hq] using hs
    rw [hcs] at hl
    simp [Builtin.copy_, run_underlying hu, Builtin.lenOf, Builtin.firstCells, sizeOf, typeInfo, hq, hi, ← hn, hl, hst]
theorem run_copy_none0 {P : Program} (w : World) (dT sT ty elem : TypeId) (sz : Nat) (d a : Option Addr) (dLen dCap sLen sCap : Nat) (hu : P.underlying dT = some (.slice elem)) (hs : (P.info? elem).map (·.size) = some sz)
    (hn : Nat.min sLen dLen = 0) : (Builtin.copy_ #[dT, sT] ty #[.slice d dLen dCap, .slice a sLen sCap]).run P w = .ok (goInt 0) w := by
  cases hq : P.info? elem with
  | none => simp [hq] at hs
  | some i =>
    cases d <;> cases a <;> simp [Builtin.copy_, run_underlying hu, Builtin.lenOf, Builtin.firstCells, sizeOf, typeInfo, hq, hn, storeCells, loadCells, loadCellsFrom]

section
variable {α : Type} {sz : Nat} {enc : α → List Value}
theorem flatN_len (hsz : ∀ y, (enc y).length = sz) (l : List α) : (l.flatMap enc).length = l.length * sz := by
  induction l with
  | nil => simp
  | cons y r ih => rw [List.flatMap_cons, List.length_append, hsz, ih, List.length_cons, Nat.succ_mul]; omega
theorem flatN_take (hsz : ∀ y, (enc y).length = sz) : ∀ (l : List α) (m : Nat), (l.take m).flatMap enc = (l.flatMap enc).take (m * sz)
  | [], m => by simp
  | y :: r, 0 => by simp
  | y :: r, m + 1 => by
    rw [List.take_succ_cons, List.flatMap_cons, List.flatMap_cons, flatN_take hsz r m, Nat.succ_mul, Nat.add_comm (m * sz), List.take_append, hsz,
      List.take_of_length_le (l := enc y) (by rw [hsz]; omega), Nat.add_sub_cancel_left]
theorem flatN_drop (hsz : ∀ y, (enc y).length = sz) : ∀ (l : List α) (m : Nat), (l.drop m).flatMap enc = (l.flatMap enc).drop (m * sz)
  | [], m => by simp
  | y :: r, 0 => by simp
  | y :: r, m + 1 => by
    rw [List.drop_succ_cons, List.flatMap_cons, flatN_drop hsz r m, Nat.succ_mul, Nat.add_comm (m * sz), List.drop_append, hsz,
      List.drop_of_length_le (l := enc y) (by rw [hsz]; omega), Nat.add_sub_cancel_left, List.nil_append]

/-- 'copy(out[at+1:], out[at:])', out a row of the call's own of n + 1 elements -/
theorem wp_copy_shift {P : Program} {o : Oper} {a : Act} {K : Act → World → Prop} {Q : Exit → Act → World → Prop} (w : World) (d s : Operand) (t : TypeId)
    (ho : o.op = .call { callee := .builtin .copy, args := #[d, s], argTypes := #[t, t] }) (base : Nat) (e : TypeId) (hu : P.underlying t = some (.slice e)) (hi : (P.info? e).map (·.size) = some sz)
    (hsz : ∀ y, (enc y).length = sz) (h1 : ∀ y, ∀ u ∈ enc y, u.oneCell' = true)
    (g n cap m : Nat) (L : List α) (hown : OwnL sz enc e base w (.slice (some ⟨g, 0, none⟩) (n + 1) cap) L) (hm : m ≤ n) (dp sp : Option Addr) (cd cs : Nat)
    (hd : a.eval d = .slice dp (n - m) cd) (hs : a.eval s = .slice sp (n + 1 - m) cs) (hp : m < n → dp = some ⟨g, (m + 1) * sz, none⟩ ∧ sp = some ⟨g, m * sz, none⟩)
    (h : ∀ w', OwnL sz enc e base w' (.slice (some ⟨g, 0, none⟩) (n + 1) cap) (L.take (m + 1) ++ (L.drop m).take (n - m)) → Chg (· ≠ g) w w' → w'.heap.size = w.heap.size → K (a.put o.dst (goInt (n - m : Nat))) w') : o.wp P a w K Q := by
  have hL : L.length = n + 1 := by
    rcases hown.2 with ⟨h1, _⟩ | ⟨g', cap', cur, e1, _⟩
    · cases h1
    · have e2 : g = g' ∧ n + 1 = L.length ∧ cap = cap' := by simpa using e1
      exact e2.2.1.symm
  rcases Nat.lt_or_ge m n with hlt | hge
  · obtain ⟨rfl, rfl⟩ := hp hlt
    rcases hown.2 with ⟨h1', _⟩ | ⟨g', cap', cur, e1, e2, e3, e4, e5, e6, e7⟩
    · cases h1'
    · obtain ⟨rfl, hLn, rfl⟩ : g = g' ∧ n + 1 = L.length ∧ cap = cap' := by simpa using e1
      rw [← hLn] at e4 e7
      have hfl : (((L.drop m).take (n - m)).flatMap enc).length = (n - m) * sz := by rw [flatN_len hsz, List.length_take, List.length_drop]; congr 1; omega
      have hmul : (m + 1) * sz + (n - m) * sz = (n + 1) * sz := by rw [← Nat.add_mul]; congr 1; omega
      have hle : (n + 1) * sz ≤ cap * sz := Nat.mul_le_mul_right _ (by omega)
      have hrun := run_copy_rowN (P := P) w t t o.type e sz g ((m + 1) * sz) (n - m) cd (n - m) ⟨g, m * sz, none⟩ (n + 1 - m) cs cur e (((L.drop m).take (n - m)).flatMap enc) hu hi e3
        (by show n - m = min _ _; omega) hfl
        (fun j v hj => by
          rw [Addr.add_lit, World.cell?, e3]
          show cur[m * sz + j]? = some v
          have hjl := (List.getElem?_eq_some_iff.1 hj).1
          rw [hfl] at hjl
          rw [flatN_take hsz, flatN_drop hsz, List.getElem?_take, if_pos hjl, List.getElem?_drop, ← e7, List.getElem?_take] at hj
          split at hj
          · simpa using hj
          · cases hj)
        (by rw [hfl, hmul, e6]; exact hle) (fun v hv => by obtain ⟨y, _, hy⟩ := List.mem_flatMap.1 hv; exact h1 y v hy)
      unfold Oper.wp execOp
      simp only [ho, resolve, invoke, builtin, Sem.run_bind, Sem.run_pure, Result.andThen_ok, List.map_toArray, List.map_cons, List.map_nil, hd, hs, hrun]
      refine h _ ⟨?_, .inr ⟨g, cap, _, ?_, e2, setRow_heap w g cur _ e _ e3, ?_, e5, ?_, ?_⟩⟩ ⟨rfl, rfl, rfl, by simp [World.setRow], fun k hk => setRow_other w g k _ hk⟩ (by simp [World.setRow])
      · rw [flatN_len hsz]
      · congr 1
        rw [List.length_append, List.length_take, List.length_take, List.length_drop]; omega
      · rw [List.length_append, List.length_take, List.length_take, List.length_drop]; omega
      · simp only [List.size_toArray, List.length_append, List.length_take, List.length_drop, Array.length_toList, hfl]; omega
      · rw [List.length_append, List.length_take, List.length_take, List.length_drop, List.flatMap_append, flatN_take hsz L, ← e7]
        rw [List.take_take, show (min (m + 1) L.length + min (n - m) (L.length - m)) = n + 1 by omega, show min ((m + 1) * sz) ((n + 1) * sz) = (m + 1) * sz from Nat.min_eq_left (Nat.mul_le_mul_right _ (by omega))]
        show (_ ++ _ ++ _ : List Value).take _ = _
        rw [List.append_assoc]
        have hA : (cur.toList.take ((m + 1) * sz)).length = (m + 1) * sz := by rw [List.length_take, Array.length_toList, e6]; exact Nat.min_eq_left (by omega)
        rw [List.take_append, hA, List.take_of_length_le (by omega), ← hmul, Nat.add_sub_cancel_left, List.take_append, hfl, Nat.sub_self, List.take_of_length_le (l := List.flatMap enc _) (by rw [hfl]; exact Nat.le_refl _), List.take_zero, List.append_nil]
  · obtain rfl : m = n := by omega
    have hrun := run_copy_none0 (P := P) w t t o.type e sz dp sp (m - m) cd (m + 1 - m) cs hu hi (by show min _ _ = 0; omega)
    unfold Oper.wp execOp
    simp only [ho, resolve, invoke, builtin, Sem.run_bind, Sem.run_pure, Result.andThen_ok, List.map_toArray, List.map_cons, List.map_nil, hd, hs, hrun]
    have := h w (by rw [Nat.sub_self, List.take_zero, List.append_nil, List.take_of_length_le (by omega)]; exact hown) (Chg.refl _ _) rfl
    rw [Nat.sub_self] at this
    exact this
end
end Go.Proofs.YtjaemckdfoaopaaDoor

/- Sort of the reference of rosters. -/
namespace Go.Proofs.YtjaemckdfoaopaaDoor
open Go.RowKit

/-- a node that comes behind another one -/
def gtN (a b : Nd) : Bool := !(Op.bytesLess a.key.toList b.key.toList || a.key.toList == b.key.toList) || (a.key.toList == b.key.toList && decide (b.id < a.id))
def atN (out : List Nd) (x : Nd) : Nat → Nat
  | 0 => 0
  | n + 1 => match out[n]? with
    | some y => if gtN y x then atN out x n else n + 1
    | none => n + 1
theorem atN_le (out : List Nd) (x : Nd) : ∀ n, atN out x n ≤ n
  | 0 => Nat.le_refl _
  | n + 1 => by
    unfold atN
    split
    · split
      · exact Nat.le_succ_of_le (atN_le out x n)
      · exact Nat.le_refl _
    · exact Nat.le_refl _
def insN (out : List Nd) (x : Nd) : List Nd := out.take (atN out x out.length) ++ x :: out.drop (atN out x out.length)
def sortN (l : List Nd) : List Nd := l.foldl insN []
theorem sortN_snoc (l : List Nd) (k : Nat) (y : Nd) (hy : l[k]? = some y) : sortN (l.take (k + 1)) = insN (sortN (l.take k)) y := by
  unfold sortN
  rw [take_snocN l k y hy, List.foldl_append]
  rfl
theorem insN_length (out : List Nd) (x : Nd) : (insN out x).length = out.length + 1 := by
  unfold insN
  have := atN_le out x out.length
  simp; omega
theorem sortN_length (l : List Nd) : (sortN l).length = l.length := by
  have : ∀ (l out : List Nd), (l.foldl insN out).length = out.length + l.length := by
    intro l
    induction l with
    | nil => intro out; rfl
    | cons x r ih => intro out; rw [List.foldl_cons, ih, insN_length, List.length_cons]; omega
  have := this l []
  simpa [sortN] using this

theorem flat_set3 (x : Nd) : ∀ (L : List Nd) (j : Nat), j < L.length → (L.set j x).flatMap encN = (((L.flatMap encN).set (j * 3) (.int .i64 x.id)).set (j * 3 + 1) (.string x.key)).set (j * 3 + 2) (.int .u32 x.word)
  | [], j, h => by simp at h
  | y :: r, 0, _ => rfl
  | y :: r, j + 1, h => by
    have ih := flat_set3 x r j (by simpa using h)
    rw [List.set_cons_succ, List.flatMap_cons, List.flatMap_cons, ih]
    have e : (j + 1) * 3 = j * 3 + 3 := by omega
    rw [e]
    show encN y ++ _ = ((([Value.int .i64 y.id, .string y.key, .int .u32 y.word] ++ r.flatMap encN).set (j * 3 + 3) _).set (j * 3 + 3 + 1) _).set (j * 3 + 3 + 2) _
    rw [List.set_append_right _ _ (by simp), List.set_append_right _ _ (by simp [Nat.add_assoc]), List.set_append_right _ _ (by simp [Nat.add_assoc])]
    simp only [List.length_cons, List.length_nil]
    rw [show j * 3 + 3 - (0 + 1 + 1 + 1) = j * 3 by omega, show j * 3 + 3 + 1 - (0 + 1 + 1 + 1) = j * 3 + 1 by omega, show j * 3 + 3 + 2 - (0 + 1 + 1 + 1) = j * 3 + 2 by omega]
    rfl
theorem own_set3 {e : TypeId} {base : Nat} {w : World} {g n cap j : Nat} {L : List Nd} (h : OwnL 3 encN e base w (.slice (some ⟨g, 0, none⟩) n cap) L) (hj : j < n) (y : Nd) :
    (∃ a b c, w.cell? ⟨g, j * 3, none⟩ = some a ∧ w.cell? ⟨g, j * 3 + 1, none⟩ = some b ∧ w.cell? ⟨g, j * 3 + 1 + 1, none⟩ = some c) ∧ (∀ o, w.frozen? ⟨g, o, none⟩ = false) ∧
    OwnL 3 encN e base (((w.setCell ⟨g, j * 3, none⟩ (.int .i64 y.id)).setCell ⟨g, j * 3 + 1, none⟩ (.string y.key)).setCell ⟨g, j * 3 + 2, none⟩ (.int .u32 y.word)) (.slice (some ⟨g, 0, none⟩) n cap) (L.set j y) := by
  rcases h.2 with ⟨h1, _⟩ | ⟨g', cap', cur, e1, e2, e3, e4, e5, e6, e7⟩
  · cases h1
  · obtain ⟨rfl, hLn, rfl⟩ : g = g' ∧ n = L.length ∧ cap = cap' := by simpa using e1
    have hsz : j * 3 + 2 < cur.size := by rw [e6]; omega
    have s1 := heap_set e3 (j * 3) (.int .i64 y.id)
    have s2 := heap_set s1 (j * 3 + 1) (.string y.key)
    have s3 := heap_set s2 (j * 3 + 2) (.int .u32 y.word)
    refine ⟨⟨cur[j * 3], cur[j * 3 + 1], cur[j * 3 + 1 + 1], by simp [World.cell?, e3], by simp [World.cell?, e3], by simp [World.cell?, e3]⟩, fun o => by simp [World.frozen?, e3], ?_, .inr ⟨g, cap, _, by simp [hLn], e2, s3, ?_, e5, by simp [e6], ?_⟩⟩
    · rw [flatN_len (sz := 3) (fun _ => rfl)]
    · rw [List.length_set, ← hLn]; omega
    · rw [flat_set3 y L j (by omega), ← e7, List.length_set]
      simp only [Array.toList_setIfInBounds, List.take_set]
theorem bytesLess_irrefl : ∀ x : List UInt8, Op.bytesLess x x = false
  | [] => rfl
  | a :: x => by unfold Op.bytesLess; rw [bytesLess_irrefl x]; simp
theorem shift_set (out : List Nd) (y : Nd) (j : Nat) (hj : j ≤ out.length) (L7 : List Nd) (hL : L7 = out ++ [(⟨0, ByteArray.empty, 0⟩ : Nd)]) :
    (L7.take (j + 1) ++ (L7.drop j).take (out.length - j)).set j y = L7.take j ++ y :: out.drop j := by
  have hl : L7.length = out.length + 1 := by rw [hL]; simp
  have h1 : (L7.drop j).take (out.length - j) = out.drop j := by
    rw [hL, List.drop_append_of_le_length hj, List.take_append_of_le_length (by simp), List.take_of_length_le (by simp)]
  have h2 : L7.take (j + 1) = L7.take j ++ [L7[j]'(by omega)] := by rw [List.take_succ_eq_append_getElem (by omega)]
  rw [h1, h2, List.append_assoc, List.set_append_right _ _ (by simp; omega)]
  congr 1
  have : j - (L7.take j).length = 0 := by simp; omega
  rw [this]
  rfl

def SoRel (l : List Nd) (n : Nat) (w : World) (o i : Value) (wr : World) : Prop :=
  ∃ k : Nat, k ≤ n ∧ i = .int .i64 k ∧ OwnL 3 encN 68 w.heap.size wr o (sortN (l.take k)) ∧ Ex w wr
def AtRel (out : List Nd) (x : Nd) (w : World) (j : Value) (wr : World) : Prop :=
  ∃ k : Nat, k ≤ out.length ∧ j = .int .i64 k ∧ atN out x out.length = atN out x k ∧ Ex w wr

set_option maxRecDepth 100000 in
set_option maxHeartbeats 4000000 in
theorem sort_r (a : Option Addr) (n cp : Nat) (l : List Nd) (w : World) (h : Sl 3 encN w a n l) (hn : n ≤ 1000) :
    Calls Tryd.prog 51 #[.slice a n cp] w (NodesPost (sortN l) w) := by
  have HL := Lib.hid h.len
  have hs := Lib.hid h
  clear h
  go_enter Tryd.func51, Tryd.ntmps51
  go_wp2_with fail
  go_loopw [3, 4] (fun o i wr => SoRel l n w o i wr) (fun _ i _ => n - (intOf i).toNat)
  case atStart => exact ⟨0, by omega, rfl, OwnL.nil _ _ _ _ _, Ex.refl _⟩
  case round =>
    obtain ⟨k, hk, rfl, own, kw⟩ := hrel
    obtain ⟨wo, rfl⟩ : ∃ wo : World, wo = wr := ⟨_, rfl⟩
    by_cases hlt : k < n
    · obtain ⟨x1, o1, y, rfl, hx1, hy, hc1⟩ := (hs.out.nx kw).at hlt
      have e0 : wo.cell? ⟨x1, o1 + k * 3, none⟩ = some (.int .i64 y.id) := hc1 0 _ rfl
      have e1 : wo.cell? ⟨x1, o1 + k * 3 + 1, none⟩ = some (.string y.key) := hc1 1 _ rfl
      have e2 : wo.cell? ⟨x1, o1 + k * 3 + 1 + 1, none⟩ = some (.int .u32 y.word) := by simpa [Nat.add_assoc] using hc1 2 _ rfl
      have FSn := Lib.hid (sortN_snoc l k y hy)
      have hFL : (sortN (l.take k)).length = k := by rw [sortN_length, List.length_take, HL.out]; omega
      generalize sortN (l.take k) = out at own FSn hFL
      obtain ⟨a3, cap3, rfl, r3, c3, m3, nil3⟩ := own.slf (fun _ => rfl)
      have hol : out.length ≤ 1000 := by omega
      have HY := Lib.hid hy
      have HFL := Lib.hid hFL
      have OWN := Lib.hid own
      have NIL := Lib.hid nil3
      have E0 := Lib.hid e0
      have E1 := Lib.hid e1
      have E2 := Lib.hid e2
      clear own hc1 hy e0 e1 e2 nil3 hFL
      go_wp2_with fail
      go_loopw [5] (fun j wr => AtRel out y wo j wr) (fun j _ => (intOf j).toNat)
      case atStart => exact ⟨out.length, Nat.le_refl _, rfl, rfl, Ex.refl _⟩
      case round =>
        obtain ⟨j, hj, rfl, hat, ki⟩ := hrel
        have HAT := Lib.hid hat
        obtain ⟨wi, rfl⟩ : ∃ wi : World, wi = wr := ⟨_, rfl⟩
        clear hat
        have hz0 := ki.size
        by_cases hj0 : 0 < j
        · obtain ⟨x2, o2, z, rfl, hx2, hzz, hc2⟩ := ((r3.sl).nx ki).at (j := j - 1) (by omega)
          have f0 : wi.cell? ⟨x2, o2 + (j - 1) * 3, none⟩ = some (.int .i64 z.id) := hc2 0 _ rfl
          have f1 : wi.cell? ⟨x2, o2 + (j - 1) * 3 + 1, none⟩ = some (.string z.key) := hc2 1 _ rfl
          have g0 := Chg.cellv ki E0.out hx1
          have g1 := Chg.cellv ki E1.out hx1
          have hj1 : (j : Int) - 1 = ((j - 1 : Nat) : Int) := by omega
          have ZZ := Lib.hid hzz
          have STOP : gtN z y = false → atN out y out.length = j := fun h => by
            rw [HAT.out]
            obtain ⟨m, rfl⟩ : ∃ m, j = m + 1 := ⟨j - 1, by omega⟩
            unfold atN
            rw [show m = m + 1 - 1 from rfl, ZZ.out]
            simp [h]
          have GOON : gtN z y = true → atN out y out.length = atN out y (j - 1) := fun h => by
            rw [HAT.out]
            obtain ⟨m, rfl⟩ : ∃ m, j = m + 1 := ⟨j - 1, by omega⟩
            conv => lhs; unfold atN
            rw [show out[m]? = some z from ZZ.out]
            simp [h]
          have GT : gtN z y = (!(Op.bytesLess z.key.toList y.key.toList || z.key.toList == y.key.toList) || (z.key.toList == y.key.toList && decide (y.id < z.id))) := rfl
          clear hc2 hzz
          cases hb : Op.bytesLess z.key.toList y.key.toList with
          | true =>
            have he : (z.key.toList == y.key.toList) = false := by
              cases he : (z.key.toList == y.key.toList) with
              | false => rfl
              | true => rw [eq_of_beq he, bytesLess_irrefl] at hb; cases hb
            have HAT' := Lib.hid (STOP (by rw [GT, hb, he]; rfl))
            clear STOP GOON GT
            go_wp2_with fail
            go_quiet (fail)
            clear f0 f1 g0 g1 hb he
            have hz : w.heap.size ≤ wi.heap.size := Nat.le_trans kw.size ki.size
            go_upto_region 9 with (at_builtin; (refine wpList_append_lit (enc := encN) _ rfl _ _ 43 rfl w.heap.size 68 (.agg #[.int .i64 0, .string ByteArray.empty, .int .u32 0]) 3 32 Tryd.underlying43 Tryd.infoN rfl (by omega) (by omega) _ _ (OWN.out.nx (ki.drewN _)) rfl (⟨0, ByteArray.empty, 0⟩ : Nd) _ rfl rfl (by simp [encN, Value.oneCell']) _ (by simp) rfl (by omega) (by exact hz) _ ?_); intro v7 w7 own7 _ ch1 _)
            have k7 : Ex w w7 := Chg.trans (kw.nx (ki.drewN _)) ch1
            obtain ⟨L7, hL7⟩ : ∃ L7, L7 = out ++ [(⟨0, ByteArray.empty, 0⟩ : Nd)] := ⟨_, rfl⟩
            rw [← hL7] at own7
            have hl7 : L7.length = out.length + 1 := by rw [hL7]; simp
            obtain ⟨A7, cap7, rfl, _, c7, m7, some7⟩ := own7.rd (fun _ => rfl)
            obtain ⟨g7, rfl, hg7⟩ := some7 (by intro h0; rw [h0] at hl7; simp at hl7)
            rw [hl7] at own7 c7 ⊢
            have STEP : Hid (insN out y = L7.take j ++ y :: out.drop j) := Lib.hid (by unfold insN; rw [HAT'.out, hL7, List.take_append_of_le_length hj])
            have SH : Hid ((L7.take (j + 1) ++ (L7.drop j).take (out.length - j)).set j y = L7.take j ++ y :: out.drop j) := Lib.hid (shift_set out y j hj L7 hL7)
            have hcj : (j : Int) + 1 ≤ (cap7 : Int) := by omega
            have hcj2 : j + 1 ≤ cap7 := by omega
            have hjo : (j : Int) ≤ (out.length : Int) := by omega
            have jw : IntKind.i64.wrap ((j : Int) + 1) = (j : Int) + 1 := IntWalk.i64_in _ (by omega)
            have j0' : (0 : Int) ≤ (j : Int) + 1 := by omega
            have jt : ((j : Int) + 1).toNat = j + 1 := by omega
            have jc : ¬ cap7 = j := by omega
            have hjo2 : (j : Int) ≤ (out.length : Int) + 1 := by omega
            clear hL7 hl7 some7 ch1 hz ki HAT'
            go_wp2_with fail
            refine wp_region_held_drew (S := fun _ => True) (by kernel_rfl) (trivial) (fun hHeld => ?_)
            refine wpAnyH_take (i := 0) (oi := { dst := some 64, op := Op.move (Operand.tmp 3), type := 43, pos := "ref.go:42", after := #[], guard := none }) (v := ?_) rfl (by kernel_rfl) (by kernel_rfl) (by kernel_rfl) (fun _ _ _ h => h) (Or.inl ⟨by rfl, ?hyr1x0q1⟩) (by assumption) ?restr1x0q1
            case hyr1x0q1 => intro wq hSw; (go_simp); (try with_reducible rfl)
            try simp only [Act.put, List.setIfInBounds_toArray, List.set_cons_zero, List.set_cons_succ]
            refine wpAnyH_take (i := 1) (oi := { dst := some 65, op := Op.move (Operand.tmp 5), type := 3, pos := "ref.go:42", after := #[], guard := none }) (v := ?_) rfl (by kernel_rfl) (by kernel_rfl) (by kernel_rfl) (fun _ _ _ h => h) (Or.inl ⟨by rfl, ?hyr1x1q4⟩) (by assumption) ?restr1x1q4
            case hyr1x1q4 => intro wq hSw; (go_simp); (try with_reducible rfl)
            try simp only [Act.put, List.setIfInBounds_toArray, List.set_cons_zero, List.set_cons_succ]
            refine wpAnyH_take (i := 2) (oi := { dst := some 66, op := Op.binOp BinOp.add 3 (Operand.tmp 65) (Operand.const (Value.int IntKind.i64 1)) 3, type := 3, pos := "ref.go:42", after := #[{ on := 1, ground := Ground.data }], guard := none }) (v := ?_) rfl (by kernel_rfl) (by kernel_rfl) (by kernel_rfl) (fun _ _ _ h => h) (Or.inl ⟨by rfl, ?hyr1x2q7⟩) (by assumption) ?restr1x2q7
            case hyr1x2q7 => intro wq hSw; (go_simp); (try with_reducible rfl)
            try simp only [Act.put, List.setIfInBounds_toArray, List.set_cons_zero, List.set_cons_succ]
            refine wpAnyH_take (i := 3) (oi := { dst := some 67, op := Op.slice 43 (Operand.tmp 64) (some (Operand.tmp 66)) none none, type := 43, pos := "ref.go:42", after := #[{ on := 0, ground := Ground.data }, { on := 2, ground := Ground.data }], guard := none }) (v := ?_) rfl (by kernel_rfl) (by kernel_rfl) (by kernel_rfl) (fun _ _ _ h => h) (Or.inl ⟨by rfl, ?hyr1x3q10⟩) (by assumption) ?restr1x3q10
            case hyr1x3q10 => intro wq hSw; (go_simp); (try with_reducible rfl)
            try simp only [Act.put, List.setIfInBounds_toArray, List.set_cons_zero, List.set_cons_succ]
            refine wpAnyH_take (i := 4) (oi := { dst := some 68, op := Op.move (Operand.tmp 3), type := 43, pos := "ref.go:42", after := #[], guard := none }) (v := ?_) rfl (by kernel_rfl) (by kernel_rfl) (by kernel_rfl) (fun _ _ _ h => h) (Or.inl ⟨by rfl, ?hyr1x4q13⟩) (by assumption) ?restr1x4q13
            case hyr1x4q13 => intro wq hSw; (go_simp); (try with_reducible rfl)
            try simp only [Act.put, List.setIfInBounds_toArray, List.set_cons_zero, List.set_cons_succ]
            refine wpAnyH_take (i := 5) (oi := { dst := some 69, op := Op.move (Operand.tmp 5), type := 3, pos := "ref.go:42", after := #[], guard := none }) (v := ?_) rfl (by kernel_rfl) (by kernel_rfl) (by kernel_rfl) (fun _ _ _ h => h) (Or.inl ⟨by rfl, ?hyr1x5q16⟩) (by assumption) ?restr1x5q16
            case hyr1x5q16 => intro wq hSw; (go_simp); (try with_reducible rfl)
            try simp only [Act.put, List.setIfInBounds_toArray, List.set_cons_zero, List.set_cons_succ]
            refine wpAnyH_take (i := 6) (oi := { dst := some 70, op := Op.slice 43 (Operand.tmp 68) (some (Operand.tmp 69)) none none, type := 43, pos := "ref.go:42", after := #[{ on := 4, ground := Ground.data }, { on := 5, ground := Ground.data }], guard := none }) (v := ?_) rfl (by kernel_rfl) (by kernel_rfl) (by kernel_rfl) (fun _ _ _ h => h) (Or.inl ⟨by rfl, ?hyr1x6q19⟩) (by assumption) ?restr1x6q19
            case hyr1x6q19 => intro wq hSw; (go_simp); (try with_reducible rfl)
            try simp only [Act.put, List.setIfInBounds_toArray, List.set_cons_zero, List.set_cons_succ]
            refine wpAnyH_ready (rs := [7]) (by kernel_rfl) (by simp) ?_
            refine AllReadyH.cons (o := { dst := some 71, op := Op.call { callee := Callee.builtin Builtin.copy, args := #[Operand.tmp 67, Operand.tmp 70], argTypes := #[43, 43] }, type := 3, pos := "ref.go:42", after := #[{ on := 3, ground := Ground.data }, { on := 6, ground := Ground.data }], guard := none }) rfl (fun K hK => ?_) AllReadyH.nil
            rw [if_pos (by rfl)]
            refine wp_copy_shift (enc := encN) (sz := 3) _ (.tmp 67) (.tmp 70) 43 rfl w.heap.size 68 Tryd.underlying43 (by kernel_rfl) (fun _ => rfl) (by simp [encN, Value.oneCell']) g7 out.length cap7 j L7 own7 hj _ _ _ _ rfl rfl (fun hlt => ⟨by rw [if_neg (by omega)], rfl⟩) ?_
            intro w8 own8 ch8 sz8
            refine hK.out _ _ (trivial) (fun hHeld => ?_)
            clear hK K
            try simp only [Act.put, List.setIfInBounds_toArray, List.set_cons_zero, List.set_cons_succ]
            refine wpAnyH_done (by kernel_rfl) ?_ _
            have k8 : Ex w w8 := Chg.trans k7.drew (ch8.mono (fun x (hx : x < w.heap.size) => by omega))
            obtain ⟨x5, o5, y5, he5, hx5, hy5, hc5⟩ := (hs.out.nx k8).at hlt
            cases he5
            obtain rfl : y = y5 := Option.some.inj (HY.out.symm.trans hy5)
            have b0 : w8.cell? ⟨x1, o1 + k * 3, none⟩ = some (.int .i64 y.id) := hc5 0 _ rfl
            have b1 : w8.cell? ⟨x1, o1 + k * 3 + 1, none⟩ = some (.string y.key) := hc5 1 _ rfl
            have b2 : w8.cell? ⟨x1, o1 + k * 3 + 1 + 1, none⟩ = some (.int .u32 y.word) := by simpa [Nat.add_assoc] using hc5 2 _ rfl
            obtain ⟨⟨va, vb, vc, d0, d1, d2⟩, fz, OS⟩ := own_set3 own8 (j := j) (by omega) y
            have fz0 := fz (j * 3)
            have fz1 := fz (j * 3 + 1)
            have fz2 := fz (j * 3 + 1 + 1)
            clear hc5 hy5 own8 ch8 fz
            go_wp2_with fail
            exact ⟨⟨k + 1, by omega, by go_num, by rw [FSn.out, STEP.out, ← SH.out]; exact OS, ((k8.setNew (p := ⟨g7, j * 3, none⟩) _ hg7).setNew (p := ⟨g7, j * 3 + 1, none⟩) _ hg7).setNew (p := ⟨g7, j * 3 + 2, none⟩) _ hg7⟩, by simp [intOf]; omega⟩
          | false =>
            cases he : (z.key.toList == y.key.toList) with
            | true =>
              by_cases hid : y.id < z.id
              · have hN := Lib.hid (GOON (by rw [GT]; simp [hb, he, hid]))
                clear STOP GOON GT
                go_wp2_with fail
                go_quiet (fail)
                go_wp2_with fail
                exact ⟨⟨j - 1, by omega, by first | rfl | rw [hj1], hN.out, ki.drewN _⟩, by simp [intOf]; omega⟩
              · have HAT' := Lib.hid (STOP (by rw [GT]; simp [hb, he, hid]))
                clear STOP GOON GT
                go_wp2_with fail
                go_quiet (fail)
                clear f0 f1 g0 g1
                have hz : w.heap.size ≤ wi.heap.size := Nat.le_trans kw.size ki.size
                go_upto_region 9 with (at_builtin; (refine wpList_append_lit (enc := encN) _ rfl _ _ 43 rfl w.heap.size 68 (.agg #[.int .i64 0, .string ByteArray.empty, .int .u32 0]) 3 32 Tryd.underlying43 Tryd.infoN rfl (by omega) (by omega) _ _ (OWN.out.nx (ki.drewN _)) rfl (⟨0, ByteArray.empty, 0⟩ : Nd) _ rfl rfl (by simp [encN, Value.oneCell']) _ (by simp) rfl (by omega) (by exact hz) _ ?_); intro v7 w7 own7 _ ch1 _)
                have k7 : Ex w w7 := Chg.trans (kw.nx (ki.drewN _)) ch1
                obtain ⟨L7, hL7⟩ : ∃ L7, L7 = out ++ [(⟨0, ByteArray.empty, 0⟩ : Nd)] := ⟨_, rfl⟩
                rw [← hL7] at own7
                have hl7 : L7.length = out.length + 1 := by rw [hL7]; simp
                obtain ⟨A7, cap7, rfl, _, c7, m7, some7⟩ := own7.rd (fun _ => rfl)
                obtain ⟨g7, rfl, hg7⟩ := some7 (by intro h0; rw [h0] at hl7; simp at hl7)
                rw [hl7] at own7 c7 ⊢
                have STEP : Hid (insN out y = L7.take j ++ y :: out.drop j) := Lib.hid (by unfold insN; rw [HAT'.out, hL7, List.take_append_of_le_length hj])
                have SH : Hid ((L7.take (j + 1) ++ (L7.drop j).take (out.length - j)).set j y = L7.take j ++ y :: out.drop j) := Lib.hid (shift_set out y j hj L7 hL7)
                have hcj : (j : Int) + 1 ≤ (cap7 : Int) := by omega
                have hcj2 : j + 1 ≤ cap7 := by omega
                have hjo : (j : Int) ≤ (out.length : Int) := by omega
                have jw : IntKind.i64.wrap ((j : Int) + 1) = (j : Int) + 1 := IntWalk.i64_in _ (by omega)
                have j0' : (0 : Int) ≤ (j : Int) + 1 := by omega
                have jt : ((j : Int) + 1).toNat = j + 1 := by omega
                have jc : ¬ cap7 = j := by omega
                have hjo2 : (j : Int) ≤ (out.length : Int) + 1 := by omega
                clear hL7 hl7 some7 ch1 hz ki HAT'
                go_wp2_with fail
                refine wp_region_held_drew (S := fun _ => True) (by kernel_rfl) (trivial) (fun hHeld => ?_)
                refine wpAnyH_take (i := 0) (oi := { dst := some 64, op := Op.move (Operand.tmp 3), type := 43, pos := "ref.go:42", after := #[], guard := none }) (v := ?_) rfl (by kernel_rfl) (by kernel_rfl) (by kernel_rfl) (fun _ _ _ h => h) (Or.inl ⟨by rfl, ?hyr2x0q1⟩) (by assumption) ?restr2x0q1
                case hyr2x0q1 => intro wq hSw; (go_simp); (try with_reducible rfl)
                try simp only [Act.put, List.setIfInBounds_toArray, List.set_cons_zero, List.set_cons_succ]
                refine wpAnyH_take (i := 1) (oi := { dst := some 65, op := Op.move (Operand.tmp 5), type := 3, pos := "ref.go:42", after := #[], guard := none }) (v := ?_) rfl (by kernel_rfl) (by kernel_rfl) (by kernel_rfl) (fun _ _ _ h => h) (Or.inl ⟨by rfl, ?hyr2x1q4⟩) (by assumption) ?restr2x1q4
                case hyr2x1q4 => intro wq hSw; (go_simp); (try with_reducible rfl)
                try simp only [Act.put, List.setIfInBounds_toArray, List.set_cons_zero, List.set_cons_succ]
                refine wpAnyH_take (i := 2) (oi := { dst := some 66, op := Op.binOp BinOp.add 3 (Operand.tmp 65) (Operand.const (Value.int IntKind.i64 1)) 3, type := 3, pos := "ref.go:42", after := #[{ on := 1, ground := Ground.data }], guard := none }) (v := ?_) rfl (by kernel_rfl) (by kernel_rfl) (by kernel_rfl) (fun _ _ _ h => h) (Or.inl ⟨by rfl, ?hyr2x2q7⟩) (by assumption) ?restr2x2q7
                case hyr2x2q7 => intro wq hSw; (go_simp); (try with_reducible rfl)
                try simp only [Act.put, List.setIfInBounds_toArray, List.set_cons_zero, List.set_cons_succ]
                refine wpAnyH_take (i := 3) (oi := { dst := some 67, op := Op.slice 43 (Operand.tmp 64) (some (Operand.tmp 66)) none none, type := 43, pos := "ref.go:42", after := #[{ on := 0, ground := Ground.data }, { on := 2, ground := Ground.data }], guard := none }) (v := ?_) rfl (by kernel_rfl) (by kernel_rfl) (by kernel_rfl) (fun _ _ _ h => h) (Or.inl ⟨by rfl, ?hyr2x3q10⟩) (by assumption) ?restr2x3q10
                case hyr2x3q10 => intro wq hSw; (go_simp); (try with_reducible rfl)
                try simp only [Act.put, List.setIfInBounds_toArray, List.set_cons_zero, List.set_cons_succ]
                refine wpAnyH_take (i := 4) (oi := { dst := some 68, op := Op.move (Operand.tmp 3), type := 43, pos := "ref.go:42", after := #[], guard := none }) (v := ?_) rfl (by kernel_rfl) (by kernel_rfl) (by kernel_rfl) (fun _ _ _ h => h) (Or.inl ⟨by rfl, ?hyr2x4q13⟩) (by assumption) ?restr2x4q13
                case hyr2x4q13 => intro wq hSw; (go_simp); (try with_reducible rfl)
                try simp only [Act.put, List.setIfInBounds_toArray, List.set_cons_zero, List.set_cons_succ]
                refine wpAnyH_take (i := 5) (oi := { dst := some 69, op := Op.move (Operand.tmp 5), type := 3, pos := "ref.go:42", after := #[], guard := none }) (v := ?_) rfl (by kernel_rfl) (by kernel_rfl) (by kernel_rfl) (fun _ _ _ h => h) (Or.inl ⟨by rfl, ?hyr2x5q16⟩) (by assumption) ?restr2x5q16
                case hyr2x5q16 => intro wq hSw; (go_simp); (try with_reducible rfl)
                try simp only [Act.put, List.setIfInBounds_toArray, List.set_cons_zero, List.set_cons_succ]
                refine wpAnyH_take (i := 6) (oi := { dst := some 70, op := Op.slice 43 (Operand.tmp 68) (some (Operand.tmp 69)) none none, type := 43, pos := "ref.go:42", after := #[{ on := 4, ground := Ground.data }, { on := 5, ground := Ground.data }], guard := none }) (v := ?_) rfl (by kernel_rfl) (by kernel_rfl) (by kernel_rfl) (fun _ _ _ h => h) (Or.inl ⟨by rfl, ?hyr2x6q19⟩) (by assumption) ?restr2x6q19
                case hyr2x6q19 => intro wq hSw; (go_simp); (try with_reducible rfl)
                try simp only [Act.put, List.setIfInBounds_toArray, List.set_cons_zero, List.set_cons_succ]
                refine wpAnyH_ready (rs := [7]) (by kernel_rfl) (by simp) ?_
                refine AllReadyH.cons (o := { dst := some 71, op := Op.call { callee := Callee.builtin Builtin.copy, args := #[Operand.tmp 67, Operand.tmp 70], argTypes := #[43, 43] }, type := 3, pos := "ref.go:42", after := #[{ on := 3, ground := Ground.data }, { on := 6, ground := Ground.data }], guard := none }) rfl (fun K hK => ?_) AllReadyH.nil
                rw [if_pos (by rfl)]
                refine wp_copy_shift (enc := encN) (sz := 3) _ (.tmp 67) (.tmp 70) 43 rfl w.heap.size 68 Tryd.underlying43 (by kernel_rfl) (fun _ => rfl) (by simp [encN, Value.oneCell']) g7 out.length cap7 j L7 own7 hj _ _ _ _ rfl rfl (fun hlt => ⟨by rw [if_neg (by omega)], rfl⟩) ?_
                intro w8 own8 ch8 sz8
                refine hK.out _ _ (trivial) (fun hHeld => ?_)
                clear hK K
                try simp only [Act.put, List.setIfInBounds_toArray, List.set_cons_zero, List.set_cons_succ]
                refine wpAnyH_done (by kernel_rfl) ?_ _
                have k8 : Ex w w8 := Chg.trans k7.drew (ch8.mono (fun x (hx : x < w.heap.size) => by omega))
                obtain ⟨x5, o5, y5, he5, hx5, hy5, hc5⟩ := (hs.out.nx k8).at hlt
                cases he5
                obtain rfl : y = y5 := Option.some.inj (HY.out.symm.trans hy5)
                have b0 : w8.cell? ⟨x1, o1 + k * 3, none⟩ = some (.int .i64 y.id) := hc5 0 _ rfl
                have b1 : w8.cell? ⟨x1, o1 + k * 3 + 1, none⟩ = some (.string y.key) := hc5 1 _ rfl
                have b2 : w8.cell? ⟨x1, o1 + k * 3 + 1 + 1, none⟩ = some (.int .u32 y.word) := by simpa [Nat.add_assoc] using hc5 2 _ rfl
                obtain ⟨⟨va, vb, vc, d0, d1, d2⟩, fz, OS⟩ := own_set3 own8 (j := j) (by omega) y
                have fz0 := fz (j * 3)
                have fz1 := fz (j * 3 + 1)
                have fz2 := fz (j * 3 + 1 + 1)
                clear hc5 hy5 own8 ch8 fz
                go_wp2_with fail
                exact ⟨⟨k + 1, by omega, by go_num, by rw [FSn.out, STEP.out, ← SH.out]; exact OS, ((k8.setNew (p := ⟨g7, j * 3, none⟩) _ hg7).setNew (p := ⟨g7, j * 3 + 1, none⟩) _ hg7).setNew (p := ⟨g7, j * 3 + 2, none⟩) _ hg7⟩, by simp [intOf]; omega⟩
            | false =>
              have hN := Lib.hid (GOON (by rw [GT]; simp [hb, he]))
              clear STOP GOON GT
              go_wp2_with fail
              go_quiet (fail)
              go_wp2_with fail
              exact ⟨⟨j - 1, by omega, by first | rfl | rw [hj1], hN.out, ki.drewN _⟩, by simp [intOf]; omega⟩
        · have HAT' : Hid (atN out y out.length = j) := Lib.hid (by rw [HAT.out, show j = 0 by omega]; simp [atN])
          go_wp2_with fail
          go_quiet (fail)
          have hz : w.heap.size ≤ wi.heap.size := Nat.le_trans kw.size ki.size
          go_upto_region 9 with (at_builtin; (refine wpList_append_lit (enc := encN) _ rfl _ _ 43 rfl w.heap.size 68 (.agg #[.int .i64 0, .string ByteArray.empty, .int .u32 0]) 3 32 Tryd.underlying43 Tryd.infoN rfl (by omega) (by omega) _ _ (OWN.out.nx (ki.drewN _)) rfl (⟨0, ByteArray.empty, 0⟩ : Nd) _ rfl rfl (by simp [encN, Value.oneCell']) _ (by simp) rfl (by omega) (by exact hz) _ ?_); intro v7 w7 own7 _ ch1 _)
          have k7 : Ex w w7 := Chg.trans (kw.nx (ki.drewN _)) ch1
          obtain ⟨L7, hL7⟩ : ∃ L7, L7 = out ++ [(⟨0, ByteArray.empty, 0⟩ : Nd)] := ⟨_, rfl⟩
          rw [← hL7] at own7
          have hl7 : L7.length = out.length + 1 := by rw [hL7]; simp
          obtain ⟨A7, cap7, rfl, _, c7, m7, some7⟩ := own7.rd (fun _ => rfl)
          obtain ⟨g7, rfl, hg7⟩ := some7 (by intro h0; rw [h0] at hl7; simp at hl7)
          rw [hl7] at own7 c7 ⊢
          have STEP : Hid (insN out y = L7.take j ++ y :: out.drop j) := Lib.hid (by unfold insN; rw [HAT'.out, hL7, List.take_append_of_le_length hj])
          have SH : Hid ((L7.take (j + 1) ++ (L7.drop j).take (out.length - j)).set j y = L7.take j ++ y :: out.drop j) := Lib.hid (shift_set out y j hj L7 hL7)
          have hcj : (j : Int) + 1 ≤ (cap7 : Int) := by omega
          have hcj2 : j + 1 ≤ cap7 := by omega
          have hjo : (j : Int) ≤ (out.length : Int) := by omega
          have jw : IntKind.i64.wrap ((j : Int) + 1) = (j : Int) + 1 := IntWalk.i64_in _ (by omega)
          have j0' : (0 : Int) ≤ (j : Int) + 1 := by omega
          have jt : ((j : Int) + 1).toNat = j + 1 := by omega
          have jc : ¬ cap7 = j := by omega
          have hjo2 : (j : Int) ≤ (out.length : Int) + 1 := by omega
          clear hL7 hl7 some7 ch1 hz ki HAT'
          go_wp2_with fail
          refine wp_region_held_drew (S := fun _ => True) (by kernel_rfl) (trivial) (fun hHeld => ?_)
          refine wpAnyH_take (i := 0) (oi := { dst := some 64, op := Op.move (Operand.tmp 3), type := 43, pos := "ref.go:42", after := #[], guard := none }) (v := ?_) rfl (by kernel_rfl) (by kernel_rfl) (by kernel_rfl) (fun _ _ _ h => h) (Or.inl ⟨by rfl, ?hyr3x0q1⟩) (by assumption) ?restr3x0q1
          case hyr3x0q1 => intro wq hSw; (go_simp); (try with_reducible rfl)
          try simp only [Act.put, List.setIfInBounds_toArray, List.set_cons_zero, List.set_cons_succ]
          refine wpAnyH_take (i := 1) (oi := { dst := some 65, op := Op.move (Operand.tmp 5), type := 3, pos := "ref.go:42", after := #[], guard := none }) (v := ?_) rfl (by kernel_rfl) (by kernel_rfl) (by kernel_rfl) (fun _ _ _ h => h) (Or.inl ⟨by rfl, ?hyr3x1q4⟩) (by assumption) ?restr3x1q4
          case hyr3x1q4 => intro wq hSw; (go_simp); (try with_reducible rfl)
          try simp only [Act.put, List.setIfInBounds_toArray, List.set_cons_zero, List.set_cons_succ]
          refine wpAnyH_take (i := 2) (oi := { dst := some 66, op := Op.binOp BinOp.add 3 (Operand.tmp 65) (Operand.const (Value.int IntKind.i64 1)) 3, type := 3, pos := "ref.go:42", after := #[{ on := 1, ground := Ground.data }], guard := none }) (v := ?_) rfl (by kernel_rfl) (by kernel_rfl) (by kernel_rfl) (fun _ _ _ h => h) (Or.inl ⟨by rfl, ?hyr3x2q7⟩) (by assumption) ?restr3x2q7
          case hyr3x2q7 => intro wq hSw; (go_simp); (try with_reducible rfl)
          try simp only [Act.put, List.setIfInBounds_toArray, List.set_cons_zero, List.set_cons_succ]
          refine wpAnyH_take (i := 3) (oi := { dst := some 67, op := Op.slice 43 (Operand.tmp 64) (some (Operand.tmp 66)) none none, type := 43, pos := "ref.go:42", after := #[{ on := 0, ground := Ground.data }, { on := 2, ground := Ground.data }], guard := none }) (v := ?_) rfl (by kernel_rfl) (by kernel_rfl) (by kernel_rfl) (fun _ _ _ h => h) (Or.inl ⟨by rfl, ?hyr3x3q10⟩) (by assumption) ?restr3x3q10
          case hyr3x3q10 => intro wq hSw; (go_simp); (try with_reducible rfl)
          try simp only [Act.put, List.setIfInBounds_toArray, List.set_cons_zero, List.set_cons_succ]
          refine wpAnyH_take (i := 4) (oi := { dst := some 68, op := Op.move (Operand.tmp 3), type := 43, pos := "ref.go:42", after := #[], guard := none }) (v := ?_) rfl (by kernel_rfl) (by kernel_rfl) (by kernel_rfl) (fun _ _ _ h => h) (Or.inl ⟨by rfl, ?hyr3x4q13⟩) (by assumption) ?restr3x4q13
          case hyr3x4q13 => intro wq hSw; (go_simp); (try with_reducible rfl)
          try simp only [Act.put, List.setIfInBounds_toArray, List.set_cons_zero, List.set_cons_succ]
          refine wpAnyH_take (i := 5) (oi := { dst := some 69, op := Op.move (Operand.tmp 5), type := 3, pos := "ref.go:42", after := #[], guard := none }) (v := ?_) rfl (by kernel_rfl) (by kernel_rfl) (by kernel_rfl) (fun _ _ _ h => h) (Or.inl ⟨by rfl, ?hyr3x5q16⟩) (by assumption) ?restr3x5q16
          case hyr3x5q16 => intro wq hSw; (go_simp); (try with_reducible rfl)
          try simp only [Act.put, List.setIfInBounds_toArray, List.set_cons_zero, List.set_cons_succ]
          refine wpAnyH_take (i := 6) (oi := { dst := some 70, op := Op.slice 43 (Operand.tmp 68) (some (Operand.tmp 69)) none none, type := 43, pos := "ref.go:42", after := #[{ on := 4, ground := Ground.data }, { on := 5, ground := Ground.data }], guard := none }) (v := ?_) rfl (by kernel_rfl) (by kernel_rfl) (by kernel_rfl) (fun _ _ _ h => h) (Or.inl ⟨by rfl, ?hyr3x6q19⟩) (by assumption) ?restr3x6q19
          case hyr3x6q19 => intro wq hSw; (go_simp); (try with_reducible rfl)
          try simp only [Act.put, List.setIfInBounds_toArray, List.set_cons_zero, List.set_cons_succ]
          refine wpAnyH_ready (rs := [7]) (by kernel_rfl) (by simp) ?_
          refine AllReadyH.cons (o := { dst := some 71, op := Op.call { callee := Callee.builtin Builtin.copy, args := #[Operand.tmp 67, Operand.tmp 70], argTypes := #[43, 43] }, type := 3, pos := "ref.go:42", after := #[{ on := 3, ground := Ground.data }, { on := 6, ground := Ground.data }], guard := none }) rfl (fun K hK => ?_) AllReadyH.nil
          rw [if_pos (by rfl)]
          refine wp_copy_shift (enc := encN) (sz := 3) _ (.tmp 67) (.tmp 70) 43 rfl w.heap.size 68 Tryd.underlying43 (by kernel_rfl) (fun _ => rfl) (by simp [encN, Value.oneCell']) g7 out.length cap7 j L7 own7 hj _ _ _ _ rfl rfl (fun hlt => ⟨by rw [if_neg (by omega)], rfl⟩) ?_
          intro w8 own8 ch8 sz8
          refine hK.out _ _ (trivial) (fun hHeld => ?_)
          clear hK K
          try simp only [Act.put, List.setIfInBounds_toArray, List.set_cons_zero, List.set_cons_succ]
          refine wpAnyH_done (by kernel_rfl) ?_ _
          have k8 : Ex w w8 := Chg.trans k7.drew (ch8.mono (fun x (hx : x < w.heap.size) => by omega))
          obtain ⟨x5, o5, y5, he5, hx5, hy5, hc5⟩ := (hs.out.nx k8).at hlt
          cases he5
          obtain rfl : y = y5 := Option.some.inj (HY.out.symm.trans hy5)
          have b0 : w8.cell? ⟨x1, o1 + k * 3, none⟩ = some (.int .i64 y.id) := hc5 0 _ rfl
          have b1 : w8.cell? ⟨x1, o1 + k * 3 + 1, none⟩ = some (.string y.key) := hc5 1 _ rfl
          have b2 : w8.cell? ⟨x1, o1 + k * 3 + 1 + 1, none⟩ = some (.int .u32 y.word) := by simpa [Nat.add_assoc] using hc5 2 _ rfl
          obtain ⟨⟨va, vb, vc, d0, d1, d2⟩, fz, OS⟩ := own_set3 own8 (j := j) (by omega) y
          have fz0 := fz (j * 3)
          have fz1 := fz (j * 3 + 1)
          have fz2 := fz (j * 3 + 1 + 1)
          clear hc5 hy5 own8 ch8 fz
          go_wp2_with fail
          exact ⟨⟨k + 1, by omega, by go_num, by rw [FSn.out, STEP.out, ← SH.out]; exact OS, ((k8.setNew (p := ⟨g7, j * 3, none⟩) _ hg7).setNew (p := ⟨g7, j * 3 + 1, none⟩) _ hg7).setNew (p := ⟨g7, j * 3 + 2, none⟩) _ hg7⟩, by simp [intOf]; omega⟩
    · obtain rfl : k = n := by omega
      rw [List.take_of_length_le (by rw [HL.out]; exact Nat.le_refl _)] at own
      obtain ⟨a3, cap3, rfl, r3, c3, m3, nil3⟩ := own.slf (fun _ => rfl)
      clear own hk
      go_wp2_with fail
      go_ret
      exact ⟨a3, _, cap3, rfl, r3, kw⟩
end Go.Proofs.YtjaemckdfoaopaaDoor

/- Lists of lists of nodes. -/
namespace Go.Proofs.YtjaemckdfoaopaaDoor
open Go.RowKit

abbrev Hdr := Option Addr × Nat × Nat
def Hdr.val (q : Hdr) : Value := .slice q.1 q.2.1 q.2.2
def encH (q : Hdr) : List Value := [q.val]
theorem Tryd.infoH : (Tryd.prog.info? 43).map (fun i => (i.zero, i.size, i.bytes)) = some (some (.slice none 0 0), 1, 24) := by kernel_rfl

/-- a slice of slices of nodes that reads as a list of lists -/
def LL (w : World) (a : Option Addr) (n : Nat) (C : List (List Nd)) : Prop :=
  ∃ qs : List Hdr, Sl 1 encH w a n qs ∧ C.length = n ∧ ∀ (j : Nat) (q : Hdr) (c : List Nd), qs[j]? = some q → C[j]? = some c → Sl 3 encN w q.1 q.2.1 c
theorem LL.nx {w w' : World} {a : Option Addr} {n : Nat} {C : List (List Nd)} (h : LL w a n C) (k : Ex w w') : LL w' a n C := by
  obtain ⟨qs, h1, h2, h3⟩ := h
  exact ⟨qs, h1.nx k, h2, fun j q c hq hc => (h3 j q c hq hc).nx k⟩
theorem LL.len {w : World} {a : Option Addr} {n : Nat} {C : List (List Nd)} (h : LL w a n C) : C.length = n := by
  obtain ⟨qs, h1, h2, h3⟩ := h
  exact h2
theorem LL.at {w : World} {a : Option Addr} {n : Nat} {C : List (List Nd)} (h : LL w a n C) {j : Nat} (hj : j < n) :
    ∃ x o a' n' c' c, a = some ⟨x, o, none⟩ ∧ x < w.heap.size ∧ C[j]? = some c ∧ w.cell? ⟨x, o + j, none⟩ = some (.slice a' n' c') ∧ Sl 3 encN w a' n' c := by
  obtain ⟨qs, h1, h2, h3⟩ := h
  obtain ⟨x, o, q, e, hx, hq, hc⟩ := h1.at hj
  obtain ⟨c, hcc⟩ : ∃ c, C[j]? = some c := ⟨C[j]'(by omega), by simp⟩
  refine ⟨x, o, q.1, q.2.1, q.2.2, c, e, hx, hcc, ?_, h3 j q c hq hcc⟩
  have := hc 0 _ rfl
  rw [Nat.mul_one, Nat.add_zero] at this
  exact this
theorem LL.nil (w : World) (a : Option Addr) : LL w a 0 [] := ⟨[], Sl.nil _ _ _ _, rfl, by intro j q c h; simp at h⟩

def headW (c : List Nd) : Nat := match c with | [] => 0 | y :: _ => y.word


end Go.Proofs.YtjaemckdfoaopaaDoor

/- The place of a class. -/
namespace Go.Proofs.YtjaemckdfoaopaaDoor
open Go.RowKit

/-- the first list whose head agrees with v at level h; the number of lists if there is none -/
def idxC (C : List (List Nd)) (v : Nat) (h : Int) : Nat := C.findIdx fun c => sameN (headW c) v h
theorem idxC_le (C : List (List Nd)) (v : Nat) (h : Int) : idxC C v h ≤ C.length := List.findIdx_le_length
theorem idxC_of {C : List (List Nd)} {v : Nat} {h : Int} {k : Nat} {c : List Nd} (hc : C[k]? = some c) (hk : sameN (headW c) v h = true) (hlt : ∀ j c, j < k → C[j]? = some c → sameN (headW c) v h = false) : idxC C v h = k := by
  have hkl := (List.getElem?_eq_some_iff.1 hc).1
  have he : C[k] = c := (List.getElem?_eq_some_iff.1 hc).2
  rw [idxC, List.findIdx_eq hkl]
  refine ⟨by rw [he]; exact hk, fun j hj => ?_⟩
  exact hlt j _ hj (List.getElem?_eq_getElem (by omega))
theorem idxC_none {C : List (List Nd)} {v : Nat} {h : Int} (hlt : ∀ j c, j < C.length → C[j]? = some c → sameN (headW c) v h = false) : idxC C v h = C.length := by
  rw [idxC, List.findIdx_eq_length]
  intro c hc
  obtain ⟨j, hj, he⟩ := List.mem_iff_getElem.1 hc
  have := hlt j c hj (by rw [← he]; simp)
  simpa using this

/-- what IndexFunc hands back -/
def idxV (C : List (List Nd)) (v : Nat) (h : Int) : Int := if idxC C v h < C.length then (idxC C v h : Int) else -1

def IdxRel (n : Nat) (C : List (List Nd)) (v : Nat) (h : Int) (w : World) (i : Value) (wr : World) : Prop :=
  ∃ k : Nat, k ≤ n ∧ i = .int .i64 k ∧ Ex w wr ∧ ∀ j c, j < k → C[j]? = some c → sameN (headW c) v h = false
def GoodC (C : List (List Nd)) : Prop := ∀ c ∈ C, 0 < c.length ∧ c.length ≤ 1000000 ∧ ∀ y ∈ c, y.word < 4294967296

end Go.Proofs.YtjaemckdfoaopaaDoor
