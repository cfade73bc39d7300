/- Walks over the tape of numbers from which the statements draw. -/
import Derived.Test.YtenobfplmifomaaDoorRows
import Derived.Test.YtenobfplmifomaaDoorBase
namespace Go.Proofs.YtenobfplmifomaaDoor
open Go.RowKit

set_option maxHeartbeats 400000 in
theorem mod_any (v n : Int) (w : World) (hn : 1 ≤ n) (hn2 : n ≤ 9223372036854775807) :
    Calls Tryd.prog 20 #[.int .i64 v, .int .i64 n] w fun e w' => e = .returned (.int .i64 (v % n)) ∧ w = w' := by
  obtain ⟨h1, h2⟩ := tmod_bounds v n hn
  have H3 := Lib.hid (emod_of_tmod v n hn)
  go_enter Tryd.func20, Tryd.ntmps20
  go_wp2
  · go_ret
    exact ⟨by rw [H3.out, if_pos ‹_›]; rfl, rfl⟩
  · go_ret
    exact ⟨by rw [H3.out, if_neg (by omega)]; rfl, rfl⟩

set_option maxHeartbeats 400000 in
theorem next_end (b len cap i : Nat) (n : Int) (a : Option Addr) (w : World) (hb : w.heap[b]? = some (.cells #[.slice a len cap, .int .i64 i] 51 (0, 0))) (hi : len ≤ i) (hn : ¬ n < 1) :
    Calls Tryd.prog 10 #[.pointer (some ⟨b, 0, none⟩), .int .i64 n] w fun e w' => e = .returned (.int .i64 0) ∧ ∃ m, w.drewN m = w' := by
  have c0 : w.cell? ⟨b, 0, none⟩ = some (.slice a len cap) := by simp [World.cell?, hb]
  have c1 : w.cell? ⟨b, 1, none⟩ = some (.int .i64 i) := by simp [World.cell?, hb]
  have d1 : decide (n < 1) = false := by simp; omega
  clear hb
  go_enter Tryd.func10, Tryd.ntmps10
  go_wp2
  go_quiet (fail)
  go_wp2
  go_ret
  exact ⟨rfl, _, rfl⟩

set_option maxHeartbeats 400000 in
theorem next_small (b : Nat) (n : Int) (w : World) (hn : n < 1) :
    Calls Tryd.prog 10 #[.pointer (some ⟨b, 0, none⟩), .int .i64 n] w fun e w' => e = .returned (.int .i64 0) ∧ ∃ m, w.drewN m = w' := by
  have d1 : decide (n < 1) = true := by simp; omega
  go_enter Tryd.func10, Tryd.ntmps10
  go_wp2
  go_quiet (fail)
  go_wp2
  go_ret
  exact ⟨rfl, _, rfl⟩

set_option maxHeartbeats 400000 in
theorem next_go (b len cap i x o : Nat) (n v : Int) (w : World) (hb : w.heap[b]? = some (.cells #[.slice (some ⟨x, o, none⟩) len cap, .int .i64 i] 51 (0, 0))) (hi : i < len) (hl : len ≤ 600) (hn : ¬ n < 1) (hn2 : n ≤ 9223372036854775807)
    (hx : x ≠ b) (hc : w.cell? ⟨x, o + i, none⟩ = some (.int .i64 v)) :
    Calls Tryd.prog 10 #[.pointer (some ⟨b, 0, none⟩), .int .i64 n] w fun e w' => e = .returned (.int .i64 (v % n)) ∧ ∃ m k, ((w.drewN k).setCell ⟨b, 1, none⟩ (.int .i64 (i + 1))).drewN m = w' := by
  have c0 : w.cell? ⟨b, 0, none⟩ = some (.slice (some ⟨x, o, none⟩) len cap) := by simp [World.cell?, hb]
  have c1 : w.cell? ⟨b, 1, none⟩ = some (.int .i64 i) := by simp [World.cell?, hb]
  have f1 : w.frozen? ⟨b, 1, none⟩ = false := by simp [World.frozen?, hb]
  have d1 : decide (n < 1) = false := by simp; omega
  have e1 : IntKind.i64.wrap (i : Int) = i := IntWalk.i64_in _ (by omega)
  have e2 : IntKind.i64.wrap ((i : Int) + 1) = (i : Int) + 1 := IntWalk.i64_in _ (by omega)
  clear hb
  go_enter Tryd.func10, Tryd.ntmps10
  go_wp2
  go_quiet (fail)
  go_wp2
  go_quiet ((go_at_call 20; exact quiet_of_eq (mod_any _ _ _ (by omega) (by omega))))
  go_wp2
  go_ret
  exact ⟨rfl, _, _, rfl⟩

theorem next_x {B b : Nat} (n : Int) (w : World) (h : TP 51 B w b) (hn2 : n ≤ 9223372036854775807) :
    Calls Tryd.prog 10 #[.pointer (some ⟨b, 0, none⟩), .int .i64 n] w (SomeInt 0 (if n < 1 then 0 else n - 1) 51 B b w) := by
  by_cases hn : n < 1
  · refine (next_small b n w hn).mono ?_
    rintro e w' ⟨rfl, m, rfl⟩
    exact ⟨0, rfl, by omega, by rw [if_pos hn]; omega, (Chg.refl _ _).drewN _, h⟩
  · obtain ⟨a, cap, i, x, o, l, h1, h2, h3, h4, h5⟩ := id h
    by_cases hi : i < l.length
    · rcases h5 with rfl | ⟨rfl, e2, e3, e4⟩
      · simp at hi
      · refine (next_go b _ cap i x o n _ w h1 hi h3 hn hn2 e2 (e4 i hi)).mono ?_
        rintro e w' ⟨rfl, m, k, rfl⟩
        refine ⟨_, rfl, Int.emod_nonneg _ (by omega), ?_, ?_, ?_⟩
        · rw [if_neg hn]; have := Int.emod_lt_of_pos (l.getD i 0) (show 0 < n by omega); omega
        · exact (((Chg.refl _ _).drewN _).setCell _ (fun k hk => hk.2)).drewN _
        · refine ⟨_, cap, i + 1, x, o, l, ?_, h2, h3, by omega, .inr ⟨rfl, e2, e3, fun j hj => ?_⟩⟩
          · show (w.setCell ⟨b, 1, none⟩ (.int .i64 (i + 1))).heap[b]? = _
            simp [World.setCell, Array.getElem?_modify, h1]
          · show (w.setCell ⟨b, 1, none⟩ (.int .i64 (i + 1))).cell? _ = _
            rw [World.cell?_of_block (w := w) (Below.heap_setCell w _ _ _ e2)]
            exact e4 j hj
    · refine (next_end b _ cap i n a w h1 (by omega) hn).mono ?_
      rintro e w' ⟨rfl, m, rfl⟩
      exact ⟨0, rfl, by omega, by rw [if_neg hn]; omega, (Chg.refl _ _).drewN _, h⟩

/-- Pick: some number of the list -/
theorem pick_x {B b s so len : Nat} (lo hi : Int) (l : List Int) (w : World) (h : TP 51 B w b) (hB : B ≤ s) (hs : s < w.heap.size) (hl : l.length = len) (hl0 : 0 < len) (hl2 : len ≤ 100)
    (hc : ∀ j, j < len → w.cell? ⟨s, so + j, none⟩ = some (.int .i64 (l.getD j 0))) (hr : ∀ x ∈ l, lo ≤ x ∧ x ≤ hi) :
    Calls Tryd.prog 30 #[.pointer (some ⟨b, 0, none⟩), .slice (some ⟨s, so, none⟩) len len] w (SomeInt lo hi 51 B b w) := by
  have hlt := h.lt
  go_enter Tryd.func30, Tryd.ntmps30
  go_wp2_with fail
  refine (next_x _ w h (by omega)).mono ?_
  rintro e w1 ⟨r, rfl, r0, r1, k1, t1⟩
  rw [if_neg (by omega)] at r1
  obtain ⟨j, rfl⟩ := Int.eq_ofNat_of_zero_le r0
  have hj : j < len := by omega
  have hc1 : w1.cell? ⟨s, so + j, none⟩ = some (.int .i64 (l.getD j 0)) := k1.cellv (hc j hj) ⟨hs, by simp; omega⟩
  have hm : l.getD j 0 ∈ l := by simp [List.getD, hl, hj]
  have hr1 := hr _ hm
  clear hc hr hl hm
  go_wp2
  go_ret
  exact ⟨_, rfl, hr1.1, hr1.2, k1, t1⟩


/-- Pick on a list that was just written out -/
theorem pick_lit {B b n s : Nat} (lo hi : Int) (l : List Int) {A : Array Value} {W0 : World} (h : TP 51 B W0 b) (hB : B ≤ W0.heap.size) (hs : s = W0.heap.size) (hA : A = (l.map (Value.int .i64)).toArray) (hl : l.length = n) (hl0 : 0 < n) (hl2 : n ≤ 100)
    (hr : ∀ x ∈ l, lo ≤ x ∧ x ≤ hi) :
    Calls Tryd.prog 30 #[.pointer (some ⟨b, 0, none⟩), .slice (some ⟨s, 0, none⟩) n n] (W0.alloc (.cells A 3)) (SomeInt lo hi 51 B b W0) := by
  subst hA hs
  have hc := (Chg.refl (· < W0.heap.size) W0).alloc (.cells (l.map (Value.int .i64)).toArray 3) (fun k hk => hk)
  refine (pick_x (s := W0.heap.size) (so := 0) lo hi l _ (h.chg hc (by omega)) hB (by simp) hl hl0 hl2 ?_ hr).mono ?_
  · intro j hj
    simp [List.getD, hl, hj]
  · rintro e w' ⟨r, rfl, r0, r1, k1, t1⟩
    exact ⟨r, rfl, r0, r1, (hc.mono (fun k hk => hk.1)).trans (k1.mono (by simp; intro k h1 h2; omega)), t1⟩


/-- a new tape -/
def NewTape (w : World) (e : Ending) (w' : World) : Prop :=
  e = .returned (.pointer (some ⟨w.heap.size, 0, none⟩)) ∧ TP 51 (w.heap.size + 1) w' w.heap.size ∧ Chg (· < w.heap.size) w w'

theorem tape_made {S : Nat → Prop} {n cap m : Nat} {a : Option Addr} {l : List Int} {w : World} (h : Rd 1 encI S w a n l) (hS : ∀ k, S k → k < w.heap.size) (hm : m ≤ n) (hm2 : m ≤ 600) :
    TP 51 (w.heap.size + 1) (w.alloc (.cells #[.slice a m cap, .int .i64 0] 51)) w.heap.size := by
  have hl : (l.take m).length = m := by have := h.1; simp; omega
  rcases Nat.eq_zero_or_pos m with h0 | h0
  · subst h0
    exact ⟨a, cap, 0, 0, 0, [], by simpa using heap_new w _, by omega, by simp, by simp, .inl rfl⟩
  · obtain ⟨x, o, y, rfl, hx, _, _⟩ := h.at (j := 0) (by omega)
    have hx := hS x hx
    refine ⟨_, cap, 0, x, o, l.take m, by rw [hl]; exact heap_new w _, by omega, by omega, by omega, .inr ⟨rfl, by omega, by omega, fun j hj => ?_⟩⟩
    have hj : j < m := by omega
    obtain ⟨x', o', y', e1, _, e3, e4⟩ := h.at (j := j) (by omega)
    cases e1
    have e5 := e4 0 _ rfl
    have e6 : (l.take m).getD j 0 = y' := by simp [List.getD, List.getElem?_take, hj, e3]
    rw [e6]
    rw [World.cell?_of_block (w := w) (Below.heap_alloc w _ _ (by simp; omega))]
    simpa using e5

set_option maxHeartbeats 400000 in
theorem new_x {S : Nat → Prop} (a : Option Addr) (n cap : Nat) (l : List Int) (w : World) (h : Rd 1 encI S w a n l) (hS : ∀ k, S k → k < w.heap.size) (hn : n ≤ cap) (hcap : cap ≤ maxLen) :
    Calls Tryd.prog 8 #[.slice a n cap] w (NewTape w) := by
  unfold maxLen at hcap
  by_cases h6 : 600 < n
  · have hm := tape_made (cap := cap) (m := 600) h hS (by omega) (by omega)
    go_enter Tryd.func8, Tryd.ntmps8
    go_wp2
    go_ret
    exact ⟨rfl, hm, (Chg.refl _ _).alloc _ (by simp)⟩
  · have hm := tape_made (cap := cap) (m := n) h hS (by omega) (by omega)
    go_enter Tryd.func8, Tryd.ntmps8
    go_wp2
    go_ret
    exact ⟨rfl, hm, (Chg.refl _ _).alloc _ (by simp)⟩
end Go.Proofs.YtenobfplmifomaaDoor
