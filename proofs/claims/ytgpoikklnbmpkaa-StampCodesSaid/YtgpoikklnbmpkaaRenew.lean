/- Walks over Renew of the package stamp and of its reference. -/
import Derived.Test.YtgpoikklnbmpkaaStamp
namespace Go.Proofs.Ytgpoikklnbmpkaa
open Go.RowKit

set_option maxHeartbeats 400000 in
theorem see_x (g : Nat) (m x e v : Int) (w : World) (h : w.heap[g]? = some (.cells #[.int .i64 m, .int .i64 x] 58 (0, 0))) :
    Calls Try.prog 30 #[.pointer (some ⟨g, 0, none⟩), .agg #[.int .i64 e, .int .i64 v]] w fun e' w' => e' = .returned (.tuple #[]) ∧ Chg (fun k => k < w.heap.size ∧ k ≠ g) w w' ∧
      w'.heap[g]? = some (.cells #[.int .i64 (if m < e then e else m), .int .i64 x] 58 (0, 0)) := by
  obtain ⟨c0, c1, f0, f1⟩ := cells2 h
  have hg : g < w.heap.size := (Array.getElem?_eq_some_iff.1 h).1
  have hn : ¬ g = w.heap.size := by omega
  have H := Lib.hid h
  clear h
  go_enter Try.func30, Try.ntmps30
  go_wp2
  go_region
  go_end0
  refine ⟨rfl, (((Chg.refl _ _).setCell _ (fun k hk => hk.2)).alloc _ (by simp; omega)).drew, ?_⟩
  show (World.alloc _ _).heap[g]? = _
  exact heap_push (heap_set H.out 0 _)

def maxE : List (Int × Int) → Int
  | [] => 0
  | s :: r => if maxE r < s.1 then s.1 else maxE r
def foldE (l : List (Int × Int)) : Int := l.foldl (fun m s => if m < s.1 then s.1 else m) 0
def allV (l : List (Int × Int)) : Bool := l.all fun s => validS s.1 s.2
def renewS (l : List (Int × Int)) : (Int × Int) × Int := if allV l then (if foldE l = 1099511627776 then ((0, 0), 16) else ((foldE l + 1, 0), 0)) else ((0, 0), 1)

theorem foldE_snoc (l : List (Int × Int)) (s : Int × Int) : foldE (l ++ [s]) = if foldE l < s.1 then s.1 else foldE l := by unfold foldE; rw [List.foldl_append]; rfl
theorem foldE_bd (l : List (Int × Int)) (h : allV l = true) : 0 ≤ foldE l ∧ foldE l ≤ 1099511627776 := by
  have : ∀ (l : List (Int × Int)) (m : Int), allV l = true → 0 ≤ m → m ≤ 1099511627776 → 0 ≤ l.foldl (fun m s => if m < s.1 then s.1 else m) m ∧ l.foldl (fun m s => if m < s.1 then s.1 else m) m ≤ 1099511627776 := by
    intro l
    induction l with
    | nil => intro m _ h1 h2; exact ⟨h1, h2⟩
    | cons s r ih =>
      intro m hv h1 h2
      simp only [allV, List.all_cons, Bool.and_eq_true] at hv
      have := (validS_iff _ _).1 hv.1
      refine ih _ hv.2 ?_ ?_ <;> dsimp only <;> split <;> omega
  exact this l 0 h (by omega) (by omega)

theorem take_snoc {α : Type} (l : List α) (k : Nat) (y : α) (h : l[k]? = some y) : l.take (k + 1) = l.take k ++ [y] := by
  rw [List.take_add_one, h]; rfl
theorem allV_take (l : List (Int × Int)) (k : Nat) (y : Int × Int) (h : l[k]? = some y) (hv : validS y.1 y.2 = false) : allV l = false := by
  have hm : y ∈ l := List.mem_of_getElem? h
  unfold allV
  rw [List.all_eq_false]
  exact ⟨y, hm, by simp [hv]⟩

/-- what holds at the head of Renew's loop: r the result's block, g the block of the greatest -/
def RenewRel (l : List (Int × Int)) (n r g : Nat) (w : World) (i : Value) (wr : World) : Prop :=
  ∃ k : Nat, k ≤ n ∧ i = .int .i64 k ∧ allV (l.take k) = true ∧ wr.heap[g]? = some (.cells #[.int .i64 (foldE (l.take k)), .int .i64 0] 58 (0, 0)) ∧
    wr.heap[r]? = some (.cells #[.int .i64 0, .int .i64 0] 23 (0, 0)) ∧ Chg (· < w.heap.size) w wr

set_option maxHeartbeats 1000000 in
theorem renew_p {S : Nat → Prop} (a : Option Addr) (n cap : Nat) (l : List (Int × Int)) (w : World) (h : Rd 2 encS S w a n l) (hS : ∀ k, S k → k < w.heap.size) (hn : n ≤ 100) :
    Calls Try.prog 15 #[.slice a n cap] w fun e w' => e = .returned (stampE (renewS l)) ∧ Chg (· < w.heap.size) w w' := by
  go_enter Try.func15, Try.ntmps15
  go_wp2
  go_loopw [9] (fun i wr => RenewRel l n w.heap.size (w.heap.size + 1) w i wr) (fun i _ => n - (intOf i).toNat)
  case atStart =>
    refine ⟨0, by omega, rfl, by simp [allV], ?_, ?_, ((Chg.refl _ _).alloc _ (by simp)).alloc _ (by simp; omega)⟩
    · have := heap_new (w.alloc (.cells #[.int .i64 0, .int .i64 0] 23)) (.cells #[.int .i64 0, .int .i64 0] 58)
      simpa [foldE] using this
    · exact heap_push (heap_new _ _)
  case round =>
    obtain ⟨k, hk, rfl, hv, hg, hr, hc⟩ := hrel
    obtain ⟨wo, rfl⟩ : ∃ wo : World, wo = wr := ⟨_, rfl⟩
    have hwo := h.chg hc hS
    have zg := heap_lt hg
    have Hg := Lib.hid hg
    have Hr := Lib.hid hr
    have Hv := Lib.hid hv
    clear hg hr hv
    by_cases hlt : k < n
    · obtain ⟨x, o, y, rfl, hx, hy, hcell⟩ := hwo.at hlt
      have e0 : wo.cell? ⟨x, o + k * 2, none⟩ = some (.int .i64 y.1) := hcell 0 _ rfl
      have e1 : wo.cell? ⟨x, o + k * 2 + 1, none⟩ = some (.int .i64 y.2) := hcell 1 _ rfl
      have Hy := Lib.hid hy
      clear hy hcell h hwo
      go_wp2_with fail
      refine (valid_p _ _ _).mono ?_
      rintro e w1 ⟨rfl, k1⟩
      have s0 : w1.cell? ⟨wo.heap.size, 0, none⟩ = some (.int .i64 y.1) := k1.cellv (by simp) (by simp)
      have s1 : w1.cell? ⟨wo.heap.size, 1, none⟩ = some (.int .i64 y.2) := k1.cellv (by simp) (by simp)
      have hc1 : Chg (· < w.heap.size) w w1 := (hc.alloc _ (by intro k hk; have := hc.size; omega)).then k1 (by intro k hk; have := hc.size; simp; omega)
      have hr1 : w1.heap[w.heap.size]? = some (.cells #[.int .i64 0, .int .i64 0] 23 (0, 0)) := (k1.block _ (by simp; omega)).trans (heap_push Hr.out)
      have hg1 : w1.heap[w.heap.size + 1]? = _ := (k1.block _ (by simp; omega)).trans (heap_push Hg.out)
      have z1 : wo.heap.size < w1.heap.size := by have := k1.size; simp at this; omega
      clear k1 e0 e1
      by_cases hv : validS y.1 y.2 = true
      · have Hr1 := Lib.hid hr1
        clear hr1
        have Hg1 := Lib.hid hg1
        clear hg1
        go_wp2_with fail
        refine (see_x _ _ _ _ _ _ Hg1.out).mono ?_
        rintro e w2 ⟨rfl, k2, hg2⟩
        have Hg2 := Lib.hid hg2
        clear hg2
        go_wp2
        go_roundw
        case rel =>
          have ht := take_snoc l k y Hy.out
          refine ⟨k + 1, by omega, by go_num, ?_, ?_, (k2.block _ ⟨by omega, by omega⟩).trans Hr1.out, hc1.then k2 (by intro k hk; have := hc1.size; omega)⟩
          · rw [ht]
            have := Hv.out
            unfold allV at this ⊢
            rw [List.all_append, this]
            simp [hv]
          · rw [ht, foldE_snoc]; exact Hg2.out
        case measure => simp [intOf]; omega
      · have hv : validS y.1 y.2 = false := by simpa using hv
        have HR := Lib.hid (show renewS l = ((0, 0), 1) by unfold renewS; rw [allV_take l k y Hy.out hv]; rfl)
        obtain ⟨r0, r1, rf0, rf1⟩ := cells2 hr1
        clear hr1 hg1
        go_wp2
        refine bodyPost_ret (v := .tuple #[.agg #[.int .i64 0, .int .i64 0], .int .i64 1]) (by simp [results, Try.results15, go_sem, *]) rfl ⟨by rw [HR.out]; rfl, ?_⟩
        refine Chg.setCell (Chg.setCell hc1 _ ?_) _ ?_ <;> simp <;> omega
    · obtain rfl : k = n := by omega
      have hlen : l.length = k := h.1
      have hv : allV l = true := by have := Hv.out; rwa [List.take_of_length_le (by omega)] at this
      have hg : wo.heap[w.heap.size + 1]? = some (.cells #[.int .i64 (foldE l), .int .i64 0] 58 (0, 0)) := by have := Hg.out; rwa [List.take_of_length_le (by omega)] at this
      obtain ⟨f1, f2⟩ := foldE_bd l hv
      obtain ⟨r0, r1, rf0, rf1⟩ := cells2 Hr.out
      obtain ⟨g0, g1, gf0, gf1⟩ := cells2 hg
      clear hg Hg
      by_cases hm : foldE l = 1099511627776
      · have HR := Lib.hid (show renewS l = ((0, 0), 16) by unfold renewS; rw [if_pos hv, if_pos hm])
        have hb : (foldE l == 1099511627776) = true := by simp [hm]
        clear hm hv hlen h hwo
        go_wp2
        refine bodyPost_ret (v := .tuple #[.agg #[.int .i64 0, .int .i64 0], .int .i64 16]) (by simp [results, Try.results15, go_sem, *]) rfl ⟨by rw [HR.out]; rfl, ?_⟩
        refine Chg.setCell (Chg.setCell hc _ ?_) _ ?_ <;> simp <;> omega
      · have HR := Lib.hid (show renewS l = ((foldE l + 1, 0), 0) by unfold renewS; rw [if_pos hv, if_neg hm])
        have hb : (foldE l == 1099511627776) = false := by simp [hm]
        clear hm hv hlen h hwo
        go_wp2
        refine bodyPost_ret (v := .tuple #[.agg #[.int .i64 (foldE l + 1), .int .i64 0], .int .i64 0]) (by simp [results, Try.results15, go_sem, *]) rfl ⟨by rw [HR.out]; rfl, ?_⟩
        refine Chg.setCell (Chg.setCell hc _ ?_) _ ?_ <;> simp <;> omega

/-- what holds at the head of the reference's loop -/
def RenewRelR (l : List (Int × Int)) (n r : Nat) (w : World) (m i : Value) (wr : World) : Prop :=
  ∃ k : Nat, k ≤ n ∧ i = .int .i64 k ∧ allV (l.take k) = true ∧ m = .int .i64 (foldE (l.take k)) ∧
    wr.heap[r]? = some (.cells #[.int .i64 0, .int .i64 0] 23 (0, 0)) ∧ Chg (· < w.heap.size) w wr

set_option maxHeartbeats 1000000 in
theorem renew_r {S : Nat → Prop} (a : Option Addr) (n cap : Nat) (l : List (Int × Int)) (w : World) (h : Rd 2 encS S w a n l) (hS : ∀ k, S k → k < w.heap.size) (hn : n ≤ 100) :
    Calls Try.prog 16 #[.slice a n cap] w fun e w' => e = .returned (stampE (renewS l)) ∧ Chg (· < w.heap.size) w w' := by
  go_enter Try.func16, Try.ntmps16
  go_wp2
  go_loopw [4, 9] (fun m i wr => RenewRelR l n w.heap.size w m i wr) (fun _ i _ => n - (intOf i).toNat)
  case atStart =>
    exact ⟨0, by omega, rfl, by simp [allV], by simp [foldE], heap_new _ _, (Chg.refl _ _).alloc _ (by simp)⟩
  case round =>
    obtain ⟨k, hk, rfl, hv, rfl, hr, hc⟩ := hrel
    obtain ⟨wo, rfl⟩ : ∃ wo : World, wo = wr := ⟨_, rfl⟩
    have hwo := h.chg hc hS
    have zg := heap_lt hr
    have Hr := Lib.hid hr
    have Hv := Lib.hid hv
    obtain ⟨f1, f2⟩ := foldE_bd _ hv
    clear hr hv
    by_cases hlt : k < n
    · obtain ⟨x, o, y, rfl, hx, hy, hcell⟩ := hwo.at hlt
      have e0 : wo.cell? ⟨x, o + k * 2, none⟩ = some (.int .i64 y.1) := hcell 0 _ rfl
      have e1 : wo.cell? ⟨x, o + k * 2 + 1, none⟩ = some (.int .i64 y.2) := hcell 1 _ rfl
      have Hy := Lib.hid hy
      clear hy hcell h hwo
      go_wp2_with fail
      refine (valid_r _ _ _).mono ?_
      rintro e w1 ⟨rfl, k1⟩
      have s0 : w1.cell? ⟨wo.heap.size, 0, none⟩ = some (.int .i64 y.1) := k1.cellv (by simp) (by simp)
      have s1 : w1.cell? ⟨wo.heap.size, 1, none⟩ = some (.int .i64 y.2) := k1.cellv (by simp) (by simp)
      have hc1 : Chg (· < w.heap.size) w w1 := (hc.alloc _ (by intro k hk; have := hc.size; omega)).then k1 (by intro k hk; have := hc.size; simp; omega)
      have hr1 : w1.heap[w.heap.size]? = some (.cells #[.int .i64 0, .int .i64 0] 23 (0, 0)) := (k1.block _ (by simp; omega)).trans (heap_push Hr.out)
      have z1 : wo.heap.size < w1.heap.size := by have := k1.size; simp at this; omega
      clear k1 e0 e1
      by_cases hv : validS y.1 y.2 = true
      · have Hr1 := Lib.hid hr1
        clear hr1
        obtain ⟨v1, v2, v3, v4⟩ := (validS_iff _ _).1 hv
        go_wp2
        go_roundw
        case rel =>
          have ht := take_snoc l k y Hy.out
          refine ⟨k + 1, by omega, by go_num, ?_, ?_, Hr1.out, hc1⟩
          · rw [ht]
            have := Hv.out
            unfold allV at this ⊢
            rw [List.all_append, this]
            simp [hv]
          · rw [ht, foldE_snoc]
        case measure => simp [intOf]; omega
      · have hv : validS y.1 y.2 = false := by simpa using hv
        have HR := Lib.hid (show renewS l = ((0, 0), 1) by unfold renewS; rw [allV_take l k y Hy.out hv]; rfl)
        obtain ⟨r0, r1, rf0, rf1⟩ := cells2 hr1
        clear hr1
        go_wp2
        refine bodyPost_ret (v := .tuple #[.agg #[.int .i64 0, .int .i64 0], .int .i64 1]) (by simp [results, Try.results16, go_sem, *]) rfl ⟨by rw [HR.out]; rfl, ?_⟩
        refine Chg.setCell (Chg.setCell hc1 _ ?_) _ ?_ <;> simp <;> omega
    · obtain rfl : k = n := by omega
      have hlen : l.length = k := h.1
      have hl : l.take k = l := List.take_of_length_le (by omega)
      have hv : allV l = true := by have := Hv.out; rwa [hl] at this
      rw [hl] at f1 f2 ⊢
      obtain ⟨r0, r1, rf0, rf1⟩ := cells2 Hr.out
      clear hl
      by_cases hm : foldE l = 1099511627776
      · have HR := Lib.hid (show renewS l = ((0, 0), 16) by unfold renewS; rw [if_pos hv, if_pos hm])
        have hb : (foldE l == 1099511627776) = true := by simp [hm]
        clear hm hv hlen h hwo
        go_wp2
        refine bodyPost_ret (v := .tuple #[.agg #[.int .i64 0, .int .i64 0], .int .i64 16]) (by simp [results, Try.results16, go_sem, *]) rfl ⟨by rw [HR.out]; rfl, ?_⟩
        refine Chg.setCell (Chg.setCell hc _ ?_) _ ?_ <;> simp <;> omega
      · have HR := Lib.hid (show renewS l = ((foldE l + 1, 0), 0) by unfold renewS; rw [if_pos hv, if_neg hm])
        have hb : (foldE l == 1099511627776) = false := by simp [hm]
        clear hm hv hlen h hwo
        go_wp2
        refine bodyPost_ret (v := .tuple #[.agg #[.int .i64 (foldE l + 1), .int .i64 0], .int .i64 0]) (by simp [results, Try.results16, go_sem, *]) rfl ⟨by rw [HR.out]; rfl, ?_⟩
        refine Chg.setCell (Chg.setCell hc _ ?_) _ ?_ <;> simp <;> omega
end Go.Proofs.Ytgpoikklnbmpkaa
