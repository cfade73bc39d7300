/- Walks over Play of the package suspect and of its reference. -/
import Derived.Test.YtgfnngdkoecciaaWatchL
import Derived.Test.YtgfnngdkoecciaaWatchW
import Derived.Test.YtgfnngdkoecciaaWatchN
import Derived.Test.YtgfnngdkoecciaaWatchR
import Derived.Deep.RegionHeld3
namespace Go.Proofs.Ytgfnngdkoecciaa
open Go.RowKit

theorem Try.infoI : (Try.prog.info? 3).map (fun i => (i.zero, i.size, i.bytes)) = some (some (.int .i64 0), 1, 8) := by kernel_rfl
/-- a list of ints in new memory, and an error number -/
def IntsErrPost (r : List Int × Int) (w : World) (e : Ending) (w' : World) : Prop :=
  ∃ (a : Option Addr) (n cap : Nat), e = .returned (.tuple #[.slice a n cap, .int .i64 r.2]) ∧ Rd 1 encI (fun k => w.heap.size ≤ k ∧ k < w'.heap.size) w' a n r.1 ∧ n ≤ cap ∧ cap ≤ maxLen ∧ Chg (· < w.heap.size) w w'
def PlayRel (m : Int) (l : List Int) (g : Nat) (w wl : World) (o i : Value) (wr : World) : Prop :=
  ∃ k : Nat, k ≤ l.length ∧ i = .int .i64 k ∧ wr.heap[g]? = some (.cells #[.int .i64 (foldW (1, 0, m) (l.take k)).1, .int .i64 (foldW (1, 0, m) (l.take k)).2.1, .int .i64 (foldW (1, 0, m) (l.take k)).2.2] 24 (0, 0)) ∧
    OwnL 1 encI 3 wl.heap.size wr o (statesW (1, 0, m) (l.take k)) ∧ Chg (fun k => k < wl.heap.size ∧ k ≠ g) wl wr

set_option maxHeartbeats 2000000 in
theorem play_p_bad {S : Nat → Prop} (m : Int) (a : Option Addr) (n cap : Nat) (l : List Int) (w : World) (_h : Rd 1 encI S w a n l) (hm : m < 1 ∨ 64 < m) :
    Calls Try.prog 19 #[.int .i64 m, .slice a n cap] w (IntsErrPost (playW m l) w) := by
  have HR : Hid (playW m l = ([], 2)) := by
    show playW m l = _
    unfold playW; rw [if_neg (by omega)]
  go_enter Try.func19, Try.ntmps19
  go_wp2_with fail
  refine (wt_new_p_bad m _ hm).mono ?_
  rintro e w1 ⟨rfl, k1⟩
  go_wp2_with fail
  go_ret2
  exact ⟨none, 0, 0, by rw [HR.out]; rfl, by rw [HR.out]; exact Rd.nil _ _ _ _ _, by omega, by unfold maxLen; omega, k1.alloc _ (by intro k hk; have := k1.size; omega)⟩

set_option maxHeartbeats 2000000 in
theorem play_p_long {S : Nat → Prop} (m : Int) (a : Option Addr) (n cap : Nat) (l : List Int) (w : World) (h : Rd 1 encI S w a n l) (hm : 1 ≤ m ∧ m ≤ 64) (hn : 4096 < n) :
    Calls Try.prog 19 #[.int .i64 m, .slice a n cap] w (IntsErrPost (playW m l) w) := by
  have hl := h.1
  have HR : Hid (playW m l = ([], 3)) := by
    show playW m l = _
    unfold playW; rw [if_pos hm, if_pos (by omega)]
  clear hl h
  go_enter Try.func19, Try.ntmps19
  go_wp2_with fail
  refine (wt_new_p_ok m _ hm).mono ?_
  rintro e w1 ⟨rfl, k1⟩
  go_wp2_with fail
  go_ret2
  exact ⟨none, 0, 0, by rw [HR.out]; rfl, by rw [HR.out]; exact Rd.nil _ _ _ _ _, by omega, by unfold maxLen; omega, k1.alloc _ (by intro k hk; have := k1.size; omega)⟩

set_option maxHeartbeats 2000000 in
theorem play_p_ok {S : Nat → Prop} (m : Int) (a : Option Addr) (n cap : Nat) (l : List Int) (w : World) (h : Rd 1 encI S w a n l) (hS : ∀ k, S k → k < w.heap.size) (hm : 1 ≤ m ∧ m ≤ 64) (hn : n ≤ 4096) :
    Calls Try.prog 19 #[.int .i64 m, .slice a n cap] w (IntsErrPost (playW m l) w) := by
  have HL := Lib.hid h.1
  have HR : Hid (playW m l = (statesW (1, 0, m) l, 0)) := by
    show playW m l = _
    unfold playW; rw [if_pos hm, if_neg (by have := h.1; omega)]
  go_enter Try.func19, Try.ntmps19
  go_wp2_with fail
  refine (wt_new_p_ok m _ hm).mono ?_
  rintro e w1 ⟨rfl, k1⟩
  have h1 := h.chg k1 hS
  have z1 := k1.size
  obtain ⟨wl, hwl⟩ : ∃ wl, wl = w1.alloc (.cells #[.int .i64 1, .int .i64 0, .int .i64 m] 24) := ⟨_, rfl⟩
  have hl : Rd 1 encI S wl a n l := by rw [hwl]; exact h1.chg ((Chg.refl (· < w1.heap.size) w1).alloc _ (by simp)) (fun k hk => Nat.lt_of_lt_of_le (hS k hk) z1)
  have gl : wl.heap[w1.heap.size]? = some (.cells #[.int .i64 1, .int .i64 0, .int .i64 m] 24 (0, 0)) := by rw [hwl]; exact heap_new _ _
  have ql : Chg (· < w.heap.size) w wl := by rw [hwl]; exact k1.alloc _ (by intro k hk; omega)
  have zl : wl.heap.size = w1.heap.size + 1 := by rw [hwl]; simp
  have HW := Lib.hid hwl
  have ZL := Lib.hid zl
  have GL := Lib.hid gl
  clear hwl h h1 k1 zl gl
  obtain ⟨g, hg⟩ : ∃ g, g = w1.heap.size := ⟨_, rfl⟩
  have HGG := Lib.hid hg
  have zgl : g < wl.heap.size := by have := ZL.out; omega
  have zgw : w.heap.size ≤ g := by omega
  rw [← hg] at GL
  go_wp2_with fail
  rw [← hg]
  clear hg z1
  go_loopw [8, 24] (fun o i wr => PlayRel m l g w wl o i wr) (fun _ i _ => n - (intOf i).toNat)
  case atStart =>
    refine ⟨0, by omega, rfl, ?_, OwnL.nil _ _ _ _ _, ?_⟩
    · rw [HGG.out, ← HW.out]; rw [← HGG.out]; exact GL.out
    · rw [HGG.out, ← HW.out]; exact Chg.refl _ _
  case round =>
    obtain ⟨k, hk, rfl, hg, hown, hc⟩ := hrel
    obtain ⟨wo, rfl⟩ : ∃ wo : World, wo = wr := ⟨_, rfl⟩
    have hwo := hl.chg hc (fun k hk => ⟨Nat.lt_of_lt_of_le (hS k hk) (by have := ql.size; omega), by have := hS k hk; omega⟩)
    have hsz := hc.size
    have zg : g < wo.heap.size := by omega
    have hkl := HL.out
    have hsl := statesW_length (1, 0, m) (l.take k)
    rw [List.length_take] at hsl
    obtain ⟨c0, c1, c2, f0, f1, f2⟩ := cells3 hg
    have HG := Lib.hid hg
    clear hg
    by_cases hlt : k < n
    · obtain ⟨x, o, y, rfl, hx, hy, hcell⟩ := hwo.at hlt
      have e0 : wo.cell? ⟨x, o + k, none⟩ = some (.int .i64 y) := by simpa using hcell 0 _ rfl
      have Hy := Lib.hid hy
      have Hf : Hid (foldW (1, 0, m) (l.take (k + 1)) = stepW (foldW (1, 0, m) (l.take k)) y) := by
        show foldW _ _ = _
        rw [take_snocI l k y hy, foldW_snoc]
      have Hs : Hid (statesW (1, 0, m) (l.take (k + 1)) = statesW (1, 0, m) (l.take k) ++ [(stepW (foldW (1, 0, m) (l.take k)) y).1]) := by
        show statesW _ _ = _
        rw [take_snocI l k y hy, statesW_snoc]
      generalize hq : foldW (1, 0, m) (l.take k) = q at *
      have hxg : ¬ x = g := by have := hS x hx; omega
      have hxz : x < wo.heap.size := World.block_lt_of_cell? wo _ e0
      clear hy hcell hl hwo hkl hq
      go_wp2_with fail
      refine (wt_next_p _ _ _ _ _).mono ?_
      rintro e w2 ⟨rfl, k2⟩
      have G2 := (k2.block g zg).trans HG.out
      have hown2 := hown.chg k2 (fun k hk _ => hk)
      have hc2 := hc.then k2 (by intro k hk; omega)
      have z2 := k2.size
      obtain ⟨c0, c1, c2, f0, f1, f2⟩ := cells3 G2
      have G3 := Lib.hid (heap_set (heap_set (heap_set G2 0 (.int .i64 (stepW q y).1)) 1 (.int .i64 (stepW q y).2.1)) 2 (.int .i64 (stepW q y).2.2))
      have hc3 := ((hc2.setCell (p := ⟨g, 0, none⟩) (.int .i64 (stepW q y).1) (by intro k hk; exact hk.2)).setCell (p := ⟨g, 1, none⟩) (.int .i64 (stepW q y).2.1) (by intro k hk; exact hk.2)).setCell (p := ⟨g, 2, none⟩) (.int .i64 (stepW q y).2.2) (by intro k hk; exact hk.2)
      have hown3 := hown2.chg ((((Chg.refl (· ≠ g) w2).setCell (p := ⟨g, 0, none⟩) (.int .i64 (stepW q y).1) (fun k hk => hk)).setCell (p := ⟨g, 1, none⟩) (.int .i64 (stepW q y).2.1) (fun k hk => hk)).setCell (p := ⟨g, 2, none⟩) (.int .i64 (stepW q y).2.2) (fun k hk => hk)) (fun k hk hv => by have := (hown2.lt k hv).1; omega)
      clear k2 G2 hown hc hown2 hc2 e0
      go_wp2_with (at_builtin; go_loud (refine wpList_append_lit (enc := encI) (((w2.setCell ⟨g, 0, none⟩ (.int .i64 (stepW q y).1)).setCell ⟨g, 1, none⟩ (.int .i64 (stepW q y).2.1)).setCell ⟨g, 2, none⟩ (.int .i64 (stepW q y).2.2)) rfl _ _ 22 rfl wl.heap.size 3 (.int .i64 0) 1 8 Try.underlying22 Try.infoI rfl (by omega) (by omega) _ _ hown3 rfl (stepW q y).1 _ rfl rfl (by simp [encI, Value.oneCell']) _ (by simp) rfl (by omega) (by simp; omega) _ ?_); intro v' w3 hown4 _ hch4 hz4)
      refine ⟨⟨k + 1, by have := HL.out; omega, by go_num, ?_, by rw [Hs.out]; exact hown4, hc3.then hch4 (fun k hk => hk.1)⟩, by simp [intOf]; omega⟩
      rw [Hf.out]
      have := (hch4.block g zgl).trans G3.out
      simpa using this
    · have hkn : k = n := by have := HL.out; omega
      subst hkn
      have ht : l.take k = l := List.take_of_length_le (by omega)
      rw [ht] at hown
      obtain ⟨a', cap', rfl, h2, h3, h4, _⟩ := hown.rd (by intro y; simp [encI])
      have hlen := statesW_length (1, 0, m) l
      rw [hlen, hkl] at h2 h3
      rw [hlen, hkl]
      have h5 := h2.mono (S' := fun k => w.heap.size ≤ k ∧ k < wo.heap.size) (fun k hk => by have := ql.size; omega)
      have h6 := ql.then hc (by intro k hk; have := ql.size; omega)
      go_wp2
      go_ret2
      exact ⟨a', _, cap', by rw [HR.out]; rfl, by rw [HR.out]; exact h5, h3, h4, h6⟩

end Go.Proofs.Ytgfnngdkoecciaa
