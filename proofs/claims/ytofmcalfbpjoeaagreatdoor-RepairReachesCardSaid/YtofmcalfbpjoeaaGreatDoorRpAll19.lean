/- Texts for RepairReachesProof, RepairCrashesProof, RepairJoinsProof, RepairCleansProof, RepairRejoinsProof. -/
import Derived.Shelf.GgSortFunc.SmallK
import Derived.Test.YtofmcalfbpjoeaaGreatDoorRpAll1
import Derived.Test.YtofmcalfbpjoeaaGreatDoorRpAll3
import Derived.Test.YtofmcalfbpjoeaaGreatDoorRpAll6
import Derived.Test.YtofmcalfbpjoeaaGreatDoorRpAll11
import Derived.Test.YtofmcalfbpjoeaaGreatDoorRpAll12
import Derived.Test.YtofmcalfbpjoeaaGreatDoorRpAll14
import Derived.Test.YtofmcalfbpjoeaaGreatDoorRpAll16

namespace Go.Proofs.YtofmcalfbpjoeaaGreatDoor
open Go.RowKit
theorem OwnL.sl3 {sz e base : Nat} {α : Type} {enc : α → List Value} {w : World} {v : Value} {l : List α} (h : OwnL sz enc e base w v l) (hsz : ∀ y, (enc y).length = sz) : ∃ a cap, v = .slice a l.length cap ∧ Sl sz enc w a l.length l ∧ l.length ≤ cap ∧ cap ≤ maxLen := by
 obtain ⟨a, cap, e, h1, h2, h3, _⟩ := h.rd hsz
 exact ⟨a, cap, e, h1.mono (fun _ hk => hk.2), h2, h3⟩
def QuL (e : TypeId) (base : Nat) (w : World) (v : Value) (l : List Int) : Prop :=
 (v = .slice none 0 0 ∧ l = []) ∨ ∃ (g o cap : Nat) (cur : Array Value), v = .slice (some ⟨g, o, none⟩) l.length cap ∧ base ≤ g ∧ w.heap[g]? = some (.cells cur e (0, 0)) ∧ l.length ≤ cap ∧ cap ≤ maxLen ∧ o + cap ≤ cur.size ∧ (cur.toList.drop o).take l.length = l.flatMap encI
section
variable {e : TypeId} {base : Nat} {w w' : World} {v : Value} {l : List Int}
theorem flatI_len (l : List Int) : (l.flatMap encI).length = l.length := by
 induction l with
 | nil => rfl
 | cons x l ih => rw [List.flatMap_cons, List.length_append, ih, List.length_cons, show (encI x).length = 1 from rfl]; omega
theorem flatI_map (l : List Int) : l.flatMap encI = l.map (Value.int .i64) := by
 induction l with
 | nil => rfl
 | cons y r ih => rw [List.flatMap_cons, ih]; rfl
theorem QuL.chg (h : QuL e base w v l) {S : Nat → Prop} (k : Chg S w w') (hs : ∀ k, k < w.heap.size → v.ownBlock = some k → S k) : QuL e base w' v l := by
 rcases h with h | ⟨g, o, cap, cur, rfl, hb, hg, rest⟩
 ·exact .inl h
 ·exact .inr ⟨g, o, cap, cur, rfl, hb, (k.block g (hs g (heap_lt hg) rfl)).trans hg, rest⟩
theorem QuL.nx (h : QuL e base w v l) (k : Ex w w') : QuL e base w' v l := h.chg k (fun _ hk _ => hk)
theorem QuL.lt (h : QuL e base w v l) {g : Nat} (hg : v.ownBlock = some g) : base ≤ g ∧ g < w.heap.size := by
 rcases h with ⟨rfl, _⟩ | ⟨g', o, cap, cur, rfl, hb, hh, _⟩
 ·cases hg
 ·cases hg
  exact ⟨hb, heap_lt hh⟩
theorem QuL.nxb {b : Nat} (h : QuL e base w v l) (hb : b < base) (k : Exb b w w') : QuL e base w' v l := h.chg k (fun x hx hv => ⟨hx, by have := (h.lt hv).1; omega⟩)
theorem QuL.append {P : Program} (h : QuL e base w v l) (t ty : TypeId) {z : Value} {bytes : Nat} (ht : P.underlying t = some (.slice e)) (hi : (P.info? e).map (fun i => (i.zero, i.size, i.bytes)) = some (some z, 1, bytes)) (hzs : z.cells.size = 1) (hby : bytes ≤ 65536)
  {S : Nat → Prop} {A : Option Addr} {n c : Nat} {news : List Int} (hrd : Rd 1 encI S w A n news) (hA : A = none → c = 0) (hl : l.length ≤ 100000000) (hn : n ≤ 100000000) (hbase : base ≤ w.heap.size) :
  ∃ v' w', (Builtin.append_ #[t, t] ty #[v, .slice A n c]).run P w = .ok v' w' ∧ QuL e base w' v' (l ++ news) ∧ Chg (fun k => k < w.heap.size ∧ ¬ v.ownBlock = some k) w w' ∧ Chg (· < base) w w' ∧ (v'.ownBlock = v.ownBlock ∨ v'.ownBlock = some w.heap.size) := by
 obtain ⟨i, hi, hz0, hz1, hz2⟩ := info_parts hi
 have hmul : (l.length + n) * bytes ≤ 200000000 * 65536 := Nat.mul_le_mul (by omega) hby
 have hnl := hrd.1
 have nothing : news = [] → (Builtin.append_ #[t, t] ty #[v, .slice A n c]).run P w = .ok v w → ∃ v' w', (Builtin.append_ #[t, t] ty #[v, .slice A n c]).run P w = .ok v' w' ∧ QuL e base w' v' (l ++ news) ∧ Chg (fun k => k < w.heap.size ∧ ¬ v.ownBlock = some k) w w' ∧ Chg (· < base) w w' ∧ (v'.ownBlock = v.ownBlock ∨ v'.ownBlock = some w.heap.size) :=
  fun hnews hrun => ⟨v, w, hrun, by rw [hnews]; simpa using h, Chg.refl _ _, Chg.refl _ _, .inl rfl⟩
 by_cases hn0 : n = 0
 ·subst hn0
  have hnews : news = [] := List.eq_nil_of_length_eq_zero hnl
  refine nothing hnews ?_
  rcases h with ⟨rfl, _⟩ | ⟨g, o, cap, cur, rfl, _, _, hnc, _⟩
  ·cases A <;> simp [Builtin.append_, run_underlying ht, sizeOf, typeInfo, hi, Builtin.lenOf, Builtin.firstCells, loadCells, loadCellsFrom]
  ·cases A <;> simp [Builtin.append_, run_underlying ht, sizeOf, typeInfo, hi, Builtin.lenOf, Builtin.firstCells, hnc, storeCells, loadCells, loadCellsFrom]
 ·obtain ⟨ad, rfl, hcells⟩ : ∃ ad, A = some ad ∧ ∀ j u, (news.flatMap encI)[j]? = some u → w.cell? (ad.add j) = some u := by
   rcases hrd.2 with h0 | ⟨x, o, rfl, hx, hc⟩
   ·exact absurd h0 hn0
   ·refine ⟨_, rfl, fun j u hu => ?_⟩
    have hflat := flatI_map news
    rw [hflat, List.getElem?_map] at hu
    cases hy : news[j]? with
    | none => rw [hy] at hu; cases hu
    | some y =>
     rw [hy] at hu
     cases hu
     have := hc j y hy 0 _ rfl
     have hadd : (⟨x, o, none⟩ : Addr).add j = ⟨x, o + j, none⟩ := by unfold Addr.add; split <;> simp_all
     rw [hadd]
     simpa using this
  have hfl : (news.flatMap encI).length = n * i.size := by rw [flatI_len, hz1, hnl, Nat.mul_one]
  have h1f : ∀ u ∈ news.flatMap encI, u.oneCell' = true := by
   intro u hu
   obtain ⟨y, _, hy⟩ := List.mem_flatMap.1 hu
   simp only [encI, List.mem_singleton] at hy
   subst hy
   rfl
  have fresh : ∀ (old : Nat), old < l.length + n →
    QuL e base (w.drew.alloc (.cells ((l.flatMap encI).toArray ++ (news.flatMap encI).toArray ++ Builtin.zeroCells z.cells (grownCap w (l.length + n) old e - (l.length + n))) e)) (.slice (some ⟨w.heap.size, 0, none⟩) (l.length + n) (grownCap w (l.length + n) old e)) (l ++ news) := by
   intro old ho
   have hge := grownCap_ge w (l.length + n) old e
   have hcm : grownCap w (l.length + n) old e ≤ maxLen := grownCap_le_maxLen w (l.length + n) old e (by unfold maxLen; omega)
   refine .inr ⟨w.heap.size, 0, _, _, by rw [List.length_append, hnl], hbase, heap_alloc_new w.drew _, by rw [List.length_append, hnl]; exact hge, hcm, ?_, ?_⟩
   ·simp only [Array.size_append, List.size_toArray, size_zeroCells, hzs, flatI_len, hnl]
    omega
   ·simp only [Array.toList_append, List.append_assoc, List.drop_zero]
    rw [← List.append_assoc, ← List.flatMap_append, ← flatI_len (l ++ news)]
    exact List.take_left
  have hex : ∀ o : Obj, Ex w (w.drew.alloc o) := fun o => ⟨rfl, rfl, rfl, by simp, fun k hk => heap_alloc_old w.drew _ hk⟩
  rcases h with ⟨rfl, rfl⟩ | ⟨g, o, cap, cur, rfl, hb, hg, h1, h2, h3, h4⟩
  ·have hr := run_append_nil (P := P) w t ty e i z ht hi hz0 ad n c (news.flatMap encI) hfl hcells (by omega) (by omega) (by rw [hz2]; simp only [List.length_nil, Nat.zero_add] at hmul; omega)
   have hf := fresh 0 (by simp; omega)
   simp only [List.length_nil, Nat.zero_add, List.flatMap_nil, List.nil_append] at hf ⊢
   refine ⟨_, _, hr, by simpa using hf, (hex _).mono fun k hk => hk.1, (hex _).mono fun k (hk : k < base) => by show k < w.heap.size; omega, .inr rfl⟩
  ·by_cases hroom : l.length + n ≤ cap
   ·have hfc := run_firstCells_some (P := P) w i.size n ad n c (news.flatMap encI) hfl hcells
    have hst := run_storeCells_at P g (o + l.length) e (news.flatMap encI) 0 cur w hg (by rw [flatI_len, hnl]; omega) h1f
    simp only [Nat.add_zero] at hst
    have hadd : (⟨g, o, none⟩ : Addr).add (l.length * i.size) = ⟨g, o + l.length, none⟩ := by rw [hz1, Nat.mul_one]; unfold Addr.add; split <;> simp_all
    refine ⟨.slice (some ⟨g, o, none⟩) (l.length + n) cap, w.setRow g (cur.toList.take (o + l.length) ++ news.flatMap encI ++ cur.toList.drop (o + l.length + (news.flatMap encI).length)).toArray, ?_, .inr ⟨g, o, cap, _, by rw [List.length_append, hnl], hb, setRow_heap w g cur _ e _ hg, by rw [List.length_append, hnl]; exact hroom, h2, ?_, ?_⟩, ⟨rfl, rfl, rfl, by simp [World.setRow], fun k hk => setRow_other w g k _ (fun he => hk.2 (by rw [he]; rfl))⟩, ⟨rfl, rfl, rfl, by simp [World.setRow], fun k (hk : k < base) => setRow_other w g k _ (by omega)⟩, .inl rfl⟩
    ·simp [Builtin.append_, run_underlying ht, sizeOf, typeInfo, hi, Builtin.lenOf, hroom, hfc, hadd, hst]
    ·simp only [List.size_toArray, List.length_append, List.length_take, List.length_drop, Array.length_toList, flatI_len, hnl]
     omega
    ·rw [List.flatMap_append, ← h4, List.length_append, hnl]
     have hsz : o + l.length ≤ cur.toList.length := by simp; omega
     simp only [List.append_assoc]
     rw [List.drop_append_of_le_length (by rw [List.length_take]; omega), List.drop_take, show o + l.length - o = l.length by omega, ← List.append_assoc]
     rw [List.take_append_of_le_length (by rw [List.length_append, List.length_take, List.length_drop, flatI_len, hnl]; omega)]
     rw [List.take_of_length_le (by rw [List.length_append, List.length_take, List.length_drop, flatI_len, hnl]; omega)]
   ·have holds : ∀ j u, (l.flatMap encI)[j]? = some u → w.cell? ((⟨g, o, none⟩ : Addr).add j) = some u := by
     intro j u hu
     have hadd : (⟨g, o, none⟩ : Addr).add j = ⟨g, o + j, none⟩ := by unfold Addr.add; split <;> simp_all
     rw [hadd]
     rw [← h4, List.getElem?_take] at hu
     split at hu
     ·rw [List.getElem?_drop] at hu
      have : cur[o + j]? = some u := by simpa using hu
      simp [World.cell?, hg, this]
     ·cases hu
    have hr := run_append_grow (P := P) w t ty e i z ht hi hz0 ⟨g, o, none⟩ l.length cap (l.flatMap encI) (by rw [flatI_len, hz1, Nat.mul_one]) holds ad n c (news.flatMap encI) hfl hcells (by omega) (by omega) (growslice_fits (by omega) (by rw [hz2]; omega))
    exact ⟨_, _, hr, fresh cap (by omega), (hex _).mono fun k hk => hk.1, (hex _).mono fun k (hk : k < base) => by show k < w.heap.size; omega, .inr rfl⟩
end
end Go.Proofs.YtofmcalfbpjoeaaGreatDoor
