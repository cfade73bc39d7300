/- Shared texts. -/
import Derived.Test.YtlgdjigocopglaaGreatDoorRqABDE1
import Derived.Test.YtlgdjigocopglaaGreatDoorRqDEF1
set_option linter.unusedSimpArgs false
set_option linter.unusedVariables false

namespace Go.Proofs.YtlgdjigocopglaaGreatDoor
open Go.RowKit
section
variable {N : List Nd}
def Full (N : List Nd) (P : List Pr) (h : Nat) : Prop := exactL N P ∧ ∀ x ∈ N, (peerN P x.id).near = (List.range h).map (nearG N x)
end
namespace Lab
def partsL (ids : List Int) (E : List (Int × Int)) : Nat := ((List.range ids.length).filter fun i => (labsL ids E ids.length).getD i 0 == i).length
variable {ids : List Int} {E : List (Int × Int)}
theorem parts_le_one : partsL ids E ≤ 1 ↔ ∀ i j, i < ids.length → j < ids.length → Cn ids E i j := by
 have hp : partsL ids E = (List.range ids.length).countP fun i => (labsL ids E ids.length).getD i 0 == i := (List.countP_eq_length_filter).symm
 constructor
 ·intro h i j hi hj
  -- the labels of both are the only place that bears itself
  have root : ∀ k, k < ids.length → ∃ c, c < ids.length ∧ Cn ids E k c ∧ (labsL ids E ids.length).getD c 0 = c := by
   intro k
   induction k using Nat.strongRecOn with
   | ind k ih =>
    intro hk
    obtain ⟨h1, h2⟩ := (labs_ok (ids := ids) (E := E) ids.length).2 k hk
    by_cases he : (labsL ids E ids.length).getD k 0 = k
    ·exact ⟨k, hk, .refl _, he⟩
    ·obtain ⟨c, g1, g2, g3⟩ := ih ((labsL ids E ids.length).getD k 0) (by omega) (by omega)
     exact ⟨c, g1, h2.trans g2, g3⟩
  obtain ⟨a, a1, a2, a3⟩ := root i hi
  obtain ⟨b, b1, b2, b3⟩ := root j hj
  have hab : a = b := by
   apply Classical.byContradiction
   intro hne
   rw [hp] at h
   have hmem : ∀ {c}, c < ids.length → (labsL ids E ids.length).getD c 0 = c → c ∈ (List.range ids.length).filter fun i => (labsL ids E ids.length).getD i 0 == i := fun h1 h2 => List.mem_filter.2 ⟨by simpa using h1, by simpa using h2⟩
   have ha := hmem a1 a3
   have hb := hmem b1 b3
   rw [List.countP_eq_length_filter] at h
   match hl : (List.range ids.length).filter (fun i => (labsL ids E ids.length).getD i 0 == i), h, ha, hb with
   | [], _, ha, _ => cases ha
   | [z], _, ha, hb =>
    have e1 := List.mem_singleton.1 ha
    have e2 := List.mem_singleton.1 hb
    exact hne (e1.trans e2.symm)
   | _ :: _ :: _, h, _, _ => simp at h
  subst hab
  exact a2.trans b2.symm
 ·intro h
  rw [hp]
  rcases Nat.eq_zero_or_pos ids.length with h0 | h0
  ·rw [h0]; simp
  ·have hz : ∀ i, i < ids.length → ((labsL ids E ids.length).getD i 0 == i) = (i == 0) := by
    intro i hi
    have := conv (E := E) h0 hi (h 0 i h0 hi)
    rw [Bool.eq_iff_iff, beq_iff_eq, beq_iff_eq]
    omega
   have : ((List.range ids.length).countP fun i => (labsL ids E ids.length).getD i 0 == i) = (List.range ids.length).countP fun i => i == 0 := by
    refine List.countP_congr fun i hi => ?_
    rw [hz i (by simpa using hi)]
   rw [this]
   have : (List.range ids.length).countP (fun i => i == 0) = (List.range ids.length).count 0 := rfl
   rw [this]
   have hnd : (List.range ids.length).Nodup := List.nodup_range
   exact List.nodup_iff_count.1 hnd 0
end Lab
def pairsN (N : List Nd) (P : List Pr) : List (Int × Int) := N.flatMap fun x => (refsN N (peerN P x.id)).map fun v => (x.id, v)
def InE (N : List Nd) (E : List (Int × Int)) (u v : Int) : Prop := (u, v) ∈ E ∧ (∃ x ∈ N, x.id = u) ∧ ∃ y ∈ N, y.id = v
section
variable {N : List Nd} {E : List (Int × Int)}
theorem ids_get (h0 : checkN N = 0) {v : Int} {i : Nat} : (N.map Nd.id).findIdx? (· == v) = some i ↔ (N.map Nd.id)[i]? = some v := by
 have hk := check_keys h0
 constructor
 ·intro h
  obtain ⟨h1, h2, _⟩ := List.findIdx?_eq_some_iff_getElem.1 h
  rw [List.getElem?_eq_getElem h1]
  simpa using h2
 ·intro h
  obtain ⟨h1, h2⟩ := List.getElem?_eq_some_iff.1 h
  refine List.findIdx?_eq_some_iff_getElem.2 ⟨h1, by simpa using h2, fun j hj => ?_⟩
  have hjl : j < N.length := by simp at h1; omega
  have hil : i < N.length := by simpa using h1
  have := (hk i j N[i] N[j] hj (List.getElem?_eq_getElem hil) (List.getElem?_eq_getElem hjl)).2
  simp only [List.getElem_map, beq_iff_eq] at h2 ⊢
  intro he
  exact this (h2.trans he.symm)
theorem ed_iff (h0 : checkN N = 0) {i j : Nat} {x y : Nd} (hx : N[i]? = some x) (hy : N[j]? = some y) : Lab.Ed (N.map Nd.id) E i j ↔ InE N E x.id y.id := by
 have hx' : (N.map Nd.id)[i]? = some x.id := by rw [List.getElem?_map, hx]; rfl
 have hy' : (N.map Nd.id)[j]? = some y.id := by rw [List.getElem?_map, hy]; rfl
 constructor
 ·rintro ⟨q, hq, h1, h2⟩
  have e1 := (ids_get h0).1 h1
  have e2 := (ids_get h0).1 h2
  rw [hx'] at e1
  rw [hy'] at e2
  cases q
  simp only [Option.some.injEq] at e1 e2
  subst e1 e2
  exact ⟨hq, ⟨x, List.mem_of_getElem? hx, rfl⟩, y, List.mem_of_getElem? hy, rfl⟩
 ·rintro ⟨h, _, _⟩
  exact ⟨_, h, (ids_get h0).2 hx', (ids_get h0).2 hy'⟩
theorem node_get {i : Nat} (hi : i < (N.map Nd.id).length) : ∃ x, N[i]? = some x := ⟨N[i]'(by simpa using hi), by simp⟩
theorem cn_cl (h0 : checkN N = 0) {i j : Nat} (h : Lab.Cn (N.map Nd.id) E i j) : ∀ {x y : Nd}, N[i]? = some x → N[j]? = some y → Cl (InE N E) x.id y.id := by
 induction h with
 | refl i => intro x y hx hy; rw [hx] at hy; cases hy; exact .refl _
 | step h1 g ih =>
  rename_i i k j
  intro x y hx hy
  obtain ⟨z, hz⟩ : ∃ z, N[k]? = some z := node_get (by rcases h1 with h | h; exact (Lab.ed_lt h).2; exact (Lab.ed_lt h).1)
  exact (Cl.one (h1.imp (ed_iff h0 hx hz).1 (ed_iff h0 hz hx).1)).trans (ih hz hy)
theorem cl_cn (h0 : checkN N = 0) {u v : Int} (h : Cl (InE N E) u v) : ∀ {i j : Nat} {x y : Nd}, N[i]? = some x → N[j]? = some y → x.id = u → y.id = v → Lab.Cn (N.map Nd.id) E i j := by
 induction h with
 | refl u =>
  intro i j x y hx hy h1 h2
  have e1 : (N.map Nd.id)[i]? = some u := by rw [List.getElem?_map, hx, ← h1]; rfl
  have e2 : (N.map Nd.id)[j]? = some u := by rw [List.getElem?_map, hy, ← h2]; rfl
  have := (ids_get h0).2 e1
  rw [(ids_get h0).2 e2] at this
  cases this
  exact .refl _
 | step h1 g ih =>
  rename_i u c v
  intro i j x y hx hy hxu hyv
  obtain ⟨z, hz, hzc⟩ : ∃ z ∈ N, z.id = c := by
   rcases h1 with h | h
   ·exact h.2.2
   ·exact h.2.1
  obtain ⟨k, hk⟩ := List.mem_iff_getElem?.1 hz
  rw [← hxu, ← hzc] at h1
  exact (Lab.Cn.one (h1.imp (ed_iff h0 hx hk).2 (ed_iff h0 hk hx).2)).trans (ih hk hy hzc hyv)
theorem joined_iff (h0 : checkN N = 0) : Lab.partsL (N.map Nd.id) E ≤ 1 ↔ ∀ x ∈ N, ∀ y ∈ N, Cl (InE N E) x.id y.id := by
 rw [Lab.parts_le_one]
 constructor
 ·intro h x hx y hy
  obtain ⟨i, hi⟩ := List.mem_iff_getElem?.1 hx
  obtain ⟨j, hj⟩ := List.mem_iff_getElem?.1 hy
  have li := (List.getElem?_eq_some_iff.1 hi).1
  have lj := (List.getElem?_eq_some_iff.1 hj).1
  exact cn_cl h0 (h i j (by simpa using li) (by simpa using lj)) hi hj
 ·intro h i j hi hj
  obtain ⟨x, hx⟩ := node_get hi
  obtain ⟨y, hy⟩ := node_get hj
  exact cl_cn h0 (h x (List.mem_of_getElem? hx) y (List.mem_of_getElem? hy)) hx hy rfl rfl
theorem pairs_in {P : List Pr} (h0 : checkN N = 0) {u v : Int} : InE N (pairsN N P) u v ↔ EdgeN N P u v := by
 unfold InE pairsN
 simp only [List.mem_flatMap, List.mem_map, Prod.mk.injEq]
 constructor
 ·rintro ⟨⟨x, hx, w, hw, rfl, rfl⟩, _, _⟩
  exact ⟨⟨x, hx, rfl⟩, hw⟩
 ·rintro ⟨⟨x, hx, rfl⟩, hv⟩
  exact ⟨⟨x, hx, v, hv, rfl, rfl⟩, ⟨x, hx, rfl⟩, ((mem_refs h0).1 hv).1⟩
theorem conn_iff {P : List Pr} (h0 : checkN N = 0) : Lab.partsL (N.map Nd.id) (pairsN N P) ≤ 1 ↔ ConnN N P := by
 rw [joined_iff h0]
 constructor
 ·intro h
  exact ⟨h0, fun x hx y hy => (h x hx y hy).mono (fun a b hab => .one (.inl ((pairs_in h0).1 hab)))⟩
 ·rintro ⟨_, h⟩ x hx y hy
  exact (h x hx y hy).mono (fun a b hab => .one (.inl ((pairs_in h0).2 hab)))
def connB (N : List Nd) (P : List Pr) : Bool := checkN N == 0 && decide (Lab.partsL (N.map Nd.id) (pairsN N P) ≤ 1)
theorem connB_iff {P : List Pr} : connB N P = true ↔ ConnN N P := by
 unfold connB
 rw [Bool.and_eq_true, beq_iff_eq, decide_eq_true_eq]
 constructor
 ·rintro ⟨h1, h2⟩; exact (conn_iff h1).1 h2
 ·intro h; exact ⟨h.1, (conn_iff h.1).2 h⟩
theorem met_conn {P : List Pr} (h0 : checkN N = 0) {M : List Int} {s : Nd} (hs : s ∈ N) (hsM : s.id ∈ M) (hnd : M.Nodup) (hM : ∀ v ∈ M, Cl (EdgeN N P) s.id v) (hcl : ∀ u ∈ M, ∀ v, (EdgeN N P u v ∨ EdgeN N P v u) → v ∈ M) :
  (M.length = N.length ↔ ConnN N P) := by
 have hsub : ∀ v ∈ M, v ∈ N.map Nd.id := by
  intro v hv
  have key : ∀ {a b : Int}, Cl (EdgeN N P) a b → a ∈ N.map Nd.id → b ∈ N.map Nd.id := by
   intro a b h
   induction h with
   | refl _ => exact fun h => h
   | step h1 _ ih =>
    intro _
    refine ih ?_
    rcases h1 with h | h
    ·obtain ⟨_, y, hy, he⟩ := edge_node h0 h; exact List.mem_map.2 ⟨y, hy, he⟩
    ·obtain ⟨⟨x, hx, he⟩, _⟩ := edge_node h0 h; exact List.mem_map.2 ⟨x, hx, he⟩
  exact key (hM v hv) (List.mem_map.2 ⟨s, hs, rfl⟩)
 have hndN : (N.map Nd.id).Nodup := by
  have := keys_pw (check_keys h0)
  exact List.Pairwise.map _ (fun a b h => h) (this.imp (fun h => h.2))
 have hall : ∀ {a b : Int}, Cl (EdgeN N P) a b → a ∈ M → b ∈ M := by
  intro a b h
  induction h with
  | refl _ => exact fun h => h
  | step h1 _ ih => exact fun ha => ih (hcl _ ha _ h1)
 constructor
 ·intro hl
  refine ⟨h0, fun x hx y hy => ?_⟩
  have hin : ∀ v ∈ N.map Nd.id, v ∈ M := by
   intro v hv
   apply Classical.byContradiction
   intro hn
   have hle : (v :: M).length ≤ (N.map Nd.id).length := by
    refine (List.nodup_cons.2 ⟨hn, hnd⟩).length_le_of_subset ?_
    intro u hu
    rcases List.mem_cons.1 hu with rfl | hu
    ·exact hv
    ·exact hsub u hu
   simp at hle
   omega
  exact (hM _ (hin _ (List.mem_map.2 ⟨x, hx, rfl⟩))).symm.trans (hM _ (hin _ (List.mem_map.2 ⟨y, hy, rfl⟩)))
 ·rintro ⟨_, h⟩
  have h1 : M.length ≤ (N.map Nd.id).length := hnd.length_le_of_subset (fun v hv => hsub v hv)
  have h2 : (N.map Nd.id).length ≤ M.length := hndN.length_le_of_subset (fun v hv => by
   obtain ⟨y, hy, rfl⟩ := List.mem_map.1 hv
   exact hall (h s hs y hy) hsM)
  simp at h1 h2
  omega
end
end Go.Proofs.YtlgdjigocopglaaGreatDoor
namespace Go.Proofs.YtlgdjigocopglaaGreatDoor
open Go.RowKit Go.Maps
open Go.ChangeMaps Go.MapKept
open Go.WideElems (Fit findIdx_born findIdx_arr modify_last set_self)
section
variable {P : Program} {k e t : TypeId} {w w' : World} {b n : Nat} {f : Int → Value}
theorem RawM.entry (h : RawM P k w b n f) (hk : P.underlying k = some (.int .i64)) (ht : P.underlying t = some (.map k e)) (hz : ∀ u : World, (zeroValue e).run P u = .ok nilS u) (hn : n < 100000000) {v : Int} (hv : (Lit.int .i64 v).wf = true) :
  ∃ (v0 : Value) (st : Nat) (w1 : World), (Instr.mapEntry t (.map (some b)) (.int .i64 v)).run P w = .ok (.tuple #[v0, goInt st]) w1 ∧ Exb b w w1 ∧ w1.heap.size = w.heap.size ∧
   ∀ (w2 : World) (u : Value), w2.heap[b]? = w1.heap[b]? → ∃ w3, (Instr.entryStore t (.map (some b)) (goInt st) u).run P w2 = .ok () w3 ∧ RawM P k w3 b (n + 1) (upd f v u) ∧ Exb b w2 w3 ∧ w3.heap.size = w2.heap.size := by
 have K := int_keyed (P := P) hk
 have hkey := keyOf_int_mk (P := P) hk hv
 obtain ⟨D, ⟨es, clock, hb, F, hs, hD⟩, hf⟩ := h
 have hM : RawM P k w b n f := ⟨D, ⟨es, clock, hb, F, hs, hD⟩, hf⟩
 obtain ⟨s1, s2, _⟩ := F.stamped
 have fin : ∀ (es1 : Array MapEntry) (c1 : Nat) (w2 : World) (u : Value) (es' : Array MapEntry) (c' : Nat), (setBlock w b (.map es1 c1)).heap[b]? = w2.heap[b]? →
   (Instr.mapUpdate t (.map (some b)) (.int .i64 v) u).run P w = .ok () (setBlock w b (.map es' c')) → RawM P k (setBlock w2 b (.map es' c')) b (n + 1) (upd f v u) ∧ Exb b w2 (setBlock w2 b (.map es' c')) ∧ (setBlock w2 b (.map es' c')).heap.size = w2.heap.size := by
  intro es1 c1 w2 u es' c' hw2 hrun
  obtain ⟨w', hrun', hM', _, _⟩ := hM.put hk ht hn hv u
  rw [hrun] at hrun'
  cases hrun'
  have h2 : w2.heap[b]? = some (.map es1 c1) := hw2.symm.trans (heap_setBlock_same hb _)
  refine ⟨hM'.same ((heap_setBlock_same h2 _).trans (heap_setBlock_same hb _).symm), turned_exb ⟨es1, c1, es', c', h2, rfl⟩, by simp [setBlock]⟩
 rcases K.find w hkey es.toList F.keys with ⟨h1, h2⟩ | ⟨j, e0, h1, h2, h3⟩
 ·refine ⟨nilS, clock, setBlock w b (.map (es.push ⟨.int .i64 v, nilS, clock⟩) (clock + 1)), ?_, turned_exb ⟨es, clock, _, _, hb, rfl⟩, by simp [setBlock], fun w2 u hw2 => ⟨setBlock w2 b (.map (es.push ⟨.int .i64 v, u, clock⟩) (clock + 1)), ?_, fin _ _ w2 u _ _ hw2.symm ?_⟩⟩
  ·simp [Instr.mapEntry, run_underlying ht, MapKept.run_getObj_map hb, K.check w false hkey, h1, hz, MapKept.run_setObj_map _ hb, Result.andThen, setBlock]
  ·have hw2 : w2.heap[b]? = some (.map (es.push ⟨.int .i64 v, nilS, clock⟩) (clock + 1)) := hw2.trans (heap_setBlock_same hb _)
   have hidx : (es.push ⟨.int .i64 v, nilS, clock⟩).findIdx? (fun e => ((e.born : Nat) : Int) == ((clock : Nat) : Int)) = some es.size := by
    rw [findIdx_arr]
    refine findIdx_born (l := (es.push ⟨.int .i64 v, nilS, clock⟩).toList) (j := es.size) (e0 := ⟨.int .i64 v, nilS, clock⟩) ?_ (by simp)
    simp only [Array.toList_push, List.map_append, List.map_cons, List.map_nil]
    refine List.nodup_append.2 ⟨s2, by simp, fun a ha c hc e1 => ?_⟩
    simp only [List.mem_singleton] at hc
    obtain ⟨x, hx, rfl⟩ := List.mem_map.1 ha
    have := s1 x hx
    omega
   have hmod : (es.push ⟨.int .i64 v, nilS, clock⟩).modify es.size (fun e => { e with val := u }) = es.push ⟨.int .i64 v, u, clock⟩ := by
    apply Array.ext'
    rw [Array.toList_modify, Array.toList_push, Array.toList_push, ← Array.length_toList, modify_last]
   simp [Instr.entryStore, MapKept.run_getObj_map hw2, asInt, asIntOf, goInt, hidx, hmod, MapKept.run_setObj_map _ hw2, Result.andThen, setBlock]
  ·simp [Instr.mapUpdate, run_underlying ht, MapKept.run_getObj_map hb, K.check w false hkey, h1, MapKept.run_setObj_map _ hb, Result.andThen, setBlock]
 ·have hj : es[j]? = some e0 := by simpa using h2
  have hsame : es.modify j (fun e => { e with key := .int .i64 v }) = es := by
   apply Array.ext'
   rw [Array.toList_modify, modify_eq_set _ _ _ _ h2]
   have : ({ e0 with key := .int .i64 v } : MapEntry) = e0 := by rw [← h3]
   rw [this]
   exact set_self _ _ _ h2
  refine ⟨e0.val, e0.born, setBlock w b (.map es clock), ?_, turned_exb ⟨es, clock, _, _, hb, rfl⟩, by simp [setBlock], fun w2 u hw2 => ⟨setBlock w2 b (.map (es.modify j (fun e' => { e' with key := .int .i64 v, val := u })) clock), ?_, fin _ _ w2 u _ _ hw2.symm ?_⟩⟩
  ·simp [Instr.mapEntry, run_underlying ht, MapKept.run_getObj_map hb, K.check w false hkey, h1, hj, h3, K.stays w hkey, hsame, MapKept.run_setObj_map _ hb, Result.andThen, setBlock]
  ·have hw2 : w2.heap[b]? = some (.map es clock) := hw2.trans (heap_setBlock_same hb _)
   have hidx : es.findIdx? (fun e => ((e.born : Nat) : Int) == ((e0.born : Nat) : Int)) = some j := by
    rw [findIdx_arr]
    exact findIdx_born s2 h2
   have hmod : es.modify j (fun e => { e with val := u }) = es.modify j (fun e' => { e' with key := .int .i64 v, val := u }) := by
    apply Array.ext'
    rw [Array.toList_modify, Array.toList_modify, modify_eq_set _ _ _ _ h2, modify_eq_set _ _ _ _ h2, ← h3]
   simp [Instr.entryStore, MapKept.run_getObj_map hw2, asInt, asIntOf, goInt, hidx, hmod, MapKept.run_setObj_map _ hw2, Result.andThen, setBlock]
  ·simp [Instr.mapUpdate, run_underlying ht, MapKept.run_getObj_map hb, K.check w false hkey, h1, hj, h3, K.stays w hkey, MapKept.run_setObj_map _ hb, Result.andThen, setBlock]
end
section
variable {e : TypeId} {base : Nat} {w w' : World} {v : Value} {l : List Int}
theorem QuL.ofL (h : OwnL 1 encI e base w v l) : QuL e base w v l := by
 rcases h.2 with ⟨h1, h2⟩ | ⟨g, cap, cur, h1, h2, h3, h4, h5, h6, h7⟩
 ·exact .inl ⟨h1, List.eq_nil_of_length_eq_zero h2⟩
 ·exact .inr ⟨g, 0, cap, cur, h1, h2, h3, h4, h5, by omega, by simpa using h7⟩
theorem QuL.front {x : Int} (h : QuL e base w v (x :: l)) : ∃ g o cap, v = .slice (some ⟨g, o, none⟩) (l.length + 1) cap ∧ g < w.heap.size ∧ base ≤ g ∧ 1 ≤ cap ∧ l.length + 1 ≤ cap ∧ w.cell? ⟨g, o, none⟩ = some (.int .i64 x) ∧
  QuL e base w (.slice (some (if cap = 1 then ⟨g, o, none⟩ else ⟨g, o + 1, none⟩)) l.length (cap - 1)) l := by
 rcases h with ⟨_, h⟩ | ⟨g, o, cap, cur, rfl, hb, hg, h1, h2, h3, h4⟩
 ·cases h
 ·have h1' : l.length + 1 ≤ cap := by simpa using h1
  have hc : cur.toList[o]? = some (.int .i64 x) := by
   have := congrArg (fun L : List Value => L[0]?) h4
   simpa [List.getElem?_take, List.getElem?_drop, encI] using this
  refine ⟨g, o, cap, by simp, heap_lt hg, hb, by omega, h1', ?_, ?_⟩
  ·have : cur[o]? = some (.int .i64 x) := by simpa using hc
   simp [World.cell?, hg, this]
  ·have h5 : (cur.toList.drop (o + 1)).take l.length = l.flatMap encI := by
    have hd : cur.toList.drop o = .int .i64 x :: cur.toList.drop (o + 1) := by
     obtain ⟨hlt, he⟩ := List.getElem?_eq_some_iff.1 hc
     rw [List.drop_eq_getElem_cons hlt, he]
    rw [hd, List.length_cons, List.take_succ_cons, List.flatMap_cons] at h4
    exact (List.cons.inj h4).2
   by_cases hcap : cap = 1
   ·have hl0 : l = [] := List.eq_nil_of_length_eq_zero (by omega)
    subst hl0
    rw [if_pos hcap]
    exact .inr ⟨g, o, cap - 1, cur, by simp, hb, hg, by simp, by omega, by omega, by simp⟩
   ·rw [if_neg hcap]
    exact .inr ⟨g, o + 1, cap - 1, cur, by simp, hb, hg, by omega, by omega, by omega, h5⟩
end
section
variable {P : Program} {k e : TypeId} {base : Nat} {w w' : World} {b n : Nat} {f : Int → Value} {J : Int → List Int}
def grp2 (J : Int → List Int) (x y : Int) : Int → List Int := fun v => if v = y then J y ++ [x] else if v = x then J x ++ [y] else J v
theorem GrpM.two (h : GrpM P k e base w b n f J) {x y : Int} (hxy : x ≠ y) {w1 w2 w3 : World} {a' c' : Value} {n' : Nat}
  (A : OwnL 1 encI e base w1 a' (J x ++ [y])) (k1 : Chg (fun k => k < w.heap.size ∧ ¬ (f x).ownBlock = some k) w w1) (la : ∀ g, a'.ownBlock = some g → (f x).ownBlock = some g ∨ w.heap.size ≤ g)
  (C : OwnL 1 encI e base w2 c' (J y ++ [x])) (k2 : Chg (fun k => k < w1.heap.size ∧ ¬ (f y).ownBlock = some k) w1 w2) (lc : ∀ g, c'.ownBlock = some g → (f y).ownBlock = some g ∨ w1.heap.size ≤ g)
  (k3 : Exb b w2 w3) (R : RawM P k w3 b n' (upd (upd f x a') y c')) : GrpM P k e base w3 b n' (upd (upd f x a') y c') (grp2 J x y) := by
 obtain ⟨h1, hb, hs, hO, hd⟩ := h
 have s1 := k1.size
 have s2 := k2.size
 have s3 := k3.size
 have A2 : OwnL 1 encI e base w2 a' (J x ++ [y]) := A.chg k2 fun g hg hv => ⟨hg, fun hy => by
  rcases la g hv with h2 | h2
  ·exact hd x y g hxy h2 hy
  ·have := ((hO y).lt g hy).2; omega⟩
 have blk : ∀ v g, v ≠ x → v ≠ y → (f v).ownBlock = some g → g < w.heap.size := fun v g _ _ hv => ((hO v).lt g hv).2
 refine ⟨R, hb, by omega, fun v => ?_, fun v v' g hne hv hv' => ?_⟩
 ·unfold upd grp2
  by_cases hvy : v = y
  ·rw [if_pos hvy, if_pos hvy]
   exact C.nxb hb k3
  ·rw [if_neg hvy, if_neg hvy]
   by_cases hvx : v = x
   ·rw [if_pos hvx, if_pos hvx]
    exact A2.nxb hb k3
   ·rw [if_neg hvx, if_neg hvx]
    have O1 : OwnL 1 encI e base w1 (f v) (J v) := (hO v).chg k1 fun g hg hv => ⟨hg, hd v x g hvx hv⟩
    have O2 : OwnL 1 encI e base w2 (f v) (J v) := O1.chg k2 fun g hg hv => ⟨hg, hd v y g hvy hv⟩
    exact O2.nxb hb k3
 ·unfold upd at hv hv'
  have ca : ∀ g, a'.ownBlock = some g → c'.ownBlock = some g → False := by
   intro g ha hc
   rcases la g ha with h2 | h2
   ·rcases lc g hc with h3 | h3
    ·exact hd x y g hxy h2 h3
    ·have := ((hO x).lt g h2).2; omega
   ·rcases lc g hc with h3 | h3
    ·have := ((hO y).lt g h3).2; omega
    ·have := (A.lt g ha).2; omega
  have ov : ∀ u g, u ≠ x → u ≠ y → (f u).ownBlock = some g → ¬ a'.ownBlock = some g ∧ ¬ c'.ownBlock = some g := by
   intro u g hux huy hu
   refine ⟨fun ha => ?_, fun hc => ?_⟩
   ·rcases la g ha with h2 | h2
    ·exact hd u x g hux hu h2
    ·have := ((hO u).lt g hu).2; omega
   ·rcases lc g hc with h2 | h2
    ·exact hd u y g huy hu h2
    ·have := ((hO u).lt g hu).2; omega
  by_cases hvy : v = y
  ·rw [if_pos hvy] at hv
   rw [if_neg (by omega)] at hv'
   by_cases hvx' : v' = x
   ·rw [if_pos hvx'] at hv'; exact ca g hv' hv
   ·rw [if_neg hvx'] at hv'; exact (ov v' g hvx' (by omega) hv').2 hv
  ·rw [if_neg hvy] at hv
   by_cases hvx : v = x
   ·rw [if_pos hvx] at hv
    by_cases hvy' : v' = y
    ·rw [if_pos hvy'] at hv'; exact ca g hv hv'
    ·rw [if_neg hvy', if_neg (by omega)] at hv'; exact (ov v' g (by omega) hvy' hv').1 hv
   ·rw [if_neg hvx] at hv
    by_cases hvy' : v' = y
    ·rw [if_pos hvy'] at hv'; exact (ov v g hvx hvy hv).2 hv'
    ·rw [if_neg hvy'] at hv'
     by_cases hvx' : v' = x
     ·rw [if_pos hvx'] at hv'; exact (ov v g hvx hvy hv).1 hv'
     ·rw [if_neg hvx'] at hv'; exact hd v v' g hne hv hv'
end
def jOf (E : List (Int × Int)) : Int → List Int := E.foldl (fun J q => grp2 J q.1 q.2) (fun _ => [])
theorem jOf_snoc (E : List (Int × Int)) (q : Int × Int) : jOf (E ++ [q]) = grp2 (jOf E) q.1 q.2 := by unfold jOf; rw [List.foldl_append]; rfl
theorem jOf_law : ∀ (n : Nat) (E : List (Int × Int)), E.length = n → (∀ q ∈ E, q.1 ≠ q.2) → ∀ u, (jOf E u).length ≤ E.length ∧ ∀ v, v ∈ jOf E u ↔ (u, v) ∈ E ∨ (v, u) ∈ E
 | 0, E, h, _, u => by
  rw [List.length_eq_zero_iff.1 h]
  simp [jOf]
 | n + 1, E, h, hne, u => by
  rcases List.eq_nil_or_concat E with rfl | ⟨E', q, rfl⟩
  ·cases h
  ·rw [List.concat_eq_append] at h hne ⊢
   obtain ⟨q1, q2⟩ := q
   obtain ⟨h1, h2⟩ := jOf_law n E' (by simpa using h) (fun q hq => hne q (by simp [hq])) u
   have hq : q1 ≠ q2 := hne (q1, q2) (by simp)
   rw [jOf_snoc]
   unfold grp2
   refine ⟨?_, fun v => ?_⟩
   ·by_cases ha : u = q2
    ·rw [if_pos ha, ← ha]; simp; omega
    ·rw [if_neg ha]
     by_cases hb : u = q1
     ·rw [if_pos hb, ← hb]; simp; omega
     ·rw [if_neg hb]; simp; omega
   ·by_cases ha : u = q2
    ·rw [if_pos ha, ← ha]
     simp only [List.mem_append, List.mem_singleton, h2, Prod.mk.injEq]
     constructor
     ·rintro ((h | h) | h)
      ·exact .inl (.inl h)
      ·exact .inr (.inl h)
      ·exact .inr (.inr ⟨h, trivial⟩)
     ·rintro ((h | h) | (h | h))
      ·exact .inl (.inl h)
      ·exact absurd (h.1.symm.trans ha) hq
      ·exact .inl (.inr h)
      ·exact .inr h.1
    ·rw [if_neg ha]
     by_cases hb : u = q1
     ·rw [if_pos hb, ← hb]
      simp only [List.mem_append, List.mem_singleton, h2, Prod.mk.injEq]
      constructor
      ·rintro ((h | h) | h)
       ·exact .inl (.inl h)
       ·exact .inr (.inl h)
       ·exact .inl (.inr ⟨trivial, h⟩)
      ·rintro ((h | h) | (h | h))
       ·exact .inl (.inl h)
       ·exact .inr h.2
       ·exact .inl (.inr h)
       ·exact absurd h.2 ha
     ·rw [if_neg hb]
      simp only [List.mem_append, List.mem_singleton, h2, Prod.mk.injEq]
      constructor
      ·rintro (h | h)
       ·exact .inl (.inl h)
       ·exact .inr (.inl h)
      ·rintro ((h | h) | (h | h))
       ·exact .inl h
       ·exact absurd h.1 hb
       ·exact .inr h
       ·exact absurd h.2 ha
section
variable {N : List Nd} {P : List Pr} {J : Int → List Int} {M T : List Int}
theorem pairs_ne (h0 : checkN N = 0) {q : Int × Int} (hq : q ∈ pairsN N P) : q.1 ≠ q.2 := by
 unfold pairsN at hq
 obtain ⟨x, hx, hq⟩ := List.mem_flatMap.1 hq
 obtain ⟨v, hv, rfl⟩ := List.mem_map.1 hq
 have := ((mem_refs h0).1 hv).2.1
 rw [peer_id] at this
 exact fun h => this h.symm
theorem refs_len (h0 : checkN N = 0) (p : Pr) : (refsN N p).length ≤ N.length := by
 unfold refsN
 rw [if_pos h0]
 unfold ordN
 rw [List.length_map]
 have := List.length_filter_le (fun x => !(x.id == p.id) && (numsP p).contains x.id) (sortN N)
 rwa [sortN_length] at this
theorem pairs_len (h0 : checkN N = 0) : ∀ L : List Nd, (L.flatMap fun x => (refsN N (peerN P x.id)).map fun v => (x.id, v)).length ≤ L.length * N.length
 | [] => by simp
 | x :: L => by
  have := pairs_len h0 L
  have := refs_len h0 (peerN P x.id)
  rw [List.flatMap_cons, List.length_append, List.length_map, List.length_cons, Nat.succ_mul]
  omega
theorem joined_law (h0 : checkN N = 0) {u v : Int} : v ∈ jOf (pairsN N P) u ↔ EdgeN N P u v ∨ EdgeN N P v u := by
 rw [(jOf_law _ _ rfl (fun q hq => pairs_ne h0 hq) u).2 v]
 have key : ∀ a b, (a, b) ∈ pairsN N P ↔ EdgeN N P a b := by
  intro a b
  rw [← pairs_in h0]
  constructor
  ·intro h
   refine ⟨h, ?_⟩
   unfold pairsN at h
   obtain ⟨x, hx, hq⟩ := List.mem_flatMap.1 h
   obtain ⟨c, hc, he⟩ := List.mem_map.1 hq
   cases he
   exact ⟨⟨x, hx, rfl⟩, ((mem_refs h0).1 hc).1⟩
  ·exact fun h => h.1
 rw [key, key]
def Bfs (N : List Nd) (P : List Pr) (J : Int → List Int) (M T : List Int) : Prop :=
 M.Nodup ∧ (∀ v, v ∈ M ∨ v ∈ T → ∃ s, N.head? = some s ∧ Cl (EdgeN N P) s.id v) ∧ (∀ u ∈ M, ∀ v ∈ J u, v ∈ M ∨ v ∈ T) ∧ ∀ s, N.head? = some s → s.id ∈ M ∨ s.id ∈ T
def todoN (N : List Nd) (J : Int → List Int) (M T : List Int) : Nat := T.length + ((N.filter fun x => !(M.contains x.id)).map fun x => (J x.id).length).sum
theorem bfs_start : Bfs N P J [] (match N with | [] => [] | s :: _ => [s.id]) := by
 refine ⟨List.nodup_nil, fun v hv => ?_, (by simp), fun s hs => ?_⟩
 ·cases N with
  | nil => rcases hv with hv | hv <;> cases hv
  | cons s N =>
   rcases hv with hv | hv
   ·cases hv
   ·simp only [List.mem_singleton] at hv
    subst hv
    exact ⟨s, rfl, .refl _⟩
 ·cases N with
  | nil => cases hs
  | cons a N => cases hs; simp
theorem bfs_old {v : Int} (h : Bfs N P J M (v :: T)) (hv : v ∈ M) : Bfs N P J M T := by
 obtain ⟨h1, h2, h3, h4⟩ := h
 refine ⟨h1, fun u hu => h2 u (hu.imp id (fun h => List.mem_cons_of_mem _ h)), fun u hu x hx => ?_, fun s hs => ?_⟩
 ·rcases h3 u hu x hx with h | h
  ·exact .inl h
  ·rcases List.mem_cons.1 h with h | h
   ·subst h; exact .inl hv
   ·exact .inr h
 ·rcases h4 s hs with h | h
  ·exact .inl h
  ·rcases List.mem_cons.1 h with h | h
   ·rw [h]; exact .inl hv
   ·exact .inr h
theorem bfs_new (hJ : ∀ u v, v ∈ J u → EdgeN N P u v ∨ EdgeN N P v u) {v : Int} (h : Bfs N P J M (v :: T)) (hv : v ∉ M) : Bfs N P J (M ++ [v]) (T ++ J v) := by
 obtain ⟨h1, h2, h3, h4⟩ := h
 refine ⟨List.nodup_append.2 ⟨h1, by simp, fun a ha b hb => by simp only [List.mem_singleton] at hb; subst hb; exact fun e => hv (e ▸ ha)⟩, fun u hu => ?_, fun u hu x hx => ?_, fun s hs => ?_⟩
 ·have key : u ∈ M ∨ u ∈ v :: T ∨ u ∈ J v := by
   simp only [List.mem_append, List.mem_singleton] at hu
   rcases hu with (h | h) | (h | h)
   ·exact .inl h
   ·subst h; exact .inr (.inl (by simp))
   ·exact .inr (.inl (by simp [h]))
   ·exact .inr (.inr h)
  rcases key with h | h | h
  ·exact h2 u (.inl h)
  ·exact h2 u (.inr h)
  ·obtain ⟨s, hs, hc⟩ := h2 v (.inr (by simp))
   exact ⟨s, hs, hc.trans (Cl.one (hJ v u h))⟩
 ·simp only [List.mem_append, List.mem_singleton] at hu ⊢
  rcases hu with hu | hu
  ·rcases h3 u hu x hx with h | h
   ·exact .inl (.inl h)
   ·rcases List.mem_cons.1 h with h | h
    ·exact .inl (.inr h)
    ·exact .inr (.inl h)
  ·subst hu
   exact .inr (.inr hx)
 ·simp only [List.mem_append, List.mem_singleton]
  rcases h4 s hs with h | h
  ·exact .inl (.inl h)
  ·rcases List.mem_cons.1 h with h | h
   ·exact .inl (.inr h)
   ·exact .inr (.inl h)
theorem todo_new (h0 : checkN N = 0) {x : Nd} (hx : x ∈ N) (hv : x.id ∉ M) : todoN N J (M ++ [x.id]) (T ++ J x.id) + 1 = todoN N J M (x.id :: T) := by
 have key : ∀ L : List Nd, (L.Pairwise fun a b => a.id ≠ b.id) → x ∈ L →
   ((L.filter fun y => !((M ++ [x.id]).contains y.id)).map fun y => (J y.id).length).sum + (J x.id).length = ((L.filter fun y => !(M.contains y.id)).map fun y => (J y.id).length).sum := by
  intro L
  induction L with
  | nil => intro _ h; cases h
  | cons y L ih =>
   intro hp hxl
   rw [List.pairwise_cons] at hp
   rw [List.filter_cons, List.filter_cons]
   rcases List.mem_cons.1 hxl with rfl | hxl
   ·have h1 : (!((M ++ [x.id]).contains x.id)) = false := by simp
    have h2 : (!(M.contains x.id)) = true := by simpa using hv
    rw [h1, h2]
    simp only [if_true, Bool.false_eq_true, if_false, List.map_cons, List.sum_cons]
    have : (L.filter fun y => !((M ++ [x.id]).contains y.id)) = L.filter fun y => !(M.contains y.id) := by
     refine List.filter_congr fun y hy => ?_
     have := hp.1 y hy
     rw [Bool.eq_iff_iff]
     simp; exact fun _ h => this h.symm
    rw [this]
    omega
   ·have hne := hp.1 x hxl
    have h1 : (!((M ++ [x.id]).contains y.id)) = !(M.contains y.id) := by
     rw [Bool.eq_iff_iff]
     simp [hne]
    rw [h1]
    have := ih hp.2 hxl
    split
    ·simp only [List.map_cons, List.sum_cons]; omega
    ·exact this
 have hp : N.Pairwise fun a b => a.id ≠ b.id := (keys_pw (check_keys h0)).imp (fun h => h.2)
 have := key N hp hx
 unfold todoN
 simp only [List.length_append, List.length_cons]
 omega
theorem bfs_node (h0 : checkN N = 0) (h : Bfs N P J M T) {v : Int} (hv : v ∈ M ∨ v ∈ T) : ∃ x ∈ N, x.id = v := by
 obtain ⟨s, hs, hc⟩ := h.2.1 v hv
 have hsN : s ∈ N := List.mem_of_mem_head? hs
 cases hc.symm with
 | refl => exact ⟨s, hsN, rfl⟩
 | step e _ =>
  rcases e with e | e
  ·exact e.1
  ·exact (edge_node h0 e).2
theorem bfs_len (h0 : checkN N = 0) (h : Bfs N P J M T) : M.length ≤ N.length := by
 have hsub : ∀ v ∈ M, v ∈ N.map Nd.id := fun v hv => by
  obtain ⟨x, hx, rfl⟩ := bfs_node h0 h (.inl hv)
  exact List.mem_map.2 ⟨x, hx, rfl⟩
 have := h.1.length_le_of_subset (l₂ := N.map Nd.id) (fun v hv => hsub v hv)
 simpa using this
theorem bfs_end (h0 : checkN N = 0) (hJ : ∀ u v, v ∈ J u ↔ EdgeN N P u v ∨ EdgeN N P v u) (h : Bfs N P J M []) : M.length = N.length ↔ ConnN N P := by
 cases N with
 | nil =>
  have := bfs_len h0 h
  simp only [List.length_nil, Nat.le_zero] at this
  simp only [this, List.length_nil, true_iff]
  exact ⟨h0, by simp⟩
 | cons s N =>
  have hs : s.id ∈ M := by
   rcases h.2.2.2 s rfl with h | h
   ·exact h
   ·cases h
  refine met_conn h0 (s := s) (by simp) hs h.1 (fun v hv => ?_) (fun u hu v e => ?_)
  ·obtain ⟨s', hs', hc⟩ := h.2.1 v (.inl hv)
   cases hs'
   exact hc
  ·rcases h.2.2.1 u hu v ((hJ u v).2 e) with h | h
   ·exact h
   ·cases h
theorem conn_bool (h0 : checkN N = 0) (hJ : ∀ u v, v ∈ J u ↔ EdgeN N P u v ∨ EdgeN N P v u) (h : Bfs N P J M []) : decide ((M.length : Int) = N.length) = connB N P := by
 rw [Bool.eq_iff_iff, connB_iff, ← bfs_end h0 hJ h, decide_eq_true_eq]
 omega
end
end Go.Proofs.YtlgdjigocopglaaGreatDoor
namespace Go.Proofs.YtlgdjigocopglaaGreatDoor
open Go.RowKit Go.Maps
set_option maxHeartbeats 1000000 in
theorem conn1_p (gx : Nat) (x : Nd) (w : World) (hx : Blk w gx [.int .i64 x.id, .string x.key, .int .u32 x.word] 56) : PredI 70 #[.pointer (some ⟨gx, 0, none⟩)] x.id w := by
 intro p h1 h2 w' kk
 have q0 := (hx.nx kk).cell 0 _ rfl
 have hg := (hx.nx kk).lt
 have hne : ¬ gx = w'.heap.size := by omega
 obtain ⟨a1, n1, c1⟩ := h1
 obtain ⟨a2, n2, c2⟩ := h2
 simp only [Hdr.val]
 clear hx kk
 go_enter Tryz.func70, Tryz.ntmps70
 go_wp2
 go_ret
 exact ⟨rfl, (Ex.refl _).alloc _⟩
end Go.Proofs.YtlgdjigocopglaaGreatDoor
namespace Go.Proofs.YtlgdjigocopglaaGreatDoor
open Go.RowKit Go.Maps
section
variable {β lo hi bm : Nat} {w6 wr w9 : World} {f : Int → Value}
end
theorem AccM.two {β lo hi bm : Nat} {w6 wp w1 w2 w3 : World} {f : Int → Value} {x y : Int} {va vc : Value} (h : AccM β lo hi bm w6 wp f) (hb : ∀ v g, (f v).ownBlock = some g → β ≤ g)
  (k1 : Chg (fun k => k < wp.heap.size ∧ ¬ (f x).ownBlock = some k) wp w1) (la : ∀ g, va.ownBlock = some g → (f x).ownBlock = some g ∨ wp.heap.size ≤ g)
  (k2 : Chg (fun k => k < w1.heap.size ∧ ¬ (f y).ownBlock = some k) w1 w2) (lc : ∀ g, vc.ownBlock = some g → (f y).ownBlock = some g ∨ w1.heap.size ≤ g) (k3 : Exb bm w2 w3) : AccM β lo hi bm w6 w3 (upd (upd f x va) y vc) := by
 have s1 := k1.size
 have s2 := k2.size
 have s3 := k3.size
 have hs := h.2.1
 have key : ∀ v k, k < hi ∧ k ≠ bm ∧ (k < β ∨ lo ≤ k) → ¬ (f v).ownBlock = some k := fun v k hk hv => by
  have h1 := hb v k hv
  have h2 := h.2.2 v k hv
  omega
 refine ⟨h.1.trans ((k1.mono fun k hk => ⟨by omega, key x k hk⟩).trans ((k2.mono fun k hk => ⟨by omega, key y k hk⟩).trans (Chg.mono k3 fun k hk => ⟨by omega, hk.2.1⟩))), by omega, fun v g hv => ?_⟩
 unfold upd at hv
 by_cases h1 : v = y
 ·rw [if_pos h1] at hv
  rcases lc g hv with h2 | h2
  ·exact h.2.2 y g h2
  ·omega
 ·rw [if_neg h1] at hv
  by_cases h3 : v = x
  ·rw [if_pos h3] at hv
   rcases la g hv with h2 | h2
   ·exact h.2.2 x g h2
   ·omega
  ·rw [if_neg h3] at hv
   exact h.2.2 v g hv
def prsU (N : List Nd) (P : List Pr) (j : Nat) : List (Int × Int) := (N.take j).flatMap fun x => (refsN N (peerN P x.id)).map fun v => (x.id, v)
theorem prsU_snoc {N : List Nd} {P : List Pr} {j : Nat} {x : Nd} (hx : N[j]? = some x) : prsU N P (j + 1) = prsU N P j ++ (refsN N (peerN P x.id)).map fun v => (x.id, v) := by
 unfold prsU
 rw [take_snocN N j x hx, List.flatMap_append]
 simp
theorem prsU_all (N : List Nd) (P : List Pr) : prsU N P N.length = pairsN N P := by
 unfold prsU pairsN
 rw [List.take_of_length_le (Nat.le_refl _)]
theorem prsU_len {N : List Nd} (h0 : checkN N = 0) (P : List Pr) (j : Nat) : (prsU N P j).length ≤ 64 * 64 := by
 have h1 := pairs_len (P := P) h0 (N.take j)
 have h2 := check_len h0
 have h3 : (N.take j).length ≤ 64 := by rw [List.length_take]; omega
 unfold prsU
 exact Nat.le_trans h1 (Nat.mul_le_mul h3 h2)
theorem refs_empty {N : List Nd} (h0 : checkN N = 0) (id : Int) : refsN N ⟨id, 0, 0, [], []⟩ = [] := by
 unfold refsN
 rw [if_pos h0]
 unfold ordN
 rw [List.map_eq_nil_iff, List.filter_eq_nil_iff]
 intro x hx
 have := (roster_ok h0 x ((sortN_mem N x).1 hx)).2.1
 simp only [numsP, Bool.and_eq_true, List.contains_iff_mem, List.flatMap_nil, List.append_nil, List.nil_append, List.mem_cons, List.not_mem_nil, or_false]
 omega
def CnRel (N : List Nd) (P : List Pr) (bm : Nat) (w : World) (i : Value) (wr : World) : Prop :=
 ∃ (j n : Nat) (f : Int → Value), j ≤ N.length ∧ i = .int .i64 j ∧ GpM w.heap.size wr bm n f (jOf (prsU N P j)) ∧ n = 2 * (prsU N P j).length ∧ Exb bm w wr
def CmRel (x : Int) (l : List Int) (E : List (Int × Int)) (bm lo : Nat) (w w6 : World) (i : Value) (wr : World) : Prop :=
 ∃ (j n : Nat) (f : Int → Value), j ≤ l.length ∧ i = .int .i64 j ∧ GpM w.heap.size wr bm n f (jOf (E ++ (l.take j).map fun v => (x, v))) ∧ n = 2 * (E.length + j) ∧ AccM w.heap.size lo w6.heap.size bm w6 wr f
theorem Slf.row2 {α : Type} {sz n : Nat} {enc : α → List Value} {w0 w w' : World} {a : Option Addr} {l : List α} {v : Value} (s : Slf sz enc w0 w a n l) (h : ∀ g, v.ownBlock = some g → g < w0.heap.size) (k : Chg (fun k => k < w.heap.size ∧ ¬ v.ownBlock = some k) w w') : Slf sz enc w0 w' a n l :=
 (Rd.chg s k fun _ hk => ⟨hk.2, fun hv => by have := h _ hv; have := hk.1; omega⟩).mono fun _ hk => ⟨hk.1, Nat.lt_of_lt_of_le hk.2 k.size⟩
theorem sumJ_le {J : Int → List Int} (hJ : ∀ u, (J u).length ≤ 10000) (L : List Nd) : (L.map fun x => (J x.id).length).sum ≤ L.length * 10000 := by
 induction L with
 | nil => simp
 | cons x L ih =>
  have := hJ x.id
  rw [List.map_cons, List.sum_cons, List.length_cons]
  omega
theorem todo_le {N : List Nd} {J : Int → List Int} (hN : N.length ≤ 64) (hJ : ∀ u, (J u).length ≤ 10000) (M T : List Int) : todoN N J M T ≤ T.length + 640000 := by
 have h1 := sumJ_le hJ (N.filter fun x => !(M.contains x.id))
 have h2 := List.length_filter_le (fun x : Nd => !(M.contains x.id)) N
 unfold todoN
 omega
theorem todo_len (N : List Nd) (J : Int → List Int) (M T : List Int) : T.length ≤ todoN N J M T := by unfold todoN; omega
theorem todo_old (N : List Nd) (J : Int → List Int) (M T : List Int) (v : Int) : todoN N J M T + 1 = todoN N J M (v :: T) := by unfold todoN; rw [List.length_cons]; omega
theorem QuL.no {e : TypeId} {base : Nat} {w : World} {v : Value} (h : QuL e base w v []) : ∃ a c, v = .slice a 0 c := by
 rcases h with ⟨rfl, _⟩ | ⟨g, o, cap, cur, rfl, _⟩
 ·exact ⟨none, 0, rfl⟩
 ·exact ⟨_, cap, rfl⟩
theorem wpList_append_hap {P : Program} {ops : Array Oper} {rest : List Oper} {o : Oper} {a : Act} {Q : Exit → Act → World → Prop} {w : World} (hgd : o.guard = none) (s x : Operand) (t : TypeId)
  (ho : o.op = .call { callee := .builtin .append, args := #[s, x], argTypes := #[t, t] }) {v v' : Value} {A : Option Addr} {n c : Nat} {w' : World} (hap : (Builtin.append_ #[t, t] o.type #[v, .slice A n c]).run P w = .ok v' w')
  (hs : a.eval s = v) (hx : a.eval x = .slice A n c) (h : wpList P ops Q rest (a.put o.dst v') w') : wpList P ops Q (o :: rest) a w :=
 wpList_plain hgd fun K hK => by
  unfold Oper.wp execOp
  simp only [ho, resolve, invoke, builtin, Sem.run_bind, Sem.run_pure, Result.andThen_ok, List.map_toArray, List.map_cons, List.map_nil, hs, hx, hap]
  exact hK _ _ h
abbrev SetB (w : World) (b : Nat) (S : List Int) : Prop := SetM Tryz.prog 3 4 w b S
def startN (N : List Nd) : List Int := match N with | [] => [] | s :: _ => [s.id]
theorem startN_at {N : List Nd} {x : Nd} (h : N[0]? = some x) : startN N = [x.id] := by
 cases N with
 | nil => cases h
 | cons y N => simp at h; rw [h]; rfl
theorem startN_bfs (N : List Nd) (P : List Pr) (J : Int → List Int) : Bfs N P J [] (startN N) := bfs_start
theorem startN_len (N : List Nd) : (startN N).length ≤ 1 := by
 cases N with
 | nil => exact Nat.zero_le _
 | cons y N => exact Nat.le_refl _
def CqRel (N : List Nd) (bs : Nat) (w6 : World) (o : Value) (wr : World) : Prop :=
 QuL 3 (bs + 1) wr o (startN N) ∧ Ex w6 wr
def CbRel (N : List Nd) (P : List Pr) (J : Int → List Int) (bs : Nat) (wi : World) (k : Nat) (o : Value) (wr : World) : Prop :=
 ∃ M T, Bfs N P J M T ∧ SetB wr bs M ∧ QuL 3 (bs + 1) wr o T ∧ Ex wi wr ∧ k = todoN N J M T ∧ k ≤ 700000
set_option maxRecDepth 100000 in
set_option maxHeartbeats 16000000 in
theorem connected_p (a : Option Addr) (n c : Nat) (N : List Nd) (a2 : Option Addr) (n2 c2 : Nat) (P : List Pr) (w : World) (h : Sl 3 encN w a n N) (hn : n ≤ 1000) (hc : n ≤ c) (hm : c ≤ maxLen) (h2 : PL w a2 n2 P) (hn2 : n2 ≤ 4000000000000000000) (hP : ∀ p ∈ P, p.known.length ≤ 4000000000000000000 ∧ p.near.length ≤ 4000000000000000000) :
  Calls Tryz.prog 31 #[.slice a n c, .slice a2 n2 c2] w fun e w' => e = .returned (.bool (connB N P)) ∧ Ex w w' := by
 have HL := lH h.len
 have HP := lH hP
 have H2 := lH h2
 have EX := Ex.refl w
 clear hP h2
 go_enter Tryz.func31, Tryz.ntmps31
 go_wp2_with fail
 (with_reducible refine (check_p _ _ _ _ _ h (by omega) hc hm).mono ?_)
 rintro e w1 ⟨rfl, kk⟩
 replace h := h.nx kk
 replace EX := EX.nx kk
 clear kk
 by_cases hck : checkN N = 0
 case neg =>
  have d1 : (checkN N != 0) = true := by simpa using hck
  have E0 : Hid (connB N P = false) := lH (by unfold connB; rw [show (checkN N == 0) = false by simpa using hck]; rfl)
  clear h hck
  go_wp2_with fail
  go_ret
  exact ⟨by rw [E0.out]; rfl, EX⟩
 have d1 : (checkN N != 0) = false := by simpa using hck
 have HC := lH hck
 have hn64 : n ≤ 64 := by have := check_len hck; have := HL.out; omega
 have HI : Hid (∀ x ∈ N, I64 x.id) := lH (fun x hx => (roster_ok HC.out x hx).1.1)
 clear hck
 have G4 := GrpM.made w1 Tryz.prog 3 3
 have kk := Ex.new w1 (.map #[] 0)
 obtain ⟨w4, hw4⟩ : ∃ w4, w4 = w1.alloc (.map #[] 0) := ⟨_, rfl⟩
 obtain ⟨bm, hbm⟩ : ∃ bm, bm = w1.heap.size := ⟨_, rfl⟩
 have hsz4 : w4.heap.size = bm + 1 := by rw [hw4, hbm]; simp
 replace G4 : GpM w4.heap.size w4 bm 0 (fun _ => nilS) (fun _ => []) := by rw [hsz4, hw4, hbm]; exact G4
 rw [← hw4] at kk
 have Hw4 := lH hw4
 have Hbm := lH hbm
 have hwb : w.heap.size ≤ bm := by have := EX.size; omega
 have HS := lH (h.slb (show w1.heap.size ≤ bm by omega))
 replace HS := lH (HS.out.nxb (kk.b bm))
 have EX1 := lH (EX.nx kk)
 have HPL := lH ((H2.out.plb hwb).nxb (EX1.out.b bm))
 clear kk hw4 hbm h
 have hmm := @run_makeMap Tryz.prog
 go_upto_region 4 with fail
 rw [← Hbm.out, ← Hw4.out]
 clear Hbm Hw4
 clear hmm
 have hbm4 : bm < w4.heap.size := by omega
 replace hsz4 := lH hsz4
 clear EX
 go_wp2_with fail
 go_loopw [20] (fun i wr => CnRel N P bm w4 i wr) (fun i _ => n - (intOf i).toNat)
 case atStart => exact ⟨0, 0, fun _ => nilS, by omega, rfl, G4, rfl, Exb.refl _ _⟩
 case round =>
  clear G4
  obtain ⟨j, nn, f, hj, rfl, GP, hnn, kw⟩ := hrel
  obtain ⟨wi, rfl⟩ : ∃ wi : World, wi = wr := ⟨_, rfl⟩
  have hjn : j ≤ n := by have := HL.out; omega
  have HNN := lH hnn
  clear hnn hj
  by_cases hjm : j < n
  ·obtain ⟨x3, o3, x, rfl, hx3, hy, hc3⟩ := (HS.out.nxb kw).sl.at hjm
   have e0 : wi.cell? ⟨x3, o3 + j * 3, none⟩ = some (.int .i64 x.id) := hc3 0 _ rfl
   have e1 : wi.cell? ⟨x3, o3 + j * 3 + 1, none⟩ = some (.string x.key) := hc3 1 _ rfl
   have e2 : wi.cell? ⟨x3, o3 + j * 3 + 1 + 1, none⟩ = some (.int .u32 x.word) := by simpa [Nat.add_assoc] using hc3 2 _ rfl
   have SN := lH (prsU_snoc (P := P) hy)
   have hxI := lH (HI.out x (List.mem_of_getElem? hy))
   have KW := lH kw
   have GW := lH GP
   have hbi : bm < wi.heap.size := Nat.lt_of_lt_of_le hbm4 kw.size
   have PE := prsU_len HC.out P j
   clear hc3 hy kw GP
   have B7 := Blk.new wi [.int .i64 x.id, .string x.key, .int .u32 x.word] 56
   have kk := Ex.new wi (.cells #[.int .i64 x.id, .string x.key, .int .u32 x.word] 56)
   obtain ⟨w7, hw7⟩ : ∃ w7, w7 = wi.alloc (.cells #[.int .i64 x.id, .string x.key, .int .u32 x.word] 56) := ⟨_, rfl⟩
   obtain ⟨g7, hg7⟩ : ∃ g7, g7 = wi.heap.size := ⟨_, rfl⟩
   replace B7 : Blk w7 g7 [.int .i64 x.id, .string x.key, .int .u32 x.word] 56 := by rw [hw7, hg7]; exact B7
   rw [← hw7] at kk
   have Hw7 := lH hw7
   have Hg7 := lH hg7
   have zg7 : wi.heap.size ≤ g7 := by omega
   have n7b : bm ≠ g7 := by omega
   have K7 := lH kk
   clear kk hw7 hg7
   go_upto_region 7 with fail
   rw [← Hg7.out, ← Hw7.out]
   clear Hg7 Hw7
   have eg : ∀ args w, (callFunc 70 args).run Tryz.prog w = .ok (.enter 70 args) w := enters_of Tryz.func70 (by kernel_rfl) rfl
   have EG := lH eg
   have HB := lH B7
   clear eg B7 e0 e1 e2
   have PLW := lH (((HPL.out.nxb KW.out).nxb (K7.out.b bm)).pl)
   go_wp2_with fail
   (with_reducible refine (idxf_pr 70 #[.pointer (some ⟨g7, 0, none⟩)] x.id EG.out _ _ _ P w7 PLW.out hn2 (conn1_p g7 x w7 HB.out)).mono ?_)
   rintro e w8 ⟨rfl, k8⟩
   replace K7 := lH (K7.out.nx k8)
   replace PLW := lH (PLW.out.nx k8)
   replace HB := lH (HB.out.nx k8)
   clear k8
   rcases idxQ_cases P x.id with ⟨k, y, hi, hk, hyk, hpe, hyid⟩ | ⟨hi, hpe⟩
   case inr =>
    rw [hi]
    have RR := lH (show CnRel N P bm w4 (.int .i64 ((j : Int) + 1)) w8 from ⟨j + 1, nn, f, by have := HL.out; omega, by go_num, by rw [SN.out, hpe, refs_empty HC.out]; simpa using GW.out.nx K7.out, by rw [SN.out, hpe, refs_empty HC.out]; simpa using HNN.out, KW.out.nxb (K7.out.b bm)⟩)
    clear hi hpe
    go_wp2_with fail
    exact ⟨RR.out, by simp [intOf]; omega⟩
   replace hyid := lH hyid
   rw [hi]
   have hk2 : k < n2 := by have := PLW.out.len; omega
   obtain ⟨xp, op, b1, m1, d1', b4, m4, d4, y', rfl, hxp, hyk', p0, p1, p2, p3, p4, s1, s4⟩ := PLW.out.rd hk2
   obtain rfl : y = y' := Option.some.inj (hyk.symm.trans hyk')
   have hyP := HP.out y (List.mem_of_getElem? hyk)
   have hl1 : m1 ≤ 4000000000000000000 := by have := s1.len; omega
   have hl4 : m4 ≤ 4000000000000000000 := by have := s4.len; omega
   have hk0 : ¬ (k : Int) < 0 := by omega
   have hkn : (k : Int) < (n2 : Int) := by omega
   have hpe := lH hpe
   have S1 := lH s1
   have S4 := lH s4
   clear hi hyk hyk' s1 s4 hyP hk
   go_wp2_with fail
   (with_reducible refine (refs_p _ _ _ N y _ _ _ _ _ _ _ ((HS.out.nxb KW.out).nxb (K7.out.b bm)).sl hn hc hm S1.out S4.out hl1 hl4).mono ?_)
   rintro e w9 ⟨v9, rfl, o9, kk⟩
   obtain ⟨A9, C9, rfl, r9, _, _, _⟩ := o9.slf (fun _ => rfl)
   replace r9 := lH (r9.old K7.out.size)
   have hlr := refs_len HC.out y
   have HRI : Hid (∀ v ∈ refsN N y, I64 v ∧ v ≠ x.id) := lH (fun v hv => by
    obtain ⟨⟨z, hz, rfl⟩, h2, _⟩ := (mem_refs HC.out).1 hv
    exact ⟨HI.out z hz, by rw [hyid.out] at h2; exact h2⟩)
   have hL9 := r9.out.len
   have SN : Hid (prsU N P (j + 1) = prsU N P j ++ (refsN N y).map fun v => (x.id, v)) := lH (by rw [SN.out, hpe.out])
   replace HB := lH (HB.out.nx kk)
   have K9 := lH (K7.out.nx kk)
   have A0 : Hid (AccM w4.heap.size wi.heap.size w9.heap.size bm w9 w9 f) := lH ⟨Chg.refl _ _, Nat.le_refl _, fun v g hg => .inl ((GW.out.row v).lt g hg).2⟩
   have G9 := lH (GW.out.nx K9.out)
   generalize refsN N y = L at r9 hlr HRI hL9 SN ⊢
   have hLl : L.length ≤ 64 := by have := HL.out; omega
   have hz9 := K9.out.size
   clear o9 kk p0 p1 p2 p3 p4 hyid hlr
   go_wp2_with fail
   go_loopw [36] (fun i wr => CmRel x.id L (prsU N P j) bm wi.heap.size w4 w9 i wr) (fun i _ => L.length - (intOf i).toNat)
   case atStart => exact ⟨0, nn, f, by omega, rfl, by simpa using G9.out, by simpa using HNN.out, A0.out⟩
   case round =>
    clear A0 G9 GW
    obtain ⟨i, m, f2, hi, rfl, GP, hm2, ac⟩ := hrel
    obtain ⟨wp, rfl⟩ : ∃ wp : World, wp = wr := ⟨_, rfl⟩
    by_cases hil : i < L.length
    ·obtain ⟨xr, or, id, rfl, hxr, hid, hcr⟩ := (ac.sl hbi r9.out).at (j := i) hil
     have f0 : wp.cell? ⟨xr, or + i, none⟩ = some (.int .i64 id) := by simpa using hcr 0 _ rfl
     have LS : Hid ((L.take (i + 1)).map (fun v => (x.id, v)) = (L.take i).map (fun v => (x.id, v)) ++ [(x.id, id)]) := lH (by rw [take_snocN L i id hid, List.map_append]; rfl)
     obtain ⟨hidI, hne⟩ := HRI.out id (List.mem_of_getElem? hid)
     have BP := lH (ac.blk HB.out (by omega) n7b)
     have GPH := lH GP
     have AC := lH ac
     have M2 := lH hm2
     have hm100 : m < 1000000 := by omega
     have zbp : bm < wp.heap.size := GP.1.lt
     have zgp : g7 < wp.heap.size := BP.out.lt
     have NB : Hid (∀ v, ¬ (f2 v).ownBlock = some bm ∧ ¬ (f2 v).ownBlock = some g7) := lH (fun v => ⟨fun hv => by have := ((GPH.out.row v).lt bm hv).1; omega, fun hv => OwnL.ne_blk (GPH.out.row v) BP.out (by decide) hv rfl⟩)
     have JX := lH (show ∀ u, (jOf (prsU N P j ++ (L.take i).map fun v => (x.id, v)) u).length ≤ 100000 from fun u => by
      have hne : ∀ q ∈ prsU N P j ++ (L.take i).map (fun v => (x.id, v)), q.1 ≠ q.2 := fun q hq => by
       rcases List.mem_append.1 hq with h1 | h1
       ·refine pairs_ne HC.out (P := P) (q := q) ?_
        unfold prsU at h1
        unfold pairsN
        obtain ⟨z, hz, h2⟩ := List.mem_flatMap.1 h1
        exact List.mem_flatMap.2 ⟨z, List.mem_of_mem_take hz, h2⟩
       ·obtain ⟨v, hv, rfl⟩ := List.mem_map.1 h1
        exact fun h => (HRI.out v (List.mem_of_mem_take hv)).2 h.symm
      have h1 := ((jOf_law _ _ rfl hne) u).1
      rw [List.length_append, List.length_map, List.length_take] at h1
      omega)
     generalize hJ : jOf (prsU N P j ++ (L.take i).map fun v => (x.id, v)) = J at GP GPH JX
     have HJ := lH hJ
     have wx1 := lH (wf_of hxI.out)
     have wx2 := lH (wf_of hidI)
     have hne2 : id ≠ x.id := hne
     have jlx := JX.out x.id
     have jly := JX.out id
     clear hcr hid ac hm2 hJ GP JX
     go_upto_region 12 with fail
     refine wp_region_late_drew (S := Chg (fun k => k = bm ∨ k = g7) wp) [19, 21, 22] (by kernel_rfl) ((Chg.refl _ wp).drew) (fun hHeld => ?_)
     obtain ⟨wd, hwdx⟩ : ∃ wd : World, wd = World.drew wp := ⟨_, rfl⟩
     rw [← hwdx] at hHeld ⊢
     have hDrew : Ex wp wd := by rw [hwdx]; exact (Ex.refl wp).drew
     clear hwdx
     refine tkL 0 (v := ?_) rfl (by kernel_rfl) (fun _ _ _ h => h) (by rfl) ?y1x0q5 (by assumption) ?z1x0q5
     case y1x0q5 => intro wq hSw; (go_simp); (try with_reducible rfl)
     refine tkL 1 (v := ?_) rfl (by kernel_rfl) (fun _ _ _ h => h) (by rfl) ?y1x1q8 (by assumption) ?z1x1q8
     case y1x1q8 => intro wq hSw; (go_simp); (try with_reducible rfl)
     refine tkL 2 (v := ?_) rfl (by kernel_rfl) (fun _ _ _ h => h) (by rfl) ?y1x2q11 (by assumption) ?z1x2q11
     case y1x2q11 => intro wq hSw; (have cq := ((show Blk wq g7 _ _ from (hSw.block g7 (.inr rfl)).trans BP.out).cell 0 _ rfl); go_simp); (try with_reducible rfl)
     refine wpAnyL_takeP (i := 3) (oi := ⟨_, _, _, _, _, _⟩) (v := ?_) rfl (by kernel_rfl) (by kernel_rfl) (by kernel_rfl) (fun _ _ _ h => h) (Or.inl ⟨by rfl, ?y1x3q14⟩) ?z1x3q14
     case y1x3q14 => intro wq hSw; (go_simp); (try with_reducible rfl)
     refine wpAnyL_takeP (i := 4) (oi := ⟨_, _, _, _, _, _⟩) (v := ?_) rfl (by kernel_rfl) (by kernel_rfl) (by kernel_rfl) (fun _ _ _ h => h) (Or.inl ⟨by rfl, ?y1x4q17⟩) ?z1x4q17
     case y1x4q17 => intro wq hSw; (go_simp); (try with_reducible rfl)
     refine tkL 5 (v := ?_) rfl (by kernel_rfl) (fun _ _ _ h => h) (by rfl) ?y1x5q20 (by assumption) ?z1x5q20
     case y1x5q20 => intro wq hSw; (go_simp); (try with_reducible rfl)
     refine tkL 6 (v := ?_) rfl (by kernel_rfl) (fun _ _ _ h => h) (by rfl) ?y1x6q23 (by assumption) ?z1x6q23
     case y1x6q23 => intro wq hSw; (go_simp); (try with_reducible rfl)
     refine tkL 7 (v := ?_) rfl (by kernel_rfl) (fun _ _ _ h => h) (by rfl) ?y1x7q26 (by assumption) ?z1x7q26
     case y1x7q26 => intro wq hSw; (have cq := ((show Blk wq g7 _ _ from (hSw.block g7 (.inr rfl)).trans BP.out).cell 0 _ rfl); go_simp); (try with_reducible rfl)
     refine tkL 8 (v := ?_) rfl (by kernel_rfl) (fun _ _ _ h => h) (by rfl) ?y1x8q29 (by assumption) ?z1x8q29
     case y1x8q29 => intro wq hSw; (have lk := (RawM.same GPH.out.1 (hSw.block bm (.inl rfl))).get (t := 88) Tryz.underlying3 Tryz.underlying88 (Tryz.zeroS _) wx1.out; go_simp); (try with_reducible rfl)
     refine tkL 9 (v := ?_) rfl (by kernel_rfl) (fun _ _ _ h => h) (by rfl) ?y1x9q32 (by assumption) ?z1x9q32
     case y1x9q32 => intro wq hSw; (go_simp); (try with_reducible rfl)
     refine tkL 12 (v := ?_) rfl (by kernel_rfl) (fun _ _ _ h => h) (by rfl) ?y1x12q35 (by assumption) ?z1x12q35
     case y1x12q35 => intro wq hSw; (go_simp); (try with_reducible rfl)
     refine tkL 13 (v := ?_) rfl (by kernel_rfl) (fun _ _ _ h => h) (by rfl) ?y1x13q38 (by assumption) ?z1x13q38
     case y1x13q38 => intro wq hSw; (go_simp); (try with_reducible rfl)
     refine tkL 14 (v := ?_) rfl (by kernel_rfl) (fun _ _ _ h => h) (by rfl) ?y1x14q41 (by assumption) ?z1x14q41
     case y1x14q41 => intro wq hSw; (have lk := (RawM.same GPH.out.1 (hSw.block bm (.inl rfl))).get (t := 88) Tryz.underlying3 Tryz.underlying88 (Tryz.zeroS _) wx2.out; go_simp); (try with_reducible rfl)
     refine tkL 15 (v := ?_) rfl (by kernel_rfl) (fun _ _ _ h => h) (by rfl) ?y1x15q44 (by assumption) ?z1x15q44
     case y1x15q44 => intro wq hSw; (go_simp); (try with_reducible rfl)
     refine tkL 16 (v := ?_) rfl (by kernel_rfl) (fun _ _ _ h => h) (by rfl) ?y1x16q47 (by assumption) ?z1x16q47
     case y1x16q47 => intro wq hSw; (have cq := ((show Blk wq g7 _ _ from (hSw.block g7 (.inr rfl)).trans BP.out).cell 0 _ rfl); go_simp); (try with_reducible rfl)
     refine wpAnyL_ready (rs := [10, 17]) (by kernel_rfl) (by simp) ?_
     refine AllReadyL.cons (o := ⟨_, _, _, _, _, _⟩) rfl (fun K hK => ?_) ?_
     ·go_simp
      obtain ⟨g8, wq, hg8, hwq, SX, kk⟩ := litF hHeld.size id
      rw [← hg8, ← hwq]
      clear hg8 hwq
      (try replace SY := SY.nx kk)
      replace hDrew := hDrew.nx kk
      replace hHeld := hold_ex hHeld zbp zgp kk
      clear kk
      refine hK.out _ _ (hHeld) (fun hHeld => ?_)
      clear hK K
      refine wpAnyL_ready (rs := [11, 17]) (by kernel_rfl) (by simp) ?_
      refine AllReadyL.cons (o := ⟨_, _, _, _, _, _⟩) rfl (fun K hK => ?_) ?_
      ·rw [if_pos (by rfl)]
       have rx := (GPH.out.row x.id).nx hDrew
       have zbase := Nat.le_trans GPH.out.2.2.1 hDrew.size
       refine wp_append_rda (enc := encI) _ (.tmp 48) (.tmp 50) 22 rfl w4.heap.size 3 (.int .i64 0) 1 8 Tryz.underlying22 Tryz.infoI6 rfl (by omega) (by omega) _ (J x.id) rx rfl _ _ 1 1 [id] SX (fun h => by cases h) (fun _ => rfl) (by simp [encI, Value.oneCell']) rfl (by omega) (by omega) zbase ?_
       intro va w1 A ch0 ch1 hva
       have KA : Chg (fun k => k < wp.heap.size ∧ ¬ (f2 x.id).ownBlock = some k) wp w1 := Chg.trans (Chg.mono hDrew (fun k hk => hk.1)) (Chg.mono ch0 (fun k hk => ⟨Nat.lt_of_lt_of_le hk.1 hDrew.size, hk.2⟩))
       have la := own_hist hva hDrew.size
       (try replace SY := SY.row2 (fun g hg => ((GPH.out.row x.id).lt g hg).2) ch0)
       have KE := Ex.refl w1
       replace hHeld := hold_row hHeld zbp zgp (NB.out x.id) ch0
       have zb1 := Nat.le_trans zbase ch0.size
       clear ch0 ch1 hva rx hDrew SX
       refine hK.out _ _ (hHeld) (fun hHeld => ?_)
       clear hK K
       refine wpAnyL_ready (rs := [17]) (by kernel_rfl) (by simp) ?_
       refine AllReadyL.cons (o := ⟨_, _, _, _, _, _⟩) rfl (fun K hK => ?_) AllReadyL.nil
       go_simp
       obtain ⟨g9, wq, hg9, hwq, SY, kk⟩ := litF hHeld.size x.id
       rw [← hg9, ← hwq]
       clear hg9 hwq
       (try replace SX := SX.nx kk)
       (first | replace hDrew := hDrew.nx kk | replace KE := KE.nx kk)
       replace hHeld := hold_ex hHeld zbp zgp kk
       clear kk
       refine hK.out _ _ (hHeld) (fun hHeld => ?_)
       clear hK K
       refine wpAnyL_ready (rs := [18]) (by kernel_rfl) (by simp) ?_
       refine AllReadyL.cons (o := ⟨_, _, _, _, _, _⟩) rfl (fun K hK => ?_) AllReadyL.nil
       rw [if_pos (by rfl)]
       have ry := ((GPH.out.row id).chg KA (fun g hg hv => ⟨hg, fun hx => GPH.out.2.2.2.2 id x.id g hne2 hv hx⟩)).nx KE
       have zb2 := Nat.le_trans zb1 KE.size
       refine wp_append_rda (enc := encI) _ (.tmp 54) (.tmp 57) 22 rfl w4.heap.size 3 (.int .i64 0) 1 8 Tryz.underlying22 Tryz.infoI6 rfl (by omega) (by omega) _ (J id) ry rfl _ _ 1 1 [x.id] SY (fun h => by cases h) (fun _ => rfl) (by simp [encI, Value.oneCell']) rfl (by omega) (by omega) zb2 ?_
       intro vc w2 C ch0 ch1 hvc
       have KC : Chg (fun k => k < w1.heap.size ∧ ¬ (f2 id).ownBlock = some k) w1 w2 := Chg.trans (Chg.mono KE (fun k hk => hk.1)) (Chg.mono ch0 (fun k hk => ⟨Nat.lt_of_lt_of_le hk.1 KE.size, hk.2⟩))
       have lc := own_hist hvc KE.size
       replace hHeld := hold_row hHeld zbp zgp (NB.out id) ch0
       clear ch0 ch1 hvc ry SY KE
       refine hK.out _ _ (hHeld) (fun hHeld => ?_)
       clear hK K
       refine wpAnyL_ready (rs := [19]) (by kernel_rfl) (by simp) ?_
       refine AllReadyL.consL (o := ⟨_, _, _, _, _, _⟩) rfl (by rfl) (fun K hK => ?_) AllReadyL.nil
       have R2 := RawM.same GPH.out.1 (hHeld.block bm (.inl rfl))
       obtain ⟨v0, st, we, hrun, k3, sz3, back⟩ := R2.entry (t := 88) Tryz.underlying3 Tryz.underlying88 (fun u => Tryz.zeroS u) (by omega) wx1.out
       go_simp
       clear hrun sz3 R2
       refine hK.out _ _ ?_
       clear hK K
       refine wpAnyL_takeP (i := 20) (oi := ⟨_, _, _, _, _, _⟩) (v := ?_) rfl (by kernel_rfl) (by kernel_rfl) (by kernel_rfl) (fun _ _ _ h => h) (Or.inl ⟨by rfl, ?y1x20q116⟩) ?z1x20q116
       case y1x20q116 => intro wq hSw; (go_simp); (try with_reducible rfl)
       refine wpAnyL_ready (rs := [21]) (by kernel_rfl) (by simp) ?_
       refine AllReadyL.consL (o := ⟨_, _, _, _, _, _⟩) rfl (by rfl) (fun K hK => ?_) AllReadyL.nil
       obtain ⟨wf, hrun2, R3, k4, sz4⟩ := back we va rfl
       simp only [goInt] at hrun2
       go_simp
       clear hrun2 sz4 back
       refine hK.out _ _ ?_
       clear hK K
       refine wpAnyL_ready (rs := [22]) (by kernel_rfl) (by simp) ?_
       refine AllReadyL.consL (o := ⟨_, _, _, _, _, _⟩) rfl (by rfl) (fun K hK => ?_) AllReadyL.nil
       obtain ⟨wg, hrun3, R4, k5, sz5⟩ := R3.put (t := 88) Tryz.underlying3 Tryz.underlying88 (by omega) wx2.out vc
       go_simp
       clear hrun3 sz5 R3
       refine hK.out _ _ ?_
       clear hK K
       refine wpAnyL_done (by kernel_rfl) ?_ _
       have KF := k3.nxb (k4.nxb k5)
       have GN := GPH.out.two (x := x.id) (y := id) (fun h => hne2 h.symm) A KA la C KC lc KF R4
       have AN := AC.out.two (fun v g hg => ((GPH.out.row v).lt g hg).1) KA la KC lc KF
       have RR := lH (show CmRel x.id L (prsU N P j) bm wi.heap.size w4 w9 (.int .i64 ((i : Int) + 1)) wg from ⟨i + 1, m + 1 + 1, _, by omega, by go_num, by rw [LS.out, ← List.append_assoc, jOf_snoc, HJ.out]; exact GN, by rw [M2.out]; omega, AN⟩)
       clear GN AN KF A C KA KC la lc R4 k3 k4 k5 hHeld
       go_wp2_with fail
       exact ⟨RR.out, by simp [intOf]; omega⟩
      refine AllReadyL.cons (o := ⟨_, _, _, _, _, _⟩) rfl (fun K hK => ?_) AllReadyL.nil
      ·go_simp
       obtain ⟨g9, wq, hg9, hwq, SY, kk⟩ := litF hHeld.size x.id
       rw [← hg9, ← hwq]
       clear hg9 hwq
       (try replace SX := SX.nx kk)
       (first | replace hDrew := hDrew.nx kk | replace KE := KE.nx kk)
       replace hHeld := hold_ex hHeld zbp zgp kk
       clear kk
       refine hK.out _ _ (hHeld) (fun hHeld => ?_)
       clear hK K
       refine wpAnyL_ready (rs := [11]) (by kernel_rfl) (by simp) ?_
       refine AllReadyL.cons (o := ⟨_, _, _, _, _, _⟩) rfl (fun K hK => ?_) AllReadyL.nil
       rw [if_pos (by rfl)]
       have rx := (GPH.out.row x.id).nx hDrew
       have zbase := Nat.le_trans GPH.out.2.2.1 hDrew.size
       refine wp_append_rda (enc := encI) _ (.tmp 48) (.tmp 50) 22 rfl w4.heap.size 3 (.int .i64 0) 1 8 Tryz.underlying22 Tryz.infoI6 rfl (by omega) (by omega) _ (J x.id) rx rfl _ _ 1 1 [id] SX (fun h => by cases h) (fun _ => rfl) (by simp [encI, Value.oneCell']) rfl (by omega) (by omega) zbase ?_
       intro va w1 A ch0 ch1 hva
       have KA : Chg (fun k => k < wp.heap.size ∧ ¬ (f2 x.id).ownBlock = some k) wp w1 := Chg.trans (Chg.mono hDrew (fun k hk => hk.1)) (Chg.mono ch0 (fun k hk => ⟨Nat.lt_of_lt_of_le hk.1 hDrew.size, hk.2⟩))
       have la := own_hist hva hDrew.size
       (try replace SY := SY.row2 (fun g hg => ((GPH.out.row x.id).lt g hg).2) ch0)
       have KE := Ex.refl w1
       replace hHeld := hold_row hHeld zbp zgp (NB.out x.id) ch0
       have zb1 := Nat.le_trans zbase ch0.size
       clear ch0 ch1 hva rx hDrew SX
       refine hK.out _ _ (hHeld) (fun hHeld => ?_)
       clear hK K
       refine wpAnyL_ready (rs := [18]) (by kernel_rfl) (by simp) ?_
       refine AllReadyL.cons (o := ⟨_, _, _, _, _, _⟩) rfl (fun K hK => ?_) AllReadyL.nil
       rw [if_pos (by rfl)]
       have ry := ((GPH.out.row id).chg KA (fun g hg hv => ⟨hg, fun hx => GPH.out.2.2.2.2 id x.id g hne2 hv hx⟩)).nx KE
       have zb2 := Nat.le_trans zb1 KE.size
       refine wp_append_rda (enc := encI) _ (.tmp 54) (.tmp 57) 22 rfl w4.heap.size 3 (.int .i64 0) 1 8 Tryz.underlying22 Tryz.infoI6 rfl (by omega) (by omega) _ (J id) ry rfl _ _ 1 1 [x.id] SY (fun h => by cases h) (fun _ => rfl) (by simp [encI, Value.oneCell']) rfl (by omega) (by omega) zb2 ?_
       intro vc w2 C ch0 ch1 hvc
       have KC : Chg (fun k => k < w1.heap.size ∧ ¬ (f2 id).ownBlock = some k) w1 w2 := Chg.trans (Chg.mono KE (fun k hk => hk.1)) (Chg.mono ch0 (fun k hk => ⟨Nat.lt_of_lt_of_le hk.1 KE.size, hk.2⟩))
       have lc := own_hist hvc KE.size
       replace hHeld := hold_row hHeld zbp zgp (NB.out id) ch0
       clear ch0 ch1 hvc ry SY KE
       refine hK.out _ _ (hHeld) (fun hHeld => ?_)
       clear hK K
       refine wpAnyL_ready (rs := [19]) (by kernel_rfl) (by simp) ?_
       refine AllReadyL.consL (o := ⟨_, _, _, _, _, _⟩) rfl (by rfl) (fun K hK => ?_) AllReadyL.nil
       have R2 := RawM.same GPH.out.1 (hHeld.block bm (.inl rfl))
       obtain ⟨v0, st, we, hrun, k3, sz3, back⟩ := R2.entry (t := 88) Tryz.underlying3 Tryz.underlying88 (fun u => Tryz.zeroS u) (by omega) wx1.out
       go_simp
       clear hrun sz3 R2
       refine hK.out _ _ ?_
       clear hK K
       refine wpAnyL_takeP (i := 20) (oi := ⟨_, _, _, _, _, _⟩) (v := ?_) rfl (by kernel_rfl) (by kernel_rfl) (by kernel_rfl) (fun _ _ _ h => h) (Or.inl ⟨by rfl, ?y1x20q190⟩) ?z1x20q190
       case y1x20q190 => intro wq hSw; (go_simp); (try with_reducible rfl)
       refine wpAnyL_ready (rs := [21]) (by kernel_rfl) (by simp) ?_
       refine AllReadyL.consL (o := ⟨_, _, _, _, _, _⟩) rfl (by rfl) (fun K hK => ?_) AllReadyL.nil
       obtain ⟨wf, hrun2, R3, k4, sz4⟩ := back we va rfl
       simp only [goInt] at hrun2
       go_simp
       clear hrun2 sz4 back
       refine hK.out _ _ ?_
       clear hK K
       refine wpAnyL_ready (rs := [22]) (by kernel_rfl) (by simp) ?_
       refine AllReadyL.consL (o := ⟨_, _, _, _, _, _⟩) rfl (by rfl) (fun K hK => ?_) AllReadyL.nil
       obtain ⟨wg, hrun3, R4, k5, sz5⟩ := R3.put (t := 88) Tryz.underlying3 Tryz.underlying88 (by omega) wx2.out vc
       go_simp
       clear hrun3 sz5 R3
       refine hK.out _ _ ?_
       clear hK K
       refine wpAnyL_done (by kernel_rfl) ?_ _
       have KF := k3.nxb (k4.nxb k5)
       have GN := GPH.out.two (x := x.id) (y := id) (fun h => hne2 h.symm) A KA la C KC lc KF R4
       have AN := AC.out.two (fun v g hg => ((GPH.out.row v).lt g hg).1) KA la KC lc KF
       have RR := lH (show CmRel x.id L (prsU N P j) bm wi.heap.size w4 w9 (.int .i64 ((i : Int) + 1)) wg from ⟨i + 1, m + 1 + 1, _, by omega, by go_num, by rw [LS.out, ← List.append_assoc, jOf_snoc, HJ.out]; exact GN, by rw [M2.out]; omega, AN⟩)
       clear GN AN KF A C KA KC la lc R4 k3 k4 k5 hHeld
       go_wp2_with fail
       exact ⟨RR.out, by simp [intOf]; omega⟩
     refine AllReadyL.cons (o := ⟨_, _, _, _, _, _⟩) rfl (fun K hK => ?_) AllReadyL.nil
     ·go_simp
      obtain ⟨g9, wq, hg9, hwq, SY, kk⟩ := litF hHeld.size x.id
      rw [← hg9, ← hwq]
      clear hg9 hwq
      (try replace SX := SX.nx kk)
      (first | replace hDrew := hDrew.nx kk | replace KE := KE.nx kk)
      replace hHeld := hold_ex hHeld zbp zgp kk
      clear kk
      refine hK.out _ _ (hHeld) (fun hHeld => ?_)
      clear hK K
      refine wpAnyL_ready (rs := [10]) (by kernel_rfl) (by simp) ?_
      refine AllReadyL.cons (o := ⟨_, _, _, _, _, _⟩) rfl (fun K hK => ?_) AllReadyL.nil
      go_simp
      obtain ⟨g8, wq, hg8, hwq, SX, kk⟩ := litF hHeld.size id
      rw [← hg8, ← hwq]
      clear hg8 hwq
      (try replace SY := SY.nx kk)
      replace hDrew := hDrew.nx kk
      replace hHeld := hold_ex hHeld zbp zgp kk
      clear kk
      refine hK.out _ _ (hHeld) (fun hHeld => ?_)
      clear hK K
      refine wpAnyL_ready (rs := [11]) (by kernel_rfl) (by simp) ?_
      refine AllReadyL.cons (o := ⟨_, _, _, _, _, _⟩) rfl (fun K hK => ?_) AllReadyL.nil
      rw [if_pos (by rfl)]
      have rx := (GPH.out.row x.id).nx hDrew
      have zbase := Nat.le_trans GPH.out.2.2.1 hDrew.size
      refine wp_append_rda (enc := encI) _ (.tmp 48) (.tmp 50) 22 rfl w4.heap.size 3 (.int .i64 0) 1 8 Tryz.underlying22 Tryz.infoI6 rfl (by omega) (by omega) _ (J x.id) rx rfl _ _ 1 1 [id] SX (fun h => by cases h) (fun _ => rfl) (by simp [encI, Value.oneCell']) rfl (by omega) (by omega) zbase ?_
      intro va w1 A ch0 ch1 hva
      have KA : Chg (fun k => k < wp.heap.size ∧ ¬ (f2 x.id).ownBlock = some k) wp w1 := Chg.trans (Chg.mono hDrew (fun k hk => hk.1)) (Chg.mono ch0 (fun k hk => ⟨Nat.lt_of_lt_of_le hk.1 hDrew.size, hk.2⟩))
      have la := own_hist hva hDrew.size
      (try replace SY := SY.row2 (fun g hg => ((GPH.out.row x.id).lt g hg).2) ch0)
      have KE := Ex.refl w1
      replace hHeld := hold_row hHeld zbp zgp (NB.out x.id) ch0
      have zb1 := Nat.le_trans zbase ch0.size
      clear ch0 ch1 hva rx hDrew SX
      refine hK.out _ _ (hHeld) (fun hHeld => ?_)
      clear hK K
      refine wpAnyL_ready (rs := [18]) (by kernel_rfl) (by simp) ?_
      refine AllReadyL.cons (o := ⟨_, _, _, _, _, _⟩) rfl (fun K hK => ?_) AllReadyL.nil
      rw [if_pos (by rfl)]
      have ry := ((GPH.out.row id).chg KA (fun g hg hv => ⟨hg, fun hx => GPH.out.2.2.2.2 id x.id g hne2 hv hx⟩)).nx KE
      have zb2 := Nat.le_trans zb1 KE.size
      refine wp_append_rda (enc := encI) _ (.tmp 54) (.tmp 57) 22 rfl w4.heap.size 3 (.int .i64 0) 1 8 Tryz.underlying22 Tryz.infoI6 rfl (by omega) (by omega) _ (J id) ry rfl _ _ 1 1 [x.id] SY (fun h => by cases h) (fun _ => rfl) (by simp [encI, Value.oneCell']) rfl (by omega) (by omega) zb2 ?_
      intro vc w2 C ch0 ch1 hvc
      have KC : Chg (fun k => k < w1.heap.size ∧ ¬ (f2 id).ownBlock = some k) w1 w2 := Chg.trans (Chg.mono KE (fun k hk => hk.1)) (Chg.mono ch0 (fun k hk => ⟨Nat.lt_of_lt_of_le hk.1 KE.size, hk.2⟩))
      have lc := own_hist hvc KE.size
      replace hHeld := hold_row hHeld zbp zgp (NB.out id) ch0
      clear ch0 ch1 hvc ry SY KE
      refine hK.out _ _ (hHeld) (fun hHeld => ?_)
      clear hK K
      refine wpAnyL_ready (rs := [19]) (by kernel_rfl) (by simp) ?_
      refine AllReadyL.consL (o := ⟨_, _, _, _, _, _⟩) rfl (by rfl) (fun K hK => ?_) AllReadyL.nil
      have R2 := RawM.same GPH.out.1 (hHeld.block bm (.inl rfl))
      obtain ⟨v0, st, we, hrun, k3, sz3, back⟩ := R2.entry (t := 88) Tryz.underlying3 Tryz.underlying88 (fun u => Tryz.zeroS u) (by omega) wx1.out
      go_simp
      clear hrun sz3 R2
      refine hK.out _ _ ?_
      clear hK K
      refine wpAnyL_takeP (i := 20) (oi := ⟨_, _, _, _, _, _⟩) (v := ?_) rfl (by kernel_rfl) (by kernel_rfl) (by kernel_rfl) (fun _ _ _ h => h) (Or.inl ⟨by rfl, ?y1x20q277⟩) ?z1x20q277
      case y1x20q277 => intro wq hSw; (go_simp); (try with_reducible rfl)
      refine wpAnyL_ready (rs := [21]) (by kernel_rfl) (by simp) ?_
      refine AllReadyL.consL (o := ⟨_, _, _, _, _, _⟩) rfl (by rfl) (fun K hK => ?_) AllReadyL.nil
      obtain ⟨wf, hrun2, R3, k4, sz4⟩ := back we va rfl
      simp only [goInt] at hrun2
      go_simp
      clear hrun2 sz4 back
      refine hK.out _ _ ?_
      clear hK K
      refine wpAnyL_ready (rs := [22]) (by kernel_rfl) (by simp) ?_
      refine AllReadyL.consL (o := ⟨_, _, _, _, _, _⟩) rfl (by rfl) (fun K hK => ?_) AllReadyL.nil
      obtain ⟨wg, hrun3, R4, k5, sz5⟩ := R3.put (t := 88) Tryz.underlying3 Tryz.underlying88 (by omega) wx2.out vc
      go_simp
      clear hrun3 sz5 R3
      refine hK.out _ _ ?_
      clear hK K
      refine wpAnyL_done (by kernel_rfl) ?_ _
      have KF := k3.nxb (k4.nxb k5)
      have GN := GPH.out.two (x := x.id) (y := id) (fun h => hne2 h.symm) A KA la C KC lc KF R4
      have AN := AC.out.two (fun v g hg => ((GPH.out.row v).lt g hg).1) KA la KC lc KF
      have RR := lH (show CmRel x.id L (prsU N P j) bm wi.heap.size w4 w9 (.int .i64 ((i : Int) + 1)) wg from ⟨i + 1, m + 1 + 1, _, by omega, by go_num, by rw [LS.out, ← List.append_assoc, jOf_snoc, HJ.out]; exact GN, by rw [M2.out]; omega, AN⟩)
      clear GN AN KF A C KA KC la lc R4 k3 k4 k5 hHeld
      go_wp2_with fail
      exact ⟨RR.out, by simp [intOf]; omega⟩
    ·obtain rfl : i = L.length := by omega
     rw [List.take_of_length_le (Nat.le_refl _), ← SN.out] at GP
     have RR := lH (show CnRel N P bm w4 (.int .i64 ((j : Int) + 1)) wp from ⟨j + 1, m, f2, by have := HL.out; omega, by go_num, GP, by rw [SN.out, List.length_append, List.length_map]; exact hm2, (ac.exb (KW.out.nxb (K9.out.b bm)) (Nat.le_refl _))⟩)
     clear GP ac
     go_wp2_with fail
     exact ⟨RR.out, by simp [intOf]; omega⟩
  ·have hjN : j = N.length := by have := HL.out; omega
   have PE := prsU_len HC.out P N.length
   rw [hjN] at GP
   rw [prsU_all] at GP PE
   clear hjN
   have HJ : Hid (∀ u v, v ∈ jOf (pairsN N P) u ↔ EdgeN N P u v ∨ EdgeN N P v u) := lH (fun u v => joined_law HC.out)
   have JX : Hid (∀ u, (jOf (pairsN N P) u).length ≤ 10000) := lH (fun u => by
    have h1 := ((jOf_law _ (pairsN N P) rfl (fun q hq => pairs_ne HC.out hq)) u).1
    omega)
   generalize jOf (pairsN N P) = J at GP HJ JX
   have GW := lH GP
   have KW := lH kw
   clear GP kw PE
   have G6 := SetM.made wi Tryz.prog 3 4
   have kk := Ex.new wi (.map #[] 0)
   obtain ⟨w6, hw6⟩ : ∃ w6, w6 = wi.alloc (.map #[] 0) := ⟨_, rfl⟩
   obtain ⟨bs, hbs⟩ : ∃ bs, bs = wi.heap.size := ⟨_, rfl⟩
   have hsz6 : w6.heap.size = bs + 1 := by rw [hw6, hbs]; simp
   rw [← hbs, ← hw6] at G6
   rw [← hw6] at kk
   have Hw6 := lH hw6
   have Hbs := lH hbs
   have Hbs' := lH hbs
   have K6 := lH kk
   replace G6 := lH G6
   replace hsz6 := lH hsz6
   clear kk hw6 hbs
   have hmm := @run_makeMap Tryz.prog
   go_upto_region 16 with fail
   rw [← Hbs.out, ← Hw6.out]
   clear Hbs Hw6
   clear hmm hjm hjn
   go_upto_if 66 with fail
   go_cut [12] from 67 to 71 (fun q wk => CqRel N bs w6 q wk)
   case first =>
    by_cases hn0 : n = 0
    ·have CUT : Hid (CqRel N bs w6 (.slice none 0 0) w6) := lH (by
      have : N = [] := List.eq_nil_of_length_eq_zero (by have := HL.out; omega)
      subst this
      exact ⟨.inl ⟨rfl, rfl⟩, Ex.refl _⟩)
     subst hn0
     go_wp2_with fail
     go_meet
     exact CUT.out
    ·have hn1 : 0 < n := by omega
     obtain ⟨x3, o3, x, rfl, hx3, hy, hc3⟩ := ((HS.out.nxb KW.out).nxb (K6.out.b bm)).sl.at hn1
     have e0 : w6.cell? ⟨x3, o3, none⟩ = some (.int .i64 x.id) := by simpa using hc3 0 _ rfl
     have HX := lH (startN_at hy)
     obtain ⟨g7, hg7⟩ : ∃ g7, g7 = w6.heap.size := ⟨_, rfl⟩
     obtain ⟨w7, hw7⟩ : ∃ w7, w7 = w6.alloc (.cells #[.int .i64 x.id] 3) := ⟨_, rfl⟩
     have CUT : Hid (CqRel N bs w6 (.slice (some ⟨g7, 0, none⟩) 1 1) w7) := lH (by
      unfold CqRel
      rw [HX.out, hg7, hw7]
      exact ⟨QuL.ofL (OwnL.lit [x.id] (fun _ => rfl) (by have := hsz6.out; omega) (by simp [maxLen]) rfl), Ex.new _ _⟩)
     have Hg7 := lH hg7
     have Hw7 := lH hw7
     clear hc3 hy hg7 hw7
     go_upto_region 19 with fail
     rw [← Hg7.out, ← Hw7.out]
     clear Hg7 Hw7
     go_wp2_with fail
     go_meet
     exact CUT.out
   case rest =>
    rename World => wk
    obtain ⟨Q1, k7⟩ := hcut
    have C0 : Hid (CbRel N P J bs wi (todoN N J [] (startN N)) u12 wk) := lH ⟨[], startN N, startN_bfs N P J, G6.out.nx k7, Q1, K6.out.nx k7, rfl, by have h1 := todo_le (N := N) (by have := HL.out; omega) JX.out [] (startN N); have h2 := startN_len N; omega⟩
    clear Q1 k7
    have hwb6 : wi.heap.size = bs := Hbs'.out.symm
    go_upto_region 19 with fail
    go_loopg [12] (todoN N J [] (startN N)) (fun k o wr => CbRel N P J bs wi k o wr)
    case atStart => exact C0.out
    case round =>
     clear C0
     obtain ⟨M, T, BF, SM, QT, kx, rfl, hk7⟩ := hrel
     obtain ⟨wp, rfl⟩ : ∃ wp : World, wp = wr := ⟨_, rfl⟩
     have HK7 := lH hk7
     have BL := lH (Nat.le_trans (bfs_len HC.out BF) (show N.length ≤ 64 by have := HL.out; omega))
     have BFH := lH BF
     have SMH := lH SM
     have KX := lH kx
     clear hk7 SM kx
     cases T with
     | nil =>
      obtain ⟨aq, cq, rfl⟩ := QT.no
      have RES : Hid (decide ((M.length : Int) = n) = connB N P) := lH (by rw [← HL.out]; exact conn_bool HC.out HJ.out BFH.out)
      have hlen := fun ty => SMH.out.len (t := 91) Tryz.underlying91 BFH.out.1 ty
      have KE := lH ((Exl.nxb (⟨EX1.out, hwb⟩ : Exl bm w w4) KW.out).nx KX.out).1
      clear BF QT
      go_wp2_with fail
      go_ret
      exact ⟨by rw [← RES.out]; rfl, KE.out⟩
     | cons v T =>
      obtain ⟨g, o, cap, rfl, hg, hbg, hc1, hcl, e0, Q2⟩ := QT.front
      obtain ⟨x, hx, hxv⟩ := bfs_node HC.out BFH.out (.inr (List.mem_cons_self ..))
      have hvI := lH (hxv ▸ HI.out x hx)
      have wv := lH (wf_of hvI.out)
      have TL := lH (Nat.le_trans (todo_len N J M (v :: T)) HK7.out)
      have lk := fun hz => SMH.out.get (t := 91) Tryz.underlying3 Tryz.underlying4 Tryz.underlying91 hz wv.out
      replace lk := lk (Tryz.zeroB _)
      clear QT BF
      by_cases hcap : cap = 1
      ·subst hcap
       obtain rfl : T = [] := List.eq_nil_of_length_eq_zero (by omega)
       replace Q2 : QuL 3 (bs + 1) wp (.slice (some ⟨g, o, none⟩) 0 0) [] := by rw [if_pos rfl] at Q2; exact Q2
       by_cases hv : v ∈ M
       ·have d1 : M.contains v = true := by simpa using hv
        have RR := lH (show CbRel N P J bs wi (todoN N J M []) (.slice (some ⟨g, o, none⟩) 0 0) wp from ⟨M, [], bfs_old BFH.out hv, SMH.out, Q2, KX.out, rfl, by have := HK7.out; have := todo_old N J M [] v; omega⟩)
        clear Q2
        go_wp2_with fail
        go_roundg (todoN N J M [])
        case measure => have := todo_old N J M [] v; omega
        case rel => exact RR.out
       ·have d1 : M.contains v = false := by simpa using hv
        obtain ⟨wq, hput, SM2, kb, hzq⟩ := SMH.out.put (t := 91) Tryz.underlying3 Tryz.underlying4 Tryz.underlying91 (by have := BL.out; omega) wv.out
        have kx2 := lH ((Exl.nxb (⟨KX.out, by omega⟩ : Exl bs wi wp) kb).1)
        have GQ := GW.out.nx kx2.out
        have lk2 := GQ.1.get (t := 88) Tryz.underlying3 Tryz.underlying88 (Tryz.zeroS _) wv.out
        obtain ⟨ar, cr, er, rr, hr0⟩ := (GQ.row v).rdz (fun _ => rfl)
        rw [er] at lk2
        have hq6 : bs + 1 ≤ wq.heap.size := by have := SM2.lt; omega
        obtain ⟨v9, w9, hap, Q3, c1, c2, _⟩ := (Q2.nxb (by omega) kb).append (P := Tryz.prog) 22 22 (z := .int .i64 0) (bytes := 8) Tryz.underlying22 Tryz.infoI6 rfl (by omega) rr hr0 (by have := TL.out; simp at this; omega) (by have := JX.out v; omega) hq6
        have TN : Hid (todoN N J (M ++ [v]) ([] ++ J v) + 1 = todoN N J M (v :: [])) := lH (by subst hxv; exact todo_new HC.out hx hv)
        have RR := lH (show CbRel N P J bs wi (todoN N J (M ++ [v]) ([] ++ J v)) v9 w9 from ⟨M ++ [v], [] ++ J v, bfs_new (fun u v => (HJ.out u v).1) BFH.out hv, SM2.same (c2.block bs (Nat.lt_succ_self _)), Q3, Chg.trans kx2.out (Chg.mono c2 fun k hk => by show k < bs + 1; omega), rfl, by have := HK7.out; have := TN.out; omega⟩)
        clear Q2 GQ er rr hr0 Q3 c1 c2 hx hxv SM2 kb
        go_wp2_with (at_builtin; go_loud (refine wpList_append_hap rfl _ _ 22 rfl hap rfl rfl ?_))
        go_roundg (todoN N J (M ++ [v]) ([] ++ J v))
        case measure => have := TN.out; omega
        case rel => exact RR.out
      ·rw [if_neg hcap] at Q2
       by_cases hv : v ∈ M
       ·have d1 : M.contains v = true := by simpa using hv
        have RR := lH (show CbRel N P J bs wi (todoN N J M T) (.slice (some ⟨g, o + 1, none⟩) T.length (cap - 1)) wp from ⟨M, T, bfs_old BFH.out hv, SMH.out, Q2, KX.out, rfl, by have := HK7.out; have := todo_old N J M T v; omega⟩)
        clear Q2
        go_wp2_with fail
        go_roundg (todoN N J M T)
        case measure => have := todo_old N J M T v; omega
        case rel => exact RR.out
       ·have d1 : M.contains v = false := by simpa using hv
        obtain ⟨wq, hput, SM2, kb, hzq⟩ := SMH.out.put (t := 91) Tryz.underlying3 Tryz.underlying4 Tryz.underlying91 (by have := BL.out; omega) wv.out
        have kx2 := lH ((Exl.nxb (⟨KX.out, by omega⟩ : Exl bs wi wp) kb).1)
        have GQ := GW.out.nx kx2.out
        have lk2 := GQ.1.get (t := 88) Tryz.underlying3 Tryz.underlying88 (Tryz.zeroS _) wv.out
        obtain ⟨ar, cr, er, rr, hr0⟩ := (GQ.row v).rdz (fun _ => rfl)
        rw [er] at lk2
        have hq6 : bs + 1 ≤ wq.heap.size := by have := SM2.lt; omega
        obtain ⟨v9, w9, hap, Q3, c1, c2, _⟩ := (Q2.nxb (by omega) kb).append (P := Tryz.prog) 22 22 (z := .int .i64 0) (bytes := 8) Tryz.underlying22 Tryz.infoI6 rfl (by omega) rr hr0 (by have := TL.out; simp at this; omega) (by have := JX.out v; omega) hq6
        have TN : Hid (todoN N J (M ++ [v]) (T ++ J v) + 1 = todoN N J M (v :: T)) := lH (by subst hxv; exact todo_new HC.out hx hv)
        have RR := lH (show CbRel N P J bs wi (todoN N J (M ++ [v]) (T ++ J v)) v9 w9 from ⟨M ++ [v], T ++ J v, bfs_new (fun u v => (HJ.out u v).1) BFH.out hv, SM2.same (c2.block bs (Nat.lt_succ_self _)), Q3, Chg.trans kx2.out (Chg.mono c2 fun k hk => by show k < bs + 1; omega), rfl, by have := HK7.out; have := TN.out; omega⟩)
        clear Q2 GQ er rr hr0 Q3 c1 c2 hx hxv SM2 kb
        go_wp2_with (at_builtin; go_loud (refine wpList_append_hap rfl _ _ 22 rfl hap rfl rfl ?_))
        go_roundg (todoN N J (M ++ [v]) (T ++ J v))
        case measure => have := TN.out; omega
        case rel => exact RR.out
theorem peers_at {N : List Nd} (h0 : checkN N = 0) (w : Int) {h : Nat} (hh : h ≤ 16) {x : Nd} (hx : x ∈ N) : peerN (peersN N w (h : Int)) x.id = peerC N w (h : Int) x := by
 rw [peers_map h0 w hh]
 exact peer_map (sort_ids h0) (fun x => by rw [peerC_eq h0]) ((sortN_mem N x).2 hx)
theorem peers_fullN {N : List Nd} (h0 : checkN N = 0) (w : Int) {h : Nat} (hh : h ≤ 16) : Full N (peersN N w (h : Int)) h := by
 refine ⟨⟨h0, fun x hx => ?_⟩, fun x hx => ?_⟩
 ·rw [peers_at h0 w hh hx, peerC_eq h0]; rfl
 ·rw [peers_at h0 w hh hx, peerC_eq h0]; simp
section
variable {N : List Nd} {P : List Pr}
theorem exact_conn (he : exactL N P) : ConnN N P := by
 have h0 := he.1
 refine ⟨h0, fun x hx y hy => ?_⟩
 refine chain_cl (sortN N) ?_ x ((sortN_mem N x).2 hx) y ((sortN_mem N y).2 hy)
 intro A a b B e
 have ha : a ∈ N := (sortN_mem N a).1 (by rw [e]; simp)
 have hb : b ∈ N := (sortN_mem N b).1 (by rw [e]; simp)
 refine ⟨⟨a, ha, rfl⟩, (mem_refs h0).2 ⟨⟨b, hb, rfl⟩, ?_, ?_⟩⟩
 ·rw [peer_id]
  have hids := sort_ids h0
  rw [e] at hids
  have := (List.pairwise_append.1 hids).2.1
  rw [List.pairwise_cons] at this
  exact fun h => this.1 b (by simp) h.symm
 ·have hn := neigh_split h0 ha (h := ((0 : Nat) : Int)) rfl (A := A) (B := b :: B) (by rw [grp_zero]; exact e)
  have hl := he.2 a ha
  rw [hn] at hl
  have hr : (peerN P a.id).right = b.id := (Prod.ext_iff.1 hl).2
  unfold numsP
  rw [hr]
  simp
end
end Go.Proofs.YtlgdjigocopglaaGreatDoor
