/- Texts for the statement SearchAgreesProof, part 4 of 11: Idl, NbP, NbI, NestB, Bd, Ils, BldP, MapI, Tape, TapeK, Key, TWord, Rost, TapeBool, TId, Odd. -/
import Derived.Test.YtkjlhcfocefhpaaDoorRows
import Derived.WalkArith
import Derived.Maps.OwnOps
import Derived.Maps.Views
import Derived.Deep.RegionHeld3
import Derived.Test.YtkjlhcfocefhpaaDoorSearchAgreesProofPk1
import Derived.Test.YtkjlhcfocefhpaaDoorSearchAgreesProofPk2
import Derived.Test.YtkjlhcfocefhpaaDoorSearchAgreesProofPk3

/- ordered and Height of the package ideal. -/
namespace Go.Proofs.YtkjlhcfocefhpaaDoor
open Go.RowKit

/-- a sorted list of nodes, and whether they are a roster -/
def OrdPost (l : List Nd) (w : World) (e : Ending) (w' : World) : Prop :=
  ∃ (v : Value) (S : List Nd), e = .returned (.tuple #[v, .bool (checkN l == 0)]) ∧ OwnL 3 encN 48 w.heap.size w' v S ∧ (S.Perm l ∧ (checkN l = 0 → S = sortN l)) ∧ Ex w w'
set_option maxHeartbeats 1000000 in
theorem ordered_p (a : Option Addr) (n c : Nat) (l : List Nd) (w : World) (h : Sl 3 encN w a n l) (hn : n ≤ 1000) (hc : n ≤ c) (hm : c ≤ maxLen) :
    Calls Tryd.prog 79 #[.slice a n c] w (OrdPost l w) := by
  go_enter Tryd.func79, Tryd.ntmps79
  go_wp2_with fail
  (with_reducible refine (sort_p _ _ _ _ _ h hn).mono ?_)
  rintro e w1 ⟨v, S, rfl, own1, ⟨hp, ha⟩, k1⟩
  have h1 := h.nx k1
  have O1 := Lib.hid own1
  have HP := Lib.hid hp
  have HA := Lib.hid ha
  have K1 := Lib.hid k1
  clear h own1 hp ha k1
  go_wp2_with fail
  (with_reducible refine (check_p _ _ _ _ _ h1 (by omega) hc hm).mono ?_)
  rintro e w2 ⟨rfl, k2⟩
  have O2 := Lib.hid (O1.out.nx k2)
  have K2 := Lib.hid (K1.out.nx k2)
  clear h1 k2
  go_wp2_with fail
  go_ret2
  exact ⟨v, S, rfl, O2.out, ⟨HP.out, fun h0 => sortN_unique (check_keys h0) HP.out HA.out⟩, K2.out⟩

def HpRel (l : List Nd) (w : World) (i : Value) (wr : World) : Prop := ∃ k : Nat, k ≤ 16 ∧ i = .int .i64 k ∧ Ex w wr ∧ ∀ j, j < k → (classesN l (j : Nat)).length < l.length
set_option maxHeartbeats 2000000 in
theorem height_p (a : Option Addr) (n c : Nat) (l : List Nd) (w : World) (hs : Sl 3 encN w a n l) (hn : n ≤ 1000) (hc : n ≤ c) (hm : c ≤ maxLen) (hw : ∀ x ∈ l, x.word < 4294967296) (hT : TabG w) :
    Calls Tryd.prog 51 #[.slice a n c] w fun e w' => e = .returned (.int .i64 (heightN l)) ∧ Ex w w' := by
  have HW := Lib.hid hw
  have HL := Lib.hid hs.len
  have HT := Lib.hid hT
  have CNT : ∀ j : Int, (classesN (sortN l) j).length = (classesN l j).length := fun j => classes_count (sortN_perm l) (fun y hy => HW.out y ((sortN_mem l y).1 hy))
  have CNT := Lib.hid CNT
  clear hw hT
  go_enter Tryd.func51, Tryd.ntmps51
  go_wp2_with fail
  (with_reducible refine (check_p _ _ _ _ _ hs (by omega) hc hm).mono ?_)
  rintro e w1 ⟨rfl, k1⟩
  have S1 := hs.nx k1
  clear hs
  by_cases hck : checkN l = 0
  · have HC := Lib.hid hck
    rw [hck]
    clear hck
    have S1 := Lib.hid S1
    have HT1 := Lib.hid (HT.out.nx k1)
    go_wp2_with fail
    go_loopw [7] (fun i wr => HpRel l w1 i wr) (fun i _ => 16 - (intOf i).toNat)
    case atStart => exact ⟨0, by omega, rfl, Ex.refl _, by intro _ h; omega⟩
    case round =>
      obtain ⟨k, hk, rfl, kw, hno⟩ := hrel
      have HNO := Lib.hid hno
      obtain ⟨wo, rfl⟩ : ∃ wo : World, wo = wr := ⟨_, rfl⟩
      clear hno
      by_cases hlt : k < 16
      · have SO := S1.out.nx kw
        have TO := HT1.out.nx kw
        go_wp2_with fail
        (with_reducible refine (classes_p _ _ _ _ _ _ SO hn HW.out TO).mono ?_)
        rintro e w2 ⟨a2, c2, rfl, C2, k2⟩
        replace kw := kw.nx k2
        clear SO C2 TO
        have hle := classes_le l (k : Int)
        by_cases heq : (classesN l (k : Int)).length = l.length
        · have d1 : (((classesN l (k : Int)).length : Int) == (n : Int)) = true := by rw [beq_iff_eq, heq, HL.out]
          have HH : Hid (heightN l = k) := Lib.hid (by
            by_cases h0 : l.length = 0
            · have : k = 0 := by
                rcases Nat.eq_zero_or_pos k with h | h
                · exact h
                · have := HNO.out 0 h; omega
              rw [this]; unfold heightN; rw [if_pos (.inr h0)]
            · exact heightN_of hlt (by rw [HC.out]; rfl) h0 (by rw [CNT.out, heq]; omega) (fun j hj => by rw [CNT.out]; exact HNO.out j hj))
          clear heq hle
          go_wp2_with fail
          go_ret
          exact ⟨by rw [HH.out]; rfl, k1.nx kw⟩
        · have d1 : (((classesN l (k : Int)).length : Int) == (n : Int)) = false := by rw [beq_eq_false_iff_ne, ← HL.out]; omega
          have HM : Hid ((classesN l (k : Int)).length < l.length) := Lib.hid (by omega)
          clear heq hle
          go_wp2_with fail
          refine ⟨⟨k + 1, by omega, by go_num, kw, fun j hj => ?_⟩, by simp [intOf]; omega⟩
          rcases Nat.lt_or_ge j k with h | h
          · exact HNO.out j h
          · obtain rfl : j = k := by omega
            exact HM.out
      · obtain rfl : k = 16 := by omega
        have HH : Hid (heightN l = 16) := Lib.hid (heightN_top (by rw [HC.out]; rfl) (by have := HNO.out 0 (by omega); omega) (fun j hj => by rw [CNT.out]; exact HNO.out j hj))
        have KW := Lib.hid (k1.nx kw)
        clear kw hk hlt
        go_wp2_with fail
        go_ret
        exact ⟨by rw [HH.out]; rfl, KW.out⟩
  · have d1 : (checkN l != 0) = true := by rw [bne_iff_ne]; exact hck
    have HH : Hid (heightN l = 0) := Lib.hid (by unfold heightN; rw [if_pos (.inl (by rw [beq_eq_false_iff_ne]; exact hck))])
    clear S1 hck
    go_wp2_with fail
    go_ret
    exact ⟨by rw [HH.out]; rfl, k1⟩

/-- the neighbours that are found in a list of nodes: the last one before x, the first one behind it -/
def nbStep (x : Nd) (s : Int × Int) (y : Nd) : Int × Int :=
  (if Op.bytesLess y.key.toList x.key.toList then y.id else s.1, if !(Op.bytesLess y.key.toList x.key.toList || y.key.toList == x.key.toList) && s.2 == 0 then y.id else s.2)
def nbFold (x : Nd) (G : List Nd) : Int × Int := G.foldl (nbStep x) (0, 0)
theorem nbFold_snoc (x : Nd) (G : List Nd) (k : Nat) (y : Nd) (hy : G[k]? = some y) : nbFold x (G.take (k + 1)) = nbStep x (nbFold x (G.take k)) y := by
  unfold nbFold
  rw [take_snocN G k y hy, List.foldl_append]
  rfl
end Go.Proofs.YtkjlhcfocefhpaaDoor

/- The neighbours of a node in a sorted list, in plain Lean. -/
namespace Go.Proofs.YtkjlhcfocefhpaaDoor
open Go.RowKit

/-- strictly ascending by key, with different numbers -/
def AscS (l : List Nd) : Prop := l.Pairwise fun x y => Op.bytesLess x.key.toList y.key.toList = true ∧ x.id ≠ y.id
theorem keys_pw {l : List Nd} (h : KeysN l) : l.Pairwise fun x y => x.key.toList ≠ y.key.toList ∧ x.id ≠ y.id := by
  rw [List.pairwise_iff_getElem]
  intro i j hi hj hij
  have := h j i l[j] l[i] hij (List.getElem?_eq_getElem hj) (List.getElem?_eq_getElem hi)
  refine ⟨fun he => this.1 ?_, fun he => this.2 he.symm⟩
  rw [ByteArray.toList_eq, ByteArray.toList_eq] at he
  exact (ByteArray.ext (Array.toList_inj.1 he)).symm
theorem sortN_str {l : List Nd} (h : checkN l = 0) : AscS (sortN l) := by
  have h1 : (sortN l).Pairwise fun x y => x.key.toList ≠ y.key.toList ∧ x.id ≠ y.id :=
    ((sortN_perm l).symm.pairwise_iff (fun {x y} hxy => ⟨fun he => hxy.1 he.symm, fun he => hxy.2 he.symm⟩)).1 (keys_pw (check_keys h))
  have h2 := sortN_asc l
  unfold AscN at h2
  unfold AscS
  refine (h1.and h2).imp ?_
  rintro x y ⟨⟨a, b⟩, c⟩
  rw [ltN_no] at c
  rcases c with c | ⟨c, _⟩
  · exact ⟨c, b⟩
  · exact absurd c.symm a
theorem asc_group {l : List Nd} (h : AscS l) (lev : Int) (v : Nat) : AscS (groupN l lev v) := List.Pairwise.filter _ h
theorem asc_at {G : List Nd} (h : AscS G) {i j : Nat} {x y : Nd} (hx : G[i]? = some x) (hy : G[j]? = some y) (hij : i < j) : Op.bytesLess x.key.toList y.key.toList = true ∧ x.id ≠ y.id := by
  obtain ⟨hi, e1⟩ := List.getElem?_eq_some_iff.1 hx
  obtain ⟨hj, e2⟩ := List.getElem?_eq_some_iff.1 hy
  have := List.pairwise_iff_getElem.1 h i j hi hj hij
  rwa [e1, e2] at this
theorem idxI_at {G : List Nd} (h : AscS G) {i : Nat} {x : Nd} (hx : G[i]? = some x) : idxI G x.id = i := by
  refine idxI_of hx rfl fun j z hj hz => ?_
  exact (asc_at h hz hx hj).2
theorem step_less {x y : Nd} {s : Int × Int} (h : Op.bytesLess y.key.toList x.key.toList = true) : nbStep x s y = (y.id, s.2) := by unfold nbStep; rw [h]; rfl
theorem step_same (x : Nd) (s : Int × Int) : nbStep x s x = s := by unfold nbStep; simp [bytesLess_irrefl]
theorem step_more {x y : Nd} {s : Int × Int} (h : Op.bytesLess x.key.toList y.key.toList = true) : nbStep x s y = (s.1, if s.2 = 0 then y.id else s.2) := by
  have h1 := bl_asymm h
  have h2 : (y.key.toList == x.key.toList) = false := by
    rw [beq_eq_false_iff_ne]
    intro he
    rw [he, bytesLess_irrefl] at h
    cases h
  unfold nbStep
  rw [h1, h2]
  simp
theorem nbFold_a {G : List Nd} (h : AscS G) {i : Nat} {x : Nd} (hx : G[i]? = some x) : ∀ k, k ≤ i → nbFold x (G.take k) = (leftN G k, 0) := by
  intro k
  induction k with
  | zero => intro _; rfl
  | succ k ih =>
    intro hk
    have hl := (List.getElem?_eq_some_iff.1 hx).1
    obtain ⟨y, hy⟩ : ∃ y, G[k]? = some y := ⟨G[k], List.getElem?_eq_getElem (by omega)⟩
    rw [nbFold_snoc x G k y hy, ih (by omega), step_less (asc_at h hy hx (by omega)).1]
    show ((y.id, 0) : Int × Int) = (leftN G (k + 1), 0)
    unfold leftN
    rw [if_neg (by omega), Nat.add_sub_cancel, hy]
    rfl
theorem nbFold_b {G : List Nd} (h : AscS G) {i : Nat} {x : Nd} (hx : G[i]? = some x) : nbFold x (G.take (i + 1)) = (leftN G i, 0) := by
  rw [nbFold_snoc x G i x hx, nbFold_a h hx i (Nat.le_refl _), step_same]
theorem nbFold_c {G : List Nd} (h : AscS G) (hid : ∀ y ∈ G, 1 ≤ y.id) {i : Nat} {x : Nd} (hx : G[i]? = some x) : ∀ d, i + 2 + d ≤ G.length → nbFold x (G.take (i + 2 + d)) = (leftN G i, rightN G i) := by
  intro d hd
  have hd0 : i + 1 < G.length := by omega
  obtain ⟨z, hz⟩ : ∃ z, G[i + 1]? = some z := ⟨G[i + 1], List.getElem?_eq_getElem hd0⟩
  have hz1 := hid z (List.mem_of_getElem? hz)
  have hr : rightN G i = z.id := by unfold rightN; rw [hz]; rfl
  induction d with
  | zero =>
    rw [Nat.add_zero, show i + 2 = i + 1 + 1 from rfl, nbFold_snoc x G (i + 1) z hz, nbFold_b h hx, step_more (asc_at h hx hz (by omega)).1, hr]
    rfl
  | succ d ih =>
    obtain ⟨y, hy⟩ : ∃ y, G[i + 2 + d]? = some y := ⟨G[i + 2 + d]'(by omega), List.getElem?_eq_getElem (by omega)⟩
    rw [← Nat.add_assoc, nbFold_snoc x G (i + 2 + d) y hy, ih (by omega), step_more (asc_at h hx hy (by omega)).1]
    show (leftN G i, if rightN G i = 0 then y.id else rightN G i) = _
    rw [if_neg (by rw [hr]; omega)]
theorem nbFold_all {G : List Nd} (h : AscS G) (hid : ∀ y ∈ G, 1 ≤ y.id) {i : Nat} {x : Nd} (hx : G[i]? = some x) : nbFold x G = (leftN G i, rightN G i) := by
  have hl := (List.getElem?_eq_some_iff.1 hx).1
  rcases Nat.lt_or_ge (i + 1) G.length with h1 | h1
  · have := nbFold_c h hid hx (G.length - (i + 2)) (by omega)
    rwa [show i + 2 + (G.length - (i + 2)) = G.length by omega, List.take_length] at this
  · have := nbFold_b h hx
    rw [show i + 1 = G.length by omega, List.take_length] at this
    rw [this]
    have : rightN G i = 0 := by unfold rightN; rw [List.getElem?_eq_none h1]; rfl
    rw [this]
/-- the neighbours by the definition of the reference -/
theorem neighN_no {l : List Nd} {id h : Int} (hno : checkN l ≠ 0 ∨ (findN l id).2 = false ∨ lvlN h = false) : neighN l id h = ((0, 0), false) := by
  have ht : throughN l id h = ([], 0, false) := by
    unfold throughN
    rw [if_neg]
    rintro ⟨h1, h2, h3, _⟩
    rcases hno with h | h | h
    · exact h (by simpa using h2)
    · rw [h1] at h; cases h
    · rw [h3] at h; cases h
  unfold neighN
  rw [ht]
  rfl
theorem findN_mem {l : List Nd} {id : Int} (h : (findN l id).2 = true) : (findN l id).1 ∈ l ∧ (findN l id).1.id = id := by
  unfold findN at *
  cases e : l.find? (fun x => x.id == id) with
  | none => rw [e] at h; cases h
  | some x =>
    exact ⟨List.mem_of_find?_eq_some e, by simpa using List.find?_some e⟩
theorem neighN_yes {l : List Nd} {id h : Int} (h1 : checkN l = 0) (h2 : (findN l id).2 = true) (h3 : lvlN h = true) :
    ∃ i, (thrG l id h)[i]? = some (findN l id).1 ∧ throughN l id h = (thrG l id h, i, true) ∧ neighN l id h = ((leftN (thrG l id h) i, rightN (thrG l id h) i), true) := by
  obtain ⟨m1, m2⟩ := findN_mem h2
  have hA : AscS (thrG l id h) := asc_group (sortN_str h1) h _
  have hm : (findN l id).1 ∈ thrG l id h := by
    unfold thrG groupN
    rw [List.mem_filter]
    exact ⟨(sortN_mem l _).2 m1, sameN_refl _ (by unfold lvlN at h3; simp at h3; exact h3.2)⟩
  obtain ⟨i, hi⟩ := List.mem_iff_getElem?.1 hm
  have hid := idxI_at hA hi
  rw [m2] at hid
  have hlt := (List.getElem?_eq_some_iff.1 hi).1
  have ht : throughN l id h = (thrG l id h, i, true) := by
    unfold throughN
    rw [if_pos ⟨h2, by rw [h1]; rfl, h3, by rw [hid]; exact hlt⟩, hid]
  refine ⟨i, hi, ht, ?_⟩
  unfold neighN
  rw [ht]
  rfl
theorem nbFold_neigh {l : List Nd} {id h : Int} (h1 : checkN l = 0) (h2 : (findN l id).2 = true) (h3 : lvlN h = true) : neighN l id h = (nbFold (findN l id).1 (thrG l id h), true) := by
  obtain ⟨i, hi, _, hn⟩ := neighN_yes h1 h2 h3
  have hA : AscS (thrG l id h) := asc_group (sortN_str h1) h _
  have hid : ∀ y ∈ thrG l id h, 1 ≤ y.id := fun y hy => by
    unfold thrG groupN at hy
    have := (sortN_mem l y).1 (List.mem_filter.1 hy).1
    unfold checkN at h1
    split at h1
    · omega
    · split at h1
      · omega
      · rename_i hb
        have hb : badN y = false := by
          cases hy2 : badN y with
          | false => rfl
          | true => exact absurd (List.any_eq_true.2 ⟨y, this, hy2⟩) hb
        unfold badN at hb
        simp only [Bool.or_eq_false_iff, decide_eq_false_iff_not] at hb
        omega
  rw [hn, nbFold_all hA hid hi]
end Go.Proofs.YtkjlhcfocefhpaaDoor

/- Neighbours of the package ideal. -/
namespace Go.Proofs.YtkjlhcfocefhpaaDoor
open Go.RowKit

def NiRel (x : Nd) (G : List Nd) (g12 : Nat) (w : World) (i : Value) (wr : World) : Prop :=
  ∃ k : Nat, k ≤ G.length ∧ i = .int .i64 k ∧ Exb g12 w wr ∧ Blk wr g12 [.int .i64 (nbFold x (G.take k)).1, .int .i64 (nbFold x (G.take k)).2] 74
theorem ng_no {l : List Nd} {id h : Int} {w w' : World} (hno : neighN l id h = ((0, 0), false)) (k : Ex w w') : NgPost (neighN l id h) w (.returned (.tuple #[.agg #[.int .i64 0, .int .i64 0], .bool false])) w' := by
  rw [hno]; exact ⟨rfl, k⟩
theorem ng_yes {l : List Nd} {id h : Int} {x : Nd} {G : List Nd} {w w' : World} (hy : neighN l id h = (nbFold x G, true)) (k : Ex w w') : NgPost (neighN l id h) w (.returned (.tuple #[.agg #[.int .i64 (nbFold x G).1, .int .i64 (nbFold x G).2], .bool true])) w' := by
  rw [hy]; exact ⟨rfl, k⟩
theorem OwnL.sl3 {sz e base : Nat} {α : Type} {enc : α → List Value} {w : World} {v : Value} {l : List α} (h : OwnL sz enc e base w v l) (hsz : ∀ y, (enc y).length = sz) : ∃ a cap, v = .slice a l.length cap ∧ Sl sz enc w a l.length l ∧ l.length ≤ cap ∧ cap ≤ maxLen := by
  obtain ⟨a, cap, e, h1, h2, h3, _⟩ := h.rd hsz
  exact ⟨a, cap, e, h1.mono (fun _ hk => hk.2), h2, h3⟩

set_option maxRecDepth 100000 in
set_option maxHeartbeats 2000000 in
theorem neigh_p (a : Option Addr) (n c : Nat) (l : List Nd) (id h : Int) (w : World) (hs : Sl 3 encN w a n l) (hn : n ≤ 1000) (hc : n ≤ c) (hm : c ≤ maxLen) (hw : ∀ x ∈ l, x.word < 4294967296) (hT : TabG w) :
    Calls Tryd.prog 50 #[.slice a n c, .int .i64 id, .int .i64 h] w (NgPost (neighN l id h) w) := by
  have HW := Lib.hid hw
  have HXW := findN_word hw id
  have HL := Lib.hid hs.len
  have k1 := Ex.new w (.cells #[.int .i64 0, .int .i64 0] 74)
  have B1 := Blk.new w [.int .i64 0, .int .i64 0] 74
  obtain ⟨w1, hw1⟩ : ∃ w1, w1 = w.alloc (.cells #[.int .i64 0, .int .i64 0] 74) := ⟨_, rfl⟩
  obtain ⟨g, hg⟩ : ∃ g, g = w.heap.size := ⟨_, rfl⟩
  have B1 : Blk w1 g [.int .i64 0, .int .i64 0] 74 := by rw [hw1, hg]; exact B1
  rw [← hw1] at k1
  have hgn : w.heap.size ≤ g := by omega
  have HW1 := Lib.hid hw1
  have HG := Lib.hid hg
  have S1 := hs.nx k1
  have HT := Lib.hid (hT.nx k1)
  clear hs hw1 hg hw hT
  go_enter Tryd.func50, Tryd.ntmps50
  go_upto_region 1 with fail
  rw [← HG.out, ← HW1.out]
  go_wp2_with fail
  (with_reducible refine (ordered_p _ _ _ _ _ S1 hn hc hm).mono ?_)
  rintro e w2 ⟨v, S, rfl, OS, ⟨hp, hsrt⟩, k2⟩
  have SL := Lib.hid hp.length_eq
  have HSR := Lib.hid hsrt
  have SW : Hid (∀ x ∈ S, x.word < 4294967296) := Lib.hid (fun x hx => HW.out x (hp.mem_iff.1 hx))
  replace S1 := S1.nx k2
  replace B1 := B1.nx k2
  replace HT := Lib.hid (HT.out.nx k2)
  replace k1 := k1.nx k2
  have OS := Lib.hid OS
  clear hp hsrt k2
  go_wp2_with fail
  (with_reducible refine (find_p _ _ _ _ _ _ S1 (by omega)).mono ?_)
  rintro e w3 ⟨rfl, k3⟩
  obtain ⟨F, hF⟩ : ∃ F, F = findN l id := ⟨_, rfl⟩
  have HF := Lib.hid hF
  rw [← hF] at HXW ⊢
  obtain ⟨⟨xi, xk, xw⟩, ok⟩ := F
  have k4 := Ex.new w3 (.cells #[.int .i64 xi, .string xk, .int .u32 xw] 48)
  have B2 := Blk.new w3 [.int .i64 xi, .string xk, .int .u32 xw] 48
  obtain ⟨w4, hw4⟩ : ∃ w4, w4 = w3.alloc (.cells #[.int .i64 xi, .string xk, .int .u32 xw] 48) := ⟨_, rfl⟩
  obtain ⟨g2, hg2⟩ : ∃ g2, g2 = w3.heap.size := ⟨_, rfl⟩
  have B2 : Blk w4 g2 [.int .i64 xi, .string xk, .int .u32 xw] 48 := by rw [hw4, hg2]; exact B2
  rw [← hw4] at k4
  have HW4 := Lib.hid hw4
  have HG2 := Lib.hid hg2
  replace k3 := k3.nx k4
  replace OS := Lib.hid (OS.out.nx k3)
  replace B1 := B1.nx k3
  replace HT := Lib.hid (HT.out.nx k3)
  replace k1 := k1.nx k3
  clear hF hw4 hg2 k4 k3 S1
  simp only [Nd.val]
  go_upto_region 3 with fail
  rw [← HG2.out, ← HW4.out]
  by_cases hck : checkN l = 0
  case neg =>
    have HNO : Hid (neighN l id h = ((0, 0), false)) := Lib.hid (neighN_no (.inl hck))
    have d1 : (checkN l == 0) = false := by simpa using hck
    rw [d1]
    have q0 := B1.cell 0 _ rfl
    have q1 := B1.cell 1 _ rfl
    have z0 := B1.free 0
    have z1 := B1.free 1
    clear hck d1 B2
    go_wp2_with fail
    refine bodyPost_ret (v := .tuple #[.agg #[.int .i64 0, .int .i64 0], .bool false]) (by simp [results, Tryd.results50, go_sem, *]) rfl (ng_no HNO.out ?_)
    exact (k1.setNew (p := ⟨g, 0, none⟩) _ hgn).setNew (p := ⟨g, 1, none⟩) _ hgn
  have HCK := Lib.hid hck
  have d1 : (checkN l == 0) = true := by simpa using hck
  rw [d1]
  clear hck d1
  cases ok with
  | false =>
    have HNO : Hid (neighN l id h = ((0, 0), false)) := Lib.hid (neighN_no (.inr (.inl (by rw [← HF.out]))))
    have q0 := B1.cell 0 _ rfl
    have q1 := B1.cell 1 _ rfl
    have z0 := B1.free 0
    have z1 := B1.free 1
    clear B2
    go_wp2_with fail
    refine bodyPost_ret (v := .tuple #[.agg #[.int .i64 0, .int .i64 0], .bool false]) (by simp [results, Tryd.results50, go_sem, *]) rfl (ng_no HNO.out ?_)
    exact (k1.setNew (p := ⟨g, 0, none⟩) _ hgn).setNew (p := ⟨g, 1, none⟩) _ hgn
  | true =>
    by_cases hlo : h < 0
    · have HNO : Hid (neighN l id h = ((0, 0), false)) := Lib.hid (neighN_no (.inr (.inr (by unfold lvlN; simp; omega))))
      have q0 := B1.cell 0 _ rfl
      have q1 := B1.cell 1 _ rfl
      have z0 := B1.free 0
      have z1 := B1.free 1
      clear B2
      go_wp2_with fail
      refine bodyPost_ret (v := .tuple #[.agg #[.int .i64 0, .int .i64 0], .bool false]) (by simp [results, Tryd.results50, go_sem, *]) rfl (ng_no HNO.out ?_)
      exact (k1.setNew (p := ⟨g, 0, none⟩) _ hgn).setNew (p := ⟨g, 1, none⟩) _ hgn
    · by_cases hhi : 16 < h
      · have HNO : Hid (neighN l id h = ((0, 0), false)) := Lib.hid (neighN_no (.inr (.inr (by unfold lvlN; simp; omega))))
        have q0 := B1.cell 0 _ rfl
        have q1 := B1.cell 1 _ rfl
        have z0 := B1.free 0
        have z1 := B1.free 1
        clear B2
        go_wp2_with fail
        refine bodyPost_ret (v := .tuple #[.agg #[.int .i64 0, .int .i64 0], .bool false]) (by simp [results, Tryd.results50, go_sem, *]) rfl (ng_no HNO.out ?_)
        exact (k1.setNew (p := ⟨g, 0, none⟩) _ hgn).setNew (p := ⟨g, 1, none⟩) _ hgn
      · have HYES : Hid (neighN l id h = (nbFold ⟨xi, xk, xw⟩ (groupN S h xw), true)) := Lib.hid (by
          have := nbFold_neigh (l := l) (id := id) (h := h) HCK.out (by rw [← HF.out]) (by unfold lvlN; simp; omega)
          unfold thrG at this
          rw [← HF.out, ← HSR.out HCK.out] at this
          exact this)
        have k5 := Ex.new w4 (.cells #[.int .i64 0, .int .i64 0] 74)
        have B3 := Blk.new w4 [.int .i64 0, .int .i64 0] 74
        obtain ⟨w5, hw5⟩ : ∃ w5, w5 = w4.alloc (.cells #[.int .i64 0, .int .i64 0] 74) := ⟨_, rfl⟩
        obtain ⟨g3, hg3⟩ : ∃ g3, g3 = w4.heap.size := ⟨_, rfl⟩
        have B3 : Blk w5 g3 [.int .i64 0, .int .i64 0] 74 := by rw [hw5, hg3]; exact B3
        rw [← hw5] at k5
        have h13 : g ≠ g3 := by have := B1.lt; omega
        have h23 : g2 ≠ g3 := by have := B2.lt; omega
        have hgn3 : w.heap.size ≤ g3 := by have := k1.size; omega
        have HW5 := Lib.hid hw5
        have HG3 := Lib.hid hg3
        replace OS := OS.out.nx k5
        replace B1 := B1.nx k5
        replace B2 := B2.nx k5
        replace HT := Lib.hid (HT.out.nx k5)
        replace k1 := k1.nx k5
        obtain ⟨aS, cS, rfl, sS, _, _⟩ := OS.sl3 (fun _ => rfl)
        have b22 := B2.cell 2 _ rfl
        have hnS : S.length ≤ 1000 := by have := HL.out; have := SL.out; omega
        clear hw5 hg3 k5
        go_upto_region 6 with fail
        rw [← HG3.out, ← HW5.out]
        clear OS
        have sS : Rd 3 encN (· < w5.heap.size) w5 aS S.length S := sS
        go_wp2_with fail
        (with_reducible refine (group_p _ _ _ _ _ _ _ sS (fun _ hk => hk) hnS SW.out HXW HT.out).mono ?_)
        rintro e w6 ⟨a6, n6, c6, rfl, r6, k6⟩
        have r6 : Slf 3 encN w5 w6 a6 n6 _ := r6
        replace k6 : Ex w5 w6 := k6
        have hgl := groupN_length S h xw
        generalize groupN S h xw = G at r6 HYES hgl ⊢
        have RG := Lib.hid (r6.slb B3.lt)
        have hng := r6.len
        subst hng
        replace B1 := B1.nx k6
        replace B2 := Lib.hid (B2.nx k6)
        replace B3 := B3.nx k6
        replace k1 := k1.nx k6
        have B1 := Lib.hid B1
        clear r6 k6 sS b22
        have hG6 : G.length ≤ 1000 := by omega
        go_wp2_with fail
        go_loopw [47] (fun i wr => NiRel ⟨xi, xk, xw⟩ G g3 w6 i wr) (fun i _ => G.length - (intOf i).toNat)
        case atStart => exact ⟨0, by omega, rfl, Exb.refl _ _, B3⟩
        case round =>
          obtain ⟨k, hk, rfl, kw, B3⟩ := hrel
          obtain ⟨wo, rfl⟩ : ∃ wo : World, wo = wr := ⟨_, rfl⟩
          by_cases hlt : k < G.length
          · obtain ⟨x1, o1, y, rfl, hx1, hy, hc1⟩ := ((RG.out.nxb kw).sl).at hlt
            obtain ⟨yi, yk, yw⟩ := y
            have e0 : wo.cell? ⟨x1, o1 + k * 3, none⟩ = some (.int .i64 yi) := hc1 0 _ rfl
            have e1 : wo.cell? ⟨x1, o1 + k * 3 + 1, none⟩ = some (.string yk) := hc1 1 _ rfl
            have e2 : wo.cell? ⟨x1, o1 + k * 3 + 2, none⟩ = some (.int .u32 yw) := hc1 2 _ rfl
            have e2' : wo.cell? ⟨x1, o1 + k * 3 + 1 + 1, none⟩ = some (.int .u32 yw) := e2
            have FS : Hid (nbFold ⟨xi, xk, xw⟩ (G.take (k + 1)) = nbStep ⟨xi, xk, xw⟩ (nbFold ⟨xi, xk, xw⟩ (G.take k)) ⟨yi, yk, yw⟩) := Lib.hid (nbFold_snoc _ _ _ _ hy)
            clear hy hc1
            obtain ⟨FF, hFF⟩ : ∃ FF, FF = nbFold ⟨xi, xk, xw⟩ (G.take k) := ⟨_, rfl⟩
            rw [← hFF] at B3 FS
            clear hFF
            obtain ⟨f1, f2⟩ := FF
            have k7 := Ex.new wo (.cells #[.int .i64 yi, .string yk, .int .u32 yw] 48)
            have B4 := Blk.new wo [.int .i64 yi, .string yk, .int .u32 yw] 48
            obtain ⟨w7, hw7⟩ : ∃ w7, w7 = wo.alloc (.cells #[.int .i64 yi, .string yk, .int .u32 yw] 48) := ⟨_, rfl⟩
            obtain ⟨g4, hg4⟩ : ∃ g4, g4 = wo.heap.size := ⟨_, rfl⟩
            have B4 : Blk w7 g4 [.int .i64 yi, .string yk, .int .u32 yw] 48 := by rw [hw7, hg4]; exact B4
            rw [← hw7] at k7
            have h34 : g3 ≠ g4 := by have := B3.lt; omega
            have HW7 := Lib.hid hw7
            have HG4 := Lib.hid hg4
            have B3 := B3.nx k7
            have kw := kw.nxb (k7.b g3)
            have B2' := B2.out.nxb h23 kw
            clear hw7 hg4 k7
            go_upto_region 9 with fail
            rw [← HG4.out, ← HW7.out]
            clear e0 e1 e2 e2'
            have p1 := B2'.cell 1 _ rfl
            have y0 := B4.cell 0 _ rfl
            have y1 := B4.cell 1 _ rfl
            have t0 := B3.cell 0 _ rfl
            have t1 := B3.cell 1 _ rfl
            have z0 := B3.free 0
            have z1 := B3.free 1
            cases hb : Op.bytesLess yk.toList xk.toList with
            | true =>
              have FS' : Hid (nbFold ⟨xi, xk, xw⟩ (G.take (k + 1)) = (yi, f2)) := Lib.hid (by rw [FS.out]; exact step_less hb)
              have B3' := B3.set 0 (.int .i64 yi)
              clear B2' B4 B3
              go_wp2_with fail
              refine ⟨⟨k + 1, by omega, by go_num, kw.setB _ rfl, ?_⟩, by simp [intOf]; omega⟩
              rw [FS'.out]; exact B3'
            | false =>
              cases he : (yk.toList == xk.toList) with
              | true =>
                have FS' : Hid (nbFold ⟨xi, xk, xw⟩ (G.take (k + 1)) = (f1, f2)) := Lib.hid (by rw [FS.out]; unfold nbStep; simp [hb, he])
                have B3' := Lib.hid B3
                clear B2' B4 B3
                go_wp2_with fail
                refine ⟨⟨k + 1, by omega, by go_num, kw, ?_⟩, by simp [intOf]; omega⟩
                rw [FS'.out]; exact B3'.out
              | false =>
                by_cases h0 : f2 = 0
                · have FS' : Hid (nbFold ⟨xi, xk, xw⟩ (G.take (k + 1)) = (f1, yi)) := Lib.hid (by rw [FS.out]; unfold nbStep; simp [hb, he, h0])
                  have B3' := B3.set 1 (.int .i64 yi)
                  subst h0
                  clear B2' B4 B3
                  go_wp2_with fail
                  refine ⟨⟨k + 1, by omega, by go_num, kw.setB _ rfl, ?_⟩, by simp [intOf]; omega⟩
                  rw [FS'.out]; exact B3'
                · have FS' : Hid (nbFold ⟨xi, xk, xw⟩ (G.take (k + 1)) = (f1, f2)) := Lib.hid (by rw [FS.out]; unfold nbStep; simp [hb, he, h0])
                  have d0 : (f2 == 0) = false := by simpa using h0
                  have B3' := Lib.hid B3
                  clear B2' B4 B3
                  go_wp2_with fail
                  refine ⟨⟨k + 1, by omega, by go_num, kw, ?_⟩, by simp [intOf]; omega⟩
                  rw [FS'.out]; exact B3'.out
          · obtain rfl : k = G.length := by omega
            rw [List.take_length] at B3
            have B1' := B1.out.nxb h13 kw
            have kw' := k1.nx (Ex.refl _)
            have KK : Ex w wo := (Chg.trans k1 (Chg.mono kw (fun q (hq : q < w.heap.size) => ⟨Nat.lt_of_lt_of_le hq k1.size, by omega⟩)))
            obtain ⟨FF, hFF⟩ : ∃ FF, FF = nbFold ⟨xi, xk, xw⟩ G := ⟨_, rfl⟩
            rw [← hFF] at B3
            have HYES' : Hid (neighN l id h = (FF, true)) := Lib.hid (by rw [HYES.out, hFF])
            clear hFF HYES
            obtain ⟨f1, f2⟩ := FF
            have t0 := B3.cell 0 _ rfl
            have t1 := B3.cell 1 _ rfl
            have q0 := B1'.cell 0 _ rfl
            have q1 := B1'.cell 1 _ rfl
            have z0 := B1'.free 0
            have z1 := B1'.free 1
            clear B1' B3 hk hlt kw'
            have h13' : ¬ g = g3 := h13
            go_wp2_with fail
            refine bodyPost_ret (v := .tuple #[.agg #[.int .i64 f1, .int .i64 f2], .bool true]) (by simp [results, Tryd.results50, go_sem, *]) rfl ⟨by rw [HYES'.out], ?_⟩
            exact (KK.setNew (p := ⟨g, 0, none⟩) _ hgn).setNew (p := ⟨g, 1, none⟩) _ hgn
end Go.Proofs.YtkjlhcfocefhpaaDoor

/- What a call does to lists of its own whose elements hold a list each. -/
namespace Go.Proofs.YtkjlhcfocefhpaaDoor
open Go.RowKit

section
variable {A β : Type} {encA : A → List Value} {p s2 : Nat} {encB : β → List Value} {e1 e2 : TypeId} {base : Nat} {w w' : World} {v v' : Value} {qs : List (A × Hdr)} {L : List (A × List β)}
theorem OwnN.get (h : OwnN encA (p + 1) s2 encB e1 e2 base w v qs L) {k : Nat} {c : A × List β} (hc : L[k]? = some c) : ∃ hd : Hdr, qs[k]? = some (c.1, hd) ∧ OwnL s2 encB e2 base w hd.val c.2 := by
  obtain ⟨q, hq⟩ : ∃ q, qs[k]? = some q := ⟨qs[k]'(by have := (List.getElem?_eq_some_iff.1 hc).1; have := h.2.1; omega), by simp⟩
  obtain ⟨r1, r2⟩ := h.2.2.1 k q c hq hc
  exact ⟨q.2, by rw [hq, ← r1], r2⟩
/-- one list is put anew: in memory alone -/
theorem OwnN.mod (hne : e1 ≠ e2) (h : OwnN encA (p + 1) s2 encB e1 e2 base w v qs L) {k : Nat} {a : A} {hd hd' : Hdr} {c' : List β} (hq : qs[k]? = some (a, hd)) (ho : OwnL s2 encB e2 base w' hd'.val c')
    (kk : Chg (fun x => x < w.heap.size ∧ ¬ hd.val.ownBlock = some x) w w') (hat : hd'.val.ownBlock = hd.val.ownBlock ∨ ∀ x, hd'.val.ownBlock = some x → w.heap.size ≤ x) :
    OwnW (p + 1) (encP encA) e1 base w' v qs ∧ (∀ (j : Nat) (q : A × Hdr) (c : A × List β), j ≠ k → qs[j]? = some q → L[j]? = some c → q.1 = c.1 ∧ OwnL s2 encB e2 base w' q.2.val c.2) ∧
      (∀ x, hd'.val.ownBlock = some x → ¬ v.ownBlock = some x) ∧ ∀ (j : Nat) (q : A × Hdr) (x : Nat), j ≠ k → qs[j]? = some q → q.2.val.ownBlock = some x → ¬ hd'.val.ownBlock = some x := by
  have ho1 : OwnW (p + 1) (encP encA) e1 base w' v qs := h.1.chg kk (fun x hx hv => ⟨hx, fun hh => h.ne hne hq hh hv⟩)
  refine ⟨ho1, fun j q c hjk hr hc => ?_, fun x hx hv => ?_, fun j q x hjk hr hx hy => ?_⟩
  · obtain ⟨r1, r2⟩ := h.2.2.1 j q c hr hc
    exact ⟨r1, r2.chg kk (fun x hx hv => ⟨hx, fun hh => hjk (h.2.2.2 j k q (a, hd) x hr hq hv hh)⟩)⟩
  · obtain ⟨_, cur, h1⟩ := ho.blk hx
    obtain ⟨_, cur', h2⟩ := ho1.blk hv
    rw [h1] at h2
    simp at h2
    exact hne h2.2.symm
  · rcases hat with h1 | h1
    · exact hjk (h.2.2.2 j k q (a, hd) x hr hq hx (h1 ▸ hy))
    · have := h.lt hr hx
      have := h1 x hy
      omega
/-- .. and its head is stored -/
theorem OwnN.put (hA : ∀ y, (encA y).length = p) (hne : e1 ≠ e2) {g n cap : Nat} (h : OwnN encA (p + 1) s2 encB e1 e2 base w (.slice (some ⟨g, 0, none⟩) n cap) qs L) {k : Nat} {a : A} {hd hd' : Hdr} {c' : List β} (hq : qs[k]? = some (a, hd))
    (ho : OwnL s2 encB e2 base w' hd'.val c') (kk : Chg (fun x => x < w.heap.size ∧ ¬ hd.val.ownBlock = some x) w w') (hat : hd'.val.ownBlock = hd.val.ownBlock ∨ ∀ x, hd'.val.ownBlock = some x → w.heap.size ≤ x) :
    w'.cell? ⟨g, k * (p + 1) + p, none⟩ = some hd.val ∧ w'.frozen? ⟨g, k * (p + 1) + p, none⟩ = false ∧
      OwnN encA (p + 1) s2 encB e1 e2 base (w'.setCell ⟨g, k * (p + 1) + p, none⟩ hd'.val) (.slice (some ⟨g, 0, none⟩) n cap) (qs.set k (a, hd')) (L.set k (a, c')) := by
  obtain ⟨o1, o2, o3, o4⟩ := h.mod hne hq ho kk hat
  have hsz : ∀ y, (encP encA y).length = p + 1 := fun y => by unfold encP; simp [hA]
  obtain ⟨f1, f2, f3⟩ := o1.set1 hsz hq (c := p) (by omega)
  have hkl := (List.getElem?_eq_some_iff.1 hq).1
  have hset : Chg (· ≠ g) w' (w'.setCell ⟨g, k * (p + 1) + p, none⟩ hd'.val) := (Chg.refl _ w').setCell _ (fun x hx => hx)
  have hgb : (Value.slice (some ⟨g, 0, none⟩) n cap).ownBlock = some g := rfl
  refine ⟨?_, f2, f3 (a, hd') hd'.val ?_, by simp [h.2.1], fun j r c hr hc => ?_, fun i j qi qj x hi hj gi gj => ?_⟩
  · rw [f1]
    unfold encP
    rw [List.getElem?_append_right (by rw [hA]; exact Nat.le_refl _), hA, Nat.sub_self]
    rfl
  · unfold encP
    rw [List.set_append_right _ _ (by rw [hA]; exact Nat.le_refl _), hA, Nat.sub_self]
    rfl
  · by_cases hjk : j = k
    · subst hjk
      rw [List.getElem?_set_self hkl] at hr
      rw [List.getElem?_set_self (by rw [← h.2.1]; exact hkl)] at hc
      cases hr
      cases hc
      exact ⟨rfl, ho.chg hset (fun x _ hv => by intro he; subst he; exact o3 _ hv hgb)⟩
    · rw [List.getElem?_set_ne (by omega)] at hr hc
      obtain ⟨r1, r2⟩ := o2 j r c hjk hr hc
      refine ⟨r1, r2.chg hset (fun x _ hv => ?_)⟩
      intro he
      subst he
      exact h.ne hne hr hv hgb
  · by_cases hik : i = k
    · by_cases hjk : j = k
      · omega
      · exfalso
        subst hik
        rw [List.getElem?_set_self hkl] at hi
        cases hi
        rw [List.getElem?_set_ne (by omega)] at hj
        exact o4 j qj x hjk hj gj gi
    · rw [List.getElem?_set_ne (by omega)] at hi
      by_cases hjk : j = k
      · exfalso
        subst hjk
        rw [List.getElem?_set_self hkl] at hj
        cases hj
        exact o4 i qi x hik hi gi gj
      · rw [List.getElem?_set_ne (by omega)] at hj
        exact h.2.2.2 i j qi qj x hi hj gi gj
/-- .. or its head stays as it is -/
theorem OwnN.keep (hne : e1 ≠ e2) (h : OwnN encA (p + 1) s2 encB e1 e2 base w v qs L) {k : Nat} {a : A} {hd : Hdr} {c' : List β} (hq : qs[k]? = some (a, hd)) (ho : OwnL s2 encB e2 base w' hd.val c')
    (kk : Chg (fun x => x < w.heap.size ∧ ¬ hd.val.ownBlock = some x) w w') : OwnN encA (p + 1) s2 encB e1 e2 base w' v qs (L.set k (a, c')) := by
  obtain ⟨o1, o2, o3, o4⟩ := h.mod hne hq ho kk (.inl rfl)
  have hkl := (List.getElem?_eq_some_iff.1 hq).1
  refine ⟨o1, by simp [h.2.1], fun j r c hr hc => ?_, h.2.2.2⟩
  by_cases hjk : j = k
  · subst hjk
    rw [List.getElem?_set_self (by rw [← h.2.1]; exact hkl)] at hc
    obtain rfl : (a, hd) = r := Option.some.inj (hq.symm.trans hr)
    cases hc
    exact ⟨rfl, ho⟩
  · rw [List.getElem?_set_ne (by omega)] at hc
    exact o2 j r c hjk hr hc
theorem get_erase {α : Type} (l : List α) (k i : Nat) : (l.take k ++ l.drop (k + 1))[i]? = if k ≤ l.length then (if i < k then l[i]? else l[i + 1]?) else l[i]? := by
  by_cases hk : k ≤ l.length
  · rw [if_pos hk]
    by_cases hi : i < k
    · rw [if_pos hi, List.getElem?_append_left (by rw [List.length_take]; omega), List.getElem?_take, if_pos hi]
    · rw [if_neg hi, List.getElem?_append_right (by rw [List.length_take]; omega), List.length_take, List.getElem?_drop]
      congr 1
      omega
  · rw [if_neg hk, List.take_of_length_le (by omega), List.drop_of_length_le (by omega), List.append_nil]
/-- one element is taken out -/
theorem OwnN.erase (hne : e1 ≠ e2) (h : OwnN encA (p + 1) s2 encB e1 e2 base w v qs L) {k : Nat} (hk : k < L.length) (ho : OwnW (p + 1) (encP encA) e1 base w' v' (qs.take k ++ qs.drop (k + 1)))
    (kk : Chg (fun x => x < w.heap.size ∧ ¬ v.ownBlock = some x) w w') : OwnN encA (p + 1) s2 encB e1 e2 base w' v' (qs.take k ++ qs.drop (k + 1)) (L.take k ++ L.drop (k + 1)) := by
  have hl := h.2.1
  refine ⟨ho, by simp; omega, fun j q c hq hc => ?_, fun i j qi qj x hi hj gi gj => ?_⟩
  · rw [get_erase, if_pos (by omega)] at hq hc
    have key : ∀ j, qs[j]? = some q → L[j]? = some c → q.1 = c.1 ∧ OwnL s2 encB e2 base w' q.2.val c.2 := fun j hq hc => by
      obtain ⟨r1, r2⟩ := h.2.2.1 j q c hq hc
      exact ⟨r1, r2.chg kk (fun x hx hv => ⟨hx, h.ne hne hq hv⟩)⟩
    split at hq
    · rename_i hj
      rw [if_pos hj] at hc
      exact key j hq hc
    · rename_i hj
      rw [if_neg hj] at hc
      exact key (j + 1) hq hc
  · rw [get_erase, if_pos (by omega)] at hi hj
    split at hi <;> split at hj
    · exact h.2.2.2 i j qi qj x hi hj gi gj
    · have := h.2.2.2 i (j + 1) qi qj x hi hj gi gj; omega
    · have := h.2.2.2 (i + 1) j qi qj x hi hj gi gj; omega
    · have := h.2.2.2 (i + 1) (j + 1) qi qj x hi hj gi gj; omega
/-- a row that was just written out is the call's own -/
theorem OwnL.lit {α : Type} {sz : Nat} {enc : α → List Value} {e : TypeId} {base : Nat} {w : World} (l : List α) (hsz : ∀ y, (enc y).length = sz) (hb : base ≤ w.heap.size) (hl : l.length ≤ maxLen) {cs : Array Value} (hc : cs = (l.flatMap enc).toArray) :
    OwnL sz enc e base (w.alloc (.cells cs e)) (.slice (some ⟨w.heap.size, 0, none⟩) l.length l.length) l := by
  subst hc
  have hf : (l.flatMap enc).length = l.length * sz := flatN_len hsz l
  exact ⟨hf, .inr ⟨w.heap.size, l.length, _, rfl, hb, heap_new w _, Nat.le_refl _, hl, by simp [hf], by simp only [← hf, List.toList_toArray]; exact List.take_length⟩⟩
end
end Go.Proofs.YtkjlhcfocefhpaaDoor

/- Build of the reference. -/
namespace Go.Proofs.YtkjlhcfocefhpaaDoor
open Go.RowKit

theorem Tryd.infoLk : (Tryd.prog.info? 74).map (fun i => (i.zero, i.size, i.bytes)) = some (some (.agg #[.int .i64 0, .int .i64 0]), 2, 16) := by kernel_rfl
theorem Tryd.infoLd : (Tryd.prog.info? 90).map (fun i => (i.zero, i.size, i.bytes)) = some (some (.agg #[.int .i64 0, .slice none 0 0]), 2, 32) := by kernel_rfl

abbrev Lkd := Int × List (Int × Int)
/-- the links of a node of a sorted roster at the levels below m -/
def rowN (S : List Nd) (m : Nat) (x : Nd) : Lkd := (x.id, (List.range m).map fun (h : Nat) => (neighN S x.id h).1)
def buildN (l : List Nd) (height : Int) : List Lkd × Int :=
  if (checkN l == 0) = false then ([], 1) else if lvlN height = false then ([], 2) else ((sortN l).map (rowN (sortN l) (height.toNat + 1)), 0)
abbrev OwnLk (base : Nat) (w : World) (v : Value) (qs : List (Int × Hdr)) (L : List Lkd) : Prop := OwnN encI 2 2 encS 90 74 base w v qs L
abbrev LkL (w : World) (a : Option Addr) (n : Nat) (L : List Lkd) : Prop := NL encI 2 2 encS w a n L
/-- a list of links that was just made -/
def LkPost (L : List Lkd) (e : Int) (w : World) (en : Ending) (w' : World) : Prop :=
  ∃ (v : Value) (qs : List (Int × Hdr)), en = .returned (.tuple #[v, .int .i64 e]) ∧ OwnLk w.heap.size w' v qs L ∧ Ex w w'
theorem OwnN.base {A β : Type} {encA : A → List Value} {s1 s2 : Nat} {encB : β → List Value} {e1 e2 : TypeId} {base base' : Nat} {w : World} {v : Value} {qs : List (A × Hdr)} {L : List (A × List β)}
    (h : OwnN encA s1 s2 encB e1 e2 base w v qs L) (hb : base' ≤ base) : OwnN encA s1 s2 encB e1 e2 base' w v qs L :=
  ⟨h.1.lower hb, h.2.1, fun j q c hq hc => ⟨(h.2.2.1 j q c hq hc).1, (h.2.2.1 j q c hq hc).2.base hb⟩, h.2.2.2⟩
def BdRel (S : List Nd) (m n : Nat) (w1 : World) (o i : Value) (wr : World) : Prop :=
  ∃ (k : Nat) (qs : List (Int × Hdr)), k ≤ n ∧ i = .int .i64 k ∧ OwnLk w1.heap.size wr o qs ((S.take k).map (rowN S m)) ∧ Ex w1 wr
def LvRel (S : List Nd) (m : Nat) (x : Nd) (g : Nat) (w : World) (i : Value) (wr : World) : Prop :=
  ∃ (j : Nat) (v : Value), j ≤ m ∧ i = .int .i64 j ∧ Blk wr g [.int .i64 x.id, v] 90 ∧ OwnL 2 encS 74 w.heap.size wr v (rowN S j x).2 ∧ Exb g w wr
theorem rowN_succ (S : List Nd) (j : Nat) (x : Nd) : (rowN S (j + 1) x).2 = (rowN S j x).2 ++ [(neighN S x.id (j : Nat)).1] := by
  unfold rowN
  simp [List.range_succ]
theorem rowN_len (S : List Nd) (j : Nat) (x : Nd) : (rowN S j x).2.length = j := by unfold rowN; simp

set_option maxRecDepth 100000 in
set_option maxHeartbeats 4000000 in
theorem build_r (a : Option Addr) (n cp : Nat) (l : List Nd) (h : Int) (w : World) (hs : Sl 3 encN w a n l) (hn : n ≤ 1000) (hw : ∀ x ∈ l, x.word < 4294967296) :
    Calls Tryd.prog 59 #[.slice a n cp, .int .i64 h] w (LkPost (buildN l h).1 (buildN l h).2 w) := by
  have HW := Lib.hid (sort_word hw)
  have HL := Lib.hid hs.len
  clear hw
  go_enter Tryd.func59, Tryd.ntmps59
  go_wp2_with fail
  (with_reducible refine (is_r _ _ _ _ _ hs (by omega)).mono ?_)
  rintro e w1 ⟨rfl, k1⟩
  have S1 := hs.nx k1
  clear hs
  cases hc : (checkN l == 0) with
  | false =>
    have HB : Hid (buildN l h = ([], 1)) := Lib.hid (by unfold buildN; rw [if_pos hc])
    clear S1 hc
    go_wp2_with fail
    go_ret2
    rw [HB.out]
    exact ⟨_, [], rfl, OwnN.nil _ _ _ _ _ _ _ _, k1⟩
  | true =>
    go_wp2_with fail
    refine (level_r h _).mono ?_
    rintro e w2 ⟨rfl, rfl⟩
    cases hl : lvlN h with
    | false =>
      have HB : Hid (buildN l h = ([], 2)) := Lib.hid (by unfold buildN; rw [if_neg (by rw [hc]; simp), if_pos hl])
      clear S1 hc hl
      go_wp2_with fail
      go_ret2
      rw [HB.out]
      exact ⟨_, [], rfl, OwnN.nil _ _ _ _ _ _ _ _, k1⟩
    | true =>
      have HB : Hid (buildN l h = ((sortN l).map (rowN (sortN l) (h.toNat + 1)), 0)) := Lib.hid (by unfold buildN; rw [if_neg (by rw [hc]; simp), if_neg (by rw [hl]; simp)])
      have hh : 0 ≤ h ∧ h ≤ 16 := by unfold lvlN at hl; simpa using hl
      obtain ⟨m, rfl⟩ := Int.eq_ofNat_of_zero_le hh.1
      have hm : m ≤ 16 := by have := hh.2; omega
      clear hc hl hh
      go_wp2_with fail
      (with_reducible refine (sort_r _ _ _ _ _ S1 hn).mono ?_)
      rintro e w3 ⟨a3, n3, c3, rfl, r3, k3⟩
      have r3 : Slf 3 encN w1 w3 a3 n3 _ := r3
      have R3 := r3.sl
      have hn3 : n3 ≤ 1000 := by have := r3.len; have := sortN_length l; have := HL.out; omega
      have k3 : Ex w w3 := k1.nx k3
      clear S1 k1 r3
      obtain ⟨S, hS⟩ : ∃ S, S = sortN l := ⟨_, rfl⟩
      rw [← hS] at R3 HW HB
      have HSL := Lib.hid R3.len
      have R3 := Lib.hid R3
      have K3 := Lib.hid k3
      have hz3 := k3.size
      clear hS k3
      go_wp2_with fail
      go_loopw [7, 8] (fun o i wr => BdRel S (m + 1) n3 w3 o i wr) (fun _ i _ => n3 - (intOf i).toNat)
      case atStart => exact ⟨0, [], by omega, rfl, OwnN.nil _ _ _ _ _ _ _ _, Ex.refl _⟩
      case round =>
        obtain ⟨k, qs, hk, rfl, OQ, kw⟩ := hrel
        obtain ⟨wo, rfl⟩ : ∃ wo : World, wo = wr := ⟨_, rfl⟩
        by_cases hlt : k < n3
        · obtain ⟨x1, o1, x, rfl, hx1, hx, hc1⟩ := (R3.out.nx kw).at hlt
          have e0 : wo.cell? ⟨x1, o1 + k * 3, none⟩ = some (.int .i64 x.id) := hc1 0 _ rfl
          have HX := Lib.hid hx
          have OQ := Lib.hid OQ
          have B9 := Blk.new wo [.int .i64 x.id, .slice none 0 0] 90
          have k9 := Ex.new wo (.cells #[.int .i64 x.id, .slice none 0 0] 90)
          obtain ⟨w9, hw9⟩ : ∃ w9, w9 = wo.alloc (.cells #[.int .i64 x.id, .slice none 0 0] 90) := ⟨_, rfl⟩
          obtain ⟨g9, hg9⟩ : ∃ g9, g9 = wo.heap.size := ⟨_, rfl⟩
          have B9 : Blk w9 g9 [.int .i64 x.id, .slice none 0 0] 90 := by rw [hw9, hg9]; exact B9
          rw [← hw9] at k9
          have hgo : wo.heap.size ≤ g9 := by omega
          have hg9' : g9 < w9.heap.size := B9.lt
          have HW9 := Lib.hid hw9
          have HG9 := Lib.hid hg9
          have hzo := kw.size
          have K9 := Lib.hid k9
          have KW := Lib.hid kw
          clear hw9 hg9 hc1 hx kw k9
          go_upto_region 11 with fail
          rw [← HG9.out, ← HW9.out]
          go_wp2_with fail
          clear e0
          go_loopw [10] (fun i wr => LvRel S (m + 1) x g9 w9 i wr) (fun i _ => m + 1 - (intOf i).toNat)
          case atStart => exact ⟨0, _, by omega, rfl, B9, OwnL.nil _ _ _ _ _, Exb.refl _ _⟩
          case round =>
            clear B9
            obtain ⟨j, vv, hj, rfl, B9, own, kv⟩ := hrel
            obtain ⟨wi, rfl⟩ : ∃ wi : World, wi = wr := ⟨_, rfl⟩
            have ki : Ex wo wi := Ex.of_exb ((K9.out.b g9).nxb kv) hgo
            by_cases hjm : j ≤ m
            · have e0 : wi.cell? ⟨x1, o1 + k * 3, none⟩ = some (.int .i64 x.id) := by
                obtain ⟨x5, o5, y5, he5, hx5, hy5, hc5⟩ := ((R3.out.nx KW.out).nx ki).at hlt
                cases he5
                obtain rfl : x = y5 := Option.some.inj (HX.out.symm.trans hy5)
                exact hc5 0 _ rfl
              have RI := (R3.out.nx KW.out).nx ki
              have RS := Lib.hid (rowN_succ S j x)
              have hrl := rowN_len S j x
              go_wp2_with fail
              (with_reducible refine (neigh_r _ _ _ _ _ _ _ RI hn3 HW.out).mono ?_)
              rintro e w4 ⟨rfl, k4⟩
              obtain ⟨⟨⟨nl, nr⟩, nok⟩, hN⟩ : ∃ N, N = neighN S x.id (j : Nat) := ⟨_, rfl⟩
              have HN := Lib.hid hN
              rw [← hN]
              generalize (rowN S j x).2 = row at own RS hrl
              have own4 := own.nx k4
              replace B9 := B9.nx k4
              replace kv := kv.nxb (k4.b g9)
              clear RI k4 hN e0 own
              have B5 := Blk.new w4 [.int .i64 nl, .int .i64 nr] 74
              have k5 := Ex.new w4 (.cells #[.int .i64 nl, .int .i64 nr] 74)
              obtain ⟨w5, hw5⟩ : ∃ w5, w5 = w4.alloc (.cells #[.int .i64 nl, .int .i64 nr] 74) := ⟨_, rfl⟩
              obtain ⟨g5, hg5⟩ : ∃ g5, g5 = w4.heap.size := ⟨_, rfl⟩
              have B5 : Blk w5 g5 [.int .i64 nl, .int .i64 nr] 74 := by rw [hw5, hg5]; exact B5
              rw [← hw5] at k5
              have HW5 := Lib.hid hw5
              have HG5 := Lib.hid hg5
              replace own4 := own4.nx k5
              replace B9 := B9.nx k5
              replace kv := kv.nxb (k5.b g9)
              clear hw5 hg5 k5
              go_upto_region 15 with fail
              rw [← HG5.out, ← HW5.out]
              have q0 := B5.cell 0 _ rfl
              have q1 := B5.cell 1 _ rfl
              have p0 := B9.cell 0 _ rfl
              have p1 := B9.cell 1 _ rfl
              have zb := kv.size
              go_wp2_with (at_builtin; (refine wpList_append_lit (enc := encS) w5 rfl _ _ 88 rfl w9.heap.size 74 (.agg #[.int .i64 0, .int .i64 0]) 2 16 Tryd.underlying88 Tryd.infoLk rfl (by omega) (by omega) _ _ own4 rfl ((nl, nr) : Int × Int) _ rfl rfl (by simp [encS, Value.oneCell']) _ (by simp) rfl (by omega) zb _ ?_); intro v6 w6 own6 _ ch1 _; obtain ⟨a6, c6, rfl, _, _, _, _⟩ := own6.rd (fun _ => rfl); have B6 : Blk w6 g9 _ _ := (ch1.block g9 hg9').trans B9; have z6 := B6.free 1; have p6 := B6.cell 1 _ rfl)
              rw [← HN.out] at RS
              have own7 : OwnL 2 encS 74 w9.heap.size (w6.setCell ⟨g9, 1, none⟩ (.slice a6 (row ++ [(nl, nr)]).length c6)) (.slice a6 (row ++ [(nl, nr)]).length c6) (row ++ [(nl, nr)]) :=
                own6.chg ((Chg.refl (· ≠ g9) w6).setCell _ (fun x hx => hx)) (fun x _ hv => by have := (own6.lt x hv).1; omega)
              have kv7 : Exb g9 w9 (w6.setCell ⟨g9, 1, none⟩ (.slice a6 (row ++ [(nl, nr)]).length c6)) := (show Exb g9 w9 w6 from Chg.trans kv (ch1.mono (fun x hx => hx.1))).setB _ rfl
              have B7 := B6.set 1 (.slice a6 (row ++ [(nl, nr)]).length c6)
              have hll : (row ++ [(nl, nr)]).length = j + 1 := by simp [hrl]
              rw [hll] at own7 kv7 B7
              exact ⟨⟨j + 1, _, by omega, by go_num, B7, by rw [RS.out]; exact own7, kv7⟩, by simp [intOf]; omega⟩
            · obtain rfl : j = m + 1 := by omega
              have OQ1 := OQ.out.nx ki
              have q0 := B9.cell 0 _ rfl
              have q1 := B9.cell 1 _ rfl
              obtain ⟨a6, c6, rfl, _, _, _, _⟩ := own.rd (fun _ => rfl)
              have hkq : qs.length = k := by rw [OQ1.2.1, List.length_map, List.length_take, HSL.out]; omega
              have hzi : w3.heap.size ≤ wi.heap.size := by have := ki.size; omega
              have hjm1 : ((m : Int) + 1) ≤ (m : Int) + 1 := by omega
              have FR : ∀ (j : Nat) (r : Int × Hdr) (g : Nat), qs[j]? = some r → r.2.val.ownBlock = some g → ¬ (Value.slice a6 (rowN S (m + 1) x).2.length c6).ownBlock = some g := by
                intro j r g hr hg hv
                have h1 := OQ.out.lt hr hg
                have h2 := (own.lt g hv).1
                omega
              clear hjm hj hjm1
              have k8 := Ex.new wi (.cells #[.int .i64 x.id, .slice a6 (rowN S (m + 1) x).2.length c6] 90)
              have SX : Sl 2 (encP encI) (wi.alloc (.cells #[.int .i64 x.id, .slice a6 (rowN S (m + 1) x).2.length c6] 90)) (some ⟨wi.heap.size, 0, none⟩) 1 [((x.id, (a6, (rowN S (m + 1) x).2.length, c6)) : Int × Hdr)] := Sl.lit _ rfl rfl (fun _ => rfl) rfl
              have OQ2 := OQ1.nx k8
              have own2 := own.nx k8
              have ki8 := ki.nx k8
              go_wp2_with (at_builtin; (refine wpList_append_W (enc := encP encI) _ rfl _ _ 24 rfl w3.heap.size 90 (.agg #[.int .i64 0, .slice none 0 0]) 2 32 Tryd.underlying24 Tryd.infoLd rfl (by omega) (by omega) _ _ OQ2.1 rfl _ 1 1 [_] SX (fun _ => rfl) (by simp [encP, encI, Hdr.val, Value.oneCell']) rfl (by omega) (by omega) (by simp; omega) ?_); intro v7 w7 own7 ch0 ch1 _)
              have OQ7 := OQ2.push (by decide) own7 ch0 (own2.base (by omega)) FR
              have kw7 : Ex w3 w7 := Chg.trans (KW.out.nx ki8) ch1
              have ET : (S.take (k + 1)).map (rowN S (m + 1)) = (S.take k).map (rowN S (m + 1)) ++ [(x.id, (rowN S (m + 1) x).2)] := by rw [List.take_add_one, HX.out, List.map_append]; rfl
              exact ⟨⟨k + 1, qs ++ [((x.id, (a6, (rowN S (m + 1) x).2.length, c6)) : Int × Hdr)], by omega, by go_num, by rw [ET]; exact OQ7, kw7⟩, by simp [intOf]; omega⟩
        · obtain rfl : k = n3 := by omega
          rw [List.take_of_length_le (by rw [HSL.out]; exact Nat.le_refl _)] at OQ
          have HB2 := HB
          clear hk hlt
          go_wp2_with fail
          go_ret2
          rw [HB.out]
          exact ⟨_, qs, rfl, OQ.base hz3, K3.out.nx kw⟩
end Go.Proofs.YtkjlhcfocefhpaaDoor

/- Lists of lists of numbers: ids of nodes, Lists of the package ideal. -/
namespace Go.Proofs.YtkjlhcfocefhpaaDoor
open Go.RowKit

theorem Tryd.infoI6 : (Tryd.prog.info? 3).map (fun i => (i.zero, i.size, i.bytes)) = some (some (.int .i64 0), 1, 8) := by kernel_rfl
theorem Tryd.infoIL : (Tryd.prog.info? 22).map (fun i => (i.zero, i.size, i.bytes)) = some (some (.slice none 0 0), 1, 24) := by kernel_rfl

def enc0 : Unit → List Value := fun _ => []
def pairU (m : List Int) : Unit × List Int := ((), m)
abbrev OwnIL (base : Nat) (w : World) (v : Value) (qs : List (Unit × Hdr)) (M : List (List Int)) : Prop := OwnN enc0 1 1 encI 22 3 base w v qs (M.map pairU)
abbrev IL (w : World) (a : Option Addr) (n : Nat) (M : List (List Int)) : Prop := NL enc0 1 1 encI w a n (M.map pairU)
def IlPost (M : List (List Int)) (w : World) (e : Ending) (w' : World) : Prop :=
  ∃ (v : Value) (qs : List (Unit × Hdr)), e = .returned v ∧ OwnIL w.heap.size w' v qs M ∧ Ex w w'
def idsN (c : List Nd) : List Int := c.map Nd.id
theorem idsN_snoc (c : List Nd) (k : Nat) (y : Nd) (hy : c[k]? = some y) : idsN (c.take (k + 1)) = idsN (c.take k) ++ [y.id] := by
  unfold idsN; rw [take_snocN c k y hy, List.map_append]; rfl
theorem idsC_snoc (C : List (List Nd)) (k : Nat) (c : List Nd) (hc : C[k]? = some c) : (((C.take (k + 1)).map idsN).map pairU) = (((C.take k).map idsN).map pairU) ++ [((), idsN c)] := by
  rw [List.take_add_one, hc, List.map_append, List.map_append]; rfl
def listsN (l : List Nd) (h : Int) : List (List Int) := if (checkN l == 0) = true ∧ lvlN h = true then (classesN (sortN l) h).map idsN else []
theorem classesN_sm (l : List Nd) (h : Int) (hl : l.length ≤ 1000) : (classesN l h).length ≤ 1000 ∧ ∀ c ∈ classesN l h, c.length ≤ 1000 := by
  refine ⟨Nat.le_trans (classes_le l h) hl, ?_⟩
  intro c hc
  by_cases hh : 16 < h
  · rw [classesN_big hh] at hc; cases hc
  · rw [classesN_fold hh] at hc
    have := foldC_fine (h := h) (P := fun _ => True) l (fun _ _ => trivial)
    exact Nat.le_trans (this c hc).2.1 hl
/-- the numbers of a list of nodes in memory of the call's own -/
def IdqPost (c : List Nd) (w : World) (e : Ending) (w' : World) : Prop := ∃ v : Value, e = .returned v ∧ OwnL 1 encI 3 w.heap.size w' v (idsN c) ∧ Ex w w'
def IdqRel (c : List Nd) (n : Nat) (w : World) (o i : Value) (wr : World) : Prop :=
  ∃ k : Nat, k ≤ n ∧ i = .int .i64 k ∧ OwnL 1 encI 3 w.heap.size wr o (idsN (c.take k)) ∧ Ex w wr
def IlRel (C : List (List Nd)) (w : World) (o i : Value) (wr : World) : Prop :=
  ∃ (k : Nat) (qs : List (Unit × Hdr)), k ≤ C.length ∧ i = .int .i64 k ∧ OwnIL w.heap.size wr o qs ((C.take k).map idsN) ∧ Ex w wr

set_option maxRecDepth 100000 in
set_option maxHeartbeats 2000000 in
theorem lists_p (a : Option Addr) (n c : Nat) (l : List Nd) (h : Int) (w : World) (hs : Sl 3 encN w a n l) (hn : n ≤ 1000) (hc : n ≤ c) (hm : c ≤ maxLen) (hw : ∀ x ∈ l, x.word < 4294967296) (hT : TabG w) :
    Calls Tryd.prog 80 #[.slice a n c, .int .i64 h] w (IlPost (listsN l h) w) := by
  have HW := Lib.hid hw
  have HL := Lib.hid hs.len
  have HT := Lib.hid hT
  clear hw hT
  go_enter Tryd.func80, Tryd.ntmps80
  go_wp2_with fail
  (with_reducible refine (ordered_p _ _ _ _ _ hs hn hc hm).mono ?_)
  rintro e w1 ⟨v, S, rfl, OS, ⟨hp, hsrt⟩, k1⟩
  have SL := Lib.hid hp.length_eq
  have SW : Hid (∀ x ∈ S, x.word < 4294967296) := Lib.hid (fun x hx => HW.out x (hp.mem_iff.1 hx))
  have HSR := Lib.hid hsrt
  replace HT := Lib.hid (HT.out.nx k1)
  clear hp hsrt hs
  by_cases hck : checkN l = 0
  case neg =>
    have HNO : Hid (listsN l h = []) := Lib.hid (by unfold listsN; rw [if_neg]; rintro ⟨h1, _⟩; exact hck (by simpa using h1))
    have d1 : (checkN l == 0) = false := by simpa using hck
    rw [d1]
    clear hck d1 OS
    go_wp2_with fail
    go_ret
    rw [HNO.out]
    exact ⟨_, [], rfl, OwnN.nil _ _ _ _ _ _ _ _, k1⟩
  have HCK := Lib.hid hck
  have d1 : (checkN l == 0) = true := by simpa using hck
  rw [d1]
  clear hck d1
  by_cases hlo : h < 0
  · have HNO : Hid (listsN l h = []) := Lib.hid (by unfold listsN; rw [if_neg]; rintro ⟨_, h1⟩; unfold lvlN at h1; simp at h1; omega)
    clear OS
    go_wp2_with fail
    go_ret
    rw [HNO.out]
    exact ⟨_, [], rfl, OwnN.nil _ _ _ _ _ _ _ _, k1⟩
  by_cases hhi : 16 < h
  · have HNO : Hid (listsN l h = []) := Lib.hid (by unfold listsN; rw [if_neg]; rintro ⟨_, h1⟩; unfold lvlN at h1; simp at h1; omega)
    clear OS
    go_wp2_with fail
    go_ret
    rw [HNO.out]
    exact ⟨_, [], rfl, OwnN.nil _ _ _ _ _ _ _ _, k1⟩
  have HYES : Hid (listsN l h = (classesN S h).map idsN) := Lib.hid (by
    unfold listsN; rw [if_pos ⟨by rw [HCK.out]; rfl, by unfold lvlN; simp; omega⟩, HSR.out HCK.out])
  have HSM := Lib.hid (classesN_sm S h (by have := HL.out; have := SL.out; omega))
  obtain ⟨aS, cS, rfl, sS, _, _⟩ := OS.sl3 (fun _ => rfl)
  have hnS : S.length ≤ 1000 := by have := HL.out; have := SL.out; omega
  clear OS
  go_wp2_with fail
  (with_reducible refine (classes_p _ _ _ _ _ _ sS hnS SW.out HT.out).mono ?_)
  rintro e w2 ⟨a2, c2, rfl, C2, k2⟩
  replace k1 := Lib.hid (k1.nx k2)
  have hsz := k1.out.size
  generalize classesN S h = C at C2 HSM HYES ⊢
  have C2 := Lib.hid C2
  have hC := HSM.out.1
  clear k2 sS
  go_wp2_with fail
  go_loopw [7, 32] (fun o i wr => IlRel C w2 o i wr) (fun _ i _ => C.length - (intOf i).toNat)
  case atStart => exact ⟨0, [], by omega, rfl, OwnN.nil _ _ _ _ _ _ _ _, Ex.refl _⟩
  case round =>
    obtain ⟨k, qs, hk, rfl, OQ, kw⟩ := hrel
    obtain ⟨wo, rfl⟩ : ∃ wo : World, wo = wr := ⟨_, rfl⟩
    by_cases hlt : k < C.length
    · obtain ⟨x1, o1, a', n', c', cc, rfl, hx1, hcc, hcell, hsl⟩ := (C2.out.nx kw).at hlt
      have HCC := Lib.hid hcc
      have hnl := hsl.len
      have hcl : cc.length ≤ 1000 := HSM.out.2 cc (List.mem_of_getElem? hcc)
      subst hnl
      have OQ := Lib.hid OQ
      have HSL := Lib.hid hsl
      have hzo := kw.size
      have KW := Lib.hid kw
      clear hcc hsl kw
      go_wp2_with fail
      clear hcell
      go_loopw [10, 38] (fun o i wr => IdqRel cc cc.length wo o i wr) (fun _ i _ => cc.length - (intOf i).toNat)
      case atStart => exact ⟨0, by omega, rfl, OwnL.nil _ _ _ _ _, Ex.refl _⟩
      case round =>
        obtain ⟨j, hj, rfl, own, ki⟩ := hrel
        obtain ⟨wi, rfl⟩ : ∃ wi : World, wi = wr := ⟨_, rfl⟩
        by_cases hjm : j < cc.length
        · obtain ⟨x3, o3, y, rfl, hx3, hy, hc3⟩ := (HSL.out.nx ki).at hjm
          obtain ⟨yi, yk, yw⟩ := y
          have e0 : wi.cell? ⟨x3, o3 + j * 3, none⟩ = some (.int .i64 yi) := hc3 0 _ rfl
          have e1 : wi.cell? ⟨x3, o3 + j * 3 + 1, none⟩ = some (.string yk) := hc3 1 _ rfl
          have e2 : wi.cell? ⟨x3, o3 + j * 3 + 2, none⟩ = some (.int .u32 yw) := hc3 2 _ rfl
          have e2' : wi.cell? ⟨x3, o3 + j * 3 + 1 + 1, none⟩ = some (.int .u32 yw) := e2
          have SN := Lib.hid (idsN_snoc cc j _ hy)
          have hrl : (idsN (cc.take j)).length = j := by unfold idsN; rw [List.length_map, List.length_take]; omega
          clear hy hc3
          have k7 := Ex.new wi (.cells #[.int .i64 yi, .string yk, .int .u32 yw] 48)
          have B4 := Blk.new wi [.int .i64 yi, .string yk, .int .u32 yw] 48
          obtain ⟨w7, hw7⟩ : ∃ w7, w7 = wi.alloc (.cells #[.int .i64 yi, .string yk, .int .u32 yw] 48) := ⟨_, rfl⟩
          obtain ⟨g4, hg4⟩ : ∃ g4, g4 = wi.heap.size := ⟨_, rfl⟩
          have B4 : Blk w7 g4 [.int .i64 yi, .string yk, .int .u32 yw] 48 := by rw [hw7, hg4]; exact B4
          rw [← hw7] at k7
          have HW7 := Lib.hid hw7
          have HG4 := Lib.hid hg4
          replace own := own.nx k7
          replace ki := ki.nx k7
          generalize idsN (cc.take j) = row at own SN hrl
          clear hw7 hg4 k7
          go_upto_region 12 with fail
          rw [← HG4.out, ← HW7.out]
          clear e0 e1 e2 e2'
          have y0 := B4.cell 0 _ rfl
          have zb := ki.size
          go_wp2_with (at_builtin; (refine wpList_append_lit (enc := encI) w7 rfl _ _ 22 rfl wo.heap.size 3 (.int .i64 0) 1 8 Tryd.underlying22 Tryd.infoI6 rfl (by omega) (by omega) _ _ own rfl (yi : Int) _ rfl rfl (by simp [encI, Value.oneCell']) _ (by simp) rfl (by omega) zb _ ?_); intro v6 w6 own6 _ ch1 _)
          refine ⟨⟨j + 1, by omega, by go_num, by rw [SN.out]; exact own6, Chg.trans ki ch1⟩, by simp [intOf]; omega⟩
        · obtain rfl : j = cc.length := by omega
          rw [List.take_length] at own
          have OQ1 := OQ.out.nx ki
          obtain ⟨a6, c6, rfl, _, _, _, _⟩ := own.rd (fun _ => rfl)
          have hkq : qs.length = k := by rw [OQ1.2.1, List.length_map, List.length_map, List.length_take]; omega
          have hzi : w2.heap.size ≤ wi.heap.size := by have := ki.size; omega
          have FR : ∀ (j : Nat) (r : Unit × Hdr) (g : Nat), qs[j]? = some r → r.2.val.ownBlock = some g → ¬ (Value.slice a6 (idsN cc).length c6).ownBlock = some g := by
            intro j r g hr hg hv
            have h1 := OQ.out.lt hr hg
            have h2 := (own.lt g hv).1
            omega
          clear hjm hj
          have k8 := Ex.new wi (.cells #[.slice a6 (idsN cc).length c6] 22)
          have SX : Sl 1 (encP enc0) (wi.alloc (.cells #[.slice a6 (idsN cc).length c6] 22)) (some ⟨wi.heap.size, 0, none⟩) 1 [(((), (a6, (idsN cc).length, c6)) : Unit × Hdr)] := Sl.lit _ rfl rfl (fun _ => rfl) rfl
          have OQ2 := OQ1.nx k8
          have own2 := own.nx k8
          have ki8 := ki.nx k8
          have hql : qs.length ≤ 1000000 := by omega
          go_wp2_with (at_builtin; (refine wpList_append_W (enc := encP enc0) _ rfl _ _ 117 rfl w2.heap.size 22 (.slice none 0 0) 1 24 Tryd.underlying117 Tryd.infoIL rfl (by omega) (by omega) _ _ OQ2.1 rfl _ 1 1 [_] SX (fun _ => rfl) (by simp [encP, enc0, Hdr.val, Value.oneCell']) rfl hql (by omega) (by simp; omega) ?_); intro v7 w7 own7 ch0 ch1 _)
          have OQ7 := OQ2.push (by decide) own7 ch0 (own2.base (by omega)) FR
          have kw7 : Ex w2 w7 := Chg.trans (KW.out.nx ki8) ch1
          exact ⟨⟨k + 1, qs ++ [(((), (a6, (idsN cc).length, c6)) : Unit × Hdr)], by omega, by go_num, by show OwnN enc0 1 1 encI _ _ _ _ _ _ (((C.take (k + 1)).map idsN).map pairU); rw [idsC_snoc C k cc HCC.out]; exact OQ7, kw7⟩, by simp [intOf]; omega⟩
    · obtain rfl : k = C.length := by omega
      rw [List.take_length] at OQ
      have OQ := Lib.hid OQ
      clear hk hlt
      go_wp2_with fail
      go_ret
      rw [HYES.out]
      exact ⟨_, qs, rfl, OwnN.base OQ.out hsz, k1.out.nx kw⟩
end Go.Proofs.YtkjlhcfocefhpaaDoor

/- The links that Build of the package ideal lays, in plain Lean: link by link from the lists, against the neighbours by their definition. -/
namespace Go.Proofs.YtkjlhcfocefhpaaDoor
open Go.RowKit

/-- links: of a number, at a level -/
abbrev FnL := Int → Nat → Int × Int
def updL (F : FnL) (id : Int) (j : Nat) (v : Int) : FnL := fun x h => if x = id ∧ h = j then (v, (F x h).2) else F x h
def updR (F : FnL) (id : Int) (j : Nat) (v : Int) : FnL := fun x h => if x = id ∧ h = j then ((F x h).1, v) else F x h
def atI (ids : List Int) (q : Nat) : Int := ids[q]?.getD 0
/-- the first n links of a list -/
def procI (ids : List Int) (j : Nat) (F : FnL) : Nat → FnL
  | 0 => F
  | n + 1 => updR (updL (procI ids j F n) (atI ids (n + 1)) j (atI ids n)) (atI ids n) j (atI ids (n + 1))
def procL (j : Nat) (M : List (List Int)) (F : FnL) : FnL := M.foldl (fun F ids => procI ids j F (ids.length - 1)) F
def procB (S : List Nd) : Nat → FnL
  | 0 => fun _ _ => (0, 0)
  | j + 1 => procL j (listsN S (j : Nat)) (procB S j)
def rowsF (S : List Nd) (m : Nat) (F : FnL) : List Lkd := S.map fun x => (x.id, (List.range m).map fun j => F x.id j)

theorem procL_snoc (j : Nat) (M : List (List Int)) (F : FnL) (k : Nat) (c : List Int) (hc : M[k]? = some c) : procL j (M.take (k + 1)) F = procI c j (procL j (M.take k) F) (c.length - 1) := by
  unfold procL
  rw [List.take_add_one, hc, List.foldl_append]
  rfl
theorem procI_other (ids : List Int) (j : Nat) (F : FnL) (n : Nat) (x : Int) (h : Nat) (hx : h ≠ j ∨ ∀ q, q ≤ n → x ≠ atI ids q) : procI ids j F n x h = F x h := by
  induction n with
  | zero => rfl
  | succ n ih =>
    have ih := ih (hx.imp id (fun g q hq => g q (by omega)))
    show updR (updL (procI ids j F n) (atI ids (n + 1)) j (atI ids n)) (atI ids n) j (atI ids (n + 1)) x h = _
    unfold updR updL
    rcases hx with hx | hx
    · rw [if_neg (fun e => hx e.2), if_neg (fun e => hx e.2), ih]
    · rw [if_neg (fun e => hx n (by omega) e.1), if_neg (fun e => hx (n + 1) (by omega) e.1), ih]
theorem atI_inj {ids : List Int} (hn : ids.Nodup) {p q : Nat} (hp : p < ids.length) (hq : q < ids.length) (e : atI ids p = atI ids q) : p = q := by
  unfold atI at e
  rw [List.getElem?_eq_getElem hp, List.getElem?_eq_getElem hq] at e
  have hw := List.pairwise_iff_getElem.1 hn
  rcases Nat.lt_trichotomy p q with h | h | h
  · exact absurd e (hw p q hp hq h)
  · exact h
  · exact absurd e.symm (hw q p hq hp h)
theorem procI_at {ids : List Int} (hn : ids.Nodup) (j : Nat) (F : FnL) {p : Nat} (hp : p < ids.length) :
    ∀ n, n < ids.length → procI ids j F n (atI ids p) j = (if 1 ≤ p ∧ p ≤ n then atI ids (p - 1) else (F (atI ids p) j).1, if p < n then atI ids (p + 1) else (F (atI ids p) j).2) := by
  intro n
  induction n with
  | zero => intro _; rw [if_neg (by omega), if_neg (by omega)]; rfl
  | succ n ih =>
    intro hl
    have ih := ih (by omega)
    have e1 : (atI ids p = atI ids (n + 1)) ↔ p = n + 1 := ⟨fun e => atI_inj hn hp hl e, fun e => by rw [e]⟩
    have e2 : (atI ids p = atI ids n) ↔ p = n := ⟨fun e => atI_inj hn hp (by omega) e, fun e => by rw [e]⟩
    show updR (updL (procI ids j F n) (atI ids (n + 1)) j (atI ids n)) (atI ids n) j (atI ids (n + 1)) (atI ids p) j = _
    unfold updR updL
    simp only [e1, e2, and_true]
    by_cases h1 : p = n + 1
    · rw [if_neg (by omega), if_pos h1, ih, if_pos (by omega : 1 ≤ p ∧ p ≤ n + 1), if_neg (by omega : ¬ p < n + 1)]
      simp only
      rw [if_neg (by omega : ¬ p < n), h1]
      rfl
    · by_cases h2 : p = n
      · rw [if_pos h2, if_neg h1, ih]
        simp only
        rw [if_pos (by omega : p < n + 1), h2]
        by_cases h3 : 1 ≤ n
        · rw [if_pos ⟨h3, Nat.le_refl _⟩, if_pos ⟨h3, by omega⟩]
        · rw [if_neg (by omega), if_neg (by omega)]
      · rw [if_neg h2, if_neg h1, ih]
        congr 1
        · by_cases h3 : 1 ≤ p ∧ p ≤ n
          · rw [if_pos h3, if_pos (by omega)]
          · rw [if_neg h3, if_neg (by omega)]
        · by_cases h3 : p < n
          · rw [if_pos h3, if_pos (by omega)]
          · rw [if_neg h3, if_neg (by omega)]
theorem procL_level (j : Nat) (M : List (List Int)) (F : FnL) (x : Int) (h : Nat) (hh : h ≠ j) : procL j M F x h = F x h := by
  unfold procL
  induction M generalizing F with
  | nil => rfl
  | cons c M ih => rw [List.foldl_cons, ih, procI_other _ _ _ _ _ _ (.inl hh)]
theorem atI_mem {ids : List Int} {q : Nat} (hq : q < ids.length) : atI ids q ∈ ids := by
  unfold atI; rw [List.getElem?_eq_getElem hq]; exact List.getElem_mem hq
theorem procI_mem (ids : List Int) (j : Nat) (F : FnL) (x : Int) (h : Nat) (hx : x ∉ ids) : procI ids j F (ids.length - 1) x h = F x h := by
  by_cases h0 : ids = []
  · subst h0; rfl
  · have : 0 < ids.length := List.length_pos_iff.2 h0
    exact procI_other _ _ _ _ _ _ (.inr fun q hq e => hx (e ▸ atI_mem (by omega)))
theorem procL_not (j : Nat) (M : List (List Int)) (F : FnL) (x : Int) (h : Nat) (hx : ∀ c ∈ M, x ∉ c) : procL j M F x h = F x h := by
  unfold procL
  induction M generalizing F with
  | nil => rfl
  | cons c M ih => rw [List.foldl_cons, ih _ (fun d hd => hx d (by simp [hd])), procI_mem _ _ _ _ _ (hx c (by simp))]
theorem procL_at (j : Nat) : ∀ (M : List (List Int)) (F : FnL), M.Pairwise (fun c d => ∀ x ∈ c, x ∉ d) → (∀ c ∈ M, c.Nodup) → ∀ c ∈ M, ∀ p, p < c.length → F (atI c p) j = (0, 0) →
    procL j M F (atI c p) j = (if 1 ≤ p then atI c (p - 1) else 0, if p + 1 < c.length then atI c (p + 1) else 0)
  | [], _, _, _, c, hc, _, _, _ => by cases hc
  | d :: M, F, hM, hN, c, hc, p, hp, hF => by
    rw [List.pairwise_cons] at hM
    show procL j M (procI d j F (d.length - 1)) (atI c p) j = _
    by_cases hcd : c ∈ M
    · rw [procL_at j M _ hM.2 (fun c hc => hN c (by simp [hc])) c hcd p hp]
      rw [procI_mem _ _ _ _ _ (fun hx => hM.1 c hcd _ hx (atI_mem hp))]
      exact hF
    · obtain rfl : c = d := by rcases List.mem_cons.1 hc with e | e; exact e; exact absurd e hcd
      rw [procL_not _ _ _ _ _ (fun d hd hx => hM.1 d hd _ (atI_mem hp) hx), procI_at (hN c (by simp)) j F hp (c.length - 1) (by omega), hF]
      congr 1
      · by_cases h3 : 1 ≤ p
        · rw [if_pos h3, if_pos (by omega)]
        · rw [if_neg h3, if_neg (by omega)]
      · by_cases h3 : p < c.length - 1
        · rw [if_pos h3, if_pos (by omega)]
        · rw [if_neg h3, if_neg (by omega)]
end Go.Proofs.YtkjlhcfocefhpaaDoor

/- A map from numbers to numbers that the call itself makes. -/
namespace Go.Proofs.YtkjlhcfocefhpaaDoor
open Go.RowKit

theorem Tryd.lawI : Go.Maps.Keyed Tryd.prog 3 := Go.Maps.int_keyed Tryd.underlying3
theorem Tryd.zeroI (w : World) : (zeroValue 3).run Tryd.prog w = .ok (.int .i64 0) w := by kernel_rfl
/-- block b is a map of at most n entries that answers by f -/
def MapI (w : World) (b n : Nat) (f : Int → Int) : Prop :=
  ∃ D : DataW Unit, w.ownsMap Tryd.prog 3 (plainElem Tryd.prog 3) b n D ∧ ∀ x : Int, D.atKey (.int .i64 x) (.lit (.int .i64 0)) = .lit (.int .i64 (f x))
theorem MapI.made (w : World) : MapI (w.alloc (.map #[] 0)) w.heap.size 0 (fun _ => 0) := ⟨.map [], World.ownsMap_made _ _ _ _, fun _ => rfl⟩
theorem wf_of {x : Int} (h : -9223372036854775808 ≤ x ∧ x ≤ 9223372036854775807) : (Lit.int .i64 x).wf = true := by
  exact WalkArith.wf_i64 h
theorem MapI.chg {w w' : World} {b n : Nat} {f : Int → Int} {S : Nat → Prop} (h : MapI w b n f) (k : Chg S w w') (hb : S b) : MapI w' b n f := by
  obtain ⟨D, ⟨es, clock, e1, F, e2, e3⟩, h2⟩ := h
  exact ⟨D, ⟨es, clock, (k.block b hb).trans e1, F, e2, e3⟩, h2⟩
theorem MapI.lt {w : World} {b n : Nat} {f : Int → Int} (h : MapI w b n f) : b < w.heap.size := by
  obtain ⟨D, h1, h2⟩ := h
  exact h1.lt
theorem MapI.nx {w w' : World} {b n : Nat} {f : Int → Int} (h : MapI w b n f) (k : Ex w w') : MapI w' b n f := h.chg k h.lt
theorem MapI.look {w : World} {b n : Nat} {f : Int → Int} (h : MapI w b n f) {x : Int} (hx : -9223372036854775808 ≤ x ∧ x ≤ 9223372036854775807) :
    (Instr.lookup 116 (.map (some b)) (.int .i64 x) false).run Tryd.prog w = .ok (.int .i64 (f x)) w := by
  obtain ⟨D, h1, h2⟩ := h
  obtain ⟨c, hrun, hat, _⟩ := h1.lookup_int (t := 116) Tryd.lawI Tryd.underlying116 Tryd.underlying3 (Tryd.zeroI w) (Go.Maps.keyOf_int_mk Tryd.underlying3 (wf_of hx))
  rw [h2 x] at hat
  cases hat
  exact hrun
theorem MapI.put {w : World} {b n : Nat} {f : Int → Int} (h : MapI w b n f) {x v : Int} (hx : -9223372036854775808 ≤ x ∧ x ≤ 9223372036854775807) (hv : -9223372036854775808 ≤ v ∧ v ≤ 9223372036854775807) (hn : n < maxLen) :
    ∃ w', (Instr.mapUpdate 116 (.map (some b)) (.int .i64 x) (.int .i64 v)).run Tryd.prog w = .ok () w' ∧ MapI w' b (n + 1) (fun y => if y = x then v else f y) ∧ Exb b w w' := by
  obtain ⟨D, h1, h2⟩ := h
  have hm : Go.Maps.IsMap D := by obtain ⟨_, _, _, _, _, e⟩ := h1; exact ⟨_, e⟩
  obtain ⟨w', hrun, h3, h4⟩ := h1.update (t := 116) Tryd.lawI Tryd.underlying116 hn (Go.Maps.keyOf_int_mk Tryd.underlying3 (wf_of hx)) (plainElem_int Tryd.underlying3 (wf_of hv))
  refine ⟨w', hrun, ⟨_, h3, fun y => ?_⟩, ⟨h4.1, h4.2, h4.3, h4.4, fun i hi => h4.5 i hi.1 (fun e => hi.2 (Option.some.inj e))⟩⟩
  by_cases hy : y = x
  · subst hy
    show _ = DataW.lit (.int .i64 (if y = y then v else f y))
    rw [if_pos rfl]
    exact Go.Maps.atKey_put_same hm (show Go.WideAt.IsKeyLit (.int .i64 y) from trivial) _ _
  · show _ = DataW.lit (.int .i64 (if y = x then v else f y))
    rw [if_neg hy, Go.Maps.atKey_put_other (fun e => hy (by cases e; rfl))]
    exact h2 y
end Go.Proofs.YtkjlhcfocefhpaaDoor

/- Walks over the tape of numbers from which the statements draw. -/
namespace Go.Proofs.YtkjlhcfocefhpaaDoor
open Go.RowKit

set_option maxHeartbeats 400000 in
theorem mod_any (v n : Int) (w : World) (hn : 1 ≤ n) (hn2 : n ≤ 9223372036854775807) :
    Calls Tryd.prog 37 #[.int .i64 v, .int .i64 n] w fun e w' => e = .returned (.int .i64 (v % n)) ∧ w = w' := by
  obtain ⟨h1, h2⟩ := tmod_bounds v n hn
  have H3 := Lib.hid (emod_of_tmod v n hn)
  go_enter Tryd.func37, Tryd.ntmps37
  go_wp2
  · go_ret
    exact ⟨by rw [H3.out, if_pos ‹_›]; rfl, rfl⟩
  · go_ret
    exact ⟨by rw [H3.out, if_neg (by omega)]; rfl, rfl⟩

set_option maxHeartbeats 400000 in
theorem next_end (b len cap i : Nat) (n : Int) (a : Option Addr) (w : World) (hb : w.heap[b]? = some (.cells #[.slice a len cap, .int .i64 i] 85 (0, 0))) (hi : len ≤ i) (hn : ¬ n < 1) :
    Calls Tryd.prog 17 #[.pointer (some ⟨b, 0, none⟩), .int .i64 n] w fun e w' => e = .returned (.int .i64 0) ∧ ∃ m, w.drewN m = w' := by
  have c0 : w.cell? ⟨b, 0, none⟩ = some (.slice a len cap) := by simp [World.cell?, hb]
  have c1 : w.cell? ⟨b, 1, none⟩ = some (.int .i64 i) := by simp [World.cell?, hb]
  have d1 : decide (n < 1) = false := by simp; omega
  clear hb
  go_enter Tryd.func17, Tryd.ntmps17
  go_wp2
  go_quiet (fail)
  go_wp2
  go_ret
  exact ⟨rfl, _, rfl⟩

set_option maxHeartbeats 400000 in
theorem next_small (b : Nat) (n : Int) (w : World) (hn : n < 1) :
    Calls Tryd.prog 17 #[.pointer (some ⟨b, 0, none⟩), .int .i64 n] w fun e w' => e = .returned (.int .i64 0) ∧ ∃ m, w.drewN m = w' := by
  have d1 : decide (n < 1) = true := by simp; omega
  go_enter Tryd.func17, Tryd.ntmps17
  go_wp2
  go_quiet (fail)
  go_wp2
  go_ret
  exact ⟨rfl, _, rfl⟩

set_option maxHeartbeats 400000 in
theorem next_go (b len cap i x o : Nat) (n v : Int) (w : World) (hb : w.heap[b]? = some (.cells #[.slice (some ⟨x, o, none⟩) len cap, .int .i64 i] 85 (0, 0))) (hi : i < len) (hl : len ≤ 600) (hn : ¬ n < 1) (hn2 : n ≤ 9223372036854775807)
    (hx : x ≠ b) (hc : w.cell? ⟨x, o + i, none⟩ = some (.int .i64 v)) :
    Calls Tryd.prog 17 #[.pointer (some ⟨b, 0, none⟩), .int .i64 n] w fun e w' => e = .returned (.int .i64 (v % n)) ∧ ∃ m k, ((w.drewN k).setCell ⟨b, 1, none⟩ (.int .i64 (i + 1))).drewN m = w' := by
  have c0 : w.cell? ⟨b, 0, none⟩ = some (.slice (some ⟨x, o, none⟩) len cap) := by simp [World.cell?, hb]
  have c1 : w.cell? ⟨b, 1, none⟩ = some (.int .i64 i) := by simp [World.cell?, hb]
  have f1 : w.frozen? ⟨b, 1, none⟩ = false := by simp [World.frozen?, hb]
  have d1 : decide (n < 1) = false := by simp; omega
  have e1 : IntKind.i64.wrap (i : Int) = i := IntWalk.i64_in _ (by omega)
  have e2 : IntKind.i64.wrap ((i : Int) + 1) = (i : Int) + 1 := IntWalk.i64_in _ (by omega)
  clear hb
  go_enter Tryd.func17, Tryd.ntmps17
  go_wp2
  go_quiet (fail)
  go_wp2
  go_quiet ((go_at_call 37; exact quiet_of_eq (mod_any _ _ _ (by omega) (by omega))))
  go_wp2
  go_ret
  exact ⟨rfl, _, _, rfl⟩

theorem next_x {B b : Nat} (n : Int) (w : World) (h : TP 85 B w b) (hn2 : n ≤ 9223372036854775807) :
    Calls Tryd.prog 17 #[.pointer (some ⟨b, 0, none⟩), .int .i64 n] w (SomeInt 0 (if n < 1 then 0 else n - 1) 85 B b w) := by
  by_cases hn : n < 1
  · refine (next_small b n w hn).mono ?_
    rintro e w' ⟨rfl, m, rfl⟩
    exact ⟨0, rfl, by omega, by rw [if_pos hn]; omega, (Chg.refl _ _).drewN _, h⟩
  · obtain ⟨a, cap, i, x, o, l, h1, h2, h3, h4, h5⟩ := id h
    by_cases hi : i < l.length
    · rcases h5 with rfl | ⟨rfl, e2, e3, e4⟩
      · simp at hi
      · refine (next_go b _ cap i x o n _ w h1 hi h3 hn hn2 e2 (e4 i hi)).mono ?_
        rintro e w' ⟨rfl, m, k, rfl⟩
        refine ⟨_, rfl, Int.emod_nonneg _ (by omega), ?_, ?_, ?_⟩
        · rw [if_neg hn]; have := Int.emod_lt_of_pos (l.getD i 0) (show 0 < n by omega); omega
        · exact (((Chg.refl _ _).drewN _).setCell _ (fun k hk => hk.2)).drewN _
        · refine ⟨_, cap, i + 1, x, o, l, ?_, h2, h3, by omega, .inr ⟨rfl, e2, e3, fun j hj => ?_⟩⟩
          · show (w.setCell ⟨b, 1, none⟩ (.int .i64 (i + 1))).heap[b]? = _
            simp [World.setCell, Array.getElem?_modify, h1]
          · show (w.setCell ⟨b, 1, none⟩ (.int .i64 (i + 1))).cell? _ = _
            rw [World.cell?_of_block (w := w) (Below.heap_setCell w _ _ _ e2)]
            exact e4 j hj
    · refine (next_end b _ cap i n a w h1 (by omega) hn).mono ?_
      rintro e w' ⟨rfl, m, rfl⟩
      exact ⟨0, rfl, by omega, by rw [if_neg hn]; omega, (Chg.refl _ _).drewN _, h⟩

/-- Pick: some number of the list -/
theorem pick_x {B b s so len : Nat} (lo hi : Int) (l : List Int) (w : World) (h : TP 85 B w b) (hB : B ≤ s) (hs : s < w.heap.size) (hl : l.length = len) (hl0 : 0 < len) (hl2 : len ≤ 100)
    (hc : ∀ j, j < len → w.cell? ⟨s, so + j, none⟩ = some (.int .i64 (l.getD j 0))) (hr : ∀ x ∈ l, lo ≤ x ∧ x ≤ hi) :
    Calls Tryd.prog 28 #[.pointer (some ⟨b, 0, none⟩), .slice (some ⟨s, so, none⟩) len len] w (SomeInt lo hi 85 B b w) := by
  have hlt := h.lt
  go_enter Tryd.func28, Tryd.ntmps28
  go_wp2_with fail
  refine (next_x _ w h (by omega)).mono ?_
  rintro e w1 ⟨r, rfl, r0, r1, k1, t1⟩
  rw [if_neg (by omega)] at r1
  obtain ⟨j, rfl⟩ := Int.eq_ofNat_of_zero_le r0
  have hj : j < len := by omega
  have hc1 : w1.cell? ⟨s, so + j, none⟩ = some (.int .i64 (l.getD j 0)) := k1.cellv (hc j hj) ⟨hs, by simp; omega⟩
  have hm : l.getD j 0 ∈ l := by simp [List.getD, hl, hj]
  have hr1 := hr _ hm
  clear hc hr hl hm
  go_wp2
  go_ret
  exact ⟨_, rfl, hr1.1, hr1.2, k1, t1⟩


/-- Pick on a list that was just written out -/
theorem pick_lit {B b n s : Nat} (lo hi : Int) (l : List Int) {A : Array Value} {W0 : World} (h : TP 85 B W0 b) (hB : B ≤ W0.heap.size) (hs : s = W0.heap.size) (hA : A = (l.map (Value.int .i64)).toArray) (hl : l.length = n) (hl0 : 0 < n) (hl2 : n ≤ 100)
    (hr : ∀ x ∈ l, lo ≤ x ∧ x ≤ hi) :
    Calls Tryd.prog 28 #[.pointer (some ⟨b, 0, none⟩), .slice (some ⟨s, 0, none⟩) n n] (W0.alloc (.cells A 3)) (SomeInt lo hi 85 B b W0) := by
  subst hA hs
  have hc := (Chg.refl (· < W0.heap.size) W0).alloc (.cells (l.map (Value.int .i64)).toArray 3) (fun k hk => hk)
  refine (pick_x (s := W0.heap.size) (so := 0) lo hi l _ (h.chg hc (by omega)) hB (by simp) hl hl0 hl2 ?_ hr).mono ?_
  · intro j hj
    simp [List.getD, hl, hj]
  · rintro e w' ⟨r, rfl, r0, r1, k1, t1⟩
    exact ⟨r, rfl, r0, r1, (hc.mono (fun k hk => hk.1)).trans (k1.mono (by simp; intro k h1 h2; omega)), t1⟩


/-- a new tape -/
def NewTape (w : World) (e : Ending) (w' : World) : Prop :=
  e = .returned (.pointer (some ⟨w.heap.size, 0, none⟩)) ∧ TP 85 (w.heap.size + 1) w' w.heap.size ∧ Chg (· < w.heap.size) w w'

theorem tape_made {S : Nat → Prop} {n cap m : Nat} {a : Option Addr} {l : List Int} {w : World} (h : Rd 1 encI S w a n l) (hS : ∀ k, S k → k < w.heap.size) (hm : m ≤ n) (hm2 : m ≤ 600) :
    TP 85 (w.heap.size + 1) (w.alloc (.cells #[.slice a m cap, .int .i64 0] 85)) w.heap.size := by
  have hl : (l.take m).length = m := by have := h.1; simp; omega
  rcases Nat.eq_zero_or_pos m with h0 | h0
  · subst h0
    exact ⟨a, cap, 0, 0, 0, [], by simpa using heap_new w _, by omega, by simp, by simp, .inl rfl⟩
  · obtain ⟨x, o, y, rfl, hx, _, _⟩ := h.at (j := 0) (by omega)
    have hx := hS x hx
    refine ⟨_, cap, 0, x, o, l.take m, by rw [hl]; exact heap_new w _, by omega, by omega, by omega, .inr ⟨rfl, by omega, by omega, fun j hj => ?_⟩⟩
    have hj : j < m := by omega
    obtain ⟨x', o', y', e1, _, e3, e4⟩ := h.at (j := j) (by omega)
    cases e1
    have e5 := e4 0 _ rfl
    have e6 : (l.take m).getD j 0 = y' := by simp [List.getD, List.getElem?_take, hj, e3]
    rw [e6]
    rw [World.cell?_of_block (w := w) (Below.heap_alloc w _ _ (by simp; omega))]
    simpa using e5

set_option maxHeartbeats 400000 in
theorem new_x {S : Nat → Prop} (a : Option Addr) (n cap : Nat) (l : List Int) (w : World) (h : Rd 1 encI S w a n l) (hS : ∀ k, S k → k < w.heap.size) (hn : n ≤ cap) (hcap : cap ≤ maxLen) :
    Calls Tryd.prog 14 #[.slice a n cap] w (NewTape w) := by
  unfold maxLen at hcap
  by_cases h6 : 600 < n
  · have hm := tape_made (cap := cap) (m := 600) h hS (by omega) (by omega)
    go_enter Tryd.func14, Tryd.ntmps14
    go_wp2
    go_ret
    exact ⟨rfl, hm, (Chg.refl _ _).alloc _ (by simp)⟩
  · have hm := tape_made (cap := cap) (m := n) h hS (by omega) (by omega)
    go_enter Tryd.func14, Tryd.ntmps14
    go_wp2
    go_ret
    exact ⟨rfl, hm, (Chg.refl _ _).alloc _ (by simp)⟩
end Go.Proofs.YtkjlhcfocefhpaaDoor

/- The tape, in the standard forms. -/
namespace Go.Proofs.YtkjlhcfocefhpaaDoor
open Go.RowKit

/-- a tape at b -/
def TK (w : World) (b : Nat) : Prop := TP 85 (b + 1) w b
theorem TK.lt {w : World} {b : Nat} (h : TK w b) : b < w.heap.size := by
  obtain ⟨_, _, _, _, _, _, h1, _⟩ := h
  exact heap_lt h1
theorem TK.nx {w w' : World} {b : Nat} (h : TK w b) (k : Ex w w') : TK w' b := TP.chg h k (fun x hx => Nat.lt_of_lt_of_le hx h.lt)
/-- a store behind the tape -/
theorem TK.set {w : World} {b : Nat} (h : TK w b) {p : Addr} (v : Value) (hp : b < p.block) : TK (w.setCell p v) b :=
  TP.chg h ((Chg.refl (· < b + 1) w).setCell v (fun k (hk : k < b + 1) => by omega)) (fun _ hk => hk)
/-- a number below n (0 if there is none) -/
def NumPost (n : Int) (b : Nat) (w : World) (e : Ending) (w' : World) : Prop :=
  ∃ r : Int, e = .returned (.int .i64 r) ∧ 0 ≤ r ∧ r ≤ n ∧ TK w' b ∧ Exb b w w'
theorem next_t {b : Nat} (n : Int) (w : World) (h : TK w b) (h1 : 1 ≤ n) (h2 : n ≤ 9223372036854775807) :
    Calls Tryd.prog 17 #[.pointer (some ⟨b, 0, none⟩), .int .i64 n] w (NumPost (n - 1) b w) := by
  refine (next_x n w h h2).mono ?_
  rintro e w' ⟨r, rfl, r0, r1, k, t⟩
  rw [if_neg (by omega)] at r1
  exact ⟨r, rfl, r0, r1, t, k⟩
theorem next_t0 {b : Nat} (n : Int) (w : World) (h : TK w b) (h2 : n ≤ 9223372036854775807) :
    Calls Tryd.prog 17 #[.pointer (some ⟨b, 0, none⟩), .int .i64 n] w (NumPost (if n < 1 then 0 else n - 1) b w) := by
  refine (next_x n w h h2).mono ?_
  rintro e w' ⟨r, rfl, r0, r1, k, t⟩
  exact ⟨r, rfl, r0, r1, t, k⟩
/-- one of some numbers that were just written out -/
theorem pick_t {b n s : Nat} (lo hi : Int) (l : List Int) {A : Array Value} {w : World} (h : TK w b) (hs : s = w.heap.size) (hA : A = (l.map (Value.int .i64)).toArray) (hl : l.length = n) (hl0 : 0 < n) (hl2 : n ≤ 100)
    (hr : ∀ x ∈ l, lo ≤ x ∧ x ≤ hi) :
    Calls Tryd.prog 28 #[.pointer (some ⟨b, 0, none⟩), .slice (some ⟨s, 0, none⟩) n n] (w.alloc (.cells A 3)) fun e w' =>
      ∃ r : Int, e = .returned (.int .i64 r) ∧ lo ≤ r ∧ r ≤ hi ∧ TK w' b ∧ Exb b w w' := by
  refine (pick_lit lo hi l h h.lt hs hA hl hl0 hl2 hr).mono ?_
  rintro e w' ⟨r, rfl, r0, r1, k, t⟩
  exact ⟨r, rfl, r0, r1, t, k⟩
theorem new_t (a : Option Addr) (n cap : Nat) (l : List Int) (w : World) (h : Sl 1 encI w a n l) (hn : n ≤ cap) (hcap : cap ≤ maxLen) :
    Calls Tryd.prog 14 #[.slice a n cap] w fun e w' => e = .returned (.pointer (some ⟨w.heap.size, 0, none⟩)) ∧ TK w' w.heap.size ∧ Ex w w' ∧ w.heap.size < w'.heap.size := by
  refine (new_x a n cap l w h (fun _ hk => hk) hn hcap).mono ?_
  rintro e w' ⟨rfl, t, k⟩
  have hlt : w.heap.size < w'.heap.size := by
    obtain ⟨_, _, _, _, _, _, h1, _⟩ := t
    exact heap_lt h1
  exact ⟨rfl, t, k, hlt⟩
end Go.Proofs.YtkjlhcfocefhpaaDoor

/- Keys of the tape. -/
namespace Go.Proofs.YtkjlhcfocefhpaaDoor
open Go.RowKit

/-- the letters, as they are laid: strings of one byte -/
def LetG (w : World) : Prop := ∀ j, j < 6 → ∃ s : ByteArray, s.size = 1 ∧ w.cell? ⟨0, j, none⟩ = some (.string s)
theorem LetG.lt {w : World} (h : LetG w) : 0 < w.heap.size := by
  obtain ⟨s, _, h⟩ := h 0 (by omega)
  exact World.block_lt_of_cell? w _ h
theorem LetG.nx {w w' : World} (h : LetG w) (k : Ex w w') : LetG w' := fun j hj => by
  obtain ⟨s, h1, h2⟩ := h j hj
  exact ⟨s, h1, Chg.cellv k h2 (World.block_lt_of_cell? w _ h2)⟩
theorem LetG.nxb {b : Nat} {w w' : World} (h : LetG w) (hb : ¬ 0 = b) (k : Exb b w w') : LetG w' := fun j hj => by
  obtain ⟨s, h1, h2⟩ := h j hj
  exact ⟨s, h1, Chg.cellv k h2 ⟨World.block_lt_of_cell? w _ h2, hb⟩⟩

def LongRel (k0 : Nat) (o i : Value) : Prop := ∃ (k : Nat) (s : ByteArray), k ≤ k0 ∧ i = .int .i64 k ∧ o = .string s ∧ s.size = k
set_option maxHeartbeats 400000 in
theorem long_x (s : ByteArray) (n : Nat) (w : World) (hs : s.size = 1) (hn : n ≤ 1000) :
    Calls Tryd.prog 60 #[.string s, .int .i64 n] w fun e w' => (∃ r : ByteArray, e = .returned (.string r) ∧ r.size = n) ∧ w = w' := by
  have HS := Lib.hid hs
  have hs1 : s.size ≤ 1 := Nat.le_of_eq hs
  clear hs
  go_enter Tryd.func60, Tryd.ntmps60
  go_wp2
  go_loop [5, 6] (fun o i => LongRel n o i) (fun _ i => n - (intOf i).toNat)
  case atStart => exact ⟨0, ⟨#[]⟩, by omega, rfl, rfl, rfl⟩
  case round =>
    obtain ⟨k, o, hk, rfl, rfl, ho⟩ := hrel
    have HO := Lib.hid ho
    have ho1 : o.size ≤ 1000 := by omega
    clear ho
    by_cases hlt : k < n
    · go_wp2
      go_round
      case rel => exact ⟨k + 1, _, by omega, by go_num, rfl, by rw [ByteArray.size_append, HO.out, HS.out]⟩
      case measure => simp [intOf]; omega
    · go_wp2
      go_ret
      exact ⟨⟨o, rfl, by rw [HO.out]; omega⟩, rfl⟩

def KeyPost (m b : Nat) (w : World) (e : Ending) (w' : World) : Prop := ∃ s : ByteArray, e = .returned (.string s) ∧ s.size ≤ m ∧ TK w' b ∧ Exb b w w'
def KeyRel (b : Nat) (w : World) (o i : Value) (wr : World) : Prop := ∃ (k : Nat) (s : ByteArray), k ≤ 3 ∧ i = .int .i64 k ∧ o = .string s ∧ s.size + k ≤ 3 ∧ TK wr b ∧ Exb b w wr

set_option maxHeartbeats 1000000 in
theorem key_t {b : Nat} (w : World) (h : TK w b) (hL : LetG w) (hgb : ¬ 0 = b) : Calls Tryd.prog 34 #[.pointer (some ⟨b, 0, none⟩)] w (KeyPost 64 b w) := by
  go_enter Tryd.func34, Tryd.ntmps34
  go_wp2_with fail
  refine (next_t 12 _ h (by omega) (by omega)).mono ?_
  rintro e w1 ⟨r, rfl, r0, r1, T, k1⟩
  have L1 := hL.nxb hgb k1
  clear h hL
  by_cases h10 : r = 10
  · subst h10
    go_wp2_with fail
    refine (next_t 6 _ T (by omega) (by omega)).mono ?_
    clear T
    rintro e w2 ⟨j, rfl, j0, j1, T, k2⟩
    obtain ⟨j, rfl⟩ := Int.eq_ofNat_of_zero_le j0
    obtain ⟨s, hs, hc⟩ := (L1.nxb hgb k2) j (by omega)
    have kk := k1.nxb k2
    have HS := Lib.hid hs
    clear hs k1 k2 L1
    go_wp2_with fail
    refine (long_x s 64 _ HS.out (by omega)).mono ?_
    rintro e w3 ⟨⟨r, rfl, hr⟩, rfl⟩
    have HR := Lib.hid hr
    clear hr
    go_wp2_with fail
    go_ret
    exact ⟨r, rfl, Nat.le_of_eq HR.out, T, kk⟩
  · have d10 : (r == 10) = false := by simp [h10]
    by_cases h11 : r = 11
    · subst h11
      clear h10
      go_wp2_with fail
      go_ret
      exact ⟨⟨#[]⟩, rfl, by simp [ByteArray.size], T, k1⟩
    · have d11 : (r == 11) = false := by simp [h11]
      clear h10 h11
      go_wp2_with fail
      refine (next_t 3 _ T (by omega) (by omega)).mono ?_
      clear T
      rintro e w2 ⟨m, rfl, m0, m1, T, k2⟩
      obtain ⟨m, rfl⟩ := Int.eq_ofNat_of_zero_le m0
      have L2 := L1.nxb hgb k2
      have kk := k1.nxb k2
      clear k1 k2 L1
      go_wp2_with fail
      go_loopw [3, 4] (fun o i wr => KeyRel b w2 o i wr) (fun _ i _ => (intOf i).toNat)
      case atStart => exact ⟨m + 1, ⟨#[]⟩, by omega, congrArg (Value.int .i64) (by omega), rfl, by show 0 + (m + 1) ≤ 3; omega, T, Exb.refl _ _⟩
      case round =>
        clear T
        obtain ⟨k, o, hk, rfl, rfl, ho, T, kw⟩ := hrel
        obtain ⟨wo, rfl⟩ : ∃ wo : World, wo = wr := ⟨_, rfl⟩
        have ho1 : o.size ≤ 3 := by omega
        by_cases hk0 : 0 < k
        · go_wp2_with fail
          refine (next_t 6 _ T (by omega) (by omega)).mono ?_
          clear T
          rintro e w4 ⟨j, rfl, j0, j1, T, k4⟩
          obtain ⟨j, rfl⟩ := Int.eq_ofNat_of_zero_le j0
          obtain ⟨s, hs, hc⟩ := ((L2.nxb hgb kw).nxb hgb k4) j (by omega)
          replace kw := kw.nxb k4
          have HS := Lib.hid hs
          have hs1 : s.size ≤ 1 := Nat.le_of_eq hs
          clear hs k4 L2
          go_wp2_with fail
          refine ⟨⟨k - 1, o ++ s, by omega, ?_, rfl, by rw [ByteArray.size_append, HS.out]; omega, T, kw⟩, by simp [intOf]; omega⟩
          rw [show ((k - 1 : Nat) : Int) = (k : Int) - 1 by omega]
        · clear L2
          go_wp2_with fail
          go_ret
          exact ⟨o, rfl, by omega, T, kk.nxb kw⟩
end Go.Proofs.YtkjlhcfocefhpaaDoor

/- A walk over the words that are drawn from a tape. -/
namespace Go.Proofs.YtkjlhcfocefhpaaDoor
open Go.RowKit

/-- some word -/
def SomeWord (ty B b : Nat) (w : World) (e : Ending) (w' : World) : Prop :=
  ∃ r : Nat, e = .returned (.int .u32 r) ∧ r < 65536 ∧ Chg (fun k => k < w.heap.size ∧ k ≠ b) w w' ∧ TP ty B w' b

theorem conv_u32 (r : Int) (h0 : 0 ≤ r) (h1 : r < 65536) : ∃ m : Nat, r = m ∧ m < 65536 ∧ IntKind.u32.wrap r = (m : Int) := by
  obtain ⟨m, rfl⟩ := Int.eq_ofNat_of_zero_le h0
  refine ⟨m, rfl, by omega, ?_⟩
  simp [IntKind.wrap, IntKind.signed, IntKind.bits]
  omega

set_option maxHeartbeats 1000000 in
theorem word_x {B b : Nat} (w : World) (h : TP 85 B w b) (hB : B ≤ w.heap.size) :
    Calls Tryd.prog 57 #[.pointer (some ⟨b, 0, none⟩)] w (SomeWord 85 B b w) := by
  go_enter Tryd.func57, Tryd.ntmps57
  go_wp2_with fail
  refine (next_x _ w h (by omega)).mono ?_
  rintro e w1 ⟨r, rfl, r0, r1, k1, t1⟩
  have z1 := k1.size
  by_cases e4 : r = 4
  · subst e4
    go_wp2_with fail
    refine (next_x _ _ t1 (by omega)).mono ?_
    rintro e w2 ⟨s, rfl, s0, s1, k2, t2⟩
    rw [if_neg (by omega)] at s1
    obtain ⟨m, rfl, hm, hw⟩ := conv_u32 s s0 (by omega)
    go_wp2_with fail
    go_ret
    exact ⟨m, rfl, hm, k1.then k2 (by intro k hk; omega), t2⟩
  · have d4 : (r == 4) = false := by simp [e4]
    by_cases e5 : r = 5
    · subst e5
      go_wp2_with fail
      refine (pick_lit 0 65535 [0, 65535, 32768] t1 (by omega) (by simp) (by rfl) (by rfl) (by omega) (by omega) (by simp)).mono ?_
      rintro e w2 ⟨s, rfl, s0, s1, k2, t2⟩
      obtain ⟨m, rfl, hm, hw⟩ := conv_u32 s s0 (by omega)
      go_wp2_with fail
      go_ret
      exact ⟨m, rfl, hm, k1.then k2 (by intro k hk; omega), t2⟩
    · have d5 : (r == 5) = false := by simp [e5]
      clear e4 e5
      go_wp2_with fail
      refine (next_x _ _ t1 (by omega)).mono ?_
      rintro e w2 ⟨s, rfl, s0, s1, k2, t2⟩
      rw [if_neg (by omega)] at s1
      obtain ⟨m, rfl, hm, hw⟩ := conv_u32 s s0 (by omega)
      go_wp2_with fail
      go_ret
      exact ⟨m, rfl, hm, k1.then k2 (by intro k hk; omega), t2⟩
end Go.Proofs.YtkjlhcfocefhpaaDoor

/- Rosters of the tape. -/
namespace Go.Proofs.YtkjlhcfocefhpaaDoor
open Go.RowKit

theorem word_t {b : Nat} (w : World) (h : TK w b) : Calls Tryd.prog 57 #[.pointer (some ⟨b, 0, none⟩)] w fun e w' => ∃ m : Nat, e = .returned (.int .u32 m) ∧ m < 65536 ∧ TK w' b ∧ Exb b w w' :=
  (word_x w h h.lt).mono fun e w' ⟨m, he, hm, k, t⟩ => ⟨m, he, hm, t, k⟩

/-- a roster that was just made -/
structure RosterOf (n b : Nat) (w w' : World) (v : Value) (L : List Nd) : Prop where
  own : OwnL 3 encN 48 w.heap.size w' v L
  len : L.length ≤ n
  ok : checkN L = 0
  word : ∀ x ∈ L, x.word < 65536
  tape : TK w' b
  k : Exb b w w'
def RosRel (n b : Nat) (w : World) (o i : Value) (wr : World) : Prop := ∃ (k : Nat) (L : List Nd), L.length + k ≤ n ∧ i = .int .i64 k ∧ RosterOf n b w wr o L

theorem append_cells (A : Array Value) (y : Nd) (hA : A = #[.int .i64 y.id, .string y.key, .int .u32 y.word]) : A = (encN y).toArray := hA

set_option maxRecDepth 100000 in
set_option maxHeartbeats 2000000 in
theorem roster_t {b : Nat} (n : Nat) (w : World) (h : TK w b) (hL : LetG w) (hgb : ¬ 0 = b) (hn0 : 1 ≤ n) (hn : n ≤ 60) :
    Calls Tryd.prog 15 #[.pointer (some ⟨b, 0, none⟩), .int .i64 n] w fun e w' => ∃ v L, e = .returned v ∧ RosterOf n b w w' v L := by
  have hbw := h.lt
  go_enter Tryd.func15, Tryd.ntmps15
  go_wp2_with fail
  refine (next_t ((n : Int) + 1) _ h (by omega) (by omega)).mono ?_
  clear h
  rintro e w1 ⟨k, rfl, k0, k1, T, kk⟩
  obtain ⟨k, rfl⟩ := Int.eq_ofNat_of_zero_le k0
  go_wp2_with fail
  go_loopw [5, 6] (fun o i wr => RosRel n b w o i wr) (fun _ i _ => (intOf i).toNat)
  case atStart => exact ⟨k, [], by simp; omega, rfl, OwnL.nil _ _ _ _ _, by simp, by decide, by simp, T, kk⟩
  case round =>
    clear T kk
    obtain ⟨q, L, hq, rfl, R⟩ := hrel
    obtain ⟨wo, rfl⟩ : ∃ wo : World, wo = wr := ⟨_, rfl⟩
    have T := R.tape
    by_cases hq0 : 0 < q
    · have L1 := hL.nxb hgb R.k
      clear hL
      have R := Lib.hid R
      go_wp2_with fail
      refine (next_t (3 * (n : Int)) _ T (by omega) (by omega)).mono ?_
      clear T
      rintro e w2 ⟨d, rfl, d0, d1, T, k2⟩
      have L2 := L1.nxb hgb k2
      clear L1
      go_wp2_with fail
      refine (key_t _ T L2 hgb).mono ?_
      clear T
      rintro e w3 ⟨s, rfl, hs, T, k3⟩
      replace k2 := k2.nxb k3
      clear L2 k3
      go_wp2_with fail
      refine (word_t _ T).mono ?_
      clear T
      rintro e w4 ⟨m, rfl, hm, T, k4⟩
      replace k2 := k2.nxb k4
      clear k4
      have B4 := Blk.new w4 [.int .i64 (1 + d), .string s, .int .u32 m] 48
      have e4 := Ex.new w4 (.cells #[.int .i64 (1 + d), .string s, .int .u32 m] 48)
      obtain ⟨w5, hw5⟩ : ∃ w5, w5 = w4.alloc (.cells #[.int .i64 (1 + d), .string s, .int .u32 m] 48) := ⟨_, rfl⟩
      obtain ⟨g, hg⟩ : ∃ g, g = w4.heap.size := ⟨_, rfl⟩
      have B4 : Blk w5 g [.int .i64 (1 + d), .string s, .int .u32 m] 48 := by rw [hw5, hg]; exact B4
      rw [← hw5] at e4
      replace T := T.nx e4
      replace k2 := k2.nxb (e4.b b)
      have HW := Lib.hid hw5
      have HG := Lib.hid hg
      clear hw5 hg e4
      go_wp2_with fail
      rw [← HG.out, ← HW.out]
      have own5 := R.out.own.nxb hbw k2
      obtain ⟨A5, C5, rfl, s5, o5, m5, nil5⟩ := own5.slf (fun _ => rfl)
      have lenL : L.length ≤ 60 := by omega
      have NIL := Lib.hid nil5
      have O5 := Lib.hid own5
      have S5 : Sl 3 encN w5 A5 L.length L := s5.sl
      clear s5 nil5 own5
      obtain ⟨X, hX⟩ : ∃ X : Nd, X = ⟨1 + d, s, m⟩ := ⟨_, rfl⟩
      have SXF : ∀ cur, Ex w5 cur → Sl 3 encN (cur.alloc (.cells #[.int .i64 (1 + d), .string s, .int .u32 m] 48)) (some ⟨cur.heap.size, 0, none⟩) 1 [X] := fun cur _ => by rw [hX]; exact Sl.lit _ rfl rfl (fun _ => rfl) rfl
      have OWN0 : ∀ cur, Ex w5 cur → OwnL 3 encN 48 w5.heap.size cur (.slice none 0 0) [] := fun _ _ => OwnL.nil _ _ _ _ _
      have HX := Lib.hid hX
      have S5F := fun cur (h : Ex w5 cur) => S5.nx h
      have hX3 : m < 65536 := hm
      clear hX S5 hm d0 d1 hs
      refine wp_region_held_drew (S := Ex w5) (by kernel_rfl) ((Ex.refl w5).drew) (fun hHeld => ?_)
      refine wpAnyH_take (i := 0) (oi := ⟨some 26, .move (.tmp 5), 23, "tape.go:132", #[], none⟩) (v := ?_) rfl (by kernel_rfl) (by kernel_rfl) (by kernel_rfl) (fun _ _ _ h => h) (Or.inl ⟨by rfl, ?hyr1x0q1⟩) (by assumption) ?restr1x0q1
      case hyr1x0q1 => intro wq hSw; (go_simp); (try with_reducible rfl)
      try simp only [Act.put, List.setIfInBounds_toArray, List.set_cons_zero, List.set_cons_succ]
      refine wpAnyH_take (i := 2) (oi := ⟨some 28, .load 48 (.tmp 7), 48, "tape.go:132", #[], none⟩) (v := ?_) rfl (by kernel_rfl) (by kernel_rfl) (by kernel_rfl) (fun _ _ _ h => h) (Or.inl ⟨by rfl, ?hyr1x2q4⟩) (by assumption) ?restr1x2q4
      case hyr1x2q4 => intro wq hSw; (have cq := (B4.nx hSw).cell 0 _ rfl; have cq1 := (B4.nx hSw).cell 1 _ rfl; have cq2 := (B4.nx hSw).cell 2 _ rfl; go_simp); (try with_reducible rfl)
      try simp only [Act.put, List.setIfInBounds_toArray, List.set_cons_zero, List.set_cons_succ]
      refine wpAnyH_ready (rs := [1, 3]) (by kernel_rfl) (by simp) ?_
      refine AllReadyH.cons (o := ⟨some 27, .call { callee := .builtin .append, args := #[.const (.slice none 0 0), .tmp 26], argTypes := #[23, 23] }, 23, "tape.go:132", #[⟨0, .data⟩], none⟩) rfl (fun K hK => ?_) ?_
      · rw [if_pos (by rfl)]
        have own0 := OWN0 _ hHeld
        have s0 := S5F _ hHeld
        have z0 := Ex.size hHeld
        refine wp_append_rd (enc := encN) _ (.const (.slice none 0 0)) (.tmp 26) 23 rfl w5.heap.size 48 (.agg #[.int .i64 0, .string ByteArray.empty, .int .u32 0]) 3 32 Tryd.underlying23 Tryd.infoN rfl (by omega) (by omega) _ [] own0 rfl _ A5 L.length C5 L s0 NIL.out (fun _ => rfl) (by simp [encN, Value.oneCell']) rfl (by simp) (by omega) z0 ?_
        intro v6 w6 own6 ch0 ch1
        have j6 : Ex w5 w6 := Chg.trans hHeld ch1
        (try replace SX := SX.nx (Chg.mono ch0 (fun k hk => ⟨hk, by simp [Value.ownBlock]⟩)))
        clear own0 s0 z0 ch0 ch1
        refine hK.out _ _ (j6) (fun hHeld => ?_)
        clear hK K
        try simp only [Act.put, List.setIfInBounds_toArray, List.set_cons_zero, List.set_cons_succ]
        refine wpAnyH_ready (rs := [3]) (by kernel_rfl) (by simp) ?_
        refine AllReadyH.cons (o := ⟨some 29, .buildSlice 23 1 #[(0, .tmp 28)], 23, "tape.go:132", #[⟨2, .data⟩], none⟩) rfl (fun K hK => ?_) AllReadyH.nil
        go_simp
        have SX := SXF _ hHeld
        have j6 := hHeld.alloc (.cells #[.int .i64 (1 + d), .string s, .int .u32 m] 48)
        (try replace own6 := own6.alloc (.cells #[.int .i64 (1 + d), .string s, .int .u32 m] 48))
        refine hK.out _ _ (j6) (fun hHeld => ?_)
        clear hK K
        try simp only [Act.put, List.setIfInBounds_toArray, List.set_cons_zero, List.set_cons_succ]
        refine wpAnyH_ready (rs := [4]) (by kernel_rfl) (by simp) ?_
        refine AllReadyH.cons (o := ⟨some 30, .call { callee := .builtin .append, args := #[.tmp 27, .tmp 29], argTypes := #[23, 23] }, 23, "tape.go:132", #[⟨1, .data⟩, ⟨3, .data⟩, ⟨1, .chain⟩], none⟩) rfl (fun K hK => ?_) AllReadyH.nil
        rw [if_pos (by rfl)]
        have z0 := Ex.size hHeld
        refine wp_append_rd (enc := encN) _ (.tmp 27) (.tmp 29) 23 rfl w5.heap.size 48 (.agg #[.int .i64 0, .string ByteArray.empty, .int .u32 0]) 3 32 Tryd.underlying23 Tryd.infoN rfl (by omega) (by omega) _ ([] ++ L) own6 rfl _ _ 1 1 [X] SX (fun h => by cases h) (fun _ => rfl) (by simp [encN, Value.oneCell']) rfl (by rw [List.nil_append]; omega) (by omega) z0 ?_
        intro v7 w7 own7 ch0 ch1
        have j7 : Ex w5 w7 := Chg.trans hHeld ch1
        rw [List.nil_append] at own7
        obtain ⟨L7, h7⟩ : ∃ L7, L7 = L ++ [X] := ⟨_, rfl⟩
        rw [← h7] at own7
        have l7 : L7.length ≤ 61 := by rw [h7, List.length_append, List.length_singleton]; omega
        have H7 := Lib.hid h7
        clear h7
        obtain ⟨A7, C7, rfl, s7, _, _, _⟩ := own7.slf (fun _ => rfl)
        have s7 := s7.sl
        clear own7 own6 SX z0 ch0 ch1
        refine hK.out _ _ (j7) (fun hHeld => ?_)
        clear hK K
        try simp only [Act.put, List.setIfInBounds_toArray, List.set_cons_zero, List.set_cons_succ]
        refine wpAnyH_ready (rs := [5]) (by kernel_rfl) (by simp) ?_
        refine AllReadyH.cons (o := ⟨some 31, .call { callee := .value (.func 58), args := #[.tmp 30], argTypes := #[23] }, 4, "tape.go:132", #[⟨4, .data⟩, ⟨4, .chain⟩], none⟩) rfl (fun K hK => ?_) AllReadyH.nil
        go_simp
        (with_reducible refine (is_r _ _ _ _ _ s7 (by omega)).mono ?_)
        rintro e w8 ⟨rfl, kk⟩
        have j8 := hHeld.nx kk
        clear kk s7
        refine hK.out _ _ (j8) (fun hHeld => ?_)
        clear hK K
        try simp only [Act.put, List.setIfInBounds_toArray, List.set_cons_zero, List.set_cons_succ]
        refine wpAnyH_done (by kernel_rfl) ?_ _
        replace T := T.nx hHeld
        have own8 := O5.out.nx hHeld
        have B8 := B4.nx hHeld
        have k8 := k2.nxb (hHeld.b b)
        have c0 := B8.cell 0 _ rfl
        have c1 := B8.cell 1 _ rfl
        have c2 := B8.cell 2 _ rfl
        have k9 := R.out.k.nxb k8
        have z8 := k9.size
        clear hHeld B8 B4 SXF OWN0 S5F j6 j7 j8 s7 k8 l7
        cases hc : (checkN L7 == 0) with
        | true =>
          have HCK : Hid (checkN (L ++ [X]) = 0) := Lib.hid (by rw [← H7.out]; simpa using hc)
          clear hc
          go_wp2_with (at_builtin; (refine wpList_append_lit (enc := encN) w8 rfl _ _ 23 rfl w.heap.size 48 (.agg #[.int .i64 0, .string ByteArray.empty, .int .u32 0]) 3 32 Tryd.underlying23 Tryd.infoN rfl (by omega) (by omega) _ _ own8 rfl X _ (by rw [HX.out]; rfl) rfl (by simp [encN, Value.oneCell']) _ (by simp) rfl (by omega) (by omega) _ ?_); intro v9 w9 own9 _ ch1 _)
          refine ⟨⟨q - 1, L ++ [X], by simp; omega, by rw [show ((q - 1 : Nat) : Int) = (q : Int) - 1 by omega], own9, by simp; omega, HCK.out, ?_, TP.chg T ch1 (fun x hx => by omega), Chg.trans k9 (ch1.mono (fun x hx => hx.1))⟩, by simp [intOf]; omega⟩
          intro x hx
          rcases List.mem_append.1 hx with hx | hx
          · exact R.out.word x hx
          · rw [List.mem_singleton.1 hx, HX.out]; exact hX3
        | false =>
          clear hc
          go_wp2_with fail
          exact ⟨⟨q - 1, L, by omega, by rw [show ((q - 1 : Nat) : Int) = (q : Int) - 1 by omega], own8, by omega, R.out.ok, R.out.word, T, k9⟩, by simp [intOf]; omega⟩
      refine AllReadyH.cons (o := ⟨some 29, .buildSlice 23 1 #[(0, .tmp 28)], 23, "tape.go:132", #[⟨2, .data⟩], none⟩) rfl (fun K hK => ?_) AllReadyH.nil
      · go_simp
        have SX := SXF _ hHeld
        have j6 := hHeld.alloc (.cells #[.int .i64 (1 + d), .string s, .int .u32 m] 48)
        (try replace own6 := own6.alloc (.cells #[.int .i64 (1 + d), .string s, .int .u32 m] 48))
        refine hK.out _ _ (j6) (fun hHeld => ?_)
        clear hK K
        try simp only [Act.put, List.setIfInBounds_toArray, List.set_cons_zero, List.set_cons_succ]
        refine wpAnyH_ready (rs := [1]) (by kernel_rfl) (by simp) ?_
        refine AllReadyH.cons (o := ⟨some 27, .call { callee := .builtin .append, args := #[.const (.slice none 0 0), .tmp 26], argTypes := #[23, 23] }, 23, "tape.go:132", #[⟨0, .data⟩], none⟩) rfl (fun K hK => ?_) AllReadyH.nil
        rw [if_pos (by rfl)]
        have own0 := OWN0 _ hHeld
        have s0 := S5F _ hHeld
        have z0 := Ex.size hHeld
        refine wp_append_rd (enc := encN) _ (.const (.slice none 0 0)) (.tmp 26) 23 rfl w5.heap.size 48 (.agg #[.int .i64 0, .string ByteArray.empty, .int .u32 0]) 3 32 Tryd.underlying23 Tryd.infoN rfl (by omega) (by omega) _ [] own0 rfl _ A5 L.length C5 L s0 NIL.out (fun _ => rfl) (by simp [encN, Value.oneCell']) rfl (by simp) (by omega) z0 ?_
        intro v6 w6 own6 ch0 ch1
        have j6 : Ex w5 w6 := Chg.trans hHeld ch1
        (try replace SX := SX.nx (Chg.mono ch0 (fun k hk => ⟨hk, by simp [Value.ownBlock]⟩)))
        clear own0 s0 z0 ch0 ch1
        refine hK.out _ _ (j6) (fun hHeld => ?_)
        clear hK K
        try simp only [Act.put, List.setIfInBounds_toArray, List.set_cons_zero, List.set_cons_succ]
        refine wpAnyH_ready (rs := [4]) (by kernel_rfl) (by simp) ?_
        refine AllReadyH.cons (o := ⟨some 30, .call { callee := .builtin .append, args := #[.tmp 27, .tmp 29], argTypes := #[23, 23] }, 23, "tape.go:132", #[⟨1, .data⟩, ⟨3, .data⟩, ⟨1, .chain⟩], none⟩) rfl (fun K hK => ?_) AllReadyH.nil
        rw [if_pos (by rfl)]
        have z0 := Ex.size hHeld
        refine wp_append_rd (enc := encN) _ (.tmp 27) (.tmp 29) 23 rfl w5.heap.size 48 (.agg #[.int .i64 0, .string ByteArray.empty, .int .u32 0]) 3 32 Tryd.underlying23 Tryd.infoN rfl (by omega) (by omega) _ ([] ++ L) own6 rfl _ _ 1 1 [X] SX (fun h => by cases h) (fun _ => rfl) (by simp [encN, Value.oneCell']) rfl (by rw [List.nil_append]; omega) (by omega) z0 ?_
        intro v7 w7 own7 ch0 ch1
        have j7 : Ex w5 w7 := Chg.trans hHeld ch1
        rw [List.nil_append] at own7
        obtain ⟨L7, h7⟩ : ∃ L7, L7 = L ++ [X] := ⟨_, rfl⟩
        rw [← h7] at own7
        have l7 : L7.length ≤ 61 := by rw [h7, List.length_append, List.length_singleton]; omega
        have H7 := Lib.hid h7
        clear h7
        obtain ⟨A7, C7, rfl, s7, _, _, _⟩ := own7.slf (fun _ => rfl)
        have s7 := s7.sl
        clear own7 own6 SX z0 ch0 ch1
        refine hK.out _ _ (j7) (fun hHeld => ?_)
        clear hK K
        try simp only [Act.put, List.setIfInBounds_toArray, List.set_cons_zero, List.set_cons_succ]
        refine wpAnyH_ready (rs := [5]) (by kernel_rfl) (by simp) ?_
        refine AllReadyH.cons (o := ⟨some 31, .call { callee := .value (.func 58), args := #[.tmp 30], argTypes := #[23] }, 4, "tape.go:132", #[⟨4, .data⟩, ⟨4, .chain⟩], none⟩) rfl (fun K hK => ?_) AllReadyH.nil
        go_simp
        (with_reducible refine (is_r _ _ _ _ _ s7 (by omega)).mono ?_)
        rintro e w8 ⟨rfl, kk⟩
        have j8 := hHeld.nx kk
        clear kk s7
        refine hK.out _ _ (j8) (fun hHeld => ?_)
        clear hK K
        try simp only [Act.put, List.setIfInBounds_toArray, List.set_cons_zero, List.set_cons_succ]
        refine wpAnyH_done (by kernel_rfl) ?_ _
        replace T := T.nx hHeld
        have own8 := O5.out.nx hHeld
        have B8 := B4.nx hHeld
        have k8 := k2.nxb (hHeld.b b)
        have c0 := B8.cell 0 _ rfl
        have c1 := B8.cell 1 _ rfl
        have c2 := B8.cell 2 _ rfl
        have k9 := R.out.k.nxb k8
        have z8 := k9.size
        clear hHeld B8 B4 SXF OWN0 S5F j6 j7 j8 s7 k8 l7
        cases hc : (checkN L7 == 0) with
        | true =>
          have HCK : Hid (checkN (L ++ [X]) = 0) := Lib.hid (by rw [← H7.out]; simpa using hc)
          clear hc
          go_wp2_with (at_builtin; (refine wpList_append_lit (enc := encN) w8 rfl _ _ 23 rfl w.heap.size 48 (.agg #[.int .i64 0, .string ByteArray.empty, .int .u32 0]) 3 32 Tryd.underlying23 Tryd.infoN rfl (by omega) (by omega) _ _ own8 rfl X _ (by rw [HX.out]; rfl) rfl (by simp [encN, Value.oneCell']) _ (by simp) rfl (by omega) (by omega) _ ?_); intro v9 w9 own9 _ ch1 _)
          refine ⟨⟨q - 1, L ++ [X], by simp; omega, by rw [show ((q - 1 : Nat) : Int) = (q : Int) - 1 by omega], own9, by simp; omega, HCK.out, ?_, TP.chg T ch1 (fun x hx => by omega), Chg.trans k9 (ch1.mono (fun x hx => hx.1))⟩, by simp [intOf]; omega⟩
          intro x hx
          rcases List.mem_append.1 hx with hx | hx
          · exact R.out.word x hx
          · rw [List.mem_singleton.1 hx, HX.out]; exact hX3
        | false =>
          clear hc
          go_wp2_with fail
          exact ⟨⟨q - 1, L, by omega, by rw [show ((q - 1 : Nat) : Int) = (q : Int) - 1 by omega], own8, by omega, R.out.ok, R.out.word, T, k9⟩, by simp [intOf]; omega⟩
    · clear hL T
      go_wp2_with fail
      go_ret
      exact ⟨_, L, rfl, R⟩
end Go.Proofs.YtkjlhcfocefhpaaDoor

/- Bool of the tape, in the standard forms. -/
namespace Go.Proofs.YtkjlhcfocefhpaaDoor
open Go.RowKit
set_option maxHeartbeats 400000 in
theorem bool_t {b : Nat} (n : Int) (w : World) (h : TK w b) (h1 : 1 ≤ n) (h2 : n ≤ 1000000) :
    Calls Tryd.prog 18 #[.pointer (some ⟨b, 0, none⟩), .int .i64 n] w fun e w' => ∃ r : Bool, e = .returned (.bool r) ∧ TK w' b ∧ Exb b w w' := by
  go_enter Tryd.func18, Tryd.ntmps18
  go_wp2_with fail
  refine (next_t n _ h h1 (by omega)).mono ?_
  rintro e w1 ⟨r, rfl, r0, r1, t1, k1⟩
  go_wp2_with fail
  go_ret
  exact ⟨_, rfl, t1, k1⟩
end Go.Proofs.YtkjlhcfocefhpaaDoor

/- Numbers, keys, heights of the tape. -/
namespace Go.Proofs.YtkjlhcfocefhpaaDoor
open Go.RowKit

def I64 (x : Int) : Prop := -9223372036854775808 ≤ x ∧ x ≤ 9223372036854775807
set_option maxHeartbeats 1000000 in
theorem id_t {b : Nat} (a : Option Addr) (n cp : Nat) (l : List Nd) (w : World) (h : TK w b) (hs : Slb 3 encN b w a n l) (hn : n ≤ 1000) (hi : ∀ x ∈ l, I64 x.id) :
    Calls Tryd.prog 20 #[.pointer (some ⟨b, 0, none⟩), .slice a n cp] w fun e w' => ∃ r : Int, e = .returned (.int .i64 r) ∧ I64 r ∧ TK w' b ∧ Exb b w w' := by
  have HI := Lib.hid hi
  have hlen := Lib.hid hs.len
  clear hi
  go_enter Tryd.func20, Tryd.ntmps20
  by_cases hn0 : n = 0
  · have d0 : ((n : Int) == 0) = true := by simp; omega
    clear hs
    go_wp2_with fail
    refine (pick_t (n := 5) (-1) 4611686018427387904 [0, -1, 999, 4611686018427387904, 1] h rfl rfl rfl (by omega) (by omega) (by intro x hx; simp at hx; omega)).mono ?_
    clear h
    rintro e w2 ⟨r, rfl, r0, r1, T, kk⟩
    go_wp2_with fail
    go_ret
    exact ⟨r, rfl, ⟨by omega, by omega⟩, T, kk⟩
  · have d0 : ((n : Int) == 0) = false := by simp; omega
    have hnp : 0 < n := by omega
    clear hn0
    go_wp2_with fail
    refine (bool_t 8 _ h (by omega) (by omega)).mono ?_
    clear h
    rintro e w1 ⟨r, rfl, T, kk⟩
    cases r with
    | true =>
      clear hs
      go_wp2_with fail
      refine (pick_t (n := 5) (-1) 4611686018427387904 [0, -1, 999, 4611686018427387904, 1] T rfl rfl rfl (by omega) (by omega) (by intro x hx; simp at hx; omega)).mono ?_
      clear T
      rintro e w2 ⟨r, rfl, r0, r1, T, k2⟩
      have kk := kk.nxb k2
      clear k2
      go_wp2_with fail
      go_ret
      exact ⟨r, rfl, ⟨by omega, by omega⟩, T, kk⟩
    | false =>
      have S1 := hs.nxb kk
      clear hs
      go_wp2_with fail
      refine (next_t (n : Int) _ T (by omega) (by omega)).mono ?_
      clear T
      rintro e w2 ⟨j, rfl, j0, j1, T, k2⟩
      obtain ⟨j, rfl⟩ := Int.eq_ofNat_of_zero_le j0
      have S2 := S1.nxb k2
      have kk := kk.nxb k2
      obtain ⟨x, o, y, rfl, hx, hy, hc⟩ := S2.sl.at (j := j) (by omega)
      have e0 : w2.cell? ⟨x, o + j * 3, none⟩ = some (.int .i64 y.id) := hc 0 _ rfl
      have hyi := Lib.hid (HI.out y (List.mem_of_getElem? hy))
      have hjn : (j : Int) < (n : Int) := by omega
      clear k2 S1 S2 hc hy
      go_wp2_with fail
      go_ret
      exact ⟨y.id, rfl, hyi.out, T, kk⟩

set_option maxHeartbeats 1000000 in
theorem oddkey_t {b : Nat} (w : World) (h : TK w b) (hL : LetG w) (hgb : ¬ 0 = b) : Calls Tryd.prog 21 #[.pointer (some ⟨b, 0, none⟩)] w (KeyPost 65 b w) := by
  go_enter Tryd.func21, Tryd.ntmps21
  go_wp2_with fail
  refine (bool_t 10 _ h (by omega) (by omega)).mono ?_
  clear h
  rintro e w1 ⟨r, rfl, T, kk⟩
  have L1 := hL.nxb hgb kk
  clear hL
  cases r with
  | true =>
    go_wp2_with fail
    refine (next_t 6 _ T (by omega) (by omega)).mono ?_
    clear T
    rintro e w2 ⟨j, rfl, j0, j1, T, k2⟩
    obtain ⟨j, rfl⟩ := Int.eq_ofNat_of_zero_le j0
    obtain ⟨s, hs, hc⟩ := (L1.nxb hgb k2) j (by omega)
    have kk := kk.nxb k2
    have HS := Lib.hid hs
    clear hs k2 L1
    go_wp2_with fail
    refine (long_x s 65 _ HS.out (by omega)).mono ?_
    rintro e w3 ⟨⟨r, rfl, hr⟩, rfl⟩
    have HR := Lib.hid hr
    clear hr
    go_wp2_with fail
    go_ret
    exact ⟨r, rfl, Nat.le_of_eq HR.out, T, kk⟩
  | false =>
    go_wp2_with fail
    refine (key_t _ T L1 hgb).mono ?_
    clear T
    rintro e w2 ⟨s, rfl, hs, T, k2⟩
    have kk := kk.nxb k2
    clear k2 L1
    go_wp2_with fail
    go_ret
    exact ⟨s, rfl, by omega, T, kk⟩

theorem heightN_le (l : List Nd) : heightN l ≤ 16 := by
  unfold heightN
  split
  · omega
  · cases hf : (List.range 16).find? (fun h => !decide ((classesN (sortN l) (h : Nat)).length < l.length)) with
    | none => simp
    | some x =>
      have := List.mem_of_find?_eq_some hf
      simp at this ⊢
      omega
end Go.Proofs.YtkjlhcfocefhpaaDoor

/- OddRoster of the tape. -/
namespace Go.Proofs.YtkjlhcfocefhpaaDoor
open Go.RowKit

theorem flat_set1 {α : Type} {sz : Nat} {enc : α → List Value} (hsz : ∀ y, (enc y).length = sz) {c : Nat} (hc : c < sz) {y' : α} {v : Value} :
    ∀ (L : List α) (j : Nat) (y : α), L[j]? = some y → enc y' = (enc y).set c v → (L.set j y').flatMap enc = (L.flatMap enc).set (j * sz + c) v
  | [], j, y, h, _ => by simp at h
  | z :: r, 0, y, h, hv => by
    simp at h; subst h
    rw [List.set_cons_zero, List.flatMap_cons, List.flatMap_cons, hv, Nat.zero_mul, Nat.zero_add, List.set_append_left _ _ (by rw [hsz]; exact hc)]
  | z :: r, j + 1, y, h, hv => by
    rw [List.set_cons_succ, List.flatMap_cons, List.flatMap_cons, flat_set1 hsz hc r j y (by simpa using h) hv, List.set_append_right _ _ (by rw [hsz, Nat.succ_mul]; omega), hsz]
    congr 2
    rw [Nat.succ_mul]; omega
theorem own_set1 {α : Type} {sz : Nat} {enc : α → List Value} (hsz : ∀ y, (enc y).length = sz) {e : TypeId} {base : Nat} {w : World} {g n cap j c : Nat} {L : List α} {y : α} (h : OwnL sz enc e base w (.slice (some ⟨g, 0, none⟩) n cap) L)
    (hy : L[j]? = some y) (hc : c < sz) : w.cell? ⟨g, j * sz + c, none⟩ = (enc y)[c]? ∧ w.frozen? ⟨g, j * sz + c, none⟩ = false ∧
      ∀ (y' : α) (v : Value), enc y' = (enc y).set c v → OwnL sz enc e base (w.setCell ⟨g, j * sz + c, none⟩ v) (.slice (some ⟨g, 0, none⟩) n cap) (L.set j y') := by
  rcases h.2 with ⟨h1, _⟩ | ⟨g', cap', cur, e1, e2, e3, e4, e5, e6, e7⟩
  · cases h1
  · obtain ⟨rfl, hLn, rfl⟩ : g = g' ∧ n = L.length ∧ cap = cap' := by simpa using e1
    have hjl := (List.getElem?_eq_some_iff.1 hy).1
    have hlt : j * sz + c < L.length * sz := by
      have : (j + 1) * sz ≤ L.length * sz := Nat.mul_le_mul_right _ hjl
      rw [Nat.succ_mul] at this; omega
    refine ⟨?_, by simp [World.frozen?, e3], fun y' v hv => ⟨?_, .inr ⟨g, cap, _, by simp [hLn], e2, heap_set e3 _ v, by simpa using e4, e5, by simpa using e6, ?_⟩⟩⟩
    · have h2 : (cur.toList.take (L.length * sz))[j * sz + c]? = (enc y)[c]? := by
        rw [e7]
        have hcy : c < (enc y).length := by rw [hsz]; exact hc
        rw [List.getElem?_eq_getElem hcy]
        exact flat_at hsz L j y hy c _ (List.getElem?_eq_getElem hcy)
      rw [List.getElem?_take, if_pos hlt] at h2
      simpa [World.cell?, e3] using h2
    · rw [flatN_len hsz]
    · rw [flat_set1 hsz hc L j y hy hv, ← e7, List.length_set]
      simp only [Array.toList_setIfInBounds, List.take_set]

/-- what the encodings ask of a node -/
def NOk (x : Nd) : Prop := I64 x.id ∧ x.word < 4294967296 ∧ x.key.size ≤ 65
theorem roster_ok {l : List Nd} (h : checkN l = 0) : ∀ x ∈ l, NOk x ∧ 1 ≤ x.id ∧ x.id ≤ 2147483647 ∧ x.key.size ≤ 64 ∧ x.word < 65536 := by
  intro x hx
  have hb : badN x = false := by
    cases hb : badN x with
    | false => rfl
    | true =>
      exfalso
      unfold checkN at h
      have : l.any badN = true := List.any_eq_true.2 ⟨x, hx, hb⟩
      rw [this] at h
      split at h <;> simp at h
  unfold badN validN at hb
  simp at hb
  obtain ⟨⟨⟨h1, h2⟩, h3⟩, h4⟩ := hb
  exact ⟨⟨⟨by omega, by omega⟩, by omega, by omega⟩, by omega, by omega, by omega, by omega⟩
structure OddOf (n b : Nat) (w w' : World) (v : Value) (L : List Nd) : Prop where
  own : OwnL 3 encN 48 w.heap.size w' v L
  len : L.length ≤ n + 1
  ok : ∀ x ∈ L, NOk x
  tape : TK w' b
  k : Exb b w w'
theorem ok_set {L : List Nd} (h : ∀ x ∈ L, NOk x) (j : Nat) {y : Nd} (hy : NOk y) : ∀ x ∈ L.set j y, NOk x := fun x hx => by
  rcases List.mem_or_eq_of_mem_set hx with h1 | rfl
  · exact h x h1
  · exact hy
theorem ok_snoc {L : List Nd} (h : ∀ x ∈ L, NOk x) {y : Nd} (hy : NOk y) : ∀ x ∈ L ++ [y], NOk x := fun x hx => by
  rcases List.mem_append.1 hx with h1 | h1
  · exact h x h1
  · rw [List.mem_singleton.1 h1]; exact hy

set_option maxRecDepth 100000 in
set_option maxHeartbeats 8000000 in
theorem oddroster_t {b : Nat} (a : Option Addr) (n cp : Nat) (l : List Nd) (w : World) (h : TK w b) (hs : Slb 3 encN b w a n l) (hnil : a = none → cp = 0) (hn : n ≤ 100) (hok : ∀ x ∈ l, NOk x) (hL : LetG w) (hgb : ¬ 0 = b) :
    Calls Tryd.prog 19 #[.pointer (some ⟨b, 0, none⟩), .slice a n cp] w fun e w' => ∃ v L, e = .returned v ∧ OddOf n b w w' v L := by
  have OK := Lib.hid hok
  have NIL := Lib.hid hnil
  have hlen := hs.len
  have hbw := h.lt
  have own0 : OwnL 3 encN 48 w.heap.size w (.slice none 0 0) [] := OwnL.nil _ _ _ _ _
  have s0 := hs.sl
  clear hok hnil
  go_enter Tryd.func19, Tryd.ntmps19
  go_upto_region 2 with (at_builtin; (refine wpList_append_rd (enc := encN) w rfl (.const (.slice none 0 0)) (.tmp 6) 23 rfl w.heap.size 48 (.agg #[.int .i64 0, .string ByteArray.empty, .int .u32 0]) 3 32 Tryd.underlying23 Tryd.infoN rfl (by omega) (by omega) _ [] own0 rfl _ a n cp l s0 NIL.out (fun _ => rfl) (by simp [encN, Value.oneCell']) rfl (by simp) (by omega) (Nat.le_refl _) ?_); intro v1 w1 own1 ch0 ch1)
  rw [List.nil_append] at own1
  have k1 : Ex w w1 := ch1
  replace h := h.nx k1
  replace hL := hL.nx k1
  have kk := k1.b b
  obtain ⟨a1, c1, rfl, _, _, _, some1⟩ := own1.rd (fun _ => rfl)
  subst hlen
  have z1 := k1.size
  have k1 := Lib.hid k1
  clear own0 s0 hs ch0 ch1
  by_cases hn0 : l.length = 0
  · have d0 : ((l.length : Int) == 0) = true := by rw [hn0]; rfl
    have hl0 : l = [] := List.eq_nil_of_length_eq_zero hn0
    subst hl0
    have own1 : OwnL 3 encN 48 w.heap.size w1 (.slice a1 0 c1) [] := own1
    clear some1 hn0
    go_wp2_with fail
    refine (pick_t (n := 3) (-1) 1 [0, 1, -1] h rfl rfl rfl (by omega) (by omega) (by intro x hx; simp at hx; omega)).mono ?_
    clear h
    rintro e w2 ⟨r, rfl, r0, r1, T, k2⟩
    have own2 := own1.nxb hbw k2
    replace kk := kk.nxb k2
    replace hL := hL.nxb hgb k2
    clear own1 k2
    go_wp2_with fail
    refine (oddkey_t _ T hL hgb).mono ?_
    clear T
    rintro e w3 ⟨s, rfl, hsz, T, k2⟩
    have own3 := own2.nxb hbw k2
    replace kk := kk.nxb k2
    clear own2 k2 hL
    go_wp2_with fail
    refine (pick_t (n := 2) (0) 65536 [0, 65536] T rfl rfl rfl (by omega) (by omega) (by intro x hx; simp at hx; omega)).mono ?_
    clear T
    rintro e w4 ⟨m, rfl, m0, m1, T, k2⟩
    obtain ⟨m, rfl⟩ := Int.eq_ofNat_of_zero_le m0
    have hmw : IntKind.u32.wrap (m : Int) = (m : Int) := by rw [wrap_u32n]; omega
    have own4 := own3.nxb hbw k2
    replace kk := kk.nxb k2
    have z4 := kk.size
    clear own3 k2
    go_wp2_with (at_builtin; (refine wpList_append_lit (enc := encN) w4 rfl _ _ 23 rfl w.heap.size 48 (.agg #[.int .i64 0, .string ByteArray.empty, .int .u32 0]) 3 32 Tryd.underlying23 Tryd.infoN rfl (by omega) (by omega) _ _ own4 rfl (⟨r, s, m⟩ : Nd) _ rfl rfl (by simp [encN, Value.oneCell']) _ (by simp) rfl (by omega) (by omega) _ ?_); intro v9 w9 own9 ch0 ch1 _)
    go_ret
    exact ⟨v9, _, rfl, ⟨own9, by simp, ok_snoc OK.out ⟨⟨by show _ ≤ r; omega, by show r ≤ _; omega⟩, by show m < _; omega, hsz⟩, TP.chg T ch1 (fun x hx => by omega), Chg.trans kk (ch1.mono (fun x hx => hx.1))⟩⟩
  · have d0 : ((l.length : Int) == 0) = false := beq_eq_false_iff_ne.2 (by omega)
    obtain ⟨g, rfl, hg⟩ := some1 (fun h0 => hn0 (by rw [h0]; rfl))
    have hlp : 0 < l.length := by omega
    have hgb' : ¬ g = b := by omega
    have HN0 := Lib.hid hn0
    clear some1 hn0
    go_wp2_with fail
    refine (next_t (l.length : Int) _ h (by omega) (by omega)).mono ?_
    clear h
    rintro e w2 ⟨j, rfl, j0, j1, T, k2⟩
    obtain ⟨j, rfl⟩ := Int.eq_ofNat_of_zero_le j0
    have hjl : j < l.length := by omega
    have hjl' : (j : Int) < (l.length : Int) := by omega
    have own2 := own1.nxb hbw k2
    replace kk := kk.nxb k2
    replace hL := hL.nxb hgb k2
    obtain ⟨y, hy⟩ : ∃ y, l[j]? = some y := ⟨l[j], by simp⟩
    have hyok := Lib.hid (OK.out y (List.mem_of_getElem? hy))
    have HY := Lib.hid hy
    clear own1 k2 hy
    go_wp2_with fail
    refine (next_t 6 _ T (by omega) (by omega)).mono ?_
    clear T
    rintro e w3 ⟨r, rfl, r0, r1, T, k2⟩
    have own3 := own2.nxb hbw k2
    replace kk := kk.nxb k2
    replace hL := hL.nxb hgb k2
    clear own2 k2
    have hr : r = 0 ∨ r = 1 ∨ r = 2 ∨ r = 3 ∨ r = 4 ∨ r = 5 := by omega
    clear r0 r1
    rcases hr with rfl | rfl | rfl | rfl | rfl | rfl
    · go_wp2_with fail
      refine (pick_t (n := 5) (-9223372036854775808) 2147483648 [0, -1, 2147483648, 2147483647, -9223372036854775808] T rfl rfl rfl (by omega) (by omega) (by intro x hx; simp at hx; omega)).mono ?_
      clear T hL
      rintro e w4 ⟨m, rfl, m0, m1, T, k2⟩
      have own4 := own3.nxb hbw k2
      replace kk := kk.nxb k2
      obtain ⟨q0, f0, OS⟩ := own_set1 (sz := 3) (enc := encN) (c := 0) (fun _ => rfl) own4 HY.out (by omega)
      have q0 : w4.cell? ⟨g, j * 3, none⟩ = some (.int .i64 y.id) := q0
      have f0 : w4.frozen? ⟨g, j * 3, none⟩ = false := f0
      have OS := Lib.hid (OS ⟨m, y.key, y.word⟩ (.int .i64 m) rfl)
      clear own3 own4 k2
      go_wp2_with fail
      go_ret
      exact ⟨_, _, rfl, ⟨OS.out, by simp, ok_set OK.out j ⟨⟨by show _ ≤ m; omega, by show m ≤ _; omega⟩, hyok.out.2.1, hyok.out.2.2⟩, T.set _ (by show b < g; omega), kk.setNew _ hg⟩⟩
    · go_wp2_with fail
      refine (oddkey_t _ T hL hgb).mono ?_
      clear T hL
      rintro e w4 ⟨s, rfl, hsz, T, k2⟩
      have own4 := own3.nxb hbw k2
      replace kk := kk.nxb k2
      obtain ⟨q0, f0, OS⟩ := own_set1 (sz := 3) (enc := encN) (c := 1) (fun _ => rfl) own4 HY.out (by omega)
      have q0 : w4.cell? ⟨g, j * 3 + 1, none⟩ = some (.string y.key) := q0
      have OS := Lib.hid (OS ⟨y.id, s, y.word⟩ (.string s) rfl)
      clear own3 own4 k2
      go_wp2_with fail
      go_ret
      exact ⟨_, _, rfl, ⟨OS.out, by simp, ok_set OK.out j ⟨hyok.out.1, hyok.out.2.1, hsz⟩, T.set _ (by show b < g; omega), kk.setNew _ hg⟩⟩
    · go_wp2_with fail
      refine (pick_t (n := 3) (0) 4294967295 [65536, 4294967295, 5] T rfl rfl rfl (by omega) (by omega) (by intro x hx; simp at hx; omega)).mono ?_
      clear T hL
      rintro e w4 ⟨m, rfl, m0, m1, T, k2⟩
      obtain ⟨m, rfl⟩ := Int.eq_ofNat_of_zero_le m0
      have hmw : IntKind.u32.wrap (m : Int) = (m : Int) := by rw [wrap_u32n]; omega
      have own4 := own3.nxb hbw k2
      replace kk := kk.nxb k2
      obtain ⟨q0, f0, OS⟩ := own_set1 (sz := 3) (enc := encN) (c := 2) (fun _ => rfl) own4 HY.out (by omega)
      have q0 : w4.cell? ⟨g, j * 3 + 2, none⟩ = some (.int .u32 y.word) := q0
      have OS := Lib.hid (OS ⟨y.id, y.key, m⟩ (.int .u32 m) rfl)
      clear own3 own4 k2
      go_wp2_with fail
      go_ret
      exact ⟨_, _, rfl, ⟨OS.out, by simp, ok_set OK.out j ⟨hyok.out.1, by show m < _; omega, hyok.out.2.2⟩, T.set _ (by show b < g; omega), kk.setNew _ hg⟩⟩
    · have e0 : w3.cell? ⟨g, j * 3, none⟩ = some (.int .i64 y.id) := (own_set1 (sz := 3) (enc := encN) (c := 0) (fun _ => rfl) own3 HY.out (by omega)).1
      have e1 : w3.cell? ⟨g, j * 3 + 1, none⟩ = some (.string y.key) := (own_set1 (sz := 3) (enc := encN) (c := 1) (fun _ => rfl) own3 HY.out (by omega)).1
      have e2 : w3.cell? ⟨g, j * 3 + 1 + 1, none⟩ = some (.int .u32 y.word) := (own_set1 (sz := 3) (enc := encN) (c := 2) (fun _ => rfl) own3 HY.out (by omega)).1
      have z4 := kk.size
      clear hL
      go_wp2_with (at_builtin; (refine wpList_append_lit (enc := encN) w3 rfl _ _ 23 rfl w.heap.size 48 (.agg #[.int .i64 0, .string ByteArray.empty, .int .u32 0]) 3 32 Tryd.underlying23 Tryd.infoN rfl (by omega) (by omega) _ _ own3 rfl y _ rfl rfl (by simp [encN, Value.oneCell']) _ (by simp) rfl (by omega) (by omega) _ ?_); intro v9 w9 own9 ch0 ch1 _)
      go_ret
      exact ⟨v9, _, rfl, ⟨own9, by simp, ok_snoc OK.out hyok.out, TP.chg T ch1 (fun x hx => by omega), Chg.trans kk (ch1.mono (fun x hx => hx.1))⟩⟩
    · clear hL
      go_wp2_with fail
      have own4 : OwnL 3 encN 48 w.heap.size w3.drew (.slice (some ⟨g, 0, none⟩) l.length c1) l := own3.nxb hbw (Exb.refl b w3).drew
      have T : TK w3.drew b := T
      have kk := kk.drew
      clear own3
      refine wp_region_held_drew (S := fun _ => True) (by kernel_rfl) (trivial) (fun hHeld => ?_)
      refine wpAnyH_take (i := 0) (oi := ⟨some 76, .move (.tmp 1), 23, "tape.go:165", #[], none⟩) (v := ?_) rfl (by kernel_rfl) (by kernel_rfl) (by kernel_rfl) (fun _ _ _ h => h) (Or.inl ⟨by rfl, ?hyr1x0q1⟩) (by assumption) ?restr1x0q1
      case hyr1x0q1 => intro wq hSw; (go_simp); (try with_reducible rfl)
      try simp only [Act.put, List.setIfInBounds_toArray, List.set_cons_zero, List.set_cons_succ]
      refine wpAnyH_take (i := 1) (oi := ⟨some 77, .move (.tmp 0), 25, "tape.go:165", #[], none⟩) (v := ?_) rfl (by kernel_rfl) (by kernel_rfl) (by kernel_rfl) (fun _ _ _ h => h) (Or.inl ⟨by rfl, ?hyr1x1q4⟩) (by assumption) ?restr1x1q4
      case hyr1x1q4 => intro wq hSw; (go_simp); (try with_reducible rfl)
      try simp only [Act.put, List.setIfInBounds_toArray, List.set_cons_zero, List.set_cons_succ]
      refine wpAnyH_take (i := 4) (oi := ⟨some 80, .move (.tmp 5), 92, "tape.go:165", #[], none⟩) (v := ?_) rfl (by kernel_rfl) (by kernel_rfl) (by kernel_rfl) (fun _ _ _ h => h) (Or.inl ⟨by rfl, ?hyr1x4q7⟩) (by assumption) ?restr1x4q7
      case hyr1x4q7 => intro wq hSw; (go_simp); (try with_reducible rfl)
      try simp only [Act.put, List.setIfInBounds_toArray, List.set_cons_zero, List.set_cons_succ]
      refine wpAnyH_take (i := 5) (oi := ⟨some 81, .nilCheck (.tmp 80), 0, "tape.go:165", #[⟨4, .data⟩], none⟩) (v := ?_) rfl (by kernel_rfl) (by kernel_rfl) (by kernel_rfl) (fun _ _ _ h => h) (Or.inl ⟨by rfl, ?hyr1x5q10⟩) (by assumption) ?restr1x5q10
      case hyr1x5q10 => intro wq hSw; (go_simp); (try with_reducible rfl)
      try simp only [Act.put, List.setIfInBounds_toArray, List.set_cons_zero, List.set_cons_succ]
      refine wpAnyH_take (i := 6) (oi := ⟨some 82, .fieldAddr 48 (.tmp 81) 1, 0, "tape.go:165", #[⟨5, .data⟩], none⟩) (v := ?_) rfl (by kernel_rfl) (by kernel_rfl) (by kernel_rfl) (fun _ _ _ h => h) (Or.inl ⟨by rfl, ?hyr1x6q13⟩) (by assumption) ?restr1x6q13
      case hyr1x6q13 => intro wq hSw; (go_simp); (try with_reducible rfl)
      try simp only [Act.put, List.setIfInBounds_toArray, List.set_cons_zero, List.set_cons_succ]
      refine wpAnyH_ready (rs := [2, 7]) (by kernel_rfl) (by simp) ?_
      refine AllReadyH.cons (o := ⟨some 78, .call { callee := .value (.func 17), args := #[.tmp 77, .const (.int .i64 50)], argTypes := #[25, 3] }, 3, "tape.go:165", #[⟨1, .data⟩], none⟩) rfl (fun K hK => ?_) ?_
      · go_simp
        (refine (next_t 50 _ T (by omega) (by omega)).mono ?_)
        clear T
        rintro e w5 ⟨m, rfl, m0, m1, T, k2⟩
        have mw : IntKind.i64.wrap (1 + m) = 1 + m := IntWalk.i64_in _ (by omega)
        replace own4 := own4.nxb hbw k2
        replace kk := kk.nxb k2
        clear k2
        refine hK.out _ _ (trivial) (fun hHeld => ?_)
        clear hK K
        try simp only [Act.put, List.setIfInBounds_toArray, List.set_cons_zero, List.set_cons_succ]
        refine wpAnyH_take (i := 3) (oi := ⟨some 79, .binOp .add 3 (.const (.int .i64 1)) (.tmp 78) 3, 3, "tape.go:165", #[⟨2, .data⟩], none⟩) (v := ?_) rfl (by kernel_rfl) (by kernel_rfl) (by kernel_rfl) (fun _ _ _ h => h) (Or.inl ⟨by rfl, ?hyr1x3q29⟩) (by assumption) ?restr1x3q29
        case hyr1x3q29 => intro wq hSw; (go_simp); (try with_reducible rfl)
        try simp only [Act.put, List.setIfInBounds_toArray, List.set_cons_zero, List.set_cons_succ]
        refine wpAnyH_ready (rs := [7]) (by kernel_rfl) (by simp) ?_
        refine AllReadyH.cons (o := ⟨some 83, .load 9 (.tmp 82), 9, "tape.go:165", #[⟨6, .data⟩], none⟩) rfl (fun K hK => ?_) AllReadyH.nil
        have e1 : World.cell? _ ⟨g, j * 3 + 1, none⟩ = some (.string y.key) := (own_set1 (sz := 3) (enc := encN) (c := 1) (fun _ => rfl) own4 HY.out (by omega)).1
        go_simp
        clear e1
        refine hK.out _ _ (trivial) (fun hHeld => ?_)
        clear hK K
        try simp only [Act.put, List.setIfInBounds_toArray, List.set_cons_zero, List.set_cons_succ]
        refine wpAnyH_take (i := 8) (oi := ⟨some 84, .build 48 #[(0, .tmp 79), (1, .tmp 83)], 48, "tape.go:165", #[⟨3, .data⟩, ⟨7, .data⟩], none⟩) (v := ?_) rfl (by kernel_rfl) (by kernel_rfl) (by kernel_rfl) (fun _ _ _ h => h) (Or.inl ⟨by rfl, ?hyr1x8q40⟩) (by assumption) ?restr1x8q40
        case hyr1x8q40 => intro wq hSw; (go_simp); (try with_reducible rfl)
        try simp only [Act.put, List.setIfInBounds_toArray, List.set_cons_zero, List.set_cons_succ]
        refine wpAnyH_ready (rs := [9]) (by kernel_rfl) (by simp) ?_
        refine AllReadyH.cons (o := ⟨some 85, .buildSlice 23 1 #[(0, .tmp 84)], 23, "tape.go:165", #[⟨8, .data⟩], none⟩) rfl (fun K hK => ?_) AllReadyH.nil
        have z5 := kk.size
        have SX : Sl 3 encN (w5.alloc (.cells #[.int .i64 (1 + m), .string y.key, .int .u32 0] 48)) (some ⟨w5.heap.size, 0, none⟩) 1 [(⟨1 + m, y.key, 0⟩ : Nd)] := Sl.lit _ rfl rfl (fun _ => rfl) rfl
        go_simp
        have k6 := Ex.new w5 (.cells #[.int .i64 (1 + m), .string y.key, .int .u32 0] 48)
        replace own4 := own4.nx k6
        replace kk := kk.nxb (k6.b b)
        replace T := T.nx k6
        clear k6
        refine hK.out _ _ (trivial) (fun hHeld => ?_)
        clear hK K
        try simp only [Act.put, List.setIfInBounds_toArray, List.set_cons_zero, List.set_cons_succ]
        refine wpAnyH_ready (rs := [10]) (by kernel_rfl) (by simp) ?_
        refine AllReadyH.cons (o := ⟨some 86, .call { callee := .builtin .append, args := #[.tmp 76, .tmp 85], argTypes := #[23, 23] }, 23, "tape.go:165", #[⟨0, .data⟩, ⟨9, .data⟩, ⟨2, .chain⟩], none⟩) rfl (fun K hK => ?_) AllReadyH.nil
        rw [if_pos (by rfl)]
        have z6 := kk.size
        refine wp_append_rd (enc := encN) _ (.tmp 76) (.tmp 85) 23 rfl w.heap.size 48 (.agg #[.int .i64 0, .string ByteArray.empty, .int .u32 0]) 3 32 Tryd.underlying23 Tryd.infoN rfl (by omega) (by omega) _ l own4 rfl _ _ 1 1 [_] SX (fun h => by cases h) (fun _ => rfl) (by simp [encN, Value.oneCell']) rfl (by omega) (by omega) z6 ?_
        intro v9 w9 own9 ch0 ch1
        refine hK.out _ _ (trivial) (fun hHeld => ?_)
        clear hK K
        try simp only [Act.put, List.setIfInBounds_toArray, List.set_cons_zero, List.set_cons_succ]
        refine wpAnyH_take (i := 11) (oi := ⟨some 4, .assign (.tmp 86), 23, "tape.go:165", #[⟨10, .data⟩, ⟨10, .chain⟩, ⟨0, .phase⟩, ⟨1, .phase⟩, ⟨2, .phase⟩, ⟨3, .phase⟩, ⟨4, .phase⟩, ⟨5, .phase⟩, ⟨6, .phase⟩, ⟨7, .phase⟩, ⟨8, .phase⟩, ⟨9, .phase⟩, ⟨10, .phase⟩], none⟩) (v := ?_) rfl (by kernel_rfl) (by kernel_rfl) (by kernel_rfl) (fun _ _ _ h => h) (Or.inl ⟨by rfl, ?hyr1x11q65⟩) (by assumption) ?restr1x11q65
        case hyr1x11q65 => intro wq hSw; (go_simp); (try with_reducible rfl)
        try simp only [Act.put, List.setIfInBounds_toArray, List.set_cons_zero, List.set_cons_succ]
        refine wpAnyH_done (by kernel_rfl) ?_ _
        go_wp2_with fail
        go_ret
        exact ⟨v9, _, rfl, ⟨own9, by simp, ok_snoc OK.out ⟨⟨by show _ ≤ 1 + m; omega, by show 1 + m ≤ _; omega⟩, by show 0 < _; omega, hyok.out.2.2⟩, TP.chg T ch1 (fun x hx => by omega), Chg.trans kk (ch1.mono (fun x hx => hx.1))⟩⟩
      refine AllReadyH.cons (o := ⟨some 83, .load 9 (.tmp 82), 9, "tape.go:165", #[⟨6, .data⟩], none⟩) rfl (fun K hK => ?_) AllReadyH.nil
      · have e1 : World.cell? _ ⟨g, j * 3 + 1, none⟩ = some (.string y.key) := (own_set1 (sz := 3) (enc := encN) (c := 1) (fun _ => rfl) own4 HY.out (by omega)).1
        go_simp
        clear e1
        refine hK.out _ _ (trivial) (fun hHeld => ?_)
        clear hK K
        try simp only [Act.put, List.setIfInBounds_toArray, List.set_cons_zero, List.set_cons_succ]
        refine wpAnyH_ready (rs := [2]) (by kernel_rfl) (by simp) ?_
        refine AllReadyH.cons (o := ⟨some 78, .call { callee := .value (.func 17), args := #[.tmp 77, .const (.int .i64 50)], argTypes := #[25, 3] }, 3, "tape.go:165", #[⟨1, .data⟩], none⟩) rfl (fun K hK => ?_) AllReadyH.nil
        go_simp
        (refine (next_t 50 _ T (by omega) (by omega)).mono ?_)
        clear T
        rintro e w5 ⟨m, rfl, m0, m1, T, k2⟩
        have mw : IntKind.i64.wrap (1 + m) = 1 + m := IntWalk.i64_in _ (by omega)
        replace own4 := own4.nxb hbw k2
        replace kk := kk.nxb k2
        clear k2
        refine hK.out _ _ (trivial) (fun hHeld => ?_)
        clear hK K
        try simp only [Act.put, List.setIfInBounds_toArray, List.set_cons_zero, List.set_cons_succ]
        refine wpAnyH_take (i := 3) (oi := ⟨some 79, .binOp .add 3 (.const (.int .i64 1)) (.tmp 78) 3, 3, "tape.go:165", #[⟨2, .data⟩], none⟩) (v := ?_) rfl (by kernel_rfl) (by kernel_rfl) (by kernel_rfl) (fun _ _ _ h => h) (Or.inl ⟨by rfl, ?hyr1x3q90⟩) (by assumption) ?restr1x3q90
        case hyr1x3q90 => intro wq hSw; (go_simp); (try with_reducible rfl)
        try simp only [Act.put, List.setIfInBounds_toArray, List.set_cons_zero, List.set_cons_succ]
        refine wpAnyH_take (i := 8) (oi := ⟨some 84, .build 48 #[(0, .tmp 79), (1, .tmp 83)], 48, "tape.go:165", #[⟨3, .data⟩, ⟨7, .data⟩], none⟩) (v := ?_) rfl (by kernel_rfl) (by kernel_rfl) (by kernel_rfl) (fun _ _ _ h => h) (Or.inl ⟨by rfl, ?hyr1x8q93⟩) (by assumption) ?restr1x8q93
        case hyr1x8q93 => intro wq hSw; (go_simp); (try with_reducible rfl)
        try simp only [Act.put, List.setIfInBounds_toArray, List.set_cons_zero, List.set_cons_succ]
        refine wpAnyH_ready (rs := [9]) (by kernel_rfl) (by simp) ?_
        refine AllReadyH.cons (o := ⟨some 85, .buildSlice 23 1 #[(0, .tmp 84)], 23, "tape.go:165", #[⟨8, .data⟩], none⟩) rfl (fun K hK => ?_) AllReadyH.nil
        have z5 := kk.size
        have SX : Sl 3 encN (w5.alloc (.cells #[.int .i64 (1 + m), .string y.key, .int .u32 0] 48)) (some ⟨w5.heap.size, 0, none⟩) 1 [(⟨1 + m, y.key, 0⟩ : Nd)] := Sl.lit _ rfl rfl (fun _ => rfl) rfl
        go_simp
        have k6 := Ex.new w5 (.cells #[.int .i64 (1 + m), .string y.key, .int .u32 0] 48)
        replace own4 := own4.nx k6
        replace kk := kk.nxb (k6.b b)
        replace T := T.nx k6
        clear k6
        refine hK.out _ _ (trivial) (fun hHeld => ?_)
        clear hK K
        try simp only [Act.put, List.setIfInBounds_toArray, List.set_cons_zero, List.set_cons_succ]
        refine wpAnyH_ready (rs := [10]) (by kernel_rfl) (by simp) ?_
        refine AllReadyH.cons (o := ⟨some 86, .call { callee := .builtin .append, args := #[.tmp 76, .tmp 85], argTypes := #[23, 23] }, 23, "tape.go:165", #[⟨0, .data⟩, ⟨9, .data⟩, ⟨2, .chain⟩], none⟩) rfl (fun K hK => ?_) AllReadyH.nil
        rw [if_pos (by rfl)]
        have z6 := kk.size
        refine wp_append_rd (enc := encN) _ (.tmp 76) (.tmp 85) 23 rfl w.heap.size 48 (.agg #[.int .i64 0, .string ByteArray.empty, .int .u32 0]) 3 32 Tryd.underlying23 Tryd.infoN rfl (by omega) (by omega) _ l own4 rfl _ _ 1 1 [_] SX (fun h => by cases h) (fun _ => rfl) (by simp [encN, Value.oneCell']) rfl (by omega) (by omega) z6 ?_
        intro v9 w9 own9 ch0 ch1
        refine hK.out _ _ (trivial) (fun hHeld => ?_)
        clear hK K
        try simp only [Act.put, List.setIfInBounds_toArray, List.set_cons_zero, List.set_cons_succ]
        refine wpAnyH_take (i := 11) (oi := ⟨some 4, .assign (.tmp 86), 23, "tape.go:165", #[⟨10, .data⟩, ⟨10, .chain⟩, ⟨0, .phase⟩, ⟨1, .phase⟩, ⟨2, .phase⟩, ⟨3, .phase⟩, ⟨4, .phase⟩, ⟨5, .phase⟩, ⟨6, .phase⟩, ⟨7, .phase⟩, ⟨8, .phase⟩, ⟨9, .phase⟩, ⟨10, .phase⟩], none⟩) (v := ?_) rfl (by kernel_rfl) (by kernel_rfl) (by kernel_rfl) (fun _ _ _ h => h) (Or.inl ⟨by rfl, ?hyr1x11q118⟩) (by assumption) ?restr1x11q118
        case hyr1x11q118 => intro wq hSw; (go_simp); (try with_reducible rfl)
        try simp only [Act.put, List.setIfInBounds_toArray, List.set_cons_zero, List.set_cons_succ]
        refine wpAnyH_done (by kernel_rfl) ?_ _
        go_wp2_with fail
        go_ret
        exact ⟨v9, _, rfl, ⟨own9, by simp, ok_snoc OK.out ⟨⟨by show _ ≤ 1 + m; omega, by show 1 + m ≤ _; omega⟩, by show 0 < _; omega, hyok.out.2.2⟩, TP.chg T ch1 (fun x hx => by omega), Chg.trans kk (ch1.mono (fun x hx => hx.1))⟩⟩
    · go_wp2_with fail
      have own4 : OwnL 3 encN 48 w.heap.size w3.drew (.slice (some ⟨g, 0, none⟩) l.length c1) l := own3.nxb hbw (Exb.refl b w3).drew
      have T : TK w3.drew b := T
      have kk := kk.drew
      have hL := hL.nxb hgb (Exb.refl b w3).drew
      clear own3
      refine wp_region_held_drew (S := fun _ => True) (by kernel_rfl) (trivial) (fun hHeld => ?_)
      refine wpAnyH_take (i := 0) (oi := ⟨some 32, .move (.tmp 1), 23, "tape.go:167", #[], none⟩) (v := ?_) rfl (by kernel_rfl) (by kernel_rfl) (by kernel_rfl) (fun _ _ _ h => h) (Or.inl ⟨by rfl, ?hyr2x0q1⟩) (by assumption) ?restr2x0q1
      case hyr2x0q1 => intro wq hSw; (go_simp); (try with_reducible rfl)
      try simp only [Act.put, List.setIfInBounds_toArray, List.set_cons_zero, List.set_cons_succ]
      refine wpAnyH_take (i := 1) (oi := ⟨some 33, .move (.tmp 5), 92, "tape.go:167", #[], none⟩) (v := ?_) rfl (by kernel_rfl) (by kernel_rfl) (by kernel_rfl) (fun _ _ _ h => h) (Or.inl ⟨by rfl, ?hyr2x1q4⟩) (by assumption) ?restr2x1q4
      case hyr2x1q4 => intro wq hSw; (go_simp); (try with_reducible rfl)
      try simp only [Act.put, List.setIfInBounds_toArray, List.set_cons_zero, List.set_cons_succ]
      refine wpAnyH_take (i := 2) (oi := ⟨some 34, .nilCheck (.tmp 33), 0, "tape.go:167", #[⟨1, .data⟩], none⟩) (v := ?_) rfl (by kernel_rfl) (by kernel_rfl) (by kernel_rfl) (fun _ _ _ h => h) (Or.inl ⟨by rfl, ?hyr2x2q7⟩) (by assumption) ?restr2x2q7
      case hyr2x2q7 => intro wq hSw; (go_simp); (try with_reducible rfl)
      try simp only [Act.put, List.setIfInBounds_toArray, List.set_cons_zero, List.set_cons_succ]
      refine wpAnyH_take (i := 3) (oi := ⟨some 35, .fieldAddr 48 (.tmp 34) 0, 0, "tape.go:167", #[⟨2, .data⟩], none⟩) (v := ?_) rfl (by kernel_rfl) (by kernel_rfl) (by kernel_rfl) (fun _ _ _ h => h) (Or.inl ⟨by rfl, ?hyr2x3q10⟩) (by assumption) ?restr2x3q10
      case hyr2x3q10 => intro wq hSw; (go_simp); (try with_reducible rfl)
      try simp only [Act.put, List.setIfInBounds_toArray, List.set_cons_zero, List.set_cons_succ]
      refine wpAnyH_take (i := 5) (oi := ⟨some 37, .move (.tmp 0), 25, "tape.go:167", #[], none⟩) (v := ?_) rfl (by kernel_rfl) (by kernel_rfl) (by kernel_rfl) (fun _ _ _ h => h) (Or.inl ⟨by rfl, ?hyr2x5q13⟩) (by assumption) ?restr2x5q13
      case hyr2x5q13 => intro wq hSw; (go_simp); (try with_reducible rfl)
      try simp only [Act.put, List.setIfInBounds_toArray, List.set_cons_zero, List.set_cons_succ]
      refine wpAnyH_ready (rs := [4, 6]) (by kernel_rfl) (by simp) ?_
      refine AllReadyH.cons (o := ⟨some 36, .load 3 (.tmp 35), 3, "tape.go:167", #[⟨3, .data⟩], none⟩) rfl (fun K hK => ?_) ?_
      · have e1 : World.cell? _ ⟨g, j * 3, none⟩ = some (.int .i64 y.id) := (own_set1 (sz := 3) (enc := encN) (c := 0) (fun _ => rfl) own4 HY.out (by omega)).1
        go_simp
        clear e1
        refine hK.out _ _ (trivial) (fun hHeld => ?_)
        clear hK K
        try simp only [Act.put, List.setIfInBounds_toArray, List.set_cons_zero, List.set_cons_succ]
        refine wpAnyH_ready (rs := [6]) (by kernel_rfl) (by simp) ?_
        refine AllReadyH.cons (o := ⟨some 38, .call { callee := .value (.func 34), args := #[.tmp 37], argTypes := #[25] }, 9, "tape.go:167", #[⟨5, .data⟩], none⟩) rfl (fun K hK => ?_) AllReadyH.nil
        go_simp
        (refine (key_t _ T hL hgb).mono ?_)
        clear T hL
        rintro e w5 ⟨s, rfl, hsz, T, k2⟩
        replace own4 := own4.nxb hbw k2
        replace kk := kk.nxb k2
        clear k2
        refine hK.out _ _ (trivial) (fun hHeld => ?_)
        clear hK K
        try simp only [Act.put, List.setIfInBounds_toArray, List.set_cons_zero, List.set_cons_succ]
        refine wpAnyH_take (i := 7) (oi := ⟨some 39, .build 48 #[(0, .tmp 36), (1, .tmp 38)], 48, "tape.go:167", #[⟨4, .data⟩, ⟨6, .data⟩], none⟩) (v := ?_) rfl (by kernel_rfl) (by kernel_rfl) (by kernel_rfl) (fun _ _ _ h => h) (Or.inl ⟨by rfl, ?hyr2x7q36⟩) (by assumption) ?restr2x7q36
        case hyr2x7q36 => intro wq hSw; (go_simp); (try with_reducible rfl)
        try simp only [Act.put, List.setIfInBounds_toArray, List.set_cons_zero, List.set_cons_succ]
        refine wpAnyH_ready (rs := [8]) (by kernel_rfl) (by simp) ?_
        refine AllReadyH.cons (o := ⟨some 40, .buildSlice 23 1 #[(0, .tmp 39)], 23, "tape.go:167", #[⟨7, .data⟩], none⟩) rfl (fun K hK => ?_) AllReadyH.nil
        have z5 := kk.size
        have SX : Sl 3 encN (w5.alloc (.cells #[.int .i64 y.id, .string s, .int .u32 0] 48)) (some ⟨w5.heap.size, 0, none⟩) 1 [(⟨y.id, s, 0⟩ : Nd)] := Sl.lit _ rfl rfl (fun _ => rfl) rfl
        go_simp
        have k6 := Ex.new w5 (.cells #[.int .i64 y.id, .string s, .int .u32 0] 48)
        replace own4 := own4.nx k6
        replace kk := kk.nxb (k6.b b)
        replace T := T.nx k6
        clear k6
        refine hK.out _ _ (trivial) (fun hHeld => ?_)
        clear hK K
        try simp only [Act.put, List.setIfInBounds_toArray, List.set_cons_zero, List.set_cons_succ]
        refine wpAnyH_ready (rs := [9]) (by kernel_rfl) (by simp) ?_
        refine AllReadyH.cons (o := ⟨some 41, .call { callee := .builtin .append, args := #[.tmp 32, .tmp 40], argTypes := #[23, 23] }, 23, "tape.go:167", #[⟨0, .data⟩, ⟨8, .data⟩, ⟨6, .chain⟩], none⟩) rfl (fun K hK => ?_) AllReadyH.nil
        rw [if_pos (by rfl)]
        have z6 := kk.size
        refine wp_append_rd (enc := encN) _ (.tmp 32) (.tmp 40) 23 rfl w.heap.size 48 (.agg #[.int .i64 0, .string ByteArray.empty, .int .u32 0]) 3 32 Tryd.underlying23 Tryd.infoN rfl (by omega) (by omega) _ l own4 rfl _ _ 1 1 [_] SX (fun h => by cases h) (fun _ => rfl) (by simp [encN, Value.oneCell']) rfl (by omega) (by omega) z6 ?_
        intro v9 w9 own9 ch0 ch1
        refine hK.out _ _ (trivial) (fun hHeld => ?_)
        clear hK K
        try simp only [Act.put, List.setIfInBounds_toArray, List.set_cons_zero, List.set_cons_succ]
        refine wpAnyH_take (i := 10) (oi := ⟨some 4, .assign (.tmp 41), 23, "tape.go:167", #[⟨9, .data⟩, ⟨9, .chain⟩, ⟨0, .phase⟩, ⟨1, .phase⟩, ⟨2, .phase⟩, ⟨3, .phase⟩, ⟨4, .phase⟩, ⟨5, .phase⟩, ⟨6, .phase⟩, ⟨7, .phase⟩, ⟨8, .phase⟩, ⟨9, .phase⟩], none⟩) (v := ?_) rfl (by kernel_rfl) (by kernel_rfl) (by kernel_rfl) (fun _ _ _ h => h) (Or.inl ⟨by rfl, ?hyr2x10q61⟩) (by assumption) ?restr2x10q61
        case hyr2x10q61 => intro wq hSw; (go_simp); (try with_reducible rfl)
        try simp only [Act.put, List.setIfInBounds_toArray, List.set_cons_zero, List.set_cons_succ]
        refine wpAnyH_done (by kernel_rfl) ?_ _
        go_wp2_with fail
        go_ret
        exact ⟨v9, _, rfl, ⟨own9, by simp, ok_snoc OK.out ⟨hyok.out.1, by show 0 < _; omega, by show s.size ≤ _; omega⟩, TP.chg T ch1 (fun x hx => by omega), Chg.trans kk (ch1.mono (fun x hx => hx.1))⟩⟩
      refine AllReadyH.cons (o := ⟨some 38, .call { callee := .value (.func 34), args := #[.tmp 37], argTypes := #[25] }, 9, "tape.go:167", #[⟨5, .data⟩], none⟩) rfl (fun K hK => ?_) AllReadyH.nil
      · go_simp
        (refine (key_t _ T hL hgb).mono ?_)
        clear T hL
        rintro e w5 ⟨s, rfl, hsz, T, k2⟩
        replace own4 := own4.nxb hbw k2
        replace kk := kk.nxb k2
        clear k2
        refine hK.out _ _ (trivial) (fun hHeld => ?_)
        clear hK K
        try simp only [Act.put, List.setIfInBounds_toArray, List.set_cons_zero, List.set_cons_succ]
        refine wpAnyH_ready (rs := [4]) (by kernel_rfl) (by simp) ?_
        refine AllReadyH.cons (o := ⟨some 36, .load 3 (.tmp 35), 3, "tape.go:167", #[⟨3, .data⟩], none⟩) rfl (fun K hK => ?_) AllReadyH.nil
        have e1 : World.cell? _ ⟨g, j * 3, none⟩ = some (.int .i64 y.id) := (own_set1 (sz := 3) (enc := encN) (c := 0) (fun _ => rfl) own4 HY.out (by omega)).1
        go_simp
        clear e1
        refine hK.out _ _ (trivial) (fun hHeld => ?_)
        clear hK K
        try simp only [Act.put, List.setIfInBounds_toArray, List.set_cons_zero, List.set_cons_succ]
        refine wpAnyH_take (i := 7) (oi := ⟨some 39, .build 48 #[(0, .tmp 36), (1, .tmp 38)], 48, "tape.go:167", #[⟨4, .data⟩, ⟨6, .data⟩], none⟩) (v := ?_) rfl (by kernel_rfl) (by kernel_rfl) (by kernel_rfl) (fun _ _ _ h => h) (Or.inl ⟨by rfl, ?hyr2x7q85⟩) (by assumption) ?restr2x7q85
        case hyr2x7q85 => intro wq hSw; (go_simp); (try with_reducible rfl)
        try simp only [Act.put, List.setIfInBounds_toArray, List.set_cons_zero, List.set_cons_succ]
        refine wpAnyH_ready (rs := [8]) (by kernel_rfl) (by simp) ?_
        refine AllReadyH.cons (o := ⟨some 40, .buildSlice 23 1 #[(0, .tmp 39)], 23, "tape.go:167", #[⟨7, .data⟩], none⟩) rfl (fun K hK => ?_) AllReadyH.nil
        have z5 := kk.size
        have SX : Sl 3 encN (w5.alloc (.cells #[.int .i64 y.id, .string s, .int .u32 0] 48)) (some ⟨w5.heap.size, 0, none⟩) 1 [(⟨y.id, s, 0⟩ : Nd)] := Sl.lit _ rfl rfl (fun _ => rfl) rfl
        go_simp
        have k6 := Ex.new w5 (.cells #[.int .i64 y.id, .string s, .int .u32 0] 48)
        replace own4 := own4.nx k6
        replace kk := kk.nxb (k6.b b)
        replace T := T.nx k6
        clear k6
        refine hK.out _ _ (trivial) (fun hHeld => ?_)
        clear hK K
        try simp only [Act.put, List.setIfInBounds_toArray, List.set_cons_zero, List.set_cons_succ]
        refine wpAnyH_ready (rs := [9]) (by kernel_rfl) (by simp) ?_
        refine AllReadyH.cons (o := ⟨some 41, .call { callee := .builtin .append, args := #[.tmp 32, .tmp 40], argTypes := #[23, 23] }, 23, "tape.go:167", #[⟨0, .data⟩, ⟨8, .data⟩, ⟨6, .chain⟩], none⟩) rfl (fun K hK => ?_) AllReadyH.nil
        rw [if_pos (by rfl)]
        have z6 := kk.size
        refine wp_append_rd (enc := encN) _ (.tmp 32) (.tmp 40) 23 rfl w.heap.size 48 (.agg #[.int .i64 0, .string ByteArray.empty, .int .u32 0]) 3 32 Tryd.underlying23 Tryd.infoN rfl (by omega) (by omega) _ l own4 rfl _ _ 1 1 [_] SX (fun h => by cases h) (fun _ => rfl) (by simp [encN, Value.oneCell']) rfl (by omega) (by omega) z6 ?_
        intro v9 w9 own9 ch0 ch1
        refine hK.out _ _ (trivial) (fun hHeld => ?_)
        clear hK K
        try simp only [Act.put, List.setIfInBounds_toArray, List.set_cons_zero, List.set_cons_succ]
        refine wpAnyH_take (i := 10) (oi := ⟨some 4, .assign (.tmp 41), 23, "tape.go:167", #[⟨9, .data⟩, ⟨9, .chain⟩, ⟨0, .phase⟩, ⟨1, .phase⟩, ⟨2, .phase⟩, ⟨3, .phase⟩, ⟨4, .phase⟩, ⟨5, .phase⟩, ⟨6, .phase⟩, ⟨7, .phase⟩, ⟨8, .phase⟩, ⟨9, .phase⟩], none⟩) (v := ?_) rfl (by kernel_rfl) (by kernel_rfl) (by kernel_rfl) (fun _ _ _ h => h) (Or.inl ⟨by rfl, ?hyr2x10q110⟩) (by assumption) ?restr2x10q110
        case hyr2x10q110 => intro wq hSw; (go_simp); (try with_reducible rfl)
        try simp only [Act.put, List.setIfInBounds_toArray, List.set_cons_zero, List.set_cons_succ]
        refine wpAnyH_done (by kernel_rfl) ?_ _
        go_wp2_with fail
        go_ret
        exact ⟨v9, _, rfl, ⟨own9, by simp, ok_snoc OK.out ⟨hyok.out.1, by show 0 < _; omega, by show s.size ≤ _; omega⟩, TP.chg T ch1 (fun x hx => by omega), Chg.trans kk (ch1.mono (fun x hx => hx.1))⟩⟩
end Go.Proofs.YtkjlhcfocefhpaaDoor
