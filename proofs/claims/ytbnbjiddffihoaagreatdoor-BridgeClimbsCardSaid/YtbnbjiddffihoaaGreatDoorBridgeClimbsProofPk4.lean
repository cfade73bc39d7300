/- Texts for the statement BridgeClimbsProof, part 4 of 12: NbP, NbI, Bd, Ils, BldP, MapI, Tape, TapeK, Key, TWord, Rost, TapeBool, TId, Odd, BldM. -/
import Derived.Test.YtbnbjiddffihoaaGreatDoorRows
import Derived.WalkArith
import Derived.Maps.OwnOps
import Derived.Maps.Views
import Derived.Deep.RegionHeld3
import Derived.Test.YtbnbjiddffihoaaGreatDoorBridgeClimbsProofPk1
import Derived.Test.YtbnbjiddffihoaaGreatDoorBridgeClimbsProofPk3

/- The neighbours of a node in a sorted list, in plain Lean. -/
namespace Go.Proofs.YtbnbjiddffihoaaGreatDoor
open Go.RowKit

/-- strictly ascending by key, with different numbers -/
def AscS (l : List Nd) : Prop := l.Pairwise fun x y => Op.bytesLess x.key.toList y.key.toList = true ∧ x.id ≠ y.id
theorem keys_pw {l : List Nd} (h : KeysN l) : l.Pairwise fun x y => x.key.toList ≠ y.key.toList ∧ x.id ≠ y.id := by
  rw [List.pairwise_iff_getElem]
  intro i j hi hj hij
  have := h j i l[j] l[i] hij (List.getElem?_eq_getElem hj) (List.getElem?_eq_getElem hi)
  refine ⟨fun he => this.1 ?_, fun he => this.2 he.symm⟩
  rw [ByteArray.toList_eq, ByteArray.toList_eq] at he
  exact (ByteArray.ext (Array.toList_inj.1 he)).symm
theorem sortN_str {l : List Nd} (h : checkN l = 0) : AscS (sortN l) := by
  have h1 : (sortN l).Pairwise fun x y => x.key.toList ≠ y.key.toList ∧ x.id ≠ y.id :=
    ((sortN_perm l).symm.pairwise_iff (fun {x y} hxy => ⟨fun he => hxy.1 he.symm, fun he => hxy.2 he.symm⟩)).1 (keys_pw (check_keys h))
  have h2 := sortN_asc l
  unfold AscN at h2
  unfold AscS
  refine (h1.and h2).imp ?_
  rintro x y ⟨⟨a, b⟩, c⟩
  rw [ltN_no] at c
  rcases c with c | ⟨c, _⟩
  · exact ⟨c, b⟩
  · exact absurd c.symm a
theorem asc_group {l : List Nd} (h : AscS l) (lev : Int) (v : Nat) : AscS (groupN l lev v) := List.Pairwise.filter _ h
theorem asc_at {G : List Nd} (h : AscS G) {i j : Nat} {x y : Nd} (hx : G[i]? = some x) (hy : G[j]? = some y) (hij : i < j) : Op.bytesLess x.key.toList y.key.toList = true ∧ x.id ≠ y.id := by
  obtain ⟨hi, e1⟩ := List.getElem?_eq_some_iff.1 hx
  obtain ⟨hj, e2⟩ := List.getElem?_eq_some_iff.1 hy
  have := List.pairwise_iff_getElem.1 h i j hi hj hij
  rwa [e1, e2] at this
theorem idxI_at {G : List Nd} (h : AscS G) {i : Nat} {x : Nd} (hx : G[i]? = some x) : idxI G x.id = i := by
  refine idxI_of hx rfl fun j z hj hz => ?_
  exact (asc_at h hz hx hj).2
theorem step_less {x y : Nd} {s : Int × Int} (h : Op.bytesLess y.key.toList x.key.toList = true) : nbStep x s y = (y.id, s.2) := by unfold nbStep; rw [h]; rfl
theorem step_same (x : Nd) (s : Int × Int) : nbStep x s x = s := by unfold nbStep; simp [bytesLess_irrefl]
theorem step_more {x y : Nd} {s : Int × Int} (h : Op.bytesLess x.key.toList y.key.toList = true) : nbStep x s y = (s.1, if s.2 = 0 then y.id else s.2) := by
  have h1 := bl_asymm h
  have h2 : (y.key.toList == x.key.toList) = false := by
    rw [beq_eq_false_iff_ne]
    intro he
    rw [he, bytesLess_irrefl] at h
    cases h
  unfold nbStep
  rw [h1, h2]
  simp
theorem nbFold_a {G : List Nd} (h : AscS G) {i : Nat} {x : Nd} (hx : G[i]? = some x) : ∀ k, k ≤ i → nbFold x (G.take k) = (leftN G k, 0) := by
  intro k
  induction k with
  | zero => intro _; rfl
  | succ k ih =>
    intro hk
    have hl := (List.getElem?_eq_some_iff.1 hx).1
    obtain ⟨y, hy⟩ : ∃ y, G[k]? = some y := ⟨G[k], List.getElem?_eq_getElem (by omega)⟩
    rw [nbFold_snoc x G k y hy, ih (by omega), step_less (asc_at h hy hx (by omega)).1]
    show ((y.id, 0) : Int × Int) = (leftN G (k + 1), 0)
    unfold leftN
    rw [if_neg (by omega), Nat.add_sub_cancel, hy]
    rfl
theorem nbFold_b {G : List Nd} (h : AscS G) {i : Nat} {x : Nd} (hx : G[i]? = some x) : nbFold x (G.take (i + 1)) = (leftN G i, 0) := by
  rw [nbFold_snoc x G i x hx, nbFold_a h hx i (Nat.le_refl _), step_same]
theorem nbFold_c {G : List Nd} (h : AscS G) (hid : ∀ y ∈ G, 1 ≤ y.id) {i : Nat} {x : Nd} (hx : G[i]? = some x) : ∀ d, i + 2 + d ≤ G.length → nbFold x (G.take (i + 2 + d)) = (leftN G i, rightN G i) := by
  intro d hd
  have hd0 : i + 1 < G.length := by omega
  obtain ⟨z, hz⟩ : ∃ z, G[i + 1]? = some z := ⟨G[i + 1], List.getElem?_eq_getElem hd0⟩
  have hz1 := hid z (List.mem_of_getElem? hz)
  have hr : rightN G i = z.id := by unfold rightN; rw [hz]; rfl
  induction d with
  | zero =>
    rw [Nat.add_zero, show i + 2 = i + 1 + 1 from rfl, nbFold_snoc x G (i + 1) z hz, nbFold_b h hx, step_more (asc_at h hx hz (by omega)).1, hr]
    rfl
  | succ d ih =>
    obtain ⟨y, hy⟩ : ∃ y, G[i + 2 + d]? = some y := ⟨G[i + 2 + d]'(by omega), List.getElem?_eq_getElem (by omega)⟩
    rw [← Nat.add_assoc, nbFold_snoc x G (i + 2 + d) y hy, ih (by omega), step_more (asc_at h hx hy (by omega)).1]
    show (leftN G i, if rightN G i = 0 then y.id else rightN G i) = _
    rw [if_neg (by rw [hr]; omega)]
theorem nbFold_all {G : List Nd} (h : AscS G) (hid : ∀ y ∈ G, 1 ≤ y.id) {i : Nat} {x : Nd} (hx : G[i]? = some x) : nbFold x G = (leftN G i, rightN G i) := by
  have hl := (List.getElem?_eq_some_iff.1 hx).1
  rcases Nat.lt_or_ge (i + 1) G.length with h1 | h1
  · have := nbFold_c h hid hx (G.length - (i + 2)) (by omega)
    rwa [show i + 2 + (G.length - (i + 2)) = G.length by omega, List.take_length] at this
  · have := nbFold_b h hx
    rw [show i + 1 = G.length by omega, List.take_length] at this
    rw [this]
    have : rightN G i = 0 := by unfold rightN; rw [List.getElem?_eq_none h1]; rfl
    rw [this]
/-- the neighbours by the definition of the reference -/
theorem neighN_no {l : List Nd} {id h : Int} (hno : checkN l ≠ 0 ∨ (findN l id).2 = false ∨ lvlN h = false) : neighN l id h = ((0, 0), false) := by
  have ht : throughN l id h = ([], 0, false) := by
    unfold throughN
    rw [if_neg]
    rintro ⟨h1, h2, h3, _⟩
    rcases hno with h | h | h
    · exact h (by simpa using h2)
    · rw [h1] at h; cases h
    · rw [h3] at h; cases h
  unfold neighN
  rw [ht]
  rfl
theorem findN_mem {l : List Nd} {id : Int} (h : (findN l id).2 = true) : (findN l id).1 ∈ l ∧ (findN l id).1.id = id := by
  unfold findN at *
  cases e : l.find? (fun x => x.id == id) with
  | none => rw [e] at h; cases h
  | some x =>
    exact ⟨List.mem_of_find?_eq_some e, by simpa using List.find?_some e⟩
theorem neighN_yes {l : List Nd} {id h : Int} (h1 : checkN l = 0) (h2 : (findN l id).2 = true) (h3 : lvlN h = true) :
    ∃ i, (thrG l id h)[i]? = some (findN l id).1 ∧ throughN l id h = (thrG l id h, i, true) ∧ neighN l id h = ((leftN (thrG l id h) i, rightN (thrG l id h) i), true) := by
  obtain ⟨m1, m2⟩ := findN_mem h2
  have hA : AscS (thrG l id h) := asc_group (sortN_str h1) h _
  have hm : (findN l id).1 ∈ thrG l id h := by
    unfold thrG groupN
    rw [List.mem_filter]
    exact ⟨(sortN_mem l _).2 m1, sameN_refl _ (by unfold lvlN at h3; simp at h3; exact h3.2)⟩
  obtain ⟨i, hi⟩ := List.mem_iff_getElem?.1 hm
  have hid := idxI_at hA hi
  rw [m2] at hid
  have hlt := (List.getElem?_eq_some_iff.1 hi).1
  have ht : throughN l id h = (thrG l id h, i, true) := by
    unfold throughN
    rw [if_pos ⟨h2, by rw [h1]; rfl, h3, by rw [hid]; exact hlt⟩, hid]
  refine ⟨i, hi, ht, ?_⟩
  unfold neighN
  rw [ht]
  rfl
theorem nbFold_neigh {l : List Nd} {id h : Int} (h1 : checkN l = 0) (h2 : (findN l id).2 = true) (h3 : lvlN h = true) : neighN l id h = (nbFold (findN l id).1 (thrG l id h), true) := by
  obtain ⟨i, hi, _, hn⟩ := neighN_yes h1 h2 h3
  have hA : AscS (thrG l id h) := asc_group (sortN_str h1) h _
  have hid : ∀ y ∈ thrG l id h, 1 ≤ y.id := fun y hy => by
    unfold thrG groupN at hy
    have := (sortN_mem l y).1 (List.mem_filter.1 hy).1
    unfold checkN at h1
    split at h1
    · omega
    · split at h1
      · omega
      · rename_i hb
        have hb : badN y = false := by
          cases hy2 : badN y with
          | false => rfl
          | true => exact absurd (List.any_eq_true.2 ⟨y, this, hy2⟩) hb
        unfold badN at hb
        simp only [Bool.or_eq_false_iff, decide_eq_false_iff_not] at hb
        omega
  rw [hn, nbFold_all hA hid hi]
end Go.Proofs.YtbnbjiddffihoaaGreatDoor

/- Neighbours of the package ideal. -/
namespace Go.Proofs.YtbnbjiddffihoaaGreatDoor
open Go.RowKit

def NiRel (x : Nd) (G : List Nd) (g12 : Nat) (w : World) (i : Value) (wr : World) : Prop :=
  ∃ k : Nat, k ≤ G.length ∧ i = .int .i64 k ∧ Exb g12 w wr ∧ Blk wr g12 [.int .i64 (nbFold x (G.take k)).1, .int .i64 (nbFold x (G.take k)).2] 65
theorem ng_no {l : List Nd} {id h : Int} {w w' : World} (hno : neighN l id h = ((0, 0), false)) (k : Ex w w') : NgPost (neighN l id h) w (.returned (.tuple #[.agg #[.int .i64 0, .int .i64 0], .bool false])) w' := by
  rw [hno]; exact ⟨rfl, k⟩
theorem OwnL.sl3 {sz e base : Nat} {α : Type} {enc : α → List Value} {w : World} {v : Value} {l : List α} (h : OwnL sz enc e base w v l) (hsz : ∀ y, (enc y).length = sz) : ∃ a cap, v = .slice a l.length cap ∧ Sl sz enc w a l.length l ∧ l.length ≤ cap ∧ cap ≤ maxLen := by
  obtain ⟨a, cap, e, h1, h2, h3, _⟩ := h.rd hsz
  exact ⟨a, cap, e, h1.mono (fun _ hk => hk.2), h2, h3⟩

set_option maxRecDepth 100000 in
set_option maxHeartbeats 2000000 in
theorem neigh_p (a : Option Addr) (n c : Nat) (l : List Nd) (id h : Int) (w : World) (hs : Sl 3 encN w a n l) (hn : n ≤ 1000) (hc : n ≤ c) (hm : c ≤ maxLen) (hw : ∀ x ∈ l, x.word < 4294967296) (hT : TabG w) :
    Calls Tryz.prog 80 #[.slice a n c, .int .i64 id, .int .i64 h] w (NgPost (neighN l id h) w) := by
  have HW := Lib.hid hw
  have HXW := findN_word hw id
  have HL := Lib.hid hs.len
  have k1 := Ex.new w (.cells #[.int .i64 0, .int .i64 0] 65)
  have B1 := Blk.new w [.int .i64 0, .int .i64 0] 65
  obtain ⟨w1, hw1⟩ : ∃ w1, w1 = w.alloc (.cells #[.int .i64 0, .int .i64 0] 65) := ⟨_, rfl⟩
  obtain ⟨g, hg⟩ : ∃ g, g = w.heap.size := ⟨_, rfl⟩
  have B1 : Blk w1 g [.int .i64 0, .int .i64 0] 65 := by rw [hw1, hg]; exact B1
  rw [← hw1] at k1
  have hgn : w.heap.size ≤ g := by omega
  have HW1 := Lib.hid hw1
  have HG := Lib.hid hg
  have S1 := hs.nx k1
  have HT := Lib.hid (hT.nx k1)
  clear hs hw1 hg hw hT
  go_enter Tryz.func80, Tryz.ntmps80
  go_upto_region 1 with fail
  rw [← HG.out, ← HW1.out]
  go_wp2_with fail
  (with_reducible refine (ordered_p _ _ _ _ _ S1 hn hc hm).mono ?_)
  rintro e w2 ⟨v, S, rfl, OS, ⟨hp, hsrt⟩, k2⟩
  have SL := Lib.hid hp.length_eq
  have HSR := Lib.hid hsrt
  have SW : Hid (∀ x ∈ S, x.word < 4294967296) := Lib.hid (fun x hx => HW.out x (hp.mem_iff.1 hx))
  replace S1 := S1.nx k2
  replace B1 := B1.nx k2
  replace HT := Lib.hid (HT.out.nx k2)
  replace k1 := k1.nx k2
  have OS := Lib.hid OS
  clear hp hsrt k2
  go_wp2_with fail
  (with_reducible refine (find_p _ _ _ _ _ _ S1 (by omega)).mono ?_)
  rintro e w3 ⟨rfl, k3⟩
  obtain ⟨F, hF⟩ : ∃ F, F = findN l id := ⟨_, rfl⟩
  have HF := Lib.hid hF
  rw [← hF] at HXW ⊢
  obtain ⟨⟨xi, xk, xw⟩, ok⟩ := F
  have k4 := Ex.new w3 (.cells #[.int .i64 xi, .string xk, .int .u32 xw] 57)
  have B2 := Blk.new w3 [.int .i64 xi, .string xk, .int .u32 xw] 57
  obtain ⟨w4, hw4⟩ : ∃ w4, w4 = w3.alloc (.cells #[.int .i64 xi, .string xk, .int .u32 xw] 57) := ⟨_, rfl⟩
  obtain ⟨g2, hg2⟩ : ∃ g2, g2 = w3.heap.size := ⟨_, rfl⟩
  have B2 : Blk w4 g2 [.int .i64 xi, .string xk, .int .u32 xw] 57 := by rw [hw4, hg2]; exact B2
  rw [← hw4] at k4
  have HW4 := Lib.hid hw4
  have HG2 := Lib.hid hg2
  replace k3 := k3.nx k4
  replace OS := Lib.hid (OS.out.nx k3)
  replace B1 := B1.nx k3
  replace HT := Lib.hid (HT.out.nx k3)
  replace k1 := k1.nx k3
  clear hF hw4 hg2 k4 k3 S1
  simp only [Nd.val]
  go_upto_region 3 with fail
  rw [← HG2.out, ← HW4.out]
  by_cases hck : checkN l = 0
  case neg =>
    have HNO : Hid (neighN l id h = ((0, 0), false)) := Lib.hid (neighN_no (.inl hck))
    have d1 : (checkN l == 0) = false := by simpa using hck
    rw [d1]
    have q0 := B1.cell 0 _ rfl
    have q1 := B1.cell 1 _ rfl
    have z0 := B1.free 0
    have z1 := B1.free 1
    clear hck d1 B2
    go_wp2_with fail
    refine bodyPost_ret (v := .tuple #[.agg #[.int .i64 0, .int .i64 0], .bool false]) (by simp [results, Tryz.results80, go_sem, *]) rfl (ng_no HNO.out ?_)
    exact (k1.setNew (p := ⟨g, 0, none⟩) _ hgn).setNew (p := ⟨g, 1, none⟩) _ hgn
  have HCK := Lib.hid hck
  have d1 : (checkN l == 0) = true := by simpa using hck
  rw [d1]
  clear hck d1
  cases ok with
  | false =>
    have HNO : Hid (neighN l id h = ((0, 0), false)) := Lib.hid (neighN_no (.inr (.inl (by rw [← HF.out]))))
    have q0 := B1.cell 0 _ rfl
    have q1 := B1.cell 1 _ rfl
    have z0 := B1.free 0
    have z1 := B1.free 1
    clear B2
    go_wp2_with fail
    refine bodyPost_ret (v := .tuple #[.agg #[.int .i64 0, .int .i64 0], .bool false]) (by simp [results, Tryz.results80, go_sem, *]) rfl (ng_no HNO.out ?_)
    exact (k1.setNew (p := ⟨g, 0, none⟩) _ hgn).setNew (p := ⟨g, 1, none⟩) _ hgn
  | true =>
    by_cases hlo : h < 0
    · have HNO : Hid (neighN l id h = ((0, 0), false)) := Lib.hid (neighN_no (.inr (.inr (by unfold lvlN; simp; omega))))
      have q0 := B1.cell 0 _ rfl
      have q1 := B1.cell 1 _ rfl
      have z0 := B1.free 0
      have z1 := B1.free 1
      clear B2
      go_wp2_with fail
      refine bodyPost_ret (v := .tuple #[.agg #[.int .i64 0, .int .i64 0], .bool false]) (by simp [results, Tryz.results80, go_sem, *]) rfl (ng_no HNO.out ?_)
      exact (k1.setNew (p := ⟨g, 0, none⟩) _ hgn).setNew (p := ⟨g, 1, none⟩) _ hgn
    · by_cases hhi : 16 < h
      · have HNO : Hid (neighN l id h = ((0, 0), false)) := Lib.hid (neighN_no (.inr (.inr (by unfold lvlN; simp; omega))))
        have q0 := B1.cell 0 _ rfl
        have q1 := B1.cell 1 _ rfl
        have z0 := B1.free 0
        have z1 := B1.free 1
        clear B2
        go_wp2_with fail
        refine bodyPost_ret (v := .tuple #[.agg #[.int .i64 0, .int .i64 0], .bool false]) (by simp [results, Tryz.results80, go_sem, *]) rfl (ng_no HNO.out ?_)
        exact (k1.setNew (p := ⟨g, 0, none⟩) _ hgn).setNew (p := ⟨g, 1, none⟩) _ hgn
      · have HYES : Hid (neighN l id h = (nbFold ⟨xi, xk, xw⟩ (groupN S h xw), true)) := Lib.hid (by
          have := nbFold_neigh (l := l) (id := id) (h := h) HCK.out (by rw [← HF.out]) (by unfold lvlN; simp; omega)
          unfold thrG at this
          rw [← HF.out, ← HSR.out HCK.out] at this
          exact this)
        have k5 := Ex.new w4 (.cells #[.int .i64 0, .int .i64 0] 65)
        have B3 := Blk.new w4 [.int .i64 0, .int .i64 0] 65
        obtain ⟨w5, hw5⟩ : ∃ w5, w5 = w4.alloc (.cells #[.int .i64 0, .int .i64 0] 65) := ⟨_, rfl⟩
        obtain ⟨g3, hg3⟩ : ∃ g3, g3 = w4.heap.size := ⟨_, rfl⟩
        have B3 : Blk w5 g3 [.int .i64 0, .int .i64 0] 65 := by rw [hw5, hg3]; exact B3
        rw [← hw5] at k5
        have h13 : g ≠ g3 := by have := B1.lt; omega
        have h23 : g2 ≠ g3 := by have := B2.lt; omega
        have hgn3 : w.heap.size ≤ g3 := by have := k1.size; omega
        have HW5 := Lib.hid hw5
        have HG3 := Lib.hid hg3
        replace OS := OS.out.nx k5
        replace B1 := B1.nx k5
        replace B2 := B2.nx k5
        replace HT := Lib.hid (HT.out.nx k5)
        replace k1 := k1.nx k5
        obtain ⟨aS, cS, rfl, sS, _, _⟩ := OS.sl3 (fun _ => rfl)
        have b22 := B2.cell 2 _ rfl
        have hnS : S.length ≤ 1000 := by have := HL.out; have := SL.out; omega
        clear hw5 hg3 k5
        go_upto_region 6 with fail
        rw [← HG3.out, ← HW5.out]
        clear OS
        have sS : Rd 3 encN (· < w5.heap.size) w5 aS S.length S := sS
        go_wp2_with fail
        (with_reducible refine (group_p _ _ _ _ _ _ _ sS (fun _ hk => hk) hnS SW.out HXW HT.out).mono ?_)
        rintro e w6 ⟨a6, n6, c6, rfl, r6, k6⟩
        have r6 : Slf 3 encN w5 w6 a6 n6 _ := r6
        replace k6 : Ex w5 w6 := k6
        have hgl := groupN_length S h xw
        generalize groupN S h xw = G at r6 HYES hgl ⊢
        have RG := Lib.hid (r6.slb B3.lt)
        have hng := r6.len
        subst hng
        replace B1 := B1.nx k6
        replace B2 := Lib.hid (B2.nx k6)
        replace B3 := B3.nx k6
        replace k1 := k1.nx k6
        have B1 := Lib.hid B1
        clear r6 k6 sS b22
        have hG6 : G.length ≤ 1000 := by omega
        go_wp2_with fail
        go_loopw [47] (fun i wr => NiRel ⟨xi, xk, xw⟩ G g3 w6 i wr) (fun i _ => G.length - (intOf i).toNat)
        case atStart => exact ⟨0, by omega, rfl, Exb.refl _ _, B3⟩
        case round =>
          obtain ⟨k, hk, rfl, kw, B3⟩ := hrel
          obtain ⟨wo, rfl⟩ : ∃ wo : World, wo = wr := ⟨_, rfl⟩
          by_cases hlt : k < G.length
          · obtain ⟨x1, o1, y, rfl, hx1, hy, hc1⟩ := ((RG.out.nxb kw).sl).at hlt
            obtain ⟨yi, yk, yw⟩ := y
            have e0 : wo.cell? ⟨x1, o1 + k * 3, none⟩ = some (.int .i64 yi) := hc1 0 _ rfl
            have e1 : wo.cell? ⟨x1, o1 + k * 3 + 1, none⟩ = some (.string yk) := hc1 1 _ rfl
            have e2 : wo.cell? ⟨x1, o1 + k * 3 + 2, none⟩ = some (.int .u32 yw) := hc1 2 _ rfl
            have e2' : wo.cell? ⟨x1, o1 + k * 3 + 1 + 1, none⟩ = some (.int .u32 yw) := e2
            have FS : Hid (nbFold ⟨xi, xk, xw⟩ (G.take (k + 1)) = nbStep ⟨xi, xk, xw⟩ (nbFold ⟨xi, xk, xw⟩ (G.take k)) ⟨yi, yk, yw⟩) := Lib.hid (nbFold_snoc _ _ _ _ hy)
            clear hy hc1
            obtain ⟨FF, hFF⟩ : ∃ FF, FF = nbFold ⟨xi, xk, xw⟩ (G.take k) := ⟨_, rfl⟩
            rw [← hFF] at B3 FS
            clear hFF
            obtain ⟨f1, f2⟩ := FF
            have k7 := Ex.new wo (.cells #[.int .i64 yi, .string yk, .int .u32 yw] 57)
            have B4 := Blk.new wo [.int .i64 yi, .string yk, .int .u32 yw] 57
            obtain ⟨w7, hw7⟩ : ∃ w7, w7 = wo.alloc (.cells #[.int .i64 yi, .string yk, .int .u32 yw] 57) := ⟨_, rfl⟩
            obtain ⟨g4, hg4⟩ : ∃ g4, g4 = wo.heap.size := ⟨_, rfl⟩
            have B4 : Blk w7 g4 [.int .i64 yi, .string yk, .int .u32 yw] 57 := by rw [hw7, hg4]; exact B4
            rw [← hw7] at k7
            have h34 : g3 ≠ g4 := by have := B3.lt; omega
            have HW7 := Lib.hid hw7
            have HG4 := Lib.hid hg4
            have B3 := B3.nx k7
            have kw := kw.nxb (k7.b g3)
            have B2' := B2.out.nxb h23 kw
            clear hw7 hg4 k7
            go_upto_region 9 with fail
            rw [← HG4.out, ← HW7.out]
            clear e0 e1 e2 e2'
            have p1 := B2'.cell 1 _ rfl
            have y0 := B4.cell 0 _ rfl
            have y1 := B4.cell 1 _ rfl
            have t0 := B3.cell 0 _ rfl
            have t1 := B3.cell 1 _ rfl
            have z0 := B3.free 0
            have z1 := B3.free 1
            cases hb : Op.bytesLess yk.toList xk.toList with
            | true =>
              have FS' : Hid (nbFold ⟨xi, xk, xw⟩ (G.take (k + 1)) = (yi, f2)) := Lib.hid (by rw [FS.out]; exact step_less hb)
              have B3' := B3.set 0 (.int .i64 yi)
              clear B2' B4 B3
              go_wp2_with fail
              refine ⟨⟨k + 1, by omega, by go_num, kw.setB _ rfl, ?_⟩, by simp [intOf]; omega⟩
              rw [FS'.out]; exact B3'
            | false =>
              cases he : (yk.toList == xk.toList) with
              | true =>
                have FS' : Hid (nbFold ⟨xi, xk, xw⟩ (G.take (k + 1)) = (f1, f2)) := Lib.hid (by rw [FS.out]; unfold nbStep; simp [hb, he])
                have B3' := Lib.hid B3
                clear B2' B4 B3
                go_wp2_with fail
                refine ⟨⟨k + 1, by omega, by go_num, kw, ?_⟩, by simp [intOf]; omega⟩
                rw [FS'.out]; exact B3'.out
              | false =>
                by_cases h0 : f2 = 0
                · have FS' : Hid (nbFold ⟨xi, xk, xw⟩ (G.take (k + 1)) = (f1, yi)) := Lib.hid (by rw [FS.out]; unfold nbStep; simp [hb, he, h0])
                  have B3' := B3.set 1 (.int .i64 yi)
                  subst h0
                  clear B2' B4 B3
                  go_wp2_with fail
                  refine ⟨⟨k + 1, by omega, by go_num, kw.setB _ rfl, ?_⟩, by simp [intOf]; omega⟩
                  rw [FS'.out]; exact B3'
                · have FS' : Hid (nbFold ⟨xi, xk, xw⟩ (G.take (k + 1)) = (f1, f2)) := Lib.hid (by rw [FS.out]; unfold nbStep; simp [hb, he, h0])
                  have d0 : (f2 == 0) = false := by simpa using h0
                  have B3' := Lib.hid B3
                  clear B2' B4 B3
                  go_wp2_with fail
                  refine ⟨⟨k + 1, by omega, by go_num, kw, ?_⟩, by simp [intOf]; omega⟩
                  rw [FS'.out]; exact B3'.out
          · obtain rfl : k = G.length := by omega
            rw [List.take_length] at B3
            have B1' := B1.out.nxb h13 kw
            have kw' := k1.nx (Ex.refl _)
            have KK : Ex w wo := (Chg.trans k1 (Chg.mono kw (fun q (hq : q < w.heap.size) => ⟨Nat.lt_of_lt_of_le hq k1.size, by omega⟩)))
            obtain ⟨FF, hFF⟩ : ∃ FF, FF = nbFold ⟨xi, xk, xw⟩ G := ⟨_, rfl⟩
            rw [← hFF] at B3
            have HYES' : Hid (neighN l id h = (FF, true)) := Lib.hid (by rw [HYES.out, hFF])
            clear hFF HYES
            obtain ⟨f1, f2⟩ := FF
            have t0 := B3.cell 0 _ rfl
            have t1 := B3.cell 1 _ rfl
            have q0 := B1'.cell 0 _ rfl
            have q1 := B1'.cell 1 _ rfl
            have z0 := B1'.free 0
            have z1 := B1'.free 1
            clear B1' B3 hk hlt kw'
            have h13' : ¬ g = g3 := h13
            go_wp2_with fail
            refine bodyPost_ret (v := .tuple #[.agg #[.int .i64 f1, .int .i64 f2], .bool true]) (by simp [results, Tryz.results80, go_sem, *]) rfl ⟨by rw [HYES'.out], ?_⟩
            exact (KK.setNew (p := ⟨g, 0, none⟩) _ hgn).setNew (p := ⟨g, 1, none⟩) _ hgn
end Go.Proofs.YtbnbjiddffihoaaGreatDoor

/- Build of the reference. -/
namespace Go.Proofs.YtbnbjiddffihoaaGreatDoor
open Go.RowKit

theorem Tryz.infoLk : (Tryz.prog.info? 65).map (fun i => (i.zero, i.size, i.bytes)) = some (some (.agg #[.int .i64 0, .int .i64 0]), 2, 16) := by kernel_rfl
theorem Tryz.infoLd : (Tryz.prog.info? 102).map (fun i => (i.zero, i.size, i.bytes)) = some (some (.agg #[.int .i64 0, .slice none 0 0]), 2, 32) := by kernel_rfl

abbrev Lkd := Int × List (Int × Int)
/-- the links of a node of a sorted roster at the levels below m -/
def rowN (S : List Nd) (m : Nat) (x : Nd) : Lkd := (x.id, (List.range m).map fun (h : Nat) => (neighN S x.id h).1)
def buildN (l : List Nd) (height : Int) : List Lkd × Int :=
  if (checkN l == 0) = false then ([], 1) else if lvlN height = false then ([], 2) else ((sortN l).map (rowN (sortN l) (height.toNat + 1)), 0)
abbrev OwnLk (base : Nat) (w : World) (v : Value) (qs : List (Int × Hdr)) (L : List Lkd) : Prop := OwnN encI 2 2 encS 102 65 base w v qs L
abbrev LkL (w : World) (a : Option Addr) (n : Nat) (L : List Lkd) : Prop := NL encI 2 2 encS w a n L
/-- a list of links that was just made -/
def LkPost (L : List Lkd) (e : Int) (w : World) (en : Ending) (w' : World) : Prop :=
  ∃ (v : Value) (qs : List (Int × Hdr)), en = .returned (.tuple #[v, .int .i64 e]) ∧ OwnLk w.heap.size w' v qs L ∧ Ex w w'
theorem OwnN.base {A β : Type} {encA : A → List Value} {s1 s2 : Nat} {encB : β → List Value} {e1 e2 : TypeId} {base base' : Nat} {w : World} {v : Value} {qs : List (A × Hdr)} {L : List (A × List β)}
    (h : OwnN encA s1 s2 encB e1 e2 base w v qs L) (hb : base' ≤ base) : OwnN encA s1 s2 encB e1 e2 base' w v qs L :=
  ⟨h.1.lower hb, h.2.1, fun j q c hq hc => ⟨(h.2.2.1 j q c hq hc).1, (h.2.2.1 j q c hq hc).2.base hb⟩, h.2.2.2⟩
theorem rowN_len (S : List Nd) (j : Nat) (x : Nd) : (rowN S j x).2.length = j := by unfold rowN; simp

end Go.Proofs.YtbnbjiddffihoaaGreatDoor

/- Lists of lists of numbers: ids of nodes, Lists of the package ideal. -/
namespace Go.Proofs.YtbnbjiddffihoaaGreatDoor
open Go.RowKit

theorem Tryz.infoI6 : (Tryz.prog.info? 3).map (fun i => (i.zero, i.size, i.bytes)) = some (some (.int .i64 0), 1, 8) := by kernel_rfl
theorem Tryz.infoIL : (Tryz.prog.info? 22).map (fun i => (i.zero, i.size, i.bytes)) = some (some (.slice none 0 0), 1, 24) := by kernel_rfl

def enc0 : Unit → List Value := fun _ => []
def pairU (m : List Int) : Unit × List Int := ((), m)
abbrev OwnIL (base : Nat) (w : World) (v : Value) (qs : List (Unit × Hdr)) (M : List (List Int)) : Prop := OwnN enc0 1 1 encI 22 3 base w v qs (M.map pairU)
def IlPost (M : List (List Int)) (w : World) (e : Ending) (w' : World) : Prop :=
  ∃ (v : Value) (qs : List (Unit × Hdr)), e = .returned v ∧ OwnIL w.heap.size w' v qs M ∧ Ex w w'
def idsN (c : List Nd) : List Int := c.map Nd.id
theorem idsN_snoc (c : List Nd) (k : Nat) (y : Nd) (hy : c[k]? = some y) : idsN (c.take (k + 1)) = idsN (c.take k) ++ [y.id] := by
  unfold idsN; rw [take_snocN c k y hy, List.map_append]; rfl
theorem idsC_snoc (C : List (List Nd)) (k : Nat) (c : List Nd) (hc : C[k]? = some c) : (((C.take (k + 1)).map idsN).map pairU) = (((C.take k).map idsN).map pairU) ++ [((), idsN c)] := by
  rw [List.take_add_one, hc, List.map_append, List.map_append]; rfl
def listsN (l : List Nd) (h : Int) : List (List Int) := if (checkN l == 0) = true ∧ lvlN h = true then (classesN (sortN l) h).map idsN else []
theorem classesN_sm (l : List Nd) (h : Int) (hl : l.length ≤ 1000) : (classesN l h).length ≤ 1000 ∧ ∀ c ∈ classesN l h, c.length ≤ 1000 := by
  refine ⟨Nat.le_trans (classes_le l h) hl, ?_⟩
  intro c hc
  by_cases hh : 16 < h
  · rw [classesN_big hh] at hc; cases hc
  · rw [classesN_fold hh] at hc
    have := foldC_fine (h := h) (P := fun _ => True) l (fun _ _ => trivial)
    exact Nat.le_trans (this c hc).2.1 hl
def IdqRel (c : List Nd) (n : Nat) (w : World) (o i : Value) (wr : World) : Prop :=
  ∃ k : Nat, k ≤ n ∧ i = .int .i64 k ∧ OwnL 1 encI 3 w.heap.size wr o (idsN (c.take k)) ∧ Ex w wr
def IlRel (C : List (List Nd)) (w : World) (o i : Value) (wr : World) : Prop :=
  ∃ (k : Nat) (qs : List (Unit × Hdr)), k ≤ C.length ∧ i = .int .i64 k ∧ OwnIL w.heap.size wr o qs ((C.take k).map idsN) ∧ Ex w wr

set_option maxRecDepth 100000 in
set_option maxHeartbeats 2000000 in
theorem lists_p (a : Option Addr) (n c : Nat) (l : List Nd) (h : Int) (w : World) (hs : Sl 3 encN w a n l) (hn : n ≤ 1000) (hc : n ≤ c) (hm : c ≤ maxLen) (hw : ∀ x ∈ l, x.word < 4294967296) (hT : TabG w) :
    Calls Tryz.prog 94 #[.slice a n c, .int .i64 h] w (IlPost (listsN l h) w) := by
  have HW := Lib.hid hw
  have HL := Lib.hid hs.len
  have HT := Lib.hid hT
  clear hw hT
  go_enter Tryz.func94, Tryz.ntmps94
  go_wp2_with fail
  (with_reducible refine (ordered_p _ _ _ _ _ hs hn hc hm).mono ?_)
  rintro e w1 ⟨v, S, rfl, OS, ⟨hp, hsrt⟩, k1⟩
  have SL := Lib.hid hp.length_eq
  have SW : Hid (∀ x ∈ S, x.word < 4294967296) := Lib.hid (fun x hx => HW.out x (hp.mem_iff.1 hx))
  have HSR := Lib.hid hsrt
  replace HT := Lib.hid (HT.out.nx k1)
  clear hp hsrt hs
  by_cases hck : checkN l = 0
  case neg =>
    have HNO : Hid (listsN l h = []) := Lib.hid (by unfold listsN; rw [if_neg]; rintro ⟨h1, _⟩; exact hck (by simpa using h1))
    have d1 : (checkN l == 0) = false := by simpa using hck
    rw [d1]
    clear hck d1 OS
    go_wp2_with fail
    go_ret
    rw [HNO.out]
    exact ⟨_, [], rfl, OwnN.nil _ _ _ _ _ _ _ _, k1⟩
  have HCK := Lib.hid hck
  have d1 : (checkN l == 0) = true := by simpa using hck
  rw [d1]
  clear hck d1
  by_cases hlo : h < 0
  · have HNO : Hid (listsN l h = []) := Lib.hid (by unfold listsN; rw [if_neg]; rintro ⟨_, h1⟩; unfold lvlN at h1; simp at h1; omega)
    clear OS
    go_wp2_with fail
    go_ret
    rw [HNO.out]
    exact ⟨_, [], rfl, OwnN.nil _ _ _ _ _ _ _ _, k1⟩
  by_cases hhi : 16 < h
  · have HNO : Hid (listsN l h = []) := Lib.hid (by unfold listsN; rw [if_neg]; rintro ⟨_, h1⟩; unfold lvlN at h1; simp at h1; omega)
    clear OS
    go_wp2_with fail
    go_ret
    rw [HNO.out]
    exact ⟨_, [], rfl, OwnN.nil _ _ _ _ _ _ _ _, k1⟩
  have HYES : Hid (listsN l h = (classesN S h).map idsN) := Lib.hid (by
    unfold listsN; rw [if_pos ⟨by rw [HCK.out]; rfl, by unfold lvlN; simp; omega⟩, HSR.out HCK.out])
  have HSM := Lib.hid (classesN_sm S h (by have := HL.out; have := SL.out; omega))
  obtain ⟨aS, cS, rfl, sS, _, _⟩ := OS.sl3 (fun _ => rfl)
  have hnS : S.length ≤ 1000 := by have := HL.out; have := SL.out; omega
  clear OS
  go_wp2_with fail
  (with_reducible refine (classes_p _ _ _ _ _ _ sS hnS SW.out HT.out).mono ?_)
  rintro e w2 ⟨a2, c2, rfl, C2, k2⟩
  replace k1 := Lib.hid (k1.nx k2)
  have hsz := k1.out.size
  generalize classesN S h = C at C2 HSM HYES ⊢
  have C2 := Lib.hid C2
  have hC := HSM.out.1
  clear k2 sS
  go_wp2_with fail
  go_loopw [7, 32] (fun o i wr => IlRel C w2 o i wr) (fun _ i _ => C.length - (intOf i).toNat)
  case atStart => exact ⟨0, [], by omega, rfl, OwnN.nil _ _ _ _ _ _ _ _, Ex.refl _⟩
  case round =>
    obtain ⟨k, qs, hk, rfl, OQ, kw⟩ := hrel
    obtain ⟨wo, rfl⟩ : ∃ wo : World, wo = wr := ⟨_, rfl⟩
    by_cases hlt : k < C.length
    · obtain ⟨x1, o1, a', n', c', cc, rfl, hx1, hcc, hcell, hsl⟩ := (C2.out.nx kw).at hlt
      have HCC := Lib.hid hcc
      have hnl := hsl.len
      have hcl : cc.length ≤ 1000 := HSM.out.2 cc (List.mem_of_getElem? hcc)
      subst hnl
      have OQ := Lib.hid OQ
      have HSL := Lib.hid hsl
      have hzo := kw.size
      have KW := Lib.hid kw
      clear hcc hsl kw
      go_wp2_with fail
      clear hcell
      go_loopw [10, 38] (fun o i wr => IdqRel cc cc.length wo o i wr) (fun _ i _ => cc.length - (intOf i).toNat)
      case atStart => exact ⟨0, by omega, rfl, OwnL.nil _ _ _ _ _, Ex.refl _⟩
      case round =>
        obtain ⟨j, hj, rfl, own, ki⟩ := hrel
        obtain ⟨wi, rfl⟩ : ∃ wi : World, wi = wr := ⟨_, rfl⟩
        by_cases hjm : j < cc.length
        · obtain ⟨x3, o3, y, rfl, hx3, hy, hc3⟩ := (HSL.out.nx ki).at hjm
          obtain ⟨yi, yk, yw⟩ := y
          have e0 : wi.cell? ⟨x3, o3 + j * 3, none⟩ = some (.int .i64 yi) := hc3 0 _ rfl
          have e1 : wi.cell? ⟨x3, o3 + j * 3 + 1, none⟩ = some (.string yk) := hc3 1 _ rfl
          have e2 : wi.cell? ⟨x3, o3 + j * 3 + 2, none⟩ = some (.int .u32 yw) := hc3 2 _ rfl
          have e2' : wi.cell? ⟨x3, o3 + j * 3 + 1 + 1, none⟩ = some (.int .u32 yw) := e2
          have SN := Lib.hid (idsN_snoc cc j _ hy)
          have hrl : (idsN (cc.take j)).length = j := by unfold idsN; rw [List.length_map, List.length_take]; omega
          clear hy hc3
          have k7 := Ex.new wi (.cells #[.int .i64 yi, .string yk, .int .u32 yw] 57)
          have B4 := Blk.new wi [.int .i64 yi, .string yk, .int .u32 yw] 57
          obtain ⟨w7, hw7⟩ : ∃ w7, w7 = wi.alloc (.cells #[.int .i64 yi, .string yk, .int .u32 yw] 57) := ⟨_, rfl⟩
          obtain ⟨g4, hg4⟩ : ∃ g4, g4 = wi.heap.size := ⟨_, rfl⟩
          have B4 : Blk w7 g4 [.int .i64 yi, .string yk, .int .u32 yw] 57 := by rw [hw7, hg4]; exact B4
          rw [← hw7] at k7
          have HW7 := Lib.hid hw7
          have HG4 := Lib.hid hg4
          replace own := own.nx k7
          replace ki := ki.nx k7
          generalize idsN (cc.take j) = row at own SN hrl
          clear hw7 hg4 k7
          go_upto_region 12 with fail
          rw [← HG4.out, ← HW7.out]
          clear e0 e1 e2 e2'
          have y0 := B4.cell 0 _ rfl
          have zb := ki.size
          go_wp2_with (at_builtin; (refine wpList_append_lit (enc := encI) w7 rfl _ _ 22 rfl wo.heap.size 3 (.int .i64 0) 1 8 Tryz.underlying22 Tryz.infoI6 rfl (by omega) (by omega) _ _ own rfl (yi : Int) _ rfl rfl (by simp [encI, Value.oneCell']) _ (by simp) rfl (by omega) zb _ ?_); intro v6 w6 own6 _ ch1 _)
          refine ⟨⟨j + 1, by omega, by go_num, by rw [SN.out]; exact own6, Chg.trans ki ch1⟩, by simp [intOf]; omega⟩
        · obtain rfl : j = cc.length := by omega
          rw [List.take_length] at own
          have OQ1 := OQ.out.nx ki
          obtain ⟨a6, c6, rfl, _, _, _, _⟩ := own.rd (fun _ => rfl)
          have hkq : qs.length = k := by rw [OQ1.2.1, List.length_map, List.length_map, List.length_take]; omega
          have hzi : w2.heap.size ≤ wi.heap.size := by have := ki.size; omega
          have FR : ∀ (j : Nat) (r : Unit × Hdr) (g : Nat), qs[j]? = some r → r.2.val.ownBlock = some g → ¬ (Value.slice a6 (idsN cc).length c6).ownBlock = some g := by
            intro j r g hr hg hv
            have h1 := OQ.out.lt hr hg
            have h2 := (own.lt g hv).1
            omega
          clear hjm hj
          have k8 := Ex.new wi (.cells #[.slice a6 (idsN cc).length c6] 22)
          have SX : Sl 1 (encP enc0) (wi.alloc (.cells #[.slice a6 (idsN cc).length c6] 22)) (some ⟨wi.heap.size, 0, none⟩) 1 [(((), (a6, (idsN cc).length, c6)) : Unit × Hdr)] := Sl.lit _ rfl rfl (fun _ => rfl) rfl
          have OQ2 := OQ1.nx k8
          have own2 := own.nx k8
          have ki8 := ki.nx k8
          have hql : qs.length ≤ 1000000 := by omega
          go_wp2_with (at_builtin; (refine wpList_append_W (enc := encP enc0) _ rfl _ _ 109 rfl w2.heap.size 22 (.slice none 0 0) 1 24 Tryz.underlying109 Tryz.infoIL rfl (by omega) (by omega) _ _ OQ2.1 rfl _ 1 1 [_] SX (fun _ => rfl) (by simp [encP, enc0, Hdr.val, Value.oneCell']) rfl hql (by omega) (by simp; omega) ?_); intro v7 w7 own7 ch0 ch1 _)
          have OQ7 := OQ2.push (by decide) own7 ch0 (own2.base (by omega)) FR
          have kw7 : Ex w2 w7 := Chg.trans (KW.out.nx ki8) ch1
          exact ⟨⟨k + 1, qs ++ [(((), (a6, (idsN cc).length, c6)) : Unit × Hdr)], by omega, by go_num, by show OwnN enc0 1 1 encI _ _ _ _ _ _ (((C.take (k + 1)).map idsN).map pairU); rw [idsC_snoc C k cc HCC.out]; exact OQ7, kw7⟩, by simp [intOf]; omega⟩
    · obtain rfl : k = C.length := by omega
      rw [List.take_length] at OQ
      have OQ := Lib.hid OQ
      clear hk hlt
      go_wp2_with fail
      go_ret
      rw [HYES.out]
      exact ⟨_, qs, rfl, OwnN.base OQ.out hsz, k1.out.nx kw⟩
end Go.Proofs.YtbnbjiddffihoaaGreatDoor

/- The links that Build of the package ideal lays, in plain Lean: link by link from the lists, against the neighbours by their definition. -/
namespace Go.Proofs.YtbnbjiddffihoaaGreatDoor
open Go.RowKit

/-- links: of a number, at a level -/
abbrev FnL := Int → Nat → Int × Int
def updL (F : FnL) (id : Int) (j : Nat) (v : Int) : FnL := fun x h => if x = id ∧ h = j then (v, (F x h).2) else F x h
def updR (F : FnL) (id : Int) (j : Nat) (v : Int) : FnL := fun x h => if x = id ∧ h = j then ((F x h).1, v) else F x h
def atI (ids : List Int) (q : Nat) : Int := ids[q]?.getD 0
/-- the first n links of a list -/
def procI (ids : List Int) (j : Nat) (F : FnL) : Nat → FnL
  | 0 => F
  | n + 1 => updR (updL (procI ids j F n) (atI ids (n + 1)) j (atI ids n)) (atI ids n) j (atI ids (n + 1))
def procL (j : Nat) (M : List (List Int)) (F : FnL) : FnL := M.foldl (fun F ids => procI ids j F (ids.length - 1)) F
def procB (S : List Nd) : Nat → FnL
  | 0 => fun _ _ => (0, 0)
  | j + 1 => procL j (listsN S (j : Nat)) (procB S j)
def rowsF (S : List Nd) (m : Nat) (F : FnL) : List Lkd := S.map fun x => (x.id, (List.range m).map fun j => F x.id j)

theorem procL_snoc (j : Nat) (M : List (List Int)) (F : FnL) (k : Nat) (c : List Int) (hc : M[k]? = some c) : procL j (M.take (k + 1)) F = procI c j (procL j (M.take k) F) (c.length - 1) := by
  unfold procL
  rw [List.take_add_one, hc, List.foldl_append]
  rfl
theorem procI_other (ids : List Int) (j : Nat) (F : FnL) (n : Nat) (x : Int) (h : Nat) (hx : h ≠ j ∨ ∀ q, q ≤ n → x ≠ atI ids q) : procI ids j F n x h = F x h := by
  induction n with
  | zero => rfl
  | succ n ih =>
    have ih := ih (hx.imp id (fun g q hq => g q (by omega)))
    show updR (updL (procI ids j F n) (atI ids (n + 1)) j (atI ids n)) (atI ids n) j (atI ids (n + 1)) x h = _
    unfold updR updL
    rcases hx with hx | hx
    · rw [if_neg (fun e => hx e.2), if_neg (fun e => hx e.2), ih]
    · rw [if_neg (fun e => hx n (by omega) e.1), if_neg (fun e => hx (n + 1) (by omega) e.1), ih]
theorem atI_inj {ids : List Int} (hn : ids.Nodup) {p q : Nat} (hp : p < ids.length) (hq : q < ids.length) (e : atI ids p = atI ids q) : p = q := by
  unfold atI at e
  rw [List.getElem?_eq_getElem hp, List.getElem?_eq_getElem hq] at e
  have hw := List.pairwise_iff_getElem.1 hn
  rcases Nat.lt_trichotomy p q with h | h | h
  · exact absurd e (hw p q hp hq h)
  · exact h
  · exact absurd e.symm (hw q p hq hp h)
theorem procI_at {ids : List Int} (hn : ids.Nodup) (j : Nat) (F : FnL) {p : Nat} (hp : p < ids.length) :
    ∀ n, n < ids.length → procI ids j F n (atI ids p) j = (if 1 ≤ p ∧ p ≤ n then atI ids (p - 1) else (F (atI ids p) j).1, if p < n then atI ids (p + 1) else (F (atI ids p) j).2) := by
  intro n
  induction n with
  | zero => intro _; rw [if_neg (by omega), if_neg (by omega)]; rfl
  | succ n ih =>
    intro hl
    have ih := ih (by omega)
    have e1 : (atI ids p = atI ids (n + 1)) ↔ p = n + 1 := ⟨fun e => atI_inj hn hp hl e, fun e => by rw [e]⟩
    have e2 : (atI ids p = atI ids n) ↔ p = n := ⟨fun e => atI_inj hn hp (by omega) e, fun e => by rw [e]⟩
    show updR (updL (procI ids j F n) (atI ids (n + 1)) j (atI ids n)) (atI ids n) j (atI ids (n + 1)) (atI ids p) j = _
    unfold updR updL
    simp only [e1, e2, and_true]
    by_cases h1 : p = n + 1
    · rw [if_neg (by omega), if_pos h1, ih, if_pos (by omega : 1 ≤ p ∧ p ≤ n + 1), if_neg (by omega : ¬ p < n + 1)]
      simp only
      rw [if_neg (by omega : ¬ p < n), h1]
      rfl
    · by_cases h2 : p = n
      · rw [if_pos h2, if_neg h1, ih]
        simp only
        rw [if_pos (by omega : p < n + 1), h2]
        by_cases h3 : 1 ≤ n
        · rw [if_pos ⟨h3, Nat.le_refl _⟩, if_pos ⟨h3, by omega⟩]
        · rw [if_neg (by omega), if_neg (by omega)]
      · rw [if_neg h2, if_neg h1, ih]
        congr 1
        · by_cases h3 : 1 ≤ p ∧ p ≤ n
          · rw [if_pos h3, if_pos (by omega)]
          · rw [if_neg h3, if_neg (by omega)]
        · by_cases h3 : p < n
          · rw [if_pos h3, if_pos (by omega)]
          · rw [if_neg h3, if_neg (by omega)]
theorem procL_level (j : Nat) (M : List (List Int)) (F : FnL) (x : Int) (h : Nat) (hh : h ≠ j) : procL j M F x h = F x h := by
  unfold procL
  induction M generalizing F with
  | nil => rfl
  | cons c M ih => rw [List.foldl_cons, ih, procI_other _ _ _ _ _ _ (.inl hh)]
theorem atI_mem {ids : List Int} {q : Nat} (hq : q < ids.length) : atI ids q ∈ ids := by
  unfold atI; rw [List.getElem?_eq_getElem hq]; exact List.getElem_mem hq
theorem procI_mem (ids : List Int) (j : Nat) (F : FnL) (x : Int) (h : Nat) (hx : x ∉ ids) : procI ids j F (ids.length - 1) x h = F x h := by
  by_cases h0 : ids = []
  · subst h0; rfl
  · have : 0 < ids.length := List.length_pos_iff.2 h0
    exact procI_other _ _ _ _ _ _ (.inr fun q hq e => hx (e ▸ atI_mem (by omega)))
theorem procL_not (j : Nat) (M : List (List Int)) (F : FnL) (x : Int) (h : Nat) (hx : ∀ c ∈ M, x ∉ c) : procL j M F x h = F x h := by
  unfold procL
  induction M generalizing F with
  | nil => rfl
  | cons c M ih => rw [List.foldl_cons, ih _ (fun d hd => hx d (by simp [hd])), procI_mem _ _ _ _ _ (hx c (by simp))]
theorem procL_at (j : Nat) : ∀ (M : List (List Int)) (F : FnL), M.Pairwise (fun c d => ∀ x ∈ c, x ∉ d) → (∀ c ∈ M, c.Nodup) → ∀ c ∈ M, ∀ p, p < c.length → F (atI c p) j = (0, 0) →
    procL j M F (atI c p) j = (if 1 ≤ p then atI c (p - 1) else 0, if p + 1 < c.length then atI c (p + 1) else 0)
  | [], _, _, _, c, hc, _, _, _ => by cases hc
  | d :: M, F, hM, hN, c, hc, p, hp, hF => by
    rw [List.pairwise_cons] at hM
    show procL j M (procI d j F (d.length - 1)) (atI c p) j = _
    by_cases hcd : c ∈ M
    · rw [procL_at j M _ hM.2 (fun c hc => hN c (by simp [hc])) c hcd p hp]
      rw [procI_mem _ _ _ _ _ (fun hx => hM.1 c hcd _ hx (atI_mem hp))]
      exact hF
    · obtain rfl : c = d := by rcases List.mem_cons.1 hc with e | e; exact e; exact absurd e hcd
      rw [procL_not _ _ _ _ _ (fun d hd hx => hM.1 d hd _ (atI_mem hp) hx), procI_at (hN c (by simp)) j F hp (c.length - 1) (by omega), hF]
      congr 1
      · by_cases h3 : 1 ≤ p
        · rw [if_pos h3, if_pos (by omega)]
        · rw [if_neg h3, if_neg (by omega)]
      · by_cases h3 : p < c.length - 1
        · rw [if_pos h3, if_pos (by omega)]
        · rw [if_neg h3, if_neg (by omega)]
end Go.Proofs.YtbnbjiddffihoaaGreatDoor

/- A map from numbers to numbers that the call itself makes. -/
namespace Go.Proofs.YtbnbjiddffihoaaGreatDoor
open Go.RowKit

theorem Tryz.lawI : Go.Maps.Keyed Tryz.prog 3 := Go.Maps.int_keyed Tryz.underlying3
theorem Tryz.zeroI (w : World) : (zeroValue 3).run Tryz.prog w = .ok (.int .i64 0) w := by kernel_rfl
/-- block b is a map of at most n entries that answers by f -/
def MapI (w : World) (b n : Nat) (f : Int → Int) : Prop :=
  ∃ D : DataW Unit, w.ownsMap Tryz.prog 3 (plainElem Tryz.prog 3) b n D ∧ ∀ x : Int, D.atKey (.int .i64 x) (.lit (.int .i64 0)) = .lit (.int .i64 (f x))
theorem MapI.made (w : World) : MapI (w.alloc (.map #[] 0)) w.heap.size 0 (fun _ => 0) := ⟨.map [], World.ownsMap_made _ _ _ _, fun _ => rfl⟩
theorem wf_of {x : Int} (h : -9223372036854775808 ≤ x ∧ x ≤ 9223372036854775807) : (Lit.int .i64 x).wf = true := by
  exact WalkArith.wf_i64 h
theorem MapI.chg {w w' : World} {b n : Nat} {f : Int → Int} {S : Nat → Prop} (h : MapI w b n f) (k : Chg S w w') (hb : S b) : MapI w' b n f := by
  obtain ⟨D, ⟨es, clock, e1, F, e2, e3⟩, h2⟩ := h
  exact ⟨D, ⟨es, clock, (k.block b hb).trans e1, F, e2, e3⟩, h2⟩
theorem MapI.lt {w : World} {b n : Nat} {f : Int → Int} (h : MapI w b n f) : b < w.heap.size := by
  obtain ⟨D, h1, h2⟩ := h
  exact h1.lt
theorem MapI.nx {w w' : World} {b n : Nat} {f : Int → Int} (h : MapI w b n f) (k : Ex w w') : MapI w' b n f := h.chg k h.lt
theorem MapI.look {w : World} {b n : Nat} {f : Int → Int} (h : MapI w b n f) {x : Int} (hx : -9223372036854775808 ≤ x ∧ x ≤ 9223372036854775807) :
    (Instr.lookup 108 (.map (some b)) (.int .i64 x) false).run Tryz.prog w = .ok (.int .i64 (f x)) w := by
  obtain ⟨D, h1, h2⟩ := h
  obtain ⟨c, hrun, hat, _⟩ := h1.lookup_int (t := 108) Tryz.lawI Tryz.underlying108 Tryz.underlying3 (Tryz.zeroI w) (Go.Maps.keyOf_int_mk Tryz.underlying3 (wf_of hx))
  rw [h2 x] at hat
  cases hat
  exact hrun
theorem MapI.put {w : World} {b n : Nat} {f : Int → Int} (h : MapI w b n f) {x v : Int} (hx : -9223372036854775808 ≤ x ∧ x ≤ 9223372036854775807) (hv : -9223372036854775808 ≤ v ∧ v ≤ 9223372036854775807) (hn : n < maxLen) :
    ∃ w', (Instr.mapUpdate 108 (.map (some b)) (.int .i64 x) (.int .i64 v)).run Tryz.prog w = .ok () w' ∧ MapI w' b (n + 1) (fun y => if y = x then v else f y) ∧ Exb b w w' := by
  obtain ⟨D, h1, h2⟩ := h
  have hm : Go.Maps.IsMap D := by obtain ⟨_, _, _, _, _, e⟩ := h1; exact ⟨_, e⟩
  obtain ⟨w', hrun, h3, h4⟩ := h1.update (t := 108) Tryz.lawI Tryz.underlying108 hn (Go.Maps.keyOf_int_mk Tryz.underlying3 (wf_of hx)) (plainElem_int Tryz.underlying3 (wf_of hv))
  refine ⟨w', hrun, ⟨_, h3, fun y => ?_⟩, ⟨h4.1, h4.2, h4.3, h4.4, fun i hi => h4.5 i hi.1 (fun e => hi.2 (Option.some.inj e))⟩⟩
  by_cases hy : y = x
  · subst hy
    show _ = DataW.lit (.int .i64 (if y = y then v else f y))
    rw [if_pos rfl]
    exact Go.Maps.atKey_put_same hm (show Go.WideAt.IsKeyLit (.int .i64 y) from trivial) _ _
  · show _ = DataW.lit (.int .i64 (if y = x then v else f y))
    rw [if_neg hy, Go.Maps.atKey_put_other (fun e => hy (by cases e; rfl))]
    exact h2 y
end Go.Proofs.YtbnbjiddffihoaaGreatDoor

/- Walks over the tape of numbers from which the statements draw. -/
namespace Go.Proofs.YtbnbjiddffihoaaGreatDoor
open Go.RowKit

set_option maxHeartbeats 400000 in
theorem mod_any (v n : Int) (w : World) (hn : 1 ≤ n) (hn2 : n ≤ 9223372036854775807) :
    Calls Tryz.prog 31 #[.int .i64 v, .int .i64 n] w fun e w' => e = .returned (.int .i64 (v % n)) ∧ w = w' := by
  obtain ⟨h1, h2⟩ := tmod_bounds v n hn
  have H3 := Lib.hid (emod_of_tmod v n hn)
  go_enter Tryz.func31, Tryz.ntmps31
  go_wp2
  · go_ret
    exact ⟨by rw [H3.out, if_pos ‹_›]; rfl, rfl⟩
  · go_ret
    exact ⟨by rw [H3.out, if_neg (by omega)]; rfl, rfl⟩

set_option maxHeartbeats 400000 in
theorem next_end (b len cap i : Nat) (n : Int) (a : Option Addr) (w : World) (hb : w.heap[b]? = some (.cells #[.slice a len cap, .int .i64 i] 52 (0, 0))) (hi : len ≤ i) (hn : ¬ n < 1) :
    Calls Tryz.prog 9 #[.pointer (some ⟨b, 0, none⟩), .int .i64 n] w fun e w' => e = .returned (.int .i64 0) ∧ ∃ m, w.drewN m = w' := by
  have c0 : w.cell? ⟨b, 0, none⟩ = some (.slice a len cap) := by simp [World.cell?, hb]
  have c1 : w.cell? ⟨b, 1, none⟩ = some (.int .i64 i) := by simp [World.cell?, hb]
  have d1 : decide (n < 1) = false := by simp; omega
  clear hb
  go_enter Tryz.func9, Tryz.ntmps9
  go_wp2
  go_quiet (fail)
  go_wp2
  go_ret
  exact ⟨rfl, _, rfl⟩

set_option maxHeartbeats 400000 in
theorem next_small (b : Nat) (n : Int) (w : World) (hn : n < 1) :
    Calls Tryz.prog 9 #[.pointer (some ⟨b, 0, none⟩), .int .i64 n] w fun e w' => e = .returned (.int .i64 0) ∧ ∃ m, w.drewN m = w' := by
  have d1 : decide (n < 1) = true := by simp; omega
  go_enter Tryz.func9, Tryz.ntmps9
  go_wp2
  go_quiet (fail)
  go_wp2
  go_ret
  exact ⟨rfl, _, rfl⟩

set_option maxHeartbeats 400000 in
theorem next_go (b len cap i x o : Nat) (n v : Int) (w : World) (hb : w.heap[b]? = some (.cells #[.slice (some ⟨x, o, none⟩) len cap, .int .i64 i] 52 (0, 0))) (hi : i < len) (hl : len ≤ 600) (hn : ¬ n < 1) (hn2 : n ≤ 9223372036854775807)
    (hx : x ≠ b) (hc : w.cell? ⟨x, o + i, none⟩ = some (.int .i64 v)) :
    Calls Tryz.prog 9 #[.pointer (some ⟨b, 0, none⟩), .int .i64 n] w fun e w' => e = .returned (.int .i64 (v % n)) ∧ ∃ m k, ((w.drewN k).setCell ⟨b, 1, none⟩ (.int .i64 (i + 1))).drewN m = w' := by
  have c0 : w.cell? ⟨b, 0, none⟩ = some (.slice (some ⟨x, o, none⟩) len cap) := by simp [World.cell?, hb]
  have c1 : w.cell? ⟨b, 1, none⟩ = some (.int .i64 i) := by simp [World.cell?, hb]
  have f1 : w.frozen? ⟨b, 1, none⟩ = false := by simp [World.frozen?, hb]
  have d1 : decide (n < 1) = false := by simp; omega
  have e1 : IntKind.i64.wrap (i : Int) = i := IntWalk.i64_in _ (by omega)
  have e2 : IntKind.i64.wrap ((i : Int) + 1) = (i : Int) + 1 := IntWalk.i64_in _ (by omega)
  clear hb
  go_enter Tryz.func9, Tryz.ntmps9
  go_wp2
  go_quiet (fail)
  go_wp2
  go_quiet ((go_at_call 31; exact quiet_of_eq (mod_any _ _ _ (by omega) (by omega))))
  go_wp2
  go_ret
  exact ⟨rfl, _, _, rfl⟩

theorem next_x {B b : Nat} (n : Int) (w : World) (h : TP 52 B w b) (hn2 : n ≤ 9223372036854775807) :
    Calls Tryz.prog 9 #[.pointer (some ⟨b, 0, none⟩), .int .i64 n] w (SomeInt 0 (if n < 1 then 0 else n - 1) 52 B b w) := by
  by_cases hn : n < 1
  · refine (next_small b n w hn).mono ?_
    rintro e w' ⟨rfl, m, rfl⟩
    exact ⟨0, rfl, by omega, by rw [if_pos hn]; omega, (Chg.refl _ _).drewN _, h⟩
  · obtain ⟨a, cap, i, x, o, l, h1, h2, h3, h4, h5⟩ := id h
    by_cases hi : i < l.length
    · rcases h5 with rfl | ⟨rfl, e2, e3, e4⟩
      · simp at hi
      · refine (next_go b _ cap i x o n _ w h1 hi h3 hn hn2 e2 (e4 i hi)).mono ?_
        rintro e w' ⟨rfl, m, k, rfl⟩
        refine ⟨_, rfl, Int.emod_nonneg _ (by omega), ?_, ?_, ?_⟩
        · rw [if_neg hn]; have := Int.emod_lt_of_pos (l.getD i 0) (show 0 < n by omega); omega
        · exact (((Chg.refl _ _).drewN _).setCell _ (fun k hk => hk.2)).drewN _
        · refine ⟨_, cap, i + 1, x, o, l, ?_, h2, h3, by omega, .inr ⟨rfl, e2, e3, fun j hj => ?_⟩⟩
          · show (w.setCell ⟨b, 1, none⟩ (.int .i64 (i + 1))).heap[b]? = _
            simp [World.setCell, Array.getElem?_modify, h1]
          · show (w.setCell ⟨b, 1, none⟩ (.int .i64 (i + 1))).cell? _ = _
            rw [World.cell?_of_block (w := w) (Below.heap_setCell w _ _ _ e2)]
            exact e4 j hj
    · refine (next_end b _ cap i n a w h1 (by omega) hn).mono ?_
      rintro e w' ⟨rfl, m, rfl⟩
      exact ⟨0, rfl, by omega, by rw [if_neg hn]; omega, (Chg.refl _ _).drewN _, h⟩

/-- Pick: some number of the list -/
theorem pick_x {B b s so len : Nat} (lo hi : Int) (l : List Int) (w : World) (h : TP 52 B w b) (hB : B ≤ s) (hs : s < w.heap.size) (hl : l.length = len) (hl0 : 0 < len) (hl2 : len ≤ 100)
    (hc : ∀ j, j < len → w.cell? ⟨s, so + j, none⟩ = some (.int .i64 (l.getD j 0))) (hr : ∀ x ∈ l, lo ≤ x ∧ x ≤ hi) :
    Calls Tryz.prog 17 #[.pointer (some ⟨b, 0, none⟩), .slice (some ⟨s, so, none⟩) len len] w (SomeInt lo hi 52 B b w) := by
  have hlt := h.lt
  go_enter Tryz.func17, Tryz.ntmps17
  go_wp2_with fail
  refine (next_x _ w h (by omega)).mono ?_
  rintro e w1 ⟨r, rfl, r0, r1, k1, t1⟩
  rw [if_neg (by omega)] at r1
  obtain ⟨j, rfl⟩ := Int.eq_ofNat_of_zero_le r0
  have hj : j < len := by omega
  have hc1 : w1.cell? ⟨s, so + j, none⟩ = some (.int .i64 (l.getD j 0)) := k1.cellv (hc j hj) ⟨hs, by simp; omega⟩
  have hm : l.getD j 0 ∈ l := by simp [List.getD, hl, hj]
  have hr1 := hr _ hm
  clear hc hr hl hm
  go_wp2
  go_ret
  exact ⟨_, rfl, hr1.1, hr1.2, k1, t1⟩


/-- Pick on a list that was just written out -/
theorem pick_lit {B b n s : Nat} (lo hi : Int) (l : List Int) {A : Array Value} {W0 : World} (h : TP 52 B W0 b) (hB : B ≤ W0.heap.size) (hs : s = W0.heap.size) (hA : A = (l.map (Value.int .i64)).toArray) (hl : l.length = n) (hl0 : 0 < n) (hl2 : n ≤ 100)
    (hr : ∀ x ∈ l, lo ≤ x ∧ x ≤ hi) :
    Calls Tryz.prog 17 #[.pointer (some ⟨b, 0, none⟩), .slice (some ⟨s, 0, none⟩) n n] (W0.alloc (.cells A 3)) (SomeInt lo hi 52 B b W0) := by
  subst hA hs
  have hc := (Chg.refl (· < W0.heap.size) W0).alloc (.cells (l.map (Value.int .i64)).toArray 3) (fun k hk => hk)
  refine (pick_x (s := W0.heap.size) (so := 0) lo hi l _ (h.chg hc (by omega)) hB (by simp) hl hl0 hl2 ?_ hr).mono ?_
  · intro j hj
    simp [List.getD, hl, hj]
  · rintro e w' ⟨r, rfl, r0, r1, k1, t1⟩
    exact ⟨r, rfl, r0, r1, (hc.mono (fun k hk => hk.1)).trans (k1.mono (by simp; intro k h1 h2; omega)), t1⟩


/-- a new tape -/
def NewTape (w : World) (e : Ending) (w' : World) : Prop :=
  e = .returned (.pointer (some ⟨w.heap.size, 0, none⟩)) ∧ TP 52 (w.heap.size + 1) w' w.heap.size ∧ Chg (· < w.heap.size) w w'

theorem tape_made {S : Nat → Prop} {n cap m : Nat} {a : Option Addr} {l : List Int} {w : World} (h : Rd 1 encI S w a n l) (hS : ∀ k, S k → k < w.heap.size) (hm : m ≤ n) (hm2 : m ≤ 600) :
    TP 52 (w.heap.size + 1) (w.alloc (.cells #[.slice a m cap, .int .i64 0] 52)) w.heap.size := by
  have hl : (l.take m).length = m := by have := h.1; simp; omega
  rcases Nat.eq_zero_or_pos m with h0 | h0
  · subst h0
    exact ⟨a, cap, 0, 0, 0, [], by simpa using heap_new w _, by omega, by simp, by simp, .inl rfl⟩
  · obtain ⟨x, o, y, rfl, hx, _, _⟩ := h.at (j := 0) (by omega)
    have hx := hS x hx
    refine ⟨_, cap, 0, x, o, l.take m, by rw [hl]; exact heap_new w _, by omega, by omega, by omega, .inr ⟨rfl, by omega, by omega, fun j hj => ?_⟩⟩
    have hj : j < m := by omega
    obtain ⟨x', o', y', e1, _, e3, e4⟩ := h.at (j := j) (by omega)
    cases e1
    have e5 := e4 0 _ rfl
    have e6 : (l.take m).getD j 0 = y' := by simp [List.getD, List.getElem?_take, hj, e3]
    rw [e6]
    rw [World.cell?_of_block (w := w) (Below.heap_alloc w _ _ (by simp; omega))]
    simpa using e5

set_option maxHeartbeats 400000 in
theorem new_x {S : Nat → Prop} (a : Option Addr) (n cap : Nat) (l : List Int) (w : World) (h : Rd 1 encI S w a n l) (hS : ∀ k, S k → k < w.heap.size) (hn : n ≤ cap) (hcap : cap ≤ maxLen) :
    Calls Tryz.prog 7 #[.slice a n cap] w (NewTape w) := by
  unfold maxLen at hcap
  by_cases h6 : 600 < n
  · have hm := tape_made (cap := cap) (m := 600) h hS (by omega) (by omega)
    go_enter Tryz.func7, Tryz.ntmps7
    go_wp2
    go_ret
    exact ⟨rfl, hm, (Chg.refl _ _).alloc _ (by simp)⟩
  · have hm := tape_made (cap := cap) (m := n) h hS (by omega) (by omega)
    go_enter Tryz.func7, Tryz.ntmps7
    go_wp2
    go_ret
    exact ⟨rfl, hm, (Chg.refl _ _).alloc _ (by simp)⟩
end Go.Proofs.YtbnbjiddffihoaaGreatDoor

/- The tape, in the standard forms. -/
namespace Go.Proofs.YtbnbjiddffihoaaGreatDoor
open Go.RowKit

/-- a tape at b -/
def TK (w : World) (b : Nat) : Prop := TP 52 (b + 1) w b
theorem TK.lt {w : World} {b : Nat} (h : TK w b) : b < w.heap.size := by
  obtain ⟨_, _, _, _, _, _, h1, _⟩ := h
  exact heap_lt h1
theorem TK.nx {w w' : World} {b : Nat} (h : TK w b) (k : Ex w w') : TK w' b := TP.chg h k (fun x hx => Nat.lt_of_lt_of_le hx h.lt)
/-- a store behind the tape -/
theorem TK.set {w : World} {b : Nat} (h : TK w b) {p : Addr} (v : Value) (hp : b < p.block) : TK (w.setCell p v) b :=
  TP.chg h ((Chg.refl (· < b + 1) w).setCell v (fun k (hk : k < b + 1) => by omega)) (fun _ hk => hk)
/-- a number below n (0 if there is none) -/
def NumPost (n : Int) (b : Nat) (w : World) (e : Ending) (w' : World) : Prop :=
  ∃ r : Int, e = .returned (.int .i64 r) ∧ 0 ≤ r ∧ r ≤ n ∧ TK w' b ∧ Exb b w w'
theorem next_t {b : Nat} (n : Int) (w : World) (h : TK w b) (h1 : 1 ≤ n) (h2 : n ≤ 9223372036854775807) :
    Calls Tryz.prog 9 #[.pointer (some ⟨b, 0, none⟩), .int .i64 n] w (NumPost (n - 1) b w) := by
  refine (next_x n w h h2).mono ?_
  rintro e w' ⟨r, rfl, r0, r1, k, t⟩
  rw [if_neg (by omega)] at r1
  exact ⟨r, rfl, r0, r1, t, k⟩
/-- one of some numbers that were just written out -/
theorem pick_t {b n s : Nat} (lo hi : Int) (l : List Int) {A : Array Value} {w : World} (h : TK w b) (hs : s = w.heap.size) (hA : A = (l.map (Value.int .i64)).toArray) (hl : l.length = n) (hl0 : 0 < n) (hl2 : n ≤ 100)
    (hr : ∀ x ∈ l, lo ≤ x ∧ x ≤ hi) :
    Calls Tryz.prog 17 #[.pointer (some ⟨b, 0, none⟩), .slice (some ⟨s, 0, none⟩) n n] (w.alloc (.cells A 3)) fun e w' =>
      ∃ r : Int, e = .returned (.int .i64 r) ∧ lo ≤ r ∧ r ≤ hi ∧ TK w' b ∧ Exb b w w' := by
  refine (pick_lit lo hi l h h.lt hs hA hl hl0 hl2 hr).mono ?_
  rintro e w' ⟨r, rfl, r0, r1, k, t⟩
  exact ⟨r, rfl, r0, r1, t, k⟩
theorem new_t (a : Option Addr) (n cap : Nat) (l : List Int) (w : World) (h : Sl 1 encI w a n l) (hn : n ≤ cap) (hcap : cap ≤ maxLen) :
    Calls Tryz.prog 7 #[.slice a n cap] w fun e w' => e = .returned (.pointer (some ⟨w.heap.size, 0, none⟩)) ∧ TK w' w.heap.size ∧ Ex w w' ∧ w.heap.size < w'.heap.size := by
  refine (new_x a n cap l w h (fun _ hk => hk) hn hcap).mono ?_
  rintro e w' ⟨rfl, t, k⟩
  have hlt : w.heap.size < w'.heap.size := by
    obtain ⟨_, _, _, _, _, _, h1, _⟩ := t
    exact heap_lt h1
  exact ⟨rfl, t, k, hlt⟩
end Go.Proofs.YtbnbjiddffihoaaGreatDoor

/- Keys of the tape. -/
namespace Go.Proofs.YtbnbjiddffihoaaGreatDoor
open Go.RowKit

/-- the letters, as they are laid: strings of one byte -/
def LetG (w : World) : Prop := ∀ j, j < 6 → ∃ s : ByteArray, s.size = 1 ∧ w.cell? ⟨0, j, none⟩ = some (.string s)
theorem LetG.lt {w : World} (h : LetG w) : 0 < w.heap.size := by
  obtain ⟨s, _, h⟩ := h 0 (by omega)
  exact World.block_lt_of_cell? w _ h
theorem LetG.nx {w w' : World} (h : LetG w) (k : Ex w w') : LetG w' := fun j hj => by
  obtain ⟨s, h1, h2⟩ := h j hj
  exact ⟨s, h1, Chg.cellv k h2 (World.block_lt_of_cell? w _ h2)⟩
theorem LetG.nxb {b : Nat} {w w' : World} (h : LetG w) (hb : ¬ 0 = b) (k : Exb b w w') : LetG w' := fun j hj => by
  obtain ⟨s, h1, h2⟩ := h j hj
  exact ⟨s, h1, Chg.cellv k h2 ⟨World.block_lt_of_cell? w _ h2, hb⟩⟩

def LongRel (k0 : Nat) (o i : Value) : Prop := ∃ (k : Nat) (s : ByteArray), k ≤ k0 ∧ i = .int .i64 k ∧ o = .string s ∧ s.size = k
set_option maxHeartbeats 400000 in
theorem long_x (s : ByteArray) (n : Nat) (w : World) (hs : s.size = 1) (hn : n ≤ 1000) :
    Calls Tryz.prog 66 #[.string s, .int .i64 n] w fun e w' => (∃ r : ByteArray, e = .returned (.string r) ∧ r.size = n) ∧ w = w' := by
  have HS := Lib.hid hs
  have hs1 : s.size ≤ 1 := Nat.le_of_eq hs
  clear hs
  go_enter Tryz.func66, Tryz.ntmps66
  go_wp2
  go_loop [5, 6] (fun o i => LongRel n o i) (fun _ i => n - (intOf i).toNat)
  case atStart => exact ⟨0, ⟨#[]⟩, by omega, rfl, rfl, rfl⟩
  case round =>
    obtain ⟨k, o, hk, rfl, rfl, ho⟩ := hrel
    have HO := Lib.hid ho
    have ho1 : o.size ≤ 1000 := by omega
    clear ho
    by_cases hlt : k < n
    · go_wp2
      go_round
      case rel => exact ⟨k + 1, _, by omega, by go_num, rfl, by rw [ByteArray.size_append, HO.out, HS.out]⟩
      case measure => simp [intOf]; omega
    · go_wp2
      go_ret
      exact ⟨⟨o, rfl, by rw [HO.out]; omega⟩, rfl⟩

def KeyPost (m b : Nat) (w : World) (e : Ending) (w' : World) : Prop := ∃ s : ByteArray, e = .returned (.string s) ∧ s.size ≤ m ∧ TK w' b ∧ Exb b w w'
def KeyRel (b : Nat) (w : World) (o i : Value) (wr : World) : Prop := ∃ (k : Nat) (s : ByteArray), k ≤ 3 ∧ i = .int .i64 k ∧ o = .string s ∧ s.size + k ≤ 3 ∧ TK wr b ∧ Exb b w wr

set_option maxHeartbeats 1000000 in
theorem key_t {b : Nat} (w : World) (h : TK w b) (hL : LetG w) (hgb : ¬ 0 = b) : Calls Tryz.prog 28 #[.pointer (some ⟨b, 0, none⟩)] w (KeyPost 64 b w) := by
  go_enter Tryz.func28, Tryz.ntmps28
  go_wp2_with fail
  refine (next_t 12 _ h (by omega) (by omega)).mono ?_
  rintro e w1 ⟨r, rfl, r0, r1, T, k1⟩
  have L1 := hL.nxb hgb k1
  clear h hL
  by_cases h10 : r = 10
  · subst h10
    go_wp2_with fail
    refine (next_t 6 _ T (by omega) (by omega)).mono ?_
    clear T
    rintro e w2 ⟨j, rfl, j0, j1, T, k2⟩
    obtain ⟨j, rfl⟩ := Int.eq_ofNat_of_zero_le j0
    obtain ⟨s, hs, hc⟩ := (L1.nxb hgb k2) j (by omega)
    have kk := k1.nxb k2
    have HS := Lib.hid hs
    clear hs k1 k2 L1
    go_wp2_with fail
    refine (long_x s 64 _ HS.out (by omega)).mono ?_
    rintro e w3 ⟨⟨r, rfl, hr⟩, rfl⟩
    have HR := Lib.hid hr
    clear hr
    go_wp2_with fail
    go_ret
    exact ⟨r, rfl, Nat.le_of_eq HR.out, T, kk⟩
  · have d10 : (r == 10) = false := by simp [h10]
    by_cases h11 : r = 11
    · subst h11
      clear h10
      go_wp2_with fail
      go_ret
      exact ⟨⟨#[]⟩, rfl, by simp [ByteArray.size], T, k1⟩
    · have d11 : (r == 11) = false := by simp [h11]
      clear h10 h11
      go_wp2_with fail
      refine (next_t 3 _ T (by omega) (by omega)).mono ?_
      clear T
      rintro e w2 ⟨m, rfl, m0, m1, T, k2⟩
      obtain ⟨m, rfl⟩ := Int.eq_ofNat_of_zero_le m0
      have L2 := L1.nxb hgb k2
      have kk := k1.nxb k2
      clear k1 k2 L1
      go_wp2_with fail
      go_loopw [3, 4] (fun o i wr => KeyRel b w2 o i wr) (fun _ i _ => (intOf i).toNat)
      case atStart => exact ⟨m + 1, ⟨#[]⟩, by omega, congrArg (Value.int .i64) (by omega), rfl, by show 0 + (m + 1) ≤ 3; omega, T, Exb.refl _ _⟩
      case round =>
        clear T
        obtain ⟨k, o, hk, rfl, rfl, ho, T, kw⟩ := hrel
        obtain ⟨wo, rfl⟩ : ∃ wo : World, wo = wr := ⟨_, rfl⟩
        have ho1 : o.size ≤ 3 := by omega
        by_cases hk0 : 0 < k
        · go_wp2_with fail
          refine (next_t 6 _ T (by omega) (by omega)).mono ?_
          clear T
          rintro e w4 ⟨j, rfl, j0, j1, T, k4⟩
          obtain ⟨j, rfl⟩ := Int.eq_ofNat_of_zero_le j0
          obtain ⟨s, hs, hc⟩ := ((L2.nxb hgb kw).nxb hgb k4) j (by omega)
          replace kw := kw.nxb k4
          have HS := Lib.hid hs
          have hs1 : s.size ≤ 1 := Nat.le_of_eq hs
          clear hs k4 L2
          go_wp2_with fail
          refine ⟨⟨k - 1, o ++ s, by omega, ?_, rfl, by rw [ByteArray.size_append, HS.out]; omega, T, kw⟩, by simp [intOf]; omega⟩
          rw [show ((k - 1 : Nat) : Int) = (k : Int) - 1 by omega]
        · clear L2
          go_wp2_with fail
          go_ret
          exact ⟨o, rfl, by omega, T, kk.nxb kw⟩
end Go.Proofs.YtbnbjiddffihoaaGreatDoor

/- A walk over the words that are drawn from a tape. -/
namespace Go.Proofs.YtbnbjiddffihoaaGreatDoor
open Go.RowKit

/-- some word -/
def SomeWord (ty B b : Nat) (w : World) (e : Ending) (w' : World) : Prop :=
  ∃ r : Nat, e = .returned (.int .u32 r) ∧ r < 65536 ∧ Chg (fun k => k < w.heap.size ∧ k ≠ b) w w' ∧ TP ty B w' b

theorem conv_u32 (r : Int) (h0 : 0 ≤ r) (h1 : r < 65536) : ∃ m : Nat, r = m ∧ m < 65536 ∧ IntKind.u32.wrap r = (m : Int) := by
  obtain ⟨m, rfl⟩ := Int.eq_ofNat_of_zero_le h0
  refine ⟨m, rfl, by omega, ?_⟩
  simp [IntKind.wrap, IntKind.signed, IntKind.bits]
  omega

set_option maxHeartbeats 1000000 in
theorem word_x {B b : Nat} (w : World) (h : TP 52 B w b) (hB : B ≤ w.heap.size) :
    Calls Tryz.prog 29 #[.pointer (some ⟨b, 0, none⟩)] w (SomeWord 52 B b w) := by
  go_enter Tryz.func29, Tryz.ntmps29
  go_wp2_with fail
  refine (next_x _ w h (by omega)).mono ?_
  rintro e w1 ⟨r, rfl, r0, r1, k1, t1⟩
  have z1 := k1.size
  by_cases e4 : r = 4
  · subst e4
    go_wp2_with fail
    refine (next_x _ _ t1 (by omega)).mono ?_
    rintro e w2 ⟨s, rfl, s0, s1, k2, t2⟩
    rw [if_neg (by omega)] at s1
    obtain ⟨m, rfl, hm, hw⟩ := conv_u32 s s0 (by omega)
    go_wp2_with fail
    go_ret
    exact ⟨m, rfl, hm, k1.then k2 (by intro k hk; omega), t2⟩
  · have d4 : (r == 4) = false := by simp [e4]
    by_cases e5 : r = 5
    · subst e5
      go_wp2_with fail
      refine (pick_lit 0 65535 [0, 65535, 32768] t1 (by omega) (by simp) (by rfl) (by rfl) (by omega) (by omega) (by simp)).mono ?_
      rintro e w2 ⟨s, rfl, s0, s1, k2, t2⟩
      obtain ⟨m, rfl, hm, hw⟩ := conv_u32 s s0 (by omega)
      go_wp2_with fail
      go_ret
      exact ⟨m, rfl, hm, k1.then k2 (by intro k hk; omega), t2⟩
    · have d5 : (r == 5) = false := by simp [e5]
      clear e4 e5
      go_wp2_with fail
      refine (next_x _ _ t1 (by omega)).mono ?_
      rintro e w2 ⟨s, rfl, s0, s1, k2, t2⟩
      rw [if_neg (by omega)] at s1
      obtain ⟨m, rfl, hm, hw⟩ := conv_u32 s s0 (by omega)
      go_wp2_with fail
      go_ret
      exact ⟨m, rfl, hm, k1.then k2 (by intro k hk; omega), t2⟩
end Go.Proofs.YtbnbjiddffihoaaGreatDoor

/- Rosters of the tape. -/
namespace Go.Proofs.YtbnbjiddffihoaaGreatDoor
open Go.RowKit

theorem word_t {b : Nat} (w : World) (h : TK w b) : Calls Tryz.prog 29 #[.pointer (some ⟨b, 0, none⟩)] w fun e w' => ∃ m : Nat, e = .returned (.int .u32 m) ∧ m < 65536 ∧ TK w' b ∧ Exb b w w' :=
  (word_x w h h.lt).mono fun e w' ⟨m, he, hm, k, t⟩ => ⟨m, he, hm, t, k⟩

/-- a roster that was just made -/
structure RosterOf (n b : Nat) (w w' : World) (v : Value) (L : List Nd) : Prop where
  own : OwnL 3 encN 57 w.heap.size w' v L
  len : L.length ≤ n
  ok : checkN L = 0
  word : ∀ x ∈ L, x.word < 65536
  tape : TK w' b
  k : Exb b w w'
def RosRel (n b : Nat) (w : World) (o i : Value) (wr : World) : Prop := ∃ (k : Nat) (L : List Nd), L.length + k ≤ n ∧ i = .int .i64 k ∧ RosterOf n b w wr o L

set_option maxRecDepth 100000 in
set_option maxHeartbeats 2000000 in
theorem roster_t {b : Nat} (n : Nat) (w : World) (h : TK w b) (hL : LetG w) (hgb : ¬ 0 = b) (hn0 : 1 ≤ n) (hn : n ≤ 60) :
    Calls Tryz.prog 8 #[.pointer (some ⟨b, 0, none⟩), .int .i64 n] w fun e w' => ∃ v L, e = .returned v ∧ RosterOf n b w w' v L := by
  have hbw := h.lt
  go_enter Tryz.func8, Tryz.ntmps8
  go_wp2_with fail
  refine (next_t ((n : Int) + 1) _ h (by omega) (by omega)).mono ?_
  clear h
  rintro e w1 ⟨k, rfl, k0, k1, T, kk⟩
  obtain ⟨k, rfl⟩ := Int.eq_ofNat_of_zero_le k0
  go_wp2_with fail
  go_loopw [5, 6] (fun o i wr => RosRel n b w o i wr) (fun _ i _ => (intOf i).toNat)
  case atStart => exact ⟨k, [], by simp; omega, rfl, OwnL.nil _ _ _ _ _, by simp, by decide, by simp, T, kk⟩
  case round =>
    clear T kk
    obtain ⟨q, L, hq, rfl, R⟩ := hrel
    obtain ⟨wo, rfl⟩ : ∃ wo : World, wo = wr := ⟨_, rfl⟩
    have T := R.tape
    by_cases hq0 : 0 < q
    · have L1 := hL.nxb hgb R.k
      clear hL
      have R := Lib.hid R
      go_wp2_with fail
      refine (next_t (3 * (n : Int)) _ T (by omega) (by omega)).mono ?_
      clear T
      rintro e w2 ⟨d, rfl, d0, d1, T, k2⟩
      have L2 := L1.nxb hgb k2
      clear L1
      go_wp2_with fail
      refine (key_t _ T L2 hgb).mono ?_
      clear T
      rintro e w3 ⟨s, rfl, hs, T, k3⟩
      replace k2 := k2.nxb k3
      clear L2 k3
      go_wp2_with fail
      refine (word_t _ T).mono ?_
      clear T
      rintro e w4 ⟨m, rfl, hm, T, k4⟩
      replace k2 := k2.nxb k4
      clear k4
      have B4 := Blk.new w4 [.int .i64 (1 + d), .string s, .int .u32 m] 57
      have e4 := Ex.new w4 (.cells #[.int .i64 (1 + d), .string s, .int .u32 m] 57)
      obtain ⟨w5, hw5⟩ : ∃ w5, w5 = w4.alloc (.cells #[.int .i64 (1 + d), .string s, .int .u32 m] 57) := ⟨_, rfl⟩
      obtain ⟨g, hg⟩ : ∃ g, g = w4.heap.size := ⟨_, rfl⟩
      have B4 : Blk w5 g [.int .i64 (1 + d), .string s, .int .u32 m] 57 := by rw [hw5, hg]; exact B4
      rw [← hw5] at e4
      replace T := T.nx e4
      replace k2 := k2.nxb (e4.b b)
      have HW := Lib.hid hw5
      have HG := Lib.hid hg
      clear hw5 hg e4
      go_wp2_with fail
      rw [← HG.out, ← HW.out]
      have own5 := R.out.own.nxb hbw k2
      obtain ⟨A5, C5, rfl, s5, o5, m5, nil5⟩ := own5.slf (fun _ => rfl)
      have lenL : L.length ≤ 60 := by omega
      have NIL := Lib.hid nil5
      have O5 := Lib.hid own5
      have S5 : Sl 3 encN w5 A5 L.length L := s5.sl
      clear s5 nil5 own5
      obtain ⟨X, hX⟩ : ∃ X : Nd, X = ⟨1 + d, s, m⟩ := ⟨_, rfl⟩
      have SXF : ∀ cur, Ex w5 cur → Sl 3 encN (cur.alloc (.cells #[.int .i64 (1 + d), .string s, .int .u32 m] 57)) (some ⟨cur.heap.size, 0, none⟩) 1 [X] := fun cur _ => by rw [hX]; exact Sl.lit _ rfl rfl (fun _ => rfl) rfl
      have OWN0 : ∀ cur, Ex w5 cur → OwnL 3 encN 57 w5.heap.size cur (.slice none 0 0) [] := fun _ _ => OwnL.nil _ _ _ _ _
      have HX := Lib.hid hX
      have S5F := fun cur (h : Ex w5 cur) => S5.nx h
      have hX3 : m < 65536 := hm
      clear hX S5 hm d0 d1 hs
      refine wp_region_held_drew (S := Ex w5) (by kernel_rfl) ((Ex.refl w5).drew) (fun hHeld => ?_)
      refine wpAnyH_take (i := 0) (oi := ⟨some 26, .move (.tmp 5), 23, "tape.go:132", #[], none⟩) (v := ?_) rfl (by kernel_rfl) (by kernel_rfl) (by kernel_rfl) (fun _ _ _ h => h) (Or.inl ⟨by rfl, ?hyr1x0q1⟩) (by assumption) ?restr1x0q1
      case hyr1x0q1 => intro wq hSw; (go_simp); (try with_reducible rfl)
      try simp only [Act.put, List.setIfInBounds_toArray, List.set_cons_zero, List.set_cons_succ]
      refine wpAnyH_take (i := 2) (oi := ⟨some 28, .load 57 (.tmp 7), 57, "tape.go:132", #[], none⟩) (v := ?_) rfl (by kernel_rfl) (by kernel_rfl) (by kernel_rfl) (fun _ _ _ h => h) (Or.inl ⟨by rfl, ?hyr1x2q4⟩) (by assumption) ?restr1x2q4
      case hyr1x2q4 => intro wq hSw; (have cq := (B4.nx hSw).cell 0 _ rfl; have cq1 := (B4.nx hSw).cell 1 _ rfl; have cq2 := (B4.nx hSw).cell 2 _ rfl; go_simp); (try with_reducible rfl)
      try simp only [Act.put, List.setIfInBounds_toArray, List.set_cons_zero, List.set_cons_succ]
      refine wpAnyH_ready (rs := [1, 3]) (by kernel_rfl) (by simp) ?_
      refine AllReadyH.cons (o := ⟨some 27, .call { callee := .builtin .append, args := #[.const (.slice none 0 0), .tmp 26], argTypes := #[23, 23] }, 23, "tape.go:132", #[⟨0, .data⟩], none⟩) rfl (fun K hK => ?_) ?_
      · rw [if_pos (by rfl)]
        have own0 := OWN0 _ hHeld
        have s0 := S5F _ hHeld
        have z0 := Ex.size hHeld
        refine wp_append_rd (enc := encN) _ (.const (.slice none 0 0)) (.tmp 26) 23 rfl w5.heap.size 57 (.agg #[.int .i64 0, .string ByteArray.empty, .int .u32 0]) 3 32 Tryz.underlying23 Tryz.infoN rfl (by omega) (by omega) _ [] own0 rfl _ A5 L.length C5 L s0 NIL.out (fun _ => rfl) (by simp [encN, Value.oneCell']) rfl (by simp) (by omega) z0 ?_
        intro v6 w6 own6 ch0 ch1
        have j6 : Ex w5 w6 := Chg.trans hHeld ch1
        (try replace SX := SX.nx (Chg.mono ch0 (fun k hk => ⟨hk, by simp [Value.ownBlock]⟩)))
        clear own0 s0 z0 ch0 ch1
        refine hK.out _ _ (j6) (fun hHeld => ?_)
        clear hK K
        try simp only [Act.put, List.setIfInBounds_toArray, List.set_cons_zero, List.set_cons_succ]
        refine wpAnyH_ready (rs := [3]) (by kernel_rfl) (by simp) ?_
        refine AllReadyH.cons (o := ⟨some 29, .buildSlice 23 1 #[(0, .tmp 28)], 23, "tape.go:132", #[⟨2, .data⟩], none⟩) rfl (fun K hK => ?_) AllReadyH.nil
        go_simp
        have SX := SXF _ hHeld
        have j6 := hHeld.alloc (.cells #[.int .i64 (1 + d), .string s, .int .u32 m] 57)
        (try replace own6 := own6.alloc (.cells #[.int .i64 (1 + d), .string s, .int .u32 m] 57))
        refine hK.out _ _ (j6) (fun hHeld => ?_)
        clear hK K
        try simp only [Act.put, List.setIfInBounds_toArray, List.set_cons_zero, List.set_cons_succ]
        refine wpAnyH_ready (rs := [4]) (by kernel_rfl) (by simp) ?_
        refine AllReadyH.cons (o := ⟨some 30, .call { callee := .builtin .append, args := #[.tmp 27, .tmp 29], argTypes := #[23, 23] }, 23, "tape.go:132", #[⟨1, .data⟩, ⟨3, .data⟩, ⟨1, .chain⟩], none⟩) rfl (fun K hK => ?_) AllReadyH.nil
        rw [if_pos (by rfl)]
        have z0 := Ex.size hHeld
        refine wp_append_rd (enc := encN) _ (.tmp 27) (.tmp 29) 23 rfl w5.heap.size 57 (.agg #[.int .i64 0, .string ByteArray.empty, .int .u32 0]) 3 32 Tryz.underlying23 Tryz.infoN rfl (by omega) (by omega) _ ([] ++ L) own6 rfl _ _ 1 1 [X] SX (fun h => by cases h) (fun _ => rfl) (by simp [encN, Value.oneCell']) rfl (by rw [List.nil_append]; omega) (by omega) z0 ?_
        intro v7 w7 own7 ch0 ch1
        have j7 : Ex w5 w7 := Chg.trans hHeld ch1
        rw [List.nil_append] at own7
        obtain ⟨L7, h7⟩ : ∃ L7, L7 = L ++ [X] := ⟨_, rfl⟩
        rw [← h7] at own7
        have l7 : L7.length ≤ 61 := by rw [h7, List.length_append, List.length_singleton]; omega
        have H7 := Lib.hid h7
        clear h7
        obtain ⟨A7, C7, rfl, s7, _, _, _⟩ := own7.slf (fun _ => rfl)
        have s7 := s7.sl
        clear own7 own6 SX z0 ch0 ch1
        refine hK.out _ _ (j7) (fun hHeld => ?_)
        clear hK K
        try simp only [Act.put, List.setIfInBounds_toArray, List.set_cons_zero, List.set_cons_succ]
        refine wpAnyH_ready (rs := [5]) (by kernel_rfl) (by simp) ?_
        refine AllReadyH.cons (o := ⟨some 31, .call { callee := .value (.func 30), args := #[.tmp 30], argTypes := #[23] }, 4, "tape.go:132", #[⟨4, .data⟩, ⟨4, .chain⟩], none⟩) rfl (fun K hK => ?_) AllReadyH.nil
        go_simp
        (with_reducible refine (is_r _ _ _ _ _ s7 (by omega)).mono ?_)
        rintro e w8 ⟨rfl, kk⟩
        have j8 := hHeld.nx kk
        clear kk s7
        refine hK.out _ _ (j8) (fun hHeld => ?_)
        clear hK K
        try simp only [Act.put, List.setIfInBounds_toArray, List.set_cons_zero, List.set_cons_succ]
        refine wpAnyH_done (by kernel_rfl) ?_ _
        replace T := T.nx hHeld
        have own8 := O5.out.nx hHeld
        have B8 := B4.nx hHeld
        have k8 := k2.nxb (hHeld.b b)
        have c0 := B8.cell 0 _ rfl
        have c1 := B8.cell 1 _ rfl
        have c2 := B8.cell 2 _ rfl
        have k9 := R.out.k.nxb k8
        have z8 := k9.size
        clear hHeld B8 B4 SXF OWN0 S5F j6 j7 j8 s7 k8 l7
        cases hc : (checkN L7 == 0) with
        | true =>
          have HCK : Hid (checkN (L ++ [X]) = 0) := Lib.hid (by rw [← H7.out]; simpa using hc)
          clear hc
          go_wp2_with (at_builtin; (refine wpList_append_lit (enc := encN) w8 rfl _ _ 23 rfl w.heap.size 57 (.agg #[.int .i64 0, .string ByteArray.empty, .int .u32 0]) 3 32 Tryz.underlying23 Tryz.infoN rfl (by omega) (by omega) _ _ own8 rfl X _ (by rw [HX.out]; rfl) rfl (by simp [encN, Value.oneCell']) _ (by simp) rfl (by omega) (by omega) _ ?_); intro v9 w9 own9 _ ch1 _)
          refine ⟨⟨q - 1, L ++ [X], by simp; omega, by rw [show ((q - 1 : Nat) : Int) = (q : Int) - 1 by omega], own9, by simp; omega, HCK.out, ?_, TP.chg T ch1 (fun x hx => by omega), Chg.trans k9 (ch1.mono (fun x hx => hx.1))⟩, by simp [intOf]; omega⟩
          intro x hx
          rcases List.mem_append.1 hx with hx | hx
          · exact R.out.word x hx
          · rw [List.mem_singleton.1 hx, HX.out]; exact hX3
        | false =>
          clear hc
          go_wp2_with fail
          exact ⟨⟨q - 1, L, by omega, by rw [show ((q - 1 : Nat) : Int) = (q : Int) - 1 by omega], own8, by omega, R.out.ok, R.out.word, T, k9⟩, by simp [intOf]; omega⟩
      refine AllReadyH.cons (o := ⟨some 29, .buildSlice 23 1 #[(0, .tmp 28)], 23, "tape.go:132", #[⟨2, .data⟩], none⟩) rfl (fun K hK => ?_) AllReadyH.nil
      · go_simp
        have SX := SXF _ hHeld
        have j6 := hHeld.alloc (.cells #[.int .i64 (1 + d), .string s, .int .u32 m] 57)
        (try replace own6 := own6.alloc (.cells #[.int .i64 (1 + d), .string s, .int .u32 m] 57))
        refine hK.out _ _ (j6) (fun hHeld => ?_)
        clear hK K
        try simp only [Act.put, List.setIfInBounds_toArray, List.set_cons_zero, List.set_cons_succ]
        refine wpAnyH_ready (rs := [1]) (by kernel_rfl) (by simp) ?_
        refine AllReadyH.cons (o := ⟨some 27, .call { callee := .builtin .append, args := #[.const (.slice none 0 0), .tmp 26], argTypes := #[23, 23] }, 23, "tape.go:132", #[⟨0, .data⟩], none⟩) rfl (fun K hK => ?_) AllReadyH.nil
        rw [if_pos (by rfl)]
        have own0 := OWN0 _ hHeld
        have s0 := S5F _ hHeld
        have z0 := Ex.size hHeld
        refine wp_append_rd (enc := encN) _ (.const (.slice none 0 0)) (.tmp 26) 23 rfl w5.heap.size 57 (.agg #[.int .i64 0, .string ByteArray.empty, .int .u32 0]) 3 32 Tryz.underlying23 Tryz.infoN rfl (by omega) (by omega) _ [] own0 rfl _ A5 L.length C5 L s0 NIL.out (fun _ => rfl) (by simp [encN, Value.oneCell']) rfl (by simp) (by omega) z0 ?_
        intro v6 w6 own6 ch0 ch1
        have j6 : Ex w5 w6 := Chg.trans hHeld ch1
        (try replace SX := SX.nx (Chg.mono ch0 (fun k hk => ⟨hk, by simp [Value.ownBlock]⟩)))
        clear own0 s0 z0 ch0 ch1
        refine hK.out _ _ (j6) (fun hHeld => ?_)
        clear hK K
        try simp only [Act.put, List.setIfInBounds_toArray, List.set_cons_zero, List.set_cons_succ]
        refine wpAnyH_ready (rs := [4]) (by kernel_rfl) (by simp) ?_
        refine AllReadyH.cons (o := ⟨some 30, .call { callee := .builtin .append, args := #[.tmp 27, .tmp 29], argTypes := #[23, 23] }, 23, "tape.go:132", #[⟨1, .data⟩, ⟨3, .data⟩, ⟨1, .chain⟩], none⟩) rfl (fun K hK => ?_) AllReadyH.nil
        rw [if_pos (by rfl)]
        have z0 := Ex.size hHeld
        refine wp_append_rd (enc := encN) _ (.tmp 27) (.tmp 29) 23 rfl w5.heap.size 57 (.agg #[.int .i64 0, .string ByteArray.empty, .int .u32 0]) 3 32 Tryz.underlying23 Tryz.infoN rfl (by omega) (by omega) _ ([] ++ L) own6 rfl _ _ 1 1 [X] SX (fun h => by cases h) (fun _ => rfl) (by simp [encN, Value.oneCell']) rfl (by rw [List.nil_append]; omega) (by omega) z0 ?_
        intro v7 w7 own7 ch0 ch1
        have j7 : Ex w5 w7 := Chg.trans hHeld ch1
        rw [List.nil_append] at own7
        obtain ⟨L7, h7⟩ : ∃ L7, L7 = L ++ [X] := ⟨_, rfl⟩
        rw [← h7] at own7
        have l7 : L7.length ≤ 61 := by rw [h7, List.length_append, List.length_singleton]; omega
        have H7 := Lib.hid h7
        clear h7
        obtain ⟨A7, C7, rfl, s7, _, _, _⟩ := own7.slf (fun _ => rfl)
        have s7 := s7.sl
        clear own7 own6 SX z0 ch0 ch1
        refine hK.out _ _ (j7) (fun hHeld => ?_)
        clear hK K
        try simp only [Act.put, List.setIfInBounds_toArray, List.set_cons_zero, List.set_cons_succ]
        refine wpAnyH_ready (rs := [5]) (by kernel_rfl) (by simp) ?_
        refine AllReadyH.cons (o := ⟨some 31, .call { callee := .value (.func 30), args := #[.tmp 30], argTypes := #[23] }, 4, "tape.go:132", #[⟨4, .data⟩, ⟨4, .chain⟩], none⟩) rfl (fun K hK => ?_) AllReadyH.nil
        go_simp
        (with_reducible refine (is_r _ _ _ _ _ s7 (by omega)).mono ?_)
        rintro e w8 ⟨rfl, kk⟩
        have j8 := hHeld.nx kk
        clear kk s7
        refine hK.out _ _ (j8) (fun hHeld => ?_)
        clear hK K
        try simp only [Act.put, List.setIfInBounds_toArray, List.set_cons_zero, List.set_cons_succ]
        refine wpAnyH_done (by kernel_rfl) ?_ _
        replace T := T.nx hHeld
        have own8 := O5.out.nx hHeld
        have B8 := B4.nx hHeld
        have k8 := k2.nxb (hHeld.b b)
        have c0 := B8.cell 0 _ rfl
        have c1 := B8.cell 1 _ rfl
        have c2 := B8.cell 2 _ rfl
        have k9 := R.out.k.nxb k8
        have z8 := k9.size
        clear hHeld B8 B4 SXF OWN0 S5F j6 j7 j8 s7 k8 l7
        cases hc : (checkN L7 == 0) with
        | true =>
          have HCK : Hid (checkN (L ++ [X]) = 0) := Lib.hid (by rw [← H7.out]; simpa using hc)
          clear hc
          go_wp2_with (at_builtin; (refine wpList_append_lit (enc := encN) w8 rfl _ _ 23 rfl w.heap.size 57 (.agg #[.int .i64 0, .string ByteArray.empty, .int .u32 0]) 3 32 Tryz.underlying23 Tryz.infoN rfl (by omega) (by omega) _ _ own8 rfl X _ (by rw [HX.out]; rfl) rfl (by simp [encN, Value.oneCell']) _ (by simp) rfl (by omega) (by omega) _ ?_); intro v9 w9 own9 _ ch1 _)
          refine ⟨⟨q - 1, L ++ [X], by simp; omega, by rw [show ((q - 1 : Nat) : Int) = (q : Int) - 1 by omega], own9, by simp; omega, HCK.out, ?_, TP.chg T ch1 (fun x hx => by omega), Chg.trans k9 (ch1.mono (fun x hx => hx.1))⟩, by simp [intOf]; omega⟩
          intro x hx
          rcases List.mem_append.1 hx with hx | hx
          · exact R.out.word x hx
          · rw [List.mem_singleton.1 hx, HX.out]; exact hX3
        | false =>
          clear hc
          go_wp2_with fail
          exact ⟨⟨q - 1, L, by omega, by rw [show ((q - 1 : Nat) : Int) = (q : Int) - 1 by omega], own8, by omega, R.out.ok, R.out.word, T, k9⟩, by simp [intOf]; omega⟩
    · clear hL T
      go_wp2_with fail
      go_ret
      exact ⟨_, L, rfl, R⟩
end Go.Proofs.YtbnbjiddffihoaaGreatDoor

/- Bool of the tape, in the standard forms. -/
namespace Go.Proofs.YtbnbjiddffihoaaGreatDoor
open Go.RowKit
set_option maxHeartbeats 400000 in
theorem bool_t {b : Nat} (n : Int) (w : World) (h : TK w b) (h1 : 1 ≤ n) (h2 : n ≤ 1000000) :
    Calls Tryz.prog 11 #[.pointer (some ⟨b, 0, none⟩), .int .i64 n] w fun e w' => ∃ r : Bool, e = .returned (.bool r) ∧ TK w' b ∧ Exb b w w' := by
  go_enter Tryz.func11, Tryz.ntmps11
  go_wp2_with fail
  refine (next_t n _ h h1 (by omega)).mono ?_
  rintro e w1 ⟨r, rfl, r0, r1, t1, k1⟩
  go_wp2_with fail
  go_ret
  exact ⟨_, rfl, t1, k1⟩
end Go.Proofs.YtbnbjiddffihoaaGreatDoor

/- Numbers, keys, heights of the tape. -/
namespace Go.Proofs.YtbnbjiddffihoaaGreatDoor
open Go.RowKit

def I64 (x : Int) : Prop := -9223372036854775808 ≤ x ∧ x ≤ 9223372036854775807
set_option maxHeartbeats 1000000 in
theorem id_t {b : Nat} (a : Option Addr) (n cp : Nat) (l : List Nd) (w : World) (h : TK w b) (hs : Slb 3 encN b w a n l) (hn : n ≤ 1000) (hi : ∀ x ∈ l, I64 x.id) :
    Calls Tryz.prog 68 #[.pointer (some ⟨b, 0, none⟩), .slice a n cp] w fun e w' => ∃ r : Int, e = .returned (.int .i64 r) ∧ I64 r ∧ TK w' b ∧ Exb b w w' := by
  have HI := Lib.hid hi
  have hlen := Lib.hid hs.len
  clear hi
  go_enter Tryz.func68, Tryz.ntmps68
  by_cases hn0 : n = 0
  · have d0 : ((n : Int) == 0) = true := by simp; omega
    clear hs
    go_wp2_with fail
    refine (pick_t (n := 5) (-1) 4611686018427387904 [0, -1, 999, 4611686018427387904, 1] h rfl rfl rfl (by omega) (by omega) (by intro x hx; simp at hx; omega)).mono ?_
    clear h
    rintro e w2 ⟨r, rfl, r0, r1, T, kk⟩
    go_wp2_with fail
    go_ret
    exact ⟨r, rfl, ⟨by omega, by omega⟩, T, kk⟩
  · have d0 : ((n : Int) == 0) = false := by simp; omega
    have hnp : 0 < n := by omega
    clear hn0
    go_wp2_with fail
    refine (bool_t 8 _ h (by omega) (by omega)).mono ?_
    clear h
    rintro e w1 ⟨r, rfl, T, kk⟩
    cases r with
    | true =>
      clear hs
      go_wp2_with fail
      refine (pick_t (n := 5) (-1) 4611686018427387904 [0, -1, 999, 4611686018427387904, 1] T rfl rfl rfl (by omega) (by omega) (by intro x hx; simp at hx; omega)).mono ?_
      clear T
      rintro e w2 ⟨r, rfl, r0, r1, T, k2⟩
      have kk := kk.nxb k2
      clear k2
      go_wp2_with fail
      go_ret
      exact ⟨r, rfl, ⟨by omega, by omega⟩, T, kk⟩
    | false =>
      have S1 := hs.nxb kk
      clear hs
      go_wp2_with fail
      refine (next_t (n : Int) _ T (by omega) (by omega)).mono ?_
      clear T
      rintro e w2 ⟨j, rfl, j0, j1, T, k2⟩
      obtain ⟨j, rfl⟩ := Int.eq_ofNat_of_zero_le j0
      have S2 := S1.nxb k2
      have kk := kk.nxb k2
      obtain ⟨x, o, y, rfl, hx, hy, hc⟩ := S2.sl.at (j := j) (by omega)
      have e0 : w2.cell? ⟨x, o + j * 3, none⟩ = some (.int .i64 y.id) := hc 0 _ rfl
      have hyi := Lib.hid (HI.out y (List.mem_of_getElem? hy))
      have hjn : (j : Int) < (n : Int) := by omega
      clear k2 S1 S2 hc hy
      go_wp2_with fail
      go_ret
      exact ⟨y.id, rfl, hyi.out, T, kk⟩

end Go.Proofs.YtbnbjiddffihoaaGreatDoor

/- OddRoster of the tape. -/
namespace Go.Proofs.YtbnbjiddffihoaaGreatDoor
open Go.RowKit

theorem flat_set1 {α : Type} {sz : Nat} {enc : α → List Value} (hsz : ∀ y, (enc y).length = sz) {c : Nat} (hc : c < sz) {y' : α} {v : Value} :
    ∀ (L : List α) (j : Nat) (y : α), L[j]? = some y → enc y' = (enc y).set c v → (L.set j y').flatMap enc = (L.flatMap enc).set (j * sz + c) v
  | [], j, y, h, _ => by simp at h
  | z :: r, 0, y, h, hv => by
    simp at h; subst h
    rw [List.set_cons_zero, List.flatMap_cons, List.flatMap_cons, hv, Nat.zero_mul, Nat.zero_add, List.set_append_left _ _ (by rw [hsz]; exact hc)]
  | z :: r, j + 1, y, h, hv => by
    rw [List.set_cons_succ, List.flatMap_cons, List.flatMap_cons, flat_set1 hsz hc r j y (by simpa using h) hv, List.set_append_right _ _ (by rw [hsz, Nat.succ_mul]; omega), hsz]
    congr 2
    rw [Nat.succ_mul]; omega
theorem own_set1 {α : Type} {sz : Nat} {enc : α → List Value} (hsz : ∀ y, (enc y).length = sz) {e : TypeId} {base : Nat} {w : World} {g n cap j c : Nat} {L : List α} {y : α} (h : OwnL sz enc e base w (.slice (some ⟨g, 0, none⟩) n cap) L)
    (hy : L[j]? = some y) (hc : c < sz) : w.cell? ⟨g, j * sz + c, none⟩ = (enc y)[c]? ∧ w.frozen? ⟨g, j * sz + c, none⟩ = false ∧
      ∀ (y' : α) (v : Value), enc y' = (enc y).set c v → OwnL sz enc e base (w.setCell ⟨g, j * sz + c, none⟩ v) (.slice (some ⟨g, 0, none⟩) n cap) (L.set j y') := by
  rcases h.2 with ⟨h1, _⟩ | ⟨g', cap', cur, e1, e2, e3, e4, e5, e6, e7⟩
  · cases h1
  · obtain ⟨rfl, hLn, rfl⟩ : g = g' ∧ n = L.length ∧ cap = cap' := by simpa using e1
    have hjl := (List.getElem?_eq_some_iff.1 hy).1
    have hlt : j * sz + c < L.length * sz := by
      have : (j + 1) * sz ≤ L.length * sz := Nat.mul_le_mul_right _ hjl
      rw [Nat.succ_mul] at this; omega
    refine ⟨?_, by simp [World.frozen?, e3], fun y' v hv => ⟨?_, .inr ⟨g, cap, _, by simp [hLn], e2, heap_set e3 _ v, by simpa using e4, e5, by simpa using e6, ?_⟩⟩⟩
    · have h2 : (cur.toList.take (L.length * sz))[j * sz + c]? = (enc y)[c]? := by
        rw [e7]
        have hcy : c < (enc y).length := by rw [hsz]; exact hc
        rw [List.getElem?_eq_getElem hcy]
        exact flat_at hsz L j y hy c _ (List.getElem?_eq_getElem hcy)
      rw [List.getElem?_take, if_pos hlt] at h2
      simpa [World.cell?, e3] using h2
    · rw [flatN_len hsz]
    · rw [flat_set1 hsz hc L j y hy hv, ← e7, List.length_set]
      simp only [Array.toList_setIfInBounds, List.take_set]

/-- what the encodings ask of a node -/
def NOk (x : Nd) : Prop := I64 x.id ∧ x.word < 4294967296 ∧ x.key.size ≤ 65
theorem roster_ok {l : List Nd} (h : checkN l = 0) : ∀ x ∈ l, NOk x ∧ 1 ≤ x.id ∧ x.id ≤ 2147483647 ∧ x.key.size ≤ 64 ∧ x.word < 65536 := by
  intro x hx
  have hb : badN x = false := by
    cases hb : badN x with
    | false => rfl
    | true =>
      exfalso
      unfold checkN at h
      have : l.any badN = true := List.any_eq_true.2 ⟨x, hx, hb⟩
      rw [this] at h
      split at h <;> simp at h
  unfold badN validN at hb
  simp at hb
  obtain ⟨⟨⟨h1, h2⟩, h3⟩, h4⟩ := hb
  exact ⟨⟨⟨by omega, by omega⟩, by omega, by omega⟩, by omega, by omega, by omega, by omega⟩
structure OddOf (n b : Nat) (w w' : World) (v : Value) (L : List Nd) : Prop where
  own : OwnL 3 encN 57 w.heap.size w' v L
  len : L.length ≤ n + 1
  ok : ∀ x ∈ L, NOk x
  tape : TK w' b
  k : Exb b w w'
end Go.Proofs.YtbnbjiddffihoaaGreatDoor

/- The memory of Build of the package ideal: rows of links that are written link by link. -/
namespace Go.Proofs.YtbnbjiddffihoaaGreatDoor
open Go.RowKit

/-- a block of one of the lists within -/
def InQ (qs : List (Int × Hdr)) (k : Nat) : Prop := ∃ (j : Nat) (r : Int × Hdr), qs[j]? = some r ∧ r.2.val.ownBlock = some k
/-- all that was there is as it was, but perhaps the lists within -/
def Exq (qs : List (Int × Hdr)) (w w' : World) : Prop := Chg (fun k => k < w.heap.size ∧ ¬ InQ qs k) w w'
theorem Exq.refl (qs : List (Int × Hdr)) (w : World) : Exq qs w w := Chg.refl _ w
theorem Exq.size {qs : List (Int × Hdr)} {w w' : World} (k : Exq qs w w') : w.heap.size ≤ w'.heap.size := Chg.size k
theorem Exq.nxq {qs : List (Int × Hdr)} {w w1 w2 : World} (h : Exq qs w w1) (k : Exq qs w1 w2) : Exq qs w w2 := Chg.trans h (Chg.mono k (fun _ hk => ⟨Nat.lt_of_lt_of_le hk.1 h.size, hk.2⟩))
theorem Exq.nx {qs : List (Int × Hdr)} {w w1 w2 : World} (h : Exq qs w w1) (k : Ex w1 w2) : Exq qs w w2 := Chg.trans h (Chg.mono k (fun _ hk => Nat.lt_of_lt_of_le hk.1 h.size))
theorem Exq.of_ex {qs : List (Int × Hdr)} {w w' : World} (k : Ex w w') : Exq qs w w' := Chg.mono k (fun _ hk => hk.1)
theorem Exq.set {qs : List (Int × Hdr)} {w w' : World} (h : Exq qs w w') {p : Addr} (v : Value) (hp : InQ qs p.block) : Exq qs w (w'.setCell p v) := Chg.setCell h v (fun k hk he => hk.2 (he ▸ hp))
theorem inQ_base {base : Nat} {w : World} {v : Value} {qs : List (Int × Hdr)} {L : List Lkd} (h : OwnLk base w v qs L) {k : Nat} (hk : InQ qs k) : base ≤ k ∧ k < w.heap.size := by
  obtain ⟨j, r, hr, hg⟩ := hk
  exact ⟨(OwnN.blk h hr hg).1, OwnN.lt h hr hg⟩
theorem inQ_ne {base : Nat} {w : World} {v : Value} {qs : List (Int × Hdr)} {L : List Lkd} (h : OwnLk base w v qs L) {k : Nat} (hk : v.ownBlock = some k) : ¬ InQ qs k := by
  rintro ⟨j, r, hr, hg⟩
  exact OwnN.ne (by decide) h hr hg hk
/-- lists of numbers that lie in T -/
def ILt (T : Nat → Prop) (w : World) (a : Option Addr) (n : Nat) (M : List (List Int)) : Prop :=
  ∃ hs : List (Unit × Hdr), Rd 1 (encP enc0) T w a n hs ∧ M.length = n ∧ ∀ (j : Nat) (q : Unit × Hdr) (c : List Int), hs[j]? = some q → M[j]? = some c → Rd 1 encI T w q.2.1 q.2.2.1 c
theorem ILt.chg {T : Nat → Prop} {w w' : World} {a : Option Addr} {n : Nat} {M : List (List Int)} (h : ILt T w a n M) (k : Chg T w w') : ILt T w' a n M := by
  obtain ⟨hs, h1, h2, h3⟩ := h
  exact ⟨hs, Rd.chg h1 k (fun _ x => x), h2, fun j q c hq hc => Rd.chg (h3 j q c hq hc) k (fun _ x => x)⟩
theorem ILt.at {T : Nat → Prop} {w : World} {a : Option Addr} {n : Nat} {M : List (List Int)} (h : ILt T w a n M) {j : Nat} (hj : j < n) :
    ∃ x o a' n' c' c, a = some ⟨x, o, none⟩ ∧ T x ∧ M[j]? = some c ∧ w.cell? ⟨x, o + j, none⟩ = some (.slice a' n' c') ∧ Rd 1 encI T w a' n' c := by
  obtain ⟨hs, h1, h2, h3⟩ := h
  obtain ⟨x, o, q, e, hx, hq, hc⟩ := Rd.at h1 hj
  obtain ⟨c, hcc⟩ : ∃ c, M[j]? = some c := ⟨M[j]'(by omega), by simp⟩
  refine ⟨x, o, q.2.1, q.2.2.1, q.2.2.2, c, e, hx, hcc, ?_, h3 j q c hq hcc⟩
  have := hc 0 _ rfl
  rw [Nat.mul_one, Nat.add_zero] at this
  exact this
theorem OwnIL.ilt {base : Nat} {w : World} {v : Value} {qs : List (Unit × Hdr)} {M : List (List Int)} (h : OwnIL base w v qs M) :
    ∃ a cap, v = .slice a M.length cap ∧ ILt (fun k => base ≤ k ∧ k < w.heap.size) w a M.length M := by
  obtain ⟨a, cap, e, r, c1, c2, c3, c4⟩ := h.1.rd (fun _ => rfl)
  have hl := h.2.1
  rw [List.length_map] at hl
  rw [hl] at e r
  refine ⟨a, cap, e, qs, r, rfl, fun j q c hq hc => ?_⟩
  obtain ⟨r1, r2⟩ := h.2.2.1 j q (pairU c) hq (by rw [List.getElem?_map, hc]; rfl)
  obtain ⟨a', cap', e', r', _⟩ := r2.rd (fun _ => rfl)
  obtain ⟨x, q1, q2, q3⟩ := q
  simp only [Hdr.val, Value.slice.injEq] at e'
  obtain ⟨rfl, rfl, rfl⟩ := e'
  exact r'
theorem mkLk0 (w : World) : (Instr.makeSlice 100 (.int .i64 1) (.int .i64 1)).run Tryz.prog w = .ok (.slice (some ⟨w.heap.size, 0, none⟩) 1 1) (w.alloc (.cells ((List.replicate 1 ((0, 0) : Int × Int)).flatMap encS).toArray 65)) := by kernel_rfl
theorem mkLk1 (w : World) : (Instr.makeSlice 100 (.int .i64 2) (.int .i64 2)).run Tryz.prog w = .ok (.slice (some ⟨w.heap.size, 0, none⟩) 2 2) (w.alloc (.cells ((List.replicate 2 ((0, 0) : Int × Int)).flatMap encS).toArray 65)) := by kernel_rfl
theorem mkLk2 (w : World) : (Instr.makeSlice 100 (.int .i64 3) (.int .i64 3)).run Tryz.prog w = .ok (.slice (some ⟨w.heap.size, 0, none⟩) 3 3) (w.alloc (.cells ((List.replicate 3 ((0, 0) : Int × Int)).flatMap encS).toArray 65)) := by kernel_rfl
theorem mkLk3 (w : World) : (Instr.makeSlice 100 (.int .i64 4) (.int .i64 4)).run Tryz.prog w = .ok (.slice (some ⟨w.heap.size, 0, none⟩) 4 4) (w.alloc (.cells ((List.replicate 4 ((0, 0) : Int × Int)).flatMap encS).toArray 65)) := by kernel_rfl
theorem mkLk4 (w : World) : (Instr.makeSlice 100 (.int .i64 5) (.int .i64 5)).run Tryz.prog w = .ok (.slice (some ⟨w.heap.size, 0, none⟩) 5 5) (w.alloc (.cells ((List.replicate 5 ((0, 0) : Int × Int)).flatMap encS).toArray 65)) := by kernel_rfl
theorem mkLk5 (w : World) : (Instr.makeSlice 100 (.int .i64 6) (.int .i64 6)).run Tryz.prog w = .ok (.slice (some ⟨w.heap.size, 0, none⟩) 6 6) (w.alloc (.cells ((List.replicate 6 ((0, 0) : Int × Int)).flatMap encS).toArray 65)) := by kernel_rfl
theorem mkLk6 (w : World) : (Instr.makeSlice 100 (.int .i64 7) (.int .i64 7)).run Tryz.prog w = .ok (.slice (some ⟨w.heap.size, 0, none⟩) 7 7) (w.alloc (.cells ((List.replicate 7 ((0, 0) : Int × Int)).flatMap encS).toArray 65)) := by kernel_rfl
theorem mkLk7 (w : World) : (Instr.makeSlice 100 (.int .i64 8) (.int .i64 8)).run Tryz.prog w = .ok (.slice (some ⟨w.heap.size, 0, none⟩) 8 8) (w.alloc (.cells ((List.replicate 8 ((0, 0) : Int × Int)).flatMap encS).toArray 65)) := by kernel_rfl
theorem mkLk8 (w : World) : (Instr.makeSlice 100 (.int .i64 9) (.int .i64 9)).run Tryz.prog w = .ok (.slice (some ⟨w.heap.size, 0, none⟩) 9 9) (w.alloc (.cells ((List.replicate 9 ((0, 0) : Int × Int)).flatMap encS).toArray 65)) := by kernel_rfl
theorem mkLk9 (w : World) : (Instr.makeSlice 100 (.int .i64 10) (.int .i64 10)).run Tryz.prog w = .ok (.slice (some ⟨w.heap.size, 0, none⟩) 10 10) (w.alloc (.cells ((List.replicate 10 ((0, 0) : Int × Int)).flatMap encS).toArray 65)) := by kernel_rfl
theorem mkLk10 (w : World) : (Instr.makeSlice 100 (.int .i64 11) (.int .i64 11)).run Tryz.prog w = .ok (.slice (some ⟨w.heap.size, 0, none⟩) 11 11) (w.alloc (.cells ((List.replicate 11 ((0, 0) : Int × Int)).flatMap encS).toArray 65)) := by kernel_rfl
theorem mkLk11 (w : World) : (Instr.makeSlice 100 (.int .i64 12) (.int .i64 12)).run Tryz.prog w = .ok (.slice (some ⟨w.heap.size, 0, none⟩) 12 12) (w.alloc (.cells ((List.replicate 12 ((0, 0) : Int × Int)).flatMap encS).toArray 65)) := by kernel_rfl
theorem mkLk12 (w : World) : (Instr.makeSlice 100 (.int .i64 13) (.int .i64 13)).run Tryz.prog w = .ok (.slice (some ⟨w.heap.size, 0, none⟩) 13 13) (w.alloc (.cells ((List.replicate 13 ((0, 0) : Int × Int)).flatMap encS).toArray 65)) := by kernel_rfl
theorem mkLk13 (w : World) : (Instr.makeSlice 100 (.int .i64 14) (.int .i64 14)).run Tryz.prog w = .ok (.slice (some ⟨w.heap.size, 0, none⟩) 14 14) (w.alloc (.cells ((List.replicate 14 ((0, 0) : Int × Int)).flatMap encS).toArray 65)) := by kernel_rfl
theorem mkLk14 (w : World) : (Instr.makeSlice 100 (.int .i64 15) (.int .i64 15)).run Tryz.prog w = .ok (.slice (some ⟨w.heap.size, 0, none⟩) 15 15) (w.alloc (.cells ((List.replicate 15 ((0, 0) : Int × Int)).flatMap encS).toArray 65)) := by kernel_rfl
theorem mkLk15 (w : World) : (Instr.makeSlice 100 (.int .i64 16) (.int .i64 16)).run Tryz.prog w = .ok (.slice (some ⟨w.heap.size, 0, none⟩) 16 16) (w.alloc (.cells ((List.replicate 16 ((0, 0) : Int × Int)).flatMap encS).toArray 65)) := by kernel_rfl
theorem mkLk16 (w : World) : (Instr.makeSlice 100 (.int .i64 17) (.int .i64 17)).run Tryz.prog w = .ok (.slice (some ⟨w.heap.size, 0, none⟩) 17 17) (w.alloc (.cells ((List.replicate 17 ((0, 0) : Int × Int)).flatMap encS).toArray 65)) := by kernel_rfl
theorem mkLk (m M1 : Nat) (hm : m ≤ 16) (h : M1 = m + 1) (w : World) : (Instr.makeSlice 100 (.int .i64 ((m : Int) + 1)) (.int .i64 ((m : Int) + 1))).run Tryz.prog w =
    .ok (.slice (some ⟨w.heap.size, 0, none⟩) M1 M1) (w.alloc (.cells ((List.replicate M1 ((0, 0) : Int × Int)).flatMap encS).toArray 65)) := by
  subst h
  match m, hm with
  | 0, _ => exact mkLk0 w
  | 1, _ => exact mkLk1 w
  | 2, _ => exact mkLk2 w
  | 3, _ => exact mkLk3 w
  | 4, _ => exact mkLk4 w
  | 5, _ => exact mkLk5 w
  | 6, _ => exact mkLk6 w
  | 7, _ => exact mkLk7 w
  | 8, _ => exact mkLk8 w
  | 9, _ => exact mkLk9 w
  | 10, _ => exact mkLk10 w
  | 11, _ => exact mkLk11 w
  | 12, _ => exact mkLk12 w
  | 13, _ => exact mkLk13 w
  | 14, _ => exact mkLk14 w
  | 15, _ => exact mkLk15 w
  | 16, _ => exact mkLk16 w
  | m + 17, h => exact absurd h (by omega)
theorem rows_set {S : List Nd} (hd : S.Pairwise fun x y => x.id ≠ y.id) {m p j : Nat} {y : Nd} (hp : S[p]? = some y) (hj : j < m) (F G : FnL) (hG : ∀ x h, (x ≠ y.id ∨ h ≠ j) → G x h = F x h) :
    rowsF S m G = (rowsF S m F).set p (y.id, ((List.range m).map fun j => F y.id j).set j (G y.id j)) := by
  obtain ⟨hpl, hpe⟩ := List.getElem?_eq_some_iff.1 hp
  apply List.ext_getElem?
  intro i
  unfold rowsF
  by_cases hi : i = p
  · subst hi
    rw [List.getElem?_set_self (by simpa using hpl), List.getElem?_map, hp]
    simp only [Option.map_some, Option.some.injEq, Prod.mk.injEq, true_and]
    apply List.ext_getElem?
    intro h
    by_cases hh : h = j
    · subst hh
      rw [List.getElem?_set_self (by simpa using hj), List.getElem?_map, List.getElem?_range hj]
      rfl
    · rw [List.getElem?_set_ne (by omega)]
      simp only [List.getElem?_map]
      by_cases hm : h < m
      · rw [List.getElem?_range hm]
        simp only [Option.map_some]
        rw [hG _ _ (.inr hh)]
      · rw [List.getElem?_eq_none (by simpa using hm)]; rfl
  · rw [List.getElem?_set_ne (by omega)]
    simp only [List.getElem?_map]
    cases hx : S[i]? with
    | none => rfl
    | some x =>
      simp only [Option.map_some]
      have hne : x.id ≠ y.id := by
        obtain ⟨hil, hie⟩ := List.getElem?_eq_some_iff.1 hx
        have hw := List.pairwise_iff_getElem.1 hd
        rcases Nat.lt_or_gt_of_ne hi with h | h
        · have := hw i p hil hpl h; rwa [hie, hpe] at this
        · have := hw p i hpl hil h; rw [hie, hpe] at this; exact fun e => this e.symm
      congr 2
      apply List.map_congr_left
      intro h _
      exact hG _ _ (.inl hne)
/-- what the walk needs of the row at place p -/
theorem rows_at {base : Nat} {w : World} {v : Value} {qs : List (Int × Hdr)} {S : List Nd} {m : Nat} {F : FnL} (hd : S.Pairwise fun x y => x.id ≠ y.id) (h : OwnLk base w v qs (rowsF S m F)) {p j : Nat} {y : Nd} (hp : S[p]? = some y) (hj : j < m) :
    ∃ g cap g' cap', v = .slice (some ⟨g, 0, none⟩) S.length cap ∧ g < w.heap.size ∧ ¬ InQ qs g ∧ w.cell? ⟨g, p * 2 + 1, none⟩ = some (.slice (some ⟨g', 0, none⟩) m cap') ∧ InQ qs g' ∧
      (∃ u, w.cell? ⟨g', j * 2, none⟩ = some u) ∧ (∃ u, w.cell? ⟨g', j * 2 + 1, none⟩ = some u) ∧ w.frozen? ⟨g', j * 2, none⟩ = false ∧ w.frozen? ⟨g', j * 2 + 1, none⟩ = false ∧
      (∀ u : Int, OwnLk base (w.setCell ⟨g', j * 2, none⟩ (.int .i64 u)) v qs (rowsF S m (updL F y.id j u))) ∧
      ∀ u : Int, OwnLk base (w.setCell ⟨g', j * 2 + 1, none⟩ (.int .i64 u)) v qs (rowsF S m (updR F y.id j u)) := by
  have hpl := (List.getElem?_eq_some_iff.1 hp).1
  have hL : (rowsF S m F)[p]? = some (y.id, (List.range m).map fun j => F y.id j) := by unfold rowsF; rw [List.getElem?_map, hp]; rfl
  obtain ⟨hd1, hq, ho⟩ := OwnN.get (p := 1) h hL
  obtain ⟨a, cap, e, r, c1, c2, c3, c4⟩ := h.1.rd (fun _ => rfl)
  have hlen : qs.length = S.length := by rw [h.2.1]; unfold rowsF; simp
  obtain ⟨g, hga, hgb⟩ := c3 (by intro h0; rw [h0] at hlen; simp at hlen; omega)
  cases hga
  subst e
  have hvb : (Value.slice (some ⟨g, 0, none⟩) qs.length cap).ownBlock = some g := rfl
  have hrow : ((List.range m).map fun j => F y.id j)[j]? = some (F y.id j) := by rw [List.getElem?_map, List.getElem?_range hj]; rfl
  have hhd : ∃ g' cap', hd1.val = .slice (some ⟨g', 0, none⟩) m cap' := by
    rcases ho.2 with ⟨h1, h2⟩ | ⟨g', cap', cur, h1, _⟩
    · exfalso; have h2' := h2; simp at h2'; omega
    · exact ⟨g', cap', by rw [h1]; simp⟩
  obtain ⟨g', cap', hv'⟩ := hhd
  have hinq : InQ qs g' := ⟨p, _, hq, by rw [hv']; rfl⟩
  have hcell := (h.1.set1 (sz := 2) (enc := encP encI) (c := 1) (fun _ => rfl) hq (by omega)).1
  rw [hv'] at ho
  obtain ⟨q0, f0, O0⟩ := own_set1 (sz := 2) (enc := encS) (c := 0) (fun _ => rfl) ho hrow (by omega)
  obtain ⟨q1, f1, O1⟩ := own_set1 (sz := 2) (enc := encS) (c := 1) (fun _ => rfl) ho hrow (by omega)
  have hgl : g < w.heap.size := by obtain ⟨_, cur, hc⟩ := OwnW.blk h.1 hvb; exact heap_lt hc
  have key : ∀ (c : Nat) (u : Value) (row' : List (Int × Int)), OwnL 2 encS 65 base (w.setCell ⟨g', j * 2 + c, none⟩ u) hd1.val row' → OwnLk base (w.setCell ⟨g', j * 2 + c, none⟩ u) (.slice (some ⟨g, 0, none⟩) qs.length cap) qs ((rowsF S m F).set p (y.id, row')) := by
    intro c u row' ho'
    exact OwnN.keep (by decide) h hq ho' ((Chg.refl _ w).setCell _ (fun x hx he => hx.2 (by rw [hv', he]; rfl)))
  refine ⟨g, cap, g', cap', by rw [hlen], hgl, inQ_ne h hvb, ?_, hinq, ⟨_, q0⟩, ⟨_, q1⟩, f0, f1, fun u => ?_, fun u => ?_⟩
  · rw [← hv']
    exact hcell
  · rw [rows_set hd hp hj F (updL F y.id j u) (fun x h hx => by unfold updL; rw [if_neg (fun e => by rcases hx with hx | hx; exact hx e.1; exact hx e.2)])]
    have hu : updL F y.id j u y.id j = (u, (F y.id j).2) := by unfold updL; rw [if_pos ⟨rfl, rfl⟩]
    rw [hu]
    refine key 0 _ _ ?_
    rw [hv']
    exact O0 (u, (F y.id j).2) (.int .i64 u) rfl
  · rw [rows_set hd hp hj F (updR F y.id j u) (fun x h hx => by unfold updR; rw [if_neg (fun e => by rcases hx with hx | hx; exact hx e.1; exact hx e.2)])]
    have hu : updR F y.id j u y.id j = ((F y.id j).1, u) := by unfold updR; rw [if_pos ⟨rfl, rfl⟩]
    rw [hu]
    refine key 1 _ _ ?_
    rw [hv']
    exact O1 ((F y.id j).1, u) (.int .i64 u) rfl
end Go.Proofs.YtbnbjiddffihoaaGreatDoor
