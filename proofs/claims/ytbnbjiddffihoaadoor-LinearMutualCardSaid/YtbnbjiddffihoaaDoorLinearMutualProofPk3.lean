/- Texts for the statement LinearMutualProof, part 3 of 7: SplP, Cnt, Thr, Node, Idl, NbP, NbI, Bd, Ils, BldP, MapI, Tape, TapeK, Key, TWord, Rost, TapeBool, TId, Odd, BldM, BldW, BldQ, IdlL, Lin, Per, Rnd, LinP, Bri, RouP, RouA, SrP, SrE, RepP, JoiP, ConP. -/
import Derived.Test.YtbnbjiddffihoaaDoorRows
import Derived.WalkArith
import Derived.Maps.OwnOps
import Derived.Maps.Views
import Derived.Deep.RegionHeld3
import Derived.Test.YtbnbjiddffihoaaDoorLinearMutualProofPk1
import Derived.Test.YtbnbjiddffihoaaDoorLinearMutualProofPk2

/- The plain law of WordSplits: what the classes of two levels have to do with each other. -/
namespace Go.Proofs.YtbnbjiddffihoaaDoor
open Go.RowKit

theorem sameN_refl (a : Nat) {h : Int} (hh : h ≤ 16) : sameN a a h = true := by unfold sameN; rw [common_self]; simpa using hh
theorem sameN_symm {a b : Nat} {h : Int} (hs : sameN a b h = true) : sameN b a h = true := by unfold sameN at *; rw [commonN_comm]; exact hs
theorem sameN_trans {a b c : Nat} {h : Int} (ha : a < 4294967296) (hb : b < 4294967296) (hc : c < 4294967296) (h1 : sameN a b h = true) (h2 : sameN b c h = true) : sameN a c h = true := by
  unfold sameN at *
  have := common_min ha hb hc
  simp at *
  omega
theorem stepC_cases (h : Int) (C : List (List Nd)) (x : Nd) :
    ((∀ c ∈ C, sameN (headW c) x.word h = false) ∧ stepC h C x = C ++ [[x]]) ∨
    ∃ K c, C[K]? = some c ∧ sameN (headW c) x.word h = true ∧ stepC h C x = C.set K (c ++ [x]) := by
  have hle := idxC_le C x.word h
  by_cases hK : idxC C x.word h = C.length
  · refine .inl ⟨fun c hc => ?_, ?_⟩
    · have := (List.findIdx_eq_length.1 hK) c hc
      simpa using this
    · unfold stepC padC
      rw [hK, if_pos rfl, List.getElem?_append_right (Nat.le_refl _)]
      simp
  · refine .inr ⟨idxC C x.word h, C[idxC C x.word h]'(by omega), by simp, ?_, ?_⟩
    · exact List.findIdx_getElem (p := fun c => sameN (headW c) x.word h) (w := by unfold idxC at *; omega)
    · unfold stepC padC
      rw [if_neg hK]
      congr 2
      rw [List.getElem?_eq_getElem (by omega)]
      rfl

/-- what is known of the classes of a level -/
structure Cls (h : Int) (l : List Nd) (C : List (List Nd)) : Prop where
  all : ∀ y ∈ l, ∃ c ∈ C, y ∈ c
  mem : ∀ c ∈ C, 0 < c.length ∧ ∀ y ∈ c, y ∈ l ∧ sameN (headW c) y.word h = true
  heads : ∀ (i j : Nat) ci cj, C[i]? = some ci → C[j]? = some cj → sameN (headW ci) (headW cj) h = true → i = j
theorem headW_mem {c : List Nd} (h : 0 < c.length) : ∃ y ∈ c, headW c = y.word := by
  cases c with
  | nil => simp at h
  | cons y r => exact ⟨y, by simp, rfl⟩
theorem headW_snoc {c : List Nd} (x : Nd) (h : 0 < c.length) : headW (c ++ [x]) = headW c := by
  cases c with
  | nil => simp at h
  | cons y r => rfl

theorem Cls.step {h : Int} {l : List Nd} {C : List (List Nd)} {x : Nd} (hh : h ≤ 16) (H : Cls h l C) (hl : ∀ y ∈ l, y.word < 4294967296) (hx : x.word < 4294967296) : Cls h (l ++ [x]) (stepC h C x) := by
  have hw : ∀ c ∈ C, headW c < 4294967296 := fun c hc => by
    obtain ⟨y, hy, he⟩ := headW_mem (H.mem c hc).1
    rw [he]; exact hl y ((H.mem c hc).2 y hy).1
  rcases stepC_cases h C x with ⟨hno, he⟩ | ⟨K, c, hc, hs, he⟩
  · rw [he]
    refine ⟨fun y hy => ?_, fun d hd => ?_, fun i j ci cj hi hj hs => ?_⟩
    · rcases List.mem_append.1 hy with hy | hy
      · obtain ⟨c, hc, hyc⟩ := H.all y hy
        exact ⟨c, List.mem_append_left _ hc, hyc⟩
      · exact ⟨[x], by simp, hy⟩
    · rcases List.mem_append.1 hd with hd | hd
      · exact ⟨(H.mem d hd).1, fun y hy => ⟨List.mem_append_left _ ((H.mem d hd).2 y hy).1, ((H.mem d hd).2 y hy).2⟩⟩
      · rw [List.mem_singleton.1 hd]
        refine ⟨by simp, fun y hy => ?_⟩
        rw [List.mem_singleton.1 hy]
        exact ⟨by simp, sameN_refl _ hh⟩
    · have last : ∀ (i : Nat) ci, (C ++ [[x]])[i]? = some ci → (i < C.length ∧ C[i]? = some ci) ∨ (i = C.length ∧ ci = [x]) := by
        intro i ci hi
        rcases Nat.lt_or_ge i C.length with h | h
        · rw [List.getElem?_append_left h] at hi; exact .inl ⟨h, hi⟩
        · have := (List.getElem?_eq_some_iff.1 hi).1
          simp at this
          obtain rfl : i = C.length := by omega
          simp at hi
          exact .inr ⟨rfl, hi.symm⟩
      rcases last i ci hi with ⟨h1, h2⟩ | ⟨h1, h2⟩ <;> rcases last j cj hj with ⟨h3, h4⟩ | ⟨h3, h4⟩
      · exact H.heads i j ci cj h2 h4 hs
      · rw [h4] at hs
        have := hno ci (List.mem_of_getElem? h2)
        rw [show headW [x] = x.word from rfl, this] at hs
        cases hs
      · rw [h2] at hs
        have := hno cj (List.mem_of_getElem? h4)
        have hs := sameN_symm hs
        rw [show headW [x] = x.word from rfl, this] at hs
        cases hs
      · omega
  · rw [he]
    have hcm := H.mem c (List.mem_of_getElem? hc)
    have hKl := (List.getElem?_eq_some_iff.1 hc).1
    refine ⟨fun y hy => ?_, fun d hd => ?_, fun i j ci cj hi hj hs => ?_⟩
    · rcases List.mem_append.1 hy with hy | hy
      · obtain ⟨d, hd, hyd⟩ := H.all y hy
        obtain ⟨j, hj⟩ := List.mem_iff_getElem?.1 hd
        by_cases hjK : j = K
        · subst hjK
          obtain rfl : c = d := Option.some.inj (hc.symm.trans hj)
          exact ⟨c ++ [x], List.mem_iff_getElem?.2 ⟨j, by rw [List.getElem?_set_self hKl]⟩, List.mem_append_left _ hyd⟩
        · exact ⟨d, List.mem_iff_getElem?.2 ⟨j, by rw [List.getElem?_set_ne (by omega)]; exact hj⟩, hyd⟩
      · exact ⟨c ++ [x], List.mem_iff_getElem?.2 ⟨K, by rw [List.getElem?_set_self hKl]⟩, by rw [List.mem_singleton.1 hy]; simp⟩
    · rcases List.mem_or_eq_of_mem_set hd with hd | rfl
      · exact ⟨(H.mem d hd).1, fun y hy => ⟨List.mem_append_left _ ((H.mem d hd).2 y hy).1, ((H.mem d hd).2 y hy).2⟩⟩
      · refine ⟨by simp, fun y hy => ?_⟩
        rw [headW_snoc x hcm.1]
        rcases List.mem_append.1 hy with hy | hy
        · exact ⟨List.mem_append_left _ (hcm.2 y hy).1, (hcm.2 y hy).2⟩
        · rw [List.mem_singleton.1 hy]; exact ⟨by simp, hs⟩
    · have hd : ∀ (i : Nat) ci, (C.set K (c ++ [x]))[i]? = some ci → ∃ di, C[i]? = some di ∧ headW ci = headW di := by
        intro i ci hi
        by_cases hiK : i = K
        · subst hiK
          rw [List.getElem?_set_self hKl] at hi
          cases hi
          exact ⟨c, hc, headW_snoc x hcm.1⟩
        · rw [List.getElem?_set_ne (by omega)] at hi
          exact ⟨ci, hi, rfl⟩
      obtain ⟨di, h1, h2⟩ := hd i ci hi
      obtain ⟨dj, h3, h4⟩ := hd j cj hj
      rw [h2, h4] at hs
      exact H.heads i j di dj h1 h3 hs

end Go.Proofs.YtbnbjiddffihoaaDoor

/- How many classes there are does not depend on the order of the nodes. -/
namespace Go.Proofs.YtbnbjiddffihoaaDoor
open Go.RowKit

end Go.Proofs.YtbnbjiddffihoaaDoor

/- Through and Neighbours of the reference. -/
namespace Go.Proofs.YtbnbjiddffihoaaDoor
open Go.RowKit

def idxI (g : List Nd) (id : Int) : Nat := g.findIdx fun x => x.id == id
theorem idxI_of {g : List Nd} {id : Int} {k : Nat} {y : Nd} (hy : g[k]? = some y) (he : y.id = id) (hno : ∀ j z, j < k → g[j]? = some z → z.id ≠ id) : idxI g id = k := by
  have hk := (List.getElem?_eq_some_iff.1 hy).1
  have hv := (List.getElem?_eq_some_iff.1 hy).2
  rw [idxI, List.findIdx_eq hk]
  refine ⟨by rw [hv]; simpa using he, fun j hj => ?_⟩
  have := hno j _ hj (List.getElem?_eq_getElem (by omega))
  simpa using this
/-- the list of a level through a node, the node's place in it -/
def thrG (l : List Nd) (id : Int) (h : Int) : List Nd := groupN (sortN l) h (findN l id).1.word
def throughN (l : List Nd) (id : Int) (h : Int) : List Nd × Nat × Bool :=
  if (findN l id).2 = true ∧ (checkN l == 0) = true ∧ lvlN h = true ∧ idxI (thrG l id h) id < (thrG l id h).length then (thrG l id h, idxI (thrG l id h) id, true) else ([], 0, false)
theorem findN_word {l : List Nd} (hw : ∀ x ∈ l, x.word < 4294967296) (id : Int) : (findN l id).1.word < 4294967296 := by
  unfold findN
  split
  · rename_i x hx
    exact hw x (List.mem_of_find?_eq_some hx)
  · show 0 < _; omega

def leftN (g : List Nd) (i : Nat) : Int := if i = 0 then 0 else (g[i - 1]?.getD Nd.zero).id
def rightN (g : List Nd) (i : Nat) : Int := (g[i + 1]?.getD Nd.zero).id
def neighN (l : List Nd) (id : Int) (h : Int) : (Int × Int) × Bool :=
  if (throughN l id h).2.2 then ((leftN (throughN l id h).1 (throughN l id h).2.1, rightN (throughN l id h).1 (throughN l id h).2.1), true) else ((0, 0), false)
def NgPost (r : (Int × Int) × Bool) (w : World) (e : Ending) (w' : World) : Prop :=
  e = .returned (.tuple #[.agg #[.int .i64 r.1.1, .int .i64 r.1.2], .bool r.2]) ∧ Ex w w'

end Go.Proofs.YtbnbjiddffihoaaDoor

/- Nodes, and walks over Group of the package word and of its reference. -/
namespace Go.Proofs.YtbnbjiddffihoaaDoor
open Go.RowKit

set_option maxHeartbeats 1000000 in
theorem group_p {S : Nat → Prop} (a : Option Addr) (n cap : Nat) (l : List Nd) (h : Int) (v : Nat) (w : World) (hr : Rd 3 encN S w a n l) (hS : ∀ k, S k → k < w.heap.size) (hn : n ≤ 1000)
    (hw : ∀ x ∈ l, x.word < 4294967296) (hv : v < 4294967296) (hT : TabG w) :
    Calls Tryd.prog 90 #[.slice a n cap, .int .i64 h, .int .u32 v] w (NodesPost (groupN l h v) w) := by
  have hlen := hr.1
  have hlt := hT.lt
  have HT := Lib.hid hT
  have HL := Lib.hid hlen
  have HW := Lib.hid hw
  clear hT hlen hw
  go_enter Tryd.func90, Tryd.ntmps90
  go_wp2
  go_loopw [7, 12] (fun o i wr => GroupRel l h v w o i wr) (fun _ i _ => n - (intOf i).toNat)
  case atStart => exact ⟨0, by omega, rfl, OwnL.nil _ _ _ _ _, Chg.refl _ _⟩
  case round =>
    obtain ⟨k, hk, rfl, hown, hc⟩ := hrel
    obtain ⟨wo, rfl⟩ : ∃ wo : World, wo = wr := ⟨_, rfl⟩
    have hwo := hr.chg hc hS
    have hsz := hc.size
    have HT' := Lib.hid (HT.out.chg hc hlt)
    have hgl := groupN_length (l.take k) h v
    rw [List.length_take] at hgl
    have hkl := HL.out
    by_cases hlt' : k < n
    · obtain ⟨x, o, y, rfl, hx, hy, hcell⟩ := hwo.at hlt'
      have e0 : wo.cell? ⟨x, o + k * 3, none⟩ = some (.int .i64 y.id) := hcell 0 _ rfl
      have e1 : wo.cell? ⟨x, o + k * 3 + 1, none⟩ = some (.string y.key) := hcell 1 _ rfl
      have e2 : wo.cell? ⟨x, o + k * 3 + 1 + 1, none⟩ = some (.int .u32 y.word) := by simpa [Nat.add_assoc] using hcell 2 _ rfl
      have hyw := HW.out y (List.mem_of_getElem? hy)
      have Hy := Lib.hid hy
      have hc1 := hc.alloc (.cells #[.int .i64 y.id, .string y.key, .int .u32 y.word] 52) (by intro k hk; omega)
      have hown1 := hown.alloc (.cells #[.int .i64 y.id, .string y.key, .int .u32 y.word] 52)
      have HT1 := Lib.hid (HT'.out.chg ((Chg.refl (· < wo.heap.size) wo).alloc (.cells #[.int .i64 y.id, .string y.key, .int .u32 y.word] 52) (by simp)) (by omega))
      clear hy hcell hr hwo hkl
      by_cases hs : sameN y.word v h = true
      · go_wp2_with (first
          | (go_at_call 124; refine (same_p _ _ _ _ hyw hv HT1.out).mono ?_; rintro e w1 ⟨rfl, rfl⟩)
          | (at_builtin; go_loud (refine wpList_append_lit (enc := encN) (wo.alloc (.cells #[.int .i64 y.id, .string y.key, .int .u32 y.word] 52)) rfl _ _ 23 rfl w.heap.size 52 (.agg #[.int .i64 0, .string ByteArray.empty, .int .u32 0]) 3 32 Tryd.underlying23 Tryd.infoN rfl (by omega) (by omega) _ _ hown1 rfl y _ rfl rfl (by simp [encN, Value.oneCell']) _ (by simp) rfl (by omega) (by simp; omega) _ ?_); intro v' w3 hown3 _ hch3 hz3))
        go_roundw
        case rel => exact ⟨k + 1, by have := HL.out; omega, by go_num, by rw [groupN_snoc l h v k y Hy.out, if_pos hs]; exact hown3, hc1.then hch3 (fun _ h => h)⟩
        case measure => simp [intOf]; omega
      · have hs : sameN y.word v h = false := by simpa using hs
        go_wp2_with (go_at_call 124; refine (same_p _ _ _ _ hyw hv HT1.out).mono ?_; rintro e w1 ⟨rfl, rfl⟩)
        go_roundw
        case rel => exact ⟨k + 1, by have := HL.out; omega, by go_num, by rw [groupN_snoc l h v k y Hy.out, if_neg (by simp [hs])]; exact hown1, hc1⟩
        case measure => simp [intOf]; omega
    · obtain rfl : k = n := by omega
      rw [List.take_of_length_le (by omega)] at hown
      obtain ⟨a', cap', rfl, hrd, _⟩ := hown.rd (fun _ => rfl)
      clear hown hr hwo
      go_wp2
      go_ret
      exact ⟨a', _, cap', rfl, hrd, hc⟩

end Go.Proofs.YtbnbjiddffihoaaDoor

/- ordered and Height of the package ideal. -/
namespace Go.Proofs.YtbnbjiddffihoaaDoor
open Go.RowKit

/-- a sorted list of nodes, and whether they are a roster -/
def OrdPost (l : List Nd) (w : World) (e : Ending) (w' : World) : Prop :=
  ∃ (v : Value) (S : List Nd), e = .returned (.tuple #[v, .bool (checkN l == 0)]) ∧ OwnL 3 encN 52 w.heap.size w' v S ∧ (S.Perm l ∧ (checkN l = 0 → S = sortN l)) ∧ Ex w w'
set_option maxHeartbeats 1000000 in
theorem ordered_p (a : Option Addr) (n c : Nat) (l : List Nd) (w : World) (h : Sl 3 encN w a n l) (hn : n ≤ 1000) (hc : n ≤ c) (hm : c ≤ maxLen) :
    Calls Tryd.prog 75 #[.slice a n c] w (OrdPost l w) := by
  go_enter Tryd.func75, Tryd.ntmps75
  go_wp2_with fail
  (with_reducible refine (sort_p _ _ _ _ _ h hn).mono ?_)
  rintro e w1 ⟨v, S, rfl, own1, ⟨hp, ha⟩, k1⟩
  have h1 := h.nx k1
  have O1 := Lib.hid own1
  have HP := Lib.hid hp
  have HA := Lib.hid ha
  have K1 := Lib.hid k1
  clear h own1 hp ha k1
  go_wp2_with fail
  (with_reducible refine (check_p _ _ _ _ _ h1 (by omega) hc hm).mono ?_)
  rintro e w2 ⟨rfl, k2⟩
  have O2 := Lib.hid (O1.out.nx k2)
  have K2 := Lib.hid (K1.out.nx k2)
  clear h1 k2
  go_wp2_with fail
  go_ret2
  exact ⟨v, S, rfl, O2.out, ⟨HP.out, fun h0 => sortN_unique (check_keys h0) HP.out HA.out⟩, K2.out⟩

/-- the neighbours that are found in a list of nodes: the last one before x, the first one behind it -/
def nbStep (x : Nd) (s : Int × Int) (y : Nd) : Int × Int :=
  (if Op.bytesLess y.key.toList x.key.toList then y.id else s.1, if !(Op.bytesLess y.key.toList x.key.toList || y.key.toList == x.key.toList) && s.2 == 0 then y.id else s.2)
def nbFold (x : Nd) (G : List Nd) : Int × Int := G.foldl (nbStep x) (0, 0)
theorem nbFold_snoc (x : Nd) (G : List Nd) (k : Nat) (y : Nd) (hy : G[k]? = some y) : nbFold x (G.take (k + 1)) = nbStep x (nbFold x (G.take k)) y := by
  unfold nbFold
  rw [take_snocN G k y hy, List.foldl_append]
  rfl
end Go.Proofs.YtbnbjiddffihoaaDoor

/- The neighbours of a node in a sorted list, in plain Lean. -/
namespace Go.Proofs.YtbnbjiddffihoaaDoor
open Go.RowKit

/-- strictly ascending by key, with different numbers -/
def AscS (l : List Nd) : Prop := l.Pairwise fun x y => Op.bytesLess x.key.toList y.key.toList = true ∧ x.id ≠ y.id
theorem keys_pw {l : List Nd} (h : KeysN l) : l.Pairwise fun x y => x.key.toList ≠ y.key.toList ∧ x.id ≠ y.id := by
  rw [List.pairwise_iff_getElem]
  intro i j hi hj hij
  have := h j i l[j] l[i] hij (List.getElem?_eq_getElem hj) (List.getElem?_eq_getElem hi)
  refine ⟨fun he => this.1 ?_, fun he => this.2 he.symm⟩
  rw [ByteArray.toList_eq, ByteArray.toList_eq] at he
  exact (ByteArray.ext (Array.toList_inj.1 he)).symm
theorem sortN_str {l : List Nd} (h : checkN l = 0) : AscS (sortN l) := by
  have h1 : (sortN l).Pairwise fun x y => x.key.toList ≠ y.key.toList ∧ x.id ≠ y.id :=
    ((sortN_perm l).symm.pairwise_iff (fun {x y} hxy => ⟨fun he => hxy.1 he.symm, fun he => hxy.2 he.symm⟩)).1 (keys_pw (check_keys h))
  have h2 := sortN_asc l
  unfold AscN at h2
  unfold AscS
  refine (h1.and h2).imp ?_
  rintro x y ⟨⟨a, b⟩, c⟩
  rw [ltN_no] at c
  rcases c with c | ⟨c, _⟩
  · exact ⟨c, b⟩
  · exact absurd c.symm a
theorem asc_group {l : List Nd} (h : AscS l) (lev : Int) (v : Nat) : AscS (groupN l lev v) := List.Pairwise.filter _ h
theorem asc_at {G : List Nd} (h : AscS G) {i j : Nat} {x y : Nd} (hx : G[i]? = some x) (hy : G[j]? = some y) (hij : i < j) : Op.bytesLess x.key.toList y.key.toList = true ∧ x.id ≠ y.id := by
  obtain ⟨hi, e1⟩ := List.getElem?_eq_some_iff.1 hx
  obtain ⟨hj, e2⟩ := List.getElem?_eq_some_iff.1 hy
  have := List.pairwise_iff_getElem.1 h i j hi hj hij
  rwa [e1, e2] at this
theorem idxI_at {G : List Nd} (h : AscS G) {i : Nat} {x : Nd} (hx : G[i]? = some x) : idxI G x.id = i := by
  refine idxI_of hx rfl fun j z hj hz => ?_
  exact (asc_at h hz hx hj).2
theorem step_less {x y : Nd} {s : Int × Int} (h : Op.bytesLess y.key.toList x.key.toList = true) : nbStep x s y = (y.id, s.2) := by unfold nbStep; rw [h]; rfl
theorem step_same (x : Nd) (s : Int × Int) : nbStep x s x = s := by unfold nbStep; simp [bytesLess_irrefl]
theorem step_more {x y : Nd} {s : Int × Int} (h : Op.bytesLess x.key.toList y.key.toList = true) : nbStep x s y = (s.1, if s.2 = 0 then y.id else s.2) := by
  have h1 := bl_asymm h
  have h2 : (y.key.toList == x.key.toList) = false := by
    rw [beq_eq_false_iff_ne]
    intro he
    rw [he, bytesLess_irrefl] at h
    cases h
  unfold nbStep
  rw [h1, h2]
  simp
theorem nbFold_a {G : List Nd} (h : AscS G) {i : Nat} {x : Nd} (hx : G[i]? = some x) : ∀ k, k ≤ i → nbFold x (G.take k) = (leftN G k, 0) := by
  intro k
  induction k with
  | zero => intro _; rfl
  | succ k ih =>
    intro hk
    have hl := (List.getElem?_eq_some_iff.1 hx).1
    obtain ⟨y, hy⟩ : ∃ y, G[k]? = some y := ⟨G[k], List.getElem?_eq_getElem (by omega)⟩
    rw [nbFold_snoc x G k y hy, ih (by omega), step_less (asc_at h hy hx (by omega)).1]
    show ((y.id, 0) : Int × Int) = (leftN G (k + 1), 0)
    unfold leftN
    rw [if_neg (by omega), Nat.add_sub_cancel, hy]
    rfl
theorem nbFold_b {G : List Nd} (h : AscS G) {i : Nat} {x : Nd} (hx : G[i]? = some x) : nbFold x (G.take (i + 1)) = (leftN G i, 0) := by
  rw [nbFold_snoc x G i x hx, nbFold_a h hx i (Nat.le_refl _), step_same]
theorem nbFold_c {G : List Nd} (h : AscS G) (hid : ∀ y ∈ G, 1 ≤ y.id) {i : Nat} {x : Nd} (hx : G[i]? = some x) : ∀ d, i + 2 + d ≤ G.length → nbFold x (G.take (i + 2 + d)) = (leftN G i, rightN G i) := by
  intro d hd
  have hd0 : i + 1 < G.length := by omega
  obtain ⟨z, hz⟩ : ∃ z, G[i + 1]? = some z := ⟨G[i + 1], List.getElem?_eq_getElem hd0⟩
  have hz1 := hid z (List.mem_of_getElem? hz)
  have hr : rightN G i = z.id := by unfold rightN; rw [hz]; rfl
  induction d with
  | zero =>
    rw [Nat.add_zero, show i + 2 = i + 1 + 1 from rfl, nbFold_snoc x G (i + 1) z hz, nbFold_b h hx, step_more (asc_at h hx hz (by omega)).1, hr]
    rfl
  | succ d ih =>
    obtain ⟨y, hy⟩ : ∃ y, G[i + 2 + d]? = some y := ⟨G[i + 2 + d]'(by omega), List.getElem?_eq_getElem (by omega)⟩
    rw [← Nat.add_assoc, nbFold_snoc x G (i + 2 + d) y hy, ih (by omega), step_more (asc_at h hx hy (by omega)).1]
    show (leftN G i, if rightN G i = 0 then y.id else rightN G i) = _
    rw [if_neg (by rw [hr]; omega)]
theorem nbFold_all {G : List Nd} (h : AscS G) (hid : ∀ y ∈ G, 1 ≤ y.id) {i : Nat} {x : Nd} (hx : G[i]? = some x) : nbFold x G = (leftN G i, rightN G i) := by
  have hl := (List.getElem?_eq_some_iff.1 hx).1
  rcases Nat.lt_or_ge (i + 1) G.length with h1 | h1
  · have := nbFold_c h hid hx (G.length - (i + 2)) (by omega)
    rwa [show i + 2 + (G.length - (i + 2)) = G.length by omega, List.take_length] at this
  · have := nbFold_b h hx
    rw [show i + 1 = G.length by omega, List.take_length] at this
    rw [this]
    have : rightN G i = 0 := by unfold rightN; rw [List.getElem?_eq_none h1]; rfl
    rw [this]
/-- the neighbours by the definition of the reference -/
theorem neighN_no {l : List Nd} {id h : Int} (hno : checkN l ≠ 0 ∨ (findN l id).2 = false ∨ lvlN h = false) : neighN l id h = ((0, 0), false) := by
  have ht : throughN l id h = ([], 0, false) := by
    unfold throughN
    rw [if_neg]
    rintro ⟨h1, h2, h3, _⟩
    rcases hno with h | h | h
    · exact h (by simpa using h2)
    · rw [h1] at h; cases h
    · rw [h3] at h; cases h
  unfold neighN
  rw [ht]
  rfl
theorem findN_mem {l : List Nd} {id : Int} (h : (findN l id).2 = true) : (findN l id).1 ∈ l ∧ (findN l id).1.id = id := by
  unfold findN at *
  cases e : l.find? (fun x => x.id == id) with
  | none => rw [e] at h; cases h
  | some x =>
    exact ⟨List.mem_of_find?_eq_some e, by simpa using List.find?_some e⟩
theorem neighN_yes {l : List Nd} {id h : Int} (h1 : checkN l = 0) (h2 : (findN l id).2 = true) (h3 : lvlN h = true) :
    ∃ i, (thrG l id h)[i]? = some (findN l id).1 ∧ throughN l id h = (thrG l id h, i, true) ∧ neighN l id h = ((leftN (thrG l id h) i, rightN (thrG l id h) i), true) := by
  obtain ⟨m1, m2⟩ := findN_mem h2
  have hA : AscS (thrG l id h) := asc_group (sortN_str h1) h _
  have hm : (findN l id).1 ∈ thrG l id h := by
    unfold thrG groupN
    rw [List.mem_filter]
    exact ⟨(sortN_mem l _).2 m1, sameN_refl _ (by unfold lvlN at h3; simp at h3; exact h3.2)⟩
  obtain ⟨i, hi⟩ := List.mem_iff_getElem?.1 hm
  have hid := idxI_at hA hi
  rw [m2] at hid
  have hlt := (List.getElem?_eq_some_iff.1 hi).1
  have ht : throughN l id h = (thrG l id h, i, true) := by
    unfold throughN
    rw [if_pos ⟨h2, by rw [h1]; rfl, h3, by rw [hid]; exact hlt⟩, hid]
  refine ⟨i, hi, ht, ?_⟩
  unfold neighN
  rw [ht]
  rfl
theorem nbFold_neigh {l : List Nd} {id h : Int} (h1 : checkN l = 0) (h2 : (findN l id).2 = true) (h3 : lvlN h = true) : neighN l id h = (nbFold (findN l id).1 (thrG l id h), true) := by
  obtain ⟨i, hi, _, hn⟩ := neighN_yes h1 h2 h3
  have hA : AscS (thrG l id h) := asc_group (sortN_str h1) h _
  have hid : ∀ y ∈ thrG l id h, 1 ≤ y.id := fun y hy => by
    unfold thrG groupN at hy
    have := (sortN_mem l y).1 (List.mem_filter.1 hy).1
    unfold checkN at h1
    split at h1
    · omega
    · split at h1
      · omega
      · rename_i hb
        have hb : badN y = false := by
          cases hy2 : badN y with
          | false => rfl
          | true => exact absurd (List.any_eq_true.2 ⟨y, this, hy2⟩) hb
        unfold badN at hb
        simp only [Bool.or_eq_false_iff, decide_eq_false_iff_not] at hb
        omega
  rw [hn, nbFold_all hA hid hi]
end Go.Proofs.YtbnbjiddffihoaaDoor

/- Neighbours of the package ideal. -/
namespace Go.Proofs.YtbnbjiddffihoaaDoor
open Go.RowKit

def NiRel (x : Nd) (G : List Nd) (g12 : Nat) (w : World) (i : Value) (wr : World) : Prop :=
  ∃ k : Nat, k ≤ G.length ∧ i = .int .i64 k ∧ Exb g12 w wr ∧ Blk wr g12 [.int .i64 (nbFold x (G.take k)).1, .int .i64 (nbFold x (G.take k)).2] 92
theorem ng_no {l : List Nd} {id h : Int} {w w' : World} (hno : neighN l id h = ((0, 0), false)) (k : Ex w w') : NgPost (neighN l id h) w (.returned (.tuple #[.agg #[.int .i64 0, .int .i64 0], .bool false])) w' := by
  rw [hno]; exact ⟨rfl, k⟩
theorem OwnL.sl3 {sz e base : Nat} {α : Type} {enc : α → List Value} {w : World} {v : Value} {l : List α} (h : OwnL sz enc e base w v l) (hsz : ∀ y, (enc y).length = sz) : ∃ a cap, v = .slice a l.length cap ∧ Sl sz enc w a l.length l ∧ l.length ≤ cap ∧ cap ≤ maxLen := by
  obtain ⟨a, cap, e, h1, h2, h3, _⟩ := h.rd hsz
  exact ⟨a, cap, e, h1.mono (fun _ hk => hk.2), h2, h3⟩

set_option maxRecDepth 100000 in
set_option maxHeartbeats 2000000 in
theorem neigh_p (a : Option Addr) (n c : Nat) (l : List Nd) (id h : Int) (w : World) (hs : Sl 3 encN w a n l) (hn : n ≤ 1000) (hc : n ≤ c) (hm : c ≤ maxLen) (hw : ∀ x ∈ l, x.word < 4294967296) (hT : TabG w) :
    Calls Tryd.prog 69 #[.slice a n c, .int .i64 id, .int .i64 h] w (NgPost (neighN l id h) w) := by
  have HW := Lib.hid hw
  have HXW := findN_word hw id
  have HL := Lib.hid hs.len
  have k1 := Ex.new w (.cells #[.int .i64 0, .int .i64 0] 92)
  have B1 := Blk.new w [.int .i64 0, .int .i64 0] 92
  obtain ⟨w1, hw1⟩ : ∃ w1, w1 = w.alloc (.cells #[.int .i64 0, .int .i64 0] 92) := ⟨_, rfl⟩
  obtain ⟨g, hg⟩ : ∃ g, g = w.heap.size := ⟨_, rfl⟩
  have B1 : Blk w1 g [.int .i64 0, .int .i64 0] 92 := by rw [hw1, hg]; exact B1
  rw [← hw1] at k1
  have hgn : w.heap.size ≤ g := by omega
  have HW1 := Lib.hid hw1
  have HG := Lib.hid hg
  have S1 := hs.nx k1
  have HT := Lib.hid (hT.nx k1)
  clear hs hw1 hg hw hT
  go_enter Tryd.func69, Tryd.ntmps69
  go_upto_region 1 with fail
  rw [← HG.out, ← HW1.out]
  go_wp2_with fail
  (with_reducible refine (ordered_p _ _ _ _ _ S1 hn hc hm).mono ?_)
  rintro e w2 ⟨v, S, rfl, OS, ⟨hp, hsrt⟩, k2⟩
  have SL := Lib.hid hp.length_eq
  have HSR := Lib.hid hsrt
  have SW : Hid (∀ x ∈ S, x.word < 4294967296) := Lib.hid (fun x hx => HW.out x (hp.mem_iff.1 hx))
  replace S1 := S1.nx k2
  replace B1 := B1.nx k2
  replace HT := Lib.hid (HT.out.nx k2)
  replace k1 := k1.nx k2
  have OS := Lib.hid OS
  clear hp hsrt k2
  go_wp2_with fail
  (with_reducible refine (find_p _ _ _ _ _ _ S1 (by omega)).mono ?_)
  rintro e w3 ⟨rfl, k3⟩
  obtain ⟨F, hF⟩ : ∃ F, F = findN l id := ⟨_, rfl⟩
  have HF := Lib.hid hF
  rw [← hF] at HXW ⊢
  obtain ⟨⟨xi, xk, xw⟩, ok⟩ := F
  have k4 := Ex.new w3 (.cells #[.int .i64 xi, .string xk, .int .u32 xw] 52)
  have B2 := Blk.new w3 [.int .i64 xi, .string xk, .int .u32 xw] 52
  obtain ⟨w4, hw4⟩ : ∃ w4, w4 = w3.alloc (.cells #[.int .i64 xi, .string xk, .int .u32 xw] 52) := ⟨_, rfl⟩
  obtain ⟨g2, hg2⟩ : ∃ g2, g2 = w3.heap.size := ⟨_, rfl⟩
  have B2 : Blk w4 g2 [.int .i64 xi, .string xk, .int .u32 xw] 52 := by rw [hw4, hg2]; exact B2
  rw [← hw4] at k4
  have HW4 := Lib.hid hw4
  have HG2 := Lib.hid hg2
  replace k3 := k3.nx k4
  replace OS := Lib.hid (OS.out.nx k3)
  replace B1 := B1.nx k3
  replace HT := Lib.hid (HT.out.nx k3)
  replace k1 := k1.nx k3
  clear hF hw4 hg2 k4 k3 S1
  simp only [Nd.val]
  go_upto_region 3 with fail
  rw [← HG2.out, ← HW4.out]
  by_cases hck : checkN l = 0
  case neg =>
    have HNO : Hid (neighN l id h = ((0, 0), false)) := Lib.hid (neighN_no (.inl hck))
    have d1 : (checkN l == 0) = false := by simpa using hck
    rw [d1]
    have q0 := B1.cell 0 _ rfl
    have q1 := B1.cell 1 _ rfl
    have z0 := B1.free 0
    have z1 := B1.free 1
    clear hck d1 B2
    go_wp2_with fail
    refine bodyPost_ret (v := .tuple #[.agg #[.int .i64 0, .int .i64 0], .bool false]) (by simp [results, Tryd.results69, go_sem, *]) rfl (ng_no HNO.out ?_)
    exact (k1.setNew (p := ⟨g, 0, none⟩) _ hgn).setNew (p := ⟨g, 1, none⟩) _ hgn
  have HCK := Lib.hid hck
  have d1 : (checkN l == 0) = true := by simpa using hck
  rw [d1]
  clear hck d1
  cases ok with
  | false =>
    have HNO : Hid (neighN l id h = ((0, 0), false)) := Lib.hid (neighN_no (.inr (.inl (by rw [← HF.out]))))
    have q0 := B1.cell 0 _ rfl
    have q1 := B1.cell 1 _ rfl
    have z0 := B1.free 0
    have z1 := B1.free 1
    clear B2
    go_wp2_with fail
    refine bodyPost_ret (v := .tuple #[.agg #[.int .i64 0, .int .i64 0], .bool false]) (by simp [results, Tryd.results69, go_sem, *]) rfl (ng_no HNO.out ?_)
    exact (k1.setNew (p := ⟨g, 0, none⟩) _ hgn).setNew (p := ⟨g, 1, none⟩) _ hgn
  | true =>
    by_cases hlo : h < 0
    · have HNO : Hid (neighN l id h = ((0, 0), false)) := Lib.hid (neighN_no (.inr (.inr (by unfold lvlN; simp; omega))))
      have q0 := B1.cell 0 _ rfl
      have q1 := B1.cell 1 _ rfl
      have z0 := B1.free 0
      have z1 := B1.free 1
      clear B2
      go_wp2_with fail
      refine bodyPost_ret (v := .tuple #[.agg #[.int .i64 0, .int .i64 0], .bool false]) (by simp [results, Tryd.results69, go_sem, *]) rfl (ng_no HNO.out ?_)
      exact (k1.setNew (p := ⟨g, 0, none⟩) _ hgn).setNew (p := ⟨g, 1, none⟩) _ hgn
    · by_cases hhi : 16 < h
      · have HNO : Hid (neighN l id h = ((0, 0), false)) := Lib.hid (neighN_no (.inr (.inr (by unfold lvlN; simp; omega))))
        have q0 := B1.cell 0 _ rfl
        have q1 := B1.cell 1 _ rfl
        have z0 := B1.free 0
        have z1 := B1.free 1
        clear B2
        go_wp2_with fail
        refine bodyPost_ret (v := .tuple #[.agg #[.int .i64 0, .int .i64 0], .bool false]) (by simp [results, Tryd.results69, go_sem, *]) rfl (ng_no HNO.out ?_)
        exact (k1.setNew (p := ⟨g, 0, none⟩) _ hgn).setNew (p := ⟨g, 1, none⟩) _ hgn
      · have HYES : Hid (neighN l id h = (nbFold ⟨xi, xk, xw⟩ (groupN S h xw), true)) := Lib.hid (by
          have := nbFold_neigh (l := l) (id := id) (h := h) HCK.out (by rw [← HF.out]) (by unfold lvlN; simp; omega)
          unfold thrG at this
          rw [← HF.out, ← HSR.out HCK.out] at this
          exact this)
        have k5 := Ex.new w4 (.cells #[.int .i64 0, .int .i64 0] 92)
        have B3 := Blk.new w4 [.int .i64 0, .int .i64 0] 92
        obtain ⟨w5, hw5⟩ : ∃ w5, w5 = w4.alloc (.cells #[.int .i64 0, .int .i64 0] 92) := ⟨_, rfl⟩
        obtain ⟨g3, hg3⟩ : ∃ g3, g3 = w4.heap.size := ⟨_, rfl⟩
        have B3 : Blk w5 g3 [.int .i64 0, .int .i64 0] 92 := by rw [hw5, hg3]; exact B3
        rw [← hw5] at k5
        have h13 : g ≠ g3 := by have := B1.lt; omega
        have h23 : g2 ≠ g3 := by have := B2.lt; omega
        have hgn3 : w.heap.size ≤ g3 := by have := k1.size; omega
        have HW5 := Lib.hid hw5
        have HG3 := Lib.hid hg3
        replace OS := OS.out.nx k5
        replace B1 := B1.nx k5
        replace B2 := B2.nx k5
        replace HT := Lib.hid (HT.out.nx k5)
        replace k1 := k1.nx k5
        obtain ⟨aS, cS, rfl, sS, _, _⟩ := OS.sl3 (fun _ => rfl)
        have b22 := B2.cell 2 _ rfl
        have hnS : S.length ≤ 1000 := by have := HL.out; have := SL.out; omega
        clear hw5 hg3 k5
        go_upto_region 6 with fail
        rw [← HG3.out, ← HW5.out]
        clear OS
        have sS : Rd 3 encN (· < w5.heap.size) w5 aS S.length S := sS
        go_wp2_with fail
        (with_reducible refine (group_p _ _ _ _ _ _ _ sS (fun _ hk => hk) hnS SW.out HXW HT.out).mono ?_)
        rintro e w6 ⟨a6, n6, c6, rfl, r6, k6⟩
        have r6 : Slf 3 encN w5 w6 a6 n6 _ := r6
        replace k6 : Ex w5 w6 := k6
        have hgl := groupN_length S h xw
        generalize groupN S h xw = G at r6 HYES hgl ⊢
        have RG := Lib.hid (r6.slb B3.lt)
        have hng := r6.len
        subst hng
        replace B1 := B1.nx k6
        replace B2 := Lib.hid (B2.nx k6)
        replace B3 := B3.nx k6
        replace k1 := k1.nx k6
        have B1 := Lib.hid B1
        clear r6 k6 sS b22
        have hG6 : G.length ≤ 1000 := by omega
        go_wp2_with fail
        go_loopw [47] (fun i wr => NiRel ⟨xi, xk, xw⟩ G g3 w6 i wr) (fun i _ => G.length - (intOf i).toNat)
        case atStart => exact ⟨0, by omega, rfl, Exb.refl _ _, B3⟩
        case round =>
          obtain ⟨k, hk, rfl, kw, B3⟩ := hrel
          obtain ⟨wo, rfl⟩ : ∃ wo : World, wo = wr := ⟨_, rfl⟩
          by_cases hlt : k < G.length
          · obtain ⟨x1, o1, y, rfl, hx1, hy, hc1⟩ := ((RG.out.nxb kw).sl).at hlt
            obtain ⟨yi, yk, yw⟩ := y
            have e0 : wo.cell? ⟨x1, o1 + k * 3, none⟩ = some (.int .i64 yi) := hc1 0 _ rfl
            have e1 : wo.cell? ⟨x1, o1 + k * 3 + 1, none⟩ = some (.string yk) := hc1 1 _ rfl
            have e2 : wo.cell? ⟨x1, o1 + k * 3 + 2, none⟩ = some (.int .u32 yw) := hc1 2 _ rfl
            have e2' : wo.cell? ⟨x1, o1 + k * 3 + 1 + 1, none⟩ = some (.int .u32 yw) := e2
            have FS : Hid (nbFold ⟨xi, xk, xw⟩ (G.take (k + 1)) = nbStep ⟨xi, xk, xw⟩ (nbFold ⟨xi, xk, xw⟩ (G.take k)) ⟨yi, yk, yw⟩) := Lib.hid (nbFold_snoc _ _ _ _ hy)
            clear hy hc1
            obtain ⟨FF, hFF⟩ : ∃ FF, FF = nbFold ⟨xi, xk, xw⟩ (G.take k) := ⟨_, rfl⟩
            rw [← hFF] at B3 FS
            clear hFF
            obtain ⟨f1, f2⟩ := FF
            have k7 := Ex.new wo (.cells #[.int .i64 yi, .string yk, .int .u32 yw] 52)
            have B4 := Blk.new wo [.int .i64 yi, .string yk, .int .u32 yw] 52
            obtain ⟨w7, hw7⟩ : ∃ w7, w7 = wo.alloc (.cells #[.int .i64 yi, .string yk, .int .u32 yw] 52) := ⟨_, rfl⟩
            obtain ⟨g4, hg4⟩ : ∃ g4, g4 = wo.heap.size := ⟨_, rfl⟩
            have B4 : Blk w7 g4 [.int .i64 yi, .string yk, .int .u32 yw] 52 := by rw [hw7, hg4]; exact B4
            rw [← hw7] at k7
            have h34 : g3 ≠ g4 := by have := B3.lt; omega
            have HW7 := Lib.hid hw7
            have HG4 := Lib.hid hg4
            have B3 := B3.nx k7
            have kw := kw.nxb (k7.b g3)
            have B2' := B2.out.nxb h23 kw
            clear hw7 hg4 k7
            go_upto_region 9 with fail
            rw [← HG4.out, ← HW7.out]
            clear e0 e1 e2 e2'
            have p1 := B2'.cell 1 _ rfl
            have y0 := B4.cell 0 _ rfl
            have y1 := B4.cell 1 _ rfl
            have t0 := B3.cell 0 _ rfl
            have t1 := B3.cell 1 _ rfl
            have z0 := B3.free 0
            have z1 := B3.free 1
            cases hb : Op.bytesLess yk.toList xk.toList with
            | true =>
              have FS' : Hid (nbFold ⟨xi, xk, xw⟩ (G.take (k + 1)) = (yi, f2)) := Lib.hid (by rw [FS.out]; exact step_less hb)
              have B3' := B3.set 0 (.int .i64 yi)
              clear B2' B4 B3
              go_wp2_with fail
              refine ⟨⟨k + 1, by omega, by go_num, kw.setB _ rfl, ?_⟩, by simp [intOf]; omega⟩
              rw [FS'.out]; exact B3'
            | false =>
              cases he : (yk.toList == xk.toList) with
              | true =>
                have FS' : Hid (nbFold ⟨xi, xk, xw⟩ (G.take (k + 1)) = (f1, f2)) := Lib.hid (by rw [FS.out]; unfold nbStep; simp [hb, he])
                have B3' := Lib.hid B3
                clear B2' B4 B3
                go_wp2_with fail
                refine ⟨⟨k + 1, by omega, by go_num, kw, ?_⟩, by simp [intOf]; omega⟩
                rw [FS'.out]; exact B3'.out
              | false =>
                by_cases h0 : f2 = 0
                · have FS' : Hid (nbFold ⟨xi, xk, xw⟩ (G.take (k + 1)) = (f1, yi)) := Lib.hid (by rw [FS.out]; unfold nbStep; simp [hb, he, h0])
                  have B3' := B3.set 1 (.int .i64 yi)
                  subst h0
                  clear B2' B4 B3
                  go_wp2_with fail
                  refine ⟨⟨k + 1, by omega, by go_num, kw.setB _ rfl, ?_⟩, by simp [intOf]; omega⟩
                  rw [FS'.out]; exact B3'
                · have FS' : Hid (nbFold ⟨xi, xk, xw⟩ (G.take (k + 1)) = (f1, f2)) := Lib.hid (by rw [FS.out]; unfold nbStep; simp [hb, he, h0])
                  have d0 : (f2 == 0) = false := by simpa using h0
                  have B3' := Lib.hid B3
                  clear B2' B4 B3
                  go_wp2_with fail
                  refine ⟨⟨k + 1, by omega, by go_num, kw, ?_⟩, by simp [intOf]; omega⟩
                  rw [FS'.out]; exact B3'.out
          · obtain rfl : k = G.length := by omega
            rw [List.take_length] at B3
            have B1' := B1.out.nxb h13 kw
            have kw' := k1.nx (Ex.refl _)
            have KK : Ex w wo := (Chg.trans k1 (Chg.mono kw (fun q (hq : q < w.heap.size) => ⟨Nat.lt_of_lt_of_le hq k1.size, by omega⟩)))
            obtain ⟨FF, hFF⟩ : ∃ FF, FF = nbFold ⟨xi, xk, xw⟩ G := ⟨_, rfl⟩
            rw [← hFF] at B3
            have HYES' : Hid (neighN l id h = (FF, true)) := Lib.hid (by rw [HYES.out, hFF])
            clear hFF HYES
            obtain ⟨f1, f2⟩ := FF
            have t0 := B3.cell 0 _ rfl
            have t1 := B3.cell 1 _ rfl
            have q0 := B1'.cell 0 _ rfl
            have q1 := B1'.cell 1 _ rfl
            have z0 := B1'.free 0
            have z1 := B1'.free 1
            clear B1' B3 hk hlt kw'
            have h13' : ¬ g = g3 := h13
            go_wp2_with fail
            refine bodyPost_ret (v := .tuple #[.agg #[.int .i64 f1, .int .i64 f2], .bool true]) (by simp [results, Tryd.results69, go_sem, *]) rfl ⟨by rw [HYES'.out], ?_⟩
            exact (KK.setNew (p := ⟨g, 0, none⟩) _ hgn).setNew (p := ⟨g, 1, none⟩) _ hgn
end Go.Proofs.YtbnbjiddffihoaaDoor

/- Build of the reference. -/
namespace Go.Proofs.YtbnbjiddffihoaaDoor
open Go.RowKit

abbrev Lkd := Int × List (Int × Int)
theorem OwnN.base {A β : Type} {encA : A → List Value} {s1 s2 : Nat} {encB : β → List Value} {e1 e2 : TypeId} {base base' : Nat} {w : World} {v : Value} {qs : List (A × Hdr)} {L : List (A × List β)}
    (h : OwnN encA s1 s2 encB e1 e2 base w v qs L) (hb : base' ≤ base) : OwnN encA s1 s2 encB e1 e2 base' w v qs L :=
  ⟨h.1.lower hb, h.2.1, fun j q c hq hc => ⟨(h.2.2.1 j q c hq hc).1, (h.2.2.1 j q c hq hc).2.base hb⟩, h.2.2.2⟩
end Go.Proofs.YtbnbjiddffihoaaDoor

/- Lists of lists of numbers: ids of nodes, Lists of the package ideal. -/
namespace Go.Proofs.YtbnbjiddffihoaaDoor
open Go.RowKit

theorem Tryd.infoI6 : (Tryd.prog.info? 3).map (fun i => (i.zero, i.size, i.bytes)) = some (some (.int .i64 0), 1, 8) := by kernel_rfl
def enc0 : Unit → List Value := fun _ => []
end Go.Proofs.YtbnbjiddffihoaaDoor

/- The links that Build of the package ideal lays, in plain Lean: link by link from the lists, against the neighbours by their definition. -/
namespace Go.Proofs.YtbnbjiddffihoaaDoor
open Go.RowKit

end Go.Proofs.YtbnbjiddffihoaaDoor

/- A map from numbers to numbers that the call itself makes. -/
namespace Go.Proofs.YtbnbjiddffihoaaDoor
open Go.RowKit

theorem Tryd.lawI : Go.Maps.Keyed Tryd.prog 3 := Go.Maps.int_keyed Tryd.underlying3
/-- block b is a map of at most n entries that answers by f -/
def MapI (w : World) (b n : Nat) (f : Int → Int) : Prop :=
  ∃ D : DataW Unit, w.ownsMap Tryd.prog 3 (plainElem Tryd.prog 3) b n D ∧ ∀ x : Int, D.atKey (.int .i64 x) (.lit (.int .i64 0)) = .lit (.int .i64 (f x))
theorem MapI.made (w : World) : MapI (w.alloc (.map #[] 0)) w.heap.size 0 (fun _ => 0) := ⟨.map [], World.ownsMap_made _ _ _ _, fun _ => rfl⟩
theorem wf_of {x : Int} (h : -9223372036854775808 ≤ x ∧ x ≤ 9223372036854775807) : (Lit.int .i64 x).wf = true := by
  exact WalkArith.wf_i64 h
theorem MapI.chg {w w' : World} {b n : Nat} {f : Int → Int} {S : Nat → Prop} (h : MapI w b n f) (k : Chg S w w') (hb : S b) : MapI w' b n f := by
  obtain ⟨D, ⟨es, clock, e1, F, e2, e3⟩, h2⟩ := h
  exact ⟨D, ⟨es, clock, (k.block b hb).trans e1, F, e2, e3⟩, h2⟩
theorem MapI.lt {w : World} {b n : Nat} {f : Int → Int} (h : MapI w b n f) : b < w.heap.size := by
  obtain ⟨D, h1, h2⟩ := h
  exact h1.lt
theorem MapI.nx {w w' : World} {b n : Nat} {f : Int → Int} (h : MapI w b n f) (k : Ex w w') : MapI w' b n f := h.chg k h.lt
theorem MapI.put {w : World} {b n : Nat} {f : Int → Int} (h : MapI w b n f) {x v : Int} (hx : -9223372036854775808 ≤ x ∧ x ≤ 9223372036854775807) (hv : -9223372036854775808 ≤ v ∧ v ≤ 9223372036854775807) (hn : n < maxLen) :
    ∃ w', (Instr.mapUpdate 104 (.map (some b)) (.int .i64 x) (.int .i64 v)).run Tryd.prog w = .ok () w' ∧ MapI w' b (n + 1) (fun y => if y = x then v else f y) ∧ Exb b w w' := by
  obtain ⟨D, h1, h2⟩ := h
  have hm : Go.Maps.IsMap D := by obtain ⟨_, _, _, _, _, e⟩ := h1; exact ⟨_, e⟩
  obtain ⟨w', hrun, h3, h4⟩ := h1.update (t := 104) Tryd.lawI Tryd.underlying104 hn (Go.Maps.keyOf_int_mk Tryd.underlying3 (wf_of hx)) (plainElem_int Tryd.underlying3 (wf_of hv))
  refine ⟨w', hrun, ⟨_, h3, fun y => ?_⟩, ⟨h4.1, h4.2, h4.3, h4.4, fun i hi => h4.5 i hi.1 (fun e => hi.2 (Option.some.inj e))⟩⟩
  by_cases hy : y = x
  · subst hy
    show _ = DataW.lit (.int .i64 (if y = y then v else f y))
    rw [if_pos rfl]
    exact Go.Maps.atKey_put_same hm (show Go.WideAt.IsKeyLit (.int .i64 y) from trivial) _ _
  · show _ = DataW.lit (.int .i64 (if y = x then v else f y))
    rw [if_neg hy, Go.Maps.atKey_put_other (fun e => hy (by cases e; rfl))]
    exact h2 y
end Go.Proofs.YtbnbjiddffihoaaDoor

/- Walks over the tape of numbers from which the statements draw. -/
namespace Go.Proofs.YtbnbjiddffihoaaDoor
open Go.RowKit

set_option maxHeartbeats 400000 in
theorem mod_any (v n : Int) (w : World) (hn : 1 ≤ n) (hn2 : n ≤ 9223372036854775807) :
    Calls Tryd.prog 48 #[.int .i64 v, .int .i64 n] w fun e w' => e = .returned (.int .i64 (v % n)) ∧ w = w' := by
  obtain ⟨h1, h2⟩ := tmod_bounds v n hn
  have H3 := Lib.hid (emod_of_tmod v n hn)
  go_enter Tryd.func48, Tryd.ntmps48
  go_wp2
  · go_ret
    exact ⟨by rw [H3.out, if_pos ‹_›]; rfl, rfl⟩
  · go_ret
    exact ⟨by rw [H3.out, if_neg (by omega)]; rfl, rfl⟩

set_option maxHeartbeats 400000 in
theorem next_end (b len cap i : Nat) (n : Int) (a : Option Addr) (w : World) (hb : w.heap[b]? = some (.cells #[.slice a len cap, .int .i64 i] 66 (0, 0))) (hi : len ≤ i) (hn : ¬ n < 1) :
    Calls Tryd.prog 15 #[.pointer (some ⟨b, 0, none⟩), .int .i64 n] w fun e w' => e = .returned (.int .i64 0) ∧ ∃ m, w.drewN m = w' := by
  have c0 : w.cell? ⟨b, 0, none⟩ = some (.slice a len cap) := by simp [World.cell?, hb]
  have c1 : w.cell? ⟨b, 1, none⟩ = some (.int .i64 i) := by simp [World.cell?, hb]
  have d1 : decide (n < 1) = false := by simp; omega
  clear hb
  go_enter Tryd.func15, Tryd.ntmps15
  go_wp2
  go_quiet (fail)
  go_wp2
  go_ret
  exact ⟨rfl, _, rfl⟩

set_option maxHeartbeats 400000 in
theorem next_small (b : Nat) (n : Int) (w : World) (hn : n < 1) :
    Calls Tryd.prog 15 #[.pointer (some ⟨b, 0, none⟩), .int .i64 n] w fun e w' => e = .returned (.int .i64 0) ∧ ∃ m, w.drewN m = w' := by
  have d1 : decide (n < 1) = true := by simp; omega
  go_enter Tryd.func15, Tryd.ntmps15
  go_wp2
  go_quiet (fail)
  go_wp2
  go_ret
  exact ⟨rfl, _, rfl⟩

set_option maxHeartbeats 400000 in
theorem next_go (b len cap i x o : Nat) (n v : Int) (w : World) (hb : w.heap[b]? = some (.cells #[.slice (some ⟨x, o, none⟩) len cap, .int .i64 i] 66 (0, 0))) (hi : i < len) (hl : len ≤ 600) (hn : ¬ n < 1) (hn2 : n ≤ 9223372036854775807)
    (hx : x ≠ b) (hc : w.cell? ⟨x, o + i, none⟩ = some (.int .i64 v)) :
    Calls Tryd.prog 15 #[.pointer (some ⟨b, 0, none⟩), .int .i64 n] w fun e w' => e = .returned (.int .i64 (v % n)) ∧ ∃ m k, ((w.drewN k).setCell ⟨b, 1, none⟩ (.int .i64 (i + 1))).drewN m = w' := by
  have c0 : w.cell? ⟨b, 0, none⟩ = some (.slice (some ⟨x, o, none⟩) len cap) := by simp [World.cell?, hb]
  have c1 : w.cell? ⟨b, 1, none⟩ = some (.int .i64 i) := by simp [World.cell?, hb]
  have f1 : w.frozen? ⟨b, 1, none⟩ = false := by simp [World.frozen?, hb]
  have d1 : decide (n < 1) = false := by simp; omega
  have e1 : IntKind.i64.wrap (i : Int) = i := IntWalk.i64_in _ (by omega)
  have e2 : IntKind.i64.wrap ((i : Int) + 1) = (i : Int) + 1 := IntWalk.i64_in _ (by omega)
  clear hb
  go_enter Tryd.func15, Tryd.ntmps15
  go_wp2
  go_quiet (fail)
  go_wp2
  go_quiet ((go_at_call 48; exact quiet_of_eq (mod_any _ _ _ (by omega) (by omega))))
  go_wp2
  go_ret
  exact ⟨rfl, _, _, rfl⟩

theorem next_x {B b : Nat} (n : Int) (w : World) (h : TP 66 B w b) (hn2 : n ≤ 9223372036854775807) :
    Calls Tryd.prog 15 #[.pointer (some ⟨b, 0, none⟩), .int .i64 n] w (SomeInt 0 (if n < 1 then 0 else n - 1) 66 B b w) := by
  by_cases hn : n < 1
  · refine (next_small b n w hn).mono ?_
    rintro e w' ⟨rfl, m, rfl⟩
    exact ⟨0, rfl, by omega, by rw [if_pos hn]; omega, (Chg.refl _ _).drewN _, h⟩
  · obtain ⟨a, cap, i, x, o, l, h1, h2, h3, h4, h5⟩ := id h
    by_cases hi : i < l.length
    · rcases h5 with rfl | ⟨rfl, e2, e3, e4⟩
      · simp at hi
      · refine (next_go b _ cap i x o n _ w h1 hi h3 hn hn2 e2 (e4 i hi)).mono ?_
        rintro e w' ⟨rfl, m, k, rfl⟩
        refine ⟨_, rfl, Int.emod_nonneg _ (by omega), ?_, ?_, ?_⟩
        · rw [if_neg hn]; have := Int.emod_lt_of_pos (l.getD i 0) (show 0 < n by omega); omega
        · exact (((Chg.refl _ _).drewN _).setCell _ (fun k hk => hk.2)).drewN _
        · refine ⟨_, cap, i + 1, x, o, l, ?_, h2, h3, by omega, .inr ⟨rfl, e2, e3, fun j hj => ?_⟩⟩
          · show (w.setCell ⟨b, 1, none⟩ (.int .i64 (i + 1))).heap[b]? = _
            simp [World.setCell, Array.getElem?_modify, h1]
          · show (w.setCell ⟨b, 1, none⟩ (.int .i64 (i + 1))).cell? _ = _
            rw [World.cell?_of_block (w := w) (Below.heap_setCell w _ _ _ e2)]
            exact e4 j hj
    · refine (next_end b _ cap i n a w h1 (by omega) hn).mono ?_
      rintro e w' ⟨rfl, m, rfl⟩
      exact ⟨0, rfl, by omega, by rw [if_neg hn]; omega, (Chg.refl _ _).drewN _, h⟩

/-- Pick: some number of the list -/
theorem pick_x {B b s so len : Nat} (lo hi : Int) (l : List Int) (w : World) (h : TP 66 B w b) (hB : B ≤ s) (hs : s < w.heap.size) (hl : l.length = len) (hl0 : 0 < len) (hl2 : len ≤ 100)
    (hc : ∀ j, j < len → w.cell? ⟨s, so + j, none⟩ = some (.int .i64 (l.getD j 0))) (hr : ∀ x ∈ l, lo ≤ x ∧ x ≤ hi) :
    Calls Tryd.prog 16 #[.pointer (some ⟨b, 0, none⟩), .slice (some ⟨s, so, none⟩) len len] w (SomeInt lo hi 66 B b w) := by
  have hlt := h.lt
  go_enter Tryd.func16, Tryd.ntmps16
  go_wp2_with fail
  refine (next_x _ w h (by omega)).mono ?_
  rintro e w1 ⟨r, rfl, r0, r1, k1, t1⟩
  rw [if_neg (by omega)] at r1
  obtain ⟨j, rfl⟩ := Int.eq_ofNat_of_zero_le r0
  have hj : j < len := by omega
  have hc1 : w1.cell? ⟨s, so + j, none⟩ = some (.int .i64 (l.getD j 0)) := k1.cellv (hc j hj) ⟨hs, by simp; omega⟩
  have hm : l.getD j 0 ∈ l := by simp [List.getD, hl, hj]
  have hr1 := hr _ hm
  clear hc hr hl hm
  go_wp2
  go_ret
  exact ⟨_, rfl, hr1.1, hr1.2, k1, t1⟩


/-- Pick on a list that was just written out -/
theorem pick_lit {B b n s : Nat} (lo hi : Int) (l : List Int) {A : Array Value} {W0 : World} (h : TP 66 B W0 b) (hB : B ≤ W0.heap.size) (hs : s = W0.heap.size) (hA : A = (l.map (Value.int .i64)).toArray) (hl : l.length = n) (hl0 : 0 < n) (hl2 : n ≤ 100)
    (hr : ∀ x ∈ l, lo ≤ x ∧ x ≤ hi) :
    Calls Tryd.prog 16 #[.pointer (some ⟨b, 0, none⟩), .slice (some ⟨s, 0, none⟩) n n] (W0.alloc (.cells A 3)) (SomeInt lo hi 66 B b W0) := by
  subst hA hs
  have hc := (Chg.refl (· < W0.heap.size) W0).alloc (.cells (l.map (Value.int .i64)).toArray 3) (fun k hk => hk)
  refine (pick_x (s := W0.heap.size) (so := 0) lo hi l _ (h.chg hc (by omega)) hB (by simp) hl hl0 hl2 ?_ hr).mono ?_
  · intro j hj
    simp [List.getD, hl, hj]
  · rintro e w' ⟨r, rfl, r0, r1, k1, t1⟩
    exact ⟨r, rfl, r0, r1, (hc.mono (fun k hk => hk.1)).trans (k1.mono (by simp; intro k h1 h2; omega)), t1⟩


/-- a new tape -/
def NewTape (w : World) (e : Ending) (w' : World) : Prop :=
  e = .returned (.pointer (some ⟨w.heap.size, 0, none⟩)) ∧ TP 66 (w.heap.size + 1) w' w.heap.size ∧ Chg (· < w.heap.size) w w'

theorem tape_made {S : Nat → Prop} {n cap m : Nat} {a : Option Addr} {l : List Int} {w : World} (h : Rd 1 encI S w a n l) (hS : ∀ k, S k → k < w.heap.size) (hm : m ≤ n) (hm2 : m ≤ 600) :
    TP 66 (w.heap.size + 1) (w.alloc (.cells #[.slice a m cap, .int .i64 0] 66)) w.heap.size := by
  have hl : (l.take m).length = m := by have := h.1; simp; omega
  rcases Nat.eq_zero_or_pos m with h0 | h0
  · subst h0
    exact ⟨a, cap, 0, 0, 0, [], by simpa using heap_new w _, by omega, by simp, by simp, .inl rfl⟩
  · obtain ⟨x, o, y, rfl, hx, _, _⟩ := h.at (j := 0) (by omega)
    have hx := hS x hx
    refine ⟨_, cap, 0, x, o, l.take m, by rw [hl]; exact heap_new w _, by omega, by omega, by omega, .inr ⟨rfl, by omega, by omega, fun j hj => ?_⟩⟩
    have hj : j < m := by omega
    obtain ⟨x', o', y', e1, _, e3, e4⟩ := h.at (j := j) (by omega)
    cases e1
    have e5 := e4 0 _ rfl
    have e6 : (l.take m).getD j 0 = y' := by simp [List.getD, List.getElem?_take, hj, e3]
    rw [e6]
    rw [World.cell?_of_block (w := w) (Below.heap_alloc w _ _ (by simp; omega))]
    simpa using e5

set_option maxHeartbeats 400000 in
theorem new_x {S : Nat → Prop} (a : Option Addr) (n cap : Nat) (l : List Int) (w : World) (h : Rd 1 encI S w a n l) (hS : ∀ k, S k → k < w.heap.size) (hn : n ≤ cap) (hcap : cap ≤ maxLen) :
    Calls Tryd.prog 11 #[.slice a n cap] w (NewTape w) := by
  unfold maxLen at hcap
  by_cases h6 : 600 < n
  · have hm := tape_made (cap := cap) (m := 600) h hS (by omega) (by omega)
    go_enter Tryd.func11, Tryd.ntmps11
    go_wp2
    go_ret
    exact ⟨rfl, hm, (Chg.refl _ _).alloc _ (by simp)⟩
  · have hm := tape_made (cap := cap) (m := n) h hS (by omega) (by omega)
    go_enter Tryd.func11, Tryd.ntmps11
    go_wp2
    go_ret
    exact ⟨rfl, hm, (Chg.refl _ _).alloc _ (by simp)⟩
end Go.Proofs.YtbnbjiddffihoaaDoor

/- The tape, in the standard forms. -/
namespace Go.Proofs.YtbnbjiddffihoaaDoor
open Go.RowKit

/-- a tape at b -/
def TK (w : World) (b : Nat) : Prop := TP 66 (b + 1) w b
theorem TK.lt {w : World} {b : Nat} (h : TK w b) : b < w.heap.size := by
  obtain ⟨_, _, _, _, _, _, h1, _⟩ := h
  exact heap_lt h1
theorem TK.nx {w w' : World} {b : Nat} (h : TK w b) (k : Ex w w') : TK w' b := TP.chg h k (fun x hx => Nat.lt_of_lt_of_le hx h.lt)
/-- a store behind the tape -/
theorem TK.set {w : World} {b : Nat} (h : TK w b) {p : Addr} (v : Value) (hp : b < p.block) : TK (w.setCell p v) b :=
  TP.chg h ((Chg.refl (· < b + 1) w).setCell v (fun k (hk : k < b + 1) => by omega)) (fun _ hk => hk)
/-- a number below n (0 if there is none) -/
def NumPost (n : Int) (b : Nat) (w : World) (e : Ending) (w' : World) : Prop :=
  ∃ r : Int, e = .returned (.int .i64 r) ∧ 0 ≤ r ∧ r ≤ n ∧ TK w' b ∧ Exb b w w'
theorem next_t {b : Nat} (n : Int) (w : World) (h : TK w b) (h1 : 1 ≤ n) (h2 : n ≤ 9223372036854775807) :
    Calls Tryd.prog 15 #[.pointer (some ⟨b, 0, none⟩), .int .i64 n] w (NumPost (n - 1) b w) := by
  refine (next_x n w h h2).mono ?_
  rintro e w' ⟨r, rfl, r0, r1, k, t⟩
  rw [if_neg (by omega)] at r1
  exact ⟨r, rfl, r0, r1, t, k⟩
/-- one of some numbers that were just written out -/
theorem pick_t {b n s : Nat} (lo hi : Int) (l : List Int) {A : Array Value} {w : World} (h : TK w b) (hs : s = w.heap.size) (hA : A = (l.map (Value.int .i64)).toArray) (hl : l.length = n) (hl0 : 0 < n) (hl2 : n ≤ 100)
    (hr : ∀ x ∈ l, lo ≤ x ∧ x ≤ hi) :
    Calls Tryd.prog 16 #[.pointer (some ⟨b, 0, none⟩), .slice (some ⟨s, 0, none⟩) n n] (w.alloc (.cells A 3)) fun e w' =>
      ∃ r : Int, e = .returned (.int .i64 r) ∧ lo ≤ r ∧ r ≤ hi ∧ TK w' b ∧ Exb b w w' := by
  refine (pick_lit lo hi l h h.lt hs hA hl hl0 hl2 hr).mono ?_
  rintro e w' ⟨r, rfl, r0, r1, k, t⟩
  exact ⟨r, rfl, r0, r1, t, k⟩
theorem new_t (a : Option Addr) (n cap : Nat) (l : List Int) (w : World) (h : Sl 1 encI w a n l) (hn : n ≤ cap) (hcap : cap ≤ maxLen) :
    Calls Tryd.prog 11 #[.slice a n cap] w fun e w' => e = .returned (.pointer (some ⟨w.heap.size, 0, none⟩)) ∧ TK w' w.heap.size ∧ Ex w w' ∧ w.heap.size < w'.heap.size := by
  refine (new_x a n cap l w h (fun _ hk => hk) hn hcap).mono ?_
  rintro e w' ⟨rfl, t, k⟩
  have hlt : w.heap.size < w'.heap.size := by
    obtain ⟨_, _, _, _, _, _, h1, _⟩ := t
    exact heap_lt h1
  exact ⟨rfl, t, k, hlt⟩
end Go.Proofs.YtbnbjiddffihoaaDoor

/- Keys of the tape. -/
namespace Go.Proofs.YtbnbjiddffihoaaDoor
open Go.RowKit

/-- the letters, as they are laid: strings of one byte -/
def LetG (w : World) : Prop := ∀ j, j < 6 → ∃ s : ByteArray, s.size = 1 ∧ w.cell? ⟨0, j, none⟩ = some (.string s)
theorem LetG.lt {w : World} (h : LetG w) : 0 < w.heap.size := by
  obtain ⟨s, _, h⟩ := h 0 (by omega)
  exact World.block_lt_of_cell? w _ h
theorem LetG.nx {w w' : World} (h : LetG w) (k : Ex w w') : LetG w' := fun j hj => by
  obtain ⟨s, h1, h2⟩ := h j hj
  exact ⟨s, h1, Chg.cellv k h2 (World.block_lt_of_cell? w _ h2)⟩
theorem LetG.nxb {b : Nat} {w w' : World} (h : LetG w) (hb : ¬ 0 = b) (k : Exb b w w') : LetG w' := fun j hj => by
  obtain ⟨s, h1, h2⟩ := h j hj
  exact ⟨s, h1, Chg.cellv k h2 ⟨World.block_lt_of_cell? w _ h2, hb⟩⟩

def LongRel (k0 : Nat) (o i : Value) : Prop := ∃ (k : Nat) (s : ByteArray), k ≤ k0 ∧ i = .int .i64 k ∧ o = .string s ∧ s.size = k
set_option maxHeartbeats 400000 in
theorem long_x (s : ByteArray) (n : Nat) (w : World) (hs : s.size = 1) (hn : n ≤ 1000) :
    Calls Tryd.prog 83 #[.string s, .int .i64 n] w fun e w' => (∃ r : ByteArray, e = .returned (.string r) ∧ r.size = n) ∧ w = w' := by
  have HS := Lib.hid hs
  have hs1 : s.size ≤ 1 := Nat.le_of_eq hs
  clear hs
  go_enter Tryd.func83, Tryd.ntmps83
  go_wp2
  go_loop [5, 6] (fun o i => LongRel n o i) (fun _ i => n - (intOf i).toNat)
  case atStart => exact ⟨0, ⟨#[]⟩, by omega, rfl, rfl, rfl⟩
  case round =>
    obtain ⟨k, o, hk, rfl, rfl, ho⟩ := hrel
    have HO := Lib.hid ho
    have ho1 : o.size ≤ 1000 := by omega
    clear ho
    by_cases hlt : k < n
    · go_wp2
      go_round
      case rel => exact ⟨k + 1, _, by omega, by go_num, rfl, by rw [ByteArray.size_append, HO.out, HS.out]⟩
      case measure => simp [intOf]; omega
    · go_wp2
      go_ret
      exact ⟨⟨o, rfl, by rw [HO.out]; omega⟩, rfl⟩

def KeyPost (m b : Nat) (w : World) (e : Ending) (w' : World) : Prop := ∃ s : ByteArray, e = .returned (.string s) ∧ s.size ≤ m ∧ TK w' b ∧ Exb b w w'
def KeyRel (b : Nat) (w : World) (o i : Value) (wr : World) : Prop := ∃ (k : Nat) (s : ByteArray), k ≤ 3 ∧ i = .int .i64 k ∧ o = .string s ∧ s.size + k ≤ 3 ∧ TK wr b ∧ Exb b w wr

set_option maxHeartbeats 1000000 in
theorem key_t {b : Nat} (w : World) (h : TK w b) (hL : LetG w) (hgb : ¬ 0 = b) : Calls Tryd.prog 45 #[.pointer (some ⟨b, 0, none⟩)] w (KeyPost 64 b w) := by
  go_enter Tryd.func45, Tryd.ntmps45
  go_wp2_with fail
  refine (next_t 12 _ h (by omega) (by omega)).mono ?_
  rintro e w1 ⟨r, rfl, r0, r1, T, k1⟩
  have L1 := hL.nxb hgb k1
  clear h hL
  by_cases h10 : r = 10
  · subst h10
    go_wp2_with fail
    refine (next_t 6 _ T (by omega) (by omega)).mono ?_
    clear T
    rintro e w2 ⟨j, rfl, j0, j1, T, k2⟩
    obtain ⟨j, rfl⟩ := Int.eq_ofNat_of_zero_le j0
    obtain ⟨s, hs, hc⟩ := (L1.nxb hgb k2) j (by omega)
    have kk := k1.nxb k2
    have HS := Lib.hid hs
    clear hs k1 k2 L1
    go_wp2_with fail
    refine (long_x s 64 _ HS.out (by omega)).mono ?_
    rintro e w3 ⟨⟨r, rfl, hr⟩, rfl⟩
    have HR := Lib.hid hr
    clear hr
    go_wp2_with fail
    go_ret
    exact ⟨r, rfl, Nat.le_of_eq HR.out, T, kk⟩
  · have d10 : (r == 10) = false := by simp [h10]
    by_cases h11 : r = 11
    · subst h11
      clear h10
      go_wp2_with fail
      go_ret
      exact ⟨⟨#[]⟩, rfl, by simp [ByteArray.size], T, k1⟩
    · have d11 : (r == 11) = false := by simp [h11]
      clear h10 h11
      go_wp2_with fail
      refine (next_t 3 _ T (by omega) (by omega)).mono ?_
      clear T
      rintro e w2 ⟨m, rfl, m0, m1, T, k2⟩
      obtain ⟨m, rfl⟩ := Int.eq_ofNat_of_zero_le m0
      have L2 := L1.nxb hgb k2
      have kk := k1.nxb k2
      clear k1 k2 L1
      go_wp2_with fail
      go_loopw [3, 4] (fun o i wr => KeyRel b w2 o i wr) (fun _ i _ => (intOf i).toNat)
      case atStart => exact ⟨m + 1, ⟨#[]⟩, by omega, congrArg (Value.int .i64) (by omega), rfl, by show 0 + (m + 1) ≤ 3; omega, T, Exb.refl _ _⟩
      case round =>
        clear T
        obtain ⟨k, o, hk, rfl, rfl, ho, T, kw⟩ := hrel
        obtain ⟨wo, rfl⟩ : ∃ wo : World, wo = wr := ⟨_, rfl⟩
        have ho1 : o.size ≤ 3 := by omega
        by_cases hk0 : 0 < k
        · go_wp2_with fail
          refine (next_t 6 _ T (by omega) (by omega)).mono ?_
          clear T
          rintro e w4 ⟨j, rfl, j0, j1, T, k4⟩
          obtain ⟨j, rfl⟩ := Int.eq_ofNat_of_zero_le j0
          obtain ⟨s, hs, hc⟩ := ((L2.nxb hgb kw).nxb hgb k4) j (by omega)
          replace kw := kw.nxb k4
          have HS := Lib.hid hs
          have hs1 : s.size ≤ 1 := Nat.le_of_eq hs
          clear hs k4 L2
          go_wp2_with fail
          refine ⟨⟨k - 1, o ++ s, by omega, ?_, rfl, by rw [ByteArray.size_append, HS.out]; omega, T, kw⟩, by simp [intOf]; omega⟩
          rw [show ((k - 1 : Nat) : Int) = (k : Int) - 1 by omega]
        · clear L2
          go_wp2_with fail
          go_ret
          exact ⟨o, rfl, by omega, T, kk.nxb kw⟩
end Go.Proofs.YtbnbjiddffihoaaDoor

/- A walk over the words that are drawn from a tape. -/
namespace Go.Proofs.YtbnbjiddffihoaaDoor
open Go.RowKit

/-- some word -/
def SomeWord (ty B b : Nat) (w : World) (e : Ending) (w' : World) : Prop :=
  ∃ r : Nat, e = .returned (.int .u32 r) ∧ r < 65536 ∧ Chg (fun k => k < w.heap.size ∧ k ≠ b) w w' ∧ TP ty B w' b

theorem conv_u32 (r : Int) (h0 : 0 ≤ r) (h1 : r < 65536) : ∃ m : Nat, r = m ∧ m < 65536 ∧ IntKind.u32.wrap r = (m : Int) := by
  obtain ⟨m, rfl⟩ := Int.eq_ofNat_of_zero_le h0
  refine ⟨m, rfl, by omega, ?_⟩
  simp [IntKind.wrap, IntKind.signed, IntKind.bits]
  omega

set_option maxHeartbeats 1000000 in
theorem word_x {B b : Nat} (w : World) (h : TP 66 B w b) (hB : B ≤ w.heap.size) :
    Calls Tryd.prog 46 #[.pointer (some ⟨b, 0, none⟩)] w (SomeWord 66 B b w) := by
  go_enter Tryd.func46, Tryd.ntmps46
  go_wp2_with fail
  refine (next_x _ w h (by omega)).mono ?_
  rintro e w1 ⟨r, rfl, r0, r1, k1, t1⟩
  have z1 := k1.size
  by_cases e4 : r = 4
  · subst e4
    go_wp2_with fail
    refine (next_x _ _ t1 (by omega)).mono ?_
    rintro e w2 ⟨s, rfl, s0, s1, k2, t2⟩
    rw [if_neg (by omega)] at s1
    obtain ⟨m, rfl, hm, hw⟩ := conv_u32 s s0 (by omega)
    go_wp2_with fail
    go_ret
    exact ⟨m, rfl, hm, k1.then k2 (by intro k hk; omega), t2⟩
  · have d4 : (r == 4) = false := by simp [e4]
    by_cases e5 : r = 5
    · subst e5
      go_wp2_with fail
      refine (pick_lit 0 65535 [0, 65535, 32768] t1 (by omega) (by simp) (by rfl) (by rfl) (by omega) (by omega) (by simp)).mono ?_
      rintro e w2 ⟨s, rfl, s0, s1, k2, t2⟩
      obtain ⟨m, rfl, hm, hw⟩ := conv_u32 s s0 (by omega)
      go_wp2_with fail
      go_ret
      exact ⟨m, rfl, hm, k1.then k2 (by intro k hk; omega), t2⟩
    · have d5 : (r == 5) = false := by simp [e5]
      clear e4 e5
      go_wp2_with fail
      refine (next_x _ _ t1 (by omega)).mono ?_
      rintro e w2 ⟨s, rfl, s0, s1, k2, t2⟩
      rw [if_neg (by omega)] at s1
      obtain ⟨m, rfl, hm, hw⟩ := conv_u32 s s0 (by omega)
      go_wp2_with fail
      go_ret
      exact ⟨m, rfl, hm, k1.then k2 (by intro k hk; omega), t2⟩
end Go.Proofs.YtbnbjiddffihoaaDoor

/- Rosters of the tape. -/
namespace Go.Proofs.YtbnbjiddffihoaaDoor
open Go.RowKit

theorem word_t {b : Nat} (w : World) (h : TK w b) : Calls Tryd.prog 46 #[.pointer (some ⟨b, 0, none⟩)] w fun e w' => ∃ m : Nat, e = .returned (.int .u32 m) ∧ m < 65536 ∧ TK w' b ∧ Exb b w w' :=
  (word_x w h h.lt).mono fun e w' ⟨m, he, hm, k, t⟩ => ⟨m, he, hm, t, k⟩

/-- a roster that was just made -/
structure RosterOf (n b : Nat) (w w' : World) (v : Value) (L : List Nd) : Prop where
  own : OwnL 3 encN 52 w.heap.size w' v L
  len : L.length ≤ n
  ok : checkN L = 0
  word : ∀ x ∈ L, x.word < 65536
  tape : TK w' b
  k : Exb b w w'
def RosRel (n b : Nat) (w : World) (o i : Value) (wr : World) : Prop := ∃ (k : Nat) (L : List Nd), L.length + k ≤ n ∧ i = .int .i64 k ∧ RosterOf n b w wr o L

set_option maxRecDepth 100000 in
set_option maxHeartbeats 2000000 in
theorem roster_t {b : Nat} (n : Nat) (w : World) (h : TK w b) (hL : LetG w) (hgb : ¬ 0 = b) (hn0 : 1 ≤ n) (hn : n ≤ 60) :
    Calls Tryd.prog 12 #[.pointer (some ⟨b, 0, none⟩), .int .i64 n] w fun e w' => ∃ v L, e = .returned v ∧ RosterOf n b w w' v L := by
  have hbw := h.lt
  go_enter Tryd.func12, Tryd.ntmps12
  go_wp2_with fail
  refine (next_t ((n : Int) + 1) _ h (by omega) (by omega)).mono ?_
  clear h
  rintro e w1 ⟨k, rfl, k0, k1, T, kk⟩
  obtain ⟨k, rfl⟩ := Int.eq_ofNat_of_zero_le k0
  go_wp2_with fail
  go_loopw [5, 6] (fun o i wr => RosRel n b w o i wr) (fun _ i _ => (intOf i).toNat)
  case atStart => exact ⟨k, [], by simp; omega, rfl, OwnL.nil _ _ _ _ _, by simp, by decide, by simp, T, kk⟩
  case round =>
    clear T kk
    obtain ⟨q, L, hq, rfl, R⟩ := hrel
    obtain ⟨wo, rfl⟩ : ∃ wo : World, wo = wr := ⟨_, rfl⟩
    have T := R.tape
    by_cases hq0 : 0 < q
    · have L1 := hL.nxb hgb R.k
      clear hL
      have R := Lib.hid R
      go_wp2_with fail
      refine (next_t (3 * (n : Int)) _ T (by omega) (by omega)).mono ?_
      clear T
      rintro e w2 ⟨d, rfl, d0, d1, T, k2⟩
      have L2 := L1.nxb hgb k2
      clear L1
      go_wp2_with fail
      refine (key_t _ T L2 hgb).mono ?_
      clear T
      rintro e w3 ⟨s, rfl, hs, T, k3⟩
      replace k2 := k2.nxb k3
      clear L2 k3
      go_wp2_with fail
      refine (word_t _ T).mono ?_
      clear T
      rintro e w4 ⟨m, rfl, hm, T, k4⟩
      replace k2 := k2.nxb k4
      clear k4
      have B4 := Blk.new w4 [.int .i64 (1 + d), .string s, .int .u32 m] 52
      have e4 := Ex.new w4 (.cells #[.int .i64 (1 + d), .string s, .int .u32 m] 52)
      obtain ⟨w5, hw5⟩ : ∃ w5, w5 = w4.alloc (.cells #[.int .i64 (1 + d), .string s, .int .u32 m] 52) := ⟨_, rfl⟩
      obtain ⟨g, hg⟩ : ∃ g, g = w4.heap.size := ⟨_, rfl⟩
      have B4 : Blk w5 g [.int .i64 (1 + d), .string s, .int .u32 m] 52 := by rw [hw5, hg]; exact B4
      rw [← hw5] at e4
      replace T := T.nx e4
      replace k2 := k2.nxb (e4.b b)
      have HW := Lib.hid hw5
      have HG := Lib.hid hg
      clear hw5 hg e4
      go_wp2_with fail
      rw [← HG.out, ← HW.out]
      have own5 := R.out.own.nxb hbw k2
      obtain ⟨A5, C5, rfl, s5, o5, m5, nil5⟩ := own5.slf (fun _ => rfl)
      have lenL : L.length ≤ 60 := by omega
      have NIL := Lib.hid nil5
      have O5 := Lib.hid own5
      have S5 : Sl 3 encN w5 A5 L.length L := s5.sl
      clear s5 nil5 own5
      obtain ⟨X, hX⟩ : ∃ X : Nd, X = ⟨1 + d, s, m⟩ := ⟨_, rfl⟩
      have SXF : ∀ cur, Ex w5 cur → Sl 3 encN (cur.alloc (.cells #[.int .i64 (1 + d), .string s, .int .u32 m] 52)) (some ⟨cur.heap.size, 0, none⟩) 1 [X] := fun cur _ => by rw [hX]; exact Sl.lit _ rfl rfl (fun _ => rfl) rfl
      have OWN0 : ∀ cur, Ex w5 cur → OwnL 3 encN 52 w5.heap.size cur (.slice none 0 0) [] := fun _ _ => OwnL.nil _ _ _ _ _
      have HX := Lib.hid hX
      have S5F := fun cur (h : Ex w5 cur) => S5.nx h
      have hX3 : m < 65536 := hm
      clear hX S5 hm d0 d1 hs
      refine wp_region_held_drew (S := Ex w5) (by kernel_rfl) ((Ex.refl w5).drew) (fun hHeld => ?_)
      refine wpAnyH_take (i := 0) (oi := ⟨some 26, .move (.tmp 5), 23, "tape.go:132", #[], none⟩) (v := ?_) rfl (by kernel_rfl) (by kernel_rfl) (by kernel_rfl) (fun _ _ _ h => h) (Or.inl ⟨by rfl, ?hyr1x0q1⟩) (by assumption) ?restr1x0q1
      case hyr1x0q1 => intro wq hSw; (go_simp); (try with_reducible rfl)
      try simp only [Act.put, List.setIfInBounds_toArray, List.set_cons_zero, List.set_cons_succ]
      refine wpAnyH_take (i := 2) (oi := ⟨some 28, .load 52 (.tmp 7), 52, "tape.go:132", #[], none⟩) (v := ?_) rfl (by kernel_rfl) (by kernel_rfl) (by kernel_rfl) (fun _ _ _ h => h) (Or.inl ⟨by rfl, ?hyr1x2q4⟩) (by assumption) ?restr1x2q4
      case hyr1x2q4 => intro wq hSw; (have cq := (B4.nx hSw).cell 0 _ rfl; have cq1 := (B4.nx hSw).cell 1 _ rfl; have cq2 := (B4.nx hSw).cell 2 _ rfl; go_simp); (try with_reducible rfl)
      try simp only [Act.put, List.setIfInBounds_toArray, List.set_cons_zero, List.set_cons_succ]
      refine wpAnyH_ready (rs := [1, 3]) (by kernel_rfl) (by simp) ?_
      refine AllReadyH.cons (o := ⟨some 27, .call { callee := .builtin .append, args := #[.const (.slice none 0 0), .tmp 26], argTypes := #[23, 23] }, 23, "tape.go:132", #[⟨0, .data⟩], none⟩) rfl (fun K hK => ?_) ?_
      · rw [if_pos (by rfl)]
        have own0 := OWN0 _ hHeld
        have s0 := S5F _ hHeld
        have z0 := Ex.size hHeld
        refine wp_append_rd (enc := encN) _ (.const (.slice none 0 0)) (.tmp 26) 23 rfl w5.heap.size 52 (.agg #[.int .i64 0, .string ByteArray.empty, .int .u32 0]) 3 32 Tryd.underlying23 Tryd.infoN rfl (by omega) (by omega) _ [] own0 rfl _ A5 L.length C5 L s0 NIL.out (fun _ => rfl) (by simp [encN, Value.oneCell']) rfl (by simp) (by omega) z0 ?_
        intro v6 w6 own6 ch0 ch1
        have j6 : Ex w5 w6 := Chg.trans hHeld ch1
        (try replace SX := SX.nx (Chg.mono ch0 (fun k hk => ⟨hk, by simp [Value.ownBlock]⟩)))
        clear own0 s0 z0 ch0 ch1
        refine hK.out _ _ (j6) (fun hHeld => ?_)
        clear hK K
        try simp only [Act.put, List.setIfInBounds_toArray, List.set_cons_zero, List.set_cons_succ]
        refine wpAnyH_ready (rs := [3]) (by kernel_rfl) (by simp) ?_
        refine AllReadyH.cons (o := ⟨some 29, .buildSlice 23 1 #[(0, .tmp 28)], 23, "tape.go:132", #[⟨2, .data⟩], none⟩) rfl (fun K hK => ?_) AllReadyH.nil
        go_simp
        have SX := SXF _ hHeld
        have j6 := hHeld.alloc (.cells #[.int .i64 (1 + d), .string s, .int .u32 m] 52)
        (try replace own6 := own6.alloc (.cells #[.int .i64 (1 + d), .string s, .int .u32 m] 52))
        refine hK.out _ _ (j6) (fun hHeld => ?_)
        clear hK K
        try simp only [Act.put, List.setIfInBounds_toArray, List.set_cons_zero, List.set_cons_succ]
        refine wpAnyH_ready (rs := [4]) (by kernel_rfl) (by simp) ?_
        refine AllReadyH.cons (o := ⟨some 30, .call { callee := .builtin .append, args := #[.tmp 27, .tmp 29], argTypes := #[23, 23] }, 23, "tape.go:132", #[⟨1, .data⟩, ⟨3, .data⟩, ⟨1, .chain⟩], none⟩) rfl (fun K hK => ?_) AllReadyH.nil
        rw [if_pos (by rfl)]
        have z0 := Ex.size hHeld
        refine wp_append_rd (enc := encN) _ (.tmp 27) (.tmp 29) 23 rfl w5.heap.size 52 (.agg #[.int .i64 0, .string ByteArray.empty, .int .u32 0]) 3 32 Tryd.underlying23 Tryd.infoN rfl (by omega) (by omega) _ ([] ++ L) own6 rfl _ _ 1 1 [X] SX (fun h => by cases h) (fun _ => rfl) (by simp [encN, Value.oneCell']) rfl (by rw [List.nil_append]; omega) (by omega) z0 ?_
        intro v7 w7 own7 ch0 ch1
        have j7 : Ex w5 w7 := Chg.trans hHeld ch1
        rw [List.nil_append] at own7
        obtain ⟨L7, h7⟩ : ∃ L7, L7 = L ++ [X] := ⟨_, rfl⟩
        rw [← h7] at own7
        have l7 : L7.length ≤ 61 := by rw [h7, List.length_append, List.length_singleton]; omega
        have H7 := Lib.hid h7
        clear h7
        obtain ⟨A7, C7, rfl, s7, _, _, _⟩ := own7.slf (fun _ => rfl)
        have s7 := s7.sl
        clear own7 own6 SX z0 ch0 ch1
        refine hK.out _ _ (j7) (fun hHeld => ?_)
        clear hK K
        try simp only [Act.put, List.setIfInBounds_toArray, List.set_cons_zero, List.set_cons_succ]
        refine wpAnyH_ready (rs := [5]) (by kernel_rfl) (by simp) ?_
        refine AllReadyH.cons (o := ⟨some 31, .call { callee := .value (.func 47), args := #[.tmp 30], argTypes := #[23] }, 4, "tape.go:132", #[⟨4, .data⟩, ⟨4, .chain⟩], none⟩) rfl (fun K hK => ?_) AllReadyH.nil
        go_simp
        (with_reducible refine (is_r _ _ _ _ _ s7 (by omega)).mono ?_)
        rintro e w8 ⟨rfl, kk⟩
        have j8 := hHeld.nx kk
        clear kk s7
        refine hK.out _ _ (j8) (fun hHeld => ?_)
        clear hK K
        try simp only [Act.put, List.setIfInBounds_toArray, List.set_cons_zero, List.set_cons_succ]
        refine wpAnyH_done (by kernel_rfl) ?_ _
        replace T := T.nx hHeld
        have own8 := O5.out.nx hHeld
        have B8 := B4.nx hHeld
        have k8 := k2.nxb (hHeld.b b)
        have c0 := B8.cell 0 _ rfl
        have c1 := B8.cell 1 _ rfl
        have c2 := B8.cell 2 _ rfl
        have k9 := R.out.k.nxb k8
        have z8 := k9.size
        clear hHeld B8 B4 SXF OWN0 S5F j6 j7 j8 s7 k8 l7
        cases hc : (checkN L7 == 0) with
        | true =>
          have HCK : Hid (checkN (L ++ [X]) = 0) := Lib.hid (by rw [← H7.out]; simpa using hc)
          clear hc
          go_wp2_with (at_builtin; (refine wpList_append_lit (enc := encN) w8 rfl _ _ 23 rfl w.heap.size 52 (.agg #[.int .i64 0, .string ByteArray.empty, .int .u32 0]) 3 32 Tryd.underlying23 Tryd.infoN rfl (by omega) (by omega) _ _ own8 rfl X _ (by rw [HX.out]; rfl) rfl (by simp [encN, Value.oneCell']) _ (by simp) rfl (by omega) (by omega) _ ?_); intro v9 w9 own9 _ ch1 _)
          refine ⟨⟨q - 1, L ++ [X], by simp; omega, by rw [show ((q - 1 : Nat) : Int) = (q : Int) - 1 by omega], own9, by simp; omega, HCK.out, ?_, TP.chg T ch1 (fun x hx => by omega), Chg.trans k9 (ch1.mono (fun x hx => hx.1))⟩, by simp [intOf]; omega⟩
          intro x hx
          rcases List.mem_append.1 hx with hx | hx
          · exact R.out.word x hx
          · rw [List.mem_singleton.1 hx, HX.out]; exact hX3
        | false =>
          clear hc
          go_wp2_with fail
          exact ⟨⟨q - 1, L, by omega, by rw [show ((q - 1 : Nat) : Int) = (q : Int) - 1 by omega], own8, by omega, R.out.ok, R.out.word, T, k9⟩, by simp [intOf]; omega⟩
      refine AllReadyH.cons (o := ⟨some 29, .buildSlice 23 1 #[(0, .tmp 28)], 23, "tape.go:132", #[⟨2, .data⟩], none⟩) rfl (fun K hK => ?_) AllReadyH.nil
      · go_simp
        have SX := SXF _ hHeld
        have j6 := hHeld.alloc (.cells #[.int .i64 (1 + d), .string s, .int .u32 m] 52)
        (try replace own6 := own6.alloc (.cells #[.int .i64 (1 + d), .string s, .int .u32 m] 52))
        refine hK.out _ _ (j6) (fun hHeld => ?_)
        clear hK K
        try simp only [Act.put, List.setIfInBounds_toArray, List.set_cons_zero, List.set_cons_succ]
        refine wpAnyH_ready (rs := [1]) (by kernel_rfl) (by simp) ?_
        refine AllReadyH.cons (o := ⟨some 27, .call { callee := .builtin .append, args := #[.const (.slice none 0 0), .tmp 26], argTypes := #[23, 23] }, 23, "tape.go:132", #[⟨0, .data⟩], none⟩) rfl (fun K hK => ?_) AllReadyH.nil
        rw [if_pos (by rfl)]
        have own0 := OWN0 _ hHeld
        have s0 := S5F _ hHeld
        have z0 := Ex.size hHeld
        refine wp_append_rd (enc := encN) _ (.const (.slice none 0 0)) (.tmp 26) 23 rfl w5.heap.size 52 (.agg #[.int .i64 0, .string ByteArray.empty, .int .u32 0]) 3 32 Tryd.underlying23 Tryd.infoN rfl (by omega) (by omega) _ [] own0 rfl _ A5 L.length C5 L s0 NIL.out (fun _ => rfl) (by simp [encN, Value.oneCell']) rfl (by simp) (by omega) z0 ?_
        intro v6 w6 own6 ch0 ch1
        have j6 : Ex w5 w6 := Chg.trans hHeld ch1
        (try replace SX := SX.nx (Chg.mono ch0 (fun k hk => ⟨hk, by simp [Value.ownBlock]⟩)))
        clear own0 s0 z0 ch0 ch1
        refine hK.out _ _ (j6) (fun hHeld => ?_)
        clear hK K
        try simp only [Act.put, List.setIfInBounds_toArray, List.set_cons_zero, List.set_cons_succ]
        refine wpAnyH_ready (rs := [4]) (by kernel_rfl) (by simp) ?_
        refine AllReadyH.cons (o := ⟨some 30, .call { callee := .builtin .append, args := #[.tmp 27, .tmp 29], argTypes := #[23, 23] }, 23, "tape.go:132", #[⟨1, .data⟩, ⟨3, .data⟩, ⟨1, .chain⟩], none⟩) rfl (fun K hK => ?_) AllReadyH.nil
        rw [if_pos (by rfl)]
        have z0 := Ex.size hHeld
        refine wp_append_rd (enc := encN) _ (.tmp 27) (.tmp 29) 23 rfl w5.heap.size 52 (.agg #[.int .i64 0, .string ByteArray.empty, .int .u32 0]) 3 32 Tryd.underlying23 Tryd.infoN rfl (by omega) (by omega) _ ([] ++ L) own6 rfl _ _ 1 1 [X] SX (fun h => by cases h) (fun _ => rfl) (by simp [encN, Value.oneCell']) rfl (by rw [List.nil_append]; omega) (by omega) z0 ?_
        intro v7 w7 own7 ch0 ch1
        have j7 : Ex w5 w7 := Chg.trans hHeld ch1
        rw [List.nil_append] at own7
        obtain ⟨L7, h7⟩ : ∃ L7, L7 = L ++ [X] := ⟨_, rfl⟩
        rw [← h7] at own7
        have l7 : L7.length ≤ 61 := by rw [h7, List.length_append, List.length_singleton]; omega
        have H7 := Lib.hid h7
        clear h7
        obtain ⟨A7, C7, rfl, s7, _, _, _⟩ := own7.slf (fun _ => rfl)
        have s7 := s7.sl
        clear own7 own6 SX z0 ch0 ch1
        refine hK.out _ _ (j7) (fun hHeld => ?_)
        clear hK K
        try simp only [Act.put, List.setIfInBounds_toArray, List.set_cons_zero, List.set_cons_succ]
        refine wpAnyH_ready (rs := [5]) (by kernel_rfl) (by simp) ?_
        refine AllReadyH.cons (o := ⟨some 31, .call { callee := .value (.func 47), args := #[.tmp 30], argTypes := #[23] }, 4, "tape.go:132", #[⟨4, .data⟩, ⟨4, .chain⟩], none⟩) rfl (fun K hK => ?_) AllReadyH.nil
        go_simp
        (with_reducible refine (is_r _ _ _ _ _ s7 (by omega)).mono ?_)
        rintro e w8 ⟨rfl, kk⟩
        have j8 := hHeld.nx kk
        clear kk s7
        refine hK.out _ _ (j8) (fun hHeld => ?_)
        clear hK K
        try simp only [Act.put, List.setIfInBounds_toArray, List.set_cons_zero, List.set_cons_succ]
        refine wpAnyH_done (by kernel_rfl) ?_ _
        replace T := T.nx hHeld
        have own8 := O5.out.nx hHeld
        have B8 := B4.nx hHeld
        have k8 := k2.nxb (hHeld.b b)
        have c0 := B8.cell 0 _ rfl
        have c1 := B8.cell 1 _ rfl
        have c2 := B8.cell 2 _ rfl
        have k9 := R.out.k.nxb k8
        have z8 := k9.size
        clear hHeld B8 B4 SXF OWN0 S5F j6 j7 j8 s7 k8 l7
        cases hc : (checkN L7 == 0) with
        | true =>
          have HCK : Hid (checkN (L ++ [X]) = 0) := Lib.hid (by rw [← H7.out]; simpa using hc)
          clear hc
          go_wp2_with (at_builtin; (refine wpList_append_lit (enc := encN) w8 rfl _ _ 23 rfl w.heap.size 52 (.agg #[.int .i64 0, .string ByteArray.empty, .int .u32 0]) 3 32 Tryd.underlying23 Tryd.infoN rfl (by omega) (by omega) _ _ own8 rfl X _ (by rw [HX.out]; rfl) rfl (by simp [encN, Value.oneCell']) _ (by simp) rfl (by omega) (by omega) _ ?_); intro v9 w9 own9 _ ch1 _)
          refine ⟨⟨q - 1, L ++ [X], by simp; omega, by rw [show ((q - 1 : Nat) : Int) = (q : Int) - 1 by omega], own9, by simp; omega, HCK.out, ?_, TP.chg T ch1 (fun x hx => by omega), Chg.trans k9 (ch1.mono (fun x hx => hx.1))⟩, by simp [intOf]; omega⟩
          intro x hx
          rcases List.mem_append.1 hx with hx | hx
          · exact R.out.word x hx
          · rw [List.mem_singleton.1 hx, HX.out]; exact hX3
        | false =>
          clear hc
          go_wp2_with fail
          exact ⟨⟨q - 1, L, by omega, by rw [show ((q - 1 : Nat) : Int) = (q : Int) - 1 by omega], own8, by omega, R.out.ok, R.out.word, T, k9⟩, by simp [intOf]; omega⟩
    · clear hL T
      go_wp2_with fail
      go_ret
      exact ⟨_, L, rfl, R⟩
end Go.Proofs.YtbnbjiddffihoaaDoor

/- Bool of the tape, in the standard forms. -/
namespace Go.Proofs.YtbnbjiddffihoaaDoor
open Go.RowKit
set_option maxHeartbeats 400000 in
theorem bool_t {b : Nat} (n : Int) (w : World) (h : TK w b) (h1 : 1 ≤ n) (h2 : n ≤ 1000000) :
    Calls Tryd.prog 17 #[.pointer (some ⟨b, 0, none⟩), .int .i64 n] w fun e w' => ∃ r : Bool, e = .returned (.bool r) ∧ TK w' b ∧ Exb b w w' := by
  go_enter Tryd.func17, Tryd.ntmps17
  go_wp2_with fail
  refine (next_t n _ h h1 (by omega)).mono ?_
  rintro e w1 ⟨r, rfl, r0, r1, t1, k1⟩
  go_wp2_with fail
  go_ret
  exact ⟨_, rfl, t1, k1⟩
end Go.Proofs.YtbnbjiddffihoaaDoor

/- Numbers, keys, heights of the tape. -/
namespace Go.Proofs.YtbnbjiddffihoaaDoor
open Go.RowKit

def I64 (x : Int) : Prop := -9223372036854775808 ≤ x ∧ x ≤ 9223372036854775807
set_option maxHeartbeats 1000000 in
theorem id_t {b : Nat} (a : Option Addr) (n cp : Nat) (l : List Nd) (w : World) (h : TK w b) (hs : Slb 3 encN b w a n l) (hn : n ≤ 1000) (hi : ∀ x ∈ l, I64 x.id) :
    Calls Tryd.prog 14 #[.pointer (some ⟨b, 0, none⟩), .slice a n cp] w fun e w' => ∃ r : Int, e = .returned (.int .i64 r) ∧ I64 r ∧ TK w' b ∧ Exb b w w' := by
  have HI := Lib.hid hi
  have hlen := Lib.hid hs.len
  clear hi
  go_enter Tryd.func14, Tryd.ntmps14
  by_cases hn0 : n = 0
  · have d0 : ((n : Int) == 0) = true := by simp; omega
    clear hs
    go_wp2_with fail
    refine (pick_t (n := 5) (-1) 4611686018427387904 [0, -1, 999, 4611686018427387904, 1] h rfl rfl rfl (by omega) (by omega) (by intro x hx; simp at hx; omega)).mono ?_
    clear h
    rintro e w2 ⟨r, rfl, r0, r1, T, kk⟩
    go_wp2_with fail
    go_ret
    exact ⟨r, rfl, ⟨by omega, by omega⟩, T, kk⟩
  · have d0 : ((n : Int) == 0) = false := by simp; omega
    have hnp : 0 < n := by omega
    clear hn0
    go_wp2_with fail
    refine (bool_t 8 _ h (by omega) (by omega)).mono ?_
    clear h
    rintro e w1 ⟨r, rfl, T, kk⟩
    cases r with
    | true =>
      clear hs
      go_wp2_with fail
      refine (pick_t (n := 5) (-1) 4611686018427387904 [0, -1, 999, 4611686018427387904, 1] T rfl rfl rfl (by omega) (by omega) (by intro x hx; simp at hx; omega)).mono ?_
      clear T
      rintro e w2 ⟨r, rfl, r0, r1, T, k2⟩
      have kk := kk.nxb k2
      clear k2
      go_wp2_with fail
      go_ret
      exact ⟨r, rfl, ⟨by omega, by omega⟩, T, kk⟩
    | false =>
      have S1 := hs.nxb kk
      clear hs
      go_wp2_with fail
      refine (next_t (n : Int) _ T (by omega) (by omega)).mono ?_
      clear T
      rintro e w2 ⟨j, rfl, j0, j1, T, k2⟩
      obtain ⟨j, rfl⟩ := Int.eq_ofNat_of_zero_le j0
      have S2 := S1.nxb k2
      have kk := kk.nxb k2
      obtain ⟨x, o, y, rfl, hx, hy, hc⟩ := S2.sl.at (j := j) (by omega)
      have e0 : w2.cell? ⟨x, o + j * 3, none⟩ = some (.int .i64 y.id) := hc 0 _ rfl
      have hyi := Lib.hid (HI.out y (List.mem_of_getElem? hy))
      have hjn : (j : Int) < (n : Int) := by omega
      clear k2 S1 S2 hc hy
      go_wp2_with fail
      go_ret
      exact ⟨y.id, rfl, hyi.out, T, kk⟩

end Go.Proofs.YtbnbjiddffihoaaDoor

/- OddRoster of the tape. -/
namespace Go.Proofs.YtbnbjiddffihoaaDoor
open Go.RowKit

theorem flat_set1 {α : Type} {sz : Nat} {enc : α → List Value} (hsz : ∀ y, (enc y).length = sz) {c : Nat} (hc : c < sz) {y' : α} {v : Value} :
    ∀ (L : List α) (j : Nat) (y : α), L[j]? = some y → enc y' = (enc y).set c v → (L.set j y').flatMap enc = (L.flatMap enc).set (j * sz + c) v
  | [], j, y, h, _ => by simp at h
  | z :: r, 0, y, h, hv => by
    simp at h; subst h
    rw [List.set_cons_zero, List.flatMap_cons, List.flatMap_cons, hv, Nat.zero_mul, Nat.zero_add, List.set_append_left _ _ (by rw [hsz]; exact hc)]
  | z :: r, j + 1, y, h, hv => by
    rw [List.set_cons_succ, List.flatMap_cons, List.flatMap_cons, flat_set1 hsz hc r j y (by simpa using h) hv, List.set_append_right _ _ (by rw [hsz, Nat.succ_mul]; omega), hsz]
    congr 2
    rw [Nat.succ_mul]; omega
theorem own_set1 {α : Type} {sz : Nat} {enc : α → List Value} (hsz : ∀ y, (enc y).length = sz) {e : TypeId} {base : Nat} {w : World} {g n cap j c : Nat} {L : List α} {y : α} (h : OwnL sz enc e base w (.slice (some ⟨g, 0, none⟩) n cap) L)
    (hy : L[j]? = some y) (hc : c < sz) : w.cell? ⟨g, j * sz + c, none⟩ = (enc y)[c]? ∧ w.frozen? ⟨g, j * sz + c, none⟩ = false ∧
      ∀ (y' : α) (v : Value), enc y' = (enc y).set c v → OwnL sz enc e base (w.setCell ⟨g, j * sz + c, none⟩ v) (.slice (some ⟨g, 0, none⟩) n cap) (L.set j y') := by
  rcases h.2 with ⟨h1, _⟩ | ⟨g', cap', cur, e1, e2, e3, e4, e5, e6, e7⟩
  · cases h1
  · obtain ⟨rfl, hLn, rfl⟩ : g = g' ∧ n = L.length ∧ cap = cap' := by simpa using e1
    have hjl := (List.getElem?_eq_some_iff.1 hy).1
    have hlt : j * sz + c < L.length * sz := by
      have : (j + 1) * sz ≤ L.length * sz := Nat.mul_le_mul_right _ hjl
      rw [Nat.succ_mul] at this; omega
    refine ⟨?_, by simp [World.frozen?, e3], fun y' v hv => ⟨?_, .inr ⟨g, cap, _, by simp [hLn], e2, heap_set e3 _ v, by simpa using e4, e5, by simpa using e6, ?_⟩⟩⟩
    · have h2 : (cur.toList.take (L.length * sz))[j * sz + c]? = (enc y)[c]? := by
        rw [e7]
        have hcy : c < (enc y).length := by rw [hsz]; exact hc
        rw [List.getElem?_eq_getElem hcy]
        exact flat_at hsz L j y hy c _ (List.getElem?_eq_getElem hcy)
      rw [List.getElem?_take, if_pos hlt] at h2
      simpa [World.cell?, e3] using h2
    · rw [flatN_len hsz]
    · rw [flat_set1 hsz hc L j y hy hv, ← e7, List.length_set]
      simp only [Array.toList_setIfInBounds, List.take_set]

/-- what the encodings ask of a node -/
def NOk (x : Nd) : Prop := I64 x.id ∧ x.word < 4294967296 ∧ x.key.size ≤ 65
theorem roster_ok {l : List Nd} (h : checkN l = 0) : ∀ x ∈ l, NOk x ∧ 1 ≤ x.id ∧ x.id ≤ 2147483647 ∧ x.key.size ≤ 64 ∧ x.word < 65536 := by
  intro x hx
  have hb : badN x = false := by
    cases hb : badN x with
    | false => rfl
    | true =>
      exfalso
      unfold checkN at h
      have : l.any badN = true := List.any_eq_true.2 ⟨x, hx, hb⟩
      rw [this] at h
      split at h <;> simp at h
  unfold badN validN at hb
  simp at hb
  obtain ⟨⟨⟨h1, h2⟩, h3⟩, h4⟩ := hb
  exact ⟨⟨⟨by omega, by omega⟩, by omega, by omega⟩, by omega, by omega, by omega, by omega⟩
structure OddOf (n b : Nat) (w w' : World) (v : Value) (L : List Nd) : Prop where
  own : OwnL 3 encN 52 w.heap.size w' v L
  len : L.length ≤ n + 1
  ok : ∀ x ∈ L, NOk x
  tape : TK w' b
  k : Exb b w w'
end Go.Proofs.YtbnbjiddffihoaaDoor

/- The memory of Build of the package ideal: rows of links that are written link by link. -/
namespace Go.Proofs.YtbnbjiddffihoaaDoor
open Go.RowKit

/-- a block of one of the lists within -/
def InQ (qs : List (Int × Hdr)) (k : Nat) : Prop := ∃ (j : Nat) (r : Int × Hdr), qs[j]? = some r ∧ r.2.val.ownBlock = some k
/-- all that was there is as it was, but perhaps the lists within -/
def Exq (qs : List (Int × Hdr)) (w w' : World) : Prop := Chg (fun k => k < w.heap.size ∧ ¬ InQ qs k) w w'
theorem Exq.refl (qs : List (Int × Hdr)) (w : World) : Exq qs w w := Chg.refl _ w
theorem Exq.size {qs : List (Int × Hdr)} {w w' : World} (k : Exq qs w w') : w.heap.size ≤ w'.heap.size := Chg.size k
theorem Exq.nx {qs : List (Int × Hdr)} {w w1 w2 : World} (h : Exq qs w w1) (k : Ex w1 w2) : Exq qs w w2 := Chg.trans h (Chg.mono k (fun _ hk => Nat.lt_of_lt_of_le hk.1 h.size))
theorem Exq.set {qs : List (Int × Hdr)} {w w' : World} (h : Exq qs w w') {p : Addr} (v : Value) (hp : InQ qs p.block) : Exq qs w (w'.setCell p v) := Chg.setCell h v (fun k hk he => hk.2 (he ▸ hp))
/-- lists of numbers that lie in T -/
def ILt (T : Nat → Prop) (w : World) (a : Option Addr) (n : Nat) (M : List (List Int)) : Prop :=
  ∃ hs : List (Unit × Hdr), Rd 1 (encP enc0) T w a n hs ∧ M.length = n ∧ ∀ (j : Nat) (q : Unit × Hdr) (c : List Int), hs[j]? = some q → M[j]? = some c → Rd 1 encI T w q.2.1 q.2.2.1 c
theorem ILt.chg {T : Nat → Prop} {w w' : World} {a : Option Addr} {n : Nat} {M : List (List Int)} (h : ILt T w a n M) (k : Chg T w w') : ILt T w' a n M := by
  obtain ⟨hs, h1, h2, h3⟩ := h
  exact ⟨hs, Rd.chg h1 k (fun _ x => x), h2, fun j q c hq hc => Rd.chg (h3 j q c hq hc) k (fun _ x => x)⟩
theorem ILt.at {T : Nat → Prop} {w : World} {a : Option Addr} {n : Nat} {M : List (List Int)} (h : ILt T w a n M) {j : Nat} (hj : j < n) :
    ∃ x o a' n' c' c, a = some ⟨x, o, none⟩ ∧ T x ∧ M[j]? = some c ∧ w.cell? ⟨x, o + j, none⟩ = some (.slice a' n' c') ∧ Rd 1 encI T w a' n' c := by
  obtain ⟨hs, h1, h2, h3⟩ := h
  obtain ⟨x, o, q, e, hx, hq, hc⟩ := Rd.at h1 hj
  obtain ⟨c, hcc⟩ : ∃ c, M[j]? = some c := ⟨M[j]'(by omega), by simp⟩
  refine ⟨x, o, q.2.1, q.2.2.1, q.2.2.2, c, e, hx, hcc, ?_, h3 j q c hq hcc⟩
  have := hc 0 _ rfl
  rw [Nat.mul_one, Nat.add_zero] at this
  exact this
end Go.Proofs.YtbnbjiddffihoaaDoor

/- Build of the package ideal. -/
namespace Go.Proofs.YtbnbjiddffihoaaDoor
open Go.RowKit

end Go.Proofs.YtbnbjiddffihoaaDoor

/- What Build of the package ideal lays is what the reference says. -/
namespace Go.Proofs.YtbnbjiddffihoaaDoor
open Go.RowKit

theorem find_in {S : List Nd} (h : checkN S = 0) {x : Nd} (hx : x ∈ S) : findN S x.id = (x, true) := by
  have h2 : (findN S x.id).2 = true := by
    unfold findN
    cases e : S.find? (fun y => y.id == x.id) with
    | none => have := List.find?_eq_none.1 e x hx; simp at this
    | some y => rfl
  obtain ⟨h3, h4⟩ := findN_mem h2
  have h5 := ids_eq (check_keys h) h3 hx h4
  exact Prod.ext h5 h2
end Go.Proofs.YtbnbjiddffihoaaDoor

/- What the statements on the unique skip graph say, in plain Lean. -/
namespace Go.Proofs.YtbnbjiddffihoaaDoor
open Go.RowKit

theorem check_id {l : List Nd} (h : checkN l = 0) {x : Nd} (hx : x ∈ l) : 1 ≤ x.id := by
  unfold checkN at h
  split at h
  · omega
  · split at h
    · omega
    · rename_i hb
      have hb : badN x = false := by
        cases hy2 : badN x with
        | false => rfl
        | true => exact absurd (List.any_eq_true.2 ⟨x, hx, hy2⟩) hb
      unfold badN at hb
      simp only [Bool.or_eq_false_iff, decide_eq_false_iff_not] at hb
      omega
def lastI (A : List Nd) : Int := (A.getLast?.getD Nd.zero).id
def headI (B : List Nd) : Int := (B.head?.getD Nd.zero).id
/-- the nodes that agree with a word -/
def grpS (l : List Nd) (h : Int) (v : Nat) : List Nd := groupN (sortN l) h v
theorem grp_eq {l : List Nd} {h : Int} {u v : Nat} (hw : ∀ x ∈ l, x.word < 4294967296) (hu : u < 4294967296) (hv : v < 4294967296) (hs : sameN u v h = true) : grpS l h u = grpS l h v := by
  unfold grpS groupN
  apply List.filter_congr
  intro y hy
  have hy := hw y ((sortN_mem l y).1 hy)
  rw [Bool.eq_iff_iff]
  exact ⟨fun h => sameN_trans hy hu hv h hs, fun h => sameN_trans hy hv hu h (sameN_symm hs)⟩
theorem grp_mem {l : List Nd} {h : Int} {v : Nat} {y : Nd} : y ∈ grpS l h v ↔ y ∈ l ∧ sameN y.word v h = true := by
  unfold grpS groupN
  rw [List.mem_filter, sortN_mem]
theorem neigh_split {l : List Nd} (h0 : checkN l = 0) {x : Nd} (hx : x ∈ l) {h : Int} (hl : lvlN h = true) {A B : List Nd} (e : grpS l h x.word = A ++ x :: B) : neighN l x.id h = ((lastI A, headI B), true) := by
  have hf := find_in h0 hx
  obtain ⟨i, hi, _, hn⟩ := neighN_yes (l := l) (id := x.id) (h := h) h0 (by rw [hf]) hl
  have hG : thrG l x.id h = A ++ x :: B := by unfold thrG; rw [hf]; exact e
  have hA : AscS (thrG l x.id h) := asc_group (sortN_str h0) h _
  rw [hf] at hi
  rw [hG] at hi hn hA
  have h1 := idxI_at hA hi
  have h2 := idxI_at hA (i := A.length) (x := x) (by simp)
  have hi : i = A.length := by simp only at h1; omega
  subst hi
  rw [hn]
  congr 2
  · unfold leftN lastI
    by_cases ha : A.length = 0
    · rw [if_pos ha, List.length_eq_zero_iff.1 ha]; rfl
    · rw [if_neg ha, List.getElem?_append_left (by omega), List.getLast?_eq_getElem?]
  · unfold rightN headI
    rw [List.getElem?_append_right (by omega), show A.length + 1 - A.length = 1 by omega, List.getElem?_cons_succ, List.head?_eq_getElem?]
theorem grp_asc {l : List Nd} (h0 : checkN l = 0) (h : Int) (v : Nat) : AscS (grpS l h v) := asc_group (sortN_str h0) h v
theorem find_zero {l : List Nd} (h0 : checkN l = 0) : findN l 0 = (Nd.zero, false) :=
  findN_none fun j z _ hz => by have := check_id h0 (List.mem_of_getElem? hz); omega
end Go.Proofs.YtbnbjiddffihoaaDoor

/- Sorting by introductions, in plain Lean: numbers 0 .. n - 1 stand for the nodes in ascending order, K t p q says that p refers to q before round t. -/
namespace Go.Proofs.YtbnbjiddffihoaaDoor

namespace Lin
/-- a path by a relation, within bounds -/
inductive Path (M : Nat → Nat → Prop) (lo hi : Nat) : Nat → Nat → Prop
  | refl {a : Nat} : lo ≤ a → a ≤ hi → Path M lo hi a a
  | step {a c b : Nat} : lo ≤ a → a ≤ hi → M a c → Path M lo hi c b → Path M lo hi a b
theorem Path.head {M : Nat → Nat → Prop} {lo hi a b : Nat} (h : Path M lo hi a b) : lo ≤ a ∧ a ≤ hi := by cases h <;> exact ⟨by assumption, by assumption⟩
theorem Path.trans {M : Nat → Nat → Prop} {lo hi a b c : Nat} (h : Path M lo hi a b) (k : Path M lo hi b c) : Path M lo hi a c := by
  induction h with
  | refl _ _ => exact k
  | step h1 h2 h3 _ ih => exact .step h1 h2 h3 (ih k)
theorem Path.mono {M M' : Nat → Nat → Prop} {lo hi lo' hi' a b : Nat} (h : Path M lo hi a b) (hm : ∀ x y, M x y → M' x y) (h1 : lo' ≤ lo) (h2 : hi ≤ hi') : Path M' lo' hi' a b := by
  induction h with
  | refl g1 g2 => exact .refl (by omega) (by omega)
  | step g1 g2 g3 _ ih => exact .step (by omega) (by omega) (hm _ _ g3) ih
theorem Path.one {M : Nat → Nat → Prop} {lo hi a b : Nat} (h1 : lo ≤ a) (h2 : a ≤ hi) (h3 : lo ≤ b) (h4 : b ≤ hi) (h : M a b) : Path M lo hi a b := .step h1 h2 h (.refl h3 h4)
theorem Path.symm {M : Nat → Nat → Prop} (hs : ∀ x y, M x y → M y x) {lo hi a b : Nat} (h : Path M lo hi a b) : Path M lo hi b a := by
  induction h with
  | refl g1 g2 => exact .refl g1 g2
  | step g1 g2 g3 k ih => exact ih.trans (.one k.head.1 k.head.2 g1 g2 (hs _ _ g3))

/-- the row of p: itself and its references -/
def Row (K : Nat → Nat → Prop) (p x : Nat) : Prop := x = p ∨ K p x
/-- x and y lie next to each other in the row of p -/
def Adj (K : Nat → Nat → Prop) (p x y : Nat) : Prop := Row K p x ∧ Row K p y ∧ x < y ∧ ∀ r, Row K p r → ¬ (x < r ∧ r < y)
def Sym (K : Nat → Nat → Prop) (x y : Nat) : Prop := K x y ∧ K y x
theorem Sym.symm {K : Nat → Nat → Prop} {x y : Nat} (h : Sym K x y) : Sym K y x := ⟨h.2, h.1⟩
/-- what a round does at least -/
def Rnd (K K' : Nat → Nat → Prop) : Prop := ∀ p x y, Adj K p x y → Sym K' x y

section
variable {K K' : Nat → Nat → Prop}
theorem chain (hR : Rnd K K') (p : Nat) : ∀ (d x y : Nat), y - x ≤ d → Row K p x → Row K p y → x < y → Path (Sym K') x y x y := by
  intro d
  induction d with
  | zero => intro x y h _ _ hl; omega
  | succ d ih =>
    intro x y h hx hy hl
    by_cases hb : ∃ r, Row K p r ∧ x < r ∧ r < y
    · obtain ⟨r, hr, h1, h2⟩ := hb
      have p1 := ih x r (by omega) hx hr h1
      have p2 := ih r y (by omega) hr hy h2
      exact (p1.mono (fun _ _ h => h) (by omega) (by omega)).trans (p2.mono (fun _ _ h => h) (by omega) (by omega))
    · exact .one (by omega) (by omega) (by omega) (by omega) (hR p x y ⟨hx, hy, hl, fun r hr hh => hb ⟨r, hr, hh⟩⟩)
/-- two of a row are joined behind the round, within them -/
theorem joined (hR : Rnd K K') {p x y lo hi : Nat} (hx : Row K p x) (hy : Row K p y) (h1 : lo ≤ x) (h2 : x ≤ hi) (h3 : lo ≤ y) (h4 : y ≤ hi) : Path (Sym K') lo hi x y := by
  rcases Nat.lt_trichotomy x y with h | h | h
  · exact (chain hR p _ x y (Nat.le_refl _) hx hy h).mono (fun _ _ h => h) h1 h4
  · subst h; exact .refl h1 h2
  · exact ((chain hR p _ y x (Nat.le_refl _) hy hx h).mono (fun _ _ h => h) h3 h2).symm (fun _ _ h => h.symm)
theorem edge (hR : Rnd K K') {a c lo hi : Nat} (h : K a c ∨ K c a) (h1 : lo ≤ a) (h2 : a ≤ hi) (h3 : lo ≤ c) (h4 : c ≤ hi) : Path (Sym K') lo hi a c := by
  rcases h with h | h
  · exact joined hR (p := a) (.inl rfl) (.inr h) h1 h2 h3 h4
  · exact joined hR (p := c) (.inr h) (.inl rfl) h1 h2 h3 h4
/-- a round keeps what is joined, within the same bounds -/
theorem keep (hR : Rnd K K') {lo hi a b : Nat} (h : Path (fun x y => K x y ∨ K y x) lo hi a b) : Path (Sym K') lo hi a b := by
  induction h with
  | refl g1 g2 => exact .refl g1 g2
  | step g1 g2 g3 k ih => exact (edge hR g3 g1 g2 k.head.1 k.head.2).trans ih
/-- a round lowers the upper bound -/
theorem lower (hR : Rnd K K') (hirr : ∀ x, ¬ K x x) {lo hi a b : Nat} (h : Path (Sym K) lo (hi + 1) a b) (hb : b ≤ hi) :
    (a ≤ hi → Path (Sym K') lo hi a b) ∧ (a = hi + 1 → ∀ e, K (hi + 1) e → lo ≤ e → e ≤ hi → Path (Sym K') lo hi e b) := by
  induction h with
  | refl g1 g2 => exact ⟨fun h => .refl g1 h, fun h => by omega⟩
  | step g1 g2 g3 k ih =>
    rename_i a c b
    obtain ⟨i1, i2⟩ := ih hb
    refine ⟨fun ha => ?_, fun ha e he h1 h2 => ?_⟩
    · by_cases hc : c ≤ hi
      · exact (edge hR (.inl g3.1) g1 ha k.head.1 hc).trans (i1 hc)
      · have hc : c = hi + 1 := by have := k.head.2; omega
        subst hc
        exact i2 rfl a g3.2 g1 ha
    · subst ha
      have hc : c ≤ hi := by
        have := k.head.2
        rcases Nat.lt_or_ge c (hi + 1) with h | h
        · omega
        · have : c = hi + 1 := by omega
          subst this
          exact absurd g3.1 (hirr _)
      exact (joined hR (p := hi + 1) (.inr he) (.inr g3.1) h1 h2 k.head.1 hc).trans (i1 hc)
/-- a round raises the lower bound -/
theorem raise (hR : Rnd K K') (hirr : ∀ x, ¬ K x x) {lo hi a b : Nat} (h : Path (Sym K) lo hi a b) (hb : lo + 1 ≤ b) :
    (lo + 1 ≤ a → Path (Sym K') (lo + 1) hi a b) ∧ (a = lo → ∀ e, K lo e → lo + 1 ≤ e → e ≤ hi → Path (Sym K') (lo + 1) hi e b) := by
  induction h with
  | refl g1 g2 => exact ⟨fun h => .refl h g2, fun h => by omega⟩
  | step g1 g2 g3 k ih =>
    rename_i a c b
    obtain ⟨i1, i2⟩ := ih hb
    refine ⟨fun ha => ?_, fun ha e he h1 h2 => ?_⟩
    · by_cases hc : lo + 1 ≤ c
      · exact (edge hR (.inl g3.1) ha g2 hc k.head.2).trans (i1 hc)
      · have hc : c = lo := by have := k.head.1; omega
        subst hc
        exact i2 rfl a g3.2 ha g2
    · subst ha
      have hc : a + 1 ≤ c := by
        have := k.head.1
        rcases Nat.lt_or_ge a c with h | h
        · exact h
        · have : c = a := by omega
          subst this
          exact absurd g3.1 (hirr _)
      exact (joined hR (p := a) (.inr he) (.inr g3.1) h1 h2 hc k.head.2).trans (i1 hc)
end
/-- a path of two neighbours within themselves -/
theorem pair {M : Nat → Nat → Prop} {i b : Nat} (h : Path M i (i + 1) i b) (hb : b = i + 1) (hirr : ∀ x, ¬ M x x) : M i (i + 1) := by
  have gen : ∀ a b, Path M i (i + 1) a b → a = i → b = i + 1 → M i (i + 1) := by
    intro a b h
    induction h with
    | refl _ _ => intro h1 h2; omega
    | step g1 g2 g3 k ih =>
      rename_i a c b
      intro h1 h2
      subst h1
      have := k.head
      rcases (show c = a ∨ c = a + 1 by omega) with h | h
      · subst h; exact absurd g3 (hirr _)
      · subst h; exact g3
  exact gen i b h rfl hb
section
variable {n : Nat} {K : Nat → Nat → Nat → Prop}
/-- after as many rounds as there are nodes, less one, neighbours know each other -/
theorem sorts (hR : ∀ t, Rnd (K t) (K (t + 1))) (hirr : ∀ t x, ¬ K t x x) (hc : ∀ a b, a < n → b < n → Path (fun x y => K 0 x y ∨ K 0 y x) 0 (n - 1) a b) {i : Nat} (hi : i + 1 < n) : Sym (K (n - 1)) i (i + 1) := by
  have h1 : Path (Sym (K 1)) 0 (n - 1) i (i + 1) := keep (hR 0) (hc i (i + 1) (by omega) hi)
  have up : ∀ d, d ≤ n - 1 - (i + 1) → Path (Sym (K (1 + d))) 0 (n - 1 - d) i (i + 1) := by
    intro d
    induction d with
    | zero => intro _; exact h1
    | succ d ih =>
      intro hd
      have h := ih (by omega)
      rw [show n - 1 - d = (n - 1 - (d + 1)) + 1 by omega] at h
      exact (lower (hR (1 + d)) (hirr _) h (by omega)).1 (by omega)
  have h2 := up (n - 1 - (i + 1)) (Nat.le_refl _)
  rw [show n - 1 - (n - 1 - (i + 1)) = i + 1 by omega] at h2
  have down : ∀ d, d ≤ i → Path (Sym (K (1 + (n - 1 - (i + 1)) + d))) d (i + 1) i (i + 1) := by
    intro d
    induction d with
    | zero => intro _; exact h2
    | succ d ih =>
      intro hd
      exact (raise (hR (1 + (n - 1 - (i + 1)) + d)) (hirr _) (ih (by omega)) (by omega)).1 (by omega)
  have h3 := down i (Nat.le_refl _)
  rw [show 1 + (n - 1 - (i + 1)) + i = n - 1 by omega] at h3
  exact pair h3 rfl (fun x h => hirr _ x h.1)
/-- and go on knowing each other -/
theorem stays {K K' : Nat → Nat → Prop} (hR : Rnd K K') {i : Nat} (h : Sym K i (i + 1)) : Sym K' i (i + 1) :=
  hR i i (i + 1) ⟨.inl rfl, .inr h.1, by omega, fun r _ hh => by omega⟩
end
end Lin
end Go.Proofs.YtbnbjiddffihoaaDoor

/- Peers, their references and what they do in a round of the linear repair, in plain Lean. -/
namespace Go.Proofs.YtbnbjiddffihoaaDoor
open Go.RowKit

def nums4 (x : Nr) : List Int := [x.1, x.2.1, x.2.2.1, x.2.2.2]
/-- all numbers of a peer -/
def numsP (p : Pr) : List Int := p.known ++ [p.left, p.right] ++ p.near.flatMap nums4
/-- the numbers of the nodes that lie in a list, ascending, without one -/
def ordN (N : List Nd) (l : List Int) (but : Int) : List Int := ((sortN N).filter fun x => !(x.id == but) && l.contains x.id).map Nd.id
def refsN (N : List Nd) (p : Pr) : List Int := if checkN N = 0 then ordN N (numsP p) p.id else []
def peerN (P : List Pr) (id : Int) : Pr := (P.find? fun p => p.id == id).getD ⟨id, 0, 0, [], []⟩
def normalN (N : List Nd) (P : List Pr) : List Pr := if checkN N = 0 then (sortN N).map fun x => peerN P x.id else []
/-- a peer's number and its references, ascending -/
def arN (N : List Nd) (p : Pr) : List Int := if (findN N p.id).2 = true ∧ checkN N = 0 then ordN N (refsN N p ++ [p.id]) 0 else []
/-- the messages of a pair of neighbours in the row of a peer -/
def pr2 (id : Int) (q : Int × Int) : List (Int × Int) := (if q.1 = id then [] else [(q.1, q.2)]) ++ (if q.2 = id then [] else [(q.2, q.1)])
def prsN (id : Int) (l : List Int) : List (Int × Int) := (l.zip l.tail).flatMap (pr2 id)
def introsN (N : List Nd) (p : Pr) : List (Int × Int) := prsN p.id (arN N p)
/-- what stands beside a number in a list -/
def besN (id : Int) (l : List Int) : Int × Int := match l.findIdx? (· == id) with
  | none => (0, 0)
  | some i => ((if i = 0 then 0 else l[i - 1]?.getD 0), l[i + 1]?.getD 0)
def keepN (N : List Nd) (p : Pr) : Int × Int := besN p.id (arN N p)
/-- what a peer is told -/
def toldN (M : List (Int × Int)) (id : Int) : List Int := (M.filter fun m => m.1 == id).map (·.2)
def roundN (N : List Nd) (P : List Pr) : List Pr :=
  (normalN N P).map fun p => { p with left := (keepN N p).1, right := (keepN N p).2, known := ordN N ([(keepN N p).1, (keepN N p).2] ++ toldN ((normalN N P).flatMap (introsN N)) p.id) p.id }

section
variable {N : List Nd} {P : List Pr}
theorem mem_ord {l : List Int} {but id : Int} : id ∈ ordN N l but ↔ (∃ x ∈ N, x.id = id) ∧ id ≠ but ∧ id ∈ l := by
  unfold ordN
  simp only [List.mem_map, List.mem_filter, sortN_mem, Bool.and_eq_true, Bool.not_eq_true', beq_eq_false_iff_ne, List.contains_iff_mem]
  constructor
  · rintro ⟨x, ⟨h1, h2, h3⟩, rfl⟩; exact ⟨⟨x, h1, rfl⟩, h2, h3⟩
  · rintro ⟨⟨x, h1, rfl⟩, h2, h3⟩; exact ⟨x, ⟨h1, h2, h3⟩, rfl⟩
theorem mem_refs (h0 : checkN N = 0) {p : Pr} {id : Int} : id ∈ refsN N p ↔ (∃ x ∈ N, x.id = id) ∧ id ≠ p.id ∧ id ∈ numsP p := by
  unfold refsN
  rw [if_pos h0, mem_ord]
theorem peer_id (P : List Pr) (id : Int) : (peerN P id).id = id := by
  unfold peerN
  cases h : P.find? fun p => p.id == id with
  | none => rfl
  | some p => simpa using List.find?_some h
theorem ar_eq (h0 : checkN N = 0) {p : Pr} {x : Nd} (hx : x ∈ N) (hid : x.id = p.id) : arN N p = ((sortN N).filter fun y => y.id == p.id || (numsP p).contains y.id).map Nd.id := by
  unfold arN
  rw [if_pos ⟨by rw [← hid, find_in h0 hx], h0⟩]
  unfold ordN
  congr 1
  refine List.filter_congr fun y hy => ?_
  have hy := (sortN_mem N y).1 hy
  have h1 := check_id h0 hy
  rw [Bool.eq_iff_iff]
  simp only [Bool.and_eq_true, Bool.not_eq_true', beq_eq_false_iff_ne, List.contains_iff_mem, List.mem_append, List.mem_singleton, Bool.or_eq_true, beq_iff_eq, mem_refs h0]
  constructor
  · rintro ⟨_, ⟨_, _, h⟩ | h⟩
    · exact .inr h
    · exact .inl h
  · rintro (h | h)
    · exact ⟨by omega, .inr h⟩
    · by_cases he : y.id = p.id
      · exact ⟨by omega, .inr he⟩
      · exact ⟨by omega, .inl ⟨⟨y, hy, rfl⟩, he, h⟩⟩
theorem prs_mem {id a b : Int} {A B : List Int} : (a ≠ id → (a, b) ∈ prsN id (A ++ a :: b :: B)) ∧ (b ≠ id → (b, a) ∈ prsN id (A ++ a :: b :: B)) := by
  have hz : (a, b) ∈ (A ++ a :: b :: B).zip (A ++ a :: b :: B).tail := by
    induction A with
    | nil => simp
    | cons c A ih =>
      cases A with
      | nil => simp
      | cons d A =>
        have : ((c :: d :: A) ++ a :: b :: B).zip ((c :: d :: A) ++ a :: b :: B).tail = (c, d) :: ((d :: A) ++ a :: b :: B).zip ((d :: A) ++ a :: b :: B).tail := by simp
        rw [this]
        exact List.mem_cons_of_mem _ ih
  refine ⟨fun h => List.mem_flatMap.2 ⟨_, hz, ?_⟩, fun h => List.mem_flatMap.2 ⟨_, hz, ?_⟩⟩
  · unfold pr2; rw [if_neg h]; simp
  · unfold pr2; rw [if_neg (c := b = id) h]; simp
theorem bes_at {id : Int} {A B : List Int} (hA : id ∉ A) : besN id (A ++ id :: B) = ((A.getLast?.getD 0), B.head?.getD 0) := by
  have hf : (A ++ id :: B).findIdx? (· == id) = some A.length := by
    rw [List.findIdx?_eq_some_iff_getElem]
    refine ⟨by simp, by simp, fun j hj => ?_⟩
    rw [List.getElem_append_left hj]
    have : A[j] ∈ A := List.getElem_mem hj
    simp only [beq_iff_eq]
    intro h
    rw [h] at this
    exact hA this
  unfold besN
  rw [hf]
  simp only
  congr 1
  · by_cases h : A.length = 0
    · rw [if_pos h, List.length_eq_zero_iff.1 h]; rfl
    · rw [if_neg h, List.getElem?_append_left (by omega), List.getLast?_eq_getElem?]
  · rw [List.getElem?_append_right (by omega), show A.length + 1 - A.length = 1 by omega, List.getElem?_cons_succ, List.head?_eq_getElem?]
end
end Go.Proofs.YtbnbjiddffihoaaDoor

/- A round of the linear repair sorts, in plain Lean. -/
namespace Go.Proofs.YtbnbjiddffihoaaDoor
open Go.RowKit

/-- what a peer becomes in a round, told M by all -/
def rndP (N : List Nd) (M : List (Int × Int)) (p : Pr) : Pr := { p with left := (keepN N p).1, right := (keepN N p).2, known := ordN N ([(keepN N p).1, (keepN N p).2] ++ toldN M p.id) p.id }
theorem roundN_eq (N : List Nd) (P : List Pr) : roundN N P = (normalN N P).map (rndP N ((normalN N P).flatMap (introsN N))) := rfl
section
variable {N : List Nd} {P : List Pr}
theorem sort_ids {N : List Nd} (h0 : checkN N = 0) : (sortN N).Pairwise fun x y => x.id ≠ y.id := List.Pairwise.imp (fun h => h.2) (sortN_str h0)
/-- the peer of a number in a list that is made of the nodes -/
theorem peer_map {S : List Nd} (hd : S.Pairwise fun x y => x.id ≠ y.id) {f : Nd → Pr} (hf : ∀ x, (f x).id = x.id) {a : Nd} (ha : a ∈ S) : peerN (S.map f) a.id = f a := by
  unfold peerN
  have : (S.map f).find? (fun p => p.id == a.id) = some (f a) := by
    rw [List.find?_map]
    have e : ((fun p : Pr => p.id == a.id) ∘ f) = fun x : Nd => x.id == a.id := by funext x; simp [hf]
    rw [e]
    have hfd : S.find? (fun x => x.id == a.id) = some a := by
      obtain ⟨A, B, rfl⟩ := List.append_of_mem ha
      rw [List.find?_append]
      have hn : A.find? (fun x => x.id == a.id) = none := by
        rw [List.find?_eq_none]
        intro x hx
        have := (List.pairwise_append.1 hd).2.2 x hx a (by simp)
        simpa using this
      rw [hn]
      simp
    rw [hfd]; rfl
  rw [this]; rfl
theorem round_map (h0 : checkN N = 0) : roundN N P = (sortN N).map fun x => rndP N ((normalN N P).flatMap (introsN N)) (peerN P x.id) := by
  rw [roundN_eq]
  unfold normalN
  rw [if_pos h0, List.map_map]
  rfl
theorem round_peer (h0 : checkN N = 0) {a : Nd} (ha : a ∈ N) : peerN (roundN N P) a.id = rndP N ((normalN N P).flatMap (introsN N)) (peerN P a.id) := by
  rw [round_map h0]
  exact peer_map (sort_ids h0) (f := fun x => rndP N ((normalN N P).flatMap (introsN N)) (peerN P x.id)) (fun x => peer_id P x.id) ((sortN_mem N a).2 ha)
/-- x refers to y, by their places -/
def KR (N : List Nd) (P : List Pr) (x y : Nat) : Prop := ∃ a b, (sortN N)[x]? = some a ∧ (sortN N)[y]? = some b ∧ b.id ∈ refsN N (peerN P a.id)
theorem KR.lt {x y : Nat} (h : KR N P x y) : x < N.length ∧ y < N.length := by
  obtain ⟨a, b, h1, h2, _⟩ := h
  have g1 := (List.getElem?_eq_some_iff.1 h1).1
  have g2 := (List.getElem?_eq_some_iff.1 h2).1
  rw [sortN_length] at g1 g2
  exact ⟨g1, g2⟩
/-- joined by a relation, in whatever direction -/
inductive Cl (R : Int → Int → Prop) : Int → Int → Prop
  | refl (a : Int) : Cl R a a
  | step {a c b : Int} : R a c ∨ R c a → Cl R c b → Cl R a b
theorem Cl.trans {R : Int → Int → Prop} {a b c : Int} (h : Cl R a b) (k : Cl R b c) : Cl R a c := by
  induction h with
  | refl _ => exact k
  | step h1 _ ih => exact .step h1 (ih k)
theorem Cl.one {R : Int → Int → Prop} {a b : Int} (h : R a b ∨ R b a) : Cl R a b := .step h (.refl b)
theorem Cl.symm {R : Int → Int → Prop} {a b : Int} (h : Cl R a b) : Cl R b a := by
  induction h with
  | refl _ => exact .refl _
  | step h1 _ ih => exact ih.trans (.one h1.symm)
theorem Cl.mono {R R' : Int → Int → Prop} (hr : ∀ a b, R a b → Cl R' a b) {a b : Int} (h : Cl R a b) : Cl R' a b := by
  induction h with
  | refl _ => exact .refl _
  | step h1 _ ih =>
    rcases h1 with h | h
    · exact (hr _ _ h).trans ih
    · exact (hr _ _ h).symm.trans ih
/-- a node refers to another one -/
def EdgeN (N : List Nd) (P : List Pr) (u v : Int) : Prop := (∃ x ∈ N, x.id = u) ∧ v ∈ refsN N (peerN P u)
def ConnN (N : List Nd) (P : List Pr) : Prop := checkN N = 0 ∧ ∀ x ∈ N, ∀ y ∈ N, Cl (EdgeN N P) x.id y.id
end
end Go.Proofs.YtbnbjiddffihoaaDoor

/- What the statements of chapter 16 say, in plain Lean. -/
namespace Go.Proofs.YtbnbjiddffihoaaDoor
open Go.RowKit

section
variable {N : List Nd}
theorem round_len {P : List Pr} (h0 : checkN N = 0) : (roundN N P).length = N.length := by rw [round_map h0, List.length_map, sortN_length]
theorem prs_inv {id : Int} : ∀ {l : List Int} {u v : Int}, (u, v) ∈ prsN id l → u ≠ id ∧ ∃ A B, l = A ++ u :: v :: B ∨ l = A ++ v :: u :: B
  | [], u, v, h => by simp [prsN] at h
  | [a], u, v, h => by simp [prsN] at h
  | a :: b :: r, u, v, h => by
    have e : prsN id (a :: b :: r) = pr2 id (a, b) ++ prsN id (b :: r) := by unfold prsN; simp
    rw [e] at h
    rcases List.mem_append.1 h with h | h
    · unfold pr2 at h
      rcases List.mem_append.1 h with h | h
      · by_cases ha : a = id
        · rw [if_pos ha] at h; cases h
        · rw [if_neg ha] at h
          have := List.mem_singleton.1 h
          cases this
          exact ⟨ha, [], r, .inl rfl⟩
      · by_cases hb : b = id
        · rw [if_pos (c := b = id) hb] at h; cases h
        · rw [if_neg (c := b = id) hb] at h
          have := List.mem_singleton.1 h
          cases this
          exact ⟨hb, [], r, .inr rfl⟩
    · obtain ⟨h1, A, B, h2⟩ := prs_inv h
      exact ⟨h1, a :: A, B, by rcases h2 with h | h <;> simp [h]⟩
theorem ar_nodup (h0 : checkN N = 0) {p : Pr} : (arN N p).Nodup := by
  have hs := sort_ids h0
  unfold arN
  split
  · unfold ordN
    exact List.Pairwise.map _ (fun a b h => h) (hs.filter _)
  · exact List.Pairwise.nil
theorem ar_mem (h0 : checkN N = 0) {p : Pr} {u : Int} (h : u ∈ arN N p) : (∃ x ∈ N, x.id = u) ∧ (u = p.id ∨ u ∈ refsN N p) := by
  unfold arN at h
  split at h
  · obtain ⟨h1, _, h3⟩ := mem_ord.1 h
    refine ⟨h1, ?_⟩
    rcases List.mem_append.1 h3 with h | h
    · exact .inr h
    · exact .inl (List.mem_singleton.1 h)
  · cases h
/-- who stands beside a peer in its row -/
theorem keep_inv (h0 : checkN N = 0) {p : Pr} {v : Int} (hv : v ≠ 0) (h : v = (keepN N p).1 ∨ v = (keepN N p).2) : ∃ A B, arN N p = A ++ v :: p.id :: B ∨ arN N p = A ++ p.id :: v :: B := by
  unfold keepN at h
  by_cases hm : p.id ∈ arN N p
  · obtain ⟨A, B, e⟩ := List.append_of_mem hm
    have hA : p.id ∉ A := by
      have := ar_nodup h0 (p := p)
      rw [e] at this
      intro h
      exact (List.pairwise_append.1 this).2.2 p.id h p.id (by simp) rfl
    rw [e, bes_at hA] at h
    rcases h with h | h
    · rcases List.eq_nil_or_concat A with hn | ⟨A0, z, hn⟩
      · subst hn; exact absurd h hv
      · rw [List.concat_eq_append] at hn
        subst hn
        have : v = z := by simpa using h
        subst this
        exact ⟨A0, B, .inl (by rw [e]; simp)⟩
    · cases B with
      | nil => exact absurd h hv
      | cons b B0 =>
        have : v = b := by simpa using h
        subst this
        exact ⟨A, B0, .inr e⟩
  · have : (arN N p).findIdx? (· == p.id) = none := by
      rw [List.findIdx?_eq_none_iff]
      intro x hx
      simp only [beq_eq_false_iff_ne]
      intro he
      rw [he] at hx
      exact hm hx
    unfold besN at h
    rw [this] at h
    rcases h with h | h <;> exact absurd h hv
theorem keep_of (h0 : checkN N = 0) {p : Pr} {v : Int} {A B : List Int} (h : arN N p = A ++ v :: p.id :: B ∨ arN N p = A ++ p.id :: v :: B) : v = (keepN N p).1 ∨ v = (keepN N p).2 := by
  have hn := ar_nodup h0 (p := p)
  unfold keepN
  rcases h with h | h
  · rw [h] at hn ⊢
    have e : A ++ v :: p.id :: B = (A ++ [v]) ++ p.id :: B := by simp
    rw [e] at hn ⊢
    have hA : p.id ∉ A ++ [v] := fun h => (List.pairwise_append.1 hn).2.2 p.id h p.id (by simp) rfl
    rw [bes_at hA]
    left; simp
  · rw [h] at hn ⊢
    have hA : p.id ∉ A := fun h => (List.pairwise_append.1 hn).2.2 p.id h p.id (by simp) rfl
    rw [bes_at hA]
    right; rfl
variable {P : List Pr}
theorem known_iff (h0 : checkN N = 0) {x : Nd} (hx : x ∈ N) {v : Int} : v ∈ (peerN (roundN N P) x.id).known ↔ (∃ y ∈ N, y.id = v) ∧ v ≠ x.id ∧ (v = (keepN N (peerN P x.id)).1 ∨ v = (keepN N (peerN P x.id)).2 ∨ ∃ c ∈ N, (x.id, v) ∈ introsN N (peerN P c.id)) := by
  rw [round_peer h0 hx]
  unfold rndP
  rw [mem_ord, peer_id]
  have ht : v ∈ toldN ((normalN N P).flatMap (introsN N)) x.id ↔ ∃ c ∈ N, (x.id, v) ∈ introsN N (peerN P c.id) := by
    unfold toldN normalN
    rw [if_pos h0]
    simp only [List.mem_map, List.mem_filter, List.mem_flatMap, beq_iff_eq]
    constructor
    · rintro ⟨m, ⟨⟨p, ⟨c, hc, rfl⟩, hm⟩, he⟩, rfl⟩
      refine ⟨c, (sortN_mem N c).1 hc, ?_⟩
      rw [← he]; exact hm
    · rintro ⟨c, hc, hm⟩
      exact ⟨(x.id, v), ⟨⟨_, ⟨c, (sortN_mem N c).2 hc, rfl⟩, hm⟩, rfl⟩, rfl⟩
  rw [List.mem_append, ht]
  simp only [List.mem_cons, List.not_mem_nil, or_false, or_assoc]
/-- what is known is known at the other end, too -/
theorem mutual_law (h0 : checkN N = 0) {x y : Nd} (hx : x ∈ N) (hy : y ∈ N) (h : y.id ∈ (peerN (roundN N P) x.id).known) : x.id ∈ (peerN (roundN N P) y.id).known := by
  obtain ⟨_, hne, h⟩ := (known_iff h0 hx).1 h
  refine (known_iff h0 hy).2 ⟨⟨x, hx, rfl⟩, Ne.symm hne, ?_⟩
  have hy0 : y.id ≠ 0 := by have := check_id h0 hy; omega
  have hpx : (peerN P x.id).id = x.id := peer_id P x.id
  have key : (y.id = (keepN N (peerN P x.id)).1 ∨ y.id = (keepN N (peerN P x.id)).2) → ∃ c ∈ N, (y.id, x.id) ∈ introsN N (peerN P c.id) := fun h => by
    obtain ⟨A, B, h⟩ := keep_inv h0 hy0 h
    refine ⟨x, hx, ?_⟩
    unfold introsN
    rw [hpx] at h ⊢
    rcases h with h | h
    · rw [h]; exact prs_mem.1 hne
    · rw [h]; exact prs_mem.2 hne
  rcases h with h | h | ⟨c, hc, h⟩
  · exact .inr (.inr (key (.inl h)))
  · exact .inr (.inr (key (.inr h)))
  · have hpc : (peerN P c.id).id = c.id := peer_id P c.id
    unfold introsN at h
    obtain ⟨h1, A, B, h2⟩ := prs_inv h
    rw [hpc] at h1
    by_cases hyc : y.id = c.id
    · have := ids_eq (check_keys h0) hy hc hyc
      subst this
      have := keep_of h0 (p := peerN P y.id) (v := x.id) (A := A) (B := B) (by rw [hpc]; exact h2)
      rcases this with h | h
      · exact .inl h
      · exact .inr (.inl h)
    · refine .inr (.inr ⟨c, hc, ?_⟩)
      unfold introsN
      rw [hpc]
      rcases h2 with h2 | h2
      · rw [h2]; exact prs_mem.2 hyc
      · rw [h2]; exact prs_mem.1 hyc
/-- what is kept is a reference, and is known behind the round -/
theorem kept_law (h0 : checkN N = 0) {x : Nd} (hx : x ∈ N) {v : Int} (hv : v ≠ 0) (h : v = (keepN N (peerN P x.id)).1 ∨ v = (keepN N (peerN P x.id)).2) : v ∈ refsN N (peerN P x.id) ∧ v ∈ (peerN (roundN N P) x.id).known := by
  have hpx : (peerN P x.id).id = x.id := peer_id P x.id
  obtain ⟨A, B, e⟩ := keep_inv h0 hv h
  have hn := ar_nodup h0 (p := peerN P x.id)
  have hvm : v ∈ arN N (peerN P x.id) := by rcases e with e | e <;> rw [e] <;> simp
  have hne : v ≠ x.id := by
    rcases e with e | e
    · rw [e, hpx] at hn
      exact (List.pairwise_cons.1 (List.pairwise_append.1 hn).2.1).1 x.id (by simp)
    · rw [e, hpx] at hn
      exact fun he => (List.pairwise_cons.1 (List.pairwise_append.1 hn).2.1).1 v (by simp) he.symm
  obtain ⟨g1, g2⟩ := ar_mem h0 hvm
  refine ⟨?_, (known_iff h0 hx).2 ⟨g1, hne, ?_⟩⟩
  · rcases g2 with g | g
    · rw [hpx] at g; exact absurd g hne
    · exact g
  · rcases h with h | h
    · exact .inl h
    · exact .inr (.inl h)
end
end Go.Proofs.YtbnbjiddffihoaaDoor

/- How each level is made from the one below, in plain Lean. -/
namespace Go.Proofs.YtbnbjiddffihoaaDoor
open Go.RowKit

section
variable {N : List Nd}
end
end Go.Proofs.YtbnbjiddffihoaaDoor

/- Routes over links, in plain Lean. -/
namespace Go.Proofs.YtbnbjiddffihoaaDoor
open Go.RowKit

abbrev Hop := Int × Int × Int
def atL (L : List Lkd) (id lev : Int) : Int × Int := match L.find? (fun c => c.1 == id) with | some c => if lev < 0 then (0, 0) else c.2[lev.toNat]?.getD (0, 0) | none => (0, 0)
/-- the node to which a search hops -/
def hopN (N : List Nd) (L : List Lkd) (key : List UInt8) (right : Bool) (x : Nd) (lev : Nat) : Option Nd :=
  if right then (if (findN N (atL L x.id lev).2).2 && (Op.bytesLess x.key.toList (findN N (atL L x.id lev).2).1.key.toList && !Op.bytesLess key (findN N (atL L x.id lev).2).1.key.toList) then some (findN N (atL L x.id lev).2).1 else none)
  else (if (findN N (atL L x.id lev).1).2 && (Op.bytesLess (findN N (atL L x.id lev).1).1.key.toList x.key.toList && Op.bytesLess key (findN N (atL L x.id lev).1).1.key.toList) then some (findN N (atL L x.id lev).1).1 else none)
/-- the hops from a node on, from the level below lev on -/
def rtF (N : List Nd) (L : List Lkd) (key : List UInt8) (right : Bool) : Nat → Nd → Nat → List Hop → Nd × List Hop
  | 0, x, _, out => (x, out)
  | _ + 1, x, 0, out => (x, out)
  | f + 1, x, lev + 1, out =>
    match hopN N L key right x lev with
    | some y => rtF N L key right f y (lev + 1) (out ++ [(x.id, y.id, (lev : Int))])
    | none => rtF N L key right f x lev out
/-- how many nodes lie beyond -/
def bey (N : List Nd) (right : Bool) (x : Nd) : Nat := N.countP fun z => if right then Op.bytesLess x.key.toList z.key.toList else Op.bytesLess z.key.toList x.key.toList
def measR (N : List Nd) (right : Bool) (x : Nd) (lev : Nat) : Nat := lev * (N.length + 1) + bey N right x
variable {N : List Nd} {L : List Lkd} {key : List UInt8} {right : Bool}
theorem hop_mem {x y : Nd} {lev : Nat} (h : hopN N L key right x lev = some y) : y ∈ N ∧
    (if right then Op.bytesLess x.key.toList y.key.toList = true ∧ Op.bytesLess key y.key.toList = false else Op.bytesLess y.key.toList x.key.toList = true ∧ Op.bytesLess key y.key.toList = true) := by
  unfold hopN at h
  cases right with
  | true =>
    rw [if_pos rfl] at h ⊢
    split at h
    · rename_i hc
      cases h
      simp only [Bool.and_eq_true, Bool.not_eq_true'] at hc
      exact ⟨(findN_mem hc.1).1, hc.2.1, hc.2.2⟩
    · cases h
  | false =>
    rw [if_neg (by simp)] at h ⊢
    split at h
    · rename_i hc
      cases h
      simp only [Bool.and_eq_true] at hc
      exact ⟨(findN_mem hc.1).1, hc.2.1, hc.2.2⟩
    · cases h
theorem count_lt {α : Type} {p q : α → Bool} : ∀ {l : List α} {y : α}, y ∈ l → (∀ z, p z = true → q z = true) → q y = true → p y = false → l.countP p < l.countP q
  | [], _, hy, _, _, _ => by cases hy
  | a :: l, y, hy, h, h1, h2 => by
    rw [List.countP_cons, List.countP_cons]
    have hle : l.countP p ≤ l.countP q := List.countP_mono_left (fun z _ => h z)
    rcases List.mem_cons.1 hy with rfl | hy
    · rw [h1, h2]; simp; omega
    · have := count_lt hy h h1 h2
      have h3 := h a
      cases hp : p a with
      | true => rw [h3 hp]; simp; omega
      | false =>
        generalize (if q a = true then 1 else 0) = z
        simp
        omega
theorem bey_lt {x y : Nd} {lev : Nat} (h : hopN N L key right x lev = some y) : bey N right y < bey N right x := by
  obtain ⟨hm, hc⟩ := hop_mem h
  unfold bey
  cases right with
  | true =>
    rw [if_pos rfl] at hc
    refine count_lt hm (fun z hz => ?_) ?_ ?_
    · rw [if_pos rfl] at hz ⊢; exact bl_trans hc.1 hz
    · rw [if_pos rfl]; exact hc.1
    · rw [if_pos rfl]; exact bytesLess_irrefl _
  | false =>
    rw [if_neg (by simp)] at hc
    refine count_lt hm (fun z hz => ?_) ?_ ?_
    · rw [if_neg (by simp)] at hz ⊢; exact bl_trans hz hc.1
    · rw [if_neg (by simp)]; exact hc.1
    · rw [if_neg (by simp)]; exact bytesLess_irrefl _
theorem bey_le (x : Nd) : bey N right x ≤ N.length := List.countP_le_length
theorem meas_hop {x y : Nd} {lev : Nat} (h : hopN N L key right x lev = some y) : measR N right y (lev + 1) < measR N right x (lev + 1) := by
  have := bey_lt h
  unfold measR
  omega
theorem meas_down (x : Nd) (lev : Nat) : measR N right x lev < measR N right x (lev + 1) := by
  unfold measR
  rw [Nat.add_mul]
  omega
/-- a state of the search whose result is known -/
def RtSt (N : List Nd) (L : List Lkd) (key : List UInt8) (right : Bool) (R : Nd × List Hop) (x : Nd) (lev : Nat) (out : List Hop) : Prop := ∃ f, measR N right x lev ≤ f ∧ rtF N L key right f x lev out = R
theorem RtSt.start {x : Nd} {lev : Nat} (hl : lev ≤ 17) : RtSt N L key right (rtF N L key right (18 * (N.length + 1)) x lev []) x lev [] := by
  refine ⟨_, ?_, rfl⟩
  unfold measR
  have := bey_le (N := N) (right := right) x
  have : lev * (N.length + 1) ≤ 17 * (N.length + 1) := Nat.mul_le_mul_right _ hl
  omega
theorem RtSt.hop {R : Nd × List Hop} {x y : Nd} {lev : Nat} {out : List Hop} (h : RtSt N L key right R x (lev + 1) out) (hh : hopN N L key right x lev = some y) : RtSt N L key right R y (lev + 1) (out ++ [(x.id, y.id, (lev : Int))]) := by
  obtain ⟨f, h1, h2⟩ := h
  have hm := meas_hop hh
  obtain ⟨f, rfl⟩ : ∃ g, f = g + 1 := ⟨f - 1, by omega⟩
  refine ⟨f, by omega, ?_⟩
  rw [← h2]
  show _ = (match hopN N L key right x lev with | some y => rtF N L key right f y (lev + 1) (out ++ [(x.id, y.id, (lev : Int))]) | none => rtF N L key right f x lev out)
  rw [hh]
theorem RtSt.down {R : Nd × List Hop} {x : Nd} {lev : Nat} {out : List Hop} (h : RtSt N L key right R x (lev + 1) out) (hh : hopN N L key right x lev = none) : RtSt N L key right R x lev out := by
  obtain ⟨f, h1, h2⟩ := h
  have hm := meas_down (N := N) (right := right) x lev
  obtain ⟨f, rfl⟩ : ∃ g, f = g + 1 := ⟨f - 1, by omega⟩
  refine ⟨f, by omega, ?_⟩
  rw [← h2]
  show _ = (match hopN N L key right x lev with | some y => rtF N L key right f y (lev + 1) (out ++ [(x.id, y.id, (lev : Int))]) | none => rtF N L key right f x lev out)
  rw [hh]
end Go.Proofs.YtbnbjiddffihoaaDoor

/- How the hops of a route go, in plain Lean: over any links. -/
namespace Go.Proofs.YtbnbjiddffihoaaDoor
open Go.RowKit

/-- one hop on the side of the key -/
def DirN (key : List UInt8) (right : Bool) (x y : Nd) : Prop := if right then Op.bytesLess x.key.toList y.key.toList = true ∧ Op.bytesLess key y.key.toList = false else Op.bytesLess y.key.toList x.key.toList = true ∧ Op.bytesLess key y.key.toList = true
/-- hops from x at levels up to lev, ending at x' -/
def HopsOk (N : List Nd) (key : List UInt8) (right : Bool) (x' : Nd) : Nd → Nat → List Hop → Prop
  | x, _, [] => x = x'
  | x, lev, h :: hs => ∃ (y : Nd) (lev' : Nat), y ∈ N ∧ h = (x.id, y.id, (lev' : Int)) ∧ lev' ≤ lev ∧ DirN key right x y ∧ HopsOk N key right x' y lev' hs
variable {N : List Nd} {L : List Lkd} {key : List UInt8} {right : Bool}
theorem HopsOk.mono {x' : Nd} : ∀ {hs : List Hop} {x : Nd} {lev lev2 : Nat}, HopsOk N key right x' x lev hs → lev ≤ lev2 → HopsOk N key right x' x lev2 hs
  | [], _, _, _, h, _ => h
  | _ :: _, _, _, _, ⟨y, l', h1, h2, h3, h4, h5⟩, hl => ⟨y, l', h1, h2, by omega, h4, h5⟩
theorem HopsOk.len {x' : Nd} : ∀ {hs : List Hop} {x : Nd} {lev : Nat}, HopsOk N key right x' x lev hs → hs.length + bey N right x' ≤ bey N right x
  | [], _, _, h => by rw [← show _ = x' from h]; simp
  | _ :: hs, x, _, ⟨y, l', h1, h2, h3, h4, h5⟩ => by
    have := h5.len
    have hlt : bey N right y < bey N right x := by
      unfold bey
      cases right with
      | true =>
        unfold DirN at h4
        rw [if_pos rfl] at h4
        refine count_lt h1 (fun z hz => ?_) ?_ ?_
        · rw [if_pos rfl] at hz ⊢; exact bl_trans h4.1 hz
        · rw [if_pos rfl]; exact h4.1
        · rw [if_pos rfl]; exact bytesLess_irrefl _
      | false =>
        unfold DirN at h4
        rw [if_neg (by simp)] at h4
        refine count_lt h1 (fun z hz => ?_) ?_ ?_
        · rw [if_neg (by simp)] at hz ⊢; exact bl_trans hz h4.1
        · rw [if_neg (by simp)]; exact h4.1
        · rw [if_neg (by simp)]; exact bytesLess_irrefl _
    simp only [List.length_cons]
    omega
theorem HopsOk.side {x' : Nd} : ∀ {hs : List Hop} {x : Nd} {lev : Nat}, HopsOk N key right x' x lev hs → (if right then Op.bytesLess key x.key.toList = false else Op.bytesLess key x.key.toList = true) → (if right then Op.bytesLess key x'.key.toList = false else Op.bytesLess key x'.key.toList = true)
  | [], _, _, h, hk => by rw [← show _ = x' from h]; exact hk
  | _ :: hs, x, _, ⟨y, l', h1, h2, h3, h4, h5⟩, hk => h5.side (by
      unfold DirN at h4
      cases right with
      | true => rw [if_pos rfl] at h4 ⊢; exact h4.2
      | false => rw [if_neg (by simp)] at h4 ⊢; exact h4.2)
theorem HopsOk.mem {x' : Nd} : ∀ {hs : List Hop} {x : Nd} {lev : Nat}, HopsOk N key right x' x lev hs → x ∈ N → x' ∈ N
  | [], _, _, h, hx => by rw [← show _ = x' from h]; exact hx
  | _ :: _, _, _, ⟨_, _, h1, _, _, _, h5⟩, _ => h5.mem h1
/-- the hops of a route, with the last one -/
def RouteOk (N : List Nd) (key : List UInt8) (right : Bool) : Nd → Nat → List Hop → Prop
  | _, _, [] => True
  | x, lev, h :: hs => ∃ (y : Nd) (lev' : Nat), y ∈ N ∧ h = (x.id, y.id, (lev' : Int)) ∧ lev' ≤ lev ∧
      (DirN key right x y ∨ (right = false ∧ hs = [] ∧ lev' = 0 ∧ Op.bytesLess key y.key.toList = false ∧ Op.bytesLess y.key.toList x.key.toList = true)) ∧ RouteOk N key right y lev' hs
theorem HopsOk.route {x' : Nd} : ∀ {hs : List Hop} {x : Nd} {lev : Nat}, HopsOk N key right x' x lev hs → RouteOk N key right x lev hs
  | [], _, _, _ => trivial
  | _ :: _, _, _, ⟨y, l', h1, h2, h3, h4, h5⟩ => ⟨y, l', h1, h2, h3, .inl h4, h5.route⟩
theorem HopsOk.snoc {x' y : Nd} (hy : y ∈ N) (hr : right = false) (h1 : Op.bytesLess key y.key.toList = false) (h2 : Op.bytesLess y.key.toList x'.key.toList = true) : ∀ {hs : List Hop} {x : Nd} {lev : Nat}, HopsOk N key right x' x lev hs → RouteOk N key right x lev (hs ++ [(x'.id, y.id, 0)])
  | [], x, lev, h => by
    have h : x = x' := h
    subst h
    exact ⟨y, 0, hy, rfl, by omega, .inr ⟨hr, rfl, rfl, h1, h2⟩, trivial⟩
  | _ :: _, _, _, ⟨z, l', g1, g2, g3, g4, g5⟩ => ⟨z, l', g1, g2, g3, .inl g4, g5.snoc hy hr h1 h2⟩
end Go.Proofs.YtbnbjiddffihoaaDoor

/- Runs, bounds and where searches end, in plain Lean. -/
namespace Go.Proofs.YtbnbjiddffihoaaDoor
open Go.RowKit

def brkN (x : Nd) (lev : Int) (y : Nd) : Bool := y.id == x.id || sameN x.word y.word (lev + 1)
def runStep (x : Nd) (lev : Int) (s : Nat × Nat) (y : Nd) : Nat × Nat := if brkN x lev y then (s.1, 0) else (max s.1 (s.2 + 1), s.2 + 1)
def runF (x : Nd) (lev : Int) (G : List Nd) : Nat × Nat := G.foldl (runStep x lev) (0, 0)
def runN (l : List Nd) (id lev : Int) : Nat := if checkN l = 0 ∧ (findN l id).2 = true ∧ lvlN lev = true then (runF (findN l id).1 lev (thrG l id lev)).1 else 0
section
variable {x : Nd} {lev : Int}
theorem run_inv : ∀ (G : List Nd) (s : Nat × Nat), s.2 ≤ s.1 → (G.foldl (runStep x lev) s).2 ≤ (G.foldl (runStep x lev) s).1 ∧ s.1 ≤ (G.foldl (runStep x lev) s).1
  | [], s, h => ⟨h, Nat.le_refl _⟩
  | y :: G, s, h => by
    have h1 : (runStep x lev s y).2 ≤ (runStep x lev s y).1 ∧ s.1 ≤ (runStep x lev s y).1 := by
      unfold runStep
      split
      · exact ⟨Nat.zero_le _, Nat.le_refl _⟩
      · exact ⟨by show s.2 + 1 ≤ max s.1 (s.2 + 1); omega, by show s.1 ≤ max s.1 (s.2 + 1); omega⟩
    have := run_inv G _ h1.1
    exact ⟨this.1, Nat.le_trans h1.2 this.2⟩
theorem run_q : ∀ (Q : List Nd) (s : Nat × Nat), s.2 ≤ s.1 → (∀ y ∈ Q, brkN x lev y = false) → (Q.foldl (runStep x lev) s).2 = s.2 + Q.length
  | [], s, _, _ => rfl
  | y :: Q, s, h, hQ => by
    have e : runStep x lev s y = (max s.1 (s.2 + 1), s.2 + 1) := by unfold runStep; rw [hQ y (by simp)]; rfl
    show (Q.foldl (runStep x lev) (runStep x lev s y)).2 = _
    rw [e, run_q Q _ (by simp only; omega) (fun z hz => hQ z (by simp [hz]))]
    simp only [List.length_cons]
    omega
theorem run_seg (A Q B : List Nd) (hQ : ∀ y ∈ Q, brkN x lev y = false) : Q.length ≤ (runF x lev (A ++ Q ++ B)).1 := by
  unfold runF
  rw [List.foldl_append, List.foldl_append]
  have h1 := run_inv (x := x) (lev := lev) A (0, 0) (Nat.le_refl _)
  have h2 := run_q Q _ h1.1 hQ
  have h3 := run_inv (x := x) (lev := lev) Q _ h1.1
  have h4 := run_inv (x := x) (lev := lev) B _ h3.1
  omega
end
theorem runN_eq {l : List Nd} (h0 : checkN l = 0) {x : Nd} (hx : x ∈ l) {h : Nat} (hh : h ≤ 16) : runN l x.id h = (runF x h (grpS l h x.word)).1 := by
  have hf := find_in h0 hx
  unfold runN thrG
  rw [hf, if_pos ⟨h0, rfl, by unfold lvlN; simp; omega⟩]
  rfl
end Go.Proofs.YtbnbjiddffihoaaDoor

/- Where searches over exact links end, and after how many hops, in plain Lean. -/
namespace Go.Proofs.YtbnbjiddffihoaaDoor
open Go.RowKit

def dirL (right : Bool) (G : List Nd) : List Nd := if right then G else G.reverse
def dlt (right : Bool) (a b : Nd) : Bool := if right then Op.bytesLess a.key.toList b.key.toList else Op.bytesLess b.key.toList a.key.toList
def win (right : Bool) (key : List UInt8) (z : Nd) : Bool := if right then !Op.bytesLess key z.key.toList else Op.bytesLess key z.key.toList
theorem dlt_trans {right : Bool} {a b c : Nd} (h1 : dlt right a b = true) (h2 : dlt right b c = true) : dlt right a c = true := by
  cases right with
  | true => exact bl_trans h1 h2
  | false => exact bl_trans h2 h1
theorem dlt_irrefl {right : Bool} (a : Nd) : dlt right a a = false := by
  cases right <;> exact bytesLess_irrefl _
theorem win_down {right : Bool} {key : List UInt8} {a b : Nd} (h : dlt right a b = true) (hw : win right key b = true) : win right key a = true := by
  cases right with
  | true =>
    have h : Op.bytesLess a.key.toList b.key.toList = true := h
    have hw : (!Op.bytesLess key b.key.toList) = true := hw
    show (!Op.bytesLess key a.key.toList) = true
    cases hk : Op.bytesLess key a.key.toList with
    | false => rfl
    | true => rw [bl_trans hk h] at hw; cases hw
  | false =>
    have h : Op.bytesLess b.key.toList a.key.toList = true := h
    have hw : Op.bytesLess key b.key.toList = true := hw
    exact bl_trans hw h
theorem dir_asc {right : Bool} {G : List Nd} (h : AscS G) : (dirL right G).Pairwise fun a b => dlt right a b = true := by
  cases right with
  | true => exact List.Pairwise.imp (fun h => h.1) h
  | false => exact List.pairwise_reverse.2 (List.Pairwise.imp (fun h => h.1) h)
theorem dir_mem {right : Bool} {G : List Nd} {y : Nd} : y ∈ dirL right G ↔ y ∈ G := by cases right <;> simp [dirL]
section
variable {N : List Nd} {L : List Lkd} {key : List UInt8} {right : Bool}
/-- the first node of a list, if it is within the key -/
def nextW (right : Bool) (key : List UInt8) : List Nd → Option Nd
  | [] => none
  | y :: _ => if win right key y = true then some y else none
theorem nextW_nil (right : Bool) (key : List UInt8) : nextW right key [] = none := rfl
theorem nextW_cons (right : Bool) (key : List UInt8) (y : Nd) (B : List Nd) : nextW right key (y :: B) = if win right key y = true then some y else none := rfl
/-- a hop over exact links goes to the next node of the list, if it is within the key -/
theorem hop_exact (h0 : checkN N = 0) {x : Nd} {lev : Nat} (hl : lev ≤ 16) (hx : x ∈ N) (hL : atL L x.id lev = (neighN N x.id lev).1) {A B : List Nd} (e : dirL right (grpS N lev x.word) = A ++ x :: B) :
    hopN N L key right x lev = nextW right key B := by
  have hlv : lvlN (lev : Int) = true := by unfold lvlN; simp; omega
  have hm : ∀ y ∈ A ++ x :: B, y ∈ N := fun y hy => (grp_mem.1 (dir_mem.1 (by rw [e]; exact hy))).1
  have ha := dir_asc (right := right) (grp_asc h0 (lev : Int) x.word)
  rw [e] at ha
  have hxB := (List.pairwise_cons.1 (List.pairwise_append.1 ha).2.1).1
  cases right with
  | true =>
    have hn := neigh_split h0 hx hlv (A := A) (B := B) e
    unfold hopN
    rw [if_pos rfl, hL, hn]
    cases B with
    | nil => simp [headI, Nd.zero, find_zero h0, nextW_nil]
    | cons y B =>
      have hy := find_in h0 (hm y (by simp))
      have h1 : Op.bytesLess x.key.toList y.key.toList = true := hxB y (by simp)
      simp only [headI, List.head?_cons, Option.getD_some, hy]
      simp [h1, win, nextW_cons]
  | false =>
    have e' : grpS N lev x.word = B.reverse ++ x :: A.reverse := by
      have := congrArg List.reverse (show (grpS N lev x.word).reverse = A ++ x :: B from e)
      simpa using this
    have hn := neigh_split h0 hx hlv e'
    unfold hopN
    rw [if_neg (by simp), hL, hn]
    cases B with
    | nil => simp [lastI, Nd.zero, find_zero h0, nextW_nil]
    | cons y B =>
      have hy := find_in h0 (hm y (by simp))
      have h1 : Op.bytesLess y.key.toList x.key.toList = true := hxB y (by simp)
      simp only [lastI, List.reverse_cons, List.getLast?_append, List.getLast?_singleton, Option.some_or, Option.getD_some, hy]
      simp [h1, win, nextW_cons]
/-- where a search stands: at x, having made hops over Q at this level -/
def CntSt (N : List Nd) (key : List UInt8) (right : Bool) (frm : Nd) (lev : Nat) (x : Nd) (q : Nat) : Prop :=
  ∃ P A Q B, dirL right (grpS N (lev : Int) frm.word) = P ++ x :: B ∧ P ++ [x] = A ++ Q ∧ Q.length = q ∧ (∀ y ∈ Q, brkN frm lev y = false) ∧ (∀ y ∈ B, win right key y = true → brkN frm lev y = false) ∧ (x = frm ∨ dlt right frm x = true)
theorem run_dir (h0 : checkN N = 0) {frm : Nd} (hf : frm ∈ N) {lev : Nat} (hl : lev ≤ 16) {A Q B : List Nd} (e : dirL right (grpS N (lev : Int) frm.word) = A ++ Q ++ B) (hQ : ∀ y ∈ Q, brkN frm lev y = false) : Q.length ≤ runN N frm.id lev := by
  rw [runN_eq h0 hf hl]
  cases right with
  | true =>
    have e : grpS N (lev : Int) frm.word = A ++ Q ++ B := e
    rw [e]; exact run_seg A Q B hQ
  | false =>
    have e' : grpS N (lev : Int) frm.word = B.reverse ++ Q.reverse ++ A.reverse := by
      have := congrArg List.reverse (show (grpS N lev frm.word).reverse = A ++ Q ++ B from e)
      simpa using this
    rw [e', ← List.length_reverse]; exact run_seg _ _ _ (fun y hy => hQ y (by simpa using hy))
theorem CntSt.le (h0 : checkN N = 0) {frm : Nd} (hf : frm ∈ N) {lev : Nat} (hl : lev ≤ 16) {x : Nd} {q : Nat} (h : CntSt N key right frm lev x q) : q ≤ runN N frm.id lev := by
  obtain ⟨P, A, Q, B, e1, e2, rfl, h3, _, _⟩ := h
  refine run_dir (right := right) (A := A) (B := B) h0 hf hl ?_ h3
  rw [e1, ← e2]; simp
theorem CntSt.mem {frm : Nd} {lev : Nat} {x : Nd} {q : Nat} (h : CntSt N key right frm lev x q) : x ∈ N ∧ sameN x.word frm.word lev = true := by
  obtain ⟨P, A, Q, B, e1, _⟩ := h
  exact grp_mem.1 (dir_mem.1 (by rw [e1]; simp))
/-- the list of a node that agrees -/
theorem CntSt.own (hw : ∀ x ∈ N, x.word < 4294967296) {frm : Nd} (hf : frm ∈ N) {lev : Nat} {x : Nd} {q : Nat} (h : CntSt N key right frm lev x q) : grpS N (lev : Int) x.word = grpS N (lev : Int) frm.word :=
  grp_eq hw (hw x h.mem.1) (hw frm hf) h.mem.2
theorem CntSt.step (h0 : checkN N = 0) (hw : ∀ x ∈ N, x.word < 4294967296) {frm : Nd} (hf : frm ∈ N) {lev : Nat} (hl : lev ≤ 16) {x y : Nd} {q : Nat} (h : CntSt N key right frm lev x q) (hL : atL L x.id lev = (neighN N x.id lev).1) (hh : hopN N L key right x lev = some y) :
    CntSt N key right frm lev y (q + 1) := by
  have ho := h.own hw hf
  have hm := h.mem
  obtain ⟨P, A, Q, B, e1, e2, rfl, h3, h4, h5⟩ := h
  rw [hop_exact h0 hl hm.1 hL (by rw [ho]; exact e1)] at hh
  have ha := dir_asc (right := right) (grp_asc h0 (lev : Int) frm.word)
  rw [e1] at ha
  have hxB := (List.pairwise_cons.1 (List.pairwise_append.1 ha).2.1).1
  cases B with
  | nil => cases hh
  | cons z B =>
    rw [nextW_cons] at hh
    split at hh
    · rename_i hwin
      cases hh
      refine ⟨P ++ [x], A, Q ++ [y], B, by rw [e1]; simp, by rw [e2]; simp, by simp, ?_, fun z hz => h4 z (by simp [hz]), ?_⟩
      · intro z hz
        rcases List.mem_append.1 hz with h | h
        · exact h3 z h
        · have : z = y := by simpa using h
          rw [this]
          exact h4 y (by simp) hwin
      · have hxy := hxB y (by simp)
        rcases h5 with rfl | h5
        · exact .inr hxy
        · exact .inr (dlt_trans h5 hxy)
    · cases hh
theorem sameN_le {a b : Nat} {h k : Int} (hs : sameN a b h = true) (hk : k ≤ h) : sameN a b k = true := by
  unfold sameN at *
  simp only [decide_eq_true_eq] at *
  omega
theorem CntSt.down (h0 : checkN N = 0) (hw : ∀ x ∈ N, x.word < 4294967296) {frm : Nd} (hf : frm ∈ N) {lev : Nat} (hl : lev + 1 ≤ 16) {x : Nd} {q : Nat} (h : CntSt N key right frm (lev + 1) x q) (hL : atL L x.id (lev + 1 : Nat) = (neighN N x.id (lev + 1 : Nat)).1) (hh : hopN N L key right x (lev + 1) = none) :
    CntSt N key right frm lev x 0 := by
  have ho := h.own hw hf
  have hm := h.mem
  obtain ⟨P, A, Q, B, e1, e2, rfl, h3, h4, h5⟩ := h
  rw [hop_exact h0 hl hm.1 hL (by rw [ho]; exact e1)] at hh
  have ha := dir_asc (right := right) (grp_asc h0 ((lev + 1 : Nat) : Int) frm.word)
  rw [e1] at ha
  have ha2 := List.pairwise_append.1 ha
  have hxm : x ∈ dirL right (grpS N (lev : Int) frm.word) := dir_mem.2 (grp_mem.2 ⟨hm.1, sameN_le hm.2 (by omega)⟩)
  obtain ⟨P2, B2, f1⟩ := List.append_of_mem hxm
  have hb := dir_asc (right := right) (grp_asc h0 (lev : Int) frm.word)
  rw [f1] at hb
  have hb2 := (List.pairwise_cons.1 (List.pairwise_append.1 hb).2.1).1
  refine ⟨P2, P2 ++ [x], [], B2, f1, by simp, rfl, by simp, fun z hz hwz => ?_, h5⟩
  have hxz := hb2 z hz
  have hzN : z ∈ N := (grp_mem.1 (dir_mem.1 (by rw [f1]; simp [hz]))).1
  cases hbr : brkN frm lev z with
  | false => rfl
  | true =>
    exfalso
    unfold brkN at hbr
    rcases Bool.or_eq_true_iff.1 hbr with h | h
    · have hid : z.id = frm.id := by simpa using h
      have hz2 : z = frm := ids_eq (check_keys h0) hzN hf hid
      rw [hz2] at hxz
      rcases h5 with rfl | h5
      · rw [dlt_irrefl] at hxz; cases hxz
      · have := dlt_trans h5 hxz
        rw [dlt_irrefl] at this; cases this
    · have hzG : z ∈ dirL right (grpS N ((lev + 1 : Nat) : Int) frm.word) := dir_mem.2 (grp_mem.2 ⟨hzN, sameN_symm (by rw [show ((lev + 1 : Nat) : Int) = (lev : Int) + 1 by omega]; exact h)⟩)
      rw [e1] at hzG
      have hzB : z ∈ B := by
        rcases List.mem_append.1 hzG with h | h
        · have := ha2.2.2 z h x (by simp)
          have := dlt_trans this hxz
          rw [dlt_irrefl] at this; cases this
        · rcases List.mem_cons.1 h with h | h
          · rw [h, dlt_irrefl] at hxz; cases hxz
          · exact h
      cases B with
      | nil => cases hzB
      | cons y B =>
        rw [nextW_cons] at hh
        split at hh
        · cases hh
        · rename_i hwn
          rcases List.mem_cons.1 hzB with h | h
          · rw [h] at hwz; exact hwn hwz
          · exact hwn (win_down ((List.pairwise_cons.1 (List.pairwise_cons.1 ha2.2.1).2).1 z h) hwz)
end
end Go.Proofs.YtbnbjiddffihoaaDoor

/- What the statements of chapters 17 and 18 say, in plain Lean. -/
namespace Go.Proofs.YtbnbjiddffihoaaDoor
open Go.RowKit

section
variable {N : List Nd}
end
end Go.Proofs.YtbnbjiddffihoaaDoor

/- Components by labels, in plain Lean. -/
namespace Go.Proofs.YtbnbjiddffihoaaDoor
open Go.RowKit

namespace Lab
/-- one pair of places is joined -/
def joinL (lab : List Nat) (i j : Nat) : List Nat := (lab.set i (min (lab.getD i 0) (lab.getD j 0))).set j (min (lab.getD i 0) (lab.getD j 0))
def stepL (ids : List Int) (lab : List Nat) (q : Int × Int) : List Nat := match ids.findIdx? (· == q.1), ids.findIdx? (· == q.2) with
  | some i, some j => joinL lab i j
  | _, _ => lab
def sweepL (ids : List Int) (E : List (Int × Int)) (lab : List Nat) : List Nat := E.foldl (stepL ids) lab
def labsL (ids : List Int) (E : List (Int × Int)) : Nat → List Nat
  | 0 => List.range ids.length
  | t + 1 => sweepL ids E (labsL ids E t)
/-- two places are joined by a pair -/
def Ed (ids : List Int) (E : List (Int × Int)) (i j : Nat) : Prop := ∃ q ∈ E, ids.findIdx? (· == q.1) = some i ∧ ids.findIdx? (· == q.2) = some j
inductive Cn (ids : List Int) (E : List (Int × Int)) : Nat → Nat → Prop
  | refl (i : Nat) : Cn ids E i i
  | step {i j k : Nat} : Ed ids E i j ∨ Ed ids E j i → Cn ids E j k → Cn ids E i k
variable {ids : List Int} {E : List (Int × Int)}
theorem Cn.trans {i j k : Nat} (h : Cn ids E i j) (g : Cn ids E j k) : Cn ids E i k := by
  induction h with
  | refl _ => exact g
  | step h1 _ ih => exact .step h1 (ih g)
theorem Cn.one {i j : Nat} (h : Ed ids E i j ∨ Ed ids E j i) : Cn ids E i j := .step h (.refl j)
theorem Cn.symm {i j : Nat} (h : Cn ids E i j) : Cn ids E j i := by
  induction h with
  | refl _ => exact .refl _
  | step h1 _ ih => exact ih.trans (.one h1.symm)
theorem ed_lt {i j : Nat} (h : Ed ids E i j) : i < ids.length ∧ j < ids.length := by
  obtain ⟨q, _, h1, h2⟩ := h
  exact ⟨(List.findIdx?_eq_some_iff_getElem.1 h1).1, (List.findIdx?_eq_some_iff_getElem.1 h2).1⟩
theorem set_getD (l : List Nat) (i x k : Nat) (h : i < l.length) : (l.set i x).getD k 0 = if k = i then x else l.getD k 0 := by
  rw [List.getD_eq_getElem?_getD, List.getD_eq_getElem?_getD]
  by_cases hk : k = i
  · subst hk; rw [if_pos rfl, List.getElem?_set_self h]; rfl
  · rw [if_neg hk, List.getElem?_set_ne (Ne.symm hk)]
theorem join_getD (lab : List Nat) (i j k : Nat) (hi : i < lab.length) (hj : j < lab.length) : (joinL lab i j).getD k 0 = if k = i ∨ k = j then min (lab.getD i 0) (lab.getD j 0) else lab.getD k 0 := by
  unfold joinL
  rw [set_getD _ _ _ _ (by simp; exact hj), set_getD _ _ _ _ hi]
  by_cases h1 : k = j
  · rw [if_pos h1, if_pos (.inr h1)]
  · rw [if_neg h1]
    by_cases h2 : k = i
    · rw [if_pos h2, if_pos (.inl h2)]
    · rw [if_neg h2, if_neg (by rintro (h | h); exact h2 h; exact h1 h)]
theorem join_len (lab : List Nat) (i j : Nat) : (joinL lab i j).length = lab.length := by unfold joinL; simp
/-- labels of a list: places of the same component, not above -/
def Okl (ids : List Int) (E : List (Int × Int)) (lab : List Nat) : Prop := lab.length = ids.length ∧ ∀ i, i < ids.length → lab.getD i 0 ≤ i ∧ Cn ids E i (lab.getD i 0)
/-- labels fall -/
def Lel (a b : List Nat) : Prop := ∀ i, b.getD i 0 ≤ a.getD i 0
theorem stepl_ok {lab : List Nat} (h : Okl ids E lab) {q : Int × Int} (hq : q ∈ E) : Okl ids E (stepL ids lab q) ∧ Lel lab (stepL ids lab q) := by
  unfold stepL
  cases h1 : ids.findIdx? (· == q.1) with
  | none => exact ⟨h, fun i => Nat.le_refl _⟩
  | some i =>
    cases h2 : ids.findIdx? (· == q.2) with
    | none => exact ⟨h, fun i => Nat.le_refl _⟩
    | some j =>
      simp only
      have he : Ed ids E i j := ⟨q, hq, h1, h2⟩
      obtain ⟨hi, hj⟩ := ed_lt he
      have li : i < lab.length := by rw [h.1]; exact hi
      have lj : j < lab.length := by rw [h.1]; exact hj
      have ci := h.2 i hi
      have cj := h.2 j hj
      have hij : Cn ids E i j := .one (.inl he)
      refine ⟨⟨by rw [join_len]; exact h.1, fun k hk => ?_⟩, fun k => ?_⟩
      · rw [join_getD lab i j k li lj]
        by_cases hkk : k = i ∨ k = j
        · rw [if_pos hkk]
          rcases hkk with rfl | rfl
          · refine ⟨by omega, ?_⟩
            rcases Nat.le_total (lab.getD k 0) (lab.getD j 0) with h | h
            · rw [Nat.min_eq_left h]; exact ci.2
            · rw [Nat.min_eq_right h]; exact hij.trans cj.2
          · refine ⟨by omega, ?_⟩
            rcases Nat.le_total (lab.getD i 0) (lab.getD k 0) with h | h
            · rw [Nat.min_eq_left h]; exact hij.symm.trans ci.2
            · rw [Nat.min_eq_right h]; exact cj.2
        · rw [if_neg hkk]; exact h.2 k hk
      · rw [join_getD lab i j k li lj]
        by_cases hkk : k = i ∨ k = j
        · rw [if_pos hkk]
          rcases hkk with rfl | rfl <;> omega
        · rw [if_neg hkk]; exact Nat.le_refl _
theorem fold_ok : ∀ (F : List (Int × Int)) (lab : List Nat), (∀ q ∈ F, q ∈ E) → Okl ids E lab → Okl ids E (F.foldl (stepL ids) lab) ∧ Lel lab (F.foldl (stepL ids) lab)
  | [], lab, _, h => ⟨h, fun _ => Nat.le_refl _⟩
  | q :: F, lab, hF, h => by
    obtain ⟨h1, h2⟩ := stepl_ok h (hF q (by simp))
    obtain ⟨h3, h4⟩ := fold_ok F _ (fun r hr => hF r (by simp [hr])) h1
    exact ⟨h3, fun i => Nat.le_trans (h4 i) (h2 i)⟩
theorem labs_ok : ∀ t, Okl ids E (labsL ids E t)
  | 0 => ⟨by simp [labsL], fun i hi => by
      have : (labsL ids E 0).getD i 0 = i := by unfold labsL; rw [List.getD_eq_getElem?_getD, List.getElem?_range hi]; rfl
      rw [this]
      exact ⟨Nat.le_refl _, .refl _⟩⟩
  | t + 1 => (fold_ok E _ (fun _ h => h) (labs_ok t)).1
theorem labs_le (t : Nat) : Lel (labsL ids E t) (labsL ids E (t + 1)) := (fold_ok E _ (fun _ h => h) (labs_ok t)).2
/-- an edge carries the least label over -/
theorem carry {c : Nat} : ∀ (F : List (Int × Int)) (lab : List Nat), (∀ q ∈ F, q ∈ E) → Okl ids E lab → ∀ {q : Int × Int} {i j : Nat}, q ∈ F → ids.findIdx? (· == q.1) = some i → ids.findIdx? (· == q.2) = some j →
    (lab.getD i 0 ≤ c ∨ lab.getD j 0 ≤ c) → (F.foldl (stepL ids) lab).getD i 0 ≤ c ∧ (F.foldl (stepL ids) lab).getD j 0 ≤ c
  | [], _, _, _, _, _, _, hq, _, _, _ => by cases hq
  | r :: F, lab, hF, h, q, i, j, hq, h1, h2, hc => by
    have ho := stepl_ok h (hF r (by simp))
    have hl := (fold_ok F _ (fun r hr => hF r (by simp [hr])) ho.1).2
    show (F.foldl (stepL ids) (stepL ids lab r)).getD i 0 ≤ c ∧ (F.foldl (stepL ids) (stepL ids lab r)).getD j 0 ≤ c
    rcases List.mem_cons.1 hq with rfl | hq
    · have he : Ed ids E i j := ⟨q, hF q (by simp), h1, h2⟩
      obtain ⟨hi, hj⟩ := ed_lt he
      have li : i < lab.length := by rw [h.1]; exact hi
      have lj : j < lab.length := by rw [h.1]; exact hj
      have e : stepL ids lab q = joinL lab i j := by unfold stepL; rw [h1, h2]
      have gi : (stepL ids lab q).getD i 0 ≤ c := by rw [e, join_getD lab i j i li lj, if_pos (.inl rfl)]; omega
      have gj : (stepL ids lab q).getD j 0 ≤ c := by rw [e, join_getD lab i j j li lj, if_pos (.inr rfl)]; omega
      exact ⟨Nat.le_trans (hl i) gi, Nat.le_trans (hl j) gj⟩
    · refine carry F _ (fun r hr => hF r (by simp [hr])) ho.1 hq h1 h2 ?_
      rcases hc with hc | hc
      · exact .inl (Nat.le_trans (ho.2 i) hc)
      · exact .inr (Nat.le_trans (ho.2 j) hc)
theorem carry_labs {c t i j : Nat} (he : Ed ids E i j ∨ Ed ids E j i) (hc : (labsL ids E t).getD i 0 ≤ c) : (labsL ids E (t + 1)).getD j 0 ≤ c := by
  rcases he with ⟨q, hq, h1, h2⟩ | ⟨q, hq, h1, h2⟩
  · exact (carry E _ (fun _ h => h) (labs_ok t) hq h1 h2 (.inl hc)).2
  · exact (carry E _ (fun _ h => h) (labs_ok t) hq h1 h2 (.inr hc)).1
/-- somewhere a label that is too great lies beside one that is not -/
theorem border {P : Nat → Prop} (hdec : ∀ i, P i ∨ ¬ P i) {i j : Nat} (h : Cn ids E i j) : P i → ¬ P j → ∃ u v, (Ed ids E u v ∨ Ed ids E v u) ∧ P u ∧ ¬ P v ∧ Cn ids E i v := by
  induction h with
  | refl _ => intro h1 h2; exact absurd h1 h2
  | step h1 g ih =>
    rename_i i k j
    intro hi hj
    rcases hdec k with hk | hk
    · obtain ⟨u, v, h2, h3, h4, h5⟩ := ih hk hj
      exact ⟨u, v, h2, h3, h4, (Cn.one h1).trans h5⟩
    · exact ⟨i, k, h1, hi, hk, .one h1⟩
/-- after as many sweeps as there are places all of a component bear its least place -/
theorem conv {c : Nat} (hc : c < ids.length) {j : Nat} (hj : j < ids.length) (h : Cn ids E c j) : (labsL ids E ids.length).getD j 0 ≤ c := by
  -- the number of places that bear c or less grows until all of the component do
  have grow : ∀ t, (∀ j, j < ids.length → Cn ids E c j → (labsL ids E t).getD j 0 ≤ c) ∨ t + 1 ≤ ((List.range ids.length).countP fun i => decide ((labsL ids E t).getD i 0 ≤ c)) := by
    intro t
    induction t with
    | zero =>
      right
      refine List.countP_pos_iff.2 ⟨c, by simpa using hc, ?_⟩
      have := ((labs_ok (ids := ids) (E := E) 0).2 c hc).1
      simpa using this
    | succ t ih =>
      rcases ih with h | h
      · left
        intro j hj hcj
        exact Nat.le_trans (labs_le t j) (h j hj hcj)
      · by_cases hall : ∀ j, j < ids.length → Cn ids E c j → (labsL ids E t).getD j 0 ≤ c
        · left
          intro j hj hcj
          exact Nat.le_trans (labs_le t j) (hall j hj hcj)
        · right
          have hex : ∃ j, j < ids.length ∧ Cn ids E c j ∧ ¬ (labsL ids E t).getD j 0 ≤ c := by
            apply Classical.byContradiction
            intro hno
            exact hall fun j hj hcj => Classical.byContradiction fun hn => hno ⟨j, hj, hcj, hn⟩
          obtain ⟨j, hj, hcj, hn⟩ := hex
          obtain ⟨u, v, he, hu, hv, _⟩ := border (P := fun i => (labsL ids E t).getD i 0 ≤ c) (fun i => Classical.em _) hcj ((labs_ok (ids := ids) (E := E) t).2 c hc).1 hn
          have hvl : v < ids.length := by rcases he with h | h; exact (ed_lt h).2; exact (ed_lt h).1
          have := carry_labs he hu
          have hlt : ((List.range ids.length).countP fun i => decide ((labsL ids E t).getD i 0 ≤ c)) < ((List.range ids.length).countP fun i => decide ((labsL ids E (t + 1)).getD i 0 ≤ c)) :=
            count_lt (y := v) (by simpa using hvl) (fun z hz => by simp only [decide_eq_true_eq] at hz ⊢; exact Nat.le_trans (labs_le t z) hz) (by simpa using this) (by simpa using hv)
          omega
  rcases grow ids.length with g | g
  · exact g j hj h
  · have : ((List.range ids.length).countP fun i => decide ((labsL ids E ids.length).getD i 0 ≤ c)) ≤ (List.range ids.length).length := List.countP_le_length
    rw [List.length_range] at this
    omega
end Lab
end Go.Proofs.YtbnbjiddffihoaaDoor

/- What connects the nodes, by labels; in plain Lean. -/
namespace Go.Proofs.YtbnbjiddffihoaaDoor
open Go.RowKit

section
variable {N : List Nd} {E : List (Int × Int)}
end
end Go.Proofs.YtbnbjiddffihoaaDoor
