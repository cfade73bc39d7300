/- Texts for RepairReachesProof, RepairCrashesProof, RepairJoinsProof, RepairCleansProof, RepairRejoinsProof. -/
import Derived.ChangeArms
import Derived.LaidSub
import Derived.ProofKit
import Derived.OpenShut
import Derived.ShutString
import Derived.ChangeOld
import Derived.Lib.SmallJoins
import Derived.Deep.Slices
import Derived.Deep.Fields
import Derived.ChangeSame
import Derived.Test.YtofmcalfbpjoeaaGreatDoorRpAll1
import Derived.Test.YtofmcalfbpjoeaaGreatDoorRpAll3
import Derived.Test.YtofmcalfbpjoeaaGreatDoorRpAll8
import Derived.Test.YtofmcalfbpjoeaaGreatDoorRpAll16
import Derived.Test.YtofmcalfbpjoeaaGreatDoorRpAll18
import Derived.Test.YtofmcalfbpjoeaaGreatDoorRpAll20
import Derived.Test.YtofmcalfbpjoeaaGreatDoorRpAll22

namespace Go.Proofs.YtofmcalfbpjoeaaGreatDoor
open Go.RowKit
def gtP (N : List Nd) (own : Nd) (id : Int) : Bool := !(Op.bytesLess (findN N id).1.key.toList own.key.toList || ((findN N id).1.key.toList == own.key.toList))
def insAt (l : List Int) (i : Nat) (v : Int) : List Int := l.take i ++ v :: l.drop i
theorem findIdx_two {p : Int → Bool} {A B : List Int} (hA : ∀ u ∈ A, p u = false) (hB : ∀ u ∈ B, p u = true) : (A ++ B).findIdx p = A.length := by
 have h1 : A.findIdx p = A.length := List.findIdx_eq_length.2 (by simpa using hA)
 rw [List.findIdx_append, if_neg (by omega)]
 cases B with
 | nil => simp
 | cons b B => simp [List.findIdx_cons, hB b (by simp)]
section
variable {N : List Nd}
theorem row_law (h0 : checkN N = 0) {x : Nd} (hx : x ∈ N) {p : Pr} (hid : x.id = p.id) : insAt (refsN N p) ((refsN N p).findIdx (gtP N x)) p.id = arN N p := by
 obtain ⟨A, B, e⟩ := List.append_of_mem ((sortN_mem N x).2 hx)
 have hs := sortN_str h0
 unfold AscS at hs
 rw [e] at hs
 have hA : ∀ y ∈ A, Op.bytesLess y.key.toList x.key.toList = true ∧ y.id ≠ x.id := fun y hy => (List.pairwise_append.1 hs).2.2 y hy x (by simp)
 have hB : ∀ y ∈ B, Op.bytesLess x.key.toList y.key.toList = true ∧ x.id ≠ y.id := fun y hy => (List.pairwise_cons.1 (List.pairwise_append.1 hs).2.1).1 y hy
 have mA : ∀ y ∈ A, y ∈ N := fun y hy => (sortN_mem N y).1 (by rw [e]; simp [hy])
 have mB : ∀ y ∈ B, y ∈ N := fun y hy => (sortN_mem N y).1 (by rw [e]; simp [hy])
 have hr : refsN N p = (A.filter fun y => (numsP p).contains y.id).map Nd.id ++ (B.filter fun y => (numsP p).contains y.id).map Nd.id := by
  have fA : (A.filter fun y => !(y.id == p.id) && (numsP p).contains y.id) = A.filter fun y => (numsP p).contains y.id := List.filter_congr fun y hy => by
   have h1 := (hA y hy).2
   rw [hid] at h1
   simp [h1]
  have fB : (B.filter fun y => !(y.id == p.id) && (numsP p).contains y.id) = B.filter fun y => (numsP p).contains y.id := List.filter_congr fun y hy => by
   have h1 := (hB y hy).2
   rw [hid] at h1
   simp [Ne.symm h1]
  unfold refsN
  rw [if_pos h0]
  unfold ordN
  rw [e, List.filter_append, List.filter_cons_of_neg (by simp [hid]), fA, fB, List.map_append]
 have ha : arN N p = (A.filter fun y => (numsP p).contains y.id).map Nd.id ++ p.id :: (B.filter fun y => (numsP p).contains y.id).map Nd.id := by
  have fA : (A.filter fun y => y.id == p.id || (numsP p).contains y.id) = A.filter fun y => (numsP p).contains y.id := List.filter_congr fun y hy => by
   have h1 := (hA y hy).2
   rw [hid] at h1
   simp [h1]
  have fB : (B.filter fun y => y.id == p.id || (numsP p).contains y.id) = B.filter fun y => (numsP p).contains y.id := List.filter_congr fun y hy => by
   have h1 := (hB y hy).2
   rw [hid] at h1
   simp [Ne.symm h1]
  rw [ar_eq h0 hx hid, e, List.filter_append, List.filter_cons_of_pos (by simp [hid]), fA, fB, List.map_append, List.map_cons, hid]
 have hi : (refsN N p).findIdx (gtP N x) = ((A.filter fun y => (numsP p).contains y.id).map Nd.id).length := by
  rw [hr]
  refine findIdx_two (fun u hu => ?_) (fun u hu => ?_)
  ·obtain ⟨y, hy, rfl⟩ := List.mem_map.1 hu
   have hy := (List.mem_filter.1 hy).1
   unfold gtP
   rw [find_in h0 (mA y hy), (hA y hy).1]
   rfl
  ·obtain ⟨y, hy, rfl⟩ := List.mem_map.1 hu
   have hy := (List.mem_filter.1 hy).1
   have h1 := (hB y hy).1
   have h2 := bl_asymm h1
   have h3 : (y.key.toList == x.key.toList) = false := by
    rw [beq_eq_false_iff_ne]
    intro he
    rw [he, bytesLess_irrefl] at h1
    cases h1
   unfold gtP
   rw [find_in h0 (mB y hy), h2, h3]
   rfl
 rw [hi, ha, hr]
 unfold insAt
 rw [List.take_left, List.drop_left]
theorem ord_congr {l l' : List Int} {but : Int} (h : ∀ v, v ∈ l ↔ v ∈ l') : ordN N l but = ordN N l' but := by
 unfold ordN
 congr 1
 refine List.filter_congr fun y _ => ?_
 rw [Bool.eq_iff_iff]
 simp only [Bool.and_eq_true, List.contains_iff_mem, h]
theorem known_eq (h0 : checkN N = 0) (id l r : Int) (T : List Int) : refsN N ⟨id, l, r, T, []⟩ = ordN N ([l, r] ++ T) id := by
 unfold refsN
 rw [if_pos h0]
 refine ord_congr fun v => ?_
 unfold numsP
 simp only [List.flatMap_nil, List.append_nil, List.mem_append, List.mem_cons, List.not_mem_nil, or_false]
 exact Or.comm
theorem ar_ids (p : Pr) : ∀ v ∈ arN N p, ∃ x ∈ N, x.id = v := by
 intro v hv
 unfold arN at hv
 split at hv
 ·exact (mem_ord.1 hv).1
 ·cases hv
theorem ord_len (l : List Int) (but : Int) : (ordN N l but).length ≤ N.length := by
 unfold ordN
 rw [List.length_map]
 exact Nat.le_trans (List.length_filter_le _ _) (Nat.le_of_eq (sortN_length N))
theorem ar_len (p : Pr) : (arN N p).length ≤ N.length := by
 unfold arN
 split
 ·exact ord_len _ _
 ·exact Nat.zero_le _
theorem ar_nodup' (p : Pr) : (arN N p).Nodup := by
 by_cases h0 : checkN N = 0
 ·exact ar_nodup h0
 ·unfold arN
  rw [if_neg (fun h => h0 h.2)]
  exact List.Pairwise.nil
end
theorem zip_at {l : List Int} {j : Nat} {a b : Int} (ha : l[j]? = some a) (hb : l[j + 1]? = some b) : (l.zip l.tail)[j]? = some (a, b) := by
 rw [List.getElem?_zip_eq_some]
 exact ⟨ha, by rw [List.getElem?_tail]; exact hb⟩
theorem prs_snoc {id : Int} {l : List Int} {j : Nat} {a b : Int} (ha : l[j]? = some a) (hb : l[j + 1]? = some b) :
  ((l.zip l.tail).take (j + 1)).flatMap (pr2 id) = ((l.zip l.tail).take j).flatMap (pr2 id) ++ pr2 id (a, b) := by
 rw [List.take_add_one, zip_at ha hb, List.flatMap_append]
 simp
theorem prs_all {id : Int} {l : List Int} {j : Nat} (hj : l.length ≤ j + 1) : ((l.zip l.tail).take j).flatMap (pr2 id) = prsN id l := by
 unfold prsN
 rw [List.take_of_length_le (by rw [List.length_zip, List.length_tail]; omega)]
theorem pr2_len (id : Int) (q : Int × Int) : (pr2 id q).length ≤ 2 := by
 unfold pr2
 rw [List.length_append]
 split <;> split <;> simp
theorem prs_take_len (id : Int) (L : List (Int × Int)) : (L.flatMap (pr2 id)).length ≤ 2 * L.length := by
 induction L with
 | nil => simp
 | cons a L ih =>
  rw [List.flatMap_cons, List.length_append, List.length_cons]
  have := pr2_len id a
  omega
theorem prs_len (id : Int) (l : List Int) : (prsN id l).length ≤ 2 * l.length := by
 unfold prsN
 have := prs_take_len id (l.zip l.tail)
 rw [List.length_zip, List.length_tail] at this
 omega
theorem intros_len (N : List Nd) (p : Pr) : (introsN N p).length ≤ 2 * N.length := by
 have h1 := prs_len p.id (arN N p)
 have h2 := ar_len (N := N) p
 unfold introsN
 omega
theorem prs_from {id : Int} {l : List Int} {q : Int × Int} (h : q ∈ prsN id l) : q.1 ∈ l ∧ q.2 ∈ l := by
 obtain ⟨_, A, B, e | e⟩ := prs_inv (u := q.1) (v := q.2) h <;> rw [e] <;> simp
theorem told_snoc (M : List (Int × Int)) (m : Int × Int) (id : Int) : toldN (M ++ [m]) id = toldN M id ++ (if m.1 = id then [m.2] else []) := by
 unfold toldN
 rw [List.filter_append, List.map_append]
 congr 1
 by_cases h : m.1 = id
 ·rw [if_pos h]; simp [h]
 ·rw [if_neg h]; simp [h]
theorem told_len (M : List (Int × Int)) (id : Int) : (toldN M id).length ≤ M.length := by
 unfold toldN
 rw [List.length_map]
 exact List.length_filter_le _ _
theorem bes_nodup {id : Int} {l : List Int} (hd : l.Nodup) {i : Nat} (hi : l[i]? = some id) : besN id l = ((if i = 0 then 0 else l[i - 1]?.getD 0), l[i + 1]?.getD 0) := by
 have hf : l.findIdx? (· == id) = some i := by
  rw [List.findIdx?_eq_some_iff_getElem]
  obtain ⟨h1, h2⟩ := List.getElem?_eq_some_iff.1 hi
  refine ⟨h1, by simp [h2], fun j hj => ?_⟩
  have := (List.pairwise_iff_getElem.1 hd) j i (by omega) h1 hj
  rw [h2] at this
  simpa using this
 unfold besN
 rw [hf]
theorem bes_none {id : Int} {l : List Int} (h : id ∉ l) : besN id l = (0, 0) := by
 have hf : l.findIdx? (· == id) = none := by
  rw [List.findIdx?_eq_none_iff]
  intro x hx
  simp only [beq_eq_false_iff_ne]
  intro he
  exact h (he ▸ hx)
 unfold besN
 rw [hf]
theorem Tryz.gLet : Tryz.prog.globalNamed "skipgraph/skipgraphworld.letters" = some 0 := by kernel_rfl
theorem Tryz.tLet : (Tryz.prog.globals[0]?).map (·.type) = some 132 := by kernel_rfl
theorem Tryz.cells6 : Tryz.prog.cellsOf 132 = 6 := by kernel_rfl
theorem Tryz.cellsStr : Tryz.prog.cellsOf 9 = 1 := by kernel_rfl
def letL : List (List UInt8) := [[97], [98], [99], [0], [255], [109]]
theorem cells_of_strs {H : Type} {enc : TypeId × Value → H} {P : Program} {w : World} {base : Nat} {sp : Nat → Bool} {held : Bool} {fuel : Nat} {t e : TypeId} {n : Nat} {cs : List Value} {zs : List (List UInt8)} {p : List MemPlace}
  (ht : P.underlying t = some (.array n e)) (he : P.underlying e = some .string) (hce : P.cellsOf e = 1) (hct : P.cellsOf t = n)
  (h : DataW.trod enc P w base sp held fuel t cs = some (.agg (zs.map fun z => .lit (.string z)), p)) : ∀ (i : Nat) (z : List UInt8), zs[i]? = some z → ∃ s : ByteArray, s.data.toList = z ∧ cs[i]? = some (.string s) := by
 cases fuel with
 | zero => simp [DataW.trod] at h
 | succ fuel =>
  simp only [DataW.trod, ht, hce, hct, Nat.mul_one] at h
  split at h
  ·rename_i hl
   obtain ⟨xs, hm, hx⟩ := Option.map_eq_some_iff.1 h
   have hxs : xs.map (·.1) = zs.map fun z => (DataW.lit (.string z) : DataW H) := by
    have := congrArg Prod.fst hx
    simpa using this
   have hxl : xs.length = n := by simpa using Lib.mapM_length hm
   have hzl : zs.length = n := by
    have := congrArg List.length hxs
    simp at this
    omega
   intro i z hz
   have hi : i < n := by have := (List.getElem?_eq_some_iff.1 hz).1; omega
   obtain ⟨b, hb, hf⟩ := Lib.mapM_at hm i i (by simp [hi])
   obtain ⟨s, hc, rfl, _⟩ := DataW.trod_string he hf
   have h1 : cs[i]? = some (.string s) := by
    have := congrArg (·[0]?) hc
    simpa [List.getElem?_take, List.getElem?_drop] using this
   have h2 : (xs.map (·.1))[i]? = some (DataW.lit (.string s.data.toList) : DataW H) := by simp [hb]
   rw [hxs] at h2
   simp only [List.getElem?_map, Option.map_eq_some_iff, DataW.lit.injEq, Lit.string.injEq] at h2
   obtain ⟨z', hz', hzz⟩ := h2
   have : z = z' := Option.some.inj (hz.symm.trans hz')
   exact ⟨s, by rw [this, hzz], h1⟩
  ·cases h
theorem laid_let {H : Type} : (Rows.laid_skipgraph_skipgraphworld_letters : DataW H) = .agg (letL.map fun z => .lit (.string z)) := rfl
theorem letG_head {rest : List (String × DataW Unit)} {W : World} (h : laidMet Tryz.prog (("skipgraph/skipgraphworld.letters", .agg (letL.map fun z => .lit (.string z))) :: rest) W) : LetG W := by
 obtain ⟨ps, ⟨g', t', cs, fuel, p, q, hg', ht', hvar, hd, _, _⟩, _⟩ := h
 obtain rfl := Option.some.inj (Tryz.gLet.symm.trans hg')
 obtain rfl := Option.some.inj (Tryz.tLet.symm.trans ht')
 intro j hj
 obtain ⟨z, hz⟩ : ∃ z, letL[j]? = some z := ⟨letL[j]'(by simp [letL]; omega), by simp⟩
 obtain ⟨s, h1, h2⟩ := cells_of_strs Tryz.underlying132 Tryz.underlying9 Tryz.cellsStr Tryz.cells6 hd j z hz
 refine ⟨s, ?_, ?_⟩
 ·have hl : z.length = 1 := by
   have : ∀ j, j < 6 → (letL[j]?.getD []).length = 1 := by decide
   have := this j hj
   rw [hz] at this
   exact this
  have : s.data.toList.length = 1 := by rw [h1]; exact hl
  rw [Array.length_toList] at this
  exact this
 ·rw [World.var?_cell Tryz.gLet hvar j]
  simpa using h2
theorem letG_second {x : String × DataW Unit} {W : World} (h : laidMetH Tryz.prog [x, ("skipgraph/skipgraphworld.letters", Rows.laid_skipgraph_skipgraphworld_letters)] W)
  (hp : ([x, ("skipgraph/skipgraphworld.letters", Rows.laid_skipgraph_skipgraphworld_letters)].all fun x => x.2.handleName?.isNone) = true) (hx : decide (x.1 = "skipgraph/skipgraphworld.letters") = false) : LetG W := by
 rw [MakeChecks.laidMetH_plain _ _ _ hp, laid_let] at h
 have h2 := h.filter (fun y => decide (y.1 = "skipgraph/skipgraphworld.letters"))
 rw [List.filter_cons_of_neg (by rw [hx]; simp), List.filter_cons_of_pos (by simp), List.filter_nil] at h2
 exact letG_head h2
end Go.Proofs.YtofmcalfbpjoeaaGreatDoor
namespace Go.Proofs.YtofmcalfbpjoeaaGreatDoor
open Go.ChangeShapes Go.WideShapes Go.ChangeAt Go.RowKit Go.Deep Go.Joins
theorem own : ownKnob Tryz.prog.godebug = none := by kernel_rfl
theorem laidOut : laidOutB Tryz.prog = true := by kernel_rfl
section
variable {H : Type} {enc : TypeId × Value → H} {P : Program} {w : World} {base : Nat} {spare : Nat → Bool} {held : Bool}
theorem addr_lit {a : Addr} {v : Value} {w : World} (h : w.cell? (a.add 0) = some v) : a = ⟨a.block, a.off, none⟩ := by
 obtain ⟨b, o, s⟩ := a
 have : s = none := by simpa [Addr.add] using World.cell?_spot h
 subst this; rfl
theorem rd_ints {t e : TypeId} {k : IntKind} {v : Value} {d : DataW H} {p : List MemPlace} {r : Reach} {b0 : Nat} (ht : P.underlying t = some (.slice e)) (he : P.underlying e = some (.int k)) (hC : P.cellsOf e = 1)
  (hv : Value.okWide P w r b0 t v) (h : DataW.Trod enc P w base spare held t v d p) :
  ∃ a n c l, v = .slice a n c ∧ Rd 1 (fun x : Int => [Value.int k x]) (· < w.heap.size) w a n l ∧ n ≤ c ∧ c ≤ maxLen ∧ (∀ x ∈ l, (Lit.int k x).wf = true) ∧ (a = none → c = 0) := by
 obtain ⟨a0, len0, cap0, rfl⟩ := okWide_slice ht hv
 obtain ⟨fuel, hf⟩ := h
 rcases open_ints ht he hC hf with ⟨hcs, _⟩ | ⟨x, l, c, zs, hcs, _, hl, hm, hz, _, hcell, hwz⟩
 ·simp [Value.cells] at hcs
  obtain ⟨rfl, rfl, rfl⟩ := hcs
  exact ⟨none, 0, 0, [], rfl, Rd.nil _ _ _ _ _, by omega, by unfold maxLen; omega, by simp, fun _ => rfl⟩
 ·simp [Value.cells] at hcs
  obtain ⟨rfl, rfl, rfl⟩ := hcs
  have hz' : len0 ≤ zs.length := by rw [hz]; split <;> omega
  refine ⟨_, len0, cap0, zs.take len0, rfl, ⟨by simp; omega, ?_⟩, hl, hm, fun y hy => hwz y (List.mem_of_mem_take hy), fun h => by cases h⟩
  rcases Nat.eq_zero_or_pos len0 with h0 | h0
  ·exact .inl h0
  ·have hx := addr_lit (hcell 0 (by omega))
   refine .inr ⟨x.block, x.off, by rw [← hx], ?_, fun j y hj c u hu => ?_⟩
   ·have := World.block_lt_of_cell? w _ (hcell 0 (by omega))
    rw [hx] at this
    simpa [Addr.add] using this
   ·have hj' : j < len0 := by
     have := (List.getElem?_eq_some_iff.1 hj).1
     simp at this; omega
    have hy : zs.getD j 0 = y := by
     rw [List.getElem?_take, if_pos hj'] at hj
     simp [List.getD, hj]
    have hc := hcell j (by omega)
    rw [hx, Addr.add_lit, hy] at hc
    rcases c with _ | c
    ·simp at hu; subst hu; simpa using hc
    ·simp at hu
end
end Go.Proofs.YtofmcalfbpjoeaaGreatDoor
