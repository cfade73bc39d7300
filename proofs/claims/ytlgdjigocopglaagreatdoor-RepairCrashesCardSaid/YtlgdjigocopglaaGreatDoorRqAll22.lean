/- Shared texts. -/
import Derived.ChangeArms
import Derived.LaidSub
import Derived.Test.YtlgdjigocopglaaGreatDoorRqAll19
import Derived.Test.YtlgdjigocopglaaGreatDoorRqAll21
set_option linter.unusedSimpArgs false
set_option linter.unusedVariables false

namespace Go.Proofs.YtlgdjigocopglaaGreatDoor
open Go.RowKit
theorem OwnLk.nl' {base : Nat} {w : World} {v : Value} {qs : List (Int × Hdr)} {L : List Lkd} (h : OwnLk base w v qs L) : ∃ a cap, v = .slice a L.length cap ∧ LkL w a L.length L := by
 obtain ⟨a, cap, e, r, _⟩ := OwnN.nl (encA := encI) (s1 := 2) (encB := encS) (s2 := 2) (fun _ => rfl) (fun _ => rfl) h
 exact ⟨a, cap, e, r⟩
theorem links_rows (N : List Nd) (P : List Pr) (h : Int) : ∀ c ∈ linksB N P h, c.2.length ≤ 17 := by
 intro c hc
 unfold linksB at hc
 split at hc
 ·rename_i hl
  obtain ⟨p, _, rfl⟩ := List.mem_map.1 hc
  unfold lvlN at hl
  simp at hl
  simp
  omega
 ·cases hc
theorem links_len (N : List Nd) (P : List Pr) (h : Int) : (linksB N P h).length ≤ N.length := by
 unfold linksB
 split
 ·rw [List.length_map]; exact (normal_le N P).1
 ·exact Nat.zero_le _
theorem exactB_no {N : List Nd} {P : List Pr} {h : Int} (he : ¬ (buildN N h).2 = 0) : exactB N P h = false := by
 unfold exactB
 rw [show ((buildN N h).2 == 0) = false by simpa using he, Bool.false_and]
theorem exactB_eq {N : List Nd} {P : List Pr} {h : Int} (he : (buildN N h).2 = 0) : exactB N P h = decide (linksB N P h = (buildN N h).1) := by
 unfold exactB
 rw [he]
 rfl
set_option maxHeartbeats 2000000 in
theorem bexact_p (a : Option Addr) (n c : Nat) (N : List Nd) (a2 : Option Addr) (n2 c2 : Nat) (P : List Pr) (hh : Int) (w : World) (h : Sl 3 encN w a n N) (hn : n ≤ 1000) (hc : n ≤ c) (hm : c ≤ maxLen) (hw : ∀ x ∈ N, x.word < 4294967296) (hT : TabG w) (h2 : PL w a2 n2 P) (hn2 : n2 ≤ 4000000000000000000) (hP : SmallP P) :
  Calls Tryz.prog 32 #[.slice a n c, .slice a2 n2 c2, .int .i64 hh] w fun e w' => e = .returned (.bool (exactB N P hh)) ∧ Ex w w' := by
 have HL := lH h.len
 have HW := lH hw
 have EX := Ex.refl w
 clear hw
 have HP := lH hP
 clear hP
 go_enter Tryz.func32, Tryz.ntmps32
 go_wp2_with fail
 (with_reducible refine (build_p _ _ _ N hh _ h hn hc hm HW.out hT).mono ?_)
 rintro e w1 ⟨v, qs, rfl, own, kk⟩
 replace h := h.nx kk
 replace h2 := h2.nx kk
 replace EX := EX.nx kk
 clear kk
 obtain ⟨aB, cB, rfl, LB⟩ := OwnLk.nl' own
 clear own hT
 have LB := lH LB
 by_cases he : (buildN N hh).2 = 0
 ·have E0 := lH (exactB_eq (P := P) he)
  have d1 : ((buildN N hh).2 == 0) = true := by rw [he]; rfl
  clear he
  have hll := links_len N P hh
  have hlr := lH (links_rows N P hh)
  go_wp2_with fail
  (with_reducible refine (links_p _ _ _ N _ _ _ P hh _ h hn hc hm HW.out h2 hn2 HP.out).mono ?_)
  rintro e w2 ⟨v, qs, rfl, own, kk⟩
  replace EX := EX.nx kk
  obtain ⟨aL, cL, rfl, LL⟩ := OwnLk.nl' own
  replace LB := lH (LB.out.nx kk)
  clear h h2 kk own
  have hl : (linksB N P hh).length ≤ 1000000 := by have := HL.out; omega
  go_wp2_with fail
  (with_reducible refine (same_lp _ _ _ _ _ _ _ _ _ LL LB.out hl (fun c hc => Nat.le_trans (hlr.out c hc) (by omega))).mono ?_)
  rintro e w3 ⟨rfl, kk⟩
  rw [← E0.out]
  replace EX := lH (EX.nx kk)
  clear LL kk
  go_wp2_with fail
  go_ret
  exact ⟨rfl, EX.out⟩
 ·have E0 := lH (exactB_no (P := P) he)
  have d1 : ((buildN N hh).2 == 0) = false := by simpa using he
  have EX := lH EX
  clear he h h2
  go_wp2_with fail
  go_ret
  exact ⟨by rw [E0.out]; rfl, EX.out⟩
theorem Tryz.gLet : Tryz.prog.globalNamed "skipgraph/skipgraphworld.letters" = some 0 := by kernel_rfl
theorem Tryz.tLet : (Tryz.prog.globals[0]?).map (·.type) = some 99 := by kernel_rfl
theorem Tryz.cells6 : Tryz.prog.cellsOf 99 = 6 := by kernel_rfl
theorem Tryz.cellsStr : Tryz.prog.cellsOf 9 = 1 := by kernel_rfl
def letL : List (List UInt8) := [[97], [98], [99], [0], [255], [109]]
theorem cells_of_strs {H : Type} {enc : TypeId × Value → H} {P : Program} {w : World} {base : Nat} {sp : Nat → Bool} {held : Bool} {fuel : Nat} {t e : TypeId} {n : Nat} {cs : List Value} {zs : List (List UInt8)} {p : List MemPlace}
  (ht : P.underlying t = some (.array n e)) (he : P.underlying e = some .string) (hce : P.cellsOf e = 1) (hct : P.cellsOf t = n)
  (h : DataW.trod enc P w base sp held fuel t cs = some (.agg (zs.map fun z => .lit (.string z)), p)) : ∀ (i : Nat) (z : List UInt8), zs[i]? = some z → ∃ s : ByteArray, s.data.toList = z ∧ cs[i]? = some (.string s) := by
 cases fuel with
 | zero => simp [DataW.trod] at h
 | succ fuel =>
  simp only [DataW.trod, ht, hce, hct, Nat.mul_one] at h
  split at h
  ·rename_i hl
   obtain ⟨xs, hm, hx⟩ := Option.map_eq_some_iff.1 h
   have hxs : xs.map (·.1) = zs.map fun z => (DataW.lit (.string z) : DataW H) := by
    have := congrArg Prod.fst hx
    simpa using this
   have hxl : xs.length = n := by simpa using Lib.mapM_length hm
   have hzl : zs.length = n := by
    have := congrArg List.length hxs
    simp at this
    omega
   intro i z hz
   have hi : i < n := by have := (List.getElem?_eq_some_iff.1 hz).1; omega
   obtain ⟨b, hb, hf⟩ := Lib.mapM_at hm i i (by simp [hi])
   obtain ⟨s, hc, rfl, _⟩ := DataW.trod_string he hf
   have h1 : cs[i]? = some (.string s) := by
    have := congrArg (·[0]?) hc
    simpa [List.getElem?_take, List.getElem?_drop] using this
   have h2 : (xs.map (·.1))[i]? = some (DataW.lit (.string s.data.toList) : DataW H) := by simp [hb]
   rw [hxs] at h2
   simp only [List.getElem?_map, Option.map_eq_some_iff, DataW.lit.injEq, Lit.string.injEq] at h2
   obtain ⟨z', hz', hzz⟩ := h2
   have : z = z' := Option.some.inj (hz.symm.trans hz')
   exact ⟨s, by rw [this, hzz], h1⟩
  ·cases h
theorem laid_let {H : Type} : (Rows.laid_skipgraph_skipgraphworld_letters : DataW H) = .agg (letL.map fun z => .lit (.string z)) := rfl
theorem letG_head {rest : List (String × DataW Unit)} {W : World} (h : laidMet Tryz.prog (("skipgraph/skipgraphworld.letters", .agg (letL.map fun z => .lit (.string z))) :: rest) W) : LetG W := by
 obtain ⟨ps, ⟨g', t', cs, fuel, p, q, hg', ht', hvar, hd, _, _⟩, _⟩ := h
 obtain rfl := Option.some.inj (Tryz.gLet.symm.trans hg')
 obtain rfl := Option.some.inj (Tryz.tLet.symm.trans ht')
 intro j hj
 obtain ⟨z, hz⟩ : ∃ z, letL[j]? = some z := ⟨letL[j]'(by simp [letL]; omega), by simp⟩
 obtain ⟨s, h1, h2⟩ := cells_of_strs Tryz.underlying99 Tryz.underlying9 Tryz.cellsStr Tryz.cells6 hd j z hz
 refine ⟨s, ?_, ?_⟩
 ·have hl : z.length = 1 := by
   have : ∀ j, j < 6 → (letL[j]?.getD []).length = 1 := by decide
   have := this j hj
   rw [hz] at this
   exact this
  have : s.data.toList.length = 1 := by rw [h1]; exact hl
  rw [Array.length_toList] at this
  exact this
 ·rw [World.var?_cell Tryz.gLet hvar j]
  simpa using h2
theorem letG_second {x : String × DataW Unit} {W : World} (h : laidMetH Tryz.prog [x, ("skipgraph/skipgraphworld.letters", Rows.laid_skipgraph_skipgraphworld_letters)] W)
  (hp : ([x, ("skipgraph/skipgraphworld.letters", Rows.laid_skipgraph_skipgraphworld_letters)].all fun x => x.2.handleName?.isNone) = true) (hx : decide (x.1 = "skipgraph/skipgraphworld.letters") = false) : LetG W := by
 rw [MakeChecks.laidMetH_plain _ _ _ hp, laid_let] at h
 have h2 := h.filter (fun y => decide (y.1 = "skipgraph/skipgraphworld.letters"))
 rw [List.filter_cons_of_neg (by rw [hx]; simp), List.filter_cons_of_pos (by simp), List.filter_nil] at h2
 exact letG_head h2
end Go.Proofs.YtlgdjigocopglaaGreatDoor
