/- Texts for the statement RedundantSurvivesProof, part 7 of 7: TPe, RdGa, TPs, RdSu, Laid4, LaidL, Laid2, Open, RedundantSurvivesProof. -/
import Derived.Test.YtkjlhcfocefhpaaDoorTie
import Derived.Test.YtkjlhcfocefhpaaDoorCards
import Derived.Lib.LaidTab
import Derived.Lib.LaidU8
import Derived.LaidMore
import Derived.Stop.Joined
import Derived.SevenTiedAt
import Derived.ChangeArms
import Derived.LaidSub
import Derived.Test.YtkjlhcfocefhpaaDoorRows
import Derived.ProofKit
import Derived.OpenShut
import Derived.ShutString
import Derived.ChangeOld
import Derived.Lib.SmallJoins
import Derived.Deep.Slices
import Derived.Deep.Fields
import Derived.ChangeSame
import Derived.Test.YtkjlhcfocefhpaaDoorRedundantSurvivesProofPk1
import Derived.Test.YtkjlhcfocefhpaaDoorRedundantSurvivesProofPk2
import Derived.Test.YtkjlhcfocefhpaaDoorRedundantSurvivesProofPk3
import Derived.Test.YtkjlhcfocefhpaaDoorRedundantSurvivesProofPk4
import Derived.Test.YtkjlhcfocefhpaaDoorRedundantSurvivesProofPk5
import Derived.Test.YtkjlhcfocefhpaaDoorRedundantSurvivesProofPk6

/- Numbers of nodes that are down, and peers, from the tape. -/
namespace Go.Proofs.YtkjlhcfocefhpaaDoor
open Go.RowKit

theorem Blk.app {α : Type} {sz e base g : Nat} {enc : α → List Value} {w w' : World} {v : Value} {l : List α} {cs : List Value} {ty : TypeId} (B : Blk w g cs ty) (own : OwnL sz enc e base w v l) (hne : e ≠ ty) (k : Chg (fun k => k < w.heap.size ∧ ¬ v.ownBlock = some k) w w') : Blk w' g cs ty :=
  (Chg.block k g ⟨B.lt, fun hv => own.ne_blk B hne hv rfl⟩).trans B
theorem OwnL.app {α β : Type} {sz sz' e e' base base' : Nat} {enc : α → List Value} {enc' : β → List Value} {w w' : World} {v v' : Value} {l : List α} {l' : List β} (o : OwnL sz enc e base w v l) (own : OwnL sz' enc' e' base' w v' l') (hne : e ≠ e') (k : Chg (fun k => k < w.heap.size ∧ ¬ v'.ownBlock = some k) w w') : OwnL sz enc e base w' v l :=
  o.chg k fun x hx hv => ⟨hx, fun hv' => by
    obtain ⟨_, c1, h1⟩ := o.blk hv
    obtain ⟨_, c2, h2⟩ := own.blk hv'
    exact blk_kind hne h1 h2⟩
/-- a list of at most n numbers -/
structure DnOf (n b : Nat) (w w' : World) (v : Value) (l : List Int) : Prop where
  own : OwnL 1 encI 3 w.heap.size w' v l
  len : l.length ≤ n
  i64 : ∀ x ∈ l, I64 x
  tape : TK w' b
  k : Exb b w w'
set_option maxRecDepth 100000 in
set_option maxHeartbeats 2000000 in
theorem down_t {b : Nat} (n : Nat) (a : Option Addr) (na cp : Nat) (l : List Nd) (w : World) (h : TK w b) (hs : Slb 3 encN b w a na l) (hna : na ≤ 1000) (hi : ∀ x ∈ l, I64 x.id) (hn : n ≤ 1000) :
    Calls Tryd.prog 39 #[.pointer (some ⟨b, 0, none⟩), .slice a na cp, .int .i64 n] w fun e w' => ∃ v r, e = .returned v ∧ DnOf n b w w' v r := by
  have hbw := h.lt
  have HI := Lib.hid hi
  clear hi
  go_enter Tryd.func39, Tryd.ntmps39
  go_wp2_with fail
  refine (next_t ((n : Int) + 1) _ h (by omega) (by omega)).mono ?_
  rintro e w1 ⟨q, rfl, q0, q1, T, kk⟩
  obtain ⟨q, rfl⟩ := Int.eq_ofNat_of_zero_le q0
  have HS := Lib.hid hs
  clear h hs
  go_wp2_with fail
  go_loopw [7, 8] (fun o i wr => ∃ (q : Nat) (L : List Int), L.length + q ≤ n ∧ i = .int .i64 q ∧ DnOf n b w wr o L) (fun _ i _ => (intOf i).toNat)
  case atStart => exact ⟨q, [], by simp; omega, rfl, OwnL.nil _ _ _ _ _, by simp, by simp, T, kk⟩
  case round =>
    clear T kk
    obtain ⟨q, L, hq, rfl, R⟩ := hrel
    obtain ⟨wo, rfl⟩ : ∃ wo : World, wo = wr := ⟨_, rfl⟩
    by_cases hq0 : 0 < q
    · have T := R.tape
      have R := Lib.hid R
      go_wp2_with fail
      refine (id_t _ _ _ l _ T (HS.out.nxb R.out.k) hna HI.out).mono ?_
      clear T
      rintro e w2 ⟨r, rfl, hr, T, k2⟩
      have HR := Lib.hid hr
      have own := R.out.own.nxb hbw k2
      have kk := R.out.k.nxb k2
      have zz := kk.size
      have hLl : L.length ≤ 1000 := by omega
      clear k2 hr
      go_wp2_with (at_builtin; (refine wpList_append_lit (enc := encI) w2 rfl _ _ 22 rfl w.heap.size 3 (.int .i64 0) 1 8 Tryd.underlying22 Tryd.infoI6 rfl (by omega) (by omega) _ _ own rfl (r : Int) _ rfl rfl (by simp [encI, Value.oneCell']) _ (by simp) rfl (by omega) zz _ ?_); intro v6 w6 own6 _ ch1 _)
      refine ⟨⟨q - 1, L ++ [r], by simp; omega, by rw [show ((q - 1 : Nat) : Int) = (q : Int) - 1 by omega], own6, by simp; omega, ?_, TP.chg T ch1 (fun x hx => by omega), Chg.trans kk (ch1.mono (fun x hx => hx.1))⟩, by simp [intOf]; omega⟩
      intro x hx
      rcases List.mem_append.1 hx with h1 | h1
      · exact R.out.i64 x h1
      · rw [List.mem_singleton.1 h1]; exact HR.out
    · have R := Lib.hid R
      go_wp2_with fail
      go_ret
      exact ⟨_, L, rfl, R.out⟩

/-- a store into a row of another type -/
theorem OwnL.apart {α β : Type} {sz sz' e e' base base' g : Nat} {enc : α → List Value} {enc' : β → List Value} {w w' : World} {v v' : Value} {l : List α} {l' : List β} (o : OwnL sz enc e base w v l) (own : OwnL sz' enc' e' base' w v' l') (hne : e ≠ e') (hg : v'.ownBlock = some g) (k : Exb g w w') : OwnL sz enc e base w' v l :=
  o.chg k fun x hx hv => ⟨hx, by
    rintro rfl
    obtain ⟨_, c1, h1⟩ := o.blk hv
    obtain ⟨_, c2, h2⟩ := own.blk hg
    exact blk_kind hne h1 h2⟩
/-- a peer that was just made -/
structure PeOf (m b : Nat) (w w' : World) (p : Pr) (hk hn : Hdr) : Prop where
  ok : OwnL 1 encI 3 w.heap.size w' hk.val p.known
  on : OwnL 4 encNr 123 w.heap.size w' hn.val p.near
  lk : p.known.length ≤ 3
  ln : p.near.length ≤ m
  id : I64 p.id
  tape : TK w' b
  k : Exb b w w'
end Go.Proofs.YtkjlhcfocefhpaaDoor

/- The walk over RedundantGaps (printed by gen_l14.py). -/
namespace Go.Proofs.YtkjlhcfocefhpaaDoor
open Go.RowKit

end Go.Proofs.YtkjlhcfocefhpaaDoor

/- Lists of peers from the tape. -/
namespace Go.Proofs.YtkjlhcfocefhpaaDoor
open Go.RowKit

/-- short lists, numbers that are ints -/
def FewP (m : Nat) (P : List Pr) : Prop := ∀ p ∈ P, p.known.length ≤ 3 ∧ p.near.length ≤ m ∧ I64 p.id
structure PsOf (k m b : Nat) (w w' : World) (v : Value) (qs : List PQ) (P : List Pr) : Prop where
  own : OwnPr w.heap.size w' v qs P
  len : P.length ≤ k
  few : FewP m P
  tape : TK w' b
  k : Exb b w w'
end Go.Proofs.YtkjlhcfocefhpaaDoor

/- The walk over RedundantSurvives (printed by gen_l14.py). -/
namespace Go.Proofs.YtkjlhcfocefhpaaDoor
open Go.RowKit

theorem contacts_le (N : List Nd) (id wd h : Int) : (contactsN N id wd h).length ≤ N.length := by
  unfold contactsN
  split
  · exact Nat.zero_le _
  · unfold ordN
    rw [List.length_map]
    exact Nat.le_trans (List.length_filter_le _ _) (Nat.le_of_eq (sortN_length N))
theorem peers_small {N : List Nd} (wd : Int) {h : Int} (hN : N.length ≤ 1000) (hh : h ≤ 100) : SmallP (peersN N wd h) ∧ (peersN N wd h).length ≤ N.length := by
  unfold peersN
  split
  · refine ⟨fun p hp => ?_, by rw [List.length_map, sortN_length]; exact Nat.le_refl _⟩
    obtain ⟨x, _, rfl⟩ := List.mem_map.1 hp
    have h1 := contacts_le (sortN N) x.id wd h
    rw [sortN_length] at h1
    have h2 : ((List.range h.toNat).map (nearG (sortN N) x)).length ≤ 100 := by rw [List.length_map, List.length_range]; omega
    exact ⟨Nat.le_trans h1 (by omega), Nat.le_trans h2 (by omega)⟩
  · exact ⟨fun p hp => (List.not_mem_nil hp).elim, Nat.zero_le _⟩
set_option maxRecDepth 100000 in
set_option maxHeartbeats 16000000 in
theorem redundantsurvives_walk (a1 : Option Addr) (n1 c1 : Nat) (l1 : List Int) (wd : Int) (w : World) (h1 : Sl 1 encI w a1 n1 l1) (hc1 : n1 ≤ c1) (hm1 : c1 ≤ maxLen) (hT : TabG w) (hL : LetG w) :
    Calls Tryd.prog 12 #[.slice a1 n1 c1, .int .i64 wd] w fun e w' => e = .returned (.bool true) ∧ Ex w w' := by
  go_enter Tryd.func12, Tryd.ntmps12
  go_wp2_with fail
  refine (new_t _ _ _ l1 _ h1 hc1 hm1).mono ?_
  rintro e w1 ⟨rfl, T, kk, z1⟩
  obtain ⟨b, hb⟩ : ∃ b, b = w.heap.size := ⟨_, rfl⟩
  rw [← hb] at T ⊢
  have hgt : ¬ 1 = b := by have := hT.lt; omega
  have hgl : ¬ 0 = b := by have := hL.lt; omega
  have T1 : Hid (TabG w1) := Lib.hid (hT.nx kk)
  have L1 : Hid (LetG w1) := Lib.hid (hL.nx kk)
  have QL : Hid (Exl b w w1) := Lib.hid ⟨kk, by omega⟩
  clear h1 hT hL kk hb z1
  have hbo := T.lt
  go_wp2_with fail
  refine (some_n 10 _ T L1.out hgl (by omega) (by omega)).mono ?_
  clear T
  rintro e w2 ⟨v1, L, rfl, R, hpos⟩
  replace T1 := Lib.hid (T1.out.nxb hgt R.k)
  replace L1 := Lib.hid (L1.out.nxb hgl R.k)
  replace QL := Lib.hid (QL.out.nxb R.k)
  obtain ⟨aX, cX, rfl, SX, hcX, hmX, _⟩ := R.own.slf (fun _ => rfl)
  have SX := SX.slb hbo
  have RL := R.len
  have RC := Lib.hid R.ok
  have RN := Lib.hid (roster_ok R.ok)
  have XW := Lib.hid (fun x hx => (RN.out x hx).1.2.1)
  have XI := Lib.hid (fun x hx => (RN.out x hx).1.1)
  have T := R.tape
  clear R
  have hb2 := T.lt
  go_wp2_with fail
  refine (next_t 3 _ T (by omega) (by omega)).mono ?_
  clear T
  rintro e w3 ⟨hh, rfl, hh0, hh1, T, kk⟩
  replace T1 := Lib.hid (T1.out.nxb hgt kk)
  replace L1 := Lib.hid (L1.out.nxb hgl kk)
  replace QL := Lib.hid (QL.out.nxb kk)
  replace SX := SX.nxb kk
  clear kk
  have hb3 := T.lt
  go_wp2_with fail
  refine (down_t 6 _ _ _ _ _ T SX (by omega) XI.out (by omega)).mono ?_
  clear T
  rintro e w4 ⟨v3, D, rfl, RD⟩
  replace T1 := Lib.hid (T1.out.nxb hgt RD.k)
  replace L1 := Lib.hid (L1.out.nxb hgl RD.k)
  replace QL := Lib.hid (QL.out.nxb RD.k)
  replace SX := SX.nxb RD.k
  obtain ⟨aD, cD, rfl, SD, hcD, hmD, _⟩ := RD.own.slf (fun _ => rfl)
  have SD := SD.slb hb3
  have hDl := RD.len
  have T := RD.tape
  clear RD
  go_wp2_with fail
  (with_reducible refine (gap_p _ _ _ L _ _ _ D _ SX.sl (by omega) hcX hmX SD.sl (by omega)).mono ?_)
  rintro e w5 ⟨rfl, kk⟩
  replace T := T.nx kk
  replace T1 := Lib.hid (T1.out.nx kk)
  replace L1 := Lib.hid (L1.out.nx kk)
  replace QL := Lib.hid (QL.out.nx kk)
  replace SX := SX.nxb (kk.b b)
  replace SD := SD.nxb (kk.b b)
  clear kk
  have hgle := gap_le L D
  obtain ⟨g, hg⟩ : ∃ g, g = gapN L D := ⟨_, rfl⟩
  rw [← hg] at hgle ⊢
  have HG := Lib.hid hg
  clear hg
  go_wp2_with fail
  refine (mod_any wd 3 _ (by omega) (by omega)).mono ?_
  rintro e w6 ⟨rfl, rfl⟩
  have hm0 := Int.emod_nonneg wd (show (3 : Int) ≠ 0 by omega)
  have hm3 := Int.emod_lt_of_pos wd (show (0 : Int) < 3 by omega)
  generalize wd % 3 = md at hm0 hm3 ⊢
  go_wp2_with fail
  (with_reducible refine (peers_p _ _ _ L ((g : Int) + 1 + md) hh _ SX.sl (by omega) hcX hmX XW.out T1.out).mono ?_)
  rintro e w7 ⟨v7, qs, rfl, own, kk⟩
  replace T := T.nx kk
  replace T1 := Lib.hid (T1.out.nx kk)
  replace L1 := Lib.hid (L1.out.nx kk)
  replace QL := Lib.hid (QL.out.nx kk)
  replace SX := SX.nxb (kk.b b)
  replace SD := SD.nxb (kk.b b)
  clear kk
  obtain ⟨aP, cP, rfl, PP, _, _, _⟩ := own.pl
  have HP := Lib.hid (peers_small (N := L) ((g : Int) + 1 + md) (h := hh) (by omega) (by omega))
  have hPl := HP.out.2
  obtain ⟨h', rfl⟩ : ∃ k : Nat, hh = k := ⟨hh.toNat, by omega⟩
  have SV := Lib.hid (survive_law RC.out (h := h') (by omega) (wd := (g : Int) + 1 + md) (down := D) (by rw [← HG.out]; omega))
  have SC : Hid (SmallP (crashN (peersN L ((g : Int) + 1 + md) h') D)) := Lib.hid (fun p hp => HP.out.1 p (List.mem_filter.1 hp).1)
  generalize peersN L ((g : Int) + 1 + md) h' = P at PP HP hPl SV SC ⊢
  replace PP := Lib.hid PP
  clear own
  go_wp2_with fail
  (with_reducible refine (crash_p _ _ _ _ _ _ _ D _ PP.out (by omega) HP.out.1 SD.sl (by omega)).mono ?_)
  rintro e w8 ⟨v8, qs', rfl, own, kk⟩
  replace T := T.nx kk
  replace T1 := Lib.hid (T1.out.nx kk)
  replace L1 := Lib.hid (L1.out.nx kk)
  replace QL := Lib.hid (QL.out.nx kk)
  replace SX := SX.nxb (kk.b b)
  replace SD := SD.nxb (kk.b b)
  replace PP := Lib.hid (PP.out.nx kk)
  clear kk
  obtain ⟨aC, cC, rfl, PC, _, _, _⟩ := own.pl
  have CB : Hid (connB (withoutN L D) (crashN P D) = true) := Lib.hid (connB_iff.2 SV.out.1)
  have hlen := Lib.hid SV.out.2
  have SC2 : Hid (∀ p ∈ crashN P D, p.known.length ≤ 100000000 ∧ p.near.length ≤ 100000000) := Lib.hid SC.out
  generalize crashN P D = Cr at PC SC2 CB hlen ⊢
  rw [hlen.out] at PC ⊢
  replace PC := Lib.hid PC
  clear own SV PP HP SC
  go_wp2_with fail
  (with_reducible refine (without_p _ _ _ _ _ _ _ D _ SX.sl (by omega) SD.sl (by omega)).mono ?_)
  rintro e w9 ⟨v9, rfl, OR, kk⟩
  replace T := T.nx kk
  replace T1 := Lib.hid (T1.out.nx kk)
  replace L1 := Lib.hid (L1.out.nx kk)
  replace QL := Lib.hid (QL.out.nx kk)
  replace SX := SX.nxb (kk.b b)
  replace SD := SD.nxb (kk.b b)
  replace PC := Lib.hid (PC.out.nx kk)
  clear kk
  obtain ⟨aR, cR, rfl, SR, hcR, hmR, _⟩ := OR.slf (fun _ => rfl)
  have SR := SR.sl
  have hRl : (withoutN L D).length ≤ L.length := List.length_filter_le _ _
  generalize withoutN L D = Re at PC CB SR hcR hRl ⊢
  clear OR SX SD HG hlen
  have d0 : (g : Int) ≤ (L.length : Int) := by omega
  go_wp2_with fail
  (with_reducible refine (connected_p _ _ _ Re _ _ _ Cr _ SR (by omega) hcR hmR PC.out (by omega) (fun p hp => by have h : p.known.length ≤ 100000000 ∧ p.near.length ≤ 100000000 := SC2.out p hp; omega)).mono ?_)
  rintro e w10 ⟨rfl, kk⟩
  replace T := T.nx kk
  replace T1 := Lib.hid (T1.out.nx kk)
  replace L1 := Lib.hid (L1.out.nx kk)
  replace QL := Lib.hid (QL.out.nx kk)
  replace PC := Lib.hid (PC.out.nx kk)
  replace SR := SR.nx kk
  clear kk
  rw [CB.out]
  go_wp2_with fail
  (with_reducible refine (sane14_x _ T1.out).mono ?_)
  rintro e w11 ⟨rfl, kk⟩
  replace T := T.nx kk
  replace T1 := Lib.hid (T1.out.nx kk)
  replace L1 := Lib.hid (L1.out.nx kk)
  replace QL := Lib.hid (QL.out.nx kk)
  replace PC := Lib.hid (PC.out.nx kk)
  replace SR := SR.nx kk
  have Q8 := Lib.hid QL.out.1
  go_wp2_with fail
  go_ret
  exact ⟨rfl, Q8.out⟩
end Go.Proofs.YtkjlhcfocefhpaaDoor

/- What the laid tables give the walks. -/
namespace Go.Proofs.YtkjlhcfocefhpaaDoor
open Go.RowKit

theorem Tryd.gTab : Tryd.prog.globalNamed "math/bits.deBruijn32tab" = some 1 := by kernel_rfl
theorem Tryd.tTab : (Tryd.prog.globals[1]?).map (·.type) = some 180 := by kernel_rfl
theorem Tryd.cells32 : Tryd.prog.cellsOf 180 = 32 := by kernel_rfl
theorem Tryd.cellsU8 : Tryd.prog.cellsOf 5 = 1 := by kernel_rfl
theorem laid_tab {H : Type} : (Rows.laid_math_bits_deBruijn32tab : DataW H) = Lib.tabData .u8 (Lib.deBruijn32tab.map fun (n : Nat) => (n : Int)) := rfl

theorem tabG_of {rest : List (String × DataW Unit)} {W : World} (h : laidMetH Tryd.prog (("math/bits.deBruijn32tab", Rows.laid_math_bits_deBruijn32tab) :: rest) W)
    (hp : ((("math/bits.deBruijn32tab", Rows.laid_math_bits_deBruijn32tab) :: rest).all fun x => x.2.handleName?.isNone) = true) : TabG W := by
  rw [MakeChecks.laidMetH_plain _ _ _ hp, laid_tab] at h
  have ht := Lib.tabIs_of_head Tryd.gTab Tryd.tTab Tryd.underlying180 Tryd.underlying5 Tryd.cellsU8 Tryd.cells32 h
  intro j hj
  have := ht.cell Tryd.gTab j (by simp [Lib.deBruijn32tab]; omega)
  rw [this]
  congr 2
  simp [List.getD, List.getElem?_map]
  cases h : Lib.deBruijn32tab[j]? <;> simp
end Go.Proofs.YtkjlhcfocefhpaaDoor

/- What the laid letters give the walks. -/
namespace Go.Proofs.YtkjlhcfocefhpaaDoor
open Go.RowKit

theorem Tryd.gLet : Tryd.prog.globalNamed "skipgraph/skipgraphworld.letters" = some 0 := by kernel_rfl
theorem Tryd.tLet : (Tryd.prog.globals[0]?).map (·.type) = some 94 := by kernel_rfl
theorem Tryd.cells6 : Tryd.prog.cellsOf 94 = 6 := by kernel_rfl
theorem Tryd.cellsStr : Tryd.prog.cellsOf 9 = 1 := by kernel_rfl
def letL : List (List UInt8) := [[97], [98], [99], [0], [255], [109]]

/-- AN ARRAY OF STRINGS THAT READS AS A LIST OF STRINGS HOLDS THEM, CELL FOR CELL. -/
theorem cells_of_strs {H : Type} {enc : TypeId × Value → H} {P : Program} {w : World} {base : Nat} {sp : Nat → Bool} {held : Bool} {fuel : Nat} {t e : TypeId} {n : Nat} {cs : List Value} {zs : List (List UInt8)} {p : List MemPlace}
    (ht : P.underlying t = some (.array n e)) (he : P.underlying e = some .string) (hce : P.cellsOf e = 1) (hct : P.cellsOf t = n)
    (h : DataW.trod enc P w base sp held fuel t cs = some (.agg (zs.map fun z => .lit (.string z)), p)) : ∀ (i : Nat) (z : List UInt8), zs[i]? = some z → ∃ s : ByteArray, s.data.toList = z ∧ cs[i]? = some (.string s) := by
  cases fuel with
  | zero => simp [DataW.trod] at h
  | succ fuel =>
    simp only [DataW.trod, ht, hce, hct, Nat.mul_one] at h
    split at h
    · rename_i hl
      obtain ⟨xs, hm, hx⟩ := Option.map_eq_some_iff.1 h
      have hxs : xs.map (·.1) = zs.map fun z => (DataW.lit (.string z) : DataW H) := by
        have := congrArg Prod.fst hx
        simpa using this
      have hxl : xs.length = n := by simpa using Lib.mapM_length hm
      have hzl : zs.length = n := by
        have := congrArg List.length hxs
        simp at this
        omega
      intro i z hz
      have hi : i < n := by have := (List.getElem?_eq_some_iff.1 hz).1; omega
      obtain ⟨b, hb, hf⟩ := Lib.mapM_at hm i i (by simp [hi])
      obtain ⟨s, hc, rfl, _⟩ := DataW.trod_string he hf
      have h1 : cs[i]? = some (.string s) := by
        have := congrArg (·[0]?) hc
        simpa [List.getElem?_take, List.getElem?_drop] using this
      have h2 : (xs.map (·.1))[i]? = some (DataW.lit (.string s.data.toList) : DataW H) := by simp [hb]
      rw [hxs] at h2
      simp only [List.getElem?_map, Option.map_eq_some_iff, DataW.lit.injEq, Lit.string.injEq] at h2
      obtain ⟨z', hz', hzz⟩ := h2
      have : z = z' := Option.some.inj (hz.symm.trans hz')
      exact ⟨s, by rw [this, hzz], h1⟩
    · cases h

theorem laid_let {H : Type} : (Rows.laid_skipgraph_skipgraphworld_letters : DataW H) = .agg (letL.map fun z => .lit (.string z)) := rfl
theorem letG_head {rest : List (String × DataW Unit)} {W : World} (h : laidMet Tryd.prog (("skipgraph/skipgraphworld.letters", .agg (letL.map fun z => .lit (.string z))) :: rest) W) : LetG W := by
  obtain ⟨ps, ⟨g', t', cs, fuel, p, q, hg', ht', hvar, hd, _, _⟩, _⟩ := h
  obtain rfl := Option.some.inj (Tryd.gLet.symm.trans hg')
  obtain rfl := Option.some.inj (Tryd.tLet.symm.trans ht')
  intro j hj
  obtain ⟨z, hz⟩ : ∃ z, letL[j]? = some z := ⟨letL[j]'(by simp [letL]; omega), by simp⟩
  obtain ⟨s, h1, h2⟩ := cells_of_strs Tryd.underlying94 Tryd.underlying9 Tryd.cellsStr Tryd.cells6 hd j z hz
  refine ⟨s, ?_, ?_⟩
  · have hl : z.length = 1 := by
      have : ∀ j, j < 6 → (letL[j]?.getD []).length = 1 := by decide
      have := this j hj
      rw [hz] at this
      exact this
    have : s.data.toList.length = 1 := by rw [h1]; exact hl
    rw [Array.length_toList] at this
    exact this
  · rw [World.var?_cell Tryd.gLet hvar j]
    simpa using h2
end Go.Proofs.YtkjlhcfocefhpaaDoor

/- The letters, where they are second on the list of what is laid. -/
namespace Go.Proofs.YtkjlhcfocefhpaaDoor
open Go.RowKit

theorem letG_second {x : String × DataW Unit} {W : World} (h : laidMetH Tryd.prog [x, ("skipgraph/skipgraphworld.letters", Rows.laid_skipgraph_skipgraphworld_letters)] W)
    (hp : ([x, ("skipgraph/skipgraphworld.letters", Rows.laid_skipgraph_skipgraphworld_letters)].all fun x => x.2.handleName?.isNone) = true) (hx : decide (x.1 = "skipgraph/skipgraphworld.letters") = false) : LetG W := by
  rw [MakeChecks.laidMetH_plain _ _ _ hp, laid_let] at h
  have h2 := h.filter (fun y => decide (y.1 = "skipgraph/skipgraphworld.letters"))
  rw [List.filter_cons_of_neg (by rw [hx]; simp), List.filter_cons_of_pos (by simp), List.filter_nil] at h2
  exact letG_head h2
end Go.Proofs.YtkjlhcfocefhpaaDoor

/- How the arguments of a statement are read: slices as lists. -/
namespace Go.Proofs.YtkjlhcfocefhpaaDoor
open Go.ChangeShapes Go.WideShapes Go.ChangeAt Go.RowKit Go.Deep Go.Joins

theorem own : ownKnob Tryd.prog.godebug = none := by kernel_rfl
theorem laidOut : laidOutB Tryd.prog = true := by kernel_rfl

section
variable {H : Type} {enc : TypeId × Value → H} {P : Program} {w : World} {base : Nat} {spare : Nat → Bool} {held : Bool}

theorem addr_lit {a : Addr} {v : Value} {w : World} (h : w.cell? (a.add 0) = some v) : a = ⟨a.block, a.off, none⟩ := by
  obtain ⟨b, o, s⟩ := a
  have : s = none := by simpa [Addr.add] using World.cell?_spot h
  subst this; rfl

/-- a slice of ints that came in -/
theorem rd_ints {t e : TypeId} {k : IntKind} {v : Value} {d : DataW H} {p : List MemPlace} {r : Reach} {b0 : Nat} (ht : P.underlying t = some (.slice e)) (he : P.underlying e = some (.int k)) (hC : P.cellsOf e = 1)
    (hv : Value.okWide P w r b0 t v) (h : DataW.Trod enc P w base spare held t v d p) :
    ∃ a n c l, v = .slice a n c ∧ Rd 1 (fun x : Int => [Value.int k x]) (· < w.heap.size) w a n l ∧ n ≤ c ∧ c ≤ maxLen ∧ (∀ x ∈ l, (Lit.int k x).wf = true) ∧ (a = none → c = 0) := by
  obtain ⟨a0, len0, cap0, rfl⟩ := okWide_slice ht hv
  obtain ⟨fuel, hf⟩ := h
  rcases open_ints ht he hC hf with ⟨hcs, _⟩ | ⟨x, l, c, zs, hcs, _, hl, hm, hz, _, hcell, hwz⟩
  · simp [Value.cells] at hcs
    obtain ⟨rfl, rfl, rfl⟩ := hcs
    exact ⟨none, 0, 0, [], rfl, Rd.nil _ _ _ _ _, by omega, by unfold maxLen; omega, by simp, fun _ => rfl⟩
  · simp [Value.cells] at hcs
    obtain ⟨rfl, rfl, rfl⟩ := hcs
    have hz' : len0 ≤ zs.length := by rw [hz]; split <;> omega
    refine ⟨_, len0, cap0, zs.take len0, rfl, ⟨by simp; omega, ?_⟩, hl, hm, fun y hy => hwz y (List.mem_of_mem_take hy), fun h => by cases h⟩
    rcases Nat.eq_zero_or_pos len0 with h0 | h0
    · exact .inl h0
    · have hx := addr_lit (hcell 0 (by omega))
      refine .inr ⟨x.block, x.off, by rw [← hx], ?_, fun j y hj c u hu => ?_⟩
      · have := World.block_lt_of_cell? w _ (hcell 0 (by omega))
        rw [hx] at this
        simpa [Addr.add] using this
      · have hj' : j < len0 := by
          have := (List.getElem?_eq_some_iff.1 hj).1
          simp at this; omega
        have hy : zs.getD j 0 = y := by
          rw [List.getElem?_take, if_pos hj'] at hj
          simp [List.getD, hj]
        have hc := hcell j (by omega)
        rw [hx, Addr.add_lit, hy] at hc
        rcases c with _ | c
        · simp at hu; subst hu; simpa using hc
        · simp at hu

end
end Go.Proofs.YtkjlhcfocefhpaaDoor

/-
  RedundantSurvives returns true for every list of numbers and every number, and leaves its arguments as they were.
  Condition: the table of math/bits and the letters of the keys are as the program text lays them (tied by the card).
-/
namespace Go.Proofs.YtkjlhcfocefhpaaDoor
open Go.ChangeShapes Go.WideShapes Go.ChangeAt Go.RowKit Go.Deep Go.Joins
open Go.ChangeMaps (open_string shut_string)
set_option linter.unusedVariables false
theorem Tryd.cellsInt : Tryd.prog.cellsOf 3 = 1 := by kernel_rfl

set_option maxRecDepth 100000 in
set_option maxHeartbeats 1000000 in
theorem redundantSurvives_lifted (os : Os) (started : os.Started) (H : Type) (enc : TypeId × Value → H) :
    ReturnsInHanded {} Tryd.checked os 12 .any (fun w args => (Rows.redundantSurvivesSpec.pre enc Tryd.prog Tryd.f12 [] false w args ∧ laidMetH Tryd.prog Rows.redundantSurvivesRow.laid w) ∧ sizedMet enc Tryd.prog Tryd.f12 (OpenSpec.ofChange Rows.redundantSurvivesSpec) false w args)
      (Rows.redundantSurvivesSpec.post enc Tryd.prog Tryd.f12 false true false false) := by
  refine returnsInHanded_of_change_and (C := Tryd.checked) (X := fun w _ => laidMetH Tryd.prog Rows.redundantSurvivesRow.laid w) (fun _ _ _ hh h => h.of_heap hh) own started (by kernel_rfl) Tryd.func12
    (ChangeSpec.witness_shaped (enc := enc) (C := Tryd.checked) (os := os) (X := fun w _ => laidMetH Tryd.prog Rows.redundantSurvivesRow.laid w) false (World.doorLaid Tryd.prog 400 os) #[.slice none 0 0, .int .i64 0] 8 rfl (World.shaped_of_RefB (by kernel_rfl) (by kernel_rfl)) (by kernel_rfl) (by kernel_rfl) (by kernel_rfl) (laidMetH_of_parts3 (fuel := 8) (laidMet_of_run' 8 (by kernel_rfl) (by kernel_rfl)) (by kernel_rfl) (by kernel_rfl))) ?_
  intro W base args ds gs before hval0 hW _ _ hL _
  have hval : ∀ (j : Nat) t v, Tryd.f12.params[j]? = some t → args[j]? = some v → Value.okWide Tryd.prog W .any base t v := hval0
  have hW' := hW
  obtain ⟨p, q, hA0, hV, rfl, hfz, hnd⟩ := hW
  have hA : DataW.TrodAll enc Tryd.prog W 0 (fun _ => true) true Tryd.f12.params.toList args.toList ds p := hA0
  rw [Tryd.params12] at hA hval
  obtain ⟨v0, vs0, d0, ds0, p0, q0, hargs, rfl, rfl, h0, r0⟩ := trodAll_cons hA
  obtain ⟨v1, vs1, d1, ds1, p1, q1, rfl, rfl, rfl, h1, r1⟩ := trodAll_cons r0
  obtain ⟨rfl, rfl, rfl⟩ := trodAll_nil r1
  obtain rfl : args = #[v0, v1] := by cases args; simp_all
  obtain ⟨rfl, rfl⟩ := trodVars_none hV
  have k0 := h0
  have lt0 : ∀ x ∈ p0, x.block < W.heap.size := by obtain ⟨m, hm⟩ := k0; exact DataW.trod_lt m _ _ _ hm
  have k1 := h1
  have lt1 : ∀ x ∈ p1, x.block < W.heap.size := by obtain ⟨m, hm⟩ := k1; exact DataW.trod_lt m _ _ _ hm
  obtain ⟨A0, n0, cap0, l0, rfl, rd0, hc0, hm0, wf0, nl0⟩ := rd_ints Tryd.underlying22 Tryd.underlying3 Tryd.cellsInt (hval 0 22 v0 rfl rfl) h0
  obtain ⟨a1, rfl, rfl, rfl, wa1⟩ := open_int Tryd.underlying3 (hval 1 3 v1 rfl rfl) h1
  clear hA0 hval0
  have hT : TabG W := tabG_of hL (by kernel_rfl)
  have hL2 : LetG W := letG_second hL (by kernel_rfl) (by kernel_rfl)
  refine (redundantsurvives_walk A0 n0 cap0 l0 a1 W rd0 hc0 hm0 hT hL2).mono fun e W' ⟨he, hch⟩ => ?_
  have bel : Below W.heap.size W W' := hch.below (fun _ h => h)
  subst he
  exact ⟨_, rfl, _, _, _, [], _, [], hW', trodAll_mk1 (shut_bool Tryd.underlying4 _), (trodAll_cons_mk (Below.trod laidOut (by kernel_rfl) (of_decide_eq_true (by kernel_rfl)) k0 bel lt0) (trodAll_cons_mk (Below.trod laidOut (by kernel_rfl) (of_decide_eq_true (by kernel_rfl)) k1 bel lt1) trodAll_mk0)), rfl, bel.frame _, fun h => by cases h⟩

theorem redundantSurvives_over : Rows.redundantSurvivesRow.holds Tryd.pinned (OpenSpec.ofChange Rows.redundantSurvivesSpec) :=
  OpenClaim.holds_of_wide 12 Tryd.f12 rfl rfl rfl rfl rfl rfl rfl ⟨rfl, rfl, rfl, rfl, rfl⟩ rfl rfl rfl rfl rfl (by kernel_rfl) Tryd.func12 (by kernel_rfl)
    (of_decide_eq_true (by kernel_rfl)) (by unfold Func.isWrapper; first | (rw [if_pos (by decide +kernel)]; kernel_rfl) | (rw [if_neg (by decide +kernel)]; exact ⟨rfl, rfl⟩))
    (fun os started H enc _ => redundantSurvives_lifted os started H enc)

/-- THE STATEMENT: the tied card -/
theorem RedundantSurvives_holds : Rows.RedundantSurvivesCardSaid :=
  Claim7.holds_tied_plain_at .later [] [.data, .data] true (true, "825c4c20d94b3dba0cd20ac6aaa34ae2a3fd6d17ead9a1175ad9d628145c474d") false
    redundantSurvives_over (fun _ h => by cases h) (by kernel_rfl) (fun _ h => by cases h) redundantSurvives_row_tie rfl ⟨rfl, rfl⟩ (by kernel_rfl) rfl
    (fun f fn hf hfn => by
      obtain rfl : f = 12 := Option.some.inj ((show Tryd.prog.funcNamed "skipgraph/skipgraphlaw14.RedundantSurvives" = some 12 by kernel_rfl).symm.trans hf) |>.symm
      obtain rfl : fn = Tryd.f12 := (Option.some.inj (Tryd.func12.symm.trans hfn)).symm
      exact ⟨by kernel_rfl, fun j t ht => by
        rw [Tryd.params12] at ht
        have hm : t ∈ [22, 3] := by simpa using Array.mem_of_getElem? ht
        have hall : ([22, 3].all fun u => !Tryd.prog.wantsStandIn u) = true := by kernel_rfl
        exact (show Tryd.prog.wantsStandIn t = false by simpa using List.all_eq_true.1 hall t hm)⟩)
    (by kernel_rfl)
#print axioms RedundantSurvives_holds
end Go.Proofs.YtkjlhcfocefhpaaDoor
