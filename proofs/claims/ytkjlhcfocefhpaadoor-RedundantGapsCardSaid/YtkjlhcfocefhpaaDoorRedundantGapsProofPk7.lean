/- Texts for the statement RedundantGapsProof, part 7 of 7: TPe, RdGa, Laid4, LaidL, Laid2, Open, RedundantGapsProof. -/
import Derived.Test.YtkjlhcfocefhpaaDoorTie
import Derived.Test.YtkjlhcfocefhpaaDoorCards
import Derived.Lib.LaidTab
import Derived.Lib.LaidU8
import Derived.LaidMore
import Derived.Stop.Joined
import Derived.SevenTiedAt
import Derived.ChangeArms
import Derived.LaidSub
import Derived.Test.YtkjlhcfocefhpaaDoorRows
import Derived.ProofKit
import Derived.OpenShut
import Derived.ShutString
import Derived.ChangeOld
import Derived.Lib.SmallJoins
import Derived.Deep.Slices
import Derived.Deep.Fields
import Derived.ChangeSame
import Derived.Test.YtkjlhcfocefhpaaDoorRedundantGapsProofPk1
import Derived.Test.YtkjlhcfocefhpaaDoorRedundantGapsProofPk2
import Derived.Test.YtkjlhcfocefhpaaDoorRedundantGapsProofPk3
import Derived.Test.YtkjlhcfocefhpaaDoorRedundantGapsProofPk4
import Derived.Test.YtkjlhcfocefhpaaDoorRedundantGapsProofPk5
import Derived.Test.YtkjlhcfocefhpaaDoorRedundantGapsProofPk6

/- Numbers of nodes that are down, and peers, from the tape. -/
namespace Go.Proofs.YtkjlhcfocefhpaaDoor
open Go.RowKit

theorem Blk.app {α : Type} {sz e base g : Nat} {enc : α → List Value} {w w' : World} {v : Value} {l : List α} {cs : List Value} {ty : TypeId} (B : Blk w g cs ty) (own : OwnL sz enc e base w v l) (hne : e ≠ ty) (k : Chg (fun k => k < w.heap.size ∧ ¬ v.ownBlock = some k) w w') : Blk w' g cs ty :=
  (Chg.block k g ⟨B.lt, fun hv => own.ne_blk B hne hv rfl⟩).trans B
theorem OwnL.app {α β : Type} {sz sz' e e' base base' : Nat} {enc : α → List Value} {enc' : β → List Value} {w w' : World} {v v' : Value} {l : List α} {l' : List β} (o : OwnL sz enc e base w v l) (own : OwnL sz' enc' e' base' w v' l') (hne : e ≠ e') (k : Chg (fun k => k < w.heap.size ∧ ¬ v'.ownBlock = some k) w w') : OwnL sz enc e base w' v l :=
  o.chg k fun x hx hv => ⟨hx, fun hv' => by
    obtain ⟨_, c1, h1⟩ := o.blk hv
    obtain ⟨_, c2, h2⟩ := own.blk hv'
    exact blk_kind hne h1 h2⟩
/-- a list of at most n numbers -/
structure DnOf (n b : Nat) (w w' : World) (v : Value) (l : List Int) : Prop where
  own : OwnL 1 encI 3 w.heap.size w' v l
  len : l.length ≤ n
  i64 : ∀ x ∈ l, I64 x
  tape : TK w' b
  k : Exb b w w'
set_option maxRecDepth 100000 in
set_option maxHeartbeats 2000000 in
theorem down_t {b : Nat} (n : Nat) (a : Option Addr) (na cp : Nat) (l : List Nd) (w : World) (h : TK w b) (hs : Slb 3 encN b w a na l) (hna : na ≤ 1000) (hi : ∀ x ∈ l, I64 x.id) (hn : n ≤ 1000) :
    Calls Tryd.prog 39 #[.pointer (some ⟨b, 0, none⟩), .slice a na cp, .int .i64 n] w fun e w' => ∃ v r, e = .returned v ∧ DnOf n b w w' v r := by
  have hbw := h.lt
  have HI := Lib.hid hi
  clear hi
  go_enter Tryd.func39, Tryd.ntmps39
  go_wp2_with fail
  refine (next_t ((n : Int) + 1) _ h (by omega) (by omega)).mono ?_
  rintro e w1 ⟨q, rfl, q0, q1, T, kk⟩
  obtain ⟨q, rfl⟩ := Int.eq_ofNat_of_zero_le q0
  have HS := Lib.hid hs
  clear h hs
  go_wp2_with fail
  go_loopw [7, 8] (fun o i wr => ∃ (q : Nat) (L : List Int), L.length + q ≤ n ∧ i = .int .i64 q ∧ DnOf n b w wr o L) (fun _ i _ => (intOf i).toNat)
  case atStart => exact ⟨q, [], by simp; omega, rfl, OwnL.nil _ _ _ _ _, by simp, by simp, T, kk⟩
  case round =>
    clear T kk
    obtain ⟨q, L, hq, rfl, R⟩ := hrel
    obtain ⟨wo, rfl⟩ : ∃ wo : World, wo = wr := ⟨_, rfl⟩
    by_cases hq0 : 0 < q
    · have T := R.tape
      have R := Lib.hid R
      go_wp2_with fail
      refine (id_t _ _ _ l _ T (HS.out.nxb R.out.k) hna HI.out).mono ?_
      clear T
      rintro e w2 ⟨r, rfl, hr, T, k2⟩
      have HR := Lib.hid hr
      have own := R.out.own.nxb hbw k2
      have kk := R.out.k.nxb k2
      have zz := kk.size
      have hLl : L.length ≤ 1000 := by omega
      clear k2 hr
      go_wp2_with (at_builtin; (refine wpList_append_lit (enc := encI) w2 rfl _ _ 22 rfl w.heap.size 3 (.int .i64 0) 1 8 Tryd.underlying22 Tryd.infoI6 rfl (by omega) (by omega) _ _ own rfl (r : Int) _ rfl rfl (by simp [encI, Value.oneCell']) _ (by simp) rfl (by omega) zz _ ?_); intro v6 w6 own6 _ ch1 _)
      refine ⟨⟨q - 1, L ++ [r], by simp; omega, by rw [show ((q - 1 : Nat) : Int) = (q : Int) - 1 by omega], own6, by simp; omega, ?_, TP.chg T ch1 (fun x hx => by omega), Chg.trans kk (ch1.mono (fun x hx => hx.1))⟩, by simp [intOf]; omega⟩
      intro x hx
      rcases List.mem_append.1 hx with h1 | h1
      · exact R.out.i64 x h1
      · rw [List.mem_singleton.1 h1]; exact HR.out
    · have R := Lib.hid R
      go_wp2_with fail
      go_ret
      exact ⟨_, L, rfl, R.out⟩

/-- a store into a row of another type -/
theorem OwnL.apart {α β : Type} {sz sz' e e' base base' g : Nat} {enc : α → List Value} {enc' : β → List Value} {w w' : World} {v v' : Value} {l : List α} {l' : List β} (o : OwnL sz enc e base w v l) (own : OwnL sz' enc' e' base' w v' l') (hne : e ≠ e') (hg : v'.ownBlock = some g) (k : Exb g w w') : OwnL sz enc e base w' v l :=
  o.chg k fun x hx hv => ⟨hx, by
    rintro rfl
    obtain ⟨_, c1, h1⟩ := o.blk hv
    obtain ⟨_, c2, h2⟩ := own.blk hg
    exact blk_kind hne h1 h2⟩
/-- a peer that was just made -/
structure PeOf (m b : Nat) (w w' : World) (p : Pr) (hk hn : Hdr) : Prop where
  ok : OwnL 1 encI 3 w.heap.size w' hk.val p.known
  on : OwnL 4 encNr 123 w.heap.size w' hn.val p.near
  lk : p.known.length ≤ 3
  ln : p.near.length ≤ m
  id : I64 p.id
  tape : TK w' b
  k : Exb b w w'
end Go.Proofs.YtkjlhcfocefhpaaDoor

/- The walk over RedundantGaps (printed by gen_l14.py). -/
namespace Go.Proofs.YtkjlhcfocefhpaaDoor
open Go.RowKit

set_option maxRecDepth 100000 in
set_option maxHeartbeats 16000000 in
theorem redundantgaps_walk (a1 : Option Addr) (n1 c1 : Nat) (l1 : List Int) (id : Int) (w : World) (h1 : Sl 1 encI w a1 n1 l1) (hc1 : n1 ≤ c1) (hm1 : c1 ≤ maxLen) (hT : TabG w) (hL : LetG w) :
    Calls Tryd.prog 13 #[.slice a1 n1 c1, .int .i64 id] w fun e w' => e = .returned (.bool true) ∧ Ex w w' := by
  go_enter Tryd.func13, Tryd.ntmps13
  go_wp2_with fail
  refine (new_t _ _ _ l1 _ h1 hc1 hm1).mono ?_
  rintro e w1 ⟨rfl, T, kk, z1⟩
  obtain ⟨b, hb⟩ : ∃ b, b = w.heap.size := ⟨_, rfl⟩
  rw [← hb] at T ⊢
  have hgt : ¬ 1 = b := by have := hT.lt; omega
  have hgl : ¬ 0 = b := by have := hL.lt; omega
  have T1 : Hid (TabG w1) := Lib.hid (hT.nx kk)
  have L1 : Hid (LetG w1) := Lib.hid (hL.nx kk)
  have QL : Hid (Exl b w w1) := Lib.hid ⟨kk, by omega⟩
  clear h1 hT hL kk hb z1
  have hbo := T.lt
  go_wp2_with fail
  refine (some_n 8 _ T L1.out hgl (by omega) (by omega)).mono ?_
  clear T
  rintro e w2 ⟨v1, L, rfl, R, hpos⟩
  replace T1 := Lib.hid (T1.out.nxb hgt R.k)
  replace L1 := Lib.hid (L1.out.nxb hgl R.k)
  replace QL := Lib.hid (QL.out.nxb R.k)
  obtain ⟨aX, cX, rfl, SX, hcX, hmX, _⟩ := R.own.slf (fun _ => rfl)
  have SX := SX.slb hbo
  have RL := R.len
  have RC := Lib.hid R.ok
  have RN := Lib.hid (roster_ok R.ok)
  have XW := Lib.hid (fun x hx => (RN.out x hx).1.2.1)
  have XI := Lib.hid (fun x hx => (RN.out x hx).1.1)
  have T := R.tape
  clear R
  have hb2 := T.lt
  go_wp2_with fail
  refine (down_t 5 _ _ _ _ _ T SX (by omega) XI.out (by omega)).mono ?_
  clear T
  rintro e w3 ⟨v3, D, rfl, RD⟩
  replace T1 := Lib.hid (T1.out.nxb hgt RD.k)
  replace L1 := Lib.hid (L1.out.nxb hgl RD.k)
  replace QL := Lib.hid (QL.out.nxb RD.k)
  replace SX := SX.nxb RD.k
  obtain ⟨aD, cD, rfl, SD, hcD, hmD, _⟩ := RD.own.slf (fun _ => rfl)
  have SD := SD.slb hb2
  have hDl := RD.len
  have T := RD.tape
  clear RD
  go_wp2_with fail
  (with_reducible refine (gap_p _ _ _ L _ _ _ D _ SX.sl (by omega) hcX hmX SD.sl (by omega)).mono ?_)
  rintro e w4 ⟨rfl, kk⟩
  replace T := T.nx kk
  replace T1 := Lib.hid (T1.out.nx kk)
  replace L1 := Lib.hid (L1.out.nx kk)
  replace QL := Lib.hid (QL.out.nx kk)
  replace SX := SX.nxb (kk.b b)
  replace SD := SD.nxb (kk.b b)
  clear kk
  go_wp2_with fail
  (with_reducible refine (without_p _ _ _ _ _ _ _ D _ SX.sl (by omega) SD.sl (by omega)).mono ?_)
  rintro e w5 ⟨v5, rfl, OR, kk⟩
  replace T := T.nx kk
  replace T1 := Lib.hid (T1.out.nx kk)
  replace L1 := Lib.hid (L1.out.nx kk)
  replace QL := Lib.hid (QL.out.nx kk)
  replace SX := SX.nxb (kk.b b)
  replace SD := SD.nxb (kk.b b)
  clear kk
  obtain ⟨aR, cR, rfl, _, _, _, _⟩ := OR.slf (fun _ => rfl)
  clear OR
  have hb5 := T.lt
  have zz5 : w5.heap.size ≤ w5.heap.size := Nat.le_refl _
  have own0 : OwnL 1 encI 3 w5.heap.size (w5.alloc (.cells #[] 3)) (.slice (some ⟨w5.heap.size, 0, none⟩) 0 0) ([] : List Int) := OwnL.empty (Nat.le_refl _) rfl
  have SD0 := SD.sl.nx (Ex.new w5 (.cells #[] 3))
  have z0 := (Ex.new w5 (.cells #[] 3)).size
  go_wp2_with (at_builtin; go_loud (refine wpList_append_rq (enc := encI) _ rfl _ _ 22 rfl w5.heap.size 3 (.int .i64 0) 1 8 Tryd.underlying22 Tryd.infoI6 rfl (by omega) (by omega) _ [] own0 rfl _ _ _ D SD0 (fun _ => rfl) (by simp [encI, Value.oneCell']) rfl (by first | omega | (simp; omega) | simp) (by first | omega | simp) (by omega) ?_); intro v6 w6 own6 ch0 ch1)
  have kk : Ex w5 w6 := Chg.trans (Ex.new w5 _) ch1
  have K5 := kk.b b
  have SX5 := Lib.hid SX
  have T5 := Lib.hid T1.out
  have Q5 := Lib.hid QL.out
  clear own0 SD0 z0 ch0 ch1
  replace T := T.nx kk
  replace T1 := Lib.hid (T1.out.nx kk)
  replace L1 := Lib.hid (L1.out.nx kk)
  replace QL := Lib.hid (QL.out.nx kk)
  replace SX := SX.nxb (kk.b b)
  replace SD := SD.nxb (kk.b b)
  clear kk
  refine (id_t _ _ _ _ _ T SX (by omega) XI.out).mono ?_
  clear T
  rintro e w7 ⟨r, rfl, hrI, T, kk⟩
  replace T1 := Lib.hid (T1.out.nxb hgt kk)
  replace L1 := Lib.hid (L1.out.nxb hgl kk)
  replace QL := Lib.hid (QL.out.nxb kk)
  replace SX := SX.nxb kk
  replace SD := SD.nxb kk
  replace own6 := own6.nxb hb5 kk
  replace K5 := K5.nxb kk
  clear kk
  have own7 := own6.nx (Ex.new w7 (.cells #[.int .i64 id, .int .i64 r] 3))
  have z7 : w5.heap.size ≤ (w7.alloc (.cells #[.int .i64 id, .int .i64 r] 3)).heap.size := by have h7 := (Ex.new w7 (.cells #[.int .i64 id, .int .i64 r] 3)).size; have h5 := K5.size; omega
  have SL7 : Sl 1 encI (w7.alloc (.cells #[.int .i64 id, .int .i64 r] 3)) (some ⟨w7.heap.size, 0, none⟩) 2 [id, r] := Sl.lit [id, r] rfl rfl (fun _ => rfl) rfl
  go_wp2_with (at_builtin; go_loud (refine wpList_append_rq (enc := encI) _ rfl _ _ 22 rfl w5.heap.size 3 (.int .i64 0) 1 8 Tryd.underlying22 Tryd.infoI6 rfl (by omega) (by omega) _ ([] ++ D) own7 rfl _ _ _ [id, r] SL7 (fun _ => rfl) (by simp [encI, Value.oneCell']) rfl (by first | omega | (simp; omega) | simp) (by first | omega | simp) (by omega) ?_); intro v8 w8 own8 ch0 ch1)
  have K58 : Exb b w5 w8 := Chg.trans K5 (Chg.trans (Chg.mono (Ex.new w7 _) fun k hk => Nat.lt_of_lt_of_le hk.1 K5.size) (Chg.mono ch1 fun k hk => hk.1))
  have SX8 := SX5.out.nxb K58
  have T8 := T5.out.nxb hgt K58
  have Q8 := Q5.out.nxb K58
  obtain ⟨aM, cM, rfl, SM, _, _, _⟩ := own8.slf (fun _ => rfl)
  have hMl : (([] : List Int) ++ D ++ [id, r]).length ≤ 10 := by simp; omega
  clear ch0 ch1 own8 own7 SL7 z7 own6 SX SD SX5 T5 Q5 T K58 T1 QL L1
  (with_reducible refine (gap_p _ _ _ L _ _ _ (([] : List Int) ++ D ++ [id, r]) _ SX8.sl (by omega) hcX hmX SM.sl (by omega)).mono ?_)
  rintro e w9 ⟨rfl, kk⟩
  replace T8 := T8.nx kk
  replace Q8 := Lib.hid (Q8.nx kk)
  have hg1 := (gaps_law RC.out (down := D)).1
  have hg2 := (gaps_law RC.out (down := D)).2
  have hg3 : gapN L D ≤ gapN L (([] : List Int) ++ D ++ [id, r]) := gap_more (fun v hv => by simp; exact .inl hv)
  generalize gapN L D = g at hg1 hg2 hg3 ⊢
  generalize gapN L (([] : List Int) ++ D ++ [id, r]) = g2 at hg3 ⊢
  generalize (withoutN L D).length = m at hg1 hg2 ⊢
  clear SX8 SM kk hMl hrI RC RN XW XI hDl
  generalize L.length = n at *
  have d3 : (g : Int) ≤ (g2 : Int) := by omega
  rcases (show (g = 0 ∧ m = n ∧ ¬ n = 0) ∨ (m = 0 ∧ g = n ∧ ¬ n = 0) ∨ (¬ g = 0 ∧ ¬ m = n ∧ ¬ g = n ∧ ¬ m = 0) by omega) with e0 | e0 | e0
  · have d4 : ((g : Int) == 0) = true := by rw [beq_iff_eq]; omega
    have d5 : ((m : Int) == (n : Int)) = true := by rw [beq_iff_eq]; omega
    have d6 : ((g : Int) == (n : Int)) = false := by rw [beq_eq_false_iff_ne]; omega
    have d7 : ((m : Int) == 0) = false := by rw [beq_eq_false_iff_ne]; omega
    clear e0 hg1 hg2 hg3 hpos
    go_wp2_with fail
    (with_reducible refine (sane14_x _ T8).mono ?_)
    rintro e w10 ⟨rfl, kk⟩
    replace Q8 := Lib.hid (Q8.out.nx kk).1
    clear kk T8
    go_wp2_with fail
    go_ret
    exact ⟨rfl, Q8.out⟩
  · have d4 : ((g : Int) == 0) = false := by rw [beq_eq_false_iff_ne]; omega
    have d5 : ((m : Int) == (n : Int)) = false := by rw [beq_eq_false_iff_ne]; omega
    have d6 : ((g : Int) == (n : Int)) = true := by rw [beq_iff_eq]; omega
    have d7 : ((m : Int) == 0) = true := by rw [beq_iff_eq]; omega
    clear e0 hg1 hg2 hg3 hpos
    go_wp2_with fail
    (with_reducible refine (sane14_x _ T8).mono ?_)
    rintro e w10 ⟨rfl, kk⟩
    replace Q8 := Lib.hid (Q8.out.nx kk).1
    clear kk T8
    go_wp2_with fail
    go_ret
    exact ⟨rfl, Q8.out⟩
  · have d4 : ((g : Int) == 0) = false := by rw [beq_eq_false_iff_ne]; omega
    have d5 : ((m : Int) == (n : Int)) = false := by rw [beq_eq_false_iff_ne]; omega
    have d6 : ((g : Int) == (n : Int)) = false := by rw [beq_eq_false_iff_ne]; omega
    have d7 : ((m : Int) == 0) = false := by rw [beq_eq_false_iff_ne]; omega
    clear e0 hg1 hg2 hg3 hpos
    go_wp2_with fail
    (with_reducible refine (sane14_x _ T8).mono ?_)
    rintro e w10 ⟨rfl, kk⟩
    replace Q8 := Lib.hid (Q8.out.nx kk).1
    clear kk T8
    go_wp2_with fail
    go_ret
    exact ⟨rfl, Q8.out⟩
end Go.Proofs.YtkjlhcfocefhpaaDoor

/- What the laid tables give the walks. -/
namespace Go.Proofs.YtkjlhcfocefhpaaDoor
open Go.RowKit

theorem Tryd.gTab : Tryd.prog.globalNamed "math/bits.deBruijn32tab" = some 1 := by kernel_rfl
theorem Tryd.tTab : (Tryd.prog.globals[1]?).map (·.type) = some 180 := by kernel_rfl
theorem Tryd.cells32 : Tryd.prog.cellsOf 180 = 32 := by kernel_rfl
theorem Tryd.cellsU8 : Tryd.prog.cellsOf 5 = 1 := by kernel_rfl
theorem laid_tab {H : Type} : (Rows.laid_math_bits_deBruijn32tab : DataW H) = Lib.tabData .u8 (Lib.deBruijn32tab.map fun (n : Nat) => (n : Int)) := rfl

theorem tabG_of {rest : List (String × DataW Unit)} {W : World} (h : laidMetH Tryd.prog (("math/bits.deBruijn32tab", Rows.laid_math_bits_deBruijn32tab) :: rest) W)
    (hp : ((("math/bits.deBruijn32tab", Rows.laid_math_bits_deBruijn32tab) :: rest).all fun x => x.2.handleName?.isNone) = true) : TabG W := by
  rw [MakeChecks.laidMetH_plain _ _ _ hp, laid_tab] at h
  have ht := Lib.tabIs_of_head Tryd.gTab Tryd.tTab Tryd.underlying180 Tryd.underlying5 Tryd.cellsU8 Tryd.cells32 h
  intro j hj
  have := ht.cell Tryd.gTab j (by simp [Lib.deBruijn32tab]; omega)
  rw [this]
  congr 2
  simp [List.getD, List.getElem?_map]
  cases h : Lib.deBruijn32tab[j]? <;> simp
end Go.Proofs.YtkjlhcfocefhpaaDoor

/- What the laid letters give the walks. -/
namespace Go.Proofs.YtkjlhcfocefhpaaDoor
open Go.RowKit

theorem Tryd.gLet : Tryd.prog.globalNamed "skipgraph/skipgraphworld.letters" = some 0 := by kernel_rfl
theorem Tryd.tLet : (Tryd.prog.globals[0]?).map (·.type) = some 94 := by kernel_rfl
theorem Tryd.cells6 : Tryd.prog.cellsOf 94 = 6 := by kernel_rfl
theorem Tryd.cellsStr : Tryd.prog.cellsOf 9 = 1 := by kernel_rfl
def letL : List (List UInt8) := [[97], [98], [99], [0], [255], [109]]

/-- AN ARRAY OF STRINGS THAT READS AS A LIST OF STRINGS HOLDS THEM, CELL FOR CELL. -/
theorem cells_of_strs {H : Type} {enc : TypeId × Value → H} {P : Program} {w : World} {base : Nat} {sp : Nat → Bool} {held : Bool} {fuel : Nat} {t e : TypeId} {n : Nat} {cs : List Value} {zs : List (List UInt8)} {p : List MemPlace}
    (ht : P.underlying t = some (.array n e)) (he : P.underlying e = some .string) (hce : P.cellsOf e = 1) (hct : P.cellsOf t = n)
    (h : DataW.trod enc P w base sp held fuel t cs = some (.agg (zs.map fun z => .lit (.string z)), p)) : ∀ (i : Nat) (z : List UInt8), zs[i]? = some z → ∃ s : ByteArray, s.data.toList = z ∧ cs[i]? = some (.string s) := by
  cases fuel with
  | zero => simp [DataW.trod] at h
  | succ fuel =>
    simp only [DataW.trod, ht, hce, hct, Nat.mul_one] at h
    split at h
    · rename_i hl
      obtain ⟨xs, hm, hx⟩ := Option.map_eq_some_iff.1 h
      have hxs : xs.map (·.1) = zs.map fun z => (DataW.lit (.string z) : DataW H) := by
        have := congrArg Prod.fst hx
        simpa using this
      have hxl : xs.length = n := by simpa using Lib.mapM_length hm
      have hzl : zs.length = n := by
        have := congrArg List.length hxs
        simp at this
        omega
      intro i z hz
      have hi : i < n := by have := (List.getElem?_eq_some_iff.1 hz).1; omega
      obtain ⟨b, hb, hf⟩ := Lib.mapM_at hm i i (by simp [hi])
      obtain ⟨s, hc, rfl, _⟩ := DataW.trod_string he hf
      have h1 : cs[i]? = some (.string s) := by
        have := congrArg (·[0]?) hc
        simpa [List.getElem?_take, List.getElem?_drop] using this
      have h2 : (xs.map (·.1))[i]? = some (DataW.lit (.string s.data.toList) : DataW H) := by simp [hb]
      rw [hxs] at h2
      simp only [List.getElem?_map, Option.map_eq_some_iff, DataW.lit.injEq, Lit.string.injEq] at h2
      obtain ⟨z', hz', hzz⟩ := h2
      have : z = z' := Option.some.inj (hz.symm.trans hz')
      exact ⟨s, by rw [this, hzz], h1⟩
    · cases h

theorem laid_let {H : Type} : (Rows.laid_skipgraph_skipgraphworld_letters : DataW H) = .agg (letL.map fun z => .lit (.string z)) := rfl
theorem letG_head {rest : List (String × DataW Unit)} {W : World} (h : laidMet Tryd.prog (("skipgraph/skipgraphworld.letters", .agg (letL.map fun z => .lit (.string z))) :: rest) W) : LetG W := by
  obtain ⟨ps, ⟨g', t', cs, fuel, p, q, hg', ht', hvar, hd, _, _⟩, _⟩ := h
  obtain rfl := Option.some.inj (Tryd.gLet.symm.trans hg')
  obtain rfl := Option.some.inj (Tryd.tLet.symm.trans ht')
  intro j hj
  obtain ⟨z, hz⟩ : ∃ z, letL[j]? = some z := ⟨letL[j]'(by simp [letL]; omega), by simp⟩
  obtain ⟨s, h1, h2⟩ := cells_of_strs Tryd.underlying94 Tryd.underlying9 Tryd.cellsStr Tryd.cells6 hd j z hz
  refine ⟨s, ?_, ?_⟩
  · have hl : z.length = 1 := by
      have : ∀ j, j < 6 → (letL[j]?.getD []).length = 1 := by decide
      have := this j hj
      rw [hz] at this
      exact this
    have : s.data.toList.length = 1 := by rw [h1]; exact hl
    rw [Array.length_toList] at this
    exact this
  · rw [World.var?_cell Tryd.gLet hvar j]
    simpa using h2
end Go.Proofs.YtkjlhcfocefhpaaDoor

/- The letters, where they are second on the list of what is laid. -/
namespace Go.Proofs.YtkjlhcfocefhpaaDoor
open Go.RowKit

theorem letG_second {x : String × DataW Unit} {W : World} (h : laidMetH Tryd.prog [x, ("skipgraph/skipgraphworld.letters", Rows.laid_skipgraph_skipgraphworld_letters)] W)
    (hp : ([x, ("skipgraph/skipgraphworld.letters", Rows.laid_skipgraph_skipgraphworld_letters)].all fun x => x.2.handleName?.isNone) = true) (hx : decide (x.1 = "skipgraph/skipgraphworld.letters") = false) : LetG W := by
  rw [MakeChecks.laidMetH_plain _ _ _ hp, laid_let] at h
  have h2 := h.filter (fun y => decide (y.1 = "skipgraph/skipgraphworld.letters"))
  rw [List.filter_cons_of_neg (by rw [hx]; simp), List.filter_cons_of_pos (by simp), List.filter_nil] at h2
  exact letG_head h2
end Go.Proofs.YtkjlhcfocefhpaaDoor

/- How the arguments of a statement are read: slices as lists. -/
namespace Go.Proofs.YtkjlhcfocefhpaaDoor
open Go.ChangeShapes Go.WideShapes Go.ChangeAt Go.RowKit Go.Deep Go.Joins

theorem own : ownKnob Tryd.prog.godebug = none := by kernel_rfl
theorem laidOut : laidOutB Tryd.prog = true := by kernel_rfl

section
variable {H : Type} {enc : TypeId × Value → H} {P : Program} {w : World} {base : Nat} {spare : Nat → Bool} {held : Bool}

theorem addr_lit {a : Addr} {v : Value} {w : World} (h : w.cell? (a.add 0) = some v) : a = ⟨a.block, a.off, none⟩ := by
  obtain ⟨b, o, s⟩ := a
  have : s = none := by simpa [Addr.add] using World.cell?_spot h
  subst this; rfl

/-- a slice of ints that came in -/
theorem rd_ints {t e : TypeId} {k : IntKind} {v : Value} {d : DataW H} {p : List MemPlace} {r : Reach} {b0 : Nat} (ht : P.underlying t = some (.slice e)) (he : P.underlying e = some (.int k)) (hC : P.cellsOf e = 1)
    (hv : Value.okWide P w r b0 t v) (h : DataW.Trod enc P w base spare held t v d p) :
    ∃ a n c l, v = .slice a n c ∧ Rd 1 (fun x : Int => [Value.int k x]) (· < w.heap.size) w a n l ∧ n ≤ c ∧ c ≤ maxLen ∧ (∀ x ∈ l, (Lit.int k x).wf = true) ∧ (a = none → c = 0) := by
  obtain ⟨a0, len0, cap0, rfl⟩ := okWide_slice ht hv
  obtain ⟨fuel, hf⟩ := h
  rcases open_ints ht he hC hf with ⟨hcs, _⟩ | ⟨x, l, c, zs, hcs, _, hl, hm, hz, _, hcell, hwz⟩
  · simp [Value.cells] at hcs
    obtain ⟨rfl, rfl, rfl⟩ := hcs
    exact ⟨none, 0, 0, [], rfl, Rd.nil _ _ _ _ _, by omega, by unfold maxLen; omega, by simp, fun _ => rfl⟩
  · simp [Value.cells] at hcs
    obtain ⟨rfl, rfl, rfl⟩ := hcs
    have hz' : len0 ≤ zs.length := by rw [hz]; split <;> omega
    refine ⟨_, len0, cap0, zs.take len0, rfl, ⟨by simp; omega, ?_⟩, hl, hm, fun y hy => hwz y (List.mem_of_mem_take hy), fun h => by cases h⟩
    rcases Nat.eq_zero_or_pos len0 with h0 | h0
    · exact .inl h0
    · have hx := addr_lit (hcell 0 (by omega))
      refine .inr ⟨x.block, x.off, by rw [← hx], ?_, fun j y hj c u hu => ?_⟩
      · have := World.block_lt_of_cell? w _ (hcell 0 (by omega))
        rw [hx] at this
        simpa [Addr.add] using this
      · have hj' : j < len0 := by
          have := (List.getElem?_eq_some_iff.1 hj).1
          simp at this; omega
        have hy : zs.getD j 0 = y := by
          rw [List.getElem?_take, if_pos hj'] at hj
          simp [List.getD, hj]
        have hc := hcell j (by omega)
        rw [hx, Addr.add_lit, hy] at hc
        rcases c with _ | c
        · simp at hu; subst hu; simpa using hc
        · simp at hu

end
end Go.Proofs.YtkjlhcfocefhpaaDoor

/-
  RedundantGaps returns true for every list of numbers and every number, and leaves its arguments as they were.
  Condition: the table of math/bits and the letters of the keys are as the program text lays them (tied by the card).
-/
namespace Go.Proofs.YtkjlhcfocefhpaaDoor
open Go.ChangeShapes Go.WideShapes Go.ChangeAt Go.RowKit Go.Deep Go.Joins
open Go.ChangeMaps (open_string shut_string)
set_option linter.unusedVariables false
theorem Tryd.cellsInt : Tryd.prog.cellsOf 3 = 1 := by kernel_rfl

set_option maxRecDepth 100000 in
set_option maxHeartbeats 1000000 in
theorem redundantGaps_lifted (os : Os) (started : os.Started) (H : Type) (enc : TypeId × Value → H) :
    ReturnsInHanded {} Tryd.checked os 13 .any (fun w args => (Rows.redundantGapsSpec.pre enc Tryd.prog Tryd.f13 [] false w args ∧ laidMetH Tryd.prog Rows.redundantGapsRow.laid w) ∧ sizedMet enc Tryd.prog Tryd.f13 (OpenSpec.ofChange Rows.redundantGapsSpec) false w args)
      (Rows.redundantGapsSpec.post enc Tryd.prog Tryd.f13 false true false false) := by
  refine returnsInHanded_of_change_and (C := Tryd.checked) (X := fun w _ => laidMetH Tryd.prog Rows.redundantGapsRow.laid w) (fun _ _ _ hh h => h.of_heap hh) own started (by kernel_rfl) Tryd.func13
    (ChangeSpec.witness_shaped (enc := enc) (C := Tryd.checked) (os := os) (X := fun w _ => laidMetH Tryd.prog Rows.redundantGapsRow.laid w) false (World.doorLaid Tryd.prog 400 os) #[.slice none 0 0, .int .i64 0] 8 rfl (World.shaped_of_RefB (by kernel_rfl) (by kernel_rfl)) (by kernel_rfl) (by kernel_rfl) (by kernel_rfl) (laidMetH_of_parts3 (fuel := 8) (laidMet_of_run' 8 (by kernel_rfl) (by kernel_rfl)) (by kernel_rfl) (by kernel_rfl))) ?_
  intro W base args ds gs before hval0 hW _ _ hL _
  have hval : ∀ (j : Nat) t v, Tryd.f13.params[j]? = some t → args[j]? = some v → Value.okWide Tryd.prog W .any base t v := hval0
  have hW' := hW
  obtain ⟨p, q, hA0, hV, rfl, hfz, hnd⟩ := hW
  have hA : DataW.TrodAll enc Tryd.prog W 0 (fun _ => true) true Tryd.f13.params.toList args.toList ds p := hA0
  rw [Tryd.params13] at hA hval
  obtain ⟨v0, vs0, d0, ds0, p0, q0, hargs, rfl, rfl, h0, r0⟩ := trodAll_cons hA
  obtain ⟨v1, vs1, d1, ds1, p1, q1, rfl, rfl, rfl, h1, r1⟩ := trodAll_cons r0
  obtain ⟨rfl, rfl, rfl⟩ := trodAll_nil r1
  obtain rfl : args = #[v0, v1] := by cases args; simp_all
  obtain ⟨rfl, rfl⟩ := trodVars_none hV
  have k0 := h0
  have lt0 : ∀ x ∈ p0, x.block < W.heap.size := by obtain ⟨m, hm⟩ := k0; exact DataW.trod_lt m _ _ _ hm
  have k1 := h1
  have lt1 : ∀ x ∈ p1, x.block < W.heap.size := by obtain ⟨m, hm⟩ := k1; exact DataW.trod_lt m _ _ _ hm
  obtain ⟨A0, n0, cap0, l0, rfl, rd0, hc0, hm0, wf0, nl0⟩ := rd_ints Tryd.underlying22 Tryd.underlying3 Tryd.cellsInt (hval 0 22 v0 rfl rfl) h0
  obtain ⟨a1, rfl, rfl, rfl, wa1⟩ := open_int Tryd.underlying3 (hval 1 3 v1 rfl rfl) h1
  clear hA0 hval0
  have hT : TabG W := tabG_of hL (by kernel_rfl)
  have hL2 : LetG W := letG_second hL (by kernel_rfl) (by kernel_rfl)
  refine (redundantgaps_walk A0 n0 cap0 l0 a1 W rd0 hc0 hm0 hT hL2).mono fun e W' ⟨he, hch⟩ => ?_
  have bel : Below W.heap.size W W' := hch.below (fun _ h => h)
  subst he
  exact ⟨_, rfl, _, _, _, [], _, [], hW', trodAll_mk1 (shut_bool Tryd.underlying4 _), (trodAll_cons_mk (Below.trod laidOut (by kernel_rfl) (of_decide_eq_true (by kernel_rfl)) k0 bel lt0) (trodAll_cons_mk (Below.trod laidOut (by kernel_rfl) (of_decide_eq_true (by kernel_rfl)) k1 bel lt1) trodAll_mk0)), rfl, bel.frame _, fun h => by cases h⟩

theorem redundantGaps_over : Rows.redundantGapsRow.holds Tryd.pinned (OpenSpec.ofChange Rows.redundantGapsSpec) :=
  OpenClaim.holds_of_wide 13 Tryd.f13 rfl rfl rfl rfl rfl rfl rfl ⟨rfl, rfl, rfl, rfl, rfl⟩ rfl rfl rfl rfl rfl (by kernel_rfl) Tryd.func13 (by kernel_rfl)
    (of_decide_eq_true (by kernel_rfl)) (by unfold Func.isWrapper; first | (rw [if_pos (by decide +kernel)]; kernel_rfl) | (rw [if_neg (by decide +kernel)]; exact ⟨rfl, rfl⟩))
    (fun os started H enc _ => redundantGaps_lifted os started H enc)

/-- THE STATEMENT: the tied card -/
theorem RedundantGaps_holds : Rows.RedundantGapsCardSaid :=
  Claim7.holds_tied_plain_at .later [] [.data, .data] true (true, "825c4c20d94b3dba0cd20ac6aaa34ae2a3fd6d17ead9a1175ad9d628145c474d") false
    redundantGaps_over (fun _ h => by cases h) (by kernel_rfl) (fun _ h => by cases h) redundantGaps_row_tie rfl ⟨rfl, rfl⟩ (by kernel_rfl) rfl
    (fun f fn hf hfn => by
      obtain rfl : f = 13 := Option.some.inj ((show Tryd.prog.funcNamed "skipgraph/skipgraphlaw14.RedundantGaps" = some 13 by kernel_rfl).symm.trans hf) |>.symm
      obtain rfl : fn = Tryd.f13 := (Option.some.inj (Tryd.func13.symm.trans hfn)).symm
      exact ⟨by kernel_rfl, fun j t ht => by
        rw [Tryd.params13] at ht
        have hm : t ∈ [22, 3] := by simpa using Array.mem_of_getElem? ht
        have hall : ([22, 3].all fun u => !Tryd.prog.wantsStandIn u) = true := by kernel_rfl
        exact (show Tryd.prog.wantsStandIn t = false by simpa using List.all_eq_true.1 hall t hm)⟩)
    (by kernel_rfl)
#print axioms RedundantGaps_holds
end Go.Proofs.YtkjlhcfocefhpaaDoor
