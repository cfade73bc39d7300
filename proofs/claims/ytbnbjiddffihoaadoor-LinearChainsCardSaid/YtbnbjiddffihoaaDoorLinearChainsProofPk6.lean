/- Texts for the statement LinearChainsProof, part 6 of 6: L16, L16C, Laid4, LaidL, Laid2, Open, LinearChainsProof. -/
import Derived.Test.YtbnbjiddffihoaaDoorTie
import Derived.Test.YtbnbjiddffihoaaDoorCards
import Derived.Lib.LaidTab
import Derived.Lib.LaidU8
import Derived.LaidMore
import Derived.Stop.Joined
import Derived.SevenTiedAt
import Derived.ChangeArms
import Derived.LaidSub
import Derived.Test.YtbnbjiddffihoaaDoorRows
import Derived.ProofKit
import Derived.OpenShut
import Derived.ShutString
import Derived.ChangeOld
import Derived.Lib.SmallJoins
import Derived.Deep.Slices
import Derived.Deep.Fields
import Derived.ChangeSame
import Derived.Test.YtbnbjiddffihoaaDoorLinearChainsProofPk1
import Derived.Test.YtbnbjiddffihoaaDoorLinearChainsProofPk2
import Derived.Test.YtbnbjiddffihoaaDoorLinearChainsProofPk3
import Derived.Test.YtbnbjiddffihoaaDoorLinearChainsProofPk5

/- What the law walks of chapter 16 share (printed by gen_l16.py). -/
namespace Go.Proofs.YtbnbjiddffihoaaDoor
open Go.RowKit

theorem round_few {N : List Nd} {P : List Pr} {m M : Nat} (h : FewQ m M P) (hN : N.length ≤ m) : FewQ m M (roundN N P) := by
  intro p hp
  rw [roundN_eq] at hp
  obtain ⟨q, hq, rfl⟩ := List.mem_map.1 hp
  refine ⟨Nat.le_trans (ord_len _ _) hN, ?_⟩
  unfold normalN at hq
  split at hq
  · obtain ⟨x, _, rfl⟩ := List.mem_map.1 hq
    show (peerN P x.id).near.length ≤ M
    unfold peerN
    cases hf : P.find? fun p => p.id == x.id with
    | none => exact Nat.zero_le _
    | some q => exact (h q (List.mem_of_find?_eq_some hf)).2
  · cases hq
theorem rounds_few {N : List Nd} {P : List Pr} {m M : Nat} (h : FewQ m M P) (hN : N.length ≤ m) : ∀ k, FewQ m M (roundsN N P k)
  | 0 => h
  | k + 1 => round_few (rounds_few h hN k) hN
theorem few_small {P : List Pr} (h : FewQ 100 200 P) : SmallP P := fun p hp => by have := h p hp; omega
theorem chain_few (L : List Nd) : FewQ 100 200 (chainN L) := by
  intro p hp
  unfold chainN at hp
  obtain ⟨i, _, rfl⟩ := List.mem_map.1 hp
  unfold chainP
  refine ⟨?_, Nat.zero_le _⟩
  cases L[i + 1]? <;> simp
/-- a number in memory of the call's own -/
theorem own_lit1 {e base g : Nat} {w : World} {x : Int} (B : Blk w g [.int .i64 x] e) (hb : base ≤ g) : OwnL 1 encI e base w (.slice (some ⟨g, 0, none⟩) 1 1) [x] :=
  ⟨rfl, .inr ⟨g, 1, #[.int .i64 x], rfl, hb, B, Nat.le_refl _, by unfold maxLen; omega, rfl, rfl⟩⟩
def ChRel (L : List Nd) (w : World) (o i : Value) (wr : World) : Prop :=
  ∃ (k : Nat) (qs : List PQ), k ≤ L.length ∧ i = .int .i64 k ∧ OwnPr w.heap.size wr o qs ((List.range k).map (chainP L)) ∧ Ex w wr
set_option maxRecDepth 100000 in
set_option maxHeartbeats 8000000 in
theorem chain_x (a : Option Addr) (n c : Nat) (L : List Nd) (w : World) (h : Sl 3 encN w a n L) (hn : n ≤ 1000) :
    Calls Tryd.prog 33 #[.slice a n c] w (PlPost (chainN L) w) := by
  have HL := Lib.hid h.len
  have HS := Lib.hid h
  clear h
  go_enter Tryd.func33, Tryd.ntmps33
  go_wp2_with fail
  go_loopw [3, 4] (fun o i wr => ChRel L w o i wr) (fun _ i _ => n - (intOf i).toNat)
  case atStart => exact ⟨0, [], by omega, rfl, OwnP.nil _ _ _ _ _, Ex.refl _⟩
  case round =>
    obtain ⟨k, qs, hk, rfl, own, ki⟩ := hrel
    rw [HL.out] at hk
    obtain ⟨wi, rfl⟩ : ∃ wi : World, wi = wr := ⟨_, rfl⟩
    have hql : qs.length = k := by rw [own.2.1, List.length_map, List.length_range]
    have zi := ki.size
    by_cases hkn : k < n
    · obtain ⟨xl, ol, x, rfl, hxl, hx, hcl⟩ := (HS.out.nx ki).at hkn
      have e0 : wi.cell? ⟨xl, ol + k * 3, none⟩ = some (.int .i64 x.id) := hcl 0 _ rfl
      have SN : Hid ((List.range (k + 1)).map (chainP L) = (List.range k).map (chainP L) ++ [chainP L k]) := Lib.hid (by rw [List.range_succ, List.map_append]; rfl)
      have HX := Lib.hid hx
      have OWN := Lib.hid own
      have KI := Lib.hid ki
      have h03 : (k : Int) < (n : Int) := by omega
      clear hx hcl own ki
      have B5 := Blk.new wi [.int .i64 x.id, .slice none 0 0, .int .i64 0, .int .i64 0, .slice none 0 0] 41
      have kk := Ex.new wi (.cells #[.int .i64 x.id, .slice none 0 0, .int .i64 0, .int .i64 0, .slice none 0 0] 41)
      obtain ⟨w5, hw5⟩ : ∃ w5, w5 = wi.alloc (.cells #[.int .i64 x.id, .slice none 0 0, .int .i64 0, .int .i64 0, .slice none 0 0] 41) := ⟨_, rfl⟩
      obtain ⟨g5, hg5⟩ : ∃ g5, g5 = wi.heap.size := ⟨_, rfl⟩
      replace B5 : Blk w5 g5 [.int .i64 x.id, .slice none 0 0, .int .i64 0, .int .i64 0, .slice none 0 0] 41 := by rw [hw5, hg5]; exact B5
      rw [← hw5] at kk
      have Hw5 := Lib.hid hw5
      have Hg5 := Lib.hid hg5
      have e5 := Chg.cellv kk e0 hxl
      have K5 := Lib.hid kk
      have zg5 : wi.heap.size ≤ g5 := by omega
      clear kk hw5 hg5
      go_upto_region 6 with fail
      rw [← Hg5.out, ← Hw5.out]
      clear Hg5 Hw5
      clear e0 e5
      by_cases hk1 : k + 1 < n
      · obtain ⟨xl', ol', y, hee, hxl', hy, hcl⟩ := (HS.out.nx (KI.out.nx K5.out)).at hk1
        cases hee
        have e1 : w5.cell? ⟨xl, ol + (k + 1) * 3, none⟩ = some (.int .i64 y.id) := hcl 0 _ rfl
        have CP : Hid (chainP L k = ⟨x.id, 0, 0, [y.id], []⟩) := Lib.hid (by unfold chainP; rw [HX.out, hy]; rfl)
        have h04 : (k : Int) + 1 < (n : Int) := by omega
        have hwk : IntKind.i64.wrap ((k : Int) + 1) = (k : Int) + 1 := IntWalk.i64_in _ (by omega)
        have z5 := K5.out.size
        have hl5 := B5.lt
        clear hcl hy
        obtain ⟨g6, hg6⟩ : ∃ g6, g6 = w5.heap.size := ⟨_, rfl⟩
        obtain ⟨w7, hw7⟩ : ∃ w7, w7 = (w5.setCell ⟨g5, 1, none⟩ (.slice (some ⟨g6, 0, none⟩) 1 1)).alloc (.cells #[.int .i64 y.id] 3) := ⟨_, rfl⟩
        have hss : (w5.setCell ⟨g5, 1, none⟩ (.slice (some ⟨g6, 0, none⟩) 1 1)).heap.size = w5.heap.size := by simp [World.setCell]
        have B6 : Blk w7 g6 [.int .i64 y.id] 3 := by
          have hb := Blk.new (w5.setCell ⟨g5, 1, none⟩ (.slice (some ⟨g6, 0, none⟩) 1 1)) [.int .i64 y.id] 3
          rw [hss, ← hg6] at hb
          rw [hw7]
          exact hb
        have BF : Blk w7 g5 [.int .i64 x.id, .slice (some ⟨g6, 0, none⟩) 1 1, .int .i64 0, .int .i64 0, .slice none 0 0] 41 := by rw [hw7]; exact (B5.set 1 _).nx (Ex.new _ _)
        have K7 : Hid (Ex wi w7) := Lib.hid (by rw [hw7]; exact (K5.out.setNew (p := ⟨g5, 1, none⟩) _ zg5).alloc _)
        have OK := own_lit1 (base := wi.heap.size) B6 (by omega)
        have f1 : (w5.alloc (.cells #[.int .i64 y.id] 3)).frozen? ⟨g5, 1, none⟩ = false := (B5.nx (Ex.new _ _)).free 1
        have q1 : (w5.alloc (.cells #[.int .i64 y.id] 3)).cell? ⟨g5, 1, none⟩ = some (.slice none 0 0) := (B5.nx (Ex.new _ _)).cell 1 _ rfl
        have Hg6 := Lib.hid hg6
        have Hw7 := Lib.hid hw7
        clear hg6 hw7 hss
        go_upto_region 8 with fail
        rw [← Hg6.out, ← Hw7.out]
        clear Hg6 Hw7
        have p0 := BF.cell 0 _ rfl
        have p1 := BF.cell 1 _ rfl
        have p2 := BF.cell 2 _ rfl
        have p3 := BF.cell 3 _ rfl
        have p4 := BF.cell 4 _ rfl
        have kl := Ex.new w7 (.cells #[.int .i64 x.id, .slice (some ⟨g6, 0, none⟩) 1 1, .int .i64 0, .int .i64 0, .slice none 0 0] 41)
        have KN := K7.out.nx kl
        have zn := Nat.le_trans zi KN.size
        have OP := Lib.hid (OWN.out.nx KN)
        have OKL := Lib.hid (OK.nx kl)
        clear BF B5 B6 OK e1 f1 q1
        go_wp2_with (at_builtin; (refine wpList_append_W (enc := encQ) _ rfl _ _ 36 rfl w.heap.size 41 (.agg #[.int .i64 0, .slice none 0 0, .int .i64 0, .int .i64 0, .slice none 0 0]) 5 72 Tryd.underlying36 Tryd.infoPr rfl (by omega) (by omega) _ qs OP.out.row rfl _ 1 1 [((x.id, 0, 0), (some ⟨g6, 0, none⟩, 1, 1), (none, 0, 0))] (Sl.lit _ rfl rfl encQ_len rfl) encQ_len encQ_one rfl (by omega) (by omega) zn ?_); intro v9 w9 own9 ch0 ch1 _)
        have RR := OWN.out.app (p := ⟨x.id, 0, 0, [y.id], []⟩) (hk := (some ⟨g6, 0, none⟩, 1, 1)) (hn := (none, 0, 0)) (by decide) (by decide) zi KN OKL.out (OwnL.nil _ _ _ _ _) own9 ch0
        exact ⟨⟨k + 1, _, by rw [HL.out]; omega, by go_num, by rw [SN.out, CP.out]; exact RR, Chg.trans (KI.out.nx KN) ch1⟩, by simp [intOf]; omega⟩
      · have CP : Hid (chainP L k = ⟨x.id, 0, 0, [], []⟩) := Lib.hid (by unfold chainP; rw [HX.out, List.getElem?_eq_none (l := L) (i := k + 1) (by rw [HL.out]; omega)]; rfl)
        have h04 : ¬ (k : Int) + 1 < (n : Int) := by omega
        have p0 := B5.cell 0 _ rfl
        have p1 := B5.cell 1 _ rfl
        have p2 := B5.cell 2 _ rfl
        have p3 := B5.cell 3 _ rfl
        have p4 := B5.cell 4 _ rfl
        have kl := Ex.new w5 (.cells #[.int .i64 x.id, .slice none 0 0, .int .i64 0, .int .i64 0, .slice none 0 0] 41)
        have KN := K5.out.nx kl
        have zn := Nat.le_trans zi KN.size
        have OP := Lib.hid (OWN.out.nx KN)
        clear B5
        go_wp2_with (at_builtin; (refine wpList_append_W (enc := encQ) _ rfl _ _ 36 rfl w.heap.size 41 (.agg #[.int .i64 0, .slice none 0 0, .int .i64 0, .int .i64 0, .slice none 0 0]) 5 72 Tryd.underlying36 Tryd.infoPr rfl (by omega) (by omega) _ qs OP.out.row rfl _ 1 1 [((x.id, 0, 0), (none, 0, 0), (none, 0, 0))] (Sl.lit _ rfl rfl encQ_len rfl) encQ_len encQ_one rfl (by omega) (by omega) zn ?_); intro v9 w9 own9 ch0 ch1 _)
        have RR := OWN.out.app (p := ⟨x.id, 0, 0, [], []⟩) (hk := (none, 0, 0)) (hn := (none, 0, 0)) (by decide) (by decide) zi KN (OwnL.nil _ _ _ _ _) (OwnL.nil _ _ _ _ _) own9 ch0
        exact ⟨⟨k + 1, _, by rw [HL.out]; omega, by go_num, by rw [SN.out, CP.out]; exact RR, Chg.trans (KI.out.nx KN) ch1⟩, by simp [intOf]; omega⟩
    · obtain rfl : k = n := by omega
      have FO : Hid (OwnPr w.heap.size wi u3 qs (chainN L)) := Lib.hid (by unfold chainN; rw [HL.out]; exact own)
      have FE := Lib.hid ki
      clear own ki
      go_wp2_with fail
      go_ret
      exact ⟨_, qs, rfl, FO.out, FE.out⟩
/-- peers in memory that is only read from here on -/
def RsRel (N : List Nd) (P : List Pr) (w : World) (m : Nat) (o i : Value) (wr : World) : Prop :=
  ∃ (k : Nat) (a : Option Addr) (c : Nat), k ≤ m ∧ i = .int .i64 k ∧ o = .slice a N.length c ∧ PL wr a N.length (roundsN N P k) ∧ Ex w wr
end Go.Proofs.YtbnbjiddffihoaaDoor

/- The walk over LinearChains (printed by gen_l16.py). -/
namespace Go.Proofs.YtbnbjiddffihoaaDoor
open Go.RowKit

set_option maxRecDepth 100000 in
set_option maxHeartbeats 16000000 in
theorem linearchains_walk (a1 : Option Addr) (n1 c1 : Nat) (l1 : List Int) (w : World) (h1 : Sl 1 encI w a1 n1 l1) (hc1 : n1 ≤ c1) (hm1 : c1 ≤ maxLen) (hT : TabG w) (hL : LetG w) :
    Calls Tryd.prog 6 #[.slice a1 n1 c1] w fun e w' => e = .returned (.bool true) ∧ Ex w w' := by
  go_enter Tryd.func6, Tryd.ntmps6
  go_wp2_with fail
  refine (new_t _ _ _ l1 _ h1 hc1 hm1).mono ?_
  rintro e w1 ⟨rfl, T, kk, z1⟩
  obtain ⟨b, hb⟩ : ∃ b, b = w.heap.size := ⟨_, rfl⟩
  rw [← hb] at T ⊢
  have hgt : ¬ 1 = b := by have := hT.lt; omega
  have hgl : ¬ 0 = b := by have := hL.lt; omega
  have T1 : Hid (TabG w1) := Lib.hid (hT.nx kk)
  have L1 : Hid (LetG w1) := Lib.hid (hL.nx kk)
  have QL : Hid (Exl b w w1) := Lib.hid ⟨kk, by omega⟩
  clear h1 hT hL kk hb z1
  have hbo := T.lt
  go_wp2_with fail
  refine (some_n 10 _ T L1.out hgl (by omega) (by omega)).mono ?_
  clear T
  rintro e x1 ⟨v1, L, rfl, R, hL1⟩
  have kw := R.k
  have T := R.tape
  obtain ⟨aX, cX, rfl, SX, hcX, hmX, _⟩ := R.own.slf (fun _ => rfl)
  have SX := SX.slb hbo
  have RL := R.len
  have H0 := Lib.hid R.ok
  have HW : Hid (∀ x ∈ L, x.word < 4294967296) := Lib.hid (fun x hx => by have := R.word x hx; omega)
  clear R
  have HSb := Lib.hid SX
  have KW := Lib.hid kw
  have TH := Lib.hid T
  clear SX kw T
  go_wp2_with fail
  (with_reducible refine (chain_x _ _ _ L _ HSb.out.sl (by omega)).mono ?_)
  rintro e x3 ⟨vJ, qs, rfl, own, kk⟩
  have TG := Lib.hid (T1.out.nxb hgt (KW.out.nxb (kk.b b)))
  have QX := Lib.hid (QL.out.nxb (KW.out.nxb (kk.b b))).1
  have HS := Lib.hid (HSb.out.sl.nx kk)
  obtain ⟨aJ, cJ, rfl, PJ, _, _, _⟩ := own.pl
  have HC := Lib.hid (chain_conn (N := L) H0.out)
  have HF : Hid (FewQ 100 200 (chainN L)) := Lib.hid (chain_few L)
  have hPJ : (chainN L).length = L.length := chain_ids.1
  rw [hPJ] at PJ ⊢
  replace hPJ := Lib.hid hPJ
  have HPJ := Lib.hid PJ
  clear own kk PJ
  go_wp2_with fail
  go_loopw [5, 6] (fun o i wr => RsRel L (chainN L) x3 L.length o i wr) (fun _ i _ => L.length - (intOf i).toNat)
  case atStart => exact ⟨0, aJ, cJ, by omega, rfl, rfl, HPJ.out, Ex.refl _⟩
  case round =>
    obtain ⟨k, aK, cK, hk, rfl, rfl, PK, kk⟩ := hrel
    obtain ⟨wi, rfl⟩ : ∃ wi : World, wi = wr := ⟨_, rfl⟩
    have HK := Lib.hid PK
    have KE := Lib.hid kk
    clear PK kk
    have SM := Lib.hid (few_small (rounds_few (N := L) HF.out (by omega) k))
    by_cases hlt : k < L.length
    · go_wp2_with fail
      (with_reducible refine (lround_p _ _ _ L _ _ _ _ _ (HS.out.nx KE.out) (by omega) hcX hmX HK.out (by omega) SM.out).mono ?_)
      rintro e w9 ⟨v9, qs9, rfl, own, kk⟩
      obtain ⟨a9, c9, rfl, P9, _, _, _⟩ := own.pl
      have hl9 : (roundN L (roundsN L (chainN L) k)).length = L.length := round_len H0.out
      rw [hl9] at P9 ⊢
      have FN : Hid (RsRel L (chainN L) x3 L.length (.slice a9 L.length c9) (.int .i64 ((k : Int) + 1)) w9) := Lib.hid ⟨k + 1, a9, c9, by omega, by go_num, rfl, P9, KE.out.nx kk⟩
      clear own P9 kk
      go_wp2_with fail
      exact ⟨FN.out, by simp [intOf]; omega⟩
    · have HE : Hid (exactLB L (roundsN L (chainN L) k) = true) := Lib.hid (exactLB_iff.2 (rounds_exact HC.out k (by omega)))
      go_wp2_with fail
      (with_reducible refine (exact16_p _ _ _ L _ _ _ _ _ (HS.out.nx KE.out) (by omega) hcX hmX HW.out (TG.out.nx KE.out) HK.out (by omega) SM.out).mono ?_)
      rintro e w8 ⟨rfl, kk⟩
      rw [HE.out]
      replace KE := Lib.hid (KE.out.nx kk)
      clear kk HK
      go_wp2_with fail
      (with_reducible refine (sane16_x _ (TG.out.nx KE.out)).mono ?_)
      rintro e wz ⟨rfl, kk⟩
      have KF := Lib.hid (QX.out.nx (KE.out.nx kk))
      clear kk
      go_wp2_with fail
      go_ret
      exact ⟨rfl, KF.out⟩
end Go.Proofs.YtbnbjiddffihoaaDoor

/- What the laid tables give the walks. -/
namespace Go.Proofs.YtbnbjiddffihoaaDoor
open Go.RowKit

theorem Tryd.gTab : Tryd.prog.globalNamed "math/bits.deBruijn32tab" = some 1 := by kernel_rfl
theorem Tryd.tTab : (Tryd.prog.globals[1]?).map (·.type) = some 171 := by kernel_rfl
theorem Tryd.cells32 : Tryd.prog.cellsOf 171 = 32 := by kernel_rfl
theorem Tryd.cellsU8 : Tryd.prog.cellsOf 5 = 1 := by kernel_rfl
theorem laid_tab {H : Type} : (Rows.laid_math_bits_deBruijn32tab : DataW H) = Lib.tabData .u8 (Lib.deBruijn32tab.map fun (n : Nat) => (n : Int)) := rfl

theorem tabG_of {rest : List (String × DataW Unit)} {W : World} (h : laidMetH Tryd.prog (("math/bits.deBruijn32tab", Rows.laid_math_bits_deBruijn32tab) :: rest) W)
    (hp : ((("math/bits.deBruijn32tab", Rows.laid_math_bits_deBruijn32tab) :: rest).all fun x => x.2.handleName?.isNone) = true) : TabG W := by
  rw [MakeChecks.laidMetH_plain _ _ _ hp, laid_tab] at h
  have ht := Lib.tabIs_of_head Tryd.gTab Tryd.tTab Tryd.underlying171 Tryd.underlying5 Tryd.cellsU8 Tryd.cells32 h
  intro j hj
  have := ht.cell Tryd.gTab j (by simp [Lib.deBruijn32tab]; omega)
  rw [this]
  congr 2
  simp [List.getD, List.getElem?_map]
  cases h : Lib.deBruijn32tab[j]? <;> simp
end Go.Proofs.YtbnbjiddffihoaaDoor

/- What the laid letters give the walks. -/
namespace Go.Proofs.YtbnbjiddffihoaaDoor
open Go.RowKit

theorem Tryd.gLet : Tryd.prog.globalNamed "skipgraph/skipgraphworld.letters" = some 0 := by kernel_rfl
theorem Tryd.tLet : (Tryd.prog.globals[0]?).map (·.type) = some 113 := by kernel_rfl
theorem Tryd.cells6 : Tryd.prog.cellsOf 113 = 6 := by kernel_rfl
theorem Tryd.cellsStr : Tryd.prog.cellsOf 9 = 1 := by kernel_rfl
def letL : List (List UInt8) := [[97], [98], [99], [0], [255], [109]]

/-- AN ARRAY OF STRINGS THAT READS AS A LIST OF STRINGS HOLDS THEM, CELL FOR CELL. -/
theorem cells_of_strs {H : Type} {enc : TypeId × Value → H} {P : Program} {w : World} {base : Nat} {sp : Nat → Bool} {held : Bool} {fuel : Nat} {t e : TypeId} {n : Nat} {cs : List Value} {zs : List (List UInt8)} {p : List MemPlace}
    (ht : P.underlying t = some (.array n e)) (he : P.underlying e = some .string) (hce : P.cellsOf e = 1) (hct : P.cellsOf t = n)
    (h : DataW.trod enc P w base sp held fuel t cs = some (.agg (zs.map fun z => .lit (.string z)), p)) : ∀ (i : Nat) (z : List UInt8), zs[i]? = some z → ∃ s : ByteArray, s.data.toList = z ∧ cs[i]? = some (.string s) := by
  cases fuel with
  | zero => simp [DataW.trod] at h
  | succ fuel =>
    simp only [DataW.trod, ht, hce, hct, Nat.mul_one] at h
    split at h
    · rename_i hl
      obtain ⟨xs, hm, hx⟩ := Option.map_eq_some_iff.1 h
      have hxs : xs.map (·.1) = zs.map fun z => (DataW.lit (.string z) : DataW H) := by
        have := congrArg Prod.fst hx
        simpa using this
      have hxl : xs.length = n := by simpa using Lib.mapM_length hm
      have hzl : zs.length = n := by
        have := congrArg List.length hxs
        simp at this
        omega
      intro i z hz
      have hi : i < n := by have := (List.getElem?_eq_some_iff.1 hz).1; omega
      obtain ⟨b, hb, hf⟩ := Lib.mapM_at hm i i (by simp [hi])
      obtain ⟨s, hc, rfl, _⟩ := DataW.trod_string he hf
      have h1 : cs[i]? = some (.string s) := by
        have := congrArg (·[0]?) hc
        simpa [List.getElem?_take, List.getElem?_drop] using this
      have h2 : (xs.map (·.1))[i]? = some (DataW.lit (.string s.data.toList) : DataW H) := by simp [hb]
      rw [hxs] at h2
      simp only [List.getElem?_map, Option.map_eq_some_iff, DataW.lit.injEq, Lit.string.injEq] at h2
      obtain ⟨z', hz', hzz⟩ := h2
      have : z = z' := Option.some.inj (hz.symm.trans hz')
      exact ⟨s, by rw [this, hzz], h1⟩
    · cases h

theorem laid_let {H : Type} : (Rows.laid_skipgraph_skipgraphworld_letters : DataW H) = .agg (letL.map fun z => .lit (.string z)) := rfl
theorem letG_head {rest : List (String × DataW Unit)} {W : World} (h : laidMet Tryd.prog (("skipgraph/skipgraphworld.letters", .agg (letL.map fun z => .lit (.string z))) :: rest) W) : LetG W := by
  obtain ⟨ps, ⟨g', t', cs, fuel, p, q, hg', ht', hvar, hd, _, _⟩, _⟩ := h
  obtain rfl := Option.some.inj (Tryd.gLet.symm.trans hg')
  obtain rfl := Option.some.inj (Tryd.tLet.symm.trans ht')
  intro j hj
  obtain ⟨z, hz⟩ : ∃ z, letL[j]? = some z := ⟨letL[j]'(by simp [letL]; omega), by simp⟩
  obtain ⟨s, h1, h2⟩ := cells_of_strs Tryd.underlying113 Tryd.underlying9 Tryd.cellsStr Tryd.cells6 hd j z hz
  refine ⟨s, ?_, ?_⟩
  · have hl : z.length = 1 := by
      have : ∀ j, j < 6 → (letL[j]?.getD []).length = 1 := by decide
      have := this j hj
      rw [hz] at this
      exact this
    have : s.data.toList.length = 1 := by rw [h1]; exact hl
    rw [Array.length_toList] at this
    exact this
  · rw [World.var?_cell Tryd.gLet hvar j]
    simpa using h2
end Go.Proofs.YtbnbjiddffihoaaDoor

/- The letters, where they are second on the list of what is laid. -/
namespace Go.Proofs.YtbnbjiddffihoaaDoor
open Go.RowKit

theorem letG_second {x : String × DataW Unit} {W : World} (h : laidMetH Tryd.prog [x, ("skipgraph/skipgraphworld.letters", Rows.laid_skipgraph_skipgraphworld_letters)] W)
    (hp : ([x, ("skipgraph/skipgraphworld.letters", Rows.laid_skipgraph_skipgraphworld_letters)].all fun x => x.2.handleName?.isNone) = true) (hx : decide (x.1 = "skipgraph/skipgraphworld.letters") = false) : LetG W := by
  rw [MakeChecks.laidMetH_plain _ _ _ hp, laid_let] at h
  have h2 := h.filter (fun y => decide (y.1 = "skipgraph/skipgraphworld.letters"))
  rw [List.filter_cons_of_neg (by rw [hx]; simp), List.filter_cons_of_pos (by simp), List.filter_nil] at h2
  exact letG_head h2
end Go.Proofs.YtbnbjiddffihoaaDoor

/- How the arguments of a statement are read: slices as lists. -/
namespace Go.Proofs.YtbnbjiddffihoaaDoor
open Go.ChangeShapes Go.WideShapes Go.ChangeAt Go.RowKit Go.Deep Go.Joins

theorem own : ownKnob Tryd.prog.godebug = none := by kernel_rfl
theorem laidOut : laidOutB Tryd.prog = true := by kernel_rfl

section
variable {H : Type} {enc : TypeId × Value → H} {P : Program} {w : World} {base : Nat} {spare : Nat → Bool} {held : Bool}

theorem addr_lit {a : Addr} {v : Value} {w : World} (h : w.cell? (a.add 0) = some v) : a = ⟨a.block, a.off, none⟩ := by
  obtain ⟨b, o, s⟩ := a
  have : s = none := by simpa [Addr.add] using World.cell?_spot h
  subst this; rfl

/-- a slice of ints that came in -/
theorem rd_ints {t e : TypeId} {k : IntKind} {v : Value} {d : DataW H} {p : List MemPlace} {r : Reach} {b0 : Nat} (ht : P.underlying t = some (.slice e)) (he : P.underlying e = some (.int k)) (hC : P.cellsOf e = 1)
    (hv : Value.okWide P w r b0 t v) (h : DataW.Trod enc P w base spare held t v d p) :
    ∃ a n c l, v = .slice a n c ∧ Rd 1 (fun x : Int => [Value.int k x]) (· < w.heap.size) w a n l ∧ n ≤ c ∧ c ≤ maxLen ∧ (∀ x ∈ l, (Lit.int k x).wf = true) ∧ (a = none → c = 0) := by
  obtain ⟨a0, len0, cap0, rfl⟩ := okWide_slice ht hv
  obtain ⟨fuel, hf⟩ := h
  rcases open_ints ht he hC hf with ⟨hcs, _⟩ | ⟨x, l, c, zs, hcs, _, hl, hm, hz, _, hcell, hwz⟩
  · simp [Value.cells] at hcs
    obtain ⟨rfl, rfl, rfl⟩ := hcs
    exact ⟨none, 0, 0, [], rfl, Rd.nil _ _ _ _ _, by omega, by unfold maxLen; omega, by simp, fun _ => rfl⟩
  · simp [Value.cells] at hcs
    obtain ⟨rfl, rfl, rfl⟩ := hcs
    have hz' : len0 ≤ zs.length := by rw [hz]; split <;> omega
    refine ⟨_, len0, cap0, zs.take len0, rfl, ⟨by simp; omega, ?_⟩, hl, hm, fun y hy => hwz y (List.mem_of_mem_take hy), fun h => by cases h⟩
    rcases Nat.eq_zero_or_pos len0 with h0 | h0
    · exact .inl h0
    · have hx := addr_lit (hcell 0 (by omega))
      refine .inr ⟨x.block, x.off, by rw [← hx], ?_, fun j y hj c u hu => ?_⟩
      · have := World.block_lt_of_cell? w _ (hcell 0 (by omega))
        rw [hx] at this
        simpa [Addr.add] using this
      · have hj' : j < len0 := by
          have := (List.getElem?_eq_some_iff.1 hj).1
          simp at this; omega
        have hy : zs.getD j 0 = y := by
          rw [List.getElem?_take, if_pos hj'] at hj
          simp [List.getD, hj]
        have hc := hcell j (by omega)
        rw [hx, Addr.add_lit, hy] at hc
        rcases c with _ | c
        · simp at hu; subst hu; simpa using hc
        · simp at hu

end
end Go.Proofs.YtbnbjiddffihoaaDoor

/-
  LinearChains returns true for every list of numbers, and leaves its arguments as they were.
  Condition: the table of math/bits and the letters of the keys are as the program text lays them (tied by the card).
-/
namespace Go.Proofs.YtbnbjiddffihoaaDoor
open Go.ChangeShapes Go.WideShapes Go.ChangeAt Go.RowKit Go.Deep Go.Joins
open Go.ChangeMaps (open_string shut_string)
set_option linter.unusedVariables false
theorem Tryd.cellsInt : Tryd.prog.cellsOf 3 = 1 := by kernel_rfl

set_option maxRecDepth 100000 in
set_option maxHeartbeats 1000000 in
theorem linearChains_lifted (os : Os) (started : os.Started) (H : Type) (enc : TypeId × Value → H) :
    ReturnsInHanded {} Tryd.checked os 6 .any (fun w args => (Rows.linearChainsSpec.pre enc Tryd.prog Tryd.f6 [] false w args ∧ laidMetH Tryd.prog Rows.linearChainsRow.laid w) ∧ sizedMet enc Tryd.prog Tryd.f6 (OpenSpec.ofChange Rows.linearChainsSpec) false w args)
      (Rows.linearChainsSpec.post enc Tryd.prog Tryd.f6 false true false false) := by
  refine returnsInHanded_of_change_and (C := Tryd.checked) (X := fun w _ => laidMetH Tryd.prog Rows.linearChainsRow.laid w) (fun _ _ _ hh h => h.of_heap hh) own started (by kernel_rfl) Tryd.func6
    (ChangeSpec.witness_shaped (enc := enc) (C := Tryd.checked) (os := os) (X := fun w _ => laidMetH Tryd.prog Rows.linearChainsRow.laid w) false (World.doorLaid Tryd.prog 400 os) #[.slice none 0 0] 8 rfl (World.shaped_of_RefB (by kernel_rfl) (by kernel_rfl)) (by kernel_rfl) (by kernel_rfl) (by kernel_rfl) (laidMetH_of_parts3 (fuel := 8) (laidMet_of_run' 8 (by kernel_rfl) (by kernel_rfl)) (by kernel_rfl) (by kernel_rfl))) ?_
  intro W base args ds gs before hval0 hW _ _ hL _
  have hval : ∀ (j : Nat) t v, Tryd.f6.params[j]? = some t → args[j]? = some v → Value.okWide Tryd.prog W .any base t v := hval0
  have hW' := hW
  obtain ⟨p, q, hA0, hV, rfl, hfz, hnd⟩ := hW
  have hA : DataW.TrodAll enc Tryd.prog W 0 (fun _ => true) true Tryd.f6.params.toList args.toList ds p := hA0
  rw [Tryd.params6] at hA hval
  obtain ⟨v0, vs0, d0, ds0, p0, q0, hargs, rfl, rfl, h0, r0⟩ := trodAll_cons hA
  obtain ⟨rfl, rfl, rfl⟩ := trodAll_nil r0
  obtain rfl : args = #[v0] := by cases args; simp_all
  obtain ⟨rfl, rfl⟩ := trodVars_none hV
  have k0 := h0
  have lt0 : ∀ x ∈ p0, x.block < W.heap.size := by obtain ⟨m, hm⟩ := k0; exact DataW.trod_lt m _ _ _ hm
  obtain ⟨A0, n0, cap0, l0, rfl, rd0, hc0, hm0, wf0, nl0⟩ := rd_ints Tryd.underlying22 Tryd.underlying3 Tryd.cellsInt (hval 0 22 v0 rfl rfl) h0
  clear hA0 hval0
  have hT : TabG W := tabG_of hL (by kernel_rfl)
  have hL2 : LetG W := letG_second hL (by kernel_rfl) (by kernel_rfl)
  refine (linearchains_walk A0 n0 cap0 l0 W rd0 hc0 hm0 hT hL2).mono fun e W' ⟨he, hch⟩ => ?_
  have bel : Below W.heap.size W W' := hch.below (fun _ h => h)
  subst he
  exact ⟨_, rfl, _, _, _, [], _, [], hW', trodAll_mk1 (shut_bool Tryd.underlying4 _), (trodAll_cons_mk (Below.trod laidOut (by kernel_rfl) (of_decide_eq_true (by kernel_rfl)) k0 bel lt0) trodAll_mk0), rfl, bel.frame _, fun h => by cases h⟩

theorem linearChains_over : Rows.linearChainsRow.holds Tryd.pinned (OpenSpec.ofChange Rows.linearChainsSpec) :=
  OpenClaim.holds_of_wide 6 Tryd.f6 rfl rfl rfl rfl rfl rfl rfl ⟨rfl, rfl, rfl, rfl, rfl⟩ rfl rfl rfl rfl rfl (by kernel_rfl) Tryd.func6 (by kernel_rfl)
    (of_decide_eq_true (by kernel_rfl)) (by unfold Func.isWrapper; first | (rw [if_pos (by decide +kernel)]; kernel_rfl) | (rw [if_neg (by decide +kernel)]; exact ⟨rfl, rfl⟩))
    (fun os started H enc _ => linearChains_lifted os started H enc)

/-- THE STATEMENT: the tied card -/
theorem LinearChains_holds : Rows.LinearChainsCardSaid :=
  Claim7.holds_tied_plain_at .later [] [.data, .data] true (true, "537bcba351ee7c6ecaa5297babacf7821561b6c8c2db16f64a63e42404e90020") false
    linearChains_over (fun _ h => by cases h) (by kernel_rfl) (fun _ h => by cases h) linearChains_row_tie rfl ⟨rfl, rfl⟩ (by kernel_rfl) rfl
    (fun f fn hf hfn => by
      obtain rfl : f = 6 := Option.some.inj ((show Tryd.prog.funcNamed "skipgraph/skipgraphlaw16.LinearChains" = some 6 by kernel_rfl).symm.trans hf) |>.symm
      obtain rfl : fn = Tryd.f6 := (Option.some.inj (Tryd.func6.symm.trans hfn)).symm
      exact ⟨by kernel_rfl, fun j t ht => by
        rw [Tryd.params6] at ht
        have hm : t ∈ [22] := by simpa using Array.mem_of_getElem? ht
        have hall : ([22].all fun u => !Tryd.prog.wantsStandIn u) = true := by kernel_rfl
        exact (show Tryd.prog.wantsStandIn t = false by simpa using List.all_eq_true.1 hall t hm)⟩)
    (by kernel_rfl)
#print axioms LinearChains_holds
end Go.Proofs.YtbnbjiddffihoaaDoor
