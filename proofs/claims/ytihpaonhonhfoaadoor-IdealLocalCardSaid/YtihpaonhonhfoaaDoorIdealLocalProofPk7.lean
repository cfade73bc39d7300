/- Texts for the statement IdealLocalProof, part 7 of 7: IdlW, Laid4, LaidL, Laid2, Open, IdealLocalProof. -/
import Derived.Test.YtihpaonhonhfoaaDoorTie
import Derived.Test.YtihpaonhonhfoaaDoorCards
import Derived.Lib.LaidTab
import Derived.Lib.LaidU8
import Derived.LaidMore
import Derived.Stop.Joined
import Derived.SevenTiedAt
import Derived.ChangeArms
import Derived.LaidSub
import Derived.Test.YtihpaonhonhfoaaDoorRows
import Derived.ProofKit
import Derived.OpenShut
import Derived.ShutString
import Derived.ChangeOld
import Derived.Lib.SmallJoins
import Derived.Deep.Slices
import Derived.Deep.Fields
import Derived.ChangeSame
import Derived.Test.YtihpaonhonhfoaaDoorIdealLocalProofPk1
import Derived.Test.YtihpaonhonhfoaaDoorIdealLocalProofPk3
import Derived.Test.YtihpaonhonhfoaaDoorIdealLocalProofPk5
import Derived.Test.YtihpaonhonhfoaaDoorIdealLocalProofPk6

/- The walk over IdealLocal (printed by gen_idw.py). -/
namespace Go.Proofs.YtihpaonhonhfoaaDoor
open Go.RowKit

theorem loc_cases (a b x y : Int) (h1 : a ≠ b → a = x) (h2 : a = x → b = y) : ((a != b) = false ∧ (a == x) = false) ∨ ((a != b) = false ∧ (a == x) = true ∧ (b != y) = false) ∨ ((a != b) = true ∧ (a != x) = false ∧ (a == x) = true ∧ (b != y) = false) := by
  by_cases e : a = b
  · by_cases f : a = x
    · have := h2 f
      exact .inr (.inl ⟨by simp [e], by simp [f], by simp [this]⟩)
    · exact .inl ⟨by simp [e], by simp [f]⟩
  · have f := h1 e
    have := h2 f
    exact .inr (.inr ⟨by simp [e], by simp [f], by simp [f], by simp [this]⟩)
theorem without_one (l : List Nd) (id : Int) : withoutN l [id] = dropN l id := by
  unfold withoutN dropN
  apply List.filter_congr
  intro y _
  simp only [List.contains_cons, List.contains_nil, Bool.or_false]

set_option maxRecDepth 100000 in
set_option maxHeartbeats 8000000 in
theorem ideallocal_walk (a1 : Option Addr) (n1 c1 : Nat) (l1 : List Int) (w : World) (h1 : Sl 1 encI w a1 n1 l1) (hc1 : n1 ≤ c1) (hm1 : c1 ≤ maxLen)
    (hT : TabG w) (hL : LetG w) :
    Calls Tryd.prog 8 #[.slice a1 n1 c1] w fun e w' => e = .returned (.bool true) ∧ Ex w w' := by
  go_enter Tryd.func8, Tryd.ntmps8
  go_wp2_with fail
  refine (new_t _ _ _ l1 _ h1 hc1 hm1).mono ?_
  rintro e w1 ⟨rfl, T, kk, z1⟩
  obtain ⟨b, hb⟩ : ∃ b, b = w.heap.size := ⟨_, rfl⟩
  rw [← hb] at T ⊢
  have hgt : ¬ 1 = b := by have := hT.lt; omega
  have hgl : ¬ 0 = b := by have := hL.lt; omega
  have T1 := hT.nx kk
  have L1 := hL.nx kk
  have q : Exl b w w1 := ⟨kk, by omega⟩
  clear h1 hT hL kk hb z1
  go_wp2_with fail
  refine (some_n 9 _ T L1 hgl (by omega) (by omega)).mono ?_
  rintro e w2 ⟨v1, L, rfl, R, hL1⟩
  obtain ⟨aX, cX, rfl, SX, hcX, hmX, _⟩ := R.own.slf (fun _ => rfl)
  have SX := SX.slb T.lt
  have RL := R.len
  have RW := Lib.hid (fun x hx => Nat.lt_trans (R.word x hx) (show 65536 < 4294967296 by omega))
  have QL := q.nxb R.k
  have T2 := T1.nxb hgt R.k
  have RC := Lib.hid R.ok
  have T := R.tape
  clear R L1 q T1
  go_wp2_with fail
  refine (next_t 4 _ T (by omega) (by omega)).mono ?_
  clear T
  rintro e w3 ⟨r, rfl, r0, r1, T, kk⟩
  obtain ⟨h, rfl⟩ := Int.eq_ofNat_of_zero_le r0
  have hh : h < 4 := by omega
  replace QL := QL.nxb kk
  replace SX := SX.nxb kk
  replace T2 := T2.nxb hgt kk
  clear kk r0 r1
  go_wp2_with fail
  refine (next_t (L.length : Int) _ T (by omega) (by omega)).mono ?_
  clear T
  rintro e w4 ⟨r, rfl, r0, r1, T, kk⟩
  obtain ⟨m, rfl⟩ := Int.eq_ofNat_of_zero_le r0
  have hm : m < L.length := by omega
  replace QL := QL.nxb kk
  have S4 := (SX.nxb kk).sl
  replace T2 := T2.nxb hgt kk
  clear kk r0 r1 SX T
  obtain ⟨x1, o1, x, rfl, hx1, hx, hc⟩ := S4.at hm
  have c0 : w4.cell? ⟨x1, o1 + m * 3, none⟩ = some (.int .i64 x.id) := hc 0 _ rfl
  have c1 : w4.cell? ⟨x1, o1 + m * 3 + 1, none⟩ = some (.string x.key) := hc 1 _ rfl
  have c2 : w4.cell? ⟨x1, o1 + m * 3 + 1 + 1, none⟩ = some (.int .u32 x.word) := by simpa [Nat.add_assoc] using hc 2 _ rfl
  have hxm := Lib.hid (List.mem_of_getElem? hx)
  clear hc hx
  have BX := Blk.new w4 [.int .i64 x.id, .string x.key, .int .u32 x.word] 48
  have k7 := Ex.new w4 (.cells #[.int .i64 x.id, .string x.key, .int .u32 x.word] 48)
  obtain ⟨w5, hw5⟩ : ∃ w5, w5 = w4.alloc (.cells #[.int .i64 x.id, .string x.key, .int .u32 x.word] 48) := ⟨_, rfl⟩
  obtain ⟨g, hg⟩ : ∃ g, g = w4.heap.size := ⟨_, rfl⟩
  have BX : Blk w5 g [.int .i64 x.id, .string x.key, .int .u32 x.word] 48 := by rw [hw5, hg]; exact BX
  rw [← hw5] at k7
  have HW5 := Lib.hid hw5
  have HG := Lib.hid hg
  replace QL := QL.nx k7
  replace S4 := S4.nx k7
  replace T2 := T2.nx k7
  clear hw5 hg k7
  go_upto_region 5 with fail
  rw [← HG.out, ← HW5.out]
  clear HG HW5
  have b0 := BX.cell 0 _ rfl
  have k8 := Ex.new w5 (.cells #[.int .i64 x.id] 3)
  have SI : Sl 1 encI (w5.alloc (.cells #[.int .i64 x.id] 3)) (some ⟨w5.heap.size, 0, none⟩) 1 [x.id] := Sl.lit _ rfl rfl (fun _ => rfl) rfl
  have QL := Lib.hid (QL.nx k8)
  have S5 := S4.nx k8
  have T5 := T2.nx k8
  have BX := BX.nx k8
  clear k8 c0 c1 c2 S4 T2
  go_wp2_with fail
  (with_reducible refine (without_p _ _ _ _ _ _ _ _ _ S5 (by omega) SI (by omega)).mono ?_)
  rintro e w6 ⟨v, rfl, own, kk⟩
  rw [without_one] at own
  obtain ⟨aR, cR, rfl, SR, hcR, hmR, _⟩ := own.slf (fun _ => rfl)
  have QL := Lib.hid (QL.out.nx kk)
  have S5 := Lib.hid (S5.nx kk)
  have T5 := Lib.hid (T5.nx kk)
  have BX := Lib.hid (BX.nx kk)
  have SR5 := Lib.hid SR.sl
  have DL := drop_len RC.out hxm.out
  have RWR := Lib.hid (fun y (hy : y ∈ dropN L x.id) => RW.out y (List.mem_filter.1 hy).1)
  clear kk SI own b0 SR
  obtain ⟨n, hn⟩ : ∃ n, n = (dropN L x.id).length := ⟨_, rfl⟩
  rw [← hn] at DL SR5 hcR ⊢
  have HN := Lib.hid hn
  have hn8 : n ≤ 8 := by omega
  clear hn
  go_wp2_with fail
  go_loopw [8] (fun i wr => NRel n w6 i wr) (fun i _ => n - (intOf i).toNat)
  case atStart => exact ⟨0, by omega, rfl, Ex.refl _⟩
  case round =>
    obtain ⟨k, hk, rfl, kw⟩ := hrel
    obtain ⟨wo, rfl⟩ : ∃ wo : World, wo = wr := ⟨_, rfl⟩
    by_cases hlt : k < n
    · obtain ⟨x2, o2, y, rfl, hx2, hy, hc⟩ := (SR5.out.nx kw).at hlt
      have e0 : wo.cell? ⟨x2, o2 + k * 3, none⟩ = some (.int .i64 y.id) := hc 0 _ rfl
      have hym := Lib.hid (List.mem_of_getElem? hy)
      clear hc hy
      go_wp2_with fail
      go_loopw [9] (fun i wr => NRel (h + 1) wo i wr) (fun i _ => h + 1 - (intOf i).toNat)
      case atStart => exact ⟨0, by omega, rfl, Ex.refl _⟩
      case round =>
        obtain ⟨j, hj, rfl, ki⟩ := hrel
        obtain ⟨wi, rfl⟩ : ∃ wi : World, wi = wr := ⟨_, rfl⟩
        by_cases hjl : j ≤ h
        ·
          have SI := S5.out.nx (kw.nx ki)
          have RI := SR5.out.nx (kw.nx ki)
          have TI := T5.out.nx (kw.nx ki)
          have b0 := (BX.out.nx (kw.nx ki)).cell 0 _ rfl
          have hbx := (BX.out.nx (kw.nx ki)).lt
          have hx2i := Nat.lt_of_lt_of_le hx2 ki.size
          have e0 := Chg.cellv ki e0 hx2
          have hlv : lvlN (j : Int) = true := by unfold lvlN; simp; omega
          obtain ⟨O1, O2, O3, D1, D2, D3, D4⟩ := loc_law RC.out RW.out hlv hxm.out hym.out
          have LAW := Lib.hid (And.intro O1 (And.intro O2 (And.intro O3 (And.intro D1 (And.intro D2 (And.intro D3 D4))))))
          clear O1 O2 O3 D1 D2 D3 D4 hlv
          obtain ⟨A, hA⟩ : ∃ A, A = neighN L y.id (j : Int) := ⟨_, rfl⟩
          obtain ⟨B, hB⟩ : ∃ B, B = neighN (dropN L x.id) y.id (j : Int) := ⟨_, rfl⟩
          obtain ⟨Y, hY⟩ : ∃ Y, Y = neighN L x.id (j : Int) := ⟨_, rfl⟩
          obtain ⟨O1, O2, O3, D1, D2, D3, D4⟩ := LAW.out
          rw [← hA, ← hB] at D1 D2
          rw [← hA, ← hB, ← hY] at D3 D4
          rw [← hA] at O1
          rw [← hB] at O2
          rw [← hY] at O3
          have HA0 := Lib.hid hA
          have HB0 := Lib.hid hB
          have HY0 := Lib.hid hY
          have D1 := Lib.hid D1
          have D2 := Lib.hid D2
          have D3 := Lib.hid D3
          have D4 := Lib.hid D4
          have O2 := Lib.hid O2
          have O3 := Lib.hid O3
          have KI := Lib.hid ki
          clear hA hB hY LAW ki
          go_wp2_with fail
          (with_reducible refine (neigh_p _ _ _ _ _ _ _ SI (by omega) hcX hmX RW.out TI).mono ?_)
          rintro e v1 ⟨rfl, kk⟩
          rw [← HA0.out, O1]
          clear O1
          have B1 := Blk.new v1 [.int .i64 A.1.1, .int .i64 A.1.2] 36
          have k3 := Ex.new v1 (.cells #[.int .i64 A.1.1, .int .i64 A.1.2] 36)
          obtain ⟨v2, hv2⟩ : ∃ v2, v2 = v1.alloc (.cells #[.int .i64 A.1.1, .int .i64 A.1.2] 36) := ⟨_, rfl⟩
          obtain ⟨g1, hg1⟩ : ∃ g1, g1 = v1.heap.size := ⟨_, rfl⟩
          have B1 : Blk v2 g1 [.int .i64 A.1.1, .int .i64 A.1.2] 36 := by rw [hv2, hg1]; exact B1
          rw [← hv2] at k3
          have HA := Lib.hid hv2
          have HB := Lib.hid hg1
          clear hv2 hg1
          have k4 := kk.nx k3
          replace SI := SI.nx k4
          replace RI := RI.nx k4
          replace TI := TI.nx k4
          replace KI := Lib.hid (KI.out.nx k4)
          replace e0 := Chg.cellv k4 e0 hx2i
          replace b0 := Chg.cellv k4 b0 hbx
          replace hx2i := Nat.lt_of_lt_of_le hx2i k4.size
          replace hbx := Nat.lt_of_lt_of_le hbx k4.size
          clear kk k3 k4
          go_upto_region 13 with fail
          rw [← HB.out, ← HA.out]
          clear HA HB
          go_wp2_with fail
          (with_reducible refine (neigh_p _ _ _ _ _ _ _ RI (by omega) hcR hmR RWR.out TI).mono ?_)
          rintro e v3 ⟨rfl, kk⟩
          rw [← HB0.out, O2.out]
          have B2 := Blk.new v3 [.int .i64 B.1.1, .int .i64 B.1.2] 36
          have k3 := Ex.new v3 (.cells #[.int .i64 B.1.1, .int .i64 B.1.2] 36)
          obtain ⟨v4, hv4⟩ : ∃ v4, v4 = v3.alloc (.cells #[.int .i64 B.1.1, .int .i64 B.1.2] 36) := ⟨_, rfl⟩
          obtain ⟨g2, hg2⟩ : ∃ g2, g2 = v3.heap.size := ⟨_, rfl⟩
          have B2 : Blk v4 g2 [.int .i64 B.1.1, .int .i64 B.1.2] 36 := by rw [hv4, hg2]; exact B2
          rw [← hv4] at k3
          have HA := Lib.hid hv4
          have HB := Lib.hid hg2
          clear hv4 hg2
          have k4 := kk.nx k3
          replace SI := SI.nx k4
          replace TI := TI.nx k4
          replace B1 := B1.nx k4
          replace KI := Lib.hid (KI.out.nx k4)
          replace b0 := Chg.cellv k4 b0 hbx
          replace hbx := Nat.lt_of_lt_of_le hbx k4.size
          clear kk k3 k4 e0 RI
          go_upto_region 14 with fail
          rw [← HB.out, ← HA.out]
          clear HA HB
          go_wp2_with fail
          (with_reducible refine (neigh_p _ _ _ _ _ _ _ SI (by omega) hcX hmX RW.out TI).mono ?_)
          rintro e v5 ⟨rfl, kk⟩
          rw [← HY0.out, O3.out]
          have B3 := Blk.new v5 [.int .i64 Y.1.1, .int .i64 Y.1.2] 36
          have k3 := Ex.new v5 (.cells #[.int .i64 Y.1.1, .int .i64 Y.1.2] 36)
          obtain ⟨v6, hv6⟩ : ∃ v6, v6 = v5.alloc (.cells #[.int .i64 Y.1.1, .int .i64 Y.1.2] 36) := ⟨_, rfl⟩
          obtain ⟨g3, hg3⟩ : ∃ g3, g3 = v5.heap.size := ⟨_, rfl⟩
          have B3 : Blk v6 g3 [.int .i64 Y.1.1, .int .i64 Y.1.2] 36 := by rw [hv6, hg3]; exact B3
          rw [← hv6] at k3
          have HA := Lib.hid hv6
          have HB := Lib.hid hg3
          clear hv6 hg3
          have k4 := kk.nx k3
          replace B1 := B1.nx k4
          replace B2 := B2.nx k4
          replace KI := Lib.hid (KI.out.nx k4)
          replace b0 := Chg.cellv k4 b0 hbx
          have a0 := B1.cell 0 _ rfl
          have a1 := B1.cell 1 _ rfl
          have a2 := B2.cell 0 _ rfl
          have a3 := B2.cell 1 _ rfl
          have a4 := B3.cell 0 _ rfl
          have a5 := B3.cell 1 _ rfl
          clear kk k3 k4 SI TI B1 B2 B3 HA0 HB0 HY0
          go_upto_region 15 with fail
          rw [← HB.out, ← HA.out]
          clear HA HB
          replace D1 := D1.out
          replace D2 := D2.out
          replace D3 := D3.out
          replace D4 := D4.out
          rcases loc_cases A.1.1 B.1.1 x.id Y.1.1 D1 D3 with ⟨p1, p2⟩ | ⟨p1, p2, p3⟩ | ⟨p1, p2, p3, p4⟩
          · rcases loc_cases A.1.2 B.1.2 x.id Y.1.2 D2 D4 with ⟨q1, q2⟩ | ⟨q1, q2, q3⟩ | ⟨q1, q2, q3, q4⟩
            · clear D1 D2 D3 D4
              go_wp2_with fail
              exact ⟨⟨j + 1, by omega, by go_num, KI.out⟩, by simp [intOf]; omega⟩
            · clear D1 D2 D3 D4
              go_wp2_with fail
              exact ⟨⟨j + 1, by omega, by go_num, KI.out⟩, by simp [intOf]; omega⟩
            · clear D1 D2 D3 D4
              go_wp2_with fail
              exact ⟨⟨j + 1, by omega, by go_num, KI.out⟩, by simp [intOf]; omega⟩
          · rcases loc_cases A.1.2 B.1.2 x.id Y.1.2 D2 D4 with ⟨q1, q2⟩ | ⟨q1, q2, q3⟩ | ⟨q1, q2, q3, q4⟩
            · clear D1 D2 D3 D4
              go_wp2_with fail
              exact ⟨⟨j + 1, by omega, by go_num, KI.out⟩, by simp [intOf]; omega⟩
            · clear D1 D2 D3 D4
              go_wp2_with fail
              exact ⟨⟨j + 1, by omega, by go_num, KI.out⟩, by simp [intOf]; omega⟩
            · clear D1 D2 D3 D4
              go_wp2_with fail
              exact ⟨⟨j + 1, by omega, by go_num, KI.out⟩, by simp [intOf]; omega⟩
          · rcases loc_cases A.1.2 B.1.2 x.id Y.1.2 D2 D4 with ⟨q1, q2⟩ | ⟨q1, q2, q3⟩ | ⟨q1, q2, q3, q4⟩
            · clear D1 D2 D3 D4
              go_wp2_with fail
              exact ⟨⟨j + 1, by omega, by go_num, KI.out⟩, by simp [intOf]; omega⟩
            · clear D1 D2 D3 D4
              go_wp2_with fail
              exact ⟨⟨j + 1, by omega, by go_num, KI.out⟩, by simp [intOf]; omega⟩
            · clear D1 D2 D3 D4
              go_wp2_with fail
              exact ⟨⟨j + 1, by omega, by go_num, KI.out⟩, by simp [intOf]; omega⟩
        · obtain rfl : j = h + 1 := by omega
          have kq := kw.nx ki
          clear hj hjl e0
          go_wp2_with fail
          exact ⟨⟨k + 1, by omega, by go_num, kq⟩, by simp [intOf]; omega⟩
    · obtain rfl : k = n := by omega
      have TT := T5.out.nx kw
      have DL2 : ((k : Int) == (L.length : Int) - 1) = true := by rw [beq_iff_eq]; omega
      clear hk hlt
      go_wp2_with fail
      (with_reducible refine (sane6_x _ TT).mono ?_)
      rintro e w9 ⟨rfl, kk⟩
      go_wp2_with fail
      go_ret
      exact ⟨rfl, (QL.out.nx (kw.nx kk)).1⟩
end Go.Proofs.YtihpaonhonhfoaaDoor

/- What the laid tables give the walks. -/
namespace Go.Proofs.YtihpaonhonhfoaaDoor
open Go.RowKit

theorem Tryd.gTab : Tryd.prog.globalNamed "math/bits.deBruijn32tab" = some 1 := by kernel_rfl
theorem Tryd.tTab : (Tryd.prog.globals[1]?).map (·.type) = some 116 := by kernel_rfl
theorem Tryd.cells32 : Tryd.prog.cellsOf 116 = 32 := by kernel_rfl
theorem Tryd.cellsU8 : Tryd.prog.cellsOf 5 = 1 := by kernel_rfl
theorem laid_tab {H : Type} : (Rows.laid_math_bits_deBruijn32tab : DataW H) = Lib.tabData .u8 (Lib.deBruijn32tab.map fun (n : Nat) => (n : Int)) := rfl

theorem tabG_of {rest : List (String × DataW Unit)} {W : World} (h : laidMetH Tryd.prog (("math/bits.deBruijn32tab", Rows.laid_math_bits_deBruijn32tab) :: rest) W)
    (hp : ((("math/bits.deBruijn32tab", Rows.laid_math_bits_deBruijn32tab) :: rest).all fun x => x.2.handleName?.isNone) = true) : TabG W := by
  rw [MakeChecks.laidMetH_plain _ _ _ hp, laid_tab] at h
  have ht := Lib.tabIs_of_head Tryd.gTab Tryd.tTab Tryd.underlying116 Tryd.underlying5 Tryd.cellsU8 Tryd.cells32 h
  intro j hj
  have := ht.cell Tryd.gTab j (by simp [Lib.deBruijn32tab]; omega)
  rw [this]
  congr 2
  simp [List.getD, List.getElem?_map]
  cases h : Lib.deBruijn32tab[j]? <;> simp
end Go.Proofs.YtihpaonhonhfoaaDoor

/- What the laid letters give the walks. -/
namespace Go.Proofs.YtihpaonhonhfoaaDoor
open Go.RowKit

theorem Tryd.gLet : Tryd.prog.globalNamed "skipgraph/skipgraphworld.letters" = some 0 := by kernel_rfl
theorem Tryd.tLet : (Tryd.prog.globals[0]?).map (·.type) = some 88 := by kernel_rfl
theorem Tryd.cells6 : Tryd.prog.cellsOf 88 = 6 := by kernel_rfl
theorem Tryd.cellsStr : Tryd.prog.cellsOf 9 = 1 := by kernel_rfl
def letL : List (List UInt8) := [[97], [98], [99], [0], [255], [109]]

/-- AN ARRAY OF STRINGS THAT READS AS A LIST OF STRINGS HOLDS THEM, CELL FOR CELL. -/
theorem cells_of_strs {H : Type} {enc : TypeId × Value → H} {P : Program} {w : World} {base : Nat} {sp : Nat → Bool} {held : Bool} {fuel : Nat} {t e : TypeId} {n : Nat} {cs : List Value} {zs : List (List UInt8)} {p : List MemPlace}
    (ht : P.underlying t = some (.array n e)) (he : P.underlying e = some .string) (hce : P.cellsOf e = 1) (hct : P.cellsOf t = n)
    (h : DataW.trod enc P w base sp held fuel t cs = some (.agg (zs.map fun z => .lit (.string z)), p)) : ∀ (i : Nat) (z : List UInt8), zs[i]? = some z → ∃ s : ByteArray, s.data.toList = z ∧ cs[i]? = some (.string s) := by
  cases fuel with
  | zero => simp [DataW.trod] at h
  | succ fuel =>
    simp only [DataW.trod, ht, hce, hct, Nat.mul_one] at h
    split at h
    · rename_i hl
      obtain ⟨xs, hm, hx⟩ := Option.map_eq_some_iff.1 h
      have hxs : xs.map (·.1) = zs.map fun z => (DataW.lit (.string z) : DataW H) := by
        have := congrArg Prod.fst hx
        simpa using this
      have hxl : xs.length = n := by simpa using Lib.mapM_length hm
      have hzl : zs.length = n := by
        have := congrArg List.length hxs
        simp at this
        omega
      intro i z hz
      have hi : i < n := by have := (List.getElem?_eq_some_iff.1 hz).1; omega
      obtain ⟨b, hb, hf⟩ := Lib.mapM_at hm i i (by simp [hi])
      obtain ⟨s, hc, rfl, _⟩ := DataW.trod_string he hf
      have h1 : cs[i]? = some (.string s) := by
        have := congrArg (·[0]?) hc
        simpa [List.getElem?_take, List.getElem?_drop] using this
      have h2 : (xs.map (·.1))[i]? = some (DataW.lit (.string s.data.toList) : DataW H) := by simp [hb]
      rw [hxs] at h2
      simp only [List.getElem?_map, Option.map_eq_some_iff, DataW.lit.injEq, Lit.string.injEq] at h2
      obtain ⟨z', hz', hzz⟩ := h2
      have : z = z' := Option.some.inj (hz.symm.trans hz')
      exact ⟨s, by rw [this, hzz], h1⟩
    · cases h

theorem laid_let {H : Type} : (Rows.laid_skipgraph_skipgraphworld_letters : DataW H) = .agg (letL.map fun z => .lit (.string z)) := rfl
theorem letG_head {rest : List (String × DataW Unit)} {W : World} (h : laidMet Tryd.prog (("skipgraph/skipgraphworld.letters", .agg (letL.map fun z => .lit (.string z))) :: rest) W) : LetG W := by
  obtain ⟨ps, ⟨g', t', cs, fuel, p, q, hg', ht', hvar, hd, _, _⟩, _⟩ := h
  obtain rfl := Option.some.inj (Tryd.gLet.symm.trans hg')
  obtain rfl := Option.some.inj (Tryd.tLet.symm.trans ht')
  intro j hj
  obtain ⟨z, hz⟩ : ∃ z, letL[j]? = some z := ⟨letL[j]'(by simp [letL]; omega), by simp⟩
  obtain ⟨s, h1, h2⟩ := cells_of_strs Tryd.underlying88 Tryd.underlying9 Tryd.cellsStr Tryd.cells6 hd j z hz
  refine ⟨s, ?_, ?_⟩
  · have hl : z.length = 1 := by
      have : ∀ j, j < 6 → (letL[j]?.getD []).length = 1 := by decide
      have := this j hj
      rw [hz] at this
      exact this
    have : s.data.toList.length = 1 := by rw [h1]; exact hl
    rw [Array.length_toList] at this
    exact this
  · rw [World.var?_cell Tryd.gLet hvar j]
    simpa using h2
theorem letG_of {rest : List (String × DataW Unit)} {W : World} (h : laidMetH Tryd.prog (("skipgraph/skipgraphworld.letters", Rows.laid_skipgraph_skipgraphworld_letters) :: rest) W)
    (hp : ((("skipgraph/skipgraphworld.letters", Rows.laid_skipgraph_skipgraphworld_letters) :: rest).all fun x => x.2.handleName?.isNone) = true) : LetG W := by
  rw [MakeChecks.laidMetH_plain _ _ _ hp, laid_let] at h
  exact letG_head h
end Go.Proofs.YtihpaonhonhfoaaDoor

/- The letters, where they are second on the list of what is laid. -/
namespace Go.Proofs.YtihpaonhonhfoaaDoor
open Go.RowKit

theorem letG_second {x : String × DataW Unit} {W : World} (h : laidMetH Tryd.prog [x, ("skipgraph/skipgraphworld.letters", Rows.laid_skipgraph_skipgraphworld_letters)] W)
    (hp : ([x, ("skipgraph/skipgraphworld.letters", Rows.laid_skipgraph_skipgraphworld_letters)].all fun x => x.2.handleName?.isNone) = true) (hx : decide (x.1 = "skipgraph/skipgraphworld.letters") = false) : LetG W := by
  rw [MakeChecks.laidMetH_plain _ _ _ hp, laid_let] at h
  have h2 := h.filter (fun y => decide (y.1 = "skipgraph/skipgraphworld.letters"))
  rw [List.filter_cons_of_neg (by rw [hx]; simp), List.filter_cons_of_pos (by simp), List.filter_nil] at h2
  exact letG_head h2
end Go.Proofs.YtihpaonhonhfoaaDoor

/- How the arguments of a statement are read: slices as lists. -/
namespace Go.Proofs.YtihpaonhonhfoaaDoor
open Go.ChangeShapes Go.WideShapes Go.ChangeAt Go.RowKit Go.Deep Go.Joins

theorem own : ownKnob Tryd.prog.godebug = none := by kernel_rfl
theorem laidOut : laidOutB Tryd.prog = true := by kernel_rfl

section
variable {H : Type} {enc : TypeId × Value → H} {P : Program} {w : World} {base : Nat} {spare : Nat → Bool} {held : Bool}

theorem addr_lit {a : Addr} {v : Value} {w : World} (h : w.cell? (a.add 0) = some v) : a = ⟨a.block, a.off, none⟩ := by
  obtain ⟨b, o, s⟩ := a
  have : s = none := by simpa [Addr.add] using World.cell?_spot h
  subst this; rfl

/-- a slice of ints that came in -/
theorem rd_ints {t e : TypeId} {k : IntKind} {v : Value} {d : DataW H} {p : List MemPlace} {r : Reach} {b0 : Nat} (ht : P.underlying t = some (.slice e)) (he : P.underlying e = some (.int k)) (hC : P.cellsOf e = 1)
    (hv : Value.okWide P w r b0 t v) (h : DataW.Trod enc P w base spare held t v d p) :
    ∃ a n c l, v = .slice a n c ∧ Rd 1 (fun x : Int => [Value.int k x]) (· < w.heap.size) w a n l ∧ n ≤ c ∧ c ≤ maxLen ∧ (∀ x ∈ l, (Lit.int k x).wf = true) ∧ (a = none → c = 0) := by
  obtain ⟨a0, len0, cap0, rfl⟩ := okWide_slice ht hv
  obtain ⟨fuel, hf⟩ := h
  rcases open_ints ht he hC hf with ⟨hcs, _⟩ | ⟨x, l, c, zs, hcs, _, hl, hm, hz, _, hcell, hwz⟩
  · simp [Value.cells] at hcs
    obtain ⟨rfl, rfl, rfl⟩ := hcs
    exact ⟨none, 0, 0, [], rfl, Rd.nil _ _ _ _ _, by omega, by unfold maxLen; omega, by simp, fun _ => rfl⟩
  · simp [Value.cells] at hcs
    obtain ⟨rfl, rfl, rfl⟩ := hcs
    have hz' : len0 ≤ zs.length := by rw [hz]; split <;> omega
    refine ⟨_, len0, cap0, zs.take len0, rfl, ⟨by simp; omega, ?_⟩, hl, hm, fun y hy => hwz y (List.mem_of_mem_take hy), fun h => by cases h⟩
    rcases Nat.eq_zero_or_pos len0 with h0 | h0
    · exact .inl h0
    · have hx := addr_lit (hcell 0 (by omega))
      refine .inr ⟨x.block, x.off, by rw [← hx], ?_, fun j y hj c u hu => ?_⟩
      · have := World.block_lt_of_cell? w _ (hcell 0 (by omega))
        rw [hx] at this
        simpa [Addr.add] using this
      · have hj' : j < len0 := by
          have := (List.getElem?_eq_some_iff.1 hj).1
          simp at this; omega
        have hy : zs.getD j 0 = y := by
          rw [List.getElem?_take, if_pos hj'] at hj
          simp [List.getD, hj]
        have hc := hcell j (by omega)
        rw [hx, Addr.add_lit, hy] at hc
        rcases c with _ | c
        · simp at hu; subst hu; simpa using hc
        · simp at hu

theorem open_slice_fields {t e : TypeId} {fs : Array Field} {fuel : Nat} {cs : List Value} {x : DataW H × List MemPlace} (ht : P.underlying t = some (.slice e)) (he : P.underlying e = some (.struct fs))
    (hone : oneCellFields P fs = true) (hC : P.cellsOf e = fs.size) (h : DataW.trod enc P w base spare held fuel t cs = some x) :
    (cs = [.slice none 0 0] ∧ x = (.nil, [])) ∨
    ∃ (a : Addr) (len cap m : Nat), cs = [.slice (some a) len cap] ∧ len ≤ cap ∧ cap ≤ maxLen ∧ m = (if spare a.block then cap else len) ∧
      ∀ i, i < m → ∃ (n : Nat), ∀ (j : Nat) (f : Field), fs[j]? = some f → ∃ (v : Value) (y : DataW H × List MemPlace), w.cell? (a.add (i * fs.size + j)) = some v ∧ DataW.trod enc P w base spare held n f.type [v] = some y := by
  rcases open_slice ht h with h0 | ⟨a, len, cap, m, n, D, Pl, hcs, hb, hl, hm, hmm, hx, hi⟩
  · exact .inl h0
  · refine .inr ⟨a, len, cap, m, hcs, hl, hm, hmm, fun i him => ?_⟩
    obtain ⟨cs', hc, ht'⟩ := hi i him
    rw [hC] at hc
    obtain ⟨ys, n', hn', hy, hlen, hyl, hf⟩ := DataW.trod_struct he ht'
    obtain ⟨_, hcl, hat⟩ := World.cells?_some hc
    refine ⟨n', fun j f hj => ?_⟩
    obtain ⟨ho, hk⟩ := hone_of hone j f hj
    have hjl : j < fs.size := (Array.getElem?_eq_some_iff.1 hj).1
    have hcell := hat j hjl
    have hv : cs'[j]? = some (cs'[j]'(by omega)) := List.getElem?_eq_getElem (by omega)
    have h1 := hf j f hj
    rw [ho, hk] at h1
    have hone' : (cs'.drop j).take 1 = [cs'[j]'(by omega)] := by
      rw [List.drop_eq_getElem_cons (by omega)]
      rfl
    rw [hone'] at h1
    have hys : ys[j]? = some (ys[j]'(by omega)) := List.getElem?_eq_getElem (by omega)
    refine ⟨_, _, ?_, h1.trans hys⟩
    rw [← Go.Deep.add_add, hcell, hv]

/-- a list that is given one element at a time -/
theorem list_of {α : Type} {p : Nat → α → Prop} : ∀ n, (∀ i, i < n → ∃ y, p i y) → ∃ l : List α, l.length = n ∧ ∀ (i : Nat) y, l[i]? = some y → p i y
  | 0, _ => ⟨[], rfl, by simp⟩
  | n + 1, h => by
    obtain ⟨l, hl, hp⟩ := list_of n (fun i hi => h i (by omega))
    obtain ⟨y, hy⟩ := h n (by omega)
    refine ⟨l ++ [y], by simp [hl], fun i z hz => ?_⟩
    rcases Nat.lt_or_ge i n with hi | hi
    · exact hp i z (by rwa [List.getElem?_append_left (by omega)] at hz)
    · rw [List.getElem?_append_right (by omega)] at hz
      have : i = n := by
        rcases Nat.eq_zero_or_pos (i - l.length) with h0 | h0
        · omega
        · rw [List.getElem?_eq_none (by simp; omega)] at hz; cases hz
      subst this
      simp [hl] at hz
      subst hz; exact hy

/-- a slice of structs that came in, each element read by 'rel' -/
theorem rd_structs {α : Type} {k : Nat} {encS : α → List Value} {t e : TypeId} {fs : Array Field} {v : Value} {d : DataW H} {p : List MemPlace} {r : Reach} {b0 : Nat} (ht : P.underlying t = some (.slice e)) (he : P.underlying e = some (.struct fs))
    (hone : oneCellFields P fs = true) (hC : P.cellsOf e = fs.size) (hk : fs.size = k) (hk0 : 0 < k)
    (hv : Value.okWide P w r b0 t v) (h : DataW.Trod enc P w base spare held t v d p)
    (hel : ∀ (n : Nat) (cell : Nat → Option Value), (∀ (j : Nat) (f : Field), fs[j]? = some f → ∃ (v : Value) (y : DataW H × List MemPlace), cell j = some v ∧ DataW.trod enc P w base spare held n f.type [v] = some y) → ∃ y : α, ∀ c u, (encS y)[c]? = some u → cell c = some u) :
    ∃ a n c l, v = .slice a n c ∧ Rd k encS (· < w.heap.size) w a n l ∧ n ≤ c ∧ c ≤ maxLen ∧ (a = none → c = 0) := by
  subst hk
  obtain ⟨a0, len0, cap0, rfl⟩ := okWide_slice ht hv
  obtain ⟨fuel, hf⟩ := h
  rcases open_slice_fields ht he hone hC hf with ⟨hcs, _⟩ | ⟨x, len, cap, m, hcs, hl, hm, hmm, hi⟩
  · simp [Value.cells] at hcs
    obtain ⟨rfl, rfl, rfl⟩ := hcs
    exact ⟨none, 0, 0, [], rfl, Rd.nil _ _ _ _ _, by omega, by unfold maxLen; omega, fun _ => rfl⟩
  · simp [Value.cells] at hcs
    obtain ⟨rfl, rfl, rfl⟩ := hcs
    have hlm : len0 ≤ m := by rw [hmm]; split <;> omega
    obtain ⟨l, hll, hlp⟩ := list_of (p := fun i (y : α) => ∀ c u, (encS y)[c]? = some u → w.cell? (x.add (i * fs.size + c)) = some u) len0 (fun i hi' => by
      obtain ⟨n, hn⟩ := hi i (by omega)
      exact hel n (fun j => w.cell? (x.add (i * fs.size + j))) hn)
    refine ⟨_, len0, cap0, l, rfl, ⟨hll, ?_⟩, hl, hm, fun h => by cases h⟩
    rcases Nat.eq_zero_or_pos len0 with h0 | h0
    · exact .inl h0
    · obtain ⟨n, hn⟩ := hi 0 (by omega)
      obtain ⟨v0, _, hv0, _⟩ := hn 0 (fs[0]) (by simp)
      have hv0 : w.cell? (x.add 0) = some v0 := by simpa using hv0
      have hx := addr_lit hv0
      refine .inr ⟨x.block, x.off, by rw [← hx], ?_, fun j y hj c u hu => ?_⟩
      · have := World.block_lt_of_cell? w _ hv0
        rw [hx] at this
        simpa [Addr.add] using this
      · have := hlp j y hj c u hu
        rw [hx, Addr.add_lit] at this
        simpa [Nat.add_assoc] using this
end
end Go.Proofs.YtihpaonhonhfoaaDoor

/-
  IdealLocal returns true for every list of numbers, and leaves its arguments as they were.
  Condition: the table of math/bits and the letters of the keys are as the program text lays them (tied by the card).
-/
namespace Go.Proofs.YtihpaonhonhfoaaDoor
open Go.ChangeShapes Go.WideShapes Go.ChangeAt Go.RowKit Go.Deep Go.Joins
open Go.ChangeMaps (open_string shut_string)
set_option linter.unusedVariables false
theorem Tryd.cellsInt : Tryd.prog.cellsOf 3 = 1 := by kernel_rfl

set_option maxRecDepth 100000 in
set_option maxHeartbeats 1000000 in
theorem idealLocal_lifted (os : Os) (started : os.Started) (H : Type) (enc : TypeId × Value → H) :
    ReturnsInHanded {} Tryd.checked os 8 .any (fun w args => (Rows.idealLocalSpec.pre enc Tryd.prog Tryd.f8 [] false w args ∧ laidMetH Tryd.prog Rows.idealLocalRow.laid w) ∧ sizedMet enc Tryd.prog Tryd.f8 (OpenSpec.ofChange Rows.idealLocalSpec) false w args)
      (Rows.idealLocalSpec.post enc Tryd.prog Tryd.f8 false true false false) := by
  refine returnsInHanded_of_change_and (C := Tryd.checked) (X := fun w _ => laidMetH Tryd.prog Rows.idealLocalRow.laid w) (fun _ _ _ hh h => h.of_heap hh) own started (by kernel_rfl) Tryd.func8
    (ChangeSpec.witness_shaped (enc := enc) (C := Tryd.checked) (os := os) (X := fun w _ => laidMetH Tryd.prog Rows.idealLocalRow.laid w) false (World.doorLaid Tryd.prog 400 os) #[.slice none 0 0] 8 rfl (World.shaped_of_RefB (by kernel_rfl) (by kernel_rfl)) (by kernel_rfl) (by kernel_rfl) (by kernel_rfl) (laidMetH_of_parts3 (fuel := 8) (laidMet_of_run' 8 (by kernel_rfl) (by kernel_rfl)) (by kernel_rfl) (by kernel_rfl))) ?_
  intro W base args ds gs before hval0 hW _ _ hL _
  have hval : ∀ (j : Nat) t v, Tryd.f8.params[j]? = some t → args[j]? = some v → Value.okWide Tryd.prog W .any base t v := hval0
  have hW' := hW
  obtain ⟨p, q, hA0, hV, rfl, hfz, hnd⟩ := hW
  have hA : DataW.TrodAll enc Tryd.prog W 0 (fun _ => true) true Tryd.f8.params.toList args.toList ds p := hA0
  rw [Tryd.params8] at hA hval
  obtain ⟨v0, vs0, d0, ds0, p0, q0, hargs, rfl, rfl, h0, r0⟩ := trodAll_cons hA
  obtain ⟨rfl, rfl, rfl⟩ := trodAll_nil r0
  obtain rfl : args = #[v0] := by cases args; simp_all
  obtain ⟨rfl, rfl⟩ := trodVars_none hV
  have k0 := h0
  have lt0 : ∀ x ∈ p0, x.block < W.heap.size := by obtain ⟨m, hm⟩ := k0; exact DataW.trod_lt m _ _ _ hm
  obtain ⟨A0, n0, cap0, l0, rfl, rd0, hc0, hm0, wf0, nl0⟩ := rd_ints Tryd.underlying22 Tryd.underlying3 Tryd.cellsInt (hval 0 22 v0 rfl rfl) h0
  clear hA0 hval0
  have hT : TabG W := tabG_of hL (by kernel_rfl)
  have hL2 : LetG W := letG_second hL (by kernel_rfl) (by kernel_rfl)
  refine (ideallocal_walk A0 n0 cap0 l0 W rd0 hc0 hm0 hT hL2).mono fun e W' ⟨he, hch⟩ => ?_
  have bel : Below W.heap.size W W' := hch.below (fun _ h => h)
  subst he
  exact ⟨_, rfl, _, _, _, [], _, [], hW', trodAll_mk1 (shut_bool Tryd.underlying4 _), (trodAll_cons_mk (Below.trod laidOut (by kernel_rfl) (of_decide_eq_true (by kernel_rfl)) k0 bel lt0) trodAll_mk0), rfl, bel.frame _, fun h => by cases h⟩

theorem idealLocal_over : Rows.idealLocalRow.holds Tryd.pinned (OpenSpec.ofChange Rows.idealLocalSpec) :=
  OpenClaim.holds_of_wide 8 Tryd.f8 rfl rfl rfl rfl rfl rfl rfl ⟨rfl, rfl, rfl, rfl, rfl⟩ rfl rfl rfl rfl rfl (by kernel_rfl) Tryd.func8 (by kernel_rfl)
    (of_decide_eq_true (by kernel_rfl)) (by unfold Func.isWrapper; first | (rw [if_pos (by decide +kernel)]; kernel_rfl) | (rw [if_neg (by decide +kernel)]; exact ⟨rfl, rfl⟩))
    (fun os started H enc _ => idealLocal_lifted os started H enc)

/-- THE STATEMENT: the tied card -/
theorem IdealLocal_holds : Rows.IdealLocalCardSaid :=
  Claim7.holds_tied_plain_at .later [] [.data, .data] true (true, "e1df6b8c7a9f2dde5709fc3dc52eee6f4d1df17faed4261507bdc09cf750f39d") false
    idealLocal_over (fun _ h => by cases h) (by kernel_rfl) (fun _ h => by cases h) idealLocal_row_tie rfl ⟨rfl, rfl⟩ (by kernel_rfl) rfl
    (fun f fn hf hfn => by
      obtain rfl : f = 8 := Option.some.inj ((show Tryd.prog.funcNamed "skipgraph/skipgraphlaw6.IdealLocal" = some 8 by kernel_rfl).symm.trans hf) |>.symm
      obtain rfl : fn = Tryd.f8 := (Option.some.inj (Tryd.func8.symm.trans hfn)).symm
      exact ⟨by kernel_rfl, fun j t ht => by
        rw [Tryd.params8] at ht
        have hm : t ∈ [22] := by simpa using Array.mem_of_getElem? ht
        have hall : ([22].all fun u => !Tryd.prog.wantsStandIn u) = true := by kernel_rfl
        exact (show Tryd.prog.wantsStandIn t = false by simpa using List.all_eq_true.1 hall t hm)⟩)
    (by kernel_rfl)
#print axioms IdealLocal_holds
end Go.Proofs.YtihpaonhonhfoaaDoor
