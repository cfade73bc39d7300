/- Texts for the statement IdealMutualProof, part 7 of 8: IdlM. -/
import Derived.Test.YtihpaonhonhfoaaDoorIdealMutualProofPk6

/- The walk over IdealMutual (printed by gen_idm.py). -/
namespace Go.Proofs.YtihpaonhonhfoaaDoor
open Go.RowKit

set_option maxRecDepth 100000 in
set_option maxHeartbeats 8000000 in
theorem idealmutual_walk (a1 : Option Addr) (n1 c1 : Nat) (l1 : List Int) (lev : Int) (w : World) (h1 : Sl 1 encI w a1 n1 l1) (hc1 : n1 ≤ c1) (hm1 : c1 ≤ maxLen)
    (hT : TabG w) (hL : LetG w) :
    Calls Tryd.prog 4 #[.slice a1 n1 c1, .int .i64 lev] w fun e w' => e = .returned (.bool true) ∧ Ex w w' := by
  go_enter Tryd.func4, Tryd.ntmps4
  go_wp2_with fail
  refine (new_t _ _ _ l1 _ h1 hc1 hm1).mono ?_
  rintro e w1 ⟨rfl, T, kk, z1⟩
  obtain ⟨b, hb⟩ : ∃ b, b = w.heap.size := ⟨_, rfl⟩
  rw [← hb] at T ⊢
  have hgt : ¬ 1 = b := by have := hT.lt; omega
  have hgl : ¬ 0 = b := by have := hL.lt; omega
  have T1 := hT.nx kk
  have L1 := hL.nx kk
  have q : Exl b w w1 := ⟨kk, by omega⟩
  clear h1 hT hL kk hb z1
  go_wp2_with fail
  refine (some_n 9 _ T L1 hgl (by omega) (by omega)).mono ?_
  rintro e w2 ⟨v1, L, rfl, R, _⟩
  obtain ⟨aX, cX, rfl, SX, hcX, hmX, _⟩ := R.own.slf (fun _ => rfl)
  have SX := SX.sl
  have RL := R.len
  have RW := Lib.hid (fun x hx => Nat.lt_trans (R.word x hx) (show 65536 < 4294967296 by omega))
  have QL := Lib.hid (q.nxb R.k)
  have T2 := T1.nxb hgt R.k
  have RC := Lib.hid R.ok
  clear R T L1 q T1
  go_wp2_with fail
  refine (mod_any lev 6 _ (by omega) (by omega)).mono ?_
  rintro e w3 ⟨rfl, rfl⟩
  obtain ⟨m, hm⟩ : ∃ m : Nat, lev % 6 = (m : Int) := ⟨(lev % 6).toNat, by omega⟩
  have hm6 : m < 6 := by omega
  rw [hm]
  clear hm
  have MU := Lib.hid (fun x (hx : x ∈ L) => mut_law RC.out RW.out (h := (m : Int)) (by unfold lvlN; simp; omega) hx)
  have S2 := Lib.hid SX
  have T2 := Lib.hid T2
  clear SX
  go_wp2_with fail
  go_loopw [8] (fun i wr => NRel L.length w2 i wr) (fun i _ => L.length - (intOf i).toNat)
  case atStart => exact ⟨0, by omega, rfl, Ex.refl _⟩
  case round =>
    obtain ⟨k, hk, rfl, kw⟩ := hrel
    obtain ⟨wo, rfl⟩ : ∃ wo : World, wo = wr := ⟨_, rfl⟩
    by_cases hlt : k < L.length
    · have SO := S2.out.nx kw
      have TO := T2.out.nx kw
      obtain ⟨x1, o1, x, rfl, hx1, hx, hc⟩ := SO.at hlt
      have c0 : wo.cell? ⟨x1, o1 + k * 3, none⟩ = some (.int .i64 x.id) := hc 0 _ rfl
      have c1 : wo.cell? ⟨x1, o1 + k * 3 + 1, none⟩ = some (.string x.key) := hc 1 _ rfl
      have c2 : wo.cell? ⟨x1, o1 + k * 3 + 2, none⟩ = some (.int .u32 x.word) := hc 2 _ rfl
      have hxm := List.mem_of_getElem? hx
      have hxw := RW.out x hxm
      obtain ⟨M1, M2, M3, M4⟩ := MU.out x hxm
      obtain ⟨Y, hY⟩ : ∃ Y, Y = neighN L x.id (m : Int) := ⟨_, rfl⟩
      rw [← hY] at M1 M2 M3 M4
      have HY := Lib.hid hY
      replace M3 := Lib.hid M3
      replace M4 := Lib.hid M4
      replace M2 := Lib.hid M2
      clear hc hx hY hxm
      go_wp2_with fail
      (with_reducible refine (neigh_p _ _ _ _ _ _ _ SO (by omega) hcX hmX RW.out TO).mono ?_)
      rintro e w4 ⟨rfl, kk⟩
      rw [← HY.out, M1]
      clear HY M1
      have B := Blk.new w4 [.int .i64 Y.1.1, .int .i64 Y.1.2] 36
      have k3 := Ex.new w4 (.cells #[.int .i64 Y.1.1, .int .i64 Y.1.2] 36)
      obtain ⟨w5, hw5⟩ : ∃ w5, w5 = w4.alloc (.cells #[.int .i64 Y.1.1, .int .i64 Y.1.2] 36) := ⟨_, rfl⟩
      obtain ⟨g, hg⟩ : ∃ g, g = w4.heap.size := ⟨_, rfl⟩
      have B : Blk w5 g [.int .i64 Y.1.1, .int .i64 Y.1.2] 36 := by rw [hw5, hg]; exact B
      rw [← hw5] at k3
      have HW5 := Lib.hid hw5
      have HG := Lib.hid hg
      replace kk := kk.nx k3
      replace kw := kw.nx kk
      replace SO := SO.nx kk
      replace TO := TO.nx kk
      replace c0 := Chg.cellv kk c0 hx1
      replace c1 := Chg.cellv kk c1 hx1
      replace c2 := Chg.cellv kk c2 hx1
      replace hx1 := Nat.lt_of_lt_of_le hx1 kk.size
      have b1 := B.cell 1 _ rfl
      clear kk k3 hw5 hg
      go_wp2_with fail
      rw [← HG.out, ← HW5.out]
      clear HG HW5
      go_wp2_with fail
      (with_reducible refine (find_p _ _ _ _ _ _ SO (by omega)).mono ?_)
      rintro e w6 ⟨rfl, kk⟩
      obtain ⟨FR, hFR⟩ : ∃ FR, FR = findN L Y.1.2 := ⟨_, rfl⟩
      rw [← hFR]
      have hrw : FR.1.word < 4294967296 := by rw [hFR]; exact findN_word RW.out _
      replace M2 := M2.out
      replace M3 := M3.out
      replace M4 := M4.out
      rw [← hFR] at M2 M3 M4
      replace M2 := Lib.hid M2
      replace M3 := Lib.hid M3
      replace M4 := Lib.hid M4
      clear hFR
      replace kw := kw.nx kk
      replace SO := SO.nx kk
      replace TO := TO.nx kk
      replace c0 := Chg.cellv kk c0 hx1
      replace c1 := Chg.cellv kk c1 hx1
      replace c2 := Chg.cellv kk c2 hx1
      replace hx1 := Nat.lt_of_lt_of_le hx1 kk.size
      replace B := B.nx kk
      clear kk b1
      unfold Nd.val
      have B2 := Blk.new w6 [.int .i64 FR.1.id, .string FR.1.key, .int .u32 FR.1.word] 48
      have kk := Ex.new w6 (.cells #[.int .i64 FR.1.id, .string FR.1.key, .int .u32 FR.1.word] 48)
      obtain ⟨w7, hw7⟩ : ∃ w7, w7 = w6.alloc (.cells #[.int .i64 FR.1.id, .string FR.1.key, .int .u32 FR.1.word] 48) := ⟨_, rfl⟩
      obtain ⟨g2, hg2⟩ : ∃ g2, g2 = w6.heap.size := ⟨_, rfl⟩
      have B2 : Blk w7 g2 [.int .i64 FR.1.id, .string FR.1.key, .int .u32 FR.1.word] 48 := by rw [hw7, hg2]; exact B2
      rw [← hw7] at kk
      have HW7 := Lib.hid hw7
      have HG2 := Lib.hid hg2
      replace kw := kw.nx kk
      replace SO := SO.nx kk
      replace TO := TO.nx kk
      replace c0 := Chg.cellv kk c0 hx1
      replace c1 := Chg.cellv kk c1 hx1
      replace c2 := Chg.cellv kk c2 hx1
      replace hx1 := Nat.lt_of_lt_of_le hx1 kk.size
      replace B := B.nx kk
      have S7 := Lib.hid SO
      have TG7 := Lib.hid TO
      have B2 := Lib.hid B2
      clear kk hw7 hg2 SO TO
      go_upto_region 11 with fail
      rw [← HG2.out, ← HW7.out]
      clear HG2 HW7
      cases his : FR.2 with
      | false =>
        have y0 := M2.out his
        have b1 := B.cell 1 _ rfl
        rw [y0] at b1
        clear y0 B M2
        go_wp2_with fail
        go_loopw [13] (fun j wr => NRel L.length w7 j wr) (fun j _ => L.length - (intOf j).toNat)
        case atStart => exact ⟨0, by omega, rfl, Ex.refl _⟩
        case round =>
          obtain ⟨j, hj, rfl, ki⟩ := hrel
          obtain ⟨wi, rfl⟩ : ∃ wi : World, wi = wr := ⟨_, rfl⟩
          have hx1i : x1 < wi.heap.size := Nat.lt_of_lt_of_le hx1 ki.size
          have rk := (B2.out.nx ki).cell 1 _ rfl
          have hg2i := (B2.out.nx ki).lt
          by_cases hjl : j < L.length
          · obtain ⟨x5, o5, z, he5, hx5, hz, hcz⟩ := (S7.out.nx ki).at hjl
            cases he5
            have f1 : wi.cell? ⟨x1, o1 + j * 3 + 1, none⟩ = some (.string z.key) := hcz 1 _ rfl
            have f2 : wi.cell? ⟨x1, o1 + j * 3 + 2, none⟩ = some (.int .u32 z.word) := hcz 2 _ rfl
            have c1 := Chg.cellv ki c1 hx1
            have c2 := Chg.cellv ki c2 hx1
            have hzm := List.mem_of_getElem? hz
            have hzw := RW.out z hzm
            have m3 := M3.out z hzm
            clear hcz hz
            rcases bl_tri x.key.toList z.key.toList with ⟨t1, q1, t3⟩ | ⟨t1, t2, q1⟩ | ⟨q1, t2, t3⟩
            · have q2 : (z.key.toList == x.key.toList) = false := by rw [beq_eq_false_iff_ne]; exact fun h => t3 h.symm
              cases hsm : sameN z.word x.word m with
              | true =>
                obtain ⟨r1, r2⟩ := m3 t1 hsm
                rw [his] at r1
                cases r1
              | false =>
                clear t1 t3 m3
                go_wp2_with fail
                refine wp_region_held_drew (S := Ex wi.drew) (by kernel_rfl) (Ex.refl _) (fun hHeld => ?_)
                refine wpAnyH_take (i := 0) (oi := ⟨some 61, .move (.tmp 6), 23, "law.go:74", #[], none⟩) (v := ?_) rfl (by kernel_rfl) (by kernel_rfl) (by kernel_rfl) (fun _ _ _ h => h) (Or.inl ⟨by rfl, ?hyr1x0⟩) (by assumption) ?restr1x0
                case hyr1x0 => intro wq hSw; (go_simp); (try with_reducible rfl)
                try simp only [Act.put, List.setIfInBounds_toArray, List.set_cons_zero, List.set_cons_succ]
                refine wpAnyH_take (i := 1) (oi := ⟨some 62, .move (.tmp 13), 3, "law.go:74", #[], none⟩) (v := ?_) rfl (by kernel_rfl) (by kernel_rfl) (by kernel_rfl) (fun _ _ _ h => h) (Or.inl ⟨by rfl, ?hyr1x1⟩) (by assumption) ?restr1x1
                case hyr1x1 => intro wq hSw; (go_simp); (try with_reducible rfl)
                try simp only [Act.put, List.setIfInBounds_toArray, List.set_cons_zero, List.set_cons_succ]
                refine wpAnyH_take (i := 2) (oi := ⟨some 63, .indexAddr 23 (.tmp 61) (.tmp 62), 0, "law.go:74", #[⟨0, .data⟩, ⟨1, .data⟩], none⟩) (v := ?_) rfl (by kernel_rfl) (by kernel_rfl) (by kernel_rfl) (fun _ _ _ h => h) (Or.inl ⟨by rfl, ?hyr1x2⟩) (by assumption) ?restr1x2
                case hyr1x2 => intro wq hSw; (go_simp); (try with_reducible rfl)
                try simp only [Act.put, List.setIfInBounds_toArray, List.set_cons_zero, List.set_cons_succ]
                refine wpAnyH_take (i := 3) (oi := ⟨some 64, .fieldAddr 48 (.tmp 63) 1, 0, "law.go:74", #[⟨2, .data⟩], none⟩) (v := ?_) rfl (by kernel_rfl) (by kernel_rfl) (by kernel_rfl) (fun _ _ _ h => h) (Or.inl ⟨by rfl, ?hyr1x3⟩) (by assumption) ?restr1x3
                case hyr1x3 => intro wq hSw; (go_simp); (try with_reducible rfl)
                try simp only [Act.put, List.setIfInBounds_toArray, List.set_cons_zero, List.set_cons_succ]
                refine wpAnyH_take (i := 4) (oi := ⟨some 65, .load 9 (.tmp 64), 9, "law.go:74", #[⟨3, .data⟩], none⟩) (v := ?_) rfl (by kernel_rfl) (by kernel_rfl) (by kernel_rfl) (fun _ _ _ h => h) (Or.inl ⟨by rfl, ?hyr1x4⟩) (by assumption) ?restr1x4
                case hyr1x4 => intro wq hSw; (have cq := Chg.cellv hSw f1 hx5; go_simp); (try with_reducible rfl)
                try simp only [Act.put, List.setIfInBounds_toArray, List.set_cons_zero, List.set_cons_succ]
                refine wpAnyH_take (i := 5) (oi := ⟨some 66, .move (.tmp 6), 23, "law.go:74", #[], none⟩) (v := ?_) rfl (by kernel_rfl) (by kernel_rfl) (by kernel_rfl) (fun _ _ _ h => h) (Or.inl ⟨by rfl, ?hyr1x5⟩) (by assumption) ?restr1x5
                case hyr1x5 => intro wq hSw; (go_simp); (try with_reducible rfl)
                try simp only [Act.put, List.setIfInBounds_toArray, List.set_cons_zero, List.set_cons_succ]
                refine wpAnyH_take (i := 6) (oi := ⟨some 67, .move (.tmp 8), 3, "law.go:74", #[], none⟩) (v := ?_) rfl (by kernel_rfl) (by kernel_rfl) (by kernel_rfl) (fun _ _ _ h => h) (Or.inl ⟨by rfl, ?hyr1x6⟩) (by assumption) ?restr1x6
                case hyr1x6 => intro wq hSw; (go_simp); (try with_reducible rfl)
                try simp only [Act.put, List.setIfInBounds_toArray, List.set_cons_zero, List.set_cons_succ]
                refine wpAnyH_take (i := 7) (oi := ⟨some 68, .indexAddr 23 (.tmp 66) (.tmp 67), 0, "law.go:74", #[⟨5, .data⟩, ⟨6, .data⟩], none⟩) (v := ?_) rfl (by kernel_rfl) (by kernel_rfl) (by kernel_rfl) (fun _ _ _ h => h) (Or.inl ⟨by rfl, ?hyr1x7⟩) (by assumption) ?restr1x7
                case hyr1x7 => intro wq hSw; (go_simp); (try with_reducible rfl)
                try simp only [Act.put, List.setIfInBounds_toArray, List.set_cons_zero, List.set_cons_succ]
                refine wpAnyH_take (i := 8) (oi := ⟨some 69, .fieldAddr 48 (.tmp 68) 1, 0, "law.go:74", #[⟨7, .data⟩], none⟩) (v := ?_) rfl (by kernel_rfl) (by kernel_rfl) (by kernel_rfl) (fun _ _ _ h => h) (Or.inl ⟨by rfl, ?hyr1x8⟩) (by assumption) ?restr1x8
                case hyr1x8 => intro wq hSw; (go_simp); (try with_reducible rfl)
                try simp only [Act.put, List.setIfInBounds_toArray, List.set_cons_zero, List.set_cons_succ]
                refine wpAnyH_take (i := 9) (oi := ⟨some 70, .load 9 (.tmp 69), 9, "law.go:74", #[⟨8, .data⟩], none⟩) (v := ?_) rfl (by kernel_rfl) (by kernel_rfl) (by kernel_rfl) (fun _ _ _ h => h) (Or.inl ⟨by rfl, ?hyr1x9⟩) (by assumption) ?restr1x9
                case hyr1x9 => intro wq hSw; (have cq := Chg.cellv hSw c1 hx1i; go_simp); (try with_reducible rfl)
                try simp only [Act.put, List.setIfInBounds_toArray, List.set_cons_zero, List.set_cons_succ]
                refine wpAnyH_take (i := 10) (oi := ⟨some 71, .binOp .gtr 9 (.tmp 65) (.tmp 70) 9, 4, "law.go:74", #[⟨4, .data⟩, ⟨9, .data⟩], none⟩) (v := ?_) rfl (by kernel_rfl) (by kernel_rfl) (by kernel_rfl) (fun _ _ _ h => h) (Or.inl ⟨by rfl, ?hyr1x10⟩) (by assumption) ?restr1x10
                case hyr1x10 => intro wq hSw; (go_simp); (try with_reducible rfl)
                try simp only [Act.put, List.setIfInBounds_toArray, List.set_cons_zero, List.set_cons_succ]
                refine wpAnyH_take (i := 11) (oi := ⟨some 72, .move (.tmp 71), 4, "law.go:74", #[⟨10, .data⟩], none⟩) (v := ?_) rfl (by kernel_rfl) (by kernel_rfl) (by kernel_rfl) (fun _ _ _ h => h) (Or.inl ⟨by rfl, ?hyr1x11⟩) (by assumption) ?restr1x11
                case hyr1x11 => intro wq hSw; (go_simp); (try with_reducible rfl)
                try simp only [Act.put, List.setIfInBounds_toArray, List.set_cons_zero, List.set_cons_succ]
                refine wpAnyH_take (i := 12) (oi := ⟨some 73, .move (.tmp 6), 23, "law.go:74", #[⟨11, .guard⟩], some (11, true)⟩) (v := ?_) rfl (by kernel_rfl) (by kernel_rfl) (by kernel_rfl) (fun _ _ _ h => h) (Or.inl ⟨by rfl, ?hyr1x12⟩) (by assumption) ?restr1x12
                case hyr1x12 => intro wq hSw; (go_simp); (try with_reducible rfl)
                try simp only [Act.put, List.setIfInBounds_toArray, List.set_cons_zero, List.set_cons_succ]
                refine wpAnyH_take (i := 13) (oi := ⟨some 74, .move (.tmp 13), 3, "law.go:74", #[⟨11, .guard⟩], some (11, true)⟩) (v := ?_) rfl (by kernel_rfl) (by kernel_rfl) (by kernel_rfl) (fun _ _ _ h => h) (Or.inl ⟨by rfl, ?hyr1x13⟩) (by assumption) ?restr1x13
                case hyr1x13 => intro wq hSw; (go_simp); (try with_reducible rfl)
                try simp only [Act.put, List.setIfInBounds_toArray, List.set_cons_zero, List.set_cons_succ]
                refine wpAnyH_take (i := 14) (oi := ⟨some 75, .indexAddr 23 (.tmp 73) (.tmp 74), 0, "law.go:74", #[⟨12, .data⟩, ⟨13, .data⟩, ⟨11, .guard⟩], some (11, true)⟩) (v := ?_) rfl (by kernel_rfl) (by kernel_rfl) (by kernel_rfl) (fun _ _ _ h => h) (Or.inl ⟨by rfl, ?hyr1x14⟩) (by assumption) ?restr1x14
                case hyr1x14 => intro wq hSw; (go_simp); (try with_reducible rfl)
                try simp only [Act.put, List.setIfInBounds_toArray, List.set_cons_zero, List.set_cons_succ]
                refine wpAnyH_take (i := 15) (oi := ⟨some 76, .fieldAddr 48 (.tmp 75) 2, 0, "law.go:74", #[⟨14, .data⟩, ⟨11, .guard⟩], some (11, true)⟩) (v := ?_) rfl (by kernel_rfl) (by kernel_rfl) (by kernel_rfl) (fun _ _ _ h => h) (Or.inl ⟨by rfl, ?hyr1x15⟩) (by assumption) ?restr1x15
                case hyr1x15 => intro wq hSw; (go_simp); (try with_reducible rfl)
                try simp only [Act.put, List.setIfInBounds_toArray, List.set_cons_zero, List.set_cons_succ]
                refine wpAnyH_take (i := 16) (oi := ⟨some 77, .load 46 (.tmp 76), 46, "law.go:74", #[⟨15, .data⟩, ⟨11, .guard⟩], some (11, true)⟩) (v := ?_) rfl (by kernel_rfl) (by kernel_rfl) (by kernel_rfl) (fun _ _ _ h => h) (Or.inl ⟨by rfl, ?hyr1x16⟩) (by assumption) ?restr1x16
                case hyr1x16 => intro wq hSw; (have cq := Chg.cellv hSw f2 hx5; go_simp); (try with_reducible rfl)
                try simp only [Act.put, List.setIfInBounds_toArray, List.set_cons_zero, List.set_cons_succ]
                refine wpAnyH_take (i := 17) (oi := ⟨some 78, .move (.tmp 6), 23, "law.go:74", #[⟨11, .guard⟩], some (11, true)⟩) (v := ?_) rfl (by kernel_rfl) (by kernel_rfl) (by kernel_rfl) (fun _ _ _ h => h) (Or.inl ⟨by rfl, ?hyr1x17⟩) (by assumption) ?restr1x17
                case hyr1x17 => intro wq hSw; (go_simp); (try with_reducible rfl)
                try simp only [Act.put, List.setIfInBounds_toArray, List.set_cons_zero, List.set_cons_succ]
                refine wpAnyH_take (i := 18) (oi := ⟨some 79, .move (.tmp 8), 3, "law.go:74", #[⟨11, .guard⟩], some (11, true)⟩) (v := ?_) rfl (by kernel_rfl) (by kernel_rfl) (by kernel_rfl) (fun _ _ _ h => h) (Or.inl ⟨by rfl, ?hyr1x18⟩) (by assumption) ?restr1x18
                case hyr1x18 => intro wq hSw; (go_simp); (try with_reducible rfl)
                try simp only [Act.put, List.setIfInBounds_toArray, List.set_cons_zero, List.set_cons_succ]
                refine wpAnyH_take (i := 19) (oi := ⟨some 80, .indexAddr 23 (.tmp 78) (.tmp 79), 0, "law.go:74", #[⟨17, .data⟩, ⟨18, .data⟩, ⟨11, .guard⟩], some (11, true)⟩) (v := ?_) rfl (by kernel_rfl) (by kernel_rfl) (by kernel_rfl) (fun _ _ _ h => h) (Or.inl ⟨by rfl, ?hyr1x19⟩) (by assumption) ?restr1x19
                case hyr1x19 => intro wq hSw; (go_simp); (try with_reducible rfl)
                try simp only [Act.put, List.setIfInBounds_toArray, List.set_cons_zero, List.set_cons_succ]
                refine wpAnyH_take (i := 20) (oi := ⟨some 81, .fieldAddr 48 (.tmp 80) 2, 0, "law.go:74", #[⟨19, .data⟩, ⟨11, .guard⟩], some (11, true)⟩) (v := ?_) rfl (by kernel_rfl) (by kernel_rfl) (by kernel_rfl) (fun _ _ _ h => h) (Or.inl ⟨by rfl, ?hyr1x20⟩) (by assumption) ?restr1x20
                case hyr1x20 => intro wq hSw; (go_simp); (try with_reducible rfl)
                try simp only [Act.put, List.setIfInBounds_toArray, List.set_cons_zero, List.set_cons_succ]
                refine wpAnyH_take (i := 21) (oi := ⟨some 82, .load 46 (.tmp 81), 46, "law.go:74", #[⟨20, .data⟩, ⟨11, .guard⟩], some (11, true)⟩) (v := ?_) rfl (by kernel_rfl) (by kernel_rfl) (by kernel_rfl) (fun _ _ _ h => h) (Or.inl ⟨by rfl, ?hyr1x21⟩) (by assumption) ?restr1x21
                case hyr1x21 => intro wq hSw; (have cq := Chg.cellv hSw c2 hx1i; go_simp); (try with_reducible rfl)
                try simp only [Act.put, List.setIfInBounds_toArray, List.set_cons_zero, List.set_cons_succ]
                refine wpAnyH_take (i := 22) (oi := ⟨some 83, .move (.tmp 7), 3, "law.go:74", #[⟨11, .guard⟩], some (11, true)⟩) (v := ?_) rfl (by kernel_rfl) (by kernel_rfl) (by kernel_rfl) (fun _ _ _ h => h) (Or.inl ⟨by rfl, ?hyr1x22⟩) (by assumption) ?restr1x22
                case hyr1x22 => intro wq hSw; (go_simp); (try with_reducible rfl)
                try simp only [Act.put, List.setIfInBounds_toArray, List.set_cons_zero, List.set_cons_succ]
                refine wpAnyH_ready (rs := [23]) (by kernel_rfl) (by simp) ?_
                refine AllReadyH.cons (o := ⟨some 84, .call { callee := .value (.func 29), args := #[.tmp 77, .tmp 82, .tmp 83], argTypes := #[46, 46, 3] }, 4, "law.go:74", #[⟨16, .data⟩, ⟨21, .data⟩, ⟨22, .data⟩, ⟨11, .chain⟩, ⟨11, .guard⟩], some (11, true)⟩) rfl (fun K hK => ?_) AllReadyH.nil
                go_simp
                (with_reducible refine (same_rE _ _ _ _ hzw hxw).mono ?_)
                rintro e v1 ⟨rfl, kk⟩
                rw [hsm]
                replace kk : Ex wi.drew v1 := kk
                refine hK.out _ _ kk (fun _ => ?_)
                clear hK K
                try simp only [Act.put, List.setIfInBounds_toArray, List.set_cons_zero, List.set_cons_succ]
                refine wpAnyH_switch (S' := Ex v1) (fun _ hSw => Ex.nx kk hSw) ?_
                clear hHeld
                have hHeld := Ex.refl v1
                refine wpAnyH_take (i := 24) (oi := ⟨some 85, .pick (.tmp 72) (.tmp 84) (.const (.bool false)), 4, "law.go:74", #[⟨11, .data⟩, ⟨23, .data⟩], none⟩) (v := ?_) rfl (by kernel_rfl) (by kernel_rfl) (by kernel_rfl) (fun _ _ _ h => h) (Or.inl ⟨by rfl, ?hyr1x24⟩) (by assumption) ?restr1x24
                case hyr1x24 => intro wq hSw; (go_simp); (try with_reducible rfl)
                try simp only [Act.put, List.setIfInBounds_toArray, List.set_cons_zero, List.set_cons_succ]
                refine wpAnyH_take (i := 25) (oi := ⟨some 86, .move (.tmp 85), 4, "law.go:74", #[⟨24, .data⟩, ⟨23, .chain⟩], none⟩) (v := ?_) rfl (by kernel_rfl) (by kernel_rfl) (by kernel_rfl) (fun _ _ _ h => h) (Or.inl ⟨by rfl, ?hyr1x25⟩) (by assumption) ?restr1x25
                case hyr1x25 => intro wq hSw; (go_simp); (try with_reducible rfl)
                try simp only [Act.put, List.setIfInBounds_toArray, List.set_cons_zero, List.set_cons_succ]
                refine wpAnyH_take (i := 26) (oi := ⟨some 87, .move (.tmp 12), 4, "law.go:74", #[⟨25, .guard⟩], some (25, true)⟩) (v := undef) rfl (by kernel_rfl) (by kernel_rfl) (by kernel_rfl) (fun _ _ _ h => h) (Or.inr ⟨by rfl, rfl⟩) (by assumption) ?_
                try simp only [Act.put, List.setIfInBounds_toArray, List.set_cons_zero, List.set_cons_succ]
                refine wpAnyH_take (i := 27) (oi := ⟨some 88, .unOp .not 4 (.tmp 87), 4, "law.go:74", #[⟨26, .data⟩, ⟨25, .guard⟩], some (25, true)⟩) (v := undef) rfl (by kernel_rfl) (by kernel_rfl) (by kernel_rfl) (fun _ _ _ h => h) (Or.inr ⟨by rfl, rfl⟩) (by assumption) ?_
                try simp only [Act.put, List.setIfInBounds_toArray, List.set_cons_zero, List.set_cons_succ]
                refine wpAnyH_take (i := 28) (oi := ⟨some 89, .move (.tmp 88), 4, "law.go:74", #[⟨27, .data⟩, ⟨25, .chain⟩, ⟨25, .guard⟩], some (25, true)⟩) (v := undef) rfl (by kernel_rfl) (by kernel_rfl) (by kernel_rfl) (fun _ _ _ h => h) (Or.inr ⟨by rfl, rfl⟩) (by assumption) ?_
                try simp only [Act.put, List.setIfInBounds_toArray, List.set_cons_zero, List.set_cons_succ]
                refine wpAnyH_take (i := 29) (oi := ⟨some 90, .move (.tmp 6), 23, "law.go:74", #[⟨28, .guard⟩], some (28, false)⟩) (v := undef) rfl (by kernel_rfl) (by kernel_rfl) (by kernel_rfl) (fun _ _ _ h => h) (Or.inr ⟨by rfl, rfl⟩) (by assumption) ?_
                try simp only [Act.put, List.setIfInBounds_toArray, List.set_cons_zero, List.set_cons_succ]
                refine wpAnyH_take (i := 30) (oi := ⟨some 91, .move (.tmp 13), 3, "law.go:74", #[⟨28, .guard⟩], some (28, false)⟩) (v := undef) rfl (by kernel_rfl) (by kernel_rfl) (by kernel_rfl) (fun _ _ _ h => h) (Or.inr ⟨by rfl, rfl⟩) (by assumption) ?_
                try simp only [Act.put, List.setIfInBounds_toArray, List.set_cons_zero, List.set_cons_succ]
                refine wpAnyH_take (i := 31) (oi := ⟨some 92, .indexAddr 23 (.tmp 90) (.tmp 91), 0, "law.go:74", #[⟨29, .data⟩, ⟨30, .data⟩, ⟨28, .guard⟩], some (28, false)⟩) (v := undef) rfl (by kernel_rfl) (by kernel_rfl) (by kernel_rfl) (fun _ _ _ h => h) (Or.inr ⟨by rfl, rfl⟩) (by assumption) ?_
                try simp only [Act.put, List.setIfInBounds_toArray, List.set_cons_zero, List.set_cons_succ]
                refine wpAnyH_take (i := 32) (oi := ⟨some 93, .fieldAddr 48 (.tmp 92) 1, 0, "law.go:74", #[⟨31, .data⟩, ⟨28, .guard⟩], some (28, false)⟩) (v := undef) rfl (by kernel_rfl) (by kernel_rfl) (by kernel_rfl) (fun _ _ _ h => h) (Or.inr ⟨by rfl, rfl⟩) (by assumption) ?_
                try simp only [Act.put, List.setIfInBounds_toArray, List.set_cons_zero, List.set_cons_succ]
                refine wpAnyH_take (i := 33) (oi := ⟨some 94, .load 9 (.tmp 93), 9, "law.go:74", #[⟨32, .data⟩, ⟨28, .guard⟩], some (28, false)⟩) (v := undef) rfl (by kernel_rfl) (by kernel_rfl) (by kernel_rfl) (fun _ _ _ h => h) (Or.inr ⟨by rfl, rfl⟩) (by assumption) ?_
                try simp only [Act.put, List.setIfInBounds_toArray, List.set_cons_zero, List.set_cons_succ]
                refine wpAnyH_take (i := 34) (oi := ⟨some 95, .fieldAddr 48 (.tmp 11) 1, 0, "law.go:74", #[⟨28, .guard⟩], some (28, false)⟩) (v := undef) rfl (by kernel_rfl) (by kernel_rfl) (by kernel_rfl) (fun _ _ _ h => h) (Or.inr ⟨by rfl, rfl⟩) (by assumption) ?_
                try simp only [Act.put, List.setIfInBounds_toArray, List.set_cons_zero, List.set_cons_succ]
                refine wpAnyH_take (i := 35) (oi := ⟨some 96, .load 9 (.tmp 95), 9, "law.go:74", #[⟨34, .data⟩, ⟨28, .guard⟩], some (28, false)⟩) (v := undef) rfl (by kernel_rfl) (by kernel_rfl) (by kernel_rfl) (fun _ _ _ h => h) (Or.inr ⟨by rfl, rfl⟩) (by assumption) ?_
                try simp only [Act.put, List.setIfInBounds_toArray, List.set_cons_zero, List.set_cons_succ]
                refine wpAnyH_take (i := 36) (oi := ⟨some 97, .binOp .lss 9 (.tmp 94) (.tmp 96) 9, 4, "law.go:74", #[⟨33, .data⟩, ⟨35, .data⟩, ⟨28, .guard⟩], some (28, false)⟩) (v := undef) rfl (by kernel_rfl) (by kernel_rfl) (by kernel_rfl) (fun _ _ _ h => h) (Or.inr ⟨by rfl, rfl⟩) (by assumption) ?_
                try simp only [Act.put, List.setIfInBounds_toArray, List.set_cons_zero, List.set_cons_succ]
                refine wpAnyH_take (i := 37) (oi := ⟨some 98, .pick (.tmp 89) (.const (.bool true)) (.tmp 97), 4, "law.go:74", #[⟨28, .data⟩, ⟨36, .data⟩, ⟨25, .guard⟩], some (25, true)⟩) (v := undef) rfl (by kernel_rfl) (by kernel_rfl) (by kernel_rfl) (fun _ _ _ h => h) (Or.inr ⟨by rfl, rfl⟩) (by assumption) ?_
                try simp only [Act.put, List.setIfInBounds_toArray, List.set_cons_zero, List.set_cons_succ]
                refine wpAnyH_take (i := 38) (oi := ⟨some 99, .pick (.tmp 86) (.tmp 98) (.const (.bool false)), 4, "law.go:74", #[⟨25, .data⟩, ⟨37, .data⟩], none⟩) (v := ?_) rfl (by kernel_rfl) (by kernel_rfl) (by kernel_rfl) (fun _ _ _ h => h) (Or.inl ⟨by rfl, ?hyr1x38⟩) (by assumption) ?restr1x38
                case hyr1x38 => intro wq hSw; (go_simp); (try with_reducible rfl)
                try simp only [Act.put, List.setIfInBounds_toArray, List.set_cons_zero, List.set_cons_succ]
                refine wpAnyH_done (by kernel_rfl) ?_ _
                have ki2 := Lib.hid (ki.nx ((Ex.refl wi).drew.nx kk))
                clear ki f1 f2 c1 c2 rk
                go_wp2_with fail
                exact ⟨⟨j + 1, by omega, by go_num, ki2.out⟩, by simp [intOf]; omega⟩
            · have q2 : (z.key.toList == x.key.toList) = true := by rw [t1]; simp
              clear t1 t2 m3
              go_wp2_with fail
              refine wp_region_held_drew (S := Ex wi.drew) (by kernel_rfl) (Ex.refl _) (fun hHeld => ?_)
              refine wpAnyH_take (i := 0) (oi := ⟨some 61, .move (.tmp 6), 23, "law.go:74", #[], none⟩) (v := ?_) rfl (by kernel_rfl) (by kernel_rfl) (by kernel_rfl) (fun _ _ _ h => h) (Or.inl ⟨by rfl, ?hyr2x0⟩) (by assumption) ?restr2x0
              case hyr2x0 => intro wq hSw; (go_simp); (try with_reducible rfl)
              try simp only [Act.put, List.setIfInBounds_toArray, List.set_cons_zero, List.set_cons_succ]
              refine wpAnyH_take (i := 1) (oi := ⟨some 62, .move (.tmp 13), 3, "law.go:74", #[], none⟩) (v := ?_) rfl (by kernel_rfl) (by kernel_rfl) (by kernel_rfl) (fun _ _ _ h => h) (Or.inl ⟨by rfl, ?hyr2x1⟩) (by assumption) ?restr2x1
              case hyr2x1 => intro wq hSw; (go_simp); (try with_reducible rfl)
              try simp only [Act.put, List.setIfInBounds_toArray, List.set_cons_zero, List.set_cons_succ]
              refine wpAnyH_take (i := 2) (oi := ⟨some 63, .indexAddr 23 (.tmp 61) (.tmp 62), 0, "law.go:74", #[⟨0, .data⟩, ⟨1, .data⟩], none⟩) (v := ?_) rfl (by kernel_rfl) (by kernel_rfl) (by kernel_rfl) (fun _ _ _ h => h) (Or.inl ⟨by rfl, ?hyr2x2⟩) (by assumption) ?restr2x2
              case hyr2x2 => intro wq hSw; (go_simp); (try with_reducible rfl)
              try simp only [Act.put, List.setIfInBounds_toArray, List.set_cons_zero, List.set_cons_succ]
              refine wpAnyH_take (i := 3) (oi := ⟨some 64, .fieldAddr 48 (.tmp 63) 1, 0, "law.go:74", #[⟨2, .data⟩], none⟩) (v := ?_) rfl (by kernel_rfl) (by kernel_rfl) (by kernel_rfl) (fun _ _ _ h => h) (Or.inl ⟨by rfl, ?hyr2x3⟩) (by assumption) ?restr2x3
              case hyr2x3 => intro wq hSw; (go_simp); (try with_reducible rfl)
              try simp only [Act.put, List.setIfInBounds_toArray, List.set_cons_zero, List.set_cons_succ]
              refine wpAnyH_take (i := 4) (oi := ⟨some 65, .load 9 (.tmp 64), 9, "law.go:74", #[⟨3, .data⟩], none⟩) (v := ?_) rfl (by kernel_rfl) (by kernel_rfl) (by kernel_rfl) (fun _ _ _ h => h) (Or.inl ⟨by rfl, ?hyr2x4⟩) (by assumption) ?restr2x4
              case hyr2x4 => intro wq hSw; (have cq := Chg.cellv hSw f1 hx5; go_simp); (try with_reducible rfl)
              try simp only [Act.put, List.setIfInBounds_toArray, List.set_cons_zero, List.set_cons_succ]
              refine wpAnyH_take (i := 5) (oi := ⟨some 66, .move (.tmp 6), 23, "law.go:74", #[], none⟩) (v := ?_) rfl (by kernel_rfl) (by kernel_rfl) (by kernel_rfl) (fun _ _ _ h => h) (Or.inl ⟨by rfl, ?hyr2x5⟩) (by assumption) ?restr2x5
              case hyr2x5 => intro wq hSw; (go_simp); (try with_reducible rfl)
              try simp only [Act.put, List.setIfInBounds_toArray, List.set_cons_zero, List.set_cons_succ]
              refine wpAnyH_take (i := 6) (oi := ⟨some 67, .move (.tmp 8), 3, "law.go:74", #[], none⟩) (v := ?_) rfl (by kernel_rfl) (by kernel_rfl) (by kernel_rfl) (fun _ _ _ h => h) (Or.inl ⟨by rfl, ?hyr2x6⟩) (by assumption) ?restr2x6
              case hyr2x6 => intro wq hSw; (go_simp); (try with_reducible rfl)
              try simp only [Act.put, List.setIfInBounds_toArray, List.set_cons_zero, List.set_cons_succ]
              refine wpAnyH_take (i := 7) (oi := ⟨some 68, .indexAddr 23 (.tmp 66) (.tmp 67), 0, "law.go:74", #[⟨5, .data⟩, ⟨6, .data⟩], none⟩) (v := ?_) rfl (by kernel_rfl) (by kernel_rfl) (by kernel_rfl) (fun _ _ _ h => h) (Or.inl ⟨by rfl, ?hyr2x7⟩) (by assumption) ?restr2x7
              case hyr2x7 => intro wq hSw; (go_simp); (try with_reducible rfl)
              try simp only [Act.put, List.setIfInBounds_toArray, List.set_cons_zero, List.set_cons_succ]
              refine wpAnyH_take (i := 8) (oi := ⟨some 69, .fieldAddr 48 (.tmp 68) 1, 0, "law.go:74", #[⟨7, .data⟩], none⟩) (v := ?_) rfl (by kernel_rfl) (by kernel_rfl) (by kernel_rfl) (fun _ _ _ h => h) (Or.inl ⟨by rfl, ?hyr2x8⟩) (by assumption) ?restr2x8
              case hyr2x8 => intro wq hSw; (go_simp); (try with_reducible rfl)
              try simp only [Act.put, List.setIfInBounds_toArray, List.set_cons_zero, List.set_cons_succ]
              refine wpAnyH_take (i := 9) (oi := ⟨some 70, .load 9 (.tmp 69), 9, "law.go:74", #[⟨8, .data⟩], none⟩) (v := ?_) rfl (by kernel_rfl) (by kernel_rfl) (by kernel_rfl) (fun _ _ _ h => h) (Or.inl ⟨by rfl, ?hyr2x9⟩) (by assumption) ?restr2x9
              case hyr2x9 => intro wq hSw; (have cq := Chg.cellv hSw c1 hx1i; go_simp); (try with_reducible rfl)
              try simp only [Act.put, List.setIfInBounds_toArray, List.set_cons_zero, List.set_cons_succ]
              refine wpAnyH_take (i := 10) (oi := ⟨some 71, .binOp .gtr 9 (.tmp 65) (.tmp 70) 9, 4, "law.go:74", #[⟨4, .data⟩, ⟨9, .data⟩], none⟩) (v := ?_) rfl (by kernel_rfl) (by kernel_rfl) (by kernel_rfl) (fun _ _ _ h => h) (Or.inl ⟨by rfl, ?hyr2x10⟩) (by assumption) ?restr2x10
              case hyr2x10 => intro wq hSw; (go_simp); (try with_reducible rfl)
              try simp only [Act.put, List.setIfInBounds_toArray, List.set_cons_zero, List.set_cons_succ]
              refine wpAnyH_take (i := 11) (oi := ⟨some 72, .move (.tmp 71), 4, "law.go:74", #[⟨10, .data⟩], none⟩) (v := ?_) rfl (by kernel_rfl) (by kernel_rfl) (by kernel_rfl) (fun _ _ _ h => h) (Or.inl ⟨by rfl, ?hyr2x11⟩) (by assumption) ?restr2x11
              case hyr2x11 => intro wq hSw; (go_simp); (try with_reducible rfl)
              try simp only [Act.put, List.setIfInBounds_toArray, List.set_cons_zero, List.set_cons_succ]
              refine wpAnyH_take (i := 12) (oi := ⟨some 73, .move (.tmp 6), 23, "law.go:74", #[⟨11, .guard⟩], some (11, true)⟩) (v := undef) rfl (by kernel_rfl) (by kernel_rfl) (by kernel_rfl) (fun _ _ _ h => h) (Or.inr ⟨by rfl, rfl⟩) (by assumption) ?_
              try simp only [Act.put, List.setIfInBounds_toArray, List.set_cons_zero, List.set_cons_succ]
              refine wpAnyH_take (i := 13) (oi := ⟨some 74, .move (.tmp 13), 3, "law.go:74", #[⟨11, .guard⟩], some (11, true)⟩) (v := undef) rfl (by kernel_rfl) (by kernel_rfl) (by kernel_rfl) (fun _ _ _ h => h) (Or.inr ⟨by rfl, rfl⟩) (by assumption) ?_
              try simp only [Act.put, List.setIfInBounds_toArray, List.set_cons_zero, List.set_cons_succ]
              refine wpAnyH_take (i := 14) (oi := ⟨some 75, .indexAddr 23 (.tmp 73) (.tmp 74), 0, "law.go:74", #[⟨12, .data⟩, ⟨13, .data⟩, ⟨11, .guard⟩], some (11, true)⟩) (v := undef) rfl (by kernel_rfl) (by kernel_rfl) (by kernel_rfl) (fun _ _ _ h => h) (Or.inr ⟨by rfl, rfl⟩) (by assumption) ?_
              try simp only [Act.put, List.setIfInBounds_toArray, List.set_cons_zero, List.set_cons_succ]
              refine wpAnyH_take (i := 15) (oi := ⟨some 76, .fieldAddr 48 (.tmp 75) 2, 0, "law.go:74", #[⟨14, .data⟩, ⟨11, .guard⟩], some (11, true)⟩) (v := undef) rfl (by kernel_rfl) (by kernel_rfl) (by kernel_rfl) (fun _ _ _ h => h) (Or.inr ⟨by rfl, rfl⟩) (by assumption) ?_
              try simp only [Act.put, List.setIfInBounds_toArray, List.set_cons_zero, List.set_cons_succ]
              refine wpAnyH_take (i := 16) (oi := ⟨some 77, .load 46 (.tmp 76), 46, "law.go:74", #[⟨15, .data⟩, ⟨11, .guard⟩], some (11, true)⟩) (v := undef) rfl (by kernel_rfl) (by kernel_rfl) (by kernel_rfl) (fun _ _ _ h => h) (Or.inr ⟨by rfl, rfl⟩) (by assumption) ?_
              try simp only [Act.put, List.setIfInBounds_toArray, List.set_cons_zero, List.set_cons_succ]
              refine wpAnyH_take (i := 17) (oi := ⟨some 78, .move (.tmp 6), 23, "law.go:74", #[⟨11, .guard⟩], some (11, true)⟩) (v := undef) rfl (by kernel_rfl) (by kernel_rfl) (by kernel_rfl) (fun _ _ _ h => h) (Or.inr ⟨by rfl, rfl⟩) (by assumption) ?_
              try simp only [Act.put, List.setIfInBounds_toArray, List.set_cons_zero, List.set_cons_succ]
              refine wpAnyH_take (i := 18) (oi := ⟨some 79, .move (.tmp 8), 3, "law.go:74", #[⟨11, .guard⟩], some (11, true)⟩) (v := undef) rfl (by kernel_rfl) (by kernel_rfl) (by kernel_rfl) (fun _ _ _ h => h) (Or.inr ⟨by rfl, rfl⟩) (by assumption) ?_
              try simp only [Act.put, List.setIfInBounds_toArray, List.set_cons_zero, List.set_cons_succ]
              refine wpAnyH_take (i := 19) (oi := ⟨some 80, .indexAddr 23 (.tmp 78) (.tmp 79), 0, "law.go:74", #[⟨17, .data⟩, ⟨18, .data⟩, ⟨11, .guard⟩], some (11, true)⟩) (v := undef) rfl (by kernel_rfl) (by kernel_rfl) (by kernel_rfl) (fun _ _ _ h => h) (Or.inr ⟨by rfl, rfl⟩) (by assumption) ?_
              try simp only [Act.put, List.setIfInBounds_toArray, List.set_cons_zero, List.set_cons_succ]
              refine wpAnyH_take (i := 20) (oi := ⟨some 81, .fieldAddr 48 (.tmp 80) 2, 0, "law.go:74", #[⟨19, .data⟩, ⟨11, .guard⟩], some (11, true)⟩) (v := undef) rfl (by kernel_rfl) (by kernel_rfl) (by kernel_rfl) (fun _ _ _ h => h) (Or.inr ⟨by rfl, rfl⟩) (by assumption) ?_
              try simp only [Act.put, List.setIfInBounds_toArray, List.set_cons_zero, List.set_cons_succ]
              refine wpAnyH_take (i := 21) (oi := ⟨some 82, .load 46 (.tmp 81), 46, "law.go:74", #[⟨20, .data⟩, ⟨11, .guard⟩], some (11, true)⟩) (v := undef) rfl (by kernel_rfl) (by kernel_rfl) (by kernel_rfl) (fun _ _ _ h => h) (Or.inr ⟨by rfl, rfl⟩) (by assumption) ?_
              try simp only [Act.put, List.setIfInBounds_toArray, List.set_cons_zero, List.set_cons_succ]
              refine wpAnyH_take (i := 22) (oi := ⟨some 83, .move (.tmp 7), 3, "law.go:74", #[⟨11, .guard⟩], some (11, true)⟩) (v := undef) rfl (by kernel_rfl) (by kernel_rfl) (by kernel_rfl) (fun _ _ _ h => h) (Or.inr ⟨by rfl, rfl⟩) (by assumption) ?_
              try simp only [Act.put, List.setIfInBounds_toArray, List.set_cons_zero, List.set_cons_succ]
              refine wpAnyH_take (i := 23) (oi := ⟨some 84, .call { callee := .value (.func 29), args := #[.tmp 77, .tmp 82, .tmp 83], argTypes := #[46, 46, 3] }, 4, "law.go:74", #[⟨16, .data⟩, ⟨21, .data⟩, ⟨22, .data⟩, ⟨11, .chain⟩, ⟨11, .guard⟩], some (11, true)⟩) (v := undef) rfl (by kernel_rfl) (by kernel_rfl) (by kernel_rfl) (fun _ _ _ h => h) (Or.inr ⟨by rfl, rfl⟩) (by assumption) ?_
              try simp only [Act.put, List.setIfInBounds_toArray, List.set_cons_zero, List.set_cons_succ]
              refine wpAnyH_take (i := 24) (oi := ⟨some 85, .pick (.tmp 72) (.tmp 84) (.const (.bool false)), 4, "law.go:74", #[⟨11, .data⟩, ⟨23, .data⟩], none⟩) (v := ?_) rfl (by kernel_rfl) (by kernel_rfl) (by kernel_rfl) (fun _ _ _ h => h) (Or.inl ⟨by rfl, ?hyr2x24⟩) (by assumption) ?restr2x24
              case hyr2x24 => intro wq hSw; (go_simp); (try with_reducible rfl)
              try simp only [Act.put, List.setIfInBounds_toArray, List.set_cons_zero, List.set_cons_succ]
              refine wpAnyH_take (i := 25) (oi := ⟨some 86, .move (.tmp 85), 4, "law.go:74", #[⟨24, .data⟩, ⟨23, .chain⟩], none⟩) (v := ?_) rfl (by kernel_rfl) (by kernel_rfl) (by kernel_rfl) (fun _ _ _ h => h) (Or.inl ⟨by rfl, ?hyr2x25⟩) (by assumption) ?restr2x25
              case hyr2x25 => intro wq hSw; (go_simp); (try with_reducible rfl)
              try simp only [Act.put, List.setIfInBounds_toArray, List.set_cons_zero, List.set_cons_succ]
              refine wpAnyH_take (i := 26) (oi := ⟨some 87, .move (.tmp 12), 4, "law.go:74", #[⟨25, .guard⟩], some (25, true)⟩) (v := undef) rfl (by kernel_rfl) (by kernel_rfl) (by kernel_rfl) (fun _ _ _ h => h) (Or.inr ⟨by rfl, rfl⟩) (by assumption) ?_
              try simp only [Act.put, List.setIfInBounds_toArray, List.set_cons_zero, List.set_cons_succ]
              refine wpAnyH_take (i := 27) (oi := ⟨some 88, .unOp .not 4 (.tmp 87), 4, "law.go:74", #[⟨26, .data⟩, ⟨25, .guard⟩], some (25, true)⟩) (v := undef) rfl (by kernel_rfl) (by kernel_rfl) (by kernel_rfl) (fun _ _ _ h => h) (Or.inr ⟨by rfl, rfl⟩) (by assumption) ?_
              try simp only [Act.put, List.setIfInBounds_toArray, List.set_cons_zero, List.set_cons_succ]
              refine wpAnyH_take (i := 28) (oi := ⟨some 89, .move (.tmp 88), 4, "law.go:74", #[⟨27, .data⟩, ⟨25, .chain⟩, ⟨25, .guard⟩], some (25, true)⟩) (v := undef) rfl (by kernel_rfl) (by kernel_rfl) (by kernel_rfl) (fun _ _ _ h => h) (Or.inr ⟨by rfl, rfl⟩) (by assumption) ?_
              try simp only [Act.put, List.setIfInBounds_toArray, List.set_cons_zero, List.set_cons_succ]
              refine wpAnyH_take (i := 29) (oi := ⟨some 90, .move (.tmp 6), 23, "law.go:74", #[⟨28, .guard⟩], some (28, false)⟩) (v := undef) rfl (by kernel_rfl) (by kernel_rfl) (by kernel_rfl) (fun _ _ _ h => h) (Or.inr ⟨by rfl, rfl⟩) (by assumption) ?_
              try simp only [Act.put, List.setIfInBounds_toArray, List.set_cons_zero, List.set_cons_succ]
              refine wpAnyH_take (i := 30) (oi := ⟨some 91, .move (.tmp 13), 3, "law.go:74", #[⟨28, .guard⟩], some (28, false)⟩) (v := undef) rfl (by kernel_rfl) (by kernel_rfl) (by kernel_rfl) (fun _ _ _ h => h) (Or.inr ⟨by rfl, rfl⟩) (by assumption) ?_
              try simp only [Act.put, List.setIfInBounds_toArray, List.set_cons_zero, List.set_cons_succ]
              refine wpAnyH_take (i := 31) (oi := ⟨some 92, .indexAddr 23 (.tmp 90) (.tmp 91), 0, "law.go:74", #[⟨29, .data⟩, ⟨30, .data⟩, ⟨28, .guard⟩], some (28, false)⟩) (v := undef) rfl (by kernel_rfl) (by kernel_rfl) (by kernel_rfl) (fun _ _ _ h => h) (Or.inr ⟨by rfl, rfl⟩) (by assumption) ?_
              try simp only [Act.put, List.setIfInBounds_toArray, List.set_cons_zero, List.set_cons_succ]
              refine wpAnyH_take (i := 32) (oi := ⟨some 93, .fieldAddr 48 (.tmp 92) 1, 0, "law.go:74", #[⟨31, .data⟩, ⟨28, .guard⟩], some (28, false)⟩) (v := undef) rfl (by kernel_rfl) (by kernel_rfl) (by kernel_rfl) (fun _ _ _ h => h) (Or.inr ⟨by rfl, rfl⟩) (by assumption) ?_
              try simp only [Act.put, List.setIfInBounds_toArray, List.set_cons_zero, List.set_cons_succ]
              refine wpAnyH_take (i := 33) (oi := ⟨some 94, .load 9 (.tmp 93), 9, "law.go:74", #[⟨32, .data⟩, ⟨28, .guard⟩], some (28, false)⟩) (v := undef) rfl (by kernel_rfl) (by kernel_rfl) (by kernel_rfl) (fun _ _ _ h => h) (Or.inr ⟨by rfl, rfl⟩) (by assumption) ?_
              try simp only [Act.put, List.setIfInBounds_toArray, List.set_cons_zero, List.set_cons_succ]
              refine wpAnyH_take (i := 34) (oi := ⟨some 95, .fieldAddr 48 (.tmp 11) 1, 0, "law.go:74", #[⟨28, .guard⟩], some (28, false)⟩) (v := undef) rfl (by kernel_rfl) (by kernel_rfl) (by kernel_rfl) (fun _ _ _ h => h) (Or.inr ⟨by rfl, rfl⟩) (by assumption) ?_
              try simp only [Act.put, List.setIfInBounds_toArray, List.set_cons_zero, List.set_cons_succ]
              refine wpAnyH_take (i := 35) (oi := ⟨some 96, .load 9 (.tmp 95), 9, "law.go:74", #[⟨34, .data⟩, ⟨28, .guard⟩], some (28, false)⟩) (v := undef) rfl (by kernel_rfl) (by kernel_rfl) (by kernel_rfl) (fun _ _ _ h => h) (Or.inr ⟨by rfl, rfl⟩) (by assumption) ?_
              try simp only [Act.put, List.setIfInBounds_toArray, List.set_cons_zero, List.set_cons_succ]
              refine wpAnyH_take (i := 36) (oi := ⟨some 97, .binOp .lss 9 (.tmp 94) (.tmp 96) 9, 4, "law.go:74", #[⟨33, .data⟩, ⟨35, .data⟩, ⟨28, .guard⟩], some (28, false)⟩) (v := undef) rfl (by kernel_rfl) (by kernel_rfl) (by kernel_rfl) (fun _ _ _ h => h) (Or.inr ⟨by rfl, rfl⟩) (by assumption) ?_
              try simp only [Act.put, List.setIfInBounds_toArray, List.set_cons_zero, List.set_cons_succ]
              refine wpAnyH_take (i := 37) (oi := ⟨some 98, .pick (.tmp 89) (.const (.bool true)) (.tmp 97), 4, "law.go:74", #[⟨28, .data⟩, ⟨36, .data⟩, ⟨25, .guard⟩], some (25, true)⟩) (v := undef) rfl (by kernel_rfl) (by kernel_rfl) (by kernel_rfl) (fun _ _ _ h => h) (Or.inr ⟨by rfl, rfl⟩) (by assumption) ?_
              try simp only [Act.put, List.setIfInBounds_toArray, List.set_cons_zero, List.set_cons_succ]
              refine wpAnyH_take (i := 38) (oi := ⟨some 99, .pick (.tmp 86) (.tmp 98) (.const (.bool false)), 4, "law.go:74", #[⟨25, .data⟩, ⟨37, .data⟩], none⟩) (v := ?_) rfl (by kernel_rfl) (by kernel_rfl) (by kernel_rfl) (fun _ _ _ h => h) (Or.inl ⟨by rfl, ?hyr2x38⟩) (by assumption) ?restr2x38
              case hyr2x38 => intro wq hSw; (go_simp); (try with_reducible rfl)
              try simp only [Act.put, List.setIfInBounds_toArray, List.set_cons_zero, List.set_cons_succ]
              refine wpAnyH_done (by kernel_rfl) ?_ _
              have ki2 := Lib.hid (ki.nx (Ex.refl wi).drew)
              clear ki f1 f2 c1 c2 rk
              go_wp2_with fail
              exact ⟨⟨j + 1, by omega, by go_num, ki2.out⟩, by simp [intOf]; omega⟩
            · have q2 : (z.key.toList == x.key.toList) = false := by rw [beq_eq_false_iff_ne]; exact fun h => t3 h.symm
              clear t2 t3 m3
              go_wp2_with fail
              refine wp_region_held_drew (S := Ex wi.drew) (by kernel_rfl) (Ex.refl _) (fun hHeld => ?_)
              refine wpAnyH_take (i := 0) (oi := ⟨some 61, .move (.tmp 6), 23, "law.go:74", #[], none⟩) (v := ?_) rfl (by kernel_rfl) (by kernel_rfl) (by kernel_rfl) (fun _ _ _ h => h) (Or.inl ⟨by rfl, ?hyr3x0⟩) (by assumption) ?restr3x0
              case hyr3x0 => intro wq hSw; (go_simp); (try with_reducible rfl)
              try simp only [Act.put, List.setIfInBounds_toArray, List.set_cons_zero, List.set_cons_succ]
              refine wpAnyH_take (i := 1) (oi := ⟨some 62, .move (.tmp 13), 3, "law.go:74", #[], none⟩) (v := ?_) rfl (by kernel_rfl) (by kernel_rfl) (by kernel_rfl) (fun _ _ _ h => h) (Or.inl ⟨by rfl, ?hyr3x1⟩) (by assumption) ?restr3x1
              case hyr3x1 => intro wq hSw; (go_simp); (try with_reducible rfl)
              try simp only [Act.put, List.setIfInBounds_toArray, List.set_cons_zero, List.set_cons_succ]
              refine wpAnyH_take (i := 2) (oi := ⟨some 63, .indexAddr 23 (.tmp 61) (.tmp 62), 0, "law.go:74", #[⟨0, .data⟩, ⟨1, .data⟩], none⟩) (v := ?_) rfl (by kernel_rfl) (by kernel_rfl) (by kernel_rfl) (fun _ _ _ h => h) (Or.inl ⟨by rfl, ?hyr3x2⟩) (by assumption) ?restr3x2
              case hyr3x2 => intro wq hSw; (go_simp); (try with_reducible rfl)
              try simp only [Act.put, List.setIfInBounds_toArray, List.set_cons_zero, List.set_cons_succ]
              refine wpAnyH_take (i := 3) (oi := ⟨some 64, .fieldAddr 48 (.tmp 63) 1, 0, "law.go:74", #[⟨2, .data⟩], none⟩) (v := ?_) rfl (by kernel_rfl) (by kernel_rfl) (by kernel_rfl) (fun _ _ _ h => h) (Or.inl ⟨by rfl, ?hyr3x3⟩) (by assumption) ?restr3x3
              case hyr3x3 => intro wq hSw; (go_simp); (try with_reducible rfl)
              try simp only [Act.put, List.setIfInBounds_toArray, List.set_cons_zero, List.set_cons_succ]
              refine wpAnyH_take (i := 4) (oi := ⟨some 65, .load 9 (.tmp 64), 9, "law.go:74", #[⟨3, .data⟩], none⟩) (v := ?_) rfl (by kernel_rfl) (by kernel_rfl) (by kernel_rfl) (fun _ _ _ h => h) (Or.inl ⟨by rfl, ?hyr3x4⟩) (by assumption) ?restr3x4
              case hyr3x4 => intro wq hSw; (have cq := Chg.cellv hSw f1 hx5; go_simp); (try with_reducible rfl)
              try simp only [Act.put, List.setIfInBounds_toArray, List.set_cons_zero, List.set_cons_succ]
              refine wpAnyH_take (i := 5) (oi := ⟨some 66, .move (.tmp 6), 23, "law.go:74", #[], none⟩) (v := ?_) rfl (by kernel_rfl) (by kernel_rfl) (by kernel_rfl) (fun _ _ _ h => h) (Or.inl ⟨by rfl, ?hyr3x5⟩) (by assumption) ?restr3x5
              case hyr3x5 => intro wq hSw; (go_simp); (try with_reducible rfl)
              try simp only [Act.put, List.setIfInBounds_toArray, List.set_cons_zero, List.set_cons_succ]
              refine wpAnyH_take (i := 6) (oi := ⟨some 67, .move (.tmp 8), 3, "law.go:74", #[], none⟩) (v := ?_) rfl (by kernel_rfl) (by kernel_rfl) (by kernel_rfl) (fun _ _ _ h => h) (Or.inl ⟨by rfl, ?hyr3x6⟩) (by assumption) ?restr3x6
              case hyr3x6 => intro wq hSw; (go_simp); (try with_reducible rfl)
              try simp only [Act.put, List.setIfInBounds_toArray, List.set_cons_zero, List.set_cons_succ]
              refine wpAnyH_take (i := 7) (oi := ⟨some 68, .indexAddr 23 (.tmp 66) (.tmp 67), 0, "law.go:74", #[⟨5, .data⟩, ⟨6, .data⟩], none⟩) (v := ?_) rfl (by kernel_rfl) (by kernel_rfl) (by kernel_rfl) (fun _ _ _ h => h) (Or.inl ⟨by rfl, ?hyr3x7⟩) (by assumption) ?restr3x7
              case hyr3x7 => intro wq hSw; (go_simp); (try with_reducible rfl)
              try simp only [Act.put, List.setIfInBounds_toArray, List.set_cons_zero, List.set_cons_succ]
              refine wpAnyH_take (i := 8) (oi := ⟨some 69, .fieldAddr 48 (.tmp 68) 1, 0, "law.go:74", #[⟨7, .data⟩], none⟩) (v := ?_) rfl (by kernel_rfl) (by kernel_rfl) (by kernel_rfl) (fun _ _ _ h => h) (Or.inl ⟨by rfl, ?hyr3x8⟩) (by assumption) ?restr3x8
              case hyr3x8 => intro wq hSw; (go_simp); (try with_reducible rfl)
              try simp only [Act.put, List.setIfInBounds_toArray, List.set_cons_zero, List.set_cons_succ]
              refine wpAnyH_take (i := 9) (oi := ⟨some 70, .load 9 (.tmp 69), 9, "law.go:74", #[⟨8, .data⟩], none⟩) (v := ?_) rfl (by kernel_rfl) (by kernel_rfl) (by kernel_rfl) (fun _ _ _ h => h) (Or.inl ⟨by rfl, ?hyr3x9⟩) (by assumption) ?restr3x9
              case hyr3x9 => intro wq hSw; (have cq := Chg.cellv hSw c1 hx1i; go_simp); (try with_reducible rfl)
              try simp only [Act.put, List.setIfInBounds_toArray, List.set_cons_zero, List.set_cons_succ]
              refine wpAnyH_take (i := 10) (oi := ⟨some 71, .binOp .gtr 9 (.tmp 65) (.tmp 70) 9, 4, "law.go:74", #[⟨4, .data⟩, ⟨9, .data⟩], none⟩) (v := ?_) rfl (by kernel_rfl) (by kernel_rfl) (by kernel_rfl) (fun _ _ _ h => h) (Or.inl ⟨by rfl, ?hyr3x10⟩) (by assumption) ?restr3x10
              case hyr3x10 => intro wq hSw; (go_simp); (try with_reducible rfl)
              try simp only [Act.put, List.setIfInBounds_toArray, List.set_cons_zero, List.set_cons_succ]
              refine wpAnyH_take (i := 11) (oi := ⟨some 72, .move (.tmp 71), 4, "law.go:74", #[⟨10, .data⟩], none⟩) (v := ?_) rfl (by kernel_rfl) (by kernel_rfl) (by kernel_rfl) (fun _ _ _ h => h) (Or.inl ⟨by rfl, ?hyr3x11⟩) (by assumption) ?restr3x11
              case hyr3x11 => intro wq hSw; (go_simp); (try with_reducible rfl)
              try simp only [Act.put, List.setIfInBounds_toArray, List.set_cons_zero, List.set_cons_succ]
              refine wpAnyH_take (i := 12) (oi := ⟨some 73, .move (.tmp 6), 23, "law.go:74", #[⟨11, .guard⟩], some (11, true)⟩) (v := undef) rfl (by kernel_rfl) (by kernel_rfl) (by kernel_rfl) (fun _ _ _ h => h) (Or.inr ⟨by rfl, rfl⟩) (by assumption) ?_
              try simp only [Act.put, List.setIfInBounds_toArray, List.set_cons_zero, List.set_cons_succ]
              refine wpAnyH_take (i := 13) (oi := ⟨some 74, .move (.tmp 13), 3, "law.go:74", #[⟨11, .guard⟩], some (11, true)⟩) (v := undef) rfl (by kernel_rfl) (by kernel_rfl) (by kernel_rfl) (fun _ _ _ h => h) (Or.inr ⟨by rfl, rfl⟩) (by assumption) ?_
              try simp only [Act.put, List.setIfInBounds_toArray, List.set_cons_zero, List.set_cons_succ]
              refine wpAnyH_take (i := 14) (oi := ⟨some 75, .indexAddr 23 (.tmp 73) (.tmp 74), 0, "law.go:74", #[⟨12, .data⟩, ⟨13, .data⟩, ⟨11, .guard⟩], some (11, true)⟩) (v := undef) rfl (by kernel_rfl) (by kernel_rfl) (by kernel_rfl) (fun _ _ _ h => h) (Or.inr ⟨by rfl, rfl⟩) (by assumption) ?_
              try simp only [Act.put, List.setIfInBounds_toArray, List.set_cons_zero, List.set_cons_succ]
              refine wpAnyH_take (i := 15) (oi := ⟨some 76, .fieldAddr 48 (.tmp 75) 2, 0, "law.go:74", #[⟨14, .data⟩, ⟨11, .guard⟩], some (11, true)⟩) (v := undef) rfl (by kernel_rfl) (by kernel_rfl) (by kernel_rfl) (fun _ _ _ h => h) (Or.inr ⟨by rfl, rfl⟩) (by assumption) ?_
              try simp only [Act.put, List.setIfInBounds_toArray, List.set_cons_zero, List.set_cons_succ]
              refine wpAnyH_take (i := 16) (oi := ⟨some 77, .load 46 (.tmp 76), 46, "law.go:74", #[⟨15, .data⟩, ⟨11, .guard⟩], some (11, true)⟩) (v := undef) rfl (by kernel_rfl) (by kernel_rfl) (by kernel_rfl) (fun _ _ _ h => h) (Or.inr ⟨by rfl, rfl⟩) (by assumption) ?_
              try simp only [Act.put, List.setIfInBounds_toArray, List.set_cons_zero, List.set_cons_succ]
              refine wpAnyH_take (i := 17) (oi := ⟨some 78, .move (.tmp 6), 23, "law.go:74", #[⟨11, .guard⟩], some (11, true)⟩) (v := undef) rfl (by kernel_rfl) (by kernel_rfl) (by kernel_rfl) (fun _ _ _ h => h) (Or.inr ⟨by rfl, rfl⟩) (by assumption) ?_
              try simp only [Act.put, List.setIfInBounds_toArray, List.set_cons_zero, List.set_cons_succ]
              refine wpAnyH_take (i := 18) (oi := ⟨some 79, .move (.tmp 8), 3, "law.go:74", #[⟨11, .guard⟩], some (11, true)⟩) (v := undef) rfl (by kernel_rfl) (by kernel_rfl) (by kernel_rfl) (fun _ _ _ h => h) (Or.inr ⟨by rfl, rfl⟩) (by assumption) ?_
              try simp only [Act.put, List.setIfInBounds_toArray, List.set_cons_zero, List.set_cons_succ]
              refine wpAnyH_take (i := 19) (oi := ⟨some 80, .indexAddr 23 (.tmp 78) (.tmp 79), 0, "law.go:74", #[⟨17, .data⟩, ⟨18, .data⟩, ⟨11, .guard⟩], some (11, true)⟩) (v := undef) rfl (by kernel_rfl) (by kernel_rfl) (by kernel_rfl) (fun _ _ _ h => h) (Or.inr ⟨by rfl, rfl⟩) (by assumption) ?_
              try simp only [Act.put, List.setIfInBounds_toArray, List.set_cons_zero, List.set_cons_succ]
              refine wpAnyH_take (i := 20) (oi := ⟨some 81, .fieldAddr 48 (.tmp 80) 2, 0, "law.go:74", #[⟨19, .data⟩, ⟨11, .guard⟩], some (11, true)⟩) (v := undef) rfl (by kernel_rfl) (by kernel_rfl) (by kernel_rfl) (fun _ _ _ h => h) (Or.inr ⟨by rfl, rfl⟩) (by assumption) ?_
              try simp only [Act.put, List.setIfInBounds_toArray, List.set_cons_zero, List.set_cons_succ]
              refine wpAnyH_take (i := 21) (oi := ⟨some 82, .load 46 (.tmp 81), 46, "law.go:74", #[⟨20, .data⟩, ⟨11, .guard⟩], some (11, true)⟩) (v := undef) rfl (by kernel_rfl) (by kernel_rfl) (by kernel_rfl) (fun _ _ _ h => h) (Or.inr ⟨by rfl, rfl⟩) (by assumption) ?_
              try simp only [Act.put, List.setIfInBounds_toArray, List.set_cons_zero, List.set_cons_succ]
              refine wpAnyH_take (i := 22) (oi := ⟨some 83, .move (.tmp 7), 3, "law.go:74", #[⟨11, .guard⟩], some (11, true)⟩) (v := undef) rfl (by kernel_rfl) (by kernel_rfl) (by kernel_rfl) (fun _ _ _ h => h) (Or.inr ⟨by rfl, rfl⟩) (by assumption) ?_
              try simp only [Act.put, List.setIfInBounds_toArray, List.set_cons_zero, List.set_cons_succ]
              refine wpAnyH_take (i := 23) (oi := ⟨some 84, .call { callee := .value (.func 29), args := #[.tmp 77, .tmp 82, .tmp 83], argTypes := #[46, 46, 3] }, 4, "law.go:74", #[⟨16, .data⟩, ⟨21, .data⟩, ⟨22, .data⟩, ⟨11, .chain⟩, ⟨11, .guard⟩], some (11, true)⟩) (v := undef) rfl (by kernel_rfl) (by kernel_rfl) (by kernel_rfl) (fun _ _ _ h => h) (Or.inr ⟨by rfl, rfl⟩) (by assumption) ?_
              try simp only [Act.put, List.setIfInBounds_toArray, List.set_cons_zero, List.set_cons_succ]
              refine wpAnyH_take (i := 24) (oi := ⟨some 85, .pick (.tmp 72) (.tmp 84) (.const (.bool false)), 4, "law.go:74", #[⟨11, .data⟩, ⟨23, .data⟩], none⟩) (v := ?_) rfl (by kernel_rfl) (by kernel_rfl) (by kernel_rfl) (fun _ _ _ h => h) (Or.inl ⟨by rfl, ?hyr3x24⟩) (by assumption) ?restr3x24
              case hyr3x24 => intro wq hSw; (go_simp); (try with_reducible rfl)
              try simp only [Act.put, List.setIfInBounds_toArray, List.set_cons_zero, List.set_cons_succ]
              refine wpAnyH_take (i := 25) (oi := ⟨some 86, .move (.tmp 85), 4, "law.go:74", #[⟨24, .data⟩, ⟨23, .chain⟩], none⟩) (v := ?_) rfl (by kernel_rfl) (by kernel_rfl) (by kernel_rfl) (fun _ _ _ h => h) (Or.inl ⟨by rfl, ?hyr3x25⟩) (by assumption) ?restr3x25
              case hyr3x25 => intro wq hSw; (go_simp); (try with_reducible rfl)
              try simp only [Act.put, List.setIfInBounds_toArray, List.set_cons_zero, List.set_cons_succ]
              refine wpAnyH_take (i := 26) (oi := ⟨some 87, .move (.tmp 12), 4, "law.go:74", #[⟨25, .guard⟩], some (25, true)⟩) (v := undef) rfl (by kernel_rfl) (by kernel_rfl) (by kernel_rfl) (fun _ _ _ h => h) (Or.inr ⟨by rfl, rfl⟩) (by assumption) ?_
              try simp only [Act.put, List.setIfInBounds_toArray, List.set_cons_zero, List.set_cons_succ]
              refine wpAnyH_take (i := 27) (oi := ⟨some 88, .unOp .not 4 (.tmp 87), 4, "law.go:74", #[⟨26, .data⟩, ⟨25, .guard⟩], some (25, true)⟩) (v := undef) rfl (by kernel_rfl) (by kernel_rfl) (by kernel_rfl) (fun _ _ _ h => h) (Or.inr ⟨by rfl, rfl⟩) (by assumption) ?_
              try simp only [Act.put, List.setIfInBounds_toArray, List.set_cons_zero, List.set_cons_succ]
              refine wpAnyH_take (i := 28) (oi := ⟨some 89, .move (.tmp 88), 4, "law.go:74", #[⟨27, .data⟩, ⟨25, .chain⟩, ⟨25, .guard⟩], some (25, true)⟩) (v := undef) rfl (by kernel_rfl) (by kernel_rfl) (by kernel_rfl) (fun _ _ _ h => h) (Or.inr ⟨by rfl, rfl⟩) (by assumption) ?_
              try simp only [Act.put, List.setIfInBounds_toArray, List.set_cons_zero, List.set_cons_succ]
              refine wpAnyH_take (i := 29) (oi := ⟨some 90, .move (.tmp 6), 23, "law.go:74", #[⟨28, .guard⟩], some (28, false)⟩) (v := undef) rfl (by kernel_rfl) (by kernel_rfl) (by kernel_rfl) (fun _ _ _ h => h) (Or.inr ⟨by rfl, rfl⟩) (by assumption) ?_
              try simp only [Act.put, List.setIfInBounds_toArray, List.set_cons_zero, List.set_cons_succ]
              refine wpAnyH_take (i := 30) (oi := ⟨some 91, .move (.tmp 13), 3, "law.go:74", #[⟨28, .guard⟩], some (28, false)⟩) (v := undef) rfl (by kernel_rfl) (by kernel_rfl) (by kernel_rfl) (fun _ _ _ h => h) (Or.inr ⟨by rfl, rfl⟩) (by assumption) ?_
              try simp only [Act.put, List.setIfInBounds_toArray, List.set_cons_zero, List.set_cons_succ]
              refine wpAnyH_take (i := 31) (oi := ⟨some 92, .indexAddr 23 (.tmp 90) (.tmp 91), 0, "law.go:74", #[⟨29, .data⟩, ⟨30, .data⟩, ⟨28, .guard⟩], some (28, false)⟩) (v := undef) rfl (by kernel_rfl) (by kernel_rfl) (by kernel_rfl) (fun _ _ _ h => h) (Or.inr ⟨by rfl, rfl⟩) (by assumption) ?_
              try simp only [Act.put, List.setIfInBounds_toArray, List.set_cons_zero, List.set_cons_succ]
              refine wpAnyH_take (i := 32) (oi := ⟨some 93, .fieldAddr 48 (.tmp 92) 1, 0, "law.go:74", #[⟨31, .data⟩, ⟨28, .guard⟩], some (28, false)⟩) (v := undef) rfl (by kernel_rfl) (by kernel_rfl) (by kernel_rfl) (fun _ _ _ h => h) (Or.inr ⟨by rfl, rfl⟩) (by assumption) ?_
              try simp only [Act.put, List.setIfInBounds_toArray, List.set_cons_zero, List.set_cons_succ]
              refine wpAnyH_take (i := 33) (oi := ⟨some 94, .load 9 (.tmp 93), 9, "law.go:74", #[⟨32, .data⟩, ⟨28, .guard⟩], some (28, false)⟩) (v := undef) rfl (by kernel_rfl) (by kernel_rfl) (by kernel_rfl) (fun _ _ _ h => h) (Or.inr ⟨by rfl, rfl⟩) (by assumption) ?_
              try simp only [Act.put, List.setIfInBounds_toArray, List.set_cons_zero, List.set_cons_succ]
              refine wpAnyH_take (i := 34) (oi := ⟨some 95, .fieldAddr 48 (.tmp 11) 1, 0, "law.go:74", #[⟨28, .guard⟩], some (28, false)⟩) (v := undef) rfl (by kernel_rfl) (by kernel_rfl) (by kernel_rfl) (fun _ _ _ h => h) (Or.inr ⟨by rfl, rfl⟩) (by assumption) ?_
              try simp only [Act.put, List.setIfInBounds_toArray, List.set_cons_zero, List.set_cons_succ]
              refine wpAnyH_take (i := 35) (oi := ⟨some 96, .load 9 (.tmp 95), 9, "law.go:74", #[⟨34, .data⟩, ⟨28, .guard⟩], some (28, false)⟩) (v := undef) rfl (by kernel_rfl) (by kernel_rfl) (by kernel_rfl) (fun _ _ _ h => h) (Or.inr ⟨by rfl, rfl⟩) (by assumption) ?_
              try simp only [Act.put, List.setIfInBounds_toArray, List.set_cons_zero, List.set_cons_succ]
              refine wpAnyH_take (i := 36) (oi := ⟨some 97, .binOp .lss 9 (.tmp 94) (.tmp 96) 9, 4, "law.go:74", #[⟨33, .data⟩, ⟨35, .data⟩, ⟨28, .guard⟩], some (28, false)⟩) (v := undef) rfl (by kernel_rfl) (by kernel_rfl) (by kernel_rfl) (fun _ _ _ h => h) (Or.inr ⟨by rfl, rfl⟩) (by assumption) ?_
              try simp only [Act.put, List.setIfInBounds_toArray, List.set_cons_zero, List.set_cons_succ]
              refine wpAnyH_take (i := 37) (oi := ⟨some 98, .pick (.tmp 89) (.const (.bool true)) (.tmp 97), 4, "law.go:74", #[⟨28, .data⟩, ⟨36, .data⟩, ⟨25, .guard⟩], some (25, true)⟩) (v := undef) rfl (by kernel_rfl) (by kernel_rfl) (by kernel_rfl) (fun _ _ _ h => h) (Or.inr ⟨by rfl, rfl⟩) (by assumption) ?_
              try simp only [Act.put, List.setIfInBounds_toArray, List.set_cons_zero, List.set_cons_succ]
              refine wpAnyH_take (i := 38) (oi := ⟨some 99, .pick (.tmp 86) (.tmp 98) (.const (.bool false)), 4, "law.go:74", #[⟨25, .data⟩, ⟨37, .data⟩], none⟩) (v := ?_) rfl (by kernel_rfl) (by kernel_rfl) (by kernel_rfl) (fun _ _ _ h => h) (Or.inl ⟨by rfl, ?hyr3x38⟩) (by assumption) ?restr3x38
              case hyr3x38 => intro wq hSw; (go_simp); (try with_reducible rfl)
              try simp only [Act.put, List.setIfInBounds_toArray, List.set_cons_zero, List.set_cons_succ]
              refine wpAnyH_done (by kernel_rfl) ?_ _
              have ki2 := Lib.hid (ki.nx (Ex.refl wi).drew)
              clear ki f1 f2 c1 c2 rk
              go_wp2_with fail
              exact ⟨⟨j + 1, by omega, by go_num, ki2.out⟩, by simp [intOf]; omega⟩
          · obtain rfl : j = L.length := by omega
            have c0 := Chg.cellv ki c0 hx1
            have c1 := Chg.cellv ki c1 hx1
            have c2 := Chg.cellv ki c2 hx1
            have rid := (B2.out.nx ki).cell 0 _ rfl
            have rwd := (B2.out.nx ki).cell 2 _ rfl
            have kw2 := kw.nx ki
            have SI := S7.out.nx ki
            have TI := TG7.out.nx ki
            clear hj hjl ki c0 c1 c2 rk rid rwd SI TI
            go_wp2_with fail
            exact ⟨⟨k + 1, by omega, by go_num, kw2⟩, by simp [intOf]; omega⟩
      | true =>
        have b1 := B.cell 1 _ rfl
        clear B M2
        go_wp2_with fail
        clear b1
        go_loopw [13] (fun j wr => NRel L.length w7 j wr) (fun j _ => L.length - (intOf j).toNat)
        case atStart => exact ⟨0, by omega, rfl, Ex.refl _⟩
        case round =>
          obtain ⟨j, hj, rfl, ki⟩ := hrel
          obtain ⟨wi, rfl⟩ : ∃ wi : World, wi = wr := ⟨_, rfl⟩
          have hx1i : x1 < wi.heap.size := Nat.lt_of_lt_of_le hx1 ki.size
          have rk := (B2.out.nx ki).cell 1 _ rfl
          have hg2i := (B2.out.nx ki).lt
          by_cases hjl : j < L.length
          · obtain ⟨x5, o5, z, he5, hx5, hz, hcz⟩ := (S7.out.nx ki).at hjl
            cases he5
            have f1 : wi.cell? ⟨x1, o1 + j * 3 + 1, none⟩ = some (.string z.key) := hcz 1 _ rfl
            have f2 : wi.cell? ⟨x1, o1 + j * 3 + 2, none⟩ = some (.int .u32 z.word) := hcz 2 _ rfl
            have c1 := Chg.cellv ki c1 hx1
            have c2 := Chg.cellv ki c2 hx1
            have hzm := List.mem_of_getElem? hz
            have hzw := RW.out z hzm
            have m3 := M3.out z hzm
            clear hcz hz
            rcases bl_tri x.key.toList z.key.toList with ⟨t1, q1, t3⟩ | ⟨t1, t2, q1⟩ | ⟨q1, t2, t3⟩
            · have q2 : (z.key.toList == x.key.toList) = false := by rw [beq_eq_false_iff_ne]; exact fun h => t3 h.symm
              cases hsm : sameN z.word x.word m with
              | true =>
                obtain ⟨r1, r2⟩ := m3 t1 hsm
                clear t1 t3 m3 r1
                go_wp2_with fail
                refine wp_region_held_drew (S := Ex wi.drew) (by kernel_rfl) (Ex.refl _) (fun hHeld => ?_)
                refine wpAnyH_take (i := 0) (oi := ⟨some 61, .move (.tmp 6), 23, "law.go:74", #[], none⟩) (v := ?_) rfl (by kernel_rfl) (by kernel_rfl) (by kernel_rfl) (fun _ _ _ h => h) (Or.inl ⟨by rfl, ?hyr4x0⟩) (by assumption) ?restr4x0
                case hyr4x0 => intro wq hSw; (go_simp); (try with_reducible rfl)
                try simp only [Act.put, List.setIfInBounds_toArray, List.set_cons_zero, List.set_cons_succ]
                refine wpAnyH_take (i := 1) (oi := ⟨some 62, .move (.tmp 13), 3, "law.go:74", #[], none⟩) (v := ?_) rfl (by kernel_rfl) (by kernel_rfl) (by kernel_rfl) (fun _ _ _ h => h) (Or.inl ⟨by rfl, ?hyr4x1⟩) (by assumption) ?restr4x1
                case hyr4x1 => intro wq hSw; (go_simp); (try with_reducible rfl)
                try simp only [Act.put, List.setIfInBounds_toArray, List.set_cons_zero, List.set_cons_succ]
                refine wpAnyH_take (i := 2) (oi := ⟨some 63, .indexAddr 23 (.tmp 61) (.tmp 62), 0, "law.go:74", #[⟨0, .data⟩, ⟨1, .data⟩], none⟩) (v := ?_) rfl (by kernel_rfl) (by kernel_rfl) (by kernel_rfl) (fun _ _ _ h => h) (Or.inl ⟨by rfl, ?hyr4x2⟩) (by assumption) ?restr4x2
                case hyr4x2 => intro wq hSw; (go_simp); (try with_reducible rfl)
                try simp only [Act.put, List.setIfInBounds_toArray, List.set_cons_zero, List.set_cons_succ]
                refine wpAnyH_take (i := 3) (oi := ⟨some 64, .fieldAddr 48 (.tmp 63) 1, 0, "law.go:74", #[⟨2, .data⟩], none⟩) (v := ?_) rfl (by kernel_rfl) (by kernel_rfl) (by kernel_rfl) (fun _ _ _ h => h) (Or.inl ⟨by rfl, ?hyr4x3⟩) (by assumption) ?restr4x3
                case hyr4x3 => intro wq hSw; (go_simp); (try with_reducible rfl)
                try simp only [Act.put, List.setIfInBounds_toArray, List.set_cons_zero, List.set_cons_succ]
                refine wpAnyH_take (i := 4) (oi := ⟨some 65, .load 9 (.tmp 64), 9, "law.go:74", #[⟨3, .data⟩], none⟩) (v := ?_) rfl (by kernel_rfl) (by kernel_rfl) (by kernel_rfl) (fun _ _ _ h => h) (Or.inl ⟨by rfl, ?hyr4x4⟩) (by assumption) ?restr4x4
                case hyr4x4 => intro wq hSw; (have cq := Chg.cellv hSw f1 hx5; go_simp); (try with_reducible rfl)
                try simp only [Act.put, List.setIfInBounds_toArray, List.set_cons_zero, List.set_cons_succ]
                refine wpAnyH_take (i := 5) (oi := ⟨some 66, .move (.tmp 6), 23, "law.go:74", #[], none⟩) (v := ?_) rfl (by kernel_rfl) (by kernel_rfl) (by kernel_rfl) (fun _ _ _ h => h) (Or.inl ⟨by rfl, ?hyr4x5⟩) (by assumption) ?restr4x5
                case hyr4x5 => intro wq hSw; (go_simp); (try with_reducible rfl)
                try simp only [Act.put, List.setIfInBounds_toArray, List.set_cons_zero, List.set_cons_succ]
                refine wpAnyH_take (i := 6) (oi := ⟨some 67, .move (.tmp 8), 3, "law.go:74", #[], none⟩) (v := ?_) rfl (by kernel_rfl) (by kernel_rfl) (by kernel_rfl) (fun _ _ _ h => h) (Or.inl ⟨by rfl, ?hyr4x6⟩) (by assumption) ?restr4x6
                case hyr4x6 => intro wq hSw; (go_simp); (try with_reducible rfl)
                try simp only [Act.put, List.setIfInBounds_toArray, List.set_cons_zero, List.set_cons_succ]
                refine wpAnyH_take (i := 7) (oi := ⟨some 68, .indexAddr 23 (.tmp 66) (.tmp 67), 0, "law.go:74", #[⟨5, .data⟩, ⟨6, .data⟩], none⟩) (v := ?_) rfl (by kernel_rfl) (by kernel_rfl) (by kernel_rfl) (fun _ _ _ h => h) (Or.inl ⟨by rfl, ?hyr4x7⟩) (by assumption) ?restr4x7
                case hyr4x7 => intro wq hSw; (go_simp); (try with_reducible rfl)
                try simp only [Act.put, List.setIfInBounds_toArray, List.set_cons_zero, List.set_cons_succ]
                refine wpAnyH_take (i := 8) (oi := ⟨some 69, .fieldAddr 48 (.tmp 68) 1, 0, "law.go:74", #[⟨7, .data⟩], none⟩) (v := ?_) rfl (by kernel_rfl) (by kernel_rfl) (by kernel_rfl) (fun _ _ _ h => h) (Or.inl ⟨by rfl, ?hyr4x8⟩) (by assumption) ?restr4x8
                case hyr4x8 => intro wq hSw; (go_simp); (try with_reducible rfl)
                try simp only [Act.put, List.setIfInBounds_toArray, List.set_cons_zero, List.set_cons_succ]
                refine wpAnyH_take (i := 9) (oi := ⟨some 70, .load 9 (.tmp 69), 9, "law.go:74", #[⟨8, .data⟩], none⟩) (v := ?_) rfl (by kernel_rfl) (by kernel_rfl) (by kernel_rfl) (fun _ _ _ h => h) (Or.inl ⟨by rfl, ?hyr4x9⟩) (by assumption) ?restr4x9
                case hyr4x9 => intro wq hSw; (have cq := Chg.cellv hSw c1 hx1i; go_simp); (try with_reducible rfl)
                try simp only [Act.put, List.setIfInBounds_toArray, List.set_cons_zero, List.set_cons_succ]
                refine wpAnyH_take (i := 10) (oi := ⟨some 71, .binOp .gtr 9 (.tmp 65) (.tmp 70) 9, 4, "law.go:74", #[⟨4, .data⟩, ⟨9, .data⟩], none⟩) (v := ?_) rfl (by kernel_rfl) (by kernel_rfl) (by kernel_rfl) (fun _ _ _ h => h) (Or.inl ⟨by rfl, ?hyr4x10⟩) (by assumption) ?restr4x10
                case hyr4x10 => intro wq hSw; (go_simp); (try with_reducible rfl)
                try simp only [Act.put, List.setIfInBounds_toArray, List.set_cons_zero, List.set_cons_succ]
                refine wpAnyH_take (i := 11) (oi := ⟨some 72, .move (.tmp 71), 4, "law.go:74", #[⟨10, .data⟩], none⟩) (v := ?_) rfl (by kernel_rfl) (by kernel_rfl) (by kernel_rfl) (fun _ _ _ h => h) (Or.inl ⟨by rfl, ?hyr4x11⟩) (by assumption) ?restr4x11
                case hyr4x11 => intro wq hSw; (go_simp); (try with_reducible rfl)
                try simp only [Act.put, List.setIfInBounds_toArray, List.set_cons_zero, List.set_cons_succ]
                refine wpAnyH_take (i := 12) (oi := ⟨some 73, .move (.tmp 6), 23, "law.go:74", #[⟨11, .guard⟩], some (11, true)⟩) (v := ?_) rfl (by kernel_rfl) (by kernel_rfl) (by kernel_rfl) (fun _ _ _ h => h) (Or.inl ⟨by rfl, ?hyr4x12⟩) (by assumption) ?restr4x12
                case hyr4x12 => intro wq hSw; (go_simp); (try with_reducible rfl)
                try simp only [Act.put, List.setIfInBounds_toArray, List.set_cons_zero, List.set_cons_succ]
                refine wpAnyH_take (i := 13) (oi := ⟨some 74, .move (.tmp 13), 3, "law.go:74", #[⟨11, .guard⟩], some (11, true)⟩) (v := ?_) rfl (by kernel_rfl) (by kernel_rfl) (by kernel_rfl) (fun _ _ _ h => h) (Or.inl ⟨by rfl, ?hyr4x13⟩) (by assumption) ?restr4x13
                case hyr4x13 => intro wq hSw; (go_simp); (try with_reducible rfl)
                try simp only [Act.put, List.setIfInBounds_toArray, List.set_cons_zero, List.set_cons_succ]
                refine wpAnyH_take (i := 14) (oi := ⟨some 75, .indexAddr 23 (.tmp 73) (.tmp 74), 0, "law.go:74", #[⟨12, .data⟩, ⟨13, .data⟩, ⟨11, .guard⟩], some (11, true)⟩) (v := ?_) rfl (by kernel_rfl) (by kernel_rfl) (by kernel_rfl) (fun _ _ _ h => h) (Or.inl ⟨by rfl, ?hyr4x14⟩) (by assumption) ?restr4x14
                case hyr4x14 => intro wq hSw; (go_simp); (try with_reducible rfl)
                try simp only [Act.put, List.setIfInBounds_toArray, List.set_cons_zero, List.set_cons_succ]
                refine wpAnyH_take (i := 15) (oi := ⟨some 76, .fieldAddr 48 (.tmp 75) 2, 0, "law.go:74", #[⟨14, .data⟩, ⟨11, .guard⟩], some (11, true)⟩) (v := ?_) rfl (by kernel_rfl) (by kernel_rfl) (by kernel_rfl) (fun _ _ _ h => h) (Or.inl ⟨by rfl, ?hyr4x15⟩) (by assumption) ?restr4x15
                case hyr4x15 => intro wq hSw; (go_simp); (try with_reducible rfl)
                try simp only [Act.put, List.setIfInBounds_toArray, List.set_cons_zero, List.set_cons_succ]
                refine wpAnyH_take (i := 16) (oi := ⟨some 77, .load 46 (.tmp 76), 46, "law.go:74", #[⟨15, .data⟩, ⟨11, .guard⟩], some (11, true)⟩) (v := ?_) rfl (by kernel_rfl) (by kernel_rfl) (by kernel_rfl) (fun _ _ _ h => h) (Or.inl ⟨by rfl, ?hyr4x16⟩) (by assumption) ?restr4x16
                case hyr4x16 => intro wq hSw; (have cq := Chg.cellv hSw f2 hx5; go_simp); (try with_reducible rfl)
                try simp only [Act.put, List.setIfInBounds_toArray, List.set_cons_zero, List.set_cons_succ]
                refine wpAnyH_take (i := 17) (oi := ⟨some 78, .move (.tmp 6), 23, "law.go:74", #[⟨11, .guard⟩], some (11, true)⟩) (v := ?_) rfl (by kernel_rfl) (by kernel_rfl) (by kernel_rfl) (fun _ _ _ h => h) (Or.inl ⟨by rfl, ?hyr4x17⟩) (by assumption) ?restr4x17
                case hyr4x17 => intro wq hSw; (go_simp); (try with_reducible rfl)
                try simp only [Act.put, List.setIfInBounds_toArray, List.set_cons_zero, List.set_cons_succ]
                refine wpAnyH_take (i := 18) (oi := ⟨some 79, .move (.tmp 8), 3, "law.go:74", #[⟨11, .guard⟩], some (11, true)⟩) (v := ?_) rfl (by kernel_rfl) (by kernel_rfl) (by kernel_rfl) (fun _ _ _ h => h) (Or.inl ⟨by rfl, ?hyr4x18⟩) (by assumption) ?restr4x18
                case hyr4x18 => intro wq hSw; (go_simp); (try with_reducible rfl)
                try simp only [Act.put, List.setIfInBounds_toArray, List.set_cons_zero, List.set_cons_succ]
                refine wpAnyH_take (i := 19) (oi := ⟨some 80, .indexAddr 23 (.tmp 78) (.tmp 79), 0, "law.go:74", #[⟨17, .data⟩, ⟨18, .data⟩, ⟨11, .guard⟩], some (11, true)⟩) (v := ?_) rfl (by kernel_rfl) (by kernel_rfl) (by kernel_rfl) (fun _ _ _ h => h) (Or.inl ⟨by rfl, ?hyr4x19⟩) (by assumption) ?restr4x19
                case hyr4x19 => intro wq hSw; (go_simp); (try with_reducible rfl)
                try simp only [Act.put, List.setIfInBounds_toArray, List.set_cons_zero, List.set_cons_succ]
                refine wpAnyH_take (i := 20) (oi := ⟨some 81, .fieldAddr 48 (.tmp 80) 2, 0, "law.go:74", #[⟨19, .data⟩, ⟨11, .guard⟩], some (11, true)⟩) (v := ?_) rfl (by kernel_rfl) (by kernel_rfl) (by kernel_rfl) (fun _ _ _ h => h) (Or.inl ⟨by rfl, ?hyr4x20⟩) (by assumption) ?restr4x20
                case hyr4x20 => intro wq hSw; (go_simp); (try with_reducible rfl)
                try simp only [Act.put, List.setIfInBounds_toArray, List.set_cons_zero, List.set_cons_succ]
                refine wpAnyH_take (i := 21) (oi := ⟨some 82, .load 46 (.tmp 81), 46, "law.go:74", #[⟨20, .data⟩, ⟨11, .guard⟩], some (11, true)⟩) (v := ?_) rfl (by kernel_rfl) (by kernel_rfl) (by kernel_rfl) (fun _ _ _ h => h) (Or.inl ⟨by rfl, ?hyr4x21⟩) (by assumption) ?restr4x21
                case hyr4x21 => intro wq hSw; (have cq := Chg.cellv hSw c2 hx1i; go_simp); (try with_reducible rfl)
                try simp only [Act.put, List.setIfInBounds_toArray, List.set_cons_zero, List.set_cons_succ]
                refine wpAnyH_take (i := 22) (oi := ⟨some 83, .move (.tmp 7), 3, "law.go:74", #[⟨11, .guard⟩], some (11, true)⟩) (v := ?_) rfl (by kernel_rfl) (by kernel_rfl) (by kernel_rfl) (fun _ _ _ h => h) (Or.inl ⟨by rfl, ?hyr4x22⟩) (by assumption) ?restr4x22
                case hyr4x22 => intro wq hSw; (go_simp); (try with_reducible rfl)
                try simp only [Act.put, List.setIfInBounds_toArray, List.set_cons_zero, List.set_cons_succ]
                refine wpAnyH_ready (rs := [23]) (by kernel_rfl) (by simp) ?_
                refine AllReadyH.cons (o := ⟨some 84, .call { callee := .value (.func 29), args := #[.tmp 77, .tmp 82, .tmp 83], argTypes := #[46, 46, 3] }, 4, "law.go:74", #[⟨16, .data⟩, ⟨21, .data⟩, ⟨22, .data⟩, ⟨11, .chain⟩, ⟨11, .guard⟩], some (11, true)⟩) rfl (fun K hK => ?_) AllReadyH.nil
                go_simp
                (with_reducible refine (same_rE _ _ _ _ hzw hxw).mono ?_)
                rintro e v1 ⟨rfl, kk⟩
                rw [hsm]
                replace kk : Ex wi.drew v1 := kk
                have f1' := Chg.cellv kk f1 hx5
                have rk' := Chg.cellv kk rk hg2i
                have hx5' := Nat.lt_of_lt_of_le hx5 kk.size
                have hg2' := Nat.lt_of_lt_of_le hg2i kk.size
                refine hK.out _ _ kk (fun _ => ?_)
                clear hK K
                try simp only [Act.put, List.setIfInBounds_toArray, List.set_cons_zero, List.set_cons_succ]
                refine wpAnyH_switch (S' := Ex v1) (fun _ hSw => Ex.nx kk hSw) ?_
                clear hHeld
                have hHeld := Ex.refl v1
                refine wpAnyH_take (i := 24) (oi := ⟨some 85, .pick (.tmp 72) (.tmp 84) (.const (.bool false)), 4, "law.go:74", #[⟨11, .data⟩, ⟨23, .data⟩], none⟩) (v := ?_) rfl (by kernel_rfl) (by kernel_rfl) (by kernel_rfl) (fun _ _ _ h => h) (Or.inl ⟨by rfl, ?hyr4x24⟩) (by assumption) ?restr4x24
                case hyr4x24 => intro wq hSw; (go_simp); (try with_reducible rfl)
                try simp only [Act.put, List.setIfInBounds_toArray, List.set_cons_zero, List.set_cons_succ]
                refine wpAnyH_take (i := 25) (oi := ⟨some 86, .move (.tmp 85), 4, "law.go:74", #[⟨24, .data⟩, ⟨23, .chain⟩], none⟩) (v := ?_) rfl (by kernel_rfl) (by kernel_rfl) (by kernel_rfl) (fun _ _ _ h => h) (Or.inl ⟨by rfl, ?hyr4x25⟩) (by assumption) ?restr4x25
                case hyr4x25 => intro wq hSw; (go_simp); (try with_reducible rfl)
                try simp only [Act.put, List.setIfInBounds_toArray, List.set_cons_zero, List.set_cons_succ]
                refine wpAnyH_take (i := 26) (oi := ⟨some 87, .move (.tmp 12), 4, "law.go:74", #[⟨25, .guard⟩], some (25, true)⟩) (v := ?_) rfl (by kernel_rfl) (by kernel_rfl) (by kernel_rfl) (fun _ _ _ h => h) (Or.inl ⟨by rfl, ?hyr4x26⟩) (by assumption) ?restr4x26
                case hyr4x26 => intro wq hSw; (go_simp); (try with_reducible rfl)
                try simp only [Act.put, List.setIfInBounds_toArray, List.set_cons_zero, List.set_cons_succ]
                refine wpAnyH_take (i := 27) (oi := ⟨some 88, .unOp .not 4 (.tmp 87), 4, "law.go:74", #[⟨26, .data⟩, ⟨25, .guard⟩], some (25, true)⟩) (v := ?_) rfl (by kernel_rfl) (by kernel_rfl) (by kernel_rfl) (fun _ _ _ h => h) (Or.inl ⟨by rfl, ?hyr4x27⟩) (by assumption) ?restr4x27
                case hyr4x27 => intro wq hSw; (go_simp); (try with_reducible rfl)
                try simp only [Act.put, List.setIfInBounds_toArray, List.set_cons_zero, List.set_cons_succ]
                refine wpAnyH_take (i := 28) (oi := ⟨some 89, .move (.tmp 88), 4, "law.go:74", #[⟨27, .data⟩, ⟨25, .chain⟩, ⟨25, .guard⟩], some (25, true)⟩) (v := ?_) rfl (by kernel_rfl) (by kernel_rfl) (by kernel_rfl) (fun _ _ _ h => h) (Or.inl ⟨by rfl, ?hyr4x28⟩) (by assumption) ?restr4x28
                case hyr4x28 => intro wq hSw; (go_simp); (try with_reducible rfl)
                try simp only [Act.put, List.setIfInBounds_toArray, List.set_cons_zero, List.set_cons_succ]
                refine wpAnyH_take (i := 29) (oi := ⟨some 90, .move (.tmp 6), 23, "law.go:74", #[⟨28, .guard⟩], some (28, false)⟩) (v := ?_) rfl (by kernel_rfl) (by kernel_rfl) (by kernel_rfl) (fun _ _ _ h => h) (Or.inl ⟨by rfl, ?hyr4x29⟩) (by assumption) ?restr4x29
                case hyr4x29 => intro wq hSw; (go_simp); (try with_reducible rfl)
                try simp only [Act.put, List.setIfInBounds_toArray, List.set_cons_zero, List.set_cons_succ]
                refine wpAnyH_take (i := 30) (oi := ⟨some 91, .move (.tmp 13), 3, "law.go:74", #[⟨28, .guard⟩], some (28, false)⟩) (v := ?_) rfl (by kernel_rfl) (by kernel_rfl) (by kernel_rfl) (fun _ _ _ h => h) (Or.inl ⟨by rfl, ?hyr4x30⟩) (by assumption) ?restr4x30
                case hyr4x30 => intro wq hSw; (go_simp); (try with_reducible rfl)
                try simp only [Act.put, List.setIfInBounds_toArray, List.set_cons_zero, List.set_cons_succ]
                refine wpAnyH_take (i := 31) (oi := ⟨some 92, .indexAddr 23 (.tmp 90) (.tmp 91), 0, "law.go:74", #[⟨29, .data⟩, ⟨30, .data⟩, ⟨28, .guard⟩], some (28, false)⟩) (v := ?_) rfl (by kernel_rfl) (by kernel_rfl) (by kernel_rfl) (fun _ _ _ h => h) (Or.inl ⟨by rfl, ?hyr4x31⟩) (by assumption) ?restr4x31
                case hyr4x31 => intro wq hSw; (go_simp); (try with_reducible rfl)
                try simp only [Act.put, List.setIfInBounds_toArray, List.set_cons_zero, List.set_cons_succ]
                refine wpAnyH_take (i := 32) (oi := ⟨some 93, .fieldAddr 48 (.tmp 92) 1, 0, "law.go:74", #[⟨31, .data⟩, ⟨28, .guard⟩], some (28, false)⟩) (v := ?_) rfl (by kernel_rfl) (by kernel_rfl) (by kernel_rfl) (fun _ _ _ h => h) (Or.inl ⟨by rfl, ?hyr4x32⟩) (by assumption) ?restr4x32
                case hyr4x32 => intro wq hSw; (go_simp); (try with_reducible rfl)
                try simp only [Act.put, List.setIfInBounds_toArray, List.set_cons_zero, List.set_cons_succ]
                refine wpAnyH_take (i := 33) (oi := ⟨some 94, .load 9 (.tmp 93), 9, "law.go:74", #[⟨32, .data⟩, ⟨28, .guard⟩], some (28, false)⟩) (v := ?_) rfl (by kernel_rfl) (by kernel_rfl) (by kernel_rfl) (fun _ _ _ h => h) (Or.inl ⟨by rfl, ?hyr4x33⟩) (by assumption) ?restr4x33
                case hyr4x33 => intro wq hSw; (have cq := Chg.cellv hSw f1' hx5'; go_simp); (try with_reducible rfl)
                try simp only [Act.put, List.setIfInBounds_toArray, List.set_cons_zero, List.set_cons_succ]
                refine wpAnyH_take (i := 34) (oi := ⟨some 95, .fieldAddr 48 (.tmp 11) 1, 0, "law.go:74", #[⟨28, .guard⟩], some (28, false)⟩) (v := ?_) rfl (by kernel_rfl) (by kernel_rfl) (by kernel_rfl) (fun _ _ _ h => h) (Or.inl ⟨by rfl, ?hyr4x34⟩) (by assumption) ?restr4x34
                case hyr4x34 => intro wq hSw; (go_simp); (try with_reducible rfl)
                try simp only [Act.put, List.setIfInBounds_toArray, List.set_cons_zero, List.set_cons_succ]
                refine wpAnyH_take (i := 35) (oi := ⟨some 96, .load 9 (.tmp 95), 9, "law.go:74", #[⟨34, .data⟩, ⟨28, .guard⟩], some (28, false)⟩) (v := ?_) rfl (by kernel_rfl) (by kernel_rfl) (by kernel_rfl) (fun _ _ _ h => h) (Or.inl ⟨by rfl, ?hyr4x35⟩) (by assumption) ?restr4x35
                case hyr4x35 => intro wq hSw; (have cq := Chg.cellv hSw rk' hg2'; go_simp); (try with_reducible rfl)
                try simp only [Act.put, List.setIfInBounds_toArray, List.set_cons_zero, List.set_cons_succ]
                refine wpAnyH_take (i := 36) (oi := ⟨some 97, .binOp .lss 9 (.tmp 94) (.tmp 96) 9, 4, "law.go:74", #[⟨33, .data⟩, ⟨35, .data⟩, ⟨28, .guard⟩], some (28, false)⟩) (v := ?_) rfl (by kernel_rfl) (by kernel_rfl) (by kernel_rfl) (fun _ _ _ h => h) (Or.inl ⟨by rfl, ?hyr4x36⟩) (by assumption) ?restr4x36
                case hyr4x36 => intro wq hSw; (go_simp); (try with_reducible rfl)
                try simp only [Act.put, List.setIfInBounds_toArray, List.set_cons_zero, List.set_cons_succ]
                refine wpAnyH_take (i := 37) (oi := ⟨some 98, .pick (.tmp 89) (.const (.bool true)) (.tmp 97), 4, "law.go:74", #[⟨28, .data⟩, ⟨36, .data⟩, ⟨25, .guard⟩], some (25, true)⟩) (v := ?_) rfl (by kernel_rfl) (by kernel_rfl) (by kernel_rfl) (fun _ _ _ h => h) (Or.inl ⟨by rfl, ?hyr4x37⟩) (by assumption) ?restr4x37
                case hyr4x37 => intro wq hSw; (go_simp); (try with_reducible rfl)
                try simp only [Act.put, List.setIfInBounds_toArray, List.set_cons_zero, List.set_cons_succ]
                refine wpAnyH_take (i := 38) (oi := ⟨some 99, .pick (.tmp 86) (.tmp 98) (.const (.bool false)), 4, "law.go:74", #[⟨25, .data⟩, ⟨37, .data⟩], none⟩) (v := ?_) rfl (by kernel_rfl) (by kernel_rfl) (by kernel_rfl) (fun _ _ _ h => h) (Or.inl ⟨by rfl, ?hyr4x38⟩) (by assumption) ?restr4x38
                case hyr4x38 => intro wq hSw; (go_simp); (try with_reducible rfl)
                try simp only [Act.put, List.setIfInBounds_toArray, List.set_cons_zero, List.set_cons_succ]
                refine wpAnyH_done (by kernel_rfl) ?_ _
                have ki2 := Lib.hid (ki.nx ((Ex.refl wi).drew.nx kk))
                clear ki f1 f2 c1 c2 rk
                go_wp2_with fail
                exact ⟨⟨j + 1, by omega, by go_num, ki2.out⟩, by simp [intOf]; omega⟩
              | false =>
                clear t1 t3 m3
                go_wp2_with fail
                refine wp_region_held_drew (S := Ex wi.drew) (by kernel_rfl) (Ex.refl _) (fun hHeld => ?_)
                refine wpAnyH_take (i := 0) (oi := ⟨some 61, .move (.tmp 6), 23, "law.go:74", #[], none⟩) (v := ?_) rfl (by kernel_rfl) (by kernel_rfl) (by kernel_rfl) (fun _ _ _ h => h) (Or.inl ⟨by rfl, ?hyr5x0⟩) (by assumption) ?restr5x0
                case hyr5x0 => intro wq hSw; (go_simp); (try with_reducible rfl)
                try simp only [Act.put, List.setIfInBounds_toArray, List.set_cons_zero, List.set_cons_succ]
                refine wpAnyH_take (i := 1) (oi := ⟨some 62, .move (.tmp 13), 3, "law.go:74", #[], none⟩) (v := ?_) rfl (by kernel_rfl) (by kernel_rfl) (by kernel_rfl) (fun _ _ _ h => h) (Or.inl ⟨by rfl, ?hyr5x1⟩) (by assumption) ?restr5x1
                case hyr5x1 => intro wq hSw; (go_simp); (try with_reducible rfl)
                try simp only [Act.put, List.setIfInBounds_toArray, List.set_cons_zero, List.set_cons_succ]
                refine wpAnyH_take (i := 2) (oi := ⟨some 63, .indexAddr 23 (.tmp 61) (.tmp 62), 0, "law.go:74", #[⟨0, .data⟩, ⟨1, .data⟩], none⟩) (v := ?_) rfl (by kernel_rfl) (by kernel_rfl) (by kernel_rfl) (fun _ _ _ h => h) (Or.inl ⟨by rfl, ?hyr5x2⟩) (by assumption) ?restr5x2
                case hyr5x2 => intro wq hSw; (go_simp); (try with_reducible rfl)
                try simp only [Act.put, List.setIfInBounds_toArray, List.set_cons_zero, List.set_cons_succ]
                refine wpAnyH_take (i := 3) (oi := ⟨some 64, .fieldAddr 48 (.tmp 63) 1, 0, "law.go:74", #[⟨2, .data⟩], none⟩) (v := ?_) rfl (by kernel_rfl) (by kernel_rfl) (by kernel_rfl) (fun _ _ _ h => h) (Or.inl ⟨by rfl, ?hyr5x3⟩) (by assumption) ?restr5x3
                case hyr5x3 => intro wq hSw; (go_simp); (try with_reducible rfl)
                try simp only [Act.put, List.setIfInBounds_toArray, List.set_cons_zero, List.set_cons_succ]
                refine wpAnyH_take (i := 4) (oi := ⟨some 65, .load 9 (.tmp 64), 9, "law.go:74", #[⟨3, .data⟩], none⟩) (v := ?_) rfl (by kernel_rfl) (by kernel_rfl) (by kernel_rfl) (fun _ _ _ h => h) (Or.inl ⟨by rfl, ?hyr5x4⟩) (by assumption) ?restr5x4
                case hyr5x4 => intro wq hSw; (have cq := Chg.cellv hSw f1 hx5; go_simp); (try with_reducible rfl)
                try simp only [Act.put, List.setIfInBounds_toArray, List.set_cons_zero, List.set_cons_succ]
                refine wpAnyH_take (i := 5) (oi := ⟨some 66, .move (.tmp 6), 23, "law.go:74", #[], none⟩) (v := ?_) rfl (by kernel_rfl) (by kernel_rfl) (by kernel_rfl) (fun _ _ _ h => h) (Or.inl ⟨by rfl, ?hyr5x5⟩) (by assumption) ?restr5x5
                case hyr5x5 => intro wq hSw; (go_simp); (try with_reducible rfl)
                try simp only [Act.put, List.setIfInBounds_toArray, List.set_cons_zero, List.set_cons_succ]
                refine wpAnyH_take (i := 6) (oi := ⟨some 67, .move (.tmp 8), 3, "law.go:74", #[], none⟩) (v := ?_) rfl (by kernel_rfl) (by kernel_rfl) (by kernel_rfl) (fun _ _ _ h => h) (Or.inl ⟨by rfl, ?hyr5x6⟩) (by assumption) ?restr5x6
                case hyr5x6 => intro wq hSw; (go_simp); (try with_reducible rfl)
                try simp only [Act.put, List.setIfInBounds_toArray, List.set_cons_zero, List.set_cons_succ]
                refine wpAnyH_take (i := 7) (oi := ⟨some 68, .indexAddr 23 (.tmp 66) (.tmp 67), 0, "law.go:74", #[⟨5, .data⟩, ⟨6, .data⟩], none⟩) (v := ?_) rfl (by kernel_rfl) (by kernel_rfl) (by kernel_rfl) (fun _ _ _ h => h) (Or.inl ⟨by rfl, ?hyr5x7⟩) (by assumption) ?restr5x7
                case hyr5x7 => intro wq hSw; (go_simp); (try with_reducible rfl)
                try simp only [Act.put, List.setIfInBounds_toArray, List.set_cons_zero, List.set_cons_succ]
                refine wpAnyH_take (i := 8) (oi := ⟨some 69, .fieldAddr 48 (.tmp 68) 1, 0, "law.go:74", #[⟨7, .data⟩], none⟩) (v := ?_) rfl (by kernel_rfl) (by kernel_rfl) (by kernel_rfl) (fun _ _ _ h => h) (Or.inl ⟨by rfl, ?hyr5x8⟩) (by assumption) ?restr5x8
                case hyr5x8 => intro wq hSw; (go_simp); (try with_reducible rfl)
                try simp only [Act.put, List.setIfInBounds_toArray, List.set_cons_zero, List.set_cons_succ]
                refine wpAnyH_take (i := 9) (oi := ⟨some 70, .load 9 (.tmp 69), 9, "law.go:74", #[⟨8, .data⟩], none⟩) (v := ?_) rfl (by kernel_rfl) (by kernel_rfl) (by kernel_rfl) (fun _ _ _ h => h) (Or.inl ⟨by rfl, ?hyr5x9⟩) (by assumption) ?restr5x9
                case hyr5x9 => intro wq hSw; (have cq := Chg.cellv hSw c1 hx1i; go_simp); (try with_reducible rfl)
                try simp only [Act.put, List.setIfInBounds_toArray, List.set_cons_zero, List.set_cons_succ]
                refine wpAnyH_take (i := 10) (oi := ⟨some 71, .binOp .gtr 9 (.tmp 65) (.tmp 70) 9, 4, "law.go:74", #[⟨4, .data⟩, ⟨9, .data⟩], none⟩) (v := ?_) rfl (by kernel_rfl) (by kernel_rfl) (by kernel_rfl) (fun _ _ _ h => h) (Or.inl ⟨by rfl, ?hyr5x10⟩) (by assumption) ?restr5x10
                case hyr5x10 => intro wq hSw; (go_simp); (try with_reducible rfl)
                try simp only [Act.put, List.setIfInBounds_toArray, List.set_cons_zero, List.set_cons_succ]
                refine wpAnyH_take (i := 11) (oi := ⟨some 72, .move (.tmp 71), 4, "law.go:74", #[⟨10, .data⟩], none⟩) (v := ?_) rfl (by kernel_rfl) (by kernel_rfl) (by kernel_rfl) (fun _ _ _ h => h) (Or.inl ⟨by rfl, ?hyr5x11⟩) (by assumption) ?restr5x11
                case hyr5x11 => intro wq hSw; (go_simp); (try with_reducible rfl)
                try simp only [Act.put, List.setIfInBounds_toArray, List.set_cons_zero, List.set_cons_succ]
                refine wpAnyH_take (i := 12) (oi := ⟨some 73, .move (.tmp 6), 23, "law.go:74", #[⟨11, .guard⟩], some (11, true)⟩) (v := ?_) rfl (by kernel_rfl) (by kernel_rfl) (by kernel_rfl) (fun _ _ _ h => h) (Or.inl ⟨by rfl, ?hyr5x12⟩) (by assumption) ?restr5x12
                case hyr5x12 => intro wq hSw; (go_simp); (try with_reducible rfl)
                try simp only [Act.put, List.setIfInBounds_toArray, List.set_cons_zero, List.set_cons_succ]
                refine wpAnyH_take (i := 13) (oi := ⟨some 74, .move (.tmp 13), 3, "law.go:74", #[⟨11, .guard⟩], some (11, true)⟩) (v := ?_) rfl (by kernel_rfl) (by kernel_rfl) (by kernel_rfl) (fun _ _ _ h => h) (Or.inl ⟨by rfl, ?hyr5x13⟩) (by assumption) ?restr5x13
                case hyr5x13 => intro wq hSw; (go_simp); (try with_reducible rfl)
                try simp only [Act.put, List.setIfInBounds_toArray, List.set_cons_zero, List.set_cons_succ]
                refine wpAnyH_take (i := 14) (oi := ⟨some 75, .indexAddr 23 (.tmp 73) (.tmp 74), 0, "law.go:74", #[⟨12, .data⟩, ⟨13, .data⟩, ⟨11, .guard⟩], some (11, true)⟩) (v := ?_) rfl (by kernel_rfl) (by kernel_rfl) (by kernel_rfl) (fun _ _ _ h => h) (Or.inl ⟨by rfl, ?hyr5x14⟩) (by assumption) ?restr5x14
                case hyr5x14 => intro wq hSw; (go_simp); (try with_reducible rfl)
                try simp only [Act.put, List.setIfInBounds_toArray, List.set_cons_zero, List.set_cons_succ]
                refine wpAnyH_take (i := 15) (oi := ⟨some 76, .fieldAddr 48 (.tmp 75) 2, 0, "law.go:74", #[⟨14, .data⟩, ⟨11, .guard⟩], some (11, true)⟩) (v := ?_) rfl (by kernel_rfl) (by kernel_rfl) (by kernel_rfl) (fun _ _ _ h => h) (Or.inl ⟨by rfl, ?hyr5x15⟩) (by assumption) ?restr5x15
                case hyr5x15 => intro wq hSw; (go_simp); (try with_reducible rfl)
                try simp only [Act.put, List.setIfInBounds_toArray, List.set_cons_zero, List.set_cons_succ]
                refine wpAnyH_take (i := 16) (oi := ⟨some 77, .load 46 (.tmp 76), 46, "law.go:74", #[⟨15, .data⟩, ⟨11, .guard⟩], some (11, true)⟩) (v := ?_) rfl (by kernel_rfl) (by kernel_rfl) (by kernel_rfl) (fun _ _ _ h => h) (Or.inl ⟨by rfl, ?hyr5x16⟩) (by assumption) ?restr5x16
                case hyr5x16 => intro wq hSw; (have cq := Chg.cellv hSw f2 hx5; go_simp); (try with_reducible rfl)
                try simp only [Act.put, List.setIfInBounds_toArray, List.set_cons_zero, List.set_cons_succ]
                refine wpAnyH_take (i := 17) (oi := ⟨some 78, .move (.tmp 6), 23, "law.go:74", #[⟨11, .guard⟩], some (11, true)⟩) (v := ?_) rfl (by kernel_rfl) (by kernel_rfl) (by kernel_rfl) (fun _ _ _ h => h) (Or.inl ⟨by rfl, ?hyr5x17⟩) (by assumption) ?restr5x17
                case hyr5x17 => intro wq hSw; (go_simp); (try with_reducible rfl)
                try simp only [Act.put, List.setIfInBounds_toArray, List.set_cons_zero, List.set_cons_succ]
                refine wpAnyH_take (i := 18) (oi := ⟨some 79, .move (.tmp 8), 3, "law.go:74", #[⟨11, .guard⟩], some (11, true)⟩) (v := ?_) rfl (by kernel_rfl) (by kernel_rfl) (by kernel_rfl) (fun _ _ _ h => h) (Or.inl ⟨by rfl, ?hyr5x18⟩) (by assumption) ?restr5x18
                case hyr5x18 => intro wq hSw; (go_simp); (try with_reducible rfl)
                try simp only [Act.put, List.setIfInBounds_toArray, List.set_cons_zero, List.set_cons_succ]
                refine wpAnyH_take (i := 19) (oi := ⟨some 80, .indexAddr 23 (.tmp 78) (.tmp 79), 0, "law.go:74", #[⟨17, .data⟩, ⟨18, .data⟩, ⟨11, .guard⟩], some (11, true)⟩) (v := ?_) rfl (by kernel_rfl) (by kernel_rfl) (by kernel_rfl) (fun _ _ _ h => h) (Or.inl ⟨by rfl, ?hyr5x19⟩) (by assumption) ?restr5x19
                case hyr5x19 => intro wq hSw; (go_simp); (try with_reducible rfl)
                try simp only [Act.put, List.setIfInBounds_toArray, List.set_cons_zero, List.set_cons_succ]
                refine wpAnyH_take (i := 20) (oi := ⟨some 81, .fieldAddr 48 (.tmp 80) 2, 0, "law.go:74", #[⟨19, .data⟩, ⟨11, .guard⟩], some (11, true)⟩) (v := ?_) rfl (by kernel_rfl) (by kernel_rfl) (by kernel_rfl) (fun _ _ _ h => h) (Or.inl ⟨by rfl, ?hyr5x20⟩) (by assumption) ?restr5x20
                case hyr5x20 => intro wq hSw; (go_simp); (try with_reducible rfl)
                try simp only [Act.put, List.setIfInBounds_toArray, List.set_cons_zero, List.set_cons_succ]
                refine wpAnyH_take (i := 21) (oi := ⟨some 82, .load 46 (.tmp 81), 46, "law.go:74", #[⟨20, .data⟩, ⟨11, .guard⟩], some (11, true)⟩) (v := ?_) rfl (by kernel_rfl) (by kernel_rfl) (by kernel_rfl) (fun _ _ _ h => h) (Or.inl ⟨by rfl, ?hyr5x21⟩) (by assumption) ?restr5x21
                case hyr5x21 => intro wq hSw; (have cq := Chg.cellv hSw c2 hx1i; go_simp); (try with_reducible rfl)
                try simp only [Act.put, List.setIfInBounds_toArray, List.set_cons_zero, List.set_cons_succ]
                refine wpAnyH_take (i := 22) (oi := ⟨some 83, .move (.tmp 7), 3, "law.go:74", #[⟨11, .guard⟩], some (11, true)⟩) (v := ?_) rfl (by kernel_rfl) (by kernel_rfl) (by kernel_rfl) (fun _ _ _ h => h) (Or.inl ⟨by rfl, ?hyr5x22⟩) (by assumption) ?restr5x22
                case hyr5x22 => intro wq hSw; (go_simp); (try with_reducible rfl)
                try simp only [Act.put, List.setIfInBounds_toArray, List.set_cons_zero, List.set_cons_succ]
                refine wpAnyH_ready (rs := [23]) (by kernel_rfl) (by simp) ?_
                refine AllReadyH.cons (o := ⟨some 84, .call { callee := .value (.func 29), args := #[.tmp 77, .tmp 82, .tmp 83], argTypes := #[46, 46, 3] }, 4, "law.go:74", #[⟨16, .data⟩, ⟨21, .data⟩, ⟨22, .data⟩, ⟨11, .chain⟩, ⟨11, .guard⟩], some (11, true)⟩) rfl (fun K hK => ?_) AllReadyH.nil
                go_simp
                (with_reducible refine (same_rE _ _ _ _ hzw hxw).mono ?_)
                rintro e v1 ⟨rfl, kk⟩
                rw [hsm]
                replace kk : Ex wi.drew v1 := kk
                refine hK.out _ _ kk (fun _ => ?_)
                clear hK K
                try simp only [Act.put, List.setIfInBounds_toArray, List.set_cons_zero, List.set_cons_succ]
                refine wpAnyH_switch (S' := Ex v1) (fun _ hSw => Ex.nx kk hSw) ?_
                clear hHeld
                have hHeld := Ex.refl v1
                refine wpAnyH_take (i := 24) (oi := ⟨some 85, .pick (.tmp 72) (.tmp 84) (.const (.bool false)), 4, "law.go:74", #[⟨11, .data⟩, ⟨23, .data⟩], none⟩) (v := ?_) rfl (by kernel_rfl) (by kernel_rfl) (by kernel_rfl) (fun _ _ _ h => h) (Or.inl ⟨by rfl, ?hyr5x24⟩) (by assumption) ?restr5x24
                case hyr5x24 => intro wq hSw; (go_simp); (try with_reducible rfl)
                try simp only [Act.put, List.setIfInBounds_toArray, List.set_cons_zero, List.set_cons_succ]
                refine wpAnyH_take (i := 25) (oi := ⟨some 86, .move (.tmp 85), 4, "law.go:74", #[⟨24, .data⟩, ⟨23, .chain⟩], none⟩) (v := ?_) rfl (by kernel_rfl) (by kernel_rfl) (by kernel_rfl) (fun _ _ _ h => h) (Or.inl ⟨by rfl, ?hyr5x25⟩) (by assumption) ?restr5x25
                case hyr5x25 => intro wq hSw; (go_simp); (try with_reducible rfl)
                try simp only [Act.put, List.setIfInBounds_toArray, List.set_cons_zero, List.set_cons_succ]
                refine wpAnyH_take (i := 26) (oi := ⟨some 87, .move (.tmp 12), 4, "law.go:74", #[⟨25, .guard⟩], some (25, true)⟩) (v := undef) rfl (by kernel_rfl) (by kernel_rfl) (by kernel_rfl) (fun _ _ _ h => h) (Or.inr ⟨by rfl, rfl⟩) (by assumption) ?_
                try simp only [Act.put, List.setIfInBounds_toArray, List.set_cons_zero, List.set_cons_succ]
                refine wpAnyH_take (i := 27) (oi := ⟨some 88, .unOp .not 4 (.tmp 87), 4, "law.go:74", #[⟨26, .data⟩, ⟨25, .guard⟩], some (25, true)⟩) (v := undef) rfl (by kernel_rfl) (by kernel_rfl) (by kernel_rfl) (fun _ _ _ h => h) (Or.inr ⟨by rfl, rfl⟩) (by assumption) ?_
                try simp only [Act.put, List.setIfInBounds_toArray, List.set_cons_zero, List.set_cons_succ]
                refine wpAnyH_take (i := 28) (oi := ⟨some 89, .move (.tmp 88), 4, "law.go:74", #[⟨27, .data⟩, ⟨25, .chain⟩, ⟨25, .guard⟩], some (25, true)⟩) (v := undef) rfl (by kernel_rfl) (by kernel_rfl) (by kernel_rfl) (fun _ _ _ h => h) (Or.inr ⟨by rfl, rfl⟩) (by assumption) ?_
                try simp only [Act.put, List.setIfInBounds_toArray, List.set_cons_zero, List.set_cons_succ]
                refine wpAnyH_take (i := 29) (oi := ⟨some 90, .move (.tmp 6), 23, "law.go:74", #[⟨28, .guard⟩], some (28, false)⟩) (v := undef) rfl (by kernel_rfl) (by kernel_rfl) (by kernel_rfl) (fun _ _ _ h => h) (Or.inr ⟨by rfl, rfl⟩) (by assumption) ?_
                try simp only [Act.put, List.setIfInBounds_toArray, List.set_cons_zero, List.set_cons_succ]
                refine wpAnyH_take (i := 30) (oi := ⟨some 91, .move (.tmp 13), 3, "law.go:74", #[⟨28, .guard⟩], some (28, false)⟩) (v := undef) rfl (by kernel_rfl) (by kernel_rfl) (by kernel_rfl) (fun _ _ _ h => h) (Or.inr ⟨by rfl, rfl⟩) (by assumption) ?_
                try simp only [Act.put, List.setIfInBounds_toArray, List.set_cons_zero, List.set_cons_succ]
                refine wpAnyH_take (i := 31) (oi := ⟨some 92, .indexAddr 23 (.tmp 90) (.tmp 91), 0, "law.go:74", #[⟨29, .data⟩, ⟨30, .data⟩, ⟨28, .guard⟩], some (28, false)⟩) (v := undef) rfl (by kernel_rfl) (by kernel_rfl) (by kernel_rfl) (fun _ _ _ h => h) (Or.inr ⟨by rfl, rfl⟩) (by assumption) ?_
                try simp only [Act.put, List.setIfInBounds_toArray, List.set_cons_zero, List.set_cons_succ]
                refine wpAnyH_take (i := 32) (oi := ⟨some 93, .fieldAddr 48 (.tmp 92) 1, 0, "law.go:74", #[⟨31, .data⟩, ⟨28, .guard⟩], some (28, false)⟩) (v := undef) rfl (by kernel_rfl) (by kernel_rfl) (by kernel_rfl) (fun _ _ _ h => h) (Or.inr ⟨by rfl, rfl⟩) (by assumption) ?_
                try simp only [Act.put, List.setIfInBounds_toArray, List.set_cons_zero, List.set_cons_succ]
                refine wpAnyH_take (i := 33) (oi := ⟨some 94, .load 9 (.tmp 93), 9, "law.go:74", #[⟨32, .data⟩, ⟨28, .guard⟩], some (28, false)⟩) (v := undef) rfl (by kernel_rfl) (by kernel_rfl) (by kernel_rfl) (fun _ _ _ h => h) (Or.inr ⟨by rfl, rfl⟩) (by assumption) ?_
                try simp only [Act.put, List.setIfInBounds_toArray, List.set_cons_zero, List.set_cons_succ]
                refine wpAnyH_take (i := 34) (oi := ⟨some 95, .fieldAddr 48 (.tmp 11) 1, 0, "law.go:74", #[⟨28, .guard⟩], some (28, false)⟩) (v := undef) rfl (by kernel_rfl) (by kernel_rfl) (by kernel_rfl) (fun _ _ _ h => h) (Or.inr ⟨by rfl, rfl⟩) (by assumption) ?_
                try simp only [Act.put, List.setIfInBounds_toArray, List.set_cons_zero, List.set_cons_succ]
                refine wpAnyH_take (i := 35) (oi := ⟨some 96, .load 9 (.tmp 95), 9, "law.go:74", #[⟨34, .data⟩, ⟨28, .guard⟩], some (28, false)⟩) (v := undef) rfl (by kernel_rfl) (by kernel_rfl) (by kernel_rfl) (fun _ _ _ h => h) (Or.inr ⟨by rfl, rfl⟩) (by assumption) ?_
                try simp only [Act.put, List.setIfInBounds_toArray, List.set_cons_zero, List.set_cons_succ]
                refine wpAnyH_take (i := 36) (oi := ⟨some 97, .binOp .lss 9 (.tmp 94) (.tmp 96) 9, 4, "law.go:74", #[⟨33, .data⟩, ⟨35, .data⟩, ⟨28, .guard⟩], some (28, false)⟩) (v := undef) rfl (by kernel_rfl) (by kernel_rfl) (by kernel_rfl) (fun _ _ _ h => h) (Or.inr ⟨by rfl, rfl⟩) (by assumption) ?_
                try simp only [Act.put, List.setIfInBounds_toArray, List.set_cons_zero, List.set_cons_succ]
                refine wpAnyH_take (i := 37) (oi := ⟨some 98, .pick (.tmp 89) (.const (.bool true)) (.tmp 97), 4, "law.go:74", #[⟨28, .data⟩, ⟨36, .data⟩, ⟨25, .guard⟩], some (25, true)⟩) (v := undef) rfl (by kernel_rfl) (by kernel_rfl) (by kernel_rfl) (fun _ _ _ h => h) (Or.inr ⟨by rfl, rfl⟩) (by assumption) ?_
                try simp only [Act.put, List.setIfInBounds_toArray, List.set_cons_zero, List.set_cons_succ]
                refine wpAnyH_take (i := 38) (oi := ⟨some 99, .pick (.tmp 86) (.tmp 98) (.const (.bool false)), 4, "law.go:74", #[⟨25, .data⟩, ⟨37, .data⟩], none⟩) (v := ?_) rfl (by kernel_rfl) (by kernel_rfl) (by kernel_rfl) (fun _ _ _ h => h) (Or.inl ⟨by rfl, ?hyr5x38⟩) (by assumption) ?restr5x38
                case hyr5x38 => intro wq hSw; (go_simp); (try with_reducible rfl)
                try simp only [Act.put, List.setIfInBounds_toArray, List.set_cons_zero, List.set_cons_succ]
                refine wpAnyH_done (by kernel_rfl) ?_ _
                have ki2 := Lib.hid (ki.nx ((Ex.refl wi).drew.nx kk))
                clear ki f1 f2 c1 c2 rk
                go_wp2_with fail
                exact ⟨⟨j + 1, by omega, by go_num, ki2.out⟩, by simp [intOf]; omega⟩
            · have q2 : (z.key.toList == x.key.toList) = true := by rw [t1]; simp
              clear t1 t2 m3
              go_wp2_with fail
              refine wp_region_held_drew (S := Ex wi.drew) (by kernel_rfl) (Ex.refl _) (fun hHeld => ?_)
              refine wpAnyH_take (i := 0) (oi := ⟨some 61, .move (.tmp 6), 23, "law.go:74", #[], none⟩) (v := ?_) rfl (by kernel_rfl) (by kernel_rfl) (by kernel_rfl) (fun _ _ _ h => h) (Or.inl ⟨by rfl, ?hyr6x0⟩) (by assumption) ?restr6x0
              case hyr6x0 => intro wq hSw; (go_simp); (try with_reducible rfl)
              try simp only [Act.put, List.setIfInBounds_toArray, List.set_cons_zero, List.set_cons_succ]
              refine wpAnyH_take (i := 1) (oi := ⟨some 62, .move (.tmp 13), 3, "law.go:74", #[], none⟩) (v := ?_) rfl (by kernel_rfl) (by kernel_rfl) (by kernel_rfl) (fun _ _ _ h => h) (Or.inl ⟨by rfl, ?hyr6x1⟩) (by assumption) ?restr6x1
              case hyr6x1 => intro wq hSw; (go_simp); (try with_reducible rfl)
              try simp only [Act.put, List.setIfInBounds_toArray, List.set_cons_zero, List.set_cons_succ]
              refine wpAnyH_take (i := 2) (oi := ⟨some 63, .indexAddr 23 (.tmp 61) (.tmp 62), 0, "law.go:74", #[⟨0, .data⟩, ⟨1, .data⟩], none⟩) (v := ?_) rfl (by kernel_rfl) (by kernel_rfl) (by kernel_rfl) (fun _ _ _ h => h) (Or.inl ⟨by rfl, ?hyr6x2⟩) (by assumption) ?restr6x2
              case hyr6x2 => intro wq hSw; (go_simp); (try with_reducible rfl)
              try simp only [Act.put, List.setIfInBounds_toArray, List.set_cons_zero, List.set_cons_succ]
              refine wpAnyH_take (i := 3) (oi := ⟨some 64, .fieldAddr 48 (.tmp 63) 1, 0, "law.go:74", #[⟨2, .data⟩], none⟩) (v := ?_) rfl (by kernel_rfl) (by kernel_rfl) (by kernel_rfl) (fun _ _ _ h => h) (Or.inl ⟨by rfl, ?hyr6x3⟩) (by assumption) ?restr6x3
              case hyr6x3 => intro wq hSw; (go_simp); (try with_reducible rfl)
              try simp only [Act.put, List.setIfInBounds_toArray, List.set_cons_zero, List.set_cons_succ]
              refine wpAnyH_take (i := 4) (oi := ⟨some 65, .load 9 (.tmp 64), 9, "law.go:74", #[⟨3, .data⟩], none⟩) (v := ?_) rfl (by kernel_rfl) (by kernel_rfl) (by kernel_rfl) (fun _ _ _ h => h) (Or.inl ⟨by rfl, ?hyr6x4⟩) (by assumption) ?restr6x4
              case hyr6x4 => intro wq hSw; (have cq := Chg.cellv hSw f1 hx5; go_simp); (try with_reducible rfl)
              try simp only [Act.put, List.setIfInBounds_toArray, List.set_cons_zero, List.set_cons_succ]
              refine wpAnyH_take (i := 5) (oi := ⟨some 66, .move (.tmp 6), 23, "law.go:74", #[], none⟩) (v := ?_) rfl (by kernel_rfl) (by kernel_rfl) (by kernel_rfl) (fun _ _ _ h => h) (Or.inl ⟨by rfl, ?hyr6x5⟩) (by assumption) ?restr6x5
              case hyr6x5 => intro wq hSw; (go_simp); (try with_reducible rfl)
              try simp only [Act.put, List.setIfInBounds_toArray, List.set_cons_zero, List.set_cons_succ]
              refine wpAnyH_take (i := 6) (oi := ⟨some 67, .move (.tmp 8), 3, "law.go:74", #[], none⟩) (v := ?_) rfl (by kernel_rfl) (by kernel_rfl) (by kernel_rfl) (fun _ _ _ h => h) (Or.inl ⟨by rfl, ?hyr6x6⟩) (by assumption) ?restr6x6
              case hyr6x6 => intro wq hSw; (go_simp); (try with_reducible rfl)
              try simp only [Act.put, List.setIfInBounds_toArray, List.set_cons_zero, List.set_cons_succ]
              refine wpAnyH_take (i := 7) (oi := ⟨some 68, .indexAddr 23 (.tmp 66) (.tmp 67), 0, "law.go:74", #[⟨5, .data⟩, ⟨6, .data⟩], none⟩) (v := ?_) rfl (by kernel_rfl) (by kernel_rfl) (by kernel_rfl) (fun _ _ _ h => h) (Or.inl ⟨by rfl, ?hyr6x7⟩) (by assumption) ?restr6x7
              case hyr6x7 => intro wq hSw; (go_simp); (try with_reducible rfl)
              try simp only [Act.put, List.setIfInBounds_toArray, List.set_cons_zero, List.set_cons_succ]
              refine wpAnyH_take (i := 8) (oi := ⟨some 69, .fieldAddr 48 (.tmp 68) 1, 0, "law.go:74", #[⟨7, .data⟩], none⟩) (v := ?_) rfl (by kernel_rfl) (by kernel_rfl) (by kernel_rfl) (fun _ _ _ h => h) (Or.inl ⟨by rfl, ?hyr6x8⟩) (by assumption) ?restr6x8
              case hyr6x8 => intro wq hSw; (go_simp); (try with_reducible rfl)
              try simp only [Act.put, List.setIfInBounds_toArray, List.set_cons_zero, List.set_cons_succ]
              refine wpAnyH_take (i := 9) (oi := ⟨some 70, .load 9 (.tmp 69), 9, "law.go:74", #[⟨8, .data⟩], none⟩) (v := ?_) rfl (by kernel_rfl) (by kernel_rfl) (by kernel_rfl) (fun _ _ _ h => h) (Or.inl ⟨by rfl, ?hyr6x9⟩) (by assumption) ?restr6x9
              case hyr6x9 => intro wq hSw; (have cq := Chg.cellv hSw c1 hx1i; go_simp); (try with_reducible rfl)
              try simp only [Act.put, List.setIfInBounds_toArray, List.set_cons_zero, List.set_cons_succ]
              refine wpAnyH_take (i := 10) (oi := ⟨some 71, .binOp .gtr 9 (.tmp 65) (.tmp 70) 9, 4, "law.go:74", #[⟨4, .data⟩, ⟨9, .data⟩], none⟩) (v := ?_) rfl (by kernel_rfl) (by kernel_rfl) (by kernel_rfl) (fun _ _ _ h => h) (Or.inl ⟨by rfl, ?hyr6x10⟩) (by assumption) ?restr6x10
              case hyr6x10 => intro wq hSw; (go_simp); (try with_reducible rfl)
              try simp only [Act.put, List.setIfInBounds_toArray, List.set_cons_zero, List.set_cons_succ]
              refine wpAnyH_take (i := 11) (oi := ⟨some 72, .move (.tmp 71), 4, "law.go:74", #[⟨10, .data⟩], none⟩) (v := ?_) rfl (by kernel_rfl) (by kernel_rfl) (by kernel_rfl) (fun _ _ _ h => h) (Or.inl ⟨by rfl, ?hyr6x11⟩) (by assumption) ?restr6x11
              case hyr6x11 => intro wq hSw; (go_simp); (try with_reducible rfl)
              try simp only [Act.put, List.setIfInBounds_toArray, List.set_cons_zero, List.set_cons_succ]
              refine wpAnyH_take (i := 12) (oi := ⟨some 73, .move (.tmp 6), 23, "law.go:74", #[⟨11, .guard⟩], some (11, true)⟩) (v := undef) rfl (by kernel_rfl) (by kernel_rfl) (by kernel_rfl) (fun _ _ _ h => h) (Or.inr ⟨by rfl, rfl⟩) (by assumption) ?_
              try simp only [Act.put, List.setIfInBounds_toArray, List.set_cons_zero, List.set_cons_succ]
              refine wpAnyH_take (i := 13) (oi := ⟨some 74, .move (.tmp 13), 3, "law.go:74", #[⟨11, .guard⟩], some (11, true)⟩) (v := undef) rfl (by kernel_rfl) (by kernel_rfl) (by kernel_rfl) (fun _ _ _ h => h) (Or.inr ⟨by rfl, rfl⟩) (by assumption) ?_
              try simp only [Act.put, List.setIfInBounds_toArray, List.set_cons_zero, List.set_cons_succ]
              refine wpAnyH_take (i := 14) (oi := ⟨some 75, .indexAddr 23 (.tmp 73) (.tmp 74), 0, "law.go:74", #[⟨12, .data⟩, ⟨13, .data⟩, ⟨11, .guard⟩], some (11, true)⟩) (v := undef) rfl (by kernel_rfl) (by kernel_rfl) (by kernel_rfl) (fun _ _ _ h => h) (Or.inr ⟨by rfl, rfl⟩) (by assumption) ?_
              try simp only [Act.put, List.setIfInBounds_toArray, List.set_cons_zero, List.set_cons_succ]
              refine wpAnyH_take (i := 15) (oi := ⟨some 76, .fieldAddr 48 (.tmp 75) 2, 0, "law.go:74", #[⟨14, .data⟩, ⟨11, .guard⟩], some (11, true)⟩) (v := undef) rfl (by kernel_rfl) (by kernel_rfl) (by kernel_rfl) (fun _ _ _ h => h) (Or.inr ⟨by rfl, rfl⟩) (by assumption) ?_
              try simp only [Act.put, List.setIfInBounds_toArray, List.set_cons_zero, List.set_cons_succ]
              refine wpAnyH_take (i := 16) (oi := ⟨some 77, .load 46 (.tmp 76), 46, "law.go:74", #[⟨15, .data⟩, ⟨11, .guard⟩], some (11, true)⟩) (v := undef) rfl (by kernel_rfl) (by kernel_rfl) (by kernel_rfl) (fun _ _ _ h => h) (Or.inr ⟨by rfl, rfl⟩) (by assumption) ?_
              try simp only [Act.put, List.setIfInBounds_toArray, List.set_cons_zero, List.set_cons_succ]
              refine wpAnyH_take (i := 17) (oi := ⟨some 78, .move (.tmp 6), 23, "law.go:74", #[⟨11, .guard⟩], some (11, true)⟩) (v := undef) rfl (by kernel_rfl) (by kernel_rfl) (by kernel_rfl) (fun _ _ _ h => h) (Or.inr ⟨by rfl, rfl⟩) (by assumption) ?_
              try simp only [Act.put, List.setIfInBounds_toArray, List.set_cons_zero, List.set_cons_succ]
              refine wpAnyH_take (i := 18) (oi := ⟨some 79, .move (.tmp 8), 3, "law.go:74", #[⟨11, .guard⟩], some (11, true)⟩) (v := undef) rfl (by kernel_rfl) (by kernel_rfl) (by kernel_rfl) (fun _ _ _ h => h) (Or.inr ⟨by rfl, rfl⟩) (by assumption) ?_
              try simp only [Act.put, List.setIfInBounds_toArray, List.set_cons_zero, List.set_cons_succ]
              refine wpAnyH_take (i := 19) (oi := ⟨some 80, .indexAddr 23 (.tmp 78) (.tmp 79), 0, "law.go:74", #[⟨17, .data⟩, ⟨18, .data⟩, ⟨11, .guard⟩], some (11, true)⟩) (v := undef) rfl (by kernel_rfl) (by kernel_rfl) (by kernel_rfl) (fun _ _ _ h => h) (Or.inr ⟨by rfl, rfl⟩) (by assumption) ?_
              try simp only [Act.put, List.setIfInBounds_toArray, List.set_cons_zero, List.set_cons_succ]
              refine wpAnyH_take (i := 20) (oi := ⟨some 81, .fieldAddr 48 (.tmp 80) 2, 0, "law.go:74", #[⟨19, .data⟩, ⟨11, .guard⟩], some (11, true)⟩) (v := undef) rfl (by kernel_rfl) (by kernel_rfl) (by kernel_rfl) (fun _ _ _ h => h) (Or.inr ⟨by rfl, rfl⟩) (by assumption) ?_
              try simp only [Act.put, List.setIfInBounds_toArray, List.set_cons_zero, List.set_cons_succ]
              refine wpAnyH_take (i := 21) (oi := ⟨some 82, .load 46 (.tmp 81), 46, "law.go:74", #[⟨20, .data⟩, ⟨11, .guard⟩], some (11, true)⟩) (v := undef) rfl (by kernel_rfl) (by kernel_rfl) (by kernel_rfl) (fun _ _ _ h => h) (Or.inr ⟨by rfl, rfl⟩) (by assumption) ?_
              try simp only [Act.put, List.setIfInBounds_toArray, List.set_cons_zero, List.set_cons_succ]
              refine wpAnyH_take (i := 22) (oi := ⟨some 83, .move (.tmp 7), 3, "law.go:74", #[⟨11, .guard⟩], some (11, true)⟩) (v := undef) rfl (by kernel_rfl) (by kernel_rfl) (by kernel_rfl) (fun _ _ _ h => h) (Or.inr ⟨by rfl, rfl⟩) (by assumption) ?_
              try simp only [Act.put, List.setIfInBounds_toArray, List.set_cons_zero, List.set_cons_succ]
              refine wpAnyH_take (i := 23) (oi := ⟨some 84, .call { callee := .value (.func 29), args := #[.tmp 77, .tmp 82, .tmp 83], argTypes := #[46, 46, 3] }, 4, "law.go:74", #[⟨16, .data⟩, ⟨21, .data⟩, ⟨22, .data⟩, ⟨11, .chain⟩, ⟨11, .guard⟩], some (11, true)⟩) (v := undef) rfl (by kernel_rfl) (by kernel_rfl) (by kernel_rfl) (fun _ _ _ h => h) (Or.inr ⟨by rfl, rfl⟩) (by assumption) ?_
              try simp only [Act.put, List.setIfInBounds_toArray, List.set_cons_zero, List.set_cons_succ]
              refine wpAnyH_take (i := 24) (oi := ⟨some 85, .pick (.tmp 72) (.tmp 84) (.const (.bool false)), 4, "law.go:74", #[⟨11, .data⟩, ⟨23, .data⟩], none⟩) (v := ?_) rfl (by kernel_rfl) (by kernel_rfl) (by kernel_rfl) (fun _ _ _ h => h) (Or.inl ⟨by rfl, ?hyr6x24⟩) (by assumption) ?restr6x24
              case hyr6x24 => intro wq hSw; (go_simp); (try with_reducible rfl)
              try simp only [Act.put, List.setIfInBounds_toArray, List.set_cons_zero, List.set_cons_succ]
              refine wpAnyH_take (i := 25) (oi := ⟨some 86, .move (.tmp 85), 4, "law.go:74", #[⟨24, .data⟩, ⟨23, .chain⟩], none⟩) (v := ?_) rfl (by kernel_rfl) (by kernel_rfl) (by kernel_rfl) (fun _ _ _ h => h) (Or.inl ⟨by rfl, ?hyr6x25⟩) (by assumption) ?restr6x25
              case hyr6x25 => intro wq hSw; (go_simp); (try with_reducible rfl)
              try simp only [Act.put, List.setIfInBounds_toArray, List.set_cons_zero, List.set_cons_succ]
              refine wpAnyH_take (i := 26) (oi := ⟨some 87, .move (.tmp 12), 4, "law.go:74", #[⟨25, .guard⟩], some (25, true)⟩) (v := undef) rfl (by kernel_rfl) (by kernel_rfl) (by kernel_rfl) (fun _ _ _ h => h) (Or.inr ⟨by rfl, rfl⟩) (by assumption) ?_
              try simp only [Act.put, List.setIfInBounds_toArray, List.set_cons_zero, List.set_cons_succ]
              refine wpAnyH_take (i := 27) (oi := ⟨some 88, .unOp .not 4 (.tmp 87), 4, "law.go:74", #[⟨26, .data⟩, ⟨25, .guard⟩], some (25, true)⟩) (v := undef) rfl (by kernel_rfl) (by kernel_rfl) (by kernel_rfl) (fun _ _ _ h => h) (Or.inr ⟨by rfl, rfl⟩) (by assumption) ?_
              try simp only [Act.put, List.setIfInBounds_toArray, List.set_cons_zero, List.set_cons_succ]
              refine wpAnyH_take (i := 28) (oi := ⟨some 89, .move (.tmp 88), 4, "law.go:74", #[⟨27, .data⟩, ⟨25, .chain⟩, ⟨25, .guard⟩], some (25, true)⟩) (v := undef) rfl (by kernel_rfl) (by kernel_rfl) (by kernel_rfl) (fun _ _ _ h => h) (Or.inr ⟨by rfl, rfl⟩) (by assumption) ?_
              try simp only [Act.put, List.setIfInBounds_toArray, List.set_cons_zero, List.set_cons_succ]
              refine wpAnyH_take (i := 29) (oi := ⟨some 90, .move (.tmp 6), 23, "law.go:74", #[⟨28, .guard⟩], some (28, false)⟩) (v := undef) rfl (by kernel_rfl) (by kernel_rfl) (by kernel_rfl) (fun _ _ _ h => h) (Or.inr ⟨by rfl, rfl⟩) (by assumption) ?_
              try simp only [Act.put, List.setIfInBounds_toArray, List.set_cons_zero, List.set_cons_succ]
              refine wpAnyH_take (i := 30) (oi := ⟨some 91, .move (.tmp 13), 3, "law.go:74", #[⟨28, .guard⟩], some (28, false)⟩) (v := undef) rfl (by kernel_rfl) (by kernel_rfl) (by kernel_rfl) (fun _ _ _ h => h) (Or.inr ⟨by rfl, rfl⟩) (by assumption) ?_
              try simp only [Act.put, List.setIfInBounds_toArray, List.set_cons_zero, List.set_cons_succ]
              refine wpAnyH_take (i := 31) (oi := ⟨some 92, .indexAddr 23 (.tmp 90) (.tmp 91), 0, "law.go:74", #[⟨29, .data⟩, ⟨30, .data⟩, ⟨28, .guard⟩], some (28, false)⟩) (v := undef) rfl (by kernel_rfl) (by kernel_rfl) (by kernel_rfl) (fun _ _ _ h => h) (Or.inr ⟨by rfl, rfl⟩) (by assumption) ?_
              try simp only [Act.put, List.setIfInBounds_toArray, List.set_cons_zero, List.set_cons_succ]
              refine wpAnyH_take (i := 32) (oi := ⟨some 93, .fieldAddr 48 (.tmp 92) 1, 0, "law.go:74", #[⟨31, .data⟩, ⟨28, .guard⟩], some (28, false)⟩) (v := undef) rfl (by kernel_rfl) (by kernel_rfl) (by kernel_rfl) (fun _ _ _ h => h) (Or.inr ⟨by rfl, rfl⟩) (by assumption) ?_
              try simp only [Act.put, List.setIfInBounds_toArray, List.set_cons_zero, List.set_cons_succ]
              refine wpAnyH_take (i := 33) (oi := ⟨some 94, .load 9 (.tmp 93), 9, "law.go:74", #[⟨32, .data⟩, ⟨28, .guard⟩], some (28, false)⟩) (v := undef) rfl (by kernel_rfl) (by kernel_rfl) (by kernel_rfl) (fun _ _ _ h => h) (Or.inr ⟨by rfl, rfl⟩) (by assumption) ?_
              try simp only [Act.put, List.setIfInBounds_toArray, List.set_cons_zero, List.set_cons_succ]
              refine wpAnyH_take (i := 34) (oi := ⟨some 95, .fieldAddr 48 (.tmp 11) 1, 0, "law.go:74", #[⟨28, .guard⟩], some (28, false)⟩) (v := undef) rfl (by kernel_rfl) (by kernel_rfl) (by kernel_rfl) (fun _ _ _ h => h) (Or.inr ⟨by rfl, rfl⟩) (by assumption) ?_
              try simp only [Act.put, List.setIfInBounds_toArray, List.set_cons_zero, List.set_cons_succ]
              refine wpAnyH_take (i := 35) (oi := ⟨some 96, .load 9 (.tmp 95), 9, "law.go:74", #[⟨34, .data⟩, ⟨28, .guard⟩], some (28, false)⟩) (v := undef) rfl (by kernel_rfl) (by kernel_rfl) (by kernel_rfl) (fun _ _ _ h => h) (Or.inr ⟨by rfl, rfl⟩) (by assumption) ?_
              try simp only [Act.put, List.setIfInBounds_toArray, List.set_cons_zero, List.set_cons_succ]
              refine wpAnyH_take (i := 36) (oi := ⟨some 97, .binOp .lss 9 (.tmp 94) (.tmp 96) 9, 4, "law.go:74", #[⟨33, .data⟩, ⟨35, .data⟩, ⟨28, .guard⟩], some (28, false)⟩) (v := undef) rfl (by kernel_rfl) (by kernel_rfl) (by kernel_rfl) (fun _ _ _ h => h) (Or.inr ⟨by rfl, rfl⟩) (by assumption) ?_
              try simp only [Act.put, List.setIfInBounds_toArray, List.set_cons_zero, List.set_cons_succ]
              refine wpAnyH_take (i := 37) (oi := ⟨some 98, .pick (.tmp 89) (.const (.bool true)) (.tmp 97), 4, "law.go:74", #[⟨28, .data⟩, ⟨36, .data⟩, ⟨25, .guard⟩], some (25, true)⟩) (v := undef) rfl (by kernel_rfl) (by kernel_rfl) (by kernel_rfl) (fun _ _ _ h => h) (Or.inr ⟨by rfl, rfl⟩) (by assumption) ?_
              try simp only [Act.put, List.setIfInBounds_toArray, List.set_cons_zero, List.set_cons_succ]
              refine wpAnyH_take (i := 38) (oi := ⟨some 99, .pick (.tmp 86) (.tmp 98) (.const (.bool false)), 4, "law.go:74", #[⟨25, .data⟩, ⟨37, .data⟩], none⟩) (v := ?_) rfl (by kernel_rfl) (by kernel_rfl) (by kernel_rfl) (fun _ _ _ h => h) (Or.inl ⟨by rfl, ?hyr6x38⟩) (by assumption) ?restr6x38
              case hyr6x38 => intro wq hSw; (go_simp); (try with_reducible rfl)
              try simp only [Act.put, List.setIfInBounds_toArray, List.set_cons_zero, List.set_cons_succ]
              refine wpAnyH_done (by kernel_rfl) ?_ _
              have ki2 := Lib.hid (ki.nx (Ex.refl wi).drew)
              clear ki f1 f2 c1 c2 rk
              go_wp2_with fail
              exact ⟨⟨j + 1, by omega, by go_num, ki2.out⟩, by simp [intOf]; omega⟩
            · have q2 : (z.key.toList == x.key.toList) = false := by rw [beq_eq_false_iff_ne]; exact fun h => t3 h.symm
              clear t2 t3 m3
              go_wp2_with fail
              refine wp_region_held_drew (S := Ex wi.drew) (by kernel_rfl) (Ex.refl _) (fun hHeld => ?_)
              refine wpAnyH_take (i := 0) (oi := ⟨some 61, .move (.tmp 6), 23, "law.go:74", #[], none⟩) (v := ?_) rfl (by kernel_rfl) (by kernel_rfl) (by kernel_rfl) (fun _ _ _ h => h) (Or.inl ⟨by rfl, ?hyr7x0⟩) (by assumption) ?restr7x0
              case hyr7x0 => intro wq hSw; (go_simp); (try with_reducible rfl)
              try simp only [Act.put, List.setIfInBounds_toArray, List.set_cons_zero, List.set_cons_succ]
              refine wpAnyH_take (i := 1) (oi := ⟨some 62, .move (.tmp 13), 3, "law.go:74", #[], none⟩) (v := ?_) rfl (by kernel_rfl) (by kernel_rfl) (by kernel_rfl) (fun _ _ _ h => h) (Or.inl ⟨by rfl, ?hyr7x1⟩) (by assumption) ?restr7x1
              case hyr7x1 => intro wq hSw; (go_simp); (try with_reducible rfl)
              try simp only [Act.put, List.setIfInBounds_toArray, List.set_cons_zero, List.set_cons_succ]
              refine wpAnyH_take (i := 2) (oi := ⟨some 63, .indexAddr 23 (.tmp 61) (.tmp 62), 0, "law.go:74", #[⟨0, .data⟩, ⟨1, .data⟩], none⟩) (v := ?_) rfl (by kernel_rfl) (by kernel_rfl) (by kernel_rfl) (fun _ _ _ h => h) (Or.inl ⟨by rfl, ?hyr7x2⟩) (by assumption) ?restr7x2
              case hyr7x2 => intro wq hSw; (go_simp); (try with_reducible rfl)
              try simp only [Act.put, List.setIfInBounds_toArray, List.set_cons_zero, List.set_cons_succ]
              refine wpAnyH_take (i := 3) (oi := ⟨some 64, .fieldAddr 48 (.tmp 63) 1, 0, "law.go:74", #[⟨2, .data⟩], none⟩) (v := ?_) rfl (by kernel_rfl) (by kernel_rfl) (by kernel_rfl) (fun _ _ _ h => h) (Or.inl ⟨by rfl, ?hyr7x3⟩) (by assumption) ?restr7x3
              case hyr7x3 => intro wq hSw; (go_simp); (try with_reducible rfl)
              try simp only [Act.put, List.setIfInBounds_toArray, List.set_cons_zero, List.set_cons_succ]
              refine wpAnyH_take (i := 4) (oi := ⟨some 65, .load 9 (.tmp 64), 9, "law.go:74", #[⟨3, .data⟩], none⟩) (v := ?_) rfl (by kernel_rfl) (by kernel_rfl) (by kernel_rfl) (fun _ _ _ h => h) (Or.inl ⟨by rfl, ?hyr7x4⟩) (by assumption) ?restr7x4
              case hyr7x4 => intro wq hSw; (have cq := Chg.cellv hSw f1 hx5; go_simp); (try with_reducible rfl)
              try simp only [Act.put, List.setIfInBounds_toArray, List.set_cons_zero, List.set_cons_succ]
              refine wpAnyH_take (i := 5) (oi := ⟨some 66, .move (.tmp 6), 23, "law.go:74", #[], none⟩) (v := ?_) rfl (by kernel_rfl) (by kernel_rfl) (by kernel_rfl) (fun _ _ _ h => h) (Or.inl ⟨by rfl, ?hyr7x5⟩) (by assumption) ?restr7x5
              case hyr7x5 => intro wq hSw; (go_simp); (try with_reducible rfl)
              try simp only [Act.put, List.setIfInBounds_toArray, List.set_cons_zero, List.set_cons_succ]
              refine wpAnyH_take (i := 6) (oi := ⟨some 67, .move (.tmp 8), 3, "law.go:74", #[], none⟩) (v := ?_) rfl (by kernel_rfl) (by kernel_rfl) (by kernel_rfl) (fun _ _ _ h => h) (Or.inl ⟨by rfl, ?hyr7x6⟩) (by assumption) ?restr7x6
              case hyr7x6 => intro wq hSw; (go_simp); (try with_reducible rfl)
              try simp only [Act.put, List.setIfInBounds_toArray, List.set_cons_zero, List.set_cons_succ]
              refine wpAnyH_take (i := 7) (oi := ⟨some 68, .indexAddr 23 (.tmp 66) (.tmp 67), 0, "law.go:74", #[⟨5, .data⟩, ⟨6, .data⟩], none⟩) (v := ?_) rfl (by kernel_rfl) (by kernel_rfl) (by kernel_rfl) (fun _ _ _ h => h) (Or.inl ⟨by rfl, ?hyr7x7⟩) (by assumption) ?restr7x7
              case hyr7x7 => intro wq hSw; (go_simp); (try with_reducible rfl)
              try simp only [Act.put, List.setIfInBounds_toArray, List.set_cons_zero, List.set_cons_succ]
              refine wpAnyH_take (i := 8) (oi := ⟨some 69, .fieldAddr 48 (.tmp 68) 1, 0, "law.go:74", #[⟨7, .data⟩], none⟩) (v := ?_) rfl (by kernel_rfl) (by kernel_rfl) (by kernel_rfl) (fun _ _ _ h => h) (Or.inl ⟨by rfl, ?hyr7x8⟩) (by assumption) ?restr7x8
              case hyr7x8 => intro wq hSw; (go_simp); (try with_reducible rfl)
              try simp only [Act.put, List.setIfInBounds_toArray, List.set_cons_zero, List.set_cons_succ]
              refine wpAnyH_take (i := 9) (oi := ⟨some 70, .load 9 (.tmp 69), 9, "law.go:74", #[⟨8, .data⟩], none⟩) (v := ?_) rfl (by kernel_rfl) (by kernel_rfl) (by kernel_rfl) (fun _ _ _ h => h) (Or.inl ⟨by rfl, ?hyr7x9⟩) (by assumption) ?restr7x9
              case hyr7x9 => intro wq hSw; (have cq := Chg.cellv hSw c1 hx1i; go_simp); (try with_reducible rfl)
              try simp only [Act.put, List.setIfInBounds_toArray, List.set_cons_zero, List.set_cons_succ]
              refine wpAnyH_take (i := 10) (oi := ⟨some 71, .binOp .gtr 9 (.tmp 65) (.tmp 70) 9, 4, "law.go:74", #[⟨4, .data⟩, ⟨9, .data⟩], none⟩) (v := ?_) rfl (by kernel_rfl) (by kernel_rfl) (by kernel_rfl) (fun _ _ _ h => h) (Or.inl ⟨by rfl, ?hyr7x10⟩) (by assumption) ?restr7x10
              case hyr7x10 => intro wq hSw; (go_simp); (try with_reducible rfl)
              try simp only [Act.put, List.setIfInBounds_toArray, List.set_cons_zero, List.set_cons_succ]
              refine wpAnyH_take (i := 11) (oi := ⟨some 72, .move (.tmp 71), 4, "law.go:74", #[⟨10, .data⟩], none⟩) (v := ?_) rfl (by kernel_rfl) (by kernel_rfl) (by kernel_rfl) (fun _ _ _ h => h) (Or.inl ⟨by rfl, ?hyr7x11⟩) (by assumption) ?restr7x11
              case hyr7x11 => intro wq hSw; (go_simp); (try with_reducible rfl)
              try simp only [Act.put, List.setIfInBounds_toArray, List.set_cons_zero, List.set_cons_succ]
              refine wpAnyH_take (i := 12) (oi := ⟨some 73, .move (.tmp 6), 23, "law.go:74", #[⟨11, .guard⟩], some (11, true)⟩) (v := undef) rfl (by kernel_rfl) (by kernel_rfl) (by kernel_rfl) (fun _ _ _ h => h) (Or.inr ⟨by rfl, rfl⟩) (by assumption) ?_
              try simp only [Act.put, List.setIfInBounds_toArray, List.set_cons_zero, List.set_cons_succ]
              refine wpAnyH_take (i := 13) (oi := ⟨some 74, .move (.tmp 13), 3, "law.go:74", #[⟨11, .guard⟩], some (11, true)⟩) (v := undef) rfl (by kernel_rfl) (by kernel_rfl) (by kernel_rfl) (fun _ _ _ h => h) (Or.inr ⟨by rfl, rfl⟩) (by assumption) ?_
              try simp only [Act.put, List.setIfInBounds_toArray, List.set_cons_zero, List.set_cons_succ]
              refine wpAnyH_take (i := 14) (oi := ⟨some 75, .indexAddr 23 (.tmp 73) (.tmp 74), 0, "law.go:74", #[⟨12, .data⟩, ⟨13, .data⟩, ⟨11, .guard⟩], some (11, true)⟩) (v := undef) rfl (by kernel_rfl) (by kernel_rfl) (by kernel_rfl) (fun _ _ _ h => h) (Or.inr ⟨by rfl, rfl⟩) (by assumption) ?_
              try simp only [Act.put, List.setIfInBounds_toArray, List.set_cons_zero, List.set_cons_succ]
              refine wpAnyH_take (i := 15) (oi := ⟨some 76, .fieldAddr 48 (.tmp 75) 2, 0, "law.go:74", #[⟨14, .data⟩, ⟨11, .guard⟩], some (11, true)⟩) (v := undef) rfl (by kernel_rfl) (by kernel_rfl) (by kernel_rfl) (fun _ _ _ h => h) (Or.inr ⟨by rfl, rfl⟩) (by assumption) ?_
              try simp only [Act.put, List.setIfInBounds_toArray, List.set_cons_zero, List.set_cons_succ]
              refine wpAnyH_take (i := 16) (oi := ⟨some 77, .load 46 (.tmp 76), 46, "law.go:74", #[⟨15, .data⟩, ⟨11, .guard⟩], some (11, true)⟩) (v := undef) rfl (by kernel_rfl) (by kernel_rfl) (by kernel_rfl) (fun _ _ _ h => h) (Or.inr ⟨by rfl, rfl⟩) (by assumption) ?_
              try simp only [Act.put, List.setIfInBounds_toArray, List.set_cons_zero, List.set_cons_succ]
              refine wpAnyH_take (i := 17) (oi := ⟨some 78, .move (.tmp 6), 23, "law.go:74", #[⟨11, .guard⟩], some (11, true)⟩) (v := undef) rfl (by kernel_rfl) (by kernel_rfl) (by kernel_rfl) (fun _ _ _ h => h) (Or.inr ⟨by rfl, rfl⟩) (by assumption) ?_
              try simp only [Act.put, List.setIfInBounds_toArray, List.set_cons_zero, List.set_cons_succ]
              refine wpAnyH_take (i := 18) (oi := ⟨some 79, .move (.tmp 8), 3, "law.go:74", #[⟨11, .guard⟩], some (11, true)⟩) (v := undef) rfl (by kernel_rfl) (by kernel_rfl) (by kernel_rfl) (fun _ _ _ h => h) (Or.inr ⟨by rfl, rfl⟩) (by assumption) ?_
              try simp only [Act.put, List.setIfInBounds_toArray, List.set_cons_zero, List.set_cons_succ]
              refine wpAnyH_take (i := 19) (oi := ⟨some 80, .indexAddr 23 (.tmp 78) (.tmp 79), 0, "law.go:74", #[⟨17, .data⟩, ⟨18, .data⟩, ⟨11, .guard⟩], some (11, true)⟩) (v := undef) rfl (by kernel_rfl) (by kernel_rfl) (by kernel_rfl) (fun _ _ _ h => h) (Or.inr ⟨by rfl, rfl⟩) (by assumption) ?_
              try simp only [Act.put, List.setIfInBounds_toArray, List.set_cons_zero, List.set_cons_succ]
              refine wpAnyH_take (i := 20) (oi := ⟨some 81, .fieldAddr 48 (.tmp 80) 2, 0, "law.go:74", #[⟨19, .data⟩, ⟨11, .guard⟩], some (11, true)⟩) (v := undef) rfl (by kernel_rfl) (by kernel_rfl) (by kernel_rfl) (fun _ _ _ h => h) (Or.inr ⟨by rfl, rfl⟩) (by assumption) ?_
              try simp only [Act.put, List.setIfInBounds_toArray, List.set_cons_zero, List.set_cons_succ]
              refine wpAnyH_take (i := 21) (oi := ⟨some 82, .load 46 (.tmp 81), 46, "law.go:74", #[⟨20, .data⟩, ⟨11, .guard⟩], some (11, true)⟩) (v := undef) rfl (by kernel_rfl) (by kernel_rfl) (by kernel_rfl) (fun _ _ _ h => h) (Or.inr ⟨by rfl, rfl⟩) (by assumption) ?_
              try simp only [Act.put, List.setIfInBounds_toArray, List.set_cons_zero, List.set_cons_succ]
              refine wpAnyH_take (i := 22) (oi := ⟨some 83, .move (.tmp 7), 3, "law.go:74", #[⟨11, .guard⟩], some (11, true)⟩) (v := undef) rfl (by kernel_rfl) (by kernel_rfl) (by kernel_rfl) (fun _ _ _ h => h) (Or.inr ⟨by rfl, rfl⟩) (by assumption) ?_
              try simp only [Act.put, List.setIfInBounds_toArray, List.set_cons_zero, List.set_cons_succ]
              refine wpAnyH_take (i := 23) (oi := ⟨some 84, .call { callee := .value (.func 29), args := #[.tmp 77, .tmp 82, .tmp 83], argTypes := #[46, 46, 3] }, 4, "law.go:74", #[⟨16, .data⟩, ⟨21, .data⟩, ⟨22, .data⟩, ⟨11, .chain⟩, ⟨11, .guard⟩], some (11, true)⟩) (v := undef) rfl (by kernel_rfl) (by kernel_rfl) (by kernel_rfl) (fun _ _ _ h => h) (Or.inr ⟨by rfl, rfl⟩) (by assumption) ?_
              try simp only [Act.put, List.setIfInBounds_toArray, List.set_cons_zero, List.set_cons_succ]
              refine wpAnyH_take (i := 24) (oi := ⟨some 85, .pick (.tmp 72) (.tmp 84) (.const (.bool false)), 4, "law.go:74", #[⟨11, .data⟩, ⟨23, .data⟩], none⟩) (v := ?_) rfl (by kernel_rfl) (by kernel_rfl) (by kernel_rfl) (fun _ _ _ h => h) (Or.inl ⟨by rfl, ?hyr7x24⟩) (by assumption) ?restr7x24
              case hyr7x24 => intro wq hSw; (go_simp); (try with_reducible rfl)
              try simp only [Act.put, List.setIfInBounds_toArray, List.set_cons_zero, List.set_cons_succ]
              refine wpAnyH_take (i := 25) (oi := ⟨some 86, .move (.tmp 85), 4, "law.go:74", #[⟨24, .data⟩, ⟨23, .chain⟩], none⟩) (v := ?_) rfl (by kernel_rfl) (by kernel_rfl) (by kernel_rfl) (fun _ _ _ h => h) (Or.inl ⟨by rfl, ?hyr7x25⟩) (by assumption) ?restr7x25
              case hyr7x25 => intro wq hSw; (go_simp); (try with_reducible rfl)
              try simp only [Act.put, List.setIfInBounds_toArray, List.set_cons_zero, List.set_cons_succ]
              refine wpAnyH_take (i := 26) (oi := ⟨some 87, .move (.tmp 12), 4, "law.go:74", #[⟨25, .guard⟩], some (25, true)⟩) (v := undef) rfl (by kernel_rfl) (by kernel_rfl) (by kernel_rfl) (fun _ _ _ h => h) (Or.inr ⟨by rfl, rfl⟩) (by assumption) ?_
              try simp only [Act.put, List.setIfInBounds_toArray, List.set_cons_zero, List.set_cons_succ]
              refine wpAnyH_take (i := 27) (oi := ⟨some 88, .unOp .not 4 (.tmp 87), 4, "law.go:74", #[⟨26, .data⟩, ⟨25, .guard⟩], some (25, true)⟩) (v := undef) rfl (by kernel_rfl) (by kernel_rfl) (by kernel_rfl) (fun _ _ _ h => h) (Or.inr ⟨by rfl, rfl⟩) (by assumption) ?_
              try simp only [Act.put, List.setIfInBounds_toArray, List.set_cons_zero, List.set_cons_succ]
              refine wpAnyH_take (i := 28) (oi := ⟨some 89, .move (.tmp 88), 4, "law.go:74", #[⟨27, .data⟩, ⟨25, .chain⟩, ⟨25, .guard⟩], some (25, true)⟩) (v := undef) rfl (by kernel_rfl) (by kernel_rfl) (by kernel_rfl) (fun _ _ _ h => h) (Or.inr ⟨by rfl, rfl⟩) (by assumption) ?_
              try simp only [Act.put, List.setIfInBounds_toArray, List.set_cons_zero, List.set_cons_succ]
              refine wpAnyH_take (i := 29) (oi := ⟨some 90, .move (.tmp 6), 23, "law.go:74", #[⟨28, .guard⟩], some (28, false)⟩) (v := undef) rfl (by kernel_rfl) (by kernel_rfl) (by kernel_rfl) (fun _ _ _ h => h) (Or.inr ⟨by rfl, rfl⟩) (by assumption) ?_
              try simp only [Act.put, List.setIfInBounds_toArray, List.set_cons_zero, List.set_cons_succ]
              refine wpAnyH_take (i := 30) (oi := ⟨some 91, .move (.tmp 13), 3, "law.go:74", #[⟨28, .guard⟩], some (28, false)⟩) (v := undef) rfl (by kernel_rfl) (by kernel_rfl) (by kernel_rfl) (fun _ _ _ h => h) (Or.inr ⟨by rfl, rfl⟩) (by assumption) ?_
              try simp only [Act.put, List.setIfInBounds_toArray, List.set_cons_zero, List.set_cons_succ]
              refine wpAnyH_take (i := 31) (oi := ⟨some 92, .indexAddr 23 (.tmp 90) (.tmp 91), 0, "law.go:74", #[⟨29, .data⟩, ⟨30, .data⟩, ⟨28, .guard⟩], some (28, false)⟩) (v := undef) rfl (by kernel_rfl) (by kernel_rfl) (by kernel_rfl) (fun _ _ _ h => h) (Or.inr ⟨by rfl, rfl⟩) (by assumption) ?_
              try simp only [Act.put, List.setIfInBounds_toArray, List.set_cons_zero, List.set_cons_succ]
              refine wpAnyH_take (i := 32) (oi := ⟨some 93, .fieldAddr 48 (.tmp 92) 1, 0, "law.go:74", #[⟨31, .data⟩, ⟨28, .guard⟩], some (28, false)⟩) (v := undef) rfl (by kernel_rfl) (by kernel_rfl) (by kernel_rfl) (fun _ _ _ h => h) (Or.inr ⟨by rfl, rfl⟩) (by assumption) ?_
              try simp only [Act.put, List.setIfInBounds_toArray, List.set_cons_zero, List.set_cons_succ]
              refine wpAnyH_take (i := 33) (oi := ⟨some 94, .load 9 (.tmp 93), 9, "law.go:74", #[⟨32, .data⟩, ⟨28, .guard⟩], some (28, false)⟩) (v := undef) rfl (by kernel_rfl) (by kernel_rfl) (by kernel_rfl) (fun _ _ _ h => h) (Or.inr ⟨by rfl, rfl⟩) (by assumption) ?_
              try simp only [Act.put, List.setIfInBounds_toArray, List.set_cons_zero, List.set_cons_succ]
              refine wpAnyH_take (i := 34) (oi := ⟨some 95, .fieldAddr 48 (.tmp 11) 1, 0, "law.go:74", #[⟨28, .guard⟩], some (28, false)⟩) (v := undef) rfl (by kernel_rfl) (by kernel_rfl) (by kernel_rfl) (fun _ _ _ h => h) (Or.inr ⟨by rfl, rfl⟩) (by assumption) ?_
              try simp only [Act.put, List.setIfInBounds_toArray, List.set_cons_zero, List.set_cons_succ]
              refine wpAnyH_take (i := 35) (oi := ⟨some 96, .load 9 (.tmp 95), 9, "law.go:74", #[⟨34, .data⟩, ⟨28, .guard⟩], some (28, false)⟩) (v := undef) rfl (by kernel_rfl) (by kernel_rfl) (by kernel_rfl) (fun _ _ _ h => h) (Or.inr ⟨by rfl, rfl⟩) (by assumption) ?_
              try simp only [Act.put, List.setIfInBounds_toArray, List.set_cons_zero, List.set_cons_succ]
              refine wpAnyH_take (i := 36) (oi := ⟨some 97, .binOp .lss 9 (.tmp 94) (.tmp 96) 9, 4, "law.go:74", #[⟨33, .data⟩, ⟨35, .data⟩, ⟨28, .guard⟩], some (28, false)⟩) (v := undef) rfl (by kernel_rfl) (by kernel_rfl) (by kernel_rfl) (fun _ _ _ h => h) (Or.inr ⟨by rfl, rfl⟩) (by assumption) ?_
              try simp only [Act.put, List.setIfInBounds_toArray, List.set_cons_zero, List.set_cons_succ]
              refine wpAnyH_take (i := 37) (oi := ⟨some 98, .pick (.tmp 89) (.const (.bool true)) (.tmp 97), 4, "law.go:74", #[⟨28, .data⟩, ⟨36, .data⟩, ⟨25, .guard⟩], some (25, true)⟩) (v := undef) rfl (by kernel_rfl) (by kernel_rfl) (by kernel_rfl) (fun _ _ _ h => h) (Or.inr ⟨by rfl, rfl⟩) (by assumption) ?_
              try simp only [Act.put, List.setIfInBounds_toArray, List.set_cons_zero, List.set_cons_succ]
              refine wpAnyH_take (i := 38) (oi := ⟨some 99, .pick (.tmp 86) (.tmp 98) (.const (.bool false)), 4, "law.go:74", #[⟨25, .data⟩, ⟨37, .data⟩], none⟩) (v := ?_) rfl (by kernel_rfl) (by kernel_rfl) (by kernel_rfl) (fun _ _ _ h => h) (Or.inl ⟨by rfl, ?hyr7x38⟩) (by assumption) ?restr7x38
              case hyr7x38 => intro wq hSw; (go_simp); (try with_reducible rfl)
              try simp only [Act.put, List.setIfInBounds_toArray, List.set_cons_zero, List.set_cons_succ]
              refine wpAnyH_done (by kernel_rfl) ?_ _
              have ki2 := Lib.hid (ki.nx (Ex.refl wi).drew)
              clear ki f1 f2 c1 c2 rk
              go_wp2_with fail
              exact ⟨⟨j + 1, by omega, by go_num, ki2.out⟩, by simp [intOf]; omega⟩
          · obtain rfl : j = L.length := by omega
            have c0 := Chg.cellv ki c0 hx1
            have c1 := Chg.cellv ki c1 hx1
            have c2 := Chg.cellv ki c2 hx1
            have rid := (B2.out.nx ki).cell 0 _ rfl
            have rwd := (B2.out.nx ki).cell 2 _ rfl
            have kw2 := kw.nx ki
            have SI := S7.out.nx ki
            have TI := TG7.out.nx ki
            obtain ⟨p1, p2, p3, p4⟩ := M4.out his
            have hm1 : m ≤ 16 := by omega
            have P2 := Lib.hid p2
            clear hj hjl ki p2
            go_wp2_with fail
            (with_reducible refine (neigh_p _ _ _ _ _ _ _ SI (by omega) hcX hmX RW.out TI).mono ?_)
            rintro e v8 ⟨rfl, kk⟩
            rw [p1, P2.out]
            generalize (neighN L FR.1.id (m : Int)).1.2 = zr
            have B3 := Blk.new v8 [.int .i64 x.id, .int .i64 zr] 36
            have k3 := Ex.new v8 (.cells #[.int .i64 x.id, .int .i64 zr] 36)
            obtain ⟨v9, hv9⟩ : ∃ v9, v9 = v8.alloc (.cells #[.int .i64 x.id, .int .i64 zr] 36) := ⟨_, rfl⟩
            obtain ⟨g3, hg3⟩ : ∃ g3, g3 = v8.heap.size := ⟨_, rfl⟩
            have B3 : Blk v9 g3 [.int .i64 x.id, .int .i64 zr] 36 := by rw [hv9, hg3]; exact B3
            rw [← hv9] at k3
            have HV9 := Lib.hid hv9
            have HG3 := Lib.hid hg3
            have k4 := kk.nx k3
            have hx1j := Nat.lt_of_lt_of_le hx1i k4.size
            have hg2j := Nat.lt_of_lt_of_le hg2i k4.size
            have c0 := Chg.cellv k4 c0 hx1i
            have c1 := Chg.cellv k4 c1 hx1i
            have c2 := Chg.cellv k4 c2 hx1i
            have rk := Chg.cellv k4 rk hg2i
            have rwd := Chg.cellv k4 rwd hg2i
            have z0 := B3.cell 0 _ rfl
            have hg3j := B3.lt
            have KW := Lib.hid (kw2.nx k4)
            have q1 := bl_asymm p3
            have q2 : (FR.1.key.toList == x.key.toList) = false := by
              rw [beq_eq_false_iff_ne]; intro h; rw [h, bytesLess_irrefl] at q1; rw [h] at p3; rw [bytesLess_irrefl] at p3; cases p3
            clear kk k3 k4 hv9 hg3 B3 SI TI kw2 p1 p3 rid hx1i hg2i
            go_wp2_with fail
            rw [← HG3.out, ← HV9.out]
            clear HG3 HV9
            refine wp_region_held_drew (S := Ex v9.drew) (by kernel_rfl) (Ex.refl _) (fun hHeld => ?_)
            refine wpAnyH_take (i := 0) (oi := ⟨some 110, .move (.tmp 15), 4, "law.go:82", #[], none⟩) (v := ?_) rfl (by kernel_rfl) (by kernel_rfl) (by kernel_rfl) (fun _ _ _ h => h) (Or.inl ⟨by rfl, ?hyr8x0⟩) (by assumption) ?restr8x0
            case hyr8x0 => intro wq hSw; (go_simp); (try with_reducible rfl)
            try simp only [Act.put, List.setIfInBounds_toArray, List.set_cons_zero, List.set_cons_succ]
            refine wpAnyH_take (i := 1) (oi := ⟨some 111, .unOp .not 4 (.tmp 110), 4, "law.go:82", #[⟨0, .data⟩], none⟩) (v := ?_) rfl (by kernel_rfl) (by kernel_rfl) (by kernel_rfl) (fun _ _ _ h => h) (Or.inl ⟨by rfl, ?hyr8x1⟩) (by assumption) ?restr8x1
            case hyr8x1 => intro wq hSw; (go_simp); (try with_reducible rfl)
            try simp only [Act.put, List.setIfInBounds_toArray, List.set_cons_zero, List.set_cons_succ]
            refine wpAnyH_take (i := 2) (oi := ⟨some 112, .move (.tmp 111), 4, "law.go:82", #[⟨1, .data⟩], none⟩) (v := ?_) rfl (by kernel_rfl) (by kernel_rfl) (by kernel_rfl) (fun _ _ _ h => h) (Or.inl ⟨by rfl, ?hyr8x2⟩) (by assumption) ?restr8x2
            case hyr8x2 => intro wq hSw; (go_simp); (try with_reducible rfl)
            try simp only [Act.put, List.setIfInBounds_toArray, List.set_cons_zero, List.set_cons_succ]
            refine wpAnyH_take (i := 3) (oi := ⟨some 113, .fieldAddr 36 (.tmp 14) 0, 0, "law.go:82", #[⟨2, .guard⟩], some (2, false)⟩) (v := ?_) rfl (by kernel_rfl) (by kernel_rfl) (by kernel_rfl) (fun _ _ _ h => h) (Or.inl ⟨by rfl, ?hyr8x3⟩) (by assumption) ?restr8x3
            case hyr8x3 => intro wq hSw; (go_simp); (try with_reducible rfl)
            try simp only [Act.put, List.setIfInBounds_toArray, List.set_cons_zero, List.set_cons_succ]
            refine wpAnyH_take (i := 4) (oi := ⟨some 114, .load 3 (.tmp 113), 3, "law.go:82", #[⟨3, .data⟩, ⟨2, .guard⟩], some (2, false)⟩) (v := ?_) rfl (by kernel_rfl) (by kernel_rfl) (by kernel_rfl) (fun _ _ _ h => h) (Or.inl ⟨by rfl, ?hyr8x4⟩) (by assumption) ?restr8x4
            case hyr8x4 => intro wq hSw; (have cq := Chg.cellv hSw z0 hg3j; go_simp); (try with_reducible rfl)
            try simp only [Act.put, List.setIfInBounds_toArray, List.set_cons_zero, List.set_cons_succ]
            refine wpAnyH_take (i := 5) (oi := ⟨some 115, .move (.tmp 6), 23, "law.go:82", #[⟨2, .guard⟩], some (2, false)⟩) (v := ?_) rfl (by kernel_rfl) (by kernel_rfl) (by kernel_rfl) (fun _ _ _ h => h) (Or.inl ⟨by rfl, ?hyr8x5⟩) (by assumption) ?restr8x5
            case hyr8x5 => intro wq hSw; (go_simp); (try with_reducible rfl)
            try simp only [Act.put, List.setIfInBounds_toArray, List.set_cons_zero, List.set_cons_succ]
            refine wpAnyH_take (i := 6) (oi := ⟨some 116, .move (.tmp 8), 3, "law.go:82", #[⟨2, .guard⟩], some (2, false)⟩) (v := ?_) rfl (by kernel_rfl) (by kernel_rfl) (by kernel_rfl) (fun _ _ _ h => h) (Or.inl ⟨by rfl, ?hyr8x6⟩) (by assumption) ?restr8x6
            case hyr8x6 => intro wq hSw; (go_simp); (try with_reducible rfl)
            try simp only [Act.put, List.setIfInBounds_toArray, List.set_cons_zero, List.set_cons_succ]
            refine wpAnyH_take (i := 7) (oi := ⟨some 117, .indexAddr 23 (.tmp 115) (.tmp 116), 0, "law.go:82", #[⟨5, .data⟩, ⟨6, .data⟩, ⟨2, .guard⟩], some (2, false)⟩) (v := ?_) rfl (by kernel_rfl) (by kernel_rfl) (by kernel_rfl) (fun _ _ _ h => h) (Or.inl ⟨by rfl, ?hyr8x7⟩) (by assumption) ?restr8x7
            case hyr8x7 => intro wq hSw; (go_simp); (try with_reducible rfl)
            try simp only [Act.put, List.setIfInBounds_toArray, List.set_cons_zero, List.set_cons_succ]
            refine wpAnyH_take (i := 8) (oi := ⟨some 118, .fieldAddr 48 (.tmp 117) 0, 0, "law.go:82", #[⟨7, .data⟩, ⟨2, .guard⟩], some (2, false)⟩) (v := ?_) rfl (by kernel_rfl) (by kernel_rfl) (by kernel_rfl) (fun _ _ _ h => h) (Or.inl ⟨by rfl, ?hyr8x8⟩) (by assumption) ?restr8x8
            case hyr8x8 => intro wq hSw; (go_simp); (try with_reducible rfl)
            try simp only [Act.put, List.setIfInBounds_toArray, List.set_cons_zero, List.set_cons_succ]
            refine wpAnyH_take (i := 9) (oi := ⟨some 119, .load 3 (.tmp 118), 3, "law.go:82", #[⟨8, .data⟩, ⟨2, .guard⟩], some (2, false)⟩) (v := ?_) rfl (by kernel_rfl) (by kernel_rfl) (by kernel_rfl) (fun _ _ _ h => h) (Or.inl ⟨by rfl, ?hyr8x9⟩) (by assumption) ?restr8x9
            case hyr8x9 => intro wq hSw; (have cq := Chg.cellv hSw c0 hx1j; go_simp); (try with_reducible rfl)
            try simp only [Act.put, List.setIfInBounds_toArray, List.set_cons_zero, List.set_cons_succ]
            refine wpAnyH_take (i := 10) (oi := ⟨some 120, .binOp .neq 3 (.tmp 114) (.tmp 119) 3, 4, "law.go:82", #[⟨4, .data⟩, ⟨9, .data⟩, ⟨2, .guard⟩], some (2, false)⟩) (v := ?_) rfl (by kernel_rfl) (by kernel_rfl) (by kernel_rfl) (fun _ _ _ h => h) (Or.inl ⟨by rfl, ?hyr8x10⟩) (by assumption) ?restr8x10
            case hyr8x10 => intro wq hSw; (go_simp); (try with_reducible rfl)
            try simp only [Act.put, List.setIfInBounds_toArray, List.set_cons_zero, List.set_cons_succ]
            refine wpAnyH_take (i := 11) (oi := ⟨some 121, .pick (.tmp 112) (.const (.bool true)) (.tmp 120), 4, "law.go:82", #[⟨2, .data⟩, ⟨10, .data⟩], none⟩) (v := ?_) rfl (by kernel_rfl) (by kernel_rfl) (by kernel_rfl) (fun _ _ _ h => h) (Or.inl ⟨by rfl, ?hyr8x11⟩) (by assumption) ?restr8x11
            case hyr8x11 => intro wq hSw; (go_simp); (try with_reducible rfl)
            try simp only [Act.put, List.setIfInBounds_toArray, List.set_cons_zero, List.set_cons_succ]
            refine wpAnyH_take (i := 12) (oi := ⟨some 122, .move (.tmp 121), 4, "law.go:82", #[⟨11, .data⟩, ⟨2, .chain⟩], none⟩) (v := ?_) rfl (by kernel_rfl) (by kernel_rfl) (by kernel_rfl) (fun _ _ _ h => h) (Or.inl ⟨by rfl, ?hyr8x12⟩) (by assumption) ?restr8x12
            case hyr8x12 => intro wq hSw; (go_simp); (try with_reducible rfl)
            try simp only [Act.put, List.setIfInBounds_toArray, List.set_cons_zero, List.set_cons_succ]
            refine wpAnyH_take (i := 13) (oi := ⟨some 123, .fieldAddr 48 (.tmp 11) 1, 0, "law.go:82", #[⟨12, .guard⟩], some (12, false)⟩) (v := ?_) rfl (by kernel_rfl) (by kernel_rfl) (by kernel_rfl) (fun _ _ _ h => h) (Or.inl ⟨by rfl, ?hyr8x13⟩) (by assumption) ?restr8x13
            case hyr8x13 => intro wq hSw; (go_simp); (try with_reducible rfl)
            try simp only [Act.put, List.setIfInBounds_toArray, List.set_cons_zero, List.set_cons_succ]
            refine wpAnyH_take (i := 14) (oi := ⟨some 124, .load 9 (.tmp 123), 9, "law.go:82", #[⟨13, .data⟩, ⟨12, .guard⟩], some (12, false)⟩) (v := ?_) rfl (by kernel_rfl) (by kernel_rfl) (by kernel_rfl) (fun _ _ _ h => h) (Or.inl ⟨by rfl, ?hyr8x14⟩) (by assumption) ?restr8x14
            case hyr8x14 => intro wq hSw; (have cq := Chg.cellv hSw rk hg2j; go_simp); (try with_reducible rfl)
            try simp only [Act.put, List.setIfInBounds_toArray, List.set_cons_zero, List.set_cons_succ]
            refine wpAnyH_take (i := 15) (oi := ⟨some 125, .move (.tmp 6), 23, "law.go:82", #[⟨12, .guard⟩], some (12, false)⟩) (v := ?_) rfl (by kernel_rfl) (by kernel_rfl) (by kernel_rfl) (fun _ _ _ h => h) (Or.inl ⟨by rfl, ?hyr8x15⟩) (by assumption) ?restr8x15
            case hyr8x15 => intro wq hSw; (go_simp); (try with_reducible rfl)
            try simp only [Act.put, List.setIfInBounds_toArray, List.set_cons_zero, List.set_cons_succ]
            refine wpAnyH_take (i := 16) (oi := ⟨some 126, .move (.tmp 8), 3, "law.go:82", #[⟨12, .guard⟩], some (12, false)⟩) (v := ?_) rfl (by kernel_rfl) (by kernel_rfl) (by kernel_rfl) (fun _ _ _ h => h) (Or.inl ⟨by rfl, ?hyr8x16⟩) (by assumption) ?restr8x16
            case hyr8x16 => intro wq hSw; (go_simp); (try with_reducible rfl)
            try simp only [Act.put, List.setIfInBounds_toArray, List.set_cons_zero, List.set_cons_succ]
            refine wpAnyH_take (i := 17) (oi := ⟨some 127, .indexAddr 23 (.tmp 125) (.tmp 126), 0, "law.go:82", #[⟨15, .data⟩, ⟨16, .data⟩, ⟨12, .guard⟩], some (12, false)⟩) (v := ?_) rfl (by kernel_rfl) (by kernel_rfl) (by kernel_rfl) (fun _ _ _ h => h) (Or.inl ⟨by rfl, ?hyr8x17⟩) (by assumption) ?restr8x17
            case hyr8x17 => intro wq hSw; (go_simp); (try with_reducible rfl)
            try simp only [Act.put, List.setIfInBounds_toArray, List.set_cons_zero, List.set_cons_succ]
            refine wpAnyH_take (i := 18) (oi := ⟨some 128, .fieldAddr 48 (.tmp 127) 1, 0, "law.go:82", #[⟨17, .data⟩, ⟨12, .guard⟩], some (12, false)⟩) (v := ?_) rfl (by kernel_rfl) (by kernel_rfl) (by kernel_rfl) (fun _ _ _ h => h) (Or.inl ⟨by rfl, ?hyr8x18⟩) (by assumption) ?restr8x18
            case hyr8x18 => intro wq hSw; (go_simp); (try with_reducible rfl)
            try simp only [Act.put, List.setIfInBounds_toArray, List.set_cons_zero, List.set_cons_succ]
            refine wpAnyH_take (i := 19) (oi := ⟨some 129, .load 9 (.tmp 128), 9, "law.go:82", #[⟨18, .data⟩, ⟨12, .guard⟩], some (12, false)⟩) (v := ?_) rfl (by kernel_rfl) (by kernel_rfl) (by kernel_rfl) (fun _ _ _ h => h) (Or.inl ⟨by rfl, ?hyr8x19⟩) (by assumption) ?restr8x19
            case hyr8x19 => intro wq hSw; (have cq := Chg.cellv hSw c1 hx1j; go_simp); (try with_reducible rfl)
            try simp only [Act.put, List.setIfInBounds_toArray, List.set_cons_zero, List.set_cons_succ]
            refine wpAnyH_take (i := 20) (oi := ⟨some 130, .binOp .leq 9 (.tmp 124) (.tmp 129) 9, 4, "law.go:82", #[⟨14, .data⟩, ⟨19, .data⟩, ⟨12, .guard⟩], some (12, false)⟩) (v := ?_) rfl (by kernel_rfl) (by kernel_rfl) (by kernel_rfl) (fun _ _ _ h => h) (Or.inl ⟨by rfl, ?hyr8x20⟩) (by assumption) ?restr8x20
            case hyr8x20 => intro wq hSw; (go_simp); (try with_reducible rfl)
            try simp only [Act.put, List.setIfInBounds_toArray, List.set_cons_zero, List.set_cons_succ]
            refine wpAnyH_take (i := 21) (oi := ⟨some 131, .pick (.tmp 122) (.const (.bool true)) (.tmp 130), 4, "law.go:82", #[⟨12, .data⟩, ⟨20, .data⟩], none⟩) (v := ?_) rfl (by kernel_rfl) (by kernel_rfl) (by kernel_rfl) (fun _ _ _ h => h) (Or.inl ⟨by rfl, ?hyr8x21⟩) (by assumption) ?restr8x21
            case hyr8x21 => intro wq hSw; (go_simp); (try with_reducible rfl)
            try simp only [Act.put, List.setIfInBounds_toArray, List.set_cons_zero, List.set_cons_succ]
            refine wpAnyH_take (i := 22) (oi := ⟨some 132, .move (.tmp 131), 4, "law.go:82", #[⟨21, .data⟩, ⟨12, .chain⟩], none⟩) (v := ?_) rfl (by kernel_rfl) (by kernel_rfl) (by kernel_rfl) (fun _ _ _ h => h) (Or.inl ⟨by rfl, ?hyr8x22⟩) (by assumption) ?restr8x22
            case hyr8x22 => intro wq hSw; (go_simp); (try with_reducible rfl)
            try simp only [Act.put, List.setIfInBounds_toArray, List.set_cons_zero, List.set_cons_succ]
            refine wpAnyH_take (i := 23) (oi := ⟨some 133, .fieldAddr 48 (.tmp 11) 2, 0, "law.go:82", #[⟨22, .guard⟩], some (22, false)⟩) (v := ?_) rfl (by kernel_rfl) (by kernel_rfl) (by kernel_rfl) (fun _ _ _ h => h) (Or.inl ⟨by rfl, ?hyr8x23⟩) (by assumption) ?restr8x23
            case hyr8x23 => intro wq hSw; (go_simp); (try with_reducible rfl)
            try simp only [Act.put, List.setIfInBounds_toArray, List.set_cons_zero, List.set_cons_succ]
            refine wpAnyH_take (i := 24) (oi := ⟨some 134, .load 46 (.tmp 133), 46, "law.go:82", #[⟨23, .data⟩, ⟨22, .guard⟩], some (22, false)⟩) (v := ?_) rfl (by kernel_rfl) (by kernel_rfl) (by kernel_rfl) (fun _ _ _ h => h) (Or.inl ⟨by rfl, ?hyr8x24⟩) (by assumption) ?restr8x24
            case hyr8x24 => intro wq hSw; (have cq := Chg.cellv hSw rwd hg2j; go_simp); (try with_reducible rfl)
            try simp only [Act.put, List.setIfInBounds_toArray, List.set_cons_zero, List.set_cons_succ]
            refine wpAnyH_take (i := 25) (oi := ⟨some 135, .move (.tmp 6), 23, "law.go:82", #[⟨22, .guard⟩], some (22, false)⟩) (v := ?_) rfl (by kernel_rfl) (by kernel_rfl) (by kernel_rfl) (fun _ _ _ h => h) (Or.inl ⟨by rfl, ?hyr8x25⟩) (by assumption) ?restr8x25
            case hyr8x25 => intro wq hSw; (go_simp); (try with_reducible rfl)
            try simp only [Act.put, List.setIfInBounds_toArray, List.set_cons_zero, List.set_cons_succ]
            refine wpAnyH_take (i := 26) (oi := ⟨some 136, .move (.tmp 8), 3, "law.go:82", #[⟨22, .guard⟩], some (22, false)⟩) (v := ?_) rfl (by kernel_rfl) (by kernel_rfl) (by kernel_rfl) (fun _ _ _ h => h) (Or.inl ⟨by rfl, ?hyr8x26⟩) (by assumption) ?restr8x26
            case hyr8x26 => intro wq hSw; (go_simp); (try with_reducible rfl)
            try simp only [Act.put, List.setIfInBounds_toArray, List.set_cons_zero, List.set_cons_succ]
            refine wpAnyH_take (i := 27) (oi := ⟨some 137, .indexAddr 23 (.tmp 135) (.tmp 136), 0, "law.go:82", #[⟨25, .data⟩, ⟨26, .data⟩, ⟨22, .guard⟩], some (22, false)⟩) (v := ?_) rfl (by kernel_rfl) (by kernel_rfl) (by kernel_rfl) (fun _ _ _ h => h) (Or.inl ⟨by rfl, ?hyr8x27⟩) (by assumption) ?restr8x27
            case hyr8x27 => intro wq hSw; (go_simp); (try with_reducible rfl)
            try simp only [Act.put, List.setIfInBounds_toArray, List.set_cons_zero, List.set_cons_succ]
            refine wpAnyH_take (i := 28) (oi := ⟨some 138, .fieldAddr 48 (.tmp 137) 2, 0, "law.go:82", #[⟨27, .data⟩, ⟨22, .guard⟩], some (22, false)⟩) (v := ?_) rfl (by kernel_rfl) (by kernel_rfl) (by kernel_rfl) (fun _ _ _ h => h) (Or.inl ⟨by rfl, ?hyr8x28⟩) (by assumption) ?restr8x28
            case hyr8x28 => intro wq hSw; (go_simp); (try with_reducible rfl)
            try simp only [Act.put, List.setIfInBounds_toArray, List.set_cons_zero, List.set_cons_succ]
            refine wpAnyH_take (i := 29) (oi := ⟨some 139, .load 46 (.tmp 138), 46, "law.go:82", #[⟨28, .data⟩, ⟨22, .guard⟩], some (22, false)⟩) (v := ?_) rfl (by kernel_rfl) (by kernel_rfl) (by kernel_rfl) (fun _ _ _ h => h) (Or.inl ⟨by rfl, ?hyr8x29⟩) (by assumption) ?restr8x29
            case hyr8x29 => intro wq hSw; (have cq := Chg.cellv hSw c2 hx1j; go_simp); (try with_reducible rfl)
            try simp only [Act.put, List.setIfInBounds_toArray, List.set_cons_zero, List.set_cons_succ]
            refine wpAnyH_take (i := 30) (oi := ⟨some 140, .move (.tmp 7), 3, "law.go:82", #[⟨22, .guard⟩], some (22, false)⟩) (v := ?_) rfl (by kernel_rfl) (by kernel_rfl) (by kernel_rfl) (fun _ _ _ h => h) (Or.inl ⟨by rfl, ?hyr8x30⟩) (by assumption) ?restr8x30
            case hyr8x30 => intro wq hSw; (go_simp); (try with_reducible rfl)
            try simp only [Act.put, List.setIfInBounds_toArray, List.set_cons_zero, List.set_cons_succ]
            refine wpAnyH_ready (rs := [31]) (by kernel_rfl) (by simp) ?_
            refine AllReadyH.cons (o := ⟨some 141, .call { callee := .value (.func 29), args := #[.tmp 134, .tmp 139, .tmp 140], argTypes := #[46, 46, 3] }, 4, "law.go:82", #[⟨24, .data⟩, ⟨29, .data⟩, ⟨30, .data⟩, ⟨22, .chain⟩, ⟨22, .guard⟩], some (22, false)⟩) rfl (fun K hK => ?_) AllReadyH.nil
            go_simp
            (with_reducible refine (same_rE _ _ _ _ hrw hxw).mono ?_)
            rintro e v1 ⟨rfl, kk⟩
            rw [p4]
            replace kk : Ex v9.drew v1 := kk
            refine hK.out _ _ kk (fun _ => ?_)
            clear hK K
            try simp only [Act.put, List.setIfInBounds_toArray, List.set_cons_zero, List.set_cons_succ]
            refine wpAnyH_switch (S' := Ex v1) (fun _ hSw => Ex.nx kk hSw) ?_
            clear hHeld
            have hHeld := Ex.refl v1
            refine wpAnyH_take (i := 32) (oi := ⟨some 142, .unOp .not 4 (.tmp 141), 4, "law.go:82", #[⟨31, .data⟩, ⟨22, .guard⟩], some (22, false)⟩) (v := ?_) rfl (by kernel_rfl) (by kernel_rfl) (by kernel_rfl) (fun _ _ _ h => h) (Or.inl ⟨by rfl, ?hyr8x32⟩) (by assumption) ?restr8x32
            case hyr8x32 => intro wq hSw; (go_simp); (try with_reducible rfl)
            try simp only [Act.put, List.setIfInBounds_toArray, List.set_cons_zero, List.set_cons_succ]
            refine wpAnyH_take (i := 33) (oi := ⟨some 143, .pick (.tmp 132) (.const (.bool true)) (.tmp 142), 4, "law.go:82", #[⟨22, .data⟩, ⟨32, .data⟩], none⟩) (v := ?_) rfl (by kernel_rfl) (by kernel_rfl) (by kernel_rfl) (fun _ _ _ h => h) (Or.inl ⟨by rfl, ?hyr8x33⟩) (by assumption) ?restr8x33
            case hyr8x33 => intro wq hSw; (go_simp); (try with_reducible rfl)
            try simp only [Act.put, List.setIfInBounds_toArray, List.set_cons_zero, List.set_cons_succ]
            refine wpAnyH_done (by kernel_rfl) ?_ _
            have KV := Lib.hid (KW.out.nx ((Ex.refl v9).drew.nx kk))
            clear kk z0 c0 c1 c2 rk rwd
            go_wp2_with fail
            exact ⟨⟨k + 1, by omega, by go_num, KV.out⟩, by simp [intOf]; omega⟩
    · obtain rfl : k = L.length := by omega
      have TT := T2.out.nx kw
      clear hk hlt
      go_wp2_with fail
      (with_reducible refine (sane6_x _ TT).mono ?_)
      rintro e w9 ⟨rfl, kk⟩
      go_wp2_with fail
      go_ret
      exact ⟨rfl, (QL.out.nx (kw.nx kk)).1⟩
end Go.Proofs.YtihpaonhonhfoaaDoor
