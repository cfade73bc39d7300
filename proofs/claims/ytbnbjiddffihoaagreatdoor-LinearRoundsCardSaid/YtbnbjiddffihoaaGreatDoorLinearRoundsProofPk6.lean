/- Texts for the statement LinearRoundsProof, part 6 of 9: LinC, RedC, RedH, LinD, PrQ, LiS, LiT, LiU, RedI, RedJ, RedL, MapO. -/
import Derived.BigRegion
import Derived.Deep.LoopGhost
import Derived.Test.YtbnbjiddffihoaaGreatDoorLinearRoundsProofPk3
import Derived.Test.YtbnbjiddffihoaaGreatDoorLinearRoundsProofPk4
import Derived.Test.YtbnbjiddffihoaaGreatDoorLinearRoundsProofPk5

/- Keep of the package linear. -/
namespace Go.Proofs.YtbnbjiddffihoaaGreatDoor
open Go.RowKit

def KpPost (N : List Nd) (p : Pr) (w : World) (e : Ending) (w' : World) : Prop := e = .returned (.agg #[.int .i64 (keepN N p).1, .int .i64 (keepN N p).2]) ∧ Ex w w'
theorem idx_here {l : List Int} {id : Int} {k : Nat} (h : l.findIdx (fun x => id == x) = k) (hk : k < l.length) : l[k]? = some id := by
  subst h
  have := List.findIdx_getElem (w := hk)
  rw [List.getElem?_eq_getElem hk]
  simp only [beq_iff_eq] at this
  rw [← this]
theorem idx_gone {l : List Int} {id : Int} (h : l.findIdx (fun x => id == x) = l.length) : id ∉ l := by
  intro hm
  have : l.findIdx (fun x => id == x) < l.length := List.findIdx_lt_length.2 ⟨id, hm, by simp⟩
  omega
set_option maxRecDepth 100000 in
set_option maxHeartbeats 4000000 in
theorem keep_p (a : Option Addr) (n c : Nat) (N : List Nd) (p : Pr) (a1 : Option Addr) (n1 c1 : Nat) (a2 : Option Addr) (n2 c2 : Nat) (w : World) (h : Sl 3 encN w a n N) (hn : n ≤ 1000) (hc : n ≤ c) (hm : c ≤ maxLen) (h1 : Sl 1 encI w a1 n1 p.known) (h2 : Sl 4 encNr w a2 n2 p.near) (hn1 : n1 ≤ 4000000000000000000) (hn2 : n2 ≤ 4000000000000000000) :
    Calls Tryz.prog 37 #[.slice a n c, .agg #[.int .i64 p.id, .slice a1 n1 c1, .int .i64 p.left, .int .i64 p.right, .slice a2 n2 c2]] w (KpPost N p w) := by
  have EX := Ex.refl w
  have HL := Lib.hid h.len
  obtain ⟨g3, hg3⟩ : ∃ g3, g3 = w.heap.size := ⟨_, rfl⟩
  obtain ⟨g4, hg4⟩ : ∃ g4, g4 = (w.heap.size + 1) := ⟨_, rfl⟩
  obtain ⟨w1, hw1⟩ : ∃ w1, w1 = ((w.alloc (.cells #[.int .i64 p.id, .slice a1 n1 c1, .int .i64 p.left, .int .i64 p.right, .slice a2 n2 c2] 45)).alloc (.cells #[.int .i64 0, .int .i64 0] 65)) := ⟨_, rfl⟩
  have kk : Ex w w1 := by rw [hw1]; exact (((Ex.refl w).alloc (.cells #[.int .i64 p.id, .slice a1 n1 c1, .int .i64 p.left, .int .i64 p.right, .slice a2 n2 c2] 45)).alloc (.cells #[.int .i64 0, .int .i64 0] 65))
  have B3 : Blk w1 g3 [.int .i64 p.id, .slice a1 n1 c1, .int .i64 p.left, .int .i64 p.right, .slice a2 n2 c2] 45 := by rw [hw1]; simp only [hg3, hg4]; have hbk := ((Blk.new w [.int .i64 p.id, .slice a1 n1 c1, .int .i64 p.left, .int .i64 p.right, .slice a2 n2 c2] 45).nx (Ex.new _ (.cells #[.int .i64 0, .int .i64 0] 65))); simpa using hbk
  have B4 : Blk w1 g4 [.int .i64 0, .int .i64 0] 65 := by rw [hw1]; simp only [hg3, hg4]; have hbk := (Blk.new (w.alloc (.cells #[.int .i64 p.id, .slice a1 n1 c1, .int .i64 p.left, .int .i64 p.right, .slice a2 n2 c2] 45)) [.int .i64 0, .int .i64 0] 65); simpa using hbk
  have Hw1 := Lib.hid hw1
  have Hg3 := Lib.hid hg3
  have Hg4 := Lib.hid hg4
  replace h := h.nx kk
  replace h1 := h1.nx kk
  replace h2 := h2.nx kk
  replace EX := EX.nx kk
  have zg4 : w.heap.size ≤ g4 := by omega
  clear kk hw1 hg3 hg4
  go_enter Tryz.func37, Tryz.ntmps37
  go_upto_region 1 with fail
  rw [← Hw1.out, ← Hg4.out, ← Hg3.out]
  clear Hw1 Hg4 Hg3
  have q0 := B3.cell 0 _ rfl
  have q1 := B3.cell 1 _ rfl
  have q2 := B3.cell 2 _ rfl
  have q3 := B3.cell 3 _ rfl
  have q4 := B3.cell 4 _ rfl
  have z1 := EX.size
  go_wp2_with fail
  (with_reducible refine (row_p _ _ _ N p _ _ _ _ _ _ _ h hn hc hm h1 h2 hn1 hn2).mono ?_)
  rintro e w2 ⟨v, rfl, own, kk⟩
  replace EX := EX.nx kk
  replace B3 := B3.nx kk
  replace B4 := B4.nx kk
  clear kk
  clear q0 q1 q2 q3 q4 h h1 h2
  have hrl : (arN N p).length ≤ 1000 := by
    have h1 := HL.out
    have h2 := ar_len (N := N) p
    omega
  obtain ⟨aR, cR, rfl, R1, _, _, _⟩ := own.slf (fun _ => rfl)
  have S := R1.sl
  have KN : Hid (∀ r, besN p.id (arN N p) = r → keepN N p = r) := Lib.hid (fun r hr => hr)
  have ND := Lib.hid (ar_nodup' (N := N) p)
  generalize arN N p = R at own R1 S KN ND hrl ⊢
  clear own R1
  have q0 := B3.cell 0 _ rfl
  go_wp2_with fail
  (with_reducible refine (index_e _ _ _ R p.id _ S (by omega)).mono ?_)
  rintro e w3 ⟨rfl, kk⟩
  replace S := S.nx kk
  replace EX := EX.nx kk
  replace B4 := B4.nx kk
  clear kk
  clear q0 B3
  have zw3 := EX.size
  have hl4 := B4.lt
  have B7 := Blk.new w3 [.int .i64 0, .int .i64 0] 65
  have kk := Ex.new w3 (.cells #[.int .i64 0, .int .i64 0] 65)
  obtain ⟨w4, hw4⟩ : ∃ w4, w4 = w3.alloc (.cells #[.int .i64 0, .int .i64 0] 65) := ⟨_, rfl⟩
  obtain ⟨g7, hg7⟩ : ∃ g7, g7 = w3.heap.size := ⟨_, rfl⟩
  replace B7 : Blk w4 g7 [.int .i64 0, .int .i64 0] 65 := by rw [hw4, hg7]; exact B7
  rw [← hw4] at kk
  have Hw4 := Lib.hid hw4
  have Hg7 := Lib.hid hg7
  replace EX := EX.nx kk
  replace B4 := B4.nx kk
  have zg7 : w.heap.size ≤ g7 := by omega
  have hg47 : ¬ g4 = g7 := by omega
  have KK := Lib.hid kk
  have HG7 := Lib.hid hg7
  clear kk hw4 hg7
  have hR : ¬ (-1 : Int) > 0 := by omega
  rcases idxZ_cases (fun x => p.id == x) R with ⟨k, hq, hi, hk⟩ | ⟨hq, hi⟩
  · rw [hq]
    have hk0 : (0 : Int) ≤ (k : Int) := by omega
    have HH := Lib.hid (bes_nodup ND.out (idx_here hi hk))
    clear hq hi hR
    by_cases hz : k = 0
    · subst hz
      by_cases h1 : 0 + 1 < R.length
      · obtain ⟨xr, xo, yr, rfl, hxr0, hyr, hcr⟩ := S.at h1
        have cr0 : w3.cell? ⟨xr, xo + (0 + 1), none⟩ = some (.int .i64 yr) := by simpa using hcr 0 _ rfl
        have cr := Chg.cellv KK.out cr0 hxr0
        have HYR := Lib.hid hyr
        have hxr : xr ≠ g7 := by have := HG7.out; omega
        clear hcr hyr cr0 hxr0
        have KE : Hid (keepN N p = (0, yr)) := Lib.hid (KN.out _ (by rw [HH.out, HYR.out]; rfl))
        have B4h := Lib.hid B4
        have B7h := Lib.hid B7
        have EXh := Lib.hid EX
        clear B4 B7 EX KN ND
        go_upto_region 4 with fail
        rw [← Hg7.out, ← Hw4.out]
        clear Hg7 Hw4
        obtain ⟨w5, hw5⟩ : ∃ w5, w5 = w4 := ⟨_, rfl⟩
        have cR5 := Lib.hid (fun (x : Addr) (v : Value) (_ : x.block ≠ g7) (hv : w4.cell? x = some v) => show w5.cell? x = some v by rw [hw5]; exact hv)
        rw [← hw5] at B4h B7h EXh ⊢
        have B7i := B7h.out
        have B4i := B4h.out
        have EXi := EXh.out
        clear hw5 B7h B4h EXh
        go_upto_region 6 with fail
        have B4i := Lib.hid B4i
        have B7i := Lib.hid B7i
        have EXi := Lib.hid EXi
        have cq := cR5.out _ _ hxr cr
        have f7 := B7i.out.free 1
        have r7 := B7i.out.cell 1 _ rfl
        go_upto_region 8 with fail
        obtain ⟨w6, hw6⟩ : ∃ w6, w6 = w5.setCell ⟨g7, 1, none⟩ (.int .i64 yr) := ⟨_, rfl⟩
        rw [← hw6]
        have B7j : Blk w6 g7 [.int .i64 0, .int .i64 yr] 65 := by rw [hw6]; exact B7i.out.set 1 _
        have B4j : Blk w6 g4 [.int .i64 0, .int .i64 0] 65 := by rw [hw6]; exact B4i.out.set_ne _ hg47
        have EXj : Ex w w6 := by rw [hw6]; exact EXi.out.setNew (p := ⟨g7, 1, none⟩) _ zg7
        clear hw6 f7 r7 cq cR5 B7i B4i EXi
        have p0 := B7j.cell 0 _ rfl
        have p1 := B7j.cell 1 _ rfl
        have q0 := B4j.cell 0 _ rfl
        have q1 := B4j.cell 1 _ rfl
        have f0 := B4j.free 0
        have f1 := B4j.free 1
        have KF := Lib.hid ((EXj.setNew (p := ⟨g4, 0, none⟩) (.int .i64 0) zg4).setNew (p := ⟨g4, 1, none⟩) (.int .i64 yr) zg4)
        clear B7j B4j EXj
        go_wp2_with fail
        refine bodyPost_ret (v := .agg #[.int .i64 0, .int .i64 yr]) (by simp [results, Tryz.results37, go_sem, *]) rfl ⟨by rw [KE.out], KF.out⟩
      · have hR0 : R[0 + 1]? = none := List.getElem?_eq_none (by omega)
        have HR0 := Lib.hid hR0
        clear hR0
        have KE : Hid (keepN N p = (0, 0)) := Lib.hid (KN.out _ (by rw [HH.out, HR0.out]; rfl))
        have B4h := Lib.hid B4
        have B7h := Lib.hid B7
        have EXh := Lib.hid EX
        clear B4 B7 EX KN ND
        go_upto_region 4 with fail
        rw [← Hg7.out, ← Hw4.out]
        clear Hg7 Hw4
        obtain ⟨w5, hw5⟩ : ∃ w5, w5 = w4 := ⟨_, rfl⟩
        have cR5 := Lib.hid (fun (x : Addr) (v : Value) (_ : x.block ≠ g7) (hv : w4.cell? x = some v) => show w5.cell? x = some v by rw [hw5]; exact hv)
        rw [← hw5] at B4h B7h EXh ⊢
        have B7i := B7h.out
        have B4i := B4h.out
        have EXi := EXh.out
        clear hw5 B7h B4h EXh
        go_upto_region 6 with fail
        have B4i := Lib.hid B4i
        have B7i := Lib.hid B7i
        have EXi := Lib.hid EXi
        go_upto_region 8 with fail
        obtain ⟨w6, hw6⟩ : ∃ w6, w6 = w5 := ⟨_, rfl⟩
        rw [← hw6] at B4i B7i EXi ⊢
        have B7j := B7i.out
        have B4j := B4i.out
        have EXj := EXi.out
        clear hw6 cR5 B7i B4i EXi
        have p0 := B7j.cell 0 _ rfl
        have p1 := B7j.cell 1 _ rfl
        have q0 := B4j.cell 0 _ rfl
        have q1 := B4j.cell 1 _ rfl
        have f0 := B4j.free 0
        have f1 := B4j.free 1
        have KF := Lib.hid ((EXj.setNew (p := ⟨g4, 0, none⟩) (.int .i64 0) zg4).setNew (p := ⟨g4, 1, none⟩) (.int .i64 0) zg4)
        clear B7j B4j EXj
        go_wp2_with fail
        refine bodyPost_ret (v := .agg #[.int .i64 0, .int .i64 0]) (by simp [results, Tryz.results37, go_sem, *]) rfl ⟨by rw [KE.out], KF.out⟩
    · obtain ⟨xl, xo, yl, rfl, hxl0, hyl, hcl⟩ := S.at (show k - 1 < R.length by omega)
      have cl0 : w3.cell? ⟨xl, xo + (k - 1), none⟩ = some (.int .i64 yl) := by simpa using hcl 0 _ rfl
      have cl := Chg.cellv KK.out cl0 hxl0
      have HYL := Lib.hid hyl
      have hkp : (0 : Int) < (k : Int) := by omega
      clear hcl hyl cl0
      by_cases h1 : k + 1 < R.length
      · obtain ⟨xr, xo', yr, hee, hxr0, hyr, hcr⟩ := S.at h1
        cases hee
        have cr0 : w3.cell? ⟨xl, xo + (k + 1), none⟩ = some (.int .i64 yr) := by simpa using hcr 0 _ rfl
        have cr := Chg.cellv KK.out cr0 hxr0
        have HYR := Lib.hid hyr
        have hxr : xl ≠ g7 := by have := HG7.out; omega
        clear hcr hyr cr0 hxr0
        have KE : Hid (keepN N p = (yl, yr)) := Lib.hid (KN.out _ (by rw [HH.out, HYR.out, HYL.out, if_neg hz]; rfl))
        have B4h := Lib.hid B4
        have B7h := Lib.hid B7
        have EXh := Lib.hid EX
        clear B4 B7 EX KN ND
        go_upto_region 4 with fail
        rw [← Hg7.out, ← Hw4.out]
        clear Hg7 Hw4
        have f7 := B7h.out.free 0
        have r7 := B7h.out.cell 0 _ rfl
        go_upto_region 6 with fail
        obtain ⟨w5, hw5⟩ : ∃ w5, w5 = w4.setCell ⟨g7, 0, none⟩ (.int .i64 yl) := ⟨_, rfl⟩
        rw [← hw5]
        have B7i : Blk w5 g7 [.int .i64 yl, .int .i64 0] 65 := by rw [hw5]; exact B7h.out.set 0 _
        have B4i : Blk w5 g4 [.int .i64 0, .int .i64 0] 65 := by rw [hw5]; exact B4h.out.set_ne _ hg47
        have EXi : Ex w w5 := by rw [hw5]; exact EXh.out.setNew (p := ⟨g7, 0, none⟩) _ zg7
        have cR5 := Lib.hid (fun (x : Addr) (v : Value) (hx : x.block ≠ g7) (hv : w4.cell? x = some v) => show w5.cell? x = some v by rw [hw5]; exact (World.cell?_of_block (heap_set_ne rfl hx)).trans hv)
        clear hw5 f7 r7 B7h B4h EXh
        have B4i := Lib.hid B4i
        have B7i := Lib.hid B7i
        have EXi := Lib.hid EXi
        have cq := cR5.out _ _ hxr cr
        have f7 := B7i.out.free 1
        have r7 := B7i.out.cell 1 _ rfl
        go_upto_region 8 with fail
        obtain ⟨w6, hw6⟩ : ∃ w6, w6 = w5.setCell ⟨g7, 1, none⟩ (.int .i64 yr) := ⟨_, rfl⟩
        rw [← hw6]
        have B7j : Blk w6 g7 [.int .i64 yl, .int .i64 yr] 65 := by rw [hw6]; exact B7i.out.set 1 _
        have B4j : Blk w6 g4 [.int .i64 0, .int .i64 0] 65 := by rw [hw6]; exact B4i.out.set_ne _ hg47
        have EXj : Ex w w6 := by rw [hw6]; exact EXi.out.setNew (p := ⟨g7, 1, none⟩) _ zg7
        clear hw6 f7 r7 cq cR5 B7i B4i EXi
        have p0 := B7j.cell 0 _ rfl
        have p1 := B7j.cell 1 _ rfl
        have q0 := B4j.cell 0 _ rfl
        have q1 := B4j.cell 1 _ rfl
        have f0 := B4j.free 0
        have f1 := B4j.free 1
        have KF := Lib.hid ((EXj.setNew (p := ⟨g4, 0, none⟩) (.int .i64 yl) zg4).setNew (p := ⟨g4, 1, none⟩) (.int .i64 yr) zg4)
        clear B7j B4j EXj
        go_wp2_with fail
        refine bodyPost_ret (v := .agg #[.int .i64 yl, .int .i64 yr]) (by simp [results, Tryz.results37, go_sem, *]) rfl ⟨by rw [KE.out], KF.out⟩
      · have hR0 : R[k + 1]? = none := List.getElem?_eq_none (by omega)
        have HR0 := Lib.hid hR0
        clear hR0
        have KE : Hid (keepN N p = (yl, 0)) := Lib.hid (KN.out _ (by rw [HH.out, HR0.out, HYL.out, if_neg hz]; rfl))
        have B4h := Lib.hid B4
        have B7h := Lib.hid B7
        have EXh := Lib.hid EX
        clear B4 B7 EX KN ND
        go_upto_region 4 with fail
        rw [← Hg7.out, ← Hw4.out]
        clear Hg7 Hw4
        have f7 := B7h.out.free 0
        have r7 := B7h.out.cell 0 _ rfl
        go_upto_region 6 with fail
        obtain ⟨w5, hw5⟩ : ∃ w5, w5 = w4.setCell ⟨g7, 0, none⟩ (.int .i64 yl) := ⟨_, rfl⟩
        rw [← hw5]
        have B7i : Blk w5 g7 [.int .i64 yl, .int .i64 0] 65 := by rw [hw5]; exact B7h.out.set 0 _
        have B4i : Blk w5 g4 [.int .i64 0, .int .i64 0] 65 := by rw [hw5]; exact B4h.out.set_ne _ hg47
        have EXi : Ex w w5 := by rw [hw5]; exact EXh.out.setNew (p := ⟨g7, 0, none⟩) _ zg7
        have cR5 := Lib.hid (fun (x : Addr) (v : Value) (hx : x.block ≠ g7) (hv : w4.cell? x = some v) => show w5.cell? x = some v by rw [hw5]; exact (World.cell?_of_block (heap_set_ne rfl hx)).trans hv)
        clear hw5 f7 r7 B7h B4h EXh
        have B4i := Lib.hid B4i
        have B7i := Lib.hid B7i
        have EXi := Lib.hid EXi
        go_upto_region 8 with fail
        obtain ⟨w6, hw6⟩ : ∃ w6, w6 = w5 := ⟨_, rfl⟩
        rw [← hw6] at B4i B7i EXi ⊢
        have B7j := B7i.out
        have B4j := B4i.out
        have EXj := EXi.out
        clear hw6 cR5 B7i B4i EXi
        have p0 := B7j.cell 0 _ rfl
        have p1 := B7j.cell 1 _ rfl
        have q0 := B4j.cell 0 _ rfl
        have q1 := B4j.cell 1 _ rfl
        have f0 := B4j.free 0
        have f1 := B4j.free 1
        have KF := Lib.hid ((EXj.setNew (p := ⟨g4, 0, none⟩) (.int .i64 yl) zg4).setNew (p := ⟨g4, 1, none⟩) (.int .i64 0) zg4)
        clear B7j B4j EXj
        go_wp2_with fail
        refine bodyPost_ret (v := .agg #[.int .i64 yl, .int .i64 0]) (by simp [results, Tryz.results37, go_sem, *]) rfl ⟨by rw [KE.out], KF.out⟩
  · rw [hq]
    have HH := Lib.hid (bes_none (idx_gone hi))
    clear hq hi
    have KE : Hid (keepN N p = (0, 0)) := Lib.hid (KN.out _ (by rw [HH.out]))
    have B4h := Lib.hid B4
    have B7h := Lib.hid B7
    have EXh := Lib.hid EX
    clear B4 B7 EX KN ND
    go_upto_region 4 with fail
    rw [← Hg7.out, ← Hw4.out]
    clear Hg7 Hw4
    obtain ⟨w5, hw5⟩ : ∃ w5, w5 = w4 := ⟨_, rfl⟩
    have cR5 := Lib.hid (fun (x : Addr) (v : Value) (_ : x.block ≠ g7) (hv : w4.cell? x = some v) => show w5.cell? x = some v by rw [hw5]; exact hv)
    rw [← hw5] at B4h B7h EXh ⊢
    have B7i := B7h.out
    have B4i := B4h.out
    have EXi := EXh.out
    clear hw5 B7h B4h EXh
    go_upto_region 6 with fail
    have B4i := Lib.hid B4i
    have B7i := Lib.hid B7i
    have EXi := Lib.hid EXi
    go_upto_region 8 with fail
    obtain ⟨w6, hw6⟩ : ∃ w6, w6 = w5 := ⟨_, rfl⟩
    rw [← hw6] at B4i B7i EXi ⊢
    have B7j := B7i.out
    have B4j := B4i.out
    have EXj := EXi.out
    clear hw6 cR5 B7i B4i EXi
    have p0 := B7j.cell 0 _ rfl
    have p1 := B7j.cell 1 _ rfl
    have q0 := B4j.cell 0 _ rfl
    have q1 := B4j.cell 1 _ rfl
    have f0 := B4j.free 0
    have f1 := B4j.free 1
    have KF := Lib.hid ((EXj.setNew (p := ⟨g4, 0, none⟩) (.int .i64 0) zg4).setNew (p := ⟨g4, 1, none⟩) (.int .i64 0) zg4)
    clear B7j B4j EXj
    go_wp2_with fail
    refine bodyPost_ret (v := .agg #[.int .i64 0, .int .i64 0]) (by simp [results, Tryz.results37, go_sem, *]) rfl ⟨by rw [KE.out], KF.out⟩
end Go.Proofs.YtbnbjiddffihoaaGreatDoor

/- The nearest nodes of the package redundant. -/
namespace Go.Proofs.YtbnbjiddffihoaaGreatDoor
open Go.RowKit

end Go.Proofs.YtbnbjiddffihoaaGreatDoor

/- Refs, Contacts and nearest of the reference. -/
namespace Go.Proofs.YtbnbjiddffihoaaGreatDoor
open Go.RowKit

theorem nums_len_p (p : Pr) : (numsP p).length = p.known.length + 2 + 4 * p.near.length := by
  unfold numsP
  rw [List.length_append, List.length_append, nums_len]
  rfl
def Acc (β lo hi : Nat) (w6 wr : World) (o : Value) : Prop := Chg (fun k => k < hi ∧ (k < β ∨ lo ≤ k)) w6 wr ∧ hi ≤ wr.heap.size ∧ ∀ g, o.ownBlock = some g → g < lo ∨ hi ≤ g
theorem Acc.start {β lo hi : Nat} {w : World} {o : Value} (hs : hi ≤ w.heap.size) (ho : ∀ g, o.ownBlock = some g → g < lo ∨ hi ≤ g) : Acc β lo hi w w o := ⟨Chg.refl _ _, hs, ho⟩
theorem Acc.step {β lo hi : Nat} {w6 wr w9 : World} {o o' : Value} (h : Acc β lo hi w6 wr o) (hb : ∀ g, o.ownBlock = some g → β ≤ g) (k : Chg (fun k => k < wr.heap.size ∧ ¬ o.ownBlock = some k) wr w9) (ho : o'.ownBlock = o.ownBlock ∨ ∀ g, o'.ownBlock = some g → wr.heap.size ≤ g) : Acc β lo hi w6 w9 o' := by
  refine ⟨h.1.trans (k.mono fun x hx => ⟨Nat.lt_of_lt_of_le hx.1 h.2.1, fun hv => ?_⟩), Nat.le_trans h.2.1 k.size, fun g hg => ?_⟩
  · have h1 := hb x hv
    have h2 := h.2.2 x hv
    have h3 := hx.2
    have h4 := hx.1
    omega
  · rcases ho with h1 | h1
    · exact h.2.2 g (by rw [← h1]; exact hg)
    · have := h1 g hg; have := h.2.1; omega
theorem Acc.nx {β lo hi : Nat} {w6 wr w9 : World} {o : Value} (h : Acc β lo hi w6 wr o) (k : Ex wr w9) : Acc β lo hi w6 w9 o :=
  ⟨h.1.trans (Chg.mono k fun x hx => Nat.lt_of_lt_of_le hx.1 h.2.1), Nat.le_trans h.2.1 k.size, h.2.2⟩
theorem Acc.sl {α : Type} {sz n : Nat} {enc : α → List Value} {a : Option Addr} {l : List α} {β : Nat} {w5 w6 wr : World} {o : Value} (h : Acc β w5.heap.size w6.heap.size w6 wr o) (s : Slf sz enc w5 w6 a n l) : Sl sz enc wr a n l :=
  (Rd.chg s h.1 (fun _ hk => ⟨hk.2, .inr hk.1⟩)).mono fun _ hk => Nat.lt_of_lt_of_le hk.2 h.2.1
theorem Acc.ex {w2 w6 wr : World} {lo : Nat} {o : Value} (h : Acc w2.heap.size lo w6.heap.size w6 wr o) (k : Ex w2 w6) : Ex w2 wr :=
  Chg.trans k (Chg.mono h.1 fun _ hk => ⟨Nat.lt_of_lt_of_le hk k.size, .inl hk⟩)
theorem OwnW.blk_lt {α : Type} {sz e base : Nat} {enc : α → List Value} {w : World} {v : Value} {l : List α} (h : OwnW sz enc e base w v l) {g : Nat} (hg : v.ownBlock = some g) : g < w.heap.size := by
  obtain ⟨_, cur, hh⟩ := h.blk hg
  exact heap_lt hh
end Go.Proofs.YtbnbjiddffihoaaGreatDoor

/- Intros of the package linear. -/
namespace Go.Proofs.YtbnbjiddffihoaaGreatDoor
open Go.RowKit

theorem Tryz.infoIn : (Tryz.prog.info? 89).map (fun i => (i.zero, i.size, i.bytes)) = some (some (.agg #[.int .i64 0, .int .i64 0]), 2, 16) := by kernel_rfl
def InPost (M : List (Int × Int)) (w : World) (e : Ending) (w' : World) : Prop := ∃ v, e = .returned v ∧ OwnW 2 encS 89 w.heap.size w' v M ∧ Ex w w'
def IoRel (L : List Int) (id : Int) (w : World) (o i : Value) (wr : World) : Prop :=
  ∃ k : Nat, 1 ≤ k ∧ k ≤ L.length + 1 ∧ i = .int .i64 k ∧ OwnW 2 encS 89 w.heap.size wr o (((L.zip L.tail).take (k - 1)).flatMap (pr2 id)) ∧ Ex w wr
def prT (a b : Int) : List (Int × Int) := [(a, b), (b, a)]
def notTo (id : Int) (q : Int × Int) : Bool := !(q.1 == id)
theorem prT_all (id a b : Int) : (prT a b).filter (notTo id) = pr2 id (a, b) := by
  unfold prT pr2 notTo
  by_cases h1 : a = id <;> by_cases h2 : b = id <;> simp [List.filter_cons, h1, h2]
theorem prT_snoc {id a b : Int} {q : Nat} {y : Int × Int} (hy : (prT a b)[q]? = some y) : ((prT a b).take (q + 1)).filter (notTo id) = ((prT a b).take q).filter (notTo id) ++ (if notTo id y = true then [y] else []) := by
  rw [List.take_add_one, hy, List.filter_append]
  congr 1
  simp only [Option.toList_some, List.filter_cons, List.filter_nil]
def IiRel (O : List (Int × Int)) (id a b : Int) (base lo : Nat) (w : World) (o i : Value) (wr : World) : Prop :=
  ∃ q : Nat, q ≤ 2 ∧ i = .int .i64 q ∧ OwnW 2 encS 89 base wr o (O ++ ((prT a b).take q).filter (notTo id)) ∧ Acc base lo w.heap.size w wr o
theorem litIn {wb wq : World} (h : Ex wb wq) (a b : Int) : ∃ g wn, g = wq.heap.size ∧ wn = wq.alloc (.cells #[.int .i64 a, .int .i64 b, .int .i64 b, .int .i64 a] 89) ∧ Slf 2 encS wb wn (some ⟨g, 0, none⟩) 2 (prT a b) ∧ Ex wb wn :=
  ⟨_, _, rfl, rfl, Slf.lit (prT a b) rfl h.size rfl (fun _ => rfl) rfl, h.alloc _⟩
set_option maxRecDepth 100000 in
set_option maxHeartbeats 8000000 in
theorem intros_p (a : Option Addr) (n c : Nat) (N : List Nd) (p : Pr) (a1 : Option Addr) (n1 c1 : Nat) (a2 : Option Addr) (n2 c2 : Nat) (w : World) (h : Sl 3 encN w a n N) (hn : n ≤ 1000) (hc : n ≤ c) (hm : c ≤ maxLen) (h1 : Sl 1 encI w a1 n1 p.known) (h2 : Sl 4 encNr w a2 n2 p.near) (hn1 : n1 ≤ 4000000000000000000) (hn2 : n2 ≤ 4000000000000000000) :
    Calls Tryz.prog 35 #[.slice a n c, .agg #[.int .i64 p.id, .slice a1 n1 c1, .int .i64 p.left, .int .i64 p.right, .slice a2 n2 c2]] w (InPost (introsN N p) w) := by
  have EX := Ex.refl w
  have HL := Lib.hid h.len
  have B3 := Blk.new w [.int .i64 p.id, .slice a1 n1 c1, .int .i64 p.left, .int .i64 p.right, .slice a2 n2 c2] 45
  have kk := Ex.new w (.cells #[.int .i64 p.id, .slice a1 n1 c1, .int .i64 p.left, .int .i64 p.right, .slice a2 n2 c2] 45)
  obtain ⟨w1, hw1⟩ : ∃ w1, w1 = w.alloc (.cells #[.int .i64 p.id, .slice a1 n1 c1, .int .i64 p.left, .int .i64 p.right, .slice a2 n2 c2] 45) := ⟨_, rfl⟩
  obtain ⟨g3, hg3⟩ : ∃ g3, g3 = w.heap.size := ⟨_, rfl⟩
  replace B3 : Blk w1 g3 [.int .i64 p.id, .slice a1 n1 c1, .int .i64 p.left, .int .i64 p.right, .slice a2 n2 c2] 45 := by rw [hw1, hg3]; exact B3
  rw [← hw1] at kk
  have Hw1 := Lib.hid hw1
  have Hg3 := Lib.hid hg3
  replace h := h.nx kk
  replace h1 := h1.nx kk
  replace h2 := h2.nx kk
  replace EX := EX.nx kk
  clear kk hw1 hg3
  go_enter Tryz.func35, Tryz.ntmps35
  go_upto_region 1 with fail
  rw [← Hg3.out, ← Hw1.out]
  clear Hg3 Hw1
  have q0 := B3.cell 0 _ rfl
  have q1 := B3.cell 1 _ rfl
  have q2 := B3.cell 2 _ rfl
  have q3 := B3.cell 3 _ rfl
  have q4 := B3.cell 4 _ rfl
  go_wp2_with fail
  (with_reducible refine (row_p _ _ _ N p _ _ _ _ _ _ _ h hn hc hm h1 h2 hn1 hn2).mono ?_)
  rintro e w2 ⟨v, rfl, own, kk⟩
  replace EX := EX.nx kk
  replace B3 := B3.nx kk
  clear kk
  clear q0 q1 q2 q3 q4 h h1 h2
  have hrl : (arN N p).length ≤ 1000 := by
    have h1 := HL.out
    have h2 := ar_len (N := N) p
    omega
  obtain ⟨aR, cR, rfl, R1, _, _, _⟩ := own.slf (fun _ => rfl)
  have S := Lib.hid R1.sl
  have IN : Hid (∀ M, prsN p.id (arN N p) = M → introsN N p = M) := Lib.hid (fun r hr => hr)
  generalize arN N p = R at own R1 S IN hrl ⊢
  have B3 := Lib.hid B3
  have EX2 := Lib.hid EX
  have z2 := EX.size
  clear own R1 EX
  go_wp2_with fail
  go_loopw [5, 7] (fun o i wr => IoRel R p.id w2 o i wr) (fun _ i _ => R.length + 1 - (intOf i).toNat)
  case atStart => exact ⟨1, by omega, by omega, rfl, OwnW.nil _ _ _ _ _, Ex.refl _⟩
  case round =>
    obtain ⟨k, hk1, hk, rfl, own, ki⟩ := hrel
    obtain ⟨wi, rfl⟩ : ∃ wi : World, wi = wr := ⟨_, rfl⟩
    have hol : (((R.zip R.tail).take (k - 1)).flatMap (pr2 p.id)).length ≤ 2000 := by
      have h1 := prs_take_len p.id ((R.zip R.tail).take (k - 1))
      rw [List.length_take, List.length_zip, List.length_tail] at h1
      omega
    by_cases hkm : k < R.length
    · obtain ⟨xl, xo, yl, rfl, hxl, hyl, hcl⟩ := (S.out.nx ki).at (show k - 1 < R.length by omega)
      obtain ⟨xl', xo', yr, hee, hxr, hyr, hcr⟩ := (S.out.nx ki).at hkm
      cases hee
      have CL : Hid (∀ wq, Ex wi wq → wq.cell? ⟨xl, xo + (k - 1), none⟩ = some (.int .i64 yl)) := Lib.hid (fun wq kq => Chg.cellv kq (by simpa using hcl 0 _ rfl) hxl)
      have CR : Hid (∀ wq, Ex wi wq → wq.cell? ⟨xl, xo + k, none⟩ = some (.int .i64 yr)) := Lib.hid (fun wq kq => Chg.cellv kq (by simpa using hcr 0 _ rfl) hxl)
      have SN := Lib.hid (prs_snoc (id := p.id) hyl (by rw [show k - 1 + 1 = k by omega]; exact hyr))
      generalize ((R.zip R.tail).take (k - 1)).flatMap (pr2 p.id) = O at own SN hol
      have OWN := Lib.hid own
      have KI := Lib.hid ki
      have hkp : (0 : Int) < (k : Int) := by omega
      have hwk : IntKind.i64.wrap ((k : Int) - 1) = (k : Int) - 1 := IntWalk.i64_in _ (by omega)
      have h01 : (1 : Int) ≤ (k : Int) := by omega
      have h02 : (k : Int) - 1 < (R.length : Int) := by omega
      have h03 : (k : Int) < (R.length : Int) := by omega
      have zi := ki.size
      clear hyl hyr hcl hcr own ki
      go_upto_region 6 with fail
      refine wp_region_held_drew (S := Ex wi) (by kernel_rfl) ((Ex.refl wi).drew) (fun hHeld => ?_)
      obtain ⟨wd, hwdx⟩ : ∃ wd : World, wd = World.drew wi := ⟨_, rfl⟩
      rw [← hwdx] at hHeld ⊢
      have hDrew : Ex wi wd := by rw [hwdx]; exact (Ex.refl wi).drew
      clear hwdx
      refine wpAnyH_take (i := 0) (oi := ⟨some 19, .move (.tmp 6), 22, "linear.go:52", #[], none⟩) (v := ?_) rfl (by kernel_rfl) (by kernel_rfl) (by kernel_rfl) (fun _ _ _ h => h) (Or.inl ⟨by rfl, ?hyr1x0q5⟩) (by assumption) ?restr1x0q5
      case hyr1x0q5 => intro wq hSw; (go_simp); (try with_reducible rfl)
      try simp only [Act.put, List.setIfInBounds_toArray, List.set_cons_zero, List.set_cons_succ]
      refine wpAnyH_take (i := 1) (oi := ⟨some 20, .move (.tmp 7), 3, "linear.go:52", #[], none⟩) (v := ?_) rfl (by kernel_rfl) (by kernel_rfl) (by kernel_rfl) (fun _ _ _ h => h) (Or.inl ⟨by rfl, ?hyr1x1q8⟩) (by assumption) ?restr1x1q8
      case hyr1x1q8 => intro wq hSw; (go_simp); (try with_reducible rfl)
      try simp only [Act.put, List.setIfInBounds_toArray, List.set_cons_zero, List.set_cons_succ]
      refine wpAnyH_take (i := 2) (oi := ⟨some 21, .binOp .sub 3 (.tmp 20) (.const (.int .i64 1)) 3, 3, "linear.go:52", #[⟨1, .data⟩], none⟩) (v := ?_) rfl (by kernel_rfl) (by kernel_rfl) (by kernel_rfl) (fun _ _ _ h => h) (Or.inl ⟨by rfl, ?hyr1x2q11⟩) (by assumption) ?restr1x2q11
      case hyr1x2q11 => intro wq hSw; (go_simp); (try with_reducible rfl)
      try simp only [Act.put, List.setIfInBounds_toArray, List.set_cons_zero, List.set_cons_succ]
      refine wpAnyH_take (i := 3) (oi := ⟨some 22, .indexAddr 22 (.tmp 19) (.tmp 21), 0, "linear.go:52", #[⟨0, .data⟩, ⟨2, .data⟩], none⟩) (v := ?_) rfl (by kernel_rfl) (by kernel_rfl) (by kernel_rfl) (fun _ _ _ h => h) (Or.inl ⟨by rfl, ?hyr1x3q14⟩) (by assumption) ?restr1x3q14
      case hyr1x3q14 => intro wq hSw; (go_simp); (try with_reducible rfl)
      try simp only [Act.put, List.setIfInBounds_toArray, List.set_cons_zero, List.set_cons_succ]
      refine wpAnyH_take (i := 4) (oi := ⟨some 23, .load 3 (.tmp 22), 3, "linear.go:52", #[⟨3, .data⟩], none⟩) (v := ?_) rfl (by kernel_rfl) (by kernel_rfl) (by kernel_rfl) (fun _ _ _ h => h) (Or.inl ⟨by rfl, ?hyr1x4q17⟩) (by assumption) ?restr1x4q17
      case hyr1x4q17 => intro wq hSw; (have cq := CL.out wq hSw; go_simp); (try with_reducible rfl)
      try simp only [Act.put, List.setIfInBounds_toArray, List.set_cons_zero, List.set_cons_succ]
      refine wpAnyH_take (i := 5) (oi := ⟨some 24, .move (.tmp 6), 22, "linear.go:52", #[], none⟩) (v := ?_) rfl (by kernel_rfl) (by kernel_rfl) (by kernel_rfl) (fun _ _ _ h => h) (Or.inl ⟨by rfl, ?hyr1x5q20⟩) (by assumption) ?restr1x5q20
      case hyr1x5q20 => intro wq hSw; (go_simp); (try with_reducible rfl)
      try simp only [Act.put, List.setIfInBounds_toArray, List.set_cons_zero, List.set_cons_succ]
      refine wpAnyH_take (i := 6) (oi := ⟨some 25, .move (.tmp 7), 3, "linear.go:52", #[], none⟩) (v := ?_) rfl (by kernel_rfl) (by kernel_rfl) (by kernel_rfl) (fun _ _ _ h => h) (Or.inl ⟨by rfl, ?hyr1x6q23⟩) (by assumption) ?restr1x6q23
      case hyr1x6q23 => intro wq hSw; (go_simp); (try with_reducible rfl)
      try simp only [Act.put, List.setIfInBounds_toArray, List.set_cons_zero, List.set_cons_succ]
      refine wpAnyH_take (i := 7) (oi := ⟨some 26, .indexAddr 22 (.tmp 24) (.tmp 25), 0, "linear.go:52", #[⟨5, .data⟩, ⟨6, .data⟩], none⟩) (v := ?_) rfl (by kernel_rfl) (by kernel_rfl) (by kernel_rfl) (fun _ _ _ h => h) (Or.inl ⟨by rfl, ?hyr1x7q26⟩) (by assumption) ?restr1x7q26
      case hyr1x7q26 => intro wq hSw; (go_simp); (try with_reducible rfl)
      try simp only [Act.put, List.setIfInBounds_toArray, List.set_cons_zero, List.set_cons_succ]
      refine wpAnyH_take (i := 8) (oi := ⟨some 27, .load 3 (.tmp 26), 3, "linear.go:52", #[⟨7, .data⟩], none⟩) (v := ?_) rfl (by kernel_rfl) (by kernel_rfl) (by kernel_rfl) (fun _ _ _ h => h) (Or.inl ⟨by rfl, ?hyr1x8q29⟩) (by assumption) ?restr1x8q29
      case hyr1x8q29 => intro wq hSw; (have cq := CR.out wq hSw; go_simp); (try with_reducible rfl)
      try simp only [Act.put, List.setIfInBounds_toArray, List.set_cons_zero, List.set_cons_succ]
      refine wpAnyH_take (i := 9) (oi := ⟨some 28, .build 89 #[(0, .tmp 23), (1, .tmp 27)], 89, "linear.go:52", #[⟨4, .data⟩, ⟨8, .data⟩], none⟩) (v := ?_) rfl (by kernel_rfl) (by kernel_rfl) (by kernel_rfl) (fun _ _ _ h => h) (Or.inl ⟨by rfl, ?hyr1x9q32⟩) (by assumption) ?restr1x9q32
      case hyr1x9q32 => intro wq hSw; (go_simp); (try with_reducible rfl)
      try simp only [Act.put, List.setIfInBounds_toArray, List.set_cons_zero, List.set_cons_succ]
      refine wpAnyH_take (i := 10) (oi := ⟨some 29, .move (.tmp 6), 22, "linear.go:52", #[], none⟩) (v := ?_) rfl (by kernel_rfl) (by kernel_rfl) (by kernel_rfl) (fun _ _ _ h => h) (Or.inl ⟨by rfl, ?hyr1x10q35⟩) (by assumption) ?restr1x10q35
      case hyr1x10q35 => intro wq hSw; (go_simp); (try with_reducible rfl)
      try simp only [Act.put, List.setIfInBounds_toArray, List.set_cons_zero, List.set_cons_succ]
      refine wpAnyH_take (i := 11) (oi := ⟨some 30, .move (.tmp 7), 3, "linear.go:52", #[], none⟩) (v := ?_) rfl (by kernel_rfl) (by kernel_rfl) (by kernel_rfl) (fun _ _ _ h => h) (Or.inl ⟨by rfl, ?hyr1x11q38⟩) (by assumption) ?restr1x11q38
      case hyr1x11q38 => intro wq hSw; (go_simp); (try with_reducible rfl)
      try simp only [Act.put, List.setIfInBounds_toArray, List.set_cons_zero, List.set_cons_succ]
      refine wpAnyH_take (i := 12) (oi := ⟨some 31, .indexAddr 22 (.tmp 29) (.tmp 30), 0, "linear.go:52", #[⟨10, .data⟩, ⟨11, .data⟩], none⟩) (v := ?_) rfl (by kernel_rfl) (by kernel_rfl) (by kernel_rfl) (fun _ _ _ h => h) (Or.inl ⟨by rfl, ?hyr1x12q41⟩) (by assumption) ?restr1x12q41
      case hyr1x12q41 => intro wq hSw; (go_simp); (try with_reducible rfl)
      try simp only [Act.put, List.setIfInBounds_toArray, List.set_cons_zero, List.set_cons_succ]
      refine wpAnyH_take (i := 13) (oi := ⟨some 32, .load 3 (.tmp 31), 3, "linear.go:52", #[⟨12, .data⟩], none⟩) (v := ?_) rfl (by kernel_rfl) (by kernel_rfl) (by kernel_rfl) (fun _ _ _ h => h) (Or.inl ⟨by rfl, ?hyr1x13q44⟩) (by assumption) ?restr1x13q44
      case hyr1x13q44 => intro wq hSw; (have cq := CR.out wq hSw; go_simp); (try with_reducible rfl)
      try simp only [Act.put, List.setIfInBounds_toArray, List.set_cons_zero, List.set_cons_succ]
      refine wpAnyH_take (i := 14) (oi := ⟨some 33, .move (.tmp 6), 22, "linear.go:52", #[], none⟩) (v := ?_) rfl (by kernel_rfl) (by kernel_rfl) (by kernel_rfl) (fun _ _ _ h => h) (Or.inl ⟨by rfl, ?hyr1x14q47⟩) (by assumption) ?restr1x14q47
      case hyr1x14q47 => intro wq hSw; (go_simp); (try with_reducible rfl)
      try simp only [Act.put, List.setIfInBounds_toArray, List.set_cons_zero, List.set_cons_succ]
      refine wpAnyH_take (i := 15) (oi := ⟨some 34, .move (.tmp 7), 3, "linear.go:52", #[], none⟩) (v := ?_) rfl (by kernel_rfl) (by kernel_rfl) (by kernel_rfl) (fun _ _ _ h => h) (Or.inl ⟨by rfl, ?hyr1x15q50⟩) (by assumption) ?restr1x15q50
      case hyr1x15q50 => intro wq hSw; (go_simp); (try with_reducible rfl)
      try simp only [Act.put, List.setIfInBounds_toArray, List.set_cons_zero, List.set_cons_succ]
      refine wpAnyH_take (i := 16) (oi := ⟨some 35, .binOp .sub 3 (.tmp 34) (.const (.int .i64 1)) 3, 3, "linear.go:52", #[⟨15, .data⟩], none⟩) (v := ?_) rfl (by kernel_rfl) (by kernel_rfl) (by kernel_rfl) (fun _ _ _ h => h) (Or.inl ⟨by rfl, ?hyr1x16q53⟩) (by assumption) ?restr1x16q53
      case hyr1x16q53 => intro wq hSw; (go_simp); (try with_reducible rfl)
      try simp only [Act.put, List.setIfInBounds_toArray, List.set_cons_zero, List.set_cons_succ]
      refine wpAnyH_take (i := 17) (oi := ⟨some 36, .indexAddr 22 (.tmp 33) (.tmp 35), 0, "linear.go:52", #[⟨14, .data⟩, ⟨16, .data⟩], none⟩) (v := ?_) rfl (by kernel_rfl) (by kernel_rfl) (by kernel_rfl) (fun _ _ _ h => h) (Or.inl ⟨by rfl, ?hyr1x17q56⟩) (by assumption) ?restr1x17q56
      case hyr1x17q56 => intro wq hSw; (go_simp); (try with_reducible rfl)
      try simp only [Act.put, List.setIfInBounds_toArray, List.set_cons_zero, List.set_cons_succ]
      refine wpAnyH_take (i := 18) (oi := ⟨some 37, .load 3 (.tmp 36), 3, "linear.go:52", #[⟨17, .data⟩], none⟩) (v := ?_) rfl (by kernel_rfl) (by kernel_rfl) (by kernel_rfl) (fun _ _ _ h => h) (Or.inl ⟨by rfl, ?hyr1x18q59⟩) (by assumption) ?restr1x18q59
      case hyr1x18q59 => intro wq hSw; (have cq := CL.out wq hSw; go_simp); (try with_reducible rfl)
      try simp only [Act.put, List.setIfInBounds_toArray, List.set_cons_zero, List.set_cons_succ]
      refine wpAnyH_take (i := 19) (oi := ⟨some 38, .build 89 #[(0, .tmp 32), (1, .tmp 37)], 89, "linear.go:52", #[⟨13, .data⟩, ⟨18, .data⟩], none⟩) (v := ?_) rfl (by kernel_rfl) (by kernel_rfl) (by kernel_rfl) (fun _ _ _ h => h) (Or.inl ⟨by rfl, ?hyr1x19q62⟩) (by assumption) ?restr1x19q62
      case hyr1x19q62 => intro wq hSw; (go_simp); (try with_reducible rfl)
      try simp only [Act.put, List.setIfInBounds_toArray, List.set_cons_zero, List.set_cons_succ]
      refine wpAnyH_take (i := 22) (oi := ⟨some 41, .move (.const (.int .i64 0)), 3, "linear.go:52", #[], none⟩) (v := ?_) rfl (by kernel_rfl) (by kernel_rfl) (by kernel_rfl) (fun _ _ _ h => h) (Or.inl ⟨by rfl, ?hyr1x22q65⟩) (by assumption) ?restr1x22q65
      case hyr1x22q65 => intro wq hSw; (go_simp); (try with_reducible rfl)
      try simp only [Act.put, List.setIfInBounds_toArray, List.set_cons_zero, List.set_cons_succ]
      refine wpAnyH_ready (rs := [20]) (by kernel_rfl) (by simp) ?_
      refine AllReadyH.cons (o := ⟨some 39, .buildSlice 62 2 #[(0, .tmp 28), (1, .tmp 38)], 62, "linear.go:52", #[⟨9, .data⟩, ⟨19, .data⟩], none⟩) rfl (fun K hK => ?_) AllReadyH.nil
      go_simp
      obtain ⟨g9, w3, hg9, hw3, SL, kk⟩ := litIn hHeld yl yr
      rw [← hg9, ← hw3]
      replace hHeld := kk
      clear hg9 hw3 kk
      refine hK.out _ _ (hHeld) (fun hHeld => ?_)
      clear hK K
      try simp only [Act.put, List.setIfInBounds_toArray, List.set_cons_zero, List.set_cons_succ]
      refine wpAnyH_take (i := 21) (oi := ⟨some 40, .call { callee := .builtin .len, args := #[.tmp 39], argTypes := #[62] }, 3, "linear.go:52", #[⟨20, .data⟩], none⟩) (v := ?_) rfl (by kernel_rfl) (by kernel_rfl) (by kernel_rfl) (fun _ _ _ h => h) (Or.inl ⟨by rfl, ?hyr1x21q78⟩) (by assumption) ?restr1x21q78
      case hyr1x21q78 => intro wq hSw; (go_simp); (try with_reducible rfl)
      try simp only [Act.put, List.setIfInBounds_toArray, List.set_cons_zero, List.set_cons_succ]
      refine wpAnyH_done (by kernel_rfl) ?_ _
      have SLh := Lib.hid SL
      have K3 := Lib.hid hHeld
      have OW3 := Lib.hid (OWN.out.nx hHeld)
      have z3 := hHeld.size
      have A0 := Lib.hid (Acc.start (β := w2.heap.size) (lo := wi.heap.size) (Nat.le_refl w3.heap.size) (fun g hg => .inl (OWN.out.blk_lt (g := g) hg)))
      clear SL hHeld OWN
      go_wp2_with fail
      go_loopw [5, 41] (fun o i wr => IiRel O p.id yl yr w2.heap.size wi.heap.size w3 o i wr) (fun _ i _ => 2 - (intOf i).toNat)
      case atStart => exact ⟨0, by omega, rfl, by simpa using OW3.out, A0.out⟩
      case round =>
        clear OW3 A0
        obtain ⟨q, hq, rfl, own, ac⟩ := hrel
        obtain ⟨wj, rfl⟩ : ∃ wj : World, wj = wr := ⟨_, rfl⟩
        have hql : (O ++ ((prT yl yr).take q).filter (notTo p.id)).length ≤ 100000 := by
          rw [List.length_append]
          have h1 := List.length_filter_le (notTo p.id) ((prT yl yr).take q)
          rw [List.length_take] at h1
          omega
        by_cases hq2 : q < 2
        · obtain ⟨x9, o9, y, hee, hx9, hy, hc9⟩ := (ac.sl SLh.out).at hq2
          cases hee
          have e0 : wj.cell? ⟨g9, q * 2, none⟩ = some (.int .i64 y.1) := by simpa using hc9 0 _ rfl
          have e1 : wj.cell? ⟨g9, q * 2 + 1, none⟩ = some (.int .i64 y.2) := by simpa using hc9 1 _ rfl
          have SQ := Lib.hid (prT_snoc (id := p.id) hy)
          generalize ((prT yl yr).take q).filter (notTo p.id) = F at own SQ hql
          have AC := Lib.hid ac
          have zb0 := (ac.ex (KI.out.nx K3.out)).size
          clear hy hc9 ac
          have B9 := Blk.new wj [.int .i64 y.1, .int .i64 y.2] 89
          have kk := Ex.new wj (.cells #[.int .i64 y.1, .int .i64 y.2] 89)
          obtain ⟨w4, hw4⟩ : ∃ w4, w4 = wj.alloc (.cells #[.int .i64 y.1, .int .i64 y.2] 89) := ⟨_, rfl⟩
          obtain ⟨g10, hg10⟩ : ∃ g10, g10 = wj.heap.size := ⟨_, rfl⟩
          replace B9 : Blk w4 g10 [.int .i64 y.1, .int .i64 y.2] 89 := by rw [hw4, hg10]; exact B9
          rw [← hw4] at kk
          have Hw4 := Lib.hid hw4
          have Hg10 := Lib.hid hg10
          replace own := own.nx kk
          have AC4 := Lib.hid (AC.out.nx kk)
          have zb : w2.heap.size ≤ w4.heap.size := Nat.le_trans zb0 kk.size
          clear kk hw4 hg10
          go_upto_region 9 with fail
          rw [← Hg10.out, ← Hw4.out]
          clear Hg10 Hw4
          have q0 := B9.cell 0 _ rfl
          have q1 := B9.cell 1 _ rfl
          have qp := (B3.out.nx (AC4.out.ex (KI.out.nx K3.out))).cell 0 _ rfl
          clear e0 e1 B9
          cases hT : notTo p.id y with
          | true =>
            have d1 : (y.1 != p.id) = true := hT
            have SF := Lib.hid (show ((prT yl yr).take (q + 1)).filter (notTo p.id) = F ++ [y] by rw [SQ.out, if_pos hT])
            have kl := Ex.new w4 (.cells #[.int .i64 y.1, .int .i64 y.2] 89)
            have own7 := own.nx kl
            have zc := Nat.le_trans zb kl.size
            clear hT
            go_wp2_with (at_builtin; (refine wpList_append_W (enc := encS) _ rfl _ _ 62 rfl w2.heap.size 89 (.agg #[.int .i64 0, .int .i64 0]) 2 16 Tryz.underlying62 Tryz.infoIn rfl (by omega) (by omega) _ _ own7 rfl _ 1 1 [y] (Sl.lit _ rfl rfl (fun _ => rfl) rfl) (fun _ => rfl) (by simp [encS, Value.oneCell']) rfl (by omega) (by omega) zc ?_); intro v6 w6 own6 ch0 ch1 hv)
            exact ⟨⟨q + 1, by omega, by go_num, by rw [SF.out, ← List.append_assoc]; exact own6, (AC4.out.nx kl).step (fun g hg => (own7.blk hg).1) ch0 hv⟩, by simp [intOf]; omega⟩
          | false =>
            have d1 : (y.1 != p.id) = false := hT
            have SF := Lib.hid (show ((prT yl yr).take (q + 1)).filter (notTo p.id) = F by rw [SQ.out, hT]; simp)
            have OF := Lib.hid own
            clear hT own
            go_wp2_with fail
            exact ⟨⟨q + 1, by omega, by go_num, by rw [SF.out]; exact OF.out, AC4.out⟩, by simp [intOf]; omega⟩
        · obtain rfl : q = 2 := by omega
          have OF := Lib.hid own
          have KF := Lib.hid (ac.ex (KI.out.nx K3.out))
          clear own ac hq hq2
          go_wp2_with fail
          refine ⟨⟨k + 1, by omega, by omega, by go_num, ?_, KF.out⟩, by simp [intOf]; omega⟩
          rw [show k + 1 - 1 = k - 1 + 1 by omega, SN.out, ← prT_all]
          exact OF.out
    · have HI : Hid (introsN N p = ((R.zip R.tail).take (k - 1)).flatMap (pr2 p.id)) := Lib.hid (IN.out _ (prs_all (by omega)).symm)
      generalize ((R.zip R.tail).take (k - 1)).flatMap (pr2 p.id) = O at own HI
      have FO := Lib.hid (own.lower z2)
      have FE := Lib.hid (EX2.out.nx ki)
      clear own ki
      go_wp2_with fail
      go_ret
      exact ⟨_, rfl, by rw [HI.out]; exact FO.out, FE.out⟩
end Go.Proofs.YtbnbjiddffihoaaGreatDoor

/- Numbers and Refs of the reference, whatever capacity a nil list bears. -/
namespace Go.Proofs.YtbnbjiddffihoaaGreatDoor
open Go.RowKit

set_option maxRecDepth 100000 in
set_option maxHeartbeats 8000000 in
theorem numbers_q (p : Pr) (a1 : Option Addr) (n1 c1 : Nat) (a2 : Option Addr) (n2 c2 : Nat) (w : World) (h1 : Sl 1 encI w a1 n1 p.known) (h2 : Sl 4 encNr w a2 n2 p.near) (hn1 : n1 ≤ 2000000) (hn2 : n2 ≤ 2000000) :
    Calls Tryz.prog 131 #[.agg #[.int .i64 p.id, .slice a1 n1 c1, .int .i64 p.left, .int .i64 p.right, .slice a2 n2 c2]] w (OiPost (numsP p) w) := by
  obtain ⟨id, lf, rt, kn, nr⟩ := p
  have HN : Hid (numsP ⟨id, lf, rt, kn, nr⟩ = (kn ++ [lf, rt]) ++ nr.flatMap nums4) := Lib.hid rfl
  have hkl : kn.length ≤ 2000000 := by have : kn.length = n1 := h1.len; omega
  have hnl : nr.length = n2 := h2.len
  have hw0 := Nat.le_refl w.heap.size
  simp only at h1 h2 ⊢
  have B1 := Blk.new w [.int .i64 id, .slice a1 n1 c1, .int .i64 lf, .int .i64 rt, .slice a2 n2 c2] 45
  have kk := Ex.new w (.cells #[.int .i64 id, .slice a1 n1 c1, .int .i64 lf, .int .i64 rt, .slice a2 n2 c2] 45)
  obtain ⟨w1, hw1⟩ : ∃ w1, w1 = w.alloc (.cells #[.int .i64 id, .slice a1 n1 c1, .int .i64 lf, .int .i64 rt, .slice a2 n2 c2] 45) := ⟨_, rfl⟩
  obtain ⟨g, hg⟩ : ∃ g, g = w.heap.size := ⟨_, rfl⟩
  replace B1 : Blk w1 g [.int .i64 id, .slice a1 n1 c1, .int .i64 lf, .int .i64 rt, .slice a2 n2 c2] 45 := by rw [hw1, hg]; exact B1
  rw [← hw1] at kk
  have Hw1 := Lib.hid hw1
  have Hg := Lib.hid hg
  replace h1 := h1.nx kk
  replace h2 := h2.nx kk
  have hz1 := kk.size
  have K1 := Lib.hid kk
  have S1 := Lib.hid h1
  have S2 := Lib.hid h2
  clear h1 h2 kk hw1 hg
  go_enter Tryz.func131, Tryz.ntmps131
  go_upto_region 1 with fail
  rw [← Hg.out, ← Hw1.out]
  clear Hg Hw1
  have BH := Lib.hid B1
  clear B1
  go_cut [3] from 5 to 14 (fun s3 wx => NmCut (kn ++ [lf, rt]) w1 s3 wx)
  case first =>
    refine wp_region_held_drew (S := Ex w1) (by kernel_rfl) ((Ex.refl w1).drew) (fun hHeld => ?_)
    refine wpAnyH_take (i := 0) (oi := ⟨some 5, .fieldAddr 45 (.tmp 1) 1, 0, "ref.go:117", #[], none⟩) (v := ?_) rfl (by kernel_rfl) (by kernel_rfl) (by kernel_rfl) (fun _ _ _ h => h) (Or.inl ⟨by rfl, ?hyr1x0q1⟩) (by assumption) ?restr1x0q1
    case hyr1x0q1 => intro wq hSw; (go_simp); (try with_reducible rfl)
    try simp only [Act.put, List.setIfInBounds_toArray, List.set_cons_zero, List.set_cons_succ]
    refine wpAnyH_take (i := 1) (oi := ⟨some 6, .load 22 (.tmp 5), 22, "ref.go:117", #[⟨0, .data⟩], none⟩) (v := ?_) rfl (by kernel_rfl) (by kernel_rfl) (by kernel_rfl) (fun _ _ _ h => h) (Or.inl ⟨by rfl, ?hyr1x1q4⟩) (by assumption) ?restr1x1q4
    case hyr1x1q4 => intro wq hSw; (have cq := (BH.out.nx hSw).cell 1 _ rfl; go_simp); (try with_reducible rfl)
    try simp only [Act.put, List.setIfInBounds_toArray, List.set_cons_zero, List.set_cons_succ]
    refine wpAnyH_take (i := 3) (oi := ⟨some 8, .fieldAddr 45 (.tmp 1) 2, 0, "ref.go:117", #[], none⟩) (v := ?_) rfl (by kernel_rfl) (by kernel_rfl) (by kernel_rfl) (fun _ _ _ h => h) (Or.inl ⟨by rfl, ?hyr1x3q7⟩) (by assumption) ?restr1x3q7
    case hyr1x3q7 => intro wq hSw; (go_simp); (try with_reducible rfl)
    try simp only [Act.put, List.setIfInBounds_toArray, List.set_cons_zero, List.set_cons_succ]
    refine wpAnyH_take (i := 4) (oi := ⟨some 9, .load 3 (.tmp 8), 3, "ref.go:117", #[⟨3, .data⟩], none⟩) (v := ?_) rfl (by kernel_rfl) (by kernel_rfl) (by kernel_rfl) (fun _ _ _ h => h) (Or.inl ⟨by rfl, ?hyr1x4q10⟩) (by assumption) ?restr1x4q10
    case hyr1x4q10 => intro wq hSw; (have cq := (BH.out.nx hSw).cell 2 _ rfl; go_simp); (try with_reducible rfl)
    try simp only [Act.put, List.setIfInBounds_toArray, List.set_cons_zero, List.set_cons_succ]
    refine wpAnyH_take (i := 5) (oi := ⟨some 10, .fieldAddr 45 (.tmp 1) 3, 0, "ref.go:117", #[], none⟩) (v := ?_) rfl (by kernel_rfl) (by kernel_rfl) (by kernel_rfl) (fun _ _ _ h => h) (Or.inl ⟨by rfl, ?hyr1x5q13⟩) (by assumption) ?restr1x5q13
    case hyr1x5q13 => intro wq hSw; (go_simp); (try with_reducible rfl)
    try simp only [Act.put, List.setIfInBounds_toArray, List.set_cons_zero, List.set_cons_succ]
    refine wpAnyH_take (i := 6) (oi := ⟨some 11, .load 3 (.tmp 10), 3, "ref.go:117", #[⟨5, .data⟩], none⟩) (v := ?_) rfl (by kernel_rfl) (by kernel_rfl) (by kernel_rfl) (fun _ _ _ h => h) (Or.inl ⟨by rfl, ?hyr1x6q16⟩) (by assumption) ?restr1x6q16
    case hyr1x6q16 => intro wq hSw; (have cq := (BH.out.nx hSw).cell 3 _ rfl; go_simp); (try with_reducible rfl)
    try simp only [Act.put, List.setIfInBounds_toArray, List.set_cons_zero, List.set_cons_succ]
    refine wpAnyH_ready (rs := [2, 7]) (by kernel_rfl) (by simp) ?_
    refine AllReadyH.cons (o := ⟨some 7, .call { callee := .builtin .append, args := #[.const (.slice none 0 0), .tmp 6], argTypes := #[22, 22] }, 22, "ref.go:117", #[⟨1, .data⟩], none⟩) rfl (fun K hK => ?_) ?_
    · rw [if_pos (by rfl)]
      have s0 := S1.out.nx hHeld
      have z0 := Ex.size hHeld
      refine wp_append_rq (enc := encI) _ (.const (.slice none 0 0)) (.tmp 6) 22 rfl w1.heap.size 3 (.int .i64 0) 1 8 Tryz.underlying22 Tryz.infoI6 rfl (by omega) (by omega) _ [] (OwnL.nil _ _ _ _ _) rfl _ n1 c1 kn s0 (fun _ => rfl) (by simp [encI, Value.oneCell']) rfl (by simp) (by omega) z0 ?_
      intro v7 w7 own7 ch0 ch1
      have k7 : Ex _ w7 := ch0.mono (fun k hk => ⟨hk, by simp [Value.ownBlock]⟩)
      (try replace L8 := L8.nx k7)
      have j7 : Ex w1 w7 := Chg.trans hHeld ch1
      rw [List.nil_append] at own7
      clear ch0 ch1 s0 z0 k7 hHeld
      have hHeld := j7
      clear j7
      refine hK.out _ _ (hHeld) (fun hHeld => ?_)
      clear hK K
      try simp only [Act.put, List.setIfInBounds_toArray, List.set_cons_zero, List.set_cons_succ]
      refine wpAnyH_ready (rs := [7]) (by kernel_rfl) (by simp) ?_
      refine AllReadyH.cons (o := ⟨some 12, .buildSlice 22 2 #[(0, .tmp 9), (1, .tmp 11)], 22, "ref.go:117", #[⟨4, .data⟩, ⟨6, .data⟩], none⟩) rfl (fun K hK => ?_) AllReadyH.nil
      go_simp
      obtain ⟨g8, u8, hg8, hu8, L8, k8, j8⟩ := lit2 hHeld lf rt
      (try replace own7 := own7.nx k8)
      (first | rw [← hg8, ← hu8] | (rw [show w1.drew.heap.size = w1.heap.size from rfl] at hg8; rw [← hg8, show ∀ o, (w1.alloc o).drew = w1.drew.alloc o from fun _ => rfl, ← hu8]))
      clear hg8 hu8 k8 hHeld
      have hHeld := j8
      clear j8
      refine hK.out _ _ (hHeld) (fun hHeld => ?_)
      clear hK K
      try simp only [Act.put, List.setIfInBounds_toArray, List.set_cons_zero, List.set_cons_succ]
      refine wpAnyH_ready (rs := [8]) (by kernel_rfl) (by simp) ?_
      refine AllReadyH.cons (o := ⟨some 13, .call { callee := .builtin .append, args := #[.tmp 7, .tmp 12], argTypes := #[22, 22] }, 22, "ref.go:117", #[⟨2, .data⟩, ⟨7, .data⟩, ⟨2, .chain⟩], none⟩) rfl (fun K hK => ?_) AllReadyH.nil
      rw [if_pos (by rfl)]
      have z0 := Ex.size hHeld
      refine wp_append_rd (enc := encI) _ (.tmp 7) (.tmp 12) 22 rfl w1.heap.size 3 (.int .i64 0) 1 8 Tryz.underlying22 Tryz.infoI6 rfl (by omega) (by omega) _ kn own7 rfl _ _ 2 2 [lf, rt] L8 (fun h => by cases h) (fun _ => rfl) (by simp [encI, Value.oneCell']) rfl (by omega) (by omega) z0 ?_
      intro v9 w9 own9 ch0 ch1
      have j9 : Ex w1 w9 := Chg.trans hHeld ch1
      clear ch0 ch1 z0 own7 L8 hHeld
      have hHeld := j9
      clear j9
      refine hK.out _ _ (hHeld) (fun hHeld => ?_)
      clear hK K
      try simp only [Act.put, List.setIfInBounds_toArray, List.set_cons_zero, List.set_cons_succ]
      refine wpAnyH_take (i := 9) (oi := ⟨some 3, .assign (.tmp 13), 22, "ref.go:117", #[⟨8, .data⟩, ⟨8, .chain⟩, ⟨0, .phase⟩, ⟨1, .phase⟩, ⟨2, .phase⟩, ⟨3, .phase⟩, ⟨4, .phase⟩, ⟨5, .phase⟩, ⟨6, .phase⟩, ⟨7, .phase⟩, ⟨8, .phase⟩], none⟩) (v := ?_) rfl (by kernel_rfl) (by kernel_rfl) (by kernel_rfl) (fun _ _ _ h => h) (Or.inl ⟨by rfl, ?hyr1x9q61⟩) (by assumption) ?restr1x9q61
      case hyr1x9q61 => intro wq hSw; (go_simp); (try with_reducible rfl)
      try simp only [Act.put, List.setIfInBounds_toArray, List.set_cons_zero, List.set_cons_succ]
      refine wpAnyH_done (by kernel_rfl) ?_ _
      go_wp2_with fail
      go_meet
      exact ⟨own9, hHeld⟩
    refine AllReadyH.cons (o := ⟨some 12, .buildSlice 22 2 #[(0, .tmp 9), (1, .tmp 11)], 22, "ref.go:117", #[⟨4, .data⟩, ⟨6, .data⟩], none⟩) rfl (fun K hK => ?_) AllReadyH.nil
    · go_simp
      obtain ⟨g8, u8, hg8, hu8, L8, k8, j8⟩ := lit2 hHeld lf rt
      (try replace own7 := own7.nx k8)
      (first | rw [← hg8, ← hu8] | (rw [show w1.drew.heap.size = w1.heap.size from rfl] at hg8; rw [← hg8, show ∀ o, (w1.alloc o).drew = w1.drew.alloc o from fun _ => rfl, ← hu8]))
      clear hg8 hu8 k8 hHeld
      have hHeld := j8
      clear j8
      refine hK.out _ _ (hHeld) (fun hHeld => ?_)
      clear hK K
      try simp only [Act.put, List.setIfInBounds_toArray, List.set_cons_zero, List.set_cons_succ]
      refine wpAnyH_ready (rs := [2]) (by kernel_rfl) (by simp) ?_
      refine AllReadyH.cons (o := ⟨some 7, .call { callee := .builtin .append, args := #[.const (.slice none 0 0), .tmp 6], argTypes := #[22, 22] }, 22, "ref.go:117", #[⟨1, .data⟩], none⟩) rfl (fun K hK => ?_) AllReadyH.nil
      rw [if_pos (by rfl)]
      have s0 := S1.out.nx hHeld
      have z0 := Ex.size hHeld
      refine wp_append_rq (enc := encI) _ (.const (.slice none 0 0)) (.tmp 6) 22 rfl w1.heap.size 3 (.int .i64 0) 1 8 Tryz.underlying22 Tryz.infoI6 rfl (by omega) (by omega) _ [] (OwnL.nil _ _ _ _ _) rfl _ n1 c1 kn s0 (fun _ => rfl) (by simp [encI, Value.oneCell']) rfl (by simp) (by omega) z0 ?_
      intro v7 w7 own7 ch0 ch1
      have k7 : Ex _ w7 := ch0.mono (fun k hk => ⟨hk, by simp [Value.ownBlock]⟩)
      (try replace L8 := L8.nx k7)
      have j7 : Ex w1 w7 := Chg.trans hHeld ch1
      rw [List.nil_append] at own7
      clear ch0 ch1 s0 z0 k7 hHeld
      have hHeld := j7
      clear j7
      refine hK.out _ _ (hHeld) (fun hHeld => ?_)
      clear hK K
      try simp only [Act.put, List.setIfInBounds_toArray, List.set_cons_zero, List.set_cons_succ]
      refine wpAnyH_ready (rs := [8]) (by kernel_rfl) (by simp) ?_
      refine AllReadyH.cons (o := ⟨some 13, .call { callee := .builtin .append, args := #[.tmp 7, .tmp 12], argTypes := #[22, 22] }, 22, "ref.go:117", #[⟨2, .data⟩, ⟨7, .data⟩, ⟨2, .chain⟩], none⟩) rfl (fun K hK => ?_) AllReadyH.nil
      rw [if_pos (by rfl)]
      have z0 := Ex.size hHeld
      refine wp_append_rd (enc := encI) _ (.tmp 7) (.tmp 12) 22 rfl w1.heap.size 3 (.int .i64 0) 1 8 Tryz.underlying22 Tryz.infoI6 rfl (by omega) (by omega) _ kn own7 rfl _ _ 2 2 [lf, rt] L8 (fun h => by cases h) (fun _ => rfl) (by simp [encI, Value.oneCell']) rfl (by omega) (by omega) z0 ?_
      intro v9 w9 own9 ch0 ch1
      have j9 : Ex w1 w9 := Chg.trans hHeld ch1
      clear ch0 ch1 z0 own7 L8 hHeld
      have hHeld := j9
      clear j9
      refine hK.out _ _ (hHeld) (fun hHeld => ?_)
      clear hK K
      try simp only [Act.put, List.setIfInBounds_toArray, List.set_cons_zero, List.set_cons_succ]
      refine wpAnyH_take (i := 9) (oi := ⟨some 3, .assign (.tmp 13), 22, "ref.go:117", #[⟨8, .data⟩, ⟨8, .chain⟩, ⟨0, .phase⟩, ⟨1, .phase⟩, ⟨2, .phase⟩, ⟨3, .phase⟩, ⟨4, .phase⟩, ⟨5, .phase⟩, ⟨6, .phase⟩, ⟨7, .phase⟩, ⟨8, .phase⟩], none⟩) (v := ?_) rfl (by kernel_rfl) (by kernel_rfl) (by kernel_rfl) (fun _ _ _ h => h) (Or.inl ⟨by rfl, ?hyr1x9q107⟩) (by assumption) ?restr1x9q107
      case hyr1x9q107 => intro wq hSw; (go_simp); (try with_reducible rfl)
      try simp only [Act.put, List.setIfInBounds_toArray, List.set_cons_zero, List.set_cons_succ]
      refine wpAnyH_done (by kernel_rfl) ?_ _
      go_wp2_with fail
      go_meet
      exact ⟨own9, hHeld⟩
  case rest =>
    obtain ⟨own, kk⟩ := hcut
    have hl0 : (kn ++ [lf, rt]).length ≤ 2000002 := by simp; omega
    generalize kn ++ [lf, rt] = l0 at own HN hl0
    have OWN := Lib.hid own
    have KC := Lib.hid kk
    clear own kk
    go_wp2_with fail
    go_loopw [3, 4] (fun o i wr => NmRel l0 nr w1 o i wr) (fun _ i _ => nr.length - (intOf i).toNat)
    case atStart => exact ⟨0, by omega, rfl, by simpa using OWN.out, KC.out⟩
    case round =>
      obtain ⟨j, hj, rfl, own, ki⟩ := hrel
      obtain ⟨wi, rfl⟩ : ∃ wi : World, wi = wr := ⟨_, rfl⟩
      have b4 := (BH.out.nx ki).cell 4 _ rfl
      by_cases hjm : j < n2
      · obtain ⟨x3, o3, y, rfl, hx3, hy, hc3⟩ := S2.out.at hjm
        have e0 : w1.cell? ⟨x3, o3 + j * 4, none⟩ = some (.int .i64 y.1) := hc3 0 _ rfl
        have e1 : w1.cell? ⟨x3, o3 + j * 4 + 1, none⟩ = some (.int .i64 y.2.1) := hc3 1 _ rfl
        have e2 : w1.cell? ⟨x3, o3 + j * 4 + 2, none⟩ = some (.int .i64 y.2.2.1) := hc3 2 _ rfl
        have e3 : w1.cell? ⟨x3, o3 + j * 4 + 3, none⟩ = some (.int .i64 y.2.2.2) := hc3 3 _ rfl
        have SN := Lib.hid (nm_snoc (l0 := l0) hy)
        have hrl : (l0 ++ (nr.take j).flatMap nums4).length ≤ 50000000 := by
          rw [List.length_append, nums_len, List.length_take]
          omega
        generalize l0 ++ (nr.take j).flatMap nums4 = row at own SN hrl
        have E := Lib.hid (show ∀ wq, Ex w1 wq → wq.cell? ⟨x3, o3 + j * 4, none⟩ = some (.int .i64 y.1) ∧ wq.cell? ⟨x3, o3 + j * 4 + 1, none⟩ = some (.int .i64 y.2.1) ∧ wq.cell? ⟨x3, o3 + j * 4 + 2, none⟩ = some (.int .i64 y.2.2.1) ∧ wq.cell? ⟨x3, o3 + j * 4 + 3, none⟩ = some (.int .i64 y.2.2.2) from fun wq k => ⟨Chg.cellv k e0 hx3, Chg.cellv k e1 hx3, Chg.cellv k e2 hx3, Chg.cellv k e3 hx3⟩)
        have zb := ki.size
        have KI := Lib.hid ki
        have OWN := Lib.hid (own.nx (Ex.drew (Ex.refl wi)))
        clear hy hc3 e0 e1 e2 e3 own ki
        go_upto_region 5 with fail
        clear b4
        refine wp_region_held_drew (S := Ex w1) (by kernel_rfl) (KI.out.drew) (fun hHeld => ?_)
        refine wpAnyH_take (i := 0) (oi := ⟨some 21, .move (.tmp 3), 22, "ref.go:119", #[], none⟩) (v := ?_) rfl (by kernel_rfl) (by kernel_rfl) (by kernel_rfl) (fun _ _ _ h => h) (Or.inl ⟨by rfl, ?hyr2x0q1⟩) (by assumption) ?restr2x0q1
        case hyr2x0q1 => intro wq hSw; (go_simp); (try with_reducible rfl)
        try simp only [Act.put, List.setIfInBounds_toArray, List.set_cons_zero, List.set_cons_succ]
        refine wpAnyH_take (i := 1) (oi := ⟨some 22, .fieldAddr 45 (.tmp 1) 4, 0, "ref.go:119", #[], none⟩) (v := ?_) rfl (by kernel_rfl) (by kernel_rfl) (by kernel_rfl) (fun _ _ _ h => h) (Or.inl ⟨by rfl, ?hyr2x1q4⟩) (by assumption) ?restr2x1q4
        case hyr2x1q4 => intro wq hSw; (go_simp); (try with_reducible rfl)
        try simp only [Act.put, List.setIfInBounds_toArray, List.set_cons_zero, List.set_cons_succ]
        refine wpAnyH_take (i := 2) (oi := ⟨some 23, .load 43 (.tmp 22), 43, "ref.go:119", #[⟨1, .data⟩], none⟩) (v := ?_) rfl (by kernel_rfl) (by kernel_rfl) (by kernel_rfl) (fun _ _ _ h => h) (Or.inl ⟨by rfl, ?hyr2x2q7⟩) (by assumption) ?restr2x2q7
        case hyr2x2q7 => intro wq hSw; (have cq := (BH.out.nx hSw).cell 4 _ rfl; go_simp); (try with_reducible rfl)
        try simp only [Act.put, List.setIfInBounds_toArray, List.set_cons_zero, List.set_cons_succ]
        refine wpAnyH_take (i := 3) (oi := ⟨some 24, .move (.tmp 4), 3, "ref.go:119", #[], none⟩) (v := ?_) rfl (by kernel_rfl) (by kernel_rfl) (by kernel_rfl) (fun _ _ _ h => h) (Or.inl ⟨by rfl, ?hyr2x3q10⟩) (by assumption) ?restr2x3q10
        case hyr2x3q10 => intro wq hSw; (go_simp); (try with_reducible rfl)
        try simp only [Act.put, List.setIfInBounds_toArray, List.set_cons_zero, List.set_cons_succ]
        refine wpAnyH_take (i := 4) (oi := ⟨some 25, .indexAddr 43 (.tmp 23) (.tmp 24), 0, "ref.go:119", #[⟨2, .data⟩, ⟨3, .data⟩], none⟩) (v := ?_) rfl (by kernel_rfl) (by kernel_rfl) (by kernel_rfl) (fun _ _ _ h => h) (Or.inl ⟨by rfl, ?hyr2x4q13⟩) (by assumption) ?restr2x4q13
        case hyr2x4q13 => intro wq hSw; (go_simp); (try with_reducible rfl)
        try simp only [Act.put, List.setIfInBounds_toArray, List.set_cons_zero, List.set_cons_succ]
        refine wpAnyH_take (i := 5) (oi := ⟨some 26, .fieldAddr 49 (.tmp 25) 0, 0, "ref.go:119", #[⟨4, .data⟩], none⟩) (v := ?_) rfl (by kernel_rfl) (by kernel_rfl) (by kernel_rfl) (fun _ _ _ h => h) (Or.inl ⟨by rfl, ?hyr2x5q16⟩) (by assumption) ?restr2x5q16
        case hyr2x5q16 => intro wq hSw; (go_simp); (try with_reducible rfl)
        try simp only [Act.put, List.setIfInBounds_toArray, List.set_cons_zero, List.set_cons_succ]
        refine wpAnyH_take (i := 6) (oi := ⟨some 27, .load 3 (.tmp 26), 3, "ref.go:119", #[⟨5, .data⟩], none⟩) (v := ?_) rfl (by kernel_rfl) (by kernel_rfl) (by kernel_rfl) (fun _ _ _ h => h) (Or.inl ⟨by rfl, ?hyr2x6q19⟩) (by assumption) ?restr2x6q19
        case hyr2x6q19 => intro wq hSw; ((obtain ⟨q0, q1, q2, q3⟩ := E.out _ hSw); go_simp); (try with_reducible rfl)
        try simp only [Act.put, List.setIfInBounds_toArray, List.set_cons_zero, List.set_cons_succ]
        refine wpAnyH_take (i := 7) (oi := ⟨some 28, .fieldAddr 45 (.tmp 1) 4, 0, "ref.go:119", #[], none⟩) (v := ?_) rfl (by kernel_rfl) (by kernel_rfl) (by kernel_rfl) (fun _ _ _ h => h) (Or.inl ⟨by rfl, ?hyr2x7q22⟩) (by assumption) ?restr2x7q22
        case hyr2x7q22 => intro wq hSw; (go_simp); (try with_reducible rfl)
        try simp only [Act.put, List.setIfInBounds_toArray, List.set_cons_zero, List.set_cons_succ]
        refine wpAnyH_take (i := 8) (oi := ⟨some 29, .load 43 (.tmp 28), 43, "ref.go:119", #[⟨7, .data⟩], none⟩) (v := ?_) rfl (by kernel_rfl) (by kernel_rfl) (by kernel_rfl) (fun _ _ _ h => h) (Or.inl ⟨by rfl, ?hyr2x8q25⟩) (by assumption) ?restr2x8q25
        case hyr2x8q25 => intro wq hSw; (have cq := (BH.out.nx hSw).cell 4 _ rfl; go_simp); (try with_reducible rfl)
        try simp only [Act.put, List.setIfInBounds_toArray, List.set_cons_zero, List.set_cons_succ]
        refine wpAnyH_take (i := 9) (oi := ⟨some 30, .move (.tmp 4), 3, "ref.go:119", #[], none⟩) (v := ?_) rfl (by kernel_rfl) (by kernel_rfl) (by kernel_rfl) (fun _ _ _ h => h) (Or.inl ⟨by rfl, ?hyr2x9q28⟩) (by assumption) ?restr2x9q28
        case hyr2x9q28 => intro wq hSw; (go_simp); (try with_reducible rfl)
        try simp only [Act.put, List.setIfInBounds_toArray, List.set_cons_zero, List.set_cons_succ]
        refine wpAnyH_take (i := 10) (oi := ⟨some 31, .indexAddr 43 (.tmp 29) (.tmp 30), 0, "ref.go:119", #[⟨8, .data⟩, ⟨9, .data⟩], none⟩) (v := ?_) rfl (by kernel_rfl) (by kernel_rfl) (by kernel_rfl) (fun _ _ _ h => h) (Or.inl ⟨by rfl, ?hyr2x10q31⟩) (by assumption) ?restr2x10q31
        case hyr2x10q31 => intro wq hSw; (go_simp); (try with_reducible rfl)
        try simp only [Act.put, List.setIfInBounds_toArray, List.set_cons_zero, List.set_cons_succ]
        refine wpAnyH_take (i := 11) (oi := ⟨some 32, .fieldAddr 49 (.tmp 31) 1, 0, "ref.go:119", #[⟨10, .data⟩], none⟩) (v := ?_) rfl (by kernel_rfl) (by kernel_rfl) (by kernel_rfl) (fun _ _ _ h => h) (Or.inl ⟨by rfl, ?hyr2x11q34⟩) (by assumption) ?restr2x11q34
        case hyr2x11q34 => intro wq hSw; (go_simp); (try with_reducible rfl)
        try simp only [Act.put, List.setIfInBounds_toArray, List.set_cons_zero, List.set_cons_succ]
        refine wpAnyH_take (i := 12) (oi := ⟨some 33, .load 3 (.tmp 32), 3, "ref.go:119", #[⟨11, .data⟩], none⟩) (v := ?_) rfl (by kernel_rfl) (by kernel_rfl) (by kernel_rfl) (fun _ _ _ h => h) (Or.inl ⟨by rfl, ?hyr2x12q37⟩) (by assumption) ?restr2x12q37
        case hyr2x12q37 => intro wq hSw; ((obtain ⟨q0, q1, q2, q3⟩ := E.out _ hSw); go_simp); (try with_reducible rfl)
        try simp only [Act.put, List.setIfInBounds_toArray, List.set_cons_zero, List.set_cons_succ]
        refine wpAnyH_take (i := 13) (oi := ⟨some 34, .fieldAddr 45 (.tmp 1) 4, 0, "ref.go:119", #[], none⟩) (v := ?_) rfl (by kernel_rfl) (by kernel_rfl) (by kernel_rfl) (fun _ _ _ h => h) (Or.inl ⟨by rfl, ?hyr2x13q40⟩) (by assumption) ?restr2x13q40
        case hyr2x13q40 => intro wq hSw; (go_simp); (try with_reducible rfl)
        try simp only [Act.put, List.setIfInBounds_toArray, List.set_cons_zero, List.set_cons_succ]
        refine wpAnyH_take (i := 14) (oi := ⟨some 35, .load 43 (.tmp 34), 43, "ref.go:119", #[⟨13, .data⟩], none⟩) (v := ?_) rfl (by kernel_rfl) (by kernel_rfl) (by kernel_rfl) (fun _ _ _ h => h) (Or.inl ⟨by rfl, ?hyr2x14q43⟩) (by assumption) ?restr2x14q43
        case hyr2x14q43 => intro wq hSw; (have cq := (BH.out.nx hSw).cell 4 _ rfl; go_simp); (try with_reducible rfl)
        try simp only [Act.put, List.setIfInBounds_toArray, List.set_cons_zero, List.set_cons_succ]
        refine wpAnyH_take (i := 15) (oi := ⟨some 36, .move (.tmp 4), 3, "ref.go:119", #[], none⟩) (v := ?_) rfl (by kernel_rfl) (by kernel_rfl) (by kernel_rfl) (fun _ _ _ h => h) (Or.inl ⟨by rfl, ?hyr2x15q46⟩) (by assumption) ?restr2x15q46
        case hyr2x15q46 => intro wq hSw; (go_simp); (try with_reducible rfl)
        try simp only [Act.put, List.setIfInBounds_toArray, List.set_cons_zero, List.set_cons_succ]
        refine wpAnyH_take (i := 16) (oi := ⟨some 37, .indexAddr 43 (.tmp 35) (.tmp 36), 0, "ref.go:119", #[⟨14, .data⟩, ⟨15, .data⟩], none⟩) (v := ?_) rfl (by kernel_rfl) (by kernel_rfl) (by kernel_rfl) (fun _ _ _ h => h) (Or.inl ⟨by rfl, ?hyr2x16q49⟩) (by assumption) ?restr2x16q49
        case hyr2x16q49 => intro wq hSw; (go_simp); (try with_reducible rfl)
        try simp only [Act.put, List.setIfInBounds_toArray, List.set_cons_zero, List.set_cons_succ]
        refine wpAnyH_take (i := 17) (oi := ⟨some 38, .fieldAddr 49 (.tmp 37) 2, 0, "ref.go:119", #[⟨16, .data⟩], none⟩) (v := ?_) rfl (by kernel_rfl) (by kernel_rfl) (by kernel_rfl) (fun _ _ _ h => h) (Or.inl ⟨by rfl, ?hyr2x17q52⟩) (by assumption) ?restr2x17q52
        case hyr2x17q52 => intro wq hSw; (go_simp); (try with_reducible rfl)
        try simp only [Act.put, List.setIfInBounds_toArray, List.set_cons_zero, List.set_cons_succ]
        refine wpAnyH_take (i := 18) (oi := ⟨some 39, .load 3 (.tmp 38), 3, "ref.go:119", #[⟨17, .data⟩], none⟩) (v := ?_) rfl (by kernel_rfl) (by kernel_rfl) (by kernel_rfl) (fun _ _ _ h => h) (Or.inl ⟨by rfl, ?hyr2x18q55⟩) (by assumption) ?restr2x18q55
        case hyr2x18q55 => intro wq hSw; ((obtain ⟨q0, q1, q2, q3⟩ := E.out _ hSw); go_simp); (try with_reducible rfl)
        try simp only [Act.put, List.setIfInBounds_toArray, List.set_cons_zero, List.set_cons_succ]
        refine wpAnyH_take (i := 19) (oi := ⟨some 40, .fieldAddr 45 (.tmp 1) 4, 0, "ref.go:119", #[], none⟩) (v := ?_) rfl (by kernel_rfl) (by kernel_rfl) (by kernel_rfl) (fun _ _ _ h => h) (Or.inl ⟨by rfl, ?hyr2x19q58⟩) (by assumption) ?restr2x19q58
        case hyr2x19q58 => intro wq hSw; (go_simp); (try with_reducible rfl)
        try simp only [Act.put, List.setIfInBounds_toArray, List.set_cons_zero, List.set_cons_succ]
        refine wpAnyH_take (i := 20) (oi := ⟨some 41, .load 43 (.tmp 40), 43, "ref.go:119", #[⟨19, .data⟩], none⟩) (v := ?_) rfl (by kernel_rfl) (by kernel_rfl) (by kernel_rfl) (fun _ _ _ h => h) (Or.inl ⟨by rfl, ?hyr2x20q61⟩) (by assumption) ?restr2x20q61
        case hyr2x20q61 => intro wq hSw; (have cq := (BH.out.nx hSw).cell 4 _ rfl; go_simp); (try with_reducible rfl)
        try simp only [Act.put, List.setIfInBounds_toArray, List.set_cons_zero, List.set_cons_succ]
        refine wpAnyH_take (i := 21) (oi := ⟨some 42, .move (.tmp 4), 3, "ref.go:119", #[], none⟩) (v := ?_) rfl (by kernel_rfl) (by kernel_rfl) (by kernel_rfl) (fun _ _ _ h => h) (Or.inl ⟨by rfl, ?hyr2x21q64⟩) (by assumption) ?restr2x21q64
        case hyr2x21q64 => intro wq hSw; (go_simp); (try with_reducible rfl)
        try simp only [Act.put, List.setIfInBounds_toArray, List.set_cons_zero, List.set_cons_succ]
        refine wpAnyH_take (i := 22) (oi := ⟨some 43, .indexAddr 43 (.tmp 41) (.tmp 42), 0, "ref.go:119", #[⟨20, .data⟩, ⟨21, .data⟩], none⟩) (v := ?_) rfl (by kernel_rfl) (by kernel_rfl) (by kernel_rfl) (fun _ _ _ h => h) (Or.inl ⟨by rfl, ?hyr2x22q67⟩) (by assumption) ?restr2x22q67
        case hyr2x22q67 => intro wq hSw; (go_simp); (try with_reducible rfl)
        try simp only [Act.put, List.setIfInBounds_toArray, List.set_cons_zero, List.set_cons_succ]
        refine wpAnyH_take (i := 23) (oi := ⟨some 44, .fieldAddr 49 (.tmp 43) 3, 0, "ref.go:119", #[⟨22, .data⟩], none⟩) (v := ?_) rfl (by kernel_rfl) (by kernel_rfl) (by kernel_rfl) (fun _ _ _ h => h) (Or.inl ⟨by rfl, ?hyr2x23q70⟩) (by assumption) ?restr2x23q70
        case hyr2x23q70 => intro wq hSw; (go_simp); (try with_reducible rfl)
        try simp only [Act.put, List.setIfInBounds_toArray, List.set_cons_zero, List.set_cons_succ]
        refine wpAnyH_take (i := 24) (oi := ⟨some 45, .load 3 (.tmp 44), 3, "ref.go:119", #[⟨23, .data⟩], none⟩) (v := ?_) rfl (by kernel_rfl) (by kernel_rfl) (by kernel_rfl) (fun _ _ _ h => h) (Or.inl ⟨by rfl, ?hyr2x24q73⟩) (by assumption) ?restr2x24q73
        case hyr2x24q73 => intro wq hSw; ((obtain ⟨q0, q1, q2, q3⟩ := E.out _ hSw); go_simp); (try with_reducible rfl)
        try simp only [Act.put, List.setIfInBounds_toArray, List.set_cons_zero, List.set_cons_succ]
        refine wpAnyH_ready (rs := [25]) (by kernel_rfl) (by simp) ?_
        refine AllReadyH.cons (o := ⟨some 46, .buildSlice 22 4 #[(0, .tmp 27), (1, .tmp 33), (2, .tmp 39), (3, .tmp 45)], 22, "ref.go:119", #[⟨6, .data⟩, ⟨12, .data⟩, ⟨18, .data⟩, ⟨24, .data⟩], none⟩) rfl (fun K hK => ?_) AllReadyH.nil
        go_simp
        obtain ⟨g8, u8, hg8, hu8, L8, k8, j8⟩ := lit4 hHeld y
        replace OWN := Lib.hid (OWN.out.nx k8)
        (first | rw [← hg8, ← hu8] | (rw [show wi.drew.heap.size = wi.heap.size from rfl] at hg8; rw [← hg8, show ∀ o, (wi.alloc o).drew = wi.drew.alloc o from fun _ => rfl, ← hu8]))
        clear hg8 hu8 k8 hHeld
        have hHeld := j8
        clear j8
        refine hK.out _ _ (hHeld) (fun hHeld => ?_)
        clear hK K
        try simp only [Act.put, List.setIfInBounds_toArray, List.set_cons_zero, List.set_cons_succ]
        refine wpAnyH_ready (rs := [26]) (by kernel_rfl) (by simp) ?_
        refine AllReadyH.cons (o := ⟨some 47, .call { callee := .builtin .append, args := #[.tmp 21, .tmp 46], argTypes := #[22, 22] }, 22, "ref.go:119", #[⟨0, .data⟩, ⟨25, .data⟩], none⟩) rfl (fun K hK => ?_) AllReadyH.nil
        rw [if_pos (by rfl)]
        have z0 := Ex.size hHeld
        refine wp_append_rd (enc := encI) _ (.tmp 21) (.tmp 46) 22 rfl w1.heap.size 3 (.int .i64 0) 1 8 Tryz.underlying22 Tryz.infoI6 rfl (by omega) (by omega) _ row OWN.out rfl _ _ 4 4 (nums4 y) L8 (fun h => by cases h) (fun _ => rfl) (by simp [encI, Value.oneCell']) rfl (by omega) (by omega) z0 ?_
        intro v9 w9 own9 ch0 ch1
        have j9 : Ex w1 w9 := Chg.trans hHeld ch1
        clear ch0 ch1 z0 L8 hHeld
        have hHeld := j9
        clear j9
        refine hK.out _ _ (hHeld) (fun hHeld => ?_)
        clear hK K
        try simp only [Act.put, List.setIfInBounds_toArray, List.set_cons_zero, List.set_cons_succ]
        refine wpAnyH_take (i := 27) (oi := ⟨some 3, .assign (.tmp 47), 22, "ref.go:119", #[⟨26, .data⟩, ⟨26, .chain⟩, ⟨0, .phase⟩, ⟨1, .phase⟩, ⟨2, .phase⟩, ⟨3, .phase⟩, ⟨4, .phase⟩, ⟨5, .phase⟩, ⟨6, .phase⟩, ⟨7, .phase⟩, ⟨8, .phase⟩, ⟨9, .phase⟩, ⟨10, .phase⟩, ⟨11, .phase⟩, ⟨12, .phase⟩, ⟨13, .phase⟩, ⟨14, .phase⟩, ⟨15, .phase⟩, ⟨16, .phase⟩, ⟨17, .phase⟩, ⟨18, .phase⟩, ⟨19, .phase⟩, ⟨20, .phase⟩, ⟨21, .phase⟩, ⟨22, .phase⟩, ⟨23, .phase⟩, ⟨24, .phase⟩, ⟨25, .phase⟩, ⟨26, .phase⟩], none⟩) (v := ?_) rfl (by kernel_rfl) (by kernel_rfl) (by kernel_rfl) (fun _ _ _ h => h) (Or.inl ⟨by rfl, ?hyr2x27q101⟩) (by assumption) ?restr2x27q101
        case hyr2x27q101 => intro wq hSw; (go_simp); (try with_reducible rfl)
        try simp only [Act.put, List.setIfInBounds_toArray, List.set_cons_zero, List.set_cons_succ]
        refine wpAnyH_done (by kernel_rfl) ?_ _
        skip
        go_wp2_with fail
        exact ⟨⟨j + 1, by omega, by go_num, by rw [SN.out]; exact own9, hHeld⟩, by simp [intOf]; omega⟩
      · obtain rfl : j = n2 := by omega
        rw [List.take_of_length_le (by omega)] at own
        have own := Lib.hid (own.base hz1)
        have KE := Lib.hid (K1.out.nx ki)
        clear hj hjm ki
        go_wp2_with fail
        go_ret
        exact ⟨_, rfl, by rw [HN.out]; exact own.out, KE.out⟩
set_option maxRecDepth 100000 in
set_option maxHeartbeats 4000000 in
theorem refs_q (a : Option Addr) (n c : Nat) (N : List Nd) (p : Pr) (a1 : Option Addr) (n1 c1 : Nat) (a2 : Option Addr) (n2 c2 : Nat) (w : World) (h : Sl 3 encN w a n N) (hn : n ≤ 1000) (h1 : Sl 1 encI w a1 n1 p.known) (h2 : Sl 4 encNr w a2 n2 p.near) (hn1 : n1 ≤ 2000000) (hn2 : n2 ≤ 2000000) :
    Calls Tryz.prog 107 #[.slice a n c, .agg #[.int .i64 p.id, .slice a1 n1 c1, .int .i64 p.left, .int .i64 p.right, .slice a2 n2 c2]] w (OiPost (refsN N p) w) := by
  have EX := Ex.refl w
  have hl1 : p.known.length = n1 := h1.len
  have hl2 : p.near.length = n2 := h2.len
  have HNL := Lib.hid (nums_len_p p)
  have B3 := Blk.new w [.int .i64 p.id, .slice a1 n1 c1, .int .i64 p.left, .int .i64 p.right, .slice a2 n2 c2] 45
  have kk := Ex.new w (.cells #[.int .i64 p.id, .slice a1 n1 c1, .int .i64 p.left, .int .i64 p.right, .slice a2 n2 c2] 45)
  obtain ⟨w1, hw1⟩ : ∃ w1, w1 = w.alloc (.cells #[.int .i64 p.id, .slice a1 n1 c1, .int .i64 p.left, .int .i64 p.right, .slice a2 n2 c2] 45) := ⟨_, rfl⟩
  obtain ⟨g3, hg3⟩ : ∃ g3, g3 = w.heap.size := ⟨_, rfl⟩
  replace B3 : Blk w1 g3 [.int .i64 p.id, .slice a1 n1 c1, .int .i64 p.left, .int .i64 p.right, .slice a2 n2 c2] 45 := by rw [hw1, hg3]; exact B3
  rw [← hw1] at kk
  have Hw1 := Lib.hid hw1
  have Hg3 := Lib.hid hg3
  replace h := h.nx kk
  replace h1 := h1.nx kk
  replace h2 := h2.nx kk
  replace EX := EX.nx kk
  clear kk hw1 hg3
  go_enter Tryz.func107, Tryz.ntmps107
  go_upto_region 1 with fail
  rw [← Hg3.out, ← Hw1.out]
  clear Hg3 Hw1
  go_wp2_with fail
  (with_reducible refine (is_r _ _ _ _ _ h (by omega)).mono ?_)
  rintro e w2 ⟨rfl, kk⟩
  replace h := h.nx kk
  replace h1 := h1.nx kk
  replace h2 := h2.nx kk
  replace EX := EX.nx kk
  replace B3 := B3.nx kk
  clear kk
  by_cases hck : checkN N = 0
  case neg =>
    have d1 : (checkN N == 0) = false := by simpa using hck
    have E0 : Hid (refsN N p = []) := Lib.hid (by unfold refsN; rw [if_neg hck])
    rw [d1]
    clear h h1 h2 hck B3
    go_wp2_with fail
    go_ret
    exact ⟨_, rfl, by rw [E0.out]; exact OwnL.nil _ _ _ _ _, EX⟩
  have d1 : (checkN N == 0) = true := by simpa using hck
  have E0 : Hid (refsN N p = ordN N (numsP p) p.id) := Lib.hid (by unfold refsN; rw [if_pos hck])
  rw [d1]
  clear hck d1
  have HB := Lib.hid B3
  have HN := Lib.hid h
  have H1 := Lib.hid h1
  have H2 := Lib.hid h2
  have EXH := Lib.hid EX
  clear B3 h h1 h2 EX
  go_upto_region 3 with fail
  refine wp_region_held_drew (S := Ex w2) (by kernel_rfl) ((Ex.refl w2).drew) (fun hHeld => ?_)
  refine wpAnyH_take (i := 0) (oi := ⟨some 8, .move (.tmp 0), 23, "ref.go:129", #[], none⟩) (v := ?_) rfl (by kernel_rfl) (by kernel_rfl) (by kernel_rfl) (fun _ _ _ h => h) (Or.inl ⟨by rfl, ?hyr3x0q1⟩) (by assumption) ?restr3x0q1
  case hyr3x0q1 => intro wq hSw; (go_simp); (try with_reducible rfl)
  try simp only [Act.put, List.setIfInBounds_toArray, List.set_cons_zero, List.set_cons_succ]
  refine wpAnyH_take (i := 1) (oi := ⟨some 9, .load 45 (.tmp 3), 45, "ref.go:129", #[], none⟩) (v := ?_) rfl (by kernel_rfl) (by kernel_rfl) (by kernel_rfl) (fun _ _ _ h => h) (Or.inl ⟨by rfl, ?hyr3x1q4⟩) (by assumption) ?restr3x1q4
  case hyr3x1q4 => intro wq hSw; (have B := HB.out.nx hSw; have c0 := B.cell 0 _ rfl; have c1 := B.cell 1 _ rfl; have c2 := B.cell 2 _ rfl; have c3 := B.cell 3 _ rfl; have c4 := B.cell 4 _ rfl; go_simp); (try with_reducible rfl)
  try simp only [Act.put, List.setIfInBounds_toArray, List.set_cons_zero, List.set_cons_succ]
  refine wpAnyH_take (i := 3) (oi := ⟨some 11, .fieldAddr 45 (.tmp 3) 0, 0, "ref.go:129", #[], none⟩) (v := ?_) rfl (by kernel_rfl) (by kernel_rfl) (by kernel_rfl) (fun _ _ _ h => h) (Or.inl ⟨by rfl, ?hyr3x3q7⟩) (by assumption) ?restr3x3q7
  case hyr3x3q7 => intro wq hSw; (go_simp); (try with_reducible rfl)
  try simp only [Act.put, List.setIfInBounds_toArray, List.set_cons_zero, List.set_cons_succ]
  refine wpAnyH_take (i := 4) (oi := ⟨some 12, .load 3 (.tmp 11), 3, "ref.go:129", #[⟨3, .data⟩], none⟩) (v := ?_) rfl (by kernel_rfl) (by kernel_rfl) (by kernel_rfl) (fun _ _ _ h => h) (Or.inl ⟨by rfl, ?hyr3x4q10⟩) (by assumption) ?restr3x4q10
  case hyr3x4q10 => intro wq hSw; (have c0 := (HB.out.nx hSw).cell 0 _ rfl; go_simp); (try with_reducible rfl)
  try simp only [Act.put, List.setIfInBounds_toArray, List.set_cons_zero, List.set_cons_succ]
  refine wpAnyH_ready (rs := [2]) (by kernel_rfl) (by simp) ?_
  refine AllReadyH.cons (o := ⟨some 10, .call { callee := .value (.func 131), args := #[.tmp 9], argTypes := #[45] }, 22, "ref.go:129", #[⟨1, .data⟩], none⟩) rfl (fun K hK => ?_) AllReadyH.nil
  go_simp
  (with_reducible refine (numbers_q p _ _ _ _ _ _ _ (H1.out.nx hHeld) (H2.out.nx hHeld) hn1 hn2).mono ?_)
  rintro e w5 ⟨v5, rfl, own5, kk⟩
  obtain ⟨A5, C5, rfl, sl5, _, _, _⟩ := own5.slf (fun _ => rfl)
  have sl5 := Lib.hid sl5.sl
  replace hHeld := hHeld.nx kk
  clear kk own5
  refine hK.out _ _ (hHeld) (fun hHeld => ?_)
  clear hK K
  try simp only [Act.put, List.setIfInBounds_toArray, List.set_cons_zero, List.set_cons_succ]
  refine wpAnyH_ready (rs := [5]) (by kernel_rfl) (by simp) ?_
  refine AllReadyH.cons (o := ⟨some 13, .call { callee := .value (.func 79), args := #[.tmp 8, .tmp 10, .tmp 12], argTypes := #[23, 22, 3] }, 22, "ref.go:129", #[⟨0, .data⟩, ⟨2, .data⟩, ⟨4, .data⟩, ⟨2, .chain⟩], none⟩) rfl (fun K hK => ?_) AllReadyH.nil
  go_simp
  (with_reducible refine (ordered_r _ _ _ N _ _ _ (numsP p) p.id _ (HN.out.nx hHeld) hn sl5.out (by rw [HNL.out]; omega)).mono ?_)
  rintro e w6 ⟨v6, rfl, own6, kk⟩
  have own6 := Lib.hid (own6.base (EXH.out.nx hHeld).size)
  replace hHeld := hHeld.nx kk
  clear kk
  refine hK.out _ _ (hHeld) (fun hHeld => ?_)
  clear hK K
  try simp only [Act.put, List.setIfInBounds_toArray, List.set_cons_zero, List.set_cons_succ]
  refine wpAnyH_take (i := 6) (oi := ⟨some 4, .assign (.tmp 13), 22, "ref.go:129", #[⟨5, .data⟩, ⟨5, .chain⟩, ⟨0, .phase⟩, ⟨1, .phase⟩, ⟨2, .phase⟩, ⟨3, .phase⟩, ⟨4, .phase⟩, ⟨5, .phase⟩], none⟩) (v := ?_) rfl (by kernel_rfl) (by kernel_rfl) (by kernel_rfl) (fun _ _ _ h => h) (Or.inl ⟨by rfl, ?hyr3x6q36⟩) (by assumption) ?restr3x6q36
  case hyr3x6q36 => intro wq hSw; (go_simp); (try with_reducible rfl)
  try simp only [Act.put, List.setIfInBounds_toArray, List.set_cons_zero, List.set_cons_succ]
  refine wpAnyH_done (by kernel_rfl) ?_ _
  have KE := Lib.hid (EXH.out.nx hHeld)
  clear hHeld
  go_wp2_with fail
  go_ret
  exact ⟨_, rfl, by rw [E0.out]; exact own6.out, KE.out⟩
end Go.Proofs.YtbnbjiddffihoaaGreatDoor

/- around, Intros and Keep of the reference 16. -/
namespace Go.Proofs.YtbnbjiddffihoaaGreatDoor
open Go.RowKit

theorem refs_leN (N : List Nd) (p : Pr) : (refsN N p).length ≤ N.length := by
  unfold refsN
  split
  · exact ord_len _ _
  · exact Nat.zero_le _
theorem ar_yes {N : List Nd} {p : Pr} (h : (findN N p.id).2 = true ∧ checkN N = 0) : arN N p = ordN N (refsN N p ++ [p.id]) 0 := by unfold arN; rw [if_pos h]
theorem litIr {w0 u : World} (_ : Ex w0 u) (x : Int) : ∃ g v, g = u.heap.size ∧ v = u.alloc (.cells #[.int .i64 x] 3) ∧ Sl 1 encI v (some ⟨g, 0, none⟩) 1 [x] ∧ Ex u v :=
  ⟨_, _, rfl, rfl, Sl.lit [x] rfl rfl (fun _ => rfl) rfl, Ex.new _ _⟩
set_option maxRecDepth 100000 in
set_option maxHeartbeats 4000000 in
theorem around_r (a : Option Addr) (n c : Nat) (N : List Nd) (p : Pr) (a1 : Option Addr) (n1 c1 : Nat) (a2 : Option Addr) (n2 c2 : Nat) (w : World) (h : Sl 3 encN w a n N) (hn : n ≤ 1000) (h1 : Sl 1 encI w a1 n1 p.known) (h2 : Sl 4 encNr w a2 n2 p.near) (hn1 : n1 ≤ 2000000) (hn2 : n2 ≤ 2000000) :
    Calls Tryz.prog 70 #[.slice a n c, .agg #[.int .i64 p.id, .slice a1 n1 c1, .int .i64 p.left, .int .i64 p.right, .slice a2 n2 c2]] w (OiPost (arN N p) w) := by
  have EX := Ex.refl w
  have HL := Lib.hid h.len
  have B3 := Blk.new w [.int .i64 p.id, .slice a1 n1 c1, .int .i64 p.left, .int .i64 p.right, .slice a2 n2 c2] 45
  have kk := Ex.new w (.cells #[.int .i64 p.id, .slice a1 n1 c1, .int .i64 p.left, .int .i64 p.right, .slice a2 n2 c2] 45)
  obtain ⟨w1, hw1⟩ : ∃ w1, w1 = w.alloc (.cells #[.int .i64 p.id, .slice a1 n1 c1, .int .i64 p.left, .int .i64 p.right, .slice a2 n2 c2] 45) := ⟨_, rfl⟩
  obtain ⟨g3, hg3⟩ : ∃ g3, g3 = w.heap.size := ⟨_, rfl⟩
  replace B3 : Blk w1 g3 [.int .i64 p.id, .slice a1 n1 c1, .int .i64 p.left, .int .i64 p.right, .slice a2 n2 c2] 45 := by rw [hw1, hg3]; exact B3
  rw [← hw1] at kk
  have Hw1 := Lib.hid hw1
  have Hg3 := Lib.hid hg3
  replace h := h.nx kk
  replace h1 := h1.nx kk
  replace h2 := h2.nx kk
  replace EX := EX.nx kk
  clear kk hw1 hg3
  go_enter Tryz.func70, Tryz.ntmps70
  go_upto_region 1 with fail
  rw [← Hg3.out, ← Hw1.out]
  clear Hg3 Hw1
  have q0 := B3.cell 0 _ rfl
  go_wp2_with fail
  (with_reducible refine (find_r _ _ _ N p.id _ h (by omega)).mono ?_)
  rintro e w2 ⟨rfl, kk⟩
  replace h := h.nx kk
  replace h1 := h1.nx kk
  replace h2 := h2.nx kk
  replace EX := EX.nx kk
  replace B3 := B3.nx kk
  clear kk
  clear q0
  have HNO := Lib.hid (ar_no (N := N) (p := p))
  have HYE := Lib.hid (ar_yes (N := N) (p := p))
  obtain ⟨F, hF⟩ : ∃ F, F = findN N p.id := ⟨_, rfl⟩
  rw [← hF] at HNO HYE ⊢
  clear hF
  obtain ⟨⟨xi, xk, xw⟩, ok⟩ := F
  have B5 := Blk.new w2 [.int .i64 xi, .string xk, .int .u32 xw] 57
  have kk := Ex.new w2 (.cells #[.int .i64 xi, .string xk, .int .u32 xw] 57)
  obtain ⟨w3, hw3⟩ : ∃ w3, w3 = w2.alloc (.cells #[.int .i64 xi, .string xk, .int .u32 xw] 57) := ⟨_, rfl⟩
  obtain ⟨g5, hg5⟩ : ∃ g5, g5 = w2.heap.size := ⟨_, rfl⟩
  replace B5 : Blk w3 g5 [.int .i64 xi, .string xk, .int .u32 xw] 57 := by rw [hw3, hg5]; exact B5
  rw [← hw3] at kk
  have Hw3 := Lib.hid hw3
  have Hg5 := Lib.hid hg5
  replace h := h.nx kk
  replace h1 := h1.nx kk
  replace h2 := h2.nx kk
  replace EX := EX.nx kk
  replace B3 := B3.nx kk
  clear kk hw3 hg5
  simp only [Nd.val]
  go_upto_region 2 with fail
  rw [← Hg5.out, ← Hw3.out]
  clear Hg5 Hw3
  clear B5
  cases ok with
  | false =>
    have E0 : Hid (arN N p = []) := Lib.hid (HNO.out (fun hh => by cases hh.1))
    have EX := Lib.hid EX
    clear h h1 h2 B3
    go_wp2_with fail
    go_ret
    exact ⟨_, rfl, by rw [E0.out]; exact OwnL.nil _ _ _ _ _, EX.out⟩
  | true =>
    go_wp2_with fail
    (with_reducible refine (is_r _ _ _ N _ h (by omega)).mono ?_)
    rintro e w4 ⟨rfl, kk⟩
    replace h := h.nx kk
    replace h1 := h1.nx kk
    replace h2 := h2.nx kk
    replace EX := EX.nx kk
    replace B3 := B3.nx kk
    clear kk
    cases hck : (checkN N == 0) with
    | false =>
      have E0 : Hid (arN N p = []) := Lib.hid (HNO.out (fun hh => by rw [hh.2] at hck; cases hck))
      have EX := Lib.hid EX
      clear h h1 h2 B3 hck
      go_wp2_with fail
      go_ret
      exact ⟨_, rfl, by rw [E0.out]; exact OwnL.nil _ _ _ _ _, EX.out⟩
    | true =>
      have E0 : Hid (arN N p = ordN N (refsN N p ++ [p.id]) 0) := Lib.hid (HYE.out ⟨trivial, by simpa using hck⟩)
      have HRL : Hid ((refsN N p).length ≤ 1000) := Lib.hid (Nat.le_trans (refs_leN N p) (by have := HL.out; omega))
      have HN := Lib.hid h
      have H1 := Lib.hid h1
      have H2 := Lib.hid h2
      have HB := Lib.hid B3
      have EXH := Lib.hid EX
      have z4 := EX.size
      clear h h1 h2 B3 EX hck HNO HYE
      go_upto_region 4 with fail
      refine wp_region_held_drew (S := Ex w4) (by kernel_rfl) ((Ex.refl w4).drew) (fun hHeld => ?_)
      obtain ⟨wd, hwdx⟩ : ∃ wd : World, wd = World.drew w4 := ⟨_, rfl⟩
      rw [← hwdx] at hHeld ⊢
      have hDrew : Ex w4 wd := by rw [hwdx]; exact (Ex.refl w4).drew
      clear hwdx
      refine wpAnyH_take (i := 0) (oi := ⟨some 21, .move (.tmp 0), 23, "ref.go:29", #[], none⟩) (v := ?_) rfl (by kernel_rfl) (by kernel_rfl) (by kernel_rfl) (fun _ _ _ h => h) (Or.inl ⟨by rfl, ?hyr1x0q5⟩) (by assumption) ?restr1x0q5
      case hyr1x0q5 => intro wq hSw; (go_simp); (try with_reducible rfl)
      try simp only [Act.put, List.setIfInBounds_toArray, List.set_cons_zero, List.set_cons_succ]
      refine wpAnyH_take (i := 1) (oi := ⟨some 22, .move (.tmp 0), 23, "ref.go:29", #[], none⟩) (v := ?_) rfl (by kernel_rfl) (by kernel_rfl) (by kernel_rfl) (fun _ _ _ h => h) (Or.inl ⟨by rfl, ?hyr1x1q8⟩) (by assumption) ?restr1x1q8
      case hyr1x1q8 => intro wq hSw; (go_simp); (try with_reducible rfl)
      try simp only [Act.put, List.setIfInBounds_toArray, List.set_cons_zero, List.set_cons_succ]
      refine wpAnyH_take (i := 2) (oi := ⟨some 23, .load 45 (.tmp 3), 45, "ref.go:29", #[], none⟩) (v := ?_) rfl (by kernel_rfl) (by kernel_rfl) (by kernel_rfl) (fun _ _ _ h => h) (Or.inl ⟨by rfl, ?hyr1x2q11⟩) (by assumption) ?restr1x2q11
      case hyr1x2q11 => intro wq hSw; (have B := HB.out.nx hSw; have c0 := B.cell 0 _ rfl; have c1 := B.cell 1 _ rfl; have c2 := B.cell 2 _ rfl; have c3 := B.cell 3 _ rfl; have c4 := B.cell 4 _ rfl; go_simp); (try with_reducible rfl)
      try simp only [Act.put, List.setIfInBounds_toArray, List.set_cons_zero, List.set_cons_succ]
      refine wpAnyH_take (i := 4) (oi := ⟨some 25, .fieldAddr 45 (.tmp 3) 0, 0, "ref.go:29", #[], none⟩) (v := ?_) rfl (by kernel_rfl) (by kernel_rfl) (by kernel_rfl) (fun _ _ _ h => h) (Or.inl ⟨by rfl, ?hyr1x4q14⟩) (by assumption) ?restr1x4q14
      case hyr1x4q14 => intro wq hSw; (go_simp); (try with_reducible rfl)
      try simp only [Act.put, List.setIfInBounds_toArray, List.set_cons_zero, List.set_cons_succ]
      refine wpAnyH_take (i := 5) (oi := ⟨some 26, .load 3 (.tmp 25), 3, "ref.go:29", #[⟨4, .data⟩], none⟩) (v := ?_) rfl (by kernel_rfl) (by kernel_rfl) (by kernel_rfl) (fun _ _ _ h => h) (Or.inl ⟨by rfl, ?hyr1x5q17⟩) (by assumption) ?restr1x5q17
      case hyr1x5q17 => intro wq hSw; (have c0 := (HB.out.nx hSw).cell 0 _ rfl; go_simp); (try with_reducible rfl)
      try simp only [Act.put, List.setIfInBounds_toArray, List.set_cons_zero, List.set_cons_succ]
      refine wpAnyH_ready (rs := [3, 6]) (by kernel_rfl) (by simp) ?_
      refine AllReadyH.cons (o := ⟨some 24, .call { callee := .value (.func 107), args := #[.tmp 22, .tmp 23], argTypes := #[23, 45] }, 22, "ref.go:29", #[⟨1, .data⟩, ⟨2, .data⟩], none⟩) rfl (fun K hK => ?_) ?_
      · go_simp
        (with_reducible refine (refs_q _ _ _ N p _ _ _ _ _ _ _ (HN.out.nx hHeld) hn (H1.out.nx hHeld) (H2.out.nx hHeld) hn1 hn2).mono ?_)
        rintro e wz ⟨v5, rfl, own5, kk⟩
        replace own5 := own5.base hHeld.size
        (try replace SX := SX.nx kk)
        replace hHeld := hHeld.nx kk
        clear kk
        refine hK.out _ _ (hHeld) (fun hHeld => ?_)
        clear hK K
        try simp only [Act.put, List.setIfInBounds_toArray, List.set_cons_zero, List.set_cons_succ]
        refine wpAnyH_ready (rs := [6]) (by kernel_rfl) (by simp) ?_
        refine AllReadyH.cons (o := ⟨some 27, .buildSlice 22 1 #[(0, .tmp 26)], 22, "ref.go:29", #[⟨5, .data⟩], none⟩) rfl (fun K hK => ?_) AllReadyH.nil
        go_simp
        obtain ⟨g8, wz, hg8, hwz, SX, kk⟩ := litIr hHeld p.id
        rw [← hg8, ← hwz]
        (try replace own5 := own5.nx kk)
        replace hHeld := hHeld.nx kk
        clear hg8 hwz kk
        refine hK.out _ _ (hHeld) (fun hHeld => ?_)
        clear hK K
        try simp only [Act.put, List.setIfInBounds_toArray, List.set_cons_zero, List.set_cons_succ]
        refine wpAnyH_ready (rs := [7]) (by kernel_rfl) (by simp) ?_
        refine AllReadyH.cons (o := ⟨some 28, .call { callee := .builtin .append, args := #[.tmp 24, .tmp 27], argTypes := #[22, 22] }, 22, "ref.go:29", #[⟨3, .data⟩, ⟨6, .data⟩, ⟨3, .chain⟩], none⟩) rfl (fun K hK => ?_) AllReadyH.nil
        rw [if_pos (by rfl)]
        have zq := hHeld.size
        have hrl := HRL.out
        refine wp_append_rd (enc := encI) _ (.tmp 24) (.tmp 27) 22 rfl w4.heap.size 3 (.int .i64 0) 1 8 Tryz.underlying22 Tryz.infoI6 rfl (by omega) (by omega) _ _ own5 rfl _ _ 1 1 [p.id] SX (fun h => by cases h) (fun _ => rfl) (by simp [encI, Value.oneCell']) rfl (by omega) (by omega) zq ?_
        intro v9 wy own9 ch0 ch1
        replace hHeld : Ex w4 wy := Chg.trans hHeld ch1
        obtain ⟨A9, C9, rfl, R9, _⟩ := own9.rd (fun _ => rfl)
        have S9 : Sl 1 encI wy A9 ((refsN N p).length + 1) (refsN N p ++ [p.id]) := by {have hx := Rd.mono R9 (S' := fun k => k < wy.heap.size) (fun _ hk => hk.2); rw [List.length_append, List.length_singleton] at hx; exact hx}
        clear own9 R9 ch0 ch1 zq SX own5
        refine hK.out _ _ (hHeld) (fun hHeld => ?_)
        clear hK K
        try simp only [Act.put, List.setIfInBounds_toArray, List.set_cons_zero, List.set_cons_succ]
        refine wpAnyH_ready (rs := [8]) (by kernel_rfl) (by simp) ?_
        refine AllReadyH.cons (o := ⟨some 29, .call { callee := .value (.func 79), args := #[.tmp 21, .tmp 28, .const (.int .i64 0)], argTypes := #[23, 22, 3] }, 22, "ref.go:29", #[⟨0, .data⟩, ⟨7, .data⟩, ⟨7, .chain⟩], none⟩) rfl (fun K hK => ?_) AllReadyH.nil
        go_simp
        (with_reducible refine (ordered_r _ _ _ N _ _ _ (refsN N p ++ [p.id]) 0 _ (HN.out.nx hHeld) hn S9 (by have := HRL.out; omega)).mono ?_)
        rintro e wx ⟨v6, rfl, own6, kk⟩
        replace own6 := own6.base (Nat.le_trans z4 hHeld.size)
        replace hHeld := hHeld.nx kk
        clear kk S9
        refine hK.out _ _ (hHeld) (fun hHeld => ?_)
        clear hK K
        try simp only [Act.put, List.setIfInBounds_toArray, List.set_cons_zero, List.set_cons_succ]
        refine wpAnyH_take (i := 9) (oi := ⟨some 4, .assign (.tmp 29), 22, "ref.go:29", #[⟨8, .data⟩, ⟨8, .chain⟩, ⟨0, .phase⟩, ⟨1, .phase⟩, ⟨2, .phase⟩, ⟨3, .phase⟩, ⟨4, .phase⟩, ⟨5, .phase⟩, ⟨6, .phase⟩, ⟨7, .phase⟩, ⟨8, .phase⟩], none⟩) (v := ?_) rfl (by kernel_rfl) (by kernel_rfl) (by kernel_rfl) (fun _ _ _ h => h) (Or.inl ⟨by rfl, ?hyr1x9q68⟩) (by assumption) ?restr1x9q68
        case hyr1x9q68 => intro wq hSw; (go_simp); (try with_reducible rfl)
        try simp only [Act.put, List.setIfInBounds_toArray, List.set_cons_zero, List.set_cons_succ]
        refine wpAnyH_done (by kernel_rfl) ?_ _
        have KE := Lib.hid (EXH.out.nx hHeld)
        have OW6 := Lib.hid own6
        clear hHeld own6
        go_wp2_with fail
        go_ret
        exact ⟨_, rfl, by rw [E0.out]; exact OW6.out, KE.out⟩
      refine AllReadyH.cons (o := ⟨some 27, .buildSlice 22 1 #[(0, .tmp 26)], 22, "ref.go:29", #[⟨5, .data⟩], none⟩) rfl (fun K hK => ?_) AllReadyH.nil
      · go_simp
        obtain ⟨g8, wz, hg8, hwz, SX, kk⟩ := litIr hHeld p.id
        rw [← hg8, ← hwz]
        (try replace own5 := own5.nx kk)
        replace hHeld := hHeld.nx kk
        clear hg8 hwz kk
        refine hK.out _ _ (hHeld) (fun hHeld => ?_)
        clear hK K
        try simp only [Act.put, List.setIfInBounds_toArray, List.set_cons_zero, List.set_cons_succ]
        refine wpAnyH_ready (rs := [3]) (by kernel_rfl) (by simp) ?_
        refine AllReadyH.cons (o := ⟨some 24, .call { callee := .value (.func 107), args := #[.tmp 22, .tmp 23], argTypes := #[23, 45] }, 22, "ref.go:29", #[⟨1, .data⟩, ⟨2, .data⟩], none⟩) rfl (fun K hK => ?_) AllReadyH.nil
        go_simp
        (with_reducible refine (refs_q _ _ _ N p _ _ _ _ _ _ _ (HN.out.nx hHeld) hn (H1.out.nx hHeld) (H2.out.nx hHeld) hn1 hn2).mono ?_)
        rintro e wz ⟨v5, rfl, own5, kk⟩
        replace own5 := own5.base hHeld.size
        (try replace SX := SX.nx kk)
        replace hHeld := hHeld.nx kk
        clear kk
        refine hK.out _ _ (hHeld) (fun hHeld => ?_)
        clear hK K
        try simp only [Act.put, List.setIfInBounds_toArray, List.set_cons_zero, List.set_cons_succ]
        refine wpAnyH_ready (rs := [7]) (by kernel_rfl) (by simp) ?_
        refine AllReadyH.cons (o := ⟨some 28, .call { callee := .builtin .append, args := #[.tmp 24, .tmp 27], argTypes := #[22, 22] }, 22, "ref.go:29", #[⟨3, .data⟩, ⟨6, .data⟩, ⟨3, .chain⟩], none⟩) rfl (fun K hK => ?_) AllReadyH.nil
        rw [if_pos (by rfl)]
        have zq := hHeld.size
        have hrl := HRL.out
        refine wp_append_rd (enc := encI) _ (.tmp 24) (.tmp 27) 22 rfl w4.heap.size 3 (.int .i64 0) 1 8 Tryz.underlying22 Tryz.infoI6 rfl (by omega) (by omega) _ _ own5 rfl _ _ 1 1 [p.id] SX (fun h => by cases h) (fun _ => rfl) (by simp [encI, Value.oneCell']) rfl (by omega) (by omega) zq ?_
        intro v9 wy own9 ch0 ch1
        replace hHeld : Ex w4 wy := Chg.trans hHeld ch1
        obtain ⟨A9, C9, rfl, R9, _⟩ := own9.rd (fun _ => rfl)
        have S9 : Sl 1 encI wy A9 ((refsN N p).length + 1) (refsN N p ++ [p.id]) := by {have hx := Rd.mono R9 (S' := fun k => k < wy.heap.size) (fun _ hk => hk.2); rw [List.length_append, List.length_singleton] at hx; exact hx}
        clear own9 R9 ch0 ch1 zq SX own5
        refine hK.out _ _ (hHeld) (fun hHeld => ?_)
        clear hK K
        try simp only [Act.put, List.setIfInBounds_toArray, List.set_cons_zero, List.set_cons_succ]
        refine wpAnyH_ready (rs := [8]) (by kernel_rfl) (by simp) ?_
        refine AllReadyH.cons (o := ⟨some 29, .call { callee := .value (.func 79), args := #[.tmp 21, .tmp 28, .const (.int .i64 0)], argTypes := #[23, 22, 3] }, 22, "ref.go:29", #[⟨0, .data⟩, ⟨7, .data⟩, ⟨7, .chain⟩], none⟩) rfl (fun K hK => ?_) AllReadyH.nil
        go_simp
        (with_reducible refine (ordered_r _ _ _ N _ _ _ (refsN N p ++ [p.id]) 0 _ (HN.out.nx hHeld) hn S9 (by have := HRL.out; omega)).mono ?_)
        rintro e wx ⟨v6, rfl, own6, kk⟩
        replace own6 := own6.base (Nat.le_trans z4 hHeld.size)
        replace hHeld := hHeld.nx kk
        clear kk S9
        refine hK.out _ _ (hHeld) (fun hHeld => ?_)
        clear hK K
        try simp only [Act.put, List.setIfInBounds_toArray, List.set_cons_zero, List.set_cons_succ]
        refine wpAnyH_take (i := 9) (oi := ⟨some 4, .assign (.tmp 29), 22, "ref.go:29", #[⟨8, .data⟩, ⟨8, .chain⟩, ⟨0, .phase⟩, ⟨1, .phase⟩, ⟨2, .phase⟩, ⟨3, .phase⟩, ⟨4, .phase⟩, ⟨5, .phase⟩, ⟨6, .phase⟩, ⟨7, .phase⟩, ⟨8, .phase⟩], none⟩) (v := ?_) rfl (by kernel_rfl) (by kernel_rfl) (by kernel_rfl) (fun _ _ _ h => h) (Or.inl ⟨by rfl, ?hyr1x9q120⟩) (by assumption) ?restr1x9q120
        case hyr1x9q120 => intro wq hSw; (go_simp); (try with_reducible rfl)
        try simp only [Act.put, List.setIfInBounds_toArray, List.set_cons_zero, List.set_cons_succ]
        refine wpAnyH_done (by kernel_rfl) ?_ _
        have KE := Lib.hid (EXH.out.nx hHeld)
        have OW6 := Lib.hid own6
        clear hHeld own6
        go_wp2_with fail
        go_ret
        exact ⟨_, rfl, by rw [E0.out]; exact OW6.out, KE.out⟩
end Go.Proofs.YtbnbjiddffihoaaGreatDoor

/- Intros and Keep of the reference 16. -/
namespace Go.Proofs.YtbnbjiddffihoaaGreatDoor
open Go.RowKit

def IrPost (M : List (Int × Int)) (w : World) (e : Ending) (w' : World) : Prop := ∃ v, e = .returned v ∧ OwnL 2 encS 89 w.heap.size w' v M ∧ Ex w w'
def IrRel (L : List Int) (id : Int) (w : World) (o i : Value) (wr : World) : Prop :=
  ∃ k : Nat, 1 ≤ k ∧ k ≤ L.length + 1 ∧ i = .int .i64 k ∧ OwnL 2 encS 89 w.heap.size wr o (((L.zip L.tail).take (k - 1)).flatMap (pr2 id)) ∧ Ex w wr
theorem pr2_cases (id a b : Int) : pr2 id (a, b) = (if a = id then [] else [(a, b)]) ++ (if b = id then [] else [(b, a)]) := rfl
set_option maxRecDepth 100000 in
set_option maxHeartbeats 8000000 in
theorem intros_r (a : Option Addr) (n c : Nat) (N : List Nd) (p : Pr) (a1 : Option Addr) (n1 c1 : Nat) (a2 : Option Addr) (n2 c2 : Nat) (w : World) (h : Sl 3 encN w a n N) (hn : n ≤ 1000) (h1 : Sl 1 encI w a1 n1 p.known) (h2 : Sl 4 encNr w a2 n2 p.near) (hn1 : n1 ≤ 2000000) (hn2 : n2 ≤ 2000000) :
    Calls Tryz.prog 36 #[.slice a n c, .agg #[.int .i64 p.id, .slice a1 n1 c1, .int .i64 p.left, .int .i64 p.right, .slice a2 n2 c2]] w (IrPost (introsN N p) w) := by
  have EX := Ex.refl w
  have HL := Lib.hid h.len
  have B3 := Blk.new w [.int .i64 p.id, .slice a1 n1 c1, .int .i64 p.left, .int .i64 p.right, .slice a2 n2 c2] 45
  have kk := Ex.new w (.cells #[.int .i64 p.id, .slice a1 n1 c1, .int .i64 p.left, .int .i64 p.right, .slice a2 n2 c2] 45)
  obtain ⟨w1, hw1⟩ : ∃ w1, w1 = w.alloc (.cells #[.int .i64 p.id, .slice a1 n1 c1, .int .i64 p.left, .int .i64 p.right, .slice a2 n2 c2] 45) := ⟨_, rfl⟩
  obtain ⟨g3, hg3⟩ : ∃ g3, g3 = w.heap.size := ⟨_, rfl⟩
  replace B3 : Blk w1 g3 [.int .i64 p.id, .slice a1 n1 c1, .int .i64 p.left, .int .i64 p.right, .slice a2 n2 c2] 45 := by rw [hw1, hg3]; exact B3
  rw [← hw1] at kk
  have Hw1 := Lib.hid hw1
  have Hg3 := Lib.hid hg3
  replace h := h.nx kk
  replace h1 := h1.nx kk
  replace h2 := h2.nx kk
  replace EX := EX.nx kk
  clear kk hw1 hg3
  go_enter Tryz.func36, Tryz.ntmps36
  go_upto_region 1 with fail
  rw [← Hg3.out, ← Hw1.out]
  clear Hg3 Hw1
  have q0 := B3.cell 0 _ rfl
  have q1 := B3.cell 1 _ rfl
  have q2 := B3.cell 2 _ rfl
  have q3 := B3.cell 3 _ rfl
  have q4 := B3.cell 4 _ rfl
  go_wp2_with fail
  (with_reducible refine (around_r _ _ _ N p _ _ _ _ _ _ _ h hn h1 h2 hn1 hn2).mono ?_)
  rintro e w2 ⟨v, rfl, own, kk⟩
  replace EX := EX.nx kk
  replace B3 := B3.nx kk
  clear kk
  clear q0 q1 q2 q3 q4 h h1 h2
  have hrl : (arN N p).length ≤ 1000 := by
    have h1 := HL.out
    have h2 := ar_len (N := N) p
    omega
  obtain ⟨aR, cR, rfl, R1, _, _, _⟩ := own.slf (fun _ => rfl)
  have S := Lib.hid R1.sl
  have IN : Hid (∀ M, prsN p.id (arN N p) = M → introsN N p = M) := Lib.hid (fun r hr => hr)
  generalize arN N p = R at own R1 S IN hrl ⊢
  have B3 := Lib.hid B3
  have z2 := EX.size
  have EX2 := Lib.hid EX
  clear own R1 EX
  go_wp2_with fail
  go_loopw [5, 7] (fun o i wr => IrRel R p.id w2 o i wr) (fun _ i _ => R.length + 1 - (intOf i).toNat)
  case atStart => exact ⟨1, by omega, by omega, rfl, OwnL.nil _ _ _ _ _, Ex.refl _⟩
  case round =>
    obtain ⟨k, hk1, hk, rfl, own, ki⟩ := hrel
    obtain ⟨wi, rfl⟩ : ∃ wi : World, wi = wr := ⟨_, rfl⟩
    have hol : (((R.zip R.tail).take (k - 1)).flatMap (pr2 p.id)).length ≤ 2000 := by
      have h1 := prs_take_len p.id ((R.zip R.tail).take (k - 1))
      rw [List.length_take, List.length_zip, List.length_tail] at h1
      omega
    by_cases hkm : k < R.length
    · obtain ⟨xl, xo, yl, rfl, hxl, hyl, hcl⟩ := (S.out.nx ki).at (show k - 1 < R.length by omega)
      obtain ⟨xl', xo', yr, hee, hxr, hyr, hcr⟩ := (S.out.nx ki).at hkm
      cases hee
      have CL : Hid (∀ wq, Ex wi wq → wq.cell? ⟨xl, xo + (k - 1), none⟩ = some (.int .i64 yl)) := Lib.hid (fun wq kq => Chg.cellv kq (by simpa using hcl 0 _ rfl) hxl)
      have CR : Hid (∀ wq, Ex wi wq → wq.cell? ⟨xl, xo + k, none⟩ = some (.int .i64 yr)) := Lib.hid (fun wq kq => Chg.cellv kq (by simpa using hcr 0 _ rfl) hxl)
      have SN := Lib.hid ((prs_snoc (id := p.id) hyl (by rw [show k - 1 + 1 = k by omega]; exact hyr)).trans (by rw [pr2_cases]))
      rw [show k - 1 + 1 = k + 1 - 1 by omega] at SN
      generalize ((R.zip R.tail).take (k - 1)).flatMap (pr2 p.id) = O at own SN hol
      have hkp : (0 : Int) < (k : Int) := by omega
      have hwk : IntKind.i64.wrap ((k : Int) - 1) = (k : Int) - 1 := IntWalk.i64_in _ (by omega)
      have h01 : (1 : Int) ≤ (k : Int) := by omega
      have h02 : (k : Int) - 1 < (R.length : Int) := by omega
      have h03 : (k : Int) < (R.length : Int) := by omega
      have zi := ki.size
      have QI : Hid (∀ wq, Ex wi wq → wq.cell? ⟨g3, 0, none⟩ = some (.int .i64 p.id)) := Lib.hid (fun wq kq => (B3.out.nx (ki.nx kq)).cell 0 _ rfl)
      have OWN := Lib.hid own
      have KI := Lib.hid ki
      clear hyl hyr hcl hcr own ki
      go_upto_region 6 with fail
      refine wp_region_held_drew (S := Ex wi) (by kernel_rfl) ((Ex.refl wi).drew) (fun hHeld => ?_)
      obtain ⟨wd, hwdx⟩ : ∃ wd : World, wd = World.drew wi := ⟨_, rfl⟩
      rw [← hwdx] at hHeld ⊢
      have hDrew : Ex wi wd := by rw [hwdx]; exact (Ex.refl wi).drew
      clear hwdx
      refine wpAnyH_take (i := 0) (oi := ⟨some 19, .move (.tmp 6), 22, "ref.go:37", #[], none⟩) (v := ?_) rfl (by kernel_rfl) (by kernel_rfl) (by kernel_rfl) (fun _ _ _ h => h) (Or.inl ⟨by rfl, ?hyr1x0q5⟩) (by assumption) ?restr1x0q5
      case hyr1x0q5 => intro wq hSw; (go_simp); (try with_reducible rfl)
      try simp only [Act.put, List.setIfInBounds_toArray, List.set_cons_zero, List.set_cons_succ]
      refine wpAnyH_take (i := 1) (oi := ⟨some 20, .move (.tmp 7), 3, "ref.go:37", #[], none⟩) (v := ?_) rfl (by kernel_rfl) (by kernel_rfl) (by kernel_rfl) (fun _ _ _ h => h) (Or.inl ⟨by rfl, ?hyr1x1q8⟩) (by assumption) ?restr1x1q8
      case hyr1x1q8 => intro wq hSw; (go_simp); (try with_reducible rfl)
      try simp only [Act.put, List.setIfInBounds_toArray, List.set_cons_zero, List.set_cons_succ]
      refine wpAnyH_take (i := 2) (oi := ⟨some 21, .binOp .sub 3 (.tmp 20) (.const (.int .i64 1)) 3, 3, "ref.go:37", #[⟨1, .data⟩], none⟩) (v := ?_) rfl (by kernel_rfl) (by kernel_rfl) (by kernel_rfl) (fun _ _ _ h => h) (Or.inl ⟨by rfl, ?hyr1x2q11⟩) (by assumption) ?restr1x2q11
      case hyr1x2q11 => intro wq hSw; (go_simp); (try with_reducible rfl)
      try simp only [Act.put, List.setIfInBounds_toArray, List.set_cons_zero, List.set_cons_succ]
      refine wpAnyH_take (i := 3) (oi := ⟨some 22, .indexAddr 22 (.tmp 19) (.tmp 21), 0, "ref.go:37", #[⟨0, .data⟩, ⟨2, .data⟩], none⟩) (v := ?_) rfl (by kernel_rfl) (by kernel_rfl) (by kernel_rfl) (fun _ _ _ h => h) (Or.inl ⟨by rfl, ?hyr1x3q14⟩) (by assumption) ?restr1x3q14
      case hyr1x3q14 => intro wq hSw; (go_simp); (try with_reducible rfl)
      try simp only [Act.put, List.setIfInBounds_toArray, List.set_cons_zero, List.set_cons_succ]
      refine wpAnyH_take (i := 4) (oi := ⟨some 23, .load 3 (.tmp 22), 3, "ref.go:37", #[⟨3, .data⟩], none⟩) (v := ?_) rfl (by kernel_rfl) (by kernel_rfl) (by kernel_rfl) (fun _ _ _ h => h) (Or.inl ⟨by rfl, ?hyr1x4q17⟩) (by assumption) ?restr1x4q17
      case hyr1x4q17 => intro wq hSw; (have cq := CL.out wq hSw; go_simp); (try with_reducible rfl)
      try simp only [Act.put, List.setIfInBounds_toArray, List.set_cons_zero, List.set_cons_succ]
      refine wpAnyH_take (i := 5) (oi := ⟨some 24, .move (.tmp 6), 22, "ref.go:37", #[{ on := 9, ground := Ground.gcOnly Departure.lateStores }], none⟩) (v := ?_) rfl (by kernel_rfl) (by kernel_rfl) (by kernel_rfl) (fun _ _ _ h => h) (Or.inl ⟨by rfl, ?hyr1x5q20⟩) (by assumption) ?restr1x5q20
      case hyr1x5q20 => intro wq hSw; (go_simp); (try with_reducible rfl)
      try simp only [Act.put, List.setIfInBounds_toArray, List.set_cons_zero, List.set_cons_succ]
      refine wpAnyH_take (i := 6) (oi := ⟨some 25, .move (.tmp 7), 3, "ref.go:37", #[{ on := 9, ground := Ground.gcOnly Departure.lateStores }], none⟩) (v := ?_) rfl (by kernel_rfl) (by kernel_rfl) (by kernel_rfl) (fun _ _ _ h => h) (Or.inl ⟨by rfl, ?hyr1x6q23⟩) (by assumption) ?restr1x6q23
      case hyr1x6q23 => intro wq hSw; (go_simp); (try with_reducible rfl)
      try simp only [Act.put, List.setIfInBounds_toArray, List.set_cons_zero, List.set_cons_succ]
      refine wpAnyH_take (i := 7) (oi := ⟨some 26, .indexAddr 22 (.tmp 24) (.tmp 25), 0, "ref.go:37", #[⟨5, .data⟩, ⟨6, .data⟩, { on := 9, ground := Ground.gcOnly Departure.lateStores }], none⟩) (v := ?_) rfl (by kernel_rfl) (by kernel_rfl) (by kernel_rfl) (fun _ _ _ h => h) (Or.inl ⟨by rfl, ?hyr1x7q26⟩) (by assumption) ?restr1x7q26
      case hyr1x7q26 => intro wq hSw; (go_simp); (try with_reducible rfl)
      try simp only [Act.put, List.setIfInBounds_toArray, List.set_cons_zero, List.set_cons_succ]
      refine wpAnyH_take (i := 8) (oi := ⟨some 27, .load 3 (.tmp 26), 3, "ref.go:37", #[⟨7, .data⟩, { on := 9, ground := Ground.gcOnly Departure.lateStores }], none⟩) (v := ?_) rfl (by kernel_rfl) (by kernel_rfl) (by kernel_rfl) (fun _ _ _ h => h) (Or.inl ⟨by rfl, ?hyr1x8q29⟩) (by assumption) ?restr1x8q29
      case hyr1x8q29 => intro wq hSw; (have cq := CR.out wq hSw; go_simp); (try with_reducible rfl)
      try simp only [Act.put, List.setIfInBounds_toArray, List.set_cons_zero, List.set_cons_succ]
      refine wpAnyH_take (i := 9) (oi := ⟨some 8, .assign (.tmp 23), 3, "ref.go:37", #[⟨4, .data⟩, ⟨0, .phase⟩, ⟨1, .phase⟩, ⟨2, .phase⟩, ⟨3, .phase⟩, ⟨4, .phase⟩, { on := 5, ground := Ground.textOnly Departure.lateStores }, { on := 6, ground := Ground.textOnly Departure.lateStores }, { on := 7, ground := Ground.textOnly Departure.lateStores }, { on := 8, ground := Ground.textOnly Departure.lateStores }], none⟩) (v := ?_) rfl (by kernel_rfl) (by kernel_rfl) (by kernel_rfl) (fun _ _ _ h => h) (Or.inl ⟨by rfl, ?hyr1x9q32⟩) (by assumption) ?restr1x9q32
      case hyr1x9q32 => intro wq hSw; (go_simp); (try with_reducible rfl)
      try simp only [Act.put, List.setIfInBounds_toArray, List.set_cons_zero, List.set_cons_succ]
      refine wpAnyH_take (i := 10) (oi := ⟨some 9, .assign (.tmp 27), 3, "ref.go:37", #[⟨8, .data⟩, ⟨9, .chain⟩, ⟨0, .phase⟩, ⟨1, .phase⟩, ⟨2, .phase⟩, ⟨3, .phase⟩, ⟨4, .phase⟩, ⟨5, .phase⟩, ⟨6, .phase⟩, ⟨7, .phase⟩, ⟨8, .phase⟩, ⟨9, .phase⟩], none⟩) (v := ?_) rfl (by kernel_rfl) (by kernel_rfl) (by kernel_rfl) (fun _ _ _ h => h) (Or.inl ⟨by rfl, ?hyr1x10q35⟩) (by assumption) ?restr1x10q35
      case hyr1x10q35 => intro wq hSw; (go_simp); (try with_reducible rfl)
      try simp only [Act.put, List.setIfInBounds_toArray, List.set_cons_zero, List.set_cons_succ]
      refine wpAnyH_done (by kernel_rfl) ?_ _
      have qd := QI.out wd hHeld
      have KD := Lib.hid (KI.out.nx hHeld)
      have OD := OWN.out.nx hHeld
      have zd := KD.out.size
      clear hHeld hDrew OWN
      by_cases ha : yl = p.id
      · have da : (yl != p.id) = false := by simpa using ha
        have SN1 := Lib.hid (SN.out.trans (show O ++ ((if yl = p.id then [] else [(yl, yr)]) ++ (if yr = p.id then [] else [(yr, yl)])) = O ++ (if yr = p.id then [] else [(yr, yl)]) by rw [if_pos ha, List.nil_append]))
        clear SN ha
        by_cases hb : yr = p.id
        · have db : (yr != p.id) = false := by simpa using hb
          have SN2 := Lib.hid (SN1.out.trans (show O ++ (if yr = p.id then [] else [(yr, yl)]) = O by rw [if_pos hb, List.append_nil]))
          have OO := Lib.hid OD
          clear SN1 hb OD
          go_wp2_with fail
          exact ⟨⟨k + 1, by omega, by omega, by go_num, by rw [SN2.out]; exact OO.out, KD.out⟩, by simp [intOf]; omega⟩
        · have db : (yr != p.id) = true := by simpa using hb
          have SN2 := Lib.hid (SN1.out.trans (show O ++ (if yr = p.id then [] else [(yr, yl)]) = O ++ [(yr, yl)] by rw [if_neg hb]))
          clear SN1 hb
          go_wp2_with (at_builtin; (refine wpList_append_lit (enc := encS) wd rfl _ _ 62 rfl w2.heap.size 89 (.agg #[.int .i64 0, .int .i64 0]) 2 16 Tryz.underlying62 Tryz.infoIn rfl (by omega) (by omega) _ _ OD rfl ((yr, yl) : Int × Int) _ rfl rfl (by simp [encS, Value.oneCell']) _ (by simp) rfl (by omega) zd _ ?_); intro v6 w6 own6 ch0 ch1 hz6)
          exact ⟨⟨k + 1, by omega, by omega, by go_num, by rw [SN2.out]; exact own6, Chg.trans KD.out ch1⟩, by simp [intOf]; omega⟩
      · have da : (yl != p.id) = true := by simpa using ha
        have SN1 := Lib.hid (SN.out.trans (show O ++ ((if yl = p.id then [] else [(yl, yr)]) ++ (if yr = p.id then [] else [(yr, yl)])) = (O ++ [(yl, yr)]) ++ (if yr = p.id then [] else [(yr, yl)]) by rw [if_neg ha, List.append_assoc]))
        have hol2 : (O ++ [(yl, yr)]).length ≤ 2001 := by rw [List.length_append, List.length_singleton]; omega
        clear SN ha
        go_upto_region 9 with (at_builtin; (refine wpList_append_lit (enc := encS) wd rfl _ _ 62 rfl w2.heap.size 89 (.agg #[.int .i64 0, .int .i64 0]) 2 16 Tryz.underlying62 Tryz.infoIn rfl (by omega) (by omega) _ _ OD rfl ((yl, yr) : Int × Int) _ rfl rfl (by simp [encS, Value.oneCell']) _ (by simp) rfl (by omega) zd _ ?_); intro v6 w6 own6 ch0 ch1 hz6)
        have K6 := Lib.hid (Chg.trans KD.out ch1)
        have z6 := K6.out.size
        have qd6 := (B3.out.nx K6.out).cell 0 _ rfl
        clear qd OD ch0 ch1 hz6
        generalize O ++ [(yl, yr)] = O2 at own6 SN1 hol2
        by_cases hb : yr = p.id
        · have db : (yr != p.id) = false := by simpa using hb
          have SN2 := Lib.hid (SN1.out.trans (show O2 ++ (if yr = p.id then [] else [(yr, yl)]) = O2 by rw [if_pos hb, List.append_nil]))
          have OO := Lib.hid own6
          clear SN1 hb own6
          go_wp2_with fail
          exact ⟨⟨k + 1, by omega, by omega, by go_num, by rw [SN2.out]; exact OO.out, K6.out⟩, by simp [intOf]; omega⟩
        · have db : (yr != p.id) = true := by simpa using hb
          have SN2 := Lib.hid (SN1.out.trans (show O2 ++ (if yr = p.id then [] else [(yr, yl)]) = O2 ++ [(yr, yl)] by rw [if_neg hb]))
          clear SN1 hb
          go_wp2_with (at_builtin; (refine wpList_append_lit (enc := encS) w6 rfl _ _ 62 rfl w2.heap.size 89 (.agg #[.int .i64 0, .int .i64 0]) 2 16 Tryz.underlying62 Tryz.infoIn rfl (by omega) (by omega) _ _ own6 rfl ((yr, yl) : Int × Int) _ rfl rfl (by simp [encS, Value.oneCell']) _ (by simp) rfl (by omega) z6 _ ?_); intro v7 w7 own7 ch0 ch1 hz7)
          exact ⟨⟨k + 1, by omega, by omega, by go_num, by rw [SN2.out]; exact own7, Chg.trans K6.out ch1⟩, by simp [intOf]; omega⟩
    · have h03 : ¬ (k : Int) < (R.length : Int) := by omega
      rw [prs_all (by omega)] at own
      have FO := Lib.hid (OwnL.base own z2)
      have FE := Lib.hid (EX2.out.nx ki)
      have HI := Lib.hid (IN.out _ rfl)
      clear own ki hkm hk
      go_wp2_with fail
      go_ret
      exact ⟨_, rfl, by rw [HI.out]; exact FO.out, FE.out⟩
end Go.Proofs.YtbnbjiddffihoaaGreatDoor

/- Keep of the reference 16 (printed by gen_liu.py). -/
namespace Go.Proofs.YtbnbjiddffihoaaGreatDoor
open Go.RowKit

def KrRel (R : List Int) (id : Int) (g : Nat) (w : World) (i : Value) (wr : World) : Prop :=
  ∃ (k : Nat) (q : Int × Int), k ≤ R.length ∧ i = .int .i64 k ∧ Blk wr g [.int .i64 q.1, .int .i64 q.2] 65 ∧ Ex w wr ∧
    (((∀ j z, j < k → R[j]? = some z → z ≠ id) ∧ q = (0, 0)) ∨ ((∃ j, j < k ∧ R[j]? = some id) ∧ q = besN id R))
theorem nodup_at {R : List Int} (h : R.Nodup) {i j : Nat} {v : Int} (hi : R[i]? = some v) (hj : R[j]? = some v) : i = j := by
  obtain ⟨h1, h2⟩ := List.getElem?_eq_some_iff.1 hi
  obtain ⟨h3, h4⟩ := List.getElem?_eq_some_iff.1 hj
  have key := List.pairwise_iff_getElem.1 (show R.Pairwise (· ≠ ·) from h)
  rcases Nat.lt_trichotomy i j with h5 | h5 | h5
  · exact absurd (h2.trans h4.symm) (key i j h1 h3 h5)
  · exact h5
  · exact absurd (h4.trans h2.symm) (key j i h3 h1 h5)
set_option maxRecDepth 100000 in
set_option maxHeartbeats 8000000 in
theorem keep_r (a : Option Addr) (n c : Nat) (N : List Nd) (p : Pr) (a1 : Option Addr) (n1 c1 : Nat) (a2 : Option Addr) (n2 c2 : Nat) (w : World) (h : Sl 3 encN w a n N) (hn : n ≤ 1000) (h1 : Sl 1 encI w a1 n1 p.known) (h2 : Sl 4 encNr w a2 n2 p.near) (hn1 : n1 ≤ 2000000) (hn2 : n2 ≤ 2000000) :
    Calls Tryz.prog 38 #[.slice a n c, .agg #[.int .i64 p.id, .slice a1 n1 c1, .int .i64 p.left, .int .i64 p.right, .slice a2 n2 c2]] w (KpPost N p w) := by
  have EX := Ex.refl w
  have HL := Lib.hid h.len
  obtain ⟨g3, hg3⟩ : ∃ g3, g3 = w.heap.size := ⟨_, rfl⟩
  obtain ⟨g4, hg4⟩ : ∃ g4, g4 = (w.heap.size + 1) := ⟨_, rfl⟩
  obtain ⟨w1, hw1⟩ : ∃ w1, w1 = ((w.alloc (.cells #[.int .i64 p.id, .slice a1 n1 c1, .int .i64 p.left, .int .i64 p.right, .slice a2 n2 c2] 45)).alloc (.cells #[.int .i64 0, .int .i64 0] 65)) := ⟨_, rfl⟩
  have kk : Ex w w1 := by rw [hw1]; exact (((Ex.refl w).alloc (.cells #[.int .i64 p.id, .slice a1 n1 c1, .int .i64 p.left, .int .i64 p.right, .slice a2 n2 c2] 45)).alloc (.cells #[.int .i64 0, .int .i64 0] 65))
  have B3 : Blk w1 g3 [.int .i64 p.id, .slice a1 n1 c1, .int .i64 p.left, .int .i64 p.right, .slice a2 n2 c2] 45 := by rw [hw1]; simp only [hg3, hg4]; have hbk := ((Blk.new w [.int .i64 p.id, .slice a1 n1 c1, .int .i64 p.left, .int .i64 p.right, .slice a2 n2 c2] 45).nx (Ex.new _ (.cells #[.int .i64 0, .int .i64 0] 65))); simpa using hbk
  have B4 : Blk w1 g4 [.int .i64 0, .int .i64 0] 65 := by rw [hw1]; simp only [hg3, hg4]; have hbk := (Blk.new (w.alloc (.cells #[.int .i64 p.id, .slice a1 n1 c1, .int .i64 p.left, .int .i64 p.right, .slice a2 n2 c2] 45)) [.int .i64 0, .int .i64 0] 65); simpa using hbk
  have Hw1 := Lib.hid hw1
  have Hg3 := Lib.hid hg3
  have Hg4 := Lib.hid hg4
  replace h := h.nx kk
  replace h1 := h1.nx kk
  replace h2 := h2.nx kk
  replace EX := EX.nx kk
  have zg4 : w.heap.size ≤ g4 := by omega
  clear kk hw1 hg3 hg4
  go_enter Tryz.func38, Tryz.ntmps38
  go_upto_region 1 with fail
  rw [← Hw1.out, ← Hg4.out, ← Hg3.out]
  clear Hw1 Hg4 Hg3
  have q0 := B3.cell 0 _ rfl
  have q1 := B3.cell 1 _ rfl
  have q2 := B3.cell 2 _ rfl
  have q3 := B3.cell 3 _ rfl
  have q4 := B3.cell 4 _ rfl
  go_wp2_with fail
  (with_reducible refine (around_r _ _ _ N p _ _ _ _ _ _ _ h hn h1 h2 hn1 hn2).mono ?_)
  rintro e w2 ⟨v, rfl, own, kk⟩
  replace EX := EX.nx kk
  replace B3 := B3.nx kk
  replace B4 := B4.nx kk
  clear kk
  clear q0 q1 q2 q3 q4 h h1 h2
  have hrl : (arN N p).length ≤ 1000 := by
    have h1 := HL.out
    have h2 := ar_len (N := N) p
    omega
  obtain ⟨aR, cR, rfl, R1, _, _, _⟩ := own.slf (fun _ => rfl)
  have S := Lib.hid R1.sl
  have KN : Hid (∀ r, besN p.id (arN N p) = r → keepN N p = r) := Lib.hid (fun r hr => hr)
  have ND := Lib.hid (ar_nodup' (N := N) p)
  generalize arN N p = R at own R1 S KN ND hrl ⊢
  have B3 := Lib.hid B3
  have B4 := Lib.hid B4
  have EX2 := Lib.hid EX
  clear own R1
  have B6 := Blk.new w2 [.int .i64 0, .int .i64 0] 65
  have kk := Ex.new w2 (.cells #[.int .i64 0, .int .i64 0] 65)
  obtain ⟨w4, hw4⟩ : ∃ w4, w4 = w2.alloc (.cells #[.int .i64 0, .int .i64 0] 65) := ⟨_, rfl⟩
  obtain ⟨g6, hg6⟩ : ∃ g6, g6 = w2.heap.size := ⟨_, rfl⟩
  replace B6 : Blk w4 g6 [.int .i64 0, .int .i64 0] 65 := by rw [hw4, hg6]; exact B6
  rw [← hw4] at kk
  have Hw4 := Lib.hid hw4
  have Hg6 := Lib.hid hg6
  have zg6 : w2.heap.size ≤ g6 := by omega
  have K4 := Lib.hid kk
  clear kk hw4 hg6 EX
  go_upto_region 3 with fail
  rw [← Hg6.out, ← Hw4.out]
  clear Hg6 Hw4
  have B60 := Lib.hid B6
  clear B6
  go_wp2_with fail
  go_loopw [7] (fun i wr => KrRel R p.id g6 w2 i wr) (fun i _ => R.length - (intOf i).toNat)
  case atStart => exact ⟨0, (0, 0), by omega, rfl, B60.out, K4.out, .inl ⟨fun j z h => by omega, rfl⟩⟩
  case round =>
    obtain ⟨k, ⟨qx, qy⟩, hk, rfl, B6, ki, hcase⟩ := hrel
    obtain ⟨wi, rfl⟩ : ∃ wi : World, wi = wr := ⟨_, rfl⟩
    simp only at B6
    by_cases hkm : k < R.length
    · obtain ⟨xl, xo, y, rfl, hxl, hy, hcl⟩ := (S.out.nx ki).at hkm
      have CR : Hid (∀ wq, Ex wi wq → wq.cell? ⟨xl, xo + k, none⟩ = some (.int .i64 y)) := Lib.hid (fun wq kq => Chg.cellv kq (by simpa using hcl 0 _ rfl) hxl)
      have QI : Hid (∀ wq, Ex wi wq → wq.cell? ⟨g3, 0, none⟩ = some (.int .i64 p.id)) := Lib.hid (fun wq kq => (B3.out.nx (ki.nx kq)).cell 0 _ rfl)
      have B6h := Lib.hid B6
      have KI := Lib.hid ki
      have HC := Lib.hid hcase
      have HYK := Lib.hid hy
      have h03 : (k : Int) < (R.length : Int) := by omega
      have hk0 : (0 : Int) ≤ (k : Int) := by omega
      have hwk : IntKind.i64.wrap ((k : Int) - 1) = (k : Int) - 1 := IntWalk.i64_in _ (by omega)
      have hwp : IntKind.i64.wrap ((k : Int) + 1) = (k : Int) + 1 := IntWalk.i64_in _ (by omega)
      clear hcl hy B6 ki hcase hxl
      go_upto_region 6 with fail
      refine wp_region_held_drew (S := Ex wi) (by kernel_rfl) ((Ex.refl wi).drew) (fun hHeld => ?_)
      obtain ⟨wd, hwdx⟩ : ∃ wd : World, wd = World.drew wi := ⟨_, rfl⟩
      rw [← hwdx] at hHeld ⊢
      have hDrew : Ex wi wd := by rw [hwdx]; exact (Ex.refl wi).drew
      clear hwdx
      refine wpAnyH_take (i := 0) (oi := ⟨some 18, .move (.tmp 5), 22, "ref.go:53", #[], none⟩) (v := ?_) rfl (by kernel_rfl) (by kernel_rfl) (by kernel_rfl) (fun _ _ _ h => h) (Or.inl ⟨by rfl, ?hyr1x0q5⟩) (by assumption) ?restr1x0q5
      case hyr1x0q5 => intro wq hSw; (go_simp); (try with_reducible rfl)
      try simp only [Act.put, List.setIfInBounds_toArray, List.set_cons_zero, List.set_cons_succ]
      refine wpAnyH_take (i := 1) (oi := ⟨some 19, .move (.tmp 7), 3, "ref.go:53", #[], none⟩) (v := ?_) rfl (by kernel_rfl) (by kernel_rfl) (by kernel_rfl) (fun _ _ _ h => h) (Or.inl ⟨by rfl, ?hyr1x1q8⟩) (by assumption) ?restr1x1q8
      case hyr1x1q8 => intro wq hSw; (go_simp); (try with_reducible rfl)
      try simp only [Act.put, List.setIfInBounds_toArray, List.set_cons_zero, List.set_cons_succ]
      refine wpAnyH_take (i := 2) (oi := ⟨some 20, .indexAddr 22 (.tmp 18) (.tmp 19), 0, "ref.go:53", #[⟨0, .data⟩, ⟨1, .data⟩], none⟩) (v := ?_) rfl (by kernel_rfl) (by kernel_rfl) (by kernel_rfl) (fun _ _ _ h => h) (Or.inl ⟨by rfl, ?hyr1x2q11⟩) (by assumption) ?restr1x2q11
      case hyr1x2q11 => intro wq hSw; (go_simp); (try with_reducible rfl)
      try simp only [Act.put, List.setIfInBounds_toArray, List.set_cons_zero, List.set_cons_succ]
      refine wpAnyH_take (i := 3) (oi := ⟨some 21, .load 3 (.tmp 20), 3, "ref.go:53", #[⟨2, .data⟩], none⟩) (v := ?_) rfl (by kernel_rfl) (by kernel_rfl) (by kernel_rfl) (fun _ _ _ h => h) (Or.inl ⟨by rfl, ?hyr1x3q14⟩) (by assumption) ?restr1x3q14
      case hyr1x3q14 => intro wq hSw; (have cq := CR.out wq hSw; go_simp); (try with_reducible rfl)
      try simp only [Act.put, List.setIfInBounds_toArray, List.set_cons_zero, List.set_cons_succ]
      refine wpAnyH_take (i := 4) (oi := ⟨some 22, .fieldAddr 45 (.tmp 3) 0, 0, "ref.go:53", #[], none⟩) (v := ?_) rfl (by kernel_rfl) (by kernel_rfl) (by kernel_rfl) (fun _ _ _ h => h) (Or.inl ⟨by rfl, ?hyr1x4q17⟩) (by assumption) ?restr1x4q17
      case hyr1x4q17 => intro wq hSw; (go_simp); (try with_reducible rfl)
      try simp only [Act.put, List.setIfInBounds_toArray, List.set_cons_zero, List.set_cons_succ]
      refine wpAnyH_take (i := 5) (oi := ⟨some 23, .load 3 (.tmp 22), 3, "ref.go:53", #[⟨4, .data⟩], none⟩) (v := ?_) rfl (by kernel_rfl) (by kernel_rfl) (by kernel_rfl) (fun _ _ _ h => h) (Or.inl ⟨by rfl, ?hyr1x5q20⟩) (by assumption) ?restr1x5q20
      case hyr1x5q20 => intro wq hSw; (have cq := QI.out wq hSw; go_simp); (try with_reducible rfl)
      try simp only [Act.put, List.setIfInBounds_toArray, List.set_cons_zero, List.set_cons_succ]
      refine wpAnyH_take (i := 6) (oi := ⟨some 24, .binOp .neq 3 (.tmp 21) (.tmp 23) 3, 4, "ref.go:53", #[⟨3, .data⟩, ⟨5, .data⟩], none⟩) (v := ?_) rfl (by kernel_rfl) (by kernel_rfl) (by kernel_rfl) (fun _ _ _ h => h) (Or.inl ⟨by rfl, ?hyr1x6q23⟩) (by assumption) ?restr1x6q23
      case hyr1x6q23 => intro wq hSw; (go_simp); (try with_reducible rfl)
      try simp only [Act.put, List.setIfInBounds_toArray, List.set_cons_zero, List.set_cons_succ]
      refine wpAnyH_done (by kernel_rfl) ?_ _
      have B6 := B6h.out.nx hHeld
      have K : Ex w2 wd := KI.out.nx hHeld
      clear hHeld hDrew B6h KI
      by_cases he : y = p.id
      · have de : (y != p.id) = false := by simpa using he
        subst he
        obtain ⟨hq1, hq2⟩ : qx = 0 ∧ qy = 0 := by
          rcases HC.out with ⟨_, h⟩ | ⟨⟨j, hj, hjv⟩, _⟩
          · simpa using h
          · have := nodup_at ND.out hjv HYK.out
            omega
        subst hq1 hq2
        have HB := Lib.hid (bes_nodup ND.out HYK.out)
        by_cases hz : k = 0
        · have HB : Hid (besN p.id R = (0, R[k + 1]?.getD 0)) := Lib.hid (by rw [HB.out, if_pos hz])
          have hzz : ¬ (k : Int) > 0 := by omega
          have hzz2 : ¬ (0 : Int) < (k : Int) := by omega
          clear hz
          by_cases hr1 : k + 1 < R.length
          · obtain ⟨xr, xo', yr, hee2, hxr, hyr, hcr⟩ := (S.out.nx K).at hr1
            cases hee2
            have cr : wd.cell? ⟨xl, xo + (k + 1), none⟩ = some (.int .i64 yr) := by simpa using hcr 0 _ rfl
            have HB2 : Hid (besN p.id R = (0, yr)) := Lib.hid (by rw [HB.out, hyr]; rfl)
            have h04 : (k : Int) + 1 < (R.length : Int) := by omega
            have h05 : (0 : Int) ≤ (k : Int) + 1 := by omega
            have f1 := B6.free 1
            have c1 := B6.cell 1 _ rfl
            have BF : Hid (Blk (wd.setCell ⟨g6, 1, none⟩ (.int .i64 yr)) g6 [.int .i64 0, .int .i64 yr] 65) := Lib.hid (B6.set 1 _)
            have KF := Lib.hid (K.setNew (p := ⟨g6, 1, none⟩) (.int .i64 yr) zg6)
            clear hyr hcr hxr B6 K HB
            go_wp2_with fail
            exact ⟨⟨k + 1, (0, yr), by omega, by go_num, BF.out, KF.out, .inr ⟨⟨k, by omega, HYK.out⟩, HB2.out.symm⟩⟩, by simp [intOf]; omega⟩
          · have hn : R[k + 1]? = none := List.getElem?_eq_none (by omega)
            have HB2 : Hid (besN p.id R = (0, 0)) := Lib.hid (by rw [HB.out, hn]; rfl)
            have h04 : ¬ (k : Int) + 1 < (R.length : Int) := by omega
            have BF := Lib.hid B6
            have KF := Lib.hid K
            clear hn B6 K HB
            go_wp2_with fail
            exact ⟨⟨k + 1, (0, 0), by omega, by go_num, BF.out, KF.out, .inr ⟨⟨k, by omega, HYK.out⟩, HB2.out.symm⟩⟩, by simp [intOf]; omega⟩
        · obtain ⟨xl', xo', yl, hee, hxl, hyl, hcl⟩ := (S.out.nx K).at (show k - 1 < R.length by omega)
          cases hee
          have cl : wd.cell? ⟨xl, xo + (k - 1), none⟩ = some (.int .i64 yl) := by simpa using hcl 0 _ rfl
          have HB : Hid (besN p.id R = (yl, R[k + 1]?.getD 0)) := Lib.hid (by rw [HB.out, if_neg hz, hyl]; rfl)
          have hkp : (0 : Int) < (k : Int) := by omega
          have h01 : (1 : Int) ≤ (k : Int) := by omega
          have h02 : (k : Int) - 1 < (R.length : Int) := by omega
          have f0 := B6.free 0
          have c0 := B6.cell 0 _ rfl
          have BL := Lib.hid (B6.set 0 (.int .i64 yl))
          have KL := Lib.hid (K.setNew (p := ⟨g6, 0, none⟩) (.int .i64 yl) zg6)
          clear hcl hyl hxl B6 K
          go_upto_region 9 with fail
          obtain ⟨wl, hwl⟩ : ∃ wl, wl = wd.setCell ⟨g6, 0, none⟩ (.int .i64 yl) := ⟨_, rfl⟩
          rw [← hwl] at BL KL ⊢
          have B6 : Blk wl g6 [.int .i64 yl, .int .i64 0] 65 := BL.out
          have K := KL.out
          clear hwl BL KL f0 c0 cl
          by_cases hr1 : k + 1 < R.length
          · obtain ⟨xr, xo', yr, hee2, hxr, hyr, hcr⟩ := (S.out.nx K).at hr1
            cases hee2
            have cr : wl.cell? ⟨xl, xo + (k + 1), none⟩ = some (.int .i64 yr) := by simpa using hcr 0 _ rfl
            have HB2 : Hid (besN p.id R = (yl, yr)) := Lib.hid (by rw [HB.out, hyr]; rfl)
            have h04 : (k : Int) + 1 < (R.length : Int) := by omega
            have h05 : (0 : Int) ≤ (k : Int) + 1 := by omega
            have f1 := B6.free 1
            have c1 := B6.cell 1 _ rfl
            have BF : Hid (Blk (wl.setCell ⟨g6, 1, none⟩ (.int .i64 yr)) g6 [.int .i64 yl, .int .i64 yr] 65) := Lib.hid (B6.set 1 _)
            have KF := Lib.hid (K.setNew (p := ⟨g6, 1, none⟩) (.int .i64 yr) zg6)
            clear hyr hcr hxr B6 K HB
            go_wp2_with fail
            exact ⟨⟨k + 1, (yl, yr), by omega, by go_num, BF.out, KF.out, .inr ⟨⟨k, by omega, HYK.out⟩, HB2.out.symm⟩⟩, by simp [intOf]; omega⟩
          · have hn : R[k + 1]? = none := List.getElem?_eq_none (by omega)
            have HB2 : Hid (besN p.id R = (yl, 0)) := Lib.hid (by rw [HB.out, hn]; rfl)
            have h04 : ¬ (k : Int) + 1 < (R.length : Int) := by omega
            have BF := Lib.hid B6
            have KF := Lib.hid K
            clear hn B6 K HB
            go_wp2_with fail
            exact ⟨⟨k + 1, (yl, 0), by omega, by go_num, BF.out, KF.out, .inr ⟨⟨k, by omega, HYK.out⟩, HB2.out.symm⟩⟩, by simp [intOf]; omega⟩
      · have de : (y != p.id) = true := by simpa using he
        have FN := Lib.hid (show KrRel R p.id g6 w2 (.int .i64 ((k : Int) + 1)) wd from ⟨k + 1, (qx, qy), by omega, by go_num, B6, K, by
          rcases HC.out with ⟨h1, h2⟩ | ⟨⟨j, hj, hjv⟩, h2⟩
          · refine .inl ⟨fun j z hj hz => ?_, h2⟩
            rcases Nat.lt_or_ge j k with h3 | h3
            · exact h1 j z h3 hz
            · obtain rfl : j = k := by omega
              rw [HYK.out] at hz
              cases hz
              exact he
          · exact .inr ⟨⟨j, by omega, hjv⟩, h2⟩⟩)
        clear B6 K he
        go_wp2_with fail
        exact ⟨FN.out, by simp [intOf]; omega⟩
    · obtain rfl : k = R.length := by omega
      have h03 : ¬ ((R.length : Nat) : Int) < (R.length : Int) := by omega
      have hres : (qx, qy) = besN p.id R := by
        rcases hcase with ⟨h1, h2⟩ | ⟨_, h2⟩
        · rw [h2, bes_none (fun hm => by
            obtain ⟨j, hj⟩ := List.mem_iff_getElem?.1 hm
            exact h1 j _ (List.getElem?_eq_some_iff.1 hj).1 hj rfl)]
        · exact h2
      have KE := Lib.hid (KN.out _ hres.symm)
      have B4j := B4.out.nx ki
      have p0 := B6.cell 0 _ rfl
      have p1 := B6.cell 1 _ rfl
      have q0 := B4j.cell 0 _ rfl
      have q1 := B4j.cell 1 _ rfl
      have f0 := B4j.free 0
      have f1 := B4j.free 1
      have KF := Lib.hid (((EX2.out.nx ki).setNew (p := ⟨g4, 0, none⟩) (.int .i64 qx) zg4).setNew (p := ⟨g4, 1, none⟩) (.int .i64 qy) zg4)
      clear B4j B6 hcase hres ki hkm hk
      go_wp2_with fail
      refine bodyPost_ret (v := .agg #[.int .i64 qx, .int .i64 qy]) (by simp [results, Tryz.results38, go_sem, *]) rfl ⟨by rw [KE.out], KF.out⟩
end Go.Proofs.YtbnbjiddffihoaaGreatDoor

/- nearest of the reference (printed by gen_nst.py). -/
namespace Go.Proofs.YtbnbjiddffihoaaGreatDoor
open Go.RowKit

end Go.Proofs.YtbnbjiddffihoaaGreatDoor

/- Peers of the package redundant and of its reference (printed by gen_prs.py). -/
namespace Go.Proofs.YtbnbjiddffihoaaGreatDoor
open Go.RowKit

theorem OwnL.ne_blk {α : Type} {sz e base g' : Nat} {enc : α → List Value} {w : World} {v : Value} {l : List α} {cs : List Value} {ty : TypeId} (h : OwnL sz enc e base w v l) (B : Blk w g' cs ty) (hne : e ≠ ty) {g : Nat} (hg : v.ownBlock = some g) : g ≠ g' := by
  rintro rfl
  obtain ⟨_, cur, hh⟩ := h.blk hg
  exact blk_kind hne hh B
theorem OwnL.put {α : Type} {sz e base g' : Nat} {enc : α → List Value} {w w' : World} {v : Value} {l : List α} {cs : List Value} {ty : TypeId} (h : OwnL sz enc e base w v l) (B : Blk w g' cs ty) (hne : e ≠ ty) (k : Exb g' w w') : OwnL sz enc e base w' v l :=
  h.chg k fun _ hx hv => ⟨hx, h.ne_blk B hne hv⟩
end Go.Proofs.YtbnbjiddffihoaaGreatDoor

/- Connected of the package redundant. -/
namespace Go.Proofs.YtbnbjiddffihoaaGreatDoor
open Go.RowKit Go.Maps

def AccM (β lo hi bm : Nat) (w6 wr : World) (f : Int → Value) : Prop :=
  Chg (fun k => k < hi ∧ k ≠ bm ∧ (k < β ∨ lo ≤ k)) w6 wr ∧ hi ≤ wr.heap.size ∧ ∀ v g, (f v).ownBlock = some g → g < lo ∨ hi ≤ g
section
variable {β lo hi bm : Nat} {w6 wr w9 : World} {f : Int → Value}
theorem AccM.sl {α : Type} {sz n : Nat} {enc : α → List Value} {a : Option Addr} {l : List α} {w5 w6 wr : World} (h : AccM β w5.heap.size w6.heap.size bm w6 wr f) (hb : bm < w5.heap.size) (s : Slf sz enc w5 w6 a n l) : Sl sz enc wr a n l :=
  (Rd.chg s h.1 (fun _ hk => ⟨hk.2, by omega, .inr hk.1⟩)).mono fun _ hk => Nat.lt_of_lt_of_le hk.2 h.2.1
theorem AccM.blk {g : Nat} {cs : List Value} {ty : TypeId} (h : AccM β lo w6.heap.size bm w6 wr f) (B : Blk w6 g cs ty) (hg : lo ≤ g) (hb : bm ≠ g) : Blk wr g cs ty :=
  (Chg.block h.1 g ⟨B.lt, fun h => hb h.symm, .inr hg⟩).trans B
theorem AccM.exb {w2 : World} (h : AccM β lo w6.heap.size bm w6 wr f) (k : Exb bm w2 w6) (hβ : w2.heap.size ≤ β) : Exb bm w2 wr :=
  Chg.trans k (Chg.mono h.1 fun x hx => ⟨Nat.lt_of_lt_of_le hx.1 k.size, hx.2, .inl (Nat.lt_of_lt_of_le hx.1 hβ)⟩)
end
theorem own_hist {va v : Value} {c s : Nat} (h : va.ownBlock = v.ownBlock ∨ va.ownBlock = some c) (hs : s ≤ c) : ∀ g, va.ownBlock = some g → v.ownBlock = some g ∨ s ≤ g := fun g hg => by
  rcases h with h | h
  · exact .inl (by rw [← h]; exact hg)
  · rw [h] at hg; cases hg; exact .inr hs
theorem hold_ex {bm g7 : Nat} {wp cur w' : World} (h : Chg (fun k => k = bm ∨ k = g7) wp cur) (hb : bm < wp.heap.size) (hg : g7 < wp.heap.size) (k : Ex cur w') : Chg (fun k => k = bm ∨ k = g7) wp w' :=
  Chg.trans h (Chg.mono k fun x hx => by have := h.size; show x < cur.heap.size; omega)
theorem hold_row {bm g7 : Nat} {wp cur w' : World} {v : Value} (h : Chg (fun k => k = bm ∨ k = g7) wp cur) (hb : bm < wp.heap.size) (hg : g7 < wp.heap.size) (n : ¬ v.ownBlock = some bm ∧ ¬ v.ownBlock = some g7) (k : Chg (fun k => k < cur.heap.size ∧ ¬ v.ownBlock = some k) cur w') : Chg (fun k => k = bm ∨ k = g7) wp w' :=
  Chg.trans h (Chg.mono k fun x hx => by
    have := h.size
    rcases hx with rfl | rfl
    · exact ⟨by omega, n.1⟩
    · exact ⟨by omega, n.2⟩)
theorem AccM.two {β lo hi bm : Nat} {w6 wp w1 w2 w3 : World} {f : Int → Value} {x y : Int} {va vc : Value} (h : AccM β lo hi bm w6 wp f) (hb : ∀ v g, (f v).ownBlock = some g → β ≤ g)
    (k1 : Chg (fun k => k < wp.heap.size ∧ ¬ (f x).ownBlock = some k) wp w1) (la : ∀ g, va.ownBlock = some g → (f x).ownBlock = some g ∨ wp.heap.size ≤ g)
    (k2 : Chg (fun k => k < w1.heap.size ∧ ¬ (f y).ownBlock = some k) w1 w2) (lc : ∀ g, vc.ownBlock = some g → (f y).ownBlock = some g ∨ w1.heap.size ≤ g) (k3 : Exb bm w2 w3) : AccM β lo hi bm w6 w3 (upd (upd f x va) y vc) := by
  have s1 := k1.size
  have s2 := k2.size
  have s3 := k3.size
  have hs := h.2.1
  have key : ∀ v k, k < hi ∧ k ≠ bm ∧ (k < β ∨ lo ≤ k) → ¬ (f v).ownBlock = some k := fun v k hk hv => by
    have h1 := hb v k hv
    have h2 := h.2.2 v k hv
    omega
  refine ⟨h.1.trans ((k1.mono fun k hk => ⟨by omega, key x k hk⟩).trans ((k2.mono fun k hk => ⟨by omega, key y k hk⟩).trans (Chg.mono k3 fun k hk => ⟨by omega, hk.2.1⟩))), by omega, fun v g hv => ?_⟩
  unfold upd at hv
  by_cases h1 : v = y
  · rw [if_pos h1] at hv
    rcases lc g hv with h2 | h2
    · exact h.2.2 y g h2
    · omega
  · rw [if_neg h1] at hv
    by_cases h3 : v = x
    · rw [if_pos h3] at hv
      rcases la g hv with h2 | h2
      · exact h.2.2 x g h2
      · omega
    · rw [if_neg h3] at hv
      exact h.2.2 v g hv
abbrev GpM (base : Nat) (w : World) (b n : Nat) (f : Int → Value) (J : Int → List Int) : Prop := GrpM Tryz.prog 3 3 base w b n f J
theorem Tryz.zeroS (w : World) : (zeroValue 22).run Tryz.prog w = .ok nilS w := by kernel_rfl
theorem litF {wp u : World} (hz : wp.heap.size ≤ u.heap.size) (x : Int) : ∃ g v, g = u.heap.size ∧ v = u.alloc (.cells #[.int .i64 x] 3) ∧ Slf 1 encI wp v (some ⟨g, 0, none⟩) 1 [x] ∧ Ex u v :=
  ⟨_, _, rfl, rfl, Slf.lit [x] rfl hz rfl (fun _ => rfl) rfl, Ex.new _ _⟩
theorem Slf.row {α β : Type} {sz n sz' e base : Nat} {enc : α → List Value} {enc' : β → List Value} {w0 w w' : World} {a : Option Addr} {l : List α} {v : Value} {l' : List β} (s : Slf sz enc w0 w a n l) (h : OwnL sz' enc' e base w0 v l') (k : Chg (fun k => k < w.heap.size ∧ ¬ v.ownBlock = some k) w w') : Slf sz enc w0 w' a n l :=
  (Rd.chg s k fun _ hk => ⟨hk.2, fun hv => by have := (h.lt _ hv).2; have := hk.1; omega⟩).mono fun _ hk => ⟨hk.1, Nat.lt_of_lt_of_le hk.2 k.size⟩

theorem QuL.no {e : TypeId} {base : Nat} {w : World} {v : Value} (h : QuL e base w v []) : ∃ a c, v = .slice a 0 c := by
  rcases h with ⟨rfl, _⟩ | ⟨g, o, cap, cur, rfl, _⟩
  · exact ⟨none, 0, rfl⟩
  · exact ⟨_, cap, rfl⟩
theorem QuL.base {e : TypeId} {base base' : Nat} {w : World} {v : Value} {l : List Int} (h : QuL e base w v l) (hb : base' ≤ base) : QuL e base' w v l := by
  rcases h with h | ⟨g, o, cap, cur, h1, h2, h3⟩
  · exact .inl h
  · exact .inr ⟨g, o, cap, cur, h1, Nat.le_trans hb h2, h3⟩
end Go.Proofs.YtbnbjiddffihoaaGreatDoor

/- Groups of numbers: one row grows. -/
namespace Go.Proofs.YtbnbjiddffihoaaGreatDoor
open Go.RowKit

def grp1 (J : Int → List Int) (x y : Int) : Int → List Int := fun v => if v = x then J x ++ [y] else J v
section
variable {P : Program} {k e : TypeId} {base : Nat} {w w' : World} {b n : Nat} {f : Int → Value} {J : Int → List Int}
theorem GrpM.one (h : GrpM P k e base w b n f J) {x y : Int} {w1 w3 : World} {a' : Value} {n' : Nat}
    (A : OwnL 1 encI e base w1 a' (J x ++ [y])) (k1 : Chg (fun k => k < w.heap.size ∧ ¬ (f x).ownBlock = some k) w w1) (la : ∀ g, a'.ownBlock = some g → (f x).ownBlock = some g ∨ w.heap.size ≤ g)
    (k3 : Exb b w1 w3) (R : RawM P k w3 b n' (upd f x a')) : GrpM P k e base w3 b n' (upd f x a') (grp1 J x y) := by
  obtain ⟨h1, hb, hs, hO, hd⟩ := h
  have s1 := k1.size
  have s3 := k3.size
  refine ⟨R, hb, by omega, fun v => ?_, fun v v' g hne hv hv' => ?_⟩
  · unfold upd grp1
    by_cases hvx : v = x
    · rw [if_pos hvx, if_pos hvx]
      exact A.nxb hb k3
    · rw [if_neg hvx, if_neg hvx]
      have O1 : OwnL 1 encI e base w1 (f v) (J v) := (hO v).chg k1 fun g hg hv => ⟨hg, hd v x g hvx hv⟩
      exact O1.nxb hb k3
  · unfold upd at hv hv'
    have ov : ∀ u g, u ≠ x → (f u).ownBlock = some g → ¬ a'.ownBlock = some g := by
      intro u g hux hu ha
      rcases la g ha with h2 | h2
      · exact hd u x g hux hu h2
      · have := ((hO u).lt g hu).2; omega
    by_cases hvx : v = x
    · rw [if_pos hvx] at hv
      rw [if_neg (by omega)] at hv'
      exact ov v' g (by omega) hv' hv
    · rw [if_neg hvx] at hv
      by_cases hvx' : v' = x
      · rw [if_pos hvx'] at hv'; exact ov v g hvx hv hv'
      · rw [if_neg hvx'] at hv'; exact hd v v' g hne hv hv'
end
end Go.Proofs.YtbnbjiddffihoaaGreatDoor
