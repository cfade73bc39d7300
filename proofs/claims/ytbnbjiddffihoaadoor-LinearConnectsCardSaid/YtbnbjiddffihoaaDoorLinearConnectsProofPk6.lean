/- Texts for the statement LinearConnectsProof, part 6 of 9: LinC, RedC, RedH, LinD, RedI, RedJ, RedL, MapO. -/
import Derived.BigRegion
import Derived.Deep.LoopGhost
import Derived.Test.YtbnbjiddffihoaaDoorLinearConnectsProofPk3
import Derived.Test.YtbnbjiddffihoaaDoorLinearConnectsProofPk4
import Derived.Test.YtbnbjiddffihoaaDoorLinearConnectsProofPk5

/- Keep of the package linear. -/
namespace Go.Proofs.YtbnbjiddffihoaaDoor
open Go.RowKit

def KpPost (N : List Nd) (p : Pr) (w : World) (e : Ending) (w' : World) : Prop := e = .returned (.agg #[.int .i64 (keepN N p).1, .int .i64 (keepN N p).2]) ∧ Ex w w'
theorem idx_here {l : List Int} {id : Int} {k : Nat} (h : l.findIdx (fun x => id == x) = k) (hk : k < l.length) : l[k]? = some id := by
  subst h
  have := List.findIdx_getElem (w := hk)
  rw [List.getElem?_eq_getElem hk]
  simp only [beq_iff_eq] at this
  rw [← this]
theorem idx_gone {l : List Int} {id : Int} (h : l.findIdx (fun x => id == x) = l.length) : id ∉ l := by
  intro hm
  have : l.findIdx (fun x => id == x) < l.length := List.findIdx_lt_length.2 ⟨id, hm, by simp⟩
  omega
set_option maxRecDepth 100000 in
set_option maxHeartbeats 4000000 in
theorem keep_p (a : Option Addr) (n c : Nat) (N : List Nd) (p : Pr) (a1 : Option Addr) (n1 c1 : Nat) (a2 : Option Addr) (n2 c2 : Nat) (w : World) (h : Sl 3 encN w a n N) (hn : n ≤ 1000) (hc : n ≤ c) (hm : c ≤ maxLen) (h1 : Sl 1 encI w a1 n1 p.known) (h2 : Sl 4 encNr w a2 n2 p.near) (hn1 : n1 ≤ 4000000000000000000) (hn2 : n2 ≤ 4000000000000000000) :
    Calls Tryd.prog 71 #[.slice a n c, .agg #[.int .i64 p.id, .slice a1 n1 c1, .int .i64 p.left, .int .i64 p.right, .slice a2 n2 c2]] w (KpPost N p w) := by
  have EX := Ex.refl w
  have HL := Lib.hid h.len
  obtain ⟨g3, hg3⟩ : ∃ g3, g3 = w.heap.size := ⟨_, rfl⟩
  obtain ⟨g4, hg4⟩ : ∃ g4, g4 = (w.heap.size + 1) := ⟨_, rfl⟩
  obtain ⟨w1, hw1⟩ : ∃ w1, w1 = ((w.alloc (.cells #[.int .i64 p.id, .slice a1 n1 c1, .int .i64 p.left, .int .i64 p.right, .slice a2 n2 c2] 41)).alloc (.cells #[.int .i64 0, .int .i64 0] 92)) := ⟨_, rfl⟩
  have kk : Ex w w1 := by rw [hw1]; exact (((Ex.refl w).alloc (.cells #[.int .i64 p.id, .slice a1 n1 c1, .int .i64 p.left, .int .i64 p.right, .slice a2 n2 c2] 41)).alloc (.cells #[.int .i64 0, .int .i64 0] 92))
  have B3 : Blk w1 g3 [.int .i64 p.id, .slice a1 n1 c1, .int .i64 p.left, .int .i64 p.right, .slice a2 n2 c2] 41 := by rw [hw1]; simp only [hg3, hg4]; have hbk := ((Blk.new w [.int .i64 p.id, .slice a1 n1 c1, .int .i64 p.left, .int .i64 p.right, .slice a2 n2 c2] 41).nx (Ex.new _ (.cells #[.int .i64 0, .int .i64 0] 92))); simpa using hbk
  have B4 : Blk w1 g4 [.int .i64 0, .int .i64 0] 92 := by rw [hw1]; simp only [hg3, hg4]; have hbk := (Blk.new (w.alloc (.cells #[.int .i64 p.id, .slice a1 n1 c1, .int .i64 p.left, .int .i64 p.right, .slice a2 n2 c2] 41)) [.int .i64 0, .int .i64 0] 92); simpa using hbk
  have Hw1 := Lib.hid hw1
  have Hg3 := Lib.hid hg3
  have Hg4 := Lib.hid hg4
  replace h := h.nx kk
  replace h1 := h1.nx kk
  replace h2 := h2.nx kk
  replace EX := EX.nx kk
  have zg4 : w.heap.size ≤ g4 := by omega
  clear kk hw1 hg3 hg4
  go_enter Tryd.func71, Tryd.ntmps71
  go_upto_region 1 with fail
  rw [← Hw1.out, ← Hg4.out, ← Hg3.out]
  clear Hw1 Hg4 Hg3
  have q0 := B3.cell 0 _ rfl
  have q1 := B3.cell 1 _ rfl
  have q2 := B3.cell 2 _ rfl
  have q3 := B3.cell 3 _ rfl
  have q4 := B3.cell 4 _ rfl
  have z1 := EX.size
  go_wp2_with fail
  (with_reducible refine (row_p _ _ _ N p _ _ _ _ _ _ _ h hn hc hm h1 h2 hn1 hn2).mono ?_)
  rintro e w2 ⟨v, rfl, own, kk⟩
  replace EX := EX.nx kk
  replace B3 := B3.nx kk
  replace B4 := B4.nx kk
  clear kk
  clear q0 q1 q2 q3 q4 h h1 h2
  have hrl : (arN N p).length ≤ 1000 := by
    have h1 := HL.out
    have h2 := ar_len (N := N) p
    omega
  obtain ⟨aR, cR, rfl, R1, _, _, _⟩ := own.slf (fun _ => rfl)
  have S := R1.sl
  have KN : Hid (∀ r, besN p.id (arN N p) = r → keepN N p = r) := Lib.hid (fun r hr => hr)
  have ND := Lib.hid (ar_nodup' (N := N) p)
  generalize arN N p = R at own R1 S KN ND hrl ⊢
  clear own R1
  have q0 := B3.cell 0 _ rfl
  go_wp2_with fail
  (with_reducible refine (index_e _ _ _ R p.id _ S (by omega)).mono ?_)
  rintro e w3 ⟨rfl, kk⟩
  replace S := S.nx kk
  replace EX := EX.nx kk
  replace B4 := B4.nx kk
  clear kk
  clear q0 B3
  have zw3 := EX.size
  have hl4 := B4.lt
  have B7 := Blk.new w3 [.int .i64 0, .int .i64 0] 92
  have kk := Ex.new w3 (.cells #[.int .i64 0, .int .i64 0] 92)
  obtain ⟨w4, hw4⟩ : ∃ w4, w4 = w3.alloc (.cells #[.int .i64 0, .int .i64 0] 92) := ⟨_, rfl⟩
  obtain ⟨g7, hg7⟩ : ∃ g7, g7 = w3.heap.size := ⟨_, rfl⟩
  replace B7 : Blk w4 g7 [.int .i64 0, .int .i64 0] 92 := by rw [hw4, hg7]; exact B7
  rw [← hw4] at kk
  have Hw4 := Lib.hid hw4
  have Hg7 := Lib.hid hg7
  replace EX := EX.nx kk
  replace B4 := B4.nx kk
  have zg7 : w.heap.size ≤ g7 := by omega
  have hg47 : ¬ g4 = g7 := by omega
  have KK := Lib.hid kk
  have HG7 := Lib.hid hg7
  clear kk hw4 hg7
  have hR : ¬ (-1 : Int) > 0 := by omega
  rcases idxZ_cases (fun x => p.id == x) R with ⟨k, hq, hi, hk⟩ | ⟨hq, hi⟩
  · rw [hq]
    have hk0 : (0 : Int) ≤ (k : Int) := by omega
    have HH := Lib.hid (bes_nodup ND.out (idx_here hi hk))
    clear hq hi hR
    by_cases hz : k = 0
    · subst hz
      by_cases h1 : 0 + 1 < R.length
      · obtain ⟨xr, xo, yr, rfl, hxr0, hyr, hcr⟩ := S.at h1
        have cr0 : w3.cell? ⟨xr, xo + (0 + 1), none⟩ = some (.int .i64 yr) := by simpa using hcr 0 _ rfl
        have cr := Chg.cellv KK.out cr0 hxr0
        have HYR := Lib.hid hyr
        have hxr : xr ≠ g7 := by have := HG7.out; omega
        clear hcr hyr cr0 hxr0
        have KE : Hid (keepN N p = (0, yr)) := Lib.hid (KN.out _ (by rw [HH.out, HYR.out]; rfl))
        have B4h := Lib.hid B4
        have B7h := Lib.hid B7
        have EXh := Lib.hid EX
        clear B4 B7 EX KN ND
        go_upto_region 4 with fail
        rw [← Hg7.out, ← Hw4.out]
        clear Hg7 Hw4
        obtain ⟨w5, hw5⟩ : ∃ w5, w5 = w4 := ⟨_, rfl⟩
        have cR5 := Lib.hid (fun (x : Addr) (v : Value) (_ : x.block ≠ g7) (hv : w4.cell? x = some v) => show w5.cell? x = some v by rw [hw5]; exact hv)
        rw [← hw5] at B4h B7h EXh ⊢
        have B7i := B7h.out
        have B4i := B4h.out
        have EXi := EXh.out
        clear hw5 B7h B4h EXh
        go_upto_region 6 with fail
        have B4i := Lib.hid B4i
        have B7i := Lib.hid B7i
        have EXi := Lib.hid EXi
        have cq := cR5.out _ _ hxr cr
        have f7 := B7i.out.free 1
        have r7 := B7i.out.cell 1 _ rfl
        go_upto_region 8 with fail
        obtain ⟨w6, hw6⟩ : ∃ w6, w6 = w5.setCell ⟨g7, 1, none⟩ (.int .i64 yr) := ⟨_, rfl⟩
        rw [← hw6]
        have B7j : Blk w6 g7 [.int .i64 0, .int .i64 yr] 92 := by rw [hw6]; exact B7i.out.set 1 _
        have B4j : Blk w6 g4 [.int .i64 0, .int .i64 0] 92 := by rw [hw6]; exact B4i.out.set_ne _ hg47
        have EXj : Ex w w6 := by rw [hw6]; exact EXi.out.setNew (p := ⟨g7, 1, none⟩) _ zg7
        clear hw6 f7 r7 cq cR5 B7i B4i EXi
        have p0 := B7j.cell 0 _ rfl
        have p1 := B7j.cell 1 _ rfl
        have q0 := B4j.cell 0 _ rfl
        have q1 := B4j.cell 1 _ rfl
        have f0 := B4j.free 0
        have f1 := B4j.free 1
        have KF := Lib.hid ((EXj.setNew (p := ⟨g4, 0, none⟩) (.int .i64 0) zg4).setNew (p := ⟨g4, 1, none⟩) (.int .i64 yr) zg4)
        clear B7j B4j EXj
        go_wp2_with fail
        refine bodyPost_ret (v := .agg #[.int .i64 0, .int .i64 yr]) (by simp [results, Tryd.results71, go_sem, *]) rfl ⟨by rw [KE.out], KF.out⟩
      · have hR0 : R[0 + 1]? = none := List.getElem?_eq_none (by omega)
        have HR0 := Lib.hid hR0
        clear hR0
        have KE : Hid (keepN N p = (0, 0)) := Lib.hid (KN.out _ (by rw [HH.out, HR0.out]; rfl))
        have B4h := Lib.hid B4
        have B7h := Lib.hid B7
        have EXh := Lib.hid EX
        clear B4 B7 EX KN ND
        go_upto_region 4 with fail
        rw [← Hg7.out, ← Hw4.out]
        clear Hg7 Hw4
        obtain ⟨w5, hw5⟩ : ∃ w5, w5 = w4 := ⟨_, rfl⟩
        have cR5 := Lib.hid (fun (x : Addr) (v : Value) (_ : x.block ≠ g7) (hv : w4.cell? x = some v) => show w5.cell? x = some v by rw [hw5]; exact hv)
        rw [← hw5] at B4h B7h EXh ⊢
        have B7i := B7h.out
        have B4i := B4h.out
        have EXi := EXh.out
        clear hw5 B7h B4h EXh
        go_upto_region 6 with fail
        have B4i := Lib.hid B4i
        have B7i := Lib.hid B7i
        have EXi := Lib.hid EXi
        go_upto_region 8 with fail
        obtain ⟨w6, hw6⟩ : ∃ w6, w6 = w5 := ⟨_, rfl⟩
        rw [← hw6] at B4i B7i EXi ⊢
        have B7j := B7i.out
        have B4j := B4i.out
        have EXj := EXi.out
        clear hw6 cR5 B7i B4i EXi
        have p0 := B7j.cell 0 _ rfl
        have p1 := B7j.cell 1 _ rfl
        have q0 := B4j.cell 0 _ rfl
        have q1 := B4j.cell 1 _ rfl
        have f0 := B4j.free 0
        have f1 := B4j.free 1
        have KF := Lib.hid ((EXj.setNew (p := ⟨g4, 0, none⟩) (.int .i64 0) zg4).setNew (p := ⟨g4, 1, none⟩) (.int .i64 0) zg4)
        clear B7j B4j EXj
        go_wp2_with fail
        refine bodyPost_ret (v := .agg #[.int .i64 0, .int .i64 0]) (by simp [results, Tryd.results71, go_sem, *]) rfl ⟨by rw [KE.out], KF.out⟩
    · obtain ⟨xl, xo, yl, rfl, hxl0, hyl, hcl⟩ := S.at (show k - 1 < R.length by omega)
      have cl0 : w3.cell? ⟨xl, xo + (k - 1), none⟩ = some (.int .i64 yl) := by simpa using hcl 0 _ rfl
      have cl := Chg.cellv KK.out cl0 hxl0
      have HYL := Lib.hid hyl
      have hkp : (0 : Int) < (k : Int) := by omega
      clear hcl hyl cl0
      by_cases h1 : k + 1 < R.length
      · obtain ⟨xr, xo', yr, hee, hxr0, hyr, hcr⟩ := S.at h1
        cases hee
        have cr0 : w3.cell? ⟨xl, xo + (k + 1), none⟩ = some (.int .i64 yr) := by simpa using hcr 0 _ rfl
        have cr := Chg.cellv KK.out cr0 hxr0
        have HYR := Lib.hid hyr
        have hxr : xl ≠ g7 := by have := HG7.out; omega
        clear hcr hyr cr0 hxr0
        have KE : Hid (keepN N p = (yl, yr)) := Lib.hid (KN.out _ (by rw [HH.out, HYR.out, HYL.out, if_neg hz]; rfl))
        have B4h := Lib.hid B4
        have B7h := Lib.hid B7
        have EXh := Lib.hid EX
        clear B4 B7 EX KN ND
        go_upto_region 4 with fail
        rw [← Hg7.out, ← Hw4.out]
        clear Hg7 Hw4
        have f7 := B7h.out.free 0
        have r7 := B7h.out.cell 0 _ rfl
        go_upto_region 6 with fail
        obtain ⟨w5, hw5⟩ : ∃ w5, w5 = w4.setCell ⟨g7, 0, none⟩ (.int .i64 yl) := ⟨_, rfl⟩
        rw [← hw5]
        have B7i : Blk w5 g7 [.int .i64 yl, .int .i64 0] 92 := by rw [hw5]; exact B7h.out.set 0 _
        have B4i : Blk w5 g4 [.int .i64 0, .int .i64 0] 92 := by rw [hw5]; exact B4h.out.set_ne _ hg47
        have EXi : Ex w w5 := by rw [hw5]; exact EXh.out.setNew (p := ⟨g7, 0, none⟩) _ zg7
        have cR5 := Lib.hid (fun (x : Addr) (v : Value) (hx : x.block ≠ g7) (hv : w4.cell? x = some v) => show w5.cell? x = some v by rw [hw5]; exact (World.cell?_of_block (heap_set_ne rfl hx)).trans hv)
        clear hw5 f7 r7 B7h B4h EXh
        have B4i := Lib.hid B4i
        have B7i := Lib.hid B7i
        have EXi := Lib.hid EXi
        have cq := cR5.out _ _ hxr cr
        have f7 := B7i.out.free 1
        have r7 := B7i.out.cell 1 _ rfl
        go_upto_region 8 with fail
        obtain ⟨w6, hw6⟩ : ∃ w6, w6 = w5.setCell ⟨g7, 1, none⟩ (.int .i64 yr) := ⟨_, rfl⟩
        rw [← hw6]
        have B7j : Blk w6 g7 [.int .i64 yl, .int .i64 yr] 92 := by rw [hw6]; exact B7i.out.set 1 _
        have B4j : Blk w6 g4 [.int .i64 0, .int .i64 0] 92 := by rw [hw6]; exact B4i.out.set_ne _ hg47
        have EXj : Ex w w6 := by rw [hw6]; exact EXi.out.setNew (p := ⟨g7, 1, none⟩) _ zg7
        clear hw6 f7 r7 cq cR5 B7i B4i EXi
        have p0 := B7j.cell 0 _ rfl
        have p1 := B7j.cell 1 _ rfl
        have q0 := B4j.cell 0 _ rfl
        have q1 := B4j.cell 1 _ rfl
        have f0 := B4j.free 0
        have f1 := B4j.free 1
        have KF := Lib.hid ((EXj.setNew (p := ⟨g4, 0, none⟩) (.int .i64 yl) zg4).setNew (p := ⟨g4, 1, none⟩) (.int .i64 yr) zg4)
        clear B7j B4j EXj
        go_wp2_with fail
        refine bodyPost_ret (v := .agg #[.int .i64 yl, .int .i64 yr]) (by simp [results, Tryd.results71, go_sem, *]) rfl ⟨by rw [KE.out], KF.out⟩
      · have hR0 : R[k + 1]? = none := List.getElem?_eq_none (by omega)
        have HR0 := Lib.hid hR0
        clear hR0
        have KE : Hid (keepN N p = (yl, 0)) := Lib.hid (KN.out _ (by rw [HH.out, HR0.out, HYL.out, if_neg hz]; rfl))
        have B4h := Lib.hid B4
        have B7h := Lib.hid B7
        have EXh := Lib.hid EX
        clear B4 B7 EX KN ND
        go_upto_region 4 with fail
        rw [← Hg7.out, ← Hw4.out]
        clear Hg7 Hw4
        have f7 := B7h.out.free 0
        have r7 := B7h.out.cell 0 _ rfl
        go_upto_region 6 with fail
        obtain ⟨w5, hw5⟩ : ∃ w5, w5 = w4.setCell ⟨g7, 0, none⟩ (.int .i64 yl) := ⟨_, rfl⟩
        rw [← hw5]
        have B7i : Blk w5 g7 [.int .i64 yl, .int .i64 0] 92 := by rw [hw5]; exact B7h.out.set 0 _
        have B4i : Blk w5 g4 [.int .i64 0, .int .i64 0] 92 := by rw [hw5]; exact B4h.out.set_ne _ hg47
        have EXi : Ex w w5 := by rw [hw5]; exact EXh.out.setNew (p := ⟨g7, 0, none⟩) _ zg7
        have cR5 := Lib.hid (fun (x : Addr) (v : Value) (hx : x.block ≠ g7) (hv : w4.cell? x = some v) => show w5.cell? x = some v by rw [hw5]; exact (World.cell?_of_block (heap_set_ne rfl hx)).trans hv)
        clear hw5 f7 r7 B7h B4h EXh
        have B4i := Lib.hid B4i
        have B7i := Lib.hid B7i
        have EXi := Lib.hid EXi
        go_upto_region 8 with fail
        obtain ⟨w6, hw6⟩ : ∃ w6, w6 = w5 := ⟨_, rfl⟩
        rw [← hw6] at B4i B7i EXi ⊢
        have B7j := B7i.out
        have B4j := B4i.out
        have EXj := EXi.out
        clear hw6 cR5 B7i B4i EXi
        have p0 := B7j.cell 0 _ rfl
        have p1 := B7j.cell 1 _ rfl
        have q0 := B4j.cell 0 _ rfl
        have q1 := B4j.cell 1 _ rfl
        have f0 := B4j.free 0
        have f1 := B4j.free 1
        have KF := Lib.hid ((EXj.setNew (p := ⟨g4, 0, none⟩) (.int .i64 yl) zg4).setNew (p := ⟨g4, 1, none⟩) (.int .i64 0) zg4)
        clear B7j B4j EXj
        go_wp2_with fail
        refine bodyPost_ret (v := .agg #[.int .i64 yl, .int .i64 0]) (by simp [results, Tryd.results71, go_sem, *]) rfl ⟨by rw [KE.out], KF.out⟩
  · rw [hq]
    have HH := Lib.hid (bes_none (idx_gone hi))
    clear hq hi
    have KE : Hid (keepN N p = (0, 0)) := Lib.hid (KN.out _ (by rw [HH.out]))
    have B4h := Lib.hid B4
    have B7h := Lib.hid B7
    have EXh := Lib.hid EX
    clear B4 B7 EX KN ND
    go_upto_region 4 with fail
    rw [← Hg7.out, ← Hw4.out]
    clear Hg7 Hw4
    obtain ⟨w5, hw5⟩ : ∃ w5, w5 = w4 := ⟨_, rfl⟩
    have cR5 := Lib.hid (fun (x : Addr) (v : Value) (_ : x.block ≠ g7) (hv : w4.cell? x = some v) => show w5.cell? x = some v by rw [hw5]; exact hv)
    rw [← hw5] at B4h B7h EXh ⊢
    have B7i := B7h.out
    have B4i := B4h.out
    have EXi := EXh.out
    clear hw5 B7h B4h EXh
    go_upto_region 6 with fail
    have B4i := Lib.hid B4i
    have B7i := Lib.hid B7i
    have EXi := Lib.hid EXi
    go_upto_region 8 with fail
    obtain ⟨w6, hw6⟩ : ∃ w6, w6 = w5 := ⟨_, rfl⟩
    rw [← hw6] at B4i B7i EXi ⊢
    have B7j := B7i.out
    have B4j := B4i.out
    have EXj := EXi.out
    clear hw6 cR5 B7i B4i EXi
    have p0 := B7j.cell 0 _ rfl
    have p1 := B7j.cell 1 _ rfl
    have q0 := B4j.cell 0 _ rfl
    have q1 := B4j.cell 1 _ rfl
    have f0 := B4j.free 0
    have f1 := B4j.free 1
    have KF := Lib.hid ((EXj.setNew (p := ⟨g4, 0, none⟩) (.int .i64 0) zg4).setNew (p := ⟨g4, 1, none⟩) (.int .i64 0) zg4)
    clear B7j B4j EXj
    go_wp2_with fail
    refine bodyPost_ret (v := .agg #[.int .i64 0, .int .i64 0]) (by simp [results, Tryd.results71, go_sem, *]) rfl ⟨by rw [KE.out], KF.out⟩
end Go.Proofs.YtbnbjiddffihoaaDoor

/- The nearest nodes of the package redundant. -/
namespace Go.Proofs.YtbnbjiddffihoaaDoor
open Go.RowKit

end Go.Proofs.YtbnbjiddffihoaaDoor

/- Refs, Contacts and nearest of the reference. -/
namespace Go.Proofs.YtbnbjiddffihoaaDoor
open Go.RowKit

theorem nums_len_p (p : Pr) : (numsP p).length = p.known.length + 2 + 4 * p.near.length := by
  unfold numsP
  rw [List.length_append, List.length_append, nums_len]
  rfl
set_option maxRecDepth 100000 in
set_option maxHeartbeats 4000000 in
theorem refs_r (a : Option Addr) (n c : Nat) (N : List Nd) (p : Pr) (a1 : Option Addr) (n1 c1 : Nat) (a2 : Option Addr) (n2 c2 : Nat) (w : World) (h : Sl 3 encN w a n N) (hn : n ≤ 1000) (h1 : Sl 1 encI w a1 n1 p.known) (h2 : Sl 4 encNr w a2 n2 p.near) (hn1 : n1 ≤ 2000000) (hn2 : n2 ≤ 2000000) (z1 : a1 = none → c1 = 0) :
    Calls Tryd.prog 26 #[.slice a n c, .agg #[.int .i64 p.id, .slice a1 n1 c1, .int .i64 p.left, .int .i64 p.right, .slice a2 n2 c2]] w (OiPost (refsN N p) w) := by
  have EX := Ex.refl w
  have Z1 := Lib.hid z1
  have hl1 : p.known.length = n1 := h1.len
  have hl2 : p.near.length = n2 := h2.len
  have HNL := Lib.hid (nums_len_p p)
  clear z1
  have B3 := Blk.new w [.int .i64 p.id, .slice a1 n1 c1, .int .i64 p.left, .int .i64 p.right, .slice a2 n2 c2] 41
  have kk := Ex.new w (.cells #[.int .i64 p.id, .slice a1 n1 c1, .int .i64 p.left, .int .i64 p.right, .slice a2 n2 c2] 41)
  obtain ⟨w1, hw1⟩ : ∃ w1, w1 = w.alloc (.cells #[.int .i64 p.id, .slice a1 n1 c1, .int .i64 p.left, .int .i64 p.right, .slice a2 n2 c2] 41) := ⟨_, rfl⟩
  obtain ⟨g3, hg3⟩ : ∃ g3, g3 = w.heap.size := ⟨_, rfl⟩
  replace B3 : Blk w1 g3 [.int .i64 p.id, .slice a1 n1 c1, .int .i64 p.left, .int .i64 p.right, .slice a2 n2 c2] 41 := by rw [hw1, hg3]; exact B3
  rw [← hw1] at kk
  have Hw1 := Lib.hid hw1
  have Hg3 := Lib.hid hg3
  replace h := h.nx kk
  replace h1 := h1.nx kk
  replace h2 := h2.nx kk
  replace EX := EX.nx kk
  clear kk hw1 hg3
  go_enter Tryd.func26, Tryd.ntmps26
  go_upto_region 1 with fail
  rw [← Hg3.out, ← Hw1.out]
  clear Hg3 Hw1
  go_wp2_with fail
  (with_reducible refine (is_r _ _ _ _ _ h (by omega)).mono ?_)
  rintro e w2 ⟨rfl, kk⟩
  replace h := h.nx kk
  replace h1 := h1.nx kk
  replace h2 := h2.nx kk
  replace EX := EX.nx kk
  replace B3 := B3.nx kk
  clear kk
  by_cases hck : checkN N = 0
  case neg =>
    have d1 : (checkN N == 0) = false := by simpa using hck
    have E0 : Hid (refsN N p = []) := Lib.hid (by unfold refsN; rw [if_neg hck])
    rw [d1]
    clear h h1 h2 hck B3
    go_wp2_with fail
    go_ret
    exact ⟨_, rfl, by rw [E0.out]; exact OwnL.nil _ _ _ _ _, EX⟩
  have d1 : (checkN N == 0) = true := by simpa using hck
  have E0 : Hid (refsN N p = ordN N (numsP p) p.id) := Lib.hid (by unfold refsN; rw [if_pos hck])
  rw [d1]
  clear hck d1
  have HB := Lib.hid B3
  have HN := Lib.hid h
  have H1 := Lib.hid h1
  have H2 := Lib.hid h2
  have EXH := Lib.hid EX
  clear B3 h h1 h2 EX
  go_upto_region 3 with fail
  refine wp_region_held_drew (S := Ex w2) (by kernel_rfl) ((Ex.refl w2).drew) (fun hHeld => ?_)
  refine wpAnyH_take (i := 0) (oi := ⟨some 8, .move (.tmp 0), 23, "ref.go:129", #[], none⟩) (v := ?_) rfl (by kernel_rfl) (by kernel_rfl) (by kernel_rfl) (fun _ _ _ h => h) (Or.inl ⟨by rfl, ?hyr1x0q1⟩) (by assumption) ?restr1x0q1
  case hyr1x0q1 => intro wq hSw; (go_simp); (try with_reducible rfl)
  try simp only [Act.put, List.setIfInBounds_toArray, List.set_cons_zero, List.set_cons_succ]
  refine wpAnyH_take (i := 1) (oi := ⟨some 9, .load 41 (.tmp 3), 41, "ref.go:129", #[], none⟩) (v := ?_) rfl (by kernel_rfl) (by kernel_rfl) (by kernel_rfl) (fun _ _ _ h => h) (Or.inl ⟨by rfl, ?hyr1x1q4⟩) (by assumption) ?restr1x1q4
  case hyr1x1q4 => intro wq hSw; (have B := HB.out.nx hSw; have c0 := B.cell 0 _ rfl; have c1 := B.cell 1 _ rfl; have c2 := B.cell 2 _ rfl; have c3 := B.cell 3 _ rfl; have c4 := B.cell 4 _ rfl; go_simp); (try with_reducible rfl)
  try simp only [Act.put, List.setIfInBounds_toArray, List.set_cons_zero, List.set_cons_succ]
  refine wpAnyH_take (i := 3) (oi := ⟨some 11, .fieldAddr 41 (.tmp 3) 0, 0, "ref.go:129", #[], none⟩) (v := ?_) rfl (by kernel_rfl) (by kernel_rfl) (by kernel_rfl) (fun _ _ _ h => h) (Or.inl ⟨by rfl, ?hyr1x3q7⟩) (by assumption) ?restr1x3q7
  case hyr1x3q7 => intro wq hSw; (go_simp); (try with_reducible rfl)
  try simp only [Act.put, List.setIfInBounds_toArray, List.set_cons_zero, List.set_cons_succ]
  refine wpAnyH_take (i := 4) (oi := ⟨some 12, .load 3 (.tmp 11), 3, "ref.go:129", #[⟨3, .data⟩], none⟩) (v := ?_) rfl (by kernel_rfl) (by kernel_rfl) (by kernel_rfl) (fun _ _ _ h => h) (Or.inl ⟨by rfl, ?hyr1x4q10⟩) (by assumption) ?restr1x4q10
  case hyr1x4q10 => intro wq hSw; (have c0 := (HB.out.nx hSw).cell 0 _ rfl; go_simp); (try with_reducible rfl)
  try simp only [Act.put, List.setIfInBounds_toArray, List.set_cons_zero, List.set_cons_succ]
  refine wpAnyH_ready (rs := [2]) (by kernel_rfl) (by simp) ?_
  refine AllReadyH.cons (o := ⟨some 10, .call { callee := .value (.func 67), args := #[.tmp 9], argTypes := #[41] }, 22, "ref.go:129", #[⟨1, .data⟩], none⟩) rfl (fun K hK => ?_) AllReadyH.nil
  go_simp
  (with_reducible refine (numbers_r p _ _ _ _ _ _ _ (H1.out.nx hHeld) (H2.out.nx hHeld) hn1 hn2 Z1.out).mono ?_)
  rintro e w5 ⟨v5, rfl, own5, kk⟩
  obtain ⟨A5, C5, rfl, sl5, _, _, _⟩ := own5.slf (fun _ => rfl)
  have sl5 := Lib.hid sl5.sl
  replace hHeld := hHeld.nx kk
  clear kk own5
  refine hK.out _ _ (hHeld) (fun hHeld => ?_)
  clear hK K
  try simp only [Act.put, List.setIfInBounds_toArray, List.set_cons_zero, List.set_cons_succ]
  refine wpAnyH_ready (rs := [5]) (by kernel_rfl) (by simp) ?_
  refine AllReadyH.cons (o := ⟨some 13, .call { callee := .value (.func 66), args := #[.tmp 8, .tmp 10, .tmp 12], argTypes := #[23, 22, 3] }, 22, "ref.go:129", #[⟨0, .data⟩, ⟨2, .data⟩, ⟨4, .data⟩, ⟨2, .chain⟩], none⟩) rfl (fun K hK => ?_) AllReadyH.nil
  go_simp
  (with_reducible refine (ordered_r _ _ _ N _ _ _ (numsP p) p.id _ (HN.out.nx hHeld) hn sl5.out (by rw [HNL.out]; omega)).mono ?_)
  rintro e w6 ⟨v6, rfl, own6, kk⟩
  have own6 := Lib.hid (own6.base (EXH.out.nx hHeld).size)
  replace hHeld := hHeld.nx kk
  clear kk
  refine hK.out _ _ (hHeld) (fun hHeld => ?_)
  clear hK K
  try simp only [Act.put, List.setIfInBounds_toArray, List.set_cons_zero, List.set_cons_succ]
  refine wpAnyH_take (i := 6) (oi := ⟨some 4, .assign (.tmp 13), 22, "ref.go:129", #[⟨5, .data⟩, ⟨5, .chain⟩, ⟨0, .phase⟩, ⟨1, .phase⟩, ⟨2, .phase⟩, ⟨3, .phase⟩, ⟨4, .phase⟩, ⟨5, .phase⟩], none⟩) (v := ?_) rfl (by kernel_rfl) (by kernel_rfl) (by kernel_rfl) (fun _ _ _ h => h) (Or.inl ⟨by rfl, ?hyr1x6q36⟩) (by assumption) ?restr1x6q36
  case hyr1x6q36 => intro wq hSw; (go_simp); (try with_reducible rfl)
  try simp only [Act.put, List.setIfInBounds_toArray, List.set_cons_zero, List.set_cons_succ]
  refine wpAnyH_done (by kernel_rfl) ?_ _
  have KE := Lib.hid (EXH.out.nx hHeld)
  clear hHeld
  go_wp2_with fail
  go_ret
  exact ⟨_, rfl, by rw [E0.out]; exact own6.out, KE.out⟩

/-- behind w6 a row of the call's own (base β) has grown, which does not lie among the blocks from lo to hi -/
def Acc (β lo hi : Nat) (w6 wr : World) (o : Value) : Prop := Chg (fun k => k < hi ∧ (k < β ∨ lo ≤ k)) w6 wr ∧ hi ≤ wr.heap.size ∧ ∀ g, o.ownBlock = some g → g < lo ∨ hi ≤ g
theorem Acc.start {β lo hi : Nat} {w : World} {o : Value} (hs : hi ≤ w.heap.size) (ho : ∀ g, o.ownBlock = some g → g < lo ∨ hi ≤ g) : Acc β lo hi w w o := ⟨Chg.refl _ _, hs, ho⟩
theorem Acc.step {β lo hi : Nat} {w6 wr w9 : World} {o o' : Value} (h : Acc β lo hi w6 wr o) (hb : ∀ g, o.ownBlock = some g → β ≤ g) (k : Chg (fun k => k < wr.heap.size ∧ ¬ o.ownBlock = some k) wr w9) (ho : o'.ownBlock = o.ownBlock ∨ ∀ g, o'.ownBlock = some g → wr.heap.size ≤ g) : Acc β lo hi w6 w9 o' := by
  refine ⟨h.1.trans (k.mono fun x hx => ⟨Nat.lt_of_lt_of_le hx.1 h.2.1, fun hv => ?_⟩), Nat.le_trans h.2.1 k.size, fun g hg => ?_⟩
  · have h1 := hb x hv
    have h2 := h.2.2 x hv
    have h3 := hx.2
    have h4 := hx.1
    omega
  · rcases ho with h1 | h1
    · exact h.2.2 g (by rw [← h1]; exact hg)
    · have := h1 g hg; have := h.2.1; omega
theorem Acc.nx {β lo hi : Nat} {w6 wr w9 : World} {o : Value} (h : Acc β lo hi w6 wr o) (k : Ex wr w9) : Acc β lo hi w6 w9 o :=
  ⟨h.1.trans (Chg.mono k fun x hx => Nat.lt_of_lt_of_le hx.1 h.2.1), Nat.le_trans h.2.1 k.size, h.2.2⟩
theorem Acc.sl {α : Type} {sz n : Nat} {enc : α → List Value} {a : Option Addr} {l : List α} {β : Nat} {w5 w6 wr : World} {o : Value} (h : Acc β w5.heap.size w6.heap.size w6 wr o) (s : Slf sz enc w5 w6 a n l) : Sl sz enc wr a n l :=
  (Rd.chg s h.1 (fun _ hk => ⟨hk.2, .inr hk.1⟩)).mono fun _ hk => Nat.lt_of_lt_of_le hk.2 h.2.1
theorem Acc.ex {w2 w6 wr : World} {lo : Nat} {o : Value} (h : Acc w2.heap.size lo w6.heap.size w6 wr o) (k : Ex w2 w6) : Ex w2 wr :=
  Chg.trans k (Chg.mono h.1 fun _ hk => ⟨Nat.lt_of_lt_of_le hk k.size, .inl hk⟩)
theorem OwnW.blk_lt {α : Type} {sz e base : Nat} {enc : α → List Value} {w : World} {v : Value} {l : List α} (h : OwnW sz enc e base w v l) {g : Nat} (hg : v.ownBlock = some g) : g < w.heap.size := by
  obtain ⟨_, cur, hh⟩ := h.blk hg
  exact heap_lt hh
end Go.Proofs.YtbnbjiddffihoaaDoor

/- Intros of the package linear. -/
namespace Go.Proofs.YtbnbjiddffihoaaDoor
open Go.RowKit

theorem Tryd.infoIn : (Tryd.prog.info? 98).map (fun i => (i.zero, i.size, i.bytes)) = some (some (.agg #[.int .i64 0, .int .i64 0]), 2, 16) := by kernel_rfl
/-- a list of messages in memory of its own -/
def InPost (M : List (Int × Int)) (w : World) (e : Ending) (w' : World) : Prop := ∃ v, e = .returned v ∧ OwnW 2 encS 98 w.heap.size w' v M ∧ Ex w w'
def IoRel (L : List Int) (id : Int) (w : World) (o i : Value) (wr : World) : Prop :=
  ∃ k : Nat, 1 ≤ k ∧ k ≤ L.length + 1 ∧ i = .int .i64 k ∧ OwnW 2 encS 98 w.heap.size wr o (((L.zip L.tail).take (k - 1)).flatMap (pr2 id)) ∧ Ex w wr
def prT (a b : Int) : List (Int × Int) := [(a, b), (b, a)]
def notTo (id : Int) (q : Int × Int) : Bool := !(q.1 == id)
theorem prT_all (id a b : Int) : (prT a b).filter (notTo id) = pr2 id (a, b) := by
  unfold prT pr2 notTo
  by_cases h1 : a = id <;> by_cases h2 : b = id <;> simp [List.filter_cons, h1, h2]
theorem prT_snoc {id a b : Int} {q : Nat} {y : Int × Int} (hy : (prT a b)[q]? = some y) : ((prT a b).take (q + 1)).filter (notTo id) = ((prT a b).take q).filter (notTo id) ++ (if notTo id y = true then [y] else []) := by
  rw [List.take_add_one, hy, List.filter_append]
  congr 1
  simp only [Option.toList_some, List.filter_cons, List.filter_nil]
def IiRel (O : List (Int × Int)) (id a b : Int) (base lo : Nat) (w : World) (o i : Value) (wr : World) : Prop :=
  ∃ q : Nat, q ≤ 2 ∧ i = .int .i64 q ∧ OwnW 2 encS 98 base wr o (O ++ ((prT a b).take q).filter (notTo id)) ∧ Acc base lo w.heap.size w wr o
theorem litIn {wb wq : World} (h : Ex wb wq) (a b : Int) : ∃ g wn, g = wq.heap.size ∧ wn = wq.alloc (.cells #[.int .i64 a, .int .i64 b, .int .i64 b, .int .i64 a] 98) ∧ Slf 2 encS wb wn (some ⟨g, 0, none⟩) 2 (prT a b) ∧ Ex wb wn :=
  ⟨_, _, rfl, rfl, Slf.lit (prT a b) rfl h.size rfl (fun _ => rfl) rfl, h.alloc _⟩
set_option maxRecDepth 100000 in
set_option maxHeartbeats 8000000 in
theorem intros_p (a : Option Addr) (n c : Nat) (N : List Nd) (p : Pr) (a1 : Option Addr) (n1 c1 : Nat) (a2 : Option Addr) (n2 c2 : Nat) (w : World) (h : Sl 3 encN w a n N) (hn : n ≤ 1000) (hc : n ≤ c) (hm : c ≤ maxLen) (h1 : Sl 1 encI w a1 n1 p.known) (h2 : Sl 4 encNr w a2 n2 p.near) (hn1 : n1 ≤ 4000000000000000000) (hn2 : n2 ≤ 4000000000000000000) :
    Calls Tryd.prog 70 #[.slice a n c, .agg #[.int .i64 p.id, .slice a1 n1 c1, .int .i64 p.left, .int .i64 p.right, .slice a2 n2 c2]] w (InPost (introsN N p) w) := by
  have EX := Ex.refl w
  have HL := Lib.hid h.len
  have B3 := Blk.new w [.int .i64 p.id, .slice a1 n1 c1, .int .i64 p.left, .int .i64 p.right, .slice a2 n2 c2] 41
  have kk := Ex.new w (.cells #[.int .i64 p.id, .slice a1 n1 c1, .int .i64 p.left, .int .i64 p.right, .slice a2 n2 c2] 41)
  obtain ⟨w1, hw1⟩ : ∃ w1, w1 = w.alloc (.cells #[.int .i64 p.id, .slice a1 n1 c1, .int .i64 p.left, .int .i64 p.right, .slice a2 n2 c2] 41) := ⟨_, rfl⟩
  obtain ⟨g3, hg3⟩ : ∃ g3, g3 = w.heap.size := ⟨_, rfl⟩
  replace B3 : Blk w1 g3 [.int .i64 p.id, .slice a1 n1 c1, .int .i64 p.left, .int .i64 p.right, .slice a2 n2 c2] 41 := by rw [hw1, hg3]; exact B3
  rw [← hw1] at kk
  have Hw1 := Lib.hid hw1
  have Hg3 := Lib.hid hg3
  replace h := h.nx kk
  replace h1 := h1.nx kk
  replace h2 := h2.nx kk
  replace EX := EX.nx kk
  clear kk hw1 hg3
  go_enter Tryd.func70, Tryd.ntmps70
  go_upto_region 1 with fail
  rw [← Hg3.out, ← Hw1.out]
  clear Hg3 Hw1
  have q0 := B3.cell 0 _ rfl
  have q1 := B3.cell 1 _ rfl
  have q2 := B3.cell 2 _ rfl
  have q3 := B3.cell 3 _ rfl
  have q4 := B3.cell 4 _ rfl
  go_wp2_with fail
  (with_reducible refine (row_p _ _ _ N p _ _ _ _ _ _ _ h hn hc hm h1 h2 hn1 hn2).mono ?_)
  rintro e w2 ⟨v, rfl, own, kk⟩
  replace EX := EX.nx kk
  replace B3 := B3.nx kk
  clear kk
  clear q0 q1 q2 q3 q4 h h1 h2
  have hrl : (arN N p).length ≤ 1000 := by
    have h1 := HL.out
    have h2 := ar_len (N := N) p
    omega
  obtain ⟨aR, cR, rfl, R1, _, _, _⟩ := own.slf (fun _ => rfl)
  have S := Lib.hid R1.sl
  have IN : Hid (∀ M, prsN p.id (arN N p) = M → introsN N p = M) := Lib.hid (fun r hr => hr)
  generalize arN N p = R at own R1 S IN hrl ⊢
  have B3 := Lib.hid B3
  have EX2 := Lib.hid EX
  have z2 := EX.size
  clear own R1 EX
  go_wp2_with fail
  go_loopw [5, 7] (fun o i wr => IoRel R p.id w2 o i wr) (fun _ i _ => R.length + 1 - (intOf i).toNat)
  case atStart => exact ⟨1, by omega, by omega, rfl, OwnW.nil _ _ _ _ _, Ex.refl _⟩
  case round =>
    obtain ⟨k, hk1, hk, rfl, own, ki⟩ := hrel
    obtain ⟨wi, rfl⟩ : ∃ wi : World, wi = wr := ⟨_, rfl⟩
    have hol : (((R.zip R.tail).take (k - 1)).flatMap (pr2 p.id)).length ≤ 2000 := by
      have h1 := prs_take_len p.id ((R.zip R.tail).take (k - 1))
      rw [List.length_take, List.length_zip, List.length_tail] at h1
      omega
    by_cases hkm : k < R.length
    · obtain ⟨xl, xo, yl, rfl, hxl, hyl, hcl⟩ := (S.out.nx ki).at (show k - 1 < R.length by omega)
      obtain ⟨xl', xo', yr, hee, hxr, hyr, hcr⟩ := (S.out.nx ki).at hkm
      cases hee
      have CL : Hid (∀ wq, Ex wi wq → wq.cell? ⟨xl, xo + (k - 1), none⟩ = some (.int .i64 yl)) := Lib.hid (fun wq kq => Chg.cellv kq (by simpa using hcl 0 _ rfl) hxl)
      have CR : Hid (∀ wq, Ex wi wq → wq.cell? ⟨xl, xo + k, none⟩ = some (.int .i64 yr)) := Lib.hid (fun wq kq => Chg.cellv kq (by simpa using hcr 0 _ rfl) hxl)
      have SN := Lib.hid (prs_snoc (id := p.id) hyl (by rw [show k - 1 + 1 = k by omega]; exact hyr))
      generalize ((R.zip R.tail).take (k - 1)).flatMap (pr2 p.id) = O at own SN hol
      have OWN := Lib.hid own
      have KI := Lib.hid ki
      have hkp : (0 : Int) < (k : Int) := by omega
      have hwk : IntKind.i64.wrap ((k : Int) - 1) = (k : Int) - 1 := IntWalk.i64_in _ (by omega)
      have h01 : (1 : Int) ≤ (k : Int) := by omega
      have h02 : (k : Int) - 1 < (R.length : Int) := by omega
      have h03 : (k : Int) < (R.length : Int) := by omega
      have zi := ki.size
      clear hyl hyr hcl hcr own ki
      go_upto_region 6 with fail
      refine wp_region_held_drew (S := Ex wi) (by kernel_rfl) ((Ex.refl wi).drew) (fun hHeld => ?_)
      obtain ⟨wd, hwdx⟩ : ∃ wd : World, wd = World.drew wi := ⟨_, rfl⟩
      rw [← hwdx] at hHeld ⊢
      have hDrew : Ex wi wd := by rw [hwdx]; exact (Ex.refl wi).drew
      clear hwdx
      refine wpAnyH_take (i := 0) (oi := ⟨some 19, .move (.tmp 6), 22, "linear.go:52", #[], none⟩) (v := ?_) rfl (by kernel_rfl) (by kernel_rfl) (by kernel_rfl) (fun _ _ _ h => h) (Or.inl ⟨by rfl, ?hyr1x0q5⟩) (by assumption) ?restr1x0q5
      case hyr1x0q5 => intro wq hSw; (go_simp); (try with_reducible rfl)
      try simp only [Act.put, List.setIfInBounds_toArray, List.set_cons_zero, List.set_cons_succ]
      refine wpAnyH_take (i := 1) (oi := ⟨some 20, .move (.tmp 7), 3, "linear.go:52", #[], none⟩) (v := ?_) rfl (by kernel_rfl) (by kernel_rfl) (by kernel_rfl) (fun _ _ _ h => h) (Or.inl ⟨by rfl, ?hyr1x1q8⟩) (by assumption) ?restr1x1q8
      case hyr1x1q8 => intro wq hSw; (go_simp); (try with_reducible rfl)
      try simp only [Act.put, List.setIfInBounds_toArray, List.set_cons_zero, List.set_cons_succ]
      refine wpAnyH_take (i := 2) (oi := ⟨some 21, .binOp .sub 3 (.tmp 20) (.const (.int .i64 1)) 3, 3, "linear.go:52", #[⟨1, .data⟩], none⟩) (v := ?_) rfl (by kernel_rfl) (by kernel_rfl) (by kernel_rfl) (fun _ _ _ h => h) (Or.inl ⟨by rfl, ?hyr1x2q11⟩) (by assumption) ?restr1x2q11
      case hyr1x2q11 => intro wq hSw; (go_simp); (try with_reducible rfl)
      try simp only [Act.put, List.setIfInBounds_toArray, List.set_cons_zero, List.set_cons_succ]
      refine wpAnyH_take (i := 3) (oi := ⟨some 22, .indexAddr 22 (.tmp 19) (.tmp 21), 0, "linear.go:52", #[⟨0, .data⟩, ⟨2, .data⟩], none⟩) (v := ?_) rfl (by kernel_rfl) (by kernel_rfl) (by kernel_rfl) (fun _ _ _ h => h) (Or.inl ⟨by rfl, ?hyr1x3q14⟩) (by assumption) ?restr1x3q14
      case hyr1x3q14 => intro wq hSw; (go_simp); (try with_reducible rfl)
      try simp only [Act.put, List.setIfInBounds_toArray, List.set_cons_zero, List.set_cons_succ]
      refine wpAnyH_take (i := 4) (oi := ⟨some 23, .load 3 (.tmp 22), 3, "linear.go:52", #[⟨3, .data⟩], none⟩) (v := ?_) rfl (by kernel_rfl) (by kernel_rfl) (by kernel_rfl) (fun _ _ _ h => h) (Or.inl ⟨by rfl, ?hyr1x4q17⟩) (by assumption) ?restr1x4q17
      case hyr1x4q17 => intro wq hSw; (have cq := CL.out wq hSw; go_simp); (try with_reducible rfl)
      try simp only [Act.put, List.setIfInBounds_toArray, List.set_cons_zero, List.set_cons_succ]
      refine wpAnyH_take (i := 5) (oi := ⟨some 24, .move (.tmp 6), 22, "linear.go:52", #[], none⟩) (v := ?_) rfl (by kernel_rfl) (by kernel_rfl) (by kernel_rfl) (fun _ _ _ h => h) (Or.inl ⟨by rfl, ?hyr1x5q20⟩) (by assumption) ?restr1x5q20
      case hyr1x5q20 => intro wq hSw; (go_simp); (try with_reducible rfl)
      try simp only [Act.put, List.setIfInBounds_toArray, List.set_cons_zero, List.set_cons_succ]
      refine wpAnyH_take (i := 6) (oi := ⟨some 25, .move (.tmp 7), 3, "linear.go:52", #[], none⟩) (v := ?_) rfl (by kernel_rfl) (by kernel_rfl) (by kernel_rfl) (fun _ _ _ h => h) (Or.inl ⟨by rfl, ?hyr1x6q23⟩) (by assumption) ?restr1x6q23
      case hyr1x6q23 => intro wq hSw; (go_simp); (try with_reducible rfl)
      try simp only [Act.put, List.setIfInBounds_toArray, List.set_cons_zero, List.set_cons_succ]
      refine wpAnyH_take (i := 7) (oi := ⟨some 26, .indexAddr 22 (.tmp 24) (.tmp 25), 0, "linear.go:52", #[⟨5, .data⟩, ⟨6, .data⟩], none⟩) (v := ?_) rfl (by kernel_rfl) (by kernel_rfl) (by kernel_rfl) (fun _ _ _ h => h) (Or.inl ⟨by rfl, ?hyr1x7q26⟩) (by assumption) ?restr1x7q26
      case hyr1x7q26 => intro wq hSw; (go_simp); (try with_reducible rfl)
      try simp only [Act.put, List.setIfInBounds_toArray, List.set_cons_zero, List.set_cons_succ]
      refine wpAnyH_take (i := 8) (oi := ⟨some 27, .load 3 (.tmp 26), 3, "linear.go:52", #[⟨7, .data⟩], none⟩) (v := ?_) rfl (by kernel_rfl) (by kernel_rfl) (by kernel_rfl) (fun _ _ _ h => h) (Or.inl ⟨by rfl, ?hyr1x8q29⟩) (by assumption) ?restr1x8q29
      case hyr1x8q29 => intro wq hSw; (have cq := CR.out wq hSw; go_simp); (try with_reducible rfl)
      try simp only [Act.put, List.setIfInBounds_toArray, List.set_cons_zero, List.set_cons_succ]
      refine wpAnyH_take (i := 9) (oi := ⟨some 28, .build 98 #[(0, .tmp 23), (1, .tmp 27)], 98, "linear.go:52", #[⟨4, .data⟩, ⟨8, .data⟩], none⟩) (v := ?_) rfl (by kernel_rfl) (by kernel_rfl) (by kernel_rfl) (fun _ _ _ h => h) (Or.inl ⟨by rfl, ?hyr1x9q32⟩) (by assumption) ?restr1x9q32
      case hyr1x9q32 => intro wq hSw; (go_simp); (try with_reducible rfl)
      try simp only [Act.put, List.setIfInBounds_toArray, List.set_cons_zero, List.set_cons_succ]
      refine wpAnyH_take (i := 10) (oi := ⟨some 29, .move (.tmp 6), 22, "linear.go:52", #[], none⟩) (v := ?_) rfl (by kernel_rfl) (by kernel_rfl) (by kernel_rfl) (fun _ _ _ h => h) (Or.inl ⟨by rfl, ?hyr1x10q35⟩) (by assumption) ?restr1x10q35
      case hyr1x10q35 => intro wq hSw; (go_simp); (try with_reducible rfl)
      try simp only [Act.put, List.setIfInBounds_toArray, List.set_cons_zero, List.set_cons_succ]
      refine wpAnyH_take (i := 11) (oi := ⟨some 30, .move (.tmp 7), 3, "linear.go:52", #[], none⟩) (v := ?_) rfl (by kernel_rfl) (by kernel_rfl) (by kernel_rfl) (fun _ _ _ h => h) (Or.inl ⟨by rfl, ?hyr1x11q38⟩) (by assumption) ?restr1x11q38
      case hyr1x11q38 => intro wq hSw; (go_simp); (try with_reducible rfl)
      try simp only [Act.put, List.setIfInBounds_toArray, List.set_cons_zero, List.set_cons_succ]
      refine wpAnyH_take (i := 12) (oi := ⟨some 31, .indexAddr 22 (.tmp 29) (.tmp 30), 0, "linear.go:52", #[⟨10, .data⟩, ⟨11, .data⟩], none⟩) (v := ?_) rfl (by kernel_rfl) (by kernel_rfl) (by kernel_rfl) (fun _ _ _ h => h) (Or.inl ⟨by rfl, ?hyr1x12q41⟩) (by assumption) ?restr1x12q41
      case hyr1x12q41 => intro wq hSw; (go_simp); (try with_reducible rfl)
      try simp only [Act.put, List.setIfInBounds_toArray, List.set_cons_zero, List.set_cons_succ]
      refine wpAnyH_take (i := 13) (oi := ⟨some 32, .load 3 (.tmp 31), 3, "linear.go:52", #[⟨12, .data⟩], none⟩) (v := ?_) rfl (by kernel_rfl) (by kernel_rfl) (by kernel_rfl) (fun _ _ _ h => h) (Or.inl ⟨by rfl, ?hyr1x13q44⟩) (by assumption) ?restr1x13q44
      case hyr1x13q44 => intro wq hSw; (have cq := CR.out wq hSw; go_simp); (try with_reducible rfl)
      try simp only [Act.put, List.setIfInBounds_toArray, List.set_cons_zero, List.set_cons_succ]
      refine wpAnyH_take (i := 14) (oi := ⟨some 33, .move (.tmp 6), 22, "linear.go:52", #[], none⟩) (v := ?_) rfl (by kernel_rfl) (by kernel_rfl) (by kernel_rfl) (fun _ _ _ h => h) (Or.inl ⟨by rfl, ?hyr1x14q47⟩) (by assumption) ?restr1x14q47
      case hyr1x14q47 => intro wq hSw; (go_simp); (try with_reducible rfl)
      try simp only [Act.put, List.setIfInBounds_toArray, List.set_cons_zero, List.set_cons_succ]
      refine wpAnyH_take (i := 15) (oi := ⟨some 34, .move (.tmp 7), 3, "linear.go:52", #[], none⟩) (v := ?_) rfl (by kernel_rfl) (by kernel_rfl) (by kernel_rfl) (fun _ _ _ h => h) (Or.inl ⟨by rfl, ?hyr1x15q50⟩) (by assumption) ?restr1x15q50
      case hyr1x15q50 => intro wq hSw; (go_simp); (try with_reducible rfl)
      try simp only [Act.put, List.setIfInBounds_toArray, List.set_cons_zero, List.set_cons_succ]
      refine wpAnyH_take (i := 16) (oi := ⟨some 35, .binOp .sub 3 (.tmp 34) (.const (.int .i64 1)) 3, 3, "linear.go:52", #[⟨15, .data⟩], none⟩) (v := ?_) rfl (by kernel_rfl) (by kernel_rfl) (by kernel_rfl) (fun _ _ _ h => h) (Or.inl ⟨by rfl, ?hyr1x16q53⟩) (by assumption) ?restr1x16q53
      case hyr1x16q53 => intro wq hSw; (go_simp); (try with_reducible rfl)
      try simp only [Act.put, List.setIfInBounds_toArray, List.set_cons_zero, List.set_cons_succ]
      refine wpAnyH_take (i := 17) (oi := ⟨some 36, .indexAddr 22 (.tmp 33) (.tmp 35), 0, "linear.go:52", #[⟨14, .data⟩, ⟨16, .data⟩], none⟩) (v := ?_) rfl (by kernel_rfl) (by kernel_rfl) (by kernel_rfl) (fun _ _ _ h => h) (Or.inl ⟨by rfl, ?hyr1x17q56⟩) (by assumption) ?restr1x17q56
      case hyr1x17q56 => intro wq hSw; (go_simp); (try with_reducible rfl)
      try simp only [Act.put, List.setIfInBounds_toArray, List.set_cons_zero, List.set_cons_succ]
      refine wpAnyH_take (i := 18) (oi := ⟨some 37, .load 3 (.tmp 36), 3, "linear.go:52", #[⟨17, .data⟩], none⟩) (v := ?_) rfl (by kernel_rfl) (by kernel_rfl) (by kernel_rfl) (fun _ _ _ h => h) (Or.inl ⟨by rfl, ?hyr1x18q59⟩) (by assumption) ?restr1x18q59
      case hyr1x18q59 => intro wq hSw; (have cq := CL.out wq hSw; go_simp); (try with_reducible rfl)
      try simp only [Act.put, List.setIfInBounds_toArray, List.set_cons_zero, List.set_cons_succ]
      refine wpAnyH_take (i := 19) (oi := ⟨some 38, .build 98 #[(0, .tmp 32), (1, .tmp 37)], 98, "linear.go:52", #[⟨13, .data⟩, ⟨18, .data⟩], none⟩) (v := ?_) rfl (by kernel_rfl) (by kernel_rfl) (by kernel_rfl) (fun _ _ _ h => h) (Or.inl ⟨by rfl, ?hyr1x19q62⟩) (by assumption) ?restr1x19q62
      case hyr1x19q62 => intro wq hSw; (go_simp); (try with_reducible rfl)
      try simp only [Act.put, List.setIfInBounds_toArray, List.set_cons_zero, List.set_cons_succ]
      refine wpAnyH_take (i := 22) (oi := ⟨some 41, .move (.const (.int .i64 0)), 3, "linear.go:52", #[], none⟩) (v := ?_) rfl (by kernel_rfl) (by kernel_rfl) (by kernel_rfl) (fun _ _ _ h => h) (Or.inl ⟨by rfl, ?hyr1x22q65⟩) (by assumption) ?restr1x22q65
      case hyr1x22q65 => intro wq hSw; (go_simp); (try with_reducible rfl)
      try simp only [Act.put, List.setIfInBounds_toArray, List.set_cons_zero, List.set_cons_succ]
      refine wpAnyH_ready (rs := [20]) (by kernel_rfl) (by simp) ?_
      refine AllReadyH.cons (o := ⟨some 39, .buildSlice 95 2 #[(0, .tmp 28), (1, .tmp 38)], 95, "linear.go:52", #[⟨9, .data⟩, ⟨19, .data⟩], none⟩) rfl (fun K hK => ?_) AllReadyH.nil
      go_simp
      obtain ⟨g9, w3, hg9, hw3, SL, kk⟩ := litIn hHeld yl yr
      rw [← hg9, ← hw3]
      replace hHeld := kk
      clear hg9 hw3 kk
      refine hK.out _ _ (hHeld) (fun hHeld => ?_)
      clear hK K
      try simp only [Act.put, List.setIfInBounds_toArray, List.set_cons_zero, List.set_cons_succ]
      refine wpAnyH_take (i := 21) (oi := ⟨some 40, .call { callee := .builtin .len, args := #[.tmp 39], argTypes := #[95] }, 3, "linear.go:52", #[⟨20, .data⟩], none⟩) (v := ?_) rfl (by kernel_rfl) (by kernel_rfl) (by kernel_rfl) (fun _ _ _ h => h) (Or.inl ⟨by rfl, ?hyr1x21q78⟩) (by assumption) ?restr1x21q78
      case hyr1x21q78 => intro wq hSw; (go_simp); (try with_reducible rfl)
      try simp only [Act.put, List.setIfInBounds_toArray, List.set_cons_zero, List.set_cons_succ]
      refine wpAnyH_done (by kernel_rfl) ?_ _
      have SLh := Lib.hid SL
      have K3 := Lib.hid hHeld
      have OW3 := Lib.hid (OWN.out.nx hHeld)
      have z3 := hHeld.size
      have A0 := Lib.hid (Acc.start (β := w2.heap.size) (lo := wi.heap.size) (Nat.le_refl w3.heap.size) (fun g hg => .inl (OWN.out.blk_lt (g := g) hg)))
      clear SL hHeld OWN
      go_wp2_with fail
      go_loopw [5, 41] (fun o i wr => IiRel O p.id yl yr w2.heap.size wi.heap.size w3 o i wr) (fun _ i _ => 2 - (intOf i).toNat)
      case atStart => exact ⟨0, by omega, rfl, by simpa using OW3.out, A0.out⟩
      case round =>
        clear OW3 A0
        obtain ⟨q, hq, rfl, own, ac⟩ := hrel
        obtain ⟨wj, rfl⟩ : ∃ wj : World, wj = wr := ⟨_, rfl⟩
        have hql : (O ++ ((prT yl yr).take q).filter (notTo p.id)).length ≤ 100000 := by
          rw [List.length_append]
          have h1 := List.length_filter_le (notTo p.id) ((prT yl yr).take q)
          rw [List.length_take] at h1
          omega
        by_cases hq2 : q < 2
        · obtain ⟨x9, o9, y, hee, hx9, hy, hc9⟩ := (ac.sl SLh.out).at hq2
          cases hee
          have e0 : wj.cell? ⟨g9, q * 2, none⟩ = some (.int .i64 y.1) := by simpa using hc9 0 _ rfl
          have e1 : wj.cell? ⟨g9, q * 2 + 1, none⟩ = some (.int .i64 y.2) := by simpa using hc9 1 _ rfl
          have SQ := Lib.hid (prT_snoc (id := p.id) hy)
          generalize ((prT yl yr).take q).filter (notTo p.id) = F at own SQ hql
          have AC := Lib.hid ac
          have zb0 := (ac.ex (KI.out.nx K3.out)).size
          clear hy hc9 ac
          have B9 := Blk.new wj [.int .i64 y.1, .int .i64 y.2] 98
          have kk := Ex.new wj (.cells #[.int .i64 y.1, .int .i64 y.2] 98)
          obtain ⟨w4, hw4⟩ : ∃ w4, w4 = wj.alloc (.cells #[.int .i64 y.1, .int .i64 y.2] 98) := ⟨_, rfl⟩
          obtain ⟨g10, hg10⟩ : ∃ g10, g10 = wj.heap.size := ⟨_, rfl⟩
          replace B9 : Blk w4 g10 [.int .i64 y.1, .int .i64 y.2] 98 := by rw [hw4, hg10]; exact B9
          rw [← hw4] at kk
          have Hw4 := Lib.hid hw4
          have Hg10 := Lib.hid hg10
          replace own := own.nx kk
          have AC4 := Lib.hid (AC.out.nx kk)
          have zb : w2.heap.size ≤ w4.heap.size := Nat.le_trans zb0 kk.size
          clear kk hw4 hg10
          go_upto_region 9 with fail
          rw [← Hg10.out, ← Hw4.out]
          clear Hg10 Hw4
          have q0 := B9.cell 0 _ rfl
          have q1 := B9.cell 1 _ rfl
          have qp := (B3.out.nx (AC4.out.ex (KI.out.nx K3.out))).cell 0 _ rfl
          clear e0 e1 B9
          cases hT : notTo p.id y with
          | true =>
            have d1 : (y.1 != p.id) = true := hT
            have SF := Lib.hid (show ((prT yl yr).take (q + 1)).filter (notTo p.id) = F ++ [y] by rw [SQ.out, if_pos hT])
            have kl := Ex.new w4 (.cells #[.int .i64 y.1, .int .i64 y.2] 98)
            have own7 := own.nx kl
            have zc := Nat.le_trans zb kl.size
            clear hT
            go_wp2_with (at_builtin; (refine wpList_append_W (enc := encS) _ rfl _ _ 95 rfl w2.heap.size 98 (.agg #[.int .i64 0, .int .i64 0]) 2 16 Tryd.underlying95 Tryd.infoIn rfl (by omega) (by omega) _ _ own7 rfl _ 1 1 [y] (Sl.lit _ rfl rfl (fun _ => rfl) rfl) (fun _ => rfl) (by simp [encS, Value.oneCell']) rfl (by omega) (by omega) zc ?_); intro v6 w6 own6 ch0 ch1 hv)
            exact ⟨⟨q + 1, by omega, by go_num, by rw [SF.out, ← List.append_assoc]; exact own6, (AC4.out.nx kl).step (fun g hg => (own7.blk hg).1) ch0 hv⟩, by simp [intOf]; omega⟩
          | false =>
            have d1 : (y.1 != p.id) = false := hT
            have SF := Lib.hid (show ((prT yl yr).take (q + 1)).filter (notTo p.id) = F by rw [SQ.out, hT]; simp)
            have OF := Lib.hid own
            clear hT own
            go_wp2_with fail
            exact ⟨⟨q + 1, by omega, by go_num, by rw [SF.out]; exact OF.out, AC4.out⟩, by simp [intOf]; omega⟩
        · obtain rfl : q = 2 := by omega
          have OF := Lib.hid own
          have KF := Lib.hid (ac.ex (KI.out.nx K3.out))
          clear own ac hq hq2
          go_wp2_with fail
          refine ⟨⟨k + 1, by omega, by omega, by go_num, ?_, KF.out⟩, by simp [intOf]; omega⟩
          rw [show k + 1 - 1 = k - 1 + 1 by omega, SN.out, ← prT_all]
          exact OF.out
    · have HI : Hid (introsN N p = ((R.zip R.tail).take (k - 1)).flatMap (pr2 p.id)) := Lib.hid (IN.out _ (prs_all (by omega)).symm)
      generalize ((R.zip R.tail).take (k - 1)).flatMap (pr2 p.id) = O at own HI
      have FO := Lib.hid (own.lower z2)
      have FE := Lib.hid (EX2.out.nx ki)
      clear own ki
      go_wp2_with fail
      go_ret
      exact ⟨_, rfl, by rw [HI.out]; exact FO.out, FE.out⟩
end Go.Proofs.YtbnbjiddffihoaaDoor

/- nearest of the reference (printed by gen_nst.py). -/
namespace Go.Proofs.YtbnbjiddffihoaaDoor
open Go.RowKit

end Go.Proofs.YtbnbjiddffihoaaDoor

/- Peers of the package redundant and of its reference (printed by gen_prs.py). -/
namespace Go.Proofs.YtbnbjiddffihoaaDoor
open Go.RowKit

theorem OwnL.ne_blk {α : Type} {sz e base g' : Nat} {enc : α → List Value} {w : World} {v : Value} {l : List α} {cs : List Value} {ty : TypeId} (h : OwnL sz enc e base w v l) (B : Blk w g' cs ty) (hne : e ≠ ty) {g : Nat} (hg : v.ownBlock = some g) : g ≠ g' := by
  rintro rfl
  obtain ⟨_, cur, hh⟩ := h.blk hg
  exact blk_kind hne hh B
/-- a store into a block of another type -/
theorem OwnL.put {α : Type} {sz e base g' : Nat} {enc : α → List Value} {w w' : World} {v : Value} {l : List α} {cs : List Value} {ty : TypeId} (h : OwnL sz enc e base w v l) (B : Blk w g' cs ty) (hne : e ≠ ty) (k : Exb g' w w') : OwnL sz enc e base w' v l :=
  h.chg k fun _ hx hv => ⟨hx, h.ne_blk B hne hv⟩
end Go.Proofs.YtbnbjiddffihoaaDoor

/- Connected of the package redundant. -/
namespace Go.Proofs.YtbnbjiddffihoaaDoor
open Go.RowKit Go.Maps

/-! ### the rows of a map grow while a list of later memory is read -/
def AccM (β lo hi bm : Nat) (w6 wr : World) (f : Int → Value) : Prop :=
  Chg (fun k => k < hi ∧ k ≠ bm ∧ (k < β ∨ lo ≤ k)) w6 wr ∧ hi ≤ wr.heap.size ∧ ∀ v g, (f v).ownBlock = some g → g < lo ∨ hi ≤ g
section
variable {β lo hi bm : Nat} {w6 wr w9 : World} {f : Int → Value}
theorem AccM.sl {α : Type} {sz n : Nat} {enc : α → List Value} {a : Option Addr} {l : List α} {w5 w6 wr : World} (h : AccM β w5.heap.size w6.heap.size bm w6 wr f) (hb : bm < w5.heap.size) (s : Slf sz enc w5 w6 a n l) : Sl sz enc wr a n l :=
  (Rd.chg s h.1 (fun _ hk => ⟨hk.2, by omega, .inr hk.1⟩)).mono fun _ hk => Nat.lt_of_lt_of_le hk.2 h.2.1
theorem AccM.blk {g : Nat} {cs : List Value} {ty : TypeId} (h : AccM β lo w6.heap.size bm w6 wr f) (B : Blk w6 g cs ty) (hg : lo ≤ g) (hb : bm ≠ g) : Blk wr g cs ty :=
  (Chg.block h.1 g ⟨B.lt, fun h => hb h.symm, .inr hg⟩).trans B
theorem AccM.exb {w2 : World} (h : AccM β lo w6.heap.size bm w6 wr f) (k : Exb bm w2 w6) (hβ : w2.heap.size ≤ β) : Exb bm w2 wr :=
  Chg.trans k (Chg.mono h.1 fun x hx => ⟨Nat.lt_of_lt_of_le hx.1 k.size, hx.2, .inl (Nat.lt_of_lt_of_le hx.1 hβ)⟩)
end
theorem own_hist {va v : Value} {c s : Nat} (h : va.ownBlock = v.ownBlock ∨ va.ownBlock = some c) (hs : s ≤ c) : ∀ g, va.ownBlock = some g → v.ownBlock = some g ∨ s ≤ g := fun g hg => by
  rcases h with h | h
  · exact .inl (by rw [← h]; exact hg)
  · rw [h] at hg; cases hg; exact .inr hs
theorem hold_ex {bm g7 : Nat} {wp cur w' : World} (h : Chg (fun k => k = bm ∨ k = g7) wp cur) (hb : bm < wp.heap.size) (hg : g7 < wp.heap.size) (k : Ex cur w') : Chg (fun k => k = bm ∨ k = g7) wp w' :=
  Chg.trans h (Chg.mono k fun x hx => by have := h.size; show x < cur.heap.size; omega)
theorem hold_row {bm g7 : Nat} {wp cur w' : World} {v : Value} (h : Chg (fun k => k = bm ∨ k = g7) wp cur) (hb : bm < wp.heap.size) (hg : g7 < wp.heap.size) (n : ¬ v.ownBlock = some bm ∧ ¬ v.ownBlock = some g7) (k : Chg (fun k => k < cur.heap.size ∧ ¬ v.ownBlock = some k) cur w') : Chg (fun k => k = bm ∨ k = g7) wp w' :=
  Chg.trans h (Chg.mono k fun x hx => by
    have := h.size
    rcases hx with rfl | rfl
    · exact ⟨by omega, n.1⟩
    · exact ⟨by omega, n.2⟩)
theorem AccM.two {β lo hi bm : Nat} {w6 wp w1 w2 w3 : World} {f : Int → Value} {x y : Int} {va vc : Value} (h : AccM β lo hi bm w6 wp f) (hb : ∀ v g, (f v).ownBlock = some g → β ≤ g)
    (k1 : Chg (fun k => k < wp.heap.size ∧ ¬ (f x).ownBlock = some k) wp w1) (la : ∀ g, va.ownBlock = some g → (f x).ownBlock = some g ∨ wp.heap.size ≤ g)
    (k2 : Chg (fun k => k < w1.heap.size ∧ ¬ (f y).ownBlock = some k) w1 w2) (lc : ∀ g, vc.ownBlock = some g → (f y).ownBlock = some g ∨ w1.heap.size ≤ g) (k3 : Exb bm w2 w3) : AccM β lo hi bm w6 w3 (upd (upd f x va) y vc) := by
  have s1 := k1.size
  have s2 := k2.size
  have s3 := k3.size
  have hs := h.2.1
  have key : ∀ v k, k < hi ∧ k ≠ bm ∧ (k < β ∨ lo ≤ k) → ¬ (f v).ownBlock = some k := fun v k hk hv => by
    have h1 := hb v k hv
    have h2 := h.2.2 v k hv
    omega
  refine ⟨h.1.trans ((k1.mono fun k hk => ⟨by omega, key x k hk⟩).trans ((k2.mono fun k hk => ⟨by omega, key y k hk⟩).trans (Chg.mono k3 fun k hk => ⟨by omega, hk.2.1⟩))), by omega, fun v g hv => ?_⟩
  unfold upd at hv
  by_cases h1 : v = y
  · rw [if_pos h1] at hv
    rcases lc g hv with h2 | h2
    · exact h.2.2 y g h2
    · omega
  · rw [if_neg h1] at hv
    by_cases h3 : v = x
    · rw [if_pos h3] at hv
      rcases la g hv with h2 | h2
      · exact h.2.2 x g h2
      · omega
    · rw [if_neg h3] at hv
      exact h.2.2 v g hv
/-- the pairs of the first j nodes -/
def prsU (N : List Nd) (P : List Pr) (j : Nat) : List (Int × Int) := (N.take j).flatMap fun x => (refsN N (peerN P x.id)).map fun v => (x.id, v)
theorem prsU_snoc {N : List Nd} {P : List Pr} {j : Nat} {x : Nd} (hx : N[j]? = some x) : prsU N P (j + 1) = prsU N P j ++ (refsN N (peerN P x.id)).map fun v => (x.id, v) := by
  unfold prsU
  rw [take_snocN N j x hx, List.flatMap_append]
  simp
theorem prsU_all (N : List Nd) (P : List Pr) : prsU N P N.length = pairsN N P := by
  unfold prsU pairsN
  rw [List.take_of_length_le (Nat.le_refl _)]
theorem prsU_len {N : List Nd} (h0 : checkN N = 0) (P : List Pr) (j : Nat) : (prsU N P j).length ≤ 64 * 64 := by
  have h1 := pairs_len (P := P) h0 (N.take j)
  have h2 := check_len h0
  have h3 : (N.take j).length ≤ 64 := by rw [List.length_take]; omega
  unfold prsU
  exact Nat.le_trans h1 (Nat.mul_le_mul h3 h2)
theorem refs_empty {N : List Nd} (h0 : checkN N = 0) (id : Int) : refsN N ⟨id, 0, 0, [], []⟩ = [] := by
  unfold refsN
  rw [if_pos h0]
  unfold ordN
  rw [List.map_eq_nil_iff, List.filter_eq_nil_iff]
  intro x hx
  have := (roster_ok h0 x ((sortN_mem N x).1 hx)).2.1
  simp only [numsP, Bool.and_eq_true, List.contains_iff_mem, List.flatMap_nil, List.append_nil, List.nil_append, List.mem_cons, List.not_mem_nil, or_false]
  omega
abbrev GpM (base : Nat) (w : World) (b n : Nat) (f : Int → Value) (J : Int → List Int) : Prop := GrpM Tryd.prog 3 3 base w b n f J
def CnRel (N : List Nd) (P : List Pr) (bm : Nat) (w : World) (i : Value) (wr : World) : Prop :=
  ∃ (j n : Nat) (f : Int → Value), j ≤ N.length ∧ i = .int .i64 j ∧ GpM w.heap.size wr bm n f (jOf (prsU N P j)) ∧ n = 2 * (prsU N P j).length ∧ Exb bm w wr
def CmRel (x : Int) (l : List Int) (E : List (Int × Int)) (bm lo : Nat) (w w6 : World) (i : Value) (wr : World) : Prop :=
  ∃ (j n : Nat) (f : Int → Value), j ≤ l.length ∧ i = .int .i64 j ∧ GpM w.heap.size wr bm n f (jOf (E ++ (l.take j).map fun v => (x, v))) ∧ n = 2 * (E.length + j) ∧ AccM w.heap.size lo w6.heap.size bm w6 wr f
theorem Tryd.zeroS (w : World) : (zeroValue 22).run Tryd.prog w = .ok nilS w := by kernel_rfl
theorem litF {wp u : World} (hz : wp.heap.size ≤ u.heap.size) (x : Int) : ∃ g v, g = u.heap.size ∧ v = u.alloc (.cells #[.int .i64 x] 3) ∧ Slf 1 encI wp v (some ⟨g, 0, none⟩) 1 [x] ∧ Ex u v :=
  ⟨_, _, rfl, rfl, Slf.lit [x] rfl hz rfl (fun _ => rfl) rfl, Ex.new _ _⟩
theorem Slf.row2 {α : Type} {sz n : Nat} {enc : α → List Value} {w0 w w' : World} {a : Option Addr} {l : List α} {v : Value} (s : Slf sz enc w0 w a n l) (h : ∀ g, v.ownBlock = some g → g < w0.heap.size) (k : Chg (fun k => k < w.heap.size ∧ ¬ v.ownBlock = some k) w w') : Slf sz enc w0 w' a n l :=
  (Rd.chg s k fun _ hk => ⟨hk.2, fun hv => by have := h _ hv; have := hk.1; omega⟩).mono fun _ hk => ⟨hk.1, Nat.lt_of_lt_of_le hk.2 k.size⟩
theorem Slf.row {α β : Type} {sz n sz' e base : Nat} {enc : α → List Value} {enc' : β → List Value} {w0 w w' : World} {a : Option Addr} {l : List α} {v : Value} {l' : List β} (s : Slf sz enc w0 w a n l) (h : OwnL sz' enc' e base w0 v l') (k : Chg (fun k => k < w.heap.size ∧ ¬ v.ownBlock = some k) w w') : Slf sz enc w0 w' a n l :=
  (Rd.chg s k fun _ hk => ⟨hk.2, fun hv => by have := (h.lt _ hv).2; have := hk.1; omega⟩).mono fun _ hk => ⟨hk.1, Nat.lt_of_lt_of_le hk.2 k.size⟩

theorem sumJ_le {J : Int → List Int} (hJ : ∀ u, (J u).length ≤ 10000) (L : List Nd) : (L.map fun x => (J x.id).length).sum ≤ L.length * 10000 := by
  induction L with
  | nil => simp
  | cons x L ih =>
    have := hJ x.id
    rw [List.map_cons, List.sum_cons, List.length_cons]
    omega
theorem todo_le {N : List Nd} {J : Int → List Int} (hN : N.length ≤ 64) (hJ : ∀ u, (J u).length ≤ 10000) (M T : List Int) : todoN N J M T ≤ T.length + 640000 := by
  have h1 := sumJ_le hJ (N.filter fun x => !(M.contains x.id))
  have h2 := List.length_filter_le (fun x : Nd => !(M.contains x.id)) N
  unfold todoN
  omega
theorem todo_len (N : List Nd) (J : Int → List Int) (M T : List Int) : T.length ≤ todoN N J M T := by unfold todoN; omega
theorem todo_old (N : List Nd) (J : Int → List Int) (M T : List Int) (v : Int) : todoN N J M T + 1 = todoN N J M (v :: T) := by unfold todoN; rw [List.length_cons]; omega
theorem QuL.no {e : TypeId} {base : Nat} {w : World} {v : Value} (h : QuL e base w v []) : ∃ a c, v = .slice a 0 c := by
  rcases h with ⟨rfl, _⟩ | ⟨g, o, cap, cur, rfl, _⟩
  · exact ⟨none, 0, rfl⟩
  · exact ⟨_, cap, rfl⟩
theorem QuL.base {e : TypeId} {base base' : Nat} {w : World} {v : Value} {l : List Int} (h : QuL e base w v l) (hb : base' ≤ base) : QuL e base' w v l := by
  rcases h with h | ⟨g, o, cap, cur, h1, h2, h3⟩
  · exact .inl h
  · exact .inr ⟨g, o, cap, cur, h1, Nat.le_trans hb h2, h3⟩
theorem OwnL.rdz {α : Type} {sz e base : Nat} {enc : α → List Value} {w : World} {v : Value} {l : List α} (h : OwnL sz enc e base w v l) (hsz : ∀ y, (enc y).length = sz) :
    ∃ a cap, v = .slice a l.length cap ∧ Rd sz enc (fun k => base ≤ k ∧ k < w.heap.size) w a l.length l ∧ (a = none → cap = 0) := by
  obtain ⟨a, cap, e1, r, _⟩ := h.rd hsz
  refine ⟨a, cap, e1, r, fun h0 => ?_⟩
  subst h0
  rcases h.2 with ⟨e2, hn⟩ | ⟨g, cap', cur, e2, _⟩
  · rw [e1] at e2
    injection e2
  · rw [e1] at e2
    simp at e2
theorem wpList_append_hap {P : Program} {ops : Array Oper} {rest : List Oper} {o : Oper} {a : Act} {Q : Exit → Act → World → Prop} {w : World} (hgd : o.guard = none) (s x : Operand) (t : TypeId)
    (ho : o.op = .call { callee := .builtin .append, args := #[s, x], argTypes := #[t, t] }) {v v' : Value} {A : Option Addr} {n c : Nat} {w' : World} (hap : (Builtin.append_ #[t, t] o.type #[v, .slice A n c]).run P w = .ok v' w')
    (hs : a.eval s = v) (hx : a.eval x = .slice A n c) (h : wpList P ops Q rest (a.put o.dst v') w') : wpList P ops Q (o :: rest) a w :=
  wpList_plain hgd fun K hK => by
    unfold Oper.wp execOp
    simp only [ho, resolve, invoke, builtin, Sem.run_bind, Sem.run_pure, Result.andThen_ok, List.map_toArray, List.map_cons, List.map_nil, hs, hx, hap]
    exact hK _ _ h
abbrev SetB (w : World) (b : Nat) (S : List Int) : Prop := SetM Tryd.prog 3 4 w b S
def startN (N : List Nd) : List Int := match N with | [] => [] | s :: _ => [s.id]
theorem startN_at {N : List Nd} {x : Nd} (h : N[0]? = some x) : startN N = [x.id] := by
  cases N with
  | nil => cases h
  | cons y N => simp at h; rw [h]; rfl
theorem startN_bfs (N : List Nd) (P : List Pr) (J : Int → List Int) : Bfs N P J [] (startN N) := bfs_start
theorem startN_len (N : List Nd) : (startN N).length ≤ 1 := by
  cases N with
  | nil => exact Nat.zero_le _
  | cons y N => exact Nat.le_refl _
def CqRel (N : List Nd) (bs : Nat) (w6 : World) (o : Value) (wr : World) : Prop :=
  QuL 3 (bs + 1) wr o (startN N) ∧ Ex w6 wr
def CbRel (N : List Nd) (P : List Pr) (J : Int → List Int) (bs : Nat) (wi : World) (k : Nat) (o : Value) (wr : World) : Prop :=
  ∃ M T, Bfs N P J M T ∧ SetB wr bs M ∧ QuL 3 (bs + 1) wr o T ∧ Ex wi wr ∧ k = todoN N J M T ∧ k ≤ 700000

set_option maxRecDepth 100000 in
set_option maxHeartbeats 16000000 in
theorem connected_p (a : Option Addr) (n c : Nat) (N : List Nd) (a2 : Option Addr) (n2 c2 : Nat) (P : List Pr) (w : World) (h : Sl 3 encN w a n N) (hn : n ≤ 1000) (hc : n ≤ c) (hm : c ≤ maxLen) (h2 : PL w a2 n2 P) (hn2 : n2 ≤ 4000000000000000000) (hP : ∀ p ∈ P, p.known.length ≤ 4000000000000000000 ∧ p.near.length ≤ 4000000000000000000) :
    Calls Tryd.prog 22 #[.slice a n c, .slice a2 n2 c2] w fun e w' => e = .returned (.bool (connB N P)) ∧ Ex w w' := by
  have HL := Lib.hid h.len
  have HP := Lib.hid hP
  have H2 := Lib.hid h2
  have EX := Ex.refl w
  clear hP h2
  go_enter Tryd.func22, Tryd.ntmps22
  go_wp2_with fail
  (with_reducible refine (check_p _ _ _ _ _ h (by omega) hc hm).mono ?_)
  rintro e w1 ⟨rfl, kk⟩
  replace h := h.nx kk
  replace EX := EX.nx kk
  clear kk
  by_cases hck : checkN N = 0
  case neg =>
    have d1 : (checkN N != 0) = true := by simpa using hck
    have E0 : Hid (connB N P = false) := Lib.hid (by unfold connB; rw [show (checkN N == 0) = false by simpa using hck]; rfl)
    clear h hck
    go_wp2_with fail
    go_ret
    exact ⟨by rw [E0.out]; rfl, EX⟩
  have d1 : (checkN N != 0) = false := by simpa using hck
  have HC := Lib.hid hck
  have hn64 : n ≤ 64 := by have := check_len hck; have := HL.out; omega
  have HI : Hid (∀ x ∈ N, I64 x.id) := Lib.hid (fun x hx => (roster_ok HC.out x hx).1.1)
  clear hck
  have G4 := GrpM.made w1 Tryd.prog 3 3
  have kk := Ex.new w1 (.map #[] 0)
  obtain ⟨w4, hw4⟩ : ∃ w4, w4 = w1.alloc (.map #[] 0) := ⟨_, rfl⟩
  obtain ⟨bm, hbm⟩ : ∃ bm, bm = w1.heap.size := ⟨_, rfl⟩
  have hsz4 : w4.heap.size = bm + 1 := by rw [hw4, hbm]; simp
  replace G4 : GpM w4.heap.size w4 bm 0 (fun _ => nilS) (fun _ => []) := by rw [hsz4, hw4, hbm]; exact G4
  rw [← hw4] at kk
  have Hw4 := Lib.hid hw4
  have Hbm := Lib.hid hbm
  have hwb : w.heap.size ≤ bm := by have := EX.size; omega
  have HS := Lib.hid (h.slb (show w1.heap.size ≤ bm by omega))
  replace HS := Lib.hid (HS.out.nxb (kk.b bm))
  have EX1 := Lib.hid (EX.nx kk)
  have HPL := Lib.hid ((H2.out.plb hwb).nxb (EX1.out.b bm))
  clear kk hw4 hbm h
  have hmm := @run_makeMap Tryd.prog
  go_upto_region 4 with fail
  rw [← Hbm.out, ← Hw4.out]
  clear Hbm Hw4
  clear hmm
  have hbm4 : bm < w4.heap.size := by omega
  replace hsz4 := Lib.hid hsz4
  clear EX
  go_wp2_with fail
  go_loopw [20] (fun i wr => CnRel N P bm w4 i wr) (fun i _ => n - (intOf i).toNat)
  case atStart => exact ⟨0, 0, fun _ => nilS, by omega, rfl, G4, rfl, Exb.refl _ _⟩
  case round =>
    clear G4
    obtain ⟨j, nn, f, hj, rfl, GP, hnn, kw⟩ := hrel
    obtain ⟨wi, rfl⟩ : ∃ wi : World, wi = wr := ⟨_, rfl⟩
    have hjn : j ≤ n := by have := HL.out; omega
    have HNN := Lib.hid hnn
    clear hnn hj
    by_cases hjm : j < n
    · obtain ⟨x3, o3, x, rfl, hx3, hy, hc3⟩ := (HS.out.nxb kw).sl.at hjm
      have e0 : wi.cell? ⟨x3, o3 + j * 3, none⟩ = some (.int .i64 x.id) := hc3 0 _ rfl
      have e1 : wi.cell? ⟨x3, o3 + j * 3 + 1, none⟩ = some (.string x.key) := hc3 1 _ rfl
      have e2 : wi.cell? ⟨x3, o3 + j * 3 + 1 + 1, none⟩ = some (.int .u32 x.word) := by simpa [Nat.add_assoc] using hc3 2 _ rfl
      have SN := Lib.hid (prsU_snoc (P := P) hy)
      have hxI := Lib.hid (HI.out x (List.mem_of_getElem? hy))
      have KW := Lib.hid kw
      have GW := Lib.hid GP
      have hbi : bm < wi.heap.size := Nat.lt_of_lt_of_le hbm4 kw.size
      have PE := prsU_len HC.out P j
      clear hc3 hy kw GP
      have B7 := Blk.new wi [.int .i64 x.id, .string x.key, .int .u32 x.word] 52
      have kk := Ex.new wi (.cells #[.int .i64 x.id, .string x.key, .int .u32 x.word] 52)
      obtain ⟨w7, hw7⟩ : ∃ w7, w7 = wi.alloc (.cells #[.int .i64 x.id, .string x.key, .int .u32 x.word] 52) := ⟨_, rfl⟩
      obtain ⟨g7, hg7⟩ : ∃ g7, g7 = wi.heap.size := ⟨_, rfl⟩
      replace B7 : Blk w7 g7 [.int .i64 x.id, .string x.key, .int .u32 x.word] 52 := by rw [hw7, hg7]; exact B7
      rw [← hw7] at kk
      have Hw7 := Lib.hid hw7
      have Hg7 := Lib.hid hg7
      have zg7 : wi.heap.size ≤ g7 := by omega
      have n7b : bm ≠ g7 := by omega
      have K7 := Lib.hid kk
      clear kk hw7 hg7
      go_upto_region 7 with fail
      rw [← Hg7.out, ← Hw7.out]
      clear Hg7 Hw7
      have eg : ∀ args w, (callFunc 61 args).run Tryd.prog w = .ok (.enter 61 args) w := enters_of Tryd.func61 (by kernel_rfl) rfl
      have EG := Lib.hid eg
      have HB := Lib.hid B7
      clear eg B7 e0 e1 e2
      have PLW := Lib.hid (((HPL.out.nxb KW.out).nxb (K7.out.b bm)).pl)
      go_wp2_with fail
      (with_reducible refine (idxf_pr 61 #[.pointer (some ⟨g7, 0, none⟩)] x.id EG.out _ _ _ P w7 PLW.out hn2 (conn1_p g7 x w7 HB.out)).mono ?_)
      rintro e w8 ⟨rfl, k8⟩
      replace K7 := Lib.hid (K7.out.nx k8)
      replace PLW := Lib.hid (PLW.out.nx k8)
      replace HB := Lib.hid (HB.out.nx k8)
      clear k8
      rcases idxQ_cases P x.id with ⟨k, y, hi, hk, hyk, hpe, hyid⟩ | ⟨hi, hpe⟩
      case inr =>
        rw [hi]
        have RR := Lib.hid (show CnRel N P bm w4 (.int .i64 ((j : Int) + 1)) w8 from ⟨j + 1, nn, f, by have := HL.out; omega, by go_num, by rw [SN.out, hpe, refs_empty HC.out]; simpa using GW.out.nx K7.out, by rw [SN.out, hpe, refs_empty HC.out]; simpa using HNN.out, KW.out.nxb (K7.out.b bm)⟩)
        clear hi hpe
        go_wp2_with fail
        exact ⟨RR.out, by simp [intOf]; omega⟩
      replace hyid := Lib.hid hyid
      rw [hi]
      have hk2 : k < n2 := by have := PLW.out.len; omega
      obtain ⟨xp, op, b1, m1, d1', b4, m4, d4, y', rfl, hxp, hyk', p0, p1, p2, p3, p4, s1, s4⟩ := PLW.out.rd hk2
      obtain rfl : y = y' := Option.some.inj (hyk.symm.trans hyk')
      have hyP := HP.out y (List.mem_of_getElem? hyk)
      have hl1 : m1 ≤ 4000000000000000000 := by have := s1.len; omega
      have hl4 : m4 ≤ 4000000000000000000 := by have := s4.len; omega
      have hk0 : ¬ (k : Int) < 0 := by omega
      have hkn : (k : Int) < (n2 : Int) := by omega
      have hpe := Lib.hid hpe
      have S1 := Lib.hid s1
      have S4 := Lib.hid s4
      clear hi hyk hyk' s1 s4 hyP hk
      go_wp2_with fail
      (with_reducible refine (refs_p _ _ _ N y _ _ _ _ _ _ _ ((HS.out.nxb KW.out).nxb (K7.out.b bm)).sl hn hc hm S1.out S4.out hl1 hl4).mono ?_)
      rintro e w9 ⟨v9, rfl, o9, kk⟩
      obtain ⟨A9, C9, rfl, r9, _, _, _⟩ := o9.slf (fun _ => rfl)
      replace r9 := Lib.hid (r9.old K7.out.size)
      have hlr := refs_len HC.out y
      have HRI : Hid (∀ v ∈ refsN N y, I64 v ∧ v ≠ x.id) := Lib.hid (fun v hv => by
        obtain ⟨⟨z, hz, rfl⟩, h2, _⟩ := (mem_refs HC.out).1 hv
        exact ⟨HI.out z hz, by rw [hyid.out] at h2; exact h2⟩)
      have hL9 := r9.out.len
      have SN : Hid (prsU N P (j + 1) = prsU N P j ++ (refsN N y).map fun v => (x.id, v)) := Lib.hid (by rw [SN.out, hpe.out])
      replace HB := Lib.hid (HB.out.nx kk)
      have K9 := Lib.hid (K7.out.nx kk)
      have A0 : Hid (AccM w4.heap.size wi.heap.size w9.heap.size bm w9 w9 f) := Lib.hid ⟨Chg.refl _ _, Nat.le_refl _, fun v g hg => .inl ((GW.out.row v).lt g hg).2⟩
      have G9 := Lib.hid (GW.out.nx K9.out)
      generalize refsN N y = L at r9 hlr HRI hL9 SN ⊢
      have hLl : L.length ≤ 64 := by have := HL.out; omega
      have hz9 := K9.out.size
      clear o9 kk p0 p1 p2 p3 p4 hyid hlr
      go_wp2_with fail
      go_loopw [36] (fun i wr => CmRel x.id L (prsU N P j) bm wi.heap.size w4 w9 i wr) (fun i _ => L.length - (intOf i).toNat)
      case atStart => exact ⟨0, nn, f, by omega, rfl, by simpa using G9.out, by simpa using HNN.out, A0.out⟩
      case round =>
        clear A0 G9 GW
        obtain ⟨i, m, f2, hi, rfl, GP, hm2, ac⟩ := hrel
        obtain ⟨wp, rfl⟩ : ∃ wp : World, wp = wr := ⟨_, rfl⟩
        by_cases hil : i < L.length
        · obtain ⟨xr, or, id, rfl, hxr, hid, hcr⟩ := (ac.sl hbi r9.out).at (j := i) hil
          have f0 : wp.cell? ⟨xr, or + i, none⟩ = some (.int .i64 id) := by simpa using hcr 0 _ rfl
          have LS : Hid ((L.take (i + 1)).map (fun v => (x.id, v)) = (L.take i).map (fun v => (x.id, v)) ++ [(x.id, id)]) := Lib.hid (by rw [take_snocN L i id hid, List.map_append]; rfl)
          obtain ⟨hidI, hne⟩ := HRI.out id (List.mem_of_getElem? hid)
          have BP := Lib.hid (ac.blk HB.out (by omega) n7b)
          have GPH := Lib.hid GP
          have AC := Lib.hid ac
          have M2 := Lib.hid hm2
          have hm100 : m < 1000000 := by omega
          have zbp : bm < wp.heap.size := GP.1.lt
          have zgp : g7 < wp.heap.size := BP.out.lt
          have NB : Hid (∀ v, ¬ (f2 v).ownBlock = some bm ∧ ¬ (f2 v).ownBlock = some g7) := Lib.hid (fun v => ⟨fun hv => by have := ((GPH.out.row v).lt bm hv).1; omega, fun hv => OwnL.ne_blk (GPH.out.row v) BP.out (by decide) hv rfl⟩)
          have JX := Lib.hid (show ∀ u, (jOf (prsU N P j ++ (L.take i).map fun v => (x.id, v)) u).length ≤ 100000 from fun u => by
            have hne : ∀ q ∈ prsU N P j ++ (L.take i).map (fun v => (x.id, v)), q.1 ≠ q.2 := fun q hq => by
              rcases List.mem_append.1 hq with h1 | h1
              · refine pairs_ne HC.out (P := P) (q := q) ?_
                unfold prsU at h1
                unfold pairsN
                obtain ⟨z, hz, h2⟩ := List.mem_flatMap.1 h1
                exact List.mem_flatMap.2 ⟨z, List.mem_of_mem_take hz, h2⟩
              · obtain ⟨v, hv, rfl⟩ := List.mem_map.1 h1
                exact fun h => (HRI.out v (List.mem_of_mem_take hv)).2 h.symm
            have h1 := ((jOf_law _ _ rfl hne) u).1
            rw [List.length_append, List.length_map, List.length_take] at h1
            omega)
          generalize hJ : jOf (prsU N P j ++ (L.take i).map fun v => (x.id, v)) = J at GP GPH JX
          have HJ := Lib.hid hJ
          have wx1 := Lib.hid (wf_of hxI.out)
          have wx2 := Lib.hid (wf_of hidI)
          have hne2 : id ≠ x.id := hne
          have jlx := JX.out x.id
          have jly := JX.out id
          clear hcr hid ac hm2 hJ GP JX
          go_upto_region 12 with fail
          refine wp_region_late_drew (S := Chg (fun k => k = bm ∨ k = g7) wp) [19, 21, 22] (by kernel_rfl) ((Chg.refl _ wp).drew) (fun hHeld => ?_)
          obtain ⟨wd, hwdx⟩ : ∃ wd : World, wd = World.drew wp := ⟨_, rfl⟩
          rw [← hwdx] at hHeld ⊢
          have hDrew : Ex wp wd := by rw [hwdx]; exact (Ex.refl wp).drew
          clear hwdx
          refine wpAnyL_take (i := 0) (oi := ⟨some 40, .move (.tmp 5), 80, "redundant.go:139", #[], none⟩) (v := ?_) rfl (by kernel_rfl) (by kernel_rfl) (by kernel_rfl) (fun _ _ _ h => h) (Or.inl ⟨by rfl, ?hyr1x0q5⟩) (by kernel_rfl) (by kernel_rfl) (by assumption) ?restr1x0q5
          case hyr1x0q5 => intro wq hSw; (go_simp); (try with_reducible rfl)
          try simp only [Act.put, List.setIfInBounds_toArray, List.set_cons_zero, List.set_cons_succ]
          refine wpAnyL_take (i := 1) (oi := ⟨some 41, .fieldAddr 52 (.tmp 7) 0, 0, "redundant.go:139", #[], none⟩) (v := ?_) rfl (by kernel_rfl) (by kernel_rfl) (by kernel_rfl) (fun _ _ _ h => h) (Or.inl ⟨by rfl, ?hyr1x1q8⟩) (by kernel_rfl) (by kernel_rfl) (by assumption) ?restr1x1q8
          case hyr1x1q8 => intro wq hSw; (go_simp); (try with_reducible rfl)
          try simp only [Act.put, List.setIfInBounds_toArray, List.set_cons_zero, List.set_cons_succ]
          refine wpAnyL_take (i := 2) (oi := ⟨some 42, .load 3 (.tmp 41), 3, "redundant.go:139", #[⟨1, .data⟩], none⟩) (v := ?_) rfl (by kernel_rfl) (by kernel_rfl) (by kernel_rfl) (fun _ _ _ h => h) (Or.inl ⟨by rfl, ?hyr1x2q11⟩) (by kernel_rfl) (by kernel_rfl) (by assumption) ?restr1x2q11
          case hyr1x2q11 => intro wq hSw; (have cq := ((show Blk wq g7 _ _ from (hSw.block g7 (.inr rfl)).trans BP.out).cell 0 _ rfl); go_simp); (try with_reducible rfl)
          try simp only [Act.put, List.setIfInBounds_toArray, List.set_cons_zero, List.set_cons_succ]
          refine wpAnyL_takeP (i := 3) (oi := ⟨some 43, .move (.tmp 5), 80, "redundant.go:139", #[{ on := 21, ground := Ground.gcOnly Departure.lateStores }], none⟩) (v := ?_) rfl (by kernel_rfl) (by kernel_rfl) (by kernel_rfl) (fun _ _ _ h => h) (Or.inl ⟨by rfl, ?hyr1x3q14⟩) ?restr1x3q14
          case hyr1x3q14 => intro wq hSw; (go_simp); (try with_reducible rfl)
          try simp only [Act.put, List.setIfInBounds_toArray, List.set_cons_zero, List.set_cons_succ]
          refine wpAnyL_takeP (i := 4) (oi := ⟨some 44, .move (.tmp 10), 3, "redundant.go:139", #[{ on := 21, ground := Ground.gcOnly Departure.lateStores }], none⟩) (v := ?_) rfl (by kernel_rfl) (by kernel_rfl) (by kernel_rfl) (fun _ _ _ h => h) (Or.inl ⟨by rfl, ?hyr1x4q17⟩) ?restr1x4q17
          case hyr1x4q17 => intro wq hSw; (go_simp); (try with_reducible rfl)
          try simp only [Act.put, List.setIfInBounds_toArray, List.set_cons_zero, List.set_cons_succ]
          refine wpAnyL_take (i := 5) (oi := ⟨some 45, .move (.tmp 5), 80, "redundant.go:139", #[], none⟩) (v := ?_) rfl (by kernel_rfl) (by kernel_rfl) (by kernel_rfl) (fun _ _ _ h => h) (Or.inl ⟨by rfl, ?hyr1x5q20⟩) (by kernel_rfl) (by kernel_rfl) (by assumption) ?restr1x5q20
          case hyr1x5q20 => intro wq hSw; (go_simp); (try with_reducible rfl)
          try simp only [Act.put, List.setIfInBounds_toArray, List.set_cons_zero, List.set_cons_succ]
          refine wpAnyL_take (i := 6) (oi := ⟨some 46, .fieldAddr 52 (.tmp 7) 0, 0, "redundant.go:139", #[], none⟩) (v := ?_) rfl (by kernel_rfl) (by kernel_rfl) (by kernel_rfl) (fun _ _ _ h => h) (Or.inl ⟨by rfl, ?hyr1x6q23⟩) (by kernel_rfl) (by kernel_rfl) (by assumption) ?restr1x6q23
          case hyr1x6q23 => intro wq hSw; (go_simp); (try with_reducible rfl)
          try simp only [Act.put, List.setIfInBounds_toArray, List.set_cons_zero, List.set_cons_succ]
          refine wpAnyL_take (i := 7) (oi := ⟨some 47, .load 3 (.tmp 46), 3, "redundant.go:139", #[⟨6, .data⟩], none⟩) (v := ?_) rfl (by kernel_rfl) (by kernel_rfl) (by kernel_rfl) (fun _ _ _ h => h) (Or.inl ⟨by rfl, ?hyr1x7q26⟩) (by kernel_rfl) (by kernel_rfl) (by assumption) ?restr1x7q26
          case hyr1x7q26 => intro wq hSw; (have cq := ((show Blk wq g7 _ _ from (hSw.block g7 (.inr rfl)).trans BP.out).cell 0 _ rfl); go_simp); (try with_reducible rfl)
          try simp only [Act.put, List.setIfInBounds_toArray, List.set_cons_zero, List.set_cons_succ]
          refine wpAnyL_take (i := 8) (oi := ⟨some 48, .lookup 80 (.tmp 45) (.tmp 47) false, 22, "redundant.go:139", #[⟨5, .data⟩, ⟨7, .data⟩], none⟩) (v := ?_) rfl (by kernel_rfl) (by kernel_rfl) (by kernel_rfl) (fun _ _ _ h => h) (Or.inl ⟨by rfl, ?hyr1x8q29⟩) (by kernel_rfl) (by kernel_rfl) (by assumption) ?restr1x8q29
          case hyr1x8q29 => intro wq hSw; (have lk := (RawM.same GPH.out.1 (hSw.block bm (.inl rfl))).get (t := 80) Tryd.underlying3 Tryd.underlying80 (Tryd.zeroS _) wx1.out; go_simp); (try with_reducible rfl)
          try simp only [Act.put, List.setIfInBounds_toArray, List.set_cons_zero, List.set_cons_succ]
          refine wpAnyL_take (i := 9) (oi := ⟨some 49, .move (.tmp 10), 3, "redundant.go:139", #[], none⟩) (v := ?_) rfl (by kernel_rfl) (by kernel_rfl) (by kernel_rfl) (fun _ _ _ h => h) (Or.inl ⟨by rfl, ?hyr1x9q32⟩) (by kernel_rfl) (by kernel_rfl) (by assumption) ?restr1x9q32
          case hyr1x9q32 => intro wq hSw; (go_simp); (try with_reducible rfl)
          try simp only [Act.put, List.setIfInBounds_toArray, List.set_cons_zero, List.set_cons_succ]
          refine wpAnyL_take (i := 12) (oi := ⟨some 52, .move (.tmp 5), 80, "redundant.go:139", #[], none⟩) (v := ?_) rfl (by kernel_rfl) (by kernel_rfl) (by kernel_rfl) (fun _ _ _ h => h) (Or.inl ⟨by rfl, ?hyr1x12q35⟩) (by kernel_rfl) (by kernel_rfl) (by assumption) ?restr1x12q35
          case hyr1x12q35 => intro wq hSw; (go_simp); (try with_reducible rfl)
          try simp only [Act.put, List.setIfInBounds_toArray, List.set_cons_zero, List.set_cons_succ]
          refine wpAnyL_take (i := 13) (oi := ⟨some 53, .move (.tmp 10), 3, "redundant.go:139", #[], none⟩) (v := ?_) rfl (by kernel_rfl) (by kernel_rfl) (by kernel_rfl) (fun _ _ _ h => h) (Or.inl ⟨by rfl, ?hyr1x13q38⟩) (by kernel_rfl) (by kernel_rfl) (by assumption) ?restr1x13q38
          case hyr1x13q38 => intro wq hSw; (go_simp); (try with_reducible rfl)
          try simp only [Act.put, List.setIfInBounds_toArray, List.set_cons_zero, List.set_cons_succ]
          refine wpAnyL_take (i := 14) (oi := ⟨some 54, .lookup 80 (.tmp 52) (.tmp 53) false, 22, "redundant.go:139", #[⟨12, .data⟩, ⟨13, .data⟩], none⟩) (v := ?_) rfl (by kernel_rfl) (by kernel_rfl) (by kernel_rfl) (fun _ _ _ h => h) (Or.inl ⟨by rfl, ?hyr1x14q41⟩) (by kernel_rfl) (by kernel_rfl) (by assumption) ?restr1x14q41
          case hyr1x14q41 => intro wq hSw; (have lk := (RawM.same GPH.out.1 (hSw.block bm (.inl rfl))).get (t := 80) Tryd.underlying3 Tryd.underlying80 (Tryd.zeroS _) wx2.out; go_simp); (try with_reducible rfl)
          try simp only [Act.put, List.setIfInBounds_toArray, List.set_cons_zero, List.set_cons_succ]
          refine wpAnyL_take (i := 15) (oi := ⟨some 55, .fieldAddr 52 (.tmp 7) 0, 0, "redundant.go:139", #[], none⟩) (v := ?_) rfl (by kernel_rfl) (by kernel_rfl) (by kernel_rfl) (fun _ _ _ h => h) (Or.inl ⟨by rfl, ?hyr1x15q44⟩) (by kernel_rfl) (by kernel_rfl) (by assumption) ?restr1x15q44
          case hyr1x15q44 => intro wq hSw; (go_simp); (try with_reducible rfl)
          try simp only [Act.put, List.setIfInBounds_toArray, List.set_cons_zero, List.set_cons_succ]
          refine wpAnyL_take (i := 16) (oi := ⟨some 56, .load 3 (.tmp 55), 3, "redundant.go:139", #[⟨15, .data⟩], none⟩) (v := ?_) rfl (by kernel_rfl) (by kernel_rfl) (by kernel_rfl) (fun _ _ _ h => h) (Or.inl ⟨by rfl, ?hyr1x16q47⟩) (by kernel_rfl) (by kernel_rfl) (by assumption) ?restr1x16q47
          case hyr1x16q47 => intro wq hSw; (have cq := ((show Blk wq g7 _ _ from (hSw.block g7 (.inr rfl)).trans BP.out).cell 0 _ rfl); go_simp); (try with_reducible rfl)
          try simp only [Act.put, List.setIfInBounds_toArray, List.set_cons_zero, List.set_cons_succ]
          refine wpAnyL_ready (rs := [10, 17]) (by kernel_rfl) (by simp) ?_
          refine AllReadyL.cons (o := ⟨some 50, .buildSlice 22 1 #[(0, .tmp 49)], 22, "redundant.go:139", #[⟨9, .data⟩], none⟩) rfl (fun K hK => ?_) ?_
          · go_simp
            obtain ⟨g8, wq, hg8, hwq, SX, kk⟩ := litF hHeld.size id
            rw [← hg8, ← hwq]
            clear hg8 hwq
            (try replace SY := SY.nx kk)
            replace hDrew := hDrew.nx kk
            replace hHeld := hold_ex hHeld zbp zgp kk
            clear kk
            refine hK.out _ _ (hHeld) (fun hHeld => ?_)
            clear hK K
            try simp only [Act.put, List.setIfInBounds_toArray, List.set_cons_zero, List.set_cons_succ]
            refine wpAnyL_ready (rs := [11, 17]) (by kernel_rfl) (by simp) ?_
            refine AllReadyL.cons (o := ⟨some 51, .call { callee := .builtin .append, args := #[.tmp 48, .tmp 50], argTypes := #[22, 22] }, 22, "redundant.go:139", #[⟨8, .data⟩, ⟨10, .data⟩], none⟩) rfl (fun K hK => ?_) ?_
            · rw [if_pos (by rfl)]
              have rx := (GPH.out.row x.id).nx hDrew
              have zbase := Nat.le_trans GPH.out.2.2.1 hDrew.size
              refine wp_append_rda (enc := encI) _ (.tmp 48) (.tmp 50) 22 rfl w4.heap.size 3 (.int .i64 0) 1 8 Tryd.underlying22 Tryd.infoI6 rfl (by omega) (by omega) _ (J x.id) rx rfl _ _ 1 1 [id] SX (fun h => by cases h) (fun _ => rfl) (by simp [encI, Value.oneCell']) rfl (by omega) (by omega) zbase ?_
              intro va w1 A ch0 ch1 hva
              have KA : Chg (fun k => k < wp.heap.size ∧ ¬ (f2 x.id).ownBlock = some k) wp w1 := Chg.trans (Chg.mono hDrew (fun k hk => hk.1)) (Chg.mono ch0 (fun k hk => ⟨Nat.lt_of_lt_of_le hk.1 hDrew.size, hk.2⟩))
              have la := own_hist hva hDrew.size
              (try replace SY := SY.row2 (fun g hg => ((GPH.out.row x.id).lt g hg).2) ch0)
              have KE := Ex.refl w1
              replace hHeld := hold_row hHeld zbp zgp (NB.out x.id) ch0
              have zb1 := Nat.le_trans zbase ch0.size
              clear ch0 ch1 hva rx hDrew SX
              refine hK.out _ _ (hHeld) (fun hHeld => ?_)
              clear hK K
              try simp only [Act.put, List.setIfInBounds_toArray, List.set_cons_zero, List.set_cons_succ]
              refine wpAnyL_ready (rs := [17]) (by kernel_rfl) (by simp) ?_
              refine AllReadyL.cons (o := ⟨some 57, .buildSlice 22 1 #[(0, .tmp 56)], 22, "redundant.go:139", #[⟨16, .data⟩], none⟩) rfl (fun K hK => ?_) AllReadyL.nil
              go_simp
              obtain ⟨g9, wq, hg9, hwq, SY, kk⟩ := litF hHeld.size x.id
              rw [← hg9, ← hwq]
              clear hg9 hwq
              (try replace SX := SX.nx kk)
              (first | replace hDrew := hDrew.nx kk | replace KE := KE.nx kk)
              replace hHeld := hold_ex hHeld zbp zgp kk
              clear kk
              refine hK.out _ _ (hHeld) (fun hHeld => ?_)
              clear hK K
              try simp only [Act.put, List.setIfInBounds_toArray, List.set_cons_zero, List.set_cons_succ]
              refine wpAnyL_ready (rs := [18]) (by kernel_rfl) (by simp) ?_
              refine AllReadyL.cons (o := ⟨some 58, .call { callee := .builtin .append, args := #[.tmp 54, .tmp 57], argTypes := #[22, 22] }, 22, "redundant.go:139", #[⟨14, .data⟩, ⟨17, .data⟩, ⟨11, .chain⟩], none⟩) rfl (fun K hK => ?_) AllReadyL.nil
              rw [if_pos (by rfl)]
              have ry := ((GPH.out.row id).chg KA (fun g hg hv => ⟨hg, fun hx => GPH.out.2.2.2.2 id x.id g hne2 hv hx⟩)).nx KE
              have zb2 := Nat.le_trans zb1 KE.size
              refine wp_append_rda (enc := encI) _ (.tmp 54) (.tmp 57) 22 rfl w4.heap.size 3 (.int .i64 0) 1 8 Tryd.underlying22 Tryd.infoI6 rfl (by omega) (by omega) _ (J id) ry rfl _ _ 1 1 [x.id] SY (fun h => by cases h) (fun _ => rfl) (by simp [encI, Value.oneCell']) rfl (by omega) (by omega) zb2 ?_
              intro vc w2 C ch0 ch1 hvc
              have KC : Chg (fun k => k < w1.heap.size ∧ ¬ (f2 id).ownBlock = some k) w1 w2 := Chg.trans (Chg.mono KE (fun k hk => hk.1)) (Chg.mono ch0 (fun k hk => ⟨Nat.lt_of_lt_of_le hk.1 KE.size, hk.2⟩))
              have lc := own_hist hvc KE.size
              replace hHeld := hold_row hHeld zbp zgp (NB.out id) ch0
              clear ch0 ch1 hvc ry SY KE
              refine hK.out _ _ (hHeld) (fun hHeld => ?_)
              clear hK K
              try simp only [Act.put, List.setIfInBounds_toArray, List.set_cons_zero, List.set_cons_succ]
              refine wpAnyL_ready (rs := [19]) (by kernel_rfl) (by simp) ?_
              refine AllReadyL.consL (o := ⟨some 59, .mapEntry 80 (.tmp 40) (.tmp 42), 0, "redundant.go:139", #[⟨0, .data⟩, ⟨2, .data⟩, ⟨18, .chain⟩, { on := 0, ground := Ground.textOnly Departure.tupleMapEntryFirst }, { on := 1, ground := Ground.textOnly Departure.tupleMapEntryFirst }, { on := 2, ground := Ground.textOnly Departure.tupleMapEntryFirst }, { on := 3, ground := Ground.textOnly Departure.lateStores }, { on := 4, ground := Ground.textOnly Departure.lateStores }, { on := 5, ground := Ground.textOnly Departure.tupleMapEntryFirst }, { on := 6, ground := Ground.textOnly Departure.tupleMapEntryFirst }, { on := 7, ground := Ground.textOnly Departure.tupleMapEntryFirst }, { on := 8, ground := Ground.textOnly Departure.tupleMapEntryFirst }, { on := 9, ground := Ground.textOnly Departure.tupleMapEntryFirst }, { on := 10, ground := Ground.textOnly Departure.tupleMapEntryFirst }, ⟨11, .phase⟩, { on := 12, ground := Ground.textOnly Departure.lateStores }, { on := 13, ground := Ground.textOnly Departure.lateStores }, ⟨14, .phase⟩, { on := 15, ground := Ground.textOnly Departure.lateStores }, { on := 16, ground := Ground.textOnly Departure.lateStores }, { on := 17, ground := Ground.textOnly Departure.lateStoresUnsure }, ⟨18, .phase⟩], none⟩) rfl (by rfl) (fun K hK => ?_) AllReadyL.nil
              have R2 := RawM.same GPH.out.1 (hHeld.block bm (.inl rfl))
              obtain ⟨v0, st, we, hrun, k3, sz3, back⟩ := R2.entry (t := 80) Tryd.underlying3 Tryd.underlying80 (fun u => Tryd.zeroS u) (by omega) wx1.out
              go_simp
              clear hrun sz3 R2
              refine hK.out _ _ ?_
              clear hK K
              try simp only [Act.put, List.setIfInBounds_toArray, List.set_cons_zero, List.set_cons_succ]
              refine wpAnyL_takeP (i := 20) (oi := ⟨some 60, .extract (.tmp 59) 1, 3, "redundant.go:139", #[⟨19, .data⟩], none⟩) (v := ?_) rfl (by kernel_rfl) (by kernel_rfl) (by kernel_rfl) (fun _ _ _ h => h) (Or.inl ⟨by rfl, ?hyr1x20q116⟩) ?restr1x20q116
              case hyr1x20q116 => intro wq hSw; (go_simp); (try with_reducible rfl)
              try simp only [Act.put, List.setIfInBounds_toArray, List.set_cons_zero, List.set_cons_succ]
              refine wpAnyL_ready (rs := [21]) (by kernel_rfl) (by simp) ?_
              refine AllReadyL.consL (o := ⟨none, .entryStore 80 (.tmp 40) (.tmp 60) (.tmp 51), 0, "redundant.go:139", #[⟨0, .data⟩, ⟨20, .data⟩, ⟨11, .data⟩, ⟨19, .chain⟩, ⟨0, .phase⟩, ⟨1, .phase⟩, ⟨2, .phase⟩, { on := 3, ground := Ground.textOnly Departure.lateStores }, { on := 4, ground := Ground.textOnly Departure.lateStores }, ⟨5, .phase⟩, ⟨6, .phase⟩, ⟨7, .phase⟩, ⟨8, .phase⟩, ⟨9, .phase⟩, ⟨10, .phase⟩, ⟨11, .phase⟩, { on := 12, ground := Ground.textOnly Departure.lateStores }, { on := 13, ground := Ground.textOnly Departure.lateStores }, ⟨14, .phase⟩, { on := 15, ground := Ground.textOnly Departure.lateStores }, { on := 16, ground := Ground.textOnly Departure.lateStores }, { on := 17, ground := Ground.textOnly Departure.lateStoresUnsure }, ⟨18, .phase⟩, ⟨19, .phase⟩], none⟩) rfl (by rfl) (fun K hK => ?_) AllReadyL.nil
              obtain ⟨wf, hrun2, R3, k4, sz4⟩ := back we va rfl
              simp only [goInt] at hrun2
              go_simp
              clear hrun2 sz4 back
              refine hK.out _ _ ?_
              clear hK K
              try simp only [Act.put, List.setIfInBounds_toArray, List.set_cons_zero, List.set_cons_succ]
              refine wpAnyL_ready (rs := [22]) (by kernel_rfl) (by simp) ?_
              refine AllReadyL.consL (o := ⟨none, .mapUpdate 80 (.tmp 43) (.tmp 44) (.tmp 58), 0, "redundant.go:139", #[⟨3, .data⟩, ⟨4, .data⟩, ⟨18, .data⟩, ⟨21, .chain⟩, ⟨0, .phase⟩, ⟨1, .phase⟩, ⟨2, .phase⟩, ⟨3, .phase⟩, ⟨4, .phase⟩, ⟨5, .phase⟩, ⟨6, .phase⟩, ⟨7, .phase⟩, ⟨8, .phase⟩, ⟨9, .phase⟩, ⟨10, .phase⟩, ⟨11, .phase⟩, ⟨12, .phase⟩, ⟨13, .phase⟩, ⟨14, .phase⟩, ⟨15, .phase⟩, ⟨16, .phase⟩, ⟨17, .phase⟩, ⟨18, .phase⟩, ⟨19, .phase⟩, ⟨20, .phase⟩, ⟨21, .phase⟩], none⟩) rfl (by rfl) (fun K hK => ?_) AllReadyL.nil
              obtain ⟨wg, hrun3, R4, k5, sz5⟩ := R3.put (t := 80) Tryd.underlying3 Tryd.underlying80 (by omega) wx2.out vc
              go_simp
              clear hrun3 sz5 R3
              refine hK.out _ _ ?_
              clear hK K
              try simp only [Act.put, List.setIfInBounds_toArray, List.set_cons_zero, List.set_cons_succ]
              refine wpAnyL_done (by kernel_rfl) ?_ _
              have KF := k3.nxb (k4.nxb k5)
              have GN := GPH.out.two (x := x.id) (y := id) (fun h => hne2 h.symm) A KA la C KC lc KF R4
              have AN := AC.out.two (fun v g hg => ((GPH.out.row v).lt g hg).1) KA la KC lc KF
              have RR := Lib.hid (show CmRel x.id L (prsU N P j) bm wi.heap.size w4 w9 (.int .i64 ((i : Int) + 1)) wg from ⟨i + 1, m + 1 + 1, _, by omega, by go_num, by rw [LS.out, ← List.append_assoc, jOf_snoc, HJ.out]; exact GN, by rw [M2.out]; omega, AN⟩)
              clear GN AN KF A C KA KC la lc R4 k3 k4 k5 hHeld
              go_wp2_with fail
              exact ⟨RR.out, by simp [intOf]; omega⟩
            refine AllReadyL.cons (o := ⟨some 57, .buildSlice 22 1 #[(0, .tmp 56)], 22, "redundant.go:139", #[⟨16, .data⟩], none⟩) rfl (fun K hK => ?_) AllReadyL.nil
            · go_simp
              obtain ⟨g9, wq, hg9, hwq, SY, kk⟩ := litF hHeld.size x.id
              rw [← hg9, ← hwq]
              clear hg9 hwq
              (try replace SX := SX.nx kk)
              (first | replace hDrew := hDrew.nx kk | replace KE := KE.nx kk)
              replace hHeld := hold_ex hHeld zbp zgp kk
              clear kk
              refine hK.out _ _ (hHeld) (fun hHeld => ?_)
              clear hK K
              try simp only [Act.put, List.setIfInBounds_toArray, List.set_cons_zero, List.set_cons_succ]
              refine wpAnyL_ready (rs := [11]) (by kernel_rfl) (by simp) ?_
              refine AllReadyL.cons (o := ⟨some 51, .call { callee := .builtin .append, args := #[.tmp 48, .tmp 50], argTypes := #[22, 22] }, 22, "redundant.go:139", #[⟨8, .data⟩, ⟨10, .data⟩], none⟩) rfl (fun K hK => ?_) AllReadyL.nil
              rw [if_pos (by rfl)]
              have rx := (GPH.out.row x.id).nx hDrew
              have zbase := Nat.le_trans GPH.out.2.2.1 hDrew.size
              refine wp_append_rda (enc := encI) _ (.tmp 48) (.tmp 50) 22 rfl w4.heap.size 3 (.int .i64 0) 1 8 Tryd.underlying22 Tryd.infoI6 rfl (by omega) (by omega) _ (J x.id) rx rfl _ _ 1 1 [id] SX (fun h => by cases h) (fun _ => rfl) (by simp [encI, Value.oneCell']) rfl (by omega) (by omega) zbase ?_
              intro va w1 A ch0 ch1 hva
              have KA : Chg (fun k => k < wp.heap.size ∧ ¬ (f2 x.id).ownBlock = some k) wp w1 := Chg.trans (Chg.mono hDrew (fun k hk => hk.1)) (Chg.mono ch0 (fun k hk => ⟨Nat.lt_of_lt_of_le hk.1 hDrew.size, hk.2⟩))
              have la := own_hist hva hDrew.size
              (try replace SY := SY.row2 (fun g hg => ((GPH.out.row x.id).lt g hg).2) ch0)
              have KE := Ex.refl w1
              replace hHeld := hold_row hHeld zbp zgp (NB.out x.id) ch0
              have zb1 := Nat.le_trans zbase ch0.size
              clear ch0 ch1 hva rx hDrew SX
              refine hK.out _ _ (hHeld) (fun hHeld => ?_)
              clear hK K
              try simp only [Act.put, List.setIfInBounds_toArray, List.set_cons_zero, List.set_cons_succ]
              refine wpAnyL_ready (rs := [18]) (by kernel_rfl) (by simp) ?_
              refine AllReadyL.cons (o := ⟨some 58, .call { callee := .builtin .append, args := #[.tmp 54, .tmp 57], argTypes := #[22, 22] }, 22, "redundant.go:139", #[⟨14, .data⟩, ⟨17, .data⟩, ⟨11, .chain⟩], none⟩) rfl (fun K hK => ?_) AllReadyL.nil
              rw [if_pos (by rfl)]
              have ry := ((GPH.out.row id).chg KA (fun g hg hv => ⟨hg, fun hx => GPH.out.2.2.2.2 id x.id g hne2 hv hx⟩)).nx KE
              have zb2 := Nat.le_trans zb1 KE.size
              refine wp_append_rda (enc := encI) _ (.tmp 54) (.tmp 57) 22 rfl w4.heap.size 3 (.int .i64 0) 1 8 Tryd.underlying22 Tryd.infoI6 rfl (by omega) (by omega) _ (J id) ry rfl _ _ 1 1 [x.id] SY (fun h => by cases h) (fun _ => rfl) (by simp [encI, Value.oneCell']) rfl (by omega) (by omega) zb2 ?_
              intro vc w2 C ch0 ch1 hvc
              have KC : Chg (fun k => k < w1.heap.size ∧ ¬ (f2 id).ownBlock = some k) w1 w2 := Chg.trans (Chg.mono KE (fun k hk => hk.1)) (Chg.mono ch0 (fun k hk => ⟨Nat.lt_of_lt_of_le hk.1 KE.size, hk.2⟩))
              have lc := own_hist hvc KE.size
              replace hHeld := hold_row hHeld zbp zgp (NB.out id) ch0
              clear ch0 ch1 hvc ry SY KE
              refine hK.out _ _ (hHeld) (fun hHeld => ?_)
              clear hK K
              try simp only [Act.put, List.setIfInBounds_toArray, List.set_cons_zero, List.set_cons_succ]
              refine wpAnyL_ready (rs := [19]) (by kernel_rfl) (by simp) ?_
              refine AllReadyL.consL (o := ⟨some 59, .mapEntry 80 (.tmp 40) (.tmp 42), 0, "redundant.go:139", #[⟨0, .data⟩, ⟨2, .data⟩, ⟨18, .chain⟩, { on := 0, ground := Ground.textOnly Departure.tupleMapEntryFirst }, { on := 1, ground := Ground.textOnly Departure.tupleMapEntryFirst }, { on := 2, ground := Ground.textOnly Departure.tupleMapEntryFirst }, { on := 3, ground := Ground.textOnly Departure.lateStores }, { on := 4, ground := Ground.textOnly Departure.lateStores }, { on := 5, ground := Ground.textOnly Departure.tupleMapEntryFirst }, { on := 6, ground := Ground.textOnly Departure.tupleMapEntryFirst }, { on := 7, ground := Ground.textOnly Departure.tupleMapEntryFirst }, { on := 8, ground := Ground.textOnly Departure.tupleMapEntryFirst }, { on := 9, ground := Ground.textOnly Departure.tupleMapEntryFirst }, { on := 10, ground := Ground.textOnly Departure.tupleMapEntryFirst }, ⟨11, .phase⟩, { on := 12, ground := Ground.textOnly Departure.lateStores }, { on := 13, ground := Ground.textOnly Departure.lateStores }, ⟨14, .phase⟩, { on := 15, ground := Ground.textOnly Departure.lateStores }, { on := 16, ground := Ground.textOnly Departure.lateStores }, { on := 17, ground := Ground.textOnly Departure.lateStoresUnsure }, ⟨18, .phase⟩], none⟩) rfl (by rfl) (fun K hK => ?_) AllReadyL.nil
              have R2 := RawM.same GPH.out.1 (hHeld.block bm (.inl rfl))
              obtain ⟨v0, st, we, hrun, k3, sz3, back⟩ := R2.entry (t := 80) Tryd.underlying3 Tryd.underlying80 (fun u => Tryd.zeroS u) (by omega) wx1.out
              go_simp
              clear hrun sz3 R2
              refine hK.out _ _ ?_
              clear hK K
              try simp only [Act.put, List.setIfInBounds_toArray, List.set_cons_zero, List.set_cons_succ]
              refine wpAnyL_takeP (i := 20) (oi := ⟨some 60, .extract (.tmp 59) 1, 3, "redundant.go:139", #[⟨19, .data⟩], none⟩) (v := ?_) rfl (by kernel_rfl) (by kernel_rfl) (by kernel_rfl) (fun _ _ _ h => h) (Or.inl ⟨by rfl, ?hyr1x20q190⟩) ?restr1x20q190
              case hyr1x20q190 => intro wq hSw; (go_simp); (try with_reducible rfl)
              try simp only [Act.put, List.setIfInBounds_toArray, List.set_cons_zero, List.set_cons_succ]
              refine wpAnyL_ready (rs := [21]) (by kernel_rfl) (by simp) ?_
              refine AllReadyL.consL (o := ⟨none, .entryStore 80 (.tmp 40) (.tmp 60) (.tmp 51), 0, "redundant.go:139", #[⟨0, .data⟩, ⟨20, .data⟩, ⟨11, .data⟩, ⟨19, .chain⟩, ⟨0, .phase⟩, ⟨1, .phase⟩, ⟨2, .phase⟩, { on := 3, ground := Ground.textOnly Departure.lateStores }, { on := 4, ground := Ground.textOnly Departure.lateStores }, ⟨5, .phase⟩, ⟨6, .phase⟩, ⟨7, .phase⟩, ⟨8, .phase⟩, ⟨9, .phase⟩, ⟨10, .phase⟩, ⟨11, .phase⟩, { on := 12, ground := Ground.textOnly Departure.lateStores }, { on := 13, ground := Ground.textOnly Departure.lateStores }, ⟨14, .phase⟩, { on := 15, ground := Ground.textOnly Departure.lateStores }, { on := 16, ground := Ground.textOnly Departure.lateStores }, { on := 17, ground := Ground.textOnly Departure.lateStoresUnsure }, ⟨18, .phase⟩, ⟨19, .phase⟩], none⟩) rfl (by rfl) (fun K hK => ?_) AllReadyL.nil
              obtain ⟨wf, hrun2, R3, k4, sz4⟩ := back we va rfl
              simp only [goInt] at hrun2
              go_simp
              clear hrun2 sz4 back
              refine hK.out _ _ ?_
              clear hK K
              try simp only [Act.put, List.setIfInBounds_toArray, List.set_cons_zero, List.set_cons_succ]
              refine wpAnyL_ready (rs := [22]) (by kernel_rfl) (by simp) ?_
              refine AllReadyL.consL (o := ⟨none, .mapUpdate 80 (.tmp 43) (.tmp 44) (.tmp 58), 0, "redundant.go:139", #[⟨3, .data⟩, ⟨4, .data⟩, ⟨18, .data⟩, ⟨21, .chain⟩, ⟨0, .phase⟩, ⟨1, .phase⟩, ⟨2, .phase⟩, ⟨3, .phase⟩, ⟨4, .phase⟩, ⟨5, .phase⟩, ⟨6, .phase⟩, ⟨7, .phase⟩, ⟨8, .phase⟩, ⟨9, .phase⟩, ⟨10, .phase⟩, ⟨11, .phase⟩, ⟨12, .phase⟩, ⟨13, .phase⟩, ⟨14, .phase⟩, ⟨15, .phase⟩, ⟨16, .phase⟩, ⟨17, .phase⟩, ⟨18, .phase⟩, ⟨19, .phase⟩, ⟨20, .phase⟩, ⟨21, .phase⟩], none⟩) rfl (by rfl) (fun K hK => ?_) AllReadyL.nil
              obtain ⟨wg, hrun3, R4, k5, sz5⟩ := R3.put (t := 80) Tryd.underlying3 Tryd.underlying80 (by omega) wx2.out vc
              go_simp
              clear hrun3 sz5 R3
              refine hK.out _ _ ?_
              clear hK K
              try simp only [Act.put, List.setIfInBounds_toArray, List.set_cons_zero, List.set_cons_succ]
              refine wpAnyL_done (by kernel_rfl) ?_ _
              have KF := k3.nxb (k4.nxb k5)
              have GN := GPH.out.two (x := x.id) (y := id) (fun h => hne2 h.symm) A KA la C KC lc KF R4
              have AN := AC.out.two (fun v g hg => ((GPH.out.row v).lt g hg).1) KA la KC lc KF
              have RR := Lib.hid (show CmRel x.id L (prsU N P j) bm wi.heap.size w4 w9 (.int .i64 ((i : Int) + 1)) wg from ⟨i + 1, m + 1 + 1, _, by omega, by go_num, by rw [LS.out, ← List.append_assoc, jOf_snoc, HJ.out]; exact GN, by rw [M2.out]; omega, AN⟩)
              clear GN AN KF A C KA KC la lc R4 k3 k4 k5 hHeld
              go_wp2_with fail
              exact ⟨RR.out, by simp [intOf]; omega⟩
          refine AllReadyL.cons (o := ⟨some 57, .buildSlice 22 1 #[(0, .tmp 56)], 22, "redundant.go:139", #[⟨16, .data⟩], none⟩) rfl (fun K hK => ?_) AllReadyL.nil
          · go_simp
            obtain ⟨g9, wq, hg9, hwq, SY, kk⟩ := litF hHeld.size x.id
            rw [← hg9, ← hwq]
            clear hg9 hwq
            (try replace SX := SX.nx kk)
            (first | replace hDrew := hDrew.nx kk | replace KE := KE.nx kk)
            replace hHeld := hold_ex hHeld zbp zgp kk
            clear kk
            refine hK.out _ _ (hHeld) (fun hHeld => ?_)
            clear hK K
            try simp only [Act.put, List.setIfInBounds_toArray, List.set_cons_zero, List.set_cons_succ]
            refine wpAnyL_ready (rs := [10]) (by kernel_rfl) (by simp) ?_
            refine AllReadyL.cons (o := ⟨some 50, .buildSlice 22 1 #[(0, .tmp 49)], 22, "redundant.go:139", #[⟨9, .data⟩], none⟩) rfl (fun K hK => ?_) AllReadyL.nil
            go_simp
            obtain ⟨g8, wq, hg8, hwq, SX, kk⟩ := litF hHeld.size id
            rw [← hg8, ← hwq]
            clear hg8 hwq
            (try replace SY := SY.nx kk)
            replace hDrew := hDrew.nx kk
            replace hHeld := hold_ex hHeld zbp zgp kk
            clear kk
            refine hK.out _ _ (hHeld) (fun hHeld => ?_)
            clear hK K
            try simp only [Act.put, List.setIfInBounds_toArray, List.set_cons_zero, List.set_cons_succ]
            refine wpAnyL_ready (rs := [11]) (by kernel_rfl) (by simp) ?_
            refine AllReadyL.cons (o := ⟨some 51, .call { callee := .builtin .append, args := #[.tmp 48, .tmp 50], argTypes := #[22, 22] }, 22, "redundant.go:139", #[⟨8, .data⟩, ⟨10, .data⟩], none⟩) rfl (fun K hK => ?_) AllReadyL.nil
            rw [if_pos (by rfl)]
            have rx := (GPH.out.row x.id).nx hDrew
            have zbase := Nat.le_trans GPH.out.2.2.1 hDrew.size
            refine wp_append_rda (enc := encI) _ (.tmp 48) (.tmp 50) 22 rfl w4.heap.size 3 (.int .i64 0) 1 8 Tryd.underlying22 Tryd.infoI6 rfl (by omega) (by omega) _ (J x.id) rx rfl _ _ 1 1 [id] SX (fun h => by cases h) (fun _ => rfl) (by simp [encI, Value.oneCell']) rfl (by omega) (by omega) zbase ?_
            intro va w1 A ch0 ch1 hva
            have KA : Chg (fun k => k < wp.heap.size ∧ ¬ (f2 x.id).ownBlock = some k) wp w1 := Chg.trans (Chg.mono hDrew (fun k hk => hk.1)) (Chg.mono ch0 (fun k hk => ⟨Nat.lt_of_lt_of_le hk.1 hDrew.size, hk.2⟩))
            have la := own_hist hva hDrew.size
            (try replace SY := SY.row2 (fun g hg => ((GPH.out.row x.id).lt g hg).2) ch0)
            have KE := Ex.refl w1
            replace hHeld := hold_row hHeld zbp zgp (NB.out x.id) ch0
            have zb1 := Nat.le_trans zbase ch0.size
            clear ch0 ch1 hva rx hDrew SX
            refine hK.out _ _ (hHeld) (fun hHeld => ?_)
            clear hK K
            try simp only [Act.put, List.setIfInBounds_toArray, List.set_cons_zero, List.set_cons_succ]
            refine wpAnyL_ready (rs := [18]) (by kernel_rfl) (by simp) ?_
            refine AllReadyL.cons (o := ⟨some 58, .call { callee := .builtin .append, args := #[.tmp 54, .tmp 57], argTypes := #[22, 22] }, 22, "redundant.go:139", #[⟨14, .data⟩, ⟨17, .data⟩, ⟨11, .chain⟩], none⟩) rfl (fun K hK => ?_) AllReadyL.nil
            rw [if_pos (by rfl)]
            have ry := ((GPH.out.row id).chg KA (fun g hg hv => ⟨hg, fun hx => GPH.out.2.2.2.2 id x.id g hne2 hv hx⟩)).nx KE
            have zb2 := Nat.le_trans zb1 KE.size
            refine wp_append_rda (enc := encI) _ (.tmp 54) (.tmp 57) 22 rfl w4.heap.size 3 (.int .i64 0) 1 8 Tryd.underlying22 Tryd.infoI6 rfl (by omega) (by omega) _ (J id) ry rfl _ _ 1 1 [x.id] SY (fun h => by cases h) (fun _ => rfl) (by simp [encI, Value.oneCell']) rfl (by omega) (by omega) zb2 ?_
            intro vc w2 C ch0 ch1 hvc
            have KC : Chg (fun k => k < w1.heap.size ∧ ¬ (f2 id).ownBlock = some k) w1 w2 := Chg.trans (Chg.mono KE (fun k hk => hk.1)) (Chg.mono ch0 (fun k hk => ⟨Nat.lt_of_lt_of_le hk.1 KE.size, hk.2⟩))
            have lc := own_hist hvc KE.size
            replace hHeld := hold_row hHeld zbp zgp (NB.out id) ch0
            clear ch0 ch1 hvc ry SY KE
            refine hK.out _ _ (hHeld) (fun hHeld => ?_)
            clear hK K
            try simp only [Act.put, List.setIfInBounds_toArray, List.set_cons_zero, List.set_cons_succ]
            refine wpAnyL_ready (rs := [19]) (by kernel_rfl) (by simp) ?_
            refine AllReadyL.consL (o := ⟨some 59, .mapEntry 80 (.tmp 40) (.tmp 42), 0, "redundant.go:139", #[⟨0, .data⟩, ⟨2, .data⟩, ⟨18, .chain⟩, { on := 0, ground := Ground.textOnly Departure.tupleMapEntryFirst }, { on := 1, ground := Ground.textOnly Departure.tupleMapEntryFirst }, { on := 2, ground := Ground.textOnly Departure.tupleMapEntryFirst }, { on := 3, ground := Ground.textOnly Departure.lateStores }, { on := 4, ground := Ground.textOnly Departure.lateStores }, { on := 5, ground := Ground.textOnly Departure.tupleMapEntryFirst }, { on := 6, ground := Ground.textOnly Departure.tupleMapEntryFirst }, { on := 7, ground := Ground.textOnly Departure.tupleMapEntryFirst }, { on := 8, ground := Ground.textOnly Departure.tupleMapEntryFirst }, { on := 9, ground := Ground.textOnly Departure.tupleMapEntryFirst }, { on := 10, ground := Ground.textOnly Departure.tupleMapEntryFirst }, ⟨11, .phase⟩, { on := 12, ground := Ground.textOnly Departure.lateStores }, { on := 13, ground := Ground.textOnly Departure.lateStores }, ⟨14, .phase⟩, { on := 15, ground := Ground.textOnly Departure.lateStores }, { on := 16, ground := Ground.textOnly Departure.lateStores }, { on := 17, ground := Ground.textOnly Departure.lateStoresUnsure }, ⟨18, .phase⟩], none⟩) rfl (by rfl) (fun K hK => ?_) AllReadyL.nil
            have R2 := RawM.same GPH.out.1 (hHeld.block bm (.inl rfl))
            obtain ⟨v0, st, we, hrun, k3, sz3, back⟩ := R2.entry (t := 80) Tryd.underlying3 Tryd.underlying80 (fun u => Tryd.zeroS u) (by omega) wx1.out
            go_simp
            clear hrun sz3 R2
            refine hK.out _ _ ?_
            clear hK K
            try simp only [Act.put, List.setIfInBounds_toArray, List.set_cons_zero, List.set_cons_succ]
            refine wpAnyL_takeP (i := 20) (oi := ⟨some 60, .extract (.tmp 59) 1, 3, "redundant.go:139", #[⟨19, .data⟩], none⟩) (v := ?_) rfl (by kernel_rfl) (by kernel_rfl) (by kernel_rfl) (fun _ _ _ h => h) (Or.inl ⟨by rfl, ?hyr1x20q277⟩) ?restr1x20q277
            case hyr1x20q277 => intro wq hSw; (go_simp); (try with_reducible rfl)
            try simp only [Act.put, List.setIfInBounds_toArray, List.set_cons_zero, List.set_cons_succ]
            refine wpAnyL_ready (rs := [21]) (by kernel_rfl) (by simp) ?_
            refine AllReadyL.consL (o := ⟨none, .entryStore 80 (.tmp 40) (.tmp 60) (.tmp 51), 0, "redundant.go:139", #[⟨0, .data⟩, ⟨20, .data⟩, ⟨11, .data⟩, ⟨19, .chain⟩, ⟨0, .phase⟩, ⟨1, .phase⟩, ⟨2, .phase⟩, { on := 3, ground := Ground.textOnly Departure.lateStores }, { on := 4, ground := Ground.textOnly Departure.lateStores }, ⟨5, .phase⟩, ⟨6, .phase⟩, ⟨7, .phase⟩, ⟨8, .phase⟩, ⟨9, .phase⟩, ⟨10, .phase⟩, ⟨11, .phase⟩, { on := 12, ground := Ground.textOnly Departure.lateStores }, { on := 13, ground := Ground.textOnly Departure.lateStores }, ⟨14, .phase⟩, { on := 15, ground := Ground.textOnly Departure.lateStores }, { on := 16, ground := Ground.textOnly Departure.lateStores }, { on := 17, ground := Ground.textOnly Departure.lateStoresUnsure }, ⟨18, .phase⟩, ⟨19, .phase⟩], none⟩) rfl (by rfl) (fun K hK => ?_) AllReadyL.nil
            obtain ⟨wf, hrun2, R3, k4, sz4⟩ := back we va rfl
            simp only [goInt] at hrun2
            go_simp
            clear hrun2 sz4 back
            refine hK.out _ _ ?_
            clear hK K
            try simp only [Act.put, List.setIfInBounds_toArray, List.set_cons_zero, List.set_cons_succ]
            refine wpAnyL_ready (rs := [22]) (by kernel_rfl) (by simp) ?_
            refine AllReadyL.consL (o := ⟨none, .mapUpdate 80 (.tmp 43) (.tmp 44) (.tmp 58), 0, "redundant.go:139", #[⟨3, .data⟩, ⟨4, .data⟩, ⟨18, .data⟩, ⟨21, .chain⟩, ⟨0, .phase⟩, ⟨1, .phase⟩, ⟨2, .phase⟩, ⟨3, .phase⟩, ⟨4, .phase⟩, ⟨5, .phase⟩, ⟨6, .phase⟩, ⟨7, .phase⟩, ⟨8, .phase⟩, ⟨9, .phase⟩, ⟨10, .phase⟩, ⟨11, .phase⟩, ⟨12, .phase⟩, ⟨13, .phase⟩, ⟨14, .phase⟩, ⟨15, .phase⟩, ⟨16, .phase⟩, ⟨17, .phase⟩, ⟨18, .phase⟩, ⟨19, .phase⟩, ⟨20, .phase⟩, ⟨21, .phase⟩], none⟩) rfl (by rfl) (fun K hK => ?_) AllReadyL.nil
            obtain ⟨wg, hrun3, R4, k5, sz5⟩ := R3.put (t := 80) Tryd.underlying3 Tryd.underlying80 (by omega) wx2.out vc
            go_simp
            clear hrun3 sz5 R3
            refine hK.out _ _ ?_
            clear hK K
            try simp only [Act.put, List.setIfInBounds_toArray, List.set_cons_zero, List.set_cons_succ]
            refine wpAnyL_done (by kernel_rfl) ?_ _
            have KF := k3.nxb (k4.nxb k5)
            have GN := GPH.out.two (x := x.id) (y := id) (fun h => hne2 h.symm) A KA la C KC lc KF R4
            have AN := AC.out.two (fun v g hg => ((GPH.out.row v).lt g hg).1) KA la KC lc KF
            have RR := Lib.hid (show CmRel x.id L (prsU N P j) bm wi.heap.size w4 w9 (.int .i64 ((i : Int) + 1)) wg from ⟨i + 1, m + 1 + 1, _, by omega, by go_num, by rw [LS.out, ← List.append_assoc, jOf_snoc, HJ.out]; exact GN, by rw [M2.out]; omega, AN⟩)
            clear GN AN KF A C KA KC la lc R4 k3 k4 k5 hHeld
            go_wp2_with fail
            exact ⟨RR.out, by simp [intOf]; omega⟩
        · obtain rfl : i = L.length := by omega
          rw [List.take_of_length_le (Nat.le_refl _), ← SN.out] at GP
          have RR := Lib.hid (show CnRel N P bm w4 (.int .i64 ((j : Int) + 1)) wp from ⟨j + 1, m, f2, by have := HL.out; omega, by go_num, GP, by rw [SN.out, List.length_append, List.length_map]; exact hm2, (ac.exb (KW.out.nxb (K9.out.b bm)) (Nat.le_refl _))⟩)
          clear GP ac
          go_wp2_with fail
          exact ⟨RR.out, by simp [intOf]; omega⟩
    · have hjN : j = N.length := by have := HL.out; omega
      have PE := prsU_len HC.out P N.length
      rw [hjN] at GP
      rw [prsU_all] at GP PE
      clear hjN
      have HJ : Hid (∀ u v, v ∈ jOf (pairsN N P) u ↔ EdgeN N P u v ∨ EdgeN N P v u) := Lib.hid (fun u v => joined_law HC.out)
      have JX : Hid (∀ u, (jOf (pairsN N P) u).length ≤ 10000) := Lib.hid (fun u => by
        have h1 := ((jOf_law _ (pairsN N P) rfl (fun q hq => pairs_ne HC.out hq)) u).1
        omega)
      generalize jOf (pairsN N P) = J at GP HJ JX
      have GW := Lib.hid GP
      have KW := Lib.hid kw
      clear GP kw PE
      have G6 := SetM.made wi Tryd.prog 3 4
      have kk := Ex.new wi (.map #[] 0)
      obtain ⟨w6, hw6⟩ : ∃ w6, w6 = wi.alloc (.map #[] 0) := ⟨_, rfl⟩
      obtain ⟨bs, hbs⟩ : ∃ bs, bs = wi.heap.size := ⟨_, rfl⟩
      have hsz6 : w6.heap.size = bs + 1 := by rw [hw6, hbs]; simp
      rw [← hbs, ← hw6] at G6
      rw [← hw6] at kk
      have Hw6 := Lib.hid hw6
      have Hbs := Lib.hid hbs
      have Hbs' := Lib.hid hbs
      have K6 := Lib.hid kk
      replace G6 := Lib.hid G6
      replace hsz6 := Lib.hid hsz6
      clear kk hw6 hbs
      have hmm := @run_makeMap Tryd.prog
      go_upto_region 16 with fail
      rw [← Hbs.out, ← Hw6.out]
      clear Hbs Hw6
      clear hmm hjm hjn
      go_upto_if 66 with fail
      go_cut [12] from 67 to 71 (fun q wk => CqRel N bs w6 q wk)
      case first =>
        by_cases hn0 : n = 0
        · have CUT : Hid (CqRel N bs w6 (.slice none 0 0) w6) := Lib.hid (by
            have : N = [] := List.eq_nil_of_length_eq_zero (by have := HL.out; omega)
            subst this
            exact ⟨.inl ⟨rfl, rfl⟩, Ex.refl _⟩)
          subst hn0
          go_wp2_with fail
          go_meet
          exact CUT.out
        · have hn1 : 0 < n := by omega
          obtain ⟨x3, o3, x, rfl, hx3, hy, hc3⟩ := ((HS.out.nxb KW.out).nxb (K6.out.b bm)).sl.at hn1
          have e0 : w6.cell? ⟨x3, o3, none⟩ = some (.int .i64 x.id) := by simpa using hc3 0 _ rfl
          have HX := Lib.hid (startN_at hy)
          obtain ⟨g7, hg7⟩ : ∃ g7, g7 = w6.heap.size := ⟨_, rfl⟩
          obtain ⟨w7, hw7⟩ : ∃ w7, w7 = w6.alloc (.cells #[.int .i64 x.id] 3) := ⟨_, rfl⟩
          have CUT : Hid (CqRel N bs w6 (.slice (some ⟨g7, 0, none⟩) 1 1) w7) := Lib.hid (by
            unfold CqRel
            rw [HX.out, hg7, hw7]
            exact ⟨QuL.ofL (OwnL.lit [x.id] (fun _ => rfl) (by have := hsz6.out; omega) (by simp [maxLen]) rfl), Ex.new _ _⟩)
          have Hg7 := Lib.hid hg7
          have Hw7 := Lib.hid hw7
          clear hc3 hy hg7 hw7
          go_upto_region 19 with fail
          rw [← Hg7.out, ← Hw7.out]
          clear Hg7 Hw7
          go_wp2_with fail
          go_meet
          exact CUT.out
      case rest =>
        rename World => wk
        obtain ⟨Q1, k7⟩ := hcut
        have C0 : Hid (CbRel N P J bs wi (todoN N J [] (startN N)) u12 wk) := Lib.hid ⟨[], startN N, startN_bfs N P J, G6.out.nx k7, Q1, K6.out.nx k7, rfl, by have h1 := todo_le (N := N) (by have := HL.out; omega) JX.out [] (startN N); have h2 := startN_len N; omega⟩
        clear Q1 k7
        have hwb6 : wi.heap.size = bs := Hbs'.out.symm
        go_upto_region 19 with fail
        go_loopg [12] (todoN N J [] (startN N)) (fun k o wr => CbRel N P J bs wi k o wr)
        case atStart => exact C0.out
        case round =>
          clear C0
          obtain ⟨M, T, BF, SM, QT, kx, rfl, hk7⟩ := hrel
          obtain ⟨wp, rfl⟩ : ∃ wp : World, wp = wr := ⟨_, rfl⟩
          have HK7 := Lib.hid hk7
          have BL := Lib.hid (Nat.le_trans (bfs_len HC.out BF) (show N.length ≤ 64 by have := HL.out; omega))
          have BFH := Lib.hid BF
          have SMH := Lib.hid SM
          have KX := Lib.hid kx
          clear hk7 SM kx
          cases T with
          | nil =>
            obtain ⟨aq, cq, rfl⟩ := QT.no
            have RES : Hid (decide ((M.length : Int) = n) = connB N P) := Lib.hid (by rw [← HL.out]; exact conn_bool HC.out HJ.out BFH.out)
            have hlen := fun ty => SMH.out.len (t := 83) Tryd.underlying83 BFH.out.1 ty
            have KE := Lib.hid ((Exl.nxb (⟨EX1.out, hwb⟩ : Exl bm w w4) KW.out).nx KX.out).1
            clear BF QT
            go_wp2_with fail
            go_ret
            exact ⟨by rw [← RES.out]; rfl, KE.out⟩
          | cons v T =>
            obtain ⟨g, o, cap, rfl, hg, hbg, hc1, hcl, e0, Q2⟩ := QT.front
            obtain ⟨x, hx, hxv⟩ := bfs_node HC.out BFH.out (.inr (List.mem_cons_self ..))
            have hvI := Lib.hid (hxv ▸ HI.out x hx)
            have wv := Lib.hid (wf_of hvI.out)
            have TL := Lib.hid (Nat.le_trans (todo_len N J M (v :: T)) HK7.out)
            have lk := fun hz => SMH.out.get (t := 83) Tryd.underlying3 Tryd.underlying4 Tryd.underlying83 hz wv.out
            replace lk := lk (Tryd.zeroB _)
            clear QT BF
            by_cases hcap : cap = 1
            · subst hcap
              obtain rfl : T = [] := List.eq_nil_of_length_eq_zero (by omega)
              replace Q2 : QuL 3 (bs + 1) wp (.slice (some ⟨g, o, none⟩) 0 0) [] := by rw [if_pos rfl] at Q2; exact Q2
              by_cases hv : v ∈ M
              · have d1 : M.contains v = true := by simpa using hv
                have RR := Lib.hid (show CbRel N P J bs wi (todoN N J M []) (.slice (some ⟨g, o, none⟩) 0 0) wp from ⟨M, [], bfs_old BFH.out hv, SMH.out, Q2, KX.out, rfl, by have := HK7.out; have := todo_old N J M [] v; omega⟩)
                clear Q2
                go_wp2_with fail
                go_roundg (todoN N J M [])
                case measure => have := todo_old N J M [] v; omega
                case rel => exact RR.out
              · have d1 : M.contains v = false := by simpa using hv
                obtain ⟨wq, hput, SM2, kb, hzq⟩ := SMH.out.put (t := 83) Tryd.underlying3 Tryd.underlying4 Tryd.underlying83 (by have := BL.out; omega) wv.out
                have kx2 := Lib.hid ((Exl.nxb (⟨KX.out, by omega⟩ : Exl bs wi wp) kb).1)
                have GQ := GW.out.nx kx2.out
                have lk2 := GQ.1.get (t := 80) Tryd.underlying3 Tryd.underlying80 (Tryd.zeroS _) wv.out
                obtain ⟨ar, cr, er, rr, hr0⟩ := (GQ.row v).rdz (fun _ => rfl)
                rw [er] at lk2
                have hq6 : bs + 1 ≤ wq.heap.size := by have := SM2.lt; omega
                obtain ⟨v9, w9, hap, Q3, c1, c2, _⟩ := (Q2.nxb (by omega) kb).append (P := Tryd.prog) 22 22 (z := .int .i64 0) (bytes := 8) Tryd.underlying22 Tryd.infoI6 rfl (by omega) rr hr0 (by have := TL.out; simp at this; omega) (by have := JX.out v; omega) hq6
                have TN : Hid (todoN N J (M ++ [v]) ([] ++ J v) + 1 = todoN N J M (v :: [])) := Lib.hid (by subst hxv; exact todo_new HC.out hx hv)
                have RR := Lib.hid (show CbRel N P J bs wi (todoN N J (M ++ [v]) ([] ++ J v)) v9 w9 from ⟨M ++ [v], [] ++ J v, bfs_new (fun u v => (HJ.out u v).1) BFH.out hv, SM2.same (c2.block bs (Nat.lt_succ_self _)), Q3, Chg.trans kx2.out (Chg.mono c2 fun k hk => by show k < bs + 1; omega), rfl, by have := HK7.out; have := TN.out; omega⟩)
                clear Q2 GQ er rr hr0 Q3 c1 c2 hx hxv SM2 kb
                go_wp2_with (at_builtin; go_loud (refine wpList_append_hap rfl _ _ 22 rfl hap rfl rfl ?_))
                go_roundg (todoN N J (M ++ [v]) ([] ++ J v))
                case measure => have := TN.out; omega
                case rel => exact RR.out
            · rw [if_neg hcap] at Q2
              by_cases hv : v ∈ M
              · have d1 : M.contains v = true := by simpa using hv
                have RR := Lib.hid (show CbRel N P J bs wi (todoN N J M T) (.slice (some ⟨g, o + 1, none⟩) T.length (cap - 1)) wp from ⟨M, T, bfs_old BFH.out hv, SMH.out, Q2, KX.out, rfl, by have := HK7.out; have := todo_old N J M T v; omega⟩)
                clear Q2
                go_wp2_with fail
                go_roundg (todoN N J M T)
                case measure => have := todo_old N J M T v; omega
                case rel => exact RR.out
              · have d1 : M.contains v = false := by simpa using hv
                obtain ⟨wq, hput, SM2, kb, hzq⟩ := SMH.out.put (t := 83) Tryd.underlying3 Tryd.underlying4 Tryd.underlying83 (by have := BL.out; omega) wv.out
                have kx2 := Lib.hid ((Exl.nxb (⟨KX.out, by omega⟩ : Exl bs wi wp) kb).1)
                have GQ := GW.out.nx kx2.out
                have lk2 := GQ.1.get (t := 80) Tryd.underlying3 Tryd.underlying80 (Tryd.zeroS _) wv.out
                obtain ⟨ar, cr, er, rr, hr0⟩ := (GQ.row v).rdz (fun _ => rfl)
                rw [er] at lk2
                have hq6 : bs + 1 ≤ wq.heap.size := by have := SM2.lt; omega
                obtain ⟨v9, w9, hap, Q3, c1, c2, _⟩ := (Q2.nxb (by omega) kb).append (P := Tryd.prog) 22 22 (z := .int .i64 0) (bytes := 8) Tryd.underlying22 Tryd.infoI6 rfl (by omega) rr hr0 (by have := TL.out; simp at this; omega) (by have := JX.out v; omega) hq6
                have TN : Hid (todoN N J (M ++ [v]) (T ++ J v) + 1 = todoN N J M (v :: T)) := Lib.hid (by subst hxv; exact todo_new HC.out hx hv)
                have RR := Lib.hid (show CbRel N P J bs wi (todoN N J (M ++ [v]) (T ++ J v)) v9 w9 from ⟨M ++ [v], T ++ J v, bfs_new (fun u v => (HJ.out u v).1) BFH.out hv, SM2.same (c2.block bs (Nat.lt_succ_self _)), Q3, Chg.trans kx2.out (Chg.mono c2 fun k hk => by show k < bs + 1; omega), rfl, by have := HK7.out; have := TN.out; omega⟩)
                clear Q2 GQ er rr hr0 Q3 c1 c2 hx hxv SM2 kb
                go_wp2_with (at_builtin; go_loud (refine wpList_append_hap rfl _ _ 22 rfl hap rfl rfl ?_))
                go_roundg (todoN N J (M ++ [v]) (T ++ J v))
                case measure => have := TN.out; omega
                case rel => exact RR.out
end Go.Proofs.YtbnbjiddffihoaaDoor

/- Groups of numbers: one row grows. -/
namespace Go.Proofs.YtbnbjiddffihoaaDoor
open Go.RowKit

def grp1 (J : Int → List Int) (x y : Int) : Int → List Int := fun v => if v = x then J x ++ [y] else J v
section
variable {P : Program} {k e : TypeId} {base : Nat} {w w' : World} {b n : Nat} {f : Int → Value} {J : Int → List Int}
theorem GrpM.one (h : GrpM P k e base w b n f J) {x y : Int} {w1 w3 : World} {a' : Value} {n' : Nat}
    (A : OwnL 1 encI e base w1 a' (J x ++ [y])) (k1 : Chg (fun k => k < w.heap.size ∧ ¬ (f x).ownBlock = some k) w w1) (la : ∀ g, a'.ownBlock = some g → (f x).ownBlock = some g ∨ w.heap.size ≤ g)
    (k3 : Exb b w1 w3) (R : RawM P k w3 b n' (upd f x a')) : GrpM P k e base w3 b n' (upd f x a') (grp1 J x y) := by
  obtain ⟨h1, hb, hs, hO, hd⟩ := h
  have s1 := k1.size
  have s3 := k3.size
  refine ⟨R, hb, by omega, fun v => ?_, fun v v' g hne hv hv' => ?_⟩
  · unfold upd grp1
    by_cases hvx : v = x
    · rw [if_pos hvx, if_pos hvx]
      exact A.nxb hb k3
    · rw [if_neg hvx, if_neg hvx]
      have O1 : OwnL 1 encI e base w1 (f v) (J v) := (hO v).chg k1 fun g hg hv => ⟨hg, hd v x g hvx hv⟩
      exact O1.nxb hb k3
  · unfold upd at hv hv'
    have ov : ∀ u g, u ≠ x → (f u).ownBlock = some g → ¬ a'.ownBlock = some g := by
      intro u g hux hu ha
      rcases la g ha with h2 | h2
      · exact hd u x g hux hu h2
      · have := ((hO u).lt g hu).2; omega
    by_cases hvx : v = x
    · rw [if_pos hvx] at hv
      rw [if_neg (by omega)] at hv'
      exact ov v' g (by omega) hv' hv
    · rw [if_neg hvx] at hv
      by_cases hvx' : v' = x
      · rw [if_pos hvx'] at hv'; exact ov v g hvx hv hv'
      · rw [if_neg hvx'] at hv'; exact hd v v' g hne hv hv'
end
end Go.Proofs.YtbnbjiddffihoaaDoor
