/- The sanity check of the statements on words. -/
import Derived.Test.YtenobfplmifomaaDoorNode
import Derived.Test.YtenobfplmifomaaDoorDraw
namespace Go.Proofs.YtenobfplmifomaaDoor
open Go.RowKit

set_option maxHeartbeats 2000000 in
theorem sanew_x (w : World) (hT : TabG w) : Calls Tryd.prog 19 #[] w fun e w' => e = .returned (.bool true) ∧ Chg (· < w.heap.size) w w' := by
  have h1 : Hid (commonN 5 1 = 2) := (by decide +kernel : commonN 5 1 = 2)
  have h2 : Hid (sameN 5 1 3 = false) := (by decide +kernel : sameN 5 1 3 = false)
  have h3 : Hid (sameN 5 1 (-1) = true) := (by decide +kernel : sameN 5 1 (-1) = true)
  have h4 : Hid (bitN 5 2 = 1) := (by decide +kernel : bitN 5 2 = 1)
  have h5 : Hid (validN 65535 = true) := (by decide +kernel : validN 65535 = true)
  have HT := Lib.hid hT
  have hlt := hT.lt
  clear hT
  go_enter Tryd.func19, Tryd.ntmps19
  go_wp2_with fail
  refine (common_p 5 1 _ (by omega) (by omega) HT.out).mono ?_
  rintro e w1 ⟨rfl, rfl⟩
  rw [h1.out]
  go_wp2_with fail
  refine (same_p 5 1 3 _ (by omega) (by omega) HT.out).mono ?_
  rintro e w1 ⟨rfl, rfl⟩
  rw [h2.out]
  go_wp2_with fail
  refine (same_p 5 1 (-1) _ (by omega) (by omega) HT.out).mono ?_
  rintro e w1 ⟨rfl, rfl⟩
  rw [h3.out]
  go_wp2_with fail
  refine (bit_p 5 2 _ (by omega) (by omega) (by omega)).mono ?_
  rintro e w1 ⟨rfl, rfl⟩
  rw [h4.out]
  go_wp2_with fail
  refine (wvalid_p 65535 _).mono ?_
  rintro e w1 ⟨rfl, rfl⟩
  rw [h5.out]
  go_wp2_with fail
  refine (draw_p 0 0 _ (by omega) (by omega) (by omega) (by omega)).mono ?_
  rintro e w1 ⟨rfl, rfl⟩
  go_wp2_with fail
  refine (draw_r 0 0 _ (by omega) (by omega) (by omega) (by omega)).mono ?_
  rintro e w1 ⟨rfl, rfl⟩
  go_wp2_with fail
  refine (group_p (S := (· = w.heap.size)) _ 2 2 [⟨0, ByteArray.empty, 1⟩, ⟨0, ByteArray.empty, 2⟩] 1 3 _ (Rd.lit _ rfl rfl rfl (fun _ => rfl) rfl) (by simp) (by omega) (by simp) (by omega) (HT.out.chg ((Chg.refl (· < w.heap.size) w).alloc _ (by simp)) hlt)).mono ?_
  rintro e w1 ⟨a, n, cap, rfl, hrd, hc⟩
  have hn : n = 1 := by have := hrd.1; rw [groupN_sane] at this; simpa using this.symm
  subst hn
  go_wp2_with fail
  go_ret
  exact ⟨rfl, ((Chg.refl (· < w.heap.size) w).alloc _ (by simp)).then hc (by intro k hk; simp; omega)⟩
end Go.Proofs.YtenobfplmifomaaDoor
