/- The walk over the statement WordEquivalence, some ways. -/
import Derived.Test.YtenobfplmifomaaDoorWordEqH
namespace Go.Proofs.YtenobfplmifomaaDoor
open Go.RowKit

set_option maxRecDepth 100000 in
set_option maxHeartbeats 8000000 in
theorem wordeq_0000 (a b c : Nat) (level h : Int) (x y z : Nat) (w : World) (ha : a < 4294967296) (hb : b < 4294967296) (hc : c < 4294967296) (HT : Hid (TabG w))
    (Hm : Hid (level % 17 = h)) (Haa : Hid (sameN a a h = true)) (Cab : Hid (commonN a b = x)) (Cba : Hid (commonN b a = x)) (Cbc : Hid (commonN b c = y)) (Cac : Hid (commonN a c = z)) (_h1 : -1 ≤ h) (_h2 : h ≤ 16)
    (Hab : Hid (sameN a b h = false)) (Hba : Hid (sameN b a h = false)) (d0 : (h == 0) = false) (m1 : (x : Int) ≤ (y : Int)) (m2 : (x : Int) ≤ (z : Int)) :
    Calls Tryd.prog 5 #[.int .u32 a, .int .u32 b, .int .u32 c, .int .i64 level] w fun e w' => e = .returned (.bool true) ∧ Chg (· < w.heap.size) w w' := by
  go_enter Tryd.func5, Tryd.ntmps5
  go_wp2_with fail
  refine (mod_any level 17 _ (by omega) (by omega)).mono ?_
  rintro e w1 ⟨rfl, rfl⟩
  rw [Hm.out]
  go_wp2_with fail
  refine (same_p2 Haa _ ha ha HT.out).mono ?_
  rintro e w1 ⟨rfl, rfl⟩
  go_wp2_with fail
  refine (same_p2 Hab _ ha hb HT.out).mono ?_
  rintro e w1 ⟨rfl, rfl⟩
  go_wp2_with fail
  refine (same_p2 Hba _ hb ha HT.out).mono ?_
  rintro e w1 ⟨rfl, rfl⟩
  go_wp2_with fail
  refine (same_p2 Hab _ ha hb HT.out).mono ?_
  rintro e w1 ⟨rfl, rfl⟩
  go_wp2_with fail
  refine (same_p2 Hab _ ha hb HT.out).mono ?_
  rintro e w1 ⟨rfl, rfl⟩
  go_wp2_with fail
  refine (common_p2 Cab _ ha hb HT.out).mono ?_
  rintro e w1 ⟨rfl, rfl⟩
  go_wp2_with fail
  refine (common_p2 Cba _ hb ha HT.out).mono ?_
  rintro e w1 ⟨rfl, rfl⟩
  go_wp2_with fail
  refine (common_p2 Cac _ ha hc HT.out).mono ?_
  rintro e w1 ⟨rfl, rfl⟩
  go_wp2_with fail
  refine (common_p2 Cab _ ha hb HT.out).mono ?_
  rintro e w1 ⟨rfl, rfl⟩
  go_wp2_with fail
  refine (common_p2 Cbc _ hb hc HT.out).mono ?_
  rintro e w1 ⟨rfl, rfl⟩
  go_wp2_with fail
  refine (sanew_x _ HT.out).mono ?_
  rintro e w9 ⟨rfl, k9⟩
  go_wp2_with fail
  go_ret
  exact ⟨rfl, k9⟩
set_option maxRecDepth 100000 in
set_option maxHeartbeats 8000000 in
theorem wordeq_0001 (a b c : Nat) (level h : Int) (x y z : Nat) (w : World) (ha : a < 4294967296) (hb : b < 4294967296) (hc : c < 4294967296) (HT : Hid (TabG w))
    (Hm : Hid (level % 17 = h)) (Haa : Hid (sameN a a h = true)) (Cab : Hid (commonN a b = x)) (Cba : Hid (commonN b a = x)) (Cbc : Hid (commonN b c = y)) (Cac : Hid (commonN a c = z)) (_h1 : -1 ≤ h) (_h2 : h ≤ 16)
    (Hab : Hid (sameN a b h = false)) (Hba : Hid (sameN b a h = false)) (d0 : (h == 0) = false) (m1 : (y : Int) < (x : Int)) (m2 : (y : Int) ≤ (z : Int)) :
    Calls Tryd.prog 5 #[.int .u32 a, .int .u32 b, .int .u32 c, .int .i64 level] w fun e w' => e = .returned (.bool true) ∧ Chg (· < w.heap.size) w w' := by
  go_enter Tryd.func5, Tryd.ntmps5
  go_wp2_with fail
  refine (mod_any level 17 _ (by omega) (by omega)).mono ?_
  rintro e w1 ⟨rfl, rfl⟩
  rw [Hm.out]
  go_wp2_with fail
  refine (same_p2 Haa _ ha ha HT.out).mono ?_
  rintro e w1 ⟨rfl, rfl⟩
  go_wp2_with fail
  refine (same_p2 Hab _ ha hb HT.out).mono ?_
  rintro e w1 ⟨rfl, rfl⟩
  go_wp2_with fail
  refine (same_p2 Hba _ hb ha HT.out).mono ?_
  rintro e w1 ⟨rfl, rfl⟩
  go_wp2_with fail
  refine (same_p2 Hab _ ha hb HT.out).mono ?_
  rintro e w1 ⟨rfl, rfl⟩
  go_wp2_with fail
  refine (same_p2 Hab _ ha hb HT.out).mono ?_
  rintro e w1 ⟨rfl, rfl⟩
  go_wp2_with fail
  refine (common_p2 Cab _ ha hb HT.out).mono ?_
  rintro e w1 ⟨rfl, rfl⟩
  go_wp2_with fail
  refine (common_p2 Cba _ hb ha HT.out).mono ?_
  rintro e w1 ⟨rfl, rfl⟩
  go_wp2_with fail
  refine (common_p2 Cac _ ha hc HT.out).mono ?_
  rintro e w1 ⟨rfl, rfl⟩
  go_wp2_with fail
  refine (common_p2 Cab _ ha hb HT.out).mono ?_
  rintro e w1 ⟨rfl, rfl⟩
  go_wp2_with fail
  refine (common_p2 Cbc _ hb hc HT.out).mono ?_
  rintro e w1 ⟨rfl, rfl⟩
  go_wp2_with fail
  refine (sanew_x _ HT.out).mono ?_
  rintro e w9 ⟨rfl, k9⟩
  go_wp2_with fail
  go_ret
  exact ⟨rfl, k9⟩
set_option maxRecDepth 100000 in
set_option maxHeartbeats 8000000 in
theorem wordeq_0010 (a b c : Nat) (level h : Int) (x y z : Nat) (w : World) (ha : a < 4294967296) (hb : b < 4294967296) (hc : c < 4294967296) (HT : Hid (TabG w))
    (Hm : Hid (level % 17 = h)) (Haa : Hid (sameN a a h = true)) (Cab : Hid (commonN a b = x)) (Cba : Hid (commonN b a = x)) (Cbc : Hid (commonN b c = y)) (Cac : Hid (commonN a c = z)) (_h1 : -1 ≤ h) (_h2 : h ≤ 16)
    (Hab : Hid (sameN a b h = false)) (Hba : Hid (sameN b a h = false)) (d0 : (h == 0) = true) (m1 : (x : Int) ≤ (y : Int)) (m2 : (x : Int) ≤ (z : Int)) :
    Calls Tryd.prog 5 #[.int .u32 a, .int .u32 b, .int .u32 c, .int .i64 level] w fun e w' => e = .returned (.bool true) ∧ Chg (· < w.heap.size) w w' := by
  go_enter Tryd.func5, Tryd.ntmps5
  go_wp2_with fail
  refine (mod_any level 17 _ (by omega) (by omega)).mono ?_
  rintro e w1 ⟨rfl, rfl⟩
  rw [Hm.out]
  go_wp2_with fail
  refine (same_p2 Haa _ ha ha HT.out).mono ?_
  rintro e w1 ⟨rfl, rfl⟩
  go_wp2_with fail
  refine (same_p2 Hab _ ha hb HT.out).mono ?_
  rintro e w1 ⟨rfl, rfl⟩
  go_wp2_with fail
  refine (same_p2 Hba _ hb ha HT.out).mono ?_
  rintro e w1 ⟨rfl, rfl⟩
  go_wp2_with fail
  refine (same_p2 Hab _ ha hb HT.out).mono ?_
  rintro e w1 ⟨rfl, rfl⟩
  go_wp2_with fail
  refine (common_p2 Cab _ ha hb HT.out).mono ?_
  rintro e w1 ⟨rfl, rfl⟩
  go_wp2_with fail
  refine (common_p2 Cba _ hb ha HT.out).mono ?_
  rintro e w1 ⟨rfl, rfl⟩
  go_wp2_with fail
  refine (common_p2 Cac _ ha hc HT.out).mono ?_
  rintro e w1 ⟨rfl, rfl⟩
  go_wp2_with fail
  refine (common_p2 Cab _ ha hb HT.out).mono ?_
  rintro e w1 ⟨rfl, rfl⟩
  go_wp2_with fail
  refine (common_p2 Cbc _ hb hc HT.out).mono ?_
  rintro e w1 ⟨rfl, rfl⟩
  go_wp2_with fail
  refine (sanew_x _ HT.out).mono ?_
  rintro e w9 ⟨rfl, k9⟩
  go_wp2_with fail
  go_ret
  exact ⟨rfl, k9⟩
set_option maxRecDepth 100000 in
set_option maxHeartbeats 8000000 in
theorem wordeq_0011 (a b c : Nat) (level h : Int) (x y z : Nat) (w : World) (ha : a < 4294967296) (hb : b < 4294967296) (hc : c < 4294967296) (HT : Hid (TabG w))
    (Hm : Hid (level % 17 = h)) (Haa : Hid (sameN a a h = true)) (Cab : Hid (commonN a b = x)) (Cba : Hid (commonN b a = x)) (Cbc : Hid (commonN b c = y)) (Cac : Hid (commonN a c = z)) (_h1 : -1 ≤ h) (_h2 : h ≤ 16)
    (Hab : Hid (sameN a b h = false)) (Hba : Hid (sameN b a h = false)) (d0 : (h == 0) = true) (m1 : (y : Int) < (x : Int)) (m2 : (y : Int) ≤ (z : Int)) :
    Calls Tryd.prog 5 #[.int .u32 a, .int .u32 b, .int .u32 c, .int .i64 level] w fun e w' => e = .returned (.bool true) ∧ Chg (· < w.heap.size) w w' := by
  go_enter Tryd.func5, Tryd.ntmps5
  go_wp2_with fail
  refine (mod_any level 17 _ (by omega) (by omega)).mono ?_
  rintro e w1 ⟨rfl, rfl⟩
  rw [Hm.out]
  go_wp2_with fail
  refine (same_p2 Haa _ ha ha HT.out).mono ?_
  rintro e w1 ⟨rfl, rfl⟩
  go_wp2_with fail
  refine (same_p2 Hab _ ha hb HT.out).mono ?_
  rintro e w1 ⟨rfl, rfl⟩
  go_wp2_with fail
  refine (same_p2 Hba _ hb ha HT.out).mono ?_
  rintro e w1 ⟨rfl, rfl⟩
  go_wp2_with fail
  refine (same_p2 Hab _ ha hb HT.out).mono ?_
  rintro e w1 ⟨rfl, rfl⟩
  go_wp2_with fail
  refine (common_p2 Cab _ ha hb HT.out).mono ?_
  rintro e w1 ⟨rfl, rfl⟩
  go_wp2_with fail
  refine (common_p2 Cba _ hb ha HT.out).mono ?_
  rintro e w1 ⟨rfl, rfl⟩
  go_wp2_with fail
  refine (common_p2 Cac _ ha hc HT.out).mono ?_
  rintro e w1 ⟨rfl, rfl⟩
  go_wp2_with fail
  refine (common_p2 Cab _ ha hb HT.out).mono ?_
  rintro e w1 ⟨rfl, rfl⟩
  go_wp2_with fail
  refine (common_p2 Cbc _ hb hc HT.out).mono ?_
  rintro e w1 ⟨rfl, rfl⟩
  go_wp2_with fail
  refine (sanew_x _ HT.out).mono ?_
  rintro e w9 ⟨rfl, k9⟩
  go_wp2_with fail
  go_ret
  exact ⟨rfl, k9⟩
end Go.Proofs.YtenobfplmifomaaDoor
