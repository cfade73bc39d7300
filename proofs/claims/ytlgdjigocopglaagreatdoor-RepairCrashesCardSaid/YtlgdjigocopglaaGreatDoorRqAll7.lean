/- Shared texts. -/
import Derived.Test.YtlgdjigocopglaaGreatDoorTie
import Derived.Test.YtlgdjigocopglaaGreatDoorCards
import Derived.Lib.LaidTab
import Derived.Lib.LaidU8
import Derived.LaidMore
import Derived.Stop.Joined
import Derived.SevenTiedAt
import Derived.Test.YtlgdjigocopglaaGreatDoorRqAll2
set_option linter.unusedSimpArgs false
set_option linter.unusedVariables false

namespace Go.Proofs.YtlgdjigocopglaaGreatDoor
open Go.RowKit
def TabG (w : World) : Prop := ∀ j, j < 32 → w.cell? ⟨1, j, none⟩ = some (.int .u8 (Lib.deBruijn32tab.getD j 0))
theorem TabG.lt {w : World} (h : TabG w) : 1 < w.heap.size := World.block_lt_of_cell? w _ (h 0 (by omega))
theorem TabG.chg {w w' : World} (h : TabG w) {S : Nat → Prop} (k : Chg S w w') (hs : S 1) : TabG w' := fun j hj => k.cellv (h j hj) hs
set_option maxHeartbeats 1000000 in
theorem tz32_core (x k idx : Nat) (w : World) (hx0 : ((x : Int) == 0) = false)
  (key : bits BinOp.and IntKind.u32 (x : Int) (-(x : Int) % 4294967296) * 125613361 % 4294967296 / 134217728 = (idx : Int))
  (hi : idx < 32) (hcell : w.cell? ⟨1, idx, none⟩ = some (.int .u8 k)) (_hk : k < 32) :
  Calls Tryz.prog 161 #[.int .u32 x] w fun e w' => e = .returned (.int .i64 k) ∧ w = w' := by
 go_enter Tryz.func161, Tryz.ntmps161
 go_wp2_with (simp only [key])
 go_ret
 exact ⟨rfl, rfl⟩
theorem tz32_zero (w : World) : Calls Tryz.prog 161 #[.int .u32 0] w fun e w' => e = .returned (.int .i64 32) ∧ w = w' := by
 go_enter Tryz.func161, Tryz.ntmps161
 go_wp2
 go_ret
 exact ⟨rfl, rfl⟩
theorem tz32 (x : Nat) (hx : x < 4294967296) (w : World) (hT : TabG w) :
  Calls Tryz.prog 161 #[.int .u32 x] w fun e w' => e = .returned (.int .i64 (Lib.ctz 32 x)) ∧ w = w' := by
 by_cases hx0 : x = 0
 ·subst hx0
  exact tz32_zero w
 ·obtain ⟨hlow, hk⟩ := Lib.lowest_bit 32 x hx0 hx
  obtain ⟨hi, htab⟩ := Lib.deBruijn32_at _ hk
  have hcell := hT _ hi
  rw [htab] at hcell
  exact tz32_core x _ _ w (by simp; omega) (tz32_keyn x _ hx hx0 hlow) hi hcell hk
set_option maxHeartbeats 1000000 in
theorem common_p (a b : Nat) (w : World) (ha : a < 4294967296) (hb : b < 4294967296) (hT : TabG w) :
  Calls Tryz.prog 153 #[.int .u32 a, .int .u32 b] w fun e w' => e = .returned (.int .i64 (commonN a b)) ∧ w = w' := by
 have hx := bits_xor_u32n a b ha hb
 have HT := lH hT
 clear hT
 by_cases h16 : Lib.ctz 32 (a ^^^ b) ≤ 16
 ·have HC : Hid (commonN a b = Lib.ctz 32 (a ^^^ b)) := Nat.min_eq_left h16
  generalize hk : Lib.ctz 32 (a ^^^ b) = k at *
  have HK := lH hk
  clear hk
  go_enter Tryz.func153, Tryz.ntmps153
  go_wp2_with fail
  refine (tz32 _ (xor_lt ha hb) _ HT.out).mono ?_
  rintro e w1 ⟨rfl, rfl⟩
  rw [HK.out]
  go_wp2_with fail
  go_ret
  exact ⟨by rw [HC.out]; first | rfl | exact congrArg (fun z => Ending.returned (Value.int .i64 z)) (by omega : min (k : Int) 16 = (k : Int)), rfl⟩
 ·have HC : Hid (commonN a b = 16) := Nat.min_eq_right (by omega)
  generalize hk : Lib.ctz 32 (a ^^^ b) = k at *
  have HK := lH hk
  clear hk
  go_enter Tryz.func153, Tryz.ntmps153
  go_wp2_with fail
  refine (tz32 _ (xor_lt ha hb) _ HT.out).mono ?_
  rintro e w1 ⟨rfl, rfl⟩
  rw [HK.out]
  go_wp2_with fail
  go_ret
  exact ⟨by rw [HC.out]; first | rfl | exact congrArg (fun z => Ending.returned (Value.int .i64 z)) (by omega : min (k : Int) 16 = ((16 : Nat) : Int)), rfl⟩
set_option maxHeartbeats 1000000 in
theorem bit_p (a : Nat) (i : Int) (w : World) (ha : a < 4294967296) (hi1 : -9223372036854775808 ≤ i) (hi2 : i ≤ 9223372036854775807) :
  Calls Tryz.prog 81 #[.int .u32 a, .int .i64 i] w fun e w' => e = .returned (.int .i64 (bitN a i)) ∧ w = w' := by
 by_cases hi : i < 0 ∨ 16 ≤ i
 ·have hz := lH (bit_zero a i hi)
  rcases Int.lt_or_le i 0 with h | h
  ·have d1 : decide (i < 0) = true := by simpa using h
   clear hi
   go_enter Tryz.func81, Tryz.ntmps81
   go_wp2
   go_ret
   exact ⟨by rw [hz.out]; rfl, rfl⟩
  ·have d1 : decide (i < 0) = false := by simpa using h
   have d2 : decide (16 ≤ i) = true := by simp; omega
   clear hi
   go_enter Tryz.func81, Tryz.ntmps81
   go_wp2
   go_ret
   exact ⟨by rw [hz.out]; rfl, rfl⟩
 ·have hk := lH (bit_key a i ha (by omega) (by omega))
  have d1 : decide (i < 0) = false := by simp; omega
  have d2 : decide (16 ≤ i) = false := by simp; omega
  have e1 : 0 ≤ i := by omega
  have e2 : i < 16 := by omega
  clear hi
  go_enter Tryz.func81, Tryz.ntmps81
  go_wp2
  go_ret
  exact ⟨by rw [← hk.out]; rfl, rfl⟩
set_option maxHeartbeats 1000000 in
theorem same_p (a b : Nat) (h : Int) (w : World) (ha : a < 4294967296) (hb : b < 4294967296) (hT : TabG w) :
  Calls Tryz.prog 133 #[.int .u32 a, .int .u32 b, .int .i64 h] w fun e w' => e = .returned (.bool (sameN a b h)) ∧ w = w' := by
 have HT := lH hT
 clear hT
 go_enter Tryz.func133, Tryz.ntmps133
 go_wp2_with fail
 refine (common_p _ _ _ ha hb HT.out).mono ?_
 rintro e w1 ⟨rfl, rfl⟩
 go_wp2_with fail
 go_ret
 exact ⟨rfl, rfl⟩
theorem wvalid_p (a : Nat) (w : World) : Calls Tryz.prog 96 #[.int .u32 a] w fun e w' => e = .returned (.bool (validN a)) ∧ w = w' := by
 go_enter Tryz.func96, Tryz.ntmps96
 go_wp2
 go_ret
 exact ⟨rfl, rfl⟩
theorem TabG.nxb {b : Nat} {w w' : World} (h : TabG w) (hb : ¬ 1 = b) (k : Exb b w w') : TabG w' := h.chg k ⟨h.lt, hb⟩
theorem Tryz.gTab : Tryz.prog.globalNamed "math/bits.deBruijn32tab" = some 1 := by kernel_rfl
theorem Tryz.tTab : (Tryz.prog.globals[1]?).map (·.type) = some 171 := by kernel_rfl
theorem Tryz.cells32 : Tryz.prog.cellsOf 171 = 32 := by kernel_rfl
theorem Tryz.cellsU8 : Tryz.prog.cellsOf 5 = 1 := by kernel_rfl
theorem laid_tab {H : Type} : (Rows.laid_math_bits_deBruijn32tab : DataW H) = Lib.tabData .u8 (Lib.deBruijn32tab.map fun (n : Nat) => (n : Int)) := rfl
theorem tabG_of {rest : List (String × DataW Unit)} {W : World} (h : laidMetH Tryz.prog (("math/bits.deBruijn32tab", Rows.laid_math_bits_deBruijn32tab) :: rest) W)
  (hp : ((("math/bits.deBruijn32tab", Rows.laid_math_bits_deBruijn32tab) :: rest).all fun x => x.2.handleName?.isNone) = true) : TabG W := by
 rw [MakeChecks.laidMetH_plain _ _ _ hp, laid_tab] at h
 have ht := Lib.tabIs_of_head Tryz.gTab Tryz.tTab Tryz.underlying171 Tryz.underlying5 Tryz.cellsU8 Tryz.cells32 h
 intro j hj
 have := ht.cell Tryz.gTab j (by simp [Lib.deBruijn32tab]; omega)
 rw [this]
 congr 2
 simp [List.getD, List.getElem?_map]
 cases h : Lib.deBruijn32tab[j]? <;> simp
end Go.Proofs.YtlgdjigocopglaaGreatDoor
