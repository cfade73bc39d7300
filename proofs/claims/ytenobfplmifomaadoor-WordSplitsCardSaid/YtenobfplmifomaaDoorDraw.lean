/- Walks over Draw of the package word and of its reference. -/
import Derived.Test.YtenobfplmifomaaDoorRows
import Derived.Test.YtenobfplmifomaaDoorBase
import Derived.Test.YtenobfplmifomaaDoorWordP
namespace Go.Proofs.YtenobfplmifomaaDoor
open Go.RowKit
def mixA (s n : Int) : Int := IntKind.u64.wrap (s + IntKind.u64.wrap (IntKind.u64.wrap (IntKind.u64.wrap n + 1) * 11400714819323198485))
def mixX (a : Int) : Int := IntKind.u64.wrap (bits BinOp.xor IntKind.u64 a (a / 1073741824) * 13787848793156543929)
def mixY (x : Int) : Int := IntKind.u64.wrap (bits BinOp.xor IntKind.u64 x (x / 134217728) * 10723151780598845931)
def mixZ (y : Int) : Int := bits BinOp.xor IntKind.u64 y (y / 2147483648)
def drawS (s n : Int) : Int := mixZ (mixY (mixX (mixA s n))) % 65536

theorem mixZ_bd (y : Int) : 0 ≤ mixZ y ∧ mixZ y < 18446744073709551616 := by
  have : mixZ y = IntKind.u64.wrap ((BitVec.ofInt 64 y ^^^ BitVec.ofInt 64 (y / 2147483648)).toNat : Int) := rfl
  rw [this, IntKind.wrap_u64]
  omega
theorem mask16 (z : Int) (h0 : 0 ≤ z) (h1 : z < 18446744073709551616) : IntKind.u32.wrap (bits BinOp.and IntKind.u64 z 65535) = z % 65536 := by
  obtain ⟨m, rfl⟩ := Int.eq_ofNat_of_zero_le h0
  have := bits_and_u64_nat m 65535 (by omega) (by omega)
  rw [show ((65535 : Nat) : Int) = 65535 from rfl] at this
  rw [this, wrap_u32n, show (65535 : Nat) = 2 ^ 16 - 1 from rfl, Nat.and_two_pow_sub_one_eq_mod]
  omega
theorem rem16 (z : Int) : IntKind.u32.wrap (z % 65536) = z % 65536 := by
  rw [wrap_u32n]
  omega
theorem drawS_bd (s n : Int) : 0 ≤ drawS s n ∧ drawS s n ≤ 65535 := by
  unfold drawS
  generalize mixZ (mixY (mixX (mixA s n))) = z
  omega

set_option maxHeartbeats 1000000 in
theorem draw_p (s n : Int) (w : World) (_hs1 : 0 ≤ s) (_hs2 : s ≤ 18446744073709551615) (_hn1 : -9223372036854775808 ≤ n) (_hn2 : n ≤ 9223372036854775807) :
    Calls Tryd.prog 21 #[.int .u64 s, .int .i64 n] w fun e w' => e = .returned (.int .u32 (drawS s n)) ∧ w = w' := by
  go_enter Tryd.func21, Tryd.ntmps21
  go_wp2
  go_ret
  refine ⟨?_, rfl⟩
  show Ending.returned (.int .u32 (IntKind.u32.wrap (bits BinOp.and IntKind.u64 (mixZ (mixY (mixX (mixA s n)))) 65535))) = _
  rw [mask16 _ (mixZ_bd _).1 (mixZ_bd _).2]
  rfl
theorem draw_r (s n : Int) (w : World) (_hs1 : 0 ≤ s) (_hs2 : s ≤ 18446744073709551615) (_hn1 : -9223372036854775808 ≤ n) (_hn2 : n ≤ 9223372036854775807) :
    Calls Tryd.prog 22 #[.int .u64 s, .int .i64 n] w fun e w' => e = .returned (.int .u32 (drawS s n)) ∧ w = w' := by
  go_enter Tryd.func22, Tryd.ntmps22
  go_wp2
  go_ret
  refine ⟨?_, rfl⟩
  show Ending.returned (.int .u32 (IntKind.u32.wrap ((mixZ (mixY (mixX (mixA s n)))) % 65536))) = _
  rw [rem16]
  rfl
end Go.Proofs.YtenobfplmifomaaDoor
