/- WordEquivalence: two contracts restated. -/
import Derived.Test.YtenobfplmifomaaDoorSaneW
import Derived.Test.YtenobfplmifomaaDoorTape
namespace Go.Proofs.YtenobfplmifomaaDoor
open Go.RowKit

theorem same_p2 {a b : Nat} {h : Int} {v : Bool} (H : Hid (sameN a b h = v)) (w : World) (ha : a < 4294967296) (hb : b < 4294967296) (hT : TabG w) :
    Calls Tryd.prog 17 #[.int .u32 a, .int .u32 b, .int .i64 h] w fun e w' => e = .returned (.bool v) ∧ w = w' := by
  have := same_p a b h w ha hb hT; rw [H.out] at this; exact this
theorem common_p2 {a b : Nat} {v : Nat} (H : Hid (commonN a b = v)) (w : World) (ha : a < 4294967296) (hb : b < 4294967296) (hT : TabG w) :
    Calls Tryd.prog 15 #[.int .u32 a, .int .u32 b] w fun e w' => e = .returned (.int .i64 v) ∧ w = w' := by
  have := common_p a b w ha hb hT; rw [H.out] at this; exact this

end Go.Proofs.YtenobfplmifomaaDoor
