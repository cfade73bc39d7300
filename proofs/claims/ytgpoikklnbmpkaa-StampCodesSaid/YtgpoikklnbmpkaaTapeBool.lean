/- Bool of the tape, in the standard forms. -/
import Derived.Test.YtgpoikklnbmpkaaTapeK
namespace Go.Proofs.Ytgpoikklnbmpkaa
open Go.RowKit
set_option maxHeartbeats 400000 in
theorem bool_t {b : Nat} (n : Int) (w : World) (h : TK w b) (h1 : 1 ≤ n) (h2 : n ≤ 1000000) :
    Calls Try.prog 26 #[.pointer (some ⟨b, 0, none⟩), .int .i64 n] w fun e w' => ∃ r : Bool, e = .returned (.bool r) ∧ TK w' b ∧ Exb b w w' := by
  go_enter Try.func26, Try.ntmps26
  go_wp2_with fail
  refine (next_t n _ h h1 (by omega)).mono ?_
  rintro e w1 ⟨r, rfl, r0, r1, t1, k1⟩
  go_wp2_with fail
  go_ret
  exact ⟨_, rfl, t1, k1⟩
end Go.Proofs.Ytgpoikklnbmpkaa
