/- Shared texts. -/
import Derived.Test.YtalmjklljofhbaaDoorSdAll5
set_option linter.unusedSimpArgs false
set_option linter.unusedVariables false

namespace Go.Proofs.YtalmjklljofhbaaDoor
open Go.RowKit
theorem sum_take_succ (l:List Nat) (k u:Nat) (h:l[k]?=some u):(l.take (k+1)).sum=(l.take k).sum+u:=by
 rw [List.take_add_one,h];simp
theorem sum_take_le (l:List Nat) (k:Nat):(l.take k).sum≤l.sum:=by
 conv=>rhs;rw [← List.take_append_drop k l]
 rw [List.sum_append];omega
theorem bit_pE (a:Nat) (i:Int) (w:World) (ha:a<4294967296) (hi1:-9223372036854775808≤i) (hi2:i≤9223372036854775807) :
  Calls Tryd.prog 43 #[.int .u32 a,.int .i64 i] w fun e w'=>e=.returned (.int .i64 (bitN a i))∧Ex w w' :=
 (bit_p a i w ha hi1 hi2).mono fun _ _ h=>⟨h.1,by rw [← h.2];exact Ex.refl _⟩
end Go.Proofs.YtalmjklljofhbaaDoor
