/- Texts for TopRepairProof. -/
import Derived.Test.YthcholmhmcpooaaGreatDoorTopRepairProofL6
import Derived.Test.YthcholmhmcpooaaGreatDoorTopRepairProofL9
import Derived.Test.YthcholmhmcpooaaGreatDoorTopRepairProofL10
set_option linter.unusedSimpArgs false
set_option linter.unusedVariables false

namespace Go.Proofs.YthcholmhmcpooaaGreatDoor
open Go.RowKit
def OrdPost (l:List Nd) (w:World) (e:Ending) (w':World):Prop :=
 ∃ (v:Value) (S:List Nd),e=.returned (.tuple #[v,.bool (checkN l==0)])∧OwnL 3 encN 36 w.heap.size w' v S∧(S.Perm l∧(checkN l=0→S=sortN l))∧Ex w w'
set_option maxHeartbeats 1000000 in
theorem ordered_p (a:Option Addr) (n c:Nat) (l:List Nd) (w:World) (h:Sl 3 encN w a n l) (hn:n≤1000) (hc:n≤c) (hm:c≤maxLen) :
  Calls Tryz.prog 108 #[.slice a n c] w (OrdPost l w):=by
 go_enter Tryz.func108,Tryz.ntmps108
 go_wp2_with fail
 (with_reducible refine (sort_p _ _ _ _ _ h hn).mono ?_)
 rintro e w1 ⟨v,S,rfl,own1,⟨hp,ha⟩,k1⟩
 have h1:=h.nx k1
 have O1:=lH own1
 have HP:=lH hp
 have HA:=lH ha
 have K1:=lH k1
 clear h own1 hp ha k1
 go_wp2_with fail
 (with_reducible refine (check_p _ _ _ _ _ h1 (by omega) hc hm).mono ?_)
 rintro e w2 ⟨rfl,k2⟩
 have O2:=lH (O1.out.nx k2)
 have K2:=lH (K1.out.nx k2)
 clear h1 k2
 go_wp2_with fail
 go_ret2
 exact ⟨v,S,rfl,O2.out,⟨HP.out,fun h0=>sortN_unique (check_keys h0) HP.out HA.out⟩,K2.out⟩
theorem OwnL.sl3 {sz e base:Nat} {α:Type} {enc:α→List Value} {w:World} {v:Value} {l:List α} (h:OwnL sz enc e base w v l) (hsz:∀ y,(enc y).length=sz):∃ a cap,v=.slice a l.length cap∧Sl sz enc w a l.length l∧l.length≤cap∧cap≤maxLen:=by
 obtain ⟨a,cap,e,h1,h2,h3,_⟩:=h.rd hsz
 exact ⟨a,cap,e,h1.mono (fun _ hk=>hk.2),h2,h3⟩
end Go.Proofs.YthcholmhmcpooaaGreatDoor
