/- Texts for TopSurvivesProof. -/
import Derived.Test.YthcholmhmcpooaaGreatDoorTopSurvivesProofL6
import Derived.Test.YthcholmhmcpooaaGreatDoorTopSurvivesProofL7
import Derived.Test.YthcholmhmcpooaaGreatDoorTopSurvivesProofL8
import Derived.Test.YthcholmhmcpooaaGreatDoorTopSurvivesProofL9
set_option linter.unusedSimpArgs false
set_option linter.unusedVariables false

namespace Go.Proofs.YthcholmhmcpooaaGreatDoor
open Go.RowKit
def OrdPost (l:List Nd) (w:World) (e:Ending) (w':World):Prop :=
 ∃ (v:Value) (S:List Nd),e=.returned (.tuple #[v,.bool (checkN l==0)])∧OwnL 3 encN 36 w.heap.size w' v S∧(S.Perm l∧(checkN l=0→S=sortN l))∧Ex w w'
set_option maxHeartbeats 1000000 in
theorem ordered_p (a:Option Addr) (n c:Nat) (l:List Nd) (w:World) (h:Sl 3 encN w a n l) (hn:n≤1000) (hc:n≤c) (hm:c≤maxLen) :
  Calls Tryz.prog 108 #[.slice a n c] w (OrdPost l w):=by
 go_enter Tryz.func108,Tryz.ntmps108
 go_wp2_with fail
 (with_reducible refine (sort_p _ _ _ _ _ h hn).mono ?_)
 rintro e w1 ⟨v,S,rfl,own1,⟨hp,ha⟩,k1⟩
 have h1:=h.nx k1
 have O1:=lH own1
 have HP:=lH hp
 have HA:=lH ha
 have K1:=lH k1
 clear h own1 hp ha k1
 go_wp2_with fail
 (with_reducible refine (check_p _ _ _ _ _ h1 (by omega) hc hm).mono ?_)
 rintro e w2 ⟨rfl,k2⟩
 have O2:=lH (O1.out.nx k2)
 have K2:=lH (K1.out.nx k2)
 clear h1 k2
 go_wp2_with fail
 go_ret2
 exact ⟨v,S,rfl,O2.out,⟨HP.out,fun h0=>sortN_unique (check_keys h0) HP.out HA.out⟩,K2.out⟩
def nbStep (x:Nd) (s:Int×Int) (y:Nd):Int×Int :=
 (if Op.bytesLess y.key.toList x.key.toList then y.id else s.1,if !(Op.bytesLess y.key.toList x.key.toList||y.key.toList==x.key.toList)&&s.2==0 then y.id else s.2)
def nbFold (x:Nd) (G:List Nd):Int×Int:=G.foldl (nbStep x) (0,0)
theorem nbFold_snoc (x:Nd) (G:List Nd) (k:Nat) (y:Nd) (hy:G[k]?=some y):nbFold x (G.take (k+1))=nbStep x (nbFold x (G.take k)) y:=by
 unfold nbFold
 rw [take_snocN G k y hy,List.foldl_append]
 rfl
end Go.Proofs.YthcholmhmcpooaaGreatDoor
