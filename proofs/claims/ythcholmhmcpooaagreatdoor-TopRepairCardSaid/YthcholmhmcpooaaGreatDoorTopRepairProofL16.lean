/- Texts for TopRepairProof. -/
import Derived.Test.YthcholmhmcpooaaGreatDoorTopRepairProofL3
set_option linter.unusedSimpArgs false
set_option linter.unusedVariables false

namespace Go.Proofs.YthcholmhmcpooaaGreatDoor
open Go.RowKit
def I64 (x:Int):Prop:=-9223372036854775808≤x∧x≤9223372036854775807
set_option maxHeartbeats 1000000 in
theorem id_t {b:Nat} (a:Option Addr) (n cp:Nat) (l:List Nd) (w:World) (h:TK w b) (hs:Slb 3 encN b w a n l) (hn:n≤1000) (hi:∀ x∈l,I64 x.id) :
  Calls Tryz.prog 81 #[.pointer (some ⟨b,0,none⟩),.slice a n cp] w fun e w'=>∃ r:Int,e=.returned (.int .i64 r)∧I64 r∧TK w' b∧Exb b w w':=by
 have HI:=lH hi
 have hlen:=lH hs.len
 clear hi
 go_enter Tryz.func81,Tryz.ntmps81
 by_cases hn0:n=0
 ·have d0:((n:Int)==0)=true:=by simp;omega
  clear hs
  go_wp2_with fail
  refine (pick_t (n:=5) (-1) 4611686018427387904 [0,-1,999,4611686018427387904,1] h rfl rfl rfl (by omega) (by omega) (by intro x hx;simp at hx;omega)).mono ?_
  clear h
  rintro e w2 ⟨r,rfl,r0,r1,T,kk⟩
  go_wp2_with fail
  go_ret
  exact ⟨r,rfl,⟨by omega,by omega⟩,T,kk⟩
 ·have d0:((n:Int)==0)=false:=by simp;omega
  have hnp:0<n:=by omega
  clear hn0
  go_wp2_with fail
  refine (bool_t 8 _ h (by omega) (by omega)).mono ?_
  clear h
  rintro e w1 ⟨r,rfl,T,kk⟩
  cases r with
  | true =>
   clear hs
   go_wp2_with fail
   refine (pick_t (n:=5) (-1) 4611686018427387904 [0,-1,999,4611686018427387904,1] T rfl rfl rfl (by omega) (by omega) (by intro x hx;simp at hx;omega)).mono ?_
   clear T
   rintro e w2 ⟨r,rfl,r0,r1,T,k2⟩
   have kk:=kk.nxb k2
   clear k2
   go_wp2_with fail
   go_ret
   exact ⟨r,rfl,⟨by omega,by omega⟩,T,kk⟩
  | false =>
   have S1:=hs.nxb kk
   clear hs
   go_wp2_with fail
   refine (next_t (n:Int) _ T (by omega) (by omega)).mono ?_
   clear T
   rintro e w2 ⟨j,rfl,j0,j1,T,k2⟩
   obtain ⟨j,rfl⟩:=Int.eq_ofNat_of_zero_le j0
   have S2:=S1.nxb k2
   have kk:=kk.nxb k2
   obtain ⟨x,o,y,rfl,hx,hy,hc⟩:=S2.sl.at (j:=j) (by omega)
   have e0:w2.cell? ⟨x,o+j*3,none⟩=some (.int .i64 y.id):=hc 0 _ rfl
   have hyi:=lH (HI.out y (List.mem_of_getElem? hy))
   have hjn:(j:Int)<(n:Int):=by omega
   clear k2 S1 S2 hc hy
   go_wp2_with fail
   go_ret
   exact ⟨y.id,rfl,hyi.out,T,kk⟩
end Go.Proofs.YthcholmhmcpooaaGreatDoor
