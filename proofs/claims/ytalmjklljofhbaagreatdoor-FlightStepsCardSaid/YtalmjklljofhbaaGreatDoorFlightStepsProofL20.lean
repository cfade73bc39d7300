/- Texts for FlightStepsProof. -/
import Derived.Lib.SliceRun
import Derived.Test.YtalmjklljofhbaaGreatDoorFlightStepsProofL5
import Derived.Test.YtalmjklljofhbaaGreatDoorFlightStepsProofL7
set_option linter.unusedSimpArgs false
set_option linter.unusedVariables false

namespace Go.Proofs.YtalmjklljofhbaaGreatDoor
open Go.RowKit
def IjRel (l:List Int) (v:Int) (n:Nat) (w:World) (i:Value) (wr:World):Prop :=
 ∃ k:Nat,k≤n∧i=.int .i64 k∧Ex w wr∧∀ j z,j<k→l[j]?=some z→z≠v
set_option maxHeartbeats 1000000 in
theorem index_i (a:Option Addr) (n c:Nat) (l:List Int) (v:Int) (w:World) (h:Sl 1 encI w a n l) (hn:n≤4000000000000000000) :
  Calls Tryz.prog 137 #[.slice a n c,.int .i64 v] w fun e w'=>∃ r:Int,e=.returned (.int .i64 r)∧decide (0≤r)=l.contains v∧Ex w w':=by
 have HL:=lH h.len
 have hs:=lH h
 clear h
 go_enter Tryz.func137,Tryz.ntmps137
 go_wp2
 go_loopw [8] (fun i wr=>IjRel l v n w i wr) (fun i _=>n-(intOf i).toNat)
 case atStart=>exact ⟨0,by omega,rfl,Ex.refl _,by intro j z h;omega⟩
 case round =>
  obtain ⟨k,hk,rfl,kw,hno⟩:=hrel
  have HNO:=lH hno
  clear hno
  obtain ⟨wo,rfl⟩:∃ wo:World,wo=wr:=⟨_,rfl⟩
  by_cases hlt:k<n
  ·obtain ⟨x1,o1,y,rfl,hx1,hy,hc1⟩:=(hs.out.nx kw).at hlt
   have e0:wo.cell? ⟨x1,o1+k,none⟩=some (.int .i64 y):=by simpa using hc1 0 _ rfl
   have HY:=lH hy
   have KW:=lH kw
   clear hc1 hy kw
   by_cases hv:y=v
   ·have HC:Hid (decide ((0:Int)≤(k:Int))=l.contains v):=lH (by
     have h1:l.contains v=true:=by rw [List.contains_iff_mem,← hv];exact List.mem_of_getElem? HY.out
     rw [h1];simp)
    have hb:(v==y)=true:=by rw [hv];simp
    clear hv
    go_wp2_with fail
    go_ret
    exact ⟨k,rfl,HC.out,KW.out⟩
   ·have HV:=lH hv
    have hb:(v==y)=false:=by rw [beq_eq_false_iff_ne];exact fun h=>hv h.symm
    clear hv
    go_wp2_with fail
    refine ⟨⟨k+1,by omega,by go_num,KW.out,fun j z hj hz=>?_⟩,by simp [intOf];omega⟩
    rcases Nat.lt_or_ge j k with h | h
    ·exact HNO.out j z h hz
    ·obtain rfl:j=k:=by omega
     rw [Option.some.inj (hz.symm.trans HY.out)]
     exact HV.out
  ·obtain rfl:k=n:=by omega
   have HC:Hid (decide ((0:Int)≤-1)=l.contains v):=lH (by
    have h1:l.contains v=false:=by
     cases hc:l.contains v with
     | false=>rfl
     | true =>
      rw [List.contains_iff_mem] at hc
      obtain ⟨j,hj⟩:=List.mem_iff_getElem?.1 hc
      exact absurd rfl (HNO.out j v (by rw [← HL.out];exact (List.getElem?_eq_some_iff.1 hj).1) hj)
    rw [h1];rfl)
   have KW:=lH kw
   clear kw hk hlt
   go_wp2_with fail
   go_ret
   exact ⟨-1,rfl,HC.out,KW.out⟩
theorem contains_i (a:Option Addr) (n c:Nat) (l:List Int) (v:Int) (w:World) (h:Sl 1 encI w a n l) (hn:n≤4000000000000000000) :
  Calls Tryz.prog 167 #[.slice a n c,.int .i64 v] w fun e w'=>e=.returned (.bool (l.contains v))∧Ex w w':=by
 go_enter Tryz.func167,Tryz.ntmps167
 go_wp2_with fail
 (with_reducible refine (index_i _ _ _ _ _ _ h hn).mono ?_)
 rintro e w1 ⟨r,rfl,hr,kk⟩
 have HR:=lH hr
 clear h hr
 go_wp2_with fail
 go_ret
 exact ⟨by rw [← HR.out];rfl,kk⟩
theorem ex_setcs {g:Nat} {w0:World} (hg:w0.heap.size≤g):∀ (vs:List Value) (w:World) (j:Nat),Ex w0 w→Ex w0 (w.setCells g j vs)
 | [],_,_,h=>h
 | v::vs,w,j,h=>ex_setcs hg vs _ (j+1) (h.setNew (p:=⟨g,j,none⟩) v hg)
end Go.Proofs.YtalmjklljofhbaaGreatDoor
