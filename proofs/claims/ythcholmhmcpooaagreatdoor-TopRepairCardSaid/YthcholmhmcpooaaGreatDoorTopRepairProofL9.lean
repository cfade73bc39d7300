/- Texts for TopRepairProof. -/
import Derived.Test.YthcholmhmcpooaaGreatDoorTopRepairProofL7
import Derived.Test.YthcholmhmcpooaaGreatDoorTopRepairProofL8
set_option linter.unusedSimpArgs false
set_option linter.unusedVariables false

namespace Go.Proofs.YthcholmhmcpooaaGreatDoor
open Go.RowKit
theorem vkey_p (s:ByteArray) (w:World):Calls Tryz.prog 70 #[.string s] w fun e w'=>e=.returned (.bool (decide ((s.size:Int)≤64)))∧w=w':=by
 go_enter Tryz.func70,Tryz.ntmps70
 go_wp2
 go_ret
 exact ⟨rfl,rfl⟩
theorem eqN_symm (x y:Nd):eqN x y=eqN y x:=by
 unfold eqN
 rw [Bool.eq_iff_iff]
 simp only [Bool.or_eq_true,beq_iff_eq]
 exact ⟨fun h=>h.imp Eq.symm Eq.symm,fun h=>h.imp Eq.symm Eq.symm⟩
set_option maxRecDepth 100000 in
theorem check1_p (gx:Nat) (x:Nd) (w:World) (hx:Blk w gx [.int .i64 x.id,.string x.key,.int .u32 x.word] 36):PredG 133 #[.pointer (some ⟨gx,0,none⟩)] (fun y=>eqN y x) w:=by
 intro y w' kk
 have B:=hx.nx kk
 have q0:=B.cell 0 _ rfl
 have q1:=B.cell 1 _ rfl
 have hg:=B.lt
 have hne:¬ gx=w'.heap.size:=by omega
 unfold Nd.val
 clear hx kk B
 by_cases h1:y.id=x.id
 ·have d1:(y.id==x.id)=true:=by simpa using h1
  have HE:Hid (eqN y x=true):=lH (by unfold eqN;rw [d1];rfl)
  clear h1
  go_enter Tryz.func133,Tryz.ntmps133
  go_wp2
  go_ret
  exact ⟨by rw [HE.out];rfl,(Ex.refl _).alloc _⟩
 ·have d1:(y.id==x.id)=false:=by simpa using h1
  have HE:Hid (eqN y x=(y.key.toList==x.key.toList)):=lH (by unfold eqN;rw [d1];rfl)
  clear h1
  go_enter Tryz.func133,Tryz.ntmps133
  go_wp2
  go_ret
  exact ⟨by rw [HE.out];rfl,(Ex.refl _).alloc _⟩
def NdRel (n:Nat) (l:List Nd) (w:World) (i:Value) (wr:World):Prop :=
 ∃ k:Nat,k≤n∧i=.int .i64 k∧Ex w wr∧∀ i' x,i'<k→l[i']?=some x→(l.take i').any (fun y=>eqN y x)=false
set_option maxRecDepth 100000 in
set_option maxHeartbeats 4000000 in
theorem check_p (a:Option Addr) (n c:Nat) (l:List Nd) (w:World) (h:Sl 3 encN w a n l) (hn:n≤1000000) (hc:n≤c) (hm:c≤maxLen) :
  Calls Tryz.prog 53 #[.slice a n c] w fun e w'=>e=.returned (.int .i64 (checkN l))∧Ex w w':=by
 have hlen:=h.len
 unfold maxLen at hm
 have eg:∀ args w,(callFunc 133 args).run Tryz.prog w=.ok (.enter 133 args) w:=enters_of Tryz.func133 (by kernel_rfl) rfl
 have EG:=lH eg
 clear eg
 go_enter Tryz.func53,Tryz.ntmps53
 by_cases h64:64<n
 ·have HC:Hid (checkN l=3):=lH (by unfold checkN;rw [if_pos (by omega)])
  clear h hlen
  go_wp2_with fail
  go_ret
  exact ⟨by rw [HC.out];rfl,Ex.refl _⟩
 have HL:=lH hlen
 clear hlen
 go_wp2_with fail
 go_loopw [12] (fun i wr=>N1Rel n l w i wr) (fun i _=>n-(intOf i).toNat)
 case atStart=>exact ⟨0,by omega,rfl,Ex.refl _,by intro _ _ h;omega⟩
 case round =>
  obtain ⟨k,hk,rfl,kw,hgood⟩:=hrel
  have HG:=lH hgood
  clear hgood
  obtain ⟨wo,rfl⟩:∃ wo:World,wo=wr:=⟨_,rfl⟩
  by_cases hlt:k<n
  ·obtain ⟨x1,o1,y,rfl,hx1,hy,hc1⟩:=(h.nx kw).at hlt
   have e0:wo.cell? ⟨x1,o1+k*3,none⟩=some (.int .i64 y.id):=hc1 0 _ rfl
   have e1:wo.cell? ⟨x1,o1+k*3+1,none⟩=some (.string y.key):=hc1 1 _ rfl
   have e2:wo.cell? ⟨x1,o1+k*3+1+1,none⟩=some (.int .u32 y.word):=by simpa [Nat.add_assoc] using hc1 2 _ rfl
   have e2':wo.cell? ⟨x1,o1+k*3+2,none⟩=some (.int .u32 y.word):=hc1 2 _ rfl
   have HY:=lH hy
   have BAD:badN y=true→checkN l=1:=fun hb=>by
    unfold checkN
    rw [if_neg (by rw [HL.out];exact h64),if_pos (List.any_eq_true.2 ⟨y,List.mem_of_getElem? HY.out,hb⟩)]
   have KW:=lH (kw.alloc (.cells #[.int .i64 y.id,.string y.key,.int .u32 y.word] 36))
   clear hc1 hy h kw
   by_cases b1:y.id<1
   ·have HB:=lH (BAD (by unfold badN;simp [b1]))
    clear BAD
    go_wp2_with fail
    go_ret
    exact ⟨by rw [HB.out];rfl,KW.out⟩
   by_cases b2:2147483647<y.id
   ·have HB:=lH (BAD (by unfold badN;simp [b2]))
    clear BAD
    go_wp2_with fail
    go_ret
    exact ⟨by rw [HB.out];rfl,KW.out⟩
   have BAD:=lH BAD
   go_wp2_with fail
   refine (vkey_p _ _).mono ?_
   rintro e w2 ⟨rfl,rfl⟩
   by_cases b3:(y.key.size:Int)≤64
   ·have d3:decide ((y.key.size:Int)≤64)=true:=by simpa using b3
    rw [d3]
    clear d3
    go_wp2_with fail
    refine (wvalid_p _ _).mono ?_
    rintro e w2 ⟨rfl,rfl⟩
    cases b4:validN y.word with
    | true =>
     have BG:Hid (badN y=false):=lH (by unfold badN;simp [b1,b2,b3,b4])
     clear BAD b4 b3
     go_wp2_with fail
     refine ⟨⟨k+1,by omega,by go_num,KW.out,fun k' y' hk' hy'=>?_⟩,by simp [intOf];omega⟩
     rcases Nat.lt_or_ge k' k with h | h
     ·exact HG.out k' y' h hy'
     ·obtain rfl:k'=k:=by omega
      rw [Option.some.inj (hy'.symm.trans HY.out)]
      exact BG.out
    | false =>
     have HB:=lH (BAD.out (by unfold badN;simp [b4]))
     clear BAD b4
     go_wp2_with fail
     go_ret
     exact ⟨by rw [HB.out];rfl,KW.out⟩
   ·have d3:decide ((y.key.size:Int)≤64)=false:=by simpa using b3
    have HB:=lH (BAD.out (by unfold badN;simp [b3]))
    rw [d3]
    clear d3 BAD b3
    go_wp2_with fail
    go_ret
    exact ⟨by rw [HB.out];rfl,KW.out⟩
  ·obtain rfl:k=n:=by omega
   have HNB:Hid (l.any badN=false):=lH (by
    rw [List.any_eq_false]
    intro y hy
    obtain ⟨j,hj,he⟩:=List.mem_iff_getElem.1 hy
    rw [HG.out j y (by rw [← HL.out];exact hj) (by rw [← he];simp)]
    simp)
   clear HG hlt hk
   obtain ⟨w1,rfl⟩:∃ w1:World,w1=wo:=⟨_,rfl⟩
   have hs:=lH h
   clear h
   go_wp2_with fail
   go_loopw [39] (fun i wr=>NdRel k l w i wr) (fun i _=>k-(intOf i).toNat)
   case atStart=>exact ⟨0,by omega,rfl,kw,by intro _ _ h;omega⟩
   case round =>
    clear kw
    obtain ⟨m,hm2,rfl,kw,hgood⟩:=hrel
    have HG:=lH hgood
    clear hgood
    obtain ⟨wo,rfl⟩:∃ wo:World,wo=wr:=⟨_,rfl⟩
    by_cases hlt:m<k
    ·obtain ⟨x1,o1,x,rfl,hx1,hx,hc1⟩:=(hs.out.nx kw).at hlt
     have e0:wo.cell? ⟨x1,o1+m*3,none⟩=some (.int .i64 x.id):=hc1 0 _ rfl
     have e1:wo.cell? ⟨x1,o1+m*3+1,none⟩=some (.string x.key):=hc1 1 _ rfl
     have e2:wo.cell? ⟨x1,o1+m*3+1+1,none⟩=some (.int .u32 x.word):=by simpa [Nat.add_assoc] using hc1 2 _ rfl
     have e2':wo.cell? ⟨x1,o1+m*3+2,none⟩=some (.int .u32 x.word):=hc1 2 _ rfl
     have HX:=lH hx
     have k2:=Ex.new wo (.cells #[.int .i64 x.id,.string x.key,.int .u32 x.word] 36)
     have B2:=Blk.new wo [.int .i64 x.id,.string x.key,.int .u32 x.word] 36
     obtain ⟨w2,hw2⟩:∃ w2,w2=wo.alloc (.cells #[.int .i64 x.id,.string x.key,.int .u32 x.word] 36):=⟨_,rfl⟩
     obtain ⟨g,hg⟩:∃ g,g=wo.heap.size:=⟨_,rfl⟩
     have B2:Blk w2 g [.int .i64 x.id,.string x.key,.int .u32 x.word] 36:=by rw [hw2,hg];exact B2
     rw [← hw2] at k2
     have KW:=lH (kw.nx k2)
     have HW2:=lH hw2
     have HGG:=lH hg
     have hmc:(m:Int)≤(c:Int):=by omega
     have S2:=(hs.out.nx (kw.nx k2)).take (m:=m) (by omega)
     have PG:=check1_p g x w2 B2
     clear hc1 hx hx1 kw k2 hw2 hg B2
     go_upto_region 12 with fail
     rw [← HGG.out,← HW2.out]
     go_wp2_with fail
     (with_reducible refine (contf_n 133 #[.pointer (some ⟨g,0,none⟩)] (fun y=>eqN y x) EG.out _ _ _ _ _ S2 (by omega) PG).mono ?_)
     rintro e w3 ⟨rfl,k3⟩
     have K3:=lH (KW.out.nx k3)
     clear S2 PG k3 e0 e1 e2 e2'
     cases hb:(l.take m).any (fun y=>eqN y x) with
     | true =>
      have HC:Hid (checkN l=5):=lH (by
       unfold checkN
       rw [if_neg (by rw [HL.out];exact h64),HNB.out,if_neg (by simp),if_pos]
       obtain ⟨y,hy,he⟩:=List.any_eq_true.1 hb
       obtain ⟨q,hq⟩:=List.mem_iff_getElem?.1 hy
       rw [List.getElem?_take] at hq
       split at hq
       ·rename_i hqm
        exact (dupN_iff l).2 ⟨m,q,x,y,hqm,HX.out,hq,by rw [eqN_symm];exact he⟩
       ·cases hq)
      clear hb
      go_wp2_with fail
      go_ret
      exact ⟨by rw [HC.out];rfl,K3.out⟩
     | false =>
      have HB:=lH hb
      clear hb
      go_wp2_with fail
      refine ⟨⟨m+1,by omega,by go_num,K3.out,fun i' x' hi' hx'=>?_⟩,by simp [intOf];omega⟩
      rcases Nat.lt_or_ge i' m with h | h
      ·exact HG.out i' x' h hx'
      ·obtain rfl:i'=m:=by omega
       rw [Option.some.inj (hx'.symm.trans HX.out)]
       exact HB.out
    ·obtain rfl:m=k:=by omega
     have HC:Hid (checkN l=0):=lH (by
      unfold checkN
      rw [if_neg (by rw [HL.out];exact h64),HNB.out,if_neg (by simp),if_neg]
      intro hd
      obtain ⟨i,q,x,y,hq,hx,hy,he⟩:=(dupN_iff l).1 hd
      have hi:=HG.out i x (by have:=(List.getElem?_eq_some_iff.1 hx).1;have:=HL.out;omega) hx
      rw [List.any_eq_false] at hi
      refine hi y ?_ (by rw [eqN_symm];exact he)
      exact List.mem_iff_getElem?.2 ⟨q,by rw [List.getElem?_take,if_pos hq];exact hy⟩)
     have KW:=lH kw
     clear HG hlt hm2 HNB kw
     go_wp2_with fail
     go_ret
     exact ⟨by rw [HC.out];rfl,KW.out⟩
end Go.Proofs.YthcholmhmcpooaaGreatDoor
