/- Texts for TopSurvivesProof. -/
import Derived.Test.YthcholmhmcpooaaGreatDoorTopSurvivesProofL35
import Derived.Test.YthcholmhmcpooaaGreatDoorTopSurvivesProofL36
set_option linter.unusedSimpArgs false
set_option linter.unusedVariables false

namespace Go.Proofs.YthcholmhmcpooaaGreatDoor
open Go.RowKit
def ItPost (r:List Lkd×Nat×Int) (w:World) (e:Ending) (w':World):Prop :=
 ∃ v qs,e=.returned (.tuple #[v,.int .i64 (r.2.1:Nat),.int .i64 r.2.2])∧OwnLk w.heap.size w' v qs r.1∧Ex w w'
theorem ItPost.bad {r:List Lkd×Nat×Int} {e:Int} {w w':World} (hr:r=([],0,e)) (k:Ex w w'):ItPost r w (.returned (.tuple #[.slice none 0 0,.int .i64 0,.int .i64 e])) w':=by
 subst hr
 exact ⟨_,[],rfl,OwnN.nil _ _ _ _ _ _ _ _,k⟩
theorem Exq.ex {base:Nat} {w0 w w':World} {v:Value} {qs:List (Int×Hdr)} {L:List Lkd} (kq:Exq qs w w') (own:OwnLk base w v qs L) (hb:w0.heap.size≤base) (k:Ex w0 w):Ex w0 w' :=
 Chg.trans k (Chg.mono kq (fun _ hk=>⟨Nat.lt_of_lt_of_le hk k.size,fun hq=>by have:=(inQ_base own hq).1;omega⟩))
def RmvRel (N:List Nd) (id:Int) (L:List Lkd) (m:Nat) (v:Value) (qs:List (Int×Hdr)) (w:World) (cnt i:Value) (wr:World):Prop :=
 ∃ j:Nat,j≤m∧cnt=.int .i64 (tieN N id j:Nat)∧i=.int .i64 j∧OwnLk w.heap.size wr v qs (rowJ N id j L)∧Ex w wr
def RmIn (t:Nat) (a b:Int) (w:World) (cnt i:Value) (wr:World):Prop :=
 ∃ q:Nat,q≤2∧cnt=.int .i64 ((t+(([hasN a,hasN b]).take q).sum:Nat):Int)∧i=.int .i64 q∧wr=w
theorem hasN_le (v:Int):hasN v≤1:=by unfold hasN;split<;>omega
set_option maxRecDepth 100000 in
set_option maxHeartbeats 8000000 in
theorem remove_p (a:Option Addr) (n c:Nat) (N:List Nd) (a2:Option Addr) (n2 c2:Nat) (L:List Lkd) (id hh:Int) (w:World) (h:Sl 3 encN w a n N) (hn:n≤1000) (hc:n≤c) (hm:c≤maxLen) (hw:∀ x∈N,x.word<4294967296) (hT:TabG w)
  (h2:LkL w a2 n2 L) (hn2:n2≤1000000) (hs:∀ c∈L,c.2.length≤9223372036854775807) :
  Calls Tryz.prog 40 #[.slice a n c,.slice a2 n2 c2,.int .i64 id,.int .i64 hh] w (ItPost (removeN N L id hh) w):=by
 have HW:=lH hw
 have HS:=lH hs
 have HL:=lH h.len
 have HL2:=lH (NL.len h2)
 have EX:=Ex.refl w
 clear hs
 go_enter Tryz.func40,Tryz.ntmps40
 by_cases hl0:hh<0
 ·have E:Hid (removeN N L id hh=([],0,2)):=lH (by unfold removeN;rw [if_pos (by unfold lvlN;simp;omega)])
  go_wp2_with fail
  go_ret3
  exact ItPost.bad E.out EX
 by_cases hl1:hh>16
 ·have E:Hid (removeN N L id hh=([],0,2)):=lH (by unfold removeN;rw [if_pos (by unfold lvlN;simp;omega)])
  go_wp2_with fail
  go_ret3
  exact ItPost.bad E.out EX
 obtain ⟨m,rfl⟩:∃ m:Nat,hh=m:=⟨hh.toNat,by omega⟩
 have hm16:m≤16:=by omega
 have h2':=h2
 go_wp2_with fail
 (with_reducible refine (exact_p _ _ _ _ _ _ _ _ _ _ h hn hc hm hw hT h2 hn2 HS.out).mono ?_)
 rintro e w1 ⟨rfl,kk⟩
 replace h:=h.nx kk
 replace EX:=EX.nx kk
 clear kk
 by_cases he:exactI N L (m:Int)=false
 ·have E:Hid (removeN N L id m=([],0,1)):=lH (by unfold removeN;rw [if_neg (by rw [lvl_nat hm16];simp),if_pos he])
  rw [he]
  go_wp2_with fail
  go_ret3
  exact ItPost.bad E.out EX
 replace he:exactI N L (m:Int)=true:=by simpa using he
 rw [he]
 have HE:=lH he
 obtain ⟨h0,_,hL⟩:=exactI_yes he
 have h64:=check_len h0
 have hLl:L.length=N.length:=by
  have:=congrArg List.length (build_fst h0 hm16)
  rw [hL]
  simpa using this.trans (by rw [List.length_map,sortN_length])
 have hn2':n2≤64:=by have:=HL2.out;omega
 have HLL:=lH hLl
 have HLE:=lH hL
 have H0:=lH h0
 have LV:Hid (∀ c∈L,c.2.length=m+1):=lH (by rw [hL];exact build_lv h0 hm16)
 clear he hL h0 hLl hT
 go_wp2_with fail
 (with_reducible refine (rank_p _ _ _ _ id _ h hn hc hm).mono ?_)
 rintro e w2 ⟨rfl,kk⟩
 replace EX:=EX.nx kk
 clear kk
 by_cases hf:(findN N id).2=false
 ·have E:Hid (removeN N L id m=([],0,6)):=lH (by unfold removeN;rw [if_neg (by rw [lvl_nat hm16];simp),if_neg (by rw [HE.out];simp),if_pos hf])
  have hr:rankN N id=(0,false):=by unfold rankN;rw [find_noplace hf];rfl
  rw [hr]
  clear hr hf h
  go_wp2_with fail
  go_ret3
  exact ItPost.bad E.out EX
 obtain ⟨x,A,B,hx,rfl,e,hp⟩:=find_place H0.out (show (findN N id).2=true by simpa using hf)
 have hr:rankN N x.id=((A.length:Int),true):=by
  unfold rankN
  rw [hp]
  refine Prod.ext ?_ ?_
  ·show max ((A.length:Int)) 0=_;omega
  ·show decide (0≤(A.length:Int))=true;simp
 rw [hr]
 have hAl:A.length<n2:=by
  have h1:=sortN_length N
  rw [e] at h1
  have:=HLL.out
  have:=HL2.out
  simp at h1
  omega
 obtain ⟨R,hR,hRl,hRj⟩:=build_get H0.out hm16 e hx
 rw [← HLE.out] at hR
 have E:Hid (removeN N L x.id m=((buildN (dropN N x.id) m).1,tieN N x.id (m+1),0)):=lH (by rw [HLE.out];exact rem_ok H0.out hm16 hx)
 have EN:Hid ((rowJ N x.id (m+1) L).take A.length++(rowJ N x.id (m+1) L).drop (A.length+1)=(buildN (dropN N x.id) (m:Int)).1):=lH (by rw [HLE.out];exact rm_end H0.out HW.out hm16 e hx)
 clear hr hf hp h
 have z2:w.heap.size≤w2.heap.size:=EX.size
 go_wp2_with fail
 (with_reducible refine (clo_p _ _ _ _ _ (h2.nx EX) (by omega) (fun c hc=>by rw [LV.out c hc];omega)).mono ?_)
 rintro e w3 ⟨v,qs,rfl,own,kk⟩
 replace EX:=EX.nx kk
 have own:=OwnN.base own z2
 obtain ⟨x1,o1,a',n',c',d,rfl,hx1,hd,hcc,SR⟩:=h2.at hAl
 obtain rfl:d=(x.id,R):=by rw [hR] at hd;cases hd;rfl
 have hn':n'=m+1:=by rw [← SR.len];exact hRl
 subst hn'
 have e0:w3.cell? ⟨x1,o1+A.length*2+1,none⟩=some (.slice a' (m+1) c'):=EX.cellv (hcc 1 _ rfl) hx1
 have HSR:=lH SR
 have hRJ:=lH hRj
 have R0:=lH (show RmvRel N x.id L (m+1) v qs w (.int .i64 0) (.int .i64 0) w3 from ⟨0,by omega,rfl,rfl,own,EX⟩)
 have hA0:¬ (A.length:Int)<0:=by omega
 have hA1:(A.length:Int)<(n2:Int):=by omega
 have HE:=lH e
 clear kk own hd hcc SR hRj hR hRl e EX h2 z2 hx
 go_wp2_with fail
 go_loopw [14,46] (fun cnt i wr=>RmvRel N x.id L (m+1) v qs w cnt i wr) (fun _ i _=>m+1-(intOf i).toNat)
 case atStart=>exact R0.out
 case round =>
  clear R0 e0
  obtain ⟨j,hj,rfl,rfl,own,kw⟩:=hrel
  obtain ⟨wi,rfl⟩:∃ wi:World,wi=wr:=⟨_,rfl⟩
  by_cases hjn:j<m+1
  ·obtain ⟨x2,o2,q,rfl,hx2,hq,hc2⟩:=(HSR.out.nx kw).at hjn
   obtain ⟨y,hy⟩:∃ y,y=(neighN N x.id (j:Nat)).1:=⟨_,rfl⟩
   obtain rfl:q=y:=by rw [hRJ.out j (by omega),← hy] at hq;cases hq;rfl
   have TN:Hid (tieN N x.id (j+1)=tieN N x.id j+(hasN q.1+hasN q.2)):=lH (by rw [tieN_succ,hy])
   have RS:Hid (rowJ N x.id (j+1) L=joinJ (rowJ N x.id j L) q.1 q.2 j):=lH (by rw [rowJ_succ,hy])
   have hts:=tie_small N x.id j
   obtain ⟨T,hT⟩:∃ T,T=tieN N x.id j:=⟨_,rfl⟩
   rw [← hT] at hts TN
   have HTT:=lH hT
   obtain ⟨l,r⟩:=q
   have e0:wi.cell? ⟨x2,o2+j*2,none⟩=some (.int .i64 l):=hc2 0 _ rfl
   have e1:wi.cell? ⟨x2,o2+j*2+1,none⟩=some (.int .i64 r):=hc2 1 _ rfl
   have OWN:=lH own
   have KW:=lH kw
   rw [← hT]
   clear hT hc2 hq hy own kw
   have B16:=Blk.new wi [.int .i64 l,.int .i64 r] 128
   have kk:=Ex.new wi (.cells #[.int .i64 l,.int .i64 r] 128)
   obtain ⟨w4,hw4⟩:∃ w4,w4=wi.alloc (.cells #[.int .i64 l,.int .i64 r] 128):=⟨_,rfl⟩
   obtain ⟨g16,hg16⟩:∃ g16,g16=wi.heap.size:=⟨_,rfl⟩
   replace B16:Blk w4 g16 [.int .i64 l,.int .i64 r] 128:=by rw [hw4,hg16];exact B16
   rw [← hw4] at kk
   have Hw4:=lH hw4
   have Hg16:=lH hg16
   have K4:=lH kk
   have hj1:(j:Int)<(m:Int)+1:=by omega
   clear kk hw4 hg16
   go_upto_region 13 with fail
   rw [← Hg16.out,← Hw4.out]
   clear Hg16 Hw4
   clear e0 e1
   have f0:=B16.cell 0 _ rfl
   have f1:=B16.cell 1 _ rfl
   have B55:=Blk.new w4 [.int .i64 l,.int .i64 r] 3
   have kk:=Ex.new w4 (.cells #[.int .i64 l,.int .i64 r] 3)
   obtain ⟨w5,hw5⟩:∃ w5,w5=w4.alloc (.cells #[.int .i64 l,.int .i64 r] 3):=⟨_,rfl⟩
   obtain ⟨g55,hg55⟩:∃ g55,g55=w4.heap.size:=⟨_,rfl⟩
   replace B55:Blk w5 g55 [.int .i64 l,.int .i64 r] 3:=by rw [hw5,hg55];exact B55
   rw [← hw5] at kk
   have Hw5:=lH hw5
   have Hg55:=lH hg55
   have K5:=lH kk
   have B16:=lH (B16.nx kk)
   clear kk hw5 hg55
   have R1:=lH (show RmIn T l r w5 (.int .i64 (T:Int)) (.int .i64 0) w5 from ⟨0,by omega,by simp,rfl,rfl⟩)
   have hla:=hasN_le l
   have hlb:=hasN_le r
   go_upto_region 14 with fail
   rw [← Hg55.out,← Hw5.out]
   clear Hg55 Hw5 f0 f1
   go_loopw [14,57] (fun cnt i wr=>RmIn T l r w5 cnt i wr) (fun _ i _=>2-(intOf i).toNat)
   case atStart=>exact R1.out
   case round =>
    clear R1
    obtain ⟨q,hq,rfl,rfl,hwr⟩:=hrel
    obtain rfl:w5=wr:=hwr.symm
    by_cases h2:q=2
    ·subst h2
     have f0:=B16.out.cell 0 _ rfl
     have f1:=B16.out.cell 1 _ rfl
     have OW5:=(OWN.out.nx K4.out).nx K5.out
     have hjl:(rowJ N x.id j L).length≤1000:=by rw [rowJ_len];have:=HL2.out;omega
     have hjr:∀ c∈rowJ N x.id j L,j<c.2.length:=fun c hc=>by rw [rowJ_lv N x.id LV.out j c hc];omega
     have TS:Hid (T+(([hasN l,hasN r]).take 2).sum=tieN N x.id (j+1)):=lH (by rw [TN.out];simp)
     rw [TS.out]
     have OWH:=lH OW5
     clear B55 hla hlb
     go_wp2_with fail
     (with_reducible refine (join_p v qs (rowJ N x.id j L) l r j w.heap.size w5 OW5 hjl hjr).mono ?_)
     rintro e w6 ⟨rfl,own6,kq⟩
     have RR:=lH (show RmvRel N x.id L (m+1) v qs w (.int .i64 (tieN N x.id (j+1):Nat)) (.int .i64 ((j:Int)+1)) w6 from ⟨j+1,by omega,rfl,by go_num,by rw [RS.out];exact own6,kq.ex OWH.out (Nat.le_refl _) ((KW.out.nx K4.out).nx K5.out)⟩)
     clear own6 kq OW5 hjl hjr f0 f1
     go_wp2_with fail
     exact ⟨RR.out,by simp [intOf];omega⟩
    ·obtain ⟨u,hu⟩:∃ u,[l,r][q]?=some u:=by
      rcases (show q=0∨q=1 by omega) with h | h<;>subst h<;>exact ⟨_,rfl⟩
     have c0:=B55.cell q (.int .i64 u) (by rcases (show q=0∨q=1 by omega) with h | h<;>subst h<;>(cases hu;rfl))
     have SU:(([hasN l,hasN r]).take (q+1)).sum=(([hasN l,hasN r]).take q).sum+hasN u:=sum_take_succ _ _ _ (by rcases (show q=0∨q=1 by omega) with h | h<;>subst h<;>(cases hu;rfl))
     have SL:=sum_take_le [hasN l,hasN r] q
     obtain ⟨sq,hsq⟩:∃ sq,sq=(([hasN l,hasN r]).take q).sum:=⟨_,rfl⟩
     rw [← hsq] at SU SL ⊢
     have SU:=lH SU
     simp only [List.sum_cons,List.sum_nil] at SL
     have hq2:(q:Int)<2:=by omega
     have ht1:(T:Int)≤34:=by omega
     have hw1:IntKind.i64.wrap (((T+sq:Nat):Int)+1)=((T+sq:Nat):Int)+1:=IntWalk.i64_in _ (by omega)
     have hw2:IntKind.i64.wrap ((q:Int)+1)=(q:Int)+1:=IntWalk.i64_in _ (by omega)
     clear hu hsq
     by_cases hz:u=0
     ·subst hz
      go_wp2_with fail
      exact ⟨⟨q+1,by omega,by rw [SU.out];simp [hasN],by go_num,rfl⟩,by simp [intOf];omega⟩
     ·have d1:(u != 0)=true:=by simpa using hz
      have hu1:hasN u=1:=by unfold hasN;rw [if_neg hz]
      go_wp2_with fail
      exact ⟨⟨q+1,by omega,by rw [SU.out,hu1];go_num,by go_num,rfl⟩,by simp [intOf];omega⟩
  ·obtain rfl:j=m+1:=by omega
   have hql:qs.length=L.length:=by rw [own.2.1,rowJ_len]
   have hnl:=HL2.out
   have hk:A.length<qs.length:=by omega
   have hkI:IntKind.i64.wrap ((A.length:Int)+1)=(A.length:Int)+1:=IntWalk.i64_in _ (by omega)
   have OWN:=lH own
   have OW1:=own.1
   have KW:=kw
   have hjn2:¬ ((m:Int)+1<(m:Int)+1):=by omega
   have hql2:qs.length≤1000000:=by omega
   have hAj:A.length<(rowJ N x.id (m+1) L).length:=by rw [rowJ_len];omega
   have HQL:=lH hql
   have HNL:=lH hnl
   have HAJ:=lH hAj
   clear own kw hjn hj hql hnl hAj
   go_wp2_with fail
   (with_reducible refine (delete_lk v qs A.length w wi OW1 hk hql2 KW).mono ?_)
   rintro e w6 ⟨v',rfl,own6,k6,ch6⟩
   rw [List.eraseIdx_eq_take_drop_succ] at own6
   have O6:=OWN.out.erase (by decide) HAJ.out own6 ch6
   rw [EN.out] at O6
   have O6:=lH O6
   clear own6 ch6 OW1
   go_wp2_with fail
   go_ret3
   exact ⟨v',_,by rw [E.out];rfl,by rw [E.out];exact O6.out,k6⟩
end Go.Proofs.YthcholmhmcpooaaGreatDoor
