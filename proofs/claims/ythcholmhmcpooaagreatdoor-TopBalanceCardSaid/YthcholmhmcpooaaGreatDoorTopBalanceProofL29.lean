/- Texts for TopBalanceProof. -/
import Derived.Test.YthcholmhmcpooaaGreatDoorTopBalanceProofL19
import Derived.Test.YthcholmhmcpooaaGreatDoorTopBalanceProofL23
set_option linter.unusedSimpArgs false
set_option linter.unusedVariables false

namespace Go.Proofs.YthcholmhmcpooaaGreatDoor
open Go.RowKit
def ItPost (r:List Lkd×Nat×Int) (w:World) (e:Ending) (w':World):Prop :=
 ∃ v qs,e=.returned (.tuple #[v,.int .i64 (r.2.1:Nat),.int .i64 r.2.2])∧OwnLk w.heap.size w' v qs r.1∧Ex w w'
theorem ItPost.bad {r:List Lkd×Nat×Int} {e:Int} {w w':World} (hr:r=([],0,e)) (k:Ex w w'):ItPost r w (.returned (.tuple #[.slice none 0 0,.int .i64 0,.int .i64 e])) w':=by
 subst hr
 exact ⟨_,[],rfl,OwnN.nil _ _ _ _ _ _ _ _,k⟩
theorem Exq.ex {base:Nat} {w0 w w':World} {v:Value} {qs:List (Int×Hdr)} {L:List Lkd} (kq:Exq qs w w') (own:OwnLk base w v qs L) (hb:w0.heap.size≤base) (k:Ex w0 w):Ex w0 w' :=
 Chg.trans k (Chg.mono kq (fun _ hk=>⟨Nat.lt_of_lt_of_le hk k.size,fun hq=>by have:=(inQ_base own hq).1;omega⟩))
def RmvRel (N:List Nd) (id:Int) (L:List Lkd) (m:Nat) (v:Value) (qs:List (Int×Hdr)) (w:World) (cnt i:Value) (wr:World):Prop :=
 ∃ j:Nat,j≤m∧cnt=.int .i64 (tieN N id j:Nat)∧i=.int .i64 j∧OwnLk w.heap.size wr v qs (rowJ N id j L)∧Ex w wr
def RmIn (t:Nat) (a b:Int) (w:World) (cnt i:Value) (wr:World):Prop :=
 ∃ q:Nat,q≤2∧cnt=.int .i64 ((t+(([hasN a,hasN b]).take q).sum:Nat):Int)∧i=.int .i64 q∧wr=w
theorem hasN_le (v:Int):hasN v≤1:=by unfold hasN;split<;>omega
set_option maxRecDepth 100000 in
set_option maxHeartbeats 8000000 in
theorem remove_p (a:Option Addr) (n c:Nat) (N:List Nd) (a2:Option Addr) (n2 c2:Nat) (L:List Lkd) (id hh:Int) (w:World) (h:Sl 3 encN w a n N) (hn:n≤1000) (hc:n≤c) (hm:c≤maxLen) (hw:∀ x∈N,x.word<4294967296) (hT:TabG w)
  (h2:LkL w a2 n2 L) (hn2:n2≤1000000) (hs:∀ c∈L,c.2.length≤9223372036854775807) :
  Calls Tryz.prog 40 #[.slice a n c,.slice a2 n2 c2,.int .i64 id,.int .i64 hh] w (ItPost (removeN N L id hh) w):=by
 have HW:=lH hw
 have HS:=lH hs
 have HL:=lH h.len
 have HL2:=lH (NL.len h2)
 have EX:=Ex.refl w
 clear hs
 go_enter Tryz.func40,Tryz.ntmps40
 by_cases hl0:hh<0
 ·have E:Hid (removeN N L id hh=([],0,2)):=lH (by unfold removeN;rw [if_pos (by unfold lvlN;simp;omega)])
  go_wp2_with fail
  go_ret3
  exact ItPost.bad E.out EX
 by_cases hl1:hh>16
 ·have E:Hid (removeN N L id hh=([],0,2)):=lH (by unfold removeN;rw [if_pos (by unfold lvlN;simp;omega)])
  go_wp2_with fail
  go_ret3
  exact ItPost.bad E.out EX
 obtain ⟨m,rfl⟩:∃ m:Nat,hh=m:=⟨hh.toNat,by omega⟩
 have hm16:m≤16:=by omega
 have h2':=h2
 go_wp2_with fail
 (with_reducible refine (exact_p _ _ _ _ _ _ _ _ _ _ h hn hc hm hw hT h2 hn2 HS.out).mono ?_)
 rintro e w1 ⟨rfl,kk⟩
 replace h:=h.nx kk
 replace EX:=EX.nx kk
 clear kk
 by_cases he:exactI N L (m:Int)=false
 ·have E:Hid (removeN N L id m=([],0,1)):=lH (by unfold removeN;rw [if_neg (by rw [lvl_nat hm16];simp),if_pos he])
  rw [he]
  go_wp2_with fail
  go_ret3
  exact ItPost.bad E.out EX
 replace he:exactI N L (m:Int)=true:=by simpa using he
 rw [he]
 have HE:=lH he
 obtain ⟨h0,_,hL⟩:=exactI_yes he
 have h64:=check_len h0
 have hLl:L.length=N.length:=by
  have:=congrArg List.length (build_fst h0 hm16)
  rw [hL]
  simpa using this.trans (by rw [List.length_map,sortN_length])
 have hn2':n2≤64:=by have:=HL2.out;omega
 have HLL:=lH hLl
 have HLE:=lH hL
 have H0:=lH h0
 have LV:Hid (∀ c∈L,c.2.length=m+1):=lH (by rw [hL];exact build_lv h0 hm16)
 clear he hL h0 hLl hT
 go_wp2_with fail
 (with_reducible refine (rank_p _ _ _ _ id _ h hn hc hm).mono ?_)
 rintro e w2 ⟨rfl,kk⟩
 replace EX:=EX.nx kk
 clear kk
 by_cases hf:(findN N id).2=false
 ·have E:Hid (removeN N L id m=([],0,6)):=lH (by unfold removeN;rw [if_neg (by rw [lvl_nat hm16];simp),if_neg (by rw [HE.out];simp),if_pos hf])
  have hr:rankN N id=(0,false):=by unfold rankN;rw [find_noplace hf];rfl
  rw [hr]
  clear hr hf h
  go_wp2_with fail
  go_ret3
  exact ItPost.bad E.out EX
 obtain ⟨x,A,B,hx,rfl,e,hp⟩:=find_place H0.out (show (findN N id).2=true by simpa using hf)
 have hr:rankN N x.id=((A.length:Int),true):=by
  unfold rankN
  rw [hp]
  refine Prod.ext ?_ ?_
  ·show max ((A.length:Int)) 0=_;omega
  ·show decide (0≤(A.length:Int))=true;simp
 rw [hr]
 have hAl:A.length<n2:=by
  have h1:=sortN_length N
  rw [e] at h1
  have:=HLL.out
  have:=HL2.out
  simp at h1
  omega
 obtain ⟨R,hR,hRl,hRj⟩:=build_get H0.out hm16 e hx
 rw [← HLE.out] at hR
 have E:Hid (removeN N L x.id m=((buildN (dropN N x.id) m).1,tieN N x.id (m+1),0)):=lH (by rw [HLE.out];exact rem_ok H0.out hm16 hx)
 have EN:Hid ((rowJ N x.id (m+1) L).take A.length++(rowJ N x.id (m+1) L).drop (A.length+1)=(buildN (dropN N x.id) (m:Int)).1):=lH (by rw [HLE.out];exact rm_end H0.out HW.out hm16 e hx)
 clear hr hf hp h
 have z2:w.heap.size≤w2.heap.size:=EX.size
 go_wp2_with fail
 (with_reducible refine (clo_p _ _ _ _ _ (h2.nx EX) (by omega) (fun c hc=>by rw [LV.out c hc];omega)).mono ?_)
 rintro e w3 ⟨v,qs,rfl,own,kk⟩
 replace EX:=EX.nx kk
 have own:=OwnN.base own z2
 obtain ⟨x1,o1,a',n',c',d,rfl,hx1,hd,hcc,SR⟩:=h2.at hAl
 obtain rfl:d=(x.id,R):=by rw [hR] at hd;cases hd;rfl
 have hn':n'=m+1:=by rw [← SR.len];exact hRl
 subst hn'
 have e0:w3.cell? ⟨x1,o1+A.length*2+1,none⟩=some (.slice a' (m+1) c'):=EX.cellv (hcc 1 _ rfl) hx1
 have HSR:=lH SR
 have hRJ:=lH hRj
 have R0:=lH (show RmvRel N x.id L (m+1) v qs w (.int .i64 0) (.int .i64 0) w3 from ⟨0,by omega,rfl,rfl,own,EX⟩)
 have hA0:¬ (A.length:Int)<0:=by omega
 have hA1:(A.length:Int)<(n2:Int):=by omega
 have HE:=lH e
 clear kk own hd hcc SR hRj hR hRl e EX h2 z2 hx
 go_wp2_with fail
 go_loopw [14,46] (fun cnt i wr=>RmvRel N x.id L (m+1) v qs w cnt i wr) (fun _ i _=>m+1-(intOf i).toNat)
 case atStart=>exact R0.out
 case round =>
  clear R0 e0
  obtain ⟨j,hj,rfl,rfl,own,kw⟩:=hrel
  obtain ⟨wi,rfl⟩:∃ wi:World,wi=wr:=⟨_,rfl⟩
  by_cases hjn:j<m+1
  ·obtain ⟨x2,o2,q,rfl,hx2,hq,hc2⟩:=(HSR.out.nx kw).at hjn
   obtain ⟨y,hy⟩:∃ y,y=(neighN N x.id (j:Nat)).1:=⟨_,rfl⟩
   obtain rfl:q=y:=by rw [hRJ.out j (by omega),← hy] at hq;cases hq;rfl
   have TN:Hid (tieN N x.id (j+1)=tieN N x.id j+(hasN q.1+hasN q.2)):=lH (by rw [tieN_succ,hy])
   have RS:Hid (rowJ N x.id (j+1) L=joinJ (rowJ N x.id j L) q.1 q.2 j):=lH (by rw [rowJ_succ,hy])
   have hts:=tie_small N x.id j
   obtain ⟨T,hT⟩:∃ T,T=tieN N x.id j:=⟨_,rfl⟩
   rw [← hT] at hts TN
   have HTT:=lH hT
   obtain ⟨l,r⟩:=q
   have e0:wi.cell? ⟨x2,o2+j*2,none⟩=some (.int .i64 l):=hc2 0 _ rfl
   have e1:wi.cell? ⟨x2,o2+j*2+1,none⟩=some (.int .i64 r):=hc2 1 _ rfl
   have OWN:=lH own
   have KW:=lH kw
   rw [← hT]
   clear hT hc2 hq hy own kw
   have B16:=Blk.new wi [.int .i64 l,.int .i64 r] 128
   have kk:=Ex.new wi (.cells #[.int .i64 l,.int .i64 r] 128)
   obtain ⟨w4,hw4⟩:∃ w4,w4=wi.alloc (.cells #[.int .i64 l,.int .i64 r] 128):=⟨_,rfl⟩
   obtain ⟨g16,hg16⟩:∃ g16,g16=wi.heap.size:=⟨_,rfl⟩
   replace B16:Blk w4 g16 [.int .i64 l,.int .i64 r] 128:=by rw [hw4,hg16];exact B16
   rw [← hw4] at kk
   have Hw4:=lH hw4
   have Hg16:=lH hg16
   have K4:=lH kk
   have hj1:(j:Int)<(m:Int)+1:=by omega
   clear kk hw4 hg16
   go_upto_region 13 with fail
   rw [← Hg16.out,← Hw4.out]
   clear Hg16 Hw4
   clear e0 e1
   have f0:=B16.cell 0 _ rfl
   have f1:=B16.cell 1 _ rfl
   have B55:=Blk.new w4 [.int .i64 l,.int .i64 r] 3
   have kk:=Ex.new w4 (.cells #[.int .i64 l,.int .i64 r] 3)
   obtain ⟨w5,hw5⟩:∃ w5,w5=w4.alloc (.cells #[.int .i64 l,.int .i64 r] 3):=⟨_,rfl⟩
   obtain ⟨g55,hg55⟩:∃ g55,g55=w4.heap.size:=⟨_,rfl⟩
   replace B55:Blk w5 g55 [.int .i64 l,.int .i64 r] 3:=by rw [hw5,hg55];exact B55
   rw [← hw5] at kk
   have Hw5:=lH hw5
   have Hg55:=lH hg55
   have K5:=lH kk
   have B16:=lH (B16.nx kk)
   clear kk hw5 hg55
   have R1:=lH (show RmIn T l r w5 (.int .i64 (T:Int)) (.int .i64 0) w5 from ⟨0,by omega,by simp,rfl,rfl⟩)
   have hla:=hasN_le l
   have hlb:=hasN_le r
   go_upto_region 14 with fail
   rw [← Hg55.out,← Hw5.out]
   clear Hg55 Hw5 f0 f1
   go_loopw [14,57] (fun cnt i wr=>RmIn T l r w5 cnt i wr) (fun _ i _=>2-(intOf i).toNat)
   case atStart=>exact R1.out
   case round =>
    clear R1
    obtain ⟨q,hq,rfl,rfl,hwr⟩:=hrel
    obtain rfl:w5=wr:=hwr.symm
    by_cases h2:q=2
    ·subst h2
     have f0:=B16.out.cell 0 _ rfl
     have f1:=B16.out.cell 1 _ rfl
     have OW5:=(OWN.out.nx K4.out).nx K5.out
     have hjl:(rowJ N x.id j L).length≤1000:=by rw [rowJ_len];have:=HL2.out;omega
     have hjr:∀ c∈rowJ N x.id j L,j<c.2.length:=fun c hc=>by rw [rowJ_lv N x.id LV.out j c hc];omega
     have TS:Hid (T+(([hasN l,hasN r]).take 2).sum=tieN N x.id (j+1)):=lH (by rw [TN.out];simp)
     rw [TS.out]
     have OWH:=lH OW5
     clear B55 hla hlb
     go_wp2_with fail
     (with_reducible refine (join_p v qs (rowJ N x.id j L) l r j w.heap.size w5 OW5 hjl hjr).mono ?_)
     rintro e w6 ⟨rfl,own6,kq⟩
     have RR:=lH (show RmvRel N x.id L (m+1) v qs w (.int .i64 (tieN N x.id (j+1):Nat)) (.int .i64 ((j:Int)+1)) w6 from ⟨j+1,by omega,rfl,by go_num,by rw [RS.out];exact own6,kq.ex OWH.out (Nat.le_refl _) ((KW.out.nx K4.out).nx K5.out)⟩)
     clear own6 kq OW5 hjl hjr f0 f1
     go_wp2_with fail
     exact ⟨RR.out,by simp [intOf];omega⟩
    ·obtain ⟨u,hu⟩:∃ u,[l,r][q]?=some u:=by
      rcases (show q=0∨q=1 by omega) with h | h<;>subst h<;>exact ⟨_,rfl⟩
     have c0:=B55.cell q (.int .i64 u) (by rcases (show q=0∨q=1 by omega) with h | h<;>subst h<;>(cases hu;rfl))
     have SU:(([hasN l,hasN r]).take (q+1)).sum=(([hasN l,hasN r]).take q).sum+hasN u:=sum_take_succ _ _ _ (by rcases (show q=0∨q=1 by omega) with h | h<;>subst h<;>(cases hu;rfl))
     have SL:=sum_take_le [hasN l,hasN r] q
     obtain ⟨sq,hsq⟩:∃ sq,sq=(([hasN l,hasN r]).take q).sum:=⟨_,rfl⟩
     rw [← hsq] at SU SL ⊢
     have SU:=lH SU
     simp only [List.sum_cons,List.sum_nil] at SL
     have hq2:(q:Int)<2:=by omega
     have ht1:(T:Int)≤34:=by omega
     have hw1:IntKind.i64.wrap (((T+sq:Nat):Int)+1)=((T+sq:Nat):Int)+1:=IntWalk.i64_in _ (by omega)
     have hw2:IntKind.i64.wrap ((q:Int)+1)=(q:Int)+1:=IntWalk.i64_in _ (by omega)
     clear hu hsq
     by_cases hz:u=0
     ·subst hz
      go_wp2_with fail
      exact ⟨⟨q+1,by omega,by rw [SU.out];simp [hasN],by go_num,rfl⟩,by simp [intOf];omega⟩
     ·have d1:(u != 0)=true:=by simpa using hz
      have hu1:hasN u=1:=by unfold hasN;rw [if_neg hz]
      go_wp2_with fail
      exact ⟨⟨q+1,by omega,by rw [SU.out,hu1];go_num,by go_num,rfl⟩,by simp [intOf];omega⟩
  ·obtain rfl:j=m+1:=by omega
   have hql:qs.length=L.length:=by rw [own.2.1,rowJ_len]
   have hnl:=HL2.out
   have hk:A.length<qs.length:=by omega
   have hkI:IntKind.i64.wrap ((A.length:Int)+1)=(A.length:Int)+1:=IntWalk.i64_in _ (by omega)
   have OWN:=lH own
   have OW1:=own.1
   have KW:=kw
   have hjn2:¬ ((m:Int)+1<(m:Int)+1):=by omega
   have hql2:qs.length≤1000000:=by omega
   have hAj:A.length<(rowJ N x.id (m+1) L).length:=by rw [rowJ_len];omega
   have HQL:=lH hql
   have HNL:=lH hnl
   have HAJ:=lH hAj
   clear own kw hjn hj hql hnl hAj
   go_wp2_with fail
   (with_reducible refine (delete_lk v qs A.length w wi OW1 hk hql2 KW).mono ?_)
   rintro e w6 ⟨v',rfl,own6,k6,ch6⟩
   rw [List.eraseIdx_eq_take_drop_succ] at own6
   have O6:=OWN.out.erase (by decide) HAJ.out own6 ch6
   rw [EN.out] at O6
   have O6:=lH O6
   clear own6 ch6 OW1
   go_wp2_with fail
   go_ret3
   exact ⟨v',_,by rw [E.out];rfl,by rw [E.out];exact O6.out,k6⟩
def RevK (l:List Nd) (k:Nat) (R:List Nd):Prop:=R.length=l.length∧∀ i,i<l.length→R[i]?=if i<k∨l.length<i+k+1 then l[l.length-1-i]? else l[i]?
theorem RevK.zero (l:List Nd):RevK l 0 l:=⟨rfl,fun i hi=>by rw [if_neg (by omega)]⟩
theorem RevK.done {l R:List Nd} {k:Nat} (h:RevK l k R) (hk:l.length≤2*k+1):R=l.reverse:=by
 apply List.ext_getElem?
 intro i
 by_cases hi:i<l.length
 ·rw [h.2 i hi,List.getElem?_reverse hi]
  split
  ·rfl
  ·rw [show l.length-1-i=i by omega]
 ·rw [List.getElem?_eq_none (by rw [h.1];omega),List.getElem?_eq_none (by rw [List.length_reverse];omega)]
theorem RevK.at {l R:List Nd} {k:Nat} (h:RevK l k R) (hk:2*k+1<l.length):R[k]?=l[k]?∧R[l.length-1-k]?=l[l.length-1-k]?:=by
 constructor
 ·rw [h.2 k (by omega),if_neg (by omega)]
 ·rw [h.2 _ (by omega),if_neg (by omega)]
theorem RevK.step {l R:List Nd} {k:Nat} {a b:Nd} (h:RevK l k R) (hk:2*k+1<l.length) (ha:l[k]?=some a) (hb:l[l.length-1-k]?=some b):RevK l (k+1) ((R.set k b).set (l.length-1-k) a):=by
 refine ⟨by rw [List.length_set,List.length_set,h.1],fun i hi=>?_⟩
 have hl:=h.1
 by_cases h1:i=l.length-1-k
 ·subst h1
  rw [List.getElem?_set_self (by rw [List.length_set,hl];omega),if_pos (by omega),show l.length-1-(l.length-1-k)=k by omega,ha]
 ·rw [List.getElem?_set_ne (by omega)]
  by_cases h2:i=k
  ·subst h2
   rw [List.getElem?_set_self (by rw [hl];omega),if_pos (by omega),hb]
  ·rw [List.getElem?_set_ne (by omega),h.2 i hi]
   by_cases h3:i<k∨l.length<i+k+1
   ·rw [if_pos h3,if_pos (by omega)]
   ·rw [if_neg h3,if_neg (by omega)]
def RvRel (l:List Nd) (base:Nat) (v:Value) (w:World) (i j:Value) (wr:World):Prop :=
 ∃ (k:Nat) (R:List Nd),k≤l.length∧i=.int .i64 k∧j=.int .i64 ((l.length:Int)-1-k)∧OwnL 3 encN 36 base wr v R∧RevK l k R∧Chg (fun x=>x<w.heap.size∧¬ v.ownBlock=some x) w wr
set_option maxRecDepth 100000 in
set_option maxHeartbeats 4000000 in
theorem rev_n (v:Value) (l:List Nd) (base:Nat) (w:World) (h:OwnL 3 encN 36 base w v l) (hn:l.length≤1000) :
  Calls Tryz.prog 128 #[v] w fun e w'=>e=.returned (.tuple #[])∧OwnL 3 encN 36 base w' v l.reverse∧Chg (fun x=>x<w.heap.size∧¬ v.ownBlock=some x) w w':=by
 obtain ⟨a,cp,e,_,_,_,hg⟩:=h.rd (fun _=>rfl)
 subst e
 have HG:=lH hg
 have R0:=lH (show RvRel l base (.slice a l.length cp) w (.int .i64 0) (.int .i64 ((l.length:Int)-1)) w from ⟨0,l,by omega,rfl,by go_num,h,RevK.zero l,Chg.refl _ _⟩)
 have hw0:IntKind.i64.wrap ((l.length:Int)-1)=(l.length:Int)-1:=IntWalk.i64_in _ (by omega)
 clear h hg
 go_enter Tryz.func128,Tryz.ntmps128
 go_wp2_with fail
 go_loopw [2,3] (fun i j wr=>RvRel l base (.slice a l.length cp) w i j wr) (fun i _ _=>l.length-(intOf i).toNat)
 case atStart=>exact R0.out
 case round =>
  clear R0
  obtain ⟨k,R,hk,rfl,rfl,own,rk,kc⟩:=hrel
  obtain ⟨wi,rfl⟩:∃ wi:World,wi=wr:=⟨_,rfl⟩
  have KC:=lH kc
  have RK:=lH rk
  have OW:=lH own
  by_cases hlt:2*k+1<l.length
  ·have hI:(k:Int)<(l.length:Int)-1-(k:Int):=by omega
   obtain ⟨ya,hya⟩:∃ y,l[k]?=some y:=⟨l[k]'(by omega),by simp⟩
   obtain ⟨yb,hyb⟩:∃ y,l[l.length-1-k]?=some y:=⟨l[l.length-1-k]'(by omega),by simp⟩
   obtain ⟨g,hga,_⟩:=HG.out (fun h0=>by rw [h0] at hlt;simp at hlt)
   subst hga
   have RS:=lH (rk.step hlt hya hyb)
   obtain ⟨r1,r2⟩:=rk.at hlt
   rw [hya] at r1
   rw [hyb] at r2
   have hRl:=rk.1
   have SL:Sl 3 encN wi (some ⟨g,0,none⟩) l.length R:=OwnL.slv own (fun _=>rfl)
   obtain ⟨m,hm⟩:∃ m,m=l.length-1-k:=⟨_,rfl⟩
   have hmI:(l.length:Int)-1-(k:Int)=(m:Int):=by omega
   rw [← hm] at r2 RS hyb
   have hml:m<l.length:=by omega
   have hkl:k<l.length:=by omega
   have HM:=lH hm
   have hmlI:(m:Int)<(l.length:Int):=by omega
   have hklI:(k:Int)<(l.length:Int):=by omega
   obtain ⟨x1,o1,y1,e1,hx1,hy1,hc1⟩:=SL.at hkl
   obtain ⟨x2,o2,y2,e2,hx2,hy2,hc2⟩:=SL.at hml
   cases e1
   cases e2
   rw [r1] at hy1
   rw [r2] at hy2
   cases hy1
   cases hy2
   have c0:wi.cell? ⟨g,k*3,none⟩=some (.int .i64 ya.id):=by simpa using hc1 0 _ rfl
   have c1:wi.cell? ⟨g,k*3+1,none⟩=some (.string ya.key):=by simpa using hc1 1 _ rfl
   have c2:wi.cell? ⟨g,k*3+1+1,none⟩=some (.int .u32 ya.word):=by simpa [Nat.add_assoc] using hc1 2 _ rfl
   have d0:wi.cell? ⟨g,m*3,none⟩=some (.int .i64 yb.id):=by simpa using hc2 0 _ rfl
   have d1:wi.cell? ⟨g,m*3+1,none⟩=some (.string yb.key):=by simpa using hc2 1 _ rfl
   have d2:wi.cell? ⟨g,m*3+1+1,none⟩=some (.int .u32 yb.word):=by simpa [Nat.add_assoc] using hc2 2 _ rfl
   have CA:=lH (fun (wq:World) (hSw:Ex wi wq)=>(⟨Chg.cellv hSw c0 hx1,Chg.cellv hSw c1 hx1,Chg.cellv hSw c2 hx1⟩:_∧_∧_))
   have CB:=lH (fun (wq:World) (hSw:Ex wi wq)=>(⟨Chg.cellv hSw d0 hx1,Chg.cellv hSw d1 hx1,Chg.cellv hSw d2 hx1⟩:_∧_∧_))
   clear c0 c1 c2 d0 d1 d2 hc1 hc2 r1 r2 SL own rk kc hya hyb hm
   rw [hmI] at hI ⊢
   go_upto_region 3 with fail
   refine wp_region_late_drew (S:=Ex wi) [13,15] (by kernel_rfl) ((Ex.refl wi).drew) (fun hHeld=>?_)
   obtain ⟨wd,hwdx⟩:∃ wd:World,wd=World.drew wi:=⟨_,rfl⟩
   rw [← hwdx] at hHeld ⊢
   have hDrew:Ex wi wd:=by rw [hwdx];exact (Ex.refl wi).drew
   clear hwdx
   refine tkL 0 (v:=?_) rfl (by kernel_rfl) (fun _ _ _ h=>h) (by rfl) ?y5 hHeld ?_
   case y5=>intro wq hSw;go_simp<;>rfl
   try simp only [Act.put,sA,sB,sC]
   refine tkL 1 (v:=?_) rfl (by kernel_rfl) (fun _ _ _ h=>h) (by rfl) ?y8 hHeld ?_
   case y8=>intro wq hSw;go_simp<;>rfl
   try simp only [Act.put,sA,sB,sC]
   refine wpAnyL_takeP (i:=2) (oi:=⟨_,_,_,_,_,_⟩) (v:=?_) rfl (by kernel_rfl) (by kernel_rfl) (by kernel_rfl) (fun _ _ _ h=>h) (Or.inl ⟨by rfl,?y11⟩) ?_
   case y11=>intro wq hSw;go_simp<;>rfl
   try simp only [Act.put,sA,sB,sC]
   refine wpAnyL_takeP (i:=3) (oi:=⟨_,_,_,_,_,_⟩) (v:=?_) rfl (by kernel_rfl) (by kernel_rfl) (by kernel_rfl) (fun _ _ _ h=>h) (Or.inl ⟨by rfl,?y14⟩) ?_
   case y14=>intro wq hSw;go_simp<;>rfl
   try simp only [Act.put,sA,sB,sC]
   refine tkL 4 (v:=?_) rfl (by kernel_rfl) (fun _ _ _ h=>h) (by rfl) ?y17 hHeld ?_
   case y17=>intro wq hSw;go_simp<;>rfl
   try simp only [Act.put,sA,sB,sC]
   refine tkL 5 (v:=?_) rfl (by kernel_rfl) (fun _ _ _ h=>h) (by rfl) ?y20 hHeld ?_
   case y20=>intro wq hSw;go_simp<;>rfl
   try simp only [Act.put,sA,sB,sC]
   refine tkL 6 (v:=?_) rfl (by kernel_rfl) (fun _ _ _ h=>h) (by rfl) ?y23 hHeld ?_
   case y23=>intro wq hSw;go_simp<;>rfl
   try simp only [Act.put,sA,sB,sC]
   refine tkL 7 (v:=?_) rfl (by kernel_rfl) (fun _ _ _ h=>h) (by rfl) ?y26 hHeld ?_
   case y26=>intro wq hSw;(obtain ⟨q0,q1,q2⟩:=CB.out _ hSw;go_simp)<;>rfl
   try simp only [Act.put,sA,sB,sC]
   refine tkL 8 (v:=?_) rfl (by kernel_rfl) (fun _ _ _ h=>h) (by rfl) ?y29 hHeld ?_
   case y29=>intro wq hSw;go_simp<;>rfl
   try simp only [Act.put,sA,sB,sC]
   refine tkL 9 (v:=?_) rfl (by kernel_rfl) (fun _ _ _ h=>h) (by rfl) ?y32 hHeld ?_
   case y32=>intro wq hSw;go_simp<;>rfl
   try simp only [Act.put,sA,sB,sC]
   refine tkL 10 (v:=?_) rfl (by kernel_rfl) (fun _ _ _ h=>h) (by rfl) ?y35 hHeld ?_
   case y35=>intro wq hSw;go_simp<;>rfl
   try simp only [Act.put,sA,sB,sC]
   refine tkL 11 (v:=?_) rfl (by kernel_rfl) (fun _ _ _ h=>h) (by rfl) ?y38 hHeld ?_
   case y38=>intro wq hSw;(obtain ⟨q0,q1,q2⟩:=CA.out _ hSw;go_simp)<;>rfl
   try simp only [Act.put,sA,sB,sC]
   refine tkL 12 (v:=?_) rfl (by kernel_rfl) (fun _ _ _ h=>h) (by rfl) ?y41 hHeld ?_
   case y41=>intro wq hSw;go_simp<;>rfl
   try simp only [Act.put,sA,sB,sC]
   refine rLL 13 (by kernel_rfl) rfl (by rfl) fun K hK=>?_
   obtain ⟨⟨va,vb,vc,d0,d1,d2⟩,fz,OS⟩:=own_set3 (OW.out.nx hHeld) (j:=k) hkl yb
   have f0:=fz (k*3)
   have f1:=fz (k*3+1)
   have f2:=fz (k*3+1+1)
   have hk2:k*3+1+1=k*3+2:=rfl
   go_simp
   have O1:=OS
   clear d0 d1 d2 f0 f1 f2 fz OS
   refine hK.out _ _ ?_
   clear hK K
   try simp only [Act.put,sA,sB,sC]
   refine wpAnyL_takeP (i:=14) (oi:=⟨_,_,_,_,_,_⟩) (v:=?_) rfl (by kernel_rfl) (by kernel_rfl) (by kernel_rfl) (fun _ _ _ h=>h) (Or.inl ⟨by rfl,?y57⟩) ?_
   case y57=>intro wq hSw;go_simp<;>rfl
   try simp only [Act.put,sA,sB,sC]
   refine rLL 15 (by kernel_rfl) rfl (by rfl) fun K hK=>?_
   have fz:=(own_set3 (OW.out.nx hHeld) (j:=k) hkl yb).2.1
   have f0:=fz (m*3)
   have f1:=fz (m*3+1)
   have f2:=fz (m*3+1+1)
   obtain ⟨q0,q1,q2⟩:=CB.out _ hHeld
   have hk2:m*3+1+1=m*3+2:=rfl
   go_simp
   have O2:=(own_set3 O1 (j:=m) hml ya).2.2
   clear q0 q1 q2 f0 f1 f2 fz O1
   refine hK.out _ _ ?_
   clear hK K
   try simp only [Act.put,sA,sB,sC]
   refine wpAnyL_done (by kernel_rfl) ?_ _
   obtain ⟨w2,hw2⟩:∃ w2,w2=(((((wd.setCell ⟨g,k*3,none⟩ (.int .i64 yb.id)).setCell ⟨g,k*3+1,none⟩ (.string yb.key)).setCell ⟨g,k*3+2,none⟩ (.int .u32 yb.word)).setCell ⟨g,m*3,none⟩ (.int .i64 ya.id)).setCell ⟨g,m*3+1,none⟩ (.string ya.key)).setCell ⟨g,m*3+2,none⟩ (.int .u32 ya.word):=⟨_,rfl⟩
   rw [← hw2] at O2 ⊢
   have C1:Chg (fun x=>x<w.heap.size∧¬ (Value.slice (some ⟨g,0,none⟩) l.length cp).ownBlock=some x) w w2:=by
    have hS:∀ x,(x<w.heap.size∧¬ (Value.slice (some ⟨g,0,none⟩) l.length cp).ownBlock=some x)→x≠g:=fun x hx he=>hx.2 (by rw [he];rfl)
    rw [hw2]
    exact (((((Chg.trans KC.out (hHeld.mono (fun x hx=>Nat.lt_of_lt_of_le hx.1 KC.out.size))).setCell _ hS).setCell _ hS).setCell _ hS).setCell _ hS).setCell _ hS |>.setCell _ hS
   have hmk:(m:Int)-1=(l.length:Int)-1-((k+1:Nat):Int):=by have:=HM.out;omega
   have RR:=lH (show RvRel l base (.slice (some ⟨g,0,none⟩) l.length cp) w (.int .i64 ((k:Int)+1)) (.int .i64 ((m:Int)-1)) w2 from ⟨k+1,_,by omega,by go_num,by rw [hmk],O2,RS.out,C1⟩)
   have hwk:IntKind.i64.wrap ((k:Int)+1)=(k:Int)+1:=IntWalk.i64_in _ (by omega)
   have hwm:IntKind.i64.wrap ((m:Int)-1)=(m:Int)-1:=IntWalk.i64_in _ (by omega)
   clear C1 O2 hw2 hHeld hDrew hmk
   go_wp2_with fail
   exact ⟨RR.out,by simp [intOf];omega⟩
  ·have hI:¬ (k:Int)<(l.length:Int)-1-(k:Int):=by omega
   have ER:=rk.done (by omega)
   subst ER
   clear own kc rk
   go_wp2_with fail
   go_end0
   exact ⟨rfl,OW.out,KC.out⟩
def AllCut (l:List Nd) (base:Nat) (w:World) (v:Value) (wx:World):Prop:=OwnL 3 encN 36 base wx v l∧Ex w wx
def OutCut (L:List Lkd) (base:Nat) (w:World) (v:Value) (wx:World):Prop:=∃ qs,OwnLk base wx v qs L∧Ex w wx
theorem litNd {w0 u:World} (_:Ex w0 u) (y:Nd):∃ g v,g=u.heap.size∧v=u.alloc (.cells #[.int .i64 y.id,.string y.key,.int .u32 y.word] 36)∧Sl 3 encN v (some ⟨g,0,none⟩) 1 [y]∧Ex u v :=
 ⟨_,_,rfl,rfl,Sl.lit [y] rfl rfl (fun _=>rfl) rfl,Ex.new _ _⟩
theorem route_short (N:List Nd) (L:List Lkd) (frm:Int) (s:ByteArray):(routeN N L frm s).1.length≤65:=by
 by_cases h:checkN N≠0∨64<s.size
 ·rw [route_bad h];simp
 ·cases hf:(findN N frm).2 with
  | false=>rw [route_unk h hf];simp
  | true =>
   obtain ⟨m1,m2⟩:=findN_mem hf
   have h0:checkN N=0:=by
    by_cases h0:checkN N=0
    ·exact h0
    ·exact absurd (.inl h0) h
   have:=(appr_law (L:=L) h0 (k:=s) (by by_cases hs:64<s.size;exact absurd (.inr hs) h;omega) m1).2.1
   have:=check_len h0
   rw [← m2]
   omega
theorem newLk {w0 u:World} (k:Ex w0 u) (m M1:Nat) (hm:m≤16) (h:M1=m+1):∃ g v,u.heap.size=g∧(Instr.makeSlice 119 (.int .i64 ((m:Int)+1)) (.int .i64 ((m:Int)+1))).run Tryz.prog u=.ok (.slice (some ⟨g,0,none⟩) M1 M1) v ∧
  OwnL 2 encS 128 w0.heap.size v (.slice (some ⟨g,0,none⟩) M1 M1) (List.replicate M1 ((0:Int),(0:Int)))∧Ex u v∧g<v.heap.size:=by
 refine ⟨_,_,rfl,mkLk m M1 hm h u,?_,Ex.new _ _,heap_lt (heap_new u _)⟩
 have:=OwnL.lit (sz:=2) (enc:=encS) (e:=128) (base:=w0.heap.size) (w:=u) (List.replicate M1 ((0:Int),(0:Int))) (fun _=>rfl) k.size (by rw [List.length_replicate];unfold maxLen;omega) rfl
 rwa [List.length_replicate] at this
section
variable {base:Nat} {w:World} {v:Value} {qs:List (Int×Hdr)} {L:List Lkd} {g M1:Nat}
theorem fr_new (own:OwnLk base w v qs L) (hg:w.heap.size≤g):∀ (j:Nat) (r:Int×Hdr) (g':Nat),qs[j]?=some r→r.2.val.ownBlock=some g'→¬ (Value.slice (some ⟨g,0,none⟩) M1 M1).ownBlock=some g':=fun j r g' hr hg' hv=>by
 have h1:=OwnN.lt own hr hg'
 have h2:g=g':=by simpa [Value.ownBlock] using hv
 omega
theorem fr_old (own:OwnLk base w v qs L) (hg:g<base):∀ (j:Nat) (r:Int×Hdr) (g':Nat),qs[j]?=some r→r.2.val.ownBlock=some g'→¬ (Value.slice (some ⟨g,0,none⟩) M1 M1).ownBlock=some g':=fun j r g' hr hg' hv=>by
 have h1:=(OwnN.blk own hr hg').1
 have h2:g=g':=by simpa [Value.ownBlock] using hv
 omega
theorem hb_new (own:OwnLk base w v qs L) (hg:w.heap.size≤g):¬ v.ownBlock=some g:=fun he=>by
 obtain ⟨_,cur,hc⟩:=OwnW.blk own.1 he
 have:=heap_lt hc
 omega
theorem hb_old (own:OwnLk base w v qs L) (hg:g<base):¬ v.ownBlock=some g:=fun he=>by
 have h1:=(OwnW.blk own.1 he).1
 omega
end
theorem newLd {w0 u:World} (_:Ex w0 u) (id:Int) (hd:Hdr):∃ g v,g=u.heap.size∧v=u.alloc (.cells #[.int .i64 id,hd.val] 121)∧Blk v g [.int .i64 id,hd.val] 121∧Ex u v∧u.heap.size≤g :=
 ⟨_,_,rfl,rfl,Blk.new _ _ _,Ex.new _ _,Nat.le_refl _⟩
def InRel (M:List Nd) (x:Nd) (m H:Nat) (LJ:List Lkd) (v:Value) (qs:List (Int×Hdr)) (w:World) (vis i:Value) (wr:World):Prop :=
 ∃ j:Nat,j≤m+1∧vis=.int .i64 ((H+visS M x (min j m):Nat):Int)∧i=.int .i64 j∧OwnLk w.heap.size wr v qs (insJ M x.id j LJ)∧Ex w wr
def BbCut (A B:List Nd) (w:World) (v26 v27:Value) (wx:World):Prop :=
 OwnL 3 encN 36 w.heap.size wx v26 A∧(∃ a n c,v27=.slice a n c∧∀ cur,Ex w cur→Sl 3 encN cur a n B)∧Ex w wx
set_option maxRecDepth 100000 in
set_option maxHeartbeats 8000000 in
theorem insert_p (a:Option Addr) (n c:Nat) (N:List Nd) (a2:Option Addr) (n2 c2:Nat) (L:List Lkd) (x:Nd) (frm hh:Int) (w:World) (h:Sl 3 encN w a n N) (hn:n≤1000) (hc:n≤c) (hm:c≤maxLen) (hw:∀ x∈N,x.word<4294967296) (hxw:x.word<4294967296) (hT:TabG w)
  (h2:LkL w a2 n2 L) (hn2:n2≤1000000) (hs:∀ c∈L,c.2.length≤9223372036854775807) :
  Calls Tryz.prog 52 #[.slice a n c,.slice a2 n2 c2,.agg #[.int .i64 x.id,.string x.key,.int .u32 x.word],.int .i64 frm,.int .i64 hh] w (ItPost (insertN N L x frm hh) w):=by
 have HW:=lH hw
 have HS:=lH hs
 have HL:=lH h.len
 have HL2:=lH (NL.len h2)
 have EX:=Ex.refl w
 clear hs
 have B7:=Blk.new w [.int .i64 x.id,.string x.key,.int .u32 x.word] 36
 have kk:=Ex.new w (.cells #[.int .i64 x.id,.string x.key,.int .u32 x.word] 36)
 obtain ⟨w1,hw1⟩:∃ w1,w1=w.alloc (.cells #[.int .i64 x.id,.string x.key,.int .u32 x.word] 36):=⟨_,rfl⟩
 obtain ⟨g7,hg7⟩:∃ g7,g7=w.heap.size:=⟨_,rfl⟩
 replace B7:Blk w1 g7 [.int .i64 x.id,.string x.key,.int .u32 x.word] 36:=by rw [hw1,hg7];exact B7
 rw [← hw1] at kk
 have Hw1:=lH hw1
 have Hg7:=lH hg7
 replace h:=h.nx kk
 replace h2:=h2.nx kk
 replace hT:=hT.nx kk
 replace EX:=EX.nx kk
 clear kk hw1 hg7
 go_enter Tryz.func52,Tryz.ntmps52
 go_upto_region 1 with fail
 rw [← Hg7.out,← Hw1.out]
 clear Hg7 Hw1
 by_cases hl0:hh<0
 ·have E:Hid (insertN N L x frm hh=([],0,2)):=lH (by unfold insertN;rw [if_pos (by unfold lvlN;simp;omega)])
  go_wp2_with fail
  go_ret3
  exact ItPost.bad E.out EX
 by_cases hl1:hh>16
 ·have E:Hid (insertN N L x frm hh=([],0,2)):=lH (by unfold insertN;rw [if_pos (by unfold lvlN;simp;omega)])
  go_wp2_with fail
  go_ret3
  exact ItPost.bad E.out EX
 obtain ⟨m,rfl⟩:∃ m:Nat,hh=m:=⟨hh.toNat,by omega⟩
 have hm16:m≤16:=by omega
 go_wp2_with fail
 (with_reducible refine (exact_p _ _ _ _ _ _ _ _ _ _ h hn hc hm hw hT h2 hn2 HS.out).mono ?_)
 rintro e w2 ⟨rfl,kk⟩
 replace h:=h.nx kk
 replace EX:=EX.nx kk
 replace h2:=h2.nx kk
 replace hT:=hT.nx kk
 replace B7:=B7.nx kk
 clear kk
 by_cases he:exactI N L (m:Int)=false
 ·have E:Hid (insertN N L x frm m=([],0,1)):=lH (by unfold insertN;rw [if_neg (by rw [lvl_nat hm16];simp),if_pos he])
  rw [he]
  go_wp2_with fail
  go_ret3
  exact ItPost.bad E.out EX
 replace he:exactI N L (m:Int)=true:=by simpa using he
 rw [he]
 have HE:=lH he
 obtain ⟨h0,_,hL⟩:=exactI_yes he
 have h64:=check_len h0
 have hLl:L.length=N.length:=by
  have:=congrArg List.length (build_fst h0 hm16)
  rw [hL]
  simpa using this.trans (by rw [List.length_map,sortN_length])
 have hn2':n2≤64:=by have:=HL2.out;omega
 have hn':n≤64:=by have:=HL.out;omega
 have HLL:=lH hLl
 have HLE:=lH hL
 have H0:=lH h0
 have LV:Hid (∀ c∈L,c.2.length=m+1):=lH (by rw [hL];exact build_lv h0 hm16)
 have zw2:w.heap.size≤w2.heap.size:=EX.size
 have B7:=lH B7
 have HN:=lH h
 have H2:=lH h2
 have T2:=lH hT
 have EX:=lH EX
 clear he hL h0 hLl hT h h2 h64
 go_upto_region 5 with fail
 go_cut [13] from 29 to 149 (fun v wx=>AllCut (N++[x]) w.heap.size w2 v wx)
 case first =>
  refine wp_region_held_drew (S:=Ex w2) (by kernel_rfl) ((Ex.refl w2).drew) (fun hHeld=>?_)
  obtain ⟨wd,hwdx⟩:∃ wd:World,wd=World.drew w2:=⟨_,rfl⟩
  rw [← hwdx] at hHeld ⊢
  have hDrew:Ex w2 wd:=by rw [hwdx];exact (Ex.refl w2).drew
  clear hwdx
  refine tkH 0 (v:=?_) rfl (by kernel_rfl) (fun _ _ _ h=>h) (by rfl) ?y5 hHeld ?_
  case y5=>intro wq hSw;go_simp<;>rfl
  try simp only [Act.put,sA,sB,sC]
  refine tkH 2 (v:=?_) rfl (by kernel_rfl) (fun _ _ _ h=>h) (by rfl) ?y8 hHeld ?_
  case y8=>intro wq hSw;(have c0:=(B7.out.nx hSw).cell 0 _ rfl;have c1:=(B7.out.nx hSw).cell 1 _ rfl;have c2:=(B7.out.nx hSw).cell 2 _ rfl;go_simp)<;>rfl
  try simp only [Act.put,sA,sB,sC]
  refine wpAnyH_ready (rs:=[1,3]) (by kernel_rfl) (by simp) ?_
  refine AllReadyH.cons (o:=⟨_,_,_,_,_,_⟩) rfl (fun K hK=>?_) ?_
  ·go_simp
   have z0:=hHeld.size
   (with_reducible refine (clone_n _ _ _ N _ (HN.out.nx hHeld) hn).mono ?_)
   rintro e wc ⟨v2,rfl,own2,kk⟩
   replace own2:=OwnL.base own2 z0
   (try replace SX:=SX.nx kk)
   replace hHeld:=hHeld.nx kk
   clear kk z0
   refine hK.out _ _ (hHeld) (fun hHeld=>?_)
   clear hK K
   try simp only [Act.put,sA,sB,sC]
   refine rH 3 (by kernel_rfl) rfl fun K hK=>?_
   go_simp
   obtain ⟨gx,wq,hgx,hwq,SX,kk⟩:=litNd hHeld x
   rw [← hgx,← hwq]
   clear hgx hwq
   (try replace own2:=own2.nx kk)
   replace hHeld:=hHeld.nx kk
   clear kk
   refine hK.out _ _ (hHeld) (fun hHeld=>?_)
   clear hK K
   try simp only [Act.put,sA,sB,sC]
   refine rH 4 (by kernel_rfl) rfl fun K hK=>?_
   rw [if_pos (by rfl)]
   have z0:=hHeld.size
   refine wp_append_rd (enc:=encN) _ (.tmp 41) (.tmp 43) 25 rfl w2.heap.size 36 (.agg #[.int .i64 0,.string ByteArray.empty,.int .u32 0]) 3 32 Tryz.underlying25 Tryz.infoN rfl (by omega) (by omega) _ N own2 rfl _ _ 1 1 [x] SX (fun h=>by cases h) (fun _=>rfl) (by simp [encN,Value.oneCell']) rfl (by have:=HL.out;omega) (by omega) z0 ?_
   intro v8 w8 own8 ch0 ch1
   replace hHeld:Ex w2 w8:=Chg.trans hHeld ch1
   clear ch0 ch1 own2 SX
   have CUT:=lH (show AllCut (N++[x]) w.heap.size w2 v8 w8 from ⟨OwnL.base own8 zw2,hHeld⟩)
   refine hK.out _ _ (hHeld) (fun hHeld=>?_)
   clear hK K
   try simp only [Act.put,sA,sB,sC]
   refine tkH 5 (v:=?_) rfl (by kernel_rfl) (fun _ _ _ h=>h) (by rfl) ?y48 hHeld ?_
   case y48=>intro wq hSw;go_simp<;>rfl
   try simp only [Act.put,sA,sB,sC]
   refine wpAnyH_done (by kernel_rfl) ?_ _
   clear hHeld own8
   go_wp2_with fail
   go_meet
   exact CUT.out
  refine AllReadyH.cons (o:=⟨_,_,_,_,_,_⟩) rfl (fun K hK=>?_) AllReadyH.nil
  ·go_simp
   obtain ⟨gx,wq,hgx,hwq,SX,kk⟩:=litNd hHeld x
   rw [← hgx,← hwq]
   clear hgx hwq
   (try replace own2:=own2.nx kk)
   replace hHeld:=hHeld.nx kk
   clear kk
   refine hK.out _ _ (hHeld) (fun hHeld=>?_)
   clear hK K
   try simp only [Act.put,sA,sB,sC]
   refine rH 1 (by kernel_rfl) rfl fun K hK=>?_
   go_simp
   have z0:=hHeld.size
   (with_reducible refine (clone_n _ _ _ N _ (HN.out.nx hHeld) hn).mono ?_)
   rintro e wc ⟨v2,rfl,own2,kk⟩
   replace own2:=OwnL.base own2 z0
   (try replace SX:=SX.nx kk)
   replace hHeld:=hHeld.nx kk
   clear kk z0
   refine hK.out _ _ (hHeld) (fun hHeld=>?_)
   clear hK K
   try simp only [Act.put,sA,sB,sC]
   refine rH 4 (by kernel_rfl) rfl fun K hK=>?_
   rw [if_pos (by rfl)]
   have z0:=hHeld.size
   refine wp_append_rd (enc:=encN) _ (.tmp 41) (.tmp 43) 25 rfl w2.heap.size 36 (.agg #[.int .i64 0,.string ByteArray.empty,.int .u32 0]) 3 32 Tryz.underlying25 Tryz.infoN rfl (by omega) (by omega) _ N own2 rfl _ _ 1 1 [x] SX (fun h=>by cases h) (fun _=>rfl) (by simp [encN,Value.oneCell']) rfl (by have:=HL.out;omega) (by omega) z0 ?_
   intro v8 w8 own8 ch0 ch1
   replace hHeld:Ex w2 w8:=Chg.trans hHeld ch1
   clear ch0 ch1 own2 SX
   have CUT:=lH (show AllCut (N++[x]) w.heap.size w2 v8 w8 from ⟨OwnL.base own8 zw2,hHeld⟩)
   refine hK.out _ _ (hHeld) (fun hHeld=>?_)
   clear hK K
   try simp only [Act.put,sA,sB,sC]
   refine tkH 5 (v:=?_) rfl (by kernel_rfl) (fun _ _ _ h=>h) (by rfl) ?y89 hHeld ?_
   case y89=>intro wq hSw;go_simp<;>rfl
   try simp only [Act.put,sA,sB,sC]
   refine wpAnyH_done (by kernel_rfl) ?_ _
   clear hHeld own8
   go_wp2_with fail
   go_meet
   exact CUT.out
 case rest =>
  obtain ⟨own13,k3⟩:=hcut
  rename World=>w3
  obtain ⟨M,hM⟩:∃ M,M=N++[x]:=⟨_,rfl⟩
  rw [← hM] at own13
  have hMl:M.length≤65:=by rw [hM,List.length_append];have:=HL.out;simp;omega
  have HMW:Hid (∀ y∈M,y.word<4294967296):=lH (fun y hy=>by
   rw [hM] at hy
   rcases List.mem_append.1 hy with h | h
   ·exact HW.out y h
   ·rw [List.mem_singleton.1 h];exact hxw)
  have HM:=lH hM
  obtain ⟨a13,c13,rfl,S13,hc13,hm13⟩:=own13.sl3 (fun _=>rfl)
  have B7:=lH (B7.out.nx k3)
  have HN:=lH (HN.out.nx k3)
  have H2:=lH (H2.out.nx k3)
  have T2:=lH (T2.out.nx k3)
  have EX:=lH (EX.out.nx k3)
  clear own13 k3 hM
  go_wp2_with fail
  (with_reducible refine (check_p _ _ _ _ _ S13 (by omega) hc13 hm13).mono ?_)
  rintro e w4 ⟨rfl,kk⟩
  replace S13:=S13.nx kk
  replace B7:=lH (B7.out.nx kk)
  replace HN:=lH (HN.out.nx kk)
  replace H2:=lH (H2.out.nx kk)
  replace T2:=lH (T2.out.nx kk)
  replace EX:=lH (EX.out.nx kk)
  clear kk
  by_cases hck:checkN M=0
  case neg =>
   have E:Hid (insertN N L x frm m=([],0,checkN M)):=lH (by unfold insertN;rw [if_neg (by rw [lvl_nat hm16];simp),if_neg (by rw [HE.out];simp),← HM.out,if_pos hck])
   have d1:(checkN M != 0)=true:=by simpa using hck
   clear hck
   go_wp2_with fail
   go_ret3
   exact ItPost.bad E.out EX.out
  have HCK:=lH hck
  have hkx:Hid (x.key.size≤64):=lH (roster_ok hck x (by rw [HM.out];simp)).2.2.2.1
  rw [hck]
  clear hck
  go_upto_if 52 with fail
  go_cut [15] from 16 to 149 (fun v wx=>v=.int .i64 ((routeN N L frm x.key).1.length:Nat)∧(N=[]∨(findN N frm).2=true)∧Ex w4 wx)
  case first =>
   by_cases hn0:n=0
   ·have hN0:N=[]:=List.eq_nil_of_length_eq_zero (HL.out.trans hn0)
    have CUT:Hid ((routeN N L frm x.key).1.length=0):=lH (by
     rw [route_unk (by rintro (h | h);exact h H0.out;have:=hkx.out;omega) (by rw [hN0];rfl)]
     rfl)
    have HN0:=lH hN0
    have d1:¬ (n:Int)>0:=by omega
    clear hN0 hn0
    go_wp2_with fail
    go_meet
    exact ⟨by rw [CUT.out];rfl,.inl HN0.out,Ex.refl _⟩
   have d1:(n:Int)>0:=by omega
   have b1:=B7.out.cell 1 _ rfl
   go_wp2_with fail
   (with_reducible refine (route_p _ _ _ N _ _ _ L frm x.key _ HN.out hn hc hm H2.out hn2 HS.out).mono ?_)
   rintro e w5 ⟨v,rfl,ownH,kk⟩
   by_cases hf:(findN N frm).2=false
   ·have E:Hid (insertN N L x frm m=([],0,6)):=lH (by
     unfold insertN
     rw [if_neg (by rw [lvl_nat hm16];simp),if_neg (by rw [HE.out];simp),← HM.out,if_neg (by rw [HCK.out];simp),if_pos ⟨fun h=>by rw [h] at HL;have:=HL.out;simp at this;omega,hf⟩])
    have RT:(routeN N L frm x.key).2=6:=by rw [route_unk (by rintro (h | h);exact h H0.out;have:=hkx.out;omega) hf]
    rw [RT]
    have EXX:=EX.out.nx kk
    clear ownH hf RT kk
    go_wp2_with fail
    go_ret3
    exact ItPost.bad E.out EXX
   ·replace hf:(findN N frm).2=true:=by simpa using hf
    obtain ⟨m1,m2⟩:=findN_mem hf
    have AP:=(appr_law (L:=L) H0.out hkx.out m1).1
    rw [m2] at AP
    rw [AP]
    obtain ⟨aH,cH,rfl,_⟩:=ownH.rd (fun _=>rfl)
    have HF:=lH hf
    clear ownH hf AP m1 m2
    go_wp2_with fail
    go_meet
    exact ⟨rfl,.inr HF.out,kk⟩
  case rest=>
   obtain ⟨rfl,hfr,k5⟩:=hcut
   rename World=>w5
   obtain ⟨A,B,e,hr,hAl⟩:=rank_new (N:=N) (x:=x) (by rw [← HM.out];exact HCK.out)
   rw [← HM.out] at e hr
   have EA:=lH e
   have S13:=S13.nx k5
   have B7:=lH (B7.out.nx k5)
   have H2:=lH (H2.out.nx k5)
   have T2:=lH (T2.out.nx k5)
   have EX:=lH (EX.out.nx k5)
   have HFR:=lH hfr
   have hroute:=route_short N L frm x.key
   obtain ⟨H,hH⟩:∃ H,H=(routeN N L frm x.key).1.length:=⟨_,rfl⟩
   rw [← hH] at hroute ⊢
   have HH:=lH hH
   have b0:=B7.out.cell 0 _ rfl
   clear k5 hfr e hH HN
   go_wp2_with fail
   (with_reducible refine (rank_p _ _ _ _ x.id _ S13 (by omega) hc13 hm13).mono ?_)
   rintro e w6 ⟨rfl,kk⟩
   replace S13:=S13.nx kk
   replace B7:=lH (B7.out.nx kk)
   replace H2:=lH (H2.out.nx kk)
   replace T2:=lH (T2.out.nx kk)
   replace EX:=lH (EX.out.nx kk)
   clear kk
   rw [hr]
   clear hr b0
   have zw6:w.heap.size≤w6.heap.size:=EX.out.size
   have S13:=lH S13
   obtain ⟨M1,hM1⟩:∃ M1,M1=m+1:=⟨_,rfl⟩
   have HM1:=lH hM1
   have wrm:IntKind.i64.wrap ((m:Int)+1)=(m:Int)+1:=IntWalk.i64_in _ (by omega)
   have hAl2:A.length≤L.length:=by rw [HLL.out];exact hAl
   have HAL:=lH hAl2
   clear hM1 hAl2 hAl
   go_upto_region 16 with fail
   go_cut [20] from 29 to 149 (fun v wx=>OutCut (newJ L A.length x.id M1) w6.heap.size w6 v wx)
   case first =>
    refine wp_region_held_drew (S:=Ex w6) (by kernel_rfl) ((Ex.refl w6).drew) (fun hHeld=>?_)
    obtain ⟨wd,hwdx⟩:∃ wd:World,wd=World.drew w6:=⟨_,rfl⟩
    rw [← hwdx] at hHeld ⊢
    have hDrew:Ex w6 wd:=by rw [hwdx];exact (Ex.refl w6).drew
    clear hwdx
    refine tkH 0 (v:=?_) rfl (by kernel_rfl) (fun _ _ _ h=>h) (by rfl) ?y5 hHeld ?_
    case y5=>intro wq hSw;go_simp<;>rfl
    try simp only [Act.put,sA,sB,sC]
    refine tkH 2 (v:=?_) rfl (by kernel_rfl) (fun _ _ _ h=>h) (by rfl) ?y8 hHeld ?_
    case y8=>intro wq hSw;go_simp<;>rfl
    try simp only [Act.put,sA,sB,sC]
    refine tkH 3 (v:=?_) rfl (by kernel_rfl) (fun _ _ _ h=>h) (by rfl) ?y11 hHeld ?_
    case y11=>intro wq hSw;go_simp<;>rfl
    try simp only [Act.put,sA,sB,sC]
    refine tkH 4 (v:=?_) rfl (by kernel_rfl) (fun _ _ _ h=>h) (by rfl) ?y14 hHeld ?_
    case y14=>intro wq hSw;(have cq:=(B7.out.nx hSw).cell 0 _ rfl;go_simp)<;>rfl
    try simp only [Act.put,sA,sB,sC]
    refine tkH 5 (v:=?_) rfl (by kernel_rfl) (fun _ _ _ h=>h) (by rfl) ?y17 hHeld ?_
    case y17=>intro wq hSw;go_simp<;>rfl
    try simp only [Act.put,sA,sB,sC]
    refine tkH 6 (v:=?_) rfl (by kernel_rfl) (fun _ _ _ h=>h) (by rfl) ?y20 hHeld ?_
    case y20=>intro wq hSw;go_simp<;>rfl
    try simp only [Act.put,sA,sB,sC]
    refine wpAnyH_ready (rs:=[1,7]) (by kernel_rfl) (by simp) ?_
    refine AllReadyH.cons (o:=⟨_,_,_,_,_,_⟩) rfl (fun K hK=>?_) ?_
    ·go_simp
     have z0:=hHeld.size
     (with_reducible refine (clo_p _ _ _ L _ (H2.out.nx hHeld) (by omega) (fun c hc=>by rw [LV.out c hc];omega)).mono ?_)
     rintro e wc ⟨v2,qs,rfl,own2,kk⟩
     (try have FR:=fr_old (M1:=M1) own2 zg)
     (try have hne2:=hb_old own2 zg)
     (try have hne:=hb_old own2 zgx)
     replace own2:=OwnN.base own2 z0
     (try replace zg:=Nat.lt_of_lt_of_le zg kk.size)
     (try replace IN:=IN.nx kk)
     (try replace BX:=BX.nx kk)
     replace hHeld:=hHeld.nx kk
     clear kk z0
     refine hK.out _ _ (hHeld) (fun hHeld=>?_)
     clear hK K
     try simp only [Act.put,sA,sB,sC]
     refine rH 7 (by kernel_rfl) rfl fun K hK=>?_
     obtain ⟨g81,wm,hg81,cm,IN,kk,zg⟩:=newLk hHeld m M1 hm16 HM1.out
     go_simp
     clear cm
     (try have FR:=fr_new (M1:=M1) own2 (Nat.le_of_eq hg81))
     (try have hne2:=hb_new own2 (Nat.le_of_eq hg81))
     (try replace own2:=own2.nx kk)
     replace hHeld:=hHeld.nx kk
     clear kk hg81
     refine hK.out _ _ (hHeld) (fun hHeld=>?_)
     clear hK K
     try simp only [Act.put,sA,sB,sC]
     refine tkH 8 (v:=?_) rfl (by kernel_rfl) (fun _ _ _ h=>h) (by rfl) ?y54 hHeld ?_
     case y54=>intro wq hSw;go_simp<;>rfl
     try simp only [Act.put,sA,sB,sC]
     refine rH 9 (by kernel_rfl) rfl fun K hK=>?_
     go_simp
     obtain ⟨gx,wq,hgx,hwq,BX,kk,zx⟩:=newLd hHeld x.id (some ⟨g81,0,none⟩,M1,M1)
     simp only [Hdr.val] at hwq
     rw [← hgx,← hwq]
     (try have hne:=hb_new own2 zx)
     have zgx:gx<wq.heap.size:=BX.lt
     clear hgx hwq
     (try replace own2:=own2.nx kk)
     replace IN:=IN.nx kk
     replace hHeld:=hHeld.nx kk
     have zg:=Nat.lt_of_lt_of_le zg kk.size
     clear kk
     refine hK.out _ _ (hHeld) (fun hHeld=>?_)
     clear hK K
     try simp only [Act.put,sA,sB,sC]
     refine rH 10 (by kernel_rfl) rfl fun K hK=>?_
     go_simp
     have hql:qs.length≤1000:=by rw [own2.2.1];have:=HL2.out;omega
     have hqi:A.length≤qs.length:=by rw [own2.2.1];exact HAL.out
     have own3:=own2.1
     (with_reducible refine (insert_lk v2 qs w6.heap.size A.length (x.id,(some ⟨g81,0,none⟩,M1,M1)) gx _ own3 hHeld.size hql hqi BX hne).mono ?_)
     rintro e w8 ⟨v8,rfl,own8,ch⟩
     have O8:=OwnN.insert (by decide) own2 HAL.out own8 (IN.chg ch (fun k hk hv=>⟨hk,fun he=>hne2 (by cases hv;exact he)⟩)) ch FR
     replace hHeld:Ex w6 w8:=Chg.trans hHeld (Chg.mono ch (fun k hk=>⟨Nat.lt_of_lt_of_le hk hHeld.size,fun he=>by have h1:=(OwnW.blk own2.1 he).1;omega⟩))
     have CUT:=lH (show OutCut (newJ L A.length x.id M1) w6.heap.size w6 v8 w8 from ⟨_,O8,hHeld⟩)
     clear own8 ch O8 own2 own3 IN BX FR hne hne2 zg hql hqi
     refine hK.out _ _ (hHeld) (fun hHeld=>?_)
     clear hK K
     try simp only [Act.put,sA,sB,sC]
     refine tkH 11 (v:=?_) rfl (by kernel_rfl) (fun _ _ _ h=>h) (by rfl) ?y89 hHeld ?_
     case y89=>intro wq hSw;go_simp<;>rfl
     try simp only [Act.put,sA,sB,sC]
     refine wpAnyH_done (by kernel_rfl) ?_ _
     clear hHeld
     go_wp2_with fail
     go_meet
     exact CUT.out
    refine AllReadyH.cons (o:=⟨_,_,_,_,_,_⟩) rfl (fun K hK=>?_) AllReadyH.nil
    ·obtain ⟨g81,wm,hg81,cm,IN,kk,zg⟩:=newLk hHeld m M1 hm16 HM1.out
     go_simp
     clear cm
     (try have FR:=fr_new (M1:=M1) own2 (Nat.le_of_eq hg81))
     (try have hne2:=hb_new own2 (Nat.le_of_eq hg81))
     (try replace own2:=own2.nx kk)
     replace hHeld:=hHeld.nx kk
     clear kk hg81
     refine hK.out _ _ (hHeld) (fun hHeld=>?_)
     clear hK K
     try simp only [Act.put,sA,sB,sC]
     refine tkH 8 (v:=?_) rfl (by kernel_rfl) (fun _ _ _ h=>h) (by rfl) ?y106 hHeld ?_
     case y106=>intro wq hSw;go_simp<;>rfl
     try simp only [Act.put,sA,sB,sC]
     refine wpAnyH_ready (rs:=[1,9]) (by kernel_rfl) (by simp) ?_
     refine AllReadyH.cons (o:=⟨_,_,_,_,_,_⟩) rfl (fun K hK=>?_) ?_
     ·go_simp
      have z0:=hHeld.size
      (with_reducible refine (clo_p _ _ _ L _ (H2.out.nx hHeld) (by omega) (fun c hc=>by rw [LV.out c hc];omega)).mono ?_)
      rintro e wc ⟨v2,qs,rfl,own2,kk⟩
      (try have FR:=fr_old (M1:=M1) own2 zg)
      (try have hne2:=hb_old own2 zg)
      (try have hne:=hb_old own2 zgx)
      replace own2:=OwnN.base own2 z0
      (try replace zg:=Nat.lt_of_lt_of_le zg kk.size)
      (try replace IN:=IN.nx kk)
      (try replace BX:=BX.nx kk)
      replace hHeld:=hHeld.nx kk
      clear kk z0
      refine hK.out _ _ (hHeld) (fun hHeld=>?_)
      clear hK K
      try simp only [Act.put,sA,sB,sC]
      refine rH 9 (by kernel_rfl) rfl fun K hK=>?_
      go_simp
      obtain ⟨gx,wq,hgx,hwq,BX,kk,zx⟩:=newLd hHeld x.id (some ⟨g81,0,none⟩,M1,M1)
      simp only [Hdr.val] at hwq
      rw [← hgx,← hwq]
      (try have hne:=hb_new own2 zx)
      have zgx:gx<wq.heap.size:=BX.lt
      clear hgx hwq
      (try replace own2:=own2.nx kk)
      replace IN:=IN.nx kk
      replace hHeld:=hHeld.nx kk
      have zg:=Nat.lt_of_lt_of_le zg kk.size
      clear kk
      refine hK.out _ _ (hHeld) (fun hHeld=>?_)
      clear hK K
      try simp only [Act.put,sA,sB,sC]
      refine rH 10 (by kernel_rfl) rfl fun K hK=>?_
      go_simp
      have hql:qs.length≤1000:=by rw [own2.2.1];have:=HL2.out;omega
      have hqi:A.length≤qs.length:=by rw [own2.2.1];exact HAL.out
      have own3:=own2.1
      (with_reducible refine (insert_lk v2 qs w6.heap.size A.length (x.id,(some ⟨g81,0,none⟩,M1,M1)) gx _ own3 hHeld.size hql hqi BX hne).mono ?_)
      rintro e w8 ⟨v8,rfl,own8,ch⟩
      have O8:=OwnN.insert (by decide) own2 HAL.out own8 (IN.chg ch (fun k hk hv=>⟨hk,fun he=>hne2 (by cases hv;exact he)⟩)) ch FR
      replace hHeld:Ex w6 w8:=Chg.trans hHeld (Chg.mono ch (fun k hk=>⟨Nat.lt_of_lt_of_le hk hHeld.size,fun he=>by have h1:=(OwnW.blk own2.1 he).1;omega⟩))
      have CUT:=lH (show OutCut (newJ L A.length x.id M1) w6.heap.size w6 v8 w8 from ⟨_,O8,hHeld⟩)
      clear own8 ch O8 own2 own3 IN BX FR hne hne2 zg hql hqi
      refine hK.out _ _ (hHeld) (fun hHeld=>?_)
      clear hK K
      try simp only [Act.put,sA,sB,sC]
      refine tkH 11 (v:=?_) rfl (by kernel_rfl) (fun _ _ _ h=>h) (by rfl) ?y159 hHeld ?_
      case y159=>intro wq hSw;go_simp<;>rfl
      try simp only [Act.put,sA,sB,sC]
      refine wpAnyH_done (by kernel_rfl) ?_ _
      clear hHeld
      go_wp2_with fail
      go_meet
      exact CUT.out
     refine AllReadyH.cons (o:=⟨_,_,_,_,_,_⟩) rfl (fun K hK=>?_) AllReadyH.nil
     ·go_simp
      obtain ⟨gx,wq,hgx,hwq,BX,kk,zx⟩:=newLd hHeld x.id (some ⟨g81,0,none⟩,M1,M1)
      simp only [Hdr.val] at hwq
      rw [← hgx,← hwq]
      (try have hne:=hb_new own2 zx)
      have zgx:gx<wq.heap.size:=BX.lt
      clear hgx hwq
      (try replace own2:=own2.nx kk)
      replace IN:=IN.nx kk
      replace hHeld:=hHeld.nx kk
      have zg:=Nat.lt_of_lt_of_le zg kk.size
      clear kk
      refine hK.out _ _ (hHeld) (fun hHeld=>?_)
      clear hK K
      try simp only [Act.put,sA,sB,sC]
      refine rH 1 (by kernel_rfl) rfl fun K hK=>?_
      go_simp
      have z0:=hHeld.size
      (with_reducible refine (clo_p _ _ _ L _ (H2.out.nx hHeld) (by omega) (fun c hc=>by rw [LV.out c hc];omega)).mono ?_)
      rintro e wc ⟨v2,qs,rfl,own2,kk⟩
      (try have FR:=fr_old (M1:=M1) own2 zg)
      (try have hne2:=hb_old own2 zg)
      (try have hne:=hb_old own2 zgx)
      replace own2:=OwnN.base own2 z0
      (try replace zg:=Nat.lt_of_lt_of_le zg kk.size)
      (try replace IN:=IN.nx kk)
      (try replace BX:=BX.nx kk)
      replace hHeld:=hHeld.nx kk
      clear kk z0
      refine hK.out _ _ (hHeld) (fun hHeld=>?_)
      clear hK K
      try simp only [Act.put,sA,sB,sC]
      refine rH 10 (by kernel_rfl) rfl fun K hK=>?_
      go_simp
      have hql:qs.length≤1000:=by rw [own2.2.1];have:=HL2.out;omega
      have hqi:A.length≤qs.length:=by rw [own2.2.1];exact HAL.out
      have own3:=own2.1
      (with_reducible refine (insert_lk v2 qs w6.heap.size A.length (x.id,(some ⟨g81,0,none⟩,M1,M1)) gx _ own3 hHeld.size hql hqi BX hne).mono ?_)
      rintro e w8 ⟨v8,rfl,own8,ch⟩
      have O8:=OwnN.insert (by decide) own2 HAL.out own8 (IN.chg ch (fun k hk hv=>⟨hk,fun he=>hne2 (by cases hv;exact he)⟩)) ch FR
      replace hHeld:Ex w6 w8:=Chg.trans hHeld (Chg.mono ch (fun k hk=>⟨Nat.lt_of_lt_of_le hk hHeld.size,fun he=>by have h1:=(OwnW.blk own2.1 he).1;omega⟩))
      have CUT:=lH (show OutCut (newJ L A.length x.id M1) w6.heap.size w6 v8 w8 from ⟨_,O8,hHeld⟩)
      clear own8 ch O8 own2 own3 IN BX FR hne hne2 zg hql hqi
      refine hK.out _ _ (hHeld) (fun hHeld=>?_)
      clear hK K
      try simp only [Act.put,sA,sB,sC]
      refine tkH 11 (v:=?_) rfl (by kernel_rfl) (fun _ _ _ h=>h) (by rfl) ?y213 hHeld ?_
      case y213=>intro wq hSw;go_simp<;>rfl
      try simp only [Act.put,sA,sB,sC]
      refine wpAnyH_done (by kernel_rfl) ?_ _
      clear hHeld
      go_wp2_with fail
      go_meet
      exact CUT.out
   case rest=>
    obtain ⟨qs,own20,k7⟩:=hcut
    rename World=>w7
    obtain ⟨LJ,hLJ⟩:∃ LJ,LJ=newJ L A.length x.id M1:=⟨_,rfl⟩
    rw [← hLJ] at own20
    have LVJ:Hid (∀ c∈LJ,c.2.length=m+1):=lH (by rw [hLJ,HM1.out];exact newJ_lv LV.out A.length x.id)
    have LLJ:Hid (LJ.length≤65):=lH (by rw [hLJ,newJ_len];have:=HL2.out;omega)
    have EJ:Hid (insJ M x.id (m+1) LJ=(buildN M (m:Int)).1):=lH (by
     have h1:=HCK.out
     have h2:=EA.out
     rw [HM.out] at h1 h2 ⊢
     rw [hLJ,HM1.out,HLE.out]
     exact in_end h1 (by rw [← HM.out];exact HMW.out) hm16 h2)
    have HXM:Hid (x∈M):=lH (by rw [HM.out];simp)
    have OWN20:=lH own20
    have R0:=lH (show InRel M x m H LJ u20 qs w6 (.int .i64 (H:Int)) (.int .i64 0) w7 from ⟨0,by omega,by simp [visS],rfl,own20,k7⟩)
    clear own20 k7 hLJ
    go_wp2_with fail
    go_loopw [15,87] (fun vis i wr=>InRel M x m H LJ u20 qs w6 vis i wr) (fun _ i _=>m+1-(intOf i).toNat)
    case atStart=>exact R0.out
    case round =>
     clear R0
     obtain ⟨j,hj,rfl,rfl,own,kw⟩:=hrel
     obtain ⟨wi,rfl⟩:∃ wi:World,wi=wr:=⟨_,rfl⟩
     by_cases hjn:j<m+1
     ·have hj16:j≤16:=by omega
      have hmin:min j m=j:=by omega
      rw [hmin]
      obtain ⟨A',B',eg⟩:=grp_at HXM.out (lvl_nat hj16)
      have hvs:=visS_small HCK.out HXM.out (h:=j) (by omega)
      have hvs2:visS M x j≤16*65:=Nat.le_trans hvs (Nat.mul_le_mul hj16 hMl)
      have hv1:=vis_small HCK.out HXM.out (lev:=j) hj16
      have hv0:=vis_at HCK.out eg
      have VA:Hid (visS M x (j+1)=visS M x j+(untN j x A'.reverse+untN j x B')):=lH (by rw [visS_succ,hv0])
      rw [hv0] at hv1
      obtain ⟨V,hV⟩:∃ V,V=visS M x j:=⟨_,rfl⟩
      have HV:=lH hV
      rw [← hV] at hvs2 VA ⊢
      obtain ⟨hGA,hGB⟩:=grp_parts HCK.out eg
      have hGl:A'.length+1+B'.length≤65:=by
       have h1:(grpS M (j:Int) x.word).length≤M.length:=by
        unfold grpS groupN
        exact Nat.le_trans (List.length_filter_le _ _) (Nat.le_of_eq (sortN_length M))
       rw [eg,List.length_append,List.length_cons] at h1
       omega
      obtain ⟨y,hy⟩:∃ y,y=(neighN M x.id (j:Nat)).1:=⟨_,rfl⟩
      have IJ:Hid (insJ M x.id (j+1) LJ=joinJ (joinJ (insJ M x.id j LJ) y.1 x.id j) x.id y.2 j):=lH (by rw [insJ_succ,hy])
      have hjl:(insJ M x.id j LJ).length≤1000:=by rw [insJ_len];have:=LLJ.out;omega
      have hjr:∀ c∈insJ M x.id j LJ,j<c.2.length:=fun c hc=>by rw [insJ_lv M x.id LVJ.out j c hc];omega
      have hjl2:(joinJ (insJ M x.id j LJ) y.1 x.id j).length≤1000:=by rw [joinJ_len];exact hjl
      have hjr2:∀ c∈joinJ (insJ M x.id j LJ) y.1 x.id j,j<c.2.length:=fun c hc=>by rw [joinJ_lv (insJ_lv M x.id LVJ.out j) _ _ _ c hc];omega
      obtain ⟨LI,hLI⟩:∃ LI,LI=insJ M x.id j LJ:=⟨_,rfl⟩
      rw [← hLI] at IJ hjl hjr hjl2 hjr2 own
      obtain ⟨l,r⟩:=y
      have HJR:=lH hjr
      have HJR2:=lH hjr2
      have HGA:=lH hGA
      have HGB:=lH hGB
      have EG:=lH eg
      have HY:=lH hy
      have OWN:=lH own
      have B7w:=B7
      have S13w:=S13
      have T2w:=T2
      have B7:=lH (B7.out.nx kw)
      have S13:=lH (S13.out.nx kw)
      have T2:=lH (T2.out.nx kw)
      have KW:=lH kw
      have b0:=B7.out.cell 0 _ rfl
      have hj1:(j:Int)<(m:Int)+1:=by omega
      clear hvs hv0 hV hGA hGB hy hLI own kw eg hjr hjr2 hmin
      go_wp2_with fail
      (with_reducible refine (neigh_p _ _ _ M x.id (j:Int) _ S13.out (by omega) hc13 hm13 HMW.out T2.out).mono ?_)
      rintro e w8 ⟨rfl,kk⟩
      replace B7:=lH (B7.out.nx kk)
      replace S13:=lH (S13.out.nx kk)
      replace T2:=lH (T2.out.nx kk)
      replace KW:=lH (KW.out.nx kk)
      replace OWN:=lH (OWN.out.nx kk)
      clear kk
      rw [← HY.out]
      have zi:=OWN.out
      have B22:=Blk.new w8 [.int .i64 l,.int .i64 r] 128
      have kk:=Ex.new w8 (.cells #[.int .i64 l,.int .i64 r] 128)
      obtain ⟨w9,hw9⟩:∃ w9,w9=w8.alloc (.cells #[.int .i64 l,.int .i64 r] 128):=⟨_,rfl⟩
      obtain ⟨g22,hg22⟩:∃ g22,g22=w8.heap.size:=⟨_,rfl⟩
      replace B22:Blk w9 g22 [.int .i64 l,.int .i64 r] 128:=by rw [hw9,hg22];exact B22
      rw [← hw9] at kk
      have Hw9:=lH hw9
      have Hg22:=lH hg22
      replace B7:=lH (B7.out.nx kk)
      replace S13:=lH (S13.out.nx kk)
      replace T2:=lH (T2.out.nx kk)
      replace KW:=lH (KW.out.nx kk)
      replace OWN:=lH (OWN.out.nx kk)
      have hg22n:¬ InQ qs g22:=fun hq=>by have:=(inQ_base zi hq).2;omega
      have HNQ:=lH hg22n
      clear b0 zi kk hw9 hg22 hg22n
      go_upto_region 21 with fail
      rw [← Hg22.out,← Hw9.out]
      clear Hg22 Hw9
      have f0:=B22.cell 0 _ rfl
      have b0:=B7.out.cell 0 _ rfl
      have own9:=OWN.out
      go_wp2_with fail
      (with_reducible refine (join_p u20 qs LI l x.id j w6.heap.size w9 own9 hjl HJR.out).mono ?_)
      rintro e w10 ⟨rfl,own10,kq⟩
      have f1:w10.cell? ⟨g22,1,none⟩=some (.int .i64 r):=Chg.cellv kq (B22.cell 1 _ rfl) ⟨B22.lt,HNQ.out⟩
      have k10:Ex w6 w10:=kq.ex own9 (Nat.le_refl _) KW.out
      have B7:=lH (B7w.out.nx k10)
      have b0:=B7.out.cell 0 _ rfl
      have OWN:=lH own10
      have own9:=own10
      have KW:=lH k10
      clear kq own10 k10 B22 f0
      go_wp2_with fail
      (with_reducible refine (join_p u20 qs (joinJ LI l x.id j) x.id r j w6.heap.size w10 own9 hjl2 HJR2.out).mono ?_)
      rintro e w11 ⟨rfl,own11,kq⟩
      have k11:Ex w6 w11:=kq.ex own9 (Nat.le_refl _) KW.out
      have B7:=lH (B7w.out.nx k11)
      have S13:=lH (S13w.out.nx k11)
      have T2:=lH (T2w.out.nx k11)
      have OWN:=lH own11
      have KW:=lH k11
      clear kq own11 k11 own9 f1 b0
      go_upto_region 23 with fail
      refine wp_region_held_drew (S:=Ex w11) (by kernel_rfl) ((Ex.refl w11).drew) (fun hHeld=>?_)
      obtain ⟨wd,hwdx⟩:∃ wd:World,wd=World.drew w11:=⟨_,rfl⟩
      rw [← hwdx] at hHeld ⊢
      have hDrew:Ex w11 wd:=by rw [hwdx];exact (Ex.refl w11).drew
      clear hwdx
      refine tkH 0 (v:=?_) rfl (by kernel_rfl) (fun _ _ _ h=>h) (by rfl) ?y5 hHeld ?_
      case y5=>intro wq hSw;go_simp<;>rfl
      try simp only [Act.put,sA,sB,sC]
      refine tkH 2 (v:=?_) rfl (by kernel_rfl) (fun _ _ _ h=>h) (by rfl) ?y8 hHeld ?_
      case y8=>intro wq hSw;go_simp<;>rfl
      try simp only [Act.put,sA,sB,sC]
      refine tkH 3 (v:=?_) rfl (by kernel_rfl) (fun _ _ _ h=>h) (by rfl) ?y11 hHeld ?_
      case y11=>intro wq hSw;go_simp<;>rfl
      try simp only [Act.put,sA,sB,sC]
      refine tkH 4 (v:=?_) rfl (by kernel_rfl) (fun _ _ _ h=>h) (by rfl) ?y14 hHeld ?_
      case y14=>intro wq hSw;(have cq:=(B7.out.nx hSw).cell 2 _ rfl;go_simp)<;>rfl
      try simp only [Act.put,sA,sB,sC]
      refine rH 1 (by kernel_rfl) rfl fun K hK=>?_
      go_simp
      (with_reducible refine (sort_p _ _ _ M _ (S13.out.nx hHeld) (by omega)).mono ?_)
      rintro e ws ⟨vS,S,rfl,ownS,⟨hp,hsrt⟩,kk⟩
      obtain rfl:S=sortN M:=sortN_unique (check_keys HCK.out) hp hsrt
      obtain ⟨aS,cS,rfl,SS,_,_⟩:=ownS.sl3 (fun _=>rfl)
      replace hHeld:=hHeld.nx kk
      clear kk hp hsrt ownS
      refine hK.out _ _ (hHeld) (fun hHeld=>?_)
      clear hK K
      try simp only [Act.put,sA,sB,sC]
      refine rH 5 (by kernel_rfl) rfl fun K hK=>?_
      go_simp
      have z0:=hHeld.size
      (with_reducible refine (group_o _ _ _ (sortN M) (j:Int) x.word _ SS (by rw [sortN_length];omega) (fun y hy=>HMW.out y ((sortN_mem M y).1 hy)) hxw (T2.out.nx hHeld)).mono ?_)
      rintro e wg ⟨vG,rfl,ownG,kk⟩
      replace ownG:=OwnL.base ownG z0
      replace hHeld:=hHeld.nx kk
      clear kk SS z0
      refine hK.out _ _ (hHeld) (fun hHeld=>?_)
      clear hK K
      try simp only [Act.put,sA,sB,sC]
      refine tkH 6 (v:=?_) rfl (by kernel_rfl) (fun _ _ _ h=>h) (by rfl) ?y41 hHeld ?_
      case y41=>intro wq hSw;go_simp<;>rfl
      try simp only [Act.put,sA,sB,sC]
      refine wpAnyH_done (by kernel_rfl) ?_ _
      rw [show groupN (sortN M) (j:Int) x.word=A'++x::B' from EG.out] at ownG
      obtain ⟨aG,cG,rfl,SG,hcG,hmG⟩:=ownG.sl3 (fun _=>rfl)
      have hnl:(A'++x::B').length=A'.length+1+B'.length:=by simp;omega
      obtain ⟨nG,hnG⟩:∃ nG,nG=(A'++x::B').length:=⟨_,rfl⟩
      rw [← hnG] at SG hcG hnl ⊢
      have hAx:(A'++x::B')[A'.length]?=some x:=by simp
      have hAn:∀ i z,i<A'.length→(A'++x::B')[i]?=some z→z.id≠x.id:=fun i z hi hz=>by
       rw [List.getElem?_append_left hi] at hz
       exact (HGA.out z (List.mem_of_getElem? hz)).2
      have B7:=lH (B7.out.nx hHeld)
      have KW:=lH (KW.out.nx hHeld)
      have OWN:=lH (OWN.out.nx hHeld)
      have T2:=lH (T2.out.nx hHeld)
      have b0:=B7.out.cell 0 _ rfl
      have b1:=B7.out.cell 1 _ rfl
      have b2:=B7.out.cell 2 _ rfl
      have NG:=lH hnl
      have hn65:nG≤65:=by omega
      obtain ⟨x1,o1,y1,rfl,hx1,hy1,hc1⟩:=SG.at (j:=A'.length) (by omega)
      clear hy1 hc1 hx1 ownG hnG hHeld hDrew hnl
      go_wp2_with fail
      (with_reducible refine (index_n _ _ _ (A'++x::B') x A'.length _ SG (by omega) hAx hAn).mono ?_)
      rintro e w12 ⟨rfl,kk⟩
      replace B7:=lH (B7.out.nx kk)
      replace KW:=lH (KW.out.nx kk)
      replace OWN:=lH (OWN.out.nx kk)
      replace T2:=lH (T2.out.nx kk)
      replace SG:=SG.nx kk
      clear kk
      have STA:Hid (∀ cur,Ex w12 cur→Sl 3 encN cur (some ⟨x1,o1,none⟩) A'.length A'):=lH (fun cur k=>by
       have:=(SG.nx k).take (m:=A'.length) (by have:=NG.out;omega)
       rwa [List.take_left] at this)
      have STB:Hid (∀ cur,Ex w12 cur→Sl 3 encN cur (some ⟨x1,o1+(A'.length+1)*3,none⟩) (nG-(A'.length+1)) B'):=lH (fun cur k=>by
       have:=(SG.nx k).drop (m:=A'.length+1) (by have:=NG.out;omega)
       rwa [List.drop_append,List.drop_of_length_le (by omega),List.nil_append,Nat.add_sub_cancel_left,List.drop_succ_cons,List.drop_zero] at this)
      have hA65:A'.length≤1000:=by omega
      clear SG hAx hAn b0 b1 b2
      have i1:(0:Int)≤(A'.length:Int)+1:=by omega
      have i2:(A'.length:Int)+1≤(nG:Int):=by have:=NG.out;omega
      have i3:(A'.length:Int)≤(cG:Int):=by have:=NG.out;omega
      have i4:IntKind.i64.wrap ((A'.length:Int)+1)=(A'.length:Int)+1:=IntWalk.i64_in _ (by omega)
      have i5:((A'.length:Int)+1).toNat=A'.length+1:=by omega
      have i6:(nG:Int)≤(cG:Int):=by omega
      have i7:A'.length≤nG:=by omega
      go_upto_region 25 with fail
      go_cut [26,27] from 88 to 149 (fun v26 v27 wx=>BbCut A' B' w12 v26 v27 wx)
      case first =>
       by_cases hcap:cG=A'.length+1
       ·have hcap2:A'.length+1=cG:=hcap.symm
        have SB:=lH (fun (cur:World)=>show Sl 3 encN cur (some ⟨x1,o1,none⟩) 0 B' from by
         have h1:B'.length=0:=by have:=NG.out;omega
         rw [List.eq_nil_of_length_eq_zero h1]
         exact Sl.nil _ _ _ _)
        clear hcap
        refine wp_region_held_drew (S:=Ex w12) (by kernel_rfl) ((Ex.refl w12).drew) (fun hHeld=>?_)
        obtain ⟨wd,hwdx⟩:∃ wd:World,wd=World.drew w12:=⟨_,rfl⟩
        rw [← hwdx] at hHeld ⊢
        have hDrew:Ex w12 wd:=by rw [hwdx];exact (Ex.refl w12).drew
        clear hwdx
        refine tkH 0 (v:=?_) rfl (by kernel_rfl) (fun _ _ _ h=>h) (by rfl) ?y5 hHeld ?_
        case y5=>intro wq hSw;go_simp<;>rfl
        try simp only [Act.put,sA,sB,sC]
        refine tkH 1 (v:=?_) rfl (by kernel_rfl) (fun _ _ _ h=>h) (by rfl) ?y8 hHeld ?_
        case y8=>intro wq hSw;go_simp<;>rfl
        try simp only [Act.put,sA,sB,sC]
        refine tkH 2 (v:=?_) rfl (by kernel_rfl) (fun _ _ _ h=>h) (by rfl) ?y11 hHeld ?_
        case y11=>intro wq hSw;go_simp<;>rfl
        try simp only [Act.put,sA,sB,sC]
        refine tkH 4 (v:=?_) rfl (by kernel_rfl) (fun _ _ _ h=>h) (by rfl) ?y14 hHeld ?_
        case y14=>intro wq hSw;go_simp<;>rfl
        try simp only [Act.put,sA,sB,sC]
        refine tkH 5 (v:=?_) rfl (by kernel_rfl) (fun _ _ _ h=>h) (by rfl) ?y17 hHeld ?_
        case y17=>intro wq hSw;go_simp<;>rfl
        try simp only [Act.put,sA,sB,sC]
        refine tkH 6 (v:=?_) rfl (by kernel_rfl) (fun _ _ _ h=>h) (by rfl) ?y20 hHeld ?_
        case y20=>intro wq hSw;go_simp<;>rfl
        try simp only [Act.put,sA,sB,sC]
        refine tkH 7 (v:=?_) rfl (by kernel_rfl) (fun _ _ _ h=>h) (by rfl) ?y23 hHeld ?_
        case y23=>intro wq hSw;go_simp<;>rfl
        try simp only [Act.put,sA,sB,sC]
        refine rH 3 (by kernel_rfl) rfl fun K hK=>?_
        go_simp
        have z0:=hHeld.size
        (with_reducible refine (clone_n _ _ _ A' _ (STA.out _ hHeld) hA65).mono ?_)
        rintro e wc ⟨v26,rfl,own26,kk⟩
        replace own26:=OwnL.base own26 z0
        replace hHeld:=hHeld.nx kk
        clear kk z0
        refine hK.out _ _ (hHeld) (fun hHeld=>?_)
        clear hK K
        try simp only [Act.put,sA,sB,sC]
        refine tkH 8 (v:=?_) rfl (by kernel_rfl) (fun _ _ _ h=>h) (by rfl) ?y38 hHeld ?_
        case y38=>intro wq hSw;go_simp<;>rfl
        try simp only [Act.put,sA,sB,sC]
        refine tkH 9 (v:=?_) rfl (by kernel_rfl) (fun _ _ _ h=>h) (by rfl) ?y41 hHeld ?_
        case y41=>intro wq hSw;go_simp<;>rfl
        try simp only [Act.put,sA,sB,sC]
        refine wpAnyH_done (by kernel_rfl) ?_ _
        have CUT:=lH (show BbCut A' B' w12 v26 (.slice (some ⟨x1,o1,none⟩) 0 0) wc from ⟨own26,⟨_,_,_,rfl,fun cur _=>SB.out cur⟩,hHeld⟩)
        clear own26 hHeld
        go_wp2_with fail
        go_meet
        exact CUT.out
       ·have hcap2:¬ cG=A'.length+1:=hcap
        refine wp_region_held_drew (S:=Ex w12) (by kernel_rfl) ((Ex.refl w12).drew) (fun hHeld=>?_)
        obtain ⟨wd,hwdx⟩:∃ wd:World,wd=World.drew w12:=⟨_,rfl⟩
        rw [← hwdx] at hHeld ⊢
        have hDrew:Ex w12 wd:=by rw [hwdx];exact (Ex.refl w12).drew
        clear hwdx
        refine tkH 0 (v:=?_) rfl (by kernel_rfl) (fun _ _ _ h=>h) (by rfl) ?y5 hHeld ?_
        case y5=>intro wq hSw;go_simp<;>rfl
        try simp only [Act.put,sA,sB,sC]
        refine tkH 1 (v:=?_) rfl (by kernel_rfl) (fun _ _ _ h=>h) (by rfl) ?y8 hHeld ?_
        case y8=>intro wq hSw;go_simp<;>rfl
        try simp only [Act.put,sA,sB,sC]
        refine tkH 2 (v:=?_) rfl (by kernel_rfl) (fun _ _ _ h=>h) (by rfl) ?y11 hHeld ?_
        case y11=>intro wq hSw;go_simp<;>rfl
        try simp only [Act.put,sA,sB,sC]
        refine tkH 4 (v:=?_) rfl (by kernel_rfl) (fun _ _ _ h=>h) (by rfl) ?y14 hHeld ?_
        case y14=>intro wq hSw;go_simp<;>rfl
        try simp only [Act.put,sA,sB,sC]
        refine tkH 5 (v:=?_) rfl (by kernel_rfl) (fun _ _ _ h=>h) (by rfl) ?y17 hHeld ?_
        case y17=>intro wq hSw;go_simp<;>rfl
        try simp only [Act.put,sA,sB,sC]
        refine tkH 6 (v:=?_) rfl (by kernel_rfl) (fun _ _ _ h=>h) (by rfl) ?y20 hHeld ?_
        case y20=>intro wq hSw;go_simp<;>rfl
        try simp only [Act.put,sA,sB,sC]
        refine tkH 7 (v:=?_) rfl (by kernel_rfl) (fun _ _ _ h=>h) (by rfl) ?y23 hHeld ?_
        case y23=>intro wq hSw;go_simp<;>rfl
        try simp only [Act.put,sA,sB,sC]
        refine rH 3 (by kernel_rfl) rfl fun K hK=>?_
        go_simp
        have z0:=hHeld.size
        (with_reducible refine (clone_n _ _ _ A' _ (STA.out _ hHeld) hA65).mono ?_)
        rintro e wc ⟨v26,rfl,own26,kk⟩
        replace own26:=OwnL.base own26 z0
        replace hHeld:=hHeld.nx kk
        clear kk z0
        refine hK.out _ _ (hHeld) (fun hHeld=>?_)
        clear hK K
        try simp only [Act.put,sA,sB,sC]
        refine tkH 8 (v:=?_) rfl (by kernel_rfl) (fun _ _ _ h=>h) (by rfl) ?y38 hHeld ?_
        case y38=>intro wq hSw;go_simp<;>rfl
        try simp only [Act.put,sA,sB,sC]
        refine tkH 9 (v:=?_) rfl (by kernel_rfl) (fun _ _ _ h=>h) (by rfl) ?y41 hHeld ?_
        case y41=>intro wq hSw;go_simp<;>rfl
        try simp only [Act.put,sA,sB,sC]
        refine wpAnyH_done (by kernel_rfl) ?_ _
        have CUT:=lH (show BbCut A' B' w12 v26 (.slice (some ⟨x1,o1+(A'.length+1)*3,none⟩) (nG-(A'.length+1)) (cG-(A'.length+1))) wc from ⟨own26,⟨_,_,_,rfl,STB.out⟩,hHeld⟩)
        clear own26 hHeld
        go_wp2_with fail
        go_meet
        exact CUT.out
      case rest =>
       obtain ⟨own26,⟨a27,n27,c27,rfl,S27⟩,k13⟩:=hcut
       rename World=>w13
       have hn27:n27≤1000:=by have h1:=(S27 _ k13).len;omega
       have S27:=lH S27
       clear STA STB i1 i2 i3 i4 i5 i6 i7
       go_wp2_with fail
       (with_reducible refine (rev_n u26 A' w12.heap.size w13 own26 hA65).mono ?_)
       rintro e w14 ⟨rfl,own27,ch⟩
       have k14:Ex w12 w14:=Chg.trans k13 (Chg.mono ch (fun y hy=>⟨Nat.lt_of_lt_of_le hy k13.size,fun he=>by have h1:=(own26.lt y he).1;omega⟩))
       obtain ⟨a26,c26,rfl,S26,_,_⟩:=own27.sl3 (fun _=>rfl)
       have hrl:A'.reverse.length=A'.length:=List.length_reverse
       rw [hrl] at S26 ⊢
       have B7:=lH (B7.out.nx k14)
       have KW:=lH (KW.out.nx k14)
       have OWN:=lH (OWN.out.nx k14)
       have T2:=lH (T2.out.nx k14)
       have K14:=lH k14
       have HRA:Hid (∀ y∈A'.reverse,y.word<4294967296):=lH (fun y hy=>HMW.out y (HGA.out y (List.mem_reverse.1 hy)).1)
       have HRB:Hid (∀ y∈B',y.word<4294967296):=lH (fun y hy=>HMW.out y (HGB.out y hy).1)
       have b2:=B7.out.cell 2 _ rfl
       obtain ⟨R,hR⟩:∃ R,R=A'.reverse:=⟨_,rfl⟩
       rw [← hR] at S26 HRA hv1 VA
       obtain ⟨p,hp⟩:∃ p,p=untN j x R:=⟨_,rfl⟩
       obtain ⟨q,hq⟩:∃ q,q=untN j x B':=⟨_,rfl⟩
       rw [← hp,← hq] at hv1 VA
       have HP:=lH hp
       have HQ:=lH hq
       have S26:=lH S26
       clear hR own26 own27 ch k13 k14 hrl hp hq
       go_wp2_with fail
       (with_reducible refine (bit_pE x.word j _ hxw (by omega) (by omega)).mono ?_)
       rintro e w15 ⟨rfl,kk⟩
       replace KW:=lH (KW.out.nx kk)
       replace OWN:=lH (OWN.out.nx kk)
       replace K14:=lH (K14.out.nx kk)
       replace S26:=lH (S26.out.nx kk)
       clear kk
       clear b2
       by_cases hjm:j<m
       ·have hjmI:(j:Int)<(m:Int):=by omega
        have w1q:IntKind.i64.wrap ((p:Int)+(q:Int))=(p:Int)+(q:Int):=IntWalk.i64_in _ (by omega)
        have w2q:IntKind.i64.wrap ((H:Int)+(V:Int)+((p:Int)+(q:Int)))=(H:Int)+(V:Int)+((p:Int)+(q:Int)):=IntWalk.i64_in _ (by omega)
        go_wp2_with fail
        (with_reducible refine (until_p a26 A'.length c26 R j x _ S26.out hA65 HRA.out (by omega)).mono ?_)
        rintro e w16 ⟨rfl,kk⟩
        replace KW:=lH (KW.out.nx kk)
        replace OWN:=lH (OWN.out.nx kk)
        replace K14:=lH (K14.out.nx kk)
        clear kk
        rw [← HP.out]
        go_wp2_with fail
        (with_reducible refine (until_p a27 n27 c27 B' j x _ (S27.out _ K14.out) hn27 HRB.out (by omega)).mono ?_)
        rintro e w17 ⟨rfl,kk⟩
        replace KW:=lH (KW.out.nx kk)
        replace OWN:=lH (OWN.out.nx kk)
        clear kk
        rw [← HQ.out]
        have RR:=lH (show InRel M x m H LJ u20 qs w6 (.int .i64 ((H:Int)+(V:Int)+((p:Int)+(q:Int)))) (.int .i64 ((j:Int)+1)) w17 from
         ⟨j+1,by omega,by rw [show min (j+1) m=j+1 by omega,VA.out];go_num,by go_num,by rw [IJ.out];exact OWN.out,KW.out⟩)
        go_wp2_with fail
        exact ⟨RR.out,by simp [intOf];omega⟩
       ·have hjmI:¬ (j:Int)<(m:Int):=by omega
        have RR:=lH (show InRel M x m H LJ u20 qs w6 (.int .i64 ((H:Int)+(V:Int))) (.int .i64 ((j:Int)+1)) w15 from
         ⟨j+1,by omega,by rw [show min (j+1) m=j by omega,← HV.out];go_num,by go_num,by rw [IJ.out];exact OWN.out,KW.out⟩)
        go_wp2_with fail
        exact ⟨RR.out,by simp [intOf];omega⟩
     ·obtain rfl:j=m+1:=by omega
      have E:Hid (insertN N L x frm m=((buildN M m).1,H+visS M x m,0)):=lH (by
       have h1:=HCK.out
       rw [HM.out] at h1
       have:=ins_ok (frm:=frm) h1 hm16 HFR.out
       rw [← HLE.out,← HM.out,← HH.out] at this
       exact this)
      rw [EJ.out] at own
      rw [show min (m+1) m=m by omega]
      have OWN:=lH (OwnN.base own zw6)
      have KW:=lH (EX.out.nx kw)
      have hjn3:¬ ((m:Int)+1<(m:Int)+1):=by omega
      clear own kw hj hjn
      go_wp2_with fail
      go_ret3
      exact ⟨_,qs,by rw [E.out];rfl,by rw [E.out];exact OWN.out,KW.out⟩
end Go.Proofs.YthcholmhmcpooaaGreatDoor
