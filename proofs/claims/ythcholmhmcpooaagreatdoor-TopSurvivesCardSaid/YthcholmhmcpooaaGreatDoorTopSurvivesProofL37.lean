/- Texts for TopSurvivesProof. -/
import Derived.Test.YthcholmhmcpooaaGreatDoorTopSurvivesProofL35
set_option linter.unusedSimpArgs false
set_option linter.unusedVariables false

namespace Go.Proofs.YthcholmhmcpooaaGreatDoor
open Go.RowKit
theorem rgT {w w':World} (h:Ex w.drew w'):Ex w w':=(Ex.refl w).drew.nx h
set_option maxRecDepth 100000 in
set_option maxHeartbeats 8000000 in
theorem reaches_t {b:Nat} (aX:Option Addr) (n cX:Nat) (L:List Nd) (a2:Option Addr) (n2 c2:Nat) (K:List Lkd) (m:Nat) (s:ByteArray) (w:World) (h:TK w b) (hs:Slb 3 encN b w aX n L) (hn:n≤100) (hcX:n≤cX) (hmX:cX≤maxLen) (h0:checkN L=0) (hm16:m≤16)
  (hK:K=(buildN L (m:Int)).1) (hLK:∀ wq,Exb b w wq→LkL wq a2 n2 K) (hn2:n2≤1000) (hL:LetG w) (hgl:¬ 0=b) :
  Calls Tryz.prog 19 #[.pointer (some ⟨b,0,none⟩),.slice aX n cX,.slice a2 n2 c2,.string s] w fun e w'=>e=.returned (.bool true)∧TK w' b∧Exb b w w':=by
 have RC:=lH h0
 have RL:Hid (L.length=n):=lH hs.len
 have HS:=lH (fun wq (kq:Exb b w wq)=>hs.nxb kq)
 have HK:=lH hK
 have LK:=lH hLK
 have BS:Hid (∀ c∈K,c.2.length≤17):=lH (by rw [hK];exact (buildN_small L (m:Int) (by have:=hs.len;omega)).2)
 clear h0 hs hK hLK
 go_enter Tryz.func19,Tryz.ntmps19
 go_wp2_with fail
 refine (key_t _ h hL hgl).mono ?_
 clear h
 rintro e w6 ⟨Q,rfl,_,T,kk⟩
 have K6:=lH kk
 clear kk hL
 have hnb:=T.lt
 have B19:=Blk.new w6 [.string Q,.string s] 9
 have kk:=Ex.new w6 (.cells #[.string Q,.string s] 9)
 obtain ⟨w7,hw7⟩:∃ w7,w7=w6.alloc (.cells #[.string Q,.string s] 9):=⟨_,rfl⟩
 obtain ⟨g19,hg19⟩:∃ g19,g19=w6.heap.size:=⟨_,rfl⟩
 replace B19:Blk w7 g19 [.string Q,.string s] 9:=by rw [hw7,hg19];exact B19
 rw [← hw7] at kk
 have Hw7:=lH hw7
 have Hg19:=lH hg19
 replace T:=T.nx kk
 have K7:=lH (K6.out.nxb (kk.b b))
 have hgb:¬ g19=b:=by omega
 clear kk hw7 hg19 K6
 go_upto_region 2 with fail
 rw [← Hg19.out,← Hw7.out]
 clear Hg19 Hw7
 have B19:=lH B19
 go_loopw [21] (fun i wr=>CtRel b 2 w7 i wr) (fun i _=>2-(intOf i).toNat)
 case atStart=>exact ⟨0,by omega,rfl,Exb.refl _ _,T⟩
 case round =>
  clear T
  obtain ⟨k,hk,rfl,kw,T⟩:=hrel
  obtain ⟨wo,rfl⟩:∃ wo:World,wo=wr:=⟨_,rfl⟩
  by_cases hlt:k<2
  case neg =>
   obtain rfl:k=2:=by omega
   have FIN:=lH (show TK wo b∧Exb b w wo from ⟨T,K7.out.nxb kw⟩)
   clear hk hlt kw T
   go_wp2_with fail
   go_ret
   exact ⟨rfl,FIN.out.1,FIN.out.2⟩
  have hbo:=T.lt
  obtain ⟨q,cq⟩:∃ q:ByteArray,wo.cell? ⟨g19,k,none⟩=some (.string q):=by
   have B:=B19.out.nxb hgb kw
   rcases (show k=0∨k=1 by omega) with h | h
   ·exact ⟨Q,by rw [h];exact B.cell 0 _ rfl⟩
   ·exact ⟨s,by rw [h];exact B.cell 1 _ rfl⟩
  by_cases hn0:n=0
  ·have d0:((n:Int)==0)=true:=by simp [hn0]
   have FIN:=lH (show TK wo b∧Exb b w wo from ⟨T,K7.out.nxb kw⟩)
   clear kw T hn0
   go_wp2_with fail
   go_ret
   exact ⟨rfl,FIN.out.1,FIN.out.2⟩
  have d0:((n:Int)==0)=false:=by simpa using hn0
  have hn1:(1:Int)≤(n:Int):=by omega
  clear hn0
  go_wp2_with fail
  refine (next_t (n:Int) _ T hn1 (by omega)).mono ?_
  clear T
  rintro e x2 ⟨r,rfl,r0,r1,T,kk⟩
  replace kw:=kw.nxb kk
  clear kk
  obtain ⟨j,rfl⟩:=Int.eq_ofNat_of_zero_le r0
  have hj:j<n:=by omega
  have S:=HS.out _ (K7.out.nxb kw)
  obtain ⟨x1,o1,y,rfl,hx1,hy,hc1⟩:=S.sl.at hj
  have e0:x2.cell? ⟨x1,o1+j*3,none⟩=some (.int .i64 y.id):=hc1 0 _ rfl
  have HYM:=lH (List.mem_of_getElem? hy)
  have TB:=lH T
  have KW:=lH kw
  have S:=S.sl
  have LK2:=LK.out _ (K7.out.nxb kw)
  have EX:=Ex.refl x2
  clear T kw hc1 hy cq r0 r1
  go_wp2_with fail
  (with_reducible refine (route_p _ _ _ _ _ _ _ K _ _ _ S (by omega) hcX hmX LK2 (by omega) (fun c hc=>Nat.le_trans (BS.out c hc) (by omega))).mono ?_)
  rintro e y1 ⟨v2,rfl,own,kk⟩
  replace S:=S.nx kk
  replace EX:=EX.nx kk
  clear kk
  obtain ⟨aH,cH,rfl,H,_,_,_⟩:=own.slf (fun _=>rfl)
  have H:=H.sl
  clear own e0 LK2
  go_wp2_with fail
  (with_reducible refine (owner_p _ _ _ _ _ _ S (by omega) hcX hmX).mono ?_)
  rintro e y2 ⟨rfl,kk⟩
  replace S:=S.nx kk
  replace EX:=EX.nx kk
  replace H:=H.nx kk
  clear kk
  obtain ⟨RT,hRT⟩:∃ RT,RT=routeN L K y.id q:=⟨_,rfl⟩
  rw [← hRT] at H ⊢
  have hRl:=route_small L K y.id q
  rw [← hRT] at hRl
  obtain ⟨ON,hON⟩:∃ ON,ON=ownN L q:=⟨_,rfl⟩
  rw [← hON]
  have HRT:=lH hRT
  have HON:=lH hON
  obtain ⟨o,ok⟩:=ON
  simp only
  clear hRT hON
  have B14:=Blk.new y2 [.int .i64 o.id,.string o.key,.int .u32 o.word] 36
  have kk:=Ex.new y2 (.cells #[.int .i64 o.id,.string o.key,.int .u32 o.word] 36)
  obtain ⟨y3,hy3⟩:∃ y3,y3=y2.alloc (.cells #[.int .i64 o.id,.string o.key,.int .u32 o.word] 36):=⟨_,rfl⟩
  obtain ⟨g14,hg14⟩:∃ g14,g14=y2.heap.size:=⟨_,rfl⟩
  replace B14:Blk y3 g14 [.int .i64 o.id,.string o.key,.int .u32 o.word] 36:=by rw [hy3,hg14];exact B14
  rw [← hy3] at kk
  have Hy3:=lH hy3
  have Hg14:=lH hg14
  replace EX:=EX.nx kk
  replace H:=H.nx kk
  clear kk hy3 hg14
  go_upto_region 9 with fail
  rw [← Hg14.out,← Hy3.out]
  clear Hg14 Hy3
  by_cases hq:q.size≤64
  ·have HE:=end_law (L:=(buildN L (m:Int)).1) RC.out HYM.out hq (by rw [(build_top RC.out hm16 HYM.out).1];omega) (fun x hx=>(build_top RC.out hm16 hx).2 0 (by omega))
   rw [← HK.out,← HRT.out,← HON.out] at HE
   obtain ⟨g1,g2,g3⟩:=HE
   simp only at g2 g3
   subst g3
   have b0:=B14.cell 0 _ rfl
   have B14h:=lH B14
   have E3:=lH EX
   clear hq b0 EX
   refine wp_region_held_drew (S:=Ex y3.drew) (by kernel_rfl) (Ex.refl _) (fun hHeld=>?_)
   refine tkH 0 (v:=?_) rfl (by kernel_rfl) (fun _ _ _ h=>h) (by rfl) ?hyr1x0 (by assumption) ?restr1x0
   case hyr1x0=>intro wq hSw;(go_simp);(try with_reducible rfl)
   try simp only [Act.put,sA,sB,sC]
   refine tkH 1 (v:=?_) rfl (by kernel_rfl) (fun _ _ _ h=>h) (by rfl) ?hyr1x1 (by assumption) ?restr1x1
   case hyr1x1=>intro wq hSw;(go_simp);(try with_reducible rfl)
   try simp only [Act.put,sA,sB,sC]
   refine tkH 2 (v:=?_) rfl (by kernel_rfl) (fun _ _ _ h=>h) (by rfl) ?hyr1x2 (by assumption) ?restr1x2
   case hyr1x2=>intro wq hSw;(go_simp);(try with_reducible rfl)
   try simp only [Act.put,sA,sB,sC]
   refine tkH 3 (v:=?_) rfl (by kernel_rfl) (fun _ _ _ h=>h) (by rfl) ?hyr1x3 (by assumption) ?restr1x3
   case hyr1x3=>intro wq hSw;(go_simp);(try with_reducible rfl)
   try simp only [Act.put,sA,sB,sC]
   refine tkH 4 (v:=?_) rfl (by kernel_rfl) (fun _ _ _ h=>h) (by rfl) ?hyr1x4 (by assumption) ?restr1x4
   case hyr1x4=>intro wq hSw;(go_simp);(try with_reducible rfl)
   try simp only [Act.put,sA,sB,sC]
   refine tkH 5 (v:=?_) rfl (by kernel_rfl) (fun _ _ _ h=>h) (by rfl) ?hyr1x5 (by assumption) ?restr1x5
   case hyr1x5=>intro wq hSw;(go_simp);(try with_reducible rfl)
   try simp only [Act.put,sA,sB,sC]
   refine tkH 6 (v:=?_) rfl (by kernel_rfl) (fun _ _ _ h=>h) (by rfl) ?hyr1x6 (by assumption) ?restr1x6
   case hyr1x6=>intro wq hSw;(go_simp);(try with_reducible rfl)
   try simp only [Act.put,sA,sB,sC]
   refine tkH 7 (v:=?_) rfl (by kernel_rfl) (fun _ _ _ h=>h) (by rfl) ?hyr1x7 (by assumption) ?restr1x7
   case hyr1x7=>intro wq hSw;(go_simp);(try with_reducible rfl)
   try simp only [Act.put,sA,sB,sC]
   refine tkH 8 (v:=?_) rfl (by kernel_rfl) (fun _ _ _ h=>h) (by rfl) ?hyr1x8 (by assumption) ?restr1x8
   case hyr1x8=>intro wq hSw;(go_simp);(try with_reducible rfl)
   try simp only [Act.put,sA,sB,sC]
   refine tkH 10 (v:=?_) rfl (by kernel_rfl) (fun _ _ _ h=>h) (by rfl) ?hyr1x10 (by assumption) ?restr1x10
   case hyr1x10=>intro wq hSw;(go_simp);(try with_reducible rfl)
   try simp only [Act.put,sA,sB,sC]
   refine tkH 11 (v:=?_) rfl (by kernel_rfl) (fun _ _ _ h=>h) (by rfl) ?hyr1x11 (by assumption) ?restr1x11
   case hyr1x11=>intro wq hSw;(have cq:=(B14h.out.nx (rgT hSw)).cell 0 _ rfl;go_simp);(try with_reducible rfl)
   try simp only [Act.put,sA,sB,sC]
   refine rH 9 (by kernel_rfl) rfl fun K hK=>?_
   go_simp
   (with_reducible refine (end_p _ _ _ _ _ _ (H.nx (Ex.refl y3).drew) (by omega)).mono ?_)
   rintro e y4 ⟨rfl,k4⟩
   replace k4:Ex y3.drew y4:=k4
   rw [g2]
   refine hK.out _ _ k4 (fun _=>?_)
   clear hK K
   try simp only [Act.put,sA,sB,sC]
   refine wpAnyH_switch (S':=Ex y4) (fun _ hSw=>Ex.nx k4 hSw) ?_
   clear hHeld
   have hHeld:=Ex.refl y4
   refine tkH 12 (v:=?_) rfl (by kernel_rfl) (fun _ _ _ h=>h) (by rfl) ?hyr1x12 (by assumption) ?restr1x12
   case hyr1x12=>intro wq hSw;(go_simp);(try with_reducible rfl)
   try simp only [Act.put,sA,sB,sC]
   refine tkH 13 (v:=?_) rfl (by kernel_rfl) (fun _ _ _ h=>h) (by rfl) ?hyr1x13 (by assumption) ?restr1x13
   case hyr1x13=>intro wq hSw;(go_simp);(try with_reducible rfl)
   try simp only [Act.put,sA,sB,sC]
   refine tkH 14 (v:=?_) rfl (by kernel_rfl) (fun _ _ _ h=>h) (by rfl) ?hyr1x14 (by assumption) ?restr1x14
   case hyr1x14=>intro wq hSw;(go_simp);(try with_reducible rfl)
   try simp only [Act.put,sA,sB,sC]
   refine wpAnyH_done (by kernel_rfl) ?_ _
   have FIN:Hid (CtRel b 2 w7 (.int .i64 ((k:Int)+1)) y4):=lH (by have kx:=E3.out.nx ((Ex.refl y3).drew.nx k4);exact ⟨k+1,by omega,by go_num,KW.out.nxb (kx.b b),TB.out.nx kx⟩)
   clear H S B14 k4
   go_wp2_with fail
   exact ⟨FIN.out,by simp [intOf];omega⟩
  ·have h1:RT=([],1):=by rw [HRT.out,route_bad (.inr (by omega))]
   have h2:(o,ok)=(Nd.zero,false):=by rw [HON.out,ownN_no (.inr (.inr (by omega)))]
   have hok:ok=false:=by cases h2;rfl
   have hR2:RT.2=1:=by rw [h1]
   have FIN:Hid (CtRel b 2 w7 (.int .i64 ((k:Int)+1)) y3.drew):=lH ⟨k+1,by omega,by go_num,KW.out.nxb (EX.drew.b b),TB.out.nx EX.drew⟩
   subst hok
   clear h1 h2 H S B14 hq
   refine wp_region_held_drew (S:=Ex y3.drew) (by kernel_rfl) (Ex.refl _) (fun hHeld=>?_)
   refine tkH 0 (v:=?_) rfl (by kernel_rfl) (fun _ _ _ h=>h) (by rfl) ?hyr2x0 (by assumption) ?restr2x0
   case hyr2x0=>intro wq hSw;(go_simp);(try with_reducible rfl)
   try simp only [Act.put,sA,sB,sC]
   refine tkH 1 (v:=?_) rfl (by kernel_rfl) (fun _ _ _ h=>h) (by rfl) ?hyr2x1 (by assumption) ?restr2x1
   case hyr2x1=>intro wq hSw;(go_simp);(try with_reducible rfl)
   try simp only [Act.put,sA,sB,sC]
   refine tkH 2 (v:=?_) rfl (by kernel_rfl) (fun _ _ _ h=>h) (by rfl) ?hyr2x2 (by assumption) ?restr2x2
   case hyr2x2=>intro wq hSw;(go_simp);(try with_reducible rfl)
   try simp only [Act.put,sA,sB,sC]
   refine tkH 3 (v:=?_) rfl (by kernel_rfl) (fun _ _ _ h=>h) (by rfl) ?hyr2x3 (by assumption) ?restr2x3
   case hyr2x3=>intro wq hSw;(go_simp);(try with_reducible rfl)
   try simp only [Act.put,sA,sB,sC]
   refine tkH 4 (v:=?_) rfl (by kernel_rfl) (fun _ _ _ h=>h) (by rfl) ?hyr2x4 (by assumption) ?restr2x4
   case hyr2x4=>intro wq hSw;(go_simp);(try with_reducible rfl)
   try simp only [Act.put,sA,sB,sC]
   refine tkH 5 (v:=?_) rfl (by kernel_rfl) (fun _ _ _ h=>h) (by rfl) ?hyr2x5 (by assumption) ?restr2x5
   case hyr2x5=>intro wq hSw;(go_simp);(try with_reducible rfl)
   try simp only [Act.put,sA,sB,sC]
   refine tkH 6 (v:=?_) rfl (by kernel_rfl) (fun _ _ _ h=>h) (by rfl) ?hyr2x6 (by assumption) ?restr2x6
   case hyr2x6=>intro wq hSw;(go_simp);(try with_reducible rfl)
   try simp only [Act.put,sA,sB,sC]
   refine wpAnyH_take (i:=7) (oi:=⟨_,_,_,_,_,_⟩) (v:=undef) rfl (by kernel_rfl) (by kernel_rfl) (by kernel_rfl) (fun _ _ _ h=>h) (Or.inr ⟨by rfl,rfl⟩) (by assumption) ?_
   try simp only [Act.put,sA,sB,sC]
   refine wpAnyH_take (i:=8) (oi:=⟨_,_,_,_,_,_⟩) (v:=undef) rfl (by kernel_rfl) (by kernel_rfl) (by kernel_rfl) (fun _ _ _ h=>h) (Or.inr ⟨by rfl,rfl⟩) (by assumption) ?_
   try simp only [Act.put,sA,sB,sC]
   refine wpAnyH_take (i:=9) (oi:=⟨_,_,_,_,_,_⟩) (v:=undef) rfl (by kernel_rfl) (by kernel_rfl) (by kernel_rfl) (fun _ _ _ h=>h) (Or.inr ⟨by rfl,rfl⟩) (by assumption) ?_
   try simp only [Act.put,sA,sB,sC]
   refine wpAnyH_take (i:=10) (oi:=⟨_,_,_,_,_,_⟩) (v:=undef) rfl (by kernel_rfl) (by kernel_rfl) (by kernel_rfl) (fun _ _ _ h=>h) (Or.inr ⟨by rfl,rfl⟩) (by assumption) ?_
   try simp only [Act.put,sA,sB,sC]
   refine wpAnyH_take (i:=11) (oi:=⟨_,_,_,_,_,_⟩) (v:=undef) rfl (by kernel_rfl) (by kernel_rfl) (by kernel_rfl) (fun _ _ _ h=>h) (Or.inr ⟨by rfl,rfl⟩) (by assumption) ?_
   try simp only [Act.put,sA,sB,sC]
   refine wpAnyH_take (i:=12) (oi:=⟨_,_,_,_,_,_⟩) (v:=undef) rfl (by kernel_rfl) (by kernel_rfl) (by kernel_rfl) (fun _ _ _ h=>h) (Or.inr ⟨by rfl,rfl⟩) (by assumption) ?_
   try simp only [Act.put,sA,sB,sC]
   refine tkH 13 (v:=?_) rfl (by kernel_rfl) (fun _ _ _ h=>h) (by rfl) ?hyr2x13 (by assumption) ?restr2x13
   case hyr2x13=>intro wq hSw;(go_simp);(try with_reducible rfl)
   try simp only [Act.put,sA,sB,sC]
   refine tkH 14 (v:=?_) rfl (by kernel_rfl) (fun _ _ _ h=>h) (by rfl) ?hyr2x14 (by assumption) ?restr2x14
   case hyr2x14=>intro wq hSw;(go_simp);(try with_reducible rfl)
   try simp only [Act.put,sA,sB,sC]
   refine wpAnyH_done (by kernel_rfl) ?_ _
   go_wp2_with fail
   exact ⟨FIN.out,by simp [intOf];omega⟩
end Go.Proofs.YthcholmhmcpooaaGreatDoor
