/- Texts for TopSurvivesProof. -/
import Derived.Test.YthcholmhmcpooaaGreatDoorTie
import Derived.Test.YthcholmhmcpooaaGreatDoorCards
import Derived.Lib.LaidTab
import Derived.Lib.LaidU8
import Derived.LaidMore
import Derived.Stop.Joined
import Derived.SevenTiedAt
import Derived.ChangeArms
import Derived.LaidSub
import Derived.Test.YthcholmhmcpooaaGreatDoorTopSurvivesProofL15
import Derived.Test.YthcholmhmcpooaaGreatDoorTopSurvivesProofL37
import Derived.Test.YthcholmhmcpooaaGreatDoorTopSurvivesProofL38
set_option linter.unusedSimpArgs false
set_option linter.unusedVariables false

namespace Go.Proofs.YthcholmhmcpooaaGreatDoor
open Go.RowKit
theorem disturb_15 {b:Nat} (a:Option Addr) (nN c:Nat) (N:List Nd) (a2:Option Addr) (c2:Nat) (a3:Option Addr) (c3:Nat) (F0:Fl) (hh:Int) (X:Nat→Prop) (w:World) (hXb:X b) (hXl:∀ k,X k→k<w.heap.size) (h:TK w b) (hs:Slb 3 encN b w a nN N) (hn:nN≤10) (hc:nN≤c) (hm:c≤maxLen) (hi:∀ x∈N,I64 x.id) (hw:∀ x∈N,x.word<4294967296)
  (hF:FlX X w a2 a3 F0) (hfl:Flies N 10 F0) :
  Calls Tryz.prog 22 #[.pointer (some ⟨b,0,none⟩),.slice a nN c,.agg #[.slice a2 F0.peers.length c2,.slice a3 F0.msgs.length c3],.int .i64 hh,.int .i64 15] w (FyPost X b N 310 w) :=
 disturb_x a nN c N a2 c2 a3 c3 F0 hh 15 10 X w hXb hXl h hs hn hc hm hi hw hF hfl (by omega)
theorem OwnLk.nlb {base b:Nat} {w:World} {v:Value} {qs:List (Int×Hdr)} {L:List Lkd} (h:OwnLk base w v qs L) (hb:b<base):∃ a cap,v=.slice a L.length cap∧∀ wq,Exb b w wq→LkL wq a L.length L:=by
 obtain ⟨a,cap,e,_⟩:=OwnLk.nl' h
 refine ⟨a,cap,e,fun wq kq=>?_⟩
 obtain ⟨a',cap',e',r⟩:=OwnLk.nl' (OwnN.nxb h hb kq)
 rw [e] at e'
 cases e'
 exact r
def GoRel (L:List Nd) (D:List Int) (ht:Nat) (wL:World) (want e present i:Value) (wr:World):Prop :=
 ∃ (k:Nat) (aW:Option Addr) (cW:Nat) (aP:Option Addr) (cP:Nat),k≤L.length∧i=.int .i64 k∧e=.int .i64 0∧want=.slice aW (buildN (goneN L D k) ht).1.length cW∧LkL wr aW (buildN (goneN L D k) ht).1.length (buildN (goneN L D k) ht).1 ∧
  present=.slice aP (goneN L D k).length cP∧Sl 3 encN wr aP (goneN L D k).length (goneN L D k)∧(goneN L D k).length≤cP∧cP≤maxLen∧Ex wL wr
set_option maxRecDepth 100000 in
set_option maxHeartbeats 16000000 in
theorem topsurvives_walk (a1:Option Addr) (n1 c1:Nat) (l1:List Int) (s:ByteArray) (w:World) (h1:Sl 1 encI w a1 n1 l1) (hc1:n1≤c1) (hm1:c1≤maxLen) (hT:TabG w) (hL:LetG w) :
  Calls Tryz.prog 6 #[.slice a1 n1 c1,.string s] w fun e w'=>e=.returned (.bool true)∧Ex w w':=by
 go_enter Tryz.func6,Tryz.ntmps6
 go_wp2_with fail
 refine (new_t _ _ _ l1 _ h1 hc1 hm1).mono ?_
 rintro e w1 ⟨rfl,T,kk,z1⟩
 obtain ⟨b,hb⟩:∃ b,b=w.heap.size:=⟨_,rfl⟩
 rw [← hb] at T ⊢
 have hgt:¬ 1=b:=by have:=hT.lt;omega
 have hgl:¬ 0=b:=by have:=hL.lt;omega
 have T1:Hid (TabG w1):=lH (hT.nx kk)
 have L1:Hid (LetG w1):=lH (hL.nx kk)
 have QL:Hid (Exl b w w1):=lH ⟨kk,by omega⟩
 clear h1 hT hL kk hb z1
 have hbo:=T.lt
 go_wp2_with fail
 refine (some_n 8 _ T L1.out hgl (by omega) (by omega)).mono ?_
 clear T
 rintro e x1 ⟨v1,L,rfl,R,hL1⟩
 have kw:=R.k
 have T:=R.tape
 obtain ⟨aX,cX,rfl,SX,hcX,hmX,hnX⟩:=R.own.slf (fun _=>rfl)
 have SX:=SX.slb hbo
 have RL:=R.len
 have H0:=lH R.ok
 have HW:Hid (∀ x∈L,x.word<4294967296):=lH (fun x hx=>by have:=R.word x hx;omega)
 have HI:Hid (∀ x∈L,I64 x.id):=lH (fun x hx=>(roster_ok R.ok x hx).1.1)
 have HNX:=lH hnX
 clear R hnX
 go_wp2_with fail
 refine (next_t 3 _ T (by omega) (by omega)).mono ?_
 clear T
 rintro e x2 ⟨hh,rfl,hh0,hh1,T,kk⟩
 replace kw:=kw.nxb kk
 replace SX:=SX.nxb kk
 clear kk
 obtain ⟨ht,rfl⟩:∃ t:Nat,hh=t:=⟨hh.toNat,by omega⟩
 have ht16:ht≤16:=by omega
 have hb3:=T.lt
 go_wp2_with fail
 refine (down_t 4 _ _ _ _ _ T SX (by omega) HI.out (by omega)).mono ?_
 clear T
 rintro e x3 ⟨v3,D,rfl,RD⟩
 have T:=RD.tape
 have hb4:=T.lt
 replace kw:=kw.nxb RD.k
 replace SX:=SX.nxb RD.k
 obtain ⟨aD,cD,rfl,SD,hcD,hmD,_⟩:=RD.own.slf (fun _=>rfl)
 have hDl:=RD.len
 have SD:=SD.slb (b:=b) hb3
 have HS:=lH (fun wq (kq:Exb b x3 wq)=>SX.nxb kq)
 have HD:=lH (fun wq (kq:Exb b x3 wq)=>SD.nxb kq)
 have KW:=lH kw
 have K:=lH (Ex.refl x3)
 have TH:=lH T
 clear RD SX SD kw T
 go_wp2_with fail
 (with_reducible refine (gap_p _ _ _ L _ _ _ D _ (HS.out _ (K.out.b b)).sl (by omega) hcX hmX (HD.out _ (K.out.b b)).sl (by omega)).mono ?_)
 rintro e x4 ⟨rfl,kk⟩
 replace K:=lH (K.out.nx kk)
 have z34:=K.out.size
 have hgle:=gap_le L D
 obtain ⟨g,hg⟩:∃ g,g=gapN L D:=⟨_,rfl⟩
 rw [← hg] at hgle ⊢
 have g0:¬ (g:Int)<0:=by omega
 have g1:¬ (g:Int)>(L.length:Int):=by omega
 have hwg:IntKind.i64.wrap ((g:Int)+1)=(g:Int)+1:=IntWalk.i64_in _ (by omega)
 have SV:=lH (survive_law H0.out ht16 (wd:=(g:Int)+1) (down:=D) (by rw [← hg];omega))
 have HP:=lH (peers_sm (N:=L) ((g:Int)+1) ht16 (by omega))
 have PL0:=lH (peers_len H0.out ((g:Int)+1) ht16)
 have HWR:Hid (∀ x∈withoutN L D,x.word<4294967296):=lH (fun x hx=>HW.out x (List.mem_filter.1 hx).1)
 have HIR:Hid (∀ x∈withoutN L D,I64 x.id):=lH (fun x hx=>HI.out x (List.mem_filter.1 hx).1)
 have hRl:(withoutN L D).length≤L.length:=List.length_filter_le _ _
 have HR0:=lH SV.out.1.1
 clear hg kk
 go_wp2_with fail
 (with_reducible refine (without_p _ _ _ L _ _ _ D _ (HS.out _ (K.out.b b)).sl (by omega) (HD.out _ (K.out.b b)).sl (by omega)).mono ?_)
 rintro e x5 ⟨v,rfl,OR,kk⟩
 replace K:=lH (K.out.nx kk)
 obtain ⟨aR,cR,rfl,SR,hcR,hmR,_⟩:=OR.slf (fun _=>rfl)
 obtain ⟨Re,hRe⟩:∃ Re,Re=withoutN L D:=⟨_,rfl⟩
 rw [← hRe] at SV SR HWR HIR hRl HR0 hcR ⊢
 have HRE:=lH hRe
 have SR:=SR.slb (b:=b) (by have h9:=TH.out.lt;omega)
 have HR:=lH (fun wq (kq:Exb b x5 wq)=>SR.nxb kq)
 have K5:=lH (Ex.refl x5)
 clear OR SR kk hRe
 go_wp2_with fail
 (with_reducible refine (peers_p _ _ _ L ((g:Int)+1) (ht:Int) _ (HS.out _ (K.out.b b)).sl (by omega) hcX hmX HW.out (T1.out.nxb hgt (KW.out.nxb (K.out.b b)))).mono ?_)
 rintro e x6 ⟨v,q5,rfl,own,kk⟩
 replace K:=lH (K.out.nx kk)
 replace K5:=lH (K5.out.nx kk)
 obtain ⟨aP,cP,rfl,PP,_,_,_⟩:=own.pl
 clear own
 have SC:Hid (FewQ 100 200 (crashN (peersN L ((g:Int)+1) ht) D)):=lH (fun p hp=>HP.out p (List.mem_filter.1 hp).1)
 generalize peersN L ((g:Int)+1) (ht:Int)=P at PP HP SV SC PL0 ⊢
 rw [PL0.out] at PP ⊢
 replace PP:=lH PP
 obtain ⟨Cr,hCr⟩:∃ Cr,Cr=crashN P D:=⟨_,rfl⟩
 rw [← hCr] at SC SV
 have HCR:=lH hCr
 have SVL:=lH SV.out.2
 have SVC:=lH SV.out.1
 have FI:Flies Re 10 ⟨normalN Re Cr,[]⟩:=⟨conn_made SVC.out [],few_smF SC.out [],norm_lenF (norm_normal HR0.out Cr []),by simp⟩
 obtain ⟨F0,hF0⟩:∃ F0:Fl,F0=⟨normalN Re Cr,[]⟩:=⟨_,rfl⟩
 rw [← hF0] at FI
 have HF0:=lH hF0
 have FIH:=lH FI
 clear kk hCr hF0 FI
 go_wp2_with fail
 (with_reducible refine (crash_p _ _ _ P _ _ _ D _ PP.out (by omega) (few_smallR HP.out) (HD.out _ (K.out.b b)).sl (by omega)).mono ?_)
 rintro e wa ⟨v,q6,rfl,own,kk⟩
 obtain ⟨aC,cC,rfl,PC,_,_,_⟩:=own.pl
 replace K:=lH (K.out.nx kk)
 replace K5:=lH (K5.out.nx kk)
 rw [← HCR.out] at PC ⊢
 rw [SVL.out] at PC ⊢
 clear own kk
 go_wp2_with fail
 (with_reducible refine (new_f _ _ _ Re _ _ _ Cr _ (HR.out _ (K5.out.b b)).sl (by omega) hcR hmR PC (by omega) (few_smallR SC.out)).mono ?_)
 rintro e wu ⟨vP,vM,qs,rfl,FO,kk⟩
 rw [← HF0.out] at FO
 obtain ⟨aA,cA,aB,cB,rfl,rfl,FX⟩:=FO.flx (X:=fun k=>k=b) (fun k hk=>by have h1:=TH.out.lt;have h2:=K.out.size;have:k=b:=hk;omega)
 replace K:=lH (K.out.nx kk)
 replace K5:=lH (K5.out.nx kk)
 clear FO kk PC
 have T6:=TH.out.nx K.out
 have hb6l:=T6.lt
 have B9:=Blk.new wu [.slice aA F0.peers.length cA,.slice aB F0.msgs.length cB] 56
 have kk:=Ex.new wu (.cells #[.slice aA F0.peers.length cA,.slice aB F0.msgs.length cB] 56)
 obtain ⟨x7,hx7⟩:∃ x7,x7=wu.alloc (.cells #[.slice aA F0.peers.length cA,.slice aB F0.msgs.length cB] 56):=⟨_,rfl⟩
 obtain ⟨g9,hg9⟩:∃ g9,g9=wu.heap.size:=⟨_,rfl⟩
 replace B9:Blk x7 g9 [.slice aA F0.peers.length cA,.slice aB F0.msgs.length cB] 56:=by rw [hx7,hg9];exact B9
 rw [← hx7] at kk
 have Hx7:=lH hx7
 have Hg9:=lH hg9
 replace FX:FlX (X2 b g9) x7 aA aB F0:=FX.x2 (by omega) kk
 have z9:x3.heap.size≤g9:=by have:=K.out.size;omega
 have hz5:x5.heap.size≤g9:=by have:=K5.out.size;omega
 replace K:=lH (K.out.nx kk)
 replace K5:=lH (K5.out.nx kk)
 have T7:=T6.nx kk
 have hb9:b<g9:=by omega
 have hgb9:¬ g9=b:=by omega
 clear kk hx7 hg9 T6
 go_upto_region 10 with fail
 rw [← Hg9.out,← Hx7.out]
 clear Hg9 Hx7
 have hlX:∀ k,X2 b g9 k→k<x7.heap.size:=fun k hk=>by
  rcases hk with rfl | rfl
  ·exact T7.lt
  ·exact B9.lt
 have PL15:=disturb_15 aR Re.length cR Re aA cA aB cB F0 ht (X2 b g9) x7 (.inl rfl) hlX T7 (HR.out _ (K5.out.b b)) (by omega) hcR hmR HIR.out HWR.out FX FIH.out
 have q0:=B9.cell 0 _ rfl
 have q1:=B9.cell 1 _ rfl
 clear hlX
 go_wp2_with fail
 (with_reducible refine PL15.mono ?_)
 rintro e x8 ⟨aP2,cP2,aM2,cM2,F1,rfl,FX1,FI1,T8,kk⟩
 have KX:=lH ((K.out.b b).nxb kk)
 have KX5:=lH ((K5.out.b b).nxb kk)
 replace B9:=B9.nxb hgb9 kk
 have hlX:∀ k,X2 b g9 k→k<x8.heap.size:=fun k hk=>by
  rcases hk with rfl | rfl
  ·exact T8.lt
  ·exact B9.lt
 have ST:=settle_x aR Re.length cR Re aP2 cP2 aM2 cM2 F1 ht (X2 b g9) x8 (.inl rfl) hlX T8 (HR.out _ KX5.out) (by omega) hcR hmR HWR.out HR0.out FX1 (FI1.r (by omega)) FI1.conn (by omega)
 clear PL15 FX T7 K K5 q0 q1 kk hlX FX1 FI1 T8
 go_wp2_with fail
 (with_reducible refine ST.mono ?_)
 rintro e x9 ⟨aQ,cQ,aN,cN,F2,rfl,FX2,FR2,hex,T9,kk⟩
 replace KX:=lH (KX.out.nxb kk)
 replace KX5:=lH (KX5.out.nxb kk)
 replace B9:=B9.nxb hgb9 kk
 have FRH:=lH FR2
 have HLB:Hid (linksB Re F2.peers ht=(buildN Re ht).1):=lH (by
  rw [exactB_eq (build_ok0 HR0.out ht16).1] at hex
  exact of_decide_eq_true hex)
 have zP:F2.peers.length≤10:=by have:=FR2.len;omega
 have f0:=B9.free 0
 have f1:=B9.free 1
 have r0:=B9.cell 0 _ rfl
 have r1:=B9.cell 1 _ rfl
 clear ST kk hex FR2
 go_upto_region 11 with fail
 obtain ⟨y0,hy0⟩:∃ y0,y0=(x9.setCell ⟨g9,0,none⟩ (.slice aQ F2.peers.length cQ)).setCell ⟨g9,1,none⟩ (.slice aN F2.msgs.length cN):=⟨_,rfl⟩
 rw [← hy0]
 have KB:Exb g9 x9 y0:=by rw [hy0];exact ((Exb.refl g9 _).setB (p:=⟨g9,0,none⟩) _ rfl).setB (p:=⟨g9,1,none⟩) _ rfl
 have BY:Blk y0 g9 [.slice aQ F2.peers.length cQ,.slice aN F2.msgs.length cN] 56:=by rw [hy0];exact (B9.set 0 _).set 1 _
 have TY:=lH (show TK y0 b from by rw [hy0];exact T9.put2 hb9)
 replace KX:=lH (show Exb b x3 y0 from by rw [hy0];exact (KX.out.setNew (p:=⟨g9,0,none⟩) _ z9).setNew (p:=⟨g9,1,none⟩) _ z9)
 replace KX5:=lH (show Exb b x5 y0 from by rw [hy0];exact (KX5.out.setNew (p:=⟨g9,0,none⟩) _ hz5).setNew (p:=⟨g9,1,none⟩) _ hz5)
 have FXY:=lH (FX2.nxb (.inr rfl) KB)
 have q0:=BY.cell 0 _ rfl
 clear hy0 KB BY B9 f0 f1 r0 r1 FX2 T9
 go_wp2_with fail
 (with_reducible refine (links_p _ _ _ Re _ _ _ F2.peers ht _ (HR.out _ KX5.out).sl (by omega) hcR hmR HWR.out FXY.out.pl (by omega) FRH.out.sp).mono ?_)
 rintro e y1 ⟨v,qs,rfl,own,kk⟩
 rw [HLB.out] at own
 obtain ⟨LR,hLR⟩:∃ LR,LR=(buildN Re ht).1:=⟨_,rfl⟩
 rw [← hLR] at own
 have BSR:Hid (∀ c∈LR,c.2.length≤17):=lH (by rw [hLR];exact (buildN_small Re (ht:Int) (by omega)).2)
 have BLR:LR.length≤1000:=by rw [hLR];exact (buildN_small Re (ht:Int) (by omega)).1
 have HLR:=lH hLR
 obtain ⟨aL,cL,rfl,LL⟩:=own.nlb (b:=b) TY.out.lt
 have LLH:=lH LL
 replace KX:=lH (KX.out.nxb (kk.b b))
 replace KX5:=lH (KX5.out.nxb (kk.b b))
 replace TY:=lH (TY.out.nx kk)
 have M:=lH (Ex.refl y1)
 clear own LL kk q0 FXY HLB hLR
 go_wp2_with fail
 (with_reducible refine (build_p _ _ _ L ht _ (HS.out _ KX.out).sl (by omega) hcX hmX HW.out (T1.out.nxb hgt (KW.out.nxb KX.out))).mono ?_)
 rintro e y2 ⟨v,qs,rfl,own,kk⟩
 rw [(build_ok0 H0.out ht16).1]
 replace M:=lH (M.out.nx kk)
 obtain ⟨aW,cW,rfl,LW⟩:=own.nl'
 clear own kk
 have S0:=(HS.out _ (KX.out.nxb (M.out.b b))).sl
 have z0:=Nat.le_refl y2.heap.size
 have z1:y2.heap.size≤(y2.alloc (.cells #[] 36)).heap.size:=(Ex.new y2 _).size
 have own0:OwnL 3 encN 36 y2.heap.size (y2.alloc (.cells #[] 36)) (.slice (some ⟨y2.heap.size,0,none⟩) 0 0) []:=OwnL.empty z0 rfl
 replace S0:=S0.nx (Ex.new y2 (.cells #[] 36))
 go_upto_region 14 with (at_builtin;(refine wpList_append_rd (enc:=encN) _ rfl _ _ 25 rfl y2.heap.size 36 (.agg #[.int .i64 0,.string ByteArray.empty,.int .u32 0]) 3 32 Tryz.underlying25 Tryz.infoN rfl (by omega) (by omega) _ [] own0 rfl _ aX L.length cX L S0 HNX.out (fun _=>rfl) (by simp [encN,Value.oneCell']) rfl (by simp) (by omega) z1 ?_);intro v7 y3 own7 ch0 ch1)
 rw [List.nil_append] at own7
 have kk:Ex y2 y3:=Chg.trans (Ex.new y2 _) ch1
 replace M:=lH (M.out.nx kk)
 replace LW:=LW.nx kk
 obtain ⟨aP3,cP3,rfl,SP3,hcP3,hmP3,_⟩:=own7.slf (fun _=>rfl)
 have R0:=lH (show GoRel L D ht y3 (.slice aW (buildN L ht).1.length cW) (.int .i64 0) (.slice aP3 L.length cP3) (.int .i64 0) y3 from ⟨0,aW,cW,aP3,cP3,by omega,rfl,rfl,by rw [gone_zero],by rw [gone_zero];exact LW,by rw [gone_zero],by rw [gone_zero];exact SP3.sl,by rw [gone_zero];exact hcP3,hmP3,Ex.refl _⟩)
 replace KX:=lH (KX.out.nxb (M.out.b b))
 replace KX5:=lH (KX5.out.nxb (M.out.b b))
 replace TY:=lH (TY.out.nx M.out)
 clear own7 ch0 ch1 kk own0 S0 z0 z1 LW SP3
 go_wp2_with fail
 go_loopw [14,15,16,17] (fun want er pr i wr=>GoRel L D ht y3 want er pr i wr) (fun _ _ _ i _=>L.length-(intOf i).toNat)
 case atStart=>exact R0.out
 case round =>
  clear R0
  obtain ⟨k,aW,cW,aP,cP,hk,rfl,rfl,rfl,LW,rfl,SP,hcP,hmP,kw⟩:=hrel
  obtain ⟨wj,rfl⟩:∃ wj:World,wj=wr:=⟨_,rfl⟩
  have N1:=lH kw
  have LWH:=lH LW
  have SPH:=lH SP
  have hGl:=gone_len (N:=L) (D:=D) k
  have hBl:=(buildN_small (goneN L D k) (ht:Int) (by omega)).1
  have BSW:Hid (∀ c∈(buildN (goneN L D k) (ht:Int)).1,c.2.length≤17):=lH (buildN_small (goneN L D k) (ht:Int) (by omega)).2
  clear kw LW SP
  by_cases hkm:k<L.length
  ·have d0:(k:Int)<(L.length:Int):=by omega
   obtain ⟨x2,o2,y,rfl,hx2,hy,hc⟩:=(HS.out _ (KX.out.nxb (N1.out.b b))).sl.at hkm
   have e0:wj.cell? ⟨x2,o2+k*3,none⟩=some (.int .i64 y.id):=hc 0 _ rfl
   have HY:=lH hy
   clear hc hy
   go_wp2_with fail
   (with_reducible refine (has_r _ _ _ D y.id _ (HD.out _ (KX.out.nxb (N1.out.b b))).sl (by omega)).mono ?_)
   rintro e u1 ⟨rfl,kk⟩
   have N2:=lH (N1.out.nx kk)
   have LW2:=lH (LWH.out.nx kk)
   have SP2:=lH (SPH.out.nx kk)
   clear e0 kk
   cases hdc:D.contains y.id with
   | false =>
    have RR:=lH (show GoRel L D ht y3 (.slice aW (buildN (goneN L D k) ht).1.length cW) (.int .i64 0) (.slice aP (goneN L D k).length cP) (.int .i64 ((k:Int)+1)) u1 from ⟨k+1,aW,cW,aP,cP,by omega,by go_num,rfl,by rw [gone_stay HY.out hdc],by rw [gone_stay HY.out hdc];exact LW2.out,by rw [gone_stay HY.out hdc],by rw [gone_stay HY.out hdc];exact SP2.out,by rw [gone_stay HY.out hdc];exact hcP,hmP,N2.out⟩)
    clear hdc
    go_wp2_with fail
    exact ⟨RR.out,by simp [intOf];omega⟩
   | true =>
    have GL:=lH (gone_leave H0.out HY.out hdc)
    have HREM:Hid (removeN (goneN L D k) (buildN (goneN L D k) (ht:Int)).1 y.id ht=((buildN (goneN L D (k+1)) ht).1,tieN (goneN L D k) y.id (ht+1),0)):=lH (by rw [GL.out];exact rem_ok (gone_check H0.out k) ht16 (gone_mem HY.out))
    have HWG:Hid (∀ x∈goneN L D k,x.word<4294967296):=lH (gone_word HW.out k)
    obtain ⟨x5,o5,y5,hx5,hx6,hy5,hc⟩:=(HS.out _ (KX.out.nxb (N2.out.b b))).sl.at hkm
    cases hx5
    obtain rfl:y5=y:=Option.some.inj (hy5.symm.trans HY.out)
    have e0:u1.cell? ⟨x2,o2+k*3,none⟩=some (.int .i64 y5.id):=hc 0 _ rfl
    clear hdc hc hy5
    go_wp2_with fail
    (with_reducible refine (remove_p _ _ _ (goneN L D k) _ _ _ (buildN (goneN L D k) (ht:Int)).1 y5.id (ht:Int) _ SP2.out (by omega) hcP hmP HWG.out (T1.out.nxb hgt (KW.out.nxb (KX.out.nxb (N2.out.b b)))) LW2.out (by omega) (fun c hc=>Nat.le_trans (BSW.out c hc) (by omega))).mono ?_)
    rintro e u2 ⟨v,qs,rfl,own,kk⟩
    rw [HREM.out] at own ⊢
    obtain ⟨aW3,cW3,rfl,LW3⟩:=own.nl'
    have N3:=lH (N2.out.nx kk)
    have SP3:=lH (SP2.out.nx kk)
    have LW3:=lH LW3
    obtain ⟨x7',o7,y7,hx7,hx8,hy7,hc⟩:=(HS.out _ (KX.out.nxb (N3.out.b b))).sl.at hkm
    cases hx7
    obtain rfl:y7=y5:=Option.some.inj (hy7.symm.trans HY.out)
    have e1:u2.cell? ⟨x2,o2+k*3,none⟩=some (.int .i64 y7.id):=hc 0 _ rfl
    clear own kk e0 hc hy7
    have B8:=Blk.new u2 [.int .i64 y7.id] 3
    have kk:=Ex.new u2 (.cells #[.int .i64 y7.id] 3)
    obtain ⟨u3,hu3⟩:∃ u3,u3=u2.alloc (.cells #[.int .i64 y7.id] 3):=⟨_,rfl⟩
    obtain ⟨g8,hg8⟩:∃ g8,g8=u2.heap.size:=⟨_,rfl⟩
    replace B8:Blk u3 g8 [.int .i64 y7.id] 3:=by rw [hu3,hg8];exact B8
    rw [← hu3] at kk
    have Hu3:=lH hu3
    have Hg8:=lH hg8
    have SI:Sl 1 encI u3 (some ⟨g8,0,none⟩) 1 [y7.id]:=by rw [hu3,hg8];exact Sl.lit [y7.id] rfl rfl (fun _=>rfl) rfl
    have N4:=lH (N3.out.nx kk)
    have SP4:=lH (SP3.out.nx kk)
    have LW4:=lH (LW3.out.nx kk)
    clear kk hu3 hg8
    go_wp2_with fail
    rw [← Hg8.out,← Hu3.out]
    (with_reducible refine (without_p _ _ _ (goneN L D k) _ _ _ [y7.id] _ SP4.out (by omega) SI (by omega)).mono ?_)
    rintro e u4 ⟨v,rfl,OP,kk⟩
    rw [with_drop,← GL.out] at OP
    obtain ⟨aP5,cP5,rfl,SP5,hcP5,hmP5,_⟩:=OP.slf (fun _=>rfl)
    have RR:=lH (show GoRel L D ht y3 (.slice aW3 (buildN (goneN L D (k+1)) ht).1.length cW3) (.int .i64 0) (.slice aP5 (goneN L D (k+1)).length cP5) (.int .i64 ((k:Int)+1)) u4 from ⟨k+1,aW3,cW3,aP5,cP5,by omega,by go_num,rfl,rfl,LW4.out.nx kk,rfl,SP5.sl,hcP5,hmP5,N4.out.nx kk⟩)
    clear OP SP5 kk SI B8 e1
    go_wp2_with fail
    exact ⟨RR.out,by simp [intOf];omega⟩
  ·obtain rfl:k=L.length:=by omega
   have GA:goneN L D L.length=Re:=by rw [gone_all,HRE.out]
   rw [GA] at LWH SPH hcP hGl hBl BSW ⊢
   rw [← HLR.out] at LWH BSW hBl ⊢
   have N2:=lH (M.out.nx N1.out)
   clear GA hkm
   go_wp2_with fail
   (with_reducible refine (samelk_r _ _ _ _ _ _ LR LR _ (LLH.out _ (N2.out.b b)) LWH.out (by omega) (fun c hc=>Nat.le_trans (BSR.out c hc) (by omega))).mono ?_)
   rintro e u1 ⟨rfl,kk⟩
   rw [decide_eq_true (rfl:LR=LR)]
   have N3:=lH (N2.out.nx kk)
   have N4:=lH (N1.out.nx kk)
   have KX6:=lH (KX5.out.nxb (N4.out.b b))
   have KX7:=lH (KX.out.nxb (N4.out.b b))
   have T8:=lH (TY.out.nx N4.out)
   clear kk
   go_wp2_with fail
   (with_reducible refine (reaches_t aR Re.length cR Re aL LR.length cL LR ht s _ T8.out (HR.out _ KX6.out) (by omega) hcR hmR HR0.out ht16 HLR.out (fun wq kq=>LLH.out wq ((N3.out.b b).nxb kq)) (by omega) (L1.out.nxb hgl (KW.out.nxb KX7.out)) hgl).mono ?_)
   rintro e u2 ⟨rfl,_,kk⟩
   replace KX7:=lH (KX7.out.nxb kk)
   clear kk
   go_wp2_with fail
   (with_reducible refine (saneT_x _ (T1.out.nxb hgt (KW.out.nxb KX7.out))).mono ?_)
   rintro e u3 ⟨rfl,kk⟩
   have QX:=lH ((QL.out.nxb (KW.out.nxb KX7.out)).1.nx kk)
   clear kk
   go_wp2_with fail
   go_ret
   exact ⟨rfl,QX.out⟩
theorem Tryz.gTab : Tryz.prog.globalNamed "math/bits.deBruijn32tab" = some 1 := by kernel_rfl
theorem Tryz.tTab:(Tryz.prog.globals[1]?).map (·.type)=some 301:=by kernel_rfl
theorem Tryz.cells32:Tryz.prog.cellsOf 301=32:=by kernel_rfl
theorem Tryz.cellsU8:Tryz.prog.cellsOf 5=1:=by kernel_rfl
theorem laid_tab {H:Type}:(Rows.laid_math_bits_deBruijn32tab:DataW H)=Lib.tabData .u8 (Lib.deBruijn32tab.map fun (n:Nat)=>(n:Int)):=rfl
theorem tabG_of {rest : List (String × DataW Unit)} {W : World} (h : laidMetH Tryz.prog (("math/bits.deBruijn32tab", Rows.laid_math_bits_deBruijn32tab) :: rest) W)
  (hp : ((("math/bits.deBruijn32tab", Rows.laid_math_bits_deBruijn32tab) :: rest).all fun x => x.2.handleName?.isNone) = true) : TabG W := by
 rw [MakeChecks.laidMetH_plain _ _ _ hp,laid_tab] at h
 have ht:=Lib.tabIs_of_head Tryz.gTab Tryz.tTab Tryz.underlying301 Tryz.underlying5 Tryz.cellsU8 Tryz.cells32 h
 intro j hj
 have:=ht.cell Tryz.gTab j (by simp [Lib.deBruijn32tab];omega)
 rw [this]
 congr 2
 simp [List.getD,List.getElem?_map]
 cases h:Lib.deBruijn32tab[j]?<;>simp
theorem Tryz.gLet : Tryz.prog.globalNamed "skipgraph/skipgraphworld.letters" = some 0 := by kernel_rfl
theorem Tryz.tLet:(Tryz.prog.globals[0]?).map (·.type)=some 133:=by kernel_rfl
theorem Tryz.cells6:Tryz.prog.cellsOf 133=6:=by kernel_rfl
theorem Tryz.cellsStr:Tryz.prog.cellsOf 9=1:=by kernel_rfl
def letL:List (List UInt8):=[[97],[98],[99],[0],[255],[109]]
theorem cells_of_strs {H:Type} {enc:TypeId×Value→H} {P:Program} {w:World} {base:Nat} {sp:Nat→Bool} {held:Bool} {fuel:Nat} {t e:TypeId} {n:Nat} {cs:List Value} {zs:List (List UInt8)} {p:List MemPlace}
  (ht:P.underlying t=some (.array n e)) (he:P.underlying e=some .string) (hce:P.cellsOf e=1) (hct:P.cellsOf t=n)
  (h:DataW.trod enc P w base sp held fuel t cs=some (.agg (zs.map fun z=>.lit (.string z)),p)):∀ (i:Nat) (z:List UInt8),zs[i]?=some z→∃ s:ByteArray,s.data.toList=z∧cs[i]?=some (.string s):=by
 cases fuel with
 | zero=>simp [DataW.trod] at h
 | succ fuel =>
  simp only [DataW.trod,ht,hce,hct,Nat.mul_one] at h
  split at h
  ·rename_i hl
   obtain ⟨xs,hm,hx⟩:=Option.map_eq_some_iff.1 h
   have hxs:xs.map (·.1)=zs.map fun z=>(DataW.lit (.string z):DataW H):=by
    have:=congrArg Prod.fst hx
    simpa using this
   have hxl:xs.length=n:=by simpa using Lib.mapM_length hm
   have hzl:zs.length=n:=by
    have:=congrArg List.length hxs
    simp at this
    omega
   intro i z hz
   have hi:i<n:=by have:=(List.getElem?_eq_some_iff.1 hz).1;omega
   obtain ⟨b,hb,hf⟩:=Lib.mapM_at hm i i (by simp [hi])
   obtain ⟨s,hc,rfl,_⟩:=DataW.trod_string he hf
   have h1:cs[i]?=some (.string s):=by
    have:=congrArg (·[0]?) hc
    simpa [List.getElem?_take,List.getElem?_drop] using this
   have h2:(xs.map (·.1))[i]?=some (DataW.lit (.string s.data.toList):DataW H):=by simp [hb]
   rw [hxs] at h2
   simp only [List.getElem?_map,Option.map_eq_some_iff,DataW.lit.injEq,Lit.string.injEq] at h2
   obtain ⟨z',hz',hzz⟩:=h2
   have:z=z':=Option.some.inj (hz.symm.trans hz')
   exact ⟨s,by rw [this,hzz],h1⟩
  ·cases h
theorem laid_let {H:Type}:(Rows.laid_skipgraph_skipgraphworld_letters:DataW H)=.agg (letL.map fun z=>.lit (.string z)):=rfl
theorem letG_head {rest : List (String × DataW Unit)} {W : World} (h : laidMet Tryz.prog (("skipgraph/skipgraphworld.letters", .agg (letL.map fun z => .lit (.string z))) :: rest) W) : LetG W := by
 obtain ⟨ps,⟨g',t',cs,fuel,p,q,hg',ht',hvar,hd,_,_⟩,_⟩:=h
 obtain rfl:=Option.some.inj (Tryz.gLet.symm.trans hg')
 obtain rfl:=Option.some.inj (Tryz.tLet.symm.trans ht')
 intro j hj
 obtain ⟨z,hz⟩:∃ z,letL[j]?=some z:=⟨letL[j]'(by simp [letL];omega),by simp⟩
 obtain ⟨s,h1,h2⟩:=cells_of_strs Tryz.underlying133 Tryz.underlying9 Tryz.cellsStr Tryz.cells6 hd j z hz
 refine ⟨s,?_,?_⟩
 ·have hl:z.length=1:=by
   have:∀ j,j<6→(letL[j]?.getD []).length=1:=by decide
   have:=this j hj
   rw [hz] at this
   exact this
  have:s.data.toList.length=1:=by rw [h1];exact hl
  rw [Array.length_toList] at this
  exact this
 ·rw [World.var?_cell Tryz.gLet hvar j]
  simpa using h2
theorem letG_second {x : String × DataW Unit} {W : World} (h : laidMetH Tryz.prog [x, ("skipgraph/skipgraphworld.letters", Rows.laid_skipgraph_skipgraphworld_letters)] W)
  (hp : ([x, ("skipgraph/skipgraphworld.letters", Rows.laid_skipgraph_skipgraphworld_letters)].all fun x => x.2.handleName?.isNone) = true) (hx : decide (x.1 = "skipgraph/skipgraphworld.letters") = false) : LetG W := by
 rw [MakeChecks.laidMetH_plain _ _ _ hp,laid_let] at h
 have h2 := h.filter (fun y => decide (y.1 = "skipgraph/skipgraphworld.letters"))
 rw [List.filter_cons_of_neg (by rw [hx];simp),List.filter_cons_of_pos (by simp),List.filter_nil] at h2
 exact letG_head h2
end Go.Proofs.YthcholmhmcpooaaGreatDoor
/-
 TopSurvives returns true for every list of numbers and every key,and leaves its arguments as they were.
 Condition: the table of math/bits and the letters of the keys are as the program text lays them (tied by the card).
-/
namespace Go.Proofs.YthcholmhmcpooaaGreatDoor
open Go.RowKit
open Go.ChangeShapes Go.WideShapes Go.ChangeAt Go.RowKit Go.Deep Go.Joins
open Go.ChangeMaps (open_string shut_string)
set_option linter.unusedVariables false
theorem Tryz.cellsInt:Tryz.prog.cellsOf 3=1:=by kernel_rfl
set_option maxRecDepth 100000 in
set_option maxHeartbeats 1000000 in
theorem topSurvives_lifted (os:Os) (started:os.Started) (H:Type) (enc:TypeId×Value→H) :
  ReturnsInHanded {} Tryz.checked os 6 .any (fun w args=>(Rows.topSurvivesSpec.pre enc Tryz.prog Tryz.f6 [] false w args∧laidMetH Tryz.prog Rows.topSurvivesRow.laid w)∧sizedMet enc Tryz.prog Tryz.f6 (OpenSpec.ofChange Rows.topSurvivesSpec) false w args)
   (Rows.topSurvivesSpec.post enc Tryz.prog Tryz.f6 false true false false):=by
 refine returnsInHanded_of_change_and (C:=Tryz.checked) (X:=fun w _=>laidMetH Tryz.prog Rows.topSurvivesRow.laid w) (fun _ _ _ hh h=>h.of_heap hh) own started (by kernel_rfl) Tryz.func6
  (ChangeSpec.witness_shaped (enc:=enc) (C:=Tryz.checked) (os:=os) (X:=fun w _=>laidMetH Tryz.prog Rows.topSurvivesRow.laid w) false (World.doorLaid Tryz.prog 400 os) #[.slice none 0 0,.string ByteArray.empty] 8 rfl (World.shaped_of_RefB (by kernel_rfl) (by kernel_rfl)) (by kernel_rfl) (by kernel_rfl) (by kernel_rfl) (laidMetH_of_parts3 (fuel:=8) (laidMet_of_run' 8 (by kernel_rfl) (by kernel_rfl)) (by kernel_rfl) (by kernel_rfl))) ?_
 intro W base args ds gs before hval0 hW _ _ hL _
 have hval:∀ (j:Nat) t v,Tryz.f6.params[j]?=some t→args[j]?=some v→Value.okWide Tryz.prog W .any base t v:=hval0
 have hW':=hW
 obtain ⟨p,q,hA0,hV,rfl,hfz,hnd⟩:=hW
 have hA:DataW.TrodAll enc Tryz.prog W 0 (fun _=>true) true Tryz.f6.params.toList args.toList ds p:=hA0
 rw [Tryz.params6] at hA hval
 obtain ⟨v0,vs0,d0,ds0,p0,q0,hargs,rfl,rfl,h0,r0⟩:=trodAll_cons hA
 obtain ⟨v1,vs1,d1,ds1,p1,q1,rfl,rfl,rfl,h1,r1⟩:=trodAll_cons r0
 obtain ⟨rfl,rfl,rfl⟩:=trodAll_nil r1
 obtain rfl:args=#[v0,v1]:=by cases args;simp_all
 obtain ⟨rfl,rfl⟩:=trodVars_none hV
 have k0:=h0
 have lt0:∀ x∈p0,x.block<W.heap.size:=by obtain ⟨m,hm⟩:=k0;exact DataW.trod_lt m _ _ _ hm
 have k1:=h1
 have lt1:∀ x∈p1,x.block<W.heap.size:=by obtain ⟨m,hm⟩:=k1;exact DataW.trod_lt m _ _ _ hm
 obtain ⟨A0,n0,cap0,l0,rfl,rd0,hc0,hm0,wf0,nl0⟩:=rd_ints Tryz.underlying22 Tryz.underlying3 Tryz.cellsInt (hval 0 22 v0 rfl rfl) h0
 obtain ⟨s1,rfl,rfl,rfl,hs1⟩:=open_string Tryz.underlying9 (hval 1 9 v1 rfl rfl) h1
 clear hA0 hval0
 have hT:TabG W:=tabG_of hL (by kernel_rfl)
 have hL2:LetG W:=letG_second hL (by kernel_rfl) (by kernel_rfl)
 refine (topsurvives_walk A0 n0 cap0 l0 s1 W rd0 hc0 hm0 hT hL2).mono fun e W' ⟨he,hch⟩=>?_
 have bel:Below W.heap.size W W':=hch.below (fun _ h=>h)
 subst he
 exact ⟨_,rfl,_,_,_,[],_,[],hW',trodAll_mk1 (shut_bool Tryz.underlying4 _),(trodAll_cons_mk (Below.trod laidOut (by kernel_rfl) (of_decide_eq_true (by kernel_rfl)) k0 bel lt0) (trodAll_cons_mk (Below.trod laidOut (by kernel_rfl) (of_decide_eq_true (by kernel_rfl)) k1 bel lt1) trodAll_mk0)),rfl,bel.frame _,fun h=>by cases h⟩
theorem topSurvives_over:Rows.topSurvivesRow.holds Tryz.pinned (OpenSpec.ofChange Rows.topSurvivesSpec) :=
 OpenClaim.holds_of_wide 6 Tryz.f6 rfl rfl rfl rfl rfl rfl rfl ⟨rfl,rfl,rfl,rfl,rfl⟩ rfl rfl rfl rfl rfl (by kernel_rfl) Tryz.func6 (by kernel_rfl)
  (of_decide_eq_true (by kernel_rfl)) (by unfold Func.isWrapper;first | (rw [if_pos (by decide +kernel)];kernel_rfl) | (rw [if_neg (by decide +kernel)];exact ⟨rfl,rfl⟩))
  (fun os started H enc _=>topSurvives_lifted os started H enc)
theorem TopSurvives_holds:Rows.TopSurvivesCardSaid :=
 Claim7.holds_tied_plain_at .later [] [.data, .data] true (true, "bea4d03cc20eaf986630eb777e7bfa9e7601f9278fe4c67cc1bf42749c60bd93") false
  topSurvives_over (fun _ h=>by cases h) (by kernel_rfl) (fun _ h=>by cases h) topSurvives_row_tie rfl ⟨rfl,rfl⟩ (by kernel_rfl) rfl
  (fun f fn hf hfn=>by
   obtain rfl : f = 6 := Option.some.inj ((show Tryz.prog.funcNamed "skipgraph/skipgraphtop.TopSurvives" = some 6 by kernel_rfl).symm.trans hf) |>.symm
   obtain rfl:fn=Tryz.f6:=(Option.some.inj (Tryz.func6.symm.trans hfn)).symm
   exact ⟨by kernel_rfl,fun j t ht=>by
    rw [Tryz.params6] at ht
    have hm:t∈[22,9]:=by simpa using Array.mem_of_getElem? ht
    have hall:([22,9].all fun u=>!Tryz.prog.wantsStandIn u)=true:=by kernel_rfl
    exact (show Tryz.prog.wantsStandIn t=false by simpa using List.all_eq_true.1 hall t hm)⟩)
  (by kernel_rfl)
#print axioms TopSurvives_holds
end Go.Proofs.YthcholmhmcpooaaGreatDoor
