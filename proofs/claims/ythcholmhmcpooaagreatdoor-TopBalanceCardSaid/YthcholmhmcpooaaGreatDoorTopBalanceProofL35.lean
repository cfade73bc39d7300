/- Texts for TopBalanceProof. -/
import Derived.Test.YthcholmhmcpooaaGreatDoorTopBalanceProofL31
import Derived.Test.YthcholmhmcpooaaGreatDoorTopBalanceProofL34
set_option linter.unusedSimpArgs false
set_option linter.unusedVariables false

namespace Go.Proofs.YthcholmhmcpooaaGreatDoor
open Go.RowKit
def bstep (N:List Nd) (Q:List Pr) (h:Nat) (p:Pr):Pr:={ p with near:=nextB N (peerN Q) p h }
theorem bround_eq {N:List Nd} {P:List Pr} {h:Nat} (hh:h≤16):bRoundN N P h=(normalN N P).map (bstep N (normalN N P) h):=by
 unfold bRoundN
 rw [if_pos (lvl_of (by omega) (by omega))]
 rfl
theorem bround_no {N:List Nd} {P:List Pr} {h:Int} (hh:lvlN h=false):bRoundN N P h=[]:=by unfold bRoundN;rw [if_neg (by rw [hh];simp)]
theorem nextB_len (N:List Nd) (st:Int→Pr) (p:Pr) (h:Nat):(nextB N st p h).length=h:=by unfold nextB;rw [List.length_map,List.length_range]
def BrRel (N:List Nd) (Q:List Pr) (h:Nat) (w:World) (o i:Value) (wr:World):Prop :=
 ∃ (j:Nat) (qs:List PQ),j≤Q.length∧i=.int .i64 j∧OwnPr w.heap.size wr o qs ((Q.take j).map (bstep N Q h))∧Ex w wr
theorem br_snoc (N:List Nd) {Q:List Pr} {h j:Nat} {y:Pr} (hy:Q[j]?=some y):((Q.take (j+1)).map (bstep N Q h))=((Q.take j).map (bstep N Q h))++[{ y with near:=nextB N (peerN Q) y h }]:=by
 rw [List.take_add_one,hy,List.map_append];rfl
set_option maxRecDepth 100000 in
set_option maxHeartbeats 8000000 in
theorem bround_p (a:Option Addr) (n c:Nat) (N:List Nd) (a2:Option Addr) (n2 c2:Nat) (P:List Pr) (hh:Int) (w:World) (h:Sl 3 encN w a n N) (hn:n≤1000) (hc:n≤c) (hm:c≤maxLen) (hw:∀ x∈N,x.word<4294967296) (h2:PL w a2 n2 P) (hn2:n2≤4000000000000000000) (hP:SmallP P) :
  Calls Tryz.prog 200 #[.slice a n c,.slice a2 n2 c2,.int .i64 hh] w (PlPost (bRoundN N P hh) w):=by
 have HL:=lH h.len
 have HW:=lH hw
 clear hw
 have NO:Hid (lvlN hh=false→PlPost (bRoundN N P hh) w (.returned (.slice none 0 0)) w):=lH (fun h=>by
  rw [bround_no h]
  exact ⟨_,[],rfl,OwnP.nil _ _ _ _ _,Ex.refl _⟩)
 by_cases h0:hh<0
 ·have FI:=lH (NO.out (by unfold lvlN;simp;omega))
  clear h h2 hP NO
  go_enter Tryz.func200,Tryz.ntmps200
  go_wp2_with fail
  go_ret
  exact FI.out
 by_cases h1:hh>16
 ·have FI:=lH (NO.out (by unfold lvlN;simp;omega))
  clear h h2 hP NO
  go_enter Tryz.func200,Tryz.ntmps200
  go_wp2_with fail
  go_ret
  exact FI.out
 obtain ⟨k,rfl⟩:=Int.eq_ofNat_of_zero_le (show 0≤hh by omega)
 have hk16:k≤16:=by omega
 have HR:=lH (bround_eq (N:=N) (P:=P) hk16)
 clear NO
 go_enter Tryz.func200,Tryz.ntmps200
 go_wp2_with fail
 (with_reducible refine (normal_p _ _ _ N _ _ _ P _ h hn hc hm h2 hn2 hP).mono ?_)
 rintro e w3 ⟨v3,qs,rfl,OQ,kk⟩
 replace h:=h.nx kk
 clear h2
 have K03:=lH kk
 obtain ⟨hQ1,hQ2⟩:=normal_le N P
 have HQS:=lH (normal_small N hP)
 generalize normalN N P=Q at OQ hQ1 hQ2 HR HQS
 obtain ⟨aQ,cQ,rfl,PQ0,_,_,_,_⟩:=OQ.pl
 have HPQ:=lH PQ0
 have hQn:Q.length≤n:=by have:=HL.out;omega
 have hz3:=kk.size
 have HS:=lH h
 clear OQ PQ0 kk hQ1 hQ2 hP h
 go_wp2_with fail
 go_loopw [8,22] (fun o i wr=>BrRel N Q k w3 o i wr) (fun _ i _=>Q.length-(intOf i).toNat)
 case atStart=>exact ⟨0,[],by omega,rfl,OwnP.nil _ _ _ _ _,Ex.refl _⟩
 case round =>
  obtain ⟨j,qz,hj,rfl,own,ki⟩:=hrel
  obtain ⟨wi,rfl⟩:∃ wi:World,wi=wr:=⟨_,rfl⟩
  by_cases hjm:j<Q.length
  ·obtain ⟨x5,o5,b1,m1,d1,b4,m4,d4,y,rfl,hx5,hy,e0,e1,e2,e3,e4,s1,s4⟩:=(HPQ.out.nx ki).rd hjm
   have SN:=lH (br_snoc N (h:=k) hy)
   have hyP:=HQS.out y (List.mem_of_getElem? hy)
   have hql:qz.length=j:=by rw [own.2.1,List.length_map,List.length_take];omega
   have hl1:m1≤17592186044416:=by have:=s1.len;omega
   have hl4:m4≤4000000000000000000:=by have:=s4.len;omega
   have hwi:=ki.size
   have S1y:=lH s1
   have S4y:=lH s4
   have KI:=lH ki
   have OWN:=lH own
   clear hy own ki hyP s1 s4
   have B8:=Blk.new wi [.int .i64 y.id,.slice b1 m1 d1,.int .i64 y.left,.int .i64 y.right,.slice b4 m4 d4] 150
   have kk:=Ex.new wi (.cells #[.int .i64 y.id,.slice b1 m1 d1,.int .i64 y.left,.int .i64 y.right,.slice b4 m4 d4] 150)
   obtain ⟨w7,hw7⟩:∃ w7,w7=wi.alloc (.cells #[.int .i64 y.id,.slice b1 m1 d1,.int .i64 y.left,.int .i64 y.right,.slice b4 m4 d4] 150):=⟨_,rfl⟩
   obtain ⟨g8,hg8⟩:∃ g8,g8=wi.heap.size:=⟨_,rfl⟩
   replace B8:Blk w7 g8 [.int .i64 y.id,.slice b1 m1 d1,.int .i64 y.left,.int .i64 y.right,.slice b4 m4 d4] 150:=by rw [hw7,hg8];exact B8
   rw [← hw7] at kk
   have Hw7:=lH hw7
   have Hg8:=lH hg8
   have zg8:wi.heap.size≤g8:=by omega
   have K8:=lH kk
   have HPN:Hid (∀ p∈Q,p.near.length≤4000000000000000000):=lH (fun p hp=>Nat.le_trans (HQS.out p hp).2 (by omega))
   clear kk hw7 hg8
   go_upto_region 8 with fail
   rw [← Hg8.out,← Hw7.out]
   clear Hg8 Hw7
   clear e0 e1 e2 e3 e4
   have hg8l:=B8.lt
   have B8s:=lH B8
   have hz8:=K8.out.size
   have hz9:w3.heap.size≤w7.heap.size:=Nat.le_trans hwi hz8
   have HNL:=lH (nextB_len N (peerN Q) y k)
   clear B8
   refine wp_region_late_drew (S:=Ex w7) [9,10,11] (by kernel_rfl) ((Ex.refl w7).drew) (fun hHeld=>?_)
   obtain ⟨wd,hwdx⟩:∃ wd:World,wd=World.drew w7:=⟨_,rfl⟩
   rw [← hwdx] at hHeld ⊢
   have hDrew:Ex w7 wd:=by rw [hwdx];exact (Ex.refl w7).drew
   clear hwdx
   refine tkL 0 (v:=?_) rfl (by kernel_rfl) (fun _ _ _ h=>h) (by rfl) ?y5 hHeld ?_
   case y5=>intro wq hSw;go_simp<;>rfl
   refine tkL 1 (v:=?_) rfl (by kernel_rfl) (fun _ _ _ h=>h) (by rfl) ?y8 hHeld ?_
   case y8=>intro wq hSw;(have cq:=(B8s.out.nx hSw).cell 1 _ rfl;go_simp)<;>rfl
   refine tkL 3 (v:=?_) rfl (by kernel_rfl) (fun _ _ _ h=>h) (by rfl) ?y11 hHeld ?_
   case y11=>intro wq hSw;go_simp<;>rfl
   refine tkL 4 (v:=?_) rfl (by kernel_rfl) (fun _ _ _ h=>h) (by rfl) ?y14 hHeld ?_
   case y14=>intro wq hSw;go_simp<;>rfl
   refine tkL 5 (v:=?_) rfl (by kernel_rfl) (fun _ _ _ h=>h) (by rfl) ?y17 hHeld ?_
   case y17=>intro wq hSw;(have cq0:=(B8s.out.nx hSw).cell 0 _ rfl;have cq1:=(B8s.out.nx hSw).cell 1 _ rfl;have cq2:=(B8s.out.nx hSw).cell 2 _ rfl;have cq3:=(B8s.out.nx hSw).cell 3 _ rfl;have cq4:=(B8s.out.nx hSw).cell 4 _ rfl;go_simp)<;>rfl
   refine tkL 6 (v:=?_) rfl (by kernel_rfl) (fun _ _ _ h=>h) (by rfl) ?y20 hHeld ?_
   case y20=>intro wq hSw;go_simp<;>rfl
   refine rL 2 (by kernel_rfl) rfl fun K hK=>?_
   go_simp
   (with_reducible refine (clone_i _ _ _ _ _ ((S1y.out.nx K8.out).nx hHeld) hl1).mono ?_)
   rintro e wc ⟨vc,rfl,own2,kk⟩
   (try replace own5:=own5.nx kk)
   obtain ⟨A2,C2,rfl,_,_,_,_⟩:=own2.slf (fun _=>rfl)
   replace own2:=own2.base hHeld.size
   replace hHeld:=hHeld.nx kk
   clear kk
   have BQ:=B8s.out.nx hHeld
   have KZ:=hHeld.b g8
   refine hK.out _ _ (hHeld) (fun hHeld=>?_)
   clear hK K
   refine tkL 8 (v:=?_) rfl (by kernel_rfl) (fun _ _ _ h=>h) (by rfl) ?y38 hHeld ?_
   case y38=>intro wq hSw;go_simp<;>rfl
   refine rL 7 (by kernel_rfl) rfl fun K hK=>?_
   go_simp
   (with_reducible refine (next_p _ _ _ N _ _ _ Q y _ _ _ _ _ _ k _ (HS.out.nx (KI.out.nx (K8.out.nx hHeld))) hn hc hm HW.out (HPQ.out.nx (KI.out.nx (K8.out.nx hHeld))) (by omega) HPN.out ((S4y.out.nx K8.out).nx hHeld) hl4 hk16).mono ?_)
   rintro e wc ⟨vc,rfl,own5,kk⟩
   (try replace own2:=own2.nx kk)
   obtain ⟨A5,C5,rfl,_,_,_,_⟩:=own5.slf (fun _=>rfl)
   replace own5:=own5.base hHeld.size
   replace hHeld:=hHeld.nx kk
   clear kk
   have BQ:=B8s.out.nx hHeld
   have KZ:=hHeld.b g8
   refine hK.out _ _ (hHeld) (fun hHeld=>?_)
   clear hK K
   refine rLL 9 (by kernel_rfl) rfl (by rfl) fun K hK=>?_
   have cq:=BQ.cell 1 _ rfl
   have fq:=BQ.free 1
   go_simp
   clear cq fq
   replace BQ:=BQ.set 1 (.slice A2 y.known.length C2)
   replace own2:=own2.nxb hg8l ((Exb.refl g8 _).setB (p:=⟨g8,1,none⟩) (.slice A2 y.known.length C2) rfl)
   replace own5:=own5.nxb hg8l ((Exb.refl g8 _).setB (p:=⟨g8,1,none⟩) (.slice A2 y.known.length C2) rfl)
   replace KZ:=KZ.setB (p:=⟨g8,1,none⟩) (.slice A2 y.known.length C2) rfl
   refine hK.out _ _ ?_
   clear hK K
   refine rLL 10 (by kernel_rfl) rfl (by rfl) fun K hK=>?_
   go_simp
   refine hK.out _ _ ?_
   clear hK K
   refine rLL 11 (by kernel_rfl) rfl (by rfl) fun K hK=>?_
   have cq:=BQ.cell 4 _ rfl
   have fq:=BQ.free 4
   go_simp
   clear cq fq
   replace BQ:=BQ.set 4 (.slice A5 (nextB N (peerN Q) y k).length C5)
   replace own2:=own2.nxb hg8l ((Exb.refl g8 _).setB (p:=⟨g8,4,none⟩) (.slice A5 (nextB N (peerN Q) y k).length C5) rfl)
   replace own5:=own5.nxb hg8l ((Exb.refl g8 _).setB (p:=⟨g8,4,none⟩) (.slice A5 (nextB N (peerN Q) y k).length C5) rfl)
   replace KZ:=KZ.setB (p:=⟨g8,4,none⟩) (.slice A5 (nextB N (peerN Q) y k).length C5) rfl
   refine hK.out _ _ ?_
   clear hK K
   refine wpAnyL_done (by kernel_rfl) ?_ _
   obtain ⟨wz,hwz⟩:∃ wz,wz=(wc.setCell ⟨g8,1,none⟩ (.slice A2 y.known.length C2)).setCell ⟨g8,4,none⟩ (.slice A5 (nextB N (peerN Q) y k).length C5):=⟨_,rfl⟩
   rw [← hwz] at BQ own2 own5 KZ ⊢
   clear hwz
   generalize nextB N (peerN Q) y k=NX at own5 BQ SN HNL ⊢
   have BF:Blk wz g8 [.int .i64 y.id,.slice A2 y.known.length C2,.int .i64 y.left,.int .i64 y.right,.slice A5 NX.length C5] 150:=BQ
   have p0:=BF.cell 0 _ rfl
   have p1:=BF.cell 1 _ rfl
   have p2:=BF.cell 2 _ rfl
   have p3:=BF.cell 3 _ rfl
   have p4:=BF.cell 4 _ rfl
   have KW:=lH (Exl.nxb (b:=g8) (w:=wi) ⟨K8.out,zg8⟩ KZ).1
   have OP:=lH (OWN.out.nx KW.out)
   have zw:=KW.out.size
   replace own2:=lH (own2.base hz8)
   replace own5:=lH (own5.base hz8)
   have hw3:w3.heap.size≤wi.heap.size:=hwi
   have KN:=KW.out.nx (Ex.new _ (.cells #[.int .i64 y.id,.slice A2 y.known.length C2,.int .i64 y.left,.int .i64 y.right,.slice A5 NX.length C5] 150))
   have zn:=Nat.le_trans hw3 KN.size
   clear BQ BF KZ hHeld
   go_wp2_with (at_builtin;(refine wpList_append_W (enc:=encQ) _ rfl _ _ 53 rfl w3.heap.size 150 (.agg #[.int .i64 0,.slice none 0 0,.int .i64 0,.int .i64 0,.slice none 0 0]) 5 72 Tryz.underlying53 Tryz.infoPr rfl (by omega) (by omega) _ qz (OP.out.nx (Ex.new _ _)).row rfl _ 1 1 [(y.nums,(A2,y.known.length,C2),(A5,NX.length,C5))] (Sl.lit _ rfl rfl encQ_len rfl) encQ_len encQ_one rfl (by omega) (by omega) zn ?_);intro v9 w9 own9 ch0 ch1 _)
   have RR:=OWN.out.app (p:={ y with near:=NX }) (by decide) (by decide) hw3 KN (own2.out.nx (Ex.new _ _)) (own5.out.nx (Ex.new _ _)) own9 ch0
   exact ⟨⟨j+1,_,by omega,by go_num,by rw [SN.out];exact RR,Chg.trans (KI.out.nx KN) ch1⟩,by simp [intOf];omega⟩
  ·obtain rfl:j=Q.length:=by omega
   rw [List.take_length] at own
   have OWN:=lH (own.lower hz3)
   have KI:=lH (K03.out.nx ki)
   clear own ki hj hjm
   go_wp2_with fail
   go_ret
   exact ⟨_,qz,rfl,by rw [HR.out];exact OWN.out,KI.out⟩
theorem rround_no {N:List Nd} {P:List Pr} {h:Int} (hh:lvlN h=false):rRoundN N P h=[]:=by unfold rRoundN;rw [if_neg (by rw [hh];simp)]
theorem rround_eq {N:List Nd} {P:List Pr} {h:Nat} (hh:h≤16):(roundN N P).length=(bRoundN N P h).length∧rRoundN N P h=mixP (roundN N P) (bRoundN N P h) (roundN N P).length:=by
 have hl:(roundN N P).length=(bRoundN N P h).length:=by rw [bround_eq hh,List.length_map,roundN_eq,List.length_map]
 refine ⟨hl,?_⟩
 rw [mixP_all hl]
 unfold rRoundN
 rw [if_pos (lvl_of (by omega) (by omega))]
def RrRel (s S:Nat) (w:World) (v1 v2:Value) (qs2:List PQ) (P1 P2:List Pr) (i:Value) (wr:World):Prop :=
 ∃ (j:Nat) (qs:List PQ),j≤P2.length∧i=.int .i64 j∧OwnPr s wr v1 qs (mixP P1 P2 j)∧MixQ S qs2 j qs∧OwnPr S wr v2 qs2 P2∧Ex w wr
set_option maxRecDepth 100000 in
set_option maxHeartbeats 8000000 in
theorem rround_p (a:Option Addr) (n c:Nat) (N:List Nd) (a2:Option Addr) (n2 c2:Nat) (P:List Pr) (hh:Int) (w:World) (h:Sl 3 encN w a n N) (hn:n≤1000) (hc:n≤c) (hm:c≤maxLen) (hw:∀ x∈N,x.word<4294967296) (h2:PL w a2 n2 P) (hn2:n2≤4000000000000000000) (hP:SmallP P) :
  Calls Tryz.prog 147 #[.slice a n c,.slice a2 n2 c2,.int .i64 hh] w (PlPost (rRoundN N P hh) w):=by
 have HL:=lH h.len
 have HW:=lH hw
 clear hw
 have NO:Hid (lvlN hh=false→PlPost (rRoundN N P hh) w (.returned (.slice none 0 0)) w):=lH (fun h=>by
  rw [rround_no h]
  exact ⟨_,[],rfl,OwnP.nil _ _ _ _ _,Ex.refl _⟩)
 by_cases h0:hh<0
 ·have FI:=lH (NO.out (by unfold lvlN;simp;omega))
  clear h h2 hP NO
  go_enter Tryz.func147,Tryz.ntmps147
  go_wp2_with fail
  go_ret
  exact FI.out
 by_cases h1:hh>16
 ·have FI:=lH (NO.out (by unfold lvlN;simp;omega))
  clear h h2 hP NO
  go_enter Tryz.func147,Tryz.ntmps147
  go_wp2_with fail
  go_ret
  exact FI.out
 obtain ⟨k,rfl⟩:=Int.eq_ofNat_of_zero_le (show 0≤hh by omega)
 have hk16:k≤16:=by omega
 have HR:=lH (rround_eq (N:=N) (P:=P) hk16)
 have hQl:=lH (Nat.le_trans (by rw [roundN_eq,List.length_map];exact (normal_le N P).1:(roundN N P).length≤N.length) (by have:=HL.out;omega:N.length≤1000))
 clear NO
 go_enter Tryz.func147,Tryz.ntmps147
 go_wp2_with fail
 (with_reducible refine (lround_p _ _ _ N _ _ _ P _ h hn hc hm h2 hn2 hP).mono ?_)
 rintro e w1 ⟨v1,qs1,rfl,own1,kk⟩
 replace h:=h.nx kk
 replace h2:=h2.nx kk
 have K1:=lH kk
 clear kk
 go_wp2_with fail
 (with_reducible refine (bround_p _ _ _ N _ _ _ P k _ h hn hc hm HW.out h2 hn2 hP).mono ?_)
 rintro e w2 ⟨v2,qs2,rfl,own2,kk⟩
 have K2:=lH kk
 have OWN1:=lH own1
 have M0:=lH (MixQ.start (qs2:=qs2) own1 (Nat.le_refl _))
 have hz1:=K1.out.size
 clear h h2 hP kk
 generalize roundN N P=P1 at own1 OWN1 HR hQl
 generalize bRoundN N P (k:Int)=P2 at own2 HR
 have hl:=HR.out.1
 have hq:=hQl.out
 obtain ⟨a1,cap1,rfl,_,_,_,_,_⟩:=own1.pl
 obtain ⟨a3,cap2,rfl,_,_,_,_,_⟩:=own2.pl
 have OWN2:=lH own2
 clear own1 own2
 rw [hl]
 go_wp2_with fail
 go_loopw [24] (fun i wr=>RrRel w.heap.size w1.heap.size w (.slice a1 P2.length cap1) (.slice a3 P2.length cap2) qs2 P1 P2 i wr) (fun i _=>P2.length-(intOf i).toNat)
 case atStart=>exact ⟨0,qs1,by omega,rfl,by rw [mixP_zero,← hl];exact OWN1.out.nx K2.out,M0.out,OWN2.out,K1.out.nx K2.out⟩
 case round =>
  obtain ⟨j,qs,hj,rfl,own1,hmx,own2,kz⟩:=hrel
  obtain ⟨wi,rfl⟩:∃ wi:World,wi=wr:=⟨_,rfl⟩
  have KZ:=lH kz
  have MX:=lH hmx
  have hml:=mixP_len hl j
  clear hmx kz
  by_cases hjm:j<P2.length
  ·obtain ⟨a',c',e',_,_,_,hg',_⟩:=own1.pl
   obtain ⟨g,hge,hgb⟩:=hg' (fun h=>by rw [h] at hml;simp at hml;omega)
   injection e' with e1 e2 e3
   subst e1 e3
   subst hge
   obtain ⟨a'',c'',e'',_,_,_,hg'',_⟩:=own2.pl
   obtain ⟨g2,hge,hgb2⟩:=hg'' (fun h=>by rw [h] at hjm;simp at hjm)
   injection e'' with e4 e5 e6
   subst e4 e6
   subst hge
   obtain ⟨p,hp⟩:∃ p,P1[j]?=some p:=⟨P1[j]'(by omega),by simp⟩
   obtain ⟨q,hq2⟩:∃ q,P2[j]?=some q:=⟨P2[j],by simp⟩
   obtain ⟨⟨B1,k1,f1⟩,⟨B4,k4,f4⟩,hqs2,_,_⟩:=own2.get hq2
   have c0:=(OwnW.set1 encQ_len own2.1 hqs2 (c:=0) (by omega)).1
   have c1:=(OwnW.set1 encQ_len own2.1 hqs2 (c:=1) (by omega)).1
   have c2:=(OwnW.set1 encQ_len own2.1 hqs2 (c:=2) (by omega)).1
   have c3:=(OwnW.set1 encQ_len own2.1 hqs2 (c:=3) (by omega)).1
   have c4:=(OwnW.set1 encQ_len own2.1 hqs2 (c:=4) (by omega)).1
   simp only [Hdr.val,encQ,Pr.nums,List.getElem?_cons_zero,List.getElem?_cons_succ] at c0 c1 c2 c3 c4
   rw [Nat.add_zero] at c0
   have hgne:g<w1.heap.size:=by
    obtain ⟨_,_,hb⟩:=OWN1.out.1.blk rfl
    exact (Array.getElem?_eq_some_iff.1 hb).1
   have HQ:=lH hqs2
   have HP:=lH hp
   have HQ2:=lH hq2
   have OA:=lH own1
   have OB:=lH own2
   clear own1 own2 hqs2 hp hq2 e2 e5
   have B8:=Blk.new wi [.int .i64 q.id,.slice B1 k1 f1,.int .i64 q.left,.int .i64 q.right,.slice B4 k4 f4] 150
   have kk:=Ex.new wi (.cells #[.int .i64 q.id,.slice B1 k1 f1,.int .i64 q.left,.int .i64 q.right,.slice B4 k4 f4] 150)
   obtain ⟨w7,hw7⟩:∃ w7,w7=wi.alloc (.cells #[.int .i64 q.id,.slice B1 k1 f1,.int .i64 q.left,.int .i64 q.right,.slice B4 k4 f4] 150):=⟨_,rfl⟩
   obtain ⟨g8,hg8⟩:∃ g8,g8=wi.heap.size:=⟨_,rfl⟩
   replace B8:Blk w7 g8 [.int .i64 q.id,.slice B1 k1 f1,.int .i64 q.left,.int .i64 q.right,.slice B4 k4 f4] 150:=by rw [hw7,hg8];exact B8
   rw [← hw7] at kk
   have Hw7:=lH hw7
   have Hg8:=lH hg8
   have K8:=lH kk
   clear kk hw7 hg8
   go_upto_region 7 with fail
   rw [← Hg8.out,← Hw7.out]
   clear Hg8 Hw7
   clear c0 c1 c2 c3 c4
   have hp':=mixP_at (Q:=P2) hl HP.out
   have own1:=OA.out.nx K8.out
   have own2:=OB.out.nx K8.out
   obtain ⟨⟨A1,m1,d1⟩,⟨A4,m4,d4⟩,hqs,_,_⟩:=own1.get hp'
   obtain ⟨_,_,hqs3,_,onr⟩:=own2.get HQ2.out
   rw [HQ.out] at hqs3
   cases hqs3
   obtain ⟨s1,s2,O9⟩:=own1.swapN (hn':=(B4,k4,f4)) (nr:=q.near) (by decide) (by decide) (by decide) hqs hp' (onr.base (Nat.le_trans (by omega) hz1)) (MX.out.fn own2 HQ.out)
   have hset:=mixP_set hl HP.out HQ2.out
   have FN:=lH (show RrRel w.heap.size w1.heap.size w (.slice (some ⟨g,0,none⟩) P2.length cap1) (.slice (some ⟨g2,0,none⟩) P2.length cap2) qs2 P1 P2 (.int .i64 ((j:Int)+1)) (w7.setCell ⟨g,j*5+4,none⟩ (.slice B4 k4 f4)) from
    ⟨j+1,qs.set j (p.nums,(A1,m1,d1),(B4,k4,f4)),by omega,by go_num,by rw [← hset];exact O9,MX.out.step HQ.out rfl,own2.nxb hgne ((Exb.refl g _).setB (p:=⟨g,j*5+4,none⟩) _ rfl),(KZ.out.nx K8.out).setNew (p:=⟨g,j*5+4,none⟩) _ hgb⟩)
   simp only [Hdr.val] at s1
   have p4:=B8.cell 4 _ rfl
   clear O9 own1 own2 onr hset hqs hp'
   go_wp2_with fail
   exact ⟨FN.out,by simp [intOf];omega⟩
  ·obtain rfl:j=P2.length:=by omega
   rw [show P2.length=P1.length from hl.symm,← HR.out.2] at own1
   have OWN:=lH own1
   have KF:=lH KZ.out
   clear own1 own2 hj hjm
   go_wp2_with fail
   go_ret
   exact ⟨_,qs,rfl,by rw [hl] at *;exact OWN.out,KF.out⟩
section
variable {N:List Nd} {P Q:List Pr}
theorem round_lenR (N:List Nd) (P:List Pr):(roundN N P).length≤N.length:=by rw [roundN_eq,List.length_map];exact (normal_le N P).1
theorem rr_len (N:List Nd) (P:List Pr) (k:Int):(rRoundN N P k).length≤N.length:=by
 unfold rRoundN
 split
 ·rw [List.length_map,List.length_zip];exact Nat.le_trans (Nat.min_le_left _ _) (round_lenR N P)
 ·exact Nat.zero_le _
theorem rr_few (N:List Nd) (P:List Pr) (k:Int):∀ p∈rRoundN N P k,p.known.length≤N.length∧p.near.length≤16:=by
 unfold rRoundN
 split
 ·rename_i hl
  intro p hp
  obtain ⟨⟨a,b⟩,hab,rfl⟩:=List.mem_map.1 hp
  obtain ⟨ha,hb⟩:=List.of_mem_zip hab
  rw [roundN_eq] at ha
  obtain ⟨a',_,rfl⟩:=List.mem_map.1 ha
  unfold bRoundN at hb
  rw [if_pos hl] at hb
  obtain ⟨b',_,rfl⟩:=List.mem_map.1 hb
  refine ⟨ord_len _ _,?_⟩
  show (nextB N (peerN (normalN N P)) b' k.toNat).length≤16
  rw [nextB_len]
  unfold lvlN at hl;simp at hl;omega
 ·intro p hp;cases hp
theorem rr_small (hN:N.length≤1000) (k:Int):SmallP (rRoundN N P k):=fun p hp=>by have:=rr_few N P k p hp;omega
theorem rruns_small (hN:N.length≤1000) (hP:SmallP P) (k:Int):∀ t,SmallP (rRunsN N P k t)
 | 0=>hP
 | _+1=>rr_small hN k
def repN (N:List Nd) (P:List Pr) (h r:Int):List Pr:=if lvlN h=true then rRunsN N (normalN N P) h (max (min r 4096) 0).toNat else []
end
theorem run_no {N:List Nd} {P:List Pr} {h r:Int} (hh:lvlN h=false):repN N P h r=[]:=by unfold repN;rw [if_neg (by rw [hh];simp)]
theorem rrs_len {N:List Nd} {Q:List Pr} (hQ:Q.length≤1000) (hN:N.length≤1000) (k:Int):∀ t,(rRunsN N Q k t).length≤1000
 | 0=>hQ
 | _+1=>Nat.le_trans (rr_len N _ k) hN
def RuRel (N:List Nd) (Q:List Pr) (h:Int) (R:Nat) (w:World) (o i:Value) (wr:World):Prop :=
 ∃ (j:Nat) (qs:List PQ),j≤R∧i=.int .i64 j∧OwnPr w.heap.size wr o qs (rRunsN N Q h j)∧Ex w wr
set_option maxRecDepth 100000 in
set_option maxHeartbeats 8000000 in
theorem run_p (a:Option Addr) (n c:Nat) (N:List Nd) (a2:Option Addr) (n2 c2:Nat) (P:List Pr) (hh r:Int) (w:World) (h:Sl 3 encN w a n N) (hn:n≤1000) (hc:n≤c) (hm:c≤maxLen) (hw:∀ x∈N,x.word<4294967296) (h2:PL w a2 n2 P) (hn2:n2≤4000000000000000000) (hP:SmallP P) :
  Calls Tryz.prog 77 #[.slice a n c,.slice a2 n2 c2,.int .i64 hh,.int .i64 r] w (PlPost (repN N P hh r) w):=by
 have HL:=lH h.len
 have HW:=lH hw
 clear hw
 have NO:Hid (lvlN hh=false→PlPost (repN N P hh r) w (.returned (.slice none 0 0)) w):=lH (fun h=>by
  rw [run_no h]
  exact ⟨_,[],rfl,OwnP.nil _ _ _ _ _,Ex.refl _⟩)
 by_cases h0:hh<0
 ·have FI:=lH (NO.out (by unfold lvlN;simp;omega))
  clear h h2 hP NO
  go_enter Tryz.func77,Tryz.ntmps77
  go_wp2_with fail
  go_ret
  exact FI.out
 by_cases h1:hh>16
 ·have FI:=lH (NO.out (by unfold lvlN;simp;omega))
  clear h h2 hP NO
  go_enter Tryz.func77,Tryz.ntmps77
  go_wp2_with fail
  go_ret
  exact FI.out
 have HE:Hid (repN N P hh r=rRunsN N (normalN N P) hh (max (min r 4096) 0).toNat):=lH (by unfold repN;rw [if_pos (lvl_of (by omega) (by omega))])
 clear NO
 go_enter Tryz.func77,Tryz.ntmps77
 have HS:=lH h
 go_wp2_with fail
 (with_reducible refine (normal_p _ _ _ N _ _ _ P _ h hn hc hm h2 hn2 hP).mono ?_)
 rintro e w1 ⟨v1,qs,rfl,own,kk⟩
 have K1:=lH kk
 have HQ1:=lH (Nat.le_trans (normal_le N P).1 (by have:=HL.out;omega:N.length≤1000))
 have HQS:=lH (normal_small N hP)
 have OWN:=lH own
 have hN:N.length≤1000:=by have:=HL.out;omega
 generalize normalN N P=Q at own OWN HE HQ1 HQS
 clear h h2 hP kk own
 obtain ⟨R,hR⟩:∃ R:Nat,max (min r 4096) 0=(R:Int):=⟨(max (min r 4096) 0).toNat,by omega⟩
 have HE2:Hid (repN N P hh r=rRunsN N Q hh R):=lH (by rw [HE.out,hR,Int.toNat_natCast])
 have hR2:R≤4096:=by omega
 clear HE
 go_wp2_with fail
 go_loopw [9,22] (fun o i wr=>RuRel N Q hh R w o i wr) (fun _ i _=>R-(intOf i).toNat)
 case atStart=>exact ⟨0,qs,by omega,rfl,OWN.out,K1.out⟩
 case round =>
  obtain ⟨j,qz,hj,rfl,own,kz⟩:=hrel
  obtain ⟨wi,rfl⟩:∃ wi:World,wi=wr:=⟨_,rfl⟩
  have KZ:=lH kz
  clear kz
  obtain ⟨a3,c3,rfl,PL3,_,_,_,_⟩:=own.pl
  by_cases hjm:j<R
  ·have hl3:(rRunsN N Q hh j).length≤1000:=rrs_len HQ1.out hN hh j
   have SM:=lH (rruns_small (N:=N) hN HQS.out hh j)
   have ST:Hid (rRoundN N (rRunsN N Q hh j) hh=rRunsN N Q hh (j+1)):=lH rfl
   generalize rRunsN N Q hh j=X at PL3 hl3 SM ST own ⊢
   have PH:=lH PL3
   clear own PL3
   go_wp2_with fail
   (with_reducible refine (rround_p _ _ _ N _ _ _ X hh _ (HS.out.nx KZ.out) hn hc hm HW.out PH.out (by omega) SM.out).mono ?_)
   rintro e w5 ⟨v5,q5,rfl,own5,kk⟩
   have FN:=lH (show RuRel N Q hh R w v5 (.int .i64 ((j:Int)+1)) w5 from ⟨j+1,q5,by omega,by go_num,by rw [← ST.out];exact own5.lower KZ.out.size,KZ.out.nx kk⟩)
   clear own5 kk
   go_wp2_with fail
   exact ⟨FN.out,by simp [intOf];omega⟩
  ·obtain rfl:j=R:=by omega
   clear PL3
   have FN:=lH (show PlPost (repN N P hh r) w (.returned (.slice a3 (rRunsN N Q hh j).length c3)) wi from ⟨_,qz,rfl,by rw [HE2.out];exact own,KZ.out⟩)
   clear own hj hjm
   go_wp2_with fail
   go_ret
   exact FN.out
def tpN:List Nd:=[⟨1,⟨#[97]⟩,0⟩,⟨2,⟨#[98]⟩,2⟩]
def tpQ:List Pr:=[⟨2,0,0,[1],[]⟩]
def tpR:List Pr:=repN tpN tpQ 1 4
def tpL:List Lkd:=[(1,[(0,2),(0,2)]),(2,[(1,0),(1,0)])]
theorem tpW:∀ x∈tpN,x.word<4294967296:=by decide +kernel
theorem tp_len:tpR.length=2:=by decide +kernel
theorem tp_small:tpR.all (fun p=>decide (p.known.length≤10)&&decide (p.near.length≤10))=true:=by decide +kernel
theorem tp_sm:SmallP tpR:=fun p hp=>by
 have:=List.all_eq_true.1 tp_small p hp
 simp only [Bool.and_eq_true,decide_eq_true_eq] at this
 omega
theorem tpQ_sm:SmallP tpQ:=fun p hp=>by
 have:p=⟨2,0,0,[1],[]⟩:=by simpa [tpQ] using hp
 subst this
 exact ⟨by simp,by simp⟩
theorem tp_links:linksB tpN tpR 1=tpL:=by decide +kernel
theorem tp_build:buildN tpN 1=(tpL,0):=by decide +kernel
theorem tp_exact:exactI tpN tpL 1=true:=by
 unfold exactI
 rw [tp_build]
 simp
theorem tp_route:routeN tpN tpL 1 ⟨#[98]⟩=([(1,2,1)],0):=by decide +kernel
theorem tpL_s:∀ c∈tpL,c.2.length≤9223372036854775807:=by decide
theorem tpLitN (w:World):∃ g v,g=w.heap.size∧v=w.alloc (.cells #[.int .i64 1,.string ⟨#[97]⟩,.int .u32 0,.int .i64 2,.string ⟨#[98]⟩,.int .u32 2] 36)∧Sl 3 encN v (some ⟨g,0,none⟩) 2 tpN∧Ex w v :=
 ⟨_,_,rfl,rfl,Sl.lit tpN rfl rfl (fun _=>rfl) rfl,Ex.new _ _⟩
theorem tpLitQ (w:World):∃ g v,g=w.heap.size+1∧v=(w.alloc (.cells #[.int .i64 1] 3)).alloc (.cells #[.int .i64 2,.slice (some ⟨w.heap.size,0,none⟩) 1 1,.int .i64 0,.int .i64 0,.slice none 0 0] 150) ∧
  PL v (some ⟨g,0,none⟩) 1 tpQ∧Ex w v:=by
 have k1:=Ex.new w (.cells #[.int .i64 1] 3)
 have s1:Sl 1 encI (w.alloc (.cells #[.int .i64 1] 3)) (some ⟨w.heap.size,0,none⟩) 1 [1]:=Sl.lit [1] rfl rfl (fun _=>rfl) rfl
 generalize hu:w.alloc (.cells #[.int .i64 1] 3)=u at *
 have hz:u.heap.size=w.heap.size+1:=by rw [← hu];simp
 have k2:=Ex.new u (.cells #[.int .i64 2,.slice (some ⟨w.heap.size,0,none⟩) 1 1,.int .i64 0,.int .i64 0,.slice none 0 0] 150)
 refine ⟨_,_,hz,rfl,⟨[((2,0,0),(some ⟨w.heap.size,0,none⟩,1,1),(none,0,0))],?_,rfl,fun j q p hq hp=>?_⟩,k1.nx k2⟩
 ·exact Sl.lit (enc:=encQ) (sz:=5) (w:=u) (s:=u.heap.size) (ty:=150) (n:=1) [((2,0,0),(some ⟨w.heap.size,0,none⟩,1,1),(none,0,0))] rfl rfl encQ_len rfl
 ·rcases j with _ | j
  ·simp only [List.getElem?_cons_zero,Option.some.injEq,tpQ] at hq hp
   subst hq hp
   exact ⟨rfl,s1.nx k2,Sl.nil _ _ _ _⟩
  ·simp at hq
set_option maxRecDepth 100000 in
set_option maxHeartbeats 8000000 in
theorem saneT_x (w:World) (hT:TabG w):Calls Tryz.prog 20 #[] w fun e w'=>e=.returned (.bool true)∧Ex w w':=by
 go_enter Tryz.func20,Tryz.ntmps20
 obtain ⟨g1,w1,hg1,hw1,S1,kk⟩:=tpLitN w
 have T:=lH (hT.nx kk)
 have K:=lH kk
 have HS:=lH S1
 have Hg:=lH hg1
 have Hw:=lH hw1
 clear hg1 hw1 S1 kk hT
 go_upto_region 2 with fail
 rw [← Hw.out,← Hg.out]
 clear Hw Hg
 obtain ⟨g2,w2,hg2,hw2,P2,kk⟩:=tpLitQ w1
 replace T:=lH (T.out.nx kk)
 replace K:=lH (K.out.nx kk)
 replace HS:=lH (HS.out.nx kk)
 have HP:=lH P2
 have Hg:=lH hg2
 have Hw:=lH hw2
 clear hg2 hw2 P2 kk
 go_wp2_with fail
 rw [← Hw.out,← Hg.out]
 clear Hw Hg
 (with_reducible refine (run_p _ _ _ tpN _ _ _ tpQ 1 4 _ HS.out (by omega) (by omega) (by unfold maxLen;omega) tpW HP.out (by omega) tpQ_sm).mono ?_)
 rintro e w3 ⟨v,qs,rfl,own,kk⟩
 replace own:OwnPr w2.heap.size w3 v qs tpR:=own
 obtain ⟨aR,cR,rfl,PR,_,_,_,_⟩:=own.pl
 rw [tp_len] at PR ⊢
 replace T:=lH (T.out.nx kk)
 replace K:=lH (K.out.nx kk)
 replace HS:=lH (HS.out.nx kk)
 replace PR:=lH PR
 clear own kk HP
 go_wp2_with fail
 (with_reducible refine (links_p _ _ _ tpN _ _ _ tpR 1 _ HS.out (by omega) (by omega) (by unfold maxLen;omega) tpW PR.out (by omega) tp_sm).mono ?_)
 rintro e w4 ⟨v,q4,rfl,own,kk⟩
 rw [tp_links] at own
 obtain ⟨aL,cL,rfl,L,_,_,_,_⟩:=OwnN.nl (encA:=encI) (encB:=encS) (s1:=2) (s2:=2) (fun _=>rfl) (fun _=>rfl) own
 replace T:=lH (T.out.nx kk)
 replace K:=lH (K.out.nx kk)
 replace HS:=lH (HS.out.nx kk)
 rw [show tpL.length=2 from rfl] at L ⊢
 replace L:=lH L
 clear own kk PR
 go_wp2_with fail
 (with_reducible refine (route_p _ _ _ tpN _ _ _ tpL 1 _ _ HS.out (by omega) (by omega) (by unfold maxLen;omega) L.out (by omega) tpL_s).mono ?_)
 rintro e w5 ⟨v,rfl,own,kk⟩
 rw [tp_route] at own ⊢
 obtain ⟨aH,cH,rfl,H,_,_,_⟩:=own.slf (fun _=>rfl)
 replace T:=lH (T.out.nx kk)
 replace K:=lH (K.out.nx kk)
 replace HS:=lH (HS.out.nx kk)
 replace L:=lH (L.out.nx kk)
 have H:Hid (Sl 3 encHp w5 aH 1 [(1,2,1)]):=lH H.sl
 clear own kk
 go_wp2_with fail
 (with_reducible refine (exact_p _ _ _ tpN _ _ _ tpL 1 _ HS.out (by omega) (by omega) (by unfold maxLen;omega) tpW T.out L.out (by omega) tpL_s).mono ?_)
 rintro e w6 ⟨rfl,kk⟩
 rw [tp_exact]
 replace K:=lH (K.out.nx kk)
 replace H:=lH (H.out.nx kk)
 clear kk
 go_wp2_with fail
 (with_reducible refine (end_p 1 _ 1 _ [(1,2,1)] _ H.out (by omega)).mono ?_)
 rintro e w7 ⟨rfl,kk⟩
 rw [show endN 1 [(1,2,1)]=2 from rfl]
 replace K:=lH (K.out.nx kk)
 clear kk
 go_wp2_with fail
 go_ret
 exact ⟨rfl,K.out⟩
end Go.Proofs.YthcholmhmcpooaaGreatDoor
