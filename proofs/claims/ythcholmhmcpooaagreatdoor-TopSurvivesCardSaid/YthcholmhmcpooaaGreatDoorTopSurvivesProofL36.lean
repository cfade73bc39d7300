/- Texts for TopSurvivesProof. -/
import Derived.Test.YthcholmhmcpooaaGreatDoorTopSurvivesProofL32
set_option linter.unusedSimpArgs false
set_option linter.unusedVariables false

namespace Go.Proofs.YthcholmhmcpooaaGreatDoor
open Go.RowKit
theorem lk_at {base:Nat} {w:World} {v:Value} {qs:List (Int×Hdr)} {L:List Lkd} (h:OwnLk base w v qs L) {p j:Nat} {c:Lkd} {q:Int×Int} (hp:L[p]?=some c) (hj:c.2[j]?=some q) :
  ∃ g cap g' cap',v=.slice (some ⟨g,0,none⟩) L.length cap∧g<w.heap.size∧base≤g∧¬ InQ qs g∧w.cell? ⟨g,p*2,none⟩=some (.int .i64 c.1)∧w.cell? ⟨g,p*2+1,none⟩=some (.slice (some ⟨g',0,none⟩) c.2.length cap')∧InQ qs g' ∧
   w.cell? ⟨g',j*2,none⟩=some (.int .i64 q.1)∧w.cell? ⟨g',j*2+1,none⟩=some (.int .i64 q.2)∧w.frozen? ⟨g',j*2,none⟩=false∧w.frozen? ⟨g',j*2+1,none⟩=false ∧
   (∀ u:Int,OwnLk base (w.setCell ⟨g',j*2,none⟩ (.int .i64 u)) v qs (L.set p (c.1,c.2.set j (u,q.2)))) ∧
   ∀ u:Int,OwnLk base (w.setCell ⟨g',j*2+1,none⟩ (.int .i64 u)) v qs (L.set p (c.1,c.2.set j (q.1,u))):=by
 have hpl:=(List.getElem?_eq_some_iff.1 hp).1
 have hjl:=(List.getElem?_eq_some_iff.1 hj).1
 obtain ⟨hd1,hq,ho⟩:=OwnN.get (p:=1) h hp
 obtain ⟨a,cap,e,r,c1,c2,c3,c4⟩:=h.1.rd (fun _=>rfl)
 have hlen:qs.length=L.length:=h.2.1
 obtain ⟨g,hga,hgb⟩:=c3 (by intro h0;rw [h0] at hlen;simp at hlen;omega)
 cases hga
 subst e
 have hvb:(Value.slice (some ⟨g,0,none⟩) qs.length cap).ownBlock=some g:=rfl
 have hhd:∃ g' cap',hd1.val=.slice (some ⟨g',0,none⟩) c.2.length cap':=by
  rcases ho.2 with ⟨h1,h2⟩ | ⟨g',cap',cur,h1,_⟩
  ·exfalso;omega
  ·exact ⟨g',cap',h1⟩
 obtain ⟨g',cap',hv'⟩:=hhd
 have hinq:InQ qs g':=⟨p,_,hq,by rw [hv'];rfl⟩
 have hcell0:=(h.1.set1 (sz:=2) (enc:=encP encI) (c:=0) (fun _=>rfl) hq (by omega)).1
 have hcell:=(h.1.set1 (sz:=2) (enc:=encP encI) (c:=1) (fun _=>rfl) hq (by omega)).1
 rw [hv'] at ho
 obtain ⟨q0,f0,O0⟩:=own_set1 (sz:=2) (enc:=encS) (c:=0) (fun _=>rfl) ho hj (by omega)
 obtain ⟨q1,f1,O1⟩:=own_set1 (sz:=2) (enc:=encS) (c:=1) (fun _=>rfl) ho hj (by omega)
 have hgl:g<w.heap.size:=by obtain ⟨_,cur,hc⟩:=OwnW.blk h.1 hvb;exact heap_lt hc
 have key:∀ (d:Nat) (u:Value) (row':List (Int×Int)),OwnL 2 encS 128 base (w.setCell ⟨g',j*2+d,none⟩ u) hd1.val row'→OwnLk base (w.setCell ⟨g',j*2+d,none⟩ u) (.slice (some ⟨g,0,none⟩) qs.length cap) qs (L.set p (c.1,row')):=by
  intro d u row' ho'
  exact OwnN.keep (by decide) h hq ho' ((Chg.refl _ w).setCell _ (fun x hx he=>hx.2 (by rw [hv',he];rfl)))
 refine ⟨g,cap,g',cap',by rw [hlen],hgl,hgb,inQ_ne h hvb,hcell0,?_,hinq,q0,q1,f0,f1,fun u=>?_,fun u=>?_⟩
 ·rw [← hv']
  exact hcell
 ·refine key 0 _ _ ?_
  rw [hv']
  exact O0 (u,q.2) (.int .i64 u) rfl
 ·refine key 1 _ _ ?_
  rw [hv']
  exact O1 (q.1,u) (.int .i64 u) rfl
def JnsRel (L:List Lkd) (left right:Int) (lev base:Nat) (v:Value) (qs:List (Int×Hdr)) (w:World) (i:Value) (wr:World):Prop :=
 ∃ k:Nat,k≤L.length∧i=.int .i64 k∧OwnLk base wr v qs (updF (setJ left right lev) L k)∧Exq qs w wr
theorem setJ_of {left right:Int} {lev:Nat} {c:Lkd} {q:Int×Int} (hq:c.2[lev]?=some q):setJ left right lev c=(c.1,c.2.set lev (if c.1=right then left else q.1,if c.1=left then right else q.2)):=by
 unfold setJ
 rw [mod_set hq]
 rfl
theorem setJ_no {left right:Int} {lev:Nat} {c:Lkd} {q:Int×Int} (hq:c.2[lev]?=some q) (h1:c.1≠left) (h2:c.1≠right):setJ left right lev c=c:=by
 rw [setJ_of hq,if_neg h1,if_neg h2]
 obtain ⟨hl,he⟩:=List.getElem?_eq_some_iff.1 hq
 have:c.2.set lev (q.1,q.2)=c.2:=by
  rw [← he]
  exact List.set_getElem_self hl
 rw [this]
set_option maxRecDepth 100000 in
set_option maxHeartbeats 4000000 in
theorem join_p (v:Value) (qs:List (Int×Hdr)) (L:List Lkd) (left right:Int) (lev base:Nat) (w:World) (h:OwnLk base w v qs L) (hn:L.length≤1000) (hl:∀ c∈L,lev<c.2.length) :
  Calls Tryz.prog 112 #[v,.int .i64 left,.int .i64 right,.int .i64 lev] w fun e w'=>e=.returned (.tuple #[])∧OwnLk base w' v qs (joinJ L left right lev)∧Exq qs w w':=by
 obtain ⟨a,cp,e,_,_,_,_⟩:=h.1.rd (fun _=>rfl)
 have hlen:qs.length=L.length:=h.2.1
 rw [hlen] at e
 have HV:=lH e
 have HLV:=lH hl
 have R0:=lH (show JnsRel L left right lev base v qs w (.int .i64 0) w from ⟨0,by omega,rfl,by rw [updF_zero];exact h,Exq.refl _ _⟩)
 subst e
 clear hl h hlen
 go_enter Tryz.func112,Tryz.ntmps112
 go_wp2_with fail
 go_loopw [11] (fun i wr=>JnsRel L left right lev base (.slice a L.length cp) qs w i wr) (fun i _=>L.length-(intOf i).toNat)
 case atStart=>exact R0.out
 case round =>
  clear R0
  obtain ⟨k,hk,rfl,own,kq⟩:=hrel
  obtain ⟨wi,rfl⟩:∃ wi:World,wi=wr:=⟨_,rfl⟩
  by_cases hkn:k<L.length
  ·obtain ⟨c,hc⟩:∃ c,L[k]?=some c:=⟨L[k]'hkn,by simp⟩
   have hcl:=HLV.out c (List.mem_of_getElem? hc)
   obtain ⟨q,hq⟩:∃ q,c.2[lev]?=some q:=⟨c.2[lev]'hcl,by simp⟩
   have hck:=updF_get (T:=setJ left right lev) hc
   obtain ⟨g,cap,g',cap',hv,hgl,hgb,hniq,e0,e1,hinq,q0,q1,f0,f1,O0,O1⟩:=lk_at own hck hq
   rw [updF_len] at hv
   have hv2:a=some ⟨g,0,none⟩∧cp=cap:=by simpa using hv
   obtain ⟨rfl,rfl⟩:=hv2
   have KQ:=lH kq
   have OW:=lH own
   have OH1:=lH O1
   have OH0:=lH O0
   have HC:=lH hc
   have HQ:=lH hq
   have HCK:=lH hck
   have SJ:=lH (setJ_of (left:=left) (right:=right) hq)
   have hgg:¬ g'=g:=fun he=>hniq (he▸hinq)
   have hgg2:¬ g=g':=fun he=>hgg he.symm
   have hkI:(k:Int)<(L.length:Int):=by omega
   have hlI:(lev:Int)<(c.2.length:Int):=by omega
   have HIQ:=lH hinq
   have HNI:=lH hniq
   clear own kq O0 O1 hc hq hck hv hinq hniq
   by_cases h1:c.1=left
   ·by_cases h2:c.1=right
    ·have RR:=lH (fun (wz:World) (own:OwnLk base wz (.slice (some ⟨g,0,none⟩) L.length cp) qs ((updF (setJ left right lev) L k).set k (c.1,c.2.set lev (left,right)))) (kz:Exq qs wi wz)=>show JnsRel L left right lev base (.slice (some ⟨g,0,none⟩) L.length cp) qs w (.int .i64 ((k:Int)+1)) wz from
      ⟨k+1,by omega,by go_num,by rw [updF_succ HC.out,SJ.out,if_pos h1,if_pos h2];exact own,KQ.out.nxq kz⟩)
     have d1:(c.1==left)=true:=by simpa using h1
     have d2:(c.1==right)=true:=by simpa using h2
     clear SJ KQ
     go_upto_region 5 with fail
     obtain ⟨w1,hw1⟩:∃ w1,w1=wi.setCell ⟨g',lev*2+1,none⟩ (.int .i64 right):=⟨_,rfl⟩
     rw [← hw1]
     have own1:=OH1.out right
     rw [← hw1] at own1
     have k1:Exq qs wi w1:=by rw [hw1];exact (Exq.refl qs wi).set (p:=⟨g',lev*2+1,none⟩) _ HIQ.out
     have hks:((updF (setJ left right lev) L k).set k (c.1,c.2.set lev (q.1,right)))[k]?=some (c.1,c.2.set lev (q.1,right)):=List.getElem?_set_self (by rw [updF_len];exact hkn)
     have hqs:(c.1,c.2.set lev (q.1,right)).2[lev]?=some (q.1,right):=List.getElem?_set_self hcl
     obtain ⟨g2,cap2,g2',cap2',hv,hgl2,hgb2,hniq2,e02,e12,hinq2,q02,q12,f02,f12,O02,O12⟩:=lk_at own1 hks hqs
     simp only [List.length_set,updF_len,List.set_set] at hv e02 e12 O02 O12
     have hv2:g=g2∧cp=cap2:=by simpa using hv
     obtain ⟨rfl,rfl⟩:=hv2
     have OH:=lH O02
     have HI2:=lH hinq2
     have K1:=lH k1
     clear hw1 own1 k1 hks hqs hv O02 O12 e0 e1 q0 q1 f0 f1 OH0 OH1 OW hinq2 hniq2
     go_wp2_with fail
     exact ⟨RR.out _ (OH.out left) (K1.out.nxq ((Exq.refl qs w1).set (p:=⟨g2',lev*2,none⟩) _ HI2.out)),by simp [intOf];omega⟩
    ·have RR:=lH (fun (wz:World) (own:OwnLk base wz (.slice (some ⟨g,0,none⟩) L.length cp) qs ((updF (setJ left right lev) L k).set k (c.1,c.2.set lev (q.1,right)))) (kz:Exq qs wi wz)=>show JnsRel L left right lev base (.slice (some ⟨g,0,none⟩) L.length cp) qs w (.int .i64 ((k:Int)+1)) wz from
      ⟨k+1,by omega,by go_num,by rw [updF_succ HC.out,SJ.out,if_pos h1,if_neg h2];exact own,KQ.out.nxq kz⟩)
     have d1:(c.1==left)=true:=by simpa using h1
     have d2:(c.1==right)=false:=by simpa using h2
     clear SJ KQ
     go_upto_region 5 with fail
     obtain ⟨w1,hw1⟩:∃ w1,w1=wi.setCell ⟨g',lev*2+1,none⟩ (.int .i64 right):=⟨_,rfl⟩
     rw [← hw1]
     have own1:=lH (OH1.out right)
     rw [← hw1] at own1
     have k1:Exq qs wi w1:=by rw [hw1];exact (Exq.refl qs wi).set (p:=⟨g',lev*2+1,none⟩) _ HIQ.out
     have K1:=lH k1
     have e02:w1.cell? ⟨g,k*2,none⟩=some (.int .i64 c.1):=Chg.cellv k1 e0 ⟨hgl,HNI.out⟩
     clear hw1 k1 e0 e1 q0 q1 f0 f1 OH0 OH1 OW
     go_wp2_with fail
     exact ⟨RR.out _ own1.out K1.out,by simp [intOf];omega⟩
   ·by_cases h2:c.1=right
    ·have RR:=lH (fun (wz:World) (own:OwnLk base wz (.slice (some ⟨g,0,none⟩) L.length cp) qs ((updF (setJ left right lev) L k).set k (c.1,c.2.set lev (left,q.2)))) (kz:Exq qs wi wz)=>show JnsRel L left right lev base (.slice (some ⟨g,0,none⟩) L.length cp) qs w (.int .i64 ((k:Int)+1)) wz from
      ⟨k+1,by omega,by go_num,by rw [updF_succ HC.out,SJ.out,if_neg h1,if_pos h2];exact own,KQ.out.nxq kz⟩)
     have d1:(c.1==left)=false:=by simpa using h1
     have d2:(c.1==right)=true:=by simpa using h2
     clear SJ KQ OH1 OW
     go_wp2_with fail
     exact ⟨RR.out _ (OH0.out left) ((Exq.refl qs wi).set (p:=⟨g',lev*2,none⟩) _ HIQ.out),by simp [intOf];omega⟩
    ·have RR:=lH (show JnsRel L left right lev base (.slice (some ⟨g,0,none⟩) L.length cp) qs w (.int .i64 ((k:Int)+1)) wi from
      ⟨k+1,by omega,by go_num,by rw [updF_same HC.out (setJ_no HQ.out h1 h2)];exact OW.out,KQ.out⟩)
     have d1:(c.1==left)=false:=by simpa using h1
     have d2:(c.1==right)=false:=by simpa using h2
     clear SJ KQ OH0 OH1 OW
     go_wp2_with fail
     exact ⟨RR.out,by simp [intOf];omega⟩
  ·obtain rfl:k=L.length:=by omega
   rw [updF_all] at own
   have OW:=lH own
   have KQ:=lH kq
   clear own kq
   go_wp2_with fail
   go_end0
   exact ⟨rfl,OW.out,KQ.out⟩
end Go.Proofs.YthcholmhmcpooaaGreatDoor
