/- Shared texts. -/
import Derived.BigRegion
import Derived.Shelf.Spec.SlicesInsertGrow
import Derived.Test.YthcholmhmcpooaaGreatDoorWAll17
set_option linter.unusedSimpArgs false
set_option linter.unusedVariables false

namespace Go.Proofs.YthcholmhmcpooaaGreatDoor
open Go.RowKit
structure Fl where
 peers:List Pr
 msgs:List (Int×Int)
def nodeB (N:List Nd) (v:Int):Prop:=∃ x∈N,x.id=v
section
variable {N:List Nd} {f:Fl}
end
section
variable {N:List Nd} {f g:Fl}
def DelTo (N:List Nd) (f g:Fl) (D:List (Int×Int)):Prop :=
 (∀ x∈N,(peerN g.peers x.id).left=(peerN f.peers x.id).left∧(peerN g.peers x.id).right=(peerN f.peers x.id).right∧(peerN g.peers x.id).near=(peerN f.peers x.id).near ∧
  ∀ v,nodeB N v→v≠x.id→(v∈(peerN g.peers x.id).known↔v∈(peerN f.peers x.id).known∨(x.id,v)∈D))∧∀ m,m∈f.msgs↔m∈g.msgs∨m∈D
theorem DelTo.refl (N:List Nd) (f:Fl):DelTo N f f []:=⟨fun x hx=>⟨rfl,rfl,rfl,fun v _ _=>by simp⟩,fun m=>by simp⟩
end
theorem lk_at {base:Nat} {w:World} {v:Value} {qs:List (Int×Hdr)} {L:List Lkd} (h:OwnLk base w v qs L) {p j:Nat} {c:Lkd} {q:Int×Int} (hp:L[p]?=some c) (hj:c.2[j]?=some q) :
  ∃ g cap g' cap',v=.slice (some ⟨g,0,none⟩) L.length cap∧g<w.heap.size∧base≤g∧¬ InQ qs g∧w.cell? ⟨g,p*2,none⟩=some (.int .i64 c.1)∧w.cell? ⟨g,p*2+1,none⟩=some (.slice (some ⟨g',0,none⟩) c.2.length cap')∧InQ qs g' ∧
   w.cell? ⟨g',j*2,none⟩=some (.int .i64 q.1)∧w.cell? ⟨g',j*2+1,none⟩=some (.int .i64 q.2)∧w.frozen? ⟨g',j*2,none⟩=false∧w.frozen? ⟨g',j*2+1,none⟩=false ∧
   (∀ u:Int,OwnLk base (w.setCell ⟨g',j*2,none⟩ (.int .i64 u)) v qs (L.set p (c.1,c.2.set j (u,q.2)))) ∧
   ∀ u:Int,OwnLk base (w.setCell ⟨g',j*2+1,none⟩ (.int .i64 u)) v qs (L.set p (c.1,c.2.set j (q.1,u))):=by
 have hpl:=(List.getElem?_eq_some_iff.1 hp).1
 have hjl:=(List.getElem?_eq_some_iff.1 hj).1
 obtain ⟨hd1,hq,ho⟩:=OwnN.get (p:=1) h hp
 obtain ⟨a,cap,e,r,c1,c2,c3,c4⟩:=h.1.rd (fun _=>rfl)
 have hlen:qs.length=L.length:=h.2.1
 obtain ⟨g,hga,hgb⟩:=c3 (by intro h0;rw [h0] at hlen;simp at hlen;omega)
 cases hga
 subst e
 have hvb:(Value.slice (some ⟨g,0,none⟩) qs.length cap).ownBlock=some g:=rfl
 have hhd:∃ g' cap',hd1.val=.slice (some ⟨g',0,none⟩) c.2.length cap':=by
  rcases ho.2 with ⟨h1,h2⟩ | ⟨g',cap',cur,h1,_⟩
  ·exfalso;omega
  ·exact ⟨g',cap',h1⟩
 obtain ⟨g',cap',hv'⟩:=hhd
 have hinq:InQ qs g':=⟨p,_,hq,by rw [hv'];rfl⟩
 have hcell0:=(h.1.set1 (sz:=2) (enc:=encP encI) (c:=0) (fun _=>rfl) hq (by omega)).1
 have hcell:=(h.1.set1 (sz:=2) (enc:=encP encI) (c:=1) (fun _=>rfl) hq (by omega)).1
 rw [hv'] at ho
 obtain ⟨q0,f0,O0⟩:=own_set1 (sz:=2) (enc:=encS) (c:=0) (fun _=>rfl) ho hj (by omega)
 obtain ⟨q1,f1,O1⟩:=own_set1 (sz:=2) (enc:=encS) (c:=1) (fun _=>rfl) ho hj (by omega)
 have hgl:g<w.heap.size:=by obtain ⟨_,cur,hc⟩:=OwnW.blk h.1 hvb;exact heap_lt hc
 have key:∀ (d:Nat) (u:Value) (row':List (Int×Int)),OwnL 2 encS 128 base (w.setCell ⟨g',j*2+d,none⟩ u) hd1.val row'→OwnLk base (w.setCell ⟨g',j*2+d,none⟩ u) (.slice (some ⟨g,0,none⟩) qs.length cap) qs (L.set p (c.1,row')):=by
  intro d u row' ho'
  exact OwnN.keep (by decide) h hq ho' ((Chg.refl _ w).setCell _ (fun x hx he=>hx.2 (by rw [hv',he];rfl)))
 refine ⟨g,cap,g',cap',by rw [hlen],hgl,hgb,inQ_ne h hvb,hcell0,?_,hinq,q0,q1,f0,f1,fun u=>?_,fun u=>?_⟩
 ·rw [← hv']
  exact hcell
 ·refine key 0 _ _ ?_
  rw [hv']
  exact O0 (u,q.2) (.int .i64 u) rfl
 ·refine key 1 _ _ ?_
  rw [hv']
  exact O1 (q.1,u) (.int .i64 u) rfl
theorem lk_id {base:Nat} {w:World} {v:Value} {qs:List (Int×Hdr)} {L:List Lkd} (h:OwnLk base w v qs L) {p:Nat} {c:Lkd} (hp:L[p]?=some c) :
  ∃ g cap,v=.slice (some ⟨g,0,none⟩) L.length cap∧w.cell? ⟨g,p*2,none⟩=some (.int .i64 c.1):=by
 have hpl:=(List.getElem?_eq_some_iff.1 hp).1
 obtain ⟨hd1,hq,ho⟩:=OwnN.get (p:=1) h hp
 obtain ⟨a,cap,e,r,c1,c2,c3,c4⟩:=h.1.rd (fun _=>rfl)
 have hlen:qs.length=L.length:=h.2.1
 obtain ⟨g,hga,hgb⟩:=c3 (by intro h0;rw [h0] at hlen;simp at hlen;omega)
 cases hga
 subst e
 exact ⟨g,cap,by rw [hlen],(h.1.set1 (sz:=2) (enc:=encP encI) (c:=0) (fun _=>rfl) hq (by omega)).1⟩
theorem setJ_of {left right:Int} {lev:Nat} {c:Lkd} {q:Int×Int} (hq:c.2[lev]?=some q):setJ left right lev c=(c.1,c.2.set lev (if c.1=right then left else q.1,if c.1=left then right else q.2)):=by
 unfold setJ
 rw [mod_set hq]
 rfl
def plcs (wd m:Nat):List (Nat×Nat):=(List.range m).map fun j=>(j,wd % 2 ^ j)
def encPc (p:Nat×Nat):List Value:=[.int .i64 (p.1:Int),.int .u32 (p.2:Int)]
theorem plcs_succ (wd m:Nat):plcs wd (m+1)=plcs wd m++[(m,wd % 2 ^ m)]:=by
 unfold plcs
 rw [List.range_succ,List.map_append]
 rfl
theorem Tryz.infoPc:(Tryz.prog.info? 125).map (fun i=>(i.zero,i.size,i.bytes))=some (some (.agg #[.int .i64 0,.int .u32 0]),2,16):=by kernel_rfl
theorem and_1 (wd lev:Nat) (hw:wd<4294967296) (hl:lev≤16):bits BinOp.and IntKind.u32 (wd:Int) (IntKind.u32.wrap (IntKind.u32.wrap (2 ^ lev)-1))=((wd % 2 ^ lev:Nat):Int):=by
 have hp:2 ^ lev≤2 ^ 16:=Nat.pow_le_pow_right (by omega) hl
 have hp1:1≤2 ^ lev:=Nat.one_le_two_pow
 have e:IntKind.u32.wrap (IntKind.u32.wrap (2 ^ lev)-1)=((2 ^ lev-1:Nat):Int):=by
  have:(2:Int) ^ lev=((2 ^ lev:Nat):Int):=by push_cast;rfl
  rw [this,wrap_u32n,wrap_u32n]
  omega
 rw [e,bits_and_u32n wd (2 ^ lev-1) hw (by omega),Nat.and_two_pow_sub_one_eq_mod]
def PlcsRel (wd m:Nat) (w:World) (o i:Value) (wr:World):Prop :=
 ∃ k:Nat,k≤m∧i=.int .i64 k∧OwnL 2 encPc 125 w.heap.size wr o (plcs wd k)∧Ex w wr
theorem litPc (u:World) (lev b:Nat):∃ g v,g=u.heap.size∧v=u.alloc (.cells #[.int .i64 (lev:Int),.int .u32 (b:Int)] 125)∧Sl 2 encPc v (some ⟨g,0,none⟩) 1 [(lev,b)]∧Ex u v :=
 ⟨_,_,rfl,rfl,Sl.lit [(lev,b)] rfl rfl (fun _=>rfl) rfl,Ex.new _ _⟩
set_option maxRecDepth 100000 in
set_option maxHeartbeats 4000000 in
theorem places_p (x:Nd) (m:Nat) (hm:m≤16) (hx:x.word<4294967296) (w:World) :
  Calls Tryz.prog 64 #[.agg #[.int .i64 x.id,.string x.key,.int .u32 x.word],.int .i64 m] w fun e w'=>∃ v,e=.returned v∧OwnL 2 encPc 125 w.heap.size w' v (plcs x.word (m+1))∧Ex w w':=by
 obtain ⟨M1,hM1⟩:∃ M1,M1=m+1:=⟨_,rfl⟩
 rw [← hM1]
 have hM17:M1≤17:=by omega
 have wrm:IntKind.i64.wrap ((m:Int)+1)=(M1:Int):=by rw [IntWalk.i64_in _ (by omega)];omega
 have B2:=Blk.new w [.int .i64 x.id,.string x.key,.int .u32 x.word] 36
 have kk:=Ex.new w (.cells #[.int .i64 x.id,.string x.key,.int .u32 x.word] 36)
 obtain ⟨w1,hw1⟩:∃ w1,w1=w.alloc (.cells #[.int .i64 x.id,.string x.key,.int .u32 x.word] 36):=⟨_,rfl⟩
 obtain ⟨g2,hg2⟩:∃ g2,g2=w.heap.size:=⟨_,rfl⟩
 replace B2:Blk w1 g2 [.int .i64 x.id,.string x.key,.int .u32 x.word] 36:=by rw [hw1,hg2];exact B2
 rw [← hw1] at kk
 have Hw1:=lH hw1
 have Hg2:=lH hg2
 have K1:=lH kk
 have B2H:=lH B2
 have hgw:w.heap.size≤g2:=by omega
 clear kk hw1 hg2 B2 hM1
 go_enter Tryz.func64,Tryz.ntmps64
 go_upto_region 1 with fail
 rw [← Hg2.out,← Hw1.out]
 clear Hg2 Hw1
 go_wp2_with fail
 go_loopw [5,9] (fun o i wr=>PlcsRel x.word M1 w1 o i wr) (fun _ i _=>M1-(intOf i).toNat)
 case atStart=>exact ⟨0,by omega,rfl,OwnL.nil _ _ _ _ _,Ex.refl _⟩
 case round =>
  obtain ⟨k,hk,rfl,own,kw⟩:=hrel
  obtain ⟨wo,rfl⟩:∃ wo:World,wo=wr:=⟨_,rfl⟩
  have KW:=lH kw
  have OWN:=lH own
  by_cases hkm:k<M1
  ·have han:=and_1 x.word k hx (by omega)
   have PS:=lH (plcs_succ x.word k)
   obtain ⟨b,hb⟩:∃ b,b=x.word % 2 ^ k:=⟨_,rfl⟩
   rw [← hb] at han PS
   have HAN:=lH han
   have hpl:(plcs x.word k).length≤100:=by unfold plcs;simp;omega
   have hk16:(k:Int) ≥ 0:=by omega
   have zw:=kw.size
   clear hb own kw han
   go_upto_region 5 with fail
   refine wp_region_late_drew (S:=Ex wo) [10] (by kernel_rfl) ((Ex.refl wo).drew) (fun hHeld=>?_)
   obtain ⟨wd,hwdx⟩:∃ wd:World,wd=World.drew wo:=⟨_,rfl⟩
   rw [← hwdx] at hHeld ⊢
   have hDrew:Ex wo wd:=by rw [hwdx];exact (Ex.refl wo).drew
   clear hwdx
   refine tkL 0 (v:=?_) rfl (by kernel_rfl) (fun _ _ _ h=>h) (by rfl) ?y5 hHeld ?_
   case y5=>intro wq hSw;go_simp<;>rfl
   try simp only [Act.put,sA,sB,sC]
   refine tkL 1 (v:=?_) rfl (by kernel_rfl) (fun _ _ _ h=>h) (by rfl) ?y8 hHeld ?_
   case y8=>intro wq hSw;go_simp<;>rfl
   try simp only [Act.put,sA,sB,sC]
   refine tkL 2 (v:=?_) rfl (by kernel_rfl) (fun _ _ _ h=>h) (by rfl) ?y11 hHeld ?_
   case y11=>intro wq hSw;go_simp<;>rfl
   try simp only [Act.put,sA,sB,sC]
   refine tkL 3 (v:=?_) rfl (by kernel_rfl) (fun _ _ _ h=>h) (by rfl) ?y14 hHeld ?_
   case y14=>intro wq hSw;(have cq:=(B2H.out.nx ((KW.out).nx hSw)).cell 2 _ rfl;go_simp)<;>rfl
   try simp only [Act.put,sA,sB,sC]
   refine tkL 4 (v:=?_) rfl (by kernel_rfl) (fun _ _ _ h=>h) (by rfl) ?y17 hHeld ?_
   case y17=>intro wq hSw;go_simp<;>rfl
   try simp only [Act.put,sA,sB,sC]
   refine tkL 5 (v:=?_) rfl (by kernel_rfl) (fun _ _ _ h=>h) (by rfl) ?y20 hHeld ?_
   case y20=>intro wq hSw;go_simp<;>rfl
   try simp only [Act.put,sA,sB,sC]
   refine tkL 6 (v:=?_) rfl (by kernel_rfl) (fun _ _ _ h=>h) (by rfl) ?y23 hHeld ?_
   case y23=>intro wq hSw;go_simp<;>rfl
   try simp only [Act.put,sA,sB,sC]
   refine tkL 7 (v:=?_) rfl (by kernel_rfl) (fun _ _ _ h=>h) (by rfl) ?y26 hHeld ?_
   case y26=>intro wq hSw;go_simp<;>rfl
   try simp only [Act.put,sA,sB,sC]
   refine tkL 8 (v:=?_) rfl (by kernel_rfl) (fun _ _ _ h=>h) (by rfl) ?y29 hHeld ?_
   case y29=>intro wq hSw;go_simp<;>rfl
   try simp only [Act.put,sA,sB,sC]
   refine rL 9 (by kernel_rfl) rfl fun K hK=>?_
   go_simp
   rw [HAN.out]
   obtain ⟨gx,wq,hgx,hwq,SX,kk⟩:=litPc _ k b
   rw [← hgx,← hwq]
   clear hgx hwq
   replace hHeld:=hHeld.nx kk
   clear kk
   refine hK.out _ _ (hHeld) (fun hHeld=>?_)
   clear hK K
   try simp only [Act.put,sA,sB,sC]
   refine rLL 10 (by kernel_rfl) rfl (by rfl) fun K hK=>?_
   rw [if_pos (by rfl)]
   have OQ:=OWN.out.nx hHeld
   have hz:w1.heap.size≤wq.heap.size:=by have:=hHeld.size;omega
   refine wp_append_rd (enc:=encPc) _ (.tmp 12) (.tmp 21) 122 rfl w1.heap.size 125 (.agg #[.int .i64 0,.int .u32 0]) 2 16 Tryz.underlying122 Tryz.infoPc rfl (by omega) (by omega) _ (plcs x.word k) OQ rfl _ _ 1 1 [(k,b)] SX (fun h=>by cases h) (fun _=>rfl) (by simp [encPc,Value.oneCell']) rfl (by omega) (by omega) hz ?_
   intro v7 w7 own7 ch0 ch1
   have RR:=lH (show PlcsRel x.word M1 w1 v7 (.int .i64 ((k:Int)+1)) w7 from ⟨k+1,by omega,by go_num,by rw [PS.out];exact own7,Chg.trans (KW.out.nx hHeld) ch1⟩)
   clear own7 ch0 ch1 OQ SX hHeld
   refine hK.out _ _ ?_
   clear hK K
   try simp only [Act.put,sA,sB,sC]
   refine wpAnyL_takeP (i:=11) (oi:=⟨_,_,_,_,_,_⟩) (v:=?_) rfl (by kernel_rfl) (by kernel_rfl) (by kernel_rfl) (fun _ _ _ h=>h) (Or.inl ⟨by rfl,?y56⟩) ?_
   case y56=>intro wq hSw;go_simp<;>rfl
   try simp only [Act.put,sA,sB,sC]
   refine wpAnyL_done (by kernel_rfl) ?_ _
   clear hDrew
   go_wp2_with fail
   exact ⟨RR.out,by simp [intOf];omega⟩
  ·obtain rfl:k=M1:=by omega
   go_wp2_with fail
   go_ret
   exact ⟨_,rfl,OWN.out.base (by have:=K1.out.size;omega),K1.out.nx KW.out⟩
end Go.Proofs.YthcholmhmcpooaaGreatDoor
