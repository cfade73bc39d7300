/- Texts for TopSurvivesProof. -/
import Derived.Test.YthcholmhmcpooaaGreatDoorTopSurvivesProofL11
import Derived.Test.YthcholmhmcpooaaGreatDoorTopSurvivesProofL13
set_option linter.unusedSimpArgs false
set_option linter.unusedVariables false

namespace Go.Proofs.YthcholmhmcpooaaGreatDoor
open Go.RowKit
def NiRel (x:Nd) (G:List Nd) (g12:Nat) (w:World) (i:Value) (wr:World):Prop :=
 ∃ k:Nat,k≤G.length∧i=.int .i64 k∧Exb g12 w wr∧Blk wr g12 [.int .i64 (nbFold x (G.take k)).1,.int .i64 (nbFold x (G.take k)).2] 128
theorem ng_no {l:List Nd} {id h:Int} {w w':World} (hno:neighN l id h=((0,0),false)) (k:Ex w w'):NgPost (neighN l id h) w (.returned (.tuple #[.agg #[.int .i64 0,.int .i64 0],.bool false])) w':=by
 rw [hno];exact ⟨rfl,k⟩
theorem OwnL.sl3 {sz e base:Nat} {α:Type} {enc:α→List Value} {w:World} {v:Value} {l:List α} (h:OwnL sz enc e base w v l) (hsz:∀ y,(enc y).length=sz):∃ a cap,v=.slice a l.length cap∧Sl sz enc w a l.length l∧l.length≤cap∧cap≤maxLen:=by
 obtain ⟨a,cap,e,h1,h2,h3,_⟩:=h.rd hsz
 exact ⟨a,cap,e,h1.mono (fun _ hk=>hk.2),h2,h3⟩
set_option maxRecDepth 100000 in
set_option maxHeartbeats 2000000 in
theorem neigh_p (a:Option Addr) (n c:Nat) (l:List Nd) (id h:Int) (w:World) (hs:Sl 3 encN w a n l) (hn:n≤1000) (hc:n≤c) (hm:c≤maxLen) (hw:∀ x∈l,x.word<4294967296) (hT:TabG w) :
  Calls Tryz.prog 103 #[.slice a n c,.int .i64 id,.int .i64 h] w (NgPost (neighN l id h) w):=by
 have HW:=lH hw
 have HXW:=findN_word hw id
 have HL:=lH hs.len
 have k1:=Ex.new w (.cells #[.int .i64 0,.int .i64 0] 128)
 have B1:=Blk.new w [.int .i64 0,.int .i64 0] 128
 obtain ⟨w1,hw1⟩:∃ w1,w1=w.alloc (.cells #[.int .i64 0,.int .i64 0] 128):=⟨_,rfl⟩
 obtain ⟨g,hg⟩:∃ g,g=w.heap.size:=⟨_,rfl⟩
 have B1:Blk w1 g [.int .i64 0,.int .i64 0] 128:=by rw [hw1,hg];exact B1
 rw [← hw1] at k1
 have hgn:w.heap.size≤g:=by omega
 have HW1:=lH hw1
 have HG:=lH hg
 have S1:=hs.nx k1
 have HT:=lH (hT.nx k1)
 clear hs hw1 hg hw hT
 go_enter Tryz.func103,Tryz.ntmps103
 go_upto_region 1 with fail
 rw [← HG.out,← HW1.out]
 go_wp2_with fail
 (with_reducible refine (ordered_p _ _ _ _ _ S1 hn hc hm).mono ?_)
 rintro e w2 ⟨v,S,rfl,OS,⟨hp,hsrt⟩,k2⟩
 have SL:=lH hp.length_eq
 have HSR:=lH hsrt
 have SW:Hid (∀ x∈S,x.word<4294967296):=lH (fun x hx=>HW.out x (hp.mem_iff.1 hx))
 replace S1:=S1.nx k2
 replace B1:=B1.nx k2
 replace HT:=lH (HT.out.nx k2)
 replace k1:=k1.nx k2
 have OS:=lH OS
 clear hp hsrt k2
 go_wp2_with fail
 (with_reducible refine (find_p _ _ _ _ _ _ S1 (by omega)).mono ?_)
 rintro e w3 ⟨rfl,k3⟩
 obtain ⟨F,hF⟩:∃ F,F=findN l id:=⟨_,rfl⟩
 have HF:=lH hF
 rw [← hF] at HXW ⊢
 obtain ⟨⟨xi,xk,xw⟩,ok⟩:=F
 have k4:=Ex.new w3 (.cells #[.int .i64 xi,.string xk,.int .u32 xw] 36)
 have B2:=Blk.new w3 [.int .i64 xi,.string xk,.int .u32 xw] 36
 obtain ⟨w4,hw4⟩:∃ w4,w4=w3.alloc (.cells #[.int .i64 xi,.string xk,.int .u32 xw] 36):=⟨_,rfl⟩
 obtain ⟨g2,hg2⟩:∃ g2,g2=w3.heap.size:=⟨_,rfl⟩
 have B2:Blk w4 g2 [.int .i64 xi,.string xk,.int .u32 xw] 36:=by rw [hw4,hg2];exact B2
 rw [← hw4] at k4
 have HW4:=lH hw4
 have HG2:=lH hg2
 replace k3:=k3.nx k4
 replace OS:=lH (OS.out.nx k3)
 replace B1:=B1.nx k3
 replace HT:=lH (HT.out.nx k3)
 replace k1:=k1.nx k3
 clear hF hw4 hg2 k4 k3 S1
 simp only [Nd.val]
 go_upto_region 3 with fail
 rw [← HG2.out,← HW4.out]
 by_cases hck:checkN l=0
 case neg =>
  have HNO:Hid (neighN l id h=((0,0),false)):=lH (neighN_no (.inl hck))
  have d1:(checkN l==0)=false:=by simpa using hck
  rw [d1]
  have q0:=B1.cell 0 _ rfl
  have q1:=B1.cell 1 _ rfl
  have z0:=B1.free 0
  have z1:=B1.free 1
  clear hck d1 B2
  go_wp2_with fail
  refine bodyPost_ret (v:=.tuple #[.agg #[.int .i64 0,.int .i64 0],.bool false]) (by simp [results,Tryz.results103,go_sem, *]) rfl (ng_no HNO.out ?_)
  exact (k1.setNew (p:=⟨g,0,none⟩) _ hgn).setNew (p:=⟨g,1,none⟩) _ hgn
 have HCK:=lH hck
 have d1:(checkN l==0)=true:=by simpa using hck
 rw [d1]
 clear hck d1
 cases ok with
 | false =>
  have HNO:Hid (neighN l id h=((0,0),false)):=lH (neighN_no (.inr (.inl (by rw [← HF.out]))))
  have q0:=B1.cell 0 _ rfl
  have q1:=B1.cell 1 _ rfl
  have z0:=B1.free 0
  have z1:=B1.free 1
  clear B2
  go_wp2_with fail
  refine bodyPost_ret (v:=.tuple #[.agg #[.int .i64 0,.int .i64 0],.bool false]) (by simp [results,Tryz.results103,go_sem, *]) rfl (ng_no HNO.out ?_)
  exact (k1.setNew (p:=⟨g,0,none⟩) _ hgn).setNew (p:=⟨g,1,none⟩) _ hgn
 | true =>
  by_cases hlo:h<0
  ·have HNO:Hid (neighN l id h=((0,0),false)):=lH (neighN_no (.inr (.inr (by unfold lvlN;simp;omega))))
   have q0:=B1.cell 0 _ rfl
   have q1:=B1.cell 1 _ rfl
   have z0:=B1.free 0
   have z1:=B1.free 1
   clear B2
   go_wp2_with fail
   refine bodyPost_ret (v:=.tuple #[.agg #[.int .i64 0,.int .i64 0],.bool false]) (by simp [results,Tryz.results103,go_sem, *]) rfl (ng_no HNO.out ?_)
   exact (k1.setNew (p:=⟨g,0,none⟩) _ hgn).setNew (p:=⟨g,1,none⟩) _ hgn
  ·by_cases hhi:16<h
   ·have HNO:Hid (neighN l id h=((0,0),false)):=lH (neighN_no (.inr (.inr (by unfold lvlN;simp;omega))))
    have q0:=B1.cell 0 _ rfl
    have q1:=B1.cell 1 _ rfl
    have z0:=B1.free 0
    have z1:=B1.free 1
    clear B2
    go_wp2_with fail
    refine bodyPost_ret (v:=.tuple #[.agg #[.int .i64 0,.int .i64 0],.bool false]) (by simp [results,Tryz.results103,go_sem, *]) rfl (ng_no HNO.out ?_)
    exact (k1.setNew (p:=⟨g,0,none⟩) _ hgn).setNew (p:=⟨g,1,none⟩) _ hgn
   ·have HYES:Hid (neighN l id h=(nbFold ⟨xi,xk,xw⟩ (groupN S h xw),true)):=lH (by
     have:=nbFold_neigh (l:=l) (id:=id) (h:=h) HCK.out (by rw [← HF.out]) (by unfold lvlN;simp;omega)
     unfold thrG at this
     rw [← HF.out,← HSR.out HCK.out] at this
     exact this)
    have k5:=Ex.new w4 (.cells #[.int .i64 0,.int .i64 0] 128)
    have B3:=Blk.new w4 [.int .i64 0,.int .i64 0] 128
    obtain ⟨w5,hw5⟩:∃ w5,w5=w4.alloc (.cells #[.int .i64 0,.int .i64 0] 128):=⟨_,rfl⟩
    obtain ⟨g3,hg3⟩:∃ g3,g3=w4.heap.size:=⟨_,rfl⟩
    have B3:Blk w5 g3 [.int .i64 0,.int .i64 0] 128:=by rw [hw5,hg3];exact B3
    rw [← hw5] at k5
    have h13:g≠g3:=by have:=B1.lt;omega
    have h23:g2≠g3:=by have:=B2.lt;omega
    have hgn3:w.heap.size≤g3:=by have:=k1.size;omega
    have HW5:=lH hw5
    have HG3:=lH hg3
    replace OS:=OS.out.nx k5
    replace B1:=B1.nx k5
    replace B2:=B2.nx k5
    replace HT:=lH (HT.out.nx k5)
    replace k1:=k1.nx k5
    obtain ⟨aS,cS,rfl,sS,_,_⟩:=OS.sl3 (fun _=>rfl)
    have b22:=B2.cell 2 _ rfl
    have hnS:S.length≤1000:=by have:=HL.out;have:=SL.out;omega
    clear hw5 hg3 k5
    go_upto_region 6 with fail
    rw [← HG3.out,← HW5.out]
    clear OS
    have sS:Rd 3 encN (· < w5.heap.size) w5 aS S.length S:=sS
    go_wp2_with fail
    (with_reducible refine (group_p _ _ _ _ _ _ _ sS (fun _ hk=>hk) hnS SW.out HXW HT.out).mono ?_)
    rintro e w6 ⟨a6,n6,c6,rfl,r6,k6⟩
    have r6:Slf 3 encN w5 w6 a6 n6 _:=r6
    replace k6:Ex w5 w6:=k6
    have hgl:=groupN_length S h xw
    generalize groupN S h xw=G at r6 HYES hgl ⊢
    have RG:=lH (r6.slb B3.lt)
    have hng:=r6.len
    subst hng
    replace B1:=B1.nx k6
    replace B2:=lH (B2.nx k6)
    replace B3:=B3.nx k6
    replace k1:=k1.nx k6
    have B1:=lH B1
    clear r6 k6 sS b22
    have hG6:G.length≤1000:=by omega
    go_wp2_with fail
    go_loopw [47] (fun i wr=>NiRel ⟨xi,xk,xw⟩ G g3 w6 i wr) (fun i _=>G.length-(intOf i).toNat)
    case atStart=>exact ⟨0,by omega,rfl,Exb.refl _ _,B3⟩
    case round =>
     obtain ⟨k,hk,rfl,kw,B3⟩:=hrel
     obtain ⟨wo,rfl⟩:∃ wo:World,wo=wr:=⟨_,rfl⟩
     by_cases hlt:k<G.length
     ·obtain ⟨x1,o1,y,rfl,hx1,hy,hc1⟩:=((RG.out.nxb kw).sl).at hlt
      obtain ⟨yi,yk,yw⟩:=y
      have e0:wo.cell? ⟨x1,o1+k*3,none⟩=some (.int .i64 yi):=hc1 0 _ rfl
      have e1:wo.cell? ⟨x1,o1+k*3+1,none⟩=some (.string yk):=hc1 1 _ rfl
      have e2:wo.cell? ⟨x1,o1+k*3+2,none⟩=some (.int .u32 yw):=hc1 2 _ rfl
      have e2':wo.cell? ⟨x1,o1+k*3+1+1,none⟩=some (.int .u32 yw):=e2
      have FSn:Hid (nbFold ⟨xi,xk,xw⟩ (G.take (k+1))=nbStep ⟨xi,xk,xw⟩ (nbFold ⟨xi,xk,xw⟩ (G.take k)) ⟨yi,yk,yw⟩):=lH (nbFold_snoc _ _ _ _ hy)
      clear hy hc1
      obtain ⟨FF,hFF⟩:∃ FF,FF=nbFold ⟨xi,xk,xw⟩ (G.take k):=⟨_,rfl⟩
      rw [← hFF] at B3 FSn
      clear hFF
      obtain ⟨f1,f2⟩:=FF
      have k7:=Ex.new wo (.cells #[.int .i64 yi,.string yk,.int .u32 yw] 36)
      have B4:=Blk.new wo [.int .i64 yi,.string yk,.int .u32 yw] 36
      obtain ⟨w7,hw7⟩:∃ w7,w7=wo.alloc (.cells #[.int .i64 yi,.string yk,.int .u32 yw] 36):=⟨_,rfl⟩
      obtain ⟨g4,hg4⟩:∃ g4,g4=wo.heap.size:=⟨_,rfl⟩
      have B4:Blk w7 g4 [.int .i64 yi,.string yk,.int .u32 yw] 36:=by rw [hw7,hg4];exact B4
      rw [← hw7] at k7
      have h34:g3≠g4:=by have:=B3.lt;omega
      have HW7:=lH hw7
      have HG4:=lH hg4
      have B3:=B3.nx k7
      have kw:=kw.nxb (k7.b g3)
      have B2':=B2.out.nxb h23 kw
      clear hw7 hg4 k7
      go_upto_region 9 with fail
      rw [← HG4.out,← HW7.out]
      clear e0 e1 e2 e2'
      have p1:=B2'.cell 1 _ rfl
      have y0:=B4.cell 0 _ rfl
      have y1:=B4.cell 1 _ rfl
      have t0:=B3.cell 0 _ rfl
      have t1:=B3.cell 1 _ rfl
      have z0:=B3.free 0
      have z1:=B3.free 1
      cases hb:Op.bytesLess yk.toList xk.toList with
      | true =>
       have FS':Hid (nbFold ⟨xi,xk,xw⟩ (G.take (k+1))=(yi,f2)):=lH (by rw [FSn.out];exact step_less hb)
       have B3':=B3.set 0 (.int .i64 yi)
       clear B2' B4 B3
       go_wp2_with fail
       refine ⟨⟨k+1,by omega,by go_num,kw.setB _ rfl,?_⟩,by simp [intOf];omega⟩
       rw [FS'.out];exact B3'
      | false =>
       cases he:(yk.toList==xk.toList) with
       | true =>
        have FS':Hid (nbFold ⟨xi,xk,xw⟩ (G.take (k+1))=(f1,f2)):=lH (by rw [FSn.out];unfold nbStep;simp [hb,he])
        have B3':=lH B3
        clear B2' B4 B3
        go_wp2_with fail
        refine ⟨⟨k+1,by omega,by go_num,kw,?_⟩,by simp [intOf];omega⟩
        rw [FS'.out];exact B3'.out
       | false =>
        by_cases h0:f2=0
        ·have FS':Hid (nbFold ⟨xi,xk,xw⟩ (G.take (k+1))=(f1,yi)):=lH (by rw [FSn.out];unfold nbStep;simp [hb,he,h0])
         have B3':=B3.set 1 (.int .i64 yi)
         subst h0
         clear B2' B4 B3
         go_wp2_with fail
         refine ⟨⟨k+1,by omega,by go_num,kw.setB _ rfl,?_⟩,by simp [intOf];omega⟩
         rw [FS'.out];exact B3'
        ·have FS':Hid (nbFold ⟨xi,xk,xw⟩ (G.take (k+1))=(f1,f2)):=lH (by rw [FSn.out];unfold nbStep;simp [hb,he,h0])
         have d0:(f2==0)=false:=by simpa using h0
         have B3':=lH B3
         clear B2' B4 B3
         go_wp2_with fail
         refine ⟨⟨k+1,by omega,by go_num,kw,?_⟩,by simp [intOf];omega⟩
         rw [FS'.out];exact B3'.out
     ·obtain rfl:k=G.length:=by omega
      rw [List.take_length] at B3
      have B1':=B1.out.nxb h13 kw
      have kw':=k1.nx (Ex.refl _)
      have KK:Ex w wo:=(Chg.trans k1 (Chg.mono kw (fun q (hq:q<w.heap.size)=>⟨Nat.lt_of_lt_of_le hq k1.size,by omega⟩)))
      obtain ⟨FF,hFF⟩:∃ FF,FF=nbFold ⟨xi,xk,xw⟩ G:=⟨_,rfl⟩
      rw [← hFF] at B3
      have HYES':Hid (neighN l id h=(FF,true)):=lH (by rw [HYES.out,hFF])
      clear hFF HYES
      obtain ⟨f1,f2⟩:=FF
      have t0:=B3.cell 0 _ rfl
      have t1:=B3.cell 1 _ rfl
      have q0:=B1'.cell 0 _ rfl
      have q1:=B1'.cell 1 _ rfl
      have z0:=B1'.free 0
      have z1:=B1'.free 1
      clear B1' B3 hk hlt kw'
      have h13':¬ g=g3:=h13
      go_wp2_with fail
      refine bodyPost_ret (v:=.tuple #[.agg #[.int .i64 f1,.int .i64 f2],.bool true]) (by simp [results,Tryz.results103,go_sem, *]) rfl ⟨by rw [HYES'.out],?_⟩
      exact (KK.setNew (p:=⟨g,0,none⟩) _ hgn).setNew (p:=⟨g,1,none⟩) _ hgn
theorem Tryz.infoI6:(Tryz.prog.info? 3).map (fun i=>(i.zero,i.size,i.bytes))=some (some (.int .i64 0),1,8):=by kernel_rfl
theorem Tryz.infoIL:(Tryz.prog.info? 22).map (fun i=>(i.zero,i.size,i.bytes))=some (some (.slice none 0 0),1,24):=by kernel_rfl
def enc0:Unit→List Value:=fun _=>[]
def pairU (m:List Int):Unit×List Int:=((),m)
abbrev OwnIL (base:Nat) (w:World) (v:Value) (qs:List (Unit×Hdr)) (M:List (List Int)):Prop:=OwnN enc0 1 1 encI 22 3 base w v qs (M.map pairU)
def IlPost (M:List (List Int)) (w:World) (e:Ending) (w':World):Prop :=
 ∃ (v:Value) (qs:List (Unit×Hdr)),e=.returned v∧OwnIL w.heap.size w' v qs M∧Ex w w'
def idsN (c:List Nd):List Int:=c.map Nd.id
theorem idsN_snoc (c:List Nd) (k:Nat) (y:Nd) (hy:c[k]?=some y):idsN (c.take (k+1))=idsN (c.take k)++[y.id]:=by
 unfold idsN;rw [take_snocN c k y hy,List.map_append];rfl
theorem idsC_snoc (C:List (List Nd)) (k:Nat) (c:List Nd) (hc:C[k]?=some c):(((C.take (k+1)).map idsN).map pairU)=(((C.take k).map idsN).map pairU)++[((),idsN c)]:=by
 rw [List.take_add_one,hc,List.map_append,List.map_append];rfl
def listsN (l:List Nd) (h:Int):List (List Int):=if (checkN l==0)=true∧lvlN h=true then (classesN (sortN l) h).map idsN else []
theorem classesN_sm (l:List Nd) (h:Int) (hl:l.length≤1000):(classesN l h).length≤1000∧∀ c∈classesN l h,c.length≤1000:=by
 refine ⟨Nat.le_trans (classes_le l h) hl,?_⟩
 intro c hc
 by_cases hh:16<h
 ·rw [classesN_big hh] at hc;cases hc
 ·rw [classesN_fold hh] at hc
  have:=foldC_fine (h:=h) (P:=fun _=>True) l (fun _ _=>trivial)
  exact Nat.le_trans (this c hc).2.1 hl
def IdqRel (c:List Nd) (n:Nat) (w:World) (o i:Value) (wr:World):Prop :=
 ∃ k:Nat,k≤n∧i=.int .i64 k∧OwnL 1 encI 3 w.heap.size wr o (idsN (c.take k))∧Ex w wr
def IlRel (C:List (List Nd)) (w:World) (o i:Value) (wr:World):Prop :=
 ∃ (k:Nat) (qs:List (Unit×Hdr)),k≤C.length∧i=.int .i64 k∧OwnIL w.heap.size wr o qs ((C.take k).map idsN)∧Ex w wr
set_option maxRecDepth 100000 in
set_option maxHeartbeats 2000000 in
theorem lists_p (a:Option Addr) (n c:Nat) (l:List Nd) (h:Int) (w:World) (hs:Sl 3 encN w a n l) (hn:n≤1000) (hc:n≤c) (hm:c≤maxLen) (hw:∀ x∈l,x.word<4294967296) (hT:TabG w) :
  Calls Tryz.prog 109 #[.slice a n c,.int .i64 h] w (IlPost (listsN l h) w):=by
 have HW:=lH hw
 have HL:=lH hs.len
 have HT:=lH hT
 clear hw hT
 go_enter Tryz.func109,Tryz.ntmps109
 go_wp2_with fail
 (with_reducible refine (ordered_p _ _ _ _ _ hs hn hc hm).mono ?_)
 rintro e w1 ⟨v,S,rfl,OS,⟨hp,hsrt⟩,k1⟩
 have SL:=lH hp.length_eq
 have SW:Hid (∀ x∈S,x.word<4294967296):=lH (fun x hx=>HW.out x (hp.mem_iff.1 hx))
 have HSR:=lH hsrt
 replace HT:=lH (HT.out.nx k1)
 clear hp hsrt hs
 by_cases hck:checkN l=0
 case neg =>
  have HNO:Hid (listsN l h=[]):=lH (by unfold listsN;rw [if_neg];rintro ⟨h1,_⟩;exact hck (by simpa using h1))
  have d1:(checkN l==0)=false:=by simpa using hck
  rw [d1]
  clear hck d1 OS
  go_wp2_with fail
  go_ret
  rw [HNO.out]
  exact ⟨_,[],rfl,OwnN.nil _ _ _ _ _ _ _ _,k1⟩
 have HCK:=lH hck
 have d1:(checkN l==0)=true:=by simpa using hck
 rw [d1]
 clear hck d1
 by_cases hlo:h<0
 ·have HNO:Hid (listsN l h=[]):=lH (by unfold listsN;rw [if_neg];rintro ⟨_,h1⟩;unfold lvlN at h1;simp at h1;omega)
  clear OS
  go_wp2_with fail
  go_ret
  rw [HNO.out]
  exact ⟨_,[],rfl,OwnN.nil _ _ _ _ _ _ _ _,k1⟩
 by_cases hhi:16<h
 ·have HNO:Hid (listsN l h=[]):=lH (by unfold listsN;rw [if_neg];rintro ⟨_,h1⟩;unfold lvlN at h1;simp at h1;omega)
  clear OS
  go_wp2_with fail
  go_ret
  rw [HNO.out]
  exact ⟨_,[],rfl,OwnN.nil _ _ _ _ _ _ _ _,k1⟩
 have HYES:Hid (listsN l h=(classesN S h).map idsN):=lH (by
  unfold listsN;rw [if_pos ⟨by rw [HCK.out];rfl,by unfold lvlN;simp;omega⟩,HSR.out HCK.out])
 have HSM:=lH (classesN_sm S h (by have:=HL.out;have:=SL.out;omega))
 obtain ⟨aS,cS,rfl,sS,_,_⟩:=OS.sl3 (fun _=>rfl)
 have hnS:S.length≤1000:=by have:=HL.out;have:=SL.out;omega
 clear OS
 go_wp2_with fail
 (with_reducible refine (classes_p _ _ _ _ _ _ sS hnS SW.out HT.out).mono ?_)
 rintro e w2 ⟨a2,c2,rfl,C2,k2⟩
 replace k1:=lH (k1.nx k2)
 have hsz:=k1.out.size
 generalize classesN S h=C at C2 HSM HYES ⊢
 have C2:=lH C2
 have hC:=HSM.out.1
 clear k2 sS
 go_wp2_with fail
 go_loopw [7,32] (fun o i wr=>IlRel C w2 o i wr) (fun _ i _=>C.length-(intOf i).toNat)
 case atStart=>exact ⟨0,[],by omega,rfl,OwnN.nil _ _ _ _ _ _ _ _,Ex.refl _⟩
 case round =>
  obtain ⟨k,qs,hk,rfl,OQ,kw⟩:=hrel
  obtain ⟨wo,rfl⟩:∃ wo:World,wo=wr:=⟨_,rfl⟩
  by_cases hlt:k<C.length
  ·obtain ⟨x1,o1,a',n',c',cc,rfl,hx1,hcc,hcell,hsl⟩:=(C2.out.nx kw).at hlt
   have HCC:=lH hcc
   have hnl:=hsl.len
   have hcl:cc.length≤1000:=HSM.out.2 cc (List.mem_of_getElem? hcc)
   subst hnl
   have OQ:=lH OQ
   have HSL:=lH hsl
   have hzo:=kw.size
   have KW:=lH kw
   clear hcc hsl kw
   go_wp2_with fail
   clear hcell
   go_loopw [10,38] (fun o i wr=>IdqRel cc cc.length wo o i wr) (fun _ i _=>cc.length-(intOf i).toNat)
   case atStart=>exact ⟨0,by omega,rfl,OwnL.nil _ _ _ _ _,Ex.refl _⟩
   case round =>
    obtain ⟨j,hj,rfl,own,ki⟩:=hrel
    obtain ⟨wi,rfl⟩:∃ wi:World,wi=wr:=⟨_,rfl⟩
    by_cases hjm:j<cc.length
    ·obtain ⟨x3,o3,y,rfl,hx3,hy,hc3⟩:=(HSL.out.nx ki).at hjm
     obtain ⟨yi,yk,yw⟩:=y
     have e0:wi.cell? ⟨x3,o3+j*3,none⟩=some (.int .i64 yi):=hc3 0 _ rfl
     have e1:wi.cell? ⟨x3,o3+j*3+1,none⟩=some (.string yk):=hc3 1 _ rfl
     have e2:wi.cell? ⟨x3,o3+j*3+2,none⟩=some (.int .u32 yw):=hc3 2 _ rfl
     have e2':wi.cell? ⟨x3,o3+j*3+1+1,none⟩=some (.int .u32 yw):=e2
     have SN:=lH (idsN_snoc cc j _ hy)
     have hrl:(idsN (cc.take j)).length=j:=by unfold idsN;rw [List.length_map,List.length_take];omega
     clear hy hc3
     have k7:=Ex.new wi (.cells #[.int .i64 yi,.string yk,.int .u32 yw] 36)
     have B4:=Blk.new wi [.int .i64 yi,.string yk,.int .u32 yw] 36
     obtain ⟨w7,hw7⟩:∃ w7,w7=wi.alloc (.cells #[.int .i64 yi,.string yk,.int .u32 yw] 36):=⟨_,rfl⟩
     obtain ⟨g4,hg4⟩:∃ g4,g4=wi.heap.size:=⟨_,rfl⟩
     have B4:Blk w7 g4 [.int .i64 yi,.string yk,.int .u32 yw] 36:=by rw [hw7,hg4];exact B4
     rw [← hw7] at k7
     have HW7:=lH hw7
     have HG4:=lH hg4
     replace own:=own.nx k7
     replace ki:=ki.nx k7
     generalize idsN (cc.take j)=row at own SN hrl
     clear hw7 hg4 k7
     go_upto_region 12 with fail
     rw [← HG4.out,← HW7.out]
     clear e0 e1 e2 e2'
     have y0:=B4.cell 0 _ rfl
     have zb:=ki.size
     go_wp2_with (at_builtin;(refine wpList_append_lit (enc:=encI) w7 rfl _ _ 22 rfl wo.heap.size 3 (.int .i64 0) 1 8 Tryz.underlying22 Tryz.infoI6 rfl (by omega) (by omega) _ _ own rfl (yi:Int) _ rfl rfl (by simp [encI,Value.oneCell']) _ (by simp) rfl (by omega) zb _ ?_);intro v6 w6 own6 _ ch1 _)
     refine ⟨⟨j+1,by omega,by go_num,by rw [SN.out];exact own6,Chg.trans ki ch1⟩,by simp [intOf];omega⟩
    ·obtain rfl:j=cc.length:=by omega
     rw [List.take_length] at own
     have OQ1:=OQ.out.nx ki
     obtain ⟨a6,c6,rfl,_,_,_,_⟩:=own.rd (fun _=>rfl)
     have hkq:qs.length=k:=by rw [OQ1.2.1,List.length_map,List.length_map,List.length_take];omega
     have hzi:w2.heap.size≤wi.heap.size:=by have:=ki.size;omega
     have FR:∀ (j:Nat) (r:Unit×Hdr) (g:Nat),qs[j]?=some r→r.2.val.ownBlock=some g→¬ (Value.slice a6 (idsN cc).length c6).ownBlock=some g:=by
      intro j r g hr hg hv
      have h1:=OQ.out.lt hr hg
      have h2:=(own.lt g hv).1
      omega
     clear hjm hj
     have k8:=Ex.new wi (.cells #[.slice a6 (idsN cc).length c6] 22)
     have SX:Sl 1 (encP enc0) (wi.alloc (.cells #[.slice a6 (idsN cc).length c6] 22)) (some ⟨wi.heap.size,0,none⟩) 1 [(((),(a6,(idsN cc).length,c6)):Unit×Hdr)]:=Sl.lit _ rfl rfl (fun _=>rfl) rfl
     have OQ2:=OQ1.nx k8
     have own2:=own.nx k8
     have ki8:=ki.nx k8
     have hql:qs.length≤1000000:=by omega
     go_wp2_with (at_builtin;(refine wpList_append_W (enc:=encP enc0) _ rfl _ _ 192 rfl w2.heap.size 22 (.slice none 0 0) 1 24 Tryz.underlying192 Tryz.infoIL rfl (by omega) (by omega) _ _ OQ2.1 rfl _ 1 1 [_] SX (fun _=>rfl) (by simp [encP,enc0,Hdr.val,Value.oneCell']) rfl hql (by omega) (by simp;omega) ?_);intro v7 w7 own7 ch0 ch1 _)
     have OQ7:=OQ2.push (by decide) own7 ch0 (own2.base (by omega)) FR
     have kw7:Ex w2 w7:=Chg.trans (KW.out.nx ki8) ch1
     exact ⟨⟨k+1,qs++[(((),(a6,(idsN cc).length,c6)):Unit×Hdr)],by omega,by go_num,by show OwnN enc0 1 1 encI _ _ _ _ _ _ (((C.take (k+1)).map idsN).map pairU);rw [idsC_snoc C k cc HCC.out];exact OQ7,kw7⟩,by simp [intOf];omega⟩
  ·obtain rfl:k=C.length:=by omega
   rw [List.take_length] at OQ
   have OQ:=lH OQ
   clear hk hlt
   go_wp2_with fail
   go_ret
   rw [HYES.out]
   exact ⟨_,qs,rfl,OwnN.base OQ.out hsz,k1.out.nx kw⟩
abbrev FnL:=Int→Nat→Int×Int
def updL (F:FnL) (id:Int) (j:Nat) (v:Int):FnL:=fun x h=>if x=id∧h=j then (v,(F x h).2) else F x h
def updR (F:FnL) (id:Int) (j:Nat) (v:Int):FnL:=fun x h=>if x=id∧h=j then ((F x h).1,v) else F x h
def atI (ids:List Int) (q:Nat):Int:=ids[q]?.getD 0
def procI (ids:List Int) (j:Nat) (F:FnL):Nat→FnL
 | 0=>F
 | n+1=>updR (updL (procI ids j F n) (atI ids (n+1)) j (atI ids n)) (atI ids n) j (atI ids (n+1))
def procL (j:Nat) (M:List (List Int)) (F:FnL):FnL:=M.foldl (fun F ids=>procI ids j F (ids.length-1)) F
def procB (S:List Nd):Nat→FnL
 | 0=>fun _ _=>(0,0)
 | j+1=>procL j (listsN S (j:Nat)) (procB S j)
def rowsF (S:List Nd) (m:Nat) (F:FnL):List Lkd:=S.map fun x=>(x.id,(List.range m).map fun j=>F x.id j)
theorem procL_snoc (j:Nat) (M:List (List Int)) (F:FnL) (k:Nat) (c:List Int) (hc:M[k]?=some c):procL j (M.take (k+1)) F=procI c j (procL j (M.take k) F) (c.length-1):=by
 unfold procL
 rw [List.take_add_one,hc,List.foldl_append]
 rfl
theorem procI_other (ids:List Int) (j:Nat) (F:FnL) (n:Nat) (x:Int) (h:Nat) (hx:h≠j∨∀ q,q≤n→x≠atI ids q):procI ids j F n x h=F x h:=by
 induction n with
 | zero=>rfl
 | succ n ih =>
  have ih:=ih (hx.imp id (fun g q hq=>g q (by omega)))
  show updR (updL (procI ids j F n) (atI ids (n+1)) j (atI ids n)) (atI ids n) j (atI ids (n+1)) x h=_
  unfold updR updL
  rcases hx with hx | hx
  ·rw [if_neg (fun e=>hx e.2),if_neg (fun e=>hx e.2),ih]
  ·rw [if_neg (fun e=>hx n (by omega) e.1),if_neg (fun e=>hx (n+1) (by omega) e.1),ih]
theorem atI_inj {ids:List Int} (hn:ids.Nodup) {p q:Nat} (hp:p<ids.length) (hq:q<ids.length) (e:atI ids p=atI ids q):p=q:=by
 unfold atI at e
 rw [List.getElem?_eq_getElem hp,List.getElem?_eq_getElem hq] at e
 have hw:=List.pairwise_iff_getElem.1 hn
 rcases Nat.lt_trichotomy p q with h | h | h
 ·exact absurd e (hw p q hp hq h)
 ·exact h
 ·exact absurd e.symm (hw q p hq hp h)
theorem procI_at {ids:List Int} (hn:ids.Nodup) (j:Nat) (F:FnL) {p:Nat} (hp:p<ids.length) :
  ∀ n,n<ids.length→procI ids j F n (atI ids p) j=(if 1≤p∧p≤n then atI ids (p-1) else (F (atI ids p) j).1,if p<n then atI ids (p+1) else (F (atI ids p) j).2):=by
 intro n
 induction n with
 | zero=>intro _;rw [if_neg (by omega),if_neg (by omega)];rfl
 | succ n ih =>
  intro hl
  have ih:=ih (by omega)
  have e1:(atI ids p=atI ids (n+1))↔p=n+1:=⟨fun e=>atI_inj hn hp hl e,fun e=>by rw [e]⟩
  have e2:(atI ids p=atI ids n)↔p=n:=⟨fun e=>atI_inj hn hp (by omega) e,fun e=>by rw [e]⟩
  show updR (updL (procI ids j F n) (atI ids (n+1)) j (atI ids n)) (atI ids n) j (atI ids (n+1)) (atI ids p) j=_
  unfold updR updL
  simp only [e1,e2,and_true]
  by_cases h1:p=n+1
  ·rw [if_neg (by omega),if_pos h1,ih,if_pos (by omega:1≤p∧p≤n+1),if_neg (by omega:¬ p<n+1)]
   simp only
   rw [if_neg (by omega:¬ p<n),h1]
   rfl
  ·by_cases h2:p=n
   ·rw [if_pos h2,if_neg h1,ih]
    simp only
    rw [if_pos (by omega:p<n+1),h2]
    by_cases h3:1≤n
    ·rw [if_pos ⟨h3,Nat.le_refl _⟩,if_pos ⟨h3,by omega⟩]
    ·rw [if_neg (by omega),if_neg (by omega)]
   ·rw [if_neg h2,if_neg h1,ih]
    congr 1
    ·by_cases h3:1≤p∧p≤n
     ·rw [if_pos h3,if_pos (by omega)]
     ·rw [if_neg h3,if_neg (by omega)]
    ·by_cases h3:p<n
     ·rw [if_pos h3,if_pos (by omega)]
     ·rw [if_neg h3,if_neg (by omega)]
theorem procL_level (j:Nat) (M:List (List Int)) (F:FnL) (x:Int) (h:Nat) (hh:h≠j):procL j M F x h=F x h:=by
 unfold procL
 induction M generalizing F with
 | nil=>rfl
 | cons c M ih=>rw [List.foldl_cons,ih,procI_other _ _ _ _ _ _ (.inl hh)]
theorem atI_mem {ids:List Int} {q:Nat} (hq:q<ids.length):atI ids q∈ids:=by
 unfold atI;rw [List.getElem?_eq_getElem hq];exact List.getElem_mem hq
theorem procI_mem (ids:List Int) (j:Nat) (F:FnL) (x:Int) (h:Nat) (hx:x∉ids):procI ids j F (ids.length-1) x h=F x h:=by
 by_cases h0:ids=[]
 ·subst h0;rfl
 ·have:0<ids.length:=List.length_pos_iff.2 h0
  exact procI_other _ _ _ _ _ _ (.inr fun q hq e=>hx (e▸atI_mem (by omega)))
theorem procL_not (j:Nat) (M:List (List Int)) (F:FnL) (x:Int) (h:Nat) (hx:∀ c∈M,x∉c):procL j M F x h=F x h:=by
 unfold procL
 induction M generalizing F with
 | nil=>rfl
 | cons c M ih=>rw [List.foldl_cons,ih _ (fun d hd=>hx d (by simp [hd])),procI_mem _ _ _ _ _ (hx c (by simp))]
theorem procL_at (j:Nat):∀ (M:List (List Int)) (F:FnL),M.Pairwise (fun c d=>∀ x∈c,x∉d)→(∀ c∈M,c.Nodup)→∀ c∈M,∀ p,p<c.length→F (atI c p) j=(0,0) →
  procL j M F (atI c p) j=(if 1≤p then atI c (p-1) else 0,if p+1<c.length then atI c (p+1) else 0)
 | [],_,_,_,c,hc,_,_,_=>by cases hc
 | d::M,F,hM,hN,c,hc,p,hp,hF=>by
  rw [List.pairwise_cons] at hM
  show procL j M (procI d j F (d.length-1)) (atI c p) j=_
  by_cases hcd:c∈M
  ·rw [procL_at j M _ hM.2 (fun c hc=>hN c (by simp [hc])) c hcd p hp]
   rw [procI_mem _ _ _ _ _ (fun hx=>hM.1 c hcd _ hx (atI_mem hp))]
   exact hF
  ·obtain rfl:c=d:=by rcases List.mem_cons.1 hc with e | e;exact e;exact absurd e hcd
   rw [procL_not _ _ _ _ _ (fun d hd hx=>hM.1 d hd _ (atI_mem hp) hx),procI_at (hN c (by simp)) j F hp (c.length-1) (by omega),hF]
   congr 1
   ·by_cases h3:1≤p
    ·rw [if_pos h3,if_pos (by omega)]
    ·rw [if_neg h3,if_neg (by omega)]
   ·by_cases h3:p<c.length-1
    ·rw [if_pos h3,if_pos (by omega)]
    ·rw [if_neg h3,if_neg (by omega)]
end Go.Proofs.YthcholmhmcpooaaGreatDoor
