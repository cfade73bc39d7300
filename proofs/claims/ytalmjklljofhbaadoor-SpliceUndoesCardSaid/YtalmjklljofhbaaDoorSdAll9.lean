/- Shared texts. -/
import Derived.Test.YtalmjklljofhbaaDoorSdAll6
import Derived.Test.YtalmjklljofhbaaDoorSdAll8
set_option linter.unusedSimpArgs false
set_option linter.unusedVariables false

namespace Go.Proofs.YtalmjklljofhbaaDoor
open Go.RowKit
def NiRel (x:Nd) (G:List Nd) (g12:Nat) (w:World) (i:Value) (wr:World):Prop :=
 ∃ k:Nat,k≤G.length∧i=.int .i64 k∧Exb g12 w wr∧Blk wr g12 [.int .i64 (nbFold x (G.take k)).1,.int .i64 (nbFold x (G.take k)).2] 58
theorem ng_no {l:List Nd} {id h:Int} {w w':World} (hno:neighN l id h=((0,0),false)) (k:Ex w w'):NgPost (neighN l id h) w (.returned (.tuple #[.agg #[.int .i64 0,.int .i64 0],.bool false])) w':=by
 rw [hno];exact ⟨rfl,k⟩
theorem OwnL.sl3 {sz e base:Nat} {α:Type} {enc:α→List Value} {w:World} {v:Value} {l:List α} (h:OwnL sz enc e base w v l) (hsz:∀ y,(enc y).length=sz):∃ a cap,v=.slice a l.length cap∧Sl sz enc w a l.length l∧l.length≤cap∧cap≤maxLen:=by
 obtain ⟨a,cap,e,h1,h2,h3,_⟩:=h.rd hsz
 exact ⟨a,cap,e,h1.mono (fun _ hk=>hk.2),h2,h3⟩
set_option maxRecDepth 100000 in
set_option maxHeartbeats 2000000 in
theorem neigh_p (a:Option Addr) (n c:Nat) (l:List Nd) (id h:Int) (w:World) (hs:Sl 3 encN w a n l) (hn:n≤1000) (hc:n≤c) (hm:c≤maxLen) (hw:∀ x∈l,x.word<4294967296) (hT:TabG w) :
  Calls Tryd.prog 38 #[.slice a n c,.int .i64 id,.int .i64 h] w (NgPost (neighN l id h) w):=by
 have HW:=lH hw
 have HXW:=findN_word hw id
 have HL:=lH hs.len
 have k1:=Ex.new w (.cells #[.int .i64 0,.int .i64 0] 58)
 have B1:=Blk.new w [.int .i64 0,.int .i64 0] 58
 obtain ⟨w1,hw1⟩:∃ w1,w1=w.alloc (.cells #[.int .i64 0,.int .i64 0] 58):=⟨_,rfl⟩
 obtain ⟨g,hg⟩:∃ g,g=w.heap.size:=⟨_,rfl⟩
 have B1:Blk w1 g [.int .i64 0,.int .i64 0] 58:=by rw [hw1,hg];exact B1
 rw [← hw1] at k1
 have hgn:w.heap.size≤g:=by omega
 have HW1:=lH hw1
 have HG:=lH hg
 have S1:=hs.nx k1
 have HT:=lH (hT.nx k1)
 clear hs hw1 hg hw hT
 go_enter Tryd.func38,Tryd.ntmps38
 go_upto_region 1 with fail
 rw [← HG.out,← HW1.out]
 go_wp2_with fail
 (with_reducible refine (ordered_p _ _ _ _ _ S1 hn hc hm).mono ?_)
 rintro e w2 ⟨v,S,rfl,OS,⟨hp,hsrt⟩,k2⟩
 have SL:=lH hp.length_eq
 have HSR:=lH hsrt
 have SW:Hid (∀ x∈S,x.word<4294967296):=lH (fun x hx=>HW.out x (hp.mem_iff.1 hx))
 replace S1:=S1.nx k2
 replace B1:=B1.nx k2
 replace HT:=lH (HT.out.nx k2)
 replace k1:=k1.nx k2
 have OS:=lH OS
 clear hp hsrt k2
 go_wp2_with fail
 (with_reducible refine (find_p _ _ _ _ _ _ S1 (by omega)).mono ?_)
 rintro e w3 ⟨rfl,k3⟩
 obtain ⟨F,hF⟩:∃ F,F=findN l id:=⟨_,rfl⟩
 have HF:=lH hF
 rw [← hF] at HXW ⊢
 obtain ⟨⟨xi,xk,xw⟩,ok⟩:=F
 have k4:=Ex.new w3 (.cells #[.int .i64 xi,.string xk,.int .u32 xw] 38)
 have B2:=Blk.new w3 [.int .i64 xi,.string xk,.int .u32 xw] 38
 obtain ⟨w4,hw4⟩:∃ w4,w4=w3.alloc (.cells #[.int .i64 xi,.string xk,.int .u32 xw] 38):=⟨_,rfl⟩
 obtain ⟨g2,hg2⟩:∃ g2,g2=w3.heap.size:=⟨_,rfl⟩
 have B2:Blk w4 g2 [.int .i64 xi,.string xk,.int .u32 xw] 38:=by rw [hw4,hg2];exact B2
 rw [← hw4] at k4
 have HW4:=lH hw4
 have HG2:=lH hg2
 replace k3:=k3.nx k4
 replace OS:=lH (OS.out.nx k3)
 replace B1:=B1.nx k3
 replace HT:=lH (HT.out.nx k3)
 replace k1:=k1.nx k3
 clear hF hw4 hg2 k4 k3 S1
 simp only [Nd.val]
 go_upto_region 3 with fail
 rw [← HG2.out,← HW4.out]
 by_cases hck:checkN l=0
 case neg =>
  have HNO:Hid (neighN l id h=((0,0),false)):=lH (neighN_no (.inl hck))
  have d1:(checkN l==0)=false:=by simpa using hck
  rw [d1]
  have q0:=B1.cell 0 _ rfl
  have q1:=B1.cell 1 _ rfl
  have z0:=B1.free 0
  have z1:=B1.free 1
  clear hck d1 B2
  go_wp2_with fail
  refine bodyPost_ret (v:=.tuple #[.agg #[.int .i64 0,.int .i64 0],.bool false]) (by simp [results,Tryd.results38,go_sem, *]) rfl (ng_no HNO.out ?_)
  exact (k1.setNew (p:=⟨g,0,none⟩) _ hgn).setNew (p:=⟨g,1,none⟩) _ hgn
 have HCK:=lH hck
 have d1:(checkN l==0)=true:=by simpa using hck
 rw [d1]
 clear hck d1
 cases ok with
 | false =>
  have HNO:Hid (neighN l id h=((0,0),false)):=lH (neighN_no (.inr (.inl (by rw [← HF.out]))))
  have q0:=B1.cell 0 _ rfl
  have q1:=B1.cell 1 _ rfl
  have z0:=B1.free 0
  have z1:=B1.free 1
  clear B2
  go_wp2_with fail
  refine bodyPost_ret (v:=.tuple #[.agg #[.int .i64 0,.int .i64 0],.bool false]) (by simp [results,Tryd.results38,go_sem, *]) rfl (ng_no HNO.out ?_)
  exact (k1.setNew (p:=⟨g,0,none⟩) _ hgn).setNew (p:=⟨g,1,none⟩) _ hgn
 | true =>
  by_cases hlo:h<0
  ·have HNO:Hid (neighN l id h=((0,0),false)):=lH (neighN_no (.inr (.inr (by unfold lvlN;simp;omega))))
   have q0:=B1.cell 0 _ rfl
   have q1:=B1.cell 1 _ rfl
   have z0:=B1.free 0
   have z1:=B1.free 1
   clear B2
   go_wp2_with fail
   refine bodyPost_ret (v:=.tuple #[.agg #[.int .i64 0,.int .i64 0],.bool false]) (by simp [results,Tryd.results38,go_sem, *]) rfl (ng_no HNO.out ?_)
   exact (k1.setNew (p:=⟨g,0,none⟩) _ hgn).setNew (p:=⟨g,1,none⟩) _ hgn
  ·by_cases hhi:16<h
   ·have HNO:Hid (neighN l id h=((0,0),false)):=lH (neighN_no (.inr (.inr (by unfold lvlN;simp;omega))))
    have q0:=B1.cell 0 _ rfl
    have q1:=B1.cell 1 _ rfl
    have z0:=B1.free 0
    have z1:=B1.free 1
    clear B2
    go_wp2_with fail
    refine bodyPost_ret (v:=.tuple #[.agg #[.int .i64 0,.int .i64 0],.bool false]) (by simp [results,Tryd.results38,go_sem, *]) rfl (ng_no HNO.out ?_)
    exact (k1.setNew (p:=⟨g,0,none⟩) _ hgn).setNew (p:=⟨g,1,none⟩) _ hgn
   ·have HYES:Hid (neighN l id h=(nbFold ⟨xi,xk,xw⟩ (groupN S h xw),true)):=lH (by
     have:=nbFold_neigh (l:=l) (id:=id) (h:=h) HCK.out (by rw [← HF.out]) (by unfold lvlN;simp;omega)
     unfold thrG at this
     rw [← HF.out,← HSR.out HCK.out] at this
     exact this)
    have k5:=Ex.new w4 (.cells #[.int .i64 0,.int .i64 0] 58)
    have B3:=Blk.new w4 [.int .i64 0,.int .i64 0] 58
    obtain ⟨w5,hw5⟩:∃ w5,w5=w4.alloc (.cells #[.int .i64 0,.int .i64 0] 58):=⟨_,rfl⟩
    obtain ⟨g3,hg3⟩:∃ g3,g3=w4.heap.size:=⟨_,rfl⟩
    have B3:Blk w5 g3 [.int .i64 0,.int .i64 0] 58:=by rw [hw5,hg3];exact B3
    rw [← hw5] at k5
    have h13:g≠g3:=by have:=B1.lt;omega
    have h23:g2≠g3:=by have:=B2.lt;omega
    have hgn3:w.heap.size≤g3:=by have:=k1.size;omega
    have HW5:=lH hw5
    have HG3:=lH hg3
    replace OS:=OS.out.nx k5
    replace B1:=B1.nx k5
    replace B2:=B2.nx k5
    replace HT:=lH (HT.out.nx k5)
    replace k1:=k1.nx k5
    obtain ⟨aS,cS,rfl,sS,_,_⟩:=OS.sl3 (fun _=>rfl)
    have b22:=B2.cell 2 _ rfl
    have hnS:S.length≤1000:=by have:=HL.out;have:=SL.out;omega
    clear hw5 hg3 k5
    go_upto_region 6 with fail
    rw [← HG3.out,← HW5.out]
    clear OS
    have sS:Rd 3 encN (· < w5.heap.size) w5 aS S.length S:=sS
    go_wp2_with fail
    (with_reducible refine (group_p _ _ _ _ _ _ _ sS (fun _ hk=>hk) hnS SW.out HXW HT.out).mono ?_)
    rintro e w6 ⟨a6,n6,c6,rfl,r6,k6⟩
    have r6:Slf 3 encN w5 w6 a6 n6 _:=r6
    replace k6:Ex w5 w6:=k6
    have hgl:=groupN_length S h xw
    generalize groupN S h xw=G at r6 HYES hgl ⊢
    have RG:=lH (r6.slb B3.lt)
    have hng:=r6.len
    subst hng
    replace B1:=B1.nx k6
    replace B2:=lH (B2.nx k6)
    replace B3:=B3.nx k6
    replace k1:=k1.nx k6
    have B1:=lH B1
    clear r6 k6 sS b22
    have hG6:G.length≤1000:=by omega
    go_wp2_with fail
    go_loopw [47] (fun i wr=>NiRel ⟨xi,xk,xw⟩ G g3 w6 i wr) (fun i _=>G.length-(intOf i).toNat)
    case atStart=>exact ⟨0,by omega,rfl,Exb.refl _ _,B3⟩
    case round =>
     obtain ⟨k,hk,rfl,kw,B3⟩:=hrel
     obtain ⟨wo,rfl⟩:∃ wo:World,wo=wr:=⟨_,rfl⟩
     by_cases hlt:k<G.length
     ·obtain ⟨x1,o1,y,rfl,hx1,hy,hc1⟩:=((RG.out.nxb kw).sl).at hlt
      obtain ⟨yi,yk,yw⟩:=y
      have e0:wo.cell? ⟨x1,o1+k*3,none⟩=some (.int .i64 yi):=hc1 0 _ rfl
      have e1:wo.cell? ⟨x1,o1+k*3+1,none⟩=some (.string yk):=hc1 1 _ rfl
      have e2:wo.cell? ⟨x1,o1+k*3+2,none⟩=some (.int .u32 yw):=hc1 2 _ rfl
      have e2':wo.cell? ⟨x1,o1+k*3+1+1,none⟩=some (.int .u32 yw):=e2
      have FSn:Hid (nbFold ⟨xi,xk,xw⟩ (G.take (k+1))=nbStep ⟨xi,xk,xw⟩ (nbFold ⟨xi,xk,xw⟩ (G.take k)) ⟨yi,yk,yw⟩):=lH (nbFold_snoc _ _ _ _ hy)
      clear hy hc1
      obtain ⟨FF,hFF⟩:∃ FF,FF=nbFold ⟨xi,xk,xw⟩ (G.take k):=⟨_,rfl⟩
      rw [← hFF] at B3 FSn
      clear hFF
      obtain ⟨f1,f2⟩:=FF
      have k7:=Ex.new wo (.cells #[.int .i64 yi,.string yk,.int .u32 yw] 38)
      have B4:=Blk.new wo [.int .i64 yi,.string yk,.int .u32 yw] 38
      obtain ⟨w7,hw7⟩:∃ w7,w7=wo.alloc (.cells #[.int .i64 yi,.string yk,.int .u32 yw] 38):=⟨_,rfl⟩
      obtain ⟨g4,hg4⟩:∃ g4,g4=wo.heap.size:=⟨_,rfl⟩
      have B4:Blk w7 g4 [.int .i64 yi,.string yk,.int .u32 yw] 38:=by rw [hw7,hg4];exact B4
      rw [← hw7] at k7
      have h34:g3≠g4:=by have:=B3.lt;omega
      have HW7:=lH hw7
      have HG4:=lH hg4
      have B3:=B3.nx k7
      have kw:=kw.nxb (k7.b g3)
      have B2':=B2.out.nxb h23 kw
      clear hw7 hg4 k7
      go_upto_region 9 with fail
      rw [← HG4.out,← HW7.out]
      clear e0 e1 e2 e2'
      have p1:=B2'.cell 1 _ rfl
      have y0:=B4.cell 0 _ rfl
      have y1:=B4.cell 1 _ rfl
      have t0:=B3.cell 0 _ rfl
      have t1:=B3.cell 1 _ rfl
      have z0:=B3.free 0
      have z1:=B3.free 1
      cases hb:Op.bytesLess yk.toList xk.toList with
      | true =>
       have FSn':Hid (nbFold ⟨xi,xk,xw⟩ (G.take (k+1))=(yi,f2)):=lH (by rw [FSn.out];exact step_less hb)
       have B3':=B3.set 0 (.int .i64 yi)
       clear B2' B4 B3
       go_wp2_with fail
       refine ⟨⟨k+1,by omega,by go_num,kw.setB _ rfl,?_⟩,by simp [intOf];omega⟩
       rw [FSn'.out];exact B3'
      | false =>
       cases he:(yk.toList==xk.toList) with
       | true =>
        have FSn':Hid (nbFold ⟨xi,xk,xw⟩ (G.take (k+1))=(f1,f2)):=lH (by rw [FSn.out];unfold nbStep;simp [hb,he])
        have B3':=lH B3
        clear B2' B4 B3
        go_wp2_with fail
        refine ⟨⟨k+1,by omega,by go_num,kw,?_⟩,by simp [intOf];omega⟩
        rw [FSn'.out];exact B3'.out
       | false =>
        by_cases h0:f2=0
        ·have FSn':Hid (nbFold ⟨xi,xk,xw⟩ (G.take (k+1))=(f1,yi)):=lH (by rw [FSn.out];unfold nbStep;simp [hb,he,h0])
         have B3':=B3.set 1 (.int .i64 yi)
         subst h0
         clear B2' B4 B3
         go_wp2_with fail
         refine ⟨⟨k+1,by omega,by go_num,kw.setB _ rfl,?_⟩,by simp [intOf];omega⟩
         rw [FSn'.out];exact B3'
        ·have FSn':Hid (nbFold ⟨xi,xk,xw⟩ (G.take (k+1))=(f1,f2)):=lH (by rw [FSn.out];unfold nbStep;simp [hb,he,h0])
         have d0:(f2==0)=false:=by simpa using h0
         have B3':=lH B3
         clear B2' B4 B3
         go_wp2_with fail
         refine ⟨⟨k+1,by omega,by go_num,kw,?_⟩,by simp [intOf];omega⟩
         rw [FSn'.out];exact B3'.out
     ·obtain rfl:k=G.length:=by omega
      rw [List.take_length] at B3
      have B1':=B1.out.nxb h13 kw
      have kw':=k1.nx (Ex.refl _)
      have KK:Ex w wo:=(Chg.trans k1 (Chg.mono kw (fun q (hq:q<w.heap.size)=>⟨Nat.lt_of_lt_of_le hq k1.size,by omega⟩)))
      obtain ⟨FF,hFF⟩:∃ FF,FF=nbFold ⟨xi,xk,xw⟩ G:=⟨_,rfl⟩
      rw [← hFF] at B3
      have HYES':Hid (neighN l id h=(FF,true)):=lH (by rw [HYES.out,hFF])
      clear hFF HYES
      obtain ⟨f1,f2⟩:=FF
      have t0:=B3.cell 0 _ rfl
      have t1:=B3.cell 1 _ rfl
      have q0:=B1'.cell 0 _ rfl
      have q1:=B1'.cell 1 _ rfl
      have z0:=B1'.free 0
      have z1:=B1'.free 1
      clear B1' B3 hk hlt kw'
      have h13':¬ g=g3:=h13
      go_wp2_with fail
      refine bodyPost_ret (v:=.tuple #[.agg #[.int .i64 f1,.int .i64 f2],.bool true]) (by simp [results,Tryd.results38,go_sem, *]) rfl ⟨by rw [HYES'.out],?_⟩
      exact (KK.setNew (p:=⟨g,0,none⟩) _ hgn).setNew (p:=⟨g,1,none⟩) _ hgn
end Go.Proofs.YtalmjklljofhbaaDoor
