/- Texts for TopRepairProof. -/
import Derived.Test.YthcholmhmcpooaaGreatDoorTopRepairProofL25
set_option linter.unusedSimpArgs false
set_option linter.unusedVariables false

namespace Go.Proofs.YthcholmhmcpooaaGreatDoor
open Go.RowKit
def KpPost (N:List Nd) (p:Pr) (w:World) (e:Ending) (w':World):Prop:=e=.returned (.agg #[.int .i64 (keepN N p).1,.int .i64 (keepN N p).2])∧Ex w w'
theorem idx_here {l:List Int} {id:Int} {k:Nat} (h:l.findIdx (fun x=>id==x)=k) (hk:k<l.length):l[k]?=some id:=by
 subst h
 have:=List.findIdx_getElem (w:=hk)
 rw [List.getElem?_eq_getElem hk]
 simp only [beq_iff_eq] at this
 rw [← this]
theorem idx_gone {l:List Int} {id:Int} (h:l.findIdx (fun x=>id==x)=l.length):id∉l:=by
 intro hm
 have:l.findIdx (fun x=>id==x)<l.length:=List.findIdx_lt_length.2 ⟨id,hm,by simp⟩
 omega
set_option maxRecDepth 100000 in
set_option maxHeartbeats 4000000 in
theorem keep_p (a:Option Addr) (n c:Nat) (N:List Nd) (p:Pr) (a1:Option Addr) (n1 c1:Nat) (a2:Option Addr) (n2 c2:Nat) (w:World) (h:Sl 3 encN w a n N) (hn:n≤1000) (hc:n≤c) (hm:c≤maxLen) (h1:Sl 1 encI w a1 n1 p.known) (h2:Sl 4 encNr w a2 n2 p.near) (hn1:n1≤4000000000000000000) (hn2:n2≤4000000000000000000) :
  Calls Tryz.prog 152 #[.slice a n c,.agg #[.int .i64 p.id,.slice a1 n1 c1,.int .i64 p.left,.int .i64 p.right,.slice a2 n2 c2]] w (KpPost N p w):=by
 have EX:=Ex.refl w
 have HL:=lH h.len
 obtain ⟨g3,hg3⟩:∃ g3,g3=w.heap.size:=⟨_,rfl⟩
 obtain ⟨g4,hg4⟩:∃ g4,g4=(w.heap.size+1):=⟨_,rfl⟩
 obtain ⟨w1,hw1⟩:∃ w1,w1=((w.alloc (.cells #[.int .i64 p.id,.slice a1 n1 c1,.int .i64 p.left,.int .i64 p.right,.slice a2 n2 c2] 150)).alloc (.cells #[.int .i64 0,.int .i64 0] 128)):=⟨_,rfl⟩
 have kk:Ex w w1:=by rw [hw1];exact (((Ex.refl w).alloc (.cells #[.int .i64 p.id,.slice a1 n1 c1,.int .i64 p.left,.int .i64 p.right,.slice a2 n2 c2] 150)).alloc (.cells #[.int .i64 0,.int .i64 0] 128))
 have B3:Blk w1 g3 [.int .i64 p.id,.slice a1 n1 c1,.int .i64 p.left,.int .i64 p.right,.slice a2 n2 c2] 150:=by rw [hw1];simp only [hg3,hg4];have hbk:=((Blk.new w [.int .i64 p.id,.slice a1 n1 c1,.int .i64 p.left,.int .i64 p.right,.slice a2 n2 c2] 150).nx (Ex.new _ (.cells #[.int .i64 0,.int .i64 0] 128)));simpa using hbk
 have B4:Blk w1 g4 [.int .i64 0,.int .i64 0] 128:=by rw [hw1];simp only [hg3,hg4];have hbk:=(Blk.new (w.alloc (.cells #[.int .i64 p.id,.slice a1 n1 c1,.int .i64 p.left,.int .i64 p.right,.slice a2 n2 c2] 150)) [.int .i64 0,.int .i64 0] 128);simpa using hbk
 have Hw1:=lH hw1
 have Hg3:=lH hg3
 have Hg4:=lH hg4
 replace h:=h.nx kk
 replace h1:=h1.nx kk
 replace h2:=h2.nx kk
 replace EX:=EX.nx kk
 have zg4:w.heap.size≤g4:=by omega
 clear kk hw1 hg3 hg4
 go_enter Tryz.func152,Tryz.ntmps152
 go_upto_region 1 with fail
 rw [← Hw1.out,← Hg4.out,← Hg3.out]
 clear Hw1 Hg4 Hg3
 have q0:=B3.cell 0 _ rfl
 have q1:=B3.cell 1 _ rfl
 have q2:=B3.cell 2 _ rfl
 have q3:=B3.cell 3 _ rfl
 have q4:=B3.cell 4 _ rfl
 have z1:=EX.size
 go_wp2_with fail
 (with_reducible refine (row_p _ _ _ N p _ _ _ _ _ _ _ h hn hc hm h1 h2 hn1 hn2).mono ?_)
 rintro e w2 ⟨v,rfl,own,kk⟩
 replace EX:=EX.nx kk
 replace B3:=B3.nx kk
 replace B4:=B4.nx kk
 clear kk
 clear q0 q1 q2 q3 q4 h h1 h2
 have hrl:(arN N p).length≤1000:=by
  have h1:=HL.out
  have h2:=ar_len (N:=N) p
  omega
 obtain ⟨aR,cR,rfl,R1,_,_,_⟩:=own.slf (fun _=>rfl)
 have S:=R1.sl
 have KN:Hid (∀ r,besN p.id (arN N p)=r→keepN N p=r):=lH (fun r hr=>hr)
 have ND:=lH (ar_nodup' (N:=N) p)
 generalize arN N p=R at own R1 S KN ND hrl ⊢
 clear own R1
 have q0:=B3.cell 0 _ rfl
 go_wp2_with fail
 (with_reducible refine (index_e _ _ _ R p.id _ S (by omega)).mono ?_)
 rintro e w3 ⟨rfl,kk⟩
 replace S:=S.nx kk
 replace EX:=EX.nx kk
 replace B4:=B4.nx kk
 clear kk
 clear q0 B3
 have zw3:=EX.size
 have hl4:=B4.lt
 have B7:=Blk.new w3 [.int .i64 0,.int .i64 0] 128
 have kk:=Ex.new w3 (.cells #[.int .i64 0,.int .i64 0] 128)
 obtain ⟨w4,hw4⟩:∃ w4,w4=w3.alloc (.cells #[.int .i64 0,.int .i64 0] 128):=⟨_,rfl⟩
 obtain ⟨g7,hg7⟩:∃ g7,g7=w3.heap.size:=⟨_,rfl⟩
 replace B7:Blk w4 g7 [.int .i64 0,.int .i64 0] 128:=by rw [hw4,hg7];exact B7
 rw [← hw4] at kk
 have Hw4:=lH hw4
 have Hg7:=lH hg7
 replace EX:=EX.nx kk
 replace B4:=B4.nx kk
 have zg7:w.heap.size≤g7:=by omega
 have hg47:¬ g4=g7:=by omega
 have KK:=lH kk
 have HG7:=lH hg7
 clear kk hw4 hg7
 have hR:¬ (-1:Int)>0:=by omega
 rcases idxZ_cases (fun x=>p.id==x) R with ⟨k,hq,hi,hk⟩ | ⟨hq,hi⟩
 ·rw [hq]
  have hk0:(0:Int)≤(k:Int):=by omega
  have HH:=lH (bes_nodup ND.out (idx_here hi hk))
  clear hq hi hR
  by_cases hz:k=0
  ·subst hz
   by_cases h1:0+1<R.length
   ·obtain ⟨xr,xo,yr,rfl,hxr0,hyr,hcr⟩:=S.at h1
    have cr0:w3.cell? ⟨xr,xo+(0+1),none⟩=some (.int .i64 yr):=by simpa using hcr 0 _ rfl
    have cr:=Chg.cellv KK.out cr0 hxr0
    have HYR:=lH hyr
    have hxr:xr≠g7:=by have:=HG7.out;omega
    clear hcr hyr cr0 hxr0
    have KE:Hid (keepN N p=(0,yr)):=lH (KN.out _ (by rw [HH.out,HYR.out];rfl))
    have B4h:=lH B4
    have B7h:=lH B7
    have EXh:=lH EX
    clear B4 B7 EX KN ND
    go_upto_region 4 with fail
    rw [← Hg7.out,← Hw4.out]
    clear Hg7 Hw4
    obtain ⟨w5,hw5⟩:∃ w5,w5=w4:=⟨_,rfl⟩
    have cR5:=lH (fun (x:Addr) (v:Value) (_:x.block≠g7) (hv:w4.cell? x=some v)=>show w5.cell? x=some v by rw [hw5];exact hv)
    rw [← hw5] at B4h B7h EXh ⊢
    have B7i:=B7h.out
    have B4i:=B4h.out
    have EXi:=EXh.out
    clear hw5 B7h B4h EXh
    go_upto_region 6 with fail
    have B4i:=lH B4i
    have B7i:=lH B7i
    have EXi:=lH EXi
    have cq:=cR5.out _ _ hxr cr
    have f7:=B7i.out.free 1
    have r7:=B7i.out.cell 1 _ rfl
    go_upto_region 8 with fail
    obtain ⟨w6,hw6⟩:∃ w6,w6=w5.setCell ⟨g7,1,none⟩ (.int .i64 yr):=⟨_,rfl⟩
    rw [← hw6]
    have B7j:Blk w6 g7 [.int .i64 0,.int .i64 yr] 128:=by rw [hw6];exact B7i.out.set 1 _
    have B4j:Blk w6 g4 [.int .i64 0,.int .i64 0] 128:=by rw [hw6];exact B4i.out.set_ne _ hg47
    have EXj:Ex w w6:=by rw [hw6];exact EXi.out.setNew (p:=⟨g7,1,none⟩) _ zg7
    clear hw6 f7 r7 cq cR5 B7i B4i EXi
    have p0:=B7j.cell 0 _ rfl
    have p1:=B7j.cell 1 _ rfl
    have q0:=B4j.cell 0 _ rfl
    have q1:=B4j.cell 1 _ rfl
    have f0:=B4j.free 0
    have f1:=B4j.free 1
    have KF:=lH ((EXj.setNew (p:=⟨g4,0,none⟩) (.int .i64 0) zg4).setNew (p:=⟨g4,1,none⟩) (.int .i64 yr) zg4)
    clear B7j B4j EXj
    go_wp2_with fail
    refine bodyPost_ret (v:=.agg #[.int .i64 0,.int .i64 yr]) (by simp [results,Tryz.results152,go_sem, *]) rfl ⟨by rw [KE.out],KF.out⟩
   ·have hR0:R[0+1]?=none:=List.getElem?_eq_none (by omega)
    have HR0:=lH hR0
    clear hR0
    have KE:Hid (keepN N p=(0,0)):=lH (KN.out _ (by rw [HH.out,HR0.out];rfl))
    have B4h:=lH B4
    have B7h:=lH B7
    have EXh:=lH EX
    clear B4 B7 EX KN ND
    go_upto_region 4 with fail
    rw [← Hg7.out,← Hw4.out]
    clear Hg7 Hw4
    obtain ⟨w5,hw5⟩:∃ w5,w5=w4:=⟨_,rfl⟩
    have cR5:=lH (fun (x:Addr) (v:Value) (_:x.block≠g7) (hv:w4.cell? x=some v)=>show w5.cell? x=some v by rw [hw5];exact hv)
    rw [← hw5] at B4h B7h EXh ⊢
    have B7i:=B7h.out
    have B4i:=B4h.out
    have EXi:=EXh.out
    clear hw5 B7h B4h EXh
    go_upto_region 6 with fail
    have B4i:=lH B4i
    have B7i:=lH B7i
    have EXi:=lH EXi
    go_upto_region 8 with fail
    obtain ⟨w6,hw6⟩:∃ w6,w6=w5:=⟨_,rfl⟩
    rw [← hw6] at B4i B7i EXi ⊢
    have B7j:=B7i.out
    have B4j:=B4i.out
    have EXj:=EXi.out
    clear hw6 cR5 B7i B4i EXi
    have p0:=B7j.cell 0 _ rfl
    have p1:=B7j.cell 1 _ rfl
    have q0:=B4j.cell 0 _ rfl
    have q1:=B4j.cell 1 _ rfl
    have f0:=B4j.free 0
    have f1:=B4j.free 1
    have KF:=lH ((EXj.setNew (p:=⟨g4,0,none⟩) (.int .i64 0) zg4).setNew (p:=⟨g4,1,none⟩) (.int .i64 0) zg4)
    clear B7j B4j EXj
    go_wp2_with fail
    refine bodyPost_ret (v:=.agg #[.int .i64 0,.int .i64 0]) (by simp [results,Tryz.results152,go_sem, *]) rfl ⟨by rw [KE.out],KF.out⟩
  ·obtain ⟨xl,xo,yl,rfl,hxl0,hyl,hcl⟩:=S.at (show k-1<R.length by omega)
   have cl0:w3.cell? ⟨xl,xo+(k-1),none⟩=some (.int .i64 yl):=by simpa using hcl 0 _ rfl
   have cl:=Chg.cellv KK.out cl0 hxl0
   have HYL:=lH hyl
   have hkp:(0:Int)<(k:Int):=by omega
   clear hcl hyl cl0
   by_cases h1:k+1<R.length
   ·obtain ⟨xr,xo',yr,hee,hxr0,hyr,hcr⟩:=S.at h1
    cases hee
    have cr0:w3.cell? ⟨xl,xo+(k+1),none⟩=some (.int .i64 yr):=by simpa using hcr 0 _ rfl
    have cr:=Chg.cellv KK.out cr0 hxr0
    have HYR:=lH hyr
    have hxr:xl≠g7:=by have:=HG7.out;omega
    clear hcr hyr cr0 hxr0
    have KE:Hid (keepN N p=(yl,yr)):=lH (KN.out _ (by rw [HH.out,HYR.out,HYL.out,if_neg hz];rfl))
    have B4h:=lH B4
    have B7h:=lH B7
    have EXh:=lH EX
    clear B4 B7 EX KN ND
    go_upto_region 4 with fail
    rw [← Hg7.out,← Hw4.out]
    clear Hg7 Hw4
    have f7:=B7h.out.free 0
    have r7:=B7h.out.cell 0 _ rfl
    go_upto_region 6 with fail
    obtain ⟨w5,hw5⟩:∃ w5,w5=w4.setCell ⟨g7,0,none⟩ (.int .i64 yl):=⟨_,rfl⟩
    rw [← hw5]
    have B7i:Blk w5 g7 [.int .i64 yl,.int .i64 0] 128:=by rw [hw5];exact B7h.out.set 0 _
    have B4i:Blk w5 g4 [.int .i64 0,.int .i64 0] 128:=by rw [hw5];exact B4h.out.set_ne _ hg47
    have EXi:Ex w w5:=by rw [hw5];exact EXh.out.setNew (p:=⟨g7,0,none⟩) _ zg7
    have cR5:=lH (fun (x:Addr) (v:Value) (hx:x.block≠g7) (hv:w4.cell? x=some v)=>show w5.cell? x=some v by rw [hw5];exact (World.cell?_of_block (heap_set_ne rfl hx)).trans hv)
    clear hw5 f7 r7 B7h B4h EXh
    have B4i:=lH B4i
    have B7i:=lH B7i
    have EXi:=lH EXi
    have cq:=cR5.out _ _ hxr cr
    have f7:=B7i.out.free 1
    have r7:=B7i.out.cell 1 _ rfl
    go_upto_region 8 with fail
    obtain ⟨w6,hw6⟩:∃ w6,w6=w5.setCell ⟨g7,1,none⟩ (.int .i64 yr):=⟨_,rfl⟩
    rw [← hw6]
    have B7j:Blk w6 g7 [.int .i64 yl,.int .i64 yr] 128:=by rw [hw6];exact B7i.out.set 1 _
    have B4j:Blk w6 g4 [.int .i64 0,.int .i64 0] 128:=by rw [hw6];exact B4i.out.set_ne _ hg47
    have EXj:Ex w w6:=by rw [hw6];exact EXi.out.setNew (p:=⟨g7,1,none⟩) _ zg7
    clear hw6 f7 r7 cq cR5 B7i B4i EXi
    have p0:=B7j.cell 0 _ rfl
    have p1:=B7j.cell 1 _ rfl
    have q0:=B4j.cell 0 _ rfl
    have q1:=B4j.cell 1 _ rfl
    have f0:=B4j.free 0
    have f1:=B4j.free 1
    have KF:=lH ((EXj.setNew (p:=⟨g4,0,none⟩) (.int .i64 yl) zg4).setNew (p:=⟨g4,1,none⟩) (.int .i64 yr) zg4)
    clear B7j B4j EXj
    go_wp2_with fail
    refine bodyPost_ret (v:=.agg #[.int .i64 yl,.int .i64 yr]) (by simp [results,Tryz.results152,go_sem, *]) rfl ⟨by rw [KE.out],KF.out⟩
   ·have hR0:R[k+1]?=none:=List.getElem?_eq_none (by omega)
    have HR0:=lH hR0
    clear hR0
    have KE:Hid (keepN N p=(yl,0)):=lH (KN.out _ (by rw [HH.out,HR0.out,HYL.out,if_neg hz];rfl))
    have B4h:=lH B4
    have B7h:=lH B7
    have EXh:=lH EX
    clear B4 B7 EX KN ND
    go_upto_region 4 with fail
    rw [← Hg7.out,← Hw4.out]
    clear Hg7 Hw4
    have f7:=B7h.out.free 0
    have r7:=B7h.out.cell 0 _ rfl
    go_upto_region 6 with fail
    obtain ⟨w5,hw5⟩:∃ w5,w5=w4.setCell ⟨g7,0,none⟩ (.int .i64 yl):=⟨_,rfl⟩
    rw [← hw5]
    have B7i:Blk w5 g7 [.int .i64 yl,.int .i64 0] 128:=by rw [hw5];exact B7h.out.set 0 _
    have B4i:Blk w5 g4 [.int .i64 0,.int .i64 0] 128:=by rw [hw5];exact B4h.out.set_ne _ hg47
    have EXi:Ex w w5:=by rw [hw5];exact EXh.out.setNew (p:=⟨g7,0,none⟩) _ zg7
    have cR5:=lH (fun (x:Addr) (v:Value) (hx:x.block≠g7) (hv:w4.cell? x=some v)=>show w5.cell? x=some v by rw [hw5];exact (World.cell?_of_block (heap_set_ne rfl hx)).trans hv)
    clear hw5 f7 r7 B7h B4h EXh
    have B4i:=lH B4i
    have B7i:=lH B7i
    have EXi:=lH EXi
    go_upto_region 8 with fail
    obtain ⟨w6,hw6⟩:∃ w6,w6=w5:=⟨_,rfl⟩
    rw [← hw6] at B4i B7i EXi ⊢
    have B7j:=B7i.out
    have B4j:=B4i.out
    have EXj:=EXi.out
    clear hw6 cR5 B7i B4i EXi
    have p0:=B7j.cell 0 _ rfl
    have p1:=B7j.cell 1 _ rfl
    have q0:=B4j.cell 0 _ rfl
    have q1:=B4j.cell 1 _ rfl
    have f0:=B4j.free 0
    have f1:=B4j.free 1
    have KF:=lH ((EXj.setNew (p:=⟨g4,0,none⟩) (.int .i64 yl) zg4).setNew (p:=⟨g4,1,none⟩) (.int .i64 0) zg4)
    clear B7j B4j EXj
    go_wp2_with fail
    refine bodyPost_ret (v:=.agg #[.int .i64 yl,.int .i64 0]) (by simp [results,Tryz.results152,go_sem, *]) rfl ⟨by rw [KE.out],KF.out⟩
 ·rw [hq]
  have HH:=lH (bes_none (idx_gone hi))
  clear hq hi
  have KE:Hid (keepN N p=(0,0)):=lH (KN.out _ (by rw [HH.out]))
  have B4h:=lH B4
  have B7h:=lH B7
  have EXh:=lH EX
  clear B4 B7 EX KN ND
  go_upto_region 4 with fail
  rw [← Hg7.out,← Hw4.out]
  clear Hg7 Hw4
  obtain ⟨w5,hw5⟩:∃ w5,w5=w4:=⟨_,rfl⟩
  have cR5:=lH (fun (x:Addr) (v:Value) (_:x.block≠g7) (hv:w4.cell? x=some v)=>show w5.cell? x=some v by rw [hw5];exact hv)
  rw [← hw5] at B4h B7h EXh ⊢
  have B7i:=B7h.out
  have B4i:=B4h.out
  have EXi:=EXh.out
  clear hw5 B7h B4h EXh
  go_upto_region 6 with fail
  have B4i:=lH B4i
  have B7i:=lH B7i
  have EXi:=lH EXi
  go_upto_region 8 with fail
  obtain ⟨w6,hw6⟩:∃ w6,w6=w5:=⟨_,rfl⟩
  rw [← hw6] at B4i B7i EXi ⊢
  have B7j:=B7i.out
  have B4j:=B4i.out
  have EXj:=EXi.out
  clear hw6 cR5 B7i B4i EXi
  have p0:=B7j.cell 0 _ rfl
  have p1:=B7j.cell 1 _ rfl
  have q0:=B4j.cell 0 _ rfl
  have q1:=B4j.cell 1 _ rfl
  have f0:=B4j.free 0
  have f1:=B4j.free 1
  have KF:=lH ((EXj.setNew (p:=⟨g4,0,none⟩) (.int .i64 0) zg4).setNew (p:=⟨g4,1,none⟩) (.int .i64 0) zg4)
  clear B7j B4j EXj
  go_wp2_with fail
  refine bodyPost_ret (v:=.agg #[.int .i64 0,.int .i64 0]) (by simp [results,Tryz.results152,go_sem, *]) rfl ⟨by rw [KE.out],KF.out⟩
theorem Tryz.infoIn:(Tryz.prog.info? 242).map (fun i=>(i.zero,i.size,i.bytes))=some (some (.agg #[.int .i64 0,.int .i64 0]),2,16):=by kernel_rfl
def InPost (M:List (Int×Int)) (w:World) (e:Ending) (w':World):Prop:=∃ v,e=.returned v∧OwnW 2 encS 242 w.heap.size w' v M∧Ex w w'
def IoRel (L:List Int) (id:Int) (w:World) (o i:Value) (wr:World):Prop :=
 ∃ k:Nat,1≤k∧k≤L.length+1∧i=.int .i64 k∧OwnW 2 encS 242 w.heap.size wr o (((L.zip L.tail).take (k-1)).flatMap (pr2 id))∧Ex w wr
def prT (a b:Int):List (Int×Int):=[(a,b),(b,a)]
def notTo (id:Int) (q:Int×Int):Bool:=!(q.1==id)
theorem prT_all (id a b:Int):(prT a b).filter (notTo id)=pr2 id (a,b):=by
 unfold prT pr2 notTo
 by_cases h1:a=id<;>by_cases h2:b=id<;>simp [List.filter_cons,h1,h2]
theorem prT_snoc {id a b:Int} {q:Nat} {y:Int×Int} (hy:(prT a b)[q]?=some y):((prT a b).take (q+1)).filter (notTo id)=((prT a b).take q).filter (notTo id)++(if notTo id y=true then [y] else []):=by
 rw [List.take_add_one,hy,List.filter_append]
 congr 1
 simp only [Option.toList_some,List.filter_cons,List.filter_nil]
def IiRel (O:List (Int×Int)) (id a b:Int) (base lo:Nat) (w:World) (o i:Value) (wr:World):Prop :=
 ∃ q:Nat,q≤2∧i=.int .i64 q∧OwnW 2 encS 242 base wr o (O++((prT a b).take q).filter (notTo id))∧Acc base lo w.heap.size w wr o
theorem litIn {wb wq:World} (h:Ex wb wq) (a b:Int):∃ g wn,g=wq.heap.size∧wn=wq.alloc (.cells #[.int .i64 a,.int .i64 b,.int .i64 b,.int .i64 a] 242)∧Slf 2 encS wb wn (some ⟨g,0,none⟩) 2 (prT a b)∧Ex wb wn :=
 ⟨_,_,rfl,rfl,Slf.lit (prT a b) rfl h.size rfl (fun _=>rfl) rfl,h.alloc _⟩
set_option maxRecDepth 100000 in
set_option maxHeartbeats 8000000 in
theorem intros_p (a:Option Addr) (n c:Nat) (N:List Nd) (p:Pr) (a1:Option Addr) (n1 c1:Nat) (a2:Option Addr) (n2 c2:Nat) (w:World) (h:Sl 3 encN w a n N) (hn:n≤1000) (hc:n≤c) (hm:c≤maxLen) (h1:Sl 1 encI w a1 n1 p.known) (h2:Sl 4 encNr w a2 n2 p.near) (hn1:n1≤4000000000000000000) (hn2:n2≤4000000000000000000) :
  Calls Tryz.prog 153 #[.slice a n c,.agg #[.int .i64 p.id,.slice a1 n1 c1,.int .i64 p.left,.int .i64 p.right,.slice a2 n2 c2]] w (InPost (introsN N p) w):=by
 have EX:=Ex.refl w
 have HL:=lH h.len
 have B3:=Blk.new w [.int .i64 p.id,.slice a1 n1 c1,.int .i64 p.left,.int .i64 p.right,.slice a2 n2 c2] 150
 have kk:=Ex.new w (.cells #[.int .i64 p.id,.slice a1 n1 c1,.int .i64 p.left,.int .i64 p.right,.slice a2 n2 c2] 150)
 obtain ⟨w1,hw1⟩:∃ w1,w1=w.alloc (.cells #[.int .i64 p.id,.slice a1 n1 c1,.int .i64 p.left,.int .i64 p.right,.slice a2 n2 c2] 150):=⟨_,rfl⟩
 obtain ⟨g3,hg3⟩:∃ g3,g3=w.heap.size:=⟨_,rfl⟩
 replace B3:Blk w1 g3 [.int .i64 p.id,.slice a1 n1 c1,.int .i64 p.left,.int .i64 p.right,.slice a2 n2 c2] 150:=by rw [hw1,hg3];exact B3
 rw [← hw1] at kk
 have Hw1:=lH hw1
 have Hg3:=lH hg3
 replace h:=h.nx kk
 replace h1:=h1.nx kk
 replace h2:=h2.nx kk
 replace EX:=EX.nx kk
 clear kk hw1 hg3
 go_enter Tryz.func153,Tryz.ntmps153
 go_upto_region 1 with fail
 rw [← Hg3.out,← Hw1.out]
 clear Hg3 Hw1
 have q0:=B3.cell 0 _ rfl
 have q1:=B3.cell 1 _ rfl
 have q2:=B3.cell 2 _ rfl
 have q3:=B3.cell 3 _ rfl
 have q4:=B3.cell 4 _ rfl
 go_wp2_with fail
 (with_reducible refine (row_p _ _ _ N p _ _ _ _ _ _ _ h hn hc hm h1 h2 hn1 hn2).mono ?_)
 rintro e w2 ⟨v,rfl,own,kk⟩
 replace EX:=EX.nx kk
 replace B3:=B3.nx kk
 clear kk
 clear q0 q1 q2 q3 q4 h h1 h2
 have hrl:(arN N p).length≤1000:=by
  have h1:=HL.out
  have h2:=ar_len (N:=N) p
  omega
 obtain ⟨aR,cR,rfl,R1,_,_,_⟩:=own.slf (fun _=>rfl)
 have S:=lH R1.sl
 have IN:Hid (∀ M,prsN p.id (arN N p)=M→introsN N p=M):=lH (fun r hr=>hr)
 generalize arN N p=R at own R1 S IN hrl ⊢
 have B3:=lH B3
 have EX2:=lH EX
 have z2:=EX.size
 clear own R1 EX
 go_wp2_with fail
 go_loopw [5,7] (fun o i wr=>IoRel R p.id w2 o i wr) (fun _ i _=>R.length+1-(intOf i).toNat)
 case atStart=>exact ⟨1,by omega,by omega,rfl,OwnW.nil _ _ _ _ _,Ex.refl _⟩
 case round =>
  obtain ⟨k,hk1,hk,rfl,own,ki⟩:=hrel
  obtain ⟨wi,rfl⟩:∃ wi:World,wi=wr:=⟨_,rfl⟩
  have hol:(((R.zip R.tail).take (k-1)).flatMap (pr2 p.id)).length≤2000:=by
   have h1:=prs_take_len p.id ((R.zip R.tail).take (k-1))
   rw [List.length_take,List.length_zip,List.length_tail] at h1
   omega
  by_cases hkm:k<R.length
  ·obtain ⟨xl,xo,yl,rfl,hxl,hyl,hcl⟩:=(S.out.nx ki).at (show k-1<R.length by omega)
   obtain ⟨xl',xo',yr,hee,hxr,hyr,hcr⟩:=(S.out.nx ki).at hkm
   cases hee
   have CL:Hid (∀ wq,Ex wi wq→wq.cell? ⟨xl,xo+(k-1),none⟩=some (.int .i64 yl)):=lH (fun wq kq=>Chg.cellv kq (by simpa using hcl 0 _ rfl) hxl)
   have CR:Hid (∀ wq,Ex wi wq→wq.cell? ⟨xl,xo+k,none⟩=some (.int .i64 yr)):=lH (fun wq kq=>Chg.cellv kq (by simpa using hcr 0 _ rfl) hxl)
   have SN:=lH (prs_snoc (id:=p.id) hyl (by rw [show k-1+1=k by omega];exact hyr))
   generalize ((R.zip R.tail).take (k-1)).flatMap (pr2 p.id)=O at own SN hol
   have OWN:=lH own
   have KI:=lH ki
   have hkp:(0:Int)<(k:Int):=by omega
   have hwk:IntKind.i64.wrap ((k:Int)-1)=(k:Int)-1:=IntWalk.i64_in _ (by omega)
   have h01:(1:Int)≤(k:Int):=by omega
   have h02:(k:Int)-1<(R.length:Int):=by omega
   have h03:(k:Int)<(R.length:Int):=by omega
   have zi:=ki.size
   clear hyl hyr hcl hcr own ki
   go_upto_region 6 with fail
   refine wp_region_held_drew (S:=Ex wi) (by kernel_rfl) ((Ex.refl wi).drew) (fun hHeld=>?_)
   obtain ⟨wd,hwdx⟩:∃ wd:World,wd=World.drew wi:=⟨_,rfl⟩
   rw [← hwdx] at hHeld ⊢
   have hDrew:Ex wi wd:=by rw [hwdx];exact (Ex.refl wi).drew
   clear hwdx
   refine tkH 0 (v:=?_) rfl (by kernel_rfl) (fun _ _ _ h=>h) (by rfl) ?y5 hHeld ?_
   case y5=>intro wq hSw;go_simp<;>rfl
   try simp only [Act.put,sA,sB,sC]
   refine tkH 1 (v:=?_) rfl (by kernel_rfl) (fun _ _ _ h=>h) (by rfl) ?y8 hHeld ?_
   case y8=>intro wq hSw;go_simp<;>rfl
   try simp only [Act.put,sA,sB,sC]
   refine tkH 2 (v:=?_) rfl (by kernel_rfl) (fun _ _ _ h=>h) (by rfl) ?y11 hHeld ?_
   case y11=>intro wq hSw;go_simp<;>rfl
   try simp only [Act.put,sA,sB,sC]
   refine tkH 3 (v:=?_) rfl (by kernel_rfl) (fun _ _ _ h=>h) (by rfl) ?y14 hHeld ?_
   case y14=>intro wq hSw;go_simp<;>rfl
   try simp only [Act.put,sA,sB,sC]
   refine tkH 4 (v:=?_) rfl (by kernel_rfl) (fun _ _ _ h=>h) (by rfl) ?y17 hHeld ?_
   case y17=>intro wq hSw;(have cq:=CL.out wq hSw;go_simp)<;>rfl
   try simp only [Act.put,sA,sB,sC]
   refine tkH 5 (v:=?_) rfl (by kernel_rfl) (fun _ _ _ h=>h) (by rfl) ?y20 hHeld ?_
   case y20=>intro wq hSw;go_simp<;>rfl
   try simp only [Act.put,sA,sB,sC]
   refine tkH 6 (v:=?_) rfl (by kernel_rfl) (fun _ _ _ h=>h) (by rfl) ?y23 hHeld ?_
   case y23=>intro wq hSw;go_simp<;>rfl
   try simp only [Act.put,sA,sB,sC]
   refine tkH 7 (v:=?_) rfl (by kernel_rfl) (fun _ _ _ h=>h) (by rfl) ?y26 hHeld ?_
   case y26=>intro wq hSw;go_simp<;>rfl
   try simp only [Act.put,sA,sB,sC]
   refine tkH 8 (v:=?_) rfl (by kernel_rfl) (fun _ _ _ h=>h) (by rfl) ?y29 hHeld ?_
   case y29=>intro wq hSw;(have cq:=CR.out wq hSw;go_simp)<;>rfl
   try simp only [Act.put,sA,sB,sC]
   refine tkH 9 (v:=?_) rfl (by kernel_rfl) (fun _ _ _ h=>h) (by rfl) ?y32 hHeld ?_
   case y32=>intro wq hSw;go_simp<;>rfl
   try simp only [Act.put,sA,sB,sC]
   refine tkH 10 (v:=?_) rfl (by kernel_rfl) (fun _ _ _ h=>h) (by rfl) ?y35 hHeld ?_
   case y35=>intro wq hSw;go_simp<;>rfl
   try simp only [Act.put,sA,sB,sC]
   refine tkH 11 (v:=?_) rfl (by kernel_rfl) (fun _ _ _ h=>h) (by rfl) ?y38 hHeld ?_
   case y38=>intro wq hSw;go_simp<;>rfl
   try simp only [Act.put,sA,sB,sC]
   refine tkH 12 (v:=?_) rfl (by kernel_rfl) (fun _ _ _ h=>h) (by rfl) ?y41 hHeld ?_
   case y41=>intro wq hSw;go_simp<;>rfl
   try simp only [Act.put,sA,sB,sC]
   refine tkH 13 (v:=?_) rfl (by kernel_rfl) (fun _ _ _ h=>h) (by rfl) ?y44 hHeld ?_
   case y44=>intro wq hSw;(have cq:=CR.out wq hSw;go_simp)<;>rfl
   try simp only [Act.put,sA,sB,sC]
   refine tkH 14 (v:=?_) rfl (by kernel_rfl) (fun _ _ _ h=>h) (by rfl) ?y47 hHeld ?_
   case y47=>intro wq hSw;go_simp<;>rfl
   try simp only [Act.put,sA,sB,sC]
   refine tkH 15 (v:=?_) rfl (by kernel_rfl) (fun _ _ _ h=>h) (by rfl) ?y50 hHeld ?_
   case y50=>intro wq hSw;go_simp<;>rfl
   try simp only [Act.put,sA,sB,sC]
   refine tkH 16 (v:=?_) rfl (by kernel_rfl) (fun _ _ _ h=>h) (by rfl) ?y53 hHeld ?_
   case y53=>intro wq hSw;go_simp<;>rfl
   try simp only [Act.put,sA,sB,sC]
   refine tkH 17 (v:=?_) rfl (by kernel_rfl) (fun _ _ _ h=>h) (by rfl) ?y56 hHeld ?_
   case y56=>intro wq hSw;go_simp<;>rfl
   try simp only [Act.put,sA,sB,sC]
   refine tkH 18 (v:=?_) rfl (by kernel_rfl) (fun _ _ _ h=>h) (by rfl) ?y59 hHeld ?_
   case y59=>intro wq hSw;(have cq:=CL.out wq hSw;go_simp)<;>rfl
   try simp only [Act.put,sA,sB,sC]
   refine tkH 19 (v:=?_) rfl (by kernel_rfl) (fun _ _ _ h=>h) (by rfl) ?y62 hHeld ?_
   case y62=>intro wq hSw;go_simp<;>rfl
   try simp only [Act.put,sA,sB,sC]
   refine tkH 22 (v:=?_) rfl (by kernel_rfl) (fun _ _ _ h=>h) (by rfl) ?y65 hHeld ?_
   case y65=>intro wq hSw;go_simp<;>rfl
   try simp only [Act.put,sA,sB,sC]
   refine rH 20 (by kernel_rfl) rfl fun K hK=>?_
   go_simp
   obtain ⟨g9,w3,hg9,hw3,SL,kk⟩:=litIn hHeld yl yr
   rw [← hg9,← hw3]
   replace hHeld:=kk
   clear hg9 hw3 kk
   refine hK.out _ _ (hHeld) (fun hHeld=>?_)
   clear hK K
   try simp only [Act.put,sA,sB,sC]
   refine tkH 21 (v:=?_) rfl (by kernel_rfl) (fun _ _ _ h=>h) (by rfl) ?y78 hHeld ?_
   case y78=>intro wq hSw;go_simp<;>rfl
   try simp only [Act.put,sA,sB,sC]
   refine wpAnyH_done (by kernel_rfl) ?_ _
   have SLh:=lH SL
   have K3:=lH hHeld
   have OW3:=lH (OWN.out.nx hHeld)
   have z3:=hHeld.size
   have A0:=lH (Acc.start (β:=w2.heap.size) (lo:=wi.heap.size) (Nat.le_refl w3.heap.size) (fun g hg=>.inl (OWN.out.blk_lt (g:=g) hg)))
   clear SL hHeld OWN
   go_wp2_with fail
   go_loopw [5,41] (fun o i wr=>IiRel O p.id yl yr w2.heap.size wi.heap.size w3 o i wr) (fun _ i _=>2-(intOf i).toNat)
   case atStart=>exact ⟨0,by omega,rfl,by simpa using OW3.out,A0.out⟩
   case round =>
    clear OW3 A0
    obtain ⟨q,hq,rfl,own,ac⟩:=hrel
    obtain ⟨wj,rfl⟩:∃ wj:World,wj=wr:=⟨_,rfl⟩
    have hql:(O++((prT yl yr).take q).filter (notTo p.id)).length≤100000:=by
     rw [List.length_append]
     have h1:=List.length_filter_le (notTo p.id) ((prT yl yr).take q)
     rw [List.length_take] at h1
     omega
    by_cases hq2:q<2
    ·obtain ⟨x9,o9,y,hee,hx9,hy,hc9⟩:=(ac.sl SLh.out).at hq2
     cases hee
     have e0:wj.cell? ⟨g9,q*2,none⟩=some (.int .i64 y.1):=by simpa using hc9 0 _ rfl
     have e1:wj.cell? ⟨g9,q*2+1,none⟩=some (.int .i64 y.2):=by simpa using hc9 1 _ rfl
     have SQ:=lH (prT_snoc (id:=p.id) hy)
     generalize ((prT yl yr).take q).filter (notTo p.id)=F at own SQ hql
     have AC:=lH ac
     have zb0:=(ac.ex (KI.out.nx K3.out)).size
     clear hy hc9 ac
     have B9:=Blk.new wj [.int .i64 y.1,.int .i64 y.2] 242
     have kk:=Ex.new wj (.cells #[.int .i64 y.1,.int .i64 y.2] 242)
     obtain ⟨w4,hw4⟩:∃ w4,w4=wj.alloc (.cells #[.int .i64 y.1,.int .i64 y.2] 242):=⟨_,rfl⟩
     obtain ⟨g10,hg10⟩:∃ g10,g10=wj.heap.size:=⟨_,rfl⟩
     replace B9:Blk w4 g10 [.int .i64 y.1,.int .i64 y.2] 242:=by rw [hw4,hg10];exact B9
     rw [← hw4] at kk
     have Hw4:=lH hw4
     have Hg10:=lH hg10
     replace own:=own.nx kk
     have AC4:=lH (AC.out.nx kk)
     have zb:w2.heap.size≤w4.heap.size:=Nat.le_trans zb0 kk.size
     clear kk hw4 hg10
     go_upto_region 9 with fail
     rw [← Hg10.out,← Hw4.out]
     clear Hg10 Hw4
     have q0:=B9.cell 0 _ rfl
     have q1:=B9.cell 1 _ rfl
     have qp:=(B3.out.nx (AC4.out.ex (KI.out.nx K3.out))).cell 0 _ rfl
     clear e0 e1 B9
     cases hT:notTo p.id y with
     | true =>
      have d1:(y.1 != p.id)=true:=hT
      have SF:=lH (show ((prT yl yr).take (q+1)).filter (notTo p.id)=F++[y] by rw [SQ.out,if_pos hT])
      have kl:=Ex.new w4 (.cells #[.int .i64 y.1,.int .i64 y.2] 242)
      have own7:=own.nx kl
      have zc:=Nat.le_trans zb kl.size
      clear hT
      go_wp2_with (at_builtin;(refine wpList_append_W (enc:=encS) _ rfl _ _ 54 rfl w2.heap.size 242 (.agg #[.int .i64 0,.int .i64 0]) 2 16 Tryz.underlying54 Tryz.infoIn rfl (by omega) (by omega) _ _ own7 rfl _ 1 1 [y] (Sl.lit _ rfl rfl (fun _=>rfl) rfl) (fun _=>rfl) (by simp [encS,Value.oneCell']) rfl (by omega) (by omega) zc ?_);intro v6 w6 own6 ch0 ch1 hv)
      exact ⟨⟨q+1,by omega,by go_num,by rw [SF.out,← List.append_assoc];exact own6,(AC4.out.nx kl).step (fun g hg=>(own7.blk hg).1) ch0 hv⟩,by simp [intOf];omega⟩
     | false =>
      have d1:(y.1 != p.id)=false:=hT
      have SF:=lH (show ((prT yl yr).take (q+1)).filter (notTo p.id)=F by rw [SQ.out,hT];simp)
      have OF:=lH own
      clear hT own
      go_wp2_with fail
      exact ⟨⟨q+1,by omega,by go_num,by rw [SF.out];exact OF.out,AC4.out⟩,by simp [intOf];omega⟩
    ·obtain rfl:q=2:=by omega
     have OF:=lH own
     have KF:=lH (ac.ex (KI.out.nx K3.out))
     clear own ac hq hq2
     go_wp2_with fail
     refine ⟨⟨k+1,by omega,by omega,by go_num,?_,KF.out⟩,by simp [intOf];omega⟩
     rw [show k+1-1=k-1+1 by omega,SN.out,← prT_all]
     exact OF.out
  ·have HI:Hid (introsN N p=((R.zip R.tail).take (k-1)).flatMap (pr2 p.id)):=lH (IN.out _ (prs_all (by omega)).symm)
   generalize ((R.zip R.tail).take (k-1)).flatMap (pr2 p.id)=O at own HI
   have FO:=lH (own.lower z2)
   have FE:=lH (EX2.out.nx ki)
   clear own ki
   go_wp2_with fail
   go_ret
   exact ⟨_,rfl,by rw [HI.out];exact FO.out,FE.out⟩
section
variable {N:List Nd} {P:List Pr}
theorem conn_line (h0:checkN N=0) (h:∀ A a b B,N=A++a::b::B→EdgeN N P a.id b.id∨EdgeN N P b.id a.id):ConnN N P:=by
 refine ⟨h0,fun x hx y hy=>?_⟩
 have:=chain_cl (R:=fun u v=>EdgeN N P u v∨EdgeN N P v u) N h x hx y hy
 refine Cl.mono (R:=fun u v=>EdgeN N P u v∨EdgeN N P v u) (fun a b hab=>?_) this
 exact Cl.one hab
theorem ids_ne (h0:checkN N=0) {i j:Nat} {a b:Nd} (ha:N[i]?=some a) (hb:N[j]?=some b) (hij:i≠j):a.id≠b.id:=by
 rcases Nat.lt_or_gt_of_ne hij with h | h
 ·exact ((check_keys h0 j i b a h hb ha).2).symm
 ·exact (check_keys h0 i j a b h ha hb).2
theorem peer_at {i:Nat} {p:Pr} (hp:P[i]?=some p) (hd:∀ j q,j<i→P[j]?=some q→q.id≠p.id):peerN P p.id=p:=by
 unfold peerN
 have:P.find? (fun q=>q.id==p.id)=some p:=by
  rw [List.find?_eq_some_iff_getElem]
  obtain ⟨h1,h2⟩:=List.getElem?_eq_some_iff.1 hp
  refine ⟨by simp,i,h1,h2,fun j hj=>?_⟩
  have:=hd j _ hj (List.getElem?_eq_getElem (by omega))
  simpa using this
 rw [this]
 rfl
def SameIds (N:List Nd) (P:List Pr):Prop:=P.length=N.length∧∀ (i:Nat) (x:Nd) (p:Pr),N[i]?=some x→P[i]?=some p→p.id=x.id
theorem same_peer (h0:checkN N=0) (hs:SameIds N P) {i:Nat} {x:Nd} {p:Pr} (hx:N[i]?=some x) (hp:P[i]?=some p):peerN P x.id=p:=by
 rw [← hs.2 i x p hx hp]
 refine peer_at hp fun j q hj hq=>?_
 obtain ⟨y,hy⟩:∃ y,N[j]?=some y:=⟨N[j]'(by have:=(List.getElem?_eq_some_iff.1 hq).1;have:=hs.1;omega),by simp⟩
 rw [hs.2 i x p hx hp,hs.2 j y q hy hq]
 exact ids_ne h0 hy hx (by omega)
theorem back_conn (h0:checkN N=0) (hs:SameIds N P) (hk:∀ (i:Nat) (x:Nd) (p:Pr),N[i]?=some x→P[i+1]?=some p→x.id∈p.known):ConnN N P:=by
 refine conn_line h0 fun A a b B e=>.inr ?_
 have ha:N[A.length]?=some a:=by rw [e];simp
 have hb:N[A.length+1]?=some b:=by rw [e];simp
 obtain ⟨p,hp⟩:∃ p,P[A.length+1]?=some p:=⟨P[A.length+1]'(by have:=(List.getElem?_eq_some_iff.1 hb).1;have:=hs.1;omega),by simp⟩
 have h1:=hk _ a p ha hp
 refine ⟨⟨b,List.mem_of_getElem? hb,rfl⟩,?_⟩
 rw [same_peer h0 hs hb hp,mem_refs h0]
 refine ⟨⟨a,List.mem_of_getElem? ha,rfl⟩,?_,?_⟩
 ·rw [hs.2 _ b p hb hp]
  exact ids_ne h0 ha hb (by omega)
 ·unfold numsP
  simp [h1]
end
section
variable {N:List Nd} {f g:Fl}
def NormF (N:List Nd) (f:Fl):Prop:=f.peers.map Pr.id=(sortN N).map Nd.id
theorem norm_lenF (h:NormF N f):f.peers.length=N.length:=by
 have:=congrArg List.length h
 simpa [sortN_length] using this
theorem norm_normal (h0:checkN N=0) (P:List Pr) (M:List (Int×Int)):NormF N ⟨normalN N P,M⟩:=by
 unfold NormF normalN
 rw [if_pos h0,List.map_map]
 exact List.map_congr_left fun x _=>peer_id _ _
theorem norm_cop (h0:checkN N=0) (f:Fl):NormF N (copF N f):=by
 unfold copF
 rw [if_pos h0]
 exact norm_normal h0 _ _
theorem ids_map {P:List Pr} {G:Pr→Pr} (hG:∀ p,(G p).id=p.id):(P.map G).map Pr.id=P.map Pr.id:=by
 rw [List.map_map]
 exact List.map_congr_left fun p _=>hG p
theorem norm_tick (h0:checkN N=0) (f:Fl) (id h:Int):NormF N (tickF N f id h):=by
 unfold tickF
 split
 ·show ((copF N f).peers.map fun p=>if p.id=id then tickP N (peerN (copF N f).peers) p h.toNat else p).map Pr.id=_
  rw [ids_map (fun p=>by split<;>rfl)]
  exact norm_cop h0 f
 ·exact norm_cop h0 f
theorem norm_del (h0:checkN N=0) (f:Fl) (k:Int):NormF N (delF N f k):=by
 unfold delF
 split
 ·split
  ·exact norm_cop h0 f
  ·split
   ·show ((copF N f).peers.map (tellP N ‹_›)).map Pr.id=_
    rw [ids_map (tell_id _)]
    exact norm_cop h0 f
   ·exact norm_cop h0 f
 ·exact norm_cop h0 f
theorem dbl_peers (f:Fl) (k:Int) (most:Nat):(dblF f k most).peers=f.peers:=by
 unfold dblF
 split
 ·split<;>rfl
 ·rfl
theorem norm_delAll (h0:checkN N=0) (ms:List Int):∀ (n i:Nat) (g:Fl),NormF N g→NormF N (delAllF N ms n i g)
 | 0,_,_,h=>h
 | n+1,i,g,_=>norm_delAll h0 ms n (i+1) _ (norm_del h0 g _)
theorem norm_tickAll (h0:checkN N=0) (ts:List Int) (h:Int):∀ (n i:Nat) (left:List Int) (g:Fl),NormF N g→NormF N (tickAllF N ts h n i left g)
 | 0,_,_,_,hg=>hg
 | n+1,i,left,g,_=>norm_tickAll h0 ts h n (i+1) _ _ (norm_tick h0 g _ _)
theorem norm_round (h0:checkN N=0) {h:Nat} (hh:h≤16) (f:Fl) (ms ts:List Int):NormF N (roundF N f ms ts h):=by
 unfold roundF
 rw [if_pos ⟨by unfold lvlN;simp;omega,h0⟩]
 exact norm_tickAll h0 ts h _ _ _ _ (norm_delAll h0 ms _ _ _ (norm_cop h0 f))
theorem dbl_len (f:Fl) (k:Int) (most:Nat):(dblF f k most).msgs.length≤f.msgs.length+1∧f.msgs.length≤(dblF f k most).msgs.length:=by
 unfold dblF
 split
 ·split
  ·exact ⟨by omega,by omega⟩
  ·show (f.msgs++[_]).length≤_∧_≤(f.msgs++[_]).length
   simp
 ·exact ⟨by omega,by omega⟩
end
end Go.Proofs.YthcholmhmcpooaaGreatDoor
