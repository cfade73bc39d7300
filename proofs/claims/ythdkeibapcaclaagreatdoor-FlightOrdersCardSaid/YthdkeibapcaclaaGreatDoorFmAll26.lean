/- Shared texts. -/
import Derived.Test.YthdkeibapcaclaaGreatDoorFmAll24
set_option linter.unusedSimpArgs false
set_option linter.unusedVariables false

namespace Go.Proofs.YthdkeibapcaclaaGreatDoor
open Go.RowKit
theorem link_no {N:List Nd} {p:Pr} {lev:Int} (h:¬ ((findN N p.id).2=true∧checkN N=0∧lvlN lev=true∧lev≤p.near.length)):linkB N p lev=(0,0):=by unfold linkB;rw [if_neg h]
theorem link_zero {N:List Nd} {p:Pr} {lev:Int} (h:(findN N p.id).2=true∧checkN N=0∧lvlN lev=true∧lev≤p.near.length) (h0:lev=0):linkB N p lev=(otherN N p.left p.id,otherN N p.right p.id):=by unfold linkB;rw [if_pos h,if_pos h0]
theorem link_bit {N:List Nd} {p:Pr} {lev:Int} {x:Nr} (h:(findN N p.id).2=true∧checkN N=0∧lvlN lev=true∧lev≤p.near.length) (h0:¬ lev=0) (hx:nearAt p (lev-1).toNat=x) :
  (bitN (findN N p.id).1.word (lev-1)=1→linkB N p lev=(otherN N x.2.1 p.id,otherN N x.2.2.2 p.id))∧(¬ bitN (findN N p.id).1.word (lev-1)=1→linkB N p lev=(otherN N x.1 p.id,otherN N x.2.2.1 p.id)):=by
 unfold linkB
 rw [if_pos h,if_neg h0,hx]
 exact ⟨fun hb=>by rw [if_pos hb],fun hb=>by rw [if_neg hb]⟩
theorem lvl_of {lev:Int} (h0:0≤lev) (h1:lev≤16):lvlN lev=true:=by unfold lvlN;simp;omega
set_option maxRecDepth 100000 in
set_option maxHeartbeats 4000000 in
theorem link_p (a:Option Addr) (n c:Nat) (N:List Nd) (p:Pr) (a1:Option Addr) (n1 c1:Nat) (a2:Option Addr) (n2 c2:Nat) (lev:Int) (w:World) (h:Sl 3 encN w a n N) (hn:n≤1000) (hc:n≤c) (hm:c≤maxLen) (hw:∀ x∈N,x.word<4294967296) (h2:Sl 4 encNr w a2 n2 p.near) (hn2:n2≤4000000000000000000) :
  Calls Tryz.prog 158 #[.slice a n c,.agg #[.int .i64 p.id,.slice a1 n1 c1,.int .i64 p.left,.int .i64 p.right,.slice a2 n2 c2],.int .i64 lev] w fun e w'=>e=.returned (.agg #[.int .i64 (linkB N p lev).1,.int .i64 (linkB N p lev).2])∧Ex w w':=by
 have EX:=Ex.refl w
 have H0:=lH h
 have FW:=lH (find_word hw p.id)
 have LN:=lH (link_no (N:=N) (p:=p) (lev:=lev))
 have LZ:=lH (link_zero (N:=N) (p:=p) (lev:=lev))
 have LB:=lH (fun x=>link_bit (N:=N) (p:=p) (lev:=lev) (x:=x))
 have hml:=h2.len
 rw [hml] at LN LZ LB
 clear hw
 generalize hLB:linkB N p lev=L at LN LZ LB ⊢
 clear hLB
 obtain ⟨g4,hg4⟩:∃ g4,g4=w.heap.size:=⟨_,rfl⟩
 obtain ⟨g6,hg6⟩:∃ g6,g6=(w.heap.size+1):=⟨_,rfl⟩
 obtain ⟨w1,hw1⟩:∃ w1,w1=((w.alloc (.cells #[.int .i64 p.id,.slice a1 n1 c1,.int .i64 p.left,.int .i64 p.right,.slice a2 n2 c2] 36)).alloc (.cells #[.int .i64 0,.int .i64 0] 100)):=⟨_,rfl⟩
 have kk:Ex w w1:=by rw [hw1];exact (((Ex.refl w).alloc (.cells #[.int .i64 p.id,.slice a1 n1 c1,.int .i64 p.left,.int .i64 p.right,.slice a2 n2 c2] 36)).alloc (.cells #[.int .i64 0,.int .i64 0] 100))
 have B4:Blk w1 g4 [.int .i64 p.id,.slice a1 n1 c1,.int .i64 p.left,.int .i64 p.right,.slice a2 n2 c2] 36:=by rw [hw1];simp only [hg4,hg6];have hbk:=((Blk.new w [.int .i64 p.id,.slice a1 n1 c1,.int .i64 p.left,.int .i64 p.right,.slice a2 n2 c2] 36).nx (Ex.new _ (.cells #[.int .i64 0,.int .i64 0] 100)));simpa using hbk
 have B6:Blk w1 g6 [.int .i64 0,.int .i64 0] 100:=by rw [hw1];simp only [hg4,hg6];have hbk:=(Blk.new (w.alloc (.cells #[.int .i64 p.id,.slice a1 n1 c1,.int .i64 p.left,.int .i64 p.right,.slice a2 n2 c2] 36)) [.int .i64 0,.int .i64 0] 100);simpa using hbk
 have Hw1:=lH hw1
 have Hg4:=lH hg4
 have Hg6:=lH hg6
 replace h:=h.nx kk
 replace h2:=h2.nx kk
 replace EX:=EX.nx kk
 have zg6:w.heap.size≤g6:=by omega
 clear kk hw1 hg4 hg6
 go_enter Tryz.func158,Tryz.ntmps158
 go_upto_region 1 with fail
 rw [← Hw1.out,← Hg6.out,← Hg4.out]
 clear Hw1 Hg6 Hg4
 have q0:=B4.cell 0 _ rfl
 go_wp2_with fail
 (with_reducible refine (find_p _ _ _ _ p.id _ h (by omega)).mono ?_)
 rintro e w2 ⟨rfl,kk⟩
 replace h:=h.nx kk
 replace h2:=h2.nx kk
 replace EX:=EX.nx kk
 replace B4:=B4.nx kk
 replace B6:=B6.nx kk
 clear kk
 replace FW:=FW.out
 replace LN:=LN.out
 replace LZ:=LZ.out
 replace LB:=LB.out
 obtain ⟨F,hF⟩:∃ F,F=findN N p.id:=⟨_,rfl⟩
 rw [← hF] at FW LN LZ LB ⊢
 clear hF q0
 obtain ⟨⟨xi,xk,xw⟩,ok⟩:=F
 replace FW:=lH FW
 replace LN:=lH LN
 replace LZ:=lH LZ
 replace LB:=lH LB
 have B7:=Blk.new w2 [.int .i64 xi,.string xk,.int .u32 xw] 60
 have kk:=Ex.new w2 (.cells #[.int .i64 xi,.string xk,.int .u32 xw] 60)
 obtain ⟨w3,hw3⟩:∃ w3,w3=w2.alloc (.cells #[.int .i64 xi,.string xk,.int .u32 xw] 60):=⟨_,rfl⟩
 obtain ⟨g7,hg7⟩:∃ g7,g7=w2.heap.size:=⟨_,rfl⟩
 replace B7:Blk w3 g7 [.int .i64 xi,.string xk,.int .u32 xw] 60:=by rw [hw3,hg7];exact B7
 rw [← hw3] at kk
 have Hw3:=lH hw3
 have Hg7:=lH hg7
 replace h:=h.nx kk
 replace h2:=h2.nx kk
 replace EX:=EX.nx kk
 replace B4:=B4.nx kk
 replace B6:=B6.nx kk
 clear kk hw3 hg7
 simp only [Nd.val]
 go_upto_region 2 with fail
 rw [← Hg7.out,← Hw3.out]
 clear Hg7 Hw3
 have FAIL:∀ wz,wz=w3→1=1:=fun _ _=>rfl
 clear FAIL
 by_cases hok:ok=true
 case neg =>
  obtain rfl:ok=false:=by simpa using hok
  have E0:Hid (L=(0,0)):=lH (LN.out (fun hh=>by cases hh.1))
  have r0:=B6.cell 0 _ rfl
  have r1:=B6.cell 1 _ rfl
  have f0:=B6.free 0
  have f1:=B6.free 1
  have KE:=lH ((EX.setNew (p:=⟨g6,0,none⟩) (.int .i64 0) zg6).setNew (p:=⟨g6,1,none⟩) (.int .i64 0) zg6)
  clear h h2 EX B4 B6 B7 hok
  go_wp2_with fail
  refine bodyPost_ret (v:=.agg #[.int .i64 0,.int .i64 0]) (by simp [results,Tryz.results158,go_sem, *]) rfl ⟨by rw [E0.out],KE.out⟩
 subst hok
 go_wp2_with fail
 (with_reducible refine (check_p _ _ _ _ _ h (by omega) hc hm).mono ?_)
 rintro e w4 ⟨rfl,kk⟩
 replace h:=h.nx kk
 replace h2:=h2.nx kk
 replace EX:=EX.nx kk
 replace B4:=B4.nx kk
 replace B6:=B6.nx kk
 replace B7:=B7.nx kk
 clear kk
 by_cases hbad:¬ checkN N=0∨lev<0∨16<lev∨(n2:Int)<lev
 case pos =>
  have E0:Hid (L=(0,0)):=lH (LN.out (fun hh=>by
   rcases hbad with hb | hb | hb | hb
   ·exact hb hh.2.1
   ·have:=hh.2.2.1;unfold lvlN at this;simp at this;omega
   ·have:=hh.2.2.1;unfold lvlN at this;simp at this;omega
   ·have:=hh.2.2.2;omega))
  have p4:=B4.cell 4 _ rfl
  have r0:=B6.cell 0 _ rfl
  have r1:=B6.cell 1 _ rfl
  have f0:=B6.free 0
  have f1:=B6.free 1
  have KE:=lH ((EX.setNew (p:=⟨g6,0,none⟩) (.int .i64 0) zg6).setNew (p:=⟨g6,1,none⟩) (.int .i64 0) zg6)
  clear h h2 EX B4 B6 B7
  have HB:((checkN N != 0)||(decide (lev<0)||(decide (lev>16)||decide (lev>(n2:Int)))))=true:=by
   rcases hbad with hb | hb | hb | hb
   ·have:(checkN N != 0)=true:=by simpa using hb
    rw [this];rfl
   ·have:decide (lev<0)=true:=by simpa using hb
    rw [this];simp
   ·have:decide (lev>16)=true:=by simpa using hb
    rw [this];simp
   ·have:decide (lev>(n2:Int))=true:=by simpa using hb
    rw [this];simp
  clear hbad
  by_cases b1:checkN N=0
  case neg =>
   have d1:(checkN N != 0)=true:=by simpa using b1
   clear HB b1
   go_wp2_with fail
   refine bodyPost_ret (v:=.agg #[.int .i64 0,.int .i64 0]) (by simp [results,Tryz.results158,go_sem, *]) rfl ⟨by rw [E0.out],KE.out⟩
  have d1:(checkN N != 0)=false:=by simpa using b1
  rw [d1] at HB
  clear b1
  by_cases b2:lev<0
  ·clear HB
   go_wp2_with fail
   refine bodyPost_ret (v:=.agg #[.int .i64 0,.int .i64 0]) (by simp [results,Tryz.results158,go_sem, *]) rfl ⟨by rw [E0.out],KE.out⟩
  by_cases b3:lev>16
  ·clear HB
   go_wp2_with fail
   refine bodyPost_ret (v:=.agg #[.int .i64 0,.int .i64 0]) (by simp [results,Tryz.results158,go_sem, *]) rfl ⟨by rw [E0.out],KE.out⟩
  have b4:lev>(n2:Int):=by
   have e2:decide (lev<0)=false:=by simpa using b2
   have e3:decide (lev>16)=false:=by simpa using b3
   rw [e2,e3] at HB
   simpa using HB
  clear HB
  go_wp2_with fail
  refine bodyPost_ret (v:=.agg #[.int .i64 0,.int .i64 0]) (by simp [results,Tryz.results158,go_sem, *]) rfl ⟨by rw [E0.out],KE.out⟩
 have hck:checkN N=0:=Decidable.byContradiction (fun h=>hbad (.inl h))
 have hl0:0≤lev:=by omega
 have hl1:lev≤16:=by omega
 have hl2:lev≤(n2:Int):=by omega
 have CND:Hid (True∧checkN N=0∧lvlN lev=true∧lev≤(n2:Int)):=lH ⟨trivial,hck,lvl_of hl0 hl1,hl2⟩
 have d1:(checkN N != 0)=false:=by simpa using hck
 have d2:decide (lev<0)=false:=by simp;omega
 have d3:decide (lev>16)=false:=by simp;omega
 have d4:decide (lev>(n2:Int))=false:=by simp;omega
 have FWh:=FW.out trivial
 clear hbad hck LN FW
 obtain ⟨k,rfl⟩:=Int.eq_ofNat_of_zero_le hl0
 have p2:=B4.cell 2 _ rfl
 have p3:=B4.cell 3 _ rfl
 have p4:=B4.cell 4 _ rfl
 go_upto_region 4 with fail
 by_cases h0:(k:Int)=0
 ·have E0:=lH (LZ.out CND.out h0)
  have hk0:k=0:=by omega
  subst hk0
  have B9:=Blk.new w4 [.int .i64 p.left,.int .i64 p.right] 100
  have kk:=Ex.new w4 (.cells #[.int .i64 p.left,.int .i64 p.right] 100)
  obtain ⟨w5,hw5⟩:∃ w5,w5=w4.alloc (.cells #[.int .i64 p.left,.int .i64 p.right] 100):=⟨_,rfl⟩
  obtain ⟨g9,hg9⟩:∃ g9,g9=w4.heap.size:=⟨_,rfl⟩
  replace B9:Blk w5 g9 [.int .i64 p.left,.int .i64 p.right] 100:=by rw [hw5,hg9];exact B9
  rw [← hw5] at kk
  have Hw5:=lH hw5
  have Hg9:=lH hg9
  replace EX:=EX.nx kk
  replace B4:=B4.nx kk
  replace B6:=B6.nx kk
  clear kk hw5 hg9
  clear h h2 B7 LZ LB h0
  go_upto_region 10 with fail
  clear p2 p3 p4
  rw [← Hg9.out,← Hw5.out]
  clear Hg9 Hw5
  have Y0:Hid (∀ wq,Ex w5 wq→wq.cell? ⟨g9,0,none⟩=some (.int .i64 p.left)):=lH (fun wq kq=>(B9.nx kq).cell 0 _ rfl)
  have Y1:Hid (∀ wq,Ex w5 wq→wq.cell? ⟨g9,1,none⟩=some (.int .i64 p.right)):=lH (fun wq kq=>(B9.nx kq).cell 1 _ rfl)
  have QI:Hid (∀ wq,Ex w5 wq→wq.cell? ⟨g4,0,none⟩=some (.int .i64 p.id)):=lH (fun wq kq=>(B4.nx kq).cell 0 _ rfl)
  have HS:=lH (H0.out.nx EX)
  have K:=lH EX
  replace B6:=lH B6
  clear B9 B4 EX
  refine wp_region_late_drew (S:=Ex w5) [13] (by kernel_rfl) ((Ex.refl w5).drew) (fun hHeld=>?_)
  obtain ⟨wd,hwdx⟩:∃ wd:World,wd=World.drew w5:=⟨_,rfl⟩
  rw [← hwdx] at hHeld ⊢
  have hDrew:Ex w5 wd:=by rw [hwdx];exact (Ex.refl w5).drew
  clear hwdx
  refine tkL 0 (v:=?_) rfl (by kernel_rfl) (fun _ _ _ h=>h) (by rfl) ?y1x0q5 (by assumption) ?z1x0q5
  case y1x0q5=>intro wq hSw;(go_simp);(try with_reducible rfl)
  refine tkL 1 (v:=?_) rfl (by kernel_rfl) (fun _ _ _ h=>h) (by rfl) ?y1x1q8 (by assumption) ?z1x1q8
  case y1x1q8=>intro wq hSw;(go_simp);(try with_reducible rfl)
  refine tkL 2 (v:=?_) rfl (by kernel_rfl) (fun _ _ _ h=>h) (by rfl) ?y1x2q11 (by assumption) ?z1x2q11
  case y1x2q11=>intro wq hSw;(have cq:=Y0.out wq hSw;go_simp);(try with_reducible rfl)
  refine tkL 3 (v:=?_) rfl (by kernel_rfl) (fun _ _ _ h=>h) (by rfl) ?y1x3q14 (by assumption) ?z1x3q14
  case y1x3q14=>intro wq hSw;(go_simp);(try with_reducible rfl)
  refine tkL 4 (v:=?_) rfl (by kernel_rfl) (fun _ _ _ h=>h) (by rfl) ?y1x4q17 (by assumption) ?z1x4q17
  case y1x4q17=>intro wq hSw;(have cq:=QI.out wq hSw;go_simp);(try with_reducible rfl)
  refine tkL 6 (v:=?_) rfl (by kernel_rfl) (fun _ _ _ h=>h) (by rfl) ?y1x6q20 (by assumption) ?z1x6q20
  case y1x6q20=>intro wq hSw;(go_simp);(try with_reducible rfl)
  refine tkL 7 (v:=?_) rfl (by kernel_rfl) (fun _ _ _ h=>h) (by rfl) ?y1x7q23 (by assumption) ?z1x7q23
  case y1x7q23=>intro wq hSw;(go_simp);(try with_reducible rfl)
  refine tkL 8 (v:=?_) rfl (by kernel_rfl) (fun _ _ _ h=>h) (by rfl) ?y1x8q26 (by assumption) ?z1x8q26
  case y1x8q26=>intro wq hSw;(have cq:=Y1.out wq hSw;go_simp);(try with_reducible rfl)
  refine tkL 9 (v:=?_) rfl (by kernel_rfl) (fun _ _ _ h=>h) (by rfl) ?y1x9q29 (by assumption) ?z1x9q29
  case y1x9q29=>intro wq hSw;(go_simp);(try with_reducible rfl)
  refine tkL 10 (v:=?_) rfl (by kernel_rfl) (fun _ _ _ h=>h) (by rfl) ?y1x10q32 (by assumption) ?z1x10q32
  case y1x10q32=>intro wq hSw;(have cq:=QI.out wq hSw;go_simp);(try with_reducible rfl)
  refine wpAnyL_ready (rs:=[5]) (by kernel_rfl) (by simp) ?_
  refine AllReadyL.cons (o:=⟨_,_,_,_,_,_⟩) rfl (fun K hK=>?_) AllReadyL.nil
  go_simp
  (with_reducible refine (other_p _ _ _ N p.left p.id _ (HS.out.nx hHeld) hn).mono ?_)
  rintro e wb ⟨rfl,kk⟩
  replace hHeld:=hHeld.nx kk
  clear kk
  refine hK.out _ _ (hHeld) (fun hHeld=>?_)
  clear hK K
  refine wpAnyL_ready (rs:=[11]) (by kernel_rfl) (by simp) ?_
  refine AllReadyL.cons (o:=⟨_,_,_,_,_,_⟩) rfl (fun K hK=>?_) AllReadyL.nil
  go_simp
  (with_reducible refine (other_p _ _ _ N p.right p.id _ (HS.out.nx hHeld) hn).mono ?_)
  rintro e wc ⟨rfl,kk⟩
  replace hHeld:=hHeld.nx kk
  clear kk
  have B6z:=B6.out.nx hHeld
  have f0:=B6z.free 0
  have f1:=B6z.free 1
  have r0:=B6z.cell 0 _ rfl
  have r1:=B6z.cell 1 _ rfl
  refine hK.out _ _ (hHeld) (fun hHeld=>?_)
  clear hK K
  refine tkL 12 (v:=?_) rfl (by kernel_rfl) (fun _ _ _ h=>h) (by rfl) ?y1x12q60 (by assumption) ?z1x12q60
  case y1x12q60=>intro wq hSw;(go_simp);(try with_reducible rfl)
  refine wpAnyL_ready (rs:=[13]) (by kernel_rfl) (by simp) ?_
  refine AllReadyL.consL (o:=⟨_,_,_,_,_,_⟩) rfl (by rfl) (fun K hK=>?_) AllReadyL.nil
  go_simp
  refine hK.out _ _ ?_
  clear hK K
  refine wpAnyL_done (by kernel_rfl) ?_ _
  have KE:=lH (((K.out.nx hHeld).setNew (p:=⟨g6,0,none⟩) (.int .i64 (otherN N p.left p.id)) zg6).setNew (p:=⟨g6,1,none⟩) (.int .i64 (otherN N p.right p.id)) zg6)
  clear hDrew hHeld B6z
  go_wp2_with fail
  refine bodyPost_ret (v:=.agg #[.int .i64 (otherN N p.left p.id),.int .i64 (otherN N p.right p.id)]) (by simp [results,Tryz.results158,go_sem, *]) rfl ⟨by rw [E0.out],KE.out⟩
 ·obtain ⟨x6,o6,ny,rfl,hx6,hny,hc6⟩:=h2.at (show k-1<n2 by omega)
  have LX:=lH (LB.out ny CND.out h0 (by rw [show ((k:Int)-1).toNat=k-1 by omega];exact near_at hny))
  have r0:w4.cell? ⟨x6,o6+(k-1)*4,none⟩=some (.int .i64 ny.1):=hc6 0 _ rfl
  have r1:w4.cell? ⟨x6,o6+(k-1)*4+1,none⟩=some (.int .i64 ny.2.1):=hc6 1 _ rfl
  have r2:w4.cell? ⟨x6,o6+(k-1)*4+1+1,none⟩=some (.int .i64 ny.2.2.1):=by simpa [Nat.add_assoc] using hc6 2 _ rfl
  have r3:w4.cell? ⟨x6,o6+(k-1)*4+1+1+1,none⟩=some (.int .i64 ny.2.2.2):=by simpa [Nat.add_assoc] using hc6 3 _ rfl
  have hkp:(0:Int)<(k:Int):=by omega
  have hwk:IntKind.i64.wrap ((k:Int)-1)=(k:Int)-1:=IntWalk.i64_in _ (by omega)
  have h01:(1:Int)≤(k:Int):=by omega
  have h02:(k:Int)-1<(n2:Int):=by omega
  have hl4:=B4.lt
  have hl6:=B6.lt
  have hl7:=B7.lt
  have zz:=EX.size
  have B9:=Blk.new w4 [.int .i64 p.left,.int .i64 p.right] 100
  have kk:=Ex.new w4 (.cells #[.int .i64 p.left,.int .i64 p.right] 100)
  obtain ⟨w5,hw5⟩:∃ w5,w5=w4.alloc (.cells #[.int .i64 p.left,.int .i64 p.right] 100):=⟨_,rfl⟩
  obtain ⟨g9,hg9⟩:∃ g9,g9=w4.heap.size:=⟨_,rfl⟩
  replace B9:Blk w5 g9 [.int .i64 p.left,.int .i64 p.right] 100:=by rw [hw5,hg9];exact B9
  rw [← hw5] at kk
  have Hw5:=lH hw5
  have Hg9:=lH hg9
  replace EX:=EX.nx kk
  replace B4:=B4.nx kk
  replace B6:=B6.nx kk
  replace B7:=B7.nx kk
  have zg9:w.heap.size≤g9:=by omega
  have h49:¬ g4=g9:=by omega
  have h69:¬ g6=g9:=by omega
  have h79:¬ g7=g9:=by omega
  have t0:=Chg.cellv kk r0 hx6
  have t1:=Chg.cellv kk r1 hx6
  have t2:=Chg.cellv kk r2 hx6
  have t3:=Chg.cellv kk r3 hx6
  clear r0 r1 r2 r3 kk hw5 hg9 h h2 hc6 hny LB LZ h0 hl4 hl6 hl7 zz
  go_upto_region 5 with fail
  rw [← Hg9.out,← Hw5.out]
  clear Hg9 Hw5
  have p4:=B4.cell 4 _ rfl
  clear p2 p3
  have hl9:=B9.lt
  have B10:=Blk.new w5 [.int .i64 ny.1,.int .i64 ny.2.1,.int .i64 ny.2.2.1,.int .i64 ny.2.2.2] 80
  have kk:=Ex.new w5 (.cells #[.int .i64 ny.1,.int .i64 ny.2.1,.int .i64 ny.2.2.1,.int .i64 ny.2.2.2] 80)
  obtain ⟨w6,hw6⟩:∃ w6,w6=w5.alloc (.cells #[.int .i64 ny.1,.int .i64 ny.2.1,.int .i64 ny.2.2.1,.int .i64 ny.2.2.2] 80):=⟨_,rfl⟩
  obtain ⟨g10,hg10⟩:∃ g10,g10=w5.heap.size:=⟨_,rfl⟩
  replace B10:Blk w6 g10 [.int .i64 ny.1,.int .i64 ny.2.1,.int .i64 ny.2.2.1,.int .i64 ny.2.2.2] 80:=by rw [hw6,hg10];exact B10
  rw [← hw6] at kk
  have Hw6:=lH hw6
  have Hg10:=lH hg10
  replace EX:=EX.nx kk
  replace B4:=B4.nx kk
  replace B6:=B6.nx kk
  replace B7:=B7.nx kk
  replace B9:=B9.nx kk
  have h10:¬ g10=g9:=by omega
  clear kk hw6 hg10 hl9
  go_upto_region 7 with fail
  rw [← Hg10.out,← Hw6.out]
  clear Hg10 Hw6
  clear t0 t1 t2 t3 p4
  have u0:=B10.cell 0 _ rfl
  have u2:=B10.cell 2 _ rfl
  have f0:=B9.free 0
  have f1:=B9.free 1
  have v0:=B9.cell 0 _ rfl
  have v1:=B9.cell 1 _ rfl
  have KB0:Exb g9 w6 ((w6.setCell ⟨g9,0,none⟩ (.int .i64 ny.1)).setCell ⟨g9,1,none⟩ (.int .i64 ny.2.2.1)):=((Exb.refl g9 w6).setB (p:=⟨g9,0,none⟩) _ rfl).setB (p:=⟨g9,1,none⟩) _ rfl
  have BS0:Blk ((w6.setCell ⟨g9,0,none⟩ (.int .i64 ny.1)).setCell ⟨g9,1,none⟩ (.int .i64 ny.2.2.1)) g9 [.int .i64 ny.1,.int .i64 ny.2.2.1] 100:=(B9.set 0 (.int .i64 ny.1)).set 1 (.int .i64 ny.2.2.1)
  have KS0:Ex w ((w6.setCell ⟨g9,0,none⟩ (.int .i64 ny.1)).setCell ⟨g9,1,none⟩ (.int .i64 ny.2.2.1)):=(EX.setNew (p:=⟨g9,0,none⟩) _ zg9).setNew (p:=⟨g9,1,none⟩) _ zg9
  replace B4:=lH B4
  replace B6:=lH B6
  replace B7:=lH B7
  replace B10:=lH B10
  replace KB0:=lH KB0
  replace BS0:=lH BS0
  replace KS0:=lH KS0
  clear B9 EX
  go_upto_region 8 with fail
  obtain ⟨w7,hw7⟩:∃ w7,w7=((w6.setCell ⟨g9,0,none⟩ (.int .i64 ny.1)).setCell ⟨g9,1,none⟩ (.int .i64 ny.2.2.1)):=⟨_,rfl⟩
  rw [← hw7] at KB0 BS0 KS0 ⊢
  have B9:=BS0.out
  have EX:=KS0.out
  replace B4:=B4.out.nxb h49 KB0.out
  replace B6:=B6.out.nxb h69 KB0.out
  replace B7:=B7.out.nxb h79 KB0.out
  replace B10:=B10.out.nxb h10 KB0.out
  clear hw7 KB0 BS0 KS0 f0 f1 v0 v1
  clear u0 u2
  have q2:=B7.cell 2 _ rfl
  go_wp2_with fail
  refine (bit_p xw ((k:Int)-1) _ FWh (by omega) (by omega)).mono ?_
  rintro e w8 ⟨rfl,rfl⟩
  by_cases hb:bitN xw ((k:Int)-1)=1
  ·have E0:=lH (LX.out.1 hb)
   have db:(((bitN xw ((k:Int)-1):Nat):Int)==1)=true:=by rw [hb];rfl
   clear hb FWh LX
   have u0:=B10.cell 1 _ rfl
   have u2:=B10.cell 3 _ rfl
   have f0:=B9.free 0
   have f1:=B9.free 1
   have v0:=B9.cell 0 _ rfl
   have v1:=B9.cell 1 _ rfl
   have KB0:Exb g9 w7 ((w7.setCell ⟨g9,0,none⟩ (.int .i64 ny.2.1)).setCell ⟨g9,1,none⟩ (.int .i64 ny.2.2.2)):=((Exb.refl g9 w7).setB (p:=⟨g9,0,none⟩) _ rfl).setB (p:=⟨g9,1,none⟩) _ rfl
   have BS0:Blk ((w7.setCell ⟨g9,0,none⟩ (.int .i64 ny.2.1)).setCell ⟨g9,1,none⟩ (.int .i64 ny.2.2.2)) g9 [.int .i64 ny.2.1,.int .i64 ny.2.2.2] 100:=(B9.set 0 (.int .i64 ny.2.1)).set 1 (.int .i64 ny.2.2.2)
   have KS0:Ex w ((w7.setCell ⟨g9,0,none⟩ (.int .i64 ny.2.1)).setCell ⟨g9,1,none⟩ (.int .i64 ny.2.2.2)):=(EX.setNew (p:=⟨g9,0,none⟩) _ zg9).setNew (p:=⟨g9,1,none⟩) _ zg9
   replace B4:=lH B4
   replace B6:=lH B6
   replace B7:=lH B7
   replace B10:=lH B10
   replace KB0:=lH KB0
   replace BS0:=lH BS0
   replace KS0:=lH KS0
   clear B9 EX
   go_upto_region 10 with fail
   obtain ⟨w9,hw9⟩:∃ w9,w9=((w7.setCell ⟨g9,0,none⟩ (.int .i64 ny.2.1)).setCell ⟨g9,1,none⟩ (.int .i64 ny.2.2.2)):=⟨_,rfl⟩
   rw [← hw9] at KB0 BS0 KS0 ⊢
   have B9:=BS0.out
   have EX:=KS0.out
   replace B4:=B4.out.nxb h49 KB0.out
   replace B6:=B6.out.nxb h69 KB0.out
   replace B7:=B7.out.nxb h79 KB0.out
   replace B10:=B10.out.nxb h10 KB0.out
   clear hw9 KB0 BS0 KS0 f0 f1 v0 v1
   clear u0 u2 q2 B7 B10
   have Y0:Hid (∀ wq,Ex w9 wq→wq.cell? ⟨g9,0,none⟩=some (.int .i64 ny.2.1)):=lH (fun wq kq=>(B9.nx kq).cell 0 _ rfl)
   have Y1:Hid (∀ wq,Ex w9 wq→wq.cell? ⟨g9,1,none⟩=some (.int .i64 ny.2.2.2)):=lH (fun wq kq=>(B9.nx kq).cell 1 _ rfl)
   have QI:Hid (∀ wq,Ex w9 wq→wq.cell? ⟨g4,0,none⟩=some (.int .i64 p.id)):=lH (fun wq kq=>(B4.nx kq).cell 0 _ rfl)
   have HS:=lH (H0.out.nx EX)
   have K:=lH EX
   replace B6:=lH B6
   clear B9 B4 EX
   refine wp_region_late_drew (S:=Ex w9) [13] (by kernel_rfl) ((Ex.refl w9).drew) (fun hHeld=>?_)
   obtain ⟨wd,hwdx⟩:∃ wd:World,wd=World.drew w9:=⟨_,rfl⟩
   rw [← hwdx] at hHeld ⊢
   have hDrew:Ex w9 wd:=by rw [hwdx];exact (Ex.refl w9).drew
   clear hwdx
   refine tkL 0 (v:=?_) rfl (by kernel_rfl) (fun _ _ _ h=>h) (by rfl) ?y2x0q5 (by assumption) ?z2x0q5
   case y2x0q5=>intro wq hSw;(go_simp);(try with_reducible rfl)
   refine tkL 1 (v:=?_) rfl (by kernel_rfl) (fun _ _ _ h=>h) (by rfl) ?y2x1q8 (by assumption) ?z2x1q8
   case y2x1q8=>intro wq hSw;(go_simp);(try with_reducible rfl)
   refine tkL 2 (v:=?_) rfl (by kernel_rfl) (fun _ _ _ h=>h) (by rfl) ?y2x2q11 (by assumption) ?z2x2q11
   case y2x2q11=>intro wq hSw;(have cq:=Y0.out wq hSw;go_simp);(try with_reducible rfl)
   refine tkL 3 (v:=?_) rfl (by kernel_rfl) (fun _ _ _ h=>h) (by rfl) ?y2x3q14 (by assumption) ?z2x3q14
   case y2x3q14=>intro wq hSw;(go_simp);(try with_reducible rfl)
   refine tkL 4 (v:=?_) rfl (by kernel_rfl) (fun _ _ _ h=>h) (by rfl) ?y2x4q17 (by assumption) ?z2x4q17
   case y2x4q17=>intro wq hSw;(have cq:=QI.out wq hSw;go_simp);(try with_reducible rfl)
   refine tkL 6 (v:=?_) rfl (by kernel_rfl) (fun _ _ _ h=>h) (by rfl) ?y2x6q20 (by assumption) ?z2x6q20
   case y2x6q20=>intro wq hSw;(go_simp);(try with_reducible rfl)
   refine tkL 7 (v:=?_) rfl (by kernel_rfl) (fun _ _ _ h=>h) (by rfl) ?y2x7q23 (by assumption) ?z2x7q23
   case y2x7q23=>intro wq hSw;(go_simp);(try with_reducible rfl)
   refine tkL 8 (v:=?_) rfl (by kernel_rfl) (fun _ _ _ h=>h) (by rfl) ?y2x8q26 (by assumption) ?z2x8q26
   case y2x8q26=>intro wq hSw;(have cq:=Y1.out wq hSw;go_simp);(try with_reducible rfl)
   refine tkL 9 (v:=?_) rfl (by kernel_rfl) (fun _ _ _ h=>h) (by rfl) ?y2x9q29 (by assumption) ?z2x9q29
   case y2x9q29=>intro wq hSw;(go_simp);(try with_reducible rfl)
   refine tkL 10 (v:=?_) rfl (by kernel_rfl) (fun _ _ _ h=>h) (by rfl) ?y2x10q32 (by assumption) ?z2x10q32
   case y2x10q32=>intro wq hSw;(have cq:=QI.out wq hSw;go_simp);(try with_reducible rfl)
   refine wpAnyL_ready (rs:=[5]) (by kernel_rfl) (by simp) ?_
   refine AllReadyL.cons (o:=⟨_,_,_,_,_,_⟩) rfl (fun K hK=>?_) AllReadyL.nil
   go_simp
   (with_reducible refine (other_p _ _ _ N ny.2.1 p.id _ (HS.out.nx hHeld) hn).mono ?_)
   rintro e wb ⟨rfl,kk⟩
   replace hHeld:=hHeld.nx kk
   clear kk
   refine hK.out _ _ (hHeld) (fun hHeld=>?_)
   clear hK K
   refine wpAnyL_ready (rs:=[11]) (by kernel_rfl) (by simp) ?_
   refine AllReadyL.cons (o:=⟨_,_,_,_,_,_⟩) rfl (fun K hK=>?_) AllReadyL.nil
   go_simp
   (with_reducible refine (other_p _ _ _ N ny.2.2.2 p.id _ (HS.out.nx hHeld) hn).mono ?_)
   rintro e wc ⟨rfl,kk⟩
   replace hHeld:=hHeld.nx kk
   clear kk
   have B6z:=B6.out.nx hHeld
   have f0:=B6z.free 0
   have f1:=B6z.free 1
   have r0:=B6z.cell 0 _ rfl
   have r1:=B6z.cell 1 _ rfl
   refine hK.out _ _ (hHeld) (fun hHeld=>?_)
   clear hK K
   refine tkL 12 (v:=?_) rfl (by kernel_rfl) (fun _ _ _ h=>h) (by rfl) ?y2x12q60 (by assumption) ?z2x12q60
   case y2x12q60=>intro wq hSw;(go_simp);(try with_reducible rfl)
   refine wpAnyL_ready (rs:=[13]) (by kernel_rfl) (by simp) ?_
   refine AllReadyL.consL (o:=⟨_,_,_,_,_,_⟩) rfl (by rfl) (fun K hK=>?_) AllReadyL.nil
   go_simp
   refine hK.out _ _ ?_
   clear hK K
   refine wpAnyL_done (by kernel_rfl) ?_ _
   have KE:=lH (((K.out.nx hHeld).setNew (p:=⟨g6,0,none⟩) (.int .i64 (otherN N ny.2.1 p.id)) zg6).setNew (p:=⟨g6,1,none⟩) (.int .i64 (otherN N ny.2.2.2 p.id)) zg6)
   clear hDrew hHeld B6z
   go_wp2_with fail
   refine bodyPost_ret (v:=.agg #[.int .i64 (otherN N ny.2.1 p.id),.int .i64 (otherN N ny.2.2.2 p.id)]) (by simp [results,Tryz.results158,go_sem, *]) rfl ⟨by rw [E0.out],KE.out⟩
  ·have E0:=lH (LX.out.2 hb)
   have db:(((bitN xw ((k:Int)-1):Nat):Int)==1)=false:=by simp;omega
   clear hb FWh LX
   go_upto_region 10 with fail
   clear q2 B7 B10
   have Y0:Hid (∀ wq,Ex w7 wq→wq.cell? ⟨g9,0,none⟩=some (.int .i64 ny.1)):=lH (fun wq kq=>(B9.nx kq).cell 0 _ rfl)
   have Y1:Hid (∀ wq,Ex w7 wq→wq.cell? ⟨g9,1,none⟩=some (.int .i64 ny.2.2.1)):=lH (fun wq kq=>(B9.nx kq).cell 1 _ rfl)
   have QI:Hid (∀ wq,Ex w7 wq→wq.cell? ⟨g4,0,none⟩=some (.int .i64 p.id)):=lH (fun wq kq=>(B4.nx kq).cell 0 _ rfl)
   have HS:=lH (H0.out.nx EX)
   have K:=lH EX
   replace B6:=lH B6
   clear B9 B4 EX
   refine wp_region_late_drew (S:=Ex w7) [13] (by kernel_rfl) ((Ex.refl w7).drew) (fun hHeld=>?_)
   obtain ⟨wd,hwdx⟩:∃ wd:World,wd=World.drew w7:=⟨_,rfl⟩
   rw [← hwdx] at hHeld ⊢
   have hDrew:Ex w7 wd:=by rw [hwdx];exact (Ex.refl w7).drew
   clear hwdx
   refine tkL 0 (v:=?_) rfl (by kernel_rfl) (fun _ _ _ h=>h) (by rfl) ?y3x0q5 (by assumption) ?z3x0q5
   case y3x0q5=>intro wq hSw;(go_simp);(try with_reducible rfl)
   refine tkL 1 (v:=?_) rfl (by kernel_rfl) (fun _ _ _ h=>h) (by rfl) ?y3x1q8 (by assumption) ?z3x1q8
   case y3x1q8=>intro wq hSw;(go_simp);(try with_reducible rfl)
   refine tkL 2 (v:=?_) rfl (by kernel_rfl) (fun _ _ _ h=>h) (by rfl) ?y3x2q11 (by assumption) ?z3x2q11
   case y3x2q11=>intro wq hSw;(have cq:=Y0.out wq hSw;go_simp);(try with_reducible rfl)
   refine tkL 3 (v:=?_) rfl (by kernel_rfl) (fun _ _ _ h=>h) (by rfl) ?y3x3q14 (by assumption) ?z3x3q14
   case y3x3q14=>intro wq hSw;(go_simp);(try with_reducible rfl)
   refine tkL 4 (v:=?_) rfl (by kernel_rfl) (fun _ _ _ h=>h) (by rfl) ?y3x4q17 (by assumption) ?z3x4q17
   case y3x4q17=>intro wq hSw;(have cq:=QI.out wq hSw;go_simp);(try with_reducible rfl)
   refine tkL 6 (v:=?_) rfl (by kernel_rfl) (fun _ _ _ h=>h) (by rfl) ?y3x6q20 (by assumption) ?z3x6q20
   case y3x6q20=>intro wq hSw;(go_simp);(try with_reducible rfl)
   refine tkL 7 (v:=?_) rfl (by kernel_rfl) (fun _ _ _ h=>h) (by rfl) ?y3x7q23 (by assumption) ?z3x7q23
   case y3x7q23=>intro wq hSw;(go_simp);(try with_reducible rfl)
   refine tkL 8 (v:=?_) rfl (by kernel_rfl) (fun _ _ _ h=>h) (by rfl) ?y3x8q26 (by assumption) ?z3x8q26
   case y3x8q26=>intro wq hSw;(have cq:=Y1.out wq hSw;go_simp);(try with_reducible rfl)
   refine tkL 9 (v:=?_) rfl (by kernel_rfl) (fun _ _ _ h=>h) (by rfl) ?y3x9q29 (by assumption) ?z3x9q29
   case y3x9q29=>intro wq hSw;(go_simp);(try with_reducible rfl)
   refine tkL 10 (v:=?_) rfl (by kernel_rfl) (fun _ _ _ h=>h) (by rfl) ?y3x10q32 (by assumption) ?z3x10q32
   case y3x10q32=>intro wq hSw;(have cq:=QI.out wq hSw;go_simp);(try with_reducible rfl)
   refine wpAnyL_ready (rs:=[5]) (by kernel_rfl) (by simp) ?_
   refine AllReadyL.cons (o:=⟨_,_,_,_,_,_⟩) rfl (fun K hK=>?_) AllReadyL.nil
   go_simp
   (with_reducible refine (other_p _ _ _ N ny.1 p.id _ (HS.out.nx hHeld) hn).mono ?_)
   rintro e wb ⟨rfl,kk⟩
   replace hHeld:=hHeld.nx kk
   clear kk
   refine hK.out _ _ (hHeld) (fun hHeld=>?_)
   clear hK K
   refine wpAnyL_ready (rs:=[11]) (by kernel_rfl) (by simp) ?_
   refine AllReadyL.cons (o:=⟨_,_,_,_,_,_⟩) rfl (fun K hK=>?_) AllReadyL.nil
   go_simp
   (with_reducible refine (other_p _ _ _ N ny.2.2.1 p.id _ (HS.out.nx hHeld) hn).mono ?_)
   rintro e wc ⟨rfl,kk⟩
   replace hHeld:=hHeld.nx kk
   clear kk
   have B6z:=B6.out.nx hHeld
   have f0:=B6z.free 0
   have f1:=B6z.free 1
   have r0:=B6z.cell 0 _ rfl
   have r1:=B6z.cell 1 _ rfl
   refine hK.out _ _ (hHeld) (fun hHeld=>?_)
   clear hK K
   refine tkL 12 (v:=?_) rfl (by kernel_rfl) (fun _ _ _ h=>h) (by rfl) ?y3x12q60 (by assumption) ?z3x12q60
   case y3x12q60=>intro wq hSw;(go_simp);(try with_reducible rfl)
   refine wpAnyL_ready (rs:=[13]) (by kernel_rfl) (by simp) ?_
   refine AllReadyL.consL (o:=⟨_,_,_,_,_,_⟩) rfl (by rfl) (fun K hK=>?_) AllReadyL.nil
   go_simp
   refine hK.out _ _ ?_
   clear hK K
   refine wpAnyL_done (by kernel_rfl) ?_ _
   have KE:=lH (((K.out.nx hHeld).setNew (p:=⟨g6,0,none⟩) (.int .i64 (otherN N ny.1 p.id)) zg6).setNew (p:=⟨g6,1,none⟩) (.int .i64 (otherN N ny.2.2.1 p.id)) zg6)
   clear hDrew hHeld B6z
   go_wp2_with fail
   refine bodyPost_ret (v:=.agg #[.int .i64 (otherN N ny.1 p.id),.int .i64 (otherN N ny.2.2.1 p.id)]) (by simp [results,Tryz.results158,go_sem, *]) rfl ⟨by rw [E0.out],KE.out⟩
theorem nextB_len (N:List Nd) (st:Int→Pr) (p:Pr) (h:Nat):(nextB N st p h).length=h:=by unfold nextB;rw [List.length_map,List.length_range]
end Go.Proofs.YthdkeibapcaclaaGreatDoor
