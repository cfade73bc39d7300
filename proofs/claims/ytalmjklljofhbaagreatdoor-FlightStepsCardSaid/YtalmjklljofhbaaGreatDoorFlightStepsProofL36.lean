/- Texts for FlightStepsProof. -/
import Derived.Test.YtalmjklljofhbaaGreatDoorFlightStepsProofL29
import Derived.Test.YtalmjklljofhbaaGreatDoorFlightStepsProofL31
set_option linter.unusedSimpArgs false
set_option linter.unusedVariables false

namespace Go.Proofs.YtalmjklljofhbaaGreatDoor
open Go.RowKit
set_option maxRecDepth 100000 in
set_option maxHeartbeats 4000000 in
theorem link_r (a:Option Addr) (n c:Nat) (N:List Nd) (p:Pr) (a1:Option Addr) (n1 c1:Nat) (a2:Option Addr) (n2 c2:Nat) (lev:Int) (w:World) (h:Sl 3 encN w a n N) (hn:n≤1000) (hw:∀ x∈N,x.word<4294967296) (h2:Sl 4 encNr w a2 n2 p.near) (hn2:n2≤4000000000000000000) :
  Calls Tryz.prog 140 #[.slice a n c,.agg #[.int .i64 p.id,.slice a1 n1 c1,.int .i64 p.left,.int .i64 p.right,.slice a2 n2 c2],.int .i64 lev] w fun e w'=>e=.returned (.agg #[.int .i64 (linkB N p lev).1,.int .i64 (linkB N p lev).2])∧Ex w w':=by
 have EX:=Ex.refl w
 have H0:=lH h
 have FW:=lH (find_word hw p.id)
 have LN:=lH (link_no (N:=N) (p:=p) (lev:=lev))
 have LZ:=lH (link_zero (N:=N) (p:=p) (lev:=lev))
 have LB:=lH (fun x=>link_bit (N:=N) (p:=p) (lev:=lev) (x:=x))
 have hml:=h2.len
 rw [hml] at LN LZ LB
 clear hw
 generalize hLB:linkB N p lev=L at LN LZ LB ⊢
 clear hLB
 obtain ⟨g4,hg4⟩:∃ g4,g4=w.heap.size:=⟨_,rfl⟩
 obtain ⟨g6,hg6⟩:∃ g6,g6=(w.heap.size+1):=⟨_,rfl⟩
 obtain ⟨w1,hw1⟩:∃ w1,w1=((w.alloc (.cells #[.int .i64 p.id,.slice a1 n1 c1,.int .i64 p.left,.int .i64 p.right,.slice a2 n2 c2] 36)).alloc (.cells #[.int .i64 0,.int .i64 0] 81)):=⟨_,rfl⟩
 have kk:Ex w w1:=by rw [hw1];exact (((Ex.refl w).alloc (.cells #[.int .i64 p.id,.slice a1 n1 c1,.int .i64 p.left,.int .i64 p.right,.slice a2 n2 c2] 36)).alloc (.cells #[.int .i64 0,.int .i64 0] 81))
 have B4:Blk w1 g4 [.int .i64 p.id,.slice a1 n1 c1,.int .i64 p.left,.int .i64 p.right,.slice a2 n2 c2] 36:=by rw [hw1];simp only [hg4,hg6];have hbk:=((Blk.new w [.int .i64 p.id,.slice a1 n1 c1,.int .i64 p.left,.int .i64 p.right,.slice a2 n2 c2] 36).nx (Ex.new _ (.cells #[.int .i64 0,.int .i64 0] 81)));simpa using hbk
 have B6:Blk w1 g6 [.int .i64 0,.int .i64 0] 81:=by rw [hw1];simp only [hg4,hg6];have hbk:=(Blk.new (w.alloc (.cells #[.int .i64 p.id,.slice a1 n1 c1,.int .i64 p.left,.int .i64 p.right,.slice a2 n2 c2] 36)) [.int .i64 0,.int .i64 0] 81);simpa using hbk
 have Hw1:=lH hw1
 have Hg4:=lH hg4
 have Hg6:=lH hg6
 replace h:=h.nx kk
 replace h2:=h2.nx kk
 replace EX:=EX.nx kk
 have zg6:w.heap.size≤g6:=by omega
 clear kk hw1 hg4 hg6
 go_enter Tryz.func140,Tryz.ntmps140
 go_upto_region 1 with fail
 rw [← Hw1.out,← Hg6.out,← Hg4.out]
 clear Hw1 Hg6 Hg4
 have q0:=B4.cell 0 _ rfl
 go_wp2_with fail
 (with_reducible refine (find_r _ _ _ N p.id _ h (by omega)).mono ?_)
 rintro e w2 ⟨rfl,kk⟩
 replace h:=h.nx kk
 replace h2:=h2.nx kk
 replace EX:=EX.nx kk
 replace B4:=B4.nx kk
 replace B6:=B6.nx kk
 clear kk
 replace FW:=FW.out
 replace LN:=LN.out
 replace LZ:=LZ.out
 replace LB:=LB.out
 obtain ⟨F,hF⟩:∃ F,F=findN N p.id:=⟨_,rfl⟩
 rw [← hF] at FW LN LZ LB ⊢
 clear hF q0
 obtain ⟨⟨xi,xk,xw⟩,ok⟩:=F
 replace FW:=lH FW
 replace LN:=lH LN
 replace LZ:=lH LZ
 replace LB:=lH LB
 have B7:=Blk.new w2 [.int .i64 xi,.string xk,.int .u32 xw] 49
 have kk:=Ex.new w2 (.cells #[.int .i64 xi,.string xk,.int .u32 xw] 49)
 obtain ⟨w3,hw3⟩:∃ w3,w3=w2.alloc (.cells #[.int .i64 xi,.string xk,.int .u32 xw] 49):=⟨_,rfl⟩
 obtain ⟨g7,hg7⟩:∃ g7,g7=w2.heap.size:=⟨_,rfl⟩
 replace B7:Blk w3 g7 [.int .i64 xi,.string xk,.int .u32 xw] 49:=by rw [hw3,hg7];exact B7
 rw [← hw3] at kk
 have Hw3:=lH hw3
 have Hg7:=lH hg7
 replace h:=h.nx kk
 replace h2:=h2.nx kk
 replace EX:=EX.nx kk
 replace B4:=B4.nx kk
 replace B6:=B6.nx kk
 clear kk hw3 hg7
 simp only [Nd.val]
 go_upto_region 2 with fail
 rw [← Hg7.out,← Hw3.out]
 clear Hg7 Hw3
 by_cases hok:ok=true
 case neg =>
  obtain rfl:ok=false:=by simpa using hok
  have E0:Hid (L=(0,0)):=lH (LN.out (fun hh=>by cases hh.1))
  have r0:=B6.cell 0 _ rfl
  have r1:=B6.cell 1 _ rfl
  have f0:=B6.free 0
  have f1:=B6.free 1
  have KE:=lH ((EX.setNew (p:=⟨g6,0,none⟩) (.int .i64 0) zg6).setNew (p:=⟨g6,1,none⟩) (.int .i64 0) zg6)
  clear h h2 EX B4 B6 B7 hok
  go_wp2_with fail
  refine bodyPost_ret (v:=.agg #[.int .i64 0,.int .i64 0]) (by simp [results,Tryz.results140,go_sem, *]) rfl ⟨by rw [E0.out],KE.out⟩
 subst hok
 go_wp2_with fail
 (with_reducible refine (is_r _ _ _ N _ h (by omega)).mono ?_)
 rintro e w4 ⟨rfl,kk⟩
 replace h:=h.nx kk
 replace h2:=h2.nx kk
 replace EX:=EX.nx kk
 replace B4:=B4.nx kk
 replace B6:=B6.nx kk
 replace B7:=B7.nx kk
 clear kk
 cases hck0:(checkN N==0) with
 | false =>
  have E0:Hid (L=(0,0)):=lH (LN.out (fun hh=>by rw [hh.2.1] at hck0;cases hck0))
  clear hck0
  have r0:=B6.cell 0 _ rfl
  have r1:=B6.cell 1 _ rfl
  have f0:=B6.free 0
  have f1:=B6.free 1
  have KE:=lH ((EX.setNew (p:=⟨g6,0,none⟩) (.int .i64 0) zg6).setNew (p:=⟨g6,1,none⟩) (.int .i64 0) zg6)
  clear h h2 EX B4 B6 B7
  go_wp2_with fail
  refine bodyPost_ret (v:=.agg #[.int .i64 0,.int .i64 0]) (by simp [results,Tryz.results140,go_sem, *]) rfl ⟨by rw [E0.out],KE.out⟩
 | true =>
 have hck:checkN N=0:=by simpa using hck0
 clear hck0
 go_wp2_with fail
 refine (level_r lev _).mono ?_
 rintro e wL ⟨rfl,hwL⟩
 subst hwL
 cases hlv:lvlN lev with
 | false =>
  have E0:Hid (L=(0,0)):=lH (LN.out (fun hh=>by rw [hlv] at hh;cases hh.2.2.1))
  clear hlv hck
  have r0:=B6.cell 0 _ rfl
  have r1:=B6.cell 1 _ rfl
  have f0:=B6.free 0
  have f1:=B6.free 1
  have KE:=lH ((EX.setNew (p:=⟨g6,0,none⟩) (.int .i64 0) zg6).setNew (p:=⟨g6,1,none⟩) (.int .i64 0) zg6)
  clear h h2 EX B4 B6 B7
  go_wp2_with fail
  refine bodyPost_ret (v:=.agg #[.int .i64 0,.int .i64 0]) (by simp [results,Tryz.results140,go_sem, *]) rfl ⟨by rw [E0.out],KE.out⟩
 | true =>
 by_cases hl3:lev>(n2:Int)
 ·have E0:Hid (L=(0,0)):=lH (LN.out (fun hh=>by have:=hh.2.2.2;omega))
  have p4:=B4.cell 4 _ rfl
  have hl4:(n2:Int)<lev:=hl3
  clear hlv hck
  have r0:=B6.cell 0 _ rfl
  have r1:=B6.cell 1 _ rfl
  have f0:=B6.free 0
  have f1:=B6.free 1
  have KE:=lH ((EX.setNew (p:=⟨g6,0,none⟩) (.int .i64 0) zg6).setNew (p:=⟨g6,1,none⟩) (.int .i64 0) zg6)
  clear h h2 EX B4 B6 B7
  go_wp2_with fail
  refine bodyPost_ret (v:=.agg #[.int .i64 0,.int .i64 0]) (by simp [results,Tryz.results140,go_sem, *]) rfl ⟨by rw [E0.out],KE.out⟩
 have hl01:0≤lev∧lev≤16:=by unfold lvlN at hlv;simpa using hlv
 have hl0:=hl01.1
 have hl1:=hl01.2
 have hl2:lev≤(n2:Int):=by omega
 have CND:Hid (True∧checkN N=0∧lvlN lev=true∧lev≤(n2:Int)):=lH ⟨trivial,hck,hlv,hl2⟩
 have d4:decide (lev>(n2:Int))=false:=by simp;omega
 have d5:¬ (n2:Int)<lev:=by omega
 have FWh:=FW.out trivial
 clear hck LN FW hlv hl3 hl01
 obtain ⟨k,rfl⟩:=Int.eq_ofNat_of_zero_le hl0
 have p2:=B4.cell 2 _ rfl
 have p3:=B4.cell 3 _ rfl
 have p4:=B4.cell 4 _ rfl
 go_upto_region 4 with fail
 by_cases h0:(k:Int)=0
 ·have E0:=lH (LZ.out CND.out h0)
  have hk0:k=0:=by omega
  subst hk0
  have B9:=Blk.new w4 [.int .i64 p.left,.int .i64 p.right] 81
  have kk:=Ex.new w4 (.cells #[.int .i64 p.left,.int .i64 p.right] 81)
  obtain ⟨w5,hw5⟩:∃ w5,w5=w4.alloc (.cells #[.int .i64 p.left,.int .i64 p.right] 81):=⟨_,rfl⟩
  obtain ⟨g9,hg9⟩:∃ g9,g9=w4.heap.size:=⟨_,rfl⟩
  replace B9:Blk w5 g9 [.int .i64 p.left,.int .i64 p.right] 81:=by rw [hw5,hg9];exact B9
  rw [← hw5] at kk
  have Hw5:=lH hw5
  have Hg9:=lH hg9
  replace EX:=EX.nx kk
  replace B4:=B4.nx kk
  replace B6:=B6.nx kk
  clear kk hw5 hg9
  clear h h2 B7 LZ LB h0
  go_upto_region 10 with fail
  clear p2 p3 p4
  rw [← Hg9.out,← Hw5.out]
  clear Hg9 Hw5
  have Y0:Hid (∀ wq,Ex w5 wq→wq.cell? ⟨g9,0,none⟩=some (.int .i64 p.left)):=lH (fun wq kq=>(B9.nx kq).cell 0 _ rfl)
  have Y1:Hid (∀ wq,Ex w5 wq→wq.cell? ⟨g9,1,none⟩=some (.int .i64 p.right)):=lH (fun wq kq=>(B9.nx kq).cell 1 _ rfl)
  have QI:Hid (∀ wq,Ex w5 wq→wq.cell? ⟨g4,0,none⟩=some (.int .i64 p.id)):=lH (fun wq kq=>(B4.nx kq).cell 0 _ rfl)
  have HS:=lH (H0.out.nx EX)
  have K:=lH EX
  replace B6:=lH B6
  clear B9 B4 EX
  refine wp_region_late_drew (S:=Ex w5) [13] (by kernel_rfl) ((Ex.refl w5).drew) (fun hHeld=>?_)
  obtain ⟨wd,hwdx⟩:∃ wd:World,wd=World.drew w5:=⟨_,rfl⟩
  rw [← hwdx] at hHeld ⊢
  have hDrew:Ex w5 wd:=by rw [hwdx];exact (Ex.refl w5).drew
  clear hwdx
  refine tkL 0 (v:=?_) rfl (by kernel_rfl) (fun _ _ _ h=>h) (by rfl) ?y5 hHeld ?_
  case y5=>intro wq hSw;go_simp<;>rfl
  refine tkL 1 (v:=?_) rfl (by kernel_rfl) (fun _ _ _ h=>h) (by rfl) ?y8 hHeld ?_
  case y8=>intro wq hSw;go_simp<;>rfl
  refine tkL 2 (v:=?_) rfl (by kernel_rfl) (fun _ _ _ h=>h) (by rfl) ?y11 hHeld ?_
  case y11=>intro wq hSw;(have cq:=Y0.out wq hSw;go_simp)<;>rfl
  refine tkL 3 (v:=?_) rfl (by kernel_rfl) (fun _ _ _ h=>h) (by rfl) ?y14 hHeld ?_
  case y14=>intro wq hSw;go_simp<;>rfl
  refine tkL 4 (v:=?_) rfl (by kernel_rfl) (fun _ _ _ h=>h) (by rfl) ?y17 hHeld ?_
  case y17=>intro wq hSw;(have cq:=QI.out wq hSw;go_simp)<;>rfl
  refine tkL 6 (v:=?_) rfl (by kernel_rfl) (fun _ _ _ h=>h) (by rfl) ?y20 hHeld ?_
  case y20=>intro wq hSw;go_simp<;>rfl
  refine tkL 7 (v:=?_) rfl (by kernel_rfl) (fun _ _ _ h=>h) (by rfl) ?y23 hHeld ?_
  case y23=>intro wq hSw;go_simp<;>rfl
  refine tkL 8 (v:=?_) rfl (by kernel_rfl) (fun _ _ _ h=>h) (by rfl) ?y26 hHeld ?_
  case y26=>intro wq hSw;(have cq:=Y1.out wq hSw;go_simp)<;>rfl
  refine tkL 9 (v:=?_) rfl (by kernel_rfl) (fun _ _ _ h=>h) (by rfl) ?y29 hHeld ?_
  case y29=>intro wq hSw;go_simp<;>rfl
  refine tkL 10 (v:=?_) rfl (by kernel_rfl) (fun _ _ _ h=>h) (by rfl) ?y32 hHeld ?_
  case y32=>intro wq hSw;(have cq:=QI.out wq hSw;go_simp)<;>rfl
  refine rL 5 (by kernel_rfl) rfl fun K hK=>?_
  go_simp
  (with_reducible refine (other_r _ _ _ N p.left p.id _ (HS.out.nx hHeld) hn).mono ?_)
  rintro e wb ⟨rfl,kk⟩
  replace hHeld:=hHeld.nx kk
  clear kk
  refine hK.out _ _ (hHeld) (fun hHeld=>?_)
  clear hK K
  refine rL 11 (by kernel_rfl) rfl fun K hK=>?_
  go_simp
  (with_reducible refine (other_r _ _ _ N p.right p.id _ (HS.out.nx hHeld) hn).mono ?_)
  rintro e wc ⟨rfl,kk⟩
  replace hHeld:=hHeld.nx kk
  clear kk
  have B6z:=B6.out.nx hHeld
  have f0:=B6z.free 0
  have f1:=B6z.free 1
  have r0:=B6z.cell 0 _ rfl
  have r1:=B6z.cell 1 _ rfl
  refine hK.out _ _ (hHeld) (fun hHeld=>?_)
  clear hK K
  refine tkL 12 (v:=?_) rfl (by kernel_rfl) (fun _ _ _ h=>h) (by rfl) ?y60 hHeld ?_
  case y60=>intro wq hSw;go_simp<;>rfl
  refine rLL 13 (by kernel_rfl) rfl (by rfl) fun K hK=>?_
  go_simp
  refine hK.out _ _ ?_
  clear hK K
  refine wpAnyL_done (by kernel_rfl) ?_ _
  have KE:=lH (((K.out.nx hHeld).setNew (p:=⟨g6,0,none⟩) (.int .i64 (otherN N p.left p.id)) zg6).setNew (p:=⟨g6,1,none⟩) (.int .i64 (otherN N p.right p.id)) zg6)
  clear hDrew hHeld B6z
  go_wp2_with fail
  refine bodyPost_ret (v:=.agg #[.int .i64 (otherN N p.left p.id),.int .i64 (otherN N p.right p.id)]) (by simp [results,Tryz.results140,go_sem, *]) rfl ⟨by rw [E0.out],KE.out⟩
 ·obtain ⟨x6,o6,ny,rfl,hx6,hny,hc6⟩:=h2.at (show k-1<n2 by omega)
  have LX:=lH (LB.out ny CND.out h0 (by rw [show ((k:Int)-1).toNat=k-1 by omega];exact near_at hny))
  have r0:w4.cell? ⟨x6,o6+(k-1)*4,none⟩=some (.int .i64 ny.1):=hc6 0 _ rfl
  have r1:w4.cell? ⟨x6,o6+(k-1)*4+1,none⟩=some (.int .i64 ny.2.1):=hc6 1 _ rfl
  have r2:w4.cell? ⟨x6,o6+(k-1)*4+1+1,none⟩=some (.int .i64 ny.2.2.1):=by simpa [Nat.add_assoc] using hc6 2 _ rfl
  have r3:w4.cell? ⟨x6,o6+(k-1)*4+1+1+1,none⟩=some (.int .i64 ny.2.2.2):=by simpa [Nat.add_assoc] using hc6 3 _ rfl
  have hkp:(0:Int)<(k:Int):=by omega
  have hwk:IntKind.i64.wrap ((k:Int)-1)=(k:Int)-1:=IntWalk.i64_in _ (by omega)
  have h01:(1:Int)≤(k:Int):=by omega
  have h02:(k:Int)-1<(n2:Int):=by omega
  have hl4:=B4.lt
  have hl6:=B6.lt
  have hl7:=B7.lt
  have zz:=EX.size
  have B9:=Blk.new w4 [.int .i64 p.left,.int .i64 p.right] 81
  have kk:=Ex.new w4 (.cells #[.int .i64 p.left,.int .i64 p.right] 81)
  obtain ⟨w5,hw5⟩:∃ w5,w5=w4.alloc (.cells #[.int .i64 p.left,.int .i64 p.right] 81):=⟨_,rfl⟩
  obtain ⟨g9,hg9⟩:∃ g9,g9=w4.heap.size:=⟨_,rfl⟩
  replace B9:Blk w5 g9 [.int .i64 p.left,.int .i64 p.right] 81:=by rw [hw5,hg9];exact B9
  rw [← hw5] at kk
  have Hw5:=lH hw5
  have Hg9:=lH hg9
  replace EX:=EX.nx kk
  replace B4:=B4.nx kk
  replace B6:=B6.nx kk
  replace B7:=B7.nx kk
  have zg9:w.heap.size≤g9:=by omega
  have h49:¬ g4=g9:=by omega
  have h69:¬ g6=g9:=by omega
  have h79:¬ g7=g9:=by omega
  have t0:=Chg.cellv kk r0 hx6
  have t1:=Chg.cellv kk r1 hx6
  have t2:=Chg.cellv kk r2 hx6
  have t3:=Chg.cellv kk r3 hx6
  clear r0 r1 r2 r3 kk hw5 hg9 h h2 hc6 hny LB LZ h0 hl4 hl6 hl7 zz
  go_upto_region 5 with fail
  rw [← Hg9.out,← Hw5.out]
  clear Hg9 Hw5
  have p4:=B4.cell 4 _ rfl
  clear p2 p3
  have hl9:=B9.lt
  have B10:=Blk.new w5 [.int .i64 ny.1,.int .i64 ny.2.1,.int .i64 ny.2.2.1,.int .i64 ny.2.2.2] 69
  have kk:=Ex.new w5 (.cells #[.int .i64 ny.1,.int .i64 ny.2.1,.int .i64 ny.2.2.1,.int .i64 ny.2.2.2] 69)
  obtain ⟨w6,hw6⟩:∃ w6,w6=w5.alloc (.cells #[.int .i64 ny.1,.int .i64 ny.2.1,.int .i64 ny.2.2.1,.int .i64 ny.2.2.2] 69):=⟨_,rfl⟩
  obtain ⟨g10,hg10⟩:∃ g10,g10=w5.heap.size:=⟨_,rfl⟩
  replace B10:Blk w6 g10 [.int .i64 ny.1,.int .i64 ny.2.1,.int .i64 ny.2.2.1,.int .i64 ny.2.2.2] 69:=by rw [hw6,hg10];exact B10
  rw [← hw6] at kk
  have Hw6:=lH hw6
  have Hg10:=lH hg10
  replace EX:=EX.nx kk
  replace B4:=B4.nx kk
  replace B6:=B6.nx kk
  replace B7:=B7.nx kk
  replace B9:=B9.nx kk
  have h10:¬ g10=g9:=by omega
  clear kk hw6 hg10 hl9
  go_upto_region 7 with fail
  rw [← Hg10.out,← Hw6.out]
  clear Hg10 Hw6
  clear t0 t1 t2 t3 p4
  have u0:=B10.cell 0 _ rfl
  have u2:=B10.cell 2 _ rfl
  have f0:=B9.free 0
  have f1:=B9.free 1
  have v0:=B9.cell 0 _ rfl
  have v1:=B9.cell 1 _ rfl
  have KB0:Exb g9 w6 ((w6.setCell ⟨g9,0,none⟩ (.int .i64 ny.1)).setCell ⟨g9,1,none⟩ (.int .i64 ny.2.2.1)):=((Exb.refl g9 w6).setB (p:=⟨g9,0,none⟩) _ rfl).setB (p:=⟨g9,1,none⟩) _ rfl
  have BS0:Blk ((w6.setCell ⟨g9,0,none⟩ (.int .i64 ny.1)).setCell ⟨g9,1,none⟩ (.int .i64 ny.2.2.1)) g9 [.int .i64 ny.1,.int .i64 ny.2.2.1] 81:=(B9.set 0 (.int .i64 ny.1)).set 1 (.int .i64 ny.2.2.1)
  have KS0:Ex w ((w6.setCell ⟨g9,0,none⟩ (.int .i64 ny.1)).setCell ⟨g9,1,none⟩ (.int .i64 ny.2.2.1)):=(EX.setNew (p:=⟨g9,0,none⟩) _ zg9).setNew (p:=⟨g9,1,none⟩) _ zg9
  replace B4:=lH B4
  replace B6:=lH B6
  replace B7:=lH B7
  replace B10:=lH B10
  replace KB0:=lH KB0
  replace BS0:=lH BS0
  replace KS0:=lH KS0
  clear B9 EX
  go_upto_region 8 with fail
  obtain ⟨w7,hw7⟩:∃ w7,w7=((w6.setCell ⟨g9,0,none⟩ (.int .i64 ny.1)).setCell ⟨g9,1,none⟩ (.int .i64 ny.2.2.1)):=⟨_,rfl⟩
  rw [← hw7] at KB0 BS0 KS0 ⊢
  have B9:=BS0.out
  have EX:=KS0.out
  replace B4:=B4.out.nxb h49 KB0.out
  replace B6:=B6.out.nxb h69 KB0.out
  replace B7:=B7.out.nxb h79 KB0.out
  replace B10:=B10.out.nxb h10 KB0.out
  clear hw7 KB0 BS0 KS0 f0 f1 v0 v1
  clear u0 u2
  have q2:=B7.cell 2 _ rfl
  go_wp2_with fail
  refine (bit_r xw ((k:Int)-1) _ FWh (by omega) (by omega)).mono ?_
  rintro e w8 ⟨rfl,rfl⟩
  by_cases hb:bitN xw ((k:Int)-1)=1
  ·have E0:=lH (LX.out.1 hb)
   have db:(((bitN xw ((k:Int)-1):Nat):Int)==1)=true:=by rw [hb];rfl
   clear hb FWh LX
   have u0:=B10.cell 1 _ rfl
   have u2:=B10.cell 3 _ rfl
   have f0:=B9.free 0
   have f1:=B9.free 1
   have v0:=B9.cell 0 _ rfl
   have v1:=B9.cell 1 _ rfl
   have KB0:Exb g9 w7 ((w7.setCell ⟨g9,0,none⟩ (.int .i64 ny.2.1)).setCell ⟨g9,1,none⟩ (.int .i64 ny.2.2.2)):=((Exb.refl g9 w7).setB (p:=⟨g9,0,none⟩) _ rfl).setB (p:=⟨g9,1,none⟩) _ rfl
   have BS0:Blk ((w7.setCell ⟨g9,0,none⟩ (.int .i64 ny.2.1)).setCell ⟨g9,1,none⟩ (.int .i64 ny.2.2.2)) g9 [.int .i64 ny.2.1,.int .i64 ny.2.2.2] 81:=(B9.set 0 (.int .i64 ny.2.1)).set 1 (.int .i64 ny.2.2.2)
   have KS0:Ex w ((w7.setCell ⟨g9,0,none⟩ (.int .i64 ny.2.1)).setCell ⟨g9,1,none⟩ (.int .i64 ny.2.2.2)):=(EX.setNew (p:=⟨g9,0,none⟩) _ zg9).setNew (p:=⟨g9,1,none⟩) _ zg9
   replace B4:=lH B4
   replace B6:=lH B6
   replace B7:=lH B7
   replace B10:=lH B10
   replace KB0:=lH KB0
   replace BS0:=lH BS0
   replace KS0:=lH KS0
   clear B9 EX
   go_upto_region 10 with fail
   obtain ⟨w9,hw9⟩:∃ w9,w9=((w7.setCell ⟨g9,0,none⟩ (.int .i64 ny.2.1)).setCell ⟨g9,1,none⟩ (.int .i64 ny.2.2.2)):=⟨_,rfl⟩
   rw [← hw9] at KB0 BS0 KS0 ⊢
   have B9:=BS0.out
   have EX:=KS0.out
   replace B4:=B4.out.nxb h49 KB0.out
   replace B6:=B6.out.nxb h69 KB0.out
   replace B7:=B7.out.nxb h79 KB0.out
   replace B10:=B10.out.nxb h10 KB0.out
   clear hw9 KB0 BS0 KS0 f0 f1 v0 v1
   clear u0 u2 q2 B7 B10
   have Y0:Hid (∀ wq,Ex w9 wq→wq.cell? ⟨g9,0,none⟩=some (.int .i64 ny.2.1)):=lH (fun wq kq=>(B9.nx kq).cell 0 _ rfl)
   have Y1:Hid (∀ wq,Ex w9 wq→wq.cell? ⟨g9,1,none⟩=some (.int .i64 ny.2.2.2)):=lH (fun wq kq=>(B9.nx kq).cell 1 _ rfl)
   have QI:Hid (∀ wq,Ex w9 wq→wq.cell? ⟨g4,0,none⟩=some (.int .i64 p.id)):=lH (fun wq kq=>(B4.nx kq).cell 0 _ rfl)
   have HS:=lH (H0.out.nx EX)
   have K:=lH EX
   replace B6:=lH B6
   clear B9 B4 EX
   refine wp_region_late_drew (S:=Ex w9) [13] (by kernel_rfl) ((Ex.refl w9).drew) (fun hHeld=>?_)
   obtain ⟨wd,hwdx⟩:∃ wd:World,wd=World.drew w9:=⟨_,rfl⟩
   rw [← hwdx] at hHeld ⊢
   have hDrew:Ex w9 wd:=by rw [hwdx];exact (Ex.refl w9).drew
   clear hwdx
   refine tkL 0 (v:=?_) rfl (by kernel_rfl) (fun _ _ _ h=>h) (by rfl) ?y5 hHeld ?_
   case y5=>intro wq hSw;go_simp<;>rfl
   refine tkL 1 (v:=?_) rfl (by kernel_rfl) (fun _ _ _ h=>h) (by rfl) ?y8 hHeld ?_
   case y8=>intro wq hSw;go_simp<;>rfl
   refine tkL 2 (v:=?_) rfl (by kernel_rfl) (fun _ _ _ h=>h) (by rfl) ?y11 hHeld ?_
   case y11=>intro wq hSw;(have cq:=Y0.out wq hSw;go_simp)<;>rfl
   refine tkL 3 (v:=?_) rfl (by kernel_rfl) (fun _ _ _ h=>h) (by rfl) ?y14 hHeld ?_
   case y14=>intro wq hSw;go_simp<;>rfl
   refine tkL 4 (v:=?_) rfl (by kernel_rfl) (fun _ _ _ h=>h) (by rfl) ?y17 hHeld ?_
   case y17=>intro wq hSw;(have cq:=QI.out wq hSw;go_simp)<;>rfl
   refine tkL 6 (v:=?_) rfl (by kernel_rfl) (fun _ _ _ h=>h) (by rfl) ?y20 hHeld ?_
   case y20=>intro wq hSw;go_simp<;>rfl
   refine tkL 7 (v:=?_) rfl (by kernel_rfl) (fun _ _ _ h=>h) (by rfl) ?y23 hHeld ?_
   case y23=>intro wq hSw;go_simp<;>rfl
   refine tkL 8 (v:=?_) rfl (by kernel_rfl) (fun _ _ _ h=>h) (by rfl) ?y26 hHeld ?_
   case y26=>intro wq hSw;(have cq:=Y1.out wq hSw;go_simp)<;>rfl
   refine tkL 9 (v:=?_) rfl (by kernel_rfl) (fun _ _ _ h=>h) (by rfl) ?y29 hHeld ?_
   case y29=>intro wq hSw;go_simp<;>rfl
   refine tkL 10 (v:=?_) rfl (by kernel_rfl) (fun _ _ _ h=>h) (by rfl) ?y32 hHeld ?_
   case y32=>intro wq hSw;(have cq:=QI.out wq hSw;go_simp)<;>rfl
   refine rL 5 (by kernel_rfl) rfl fun K hK=>?_
   go_simp
   (with_reducible refine (other_r _ _ _ N ny.2.1 p.id _ (HS.out.nx hHeld) hn).mono ?_)
   rintro e wb ⟨rfl,kk⟩
   replace hHeld:=hHeld.nx kk
   clear kk
   refine hK.out _ _ (hHeld) (fun hHeld=>?_)
   clear hK K
   refine rL 11 (by kernel_rfl) rfl fun K hK=>?_
   go_simp
   (with_reducible refine (other_r _ _ _ N ny.2.2.2 p.id _ (HS.out.nx hHeld) hn).mono ?_)
   rintro e wc ⟨rfl,kk⟩
   replace hHeld:=hHeld.nx kk
   clear kk
   have B6z:=B6.out.nx hHeld
   have f0:=B6z.free 0
   have f1:=B6z.free 1
   have r0:=B6z.cell 0 _ rfl
   have r1:=B6z.cell 1 _ rfl
   refine hK.out _ _ (hHeld) (fun hHeld=>?_)
   clear hK K
   refine tkL 12 (v:=?_) rfl (by kernel_rfl) (fun _ _ _ h=>h) (by rfl) ?y60 hHeld ?_
   case y60=>intro wq hSw;go_simp<;>rfl
   refine rLL 13 (by kernel_rfl) rfl (by rfl) fun K hK=>?_
   go_simp
   refine hK.out _ _ ?_
   clear hK K
   refine wpAnyL_done (by kernel_rfl) ?_ _
   have KE:=lH (((K.out.nx hHeld).setNew (p:=⟨g6,0,none⟩) (.int .i64 (otherN N ny.2.1 p.id)) zg6).setNew (p:=⟨g6,1,none⟩) (.int .i64 (otherN N ny.2.2.2 p.id)) zg6)
   clear hDrew hHeld B6z
   go_wp2_with fail
   refine bodyPost_ret (v:=.agg #[.int .i64 (otherN N ny.2.1 p.id),.int .i64 (otherN N ny.2.2.2 p.id)]) (by simp [results,Tryz.results140,go_sem, *]) rfl ⟨by rw [E0.out],KE.out⟩
  ·have E0:=lH (LX.out.2 hb)
   have db:(((bitN xw ((k:Int)-1):Nat):Int)==1)=false:=by simp;omega
   clear hb FWh LX
   go_upto_region 10 with fail
   clear q2 B7 B10
   have Y0:Hid (∀ wq,Ex w7 wq→wq.cell? ⟨g9,0,none⟩=some (.int .i64 ny.1)):=lH (fun wq kq=>(B9.nx kq).cell 0 _ rfl)
   have Y1:Hid (∀ wq,Ex w7 wq→wq.cell? ⟨g9,1,none⟩=some (.int .i64 ny.2.2.1)):=lH (fun wq kq=>(B9.nx kq).cell 1 _ rfl)
   have QI:Hid (∀ wq,Ex w7 wq→wq.cell? ⟨g4,0,none⟩=some (.int .i64 p.id)):=lH (fun wq kq=>(B4.nx kq).cell 0 _ rfl)
   have HS:=lH (H0.out.nx EX)
   have K:=lH EX
   replace B6:=lH B6
   clear B9 B4 EX
   refine wp_region_late_drew (S:=Ex w7) [13] (by kernel_rfl) ((Ex.refl w7).drew) (fun hHeld=>?_)
   obtain ⟨wd,hwdx⟩:∃ wd:World,wd=World.drew w7:=⟨_,rfl⟩
   rw [← hwdx] at hHeld ⊢
   have hDrew:Ex w7 wd:=by rw [hwdx];exact (Ex.refl w7).drew
   clear hwdx
   refine tkL 0 (v:=?_) rfl (by kernel_rfl) (fun _ _ _ h=>h) (by rfl) ?y5 hHeld ?_
   case y5=>intro wq hSw;go_simp<;>rfl
   refine tkL 1 (v:=?_) rfl (by kernel_rfl) (fun _ _ _ h=>h) (by rfl) ?y8 hHeld ?_
   case y8=>intro wq hSw;go_simp<;>rfl
   refine tkL 2 (v:=?_) rfl (by kernel_rfl) (fun _ _ _ h=>h) (by rfl) ?y11 hHeld ?_
   case y11=>intro wq hSw;(have cq:=Y0.out wq hSw;go_simp)<;>rfl
   refine tkL 3 (v:=?_) rfl (by kernel_rfl) (fun _ _ _ h=>h) (by rfl) ?y14 hHeld ?_
   case y14=>intro wq hSw;go_simp<;>rfl
   refine tkL 4 (v:=?_) rfl (by kernel_rfl) (fun _ _ _ h=>h) (by rfl) ?y17 hHeld ?_
   case y17=>intro wq hSw;(have cq:=QI.out wq hSw;go_simp)<;>rfl
   refine tkL 6 (v:=?_) rfl (by kernel_rfl) (fun _ _ _ h=>h) (by rfl) ?y20 hHeld ?_
   case y20=>intro wq hSw;go_simp<;>rfl
   refine tkL 7 (v:=?_) rfl (by kernel_rfl) (fun _ _ _ h=>h) (by rfl) ?y23 hHeld ?_
   case y23=>intro wq hSw;go_simp<;>rfl
   refine tkL 8 (v:=?_) rfl (by kernel_rfl) (fun _ _ _ h=>h) (by rfl) ?y26 hHeld ?_
   case y26=>intro wq hSw;(have cq:=Y1.out wq hSw;go_simp)<;>rfl
   refine tkL 9 (v:=?_) rfl (by kernel_rfl) (fun _ _ _ h=>h) (by rfl) ?y29 hHeld ?_
   case y29=>intro wq hSw;go_simp<;>rfl
   refine tkL 10 (v:=?_) rfl (by kernel_rfl) (fun _ _ _ h=>h) (by rfl) ?y32 hHeld ?_
   case y32=>intro wq hSw;(have cq:=QI.out wq hSw;go_simp)<;>rfl
   refine rL 5 (by kernel_rfl) rfl fun K hK=>?_
   go_simp
   (with_reducible refine (other_r _ _ _ N ny.1 p.id _ (HS.out.nx hHeld) hn).mono ?_)
   rintro e wb ⟨rfl,kk⟩
   replace hHeld:=hHeld.nx kk
   clear kk
   refine hK.out _ _ (hHeld) (fun hHeld=>?_)
   clear hK K
   refine rL 11 (by kernel_rfl) rfl fun K hK=>?_
   go_simp
   (with_reducible refine (other_r _ _ _ N ny.2.2.1 p.id _ (HS.out.nx hHeld) hn).mono ?_)
   rintro e wc ⟨rfl,kk⟩
   replace hHeld:=hHeld.nx kk
   clear kk
   have B6z:=B6.out.nx hHeld
   have f0:=B6z.free 0
   have f1:=B6z.free 1
   have r0:=B6z.cell 0 _ rfl
   have r1:=B6z.cell 1 _ rfl
   refine hK.out _ _ (hHeld) (fun hHeld=>?_)
   clear hK K
   refine tkL 12 (v:=?_) rfl (by kernel_rfl) (fun _ _ _ h=>h) (by rfl) ?y60 hHeld ?_
   case y60=>intro wq hSw;go_simp<;>rfl
   refine rLL 13 (by kernel_rfl) rfl (by rfl) fun K hK=>?_
   go_simp
   refine hK.out _ _ ?_
   clear hK K
   refine wpAnyL_done (by kernel_rfl) ?_ _
   have KE:=lH (((K.out.nx hHeld).setNew (p:=⟨g6,0,none⟩) (.int .i64 (otherN N ny.1 p.id)) zg6).setNew (p:=⟨g6,1,none⟩) (.int .i64 (otherN N ny.2.2.1 p.id)) zg6)
   clear hDrew hHeld B6z
   go_wp2_with fail
   refine bodyPost_ret (v:=.agg #[.int .i64 (otherN N ny.1 p.id),.int .i64 (otherN N ny.2.2.1 p.id)]) (by simp [results,Tryz.results140,go_sem, *]) rfl ⟨by rw [E0.out],KE.out⟩
theorem side_cases (N:List Nd) (nb:Int) (lev:Nat) (zero one:Int) :
  ((findN N nb).2=false→sideR N nb lev zero one=(0,0))∧((findN N nb).2=true→bitN (findN N nb).1.word lev=0→sideR N nb lev zero one=((findN N nb).1.id,one)) ∧
   ((findN N nb).2=true→¬ bitN (findN N nb).1.word lev=0→sideR N nb lev zero one=(zero,(findN N nb).1.id)):=by
 unfold sideR
 exact ⟨fun h=>by rw [if_neg (by rw [h];simp)],fun h hb=>by rw [if_pos h,if_pos hb],fun h hb=>by rw [if_pos h,if_neg hb]⟩
theorem litN4e {w0 u:World} (_:Ex w0 u) (a b c d:Int):∃ g v,g=u.heap.size∧v=u.alloc (.cells #[.int .i64 a,.int .i64 b,.int .i64 c,.int .i64 d] 69)∧Sl 4 encNr v (some ⟨g,0,none⟩) 1 [(a,b,c,d)]∧Ex u v :=
 ⟨_,_,rfl,rfl,Sl.lit [(a,b,c,d)] rfl rfl (fun _=>rfl) rfl,Ex.new _ _⟩
def SdCut (g:Nat) (a b c d:Int) (w wx:World):Prop:=Blk wx g [.int .i64 a,.int .i64 b,.int .i64 c,.int .i64 d] 69∧Ex w wx
def NyRel (F:Nat→Nr) (h β:Nat) (w2:World) (o i:Value) (wr:World):Prop :=
 ∃ j:Nat,j≤h∧i=.int .i64 j∧OwnL 4 encNr 69 β wr o ((List.range j).map F)∧Ex w2 wr
set_option maxRecDepth 100000 in
set_option maxHeartbeats 16000000 in
theorem next17_r (a:Option Addr) (n c:Nat) (N:List Nd) (a2:Option Addr) (n2 c2:Nat) (P:List Pr) (p:Pr) (a1:Option Addr) (n1 c1:Nat) (a3:Option Addr) (n3 c3 h:Nat) (w:World) (hs:Sl 3 encN w a n N) (hn:n≤1000) (hw:∀ x∈N,x.word<4294967296)
  (h2:PL w a2 n2 P) (hn2:n2≤1000000) (hP:SmallP P) (h3:Sl 4 encNr w a3 n3 p.near) (hn3:n3≤4000000000000000000) (hh:h≤16) :
  Calls Tryz.prog 86 #[.slice a n c,.slice a2 n2 c2,.agg #[.int .i64 p.id,.slice a1 n1 c1,.int .i64 p.left,.int .i64 p.right,.slice a3 n3 c3],.int .i64 h] w (NxPost (nextB N (peerN P) p h) w):=by
 have EX:=Ex.refl w
 have HW:=lH hw
 have HP:=lH hP
 have FF:Hid (∀ F,stepB N (peerN P) p=F→nextB N (peerN P) p h=(List.range h).map F):=lH (fun F hF=>by rw [← hF];rfl)
 have STP:Hid (∀ j:Nat,stepB N (peerN P) p j=stepB N (peerN P) p j):=lH (fun _=>rfl)
 clear hw hP STP
 obtain ⟨g6,hg6⟩:∃ g6,g6=w.heap.size:=⟨_,rfl⟩
 obtain ⟨w2,hw2⟩:∃ w2,w2=(w.alloc (.cells #[.int .i64 p.id,.slice a1 n1 c1,.int .i64 p.left,.int .i64 p.right,.slice a3 n3 c3] 36)):=⟨_,rfl⟩
 have kk:Ex w w2:=by rw [hw2];exact ((Ex.refl w).alloc (.cells #[.int .i64 p.id,.slice a1 n1 c1,.int .i64 p.left,.int .i64 p.right,.slice a3 n3 c3] 36))
 have B6:Blk w2 g6 [.int .i64 p.id,.slice a1 n1 c1,.int .i64 p.left,.int .i64 p.right,.slice a3 n3 c3] 36:=by rw [hw2];simp only [hg6];have hbk:=(Blk.new w [.int .i64 p.id,.slice a1 n1 c1,.int .i64 p.left,.int .i64 p.right,.slice a3 n3 c3] 36);simpa using hbk
 have Hw2:=lH hw2
 have Hg6:=lH hg6
 replace hs:=hs.nx kk
 replace h2:=h2.nx kk
 replace h3:=h3.nx kk
 replace EX:=EX.nx kk
 clear kk hw2 hg6
 go_enter Tryz.func86,Tryz.ntmps86
 go_upto_region 1 with fail
 rw [← Hw2.out,← Hg6.out]
 clear Hw2 Hg6
 have z2:=EX.size
 have H1:=lH hs
 have H2:=lH h2
 have H3:=lH h3
 have B6h:=lH B6
 have EX:=lH EX
 clear hs h2 h3 B6
 go_wp2_with fail
 go_loopw [9,10] (fun o i wr=>NyRel (stepB N (peerN P) p) h w2.heap.size w2 o i wr) (fun _ i _=>h-(intOf i).toNat)
 case atStart=>exact ⟨0,by omega,rfl,OwnL.nil _ _ _ _ _,Ex.refl _⟩
 case round =>
  obtain ⟨j,hj,rfl,own,ki⟩:=hrel
  obtain ⟨wi,rfl⟩:∃ wi:World,wi=wr:=⟨_,rfl⟩
  by_cases hjm:j<h
  ·have q0:=(B6h.out.nx ki).cell 0 _ rfl
   have q1:=(B6h.out.nx ki).cell 1 _ rfl
   have q2:=(B6h.out.nx ki).cell 2 _ rfl
   have q3:=(B6h.out.nx ki).cell 3 _ rfl
   have q4:=(B6h.out.nx ki).cell 4 _ rfl
   have hj16:j≤16:=by omega
   have hjh:(j:Int)<(h:Int):=by omega
   obtain ⟨LK,hLK⟩:∃ LK,LK=linkB N p j:=⟨_,rfl⟩
   have OL:=lH (other_link N p j)
   have KI:=lH ki
   have OWN:=lH own
   have RS:Hid ((List.range (j+1)).map (stepB N (peerN P) p)=(List.range j).map (stepB N (peerN P) p)++[stepB N (peerN P) p j]):=lH (by rw [List.range_succ,List.map_append];rfl)
   have hrl:((List.range j).map (stepB N (peerN P) p)).length=j:=by simp
   clear ki own
   go_wp2_with fail
   (with_reducible refine (link_r _ _ _ N p _ _ _ _ _ _ j _ (H1.out.nx KI.out) hn HW.out (H3.out.nx KI.out) hn3).mono ?_)
   rintro e w4 ⟨rfl,kk⟩
   replace OWN:=lH (OWN.out.nx kk)
   replace KI:=lH (KI.out.nx kk)
   clear kk q0 q1 q2 q3 q4
   rw [← hLK] at OL ⊢
   obtain ⟨lkl,lkr⟩:=LK
   simp only at OL
   have B11:=Blk.new w4 [.int .i64 lkl,.int .i64 lkr] 81
   have kk:=Ex.new w4 (.cells #[.int .i64 lkl,.int .i64 lkr] 81)
   obtain ⟨wj,hwj⟩:∃ wj,wj=w4.alloc (.cells #[.int .i64 lkl,.int .i64 lkr] 81):=⟨_,rfl⟩
   obtain ⟨g11,hg11⟩:∃ g11,g11=w4.heap.size:=⟨_,rfl⟩
   replace B11:Blk wj g11 [.int .i64 lkl,.int .i64 lkr] 81:=by rw [hwj,hg11];exact B11
   rw [← hwj] at kk
   have Hwj:=lH hwj
   have Hg11:=lH hg11
   replace OWN:=lH (OWN.out.nx kk)
   have KJ:=lH (KI.out.nx kk)
   clear kk hwj hg11
   go_upto_region 6 with fail
   rw [← Hg11.out,← Hwj.out]
   clear Hg11 Hwj
   have B11h:=lH B11
   clear B11
   have B12:=Blk.new wj [.int .i64 0,.int .i64 0,.int .i64 0,.int .i64 0] 69
   have kk:=Ex.new wj (.cells #[.int .i64 0,.int .i64 0,.int .i64 0,.int .i64 0] 69)
   obtain ⟨w6,hw6⟩:∃ w6,w6=wj.alloc (.cells #[.int .i64 0,.int .i64 0,.int .i64 0,.int .i64 0] 69):=⟨_,rfl⟩
   obtain ⟨g12,hg12⟩:∃ g12,g12=wj.heap.size:=⟨_,rfl⟩
   replace B12:Blk w6 g12 [.int .i64 0,.int .i64 0,.int .i64 0,.int .i64 0] 69:=by rw [hw6,hg12];exact B12
   rw [← hw6] at kk
   have Hw6:=lH hw6
   have Hg12:=lH hg12
   have zg12:wj.heap.size≤g12:=by omega
   have K6:=kk
   clear kk hw6 hg12
   go_upto_region 7 with fail
   rw [← Hg12.out,← Hw6.out]
   clear Hg12 Hw6
   obtain ⟨xol,hxol⟩:∃ x,nearAt (peerN P lkl) j=x:=⟨_,rfl⟩
   obtain ⟨xor,hxor⟩:∃ x,nearAt (peerN P lkr) j=x:=⟨_,rfl⟩
   have ST:=lH (step_of N (peerN P) p j hLK.symm hxol hxor)
   have HXOl:=lH hxol
   have HXOr:=lH hxor
   clear hLK hxol hxor
   have u0:=(B11h.out.nx K6).cell 0 _ rfl
   go_wp2_with fail
   (with_reducible refine (find_r _ _ _ N lkl _ (H1.out.nx (KJ.out.nx K6)) (by omega)).mono ?_)
   rintro e wfl ⟨rfl,kk⟩
   replace B12:=B12.nx kk
   have KF:=lH (K6.nx kk)
   clear kk u0
   have SD:=lH (side_cases N lkl j xol.1 xol.2.1)
   have FWD:=lH (fun h=>find_word HW.out lkl h)
   have FID:=lH (fun (h:(findN N lkl).2=true)=>(findN_mem h).2)
   generalize hsd:sideR N lkl j xol.1 xol.2.1=sdl at SD
   have HSDl:=lH hsd
   clear hsd
   obtain ⟨F,hF⟩:∃ F,F=findN N lkl:=⟨_,rfl⟩
   rw [← hF] at SD FWD FID ⊢
   clear hF
   obtain ⟨⟨xi,xk,xw⟩,ok⟩:=F
   have hl12:=B12.lt
   have B13:=Blk.new wfl [.int .i64 xi,.string xk,.int .u32 xw] 49
   have kk:=Ex.new wfl (.cells #[.int .i64 xi,.string xk,.int .u32 xw] 49)
   obtain ⟨wgl,hwgl⟩:∃ wgl,wgl=wfl.alloc (.cells #[.int .i64 xi,.string xk,.int .u32 xw] 49):=⟨_,rfl⟩
   obtain ⟨g13,hg13⟩:∃ g13,g13=wfl.heap.size:=⟨_,rfl⟩
   replace B13:Blk wgl g13 [.int .i64 xi,.string xk,.int .u32 xw] 49:=by rw [hwgl,hg13];exact B13
   rw [← hwgl] at kk
   have Hwgl:=lH hwgl
   have Hg13:=lH hg13
   replace B12:=B12.nx kk
   have KG:=lH (KF.out.nx kk)
   have n1312:¬ g13=g12:=by omega
   clear kk hwgl hg13 hl12
   simp only [Nd.val]
   go_upto_region 8 with fail
   rw [← Hg13.out,← Hwgl.out]
   clear Hg13 Hwgl
   go_upto_if 36 with fail
   go_cut [15] from 37 to 59 (fun _ wx=>SdCut g12 sdl.1 sdl.2 0 0 wj wx)
   case first =>
    cases ok with
    | false =>
     obtain ⟨sd0,_,_⟩:=SD.out
     have hz:=sd0 rfl
     have CUT:=lH (show SdCut g12 sdl.1 sdl.2 0 0 wj wgl from ⟨by rw [hz];exact B12,KG.out⟩)
     clear B12 B13 sd0 hz
     go_wp2_with fail
     go_meet
     exact CUT.out
    | true =>
     have hid:xi=lkl:=FID.out rfl
     subst hid
     have q0:=B13.cell 0 _ rfl
     go_wp2_with fail
     (with_reducible refine (peer_r _ _ _ P xi _ (H2.out.nx (KJ.out.nx KG.out)) hn2 HP.out).mono ?_)
     rintro e whl ⟨⟨A1,n1',c1'⟩,⟨A4,n4',c4'⟩,rfl,_,on,kk⟩
     replace B12:=B12.nx kk
     replace B13:=B13.nx kk
     have KH:=lH (KG.out.nx kk)
     have S4:Sl 4 encNr whl A4 n4' (peerN P xi).near:=by
      obtain ⟨_,_,e,r,_⟩:=on.rd (fun _=>rfl)
      injection e with h1 h2 h3
      subst h1 h2 h3
      exact r.mono (fun _ hk=>hk.2)
     simp only [Hdr.val]
     clear kk q0 on
     go_wp2_with fail
     (with_reducible refine (near17_r (peerN P xi) _ _ _ _ _ _ j xol HXOl.out _ S4).mono ?_)
     rintro e wnl ⟨rfl,kk⟩
     replace B12:=B12.nx kk
     replace B13:=B13.nx kk
     replace KH:=lH (KH.out.nx kk)
     clear kk S4
     have hl12:=B12.lt
     have B15:=Blk.new wnl [.int .i64 xol.1,.int .i64 xol.2.1,.int .i64 xol.2.2.1,.int .i64 xol.2.2.2] 69
     have kk:=Ex.new wnl (.cells #[.int .i64 xol.1,.int .i64 xol.2.1,.int .i64 xol.2.2.1,.int .i64 xol.2.2.2] 69)
     obtain ⟨wol,hwol⟩:∃ wol,wol=wnl.alloc (.cells #[.int .i64 xol.1,.int .i64 xol.2.1,.int .i64 xol.2.2.1,.int .i64 xol.2.2.2] 69):=⟨_,rfl⟩
     obtain ⟨g15,hg15⟩:∃ g15,g15=wnl.heap.size:=⟨_,rfl⟩
     replace B15:Blk wol g15 [.int .i64 xol.1,.int .i64 xol.2.1,.int .i64 xol.2.2.1,.int .i64 xol.2.2.2] 69:=by rw [hwol,hg15];exact B15
     rw [← hwol] at kk
     have Hwol:=lH hwol
     have Hg15:=lH hg15
     replace B12:=B12.nx kk
     replace B13:=B13.nx kk
     replace KH:=lH (KH.out.nx kk)
     have n1512:¬ g15=g12:=by omega
     clear kk hwol hg15 hl12
     go_upto_region 10 with fail
     rw [← Hg15.out,← Hwol.out]
     clear Hg15 Hwol
     have B12h:=lH B12
     have B13h:=lH B13
     have B15h:=lH B15
     clear B12 B13 B15
     refine wp_region_held_drew (S:=Exb g12 wol) (by kernel_rfl) ((Exb.refl g12 wol).drew) (fun hHeld=>?_)
     obtain ⟨wd,hwdx⟩:∃ wd:World,wd=World.drew wol:=⟨_,rfl⟩
     rw [← hwdx] at hHeld ⊢
     have hDrew:Ex wol wd:=by rw [hwdx];exact (Ex.refl wol).drew
     clear hwdx
     refine tkH 0 (v:=?_) rfl (by kernel_rfl) (fun _ _ _ h=>h) (by rfl) ?y5 hHeld ?_
     case y5=>intro wq hSw;go_simp<;>rfl
     refine tkH 1 (v:=?_) rfl (by kernel_rfl) (fun _ _ _ h=>h) (by rfl) ?y8 hHeld ?_
     case y8=>intro wq hSw;(have cq:=(B15h.out.nxb n1512 hSw).cell 0 _ rfl;go_simp)<;>rfl
     refine tkH 2 (v:=?_) rfl (by kernel_rfl) (fun _ _ _ h=>h) (by rfl) ?y11 hHeld ?_
     case y11=>intro wq hSw;go_simp<;>rfl
     refine tkH 3 (v:=?_) rfl (by kernel_rfl) (fun _ _ _ h=>h) (by rfl) ?y14 hHeld ?_
     case y14=>intro wq hSw;(have cq:=(B15h.out.nxb n1512 hSw).cell 1 _ rfl;go_simp)<;>rfl
     refine tkH 4 (v:=?_) rfl (by kernel_rfl) (fun _ _ _ h=>h) (by rfl) ?y17 hHeld ?_
     case y17=>intro wq hSw;go_simp<;>rfl
     refine rH 5 (by kernel_rfl) rfl fun K hK=>?_
     have BQ:=B12h.out.nx hDrew
     have KZ:=hDrew.b g12
     have cq:=BQ.cell 0 _ rfl
     have fq:=BQ.free 0
     go_simp
     clear cq fq
     replace KZ:=KZ.setB (p:=⟨g12,0,none⟩) (.int .i64 xol.1) rfl
     replace BQ:=BQ.set 0 (.int .i64 xol.1)
     refine hK.out _ _ (KZ) (fun hHeld=>?_)
     clear hK K
     refine tkH 6 (v:=?_) rfl (by kernel_rfl) (fun _ _ _ h=>h) (by rfl) ?y33 hHeld ?_
     case y33=>intro wq hSw;go_simp<;>rfl
     refine rH 7 (by kernel_rfl) rfl fun K hK=>?_
     have cq:=BQ.cell 1 _ rfl
     have fq:=BQ.free 1
     go_simp
     clear cq fq
     replace KZ:=KZ.setB (p:=⟨g12,1,none⟩) (.int .i64 xol.2.1) rfl
     replace BQ:=BQ.set 1 (.int .i64 xol.2.1)
     refine hK.out _ _ (KZ) (fun hHeld=>?_)
     clear hK K
     refine wpAnyH_done (by kernel_rfl) ?_ _
     obtain ⟨wpl,hwpl⟩:∃ wp,wp=(wd.setCell ⟨g12,0,none⟩ (.int .i64 xol.1)).setCell ⟨g12,1,none⟩ (.int .i64 xol.2.1):=⟨_,rfl⟩
     rw [← hwpl] at BQ KZ ⊢
     have B13:=B13h.out.nxb n1312 KZ
     have KP:=(Exl.nxb (b:=g12) (w:=wj) ⟨KH.out,zg12⟩ KZ).1
     have B12:Blk wpl g12 [.int .i64 xol.1,.int .i64 xol.2.1,.int .i64 0,.int .i64 0] 69:=BQ
     clear hwpl BQ KZ hHeld hDrew B12h B13h B15h
     obtain ⟨_,sd1,sd2⟩:=SD.out
     have FWh:=FWD.out trivial
     have q2:=B13.cell 2 _ rfl
     go_wp2_with fail
     refine (bit_r xw j _ FWh (by omega) (by omega)).mono ?_
     rintro e wbl ⟨rfl,hwb⟩
     subst hwb
     have q0:=B13.cell 0 _ rfl
     by_cases hb:bitN xw j=0
     ·have hz:=sd1 trivial hb
      have d1:(((bitN xw j:Nat):Int)==0)=true:=by rw [hb];rfl
      have f0:=B12.free 0
      have r0:=B12.cell 0 _ rfl
      have CUT:=lH (show SdCut g12 sdl.1 sdl.2 0 0 wj (wpl.setCell ⟨g12,0,none⟩ (.int .i64 xi)) from ⟨by rw [hz];exact B12.set 0 (.int .i64 xi),KP.setNew (p:=⟨g12,0,none⟩) _ zg12⟩)
      clear B12 B13 KP hz hb sd1 sd2 FWh
      go_wp2_with fail
      go_meet
      exact CUT.out
     ·have hz:=sd2 trivial hb
      have d1:(((bitN xw j:Nat):Int)==0)=false:=by simpa using hb
      have f0:=B12.free 1
      have r0:=B12.cell 1 _ rfl
      have CUT:=lH (show SdCut g12 sdl.1 sdl.2 0 0 wj (wpl.setCell ⟨g12,1,none⟩ (.int .i64 xi)) from ⟨by rw [hz];exact B12.set 1 (.int .i64 xi),KP.setNew (p:=⟨g12,1,none⟩) _ zg12⟩)
      clear B12 B13 KP hz hb sd1 sd2 FWh
      go_wp2_with fail
      go_meet
      exact CUT.out
   case rest =>
    rename World=>wxl
    obtain ⟨B12,k12⟩:=hcut
    have u0:=(B11h.out.nx k12).cell 1 _ rfl
    go_wp2_with fail
    (with_reducible refine (find_r _ _ _ N lkr _ (H1.out.nx (KJ.out.nx k12)) (by omega)).mono ?_)
    rintro e wfr ⟨rfl,kk⟩
    replace B12:=B12.nx kk
    have KF:=lH (k12.nx kk)
    clear kk u0
    have SD:=lH (side_cases N lkr j xor.2.2.1 xor.2.2.2)
    have FWD:=lH (fun h=>find_word HW.out lkr h)
    have FID:=lH (fun (h:(findN N lkr).2=true)=>(findN_mem h).2)
    generalize hsd:sideR N lkr j xor.2.2.1 xor.2.2.2=sdr at SD
    have HSDr:=lH hsd
    clear hsd
    obtain ⟨F,hF⟩:∃ F,F=findN N lkr:=⟨_,rfl⟩
    rw [← hF] at SD FWD FID ⊢
    clear hF
    obtain ⟨⟨xi,xk,xw⟩,ok⟩:=F
    have hl12:=B12.lt
    have B13:=Blk.new wfr [.int .i64 xi,.string xk,.int .u32 xw] 49
    have kk:=Ex.new wfr (.cells #[.int .i64 xi,.string xk,.int .u32 xw] 49)
    obtain ⟨wgr,hwgr⟩:∃ wgr,wgr=wfr.alloc (.cells #[.int .i64 xi,.string xk,.int .u32 xw] 49):=⟨_,rfl⟩
    obtain ⟨g13,hg13⟩:∃ g13,g13=wfr.heap.size:=⟨_,rfl⟩
    replace B13:Blk wgr g13 [.int .i64 xi,.string xk,.int .u32 xw] 49:=by rw [hwgr,hg13];exact B13
    rw [← hwgr] at kk
    have Hwgr:=lH hwgr
    have Hg13:=lH hg13
    replace B12:=B12.nx kk
    have KG:=lH (KF.out.nx kk)
    have n1312:¬ g13=g12:=by omega
    clear kk hwgr hg13 hl12
    simp only [Nd.val]
    go_upto_region 15 with fail
    rw [← Hg13.out,← Hwgr.out]
    clear Hg13 Hwgr
    go_upto_if 67 with fail
    go_cut [18] from 68 to 90 (fun _ wx=>SdCut g12 sdl.1 sdl.2 sdr.1 sdr.2 wj wx)
    case first =>
     cases ok with
     | false =>
      obtain ⟨sd0,_,_⟩:=SD.out
      have hz:=sd0 rfl
      have CUT:=lH (show SdCut g12 sdl.1 sdl.2 sdr.1 sdr.2 wj wgr from ⟨by rw [hz];exact B12,KG.out⟩)
      clear B12 B13 sd0 hz
      go_wp2_with fail
      go_meet
      exact CUT.out
     | true =>
      have hid:xi=lkr:=FID.out rfl
      subst hid
      have q0:=B13.cell 0 _ rfl
      go_wp2_with fail
      (with_reducible refine (peer_r _ _ _ P xi _ (H2.out.nx (KJ.out.nx KG.out)) hn2 HP.out).mono ?_)
      rintro e whr ⟨⟨A1,n1',c1'⟩,⟨A4,n4',c4'⟩,rfl,_,on,kk⟩
      replace B12:=B12.nx kk
      replace B13:=B13.nx kk
      have KH:=lH (KG.out.nx kk)
      have S4:Sl 4 encNr whr A4 n4' (peerN P xi).near:=by
       obtain ⟨_,_,e,r,_⟩:=on.rd (fun _=>rfl)
       injection e with h1 h2 h3
       subst h1 h2 h3
       exact r.mono (fun _ hk=>hk.2)
      simp only [Hdr.val]
      clear kk q0 on
      go_wp2_with fail
      (with_reducible refine (near17_r (peerN P xi) _ _ _ _ _ _ j xor HXOr.out _ S4).mono ?_)
      rintro e wnr ⟨rfl,kk⟩
      replace B12:=B12.nx kk
      replace B13:=B13.nx kk
      replace KH:=lH (KH.out.nx kk)
      clear kk S4
      have hl12:=B12.lt
      have B15:=Blk.new wnr [.int .i64 xor.1,.int .i64 xor.2.1,.int .i64 xor.2.2.1,.int .i64 xor.2.2.2] 69
      have kk:=Ex.new wnr (.cells #[.int .i64 xor.1,.int .i64 xor.2.1,.int .i64 xor.2.2.1,.int .i64 xor.2.2.2] 69)
      obtain ⟨wor,hwor⟩:∃ wor,wor=wnr.alloc (.cells #[.int .i64 xor.1,.int .i64 xor.2.1,.int .i64 xor.2.2.1,.int .i64 xor.2.2.2] 69):=⟨_,rfl⟩
      obtain ⟨g15,hg15⟩:∃ g15,g15=wnr.heap.size:=⟨_,rfl⟩
      replace B15:Blk wor g15 [.int .i64 xor.1,.int .i64 xor.2.1,.int .i64 xor.2.2.1,.int .i64 xor.2.2.2] 69:=by rw [hwor,hg15];exact B15
      rw [← hwor] at kk
      have Hwor:=lH hwor
      have Hg15:=lH hg15
      replace B12:=B12.nx kk
      replace B13:=B13.nx kk
      replace KH:=lH (KH.out.nx kk)
      have n1512:¬ g15=g12:=by omega
      clear kk hwor hg15 hl12
      go_upto_region 17 with fail
      rw [← Hg15.out,← Hwor.out]
      clear Hg15 Hwor
      have B12h:=lH B12
      have B13h:=lH B13
      have B15h:=lH B15
      clear B12 B13 B15
      refine wp_region_held_drew (S:=Exb g12 wor) (by kernel_rfl) ((Exb.refl g12 wor).drew) (fun hHeld=>?_)
      obtain ⟨wd,hwdx⟩:∃ wd:World,wd=World.drew wor:=⟨_,rfl⟩
      rw [← hwdx] at hHeld ⊢
      have hDrew:Ex wor wd:=by rw [hwdx];exact (Ex.refl wor).drew
      clear hwdx
      refine tkH 0 (v:=?_) rfl (by kernel_rfl) (fun _ _ _ h=>h) (by rfl) ?y5 hHeld ?_
      case y5=>intro wq hSw;go_simp<;>rfl
      refine tkH 1 (v:=?_) rfl (by kernel_rfl) (fun _ _ _ h=>h) (by rfl) ?y8 hHeld ?_
      case y8=>intro wq hSw;(have cq:=(B15h.out.nxb n1512 hSw).cell 2 _ rfl;go_simp)<;>rfl
      refine tkH 2 (v:=?_) rfl (by kernel_rfl) (fun _ _ _ h=>h) (by rfl) ?y11 hHeld ?_
      case y11=>intro wq hSw;go_simp<;>rfl
      refine tkH 3 (v:=?_) rfl (by kernel_rfl) (fun _ _ _ h=>h) (by rfl) ?y14 hHeld ?_
      case y14=>intro wq hSw;(have cq:=(B15h.out.nxb n1512 hSw).cell 3 _ rfl;go_simp)<;>rfl
      refine tkH 4 (v:=?_) rfl (by kernel_rfl) (fun _ _ _ h=>h) (by rfl) ?y17 hHeld ?_
      case y17=>intro wq hSw;go_simp<;>rfl
      refine rH 5 (by kernel_rfl) rfl fun K hK=>?_
      have BQ:=B12h.out.nx hDrew
      have KZ:=hDrew.b g12
      have cq:=BQ.cell 2 _ rfl
      have fq:=BQ.free 2
      go_simp
      clear cq fq
      replace KZ:=KZ.setB (p:=⟨g12,2,none⟩) (.int .i64 xor.2.2.1) rfl
      replace BQ:=BQ.set 2 (.int .i64 xor.2.2.1)
      refine hK.out _ _ (KZ) (fun hHeld=>?_)
      clear hK K
      refine tkH 6 (v:=?_) rfl (by kernel_rfl) (fun _ _ _ h=>h) (by rfl) ?y33 hHeld ?_
      case y33=>intro wq hSw;go_simp<;>rfl
      refine rH 7 (by kernel_rfl) rfl fun K hK=>?_
      have cq:=BQ.cell 3 _ rfl
      have fq:=BQ.free 3
      go_simp
      clear cq fq
      replace KZ:=KZ.setB (p:=⟨g12,3,none⟩) (.int .i64 xor.2.2.2) rfl
      replace BQ:=BQ.set 3 (.int .i64 xor.2.2.2)
      refine hK.out _ _ (KZ) (fun hHeld=>?_)
      clear hK K
      refine wpAnyH_done (by kernel_rfl) ?_ _
      obtain ⟨wpr,hwpr⟩:∃ wp,wp=(wd.setCell ⟨g12,2,none⟩ (.int .i64 xor.2.2.1)).setCell ⟨g12,3,none⟩ (.int .i64 xor.2.2.2):=⟨_,rfl⟩
      rw [← hwpr] at BQ KZ ⊢
      have B13:=B13h.out.nxb n1312 KZ
      have KP:=(Exl.nxb (b:=g12) (w:=wj) ⟨KH.out,zg12⟩ KZ).1
      have B12:Blk wpr g12 [.int .i64 sdl.1,.int .i64 sdl.2,.int .i64 xor.2.2.1,.int .i64 xor.2.2.2] 69:=BQ
      clear hwpr BQ KZ hHeld hDrew B12h B13h B15h
      obtain ⟨_,sd1,sd2⟩:=SD.out
      have FWh:=FWD.out trivial
      have q2:=B13.cell 2 _ rfl
      go_wp2_with fail
      refine (bit_r xw j _ FWh (by omega) (by omega)).mono ?_
      rintro e wbr ⟨rfl,hwb⟩
      subst hwb
      have q0:=B13.cell 0 _ rfl
      by_cases hb:bitN xw j=0
      ·have hz:=sd1 trivial hb
       have d1:(((bitN xw j:Nat):Int)==0)=true:=by rw [hb];rfl
       have f0:=B12.free 2
       have r0:=B12.cell 2 _ rfl
       have CUT:=lH (show SdCut g12 sdl.1 sdl.2 sdr.1 sdr.2 wj (wpr.setCell ⟨g12,2,none⟩ (.int .i64 xi)) from ⟨by rw [hz];exact B12.set 2 (.int .i64 xi),KP.setNew (p:=⟨g12,2,none⟩) _ zg12⟩)
       clear B12 B13 KP hz hb sd1 sd2 FWh
       go_wp2_with fail
       go_meet
       exact CUT.out
      ·have hz:=sd2 trivial hb
       have d1:(((bitN xw j:Nat):Int)==0)=false:=by simpa using hb
       have f0:=B12.free 3
       have r0:=B12.cell 3 _ rfl
       have CUT:=lH (show SdCut g12 sdl.1 sdl.2 sdr.1 sdr.2 wj (wpr.setCell ⟨g12,3,none⟩ (.int .i64 xi)) from ⟨by rw [hz];exact B12.set 3 (.int .i64 xi),KP.setNew (p:=⟨g12,3,none⟩) _ zg12⟩)
       clear B12 B13 KP hz hb sd1 sd2 FWh
       go_wp2_with fail
       go_meet
       exact CUT.out
    case rest =>
     rename World=>wxr
     obtain ⟨B12,k12⟩:=hcut
     go_upto_region 21 with fail
     obtain ⟨yA,hA⟩:∃ x,otherN N sdl.1 p.id=x:=⟨_,rfl⟩
     obtain ⟨yB,hB⟩:∃ x,otherN N sdl.2 p.id=x:=⟨_,rfl⟩
     obtain ⟨yC,hC⟩:∃ x,otherN N sdr.1 p.id=x:=⟨_,rfl⟩
     obtain ⟨yD,hD⟩:∃ x,otherN N sdr.2 p.id=x:=⟨_,rfl⟩
     have ES:Hid (stepB N (peerN P) p j=(yA,yB,yC,yD)):=lH (by
      have e1:=side_pair OL.out.1 j xol.1 xol.2.1
      have e2:=side_pair OL.out.2 j xor.2.2.1 xor.2.2.2
      rw [HSDl.out] at e1
      rw [HSDr.out] at e2
      refine ST.out.trans ?_
      show ((pairB N p.id lkl j xol.1 xol.2.1).1,(pairB N p.id lkl j xol.1 xol.2.1).2,(pairB N p.id lkr j xor.2.2.1 xor.2.2.2).1,(pairB N p.id lkr j xor.2.2.1 xor.2.2.2).2)=(yA,yB,yC,yD)
      rw [← e1,← e2,hA,hB,hC,hD])
     have HA:=lH hA
     have HB:=lH hB
     have HC:=lH hC
     have HD:=lH hD
     have B12h:=lH B12
     have KX:=lH (KJ.out.nx k12)
     have OWX:=lH (OWN.out.nx k12)
     have zx:=KX.out.size
     rw [ES.out] at RS
     generalize (List.range j).map (stepB N (peerN P) p)=row at OWX RS hrl
     clear hA hB hC hD B12 k12 ST OWN
     refine wp_region_late_drew (S:=Ex wxr) [27] (by kernel_rfl) ((Ex.refl wxr).drew) (fun hHeld=>?_)
     obtain ⟨wd,hwdx⟩:∃ wd:World,wd=World.drew wxr:=⟨_,rfl⟩
     rw [← hwdx] at hHeld ⊢
     have hDrew:Ex wxr wd:=by rw [hwdx];exact (Ex.refl wxr).drew
     clear hwdx
     refine tkL 0 (v:=?_) rfl (by kernel_rfl) (fun _ _ _ h=>h) (by rfl) ?y5 hHeld ?_
     case y5=>intro wq hSw;go_simp<;>rfl
     refine tkL 1 (v:=?_) rfl (by kernel_rfl) (fun _ _ _ h=>h) (by rfl) ?y8 hHeld ?_
     case y8=>intro wq hSw;go_simp<;>rfl
     refine tkL 2 (v:=?_) rfl (by kernel_rfl) (fun _ _ _ h=>h) (by rfl) ?y11 hHeld ?_
     case y11=>intro wq hSw;go_simp<;>rfl
     refine tkL 3 (v:=?_) rfl (by kernel_rfl) (fun _ _ _ h=>h) (by rfl) ?y14 hHeld ?_
     case y14=>intro wq hSw;(have cq:=(B12h.out.nx hSw).cell 0 _ rfl;go_simp)<;>rfl
     refine tkL 4 (v:=?_) rfl (by kernel_rfl) (fun _ _ _ h=>h) (by rfl) ?y17 hHeld ?_
     case y17=>intro wq hSw;go_simp<;>rfl
     refine tkL 5 (v:=?_) rfl (by kernel_rfl) (fun _ _ _ h=>h) (by rfl) ?y20 hHeld ?_
     case y20=>intro wq hSw;(have cq:=(B6h.out.nx (KX.out.nx hSw)).cell 0 _ rfl;go_simp)<;>rfl
     refine tkL 7 (v:=?_) rfl (by kernel_rfl) (fun _ _ _ h=>h) (by rfl) ?y23 hHeld ?_
     case y23=>intro wq hSw;go_simp<;>rfl
     refine tkL 8 (v:=?_) rfl (by kernel_rfl) (fun _ _ _ h=>h) (by rfl) ?y26 hHeld ?_
     case y26=>intro wq hSw;go_simp<;>rfl
     refine tkL 9 (v:=?_) rfl (by kernel_rfl) (fun _ _ _ h=>h) (by rfl) ?y29 hHeld ?_
     case y29=>intro wq hSw;(have cq:=(B12h.out.nx hSw).cell 1 _ rfl;go_simp)<;>rfl
     refine tkL 10 (v:=?_) rfl (by kernel_rfl) (fun _ _ _ h=>h) (by rfl) ?y32 hHeld ?_
     case y32=>intro wq hSw;go_simp<;>rfl
     refine tkL 11 (v:=?_) rfl (by kernel_rfl) (fun _ _ _ h=>h) (by rfl) ?y35 hHeld ?_
     case y35=>intro wq hSw;(have cq:=(B6h.out.nx (KX.out.nx hSw)).cell 0 _ rfl;go_simp)<;>rfl
     refine tkL 13 (v:=?_) rfl (by kernel_rfl) (fun _ _ _ h=>h) (by rfl) ?y38 hHeld ?_
     case y38=>intro wq hSw;go_simp<;>rfl
     refine tkL 14 (v:=?_) rfl (by kernel_rfl) (fun _ _ _ h=>h) (by rfl) ?y41 hHeld ?_
     case y41=>intro wq hSw;go_simp<;>rfl
     refine tkL 15 (v:=?_) rfl (by kernel_rfl) (fun _ _ _ h=>h) (by rfl) ?y44 hHeld ?_
     case y44=>intro wq hSw;(have cq:=(B12h.out.nx hSw).cell 2 _ rfl;go_simp)<;>rfl
     refine tkL 16 (v:=?_) rfl (by kernel_rfl) (fun _ _ _ h=>h) (by rfl) ?y47 hHeld ?_
     case y47=>intro wq hSw;go_simp<;>rfl
     refine tkL 17 (v:=?_) rfl (by kernel_rfl) (fun _ _ _ h=>h) (by rfl) ?y50 hHeld ?_
     case y50=>intro wq hSw;(have cq:=(B6h.out.nx (KX.out.nx hSw)).cell 0 _ rfl;go_simp)<;>rfl
     refine tkL 19 (v:=?_) rfl (by kernel_rfl) (fun _ _ _ h=>h) (by rfl) ?y53 hHeld ?_
     case y53=>intro wq hSw;go_simp<;>rfl
     refine tkL 20 (v:=?_) rfl (by kernel_rfl) (fun _ _ _ h=>h) (by rfl) ?y56 hHeld ?_
     case y56=>intro wq hSw;go_simp<;>rfl
     refine tkL 21 (v:=?_) rfl (by kernel_rfl) (fun _ _ _ h=>h) (by rfl) ?y59 hHeld ?_
     case y59=>intro wq hSw;(have cq:=(B12h.out.nx hSw).cell 3 _ rfl;go_simp)<;>rfl
     refine tkL 22 (v:=?_) rfl (by kernel_rfl) (fun _ _ _ h=>h) (by rfl) ?y62 hHeld ?_
     case y62=>intro wq hSw;go_simp<;>rfl
     refine tkL 23 (v:=?_) rfl (by kernel_rfl) (fun _ _ _ h=>h) (by rfl) ?y65 hHeld ?_
     case y65=>intro wq hSw;(have cq:=(B6h.out.nx (KX.out.nx hSw)).cell 0 _ rfl;go_simp)<;>rfl
     refine rL 6 (by kernel_rfl) rfl fun K hK=>?_
     go_simp
     (with_reducible refine (other_r _ _ _ N sdl.1 p.id _ (H1.out.nx (KX.out.nx hHeld)) hn).mono ?_)
     rintro e wz ⟨rfl,kk⟩
     rw [HA.out]
     replace hHeld:=hHeld.nx kk
     clear kk
     refine hK.out _ _ (hHeld) (fun hHeld=>?_)
     clear hK K
     refine rL 12 (by kernel_rfl) rfl fun K hK=>?_
     go_simp
     (with_reducible refine (other_r _ _ _ N sdl.2 p.id _ (H1.out.nx (KX.out.nx hHeld)) hn).mono ?_)
     rintro e wz ⟨rfl,kk⟩
     rw [HB.out]
     replace hHeld:=hHeld.nx kk
     clear kk
     refine hK.out _ _ (hHeld) (fun hHeld=>?_)
     clear hK K
     refine rL 18 (by kernel_rfl) rfl fun K hK=>?_
     go_simp
     (with_reducible refine (other_r _ _ _ N sdr.1 p.id _ (H1.out.nx (KX.out.nx hHeld)) hn).mono ?_)
     rintro e wz ⟨rfl,kk⟩
     rw [HC.out]
     replace hHeld:=hHeld.nx kk
     clear kk
     refine hK.out _ _ (hHeld) (fun hHeld=>?_)
     clear hK K
     refine rL 24 (by kernel_rfl) rfl fun K hK=>?_
     go_simp
     (with_reducible refine (other_r _ _ _ N sdr.2 p.id _ (H1.out.nx (KX.out.nx hHeld)) hn).mono ?_)
     rintro e wz ⟨rfl,kk⟩
     rw [HD.out]
     replace hHeld:=hHeld.nx kk
     clear kk
     refine hK.out _ _ (hHeld) (fun hHeld=>?_)
     clear hK K
     refine tkL 25 (v:=?_) rfl (by kernel_rfl) (fun _ _ _ h=>h) (by rfl) ?y112 hHeld ?_
     case y112=>intro wq hSw;go_simp<;>rfl
     refine rL 26 (by kernel_rfl) rfl fun K hK=>?_
     go_simp
     obtain ⟨g8,wz,hg8,hwz,SX,kk⟩:=litN4e hHeld yA yB yC yD
     rw [← hg8,← hwz]
     replace hHeld:=hHeld.nx kk
     clear hg8 hwz kk
     refine hK.out _ _ (hHeld) (fun hHeld=>?_)
     clear hK K
     refine rLL 27 (by kernel_rfl) rfl (by rfl) fun K hK=>?_
     rw [if_pos (by rfl)]
     have own4:=OWX.out.nx hHeld
     have zq:=Nat.le_trans zx hHeld.size
     refine wp_append_rd (enc:=encNr) _ (.tmp 91) (.tmp 117) 34 rfl w2.heap.size 69 (.agg #[.int .i64 0,.int .i64 0,.int .i64 0,.int .i64 0]) 4 32 Tryz.underlying34 Tryz.infoNr rfl (by omega) (by omega) _ row own4 rfl _ _ 1 1 [(yA,yB,yC,yD)] SX (fun h=>by cases h) (fun _=>rfl) (by simp [encNr,Value.oneCell']) rfl (by omega) (by omega) zq ?_
     intro v9 wz own9 ch0 ch1
     refine hK.out _ _ ?_
     clear hK K
     refine wpAnyL_takeP (i:=28) (oi:=⟨_,_,_,_,_,_⟩) (v:=?_) rfl (by kernel_rfl) (by kernel_rfl) (by kernel_rfl) (fun _ _ _ h=>h) (Or.inl ⟨by rfl,?y135⟩) ?_
     case y135=>intro wq hSw;go_simp<;>rfl
     refine wpAnyL_done (by kernel_rfl) ?_ _
     have KF:=lH (Chg.trans (KX.out.nx hHeld) ch1)
     have RR:=lH (show OwnL 4 encNr 69 w2.heap.size wz v9 ((List.range (j+1)).map (stepB N (peerN P) p)) from by rw [RS.out];exact own9)
     clear own9 ch0 ch1 hHeld hDrew SX
     go_wp2_with fail
     exact ⟨⟨j+1,by omega,by go_num,RR.out,KF.out⟩,by simp [intOf];omega⟩
  ·obtain rfl:j=h:=by omega
   have FO:=lH (own.base z2)
   have FE:=lH (EX.out.nx ki)
   have FH:=lH (FF.out _ rfl)
   clear own ki hj hjm
   go_wp2_with fail
   go_ret
   exact ⟨_,rfl,by rw [FH.out];exact FO.out,FE.out⟩
end Go.Proofs.YtalmjklljofhbaaGreatDoor
