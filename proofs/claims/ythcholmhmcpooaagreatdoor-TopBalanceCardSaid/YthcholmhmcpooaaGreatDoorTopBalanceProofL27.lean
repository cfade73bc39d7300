/- Texts for TopBalanceProof. -/
import Derived.Test.YthcholmhmcpooaaGreatDoorTopBalanceProofL24
set_option linter.unusedSimpArgs false
set_option linter.unusedVariables false

namespace Go.Proofs.YthcholmhmcpooaaGreatDoor
open Go.RowKit
def BvRel (n:Nat) (w:World) (i:Value) (wr:World):Prop:=∃ k:Nat,k≤n∧i=.int .i64 k∧Ex w wr
abbrev natI (x:Nat):Int:=(x:Int)
set_option maxHeartbeats 4000000 in
theorem bvalid_p (a:Option Addr) (n c:Nat) (l:List Nat) (w:World) (h:Sl 1 encI w a n (l.map natI)) (hn:n≤64) (hb:∀ x∈l,x≤1024) :
  Calls Tryz.prog 117 #[.slice a n c] w fun e w'=>e=.returned (.bool true)∧Ex w w':=by
 have HS:=lH h
 have HB:=lH hb
 clear h hb
 go_enter Tryz.func117,Tryz.ntmps117
 go_wp2_with fail
 go_loopw [10] (fun i wr=>BvRel n w i wr) (fun i _=>n-(intOf i).toNat)
 case atStart=>exact ⟨0,by omega,rfl,Ex.refl _⟩
 case round =>
  obtain ⟨k,hk,rfl,kw⟩:=hrel
  obtain ⟨wi,rfl⟩:∃ wi:World,wi=wr:=⟨_,rfl⟩
  have KW:=lH kw
  by_cases hkn:k<n
  ·obtain ⟨x,o,y,rfl,hx,hy,hcc⟩:=(HS.out.nx kw).at hkn
   rw [List.getElem?_map] at hy
   obtain ⟨z,hz,rfl⟩:=Option.map_eq_some_iff.1 hy
   have hzb:=HB.out z (List.mem_of_getElem? hz)
   have e0:wi.cell? ⟨x,o+k,none⟩=some (.int .i64 (z:Int)):=by have:=hcc 0 _ rfl;simpa using this
   have d0:¬ (z:Int)<0:=by omega
   have d1:¬ (z:Int)>1024:=by omega
   clear hcc hy hz kw
   go_wp2_with fail
   exact ⟨⟨k+1,by omega,by go_num,KW.out⟩,by simp [intOf];omega⟩
  ·obtain rfl:k=n:=by omega
   clear kw
   go_wp2_with fail
   go_ret
   exact ⟨rfl,KW.out⟩
def stepV (l:List Nat):Value :=
 match stepBl l with
 | some (k,f,t,b,c)=>.tuple #[.agg #[.int .i64 k,.int .i64 f,.int .i64 t,.int .i64 b,.int .i64 c],.bool true]
 | none=>.tuple #[.agg #[.int .i64 0,.int .i64 0,.int .i64 0,.int .i64 0,.int .i64 0],.bool false]
def BsRel (l:List Nat) (w:World) (i:Value) (wr:World):Prop:=∃ k:Nat,(k=0∨k+1≤l.length)∧i=.int .i64 k∧(∀ i,i<k→bigB (gB l i) (gB l (i+1))=false)∧Ex w wr
def BmRel (l:List Nat) (w:World) (m q i:Value) (wr:World):Prop:=∃ k:Nat,k≤l.length∧i=.int .i64 k∧m=.int .i64 (mostN l k:Int)∧q=.int .i64 (leastN l k:Int)∧Ex w wr
theorem mostN_le (l:List Nat) (k:Nat):mostN l k≤k:=by cases k with | zero=>exact Nat.le_refl _ | succ k=>have:=mostN_lt l k;omega
theorem leastN_le (l:List Nat) (k:Nat):leastN l k≤k:=by cases k with | zero=>exact Nat.le_refl _ | succ k=>have:=leastN_lt l k;omega
theorem gB_at {l:List Nat} {i x:Nat} (h:l[i]?=some x):gB l i=x:=by unfold gB;rw [h];rfl
theorem Sl.ld {w:World} {a:Option Addr} {n:Nat} {l:List Nat} (h:Sl 1 encI w a n (l.map natI)) {k:Nat} (hk:k<n):∃ x o,a=some ⟨x,o,none⟩∧w.cell? ⟨x,o+k,none⟩=some (.int .i64 (gB l k:Int)):=by
 obtain ⟨x,o,y,e,hx,hy,hcc⟩:=h.at hk
 rw [List.getElem?_map] at hy
 obtain ⟨z,hz,rfl⟩:=Option.map_eq_some_iff.1 hy
 rw [gB_at hz]
 exact ⟨x,o,e,by have:=hcc 0 _ rfl;simpa using this⟩
theorem gB_le {l:List Nat} (hb:∀ x∈l,x≤1024) (i:Nat):gB l i≤1024:=by
 unfold gB
 cases h:l[i]? with
 | none=>simp
 | some x=>exact hb x (List.mem_of_getElem? h)
set_option maxRecDepth 100000 in
set_option maxHeartbeats 8000000 in
theorem step_p (a:Option Addr) (n c:Nat) (l:List Nat) (w:World) (h:Sl 1 encI w a n (l.map natI)) (hn:n≤64) (hb:∀ x∈l,x≤1024) :
  Calls Tryz.prog 46 #[.slice a n c] w fun e w'=>e=.returned (stepV l)∧Ex w w':=by
 have hl:l.length=n:=by have:=h.len;simpa using this
 have HS:=lH h
 have HB:=lH hb
 clear h hb
 have B2:=Blk.new w [.int .i64 0,.int .i64 0,.int .i64 0,.int .i64 0,.int .i64 0] 93
 have kk:=Ex.new w (.cells #[.int .i64 0,.int .i64 0,.int .i64 0,.int .i64 0,.int .i64 0] 93)
 obtain ⟨w1,hw1⟩:∃ w1,w1=w.alloc (.cells #[.int .i64 0,.int .i64 0,.int .i64 0,.int .i64 0,.int .i64 0] 93):=⟨_,rfl⟩
 obtain ⟨g2,hg2⟩:∃ g2,g2=w.heap.size:=⟨_,rfl⟩
 replace B2:Blk w1 g2 [.int .i64 0,.int .i64 0,.int .i64 0,.int .i64 0,.int .i64 0] 93:=by rw [hw1,hg2];exact B2
 rw [← hw1] at kk
 have Hw1:=lH hw1
 have Hg2:=lH hg2
 have B2H:=lH B2
 have K1:=lH kk
 have zg2:w.heap.size≤g2:=by omega
 have ZG:=lH zg2
 clear kk hw1 hg2 B2 zg2
 go_enter Tryz.func46,Tryz.ntmps46
 go_upto_region 1 with fail
 rw [← Hg2.out,← Hw1.out]
 clear Hg2 Hw1
 go_wp2_with fail
 (with_reducible refine (bvalid_p a n c l _ (HS.out.nx K1.out) hn HB.out).mono ?_)
 rintro e w2 ⟨rfl,kk⟩
 have K2:=lH kk
 clear kk
 go_wp2_with fail
 go_loopw [4] (fun i wr=>BsRel l w2 i wr) (fun i _=>n-(intOf i).toNat)
 case atStart=>exact ⟨0,.inl rfl,rfl,fun i hi=>absurd hi (by omega),Ex.refl _⟩
 case round =>
  obtain ⟨k,hk,rfl,hno,kw⟩:=hrel
  obtain ⟨wi,rfl⟩:∃ wi:World,wi=wr:=⟨_,rfl⟩
  have KW:=lH kw
  have KA:=lH (K2.out.nx kw)
  have HNO:=lH hno
  have wk:IntKind.i64.wrap ((k:Int)+1)=(k:Int)+1:=IntWalk.i64_in _ (by omega)
  clear kw hno
  by_cases hkn:k+1<n
  ·have dk:(k:Int)+1<(n:Int):=by omega
   obtain ⟨x,o,rfl,e0⟩:=(HS.out.nx (K1.out.nx KA.out)).ld (show k<n by omega)
   obtain ⟨x',o',ee,e1⟩:=(HS.out.nx (K1.out.nx KA.out)).ld hkn
   cases ee
   have hA:=gB_le HB.out k
   have hC:=gB_le HB.out (k+1)
   obtain ⟨A,hAe⟩:∃ A,A=gB l k:=⟨_,rfl⟩
   obtain ⟨C,hCe⟩:∃ C,C=gB l (k+1):=⟨_,rfl⟩
   rw [← hAe] at e0 hA
   rw [← hCe] at e1 hC
   have HAE:=lH hAe
   have HCE:=lH hCe
   clear hAe hCe hk
   go_wp2_with fail
   go_quiet (fail)
   obtain ⟨wd,hwd⟩:∃ wd,wd=wi.drewN nq:=⟨_,rfl⟩
   rw [← hwd]
   have KD:=lH (show Ex wi wd from by rw [hwd];exact (Ex.refl wi).drewN _)
   clear hwd e0 e1
   by_cases hlt:A<C
   ·have hM:max (A:Int) (C:Int)=C:=by omega
    have hm:min (A:Int) (C:Int)=A:=by omega
    by_cases hbig:C≤2*A+4
    ·have d1:(C:Int)≤2*A+4:=by omega
     have RR:=lH (show BsRel l w2 (.int .i64 ((k:Int)+1)) wd from ⟨k+1,.inr (by omega),by go_num,fun i hi=>by
      rcases Nat.lt_or_ge i k with h1 | h1
      ·exact HNO.out i h1
      ·obtain rfl:i=k:=by omega
       unfold bigB
       rw [← HAE.out,← HCE.out]
       simp;omega,KW.out.nx KD.out⟩)
     go_wp2_with fail
     exact ⟨RR.out,by simp [intOf];omega⟩
    ·have d1:¬ (C:Int)≤2*A+4:=by omega
     have hq:Int.tdiv ((C:Int)-A) 2=(((C-A) / 2:Nat):Int):=by rw [show (C:Int)-A=((C-A:Nat):Int) by omega];exact Int.ofNat_tdiv _ 2▸rfl
     have hqw:IntKind.i64.wrap (((C-A) / 2:Nat):Int)=(((C-A) / 2:Nat):Int):=IntWalk.i64_in _ (by omega)
     have SV:Hid (stepV l=.tuple #[.agg #[.int .i64 1,.int .i64 ((k:Int)+1),.int .i64 k,.int .i64 0,.int .i64 (((C-A) / 2:Nat):Int)],.bool true]):=lH (by
      unfold stepV stepBl
      rw [shiftI_first (k:=k) (by omega) (by unfold bigB;rw [← HAE.out,← HCE.out];simp;omega) HNO.out]
      simp only
      rw [← HAE.out,← HCE.out,if_pos hlt,if_pos hlt,Nat.max_eq_right (by omega),Nat.min_eq_left (by omega)]
      simp)
     obtain ⟨cnt,hcnt⟩:∃ cnt,cnt=(C-A) / 2:=⟨_,rfl⟩
     rw [← hcnt] at hq hqw SV
     clear hcnt
     have B7:=Blk.new wd [.int .i64 1,.int .i64 k,.int .i64 ((k:Int)+1),.int .i64 0,.int .i64 (cnt:Int)] 93
     have kk:=Ex.new wd (.cells #[.int .i64 1,.int .i64 k,.int .i64 ((k:Int)+1),.int .i64 0,.int .i64 (cnt:Int)] 93)
     obtain ⟨w3,hw3⟩:∃ w3,w3=wd.alloc (.cells #[.int .i64 1,.int .i64 k,.int .i64 ((k:Int)+1),.int .i64 0,.int .i64 (cnt:Int)] 93):=⟨_,rfl⟩
     obtain ⟨g7,hg7⟩:∃ g7,g7=wd.heap.size:=⟨_,rfl⟩
     replace B7:Blk w3 g7 [.int .i64 1,.int .i64 k,.int .i64 ((k:Int)+1),.int .i64 0,.int .i64 (cnt:Int)] 93:=by rw [hw3,hg7];exact B7
     rw [← hw3] at kk
     have Hw3:=lH hw3
     have Hg7:=lH hg7
     have K3:=lH kk
     have z7:wd.heap.size≤g7:=by omega
     have b2:=(B2H.out.nx (KA.out.nx KD.out)).lt
     have hne:¬ g2=g7:=by omega
     have h7w:w.heap.size≤g7:=by have:=(K1.out.nx (KA.out.nx KD.out)).size;omega
     clear kk hw3 hg7 b2
     go_upto_region 9 with fail
     rw [← Hg7.out,← Hw3.out]
     clear Hg7 Hw3
     have f1:=B7.free 1
     have f2:=B7.free 2
     have r1:=B7.cell 1 _ rfl
     have r2:=B7.cell 2 _ rfl
     have d2:(C:Int)>A:=by omega
     go_upto_region 11 with fail
     obtain ⟨w4,hw4⟩:∃ w4,w4=(w3.setCell ⟨g7,1,none⟩ (.int .i64 ((k:Int)+1))).setCell ⟨g7,2,none⟩ (.int .i64 (k:Int)):=⟨_,rfl⟩
     rw [← hw4]
     have BY:Blk w4 g7 [.int .i64 1,.int .i64 ((k:Int)+1),.int .i64 k,.int .i64 0,.int .i64 (cnt:Int)] 93:=by rw [hw4];exact (B7.set 1 _).set 2 _
     have KX:=lH (show Ex w w4 from by rw [hw4];exact ((K1.out.nx (KA.out.nx (KD.out.nx K3.out))).setNew (p:=⟨g7,1,none⟩) _ h7w).setNew (p:=⟨g7,2,none⟩) _ h7w)
     have B2X:Blk w4 g2 [.int .i64 0,.int .i64 0,.int .i64 0,.int .i64 0,.int .i64 0] 93:=by
      rw [hw4]
      exact ((B2H.out.nx (KA.out.nx (KD.out.nx K3.out))).chg ((Chg.refl (·≠g7) _).setCell (p:=⟨g7,1,none⟩) _ (fun _ hx=>hx)) hne).chg ((Chg.refl (·≠g7) _).setCell (p:=⟨g7,2,none⟩) _ (fun _ hx=>hx)) hne
     clear hw4 f1 f2 r1 r2 B7
     have p0:=B2X.cell 0 _ rfl
     have p1:=B2X.cell 1 _ rfl
     have p2:=B2X.cell 2 _ rfl
     have p3:=B2X.cell 3 _ rfl
     have p4:=B2X.cell 4 _ rfl
     have t0:=B2X.free 0
     have t1:=B2X.free 1
     have t2:=B2X.free 2
     have t3:=B2X.free 3
     have t4:=B2X.free 4
     have q0:=BY.cell 0 _ rfl
     have q1:=BY.cell 1 _ rfl
     have q2:=BY.cell 2 _ rfl
     have q3:=BY.cell 3 _ rfl
     have q4:=BY.cell 4 _ rfl
     have KE:Hid (∀ v0 v1 v2 v3 v4,Ex w (((((w4.setCell ⟨g2,0,none⟩ v0).setCell ⟨g2,1,none⟩ v1).setCell ⟨g2,2,none⟩ v2).setCell ⟨g2,3,none⟩ v3).setCell ⟨g2,4,none⟩ v4)):=lH (fun v0 v1 v2 v3 v4=>((((KX.out.setNew (p:=⟨g2,0,none⟩) _ ZG.out).setNew (p:=⟨g2,1,none⟩) _ ZG.out).setNew (p:=⟨g2,2,none⟩) _ ZG.out).setNew (p:=⟨g2,3,none⟩) _ ZG.out).setNew (p:=⟨g2,4,none⟩) _ ZG.out)
     have hlt2:=B2X.lt
     clear B2X BY
     go_wp2_with fail
     refine bodyPost_ret (v:=.tuple #[.agg #[.int .i64 1,.int .i64 ((k:Int)+1),.int .i64 k,.int .i64 0,.int .i64 (cnt:Int)],.bool true]) (by simp [results,Tryz.results46,go_sem, *]) rfl ⟨SV.out.symm▸rfl,KE.out _ _ _ _ _⟩
   ·have hM:max (A:Int) (C:Int)=A:=by omega
    have hm:min (A:Int) (C:Int)=C:=by omega
    by_cases hbig:A≤2*C+4
    ·have d1:(A:Int)≤2*C+4:=by omega
     have RR:=lH (show BsRel l w2 (.int .i64 ((k:Int)+1)) wd from ⟨k+1,.inr (by omega),by go_num,fun i hi=>by
      rcases Nat.lt_or_ge i k with h1 | h1
      ·exact HNO.out i h1
      ·obtain rfl:i=k:=by omega
       unfold bigB
       rw [← HAE.out,← HCE.out]
       simp;omega,KW.out.nx KD.out⟩)
     go_wp2_with fail
     exact ⟨RR.out,by simp [intOf];omega⟩
    ·have d1:¬ (A:Int)≤2*C+4:=by omega
     have hq:Int.tdiv ((A:Int)-C) 2=(((A-C) / 2:Nat):Int):=by rw [show (A:Int)-C=((A-C:Nat):Int) by omega];exact Int.ofNat_tdiv _ 2▸rfl
     have hqw:IntKind.i64.wrap (((A-C) / 2:Nat):Int)=(((A-C) / 2:Nat):Int):=IntWalk.i64_in _ (by omega)
     have SV:Hid (stepV l=.tuple #[.agg #[.int .i64 1,.int .i64 k,.int .i64 ((k:Int)+1),.int .i64 0,.int .i64 (((A-C) / 2:Nat):Int)],.bool true]):=lH (by
      unfold stepV stepBl
      rw [shiftI_first (k:=k) (by omega) (by unfold bigB;rw [← HAE.out,← HCE.out];simp;omega) HNO.out]
      simp only
      rw [← HAE.out,← HCE.out,if_neg hlt,if_neg hlt,Nat.max_eq_left (by omega),Nat.min_eq_right (by omega)]
      simp)
     obtain ⟨cnt,hcnt⟩:∃ cnt,cnt=(A-C) / 2:=⟨_,rfl⟩
     rw [← hcnt] at hq hqw SV
     clear hcnt
     have B7:=Blk.new wd [.int .i64 1,.int .i64 k,.int .i64 ((k:Int)+1),.int .i64 0,.int .i64 (cnt:Int)] 93
     have kk:=Ex.new wd (.cells #[.int .i64 1,.int .i64 k,.int .i64 ((k:Int)+1),.int .i64 0,.int .i64 (cnt:Int)] 93)
     obtain ⟨w3,hw3⟩:∃ w3,w3=wd.alloc (.cells #[.int .i64 1,.int .i64 k,.int .i64 ((k:Int)+1),.int .i64 0,.int .i64 (cnt:Int)] 93):=⟨_,rfl⟩
     obtain ⟨g7,hg7⟩:∃ g7,g7=wd.heap.size:=⟨_,rfl⟩
     replace B7:Blk w3 g7 [.int .i64 1,.int .i64 k,.int .i64 ((k:Int)+1),.int .i64 0,.int .i64 (cnt:Int)] 93:=by rw [hw3,hg7];exact B7
     rw [← hw3] at kk
     have Hw3:=lH hw3
     have Hg7:=lH hg7
     have K3:=lH kk
     have z7:wd.heap.size≤g7:=by omega
     have b2:=(B2H.out.nx (KA.out.nx KD.out)).lt
     have hne:¬ g2=g7:=by omega
     have h7w:w.heap.size≤g7:=by have:=(K1.out.nx (KA.out.nx KD.out)).size;omega
     clear kk hw3 hg7 b2
     go_upto_region 9 with fail
     rw [← Hg7.out,← Hw3.out]
     clear Hg7 Hw3
     have d2:¬ (C:Int)>A:=by omega
     have KX:=lH (K1.out.nx (KA.out.nx (KD.out.nx K3.out)))
     have B2X:=B2H.out.nx (KA.out.nx (KD.out.nx K3.out))
     have BY:=B7
     clear B7
     have p0:=B2X.cell 0 _ rfl
     have p1:=B2X.cell 1 _ rfl
     have p2:=B2X.cell 2 _ rfl
     have p3:=B2X.cell 3 _ rfl
     have p4:=B2X.cell 4 _ rfl
     have t0:=B2X.free 0
     have t1:=B2X.free 1
     have t2:=B2X.free 2
     have t3:=B2X.free 3
     have t4:=B2X.free 4
     have q0:=BY.cell 0 _ rfl
     have q1:=BY.cell 1 _ rfl
     have q2:=BY.cell 2 _ rfl
     have q3:=BY.cell 3 _ rfl
     have q4:=BY.cell 4 _ rfl
     have KE:Hid (∀ v0 v1 v2 v3 v4,Ex w (((((w3.setCell ⟨g2,0,none⟩ v0).setCell ⟨g2,1,none⟩ v1).setCell ⟨g2,2,none⟩ v2).setCell ⟨g2,3,none⟩ v3).setCell ⟨g2,4,none⟩ v4)):=lH (fun v0 v1 v2 v3 v4=>((((KX.out.setNew (p:=⟨g2,0,none⟩) _ ZG.out).setNew (p:=⟨g2,1,none⟩) _ ZG.out).setNew (p:=⟨g2,2,none⟩) _ ZG.out).setNew (p:=⟨g2,3,none⟩) _ ZG.out).setNew (p:=⟨g2,4,none⟩) _ ZG.out)
     have hlt2:=B2X.lt
     clear B2X BY
     go_wp2_with fail
     refine bodyPost_ret (v:=.tuple #[.agg #[.int .i64 1,.int .i64 k,.int .i64 ((k:Int)+1),.int .i64 0,.int .i64 (cnt:Int)],.bool true]) (by simp [results,Tryz.results46,go_sem, *]) rfl ⟨SV.out.symm▸rfl,KE.out _ _ _ _ _⟩
  ·have hkk:k+1=n∨(k=0∧n=0):=by omega
   have dk:¬ (k:Int)+1<(n:Int):=by omega
   have SN:=lH (shiftI_none (l:=l) (fun i hi=>HNO.out i (by omega)))
   clear hkk
   by_cases h3:n<3
   ·have d3:(n:Int)<3:=by omega
    have SV:Hid (stepV l=.tuple #[.agg #[.int .i64 0,.int .i64 0,.int .i64 0,.int .i64 0,.int .i64 0],.bool false]):=lH (by unfold stepV stepBl;rw [SN.out];simp only;rw [if_pos (by omega)])
    have KX:=lH (K1.out.nx KA.out)
    have B2X:=B2H.out.nx KA.out
    clear hk
    have p0:=B2X.cell 0 _ rfl
    have p1:=B2X.cell 1 _ rfl
    have p2:=B2X.cell 2 _ rfl
    have p3:=B2X.cell 3 _ rfl
    have p4:=B2X.cell 4 _ rfl
    have t0:=B2X.free 0
    have t1:=B2X.free 1
    have t2:=B2X.free 2
    have t3:=B2X.free 3
    have t4:=B2X.free 4
    have KE:Hid (∀ v0 v1 v2 v3 v4,Ex w (((((wi.setCell ⟨g2,0,none⟩ v0).setCell ⟨g2,1,none⟩ v1).setCell ⟨g2,2,none⟩ v2).setCell ⟨g2,3,none⟩ v3).setCell ⟨g2,4,none⟩ v4)):=lH (fun v0 v1 v2 v3 v4=>((((KX.out.setNew (p:=⟨g2,0,none⟩) _ ZG.out).setNew (p:=⟨g2,1,none⟩) _ ZG.out).setNew (p:=⟨g2,2,none⟩) _ ZG.out).setNew (p:=⟨g2,3,none⟩) _ ZG.out).setNew (p:=⟨g2,4,none⟩) _ ZG.out)
    have hlt2:=B2X.lt
    clear B2X
    go_wp2_with fail
    refine bodyPost_ret (v:=.tuple #[.agg #[.int .i64 0,.int .i64 0,.int .i64 0,.int .i64 0,.int .i64 0],.bool false]) (by simp [results,Tryz.results46,go_sem, *]) rfl ⟨SV.out.symm▸rfl,KE.out _ _ _ _ _⟩
   ·have d3:¬ (n:Int)<3:=by omega
    clear hk
    go_wp2_with fail
    go_loopw [8,9,69] (fun m q i wr=>BmRel l wi m q i wr) (fun _ _ i _=>n-(intOf i).toNat)
    case atStart=>exact ⟨0,by omega,rfl,rfl,rfl,Ex.refl _⟩
    case round =>
     obtain ⟨j,hj,rfl,rfl,rfl,kj⟩:=hrel
     obtain ⟨wj,rfl⟩:∃ wj:World,wj=wr:=⟨_,rfl⟩
     have KJ:=lH kj
     clear kj
     by_cases hjn:j<n
     ·have djn:(j:Int)<(n:Int):=by omega
      have hml:=mostN_le l j
      have hll:=leastN_le l j
      have HR:=lH (HS.out.nx (K1.out.nx (KA.out.nx KJ.out)))
      obtain ⟨x,o,rfl,e0⟩:=HR.out.ld hjn
      obtain ⟨x',o',ee,e1⟩:=HR.out.ld (show mostN l j<n by omega)
      cases ee
      obtain ⟨x',o',ee,e2⟩:=HR.out.ld (show leastN l j<n by omega)
      cases ee
      have hms:=mostN_succ l j
      have hls:=leastN_succ l j
      obtain ⟨A,hAe⟩:∃ A,A=gB l j:=⟨_,rfl⟩
      obtain ⟨M,hMe⟩:∃ M,M=gB l (mostN l j):=⟨_,rfl⟩
      obtain ⟨L,hLe⟩:∃ L,L=gB l (leastN l j):=⟨_,rfl⟩
      rw [← hAe,← hMe] at hms
      rw [← hAe,← hLe] at hls
      rw [← hAe] at e0
      rw [← hMe] at e1
      rw [← hLe] at e2
      obtain ⟨m,hme⟩:∃ m,m=mostN l j:=⟨_,rfl⟩
      obtain ⟨q,hqe⟩:∃ q,q=leastN l j:=⟨_,rfl⟩
      rw [← hme] at e1 hml hms ⊢
      rw [← hqe] at e2 hll hls ⊢
      clear hAe hMe hLe hme hqe
      by_cases c1:M<A
      ·have D1:(A:Int)>M:=by omega
       rw [if_pos c1] at hms
       by_cases c2:A<L
       ·have D2:(A:Int)<L:=by omega
        rw [if_pos c2] at hls
        have RR:=lH (show BmRel l wi (.int .i64 (j:Int)) (.int .i64 (j:Int)) (.int .i64 ((j:Int)+1)) wj from ⟨j+1,by omega,by go_num,by rw [hms],by rw [hls],KJ.out⟩)
        clear hms hls
        go_wp2_with fail
        exact ⟨RR.out,by simp [intOf];omega⟩
       ·have D2:¬ (A:Int)<L:=by omega
        rw [if_neg c2] at hls
        have RR:=lH (show BmRel l wi (.int .i64 (j:Int)) (.int .i64 (q:Int)) (.int .i64 ((j:Int)+1)) wj from ⟨j+1,by omega,by go_num,by rw [hms],by rw [hls],KJ.out⟩)
        clear hms hls
        go_wp2_with fail
        exact ⟨RR.out,by simp [intOf];omega⟩
      ·have D1:¬ (A:Int)>M:=by omega
       rw [if_neg c1] at hms
       by_cases c2:A<L
       ·have D2:(A:Int)<L:=by omega
        rw [if_pos c2] at hls
        have RR:=lH (show BmRel l wi (.int .i64 (m:Int)) (.int .i64 (j:Int)) (.int .i64 ((j:Int)+1)) wj from ⟨j+1,by omega,by go_num,by rw [hms],by rw [hls],KJ.out⟩)
        clear hms hls
        go_wp2_with fail
        exact ⟨RR.out,by simp [intOf];omega⟩
       ·have D2:¬ (A:Int)<L:=by omega
        rw [if_neg c2] at hls
        have RR:=lH (show BmRel l wi (.int .i64 (m:Int)) (.int .i64 (q:Int)) (.int .i64 ((j:Int)+1)) wj from ⟨j+1,by omega,by go_num,by rw [hms],by rw [hls],KJ.out⟩)
        clear hms hls
        go_wp2_with fail
        exact ⟨RR.out,by simp [intOf];omega⟩
     ·obtain rfl:j=n:=by omega
      have HM:Hid (mostN l j=mostI l):=lH (by unfold mostI;rw [hl])
      have HL:Hid (leastN l j=leastI l):=lH (by unfold leastI;rw [hl])
      rw [HM.out,HL.out]
      have hml:mostI l<j:=by have:=mostN_lt l (j-1);unfold mostI;rw [hl,show j=j-1+1 by omega];omega
      have hll:leastI l<j:=by have:=leastN_lt l (j-1);unfold leastI;rw [hl,show j=j-1+1 by omega];omega
      have TO:Hid (toI l=if leastI l=0∨(leastI l+1<j∧gB l (leastI l+1)<gB l (leastI l-1)) then leastI l+1 else leastI l-1):=lH (by unfold toI;rw [hl])
      have SVE:Hid (stepBl l=if gB l (mostI l)≤4*(gB l (leastI l)+gB l (toI l))+8 then none else some (2,leastI l,toI l,mostI l,gB l (mostI l) / 2)):=lH (by unfold stepBl;rw [SN.out];simp only;rw [if_neg (by omega)])
      have HR:=lH (HS.out.nx (K1.out.nx (KA.out.nx KJ.out)))
      obtain ⟨m,hme⟩:∃ m,m=mostI l:=⟨_,rfl⟩
      obtain ⟨q,hqe⟩:∃ q,q=leastI l:=⟨_,rfl⟩
      rw [← hme] at hml SVE ⊢
      rw [← hqe] at hll SVE TO ⊢
      clear hme hqe HM HL
      have wq1:IntKind.i64.wrap ((q:Int)-1)=(q:Int)-1:=IntWalk.i64_in _ (by omega)
      obtain ⟨x,o,rfl,e1⟩:=HR.out.ld hml
      obtain ⟨x',o',ee,e2⟩:=HR.out.ld hll
      cases ee
      have AT:=lH (fun wq (kq:Ex wj wq) i (hi:i<j)=>(show wq.cell? ⟨x,o+i,none⟩=some (.int .i64 (gB l i:Int)) from by
       obtain ⟨x',o',ee,e3⟩:=(HR.out.nx kq).ld hi
       cases ee
       exact e3))
      have hMb:=gB_le HB.out m
      have hLb:=gB_le HB.out q
      have hTb:=gB_le HB.out (toI l)
      obtain ⟨bq,hbq⟩:∃ bq:Bool,bq=decide (q=0∨(q+1<j∧gB l (q+1)<gB l (q-1))):=⟨_,rfl⟩
      have TOB:Hid (toI l=if bq=true then q+1 else q-1):=lH (by rw [TO.out,hbq];simp only [decide_eq_true_eq])
      have BQ:=lH hbq
      have hj3:3≤j:=by omega
      have TOL:Hid (toI l<j):=lH (by
       rw [TO.out]
       split
       ·rename_i h
        rcases h with h | h
        ·omega
        ·exact h.1
       ·omega)
      clear hbq hl
      go_upto_region 24 with fail
      go_cut [12,90,111] from 91 to 111 (fun v12 v90 v wx=>v12=.int .i64 ((q:Int)-1)∧v90=.int .i64 ((q:Int)-1)∧v=.bool bq∧Ex wj wx)
      case first =>
       clear e1 e2
       by_cases q0:q=0
       ·have hneg:(q:Int)-1<0:=by omega
        have hbt:Hid (bq=true):=lH (by rw [BQ.out];simp [q0])
        go_quiet (fail)
        go_wp2_with fail
        go_meet
        exact ⟨rfl,rfl,by rw [hbt.out],(Ex.refl wj).drewN _⟩
       ·obtain ⟨q1,hq1⟩:∃ q1:Nat,(q:Int)-1=(q1:Int):=⟨q-1,by omega⟩
        have hneg:¬ (q1:Int)<0:=by omega
        have Q1:=lH hq1
        by_cases c1:q+1<j
        ·have d1:(q:Int)+1<(j:Int):=by omega
         have hd:decide ((q:Int)+1<(j:Int))=true:=by simp;omega
         have e3:=AT.out wj (Ex.refl wj) (q+1) c1
         have e4:=AT.out wj (Ex.refl wj) q1 (by omega)
         have hqn:q-1=q1:=by omega
         have hbt:Hid (bq=decide (gB l (q+1)<gB l q1)):=lH (by rw [BQ.out,hqn];simp [q0,c1])
         obtain ⟨Y,hY⟩:∃ Y,Y=gB l (q+1):=⟨_,rfl⟩
         obtain ⟨Z,hZ⟩:∃ Z,Z=gB l q1:=⟨_,rfl⟩
         rw [← hY] at e3 hbt
         rw [← hZ] at e4 hbt
         have hq1j:q1<j:=by omega
         clear hY hZ hqn
         go_quiet (fail)
         go_wp2_with fail
         go_meet
         exact ⟨by rw [Q1.out],by rw [Q1.out],by rw [hbt.out],(Ex.refl wj).drewN _⟩
        ·have d1:¬ (q:Int)+1<(j:Int):=by omega
         have hd:decide ((q:Int)+1<(j:Int))=false:=by simp;omega
         have hbt:Hid (bq=false):=lH (by rw [BQ.out];simp [q0,c1])
         go_quiet (fail)
         go_wp2_with fail
         go_meet
         exact ⟨by rw [Q1.out],by rw [Q1.out],by rw [hbt.out],(Ex.refl wj).drewN _⟩
      case rest =>
       rename World=>wk
       obtain ⟨rfl,rfl,rfl,kq⟩:=hcut
       have KQ:=lH kq
       clear kq e1 e2
       go_upto_if 111 with fail
       go_cut [12] from 112 to 113 (fun v wx=>v=.int .i64 (toI l:Int)∧wx=wk)
       case first =>
        cases bq with
        | true =>
         have hto:Hid (toI l=q+1):=lH (by rw [TOB.out];rfl)
         go_wp2_with fail
         go_meet
         exact ⟨by rw [hto.out];rfl,rfl⟩
        | false =>
         have hto:Hid (((toI l:Nat):Int)=(q:Int)-1):=lH (by
          have h0:¬ q=0:=by intro h0;have:=BQ.out;simp [h0] at this
          rw [TOB.out];simp;omega)
         go_wp2_with fail
         go_meet
         exact ⟨by rw [hto.out],rfl⟩
       case rest =>
        rename World=>wz
        obtain ⟨rfl,rfl⟩:=hcut
        have e1:=AT.out wz KQ.out m hml
        have E1:=lH (fun wt (kt:Ex wz wt)=>AT.out wt (KQ.out.nx kt) m hml)
        have e2:=AT.out wz KQ.out q hll
        have e3:=AT.out wz KQ.out (toI l) TOL.out
        have hTl:=TOL.out
        obtain ⟨u,hu⟩:∃ u,u=toI l:=⟨_,rfl⟩
        rw [← hu] at e3 hTl hTb SVE ⊢
        obtain ⟨M,hM⟩:∃ M,M=gB l m:=⟨_,rfl⟩
        obtain ⟨Q,hQ⟩:∃ Q,Q=gB l q:=⟨_,rfl⟩
        obtain ⟨U,hU⟩:∃ U,U=gB l u:=⟨_,rfl⟩
        rw [← hM] at e1 hMb SVE E1
        rw [← hQ] at e2 hLb SVE
        rw [← hU] at e3 hTb SVE
        have MM:=lH hM
        clear hu hM hQ hU TO TOB TOL BQ AT
        go_wp2_with fail
        go_quiet (fail)
        obtain ⟨wt,hwt⟩:∃ wt,wt=wz.drewN nq:=⟨_,rfl⟩
        rw [← hwt]
        have KT:=lH (show Ex wz wt from by rw [hwt];exact (Ex.refl wz).drewN _)
        have KX:=lH (K1.out.nx (KA.out.nx (KJ.out.nx (KQ.out.nx KT.out))))
        have B2X:=B2H.out.nx (KA.out.nx (KJ.out.nx (KQ.out.nx KT.out)))
        have e1:=E1.out wt KT.out
        clear hwt e2 e3
        by_cases hle:M≤4*(Q+U)+8
        ·have dle:(M:Int)≤4*((Q:Int)+U)+8:=by omega
         have SV:Hid (stepV l=.tuple #[.agg #[.int .i64 0,.int .i64 0,.int .i64 0,.int .i64 0,.int .i64 0],.bool false]):=lH (by unfold stepV;rw [SVE.out,if_pos hle])
         clear e1
         have p0:=B2X.cell 0 _ rfl
         have p1:=B2X.cell 1 _ rfl
         have p2:=B2X.cell 2 _ rfl
         have p3:=B2X.cell 3 _ rfl
         have p4:=B2X.cell 4 _ rfl
         have t0:=B2X.free 0
         have t1:=B2X.free 1
         have t2:=B2X.free 2
         have t3:=B2X.free 3
         have t4:=B2X.free 4
         have KE:Hid (∀ v0 v1 v2 v3 v4,Ex w (((((wt.setCell ⟨g2,0,none⟩ v0).setCell ⟨g2,1,none⟩ v1).setCell ⟨g2,2,none⟩ v2).setCell ⟨g2,3,none⟩ v3).setCell ⟨g2,4,none⟩ v4)):=lH (fun v0 v1 v2 v3 v4=>((((KX.out.setNew (p:=⟨g2,0,none⟩) _ ZG.out).setNew (p:=⟨g2,1,none⟩) _ ZG.out).setNew (p:=⟨g2,2,none⟩) _ ZG.out).setNew (p:=⟨g2,3,none⟩) _ ZG.out).setNew (p:=⟨g2,4,none⟩) _ ZG.out)
         have hlt2:=B2X.lt
         clear B2X
         go_wp2_with fail
         refine bodyPost_ret (v:=.tuple #[.agg #[.int .i64 0,.int .i64 0,.int .i64 0,.int .i64 0,.int .i64 0],.bool false]) (by simp [results,Tryz.results46,go_sem, *]) rfl ⟨SV.out.symm▸rfl,KE.out _ _ _ _ _⟩
        ·have dle:¬ (M:Int)≤4*((Q:Int)+U)+8:=by omega
         have hq:Int.tdiv (M:Int) 2=((M / 2:Nat):Int):=Int.ofNat_tdiv _ 2▸rfl
         have hqw:IntKind.i64.wrap ((M / 2:Nat):Int)=((M / 2:Nat):Int):=IntWalk.i64_in _ (by omega)
         have SV:Hid (stepV l=.tuple #[.agg #[.int .i64 2,.int .i64 (q:Int),.int .i64 (u:Int),.int .i64 (m:Int),.int .i64 ((M / 2:Nat):Int)],.bool true]):=lH (by unfold stepV;rw [SVE.out,if_neg hle];rfl)
         obtain ⟨cnt,hcnt⟩:∃ cnt,cnt=M / 2:=⟨_,rfl⟩
         rw [← hcnt] at hq hqw SV
         clear hcnt
         have p0:=B2X.cell 0 _ rfl
         have p1:=B2X.cell 1 _ rfl
         have p2:=B2X.cell 2 _ rfl
         have p3:=B2X.cell 3 _ rfl
         have p4:=B2X.cell 4 _ rfl
         have t0:=B2X.free 0
         have t1:=B2X.free 1
         have t2:=B2X.free 2
         have t3:=B2X.free 3
         have t4:=B2X.free 4
         have KE:Hid (∀ v0 v1 v2 v3 v4,Ex w (((((wt.setCell ⟨g2,0,none⟩ v0).setCell ⟨g2,1,none⟩ v1).setCell ⟨g2,2,none⟩ v2).setCell ⟨g2,3,none⟩ v3).setCell ⟨g2,4,none⟩ v4)):=lH (fun v0 v1 v2 v3 v4=>((((KX.out.setNew (p:=⟨g2,0,none⟩) _ ZG.out).setNew (p:=⟨g2,1,none⟩) _ ZG.out).setNew (p:=⟨g2,2,none⟩) _ ZG.out).setNew (p:=⟨g2,3,none⟩) _ ZG.out).setNew (p:=⟨g2,4,none⟩) _ ZG.out)
         have hlt2:=B2X.lt
         clear B2X
         go_wp2_with fail
         refine bodyPost_ret (v:=.tuple #[.agg #[.int .i64 2,.int .i64 (q:Int),.int .i64 (u:Int),.int .i64 (m:Int),.int .i64 (cnt:Int)],.bool true]) (by simp [results,Tryz.results46,go_sem, *]) rfl ⟨SV.out.symm▸rfl,KE.out _ _ _ _ _⟩
set_option maxHeartbeats 4000000 in
theorem settled_p (a:Option Addr) (n c:Nat) (l:List Nat) (w:World) (h:Sl 1 encI w a n (l.map natI)) (hn:n≤64) (hb:∀ x∈l,x≤1024) (h0:stepBl l=none) :
  Calls Tryz.prog 55 #[.slice a n c] w fun e w'=>e=.returned (.bool true)∧Ex w w':=by
 have HS:=lH h
 have HB:=lH hb
 have SV:Hid (stepV l=.tuple #[.agg #[.int .i64 0,.int .i64 0,.int .i64 0,.int .i64 0,.int .i64 0],.bool false]):=lH (by unfold stepV;rw [h0])
 clear h hb h0
 go_enter Tryz.func55,Tryz.ntmps55
 go_wp2_with fail
 (with_reducible refine (step_p a n c l _ HS.out hn HB.out).mono ?_)
 rintro e w1 ⟨rfl,kk⟩
 rw [SV.out]
 have K1:=lH kk
 clear kk
 have B3:=Blk.new w1 [.int .i64 0,.int .i64 0,.int .i64 0,.int .i64 0,.int .i64 0] 93
 have kk:=Ex.new w1 (.cells #[.int .i64 0,.int .i64 0,.int .i64 0,.int .i64 0,.int .i64 0] 93)
 obtain ⟨w2,hw2⟩:∃ w2,w2=w1.alloc (.cells #[.int .i64 0,.int .i64 0,.int .i64 0,.int .i64 0,.int .i64 0] 93):=⟨_,rfl⟩
 obtain ⟨g3,hg3⟩:∃ g3,g3=w1.heap.size:=⟨_,rfl⟩
 replace B3:Blk w2 g3 [.int .i64 0,.int .i64 0,.int .i64 0,.int .i64 0,.int .i64 0] 93:=by rw [hw2,hg3];exact B3
 rw [← hw2] at kk
 have Hw2:=lH hw2
 have Hg3:=lH hg3
 have K2:=lH (K1.out.nx kk)
 clear kk hw2 hg3 B3
 go_upto_region 2 with fail
 rw [← Hg3.out,← Hw2.out]
 clear Hg3 Hw2
 go_wp2_with fail
 (with_reducible refine (bvalid_p a n c l _ (HS.out.nx K2.out) hn HB.out).mono ?_)
 rintro e w3 ⟨rfl,kk⟩
 have K3:=lH (K2.out.nx kk)
 clear kk
 go_wp2_with fail
 go_ret
 exact ⟨rfl,K3.out⟩
end Go.Proofs.YthcholmhmcpooaaGreatDoor
