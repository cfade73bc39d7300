/- Texts for FlightStepsProof. -/
import Derived.Test.YtalmjklljofhbaaGreatDoorFlightStepsProofL32
set_option linter.unusedSimpArgs false
set_option linter.unusedVariables false

namespace Go.Proofs.YtalmjklljofhbaaGreatDoor
open Go.RowKit
abbrev RdF (w:World) (aP:Option Addr) (nP:Nat) (aM:Option Addr) (nM:Nat) (F:Fl):Prop:=PL w aP nP F.peers∧Sl 2 encS w aM nM F.msgs
theorem RdF.nx {w w':World} {aP aM:Option Addr} {nP nM:Nat} {F:Fl} (h:RdF w aP nP aM nM F) (k:Ex w w'):RdF w' aP nP aM nM F:=⟨h.1.nx k,h.2.nx k⟩
theorem FlOwn.rdf {base:Nat} {w:World} {v m:Value} {qs:List PQ} {F:Fl} (h:FlOwn base w v m qs F):∃ aP cP aM cM,v=.slice aP F.peers.length cP∧m=.slice aM F.msgs.length cM∧RdF w aP F.peers.length aM F.msgs.length F:=by
 obtain ⟨aP,cP,aM,cM,e1,e2,p1,s2⟩:=h.two
 exact ⟨aP,cP,aM,cM,e1,e2,p1,s2⟩
def prN:List Nd:=[⟨1,⟨#[97]⟩,0⟩,⟨2,⟨#[98]⟩,0⟩]
def prP:List Pr:=[⟨2,0,0,[1],[]⟩]
def F19a:Fl:=⟨normalN prN prP,[]⟩
def F19b:Fl:=roundF prN F19a [] [] 0
def F19c:Fl:=roundF prN F19b [] [] 0
theorem prW:∀ x∈prN,x.word<4294967296:=by decide +kernel
def okF (F:Fl):Bool:=F.peers.all fun p=>decide (p.known.length≤10)&&decide (p.near.length≤10)
theorem okF_sm {F:Fl} (h:okF F=true):SmF F:=by
 have key:∀ p∈F.peers,p.known.length≤10∧p.near.length≤10:=fun p hp=>by
  have:=List.all_eq_true.1 h p hp
  simp only [Bool.and_eq_true,decide_eq_true_eq] at this
  exact this
 exact ⟨fun p hp=>by have:=key p hp;omega,fun p hp=>by have:=key p hp;omega⟩
theorem smA:SmF F19a:=okF_sm (by decide +kernel)
theorem smB:SmF F19b:=okF_sm (by decide +kernel)
theorem smA1:SmallP F19a.peers:=smA.1
theorem smB1:SmallP F19b.peers:=smB.1
theorem smB2:∀ p∈F19b.peers,p.known.length≤1000000:=smB.2
theorem lenA:F19a.peers.length=2:=by decide +kernel
theorem lenB:F19b.peers.length=2:=by decide +kernel
theorem lenC:F19c.peers.length=2:=by decide +kernel
theorem msB:F19b.msgs.length=1:=by decide +kernel
theorem msC:F19c.msgs.length=2:=by decide +kernel
theorem rightC:(F19c.peers[0]?).map (·.right)=some 2:=by decide +kernel
theorem leftC:(F19c.peers[1]?).map (·.left)=some 1:=by decide +kernel
theorem conA:conF prN F19a=true:=by decide +kernel
theorem dblB:(dblF F19b 0 4096).msgs.length=2:=by decide +kernel
theorem delB:(delF prN F19b 0).msgs.length=0:=by decide +kernel
theorem tickA:(tickF prN F19a 2 0).msgs.length=1:=by decide +kernel
theorem prSm:SmallP prP:=fun p hp=>by
 simp only [prP,List.mem_cons,List.not_mem_nil,or_false] at hp
 subst hp
 exact ⟨by decide,by decide⟩
theorem fieldMs (A B:Value) (w:World):(Instr.field 27 (.agg #[A,B]) 1).run Tryz.prog w=.ok B w:=by kernel_rfl
theorem pair_x (w:World):Calls Tryz.prog 46 #[] w fun e w'=>∃ a,e=.returned (.slice a 2 2)∧Sl 3 encN w' a 2 prN∧Ex w w':=by
 go_enter Tryz.func46,Tryz.ntmps46
 go_wp2_with fail
 go_ret
 exact ⟨_,rfl,Sl.lit prN rfl rfl (fun _=>rfl) rfl,Ex.new _ _⟩
theorem prLit (w:World):∃ g v,g=w.heap.size+1∧v=(w.alloc (.cells #[.int .i64 1] 3)).alloc (.cells #[.int .i64 2,.slice (some ⟨w.heap.size,0,none⟩) 1 1,.int .i64 0,.int .i64 0,.slice none 0 0] 36) ∧
  PL v (some ⟨g,0,none⟩) 1 prP∧Ex w v:=by
 have k1:=Ex.new w (.cells #[.int .i64 1] 3)
 have s1:Sl 1 encI (w.alloc (.cells #[.int .i64 1] 3)) (some ⟨w.heap.size,0,none⟩) 1 [1]:=Sl.lit [1] rfl rfl (fun _=>rfl) rfl
 generalize hu:w.alloc (.cells #[.int .i64 1] 3)=u at *
 have hz:u.heap.size=w.heap.size+1:=by rw [← hu];simp
 have k2:=Ex.new u (.cells #[.int .i64 2,.slice (some ⟨w.heap.size,0,none⟩) 1 1,.int .i64 0,.int .i64 0,.slice none 0 0] 36)
 refine ⟨_,_,hz,rfl,⟨[((2,0,0),(some ⟨w.heap.size,0,none⟩,1,1),(none,0,0))],?_,rfl,fun j q p hq hp=>?_⟩,k1.nx k2⟩
 ·exact Sl.lit (enc:=encQ) (sz:=5) (w:=u) (s:=u.heap.size) (ty:=36) (n:=1) [((2,0,0),(some ⟨w.heap.size,0,none⟩,1,1),(none,0,0))] rfl rfl encQ_len rfl
 ·rcases j with _ | j
  ·simp only [List.getElem?_cons_zero,Option.some.injEq,prP] at hq hp
   subst hq hp
   exact ⟨rfl,s1.nx k2,Sl.nil _ _ _ _⟩
  ·simp at hq
theorem allocF {wp u:World} (_h:Ex wp u):∃ g v,g=u.heap.size∧v=u.alloc (.cells #[.slice none 0 0,.slice none 0 0] 27)∧Blk v g [.slice none 0 0,.slice none 0 0] 27∧Ex u v∧wp.heap.size≤g :=
 ⟨_,_,rfl,rfl,Blk.new _ _ _,Ex.new _ _,_h.size⟩
theorem storeF {wp u:World} {g:Nat} (B:Blk u g [.slice none 0 0,.slice none 0 0] 27) (h:Ex wp u) (hz:wp.heap.size≤g) (x y:Value) :
  ∃ wz,wz=(u.setCell ⟨g,0,none⟩ x).setCell ⟨g,1,none⟩ y∧Blk wz g [x,y] 27∧Exb g u wz∧Ex wp wz :=
 ⟨_,rfl,(B.set 0 x).set 1 y,((Exb.refl g u).setB (p:=⟨g,0,none⟩) _ rfl).setB (p:=⟨g,1,none⟩) _ rfl,(h.setNew (p:=⟨g,0,none⟩) _ hz).setNew (p:=⟨g,1,none⟩) _ hz⟩
def S2Rel (w3:World) (F:Fl) (nM:Nat) (s2:Value) (wx:World):Prop :=
 ∃ (g:Nat) (aQ:Option Addr) (cQ:Nat) (aR:Option Addr) (cR:Nat),s2=.pointer (some ⟨g,0,none⟩)∧Blk wx g [.slice aQ 2 cQ,.slice aR nM cR] 27∧RdF wx aQ 2 aR nM F∧Ex w3 wx
set_option maxRecDepth 100000 in
set_option maxHeartbeats 8000000 in
theorem sane19_x (w:World):Calls Tryz.prog 19 #[] w fun e w'=>e=.returned (.bool true)∧Ex w w':=by
 go_enter Tryz.func19,Tryz.ntmps19
 go_wp2_with fail
 (with_reducible refine (pair_x _).mono ?_)
 rintro e w0 ⟨a1,rfl,S1,kk⟩
 obtain ⟨g2,w1,hg2,hw2,P2,k2⟩:=prLit w0
 have K:=lH (kk.nx k2)
 have HS:=lH (S1.nx k2)
 have HP:=lH P2
 have Hg:=lH hg2
 have Hw:=lH hw2
 clear hg2 hw2 P2 kk k2 S1
 go_wp2_with fail
 rw [← Hw.out,← Hg.out]
 clear Hw Hg
 (with_reducible refine (new_f _ _ _ prN _ _ _ prP _ HS.out (by omega) (by omega) (by unfold maxLen;omega) HP.out (by omega) prSm).mono ?_)
 rintro e w2 ⟨vP,vM,qs,rfl,FO,kk⟩
 replace FO:FlOwn w1.heap.size w2 vP vM qs F19a:=FO
 obtain ⟨aP,cP,aM,cM,rfl,rfl,RF⟩:=FO.rdf
 rw [lenA] at RF ⊢
 replace RF:RdF w2 aP 2 aM 0 F19a:=RF
 replace K:=lH (K.out.nx kk)
 clear kk FO HP HS
 have B1:=Blk.new w2 [.slice aP 2 cP,.slice aM 0 cM] 27
 have kk:=Ex.new w2 (.cells #[.slice aP 2 cP,.slice aM 0 cM] 27)
 obtain ⟨w3,hw3⟩:∃ w3,w3=w2.alloc (.cells #[.slice aP 2 cP,.slice aM 0 cM] 27):=⟨_,rfl⟩
 obtain ⟨g1,hg1⟩:∃ g1,g1=w2.heap.size:=⟨_,rfl⟩
 replace B1:Blk w3 g1 [.slice aP 2 cP,.slice aM 0 cM] 27:=by rw [hw3,hg1];exact B1
 rw [← hw3] at kk
 have Hw3:=lH hw3
 have Hg1:=lH hg1
 replace RF:=RF.nx kk
 replace K:=lH (K.out.nx kk)
 have hl1:=B1.lt
 clear kk hw3 hg1
 have e0:F19a.msgs.length=0:=rfl
 rw [e0]
 clear e0
 go_upto_region 2 with fail
 rw [← Hg1.out,← Hw3.out]
 clear Hg1 Hw3
 have RA:=lH RF
 have B1H:=lH B1
 clear RF B1
 go_cut [2] from 9 to 11 (fun s2 wx=>S2Rel w3 F19b 1 s2 wx)
 case first =>
  refine wp_region_late_drew (S:=Ex w3) [4] (by kernel_rfl) ((Ex.refl w3).drew) (fun hHeld=>?_)
  obtain ⟨wd,hwdx⟩:∃ wd:World,wd=World.drew w3:=⟨_,rfl⟩
  rw [← hwdx] at hHeld ⊢
  have hDrew:Ex w3 wd:=by rw [hwdx];exact (Ex.refl w3).drew
  clear hwdx
  refine tkL 1 (v:=?_) rfl (by kernel_rfl) (fun _ _ _ h=>h) (by rfl) ?y5 hHeld ?_
  case y5=>intro wq hSw;(have cq0:=(B1H.out.nx hSw).cell 0 _ rfl;have cq1:=(B1H.out.nx hSw).cell 1 _ rfl;go_simp)<;>rfl
  try simp only [Act.put,sA,sB,sC]
  refine wpAnyL_ready (rs:=[0,3]) (by kernel_rfl) (by simp) ?_
  refine AllReadyL.cons (o:=⟨_,_,_,_,_,_⟩) rfl (fun K hK=>?_) ?_
  ·go_simp
   (with_reducible refine (pair_x _).mono ?_)
   rintro e wa ⟨a5,rfl,s5,kk⟩
   (try replace B2:=B2.nx kk)
   replace hHeld:=hHeld.nx kk
   clear kk
   refine hK.out _ _ (hHeld) (fun hHeld=>?_)
   clear hK K
   try simp only [Act.put,sA,sB,sC]
   refine wpAnyL_ready (rs:=[2,3]) (by kernel_rfl) (by simp) ?_
   refine AllReadyL.cons (o:=⟨_,_,_,_,_,_⟩) rfl (fun K hK=>?_) ?_
   ·go_simp
    (with_reducible refine (round_f _ _ _ prN _ _ _ F19a.peers _ _ _ F19a.msgs none 0 0 [] none 0 0 [] 0 _ s5 (by omega) (by omega) (by unfold maxLen;omega) prW (RA.out.nx hHeld).1 (by omega) smA (RA.out.nx hHeld).2 (by omega) (Sl.nil _ _ _ _) (by omega) (by unfold maxLen;omega) (Sl.nil _ _ _ _) (by omega) (by unfold maxLen;omega)).mono ?_)
    rintro e wa2 ⟨vP,vM,qs,rfl,FO,kk⟩
    replace FO:=FlOwn.lower (F:=F19b) (base':=w3.heap.size) FO hHeld.size
    obtain ⟨aQ,cQ,aR,cR,rfl,rfl,_⟩:=FO.rdf
    rw [lenB,msB] at FO ⊢
    (try replace B2:=B2.nx kk)
    replace hHeld:=hHeld.nx kk
    clear kk s5
    refine hK.out _ _ (hHeld) (fun hHeld=>?_)
    clear hK K
    try simp only [Act.put,sA,sB,sC]
    refine rL 3 (by kernel_rfl) rfl fun K hK=>?_
    go_simp
    obtain ⟨g2,wq,hg2,hwq,B2,kk,zg2⟩:=allocF hHeld
    rw [← hg2,← hwq]
    clear hg2 hwq
    (try replace s5:=s5.nx kk)
    (try replace FO:=FO.nx kk)
    replace hHeld:=hHeld.nx kk
    clear kk
    refine hK.out _ _ (hHeld) (fun hHeld=>?_)
    clear hK K
    try simp only [Act.put,sA,sB,sC]
    refine rLL 4 (by kernel_rfl) rfl (by rfl) fun K hK=>?_
    have r0:=B2.cell 0 _ rfl
    have r1:=B2.cell 1 _ rfl
    have f0:=B2.free 0
    have f1:=B2.free 1
    go_simp
    clear r0 r1 f0 f1
    refine hK.out _ _ ?_
    clear hK K
    try simp only [Act.put,sA,sB,sC]
    refine wpAnyL_done (by kernel_rfl) ?_ _
    obtain ⟨wz,hwz,BZ,KB,KE⟩:=storeF B2 hHeld zg2 (.slice aQ 2 cQ) (.slice aR 1 cR)
    rw [← hwz]
    have FOZ:=FO.putB B2 (by decide) (by decide) (by decide) (by decide) KB
    obtain ⟨aX,cX,aY,cY,ex,ey,RZ⟩:=FOZ.rdf
    rw [lenB] at ex RZ
    rw [msB] at ey RZ
    cases ex
    cases ey
    have RX:=lH RZ
    have BX:=lH BZ
    clear RZ BZ FOZ FO hHeld hDrew hwz KB zg2
    have CUT:=lH (show S2Rel w3 F19b 1 (.pointer (some ⟨g2,0,none⟩)) wz from ⟨g2,aQ,cQ,aR,cR,rfl,BX.out,RX.out,KE⟩)
    clear KE
    go_wp2_with fail
    go_meet
    exact CUT.out
   refine AllReadyL.cons (o:=⟨_,_,_,_,_,_⟩) rfl (fun K hK=>?_) AllReadyL.nil
   ·go_simp
    obtain ⟨g2,wq,hg2,hwq,B2,kk,zg2⟩:=allocF hHeld
    rw [← hg2,← hwq]
    clear hg2 hwq
    (try replace s5:=s5.nx kk)
    (try replace FO:=FO.nx kk)
    replace hHeld:=hHeld.nx kk
    clear kk
    refine hK.out _ _ (hHeld) (fun hHeld=>?_)
    clear hK K
    try simp only [Act.put,sA,sB,sC]
    refine rL 2 (by kernel_rfl) rfl fun K hK=>?_
    go_simp
    (with_reducible refine (round_f _ _ _ prN _ _ _ F19a.peers _ _ _ F19a.msgs none 0 0 [] none 0 0 [] 0 _ s5 (by omega) (by omega) (by unfold maxLen;omega) prW (RA.out.nx hHeld).1 (by omega) smA (RA.out.nx hHeld).2 (by omega) (Sl.nil _ _ _ _) (by omega) (by unfold maxLen;omega) (Sl.nil _ _ _ _) (by omega) (by unfold maxLen;omega)).mono ?_)
    rintro e wa2 ⟨vP,vM,qs,rfl,FO,kk⟩
    replace FO:=FlOwn.lower (F:=F19b) (base':=w3.heap.size) FO hHeld.size
    obtain ⟨aQ,cQ,aR,cR,rfl,rfl,_⟩:=FO.rdf
    rw [lenB,msB] at FO ⊢
    (try replace B2:=B2.nx kk)
    replace hHeld:=hHeld.nx kk
    clear kk s5
    refine hK.out _ _ (hHeld) (fun hHeld=>?_)
    clear hK K
    try simp only [Act.put,sA,sB,sC]
    refine rLL 4 (by kernel_rfl) rfl (by rfl) fun K hK=>?_
    have r0:=B2.cell 0 _ rfl
    have r1:=B2.cell 1 _ rfl
    have f0:=B2.free 0
    have f1:=B2.free 1
    go_simp
    clear r0 r1 f0 f1
    refine hK.out _ _ ?_
    clear hK K
    try simp only [Act.put,sA,sB,sC]
    refine wpAnyL_done (by kernel_rfl) ?_ _
    obtain ⟨wz,hwz,BZ,KB,KE⟩:=storeF B2 hHeld zg2 (.slice aQ 2 cQ) (.slice aR 1 cR)
    rw [← hwz]
    have FOZ:=FO.putB B2 (by decide) (by decide) (by decide) (by decide) KB
    obtain ⟨aX,cX,aY,cY,ex,ey,RZ⟩:=FOZ.rdf
    rw [lenB] at ex RZ
    rw [msB] at ey RZ
    cases ex
    cases ey
    have RX:=lH RZ
    have BX:=lH BZ
    clear RZ BZ FOZ FO hHeld hDrew hwz KB zg2
    have CUT:=lH (show S2Rel w3 F19b 1 (.pointer (some ⟨g2,0,none⟩)) wz from ⟨g2,aQ,cQ,aR,cR,rfl,BX.out,RX.out,KE⟩)
    clear KE
    go_wp2_with fail
    go_meet
    exact CUT.out
  refine AllReadyL.cons (o:=⟨_,_,_,_,_,_⟩) rfl (fun K hK=>?_) AllReadyL.nil
  ·go_simp
   obtain ⟨g2,wq,hg2,hwq,B2,kk,zg2⟩:=allocF hHeld
   rw [← hg2,← hwq]
   clear hg2 hwq
   (try replace s5:=s5.nx kk)
   (try replace FO:=FO.nx kk)
   replace hHeld:=hHeld.nx kk
   clear kk
   refine hK.out _ _ (hHeld) (fun hHeld=>?_)
   clear hK K
   try simp only [Act.put,sA,sB,sC]
   refine rL 0 (by kernel_rfl) rfl fun K hK=>?_
   go_simp
   (with_reducible refine (pair_x _).mono ?_)
   rintro e wa ⟨a5,rfl,s5,kk⟩
   (try replace B2:=B2.nx kk)
   replace hHeld:=hHeld.nx kk
   clear kk
   refine hK.out _ _ (hHeld) (fun hHeld=>?_)
   clear hK K
   try simp only [Act.put,sA,sB,sC]
   refine rL 2 (by kernel_rfl) rfl fun K hK=>?_
   go_simp
   (with_reducible refine (round_f _ _ _ prN _ _ _ F19a.peers _ _ _ F19a.msgs none 0 0 [] none 0 0 [] 0 _ s5 (by omega) (by omega) (by unfold maxLen;omega) prW (RA.out.nx hHeld).1 (by omega) smA (RA.out.nx hHeld).2 (by omega) (Sl.nil _ _ _ _) (by omega) (by unfold maxLen;omega) (Sl.nil _ _ _ _) (by omega) (by unfold maxLen;omega)).mono ?_)
   rintro e wa2 ⟨vP,vM,qs,rfl,FO,kk⟩
   replace FO:=FlOwn.lower (F:=F19b) (base':=w3.heap.size) FO hHeld.size
   obtain ⟨aQ,cQ,aR,cR,rfl,rfl,_⟩:=FO.rdf
   rw [lenB,msB] at FO ⊢
   (try replace B2:=B2.nx kk)
   replace hHeld:=hHeld.nx kk
   clear kk s5
   refine hK.out _ _ (hHeld) (fun hHeld=>?_)
   clear hK K
   try simp only [Act.put,sA,sB,sC]
   refine rLL 4 (by kernel_rfl) rfl (by rfl) fun K hK=>?_
   have r0:=B2.cell 0 _ rfl
   have r1:=B2.cell 1 _ rfl
   have f0:=B2.free 0
   have f1:=B2.free 1
   go_simp
   clear r0 r1 f0 f1
   refine hK.out _ _ ?_
   clear hK K
   try simp only [Act.put,sA,sB,sC]
   refine wpAnyL_done (by kernel_rfl) ?_ _
   obtain ⟨wz,hwz,BZ,KB,KE⟩:=storeF B2 hHeld zg2 (.slice aQ 2 cQ) (.slice aR 1 cR)
   rw [← hwz]
   have FOZ:=FO.putB B2 (by decide) (by decide) (by decide) (by decide) KB
   obtain ⟨aX,cX,aY,cY,ex,ey,RZ⟩:=FOZ.rdf
   rw [lenB] at ex RZ
   rw [msB] at ey RZ
   cases ex
   cases ey
   have RX:=lH RZ
   have BX:=lH BZ
   clear RZ BZ FOZ FO hHeld hDrew hwz KB zg2
   have CUT:=lH (show S2Rel w3 F19b 1 (.pointer (some ⟨g2,0,none⟩)) wz from ⟨g2,aQ,cQ,aR,cR,rfl,BX.out,RX.out,KE⟩)
   clear KE
   go_wp2_with fail
   go_meet
   exact CUT.out
 case rest =>
  rename World=>w5
  obtain ⟨g2,aQ,cQ,aR,cR,rfl,B2,RB,kk⟩:=hcut
  replace RA:=lH (RA.out.nx kk)
  replace B1H:=lH (B1H.out.nx kk)
  replace K:=lH (K.out.nx kk)
  have RB:=lH RB
  have B2H:=lH B2
  clear kk B2
  go_upto_region 3 with fail
  go_cut [3] from 12 to 14 (fun s3 wx=>S2Rel w5 F19c 2 s3 wx)
  case first =>
   refine wp_region_late_drew (S:=Ex w5) [4] (by kernel_rfl) ((Ex.refl w5).drew) (fun hHeld=>?_)
   obtain ⟨wd,hwdx⟩:∃ wd:World,wd=World.drew w5:=⟨_,rfl⟩
   rw [← hwdx] at hHeld ⊢
   have hDrew:Ex w5 wd:=by rw [hwdx];exact (Ex.refl w5).drew
   clear hwdx
   refine tkL 1 (v:=?_) rfl (by kernel_rfl) (fun _ _ _ h=>h) (by rfl) ?y5 hHeld ?_
   case y5=>intro wq hSw;(have cq0:=(B2H.out.nx hSw).cell 0 _ rfl;have cq1:=(B2H.out.nx hSw).cell 1 _ rfl;go_simp)<;>rfl
   try simp only [Act.put,sA,sB,sC]
   refine wpAnyL_ready (rs:=[0,3]) (by kernel_rfl) (by simp) ?_
   refine AllReadyL.cons (o:=⟨_,_,_,_,_,_⟩) rfl (fun K hK=>?_) ?_
   ·go_simp
    (with_reducible refine (pair_x _).mono ?_)
    rintro e wa ⟨a5,rfl,s5,kk⟩
    (try replace B2:=B2.nx kk)
    replace hHeld:=hHeld.nx kk
    clear kk
    refine hK.out _ _ (hHeld) (fun hHeld=>?_)
    clear hK K
    try simp only [Act.put,sA,sB,sC]
    refine wpAnyL_ready (rs:=[2,3]) (by kernel_rfl) (by simp) ?_
    refine AllReadyL.cons (o:=⟨_,_,_,_,_,_⟩) rfl (fun K hK=>?_) ?_
    ·go_simp
     (with_reducible refine (round_f _ _ _ prN _ _ _ F19b.peers _ _ _ F19b.msgs none 0 0 [] none 0 0 [] 0 _ s5 (by omega) (by omega) (by unfold maxLen;omega) prW (RB.out.nx hHeld).1 (by omega) smB (RB.out.nx hHeld).2 (by omega) (Sl.nil _ _ _ _) (by omega) (by unfold maxLen;omega) (Sl.nil _ _ _ _) (by omega) (by unfold maxLen;omega)).mono ?_)
     rintro e wa2 ⟨vP,vM,qs,rfl,FO,kk⟩
     replace FO:=FlOwn.lower (F:=F19c) (base':=w5.heap.size) FO hHeld.size
     obtain ⟨aQ,cQ,aR,cR,rfl,rfl,_⟩:=FO.rdf
     rw [lenC,msC] at FO ⊢
     (try replace B2:=B2.nx kk)
     replace hHeld:=hHeld.nx kk
     clear kk s5
     refine hK.out _ _ (hHeld) (fun hHeld=>?_)
     clear hK K
     try simp only [Act.put,sA,sB,sC]
     refine rL 3 (by kernel_rfl) rfl fun K hK=>?_
     go_simp
     obtain ⟨g2,wq,hg2,hwq,B2,kk,zg2⟩:=allocF hHeld
     rw [← hg2,← hwq]
     clear hg2 hwq
     (try replace s5:=s5.nx kk)
     (try replace FO:=FO.nx kk)
     replace hHeld:=hHeld.nx kk
     clear kk
     refine hK.out _ _ (hHeld) (fun hHeld=>?_)
     clear hK K
     try simp only [Act.put,sA,sB,sC]
     refine rLL 4 (by kernel_rfl) rfl (by rfl) fun K hK=>?_
     have r0:=B2.cell 0 _ rfl
     have r1:=B2.cell 1 _ rfl
     have f0:=B2.free 0
     have f1:=B2.free 1
     go_simp
     clear r0 r1 f0 f1
     refine hK.out _ _ ?_
     clear hK K
     try simp only [Act.put,sA,sB,sC]
     refine wpAnyL_done (by kernel_rfl) ?_ _
     obtain ⟨wz,hwz,BZ,KB,KE⟩:=storeF B2 hHeld zg2 (.slice aQ 2 cQ) (.slice aR 2 cR)
     rw [← hwz]
     have FOZ:=FO.putB B2 (by decide) (by decide) (by decide) (by decide) KB
     obtain ⟨aX,cX,aY,cY,ex,ey,RZ⟩:=FOZ.rdf
     rw [lenC] at ex RZ
     rw [msC] at ey RZ
     cases ex
     cases ey
     have RX:=lH RZ
     have BX:=lH BZ
     clear RZ BZ FOZ FO hHeld hDrew hwz KB zg2
     have CUT:=lH (show S2Rel w5 F19c 2 (.pointer (some ⟨g2,0,none⟩)) wz from ⟨g2,aQ,cQ,aR,cR,rfl,BX.out,RX.out,KE⟩)
     clear KE
     go_wp2_with fail
     go_meet
     exact CUT.out
    refine AllReadyL.cons (o:=⟨_,_,_,_,_,_⟩) rfl (fun K hK=>?_) AllReadyL.nil
    ·go_simp
     obtain ⟨g2,wq,hg2,hwq,B2,kk,zg2⟩:=allocF hHeld
     rw [← hg2,← hwq]
     clear hg2 hwq
     (try replace s5:=s5.nx kk)
     (try replace FO:=FO.nx kk)
     replace hHeld:=hHeld.nx kk
     clear kk
     refine hK.out _ _ (hHeld) (fun hHeld=>?_)
     clear hK K
     try simp only [Act.put,sA,sB,sC]
     refine rL 2 (by kernel_rfl) rfl fun K hK=>?_
     go_simp
     (with_reducible refine (round_f _ _ _ prN _ _ _ F19b.peers _ _ _ F19b.msgs none 0 0 [] none 0 0 [] 0 _ s5 (by omega) (by omega) (by unfold maxLen;omega) prW (RB.out.nx hHeld).1 (by omega) smB (RB.out.nx hHeld).2 (by omega) (Sl.nil _ _ _ _) (by omega) (by unfold maxLen;omega) (Sl.nil _ _ _ _) (by omega) (by unfold maxLen;omega)).mono ?_)
     rintro e wa2 ⟨vP,vM,qs,rfl,FO,kk⟩
     replace FO:=FlOwn.lower (F:=F19c) (base':=w5.heap.size) FO hHeld.size
     obtain ⟨aQ,cQ,aR,cR,rfl,rfl,_⟩:=FO.rdf
     rw [lenC,msC] at FO ⊢
     (try replace B2:=B2.nx kk)
     replace hHeld:=hHeld.nx kk
     clear kk s5
     refine hK.out _ _ (hHeld) (fun hHeld=>?_)
     clear hK K
     try simp only [Act.put,sA,sB,sC]
     refine rLL 4 (by kernel_rfl) rfl (by rfl) fun K hK=>?_
     have r0:=B2.cell 0 _ rfl
     have r1:=B2.cell 1 _ rfl
     have f0:=B2.free 0
     have f1:=B2.free 1
     go_simp
     clear r0 r1 f0 f1
     refine hK.out _ _ ?_
     clear hK K
     try simp only [Act.put,sA,sB,sC]
     refine wpAnyL_done (by kernel_rfl) ?_ _
     obtain ⟨wz,hwz,BZ,KB,KE⟩:=storeF B2 hHeld zg2 (.slice aQ 2 cQ) (.slice aR 2 cR)
     rw [← hwz]
     have FOZ:=FO.putB B2 (by decide) (by decide) (by decide) (by decide) KB
     obtain ⟨aX,cX,aY,cY,ex,ey,RZ⟩:=FOZ.rdf
     rw [lenC] at ex RZ
     rw [msC] at ey RZ
     cases ex
     cases ey
     have RX:=lH RZ
     have BX:=lH BZ
     clear RZ BZ FOZ FO hHeld hDrew hwz KB zg2
     have CUT:=lH (show S2Rel w5 F19c 2 (.pointer (some ⟨g2,0,none⟩)) wz from ⟨g2,aQ,cQ,aR,cR,rfl,BX.out,RX.out,KE⟩)
     clear KE
     go_wp2_with fail
     go_meet
     exact CUT.out
   refine AllReadyL.cons (o:=⟨_,_,_,_,_,_⟩) rfl (fun K hK=>?_) AllReadyL.nil
   ·go_simp
    obtain ⟨g2,wq,hg2,hwq,B2,kk,zg2⟩:=allocF hHeld
    rw [← hg2,← hwq]
    clear hg2 hwq
    (try replace s5:=s5.nx kk)
    (try replace FO:=FO.nx kk)
    replace hHeld:=hHeld.nx kk
    clear kk
    refine hK.out _ _ (hHeld) (fun hHeld=>?_)
    clear hK K
    try simp only [Act.put,sA,sB,sC]
    refine rL 0 (by kernel_rfl) rfl fun K hK=>?_
    go_simp
    (with_reducible refine (pair_x _).mono ?_)
    rintro e wa ⟨a5,rfl,s5,kk⟩
    (try replace B2:=B2.nx kk)
    replace hHeld:=hHeld.nx kk
    clear kk
    refine hK.out _ _ (hHeld) (fun hHeld=>?_)
    clear hK K
    try simp only [Act.put,sA,sB,sC]
    refine rL 2 (by kernel_rfl) rfl fun K hK=>?_
    go_simp
    (with_reducible refine (round_f _ _ _ prN _ _ _ F19b.peers _ _ _ F19b.msgs none 0 0 [] none 0 0 [] 0 _ s5 (by omega) (by omega) (by unfold maxLen;omega) prW (RB.out.nx hHeld).1 (by omega) smB (RB.out.nx hHeld).2 (by omega) (Sl.nil _ _ _ _) (by omega) (by unfold maxLen;omega) (Sl.nil _ _ _ _) (by omega) (by unfold maxLen;omega)).mono ?_)
    rintro e wa2 ⟨vP,vM,qs,rfl,FO,kk⟩
    replace FO:=FlOwn.lower (F:=F19c) (base':=w5.heap.size) FO hHeld.size
    obtain ⟨aQ,cQ,aR,cR,rfl,rfl,_⟩:=FO.rdf
    rw [lenC,msC] at FO ⊢
    (try replace B2:=B2.nx kk)
    replace hHeld:=hHeld.nx kk
    clear kk s5
    refine hK.out _ _ (hHeld) (fun hHeld=>?_)
    clear hK K
    try simp only [Act.put,sA,sB,sC]
    refine rLL 4 (by kernel_rfl) rfl (by rfl) fun K hK=>?_
    have r0:=B2.cell 0 _ rfl
    have r1:=B2.cell 1 _ rfl
    have f0:=B2.free 0
    have f1:=B2.free 1
    go_simp
    clear r0 r1 f0 f1
    refine hK.out _ _ ?_
    clear hK K
    try simp only [Act.put,sA,sB,sC]
    refine wpAnyL_done (by kernel_rfl) ?_ _
    obtain ⟨wz,hwz,BZ,KB,KE⟩:=storeF B2 hHeld zg2 (.slice aQ 2 cQ) (.slice aR 2 cR)
    rw [← hwz]
    have FOZ:=FO.putB B2 (by decide) (by decide) (by decide) (by decide) KB
    obtain ⟨aX,cX,aY,cY,ex,ey,RZ⟩:=FOZ.rdf
    rw [lenC] at ex RZ
    rw [msC] at ey RZ
    cases ex
    cases ey
    have RX:=lH RZ
    have BX:=lH BZ
    clear RZ BZ FOZ FO hHeld hDrew hwz KB zg2
    have CUT:=lH (show S2Rel w5 F19c 2 (.pointer (some ⟨g2,0,none⟩)) wz from ⟨g2,aQ,cQ,aR,cR,rfl,BX.out,RX.out,KE⟩)
    clear KE
    go_wp2_with fail
    go_meet
    exact CUT.out
  case rest =>
   rename World=>w6
   obtain ⟨g3,aX,cX,aY,cY,rfl,B3,RC,kk⟩:=hcut
   replace RA:=lH (RA.out.nx kk)
   replace RB:=lH (RB.out.nx kk)
   replace B1H:=lH (B1H.out.nx kk)
   replace B2H:=lH (B2H.out.nx kk)
   replace K:=lH (K.out.nx kk)
   have B3H:=lH B3
   obtain ⟨x5,o5,b1,m1,d1,b4,m4,d4,y,hea,hx5,hy,e0,e1,e2,e3,e4,s1,s4⟩:=RC.1.rd (show 0<2 by omega)
   subst hea
   have hyr:y.right=2:=by have:=rightC;rw [hy] at this;simpa using this
   have EY3:Hid (∀ wq,Ex w6 wq→wq.cell? ⟨x5,o5+3,none⟩=some (.int .i64 2)):=lH (fun wq kq=>Chg.cellv kq (by rw [← hyr];simpa using e3) hx5)
   obtain ⟨x5',o5',b1',m1',d1',b4',m4',d4',z,hea,hx5',hz,f0,f1,f2,f3,f4,t1,t4⟩:=RC.1.rd (show 1<2 by omega)
   cases hea
   have hzl:z.left=1:=by have:=leftC;rw [hz] at this;simpa using this
   have EZ2:Hid (∀ wq,Ex w6 wq→wq.cell? ⟨x5,o5+5+2,none⟩=some (.int .i64 1)):=lH (fun wq kq=>Chg.cellv kq (by rw [← hzl];simpa using f2) hx5)
   clear e0 e1 e2 e3 e4 s1 s4 hy hyr f0 f1 f2 f3 f4 t1 t4 hz hzl kk RC B3 hx5'
   go_upto_region 4 with fail
   refine wp_region_held_drew (S:=Ex w6) (by kernel_rfl) ((Ex.refl w6).drew) (fun hHeld=>?_)
   obtain ⟨wd,hwdx⟩:∃ wd:World,wd=World.drew w6:=⟨_,rfl⟩
   rw [← hwdx] at hHeld ⊢
   have hDrew:Ex w6 wd:=by rw [hwdx];exact (Ex.refl w6).drew
   clear hwdx
   refine tkH 0 (v:=?_) rfl (by kernel_rfl) (fun _ _ _ h=>h) (by rfl) ?y5 hHeld ?_
   case y5=>intro wq hSw;go_simp<;>rfl
   try simp only [Act.put,sA,sB,sC]
   refine tkH 1 (v:=?_) rfl (by kernel_rfl) (fun _ _ _ h=>h) (by rfl) ?y8 hHeld ?_
   case y8=>intro wq hSw;(have cq:=(B1H.out.nx hSw).cell 0 _ rfl;go_simp)<;>rfl
   try simp only [Act.put,sA,sB,sC]
   refine tkH 2 (v:=?_) rfl (by kernel_rfl) (fun _ _ _ h=>h) (by rfl) ?y11 hHeld ?_
   case y11=>intro wq hSw;go_simp<;>rfl
   try simp only [Act.put,sA,sB,sC]
   refine tkH 3 (v:=?_) rfl (by kernel_rfl) (fun _ _ _ h=>h) (by rfl) ?y14 hHeld ?_
   case y14=>intro wq hSw;go_simp<;>rfl
   try simp only [Act.put,sA,sB,sC]
   refine tkH 4 (v:=?_) rfl (by kernel_rfl) (fun _ _ _ h=>h) (by rfl) ?y17 hHeld ?_
   case y17=>intro wq hSw;go_simp<;>rfl
   try simp only [Act.put,sA,sB,sC]
   refine tkH 5 (v:=?_) rfl (by kernel_rfl) (fun _ _ _ h=>h) (by rfl) ?y20 hHeld ?_
   case y20=>intro wq hSw;go_simp<;>rfl
   try simp only [Act.put,sA,sB,sC]
   refine tkH 6 (v:=?_) rfl (by kernel_rfl) (fun _ _ _ h=>h) (by rfl) ?y23 hHeld ?_
   case y23=>intro wq hSw;(have cq:=(B2H.out.nx hSw).cell 1 _ rfl;go_simp)<;>rfl
   try simp only [Act.put,sA,sB,sC]
   refine tkH 7 (v:=?_) rfl (by kernel_rfl) (fun _ _ _ h=>h) (by rfl) ?y26 hHeld ?_
   case y26=>intro wq hSw;go_simp<;>rfl
   try simp only [Act.put,sA,sB,sC]
   refine tkH 8 (v:=?_) rfl (by kernel_rfl) (fun _ _ _ h=>h) (by rfl) ?y29 hHeld ?_
   case y29=>intro wq hSw;go_simp<;>rfl
   try simp only [Act.put,sA,sB,sC]
   refine tkH 9 (v:=?_) rfl (by kernel_rfl) (fun _ _ _ h=>h) (by rfl) ?y32 hHeld ?_
   case y32=>intro wq hSw;go_simp<;>rfl
   try simp only [Act.put,sA,sB,sC]
   refine tkH 10 (v:=?_) rfl (by kernel_rfl) (fun _ _ _ h=>h) (by rfl) ?y35 hHeld ?_
   case y35=>intro wq hSw;go_simp<;>rfl
   try simp only [Act.put,sA,sB,sC]
   refine tkH 11 (v:=?_) rfl (by kernel_rfl) (fun _ _ _ h=>h) (by rfl) ?y38 hHeld ?_
   case y38=>intro wq hSw;go_simp<;>rfl
   try simp only [Act.put,sA,sB,sC]
   refine tkH 12 (v:=?_) rfl (by kernel_rfl) (fun _ _ _ h=>h) (by rfl) ?y41 hHeld ?_
   case y41=>intro wq hSw;(have cq:=(B3H.out.nx hSw).cell 0 _ rfl;go_simp)<;>rfl
   try simp only [Act.put,sA,sB,sC]
   refine tkH 13 (v:=?_) rfl (by kernel_rfl) (fun _ _ _ h=>h) (by rfl) ?y44 hHeld ?_
   case y44=>intro wq hSw;go_simp<;>rfl
   try simp only [Act.put,sA,sB,sC]
   refine tkH 14 (v:=?_) rfl (by kernel_rfl) (fun _ _ _ h=>h) (by rfl) ?y47 hHeld ?_
   case y47=>intro wq hSw;go_simp<;>rfl
   try simp only [Act.put,sA,sB,sC]
   refine tkH 15 (v:=?_) rfl (by kernel_rfl) (fun _ _ _ h=>h) (by rfl) ?y50 hHeld ?_
   case y50=>intro wq hSw;go_simp<;>rfl
   try simp only [Act.put,sA,sB,sC]
   refine tkH 16 (v:=?_) rfl (by kernel_rfl) (fun _ _ _ h=>h) (by rfl) ?y53 hHeld ?_
   case y53=>intro wq hSw;go_simp<;>rfl
   try simp only [Act.put,sA,sB,sC]
   refine tkH 17 (v:=?_) rfl (by kernel_rfl) (fun _ _ _ h=>h) (by rfl) ?y56 hHeld ?_
   case y56=>intro wq hSw;go_simp<;>rfl
   try simp only [Act.put,sA,sB,sC]
   refine tkH 18 (v:=?_) rfl (by kernel_rfl) (fun _ _ _ h=>h) (by rfl) ?y59 hHeld ?_
   case y59=>intro wq hSw;(have cq:=(B3H.out.nx hSw).cell 0 _ rfl;go_simp)<;>rfl
   try simp only [Act.put,sA,sB,sC]
   refine tkH 19 (v:=?_) rfl (by kernel_rfl) (fun _ _ _ h=>h) (by rfl) ?y62 hHeld ?_
   case y62=>intro wq hSw;go_simp<;>rfl
   try simp only [Act.put,sA,sB,sC]
   refine tkH 20 (v:=?_) rfl (by kernel_rfl) (fun _ _ _ h=>h) (by rfl) ?y65 hHeld ?_
   case y65=>intro wq hSw;go_simp<;>rfl
   try simp only [Act.put,sA,sB,sC]
   refine tkH 21 (v:=?_) rfl (by kernel_rfl) (fun _ _ _ h=>h) (by rfl) ?y68 hHeld ?_
   case y68=>intro wq hSw;(have cq:=EY3.out _ hSw;go_simp)<;>rfl
   try simp only [Act.put,sA,sB,sC]
   refine tkH 22 (v:=?_) rfl (by kernel_rfl) (fun _ _ _ h=>h) (by rfl) ?y71 hHeld ?_
   case y71=>intro wq hSw;go_simp<;>rfl
   try simp only [Act.put,sA,sB,sC]
   refine tkH 23 (v:=?_) rfl (by kernel_rfl) (fun _ _ _ h=>h) (by rfl) ?y74 hHeld ?_
   case y74=>intro wq hSw;go_simp<;>rfl
   try simp only [Act.put,sA,sB,sC]
   refine tkH 24 (v:=?_) rfl (by kernel_rfl) (fun _ _ _ h=>h) (by rfl) ?y77 hHeld ?_
   case y77=>intro wq hSw;go_simp<;>rfl
   try simp only [Act.put,sA,sB,sC]
   refine tkH 25 (v:=?_) rfl (by kernel_rfl) (fun _ _ _ h=>h) (by rfl) ?y80 hHeld ?_
   case y80=>intro wq hSw;go_simp<;>rfl
   try simp only [Act.put,sA,sB,sC]
   refine tkH 26 (v:=?_) rfl (by kernel_rfl) (fun _ _ _ h=>h) (by rfl) ?y83 hHeld ?_
   case y83=>intro wq hSw;(have cq:=(B3H.out.nx hSw).cell 0 _ rfl;go_simp)<;>rfl
   try simp only [Act.put,sA,sB,sC]
   refine tkH 27 (v:=?_) rfl (by kernel_rfl) (fun _ _ _ h=>h) (by rfl) ?y86 hHeld ?_
   case y86=>intro wq hSw;go_simp<;>rfl
   try simp only [Act.put,sA,sB,sC]
   refine tkH 28 (v:=?_) rfl (by kernel_rfl) (fun _ _ _ h=>h) (by rfl) ?y89 hHeld ?_
   case y89=>intro wq hSw;go_simp<;>rfl
   try simp only [Act.put,sA,sB,sC]
   refine tkH 29 (v:=?_) rfl (by kernel_rfl) (fun _ _ _ h=>h) (by rfl) ?y92 hHeld ?_
   case y92=>intro wq hSw;(have cq:=EZ2.out _ hSw;go_simp)<;>rfl
   try simp only [Act.put,sA,sB,sC]
   refine tkH 30 (v:=?_) rfl (by kernel_rfl) (fun _ _ _ h=>h) (by rfl) ?y95 hHeld ?_
   case y95=>intro wq hSw;go_simp<;>rfl
   try simp only [Act.put,sA,sB,sC]
   refine tkH 31 (v:=?_) rfl (by kernel_rfl) (fun _ _ _ h=>h) (by rfl) ?y98 hHeld ?_
   case y98=>intro wq hSw;go_simp<;>rfl
   try simp only [Act.put,sA,sB,sC]
   refine tkH 32 (v:=?_) rfl (by kernel_rfl) (fun _ _ _ h=>h) (by rfl) ?y101 hHeld ?_
   case y101=>intro wq hSw;go_simp<;>rfl
   try simp only [Act.put,sA,sB,sC]
   refine tkH 34 (v:=?_) rfl (by kernel_rfl) (fun _ _ _ h=>h) (by rfl) ?y104 hHeld ?_
   case y104=>intro wq hSw;(have cq0:=(B1H.out.nx hSw).cell 0 _ rfl;have cq1:=(B1H.out.nx hSw).cell 1 _ rfl;go_simp)<;>rfl
   try simp only [Act.put,sA,sB,sC]
   refine rH 33 (by kernel_rfl) rfl fun K hK=>?_
   go_simp
   (with_reducible refine (pair_x _).mono ?_)
   rintro e wa ⟨a5,rfl,s5,kk⟩
   replace hHeld:=hHeld.nx kk
   clear kk
   refine hK.out _ _ (hHeld) (fun hHeld=>?_)
   clear hK K
   try simp only [Act.put,sA,sB,sC]
   refine rH 35 (by kernel_rfl) rfl fun K hK=>?_
   go_simp
   (with_reducible refine (conn_f _ _ _ prN _ _ _ F19a.peers _ _ _ F19a.msgs _ s5 (by omega) (by omega) (by unfold maxLen;omega) (RA.out.nx hHeld).1 (by omega) smA (RA.out.nx hHeld).2 (by omega)).mono ?_)
   rintro e wa ⟨rfl,kk⟩
   rw [show conF prN ⟨F19a.peers,F19a.msgs⟩=true from conA]
   replace hHeld:=hHeld.nx kk
   clear kk s5
   refine hK.out _ _ (hHeld) (fun hHeld=>?_)
   clear hK K
   try simp only [Act.put,sA,sB,sC]
   refine tkH 36 (v:=?_) rfl (by kernel_rfl) (fun _ _ _ h=>h) (by rfl) ?y128 hHeld ?_
   case y128=>intro wq hSw;go_simp<;>rfl
   try simp only [Act.put,sA,sB,sC]
   refine tkH 37 (v:=?_) rfl (by kernel_rfl) (fun _ _ _ h=>h) (by rfl) ?y131 hHeld ?_
   case y131=>intro wq hSw;go_simp<;>rfl
   try simp only [Act.put,sA,sB,sC]
   refine tkH 38 (v:=?_) rfl (by kernel_rfl) (fun _ _ _ h=>h) (by rfl) ?y134 hHeld ?_
   case y134=>intro wq hSw;(have cq0:=(B2H.out.nx hSw).cell 0 _ rfl;have cq1:=(B2H.out.nx hSw).cell 1 _ rfl;go_simp)<;>rfl
   try simp only [Act.put,sA,sB,sC]
   refine rH 39 (by kernel_rfl) rfl fun K hK=>?_
   go_simp
   (with_reducible refine (dbl_f _ _ _ F19b.peers _ _ _ F19b.msgs 0 _ (RB.out.nx hHeld).1 (by omega) smB1 (RB.out.nx hHeld).2 (by omega)).mono ?_)
   rintro e wa ⟨vP,vM,qs,rfl,FO,kk⟩
   replace FO:=FlOwn.rdf (F:=dblF F19b 0 4096) FO
   obtain ⟨aE,cE,aG,cG,rfl,rfl,_⟩:=FO
   rw [dblB]
   replace hHeld:=hHeld.nx kk
   clear kk
   refine hK.out _ _ (hHeld) (fun hHeld=>?_)
   clear hK K
   try simp only [Act.put,sA,sB,sC]
   refine tkH 40 (v:=?_) rfl (by kernel_rfl) (fun _ _ _ h=>h) (by rfl) ?y150 hHeld ?_
   case y150=>intro wq hSw;(go_simp;rw [fieldMs];rfl)<;>rfl
   try simp only [Act.put,sA,sB,sC]
   refine tkH 41 (v:=?_) rfl (by kernel_rfl) (fun _ _ _ h=>h) (by rfl) ?y153 hHeld ?_
   case y153=>intro wq hSw;go_simp<;>rfl
   try simp only [Act.put,sA,sB,sC]
   refine tkH 42 (v:=?_) rfl (by kernel_rfl) (fun _ _ _ h=>h) (by rfl) ?y156 hHeld ?_
   case y156=>intro wq hSw;go_simp<;>rfl
   try simp only [Act.put,sA,sB,sC]
   refine tkH 43 (v:=?_) rfl (by kernel_rfl) (fun _ _ _ h=>h) (by rfl) ?y159 hHeld ?_
   case y159=>intro wq hSw;go_simp<;>rfl
   try simp only [Act.put,sA,sB,sC]
   refine tkH 44 (v:=?_) rfl (by kernel_rfl) (fun _ _ _ h=>h) (by rfl) ?y162 hHeld ?_
   case y162=>intro wq hSw;go_simp<;>rfl
   try simp only [Act.put,sA,sB,sC]
   refine tkH 46 (v:=?_) rfl (by kernel_rfl) (fun _ _ _ h=>h) (by rfl) ?y165 hHeld ?_
   case y165=>intro wq hSw;(have cq0:=(B2H.out.nx hSw).cell 0 _ rfl;have cq1:=(B2H.out.nx hSw).cell 1 _ rfl;go_simp)<;>rfl
   try simp only [Act.put,sA,sB,sC]
   refine rH 45 (by kernel_rfl) rfl fun K hK=>?_
   go_simp
   (with_reducible refine (pair_x _).mono ?_)
   rintro e wa ⟨a5,rfl,s5,kk⟩
   replace hHeld:=hHeld.nx kk
   clear kk
   refine hK.out _ _ (hHeld) (fun hHeld=>?_)
   clear hK K
   try simp only [Act.put,sA,sB,sC]
   refine rH 47 (by kernel_rfl) rfl fun K hK=>?_
   go_simp
   (with_reducible refine (del_f _ _ _ prN _ _ _ F19b.peers _ _ _ F19b.msgs 0 _ s5 (by omega) (by omega) (by unfold maxLen;omega) (RB.out.nx hHeld).1 (by omega) smB1 (RB.out.nx hHeld).2 (by omega) smB2).mono ?_)
   rintro e wa ⟨vP,vM,qs,rfl,FO,kk⟩
   replace FO:=FlOwn.rdf (F:=delF prN F19b 0) FO
   obtain ⟨aE,cE,aG,cG,rfl,rfl,_⟩:=FO
   rw [delB]
   replace hHeld:=hHeld.nx kk
   clear kk s5
   refine hK.out _ _ (hHeld) (fun hHeld=>?_)
   clear hK K
   try simp only [Act.put,sA,sB,sC]
   refine tkH 48 (v:=?_) rfl (by kernel_rfl) (fun _ _ _ h=>h) (by rfl) ?y191 hHeld ?_
   case y191=>intro wq hSw;(go_simp;rw [fieldMs];rfl)<;>rfl
   try simp only [Act.put,sA,sB,sC]
   refine tkH 49 (v:=?_) rfl (by kernel_rfl) (fun _ _ _ h=>h) (by rfl) ?y194 hHeld ?_
   case y194=>intro wq hSw;go_simp<;>rfl
   try simp only [Act.put,sA,sB,sC]
   refine tkH 50 (v:=?_) rfl (by kernel_rfl) (fun _ _ _ h=>h) (by rfl) ?y197 hHeld ?_
   case y197=>intro wq hSw;go_simp<;>rfl
   try simp only [Act.put,sA,sB,sC]
   refine tkH 51 (v:=?_) rfl (by kernel_rfl) (fun _ _ _ h=>h) (by rfl) ?y200 hHeld ?_
   case y200=>intro wq hSw;go_simp<;>rfl
   try simp only [Act.put,sA,sB,sC]
   refine tkH 52 (v:=?_) rfl (by kernel_rfl) (fun _ _ _ h=>h) (by rfl) ?y203 hHeld ?_
   case y203=>intro wq hSw;go_simp<;>rfl
   try simp only [Act.put,sA,sB,sC]
   refine tkH 54 (v:=?_) rfl (by kernel_rfl) (fun _ _ _ h=>h) (by rfl) ?y206 hHeld ?_
   case y206=>intro wq hSw;(have cq0:=(B1H.out.nx hSw).cell 0 _ rfl;have cq1:=(B1H.out.nx hSw).cell 1 _ rfl;go_simp)<;>rfl
   try simp only [Act.put,sA,sB,sC]
   refine rH 53 (by kernel_rfl) rfl fun K hK=>?_
   go_simp
   (with_reducible refine (pair_x _).mono ?_)
   rintro e wa ⟨a5,rfl,s5,kk⟩
   replace hHeld:=hHeld.nx kk
   clear kk
   refine hK.out _ _ (hHeld) (fun hHeld=>?_)
   clear hK K
   try simp only [Act.put,sA,sB,sC]
   refine rH 55 (by kernel_rfl) rfl fun K hK=>?_
   go_simp
   (with_reducible refine (tick_f _ _ _ prN _ _ _ F19a.peers _ _ _ F19a.msgs 2 0 _ s5 (by omega) (by omega) (by unfold maxLen;omega) prW (RA.out.nx hHeld).1 (by omega) smA1 (RA.out.nx hHeld).2 (by omega)).mono ?_)
   rintro e wa ⟨vP,vM,qs,rfl,FO,kk⟩
   replace FO:=FlOwn.rdf (F:=tickF prN F19a 2 0) FO
   obtain ⟨aE,cE,aG,cG,rfl,rfl,_⟩:=FO
   rw [tickA]
   replace hHeld:=hHeld.nx kk
   clear kk s5
   refine hK.out _ _ (hHeld) (fun hHeld=>?_)
   clear hK K
   try simp only [Act.put,sA,sB,sC]
   refine tkH 56 (v:=?_) rfl (by kernel_rfl) (fun _ _ _ h=>h) (by rfl) ?y232 hHeld ?_
   case y232=>intro wq hSw;(go_simp;rw [fieldMs];rfl)<;>rfl
   try simp only [Act.put,sA,sB,sC]
   refine tkH 57 (v:=?_) rfl (by kernel_rfl) (fun _ _ _ h=>h) (by rfl) ?y235 hHeld ?_
   case y235=>intro wq hSw;go_simp<;>rfl
   try simp only [Act.put,sA,sB,sC]
   refine tkH 58 (v:=?_) rfl (by kernel_rfl) (fun _ _ _ h=>h) (by rfl) ?y238 hHeld ?_
   case y238=>intro wq hSw;go_simp<;>rfl
   try simp only [Act.put,sA,sB,sC]
   refine tkH 59 (v:=?_) rfl (by kernel_rfl) (fun _ _ _ h=>h) (by rfl) ?y241 hHeld ?_
   case y241=>intro wq hSw;go_simp<;>rfl
   try simp only [Act.put,sA,sB,sC]
   refine wpAnyH_take (i := 60) (oi := ⟨some 0, .assign (.tmp 74), 4, "law.go:24", (#[⟨59, .data⟩, ⟨55, .chain⟩, ⟨0, .phase⟩, ⟨1, .phase⟩, ⟨2, .phase⟩, ⟨3, .phase⟩, ⟨4, .phase⟩, ⟨5, .phase⟩, ⟨6, .phase⟩, ⟨7, .phase⟩, ⟨8, .phase⟩, ⟨9, .phase⟩, ⟨10, .phase⟩, ⟨11, .phase⟩, ⟨12, .phase⟩, ⟨13, .phase⟩, ⟨14, .phase⟩, ⟨15, .phase⟩, ⟨16, .phase⟩, ⟨17, .phase⟩, ⟨18, .phase⟩, ⟨19, .phase⟩, ⟨20, .phase⟩, ⟨21, .phase⟩, ⟨22, .phase⟩, ⟨23, .phase⟩, ⟨24, .phase⟩, ⟨25, .phase⟩, ⟨26, .phase⟩, ⟨27, .phase⟩, ⟨28, .phase⟩, ⟨29, .phase⟩, ⟨30, .phase⟩, ⟨31, .phase⟩, ⟨32, .phase⟩, ⟨33, .phase⟩, ⟨34, .phase⟩, ⟨35, .phase⟩, ⟨36, .phase⟩, ⟨37, .phase⟩, ⟨38, .phase⟩, ⟨39, .phase⟩, ⟨40, .phase⟩, ⟨41, .phase⟩, ⟨42, .phase⟩, ⟨43, .phase⟩, ⟨44, .phase⟩, ⟨45, .phase⟩, ⟨46, .phase⟩, ⟨47, .phase⟩] ++ #[⟨48, .phase⟩, ⟨49, .phase⟩, ⟨50, .phase⟩, ⟨51, .phase⟩, ⟨52, .phase⟩, ⟨53, .phase⟩, ⟨54, .phase⟩, ⟨55, .phase⟩, ⟨56, .phase⟩, ⟨57, .phase⟩, ⟨58, .phase⟩, ⟨59, .phase⟩]), none⟩) (v := ?_) rfl (by kernel_rfl) (by kernel_rfl) (by kernel_rfl) (fun _ _ _ h => h) (Or.inl ⟨by rfl, ?y244⟩) (by assumption) ?_
   case y244=>intro wq hSw;go_simp<;>rfl
   try simp only [Act.put,sA,sB,sC]
   refine wpAnyH_done (by kernel_rfl) ?_ _
   have KE:=lH (K.out.nx hHeld)
   clear hHeld hDrew
   go_wp2_with fail
   go_ret
   exact ⟨rfl,KE.out⟩
end Go.Proofs.YtalmjklljofhbaaGreatDoor
