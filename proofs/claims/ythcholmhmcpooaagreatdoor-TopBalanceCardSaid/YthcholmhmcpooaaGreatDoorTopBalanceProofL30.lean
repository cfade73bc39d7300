/- Texts for TopBalanceProof. -/
import Derived.Deep.LoopGhost
import Derived.Test.YthcholmhmcpooaaGreatDoorTopBalanceProofL22
import Derived.Test.YthcholmhmcpooaaGreatDoorTopBalanceProofL28
set_option linter.unusedSimpArgs false
set_option linter.unusedVariables false

namespace Go.Proofs.YthcholmhmcpooaaGreatDoor
open Go.RowKit Go.Maps
def PredI (g:Nat) (lb:Array Value) (id:Int) (w:World):Prop:=∀ (x:Pr) (h1 h2:Hdr) (w':World),Ex w w'→Calls Tryz.prog g (#[.agg #[.int .i64 x.id,h1.val,.int .i64 x.left,.int .i64 x.right,h2.val]]++lb) w' fun e w''=>e=.returned (.bool (x.id==id))∧Ex w' w''
def idxQ (id:Int) (P:List Pr):Int:=if P.findIdx (fun p=>p.id==id)<P.length then (P.findIdx (fun p=>p.id==id):Int) else -1
theorem idxQ_of {P:List Pr} {id:Int} {k:Nat} {y:Pr} (hy:P[k]?=some y) (he:y.id=id) (hno:∀ j z,j<k→P[j]?=some z→z.id≠id):idxQ id P=k:=by
 have hk:=(List.getElem?_eq_some_iff.1 hy)
 have hkl:=hk.1
 have h1:P.findIdx (fun p=>p.id==id)=k:=by
  rw [List.findIdx_eq hkl]
  refine ⟨by rw [hk.2];simpa using he,fun j hj=>?_⟩
  have:=hno j _ hj (List.getElem?_eq_getElem (by omega))
  simpa using this
 unfold idxQ
 rw [h1,if_pos hkl]
theorem idxQ_none {P:List Pr} {id:Int} (hno:∀ j z,j<P.length→P[j]?=some z→z.id≠id):idxQ id P = -1:=by
 unfold idxQ
 rw [if_neg]
 intro h
 have h1:=List.findIdx_getElem (w:=h)
 have h2:=hno _ _ h (List.getElem?_eq_getElem h)
 simp at h1
 exact h2 h1
theorem idxQ_cases (P:List Pr) (id:Int):(∃ (k:Nat) (y:Pr),idxQ id P=k∧k<P.length∧P[k]?=some y∧peerN P id=y∧y.id=id)∨(idxQ id P = -1∧peerN P id=⟨id,0,0,[],[]⟩):=by
 by_cases h:P.findIdx (fun p=>p.id==id)<P.length
 ·have h1:(P[P.findIdx (fun p=>p.id==id)]).id=id:=by simpa using List.findIdx_getElem (w:=h)
  have hno:∀ j z,j<P.findIdx (fun p=>p.id==id)→P[j]?=some z→z.id≠id:=fun j z hj hz=>by
   have:=List.not_of_lt_findIdx hj
   rw [List.getElem?_eq_getElem (by omega)] at hz
   cases hz
   simpa using this
  exact .inl ⟨_,_,by unfold idxQ;rw [if_pos h],h,List.getElem?_eq_getElem h,peerN_at (List.getElem?_eq_getElem h) h1 hno,h1⟩
 ·have hno:∀ j z,j<P.length→P[j]?=some z→z.id≠id:=fun j z hj hz=>by
   have:=List.not_of_lt_findIdx (p:=fun p:Pr=>p.id==id) (xs:=P) (i:=j) (by omega)
   rw [List.getElem?_eq_getElem (by omega)] at hz
   cases hz
   simpa using this
  exact .inr ⟨by unfold idxQ;rw [if_neg h],peerN_none hno⟩
set_option maxRecDepth 100000 in
set_option maxHeartbeats 2000000 in
theorem idxf_pr (g:Nat) (lb:Array Value) (id:Int) (eg:∀ args w,(callFunc g args).run Tryz.prog w=.ok (.enter g args) w) (a:Option Addr) (n c:Nat) (P:List Pr) (w:World) (h:PL w a n P) (hn:n≤4000000000000000000) (hp:PredI g lb id w) :
  Calls Tryz.prog 149 #[.slice a n c,.func (.func g) #[] lb] w fun e w'=>e=.returned (.int .i64 (idxQ id P))∧Ex w w':=by
 have HL:=lH h.len
 have HP:=lH hp
 have hs:=lH h
 clear h hp
 go_enter Tryz.func149,Tryz.ntmps149
 go_wp2
 go_loopw [8] (fun i wr=>PeRel P id n w i wr) (fun i _=>n-(intOf i).toNat)
 case atStart=>exact ⟨0,by omega,rfl,Ex.refl _,by intro j z h;omega⟩
 case round =>
  obtain ⟨k,hk,rfl,kw,hno⟩:=hrel
  have HNO:=lH hno
  clear hno
  obtain ⟨wo,rfl⟩:∃ wo:World,wo=wr:=⟨_,rfl⟩
  by_cases hlt:k<n
  ·obtain ⟨x3,o3,b1,m1,d1,b4,m4,d4,y,rfl,hx3,hy,e0,e1,e2,e3,e4,s1,s4⟩:=(hs.out.nx kw).rd hlt
   have HY:=lH hy
   have hc:=HP.out y (b1,m1,d1) (b4,m4,d4) wo kw
   have KW:=lH kw
   simp only [Hdr.val] at hc
   clear hy kw s1 s4
   go_wp2_with fail
   refine hc.mono ?_
   rintro e w2 ⟨rfl,k2⟩
   have K2:=lH (KW.out.nx k2)
   clear hc k2 e0 e1 e2 e3 e4
   by_cases hv:y.id=id
   ·have HI:Hid (idxQ id P=k):=lH (idxQ_of HY.out hv HNO.out)
    have hb:(y.id==id)=true:=by simpa using hv
    rw [hb]
    clear hv hb
    go_wp2_with fail
    go_ret
    exact ⟨by rw [HI.out];rfl,K2.out⟩
   ·have HV:=lH hv
    have hb:(y.id==id)=false:=by simpa using hv
    rw [hb]
    clear hv hb
    go_wp2_with fail
    refine ⟨⟨k+1,by omega,by go_num,K2.out,fun j z hj hz=>?_⟩,by simp [intOf];omega⟩
    rcases Nat.lt_or_ge j k with h | h
    ·exact HNO.out j z h hz
    ·obtain rfl:j=k:=by omega
     rw [Option.some.inj (hz.symm.trans HY.out)]
     exact HV.out
  ·obtain rfl:k=n:=by omega
   have HI:Hid (idxQ id P = -1):=lH (idxQ_none (fun j z hj hz=>HNO.out j z (by rw [← HL.out];exact hj) hz))
   have KW:=lH kw
   clear kw hk hlt
   go_wp2_with fail
   go_ret
   exact ⟨by rw [HI.out];rfl,KW.out⟩
theorem find_word {N:List Nd} (hw:∀ x∈N,x.word<4294967296) (id:Int) (h:(findN N id).2=true):(findN N id).1.word<4294967296:=hw _ (findN_mem h).1
set_option maxHeartbeats 1000000 in
theorem other_p (a:Option Addr) (n c:Nat) (N:List Nd) (id own:Int) (w:World) (h:Sl 3 encN w a n N) (hn:n≤1000) :
  Calls Tryz.prog 163 #[.slice a n c,.int .i64 id,.int .i64 own] w fun e w'=>e=.returned (.int .i64 (otherN N id own))∧Ex w w':=by
 have EX:=Ex.refl w
 have E1:Hid (∀ o,o=(findN N id).2→otherN N id own=if o=true∧id≠own then id else 0):=lH (fun o ho=>by rw [ho];rfl)
 go_enter Tryz.func163,Tryz.ntmps163
 go_wp2_with fail
 (with_reducible refine (find_p _ _ _ _ id _ h (by omega)).mono ?_)
 rintro e w1 ⟨rfl,kk⟩
 replace EX:=EX.nx kk
 clear kk
 replace E1:=E1.out _ rfl
 obtain ⟨F,hF⟩:∃ F,F=findN N id:=⟨_,rfl⟩
 rw [← hF] at E1 ⊢
 clear hF h
 obtain ⟨⟨xi,xk,xw⟩,ok⟩:=F
 replace E1:=lH E1
 have B5:=Blk.new w1 [.int .i64 xi,.string xk,.int .u32 xw] 36
 have kk:=Ex.new w1 (.cells #[.int .i64 xi,.string xk,.int .u32 xw] 36)
 obtain ⟨w2,hw2⟩:∃ w2,w2=w1.alloc (.cells #[.int .i64 xi,.string xk,.int .u32 xw] 36):=⟨_,rfl⟩
 obtain ⟨g5,hg5⟩:∃ g5,g5=w1.heap.size:=⟨_,rfl⟩
 replace B5:Blk w2 g5 [.int .i64 xi,.string xk,.int .u32 xw] 36:=by rw [hw2,hg5];exact B5
 rw [← hw2] at kk
 have Hw2:=lH hw2
 have Hg5:=lH hg5
 replace EX:=EX.nx kk
 clear kk hw2 hg5
 simp only [Nd.val]
 go_upto_region 2 with fail
 rw [← Hg5.out,← Hw2.out]
 clear Hg5 Hw2
 clear B5
 cases ok with
 | false =>
  have E1:Hid (otherN N id own=0):=lH (E1.out.trans (if_neg (by simp)))
  go_wp2_with fail
  go_ret
  exact ⟨by rw [E1.out];rfl,EX⟩
 | true =>
  by_cases he:id=own
  ·have EZ:Hid (otherN N id own=0):=lH (E1.out.trans (if_neg (by simp [he])))
   have d1:(id==own)=true:=by simpa using he
   clear he E1
   go_wp2_with fail
   go_ret
   exact ⟨by rw [EZ.out];rfl,EX⟩
  ·have EZ:Hid (otherN N id own=id):=lH (E1.out.trans (if_pos ⟨rfl,he⟩))
   have d1:(id==own)=false:=by simpa using he
   clear he E1
   go_wp2_with fail
   go_ret
   exact ⟨by rw [EZ.out];rfl,EX⟩
theorem pair_no {N:List Nd} {nb:Int} (own:Int) (lev:Nat) (zero one:Int) (h:(findN N nb).2=false):pairB N own nb lev zero one=(0,0):=by unfold pairB;rw [if_neg (by rw [h];simp)]
theorem pair_z {N:List Nd} {nb:Int} (own:Int) (lev:Nat) (zero one:Int) (h:(findN N nb).2=true) (hb:bitN (findN N nb).1.word lev=0):pairB N own nb lev zero one=((findN N nb).1.id,otherN N one own):=by unfold pairB;rw [if_pos h,if_pos hb]
theorem pair_o {N:List Nd} {nb:Int} (own:Int) (lev:Nat) (zero one:Int) (h:(findN N nb).2=true) (hb:¬ bitN (findN N nb).1.word lev=0):pairB N own nb lev zero one=(otherN N zero own,(findN N nb).1.id):=by unfold pairB;rw [if_pos h,if_neg hb]
set_option maxRecDepth 100000 in
set_option maxHeartbeats 2000000 in
theorem pair_p (a:Option Addr) (n c:Nat) (N:List Nd) (own nb:Int) (lev:Nat) (zero one:Int) (w:World) (h:Sl 3 encN w a n N) (hn:n≤1000) (hw:∀ x∈N,x.word<4294967296) (hl:lev≤16) :
  Calls Tryz.prog 202 #[.slice a n c,.int .i64 own,.int .i64 nb,.int .i64 lev,.int .i64 zero,.int .i64 one] w fun e w'=>e=.returned (.tuple #[.int .i64 (pairB N own nb lev zero one).1,.int .i64 (pairB N own nb lev zero one).2])∧Ex w w':=by
 have EX:=Ex.refl w
 have P0:=pair_no (N:=N) (nb:=nb) own lev zero one
 have P1:=pair_z (N:=N) (nb:=nb) own lev zero one
 have P2:=pair_o (N:=N) (nb:=nb) own lev zero one
 have FW:=find_word hw nb
 clear hw
 go_enter Tryz.func202,Tryz.ntmps202
 generalize hPB:pairB N own nb lev zero one=PB at P0 P1 P2 ⊢
 clear hPB
 replace P0:=lH P0
 replace P1:=lH P1
 replace P2:=lH P2
 replace FW:=lH FW
 go_wp2_with fail
 (with_reducible refine (find_p _ _ _ _ nb _ h (by omega)).mono ?_)
 rintro e w1 ⟨rfl,kk⟩
 replace EX:=EX.nx kk
 replace h:=h.nx kk
 clear kk
 replace P0:=P0.out
 replace P1:=P1.out
 replace P2:=P2.out
 replace FW:=FW.out
 obtain ⟨F,hF⟩:∃ F,F=findN N nb:=⟨_,rfl⟩
 rw [← hF] at P0 P1 P2 FW ⊢
 clear hF
 obtain ⟨⟨xi,xk,xw⟩,ok⟩:=F
 have B5:=Blk.new w1 [.int .i64 xi,.string xk,.int .u32 xw] 36
 have kk:=Ex.new w1 (.cells #[.int .i64 xi,.string xk,.int .u32 xw] 36)
 obtain ⟨w2,hw2⟩:∃ w2,w2=w1.alloc (.cells #[.int .i64 xi,.string xk,.int .u32 xw] 36):=⟨_,rfl⟩
 obtain ⟨g5,hg5⟩:∃ g5,g5=w1.heap.size:=⟨_,rfl⟩
 replace B5:Blk w2 g5 [.int .i64 xi,.string xk,.int .u32 xw] 36:=by rw [hw2,hg5];exact B5
 rw [← hw2] at kk
 have Hw2:=lH hw2
 have Hg5:=lH hg5
 replace EX:=EX.nx kk
 replace h:=h.nx kk
 clear kk hw2 hg5
 simp only [Nd.val]
 go_upto_region 2 with fail
 rw [← Hg5.out,← Hw2.out]
 clear Hg5 Hw2
 cases ok with
 | false =>
  have E1:=lH (P0 rfl)
  clear P0 P1 P2 FW h B5
  go_wp2_with fail
  go_ret2
  exact ⟨by rw [E1.out];rfl,EX⟩
 | true =>
  have q2:=B5.cell 2 _ rfl
  have FWh:=FW rfl
  by_cases hb:bitN xw lev=0
  ·have E1:=lH (P1 rfl hb)
   have d1:(((bitN xw lev:Nat):Int)==0)=true:=by rw [hb];rfl
   have BF:Hid (∀ wq,Ex w2 wq→wq.cell? ⟨g5,0,none⟩=some (.int .i64 xi)):=lH (fun wq kq=>(B5.nx kq).cell 0 _ rfl)
   have H:=lH h
   have K:=lH EX
   clear P0 P1 P2 FW h B5 hb EX
   go_wp2_with fail
   refine (bit_p xw lev _ FWh (by omega) (by omega)).mono ?_
   rintro e w3 ⟨rfl,rfl⟩
   clear FWh
   go_upto_region 5 with fail
   clear q2
   refine wp_region_held_drew (S:=Ex w2) (by kernel_rfl) ((Ex.refl w2).drew) (fun hHeld=>?_)
   obtain ⟨wd,hwdx⟩:∃ wd:World,wd=World.drew w2:=⟨_,rfl⟩
   rw [← hwdx] at hHeld ⊢
   have hDrew:Ex w2 wd:=by rw [hwdx];exact (Ex.refl w2).drew
   clear hwdx
   refine tkH 0 (v:=?_) rfl (by kernel_rfl) (fun _ _ _ h=>h) (by rfl) ?y5 hHeld ?_
   case y5=>intro wq hSw;go_simp<;>rfl
   refine tkH 1 (v:=?_) rfl (by kernel_rfl) (fun _ _ _ h=>h) (by rfl) ?y8 hHeld ?_
   case y8=>intro wq hSw;(have cq:=BF.out wq hSw;go_simp)<;>rfl
   refine tkH 2 (v:=?_) rfl (by kernel_rfl) (fun _ _ _ h=>h) (by rfl) ?y11 hHeld ?_
   case y11=>intro wq hSw;go_simp<;>rfl
   refine tkH 3 (v:=?_) rfl (by kernel_rfl) (fun _ _ _ h=>h) (by rfl) ?y14 hHeld ?_
   case y14=>intro wq hSw;go_simp<;>rfl
   refine tkH 4 (v:=?_) rfl (by kernel_rfl) (fun _ _ _ h=>h) (by rfl) ?y17 hHeld ?_
   case y17=>intro wq hSw;go_simp<;>rfl
   refine rH 5 (by kernel_rfl) rfl fun K hK=>?_
   go_simp
   (with_reducible refine (other_p _ _ _ N one own _ (H.out.nx hHeld) hn).mono ?_)
   rintro e wb ⟨rfl,kk⟩
   replace hHeld:=hHeld.nx kk
   clear kk
   refine hK.out _ _ (hHeld) (fun hHeld=>?_)
   clear hK K
   refine tkH 6 (v:=?_) rfl (by kernel_rfl) (fun _ _ _ h=>h) (by rfl) ?y30 hHeld ?_
   case y30=>intro wq hSw;go_simp<;>rfl
   refine tkH 7 (v:=?_) rfl (by kernel_rfl) (fun _ _ _ h=>h) (by rfl) ?y33 hHeld ?_
   case y33=>intro wq hSw;go_simp<;>rfl
   refine wpAnyH_done (by kernel_rfl) ?_ _
   have KE:=lH (K.out.nx hHeld)
   clear hHeld hDrew
   go_wp2_with fail
   go_ret2
   exact ⟨by rw [E1.out];rfl,KE.out⟩
  ·have E1:=lH (P2 rfl hb)
   have d1:(((bitN xw lev:Nat):Int)==0)=false:=by simpa using hb
   have BF:Hid (∀ wq,Ex w2 wq→wq.cell? ⟨g5,0,none⟩=some (.int .i64 xi)):=lH (fun wq kq=>(B5.nx kq).cell 0 _ rfl)
   have H:=lH h
   have K:=lH EX
   clear P0 P1 P2 FW h B5 hb EX
   go_wp2_with fail
   refine (bit_p xw lev _ FWh (by omega) (by omega)).mono ?_
   rintro e w3 ⟨rfl,rfl⟩
   clear FWh
   go_upto_region 6 with fail
   clear q2
   refine wp_region_held_drew (S:=Ex w2) (by kernel_rfl) ((Ex.refl w2).drew) (fun hHeld=>?_)
   obtain ⟨wd,hwdx⟩:∃ wd:World,wd=World.drew w2:=⟨_,rfl⟩
   rw [← hwdx] at hHeld ⊢
   have hDrew:Ex w2 wd:=by rw [hwdx];exact (Ex.refl w2).drew
   clear hwdx
   refine tkH 0 (v:=?_) rfl (by kernel_rfl) (fun _ _ _ h=>h) (by rfl) ?y5 hHeld ?_
   case y5=>intro wq hSw;go_simp<;>rfl
   refine tkH 1 (v:=?_) rfl (by kernel_rfl) (fun _ _ _ h=>h) (by rfl) ?y8 hHeld ?_
   case y8=>intro wq hSw;go_simp<;>rfl
   refine tkH 2 (v:=?_) rfl (by kernel_rfl) (fun _ _ _ h=>h) (by rfl) ?y11 hHeld ?_
   case y11=>intro wq hSw;go_simp<;>rfl
   refine tkH 4 (v:=?_) rfl (by kernel_rfl) (fun _ _ _ h=>h) (by rfl) ?y14 hHeld ?_
   case y14=>intro wq hSw;go_simp<;>rfl
   refine tkH 5 (v:=?_) rfl (by kernel_rfl) (fun _ _ _ h=>h) (by rfl) ?y17 hHeld ?_
   case y17=>intro wq hSw;(have cq:=BF.out wq hSw;go_simp)<;>rfl
   refine rH 3 (by kernel_rfl) rfl fun K hK=>?_
   go_simp
   (with_reducible refine (other_p _ _ _ N zero own _ (H.out.nx hHeld) hn).mono ?_)
   rintro e wb ⟨rfl,kk⟩
   replace hHeld:=hHeld.nx kk
   clear kk
   refine hK.out _ _ (hHeld) (fun hHeld=>?_)
   clear hK K
   refine tkH 6 (v:=?_) rfl (by kernel_rfl) (fun _ _ _ h=>h) (by rfl) ?y30 hHeld ?_
   case y30=>intro wq hSw;go_simp<;>rfl
   refine tkH 7 (v:=?_) rfl (by kernel_rfl) (fun _ _ _ h=>h) (by rfl) ?y33 hHeld ?_
   case y33=>intro wq hSw;go_simp<;>rfl
   refine wpAnyH_done (by kernel_rfl) ?_ _
   have KE:=lH (K.out.nx hHeld)
   clear hHeld hDrew
   go_wp2_with fail
   go_ret2
   exact ⟨by rw [E1.out];rfl,KE.out⟩
theorem at1_p (gx:Nat) (id:Int) (w:World) (hx:Blk w gx [.int .i64 id] 3):PredI 221 #[.pointer (some ⟨gx,0,none⟩)] id w:=by
 intro p h1 h2 w' kk
 have q0:=(hx.nx kk).cell 0 _ rfl
 have hg:=(hx.nx kk).lt
 have hne:¬ gx=w'.heap.size:=by omega
 obtain ⟨a1,n1,c1⟩:=h1
 obtain ⟨a2,n2,c2⟩:=h2
 simp only [Hdr.val]
 clear hx kk
 go_enter Tryz.func221,Tryz.ntmps221
 go_wp2
 go_ret
 exact ⟨rfl,(Ex.refl _).alloc _⟩
def nrV (x:Nr):Value:=.agg #[.int .i64 x.1,.int .i64 x.2.1,.int .i64 x.2.2.1,.int .i64 x.2.2.2]
theorem near_at {p:Pr} {i:Nat} {x:Nr} (h:p.near[i]?=some x):nearAt p i=x:=by unfold nearAt;rw [h];rfl
theorem near_out {p:Pr} {i:Nat} (h:p.near.length≤i):nearAt p i=(0,0,0,0):=by unfold nearAt;rw [List.getElem?_eq_none h];rfl
set_option maxRecDepth 100000 in
set_option maxHeartbeats 2000000 in
theorem at_p (a2:Option Addr) (n2 c2:Nat) (P:List Pr) (id:Int) (lev:Nat) (w:World) (h2:PL w a2 n2 P) (hn2:n2≤4000000000000000000) (hP:∀ p∈P,p.near.length≤4000000000000000000) (hl:lev≤16) :
  Calls Tryz.prog 201 #[.slice a2 n2 c2,.int .i64 id,.int .i64 lev] w fun e w'=>e=.returned (nrV (nearAt (peerN P id) lev))∧Ex w w':=by
 have EG:Hid (∀ args w,(callFunc 221 args).run Tryz.prog w=.ok (.enter 221 args) w):=lH (enters_of Tryz.func221 (by kernel_rfl) rfl)
 have EX:=Ex.refl w
 have HP:=lH hP
 clear hP
 have hwi:w.heap.size≤w.heap.size:=Nat.le_refl _
 obtain ⟨g4,hg4⟩:∃ g4,g4=w.heap.size:=⟨_,rfl⟩
 obtain ⟨g6,hg6⟩:∃ g6,g6=(w.heap.size+1):=⟨_,rfl⟩
 obtain ⟨w1,hw1⟩:∃ w1,w1=((w.alloc (.cells #[.int .i64 id] 3)).alloc (.cells #[.int .i64 0,.int .i64 0,.int .i64 0,.int .i64 0] 158)):=⟨_,rfl⟩
 have kk:Ex w w1:=by rw [hw1];exact (((Ex.refl w).alloc (.cells #[.int .i64 id] 3)).alloc (.cells #[.int .i64 0,.int .i64 0,.int .i64 0,.int .i64 0] 158))
 have B4:Blk w1 g4 [.int .i64 id] 3:=by rw [hw1];simp only [hg4,hg6];have hbk:=((Blk.new w [.int .i64 id] 3).nx (Ex.new _ (.cells #[.int .i64 0,.int .i64 0,.int .i64 0,.int .i64 0] 158)));simpa using hbk
 have B6:Blk w1 g6 [.int .i64 0,.int .i64 0,.int .i64 0,.int .i64 0] 158:=by rw [hw1];simp only [hg4,hg6];have hbk:=(Blk.new (w.alloc (.cells #[.int .i64 id] 3)) [.int .i64 0,.int .i64 0,.int .i64 0,.int .i64 0] 158);simpa using hbk
 have Hw1:=lH hw1
 have Hg4:=lH hg4
 have Hg6:=lH hg6
 replace h2:=h2.nx kk
 replace EX:=EX.nx kk
 have hz6:w.heap.size≤g6:=by omega
 clear kk hw1 hg4 hg6
 go_enter Tryz.func201,Tryz.ntmps201
 go_upto_region 1 with fail
 rw [← Hw1.out,← Hg6.out,← Hg4.out]
 clear Hw1 Hg6 Hg4
 have PI:=at1_p g4 id w1 B4
 replace B6:=lH B6
 clear B4
 go_wp2_with fail
 (with_reducible refine (idxf_pr _ _ _ EG.out _ _ _ P _ h2 hn2 PI).mono ?_)
 rintro e w2 ⟨rfl,kk⟩
 replace B6:=B6.out.nx kk
 replace EX:=EX.nx kk
 replace h2:=h2.nx kk
 clear kk PI
 have f0:=B6.free 0
 have f1:=B6.free 1
 have f2:=B6.free 2
 have f3:=B6.free 3
 have c0:=B6.cell 0 _ rfl
 have c1:=B6.cell 1 _ rfl
 have c2:=B6.cell 2 _ rfl
 have c3:=B6.cell 3 _ rfl
 rcases idxQ_cases P id with ⟨k,y,hq,hkl,hyk,hpy,-⟩ | ⟨hq,hpy⟩
 ·rw [hq]
  have hk2:k<n2:=by have:=h2.len;omega
  have hk0:¬ (k:Int)<0:=by omega
  have hk1:(0:Int)≤(k:Int):=by omega
  have hk3:(k:Int)<(n2:Int):=by omega
  obtain ⟨x5,o5,b1,m1,d1,b4,m4,d4,y',rfl,hx5,hy',e0,e1,e2,e3,e4,s1,s4⟩:=h2.rd hk2
  obtain rfl:y=y':=Option.some.inj (hyk.symm.trans hy')
  have hm4:=s4.len
  have hyP:=HP.out y (List.mem_of_getElem? hyk)
  have HPY:=lH hpy
  clear e0 e1 e2 e3 s1 hy' hkl hq hpy hyk h2
  by_cases hlt:lev<m4
  ·obtain ⟨x6,o6,ny,rfl,hx6,hny,hc6⟩:=s4.at hlt
   have V:Hid (nearAt (peerN P id) lev=ny):=lH (by rw [HPY.out];exact near_at hny)
   have r0:w2.cell? ⟨x6,o6+lev*4,none⟩=some (.int .i64 ny.1):=hc6 0 _ rfl
   have r1:w2.cell? ⟨x6,o6+lev*4+1,none⟩=some (.int .i64 ny.2.1):=hc6 1 _ rfl
   have r2:w2.cell? ⟨x6,o6+lev*4+1+1,none⟩=some (.int .i64 ny.2.2.1):=by simpa [Nat.add_assoc] using hc6 2 _ rfl
   have r3:w2.cell? ⟨x6,o6+lev*4+1+1+1,none⟩=some (.int .i64 ny.2.2.2):=by simpa [Nat.add_assoc] using hc6 3 _ rfl
   have d1:decide ((lev:Int) ≥ (m4:Int))=false:=by simp;omega
   have d2:decide ((m4:Int)≤(lev:Int))=false:=by simp;omega
   have hl1:(lev:Int)<(m4:Int):=by omega
   have KE:=lH ((((EX.setNew (p:=⟨g6,0,none⟩) (.int .i64 ny.1) hz6).setNew (p:=⟨g6,1,none⟩) (.int .i64 ny.2.1) hz6).setNew (p:=⟨g6,2,none⟩) (.int .i64 ny.2.2.1) hz6).setNew (p:=⟨g6,3,none⟩) (.int .i64 ny.2.2.2) hz6)
   clear s4 hc6 hny EX HPY
   go_wp2_with fail
   refine bodyPost_ret (v:=nrV ny) (by simp [results,Tryz.results201,go_sem,nrV, *]) rfl ⟨by rw [V.out],KE.out⟩
  ·have V:Hid (nearAt (peerN P id) lev=(0,0,0,0)):=lH (by rw [HPY.out];exact near_out (by omega))
   have hge:m4≤lev:=by omega
   have KE:=lH ((((EX.setNew (p:=⟨g6,0,none⟩) (.int .i64 0) hz6).setNew (p:=⟨g6,1,none⟩) (.int .i64 0) hz6).setNew (p:=⟨g6,2,none⟩) (.int .i64 0) hz6).setNew (p:=⟨g6,3,none⟩) (.int .i64 0) hz6)
   clear s4 EX HPY hlt
   go_wp2_with fail
   refine bodyPost_ret (v:=nrV (0,0,0,0)) (by simp [results,Tryz.results201,go_sem,nrV, *]) rfl ⟨by rw [V.out],KE.out⟩
 ·rw [hq]
  have V:Hid (nearAt (peerN P id) lev=(0,0,0,0)):=lH (by rw [hpy];exact near_out (Nat.zero_le _))
  have KE:=lH ((((EX.setNew (p:=⟨g6,0,none⟩) (.int .i64 0) hz6).setNew (p:=⟨g6,1,none⟩) (.int .i64 0) hz6).setNew (p:=⟨g6,2,none⟩) (.int .i64 0) hz6).setNew (p:=⟨g6,3,none⟩) (.int .i64 0) hz6)
  clear hq hpy EX h2
  go_wp2_with fail
  refine bodyPost_ret (v:=nrV (0,0,0,0)) (by simp [results,Tryz.results201,go_sem,nrV, *]) rfl ⟨by rw [V.out],KE.out⟩
theorem link_no {N:List Nd} {p:Pr} {lev:Int} (h:¬ ((findN N p.id).2=true∧checkN N=0∧lvlN lev=true∧lev≤p.near.length)):linkB N p lev=(0,0):=by unfold linkB;rw [if_neg h]
theorem link_zero {N:List Nd} {p:Pr} {lev:Int} (h:(findN N p.id).2=true∧checkN N=0∧lvlN lev=true∧lev≤p.near.length) (h0:lev=0):linkB N p lev=(otherN N p.left p.id,otherN N p.right p.id):=by unfold linkB;rw [if_pos h,if_pos h0]
theorem link_bit {N:List Nd} {p:Pr} {lev:Int} {x:Nr} (h:(findN N p.id).2=true∧checkN N=0∧lvlN lev=true∧lev≤p.near.length) (h0:¬ lev=0) (hx:nearAt p (lev-1).toNat=x) :
  (bitN (findN N p.id).1.word (lev-1)=1→linkB N p lev=(otherN N x.2.1 p.id,otherN N x.2.2.2 p.id))∧(¬ bitN (findN N p.id).1.word (lev-1)=1→linkB N p lev=(otherN N x.1 p.id,otherN N x.2.2.1 p.id)):=by
 unfold linkB
 rw [if_pos h,if_neg h0,hx]
 exact ⟨fun hb=>by rw [if_pos hb],fun hb=>by rw [if_neg hb]⟩
theorem lvl_of {lev:Int} (h0:0≤lev) (h1:lev≤16):lvlN lev=true:=by unfold lvlN;simp;omega
set_option maxRecDepth 100000 in
set_option maxHeartbeats 4000000 in
theorem link_p (a:Option Addr) (n c:Nat) (N:List Nd) (p:Pr) (a1:Option Addr) (n1 c1:Nat) (a2:Option Addr) (n2 c2:Nat) (lev:Int) (w:World) (h:Sl 3 encN w a n N) (hn:n≤1000) (hc:n≤c) (hm:c≤maxLen) (hw:∀ x∈N,x.word<4294967296) (h2:Sl 4 encNr w a2 n2 p.near) (hn2:n2≤4000000000000000000) :
  Calls Tryz.prog 90 #[.slice a n c,.agg #[.int .i64 p.id,.slice a1 n1 c1,.int .i64 p.left,.int .i64 p.right,.slice a2 n2 c2],.int .i64 lev] w fun e w'=>e=.returned (.agg #[.int .i64 (linkB N p lev).1,.int .i64 (linkB N p lev).2])∧Ex w w':=by
 have EX:=Ex.refl w
 have H0:=lH h
 have FW:=lH (find_word hw p.id)
 have LN:=lH (link_no (N:=N) (p:=p) (lev:=lev))
 have LZ:=lH (link_zero (N:=N) (p:=p) (lev:=lev))
 have LB:=lH (fun x=>link_bit (N:=N) (p:=p) (lev:=lev) (x:=x))
 have hml:=h2.len
 rw [hml] at LN LZ LB
 clear hw
 generalize hLB:linkB N p lev=L at LN LZ LB ⊢
 clear hLB
 obtain ⟨g4,hg4⟩:∃ g4,g4=w.heap.size:=⟨_,rfl⟩
 obtain ⟨g6,hg6⟩:∃ g6,g6=(w.heap.size+1):=⟨_,rfl⟩
 obtain ⟨w1,hw1⟩:∃ w1,w1=((w.alloc (.cells #[.int .i64 p.id,.slice a1 n1 c1,.int .i64 p.left,.int .i64 p.right,.slice a2 n2 c2] 150)).alloc (.cells #[.int .i64 0,.int .i64 0] 128)):=⟨_,rfl⟩
 have kk:Ex w w1:=by rw [hw1];exact (((Ex.refl w).alloc (.cells #[.int .i64 p.id,.slice a1 n1 c1,.int .i64 p.left,.int .i64 p.right,.slice a2 n2 c2] 150)).alloc (.cells #[.int .i64 0,.int .i64 0] 128))
 have B4:Blk w1 g4 [.int .i64 p.id,.slice a1 n1 c1,.int .i64 p.left,.int .i64 p.right,.slice a2 n2 c2] 150:=by rw [hw1];simp only [hg4,hg6];have hbk:=((Blk.new w [.int .i64 p.id,.slice a1 n1 c1,.int .i64 p.left,.int .i64 p.right,.slice a2 n2 c2] 150).nx (Ex.new _ (.cells #[.int .i64 0,.int .i64 0] 128)));simpa using hbk
 have B6:Blk w1 g6 [.int .i64 0,.int .i64 0] 128:=by rw [hw1];simp only [hg4,hg6];have hbk:=(Blk.new (w.alloc (.cells #[.int .i64 p.id,.slice a1 n1 c1,.int .i64 p.left,.int .i64 p.right,.slice a2 n2 c2] 150)) [.int .i64 0,.int .i64 0] 128);simpa using hbk
 have Hw1:=lH hw1
 have Hg4:=lH hg4
 have Hg6:=lH hg6
 replace h:=h.nx kk
 replace h2:=h2.nx kk
 replace EX:=EX.nx kk
 have zg6:w.heap.size≤g6:=by omega
 clear kk hw1 hg4 hg6
 go_enter Tryz.func90,Tryz.ntmps90
 go_upto_region 1 with fail
 rw [← Hw1.out,← Hg6.out,← Hg4.out]
 clear Hw1 Hg6 Hg4
 have q0:=B4.cell 0 _ rfl
 go_wp2_with fail
 (with_reducible refine (find_p _ _ _ _ p.id _ h (by omega)).mono ?_)
 rintro e w2 ⟨rfl,kk⟩
 replace h:=h.nx kk
 replace h2:=h2.nx kk
 replace EX:=EX.nx kk
 replace B4:=B4.nx kk
 replace B6:=B6.nx kk
 clear kk
 replace FW:=FW.out
 replace LN:=LN.out
 replace LZ:=LZ.out
 replace LB:=LB.out
 obtain ⟨F,hF⟩:∃ F,F=findN N p.id:=⟨_,rfl⟩
 rw [← hF] at FW LN LZ LB ⊢
 clear hF q0
 obtain ⟨⟨xi,xk,xw⟩,ok⟩:=F
 replace FW:=lH FW
 replace LN:=lH LN
 replace LZ:=lH LZ
 replace LB:=lH LB
 have B7:=Blk.new w2 [.int .i64 xi,.string xk,.int .u32 xw] 36
 have kk:=Ex.new w2 (.cells #[.int .i64 xi,.string xk,.int .u32 xw] 36)
 obtain ⟨w3,hw3⟩:∃ w3,w3=w2.alloc (.cells #[.int .i64 xi,.string xk,.int .u32 xw] 36):=⟨_,rfl⟩
 obtain ⟨g7,hg7⟩:∃ g7,g7=w2.heap.size:=⟨_,rfl⟩
 replace B7:Blk w3 g7 [.int .i64 xi,.string xk,.int .u32 xw] 36:=by rw [hw3,hg7];exact B7
 rw [← hw3] at kk
 have Hw3:=lH hw3
 have Hg7:=lH hg7
 replace h:=h.nx kk
 replace h2:=h2.nx kk
 replace EX:=EX.nx kk
 replace B4:=B4.nx kk
 replace B6:=B6.nx kk
 clear kk hw3 hg7
 simp only [Nd.val]
 go_upto_region 2 with fail
 rw [← Hg7.out,← Hw3.out]
 clear Hg7 Hw3
 have FAIL:∀ wz,wz=w3→1=1:=fun _ _=>rfl
 clear FAIL
 by_cases hok:ok=true
 case neg =>
  obtain rfl:ok=false:=by simpa using hok
  have E0:Hid (L=(0,0)):=lH (LN.out (fun hh=>by cases hh.1))
  have r0:=B6.cell 0 _ rfl
  have r1:=B6.cell 1 _ rfl
  have f0:=B6.free 0
  have f1:=B6.free 1
  have KE:=lH ((EX.setNew (p:=⟨g6,0,none⟩) (.int .i64 0) zg6).setNew (p:=⟨g6,1,none⟩) (.int .i64 0) zg6)
  clear h h2 EX B4 B6 B7 hok
  go_wp2_with fail
  refine bodyPost_ret (v:=.agg #[.int .i64 0,.int .i64 0]) (by simp [results,Tryz.results90,go_sem, *]) rfl ⟨by rw [E0.out],KE.out⟩
 subst hok
 go_wp2_with fail
 (with_reducible refine (check_p _ _ _ _ _ h (by omega) hc hm).mono ?_)
 rintro e w4 ⟨rfl,kk⟩
 replace h:=h.nx kk
 replace h2:=h2.nx kk
 replace EX:=EX.nx kk
 replace B4:=B4.nx kk
 replace B6:=B6.nx kk
 replace B7:=B7.nx kk
 clear kk
 by_cases hbad:¬ checkN N=0∨lev<0∨16<lev∨(n2:Int)<lev
 case pos =>
  have E0:Hid (L=(0,0)):=lH (LN.out (fun hh=>by
   rcases hbad with hb | hb | hb | hb
   ·exact hb hh.2.1
   ·have:=hh.2.2.1;unfold lvlN at this;simp at this;omega
   ·have:=hh.2.2.1;unfold lvlN at this;simp at this;omega
   ·have:=hh.2.2.2;omega))
  have p4:=B4.cell 4 _ rfl
  have r0:=B6.cell 0 _ rfl
  have r1:=B6.cell 1 _ rfl
  have f0:=B6.free 0
  have f1:=B6.free 1
  have KE:=lH ((EX.setNew (p:=⟨g6,0,none⟩) (.int .i64 0) zg6).setNew (p:=⟨g6,1,none⟩) (.int .i64 0) zg6)
  clear h h2 EX B4 B6 B7
  have HB:((checkN N != 0)||(decide (lev<0)||(decide (lev>16)||decide (lev>(n2:Int)))))=true:=by
   rcases hbad with hb | hb | hb | hb
   ·have:(checkN N != 0)=true:=by simpa using hb
    rw [this];rfl
   ·have:decide (lev<0)=true:=by simpa using hb
    rw [this];simp
   ·have:decide (lev>16)=true:=by simpa using hb
    rw [this];simp
   ·have:decide (lev>(n2:Int))=true:=by simpa using hb
    rw [this];simp
  clear hbad
  by_cases b1:checkN N=0
  case neg =>
   have d1:(checkN N != 0)=true:=by simpa using b1
   clear HB b1
   go_wp2_with fail
   refine bodyPost_ret (v:=.agg #[.int .i64 0,.int .i64 0]) (by simp [results,Tryz.results90,go_sem, *]) rfl ⟨by rw [E0.out],KE.out⟩
  have d1:(checkN N != 0)=false:=by simpa using b1
  rw [d1] at HB
  clear b1
  by_cases b2:lev<0
  ·clear HB
   go_wp2_with fail
   refine bodyPost_ret (v:=.agg #[.int .i64 0,.int .i64 0]) (by simp [results,Tryz.results90,go_sem, *]) rfl ⟨by rw [E0.out],KE.out⟩
  by_cases b3:lev>16
  ·clear HB
   go_wp2_with fail
   refine bodyPost_ret (v:=.agg #[.int .i64 0,.int .i64 0]) (by simp [results,Tryz.results90,go_sem, *]) rfl ⟨by rw [E0.out],KE.out⟩
  have b4:lev>(n2:Int):=by
   have e2:decide (lev<0)=false:=by simpa using b2
   have e3:decide (lev>16)=false:=by simpa using b3
   rw [e2,e3] at HB
   simpa using HB
  clear HB
  go_wp2_with fail
  refine bodyPost_ret (v:=.agg #[.int .i64 0,.int .i64 0]) (by simp [results,Tryz.results90,go_sem, *]) rfl ⟨by rw [E0.out],KE.out⟩
 have hck:checkN N=0:=Decidable.byContradiction (fun h=>hbad (.inl h))
 have hl0:0≤lev:=by omega
 have hl1:lev≤16:=by omega
 have hl2:lev≤(n2:Int):=by omega
 have CND:Hid (True∧checkN N=0∧lvlN lev=true∧lev≤(n2:Int)):=lH ⟨trivial,hck,lvl_of hl0 hl1,hl2⟩
 have d1:(checkN N != 0)=false:=by simpa using hck
 have d2:decide (lev<0)=false:=by simp;omega
 have d3:decide (lev>16)=false:=by simp;omega
 have d4:decide (lev>(n2:Int))=false:=by simp;omega
 have FWh:=FW.out trivial
 clear hbad hck LN FW
 obtain ⟨k,rfl⟩:=Int.eq_ofNat_of_zero_le hl0
 have p2:=B4.cell 2 _ rfl
 have p3:=B4.cell 3 _ rfl
 have p4:=B4.cell 4 _ rfl
 go_upto_region 4 with fail
 by_cases h0:(k:Int)=0
 ·have E0:=lH (LZ.out CND.out h0)
  have hk0:k=0:=by omega
  subst hk0
  have B9:=Blk.new w4 [.int .i64 p.left,.int .i64 p.right] 128
  have kk:=Ex.new w4 (.cells #[.int .i64 p.left,.int .i64 p.right] 128)
  obtain ⟨w5,hw5⟩:∃ w5,w5=w4.alloc (.cells #[.int .i64 p.left,.int .i64 p.right] 128):=⟨_,rfl⟩
  obtain ⟨g9,hg9⟩:∃ g9,g9=w4.heap.size:=⟨_,rfl⟩
  replace B9:Blk w5 g9 [.int .i64 p.left,.int .i64 p.right] 128:=by rw [hw5,hg9];exact B9
  rw [← hw5] at kk
  have Hw5:=lH hw5
  have Hg9:=lH hg9
  replace EX:=EX.nx kk
  replace B4:=B4.nx kk
  replace B6:=B6.nx kk
  clear kk hw5 hg9
  clear h h2 B7 LZ LB h0
  go_upto_region 10 with fail
  clear p2 p3 p4
  rw [← Hg9.out,← Hw5.out]
  clear Hg9 Hw5
  have Y0:Hid (∀ wq,Ex w5 wq→wq.cell? ⟨g9,0,none⟩=some (.int .i64 p.left)):=lH (fun wq kq=>(B9.nx kq).cell 0 _ rfl)
  have Y1:Hid (∀ wq,Ex w5 wq→wq.cell? ⟨g9,1,none⟩=some (.int .i64 p.right)):=lH (fun wq kq=>(B9.nx kq).cell 1 _ rfl)
  have QI:Hid (∀ wq,Ex w5 wq→wq.cell? ⟨g4,0,none⟩=some (.int .i64 p.id)):=lH (fun wq kq=>(B4.nx kq).cell 0 _ rfl)
  have HS:=lH (H0.out.nx EX)
  have K:=lH EX
  replace B6:=lH B6
  clear B9 B4 EX
  refine wp_region_late_drew (S:=Ex w5) [13] (by kernel_rfl) ((Ex.refl w5).drew) (fun hHeld=>?_)
  obtain ⟨wd,hwdx⟩:∃ wd:World,wd=World.drew w5:=⟨_,rfl⟩
  rw [← hwdx] at hHeld ⊢
  have hDrew:Ex w5 wd:=by rw [hwdx];exact (Ex.refl w5).drew
  clear hwdx
  refine tkL 0 (v:=?_) rfl (by kernel_rfl) (fun _ _ _ h=>h) (by rfl) ?y5 hHeld ?_
  case y5=>intro wq hSw;go_simp<;>rfl
  refine tkL 1 (v:=?_) rfl (by kernel_rfl) (fun _ _ _ h=>h) (by rfl) ?y8 hHeld ?_
  case y8=>intro wq hSw;go_simp<;>rfl
  refine tkL 2 (v:=?_) rfl (by kernel_rfl) (fun _ _ _ h=>h) (by rfl) ?y11 hHeld ?_
  case y11=>intro wq hSw;(have cq:=Y0.out wq hSw;go_simp)<;>rfl
  refine tkL 3 (v:=?_) rfl (by kernel_rfl) (fun _ _ _ h=>h) (by rfl) ?y14 hHeld ?_
  case y14=>intro wq hSw;go_simp<;>rfl
  refine tkL 4 (v:=?_) rfl (by kernel_rfl) (fun _ _ _ h=>h) (by rfl) ?y17 hHeld ?_
  case y17=>intro wq hSw;(have cq:=QI.out wq hSw;go_simp)<;>rfl
  refine tkL 6 (v:=?_) rfl (by kernel_rfl) (fun _ _ _ h=>h) (by rfl) ?y20 hHeld ?_
  case y20=>intro wq hSw;go_simp<;>rfl
  refine tkL 7 (v:=?_) rfl (by kernel_rfl) (fun _ _ _ h=>h) (by rfl) ?y23 hHeld ?_
  case y23=>intro wq hSw;go_simp<;>rfl
  refine tkL 8 (v:=?_) rfl (by kernel_rfl) (fun _ _ _ h=>h) (by rfl) ?y26 hHeld ?_
  case y26=>intro wq hSw;(have cq:=Y1.out wq hSw;go_simp)<;>rfl
  refine tkL 9 (v:=?_) rfl (by kernel_rfl) (fun _ _ _ h=>h) (by rfl) ?y29 hHeld ?_
  case y29=>intro wq hSw;go_simp<;>rfl
  refine tkL 10 (v:=?_) rfl (by kernel_rfl) (fun _ _ _ h=>h) (by rfl) ?y32 hHeld ?_
  case y32=>intro wq hSw;(have cq:=QI.out wq hSw;go_simp)<;>rfl
  refine rL 5 (by kernel_rfl) rfl fun K hK=>?_
  go_simp
  (with_reducible refine (other_p _ _ _ N p.left p.id _ (HS.out.nx hHeld) hn).mono ?_)
  rintro e wb ⟨rfl,kk⟩
  replace hHeld:=hHeld.nx kk
  clear kk
  refine hK.out _ _ (hHeld) (fun hHeld=>?_)
  clear hK K
  refine rL 11 (by kernel_rfl) rfl fun K hK=>?_
  go_simp
  (with_reducible refine (other_p _ _ _ N p.right p.id _ (HS.out.nx hHeld) hn).mono ?_)
  rintro e wc ⟨rfl,kk⟩
  replace hHeld:=hHeld.nx kk
  clear kk
  have B6z:=B6.out.nx hHeld
  have f0:=B6z.free 0
  have f1:=B6z.free 1
  have r0:=B6z.cell 0 _ rfl
  have r1:=B6z.cell 1 _ rfl
  refine hK.out _ _ (hHeld) (fun hHeld=>?_)
  clear hK K
  refine tkL 12 (v:=?_) rfl (by kernel_rfl) (fun _ _ _ h=>h) (by rfl) ?y60 hHeld ?_
  case y60=>intro wq hSw;go_simp<;>rfl
  refine rLL 13 (by kernel_rfl) rfl (by rfl) fun K hK=>?_
  go_simp
  refine hK.out _ _ ?_
  clear hK K
  refine wpAnyL_done (by kernel_rfl) ?_ _
  have KE:=lH (((K.out.nx hHeld).setNew (p:=⟨g6,0,none⟩) (.int .i64 (otherN N p.left p.id)) zg6).setNew (p:=⟨g6,1,none⟩) (.int .i64 (otherN N p.right p.id)) zg6)
  clear hDrew hHeld B6z
  go_wp2_with fail
  refine bodyPost_ret (v:=.agg #[.int .i64 (otherN N p.left p.id),.int .i64 (otherN N p.right p.id)]) (by simp [results,Tryz.results90,go_sem, *]) rfl ⟨by rw [E0.out],KE.out⟩
 ·obtain ⟨x6,o6,ny,rfl,hx6,hny,hc6⟩:=h2.at (show k-1<n2 by omega)
  have LX:=lH (LB.out ny CND.out h0 (by rw [show ((k:Int)-1).toNat=k-1 by omega];exact near_at hny))
  have r0:w4.cell? ⟨x6,o6+(k-1)*4,none⟩=some (.int .i64 ny.1):=hc6 0 _ rfl
  have r1:w4.cell? ⟨x6,o6+(k-1)*4+1,none⟩=some (.int .i64 ny.2.1):=hc6 1 _ rfl
  have r2:w4.cell? ⟨x6,o6+(k-1)*4+1+1,none⟩=some (.int .i64 ny.2.2.1):=by simpa [Nat.add_assoc] using hc6 2 _ rfl
  have r3:w4.cell? ⟨x6,o6+(k-1)*4+1+1+1,none⟩=some (.int .i64 ny.2.2.2):=by simpa [Nat.add_assoc] using hc6 3 _ rfl
  have hkp:(0:Int)<(k:Int):=by omega
  have hwk:IntKind.i64.wrap ((k:Int)-1)=(k:Int)-1:=IntWalk.i64_in _ (by omega)
  have h01:(1:Int)≤(k:Int):=by omega
  have h02:(k:Int)-1<(n2:Int):=by omega
  have hl4:=B4.lt
  have hl6:=B6.lt
  have hl7:=B7.lt
  have zz:=EX.size
  have B9:=Blk.new w4 [.int .i64 p.left,.int .i64 p.right] 128
  have kk:=Ex.new w4 (.cells #[.int .i64 p.left,.int .i64 p.right] 128)
  obtain ⟨w5,hw5⟩:∃ w5,w5=w4.alloc (.cells #[.int .i64 p.left,.int .i64 p.right] 128):=⟨_,rfl⟩
  obtain ⟨g9,hg9⟩:∃ g9,g9=w4.heap.size:=⟨_,rfl⟩
  replace B9:Blk w5 g9 [.int .i64 p.left,.int .i64 p.right] 128:=by rw [hw5,hg9];exact B9
  rw [← hw5] at kk
  have Hw5:=lH hw5
  have Hg9:=lH hg9
  replace EX:=EX.nx kk
  replace B4:=B4.nx kk
  replace B6:=B6.nx kk
  replace B7:=B7.nx kk
  have zg9:w.heap.size≤g9:=by omega
  have h49:¬ g4=g9:=by omega
  have h69:¬ g6=g9:=by omega
  have h79:¬ g7=g9:=by omega
  have t0:=Chg.cellv kk r0 hx6
  have t1:=Chg.cellv kk r1 hx6
  have t2:=Chg.cellv kk r2 hx6
  have t3:=Chg.cellv kk r3 hx6
  clear r0 r1 r2 r3 kk hw5 hg9 h h2 hc6 hny LB LZ h0 hl4 hl6 hl7 zz
  go_upto_region 5 with fail
  rw [← Hg9.out,← Hw5.out]
  clear Hg9 Hw5
  have p4:=B4.cell 4 _ rfl
  clear p2 p3
  have hl9:=B9.lt
  have B10:=Blk.new w5 [.int .i64 ny.1,.int .i64 ny.2.1,.int .i64 ny.2.2.1,.int .i64 ny.2.2.2] 158
  have kk:=Ex.new w5 (.cells #[.int .i64 ny.1,.int .i64 ny.2.1,.int .i64 ny.2.2.1,.int .i64 ny.2.2.2] 158)
  obtain ⟨w6,hw6⟩:∃ w6,w6=w5.alloc (.cells #[.int .i64 ny.1,.int .i64 ny.2.1,.int .i64 ny.2.2.1,.int .i64 ny.2.2.2] 158):=⟨_,rfl⟩
  obtain ⟨g10,hg10⟩:∃ g10,g10=w5.heap.size:=⟨_,rfl⟩
  replace B10:Blk w6 g10 [.int .i64 ny.1,.int .i64 ny.2.1,.int .i64 ny.2.2.1,.int .i64 ny.2.2.2] 158:=by rw [hw6,hg10];exact B10
  rw [← hw6] at kk
  have Hw6:=lH hw6
  have Hg10:=lH hg10
  replace EX:=EX.nx kk
  replace B4:=B4.nx kk
  replace B6:=B6.nx kk
  replace B7:=B7.nx kk
  replace B9:=B9.nx kk
  have h10:¬ g10=g9:=by omega
  clear kk hw6 hg10 hl9
  go_upto_region 7 with fail
  rw [← Hg10.out,← Hw6.out]
  clear Hg10 Hw6
  clear t0 t1 t2 t3 p4
  have u0:=B10.cell 0 _ rfl
  have u2:=B10.cell 2 _ rfl
  have f0:=B9.free 0
  have f1:=B9.free 1
  have v0:=B9.cell 0 _ rfl
  have v1:=B9.cell 1 _ rfl
  have KB0:Exb g9 w6 ((w6.setCell ⟨g9,0,none⟩ (.int .i64 ny.1)).setCell ⟨g9,1,none⟩ (.int .i64 ny.2.2.1)):=((Exb.refl g9 w6).setB (p:=⟨g9,0,none⟩) _ rfl).setB (p:=⟨g9,1,none⟩) _ rfl
  have BS0:Blk ((w6.setCell ⟨g9,0,none⟩ (.int .i64 ny.1)).setCell ⟨g9,1,none⟩ (.int .i64 ny.2.2.1)) g9 [.int .i64 ny.1,.int .i64 ny.2.2.1] 128:=(B9.set 0 (.int .i64 ny.1)).set 1 (.int .i64 ny.2.2.1)
  have KS0:Ex w ((w6.setCell ⟨g9,0,none⟩ (.int .i64 ny.1)).setCell ⟨g9,1,none⟩ (.int .i64 ny.2.2.1)):=(EX.setNew (p:=⟨g9,0,none⟩) _ zg9).setNew (p:=⟨g9,1,none⟩) _ zg9
  replace B4:=lH B4
  replace B6:=lH B6
  replace B7:=lH B7
  replace B10:=lH B10
  replace KB0:=lH KB0
  replace BS0:=lH BS0
  replace KS0:=lH KS0
  clear B9 EX
  go_upto_region 8 with fail
  obtain ⟨w7,hw7⟩:∃ w7,w7=((w6.setCell ⟨g9,0,none⟩ (.int .i64 ny.1)).setCell ⟨g9,1,none⟩ (.int .i64 ny.2.2.1)):=⟨_,rfl⟩
  rw [← hw7] at KB0 BS0 KS0 ⊢
  have B9:=BS0.out
  have EX:=KS0.out
  replace B4:=B4.out.nxb h49 KB0.out
  replace B6:=B6.out.nxb h69 KB0.out
  replace B7:=B7.out.nxb h79 KB0.out
  replace B10:=B10.out.nxb h10 KB0.out
  clear hw7 KB0 BS0 KS0 f0 f1 v0 v1
  clear u0 u2
  have q2:=B7.cell 2 _ rfl
  go_wp2_with fail
  refine (bit_p xw ((k:Int)-1) _ FWh (by omega) (by omega)).mono ?_
  rintro e w8 ⟨rfl,rfl⟩
  by_cases hb:bitN xw ((k:Int)-1)=1
  ·have E0:=lH (LX.out.1 hb)
   have db:(((bitN xw ((k:Int)-1):Nat):Int)==1)=true:=by rw [hb];rfl
   clear hb FWh LX
   have u0:=B10.cell 1 _ rfl
   have u2:=B10.cell 3 _ rfl
   have f0:=B9.free 0
   have f1:=B9.free 1
   have v0:=B9.cell 0 _ rfl
   have v1:=B9.cell 1 _ rfl
   have KB0:Exb g9 w7 ((w7.setCell ⟨g9,0,none⟩ (.int .i64 ny.2.1)).setCell ⟨g9,1,none⟩ (.int .i64 ny.2.2.2)):=((Exb.refl g9 w7).setB (p:=⟨g9,0,none⟩) _ rfl).setB (p:=⟨g9,1,none⟩) _ rfl
   have BS0:Blk ((w7.setCell ⟨g9,0,none⟩ (.int .i64 ny.2.1)).setCell ⟨g9,1,none⟩ (.int .i64 ny.2.2.2)) g9 [.int .i64 ny.2.1,.int .i64 ny.2.2.2] 128:=(B9.set 0 (.int .i64 ny.2.1)).set 1 (.int .i64 ny.2.2.2)
   have KS0:Ex w ((w7.setCell ⟨g9,0,none⟩ (.int .i64 ny.2.1)).setCell ⟨g9,1,none⟩ (.int .i64 ny.2.2.2)):=(EX.setNew (p:=⟨g9,0,none⟩) _ zg9).setNew (p:=⟨g9,1,none⟩) _ zg9
   replace B4:=lH B4
   replace B6:=lH B6
   replace B7:=lH B7
   replace B10:=lH B10
   replace KB0:=lH KB0
   replace BS0:=lH BS0
   replace KS0:=lH KS0
   clear B9 EX
   go_upto_region 10 with fail
   obtain ⟨w9,hw9⟩:∃ w9,w9=((w7.setCell ⟨g9,0,none⟩ (.int .i64 ny.2.1)).setCell ⟨g9,1,none⟩ (.int .i64 ny.2.2.2)):=⟨_,rfl⟩
   rw [← hw9] at KB0 BS0 KS0 ⊢
   have B9:=BS0.out
   have EX:=KS0.out
   replace B4:=B4.out.nxb h49 KB0.out
   replace B6:=B6.out.nxb h69 KB0.out
   replace B7:=B7.out.nxb h79 KB0.out
   replace B10:=B10.out.nxb h10 KB0.out
   clear hw9 KB0 BS0 KS0 f0 f1 v0 v1
   clear u0 u2 q2 B7 B10
   have Y0:Hid (∀ wq,Ex w9 wq→wq.cell? ⟨g9,0,none⟩=some (.int .i64 ny.2.1)):=lH (fun wq kq=>(B9.nx kq).cell 0 _ rfl)
   have Y1:Hid (∀ wq,Ex w9 wq→wq.cell? ⟨g9,1,none⟩=some (.int .i64 ny.2.2.2)):=lH (fun wq kq=>(B9.nx kq).cell 1 _ rfl)
   have QI:Hid (∀ wq,Ex w9 wq→wq.cell? ⟨g4,0,none⟩=some (.int .i64 p.id)):=lH (fun wq kq=>(B4.nx kq).cell 0 _ rfl)
   have HS:=lH (H0.out.nx EX)
   have K:=lH EX
   replace B6:=lH B6
   clear B9 B4 EX
   refine wp_region_late_drew (S:=Ex w9) [13] (by kernel_rfl) ((Ex.refl w9).drew) (fun hHeld=>?_)
   obtain ⟨wd,hwdx⟩:∃ wd:World,wd=World.drew w9:=⟨_,rfl⟩
   rw [← hwdx] at hHeld ⊢
   have hDrew:Ex w9 wd:=by rw [hwdx];exact (Ex.refl w9).drew
   clear hwdx
   refine tkL 0 (v:=?_) rfl (by kernel_rfl) (fun _ _ _ h=>h) (by rfl) ?y5 hHeld ?_
   case y5=>intro wq hSw;go_simp<;>rfl
   refine tkL 1 (v:=?_) rfl (by kernel_rfl) (fun _ _ _ h=>h) (by rfl) ?y8 hHeld ?_
   case y8=>intro wq hSw;go_simp<;>rfl
   refine tkL 2 (v:=?_) rfl (by kernel_rfl) (fun _ _ _ h=>h) (by rfl) ?y11 hHeld ?_
   case y11=>intro wq hSw;(have cq:=Y0.out wq hSw;go_simp)<;>rfl
   refine tkL 3 (v:=?_) rfl (by kernel_rfl) (fun _ _ _ h=>h) (by rfl) ?y14 hHeld ?_
   case y14=>intro wq hSw;go_simp<;>rfl
   refine tkL 4 (v:=?_) rfl (by kernel_rfl) (fun _ _ _ h=>h) (by rfl) ?y17 hHeld ?_
   case y17=>intro wq hSw;(have cq:=QI.out wq hSw;go_simp)<;>rfl
   refine tkL 6 (v:=?_) rfl (by kernel_rfl) (fun _ _ _ h=>h) (by rfl) ?y20 hHeld ?_
   case y20=>intro wq hSw;go_simp<;>rfl
   refine tkL 7 (v:=?_) rfl (by kernel_rfl) (fun _ _ _ h=>h) (by rfl) ?y23 hHeld ?_
   case y23=>intro wq hSw;go_simp<;>rfl
   refine tkL 8 (v:=?_) rfl (by kernel_rfl) (fun _ _ _ h=>h) (by rfl) ?y26 hHeld ?_
   case y26=>intro wq hSw;(have cq:=Y1.out wq hSw;go_simp)<;>rfl
   refine tkL 9 (v:=?_) rfl (by kernel_rfl) (fun _ _ _ h=>h) (by rfl) ?y29 hHeld ?_
   case y29=>intro wq hSw;go_simp<;>rfl
   refine tkL 10 (v:=?_) rfl (by kernel_rfl) (fun _ _ _ h=>h) (by rfl) ?y32 hHeld ?_
   case y32=>intro wq hSw;(have cq:=QI.out wq hSw;go_simp)<;>rfl
   refine rL 5 (by kernel_rfl) rfl fun K hK=>?_
   go_simp
   (with_reducible refine (other_p _ _ _ N ny.2.1 p.id _ (HS.out.nx hHeld) hn).mono ?_)
   rintro e wb ⟨rfl,kk⟩
   replace hHeld:=hHeld.nx kk
   clear kk
   refine hK.out _ _ (hHeld) (fun hHeld=>?_)
   clear hK K
   refine rL 11 (by kernel_rfl) rfl fun K hK=>?_
   go_simp
   (with_reducible refine (other_p _ _ _ N ny.2.2.2 p.id _ (HS.out.nx hHeld) hn).mono ?_)
   rintro e wc ⟨rfl,kk⟩
   replace hHeld:=hHeld.nx kk
   clear kk
   have B6z:=B6.out.nx hHeld
   have f0:=B6z.free 0
   have f1:=B6z.free 1
   have r0:=B6z.cell 0 _ rfl
   have r1:=B6z.cell 1 _ rfl
   refine hK.out _ _ (hHeld) (fun hHeld=>?_)
   clear hK K
   refine tkL 12 (v:=?_) rfl (by kernel_rfl) (fun _ _ _ h=>h) (by rfl) ?y60 hHeld ?_
   case y60=>intro wq hSw;go_simp<;>rfl
   refine rLL 13 (by kernel_rfl) rfl (by rfl) fun K hK=>?_
   go_simp
   refine hK.out _ _ ?_
   clear hK K
   refine wpAnyL_done (by kernel_rfl) ?_ _
   have KE:=lH (((K.out.nx hHeld).setNew (p:=⟨g6,0,none⟩) (.int .i64 (otherN N ny.2.1 p.id)) zg6).setNew (p:=⟨g6,1,none⟩) (.int .i64 (otherN N ny.2.2.2 p.id)) zg6)
   clear hDrew hHeld B6z
   go_wp2_with fail
   refine bodyPost_ret (v:=.agg #[.int .i64 (otherN N ny.2.1 p.id),.int .i64 (otherN N ny.2.2.2 p.id)]) (by simp [results,Tryz.results90,go_sem, *]) rfl ⟨by rw [E0.out],KE.out⟩
  ·have E0:=lH (LX.out.2 hb)
   have db:(((bitN xw ((k:Int)-1):Nat):Int)==1)=false:=by simp;omega
   clear hb FWh LX
   go_upto_region 10 with fail
   clear q2 B7 B10
   have Y0:Hid (∀ wq,Ex w7 wq→wq.cell? ⟨g9,0,none⟩=some (.int .i64 ny.1)):=lH (fun wq kq=>(B9.nx kq).cell 0 _ rfl)
   have Y1:Hid (∀ wq,Ex w7 wq→wq.cell? ⟨g9,1,none⟩=some (.int .i64 ny.2.2.1)):=lH (fun wq kq=>(B9.nx kq).cell 1 _ rfl)
   have QI:Hid (∀ wq,Ex w7 wq→wq.cell? ⟨g4,0,none⟩=some (.int .i64 p.id)):=lH (fun wq kq=>(B4.nx kq).cell 0 _ rfl)
   have HS:=lH (H0.out.nx EX)
   have K:=lH EX
   replace B6:=lH B6
   clear B9 B4 EX
   refine wp_region_late_drew (S:=Ex w7) [13] (by kernel_rfl) ((Ex.refl w7).drew) (fun hHeld=>?_)
   obtain ⟨wd,hwdx⟩:∃ wd:World,wd=World.drew w7:=⟨_,rfl⟩
   rw [← hwdx] at hHeld ⊢
   have hDrew:Ex w7 wd:=by rw [hwdx];exact (Ex.refl w7).drew
   clear hwdx
   refine tkL 0 (v:=?_) rfl (by kernel_rfl) (fun _ _ _ h=>h) (by rfl) ?y5 hHeld ?_
   case y5=>intro wq hSw;go_simp<;>rfl
   refine tkL 1 (v:=?_) rfl (by kernel_rfl) (fun _ _ _ h=>h) (by rfl) ?y8 hHeld ?_
   case y8=>intro wq hSw;go_simp<;>rfl
   refine tkL 2 (v:=?_) rfl (by kernel_rfl) (fun _ _ _ h=>h) (by rfl) ?y11 hHeld ?_
   case y11=>intro wq hSw;(have cq:=Y0.out wq hSw;go_simp)<;>rfl
   refine tkL 3 (v:=?_) rfl (by kernel_rfl) (fun _ _ _ h=>h) (by rfl) ?y14 hHeld ?_
   case y14=>intro wq hSw;go_simp<;>rfl
   refine tkL 4 (v:=?_) rfl (by kernel_rfl) (fun _ _ _ h=>h) (by rfl) ?y17 hHeld ?_
   case y17=>intro wq hSw;(have cq:=QI.out wq hSw;go_simp)<;>rfl
   refine tkL 6 (v:=?_) rfl (by kernel_rfl) (fun _ _ _ h=>h) (by rfl) ?y20 hHeld ?_
   case y20=>intro wq hSw;go_simp<;>rfl
   refine tkL 7 (v:=?_) rfl (by kernel_rfl) (fun _ _ _ h=>h) (by rfl) ?y23 hHeld ?_
   case y23=>intro wq hSw;go_simp<;>rfl
   refine tkL 8 (v:=?_) rfl (by kernel_rfl) (fun _ _ _ h=>h) (by rfl) ?y26 hHeld ?_
   case y26=>intro wq hSw;(have cq:=Y1.out wq hSw;go_simp)<;>rfl
   refine tkL 9 (v:=?_) rfl (by kernel_rfl) (fun _ _ _ h=>h) (by rfl) ?y29 hHeld ?_
   case y29=>intro wq hSw;go_simp<;>rfl
   refine tkL 10 (v:=?_) rfl (by kernel_rfl) (fun _ _ _ h=>h) (by rfl) ?y32 hHeld ?_
   case y32=>intro wq hSw;(have cq:=QI.out wq hSw;go_simp)<;>rfl
   refine rL 5 (by kernel_rfl) rfl fun K hK=>?_
   go_simp
   (with_reducible refine (other_p _ _ _ N ny.1 p.id _ (HS.out.nx hHeld) hn).mono ?_)
   rintro e wb ⟨rfl,kk⟩
   replace hHeld:=hHeld.nx kk
   clear kk
   refine hK.out _ _ (hHeld) (fun hHeld=>?_)
   clear hK K
   refine rL 11 (by kernel_rfl) rfl fun K hK=>?_
   go_simp
   (with_reducible refine (other_p _ _ _ N ny.2.2.1 p.id _ (HS.out.nx hHeld) hn).mono ?_)
   rintro e wc ⟨rfl,kk⟩
   replace hHeld:=hHeld.nx kk
   clear kk
   have B6z:=B6.out.nx hHeld
   have f0:=B6z.free 0
   have f1:=B6z.free 1
   have r0:=B6z.cell 0 _ rfl
   have r1:=B6z.cell 1 _ rfl
   refine hK.out _ _ (hHeld) (fun hHeld=>?_)
   clear hK K
   refine tkL 12 (v:=?_) rfl (by kernel_rfl) (fun _ _ _ h=>h) (by rfl) ?y60 hHeld ?_
   case y60=>intro wq hSw;go_simp<;>rfl
   refine rLL 13 (by kernel_rfl) rfl (by rfl) fun K hK=>?_
   go_simp
   refine hK.out _ _ ?_
   clear hK K
   refine wpAnyL_done (by kernel_rfl) ?_ _
   have KE:=lH (((K.out.nx hHeld).setNew (p:=⟨g6,0,none⟩) (.int .i64 (otherN N ny.1 p.id)) zg6).setNew (p:=⟨g6,1,none⟩) (.int .i64 (otherN N ny.2.2.1 p.id)) zg6)
   clear hDrew hHeld B6z
   go_wp2_with fail
   refine bodyPost_ret (v:=.agg #[.int .i64 (otherN N ny.1 p.id),.int .i64 (otherN N ny.2.2.1 p.id)]) (by simp [results,Tryz.results90,go_sem, *]) rfl ⟨by rw [E0.out],KE.out⟩
theorem norm1_p (gx:Nat) (x:Nd) (w:World) (hx:Blk w gx [.int .i64 x.id,.string x.key,.int .u32 x.word] 36):PredI 158 #[.pointer (some ⟨gx,0,none⟩)] x.id w:=by
 intro p h1 h2 w' kk
 have q0:=(hx.nx kk).cell 0 _ rfl
 have hg:=(hx.nx kk).lt
 have hne:¬ gx=w'.heap.size:=by omega
 obtain ⟨a1,n1,c1⟩:=h1
 obtain ⟨a2,n2,c2⟩:=h2
 simp only [Hdr.val]
 clear hx kk
 go_enter Tryz.func158,Tryz.ntmps158
 go_wp2
 go_ret
 exact ⟨rfl,(Ex.refl _).alloc _⟩
def NoRel (S:List Nd) (P:List Pr) (w:World) (o i:Value) (wr:World):Prop :=
 ∃ (j:Nat) (qs:List PQ),j≤S.length∧i=.int .i64 j∧OwnPr w.heap.size wr o qs ((S.take j).map fun x=>peerN P x.id)∧Ex w wr
theorem no_snoc {S:List Nd} {P:List Pr} {j:Nat} {x:Nd} (hy:S[j]?=some x):((S.take (j+1)).map fun x=>peerN P x.id)=((S.take j).map fun x=>peerN P x.id)++[peerN P x.id]:=by
 rw [take_snocN S j x hy,List.map_append];rfl
set_option maxRecDepth 100000 in
set_option maxHeartbeats 8000000 in
theorem normal_p (a:Option Addr) (n c:Nat) (N:List Nd) (a2:Option Addr) (n2 c2:Nat) (P:List Pr) (w:World) (h:Sl 3 encN w a n N) (hn:n≤1000) (hc:n≤c) (hm:c≤maxLen) (h2:PL w a2 n2 P) (hn2:n2≤4000000000000000000) (hP:SmallP P) :
  Calls Tryz.prog 84 #[.slice a n c,.slice a2 n2 c2] w (PlPost (normalN N P) w):=by
 have HL:=lH h.len
 have HP:=lH hP
 clear hP
 have EG:Hid (∀ args w,(callFunc 158 args).run Tryz.prog w=.ok (.enter 158 args) w):=lH (enters_of Tryz.func158 (by kernel_rfl) rfl)
 have H2:=lH h2
 clear h2
 go_enter Tryz.func84,Tryz.ntmps84
 go_wp2_with fail
 (with_reducible refine (check_p _ _ _ _ _ h (by omega) hc hm).mono ?_)
 rintro e w0 ⟨rfl,kk⟩
 replace h:=h.nx kk
 have K0:=lH kk
 clear kk
 by_cases hck:checkN N=0
 case neg =>
  have d1:(checkN N != 0)=true:=by simpa using hck
  have E0:Hid (normalN N P=[]):=lH (by unfold normalN;rw [if_neg hck])
  clear h hck
  go_wp2_with fail
  go_ret
  exact ⟨_,[],rfl,by rw [E0.out];exact OwnP.nil _ _ _ _ _,K0.out⟩
 have d1:(checkN N != 0)=false:=by simpa using hck
 have E0:Hid (normalN N P=(sortN N).map fun x=>peerN P x.id):=lH (by unfold normalN;rw [if_pos hck])
 have HC:=lH hck
 clear hck
 go_wp2_with fail
 (with_reducible refine (sort_p _ _ _ _ _ h hn).mono ?_)
 rintro e w1 ⟨v,S,rfl,OS,⟨hp,hsrt⟩,kk⟩
 have hSe:S=sortN N:=sortN_unique (check_keys HC.out) hp hsrt
 subst hSe
 obtain ⟨a1,c1,rfl,S1,_,_⟩:=sorted_own HC.out OS
 rw [HL.out] at S1 ⊢
 have hSl:(sortN N).length=n:=by rw [S1.len]
 generalize sortN N=S at S1 hSl E0 ⊢
 have S1:=lH S1
 have K1:=lH (K0.out.nx kk)
 have HSL:=lH hSl
 have z01:=K1.out.size
 clear h OS kk hp hsrt hSl
 go_wp2_with fail
 go_loopw [5,16] (fun o i wr=>NoRel S P w1 o i wr) (fun _ i _=>n-(intOf i).toNat)
 case atStart=>exact ⟨0,[],by omega,rfl,OwnP.nil _ _ _ _ _,Ex.refl _⟩
 case round =>
  obtain ⟨j,qs,hj,rfl,own,ki⟩:=hrel
  rw [HSL.out] at hj
  obtain ⟨wi,rfl⟩:∃ wi:World,wi=wr:=⟨_,rfl⟩
  by_cases hjm:j<n
  ·obtain ⟨x3,o3,x,rfl,hx3,hy,hc3⟩:=(S1.out.nx ki).at hjm
   have e0:wi.cell? ⟨x3,o3+j*3,none⟩=some (.int .i64 x.id):=hc3 0 _ rfl
   have e1:wi.cell? ⟨x3,o3+j*3+1,none⟩=some (.string x.key):=hc3 1 _ rfl
   have e2:wi.cell? ⟨x3,o3+j*3+1+1,none⟩=some (.int .u32 x.word):=by simpa [Nat.add_assoc] using hc3 2 _ rfl
   have SN:=lH (no_snoc (P:=P) hy)
   have hql:qs.length=j:=by rw [own.2.1,List.length_map,List.length_take,HSL.out];omega
   have hwi:=ki.size
   have KI:=lH ki
   have OWN:=lH own
   clear hy own ki hc3
   have B7:=Blk.new wi [.int .i64 x.id,.string x.key,.int .u32 x.word] 36
   have kk:=Ex.new wi (.cells #[.int .i64 x.id,.string x.key,.int .u32 x.word] 36)
   obtain ⟨w4,hw4⟩:∃ w4,w4=wi.alloc (.cells #[.int .i64 x.id,.string x.key,.int .u32 x.word] 36):=⟨_,rfl⟩
   obtain ⟨g7,hg7⟩:∃ g7,g7=wi.heap.size:=⟨_,rfl⟩
   replace B7:Blk w4 g7 [.int .i64 x.id,.string x.key,.int .u32 x.word] 36:=by rw [hw4,hg7];exact B7
   rw [← hw4] at kk
   have Hw4:=lH hw4
   have Hg7:=lH hg7
   have zg7:wi.heap.size≤g7:=by omega
   have K4:=lH kk
   clear kk hw4 hg7
   go_upto_region 7 with fail
   rw [← Hg7.out,← Hw4.out]
   clear Hg7 Hw4
   have q0:=B7.cell 0 _ rfl
   clear e0 e1 e2
   have hz4:=K4.out.size
   have hl7:=B7.lt
   have B8:=Blk.new w4 [.int .i64 x.id,.slice none 0 0,.int .i64 0,.int .i64 0,.slice none 0 0] 150
   have kk:=Ex.new w4 (.cells #[.int .i64 x.id,.slice none 0 0,.int .i64 0,.int .i64 0,.slice none 0 0] 150)
   obtain ⟨w5,hw5⟩:∃ w5,w5=w4.alloc (.cells #[.int .i64 x.id,.slice none 0 0,.int .i64 0,.int .i64 0,.slice none 0 0] 150):=⟨_,rfl⟩
   obtain ⟨g8,hg8⟩:∃ g8,g8=w4.heap.size:=⟨_,rfl⟩
   replace B8:Blk w5 g8 [.int .i64 x.id,.slice none 0 0,.int .i64 0,.int .i64 0,.slice none 0 0] 150:=by rw [hw5,hg8];exact B8
   rw [← hw5] at kk
   have Hw5:=lH hw5
   have Hg8:=lH hg8
   replace B7:=B7.nx kk
   replace K4:=lH (K4.out.nx kk)
   have zg8:wi.heap.size≤g8:=by omega
   clear kk hw5 hg8
   go_upto_region 8 with fail
   rw [← Hg8.out,← Hw5.out]
   clear Hg8 Hw5
   clear q0
   have PI:=norm1_p g7 x w5 B7
   replace B8:=lH B8
   clear B7
   go_wp2_with fail
   (with_reducible refine (idxf_pr _ _ _ EG.out _ _ _ P _ (H2.out.nx (K1.out.nx (KI.out.nx K4.out))) hn2 PI).mono ?_)
   rintro e w6 ⟨rfl,kk⟩
   replace B8:=lH (B8.out.nx kk)
   replace K4:=lH (K4.out.nx kk)
   have HG8:=lH B8.out.lt
   clear kk PI
   rcases idxQ_cases P x.id with ⟨k,y,hq,hkl,hyk,hpy,-⟩ | ⟨hq,hpy⟩
   ·have hk2:k<n2:=by have:=H2.out.len;omega
    obtain ⟨x5,o5,b1,m1,d1,b4,m4,d4,y',rfl,hx5,hy',e0,e1,e2,e3,e4,s1,s4⟩:=(H2.out.nx (K1.out.nx KI.out)).rd hk2
    obtain rfl:y=y':=Option.some.inj (hyk.symm.trans hy')
    have HPY:=lH hpy
    have hyP:=HP.out y (List.mem_of_getElem? hyk)
    have hl1:m1≤17592186044416:=by have:=s1.len;omega
    have hl4:m4≤4398046511104:=by have:=s4.len;omega
    have S1y:=lH s1
    have S4y:=lH s4
    have c0:=Chg.cellv K4.out e0 hx5
    have c1:=Chg.cellv K4.out e1 hx5
    have c2:=Chg.cellv K4.out e2 hx5
    have c3:=Chg.cellv K4.out e3 hx5
    have c4:=Chg.cellv K4.out e4 hx5
    have f0:=B8.out.free 0
    have f1:=B8.out.free 1
    have f2:=B8.out.free 2
    have f3:=B8.out.free 3
    have f4:=B8.out.free 4
    have r0:=B8.out.cell 0 _ rfl
    have r1:=B8.out.cell 1 _ rfl
    have r2:=B8.out.cell 2 _ rfl
    have r3:=B8.out.cell 3 _ rfl
    have r4:=B8.out.cell 4 _ rfl
    have hk0:(0:Int)≤(k:Int):=by omega
    rw [hq]
    clear hq hkl hyk hpy hyP e0 e1 e2 e3 e4 s1 s4 hy' hx5
    go_upto_region 11 with fail
    have KB0:Exb g8 w6 (((((w6.setCell ⟨g8,0,none⟩ (.int .i64 y.id)).setCell ⟨g8,1,none⟩ (.slice b1 m1 d1)).setCell ⟨g8,2,none⟩ (.int .i64 y.left)).setCell ⟨g8,3,none⟩ (.int .i64 y.right)).setCell ⟨g8,4,none⟩ (.slice b4 m4 d4)) :=
     (((((Exb.refl g8 w6).setB (p:=⟨g8,0,none⟩) _ rfl).setB (p:=⟨g8,1,none⟩) _ rfl).setB (p:=⟨g8,2,none⟩) _ rfl).setB (p:=⟨g8,3,none⟩) _ rfl).setB (p:=⟨g8,4,none⟩) _ rfl
    have BS0:=((((B8.out.set 0 (.int .i64 y.id)).set 1 (.slice b1 m1 d1)).set 2 (.int .i64 y.left)).set 3 (.int .i64 y.right)).set 4 (.slice b4 m4 d4)
    obtain ⟨w7,hw7⟩:∃ w7,w7=(((((w6.setCell ⟨g8,0,none⟩ (.int .i64 y.id)).setCell ⟨g8,1,none⟩ (.slice b1 m1 d1)).setCell ⟨g8,2,none⟩ (.int .i64 y.left)).setCell ⟨g8,3,none⟩ (.int .i64 y.right)).setCell ⟨g8,4,none⟩ (.slice b4 m4 d4)):=⟨_,rfl⟩
    rw [← hw7] at KB0 BS0
    have BS:Blk w7 g8 [.int .i64 y.id,.slice b1 m1 d1,.int .i64 y.left,.int .i64 y.right,.slice b4 m4 d4] 150:=BS0
    have K8:=lH (Exl.nxb (b:=g8) (w:=wi) ⟨K4.out,zg8⟩ KB0).1
    rw [← hw7]
    have hg8l:=BS.lt
    have B8s:=lH BS
    have hz8:=K8.out.size
    clear hw7 KB0 BS0 BS c0 c1 c2 c3 c4 f0 f1 f2 f3 f4 r0 r1 r2 r3 r4 B8 K4
    refine wp_region_late_drew (S:=Ex w7) [7,8,9] (by kernel_rfl) ((Ex.refl w7).drew) (fun hHeld=>?_)
    refine tkL 0 (v:=?_) rfl (by kernel_rfl) (fun _ _ _ h=>h) (by rfl) ?y1 hHeld ?_
    case y1=>intro wq hSw;go_simp<;>rfl
    refine tkL 1 (v:=?_) rfl (by kernel_rfl) (fun _ _ _ h=>h) (by rfl) ?y4 hHeld ?_
    case y4=>intro wq hSw;(have cq:=(B8s.out.nx hSw).cell 1 _ rfl;go_simp)<;>rfl
    refine tkL 3 (v:=?_) rfl (by kernel_rfl) (fun _ _ _ h=>h) (by rfl) ?y7 hHeld ?_
    case y7=>intro wq hSw;go_simp<;>rfl
    refine tkL 4 (v:=?_) rfl (by kernel_rfl) (fun _ _ _ h=>h) (by rfl) ?y10 hHeld ?_
    case y10=>intro wq hSw;(have cq:=(B8s.out.nx hSw).cell 4 _ rfl;go_simp)<;>rfl
    refine rL 2 (by kernel_rfl) rfl fun K hK=>?_
    go_simp
    (with_reducible refine (clone_i _ _ _ _ _ ((S1y.out.nx K8.out).nx hHeld) hl1).mono ?_)
    rintro e wc ⟨vc,rfl,own2,kk⟩
    (try replace own5:=own5.nx kk)
    obtain ⟨A2,C2,rfl,_,_,_,_⟩:=own2.slf (fun _=>rfl)
    replace own2:=own2.base hHeld.size
    replace hHeld:=hHeld.nx kk
    clear kk
    have BQ:=B8s.out.nx hHeld
    have KZ:=hHeld.b g8
    refine hK.out _ _ (hHeld) (fun hHeld=>?_)
    clear hK K
    refine tkL 6 (v:=?_) rfl (by kernel_rfl) (fun _ _ _ h=>h) (by rfl) ?y28 hHeld ?_
    case y28=>intro wq hSw;go_simp<;>rfl
    refine rL 5 (by kernel_rfl) rfl fun K hK=>?_
    go_simp
    (with_reducible refine (clone_nr _ _ _ _ _ ((S4y.out.nx K8.out).nx hHeld) hl4).mono ?_)
    rintro e wc ⟨vc,rfl,own5,kk⟩
    (try replace own2:=own2.nx kk)
    obtain ⟨A5,C5,rfl,_,_,_,_⟩:=own5.slf (fun _=>rfl)
    replace own5:=own5.base hHeld.size
    replace hHeld:=hHeld.nx kk
    clear kk
    have BQ:=B8s.out.nx hHeld
    have KZ:=hHeld.b g8
    refine hK.out _ _ (hHeld) (fun hHeld=>?_)
    clear hK K
    refine rLL 7 (by kernel_rfl) rfl (by rfl) fun K hK=>?_
    have cq:=BQ.cell 1 _ rfl
    have fq:=BQ.free 1
    go_simp
    clear cq fq
    replace BQ:=BQ.set 1 (.slice A2 y.known.length C2)
    replace own2:=own2.nxb hg8l ((Exb.refl g8 _).setB (p:=⟨g8,1,none⟩) (.slice A2 y.known.length C2) rfl)
    replace own5:=own5.nxb hg8l ((Exb.refl g8 _).setB (p:=⟨g8,1,none⟩) (.slice A2 y.known.length C2) rfl)
    replace KZ:=KZ.setB (p:=⟨g8,1,none⟩) (.slice A2 y.known.length C2) rfl
    refine hK.out _ _ ?_
    clear hK K
    refine rLL 8 (by kernel_rfl) rfl (by rfl) fun K hK=>?_
    go_simp
    refine hK.out _ _ ?_
    clear hK K
    refine rLL 9 (by kernel_rfl) rfl (by rfl) fun K hK=>?_
    have cq:=BQ.cell 4 _ rfl
    have fq:=BQ.free 4
    go_simp
    clear cq fq
    replace BQ:=BQ.set 4 (.slice A5 y.near.length C5)
    replace own2:=own2.nxb hg8l ((Exb.refl g8 _).setB (p:=⟨g8,4,none⟩) (.slice A5 y.near.length C5) rfl)
    replace own5:=own5.nxb hg8l ((Exb.refl g8 _).setB (p:=⟨g8,4,none⟩) (.slice A5 y.near.length C5) rfl)
    replace KZ:=KZ.setB (p:=⟨g8,4,none⟩) (.slice A5 y.near.length C5) rfl
    refine hK.out _ _ ?_
    clear hK K
    refine wpAnyL_done (by kernel_rfl) ?_ _
    obtain ⟨wz,hwz⟩:∃ wz,wz=(wc.setCell ⟨g8,1,none⟩ (.slice A2 y.known.length C2)).setCell ⟨g8,4,none⟩ (.slice A5 y.near.length C5):=⟨_,rfl⟩
    rw [← hwz] at BQ own2 own5 KZ ⊢
    clear hwz
    have BF:Blk wz g8 [.int .i64 y.id,.slice A2 y.known.length C2,.int .i64 y.left,.int .i64 y.right,.slice A5 y.near.length C5] 150:=BQ
    have p0:=BF.cell 0 _ rfl
    have p1:=BF.cell 1 _ rfl
    have p2:=BF.cell 2 _ rfl
    have p3:=BF.cell 3 _ rfl
    have p4:=BF.cell 4 _ rfl
    have KW:=lH (Exl.nxb (b:=g8) (w:=wi) ⟨K8.out,zg8⟩ KZ).1
    have OP:=lH (OWN.out.nx KW.out)
    have zw:=KW.out.size
    replace own2:=lH (own2.base hz8)
    replace own5:=lH (own5.base hz8)
    have hw3:w1.heap.size≤wi.heap.size:=hwi
    have KN:=KW.out.nx (Ex.new _ (.cells #[.int .i64 y.id,.slice A2 y.known.length C2,.int .i64 y.left,.int .i64 y.right,.slice A5 y.near.length C5] 150))
    have zn:=Nat.le_trans hw3 KN.size
    clear BQ BF KZ hHeld
    go_wp2_with (at_builtin;(refine wpList_append_W (enc:=encQ) _ rfl _ _ 53 rfl w1.heap.size 150 (.agg #[.int .i64 0,.slice none 0 0,.int .i64 0,.int .i64 0,.slice none 0 0]) 5 72 Tryz.underlying53 Tryz.infoPr rfl (by omega) (by omega) _ qs (OP.out.nx (Ex.new _ _)).row rfl _ 1 1 [(y.nums,(A2,y.known.length,C2),(A5,y.near.length,C5))] (Sl.lit _ rfl rfl encQ_len rfl) encQ_len encQ_one rfl (by omega) (by omega) zn ?_);intro v9 w9 own9 ch0 ch1 _)
    have RR:=OWN.out.app (by decide) (by decide) hw3 KN (own2.out.nx (Ex.new _ _)) (own5.out.nx (Ex.new _ _)) own9 ch0
    exact ⟨⟨j+1,_,by rw [HSL.out];omega,by go_num,by rw [SN.out,HPY.out];exact RR,Chg.trans (KI.out.nx KN) ch1⟩,by simp [intOf];omega⟩
   ·have HPY:=lH hpy
    have hw3:w1.heap.size≤wi.heap.size:=hwi
    have r0:=B8.out.cell 0 _ rfl
    have r1:=B8.out.cell 1 _ rfl
    have r2:=B8.out.cell 2 _ rfl
    have r3:=B8.out.cell 3 _ rfl
    have r4:=B8.out.cell 4 _ rfl
    have KN:=K4.out.nx (Ex.new _ (.cells #[.int .i64 x.id,.slice none 0 0,.int .i64 0,.int .i64 0,.slice none 0 0] 150))
    have zn:=Nat.le_trans hw3 KN.size
    have OP:=lH (OWN.out.nx K4.out)
    rw [hq]
    clear hq hpy
    go_wp2_with (at_builtin;(refine wpList_append_W (enc:=encQ) _ rfl _ _ 53 rfl w1.heap.size 150 (.agg #[.int .i64 0,.slice none 0 0,.int .i64 0,.int .i64 0,.slice none 0 0]) 5 72 Tryz.underlying53 Tryz.infoPr rfl (by omega) (by omega) _ qs (OP.out.nx (Ex.new _ _)).row rfl _ 1 1 [((x.id,0,0),(none,0,0),(none,0,0))] (Sl.lit _ rfl rfl encQ_len rfl) encQ_len encQ_one rfl (by omega) (by omega) zn ?_);intro v9 w9 own9 ch0 ch1 _)
    have RR:=OWN.out.app (p:=⟨x.id,0,0,[],[]⟩) (hk:=(none,0,0)) (hn:=(none,0,0)) (by decide) (by decide) hw3 KN (OwnL.nil _ _ _ _ _) (OwnL.nil _ _ _ _ _) own9 ch0
    exact ⟨⟨j+1,_,by rw [HSL.out];omega,by go_num,by rw [SN.out,HPY.out];exact RR,Chg.trans (KI.out.nx KN) ch1⟩,by simp [intOf];omega⟩
  ·obtain rfl:j=n:=by omega
   rw [List.take_of_length_le (by rw [HSL.out];exact Nat.le_refl _)] at own
   have OWN:=lH (own.lower z01)
   have KI:=lH (K1.out.nx ki)
   clear own ki hj hjm
   go_wp2_with fail
   go_ret
   exact ⟨_,qs,rfl,by rw [E0.out];exact OWN.out,KI.out⟩
end Go.Proofs.YthcholmhmcpooaaGreatDoor
