/- Texts for FlightStepsProof. -/
import Derived.Test.YtalmjklljofhbaaGreatDoorFlightStepsProofL30
import Derived.Test.YtalmjklljofhbaaGreatDoorFlightStepsProofL31
set_option linter.unusedSimpArgs false
set_option linter.unusedVariables false

namespace Go.Proofs.YtalmjklljofhbaaGreatDoor
open Go.RowKit
def SmF (f:Fl):Prop:=SmallP f.peers∧∀ p∈f.peers,p.known.length≤1000000
theorem cop_sm {N:List Nd} {f:Fl} (h:SmF f):SmF (copF N f):=⟨cop_small h.1,cop_few h.2⟩
theorem del_sm {N:List Nd} {f:Fl} (hN:N.length≤1000) (h:SmF f) (k:Int):SmF (delF N f k):=by
 have hc:=cop_sm (N:=N) h
 unfold delF
 split
 ·split
  ·exact hc
  ·split
   ·have key:∀ p∈(copF N f).peers.map (tellP N ‹_›),p.known.length≤1000000∧p.near.length≤4398046511104:=by
     intro p hp
     obtain ⟨q,hq,rfl⟩:=List.mem_map.1 hp
     have h1:=hc.1 q hq
     have h2:=hc.2 q hq
     unfold tellP
     split
     ·refine ⟨?_,h1.2⟩
      have:=ord_len (N:=N) (q.known++[(‹Int×Int›).2]) q.id
      show (ordN N _ _).length≤_
      omega
     ·exact ⟨h2,h1.2⟩
    exact ⟨fun p hp=>⟨by have:=(key p hp).1;omega,(key p hp).2⟩,fun p hp=>(key p hp).1⟩
   ·exact ⟨hc.1,hc.2⟩
 ·exact hc
theorem tick_sm {N:List Nd} {f:Fl} (hN:N.length≤1000) (h:SmF f) (id hh:Int):SmF (tickF N f id hh):=by
 have hc:=cop_sm (N:=N) h
 unfold tickF
 split
 ·rename_i hl
  have key:∀ p∈(copF N f).peers.map fun p=>if p.id=id then tickP N (peerN (copF N f).peers) p hh.toNat else p,p.known.length≤1000000∧p.near.length≤4398046511104:=by
   intro p hp
   obtain ⟨q,hq,rfl⟩:=List.mem_map.1 hp
   have h1:=hc.1 q hq
   have h2:=hc.2 q hq
   split
   ·have h3:=ord_len (N:=N) [(keepN N q).1,(keepN N q).2] q.id
    have h4:=nextB_len N (peerN (copF N f).peers) q hh.toNat
    have h5:=hl.1
    unfold lvlN at h5
    simp at h5
    refine ⟨?_,?_⟩
    ·show (ordN N _ _).length≤_
     omega
    ·show (nextB N _ _ _).length≤_
     omega
   ·exact ⟨h2,h1.2⟩
  exact ⟨fun p hp=>⟨by have:=(key p hp).1;omega,(key p hp).2⟩,fun p hp=>(key p hp).1⟩
 ·exact hc
theorem del_len {N:List Nd} {f:Fl} (h0:checkN N=0) {n j:Nat} (hm:f.msgs.length=n+1) (hj:j<n+1):(delF N f j).msgs.length=n:=by
 obtain ⟨m,hmj⟩:∃ m,f.msgs[j]?=some m:=⟨f.msgs[j]'(by omega),by simp⟩
 rw [del_some h0 hmj]
 show (f.msgs.eraseIdx j).length=n
 rw [List.length_eraseIdx,if_pos (by omega)]
 omega
theorem del_plen {N:List Nd} {f:Fl} (k:Int):(delF N f k).peers.length≤N.length:=by
 have h1:=(cop_len N f).1
 unfold delF
 split
 ·split
  ·exact h1
  ·show (if _ then _ else _:List Pr).length≤_
   split
   ·rw [List.length_map];exact h1
   ·exact h1
 ·exact h1
theorem tick_len {N:List Nd} {f:Fl} (h0:checkN N=0) (id hh:Int):(tickF N f id hh).msgs.length≤f.msgs.length+2*N.length:=by
 unfold tickF
 split
 ·show ((copF N f).msgs++_).length≤_
  rw [List.length_append,cop_msgs h0]
  have:=intros_len N (peerN (copF N f).peers id)
  omega
 ·rw [cop_msgs h0];omega
theorem round_yes {N:List Nd} {f:Fl} {ms ts:List Int} {h:Nat} (hh:h≤16) (h0:checkN N=0):roundF N f ms ts h=tickAllF N ts h N.length 0 ((sortN N).map Nd.id) (delAllF N ms (copF N f).msgs.length 0 (copF N f)):=by
 unfold roundF
 rw [if_pos ⟨by unfold lvlN;simp;omega,h0⟩]
theorem round_no1 {N:List Nd} {f:Fl} {ms ts:List Int} {h:Int} (hh:lvlN h=false):roundF N f ms ts h=⟨[],[]⟩:=by
 unfold roundF
 rw [if_neg (fun hx=>by rw [hh] at hx;cases hx.1)]
theorem round_no2 {N:List Nd} {f:Fl} {ms ts:List Int} {h:Int} (h0:¬ checkN N=0):roundF N f ms ts h=⟨[],[]⟩:=by
 unfold roundF
 rw [if_neg (fun hx=>h0 hx.2)]
theorem FlOwn.putB {base g':Nat} {w w':World} {v m:Value} {qs:List PQ} {F:Fl} {cs:List Value} {ty:TypeId} (h:FlOwn base w v m qs F) (B:Blk w g' cs ty) (n1:36≠ty) (n2:3≠ty) (n3:69≠ty) (n4:67≠ty) (k:Exb g' w w'):FlOwn base w' v m qs F :=
 ⟨h.1.putB B n1 n2 n3 k,OwnL.put h.2 B n4 k⟩
theorem FlOwn.two {base:Nat} {w:World} {v m:Value} {qs:List PQ} {F:Fl} (h:FlOwn base w v m qs F):∃ aP cP aM cM,v=.slice aP F.peers.length cP∧m=.slice aM F.msgs.length cM∧PL w aP F.peers.length F.peers∧Sl 2 encS w aM F.msgs.length F.msgs:=by
 obtain ⟨aP,cP,e1,p1,_⟩:=h.1.pl
 obtain ⟨aM,cM,e2,p2,_⟩:=h.2.sl3 (fun _=>rfl)
 exact ⟨aP,cP,aM,cM,e1,e2,p1,p2⟩
def RmRel (N:List Nd) (ms:List Int) (target:Fl) (g10 g11 gT:Nat) (w:World) (k:Nat) (wr:World):Prop :=
 ∃ (i:Nat) (aP:Option Addr) (cP:Nat) (aM:Option Addr) (cM:Nat) (qs:List PQ) (F:Fl),F.msgs.length=k∧Blk wr g11 [.slice aP F.peers.length cP,.slice aM F.msgs.length cM] 27 ∧
  FlOwn w.heap.size wr (.slice aP F.peers.length cP) (.slice aM F.msgs.length cM) qs F∧TurnB w wr gT (ms.drop i)∧Blk wr g10 [.slice none 0 0,.slice none 0 0] 27∧Ex w wr∧SmF F∧F.peers.length≤1000∧k≤1000000∧delAllF N ms k i F=target
theorem tick_plen {N:List Nd} {f:Fl} (id hh:Int):(tickF N f id hh).peers.length≤N.length:=by
 have h1:=(cop_len N f).1
 unfold tickF
 split
 ·show (List.map _ _).length≤_
  rw [List.length_map];exact h1
 ·exact h1
theorem FlOwn.oth {α:Type} {sz e base' base:Nat} {enc:α→List Value} {w w':World} {v v' m:Value} {qs:List PQ} {F:Fl} {l':List α} (h:FlOwn base w v m qs F) (own:OwnL sz enc e base' w v' l') (n1:36≠e) (n2:3≠e) (n3:69≠e) (n4:67≠e) (k:Chg (fun k=>k<w.heap.size∧¬ v'.ownBlock=some k) w w'):FlOwn base w' v m qs F :=
 ⟨h.1.oth own n1 n2 n3 k,OwnL.app h.2 own n4 k⟩
def TkRel (N:List Nd) (ts:List Int) (m:Nat) (target:Fl) (g10 g11 gT:Nat) (w:World) (k:Nat) (vL:Value) (wr:World):Prop :=
 ∃ (i:Nat) (aP:Option Addr) (cP:Nat) (aM:Option Addr) (cM:Nat) (qs:List PQ) (F:Fl) (L:List Nd),L.length=k∧i+k≤1000∧OwnL 3 encN 49 w.heap.size wr vL L∧Blk wr g11 [.slice aP F.peers.length cP,.slice aM F.msgs.length cM] 27 ∧
  FlOwn w.heap.size wr (.slice aP F.peers.length cP) (.slice aM F.msgs.length cM) qs F∧TurnB w wr gT (ts.drop i)∧Blk wr g10 [.slice none 0 0,.slice none 0 0] 27∧Ex w wr∧SmF F∧F.peers.length≤1000∧F.msgs.length≤i*2000∧tickAllF N ts m k i (L.map Nd.id) F=target
theorem erase_map {α β:Type} (f:α→β):∀ (l:List α) (k:Nat),(l.map f).eraseIdx k=(l.eraseIdx k).map f
 | [],_=>rfl
 | a::l,0=>rfl
 | a::l,k+1=>by
  show f a::(l.map f).eraseIdx k=f a::(l.eraseIdx k).map f
  rw [erase_map f l k]
theorem tk_step {N:List Nd} {ts:List Int} {m:Int} {k i p:Nat} {L:List Nd} {F:Fl} {y:Nd} (hp:p=headP (ts.drop i) (k+1)) (hy:L[p]?=some y):tickAllF N ts m (k+1) i (L.map Nd.id) F=tickAllF N ts m k (i+1) ((L.eraseIdx p).map Nd.id) (tickF N F y.id m):=by
 show tickAllF N ts m k (i+1) ((L.map Nd.id).eraseIdx (pickN ts i (k+1))) (tickF N F ((L.map Nd.id)[pickN ts i (k+1)]?.getD 0) m)=_
 rw [head_pick,← hp,List.getElem?_map,hy,erase_map]
 rfl
set_option maxRecDepth 100000 in
set_option maxHeartbeats 8000000 in
theorem round_f (a:Option Addr) (n c:Nat) (N:List Nd) (a2:Option Addr) (n2 c2:Nat) (P:List Pr) (a3:Option Addr) (n3 c3:Nat) (M:List (Int×Int)) (a4:Option Addr) (n4 c4:Nat) (ms:List Int) (a5:Option Addr) (n5 c5:Nat) (ts:List Int) (hh:Int) (w:World) (h:Sl 3 encN w a n N) (hn:n≤1000) (hc:n≤c) (hm:c≤maxLen) (hw:∀ x∈N,x.word<4294967296) (h2:PL w a2 n2 P) (hn2:n2≤4000000000000000000) (hS:SmF ⟨P,M⟩)
  (h3:Sl 2 encS w a3 n3 M) (hn3:n3≤1000000) (h4:Sl 1 encI w a4 n4 ms) (hc4:n4≤c4) (hm4:c4≤maxLen) (h5:Sl 1 encI w a5 n5 ts) (hc5:n5≤c5) (hm5:c5≤maxLen) :
  Calls Tryz.prog 42 #[.slice a n c,.agg #[.slice a2 n2 c2,.slice a3 n3 c3],.slice a4 n4 c4,.slice a5 n5 c5,.int .i64 hh] w (FlPost (roundF N ⟨P,M⟩ ms ts hh) w):=by
 have HW:=lH hw
 have HL:=lH h.len
 have HS0:=lH h
 have H4:=lH h4
 have H5:=lH h5
 have HSM:=lH hS
 have HSP:=lH hS.1
 have HM:=lH (h3.len:M.length=n3)
 have EGT:Hid (∀ args w,(callFunc 145 args).run Tryz.prog w=.ok (.enter 145 args) w):=lH (enters_of Tryz.func145 (by kernel_rfl) rfl)
 have RN1:=lH (fun hx=>round_no1 (N:=N) (f:=⟨P,M⟩) (ms:=ms) (ts:=ts) (h:=hh) hx)
 have RN2:=lH (fun hx=>round_no2 (N:=N) (f:=⟨P,M⟩) (ms:=ms) (ts:=ts) (h:=hh) hx)
 obtain ⟨g6,hg6⟩:∃ g6,g6=w.heap.size:=⟨_,rfl⟩
 obtain ⟨g10,hg10⟩:∃ g10,g10=(w.heap.size+1):=⟨_,rfl⟩
 obtain ⟨w1,hw1⟩:∃ w1,w1=((w.alloc (.cells #[.slice a2 n2 c2,.slice a3 n3 c3] 27)).alloc (.cells #[.slice none 0 0,.slice none 0 0] 27)):=⟨_,rfl⟩
 have kk:Ex w w1:=by rw [hw1];exact (((Ex.refl w).alloc (.cells #[.slice a2 n2 c2,.slice a3 n3 c3] 27)).alloc (.cells #[.slice none 0 0,.slice none 0 0] 27))
 have B6:Blk w1 g6 [.slice a2 n2 c2,.slice a3 n3 c3] 27:=by rw [hw1];simp only [hg6,hg10];have hbk:=((Blk.new w [.slice a2 n2 c2,.slice a3 n3 c3] 27).nx (Ex.new _ (.cells #[.slice none 0 0,.slice none 0 0] 27)));simpa using hbk
 have B10:Blk w1 g10 [.slice none 0 0,.slice none 0 0] 27:=by rw [hw1];simp only [hg6,hg10];have hbk:=(Blk.new (w.alloc (.cells #[.slice a2 n2 c2,.slice a3 n3 c3] 27)) [.slice none 0 0,.slice none 0 0] 27);simpa using hbk
 have Hw1:=lH hw1
 have Hg6:=lH hg6
 have Hg10:=lH hg10
 replace h:=h.nx kk
 replace h2:=h2.nx kk
 replace h3:=h3.nx kk
 have zg10:w.heap.size≤g10:=by omega
 have K1:=lH kk
 clear kk hw1 hg6 hg10 hw hS h4 h5
 go_enter Tryz.func42,Tryz.ntmps42
 go_upto_region 1 with fail
 rw [← Hw1.out,← Hg10.out,← Hg6.out]
 clear Hw1 Hg10 Hg6
 go_wp2_with fail
 (with_reducible refine (check_p _ _ _ _ _ h (by omega) hc hm).mono ?_)
 rintro e w2 ⟨rfl,kk⟩
 replace h:=h.nx kk
 replace h2:=h2.nx kk
 replace h3:=h3.nx kk
 replace B6:=B6.nx kk
 replace B10:=B10.nx kk
 have K2:=lH (K1.out.nx kk)
 clear kk
 by_cases hck:checkN N=0
 case neg =>
  have d1:(checkN N != 0)=true:=by simpa using hck
  have ET:=lH (RN2.out hck)
  clear hck
  have r0:=B10.cell 0 _ rfl
  have r1:=B10.cell 1 _ rfl
  have f0:=B10.free 0
  have f1:=B10.free 1
  have KE:=lH ((K2.out.setNew (p:=⟨g10,0,none⟩) (.slice none 0 0) zg10).setNew (p:=⟨g10,1,none⟩) (.slice none 0 0) zg10)
  clear h h2 h3 B6 B10
  go_wp2_with fail
  refine bodyPost_ret (v:=.agg #[.slice none 0 0,.slice none 0 0]) (by simp [results,Tryz.results42,go_sem, *]) rfl ⟨_,_,[],rfl,by rw [ET.out];exact FlOwn.nil _ _,KE.out⟩
 have d1:(checkN N != 0)=false:=by simpa using hck
 have HC:=lH hck
 clear hck
 by_cases hlo:hh<0
 ·have ET:=lH (RN1.out (by unfold lvlN;simp;omega))
  have r0:=B10.cell 0 _ rfl
  have r1:=B10.cell 1 _ rfl
  have f0:=B10.free 0
  have f1:=B10.free 1
  have KE:=lH ((K2.out.setNew (p:=⟨g10,0,none⟩) (.slice none 0 0) zg10).setNew (p:=⟨g10,1,none⟩) (.slice none 0 0) zg10)
  clear h h2 h3 B6 B10
  go_wp2_with fail
  refine bodyPost_ret (v:=.agg #[.slice none 0 0,.slice none 0 0]) (by simp [results,Tryz.results42,go_sem, *]) rfl ⟨_,_,[],rfl,by rw [ET.out];exact FlOwn.nil _ _,KE.out⟩
 by_cases hhi:hh>16
 ·have ET:=lH (RN1.out (by unfold lvlN;simp;omega))
  have r0:=B10.cell 0 _ rfl
  have r1:=B10.cell 1 _ rfl
  have f0:=B10.free 0
  have f1:=B10.free 1
  have KE:=lH ((K2.out.setNew (p:=⟨g10,0,none⟩) (.slice none 0 0) zg10).setNew (p:=⟨g10,1,none⟩) (.slice none 0 0) zg10)
  clear h h2 h3 B6 B10
  go_wp2_with fail
  refine bodyPost_ret (v:=.agg #[.slice none 0 0,.slice none 0 0]) (by simp [results,Tryz.results42,go_sem, *]) rfl ⟨_,_,[],rfl,by rw [ET.out];exact FlOwn.nil _ _,KE.out⟩
 obtain ⟨m,rfl⟩:=Int.eq_ofNat_of_zero_le (show 0≤hh by omega)
 have hm16:m≤16:=by omega
 have RY:=lH (round_yes (N:=N) (f:=⟨P,M⟩) (ms:=ms) (ts:=ts) hm16 HC.out)
 have NF:=normal_f a n c N a2 n2 c2 P a3 n3 c3 M
 have CL:=lH (cop_len N ⟨P,M⟩)
 have CS:=lH (cop_sm (N:=N) HSM.out)
 obtain ⟨F,hF⟩:∃ F,F=copF N ⟨P,M⟩:=⟨_,rfl⟩
 rw [← hF] at NF CL CS RY
 clear hF RN1 RN2
 go_upto_region 3 with fail
 have q0:=B6.cell 0 _ rfl
 have q1:=B6.cell 1 _ rfl
 go_wp2_with fail
 (with_reducible refine (NF w2 h hn hc hm h2 hn2 HSP.out h3 (by omega)).mono ?_)
 rintro e w3 ⟨vP,vM,qs,rfl,FO,kk⟩
 replace B10:=B10.nx kk
 obtain ⟨aP,cP,aM,cM,rfl,rfl,_,_⟩:=FO.two
 have K3:=lH (K2.out.nx kk)
 have hz2:=K2.out.size
 clear kk h h2 h3 B6 q0 q1 NF
 have hl10:=B10.lt
 have B11:=Blk.new w3 [.slice aP F.peers.length cP,.slice aM F.msgs.length cM] 27
 have kk:=Ex.new w3 (.cells #[.slice aP F.peers.length cP,.slice aM F.msgs.length cM] 27)
 obtain ⟨w4,hw4⟩:∃ w4,w4=w3.alloc (.cells #[.slice aP F.peers.length cP,.slice aM F.msgs.length cM] 27):=⟨_,rfl⟩
 obtain ⟨g11,hg11⟩:∃ g11,g11=w3.heap.size:=⟨_,rfl⟩
 replace B11:Blk w4 g11 [.slice aP F.peers.length cP,.slice aM F.msgs.length cM] 27:=by rw [hw4,hg11];exact B11
 rw [← hw4] at kk
 have Hw4:=lH hw4
 have Hg11:=lH hg11
 replace B10:=B10.nx kk
 replace FO:=FO.nx kk
 have K4:=lH (K3.out.nx kk)
 have zg11:w.heap.size≤g11:=by have:=K3.out.size;omega
 have h1011:¬ g10=g11:=by omega
 clear kk hw4 hg11
 go_upto_region 4 with fail
 rw [← Hg11.out,← Hw4.out]
 clear Hg11 Hw4
 have FO4:=lH (FO.lower (base':=w.heap.size) hz2)
 have hl11:=B11.lt
 have hl10:=B10.lt
 clear FO
 go_wp2_with fail
 (with_reducible refine (turns_f _ _ _ ms w _ H4.out hc4 hm4).mono ?_)
 rintro e w5 ⟨gT,rfl,hgT,kk,TB⟩
 have hFl:F.peers.length≤1000:=by have:=CL.out.1;have:=HL.out;omega
 have hMl:F.msgs.length≤1000000:=by have:=CL.out.2.1;have:=HM.out;omega
 have hNl:N.length≤1000:=by have:=HL.out;omega
 have zgT:w.heap.size≤gT:=by have:=K4.out.size;omega
 have hT11:¬ g11=gT:=by omega
 have hT10:¬ g10=gT:=by omega
 have R0:=lH (show RmRel N ms (delAllF N ms F.msgs.length 0 F) g10 g11 gT w F.msgs.length w5 from
  ⟨0,aP,cP,aM,cM,qs,F,rfl,B11.nx kk,FO4.out.nx kk,TB,B10.nx kk,K4.out.nx kk,CS.out,hFl,hMl,rfl⟩)
 have c51:=(B11.nx kk).cell 1 _ rfl
 generalize hTG:delAllF N ms F.msgs.length 0 F=G1 at R0 RY
 clear hTG kk TB B10 B11 FO4 K4 K3 K2 K1 CL CS HM HSM
 go_upto_region 5 with fail
 clear c51
 go_loopg [] F.msgs.length (fun k wr=>RmRel N ms G1 g10 g11 gT w k wr)
 case atStart=>exact R0.out
 case round =>
  clear R0
  obtain ⟨i,aQ,cQ,aR,cR,qr,Fi,hFi,B11,FO,TB,B10,kw,hsm,hpl,hkl,htg⟩:=hrel
  obtain ⟨wi,rfl⟩:∃ wi:World,wi=wr:=⟨_,rfl⟩
  have hn0:=FO.2
  have KW:=lH kw
  have FOH:=lH FO
  have TBH:=lH TB
  have c51:=B11.cell 1 _ rfl
  have TG:=lH htg
  have SMH:=lH hsm
  have SMP:=lH hsm.1
  have SMK:=lH hsm.2
  clear kw FO TB htg hsm hn0
  obtain ⟨aT,nT,cT,BT,_,_,_⟩:=TBH.out
  cases gk with
  | zero =>
   rw [hFi] at c51
   have hGF:Fi=G1:=TG.out
   have hFi':=hFi
   have HFI:=lH hFi
   clear hFi
   have l10:=B10.lt
   have l11:=B11.lt
   have B10H:=lH B10
   have B11H:=lH B11
   clear B10 B11 BT
   go_wp2_with fail
   (with_reducible refine (turns_f _ _ _ ts w _ H5.out hc5 hm5).mono ?_)
   rintro e w6 ⟨gU,rfl,hgU,kk,TB⟩
   replace B10H:=lH (B10H.out.nx kk)
   replace B11H:=lH (B11H.out.nx kk)
   replace FOH:=lH (FOH.out.nx kk)
   have zgU:w.heap.size≤gU:=by have:=KW.out.size;omega
   have hU11:¬ g11=gU:=by omega
   have hU10:¬ g10=gU:=by omega
   replace KW:=lH (KW.out.nx kk)
   have TBU:=lH TB
   clear kk TB c51
   go_wp2_with fail
   (with_reducible refine (sort_p _ _ _ _ _ (HS0.out.nx KW.out) hn).mono ?_)
   rintro e w7 ⟨v,S,rfl,OS,⟨hp,hsrt⟩,kk⟩
   have hSe:S=sortN N:=sortN_unique (check_keys HC.out) hp hsrt
   subst hSe
   have hSl:(sortN N).length=N.length:=sortN_length N
   have RYH:=lH (show roundF N ⟨P,M⟩ ms ts m=tickAllF N ts m (sortN N).length 0 ((sortN N).map Nd.id) Fi from by rw [hSl,hGF];exact RY.out)
   have hSl2:(sortN N).length≤1000:=by omega
   generalize sortN N=S at OS RYH hSl2
   obtain ⟨aL,cL,rfl,_,_,_⟩:=OS.sl3 (fun _=>rfl)
   have T0:=lH (show TkRel N ts m (roundF N ⟨P,M⟩ ms ts m) g10 g11 gU w S.length (.slice aL S.length cL) w7 from
    ⟨0,aQ,cQ,aR,cR,qr,Fi,S,rfl,by omega,OS.base KW.out.size,B11H.out.nx kk,FOH.out.nx kk,TBU.out.nx kk,B10H.out.nx kk,KW.out.nx kk,SMH.out,hpl,by rw [hFi'];omega,RYH.out.symm⟩)
   have hFi2:=HFI.out
   clear OS RYH kk B10H B11H FOH TBU KW hGF hSl hp hsrt RY
   go_upto_region 9 with fail
   go_loopg [13] S.length (fun k vL wr=>TkRel N ts m (roundF N ⟨P,M⟩ ms ts m) g10 g11 gU w k vL wr)
   case atStart=>exact T0.out
   case round =>
    clear T0
    obtain ⟨i2,aQ2,cQ2,aR2,cR2,qr2,F2,L,hL,hik,OL,B11,FO,TB,B10,kw,hsm,hpl2,hml2,htg⟩:=hrel
    obtain ⟨wj,rfl⟩:∃ wj:World,wj=wr:=⟨_,rfl⟩
    have KW:=lH kw
    have TG:=lH htg
    have SM2:=lH hsm
    have SMP2:=lH hsm.1
    have zh10:g10<wj.heap.size:=B10.lt
    have zh11:g11<wj.heap.size:=B11.lt
    have FOH:=lH FO
    have TBH:=lH TB
    have B10H:=lH B10
    have B11H:=lH B11
    have OLH:=lH OL
    obtain ⟨aL2,cL2,rfl,SL,hcL,hcm⟩:=OL.sl3 (fun _=>rfl)
    have SLH:=lH SL
    obtain ⟨aU,nU,cU,BU,_,_,_⟩:=TBH.out
    have BUH:=lH BU
    have hLH:=lH hL
    clear kw htg hsm FO TB B10 B11 OL SL BU
    cases gk with
    | zero =>
     have ET:Hid (roundF N ⟨P,M⟩ ms ts m=F2):=lH TG.out.symm
     rw [hL]
     have B10:=B10H.out
     have B11:=B11H.out
     clear hL TG B10H B11H
     have r0:=B10.cell 0 _ rfl
     have r1:=B10.cell 1 _ rfl
     have f0:=B10.free 0
     have f1:=B10.free 1
     have p0:=B11.cell 0 _ rfl
     have p1:=B11.cell 1 _ rfl
     have B8H:=lH B10
     clear B10 B11
     go_wp2_with fail
     obtain ⟨wz,hwz⟩:∃ wz,wz=(wj.setCell ⟨g10,0,none⟩ (.slice aQ2 F2.peers.length cQ2)).setCell ⟨g10,1,none⟩ (.slice aR2 F2.msgs.length cR2):=⟨_,rfl⟩
     have BZ:Blk wz g10 [.slice aQ2 F2.peers.length cQ2,.slice aR2 F2.msgs.length cR2] 27:=by rw [hwz];exact (B8H.out.set 0 _).set 1 _
     have KB:Exb g10 wj wz:=by rw [hwz];exact ((Exb.refl g10 _).setB (p:=⟨g10,0,none⟩) _ rfl).setB (p:=⟨g10,1,none⟩) _ rfl
     have KE:Ex w wz:=by rw [hwz];exact (KW.out.setNew (p:=⟨g10,0,none⟩) _ zg10).setNew (p:=⟨g10,1,none⟩) _ zg10
     have FF:=lH (FOH.out.putB B8H.out (by decide) (by decide) (by decide) (by decide) KB)
     rw [← hwz]
     have q0:=BZ.cell 0 _ rfl
     have q1:=BZ.cell 1 _ rfl
     clear r0 r1 f0 f1 p0 p1 hwz
     refine bodyPost_ret (v:=.agg #[.slice aQ2 F2.peers.length cQ2,.slice aR2 F2.msgs.length cR2]) (by simp [results,Tryz.results42,go_sem, *]) rfl ⟨_,_,qr2,rfl,by rw [ET.out];exact FF.out,KE⟩
    | succ k =>
     have hk1:(0:Int)<(k:Int)+1:=by omega
     have EGS:=EGT.out
     have hpk:=head_lt (ts.drop i2) (show 0<k+1 by omega)
     rw [hL]
     clear hL
     go_upto_region 10 with fail
     have tf:=turn_f gU (k+1) _ w _ TBH.out KW.out (by omega) (by omega) zgU
     rw [show ((k+1:Nat):Int)=(k:Int)+1 by omega] at tf
     go_wp2_with fail
     (with_reducible refine tf.mono ?_)
     rintro e w8 ⟨rfl,TB2,kb⟩
     have TBC:=lH TB2
     replace FOH:=lH (FOH.out.putB BUH.out (by decide) (by decide) (by decide) (by decide) kb)
     replace B10H:=lH (B10H.out.nxb hU10 kb)
     replace B11H:=lH (B11H.out.nxb hU11 kb)
     replace OLH:=lH (OLH.out.put BUH.out (by decide) kb)
     replace KW:=lH (Exl.nxb (b:=gU) (w:=w) ⟨KW.out,zgU⟩ kb).1
     have zz8:=kb.size
     obtain ⟨p,hpe⟩:∃ p,p=headP (ts.drop i2) (k+1):=⟨_,rfl⟩
     rw [← hpe] at hpk ⊢
     have HPE:=lH hpe
     clear tf TB2 kb hpe BUH SLH
     obtain ⟨aL3,cL3,e3,SL3,_,_⟩:=OLH.out.sl3 (fun _=>rfl)
     cases e3
     rw [hLH.out] at SL3
     obtain ⟨xL,oL,y,heL,hxL,hyL,hcL3⟩:=SL3.at hpk
     subst heL
     have e0:w8.cell? ⟨xL,oL+p*3,none⟩=some (.int .i64 y.id):=hcL3 0 _ rfl
     have CE:Hid (∀ wq,Ex w8 wq→wq.cell? ⟨xL,oL+p*3,none⟩=some (.int .i64 y.id)):=lH (fun wq kq=>Chg.cellv kq e0 hxL)
     have HY:=lH hyL
     have hp1:(p:Int)<(k:Int)+1:=by omega
     have pw:IntKind.i64.wrap ((p:Int)+1)=(p:Int)+1:=IntWalk.i64_in _ (by omega)
     clear e0 hcL3 hyL SL3
     go_upto_region 11 with fail
     refine wp_region_late_drew (S:=Ex w8) [9] (by kernel_rfl) ((Ex.refl w8).drew) (fun hHeld=>?_)
     obtain ⟨wd,hwdx⟩:∃ wd:World,wd=World.drew w8:=⟨_,rfl⟩
     rw [← hwdx] at hHeld ⊢
     have hDrew:Ex w8 wd:=by rw [hwdx];exact (Ex.refl w8).drew
     clear hwdx
     refine tkL 0 (v:=?_) rfl (by kernel_rfl) (fun _ _ _ h=>h) (by rfl) ?y5 hHeld ?_
     case y5=>intro wq hSw;go_simp<;>rfl
     refine tkL 1 (v:=?_) rfl (by kernel_rfl) (fun _ _ _ h=>h) (by rfl) ?y8 hHeld ?_
     case y8=>intro wq hSw;(have cq0:=(B11H.out.nx hSw).cell 0 _ rfl;have cq1:=(B11H.out.nx hSw).cell 1 _ rfl;go_simp)<;>rfl
     refine tkL 2 (v:=?_) rfl (by kernel_rfl) (fun _ _ _ h=>h) (by rfl) ?y11 hHeld ?_
     case y11=>intro wq hSw;go_simp<;>rfl
     refine tkL 3 (v:=?_) rfl (by kernel_rfl) (fun _ _ _ h=>h) (by rfl) ?y14 hHeld ?_
     case y14=>intro wq hSw;go_simp<;>rfl
     refine tkL 4 (v:=?_) rfl (by kernel_rfl) (fun _ _ _ h=>h) (by rfl) ?y17 hHeld ?_
     case y17=>intro wq hSw;go_simp<;>rfl
     refine tkL 5 (v:=?_) rfl (by kernel_rfl) (fun _ _ _ h=>h) (by rfl) ?y20 hHeld ?_
     case y20=>intro wq hSw;go_simp<;>rfl
     refine tkL 6 (v:=?_) rfl (by kernel_rfl) (fun _ _ _ h=>h) (by rfl) ?y23 hHeld ?_
     case y23=>intro wq hSw;(have cq:=CE.out _ hSw;go_simp)<;>rfl
     refine tkL 7 (v:=?_) rfl (by kernel_rfl) (fun _ _ _ h=>h) (by rfl) ?y26 hHeld ?_
     case y26=>intro wq hSw;go_simp<;>rfl
     refine rL 8 (by kernel_rfl) rfl fun K hK=>?_
     obtain ⟨_,_,_,_,ee1,ee2,p1,s2⟩:=(FOH.out.nx hHeld).two
     cases ee1
     cases ee2
     go_simp
     (with_reducible refine (tick_f _ _ _ N _ _ _ F2.peers _ _ _ F2.msgs y.id m _ (HS0.out.nx (KW.out.nx hHeld)) hn hc hm HW.out p1 (by omega) SMP2.out s2 (by omega)).mono ?_)
     rintro e wb ⟨vP,vM,qs2,rfl,FO2,kk⟩
     obtain ⟨G2,hG2⟩:∃ G2,G2=tickF N F2 y.id m:=⟨_,rfl⟩
     have HG2:=lH hG2
     have hzwd:=hHeld.size
     replace FO2:FlOwn wd.heap.size wb vP vM qs2 G2:=by rw [hG2];exact FO2
     obtain ⟨aP2,cP2,aM2,cM2,rfl,rfl,_,_⟩:=FO2.two
     have FO2H:=lH FO2
     replace hHeld:=hHeld.nx kk
     clear kk FO2 hG2 p1 s2
     refine hK.out _ _ (hHeld) (fun hHeld=>?_)
     clear hK K
     refine rLL 9 (by kernel_rfl) rfl (by rfl) fun K hK=>?_
     have BQ:=B11H.out.nx hHeld
     have cq0:=BQ.cell 0 _ rfl
     have cq1:=BQ.cell 1 _ rfl
     have fq0:=BQ.free 0
     have fq1:=BQ.free 1
     go_simp
     clear cq0 cq1 fq0 fq1
     refine hK.out _ _ ?_
     clear hK K
     refine wpAnyL_done (by kernel_rfl) ?_ _
     obtain ⟨wy,hwy⟩:∃ wy,wy=(wb.setCell ⟨g11,0,none⟩ (.slice aP2 G2.peers.length cP2)).setCell ⟨g11,1,none⟩ (.slice aM2 G2.msgs.length cM2):=⟨_,rfl⟩
     rw [← hwy]
     have kb2:Exb g11 wb wy:=by rw [hwy];exact ((Exb.refl g11 _).setB (p:=⟨g11,0,none⟩) _ rfl).setB (p:=⟨g11,1,none⟩) _ rfl
     have BY:Blk wy g11 [.slice aP2 G2.peers.length cP2,.slice aM2 G2.msgs.length cM2] 27:=by rw [hwy];exact (BQ.set 0 _).set 1 _
     have KY:=lH (show Ex w wy from by rw [hwy];exact ((KW.out.nx hHeld).setNew (p:=⟨g11,0,none⟩) _ zg11).setNew (p:=⟨g11,1,none⟩) _ zg11)
     have FOY:=lH ((FO2H.out.putB BQ (by decide) (by decide) (by decide) (by decide) kb2).lower (base':=w.heap.size) (by have:=KW.out.size;omega))
     have OLY:=lH ((OLH.out.nx hHeld).put BQ (by decide) kb2)
     have B10Y:=lH ((B10H.out.nx hHeld).nxb h1011 kb2)
     have TBY:=lH ((TBC.out.nx hHeld).nxb (b:=g11) (fun hh=>hU11 hh.symm) kb2)
     have BYH:=lH BY
     have OLY2:=OLY.out
     rw [hLH.out] at OLY2
     have OL2:=lH OLY2
     clear hwy kb2 BY BQ hHeld hDrew FO2H OLH B10H TBC FOH B11H CE OLY2
     go_wp2_with fail
     (with_reducible refine (delete_nd _ _ p w _ OL2.out (by rw [hLH.out];exact hpk) (by rw [hLH.out];omega) KY.out).mono ?_)
     rintro e w9 ⟨v9,rfl,own9,k9,ch9⟩
     have RR:=lH (show TkRel N ts m (roundF N ⟨P,M⟩ ms ts m) g10 g11 gU w k v9 w9 from ⟨i2+1,aP2,cP2,aM2,cM2,qs2,G2,L.eraseIdx p,by rw [List.length_eraseIdx,hLH.out,if_pos hpk];rfl,by omega,own9,BYH.out.app OL2.out (by decide) ch9,FOY.out.oth OL2.out (by decide) (by decide) (by decide) (by decide) ch9,by obtain ⟨a',n',c',t1,t2,t3⟩:=TBY.out;exact ⟨a',n',c',t1.app OL2.out (by decide) ch9,by rw [← List.tail_drop];exact t2,t3⟩,B10Y.out.app OL2.out (by decide) ch9,k9,by rw [HG2.out];exact tick_sm hNl SM2.out _ _,by rw [HG2.out];exact Nat.le_trans (tick_plen _ _) hNl,by rw [HG2.out];have:=tick_len (N:=N) (f:=F2) HC.out y.id m;omega,by rw [HG2.out,← tk_step HPE.out HY.out];exact TG.out⟩)
     clear own9 k9 ch9 pw
     go_wp2_with fail
     go_roundg k
     case measure=>omega
     case rel=>exact RR.out
  | succ k =>
   rw [hFi] at c51 B11
   have HFI:=lH hFi
   have hk0:(0:Int)<((k+1:Nat):Int):=by omega
   have hk1:(0:Int)<(k:Int)+1:=by omega
   clear hFi
   go_upto_region 6 with fail
   have B11H:=lH B11
   have B10H:=lH B10
   have BTH:=lH BT
   have EGS:=EGT.out
   have hpk:=head_lt (ms.drop i) (show 0<k+1 by omega)
   clear c51 B11 B10 BT
   refine wp_region_late_drew (S:=Exb gT wi) [7,8] (by kernel_rfl) ((Exb.refl gT wi).drew) (fun hHeld=>?_)
   obtain ⟨wd,hwdx⟩:∃ wd:World,wd=World.drew wi:=⟨_,rfl⟩
   rw [← hwdx] at hHeld ⊢
   have hDrew:Ex wi wd:=by rw [hwdx];exact (Ex.refl wi).drew
   clear hwdx
   refine tkL 0 (v:=?_) rfl (by kernel_rfl) (fun _ _ _ h=>h) (by rfl) ?y5 hHeld ?_
   case y5=>intro wq hSw;go_simp<;>rfl
   refine tkL 1 (v:=?_) rfl (by kernel_rfl) (fun _ _ _ h=>h) (by rfl) ?y8 hHeld ?_
   case y8=>intro wq hSw;(have cq0:=(B11H.out.nxb hT11 hSw).cell 0 _ rfl;have cq1:=(B11H.out.nxb hT11 hSw).cell 1 _ rfl;go_simp)<;>rfl
   refine tkL 2 (v:=?_) rfl (by kernel_rfl) (fun _ _ _ h=>h) (by rfl) ?y11 hHeld ?_
   case y11=>intro wq hSw;go_simp<;>rfl
   refine tkL 3 (v:=?_) rfl (by kernel_rfl) (fun _ _ _ h=>h) (by rfl) ?y14 hHeld ?_
   case y14=>intro wq hSw;go_simp<;>rfl
   refine tkL 4 (v:=?_) rfl (by kernel_rfl) (fun _ _ _ h=>h) (by rfl) ?y17 hHeld ?_
   case y17=>intro wq hSw;(have cq1:=(B11H.out.nxb hT11 hSw).cell 1 _ rfl;go_simp)<;>rfl
   refine tkL 5 (v:=?_) rfl (by kernel_rfl) (fun _ _ _ h=>h) (by rfl) ?y20 hHeld ?_
   case y20=>intro wq hSw;go_simp<;>rfl
   refine rL 6 (by kernel_rfl) rfl fun K hK=>?_
   go_simp
   have tf:=turn_f gT (k+1) _ w _ (TBH.out.nx hDrew) (KW.out.nx hDrew) (by omega) (by omega) zgT
   rw [show ((k+1:Nat):Int)=(k:Int)+1 by omega] at tf
   (with_reducible refine tf.mono ?_)
   rintro e wc ⟨rfl,TB2,kb⟩
   clear tf
   have TBC:=lH TB2
   have KC:=lH (Exl.nxb (b:=gT) (w:=w) ⟨KW.out.nx hDrew,zgT⟩ kb).1
   replace hHeld:=hHeld.nxb kb
   clear kb TB2
   refine hK.out _ _ (hHeld) (fun hHeld=>?_)
   clear hK K
   refine rLL 7 (by kernel_rfl) rfl (by rfl) fun K hK=>?_
   obtain ⟨_,_,_,_,ee1,ee2,p1,s2⟩:=(FOH.out.putB BTH.out (by decide) (by decide) (by decide) (by decide) hHeld).two
   cases ee1
   cases ee2
   rw [HFI.out] at s2
   go_simp
   (with_reducible refine (del_f _ _ _ N _ _ _ Fi.peers _ _ _ Fi.msgs (headP (ms.drop i) (k+1):Nat) _ (HS0.out.nx KC.out) hn hc hm p1 (by omega) SMP.out s2 (by omega) SMK.out).mono ?_)
   rintro e wb ⟨vP,vM,qs2,rfl,FO2,kk⟩
   obtain ⟨G2,hG2⟩:∃ G2,G2=delF N Fi (headP (ms.drop i) (k+1):Nat):=⟨_,rfl⟩
   have HG2:=lH hG2
   replace FO2:FlOwn wc.heap.size wb vP vM qs2 G2:=by rw [hG2];exact FO2
   obtain ⟨aP2,cP2,aM2,cM2,rfl,rfl,_,_⟩:=FO2.two
   have FO2H:=lH FO2
   have KKH:=lH kk
   replace hHeld:=hHeld.nxb (kk.b gT)
   clear kk FO2 hG2 p1 s2
   refine hK.out _ _ ?_
   clear hK K
   refine rLL 8 (by kernel_rfl) rfl (by rfl) fun K hK=>?_
   have BQ:=B11H.out.nxb hT11 hHeld
   have cq0:=BQ.cell 0 _ rfl
   have cq1:=BQ.cell 1 _ rfl
   have fq0:=BQ.free 0
   have fq1:=BQ.free 1
   go_simp
   clear cq0 cq1 fq0 fq1
   refine hK.out _ _ ?_
   clear hK K
   refine wpAnyL_done (by kernel_rfl) ?_ _
   obtain ⟨wy,hwy⟩:∃ wy,wy=(wb.setCell ⟨g11,0,none⟩ (.slice aP2 G2.peers.length cP2)).setCell ⟨g11,1,none⟩ (.slice aM2 G2.msgs.length cM2):=⟨_,rfl⟩
   rw [← hwy]
   have kb2:Exb g11 wb wy:=by rw [hwy];exact ((Exb.refl g11 _).setB (p:=⟨g11,0,none⟩) _ rfl).setB (p:=⟨g11,1,none⟩) _ rfl
   have BY:Blk wy g11 [.slice aP2 G2.peers.length cP2,.slice aM2 G2.msgs.length cM2] 27:=by rw [hwy];exact (BQ.set 0 _).set 1 _
   have RR:=lH (show RmRel N ms G1 g10 g11 gT w k wy from ⟨i+1,aP2,cP2,aM2,cM2,qs2,G2,by rw [HG2.out];exact del_len HC.out HFI.out hpk,BY,(FO2H.out.putB BQ (by decide) (by decide) (by decide) (by decide) kb2).lower KC.out.size,by have:=(TBC.out.nx KKH.out).nxb (b:=g11) (fun hh=>hT11 hh.symm) kb2;rw [List.tail_drop] at this;exact this,(B10H.out.nxb hT10 hHeld).nxb h1011 kb2,by rw [hwy];exact ((KC.out.nx KKH.out).setNew (p:=⟨g11,0,none⟩) _ zg11).setNew (p:=⟨g11,1,none⟩) _ zg11,by rw [HG2.out];exact del_sm hNl SMH.out _,by rw [HG2.out];exact Nat.le_trans (del_plen _) hNl,by omega,by rw [HG2.out,← head_pick];exact TG.out⟩)
   clear hwy kb2 BY BQ hHeld hDrew
   go_wp2_with fail
   go_roundg k
   case measure=>omega
   case rel=>exact RR.out
def addM (N:List Nd) (P:List Pr) (m:Int×Int):List Pr:=if (findN N m.2).2=true then P.map (fun p=>if p.id=m.1 then { p with known:=p.known++[m.2] } else p) else P
def conF (N:List Nd) (f:Fl):Bool:=if checkN N=0 then connB N (f.msgs.foldl (addM N) (normalN N f.peers)) else false
theorem addM_ids (N:List Nd) (P:List Pr) (m:Int×Int):(addM N P m).map Pr.id=P.map Pr.id:=by
 unfold addM
 split
 ·rw [List.map_map]
  apply List.map_congr_left
  intro p _
  show (if p.id=m.1 then _ else _:Pr).id=p.id
  split<;>rfl
 ·rfl
theorem addM_len (N:List Nd) (P:List Pr) (m:Int×Int):(addM N P m).length=P.length:=by
 have:=congrArg List.length (addM_ids N P m)
 simpa using this
theorem addM_few {N:List Nd} {P:List Pr} {m:Int×Int} {k b:Nat} (h:∀ p∈P,p.known.length≤k∧p.near.length≤b):∀ p∈addM N P m,p.known.length≤k+1∧p.near.length≤b:=by
 intro p hp
 unfold addM at hp
 split at hp
 ·obtain ⟨q,hq,rfl⟩:=List.mem_map.1 hp
  have h1:=h q hq
  split
  ·show (q.known++[m.2]).length≤_∧_
   rw [List.length_append]
   exact ⟨by simp;omega,h1.2⟩
  ·exact ⟨by omega,h1.2⟩
 ·have h1:=h p hp
  exact ⟨by omega,h1.2⟩
theorem addM_out {N:List Nd} {P:List Pr} {m:Int×Int} (h:idxQ m.1 P = -1):addM N P m=P:=by
 unfold addM
 split
 ·have:∀ p∈P,(if p.id=m.1 then ({ p with known:=p.known++[m.2] }:Pr) else p)=id p:=fun p hp=>by
   rw [if_neg (fun he=>?_)]
   ·rfl
   ·unfold idxQ at h
    rw [if_pos (List.findIdx_lt_length.2 ⟨p,hp,by simpa using he⟩)] at h
    omega
  rw [List.map_congr_left this,List.map_id]
 ·rfl
theorem addM_one {N:List Nd} {P:List Pr} {m:Int×Int} {k:Nat} {y:Pr} (hf:(findN N m.2).2=true) (hy:P[k]?=some y) (hu:∀ j z,P[j]?=some z→z.id=y.id→j=k) (he:y.id=m.1):addM N P m=P.set k { y with known:=y.known++[m.2] }:=by
 unfold addM
 rw [if_pos hf,← he]
 exact map_one hy hu (fun p=>({ p with known:=p.known++[m.2] }:Pr))
theorem ids_uniq {N:List Nd} {P Q:List Pr} (h:Q.map Pr.id=(normalN N P).map Pr.id) {k:Nat} {y:Pr} (hy:Q[k]?=some y):∀ j z,Q[j]?=some z→z.id=y.id→j=k:=by
 intro j z hz he
 have e1:∀ (i:Nat) (x:Pr),Q[i]?=some x→∃ x',(normalN N P)[i]?=some x'∧x'.id=x.id:=by
  intro i x hx
  have:=congrArg (·[i]?) h
  simp only [List.getElem?_map,hx,Option.map_some] at this
  cases hq:(normalN N P)[i]? with
  | none=>rw [hq] at this;cases this
  | some x' =>
   rw [hq] at this
   exact ⟨x',rfl,(Option.some.inj this).symm⟩
 obtain ⟨y',hy',ey⟩:=e1 k y hy
 obtain ⟨z',hz',ez⟩:=e1 j z hz
 exact normal_uniq N P hy' hz' (by rw [ez,ey,he])
def FcRel (N:List Nd) (P:List Pr) (M:List (Int×Int)) (n3 n:Nat) (v:Value) (w:World) (i:Value) (wr:World):Prop :=
 ∃ (j:Nat) (qs:List PQ) (Q:List Pr),j≤n3∧i=.int .i64 j∧Q=(M.take j).foldl (addM N) (normalN N P)∧Q.length=n∧Q.map Pr.id=(normalN N P).map Pr.id∧(∀ p∈Q,p.known.length≤1000000+j∧p.near.length≤4398046511104)∧OwnPr w.heap.size wr v qs Q∧Ex w wr
theorem fc_snoc {N:List Nd} {M:List (Int×Int)} {j:Nat} {m:Int×Int} (hm:M[j]?=some m) (P:List Pr):(M.take (j+1)).foldl (addM N) P=addM N ((M.take j).foldl (addM N) P) m:=by
 rw [List.take_add_one,hm,List.foldl_append]
 rfl
set_option maxRecDepth 100000 in
set_option maxHeartbeats 8000000 in
theorem conn_f (a:Option Addr) (n c:Nat) (N:List Nd) (a2:Option Addr) (n2 c2:Nat) (P:List Pr) (a3:Option Addr) (n3 c3:Nat) (M:List (Int×Int)) (w:World) (h:Sl 3 encN w a n N) (hn:n≤1000) (hc:n≤c) (hm:c≤maxLen) (h2:PL w a2 n2 P) (hn2:n2≤4000000000000000000) (hS:SmF ⟨P,M⟩)
  (h3:Sl 2 encS w a3 n3 M) (hn3:n3≤1000000) :
  Calls Tryz.prog 44 #[.slice a n c,.agg #[.slice a2 n2 c2,.slice a3 n3 c3]] w fun e w'=>e=.returned (.bool (conF N ⟨P,M⟩))∧Ex w w':=by
 have HL:=lH h.len
 have HS0:=lH h
 have H2:=lH h2
 have H3:=lH h3
 have HSP:=lH hS.1
 have HM:=lH (h3.len:M.length=n3)
 have EG:Hid (∀ args w,(callFunc 100 args).run Tryz.prog w=.ok (.enter 100 args) w):=lH (enters_of Tryz.func100 (by kernel_rfl) rfl)
 have HFW:=lH (show ∀ p∈normalN N P,p.known.length≤1000000∧p.near.length≤4398046511104 from fun p hp=>by
  by_cases h0:checkN N=0
  ·have h1:=cop_sm (N:=N) hS
   have hp2:p∈(copF N ⟨P,M⟩).peers:=by rw [cop_yes h0];exact hp
   exact ⟨h1.2 p hp2,(h1.1 p hp2).2⟩
  ·unfold normalN at hp;rw [if_neg h0] at hp;cases hp)
 obtain ⟨g3,hg3⟩:∃ g3,g3=w.heap.size:=⟨_,rfl⟩
 obtain ⟨w1,hw1⟩:∃ w1,w1=(w.alloc (.cells #[.slice a2 n2 c2,.slice a3 n3 c3] 27)):=⟨_,rfl⟩
 have kk:Ex w w1:=by rw [hw1];exact ((Ex.refl w).alloc (.cells #[.slice a2 n2 c2,.slice a3 n3 c3] 27))
 have B3:Blk w1 g3 [.slice a2 n2 c2,.slice a3 n3 c3] 27:=by rw [hw1];simp only [hg3];have hbk:=(Blk.new w [.slice a2 n2 c2,.slice a3 n3 c3] 27);simpa using hbk
 have Hw1:=lH hw1
 have Hg3:=lH hg3
 replace h:=h.nx kk
 have K1:=lH kk
 clear kk hw1 hg3 hS h2 h3
 go_enter Tryz.func44,Tryz.ntmps44
 go_upto_region 1 with fail
 rw [← Hw1.out,← Hg3.out]
 clear Hw1 Hg3
 go_wp2_with fail
 (with_reducible refine (check_p _ _ _ _ _ h (by omega) hc hm).mono ?_)
 rintro e w2 ⟨rfl,kk⟩
 replace h:=h.nx kk
 replace B3:=B3.nx kk
 have K2:=lH (K1.out.nx kk)
 clear kk
 by_cases hck:checkN N=0
 case neg =>
  have d1:(checkN N != 0)=true:=by simpa using hck
  have ET:Hid (conF N ⟨P,M⟩=false):=lH (by unfold conF;rw [if_neg hck])
  clear h B3 hck
  go_wp2_with fail
  go_ret
  exact ⟨by rw [ET.out];rfl,K2.out⟩
 have d1:(checkN N != 0)=false:=by simpa using hck
 have ET:Hid (conF N ⟨P,M⟩=connB N (M.foldl (addM N) (normalN N P))):=lH (by unfold conF;rw [if_pos hck])
 have HC:=lH hck
 clear hck
 go_upto_region 3 with fail
 have q0:=B3.cell 0 _ rfl
 go_wp2_with fail
 (with_reducible refine (normal_p _ _ _ N _ _ _ P _ h hn hc hm (H2.out.nx K2.out) hn2 HSP.out).mono ?_)
 rintro e w3 ⟨vP,qs,rfl,oP,kk⟩
 replace B3:=B3.nx kk
 obtain ⟨aP,cP,rfl,_,_,_,hgP,_⟩:=oP.pl
 have HGP:=lH hgP
 have K3:=lH (K2.out.nx kk)
 have hz2:=K2.out.size
 obtain ⟨nP,hnP⟩:∃ nP,nP=(normalN N P).length:=⟨_,rfl⟩
 rw [← hnP] at oP ⊢
 have HNP:=lH hnP
 have hPl:nP≤1000:=by have:=(normal_le N P).1;have:=HL.out;omega
 have R0:=lH (show FcRel N P M n3 nP (.slice aP nP cP) w (.int .i64 0) w3 from ⟨0,qs,_,by omega,rfl,rfl,hnP.symm,rfl,fun p hp=>by have:=HFW.out p hp;omega,oP.lower hz2,K3.out⟩)
 have q1:=B3.cell 1 _ rfl
 clear kk h oP q0 hgP HFW hnP B3
 go_upto_region 5 with fail
 clear q1
 go_loopw [21] (fun i wr=>FcRel N P M n3 nP (.slice aP nP cP) w i wr) (fun i _=>n3-(intOf i).toNat)
 case atStart=>exact R0.out
 case round =>
  clear R0
  obtain ⟨j,qr,Q,hj,rfl,hQ,hQl,hQi,hQf,own,kw⟩:=hrel
  obtain ⟨wi,rfl⟩:∃ wi:World,wi=wr:=⟨_,rfl⟩
  have KW:=lH kw
  have OWN:=lH own
  have HQ:=lH hQ
  have HQL:=lH hQl
  have HQI:=lH hQi
  have HQF:=lH hQf
  clear kw own hQ hQl hQi hQf
  by_cases hjm:j<n3
  ·obtain ⟨x3,o3,m,he3,hx3,hmj,hc3⟩:=(H3.out.nx KW.out).at hjm
   subst he3
   have e0:=hc3 0 _ rfl
   have e1:=hc3 1 _ rfl
   rw [Nat.add_zero] at e0
   have SN:=lH (fc_snoc (N:=N) hmj (normalN N P))
   clear hc3 hmj
   have B7:=Blk.new wi [.int .i64 m.1,.int .i64 m.2] 67
   have kk:=Ex.new wi (.cells #[.int .i64 m.1,.int .i64 m.2] 67)
   obtain ⟨w4,hw4⟩:∃ w4,w4=wi.alloc (.cells #[.int .i64 m.1,.int .i64 m.2] 67):=⟨_,rfl⟩
   obtain ⟨g7,hg7⟩:∃ g7,g7=wi.heap.size:=⟨_,rfl⟩
   replace B7:Blk w4 g7 [.int .i64 m.1,.int .i64 m.2] 67:=by rw [hw4,hg7];exact B7
   rw [← hw4] at kk
   have Hw4:=lH hw4
   have Hg7:=lH hg7
   have K4:=lH kk
   clear kk hw4 hg7
   go_upto_region 7 with fail
   rw [← Hg7.out,← Hw4.out]
   clear Hg7 Hw4
   clear e0 e1
   have y1:=B7.cell 1 _ rfl
   go_wp2_with fail
   (with_reducible refine (find_p _ _ _ _ m.2 _ (HS0.out.nx (KW.out.nx K4.out)) (by omega)).mono ?_)
   rintro e w5 ⟨rfl,kk⟩
   replace B7:=B7.nx kk
   replace K4:=lH (K4.out.nx kk)
   clear kk
   clear y1
   obtain ⟨G,hG⟩:∃ G,G=findN N m.2:=⟨_,rfl⟩
   have HG:=lH hG
   rw [← hG]
   clear hG
   obtain ⟨⟨xi,xk,xw⟩,ok⟩:=G
   have B8:=Blk.new w5 [.int .i64 xi,.string xk,.int .u32 xw] 49
   have kk:=Ex.new w5 (.cells #[.int .i64 xi,.string xk,.int .u32 xw] 49)
   obtain ⟨w6,hw6⟩:∃ w6,w6=w5.alloc (.cells #[.int .i64 xi,.string xk,.int .u32 xw] 49):=⟨_,rfl⟩
   obtain ⟨g8,hg8⟩:∃ g8,g8=w5.heap.size:=⟨_,rfl⟩
   replace B8:Blk w6 g8 [.int .i64 xi,.string xk,.int .u32 xw] 49:=by rw [hw6,hg8];exact B8
   rw [← hw6] at kk
   have Hw6:=lH hw6
   have Hg8:=lH hg8
   replace B7:=B7.nx kk
   replace K4:=lH (K4.out.nx kk)
   clear kk hw6 hg8
   simp only [Nd.val]
   go_upto_region 8 with fail
   rw [← Hg8.out,← Hw6.out]
   clear Hg8 Hw6
   have PI:=fcon1_p g7 m w6 B7
   have PLH:=lH (show PL w6 aP nP Q from by
    obtain ⟨a',c',e',r',_⟩:=(OWN.out.nx K4.out).pl
    rw [HQL.out] at e' r'
    cases e'
    exact r')
   go_wp2_with fail
   (with_reducible refine (idxf_pr _ _ _ EG.out _ _ _ Q _ PLH.out (by omega) PI).mono ?_)
   rintro e w7 ⟨rfl,kk⟩
   replace B7:=B7.nx kk
   replace K4:=lH (K4.out.nx kk)
   clear kk PI PLH B8
   have OWN7:=lH (OWN.out.nx K4.out)
   have KW7:=lH (KW.out.nx K4.out)
   have HF7:Hid (∀ p∈addM N Q m,p.known.length≤1000000+(j+1)∧p.near.length≤4398046511104):=lH (fun p hp=>by have:=addM_few HQF.out p hp;omega)
   have HI7:Hid ((addM N Q m).map Pr.id=(normalN N P).map Pr.id):=lH (by rw [addM_ids];exact HQI.out)
   have HL7:Hid ((addM N Q m).length=nP):=lH (by rw [addM_len];exact HQL.out)
   have HE7:Hid (addM N Q m=(M.take (j+1)).foldl (addM N) (normalN N P)):=lH (by rw [SN.out,← HQ.out])
   have hfk:ok=(findN N m.2).2:=by rw [← HG.out]
   have HFK:=lH hfk
   clear hfk OWN K4 KW
   rcases idxQ_cases Q m.1 with ⟨k,y,hq,hkl,hyk,hpy,hyi⟩ | ⟨hq,-⟩
   case inr =>
    have RR:=lH (show FcRel N P M n3 nP (.slice aP nP cP) w (.int .i64 ((j:Int)+1)) w7 from ⟨j+1,qr,addM N Q m,by omega,by go_num,HE7.out,HL7.out,HI7.out,HF7.out,by rw [addM_out hq];exact OWN7.out,KW7.out⟩)
    rw [hq]
    clear hq B7
    go_wp2_with fail
    exact ⟨RR.out,by simp [intOf];omega⟩
   have kk0:(0:Int)≤(k:Int):=by omega
   rw [hq]
   cases ok with
   | false =>
    have RR:=lH (show FcRel N P M n3 nP (.slice aP nP cP) w (.int .i64 ((j:Int)+1)) w7 from ⟨j+1,qr,addM N Q m,by omega,by go_num,HE7.out,HL7.out,HI7.out,HF7.out,by unfold addM;rw [if_neg (by rw [← HFK.out];simp)];exact OWN7.out,KW7.out⟩)
    clear hq B7 hkl hyk hpy hyi
    go_wp2_with fail
    exact ⟨RR.out,by simp [intOf];omega⟩
   | true =>
    have EA:=lH (addM_one HFK.out.symm hyk (ids_uniq HQI.out hyk) hyi)
    have hkl2:(k:Int)<(nP:Int):=by have:=HQL.out;omega
    have hyf:=HQF.out y (List.mem_of_getElem? hyk)
    obtain ⟨g,hge,hgb⟩:=HGP.out (fun h0=>by have h1:=HQL.out;have h2:=HNP.out;rw [h0] at h2;simp at h2;omega)
    subst hge
    have zgg:w.heap.size≤g:=by omega
    obtain ⟨⟨A1,m1,c1⟩,⟨A4,m4,c4⟩,hqs,oK,oN⟩:=OWN7.out.get hyk
    have HQS:=lH hqs
    have OK:=lH oK
    have HYK:=lH hyk
    have CL:Hid (∀ wq,Ex w7 wq→wq.cell? ⟨g,k*5+1,none⟩=some (.slice A1 m1 c1)):=lH (fun wq kq=>((OWN7.out.nx kq).rowc (by decide) HQS.out (Chg.refl _ _)).1)
    have B7H:=lH B7
    have zo:=KW7.out.size
    clear hq hyk hpy hyi hqs oK oN B7 hkl
    go_upto_region 10 with fail
    refine wp_region_late_drew (S:=Ex w7) [10,11,12,13] (by kernel_rfl) ((Ex.refl w7).drew) (fun hHeld=>?_)
    obtain ⟨wd,hwdx⟩:∃ wd:World,wd=World.drew w7:=⟨_,rfl⟩
    rw [← hwdx] at hHeld ⊢
    have hDrew:Ex w7 wd:=by rw [hwdx];exact (Ex.refl w7).drew
    clear hwdx
    refine wpAnyL_takeP (i:=0) (oi:=⟨_,_,_,_,_,_⟩) (v:=?_) rfl (by kernel_rfl) (by kernel_rfl) (by kernel_rfl) (fun _ _ _ h=>h) (Or.inl ⟨by rfl,?y5⟩) ?_
    case y5=>intro wq hSw;go_simp<;>rfl
    refine wpAnyL_takeP (i:=1) (oi:=⟨_,_,_,_,_,_⟩) (v:=?_) rfl (by kernel_rfl) (by kernel_rfl) (by kernel_rfl) (fun _ _ _ h=>h) (Or.inl ⟨by rfl,?y8⟩) ?_
    case y8=>intro wq hSw;go_simp<;>rfl
    refine tkL 2 (v:=?_) rfl (by kernel_rfl) (fun _ _ _ h=>h) (by rfl) ?y11 hHeld ?_
    case y11=>intro wq hSw;go_simp<;>rfl
    refine tkL 3 (v:=?_) rfl (by kernel_rfl) (fun _ _ _ h=>h) (by rfl) ?y14 hHeld ?_
    case y14=>intro wq hSw;go_simp<;>rfl
    refine tkL 4 (v:=?_) rfl (by kernel_rfl) (fun _ _ _ h=>h) (by rfl) ?y17 hHeld ?_
    case y17=>intro wq hSw;go_simp<;>rfl
    refine tkL 5 (v:=?_) rfl (by kernel_rfl) (fun _ _ _ h=>h) (by rfl) ?y20 hHeld ?_
    case y20=>intro wq hSw;go_simp<;>rfl
    refine tkL 6 (v:=?_) rfl (by kernel_rfl) (fun _ _ _ h=>h) (by rfl) ?y23 hHeld ?_
    case y23=>intro wq hSw;(have cq:=CL.out _ hSw;go_simp)<;>rfl
    refine tkL 7 (v:=?_) rfl (by kernel_rfl) (fun _ _ _ h=>h) (by rfl) ?y26 hHeld ?_
    case y26=>intro wq hSw;go_simp<;>rfl
    refine tkL 8 (v:=?_) rfl (by kernel_rfl) (fun _ _ _ h=>h) (by rfl) ?y29 hHeld ?_
    case y29=>intro wq hSw;(have cq:=(B7H.out.nx hSw).cell 1 _ rfl;go_simp)<;>rfl
    refine rL 9 (by kernel_rfl) rfl fun K hK=>?_
    go_simp
    obtain ⟨gx,wq,hgx,hwq,SX,kk⟩:=litF hHeld.size m.2
    rw [← hgx,← hwq]
    clear hgx hwq
    replace hHeld:=hHeld.nx kk
    clear kk
    refine hK.out _ _ (hHeld) (fun hHeld=>?_)
    clear hK K
    refine rLL 10 (by kernel_rfl) rfl (by rfl) fun K hK=>?_
    rw [if_pos (by rfl)]
    have rx:=OK.out.nx hHeld
    simp only [Hdr.val] at rx
    have zbase:=Nat.le_trans zo hHeld.size
    refine wp_append_rda (enc:=encI) _ (.tmp 46) (.tmp 49) 22 rfl w.heap.size 3 (.int .i64 0) 1 8 Tryz.underlying22 Tryz.infoI6 rfl (by omega) (by omega) _ y.known rx rfl _ _ 1 1 [m.2] SX (fun h=>by cases h) (fun _=>rfl) (by simp [encI,Value.oneCell']) rfl (by omega) (by omega) zbase ?_
    intro va wa A ch0 ch1 hva
    obtain ⟨A9,C9,e9,_,_,_,_⟩:=A.rd (fun _=>rfl)
    generalize (y.known++[m.2]).length=L9 at e9
    subst e9
    obtain ⟨s1,s2,O9⟩:=(OWN7.out.nx hHeld).growK (hk':=(A9,L9,C9)) (by decide) (by decide) (by decide) HQS.out HYK.out A ch0 (show ∀ g,(Value.slice A9 L9 C9).ownBlock=some g→(Hdr.val (A1,m1,c1)).ownBlock=some g∨_ from own_hist hva (Nat.le_refl _))
    simp only [Hdr.val] at s1 O9
    replace O9:=lH O9
    refine hK.out _ _ ?_
    clear hK K
    refine rLL 11 (by kernel_rfl) rfl (by rfl) fun K hK=>?_
    go_simp
    refine hK.out _ _ ?_
    clear hK K
    refine rLL 12 (by kernel_rfl) rfl (by rfl) fun K hK=>?_
    go_simp
    refine hK.out _ _ ?_
    clear hK K
    refine rLL 13 (by kernel_rfl) rfl (by rfl) fun K hK=>?_
    go_simp
    refine hK.out _ _ ?_
    clear hK K
    refine wpAnyL_done (by kernel_rfl) ?_ _
    have RR:=lH (show FcRel N P M n3 nP (.slice (some ⟨g,0,none⟩) nP cP) w (.int .i64 ((j:Int)+1)) (wa.setCell ⟨g,k*5+1,none⟩ (.slice A9 L9 C9)) from ⟨j+1,_,addM N Q m,by omega,by go_num,HE7.out,HL7.out,HI7.out,HF7.out,by rw [EA.out];exact O9.out,(show Ex w wa from Chg.trans (KW7.out.nx hHeld) (ch1.mono (fun x hx=>hx))).setNew (p:=⟨g,k*5+1,none⟩) _ zgg⟩)
    clear ch0 ch1 hva rx hHeld SX s1 s2 A
    go_wp2_with fail
    exact ⟨RR.out,by simp [intOf];omega⟩
  ·obtain rfl:j=n3:=by omega
   have hjj:M.take j=M:=List.take_of_length_le (by have:=HM.out;omega)
   have HE:Hid (conF N ⟨P,M⟩=connB N Q):=lH (by rw [ET.out,HQ.out,hjj])
   have PLx:PL wi aP nP Q:=by
    obtain ⟨a',c',e',r',_⟩:=OWN.out.pl
    rw [HQL.out] at e' r'
    cases e'
    exact r'
   have PLH:=lH PLx
   have HF9:Hid (∀ p∈Q,p.known.length≤4000000000000000000∧p.near.length≤4000000000000000000):=lH (fun p hp=>by have:=HQF.out p hp;omega)
   clear PLx hj hjm hjj
   go_wp2_with fail
   (with_reducible refine (connected_p _ _ _ N _ _ _ Q _ (HS0.out.nx KW.out) hn hc hm PLH.out (by omega) HF9.out).mono ?_)
   rintro e w9 ⟨rfl,kk⟩
   have KE:=lH (KW.out.nx kk)
   clear kk
   go_wp2_with fail
   go_ret
   exact ⟨by rw [HE.out];rfl,KE.out⟩
section
variable {N:List Nd} {f g:Fl}
def addP (N:List Nd) (p:Pr) (m:Int×Int):Pr:=if (findN N m.2).2=true∧p.id=m.1 then { p with known:=p.known++[m.2] } else p
theorem addP_id (p:Pr) (m:Int×Int):(addP N p m).id=p.id:=by unfold addP;split<;>rfl
theorem addP_fold_id:∀ (M:List (Int×Int)) (p:Pr),(M.foldl (addP N) p).id=p.id
 | [],_=>rfl
 | m::M,p=>by rw [List.foldl_cons,addP_fold_id M,addP_id]
theorem addM_map (S:List Nd) (F:Nd→Pr) (m:Int×Int):addM N (S.map F) m=S.map fun x=>addP N (F x) m:=by
 unfold addM
 by_cases h:(findN N m.2).2=true
 ·rw [if_pos h,List.map_map]
  refine List.map_congr_left fun x _=>?_
  unfold addP
  simp only [Function.comp,h,true_and]
 ·rw [if_neg h]
  refine List.map_congr_left fun x _=>?_
  unfold addP
  rw [if_neg (fun hh=>h hh.1)]
theorem addM_fold (S:List Nd):∀ (M:List (Int×Int)) (F:Nd→Pr),M.foldl (addM N) (S.map F)=S.map fun x=>M.foldl (addP N) (F x)
 | [],_=>rfl
 | m::M,F=>by rw [List.foldl_cons,addM_map,addM_fold S M];rfl
theorem addP_more:∀ (M:List (Int×Int)) (p:Pr),(M.foldl (addP N) p).left=p.left∧(M.foldl (addP N) p).right=p.right∧(M.foldl (addP N) p).near=p.near∧∀ v∈p.known,v∈(M.foldl (addP N) p).known
 | [],p=>⟨rfl,rfl,rfl,fun _ h=>h⟩
 | m::M,p=>by
  obtain ⟨h1,h2,h3,h4⟩:=addP_more M (addP N p m)
  rw [List.foldl_cons,h1,h2,h3]
  have e:(addP N p m).left=p.left∧(addP N p m).right=p.right∧(addP N p m).near=p.near∧∀ v∈p.known,v∈(addP N p m).known:=by
   unfold addP
   split
   ·exact ⟨rfl,rfl,rfl,fun v hv=>List.mem_append_left _ hv⟩
   ·exact ⟨rfl,rfl,rfl,fun v hv=>hv⟩
  exact ⟨e.1,e.2.1,e.2.2.1,fun v hv=>h4 v (e.2.2.2 v hv)⟩
theorem addP_told:∀ (M:List (Int×Int)) (p:Pr) (v:Int),(p.id,v)∈M→(findN N v).2=true→v∈(M.foldl (addP N) p).known
 | [],_,_,h,_=>by cases h
 | m::M,p,v,h,hv=>by
  rw [List.foldl_cons]
  rcases List.mem_cons.1 h with h | h
  ·refine (addP_more M _).2.2.2 v ?_
   unfold addP
   rw [if_pos ⟨by rw [← h];exact hv,by rw [← h]⟩,← h]
   exact List.mem_append_right _ (by simp)
  ·exact addP_told M (addP N p m) v (by rw [addP_id];exact h) hv
theorem conn_true (h:ConnF N f):conF N f=true:=by
 have h0:=h.1
 unfold conF
 rw [if_pos h0,connB_iff]
 have hQ:f.msgs.foldl (addM N) (normalN N f.peers)=(sortN N).map fun x=>f.msgs.foldl (addP N) (peerN f.peers x.id):=by
  unfold normalN
  rw [if_pos h0]
  exact addM_fold (sortN N) f.msgs fun x=>peerN f.peers x.id
 rw [hQ]
 have hp:∀ x∈N,peerN ((sortN N).map fun x=>f.msgs.foldl (addP N) (peerN f.peers x.id)) x.id=f.msgs.foldl (addP N) (peerN f.peers x.id):=fun x hx =>
  peer_map (sort_ids h0) (f:=fun x=>f.msgs.foldl (addP N) (peerN f.peers x.id)) (fun y=>by show (f.msgs.foldl (addP N) (peerN f.peers y.id)).id=y.id;rw [addP_fold_id,peer_id]) ((sortN_mem N x).2 hx)
 refine ⟨h0,fun x hx y hy=>(h.2 x hx y hy).mono fun a c e=>?_⟩
 rcases e with ⟨⟨z,hz,rfl⟩,hv⟩ | ⟨hm,⟨z,hz,rfl⟩,hc⟩
 ·refine Cl.one (.inl ⟨⟨z,hz,rfl⟩,?_⟩)
  rw [hp z hz]
  obtain ⟨r1,r2,r3⟩:=(mem_refs h0).1 hv
  obtain ⟨q1,q2,q3,q4⟩:=addP_more (N:=N) f.msgs (peerN f.peers z.id)
  refine (mem_refs h0).2 ⟨r1,by rw [addP_fold_id];exact r2,?_⟩
  unfold numsP at r3 ⊢
  rw [q1,q2,q3]
  simp only [List.mem_append] at r3 ⊢
  rcases r3 with (r | r) | r
  ·exact .inl (.inl (q4 _ r))
  ·exact .inl (.inr r)
  ·exact .inr r
 ·by_cases he:c=z.id
  ·rw [he];exact .refl _
  ·refine Cl.one (.inl ⟨⟨z,hz,rfl⟩,?_⟩)
   rw [hp z hz]
   refine (mem_refs h0).2 ⟨hc,by rw [addP_fold_id,peer_id];exact he,?_⟩
   unfold numsP
   exact List.mem_append_left _ (List.mem_append_left _ (addP_told f.msgs _ c (by rw [peer_id];exact hm) ((find_node h0).2 hc)))
theorem cop_msgs_len (N:List Nd) (f:Fl):(copF N f).msgs.length≤f.msgs.length:=by
 unfold copF
 split
 ·exact Nat.le_refl _
 ·exact Nat.zero_le _
theorem del_msgs_len (N:List Nd) (f:Fl) (k:Int):(delF N f k).msgs.length≤f.msgs.length:=by
 have hc:=cop_msgs_len N f
 unfold delF
 split
 ·split
  ·exact hc
  ·show ((copF N f).msgs.eraseIdx _).length≤_
   have:=(List.eraseIdx_sublist (copF N f).msgs k.toNat).length_le
   omega
 ·exact hc
structure Flies (N:List Nd) (B:Nat) (f:Fl):Prop where
 conn:ConnF N f
 sm:SmF f
 len:f.peers.length=N.length
 msgs:f.msgs.length≤B
theorem Flies.sp {B:Nat} (h:Flies N B f):SmallP f.peers:=by have:=h.sm;unfold SmF at this;exact this.1
end
set_option maxRecDepth 100000 in
set_option maxHeartbeats 4000000 in
theorem new19_r (a:Option Addr) (n c:Nat) (N:List Nd) (a2:Option Addr) (n2 c2:Nat) (P:List Pr) (w:World) (h:Sl 3 encN w a n N) (hn:n≤1000) (h2:PL w a2 n2 P) (hn2:n2≤1000000) (hP:SmallP P) :
  Calls Tryz.prog 32 #[.slice a n c,.slice a2 n2 c2] w (FlPost ⟨normalN N P,[]⟩ w):=by
 have SM:=lH hP
 have B4:=Blk.new w [.slice none 0 0,.slice none 0 0] 27
 have kk:=Ex.new w (.cells #[.slice none 0 0,.slice none 0 0] 27)
 obtain ⟨w1,hw1⟩:∃ w1,w1=w.alloc (.cells #[.slice none 0 0,.slice none 0 0] 27):=⟨_,rfl⟩
 obtain ⟨g4,hg4⟩:∃ g4,g4=w.heap.size:=⟨_,rfl⟩
 replace B4:Blk w1 g4 [.slice none 0 0,.slice none 0 0] 27:=by rw [hw1,hg4];exact B4
 rw [← hw1] at kk
 have Hw1:=lH hw1
 have Hg4:=lH hg4
 replace h:=h.nx kk
 replace h2:=h2.nx kk
 have zg4:w.heap.size≤g4:=by omega
 have hb4:=B4.lt
 have K1:=lH kk
 clear kk hw1 hg4 hP
 go_enter Tryz.func32,Tryz.ntmps32
 go_upto_region 1 with fail
 rw [← Hg4.out,← Hw1.out]
 clear Hg4 Hw1
 go_wp2_with fail
 (with_reducible refine (normal_r _ _ _ N _ _ _ P _ h hn h2 hn2 SM.out).mono ?_)
 rintro e w2 ⟨vP,qs,rfl,oP,kk⟩
 replace B4:=B4.nx kk
 obtain ⟨aP,cP,rfl,_,_,_,_,_⟩:=oP.pl
 have r0:=B4.cell 0 _ rfl
 have r1:=B4.cell 1 _ rfl
 have f0:=B4.free 0
 have f1:=B4.free 1
 have K2:=lH (K1.out.nx kk)
 have OP:=lH oP
 have B4H:=lH B4
 clear kk h h2 oP B4
 go_wp2_with fail
 obtain ⟨wz,hwz⟩:∃ wz,wz=(w2.setCell ⟨g4,0,none⟩ (.slice aP (normalN N P).length cP)).setCell ⟨g4,1,none⟩ (.slice none 0 0):=⟨_,rfl⟩
 have BZ:Blk wz g4 [.slice aP (normalN N P).length cP,.slice none 0 0] 27:=by rw [hwz];exact (B4H.out.set 0 _).set 1 _
 have KB:Exb g4 w2 wz:=by rw [hwz];exact ((Exb.refl g4 _).setB (p:=⟨g4,0,none⟩) _ rfl).setB (p:=⟨g4,1,none⟩) _ rfl
 have KE:Ex w wz:=by rw [hwz];exact (K2.out.setNew (p:=⟨g4,0,none⟩) _ zg4).setNew (p:=⟨g4,1,none⟩) _ zg4
 have FO:=lH (show FlOwn w.heap.size wz (.slice aP (normalN N P).length cP) (.slice none 0 0) qs ⟨normalN N P,[]⟩ from ⟨(OP.out.nxb hb4 KB).lower K1.out.size,OwnL.nil _ _ _ _ _⟩)
 rw [← hwz]
 have q0:=BZ.cell 0 _ rfl
 have q1:=BZ.cell 1 _ rfl
 clear r0 r1 f0 f1 hwz
 refine bodyPost_ret (v:=.agg #[.slice aP (normalN N P).length cP,.slice none 0 0]) (by simp [results,Tryz.results32,go_sem, *]) rfl ⟨_,_,qs,rfl,FO.out,KE⟩
def MdRel (b g6 g7:Nat) (P:List Pr) (vP:Value) (qs:List PQ) (w:World) (i:Value) (wr:World):Prop :=
 ∃ (q:Nat) (M:List (Int×Int)) (aM:Option Addr) (cM:Nat),M.length+q≤4∧i=.int .i64 q∧Blk wr g7 [vP,.slice aM M.length cM] 27∧FlOwn w.heap.size wr vP (.slice aM M.length cM) qs ⟨P,M⟩ ∧
  Blk wr g6 [.slice none 0 0,.slice none 0 0] 27∧TK wr b∧Exb b w wr
def MdPost (b:Nat) (P:List Pr) (w:World) (e:Ending) (w':World):Prop:=∃ (v m:Value) (qs:List PQ) (M:List (Int×Int)),e=.returned (.agg #[v,m])∧FlOwn w.heap.size w' v m qs ⟨P,M⟩∧M.length≤4∧TK w' b∧Exb b w w'
theorem FlOwn.msl {base:Nat} {w:World} {v m:Value} {qs:List PQ} {F:Fl} (h:FlOwn base w v m qs F):∃ aP cP aM cM,v=.slice aP F.peers.length cP∧m=.slice aM F.msgs.length cM:=by
 obtain ⟨aP,cP,aM,cM,e1,e2,_⟩:=h.two
 exact ⟨aP,cP,aM,cM,e1,e2⟩
set_option maxRecDepth 100000 in
set_option maxHeartbeats 8000000 in
theorem made_x {b:Nat} (a:Option Addr) (n c:Nat) (N:List Nd) (a2:Option Addr) (n2 c2:Nat) (P:List Pr) (w:World) (h:TK w b) (hs:Slb 3 encN b w a n N) (hn:n≤1000) (hi:∀ x∈N,I64 x.id) (h2:PLb b w a2 n2 P) (hn2:n2≤1000000) (hP:SmallP P) :
  Calls Tryz.prog 9 #[.pointer (some ⟨b,0,none⟩),.slice a n c,.slice a2 n2 c2] w (MdPost b (normalN N P) w):=by
 have hbw:=h.lt
 have HI:=lH hi
 have SM:=lH hP
 have HS:=lH (fun wq (kq:Exb b w wq)=>hs.nxb kq)
 clear hi hP
 have B6:=Blk.new w [.slice none 0 0,.slice none 0 0] 27
 have kk:=Ex.new w (.cells #[.slice none 0 0,.slice none 0 0] 27)
 obtain ⟨w1,hw1⟩:∃ w1,w1=w.alloc (.cells #[.slice none 0 0,.slice none 0 0] 27):=⟨_,rfl⟩
 obtain ⟨g6,hg6⟩:∃ g6,g6=w.heap.size:=⟨_,rfl⟩
 replace B6:Blk w1 g6 [.slice none 0 0,.slice none 0 0] 27:=by rw [hw1,hg6];exact B6
 rw [← hw1] at kk
 have Hw1:=lH hw1
 have Hg6:=lH hg6
 replace h:=h.nx kk
 replace hs:=hs.nxb (kk.b b)
 replace h2:=h2.nxb (kk.b b)
 have zg6:w.heap.size≤g6:=by omega
 have K1:=lH kk
 clear kk hw1 hg6
 go_enter Tryz.func9,Tryz.ntmps9
 go_upto_region 1 with fail
 rw [← Hg6.out,← Hw1.out]
 clear Hg6 Hw1
 go_wp2_with fail
 (with_reducible refine (new19_r _ _ _ N _ _ _ P _ hs.sl hn h2.pl hn2 SM.out).mono ?_)
 rintro e w2 ⟨vP,vM,qs,rfl,FO,kk⟩
 replace h:=h.nx kk
 replace hs:=hs.nxb (kk.b b)
 replace B6:=B6.nx kk
 have K2:=lH (K1.out.nx kk)
 have hz1:=K1.out.size
 obtain ⟨aP,cP,aM,cM,rfl,rfl⟩:=FO.msl
 clear kk h2
 generalize hvP:Value.slice aP (⟨(normalN N P),[]⟩:Fl).peers.length cP=vP at FO ⊢
 replace hvP:Value.slice aP (normalN N P).length cP=vP:=hvP
 replace FO:FlOwn w1.heap.size w2 vP (.slice aM 0 cM) qs ⟨(normalN N P),[]⟩:=FO
 have hl6:=B6.lt
 have B7:=Blk.new w2 [vP,.slice aM 0 cM] 27
 have kk:=Ex.new w2 (.cells #[vP,.slice aM 0 cM] 27)
 obtain ⟨w3,hw3⟩:∃ w3,w3=w2.alloc (.cells #[vP,.slice aM 0 cM] 27):=⟨_,rfl⟩
 obtain ⟨g7,hg7⟩:∃ g7,g7=w2.heap.size:=⟨_,rfl⟩
 replace B7:Blk w3 g7 [vP,.slice aM 0 cM] 27:=by rw [hw3,hg7];exact B7
 rw [← hw3] at kk
 have Hw3:=lH hw3
 have Hg7:=lH hg7
 replace h:=h.nx kk
 replace hs:=hs.nxb (kk.b b)
 replace B6:=B6.nx kk
 replace FO:=FO.nx kk
 have K3:=lH (K2.out.nx kk)
 have zg7:w.heap.size≤g7:=by have:=K2.out.size;omega
 have h67:¬ g6=g7:=by omega
 have hb7:¬ g7=b:=by omega
 have hb6:¬ g6=b:=by omega
 clear kk hw3 hg7
 subst hvP
 go_upto_region 2 with fail
 rw [← Hg7.out,← Hw3.out]
 clear Hg7 Hw3
 have FO:=FO.lower (base':=w.heap.size) hz1
 go_wp2_with fail
 refine (next_t 5 _ h (by omega) (by omega)).mono ?_
 clear h
 rintro e w4 ⟨q,rfl,q0,q1,T,kk⟩
 obtain ⟨q,rfl⟩:=Int.eq_ofNat_of_zero_le q0
 have R0:=lH (show MdRel b g6 g7 (normalN N P) (.slice aP (normalN N P).length cP) qs w (.int .i64 (q:Int)) w4 from ⟨q,[],aM,cM,by simp;omega,rfl,B7.nxb hb7 kk,FO.nxb hbw kk,B6.nxb hb6 kk,T,(K3.out.b b).nxb kk⟩)
 clear kk T B6 B7 FO hs q0 q1
 go_wp2_with fail
 go_loopw [8] (fun i wr=>MdRel b g6 g7 (normalN N P) (.slice aP (normalN N P).length cP) qs w i wr) (fun i _=>(intOf i).toNat)
 case atStart=>exact R0.out
 case round =>
  clear R0
  obtain ⟨q,M,aQ,cQ,hq,rfl,B7,FO,B6,T,kw⟩:=hrel
  obtain ⟨wi,rfl⟩:∃ wi:World,wi=wr:=⟨_,rfl⟩
  have KW:=lH kw
  have FOH:=lH FO
  have TH:=lH T
  have B7H:=lH B7
  have B6H:=lH B6
  have hl6:=B6.lt
  have hl7:=B7.lt
  have zwi:=kw.size
  clear kw FO T B6 B7
  by_cases hq0:0<q
  ·have hML:M.length≤4:=by omega
   go_upto_region 5 with fail
   refine wp_region_late_drew (S:=Exb b wi) [10,12] (by kernel_rfl) ((Exb.refl b wi).drew) (fun hHeld=>?_)
   obtain ⟨wd,hwdx⟩:∃ wd:World,wd=World.drew wi:=⟨_,rfl⟩
   rw [← hwdx] at hHeld ⊢
   have hDrew:Ex wi wd:=by rw [hwdx];exact (Ex.refl wi).drew
   clear hwdx
   refine tkL 0 (v:=?_) rfl (by kernel_rfl) (fun _ _ _ h=>h) (by rfl) ?y5 hHeld ?_
   case y5=>intro wq hSw;go_simp<;>rfl
   refine tkL 1 (v:=?_) rfl (by kernel_rfl) (fun _ _ _ h=>h) (by rfl) ?y8 hHeld ?_
   case y8=>intro wq hSw;(have cq:=(B7H.out.nxb hb7 hSw).cell 1 _ rfl;go_simp)<;>rfl
   refine tkL 2 (v:=?_) rfl (by kernel_rfl) (fun _ _ _ h=>h) (by rfl) ?y11 hHeld ?_
   case y11=>intro wq hSw;go_simp<;>rfl
   refine tkL 3 (v:=?_) rfl (by kernel_rfl) (fun _ _ _ h=>h) (by rfl) ?y14 hHeld ?_
   case y14=>intro wq hSw;go_simp<;>rfl
   refine tkL 5 (v:=?_) rfl (by kernel_rfl) (fun _ _ _ h=>h) (by rfl) ?y17 hHeld ?_
   case y17=>intro wq hSw;go_simp<;>rfl
   refine tkL 6 (v:=?_) rfl (by kernel_rfl) (fun _ _ _ h=>h) (by rfl) ?y20 hHeld ?_
   case y20=>intro wq hSw;go_simp<;>rfl
   refine rL 4 (by kernel_rfl) rfl fun K hK=>?_
   go_simp
   refine (id_t _ _ _ N _ (TH.out.nx hDrew) (HS.out _ (KW.out.nxb hHeld)) hn HI.out).mono ?_
   rintro e wa ⟨r1,rfl,hr1,T,kk⟩
   replace hHeld:=hHeld.nxb kk
   clear kk
   refine hK.out _ _ (hHeld) (fun hHeld=>?_)
   clear hK K
   refine rL 7 (by kernel_rfl) rfl fun K hK=>?_
   go_simp
   refine (id_t _ _ _ N _ T (HS.out _ (KW.out.nxb hHeld)) hn HI.out).mono ?_
   clear T
   rintro e wc ⟨r2,rfl,hr2,T,kk⟩
   replace hHeld:=hHeld.nxb kk
   clear kk
   refine hK.out _ _ (hHeld) (fun hHeld=>?_)
   clear hK K
   refine tkL 8 (v:=?_) rfl (by kernel_rfl) (fun _ _ _ h=>h) (by rfl) ?y44 hHeld ?_
   case y44=>intro wq hSw;go_simp<;>rfl
   refine rL 9 (by kernel_rfl) rfl fun K hK=>?_
   go_simp
   obtain ⟨gx,wq,hgx,hwq,SX,kk⟩:=litIo (wp:=wi) (u:=wc) hHeld.size (r1,r2)
   rw [← hgx,← hwq]
   clear hgx hwq
   replace T:=T.nx kk
   replace hHeld:=hHeld.nxb (kk.b b)
   clear kk
   refine hK.out _ _ (hHeld) (fun hHeld=>?_)
   clear hK K
   refine rLL 10 (by kernel_rfl) rfl (by rfl) fun K hK=>?_
   rw [if_pos (by rfl)]
   have rx:=FOH.out.2.nxb hbw hHeld
   have zbase:w.heap.size≤wq.heap.size:=by have:=hHeld.size;omega
   refine wp_append_rda (enc:=encS) _ (.tmp 19) (.tmp 27) 25 rfl w.heap.size 67 (.agg #[.int .i64 0,.int .i64 0]) 2 16 Tryz.underlying25 Tryz.infoIo rfl (by omega) (by omega) _ M rx rfl _ _ 1 1 [(r1,r2)] SX (fun h=>by cases h) (fun _=>rfl) (by simp [encS,Value.oneCell']) rfl (by omega) (by omega) zbase ?_
   intro va wa A ch0 ch1 hva
   obtain ⟨MM,hMM⟩:∃ MM,MM=M++[(r1,r2)]:=⟨_,rfl⟩
   rw [← hMM] at A
   have HMM:Hid (MM.length=M.length+1):=lH (by rw [hMM];simp)
   clear hMM
   obtain ⟨A9,C9,rfl,_,_,_,_⟩:=A.rd (fun _=>rfl)
   have BQ:=lH ((B7H.out.nxb hb7 hHeld).app rx (by decide) ch0)
   have BQ6:=lH ((B6H.out.nxb hb6 hHeld).app rx (by decide) ch0)
   have FPQ:=lH ((FOH.out.1.nxb hbw hHeld).oth rx (by decide) (by decide) (by decide) ch0)
   have T9:=lH (TP.chg T ch1 (fun x hx=>by omega))
   have KA:=lH (show Exb b w wa from Chg.trans (KW.out.nxb hHeld) (ch1.mono (fun x hx=>hx.1)))
   have AH:=lH A
   clear ch0 ch1 hva rx zbase SX A T
   refine hK.out _ _ ?_
   clear hK K
   refine wpAnyL_takeP (i:=11) (oi:=⟨_,_,_,_,_,_⟩) (v:=?_) rfl (by kernel_rfl) (by kernel_rfl) (by kernel_rfl) (fun _ _ _ h=>h) (Or.inl ⟨by rfl,?y81⟩) ?_
   case y81=>intro wq hSw;go_simp<;>rfl
   refine rLL 12 (by kernel_rfl) rfl (by rfl) fun K hK=>?_
   have cq:=BQ.out.cell 1 _ rfl
   have fq:=BQ.out.free 1
   go_simp
   clear cq fq
   refine hK.out _ _ ?_
   clear hK K
   refine wpAnyL_done (by kernel_rfl) ?_ _
   obtain ⟨wy,hwy⟩:∃ wy,wy=wa.setCell ⟨g7,1,none⟩ (.slice A9 MM.length C9):=⟨_,rfl⟩
   rw [← hwy]
   have kb:Exb g7 wa wy:=by rw [hwy];exact (Exb.refl g7 _).setB (p:=⟨g7,1,none⟩) _ rfl
   have B7:Blk wy g7 [.slice aP (normalN N P).length cP,.slice A9 MM.length C9] 27:=by rw [hwy];exact BQ.out.set 1 _
   have B6:=BQ6.out.nxb h67 kb
   have FPy:=FPQ.out.putB BQ.out (by decide) (by decide) (by decide) kb
   have FMy:=AH.out.put BQ.out (by decide) kb
   have RR:=lH (show MdRel b g6 g7 (normalN N P) (.slice aP (normalN N P).length cP) qs w (.int .i64 ((q:Int)-1)) wy from ⟨q-1,MM,A9,C9,by have:=HMM.out;omega,by rw [show ((q-1:Nat):Int)=(q:Int)-1 by omega],B7,⟨FPy,FMy⟩,B6,by rw [hwy];exact TK.set T9.out _ (by show b<g7;omega),by rw [hwy];exact KA.out.setNew (p:=⟨g7,1,none⟩) _ zg7⟩)
   clear hwy kb BQ BQ6 B6 B7 FPQ FPy FMy hHeld hDrew AH KA T9
   go_wp2_with fail
   exact ⟨RR.out,by simp [intOf];omega⟩
  ·obtain rfl:q=0:=by omega
   have r0:=B7H.out.cell 0 _ rfl
   have r1:=B7H.out.cell 1 _ rfl
   have p0:=B6H.out.cell 0 _ rfl
   have p1:=B6H.out.cell 1 _ rfl
   have f0:=B6H.out.free 0
   have f1:=B6H.out.free 1
   go_wp2_with fail
   obtain ⟨wz,hwz⟩:∃ wz,wz=(wi.setCell ⟨g6,0,none⟩ (.slice aP (normalN N P).length cP)).setCell ⟨g6,1,none⟩ (.slice aQ M.length cQ):=⟨_,rfl⟩
   have BZ:Blk wz g6 [.slice aP (normalN N P).length cP,.slice aQ M.length cQ] 27:=by rw [hwz];exact (B6H.out.set 0 _).set 1 _
   have KB:Exb g6 wi wz:=by rw [hwz];exact ((Exb.refl g6 _).setB (p:=⟨g6,0,none⟩) _ rfl).setB (p:=⟨g6,1,none⟩) _ rfl
   have KE:Exb b w wz:=by rw [hwz];exact (KW.out.setNew (p:=⟨g6,0,none⟩) _ zg6).setNew (p:=⟨g6,1,none⟩) _ zg6
   have TE:TK wz b:=by rw [hwz];exact (TH.out.set (p:=⟨g6,0,none⟩) _ (by show b<g6;omega)).set (p:=⟨g6,1,none⟩) _ (by show b<g6;omega)
   have FF:=lH (FOH.out.putB B6H.out (by decide) (by decide) (by decide) (by decide) KB)
   rw [← hwz]
   have s0:=BZ.cell 0 _ rfl
   have s1:=BZ.cell 1 _ rfl
   clear r0 r1 f0 f1 p0 p1 hwz
   refine bodyPost_ret (v:=.agg #[.slice aP (normalN N P).length cP,.slice aQ M.length cQ]) (by simp [results,Tryz.results9,go_sem, *]) rfl ⟨_,_,qs,M,rfl,FF.out,by omega,TE,KE⟩
section
variable {N:List Nd} {f:Fl}
theorem addP_back:∀ (M:List (Int×Int)) (p:Pr) (v:Int),v∈(M.foldl (addP N) p).known→v∈p.known∨(p.id,v)∈M
 | [],_,_,h=>.inl h
 | m::M,p,v,h=>by
  rw [List.foldl_cons] at h
  rcases addP_back M (addP N p m) v h with h | h
  ·unfold addP at h
   split at h
   ·rename_i hc
    rcases List.mem_append.1 h with h | h
    ·exact .inl h
    ·refine .inr (List.mem_cons.2 (.inl ?_))
     rw [List.mem_singleton.1 h,hc.2]
   ·exact .inl h
  ·rw [addP_id] at h
   exact .inr (List.mem_cons_of_mem _ h)
theorem conn_back (h:conF N f=true):ConnF N f:=by
 unfold conF at h
 split at h
 case isFalse=>cases h
 rename_i h0
 rw [connB_iff] at h
 have hQ:f.msgs.foldl (addM N) (normalN N f.peers)=(sortN N).map fun x=>f.msgs.foldl (addP N) (peerN f.peers x.id):=by
  unfold normalN
  rw [if_pos h0]
  exact addM_fold (sortN N) f.msgs fun x=>peerN f.peers x.id
 rw [hQ] at h
 have hp:∀ x∈N,peerN ((sortN N).map fun x=>f.msgs.foldl (addP N) (peerN f.peers x.id)) x.id=f.msgs.foldl (addP N) (peerN f.peers x.id):=fun x hx =>
  peer_map (sort_ids h0) (f:=fun x=>f.msgs.foldl (addP N) (peerN f.peers x.id)) (fun y=>by show (f.msgs.foldl (addP N) (peerN f.peers y.id)).id=y.id;rw [addP_fold_id,peer_id]) ((sortN_mem N x).2 hx)
 refine ⟨h0,fun x hx y hy=>(h.2 x hx y hy).mono fun a c e=>Cl.one (.inl ?_)⟩
 obtain ⟨⟨z,hz,rfl⟩,hv⟩:=e
 rw [hp z hz] at hv
 obtain ⟨r1,r2,r3⟩:=(mem_refs h0).1 hv
 obtain ⟨q1,q2,q3,_⟩:=addP_more (N:=N) f.msgs (peerN f.peers z.id)
 rw [addP_fold_id] at r2
 have key:c∈numsP (peerN f.peers z.id)∨(z.id,c)∈f.msgs:=by
  unfold numsP at r3 ⊢
  rw [q1,q2,q3] at r3
  simp only [List.mem_append] at r3 ⊢
  rcases r3 with (r | r) | r
  ·rcases addP_back f.msgs _ c r with r | r
   ·exact .inl (.inl (.inl r))
   ·rw [peer_id] at r;exact .inr r
  ·exact .inl (.inl (.inr r))
  ·exact .inl (.inr r)
 rcases key with k | k
 ·exact .inl ⟨⟨z,hz,rfl⟩,(mem_refs h0).2 ⟨r1,r2,k⟩⟩
 ·exact .inr ⟨k,⟨z,hz,rfl⟩,r1⟩
theorem conF_iff:conF N f=true↔ConnF N f:=⟨conn_back,conn_true⟩
theorem conF_ref (h0:checkN N=0):conF N f=decide (Lab.partsL (N.map Nd.id) (pairsN N f.peers++f.msgs)≤1):=by
 rw [Bool.eq_iff_iff,conF_iff,decide_eq_true_eq,connF_iff h0]
theorem conF_no (h0:¬ checkN N=0):conF N f=false:=by unfold conF;rw [if_neg h0]
end
theorem litQ (u:World) (y:Pr) (hk hn:Hdr):∃ g v,g=u.heap.size∧v=u.alloc (.cells #[.int .i64 y.id,hk.val,.int .i64 y.left,.int .i64 y.right,hn.val] 36)∧Sl 5 encQ v (some ⟨g,0,none⟩) 1 [(y.nums,hk,hn)]∧Ex u v :=
 ⟨_,_,rfl,rfl,Sl.lit [(y.nums,hk,hn)] rfl rfl encQ_len rfl,Ex.new _ _⟩
set_option maxRecDepth 100000 in
set_option maxHeartbeats 8000000 in
theorem dbl_r19 (a2:Option Addr) (n2 c2:Nat) (P:List Pr) (a3:Option Addr) (n3 c3:Nat) (M:List (Int×Int)) (i:Int) (w:World) (h2:PL w a2 n2 P) (hn2:n2≤1000) (hP:SmallP P)
  (h3:Sl 2 encS w a3 n3 M) (hn3:n3≤1000000) :
  Calls Tryz.prog 41 #[.agg #[.slice a2 n2 c2,.slice a3 n3 c3],.int .i64 i] w (FlPost (dblF ⟨P,M⟩ i 4096) w):=by
 have HL:=lH h2.len
 have HM:=lH (h3.len:M.length=n3)
 have HP:=lH hP
 have HS:=lH h2
 have H3:=lH h3
 have DY:=lH (fun (k:Nat) (m:Int×Int) (hm:M[k]?=some m) hl=>dbl_yes (f:=⟨P,M⟩) (most:=4096) hm hl)
 have DN:=lH (fun (k:Int) hx=>dbl_no (f:=⟨P,M⟩) (k:=k) (most:=4096) hx)
 simp only at DY DN
 obtain ⟨g2,hg2⟩:∃ g2,g2=w.heap.size:=⟨_,rfl⟩
 obtain ⟨g4,hg4⟩:∃ g4,g4=(w.heap.size+1):=⟨_,rfl⟩
 obtain ⟨w1,hw1⟩:∃ w1,w1=((w.alloc (.cells #[.slice a2 n2 c2,.slice a3 n3 c3] 27)).alloc (.cells #[.slice none 0 0,.slice none 0 0] 27)):=⟨_,rfl⟩
 have kk:Ex w w1:=by rw [hw1];exact (((Ex.refl w).alloc (.cells #[.slice a2 n2 c2,.slice a3 n3 c3] 27)).alloc (.cells #[.slice none 0 0,.slice none 0 0] 27))
 have B2:Blk w1 g2 [.slice a2 n2 c2,.slice a3 n3 c3] 27:=by rw [hw1];simp only [hg2,hg4];have hbk:=((Blk.new w [.slice a2 n2 c2,.slice a3 n3 c3] 27).nx (Ex.new _ (.cells #[.slice none 0 0,.slice none 0 0] 27)));simpa using hbk
 have B4:Blk w1 g4 [.slice none 0 0,.slice none 0 0] 27:=by rw [hw1];simp only [hg2,hg4];have hbk:=(Blk.new (w.alloc (.cells #[.slice a2 n2 c2,.slice a3 n3 c3] 27)) [.slice none 0 0,.slice none 0 0] 27);simpa using hbk
 have Hw1:=lH hw1
 have Hg2:=lH hg2
 have Hg4:=lH hg4
 replace h3:=h3.nx kk
 have zg4:w.heap.size≤g4:=by omega
 have hb4:=B4.lt
 have K1:=lH kk
 clear kk hw1 hg2 hg4 hP h2
 go_enter Tryz.func41,Tryz.ntmps41
 go_upto_region 1 with fail
 rw [← Hw1.out,← Hg4.out,← Hg2.out]
 clear Hw1 Hg4 Hg2
 have q1:=B2.cell 1 _ rfl
 have own0:OwnL 2 encS 67 w1.heap.size w1 (.slice none 0 0) []:=OwnL.nil _ _ _ _ _
 go_upto_region 2 with (at_builtin;(refine wpList_append_rqW (enc:=encS) _ rfl _ _ 25 rfl w1.heap.size 67 (.agg #[.int .i64 0,.int .i64 0]) 2 16 Tryz.underlying25 Tryz.infoIo rfl (by omega) (by omega) _ [] own0 rfl a3 n3 c3 M h3 (fun _=>rfl) (by simp [encS,Value.oneCell']) rfl (by omega) (by simp;omega) (Nat.le_refl _) ?_);intro v1 w2 oM ch0 ch1;rw [List.nil_append] at oM;(obtain ⟨aM,cM,rfl,_⟩:=oM.rd (fun _=>rfl)))
 have kk:=Ex.of_nil ch0
 replace B2:=B2.nx kk
 replace B4:=B4.nx kk
 have K2:=lH (K1.out.nx kk)
 have hz12:=kk.size
 have hl2:=B2.lt
 have hl4:=B4.lt
 clear kk ch0 ch1 q1 h3 own0
 have B5:=Blk.new w2 [.slice none 0 0,.slice aM M.length cM] 27
 have kk:=Ex.new w2 (.cells #[.slice none 0 0,.slice aM M.length cM] 27)
 obtain ⟨w3,hw3⟩:∃ w3,w3=w2.alloc (.cells #[.slice none 0 0,.slice aM M.length cM] 27):=⟨_,rfl⟩
 obtain ⟨g5,hg5⟩:∃ g5,g5=w2.heap.size:=⟨_,rfl⟩
 replace B5:Blk w3 g5 [.slice none 0 0,.slice aM M.length cM] 27:=by rw [hw3,hg5];exact B5
 rw [← hw3] at kk
 have Hw3:=lH hw3
 have Hg5:=lH hg5
 replace B2:=B2.nx kk
 replace B4:=B4.nx kk
 replace oM:=oM.nx kk
 have h25:¬ g2=g5:=by omega
 have h45:¬ g4=g5:=by omega
 have K3:=lH (K2.out.nx kk)
 have hz23:=kk.size
 have hl5:=B5.lt
 have zg5:w.heap.size≤g5:=by have:=K2.out.size;omega
 clear kk hw3 hg5
 rw [← Hg5.out,← Hw3.out]
 clear Hg5 Hw3
 have q0:=B2.cell 0 _ rfl
 have B2H:=lH B2
 have B4H:=lH B4
 have OM:=lH oM
 have R0:=lH (show DbRel P g5 n2 (.slice aM M.length cM) w w3 (.int .i64 0) w3 from ⟨0,none,0,[],by omega,rfl,B5,OwnP.nil _ _ _ _ _,K3.out,Exb.refl g5 _⟩)
 have B5H:=lH B5
 clear B2 B4 oM B5
 clear q0
 go_wp2_with fail
 go_loopw [6] (fun i wr=>DbRel P g5 n2 (.slice aM M.length cM) w w3 i wr) (fun i _=>n2-(intOf i).toNat)
 case atStart=>exact R0.out
 case round =>
  clear R0
  obtain ⟨j,aP,cP,qs,hj,rfl,B5,own,kw,kb⟩:=hrel
  obtain ⟨wi,rfl⟩:∃ wi:World,wi=wr:=⟨_,rfl⟩
  by_cases hjm:j<n2
  ·obtain ⟨x3,o3,b1,m1,d1,b4,m4,d4,y,rfl,hx3,hy,e0,e1,e2,e3,e4,s1,s4⟩:=(HS.out.nx kw).rd hjm
   have SN:Hid (P.take (j+1)=P.take j++[y]):=lH (by rw [List.take_add_one,hy];rfl)
   have hyP:=HP.out y (List.mem_of_getElem? hy)
   have hl1:m1≤17592186044416:=by have:=s1.len;omega
   have hl4:m4≤4398046511104:=by have:=s4.len;omega
   have hqs:qs.length=j:=by rw [own.2.1,List.length_take];have:=HL.out;omega
   have S1:=lH s1
   have S4:=lH s4
   have KW:=lH kw
   have KBB:=lH kb
   have OWN:=lH own
   have B5I:=lH B5
   have hwi:=kb.size
   clear hy s1 s4 kw kb own B5 hyP
   have B2I:=B2H.out.nxb h25 KBB.out
   have p0:=B2I.cell 0 _ rfl
   have B2IH:=lH B2I
   clear B2I
   go_upto_region 5 with fail
   clear p0
   have EE:=lH (fun (wq:World) (hSw:Ex wi wq)=>(⟨Chg.cellv hSw e0 hx3,Chg.cellv hSw e1 hx3,Chg.cellv hSw e2 hx3,Chg.cellv hSw e3 hx3,Chg.cellv hSw e4 hx3⟩:_∧_∧_∧_∧_))
   clear e0 e1 e2 e3 e4
   refine wp_region_late_drew (S:=Ex wi) [9,11] (by kernel_rfl) ((Ex.refl wi).drew) (fun hHeld=>?_)
   obtain ⟨wd,hwdx⟩:∃ wd:World,wd=World.drew wi:=⟨_,rfl⟩
   rw [← hwdx] at hHeld ⊢
   have hDrew:Ex wi wd:=by rw [hwdx];exact (Ex.refl wi).drew
   clear hwdx
   refine tkL 0 (v:=?_) rfl (by kernel_rfl) (fun _ _ _ h=>h) (by rfl) ?y5 hHeld ?_
   case y5=>intro wq hSw;go_simp<;>rfl
   try simp only [Act.put,sA,sB,sC]
   refine tkL 1 (v:=?_) rfl (by kernel_rfl) (fun _ _ _ h=>h) (by rfl) ?y8 hHeld ?_
   case y8=>intro wq hSw;(have cq:=(B5I.out.nx hSw).cell 0 _ rfl;go_simp)<;>rfl
   try simp only [Act.put,sA,sB,sC]
   refine tkL 2 (v:=?_) rfl (by kernel_rfl) (fun _ _ _ h=>h) (by rfl) ?y11 hHeld ?_
   case y11=>intro wq hSw;go_simp<;>rfl
   try simp only [Act.put,sA,sB,sC]
   refine tkL 3 (v:=?_) rfl (by kernel_rfl) (fun _ _ _ h=>h) (by rfl) ?y14 hHeld ?_
   case y14=>intro wq hSw;(have cq:=(B2IH.out.nx hSw).cell 0 _ rfl;go_simp)<;>rfl
   try simp only [Act.put,sA,sB,sC]
   refine tkL 4 (v:=?_) rfl (by kernel_rfl) (fun _ _ _ h=>h) (by rfl) ?y17 hHeld ?_
   case y17=>intro wq hSw;go_simp<;>rfl
   try simp only [Act.put,sA,sB,sC]
   refine tkL 5 (v:=?_) rfl (by kernel_rfl) (fun _ _ _ h=>h) (by rfl) ?y20 hHeld ?_
   case y20=>intro wq hSw;go_simp<;>rfl
   try simp only [Act.put,sA,sB,sC]
   refine tkL 6 (v:=?_) rfl (by kernel_rfl) (fun _ _ _ h=>h) (by rfl) ?y23 hHeld ?_
   case y23=>intro wq hSw;(obtain ⟨f0,f1,f2,f3,f4⟩:=EE.out _ hSw;go_simp)<;>rfl
   try simp only [Act.put,sA,sB,sC]
   refine rL 7 (by kernel_rfl) rfl fun K hK=>?_
   go_simp
   (with_reducible refine (copypeer_r y _ _ _ _ _ _ _ (S1.out.nx hHeld) (S4.out.nx hHeld) hl1 hl4).mono ?_)
   rintro e wc ⟨⟨A2,M2,C2⟩,⟨A5,M5,C5⟩,rfl,own2,own5,kk⟩
   replace own2:=own2.base hHeld.size
   replace own5:=own5.base hHeld.size
   simp only [Hdr.val]
   replace hHeld:=hHeld.nx kk
   clear kk
   refine hK.out _ _ (hHeld) (fun hHeld=>?_)
   clear hK K
   try simp only [Act.put,sA,sB,sC]
   refine rL 8 (by kernel_rfl) rfl fun K hK=>?_
   go_simp
   obtain ⟨gx,wq,hgx,hwq,SX,kk⟩:=litQ wc y (A2,M2,C2) (A5,M5,C5)
   simp only [Hdr.val] at hwq
   rw [← hgx,← hwq]
   clear hgx hwq
   replace own2:=own2.nx kk
   replace own5:=own5.nx kk
   replace hHeld:=hHeld.nx kk
   clear kk
   refine hK.out _ _ (hHeld) (fun hHeld=>?_)
   clear hK K
   try simp only [Act.put,sA,sB,sC]
   refine rLL 9 (by kernel_rfl) rfl (by rfl) fun K hK=>?_
   rw [if_pos (by rfl)]
   have zn:=Nat.le_trans hwi hHeld.size
   refine wp_append_W (enc:=encQ) _ (.tmp 19) (.tmp 26) 24 rfl w3.heap.size 36 (.agg #[.int .i64 0,.slice none 0 0,.int .i64 0,.int .i64 0,.slice none 0 0]) 5 72 Tryz.underlying24 Tryz.infoPr rfl (by omega) (by omega) _ qs (OWN.out.nx hHeld).row rfl _ 1 1 [(y.nums,(A2,M2,C2),(A5,M5,C5))] SX encQ_len encQ_one rfl (by omega) (by omega) zn ?_
   intro v9 w9 own9 ch0 ch1 _
   obtain ⟨a9,cp9,rfl,c9,f9,RRH⟩:=db_step hjm HL.out SN.out (B5I.out.nx hHeld) OWN.out hHeld KW.out KBB.out (hk:=(A2,M2,C2)) (hn:=(A5,M5,C5)) own2 own5 own9 ch0 ch1 K3.out.size zg5 hl5
   clear own9 ch0 ch1 own2 own5
   refine hK.out _ _ ?_
   clear hK K
   try simp only [Act.put,sA,sB,sC]
   refine wpAnyL_takeP (i:=10) (oi:=⟨_,_,_,_,_,_⟩) (v:=?_) rfl (by kernel_rfl) (by kernel_rfl) (by kernel_rfl) (fun _ _ _ h=>h) (Or.inl ⟨by rfl,?y64⟩) ?_
   case y64=>intro wq hSw;go_simp<;>rfl
   try simp only [Act.put,sA,sB,sC]
   refine rLL 11 (by kernel_rfl) rfl (by rfl) fun K hK=>?_
   go_simp
   refine hK.out _ _ ?_
   clear hK K
   try simp only [Act.put,sA,sB,sC]
   refine wpAnyL_done (by kernel_rfl) ?_ _
   clear c9 f9 hHeld hDrew SX EE
   go_wp2_with fail
   exact ⟨RRH.out,by simp [intOf];omega⟩
  ·obtain rfl:j=n2:=by omega
   rw [List.take_of_length_le (by rw [HL.out];exact Nat.le_refl _)] at own
   have B2:=B2H.out.nxb h25 kb
   have B4:=B4H.out.nxb h45 kb
   have OMw:=lH (OM.out.put B5H.out (by decide) kb)
   have KW:=lH kw
   have K3:=KW
   have FOH:=lH (show FlOwn w1.heap.size wi (.slice aP j cP) (.slice aM M.length cM) qs ⟨P,M⟩ from ⟨own.lower (by omega),OMw.out⟩)
   have q0:=B2.cell 0 _ rfl
   have q1:=B2.cell 1 _ rfl
   have hz3i:=kb.size
   clear kw kb own B2H B4H OM HS HP B5H hj hjm
   by_cases h0:i<0
   ·have ET:=lH (DN.out i (.inl h0))
    have r0:=B4.cell 0 _ rfl
    have r1:=B4.cell 1 _ rfl
    have f0:=B4.free 0
    have f1:=B4.free 1
    have p0:=B5.cell 0 _ rfl
    have p1:=B5.cell 1 _ rfl
    have B8H:=lH B4
    clear B2 B4 B5
    go_wp2_with fail
    obtain ⟨wz,hwz⟩:∃ wz,wz=(wi.setCell ⟨g4,0,none⟩ (.slice aP j cP)).setCell ⟨g4,1,none⟩ (.slice aM M.length cM):=⟨_,rfl⟩
    have BZ:Blk wz g4 [.slice aP j cP,.slice aM M.length cM] 27:=by rw [hwz];exact (B8H.out.set 0 _).set 1 _
    have KB:Exb g4 wi wz:=by rw [hwz];exact ((Exb.refl g4 _).setB (p:=⟨g4,0,none⟩) _ rfl).setB (p:=⟨g4,1,none⟩) _ rfl
    have KE:Ex w wz:=by rw [hwz];exact (KW.out.setNew (p:=⟨g4,0,none⟩) _ zg4).setNew (p:=⟨g4,1,none⟩) _ zg4
    have FF:=lH ((FOH.out.nxb hb4 KB).lower K1.out.size)
    rw [← hwz]
    have q0:=BZ.cell 0 _ rfl
    have q1:=BZ.cell 1 _ rfl
    clear r0 r1 f0 f1 p0 p1 hwz
    refine bodyPost_ret (v:=.agg #[.slice aP j cP,.slice aM M.length cM]) (by simp [results,Tryz.results41,go_sem, *]) rfl ⟨_,_,qs,rfl,by rw [ET.out];exact FF.out,KE⟩
   obtain ⟨k,rfl⟩:=Int.eq_ofNat_of_zero_le (show 0≤i by omega)
   by_cases hk:k<n3
   case neg =>
    have ET:=lH (DN.out k (.inr (.inl (by have:=HM.out;omega))))
    have h1:¬ (k:Int)<(n3:Int):=by omega
    have r0:=B4.cell 0 _ rfl
    have r1:=B4.cell 1 _ rfl
    have f0:=B4.free 0
    have f1:=B4.free 1
    have p0:=B5.cell 0 _ rfl
    have p1:=B5.cell 1 _ rfl
    have B8H:=lH B4
    clear B2 B4 B5
    go_wp2_with fail
    obtain ⟨wz,hwz⟩:∃ wz,wz=(wi.setCell ⟨g4,0,none⟩ (.slice aP j cP)).setCell ⟨g4,1,none⟩ (.slice aM M.length cM):=⟨_,rfl⟩
    have BZ:Blk wz g4 [.slice aP j cP,.slice aM M.length cM] 27:=by rw [hwz];exact (B8H.out.set 0 _).set 1 _
    have KB:Exb g4 wi wz:=by rw [hwz];exact ((Exb.refl g4 _).setB (p:=⟨g4,0,none⟩) _ rfl).setB (p:=⟨g4,1,none⟩) _ rfl
    have KE:Ex w wz:=by rw [hwz];exact (KW.out.setNew (p:=⟨g4,0,none⟩) _ zg4).setNew (p:=⟨g4,1,none⟩) _ zg4
    have FF:=lH ((FOH.out.nxb hb4 KB).lower K1.out.size)
    rw [← hwz]
    have q0:=BZ.cell 0 _ rfl
    have q1:=BZ.cell 1 _ rfl
    clear r0 r1 f0 f1 p0 p1 hwz
    refine bodyPost_ret (v:=.agg #[.slice aP j cP,.slice aM M.length cM]) (by simp [results,Tryz.results41,go_sem, *]) rfl ⟨_,_,qs,rfl,by rw [ET.out];exact FF.out,KE⟩
   have h1:(k:Int)<(n3:Int):=by omega
   by_cases hl:n3<4096
   case neg =>
    have ET:=lH (DN.out k (.inr (.inr (by have:=HM.out;omega))))
    have h2:¬ (n3:Int)<4096:=by omega
    have r0:=B4.cell 0 _ rfl
    have r1:=B4.cell 1 _ rfl
    have f0:=B4.free 0
    have f1:=B4.free 1
    have p0:=B5.cell 0 _ rfl
    have p1:=B5.cell 1 _ rfl
    have B8H:=lH B4
    clear B2 B4 B5
    go_wp2_with fail
    obtain ⟨wz,hwz⟩:∃ wz,wz=(wi.setCell ⟨g4,0,none⟩ (.slice aP j cP)).setCell ⟨g4,1,none⟩ (.slice aM M.length cM):=⟨_,rfl⟩
    have BZ:Blk wz g4 [.slice aP j cP,.slice aM M.length cM] 27:=by rw [hwz];exact (B8H.out.set 0 _).set 1 _
    have KB:Exb g4 wi wz:=by rw [hwz];exact ((Exb.refl g4 _).setB (p:=⟨g4,0,none⟩) _ rfl).setB (p:=⟨g4,1,none⟩) _ rfl
    have KE:Ex w wz:=by rw [hwz];exact (KW.out.setNew (p:=⟨g4,0,none⟩) _ zg4).setNew (p:=⟨g4,1,none⟩) _ zg4
    have FF:=lH ((FOH.out.nxb hb4 KB).lower K1.out.size)
    rw [← hwz]
    have q0:=BZ.cell 0 _ rfl
    have q1:=BZ.cell 1 _ rfl
    clear r0 r1 f0 f1 p0 p1 hwz
    refine bodyPost_ret (v:=.agg #[.slice aP j cP,.slice aM M.length cM]) (by simp [results,Tryz.results41,go_sem, *]) rfl ⟨_,_,qs,rfl,by rw [ET.out];exact FF.out,KE⟩
   have h2:(n3:Int)<4096:=by omega
   obtain ⟨x8,o8,m,he8,hx8,hmk,hc8⟩:=H3.out.at hk
   subst he8
   have e0:=hc8 0 _ rfl
   have e1:=hc8 1 _ rfl
   rw [Nat.add_zero] at e0
   have ET:=lH (DY.out k m hmk (by have:=HM.out;omega))
   have C0:Hid (∀ wq,Chg (fun x=>x<wi.heap.size∧¬ (Value.slice aM M.length cM).ownBlock=some x) wi wq→wq.cell? ⟨x8,o8+k*2,none⟩=some (.int .i64 m.1)∧wq.cell? ⟨x8,o8+k*2+1,none⟩=some (.int .i64 m.2)):=lH (fun wq kq=>by
    have c0:=Chg.cellv KW.out e0 hx8
    have c1:=Chg.cellv KW.out e1 hx8
    have hx9:x8<wi.heap.size∧¬ (Value.slice aM M.length cM).ownBlock=some x8:=⟨Nat.lt_of_lt_of_le hx8 KW.out.size,fun hh=>by have:=(OMw.out.lt x8 hh).1;have:=K1.out.size;omega⟩
    exact ⟨Chg.cellv kq c0 hx9,Chg.cellv kq c1 hx9⟩)
   have hML:M.length≤1000000:=by have:=HM.out;omega
   clear hc8 e0 e1 hmk DY DN H3
   go_upto_region 7 with fail
   have B2H:=lH B2
   have B4H:=lH B4
   have B5H:=lH B5
   clear B2 B4 B5 q1 q0
   refine wp_region_late_drew (S:=(fun x=>Chg (fun k=>k<wi.heap.size∧¬ (Value.slice aM M.length cM).ownBlock=some k) wi x)) [10] (by kernel_rfl) (Chg.mono (Ex.refl wi).drew (fun k hk=>hk.1)) (fun hHeld=>?_)
   obtain ⟨wd,hwdx⟩:∃ wd:World,wd=World.drew wi:=⟨_,rfl⟩
   rw [← hwdx] at hHeld ⊢
   have hDrew:Ex wi wd:=by rw [hwdx];exact (Ex.refl wi).drew
   clear hwdx
   refine tkL 0 (v:=?_) rfl (by kernel_rfl) (fun _ _ _ h=>h) (by rfl) ?y5 hHeld ?_
   case y5=>intro wq hSw;go_simp<;>rfl
   try simp only [Act.put,sA,sB,sC]
   refine tkL 1 (v:=?_) rfl (by kernel_rfl) (fun _ _ _ h=>h) (by rfl) ?y8 hHeld ?_
   case y8=>intro wq hSw;(have cq:=(B5H.out.app OMw.out (by decide) hSw).cell 1 _ rfl;go_simp)<;>rfl
   try simp only [Act.put,sA,sB,sC]
   refine tkL 2 (v:=?_) rfl (by kernel_rfl) (fun _ _ _ h=>h) (by rfl) ?y11 hHeld ?_
   case y11=>intro wq hSw;go_simp<;>rfl
   try simp only [Act.put,sA,sB,sC]
   refine tkL 3 (v:=?_) rfl (by kernel_rfl) (fun _ _ _ h=>h) (by rfl) ?y14 hHeld ?_
   case y14=>intro wq hSw;(have cq:=(B2H.out.app OMw.out (by decide) hSw).cell 1 _ rfl;go_simp)<;>rfl
   try simp only [Act.put,sA,sB,sC]
   refine tkL 4 (v:=?_) rfl (by kernel_rfl) (fun _ _ _ h=>h) (by rfl) ?y17 hHeld ?_
   case y17=>intro wq hSw;go_simp<;>rfl
   try simp only [Act.put,sA,sB,sC]
   refine tkL 5 (v:=?_) rfl (by kernel_rfl) (fun _ _ _ h=>h) (by rfl) ?y20 hHeld ?_
   case y20=>intro wq hSw;go_simp<;>rfl
   try simp only [Act.put,sA,sB,sC]
   refine tkL 6 (v:=?_) rfl (by kernel_rfl) (fun _ _ _ h=>h) (by rfl) ?y23 hHeld ?_
   case y23=>intro wq hSw;(obtain ⟨cq0,cq1⟩:=C0.out _ hSw;go_simp)<;>rfl
   try simp only [Act.put,sA,sB,sC]
   refine rL 7 (by kernel_rfl) rfl fun K hK=>?_
   go_simp
   obtain ⟨gx,wq,hgx,hwq,SX,kk⟩:=litIo (wp:=wi) (u:=wd) hDrew.size m
   rw [← hgx,← hwq]
   clear hgx hwq
   have H5:=hDrew.nx kk
   replace hHeld:Chg (fun k=>k<wi.heap.size∧¬ (Value.slice aM M.length cM).ownBlock=some k) wi wq:=Chg.mono H5 (fun k hk=>hk.1)
   clear kk
   refine hK.out _ _ (hHeld) (fun hHeld=>?_)
   clear hK K
   try simp only [Act.put,sA,sB,sC]
   refine rL 8 (by kernel_rfl) rfl fun K hK=>?_
   rw [if_pos (by rfl)]
   have rx:=OMw.out.nx H5
   have zbase:w1.heap.size≤wq.heap.size:=by have:=H5.size;omega
   refine wp_append_rda (enc:=encS) _ (.tmp 45) (.tmp 51) 25 rfl w1.heap.size 67 (.agg #[.int .i64 0,.int .i64 0]) 2 16 Tryz.underlying25 Tryz.infoIo rfl (by omega) (by omega) _ M rx rfl _ _ 1 1 [m] SX (fun h=>by cases h) (fun _=>rfl) (by simp [encS,Value.oneCell']) rfl (by omega) (by omega) zbase ?_
   intro va wa A ch0 ch1 hva
   obtain ⟨MM,hMM⟩:∃ MM,MM=M++[m]:=⟨_,rfl⟩
   rw [← hMM] at A
   have HMM:=lH hMM
   clear hMM
   obtain ⟨A9,C9,rfl,_,_,_,_⟩:=A.rd (fun _=>rfl)
   replace hHeld:Chg (fun k=>k<wi.heap.size∧¬ (Value.slice aM M.length cM).ownBlock=some k) wi wa:=Chg.trans hHeld (ch0.mono (fun x hx=>⟨Nat.lt_of_lt_of_le hx.1 H5.size,hx.2⟩))
   have HA:=lH hHeld
   have KA:=lH (show Ex w wa from Chg.trans (KW.out.nx H5) (ch1.mono (fun x hx=>Nat.lt_of_lt_of_le hx K1.out.size)))
   have AH:=lH A
   clear ch0 ch1 hva rx H5 zbase SX A
   refine hK.out _ _ (hHeld) (fun hHeld=>?_)
   clear hK K
   try simp only [Act.put,sA,sB,sC]
   refine tkL 9 (v:=?_) rfl (by kernel_rfl) (fun _ _ _ h=>h) (by rfl) ?y58 hHeld ?_
   case y58=>intro wq hSw;go_simp<;>rfl
   try simp only [Act.put,sA,sB,sC]
   refine rLL 10 (by kernel_rfl) rfl (by rfl) fun K hK=>?_
   have BQ:=B5H.out.app OMw.out (by decide) HA.out
   have cq:=BQ.cell 1 _ rfl
   have fq:=BQ.free 1
   go_simp
   clear cq fq
   refine hK.out _ _ ?_
   clear hK K
   try simp only [Act.put,sA,sB,sC]
   refine wpAnyL_done (by kernel_rfl) ?_ _
   obtain ⟨wy,hwy⟩:∃ wy,wy=wa.setCell ⟨g5,1,none⟩ (.slice A9 MM.length C9):=⟨_,rfl⟩
   rw [← hwy]
   have kb:Exb g5 wa wy:=by rw [hwy];exact (Exb.refl g5 _).setB (p:=⟨g5,1,none⟩) _ rfl
   have B5:Blk wy g5 [.slice aP j cP,.slice A9 MM.length C9] 27:=by rw [hwy];exact BQ.set 1 _
   have B4:=(B4H.out.app OMw.out (by decide) HA.out).nxb h45 kb
   have FPy:=(FOH.out.1.oth OMw.out (by decide) (by decide) (by decide) HA.out).putB BQ (by decide) (by decide) (by decide) kb
   have FMy:=AH.out.put BQ (by decide) kb
   have FOY:=lH (show FlOwn w1.heap.size wy (.slice aP j cP) (.slice A9 MM.length C9) qs ⟨P,MM⟩ from ⟨FPy,FMy⟩)
   have KY:=lH (show Ex w wy from by rw [hwy];exact KA.out.setNew (p:=⟨g5,1,none⟩) _ zg5)
   clear hwy kb BQ FPy FMy hHeld hDrew AH HA
   have r0:=B4.cell 0 _ rfl
   have r1:=B4.cell 1 _ rfl
   have f0:=B4.free 0
   have f1:=B4.free 1
   have p0:=B5.cell 0 _ rfl
   have p1:=B5.cell 1 _ rfl
   have B8H:=lH B4
   clear B4 B5
   go_wp2_with fail
   obtain ⟨wz,hwz⟩:∃ wz,wz=(wy.setCell ⟨g4,0,none⟩ (.slice aP j cP)).setCell ⟨g4,1,none⟩ (.slice A9 MM.length C9):=⟨_,rfl⟩
   have BZ:Blk wz g4 [.slice aP j cP,.slice A9 MM.length C9] 27:=by rw [hwz];exact (B8H.out.set 0 _).set 1 _
   have KB:Exb g4 wy wz:=by rw [hwz];exact ((Exb.refl g4 _).setB (p:=⟨g4,0,none⟩) _ rfl).setB (p:=⟨g4,1,none⟩) _ rfl
   have KE:Ex w wz:=by rw [hwz];exact (KY.out.setNew (p:=⟨g4,0,none⟩) _ zg4).setNew (p:=⟨g4,1,none⟩) _ zg4
   have FF:=lH ((FOY.out.nxb hb4 KB).lower K1.out.size)
   rw [← hwz]
   have q0:=BZ.cell 0 _ rfl
   have q1:=BZ.cell 1 _ rfl
   clear r0 r1 f0 f1 p0 p1 hwz
   refine bodyPost_ret (v:=.agg #[.slice aP j cP,.slice A9 MM.length C9]) (by simp [results,Tryz.results41,go_sem, *]) rfl ⟨_,_,qs,rfl,by rw [ET.out,← HMM.out];exact FF.out,KE⟩
end Go.Proofs.YtalmjklljofhbaaGreatDoor
