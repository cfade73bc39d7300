/- Texts for FlightStepsProof. -/
import Derived.Test.YtalmjklljofhbaaGreatDoorFlightStepsProofL32
import Derived.Test.YtalmjklljofhbaaGreatDoorFlightStepsProofL33
import Derived.Test.YtalmjklljofhbaaGreatDoorFlightStepsProofL35
import Derived.Test.YtalmjklljofhbaaGreatDoorFlightStepsProofL36
set_option linter.unusedSimpArgs false
set_option linter.unusedVariables false

namespace Go.Proofs.YtalmjklljofhbaaGreatDoor
open Go.RowKit
theorem lit2F {wp u:World} (hz:wp.heap.size≤u.heap.size) (x y:Int):∃ g v,g=u.heap.size∧v=u.alloc (.cells #[.int .i64 x,.int .i64 y] 3)∧Slf 1 encI wp v (some ⟨g,0,none⟩) 2 [x,y]∧Ex u v :=
 ⟨_,_,rfl,rfl,Slf.lit [x,y] rfl hz rfl (fun _=>rfl) rfl,Ex.new _ _⟩
theorem cop_few2 {N:List Nd} {f:Fl} {m M:Nat} (h:FewQ m M f.peers):FewQ m M (copF N f).peers:=by
 unfold copF
 split
 ·intro q hq
  unfold normalN at hq
  split at hq
  ·obtain ⟨x,_,rfl⟩:=List.mem_map.1 hq
   unfold peerN
   cases hf:f.peers.find? fun p=>p.id==x.id with
   | none=>exact ⟨Nat.zero_le _,Nat.zero_le _⟩
   | some q=>exact h q (List.mem_of_find?_eq_some hf)
  ·exact absurd ‹checkN N=0› ‹¬checkN N=0›
 ·intro q hq;simp at hq
def FewR (P:List Pr):Prop:=FewQ 1000000 1000000 P
theorem FewR.small {P:List Pr} (h:FewR P):SmallP P:=fun p hp=>by have:=h p hp;omega
theorem cop_peer_at {N:List Nd} {f:Fl} {k:Nat} {y:Pr} (hy:(copF N f).peers[k]?=some y):peerN (copF N f).peers y.id=y :=
 peer_at hy fun j q hj hq he=>by have:=cop_uniq N f hy j q hq he;omega
def TickK (N:List Nd) (f:Fl) (id:Int) (m k:Nat) (Q:List Pr) (Ms:List (Int×Int)):Prop :=
 (Q=(copF N f).peers∧Ms=(copF N f).msgs∧∀ j z,j<k→(copF N f).peers[j]?=some z→z.id≠id) ∨
  (∃ j y,j<k∧(copF N f).peers[j]?=some y∧y.id=id∧(⟨Q,Ms⟩:Fl)=tickF N f id m)
section
variable {N:List Nd} {f:Fl} {id:Int} {m k:Nat} {Q:List Pr} {Ms:List (Int×Int)}
theorem TickK.start:TickK N f id m 0 (copF N f).peers (copF N f).msgs:=.inl ⟨rfl,rfl,fun j z h=>by omega⟩
theorem TickK.done (hk:(copF N f).peers.length≤k) (h:TickK N f id m k Q Ms):(⟨Q,Ms⟩:Fl)=tickF N f id m:=by
 rcases h with ⟨rfl,rfl,h⟩ | ⟨_,_,_,_,_,h⟩
 ·rw [tick_no]
  rintro ⟨_,ha⟩
  obtain ⟨p,hp,he⟩:=List.any_eq_true.1 ha
  obtain ⟨j,hj⟩:=List.mem_iff_getElem?.1 hp
  exact h j p (by have:=(List.getElem?_eq_some_iff.1 hj).1;omega) hj (by simpa using he)
 ·exact h
theorem TickK.at (hm:m≤16) (h:TickK N f id m k Q Ms):Q.length=(copF N f).peers.length∧Q[k]?=(copF N f).peers[k]?:=by
 rcases h with ⟨rfl,rfl,h⟩ | ⟨j,y,hj,hy,rfl,h⟩
 ·exact ⟨rfl,rfl⟩
 ·rw [tick_at hm hy (cop_peer_at hy) (cop_uniq N f hy)] at h
  cases h
  exact ⟨List.length_set,List.getElem?_set_ne (by omega)⟩
theorem TickK.no (h:TickK N f id m k Q Ms) {y:Pr} (hy:(copF N f).peers[k]?=some y) (hne:y.id≠id):TickK N f id m (k+1) Q Ms:=by
 rcases h with ⟨rfl,rfl,h⟩ | ⟨j,z,hj,hz,he,h⟩
 ·refine .inl ⟨rfl,rfl,fun j z hj hz=>?_⟩
  by_cases hjk:j=k
  ·subst hjk
   rw [hy] at hz
   cases hz
   exact hne
  ·exact h j z (by omega) hz
 ·exact .inr ⟨j,z,by omega,hz,he,h⟩
theorem TickK.here (h:TickK N f id m k Q Ms) {y:Pr} (hy:(copF N f).peers[k]?=some y) (he:y.id=id):Q=(copF N f).peers∧Ms=(copF N f).msgs:=by
 rcases h with ⟨rfl,rfl,h⟩ | ⟨j,z,hj,hz,hez,h⟩
 ·exact ⟨rfl,rfl⟩
 ·have:=cop_uniq N f hy j z hz (hez.trans he.symm)
  omega
end
def TkfRel (N:List Nd) (f:Fl) (id:Int) (m g8 g9:Nat) (aP:Option Addr) (cP n base:Nat) (w:World) (i:Value) (wr:World):Prop :=
 ∃ (k:Nat) (Q:List Pr) (Ms:List (Int×Int)) (aM:Option Addr) (cM:Nat) (qs:List PQ),k≤n∧i=.int .i64 k∧Blk wr g9 [.slice aP n cP,.slice aM Ms.length cM] 27 ∧
  FlOwn base wr (.slice aP n cP) (.slice aM Ms.length cM) qs ⟨Q,Ms⟩∧Blk wr g8 [.slice none 0 0,.slice none 0 0] 27∧TickK N f id m k Q Ms∧Ex w wr∧base≤wr.heap.size
set_option maxRecDepth 100000 in
set_option maxHeartbeats 8000000 in
theorem tick_r19 (a:Option Addr) (n c:Nat) (N:List Nd) (a2:Option Addr) (n2 c2:Nat) (P:List Pr) (a3:Option Addr) (n3 c3:Nat) (M:List (Int×Int)) (id hh:Int) (w:World) (h:Sl 3 encN w a n N) (hn:n≤1000) (hw:∀ x∈N,x.word<4294967296) (h2:PL w a2 n2 P) (hn2:n2≤1000000) (hP:FewR P)
  (h3:Sl 2 encS w a3 n3 M) (hn3:n3≤1000000) :
  Calls Tryz.prog 37 #[.slice a n c,.agg #[.slice a2 n2 c2,.slice a3 n3 c3],.int .i64 id,.int .i64 hh] w (FlPost (tickF N ⟨P,M⟩ id hh) w):=by
 have HW:=lH hw
 have HL:=lH h.len
 have HS0:=lH h
 have HM:Hid (M.length=n3):=lH h3.len
 have SM:=lH hP.small
 obtain ⟨F,hF⟩:∃ F,F=copF N ⟨P,M⟩:=⟨_,rfl⟩
 have CL:=lH (cop_len N ⟨P,M⟩)
 have CS:=lH (cop_few2 (N:=N) (f:=⟨P,M⟩) hP)
 have TL:=lH (fun hx=>tick_lvl (N:=N) (f:=⟨P,M⟩) (id:=id) (h:=hh) hx)
 have NF:=copied_r a n c N a2 n2 c2 P a3 n3 c3 M
 have HF:=lH hF
 rw [← hF] at CL CS TL NF
 obtain ⟨g5,hg5⟩:∃ g5,g5=w.heap.size:=⟨_,rfl⟩
 obtain ⟨g8,hg8⟩:∃ g8,g8=(w.heap.size+1):=⟨_,rfl⟩
 obtain ⟨w1,hw1⟩:∃ w1,w1=((w.alloc (.cells #[.slice a2 n2 c2,.slice a3 n3 c3] 27)).alloc (.cells #[.slice none 0 0,.slice none 0 0] 27)):=⟨_,rfl⟩
 have kk:Ex w w1:=by rw [hw1];exact (((Ex.refl w).alloc (.cells #[.slice a2 n2 c2,.slice a3 n3 c3] 27)).alloc (.cells #[.slice none 0 0,.slice none 0 0] 27))
 have B5:Blk w1 g5 [.slice a2 n2 c2,.slice a3 n3 c3] 27:=by rw [hw1];simp only [hg5,hg8];have hbk:=((Blk.new w [.slice a2 n2 c2,.slice a3 n3 c3] 27).nx (Ex.new _ (.cells #[.slice none 0 0,.slice none 0 0] 27)));simpa using hbk
 have B8:Blk w1 g8 [.slice none 0 0,.slice none 0 0] 27:=by rw [hw1];simp only [hg5,hg8];have hbk:=(Blk.new (w.alloc (.cells #[.slice a2 n2 c2,.slice a3 n3 c3] 27)) [.slice none 0 0,.slice none 0 0] 27);simpa using hbk
 have Hw1:=lH hw1
 have Hg5:=lH hg5
 have Hg8:=lH hg8
 replace h:=h.nx kk
 replace h2:=h2.nx kk
 replace h3:=h3.nx kk
 have zg8:w.heap.size≤g8:=by omega
 have K1:=lH kk
 clear kk hw1 hg5 hg8 hP hw hF
 go_enter Tryz.func37,Tryz.ntmps37
 go_upto_region 1 with fail
 rw [← Hw1.out,← Hg8.out,← Hg5.out]
 clear Hw1 Hg8 Hg5
 have q0:=B5.cell 0 _ rfl
 have q1:=B5.cell 1 _ rfl
 go_wp2_with fail
 (with_reducible refine (NF w1 h hn h2 hn2 SM.out h3 (by omega)).mono ?_)
 rintro e w2 ⟨vP,vM,qs,rfl,FO,kk⟩
 replace B8:=B8.nx kk
 obtain ⟨aP,cP,aM,cM,rfl,rfl,_,_⟩:=FO.two
 have K2:=lH (K1.out.nx kk)
 have zw2:=kk.size
 have hb8:=B8.lt
 clear kk h h2 h3 B5 q0 q1 NF
 have B9:=Blk.new w2 [.slice aP F.peers.length cP,.slice aM F.msgs.length cM] 27
 have kk:=Ex.new w2 (.cells #[.slice aP F.peers.length cP,.slice aM F.msgs.length cM] 27)
 obtain ⟨w3,hw3⟩:∃ w3,w3=w2.alloc (.cells #[.slice aP F.peers.length cP,.slice aM F.msgs.length cM] 27):=⟨_,rfl⟩
 obtain ⟨g9,hg9⟩:∃ g9,g9=w2.heap.size:=⟨_,rfl⟩
 replace B9:Blk w3 g9 [.slice aP F.peers.length cP,.slice aM F.msgs.length cM] 27:=by rw [hw3,hg9];exact B9
 rw [← hw3] at kk
 have Hw3:=lH hw3
 have Hg9:=lH hg9
 replace B8:=B8.nx kk
 replace FO:=FO.nx kk
 have zg9:w.heap.size≤g9:=by have:=K2.out.size;omega
 have h89:¬ g8=g9:=by omega
 have h98:¬ g9=g8:=by omega
 have K3:=lH (K2.out.nx kk)
 have zw3:=kk.size
 clear kk hw3 hg9
 go_upto_region 2 with fail
 rw [← Hg9.out,← Hw3.out]
 clear Hg9 Hw3
 have hFl:F.peers.length≤1000:=by have:=CL.out.1;have:=HL.out;omega
 have hMl:F.msgs.length≤1000000:=by have:=CL.out.2.1;have:=HM.out;omega
 have FOH:=lH FO
 have B8H:=lH B8
 have B9H:=lH B9
 clear FO B8 B9
 go_wp2_with fail
 (with_reducible refine (level_r hh _).mono ?_)
 rintro e w4 ⟨rfl,rfl⟩
 by_cases hlv:lvlN hh=true
 case neg =>
  have hlf:lvlN hh=false:=by simpa using hlv
  have ET:=lH (TL.out hlf)
  obtain ⟨Ms,hMs⟩:∃ Ms,Ms=F.msgs:=⟨_,rfl⟩
  have HMS:=lH hMs
  have KW:=K3
  rw [hlf]
  rw [← hMs] at B9H FOH
  clear hlv hlf hMs
  have r0:=B8H.out.cell 0 _ rfl
  have r1:=B8H.out.cell 1 _ rfl
  have f0:=B8H.out.free 0
  have f1:=B8H.out.free 1
  have p0:=B9H.out.cell 0 _ rfl
  have p1:=B9H.out.cell 1 _ rfl
  go_wp2_with fail
  obtain ⟨wz,hwz⟩:∃ wz,wz=(w3.setCell ⟨g8,0,none⟩ (.slice aP F.peers.length cP)).setCell ⟨g8,1,none⟩ (.slice aM Ms.length cM):=⟨_,rfl⟩
  have BZ:Blk wz g8 [.slice aP F.peers.length cP,.slice aM Ms.length cM] 27:=by rw [hwz];exact (B8H.out.set 0 _).set 1 _
  have KB:Exb g8 w3 wz:=by rw [hwz];exact ((Exb.refl g8 _).setB (p:=⟨g8,0,none⟩) _ rfl).setB (p:=⟨g8,1,none⟩) _ rfl
  have KE:Ex w wz:=by rw [hwz];exact (KW.out.setNew (p:=⟨g8,0,none⟩) _ zg8).setNew (p:=⟨g8,1,none⟩) _ zg8
  have FF:=lH ((FOH.out.putB B8H.out (by decide) (by decide) (by decide) (by decide) KB).lower K1.out.size)
  rw [← hwz]
  have q0:=BZ.cell 0 _ rfl
  have q1:=BZ.cell 1 _ rfl
  clear r0 r1 f0 f1 p0 p1 hwz
  refine bodyPost_ret (v:=.agg #[.slice aP F.peers.length cP,.slice aM Ms.length cM]) (by simp [results,Tryz.results37,go_sem, *]) rfl ⟨_,_,qs,rfl,by rw [ET.out];exact FF.out,KE⟩
 rw [hlv]
 obtain ⟨m,rfl⟩:∃ m:Nat,hh=m:=⟨hh.toNat,by unfold lvlN at hlv;simp at hlv;omega⟩
 have hm16:m≤16:=by unfold lvlN at hlv;simp at hlv;omega
 have R0:=lH (show TkfRel N ⟨P,M⟩ id m g8 g9 aP cP F.peers.length w1.heap.size w (.int .i64 0) w3 from ⟨0,F.peers,F.msgs,aM,cM,qs,by omega,rfl,B9H.out,FOH.out,B8H.out,by rw [HF.out];exact .start,K3.out,by omega⟩)
 clear hlv B9H FOH B8H TL K2 K3
 go_wp2_with fail
 go_loopw [10] (fun i wr=>TkfRel N ⟨P,M⟩ id m g8 g9 aP cP F.peers.length w1.heap.size w i wr) (fun i _=>F.peers.length-(intOf i).toNat)
 case atStart=>exact R0.out
 case round =>
  clear R0
  obtain ⟨k,Q,Ms,aM,cM,qs,hk,rfl,B9,FO,B8,TKK,kw,zwi⟩:=hrel
  obtain ⟨wi,rfl⟩:∃ wi:World,wi=wr:=⟨_,rfl⟩
  have KW:=lH kw
  have FOH:=lH FO
  have B8H:=lH B8
  have B9H:=lH B9
  have TKH:=lH TKK
  have hl9:=B9.lt
  have hl8:=B8.lt
  have zw:=kw.size
  clear kw FO B8 B9 TKK
  by_cases hkn:k<F.peers.length
  ·have hkI:(k:Int)<(F.peers.length:Int):=by omega
   obtain ⟨y,hyF⟩:∃ y,F.peers[k]?=some y:=⟨F.peers[k]'hkn,by simp⟩
   have hyC:(copF N ⟨P,M⟩).peers[k]?=some y:=by rw [← HF.out];exact hyF
   have hyQ:Q[k]?=some y:=(TKH.out.at hm16).2.trans hyC
   obtain ⟨⟨b1,m1,d1⟩,⟨b4,m4,d4⟩,hq,ok,on⟩:=FOH.out.1.get hyQ
   obtain ⟨g,hge,hgb⟩:∃ g,aP=some ⟨g,0,none⟩∧w1.heap.size≤g:=by
    obtain ⟨a',c',e,_,_,_,hVg,_⟩:=FOH.out.1.pl
    have e1:aP=a':=by injection e
    obtain ⟨g,h1,h2⟩:=hVg (fun h0=>by rw [show Q=[] from h0] at hyQ;simp at hyQ)
    exact ⟨g,e1.trans h1,h2⟩
   obtain rfl:=hge
   have e0:wi.cell? ⟨g,k*5,none⟩=some (.int .i64 y.id):=(OwnW.set1 encQ_len FOH.out.1.1 hq (c:=0) (by omega)).1
   have e1:wi.cell? ⟨g,k*5+1,none⟩=some (.slice b1 m1 d1):=(OwnW.set1 encQ_len FOH.out.1.1 hq (c:=1) (by omega)).1
   have e2:wi.cell? ⟨g,k*5+1+1,none⟩=some (.int .i64 y.left):=(OwnW.set1 encQ_len FOH.out.1.1 hq (c:=2) (by omega)).1
   have e3:wi.cell? ⟨g,k*5+1+1+1,none⟩=some (.int .i64 y.right):=(OwnW.set1 encQ_len FOH.out.1.1 hq (c:=3) (by omega)).1
   have e4:wi.cell? ⟨g,k*5+1+1+1+1,none⟩=some (.slice b4 m4 d4):=(OwnW.set1 encQ_len FOH.out.1.1 hq (c:=4) (by omega)).1
   have hb:=CS.out y (List.mem_of_getElem? hyF)
   have hl1:m1≤2000000:=by have t:y.known.length=m1:=(OwnL.slv (c:=d1) ok (fun _=>rfl)).len;omega
   have hl4:m4≤2000000:=by have t:y.near.length=m4:=(OwnL.slv (c:=d4) on (fun _=>rfl)).len;omega
   have S1:=lH (OwnL.slv (c:=d1) ok (fun _=>rfl))
   have S4:=lH (OwnL.slv (c:=d4) on (fun _=>rfl))
   have HQ:=lH hq
   have HYQ:=lH hyQ
   have HYC:=lH hyC
   have HYF:=lH hyF
   have p0:=B9H.out.cell 0 _ rfl
   clear ok on hq hyQ hyC hyF
   have B11:=Blk.new wi [.int .i64 y.id,.slice b1 m1 d1,.int .i64 y.left,.int .i64 y.right,.slice b4 m4 d4] 36
   have kk:=Ex.new wi (.cells #[.int .i64 y.id,.slice b1 m1 d1,.int .i64 y.left,.int .i64 y.right,.slice b4 m4 d4] 36)
   obtain ⟨w5,hw5⟩:∃ w5,w5=wi.alloc (.cells #[.int .i64 y.id,.slice b1 m1 d1,.int .i64 y.left,.int .i64 y.right,.slice b4 m4 d4] 36):=⟨_,rfl⟩
   obtain ⟨g11,hg11⟩:∃ g11,g11=wi.heap.size:=⟨_,rfl⟩
   replace B11:Blk w5 g11 [.int .i64 y.id,.slice b1 m1 d1,.int .i64 y.left,.int .i64 y.right,.slice b4 m4 d4] 36:=by rw [hw5,hg11];exact B11
   rw [← hw5] at kk
   have Hw5:=lH hw5
   have Hg11:=lH hg11
   replace FOH:=lH (FOH.out.nx kk)
   replace B8H:=lH (B8H.out.nx kk)
   replace B9H:=lH (B9H.out.nx kk)
   replace S1:=lH (S1.out.nx kk)
   replace S4:=lH (S4.out.nx kk)
   replace KW:=lH (KW.out.nx kk)
   have zw5:=kk.size
   have h911:¬ g9=g11:=by omega
   have h119:¬ g11=g9:=by omega
   have zg11:wi.heap.size≤g11:=by omega
   clear kk hw5 hg11
   go_upto_region 8 with fail
   rw [← Hg11.out,← Hw5.out]
   clear Hg11 Hw5
   clear e0 e1 e2 e3 e4 p0
   have y0:=B11.cell 0 _ rfl
   by_cases hid:y.id=id
   case neg =>
    have d0:(y.id != id)=true:=by simpa using hid
    have RR:=lH (show TkfRel N ⟨P,M⟩ id m g8 g9 (some ⟨g,0,none⟩) cP F.peers.length w1.heap.size w (.int .i64 ((k:Int)+1)) w5 from ⟨k+1,Q,Ms,aM,cM,qs,by omega,by go_num,B9H.out,FOH.out,B8H.out,TKH.out.no HYC.out hid,KW.out,by omega⟩)
    clear B11
    go_wp2_with fail
    exact ⟨RR.out,by simp [intOf];omega⟩
   subst hid
   obtain ⟨hQ,hMs⟩:=TKH.out.here HYC.out rfl
   rw [← HF.out] at hQ hMs
   subst hQ hMs
   have H0:=lH (CL.out.2.2 (by omega))
   have hIl:(introsN N y).length≤2000:=by have:=intros_len N y;have:=HL.out;omega
   have SMF:Hid (SmallP F.peers):=lH (FewR.small CS.out)
   have TE:Hid (tickF N ⟨P,M⟩ y.id m=⟨F.peers.set k (tickP N (peerN F.peers) y m),F.msgs++introsN N y⟩):=lH (by
    rw [tick_at hm16 HYC.out (cop_peer_at HYC.out) (cop_uniq N _ HYC.out),← HF.out])
   have B11H:=lH B11
   have hl9:=B9H.out.lt
   have hl8:=B8H.out.lt
   have hl11:=B11.lt
   clear B11 TKH hb
   go_upto_region 9 with fail
   clear y0
   refine wp_region_late_drew (S:=Ex w5) [5,7] (by kernel_rfl) ((Ex.refl w5).drew) (fun hHeld=>?_)
   obtain ⟨wd,hwdx⟩:∃ wd:World,wd=World.drew w5:=⟨_,rfl⟩
   rw [← hwdx] at hHeld ⊢
   have hDrew:Ex w5 wd:=by rw [hwdx];exact (Ex.refl w5).drew
   clear hwdx
   refine tkL 0 (v:=?_) rfl (by kernel_rfl) (fun _ _ _ h=>h) (by rfl) ?y5 hHeld ?_
   case y5=>intro wq hSw;go_simp<;>rfl
   try simp only [Act.put,sA,sB,sC]
   refine tkL 1 (v:=?_) rfl (by kernel_rfl) (fun _ _ _ h=>h) (by rfl) ?y8 hHeld ?_
   case y8=>intro wq hSw;(have cq:=(B9H.out.nx hSw).cell 1 _ rfl;go_simp)<;>rfl
   try simp only [Act.put,sA,sB,sC]
   refine tkL 2 (v:=?_) rfl (by kernel_rfl) (fun _ _ _ h=>h) (by rfl) ?y11 hHeld ?_
   case y11=>intro wq hSw;go_simp<;>rfl
   try simp only [Act.put,sA,sB,sC]
   refine tkL 3 (v:=?_) rfl (by kernel_rfl) (fun _ _ _ h=>h) (by rfl) ?y14 hHeld ?_
   case y14=>intro wq hSw;(have cq0:=(B11H.out.nx hSw).cell 0 _ rfl;have cq1:=(B11H.out.nx hSw).cell 1 _ rfl;have cq2:=(B11H.out.nx hSw).cell 2 _ rfl;have cq3:=(B11H.out.nx hSw).cell 3 _ rfl;have cq4:=(B11H.out.nx hSw).cell 4 _ rfl;go_simp)<;>rfl
   try simp only [Act.put,sA,sB,sC]
   refine rL 4 (by kernel_rfl) rfl fun K hK=>?_
   go_simp
   (with_reducible refine (intros_r _ _ _ N y _ _ _ _ _ _ _ (HS0.out.nx (KW.out.nx hHeld)) hn (S1.out.nx hHeld) (S4.out.nx hHeld) hl1 hl4).mono ?_)
   rintro e wc ⟨vI,rfl,oI,kk⟩
   obtain ⟨aI,cI,rfl,rI,_,_,nI⟩:=oI.slf (fun _=>rfl)
   replace hHeld:=hHeld.nx kk
   clear kk oI
   refine hK.out _ _ (hHeld) (fun hHeld=>?_)
   clear hK K
   try simp only [Act.put,sA,sB,sC]
   refine rLL 5 (by kernel_rfl) rfl (by rfl) fun K hK=>?_
   rw [if_pos (by rfl)]
   have o4:=FOH.out.2.nx hHeld
   have zs:w1.heap.size≤wc.heap.size:=by have:=hHeld.size;omega
   refine wp_append_rda (enc:=encS) _ (.tmp 38) (.tmp 41) 25 rfl w1.heap.size 67 (.agg #[.int .i64 0,.int .i64 0]) 2 16 Tryz.underlying25 Tryz.infoIo rfl (by omega) (by omega) _ F.msgs o4 rfl _ _ _ _ (introsN N y) rI nI (fun _=>rfl) (by simp [encS,Value.oneCell']) rfl (by omega) (by omega) zs ?_
   intro va wa A ch0 ch1 hva
   obtain ⟨MM,hMM⟩:∃ MM,MM=F.msgs++introsN N y:=⟨_,rfl⟩
   rw [← hMM] at A
   have HMM:=lH hMM
   clear hMM
   obtain ⟨A9,C9,rfl,_,_,_,_⟩:=A.rd (fun _=>rfl)
   have BQ:=lH ((B9H.out.nx hHeld).app o4 (by decide) ch0)
   have BQ8:=lH ((B8H.out.nx hHeld).app o4 (by decide) ch0)
   have BQ11:=lH ((B11H.out.nx hHeld).app o4 (by decide) ch0)
   have FPQ:=lH ((FOH.out.1.nx hHeld).oth o4 (by decide) (by decide) (by decide) ch0)
   have KA:=lH (show Ex w wa from Chg.trans (KW.out.nx hHeld) (ch1.mono (fun x hx=>Nat.lt_of_lt_of_le hx K1.out.size)))
   have AH:=lH A
   have zsa:w1.heap.size≤wa.heap.size:=by have:=ch1.size;omega
   clear ch0 ch1 hva o4 zs A rI nI
   refine hK.out _ _ ?_
   clear hK K
   try simp only [Act.put,sA,sB,sC]
   refine wpAnyL_takeP (i:=6) (oi:=⟨_,_,_,_,_,_⟩) (v:=?_) rfl (by kernel_rfl) (by kernel_rfl) (by kernel_rfl) (fun _ _ _ h=>h) (Or.inl ⟨by rfl,?y51⟩) ?_
   case y51=>intro wq hSw;go_simp<;>rfl
   try simp only [Act.put,sA,sB,sC]
   refine rLL 7 (by kernel_rfl) rfl (by rfl) fun K hK=>?_
   have cq:=BQ.out.cell 1 _ rfl
   have fq:=BQ.out.free 1
   go_simp
   clear cq fq
   refine hK.out _ _ ?_
   clear hK K
   try simp only [Act.put,sA,sB,sC]
   refine wpAnyL_done (by kernel_rfl) ?_ _
   obtain ⟨w6,hw6⟩:∃ w6,w6=wa.setCell ⟨g9,1,none⟩ (.slice A9 MM.length C9):=⟨_,rfl⟩
   rw [← hw6]
   have kb:Exb g9 wa w6:=by rw [hw6];exact (Exb.refl g9 _).setB (p:=⟨g9,1,none⟩) _ rfl
   have zw6:w1.heap.size≤w6.heap.size:=by have:=kb.size;omega
   have B9:Blk w6 g9 [.slice (some ⟨g,0,none⟩) F.peers.length cP,.slice A9 MM.length C9] 27:=by rw [hw6];exact BQ.out.set 1 _
   have B8:=BQ8.out.nxb h89 kb
   have B11:=BQ11.out.nxb h119 kb
   have FP:=lH (FPQ.out.putB BQ.out (by decide) (by decide) (by decide) kb)
   have FM:=lH (AH.out.put BQ.out (by decide) kb)
   have K6:=lH (show Ex w w6 from by rw [hw6];exact KA.out.setNew (p:=⟨g9,1,none⟩) _ zg9)
   obtain ⟨_,ok6,on6⟩:=FP.out.2.2.1 k _ y HQ.out HYQ.out
   have S1:=lH (OwnL.slv (c:=d1) ok6 (fun _=>rfl))
   have S4:=lH (OwnL.slv (c:=d4) on6 (fun _=>rfl))
   have y0:=B11.cell 0 _ rfl
   have y1:=B11.cell 1 _ rfl
   have y2:=B11.cell 2 _ rfl
   have y3:=B11.cell 3 _ rfl
   have y4:=B11.cell 4 _ rfl
   clear hw6 kb BQ BQ8 BQ11 FPQ AH KA hHeld hDrew ok6 on6 B9H B8H B11H FOH
   go_wp2_with fail
   (with_reducible refine (keep_r _ _ _ N y _ _ _ _ _ _ _ (HS0.out.nx K6.out) hn S1.out S4.out hl1 hl4).mono ?_)
   rintro e w7 ⟨rfl,kk⟩
   replace FP:=lH (FP.out.nx kk)
   replace FM:=lH (FM.out.nx kk)
   replace K6:=lH (K6.out.nx kk)
   replace S1:=lH (S1.out.nx kk)
   replace S4:=lH (S4.out.nx kk)
   replace B9:=B9.nx kk
   replace B8:=B8.nx kk
   replace B11:=B11.nx kk
   have zw7:=kk.size
   clear kk y0 y1 y2 y3 y4
   have hl9:=B9.lt
   have hl8:=B8.lt
   have hl11:=B11.lt
   have B12:=Blk.new w7 [.int .i64 (keepN N y).1,.int .i64 (keepN N y).2] 81
   have kk:=Ex.new w7 (.cells #[.int .i64 (keepN N y).1,.int .i64 (keepN N y).2] 81)
   obtain ⟨w8,hw8⟩:∃ w8,w8=w7.alloc (.cells #[.int .i64 (keepN N y).1,.int .i64 (keepN N y).2] 81):=⟨_,rfl⟩
   obtain ⟨g12,hg12⟩:∃ g12,g12=w7.heap.size:=⟨_,rfl⟩
   replace B12:Blk w8 g12 [.int .i64 (keepN N y).1,.int .i64 (keepN N y).2] 81:=by rw [hw8,hg12];exact B12
   rw [← hw8] at kk
   have Hw8:=lH hw8
   have Hg12:=lH hg12
   replace B9:=B9.nx kk
   replace B8:=B8.nx kk
   replace B11:=B11.nx kk
   replace FP:=lH (FP.out.nx kk)
   replace FM:=lH (FM.out.nx kk)
   replace K6:=lH (K6.out.nx kk)
   replace S4:=lH (S4.out.nx kk)
   have zw8x:=kk.size
   have h912:¬ g9=g12:=by omega
   clear kk hw8 hg12
   go_upto_region 11 with fail
   rw [← Hg12.out,← Hw8.out]
   clear Hg12 Hw8
   have y0:=B11.cell 0 _ rfl
   have y1:=B11.cell 1 _ rfl
   have y2:=B11.cell 2 _ rfl
   have y3:=B11.cell 3 _ rfl
   have y4:=B11.cell 4 _ rfl
   have p0:=B9.cell 0 _ rfl
   have LT:=lH FP.out.lts
   obtain ⟨aV,cV,eV,PLV,_⟩:=FP.out.pl
   cases eV
   have PLH:=lH PLV
   clear PLV
   go_wp2_with fail
   (with_reducible refine (next17_r _ _ _ N _ _ _ F.peers y _ _ _ _ _ _ m _ (HS0.out.nx K6.out) hn HW.out PLH.out (by omega) SMF.out S4.out (by omega) hm16).mono ?_)
   rintro e w9 ⟨vX,rfl,oX,kk⟩
   obtain ⟨aX,cX,rfl,_⟩:=oX.rd (fun _=>rfl)
   replace FP:=lH (FP.out.nx kk)
   replace FM:=lH (FM.out.nx kk)
   replace K6:=lH (K6.out.nx kk)
   have B9H:=lH (B9.nx kk)
   have B8H:=lH (B8.nx kk)
   have B12H:=lH (B12.nx kk)
   have OX:=lH oX
   have hz89:=kk.size
   have zw8:w1.heap.size≤w8.heap.size:=by omega
   clear kk y0 y1 y2 y3 y4 p0 oX PLH S1 S4 B9 B8 B11 B12
   go_upto_region 12 with fail
   refine wp_region_late_drew (S:=Ex w9) [19] (by kernel_rfl) ((Ex.refl w9).drew) (fun hHeld=>?_)
   obtain ⟨we,hwex⟩:∃ wd:World,wd=World.drew w9:=⟨_,rfl⟩
   rw [← hwex] at hHeld ⊢
   have hDrew:Ex w9 we:=by rw [hwex];exact (Ex.refl w9).drew
   clear hwex
   refine tkL 0 (v:=?_) rfl (by kernel_rfl) (fun _ _ _ h=>h) (by rfl) ?y5 hHeld ?_
   case y5=>intro wq hSw;go_simp<;>rfl
   try simp only [Act.put,sA,sB,sC]
   refine tkL 1 (v:=?_) rfl (by kernel_rfl) (fun _ _ _ h=>h) (by rfl) ?y8 hHeld ?_
   case y8=>intro wq hSw;(have cq:=(B9H.out.nx hSw).cell 0 _ rfl;go_simp)<;>rfl
   try simp only [Act.put,sA,sB,sC]
   refine tkL 2 (v:=?_) rfl (by kernel_rfl) (fun _ _ _ h=>h) (by rfl) ?y11 hHeld ?_
   case y11=>intro wq hSw;go_simp<;>rfl
   try simp only [Act.put,sA,sB,sC]
   refine tkL 3 (v:=?_) rfl (by kernel_rfl) (fun _ _ _ h=>h) (by rfl) ?y14 hHeld ?_
   case y14=>intro wq hSw;go_simp<;>rfl
   try simp only [Act.put,sA,sB,sC]
   refine tkL 4 (v:=?_) rfl (by kernel_rfl) (fun _ _ _ h=>h) (by rfl) ?y17 hHeld ?_
   case y17=>intro wq hSw;go_simp<;>rfl
   try simp only [Act.put,sA,sB,sC]
   refine tkL 5 (v:=?_) rfl (by kernel_rfl) (fun _ _ _ h=>h) (by rfl) ?y20 hHeld ?_
   case y20=>intro wq hSw;go_simp<;>rfl
   try simp only [Act.put,sA,sB,sC]
   refine tkL 6 (v:=?_) rfl (by kernel_rfl) (fun _ _ _ h=>h) (by rfl) ?y23 hHeld ?_
   case y23=>intro wq hSw;(have cq:=(B12H.out.nx hSw).cell 0 _ rfl;go_simp)<;>rfl
   try simp only [Act.put,sA,sB,sC]
   refine tkL 7 (v:=?_) rfl (by kernel_rfl) (fun _ _ _ h=>h) (by rfl) ?y26 hHeld ?_
   case y26=>intro wq hSw;go_simp<;>rfl
   try simp only [Act.put,sA,sB,sC]
   refine tkL 8 (v:=?_) rfl (by kernel_rfl) (fun _ _ _ h=>h) (by rfl) ?y29 hHeld ?_
   case y29=>intro wq hSw;(have cq:=(B12H.out.nx hSw).cell 1 _ rfl;go_simp)<;>rfl
   try simp only [Act.put,sA,sB,sC]
   refine tkL 10 (v:=?_) rfl (by kernel_rfl) (fun _ _ _ h=>h) (by rfl) ?y32 hHeld ?_
   case y32=>intro wq hSw;go_simp<;>rfl
   try simp only [Act.put,sA,sB,sC]
   refine tkL 12 (v:=?_) rfl (by kernel_rfl) (fun _ _ _ h=>h) (by rfl) ?y35 hHeld ?_
   case y35=>intro wq hSw;go_simp<;>rfl
   try simp only [Act.put,sA,sB,sC]
   refine tkL 13 (v:=?_) rfl (by kernel_rfl) (fun _ _ _ h=>h) (by rfl) ?y38 hHeld ?_
   case y38=>intro wq hSw;(have cq:=(B12H.out.nx hSw).cell 0 _ rfl;go_simp)<;>rfl
   try simp only [Act.put,sA,sB,sC]
   refine tkL 14 (v:=?_) rfl (by kernel_rfl) (fun _ _ _ h=>h) (by rfl) ?y41 hHeld ?_
   case y41=>intro wq hSw;go_simp<;>rfl
   try simp only [Act.put,sA,sB,sC]
   refine tkL 15 (v:=?_) rfl (by kernel_rfl) (fun _ _ _ h=>h) (by rfl) ?y44 hHeld ?_
   case y44=>intro wq hSw;(have cq:=(B12H.out.nx hSw).cell 1 _ rfl;go_simp)<;>rfl
   try simp only [Act.put,sA,sB,sC]
   refine tkL 16 (v:=?_) rfl (by kernel_rfl) (fun _ _ _ h=>h) (by rfl) ?y47 hHeld ?_
   case y47=>intro wq hSw;go_simp<;>rfl
   try simp only [Act.put,sA,sB,sC]
   refine rL 9 (by kernel_rfl) rfl fun K hK=>?_
   go_simp
   obtain ⟨gx,wq,hgx,hwq,SX,kk⟩:=lit2F (wp:=w9) hHeld.size (keepN N y).1 (keepN N y).2
   rw [← hgx,← hwq]
   clear hgx hwq
   replace hHeld:=hHeld.nx kk
   clear kk
   refine hK.out _ _ (hHeld) (fun hHeld=>?_)
   clear hK K
   try simp only [Act.put,sA,sB,sC]
   refine rL 11 (by kernel_rfl) rfl fun K hK=>?_
   go_simp
   (with_reducible refine (ordered_r _ _ _ N _ _ _ [(keepN N y).1,(keepN N y).2] y.id _ (HS0.out.nx (K6.out.nx hHeld)) hn SX.sl (by omega)).mono ?_)
   rintro e wv ⟨vK,rfl,oK,kk⟩
   obtain ⟨aK,cK,rfl,_⟩:=oK.rd (fun _=>rfl)
   have zq:=hHeld.size
   replace hHeld:=hHeld.nx kk
   have KV:=lH hHeld
   have OK:=lH oK
   clear kk oK
   refine hK.out _ _ (hHeld) (fun hHeld=>?_)
   clear hK K
   try simp only [Act.put,sA,sB,sC]
   refine tkL 17 (v:=?_) rfl (by kernel_rfl) (fun _ _ _ h=>h) (by rfl) ?y75 hHeld ?_
   case y75=>intro wq hSw;go_simp<;>rfl
   try simp only [Act.put,sA,sB,sC]
   refine tkL 18 (v:=?_) rfl (by kernel_rfl) (fun _ _ _ h=>h) (by rfl) ?y78 hHeld ?_
   case y78=>intro wq hSw;go_simp<;>rfl
   try simp only [Act.put,sA,sB,sC]
   refine rLL 19 (by kernel_rfl) rfl (by rfl) fun K hK=>?_
   obtain ⟨wc5,own5⟩:=OwnP.whole (by decide) (by decide) (by decide) (FP.out.nx KV.out) HQ.out HYQ.out (p':=tickP N (peerN F.peers) y m) (hk':=(aK,(ordN N [(keepN N y).1,(keepN N y).2] y.id).length,cK)) (hn':=(aX,(nextB N (peerN F.peers) y m).length,cX)) w8.heap.size (OK.out.base (by omega)) (OX.out.nx KV.out) (by omega) LT.out.1 LT.out.2
   obtain ⟨s0,t0⟩:=wc5 0 _ rfl
   obtain ⟨s1,t1⟩:=wc5 1 _ rfl
   obtain ⟨s2,t2⟩:=wc5 2 _ rfl
   obtain ⟨s3,t3⟩:=wc5 3 _ rfl
   obtain ⟨s4,t4⟩:=wc5 4 _ rfl
   rw [Nat.add_zero] at s0 t0
   have OWN5:=lH own5
   have hy2:k*5+1+1=k*5+2:=rfl
   clear own5 wc5
   go_simp
   clear s0 s1 s2 s3 s4 t0 t1 t2 t3 t4
   refine hK.out _ _ ?_
   clear hK K
   try simp only [Act.put,sA,sB,sC]
   refine wpAnyL_done (by kernel_rfl) ?_ _
   obtain ⟨wy,hwy⟩:∃ wy,wy=((((wv.setCell ⟨g,k*5,none⟩ (.int .i64 y.id)).setCell ⟨g,k*5+1,none⟩ (.slice aK (ordN N [(keepN N y).1,(keepN N y).2] y.id).length cK)).setCell ⟨g,k*5+2,none⟩ (.int .i64 (keepN N y).1)).setCell ⟨g,k*5+3,none⟩ (.int .i64 (keepN N y).2)).setCell ⟨g,k*5+4,none⟩ (.slice aX (nextB N (peerN F.peers) y m).length cX):=⟨_,rfl⟩
   rw [← hwy]
   have own5:OwnPr w1.heap.size wy (.slice (some ⟨g,0,none⟩) F.peers.length cP) (qs.set k ((tickP N (peerN F.peers) y m).nums,(aK,(ordN N [(keepN N y).1,(keepN N y).2] y.id).length,cK),(aX,(nextB N (peerN F.peers) y m).length,cX))) (F.peers.set k (tickP N (peerN F.peers) y m)):=by rw [hwy];exact OWN5.out
   have ch:Chg (fun x=>x<wv.heap.size∧¬ x=g) wv wy:=by rw [hwy];exact ((((set_chg wv _).setCell (p:=⟨g,k*5+1,none⟩) _ (fun k hk=>hk.2)).setCell (p:=⟨g,k*5+2,none⟩) _ (fun k hk=>hk.2)).setCell (p:=⟨g,k*5+3,none⟩) _ (fun k hk=>hk.2)).setCell (p:=⟨g,k*5+4,none⟩) _ (fun k hk=>hk.2)
   have FMv:=FM.out.nx KV.out
   have FMy:=FMv.chg ch (fun x hx hv=>⟨hx,fun he=>by subst he;obtain ⟨_,_,e1⟩:=FMv.blk hv;obtain ⟨_,_,e2⟩:=(FP.out.nx KV.out).1.blk rfl;exact blk_kind (by decide) e2 e1⟩)
   have B9v:=B9H.out.nx KV.out
   have B8v:=B8H.out.nx KV.out
   have h9g:¬ g9=g:=fun he=>by subst he;obtain ⟨_,_,e2⟩:=(FP.out.nx KV.out).1.blk rfl;exact blk_kind (by decide) e2 B9v
   have h8g:¬ g8=g:=fun he=>by subst he;obtain ⟨_,_,e2⟩:=(FP.out.nx KV.out).1.blk rfl;exact blk_kind (by decide) e2 B8v
   have K6v:=K6.out.nx KV.out
   have zgg:w.heap.size≤g:=by have:=K1.out.size;omega
   have RR:=lH (show TkfRel N ⟨P,M⟩ y.id m g8 g9 (some ⟨g,0,none⟩) cP F.peers.length w1.heap.size w (.int .i64 ((k:Int)+1)) wy from ⟨k+1,_,MM,A9,C9,_,by omega,by go_num,B9v.chg ch ⟨B9v.lt,h9g⟩,⟨own5,FMy⟩,B8v.chg ch ⟨B8v.lt,h8g⟩,.inr ⟨k,y,by omega,HYC.out,rfl,by rw [TE.out,HMM.out]⟩,Chg.trans K6v (ch.mono (fun x hx=>⟨Nat.lt_of_lt_of_le hx K6v.size,fun he=>by omega⟩)),by have a1:=ch.size;have a2:=KV.out.size;omega⟩)
   clear hwy own5 ch FMy FMv OWN5 B9v B8v hHeld hDrew
   go_wp2_with fail
   exact ⟨RR.out,by simp [intOf];omega⟩
  ·obtain rfl:k=F.peers.length:=by omega
   have hkI:¬ (F.peers.length:Int)<(F.peers.length:Int):=by omega
   have ET:Hid ((⟨Q,Ms⟩:Fl)=tickF N ⟨P,M⟩ id m):=lH (TKH.out.done (by rw [← HF.out];exact Nat.le_refl _))
   have r0:=B8H.out.cell 0 _ rfl
   have r1:=B8H.out.cell 1 _ rfl
   have f0:=B8H.out.free 0
   have f1:=B8H.out.free 1
   have p0:=B9H.out.cell 0 _ rfl
   have p1:=B9H.out.cell 1 _ rfl
   go_wp2_with fail
   obtain ⟨wz,hwz⟩:∃ wz,wz=(wi.setCell ⟨g8,0,none⟩ (.slice aP F.peers.length cP)).setCell ⟨g8,1,none⟩ (.slice aM Ms.length cM):=⟨_,rfl⟩
   have BZ:Blk wz g8 [.slice aP F.peers.length cP,.slice aM Ms.length cM] 27:=by rw [hwz];exact (B8H.out.set 0 _).set 1 _
   have KB:Exb g8 wi wz:=by rw [hwz];exact ((Exb.refl g8 _).setB (p:=⟨g8,0,none⟩) _ rfl).setB (p:=⟨g8,1,none⟩) _ rfl
   have KE:Ex w wz:=by rw [hwz];exact (KW.out.setNew (p:=⟨g8,0,none⟩) _ zg8).setNew (p:=⟨g8,1,none⟩) _ zg8
   have FF:=lH ((FOH.out.putB B8H.out (by decide) (by decide) (by decide) (by decide) KB).lower K1.out.size)
   rw [← hwz]
   have q0:=BZ.cell 0 _ rfl
   have q1:=BZ.cell 1 _ rfl
   clear r0 r1 f0 f1 p0 p1 hwz
   refine bodyPost_ret (v:=.agg #[.slice aP F.peers.length cP,.slice aM Ms.length cM]) (by simp [results,Tryz.results37,go_sem, *]) rfl ⟨_,_,qs,rfl,by rw [← ET.out];exact FF.out,KE⟩
def tlN (N:List Nd) (m:Int×Int) (ok:Bool) (p:Pr):Pr:=if ok=true∧m.1≠m.2 then tellP N m p else p
theorem tl_all {N:List Nd} {m:Int×Int} {ok:Bool} {Q:List Pr}:(if ok=true∧m.1≠m.2 then Q.map (tellP N m) else Q)=Q.map (tlN N m ok):=by
 by_cases h:ok=true∧m.1≠m.2
 ·rw [if_pos h]
  exact List.map_congr_left fun p _=>(if_pos h).symm
 ·rw [if_neg h]
  have:Q.map (tlN N m ok)=Q.map id:=List.map_congr_left fun p _=>if_neg h
  rw [this,List.map_id]
theorem tl_no {N:List Nd} {m:Int×Int} {ok:Bool} {p:Pr} (h:¬ (ok=true∧p.id=m.1∧m.1≠m.2)):tlN N m ok p=p:=by
 unfold tlN tellP
 split
 ·rename_i h1
  rw [if_neg (fun he=>h ⟨h1.1,he,h1.2⟩)]
 ·rfl
theorem tl_yes {N:List Nd} {m:Int×Int} {p:Pr} (h1:p.id=m.1) (h2:m.1≠m.2):tlN N m true p={ p with known:=ordN N (p.known++[m.2]) p.id }:=by
 unfold tlN tellP
 rw [if_pos ⟨rfl,h2⟩,if_pos h1]
theorem OwnP.rowi {eP eI eN base:Nat} {w w1:World} {qs:List PQ} {P:List Pr} (hI:eP≠eI) {g n cap:Nat} (h:OwnP eP eI eN base w (.slice (some ⟨g,0,none⟩) n cap) qs P) {a:Nat} {p:Pr} {hk hn:Hdr} (hq:qs[a]?=some (p.nums,hk,hn))
  (k1:Chg (fun k=>k<w.heap.size∧¬ hk.val.ownBlock=some k) w w1):w1.cell? ⟨g,a*5,none⟩=some (.int .i64 p.id):=by
 have row1:OwnW 5 encQ eP base w1 (.slice (some ⟨g,0,none⟩) n cap) qs:=h.1.chg k1 (fun x hx hv=>⟨hx,fun hh=>h.neI hI hq hh hv⟩)
 exact (OwnW.set1 encQ_len row1 hq (c:=0) (by omega)).1
def DlfRel (N:List Nd) (m:Int×Int) (ok:Bool) (F:Fl) (MM:List (Int×Int)) (g6 g7 g8:Nat) (aP aM:Option Addr) (cP nM cM base:Nat) (w:World) (i:Value) (wr:World):Prop :=
 ∃ (k:Nat) (qs:List PQ),k≤F.peers.length∧i=.int .i64 k∧Blk wr g7 [.slice aP F.peers.length cP,.slice aM nM cM] 27 ∧
  FlOwn base wr (.slice aP F.peers.length cP) (.slice aM nM cM) qs ⟨updF (tlN N m ok) F.peers k,MM⟩∧Blk wr g6 [.slice none 0 0,.slice none 0 0] 27∧Blk wr g8 [.int .i64 m.1,.int .i64 m.2] 67∧Ex w wr∧base≤wr.heap.size
theorem DlfRel.nx {N:List Nd} {m:Int×Int} {ok:Bool} {F:Fl} {MM:List (Int×Int)} {g6 g7 g8:Nat} {aP aM:Option Addr} {cP nM cM base:Nat} {w:World} {i:Value} {wr wv:World} (h:DlfRel N m ok F MM g6 g7 g8 aP aM cP nM cM base w i wr) (k:Ex wr wv):DlfRel N m ok F MM g6 g7 g8 aP aM cP nM cM base w i wv:=by
 obtain ⟨j,qs,h1,h2,h3,h4,h5,h6,h7,h8⟩:=h
 exact ⟨j,qs,h1,h2,h3.nx k,h4.nx k,h5.nx k,h6.nx k,h7.nx k,Nat.le_trans h8 k.size⟩
def DlCut (base g7 gM:Nat) (aP aM:Option Addr) (nP cP nM cM:Nat) (qs:List PQ) (F:Fl) (w4 wx:World):Prop :=
 FlOwn base wx (.slice aP nP cP) (.slice aM nM cM) qs F∧Blk wx g7 [.slice aP nP cP,.slice aM nM cM] 27∧Chg (fun x=>x<w4.heap.size∧¬ x=gM∧¬ x=g7) w4 wx
set_option maxRecDepth 100000 in
set_option maxHeartbeats 8000000 in
theorem del_r19 (a:Option Addr) (n c:Nat) (N:List Nd) (a2:Option Addr) (n2 c2:Nat) (P:List Pr) (a3:Option Addr) (n3 c3:Nat) (M:List (Int×Int)) (i:Int) (w:World) (h:Sl 3 encN w a n N) (hn:n≤1000) (h2:PL w a2 n2 P) (hn2:n2≤1000000) (hP:FewR P)
  (h3:Sl 2 encS w a3 n3 M) (hn3:n3≤1000000) (hW:∀ x∈N,x.word<4294967296) :
  Calls Tryz.prog 39 #[.slice a n c,.agg #[.slice a2 n2 c2,.slice a3 n3 c3],.int .i64 i] w (FlPost (delF N ⟨P,M⟩ i) w):=by
 have HL:=lH h.len
 have HS0:=lH h
 obtain ⟨F,hF⟩:∃ F,F=copF N ⟨P,M⟩:=⟨_,rfl⟩
 have CL:=lH (cop_len N ⟨P,M⟩)
 have CS:=lH (cop_few2 (N:=N) (f:=⟨P,M⟩) hP)
 have DO:=lH (fun (k:Int) hx=>del_out (N:=N) (f:=⟨P,M⟩) (k:=k) hx)
 have DA:=lH (fun (k:Nat) (m:Int×Int) (hx:(copF N ⟨P,M⟩).msgs[k]?=some m)=>del_at (N:=N) (f:=⟨P,M⟩) hx)
 have SM:=lH hP.small
 have NF:=copied_r a n c N a2 n2 c2 P a3 n3 c3 M
 rw [← hF] at CL CS DO DA NF
 have HM:=lH (h3.len:M.length=n3)
 obtain ⟨g4,hg4⟩:∃ g4,g4=w.heap.size:=⟨_,rfl⟩
 obtain ⟨g6,hg6⟩:∃ g6,g6=(w.heap.size+1):=⟨_,rfl⟩
 obtain ⟨w1,hw1⟩:∃ w1,w1=((w.alloc (.cells #[.slice a2 n2 c2,.slice a3 n3 c3] 27)).alloc (.cells #[.slice none 0 0,.slice none 0 0] 27)):=⟨_,rfl⟩
 have kk:Ex w w1:=by rw [hw1];exact (((Ex.refl w).alloc (.cells #[.slice a2 n2 c2,.slice a3 n3 c3] 27)).alloc (.cells #[.slice none 0 0,.slice none 0 0] 27))
 have B4:Blk w1 g4 [.slice a2 n2 c2,.slice a3 n3 c3] 27:=by rw [hw1];simp only [hg4,hg6];have hbk:=((Blk.new w [.slice a2 n2 c2,.slice a3 n3 c3] 27).nx (Ex.new _ (.cells #[.slice none 0 0,.slice none 0 0] 27)));simpa using hbk
 have B6:Blk w1 g6 [.slice none 0 0,.slice none 0 0] 27:=by rw [hw1];simp only [hg4,hg6];have hbk:=(Blk.new (w.alloc (.cells #[.slice a2 n2 c2,.slice a3 n3 c3] 27)) [.slice none 0 0,.slice none 0 0] 27);simpa using hbk
 have Hw1:=lH hw1
 have Hg4:=lH hg4
 have Hg6:=lH hg6
 replace h:=h.nx kk
 replace h2:=h2.nx kk
 replace h3:=h3.nx kk
 have zg6:w.heap.size≤g6:=by omega
 have K1:=lH kk
 have hb6:=B6.lt
 clear kk hw1 hg4 hg6 hP hF hW
 go_enter Tryz.func39,Tryz.ntmps39
 go_upto_region 1 with fail
 rw [← Hw1.out,← Hg6.out,← Hg4.out]
 clear Hw1 Hg6 Hg4
 have q0:=B4.cell 0 _ rfl
 have q1:=B4.cell 1 _ rfl
 go_wp2_with fail
 (with_reducible refine (NF w1 h hn h2 hn2 SM.out h3 (by omega)).mono ?_)
 rintro e w2 ⟨vP,vM,qs,rfl,FO,kk⟩
 replace h:=h.nx kk
 replace B6:=B6.nx kk
 obtain ⟨aP,cP,rfl,_,_,_,hgP,_⟩:=FO.1.pl
 obtain ⟨aM,cM,rfl,_,hlc,hcm,hgM⟩:=FO.2.rd (fun _=>rfl)
 have HGM:=lH hgM
 have K2:=lH (K1.out.nx kk)
 have K12:=lH kk
 have hz12:=kk.size
 have HGP:=lH hgP
 clear kk h2 h3 B4 q0 q1 NF hgP hgM
 have B7:=Blk.new w2 [.slice aP F.peers.length cP,.slice aM F.msgs.length cM] 27
 have kk:=Ex.new w2 (.cells #[.slice aP F.peers.length cP,.slice aM F.msgs.length cM] 27)
 obtain ⟨w3,hw3⟩:∃ w3,w3=w2.alloc (.cells #[.slice aP F.peers.length cP,.slice aM F.msgs.length cM] 27):=⟨_,rfl⟩
 obtain ⟨g7,hg7⟩:∃ g7,g7=w2.heap.size:=⟨_,rfl⟩
 replace B7:Blk w3 g7 [.slice aP F.peers.length cP,.slice aM F.msgs.length cM] 27:=by rw [hw3,hg7];exact B7
 rw [← hw3] at kk
 have Hw3:=lH hw3
 have Hg7:=lH hg7
 replace h:=h.nx kk
 replace B6:=B6.nx kk
 replace FO:=FO.nx kk
 have zg7:w2.heap.size≤g7:=by omega
 have h67:¬ g6=g7:=by omega
 have K3:=lH (K2.out.nx kk)
 replace K12:=lH (K12.out.nx kk)
 have hz23:=kk.size
 clear kk hw3 hg7
 go_upto_region 2 with fail
 rw [← Hg7.out,← Hw3.out]
 clear Hg7 Hw3
 have hFl:F.peers.length≤1000:=by have:=CL.out.1;have:=HL.out;omega
 have hMl:F.msgs.length≤1000000:=by have:=CL.out.2.1;have:=HM.out;omega
 have FOH:=lH FO
 clear FO
 by_cases h0:i<0
 ·have ET:=lH (DO.out i (.inl h0))
  have r0:=B6.cell 0 _ rfl
  have r1:=B6.cell 1 _ rfl
  have f0:=B6.free 0
  have f1:=B6.free 1
  have p0:=B7.cell 0 _ rfl
  have p1:=B7.cell 1 _ rfl
  have B8H:=lH B6
  clear h B6 B7
  go_wp2_with fail
  obtain ⟨wz,hwz⟩:∃ wz,wz=(w3.setCell ⟨g6,0,none⟩ (.slice aP F.peers.length cP)).setCell ⟨g6,1,none⟩ (.slice aM F.msgs.length cM):=⟨_,rfl⟩
  have BZ:Blk wz g6 [.slice aP F.peers.length cP,.slice aM F.msgs.length cM] 27:=by rw [hwz];exact (B8H.out.set 0 _).set 1 _
  have KB:Exb g6 w3 wz:=by rw [hwz];exact ((Exb.refl g6 _).setB (p:=⟨g6,0,none⟩) _ rfl).setB (p:=⟨g6,1,none⟩) _ rfl
  have KE:Ex w wz:=by rw [hwz];exact (K3.out.setNew (p:=⟨g6,0,none⟩) _ zg6).setNew (p:=⟨g6,1,none⟩) _ zg6
  have FF:=lH ((FOH.out.nxb hb6 KB).lower K1.out.size)
  rw [← hwz]
  have q0:=BZ.cell 0 _ rfl
  have q1:=BZ.cell 1 _ rfl
  clear r0 r1 f0 f1 p0 p1 hwz
  refine bodyPost_ret (v:=.agg #[.slice aP F.peers.length cP,.slice aM F.msgs.length cM]) (by simp [results,Tryz.results39,go_sem, *]) rfl ⟨_,_,qs,rfl,by rw [ET.out];exact FF.out,KE⟩
 obtain ⟨j,rfl⟩:=Int.eq_ofNat_of_zero_le (show 0≤i by omega)
 by_cases hj:j<F.msgs.length
 case neg =>
  have ET:=lH (DO.out j (.inr (by omega)))
  have h1:(F.msgs.length:Int)≤(j:Int):=by omega
  have r0:=B6.cell 0 _ rfl
  have r1:=B6.cell 1 _ rfl
  have f0:=B6.free 0
  have f1:=B6.free 1
  have p0:=B7.cell 0 _ rfl
  have p1:=B7.cell 1 _ rfl
  have B8H:=lH B6
  clear h B6 B7
  go_wp2_with fail
  obtain ⟨wz,hwz⟩:∃ wz,wz=(w3.setCell ⟨g6,0,none⟩ (.slice aP F.peers.length cP)).setCell ⟨g6,1,none⟩ (.slice aM F.msgs.length cM):=⟨_,rfl⟩
  have BZ:Blk wz g6 [.slice aP F.peers.length cP,.slice aM F.msgs.length cM] 27:=by rw [hwz];exact (B8H.out.set 0 _).set 1 _
  have KB:Exb g6 w3 wz:=by rw [hwz];exact ((Exb.refl g6 _).setB (p:=⟨g6,0,none⟩) _ rfl).setB (p:=⟨g6,1,none⟩) _ rfl
  have KE:Ex w wz:=by rw [hwz];exact (K3.out.setNew (p:=⟨g6,0,none⟩) _ zg6).setNew (p:=⟨g6,1,none⟩) _ zg6
  have FF:=lH ((FOH.out.nxb hb6 KB).lower K1.out.size)
  rw [← hwz]
  have q0:=BZ.cell 0 _ rfl
  have q1:=BZ.cell 1 _ rfl
  clear r0 r1 f0 f1 p0 p1 hwz
  refine bodyPost_ret (v:=.agg #[.slice aP F.peers.length cP,.slice aM F.msgs.length cM]) (by simp [results,Tryz.results39,go_sem, *]) rfl ⟨_,_,qs,rfl,by rw [ET.out];exact FF.out,KE⟩
 clear h0 DO
 obtain ⟨gM,hgM,hgMb⟩:∃ gM,aM=some ⟨gM,0,none⟩∧w1.heap.size≤gM:=HGM.out (fun h0=>by rw [h0] at hj;simp at hj)
 subst hgM
 obtain ⟨q,hq⟩:∃ q,F.msgs.length=j+1+q:=⟨F.msgs.length-(j+1),by omega⟩
 have HQN:=lH hq
 clear hq
 clear HGM
 have h1:(j:Int)<(F.msgs.length:Int):=by omega
 have LTM:=lH (fun g' hg'=>(FOH.out.2.lt g' hg').2)
 obtain ⟨a',c',e',SLM,_,_⟩:=FOH.out.2.sl3 (fun _=>rfl)
 cases e'
 have SLMH:=lH SLM
 obtain ⟨x8,o8,m,he8,hx8,hmj,hc8⟩:=SLM.at hj
 have e0:=hc8 0 _ rfl
 have e1:=hc8 1 _ rfl
 cases he8
 rw [Nat.add_zero,Nat.zero_add] at e0
 rw [Nat.zero_add] at e1
 have DE:=lH (DA.out j m hmj)
 have p1:=B7.cell 1 _ rfl
 have hl7:=B7.lt
 clear hc8 hmj SLM DA
 have B8:=Blk.new w3 [.int .i64 m.1,.int .i64 m.2] 67
 have kk:=Ex.new w3 (.cells #[.int .i64 m.1,.int .i64 m.2] 67)
 obtain ⟨w4,hw4⟩:∃ w4,w4=w3.alloc (.cells #[.int .i64 m.1,.int .i64 m.2] 67):=⟨_,rfl⟩
 obtain ⟨g8,hg8⟩:∃ g8,g8=w3.heap.size:=⟨_,rfl⟩
 replace B8:Blk w4 g8 [.int .i64 m.1,.int .i64 m.2] 67:=by rw [hw4,hg8];exact B8
 rw [← hw4] at kk
 have Hw4:=lH hw4
 have Hg8:=lH hg8
 replace h:=h.nx kk
 replace B6:=B6.nx kk
 replace B7:=B7.nx kk
 replace FOH:=lH (FOH.out.nx kk)
 replace K3:=lH (K3.out.nx kk)
 replace K12:=lH (K12.out.nx kk)
 have zg8:w3.heap.size≤g8:=by omega
 have h68:¬ g6=g8:=by have:=B6.lt;have:=hb6;have:=hz12;omega
 have h87:¬ g8=g7:=by omega
 have hz34:=kk.size
 clear kk hw4 hg8
 go_upto_region 5 with fail
 rw [← Hg8.out,← Hw4.out]
 clear Hg8 Hw4
 clear e0 e1 p1
 have OMH:=lH FOH.out.2
 have EI:=lH (show F.msgs.eraseIdx j=F.msgs.take j++F.msgs.drop (j+1) from List.eraseIdx_eq_take_drop_succ F.msgs j)
 have jw:IntKind.i64.wrap ((j:Int)+1)=(j:Int)+1:=IntWalk.i64_in _ (by omega)
 have t1:((j:Int)+1).toNat=j+1:=by omega
 have b0:(0:Int)≤(j:Int):=by omega
 have b1:(0:Int)≤(j:Int)+1:=by omega
 have b2:(j:Int)≤(j:Int)+1:=by omega
 have b5:(j:Int)≤(cM:Int):=by omega
 have b6:(j:Int)+1≤(F.msgs.length:Int):=by omega
 have b7:(F.msgs.length:Int)≤(cM:Int):=by omega
 have t4:F.msgs.length-(j+1)=q:=by have:=HQN.out;omega
 have h7M:¬ g7=gM:=fun he=>by subst he;obtain ⟨_,_,e2⟩:=FOH.out.2.blk rfl;exact blk_kind (by decide) e2 B7
 have B6H:=lH B6
 have B7H:=lH B7
 have B8H:=lH B8
 clear h B6 B7 B8
 obtain ⟨MM,hMM⟩:∃ MM,MM=F.msgs.eraseIdx j:=⟨_,rfl⟩
 rw [← hMM] at DE EI
 clear hMM
 have CF:=lH (fun (wa:World) (OW9:OwnL 2 encS 67 w1.heap.size wa (.slice (some ⟨gM,0,none⟩) (j+q) cM) MM) (HC:Chg (fun x=>x<w4.heap.size∧¬ x=gM) w4 wa) (BQ:Blk wa g7 [.slice aP F.peers.length cP,.slice (some ⟨gM,0,none⟩) F.msgs.length cM] 27) =>
  show DlCut w1.heap.size g7 gM aP (some ⟨gM,0,none⟩) F.peers.length cP (j+q) cM qs ⟨F.peers,MM⟩ w4 (wa.setCell ⟨g7,1,none⟩ (.slice (some ⟨gM,0,none⟩) (j+q) cM)) from
   have FP:=FOH.out.1.oth FOH.out.2 (by decide) (by decide) (by decide) (Chg.mono HC (fun x hx=>⟨hx.1,fun he=>hx.2 (by rw [he];rfl)⟩))
   have kb:Exb g7 wa (wa.setCell ⟨g7,1,none⟩ (.slice (some ⟨gM,0,none⟩) (j+q) cM)):=(Exb.refl g7 _).setB (p:=⟨g7,1,none⟩) _ rfl
   ⟨⟨FP.putB BQ (by decide) (by decide) (by decide) kb,OW9.put BQ (by decide) kb⟩,BQ.set 1 _,Chg.trans (Chg.mono HC (fun x hx=>⟨hx.1,hx.2.1⟩)) (Chg.mono kb (fun x hx=>⟨Nat.lt_of_lt_of_le hx.1 HC.size,hx.2.2⟩))⟩)
 go_cut [] from 16 to 41 (fun wx=>DlCut w1.heap.size g7 gM aP (some ⟨gM,0,none⟩) F.peers.length cP (j+q) cM qs ⟨F.peers,MM⟩ w4 wx)
 case first =>
  by_cases hcap:cM=j+1
  ·have hq0:q=0:=by have:=HQN.out;omega
   have HR:Hid (Sl 2 encS w4 (some ⟨gM,0,none⟩) q (F.msgs.drop (j+1))):=lH (by
    rw [hq0,List.drop_of_length_le (by omega)]
    exact Sl.nil _ _ _ _)
   have b9:(F.msgs.length:Int)≤(j:Int)+1:=by omega
   subst hcap
   clear hq0
   refine wp_region_late_drew (S:=Ex w4) [9,11] (by kernel_rfl) ((Ex.refl w4).drew) (fun hHeld=>?_)
   obtain ⟨wd,hwdx⟩:∃ wd:World,wd=World.drew w4:=⟨_,rfl⟩
   rw [← hwdx] at hHeld ⊢
   have hDrew:Ex w4 wd:=by rw [hwdx];exact (Ex.refl w4).drew
   clear hwdx
   refine tkL 0 (v:=?_) rfl (by kernel_rfl) (fun _ _ _ h=>h) (by rfl) ?y5 hHeld ?_
   case y5=>intro wq hSw;go_simp<;>rfl
   try simp only [Act.put,sA,sB,sC]
   refine tkL 1 (v:=?_) rfl (by kernel_rfl) (fun _ _ _ h=>h) (by rfl) ?y8 hHeld ?_
   case y8=>intro wq hSw;(have cq:=(B7H.out.nx hSw).cell 1 _ rfl;go_simp)<;>rfl
   try simp only [Act.put,sA,sB,sC]
   refine tkL 2 (v:=?_) rfl (by kernel_rfl) (fun _ _ _ h=>h) (by rfl) ?y11 hHeld ?_
   case y11=>intro wq hSw;go_simp<;>rfl
   try simp only [Act.put,sA,sB,sC]
   refine tkL 3 (v:=?_) rfl (by kernel_rfl) (fun _ _ _ h=>h) (by rfl) ?y14 hHeld ?_
   case y14=>intro wq hSw;go_simp<;>rfl
   try simp only [Act.put,sA,sB,sC]
   refine tkL 4 (v:=?_) rfl (by kernel_rfl) (fun _ _ _ h=>h) (by rfl) ?y17 hHeld ?_
   case y17=>intro wq hSw;go_simp<;>rfl
   try simp only [Act.put,sA,sB,sC]
   refine tkL 5 (v:=?_) rfl (by kernel_rfl) (fun _ _ _ h=>h) (by rfl) ?y20 hHeld ?_
   case y20=>intro wq hSw;(have cq:=(B7H.out.nx hSw).cell 1 _ rfl;go_simp)<;>rfl
   try simp only [Act.put,sA,sB,sC]
   refine tkL 6 (v:=?_) rfl (by kernel_rfl) (fun _ _ _ h=>h) (by rfl) ?y23 hHeld ?_
   case y23=>intro wq hSw;go_simp<;>rfl
   try simp only [Act.put,sA,sB,sC]
   refine tkL 7 (v:=?_) rfl (by kernel_rfl) (fun _ _ _ h=>h) (by rfl) ?y26 hHeld ?_
   case y26=>intro wq hSw;go_simp<;>rfl
   try simp only [Act.put,sA,sB,sC]
   refine tkL 8 (v:=?_) rfl (by kernel_rfl) (fun _ _ _ h=>h) (by rfl) ?y29 hHeld ?_
   case y29=>intro wq hSw;go_simp<;>rfl
   try simp only [Act.put,sA,sB,sC]
   refine rLL 9 (by kernel_rfl) rfl (by rfl) fun K hK=>?_
   rw [if_pos (by rfl)]
   refine wp_append_room (enc:=encS) (.tmp 34) (.tmp 39) 25 rfl (.agg #[.int .i64 0,.int .i64 0]) 16 Tryz.underlying25 Tryz.infoIoD (OMH.out.nx hDrew) j (by omega) rfl ⟨gM,0,none⟩ q _ (F.msgs.drop (j+1)) (HR.out.nx hDrew) (fun _=>rfl) (by simp [encS,Value.oneCell']) (by omega) rfl (by have:=HQN.out;omega) ?_
   intro wa own9 ch0
   have HC:=lH (show Chg (fun x=>x<w4.heap.size∧¬ x=gM) w4 wa from Chg.trans (Chg.mono hDrew (fun x hx=>hx.1)) (ch0.mono (fun x hx=>⟨Nat.lt_of_lt_of_le hx.1 hDrew.size,hx.2⟩)))
   rw [← EI.out] at own9
   have OW9:=lH own9
   have BQ:=lH (B7H.out.chg HC.out ⟨B7H.out.lt,h7M⟩)
   clear ch0 own9
   refine hK.out _ _ ?_
   clear hK K
   try simp only [Act.put,sA,sB,sC]
   refine wpAnyL_takeP (i:=10) (oi:=⟨_,_,_,_,_,_⟩) (v:=?_) rfl (by kernel_rfl) (by kernel_rfl) (by kernel_rfl) (fun _ _ _ h=>h) (Or.inl ⟨by rfl,?y45⟩) ?_
   case y45=>intro wq hSw;go_simp<;>rfl
   try simp only [Act.put,sA,sB,sC]
   refine rLL 11 (by kernel_rfl) rfl (by rfl) fun K hK=>?_
   have cq:=BQ.out.cell 1 _ rfl
   have fq:=BQ.out.free 1
   go_simp
   clear cq fq
   refine hK.out _ _ ?_
   clear hK K
   try simp only [Act.put,sA,sB,sC]
   refine wpAnyL_done (by kernel_rfl) ?_ _
   have CU:=lH (CF.out wa OW9.out HC.out BQ.out)
   clear OW9 HC BQ hHeld hDrew
   go_wp2_with fail
   go_meet
   exact CU.out
  ·have HR:Hid (Sl 2 encS w4 (some ⟨gM,(j+1)*2,none⟩) q (F.msgs.drop (j+1))):=lH (by
    obtain ⟨a',c',e',r',_,_⟩:=OMH.out.sl3 (fun _=>rfl)
    cases e'
    have:=Sl.drop r' (m:=j+1) (by omega)
    rw [Nat.zero_add,t4] at this
    exact this)
   have hcap2:¬ j+1=cM:=fun h=>hcap h.symm
   refine wp_region_late_drew (S:=Ex w4) [9,11] (by kernel_rfl) ((Ex.refl w4).drew) (fun hHeld=>?_)
   obtain ⟨wd,hwdx⟩:∃ wd:World,wd=World.drew w4:=⟨_,rfl⟩
   rw [← hwdx] at hHeld ⊢
   have hDrew:Ex w4 wd:=by rw [hwdx];exact (Ex.refl w4).drew
   clear hwdx
   refine tkL 0 (v:=?_) rfl (by kernel_rfl) (fun _ _ _ h=>h) (by rfl) ?y5 hHeld ?_
   case y5=>intro wq hSw;go_simp<;>rfl
   try simp only [Act.put,sA,sB,sC]
   refine tkL 1 (v:=?_) rfl (by kernel_rfl) (fun _ _ _ h=>h) (by rfl) ?y8 hHeld ?_
   case y8=>intro wq hSw;(have cq:=(B7H.out.nx hSw).cell 1 _ rfl;go_simp)<;>rfl
   try simp only [Act.put,sA,sB,sC]
   refine tkL 2 (v:=?_) rfl (by kernel_rfl) (fun _ _ _ h=>h) (by rfl) ?y11 hHeld ?_
   case y11=>intro wq hSw;go_simp<;>rfl
   try simp only [Act.put,sA,sB,sC]
   refine tkL 3 (v:=?_) rfl (by kernel_rfl) (fun _ _ _ h=>h) (by rfl) ?y14 hHeld ?_
   case y14=>intro wq hSw;go_simp<;>rfl
   try simp only [Act.put,sA,sB,sC]
   refine tkL 4 (v:=?_) rfl (by kernel_rfl) (fun _ _ _ h=>h) (by rfl) ?y17 hHeld ?_
   case y17=>intro wq hSw;go_simp<;>rfl
   try simp only [Act.put,sA,sB,sC]
   refine tkL 5 (v:=?_) rfl (by kernel_rfl) (fun _ _ _ h=>h) (by rfl) ?y20 hHeld ?_
   case y20=>intro wq hSw;(have cq:=(B7H.out.nx hSw).cell 1 _ rfl;go_simp)<;>rfl
   try simp only [Act.put,sA,sB,sC]
   refine tkL 6 (v:=?_) rfl (by kernel_rfl) (fun _ _ _ h=>h) (by rfl) ?y23 hHeld ?_
   case y23=>intro wq hSw;go_simp<;>rfl
   try simp only [Act.put,sA,sB,sC]
   refine tkL 7 (v:=?_) rfl (by kernel_rfl) (fun _ _ _ h=>h) (by rfl) ?y26 hHeld ?_
   case y26=>intro wq hSw;go_simp<;>rfl
   try simp only [Act.put,sA,sB,sC]
   refine tkL 8 (v:=?_) rfl (by kernel_rfl) (fun _ _ _ h=>h) (by rfl) ?y29 hHeld ?_
   case y29=>intro wq hSw;go_simp<;>rfl
   try simp only [Act.put,sA,sB,sC]
   refine rLL 9 (by kernel_rfl) rfl (by rfl) fun K hK=>?_
   rw [if_pos (by rfl)]
   refine wp_append_room (enc:=encS) (.tmp 34) (.tmp 39) 25 rfl (.agg #[.int .i64 0,.int .i64 0]) 16 Tryz.underlying25 Tryz.infoIoD (OMH.out.nx hDrew) j (by omega) rfl ⟨gM,(j+1)*2,none⟩ q _ (F.msgs.drop (j+1)) (HR.out.nx hDrew) (fun _=>rfl) (by simp [encS,Value.oneCell']) (by omega) rfl (by have:=HQN.out;omega) ?_
   intro wa own9 ch0
   have HC:=lH (show Chg (fun x=>x<w4.heap.size∧¬ x=gM) w4 wa from Chg.trans (Chg.mono hDrew (fun x hx=>hx.1)) (ch0.mono (fun x hx=>⟨Nat.lt_of_lt_of_le hx.1 hDrew.size,hx.2⟩)))
   rw [← EI.out] at own9
   have OW9:=lH own9
   have BQ:=lH (B7H.out.chg HC.out ⟨B7H.out.lt,h7M⟩)
   clear ch0 own9
   refine hK.out _ _ ?_
   clear hK K
   try simp only [Act.put,sA,sB,sC]
   refine wpAnyL_takeP (i:=10) (oi:=⟨_,_,_,_,_,_⟩) (v:=?_) rfl (by kernel_rfl) (by kernel_rfl) (by kernel_rfl) (fun _ _ _ h=>h) (Or.inl ⟨by rfl,?y45⟩) ?_
   case y45=>intro wq hSw;go_simp<;>rfl
   try simp only [Act.put,sA,sB,sC]
   refine rLL 11 (by kernel_rfl) rfl (by rfl) fun K hK=>?_
   have cq:=BQ.out.cell 1 _ rfl
   have fq:=BQ.out.free 1
   go_simp
   clear cq fq
   refine hK.out _ _ ?_
   clear hK K
   try simp only [Act.put,sA,sB,sC]
   refine wpAnyL_done (by kernel_rfl) ?_ _
   have CU:=lH (CF.out wa OW9.out HC.out BQ.out)
   clear OW9 HC BQ hHeld hDrew
   go_wp2_with fail
   go_meet
   exact CU.out
 case rest =>
  obtain ⟨FO5,B7,k5⟩:=hcut
  rename World=>wz
  replace FOH:=lH FO5
  have h6M:¬ g6=gM:=by omega
  have h8M:¬ g8=gM:=fun he=>by have:=LTM.out g8 (by rw [he];rfl);omega
  have B6:=B6H.out.chg k5 ⟨B6H.out.lt,h6M,h67⟩
  have B8:=B8H.out.chg k5 ⟨B8H.out.lt,h8M,h87⟩
  have zw7:w.heap.size≤g7:=by have:=K1.out.size;omega
  have KZ:=lH (show Ex w wz from Chg.trans K3.out (k5.mono (fun x hx=>⟨Nat.lt_of_lt_of_le hx K3.out.size,fun hh=>by have:=K1.out.size;omega,fun hh=>by omega⟩)))
  have h:=HS0.out.nx KZ.out
  have hz5:w2.heap.size≤wz.heap.size:=by have:=k5.size;omega
  clear k5 FO5 K3 K12 EI jw t1 b0 b1 b2 b5 b6 b7 t4 LTM B6H B7H B8H CF OMH
  have y1:=B8.cell 1 _ rfl
  go_wp2_with fail
  (with_reducible refine (find_r _ _ _ _ m.2 _ h (by omega)).mono ?_)
  rintro e w6 ⟨rfl,kk⟩
  replace h:=h.nx kk
  replace B6:=B6.nx kk
  replace B7:=B7.nx kk
  replace B8:=B8.nx kk
  replace FOH:=lH (FOH.out.nx kk)
  replace KZ:=lH (KZ.out.nx kk)
  have hz56:=kk.size
  clear kk y1
  obtain ⟨G,hG⟩:∃ G,G=findN N m.2:=⟨_,rfl⟩
  rw [← hG] at DE ⊢
  clear hG
  obtain ⟨⟨xi,xk,xw⟩,ok⟩:=G
  have B9:=Blk.new w6 [.int .i64 xi,.string xk,.int .u32 xw] 49
  have kk:=Ex.new w6 (.cells #[.int .i64 xi,.string xk,.int .u32 xw] 49)
  obtain ⟨w7,hw7⟩:∃ w7,w7=w6.alloc (.cells #[.int .i64 xi,.string xk,.int .u32 xw] 49):=⟨_,rfl⟩
  obtain ⟨g9,hg9⟩:∃ g9,g9=w6.heap.size:=⟨_,rfl⟩
  replace B9:Blk w7 g9 [.int .i64 xi,.string xk,.int .u32 xw] 49:=by rw [hw7,hg9];exact B9
  rw [← hw7] at kk
  have Hw7:=lH hw7
  have Hg9:=lH hg9
  replace h:=h.nx kk
  replace B6:=B6.nx kk
  replace B7:=B7.nx kk
  replace B8:=B8.nx kk
  replace FOH:=lH (FOH.out.nx kk)
  replace KZ:=lH (KZ.out.nx kk)
  have hz67:=kk.size
  clear kk hw7 hg9
  simp only [Nd.val]
  go_upto_region 7 with fail
  rw [← Hg9.out,← Hw7.out]
  clear Hg9 Hw7
  have ET:Hid (delF N ⟨P,M⟩ j=⟨updF (tlN N m ok) F.peers F.peers.length,MM⟩):=lH (by rw [DE.out,updF_all,tl_all])
  have R0:=lH (show DlfRel N m ok F MM g6 g7 g8 aP (some ⟨gM,0,none⟩) cP (j+q) cM w1.heap.size w (.int .i64 0) w7 from ⟨0,qs,by omega,rfl,B7,by rw [updF_zero];exact FOH.out,B6,B8,KZ.out,by omega⟩)
  clear h B6 B7 B8 B9 FOH KZ DE
  go_wp2_with fail
  go_loopw [11] (fun i wr=>DlfRel N m ok F MM g6 g7 g8 aP (some ⟨gM,0,none⟩) cP (j+q) cM w1.heap.size w i wr) (fun i _=>F.peers.length-(intOf i).toNat)
  case atStart=>exact R0.out
  case round =>
   clear R0
   obtain ⟨k,qs,hk,rfl,B7,FO,B6,B8,kw,zwi⟩:=hrel
   obtain ⟨wi,rfl⟩:∃ wi:World,wi=wr:=⟨_,rfl⟩
   have KW:=lH kw
   have FOH:=lH FO
   have zw:=kw.size
   clear kw FO
   by_cases hkn:k<F.peers.length
   ·have hkI:(k:Int)<(F.peers.length:Int):=by omega
    obtain ⟨y,hyF⟩:∃ y,F.peers[k]?=some y:=⟨F.peers[k]'hkn,by simp⟩
    have hyk:(updF (tlN N m ok) F.peers k)[k]?=some y:=updF_get hyF
    have HYK:=lH hyk
    have HYF:=lH hyF
    have hyP:=CS.out y (List.mem_of_getElem? hyF)
    obtain ⟨⟨A1,m1,c1⟩,⟨A4,m4,c4⟩,hqs,oK,oN⟩:=FOH.out.1.get HYK.out
    obtain ⟨g,hge,hgb⟩:=HGP.out (fun h0=>by rw [h0] at hkn;simp at hkn)
    subst hge
    have e0:wi.cell? ⟨g,k*5,none⟩=some (.int .i64 y.id):=(OwnW.set1 encQ_len FOH.out.1.1 hqs (c:=0) (by omega)).1
    have p0:=B7.cell 0 _ rfl
    have y0:=B8.cell 0 _ rfl
    have y1:=B8.cell 1 _ rfl
    have HQ:=lH hqs
    have OK:=lH oK
    have RF:=lH (fun (ht:tlN N m ok y=y)=>show DlfRel N m ok F MM g6 g7 g8 (some ⟨g,0,none⟩) (some ⟨gM,0,none⟩) cP (j+q) cM w1.heap.size w (.int .i64 ((k:Int)+1)) wi from ⟨k+1,qs,by omega,by go_num,B7,by rw [updF_same HYF.out ht];exact FOH.out,B6,B8,KW.out,zwi⟩)
    have B6H:=lH B6
    have B7H:=lH B7
    have B8H:=lH B8
    clear B6 B7 B8 hqs oK oN hyk hyF
    by_cases hall:ok=true∧y.id=m.1∧m.1≠m.2
    case neg =>
     have RR:=lH (RF.out (tl_no hall))
     clear RF
     by_cases h1:ok=true
     ·subst h1
      by_cases h2:y.id=m.1
      ·have d1:(y.id==m.1)=true:=by simpa using h2
       have d2:(m.1 != m.2)=false:=by
        by_cases h3:m.1=m.2
        ·simpa using h3
        ·exact absurd ⟨rfl,h2,h3⟩ hall
       clear hall h2
       go_wp2_with fail
       go_quiet (fail)
       go_wp2_with fail
       exact ⟨RR.out.nx ((Ex.refl _).drewN _),by simp [intOf];omega⟩
      ·have d1:(y.id==m.1)=false:=by simpa using h2
       clear hall h2
       go_wp2_with fail
       go_quiet (fail)
       go_wp2_with fail
       exact ⟨RR.out.nx ((Ex.refl _).drewN _),by simp [intOf];omega⟩
     ·obtain rfl:ok=false:=by simpa using h1
      clear hall h1
      go_wp2_with fail
      go_quiet (fail)
      go_wp2_with fail
      exact ⟨RR.out.nx ((Ex.refl _).drewN _),by simp [intOf];omega⟩
    clear RF
    obtain ⟨rfl,hyi,hne⟩:=hall
    have d1:(y.id==m.1)=true:=by simpa using hyi
    have d2:(m.1 != m.2)=true:=by simpa using hne
    have TY:=lH (tl_yes (N:=N) hyi hne)
    clear hyi hne
    go_wp2_with fail
    go_quiet (fail)
    go_upto_region 12 with fail
    obtain ⟨w8,hw8⟩:∃ w8,w8=World.drewN wi nq:=⟨_,rfl⟩
    rw [← hw8]
    have kk:Ex wi w8:=by rw [hw8];exact (Ex.refl _).drewN _
    replace KW:=lH (KW.out.nx kk)
    replace FOH:=lH (FOH.out.nx kk)
    replace OK:=lH (OK.out.nx kk)
    replace B6H:=lH (B6H.out.nx kk)
    replace B7H:=lH (B7H.out.nx kk)
    replace B8H:=lH (B8H.out.nx kk)
    have zw8:w1.heap.size≤w8.heap.size:=Nat.le_trans zwi kk.size
    clear kk hw8 e0 p0 y0 y1 d1 d2
    refine wp_region_late_drew (S:=(fun x=>Chg (fun k=>k<w8.heap.size∧¬ (Hdr.val (A1,m1,c1)).ownBlock=some k) w8 x)) [17] (by kernel_rfl) (Chg.mono (Ex.refl w8).drew (fun k hk=>hk.1)) (fun hHeld=>?_)
    obtain ⟨wd,hwdx⟩:∃ wd:World,wd=World.drew w8:=⟨_,rfl⟩
    rw [← hwdx] at hHeld ⊢
    have hDrew:Ex w8 wd:=by rw [hwdx];exact (Ex.refl w8).drew
    clear hwdx
    refine tkL 0 (v:=?_) rfl (by kernel_rfl) (fun _ _ _ h=>h) (by rfl) ?y5 hHeld ?_
    case y5=>intro wq hSw;go_simp<;>rfl
    try simp only [Act.put,sA,sB,sC]
    refine tkL 1 (v:=?_) rfl (by kernel_rfl) (fun _ _ _ h=>h) (by rfl) ?y8 hHeld ?_
    case y8=>intro wq hSw;go_simp<;>rfl
    try simp only [Act.put,sA,sB,sC]
    refine tkL 2 (v:=?_) rfl (by kernel_rfl) (fun _ _ _ h=>h) (by rfl) ?y11 hHeld ?_
    case y11=>intro wq hSw;go_simp<;>rfl
    try simp only [Act.put,sA,sB,sC]
    refine tkL 3 (v:=?_) rfl (by kernel_rfl) (fun _ _ _ h=>h) (by rfl) ?y14 hHeld ?_
    case y14=>intro wq hSw;go_simp<;>rfl
    try simp only [Act.put,sA,sB,sC]
    refine tkL 4 (v:=?_) rfl (by kernel_rfl) (fun _ _ _ h=>h) (by rfl) ?y17 hHeld ?_
    case y17=>intro wq hSw;go_simp<;>rfl
    try simp only [Act.put,sA,sB,sC]
    refine tkL 5 (v:=?_) rfl (by kernel_rfl) (fun _ _ _ h=>h) (by rfl) ?y20 hHeld ?_
    case y20=>intro wq hSw;(have cq:=(FOH.out.1.rowc (by decide) HQ.out hSw).1;simp only [Hdr.val] at cq;go_simp)<;>rfl
    try simp only [Act.put,sA,sB,sC]
    refine tkL 6 (v:=?_) rfl (by kernel_rfl) (fun _ _ _ h=>h) (by rfl) ?y23 hHeld ?_
    case y23=>intro wq hSw;go_simp<;>rfl
    try simp only [Act.put,sA,sB,sC]
    refine tkL 7 (v:=?_) rfl (by kernel_rfl) (fun _ _ _ h=>h) (by rfl) ?y26 hHeld ?_
    case y26=>intro wq hSw;(have cq:=(B8H.out.app OK.out (by decide) hSw).cell 1 _ rfl;go_simp)<;>rfl
    try simp only [Act.put,sA,sB,sC]
    refine tkL 10 (v:=?_) rfl (by kernel_rfl) (fun _ _ _ h=>h) (by rfl) ?y29 hHeld ?_
    case y29=>intro wq hSw;go_simp<;>rfl
    try simp only [Act.put,sA,sB,sC]
    refine tkL 11 (v:=?_) rfl (by kernel_rfl) (fun _ _ _ h=>h) (by rfl) ?y32 hHeld ?_
    case y32=>intro wq hSw;go_simp<;>rfl
    try simp only [Act.put,sA,sB,sC]
    refine tkL 12 (v:=?_) rfl (by kernel_rfl) (fun _ _ _ h=>h) (by rfl) ?y35 hHeld ?_
    case y35=>intro wq hSw;go_simp<;>rfl
    try simp only [Act.put,sA,sB,sC]
    refine tkL 13 (v:=?_) rfl (by kernel_rfl) (fun _ _ _ h=>h) (by rfl) ?y38 hHeld ?_
    case y38=>intro wq hSw;(have cq:=FOH.out.1.rowi (by decide) HQ.out hSw;go_simp)<;>rfl
    try simp only [Act.put,sA,sB,sC]
    refine rL 8 (by kernel_rfl) rfl fun K hK=>?_
    go_simp
    obtain ⟨gx,wq,hgx,hwq,SX,kk⟩:=litF (wp:=w8) (u:=wd) hDrew.size m.2
    rw [← hgx,← hwq]
    clear hgx hwq
    have H5:=hDrew.nx kk
    replace hHeld:Chg (fun k=>k<w8.heap.size∧¬ (Hdr.val (A1,m1,c1)).ownBlock=some k) w8 wq:=Chg.mono H5 (fun k hk=>hk.1)
    clear kk
    refine hK.out _ _ (hHeld) (fun hHeld=>?_)
    clear hK K
    try simp only [Act.put,sA,sB,sC]
    refine rL 9 (by kernel_rfl) rfl fun K hK=>?_
    rw [if_pos (by rfl)]
    have rx:=OK.out.nx H5
    simp only [Hdr.val] at rx
    have zbase:w1.heap.size≤wq.heap.size:=by have:=H5.size;omega
    refine wp_append_rda (enc:=encI) _ (.tmp 82) (.tmp 85) 22 rfl w1.heap.size 3 (.int .i64 0) 1 8 Tryz.underlying22 Tryz.infoI6 rfl (by omega) (by omega) _ y.known rx rfl _ _ 1 1 [m.2] SX (fun h=>by cases h) (fun _=>rfl) (by simp [encI,Value.oneCell']) rfl (by omega) (by omega) zbase ?_
    intro va wa A ch0 ch1 hva
    obtain ⟨LL,hLL⟩:∃ LL,LL=y.known++[m.2]:=⟨_,rfl⟩
    rw [← hLL] at A
    have HLL:=lH hLL
    clear hLL
    obtain ⟨A9,C9,rfl,SA,_,_,_⟩:=A.rd (fun _=>rfl)
    replace hHeld:Chg (fun k=>k<w8.heap.size∧¬ (Hdr.val (A1,m1,c1)).ownBlock=some k) w8 wa:=Chg.trans hHeld (ch0.mono (fun x hx=>⟨Nat.lt_of_lt_of_le hx.1 H5.size,hx.2⟩))
    have HA:=lH hHeld
    have KA:=lH (show Ex w wa from Chg.trans (KW.out.nx H5) (ch1.mono (fun x hx=>Nat.lt_of_lt_of_le hx K1.out.size)))
    have SA2:Sl 1 encI wa A9 LL.length LL:=Rd.mono SA (fun _ hk=>hk.2)
    have hLLn:LL.length≤4000000000000000000:=by rw [HLL.out];simp;omega
    clear ch0 ch1 hva rx H5 zbase SX SA A
    refine hK.out _ _ (hHeld) (fun hHeld=>?_)
    clear hK K
    try simp only [Act.put,sA,sB,sC]
    refine rL 14 (by kernel_rfl) rfl fun K hK=>?_
    go_simp
    (with_reducible refine (ordered_r _ _ _ N _ _ _ LL y.id _ (HS0.out.nx KA.out) hn SA2 hLLn).mono ?_)
    rintro e wb ⟨vK,rfl,oR,kk⟩
    obtain ⟨aK,cK,rfl,_⟩:=oR.rd (fun _=>rfl)
    have hza:=hHeld.size
    have HB:Chg (fun k=>k<w8.heap.size∧¬ (Hdr.val (A1,m1,c1)).ownBlock=some k) w8 wb:=Chg.trans hHeld (Chg.mono kk (fun x hx=>Nat.lt_of_lt_of_le hx.1 hza))
    obtain ⟨s1,s2,O9⟩:=FOH.out.1.growK (hk':=(aK,(ordN N LL y.id).length,cK)) (by decide) (by decide) (by decide) HQ.out HYK.out (oR.base (by omega)) HB (fun g' hg'=>.inr (by have:=(oR.lt g' hg').1;omega))
    simp only [Hdr.val] at s1 O9
    have OWN5:=lH O9
    have KB:=lH (KA.out.nx kk)
    have HBH:=lH HB
    replace hHeld:=HB
    clear HB O9 kk oR SA2 hLLn
    refine hK.out _ _ (hHeld) (fun hHeld=>?_)
    clear hK K
    try simp only [Act.put,sA,sB,sC]
    refine tkL 15 (v:=?_) rfl (by kernel_rfl) (fun _ _ _ h=>h) (by rfl) ?y93 hHeld ?_
    case y93=>intro wq hSw;go_simp<;>rfl
    try simp only [Act.put,sA,sB,sC]
    refine tkL 16 (v:=?_) rfl (by kernel_rfl) (fun _ _ _ h=>h) (by rfl) ?y96 hHeld ?_
    case y96=>intro wq hSw;go_simp<;>rfl
    try simp only [Act.put,sA,sB,sC]
    refine rLL 17 (by kernel_rfl) rfl (by rfl) fun K hK=>?_
    go_simp
    refine hK.out _ _ ?_
    clear hK K
    try simp only [Act.put,sA,sB,sC]
    refine wpAnyL_done (by kernel_rfl) ?_ _
    obtain ⟨wy,hwy⟩:∃ wy,wy=wb.setCell ⟨g,k*5+1,none⟩ (.slice aK (ordN N LL y.id).length cK):=⟨_,rfl⟩
    rw [← hwy]
    obtain ⟨qz,own5⟩:∃ qz,OwnPr w1.heap.size wy (.slice (some ⟨g,0,none⟩) F.peers.length cP) qz ((updF (tlN N m true) F.peers k).set k { y with known:=ordN N LL y.id }):=⟨_,by rw [hwy];exact OWN5.out⟩
    have ch:Chg (fun x=>x<wb.heap.size∧¬ x=g) wb wy:=by rw [hwy];exact set_chg wb _
    have B8b:=B8H.out.app OK.out (by decide) HBH.out
    have B7b:=B7H.out.app OK.out (by decide) HBH.out
    have B6b:=B6H.out.app OK.out (by decide) HBH.out
    have FMb:=OwnL.app FOH.out.2 OK.out (by decide) HBH.out
    have rowb:=FOH.out.1.1.chg HBH.out (fun x hx hv=>⟨hx,fun hh=>FOH.out.1.neI (by decide) HQ.out hh hv⟩)
    have h7g:¬ g7=g:=fun he=>by subst he;obtain ⟨_,_,e2⟩:=rowb.blk rfl;exact blk_kind (by decide) e2 B7b
    have h8g:¬ g8=g:=fun he=>by subst he;obtain ⟨_,_,e2⟩:=rowb.blk rfl;exact blk_kind (by decide) e2 B8b
    have h6g:¬ g6=g:=by omega
    have FMy:=FMb.chg ch (fun x hx hv=>⟨hx,fun he=>by subst he;obtain ⟨_,_,e1⟩:=FMb.blk hv;obtain ⟨_,_,e2⟩:=rowb.blk rfl;exact blk_kind (by decide) e2 e1⟩)
    have RR:=lH (show DlfRel N m true F MM g6 g7 g8 (some ⟨g,0,none⟩) (some ⟨gM,0,none⟩) cP (j+q) cM w1.heap.size w (.int .i64 ((k:Int)+1)) wy from ⟨k+1,qz,by omega,by go_num,B7b.chg ch ⟨B7b.lt,h7g⟩,by rw [updF_succ HYF.out,TY.out,← HLL.out];exact ⟨own5,FMy⟩,B6b.chg ch ⟨B6b.lt,h6g⟩,B8b.chg ch ⟨B8b.lt,h8g⟩,Chg.trans KB.out (ch.mono (fun x hx=>⟨Nat.lt_of_lt_of_le hx KB.out.size,fun he=>by have:=K1.out.size;omega⟩)),by have a1:=ch.size;have a2:=HBH.out.size;omega⟩)
    clear s1 s2 hwy own5 ch FMy OWN5 B6b B7b B8b FMb rowb hHeld hDrew
    go_wp2_with fail
    exact ⟨RR.out,by simp [intOf];omega⟩
   ·obtain rfl:k=F.peers.length:=by omega
    have hkI:¬ (F.peers.length:Int)<(F.peers.length:Int):=by omega
    have r0:=B6.cell 0 _ rfl
    have r1:=B6.cell 1 _ rfl
    have f0:=B6.free 0
    have f1:=B6.free 1
    have p0:=B7.cell 0 _ rfl
    have p1:=B7.cell 1 _ rfl
    have B8H:=lH B6
    clear B6 B7
    go_wp2_with fail
    obtain ⟨wz,hwz⟩:∃ wz,wz=(wi.setCell ⟨g6,0,none⟩ (.slice aP F.peers.length cP)).setCell ⟨g6,1,none⟩ (.slice (some ⟨gM,0,none⟩) (j+q) cM):=⟨_,rfl⟩
    have BZ:Blk wz g6 [.slice aP F.peers.length cP,.slice (some ⟨gM,0,none⟩) (j+q) cM] 27:=by rw [hwz];exact (B8H.out.set 0 _).set 1 _
    have KB:Exb g6 wi wz:=by rw [hwz];exact ((Exb.refl g6 _).setB (p:=⟨g6,0,none⟩) _ rfl).setB (p:=⟨g6,1,none⟩) _ rfl
    have KE:Ex w wz:=by rw [hwz];exact (KW.out.setNew (p:=⟨g6,0,none⟩) _ zg6).setNew (p:=⟨g6,1,none⟩) _ zg6
    have FF:=lH ((FOH.out.nxb hb6 KB).lower K1.out.size)
    rw [← hwz]
    have q0:=BZ.cell 0 _ rfl
    have q1:=BZ.cell 1 _ rfl
    clear r0 r1 f0 f1 p0 p1 hwz
    refine bodyPost_ret (v:=.agg #[.slice aP F.peers.length cP,.slice (some ⟨gM,0,none⟩) (j+q) cM]) (by simp [results,Tryz.results39,go_sem, *]) rfl ⟨_,_,_,rfl,by rw [ET.out];exact FF.out,KE⟩
theorem del_fewR {N:List Nd} {f:Fl} (hN:N.length≤1000) (h:FewR f.peers) (k:Int):FewR (delF N f k).peers:=by
 have hc:FewR (copF N f).peers:=cop_few2 h
 unfold delF
 split
 ·split
  ·exact hc
  ·split
   ·intro p hp
    obtain ⟨q,hq,rfl⟩:=List.mem_map.1 hp
    have h1:=hc q hq
    unfold tellP
    split
    ·refine ⟨?_,h1.2⟩
     have:=ord_len (N:=N) (q.known++[(‹Int×Int›).2]) q.id
     show (ordN N _ _).length≤_
     omega
    ·exact h1
   ·exact hc
 ·exact hc
theorem tick_fewR {N:List Nd} {f:Fl} (hN:N.length≤1000) (h:FewR f.peers) (id hh:Int):FewR (tickF N f id hh).peers:=by
 have hc:FewR (copF N f).peers:=cop_few2 h
 unfold tickF
 split
 ·rename_i hl
  intro p hp
  obtain ⟨q,hq,rfl⟩:=List.mem_map.1 hp
  have h1:=hc q hq
  split
  ·have h3:=ord_len (N:=N) [(keepN N q).1,(keepN N q).2] q.id
   have h4:=nextB_len N (peerN (copF N f).peers) q hh.toNat
   have h5:=hl.1
   unfold lvlN at h5
   simp at h5
   refine ⟨?_,?_⟩
   ·show (ordN N _ _).length≤_
    omega
   ·show (nextB N _ _ _).length≤_
    omega
  ·exact h1
 ·exact hc
def Rr1 (N:List Nd) (ms:List Int) (target:Fl) (g10 g11:Nat) (w:World) (tot:Nat) (v12:Value) (wr:World):Prop :=
 ∃ (i:Nat) (aP:Option Addr) (cP:Nat) (aM:Option Addr) (cM:Nat) (qs:List PQ) (F:Fl),v12=.int .i64 i∧F.msgs.length+i=tot∧Blk wr g11 [.slice aP F.peers.length cP,.slice aM F.msgs.length cM] 27 ∧
  FlOwn w.heap.size wr (.slice aP F.peers.length cP) (.slice aM F.msgs.length cM) qs F∧Blk wr g10 [.slice none 0 0,.slice none 0 0] 27∧Ex w wr∧FewR F.peers∧F.peers.length≤1000∧delAllF N ms F.msgs.length i F=target
def Rr2 (N:List Nd) (ts:List Int) (m:Nat) (target:Fl) (g10 g11:Nat) (w:World) (tot:Nat) (vL v14:Value) (wr:World):Prop :=
 ∃ (i:Nat) (aP:Option Addr) (cP:Nat) (aM:Option Addr) (cM:Nat) (qs:List PQ) (F:Fl) (L:List Int),v14=.int .i64 i∧L.length+i=tot∧OwnL 1 encI 3 w.heap.size wr vL L∧Blk wr g11 [.slice aP F.peers.length cP,.slice aM F.msgs.length cM] 27 ∧
  FlOwn w.heap.size wr (.slice aP F.peers.length cP) (.slice aM F.msgs.length cM) qs F∧Blk wr g10 [.slice none 0 0,.slice none 0 0] 27∧Ex w wr∧FewR F.peers∧F.peers.length≤1000∧F.msgs.length≤i*128∧tickAllF N ts m L.length i L F=target
theorem del_all_step {N:List Nd} {ms:List Int} {i n:Nat} {F:Fl} (h:F.msgs.length=n+1):delAllF N ms F.msgs.length i F=delAllF N ms n (i+1) (delF N F (pickN ms i F.msgs.length:Nat)):=by
 rw [h];rfl
theorem tick_all_step {N:List Nd} {ts L:List Int} {i n p:Nat} {m y:Int} {F:Fl} (h:L.length=n+1) (hp:p=pickN ts i L.length) (hy:L[p]?=some y):tickAllF N ts m L.length i L F=tickAllF N ts m n (i+1) (L.eraseIdx p) (tickF N F y m):=by
 subst hp
 rw [h] at hy ⊢
 show tickAllF N ts m n (i+1) (L.eraseIdx (pickN ts i (n+1))) (tickF N F (L[pickN ts i (n+1)]?.getD 0) m)=_
 rw [hy]
 rfl
set_option maxRecDepth 100000 in
set_option maxHeartbeats 16000000 in
theorem round_r19 (a:Option Addr) (n c:Nat) (N:List Nd) (a2:Option Addr) (n2 c2:Nat) (P:List Pr) (a3:Option Addr) (n3 c3:Nat) (M:List (Int×Int)) (a4:Option Addr) (n4 c4:Nat) (ms:List Int) (a5:Option Addr) (n5 c5:Nat) (ts:List Int) (hh:Int) (w:World) (h:Sl 3 encN w a n N) (hn:n≤1000) (hw:∀ x∈N,x.word<4294967296)
  (h2:PL w a2 n2 P) (hn2:n2≤1000000) (hP:FewR P) (h3:Sl 2 encS w a3 n3 M) (hn3:n3≤100000) (h4:Sl 1 encI w a4 n4 ms) (h5:Sl 1 encI w a5 n5 ts) :
  Calls Tryz.prog 43 #[.slice a n c,.agg #[.slice a2 n2 c2,.slice a3 n3 c3],.slice a4 n4 c4,.slice a5 n5 c5,.int .i64 hh] w (FlPost (roundF N ⟨P,M⟩ ms ts hh) w):=by
 have HW:=lH hw
 have HL:=lH h.len
 have HS0:=lH h
 have H4:=lH h4
 have H5:=lH h5
 have HP:=lH hP
 have HM:=lH (h3.len:M.length=n3)
 have RN1:=lH (fun hx=>round_no1 (N:=N) (f:=⟨P,M⟩) (ms:=ms) (ts:=ts) (h:=hh) hx)
 have RN2:=lH (fun hx=>round_no2 (N:=N) (f:=⟨P,M⟩) (ms:=ms) (ts:=ts) (h:=hh) hx)
 obtain ⟨g6,hg6⟩:∃ g6,g6=w.heap.size:=⟨_,rfl⟩
 obtain ⟨g10,hg10⟩:∃ g10,g10=(w.heap.size+1):=⟨_,rfl⟩
 obtain ⟨w1,hw1⟩:∃ w1,w1=((w.alloc (.cells #[.slice a2 n2 c2,.slice a3 n3 c3] 27)).alloc (.cells #[.slice none 0 0,.slice none 0 0] 27)):=⟨_,rfl⟩
 have kk:Ex w w1:=by rw [hw1];exact (((Ex.refl w).alloc (.cells #[.slice a2 n2 c2,.slice a3 n3 c3] 27)).alloc (.cells #[.slice none 0 0,.slice none 0 0] 27))
 have B6:Blk w1 g6 [.slice a2 n2 c2,.slice a3 n3 c3] 27:=by rw [hw1];simp only [hg6,hg10];have hbk:=((Blk.new w [.slice a2 n2 c2,.slice a3 n3 c3] 27).nx (Ex.new _ (.cells #[.slice none 0 0,.slice none 0 0] 27)));simpa using hbk
 have B10:Blk w1 g10 [.slice none 0 0,.slice none 0 0] 27:=by rw [hw1];simp only [hg6,hg10];have hbk:=(Blk.new (w.alloc (.cells #[.slice a2 n2 c2,.slice a3 n3 c3] 27)) [.slice none 0 0,.slice none 0 0] 27);simpa using hbk
 have Hw1:=lH hw1
 have Hg6:=lH hg6
 have Hg10:=lH hg10
 replace h:=h.nx kk
 replace h2:=h2.nx kk
 replace h3:=h3.nx kk
 have zg10:w.heap.size≤g10:=by omega
 have K1:=lH kk
 clear kk hw1 hg6 hg10 hw hP h4 h5
 go_enter Tryz.func43,Tryz.ntmps43
 go_upto_region 1 with fail
 rw [← Hw1.out,← Hg10.out,← Hg6.out]
 clear Hw1 Hg10 Hg6
 go_wp2_with fail
 refine (level_r hh _).mono ?_
 rintro e w0 ⟨rfl,rfl⟩
 by_cases hlv:lvlN hh=false
 ·have ET:=lH (RN1.out hlv)
  have r0:=B10.cell 0 _ rfl
  have r1:=B10.cell 1 _ rfl
  have f0:=B10.free 0
  have f1:=B10.free 1
  have KE:=lH ((K1.out.setNew (p:=⟨g10,0,none⟩) (.slice none 0 0) zg10).setNew (p:=⟨g10,1,none⟩) (.slice none 0 0) zg10)
  rw [hlv]
  clear h h2 h3 B6 B10
  go_wp2_with fail
  refine bodyPost_ret (v:=.agg #[.slice none 0 0,.slice none 0 0]) (by simp [results,Tryz.results43,go_sem, *]) rfl ⟨_,_,[],rfl,by rw [ET.out];exact FlOwn.nil _ _,KE.out⟩
 replace hlv:lvlN hh=true:=by simpa using hlv
 rw [hlv]
 obtain ⟨m,rfl⟩:∃ m:Nat,hh=m:=⟨hh.toNat,by unfold lvlN at hlv;simp at hlv;omega⟩
 have hm16:m≤16:=by unfold lvlN at hlv;simp at hlv;omega
 clear hlv
 go_wp2_with fail
 (with_reducible refine (is_r _ _ _ N _ h (by omega)).mono ?_)
 rintro e w2 ⟨rfl,kk⟩
 replace h:=h.nx kk
 replace h2:=h2.nx kk
 replace h3:=h3.nx kk
 replace B6:=B6.nx kk
 replace B10:=B10.nx kk
 replace K1:=lH (K1.out.nx kk)
 clear kk
 by_cases hck:checkN N=0
 case neg =>
  have d1:(checkN N==0)=false:=by simpa using hck
  have ET:=lH (RN2.out hck)
  clear hck
  have r0:=B10.cell 0 _ rfl
  have r1:=B10.cell 1 _ rfl
  have f0:=B10.free 0
  have f1:=B10.free 1
  have KE:=lH ((K1.out.setNew (p:=⟨g10,0,none⟩) (.slice none 0 0) zg10).setNew (p:=⟨g10,1,none⟩) (.slice none 0 0) zg10)
  rw [d1]
  clear h h2 h3 B6 B10
  go_wp2_with fail
  refine bodyPost_ret (v:=.agg #[.slice none 0 0,.slice none 0 0]) (by simp [results,Tryz.results43,go_sem, *]) rfl ⟨_,_,[],rfl,by rw [ET.out];exact FlOwn.nil _ _,KE.out⟩
 have d1:(checkN N==0)=true:=by simpa using hck
 rw [d1]
 have HC:=lH hck
 clear hck d1
 have RY:=lH (round_yes (N:=N) (f:=⟨P,M⟩) (ms:=ms) (ts:=ts) hm16 HC.out)
 have NF:=copied_r a n c N a2 n2 c2 P a3 n3 c3 M
 have CL:=lH (cop_len N ⟨P,M⟩)
 have CS:=lH (cop_few2 (N:=N) (f:=⟨P,M⟩) HP.out)
 have HSP:=lH (FewR.small HP.out)
 obtain ⟨F,hF⟩:∃ F,F=copF N ⟨P,M⟩:=⟨_,rfl⟩
 rw [← hF] at NF CL CS RY
 clear hF RN1 RN2
 go_upto_region 3 with fail
 have q0:=B6.cell 0 _ rfl
 have q1:=B6.cell 1 _ rfl
 go_wp2_with fail
 (with_reducible refine (NF w2 h hn h2 hn2 HSP.out h3 (by omega)).mono ?_)
 rintro e w3 ⟨vP,vM,qs,rfl,FO,kk⟩
 replace B10:=B10.nx kk
 obtain ⟨aP,cP,aM,cM,rfl,rfl,_,_⟩:=FO.two
 have hz2:=K1.out.size
 have K3:=lH (K1.out.nx kk)
 clear kk h h2 h3 B6 q0 q1 NF
 have hl10:=B10.lt
 have B11:=Blk.new w3 [.slice aP F.peers.length cP,.slice aM F.msgs.length cM] 27
 have kk:=Ex.new w3 (.cells #[.slice aP F.peers.length cP,.slice aM F.msgs.length cM] 27)
 obtain ⟨w4,hw4⟩:∃ w4,w4=w3.alloc (.cells #[.slice aP F.peers.length cP,.slice aM F.msgs.length cM] 27):=⟨_,rfl⟩
 obtain ⟨g11,hg11⟩:∃ g11,g11=w3.heap.size:=⟨_,rfl⟩
 replace B11:Blk w4 g11 [.slice aP F.peers.length cP,.slice aM F.msgs.length cM] 27:=by rw [hw4,hg11];exact B11
 rw [← hw4] at kk
 have Hw4:=lH hw4
 have Hg11:=lH hg11
 replace B10:=B10.nx kk
 replace FO:=FO.nx kk
 have K4:=lH (K3.out.nx kk)
 have zg11:w.heap.size≤g11:=by have:=K3.out.size;omega
 have h1011:¬ g10=g11:=by omega
 clear kk hw4 hg11
 go_upto_region 4 with fail
 rw [← Hg11.out,← Hw4.out]
 clear Hg11 Hw4
 have FO4:=lH (FO.lower (base':=w.heap.size) hz2)
 have hFl:F.peers.length≤1000:=by have:=CL.out.1;have:=HL.out;omega
 have hMl:F.msgs.length≤100000:=by have:=CL.out.2.1;have:=HM.out;omega
 have hNl:N.length≤1000:=by have:=HL.out;omega
 have hN64:=check_len HC.out
 obtain ⟨tot,htot⟩:∃ tot,tot=F.msgs.length:=⟨_,rfl⟩
 have R0:=lH (show Rr1 N ms (delAllF N ms F.msgs.length 0 F) g10 g11 w tot (.int .i64 0) w4 from
  ⟨0,aP,cP,aM,cM,qs,F,rfl,by omega,B11,FO4.out,B10,K4.out,CS.out,hFl,rfl⟩)
 have htl:tot≤100000:=by omega
 generalize hTG:delAllF N ms F.msgs.length 0 F=G1 at R0 RY
 clear hTG B10 B11 FO FO4 K4 K3 K1 CL CS HM HP HSP hFl hMl htot
 go_wp2_with fail
 go_loopw [12] (fun v wr=>Rr1 N ms G1 g10 g11 w tot v wr) (fun v _=>tot-(intOf v).toNat)
 case atStart=>exact R0.out
 case round =>
  clear R0
  obtain ⟨i,aQ,cQ,aR,cR,qr,Fi,rfl,hli,B11,FO,B10,kw,hfw,hpl,htg⟩:=hrel
  obtain ⟨wi,rfl⟩:∃ wi:World,wi=wr:=⟨_,rfl⟩
  have KW:=lH kw
  have FOH:=lH FO
  have TG:=lH htg
  have FW:=lH hfw
  have c51:=B11.cell 1 _ rfl
  have B10H:=lH B10
  have B11H:=lH B11
  have hlb:Fi.msgs.length≤100000:=by omega
  clear kw FO htg hfw B10 B11
  by_cases hz:Fi.msgs.length=0
  ·have hGF:Fi=G1:=by have:=TG.out;rw [hz] at this;exact this
   have d1:¬ (Fi.msgs.length:Int)>0:=by omega
   have RYH:=lH (show roundF N ⟨P,M⟩ ms ts m=tickAllF N ts m N.length 0 ((sortN N).map Nd.id) Fi from by rw [hGF];exact RY.out)
   have HZ:=lH hz
   clear hz hGF RY
   go_wp2_with fail
   (with_reducible refine (sort_r _ _ _ N _ (HS0.out.nx KW.out) hn).mono ?_)
   rintro e w6 ⟨aS,nS,cS,rfl,SS,kk⟩
   have SS2:Sl 3 encN w6 aS nS (sortN N):=Rd.mono SS (fun _ hk=>hk.2)
   have hnS:nS≤100000:=by rw [← SS2.len,sortN_length];omega
   replace B10H:=lH (B10H.out.nx kk)
   replace B11H:=lH (B11H.out.nx kk)
   replace FOH:=lH (FOH.out.nx kk)
   replace KW:=lH (KW.out.nx kk)
   clear kk SS c51
   go_wp2_with fail
   (with_reducible refine (idsj_r _ _ _ (sortN N) _ SS2 hnS).mono ?_)
   rintro e w7 ⟨vL,rfl,OL,kk⟩
   have hSl:((sortN N).map Nd.id).length=N.length:=by rw [List.length_map,sortN_length]
   have T0:=lH (show Rr2 N ts m (roundF N ⟨P,M⟩ ms ts m) g10 g11 w N.length vL (.int .i64 0) w7 from
    ⟨0,aQ,cQ,aR,cR,qr,Fi,(sortN N).map Nd.id,rfl,by omega,OL.base KW.out.size,B11H.out.nx kk,FOH.out.nx kk,B10H.out.nx kk,KW.out.nx kk,FW.out,hpl,by rw [HZ.out];omega,by rw [hSl];exact RYH.out.symm⟩)
   clear OL kk SS2 B10H B11H FOH KW RYH hSl
   go_wp2_with fail
   go_loopw [13,14] (fun vL v wr=>Rr2 N ts m (roundF N ⟨P,M⟩ ms ts m) g10 g11 w N.length vL v wr) (fun _ v _=>N.length-(intOf v).toNat)
   case atStart=>exact T0.out
   case round =>
    clear T0
    obtain ⟨i2,aQ2,cQ2,aR2,cR2,qr2,F2,L,rfl,hLi,OL,B11,FO,B10,kw,hfw2,hpl2,hml2,htg⟩:=hrel
    obtain ⟨wj,rfl⟩:∃ wj:World,wj=wr:=⟨_,rfl⟩
    have KW:=lH kw
    have TG:=lH htg
    have FW2:=lH hfw2
    have FOH:=lH FO
    have B10H:=lH B10
    have B11H:=lH B11
    obtain ⟨aL,cL,rfl,SL,hcL,hcm⟩:=OL.sl3 (fun _=>rfl)
    have SLH:=lH SL
    have OLH:=lH OL
    clear kw htg hfw2 FO B10 B11 SL OL
    by_cases hz2:L.length=0
    ·have ET:Hid (roundF N ⟨P,M⟩ ms ts m=F2):=lH (by have:=TG.out;rw [hz2] at this;exact this.symm)
     have d2:¬ (L.length:Int)>0:=by omega
     have B10:=B10H.out
     have B11:=B11H.out
     clear hz2 TG B10H B11H
     have r0:=B10.cell 0 _ rfl
     have r1:=B10.cell 1 _ rfl
     have f0:=B10.free 0
     have f1:=B10.free 1
     have p0:=B11.cell 0 _ rfl
     have p1:=B11.cell 1 _ rfl
     have B8H:=lH B10
     clear B10 B11
     go_wp2_with fail
     obtain ⟨wz,hwz⟩:∃ wz,wz=(wj.setCell ⟨g10,0,none⟩ (.slice aQ2 F2.peers.length cQ2)).setCell ⟨g10,1,none⟩ (.slice aR2 F2.msgs.length cR2):=⟨_,rfl⟩
     have BZ:Blk wz g10 [.slice aQ2 F2.peers.length cQ2,.slice aR2 F2.msgs.length cR2] 27:=by rw [hwz];exact (B8H.out.set 0 _).set 1 _
     have KB:Exb g10 wj wz:=by rw [hwz];exact ((Exb.refl g10 _).setB (p:=⟨g10,0,none⟩) _ rfl).setB (p:=⟨g10,1,none⟩) _ rfl
     have KE:Ex w wz:=by rw [hwz];exact (KW.out.setNew (p:=⟨g10,0,none⟩) _ zg10).setNew (p:=⟨g10,1,none⟩) _ zg10
     have FF:=lH (FOH.out.putB B8H.out (by decide) (by decide) (by decide) (by decide) KB)
     rw [← hwz]
     have q0:=BZ.cell 0 _ rfl
     have q1:=BZ.cell 1 _ rfl
     clear r0 r1 f0 f1 p0 p1 hwz
     refine bodyPost_ret (v:=.agg #[.slice aQ2 F2.peers.length cQ2,.slice aR2 F2.msgs.length cR2]) (by simp [results,Tryz.results43,go_sem, *]) rfl ⟨_,_,qr2,rfl,by rw [ET.out];exact FF.out,KE⟩
    ·have hLp:0<L.length:=by omega
     obtain ⟨k,hk⟩:∃ k,L.length=k+1:=⟨L.length-1,by omega⟩
     have HK:=lH hk
     have d2:(L.length:Int)>0:=by omega
     have hLb:L.length≤1000000000:=by omega
     clear hz2 hk
     go_wp2_with fail
     (with_reducible refine (pick_r _ _ _ ts i2 L.length _ (H5.out.nx KW.out) hLp hLb).mono ?_)
     rintro e w8 ⟨rfl,kk⟩
     have hpk:=pick_lt ts i2 hLp
     obtain ⟨p,hpe⟩:∃ p,p=pickN ts i2 L.length:=⟨_,rfl⟩
     rw [← hpe] at hpk ⊢
     have HPE:=lH hpe
     replace KW:=lH (KW.out.nx kk)
     replace FOH:=lH (FOH.out.nx kk)
     replace B10H:=lH (B10H.out.nx kk)
     replace B11H:=lH (B11H.out.nx kk)
     replace OLH:=lH (OLH.out.nx kk)
     have SL:=SLH.out.nx kk
     obtain ⟨xL,oL,y,rfl,hxL,hyL,hcL3⟩:=SL.at hpk
     have e0:w8.cell? ⟨xL,oL+p,none⟩=some (.int .i64 y):=by simpa using hcL3 0 _ rfl
     have HY:=lH hyL
     have SLH:=lH SL
     have hp1:(p:Int)<(L.length:Int):=by omega
     clear kk hpe hcL3 hyL SL
     go_upto_region 13 with fail
     refine wp_region_late_drew (S:=Ex w8) [8] (by kernel_rfl) ((Ex.refl w8).drew) (fun hHeld=>?_)
     obtain ⟨wd,hwdx⟩:∃ wd:World,wd=World.drew w8:=⟨_,rfl⟩
     rw [← hwdx] at hHeld ⊢
     have hDrew:Ex w8 wd:=by rw [hwdx];exact (Ex.refl w8).drew
     clear hwdx
     refine tkL 0 (v:=?_) rfl (by kernel_rfl) (fun _ _ _ h=>h) (by rfl) ?y5 hHeld ?_
     case y5=>intro wq hSw;go_simp<;>rfl
     try simp only [Act.put,sA,sB,sC]
     refine tkL 1 (v:=?_) rfl (by kernel_rfl) (fun _ _ _ h=>h) (by rfl) ?y8 hHeld ?_
     case y8=>intro wq hSw;(have cq0:=(B11H.out.nx hSw).cell 0 _ rfl;have cq1:=(B11H.out.nx hSw).cell 1 _ rfl;go_simp)<;>rfl
     try simp only [Act.put,sA,sB,sC]
     refine tkL 2 (v:=?_) rfl (by kernel_rfl) (fun _ _ _ h=>h) (by rfl) ?y11 hHeld ?_
     case y11=>intro wq hSw;go_simp<;>rfl
     try simp only [Act.put,sA,sB,sC]
     refine tkL 3 (v:=?_) rfl (by kernel_rfl) (fun _ _ _ h=>h) (by rfl) ?y14 hHeld ?_
     case y14=>intro wq hSw;go_simp<;>rfl
     try simp only [Act.put,sA,sB,sC]
     refine tkL 4 (v:=?_) rfl (by kernel_rfl) (fun _ _ _ h=>h) (by rfl) ?y17 hHeld ?_
     case y17=>intro wq hSw;go_simp<;>rfl
     try simp only [Act.put,sA,sB,sC]
     refine tkL 5 (v:=?_) rfl (by kernel_rfl) (fun _ _ _ h=>h) (by rfl) ?y20 hHeld ?_
     case y20=>intro wq hSw;(have cq:=hSw.cellv e0 hxL;go_simp)<;>rfl
     try simp only [Act.put,sA,sB,sC]
     refine tkL 6 (v:=?_) rfl (by kernel_rfl) (fun _ _ _ h=>h) (by rfl) ?y23 hHeld ?_
     case y23=>intro wq hSw;go_simp<;>rfl
     try simp only [Act.put,sA,sB,sC]
     refine rL 7 (by kernel_rfl) rfl fun K hK=>?_
     obtain ⟨_,_,_,_,ee1,ee2,p1,s2⟩:=(FOH.out.nx hHeld).two
     cases ee1
     cases ee2
     go_simp
     (with_reducible refine (tick_r19 _ _ _ N _ _ _ F2.peers _ _ _ F2.msgs y m _ (HS0.out.nx (KW.out.nx hHeld)) hn HW.out p1 (by omega) FW2.out s2 (by omega)).mono ?_)
     rintro e wb ⟨vP,vM,qs2,rfl,FO2,kk⟩
     obtain ⟨G2,hG2⟩:∃ G2,G2=tickF N F2 y m:=⟨_,rfl⟩
     have HG2:=lH hG2
     have hzwd:=hHeld.size
     replace FO2:FlOwn wd.heap.size wb vP vM qs2 G2:=by rw [hG2];exact FO2
     obtain ⟨aP2,cP2,aM2,cM2,rfl,rfl,_,_⟩:=FO2.two
     have FO2H:=lH FO2
     replace hHeld:=hHeld.nx kk
     clear kk FO2 hG2 p1 s2
     refine hK.out _ _ (hHeld) (fun hHeld=>?_)
     clear hK K
     try simp only [Act.put,sA,sB,sC]
     refine rLL 8 (by kernel_rfl) rfl (by rfl) fun K hK=>?_
     have BQ:=B11H.out.nx hHeld
     have cq0:=BQ.cell 0 _ rfl
     have cq1:=BQ.cell 1 _ rfl
     have fq0:=BQ.free 0
     have fq1:=BQ.free 1
     go_simp
     clear cq0 cq1 fq0 fq1
     refine hK.out _ _ ?_
     clear hK K
     try simp only [Act.put,sA,sB,sC]
     refine wpAnyL_done (by kernel_rfl) ?_ _
     obtain ⟨wy,hwy⟩:∃ wy,wy=(wb.setCell ⟨g11,0,none⟩ (.slice aP2 G2.peers.length cP2)).setCell ⟨g11,1,none⟩ (.slice aM2 G2.msgs.length cM2):=⟨_,rfl⟩
     rw [← hwy]
     have kb2:Exb g11 wb wy:=by rw [hwy];exact ((Exb.refl g11 _).setB (p:=⟨g11,0,none⟩) _ rfl).setB (p:=⟨g11,1,none⟩) _ rfl
     have BY:Blk wy g11 [.slice aP2 G2.peers.length cP2,.slice aM2 G2.msgs.length cM2] 27:=by rw [hwy];exact (BQ.set 0 _).set 1 _
     have KY:=lH (show Ex w wy from by rw [hwy];exact ((KW.out.nx hHeld).setNew (p:=⟨g11,0,none⟩) _ zg11).setNew (p:=⟨g11,1,none⟩) _ zg11)
     have FOY:=lH ((FO2H.out.putB BQ (by decide) (by decide) (by decide) (by decide) kb2).lower (base':=w.heap.size) (by have:=KW.out.size;omega))
     have OLY:=lH ((OLH.out.nx hHeld).put BQ (by decide) kb2)
     have B10Y:=lH ((B10H.out.nx hHeld).nxb h1011 kb2)
     have BYH:=lH BY
     obtain ⟨aL3,cL3,e3,SL3,_,_⟩:=OLY.out.sl3 (fun _=>rfl)
     cases e3
     have SLY:=lH SL3
     have i1:(0:Int)≤(p:Int)+1:=by omega
     have i2b:(p:Int)+1≤(L.length:Int):=by omega
     have i3:(p:Int)≤(cL:Int):=by omega
     have i4:IntKind.i64.wrap ((p:Int)+1)=(p:Int)+1:=IntWalk.i64_in _ (by omega)
     have i5:((p:Int)+1).toNat=p+1:=by omega
     have i6:(L.length:Int)≤(cL:Int):=by omega
     have EI:=lH (List.eraseIdx_eq_take_drop_succ L p)
     have STA:=lH (fun (cur:World) (kx:Ex wy cur)=>(SLY.out.nx kx).take (m:=p) (by omega))
     have hz8:=KY.out.size
     have LEN:Hid ((L.eraseIdx p).length=k):=lH (by rw [List.length_eraseIdx,if_pos hpk,HK.out];rfl)
     have TGN:=lH (show tickAllF N ts m (L.eraseIdx p).length (i2+1) (L.eraseIdx p) G2=roundF N ⟨P,M⟩ ms ts m from by rw [LEN.out,HG2.out,← TG.out];exact (tick_all_step HK.out HPE.out HY.out).symm)
     have MSN:Hid (G2.msgs.length≤(i2+1)*128):=lH (by rw [HG2.out];have:=tick_len (N:=N) (f:=F2) HC.out y m;omega)
     clear hwy kb2 BQ hHeld hDrew FO2H OLH B10H FOH B11H e0 SLH SL3 KW
     go_upto_region 14 with fail
     have wi1:IntKind.i64.wrap ((i2:Int)+1)=(i2:Int)+1:=IntWalk.i64_in _ (by omega)
     have hit:i2<N.length:=by omega
     clear BY
     by_cases hcap:cL=p+1
     ·have hcap2:p+1=cL:=hcap.symm
      have SB:=lH (fun (cur:World)=>show Sl 1 encI cur (some ⟨xL,oL,none⟩) 0 (L.drop (p+1)) from by
       rw [List.drop_of_length_le (by omega)]
       exact Sl.nil _ _ _ _)
      clear hcap
      refine wp_region_held_drew (S:=Ex wy) (by kernel_rfl) ((Ex.refl wy).drew) (fun hHeld=>?_)
      obtain ⟨wd,hwdx⟩:∃ wd:World,wd=World.drew wy:=⟨_,rfl⟩
      rw [← hwdx] at hHeld ⊢
      have hDrew:Ex wy wd:=by rw [hwdx];exact (Ex.refl wy).drew
      clear hwdx
      refine tkH 0 (v:=?_) rfl (by kernel_rfl) (fun _ _ _ h=>h) (by rfl) ?y5 hHeld ?_
      case y5=>intro wq hSw;go_simp<;>rfl
      try simp only [Act.put,sA,sB,sC]
      refine tkH 1 (v:=?_) rfl (by kernel_rfl) (fun _ _ _ h=>h) (by rfl) ?y8 hHeld ?_
      case y8=>intro wq hSw;go_simp<;>rfl
      try simp only [Act.put,sA,sB,sC]
      refine tkH 2 (v:=?_) rfl (by kernel_rfl) (fun _ _ _ h=>h) (by rfl) ?y11 hHeld ?_
      case y11=>intro wq hSw;go_simp<;>rfl
      try simp only [Act.put,sA,sB,sC]
      refine tkH 4 (v:=?_) rfl (by kernel_rfl) (fun _ _ _ h=>h) (by rfl) ?y14 hHeld ?_
      case y14=>intro wq hSw;go_simp<;>rfl
      try simp only [Act.put,sA,sB,sC]
      refine tkH 5 (v:=?_) rfl (by kernel_rfl) (fun _ _ _ h=>h) (by rfl) ?y17 hHeld ?_
      case y17=>intro wq hSw;go_simp<;>rfl
      try simp only [Act.put,sA,sB,sC]
      refine tkH 6 (v:=?_) rfl (by kernel_rfl) (fun _ _ _ h=>h) (by rfl) ?y20 hHeld ?_
      case y20=>intro wq hSw;go_simp<;>rfl
      try simp only [Act.put,sA,sB,sC]
      refine tkH 7 (v:=?_) rfl (by kernel_rfl) (fun _ _ _ h=>h) (by rfl) ?y23 hHeld ?_
      case y23=>intro wq hSw;go_simp<;>rfl
      try simp only [Act.put,sA,sB,sC]
      refine rH 3 (by kernel_rfl) rfl fun K hK=>?_
      rw [if_pos (by rfl)]
      have z0:=hHeld.size
      have s0:=STA.out _ hHeld
      refine wp_append_rd (enc:=encI) _ (.const (.slice none 0 0)) (.tmp 66) 22 rfl wy.heap.size 3 (.int .i64 0) 1 8 Tryz.underlying22 Tryz.infoI6 rfl (by omega) (by omega) _ [] (OwnL.nil _ _ _ _ _) rfl _ (some ⟨xL,oL,none⟩) p _ (L.take p) s0 (fun h=>by cases h) (fun _=>rfl) (by simp [encI,Value.oneCell']) rfl (by simp) (by omega) z0 ?_
      intro v6 w6 own6 ch0 ch1
      rw [List.nil_append] at own6
      replace hHeld:Ex wy w6:=Chg.trans hHeld ch1
      clear ch0 ch1 z0 s0
      refine hK.out _ _ (hHeld) (fun hHeld=>?_)
      clear hK K
      try simp only [Act.put,sA,sB,sC]
      refine rH 8 (by kernel_rfl) rfl fun K hK=>?_
      rw [if_pos (by rfl)]
      have z0:=hHeld.size
      have s0:=SB.out w6
      refine wp_append_rd (enc:=encI) _ (.tmp 67) (.tmp 71) 22 rfl wy.heap.size 3 (.int .i64 0) 1 8 Tryz.underlying22 Tryz.infoI6 rfl (by omega) (by omega) _ (L.take p) own6 rfl _ (some ⟨xL,oL,none⟩) 0 _ (L.drop (p+1)) s0 (fun h=>by cases h) (fun _=>rfl) (by simp [encI,Value.oneCell']) rfl (by rw [List.length_take];omega) (by omega) z0 ?_
      intro v8 w8 own8 ch0 ch1
      replace hHeld:Ex wy w8:=Chg.trans hHeld ch1
      rw [← EI.out] at own8
      clear ch0 ch1 z0 s0 own6
      refine hK.out _ _ (hHeld) (fun hHeld=>?_)
      clear hK K
      try simp only [Act.put,sA,sB,sC]
      refine tkH 9 (v:=?_) rfl (by kernel_rfl) (fun _ _ _ h=>h) (by rfl) ?y52 hHeld ?_
      case y52=>intro wq hSw;go_simp<;>rfl
      try simp only [Act.put,sA,sB,sC]
      refine wpAnyH_done (by kernel_rfl) ?_ _
      have RR:=lH (show Rr2 N ts m (roundF N ⟨P,M⟩ ms ts m) g10 g11 w N.length v8 (.int .i64 ((i2:Int)+1)) w8 from ⟨i2+1,aP2,cP2,aM2,cM2,qs2,G2,L.eraseIdx p,by go_num,by rw [LEN.out];have:=HK.out;omega,OwnL.base own8 hz8,BYH.out.nx hHeld,FOY.out.nx hHeld,B10Y.out.nx hHeld,KY.out.nx hHeld,by rw [HG2.out];exact tick_fewR hNl FW2.out _ _,by rw [HG2.out];exact Nat.le_trans (tick_plen _ _) hNl,MSN.out,TGN.out⟩)
      clear own8 hHeld hDrew
      go_wp2_with fail
      exact ⟨RR.out,by simp [intOf];omega⟩
     ·have hcap2:¬ cL=p+1:=hcap
      have SB:=lH (fun (cur:World) (kx:Ex wy cur)=>show Sl 1 encI cur (some ⟨xL,oL+(p+1),none⟩) (L.length-(p+1)) (L.drop (p+1)) from by
       have:=(SLY.out.nx kx).drop (m:=p+1) (by omega)
       rwa [Nat.mul_one] at this)
      refine wp_region_held_drew (S:=Ex wy) (by kernel_rfl) ((Ex.refl wy).drew) (fun hHeld=>?_)
      obtain ⟨wd,hwdx⟩:∃ wd:World,wd=World.drew wy:=⟨_,rfl⟩
      rw [← hwdx] at hHeld ⊢
      have hDrew:Ex wy wd:=by rw [hwdx];exact (Ex.refl wy).drew
      clear hwdx
      refine tkH 0 (v:=?_) rfl (by kernel_rfl) (fun _ _ _ h=>h) (by rfl) ?y5 hHeld ?_
      case y5=>intro wq hSw;go_simp<;>rfl
      try simp only [Act.put,sA,sB,sC]
      refine tkH 1 (v:=?_) rfl (by kernel_rfl) (fun _ _ _ h=>h) (by rfl) ?y8 hHeld ?_
      case y8=>intro wq hSw;go_simp<;>rfl
      try simp only [Act.put,sA,sB,sC]
      refine tkH 2 (v:=?_) rfl (by kernel_rfl) (fun _ _ _ h=>h) (by rfl) ?y11 hHeld ?_
      case y11=>intro wq hSw;go_simp<;>rfl
      try simp only [Act.put,sA,sB,sC]
      refine tkH 4 (v:=?_) rfl (by kernel_rfl) (fun _ _ _ h=>h) (by rfl) ?y14 hHeld ?_
      case y14=>intro wq hSw;go_simp<;>rfl
      try simp only [Act.put,sA,sB,sC]
      refine tkH 5 (v:=?_) rfl (by kernel_rfl) (fun _ _ _ h=>h) (by rfl) ?y17 hHeld ?_
      case y17=>intro wq hSw;go_simp<;>rfl
      try simp only [Act.put,sA,sB,sC]
      refine tkH 6 (v:=?_) rfl (by kernel_rfl) (fun _ _ _ h=>h) (by rfl) ?y20 hHeld ?_
      case y20=>intro wq hSw;go_simp<;>rfl
      try simp only [Act.put,sA,sB,sC]
      refine tkH 7 (v:=?_) rfl (by kernel_rfl) (fun _ _ _ h=>h) (by rfl) ?y23 hHeld ?_
      case y23=>intro wq hSw;go_simp<;>rfl
      try simp only [Act.put,sA,sB,sC]
      refine rH 3 (by kernel_rfl) rfl fun K hK=>?_
      rw [if_pos (by rfl)]
      have z0:=hHeld.size
      have s0:=STA.out _ hHeld
      refine wp_append_rd (enc:=encI) _ (.const (.slice none 0 0)) (.tmp 66) 22 rfl wy.heap.size 3 (.int .i64 0) 1 8 Tryz.underlying22 Tryz.infoI6 rfl (by omega) (by omega) _ [] (OwnL.nil _ _ _ _ _) rfl _ (some ⟨xL,oL,none⟩) p _ (L.take p) s0 (fun h=>by cases h) (fun _=>rfl) (by simp [encI,Value.oneCell']) rfl (by simp) (by omega) z0 ?_
      intro v6 w6 own6 ch0 ch1
      rw [List.nil_append] at own6
      replace hHeld:Ex wy w6:=Chg.trans hHeld ch1
      clear ch0 ch1 z0 s0
      refine hK.out _ _ (hHeld) (fun hHeld=>?_)
      clear hK K
      try simp only [Act.put,sA,sB,sC]
      refine rH 8 (by kernel_rfl) rfl fun K hK=>?_
      rw [if_pos (by rfl)]
      have z0:=hHeld.size
      have s0:=SB.out _ hHeld
      refine wp_append_rd (enc:=encI) _ (.tmp 67) (.tmp 71) 22 rfl wy.heap.size 3 (.int .i64 0) 1 8 Tryz.underlying22 Tryz.infoI6 rfl (by omega) (by omega) _ (L.take p) own6 rfl _ (some ⟨xL,oL+(p+1),none⟩) (L.length-(p+1)) _ (L.drop (p+1)) s0 (fun h=>by cases h) (fun _=>rfl) (by simp [encI,Value.oneCell']) rfl (by rw [List.length_take];omega) (by omega) z0 ?_
      intro v8 w8 own8 ch0 ch1
      replace hHeld:Ex wy w8:=Chg.trans hHeld ch1
      rw [← EI.out] at own8
      clear ch0 ch1 z0 s0 own6
      refine hK.out _ _ (hHeld) (fun hHeld=>?_)
      clear hK K
      try simp only [Act.put,sA,sB,sC]
      refine tkH 9 (v:=?_) rfl (by kernel_rfl) (fun _ _ _ h=>h) (by rfl) ?y52 hHeld ?_
      case y52=>intro wq hSw;go_simp<;>rfl
      try simp only [Act.put,sA,sB,sC]
      refine wpAnyH_done (by kernel_rfl) ?_ _
      have RR:=lH (show Rr2 N ts m (roundF N ⟨P,M⟩ ms ts m) g10 g11 w N.length v8 (.int .i64 ((i2:Int)+1)) w8 from ⟨i2+1,aP2,cP2,aM2,cM2,qs2,G2,L.eraseIdx p,by go_num,by rw [LEN.out];have:=HK.out;omega,OwnL.base own8 hz8,BYH.out.nx hHeld,FOY.out.nx hHeld,B10Y.out.nx hHeld,KY.out.nx hHeld,by rw [HG2.out];exact tick_fewR hNl FW2.out _ _,by rw [HG2.out];exact Nat.le_trans (tick_plen _ _) hNl,MSN.out,TGN.out⟩)
      clear own8 hHeld hDrew
      go_wp2_with fail
      exact ⟨RR.out,by simp [intOf];omega⟩
  ·have hlp:0<Fi.msgs.length:=by omega
   obtain ⟨k,hk⟩:∃ k,Fi.msgs.length=k+1:=⟨Fi.msgs.length-1,by omega⟩
   have HK:=lH hk
   have d1:(Fi.msgs.length:Int)>0:=by omega
   have hlb2:Fi.msgs.length≤1000000000:=by omega
   have hpk:=pick_lt ms i hlp
   clear hz hk
   go_upto_region 7 with fail
   clear c51
   refine wp_region_late_drew (S:=Ex wi) [9] (by kernel_rfl) ((Ex.refl wi).drew) (fun hHeld=>?_)
   obtain ⟨wd,hwdx⟩:∃ wd:World,wd=World.drew wi:=⟨_,rfl⟩
   rw [← hwdx] at hHeld ⊢
   have hDrew:Ex wi wd:=by rw [hwdx];exact (Ex.refl wi).drew
   clear hwdx
   refine tkL 0 (v:=?_) rfl (by kernel_rfl) (fun _ _ _ h=>h) (by rfl) ?y5 hHeld ?_
   case y5=>intro wq hSw;go_simp<;>rfl
   try simp only [Act.put,sA,sB,sC]
   refine tkL 1 (v:=?_) rfl (by kernel_rfl) (fun _ _ _ h=>h) (by rfl) ?y8 hHeld ?_
   case y8=>intro wq hSw;(have cq0:=(B11H.out.nx hSw).cell 0 _ rfl;have cq1:=(B11H.out.nx hSw).cell 1 _ rfl;go_simp)<;>rfl
   try simp only [Act.put,sA,sB,sC]
   refine tkL 2 (v:=?_) rfl (by kernel_rfl) (fun _ _ _ h=>h) (by rfl) ?y11 hHeld ?_
   case y11=>intro wq hSw;go_simp<;>rfl
   try simp only [Act.put,sA,sB,sC]
   refine tkL 3 (v:=?_) rfl (by kernel_rfl) (fun _ _ _ h=>h) (by rfl) ?y14 hHeld ?_
   case y14=>intro wq hSw;go_simp<;>rfl
   try simp only [Act.put,sA,sB,sC]
   refine tkL 4 (v:=?_) rfl (by kernel_rfl) (fun _ _ _ h=>h) (by rfl) ?y17 hHeld ?_
   case y17=>intro wq hSw;go_simp<;>rfl
   try simp only [Act.put,sA,sB,sC]
   refine tkL 5 (v:=?_) rfl (by kernel_rfl) (fun _ _ _ h=>h) (by rfl) ?y20 hHeld ?_
   case y20=>intro wq hSw;(have cq1:=(B11H.out.nx hSw).cell 1 _ rfl;go_simp)<;>rfl
   try simp only [Act.put,sA,sB,sC]
   refine tkL 6 (v:=?_) rfl (by kernel_rfl) (fun _ _ _ h=>h) (by rfl) ?y23 hHeld ?_
   case y23=>intro wq hSw;go_simp<;>rfl
   try simp only [Act.put,sA,sB,sC]
   refine rL 7 (by kernel_rfl) rfl fun K hK=>?_
   go_simp
   (with_reducible refine (pick_r _ _ _ ms i Fi.msgs.length _ (H4.out.nx (KW.out.nx hHeld)) hlp hlb2).mono ?_)
   rintro e wp ⟨rfl,kk⟩
   replace hHeld:=hHeld.nx kk
   clear kk
   refine hK.out _ _ (hHeld) (fun hHeld=>?_)
   clear hK K
   try simp only [Act.put,sA,sB,sC]
   refine rL 8 (by kernel_rfl) rfl fun K hK=>?_
   obtain ⟨_,_,_,_,ee1,ee2,p1,s2⟩:=(FOH.out.nx hHeld).two
   cases ee1
   cases ee2
   go_simp
   (with_reducible refine (del_r19 _ _ _ N _ _ _ Fi.peers _ _ _ Fi.msgs (pickN ms i Fi.msgs.length:Nat) _ (HS0.out.nx (KW.out.nx hHeld)) hn p1 (by omega) FW.out s2 (by omega) HW.out).mono ?_)
   rintro e wb ⟨vP,vM,qs2,rfl,FO2,kk⟩
   obtain ⟨G2,hG2⟩:∃ G2,G2=delF N Fi (pickN ms i Fi.msgs.length:Nat):=⟨_,rfl⟩
   have HG2:=lH hG2
   have hzwd:=hHeld.size
   replace FO2:FlOwn wp.heap.size wb vP vM qs2 G2:=by rw [hG2];exact FO2
   obtain ⟨aP2,cP2,aM2,cM2,rfl,rfl,_,_⟩:=FO2.two
   have FO2H:=lH FO2
   replace hHeld:=hHeld.nx kk
   clear kk FO2 hG2 p1 s2
   refine hK.out _ _ (hHeld) (fun hHeld=>?_)
   clear hK K
   try simp only [Act.put,sA,sB,sC]
   refine rLL 9 (by kernel_rfl) rfl (by rfl) fun K hK=>?_
   have BQ:=B11H.out.nx hHeld
   have cq0:=BQ.cell 0 _ rfl
   have cq1:=BQ.cell 1 _ rfl
   have fq0:=BQ.free 0
   have fq1:=BQ.free 1
   go_simp
   clear cq0 cq1 fq0 fq1
   refine hK.out _ _ ?_
   clear hK K
   try simp only [Act.put,sA,sB,sC]
   refine wpAnyL_done (by kernel_rfl) ?_ _
   obtain ⟨wy,hwy⟩:∃ wy,wy=(wb.setCell ⟨g11,0,none⟩ (.slice aP2 G2.peers.length cP2)).setCell ⟨g11,1,none⟩ (.slice aM2 G2.msgs.length cM2):=⟨_,rfl⟩
   rw [← hwy]
   have kb2:Exb g11 wb wy:=by rw [hwy];exact ((Exb.refl g11 _).setB (p:=⟨g11,0,none⟩) _ rfl).setB (p:=⟨g11,1,none⟩) _ rfl
   have BY:Blk wy g11 [.slice aP2 G2.peers.length cP2,.slice aM2 G2.msgs.length cM2] 27:=by rw [hwy];exact (BQ.set 0 _).set 1 _
   have KY:=lH (show Ex w wy from by rw [hwy];exact ((KW.out.nx hHeld).setNew (p:=⟨g11,0,none⟩) _ zg11).setNew (p:=⟨g11,1,none⟩) _ zg11)
   have FOY:=lH ((FO2H.out.putB BQ (by decide) (by decide) (by decide) (by decide) kb2).lower (base':=w.heap.size) (by have:=KW.out.size;omega))
   have B10Y:=lH ((B10H.out.nx hHeld).nxb h1011 kb2)
   have hGl:G2.msgs.length=k:=by rw [HG2.out];exact del_len HC.out HK.out (by rw [← HK.out];exact hpk)
   have RR:=lH (show Rr1 N ms G1 g10 g11 w tot (.int .i64 ((i:Int)+1)) wy from ⟨i+1,aP2,cP2,aM2,cM2,qs2,G2,by go_num,by have:=HK.out;omega,BY,FOY.out,B10Y.out,KY.out,by rw [HG2.out];exact del_fewR hNl FW.out _,by rw [HG2.out];exact Nat.le_trans (del_plen _) hNl,by rw [hGl,HG2.out,← TG.out];exact (del_all_step HK.out).symm⟩)
   have wi1:IntKind.i64.wrap ((i:Int)+1)=(i:Int)+1:=IntWalk.i64_in _ (by omega)
   have hit:i<tot:=by omega
   clear hwy kb2 BY BQ hHeld hDrew FO2H B10H FOH B11H KY FOY B10Y hGl
   go_wp2_with fail
   exact ⟨RR.out,by simp [intOf];omega⟩
end Go.Proofs.YtalmjklljofhbaaGreatDoor
