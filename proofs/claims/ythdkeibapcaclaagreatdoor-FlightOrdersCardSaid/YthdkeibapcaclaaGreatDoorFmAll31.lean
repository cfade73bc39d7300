/- Shared texts. -/
import Derived.Test.YthdkeibapcaclaaGreatDoorFmAll11
import Derived.Test.YthdkeibapcaclaaGreatDoorFmAll29
import Derived.Test.YthdkeibapcaclaaGreatDoorFmAll30
set_option linter.unusedSimpArgs false
set_option linter.unusedVariables false

namespace Go.Proofs.YthdkeibapcaclaaGreatDoor
open Go.RowKit
theorem cop_few {N:List Nd} {f:Fl} (h:∀ p∈f.peers,p.known.length≤1000000):∀ p∈(copF N f).peers,p.known.length≤1000000:=by
 by_cases h0:checkN N=0
 ·intro p hp
  rw [cop_map h0] at hp
  obtain ⟨x,_,rfl⟩:=List.mem_map.1 hp
  unfold peerN
  cases hf:f.peers.find? fun p=>p.id==x.id with
  | none=>exact Nat.zero_le _
  | some q=>exact h q (List.mem_of_find?_eq_some hf)
 ·unfold copF
  rw [if_neg h0]
  intro p hp
  cases hp
theorem del_out {N:List Nd} {f:Fl} {k:Int} (h:k<0∨(copF N f).msgs.length≤k.toNat):delF N f k=copF N f:=by
 unfold delF
 by_cases h0:0≤k
 ·rw [if_pos h0,List.getElem?_eq_none (by rcases h with h | h<;>omega)]
 ·rw [if_neg h0]
theorem del_at {N:List Nd} {f:Fl} {k:Nat} {m:Int×Int} (hm:(copF N f).msgs[k]?=some m):delF N f k=⟨if (findN N m.2).2=true∧m.1≠m.2 then (copF N f).peers.map (tellP N m) else (copF N f).peers,(copF N f).msgs.eraseIdx k⟩:=by
 unfold delF
 rw [if_pos (by omega),Int.toNat_natCast,hm]
theorem tell_none {N:List Nd} {Q:List Pr} {m:Int×Int} (h:idxQ m.1 Q = -1):Q.map (tellP N m)=Q:=by
 have:∀ p∈Q,tellP N m p=id p:=fun p hp=>by
  unfold tellP
  rw [if_neg (fun he=>?_)]
  ·rfl
  ·unfold idxQ at h
   rw [if_pos (List.findIdx_lt_length.2 ⟨p,hp,by simpa using he⟩)] at h
   omega
 rw [List.map_congr_left this,List.map_id]
theorem tell_one {N:List Nd} {Q:List Pr} {m:Int×Int} {k:Nat} {y:Pr} (hy:Q[k]?=some y) (hu:∀ j z,Q[j]?=some z→z.id=y.id→j=k) (he:y.id=m.1):Q.map (tellP N m)=Q.set k { y with known:=ordN N (y.known++[m.2]) y.id }:=by
 have e:(fun p:Pr=>if p.id=y.id then ({ p with known:=ordN N (p.known++[m.2]) p.id }:Pr) else p)=tellP N m:=by
  funext p
  unfold tellP
  rw [he]
 rw [← e]
 exact map_one hy hu (fun p=>({ p with known:=ordN N (p.known++[m.2]) p.id }:Pr))
theorem refs_told {N:List Nd} (h0:checkN N=0) (id:Int) (L:List Int):refsN N ⟨id,0,0,L,[]⟩=ordN N L id:=by
 unfold refsN numsP ordN
 rw [if_pos h0]
 congr 1
 apply List.filter_congr
 intro x hx
 have h1:x.id≠0:=by
  have:=check_id h0 ((sortN_mem N x).1 hx)
  omega
 congr 1
 simp [h1]
theorem OwnP.rowc {eP eI eN base:Nat} {w w1:World} {qs:List PQ} {P:List Pr} (hI:eP≠eI) {g n cap:Nat} (h:OwnP eP eI eN base w (.slice (some ⟨g,0,none⟩) n cap) qs P) {a:Nat} {p:Pr} {hk hn:Hdr} (hq:qs[a]?=some (p.nums,hk,hn))
  (k1:Chg (fun k=>k<w.heap.size∧¬ hk.val.ownBlock=some k) w w1):w1.cell? ⟨g,a*5+1,none⟩=some hk.val∧w1.frozen? ⟨g,a*5+1,none⟩=false:=by
 have row1:OwnW 5 encQ eP base w1 (.slice (some ⟨g,0,none⟩) n cap) qs:=h.1.chg k1 (fun x hx hv=>⟨hx,fun hh=>h.neI hI hq hh hv⟩)
 obtain ⟨s1,s2,_⟩:=OwnW.set1 encQ_len row1 hq (c:=1) (by omega)
 exact ⟨s1,s2⟩
set_option maxRecDepth 100000 in
set_option maxHeartbeats 8000000 in
theorem del_f (a:Option Addr) (n c:Nat) (N:List Nd) (a2:Option Addr) (n2 c2:Nat) (P:List Pr) (a3:Option Addr) (n3 c3:Nat) (M:List (Int×Int)) (i:Int) (w:World) (h:Sl 3 encN w a n N) (hn:n≤1000) (hc:n≤c) (hm:c≤maxLen) (h2:PL w a2 n2 P) (hn2:n2≤4000000000000000000) (hP:SmallP P)
  (h3:Sl 2 encS w a3 n3 M) (hn3:n3≤1000000) (hfew:∀ p∈P,p.known.length≤1000000) :
  Calls Tryz.prog 29 #[.slice a n c,.agg #[.slice a2 n2 c2,.slice a3 n3 c3],.int .i64 i] w (FlPost (delF N ⟨P,M⟩ i) w):=by
 have HL:=lH h.len
 have HS0:=lH h
 have EG:Hid (∀ args w,(callFunc 71 args).run Tryz.prog w=.ok (.enter 71 args) w):=lH (enters_of Tryz.func71 (by kernel_rfl) rfl)
 obtain ⟨F,hF⟩:∃ F,F=copF N ⟨P,M⟩:=⟨_,rfl⟩
 have CL:=lH (cop_len N ⟨P,M⟩)
 have CS:=lH (cop_few (N:=N) (f:=⟨P,M⟩) hfew)
 have CU:=lH (fun (k:Nat) (y:Pr) (hy:(copF N ⟨P,M⟩).peers[k]?=some y)=>cop_uniq N ⟨P,M⟩ hy)
 have DO:=lH (fun (k:Int) hx=>del_out (N:=N) (f:=⟨P,M⟩) (k:=k) hx)
 have DA:=lH (fun (k:Nat) (m:Int×Int) (hx:(copF N ⟨P,M⟩).msgs[k]?=some m)=>del_at (N:=N) (f:=⟨P,M⟩) hx)
 have SM:=lH hP
 have NF:=normal_f a n c N a2 n2 c2 P a3 n3 c3 M
 rw [← hF] at CL CS CU DO DA NF
 have HM:=lH (h3.len:M.length=n3)
 obtain ⟨g4,hg4⟩:∃ g4,g4=w.heap.size:=⟨_,rfl⟩
 obtain ⟨g6,hg6⟩:∃ g6,g6=(w.heap.size+1):=⟨_,rfl⟩
 obtain ⟨w1,hw1⟩:∃ w1,w1=((w.alloc (.cells #[.slice a2 n2 c2,.slice a3 n3 c3] 27)).alloc (.cells #[.slice none 0 0,.slice none 0 0] 27)):=⟨_,rfl⟩
 have kk:Ex w w1:=by rw [hw1];exact (((Ex.refl w).alloc (.cells #[.slice a2 n2 c2,.slice a3 n3 c3] 27)).alloc (.cells #[.slice none 0 0,.slice none 0 0] 27))
 have B4:Blk w1 g4 [.slice a2 n2 c2,.slice a3 n3 c3] 27:=by rw [hw1];simp only [hg4,hg6];have hbk:=((Blk.new w [.slice a2 n2 c2,.slice a3 n3 c3] 27).nx (Ex.new _ (.cells #[.slice none 0 0,.slice none 0 0] 27)));simpa using hbk
 have B6:Blk w1 g6 [.slice none 0 0,.slice none 0 0] 27:=by rw [hw1];simp only [hg4,hg6];have hbk:=(Blk.new (w.alloc (.cells #[.slice a2 n2 c2,.slice a3 n3 c3] 27)) [.slice none 0 0,.slice none 0 0] 27);simpa using hbk
 have Hw1:=lH hw1
 have Hg4:=lH hg4
 have Hg6:=lH hg6
 replace h:=h.nx kk
 replace h2:=h2.nx kk
 replace h3:=h3.nx kk
 have zg6:w.heap.size≤g6:=by omega
 have K1:=lH kk
 have hb6:=B6.lt
 clear kk hw1 hg4 hg6 hP hF hfew
 go_enter Tryz.func29,Tryz.ntmps29
 go_upto_region 1 with fail
 rw [← Hw1.out,← Hg6.out,← Hg4.out]
 clear Hw1 Hg6 Hg4
 have q0:=B4.cell 0 _ rfl
 have q1:=B4.cell 1 _ rfl
 go_wp2_with fail
 (with_reducible refine (NF w1 h hn hc hm h2 hn2 SM.out h3 (by omega)).mono ?_)
 rintro e w2 ⟨vP,vM,qs,rfl,FO,kk⟩
 replace h:=h.nx kk
 replace B6:=B6.nx kk
 obtain ⟨aP,cP,rfl,_,_,_,hgP,_⟩:=FO.1.pl
 obtain ⟨aM,cM,rfl,_,_,_,_⟩:=FO.2.rd (fun _=>rfl)
 have K2:=lH (K1.out.nx kk)
 have K12:=lH kk
 have hz12:=kk.size
 have HGP:=lH hgP
 clear kk h2 h3 B4 q0 q1 NF hgP
 have B7:=Blk.new w2 [.slice aP F.peers.length cP,.slice aM F.msgs.length cM] 27
 have kk:=Ex.new w2 (.cells #[.slice aP F.peers.length cP,.slice aM F.msgs.length cM] 27)
 obtain ⟨w3,hw3⟩:∃ w3,w3=w2.alloc (.cells #[.slice aP F.peers.length cP,.slice aM F.msgs.length cM] 27):=⟨_,rfl⟩
 obtain ⟨g7,hg7⟩:∃ g7,g7=w2.heap.size:=⟨_,rfl⟩
 replace B7:Blk w3 g7 [.slice aP F.peers.length cP,.slice aM F.msgs.length cM] 27:=by rw [hw3,hg7];exact B7
 rw [← hw3] at kk
 have Hw3:=lH hw3
 have Hg7:=lH hg7
 replace h:=h.nx kk
 replace B6:=B6.nx kk
 replace FO:=FO.nx kk
 have zg7:w2.heap.size≤g7:=by omega
 have h67:¬ g6=g7:=by omega
 have K3:=lH (K2.out.nx kk)
 replace K12:=lH (K12.out.nx kk)
 have hz23:=kk.size
 clear kk hw3 hg7
 go_upto_region 2 with fail
 rw [← Hg7.out,← Hw3.out]
 clear Hg7 Hw3
 have hFl:F.peers.length≤1000:=by have:=CL.out.1;have:=HL.out;omega
 have hMl:F.msgs.length≤1000000:=by have:=CL.out.2.1;have:=HM.out;omega
 have FOH:=lH FO
 clear FO
 by_cases h0:i<0
 ·have ET:=lH (DO.out i (.inl h0))
  have r0:=B6.cell 0 _ rfl
  have r1:=B6.cell 1 _ rfl
  have f0:=B6.free 0
  have f1:=B6.free 1
  have p0:=B7.cell 0 _ rfl
  have p1:=B7.cell 1 _ rfl
  have B8H:=lH B6
  clear h B6 B7
  go_wp2_with fail
  obtain ⟨wz,hwz⟩:∃ wz,wz=(w3.setCell ⟨g6,0,none⟩ (.slice aP F.peers.length cP)).setCell ⟨g6,1,none⟩ (.slice aM F.msgs.length cM):=⟨_,rfl⟩
  have BZ:Blk wz g6 [.slice aP F.peers.length cP,.slice aM F.msgs.length cM] 27:=by rw [hwz];exact (B8H.out.set 0 _).set 1 _
  have KB:Exb g6 w3 wz:=by rw [hwz];exact ((Exb.refl g6 _).setB (p:=⟨g6,0,none⟩) _ rfl).setB (p:=⟨g6,1,none⟩) _ rfl
  have KE:Ex w wz:=by rw [hwz];exact (K3.out.setNew (p:=⟨g6,0,none⟩) _ zg6).setNew (p:=⟨g6,1,none⟩) _ zg6
  have FF:=lH ((FOH.out.nxb hb6 KB).lower K1.out.size)
  rw [← hwz]
  have q0:=BZ.cell 0 _ rfl
  have q1:=BZ.cell 1 _ rfl
  clear r0 r1 f0 f1 p0 p1 hwz
  refine bodyPost_ret (v:=.agg #[.slice aP F.peers.length cP,.slice aM F.msgs.length cM]) (by simp [results,Tryz.results29,go_sem, *]) rfl ⟨_,_,qs,rfl,by rw [ET.out];exact FF.out,KE⟩
 obtain ⟨j,rfl⟩:=Int.eq_ofNat_of_zero_le (show 0≤i by omega)
 by_cases hj:j<F.msgs.length
 case neg =>
  have ET:=lH (DO.out j (.inr (by omega)))
  have h1:(F.msgs.length:Int)≤(j:Int):=by omega
  have r0:=B6.cell 0 _ rfl
  have r1:=B6.cell 1 _ rfl
  have f0:=B6.free 0
  have f1:=B6.free 1
  have p0:=B7.cell 0 _ rfl
  have p1:=B7.cell 1 _ rfl
  have B8H:=lH B6
  clear h B6 B7
  go_wp2_with fail
  obtain ⟨wz,hwz⟩:∃ wz,wz=(w3.setCell ⟨g6,0,none⟩ (.slice aP F.peers.length cP)).setCell ⟨g6,1,none⟩ (.slice aM F.msgs.length cM):=⟨_,rfl⟩
  have BZ:Blk wz g6 [.slice aP F.peers.length cP,.slice aM F.msgs.length cM] 27:=by rw [hwz];exact (B8H.out.set 0 _).set 1 _
  have KB:Exb g6 w3 wz:=by rw [hwz];exact ((Exb.refl g6 _).setB (p:=⟨g6,0,none⟩) _ rfl).setB (p:=⟨g6,1,none⟩) _ rfl
  have KE:Ex w wz:=by rw [hwz];exact (K3.out.setNew (p:=⟨g6,0,none⟩) _ zg6).setNew (p:=⟨g6,1,none⟩) _ zg6
  have FF:=lH ((FOH.out.nxb hb6 KB).lower K1.out.size)
  rw [← hwz]
  have q0:=BZ.cell 0 _ rfl
  have q1:=BZ.cell 1 _ rfl
  clear r0 r1 f0 f1 p0 p1 hwz
  refine bodyPost_ret (v:=.agg #[.slice aP F.peers.length cP,.slice aM F.msgs.length cM]) (by simp [results,Tryz.results29,go_sem, *]) rfl ⟨_,_,qs,rfl,by rw [ET.out];exact FF.out,KE⟩
 clear h0 DO
 have h1:(j:Int)<(F.msgs.length:Int):=by omega
 have LTM:=lH (fun g' hg'=>(FOH.out.2.lt g' hg').2)
 obtain ⟨a',c',e',SLM,_,_⟩:=FOH.out.2.sl3 (fun _=>rfl)
 cases e'
 obtain ⟨x8,o8,m,he8,hx8,hmj,hc8⟩:=SLM.at hj
 have e0:=hc8 0 _ rfl
 have e1:=hc8 1 _ rfl
 subst he8
 rw [Nat.add_zero] at e0
 have DE:=lH (DA.out j m hmj)
 have p1:=B7.cell 1 _ rfl
 have hl7:=B7.lt
 clear hc8 hmj SLM DA
 have B8:=Blk.new w3 [.int .i64 m.1,.int .i64 m.2] 78
 have kk:=Ex.new w3 (.cells #[.int .i64 m.1,.int .i64 m.2] 78)
 obtain ⟨w4,hw4⟩:∃ w4,w4=w3.alloc (.cells #[.int .i64 m.1,.int .i64 m.2] 78):=⟨_,rfl⟩
 obtain ⟨g8,hg8⟩:∃ g8,g8=w3.heap.size:=⟨_,rfl⟩
 replace B8:Blk w4 g8 [.int .i64 m.1,.int .i64 m.2] 78:=by rw [hw4,hg8];exact B8
 rw [← hw4] at kk
 have Hw4:=lH hw4
 have Hg8:=lH hg8
 replace h:=h.nx kk
 replace B6:=B6.nx kk
 replace B7:=B7.nx kk
 replace FOH:=lH (FOH.out.nx kk)
 replace K3:=lH (K3.out.nx kk)
 replace K12:=lH (K12.out.nx kk)
 have zg8:w3.heap.size≤g8:=by omega
 have h68:¬ g6=g8:=by have:=B6.lt;have:=hb6;have:=hz12;omega
 have h87:¬ g8=g7:=by omega
 have hz34:=kk.size
 clear kk hw4 hg8
 go_upto_region 5 with fail
 rw [← Hg8.out,← Hw4.out]
 clear Hg8 Hw4
 clear e0 e1 p1
 have p1:=B7.cell 1 _ rfl
 have jw:IntKind.i64.wrap ((j:Int)+1)=(j:Int)+1:=IntWalk.i64_in _ (by omega)
 have OMH:=lH FOH.out.2
 go_wp2_with fail
 (with_reducible refine (delete_io _ _ j w1 _ OMH.out hj (by omega) K12.out).mono ?_)
 rintro e w5 ⟨v9,rfl,own9,k5,ch⟩
 obtain ⟨MM,hMM⟩:∃ MM,MM=F.msgs.eraseIdx j:=⟨_,rfl⟩
 rw [← hMM] at own9 DE
 clear hMM
 obtain ⟨aM9,cM9,rfl,_⟩:=own9.rd (fun _=>rfl)
 have A6:=lH (B6.app FOH.out.2 (by decide) ch)
 have A7:=lH (B7.app FOH.out.2 (by decide) ch)
 have A8:=lH (B8.chg ch ⟨B8.lt,fun hh=>by have:=LTM.out g8 hh;omega⟩)
 have FP:=lH (FOH.out.1.oth FOH.out.2 (by decide) (by decide) (by decide) ch)
 have K5:=lH (show Ex w w5 from Chg.trans K3.out (ch.mono (fun x hx=>⟨Nat.lt_of_lt_of_le hx K3.out.size,fun hh=>by have:=(FOH.out.2.lt x hh).1;have:=K1.out.size;omega⟩)))
 have FM:=lH own9
 have p1:=A7.out.cell 1 _ rfl
 have f1:=A7.out.free 1
 have hz45:=ch.size
 clear ch k5 own9 h B6 B7 B8 FOH LTM K12 jw h1
 go_upto_region 6 with fail
 obtain ⟨wz,hwz⟩:∃ wz,wz=w5.setCell ⟨g7,1,none⟩ (.slice aM9 MM.length cM9):=⟨_,rfl⟩
 rw [← hwz]
 have kb:Exb g7 w5 wz:=by rw [hwz];exact (Exb.refl g7 _).setB (p:=⟨g7,1,none⟩) _ rfl
 have B7:Blk wz g7 [.slice aP F.peers.length cP,.slice aM9 MM.length cM9] 27:=by rw [hwz];exact A7.out.set 1 _
 have zw7:w.heap.size≤g7:=by have:=K1.out.size;omega
 have KZ:=lH (show Ex w wz from by rw [hwz];exact K5.out.setNew (p:=⟨g7,1,none⟩) _ zw7)
 replace FP:=lH (FP.out.putB A7.out (by decide) (by decide) (by decide) kb)
 replace FM:=lH (FM.out.put A7.out (by decide) kb)
 have B6:=A6.out.nxb h67 kb
 have B8:=A8.out.nxb h87 kb
 have h:=HS0.out.nx KZ.out
 have FOH:=lH (show FlOwn w1.heap.size wz (.slice aP F.peers.length cP) (.slice aM9 MM.length cM9) qs ⟨F.peers,MM⟩ from ⟨FP.out,FM.out⟩)
 have hz5:w2.heap.size≤wz.heap.size:=by have:=kb.size;omega
 clear p1 f1 hwz kb A6 A7 A8 FP FM
 have y1:=B8.cell 1 _ rfl
 go_wp2_with fail
 (with_reducible refine (find_p _ _ _ _ m.2 _ h (by omega)).mono ?_)
 rintro e w6 ⟨rfl,kk⟩
 replace h:=h.nx kk
 replace B6:=B6.nx kk
 replace B7:=B7.nx kk
 replace B8:=B8.nx kk
 replace FOH:=lH (FOH.out.nx kk)
 replace KZ:=lH (KZ.out.nx kk)
 have hz56:=kk.size
 clear kk y1
 obtain ⟨G,hG⟩:∃ G,G=findN N m.2:=⟨_,rfl⟩
 rw [← hG] at DE ⊢
 clear hG
 obtain ⟨⟨xi,xk,xw⟩,ok⟩:=G
 have B9:=Blk.new w6 [.int .i64 xi,.string xk,.int .u32 xw] 60
 have kk:=Ex.new w6 (.cells #[.int .i64 xi,.string xk,.int .u32 xw] 60)
 obtain ⟨w7,hw7⟩:∃ w7,w7=w6.alloc (.cells #[.int .i64 xi,.string xk,.int .u32 xw] 60):=⟨_,rfl⟩
 obtain ⟨g9,hg9⟩:∃ g9,g9=w6.heap.size:=⟨_,rfl⟩
 replace B9:Blk w7 g9 [.int .i64 xi,.string xk,.int .u32 xw] 60:=by rw [hw7,hg9];exact B9
 rw [← hw7] at kk
 have Hw7:=lH hw7
 have Hg9:=lH hg9
 replace h:=h.nx kk
 replace B6:=B6.nx kk
 replace B7:=B7.nx kk
 replace B8:=B8.nx kk
 replace FOH:=lH (FOH.out.nx kk)
 replace KZ:=lH (KZ.out.nx kk)
 have hz67:=kk.size
 clear kk hw7 hg9
 simp only [Nd.val]
 go_upto_region 7 with fail
 rw [← Hg9.out,← Hw7.out]
 clear Hg9 Hw7
 have PI:=del1_p g8 m w7 B8
 have PLH:=lH (show PL w7 aP F.peers.length F.peers from by
  obtain ⟨a',c',e',r',_⟩:=FOH.out.1.pl
  cases e'
  exact r')
 have p0:=B7.cell 0 _ rfl
 go_wp2_with fail
 (with_reducible refine (idxf_pr _ _ _ EG.out _ _ _ F.peers _ PLH.out (by omega) PI).mono ?_)
 rintro e w8 ⟨rfl,kk⟩
 replace h:=h.nx kk
 replace B6:=B6.nx kk
 replace B7:=B7.nx kk
 replace B8:=B8.nx kk
 replace FOH:=lH (FOH.out.nx kk)
 replace KZ:=lH (KZ.out.nx kk)
 have hz78:=kk.size
 clear kk PI p0 PLH B9
 rcases idxQ_cases F.peers m.1 with ⟨k,y,hq,hkl,hyk,hpy,hyi⟩ | ⟨hq,-⟩
 case inr =>
  have ET:Hid (delF N ⟨P,M⟩ j=⟨F.peers,MM⟩):=lH (by rw [DE.out,tell_none hq];simp)
  rw [hq]
  have r0:=B6.cell 0 _ rfl
  have r1:=B6.cell 1 _ rfl
  have f0:=B6.free 0
  have f1:=B6.free 1
  have p0:=B7.cell 0 _ rfl
  have p1:=B7.cell 1 _ rfl
  have B8H:=lH B6
  clear h B6 B7
  go_wp2_with fail
  obtain ⟨wz,hwz⟩:∃ wz,wz=(w8.setCell ⟨g6,0,none⟩ (.slice aP F.peers.length cP)).setCell ⟨g6,1,none⟩ (.slice aM9 MM.length cM9):=⟨_,rfl⟩
  have BZ:Blk wz g6 [.slice aP F.peers.length cP,.slice aM9 MM.length cM9] 27:=by rw [hwz];exact (B8H.out.set 0 _).set 1 _
  have KB:Exb g6 w8 wz:=by rw [hwz];exact ((Exb.refl g6 _).setB (p:=⟨g6,0,none⟩) _ rfl).setB (p:=⟨g6,1,none⟩) _ rfl
  have KE:Ex w wz:=by rw [hwz];exact (KZ.out.setNew (p:=⟨g6,0,none⟩) _ zg6).setNew (p:=⟨g6,1,none⟩) _ zg6
  have FF:=lH ((FOH.out.nxb hb6 KB).lower K1.out.size)
  rw [← hwz]
  have q0:=BZ.cell 0 _ rfl
  have q1:=BZ.cell 1 _ rfl
  clear r0 r1 f0 f1 p0 p1 hwz
  refine bodyPost_ret (v:=.agg #[.slice aP F.peers.length cP,.slice aM9 MM.length cM9]) (by simp [results,Tryz.results29,go_sem, *]) rfl ⟨_,_,qs,rfl,by rw [ET.out];exact FF.out,KE⟩
 have kk0:(0:Int)≤(k:Int):=by omega
 rw [hq]
 cases ok with
 | false =>
  have ET:Hid (delF N ⟨P,M⟩ j=⟨F.peers,MM⟩):=lH (by rw [DE.out];simp)
  clear hq hkl hyk hpy hyi
  have r0:=B6.cell 0 _ rfl
  have r1:=B6.cell 1 _ rfl
  have f0:=B6.free 0
  have f1:=B6.free 1
  have p0:=B7.cell 0 _ rfl
  have p1:=B7.cell 1 _ rfl
  have B8H:=lH B6
  clear h B6 B7
  go_wp2_with fail
  obtain ⟨wz,hwz⟩:∃ wz,wz=(w8.setCell ⟨g6,0,none⟩ (.slice aP F.peers.length cP)).setCell ⟨g6,1,none⟩ (.slice aM9 MM.length cM9):=⟨_,rfl⟩
  have BZ:Blk wz g6 [.slice aP F.peers.length cP,.slice aM9 MM.length cM9] 27:=by rw [hwz];exact (B8H.out.set 0 _).set 1 _
  have KB:Exb g6 w8 wz:=by rw [hwz];exact ((Exb.refl g6 _).setB (p:=⟨g6,0,none⟩) _ rfl).setB (p:=⟨g6,1,none⟩) _ rfl
  have KE:Ex w wz:=by rw [hwz];exact (KZ.out.setNew (p:=⟨g6,0,none⟩) _ zg6).setNew (p:=⟨g6,1,none⟩) _ zg6
  have FF:=lH ((FOH.out.nxb hb6 KB).lower K1.out.size)
  rw [← hwz]
  have q0:=BZ.cell 0 _ rfl
  have q1:=BZ.cell 1 _ rfl
  clear r0 r1 f0 f1 p0 p1 hwz
  refine bodyPost_ret (v:=.agg #[.slice aP F.peers.length cP,.slice aM9 MM.length cM9]) (by simp [results,Tryz.results29,go_sem, *]) rfl ⟨_,_,qs,rfl,by rw [ET.out];exact FF.out,KE⟩
 | true =>
  have y0:=B8.cell 0 _ rfl
  have y1:=B8.cell 1 _ rfl
  by_cases hne:m.1=m.2
  ·have ET:Hid (delF N ⟨P,M⟩ j=⟨F.peers,MM⟩):=lH (by rw [DE.out];simp [hne])
   have d1:(m.1 != m.2)=false:=by simpa using hne
   clear hq hkl hyk hpy hyi hne
   have r0:=B6.cell 0 _ rfl
   have r1:=B6.cell 1 _ rfl
   have f0:=B6.free 0
   have f1:=B6.free 1
   have p0:=B7.cell 0 _ rfl
   have p1:=B7.cell 1 _ rfl
   have B8H:=lH B6
   clear h B6 B7
   go_wp2_with fail
   obtain ⟨wz,hwz⟩:∃ wz,wz=(w8.setCell ⟨g6,0,none⟩ (.slice aP F.peers.length cP)).setCell ⟨g6,1,none⟩ (.slice aM9 MM.length cM9):=⟨_,rfl⟩
   have BZ:Blk wz g6 [.slice aP F.peers.length cP,.slice aM9 MM.length cM9] 27:=by rw [hwz];exact (B8H.out.set 0 _).set 1 _
   have KB:Exb g6 w8 wz:=by rw [hwz];exact ((Exb.refl g6 _).setB (p:=⟨g6,0,none⟩) _ rfl).setB (p:=⟨g6,1,none⟩) _ rfl
   have KE:Ex w wz:=by rw [hwz];exact (KZ.out.setNew (p:=⟨g6,0,none⟩) _ zg6).setNew (p:=⟨g6,1,none⟩) _ zg6
   have FF:=lH ((FOH.out.nxb hb6 KB).lower K1.out.size)
   rw [← hwz]
   have q0:=BZ.cell 0 _ rfl
   have q1:=BZ.cell 1 _ rfl
   clear r0 r1 f0 f1 p0 p1 hwz
   refine bodyPost_ret (v:=.agg #[.slice aP F.peers.length cP,.slice aM9 MM.length cM9]) (by simp [results,Tryz.results29,go_sem, *]) rfl ⟨_,_,qs,rfl,by rw [ET.out];exact FF.out,KE⟩
  ·have d1:(m.1 != m.2)=true:=by simpa using hne
   have ET:Hid (delF N ⟨P,M⟩ j=⟨F.peers.set k { y with known:=ordN N (y.known++[m.2]) y.id },MM⟩):=lH (by
    rw [DE.out,tell_one hyk (CU.out k y hyk) hyi]
    simp [hne])
   have HYK:=lH hyk
   have HYI:=lH hyi
   have H0:=lH (CL.out.2.2 (by omega))
   have hkl2:(k:Int)<(F.peers.length:Int):=by omega
   have hyP:=CS.out y (List.mem_of_getElem? hyk)
   obtain ⟨g,hge,hgb⟩:=HGP.out (fun h0=>by rw [h0] at hkl;simp at hkl)
   subst hge
   clear hq hyk hpy hyi hne
   go_upto_region 9 with fail
   obtain ⟨⟨A1,m1,c1⟩,⟨A4,m4,c4⟩,hqs,oK,oN⟩:=FOH.out.1.get HYK.out
   have HQ:=lH hqs
   have OK:=lH oK
   have HS8:=lH h
   have B6H:=lH B6
   have B7H:=lH B7
   have B8H:=lH B8
   clear h B6 B7 B8 hqs oK oN y0 y1
   refine wp_region_late_drew (S:=(fun x=>Chg (fun k=>k<w8.heap.size∧¬ (Hdr.val (A1,m1,c1)).ownBlock=some k) w8 x)) [20] (by kernel_rfl) (Chg.mono (Ex.refl w8).drew (fun k hk=>hk.1)) (fun hHeld=>?_)
   obtain ⟨wd,hwdx⟩:∃ wd:World,wd=World.drew w8:=⟨_,rfl⟩
   rw [← hwdx] at hHeld ⊢
   have hDrew:Ex w8 wd:=by rw [hwdx];exact (Ex.refl w8).drew
   clear hwdx
   refine tkL 0 (v:=?_) rfl (by kernel_rfl) (fun _ _ _ h=>h) (by rfl) ?y1x0q5 (by assumption) ?z1x0q5
   case y1x0q5=>intro wq hSw;(go_simp);(try with_reducible rfl)
   refine tkL 1 (v:=?_) rfl (by kernel_rfl) (fun _ _ _ h=>h) (by rfl) ?y1x1q8 (by assumption) ?z1x1q8
   case y1x1q8=>intro wq hSw;(have cq:=(B7H.out.app OK.out (by decide) hSw).cell 0 _ rfl;go_simp);(try with_reducible rfl)
   refine tkL 2 (v:=?_) rfl (by kernel_rfl) (fun _ _ _ h=>h) (by rfl) ?y1x2q11 (by assumption) ?z1x2q11
   case y1x2q11=>intro wq hSw;(go_simp);(try with_reducible rfl)
   refine tkL 3 (v:=?_) rfl (by kernel_rfl) (fun _ _ _ h=>h) (by rfl) ?y1x3q14 (by assumption) ?z1x3q14
   case y1x3q14=>intro wq hSw;(go_simp);(try with_reducible rfl)
   refine tkL 4 (v:=?_) rfl (by kernel_rfl) (fun _ _ _ h=>h) (by rfl) ?y1x4q17 (by assumption) ?z1x4q17
   case y1x4q17=>intro wq hSw;(go_simp);(try with_reducible rfl)
   refine tkL 5 (v:=?_) rfl (by kernel_rfl) (fun _ _ _ h=>h) (by rfl) ?y1x5q20 (by assumption) ?z1x5q20
   case y1x5q20=>intro wq hSw;(have cq:=(B8H.out.app OK.out (by decide) hSw).cell 0 _ rfl;go_simp);(try with_reducible rfl)
   refine tkL 6 (v:=?_) rfl (by kernel_rfl) (fun _ _ _ h=>h) (by rfl) ?y1x6q23 (by assumption) ?z1x6q23
   case y1x6q23=>intro wq hSw;(go_simp);(try with_reducible rfl)
   refine tkL 7 (v:=?_) rfl (by kernel_rfl) (fun _ _ _ h=>h) (by rfl) ?y1x7q26 (by assumption) ?z1x7q26
   case y1x7q26=>intro wq hSw;(have cq:=(B7H.out.app OK.out (by decide) hSw).cell 0 _ rfl;go_simp);(try with_reducible rfl)
   refine tkL 8 (v:=?_) rfl (by kernel_rfl) (fun _ _ _ h=>h) (by rfl) ?y1x8q29 (by assumption) ?z1x8q29
   case y1x8q29=>intro wq hSw;(go_simp);(try with_reducible rfl)
   refine tkL 9 (v:=?_) rfl (by kernel_rfl) (fun _ _ _ h=>h) (by rfl) ?y1x9q32 (by assumption) ?z1x9q32
   case y1x9q32=>intro wq hSw;(go_simp);(try with_reducible rfl)
   refine tkL 10 (v:=?_) rfl (by kernel_rfl) (fun _ _ _ h=>h) (by rfl) ?y1x10q35 (by assumption) ?z1x10q35
   case y1x10q35=>intro wq hSw;(go_simp);(try with_reducible rfl)
   refine tkL 11 (v:=?_) rfl (by kernel_rfl) (fun _ _ _ h=>h) (by rfl) ?y1x11q38 (by assumption) ?z1x11q38
   case y1x11q38=>intro wq hSw;(have cq:=(FOH.out.1.rowc (by decide) HQ.out hSw).1;simp only [Hdr.val] at cq;go_simp);(try with_reducible rfl)
   refine tkL 12 (v:=?_) rfl (by kernel_rfl) (fun _ _ _ h=>h) (by rfl) ?y1x12q41 (by assumption) ?z1x12q41
   case y1x12q41=>intro wq hSw;(go_simp);(try with_reducible rfl)
   refine tkL 13 (v:=?_) rfl (by kernel_rfl) (fun _ _ _ h=>h) (by rfl) ?y1x13q44 (by assumption) ?z1x13q44
   case y1x13q44=>intro wq hSw;(have cq:=(B8H.out.app OK.out (by decide) hSw).cell 1 _ rfl;go_simp);(try with_reducible rfl)
   refine wpAnyL_ready (rs:=[14]) (by kernel_rfl) (by simp) ?_
   refine AllReadyL.cons (o:=⟨_,_,_,_,_,_⟩) rfl (fun K hK=>?_) AllReadyL.nil
   go_simp
   obtain ⟨gx,wq,hgx,hwq,SX,kk⟩:=litF (wp:=w8) (u:=wd) hDrew.size m.2
   rw [← hgx,← hwq]
   clear hgx hwq
   have H5:=hDrew.nx kk
   replace hHeld:Chg (fun k=>k<w8.heap.size∧¬ (Hdr.val (A1,m1,c1)).ownBlock=some k) w8 wq:=Chg.mono H5 (fun k hk=>hk.1)
   clear kk
   refine hK.out _ _ (hHeld) (fun hHeld=>?_)
   clear hK K
   refine wpAnyL_ready (rs:=[15]) (by kernel_rfl) (by simp) ?_
   refine AllReadyL.cons (o:=⟨_,_,_,_,_,_⟩) rfl (fun K hK=>?_) AllReadyL.nil
   rw [if_pos (by rfl)]
   have rx:=OK.out.nx H5
   simp only [Hdr.val] at rx
   have zbase:w1.heap.size≤wq.heap.size:=by have:=H5.size;omega
   refine wp_append_rda (enc:=encI) _ (.tmp 71) (.tmp 74) 22 rfl w1.heap.size 3 (.int .i64 0) 1 8 Tryz.underlying22 Tryz.infoI6 rfl (by omega) (by omega) _ y.known rx rfl _ _ 1 1 [m.2] SX (fun h=>by cases h) (fun _=>rfl) (by simp [encI,Value.oneCell']) rfl (by omega) (by omega) zbase ?_
   intro va wa A ch0 ch1 hva
   obtain ⟨LL,hLL⟩:∃ LL,LL=y.known++[m.2]:=⟨_,rfl⟩
   rw [← hLL] at A
   have HLL:=lH hLL
   clear hLL
   obtain ⟨A9,C9,rfl,SA,_,_,_⟩:=A.rd (fun _=>rfl)
   replace hHeld:Chg (fun k=>k<w8.heap.size∧¬ (Hdr.val (A1,m1,c1)).ownBlock=some k) w8 wa:=Chg.trans hHeld (ch0.mono (fun x hx=>⟨Nat.lt_of_lt_of_le hx.1 H5.size,hx.2⟩))
   have HA:=lH hHeld
   have KA:=lH (show Ex w wa from Chg.trans (KZ.out.nx H5) (ch1.mono (fun x hx=>Nat.lt_of_lt_of_le hx K1.out.size)))
   have SA2:Sl 1 encI wa A9 LL.length LL:=Rd.mono SA (fun _ hk=>hk.2)
   have hLLn:LL.length≤4000000000000000000:=by rw [HLL.out];simp;omega
   clear ch0 ch1 hva rx H5 zbase SX SA A
   refine hK.out _ _ (hHeld) (fun hHeld=>?_)
   clear hK K
   refine tkL 16 (v:=?_) rfl (by kernel_rfl) (fun _ _ _ h=>h) (by rfl) ?y1x16q81 (by assumption) ?z1x16q81
   case y1x16q81=>intro wq hSw;(go_simp);(try with_reducible rfl)
   refine wpAnyL_ready (rs:=[17]) (by kernel_rfl) (by simp) ?_
   refine AllReadyL.cons (o:=⟨_,_,_,_,_,_⟩) rfl (fun K hK=>?_) AllReadyL.nil
   go_simp
   (with_reducible refine (refs_p _ _ _ N ⟨m.1,0,0,LL,[]⟩ _ _ _ none 0 0 _ (HS0.out.nx KA.out) hn hc hm SA2 (Sl.nil _ _ _ _) hLLn (by omega)).mono ?_)
   rintro e wb ⟨vK,rfl,oR,kk⟩
   rw [refs_told H0.out,← HYI.out] at oR
   obtain ⟨aK,cK,rfl,_⟩:=oR.rd (fun _=>rfl)
   have hza:=hHeld.size
   have HB:Chg (fun k=>k<w8.heap.size∧¬ (Hdr.val (A1,m1,c1)).ownBlock=some k) w8 wb:=Chg.trans hHeld (Chg.mono kk (fun x hx=>Nat.lt_of_lt_of_le hx.1 hza))
   obtain ⟨s1,s2,O9⟩:=FOH.out.1.growK (hk':=(aK,(ordN N LL y.id).length,cK)) (by decide) (by decide) (by decide) HQ.out HYK.out (oR.base (by omega)) HB (fun g' hg'=>.inr (by have:=(oR.lt g' hg').1;omega))
   simp only [Hdr.val] at s1 O9
   have OWN5:=lH O9
   have KB:=lH (KA.out.nx kk)
   have HBH:=lH HB
   replace hHeld:=HB
   clear HB O9 kk oR SA2 hLLn
   refine hK.out _ _ (hHeld) (fun hHeld=>?_)
   clear hK K
   refine tkL 18 (v:=?_) rfl (by kernel_rfl) (fun _ _ _ h=>h) (by rfl) ?y1x18q103 (by assumption) ?z1x18q103
   case y1x18q103=>intro wq hSw;(go_simp);(try with_reducible rfl)
   refine tkL 19 (v:=?_) rfl (by kernel_rfl) (fun _ _ _ h=>h) (by rfl) ?y1x19q106 (by assumption) ?z1x19q106
   case y1x19q106=>intro wq hSw;(go_simp);(try with_reducible rfl)
   refine wpAnyL_ready (rs:=[20]) (by kernel_rfl) (by simp) ?_
   refine AllReadyL.consL (o:=⟨_,_,_,_,_,_⟩) rfl (by rfl) (fun K hK=>?_) AllReadyL.nil
   go_simp
   refine hK.out _ _ ?_
   clear hK K
   refine wpAnyL_done (by kernel_rfl) ?_ _
   obtain ⟨wy,hwy⟩:∃ wy,wy=wb.setCell ⟨g,k*5+1,none⟩ (.slice aK (ordN N LL y.id).length cK):=⟨_,rfl⟩
   rw [← hwy]
   obtain ⟨qz,own5⟩:∃ qz,OwnPr w1.heap.size wy (.slice (some ⟨g,0,none⟩) F.peers.length cP) qz (F.peers.set k { y with known:=ordN N LL y.id }):=⟨_,by rw [hwy];exact OWN5.out⟩
   have ch:Chg (fun x=>x<wb.heap.size∧¬ x=g) wb wy:=by rw [hwy];exact set_chg wb _
   have B7b:=B7H.out.app OK.out (by decide) HBH.out
   have B6b:=B6H.out.app OK.out (by decide) HBH.out
   have FMb:=OwnL.app FOH.out.2 OK.out (by decide) HBH.out
   have rowb:=FOH.out.1.1.chg HBH.out (fun x hx hv=>⟨hx,fun hh=>FOH.out.1.neI (by decide) HQ.out hh hv⟩)
   have h7g:¬ g7=g:=fun he=>by subst he;obtain ⟨_,_,e2⟩:=rowb.blk rfl;exact blk_kind (by decide) e2 B7b
   have h6g:¬ g6=g:=by omega
   have FMy:=FMb.chg ch (fun x hx hv=>⟨hx,fun he=>by subst he;obtain ⟨_,_,e1⟩:=FMb.blk hv;obtain ⟨_,_,e2⟩:=rowb.blk rfl;exact blk_kind (by decide) e2 e1⟩)
   have FOY:=lH (show FlOwn w1.heap.size wy (.slice (some ⟨g,0,none⟩) F.peers.length cP) (.slice aM9 MM.length cM9) qz ⟨F.peers.set k { y with known:=ordN N LL y.id },MM⟩ from ⟨own5,FMy⟩)
   have B6:=B6b.chg ch ⟨B6b.lt,h6g⟩
   have B7:=B7b.chg ch ⟨B7b.lt,h7g⟩
   have KY:=lH (show Ex w wy from Chg.trans KB.out (ch.mono (fun x hx=>⟨Nat.lt_of_lt_of_le hx KB.out.size,fun he=>by have:=K1.out.size;omega⟩)))
   clear s1 s2 hwy own5 ch FMy OWN5 B6b B7b FMb rowb hHeld hDrew
   have r0:=B6.cell 0 _ rfl
   have r1:=B6.cell 1 _ rfl
   have f0:=B6.free 0
   have f1:=B6.free 1
   have p0:=B7.cell 0 _ rfl
   have p1:=B7.cell 1 _ rfl
   have B8H:=lH B6
   clear B6 B7
   go_wp2_with fail
   obtain ⟨wz,hwz⟩:∃ wz,wz=(wy.setCell ⟨g6,0,none⟩ (.slice (some ⟨g,0,none⟩) F.peers.length cP)).setCell ⟨g6,1,none⟩ (.slice aM9 MM.length cM9):=⟨_,rfl⟩
   have BZ:Blk wz g6 [.slice (some ⟨g,0,none⟩) F.peers.length cP,.slice aM9 MM.length cM9] 27:=by rw [hwz];exact (B8H.out.set 0 _).set 1 _
   have KB:Exb g6 wy wz:=by rw [hwz];exact ((Exb.refl g6 _).setB (p:=⟨g6,0,none⟩) _ rfl).setB (p:=⟨g6,1,none⟩) _ rfl
   have KE:Ex w wz:=by rw [hwz];exact (KY.out.setNew (p:=⟨g6,0,none⟩) _ zg6).setNew (p:=⟨g6,1,none⟩) _ zg6
   have FF:=lH ((FOY.out.nxb hb6 KB).lower K1.out.size)
   rw [← hwz]
   have q0:=BZ.cell 0 _ rfl
   have q1:=BZ.cell 1 _ rfl
   clear r0 r1 f0 f1 p0 p1 hwz
   refine bodyPost_ret (v:=.agg #[.slice (some ⟨g,0,none⟩) F.peers.length cP,.slice aM9 MM.length cM9]) (by simp [results,Tryz.results29,go_sem, *]) rfl ⟨_,_,_,rfl,by rw [ET.out,← HLL.out];exact FF.out,KE⟩
def SmF (f:Fl):Prop:=SmallP f.peers∧∀ p∈f.peers,p.known.length≤1000000
theorem cop_sm {N:List Nd} {f:Fl} (h:SmF f):SmF (copF N f):=⟨cop_small h.1,cop_few h.2⟩
theorem del_sm {N:List Nd} {f:Fl} (hN:N.length≤1000) (h:SmF f) (k:Int):SmF (delF N f k):=by
 have hc:=cop_sm (N:=N) h
 unfold delF
 split
 ·split
  ·exact hc
  ·split
   ·have key:∀ p∈(copF N f).peers.map (tellP N ‹_›),p.known.length≤1000000∧p.near.length≤4398046511104:=by
     intro p hp
     obtain ⟨q,hq,rfl⟩:=List.mem_map.1 hp
     have h1:=hc.1 q hq
     have h2:=hc.2 q hq
     unfold tellP
     split
     ·refine ⟨?_,h1.2⟩
      have:=ord_len (N:=N) (q.known++[(‹Int×Int›).2]) q.id
      show (ordN N _ _).length≤_
      omega
     ·exact ⟨h2,h1.2⟩
    exact ⟨fun p hp=>⟨by have:=(key p hp).1;omega,(key p hp).2⟩,fun p hp=>(key p hp).1⟩
   ·exact ⟨hc.1,hc.2⟩
 ·exact hc
theorem tick_sm {N:List Nd} {f:Fl} (hN:N.length≤1000) (h:SmF f) (id hh:Int):SmF (tickF N f id hh):=by
 have hc:=cop_sm (N:=N) h
 unfold tickF
 split
 ·rename_i hl
  have key:∀ p∈(copF N f).peers.map fun p=>if p.id=id then tickP N (peerN (copF N f).peers) p hh.toNat else p,p.known.length≤1000000∧p.near.length≤4398046511104:=by
   intro p hp
   obtain ⟨q,hq,rfl⟩:=List.mem_map.1 hp
   have h1:=hc.1 q hq
   have h2:=hc.2 q hq
   split
   ·have h3:=ord_len (N:=N) [(keepN N q).1,(keepN N q).2] q.id
    have h4:=nextB_len N (peerN (copF N f).peers) q hh.toNat
    have h5:=hl.1
    unfold lvlN at h5
    simp at h5
    refine ⟨?_,?_⟩
    ·show (ordN N _ _).length≤_
     omega
    ·show (nextB N _ _ _).length≤_
     omega
   ·exact ⟨h2,h1.2⟩
  exact ⟨fun p hp=>⟨by have:=(key p hp).1;omega,(key p hp).2⟩,fun p hp=>(key p hp).1⟩
 ·exact hc
theorem del_len {N:List Nd} {f:Fl} (h0:checkN N=0) {n j:Nat} (hm:f.msgs.length=n+1) (hj:j<n+1):(delF N f j).msgs.length=n:=by
 obtain ⟨m,hmj⟩:∃ m,f.msgs[j]?=some m:=⟨f.msgs[j]'(by omega),by simp⟩
 rw [del_some h0 hmj]
 show (f.msgs.eraseIdx j).length=n
 rw [List.length_eraseIdx,if_pos (by omega)]
 omega
theorem del_plen {N:List Nd} {f:Fl} (k:Int):(delF N f k).peers.length≤N.length:=by
 have h1:=(cop_len N f).1
 unfold delF
 split
 ·split
  ·exact h1
  ·show (if _ then _ else _:List Pr).length≤_
   split
   ·rw [List.length_map];exact h1
   ·exact h1
 ·exact h1
theorem tick_len {N:List Nd} {f:Fl} (h0:checkN N=0) (id hh:Int):(tickF N f id hh).msgs.length≤f.msgs.length+2*N.length:=by
 unfold tickF
 split
 ·show ((copF N f).msgs++_).length≤_
  rw [List.length_append,cop_msgs h0]
  have:=intros_len N (peerN (copF N f).peers id)
  omega
 ·rw [cop_msgs h0];omega
theorem round_yes {N:List Nd} {f:Fl} {ms ts:List Int} {h:Nat} (hh:h≤16) (h0:checkN N=0):roundF N f ms ts h=tickAllF N ts h N.length 0 ((sortN N).map Nd.id) (delAllF N ms (copF N f).msgs.length 0 (copF N f)):=by
 unfold roundF
 rw [if_pos ⟨by unfold lvlN;simp;omega,h0⟩]
theorem round_no1 {N:List Nd} {f:Fl} {ms ts:List Int} {h:Int} (hh:lvlN h=false):roundF N f ms ts h=⟨[],[]⟩:=by
 unfold roundF
 rw [if_neg (fun hx=>by rw [hh] at hx;cases hx.1)]
theorem round_no2 {N:List Nd} {f:Fl} {ms ts:List Int} {h:Int} (h0:¬ checkN N=0):roundF N f ms ts h=⟨[],[]⟩:=by
 unfold roundF
 rw [if_neg (fun hx=>h0 hx.2)]
theorem FlOwn.putB {base g':Nat} {w w':World} {v m:Value} {qs:List PQ} {F:Fl} {cs:List Value} {ty:TypeId} (h:FlOwn base w v m qs F) (B:Blk w g' cs ty) (n1:36≠ty) (n2:3≠ty) (n3:80≠ty) (n4:78≠ty) (k:Exb g' w w'):FlOwn base w' v m qs F :=
 ⟨h.1.putB B n1 n2 n3 k,OwnL.put h.2 B n4 k⟩
theorem FlOwn.two {base:Nat} {w:World} {v m:Value} {qs:List PQ} {F:Fl} (h:FlOwn base w v m qs F):∃ aP cP aM cM,v=.slice aP F.peers.length cP∧m=.slice aM F.msgs.length cM∧PL w aP F.peers.length F.peers∧Sl 2 encS w aM F.msgs.length F.msgs:=by
 obtain ⟨aP,cP,e1,p1,_⟩:=h.1.pl
 obtain ⟨aM,cM,e2,p2,_⟩:=h.2.sl3 (fun _=>rfl)
 exact ⟨aP,cP,aM,cM,e1,e2,p1,p2⟩
def RmRel (N:List Nd) (ms:List Int) (target:Fl) (g10 g11 gT:Nat) (w:World) (k:Nat) (wr:World):Prop :=
 ∃ (i:Nat) (aP:Option Addr) (cP:Nat) (aM:Option Addr) (cM:Nat) (qs:List PQ) (F:Fl),F.msgs.length=k∧Blk wr g11 [.slice aP F.peers.length cP,.slice aM F.msgs.length cM] 27 ∧
  FlOwn w.heap.size wr (.slice aP F.peers.length cP) (.slice aM F.msgs.length cM) qs F∧TurnB w wr gT (ms.drop i)∧Blk wr g10 [.slice none 0 0,.slice none 0 0] 27∧Ex w wr∧SmF F∧F.peers.length≤1000∧k≤1000000∧delAllF N ms k i F=target
theorem tick_plen {N:List Nd} {f:Fl} (id hh:Int):(tickF N f id hh).peers.length≤N.length:=by
 have h1:=(cop_len N f).1
 unfold tickF
 split
 ·show (List.map _ _).length≤_
  rw [List.length_map];exact h1
 ·exact h1
theorem FlOwn.oth {α:Type} {sz e base' base:Nat} {enc:α→List Value} {w w':World} {v v' m:Value} {qs:List PQ} {F:Fl} {l':List α} (h:FlOwn base w v m qs F) (own:OwnL sz enc e base' w v' l') (n1:36≠e) (n2:3≠e) (n3:80≠e) (n4:78≠e) (k:Chg (fun k=>k<w.heap.size∧¬ v'.ownBlock=some k) w w'):FlOwn base w' v m qs F :=
 ⟨h.1.oth own n1 n2 n3 k,OwnL.app h.2 own n4 k⟩
def TkRel (N:List Nd) (ts:List Int) (m:Nat) (target:Fl) (g10 g11 gT:Nat) (w:World) (k:Nat) (vL:Value) (wr:World):Prop :=
 ∃ (i:Nat) (aP:Option Addr) (cP:Nat) (aM:Option Addr) (cM:Nat) (qs:List PQ) (F:Fl) (L:List Nd),L.length=k∧i+k≤1000∧OwnL 3 encN 60 w.heap.size wr vL L∧Blk wr g11 [.slice aP F.peers.length cP,.slice aM F.msgs.length cM] 27 ∧
  FlOwn w.heap.size wr (.slice aP F.peers.length cP) (.slice aM F.msgs.length cM) qs F∧TurnB w wr gT (ts.drop i)∧Blk wr g10 [.slice none 0 0,.slice none 0 0] 27∧Ex w wr∧SmF F∧F.peers.length≤1000∧F.msgs.length≤i*2000∧tickAllF N ts m k i (L.map Nd.id) F=target
theorem erase_map {α β:Type} (f:α→β):∀ (l:List α) (k:Nat),(l.map f).eraseIdx k=(l.eraseIdx k).map f
 | [],_=>rfl
 | a::l,0=>rfl
 | a::l,k+1=>by
  show f a::(l.map f).eraseIdx k=f a::(l.eraseIdx k).map f
  rw [erase_map f l k]
theorem tk_step {N:List Nd} {ts:List Int} {m:Int} {k i p:Nat} {L:List Nd} {F:Fl} {y:Nd} (hp:p=headP (ts.drop i) (k+1)) (hy:L[p]?=some y):tickAllF N ts m (k+1) i (L.map Nd.id) F=tickAllF N ts m k (i+1) ((L.eraseIdx p).map Nd.id) (tickF N F y.id m):=by
 show tickAllF N ts m k (i+1) ((L.map Nd.id).eraseIdx (pickN ts i (k+1))) (tickF N F ((L.map Nd.id)[pickN ts i (k+1)]?.getD 0) m)=_
 rw [head_pick,← hp,List.getElem?_map,hy,erase_map]
 rfl
set_option maxRecDepth 100000 in
set_option maxHeartbeats 8000000 in
theorem round_f (a:Option Addr) (n c:Nat) (N:List Nd) (a2:Option Addr) (n2 c2:Nat) (P:List Pr) (a3:Option Addr) (n3 c3:Nat) (M:List (Int×Int)) (a4:Option Addr) (n4 c4:Nat) (ms:List Int) (a5:Option Addr) (n5 c5:Nat) (ts:List Int) (hh:Int) (w:World) (h:Sl 3 encN w a n N) (hn:n≤1000) (hc:n≤c) (hm:c≤maxLen) (hw:∀ x∈N,x.word<4294967296) (h2:PL w a2 n2 P) (hn2:n2≤4000000000000000000) (hS:SmF ⟨P,M⟩)
  (h3:Sl 2 encS w a3 n3 M) (hn3:n3≤1000000) (h4:Sl 1 encI w a4 n4 ms) (hc4:n4≤c4) (hm4:c4≤maxLen) (h5:Sl 1 encI w a5 n5 ts) (hc5:n5≤c5) (hm5:c5≤maxLen) :
  Calls Tryz.prog 34 #[.slice a n c,.agg #[.slice a2 n2 c2,.slice a3 n3 c3],.slice a4 n4 c4,.slice a5 n5 c5,.int .i64 hh] w (FlPost (roundF N ⟨P,M⟩ ms ts hh) w):=by
 have HW:=lH hw
 have HL:=lH h.len
 have HS0:=lH h
 have H4:=lH h4
 have H5:=lH h5
 have HSM:=lH hS
 have HSP:=lH hS.1
 have HM:=lH (h3.len:M.length=n3)
 have EGT:Hid (∀ args w,(callFunc 136 args).run Tryz.prog w=.ok (.enter 136 args) w):=lH (enters_of Tryz.func136 (by kernel_rfl) rfl)
 have RN1:=lH (fun hx=>round_no1 (N:=N) (f:=⟨P,M⟩) (ms:=ms) (ts:=ts) (h:=hh) hx)
 have RN2:=lH (fun hx=>round_no2 (N:=N) (f:=⟨P,M⟩) (ms:=ms) (ts:=ts) (h:=hh) hx)
 obtain ⟨g6,hg6⟩:∃ g6,g6=w.heap.size:=⟨_,rfl⟩
 obtain ⟨g10,hg10⟩:∃ g10,g10=(w.heap.size+1):=⟨_,rfl⟩
 obtain ⟨w1,hw1⟩:∃ w1,w1=((w.alloc (.cells #[.slice a2 n2 c2,.slice a3 n3 c3] 27)).alloc (.cells #[.slice none 0 0,.slice none 0 0] 27)):=⟨_,rfl⟩
 have kk:Ex w w1:=by rw [hw1];exact (((Ex.refl w).alloc (.cells #[.slice a2 n2 c2,.slice a3 n3 c3] 27)).alloc (.cells #[.slice none 0 0,.slice none 0 0] 27))
 have B6:Blk w1 g6 [.slice a2 n2 c2,.slice a3 n3 c3] 27:=by rw [hw1];simp only [hg6,hg10];have hbk:=((Blk.new w [.slice a2 n2 c2,.slice a3 n3 c3] 27).nx (Ex.new _ (.cells #[.slice none 0 0,.slice none 0 0] 27)));simpa using hbk
 have B10:Blk w1 g10 [.slice none 0 0,.slice none 0 0] 27:=by rw [hw1];simp only [hg6,hg10];have hbk:=(Blk.new (w.alloc (.cells #[.slice a2 n2 c2,.slice a3 n3 c3] 27)) [.slice none 0 0,.slice none 0 0] 27);simpa using hbk
 have Hw1:=lH hw1
 have Hg6:=lH hg6
 have Hg10:=lH hg10
 replace h:=h.nx kk
 replace h2:=h2.nx kk
 replace h3:=h3.nx kk
 have zg10:w.heap.size≤g10:=by omega
 have K1:=lH kk
 clear kk hw1 hg6 hg10 hw hS h4 h5
 go_enter Tryz.func34,Tryz.ntmps34
 go_upto_region 1 with fail
 rw [← Hw1.out,← Hg10.out,← Hg6.out]
 clear Hw1 Hg10 Hg6
 go_wp2_with fail
 (with_reducible refine (check_p _ _ _ _ _ h (by omega) hc hm).mono ?_)
 rintro e w2 ⟨rfl,kk⟩
 replace h:=h.nx kk
 replace h2:=h2.nx kk
 replace h3:=h3.nx kk
 replace B6:=B6.nx kk
 replace B10:=B10.nx kk
 have K2:=lH (K1.out.nx kk)
 clear kk
 by_cases hck:checkN N=0
 case neg =>
  have d1:(checkN N != 0)=true:=by simpa using hck
  have ET:=lH (RN2.out hck)
  clear hck
  have r0:=B10.cell 0 _ rfl
  have r1:=B10.cell 1 _ rfl
  have f0:=B10.free 0
  have f1:=B10.free 1
  have KE:=lH ((K2.out.setNew (p:=⟨g10,0,none⟩) (.slice none 0 0) zg10).setNew (p:=⟨g10,1,none⟩) (.slice none 0 0) zg10)
  clear h h2 h3 B6 B10
  go_wp2_with fail
  refine bodyPost_ret (v:=.agg #[.slice none 0 0,.slice none 0 0]) (by simp [results,Tryz.results34,go_sem, *]) rfl ⟨_,_,[],rfl,by rw [ET.out];exact FlOwn.nil _ _,KE.out⟩
 have d1:(checkN N != 0)=false:=by simpa using hck
 have HC:=lH hck
 clear hck
 by_cases hlo:hh<0
 ·have ET:=lH (RN1.out (by unfold lvlN;simp;omega))
  have r0:=B10.cell 0 _ rfl
  have r1:=B10.cell 1 _ rfl
  have f0:=B10.free 0
  have f1:=B10.free 1
  have KE:=lH ((K2.out.setNew (p:=⟨g10,0,none⟩) (.slice none 0 0) zg10).setNew (p:=⟨g10,1,none⟩) (.slice none 0 0) zg10)
  clear h h2 h3 B6 B10
  go_wp2_with fail
  refine bodyPost_ret (v:=.agg #[.slice none 0 0,.slice none 0 0]) (by simp [results,Tryz.results34,go_sem, *]) rfl ⟨_,_,[],rfl,by rw [ET.out];exact FlOwn.nil _ _,KE.out⟩
 by_cases hhi:hh>16
 ·have ET:=lH (RN1.out (by unfold lvlN;simp;omega))
  have r0:=B10.cell 0 _ rfl
  have r1:=B10.cell 1 _ rfl
  have f0:=B10.free 0
  have f1:=B10.free 1
  have KE:=lH ((K2.out.setNew (p:=⟨g10,0,none⟩) (.slice none 0 0) zg10).setNew (p:=⟨g10,1,none⟩) (.slice none 0 0) zg10)
  clear h h2 h3 B6 B10
  go_wp2_with fail
  refine bodyPost_ret (v:=.agg #[.slice none 0 0,.slice none 0 0]) (by simp [results,Tryz.results34,go_sem, *]) rfl ⟨_,_,[],rfl,by rw [ET.out];exact FlOwn.nil _ _,KE.out⟩
 obtain ⟨m,rfl⟩:=Int.eq_ofNat_of_zero_le (show 0≤hh by omega)
 have hm16:m≤16:=by omega
 have RY:=lH (round_yes (N:=N) (f:=⟨P,M⟩) (ms:=ms) (ts:=ts) hm16 HC.out)
 have NF:=normal_f a n c N a2 n2 c2 P a3 n3 c3 M
 have CL:=lH (cop_len N ⟨P,M⟩)
 have CS:=lH (cop_sm (N:=N) HSM.out)
 obtain ⟨F,hF⟩:∃ F,F=copF N ⟨P,M⟩:=⟨_,rfl⟩
 rw [← hF] at NF CL CS RY
 clear hF RN1 RN2
 go_upto_region 3 with fail
 have q0:=B6.cell 0 _ rfl
 have q1:=B6.cell 1 _ rfl
 go_wp2_with fail
 (with_reducible refine (NF w2 h hn hc hm h2 hn2 HSP.out h3 (by omega)).mono ?_)
 rintro e w3 ⟨vP,vM,qs,rfl,FO,kk⟩
 replace B10:=B10.nx kk
 obtain ⟨aP,cP,aM,cM,rfl,rfl,_,_⟩:=FO.two
 have K3:=lH (K2.out.nx kk)
 have hz2:=K2.out.size
 clear kk h h2 h3 B6 q0 q1 NF
 have hl10:=B10.lt
 have B11:=Blk.new w3 [.slice aP F.peers.length cP,.slice aM F.msgs.length cM] 27
 have kk:=Ex.new w3 (.cells #[.slice aP F.peers.length cP,.slice aM F.msgs.length cM] 27)
 obtain ⟨w4,hw4⟩:∃ w4,w4=w3.alloc (.cells #[.slice aP F.peers.length cP,.slice aM F.msgs.length cM] 27):=⟨_,rfl⟩
 obtain ⟨g11,hg11⟩:∃ g11,g11=w3.heap.size:=⟨_,rfl⟩
 replace B11:Blk w4 g11 [.slice aP F.peers.length cP,.slice aM F.msgs.length cM] 27:=by rw [hw4,hg11];exact B11
 rw [← hw4] at kk
 have Hw4:=lH hw4
 have Hg11:=lH hg11
 replace B10:=B10.nx kk
 replace FO:=FO.nx kk
 have K4:=lH (K3.out.nx kk)
 have zg11:w.heap.size≤g11:=by have:=K3.out.size;omega
 have h1011:¬ g10=g11:=by omega
 clear kk hw4 hg11
 go_upto_region 4 with fail
 rw [← Hg11.out,← Hw4.out]
 clear Hg11 Hw4
 have FO4:=lH (FO.lower (base':=w.heap.size) hz2)
 have hl11:=B11.lt
 have hl10:=B10.lt
 clear FO
 go_wp2_with fail
 (with_reducible refine (turns_f _ _ _ ms w _ H4.out hc4 hm4).mono ?_)
 rintro e w5 ⟨gT,rfl,hgT,kk,TB⟩
 have hFl:F.peers.length≤1000:=by have:=CL.out.1;have:=HL.out;omega
 have hMl:F.msgs.length≤1000000:=by have:=CL.out.2.1;have:=HM.out;omega
 have hNl:N.length≤1000:=by have:=HL.out;omega
 have zgT:w.heap.size≤gT:=by have:=K4.out.size;omega
 have hT11:¬ g11=gT:=by omega
 have hT10:¬ g10=gT:=by omega
 have R0:=lH (show RmRel N ms (delAllF N ms F.msgs.length 0 F) g10 g11 gT w F.msgs.length w5 from
  ⟨0,aP,cP,aM,cM,qs,F,rfl,B11.nx kk,FO4.out.nx kk,TB,B10.nx kk,K4.out.nx kk,CS.out,hFl,hMl,rfl⟩)
 have c51:=(B11.nx kk).cell 1 _ rfl
 generalize hTG:delAllF N ms F.msgs.length 0 F=G1 at R0 RY
 clear hTG kk TB B10 B11 FO4 K4 K3 K2 K1 CL CS HM HSM
 go_upto_region 5 with fail
 clear c51
 go_loopg [] F.msgs.length (fun k wr=>RmRel N ms G1 g10 g11 gT w k wr)
 case atStart=>exact R0.out
 case round =>
  clear R0
  obtain ⟨i,aQ,cQ,aR,cR,qr,Fi,hFi,B11,FO,TB,B10,kw,hsm,hpl,hkl,htg⟩:=hrel
  obtain ⟨wi,rfl⟩:∃ wi:World,wi=wr:=⟨_,rfl⟩
  have hn0:=FO.2
  have KW:=lH kw
  have FOH:=lH FO
  have TBH:=lH TB
  have c51:=B11.cell 1 _ rfl
  have TG:=lH htg
  have SMH:=lH hsm
  have SMP:=lH hsm.1
  have SMK:=lH hsm.2
  clear kw FO TB htg hsm hn0
  obtain ⟨aT,nT,cT,BT,_,_,_⟩:=TBH.out
  cases gk with
  | zero =>
   rw [hFi] at c51
   have hGF:Fi=G1:=TG.out
   have hFi':=hFi
   have HFI:=lH hFi
   clear hFi
   have l10:=B10.lt
   have l11:=B11.lt
   have B10H:=lH B10
   have B11H:=lH B11
   clear B10 B11 BT
   go_wp2_with fail
   (with_reducible refine (turns_f _ _ _ ts w _ H5.out hc5 hm5).mono ?_)
   rintro e w6 ⟨gU,rfl,hgU,kk,TB⟩
   replace B10H:=lH (B10H.out.nx kk)
   replace B11H:=lH (B11H.out.nx kk)
   replace FOH:=lH (FOH.out.nx kk)
   have zgU:w.heap.size≤gU:=by have:=KW.out.size;omega
   have hU11:¬ g11=gU:=by omega
   have hU10:¬ g10=gU:=by omega
   replace KW:=lH (KW.out.nx kk)
   have TBU:=lH TB
   clear kk TB c51
   go_wp2_with fail
   (with_reducible refine (sort_p _ _ _ _ _ (HS0.out.nx KW.out) hn).mono ?_)
   rintro e w7 ⟨v,S,rfl,OS,⟨hp,hsrt⟩,kk⟩
   have hSe:S=sortN N:=sortN_unique (check_keys HC.out) hp hsrt
   subst hSe
   have hSl:(sortN N).length=N.length:=sortN_length N
   have RYH:=lH (show roundF N ⟨P,M⟩ ms ts m=tickAllF N ts m (sortN N).length 0 ((sortN N).map Nd.id) Fi from by rw [hSl,hGF];exact RY.out)
   have hSl2:(sortN N).length≤1000:=by omega
   generalize sortN N=S at OS RYH hSl2
   obtain ⟨aL,cL,rfl,_,_,_⟩:=OS.sl3 (fun _=>rfl)
   have T0:=lH (show TkRel N ts m (roundF N ⟨P,M⟩ ms ts m) g10 g11 gU w S.length (.slice aL S.length cL) w7 from
    ⟨0,aQ,cQ,aR,cR,qr,Fi,S,rfl,by omega,OS.base KW.out.size,B11H.out.nx kk,FOH.out.nx kk,TBU.out.nx kk,B10H.out.nx kk,KW.out.nx kk,SMH.out,hpl,by rw [hFi'];omega,RYH.out.symm⟩)
   have hFi2:=HFI.out
   clear OS RYH kk B10H B11H FOH TBU KW hGF hSl hp hsrt RY
   go_upto_region 9 with fail
   go_loopg [13] S.length (fun k vL wr=>TkRel N ts m (roundF N ⟨P,M⟩ ms ts m) g10 g11 gU w k vL wr)
   case atStart=>exact T0.out
   case round =>
    clear T0
    obtain ⟨i2,aQ2,cQ2,aR2,cR2,qr2,F2,L,hL,hik,OL,B11,FO,TB,B10,kw,hsm,hpl2,hml2,htg⟩:=hrel
    obtain ⟨wj,rfl⟩:∃ wj:World,wj=wr:=⟨_,rfl⟩
    have KW:=lH kw
    have TG:=lH htg
    have SM2:=lH hsm
    have SMP2:=lH hsm.1
    have zh10:g10<wj.heap.size:=B10.lt
    have zh11:g11<wj.heap.size:=B11.lt
    have FOH:=lH FO
    have TBH:=lH TB
    have B10H:=lH B10
    have B11H:=lH B11
    have OLH:=lH OL
    obtain ⟨aL2,cL2,rfl,SL,hcL,hcm⟩:=OL.sl3 (fun _=>rfl)
    have SLH:=lH SL
    obtain ⟨aU,nU,cU,BU,_,_,_⟩:=TBH.out
    have BUH:=lH BU
    have hLH:=lH hL
    clear kw htg hsm FO TB B10 B11 OL SL BU
    cases gk with
    | zero =>
     have ET:Hid (roundF N ⟨P,M⟩ ms ts m=F2):=lH TG.out.symm
     rw [hL]
     have B10:=B10H.out
     have B11:=B11H.out
     clear hL TG B10H B11H
     have r0:=B10.cell 0 _ rfl
     have r1:=B10.cell 1 _ rfl
     have f0:=B10.free 0
     have f1:=B10.free 1
     have p0:=B11.cell 0 _ rfl
     have p1:=B11.cell 1 _ rfl
     have B8H:=lH B10
     clear B10 B11
     go_wp2_with fail
     obtain ⟨wz,hwz⟩:∃ wz,wz=(wj.setCell ⟨g10,0,none⟩ (.slice aQ2 F2.peers.length cQ2)).setCell ⟨g10,1,none⟩ (.slice aR2 F2.msgs.length cR2):=⟨_,rfl⟩
     have BZ:Blk wz g10 [.slice aQ2 F2.peers.length cQ2,.slice aR2 F2.msgs.length cR2] 27:=by rw [hwz];exact (B8H.out.set 0 _).set 1 _
     have KB:Exb g10 wj wz:=by rw [hwz];exact ((Exb.refl g10 _).setB (p:=⟨g10,0,none⟩) _ rfl).setB (p:=⟨g10,1,none⟩) _ rfl
     have KE:Ex w wz:=by rw [hwz];exact (KW.out.setNew (p:=⟨g10,0,none⟩) _ zg10).setNew (p:=⟨g10,1,none⟩) _ zg10
     have FF:=lH (FOH.out.putB B8H.out (by decide) (by decide) (by decide) (by decide) KB)
     rw [← hwz]
     have q0:=BZ.cell 0 _ rfl
     have q1:=BZ.cell 1 _ rfl
     clear r0 r1 f0 f1 p0 p1 hwz
     refine bodyPost_ret (v:=.agg #[.slice aQ2 F2.peers.length cQ2,.slice aR2 F2.msgs.length cR2]) (by simp [results,Tryz.results34,go_sem, *]) rfl ⟨_,_,qr2,rfl,by rw [ET.out];exact FF.out,KE⟩
    | succ k =>
     have hk1:(0:Int)<(k:Int)+1:=by omega
     have EGS:=EGT.out
     have hpk:=head_lt (ts.drop i2) (show 0<k+1 by omega)
     rw [hL]
     clear hL
     go_upto_region 10 with fail
     have tf:=turn_f gU (k+1) _ w _ TBH.out KW.out (by omega) (by omega) zgU
     rw [show ((k+1:Nat):Int)=(k:Int)+1 by omega] at tf
     go_wp2_with fail
     (with_reducible refine tf.mono ?_)
     rintro e w8 ⟨rfl,TB2,kb⟩
     have TBC:=lH TB2
     replace FOH:=lH (FOH.out.putB BUH.out (by decide) (by decide) (by decide) (by decide) kb)
     replace B10H:=lH (B10H.out.nxb hU10 kb)
     replace B11H:=lH (B11H.out.nxb hU11 kb)
     replace OLH:=lH (OLH.out.put BUH.out (by decide) kb)
     replace KW:=lH (Exl.nxb (b:=gU) (w:=w) ⟨KW.out,zgU⟩ kb).1
     have zz8:=kb.size
     obtain ⟨p,hpe⟩:∃ p,p=headP (ts.drop i2) (k+1):=⟨_,rfl⟩
     rw [← hpe] at hpk ⊢
     have HPE:=lH hpe
     clear tf TB2 kb hpe BUH SLH
     obtain ⟨aL3,cL3,e3,SL3,_,_⟩:=OLH.out.sl3 (fun _=>rfl)
     cases e3
     rw [hLH.out] at SL3
     obtain ⟨xL,oL,y,heL,hxL,hyL,hcL3⟩:=SL3.at hpk
     subst heL
     have e0:w8.cell? ⟨xL,oL+p*3,none⟩=some (.int .i64 y.id):=hcL3 0 _ rfl
     have CE:Hid (∀ wq,Ex w8 wq→wq.cell? ⟨xL,oL+p*3,none⟩=some (.int .i64 y.id)):=lH (fun wq kq=>Chg.cellv kq e0 hxL)
     have HY:=lH hyL
     have hp1:(p:Int)<(k:Int)+1:=by omega
     have pw:IntKind.i64.wrap ((p:Int)+1)=(p:Int)+1:=IntWalk.i64_in _ (by omega)
     clear e0 hcL3 hyL SL3
     go_upto_region 11 with fail
     refine wp_region_late_drew (S:=Ex w8) [9] (by kernel_rfl) ((Ex.refl w8).drew) (fun hHeld=>?_)
     obtain ⟨wd,hwdx⟩:∃ wd:World,wd=World.drew w8:=⟨_,rfl⟩
     rw [← hwdx] at hHeld ⊢
     have hDrew:Ex w8 wd:=by rw [hwdx];exact (Ex.refl w8).drew
     clear hwdx
     refine tkL 0 (v:=?_) rfl (by kernel_rfl) (fun _ _ _ h=>h) (by rfl) ?y1x0q5 (by assumption) ?z1x0q5
     case y1x0q5=>intro wq hSw;(go_simp);(try with_reducible rfl)
     refine tkL 1 (v:=?_) rfl (by kernel_rfl) (fun _ _ _ h=>h) (by rfl) ?y1x1q8 (by assumption) ?z1x1q8
     case y1x1q8=>intro wq hSw;(have cq0:=(B11H.out.nx hSw).cell 0 _ rfl;have cq1:=(B11H.out.nx hSw).cell 1 _ rfl;go_simp);(try with_reducible rfl)
     refine tkL 2 (v:=?_) rfl (by kernel_rfl) (fun _ _ _ h=>h) (by rfl) ?y1x2q11 (by assumption) ?z1x2q11
     case y1x2q11=>intro wq hSw;(go_simp);(try with_reducible rfl)
     refine tkL 3 (v:=?_) rfl (by kernel_rfl) (fun _ _ _ h=>h) (by rfl) ?y1x3q14 (by assumption) ?z1x3q14
     case y1x3q14=>intro wq hSw;(go_simp);(try with_reducible rfl)
     refine tkL 4 (v:=?_) rfl (by kernel_rfl) (fun _ _ _ h=>h) (by rfl) ?y1x4q17 (by assumption) ?z1x4q17
     case y1x4q17=>intro wq hSw;(go_simp);(try with_reducible rfl)
     refine tkL 5 (v:=?_) rfl (by kernel_rfl) (fun _ _ _ h=>h) (by rfl) ?y1x5q20 (by assumption) ?z1x5q20
     case y1x5q20=>intro wq hSw;(go_simp);(try with_reducible rfl)
     refine tkL 6 (v:=?_) rfl (by kernel_rfl) (fun _ _ _ h=>h) (by rfl) ?y1x6q23 (by assumption) ?z1x6q23
     case y1x6q23=>intro wq hSw;(have cq:=CE.out _ hSw;go_simp);(try with_reducible rfl)
     refine tkL 7 (v:=?_) rfl (by kernel_rfl) (fun _ _ _ h=>h) (by rfl) ?y1x7q26 (by assumption) ?z1x7q26
     case y1x7q26=>intro wq hSw;(go_simp);(try with_reducible rfl)
     refine wpAnyL_ready (rs:=[8]) (by kernel_rfl) (by simp) ?_
     refine AllReadyL.cons (o:=⟨_,_,_,_,_,_⟩) rfl (fun K hK=>?_) AllReadyL.nil
     obtain ⟨_,_,_,_,ee1,ee2,p1,s2⟩:=(FOH.out.nx hHeld).two
     cases ee1
     cases ee2
     go_simp
     (with_reducible refine (tick_f _ _ _ N _ _ _ F2.peers _ _ _ F2.msgs y.id m _ (HS0.out.nx (KW.out.nx hHeld)) hn hc hm HW.out p1 (by omega) SMP2.out s2 (by omega)).mono ?_)
     rintro e wb ⟨vP,vM,qs2,rfl,FO2,kk⟩
     obtain ⟨G2,hG2⟩:∃ G2,G2=tickF N F2 y.id m:=⟨_,rfl⟩
     have HG2:=lH hG2
     have hzwd:=hHeld.size
     replace FO2:FlOwn wd.heap.size wb vP vM qs2 G2:=by rw [hG2];exact FO2
     obtain ⟨aP2,cP2,aM2,cM2,rfl,rfl,_,_⟩:=FO2.two
     have FO2H:=lH FO2
     replace hHeld:=hHeld.nx kk
     clear kk FO2 hG2 p1 s2
     refine hK.out _ _ (hHeld) (fun hHeld=>?_)
     clear hK K
     refine wpAnyL_ready (rs:=[9]) (by kernel_rfl) (by simp) ?_
     refine AllReadyL.consL (o:=⟨_,_,_,_,_,_⟩) rfl (by rfl) (fun K hK=>?_) AllReadyL.nil
     have BQ:=B11H.out.nx hHeld
     have cq0:=BQ.cell 0 _ rfl
     have cq1:=BQ.cell 1 _ rfl
     have fq0:=BQ.free 0
     have fq1:=BQ.free 1
     go_simp
     clear cq0 cq1 fq0 fq1
     refine hK.out _ _ ?_
     clear hK K
     refine wpAnyL_done (by kernel_rfl) ?_ _
     obtain ⟨wy,hwy⟩:∃ wy,wy=(wb.setCell ⟨g11,0,none⟩ (.slice aP2 G2.peers.length cP2)).setCell ⟨g11,1,none⟩ (.slice aM2 G2.msgs.length cM2):=⟨_,rfl⟩
     rw [← hwy]
     have kb2:Exb g11 wb wy:=by rw [hwy];exact ((Exb.refl g11 _).setB (p:=⟨g11,0,none⟩) _ rfl).setB (p:=⟨g11,1,none⟩) _ rfl
     have BY:Blk wy g11 [.slice aP2 G2.peers.length cP2,.slice aM2 G2.msgs.length cM2] 27:=by rw [hwy];exact (BQ.set 0 _).set 1 _
     have KY:=lH (show Ex w wy from by rw [hwy];exact ((KW.out.nx hHeld).setNew (p:=⟨g11,0,none⟩) _ zg11).setNew (p:=⟨g11,1,none⟩) _ zg11)
     have FOY:=lH ((FO2H.out.putB BQ (by decide) (by decide) (by decide) (by decide) kb2).lower (base':=w.heap.size) (by have:=KW.out.size;omega))
     have OLY:=lH ((OLH.out.nx hHeld).put BQ (by decide) kb2)
     have B10Y:=lH ((B10H.out.nx hHeld).nxb h1011 kb2)
     have TBY:=lH ((TBC.out.nx hHeld).nxb (b:=g11) (fun hh=>hU11 hh.symm) kb2)
     have BYH:=lH BY
     have OLY2:=OLY.out
     rw [hLH.out] at OLY2
     have OL2:=lH OLY2
     clear hwy kb2 BY BQ hHeld hDrew FO2H OLH B10H TBC FOH B11H CE OLY2
     go_wp2_with fail
     (with_reducible refine (delete_nd _ _ p w _ OL2.out (by rw [hLH.out];exact hpk) (by rw [hLH.out];omega) KY.out).mono ?_)
     rintro e w9 ⟨v9,rfl,own9,k9,ch9⟩
     have RR:=lH (show TkRel N ts m (roundF N ⟨P,M⟩ ms ts m) g10 g11 gU w k v9 w9 from ⟨i2+1,aP2,cP2,aM2,cM2,qs2,G2,L.eraseIdx p,by rw [List.length_eraseIdx,hLH.out,if_pos hpk];rfl,by omega,own9,BYH.out.app OL2.out (by decide) ch9,FOY.out.oth OL2.out (by decide) (by decide) (by decide) (by decide) ch9,by obtain ⟨a',n',c',t1,t2,t3⟩:=TBY.out;exact ⟨a',n',c',t1.app OL2.out (by decide) ch9,by rw [← List.tail_drop];exact t2,t3⟩,B10Y.out.app OL2.out (by decide) ch9,k9,by rw [HG2.out];exact tick_sm hNl SM2.out _ _,by rw [HG2.out];exact Nat.le_trans (tick_plen _ _) hNl,by rw [HG2.out];have:=tick_len (N:=N) (f:=F2) HC.out y.id m;omega,by rw [HG2.out,← tk_step HPE.out HY.out];exact TG.out⟩)
     clear own9 k9 ch9 pw
     go_wp2_with fail
     go_roundg k
     case measure=>omega
     case rel=>exact RR.out
  | succ k =>
   rw [hFi] at c51 B11
   have HFI:=lH hFi
   have hk0:(0:Int)<((k+1:Nat):Int):=by omega
   have hk1:(0:Int)<(k:Int)+1:=by omega
   clear hFi
   go_upto_region 6 with fail
   have B11H:=lH B11
   have B10H:=lH B10
   have BTH:=lH BT
   have EGS:=EGT.out
   have hpk:=head_lt (ms.drop i) (show 0<k+1 by omega)
   clear c51 B11 B10 BT
   refine wp_region_late_drew (S:=Exb gT wi) [7,8] (by kernel_rfl) ((Exb.refl gT wi).drew) (fun hHeld=>?_)
   obtain ⟨wd,hwdx⟩:∃ wd:World,wd=World.drew wi:=⟨_,rfl⟩
   rw [← hwdx] at hHeld ⊢
   have hDrew:Ex wi wd:=by rw [hwdx];exact (Ex.refl wi).drew
   clear hwdx
   refine tkL 0 (v:=?_) rfl (by kernel_rfl) (fun _ _ _ h=>h) (by rfl) ?y2x0q5 (by assumption) ?z2x0q5
   case y2x0q5=>intro wq hSw;(go_simp);(try with_reducible rfl)
   refine tkL 1 (v:=?_) rfl (by kernel_rfl) (fun _ _ _ h=>h) (by rfl) ?y2x1q8 (by assumption) ?z2x1q8
   case y2x1q8=>intro wq hSw;(have cq0:=(B11H.out.nxb hT11 hSw).cell 0 _ rfl;have cq1:=(B11H.out.nxb hT11 hSw).cell 1 _ rfl;go_simp);(try with_reducible rfl)
   refine tkL 2 (v:=?_) rfl (by kernel_rfl) (fun _ _ _ h=>h) (by rfl) ?y2x2q11 (by assumption) ?z2x2q11
   case y2x2q11=>intro wq hSw;(go_simp);(try with_reducible rfl)
   refine tkL 3 (v:=?_) rfl (by kernel_rfl) (fun _ _ _ h=>h) (by rfl) ?y2x3q14 (by assumption) ?z2x3q14
   case y2x3q14=>intro wq hSw;(go_simp);(try with_reducible rfl)
   refine tkL 4 (v:=?_) rfl (by kernel_rfl) (fun _ _ _ h=>h) (by rfl) ?y2x4q17 (by assumption) ?z2x4q17
   case y2x4q17=>intro wq hSw;(have cq1:=(B11H.out.nxb hT11 hSw).cell 1 _ rfl;go_simp);(try with_reducible rfl)
   refine tkL 5 (v:=?_) rfl (by kernel_rfl) (fun _ _ _ h=>h) (by rfl) ?y2x5q20 (by assumption) ?z2x5q20
   case y2x5q20=>intro wq hSw;(go_simp);(try with_reducible rfl)
   refine wpAnyL_ready (rs:=[6]) (by kernel_rfl) (by simp) ?_
   refine AllReadyL.cons (o:=⟨_,_,_,_,_,_⟩) rfl (fun K hK=>?_) AllReadyL.nil
   go_simp
   have tf:=turn_f gT (k+1) _ w _ (TBH.out.nx hDrew) (KW.out.nx hDrew) (by omega) (by omega) zgT
   rw [show ((k+1:Nat):Int)=(k:Int)+1 by omega] at tf
   (with_reducible refine tf.mono ?_)
   rintro e wc ⟨rfl,TB2,kb⟩
   clear tf
   have TBC:=lH TB2
   have KC:=lH (Exl.nxb (b:=gT) (w:=w) ⟨KW.out.nx hDrew,zgT⟩ kb).1
   replace hHeld:=hHeld.nxb kb
   clear kb TB2
   refine hK.out _ _ (hHeld) (fun hHeld=>?_)
   clear hK K
   refine wpAnyL_ready (rs:=[7]) (by kernel_rfl) (by simp) ?_
   refine AllReadyL.consL (o:=⟨_,_,_,_,_,_⟩) rfl (by rfl) (fun K hK=>?_) AllReadyL.nil
   obtain ⟨_,_,_,_,ee1,ee2,p1,s2⟩:=(FOH.out.putB BTH.out (by decide) (by decide) (by decide) (by decide) hHeld).two
   cases ee1
   cases ee2
   rw [HFI.out] at s2
   go_simp
   (with_reducible refine (del_f _ _ _ N _ _ _ Fi.peers _ _ _ Fi.msgs (headP (ms.drop i) (k+1):Nat) _ (HS0.out.nx KC.out) hn hc hm p1 (by omega) SMP.out s2 (by omega) SMK.out).mono ?_)
   rintro e wb ⟨vP,vM,qs2,rfl,FO2,kk⟩
   obtain ⟨G2,hG2⟩:∃ G2,G2=delF N Fi (headP (ms.drop i) (k+1):Nat):=⟨_,rfl⟩
   have HG2:=lH hG2
   replace FO2:FlOwn wc.heap.size wb vP vM qs2 G2:=by rw [hG2];exact FO2
   obtain ⟨aP2,cP2,aM2,cM2,rfl,rfl,_,_⟩:=FO2.two
   have FO2H:=lH FO2
   have KKH:=lH kk
   replace hHeld:=hHeld.nxb (kk.b gT)
   clear kk FO2 hG2 p1 s2
   refine hK.out _ _ ?_
   clear hK K
   refine wpAnyL_ready (rs:=[8]) (by kernel_rfl) (by simp) ?_
   refine AllReadyL.consL (o:=⟨_,_,_,_,_,_⟩) rfl (by rfl) (fun K hK=>?_) AllReadyL.nil
   have BQ:=B11H.out.nxb hT11 hHeld
   have cq0:=BQ.cell 0 _ rfl
   have cq1:=BQ.cell 1 _ rfl
   have fq0:=BQ.free 0
   have fq1:=BQ.free 1
   go_simp
   clear cq0 cq1 fq0 fq1
   refine hK.out _ _ ?_
   clear hK K
   refine wpAnyL_done (by kernel_rfl) ?_ _
   obtain ⟨wy,hwy⟩:∃ wy,wy=(wb.setCell ⟨g11,0,none⟩ (.slice aP2 G2.peers.length cP2)).setCell ⟨g11,1,none⟩ (.slice aM2 G2.msgs.length cM2):=⟨_,rfl⟩
   rw [← hwy]
   have kb2:Exb g11 wb wy:=by rw [hwy];exact ((Exb.refl g11 _).setB (p:=⟨g11,0,none⟩) _ rfl).setB (p:=⟨g11,1,none⟩) _ rfl
   have BY:Blk wy g11 [.slice aP2 G2.peers.length cP2,.slice aM2 G2.msgs.length cM2] 27:=by rw [hwy];exact (BQ.set 0 _).set 1 _
   have RR:=lH (show RmRel N ms G1 g10 g11 gT w k wy from ⟨i+1,aP2,cP2,aM2,cM2,qs2,G2,by rw [HG2.out];exact del_len HC.out HFI.out hpk,BY,(FO2H.out.putB BQ (by decide) (by decide) (by decide) (by decide) kb2).lower KC.out.size,by have:=(TBC.out.nx KKH.out).nxb (b:=g11) (fun hh=>hT11 hh.symm) kb2;rw [List.tail_drop] at this;exact this,(B10H.out.nxb hT10 hHeld).nxb h1011 kb2,by rw [hwy];exact ((KC.out.nx KKH.out).setNew (p:=⟨g11,0,none⟩) _ zg11).setNew (p:=⟨g11,1,none⟩) _ zg11,by rw [HG2.out];exact del_sm hNl SMH.out _,by rw [HG2.out];exact Nat.le_trans (del_plen _) hNl,by omega,by rw [HG2.out,← head_pick];exact TG.out⟩)
   clear hwy kb2 BY BQ hHeld hDrew
   go_wp2_with fail
   go_roundg k
   case measure=>omega
   case rel=>exact RR.out
def addM (N:List Nd) (P:List Pr) (m:Int×Int):List Pr:=if (findN N m.2).2=true then P.map (fun p=>if p.id=m.1 then { p with known:=p.known++[m.2] } else p) else P
def conF (N:List Nd) (f:Fl):Bool:=if checkN N=0 then connB N (f.msgs.foldl (addM N) (normalN N f.peers)) else false
theorem addM_ids (N:List Nd) (P:List Pr) (m:Int×Int):(addM N P m).map Pr.id=P.map Pr.id:=by
 unfold addM
 split
 ·rw [List.map_map]
  apply List.map_congr_left
  intro p _
  show (if p.id=m.1 then _ else _:Pr).id=p.id
  split<;>rfl
 ·rfl
theorem addM_len (N:List Nd) (P:List Pr) (m:Int×Int):(addM N P m).length=P.length:=by
 have:=congrArg List.length (addM_ids N P m)
 simpa using this
theorem addM_few {N:List Nd} {P:List Pr} {m:Int×Int} {k b:Nat} (h:∀ p∈P,p.known.length≤k∧p.near.length≤b):∀ p∈addM N P m,p.known.length≤k+1∧p.near.length≤b:=by
 intro p hp
 unfold addM at hp
 split at hp
 ·obtain ⟨q,hq,rfl⟩:=List.mem_map.1 hp
  have h1:=h q hq
  split
  ·show (q.known++[m.2]).length≤_∧_
   rw [List.length_append]
   exact ⟨by simp;omega,h1.2⟩
  ·exact ⟨by omega,h1.2⟩
 ·have h1:=h p hp
  exact ⟨by omega,h1.2⟩
theorem addM_out {N:List Nd} {P:List Pr} {m:Int×Int} (h:idxQ m.1 P = -1):addM N P m=P:=by
 unfold addM
 split
 ·have:∀ p∈P,(if p.id=m.1 then ({ p with known:=p.known++[m.2] }:Pr) else p)=id p:=fun p hp=>by
   rw [if_neg (fun he=>?_)]
   ·rfl
   ·unfold idxQ at h
    rw [if_pos (List.findIdx_lt_length.2 ⟨p,hp,by simpa using he⟩)] at h
    omega
  rw [List.map_congr_left this,List.map_id]
 ·rfl
theorem addM_one {N:List Nd} {P:List Pr} {m:Int×Int} {k:Nat} {y:Pr} (hf:(findN N m.2).2=true) (hy:P[k]?=some y) (hu:∀ j z,P[j]?=some z→z.id=y.id→j=k) (he:y.id=m.1):addM N P m=P.set k { y with known:=y.known++[m.2] }:=by
 unfold addM
 rw [if_pos hf,← he]
 exact map_one hy hu (fun p=>({ p with known:=p.known++[m.2] }:Pr))
theorem ids_uniq {N:List Nd} {P Q:List Pr} (h:Q.map Pr.id=(normalN N P).map Pr.id) {k:Nat} {y:Pr} (hy:Q[k]?=some y):∀ j z,Q[j]?=some z→z.id=y.id→j=k:=by
 intro j z hz he
 have e1:∀ (i:Nat) (x:Pr),Q[i]?=some x→∃ x',(normalN N P)[i]?=some x'∧x'.id=x.id:=by
  intro i x hx
  have:=congrArg (·[i]?) h
  simp only [List.getElem?_map,hx,Option.map_some] at this
  cases hq:(normalN N P)[i]? with
  | none=>rw [hq] at this;cases this
  | some x' =>
   rw [hq] at this
   exact ⟨x',rfl,(Option.some.inj this).symm⟩
 obtain ⟨y',hy',ey⟩:=e1 k y hy
 obtain ⟨z',hz',ez⟩:=e1 j z hz
 exact normal_uniq N P hy' hz' (by rw [ez,ey,he])
def FcRel (N:List Nd) (P:List Pr) (M:List (Int×Int)) (n3 n:Nat) (v:Value) (w:World) (i:Value) (wr:World):Prop :=
 ∃ (j:Nat) (qs:List PQ) (Q:List Pr),j≤n3∧i=.int .i64 j∧Q=(M.take j).foldl (addM N) (normalN N P)∧Q.length=n∧Q.map Pr.id=(normalN N P).map Pr.id∧(∀ p∈Q,p.known.length≤1000000+j∧p.near.length≤4398046511104)∧OwnPr w.heap.size wr v qs Q∧Ex w wr
theorem fc_snoc {N:List Nd} {M:List (Int×Int)} {j:Nat} {m:Int×Int} (hm:M[j]?=some m) (P:List Pr):(M.take (j+1)).foldl (addM N) P=addM N ((M.take j).foldl (addM N) P) m:=by
 rw [List.take_add_one,hm,List.foldl_append]
 rfl
set_option maxRecDepth 100000 in
set_option maxHeartbeats 8000000 in
theorem conn_f (a:Option Addr) (n c:Nat) (N:List Nd) (a2:Option Addr) (n2 c2:Nat) (P:List Pr) (a3:Option Addr) (n3 c3:Nat) (M:List (Int×Int)) (w:World) (h:Sl 3 encN w a n N) (hn:n≤1000) (hc:n≤c) (hm:c≤maxLen) (h2:PL w a2 n2 P) (hn2:n2≤4000000000000000000) (hS:SmF ⟨P,M⟩)
  (h3:Sl 2 encS w a3 n3 M) (hn3:n3≤1000000) :
  Calls Tryz.prog 26 #[.slice a n c,.agg #[.slice a2 n2 c2,.slice a3 n3 c3]] w fun e w'=>e=.returned (.bool (conF N ⟨P,M⟩))∧Ex w w':=by
 have HL:=lH h.len
 have HS0:=lH h
 have H2:=lH h2
 have H3:=lH h3
 have HSP:=lH hS.1
 have HM:=lH (h3.len:M.length=n3)
 have EG:Hid (∀ args w,(callFunc 64 args).run Tryz.prog w=.ok (.enter 64 args) w):=lH (enters_of Tryz.func64 (by kernel_rfl) rfl)
 have HFW:=lH (show ∀ p∈normalN N P,p.known.length≤1000000∧p.near.length≤4398046511104 from fun p hp=>by
  by_cases h0:checkN N=0
  ·have h1:=cop_sm (N:=N) hS
   have hp2:p∈(copF N ⟨P,M⟩).peers:=by rw [cop_yes h0];exact hp
   exact ⟨h1.2 p hp2,(h1.1 p hp2).2⟩
  ·unfold normalN at hp;rw [if_neg h0] at hp;cases hp)
 obtain ⟨g3,hg3⟩:∃ g3,g3=w.heap.size:=⟨_,rfl⟩
 obtain ⟨w1,hw1⟩:∃ w1,w1=(w.alloc (.cells #[.slice a2 n2 c2,.slice a3 n3 c3] 27)):=⟨_,rfl⟩
 have kk:Ex w w1:=by rw [hw1];exact ((Ex.refl w).alloc (.cells #[.slice a2 n2 c2,.slice a3 n3 c3] 27))
 have B3:Blk w1 g3 [.slice a2 n2 c2,.slice a3 n3 c3] 27:=by rw [hw1];simp only [hg3];have hbk:=(Blk.new w [.slice a2 n2 c2,.slice a3 n3 c3] 27);simpa using hbk
 have Hw1:=lH hw1
 have Hg3:=lH hg3
 replace h:=h.nx kk
 have K1:=lH kk
 clear kk hw1 hg3 hS h2 h3
 go_enter Tryz.func26,Tryz.ntmps26
 go_upto_region 1 with fail
 rw [← Hw1.out,← Hg3.out]
 clear Hw1 Hg3
 go_wp2_with fail
 (with_reducible refine (check_p _ _ _ _ _ h (by omega) hc hm).mono ?_)
 rintro e w2 ⟨rfl,kk⟩
 replace h:=h.nx kk
 replace B3:=B3.nx kk
 have K2:=lH (K1.out.nx kk)
 clear kk
 by_cases hck:checkN N=0
 case neg =>
  have d1:(checkN N != 0)=true:=by simpa using hck
  have ET:Hid (conF N ⟨P,M⟩=false):=lH (by unfold conF;rw [if_neg hck])
  clear h B3 hck
  go_wp2_with fail
  go_ret
  exact ⟨by rw [ET.out];rfl,K2.out⟩
 have d1:(checkN N != 0)=false:=by simpa using hck
 have ET:Hid (conF N ⟨P,M⟩=connB N (M.foldl (addM N) (normalN N P))):=lH (by unfold conF;rw [if_pos hck])
 have HC:=lH hck
 clear hck
 go_upto_region 3 with fail
 have q0:=B3.cell 0 _ rfl
 go_wp2_with fail
 (with_reducible refine (normal_p _ _ _ N _ _ _ P _ h hn hc hm (H2.out.nx K2.out) hn2 HSP.out).mono ?_)
 rintro e w3 ⟨vP,qs,rfl,oP,kk⟩
 replace B3:=B3.nx kk
 obtain ⟨aP,cP,rfl,_,_,_,hgP,_⟩:=oP.pl
 have HGP:=lH hgP
 have K3:=lH (K2.out.nx kk)
 have hz2:=K2.out.size
 obtain ⟨nP,hnP⟩:∃ nP,nP=(normalN N P).length:=⟨_,rfl⟩
 rw [← hnP] at oP ⊢
 have HNP:=lH hnP
 have hPl:nP≤1000:=by have:=(normal_le N P).1;have:=HL.out;omega
 have R0:=lH (show FcRel N P M n3 nP (.slice aP nP cP) w (.int .i64 0) w3 from ⟨0,qs,_,by omega,rfl,rfl,hnP.symm,rfl,fun p hp=>by have:=HFW.out p hp;omega,oP.lower hz2,K3.out⟩)
 have q1:=B3.cell 1 _ rfl
 clear kk h oP q0 hgP HFW hnP B3
 go_upto_region 5 with fail
 clear q1
 go_loopw [21] (fun i wr=>FcRel N P M n3 nP (.slice aP nP cP) w i wr) (fun i _=>n3-(intOf i).toNat)
 case atStart=>exact R0.out
 case round =>
  clear R0
  obtain ⟨j,qr,Q,hj,rfl,hQ,hQl,hQi,hQf,own,kw⟩:=hrel
  obtain ⟨wi,rfl⟩:∃ wi:World,wi=wr:=⟨_,rfl⟩
  have KW:=lH kw
  have OWN:=lH own
  have HQ:=lH hQ
  have HQL:=lH hQl
  have HQI:=lH hQi
  have HQF:=lH hQf
  clear kw own hQ hQl hQi hQf
  by_cases hjm:j<n3
  ·obtain ⟨x3,o3,m,he3,hx3,hmj,hc3⟩:=(H3.out.nx KW.out).at hjm
   subst he3
   have e0:=hc3 0 _ rfl
   have e1:=hc3 1 _ rfl
   rw [Nat.add_zero] at e0
   have SN:=lH (fc_snoc (N:=N) hmj (normalN N P))
   clear hc3 hmj
   have B7:=Blk.new wi [.int .i64 m.1,.int .i64 m.2] 78
   have kk:=Ex.new wi (.cells #[.int .i64 m.1,.int .i64 m.2] 78)
   obtain ⟨w4,hw4⟩:∃ w4,w4=wi.alloc (.cells #[.int .i64 m.1,.int .i64 m.2] 78):=⟨_,rfl⟩
   obtain ⟨g7,hg7⟩:∃ g7,g7=wi.heap.size:=⟨_,rfl⟩
   replace B7:Blk w4 g7 [.int .i64 m.1,.int .i64 m.2] 78:=by rw [hw4,hg7];exact B7
   rw [← hw4] at kk
   have Hw4:=lH hw4
   have Hg7:=lH hg7
   have K4:=lH kk
   clear kk hw4 hg7
   go_upto_region 7 with fail
   rw [← Hg7.out,← Hw4.out]
   clear Hg7 Hw4
   clear e0 e1
   have y1:=B7.cell 1 _ rfl
   go_wp2_with fail
   (with_reducible refine (find_p _ _ _ _ m.2 _ (HS0.out.nx (KW.out.nx K4.out)) (by omega)).mono ?_)
   rintro e w5 ⟨rfl,kk⟩
   replace B7:=B7.nx kk
   replace K4:=lH (K4.out.nx kk)
   clear kk
   clear y1
   obtain ⟨G,hG⟩:∃ G,G=findN N m.2:=⟨_,rfl⟩
   have HG:=lH hG
   rw [← hG]
   clear hG
   obtain ⟨⟨xi,xk,xw⟩,ok⟩:=G
   have B8:=Blk.new w5 [.int .i64 xi,.string xk,.int .u32 xw] 60
   have kk:=Ex.new w5 (.cells #[.int .i64 xi,.string xk,.int .u32 xw] 60)
   obtain ⟨w6,hw6⟩:∃ w6,w6=w5.alloc (.cells #[.int .i64 xi,.string xk,.int .u32 xw] 60):=⟨_,rfl⟩
   obtain ⟨g8,hg8⟩:∃ g8,g8=w5.heap.size:=⟨_,rfl⟩
   replace B8:Blk w6 g8 [.int .i64 xi,.string xk,.int .u32 xw] 60:=by rw [hw6,hg8];exact B8
   rw [← hw6] at kk
   have Hw6:=lH hw6
   have Hg8:=lH hg8
   replace B7:=B7.nx kk
   replace K4:=lH (K4.out.nx kk)
   clear kk hw6 hg8
   simp only [Nd.val]
   go_upto_region 8 with fail
   rw [← Hg8.out,← Hw6.out]
   clear Hg8 Hw6
   have PI:=fcon1_p g7 m w6 B7
   have PLH:=lH (show PL w6 aP nP Q from by
    obtain ⟨a',c',e',r',_⟩:=(OWN.out.nx K4.out).pl
    rw [HQL.out] at e' r'
    cases e'
    exact r')
   go_wp2_with fail
   (with_reducible refine (idxf_pr _ _ _ EG.out _ _ _ Q _ PLH.out (by omega) PI).mono ?_)
   rintro e w7 ⟨rfl,kk⟩
   replace B7:=B7.nx kk
   replace K4:=lH (K4.out.nx kk)
   clear kk PI PLH B8
   have OWN7:=lH (OWN.out.nx K4.out)
   have KW7:=lH (KW.out.nx K4.out)
   have HF7:Hid (∀ p∈addM N Q m,p.known.length≤1000000+(j+1)∧p.near.length≤4398046511104):=lH (fun p hp=>by have:=addM_few HQF.out p hp;omega)
   have HI7:Hid ((addM N Q m).map Pr.id=(normalN N P).map Pr.id):=lH (by rw [addM_ids];exact HQI.out)
   have HL7:Hid ((addM N Q m).length=nP):=lH (by rw [addM_len];exact HQL.out)
   have HE7:Hid (addM N Q m=(M.take (j+1)).foldl (addM N) (normalN N P)):=lH (by rw [SN.out,← HQ.out])
   have hfk:ok=(findN N m.2).2:=by rw [← HG.out]
   have HFK:=lH hfk
   clear hfk OWN K4 KW
   rcases idxQ_cases Q m.1 with ⟨k,y,hq,hkl,hyk,hpy,hyi⟩ | ⟨hq,-⟩
   case inr =>
    have RR:=lH (show FcRel N P M n3 nP (.slice aP nP cP) w (.int .i64 ((j:Int)+1)) w7 from ⟨j+1,qr,addM N Q m,by omega,by go_num,HE7.out,HL7.out,HI7.out,HF7.out,by rw [addM_out hq];exact OWN7.out,KW7.out⟩)
    rw [hq]
    clear hq B7
    go_wp2_with fail
    exact ⟨RR.out,by simp [intOf];omega⟩
   have kk0:(0:Int)≤(k:Int):=by omega
   rw [hq]
   cases ok with
   | false =>
    have RR:=lH (show FcRel N P M n3 nP (.slice aP nP cP) w (.int .i64 ((j:Int)+1)) w7 from ⟨j+1,qr,addM N Q m,by omega,by go_num,HE7.out,HL7.out,HI7.out,HF7.out,by unfold addM;rw [if_neg (by rw [← HFK.out];simp)];exact OWN7.out,KW7.out⟩)
    clear hq B7 hkl hyk hpy hyi
    go_wp2_with fail
    exact ⟨RR.out,by simp [intOf];omega⟩
   | true =>
    have EA:=lH (addM_one HFK.out.symm hyk (ids_uniq HQI.out hyk) hyi)
    have hkl2:(k:Int)<(nP:Int):=by have:=HQL.out;omega
    have hyf:=HQF.out y (List.mem_of_getElem? hyk)
    obtain ⟨g,hge,hgb⟩:=HGP.out (fun h0=>by have h1:=HQL.out;have h2:=HNP.out;rw [h0] at h2;simp at h2;omega)
    subst hge
    have zgg:w.heap.size≤g:=by omega
    obtain ⟨⟨A1,m1,c1⟩,⟨A4,m4,c4⟩,hqs,oK,oN⟩:=OWN7.out.get hyk
    have HQS:=lH hqs
    have OK:=lH oK
    have HYK:=lH hyk
    have CL:Hid (∀ wq,Ex w7 wq→wq.cell? ⟨g,k*5+1,none⟩=some (.slice A1 m1 c1)):=lH (fun wq kq=>((OWN7.out.nx kq).rowc (by decide) HQS.out (Chg.refl _ _)).1)
    have B7H:=lH B7
    have zo:=KW7.out.size
    clear hq hyk hpy hyi hqs oK oN B7 hkl
    go_upto_region 10 with fail
    refine wp_region_late_drew (S:=Ex w7) [10,11,12,13] (by kernel_rfl) ((Ex.refl w7).drew) (fun hHeld=>?_)
    obtain ⟨wd,hwdx⟩:∃ wd:World,wd=World.drew w7:=⟨_,rfl⟩
    rw [← hwdx] at hHeld ⊢
    have hDrew:Ex w7 wd:=by rw [hwdx];exact (Ex.refl w7).drew
    clear hwdx
    refine wpAnyL_takeP (i:=0) (oi:=⟨_,_,_,_,_,_⟩) (v:=?_) rfl (by kernel_rfl) (by kernel_rfl) (by kernel_rfl) (fun _ _ _ h=>h) (Or.inl ⟨by rfl,?y1x0q5⟩) ?z1x0q5
    case y1x0q5=>intro wq hSw;(go_simp);(try with_reducible rfl)
    refine wpAnyL_takeP (i:=1) (oi:=⟨_,_,_,_,_,_⟩) (v:=?_) rfl (by kernel_rfl) (by kernel_rfl) (by kernel_rfl) (fun _ _ _ h=>h) (Or.inl ⟨by rfl,?y1x1q8⟩) ?z1x1q8
    case y1x1q8=>intro wq hSw;(go_simp);(try with_reducible rfl)
    refine tkL 2 (v:=?_) rfl (by kernel_rfl) (fun _ _ _ h=>h) (by rfl) ?y1x2q11 (by assumption) ?z1x2q11
    case y1x2q11=>intro wq hSw;(go_simp);(try with_reducible rfl)
    refine tkL 3 (v:=?_) rfl (by kernel_rfl) (fun _ _ _ h=>h) (by rfl) ?y1x3q14 (by assumption) ?z1x3q14
    case y1x3q14=>intro wq hSw;(go_simp);(try with_reducible rfl)
    refine tkL 4 (v:=?_) rfl (by kernel_rfl) (fun _ _ _ h=>h) (by rfl) ?y1x4q17 (by assumption) ?z1x4q17
    case y1x4q17=>intro wq hSw;(go_simp);(try with_reducible rfl)
    refine tkL 5 (v:=?_) rfl (by kernel_rfl) (fun _ _ _ h=>h) (by rfl) ?y1x5q20 (by assumption) ?z1x5q20
    case y1x5q20=>intro wq hSw;(go_simp);(try with_reducible rfl)
    refine tkL 6 (v:=?_) rfl (by kernel_rfl) (fun _ _ _ h=>h) (by rfl) ?y1x6q23 (by assumption) ?z1x6q23
    case y1x6q23=>intro wq hSw;(have cq:=CL.out _ hSw;go_simp);(try with_reducible rfl)
    refine tkL 7 (v:=?_) rfl (by kernel_rfl) (fun _ _ _ h=>h) (by rfl) ?y1x7q26 (by assumption) ?z1x7q26
    case y1x7q26=>intro wq hSw;(go_simp);(try with_reducible rfl)
    refine tkL 8 (v:=?_) rfl (by kernel_rfl) (fun _ _ _ h=>h) (by rfl) ?y1x8q29 (by assumption) ?z1x8q29
    case y1x8q29=>intro wq hSw;(have cq:=(B7H.out.nx hSw).cell 1 _ rfl;go_simp);(try with_reducible rfl)
    refine wpAnyL_ready (rs:=[9]) (by kernel_rfl) (by simp) ?_
    refine AllReadyL.cons (o:=⟨_,_,_,_,_,_⟩) rfl (fun K hK=>?_) AllReadyL.nil
    go_simp
    obtain ⟨gx,wq,hgx,hwq,SX,kk⟩:=litF hHeld.size m.2
    rw [← hgx,← hwq]
    clear hgx hwq
    replace hHeld:=hHeld.nx kk
    clear kk
    refine hK.out _ _ (hHeld) (fun hHeld=>?_)
    clear hK K
    refine wpAnyL_ready (rs:=[10]) (by kernel_rfl) (by simp) ?_
    refine AllReadyL.consL (o:=⟨_,_,_,_,_,_⟩) rfl (by rfl) (fun K hK=>?_) AllReadyL.nil
    rw [if_pos (by rfl)]
    have rx:=OK.out.nx hHeld
    simp only [Hdr.val] at rx
    have zbase:=Nat.le_trans zo hHeld.size
    refine wp_append_rda (enc:=encI) _ (.tmp 46) (.tmp 49) 22 rfl w.heap.size 3 (.int .i64 0) 1 8 Tryz.underlying22 Tryz.infoI6 rfl (by omega) (by omega) _ y.known rx rfl _ _ 1 1 [m.2] SX (fun h=>by cases h) (fun _=>rfl) (by simp [encI,Value.oneCell']) rfl (by omega) (by omega) zbase ?_
    intro va wa A ch0 ch1 hva
    obtain ⟨A9,C9,e9,_,_,_,_⟩:=A.rd (fun _=>rfl)
    generalize (y.known++[m.2]).length=L9 at e9
    subst e9
    obtain ⟨s1,s2,O9⟩:=(OWN7.out.nx hHeld).growK (hk':=(A9,L9,C9)) (by decide) (by decide) (by decide) HQS.out HYK.out A ch0 (show ∀ g,(Value.slice A9 L9 C9).ownBlock=some g→(Hdr.val (A1,m1,c1)).ownBlock=some g∨_ from own_hist hva (Nat.le_refl _))
    simp only [Hdr.val] at s1 O9
    replace O9:=lH O9
    refine hK.out _ _ ?_
    clear hK K
    refine wpAnyL_ready (rs:=[11]) (by kernel_rfl) (by simp) ?_
    refine AllReadyL.consL (o:=⟨_,_,_,_,_,_⟩) rfl (by rfl) (fun K hK=>?_) AllReadyL.nil
    go_simp
    refine hK.out _ _ ?_
    clear hK K
    refine wpAnyL_ready (rs:=[12]) (by kernel_rfl) (by simp) ?_
    refine AllReadyL.consL (o:=⟨_,_,_,_,_,_⟩) rfl (by rfl) (fun K hK=>?_) AllReadyL.nil
    go_simp
    refine hK.out _ _ ?_
    clear hK K
    refine wpAnyL_ready (rs:=[13]) (by kernel_rfl) (by simp) ?_
    refine AllReadyL.consL (o:=⟨_,_,_,_,_,_⟩) rfl (by rfl) (fun K hK=>?_) AllReadyL.nil
    go_simp
    refine hK.out _ _ ?_
    clear hK K
    refine wpAnyL_done (by kernel_rfl) ?_ _
    have RR:=lH (show FcRel N P M n3 nP (.slice (some ⟨g,0,none⟩) nP cP) w (.int .i64 ((j:Int)+1)) (wa.setCell ⟨g,k*5+1,none⟩ (.slice A9 L9 C9)) from ⟨j+1,_,addM N Q m,by omega,by go_num,HE7.out,HL7.out,HI7.out,HF7.out,by rw [EA.out];exact O9.out,(show Ex w wa from Chg.trans (KW7.out.nx hHeld) (ch1.mono (fun x hx=>hx))).setNew (p:=⟨g,k*5+1,none⟩) _ zgg⟩)
    clear ch0 ch1 hva rx hHeld SX s1 s2 A
    go_wp2_with fail
    exact ⟨RR.out,by simp [intOf];omega⟩
  ·obtain rfl:j=n3:=by omega
   have hjj:M.take j=M:=List.take_of_length_le (by have:=HM.out;omega)
   have HE:Hid (conF N ⟨P,M⟩=connB N Q):=lH (by rw [ET.out,HQ.out,hjj])
   have PLx:PL wi aP nP Q:=by
    obtain ⟨a',c',e',r',_⟩:=OWN.out.pl
    rw [HQL.out] at e' r'
    cases e'
    exact r'
   have PLH:=lH PLx
   have HF9:Hid (∀ p∈Q,p.known.length≤4000000000000000000∧p.near.length≤4000000000000000000):=lH (fun p hp=>by have:=HQF.out p hp;omega)
   clear PLx hj hjm hjj
   go_wp2_with fail
   (with_reducible refine (connected_p _ _ _ N _ _ _ Q _ (HS0.out.nx KW.out) hn hc hm PLH.out (by omega) HF9.out).mono ?_)
   rintro e w9 ⟨rfl,kk⟩
   have KE:=lH (KW.out.nx kk)
   clear kk
   go_wp2_with fail
   go_ret
   exact ⟨by rw [HE.out];rfl,KE.out⟩
section
variable {N:List Nd} {f g:Fl}
structure Flies (N:List Nd) (B:Nat) (f:Fl):Prop where
 conn:ConnF N f
 sm:SmF f
 len:f.peers.length=N.length
 msgs:f.msgs.length≤B
theorem Flies.sp {B:Nat} (h:Flies N B f):SmallP f.peers:=by have:=h.sm;unfold SmF at this;exact this.1
end
end Go.Proofs.YthdkeibapcaclaaGreatDoor
