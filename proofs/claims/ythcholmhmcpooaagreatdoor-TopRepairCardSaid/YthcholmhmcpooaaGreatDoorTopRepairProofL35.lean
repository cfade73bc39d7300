/- Texts for TopRepairProof. -/
import Derived.Test.YthcholmhmcpooaaGreatDoorTopRepairProofL33
import Derived.Test.YthcholmhmcpooaaGreatDoorTopRepairProofL34
set_option linter.unusedSimpArgs false
set_option linter.unusedVariables false

namespace Go.Proofs.YthcholmhmcpooaaGreatDoor
open Go.RowKit
theorem cop_few {N:List Nd} {f:Fl} (h:∀ p∈f.peers,p.known.length≤1000000):∀ p∈(copF N f).peers,p.known.length≤1000000:=by
 by_cases h0:checkN N=0
 ·intro p hp
  rw [cop_map h0] at hp
  obtain ⟨x,_,rfl⟩:=List.mem_map.1 hp
  unfold peerN
  cases hf:f.peers.find? fun p=>p.id==x.id with
  | none=>exact Nat.zero_le _
  | some q=>exact h q (List.mem_of_find?_eq_some hf)
 ·unfold copF
  rw [if_neg h0]
  intro p hp
  cases hp
theorem del_out {N:List Nd} {f:Fl} {k:Int} (h:k<0∨(copF N f).msgs.length≤k.toNat):delF N f k=copF N f:=by
 unfold delF
 by_cases h0:0≤k
 ·rw [if_pos h0,List.getElem?_eq_none (by rcases h with h | h<;>omega)]
 ·rw [if_neg h0]
theorem del_at {N:List Nd} {f:Fl} {k:Nat} {m:Int×Int} (hm:(copF N f).msgs[k]?=some m):delF N f k=⟨if (findN N m.2).2=true∧m.1≠m.2 then (copF N f).peers.map (tellP N m) else (copF N f).peers,(copF N f).msgs.eraseIdx k⟩:=by
 unfold delF
 rw [if_pos (by omega),Int.toNat_natCast,hm]
theorem tell_none {N:List Nd} {Q:List Pr} {m:Int×Int} (h:idxQ m.1 Q = -1):Q.map (tellP N m)=Q:=by
 have:∀ p∈Q,tellP N m p=id p:=fun p hp=>by
  unfold tellP
  rw [if_neg (fun he=>?_)]
  ·rfl
  ·unfold idxQ at h
   rw [if_pos (List.findIdx_lt_length.2 ⟨p,hp,by simpa using he⟩)] at h
   omega
 rw [List.map_congr_left this,List.map_id]
theorem tell_one {N:List Nd} {Q:List Pr} {m:Int×Int} {k:Nat} {y:Pr} (hy:Q[k]?=some y) (hu:∀ j z,Q[j]?=some z→z.id=y.id→j=k) (he:y.id=m.1):Q.map (tellP N m)=Q.set k { y with known:=ordN N (y.known++[m.2]) y.id }:=by
 have e:(fun p:Pr=>if p.id=y.id then ({ p with known:=ordN N (p.known++[m.2]) p.id }:Pr) else p)=tellP N m:=by
  funext p
  unfold tellP
  rw [he]
 rw [← e]
 exact map_one hy hu (fun p=>({ p with known:=ordN N (p.known++[m.2]) p.id }:Pr))
theorem refs_told {N:List Nd} (h0:checkN N=0) (id:Int) (L:List Int):refsN N ⟨id,0,0,L,[]⟩=ordN N L id:=by
 unfold refsN numsP ordN
 rw [if_pos h0]
 congr 1
 apply List.filter_congr
 intro x hx
 have h1:x.id≠0:=by
  have:=check_id h0 ((sortN_mem N x).1 hx)
  omega
 congr 1
 simp [h1]
theorem OwnP.rowc {eP eI eN base:Nat} {w w1:World} {qs:List PQ} {P:List Pr} (hI:eP≠eI) {g n cap:Nat} (h:OwnP eP eI eN base w (.slice (some ⟨g,0,none⟩) n cap) qs P) {a:Nat} {p:Pr} {hk hn:Hdr} (hq:qs[a]?=some (p.nums,hk,hn))
  (k1:Chg (fun k=>k<w.heap.size∧¬ hk.val.ownBlock=some k) w w1):w1.cell? ⟨g,a*5+1,none⟩=some hk.val∧w1.frozen? ⟨g,a*5+1,none⟩=false:=by
 have row1:OwnW 5 encQ eP base w1 (.slice (some ⟨g,0,none⟩) n cap) qs:=h.1.chg k1 (fun x hx hv=>⟨hx,fun hh=>h.neI hI hq hh hv⟩)
 obtain ⟨s1,s2,_⟩:=OwnW.set1 encQ_len row1 hq (c:=1) (by omega)
 exact ⟨s1,s2⟩
set_option maxRecDepth 100000 in
set_option maxHeartbeats 8000000 in
theorem del_f (a:Option Addr) (n c:Nat) (N:List Nd) (a2:Option Addr) (n2 c2:Nat) (P:List Pr) (a3:Option Addr) (n3 c3:Nat) (M:List (Int×Int)) (i:Int) (w:World) (h:Sl 3 encN w a n N) (hn:n≤1000) (hc:n≤c) (hm:c≤maxLen) (h2:PL w a2 n2 P) (hn2:n2≤4000000000000000000) (hP:SmallP P)
  (h3:Sl 2 encS w a3 n3 M) (hn3:n3≤1000000) (hfew:∀ p∈P,p.known.length≤1000000) :
  Calls Tryz.prog 83 #[.slice a n c,.agg #[.slice a2 n2 c2,.slice a3 n3 c3],.int .i64 i] w (FlPost (delF N ⟨P,M⟩ i) w):=by
 have HL:=lH h.len
 have HS0:=lH h
 have EG:Hid (∀ args w,(callFunc 157 args).run Tryz.prog w=.ok (.enter 157 args) w):=lH (enters_of Tryz.func157 (by kernel_rfl) rfl)
 obtain ⟨F,hF⟩:∃ F,F=copF N ⟨P,M⟩:=⟨_,rfl⟩
 have CL:=lH (cop_len N ⟨P,M⟩)
 have CS:=lH (cop_few (N:=N) (f:=⟨P,M⟩) hfew)
 have CU:=lH (fun (k:Nat) (y:Pr) (hy:(copF N ⟨P,M⟩).peers[k]?=some y)=>cop_uniq N ⟨P,M⟩ hy)
 have DO:=lH (fun (k:Int) hx=>del_out (N:=N) (f:=⟨P,M⟩) (k:=k) hx)
 have DA:=lH (fun (k:Nat) (m:Int×Int) (hx:(copF N ⟨P,M⟩).msgs[k]?=some m)=>del_at (N:=N) (f:=⟨P,M⟩) hx)
 have SM:=lH hP
 have NF:=normal_f a n c N a2 n2 c2 P a3 n3 c3 M
 rw [← hF] at CL CS CU DO DA NF
 have HM:=lH (h3.len:M.length=n3)
 obtain ⟨g4,hg4⟩:∃ g4,g4=w.heap.size:=⟨_,rfl⟩
 obtain ⟨g6,hg6⟩:∃ g6,g6=(w.heap.size+1):=⟨_,rfl⟩
 obtain ⟨w1,hw1⟩:∃ w1,w1=((w.alloc (.cells #[.slice a2 n2 c2,.slice a3 n3 c3] 56)).alloc (.cells #[.slice none 0 0,.slice none 0 0] 56)):=⟨_,rfl⟩
 have kk:Ex w w1:=by rw [hw1];exact (((Ex.refl w).alloc (.cells #[.slice a2 n2 c2,.slice a3 n3 c3] 56)).alloc (.cells #[.slice none 0 0,.slice none 0 0] 56))
 have B4:Blk w1 g4 [.slice a2 n2 c2,.slice a3 n3 c3] 56:=by rw [hw1];simp only [hg4,hg6];have hbk:=((Blk.new w [.slice a2 n2 c2,.slice a3 n3 c3] 56).nx (Ex.new _ (.cells #[.slice none 0 0,.slice none 0 0] 56)));simpa using hbk
 have B6:Blk w1 g6 [.slice none 0 0,.slice none 0 0] 56:=by rw [hw1];simp only [hg4,hg6];have hbk:=(Blk.new (w.alloc (.cells #[.slice a2 n2 c2,.slice a3 n3 c3] 56)) [.slice none 0 0,.slice none 0 0] 56);simpa using hbk
 have Hw1:=lH hw1
 have Hg4:=lH hg4
 have Hg6:=lH hg6
 replace h:=h.nx kk
 replace h2:=h2.nx kk
 replace h3:=h3.nx kk
 have zg6:w.heap.size≤g6:=by omega
 have K1:=lH kk
 have hb6:=B6.lt
 clear kk hw1 hg4 hg6 hP hF hfew
 go_enter Tryz.func83,Tryz.ntmps83
 go_upto_region 1 with fail
 rw [← Hw1.out,← Hg6.out,← Hg4.out]
 clear Hw1 Hg6 Hg4
 have q0:=B4.cell 0 _ rfl
 have q1:=B4.cell 1 _ rfl
 go_wp2_with fail
 (with_reducible refine (NF w1 h hn hc hm h2 hn2 SM.out h3 (by omega)).mono ?_)
 rintro e w2 ⟨vP,vM,qs,rfl,FO,kk⟩
 replace h:=h.nx kk
 replace B6:=B6.nx kk
 obtain ⟨aP,cP,rfl,_,_,_,hgP,_⟩:=FO.1.pl
 obtain ⟨aM,cM,rfl,_,_,_,_⟩:=FO.2.rd (fun _=>rfl)
 have K2:=lH (K1.out.nx kk)
 have K12:=lH kk
 have hz12:=kk.size
 have HGP:=lH hgP
 clear kk h2 h3 B4 q0 q1 NF hgP
 have B7:=Blk.new w2 [.slice aP F.peers.length cP,.slice aM F.msgs.length cM] 56
 have kk:=Ex.new w2 (.cells #[.slice aP F.peers.length cP,.slice aM F.msgs.length cM] 56)
 obtain ⟨w3,hw3⟩:∃ w3,w3=w2.alloc (.cells #[.slice aP F.peers.length cP,.slice aM F.msgs.length cM] 56):=⟨_,rfl⟩
 obtain ⟨g7,hg7⟩:∃ g7,g7=w2.heap.size:=⟨_,rfl⟩
 replace B7:Blk w3 g7 [.slice aP F.peers.length cP,.slice aM F.msgs.length cM] 56:=by rw [hw3,hg7];exact B7
 rw [← hw3] at kk
 have Hw3:=lH hw3
 have Hg7:=lH hg7
 replace h:=h.nx kk
 replace B6:=B6.nx kk
 replace FO:=FO.nx kk
 have zg7:w2.heap.size≤g7:=by omega
 have h67:¬ g6=g7:=by omega
 have K3:=lH (K2.out.nx kk)
 replace K12:=lH (K12.out.nx kk)
 have hz23:=kk.size
 clear kk hw3 hg7
 go_upto_region 2 with fail
 rw [← Hg7.out,← Hw3.out]
 clear Hg7 Hw3
 have hFl:F.peers.length≤1000:=by have:=CL.out.1;have:=HL.out;omega
 have hMl:F.msgs.length≤1000000:=by have:=CL.out.2.1;have:=HM.out;omega
 have FOH:=lH FO
 clear FO
 by_cases h0:i<0
 ·have ET:=lH (DO.out i (.inl h0))
  have r0:=B6.cell 0 _ rfl
  have r1:=B6.cell 1 _ rfl
  have f0:=B6.free 0
  have f1:=B6.free 1
  have p0:=B7.cell 0 _ rfl
  have p1:=B7.cell 1 _ rfl
  have B8H:=lH B6
  clear h B6 B7
  go_wp2_with fail
  obtain ⟨wz,hwz⟩:∃ wz,wz=(w3.setCell ⟨g6,0,none⟩ (.slice aP F.peers.length cP)).setCell ⟨g6,1,none⟩ (.slice aM F.msgs.length cM):=⟨_,rfl⟩
  have BZ:Blk wz g6 [.slice aP F.peers.length cP,.slice aM F.msgs.length cM] 56:=by rw [hwz];exact (B8H.out.set 0 _).set 1 _
  have KB:Exb g6 w3 wz:=by rw [hwz];exact ((Exb.refl g6 _).setB (p:=⟨g6,0,none⟩) _ rfl).setB (p:=⟨g6,1,none⟩) _ rfl
  have KE:Ex w wz:=by rw [hwz];exact (K3.out.setNew (p:=⟨g6,0,none⟩) _ zg6).setNew (p:=⟨g6,1,none⟩) _ zg6
  have FF:=lH ((FOH.out.nxb hb6 KB).lower K1.out.size)
  rw [← hwz]
  have q0:=BZ.cell 0 _ rfl
  have q1:=BZ.cell 1 _ rfl
  clear r0 r1 f0 f1 p0 p1 hwz
  refine bodyPost_ret (v:=.agg #[.slice aP F.peers.length cP,.slice aM F.msgs.length cM]) (by simp [results,Tryz.results83,go_sem, *]) rfl ⟨_,_,qs,rfl,by rw [ET.out];exact FF.out,KE⟩
 obtain ⟨j,rfl⟩:=Int.eq_ofNat_of_zero_le (show 0≤i by omega)
 by_cases hj:j<F.msgs.length
 case neg =>
  have ET:=lH (DO.out j (.inr (by omega)))
  have h1:(F.msgs.length:Int)≤(j:Int):=by omega
  have r0:=B6.cell 0 _ rfl
  have r1:=B6.cell 1 _ rfl
  have f0:=B6.free 0
  have f1:=B6.free 1
  have p0:=B7.cell 0 _ rfl
  have p1:=B7.cell 1 _ rfl
  have B8H:=lH B6
  clear h B6 B7
  go_wp2_with fail
  obtain ⟨wz,hwz⟩:∃ wz,wz=(w3.setCell ⟨g6,0,none⟩ (.slice aP F.peers.length cP)).setCell ⟨g6,1,none⟩ (.slice aM F.msgs.length cM):=⟨_,rfl⟩
  have BZ:Blk wz g6 [.slice aP F.peers.length cP,.slice aM F.msgs.length cM] 56:=by rw [hwz];exact (B8H.out.set 0 _).set 1 _
  have KB:Exb g6 w3 wz:=by rw [hwz];exact ((Exb.refl g6 _).setB (p:=⟨g6,0,none⟩) _ rfl).setB (p:=⟨g6,1,none⟩) _ rfl
  have KE:Ex w wz:=by rw [hwz];exact (K3.out.setNew (p:=⟨g6,0,none⟩) _ zg6).setNew (p:=⟨g6,1,none⟩) _ zg6
  have FF:=lH ((FOH.out.nxb hb6 KB).lower K1.out.size)
  rw [← hwz]
  have q0:=BZ.cell 0 _ rfl
  have q1:=BZ.cell 1 _ rfl
  clear r0 r1 f0 f1 p0 p1 hwz
  refine bodyPost_ret (v:=.agg #[.slice aP F.peers.length cP,.slice aM F.msgs.length cM]) (by simp [results,Tryz.results83,go_sem, *]) rfl ⟨_,_,qs,rfl,by rw [ET.out];exact FF.out,KE⟩
 clear h0 DO
 have h1:(j:Int)<(F.msgs.length:Int):=by omega
 have LTM:=lH (fun g' hg'=>(FOH.out.2.lt g' hg').2)
 obtain ⟨a',c',e',SLM,_,_⟩:=FOH.out.2.sl3 (fun _=>rfl)
 cases e'
 obtain ⟨x8,o8,m,he8,hx8,hmj,hc8⟩:=SLM.at hj
 have e0:=hc8 0 _ rfl
 have e1:=hc8 1 _ rfl
 subst he8
 rw [Nat.add_zero] at e0
 have DE:=lH (DA.out j m hmj)
 have p1:=B7.cell 1 _ rfl
 have hl7:=B7.lt
 clear hc8 hmj SLM DA
 have B8:=Blk.new w3 [.int .i64 m.1,.int .i64 m.2] 242
 have kk:=Ex.new w3 (.cells #[.int .i64 m.1,.int .i64 m.2] 242)
 obtain ⟨w4,hw4⟩:∃ w4,w4=w3.alloc (.cells #[.int .i64 m.1,.int .i64 m.2] 242):=⟨_,rfl⟩
 obtain ⟨g8,hg8⟩:∃ g8,g8=w3.heap.size:=⟨_,rfl⟩
 replace B8:Blk w4 g8 [.int .i64 m.1,.int .i64 m.2] 242:=by rw [hw4,hg8];exact B8
 rw [← hw4] at kk
 have Hw4:=lH hw4
 have Hg8:=lH hg8
 replace h:=h.nx kk
 replace B6:=B6.nx kk
 replace B7:=B7.nx kk
 replace FOH:=lH (FOH.out.nx kk)
 replace K3:=lH (K3.out.nx kk)
 replace K12:=lH (K12.out.nx kk)
 have zg8:w3.heap.size≤g8:=by omega
 have h68:¬ g6=g8:=by have:=B6.lt;have:=hb6;have:=hz12;omega
 have h87:¬ g8=g7:=by omega
 have hz34:=kk.size
 clear kk hw4 hg8
 go_upto_region 5 with fail
 rw [← Hg8.out,← Hw4.out]
 clear Hg8 Hw4
 clear e0 e1 p1
 have p1:=B7.cell 1 _ rfl
 have jw:IntKind.i64.wrap ((j:Int)+1)=(j:Int)+1:=IntWalk.i64_in _ (by omega)
 have OMH:=lH FOH.out.2
 go_wp2_with fail
 (with_reducible refine (delete_io _ _ j w1 _ OMH.out hj (by omega) K12.out).mono ?_)
 rintro e w5 ⟨v9,rfl,own9,k5,ch⟩
 obtain ⟨MM,hMM⟩:∃ MM,MM=F.msgs.eraseIdx j:=⟨_,rfl⟩
 rw [← hMM] at own9 DE
 clear hMM
 obtain ⟨aM9,cM9,rfl,_⟩:=own9.rd (fun _=>rfl)
 have A6:=lH (B6.app FOH.out.2 (by decide) ch)
 have A7:=lH (B7.app FOH.out.2 (by decide) ch)
 have A8:=lH (B8.chg ch ⟨B8.lt,fun hh=>by have:=LTM.out g8 hh;omega⟩)
 have FP:=lH (FOH.out.1.oth FOH.out.2 (by decide) (by decide) (by decide) ch)
 have K5:=lH (show Ex w w5 from Chg.trans K3.out (ch.mono (fun x hx=>⟨Nat.lt_of_lt_of_le hx K3.out.size,fun hh=>by have:=(FOH.out.2.lt x hh).1;have:=K1.out.size;omega⟩)))
 have FM:=lH own9
 have p1:=A7.out.cell 1 _ rfl
 have f1:=A7.out.free 1
 have hz45:=ch.size
 clear ch k5 own9 h B6 B7 B8 FOH LTM K12 jw h1
 go_upto_region 6 with fail
 obtain ⟨wz,hwz⟩:∃ wz,wz=w5.setCell ⟨g7,1,none⟩ (.slice aM9 MM.length cM9):=⟨_,rfl⟩
 rw [← hwz]
 have kb:Exb g7 w5 wz:=by rw [hwz];exact (Exb.refl g7 _).setB (p:=⟨g7,1,none⟩) _ rfl
 have B7:Blk wz g7 [.slice aP F.peers.length cP,.slice aM9 MM.length cM9] 56:=by rw [hwz];exact A7.out.set 1 _
 have zw7:w.heap.size≤g7:=by have:=K1.out.size;omega
 have KZ:=lH (show Ex w wz from by rw [hwz];exact K5.out.setNew (p:=⟨g7,1,none⟩) _ zw7)
 replace FP:=lH (FP.out.putB A7.out (by decide) (by decide) (by decide) kb)
 replace FM:=lH (FM.out.put A7.out (by decide) kb)
 have B6:=A6.out.nxb h67 kb
 have B8:=A8.out.nxb h87 kb
 have h:=HS0.out.nx KZ.out
 have FOH:=lH (show FlOwn w1.heap.size wz (.slice aP F.peers.length cP) (.slice aM9 MM.length cM9) qs ⟨F.peers,MM⟩ from ⟨FP.out,FM.out⟩)
 have hz5:w2.heap.size≤wz.heap.size:=by have:=kb.size;omega
 clear p1 f1 hwz kb A6 A7 A8 FP FM
 have y1:=B8.cell 1 _ rfl
 go_wp2_with fail
 (with_reducible refine (find_p _ _ _ _ m.2 _ h (by omega)).mono ?_)
 rintro e w6 ⟨rfl,kk⟩
 replace h:=h.nx kk
 replace B6:=B6.nx kk
 replace B7:=B7.nx kk
 replace B8:=B8.nx kk
 replace FOH:=lH (FOH.out.nx kk)
 replace KZ:=lH (KZ.out.nx kk)
 have hz56:=kk.size
 clear kk y1
 obtain ⟨G,hG⟩:∃ G,G=findN N m.2:=⟨_,rfl⟩
 rw [← hG] at DE ⊢
 clear hG
 obtain ⟨⟨xi,xk,xw⟩,ok⟩:=G
 have B9:=Blk.new w6 [.int .i64 xi,.string xk,.int .u32 xw] 36
 have kk:=Ex.new w6 (.cells #[.int .i64 xi,.string xk,.int .u32 xw] 36)
 obtain ⟨w7,hw7⟩:∃ w7,w7=w6.alloc (.cells #[.int .i64 xi,.string xk,.int .u32 xw] 36):=⟨_,rfl⟩
 obtain ⟨g9,hg9⟩:∃ g9,g9=w6.heap.size:=⟨_,rfl⟩
 replace B9:Blk w7 g9 [.int .i64 xi,.string xk,.int .u32 xw] 36:=by rw [hw7,hg9];exact B9
 rw [← hw7] at kk
 have Hw7:=lH hw7
 have Hg9:=lH hg9
 replace h:=h.nx kk
 replace B6:=B6.nx kk
 replace B7:=B7.nx kk
 replace B8:=B8.nx kk
 replace FOH:=lH (FOH.out.nx kk)
 replace KZ:=lH (KZ.out.nx kk)
 have hz67:=kk.size
 clear kk hw7 hg9
 simp only [Nd.val]
 go_upto_region 7 with fail
 rw [← Hg9.out,← Hw7.out]
 clear Hg9 Hw7
 have PI:=del1_p g8 m w7 B8
 have PLH:=lH (show PL w7 aP F.peers.length F.peers from by
  obtain ⟨a',c',e',r',_⟩:=FOH.out.1.pl
  cases e'
  exact r')
 have p0:=B7.cell 0 _ rfl
 go_wp2_with fail
 (with_reducible refine (idxf_pr _ _ _ EG.out _ _ _ F.peers _ PLH.out (by omega) PI).mono ?_)
 rintro e w8 ⟨rfl,kk⟩
 replace h:=h.nx kk
 replace B6:=B6.nx kk
 replace B7:=B7.nx kk
 replace B8:=B8.nx kk
 replace FOH:=lH (FOH.out.nx kk)
 replace KZ:=lH (KZ.out.nx kk)
 have hz78:=kk.size
 clear kk PI p0 PLH B9
 rcases idxQ_cases F.peers m.1 with ⟨k,y,hq,hkl,hyk,hpy,hyi⟩ | ⟨hq,-⟩
 case inr =>
  have ET:Hid (delF N ⟨P,M⟩ j=⟨F.peers,MM⟩):=lH (by rw [DE.out,tell_none hq];simp)
  rw [hq]
  have r0:=B6.cell 0 _ rfl
  have r1:=B6.cell 1 _ rfl
  have f0:=B6.free 0
  have f1:=B6.free 1
  have p0:=B7.cell 0 _ rfl
  have p1:=B7.cell 1 _ rfl
  have B8H:=lH B6
  clear h B6 B7
  go_wp2_with fail
  obtain ⟨wz,hwz⟩:∃ wz,wz=(w8.setCell ⟨g6,0,none⟩ (.slice aP F.peers.length cP)).setCell ⟨g6,1,none⟩ (.slice aM9 MM.length cM9):=⟨_,rfl⟩
  have BZ:Blk wz g6 [.slice aP F.peers.length cP,.slice aM9 MM.length cM9] 56:=by rw [hwz];exact (B8H.out.set 0 _).set 1 _
  have KB:Exb g6 w8 wz:=by rw [hwz];exact ((Exb.refl g6 _).setB (p:=⟨g6,0,none⟩) _ rfl).setB (p:=⟨g6,1,none⟩) _ rfl
  have KE:Ex w wz:=by rw [hwz];exact (KZ.out.setNew (p:=⟨g6,0,none⟩) _ zg6).setNew (p:=⟨g6,1,none⟩) _ zg6
  have FF:=lH ((FOH.out.nxb hb6 KB).lower K1.out.size)
  rw [← hwz]
  have q0:=BZ.cell 0 _ rfl
  have q1:=BZ.cell 1 _ rfl
  clear r0 r1 f0 f1 p0 p1 hwz
  refine bodyPost_ret (v:=.agg #[.slice aP F.peers.length cP,.slice aM9 MM.length cM9]) (by simp [results,Tryz.results83,go_sem, *]) rfl ⟨_,_,qs,rfl,by rw [ET.out];exact FF.out,KE⟩
 have kk0:(0:Int)≤(k:Int):=by omega
 rw [hq]
 cases ok with
 | false =>
  have ET:Hid (delF N ⟨P,M⟩ j=⟨F.peers,MM⟩):=lH (by rw [DE.out];simp)
  clear hq hkl hyk hpy hyi
  have r0:=B6.cell 0 _ rfl
  have r1:=B6.cell 1 _ rfl
  have f0:=B6.free 0
  have f1:=B6.free 1
  have p0:=B7.cell 0 _ rfl
  have p1:=B7.cell 1 _ rfl
  have B8H:=lH B6
  clear h B6 B7
  go_wp2_with fail
  obtain ⟨wz,hwz⟩:∃ wz,wz=(w8.setCell ⟨g6,0,none⟩ (.slice aP F.peers.length cP)).setCell ⟨g6,1,none⟩ (.slice aM9 MM.length cM9):=⟨_,rfl⟩
  have BZ:Blk wz g6 [.slice aP F.peers.length cP,.slice aM9 MM.length cM9] 56:=by rw [hwz];exact (B8H.out.set 0 _).set 1 _
  have KB:Exb g6 w8 wz:=by rw [hwz];exact ((Exb.refl g6 _).setB (p:=⟨g6,0,none⟩) _ rfl).setB (p:=⟨g6,1,none⟩) _ rfl
  have KE:Ex w wz:=by rw [hwz];exact (KZ.out.setNew (p:=⟨g6,0,none⟩) _ zg6).setNew (p:=⟨g6,1,none⟩) _ zg6
  have FF:=lH ((FOH.out.nxb hb6 KB).lower K1.out.size)
  rw [← hwz]
  have q0:=BZ.cell 0 _ rfl
  have q1:=BZ.cell 1 _ rfl
  clear r0 r1 f0 f1 p0 p1 hwz
  refine bodyPost_ret (v:=.agg #[.slice aP F.peers.length cP,.slice aM9 MM.length cM9]) (by simp [results,Tryz.results83,go_sem, *]) rfl ⟨_,_,qs,rfl,by rw [ET.out];exact FF.out,KE⟩
 | true =>
  have y0:=B8.cell 0 _ rfl
  have y1:=B8.cell 1 _ rfl
  by_cases hne:m.1=m.2
  ·have ET:Hid (delF N ⟨P,M⟩ j=⟨F.peers,MM⟩):=lH (by rw [DE.out];simp [hne])
   have d1:(m.1 != m.2)=false:=by simpa using hne
   clear hq hkl hyk hpy hyi hne
   have r0:=B6.cell 0 _ rfl
   have r1:=B6.cell 1 _ rfl
   have f0:=B6.free 0
   have f1:=B6.free 1
   have p0:=B7.cell 0 _ rfl
   have p1:=B7.cell 1 _ rfl
   have B8H:=lH B6
   clear h B6 B7
   go_wp2_with fail
   obtain ⟨wz,hwz⟩:∃ wz,wz=(w8.setCell ⟨g6,0,none⟩ (.slice aP F.peers.length cP)).setCell ⟨g6,1,none⟩ (.slice aM9 MM.length cM9):=⟨_,rfl⟩
   have BZ:Blk wz g6 [.slice aP F.peers.length cP,.slice aM9 MM.length cM9] 56:=by rw [hwz];exact (B8H.out.set 0 _).set 1 _
   have KB:Exb g6 w8 wz:=by rw [hwz];exact ((Exb.refl g6 _).setB (p:=⟨g6,0,none⟩) _ rfl).setB (p:=⟨g6,1,none⟩) _ rfl
   have KE:Ex w wz:=by rw [hwz];exact (KZ.out.setNew (p:=⟨g6,0,none⟩) _ zg6).setNew (p:=⟨g6,1,none⟩) _ zg6
   have FF:=lH ((FOH.out.nxb hb6 KB).lower K1.out.size)
   rw [← hwz]
   have q0:=BZ.cell 0 _ rfl
   have q1:=BZ.cell 1 _ rfl
   clear r0 r1 f0 f1 p0 p1 hwz
   refine bodyPost_ret (v:=.agg #[.slice aP F.peers.length cP,.slice aM9 MM.length cM9]) (by simp [results,Tryz.results83,go_sem, *]) rfl ⟨_,_,qs,rfl,by rw [ET.out];exact FF.out,KE⟩
  ·have d1:(m.1 != m.2)=true:=by simpa using hne
   have ET:Hid (delF N ⟨P,M⟩ j=⟨F.peers.set k { y with known:=ordN N (y.known++[m.2]) y.id },MM⟩):=lH (by
    rw [DE.out,tell_one hyk (CU.out k y hyk) hyi]
    simp [hne])
   have HYK:=lH hyk
   have HYI:=lH hyi
   have H0:=lH (CL.out.2.2 (by omega))
   have hkl2:(k:Int)<(F.peers.length:Int):=by omega
   have hyP:=CS.out y (List.mem_of_getElem? hyk)
   obtain ⟨g,hge,hgb⟩:=HGP.out (fun h0=>by rw [h0] at hkl;simp at hkl)
   subst hge
   clear hq hyk hpy hyi hne
   go_upto_region 9 with fail
   obtain ⟨⟨A1,m1,c1⟩,⟨A4,m4,c4⟩,hqs,oK,oN⟩:=FOH.out.1.get HYK.out
   have HQ:=lH hqs
   have OK:=lH oK
   have HS8:=lH h
   have B6H:=lH B6
   have B7H:=lH B7
   have B8H:=lH B8
   clear h B6 B7 B8 hqs oK oN y0 y1
   refine wp_region_late_drew (S:=(fun x=>Chg (fun k=>k<w8.heap.size∧¬ (Hdr.val (A1,m1,c1)).ownBlock=some k) w8 x)) [20] (by kernel_rfl) (Chg.mono (Ex.refl w8).drew (fun k hk=>hk.1)) (fun hHeld=>?_)
   obtain ⟨wd,hwdx⟩:∃ wd:World,wd=World.drew w8:=⟨_,rfl⟩
   rw [← hwdx] at hHeld ⊢
   have hDrew:Ex w8 wd:=by rw [hwdx];exact (Ex.refl w8).drew
   clear hwdx
   refine tkL 0 (v:=?_) rfl (by kernel_rfl) (fun _ _ _ h=>h) (by rfl) ?y5 hHeld ?_
   case y5=>intro wq hSw;go_simp<;>rfl
   refine tkL 1 (v:=?_) rfl (by kernel_rfl) (fun _ _ _ h=>h) (by rfl) ?y8 hHeld ?_
   case y8=>intro wq hSw;(have cq:=(B7H.out.app OK.out (by decide) hSw).cell 0 _ rfl;go_simp)<;>rfl
   refine tkL 2 (v:=?_) rfl (by kernel_rfl) (fun _ _ _ h=>h) (by rfl) ?y11 hHeld ?_
   case y11=>intro wq hSw;go_simp<;>rfl
   refine tkL 3 (v:=?_) rfl (by kernel_rfl) (fun _ _ _ h=>h) (by rfl) ?y14 hHeld ?_
   case y14=>intro wq hSw;go_simp<;>rfl
   refine tkL 4 (v:=?_) rfl (by kernel_rfl) (fun _ _ _ h=>h) (by rfl) ?y17 hHeld ?_
   case y17=>intro wq hSw;go_simp<;>rfl
   refine tkL 5 (v:=?_) rfl (by kernel_rfl) (fun _ _ _ h=>h) (by rfl) ?y20 hHeld ?_
   case y20=>intro wq hSw;(have cq:=(B8H.out.app OK.out (by decide) hSw).cell 0 _ rfl;go_simp)<;>rfl
   refine tkL 6 (v:=?_) rfl (by kernel_rfl) (fun _ _ _ h=>h) (by rfl) ?y23 hHeld ?_
   case y23=>intro wq hSw;go_simp<;>rfl
   refine tkL 7 (v:=?_) rfl (by kernel_rfl) (fun _ _ _ h=>h) (by rfl) ?y26 hHeld ?_
   case y26=>intro wq hSw;(have cq:=(B7H.out.app OK.out (by decide) hSw).cell 0 _ rfl;go_simp)<;>rfl
   refine tkL 8 (v:=?_) rfl (by kernel_rfl) (fun _ _ _ h=>h) (by rfl) ?y29 hHeld ?_
   case y29=>intro wq hSw;go_simp<;>rfl
   refine tkL 9 (v:=?_) rfl (by kernel_rfl) (fun _ _ _ h=>h) (by rfl) ?y32 hHeld ?_
   case y32=>intro wq hSw;go_simp<;>rfl
   refine tkL 10 (v:=?_) rfl (by kernel_rfl) (fun _ _ _ h=>h) (by rfl) ?y35 hHeld ?_
   case y35=>intro wq hSw;go_simp<;>rfl
   refine tkL 11 (v:=?_) rfl (by kernel_rfl) (fun _ _ _ h=>h) (by rfl) ?y38 hHeld ?_
   case y38=>intro wq hSw;(have cq:=(FOH.out.1.rowc (by decide) HQ.out hSw).1;simp only [Hdr.val] at cq;go_simp)<;>rfl
   refine tkL 12 (v:=?_) rfl (by kernel_rfl) (fun _ _ _ h=>h) (by rfl) ?y41 hHeld ?_
   case y41=>intro wq hSw;go_simp<;>rfl
   refine tkL 13 (v:=?_) rfl (by kernel_rfl) (fun _ _ _ h=>h) (by rfl) ?y44 hHeld ?_
   case y44=>intro wq hSw;(have cq:=(B8H.out.app OK.out (by decide) hSw).cell 1 _ rfl;go_simp)<;>rfl
   refine rL 14 (by kernel_rfl) rfl fun K hK=>?_
   go_simp
   obtain ⟨gx,wq,hgx,hwq,SX,kk⟩:=litF (wp:=w8) (u:=wd) hDrew.size m.2
   rw [← hgx,← hwq]
   clear hgx hwq
   have H5:=hDrew.nx kk
   replace hHeld:Chg (fun k=>k<w8.heap.size∧¬ (Hdr.val (A1,m1,c1)).ownBlock=some k) w8 wq:=Chg.mono H5 (fun k hk=>hk.1)
   clear kk
   refine hK.out _ _ (hHeld) (fun hHeld=>?_)
   clear hK K
   refine rL 15 (by kernel_rfl) rfl fun K hK=>?_
   rw [if_pos (by rfl)]
   have rx:=OK.out.nx H5
   simp only [Hdr.val] at rx
   have zbase:w1.heap.size≤wq.heap.size:=by have:=H5.size;omega
   refine wp_append_rda (enc:=encI) _ (.tmp 71) (.tmp 74) 22 rfl w1.heap.size 3 (.int .i64 0) 1 8 Tryz.underlying22 Tryz.infoI6 rfl (by omega) (by omega) _ y.known rx rfl _ _ 1 1 [m.2] SX (fun h=>by cases h) (fun _=>rfl) (by simp [encI,Value.oneCell']) rfl (by omega) (by omega) zbase ?_
   intro va wa A ch0 ch1 hva
   obtain ⟨LL,hLL⟩:∃ LL,LL=y.known++[m.2]:=⟨_,rfl⟩
   rw [← hLL] at A
   have HLL:=lH hLL
   clear hLL
   obtain ⟨A9,C9,rfl,SA,_,_,_⟩:=A.rd (fun _=>rfl)
   replace hHeld:Chg (fun k=>k<w8.heap.size∧¬ (Hdr.val (A1,m1,c1)).ownBlock=some k) w8 wa:=Chg.trans hHeld (ch0.mono (fun x hx=>⟨Nat.lt_of_lt_of_le hx.1 H5.size,hx.2⟩))
   have HA:=lH hHeld
   have KA:=lH (show Ex w wa from Chg.trans (KZ.out.nx H5) (ch1.mono (fun x hx=>Nat.lt_of_lt_of_le hx K1.out.size)))
   have SA2:Sl 1 encI wa A9 LL.length LL:=Rd.mono SA (fun _ hk=>hk.2)
   have hLLn:LL.length≤4000000000000000000:=by rw [HLL.out];simp;omega
   clear ch0 ch1 hva rx H5 zbase SX SA A
   refine hK.out _ _ (hHeld) (fun hHeld=>?_)
   clear hK K
   refine tkL 16 (v:=?_) rfl (by kernel_rfl) (fun _ _ _ h=>h) (by rfl) ?y81 hHeld ?_
   case y81=>intro wq hSw;go_simp<;>rfl
   refine rL 17 (by kernel_rfl) rfl fun K hK=>?_
   go_simp
   (with_reducible refine (refs_p _ _ _ N ⟨m.1,0,0,LL,[]⟩ _ _ _ none 0 0 _ (HS0.out.nx KA.out) hn hc hm SA2 (Sl.nil _ _ _ _) hLLn (by omega)).mono ?_)
   rintro e wb ⟨vK,rfl,oR,kk⟩
   rw [refs_told H0.out,← HYI.out] at oR
   obtain ⟨aK,cK,rfl,_⟩:=oR.rd (fun _=>rfl)
   have hza:=hHeld.size
   have HB:Chg (fun k=>k<w8.heap.size∧¬ (Hdr.val (A1,m1,c1)).ownBlock=some k) w8 wb:=Chg.trans hHeld (Chg.mono kk (fun x hx=>Nat.lt_of_lt_of_le hx.1 hza))
   obtain ⟨s1,s2,O9⟩:=FOH.out.1.growK (hk':=(aK,(ordN N LL y.id).length,cK)) (by decide) (by decide) (by decide) HQ.out HYK.out (oR.base (by omega)) HB (fun g' hg'=>.inr (by have:=(oR.lt g' hg').1;omega))
   simp only [Hdr.val] at s1 O9
   have OWN5:=lH O9
   have KB:=lH (KA.out.nx kk)
   have HBH:=lH HB
   replace hHeld:=HB
   clear HB O9 kk oR SA2 hLLn
   refine hK.out _ _ (hHeld) (fun hHeld=>?_)
   clear hK K
   refine tkL 18 (v:=?_) rfl (by kernel_rfl) (fun _ _ _ h=>h) (by rfl) ?y103 hHeld ?_
   case y103=>intro wq hSw;go_simp<;>rfl
   refine tkL 19 (v:=?_) rfl (by kernel_rfl) (fun _ _ _ h=>h) (by rfl) ?y106 hHeld ?_
   case y106=>intro wq hSw;go_simp<;>rfl
   refine rLL 20 (by kernel_rfl) rfl (by rfl) fun K hK=>?_
   go_simp
   refine hK.out _ _ ?_
   clear hK K
   refine wpAnyL_done (by kernel_rfl) ?_ _
   obtain ⟨wy,hwy⟩:∃ wy,wy=wb.setCell ⟨g,k*5+1,none⟩ (.slice aK (ordN N LL y.id).length cK):=⟨_,rfl⟩
   rw [← hwy]
   obtain ⟨qz,own5⟩:∃ qz,OwnPr w1.heap.size wy (.slice (some ⟨g,0,none⟩) F.peers.length cP) qz (F.peers.set k { y with known:=ordN N LL y.id }):=⟨_,by rw [hwy];exact OWN5.out⟩
   have ch:Chg (fun x=>x<wb.heap.size∧¬ x=g) wb wy:=by rw [hwy];exact set_chg wb _
   have B7b:=B7H.out.app OK.out (by decide) HBH.out
   have B6b:=B6H.out.app OK.out (by decide) HBH.out
   have FMb:=OwnL.app FOH.out.2 OK.out (by decide) HBH.out
   have rowb:=FOH.out.1.1.chg HBH.out (fun x hx hv=>⟨hx,fun hh=>FOH.out.1.neI (by decide) HQ.out hh hv⟩)
   have h7g:¬ g7=g:=fun he=>by subst he;obtain ⟨_,_,e2⟩:=rowb.blk rfl;exact blk_kind (by decide) e2 B7b
   have h6g:¬ g6=g:=by omega
   have FMy:=FMb.chg ch (fun x hx hv=>⟨hx,fun he=>by subst he;obtain ⟨_,_,e1⟩:=FMb.blk hv;obtain ⟨_,_,e2⟩:=rowb.blk rfl;exact blk_kind (by decide) e2 e1⟩)
   have FOY:=lH (show FlOwn w1.heap.size wy (.slice (some ⟨g,0,none⟩) F.peers.length cP) (.slice aM9 MM.length cM9) qz ⟨F.peers.set k { y with known:=ordN N LL y.id },MM⟩ from ⟨own5,FMy⟩)
   have B6:=B6b.chg ch ⟨B6b.lt,h6g⟩
   have B7:=B7b.chg ch ⟨B7b.lt,h7g⟩
   have KY:=lH (show Ex w wy from Chg.trans KB.out (ch.mono (fun x hx=>⟨Nat.lt_of_lt_of_le hx KB.out.size,fun he=>by have:=K1.out.size;omega⟩)))
   clear s1 s2 hwy own5 ch FMy OWN5 B6b B7b FMb rowb hHeld hDrew
   have r0:=B6.cell 0 _ rfl
   have r1:=B6.cell 1 _ rfl
   have f0:=B6.free 0
   have f1:=B6.free 1
   have p0:=B7.cell 0 _ rfl
   have p1:=B7.cell 1 _ rfl
   have B8H:=lH B6
   clear B6 B7
   go_wp2_with fail
   obtain ⟨wz,hwz⟩:∃ wz,wz=(wy.setCell ⟨g6,0,none⟩ (.slice (some ⟨g,0,none⟩) F.peers.length cP)).setCell ⟨g6,1,none⟩ (.slice aM9 MM.length cM9):=⟨_,rfl⟩
   have BZ:Blk wz g6 [.slice (some ⟨g,0,none⟩) F.peers.length cP,.slice aM9 MM.length cM9] 56:=by rw [hwz];exact (B8H.out.set 0 _).set 1 _
   have KB:Exb g6 wy wz:=by rw [hwz];exact ((Exb.refl g6 _).setB (p:=⟨g6,0,none⟩) _ rfl).setB (p:=⟨g6,1,none⟩) _ rfl
   have KE:Ex w wz:=by rw [hwz];exact (KY.out.setNew (p:=⟨g6,0,none⟩) _ zg6).setNew (p:=⟨g6,1,none⟩) _ zg6
   have FF:=lH ((FOY.out.nxb hb6 KB).lower K1.out.size)
   rw [← hwz]
   have q0:=BZ.cell 0 _ rfl
   have q1:=BZ.cell 1 _ rfl
   clear r0 r1 f0 f1 p0 p1 hwz
   refine bodyPost_ret (v:=.agg #[.slice (some ⟨g,0,none⟩) F.peers.length cP,.slice aM9 MM.length cM9]) (by simp [results,Tryz.results83,go_sem, *]) rfl ⟨_,_,_,rfl,by rw [ET.out,← HLL.out];exact FF.out,KE⟩
def SmF (f:Fl):Prop:=SmallP f.peers∧∀ p∈f.peers,p.known.length≤1000000
theorem cop_sm {N:List Nd} {f:Fl} (h:SmF f):SmF (copF N f):=⟨cop_small h.1,cop_few h.2⟩
theorem del_sm {N:List Nd} {f:Fl} (hN:N.length≤1000) (h:SmF f) (k:Int):SmF (delF N f k):=by
 have hc:=cop_sm (N:=N) h
 unfold delF
 split
 ·split
  ·exact hc
  ·split
   ·have key:∀ p∈(copF N f).peers.map (tellP N ‹_›),p.known.length≤1000000∧p.near.length≤4398046511104:=by
     intro p hp
     obtain ⟨q,hq,rfl⟩:=List.mem_map.1 hp
     have h1:=hc.1 q hq
     have h2:=hc.2 q hq
     unfold tellP
     split
     ·refine ⟨?_,h1.2⟩
      have:=ord_len (N:=N) (q.known++[(‹Int×Int›).2]) q.id
      show (ordN N _ _).length≤_
      omega
     ·exact ⟨h2,h1.2⟩
    exact ⟨fun p hp=>⟨by have:=(key p hp).1;omega,(key p hp).2⟩,fun p hp=>(key p hp).1⟩
   ·exact ⟨hc.1,hc.2⟩
 ·exact hc
theorem tick_sm {N:List Nd} {f:Fl} (hN:N.length≤1000) (h:SmF f) (id hh:Int):SmF (tickF N f id hh):=by
 have hc:=cop_sm (N:=N) h
 unfold tickF
 split
 ·rename_i hl
  have key:∀ p∈(copF N f).peers.map fun p=>if p.id=id then tickP N (peerN (copF N f).peers) p hh.toNat else p,p.known.length≤1000000∧p.near.length≤4398046511104:=by
   intro p hp
   obtain ⟨q,hq,rfl⟩:=List.mem_map.1 hp
   have h1:=hc.1 q hq
   have h2:=hc.2 q hq
   split
   ·have h3:=ord_len (N:=N) [(keepN N q).1,(keepN N q).2] q.id
    have h4:=nextB_len N (peerN (copF N f).peers) q hh.toNat
    have h5:=hl.1
    unfold lvlN at h5
    simp at h5
    refine ⟨?_,?_⟩
    ·show (ordN N _ _).length≤_
     omega
    ·show (nextB N _ _ _).length≤_
     omega
   ·exact ⟨h2,h1.2⟩
  exact ⟨fun p hp=>⟨by have:=(key p hp).1;omega,(key p hp).2⟩,fun p hp=>(key p hp).1⟩
 ·exact hc
theorem del_len {N:List Nd} {f:Fl} (h0:checkN N=0) {n j:Nat} (hm:f.msgs.length=n+1) (hj:j<n+1):(delF N f j).msgs.length=n:=by
 obtain ⟨m,hmj⟩:∃ m,f.msgs[j]?=some m:=⟨f.msgs[j]'(by omega),by simp⟩
 rw [del_some h0 hmj]
 show (f.msgs.eraseIdx j).length=n
 rw [List.length_eraseIdx,if_pos (by omega)]
 omega
theorem del_plen {N:List Nd} {f:Fl} (k:Int):(delF N f k).peers.length≤N.length:=by
 have h1:=(cop_len N f).1
 unfold delF
 split
 ·split
  ·exact h1
  ·show (if _ then _ else _:List Pr).length≤_
   split
   ·rw [List.length_map];exact h1
   ·exact h1
 ·exact h1
theorem tick_len {N:List Nd} {f:Fl} (h0:checkN N=0) (id hh:Int):(tickF N f id hh).msgs.length≤f.msgs.length+2*N.length:=by
 unfold tickF
 split
 ·show ((copF N f).msgs++_).length≤_
  rw [List.length_append,cop_msgs h0]
  have:=intros_len N (peerN (copF N f).peers id)
  omega
 ·rw [cop_msgs h0];omega
theorem round_yes {N:List Nd} {f:Fl} {ms ts:List Int} {h:Nat} (hh:h≤16) (h0:checkN N=0):roundF N f ms ts h=tickAllF N ts h N.length 0 ((sortN N).map Nd.id) (delAllF N ms (copF N f).msgs.length 0 (copF N f)):=by
 unfold roundF
 rw [if_pos ⟨by unfold lvlN;simp;omega,h0⟩]
theorem round_no1 {N:List Nd} {f:Fl} {ms ts:List Int} {h:Int} (hh:lvlN h=false):roundF N f ms ts h=⟨[],[]⟩:=by
 unfold roundF
 rw [if_neg (fun hx=>by rw [hh] at hx;cases hx.1)]
theorem round_no2 {N:List Nd} {f:Fl} {ms ts:List Int} {h:Int} (h0:¬ checkN N=0):roundF N f ms ts h=⟨[],[]⟩:=by
 unfold roundF
 rw [if_neg (fun hx=>h0 hx.2)]
theorem FlOwn.putB {base g':Nat} {w w':World} {v m:Value} {qs:List PQ} {F:Fl} {cs:List Value} {ty:TypeId} (h:FlOwn base w v m qs F) (B:Blk w g' cs ty) (n1:150≠ty) (n2:3≠ty) (n3:158≠ty) (n4:242≠ty) (k:Exb g' w w'):FlOwn base w' v m qs F :=
 ⟨h.1.putB B n1 n2 n3 k,OwnL.put h.2 B n4 k⟩
theorem FlOwn.two {base:Nat} {w:World} {v m:Value} {qs:List PQ} {F:Fl} (h:FlOwn base w v m qs F):∃ aP cP aM cM,v=.slice aP F.peers.length cP∧m=.slice aM F.msgs.length cM∧PL w aP F.peers.length F.peers∧Sl 2 encS w aM F.msgs.length F.msgs:=by
 obtain ⟨aP,cP,e1,p1,_⟩:=h.1.pl
 obtain ⟨aM,cM,e2,p2,_⟩:=h.2.sl3 (fun _=>rfl)
 exact ⟨aP,cP,aM,cM,e1,e2,p1,p2⟩
def RmRel (N:List Nd) (ms:List Int) (target:Fl) (g10 g11 gT:Nat) (w:World) (k:Nat) (wr:World):Prop :=
 ∃ (i:Nat) (aP:Option Addr) (cP:Nat) (aM:Option Addr) (cM:Nat) (qs:List PQ) (F:Fl),F.msgs.length=k∧Blk wr g11 [.slice aP F.peers.length cP,.slice aM F.msgs.length cM] 56 ∧
  FlOwn w.heap.size wr (.slice aP F.peers.length cP) (.slice aM F.msgs.length cM) qs F∧TurnB w wr gT (ms.drop i)∧Blk wr g10 [.slice none 0 0,.slice none 0 0] 56∧Ex w wr∧SmF F∧F.peers.length≤1000∧k≤1000000∧delAllF N ms k i F=target
theorem tick_plen {N:List Nd} {f:Fl} (id hh:Int):(tickF N f id hh).peers.length≤N.length:=by
 have h1:=(cop_len N f).1
 unfold tickF
 split
 ·show (List.map _ _).length≤_
  rw [List.length_map];exact h1
 ·exact h1
theorem FlOwn.oth {α:Type} {sz e base' base:Nat} {enc:α→List Value} {w w':World} {v v' m:Value} {qs:List PQ} {F:Fl} {l':List α} (h:FlOwn base w v m qs F) (own:OwnL sz enc e base' w v' l') (n1:150≠e) (n2:3≠e) (n3:158≠e) (n4:242≠e) (k:Chg (fun k=>k<w.heap.size∧¬ v'.ownBlock=some k) w w'):FlOwn base w' v m qs F :=
 ⟨h.1.oth own n1 n2 n3 k,OwnL.app h.2 own n4 k⟩
def TkRel (N:List Nd) (ts:List Int) (m:Nat) (target:Fl) (g10 g11 gT:Nat) (w:World) (k:Nat) (vL:Value) (wr:World):Prop :=
 ∃ (i:Nat) (aP:Option Addr) (cP:Nat) (aM:Option Addr) (cM:Nat) (qs:List PQ) (F:Fl) (L:List Nd),L.length=k∧i+k≤1000∧OwnL 3 encN 36 w.heap.size wr vL L∧Blk wr g11 [.slice aP F.peers.length cP,.slice aM F.msgs.length cM] 56 ∧
  FlOwn w.heap.size wr (.slice aP F.peers.length cP) (.slice aM F.msgs.length cM) qs F∧TurnB w wr gT (ts.drop i)∧Blk wr g10 [.slice none 0 0,.slice none 0 0] 56∧Ex w wr∧SmF F∧F.peers.length≤1000∧F.msgs.length≤i*2000∧tickAllF N ts m k i (L.map Nd.id) F=target
theorem erase_map {α β:Type} (f:α→β):∀ (l:List α) (k:Nat),(l.map f).eraseIdx k=(l.eraseIdx k).map f
 | [],_=>rfl
 | a::l,0=>rfl
 | a::l,k+1=>by
  show f a::(l.map f).eraseIdx k=f a::(l.eraseIdx k).map f
  rw [erase_map f l k]
theorem tk_step {N:List Nd} {ts:List Int} {m:Int} {k i p:Nat} {L:List Nd} {F:Fl} {y:Nd} (hp:p=headP (ts.drop i) (k+1)) (hy:L[p]?=some y):tickAllF N ts m (k+1) i (L.map Nd.id) F=tickAllF N ts m k (i+1) ((L.eraseIdx p).map Nd.id) (tickF N F y.id m):=by
 show tickAllF N ts m k (i+1) ((L.map Nd.id).eraseIdx (pickN ts i (k+1))) (tickF N F ((L.map Nd.id)[pickN ts i (k+1)]?.getD 0) m)=_
 rw [head_pick,← hp,List.getElem?_map,hy,erase_map]
 rfl
set_option maxRecDepth 100000 in
set_option maxHeartbeats 8000000 in
theorem round_f (a:Option Addr) (n c:Nat) (N:List Nd) (a2:Option Addr) (n2 c2:Nat) (P:List Pr) (a3:Option Addr) (n3 c3:Nat) (M:List (Int×Int)) (a4:Option Addr) (n4 c4:Nat) (ms:List Int) (a5:Option Addr) (n5 c5:Nat) (ts:List Int) (hh:Int) (w:World) (h:Sl 3 encN w a n N) (hn:n≤1000) (hc:n≤c) (hm:c≤maxLen) (hw:∀ x∈N,x.word<4294967296) (h2:PL w a2 n2 P) (hn2:n2≤4000000000000000000) (hS:SmF ⟨P,M⟩)
  (h3:Sl 2 encS w a3 n3 M) (hn3:n3≤1000000) (h4:Sl 1 encI w a4 n4 ms) (hc4:n4≤c4) (hm4:c4≤maxLen) (h5:Sl 1 encI w a5 n5 ts) (hc5:n5≤c5) (hm5:c5≤maxLen) :
  Calls Tryz.prog 88 #[.slice a n c,.agg #[.slice a2 n2 c2,.slice a3 n3 c3],.slice a4 n4 c4,.slice a5 n5 c5,.int .i64 hh] w (FlPost (roundF N ⟨P,M⟩ ms ts hh) w):=by
 have HW:=lH hw
 have HL:=lH h.len
 have HS0:=lH h
 have H4:=lH h4
 have H5:=lH h5
 have HSM:=lH hS
 have HSP:=lH hS.1
 have HM:=lH (h3.len:M.length=n3)
 have EGT:Hid (∀ args w,(callFunc 209 args).run Tryz.prog w=.ok (.enter 209 args) w):=lH (enters_of Tryz.func209 (by kernel_rfl) rfl)
 have RN1:=lH (fun hx=>round_no1 (N:=N) (f:=⟨P,M⟩) (ms:=ms) (ts:=ts) (h:=hh) hx)
 have RN2:=lH (fun hx=>round_no2 (N:=N) (f:=⟨P,M⟩) (ms:=ms) (ts:=ts) (h:=hh) hx)
 obtain ⟨g6,hg6⟩:∃ g6,g6=w.heap.size:=⟨_,rfl⟩
 obtain ⟨g10,hg10⟩:∃ g10,g10=(w.heap.size+1):=⟨_,rfl⟩
 obtain ⟨w1,hw1⟩:∃ w1,w1=((w.alloc (.cells #[.slice a2 n2 c2,.slice a3 n3 c3] 56)).alloc (.cells #[.slice none 0 0,.slice none 0 0] 56)):=⟨_,rfl⟩
 have kk:Ex w w1:=by rw [hw1];exact (((Ex.refl w).alloc (.cells #[.slice a2 n2 c2,.slice a3 n3 c3] 56)).alloc (.cells #[.slice none 0 0,.slice none 0 0] 56))
 have B6:Blk w1 g6 [.slice a2 n2 c2,.slice a3 n3 c3] 56:=by rw [hw1];simp only [hg6,hg10];have hbk:=((Blk.new w [.slice a2 n2 c2,.slice a3 n3 c3] 56).nx (Ex.new _ (.cells #[.slice none 0 0,.slice none 0 0] 56)));simpa using hbk
 have B10:Blk w1 g10 [.slice none 0 0,.slice none 0 0] 56:=by rw [hw1];simp only [hg6,hg10];have hbk:=(Blk.new (w.alloc (.cells #[.slice a2 n2 c2,.slice a3 n3 c3] 56)) [.slice none 0 0,.slice none 0 0] 56);simpa using hbk
 have Hw1:=lH hw1
 have Hg6:=lH hg6
 have Hg10:=lH hg10
 replace h:=h.nx kk
 replace h2:=h2.nx kk
 replace h3:=h3.nx kk
 have zg10:w.heap.size≤g10:=by omega
 have K1:=lH kk
 clear kk hw1 hg6 hg10 hw hS h4 h5
 go_enter Tryz.func88,Tryz.ntmps88
 go_upto_region 1 with fail
 rw [← Hw1.out,← Hg10.out,← Hg6.out]
 clear Hw1 Hg10 Hg6
 go_wp2_with fail
 (with_reducible refine (check_p _ _ _ _ _ h (by omega) hc hm).mono ?_)
 rintro e w2 ⟨rfl,kk⟩
 replace h:=h.nx kk
 replace h2:=h2.nx kk
 replace h3:=h3.nx kk
 replace B6:=B6.nx kk
 replace B10:=B10.nx kk
 have K2:=lH (K1.out.nx kk)
 clear kk
 by_cases hck:checkN N=0
 case neg =>
  have d1:(checkN N != 0)=true:=by simpa using hck
  have ET:=lH (RN2.out hck)
  clear hck
  have r0:=B10.cell 0 _ rfl
  have r1:=B10.cell 1 _ rfl
  have f0:=B10.free 0
  have f1:=B10.free 1
  have KE:=lH ((K2.out.setNew (p:=⟨g10,0,none⟩) (.slice none 0 0) zg10).setNew (p:=⟨g10,1,none⟩) (.slice none 0 0) zg10)
  clear h h2 h3 B6 B10
  go_wp2_with fail
  refine bodyPost_ret (v:=.agg #[.slice none 0 0,.slice none 0 0]) (by simp [results,Tryz.results88,go_sem, *]) rfl ⟨_,_,[],rfl,by rw [ET.out];exact FlOwn.nil _ _,KE.out⟩
 have d1:(checkN N != 0)=false:=by simpa using hck
 have HC:=lH hck
 clear hck
 by_cases hlo:hh<0
 ·have ET:=lH (RN1.out (by unfold lvlN;simp;omega))
  have r0:=B10.cell 0 _ rfl
  have r1:=B10.cell 1 _ rfl
  have f0:=B10.free 0
  have f1:=B10.free 1
  have KE:=lH ((K2.out.setNew (p:=⟨g10,0,none⟩) (.slice none 0 0) zg10).setNew (p:=⟨g10,1,none⟩) (.slice none 0 0) zg10)
  clear h h2 h3 B6 B10
  go_wp2_with fail
  refine bodyPost_ret (v:=.agg #[.slice none 0 0,.slice none 0 0]) (by simp [results,Tryz.results88,go_sem, *]) rfl ⟨_,_,[],rfl,by rw [ET.out];exact FlOwn.nil _ _,KE.out⟩
 by_cases hhi:hh>16
 ·have ET:=lH (RN1.out (by unfold lvlN;simp;omega))
  have r0:=B10.cell 0 _ rfl
  have r1:=B10.cell 1 _ rfl
  have f0:=B10.free 0
  have f1:=B10.free 1
  have KE:=lH ((K2.out.setNew (p:=⟨g10,0,none⟩) (.slice none 0 0) zg10).setNew (p:=⟨g10,1,none⟩) (.slice none 0 0) zg10)
  clear h h2 h3 B6 B10
  go_wp2_with fail
  refine bodyPost_ret (v:=.agg #[.slice none 0 0,.slice none 0 0]) (by simp [results,Tryz.results88,go_sem, *]) rfl ⟨_,_,[],rfl,by rw [ET.out];exact FlOwn.nil _ _,KE.out⟩
 obtain ⟨m,rfl⟩:=Int.eq_ofNat_of_zero_le (show 0≤hh by omega)
 have hm16:m≤16:=by omega
 have RY:=lH (round_yes (N:=N) (f:=⟨P,M⟩) (ms:=ms) (ts:=ts) hm16 HC.out)
 have NF:=normal_f a n c N a2 n2 c2 P a3 n3 c3 M
 have CL:=lH (cop_len N ⟨P,M⟩)
 have CS:=lH (cop_sm (N:=N) HSM.out)
 obtain ⟨F,hF⟩:∃ F,F=copF N ⟨P,M⟩:=⟨_,rfl⟩
 rw [← hF] at NF CL CS RY
 clear hF RN1 RN2
 go_upto_region 3 with fail
 have q0:=B6.cell 0 _ rfl
 have q1:=B6.cell 1 _ rfl
 go_wp2_with fail
 (with_reducible refine (NF w2 h hn hc hm h2 hn2 HSP.out h3 (by omega)).mono ?_)
 rintro e w3 ⟨vP,vM,qs,rfl,FO,kk⟩
 replace B10:=B10.nx kk
 obtain ⟨aP,cP,aM,cM,rfl,rfl,_,_⟩:=FO.two
 have K3:=lH (K2.out.nx kk)
 have hz2:=K2.out.size
 clear kk h h2 h3 B6 q0 q1 NF
 have hl10:=B10.lt
 have B11:=Blk.new w3 [.slice aP F.peers.length cP,.slice aM F.msgs.length cM] 56
 have kk:=Ex.new w3 (.cells #[.slice aP F.peers.length cP,.slice aM F.msgs.length cM] 56)
 obtain ⟨w4,hw4⟩:∃ w4,w4=w3.alloc (.cells #[.slice aP F.peers.length cP,.slice aM F.msgs.length cM] 56):=⟨_,rfl⟩
 obtain ⟨g11,hg11⟩:∃ g11,g11=w3.heap.size:=⟨_,rfl⟩
 replace B11:Blk w4 g11 [.slice aP F.peers.length cP,.slice aM F.msgs.length cM] 56:=by rw [hw4,hg11];exact B11
 rw [← hw4] at kk
 have Hw4:=lH hw4
 have Hg11:=lH hg11
 replace B10:=B10.nx kk
 replace FO:=FO.nx kk
 have K4:=lH (K3.out.nx kk)
 have zg11:w.heap.size≤g11:=by have:=K3.out.size;omega
 have h1011:¬ g10=g11:=by omega
 clear kk hw4 hg11
 go_upto_region 4 with fail
 rw [← Hg11.out,← Hw4.out]
 clear Hg11 Hw4
 have FO4:=lH (FO.lower (base':=w.heap.size) hz2)
 have hl11:=B11.lt
 have hl10:=B10.lt
 clear FO
 go_wp2_with fail
 (with_reducible refine (turns_f _ _ _ ms w _ H4.out hc4 hm4).mono ?_)
 rintro e w5 ⟨gT,rfl,hgT,kk,TB⟩
 have hFl:F.peers.length≤1000:=by have:=CL.out.1;have:=HL.out;omega
 have hMl:F.msgs.length≤1000000:=by have:=CL.out.2.1;have:=HM.out;omega
 have hNl:N.length≤1000:=by have:=HL.out;omega
 have zgT:w.heap.size≤gT:=by have:=K4.out.size;omega
 have hT11:¬ g11=gT:=by omega
 have hT10:¬ g10=gT:=by omega
 have R0:=lH (show RmRel N ms (delAllF N ms F.msgs.length 0 F) g10 g11 gT w F.msgs.length w5 from
  ⟨0,aP,cP,aM,cM,qs,F,rfl,B11.nx kk,FO4.out.nx kk,TB,B10.nx kk,K4.out.nx kk,CS.out,hFl,hMl,rfl⟩)
 have c51:=(B11.nx kk).cell 1 _ rfl
 generalize hTG:delAllF N ms F.msgs.length 0 F=G1 at R0 RY
 clear hTG kk TB B10 B11 FO4 K4 K3 K2 K1 CL CS HM HSM
 go_upto_region 5 with fail
 clear c51
 go_loopg [] F.msgs.length (fun k wr=>RmRel N ms G1 g10 g11 gT w k wr)
 case atStart=>exact R0.out
 case round =>
  clear R0
  obtain ⟨i,aQ,cQ,aR,cR,qr,Fi,hFi,B11,FO,TB,B10,kw,hsm,hpl,hkl,htg⟩:=hrel
  obtain ⟨wi,rfl⟩:∃ wi:World,wi=wr:=⟨_,rfl⟩
  have hn0:=FO.2
  have KW:=lH kw
  have FOH:=lH FO
  have TBH:=lH TB
  have c51:=B11.cell 1 _ rfl
  have TG:=lH htg
  have SMH:=lH hsm
  have SMP:=lH hsm.1
  have SMK:=lH hsm.2
  clear kw FO TB htg hsm hn0
  obtain ⟨aT,nT,cT,BT,_,_,_⟩:=TBH.out
  cases gk with
  | zero =>
   rw [hFi] at c51
   have hGF:Fi=G1:=TG.out
   have hFi':=hFi
   have HFI:=lH hFi
   clear hFi
   have l10:=B10.lt
   have l11:=B11.lt
   have B10H:=lH B10
   have B11H:=lH B11
   clear B10 B11 BT
   go_wp2_with fail
   (with_reducible refine (turns_f _ _ _ ts w _ H5.out hc5 hm5).mono ?_)
   rintro e w6 ⟨gU,rfl,hgU,kk,TB⟩
   replace B10H:=lH (B10H.out.nx kk)
   replace B11H:=lH (B11H.out.nx kk)
   replace FOH:=lH (FOH.out.nx kk)
   have zgU:w.heap.size≤gU:=by have:=KW.out.size;omega
   have hU11:¬ g11=gU:=by omega
   have hU10:¬ g10=gU:=by omega
   replace KW:=lH (KW.out.nx kk)
   have TBU:=lH TB
   clear kk TB c51
   go_wp2_with fail
   (with_reducible refine (sort_p _ _ _ _ _ (HS0.out.nx KW.out) hn).mono ?_)
   rintro e w7 ⟨v,S,rfl,OS,⟨hp,hsrt⟩,kk⟩
   have hSe:S=sortN N:=sortN_unique (check_keys HC.out) hp hsrt
   subst hSe
   have hSl:(sortN N).length=N.length:=sortN_length N
   have RYH:=lH (show roundF N ⟨P,M⟩ ms ts m=tickAllF N ts m (sortN N).length 0 ((sortN N).map Nd.id) Fi from by rw [hSl,hGF];exact RY.out)
   have hSl2:(sortN N).length≤1000:=by omega
   generalize sortN N=S at OS RYH hSl2
   obtain ⟨aL,cL,rfl,_,_,_⟩:=OS.sl3 (fun _=>rfl)
   have T0:=lH (show TkRel N ts m (roundF N ⟨P,M⟩ ms ts m) g10 g11 gU w S.length (.slice aL S.length cL) w7 from
    ⟨0,aQ,cQ,aR,cR,qr,Fi,S,rfl,by omega,OS.base KW.out.size,B11H.out.nx kk,FOH.out.nx kk,TBU.out.nx kk,B10H.out.nx kk,KW.out.nx kk,SMH.out,hpl,by rw [hFi'];omega,RYH.out.symm⟩)
   have hFi2:=HFI.out
   clear OS RYH kk B10H B11H FOH TBU KW hGF hSl hp hsrt RY
   go_upto_region 9 with fail
   go_loopg [13] S.length (fun k vL wr=>TkRel N ts m (roundF N ⟨P,M⟩ ms ts m) g10 g11 gU w k vL wr)
   case atStart=>exact T0.out
   case round =>
    clear T0
    obtain ⟨i2,aQ2,cQ2,aR2,cR2,qr2,F2,L,hL,hik,OL,B11,FO,TB,B10,kw,hsm,hpl2,hml2,htg⟩:=hrel
    obtain ⟨wj,rfl⟩:∃ wj:World,wj=wr:=⟨_,rfl⟩
    have KW:=lH kw
    have TG:=lH htg
    have SM2:=lH hsm
    have SMP2:=lH hsm.1
    have zh10:g10<wj.heap.size:=B10.lt
    have zh11:g11<wj.heap.size:=B11.lt
    have FOH:=lH FO
    have TBH:=lH TB
    have B10H:=lH B10
    have B11H:=lH B11
    have OLH:=lH OL
    obtain ⟨aL2,cL2,rfl,SL,hcL,hcm⟩:=OL.sl3 (fun _=>rfl)
    have SLH:=lH SL
    obtain ⟨aU,nU,cU,BU,_,_,_⟩:=TBH.out
    have BUH:=lH BU
    have hLH:=lH hL
    clear kw htg hsm FO TB B10 B11 OL SL BU
    cases gk with
    | zero =>
     have ET:Hid (roundF N ⟨P,M⟩ ms ts m=F2):=lH TG.out.symm
     rw [hL]
     have B10:=B10H.out
     have B11:=B11H.out
     clear hL TG B10H B11H
     have r0:=B10.cell 0 _ rfl
     have r1:=B10.cell 1 _ rfl
     have f0:=B10.free 0
     have f1:=B10.free 1
     have p0:=B11.cell 0 _ rfl
     have p1:=B11.cell 1 _ rfl
     have B8H:=lH B10
     clear B10 B11
     go_wp2_with fail
     obtain ⟨wz,hwz⟩:∃ wz,wz=(wj.setCell ⟨g10,0,none⟩ (.slice aQ2 F2.peers.length cQ2)).setCell ⟨g10,1,none⟩ (.slice aR2 F2.msgs.length cR2):=⟨_,rfl⟩
     have BZ:Blk wz g10 [.slice aQ2 F2.peers.length cQ2,.slice aR2 F2.msgs.length cR2] 56:=by rw [hwz];exact (B8H.out.set 0 _).set 1 _
     have KB:Exb g10 wj wz:=by rw [hwz];exact ((Exb.refl g10 _).setB (p:=⟨g10,0,none⟩) _ rfl).setB (p:=⟨g10,1,none⟩) _ rfl
     have KE:Ex w wz:=by rw [hwz];exact (KW.out.setNew (p:=⟨g10,0,none⟩) _ zg10).setNew (p:=⟨g10,1,none⟩) _ zg10
     have FF:=lH (FOH.out.putB B8H.out (by decide) (by decide) (by decide) (by decide) KB)
     rw [← hwz]
     have q0:=BZ.cell 0 _ rfl
     have q1:=BZ.cell 1 _ rfl
     clear r0 r1 f0 f1 p0 p1 hwz
     refine bodyPost_ret (v:=.agg #[.slice aQ2 F2.peers.length cQ2,.slice aR2 F2.msgs.length cR2]) (by simp [results,Tryz.results88,go_sem, *]) rfl ⟨_,_,qr2,rfl,by rw [ET.out];exact FF.out,KE⟩
    | succ k =>
     have hk1:(0:Int)<(k:Int)+1:=by omega
     have EGS:=EGT.out
     have hpk:=head_lt (ts.drop i2) (show 0<k+1 by omega)
     rw [hL]
     clear hL
     go_upto_region 10 with fail
     have tf:=turn_f gU (k+1) _ w _ TBH.out KW.out (by omega) (by omega) zgU
     rw [show ((k+1:Nat):Int)=(k:Int)+1 by omega] at tf
     go_wp2_with fail
     (with_reducible refine tf.mono ?_)
     rintro e w8 ⟨rfl,TB2,kb⟩
     have TBC:=lH TB2
     replace FOH:=lH (FOH.out.putB BUH.out (by decide) (by decide) (by decide) (by decide) kb)
     replace B10H:=lH (B10H.out.nxb hU10 kb)
     replace B11H:=lH (B11H.out.nxb hU11 kb)
     replace OLH:=lH (OLH.out.put BUH.out (by decide) kb)
     replace KW:=lH (Exl.nxb (b:=gU) (w:=w) ⟨KW.out,zgU⟩ kb).1
     have zz8:=kb.size
     obtain ⟨p,hpe⟩:∃ p,p=headP (ts.drop i2) (k+1):=⟨_,rfl⟩
     rw [← hpe] at hpk ⊢
     have HPE:=lH hpe
     clear tf TB2 kb hpe BUH SLH
     obtain ⟨aL3,cL3,e3,SL3,_,_⟩:=OLH.out.sl3 (fun _=>rfl)
     cases e3
     rw [hLH.out] at SL3
     obtain ⟨xL,oL,y,heL,hxL,hyL,hcL3⟩:=SL3.at hpk
     subst heL
     have e0:w8.cell? ⟨xL,oL+p*3,none⟩=some (.int .i64 y.id):=hcL3 0 _ rfl
     have CE:Hid (∀ wq,Ex w8 wq→wq.cell? ⟨xL,oL+p*3,none⟩=some (.int .i64 y.id)):=lH (fun wq kq=>Chg.cellv kq e0 hxL)
     have HY:=lH hyL
     have hp1:(p:Int)<(k:Int)+1:=by omega
     have pw:IntKind.i64.wrap ((p:Int)+1)=(p:Int)+1:=IntWalk.i64_in _ (by omega)
     clear e0 hcL3 hyL SL3
     go_upto_region 11 with fail
     refine wp_region_late_drew (S:=Ex w8) [9] (by kernel_rfl) ((Ex.refl w8).drew) (fun hHeld=>?_)
     obtain ⟨wd,hwdx⟩:∃ wd:World,wd=World.drew w8:=⟨_,rfl⟩
     rw [← hwdx] at hHeld ⊢
     have hDrew:Ex w8 wd:=by rw [hwdx];exact (Ex.refl w8).drew
     clear hwdx
     refine tkL 0 (v:=?_) rfl (by kernel_rfl) (fun _ _ _ h=>h) (by rfl) ?y5 hHeld ?_
     case y5=>intro wq hSw;go_simp<;>rfl
     refine tkL 1 (v:=?_) rfl (by kernel_rfl) (fun _ _ _ h=>h) (by rfl) ?y8 hHeld ?_
     case y8=>intro wq hSw;(have cq0:=(B11H.out.nx hSw).cell 0 _ rfl;have cq1:=(B11H.out.nx hSw).cell 1 _ rfl;go_simp)<;>rfl
     refine tkL 2 (v:=?_) rfl (by kernel_rfl) (fun _ _ _ h=>h) (by rfl) ?y11 hHeld ?_
     case y11=>intro wq hSw;go_simp<;>rfl
     refine tkL 3 (v:=?_) rfl (by kernel_rfl) (fun _ _ _ h=>h) (by rfl) ?y14 hHeld ?_
     case y14=>intro wq hSw;go_simp<;>rfl
     refine tkL 4 (v:=?_) rfl (by kernel_rfl) (fun _ _ _ h=>h) (by rfl) ?y17 hHeld ?_
     case y17=>intro wq hSw;go_simp<;>rfl
     refine tkL 5 (v:=?_) rfl (by kernel_rfl) (fun _ _ _ h=>h) (by rfl) ?y20 hHeld ?_
     case y20=>intro wq hSw;go_simp<;>rfl
     refine tkL 6 (v:=?_) rfl (by kernel_rfl) (fun _ _ _ h=>h) (by rfl) ?y23 hHeld ?_
     case y23=>intro wq hSw;(have cq:=CE.out _ hSw;go_simp)<;>rfl
     refine tkL 7 (v:=?_) rfl (by kernel_rfl) (fun _ _ _ h=>h) (by rfl) ?y26 hHeld ?_
     case y26=>intro wq hSw;go_simp<;>rfl
     refine rL 8 (by kernel_rfl) rfl fun K hK=>?_
     obtain ⟨_,_,_,_,ee1,ee2,p1,s2⟩:=(FOH.out.nx hHeld).two
     cases ee1
     cases ee2
     go_simp
     (with_reducible refine (tick_f _ _ _ N _ _ _ F2.peers _ _ _ F2.msgs y.id m _ (HS0.out.nx (KW.out.nx hHeld)) hn hc hm HW.out p1 (by omega) SMP2.out s2 (by omega)).mono ?_)
     rintro e wb ⟨vP,vM,qs2,rfl,FO2,kk⟩
     obtain ⟨G2,hG2⟩:∃ G2,G2=tickF N F2 y.id m:=⟨_,rfl⟩
     have HG2:=lH hG2
     have hzwd:=hHeld.size
     replace FO2:FlOwn wd.heap.size wb vP vM qs2 G2:=by rw [hG2];exact FO2
     obtain ⟨aP2,cP2,aM2,cM2,rfl,rfl,_,_⟩:=FO2.two
     have FO2H:=lH FO2
     replace hHeld:=hHeld.nx kk
     clear kk FO2 hG2 p1 s2
     refine hK.out _ _ (hHeld) (fun hHeld=>?_)
     clear hK K
     refine rLL 9 (by kernel_rfl) rfl (by rfl) fun K hK=>?_
     have BQ:=B11H.out.nx hHeld
     have cq0:=BQ.cell 0 _ rfl
     have cq1:=BQ.cell 1 _ rfl
     have fq0:=BQ.free 0
     have fq1:=BQ.free 1
     go_simp
     clear cq0 cq1 fq0 fq1
     refine hK.out _ _ ?_
     clear hK K
     refine wpAnyL_done (by kernel_rfl) ?_ _
     obtain ⟨wy,hwy⟩:∃ wy,wy=(wb.setCell ⟨g11,0,none⟩ (.slice aP2 G2.peers.length cP2)).setCell ⟨g11,1,none⟩ (.slice aM2 G2.msgs.length cM2):=⟨_,rfl⟩
     rw [← hwy]
     have kb2:Exb g11 wb wy:=by rw [hwy];exact ((Exb.refl g11 _).setB (p:=⟨g11,0,none⟩) _ rfl).setB (p:=⟨g11,1,none⟩) _ rfl
     have BY:Blk wy g11 [.slice aP2 G2.peers.length cP2,.slice aM2 G2.msgs.length cM2] 56:=by rw [hwy];exact (BQ.set 0 _).set 1 _
     have KY:=lH (show Ex w wy from by rw [hwy];exact ((KW.out.nx hHeld).setNew (p:=⟨g11,0,none⟩) _ zg11).setNew (p:=⟨g11,1,none⟩) _ zg11)
     have FOY:=lH ((FO2H.out.putB BQ (by decide) (by decide) (by decide) (by decide) kb2).lower (base':=w.heap.size) (by have:=KW.out.size;omega))
     have OLY:=lH ((OLH.out.nx hHeld).put BQ (by decide) kb2)
     have B10Y:=lH ((B10H.out.nx hHeld).nxb h1011 kb2)
     have TBY:=lH ((TBC.out.nx hHeld).nxb (b:=g11) (fun hh=>hU11 hh.symm) kb2)
     have BYH:=lH BY
     have OLY2:=OLY.out
     rw [hLH.out] at OLY2
     have OL2:=lH OLY2
     clear hwy kb2 BY BQ hHeld hDrew FO2H OLH B10H TBC FOH B11H CE OLY2
     go_wp2_with fail
     (with_reducible refine (delete_nd _ _ p w _ OL2.out (by rw [hLH.out];exact hpk) (by rw [hLH.out];omega) KY.out).mono ?_)
     rintro e w9 ⟨v9,rfl,own9,k9,ch9⟩
     have RR:=lH (show TkRel N ts m (roundF N ⟨P,M⟩ ms ts m) g10 g11 gU w k v9 w9 from ⟨i2+1,aP2,cP2,aM2,cM2,qs2,G2,L.eraseIdx p,by rw [List.length_eraseIdx,hLH.out,if_pos hpk];rfl,by omega,own9,BYH.out.app OL2.out (by decide) ch9,FOY.out.oth OL2.out (by decide) (by decide) (by decide) (by decide) ch9,by obtain ⟨a',n',c',t1,t2,t3⟩:=TBY.out;exact ⟨a',n',c',t1.app OL2.out (by decide) ch9,by rw [← List.tail_drop];exact t2,t3⟩,B10Y.out.app OL2.out (by decide) ch9,k9,by rw [HG2.out];exact tick_sm hNl SM2.out _ _,by rw [HG2.out];exact Nat.le_trans (tick_plen _ _) hNl,by rw [HG2.out];have:=tick_len (N:=N) (f:=F2) HC.out y.id m;omega,by rw [HG2.out,← tk_step HPE.out HY.out];exact TG.out⟩)
     clear own9 k9 ch9 pw
     go_wp2_with fail
     go_roundg k
     case measure=>omega
     case rel=>exact RR.out
  | succ k =>
   rw [hFi] at c51 B11
   have HFI:=lH hFi
   have hk0:(0:Int)<((k+1:Nat):Int):=by omega
   have hk1:(0:Int)<(k:Int)+1:=by omega
   clear hFi
   go_upto_region 6 with fail
   have B11H:=lH B11
   have B10H:=lH B10
   have BTH:=lH BT
   have EGS:=EGT.out
   have hpk:=head_lt (ms.drop i) (show 0<k+1 by omega)
   clear c51 B11 B10 BT
   refine wp_region_late_drew (S:=Exb gT wi) [7,8] (by kernel_rfl) ((Exb.refl gT wi).drew) (fun hHeld=>?_)
   obtain ⟨wd,hwdx⟩:∃ wd:World,wd=World.drew wi:=⟨_,rfl⟩
   rw [← hwdx] at hHeld ⊢
   have hDrew:Ex wi wd:=by rw [hwdx];exact (Ex.refl wi).drew
   clear hwdx
   refine tkL 0 (v:=?_) rfl (by kernel_rfl) (fun _ _ _ h=>h) (by rfl) ?y5 hHeld ?_
   case y5=>intro wq hSw;go_simp<;>rfl
   refine tkL 1 (v:=?_) rfl (by kernel_rfl) (fun _ _ _ h=>h) (by rfl) ?y8 hHeld ?_
   case y8=>intro wq hSw;(have cq0:=(B11H.out.nxb hT11 hSw).cell 0 _ rfl;have cq1:=(B11H.out.nxb hT11 hSw).cell 1 _ rfl;go_simp)<;>rfl
   refine tkL 2 (v:=?_) rfl (by kernel_rfl) (fun _ _ _ h=>h) (by rfl) ?y11 hHeld ?_
   case y11=>intro wq hSw;go_simp<;>rfl
   refine tkL 3 (v:=?_) rfl (by kernel_rfl) (fun _ _ _ h=>h) (by rfl) ?y14 hHeld ?_
   case y14=>intro wq hSw;go_simp<;>rfl
   refine tkL 4 (v:=?_) rfl (by kernel_rfl) (fun _ _ _ h=>h) (by rfl) ?y17 hHeld ?_
   case y17=>intro wq hSw;(have cq1:=(B11H.out.nxb hT11 hSw).cell 1 _ rfl;go_simp)<;>rfl
   refine tkL 5 (v:=?_) rfl (by kernel_rfl) (fun _ _ _ h=>h) (by rfl) ?y20 hHeld ?_
   case y20=>intro wq hSw;go_simp<;>rfl
   refine rL 6 (by kernel_rfl) rfl fun K hK=>?_
   go_simp
   have tf:=turn_f gT (k+1) _ w _ (TBH.out.nx hDrew) (KW.out.nx hDrew) (by omega) (by omega) zgT
   rw [show ((k+1:Nat):Int)=(k:Int)+1 by omega] at tf
   (with_reducible refine tf.mono ?_)
   rintro e wc ⟨rfl,TB2,kb⟩
   clear tf
   have TBC:=lH TB2
   have KC:=lH (Exl.nxb (b:=gT) (w:=w) ⟨KW.out.nx hDrew,zgT⟩ kb).1
   replace hHeld:=hHeld.nxb kb
   clear kb TB2
   refine hK.out _ _ (hHeld) (fun hHeld=>?_)
   clear hK K
   refine rLL 7 (by kernel_rfl) rfl (by rfl) fun K hK=>?_
   obtain ⟨_,_,_,_,ee1,ee2,p1,s2⟩:=(FOH.out.putB BTH.out (by decide) (by decide) (by decide) (by decide) hHeld).two
   cases ee1
   cases ee2
   rw [HFI.out] at s2
   go_simp
   (with_reducible refine (del_f _ _ _ N _ _ _ Fi.peers _ _ _ Fi.msgs (headP (ms.drop i) (k+1):Nat) _ (HS0.out.nx KC.out) hn hc hm p1 (by omega) SMP.out s2 (by omega) SMK.out).mono ?_)
   rintro e wb ⟨vP,vM,qs2,rfl,FO2,kk⟩
   obtain ⟨G2,hG2⟩:∃ G2,G2=delF N Fi (headP (ms.drop i) (k+1):Nat):=⟨_,rfl⟩
   have HG2:=lH hG2
   replace FO2:FlOwn wc.heap.size wb vP vM qs2 G2:=by rw [hG2];exact FO2
   obtain ⟨aP2,cP2,aM2,cM2,rfl,rfl,_,_⟩:=FO2.two
   have FO2H:=lH FO2
   have KKH:=lH kk
   replace hHeld:=hHeld.nxb (kk.b gT)
   clear kk FO2 hG2 p1 s2
   refine hK.out _ _ ?_
   clear hK K
   refine rLL 8 (by kernel_rfl) rfl (by rfl) fun K hK=>?_
   have BQ:=B11H.out.nxb hT11 hHeld
   have cq0:=BQ.cell 0 _ rfl
   have cq1:=BQ.cell 1 _ rfl
   have fq0:=BQ.free 0
   have fq1:=BQ.free 1
   go_simp
   clear cq0 cq1 fq0 fq1
   refine hK.out _ _ ?_
   clear hK K
   refine wpAnyL_done (by kernel_rfl) ?_ _
   obtain ⟨wy,hwy⟩:∃ wy,wy=(wb.setCell ⟨g11,0,none⟩ (.slice aP2 G2.peers.length cP2)).setCell ⟨g11,1,none⟩ (.slice aM2 G2.msgs.length cM2):=⟨_,rfl⟩
   rw [← hwy]
   have kb2:Exb g11 wb wy:=by rw [hwy];exact ((Exb.refl g11 _).setB (p:=⟨g11,0,none⟩) _ rfl).setB (p:=⟨g11,1,none⟩) _ rfl
   have BY:Blk wy g11 [.slice aP2 G2.peers.length cP2,.slice aM2 G2.msgs.length cM2] 56:=by rw [hwy];exact (BQ.set 0 _).set 1 _
   have RR:=lH (show RmRel N ms G1 g10 g11 gT w k wy from ⟨i+1,aP2,cP2,aM2,cM2,qs2,G2,by rw [HG2.out];exact del_len HC.out HFI.out hpk,BY,(FO2H.out.putB BQ (by decide) (by decide) (by decide) (by decide) kb2).lower KC.out.size,by have:=(TBC.out.nx KKH.out).nxb (b:=g11) (fun hh=>hT11 hh.symm) kb2;rw [List.tail_drop] at this;exact this,(B10H.out.nxb hT10 hHeld).nxb h1011 kb2,by rw [hwy];exact ((KC.out.nx KKH.out).setNew (p:=⟨g11,0,none⟩) _ zg11).setNew (p:=⟨g11,1,none⟩) _ zg11,by rw [HG2.out];exact del_sm hNl SMH.out _,by rw [HG2.out];exact Nat.le_trans (del_plen _) hNl,by omega,by rw [HG2.out,← head_pick];exact TG.out⟩)
   clear hwy kb2 BY BQ hHeld hDrew
   go_wp2_with fail
   go_roundg k
   case measure=>omega
   case rel=>exact RR.out
abbrev RdF (w:World) (aP:Option Addr) (nP:Nat) (aM:Option Addr) (nM:Nat) (F:Fl):Prop:=PL w aP nP F.peers∧Sl 2 encS w aM nM F.msgs
theorem RdF.nx {w w':World} {aP aM:Option Addr} {nP nM:Nat} {F:Fl} (h:RdF w aP nP aM nM F) (k:Ex w w'):RdF w' aP nP aM nM F:=⟨h.1.nx k,h.2.nx k⟩
section
variable {N:List Nd} {f g:Fl}
theorem conn_made {P:List Pr} (h:ConnN N P) (M:List (Int×Int)):ConnF N ⟨normalN N P,M⟩:=by
 refine ⟨h.1,fun x hx y hy=>(h.2 x hx y hy).mono fun a c e=>Cl.one (.inl (.inl ?_))⟩
 exact (edge_same (fun z hz=>(normal_peer h.1 hz).symm) a c).1 e
theorem dbl_sm (h:SmF f) (k:Int) (most:Nat):SmF (dblF f k most):=by
 unfold SmF
 rw [dbl_peers]
 exact h
theorem cop_msgs_len (N:List Nd) (f:Fl):(copF N f).msgs.length≤f.msgs.length:=by
 unfold copF
 split
 ·exact Nat.le_refl _
 ·exact Nat.zero_le _
theorem del_msgs_len (N:List Nd) (f:Fl) (k:Int):(delF N f k).msgs.length≤f.msgs.length:=by
 have hc:=cop_msgs_len N f
 unfold delF
 split
 ·split
  ·exact hc
  ·show ((copF N f).msgs.eraseIdx _).length≤_
   have:=(List.eraseIdx_sublist (copF N f).msgs k.toNat).length_le
   omega
 ·exact hc
structure Flies (N:List Nd) (B:Nat) (f:Fl):Prop where
 conn:ConnF N f
 sm:SmF f
 len:f.peers.length=N.length
 msgs:f.msgs.length≤B
theorem Flies.sp {B:Nat} (h:Flies N B f):SmallP f.peers:=by have:=h.sm;unfold SmF at this;exact this.1
theorem Flies.sk {B:Nat} (h:Flies N B f):∀ p∈f.peers,p.known.length≤1000000:=by have:=h.sm;unfold SmF at this;exact this.2
theorem Flies.more {B B':Nat} (h:Flies N B f) (hb:B≤B'):Flies N B' f:=⟨h.conn,h.sm,h.len,Nat.le_trans h.msgs hb⟩
theorem Flies.tick {B:Nat} (hN:N.length≤10) (h:Flies N B f) (id hh:Int):Flies N (B+20) (tickF N f id hh) :=
 ⟨tick_conn h.conn id hh,tick_sm (by omega) h.sm id hh,norm_lenF (norm_tick h.conn.1 f id hh),by have:=tick_len h.conn.1 (f:=f) id hh;have:=h.msgs;omega⟩
theorem Flies.del {B:Nat} (hN:N.length≤10) (h:Flies N B f) (k:Int):Flies N B (delF N f k) :=
 ⟨del_conn h.conn k,del_sm (by omega) h.sm k,norm_lenF (norm_del h.conn.1 f k),Nat.le_trans (del_msgs_len N f k) h.msgs⟩
theorem Flies.dbl {B:Nat} (h:Flies N B f) (k:Int) (most:Nat):Flies N (B+20) (dblF f k most) :=
 ⟨dbl_conn h.conn k most,dbl_sm h.sm k most,by rw [dbl_peers];exact h.len,by have:=(dbl_len f k most).1;have:=h.msgs;omega⟩
end
def XP (X:Nat→Prop) (g7 g10 k:Nat):Prop:=X k∨k=g7∨k=g10
def FyRel (X:Nat→Prop) (b g7 g10 n:Nat) (N:List Nd) (B:Nat) (w:World) (i:Value) (wr:World):Prop :=
 ∃ (k:Nat) (aQ:Option Addr) (cQ:Nat) (aR:Option Addr) (cR:Nat) (F:Fl),k≤n∧i=.int .i64 k∧Blk wr g7 [.slice aQ F.peers.length cQ,.slice aR F.msgs.length cR] 56∧FlX (XP X g7 g10) wr aQ aR F∧Flies N (B+20*k) F ∧
  Blk wr g10 [.slice none 0 0,.slice none 0 0] 56∧TK wr b∧Exb b w wr
def FyPost (X:Nat→Prop) (b:Nat) (N:List Nd) (B:Nat) (w:World) (e:Ending) (w':World):Prop :=
 ∃ (aQ:Option Addr) (cQ:Nat) (aR:Option Addr) (cR:Nat) (F:Fl),e=.returned (.agg #[.slice aQ F.peers.length cQ,.slice aR F.msgs.length cR])∧FlX X w' aQ aR F∧Flies N B F∧TK w' b∧Exb b w w'
set_option maxRecDepth 100000 in
set_option maxHeartbeats 16000000 in
theorem disturb_x {b:Nat} (a:Option Addr) (nN c:Nat) (N:List Nd) (a2:Option Addr) (c2:Nat) (a3:Option Addr) (c3:Nat) (F0:Fl) (hh:Int) (n B:Nat) (X:Nat→Prop) (w:World) (hXb:X b) (hXl:∀ k,X k→k<w.heap.size) (h:TK w b) (hs:Slb 3 encN b w a nN N) (hn:nN≤10) (hc:nN≤c) (hm:c≤maxLen) (hi:∀ x∈N,I64 x.id) (hw:∀ x∈N,x.word<4294967296)
  (hF:FlX X w a2 a3 F0) (hfl:Flies N B F0) (hB:B+20*n≤100000) :
  Calls Tryz.prog 22 #[.pointer (some ⟨b,0,none⟩),.slice a nN c,.agg #[.slice a2 F0.peers.length c2,.slice a3 F0.msgs.length c3],.int .i64 hh,.int .i64 n] w (FyPost X b N (B+20*n) w):=by
 have hbw:=h.lt
 have HI:=lH hi
 have HW:=lH hw
 have HS:=lH (fun wq (kq:Exb b w wq)=>hs.nxb kq)
 have HNL:N.length≤10:=by have:=hs.len;omega
 have HFL:=lH hfl
 clear hi hw hs hfl
 obtain ⟨g7,hg7⟩:∃ g7,g7=w.heap.size:=⟨_,rfl⟩
 obtain ⟨g10,hg10⟩:∃ g10,g10=(w.heap.size+1):=⟨_,rfl⟩
 obtain ⟨w1,hw1⟩:∃ w1,w1=((w.alloc (.cells #[.slice a2 F0.peers.length c2,.slice a3 F0.msgs.length c3] 56)).alloc (.cells #[.slice none 0 0,.slice none 0 0] 56)):=⟨_,rfl⟩
 have kk:Ex w w1:=by rw [hw1];exact (((Ex.refl w).alloc (.cells #[.slice a2 F0.peers.length c2,.slice a3 F0.msgs.length c3] 56)).alloc (.cells #[.slice none 0 0,.slice none 0 0] 56))
 have B7:Blk w1 g7 [.slice a2 F0.peers.length c2,.slice a3 F0.msgs.length c3] 56:=by rw [hw1];simp only [hg7,hg10];have hbk:=((Blk.new w [.slice a2 F0.peers.length c2,.slice a3 F0.msgs.length c3] 56).nx (Ex.new _ (.cells #[.slice none 0 0,.slice none 0 0] 56)));simpa using hbk
 have B10:Blk w1 g10 [.slice none 0 0,.slice none 0 0] 56:=by rw [hw1];simp only [hg7,hg10];have hbk:=(Blk.new (w.alloc (.cells #[.slice a2 F0.peers.length c2,.slice a3 F0.msgs.length c3] 56)) [.slice none 0 0,.slice none 0 0] 56);simpa using hbk
 have Hw1:=lH hw1
 have Hg7:=lH hg7
 have Hg10:=lH hg10
 replace h:=h.nx kk
 have zg7:w.heap.size≤g7:=by omega
 have zg10:w.heap.size≤g10:=by omega
 have h107:g10≠g7:=by omega
 have hb7:¬ g7=b:=by omega
 have hb10:¬ g10=b:=by omega
 have hx7:XP X g7 g10 g7:=.inr (.inl rfl)
 have hx10:XP X g7 g10 g10:=.inr (.inr rfl)
 have hxb:XP X g7 g10 b:=.inl hXb
 have FSn:FlX (XP X g7 g10) w1 a2 a3 F0:=(hF.mono (fun k hk e=>by rcases e with e | rfl | rfl;exact e;omega;omega)).nx kk
 have R0:=lH (show FyRel X b g7 g10 n N B w (.int .i64 0) w1 from ⟨0,a2,c2,a3,c3,F0,by omega,rfl,B7,FSn,HFL.out.more (by omega),B10,h,kk.b b⟩)
 clear kk hg7 hg10 B7 B10 h FSn hF hw1
 go_enter Tryz.func22,Tryz.ntmps22
 go_upto_region 2 with fail
 rw [← Hw1.out,← Hg10.out,← Hg7.out]
 clear Hw1 Hg10 Hg7
 go_loopw [11] (fun i wr=>FyRel X b g7 g10 n N B w i wr) (fun i _=>n-(intOf i).toNat)
 case atStart=>exact R0.out
 case round =>
  clear R0
  obtain ⟨k,aQ,cQ,aR,cR,F,hk,rfl,B7,FSn,FI,B10,T,kw⟩:=hrel
  obtain ⟨wi,rfl⟩:∃ wi:World,wi=wr:=⟨_,rfl⟩
  have KW:=lH kw
  have FSH:=lH FSn
  have FIH:=lH FI
  have TH:=lH T
  have B7H:=lH B7
  have B10H:=lH B10
  have hl7:=B7.lt
  have hl10:=B10.lt
  have hlb:=T.lt
  have zP:F.peers.length≤10:=by have:=FI.len;omega
  have zM:F.msgs.length≤100000:=by have:=FI.msgs;omega
  clear kw FSn FI T B7 B10
  by_cases hkn:k<n
  ·go_wp2_with fail
   (with_reducible refine (left_t _ TH.out).mono ?_)
   rintro e wj ⟨β,rfl,T,kk⟩
   replace KW:=lH (KW.out.nxb (kk.b b))
   replace FSH:=lH (FSH.out.nx kk)
   replace B7H:=lH (B7H.out.nx kk)
   replace B10H:=lH (B10H.out.nx kk)
   have hj:=kk.size
   clear TH
   have TH:=lH T
   clear kk T
   cases β with
   | false =>
    have r0:=B7H.out.cell 0 _ rfl
    have r1:=B7H.out.cell 1 _ rfl
    have p0:=B10H.out.cell 0 _ rfl
    have p1:=B10H.out.cell 1 _ rfl
    have f0:=B10H.out.free 0
    have f1:=B10H.out.free 1
    go_wp2_with fail
    obtain ⟨wz,hwz⟩:∃ wz,wz=(wj.setCell ⟨g10,0,none⟩ (.slice aQ F.peers.length cQ)).setCell ⟨g10,1,none⟩ (.slice aR F.msgs.length cR):=⟨_,rfl⟩
    have BZ:Blk wz g10 [.slice aQ F.peers.length cQ,.slice aR F.msgs.length cR] 56:=by rw [hwz];exact (B10H.out.set 0 _).set 1 _
    have KE:Exb b w wz:=by rw [hwz];exact (KW.out.setNew (p:=⟨g10,0,none⟩) _ zg10).setNew (p:=⟨g10,1,none⟩) _ zg10
    have TE:TK wz b:=by rw [hwz];exact (TH.out.set (p:=⟨g10,0,none⟩) _ (by show b<g10;omega)).set (p:=⟨g10,1,none⟩) _ (by show b<g10;omega)
    have FF:=lH (show FlX X wz aQ aR F from by rw [hwz];exact ((FSH.out.set (p:=⟨g10,0,none⟩) _ hx10).set (p:=⟨g10,1,none⟩) _ hx10).mono (fun k _ e=>.inl e))
    rw [← hwz]
    have s0:=BZ.cell 0 _ rfl
    have s1:=BZ.cell 1 _ rfl
    clear r0 r1 f0 f1 p0 p1 hwz
    refine bodyPost_ret (v:=.agg #[.slice aQ F.peers.length cQ,.slice aR F.msgs.length cR]) (by simp [results,Tryz.results22,go_sem, *]) rfl ⟨aQ,cQ,aR,cR,F,rfl,FF.out,FIH.out.more (by omega),TE,KE⟩
   | true =>
    have c1:=B7H.out.cell 1 _ rfl
    go_upto_region 4 with fail
    go_wp2_with fail
    refine (next_t (max (F.msgs.length:Int) 1) _ TH.out (by omega) (by omega)).mono ?_
    clear TH c1
    rintro e wk ⟨r0,rfl,r00,r01,T,kk⟩
    replace KW:=lH (KW.out.nxb kk)
    replace FSH:=lH (FSH.out.nxb hxb kk)
    replace B7H:=lH (B7H.out.nxb hb7 kk)
    replace B10H:=lH (B10H.out.nxb hb10 kk)
    have hk2:=kk.size
    clear kk
    go_wp2_with fail
    refine (next_t 5 _ T (by omega) (by omega)).mono ?_
    clear T
    rintro e wj ⟨r2,rfl,r20,r21,T,kk⟩
    replace KW:=lH (KW.out.nxb kk)
    replace FSH:=lH (FSH.out.nxb hxb kk)
    replace B7H:=lH (B7H.out.nxb hb7 kk)
    replace B10H:=lH (B10H.out.nxb hb10 kk)
    have hk3:=kk.size
    have TH:=lH T
    clear kk T
    by_cases t0:r2=0
    ·subst t0
     go_upto_region 9 with fail
     refine wp_region_late_drew (S:=Exb b wj) [7] (by kernel_rfl) ((Exb.refl b wj).drew) (fun hHeld=>?_)
     obtain ⟨wd,hwdx⟩:∃ wd:World,wd=World.drew wj:=⟨_,rfl⟩
     rw [← hwdx] at hHeld ⊢
     have hDrew:Ex wj wd:=by rw [hwdx];exact (Ex.refl wj).drew
     clear hwdx
     refine tkL 0 (v:=?_) rfl (by kernel_rfl) (fun _ _ _ h=>h) (by rfl) ?y5 hHeld ?_
     case y5=>intro wq hSw;go_simp<;>rfl
     refine tkL 1 (v:=?_) rfl (by kernel_rfl) (fun _ _ _ h=>h) (by rfl) ?y8 hHeld ?_
     case y8=>intro wq hSw;(have cq0:=(B7H.out.nxb hb7 hSw).cell 0 _ rfl;have cq1:=(B7H.out.nxb hb7 hSw).cell 1 _ rfl;go_simp)<;>rfl
     refine tkL 2 (v:=?_) rfl (by kernel_rfl) (fun _ _ _ h=>h) (by rfl) ?y11 hHeld ?_
     case y11=>intro wq hSw;go_simp<;>rfl
     refine tkL 3 (v:=?_) rfl (by kernel_rfl) (fun _ _ _ h=>h) (by rfl) ?y14 hHeld ?_
     case y14=>intro wq hSw;go_simp<;>rfl
     refine tkL 5 (v:=?_) rfl (by kernel_rfl) (fun _ _ _ h=>h) (by rfl) ?y17 hHeld ?_
     case y17=>intro wq hSw;go_simp<;>rfl
     refine rL 4 (by kernel_rfl) rfl fun K hK=>?_
     go_simp
     refine (id_t _ _ _ N _ (TH.out.nx hDrew) (HS.out _ (KW.out.nxb hHeld)) (by omega) HI.out).mono ?_
     rintro e wa ⟨r1,rfl,hr1,T,kk⟩
     replace hHeld:=hHeld.nxb kk
     clear kk
     refine hK.out _ _ (hHeld) (fun hHeld=>?_)
     clear hK K
     refine rL 6 (by kernel_rfl) rfl fun K hK=>?_
     go_simp
     (with_reducible refine (tick_f _ _ _ N _ _ _ F.peers _ _ _ F.msgs r1 hh _ (HS.out _ (KW.out.nxb hHeld)).sl (by omega) hc hm HW.out (FSH.out.nxb hxb hHeld).pl (by omega) FIH.out.sp (FSH.out.nxb hxb hHeld).sl (by omega)).mono ?_)
     rintro e wu ⟨vP,vM,qs,rfl,FO,kk⟩
     obtain ⟨G,hG⟩:∃ G,G=tickF N F r1 hh:=⟨_,rfl⟩
     have HG:=lH hG
     replace FO:FlOwn wa.heap.size wu vP vM qs G:=by rw [hG];exact FO
     have zwa:=hHeld.size
     obtain ⟨aA,cA,aB,cB,rfl,rfl,FSU⟩:=FO.flx (X:=XP X g7 g10) (fun k hk=>by rcases hk with hk | rfl | rfl;have:=hXl k hk;omega;omega;omega)
     replace FSU:=lH FSU
     have TU:=lH (T.nx kk)
     replace hHeld:=hHeld.nxb (kk.b b)
     have B7U:=lH (B7H.out.nxb hb7 hHeld)
     have B10U:=lH (B10H.out.nxb hb10 hHeld)
     have KU:=lH (KW.out.nxb hHeld)
     clear kk FO hG T
     refine hK.out _ _ (hHeld) (fun hHeld=>?_)
     clear hK K
     refine rLL 7 (by kernel_rfl) rfl (by rfl) fun K hK=>?_
     have e0:=B7U.out.cell 0 _ rfl
     have e1:=B7U.out.cell 1 _ rfl
     have fe0:=B7U.out.free 0
     have fe1:=B7U.out.free 1
     go_simp
     clear e0 e1 fe0 fe1
     refine hK.out _ _ ?_
     clear hK K
     refine wpAnyL_done (by kernel_rfl) ?_ _
     obtain ⟨wy,hwy⟩:∃ wy,wy=(wu.setCell ⟨g7,0,none⟩ (.slice aA G.peers.length cA)).setCell ⟨g7,1,none⟩ (.slice aB G.msgs.length cB):=⟨_,rfl⟩
     rw [← hwy]
     have RR:=lH (show FyRel X b g7 g10 n N B w (.int .i64 ((k:Int)+1)) wy from ⟨k+1,aA,cA,aB,cB,G,by omega,by go_num,by rw [hwy];exact (B7U.out.set 0 _).set 1 _,by rw [hwy];exact (FSU.out.set (p:=⟨g7,0,none⟩) _ hx7).set (p:=⟨g7,1,none⟩) _ hx7,by rw [HG.out];exact (FIH.out.tick HNL _ _).more (by omega),by rw [hwy];exact (B10U.out.set_ne (g':=g7) _ h107).set_ne (g':=g7) _ h107,by rw [hwy];exact (TU.out.set (p:=⟨g7,0,none⟩) _ (by show b<g7;omega)).set (p:=⟨g7,1,none⟩) _ (by show b<g7;omega),by rw [hwy];exact (KU.out.setNew (p:=⟨g7,0,none⟩) _ zg7).setNew (p:=⟨g7,1,none⟩) _ zg7⟩)
     clear hwy hHeld hDrew B7U B10U FSU TU KU
     go_wp2_with fail
     exact ⟨RR.out,by simp [intOf];omega⟩
    have n0:(r2==0)=false:=by simpa using t0
    by_cases t1:r2=1
    ·subst t1
     go_upto_region 9 with fail
     refine wp_region_late_drew (S:=Exb b wj) [7] (by kernel_rfl) ((Exb.refl b wj).drew) (fun hHeld=>?_)
     obtain ⟨wd,hwdx⟩:∃ wd:World,wd=World.drew wj:=⟨_,rfl⟩
     rw [← hwdx] at hHeld ⊢
     have hDrew:Ex wj wd:=by rw [hwdx];exact (Ex.refl wj).drew
     clear hwdx
     refine tkL 0 (v:=?_) rfl (by kernel_rfl) (fun _ _ _ h=>h) (by rfl) ?y5 hHeld ?_
     case y5=>intro wq hSw;go_simp<;>rfl
     refine tkL 1 (v:=?_) rfl (by kernel_rfl) (fun _ _ _ h=>h) (by rfl) ?y8 hHeld ?_
     case y8=>intro wq hSw;(have cq0:=(B7H.out.nxb hb7 hSw).cell 0 _ rfl;have cq1:=(B7H.out.nxb hb7 hSw).cell 1 _ rfl;go_simp)<;>rfl
     refine tkL 2 (v:=?_) rfl (by kernel_rfl) (fun _ _ _ h=>h) (by rfl) ?y11 hHeld ?_
     case y11=>intro wq hSw;go_simp<;>rfl
     refine tkL 3 (v:=?_) rfl (by kernel_rfl) (fun _ _ _ h=>h) (by rfl) ?y14 hHeld ?_
     case y14=>intro wq hSw;go_simp<;>rfl
     refine tkL 5 (v:=?_) rfl (by kernel_rfl) (fun _ _ _ h=>h) (by rfl) ?y17 hHeld ?_
     case y17=>intro wq hSw;go_simp<;>rfl
     refine rL 4 (by kernel_rfl) rfl fun K hK=>?_
     go_simp
     refine (id_t _ _ _ N _ (TH.out.nx hDrew) (HS.out _ (KW.out.nxb hHeld)) (by omega) HI.out).mono ?_
     rintro e wa ⟨r1,rfl,hr1,T,kk⟩
     replace hHeld:=hHeld.nxb kk
     clear kk
     refine hK.out _ _ (hHeld) (fun hHeld=>?_)
     clear hK K
     refine rL 6 (by kernel_rfl) rfl fun K hK=>?_
     go_simp
     (with_reducible refine (tick_f _ _ _ N _ _ _ F.peers _ _ _ F.msgs r1 hh _ (HS.out _ (KW.out.nxb hHeld)).sl (by omega) hc hm HW.out (FSH.out.nxb hxb hHeld).pl (by omega) FIH.out.sp (FSH.out.nxb hxb hHeld).sl (by omega)).mono ?_)
     rintro e wu ⟨vP,vM,qs,rfl,FO,kk⟩
     obtain ⟨G,hG⟩:∃ G,G=tickF N F r1 hh:=⟨_,rfl⟩
     have HG:=lH hG
     replace FO:FlOwn wa.heap.size wu vP vM qs G:=by rw [hG];exact FO
     have zwa:=hHeld.size
     obtain ⟨aA,cA,aB,cB,rfl,rfl,FSU⟩:=FO.flx (X:=XP X g7 g10) (fun k hk=>by rcases hk with hk | rfl | rfl;have:=hXl k hk;omega;omega;omega)
     replace FSU:=lH FSU
     have TU:=lH (T.nx kk)
     replace hHeld:=hHeld.nxb (kk.b b)
     have B7U:=lH (B7H.out.nxb hb7 hHeld)
     have B10U:=lH (B10H.out.nxb hb10 hHeld)
     have KU:=lH (KW.out.nxb hHeld)
     clear kk FO hG T
     refine hK.out _ _ (hHeld) (fun hHeld=>?_)
     clear hK K
     refine rLL 7 (by kernel_rfl) rfl (by rfl) fun K hK=>?_
     have e0:=B7U.out.cell 0 _ rfl
     have e1:=B7U.out.cell 1 _ rfl
     have fe0:=B7U.out.free 0
     have fe1:=B7U.out.free 1
     go_simp
     clear e0 e1 fe0 fe1
     refine hK.out _ _ ?_
     clear hK K
     refine wpAnyL_done (by kernel_rfl) ?_ _
     obtain ⟨wy,hwy⟩:∃ wy,wy=(wu.setCell ⟨g7,0,none⟩ (.slice aA G.peers.length cA)).setCell ⟨g7,1,none⟩ (.slice aB G.msgs.length cB):=⟨_,rfl⟩
     rw [← hwy]
     have RR:=lH (show FyRel X b g7 g10 n N B w (.int .i64 ((k:Int)+1)) wy from ⟨k+1,aA,cA,aB,cB,G,by omega,by go_num,by rw [hwy];exact (B7U.out.set 0 _).set 1 _,by rw [hwy];exact (FSU.out.set (p:=⟨g7,0,none⟩) _ hx7).set (p:=⟨g7,1,none⟩) _ hx7,by rw [HG.out];exact (FIH.out.tick HNL _ _).more (by omega),by rw [hwy];exact (B10U.out.set_ne (g':=g7) _ h107).set_ne (g':=g7) _ h107,by rw [hwy];exact (TU.out.set (p:=⟨g7,0,none⟩) _ (by show b<g7;omega)).set (p:=⟨g7,1,none⟩) _ (by show b<g7;omega),by rw [hwy];exact (KU.out.setNew (p:=⟨g7,0,none⟩) _ zg7).setNew (p:=⟨g7,1,none⟩) _ zg7⟩)
     clear hwy hHeld hDrew B7U B10U FSU TU KU
     go_wp2_with fail
     exact ⟨RR.out,by simp [intOf];omega⟩
    have n1:(r2==1)=false:=by simpa using t1
    by_cases t2:r2=2
    ·subst t2
     have c1:=B7H.out.cell 1 _ rfl
     by_cases hcap:F.msgs.length<50
     ·have d1:(F.msgs.length:Int)<50:=by omega
      go_upto_region 12 with fail
      clear c1
      have cq0:=B7H.out.cell 0 _ rfl
      have cq1:=B7H.out.cell 1 _ rfl
      go_wp2_with fail
      (with_reducible refine (dbl_f _ _ _ F.peers _ _ _ F.msgs r0 _ FSH.out.pl (by omega) FIH.out.sp FSH.out.sl (by omega)).mono ?_)
      rintro e wu ⟨vP,vM,qs,rfl,FO,kk⟩
      clear cq0 cq1
      obtain ⟨G,hG⟩:∃ G,G=dblF F r0 4096:=⟨_,rfl⟩
      have HG:=lH hG
      replace FO:FlOwn wj.heap.size wu vP vM qs G:=by rw [hG];exact FO
      obtain ⟨aA,cA,aB,cB,rfl,rfl,FSU⟩:=FO.flx (X:=XP X g7 g10) (fun k hk=>by rcases hk with hk | rfl | rfl;have:=hXl k hk;omega;omega;omega)
      replace FSU:=lH FSU
      have B7U:=lH (B7H.out.nx kk)
      have B10U:=lH (B10H.out.nx kk)
      have TU:=lH (TH.out.nx kk)
      have KU:=lH (KW.out.nxb (kk.b b))
      have e0:=B7U.out.cell 0 _ rfl
      have e1:=B7U.out.cell 1 _ rfl
      have fe0:=B7U.out.free 0
      have fe1:=B7U.out.free 1
      clear kk FO hG
      go_wp2_with fail
      obtain ⟨wy,hwy⟩:∃ wy,wy=(wu.setCell ⟨g7,0,none⟩ (.slice aA G.peers.length cA)).setCell ⟨g7,1,none⟩ (.slice aB G.msgs.length cB):=⟨_,rfl⟩
      rw [← hwy]
      have RR:=lH (show FyRel X b g7 g10 n N B w (.int .i64 ((k:Int)+1)) wy from ⟨k+1,aA,cA,aB,cB,G,by omega,by go_num,by rw [hwy];exact (B7U.out.set 0 _).set 1 _,by rw [hwy];exact (FSU.out.set (p:=⟨g7,0,none⟩) _ hx7).set (p:=⟨g7,1,none⟩) _ hx7,by rw [HG.out];exact (FIH.out.dbl _ _).more (by omega),by rw [hwy];exact (B10U.out.set_ne (g':=g7) _ h107).set_ne (g':=g7) _ h107,by rw [hwy];exact (TU.out.set (p:=⟨g7,0,none⟩) _ (by show b<g7;omega)).set (p:=⟨g7,1,none⟩) _ (by show b<g7;omega),by rw [hwy];exact (KU.out.setNew (p:=⟨g7,0,none⟩) _ zg7).setNew (p:=⟨g7,1,none⟩) _ zg7⟩)
      clear hwy e0 e1 fe0 fe1 B7U B10U FSU TU KU
      go_wp2_with fail
      exact ⟨RR.out,by simp [intOf];omega⟩
     ·have d1:¬ (F.msgs.length:Int)<50:=by omega
      have RR:=lH (show FyRel X b g7 g10 n N B w (.int .i64 ((k:Int)+1)) wj from ⟨k+1,aQ,cQ,aR,cR,F,by omega,by go_num,B7H.out,FSH.out,FIH.out.more (by omega),B10H.out,TH.out,KW.out⟩)
      go_wp2_with fail
      exact ⟨RR.out,by simp [intOf];omega⟩
    have n2:(r2==2)=false:=by simpa using t2
    go_upto_region 6 with fail
    have cq0:=B7H.out.cell 0 _ rfl
    have cq1:=B7H.out.cell 1 _ rfl
    go_wp2_with fail
    (with_reducible refine (del_f _ _ _ N _ _ _ F.peers _ _ _ F.msgs r0 _ (HS.out _ KW.out).sl (by omega) hc hm FSH.out.pl (by omega) FIH.out.sp FSH.out.sl (by omega) FIH.out.sk).mono ?_)
    rintro e wu ⟨vP,vM,qs,rfl,FO,kk⟩
    clear cq0 cq1
    obtain ⟨G,hG⟩:∃ G,G=delF N F r0:=⟨_,rfl⟩
    have HG:=lH hG
    replace FO:FlOwn wj.heap.size wu vP vM qs G:=by rw [hG];exact FO
    obtain ⟨aA,cA,aB,cB,rfl,rfl,FSU⟩:=FO.flx (X:=XP X g7 g10) (fun k hk=>by rcases hk with hk | rfl | rfl;have:=hXl k hk;omega;omega;omega)
    replace FSU:=lH FSU
    have B7U:=lH (B7H.out.nx kk)
    have B10U:=lH (B10H.out.nx kk)
    have TU:=lH (TH.out.nx kk)
    have KU:=lH (KW.out.nxb (kk.b b))
    have e0:=B7U.out.cell 0 _ rfl
    have e1:=B7U.out.cell 1 _ rfl
    have fe0:=B7U.out.free 0
    have fe1:=B7U.out.free 1
    clear kk FO hG
    go_wp2_with fail
    obtain ⟨wy,hwy⟩:∃ wy,wy=(wu.setCell ⟨g7,0,none⟩ (.slice aA G.peers.length cA)).setCell ⟨g7,1,none⟩ (.slice aB G.msgs.length cB):=⟨_,rfl⟩
    rw [← hwy]
    have RR:=lH (show FyRel X b g7 g10 n N B w (.int .i64 ((k:Int)+1)) wy from ⟨k+1,aA,cA,aB,cB,G,by omega,by go_num,by rw [hwy];exact (B7U.out.set 0 _).set 1 _,by rw [hwy];exact (FSU.out.set (p:=⟨g7,0,none⟩) _ hx7).set (p:=⟨g7,1,none⟩) _ hx7,by rw [HG.out];exact (FIH.out.del HNL _).more (by omega),by rw [hwy];exact (B10U.out.set_ne (g':=g7) _ h107).set_ne (g':=g7) _ h107,by rw [hwy];exact (TU.out.set (p:=⟨g7,0,none⟩) _ (by show b<g7;omega)).set (p:=⟨g7,1,none⟩) _ (by show b<g7;omega),by rw [hwy];exact (KU.out.setNew (p:=⟨g7,0,none⟩) _ zg7).setNew (p:=⟨g7,1,none⟩) _ zg7⟩)
    clear hwy e0 e1 fe0 fe1 B7U B10U FSU TU KU
    go_wp2_with fail
    exact ⟨RR.out,by simp [intOf];omega⟩
  ·obtain ⟨wj,rfl⟩:∃ wj:World,wj=wi:=⟨_,rfl⟩
   have r0:=B7H.out.cell 0 _ rfl
   have r1:=B7H.out.cell 1 _ rfl
   have p0:=B10H.out.cell 0 _ rfl
   have p1:=B10H.out.cell 1 _ rfl
   have f0:=B10H.out.free 0
   have f1:=B10H.out.free 1
   go_wp2_with fail
   obtain ⟨wz,hwz⟩:∃ wz,wz=(wj.setCell ⟨g10,0,none⟩ (.slice aQ F.peers.length cQ)).setCell ⟨g10,1,none⟩ (.slice aR F.msgs.length cR):=⟨_,rfl⟩
   have BZ:Blk wz g10 [.slice aQ F.peers.length cQ,.slice aR F.msgs.length cR] 56:=by rw [hwz];exact (B10H.out.set 0 _).set 1 _
   have KE:Exb b w wz:=by rw [hwz];exact (KW.out.setNew (p:=⟨g10,0,none⟩) _ zg10).setNew (p:=⟨g10,1,none⟩) _ zg10
   have TE:TK wz b:=by rw [hwz];exact (TH.out.set (p:=⟨g10,0,none⟩) _ (by show b<g10;omega)).set (p:=⟨g10,1,none⟩) _ (by show b<g10;omega)
   have FF:=lH (show FlX X wz aQ aR F from by rw [hwz];exact ((FSH.out.set (p:=⟨g10,0,none⟩) _ hx10).set (p:=⟨g10,1,none⟩) _ hx10).mono (fun k _ e=>.inl e))
   rw [← hwz]
   have s0:=BZ.cell 0 _ rfl
   have s1:=BZ.cell 1 _ rfl
   clear r0 r1 f0 f1 p0 p1 hwz
   refine bodyPost_ret (v:=.agg #[.slice aQ F.peers.length cQ,.slice aR F.msgs.length cR]) (by simp [results,Tryz.results22,go_sem, *]) rfl ⟨aQ,cQ,aR,cR,F,rfl,FF.out,FIH.out.more (by omega),TE,KE⟩
section
variable {N:List Nd} {f g:Fl}
inductive RunsF (N:List Nd) (h:Nat) (f:Fl):Nat→Fl→Prop
 | zero:RunsF N h f 0 f
 | step {t:Nat} {g:Fl} (ms ts:List Int) (hg:RunsF N h f t g):RunsF N h f (t+1) (roundF N g ms ts h)
def iterF (N:List Nd) (h:Nat) (f:Fl):Nat→Fl
 | 0=>f
 | n+1=>roundF N (iterF N h f n) [] [] h
theorem RunsF.seq {h t:Nat} (hr:RunsF N h f t g):∃ F:Nat→Fl,F 0=f∧(∀ t,∃ ms ts,F (t+1)=roundF N (F t) ms ts h)∧F t=g:=by
 induction hr with
 | zero=>exact ⟨iterF N h f,rfl,fun t=>⟨[],[],rfl⟩,rfl⟩
 | @step t g ms ts _ ih =>
  obtain ⟨F,h1,h2,h3⟩:=ih
  refine ⟨fun i=>if i≤t then F i else iterF N h (roundF N g ms ts h) (i-t-1),?_,fun i=>?_,?_⟩
  ·simp [h1]
  ·by_cases hi:i+1≤t
   ·obtain ⟨a,b,e⟩:=h2 i
    exact ⟨a,b,by simp only [if_pos hi,if_pos (show i≤t by omega)];exact e⟩
   ·by_cases hit:i=t
    ·subst hit
     exact ⟨ms,ts,by simp [iterF,h3,show ¬ i+1≤i by omega]⟩
    ·refine ⟨[],[],?_⟩
     simp only [if_neg hi,if_neg (show ¬ i≤t by omega)]
     rw [show i+1-t-1=(i-t-1)+1 by omega]
     rfl
  ·simp [iterF,show ¬ t+1≤t by omega]
theorem runs_exact (hw:∀ x∈N,x.word<4294967296) {h t:Nat} (hh:h≤16) (hc:ConnF N f) (hr:RunsF N h f t g) (ht:N.length*(h+1)≤t):exactB N g.peers (h:Int)=true:=by
 obtain ⟨F,h1,h2,h3⟩:=hr.seq
 rw [← h3]
 exact flight_law hw hh (F:=F) (by rw [h1];exact hc) h2 t ht
theorem delAll_sm (hN:N.length≤1000) (ms:List Int):∀ (n i:Nat) (g:Fl),SmF g→SmF (delAllF N ms n i g)
 | 0,_,_,h=>h
 | n+1,i,g,h=>delAll_sm hN ms n (i+1) _ (del_sm hN h _)
theorem tickAll_sm (hN:N.length≤1000) (ts:List Int) (hh:Int):∀ (n i:Nat) (left:List Int) (g:Fl),SmF g→SmF (tickAllF N ts hh n i left g)
 | 0,_,_,_,h=>h
 | n+1,i,left,g,h=>tickAll_sm hN ts hh n (i+1) _ _ (tick_sm hN h _ _)
theorem tickAll_msgs (h0:checkN N=0) (ts:List Int) (hh:Int):∀ (n i:Nat) (left:List Int) (g:Fl),(tickAllF N ts hh n i left g).msgs.length≤g.msgs.length+n*(2*N.length)
 | 0,_,_,_=>by simp [tickAllF]
 | n+1,i,left,g=>by
  have h1:=tickAll_msgs h0 ts hh n (i+1) (left.eraseIdx (pickN ts i (n+1))) (tickF N g (left[pickN ts i (n+1)]?.getD 0) hh)
  have h2:=tick_len h0 (f:=g) (left[pickN ts i (n+1)]?.getD 0) hh
  unfold tickAllF
  rw [Nat.succ_mul]
  omega
theorem delAll_none (h0:checkN N=0) (ms:List Int) (g:Fl):(delAllF N ms g.msgs.length 0 g).msgs=[]:=by
 obtain ⟨D,_,h⟩:=del_all h0 ms g.msgs.length 0 g [] rfl (DelTo.refl N g)
 exact h
structure FliesR (N:List Nd) (f:Fl):Prop where
 sm:SmF f
 len:f.peers.length=N.length
 msgs:f.msgs.length≤100000
theorem Flies.r {B:Nat} (h:Flies N B f) (hB:B≤100000):FliesR N f:=⟨h.sm,h.len,by have:=h.msgs;omega⟩
theorem FliesR.sp (h:FliesR N f):SmallP f.peers:=by have:=h.sm;unfold SmF at this;exact this.1
theorem FliesR.round (h0:checkN N=0) (hN:N.length≤100) (hf:FliesR N f) {h:Nat} (hh:h≤16) (ms ts:List Int):FliesR N (roundF N f ms ts h):=by
 refine ⟨?_,norm_lenF (norm_round h0 hh f ms ts),?_⟩
 ·unfold roundF
  rw [if_pos ⟨by unfold lvlN;simp;omega,h0⟩]
  exact tickAll_sm (by omega) ts h _ _ _ _ (delAll_sm (by omega) ms _ _ _ (cop_sm hf.sm))
 ·unfold roundF
  rw [if_pos ⟨by unfold lvlN;simp;omega,h0⟩]
  have h1:=tickAll_msgs h0 ts h N.length 0 ((sortN N).map Nd.id) (delAllF N ms (copF N f).msgs.length 0 (copF N f))
  rw [delAll_none h0] at h1
  have h2:N.length*(2*N.length)≤100*200:=Nat.mul_le_mul (by omega) (by omega)
  simp only [List.length_nil] at h1
  omega
end
theorem ints_a {b:Nat} (w:World) (h:TK w b):Calls Tryz.prog 89 #[.pointer (some ⟨b,0,none⟩),.int .i64 6,.int .i64 50] w fun e w'=>∃ v r,e=.returned v∧InOf 6 b w w' v r:=ints_t 6 50 w h (by omega) (by omega) (by omega)
theorem ints_b {b:Nat} (w:World) (h:TK w b):Calls Tryz.prog 89 #[.pointer (some ⟨b,0,none⟩),.int .i64 5,.int .i64 9] w fun e w'=>∃ v r,e=.returned v∧InOf 5 b w w' v r:=ints_t 5 9 w h (by omega) (by omega) (by omega)
theorem TK.putF {b g:Nat} {w:World} {x y:Value} (t:TK w b) (hb:b<g):TK ((w.setCell ⟨g,0,none⟩ x).setCell ⟨g,1,none⟩ y) b:=(t.set (p:=⟨g,0,none⟩) _ (by show b<g;omega)).set (p:=⟨g,1,none⟩) _ (by show b<g;omega)
def SetlRel (X:Nat→Prop) (b g6 g8 m:Nat) (L:List Nd) (ht:Nat) (F0:Fl) (x1:World) (i:Value) (wr:World):Prop :=
 ∃ (k:Nat) (aQ:Option Addr) (cQ:Nat) (aR:Option Addr) (cR:Nat) (F:Fl),k≤m∧i=.int .i64 (((m-k:Nat)):Int)∧Blk wr g6 [.slice aQ F.peers.length cQ,.slice aR F.msgs.length cR] 56∧FlX (XP X g6 g8) wr aQ aR F∧FliesR L F∧RunsF L ht F0 k F ∧
  Blk wr g8 [.slice none 0 0,.slice none 0 0] 56∧TK wr b∧Exb b x1 wr
def SetlPost (X:Nat→Prop) (b:Nat) (L:List Nd) (ht:Nat) (w:World) (e:Ending) (w':World):Prop :=
 ∃ (aQ:Option Addr) (cQ:Nat) (aR:Option Addr) (cR:Nat) (F:Fl),e=.returned (.agg #[.slice aQ F.peers.length cQ,.slice aR F.msgs.length cR])∧FlX X w' aQ aR F∧FliesR L F∧exactB L F.peers ht=true∧TK w' b∧Exb b w w'
set_option maxRecDepth 100000 in
set_option maxHeartbeats 8000000 in
theorem settle_x {b:Nat} (a:Option Addr) (nN c:Nat) (L:List Nd) (a2:Option Addr) (c2:Nat) (a3:Option Addr) (c3:Nat) (F0:Fl) (ht:Nat) (X:Nat→Prop) (w:World) (hXb:X b) (hXl:∀ k,X k→k<w.heap.size) (h:TK w b) (hs:Slb 3 encN b w a nN L) (hn:nN≤10) (hc:nN≤c) (hm:c≤maxLen) (hw:∀ x∈L,x.word<4294967296) (h0:checkN L=0)
  (hF:FlX X w a2 a3 F0) (hfl:FliesR L F0) (hcon:ConnF L F0) (hht:ht≤4) :
  Calls Tryz.prog 25 #[.pointer (some ⟨b,0,none⟩),.slice a nN c,.agg #[.slice a2 F0.peers.length c2,.slice a3 F0.msgs.length c3],.int .i64 ht] w (SetlPost X b L ht w):=by
 have hbw:=h.lt
 have HW:=lH hw
 have H0:=lH h0
 have FC:=lH hcon
 have HS:=lH (fun wq (kq:Exb b w wq)=>hs.nxb kq)
 have HNL:Hid (L.length=nN):=lH hs.len
 have hXH:=lH hXl
 obtain ⟨g6,hg6⟩:∃ g6,g6=w.heap.size:=⟨_,rfl⟩
 obtain ⟨g8,hg8⟩:∃ g8,g8=(w.heap.size+1):=⟨_,rfl⟩
 obtain ⟨w1,hw1⟩:∃ w1,w1=((w.alloc (.cells #[.slice a2 F0.peers.length c2,.slice a3 F0.msgs.length c3] 56)).alloc (.cells #[.slice none 0 0,.slice none 0 0] 56)):=⟨_,rfl⟩
 have kk:Ex w w1:=by rw [hw1];exact (((Ex.refl w).alloc (.cells #[.slice a2 F0.peers.length c2,.slice a3 F0.msgs.length c3] 56)).alloc (.cells #[.slice none 0 0,.slice none 0 0] 56))
 have B6:Blk w1 g6 [.slice a2 F0.peers.length c2,.slice a3 F0.msgs.length c3] 56:=by rw [hw1];simp only [hg6,hg8];have hbk:=((Blk.new w [.slice a2 F0.peers.length c2,.slice a3 F0.msgs.length c3] 56).nx (Ex.new _ (.cells #[.slice none 0 0,.slice none 0 0] 56)));simpa using hbk
 have B8:Blk w1 g8 [.slice none 0 0,.slice none 0 0] 56:=by rw [hw1];simp only [hg6,hg8];have hbk:=(Blk.new (w.alloc (.cells #[.slice a2 F0.peers.length c2,.slice a3 F0.msgs.length c3] 56)) [.slice none 0 0,.slice none 0 0] 56);simpa using hbk
 have Hw1:=lH hw1
 have Hg6:=lH hg6
 have Hg8:=lH hg8
 replace h:=h.nx kk
 have zg6:w.heap.size≤g6:=by omega
 have zg8:w.heap.size≤g8:=by omega
 have hb6:¬ g6=b:=by omega
 have hb8:¬ g8=b:=by omega
 have hbg6:b<g6:=by omega
 have h86:g8≠g6:=by omega
 have hx6:XP X g6 g8 g6:=.inr (.inl rfl)
 have hx8:XP X g6 g8 g8:=.inr (.inr rfl)
 have hxb:XP X g6 g8 b:=.inl hXb
 have FSn:FlX (XP X g6 g8) w1 a2 a3 F0:=(hF.mono (fun k hk e=>by rcases e with e | rfl | rfl;exact e;omega;omega)).nx kk
 have hht16:ht≤16:=by omega
 obtain ⟨m,hmm⟩:∃ m:Nat,m=L.length*(ht+1):=⟨_,rfl⟩
 have hm1:m≤200:=by
  have h1:=HNL.out
  have:L.length*(ht+1)≤20*5:=Nat.mul_le_mul (by omega) (by omega)
  omega
 have R0:=lH (show SetlRel X b g6 g8 m L ht F0 w (.int .i64 (m:Int)) w1 from ⟨0,a2,c2,a3,c3,F0,by omega,rfl,B6,FSn,hfl,.zero,B8,h,kk.b b⟩)
 have hrn:rndsR (nN:Int) (ht:Int)=(m:Int):=by
  unfold rndsR
  rw [if_pos (by omega),hmm,HNL.out]
  push_cast
  rfl
 have HM:=lH hmm
 clear kk hg6 hg8 hw1 B6 B8 h FSn hF hfl hmm hw h0 hcon hs hXl
 go_enter Tryz.func25,Tryz.ntmps25
 go_upto_region 1 with fail
 rw [← Hw1.out,← Hg8.out,← Hg6.out]
 clear Hw1 Hg8 Hg6
 go_wp2_with fail
 (with_reducible refine (rounds18_p (nN:Int) (ht:Int) _).mono ?_)
 rintro e w7 ⟨rfl,hw7⟩
 subst hw7
 rw [hrn]
 clear hrn
 go_wp2_with fail
 go_loopw [9] (fun i wr=>SetlRel X b g6 g8 m L ht F0 w i wr) (fun i _=>(intOf i).toNat)
 case atStart=>exact R0.out
 case round =>
  clear R0
  obtain ⟨k,aQ,cQ,aR,cR,F,hk,rfl,B6,FSn,FR,RU,B8,T,kx⟩:=hrel
  obtain ⟨wj,rfl⟩:∃ wj:World,wj=wr:=⟨_,rfl⟩
  have KX:=lH kx
  have FSH:=lH FSn
  have FRH:=lH FR
  have RUN:=lH RU
  have TH:=lH T
  have B6H:=lH B6
  have B8H:=lH B8
  have hl6:=B6.lt
  have hl8:=B8.lt
  have hlb:=T.lt
  have zP:F.peers.length≤10:=by have:=FR.len;have:=HNL.out;omega
  have zM:F.msgs.length≤100000:=FR.msgs
  clear kx FSn FR RU T B6 B8
  by_cases hkm:k<m
  ·have d0:((m-k:Nat):Int)>0:=by omega
   have d1:(0:Int)<((m-k:Nat):Int):=by omega
   go_upto_region 4 with fail
   refine wp_region_late_drew (S:=(fun x=>Exb b wj x∧TK x b)) [8] (by kernel_rfl) (And.intro (Exb.refl b wj).drew (TH.out.nx (Ex.refl wj).drew)) (fun hHeld=>?_)
   obtain ⟨wd,hwdx⟩:∃ wd:World,wd=World.drew wj:=⟨_,rfl⟩
   rw [← hwdx] at hHeld ⊢
   have hDrew:Ex wj wd:=by rw [hwdx];exact (Ex.refl wj).drew
   clear hwdx
   refine tkL 0 (v:=?_) rfl (by kernel_rfl) (fun _ _ _ h=>h) (by rfl) ?y5 hHeld ?_
   case y5=>intro wq hSw;go_simp<;>rfl
   refine tkL 1 (v:=?_) rfl (by kernel_rfl) (fun _ _ _ h=>h) (by rfl) ?y8 hHeld ?_
   case y8=>intro wq hSw;(have cq0:=(B6H.out.nxb hb6 hSw.1).cell 0 _ rfl;have cq1:=(B6H.out.nxb hb6 hSw.1).cell 1 _ rfl;go_simp)<;>rfl
   refine tkL 2 (v:=?_) rfl (by kernel_rfl) (fun _ _ _ h=>h) (by rfl) ?y11 hHeld ?_
   case y11=>intro wq hSw;go_simp<;>rfl
   refine tkL 4 (v:=?_) rfl (by kernel_rfl) (fun _ _ _ h=>h) (by rfl) ?y14 hHeld ?_
   case y14=>intro wq hSw;go_simp<;>rfl
   refine tkL 6 (v:=?_) rfl (by kernel_rfl) (fun _ _ _ h=>h) (by rfl) ?y17 hHeld ?_
   case y17=>intro wq hSw;go_simp<;>rfl
   refine rL 3 (by kernel_rfl) rfl fun K hK=>?_
   go_simp
   refine (ints_a _ hHeld.2).mono ?_
   rintro e wa ⟨v3,m3,rfl,R3⟩
   obtain ⟨a3,c3,rfl,S3,hc3,hm3,_⟩:=R3.own.slf (fun _=>rfl)
   have S3:=S3.slb (b:=b) hHeld.2.lt
   replace hHeld:=And.intro (hHeld.1.nxb R3.k) R3.tape
   clear R3
   refine hK.out _ _ (hHeld) (fun hHeld=>?_)
   clear hK K
   refine rL 5 (by kernel_rfl) rfl fun K hK=>?_
   go_simp
   refine (ints_b _ hHeld.2).mono ?_
   rintro e wc ⟨v5,m5,rfl,R5⟩
   obtain ⟨a5,c5,rfl,S5,hc5,hm5,_⟩:=R5.own.slf (fun _=>rfl)
   have S5:=S5.slb (b:=b) hHeld.2.lt
   replace S3:=S3.nxb R5.k
   replace hHeld:=And.intro (hHeld.1.nxb R5.k) R5.tape
   clear R5
   refine hK.out _ _ (hHeld) (fun hHeld=>?_)
   clear hK K
   refine rL 7 (by kernel_rfl) rfl fun K hK=>?_
   go_simp
   (with_reducible refine (round_f _ _ _ L _ _ _ F.peers _ _ _ F.msgs _ _ _ m3 _ _ _ m5 ht _ (HS.out _ (KX.out.nxb hHeld.1)).sl (by omega) hc hm HW.out (FSH.out.nxb hxb hHeld.1).pl (by omega) FRH.out.sm (FSH.out.nxb hxb hHeld.1).sl (by omega) S3.sl hc3 hm3 S5.sl hc5 hm5).mono ?_)
   rintro e wu ⟨vP,vM,qs,rfl,FO,kk⟩
   obtain ⟨G,hG⟩:∃ G,G=roundF L F m3 m5 ht:=⟨_,rfl⟩
   have HG:=lH hG
   replace FO:=(show FlOwn wj.heap.size wu vP vM qs G from by rw [hG];exact FlOwn.lower FO hHeld.1.size)
   obtain ⟨aA,cA,aB,cB,rfl,rfl,_,_⟩:=FO.two
   replace hHeld:=And.intro (hHeld.1.nxb (kk.b b)) (hHeld.2.nx kk)
   clear kk hG S3 S5
   refine hK.out _ _ (hHeld) (fun hHeld=>?_)
   clear hK K
   refine rLL 8 (by kernel_rfl) rfl (by rfl) fun K hK=>?_
   have B6U:=B6H.out.nxb hb6 hHeld.1
   have r0:=B6U.cell 0 _ rfl
   have r1:=B6U.cell 1 _ rfl
   have f0:=B6U.free 0
   have f1:=B6U.free 1
   go_simp
   clear r0 r1 f0 f1
   refine hK.out _ _ ?_
   clear hK K
   refine wpAnyL_done (by kernel_rfl) ?_ _
   obtain ⟨wy,hwy⟩:∃ wy,wy=(wu.setCell ⟨g6,0,none⟩ (.slice aA G.peers.length cA)).setCell ⟨g6,1,none⟩ (.slice aB G.msgs.length cB):=⟨_,rfl⟩
   rw [← hwy]
   have KY:=lH (show Exb b w wy from by rw [hwy];exact ((KX.out.nxb hHeld.1).setNew (p:=⟨g6,0,none⟩) _ zg6).setNew (p:=⟨g6,1,none⟩) _ zg6)
   have TY:=lH (show TK wy b from by rw [hwy];exact hHeld.2.putF hbg6)
   have BY:=lH (show Blk wy g6 [.slice aA G.peers.length cA,.slice aB G.msgs.length cB] 56 from by rw [hwy];exact (B6U.set 0 _).set 1 _)
   have B8Y:=lH (show Blk wy g8 [.slice none 0 0,.slice none 0 0] 56 from by rw [hwy];exact ((B8H.out.nxb hb8 hHeld.1).set_ne (g':=g6) _ h86).set_ne (g':=g6) _ h86)
   have FOY:=lH (show FlOwn wj.heap.size wy (.slice aA G.peers.length cA) (.slice aB G.msgs.length cB) qs G from FO.putB B6U (by decide) (by decide) (by decide) (by decide) (by rw [hwy];exact ((Exb.refl g6 _).setB (p:=⟨g6,0,none⟩) _ rfl).setB (p:=⟨g6,1,none⟩) _ rfl))
   have zwj:=KX.out.size
   have FXY:=lH (show FlX (XP X g6 g8) wy aA aB G from by obtain ⟨_,_,_,_,e1,e2,hx⟩:=FOY.out.flx (X:=XP X g6 g8) (fun k hk=>by rcases hk with hk | rfl | rfl;have:=hXH.out k hk;omega;omega;omega);cases e1;cases e2;exact hx)
   have hl10:L.length≤100:=by have:=HNL.out;omega
   have RR:=lH (show SetlRel X b g6 g8 m L ht F0 w (.int .i64 (((m-k:Nat):Int)-1)) wy from ⟨k+1,aA,cA,aB,cB,G,by omega,by rw [show ((m-(k+1):Nat):Int)=((m-k:Nat):Int)-1 by omega],BY.out,FXY.out,by rw [HG.out];exact FRH.out.round H0.out hl10 hht16 _ _,by rw [HG.out];exact .step _ _ RUN.out,B8Y.out,TY.out,KY.out⟩)
   clear hwy FO B6U hHeld hDrew
   go_wp2_with fail
   exact ⟨RR.out,by simp [intOf];omega⟩
  ·obtain rfl:k=m:=by omega
   have E1:=lH (runs_exact HW.out hht16 FC.out RUN.out (by rw [HM.out];exact Nat.le_refl _))
   have d0:¬ ((k-k:Nat):Int)>0:=by omega
   have d1:¬ (0:Int)<((k-k:Nat):Int):=by omega
   have r0:=B6H.out.cell 0 _ rfl
   have r1:=B6H.out.cell 1 _ rfl
   have p0:=B8H.out.cell 0 _ rfl
   have p1:=B8H.out.cell 1 _ rfl
   have f0:=B8H.out.free 0
   have f1:=B8H.out.free 1
   go_wp2_with fail
   obtain ⟨wz,hwz⟩:∃ wz,wz=(wj.setCell ⟨g8,0,none⟩ (.slice aQ F.peers.length cQ)).setCell ⟨g8,1,none⟩ (.slice aR F.msgs.length cR):=⟨_,rfl⟩
   have BZ:Blk wz g8 [.slice aQ F.peers.length cQ,.slice aR F.msgs.length cR] 56:=by rw [hwz];exact (B8H.out.set 0 _).set 1 _
   have KE:Exb b w wz:=by rw [hwz];exact (KX.out.setNew (p:=⟨g8,0,none⟩) _ zg8).setNew (p:=⟨g8,1,none⟩) _ zg8
   have TE:TK wz b:=by rw [hwz];exact (TH.out.set (p:=⟨g8,0,none⟩) _ (by show b<g8;omega)).set (p:=⟨g8,1,none⟩) _ (by show b<g8;omega)
   have FF:=lH (show FlX X wz aQ aR F from by rw [hwz];exact ((FSH.out.set (p:=⟨g8,0,none⟩) _ hx8).set (p:=⟨g8,1,none⟩) _ hx8).mono (fun k _ e=>.inl e))
   rw [← hwz]
   have s0:=BZ.cell 0 _ rfl
   have s1:=BZ.cell 1 _ rfl
   clear r0 r1 f0 f1 p0 p1 hwz d0 d1
   refine bodyPost_ret (v:=.agg #[.slice aQ F.peers.length cQ,.slice aR F.msgs.length cR]) (by simp [results,Tryz.results25,go_sem, *]) rfl ⟨aQ,cQ,aR,cR,F,rfl,FF.out,FRH.out,E1.out,TE,KE⟩
end Go.Proofs.YthcholmhmcpooaaGreatDoor
