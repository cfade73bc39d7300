/- Texts for TopRepairProof. -/
import Derived.Test.YthcholmhmcpooaaGreatDoorTopRepairProofL30
import Derived.Test.YthcholmhmcpooaaGreatDoorTopRepairProofL31
set_option linter.unusedSimpArgs false
set_option linter.unusedVariables false

namespace Go.Proofs.YthcholmhmcpooaaGreatDoor
open Go.RowKit
theorem normal_uniq (N:List Nd) (P:List Pr) {i j:Nat} {y z:Pr} (hi:(normalN N P)[i]?=some y) (hj:(normalN N P)[j]?=some z) (e:z.id=y.id):j=i:=by
 unfold normalN at hi hj
 split at hi
 ·rename_i h0
  rw [if_pos h0] at hj
  obtain ⟨hi1,hi2⟩:=List.getElem?_eq_some_iff.1 hi
  obtain ⟨hj1,hj2⟩:=List.getElem?_eq_some_iff.1 hj
  rw [List.length_map] at hi1 hj1
  rw [List.getElem_map] at hi2 hj2
  have hs:=List.pairwise_iff_getElem.1 (sort_ids h0)
  rw [← hi2,← hj2,peer_id,peer_id] at e
  rcases Nat.lt_trichotomy i j with h | h | h
  ·exact absurd e.symm (hs i j hi1 hj1 h)
  ·exact h.symm
  ·exact absurd e (hs j i hj1 hi1 h)
 ·simp at hi
theorem map_one {Q:List Pr} {k:Nat} {y:Pr} (hy:Q[k]?=some y) (hu:∀ j z,Q[j]?=some z→z.id=y.id→j=k) (g:Pr→Pr):Q.map (fun p=>if p.id=y.id then g p else p)=Q.set k (g y):=by
 apply List.ext_getElem?
 intro i
 rw [List.getElem?_map]
 by_cases hik:k=i
 ·subst hik
  rw [List.getElem?_set_self (List.getElem?_eq_some_iff.1 hy).1,hy]
  simp
 ·rw [List.getElem?_set_ne hik]
  cases hz:Q[i]? with
  | none=>rfl
  | some z =>
   simp only [Option.map_some]
   rw [if_neg (fun he=>hik (hu i z hz he).symm)]
theorem tick_at {N:List Nd} {f:Fl} {k:Nat} {y:Pr} {h:Nat} (hh:h≤16) (hy:(copF N f).peers[k]?=some y) (hp:peerN (copF N f).peers y.id=y) (hu:∀ j z,(copF N f).peers[j]?=some z→z.id=y.id→j=k) :
  tickF N f y.id h=⟨(copF N f).peers.set k (tickP N (peerN (copF N f).peers) y h),(copF N f).msgs++introsN N y⟩:=by
 unfold tickF
 rw [if_pos,hp,Int.toNat_natCast,map_one hy hu]
 refine ⟨by unfold lvlN;simp;omega,?_⟩
 rw [List.any_eq_true]
 exact ⟨y,List.mem_of_getElem? hy,by simp⟩
theorem tick_out {N:List Nd} {f:Fl} {id h:Int} (hn:idxQ id (copF N f).peers = -1):tickF N f id h=copF N f:=by
 apply tick_no
 rintro ⟨_,ha⟩
 rw [List.any_eq_true] at ha
 obtain ⟨p,hp,he⟩:=ha
 unfold idxQ at hn
 rw [if_pos (List.findIdx_lt_length.2 ⟨p,hp,he⟩)] at hn
 omega
theorem tick_lvl {N:List Nd} {f:Fl} {id h:Int} (hn:lvlN h=false):tickF N f id h=copF N f:=by
 apply tick_no
 rw [hn]
 rintro ⟨h,_⟩
 cases h
theorem cop_uniq (N:List Nd) (f:Fl) {k:Nat} {y:Pr} (hy:(copF N f).peers[k]?=some y):∀ j z,(copF N f).peers[j]?=some z→z.id=y.id→j=k:=by
 intro j z hz he
 unfold copF at hy hz
 split at hy
 ·rename_i h0
  rw [if_pos h0] at hz
  exact normal_uniq N f.peers hy hz he
 ·simp at hy
theorem refs_kept {N:List Nd} (h0:checkN N=0) (id l r:Int):refsN N ⟨id,l,r,[],[]⟩=ordN N [l,r] id:=by
 unfold refsN numsP
 rw [if_pos h0]
 simp
theorem cop_small {N:List Nd} {f:Fl} (h:SmallP f.peers):SmallP (copF N f).peers:=by
 unfold copF
 split
 ·exact normal_small N h
 ·intro p hp;cases hp
theorem cop_len (N:List Nd) (f:Fl):(copF N f).peers.length≤N.length∧(copF N f).msgs.length≤f.msgs.length∧(0<(copF N f).peers.length→checkN N=0):=by
 unfold copF
 split
 ·rename_i h0
  exact ⟨(normal_le N f.peers).1,Nat.le_refl _,fun _=>h0⟩
 ·exact ⟨Nat.zero_le _,Nat.zero_le _,fun h=>absurd h (Nat.lt_irrefl 0)⟩
theorem OwnP.whole {eP eI eN:TypeId} {base:Nat} {w:World} {qs:List PQ} {P:List Pr} (hI:eP≠eI) (hN:eP≠eN) (hIN:eI≠eN) {g n cap:Nat} (h:OwnP eP eI eN base w (.slice (some ⟨g,0,none⟩) n cap) qs P) {a:Nat} {p p':Pr} {hk hn hk' hn':Hdr} (hq:qs[a]?=some (p.nums,hk,hn)) (hp:P[a]?=some p)
  (s:Nat) (A:OwnL 1 encI eI s w hk'.val p'.known) (B:OwnL 4 encNr eN s w hn'.val p'.near) (hbs:base≤s) (fk:∀ (j:Nat) (r:PQ) (g':Nat),qs[j]?=some r→r.2.1.val.ownBlock=some g'→g'<s) (fn:∀ (j:Nat) (r:PQ) (g':Nat),qs[j]?=some r→r.2.2.val.ownBlock=some g'→g'<s) :
  (∀ c v,(encQ (p.nums,hk,hn))[c]?=some v→w.cell? ⟨g,a*5+c,none⟩=some v∧w.frozen? ⟨g,a*5+c,none⟩=false) ∧
   OwnP eP eI eN base (((((w.setCell ⟨g,a*5,none⟩ (.int .i64 p'.id)).setCell ⟨g,a*5+1,none⟩ hk'.val).setCell ⟨g,a*5+2,none⟩ (.int .i64 p'.left)).setCell ⟨g,a*5+3,none⟩ (.int .i64 p'.right)).setCell ⟨g,a*5+4,none⟩ hn'.val)
    (.slice (some ⟨g,0,none⟩) n cap) (qs.set a (p'.nums,hk',hn')) (P.set a p'):=by
 have ha:=(List.getElem?_eq_some_iff.1 hq).1
 have haP:=(List.getElem?_eq_some_iff.1 hp).1
 refine ⟨fun c v hv=>?_,?_⟩
 ·obtain ⟨s1,s2,_⟩:=OwnW.set1 encQ_len h.1 hq (c:=c) (by have:=(List.getElem?_eq_some_iff.1 hv).1;rw [encQ_len] at this;exact this)
  exact ⟨s1.trans hv,s2⟩
 have ch:Chg (fun k=>k<w.heap.size∧¬ k=g) w (((((w.setCell ⟨g,a*5,none⟩ (.int .i64 p'.id)).setCell ⟨g,a*5+1,none⟩ hk'.val).setCell ⟨g,a*5+2,none⟩ (.int .i64 p'.left)).setCell ⟨g,a*5+3,none⟩ (.int .i64 p'.right)).setCell ⟨g,a*5+4,none⟩ hn'.val) :=
  ((((set_chg w _).setCell (p:=⟨g,a*5+1,none⟩) _ (fun k hk=>hk.2)).setCell (p:=⟨g,a*5+2,none⟩) _ (fun k hk=>hk.2)).setCell (p:=⟨g,a*5+3,none⟩) _ (fun k hk=>hk.2)).setCell (p:=⟨g,a*5+4,none⟩) _ (fun k hk=>hk.2)
 have r0:=(OwnW.set1 encQ_len h.1 hq (c:=0) (by omega)).2.2 (({ p with id:=p'.id }:Pr).nums,hk,hn) (.int .i64 p'.id) rfl
 rw [Nat.add_zero] at r0
 have r1:=(OwnW.set1 encQ_len r0 (List.getElem?_set_self ha) (c:=1) (by omega)).2.2 (({ p with id:=p'.id }:Pr).nums,hk',hn) hk'.val rfl
 rw [List.set_set] at r1
 have r2:=(OwnW.set1 encQ_len r1 (List.getElem?_set_self ha) (c:=2) (by omega)).2.2 (({ p with id:=p'.id,left:=p'.left }:Pr).nums,hk',hn) (.int .i64 p'.left) rfl
 rw [List.set_set] at r2
 have r3:=(OwnW.set1 encQ_len r2 (List.getElem?_set_self ha) (c:=3) (by omega)).2.2 (p'.nums,hk',hn) (.int .i64 p'.right) rfl
 rw [List.set_set] at r3
 have r4:=(OwnW.set1 encQ_len r3 (List.getElem?_set_self ha) (c:=4) (by omega)).2.2 (p'.nums,hk',hn') hn'.val rfl
 rw [List.set_set] at r4
 refine h.upd (q':=(p'.nums,hk',hn')) ha r4 rfl ((A.base hbs).chg ch (fun x hx hv=>⟨hx,fun he=>?_⟩)) ((B.base hbs).chg ch (fun x hx hv=>⟨hx,fun he=>?_⟩)) (fun j r d hj hr hd=>?_) (fun j r g' hj hr hg hv=>?_) (fun j r g' hj hr hg hv=>?_)
 ·subst he
  obtain ⟨_,_,e1⟩:=A.blk hv
  obtain ⟨_,_,e2⟩:=h.1.blk rfl
  exact blk_kind hI e2 e1
 ·subst he
  obtain ⟨_,_,e1⟩:=B.blk hv
  obtain ⟨_,_,e2⟩:=h.1.blk rfl
  exact blk_kind hN e2 e1
 ·obtain ⟨_,r2,r3⟩:=h.2.2.1 j r d hr hd
  refine ⟨r2.chg ch (fun k hk hv=>⟨hk,fun he=>?_⟩),r3.chg ch (fun k hk hv=>⟨hk,fun he=>?_⟩)⟩
  ·subst he;exact h.neI hI hr hv rfl
  ·subst he;exact h.neN hN hr hv rfl
 ·have:=fk j r g' hr hg
  have:=(A.lt g' hv).1
  omega
 ·have:=fn j r g' hr hg
  have:=(B.lt g' hv).1
  omega
theorem OwnP.oth {α:Type} {sz e base' eP eI eN base:Nat} {enc:α→List Value} {w w':World} {v v':Value} {qs:List PQ} {P:List Pr} {l':List α} (h:OwnP eP eI eN base w v qs P) (own:OwnL sz enc e base' w v' l') (n1:eP≠e) (n2:eI≠e) (n3:eN≠e) (k:Chg (fun k=>k<w.heap.size∧¬ v'.ownBlock=some k) w w'):OwnP eP eI eN base w' v qs P :=
 ⟨h.1.chg k (fun x hx hv=>⟨hx,fun hh=>by
  obtain ⟨_,_,e1⟩:=h.1.blk hv
  obtain ⟨_,_,e2⟩:=own.blk hh
  exact blk_kind n1 e1 e2⟩),h.2.1,fun j q p hq hp=>⟨(h.2.2.1 j q p hq hp).1,OwnL.app (h.2.2.1 j q p hq hp).2.1 own n2 k,OwnL.app (h.2.2.1 j q p hq hp).2.2 own n3 k⟩,h.2.2.2.1,h.2.2.2.2⟩
theorem OwnP.putB {eP eI eN base g':Nat} {w w':World} {v:Value} {qs:List PQ} {P:List Pr} {cs:List Value} {ty:TypeId} (h:OwnP eP eI eN base w v qs P) (B:Blk w g' cs ty) (n1:eP≠ty) (n2:eI≠ty) (n3:eN≠ty) (k:Exb g' w w'):OwnP eP eI eN base w' v qs P :=
 ⟨h.1.chg k (fun x hx hv=>⟨hx,fun hh=>by
  subst hh
  obtain ⟨_,_,e1⟩:=h.1.blk hv
  exact blk_kind n1 e1 B⟩),h.2.1,fun j q p hq hp=>⟨(h.2.2.1 j q p hq hp).1,OwnL.put (h.2.2.1 j q p hq hp).2.1 B n2 k,OwnL.put (h.2.2.1 j q p hq hp).2.2 B n3 k⟩,h.2.2.2.1,h.2.2.2.2⟩
theorem OwnP.lts {eP eI eN base:Nat} {w:World} {v:Value} {qs:List PQ} {P:List Pr} (h:OwnP eP eI eN base w v qs P):(∀ (j:Nat) (r:PQ) (g':Nat),qs[j]?=some r→r.2.1.val.ownBlock=some g'→g'<w.heap.size)∧(∀ (j:Nat) (r:PQ) (g':Nat),qs[j]?=some r→r.2.2.val.ownBlock=some g'→g'<w.heap.size) :=
 ⟨fun j r g' hr hg=>by
  obtain ⟨p,_,_,r2,_⟩:=h.getp hr
  exact (r2.lt g' hg).2,fun j r g' hr hg=>by
  obtain ⟨p,_,_,_,r3⟩:=h.getp hr
  exact (r3.lt g' hg).2⟩
set_option maxRecDepth 100000 in
set_option maxHeartbeats 8000000 in
theorem tick_f (a:Option Addr) (n c:Nat) (N:List Nd) (a2:Option Addr) (n2 c2:Nat) (P:List Pr) (a3:Option Addr) (n3 c3:Nat) (M:List (Int×Int)) (id hh:Int) (w:World) (h:Sl 3 encN w a n N) (hn:n≤1000) (hc:n≤c) (hm:c≤maxLen) (hw:∀ x∈N,x.word<4294967296) (h2:PL w a2 n2 P) (hn2:n2≤4000000000000000000) (hP:SmallP P)
  (h3:Sl 2 encS w a3 n3 M) (hn3:n3≤10000000) :
  Calls Tryz.prog 80 #[.slice a n c,.agg #[.slice a2 n2 c2,.slice a3 n3 c3],.int .i64 id,.int .i64 hh] w (FlPost (tickF N ⟨P,M⟩ id hh) w):=by
 have HW:=lH hw
 have HL:=lH h.len
 have HS0:=lH h
 have EG:Hid (∀ args w,(callFunc 150 args).run Tryz.prog w=.ok (.enter 150 args) w):=lH (enters_of Tryz.func150 (by kernel_rfl) rfl)
 obtain ⟨F,hF⟩:∃ F,F=copF N ⟨P,M⟩:=⟨_,rfl⟩
 have CL:=lH (cop_len N ⟨P,M⟩)
 have CS:=lH (cop_small (N:=N) (f:=⟨P,M⟩) hP)
 have CU:=lH (fun (k:Nat) (y:Pr) (hy:(copF N ⟨P,M⟩).peers[k]?=some y)=>cop_uniq N ⟨P,M⟩ hy)
 have TO:=lH (fun hx=>tick_out (N:=N) (f:=⟨P,M⟩) (id:=id) (h:=hh) hx)
 have TL:=lH (fun hx=>tick_lvl (N:=N) (f:=⟨P,M⟩) (id:=id) (h:=hh) hx)
 have TA:=lH (fun (h:Nat) (hx:h≤16) (k:Nat) (y:Pr) (hy:(copF N ⟨P,M⟩).peers[k]?=some y) (hp:peerN (copF N ⟨P,M⟩).peers y.id=y)=>tick_at (N:=N) (f:=⟨P,M⟩) hx hy hp (cop_uniq N ⟨P,M⟩ hy))
 have SM:=lH hP
 have NF:=normal_f a n c N a2 n2 c2 P a3 n3 c3 M
 rw [← hF] at CL CS CU TO TL TA NF
 have hM:M.length=n3:=h3.len
 have HM:=lH hM
 obtain ⟨g5,hg5⟩:∃ g5,g5=w.heap.size:=⟨_,rfl⟩
 obtain ⟨g6,hg6⟩:∃ g6,g6=(w.heap.size+1):=⟨_,rfl⟩
 obtain ⟨g8,hg8⟩:∃ g8,g8=(w.heap.size+1+1):=⟨_,rfl⟩
 obtain ⟨w1,hw1⟩:∃ w1,w1=(((w.alloc (.cells #[.slice a2 n2 c2,.slice a3 n3 c3] 56)).alloc (.cells #[.int .i64 id] 3)).alloc (.cells #[.slice none 0 0,.slice none 0 0] 56)):=⟨_,rfl⟩
 have kk:Ex w w1:=by rw [hw1];exact ((((Ex.refl w).alloc (.cells #[.slice a2 n2 c2,.slice a3 n3 c3] 56)).alloc (.cells #[.int .i64 id] 3)).alloc (.cells #[.slice none 0 0,.slice none 0 0] 56))
 have B5:Blk w1 g5 [.slice a2 n2 c2,.slice a3 n3 c3] 56:=by rw [hw1];simp only [hg5,hg6,hg8];have hbk:=(((Blk.new w [.slice a2 n2 c2,.slice a3 n3 c3] 56).nx (Ex.new _ (.cells #[.int .i64 id] 3))).nx (Ex.new _ (.cells #[.slice none 0 0,.slice none 0 0] 56)));simpa using hbk
 have B6:Blk w1 g6 [.int .i64 id] 3:=by rw [hw1];simp only [hg5,hg6,hg8];have hbk:=((Blk.new (w.alloc (.cells #[.slice a2 n2 c2,.slice a3 n3 c3] 56)) [.int .i64 id] 3).nx (Ex.new _ (.cells #[.slice none 0 0,.slice none 0 0] 56)));simpa using hbk
 have B8:Blk w1 g8 [.slice none 0 0,.slice none 0 0] 56:=by rw [hw1];simp only [hg5,hg6,hg8];have hbk:=(Blk.new ((w.alloc (.cells #[.slice a2 n2 c2,.slice a3 n3 c3] 56)).alloc (.cells #[.int .i64 id] 3)) [.slice none 0 0,.slice none 0 0] 56);simpa using hbk
 have Hw1:=lH hw1
 have Hg5:=lH hg5
 have Hg6:=lH hg6
 have Hg8:=lH hg8
 replace h:=h.nx kk
 replace h2:=h2.nx kk
 replace h3:=h3.nx kk
 have zg8:w.heap.size≤g8:=by omega
 have K1:=lH kk
 have hb8:=B8.lt
 have hb6:=B6.lt
 have h68:¬ g6=g8:=by omega
 clear kk hw1 hg5 hg6 hg8 hP hw hF hM
 go_enter Tryz.func80,Tryz.ntmps80
 go_upto_region 1 with fail
 rw [← Hw1.out,← Hg8.out,← Hg6.out,← Hg5.out]
 clear Hw1 Hg8 Hg6 Hg5
 have q0:=B5.cell 0 _ rfl
 have q1:=B5.cell 1 _ rfl
 go_wp2_with fail
 (with_reducible refine (NF w1 h hn hc hm h2 hn2 SM.out h3 (by omega)).mono ?_)
 rintro e w2 ⟨vP,vM,qs,rfl,FO,kk⟩
 replace h:=h.nx kk
 replace B6:=B6.nx kk
 replace B8:=B8.nx kk
 obtain ⟨aP,cP,rfl,_,_,_,hgP,_⟩:=FO.1.pl
 obtain ⟨aM,cM,rfl,_,_,_,_⟩:=FO.2.rd (fun _=>rfl)
 have K2:=lH (K1.out.nx kk)
 have hz12:=kk.size
 have HGP:=lH hgP
 clear kk h2 h3 B5 q0 q1 NF hgP
 have B9:=Blk.new w2 [.slice aP F.peers.length cP,.slice aM F.msgs.length cM] 56
 have kk:=Ex.new w2 (.cells #[.slice aP F.peers.length cP,.slice aM F.msgs.length cM] 56)
 obtain ⟨w3,hw3⟩:∃ w3,w3=w2.alloc (.cells #[.slice aP F.peers.length cP,.slice aM F.msgs.length cM] 56):=⟨_,rfl⟩
 obtain ⟨g9,hg9⟩:∃ g9,g9=w2.heap.size:=⟨_,rfl⟩
 replace B9:Blk w3 g9 [.slice aP F.peers.length cP,.slice aM F.msgs.length cM] 56:=by rw [hw3,hg9];exact B9
 rw [← hw3] at kk
 have Hw3:=lH hw3
 have Hg9:=lH hg9
 replace h:=h.nx kk
 replace B6:=B6.nx kk
 replace B8:=B8.nx kk
 replace FO:=FO.nx kk
 have hg9b:w2.heap.size≤g9:=by omega
 have h69:¬ g6=g9:=by have:=B6.lt;omega
 have h89:¬ g8=g9:=by omega
 have K3:=lH (K2.out.nx kk)
 have hz23:=kk.size
 clear kk hw3 hg9
 go_upto_region 2 with fail
 rw [← Hg9.out,← Hw3.out]
 clear Hg9 Hw3
 have PI:=tick1_p g6 id w3 B6
 have PL3:=lH FO.1.pl
 have p0:=B9.cell 0 _ rfl
 have FOH:=lH FO
 clear FO
 have PLx:PL w3 aP F.peers.length F.peers:=by
  obtain ⟨a',c',e',r',_⟩:=PL3.out
  cases e'
  exact r'
 have hFl:F.peers.length≤1000:=by have:=CL.out.1;have:=HL.out;omega
 have PLH:=lH PLx
 clear PL3
 go_wp2_with fail
 (with_reducible refine (idxf_pr _ _ _ EG.out _ _ _ F.peers _ PLH.out (by omega) PI).mono ?_)
 rintro e w4 ⟨rfl,kk⟩
 replace h:=h.nx kk
 replace B6:=B6.nx kk
 replace B8:=B8.nx kk
 replace B9:=B9.nx kk
 replace FOH:=lH (FOH.out.nx kk)
 replace PLH:=lH (PLH.out.nx kk)
 replace K3:=lH (K3.out.nx kk)
 have hz34:=kk.size
 clear kk PI PLx p0
 rcases idxQ_cases F.peers id with ⟨k,y,hq,hkl,hyk,hpy,hyi⟩ | ⟨hq,-⟩
 case inr =>
  have ET:=lH (TO.out hq)
  rw [hq]
  have r0:=B8.cell 0 _ rfl
  have r1:=B8.cell 1 _ rfl
  have f0:=B8.free 0
  have f1:=B8.free 1
  have p0:=B9.cell 0 _ rfl
  have p1:=B9.cell 1 _ rfl
  have B8H:=lH B8
  clear h B6 B8 B9
  go_wp2_with fail
  obtain ⟨wz,hwz⟩:∃ wz,wz=(w4.setCell ⟨g8,0,none⟩ (.slice aP F.peers.length cP)).setCell ⟨g8,1,none⟩ (.slice aM F.msgs.length cM):=⟨_,rfl⟩
  have BZ:Blk wz g8 [.slice aP F.peers.length cP,.slice aM F.msgs.length cM] 56:=by rw [hwz];exact (B8H.out.set 0 _).set 1 _
  have KB:Exb g8 w4 wz:=by rw [hwz];exact ((Exb.refl g8 _).setB (p:=⟨g8,0,none⟩) _ rfl).setB (p:=⟨g8,1,none⟩) _ rfl
  have KE:Ex w wz:=by rw [hwz];exact (K3.out.setNew (p:=⟨g8,0,none⟩) _ zg8).setNew (p:=⟨g8,1,none⟩) _ zg8
  have FF:=lH ((FOH.out.nxb hb8 KB).lower K1.out.size)
  rw [← hwz]
  have q0:=BZ.cell 0 _ rfl
  have q1:=BZ.cell 1 _ rfl
  clear r0 r1 f0 f1 p0 p1 hwz
  refine bodyPost_ret (v:=.agg #[.slice aP F.peers.length cP,.slice aM F.msgs.length cM]) (by simp [results,Tryz.results80,go_sem, *]) rfl ⟨_,_,qs,rfl,by rw [ET.out];exact FF.out,KE⟩
 have KL:=lH hkl
 have HYK:=lH hyk
 have HPY:=lH hpy
 subst hyi
 have kk0:¬ (k:Int)<0:=by omega
 rw [hq]
 clear hq hkl hyk hpy TO
 by_cases h0:hh<0
 ·have ET:=lH (TL.out (by unfold lvlN;simp;omega))
  have r0:=B8.cell 0 _ rfl
  have r1:=B8.cell 1 _ rfl
  have f0:=B8.free 0
  have f1:=B8.free 1
  have p0:=B9.cell 0 _ rfl
  have p1:=B9.cell 1 _ rfl
  have B8H:=lH B8
  clear h B6 B8 B9
  go_wp2_with fail
  obtain ⟨wz,hwz⟩:∃ wz,wz=(w4.setCell ⟨g8,0,none⟩ (.slice aP F.peers.length cP)).setCell ⟨g8,1,none⟩ (.slice aM F.msgs.length cM):=⟨_,rfl⟩
  have BZ:Blk wz g8 [.slice aP F.peers.length cP,.slice aM F.msgs.length cM] 56:=by rw [hwz];exact (B8H.out.set 0 _).set 1 _
  have KB:Exb g8 w4 wz:=by rw [hwz];exact ((Exb.refl g8 _).setB (p:=⟨g8,0,none⟩) _ rfl).setB (p:=⟨g8,1,none⟩) _ rfl
  have KE:Ex w wz:=by rw [hwz];exact (K3.out.setNew (p:=⟨g8,0,none⟩) _ zg8).setNew (p:=⟨g8,1,none⟩) _ zg8
  have FF:=lH ((FOH.out.nxb hb8 KB).lower K1.out.size)
  rw [← hwz]
  have q0:=BZ.cell 0 _ rfl
  have q1:=BZ.cell 1 _ rfl
  clear r0 r1 f0 f1 p0 p1 hwz
  refine bodyPost_ret (v:=.agg #[.slice aP F.peers.length cP,.slice aM F.msgs.length cM]) (by simp [results,Tryz.results80,go_sem, *]) rfl ⟨_,_,qs,rfl,by rw [ET.out];exact FF.out,KE⟩
 by_cases h1:hh>16
 ·have ET:=lH (TL.out (by unfold lvlN;simp;omega))
  have r0:=B8.cell 0 _ rfl
  have r1:=B8.cell 1 _ rfl
  have f0:=B8.free 0
  have f1:=B8.free 1
  have p0:=B9.cell 0 _ rfl
  have p1:=B9.cell 1 _ rfl
  have B8H:=lH B8
  clear h B6 B8 B9
  go_wp2_with fail
  obtain ⟨wz,hwz⟩:∃ wz,wz=(w4.setCell ⟨g8,0,none⟩ (.slice aP F.peers.length cP)).setCell ⟨g8,1,none⟩ (.slice aM F.msgs.length cM):=⟨_,rfl⟩
  have BZ:Blk wz g8 [.slice aP F.peers.length cP,.slice aM F.msgs.length cM] 56:=by rw [hwz];exact (B8H.out.set 0 _).set 1 _
  have KB:Exb g8 w4 wz:=by rw [hwz];exact ((Exb.refl g8 _).setB (p:=⟨g8,0,none⟩) _ rfl).setB (p:=⟨g8,1,none⟩) _ rfl
  have KE:Ex w wz:=by rw [hwz];exact (K3.out.setNew (p:=⟨g8,0,none⟩) _ zg8).setNew (p:=⟨g8,1,none⟩) _ zg8
  have FF:=lH ((FOH.out.nxb hb8 KB).lower K1.out.size)
  rw [← hwz]
  have q0:=BZ.cell 0 _ rfl
  have q1:=BZ.cell 1 _ rfl
  clear r0 r1 f0 f1 p0 p1 hwz
  refine bodyPost_ret (v:=.agg #[.slice aP F.peers.length cP,.slice aM F.msgs.length cM]) (by simp [results,Tryz.results80,go_sem, *]) rfl ⟨_,_,qs,rfl,by rw [ET.out];exact FF.out,KE⟩
 obtain ⟨m,rfl⟩:=Int.eq_ofNat_of_zero_le (show 0≤hh by omega)
 have hm16:m≤16:=by omega
 have TE:=lH (TA.out m hm16 k y HYK.out HPY.out)
 have hkl:=KL.out
 have hkl2:(k:Int)<(F.peers.length:Int):=by omega
 obtain ⟨g,hge,hgb⟩:=HGP.out (fun h0=>by rw [h0] at hkl;simp at hkl)
 subst hge
 have H0:=lH (CL.out.2.2 (by omega))
 have hMl:F.msgs.length≤10000000:=by have:=CL.out.2.1;have:=HM.out;omega
 have hIl:(introsN N y).length≤2000:=by have:=intros_len N y;have:=HL.out;omega
 have hyP:=CS.out y (List.mem_of_getElem? HYK.out)
 have HPN:Hid (∀ p∈F.peers,p.near.length≤4000000000000000000):=lH (fun p hp=>Nat.le_trans (CS.out p hp).2 (by omega))
 obtain ⟨x5,o5,b1,m1,d1,b4,m4,d4,y',he,hx5,hy',e0,e1,e2,e3,e4,s1,s4⟩:=PLH.out.rd hkl
 cases he
 obtain rfl:y=y':=Option.some.inj (HYK.out.symm.trans hy')
 simp only [Nat.zero_add] at e0 e1 e2 e3 e4
 have hl1:m1≤4000000000000000000:=by have:=s1.len;omega
 have hl4:m4≤4000000000000000000:=by have:=s4.len;omega
 have S1:=lH s1
 have S4:=lH s4
 have p0:=B9.cell 0 _ rfl
 clear hy' s1 s4 TA TL CU HPY hyP
 have hl9:=B9.lt
 have hl6:=B6.lt
 have hl8:=B8.lt
 have B11:=Blk.new w4 [.int .i64 y.id,.slice b1 m1 d1,.int .i64 y.left,.int .i64 y.right,.slice b4 m4 d4] 150
 have kk:=Ex.new w4 (.cells #[.int .i64 y.id,.slice b1 m1 d1,.int .i64 y.left,.int .i64 y.right,.slice b4 m4 d4] 150)
 obtain ⟨w5,hw5⟩:∃ w5,w5=w4.alloc (.cells #[.int .i64 y.id,.slice b1 m1 d1,.int .i64 y.left,.int .i64 y.right,.slice b4 m4 d4] 150):=⟨_,rfl⟩
 obtain ⟨g11,hg11⟩:∃ g11,g11=w4.heap.size:=⟨_,rfl⟩
 replace B11:Blk w5 g11 [.int .i64 y.id,.slice b1 m1 d1,.int .i64 y.left,.int .i64 y.right,.slice b4 m4 d4] 150:=by rw [hw5,hg11];exact B11
 rw [← hw5] at kk
 have Hw5:=lH hw5
 have Hg11:=lH hg11
 replace h:=h.nx kk
 replace B6:=B6.nx kk
 replace B8:=B8.nx kk
 replace B9:=B9.nx kk
 replace FOH:=lH (FOH.out.nx kk)
 replace PLH:=lH (PLH.out.nx kk)
 replace K3:=lH (K3.out.nx kk)
 replace S1:=lH (S1.out.nx kk)
 replace S4:=lH (S4.out.nx kk)
 have zg11:w4.heap.size≤g11:=by omega
 have h611:¬ g6=g11:=by have:=B6.lt;omega
 have h811:¬ g8=g11:=by omega
 have h911:¬ g9=g11:=by omega
 have hz45:=kk.size
 clear kk hw5 hg11
 go_upto_region 6 with fail
 rw [← Hg11.out,← Hw5.out]
 clear Hg11 Hw5
 clear e0 e1 e2 e3 e4 p0
 have p0:=B9.cell 0 _ rfl
 have y0:=B11.cell 0 _ rfl
 have y1:=B11.cell 1 _ rfl
 have y2:=B11.cell 2 _ rfl
 have y3:=B11.cell 3 _ rfl
 have y4:=B11.cell 4 _ rfl
 go_wp2_with fail
 have LT:=lH FOH.out.1.lts
 (with_reducible refine (next_p _ _ _ N _ _ _ F.peers y _ _ _ _ _ _ m _ h hn hc hm HW.out PLH.out (by omega) HPN.out S4.out hl4 hm16).mono ?_)
 rintro e w6 ⟨vX,rfl,oX,kk⟩
 obtain ⟨aX,cX,rfl,_⟩:=oX.rd (fun _=>rfl)
 replace h:=h.nx kk
 replace B6:=B6.nx kk
 replace B8:=B8.nx kk
 replace B9:=B9.nx kk
 replace B11:=B11.nx kk
 replace FOH:=lH (FOH.out.nx kk)
 replace K3:=lH (K3.out.nx kk)
 replace S1:=lH (S1.out.nx kk)
 replace S4:=lH (S4.out.nx kk)
 have OX:=lH oX
 have hz56:=kk.size
 clear kk y0 y1 y2 y3 y4 p0 PLH oX
 have y0:=B11.cell 0 _ rfl
 have y1:=B11.cell 1 _ rfl
 have y2:=B11.cell 2 _ rfl
 have y3:=B11.cell 3 _ rfl
 have y4:=B11.cell 4 _ rfl
 go_wp2_with fail
 (with_reducible refine (keep_p _ _ _ N y _ _ _ _ _ _ _ h hn hc hm S1.out S4.out hl1 hl4).mono ?_)
 rintro e w7 ⟨rfl,kk⟩
 replace h:=h.nx kk
 replace B6:=B6.nx kk
 replace B8:=B8.nx kk
 replace B9:=B9.nx kk
 replace B11:=B11.nx kk
 replace FOH:=lH (FOH.out.nx kk)
 replace K3:=lH (K3.out.nx kk)
 replace S1:=lH (S1.out.nx kk)
 replace S4:=lH (S4.out.nx kk)
 replace OX:=lH (OX.out.nx kk)
 have hz67:=kk.size
 clear kk y0 y1 y2 y3 y4
 have hl9:=B9.lt
 have hl8:=B8.lt
 have hl6:=B6.lt
 have hl11:=B11.lt
 have B13:=Blk.new w7 [.int .i64 (keepN N y).1,.int .i64 (keepN N y).2] 128
 have kk:=Ex.new w7 (.cells #[.int .i64 (keepN N y).1,.int .i64 (keepN N y).2] 128)
 obtain ⟨w8,hw8⟩:∃ w8,w8=w7.alloc (.cells #[.int .i64 (keepN N y).1,.int .i64 (keepN N y).2] 128):=⟨_,rfl⟩
 obtain ⟨g13,hg13⟩:∃ g13,g13=w7.heap.size:=⟨_,rfl⟩
 replace B13:Blk w8 g13 [.int .i64 (keepN N y).1,.int .i64 (keepN N y).2] 128:=by rw [hw8,hg13];exact B13
 rw [← hw8] at kk
 have Hw8:=lH hw8
 have Hg13:=lH hg13
 replace h:=h.nx kk
 replace B6:=B6.nx kk
 replace B8:=B8.nx kk
 replace B9:=B9.nx kk
 replace B11:=B11.nx kk
 replace FOH:=lH (FOH.out.nx kk)
 replace K3:=lH (K3.out.nx kk)
 replace S1:=lH (S1.out.nx kk)
 replace S4:=lH (S4.out.nx kk)
 replace OX:=lH (OX.out.nx kk)
 have hz78:=kk.size
 have zg13:w7.heap.size≤g13:=by omega
 have h139:¬ g13=g9:=by omega
 have zg9:w.heap.size≤g9:=by have:=K1.out.size;omega
 clear kk hw8 hg13
 go_upto_region 8 with fail
 rw [← Hg13.out,← Hw8.out]
 clear Hg13 Hw8
 have HS8:=lH h
 have B6H:=lH B6
 have B8H:=lH B8
 have B9H:=lH B9
 have B11H:=lH B11
 have B13H:=lH B13
 clear h B6 B8 B9 B11 B13
 refine wp_region_late_drew (S:=(fun x=>Chg (fun k=>k<w8.heap.size∧¬ (Value.slice aM F.msgs.length cM).ownBlock=some k) w8 x)) [7] (by kernel_rfl) (Chg.mono (Ex.refl w8).drew (fun k hk=>hk.1)) (fun hHeld=>?_)
 obtain ⟨wd,hwdx⟩:∃ wd:World,wd=World.drew w8:=⟨_,rfl⟩
 rw [← hwdx] at hHeld ⊢
 have hDrew:Ex w8 wd:=by rw [hwdx];exact (Ex.refl w8).drew
 clear hwdx
 refine tkL 0 (v:=?_) rfl (by kernel_rfl) (fun _ _ _ h=>h) (by rfl) ?y5 hHeld ?_
 case y5=>intro wq hSw;go_simp<;>rfl
 refine tkL 1 (v:=?_) rfl (by kernel_rfl) (fun _ _ _ h=>h) (by rfl) ?y8 hHeld ?_
 case y8=>intro wq hSw;(have cq:=(B9H.out.app FOH.out.2 (by decide) hSw).cell 1 _ rfl;go_simp)<;>rfl
 refine tkL 2 (v:=?_) rfl (by kernel_rfl) (fun _ _ _ h=>h) (by rfl) ?y11 hHeld ?_
 case y11=>intro wq hSw;go_simp<;>rfl
 refine tkL 3 (v:=?_) rfl (by kernel_rfl) (fun _ _ _ h=>h) (by rfl) ?y14 hHeld ?_
 case y14=>intro wq hSw;(have B11q:=B11H.out.app FOH.out.2 (by decide) hSw;have cq0:=B11q.cell 0 _ rfl;have cq1:=B11q.cell 1 _ rfl;have cq2:=B11q.cell 2 _ rfl;have cq3:=B11q.cell 3 _ rfl;have cq4:=B11q.cell 4 _ rfl;go_simp)<;>rfl
 refine rL 4 (by kernel_rfl) rfl fun K hK=>?_
 go_simp
 (with_reducible refine (intros_p _ _ _ N y _ _ _ _ _ _ _ (HS8.out.nx hDrew) hn hc hm (S1.out.nx hDrew) (S4.out.nx hDrew) hl1 hl4).mono ?_)
 rintro e wc ⟨vI,rfl,oI,kk⟩
 obtain ⟨aI,cI,rfl,rI,_,_,_,nI⟩:=oI.rd (fun _=>rfl)
 have H5:=hDrew.nx kk
 replace hHeld:Chg (fun k=>k<w8.heap.size∧¬ (Value.slice aM F.msgs.length cM).ownBlock=some k) w8 wc:=Chg.mono H5 (fun k hk=>hk.1)
 clear kk
 refine hK.out _ _ (hHeld) (fun hHeld=>?_)
 clear hK K
 refine rL 5 (by kernel_rfl) rfl fun K hK=>?_
 rw [if_pos (by rfl)]
 have o4:=FOH.out.2.nx H5
 have zs:w1.heap.size≤wc.heap.size:=by have:=H5.size;omega
 refine wp_append_rd (enc:=encS) _ (.tmp 48) (.tmp 51) 54 rfl w1.heap.size 242 (.agg #[.int .i64 0,.int .i64 0]) 2 16 Tryz.underlying54 Tryz.infoIo rfl (by omega) (by omega) _ F.msgs o4 rfl _ _ _ _ (introsN N y) rI nI (fun _=>rfl) (by simp [encS,Value.oneCell']) rfl (by omega) (by omega) zs ?_
 intro v9 w9 own9 ch0 ch1
 replace hHeld:Chg (fun k=>k<w8.heap.size∧¬ (Value.slice aM F.msgs.length cM).ownBlock=some k) w8 w9:=Chg.trans hHeld (ch0.mono (fun x hx=>⟨Nat.lt_of_lt_of_le hx.1 H5.size,hx.2⟩))
 obtain ⟨MM,hMM⟩:∃ MM,MM=F.msgs++introsN N y:=⟨_,rfl⟩
 rw [← hMM] at own9
 have HMM:=lH hMM
 clear hMM
 obtain ⟨aM9,cM9,rfl,_⟩:=own9.rd (fun _=>rfl)
 have K9:=lH (show Ex w w9 from Chg.trans (K3.out.nx H5) (ch1.mono (fun x hx=>Nat.lt_of_lt_of_le hx K1.out.size)))
 have OWN9:=lH own9
 have HHB:=lH hHeld
 clear ch0 ch1 own9 zs o4 rI nI oI H5
 refine hK.out _ _ (hHeld) (fun hHeld=>?_)
 clear hK K
 refine tkL 6 (v:=?_) rfl (by kernel_rfl) (fun _ _ _ h=>h) (by rfl) ?y49 hHeld ?_
 case y49=>intro wq hSw;go_simp<;>rfl
 refine rLL 7 (by kernel_rfl) rfl (by rfl) fun K hK=>?_
 have BQ:=B9H.out.app FOH.out.2 (by decide) HHB.out
 have cq:=BQ.cell 1 _ rfl
 have fq:=BQ.free 1
 go_simp
 clear cq fq
 refine hK.out _ _ ?_
 clear hK K
 refine wpAnyL_done (by kernel_rfl) ?_ _
 obtain ⟨wz,hwz⟩:∃ wz,wz=w9.setCell ⟨g9,1,none⟩ (.slice aM9 MM.length cM9):=⟨_,rfl⟩
 have BQ2:Blk wz g9 [.slice (some ⟨g,0,none⟩) F.peers.length cP,.slice aM9 MM.length cM9] 56:=by rw [hwz];exact BQ.set 1 _
 have kb:Exb g9 w9 wz:=by rw [hwz];exact (Exb.refl g9 _).setB (p:=⟨g9,1,none⟩) _ rfl
 have KZ:=lH (show Ex w wz from by rw [hwz];exact K9.out.setNew (p:=⟨g9,1,none⟩) _ zg9)
 have A6:=(B6H.out.app FOH.out.2 (by decide) HHB.out).nxb h69 kb
 have A8:=lH ((B8H.out.app FOH.out.2 (by decide) HHB.out).nxb h89 kb)
 have A13:=(B13H.out.app FOH.out.2 (by decide) HHB.out).nxb h139 kb
 have FP:=lH ((FOH.out.1.oth FOH.out.2 (by decide) (by decide) (by decide) HHB.out).putB BQ (by decide) (by decide) (by decide) kb)
 have FM:=lH (OWN9.out.put BQ (by decide) kb)
 have XN:=lH ((OX.out.app FOH.out.2 (by decide) HHB.out).put BQ (by decide) kb)
 have hz9:w5.heap.size≤wz.heap.size:=by have:=hHeld.size;have:=kb.size;omega
 have HSZ:=HS0.out.nx KZ.out
 rw [← hwz]
 have B9H2:=lH BQ2
 clear hwz kb BQ BQ2 hHeld hDrew OWN9 HHB OX
 have z0:=A6.cell 0 _ rfl
 have l0:=A13.cell 0 _ rfl
 have l1:=A13.cell 1 _ rfl
 go_wp2_with fail
 (with_reducible refine (refs_p _ _ _ N ⟨y.id,(keepN N y).1,(keepN N y).2,[],[]⟩ none 0 0 none 0 0 _ HSZ hn hc hm (Sl.nil _ _ _ _) (Sl.nil _ _ _ _) (by omega) (by omega)).mono ?_)
 rintro e w10 ⟨vK,rfl,oK,kk⟩
 rw [refs_kept H0.out] at oK
 obtain ⟨aK,cK,rfl,_⟩:=oK.rd (fun _=>rfl)
 replace FP:=lH (FP.out.nx kk)
 replace FM:=lH (FM.out.nx kk)
 replace A6:=A6.nx kk
 replace A13:=A13.nx kk
 obtain ⟨⟨kb1,kn1,kc1⟩,⟨nb1,nn1,nc1⟩,hqs,_,_⟩:=FP.out.get HYK.out
 obtain ⟨wc5,own5⟩:=OwnP.whole (by decide) (by decide) (by decide) FP.out hqs HYK.out (p':=tickP N (peerN F.peers) y m) (hk':=(aK,(ordN N [(keepN N y).1,(keepN N y).2] y.id).length,cK)) (hn':=(aX,(nextB N (peerN F.peers) y m).length,cX)) w5.heap.size (oK.base hz9) (XN.out.nx kk) (by omega) LT.out.1 LT.out.2
 obtain ⟨s0,t0⟩:=wc5 0 _ rfl
 obtain ⟨s1,t1⟩:=wc5 1 _ rfl
 obtain ⟨s2,t2⟩:=wc5 2 _ rfl
 obtain ⟨s3,t3⟩:=wc5 3 _ rfl
 obtain ⟨s4,t4⟩:=wc5 4 _ rfl
 rw [Nat.add_zero] at s0 t0
 have OWN5:=lH own5
 have B9x:=B9H2.out.nx kk
 have p0:=B9x.cell 0 _ rfl
 have l0:=A13.cell 0 _ rfl
 have l1:=A13.cell 1 _ rfl
 have z0:=A6.cell 0 _ rfl
 have K10:=lH (KZ.out.nx kk)
 have A8x:=lH (A8.out.nx kk)
 have h9g:¬ g9=g:=fun he=>by subst he;obtain ⟨_,_,e2⟩:=FP.out.1.blk rfl;exact blk_kind (by decide) e2 B9x
 have h8g:¬ g8=g:=by omega
 have BX:=lH B9x
 have hy2:k*5+1+1=k*5+2:=rfl
 clear kk oK own5 wc5 hqs A6 A13 XN A8 B9x B9H2 KZ HSZ
 go_upto_region 11 with fail
 obtain ⟨wy,hwy⟩:∃ wy,wy=((((w10.setCell ⟨g,k*5,none⟩ (.int .i64 y.id)).setCell ⟨g,k*5+1,none⟩ (.slice aK (ordN N [(keepN N y).1,(keepN N y).2] y.id).length cK)).setCell ⟨g,k*5+2,none⟩ (.int .i64 (keepN N y).1)).setCell ⟨g,k*5+3,none⟩ (.int .i64 (keepN N y).2)).setCell ⟨g,k*5+4,none⟩ (.slice aX (nextB N (peerN F.peers) y m).length cX):=⟨_,rfl⟩
 rw [← hwy]
 have own5:OwnPr w1.heap.size wy (.slice (some ⟨g,0,none⟩) F.peers.length cP) (qs.set k ((tickP N (peerN F.peers) y m).nums,(aK,(ordN N [(keepN N y).1,(keepN N y).2] y.id).length,cK),(aX,(nextB N (peerN F.peers) y m).length,cX))) (F.peers.set k (tickP N (peerN F.peers) y m)):=by rw [hwy];exact OWN5.out
 have ch:Chg (fun x=>x<w10.heap.size∧¬ x=g) w10 wy:=by rw [hwy];exact ((((set_chg w10 _).setCell (p:=⟨g,k*5+1,none⟩) _ (fun k hk=>hk.2)).setCell (p:=⟨g,k*5+2,none⟩) _ (fun k hk=>hk.2)).setCell (p:=⟨g,k*5+3,none⟩) _ (fun k hk=>hk.2)).setCell (p:=⟨g,k*5+4,none⟩) _ (fun k hk=>hk.2)
 have FMy:=FM.out.chg ch (fun x hx hv=>⟨hx,fun he=>by subst he;obtain ⟨_,_,e1⟩:=FM.out.blk hv;obtain ⟨_,_,e2⟩:=FP.out.1.blk rfl;exact blk_kind (by decide) e2 e1⟩)
 have FOY:=lH (show FlOwn w1.heap.size wy (.slice (some ⟨g,0,none⟩) F.peers.length cP) (.slice aM9 MM.length cM9) _ ⟨F.peers.set k (tickP N (peerN F.peers) y m),MM⟩ from ⟨own5,FMy⟩)
 have B8:=A8x.out.chg ch ⟨A8x.out.lt,h8g⟩
 have B9:=BX.out.chg ch ⟨BX.out.lt,h9g⟩
 have zgg:w.heap.size≤g:=by have:=K1.out.size;omega
 have KY:=lH (show Ex w wy from Chg.trans K10.out (ch.mono (fun x hx=>⟨Nat.lt_of_lt_of_le hx K10.out.size,fun he=>by omega⟩)))
 clear s0 s1 s2 s3 s4 t0 t1 t2 t3 t4 p0 l0 l1 z0 hwy own5 ch FMy OWN5 A8x BX
 have r0:=B8.cell 0 _ rfl
 have r1:=B8.cell 1 _ rfl
 have f0:=B8.free 0
 have f1:=B8.free 1
 have p0:=B9.cell 0 _ rfl
 have p1:=B9.cell 1 _ rfl
 have B8H:=lH B8
 clear B8 B9
 go_wp2_with fail
 obtain ⟨wz,hwz⟩:∃ wz,wz=(wy.setCell ⟨g8,0,none⟩ (.slice (some ⟨g,0,none⟩) F.peers.length cP)).setCell ⟨g8,1,none⟩ (.slice aM9 MM.length cM9):=⟨_,rfl⟩
 have BZ:Blk wz g8 [.slice (some ⟨g,0,none⟩) F.peers.length cP,.slice aM9 MM.length cM9] 56:=by rw [hwz];exact (B8H.out.set 0 _).set 1 _
 have KB:Exb g8 wy wz:=by rw [hwz];exact ((Exb.refl g8 _).setB (p:=⟨g8,0,none⟩) _ rfl).setB (p:=⟨g8,1,none⟩) _ rfl
 have KE:Ex w wz:=by rw [hwz];exact (KY.out.setNew (p:=⟨g8,0,none⟩) _ zg8).setNew (p:=⟨g8,1,none⟩) _ zg8
 have FF:=lH ((FOY.out.nxb hb8 KB).lower K1.out.size)
 rw [← hwz]
 have q0:=BZ.cell 0 _ rfl
 have q1:=BZ.cell 1 _ rfl
 clear r0 r1 f0 f1 p0 p1 hwz
 refine bodyPost_ret (v:=.agg #[.slice (some ⟨g,0,none⟩) F.peers.length cP,.slice aM9 MM.length cM9]) (by simp [results,Tryz.results80,go_sem, *]) rfl ⟨_,_,_,rfl,by rw [TE.out,← HMM.out];exact FF.out,KE⟩
theorem dbl_yes {f:Fl} {k:Nat} {m:Int×Int} {most:Nat} (hm:f.msgs[k]?=some m) (hl:f.msgs.length<most):dblF f k most=⟨f.peers,f.msgs++[m]⟩:=by
 unfold dblF
 rw [if_pos ⟨by omega,hl⟩,Int.toNat_natCast,hm]
theorem dbl_no {f:Fl} {k:Int} {most:Nat} (h:k<0∨f.msgs.length≤k.toNat∨most≤f.msgs.length):dblF f k most=f:=by
 unfold dblF
 split
 ·rename_i h1
  rw [List.getElem?_eq_none (by omega)]
 ·rfl
def DbRel (P:List Pr) (g5 n:Nat) (vm:Value) (w w2:World) (i:Value) (wr:World):Prop :=
 ∃ (j:Nat) (aP:Option Addr) (cP:Nat) (qs:List PQ),j≤n∧i=.int .i64 j∧Blk wr g5 [.slice aP j cP,vm] 56∧OwnPr w2.heap.size wr (.slice aP j cP) qs (P.take j)∧Ex w wr∧Exb g5 w2 wr
theorem db_step {P:List Pr} {g5 n j cP:Nat} {vm v9:Value} {w w3 wi wn w9:World} {aP:Option Addr} {qs:List PQ} {y:Pr} {hk hn:Hdr} (hj:j<n) (HL:P.length=n) (hS:P.take (j+1)=P.take j++[y])
  (B5N:Blk wn g5 [.slice aP j cP,vm] 56) (own:OwnPr w3.heap.size wi (.slice aP j cP) qs (P.take j)) (KN:Ex wi wn) (kw:Ex w wi) (kb:Exb g5 w3 wi) (ok:OwnL 1 encI 3 wi.heap.size wn hk.val y.known) (on:OwnL 4 encNr 158 wi.heap.size wn hn.val y.near)
  (own9:OwnW 5 encQ 150 w3.heap.size w9 v9 (qs++[(y.nums,hk,hn)])) (ch0:Chg (fun k=>k<wn.heap.size∧¬ (Value.slice aP j cP).ownBlock=some k) wn w9) (ch1:Chg (· < w3.heap.size) wn w9) (z:w.heap.size≤w3.heap.size) (zg5:w.heap.size≤g5) (hl5:g5<w3.heap.size) :
  ∃ a9 cp9,v9=.slice a9 (j+1) cp9∧w9.cell? ⟨g5,0,none⟩=some (.slice aP j cP)∧w9.frozen? ⟨g5,0,none⟩=false∧Hid (DbRel P g5 n vm w w3 (.int .i64 ((j:Int)+1)) (w9.setCell ⟨g5,0,none⟩ (.slice a9 (j+1) cp9))):=by
 have hw3:=kb.size
 have RR:=own.app (by decide) (by decide) hw3 KN ok on own9 ch0
 have hln:(P.take j++[y]).length=j+1:=by simp;omega
 obtain ⟨a9,cp9,rfl,_,_,_,_,_⟩:=RR.pl
 rw [hln] at RR ⊢
 have B9:=Blk.low B5N hl5 ch1
 refine ⟨a9,cp9,rfl,B9.cell 0 _ rfl,B9.free 0,?_⟩
 apply lH
 refine ⟨j+1,a9,cp9,qs++[(y.nums,hk,hn)],by omega,by go_num,B9.set 0 _,?_,?_,?_⟩
 ·rw [hS]
  exact RR.nxb hl5 ((Exb.refl g5 _).setB (p:=⟨g5,0,none⟩) _ rfl)
 ·have k9:Ex w w9:=Chg.trans (kw.nx KN) (Chg.mono ch1 (fun x hx=>Nat.lt_of_lt_of_le hx z))
  exact k9.setNew (p:=⟨g5,0,none⟩) _ zg5
 ·have k9:Exb g5 w3 w9:=Chg.trans (kb.nxb (KN.b g5)) (Chg.mono ch1 (fun x hx=>hx.1))
  exact k9.setB (p:=⟨g5,0,none⟩) _ rfl
theorem litIo {wp u:World} (hz:wp.heap.size≤u.heap.size) (m:Int×Int):∃ g v,g=u.heap.size∧v=u.alloc (.cells #[.int .i64 m.1,.int .i64 m.2] 242)∧Slf 2 encS wp v (some ⟨g,0,none⟩) 1 [m]∧Ex u v :=
 ⟨_,_,rfl,rfl,Slf.lit [m] rfl hz rfl (fun _=>rfl) rfl,Ex.new _ _⟩
set_option maxRecDepth 100000 in
set_option maxHeartbeats 8000000 in
theorem dbl_f (a2:Option Addr) (n2 c2:Nat) (P:List Pr) (a3:Option Addr) (n3 c3:Nat) (M:List (Int×Int)) (i:Int) (w:World) (h2:PL w a2 n2 P) (hn2:n2≤1000) (hP:SmallP P)
  (h3:Sl 2 encS w a3 n3 M) (hn3:n3≤1000000) :
  Calls Tryz.prog 82 #[.agg #[.slice a2 n2 c2,.slice a3 n3 c3],.int .i64 i] w (FlPost (dblF ⟨P,M⟩ i 4096) w):=by
 have HL:=lH h2.len
 have HM:=lH (h3.len:M.length=n3)
 have HP:=lH hP
 have HS:=lH h2
 have H3:=lH h3
 have DY:=lH (fun (k:Nat) (m:Int×Int) (hm:M[k]?=some m) hl=>dbl_yes (f:=⟨P,M⟩) (most:=4096) hm hl)
 have DN:=lH (fun (k:Int) hx=>dbl_no (f:=⟨P,M⟩) (k:=k) (most:=4096) hx)
 simp only at DY DN
 obtain ⟨g2,hg2⟩:∃ g2,g2=w.heap.size:=⟨_,rfl⟩
 obtain ⟨g4,hg4⟩:∃ g4,g4=(w.heap.size+1):=⟨_,rfl⟩
 obtain ⟨w1,hw1⟩:∃ w1,w1=((w.alloc (.cells #[.slice a2 n2 c2,.slice a3 n3 c3] 56)).alloc (.cells #[.slice none 0 0,.slice none 0 0] 56)):=⟨_,rfl⟩
 have kk:Ex w w1:=by rw [hw1];exact (((Ex.refl w).alloc (.cells #[.slice a2 n2 c2,.slice a3 n3 c3] 56)).alloc (.cells #[.slice none 0 0,.slice none 0 0] 56))
 have B2:Blk w1 g2 [.slice a2 n2 c2,.slice a3 n3 c3] 56:=by rw [hw1];simp only [hg2,hg4];have hbk:=((Blk.new w [.slice a2 n2 c2,.slice a3 n3 c3] 56).nx (Ex.new _ (.cells #[.slice none 0 0,.slice none 0 0] 56)));simpa using hbk
 have B4:Blk w1 g4 [.slice none 0 0,.slice none 0 0] 56:=by rw [hw1];simp only [hg2,hg4];have hbk:=(Blk.new (w.alloc (.cells #[.slice a2 n2 c2,.slice a3 n3 c3] 56)) [.slice none 0 0,.slice none 0 0] 56);simpa using hbk
 have Hw1:=lH hw1
 have Hg2:=lH hg2
 have Hg4:=lH hg4
 replace h3:=h3.nx kk
 have zg4:w.heap.size≤g4:=by omega
 have hb4:=B4.lt
 have K1:=lH kk
 clear kk hw1 hg2 hg4 hP h2
 go_enter Tryz.func82,Tryz.ntmps82
 go_upto_region 1 with fail
 rw [← Hw1.out,← Hg4.out,← Hg2.out]
 clear Hw1 Hg4 Hg2
 have q1:=B2.cell 1 _ rfl
 go_wp2_with fail
 (with_reducible refine (clone_in _ _ _ M _ h3 (by omega)).mono ?_)
 rintro e w2 ⟨vM,rfl,oM,kk⟩
 replace B2:=B2.nx kk
 replace B4:=B4.nx kk
 obtain ⟨aM,cM,rfl,_⟩:=oM.rd (fun _=>rfl)
 have K2:=lH (K1.out.nx kk)
 have hz12:=kk.size
 have hl2:=B2.lt
 have hl4:=B4.lt
 clear kk q1 h3
 have B5:=Blk.new w2 [.slice none 0 0,.slice aM M.length cM] 56
 have kk:=Ex.new w2 (.cells #[.slice none 0 0,.slice aM M.length cM] 56)
 obtain ⟨w3,hw3⟩:∃ w3,w3=w2.alloc (.cells #[.slice none 0 0,.slice aM M.length cM] 56):=⟨_,rfl⟩
 obtain ⟨g5,hg5⟩:∃ g5,g5=w2.heap.size:=⟨_,rfl⟩
 replace B5:Blk w3 g5 [.slice none 0 0,.slice aM M.length cM] 56:=by rw [hw3,hg5];exact B5
 rw [← hw3] at kk
 have Hw3:=lH hw3
 have Hg5:=lH hg5
 replace B2:=B2.nx kk
 replace B4:=B4.nx kk
 replace oM:=oM.nx kk
 have h25:¬ g2=g5:=by omega
 have h45:¬ g4=g5:=by omega
 have K3:=lH (K2.out.nx kk)
 have hz23:=kk.size
 have hl5:=B5.lt
 have zg5:w.heap.size≤g5:=by have:=K2.out.size;omega
 clear kk hw3 hg5
 go_upto_region 2 with fail
 rw [← Hg5.out,← Hw3.out]
 clear Hg5 Hw3
 have q0:=B2.cell 0 _ rfl
 have B2H:=lH B2
 have B4H:=lH B4
 have OM:=lH oM
 have R0:=lH (show DbRel P g5 n2 (.slice aM M.length cM) w w3 (.int .i64 0) w3 from ⟨0,none,0,[],by omega,rfl,B5,OwnP.nil _ _ _ _ _,K3.out,Exb.refl g5 _⟩)
 have B5H:=lH B5
 clear B2 B4 oM B5
 go_upto_region 3 with fail
 clear q0
 go_wp2_with fail
 go_loopw [15] (fun i wr=>DbRel P g5 n2 (.slice aM M.length cM) w w3 i wr) (fun i _=>n2-(intOf i).toNat)
 case atStart=>exact R0.out
 case round =>
  clear R0
  obtain ⟨j,aP,cP,qs,hj,rfl,B5,own,kw,kb⟩:=hrel
  obtain ⟨wi,rfl⟩:∃ wi:World,wi=wr:=⟨_,rfl⟩
  by_cases hjm:j<n2
  ·obtain ⟨x3,o3,b1,m1,d1,b4,m4,d4,y,rfl,hx3,hy,e0,e1,e2,e3,e4,s1,s4⟩:=(HS.out.nx kw).rd hjm
   have SN:Hid (P.take (j+1)=P.take j++[y]):=lH (by rw [List.take_add_one,hy];rfl)
   have hyP:=HP.out y (List.mem_of_getElem? hy)
   have hl1:m1≤17592186044416:=by have:=s1.len;omega
   have hl4:m4≤4398046511104:=by have:=s4.len;omega
   have hqs:qs.length=j:=by rw [own.2.1,List.length_take];have:=HL.out;omega
   have S1:=lH s1
   have S4:=lH s4
   have KW:=lH kw
   have KBB:=lH kb
   have OWN:=lH own
   have B5I:=lH B5
   have hwi:=kb.size
   clear hy s1 s4 kw kb own B5 hyP
   have B7:=Blk.new wi [.int .i64 y.id,.slice b1 m1 d1,.int .i64 y.left,.int .i64 y.right,.slice b4 m4 d4] 150
   have kk:=Ex.new wi (.cells #[.int .i64 y.id,.slice b1 m1 d1,.int .i64 y.left,.int .i64 y.right,.slice b4 m4 d4] 150)
   obtain ⟨w8,hw8⟩:∃ w8,w8=wi.alloc (.cells #[.int .i64 y.id,.slice b1 m1 d1,.int .i64 y.left,.int .i64 y.right,.slice b4 m4 d4] 150):=⟨_,rfl⟩
   obtain ⟨g7,hg7⟩:∃ g7,g7=wi.heap.size:=⟨_,rfl⟩
   replace B7:Blk w8 g7 [.int .i64 y.id,.slice b1 m1 d1,.int .i64 y.left,.int .i64 y.right,.slice b4 m4 d4] 150:=by rw [hw8,hg7];exact B7
   rw [← hw8] at kk
   have Hw8:=lH hw8
   have Hg7:=lH hg7
   have hg7i:wi.heap.size≤g7:=by omega
   have h57:¬ g5=g7:=by omega
   have K8:=lH kk
   clear kk hw8 hg7
   go_upto_region 5 with fail
   rw [← Hg7.out,← Hw8.out]
   clear Hg7 Hw8
   clear e0 e1 e2 e3 e4
   have hg7l:=B7.lt
   have hz8:=K8.out.size
   replace B7:=lH B7
   refine wp_region_late_drew (S:=Ex w8) [7,8,9] (by kernel_rfl) ((Ex.refl w8).drew) (fun hHeld=>?_)
   obtain ⟨wd,hwdx⟩:∃ wd:World,wd=World.drew w8:=⟨_,rfl⟩
   rw [← hwdx] at hHeld ⊢
   have hDrew:Ex w8 wd:=by rw [hwdx];exact (Ex.refl w8).drew
   clear hwdx
   refine tkL 0 (v:=?_) rfl (by kernel_rfl) (fun _ _ _ h=>h) (by rfl) ?y5 hHeld ?_
   case y5=>intro wq hSw;go_simp<;>rfl
   refine tkL 1 (v:=?_) rfl (by kernel_rfl) (fun _ _ _ h=>h) (by rfl) ?y8 hHeld ?_
   case y8=>intro wq hSw;(have cq:=(B7.out.nx hSw).cell 1 _ rfl;go_simp)<;>rfl
   refine tkL 3 (v:=?_) rfl (by kernel_rfl) (fun _ _ _ h=>h) (by rfl) ?y11 hHeld ?_
   case y11=>intro wq hSw;go_simp<;>rfl
   refine tkL 4 (v:=?_) rfl (by kernel_rfl) (fun _ _ _ h=>h) (by rfl) ?y14 hHeld ?_
   case y14=>intro wq hSw;(have cq:=(B7.out.nx hSw).cell 4 _ rfl;go_simp)<;>rfl
   refine rL 2 (by kernel_rfl) rfl fun K hK=>?_
   go_simp
   (with_reducible refine (clone_i _ _ _ _ _ ((S1.out.nx K8.out).nx hHeld) hl1).mono ?_)
   rintro e wc ⟨vc,rfl,own2,kk⟩
   (try replace own5:=own5.nx kk)
   obtain ⟨A2,C2,rfl,_,_,_,_⟩:=own2.slf (fun _=>rfl)
   replace own2:=own2.base hHeld.size
   replace hHeld:=hHeld.nx kk
   clear kk
   have BQ:=B7.out.nx hHeld
   have KZ:=hHeld.b g7
   refine hK.out _ _ (hHeld) (fun hHeld=>?_)
   clear hK K
   refine tkL 6 (v:=?_) rfl (by kernel_rfl) (fun _ _ _ h=>h) (by rfl) ?y32 hHeld ?_
   case y32=>intro wq hSw;go_simp<;>rfl
   refine rL 5 (by kernel_rfl) rfl fun K hK=>?_
   go_simp
   (with_reducible refine (clone_nr _ _ _ _ _ ((S4.out.nx K8.out).nx hHeld) hl4).mono ?_)
   rintro e wc ⟨vc,rfl,own5,kk⟩
   (try replace own2:=own2.nx kk)
   obtain ⟨A5,C5,rfl,_,_,_,_⟩:=own5.slf (fun _=>rfl)
   replace own5:=own5.base hHeld.size
   replace hHeld:=hHeld.nx kk
   clear kk
   have BQ:=B7.out.nx hHeld
   have KZ:=hHeld.b g7
   refine hK.out _ _ (hHeld) (fun hHeld=>?_)
   clear hK K
   refine rLL 7 (by kernel_rfl) rfl (by rfl) fun K hK=>?_
   have cq:=BQ.cell 1 _ rfl
   have fq:=BQ.free 1
   go_simp
   clear cq fq
   replace BQ:=BQ.set 1 (.slice A2 y.known.length C2)
   replace own2:=own2.nxb hg7l ((Exb.refl g7 _).setB (p:=⟨g7,1,none⟩) (.slice A2 y.known.length C2) rfl)
   replace own5:=own5.nxb hg7l ((Exb.refl g7 _).setB (p:=⟨g7,1,none⟩) (.slice A2 y.known.length C2) rfl)
   replace KZ:=KZ.setB (p:=⟨g7,1,none⟩) (.slice A2 y.known.length C2) rfl
   refine hK.out _ _ ?_
   clear hK K
   refine rLL 8 (by kernel_rfl) rfl (by rfl) fun K hK=>?_
   go_simp
   refine hK.out _ _ ?_
   clear hK K
   refine rLL 9 (by kernel_rfl) rfl (by rfl) fun K hK=>?_
   have cq:=BQ.cell 4 _ rfl
   have fq:=BQ.free 4
   go_simp
   clear cq fq
   replace BQ:=BQ.set 4 (.slice A5 y.near.length C5)
   replace own2:=own2.nxb hg7l ((Exb.refl g7 _).setB (p:=⟨g7,4,none⟩) (.slice A5 y.near.length C5) rfl)
   replace own5:=own5.nxb hg7l ((Exb.refl g7 _).setB (p:=⟨g7,4,none⟩) (.slice A5 y.near.length C5) rfl)
   replace KZ:=KZ.setB (p:=⟨g7,4,none⟩) (.slice A5 y.near.length C5) rfl
   refine hK.out _ _ ?_
   clear hK K
   refine wpAnyL_done (by kernel_rfl) ?_ _
   obtain ⟨wz,hwz⟩:∃ wz,wz=(wc.setCell ⟨g7,1,none⟩ (.slice A2 y.known.length C2)).setCell ⟨g7,4,none⟩ (.slice A5 y.near.length C5):=⟨_,rfl⟩
   rw [← hwz] at BQ own2 own5 KZ ⊢
   clear hwz
   have BF:Blk wz g7 [.int .i64 y.id,.slice A2 y.known.length C2,.int .i64 y.left,.int .i64 y.right,.slice A5 y.near.length C5] 150:=BQ
   have p0:=BF.cell 0 _ rfl
   have p1:=BF.cell 1 _ rfl
   have p2:=BF.cell 2 _ rfl
   have p3:=BF.cell 3 _ rfl
   have p4:=BF.cell 4 _ rfl
   have KX:Ex wi wz:=(Exl.nxb (b:=g7) (w:=wi) ⟨K8.out,hg7i⟩ KZ).1
   have B5z:=B5I.out.nx KX
   have z50:=B5z.cell 0 _ rfl
   have KW9:=lH KX
   have OP:=lH (OWN.out.nx KX)
   replace own2:=lH (own2.base hz8)
   replace own5:=lH (own5.base hz8)
   have hw3:w3.heap.size≤wi.heap.size:=hwi
   have KN:=KX.nx (Ex.new _ (.cells #[.int .i64 y.id,.slice A2 y.known.length C2,.int .i64 y.left,.int .i64 y.right,.slice A5 y.near.length C5] 150))
   have zn:=Nat.le_trans hw3 KN.size
   have B5N:=lH (B5I.out.nx KN)
   have KN:=lH KN
   clear BQ BF KZ hHeld KX hDrew B5z
   go_wp2_with (at_builtin;(refine wpList_append_W (enc:=encQ) _ rfl _ _ 53 rfl w3.heap.size 150 (.agg #[.int .i64 0,.slice none 0 0,.int .i64 0,.int .i64 0,.slice none 0 0]) 5 72 Tryz.underlying53 Tryz.infoPr rfl (by omega) (by omega) _ qs (OP.out.nx (Ex.new _ _)).row rfl _ 1 1 [(y.nums,(A2,y.known.length,C2),(A5,y.near.length,C5))] (Sl.lit _ rfl rfl encQ_len rfl) encQ_len encQ_one rfl (by omega) (by omega) zn ?_);intro v9 w9 own9 ch0 ch1 _;obtain ⟨a9,cp9,rfl,c9,f9,RRH⟩:=db_step hjm HL.out SN.out B5N.out OWN.out KN.out KW.out KBB.out (hk:=(A2,y.known.length,C2)) (hn:=(A5,y.near.length,C5)) (own2.out.nx (Ex.new _ _)) (own5.out.nx (Ex.new _ _)) own9 ch0 ch1 K3.out.size zg5 hl5;clear own9 ch0 ch1 z50 p0 p1 p2 p3 p4 B5N KN OP own2 own5)
   exact ⟨RRH.out,by simp [intOf];omega⟩
  ·obtain rfl:j=n2:=by omega
   rw [List.take_of_length_le (by rw [HL.out];exact Nat.le_refl _)] at own
   have B2:=B2H.out.nxb h25 kb
   have B4:=B4H.out.nxb h45 kb
   have OMw:=lH (OM.out.put B5H.out (by decide) kb)
   have KW:=lH kw
   have K3:=KW
   have FOH:=lH (show FlOwn w1.heap.size wi (.slice aP j cP) (.slice aM M.length cM) qs ⟨P,M⟩ from ⟨own.lower (by omega),OMw.out⟩)
   have q1:=B2.cell 1 _ rfl
   have hz3i:=kb.size
   clear kw kb own B2H B4H OM HS HP B5H hj hjm
   by_cases h0:i<0
   ·have ET:=lH (DN.out i (.inl h0))
    have r0:=B4.cell 0 _ rfl
    have r1:=B4.cell 1 _ rfl
    have f0:=B4.free 0
    have f1:=B4.free 1
    have p0:=B5.cell 0 _ rfl
    have p1:=B5.cell 1 _ rfl
    have B8H:=lH B4
    clear B2 B4 B5
    go_wp2_with fail
    obtain ⟨wz,hwz⟩:∃ wz,wz=(wi.setCell ⟨g4,0,none⟩ (.slice aP j cP)).setCell ⟨g4,1,none⟩ (.slice aM M.length cM):=⟨_,rfl⟩
    have BZ:Blk wz g4 [.slice aP j cP,.slice aM M.length cM] 56:=by rw [hwz];exact (B8H.out.set 0 _).set 1 _
    have KB:Exb g4 wi wz:=by rw [hwz];exact ((Exb.refl g4 _).setB (p:=⟨g4,0,none⟩) _ rfl).setB (p:=⟨g4,1,none⟩) _ rfl
    have KE:Ex w wz:=by rw [hwz];exact (KW.out.setNew (p:=⟨g4,0,none⟩) _ zg4).setNew (p:=⟨g4,1,none⟩) _ zg4
    have FF:=lH ((FOH.out.nxb hb4 KB).lower K1.out.size)
    rw [← hwz]
    have q0:=BZ.cell 0 _ rfl
    have q1:=BZ.cell 1 _ rfl
    clear r0 r1 f0 f1 p0 p1 hwz
    refine bodyPost_ret (v:=.agg #[.slice aP j cP,.slice aM M.length cM]) (by simp [results,Tryz.results82,go_sem, *]) rfl ⟨_,_,qs,rfl,by rw [ET.out];exact FF.out,KE⟩
   obtain ⟨k,rfl⟩:=Int.eq_ofNat_of_zero_le (show 0≤i by omega)
   by_cases hk:k<n3
   case neg =>
    have ET:=lH (DN.out k (.inr (.inl (by have:=HM.out;omega))))
    have h1:¬ (k:Int)<(n3:Int):=by omega
    have r0:=B4.cell 0 _ rfl
    have r1:=B4.cell 1 _ rfl
    have f0:=B4.free 0
    have f1:=B4.free 1
    have p0:=B5.cell 0 _ rfl
    have p1:=B5.cell 1 _ rfl
    have B8H:=lH B4
    clear B2 B4 B5
    go_wp2_with fail
    obtain ⟨wz,hwz⟩:∃ wz,wz=(wi.setCell ⟨g4,0,none⟩ (.slice aP j cP)).setCell ⟨g4,1,none⟩ (.slice aM M.length cM):=⟨_,rfl⟩
    have BZ:Blk wz g4 [.slice aP j cP,.slice aM M.length cM] 56:=by rw [hwz];exact (B8H.out.set 0 _).set 1 _
    have KB:Exb g4 wi wz:=by rw [hwz];exact ((Exb.refl g4 _).setB (p:=⟨g4,0,none⟩) _ rfl).setB (p:=⟨g4,1,none⟩) _ rfl
    have KE:Ex w wz:=by rw [hwz];exact (KW.out.setNew (p:=⟨g4,0,none⟩) _ zg4).setNew (p:=⟨g4,1,none⟩) _ zg4
    have FF:=lH ((FOH.out.nxb hb4 KB).lower K1.out.size)
    rw [← hwz]
    have q0:=BZ.cell 0 _ rfl
    have q1:=BZ.cell 1 _ rfl
    clear r0 r1 f0 f1 p0 p1 hwz
    refine bodyPost_ret (v:=.agg #[.slice aP j cP,.slice aM M.length cM]) (by simp [results,Tryz.results82,go_sem, *]) rfl ⟨_,_,qs,rfl,by rw [ET.out];exact FF.out,KE⟩
   have h1:(k:Int)<(n3:Int):=by omega
   by_cases hl:n3<4096
   case neg =>
    have ET:=lH (DN.out k (.inr (.inr (by have:=HM.out;omega))))
    have h2:¬ (n3:Int)<4096:=by omega
    have r0:=B4.cell 0 _ rfl
    have r1:=B4.cell 1 _ rfl
    have f0:=B4.free 0
    have f1:=B4.free 1
    have p0:=B5.cell 0 _ rfl
    have p1:=B5.cell 1 _ rfl
    have B8H:=lH B4
    clear B2 B4 B5
    go_wp2_with fail
    obtain ⟨wz,hwz⟩:∃ wz,wz=(wi.setCell ⟨g4,0,none⟩ (.slice aP j cP)).setCell ⟨g4,1,none⟩ (.slice aM M.length cM):=⟨_,rfl⟩
    have BZ:Blk wz g4 [.slice aP j cP,.slice aM M.length cM] 56:=by rw [hwz];exact (B8H.out.set 0 _).set 1 _
    have KB:Exb g4 wi wz:=by rw [hwz];exact ((Exb.refl g4 _).setB (p:=⟨g4,0,none⟩) _ rfl).setB (p:=⟨g4,1,none⟩) _ rfl
    have KE:Ex w wz:=by rw [hwz];exact (KW.out.setNew (p:=⟨g4,0,none⟩) _ zg4).setNew (p:=⟨g4,1,none⟩) _ zg4
    have FF:=lH ((FOH.out.nxb hb4 KB).lower K1.out.size)
    rw [← hwz]
    have q0:=BZ.cell 0 _ rfl
    have q1:=BZ.cell 1 _ rfl
    clear r0 r1 f0 f1 p0 p1 hwz
    refine bodyPost_ret (v:=.agg #[.slice aP j cP,.slice aM M.length cM]) (by simp [results,Tryz.results82,go_sem, *]) rfl ⟨_,_,qs,rfl,by rw [ET.out];exact FF.out,KE⟩
   have h2:(n3:Int)<4096:=by omega
   obtain ⟨x8,o8,m,he8,hx8,hmk,hc8⟩:=H3.out.at hk
   subst he8
   have e0:=hc8 0 _ rfl
   have e1:=hc8 1 _ rfl
   rw [Nat.add_zero] at e0
   have ET:=lH (DY.out k m hmk (by have:=HM.out;omega))
   have C0:Hid (∀ wq,Chg (fun x=>x<wi.heap.size∧¬ (Value.slice aM M.length cM).ownBlock=some x) wi wq→wq.cell? ⟨x8,o8+k*2,none⟩=some (.int .i64 m.1)∧wq.cell? ⟨x8,o8+k*2+1,none⟩=some (.int .i64 m.2)):=lH (fun wq kq=>by
    have c0:=Chg.cellv KW.out e0 hx8
    have c1:=Chg.cellv KW.out e1 hx8
    have hx9:x8<wi.heap.size∧¬ (Value.slice aM M.length cM).ownBlock=some x8:=⟨Nat.lt_of_lt_of_le hx8 KW.out.size,fun hh=>by have:=(OMw.out.lt x8 hh).1;have:=K1.out.size;omega⟩
    exact ⟨Chg.cellv kq c0 hx9,Chg.cellv kq c1 hx9⟩)
   have hML:M.length≤1000000:=by have:=HM.out;omega
   clear hc8 e0 e1 hmk DY DN H3
   go_upto_region 9 with fail
   have B2H:=lH B2
   have B4H:=lH B4
   have B5H:=lH B5
   clear B2 B4 B5 q1
   refine wp_region_late_drew (S:=(fun x=>Chg (fun k=>k<wi.heap.size∧¬ (Value.slice aM M.length cM).ownBlock=some k) wi x)) [10] (by kernel_rfl) (Chg.mono (Ex.refl wi).drew (fun k hk=>hk.1)) (fun hHeld=>?_)
   obtain ⟨wd,hwdx⟩:∃ wd:World,wd=World.drew wi:=⟨_,rfl⟩
   rw [← hwdx] at hHeld ⊢
   have hDrew:Ex wi wd:=by rw [hwdx];exact (Ex.refl wi).drew
   clear hwdx
   refine tkL 0 (v:=?_) rfl (by kernel_rfl) (fun _ _ _ h=>h) (by rfl) ?y5 hHeld ?_
   case y5=>intro wq hSw;go_simp<;>rfl
   refine tkL 1 (v:=?_) rfl (by kernel_rfl) (fun _ _ _ h=>h) (by rfl) ?y8 hHeld ?_
   case y8=>intro wq hSw;(have cq:=(B5H.out.app OMw.out (by decide) hSw).cell 1 _ rfl;go_simp)<;>rfl
   refine tkL 2 (v:=?_) rfl (by kernel_rfl) (fun _ _ _ h=>h) (by rfl) ?y11 hHeld ?_
   case y11=>intro wq hSw;go_simp<;>rfl
   refine tkL 3 (v:=?_) rfl (by kernel_rfl) (fun _ _ _ h=>h) (by rfl) ?y14 hHeld ?_
   case y14=>intro wq hSw;(have cq:=(B2H.out.app OMw.out (by decide) hSw).cell 1 _ rfl;go_simp)<;>rfl
   refine tkL 4 (v:=?_) rfl (by kernel_rfl) (fun _ _ _ h=>h) (by rfl) ?y17 hHeld ?_
   case y17=>intro wq hSw;go_simp<;>rfl
   refine tkL 5 (v:=?_) rfl (by kernel_rfl) (fun _ _ _ h=>h) (by rfl) ?y20 hHeld ?_
   case y20=>intro wq hSw;go_simp<;>rfl
   refine tkL 6 (v:=?_) rfl (by kernel_rfl) (fun _ _ _ h=>h) (by rfl) ?y23 hHeld ?_
   case y23=>intro wq hSw;(obtain ⟨cq0,cq1⟩:=C0.out _ hSw;go_simp)<;>rfl
   refine rL 7 (by kernel_rfl) rfl fun K hK=>?_
   go_simp
   obtain ⟨gx,wq,hgx,hwq,SX,kk⟩:=litIo (wp:=wi) (u:=wd) hDrew.size m
   rw [← hgx,← hwq]
   clear hgx hwq
   have H5:=hDrew.nx kk
   replace hHeld:Chg (fun k=>k<wi.heap.size∧¬ (Value.slice aM M.length cM).ownBlock=some k) wi wq:=Chg.mono H5 (fun k hk=>hk.1)
   clear kk
   refine hK.out _ _ (hHeld) (fun hHeld=>?_)
   clear hK K
   refine rL 8 (by kernel_rfl) rfl fun K hK=>?_
   rw [if_pos (by rfl)]
   have rx:=OMw.out.nx H5
   have zbase:w1.heap.size≤wq.heap.size:=by have:=H5.size;omega
   refine wp_append_rda (enc:=encS) _ (.tmp 50) (.tmp 56) 54 rfl w1.heap.size 242 (.agg #[.int .i64 0,.int .i64 0]) 2 16 Tryz.underlying54 Tryz.infoIo rfl (by omega) (by omega) _ M rx rfl _ _ 1 1 [m] SX (fun h=>by cases h) (fun _=>rfl) (by simp [encS,Value.oneCell']) rfl (by omega) (by omega) zbase ?_
   intro va wa A ch0 ch1 hva
   obtain ⟨MM,hMM⟩:∃ MM,MM=M++[m]:=⟨_,rfl⟩
   rw [← hMM] at A
   have HMM:=lH hMM
   clear hMM
   obtain ⟨A9,C9,rfl,_,_,_,_⟩:=A.rd (fun _=>rfl)
   replace hHeld:Chg (fun k=>k<wi.heap.size∧¬ (Value.slice aM M.length cM).ownBlock=some k) wi wa:=Chg.trans hHeld (ch0.mono (fun x hx=>⟨Nat.lt_of_lt_of_le hx.1 H5.size,hx.2⟩))
   have HA:=lH hHeld
   have KA:=lH (show Ex w wa from Chg.trans (KW.out.nx H5) (ch1.mono (fun x hx=>Nat.lt_of_lt_of_le hx K1.out.size)))
   have AH:=lH A
   clear ch0 ch1 hva rx H5 zbase SX A
   refine hK.out _ _ (hHeld) (fun hHeld=>?_)
   clear hK K
   refine tkL 9 (v:=?_) rfl (by kernel_rfl) (fun _ _ _ h=>h) (by rfl) ?y58 hHeld ?_
   case y58=>intro wq hSw;go_simp<;>rfl
   refine rLL 10 (by kernel_rfl) rfl (by rfl) fun K hK=>?_
   have BQ:=B5H.out.app OMw.out (by decide) HA.out
   have cq:=BQ.cell 1 _ rfl
   have fq:=BQ.free 1
   go_simp
   clear cq fq
   refine hK.out _ _ ?_
   clear hK K
   refine wpAnyL_done (by kernel_rfl) ?_ _
   obtain ⟨wy,hwy⟩:∃ wy,wy=wa.setCell ⟨g5,1,none⟩ (.slice A9 MM.length C9):=⟨_,rfl⟩
   rw [← hwy]
   have kb:Exb g5 wa wy:=by rw [hwy];exact (Exb.refl g5 _).setB (p:=⟨g5,1,none⟩) _ rfl
   have B5:Blk wy g5 [.slice aP j cP,.slice A9 MM.length C9] 56:=by rw [hwy];exact BQ.set 1 _
   have B4:=(B4H.out.app OMw.out (by decide) HA.out).nxb h45 kb
   have FPy:=(FOH.out.1.oth OMw.out (by decide) (by decide) (by decide) HA.out).putB BQ (by decide) (by decide) (by decide) kb
   have FMy:=AH.out.put BQ (by decide) kb
   have FOY:=lH (show FlOwn w1.heap.size wy (.slice aP j cP) (.slice A9 MM.length C9) qs ⟨P,MM⟩ from ⟨FPy,FMy⟩)
   have KY:=lH (show Ex w wy from by rw [hwy];exact KA.out.setNew (p:=⟨g5,1,none⟩) _ zg5)
   clear hwy kb BQ FPy FMy hHeld hDrew AH HA
   have r0:=B4.cell 0 _ rfl
   have r1:=B4.cell 1 _ rfl
   have f0:=B4.free 0
   have f1:=B4.free 1
   have p0:=B5.cell 0 _ rfl
   have p1:=B5.cell 1 _ rfl
   have B8H:=lH B4
   clear B4 B5
   go_wp2_with fail
   obtain ⟨wz,hwz⟩:∃ wz,wz=(wy.setCell ⟨g4,0,none⟩ (.slice aP j cP)).setCell ⟨g4,1,none⟩ (.slice A9 MM.length C9):=⟨_,rfl⟩
   have BZ:Blk wz g4 [.slice aP j cP,.slice A9 MM.length C9] 56:=by rw [hwz];exact (B8H.out.set 0 _).set 1 _
   have KB:Exb g4 wy wz:=by rw [hwz];exact ((Exb.refl g4 _).setB (p:=⟨g4,0,none⟩) _ rfl).setB (p:=⟨g4,1,none⟩) _ rfl
   have KE:Ex w wz:=by rw [hwz];exact (KY.out.setNew (p:=⟨g4,0,none⟩) _ zg4).setNew (p:=⟨g4,1,none⟩) _ zg4
   have FF:=lH ((FOY.out.nxb hb4 KB).lower K1.out.size)
   rw [← hwz]
   have q0:=BZ.cell 0 _ rfl
   have q1:=BZ.cell 1 _ rfl
   clear r0 r1 f0 f1 p0 p1 hwz
   refine bodyPost_ret (v:=.agg #[.slice aP j cP,.slice A9 MM.length C9]) (by simp [results,Tryz.results82,go_sem, *]) rfl ⟨_,_,qs,rfl,by rw [ET.out,← HMM.out];exact FF.out,KE⟩
end Go.Proofs.YthcholmhmcpooaaGreatDoor
