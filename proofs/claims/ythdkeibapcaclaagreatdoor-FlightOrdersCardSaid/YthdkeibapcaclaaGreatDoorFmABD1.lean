/- Shared texts. -/
import Derived.Test.YthdkeibapcaclaaGreatDoorFmAll32
import Derived.Test.YthdkeibapcaclaaGreatDoorFmAll33
set_option linter.unusedSimpArgs false
set_option linter.unusedVariables false

namespace Go.Proofs.YthdkeibapcaclaaGreatDoor
open Go.RowKit
section
variable {N:List Nd} {f:Fl}
theorem edge_same {P Q:List Pr} (h:∀ x∈N,peerN P x.id=peerN Q x.id) (u v:Int):EdgeN N P u v↔EdgeN N Q u v:=by
 unfold EdgeN
 constructor
 ·rintro ⟨⟨x,hx,rfl⟩,hv⟩
  exact ⟨⟨x,hx,rfl⟩,by rwa [← h x hx]⟩
 ·rintro ⟨⟨x,hx,rfl⟩,hv⟩
  exact ⟨⟨x,hx,rfl⟩,by rwa [h x hx]⟩
theorem connF_of {g:Fl} (h:ConnF N f) (hr:∀ a b,EdgeF N f a b→Cl (EdgeF N g) a b):ConnF N g:=⟨h.1,fun x hx y hy=>(h.2 x hx y hy).mono hr⟩
theorem copF_conn (h:ConnF N f):ConnF N (copF N f):=by
 refine connF_of h fun a b e=>Cl.one (.inl ?_)
 rcases e with e | e
 ·exact .inl ((edge_same (fun x hx=>(cop_peer h.1 hx).symm) a b).1 e)
 ·exact .inr (by rw [cop_msgs h.1];exact e)
theorem mem_erase_or {α:Type}:∀ (l:List α) (k:Nat) (m x:α),l[k]?=some m→x∈l→x=m∨x∈l.eraseIdx k
 | a::l,0,m,x,hk,hx=>by
  simp at hk
  subst hk
  rcases List.mem_cons.1 hx with h | h
  ·exact .inl h
  ·exact .inr h
 | a::l,k+1,m,x,hk,hx=>by
  simp at hk
  rcases List.mem_cons.1 hx with h | h
  ·exact .inr (by rw [List.eraseIdx_cons_succ,h];simp)
  ·rcases mem_erase_or l k m x hk h with h | h
   ·exact .inl h
   ·exact .inr (by rw [List.eraseIdx_cons_succ];exact List.mem_cons_of_mem _ h)
theorem nums_more {p:Pr} {v b:Int} (hv:v∈refsN N p) (h0:checkN N=0):v∈refsN N { p with known:=ordN N (p.known++[b]) p.id }:=by
 obtain ⟨h1,h2,h3⟩:=(mem_refs h0).1 hv
 refine (mem_refs h0).2 ⟨h1,h2,?_⟩
 unfold numsP at h3 ⊢
 simp only [List.mem_append] at h3 ⊢
 rcases h3 with (h | h) | h
 ·exact .inl (.inl (mem_ord.2 ⟨h1,h2,by simp [h]⟩))
 ·exact .inl (.inr h)
 ·exact .inr h
theorem del_conn (hc:ConnF N f) (k:Int):ConnF N (delF N f k):=by
 have h0:=hc.1
 by_cases hk:0≤k
 ·obtain ⟨j,rfl⟩:=Int.eq_ofNat_of_zero_le hk
  cases hm:f.msgs[j]? with
  | none =>
   have:delF N f j=copF N f:=by unfold delF;rw [if_pos hk,cop_msgs h0,Int.toNat_natCast,hm]
   rw [this]
   exact copF_conn hc
  | some m =>
   have hms:(delF N f j).msgs=f.msgs.eraseIdx j:=by rw [del_some h0 hm]
   refine connF_of hc fun a b e=>?_
   rcases e with ⟨⟨y,hy,rfl⟩,hv⟩ | ⟨hmm,⟨y,hy,rfl⟩,hb⟩
   ·refine Cl.one (.inl (.inl ⟨⟨y,hy,rfl⟩,?_⟩))
    rw [del_peer h0 hm hy]
    split
    ·have:=nums_more (b:=m.2) hv h0
     rw [show (peerN f.peers y.id).id=y.id from peer_id _ _] at this
     show b∈refsN N ⟨(peerN f.peers y.id).id,(peerN f.peers y.id).left,(peerN f.peers y.id).right,ordN N ((peerN f.peers y.id).known++[m.2]) y.id,(peerN f.peers y.id).near⟩
     rw [show (peerN f.peers y.id).id=y.id from peer_id _ _]
     exact this
    ·exact hv
   ·rcases mem_erase_or _ _ _ _ hm hmm with h | h
    ·subst h
     by_cases he:y.id=b
     ·rw [← he];exact .refl _
     ·refine Cl.one (.inl (.inl ⟨⟨y,hy,rfl⟩,?_⟩))
      rw [del_peer h0 hm hy,if_pos ⟨(find_node h0).2 hb,he,rfl⟩]
      refine (mem_refs h0).2 ⟨hb,by show b≠(peerN f.peers y.id).id;rw [peer_id];exact fun h=>he h.symm,?_⟩
      unfold numsP
      exact List.mem_append_left _ (List.mem_append_left _ (mem_ord.2 ⟨hb,fun h=>he h.symm,by simp⟩))
    ·exact Cl.one (.inl (.inr ⟨by rw [hms];exact h,⟨y,hy,rfl⟩,hb⟩))
 ·have:delF N f k=copF N f:=by unfold delF;rw [if_neg hk]
  rw [this]
  exact copF_conn hc
end
section
variable {N:List Nd} {f g:Fl}
theorem dbl_peers (f:Fl) (k:Int) (most:Nat):(dblF f k most).peers=f.peers:=by
 unfold dblF
 split
 ·split<;>rfl
 ·rfl
theorem dbl_len (f:Fl) (k:Int) (most:Nat):(dblF f k most).msgs.length≤f.msgs.length+1∧f.msgs.length≤(dblF f k most).msgs.length:=by
 unfold dblF
 split
 ·split
  ·exact ⟨by omega,by omega⟩
  ·show (f.msgs++[_]).length≤_∧_≤(f.msgs++[_]).length
   simp
 ·exact ⟨by omega,by omega⟩
end
section
variable {N:List Nd} {f g:Fl}
theorem dbl_sm (h:SmF f) (k:Int) (most:Nat):SmF (dblF f k most):=by
 unfold SmF
 rw [dbl_peers]
 exact h
theorem cop_msgs_len (N:List Nd) (f:Fl):(copF N f).msgs.length≤f.msgs.length:=by
 unfold copF
 split
 ·exact Nat.le_refl _
 ·exact Nat.zero_le _
theorem del_msgs_len (N:List Nd) (f:Fl) (k:Int):(delF N f k).msgs.length≤f.msgs.length:=by
 have hc:=cop_msgs_len N f
 unfold delF
 split
 ·split
  ·exact hc
  ·show ((copF N f).msgs.eraseIdx _).length≤_
   have:=(List.eraseIdx_sublist (copF N f).msgs k.toNat).length_le
   omega
 ·exact hc
theorem Flies.sk {B:Nat} (h:Flies N B f):∀ p∈f.peers,p.known.length≤1000000:=by have:=h.sm;unfold SmF at this;exact this.2
theorem Flies.del {B:Nat} (hN:N.length≤10) (h:Flies N B f) (k:Int):Flies N B (delF N f k) :=
 ⟨del_conn h.conn k,del_sm (by omega) h.sm k,norm_lenF (norm_del h.conn.1 f k),Nat.le_trans (del_msgs_len N f k) h.msgs⟩
end
theorem normal_yes {N:List Nd} {P:List Pr} (h:(checkN N==0)=true):normalN N P=(sortN N).map fun x=>peerN P x.id:=by unfold normalN;rw [if_pos (by simpa using h)]
theorem normal_not {N:List Nd} {P:List Pr} (h:(checkN N==0)=false):normalN N P=[]:=by unfold normalN;rw [if_neg (by simpa using h)]
set_option maxRecDepth 100000 in
set_option maxHeartbeats 8000000 in
theorem normal_r (a:Option Addr) (n c:Nat) (N:List Nd) (a2:Option Addr) (n2 c2:Nat) (P:List Pr) (w:World) (h:Sl 3 encN w a n N) (hn:n≤1000) (h2:PL w a2 n2 P) (hn2:n2≤1000000) (hP:SmallP P) :
  Calls Tryz.prog 107 #[.slice a n c,.slice a2 n2 c2] w (PlPost (normalN N P) w):=by
 have HL:=lH h.len
 have HP:=lH hP
 have EX:=Ex.refl w
 clear hP
 go_enter Tryz.func107,Tryz.ntmps107
 go_wp2_with fail
 (with_reducible refine (is_r _ _ _ N _ h (by omega)).mono ?_)
 rintro e w1 ⟨rfl,kk⟩
 replace h:=h.nx kk
 replace h2:=h2.nx kk
 replace EX:=EX.nx kk
 clear kk
 cases hc:(checkN N==0) with
 | false =>
  have E0:=lH (normal_not (P:=P) hc)
  have EX:=lH EX
  clear h h2 hc
  go_wp2_with fail
  go_ret
  exact ⟨_,[],rfl,by rw [E0.out];exact OwnP.nil _ _ _ _ _,EX.out⟩
 | true =>
  have E0:=lH (normal_yes (P:=P) hc)
  clear hc
  go_wp2_with fail
  (with_reducible refine (sort_r _ _ _ N _ h hn).mono ?_)
  rintro e w3 ⟨a3,n3,c3,rfl,r3,kk⟩
  replace h2:=h2.nx kk
  replace EX:=EX.nx kk
  clear kk
  have r3:Slf 3 encN w1 w3 a3 n3 _:=r3
  have R3:=lH r3.sl
  have hn3:n3≤1000:=by have:=r3.len;have:=sortN_length N;have:=HL.out;omega
  obtain ⟨S,hS⟩:∃ S,S=sortN N:=⟨_,rfl⟩
  rw [← hS] at R3 E0
  have HSL:=lH R3.out.len
  have H2:=lH h2
  have z0:=EX.size
  have EX:=lH EX
  clear h h2 hS r3
  go_wp2_with fail
  go_loopw [5,7] (fun o i wr=>NoRel S P w3 o i wr) (fun _ i _=>n3-(intOf i).toNat)
  case atStart=>exact ⟨0,[],by omega,rfl,OwnP.nil _ _ _ _ _,Ex.refl _⟩
  case round =>
   obtain ⟨j,qs,hj,rfl,own,ki⟩:=hrel
   rw [HSL.out] at hj
   obtain ⟨wi,rfl⟩:∃ wi:World,wi=wr:=⟨_,rfl⟩
   by_cases hjm:j<n3
   ·obtain ⟨x3,o3,x,rfl,hx3,hy,hc3⟩:=(R3.out.nx ki).at hjm
    have e0:wi.cell? ⟨x3,o3+j*3,none⟩=some (.int .i64 x.id):=hc3 0 _ rfl
    have SN:=lH (no_snoc (P:=P) hy)
    have hql:qs.length=j:=by rw [own.2.1,List.length_map,List.length_take,HSL.out];omega
    have hwi:=ki.size
    have KI:=lH ki
    have OWN:=lH own
    clear hy own ki hc3
    go_wp2_with fail
    (with_reducible refine (peer_r _ _ _ P x.id _ (H2.out.nx KI.out) hn2 HP.out).mono ?_)
    rintro e w6 ⟨hk,hnr,rfl,own2,own5,kk⟩
    generalize peerN P x.id=p at SN own2 own5 ⊢
    have K6:=lH kk
    have OP:=lH (OWN.out.nx kk)
    have KN:=kk.nx (Ex.new _ (.cells #[.int .i64 p.id,hk.val,.int .i64 p.left,.int .i64 p.right,hnr.val] 36))
    have zn:=Nat.le_trans hwi KN.size
    have o2:=lH own2
    have o5:=lH own5
    obtain ⟨A2,M2,C2⟩:=hk
    obtain ⟨A5,M5,C5⟩:=hnr
    simp only [Hdr.val] at KN zn ⊢
    clear e0 kk own2 own5
    go_wp2_with (at_builtin;(refine wpList_append_W (enc:=encQ) _ rfl _ _ 24 rfl w3.heap.size 36 (.agg #[.int .i64 0,.slice none 0 0,.int .i64 0,.int .i64 0,.slice none 0 0]) 5 72 Tryz.underlying24 Tryz.infoPr rfl (by omega) (by omega) _ qs (OP.out.nx (Ex.new _ _)).row rfl _ 1 1 [(p.nums,(A2,M2,C2),(A5,M5,C5))] (Sl.lit _ rfl rfl encQ_len rfl) encQ_len encQ_one rfl (by omega) (by omega) zn ?_);intro v9 w9 own9 ch0 ch1 _)
    have RR:=OWN.out.app (p:=p) (hk:=(A2,M2,C2)) (hn:=(A5,M5,C5)) (by decide) (by decide) hwi KN (o2.out.nx (Ex.new _ _)) (o5.out.nx (Ex.new _ _)) own9 ch0
    exact ⟨⟨j+1,_,by rw [HSL.out];omega,by go_num,by rw [SN.out];exact RR,Chg.trans (KI.out.nx KN) ch1⟩,by simp [intOf];omega⟩
   ·obtain rfl:j=n3:=by omega
    rw [List.take_of_length_le (by rw [HSL.out];exact Nat.le_refl _)] at own
    have OWN:=lH (own.lower z0)
    have KI:=lH (EX.out.nx ki)
    clear own ki hj hjm
    go_wp2_with fail
    go_ret
    exact ⟨_,qs,rfl,by rw [E0.out];exact OWN.out,KI.out⟩
set_option maxRecDepth 100000 in
set_option maxHeartbeats 4000000 in
theorem new19_r (a:Option Addr) (n c:Nat) (N:List Nd) (a2:Option Addr) (n2 c2:Nat) (P:List Pr) (w:World) (h:Sl 3 encN w a n N) (hn:n≤1000) (h2:PL w a2 n2 P) (hn2:n2≤1000000) (hP:SmallP P) :
  Calls Tryz.prog 49 #[.slice a n c,.slice a2 n2 c2] w (FlPost ⟨normalN N P,[]⟩ w):=by
 have SM:=lH hP
 have B4:=Blk.new w [.slice none 0 0,.slice none 0 0] 27
 have kk:=Ex.new w (.cells #[.slice none 0 0,.slice none 0 0] 27)
 obtain ⟨w1,hw1⟩:∃ w1,w1=w.alloc (.cells #[.slice none 0 0,.slice none 0 0] 27):=⟨_,rfl⟩
 obtain ⟨g4,hg4⟩:∃ g4,g4=w.heap.size:=⟨_,rfl⟩
 replace B4:Blk w1 g4 [.slice none 0 0,.slice none 0 0] 27:=by rw [hw1,hg4];exact B4
 rw [← hw1] at kk
 have Hw1:=lH hw1
 have Hg4:=lH hg4
 replace h:=h.nx kk
 replace h2:=h2.nx kk
 have zg4:w.heap.size≤g4:=by omega
 have hb4:=B4.lt
 have K1:=lH kk
 clear kk hw1 hg4 hP
 go_enter Tryz.func49,Tryz.ntmps49
 go_upto_region 1 with fail
 rw [← Hg4.out,← Hw1.out]
 clear Hg4 Hw1
 go_wp2_with fail
 (with_reducible refine (normal_r _ _ _ N _ _ _ P _ h hn h2 hn2 SM.out).mono ?_)
 rintro e w2 ⟨vP,qs,rfl,oP,kk⟩
 replace B4:=B4.nx kk
 obtain ⟨aP,cP,rfl,_,_,_,_,_⟩:=oP.pl
 have r0:=B4.cell 0 _ rfl
 have r1:=B4.cell 1 _ rfl
 have f0:=B4.free 0
 have f1:=B4.free 1
 have K2:=lH (K1.out.nx kk)
 have OP:=lH oP
 have B4H:=lH B4
 clear kk h h2 oP B4
 go_wp2_with fail
 obtain ⟨wz,hwz⟩:∃ wz,wz=(w2.setCell ⟨g4,0,none⟩ (.slice aP (normalN N P).length cP)).setCell ⟨g4,1,none⟩ (.slice none 0 0):=⟨_,rfl⟩
 have BZ:Blk wz g4 [.slice aP (normalN N P).length cP,.slice none 0 0] 27:=by rw [hwz];exact (B4H.out.set 0 _).set 1 _
 have KB:Exb g4 w2 wz:=by rw [hwz];exact ((Exb.refl g4 _).setB (p:=⟨g4,0,none⟩) _ rfl).setB (p:=⟨g4,1,none⟩) _ rfl
 have KE:Ex w wz:=by rw [hwz];exact (K2.out.setNew (p:=⟨g4,0,none⟩) _ zg4).setNew (p:=⟨g4,1,none⟩) _ zg4
 have FO:=lH (show FlOwn w.heap.size wz (.slice aP (normalN N P).length cP) (.slice none 0 0) qs ⟨normalN N P,[]⟩ from ⟨(OP.out.nxb hb4 KB).lower K1.out.size,OwnL.nil _ _ _ _ _⟩)
 rw [← hwz]
 have q0:=BZ.cell 0 _ rfl
 have q1:=BZ.cell 1 _ rfl
 clear r0 r1 f0 f1 hwz
 refine bodyPost_ret (v:=.agg #[.slice aP (normalN N P).length cP,.slice none 0 0]) (by simp [results,Tryz.results49,go_sem, *]) rfl ⟨_,_,qs,rfl,FO.out,KE⟩
def MdRel (b g6 g7:Nat) (P:List Pr) (vP:Value) (qs:List PQ) (w:World) (i:Value) (wr:World):Prop :=
 ∃ (q:Nat) (M:List (Int×Int)) (aM:Option Addr) (cM:Nat),M.length+q≤4∧i=.int .i64 q∧Blk wr g7 [vP,.slice aM M.length cM] 27∧FlOwn w.heap.size wr vP (.slice aM M.length cM) qs ⟨P,M⟩ ∧
  Blk wr g6 [.slice none 0 0,.slice none 0 0] 27∧TK wr b∧Exb b w wr
def MdPost (b:Nat) (P:List Pr) (w:World) (e:Ending) (w':World):Prop:=∃ (v m:Value) (qs:List PQ) (M:List (Int×Int)),e=.returned (.agg #[v,m])∧FlOwn w.heap.size w' v m qs ⟨P,M⟩∧M.length≤4∧TK w' b∧Exb b w w'
theorem FlOwn.msl {base:Nat} {w:World} {v m:Value} {qs:List PQ} {F:Fl} (h:FlOwn base w v m qs F):∃ aP cP aM cM,v=.slice aP F.peers.length cP∧m=.slice aM F.msgs.length cM:=by
 obtain ⟨aP,cP,aM,cM,e1,e2,_⟩:=h.two
 exact ⟨aP,cP,aM,cM,e1,e2⟩
set_option maxRecDepth 100000 in
set_option maxHeartbeats 8000000 in
theorem made_x {b:Nat} (a:Option Addr) (n c:Nat) (N:List Nd) (a2:Option Addr) (n2 c2:Nat) (P:List Pr) (w:World) (h:TK w b) (hs:Slb 3 encN b w a n N) (hn:n≤1000) (hi:∀ x∈N,I64 x.id) (h2:PLb b w a2 n2 P) (hn2:n2≤1000000) (hP:SmallP P) :
  Calls Tryz.prog 13 #[.pointer (some ⟨b,0,none⟩),.slice a n c,.slice a2 n2 c2] w (MdPost b (normalN N P) w):=by
 have hbw:=h.lt
 have HI:=lH hi
 have SM:=lH hP
 have HS:=lH (fun wq (kq:Exb b w wq)=>hs.nxb kq)
 clear hi hP
 have B6:=Blk.new w [.slice none 0 0,.slice none 0 0] 27
 have kk:=Ex.new w (.cells #[.slice none 0 0,.slice none 0 0] 27)
 obtain ⟨w1,hw1⟩:∃ w1,w1=w.alloc (.cells #[.slice none 0 0,.slice none 0 0] 27):=⟨_,rfl⟩
 obtain ⟨g6,hg6⟩:∃ g6,g6=w.heap.size:=⟨_,rfl⟩
 replace B6:Blk w1 g6 [.slice none 0 0,.slice none 0 0] 27:=by rw [hw1,hg6];exact B6
 rw [← hw1] at kk
 have Hw1:=lH hw1
 have Hg6:=lH hg6
 replace h:=h.nx kk
 replace hs:=hs.nxb (kk.b b)
 replace h2:=h2.nxb (kk.b b)
 have zg6:w.heap.size≤g6:=by omega
 have K1:=lH kk
 clear kk hw1 hg6
 go_enter Tryz.func13,Tryz.ntmps13
 go_upto_region 1 with fail
 rw [← Hg6.out,← Hw1.out]
 clear Hg6 Hw1
 go_wp2_with fail
 (with_reducible refine (new19_r _ _ _ N _ _ _ P _ hs.sl hn h2.pl hn2 SM.out).mono ?_)
 rintro e w2 ⟨vP,vM,qs,rfl,FO,kk⟩
 replace h:=h.nx kk
 replace hs:=hs.nxb (kk.b b)
 replace B6:=B6.nx kk
 have K2:=lH (K1.out.nx kk)
 have hz1:=K1.out.size
 obtain ⟨aP,cP,aM,cM,rfl,rfl⟩:=FO.msl
 clear kk h2
 generalize hvP:Value.slice aP (⟨(normalN N P),[]⟩:Fl).peers.length cP=vP at FO ⊢
 replace hvP:Value.slice aP (normalN N P).length cP=vP:=hvP
 replace FO:FlOwn w1.heap.size w2 vP (.slice aM 0 cM) qs ⟨(normalN N P),[]⟩:=FO
 have hl6:=B6.lt
 have B7:=Blk.new w2 [vP,.slice aM 0 cM] 27
 have kk:=Ex.new w2 (.cells #[vP,.slice aM 0 cM] 27)
 obtain ⟨w3,hw3⟩:∃ w3,w3=w2.alloc (.cells #[vP,.slice aM 0 cM] 27):=⟨_,rfl⟩
 obtain ⟨g7,hg7⟩:∃ g7,g7=w2.heap.size:=⟨_,rfl⟩
 replace B7:Blk w3 g7 [vP,.slice aM 0 cM] 27:=by rw [hw3,hg7];exact B7
 rw [← hw3] at kk
 have Hw3:=lH hw3
 have Hg7:=lH hg7
 replace h:=h.nx kk
 replace hs:=hs.nxb (kk.b b)
 replace B6:=B6.nx kk
 replace FO:=FO.nx kk
 have K3:=lH (K2.out.nx kk)
 have zg7:w.heap.size≤g7:=by have:=K2.out.size;omega
 have h67:¬ g6=g7:=by omega
 have hb7:¬ g7=b:=by omega
 have hb6:¬ g6=b:=by omega
 clear kk hw3 hg7
 subst hvP
 go_upto_region 2 with fail
 rw [← Hg7.out,← Hw3.out]
 clear Hg7 Hw3
 have FO:=FO.lower (base':=w.heap.size) hz1
 go_wp2_with fail
 refine (next_t 5 _ h (by omega) (by omega)).mono ?_
 clear h
 rintro e w4 ⟨q,rfl,q0,q1,T,kk⟩
 obtain ⟨q,rfl⟩:=Int.eq_ofNat_of_zero_le q0
 have R0:=lH (show MdRel b g6 g7 (normalN N P) (.slice aP (normalN N P).length cP) qs w (.int .i64 (q:Int)) w4 from ⟨q,[],aM,cM,by simp;omega,rfl,B7.nxb hb7 kk,FO.nxb hbw kk,B6.nxb hb6 kk,T,(K3.out.b b).nxb kk⟩)
 clear kk T B6 B7 FO hs q0 q1
 go_wp2_with fail
 go_loopw [8] (fun i wr=>MdRel b g6 g7 (normalN N P) (.slice aP (normalN N P).length cP) qs w i wr) (fun i _=>(intOf i).toNat)
 case atStart=>exact R0.out
 case round =>
  clear R0
  obtain ⟨q,M,aQ,cQ,hq,rfl,B7,FO,B6,T,kw⟩:=hrel
  obtain ⟨wi,rfl⟩:∃ wi:World,wi=wr:=⟨_,rfl⟩
  have KW:=lH kw
  have FOH:=lH FO
  have TH:=lH T
  have B7H:=lH B7
  have B6H:=lH B6
  have hl6:=B6.lt
  have hl7:=B7.lt
  have zwi:=kw.size
  clear kw FO T B6 B7
  by_cases hq0:0<q
  ·have hML:M.length≤4:=by omega
   go_upto_region 5 with fail
   refine wp_region_late_drew (S:=Exb b wi) [10,12] (by kernel_rfl) ((Exb.refl b wi).drew) (fun hHeld=>?_)
   obtain ⟨wd,hwdx⟩:∃ wd:World,wd=World.drew wi:=⟨_,rfl⟩
   rw [← hwdx] at hHeld ⊢
   have hDrew:Ex wi wd:=by rw [hwdx];exact (Ex.refl wi).drew
   clear hwdx
   refine tkL 0 (v:=?_) rfl (by kernel_rfl) (fun _ _ _ h=>h) (by rfl) ?y1x0q5 (by assumption) ?z1x0q5
   case y1x0q5=>intro wq hSw;(go_simp);(try with_reducible rfl)
   refine tkL 1 (v:=?_) rfl (by kernel_rfl) (fun _ _ _ h=>h) (by rfl) ?y1x1q8 (by assumption) ?z1x1q8
   case y1x1q8=>intro wq hSw;(have cq:=(B7H.out.nxb hb7 hSw).cell 1 _ rfl;go_simp);(try with_reducible rfl)
   refine tkL 2 (v:=?_) rfl (by kernel_rfl) (fun _ _ _ h=>h) (by rfl) ?y1x2q11 (by assumption) ?z1x2q11
   case y1x2q11=>intro wq hSw;(go_simp);(try with_reducible rfl)
   refine tkL 3 (v:=?_) rfl (by kernel_rfl) (fun _ _ _ h=>h) (by rfl) ?y1x3q14 (by assumption) ?z1x3q14
   case y1x3q14=>intro wq hSw;(go_simp);(try with_reducible rfl)
   refine tkL 5 (v:=?_) rfl (by kernel_rfl) (fun _ _ _ h=>h) (by rfl) ?y1x5q17 (by assumption) ?z1x5q17
   case y1x5q17=>intro wq hSw;(go_simp);(try with_reducible rfl)
   refine tkL 6 (v:=?_) rfl (by kernel_rfl) (fun _ _ _ h=>h) (by rfl) ?y1x6q20 (by assumption) ?z1x6q20
   case y1x6q20=>intro wq hSw;(go_simp);(try with_reducible rfl)
   refine wpAnyL_ready (rs:=[4]) (by kernel_rfl) (by simp) ?_
   refine AllReadyL.cons (o:=⟨_,_,_,_,_,_⟩) rfl (fun K hK=>?_) AllReadyL.nil
   go_simp
   refine (id_t _ _ _ N _ (TH.out.nx hDrew) (HS.out _ (KW.out.nxb hHeld)) hn HI.out).mono ?_
   rintro e wa ⟨r1,rfl,hr1,T,kk⟩
   replace hHeld:=hHeld.nxb kk
   clear kk
   refine hK.out _ _ (hHeld) (fun hHeld=>?_)
   clear hK K
   refine wpAnyL_ready (rs:=[7]) (by kernel_rfl) (by simp) ?_
   refine AllReadyL.cons (o:=⟨_,_,_,_,_,_⟩) rfl (fun K hK=>?_) AllReadyL.nil
   go_simp
   refine (id_t _ _ _ N _ T (HS.out _ (KW.out.nxb hHeld)) hn HI.out).mono ?_
   clear T
   rintro e wc ⟨r2,rfl,hr2,T,kk⟩
   replace hHeld:=hHeld.nxb kk
   clear kk
   refine hK.out _ _ (hHeld) (fun hHeld=>?_)
   clear hK K
   refine tkL 8 (v:=?_) rfl (by kernel_rfl) (fun _ _ _ h=>h) (by rfl) ?y1x8q44 (by assumption) ?z1x8q44
   case y1x8q44=>intro wq hSw;(go_simp);(try with_reducible rfl)
   refine wpAnyL_ready (rs:=[9]) (by kernel_rfl) (by simp) ?_
   refine AllReadyL.cons (o:=⟨_,_,_,_,_,_⟩) rfl (fun K hK=>?_) AllReadyL.nil
   go_simp
   obtain ⟨gx,wq,hgx,hwq,SX,kk⟩:=litIo (wp:=wi) (u:=wc) hHeld.size (r1,r2)
   rw [← hgx,← hwq]
   clear hgx hwq
   replace T:=T.nx kk
   replace hHeld:=hHeld.nxb (kk.b b)
   clear kk
   refine hK.out _ _ (hHeld) (fun hHeld=>?_)
   clear hK K
   refine wpAnyL_ready (rs:=[10]) (by kernel_rfl) (by simp) ?_
   refine AllReadyL.consL (o:=⟨_,_,_,_,_,_⟩) rfl (by rfl) (fun K hK=>?_) AllReadyL.nil
   rw [if_pos (by rfl)]
   have rx:=FOH.out.2.nxb hbw hHeld
   have zbase:w.heap.size≤wq.heap.size:=by have:=hHeld.size;omega
   refine wp_append_rda (enc:=encS) _ (.tmp 19) (.tmp 27) 25 rfl w.heap.size 78 (.agg #[.int .i64 0,.int .i64 0]) 2 16 Tryz.underlying25 Tryz.infoIo rfl (by omega) (by omega) _ M rx rfl _ _ 1 1 [(r1,r2)] SX (fun h=>by cases h) (fun _=>rfl) (by simp [encS,Value.oneCell']) rfl (by omega) (by omega) zbase ?_
   intro va wa A ch0 ch1 hva
   obtain ⟨MM,hMM⟩:∃ MM,MM=M++[(r1,r2)]:=⟨_,rfl⟩
   rw [← hMM] at A
   have HMM:Hid (MM.length=M.length+1):=lH (by rw [hMM];simp)
   clear hMM
   obtain ⟨A9,C9,rfl,_,_,_,_⟩:=A.rd (fun _=>rfl)
   have BQ:=lH ((B7H.out.nxb hb7 hHeld).app rx (by decide) ch0)
   have BQ6:=lH ((B6H.out.nxb hb6 hHeld).app rx (by decide) ch0)
   have FPQ:=lH ((FOH.out.1.nxb hbw hHeld).oth rx (by decide) (by decide) (by decide) ch0)
   have T9:=lH (TP.chg T ch1 (fun x hx=>by omega))
   have KA:=lH (show Exb b w wa from Chg.trans (KW.out.nxb hHeld) (ch1.mono (fun x hx=>hx.1)))
   have AH:=lH A
   clear ch0 ch1 hva rx zbase SX A T
   refine hK.out _ _ ?_
   clear hK K
   refine wpAnyL_takeP (i:=11) (oi:=⟨_,_,_,_,_,_⟩) (v:=?_) rfl (by kernel_rfl) (by kernel_rfl) (by kernel_rfl) (fun _ _ _ h=>h) (Or.inl ⟨by rfl,?y1x11q81⟩) ?z1x11q81
   case y1x11q81=>intro wq hSw;(go_simp);(try with_reducible rfl)
   refine wpAnyL_ready (rs:=[12]) (by kernel_rfl) (by simp) ?_
   refine AllReadyL.consL (o:=⟨_,_,_,_,_,_⟩) rfl (by rfl) (fun K hK=>?_) AllReadyL.nil
   have cq:=BQ.out.cell 1 _ rfl
   have fq:=BQ.out.free 1
   go_simp
   clear cq fq
   refine hK.out _ _ ?_
   clear hK K
   refine wpAnyL_done (by kernel_rfl) ?_ _
   obtain ⟨wy,hwy⟩:∃ wy,wy=wa.setCell ⟨g7,1,none⟩ (.slice A9 MM.length C9):=⟨_,rfl⟩
   rw [← hwy]
   have kb:Exb g7 wa wy:=by rw [hwy];exact (Exb.refl g7 _).setB (p:=⟨g7,1,none⟩) _ rfl
   have B7:Blk wy g7 [.slice aP (normalN N P).length cP,.slice A9 MM.length C9] 27:=by rw [hwy];exact BQ.out.set 1 _
   have B6:=BQ6.out.nxb h67 kb
   have FPy:=FPQ.out.putB BQ.out (by decide) (by decide) (by decide) kb
   have FMy:=AH.out.put BQ.out (by decide) kb
   have RR:=lH (show MdRel b g6 g7 (normalN N P) (.slice aP (normalN N P).length cP) qs w (.int .i64 ((q:Int)-1)) wy from ⟨q-1,MM,A9,C9,by have:=HMM.out;omega,by rw [show ((q-1:Nat):Int)=(q:Int)-1 by omega],B7,⟨FPy,FMy⟩,B6,by rw [hwy];exact TK.set T9.out _ (by show b<g7;omega),by rw [hwy];exact KA.out.setNew (p:=⟨g7,1,none⟩) _ zg7⟩)
   clear hwy kb BQ BQ6 B6 B7 FPQ FPy FMy hHeld hDrew AH KA T9
   go_wp2_with fail
   exact ⟨RR.out,by simp [intOf];omega⟩
  ·obtain rfl:q=0:=by omega
   have r0:=B7H.out.cell 0 _ rfl
   have r1:=B7H.out.cell 1 _ rfl
   have p0:=B6H.out.cell 0 _ rfl
   have p1:=B6H.out.cell 1 _ rfl
   have f0:=B6H.out.free 0
   have f1:=B6H.out.free 1
   go_wp2_with fail
   obtain ⟨wz,hwz⟩:∃ wz,wz=(wi.setCell ⟨g6,0,none⟩ (.slice aP (normalN N P).length cP)).setCell ⟨g6,1,none⟩ (.slice aQ M.length cQ):=⟨_,rfl⟩
   have BZ:Blk wz g6 [.slice aP (normalN N P).length cP,.slice aQ M.length cQ] 27:=by rw [hwz];exact (B6H.out.set 0 _).set 1 _
   have KB:Exb g6 wi wz:=by rw [hwz];exact ((Exb.refl g6 _).setB (p:=⟨g6,0,none⟩) _ rfl).setB (p:=⟨g6,1,none⟩) _ rfl
   have KE:Exb b w wz:=by rw [hwz];exact (KW.out.setNew (p:=⟨g6,0,none⟩) _ zg6).setNew (p:=⟨g6,1,none⟩) _ zg6
   have TE:TK wz b:=by rw [hwz];exact (TH.out.set (p:=⟨g6,0,none⟩) _ (by show b<g6;omega)).set (p:=⟨g6,1,none⟩) _ (by show b<g6;omega)
   have FF:=lH (FOH.out.putB B6H.out (by decide) (by decide) (by decide) (by decide) KB)
   rw [← hwz]
   have s0:=BZ.cell 0 _ rfl
   have s1:=BZ.cell 1 _ rfl
   clear r0 r1 f0 f1 p0 p1 hwz
   refine bodyPost_ret (v:=.agg #[.slice aP (normalN N P).length cP,.slice aQ M.length cQ]) (by simp [results,Tryz.results13,go_sem, *]) rfl ⟨_,_,qs,M,rfl,FF.out,by omega,TE,KE⟩
theorem few_smallF {P:List Pr} (h:FewQ 100 200 P):SmF ⟨P,[]⟩:=⟨fun p hp=>by have:=h p hp;omega,fun p hp=>by have:=h p hp;omega⟩
theorem few_smF {N:List Nd} {P:List Pr} (h:FewQ 100 200 P) (M:List (Int×Int)):SmF ⟨normalN N P,M⟩:=by
 have key:∀ p∈normalN N P,p.known.length≤100∧p.near.length≤200:=fun p hp=>by
  unfold normalN at hp
  split at hp
  ·obtain ⟨x,_,rfl⟩:=List.mem_map.1 hp
   unfold peerN
   cases hf:P.find? fun p=>p.id==x.id with
   | none=>exact ⟨Nat.zero_le _,Nat.zero_le _⟩
   | some q=>exact h q (List.mem_of_find?_eq_some hf)
  ·cases hp
 exact ⟨fun p hp=>by have:=key p hp;omega,fun p hp=>by have:=key p hp;omega⟩
end Go.Proofs.YthdkeibapcaclaaGreatDoor
