/- Shared texts. -/
import Derived.Deep.LoopGhost
import Derived.Test.YthcholmhmcpooaaGreatDoorWAll23
set_option linter.unusedSimpArgs false
set_option linter.unusedVariables false

namespace Go.Proofs.YthcholmhmcpooaaGreatDoor
open Go.RowKit Go.Maps
theorem inQ_ty {base g:Nat} {w:World} {v:Value} {qs:List (Int×Hdr)} {L:List Lkd} {cs:List Value} {ty:TypeId} (h:OwnLk base w v qs L) (B:Blk w g cs ty) (hne:ty≠128):¬ InQ qs g:=by
 rintro ⟨j,r,hr,hg⟩
 obtain ⟨_,cur,e1⟩:=OwnN.blk h hr hg
 unfold Blk at B
 rw [B] at e1
 simp at e1
 exact hne e1.2
def ExL (qs:List (Int×Hdr)) (gm:Nat) (w w':World):Prop:=Chg (fun y=>y<w.heap.size∧¬ y=gm∧¬ InQ qs y) w w'
theorem ExL.nxL {qs:List (Int×Hdr)} {gm:Nat} {w w1 w2:World} (h:ExL qs gm w w1) (k:ExL qs gm w1 w2):ExL qs gm w w2:=Chg.trans h (Chg.mono k (fun _ hk=>⟨Nat.lt_of_lt_of_le hk.1 h.size,hk.2⟩))
theorem ExL.ex {qs:List (Int×Hdr)} {gm:Nat} {w w':World} (k:Ex w w'):ExL qs gm w w':=Chg.mono k (fun _ hk=>hk.1)
theorem ExL.q {qs:List (Int×Hdr)} {gm:Nat} {w w':World} (k:Exq qs w w'):ExL qs gm w w':=Chg.mono k (fun _ hk=>⟨hk.1,hk.2.2⟩)
theorem ExL.b {qs:List (Int×Hdr)} {gm:Nat} {w w':World} (k:Exb gm w w'):ExL qs gm w w':=Chg.mono k (fun _ hk=>⟨hk.1,hk.2.1⟩)
def LdRel (S:List Nd) (m gm:Nat) (w1:World) (o c i:Value) (wr:World):Prop :=
 ∃ (k:Nat) (qs:List (Int×Hdr)) (f:Nat→Nat→Option Nat) (cnt:Int),k≤S.length∧i=.int .i64 k∧c=.int .i64 cnt∧OwnLk w1.heap.size wr o qs (buildN (S.take k) (m:Int)).1∧PlM wr gm (k*(m+1)) f∧LastF S m k 0 f∧Exb gm w1 wr
def LeRel (S:List Nd) (m gm k:Nat) (x:Nd) (w1 w4:World) (o:Value) (qs:List (Int×Hdr)) (c i:Value) (wr:World):Prop :=
 ∃ (j:Nat) (f:Nat→Nat→Option Nat) (cnt:Int),j≤m+1∧i=.int .i64 j∧c=.int .i64 cnt∧OwnLk w1.heap.size wr o qs (curN S m k j x)∧PlM wr gm (k*(m+1)+j) f∧LastF S m k j f∧ExL qs gm w4 wr
theorem litZ (base M1:Nat) (hM:M1≤17) (u:World) (hb:base≤u.heap.size):∃ g v,g=u.heap.size∧v=u.alloc (.cells ((List.replicate M1 ((0,0):Int×Int)).flatMap encS).toArray 128) ∧
  OwnL 2 encS 128 base v (.slice (some ⟨g,0,none⟩) M1 M1) (List.replicate M1 ((0,0):Int×Int))∧Ex u v∧u.heap.size≤g:=by
 have:=OwnL.lit (sz:=2) (enc:=encS) (e:=128) (base:=base) (w:=u) (List.replicate M1 ((0,0):Int×Int)) (fun _=>rfl) hb (by rw [List.length_replicate];unfold maxLen;omega) (cs:=_) rfl
 rw [List.length_replicate] at this
 exact ⟨_,_,rfl,rfl,this,Ex.new _ _,Nat.le_refl _⟩
theorem build_nilL (h:Nat):(buildN [] (h:Int)).1=[]:=by
 unfold buildN
 split
 ·rfl
 ·split
  ·rfl
  ·rfl
theorem plcs_len (wd m:Nat):(plcs wd m).length=m:=by unfold plcs;simp
theorem plcs_at {wd m j:Nat} {p:Nat×Nat} (h:(plcs wd m)[j]?=some p):p=(j,wd % 2 ^ j):=by
 unfold plcs at h
 rw [List.getElem?_map] at h
 cases hr:(List.range m)[j]? with
 | none=>rw [hr] at h;cases h
 | some i =>
  rw [hr] at h
  have:=List.getElem?_eq_some_iff.1 hr
  obtain ⟨h1,h2⟩:=this
  rw [List.getElem_range] at h2
  subst h2
  simpa using h.symm
theorem lk_hdr {base g len cap:Nat} {w:World} {qs:List (Int×Hdr)} {L:List Lkd} (h:OwnLk base w (.slice (some ⟨g,0,none⟩) len cap) qs L) {p j n:Nat} {id:Int} {R:List (Int×Int)} {q:Int×Int} (hp:L[p]?=some (id,R)) (hj:R[j]?=some q) (hn:R.length=n) :
  ∃ g' cap',g<w.heap.size∧¬ InQ qs g∧w.cell? ⟨g,p*2,none⟩=some (.int .i64 id)∧w.cell? ⟨g,p*2+1,none⟩=some (.slice (some ⟨g',0,none⟩) n cap')∧InQ qs g' ∧
   w.cell? ⟨g',j*2,none⟩=some (.int .i64 q.1)∧w.cell? ⟨g',j*2+1,none⟩=some (.int .i64 q.2)∧w.frozen? ⟨g',j*2,none⟩=false∧w.frozen? ⟨g',j*2+1,none⟩=false ∧
   (∀ u:Int,OwnLk base (w.setCell ⟨g',j*2,none⟩ (.int .i64 u)) (.slice (some ⟨g,0,none⟩) len cap) qs (L.set p (id,R.set j (u,q.2)))) ∧
   ∀ u:Int,OwnLk base (w.setCell ⟨g',j*2+1,none⟩ (.int .i64 u)) (.slice (some ⟨g,0,none⟩) len cap) qs (L.set p (id,R.set j (q.1,u))):=by
 obtain ⟨g0,cap0,g',cap',e,h1,h2,h3,h4,h5,h6,h7,h8,h9,h10,h11,h12⟩:=lk_at h hp hj
 have e':=e
 simp only [Value.slice.injEq,Option.some.injEq,Addr.mk.injEq,and_true,true_and] at e'
 obtain ⟨rfl,_,_⟩:=e'
 subst hn
 exact ⟨g',cap',h1,h3,h4,h5,h6,h7,h8,h9,h10,h11,h12⟩
def LdPost (L:List Lkd) (w:World) (e:Ending) (w':World):Prop:=∃ v qs cnt,e=.returned (.tuple #[v,.int .i64 cnt,.int .i64 0])∧OwnLk w.heap.size w' v qs L∧Ex w w'
set_option maxRecDepth 100000 in
set_option maxHeartbeats 16000000 in
theorem load_p (a:Option Addr) (n c:Nat) (N:List Nd) (m:Nat) (w:World) (h:Sl 3 encN w a n (sortN N)) (hn:n≤1000) (hc:n≤c) (hm:c≤maxLen) (h0:checkN N=0) (hm16:m≤16) (hw:∀ x∈N,x.word<4294967296) :
  Calls Tryz.prog 11 #[.slice a n c,.int .i64 m] w (LdPost (buildN N (m:Int)).1 w):=by
 have C0:=lH h0
 have HW:=lH hw
 have HN:Hid ((sortN N).length=n):=lH h.len
 have HS:=lH h
 have c1:Hid (checkN (sortN N)=0):=lH (sort_check h0)
 have hmm:=@run_makeMap Tryz.prog
 have d1:¬ (m:Int)<0:=by omega
 have d2:¬ (m:Int)>16:=by omega
 clear h0 hw h
 go_enter Tryz.func11,Tryz.ntmps11
 go_wp2_with fail
 (with_reducible refine (check_p _ _ _ (sortN N) _ HS.out (by omega) hc hm).mono ?_)
 rintro e v1 ⟨rfl,kk⟩
 rw [c1.out]
 have K1:=lH kk
 clear kk
 go_wp2_with fail
 (with_reducible refine (sort_p _ _ _ (sortN N) _ (HS.out.nx K1.out) (by omega)).mono ?_)
 rintro e v2 ⟨v,S',rfl,OS,⟨hp,hsrt⟩,kk⟩
 have hSe:S'=sortN N:=(sortN_unique (check_keys c1.out) hp hsrt).trans (sortN_unique (check_keys C0.out) ((sortN_perm _).trans (sortN_perm N)) (sortN_asc _))
 subst hSe
 obtain ⟨a5,c5,rfl,r5,hc5,hm5⟩:=OS.sl3 (fun _=>rfl)
 rw [HN.out] at r5 hc5 ⊢
 have K2:=lH (K1.out.nx kk)
 clear OS hp hsrt kk
 go_wp2_with fail
 (with_reducible refine (eqn_p _ _ _ _ _ (sortN N) _ (HS.out.nx K2.out) r5 (by omega)).mono ?_)
 rintro e v3 ⟨rfl,kk⟩
 have K3:=lH (K2.out.nx kk)
 clear r5 kk
 obtain ⟨w1,hw1⟩:∃ w1,w1=v3.alloc (.map #[] 0):=⟨_,rfl⟩
 obtain ⟨gm,hgm⟩:∃ gm,gm=v3.heap.size:=⟨_,rfl⟩
 have k1:Ex v3 w1:=by rw [hw1];exact Ex.new _ _
 have MI:PlM w1 gm 0 (fun _ _=>none):=by rw [hw1,hgm];exact PlM.made v3
 have hgl:=MI.lt
 have hz3:=K3.out.size
 have hgw:w.heap.size≤gm:=by omega
 have HSB:=lH (fun wq (kq:Exb gm w1 wq)=>(((HS.out.nx K3.out).slb (Nat.le_of_eq hgm.symm)).nxb (k1.b gm)).nxb kq)
 have KW1:=lH (K3.out.nx k1)
 have H1:=lH hw1
 have H2:=lH hgm
 obtain ⟨S,hS⟩:∃ S,S=sortN N:=⟨_,rfl⟩
 rw [← hS] at HSB HN
 have SE:=lH hS
 have hSn:S.length=n:=HN.out
 have R0:=lH (show LdRel S m gm w1 (.slice none 0 0) (.int .i64 0) (.int .i64 0) w1 from ⟨0,[],_,0,by omega,rfl,rfl,by rw [List.take_zero,build_nilL];exact OwnN.nil _ _ _ _ _ _ _ _,by rw [Nat.zero_mul];exact MI,lastF_zero S m,Exb.refl _ _⟩)
 clear hw1 hgm k1 MI hS hSn
 go_upto_region 8 with fail
 rw [← H2.out,← H1.out]
 clear H1 H2 hmm
 go_wp2_with fail
 go_loopw [8,9,36] (fun o c i wr=>LdRel S m gm w1 o c i wr) (fun _ _ i _=>n-(intOf i).toNat)
 case atStart=>exact R0.out
 case round =>
  clear R0
  obtain ⟨k,qs,f,cnt,hk,rfl,rfl,own,MI,LF,kw⟩:=hrel
  obtain ⟨wi,rfl⟩:∃ wi:World,wi=wr:=⟨_,rfl⟩
  have hkl:k≤n:=by have:=HN.out;omega
  have OWN:=lH own
  have MIH:=lH MI
  have LFH:=lH LF
  have KW:=lH kw
  have zw:=kw.size
  clear own MI LF hk
  by_cases hkn:k<n
  ·obtain ⟨x5,o5,x,rfl,hx5,hx,hcc⟩:=(HSB.out _ kw).sl.at hkn
   have e0:wi.cell? ⟨x5,o5+k*3,none⟩=some (.int .i64 x.id):=hcc 0 _ rfl
   have e1:wi.cell? ⟨x5,o5+k*3+1,none⟩=some (.string x.key):=hcc 1 _ rfl
   have e2:wi.cell? ⟨x5,o5+k*3+1+1,none⟩=some (.int .u32 x.word):=by simpa [Nat.add_assoc] using hcc 2 _ rfl
   have e2':wi.cell? ⟨x5,o5+k*3+2,none⟩=some (.int .u32 x.word):=hcc 2 _ rfl
   have HX:Hid ((sortN N)[k]?=some x):=lH (by rw [← SE.out];exact hx)
   have hxN:x∈N:=(sortN_perm N).subset (List.mem_of_getElem? HX.out)
   have hxw:=HW.out x hxN
   have hql:qs.length=k:=by
    rw [OWN.out.2.1]
    have:=congrArg List.length (build_fst (take_check C0.out k) hm16)
    rw [List.length_map,List.length_map,sort_take C0.out k,List.length_take,← SE.out,HN.out] at this
    rw [SE.out] at this
    rw [SE.out,this]
    omega
   obtain ⟨M1,hM1⟩:∃ M1,M1=m+1:=⟨_,rfl⟩
   have HM1:=lH hM1
   have hM17:M1≤17:=by omega
   have wrm:IntKind.i64.wrap ((m:Int)+1)=(m:Int)+1:=IntWalk.i64_in _ (by omega)
   clear hcc hx kw hxN hM1
   have B11:=Blk.new wi [.int .i64 x.id,.string x.key,.int .u32 x.word] 36
   have kk:=Ex.new wi (.cells #[.int .i64 x.id,.string x.key,.int .u32 x.word] 36)
   obtain ⟨w2,hw2⟩:∃ w2,w2=wi.alloc (.cells #[.int .i64 x.id,.string x.key,.int .u32 x.word] 36):=⟨_,rfl⟩
   obtain ⟨g11,hg11⟩:∃ g11,g11=wi.heap.size:=⟨_,rfl⟩
   replace B11:Blk w2 g11 [.int .i64 x.id,.string x.key,.int .u32 x.word] 36:=by rw [hw2,hg11];exact B11
   rw [← hw2] at kk
   have Hw2:=lH hw2
   have Hg11:=lH hg11
   have K5:=lH kk
   have z5:=kk.size
   have B11H:=lH B11
   have hgn11:¬ g11=gm:=by have:=MIH.out.lt;omega
   clear kk hw2 hg11 B11
   go_upto_region 13 with fail
   rw [← Hg11.out,← Hw2.out]
   clear Hg11 Hw2
   clear e0 e1 e2 e2'
   have CM:=lH (fun u=>mkLk m M1 hm16 HM1.out u)
   refine wp_region_late_drew (S:=Ex w2) [8] (by kernel_rfl) ((Ex.refl w2).drew) (fun hHeld=>?_)
   obtain ⟨wd,hwdx⟩:∃ wd:World,wd=World.drew w2:=⟨_,rfl⟩
   rw [← hwdx] at hHeld ⊢
   have hDrew:Ex w2 wd:=by rw [hwdx];exact (Ex.refl w2).drew
   clear hwdx
   refine tkL 0 (v:=?_) rfl (by kernel_rfl) (fun _ _ _ h=>h) (by rfl) ?y5 hHeld ?_
   case y5=>intro wq hSw;go_simp<;>rfl
   try simp only [Act.put,sA,sB,sC]
   refine tkL 1 (v:=?_) rfl (by kernel_rfl) (fun _ _ _ h=>h) (by rfl) ?y8 hHeld ?_
   case y8=>intro wq hSw;go_simp<;>rfl
   try simp only [Act.put,sA,sB,sC]
   refine tkL 2 (v:=?_) rfl (by kernel_rfl) (fun _ _ _ h=>h) (by rfl) ?y11 hHeld ?_
   case y11=>intro wq hSw;(have cq:=(B11H.out.nx hSw).cell 0 _ rfl;go_simp)<;>rfl
   try simp only [Act.put,sA,sB,sC]
   refine tkL 3 (v:=?_) rfl (by kernel_rfl) (fun _ _ _ h=>h) (by rfl) ?y14 hHeld ?_
   case y14=>intro wq hSw;go_simp<;>rfl
   try simp only [Act.put,sA,sB,sC]
   refine tkL 4 (v:=?_) rfl (by kernel_rfl) (fun _ _ _ h=>h) (by rfl) ?y17 hHeld ?_
   case y17=>intro wq hSw;go_simp<;>rfl
   try simp only [Act.put,sA,sB,sC]
   refine rL 5 (by kernel_rfl) rfl fun K hK=>?_
   have cm:=CM.out
   go_simp
   clear cm
   obtain ⟨gz,wa,hgz,hwa,IN,kk,zgz⟩:=litZ w1.heap.size M1 hM17 wd (by have:=hHeld.size;omega)
   rw [← hgz,← hwa]
   have zd:=hHeld.size
   clear hgz hwa
   replace hHeld:=hHeld.nx kk
   clear kk
   refine hK.out _ _ (hHeld) (fun hHeld=>?_)
   clear hK K
   try simp only [Act.put,sA,sB,sC]
   refine tkL 6 (v:=?_) rfl (by kernel_rfl) (fun _ _ _ h=>h) (by rfl) ?y34 hHeld ?_
   case y34=>intro wq hSw;go_simp<;>rfl
   try simp only [Act.put,sA,sB,sC]
   refine rL 7 (by kernel_rfl) rfl fun K hK=>?_
   go_simp
   obtain ⟨gx,wq,hgx,hwq,SX,kk⟩:=litLd wa x.id (some ⟨gz,0,none⟩,M1,M1)
   simp only [Hdr.val] at hwq
   rw [← hgx,← hwq]
   clear hgx hwq
   replace IN:=IN.nx kk
   replace hHeld:=hHeld.nx kk
   clear kk
   refine hK.out _ _ (hHeld) (fun hHeld=>?_)
   clear hK K
   try simp only [Act.put,sA,sB,sC]
   refine rLL 8 (by kernel_rfl) rfl (by rfl) fun K hK=>?_
   rw [if_pos (by rfl)]
   have OQ:=OWN.out.nx (K5.out.nx hHeld)
   have hz:w1.heap.size≤wq.heap.size:=by have:=hHeld.size;omega
   refine wp_append_W (enc:=encP encI) _ (.tmp 41) (.tmp 48) 28 rfl w1.heap.size 121 (.agg #[.int .i64 0,.slice none 0 0]) 2 32 Tryz.underlying28 Tryz.infoLd rfl (by omega) (by omega) _ qs OQ.1 rfl _ 1 1 [(x.id,(some ⟨gz,0,none⟩,M1,M1))] SX enc2 enc2_one rfl (by omega) (by omega) hz ?_
   intro v8 w3 own8 ch0 ch1 _
   refine hK.out _ _ ?_
   clear hK K
   try simp only [Act.put,sA,sB,sC]
   refine wpAnyL_takeP (i:=9) (oi:=⟨_,_,_,_,_,_⟩) (v:=?_) rfl (by kernel_rfl) (by kernel_rfl) (by kernel_rfl) (fun _ _ _ h=>h) (Or.inl ⟨by rfl,?y60⟩) ?_
   case y60=>intro wq hSw;go_simp<;>rfl
   try simp only [Act.put,sA,sB,sC]
   refine wpAnyL_done (by kernel_rfl) ?_ _
   have FR:∀ (j:Nat) (r:Int×Hdr) (g:Nat),qs[j]?=some r→r.2.val.ownBlock=some g→¬ (Value.slice (some ⟨gz,0,none⟩) M1 M1).ownBlock=some g:=fun j r g hr hg hv=>by
    have h1:=OWN.out.lt hr hg
    cases hv
    exact absurd (show gz<wi.heap.size from h1) (by omega)
   have OQ8:=OQ.push (by decide) own8 ch0 IN FR
   have hcur:(buildN (S.take k) (m:Int)).1++[(x.id,List.replicate M1 ((0,0):Int×Int))]=curN S m k 0 x:=by rw [HM1.out];rfl
   rw [hcur] at OQ8
   obtain ⟨qs2,hqs2⟩:∃ q,q=qs++[((x.id,(some ⟨gz,0,none⟩,M1,M1)):Int×Hdr)]:=⟨_,rfl⟩
   rw [← hqs2] at OQ8
   have k3q:=K5.out.nx hHeld
   have hbne:=blk_ne OQ.1 (B11H.out.nx hHeld) (show 36≠121 by decide)
   have B3:=(B11H.out.nx hHeld).chg ch0 ⟨(B11H.out.nx hHeld).lt,hbne⟩
   have MI3:=lH ((MIH.out.nx k3q).chg ch1 (show gm<w1.heap.size from hgl))
   have KW3:=lH (show Exb gm w1 w3 from Chg.trans (KW.out.nxb (k3q.b gm)) (Chg.mono ch1 (fun y hy=>hy.1)))
   have hcl:(curN S m k 0 x).length=k+1:=by rw [SE.out];exact cur_len C0.out hm16 HX.out 0
   obtain ⟨K1n,hK1n⟩:∃ q,q=k+1:=⟨_,rfl⟩
   rw [← hK1n] at hcl
   have hkK:(k:Int)<(K1n:Int):=by omega
   have HK1:=lH hK1n
   have hid0:(curN S m k 0 x)[k]?=some ((curN S m k 0 x)[k]'(by omega)):=List.getElem?_eq_getElem (by omega)
   obtain ⟨gO,cO,hv8,hc8⟩:=lk_id OQ8 hid0
   clear hc8
   rw [hcl] at hv8
   subst hv8
   have OWN8:=lH OQ8
   have b0:=B3.cell 0 _ rfl
   have b1:=B3.cell 1 _ rfl
   have b2:=B3.cell 2 _ rfl
   have B3H:=lH B3
   have NQ11:=lH (inQ_ty OQ8 B3 (show 36≠128 by decide))
   have QB:=lH (fun y (hy:InQ qs2 y)=>inQ_base OQ8 hy)
   clear OQ8 own8 ch0 ch1 OQ IN SX hHeld FR hDrew hcur hqs2 k3q hbne B3 hid0 hcl hK1n B11H
   go_wp2_with fail
   (with_reducible refine (places_p x m hm16 hxw _).mono ?_)
   rintro e w4 ⟨vP,rfl,OP,kk⟩
   rw [← HM1.out] at OP
   obtain ⟨aP,cP,rfl,SP,hcP,hmP,_⟩:=OP.slf (fun _=>rfl)
   rw [plcs_len] at SP hcP ⊢
   have B4:=lH (B3H.out.nx kk)
   have MI4:=lH (MI3.out.nx kk)
   have KW4:=lH (KW3.out.nxb (kk.b gm))
   have z34:=kk.size
   have zg3:gm<w3.heap.size:=MI3.out.lt
   have SPH:=lH (fun wq (kq:ExL qs2 gm w4 wq)=>(show Sl 2 encPc wq aP M1 (plcs x.word M1) from Rd.mono (Rd.chg SP kq (fun y hy=>⟨hy.2,by have:=hy.1;omega,fun hq=>by have h1:=(QB.out y hq).2;have:=hy.1;omega⟩)) (fun y hy=>Nat.lt_of_lt_of_le hy.2 kq.size)))
   have R1:=lH (show LeRel S m gm k x w1 w4 (.slice (some ⟨gO,0,none⟩) K1n cO) qs2 (.int .i64 cnt) (.int .i64 0) w4 from ⟨0,f,cnt,by omega,rfl,rfl,OwnN.nx OWN8.out kk,by rw [Nat.add_zero];exact MI4.out,LFH.out,Chg.refl _ _⟩)
   clear OP SP kk b0 b1 b2
   go_wp2_with fail
   go_loopw [9,54] (fun c i wr=>LeRel S m gm k x w1 w4 (.slice (some ⟨gO,0,none⟩) K1n cO) qs2 c i wr) (fun _ i _=>M1-(intOf i).toNat)
   case atStart=>exact R1.out
   case round =>
    clear R1
    obtain ⟨j,fj,cj,hj,rfl,rfl,own,MI,LF,kl⟩:=hrel
    obtain ⟨wl,rfl⟩:∃ wl:World,wl=wr:=⟨_,rfl⟩
    rw [← HM1.out] at hj
    have OWNJ:=lH own
    have MIJ:=lH MI
    have LFJ:=lH LF
    have KL:=lH kl
    clear own MI LF
    by_cases hjm:j<M1
    ·have hjm':j≤m:=by have:=HM1.out;omega
     obtain ⟨xp,op,pr,rfl,hxp,hpr,hcp⟩:=(SPH.out _ kl).at hjm
     obtain ⟨bb,hbb⟩:∃ bb,bb=x.word % 2 ^ j:=⟨_,rfl⟩
     have hpe:=plcs_at hpr
     rw [← hbb] at hpe
     subst hpe
     have hbl:bb<4294967296:=by rw [hbb];exact Nat.lt_of_le_of_lt (Nat.mod_le _ _) hxw
     have HBB:=lH hbb
     have p0:wl.cell? ⟨xp,op+j*2,none⟩=some (.int .i64 (j:Int)):=hcp 0 _ rfl
     have p1:wl.cell? ⟨xp,op+j*2+1,none⟩=some (.int .u32 (bb:Int)):=hcp 1 _ rfl
     clear hcp hpr kl hbb
     have B13:=Blk.new wl [.int .i64 (j:Int),.int .u32 (bb:Int)] 125
     have kk:=Ex.new wl (.cells #[.int .i64 (j:Int),.int .u32 (bb:Int)] 125)
     obtain ⟨w5,hw5⟩:∃ w5,w5=wl.alloc (.cells #[.int .i64 (j:Int),.int .u32 (bb:Int)] 125):=⟨_,rfl⟩
     obtain ⟨g13,hg13⟩:∃ g13,g13=wl.heap.size:=⟨_,rfl⟩
     replace B13:Blk w5 g13 [.int .i64 (j:Int),.int .u32 (bb:Int)] 125:=by rw [hw5,hg13];exact B13
     rw [← hw5] at kk
     have Hw5:=lH hw5
     have Hg13:=lH hg13
     have OW5:=lH (OwnN.nx OWNJ.out kk)
     have MI5:=lH (MIJ.out.nx kk)
     have KL5:=lH (KL.out.nxL (ExL.ex kk))
     have B13H:=lH B13
     have NQ13:=lH (inQ_ty OW5.out B13 (show 125≠128 by decide))
     clear kk hw5 hg13 B13
     go_upto_region 17 with fail
     rw [← Hg13.out,← Hw5.out]
     clear Hg13 Hw5
     clear p0 p1
     have lk:=MI5.out.look (lev:=j) (b:=bb) (by omega) hbl
     have LI:=lastF_at LFJ.out hjm' bb
     obtain ⟨o,ho⟩:∃ o,o=fj j bb:=⟨_,rfl⟩
     rw [← ho] at lk LI
     unfold valP at lk
     have q0:=B13H.out.cell 0 _ rfl
     have q1:=B13H.out.cell 1 _ rfl
     have LN:=lH (by have:=lastF_step (x:=x) (by rw [SE.out];exact HX.out) LFJ.out;rw [← HBB.out] at this;exact this)
     clear ho
     cases o with
     | none =>
      simp only [Option.getD_none,Option.isSome_none] at lk
      obtain ⟨w6,hrun,MI6,km⟩:=MI5.out.put (lev:=j) (b:=bb) (by omega) hbl (by have:k*(m+1)≤1000*17:=Nat.mul_le_mul (by omega) (by omega);omega) k
      unfold valP at hrun
      have RR:=lH (show LeRel S m gm k x w1 w4 (.slice (some ⟨gO,0,none⟩) K1n cO) qs2 (.int .i64 cj) (.int .i64 ((j:Int)+1)) w6 from ⟨j+1,_,cj,by have:=HM1.out;omega,by go_num,rfl,by rw [SE.out,cur_none C0.out HW.out hm16 HX.out hjm' (by rw [← SE.out,← HBB.out];exact LI),← SE.out];exact OwnN.nxb OW5.out hgl km,MI6,LN.out,KL5.out.nxL (ExL.b km)⟩)
      clear MI6 km LI
      go_wp2_with fail
      exact ⟨RR.out,by simp [intOf];omega⟩
     | some i0 =>
      simp only [Option.getD_some,Option.isSome_some] at lk
      obtain ⟨hik,aa,R,R',q,r1,r2,u1,u2,hcs⟩:=cur_some C0.out HW.out hm16 HX.out hjm' (by rw [← SE.out,← HBB.out];exact LI)
      have lR:R.length=M1:=by
       obtain ⟨R9,h1,h2,_⟩:=cur_at C0.out hm16 HX.out (Nat.le_refl k) HX.out j
       rw [r1] at h1
       cases h1
       rw [h2,HM1.out]
      have lR':R'.length=M1:=by
       have hkl2:i0<(sortN N).length:=by have:=(List.getElem?_eq_some_iff.1 HX.out).1;omega
       obtain ⟨R9,h1,h2,_⟩:=cur_at C0.out hm16 HX.out (Nat.le_of_lt hik) (List.getElem?_eq_getElem hkl2) j
       rw [u1] at h1
       cases h1
       rw [h2,HM1.out]
      rw [← SE.out] at r1 u1 hcs
      have HCS:=lH hcs
      have HU1:=lH u1
      have HU2:=lH u2
      have HR1:=lH r1
      have HR2:=lH r2
      have LR:=lH lR
      have LR':=lH lR'
      obtain ⟨gk,ck,hgO,nqO,ki0,kh,ink,_⟩:=lk_hdr OW5.out r1 r2 lR
      obtain ⟨gi,ci,_,_,ii0,ih,ini,_⟩:=lk_hdr OW5.out u1 u2 lR'
      have hiK:(i0:Int)<(K1n:Int):=by omega
      have hjM:(j:Int)<(M1:Int):=by omega
      have KI0:=lH ki0
      have KH:=lH kh
      have II0:=lH ii0
      have IH:=lH ih
      have HSET:Hid (∀ c,((curN S m k j x).set k c)[i0]?=some (aa,R')):=lH (fun c=>by rw [List.getElem?_set_ne (by omega)];exact HU1.out)
      have HINK:=lH ink
      have HINI:=lH ini
      have NQO:=lH (show gO<w5.heap.size∧¬ InQ qs2 gO from ⟨hgO,nqO⟩)
      have B11J:=lH (B4.out.chg KL5.out ⟨B4.out.lt,hgn11,NQ11.out⟩)
      have N11:=lH (show g11<w5.heap.size∧¬ InQ qs2 g11 from ⟨B11J.out.lt,NQ11.out⟩)
      clear hcs u1 u2 r1 r2 lR lR' ki0 kh ii0 ih ink ini hgO nqO LI
      go_upto_region 19 with fail
      clear lk q0 q1
      refine wp_region_held_drew (S:=Exq qs2 w5) (by kernel_rfl) (Exq.of_ex (Ex.refl w5).drew) (fun hHeld=>?_)
      obtain ⟨wd,hwdx⟩:∃ wd:World,wd=World.drew w5:=⟨_,rfl⟩
      rw [← hwdx] at hHeld ⊢
      have hDrew:Ex w5 wd:=by rw [hwdx];exact (Ex.refl w5).drew
      clear hwdx
      refine tkH 0 (v:=?_) rfl (by kernel_rfl) (fun _ _ _ h=>h) (by rfl) ?y5 hHeld ?_
      case y5=>intro wq hSw;go_simp<;>rfl
      try simp only [Act.put,sA,sB,sC]
      refine tkH 1 (v:=?_) rfl (by kernel_rfl) (fun _ _ _ h=>h) (by rfl) ?y8 hHeld ?_
      case y8=>intro wq hSw;go_simp<;>rfl
      try simp only [Act.put,sA,sB,sC]
      refine tkH 2 (v:=?_) rfl (by kernel_rfl) (fun _ _ _ h=>h) (by rfl) ?y11 hHeld ?_
      case y11=>intro wq hSw;go_simp<;>rfl
      try simp only [Act.put,sA,sB,sC]
      refine tkH 3 (v:=?_) rfl (by kernel_rfl) (fun _ _ _ h=>h) (by rfl) ?y14 hHeld ?_
      case y14=>intro wq hSw;go_simp<;>rfl
      try simp only [Act.put,sA,sB,sC]
      refine tkH 4 (v:=?_) rfl (by kernel_rfl) (fun _ _ _ h=>h) (by rfl) ?y17 hHeld ?_
      case y17=>intro wq hSw;(have cq:=hSw.cellv KH.out NQO.out;go_simp)<;>rfl
      try simp only [Act.put,sA,sB,sC]
      refine tkH 5 (v:=?_) rfl (by kernel_rfl) (fun _ _ _ h=>h) (by rfl) ?y20 hHeld ?_
      case y20=>intro wq hSw;go_simp<;>rfl
      try simp only [Act.put,sA,sB,sC]
      refine tkH 6 (v:=?_) rfl (by kernel_rfl) (fun _ _ _ h=>h) (by rfl) ?y23 hHeld ?_
      case y23=>intro wq hSw;go_simp<;>rfl
      try simp only [Act.put,sA,sB,sC]
      refine tkH 7 (v:=?_) rfl (by kernel_rfl) (fun _ _ _ h=>h) (by rfl) ?y26 hHeld ?_
      case y26=>intro wq hSw;go_simp<;>rfl
      try simp only [Act.put,sA,sB,sC]
      refine tkH 8 (v:=?_) rfl (by kernel_rfl) (fun _ _ _ h=>h) (by rfl) ?y29 hHeld ?_
      case y29=>intro wq hSw;go_simp<;>rfl
      try simp only [Act.put,sA,sB,sC]
      refine tkH 9 (v:=?_) rfl (by kernel_rfl) (fun _ _ _ h=>h) (by rfl) ?y32 hHeld ?_
      case y32=>intro wq hSw;go_simp<;>rfl
      try simp only [Act.put,sA,sB,sC]
      refine tkH 10 (v:=?_) rfl (by kernel_rfl) (fun _ _ _ h=>h) (by rfl) ?y35 hHeld ?_
      case y35=>intro wq hSw;(have cq:=hSw.cellv IH.out NQO.out;go_simp)<;>rfl
      try simp only [Act.put,sA,sB,sC]
      refine tkH 11 (v:=?_) rfl (by kernel_rfl) (fun _ _ _ h=>h) (by rfl) ?y38 hHeld ?_
      case y38=>intro wq hSw;go_simp<;>rfl
      try simp only [Act.put,sA,sB,sC]
      refine tkH 12 (v:=?_) rfl (by kernel_rfl) (fun _ _ _ h=>h) (by rfl) ?y41 hHeld ?_
      case y41=>intro wq hSw;go_simp<;>rfl
      try simp only [Act.put,sA,sB,sC]
      refine tkH 13 (v:=?_) rfl (by kernel_rfl) (fun _ _ _ h=>h) (by rfl) ?y44 hHeld ?_
      case y44=>intro wq hSw;go_simp<;>rfl
      try simp only [Act.put,sA,sB,sC]
      refine tkH 14 (v:=?_) rfl (by kernel_rfl) (fun _ _ _ h=>h) (by rfl) ?y47 hHeld ?_
      case y47=>intro wq hSw;go_simp<;>rfl
      try simp only [Act.put,sA,sB,sC]
      refine tkH 15 (v:=?_) rfl (by kernel_rfl) (fun _ _ _ h=>h) (by rfl) ?y50 hHeld ?_
      case y50=>intro wq hSw;go_simp<;>rfl
      try simp only [Act.put,sA,sB,sC]
      refine tkH 16 (v:=?_) rfl (by kernel_rfl) (fun _ _ _ h=>h) (by rfl) ?y53 hHeld ?_
      case y53=>intro wq hSw;(have cq:=hSw.cellv II0.out NQO.out;go_simp)<;>rfl
      try simp only [Act.put,sA,sB,sC]
      refine tkH 17 (v:=?_) rfl (by kernel_rfl) (fun _ _ _ h=>h) (by rfl) ?y56 hHeld ?_
      case y56=>intro wq hSw;go_simp<;>rfl
      try simp only [Act.put,sA,sB,sC]
      refine tkH 18 (v:=?_) rfl (by kernel_rfl) (fun _ _ _ h=>h) (by rfl) ?y59 hHeld ?_
      case y59=>intro wq hSw;(have cq:=hSw.cellv (B11J.out.cell 0 _ rfl) N11.out;go_simp)<;>rfl
      try simp only [Act.put,sA,sB,sC]
      refine tkH 19 (v:=?_) rfl (by kernel_rfl) (fun _ _ _ h=>h) (by rfl) ?y62 hHeld ?_
      case y62=>intro wq hSw;go_simp<;>rfl
      try simp only [Act.put,sA,sB,sC]
      refine tkH 20 (v:=?_) rfl (by kernel_rfl) (fun _ _ _ h=>h) (by rfl) ?y65 hHeld ?_
      case y65=>intro wq hSw;go_simp<;>rfl
      try simp only [Act.put,sA,sB,sC]
      refine rH 21 (by kernel_rfl) rfl fun K hK=>?_
      obtain ⟨g2,c2,_,_,_,kh2,_,z0,_,f0,_,U0,_⟩:=lk_hdr (OwnN.nx OW5.out hDrew) HR1.out HR2.out LR.out
      have ee:=(hHeld.cellv KH.out NQO.out).symm.trans kh2
      simp only [Option.some.injEq,Value.slice.injEq,Addr.mk.injEq,and_true,true_and] at ee
      obtain ⟨rfl,rfl⟩:=ee
      go_simp
      clear kh2 z0 f0
      obtain ⟨wa,hwa⟩:∃ wa,wa=wd.setCell ⟨gk,j*2,none⟩ (.int .i64 aa):=⟨_,rfl⟩
      rw [← hwa]
      have OWA:=U0 aa
      rw [← hwa] at OWA
      replace hHeld:Exq qs2 w5 wa:=by rw [hwa];exact Exq.set hHeld _ HINK.out
      clear U0 hwa
      refine hK.out _ _ (hHeld) (fun hHeld=>?_)
      clear hK K
      try simp only [Act.put,sA,sB,sC]
      refine tkH 22 (v:=?_) rfl (by kernel_rfl) (fun _ _ _ h=>h) (by rfl) ?y85 hHeld ?_
      case y85=>intro wq hSw;go_simp<;>rfl
      try simp only [Act.put,sA,sB,sC]
      refine tkH 23 (v:=?_) rfl (by kernel_rfl) (fun _ _ _ h=>h) (by rfl) ?y88 hHeld ?_
      case y88=>intro wq hSw;go_simp<;>rfl
      try simp only [Act.put,sA,sB,sC]
      refine rH 24 (by kernel_rfl) rfl fun K hK=>?_
      obtain ⟨g2,c2,_,_,_,kh2,_,_,z1,_,f1,_,U1⟩:=lk_hdr OWA (HSET.out _) HU2.out LR'.out
      have ee:=(hHeld.cellv IH.out NQO.out).symm.trans kh2
      simp only [Option.some.injEq,Value.slice.injEq,Addr.mk.injEq,and_true,true_and] at ee
      obtain ⟨rfl,rfl⟩:=ee
      go_simp
      clear kh2 z1 f1
      obtain ⟨wb,hwb⟩:∃ wb,wb=wa.setCell ⟨gi,j*2+1,none⟩ (.int .i64 x.id):=⟨_,rfl⟩
      rw [← hwb]
      have OWB:=U1 x.id
      rw [← hwb] at OWB
      replace hHeld:Exq qs2 w5 wb:=by rw [hwb];exact Exq.set hHeld _ HINI.out
      clear U1 hwb
      refine hK.out _ _ (hHeld) (fun hHeld=>?_)
      clear hK K
      try simp only [Act.put,sA,sB,sC]
      refine wpAnyH_done (by kernel_rfl) ?_ _
      rw [← HCS.out] at OWB
      have OWBH:=lH OWB
      have KQ:=lH hHeld
      have B13Q:=B13H.out.chg KQ.out ⟨B13H.out.lt,NQ13.out⟩
      have MI7:=MI5.out.chg KQ.out ⟨MI5.out.lt,fun hq=>by have h1:=(QB.out gm hq).1;omega⟩
      obtain ⟨w6,hrun,MI6,km⟩:=MI7.put (lev:=j) (b:=bb) (by omega) hbl (by have:k*(m+1)≤1000*17:=Nat.mul_le_mul (by omega) (by omega);omega) k
      unfold valP at hrun
      have q0:=B13Q.cell 0 _ rfl
      have q1:=B13Q.cell 1 _ rfl
      have RR:=lH (fun cx=>show LeRel S m gm k x w1 w4 (.slice (some ⟨gO,0,none⟩) K1n cO) qs2 (.int .i64 cx) (.int .i64 ((j:Int)+1)) w6 from ⟨j+1,_,cx,by have:=HM1.out;omega,by go_num,rfl,OwnN.nxb OWBH.out hgl km,MI6,LN.out,(KL5.out.nxL (ExL.q KQ.out)).nxL (ExL.b km)⟩)
      clear MI6 km MI7 OWA OWB hHeld hDrew
      go_wp2_with fail
      exact ⟨RR.out _,by simp [intOf];omega⟩
    ·obtain rfl:j=M1:=by omega
     have RR:=lH (show LdRel S m gm w1 (.slice (some ⟨gO,0,none⟩) K1n cO) (.int .i64 cj) (.int .i64 ((k:Int)+1)) wl from ⟨k+1,qs2,fj,cj,by have:=HN.out;omega,by go_num,rfl,by have h1:=OWNJ.out;rw [HM1.out,SE.out,cur_end C0.out HW.out hm16 HX.out,← SE.out] at h1;exact h1,by rw [Nat.succ_mul,← HM1.out];have h1:=MIJ.out;rw [← HM1.out] at h1;exact h1,lastF_next (by have h1:=LFJ.out;rw [HM1.out] at h1;exact h1),Chg.trans KW4.out (Chg.mono KL.out (fun y hy=>⟨Nat.lt_of_lt_of_le hy.1 KW4.out.size,hy.2,fun hq=>by have h1:=(QB.out y hq).1;have:=hy.1;omega⟩))⟩)
     clear kl hj hjm
     go_wp2_with fail
     exact ⟨RR.out,by simp [intOf];omega⟩
  ·obtain rfl:k=n:=by omega
   have OE0:=OWN.out
   rw [List.take_of_length_le (by rw [HN.out];exact Nat.le_refl _),SE.out,build_perm (sortN_perm N) C0.out] at OE0
   have OE:=lH OE0
   clear OE0
   have KE:=lH (show Ex w wi from Chg.trans KW1.out (Chg.mono kw (fun y hy=>⟨Nat.lt_of_lt_of_le hy KW1.out.size,by have:y<w.heap.size:=hy;omega⟩)))
   have zz:=KW1.out.size
   clear kw hkn
   go_wp2_with fail
   go_ret3
   exact ⟨_,qs,cnt,rfl,OwnN.base OE.out zz,KE.out⟩
end Go.Proofs.YthcholmhmcpooaaGreatDoor
namespace Go.Proofs.YthcholmhmcpooaaGreatDoor
open Go.RowKit Go.Maps
def PredI (g:Nat) (lb:Array Value) (id:Int) (w:World):Prop:=∀ (x:Pr) (h1 h2:Hdr) (w':World),Ex w w'→Calls Tryz.prog g (#[.agg #[.int .i64 x.id,h1.val,.int .i64 x.left,.int .i64 x.right,h2.val]]++lb) w' fun e w''=>e=.returned (.bool (x.id==id))∧Ex w' w''
def idxQ (id:Int) (P:List Pr):Int:=if P.findIdx (fun p=>p.id==id)<P.length then (P.findIdx (fun p=>p.id==id):Int) else -1
theorem idxQ_of {P:List Pr} {id:Int} {k:Nat} {y:Pr} (hy:P[k]?=some y) (he:y.id=id) (hno:∀ j z,j<k→P[j]?=some z→z.id≠id):idxQ id P=k:=by
 have hk:=(List.getElem?_eq_some_iff.1 hy)
 have hkl:=hk.1
 have h1:P.findIdx (fun p=>p.id==id)=k:=by
  rw [List.findIdx_eq hkl]
  refine ⟨by rw [hk.2];simpa using he,fun j hj=>?_⟩
  have:=hno j _ hj (List.getElem?_eq_getElem (by omega))
  simpa using this
 unfold idxQ
 rw [h1,if_pos hkl]
theorem idxQ_none {P:List Pr} {id:Int} (hno:∀ j z,j<P.length→P[j]?=some z→z.id≠id):idxQ id P = -1:=by
 unfold idxQ
 rw [if_neg]
 intro h
 have h1:=List.findIdx_getElem (w:=h)
 have h2:=hno _ _ h (List.getElem?_eq_getElem h)
 simp at h1
 exact h2 h1
theorem idxQ_cases (P:List Pr) (id:Int):(∃ (k:Nat) (y:Pr),idxQ id P=k∧k<P.length∧P[k]?=some y∧peerN P id=y∧y.id=id)∨(idxQ id P = -1∧peerN P id=⟨id,0,0,[],[]⟩):=by
 by_cases h:P.findIdx (fun p=>p.id==id)<P.length
 ·have h1:(P[P.findIdx (fun p=>p.id==id)]).id=id:=by simpa using List.findIdx_getElem (w:=h)
  have hno:∀ j z,j<P.findIdx (fun p=>p.id==id)→P[j]?=some z→z.id≠id:=fun j z hj hz=>by
   have:=List.not_of_lt_findIdx hj
   rw [List.getElem?_eq_getElem (by omega)] at hz
   cases hz
   simpa using this
  exact .inl ⟨_,_,by unfold idxQ;rw [if_pos h],h,List.getElem?_eq_getElem h,peerN_at (List.getElem?_eq_getElem h) h1 hno,h1⟩
 ·have hno:∀ j z,j<P.length→P[j]?=some z→z.id≠id:=fun j z hj hz=>by
   have:=List.not_of_lt_findIdx (p:=fun p:Pr=>p.id==id) (xs:=P) (i:=j) (by omega)
   rw [List.getElem?_eq_getElem (by omega)] at hz
   cases hz
   simpa using this
  exact .inr ⟨by unfold idxQ;rw [if_neg h],peerN_none hno⟩
set_option maxRecDepth 100000 in
set_option maxHeartbeats 2000000 in
theorem idxf_pr (g:Nat) (lb:Array Value) (id:Int) (eg:∀ args w,(callFunc g args).run Tryz.prog w=.ok (.enter g args) w) (a:Option Addr) (n c:Nat) (P:List Pr) (w:World) (h:PL w a n P) (hn:n≤4000000000000000000) (hp:PredI g lb id w) :
  Calls Tryz.prog 149 #[.slice a n c,.func (.func g) #[] lb] w fun e w'=>e=.returned (.int .i64 (idxQ id P))∧Ex w w':=by
 have HL:=lH h.len
 have HP:=lH hp
 have hs:=lH h
 clear h hp
 go_enter Tryz.func149,Tryz.ntmps149
 go_wp2
 go_loopw [8] (fun i wr=>PeRel P id n w i wr) (fun i _=>n-(intOf i).toNat)
 case atStart=>exact ⟨0,by omega,rfl,Ex.refl _,by intro j z h;omega⟩
 case round =>
  obtain ⟨k,hk,rfl,kw,hno⟩:=hrel
  have HNO:=lH hno
  clear hno
  obtain ⟨wo,rfl⟩:∃ wo:World,wo=wr:=⟨_,rfl⟩
  by_cases hlt:k<n
  ·obtain ⟨x3,o3,b1,m1,d1,b4,m4,d4,y,rfl,hx3,hy,e0,e1,e2,e3,e4,s1,s4⟩:=(hs.out.nx kw).rd hlt
   have HY:=lH hy
   have hc:=HP.out y (b1,m1,d1) (b4,m4,d4) wo kw
   have KW:=lH kw
   simp only [Hdr.val] at hc
   clear hy kw s1 s4
   go_wp2_with fail
   refine hc.mono ?_
   rintro e w2 ⟨rfl,k2⟩
   have K2:=lH (KW.out.nx k2)
   clear hc k2 e0 e1 e2 e3 e4
   by_cases hv:y.id=id
   ·have HI:Hid (idxQ id P=k):=lH (idxQ_of HY.out hv HNO.out)
    have hb:(y.id==id)=true:=by simpa using hv
    rw [hb]
    clear hv hb
    go_wp2_with fail
    go_ret
    exact ⟨by rw [HI.out];rfl,K2.out⟩
   ·have HV:=lH hv
    have hb:(y.id==id)=false:=by simpa using hv
    rw [hb]
    clear hv hb
    go_wp2_with fail
    refine ⟨⟨k+1,by omega,by go_num,K2.out,fun j z hj hz=>?_⟩,by simp [intOf];omega⟩
    rcases Nat.lt_or_ge j k with h | h
    ·exact HNO.out j z h hz
    ·obtain rfl:j=k:=by omega
     rw [Option.some.inj (hz.symm.trans HY.out)]
     exact HV.out
  ·obtain rfl:k=n:=by omega
   have HI:Hid (idxQ id P = -1):=lH (idxQ_none (fun j z hj hz=>HNO.out j z (by rw [← HL.out];exact hj) hz))
   have KW:=lH kw
   clear kw hk hlt
   go_wp2_with fail
   go_ret
   exact ⟨by rw [HI.out];rfl,KW.out⟩
theorem find_word {N:List Nd} (hw:∀ x∈N,x.word<4294967296) (id:Int) (h:(findN N id).2=true):(findN N id).1.word<4294967296:=hw _ (findN_mem h).1
set_option maxHeartbeats 1000000 in
theorem other_p (a:Option Addr) (n c:Nat) (N:List Nd) (id own:Int) (w:World) (h:Sl 3 encN w a n N) (hn:n≤1000) :
  Calls Tryz.prog 163 #[.slice a n c,.int .i64 id,.int .i64 own] w fun e w'=>e=.returned (.int .i64 (otherN N id own))∧Ex w w':=by
 have EX:=Ex.refl w
 have E1:Hid (∀ o,o=(findN N id).2→otherN N id own=if o=true∧id≠own then id else 0):=lH (fun o ho=>by rw [ho];rfl)
 go_enter Tryz.func163,Tryz.ntmps163
 go_wp2_with fail
 (with_reducible refine (find_p _ _ _ _ id _ h (by omega)).mono ?_)
 rintro e w1 ⟨rfl,kk⟩
 replace EX:=EX.nx kk
 clear kk
 replace E1:=E1.out _ rfl
 obtain ⟨F,hF⟩:∃ F,F=findN N id:=⟨_,rfl⟩
 rw [← hF] at E1 ⊢
 clear hF h
 obtain ⟨⟨xi,xk,xw⟩,ok⟩:=F
 replace E1:=lH E1
 have B5:=Blk.new w1 [.int .i64 xi,.string xk,.int .u32 xw] 36
 have kk:=Ex.new w1 (.cells #[.int .i64 xi,.string xk,.int .u32 xw] 36)
 obtain ⟨w2,hw2⟩:∃ w2,w2=w1.alloc (.cells #[.int .i64 xi,.string xk,.int .u32 xw] 36):=⟨_,rfl⟩
 obtain ⟨g5,hg5⟩:∃ g5,g5=w1.heap.size:=⟨_,rfl⟩
 replace B5:Blk w2 g5 [.int .i64 xi,.string xk,.int .u32 xw] 36:=by rw [hw2,hg5];exact B5
 rw [← hw2] at kk
 have Hw2:=lH hw2
 have Hg5:=lH hg5
 replace EX:=EX.nx kk
 clear kk hw2 hg5
 simp only [Nd.val]
 go_upto_region 2 with fail
 rw [← Hg5.out,← Hw2.out]
 clear Hg5 Hw2
 clear B5
 cases ok with
 | false =>
  have E1:Hid (otherN N id own=0):=lH (E1.out.trans (if_neg (by simp)))
  go_wp2_with fail
  go_ret
  exact ⟨by rw [E1.out];rfl,EX⟩
 | true =>
  by_cases he:id=own
  ·have EZ:Hid (otherN N id own=0):=lH (E1.out.trans (if_neg (by simp [he])))
   have d1:(id==own)=true:=by simpa using he
   clear he E1
   go_wp2_with fail
   go_ret
   exact ⟨by rw [EZ.out];rfl,EX⟩
  ·have EZ:Hid (otherN N id own=id):=lH (E1.out.trans (if_pos ⟨rfl,he⟩))
   have d1:(id==own)=false:=by simpa using he
   clear he E1
   go_wp2_with fail
   go_ret
   exact ⟨by rw [EZ.out];rfl,EX⟩
theorem pair_no {N:List Nd} {nb:Int} (own:Int) (lev:Nat) (zero one:Int) (h:(findN N nb).2=false):pairB N own nb lev zero one=(0,0):=by unfold pairB;rw [if_neg (by rw [h];simp)]
theorem pair_z {N:List Nd} {nb:Int} (own:Int) (lev:Nat) (zero one:Int) (h:(findN N nb).2=true) (hb:bitN (findN N nb).1.word lev=0):pairB N own nb lev zero one=((findN N nb).1.id,otherN N one own):=by unfold pairB;rw [if_pos h,if_pos hb]
theorem pair_o {N:List Nd} {nb:Int} (own:Int) (lev:Nat) (zero one:Int) (h:(findN N nb).2=true) (hb:¬ bitN (findN N nb).1.word lev=0):pairB N own nb lev zero one=(otherN N zero own,(findN N nb).1.id):=by unfold pairB;rw [if_pos h,if_neg hb]
set_option maxRecDepth 100000 in
set_option maxHeartbeats 2000000 in
theorem pair_p (a:Option Addr) (n c:Nat) (N:List Nd) (own nb:Int) (lev:Nat) (zero one:Int) (w:World) (h:Sl 3 encN w a n N) (hn:n≤1000) (hw:∀ x∈N,x.word<4294967296) (hl:lev≤16) :
  Calls Tryz.prog 202 #[.slice a n c,.int .i64 own,.int .i64 nb,.int .i64 lev,.int .i64 zero,.int .i64 one] w fun e w'=>e=.returned (.tuple #[.int .i64 (pairB N own nb lev zero one).1,.int .i64 (pairB N own nb lev zero one).2])∧Ex w w':=by
 have EX:=Ex.refl w
 have P0:=pair_no (N:=N) (nb:=nb) own lev zero one
 have P1:=pair_z (N:=N) (nb:=nb) own lev zero one
 have P2:=pair_o (N:=N) (nb:=nb) own lev zero one
 have FW:=find_word hw nb
 clear hw
 go_enter Tryz.func202,Tryz.ntmps202
 generalize hPB:pairB N own nb lev zero one=PB at P0 P1 P2 ⊢
 clear hPB
 replace P0:=lH P0
 replace P1:=lH P1
 replace P2:=lH P2
 replace FW:=lH FW
 go_wp2_with fail
 (with_reducible refine (find_p _ _ _ _ nb _ h (by omega)).mono ?_)
 rintro e w1 ⟨rfl,kk⟩
 replace EX:=EX.nx kk
 replace h:=h.nx kk
 clear kk
 replace P0:=P0.out
 replace P1:=P1.out
 replace P2:=P2.out
 replace FW:=FW.out
 obtain ⟨F,hF⟩:∃ F,F=findN N nb:=⟨_,rfl⟩
 rw [← hF] at P0 P1 P2 FW ⊢
 clear hF
 obtain ⟨⟨xi,xk,xw⟩,ok⟩:=F
 have B5:=Blk.new w1 [.int .i64 xi,.string xk,.int .u32 xw] 36
 have kk:=Ex.new w1 (.cells #[.int .i64 xi,.string xk,.int .u32 xw] 36)
 obtain ⟨w2,hw2⟩:∃ w2,w2=w1.alloc (.cells #[.int .i64 xi,.string xk,.int .u32 xw] 36):=⟨_,rfl⟩
 obtain ⟨g5,hg5⟩:∃ g5,g5=w1.heap.size:=⟨_,rfl⟩
 replace B5:Blk w2 g5 [.int .i64 xi,.string xk,.int .u32 xw] 36:=by rw [hw2,hg5];exact B5
 rw [← hw2] at kk
 have Hw2:=lH hw2
 have Hg5:=lH hg5
 replace EX:=EX.nx kk
 replace h:=h.nx kk
 clear kk hw2 hg5
 simp only [Nd.val]
 go_upto_region 2 with fail
 rw [← Hg5.out,← Hw2.out]
 clear Hg5 Hw2
 cases ok with
 | false =>
  have E1:=lH (P0 rfl)
  clear P0 P1 P2 FW h B5
  go_wp2_with fail
  go_ret2
  exact ⟨by rw [E1.out];rfl,EX⟩
 | true =>
  have q2:=B5.cell 2 _ rfl
  have FWh:=FW rfl
  by_cases hb:bitN xw lev=0
  ·have E1:=lH (P1 rfl hb)
   have d1:(((bitN xw lev:Nat):Int)==0)=true:=by rw [hb];rfl
   have BF:Hid (∀ wq,Ex w2 wq→wq.cell? ⟨g5,0,none⟩=some (.int .i64 xi)):=lH (fun wq kq=>(B5.nx kq).cell 0 _ rfl)
   have H:=lH h
   have K:=lH EX
   clear P0 P1 P2 FW h B5 hb EX
   go_wp2_with fail
   refine (bit_p xw lev _ FWh (by omega) (by omega)).mono ?_
   rintro e w3 ⟨rfl,rfl⟩
   clear FWh
   go_upto_region 5 with fail
   clear q2
   refine wp_region_held_drew (S:=Ex w2) (by kernel_rfl) ((Ex.refl w2).drew) (fun hHeld=>?_)
   obtain ⟨wd,hwdx⟩:∃ wd:World,wd=World.drew w2:=⟨_,rfl⟩
   rw [← hwdx] at hHeld ⊢
   have hDrew:Ex w2 wd:=by rw [hwdx];exact (Ex.refl w2).drew
   clear hwdx
   refine tkH 0 (v:=?_) rfl (by kernel_rfl) (fun _ _ _ h=>h) (by rfl) ?y5 hHeld ?_
   case y5=>intro wq hSw;go_simp<;>rfl
   refine tkH 1 (v:=?_) rfl (by kernel_rfl) (fun _ _ _ h=>h) (by rfl) ?y8 hHeld ?_
   case y8=>intro wq hSw;(have cq:=BF.out wq hSw;go_simp)<;>rfl
   refine tkH 2 (v:=?_) rfl (by kernel_rfl) (fun _ _ _ h=>h) (by rfl) ?y11 hHeld ?_
   case y11=>intro wq hSw;go_simp<;>rfl
   refine tkH 3 (v:=?_) rfl (by kernel_rfl) (fun _ _ _ h=>h) (by rfl) ?y14 hHeld ?_
   case y14=>intro wq hSw;go_simp<;>rfl
   refine tkH 4 (v:=?_) rfl (by kernel_rfl) (fun _ _ _ h=>h) (by rfl) ?y17 hHeld ?_
   case y17=>intro wq hSw;go_simp<;>rfl
   refine rH 5 (by kernel_rfl) rfl fun K hK=>?_
   go_simp
   (with_reducible refine (other_p _ _ _ N one own _ (H.out.nx hHeld) hn).mono ?_)
   rintro e wb ⟨rfl,kk⟩
   replace hHeld:=hHeld.nx kk
   clear kk
   refine hK.out _ _ (hHeld) (fun hHeld=>?_)
   clear hK K
   refine tkH 6 (v:=?_) rfl (by kernel_rfl) (fun _ _ _ h=>h) (by rfl) ?y30 hHeld ?_
   case y30=>intro wq hSw;go_simp<;>rfl
   refine tkH 7 (v:=?_) rfl (by kernel_rfl) (fun _ _ _ h=>h) (by rfl) ?y33 hHeld ?_
   case y33=>intro wq hSw;go_simp<;>rfl
   refine wpAnyH_done (by kernel_rfl) ?_ _
   have KE:=lH (K.out.nx hHeld)
   clear hHeld hDrew
   go_wp2_with fail
   go_ret2
   exact ⟨by rw [E1.out];rfl,KE.out⟩
  ·have E1:=lH (P2 rfl hb)
   have d1:(((bitN xw lev:Nat):Int)==0)=false:=by simpa using hb
   have BF:Hid (∀ wq,Ex w2 wq→wq.cell? ⟨g5,0,none⟩=some (.int .i64 xi)):=lH (fun wq kq=>(B5.nx kq).cell 0 _ rfl)
   have H:=lH h
   have K:=lH EX
   clear P0 P1 P2 FW h B5 hb EX
   go_wp2_with fail
   refine (bit_p xw lev _ FWh (by omega) (by omega)).mono ?_
   rintro e w3 ⟨rfl,rfl⟩
   clear FWh
   go_upto_region 6 with fail
   clear q2
   refine wp_region_held_drew (S:=Ex w2) (by kernel_rfl) ((Ex.refl w2).drew) (fun hHeld=>?_)
   obtain ⟨wd,hwdx⟩:∃ wd:World,wd=World.drew w2:=⟨_,rfl⟩
   rw [← hwdx] at hHeld ⊢
   have hDrew:Ex w2 wd:=by rw [hwdx];exact (Ex.refl w2).drew
   clear hwdx
   refine tkH 0 (v:=?_) rfl (by kernel_rfl) (fun _ _ _ h=>h) (by rfl) ?y5 hHeld ?_
   case y5=>intro wq hSw;go_simp<;>rfl
   refine tkH 1 (v:=?_) rfl (by kernel_rfl) (fun _ _ _ h=>h) (by rfl) ?y8 hHeld ?_
   case y8=>intro wq hSw;go_simp<;>rfl
   refine tkH 2 (v:=?_) rfl (by kernel_rfl) (fun _ _ _ h=>h) (by rfl) ?y11 hHeld ?_
   case y11=>intro wq hSw;go_simp<;>rfl
   refine tkH 4 (v:=?_) rfl (by kernel_rfl) (fun _ _ _ h=>h) (by rfl) ?y14 hHeld ?_
   case y14=>intro wq hSw;go_simp<;>rfl
   refine tkH 5 (v:=?_) rfl (by kernel_rfl) (fun _ _ _ h=>h) (by rfl) ?y17 hHeld ?_
   case y17=>intro wq hSw;(have cq:=BF.out wq hSw;go_simp)<;>rfl
   refine rH 3 (by kernel_rfl) rfl fun K hK=>?_
   go_simp
   (with_reducible refine (other_p _ _ _ N zero own _ (H.out.nx hHeld) hn).mono ?_)
   rintro e wb ⟨rfl,kk⟩
   replace hHeld:=hHeld.nx kk
   clear kk
   refine hK.out _ _ (hHeld) (fun hHeld=>?_)
   clear hK K
   refine tkH 6 (v:=?_) rfl (by kernel_rfl) (fun _ _ _ h=>h) (by rfl) ?y30 hHeld ?_
   case y30=>intro wq hSw;go_simp<;>rfl
   refine tkH 7 (v:=?_) rfl (by kernel_rfl) (fun _ _ _ h=>h) (by rfl) ?y33 hHeld ?_
   case y33=>intro wq hSw;go_simp<;>rfl
   refine wpAnyH_done (by kernel_rfl) ?_ _
   have KE:=lH (K.out.nx hHeld)
   clear hHeld hDrew
   go_wp2_with fail
   go_ret2
   exact ⟨by rw [E1.out];rfl,KE.out⟩
theorem at1_p (gx:Nat) (id:Int) (w:World) (hx:Blk w gx [.int .i64 id] 3):PredI 221 #[.pointer (some ⟨gx,0,none⟩)] id w:=by
 intro p h1 h2 w' kk
 have q0:=(hx.nx kk).cell 0 _ rfl
 have hg:=(hx.nx kk).lt
 have hne:¬ gx=w'.heap.size:=by omega
 obtain ⟨a1,n1,c1⟩:=h1
 obtain ⟨a2,n2,c2⟩:=h2
 simp only [Hdr.val]
 clear hx kk
 go_enter Tryz.func221,Tryz.ntmps221
 go_wp2
 go_ret
 exact ⟨rfl,(Ex.refl _).alloc _⟩
def nrV (x:Nr):Value:=.agg #[.int .i64 x.1,.int .i64 x.2.1,.int .i64 x.2.2.1,.int .i64 x.2.2.2]
theorem near_at {p:Pr} {i:Nat} {x:Nr} (h:p.near[i]?=some x):nearAt p i=x:=by unfold nearAt;rw [h];rfl
theorem near_out {p:Pr} {i:Nat} (h:p.near.length≤i):nearAt p i=(0,0,0,0):=by unfold nearAt;rw [List.getElem?_eq_none h];rfl
set_option maxRecDepth 100000 in
set_option maxHeartbeats 2000000 in
theorem at_p (a2:Option Addr) (n2 c2:Nat) (P:List Pr) (id:Int) (lev:Nat) (w:World) (h2:PL w a2 n2 P) (hn2:n2≤4000000000000000000) (hP:∀ p∈P,p.near.length≤4000000000000000000) (hl:lev≤16) :
  Calls Tryz.prog 201 #[.slice a2 n2 c2,.int .i64 id,.int .i64 lev] w fun e w'=>e=.returned (nrV (nearAt (peerN P id) lev))∧Ex w w':=by
 have EG:Hid (∀ args w,(callFunc 221 args).run Tryz.prog w=.ok (.enter 221 args) w):=lH (enters_of Tryz.func221 (by kernel_rfl) rfl)
 have EX:=Ex.refl w
 have HP:=lH hP
 clear hP
 have hwi:w.heap.size≤w.heap.size:=Nat.le_refl _
 obtain ⟨g4,hg4⟩:∃ g4,g4=w.heap.size:=⟨_,rfl⟩
 obtain ⟨g6,hg6⟩:∃ g6,g6=(w.heap.size+1):=⟨_,rfl⟩
 obtain ⟨w1,hw1⟩:∃ w1,w1=((w.alloc (.cells #[.int .i64 id] 3)).alloc (.cells #[.int .i64 0,.int .i64 0,.int .i64 0,.int .i64 0] 158)):=⟨_,rfl⟩
 have kk:Ex w w1:=by rw [hw1];exact (((Ex.refl w).alloc (.cells #[.int .i64 id] 3)).alloc (.cells #[.int .i64 0,.int .i64 0,.int .i64 0,.int .i64 0] 158))
 have B4:Blk w1 g4 [.int .i64 id] 3:=by rw [hw1];simp only [hg4,hg6];have hbk:=((Blk.new w [.int .i64 id] 3).nx (Ex.new _ (.cells #[.int .i64 0,.int .i64 0,.int .i64 0,.int .i64 0] 158)));simpa using hbk
 have B6:Blk w1 g6 [.int .i64 0,.int .i64 0,.int .i64 0,.int .i64 0] 158:=by rw [hw1];simp only [hg4,hg6];have hbk:=(Blk.new (w.alloc (.cells #[.int .i64 id] 3)) [.int .i64 0,.int .i64 0,.int .i64 0,.int .i64 0] 158);simpa using hbk
 have Hw1:=lH hw1
 have Hg4:=lH hg4
 have Hg6:=lH hg6
 replace h2:=h2.nx kk
 replace EX:=EX.nx kk
 have hz6:w.heap.size≤g6:=by omega
 clear kk hw1 hg4 hg6
 go_enter Tryz.func201,Tryz.ntmps201
 go_upto_region 1 with fail
 rw [← Hw1.out,← Hg6.out,← Hg4.out]
 clear Hw1 Hg6 Hg4
 have PI:=at1_p g4 id w1 B4
 replace B6:=lH B6
 clear B4
 go_wp2_with fail
 (with_reducible refine (idxf_pr _ _ _ EG.out _ _ _ P _ h2 hn2 PI).mono ?_)
 rintro e w2 ⟨rfl,kk⟩
 replace B6:=B6.out.nx kk
 replace EX:=EX.nx kk
 replace h2:=h2.nx kk
 clear kk PI
 have f0:=B6.free 0
 have f1:=B6.free 1
 have f2:=B6.free 2
 have f3:=B6.free 3
 have c0:=B6.cell 0 _ rfl
 have c1:=B6.cell 1 _ rfl
 have c2:=B6.cell 2 _ rfl
 have c3:=B6.cell 3 _ rfl
 rcases idxQ_cases P id with ⟨k,y,hq,hkl,hyk,hpy,-⟩ | ⟨hq,hpy⟩
 ·rw [hq]
  have hk2:k<n2:=by have:=h2.len;omega
  have hk0:¬ (k:Int)<0:=by omega
  have hk1:(0:Int)≤(k:Int):=by omega
  have hk3:(k:Int)<(n2:Int):=by omega
  obtain ⟨x5,o5,b1,m1,d1,b4,m4,d4,y',rfl,hx5,hy',e0,e1,e2,e3,e4,s1,s4⟩:=h2.rd hk2
  obtain rfl:y=y':=Option.some.inj (hyk.symm.trans hy')
  have hm4:=s4.len
  have hyP:=HP.out y (List.mem_of_getElem? hyk)
  have HPY:=lH hpy
  clear e0 e1 e2 e3 s1 hy' hkl hq hpy hyk h2
  by_cases hlt:lev<m4
  ·obtain ⟨x6,o6,ny,rfl,hx6,hny,hc6⟩:=s4.at hlt
   have V:Hid (nearAt (peerN P id) lev=ny):=lH (by rw [HPY.out];exact near_at hny)
   have r0:w2.cell? ⟨x6,o6+lev*4,none⟩=some (.int .i64 ny.1):=hc6 0 _ rfl
   have r1:w2.cell? ⟨x6,o6+lev*4+1,none⟩=some (.int .i64 ny.2.1):=hc6 1 _ rfl
   have r2:w2.cell? ⟨x6,o6+lev*4+1+1,none⟩=some (.int .i64 ny.2.2.1):=by simpa [Nat.add_assoc] using hc6 2 _ rfl
   have r3:w2.cell? ⟨x6,o6+lev*4+1+1+1,none⟩=some (.int .i64 ny.2.2.2):=by simpa [Nat.add_assoc] using hc6 3 _ rfl
   have d1:decide ((lev:Int) ≥ (m4:Int))=false:=by simp;omega
   have d2:decide ((m4:Int)≤(lev:Int))=false:=by simp;omega
   have hl1:(lev:Int)<(m4:Int):=by omega
   have KE:=lH ((((EX.setNew (p:=⟨g6,0,none⟩) (.int .i64 ny.1) hz6).setNew (p:=⟨g6,1,none⟩) (.int .i64 ny.2.1) hz6).setNew (p:=⟨g6,2,none⟩) (.int .i64 ny.2.2.1) hz6).setNew (p:=⟨g6,3,none⟩) (.int .i64 ny.2.2.2) hz6)
   clear s4 hc6 hny EX HPY
   go_wp2_with fail
   refine bodyPost_ret (v:=nrV ny) (by simp [results,Tryz.results201,go_sem,nrV, *]) rfl ⟨by rw [V.out],KE.out⟩
  ·have V:Hid (nearAt (peerN P id) lev=(0,0,0,0)):=lH (by rw [HPY.out];exact near_out (by omega))
   have hge:m4≤lev:=by omega
   have KE:=lH ((((EX.setNew (p:=⟨g6,0,none⟩) (.int .i64 0) hz6).setNew (p:=⟨g6,1,none⟩) (.int .i64 0) hz6).setNew (p:=⟨g6,2,none⟩) (.int .i64 0) hz6).setNew (p:=⟨g6,3,none⟩) (.int .i64 0) hz6)
   clear s4 EX HPY hlt
   go_wp2_with fail
   refine bodyPost_ret (v:=nrV (0,0,0,0)) (by simp [results,Tryz.results201,go_sem,nrV, *]) rfl ⟨by rw [V.out],KE.out⟩
 ·rw [hq]
  have V:Hid (nearAt (peerN P id) lev=(0,0,0,0)):=lH (by rw [hpy];exact near_out (Nat.zero_le _))
  have KE:=lH ((((EX.setNew (p:=⟨g6,0,none⟩) (.int .i64 0) hz6).setNew (p:=⟨g6,1,none⟩) (.int .i64 0) hz6).setNew (p:=⟨g6,2,none⟩) (.int .i64 0) hz6).setNew (p:=⟨g6,3,none⟩) (.int .i64 0) hz6)
  clear hq hpy EX h2
  go_wp2_with fail
  refine bodyPost_ret (v:=nrV (0,0,0,0)) (by simp [results,Tryz.results201,go_sem,nrV, *]) rfl ⟨by rw [V.out],KE.out⟩
theorem link_no {N:List Nd} {p:Pr} {lev:Int} (h:¬ ((findN N p.id).2=true∧checkN N=0∧lvlN lev=true∧lev≤p.near.length)):linkB N p lev=(0,0):=by unfold linkB;rw [if_neg h]
theorem link_zero {N:List Nd} {p:Pr} {lev:Int} (h:(findN N p.id).2=true∧checkN N=0∧lvlN lev=true∧lev≤p.near.length) (h0:lev=0):linkB N p lev=(otherN N p.left p.id,otherN N p.right p.id):=by unfold linkB;rw [if_pos h,if_pos h0]
theorem link_bit {N:List Nd} {p:Pr} {lev:Int} {x:Nr} (h:(findN N p.id).2=true∧checkN N=0∧lvlN lev=true∧lev≤p.near.length) (h0:¬ lev=0) (hx:nearAt p (lev-1).toNat=x) :
  (bitN (findN N p.id).1.word (lev-1)=1→linkB N p lev=(otherN N x.2.1 p.id,otherN N x.2.2.2 p.id))∧(¬ bitN (findN N p.id).1.word (lev-1)=1→linkB N p lev=(otherN N x.1 p.id,otherN N x.2.2.1 p.id)):=by
 unfold linkB
 rw [if_pos h,if_neg h0,hx]
 exact ⟨fun hb=>by rw [if_pos hb],fun hb=>by rw [if_neg hb]⟩
theorem lvl_of {lev:Int} (h0:0≤lev) (h1:lev≤16):lvlN lev=true:=by unfold lvlN;simp;omega
set_option maxRecDepth 100000 in
set_option maxHeartbeats 4000000 in
theorem link_p (a:Option Addr) (n c:Nat) (N:List Nd) (p:Pr) (a1:Option Addr) (n1 c1:Nat) (a2:Option Addr) (n2 c2:Nat) (lev:Int) (w:World) (h:Sl 3 encN w a n N) (hn:n≤1000) (hc:n≤c) (hm:c≤maxLen) (hw:∀ x∈N,x.word<4294967296) (h2:Sl 4 encNr w a2 n2 p.near) (hn2:n2≤4000000000000000000) :
  Calls Tryz.prog 90 #[.slice a n c,.agg #[.int .i64 p.id,.slice a1 n1 c1,.int .i64 p.left,.int .i64 p.right,.slice a2 n2 c2],.int .i64 lev] w fun e w'=>e=.returned (.agg #[.int .i64 (linkB N p lev).1,.int .i64 (linkB N p lev).2])∧Ex w w':=by
 have EX:=Ex.refl w
 have H0:=lH h
 have FW:=lH (find_word hw p.id)
 have LN:=lH (link_no (N:=N) (p:=p) (lev:=lev))
 have LZ:=lH (link_zero (N:=N) (p:=p) (lev:=lev))
 have LB:=lH (fun x=>link_bit (N:=N) (p:=p) (lev:=lev) (x:=x))
 have hml:=h2.len
 rw [hml] at LN LZ LB
 clear hw
 generalize hLB:linkB N p lev=L at LN LZ LB ⊢
 clear hLB
 obtain ⟨g4,hg4⟩:∃ g4,g4=w.heap.size:=⟨_,rfl⟩
 obtain ⟨g6,hg6⟩:∃ g6,g6=(w.heap.size+1):=⟨_,rfl⟩
 obtain ⟨w1,hw1⟩:∃ w1,w1=((w.alloc (.cells #[.int .i64 p.id,.slice a1 n1 c1,.int .i64 p.left,.int .i64 p.right,.slice a2 n2 c2] 150)).alloc (.cells #[.int .i64 0,.int .i64 0] 128)):=⟨_,rfl⟩
 have kk:Ex w w1:=by rw [hw1];exact (((Ex.refl w).alloc (.cells #[.int .i64 p.id,.slice a1 n1 c1,.int .i64 p.left,.int .i64 p.right,.slice a2 n2 c2] 150)).alloc (.cells #[.int .i64 0,.int .i64 0] 128))
 have B4:Blk w1 g4 [.int .i64 p.id,.slice a1 n1 c1,.int .i64 p.left,.int .i64 p.right,.slice a2 n2 c2] 150:=by rw [hw1];simp only [hg4,hg6];have hbk:=((Blk.new w [.int .i64 p.id,.slice a1 n1 c1,.int .i64 p.left,.int .i64 p.right,.slice a2 n2 c2] 150).nx (Ex.new _ (.cells #[.int .i64 0,.int .i64 0] 128)));simpa using hbk
 have B6:Blk w1 g6 [.int .i64 0,.int .i64 0] 128:=by rw [hw1];simp only [hg4,hg6];have hbk:=(Blk.new (w.alloc (.cells #[.int .i64 p.id,.slice a1 n1 c1,.int .i64 p.left,.int .i64 p.right,.slice a2 n2 c2] 150)) [.int .i64 0,.int .i64 0] 128);simpa using hbk
 have Hw1:=lH hw1
 have Hg4:=lH hg4
 have Hg6:=lH hg6
 replace h:=h.nx kk
 replace h2:=h2.nx kk
 replace EX:=EX.nx kk
 have zg6:w.heap.size≤g6:=by omega
 clear kk hw1 hg4 hg6
 go_enter Tryz.func90,Tryz.ntmps90
 go_upto_region 1 with fail
 rw [← Hw1.out,← Hg6.out,← Hg4.out]
 clear Hw1 Hg6 Hg4
 have q0:=B4.cell 0 _ rfl
 go_wp2_with fail
 (with_reducible refine (find_p _ _ _ _ p.id _ h (by omega)).mono ?_)
 rintro e w2 ⟨rfl,kk⟩
 replace h:=h.nx kk
 replace h2:=h2.nx kk
 replace EX:=EX.nx kk
 replace B4:=B4.nx kk
 replace B6:=B6.nx kk
 clear kk
 replace FW:=FW.out
 replace LN:=LN.out
 replace LZ:=LZ.out
 replace LB:=LB.out
 obtain ⟨F,hF⟩:∃ F,F=findN N p.id:=⟨_,rfl⟩
 rw [← hF] at FW LN LZ LB ⊢
 clear hF q0
 obtain ⟨⟨xi,xk,xw⟩,ok⟩:=F
 replace FW:=lH FW
 replace LN:=lH LN
 replace LZ:=lH LZ
 replace LB:=lH LB
 have B7:=Blk.new w2 [.int .i64 xi,.string xk,.int .u32 xw] 36
 have kk:=Ex.new w2 (.cells #[.int .i64 xi,.string xk,.int .u32 xw] 36)
 obtain ⟨w3,hw3⟩:∃ w3,w3=w2.alloc (.cells #[.int .i64 xi,.string xk,.int .u32 xw] 36):=⟨_,rfl⟩
 obtain ⟨g7,hg7⟩:∃ g7,g7=w2.heap.size:=⟨_,rfl⟩
 replace B7:Blk w3 g7 [.int .i64 xi,.string xk,.int .u32 xw] 36:=by rw [hw3,hg7];exact B7
 rw [← hw3] at kk
 have Hw3:=lH hw3
 have Hg7:=lH hg7
 replace h:=h.nx kk
 replace h2:=h2.nx kk
 replace EX:=EX.nx kk
 replace B4:=B4.nx kk
 replace B6:=B6.nx kk
 clear kk hw3 hg7
 simp only [Nd.val]
 go_upto_region 2 with fail
 rw [← Hg7.out,← Hw3.out]
 clear Hg7 Hw3
 have FAIL:∀ wz,wz=w3→1=1:=fun _ _=>rfl
 clear FAIL
 by_cases hok:ok=true
 case neg =>
  obtain rfl:ok=false:=by simpa using hok
  have E0:Hid (L=(0,0)):=lH (LN.out (fun hh=>by cases hh.1))
  have r0:=B6.cell 0 _ rfl
  have r1:=B6.cell 1 _ rfl
  have f0:=B6.free 0
  have f1:=B6.free 1
  have KE:=lH ((EX.setNew (p:=⟨g6,0,none⟩) (.int .i64 0) zg6).setNew (p:=⟨g6,1,none⟩) (.int .i64 0) zg6)
  clear h h2 EX B4 B6 B7 hok
  go_wp2_with fail
  refine bodyPost_ret (v:=.agg #[.int .i64 0,.int .i64 0]) (by simp [results,Tryz.results90,go_sem, *]) rfl ⟨by rw [E0.out],KE.out⟩
 subst hok
 go_wp2_with fail
 (with_reducible refine (check_p _ _ _ _ _ h (by omega) hc hm).mono ?_)
 rintro e w4 ⟨rfl,kk⟩
 replace h:=h.nx kk
 replace h2:=h2.nx kk
 replace EX:=EX.nx kk
 replace B4:=B4.nx kk
 replace B6:=B6.nx kk
 replace B7:=B7.nx kk
 clear kk
 by_cases hbad:¬ checkN N=0∨lev<0∨16<lev∨(n2:Int)<lev
 case pos =>
  have E0:Hid (L=(0,0)):=lH (LN.out (fun hh=>by
   rcases hbad with hb | hb | hb | hb
   ·exact hb hh.2.1
   ·have:=hh.2.2.1;unfold lvlN at this;simp at this;omega
   ·have:=hh.2.2.1;unfold lvlN at this;simp at this;omega
   ·have:=hh.2.2.2;omega))
  have p4:=B4.cell 4 _ rfl
  have r0:=B6.cell 0 _ rfl
  have r1:=B6.cell 1 _ rfl
  have f0:=B6.free 0
  have f1:=B6.free 1
  have KE:=lH ((EX.setNew (p:=⟨g6,0,none⟩) (.int .i64 0) zg6).setNew (p:=⟨g6,1,none⟩) (.int .i64 0) zg6)
  clear h h2 EX B4 B6 B7
  have HB:((checkN N != 0)||(decide (lev<0)||(decide (lev>16)||decide (lev>(n2:Int)))))=true:=by
   rcases hbad with hb | hb | hb | hb
   ·have:(checkN N != 0)=true:=by simpa using hb
    rw [this];rfl
   ·have:decide (lev<0)=true:=by simpa using hb
    rw [this];simp
   ·have:decide (lev>16)=true:=by simpa using hb
    rw [this];simp
   ·have:decide (lev>(n2:Int))=true:=by simpa using hb
    rw [this];simp
  clear hbad
  by_cases b1:checkN N=0
  case neg =>
   have d1:(checkN N != 0)=true:=by simpa using b1
   clear HB b1
   go_wp2_with fail
   refine bodyPost_ret (v:=.agg #[.int .i64 0,.int .i64 0]) (by simp [results,Tryz.results90,go_sem, *]) rfl ⟨by rw [E0.out],KE.out⟩
  have d1:(checkN N != 0)=false:=by simpa using b1
  rw [d1] at HB
  clear b1
  by_cases b2:lev<0
  ·clear HB
   go_wp2_with fail
   refine bodyPost_ret (v:=.agg #[.int .i64 0,.int .i64 0]) (by simp [results,Tryz.results90,go_sem, *]) rfl ⟨by rw [E0.out],KE.out⟩
  by_cases b3:lev>16
  ·clear HB
   go_wp2_with fail
   refine bodyPost_ret (v:=.agg #[.int .i64 0,.int .i64 0]) (by simp [results,Tryz.results90,go_sem, *]) rfl ⟨by rw [E0.out],KE.out⟩
  have b4:lev>(n2:Int):=by
   have e2:decide (lev<0)=false:=by simpa using b2
   have e3:decide (lev>16)=false:=by simpa using b3
   rw [e2,e3] at HB
   simpa using HB
  clear HB
  go_wp2_with fail
  refine bodyPost_ret (v:=.agg #[.int .i64 0,.int .i64 0]) (by simp [results,Tryz.results90,go_sem, *]) rfl ⟨by rw [E0.out],KE.out⟩
 have hck:checkN N=0:=Decidable.byContradiction (fun h=>hbad (.inl h))
 have hl0:0≤lev:=by omega
 have hl1:lev≤16:=by omega
 have hl2:lev≤(n2:Int):=by omega
 have CND:Hid (True∧checkN N=0∧lvlN lev=true∧lev≤(n2:Int)):=lH ⟨trivial,hck,lvl_of hl0 hl1,hl2⟩
 have d1:(checkN N != 0)=false:=by simpa using hck
 have d2:decide (lev<0)=false:=by simp;omega
 have d3:decide (lev>16)=false:=by simp;omega
 have d4:decide (lev>(n2:Int))=false:=by simp;omega
 have FWh:=FW.out trivial
 clear hbad hck LN FW
 obtain ⟨k,rfl⟩:=Int.eq_ofNat_of_zero_le hl0
 have p2:=B4.cell 2 _ rfl
 have p3:=B4.cell 3 _ rfl
 have p4:=B4.cell 4 _ rfl
 go_upto_region 4 with fail
 by_cases h0:(k:Int)=0
 ·have E0:=lH (LZ.out CND.out h0)
  have hk0:k=0:=by omega
  subst hk0
  have B9:=Blk.new w4 [.int .i64 p.left,.int .i64 p.right] 128
  have kk:=Ex.new w4 (.cells #[.int .i64 p.left,.int .i64 p.right] 128)
  obtain ⟨w5,hw5⟩:∃ w5,w5=w4.alloc (.cells #[.int .i64 p.left,.int .i64 p.right] 128):=⟨_,rfl⟩
  obtain ⟨g9,hg9⟩:∃ g9,g9=w4.heap.size:=⟨_,rfl⟩
  replace B9:Blk w5 g9 [.int .i64 p.left,.int .i64 p.right] 128:=by rw [hw5,hg9];exact B9
  rw [← hw5] at kk
  have Hw5:=lH hw5
  have Hg9:=lH hg9
  replace EX:=EX.nx kk
  replace B4:=B4.nx kk
  replace B6:=B6.nx kk
  clear kk hw5 hg9
  clear h h2 B7 LZ LB h0
  go_upto_region 10 with fail
  clear p2 p3 p4
  rw [← Hg9.out,← Hw5.out]
  clear Hg9 Hw5
  have Y0:Hid (∀ wq,Ex w5 wq→wq.cell? ⟨g9,0,none⟩=some (.int .i64 p.left)):=lH (fun wq kq=>(B9.nx kq).cell 0 _ rfl)
  have Y1:Hid (∀ wq,Ex w5 wq→wq.cell? ⟨g9,1,none⟩=some (.int .i64 p.right)):=lH (fun wq kq=>(B9.nx kq).cell 1 _ rfl)
  have QI:Hid (∀ wq,Ex w5 wq→wq.cell? ⟨g4,0,none⟩=some (.int .i64 p.id)):=lH (fun wq kq=>(B4.nx kq).cell 0 _ rfl)
  have HS:=lH (H0.out.nx EX)
  have K:=lH EX
  replace B6:=lH B6
  clear B9 B4 EX
  refine wp_region_late_drew (S:=Ex w5) [13] (by kernel_rfl) ((Ex.refl w5).drew) (fun hHeld=>?_)
  obtain ⟨wd,hwdx⟩:∃ wd:World,wd=World.drew w5:=⟨_,rfl⟩
  rw [← hwdx] at hHeld ⊢
  have hDrew:Ex w5 wd:=by rw [hwdx];exact (Ex.refl w5).drew
  clear hwdx
  refine tkL 0 (v:=?_) rfl (by kernel_rfl) (fun _ _ _ h=>h) (by rfl) ?y5 hHeld ?_
  case y5=>intro wq hSw;go_simp<;>rfl
  refine tkL 1 (v:=?_) rfl (by kernel_rfl) (fun _ _ _ h=>h) (by rfl) ?y8 hHeld ?_
  case y8=>intro wq hSw;go_simp<;>rfl
  refine tkL 2 (v:=?_) rfl (by kernel_rfl) (fun _ _ _ h=>h) (by rfl) ?y11 hHeld ?_
  case y11=>intro wq hSw;(have cq:=Y0.out wq hSw;go_simp)<;>rfl
  refine tkL 3 (v:=?_) rfl (by kernel_rfl) (fun _ _ _ h=>h) (by rfl) ?y14 hHeld ?_
  case y14=>intro wq hSw;go_simp<;>rfl
  refine tkL 4 (v:=?_) rfl (by kernel_rfl) (fun _ _ _ h=>h) (by rfl) ?y17 hHeld ?_
  case y17=>intro wq hSw;(have cq:=QI.out wq hSw;go_simp)<;>rfl
  refine tkL 6 (v:=?_) rfl (by kernel_rfl) (fun _ _ _ h=>h) (by rfl) ?y20 hHeld ?_
  case y20=>intro wq hSw;go_simp<;>rfl
  refine tkL 7 (v:=?_) rfl (by kernel_rfl) (fun _ _ _ h=>h) (by rfl) ?y23 hHeld ?_
  case y23=>intro wq hSw;go_simp<;>rfl
  refine tkL 8 (v:=?_) rfl (by kernel_rfl) (fun _ _ _ h=>h) (by rfl) ?y26 hHeld ?_
  case y26=>intro wq hSw;(have cq:=Y1.out wq hSw;go_simp)<;>rfl
  refine tkL 9 (v:=?_) rfl (by kernel_rfl) (fun _ _ _ h=>h) (by rfl) ?y29 hHeld ?_
  case y29=>intro wq hSw;go_simp<;>rfl
  refine tkL 10 (v:=?_) rfl (by kernel_rfl) (fun _ _ _ h=>h) (by rfl) ?y32 hHeld ?_
  case y32=>intro wq hSw;(have cq:=QI.out wq hSw;go_simp)<;>rfl
  refine rL 5 (by kernel_rfl) rfl fun K hK=>?_
  go_simp
  (with_reducible refine (other_p _ _ _ N p.left p.id _ (HS.out.nx hHeld) hn).mono ?_)
  rintro e wb ⟨rfl,kk⟩
  replace hHeld:=hHeld.nx kk
  clear kk
  refine hK.out _ _ (hHeld) (fun hHeld=>?_)
  clear hK K
  refine rL 11 (by kernel_rfl) rfl fun K hK=>?_
  go_simp
  (with_reducible refine (other_p _ _ _ N p.right p.id _ (HS.out.nx hHeld) hn).mono ?_)
  rintro e wc ⟨rfl,kk⟩
  replace hHeld:=hHeld.nx kk
  clear kk
  have B6z:=B6.out.nx hHeld
  have f0:=B6z.free 0
  have f1:=B6z.free 1
  have r0:=B6z.cell 0 _ rfl
  have r1:=B6z.cell 1 _ rfl
  refine hK.out _ _ (hHeld) (fun hHeld=>?_)
  clear hK K
  refine tkL 12 (v:=?_) rfl (by kernel_rfl) (fun _ _ _ h=>h) (by rfl) ?y60 hHeld ?_
  case y60=>intro wq hSw;go_simp<;>rfl
  refine rLL 13 (by kernel_rfl) rfl (by rfl) fun K hK=>?_
  go_simp
  refine hK.out _ _ ?_
  clear hK K
  refine wpAnyL_done (by kernel_rfl) ?_ _
  have KE:=lH (((K.out.nx hHeld).setNew (p:=⟨g6,0,none⟩) (.int .i64 (otherN N p.left p.id)) zg6).setNew (p:=⟨g6,1,none⟩) (.int .i64 (otherN N p.right p.id)) zg6)
  clear hDrew hHeld B6z
  go_wp2_with fail
  refine bodyPost_ret (v:=.agg #[.int .i64 (otherN N p.left p.id),.int .i64 (otherN N p.right p.id)]) (by simp [results,Tryz.results90,go_sem, *]) rfl ⟨by rw [E0.out],KE.out⟩
 ·obtain ⟨x6,o6,ny,rfl,hx6,hny,hc6⟩:=h2.at (show k-1<n2 by omega)
  have LX:=lH (LB.out ny CND.out h0 (by rw [show ((k:Int)-1).toNat=k-1 by omega];exact near_at hny))
  have r0:w4.cell? ⟨x6,o6+(k-1)*4,none⟩=some (.int .i64 ny.1):=hc6 0 _ rfl
  have r1:w4.cell? ⟨x6,o6+(k-1)*4+1,none⟩=some (.int .i64 ny.2.1):=hc6 1 _ rfl
  have r2:w4.cell? ⟨x6,o6+(k-1)*4+1+1,none⟩=some (.int .i64 ny.2.2.1):=by simpa [Nat.add_assoc] using hc6 2 _ rfl
  have r3:w4.cell? ⟨x6,o6+(k-1)*4+1+1+1,none⟩=some (.int .i64 ny.2.2.2):=by simpa [Nat.add_assoc] using hc6 3 _ rfl
  have hkp:(0:Int)<(k:Int):=by omega
  have hwk:IntKind.i64.wrap ((k:Int)-1)=(k:Int)-1:=IntWalk.i64_in _ (by omega)
  have h01:(1:Int)≤(k:Int):=by omega
  have h02:(k:Int)-1<(n2:Int):=by omega
  have hl4:=B4.lt
  have hl6:=B6.lt
  have hl7:=B7.lt
  have zz:=EX.size
  have B9:=Blk.new w4 [.int .i64 p.left,.int .i64 p.right] 128
  have kk:=Ex.new w4 (.cells #[.int .i64 p.left,.int .i64 p.right] 128)
  obtain ⟨w5,hw5⟩:∃ w5,w5=w4.alloc (.cells #[.int .i64 p.left,.int .i64 p.right] 128):=⟨_,rfl⟩
  obtain ⟨g9,hg9⟩:∃ g9,g9=w4.heap.size:=⟨_,rfl⟩
  replace B9:Blk w5 g9 [.int .i64 p.left,.int .i64 p.right] 128:=by rw [hw5,hg9];exact B9
  rw [← hw5] at kk
  have Hw5:=lH hw5
  have Hg9:=lH hg9
  replace EX:=EX.nx kk
  replace B4:=B4.nx kk
  replace B6:=B6.nx kk
  replace B7:=B7.nx kk
  have zg9:w.heap.size≤g9:=by omega
  have h49:¬ g4=g9:=by omega
  have h69:¬ g6=g9:=by omega
  have h79:¬ g7=g9:=by omega
  have t0:=Chg.cellv kk r0 hx6
  have t1:=Chg.cellv kk r1 hx6
  have t2:=Chg.cellv kk r2 hx6
  have t3:=Chg.cellv kk r3 hx6
  clear r0 r1 r2 r3 kk hw5 hg9 h h2 hc6 hny LB LZ h0 hl4 hl6 hl7 zz
  go_upto_region 5 with fail
  rw [← Hg9.out,← Hw5.out]
  clear Hg9 Hw5
  have p4:=B4.cell 4 _ rfl
  clear p2 p3
  have hl9:=B9.lt
  have B10:=Blk.new w5 [.int .i64 ny.1,.int .i64 ny.2.1,.int .i64 ny.2.2.1,.int .i64 ny.2.2.2] 158
  have kk:=Ex.new w5 (.cells #[.int .i64 ny.1,.int .i64 ny.2.1,.int .i64 ny.2.2.1,.int .i64 ny.2.2.2] 158)
  obtain ⟨w6,hw6⟩:∃ w6,w6=w5.alloc (.cells #[.int .i64 ny.1,.int .i64 ny.2.1,.int .i64 ny.2.2.1,.int .i64 ny.2.2.2] 158):=⟨_,rfl⟩
  obtain ⟨g10,hg10⟩:∃ g10,g10=w5.heap.size:=⟨_,rfl⟩
  replace B10:Blk w6 g10 [.int .i64 ny.1,.int .i64 ny.2.1,.int .i64 ny.2.2.1,.int .i64 ny.2.2.2] 158:=by rw [hw6,hg10];exact B10
  rw [← hw6] at kk
  have Hw6:=lH hw6
  have Hg10:=lH hg10
  replace EX:=EX.nx kk
  replace B4:=B4.nx kk
  replace B6:=B6.nx kk
  replace B7:=B7.nx kk
  replace B9:=B9.nx kk
  have h10:¬ g10=g9:=by omega
  clear kk hw6 hg10 hl9
  go_upto_region 7 with fail
  rw [← Hg10.out,← Hw6.out]
  clear Hg10 Hw6
  clear t0 t1 t2 t3 p4
  have u0:=B10.cell 0 _ rfl
  have u2:=B10.cell 2 _ rfl
  have f0:=B9.free 0
  have f1:=B9.free 1
  have v0:=B9.cell 0 _ rfl
  have v1:=B9.cell 1 _ rfl
  have KB0:Exb g9 w6 ((w6.setCell ⟨g9,0,none⟩ (.int .i64 ny.1)).setCell ⟨g9,1,none⟩ (.int .i64 ny.2.2.1)):=((Exb.refl g9 w6).setB (p:=⟨g9,0,none⟩) _ rfl).setB (p:=⟨g9,1,none⟩) _ rfl
  have BS0:Blk ((w6.setCell ⟨g9,0,none⟩ (.int .i64 ny.1)).setCell ⟨g9,1,none⟩ (.int .i64 ny.2.2.1)) g9 [.int .i64 ny.1,.int .i64 ny.2.2.1] 128:=(B9.set 0 (.int .i64 ny.1)).set 1 (.int .i64 ny.2.2.1)
  have KS0:Ex w ((w6.setCell ⟨g9,0,none⟩ (.int .i64 ny.1)).setCell ⟨g9,1,none⟩ (.int .i64 ny.2.2.1)):=(EX.setNew (p:=⟨g9,0,none⟩) _ zg9).setNew (p:=⟨g9,1,none⟩) _ zg9
  replace B4:=lH B4
  replace B6:=lH B6
  replace B7:=lH B7
  replace B10:=lH B10
  replace KB0:=lH KB0
  replace BS0:=lH BS0
  replace KS0:=lH KS0
  clear B9 EX
  go_upto_region 8 with fail
  obtain ⟨w7,hw7⟩:∃ w7,w7=((w6.setCell ⟨g9,0,none⟩ (.int .i64 ny.1)).setCell ⟨g9,1,none⟩ (.int .i64 ny.2.2.1)):=⟨_,rfl⟩
  rw [← hw7] at KB0 BS0 KS0 ⊢
  have B9:=BS0.out
  have EX:=KS0.out
  replace B4:=B4.out.nxb h49 KB0.out
  replace B6:=B6.out.nxb h69 KB0.out
  replace B7:=B7.out.nxb h79 KB0.out
  replace B10:=B10.out.nxb h10 KB0.out
  clear hw7 KB0 BS0 KS0 f0 f1 v0 v1
  clear u0 u2
  have q2:=B7.cell 2 _ rfl
  go_wp2_with fail
  refine (bit_p xw ((k:Int)-1) _ FWh (by omega) (by omega)).mono ?_
  rintro e w8 ⟨rfl,rfl⟩
  by_cases hb:bitN xw ((k:Int)-1)=1
  ·have E0:=lH (LX.out.1 hb)
   have db:(((bitN xw ((k:Int)-1):Nat):Int)==1)=true:=by rw [hb];rfl
   clear hb FWh LX
   have u0:=B10.cell 1 _ rfl
   have u2:=B10.cell 3 _ rfl
   have f0:=B9.free 0
   have f1:=B9.free 1
   have v0:=B9.cell 0 _ rfl
   have v1:=B9.cell 1 _ rfl
   have KB0:Exb g9 w7 ((w7.setCell ⟨g9,0,none⟩ (.int .i64 ny.2.1)).setCell ⟨g9,1,none⟩ (.int .i64 ny.2.2.2)):=((Exb.refl g9 w7).setB (p:=⟨g9,0,none⟩) _ rfl).setB (p:=⟨g9,1,none⟩) _ rfl
   have BS0:Blk ((w7.setCell ⟨g9,0,none⟩ (.int .i64 ny.2.1)).setCell ⟨g9,1,none⟩ (.int .i64 ny.2.2.2)) g9 [.int .i64 ny.2.1,.int .i64 ny.2.2.2] 128:=(B9.set 0 (.int .i64 ny.2.1)).set 1 (.int .i64 ny.2.2.2)
   have KS0:Ex w ((w7.setCell ⟨g9,0,none⟩ (.int .i64 ny.2.1)).setCell ⟨g9,1,none⟩ (.int .i64 ny.2.2.2)):=(EX.setNew (p:=⟨g9,0,none⟩) _ zg9).setNew (p:=⟨g9,1,none⟩) _ zg9
   replace B4:=lH B4
   replace B6:=lH B6
   replace B7:=lH B7
   replace B10:=lH B10
   replace KB0:=lH KB0
   replace BS0:=lH BS0
   replace KS0:=lH KS0
   clear B9 EX
   go_upto_region 10 with fail
   obtain ⟨w9,hw9⟩:∃ w9,w9=((w7.setCell ⟨g9,0,none⟩ (.int .i64 ny.2.1)).setCell ⟨g9,1,none⟩ (.int .i64 ny.2.2.2)):=⟨_,rfl⟩
   rw [← hw9] at KB0 BS0 KS0 ⊢
   have B9:=BS0.out
   have EX:=KS0.out
   replace B4:=B4.out.nxb h49 KB0.out
   replace B6:=B6.out.nxb h69 KB0.out
   replace B7:=B7.out.nxb h79 KB0.out
   replace B10:=B10.out.nxb h10 KB0.out
   clear hw9 KB0 BS0 KS0 f0 f1 v0 v1
   clear u0 u2 q2 B7 B10
   have Y0:Hid (∀ wq,Ex w9 wq→wq.cell? ⟨g9,0,none⟩=some (.int .i64 ny.2.1)):=lH (fun wq kq=>(B9.nx kq).cell 0 _ rfl)
   have Y1:Hid (∀ wq,Ex w9 wq→wq.cell? ⟨g9,1,none⟩=some (.int .i64 ny.2.2.2)):=lH (fun wq kq=>(B9.nx kq).cell 1 _ rfl)
   have QI:Hid (∀ wq,Ex w9 wq→wq.cell? ⟨g4,0,none⟩=some (.int .i64 p.id)):=lH (fun wq kq=>(B4.nx kq).cell 0 _ rfl)
   have HS:=lH (H0.out.nx EX)
   have K:=lH EX
   replace B6:=lH B6
   clear B9 B4 EX
   refine wp_region_late_drew (S:=Ex w9) [13] (by kernel_rfl) ((Ex.refl w9).drew) (fun hHeld=>?_)
   obtain ⟨wd,hwdx⟩:∃ wd:World,wd=World.drew w9:=⟨_,rfl⟩
   rw [← hwdx] at hHeld ⊢
   have hDrew:Ex w9 wd:=by rw [hwdx];exact (Ex.refl w9).drew
   clear hwdx
   refine tkL 0 (v:=?_) rfl (by kernel_rfl) (fun _ _ _ h=>h) (by rfl) ?y5 hHeld ?_
   case y5=>intro wq hSw;go_simp<;>rfl
   refine tkL 1 (v:=?_) rfl (by kernel_rfl) (fun _ _ _ h=>h) (by rfl) ?y8 hHeld ?_
   case y8=>intro wq hSw;go_simp<;>rfl
   refine tkL 2 (v:=?_) rfl (by kernel_rfl) (fun _ _ _ h=>h) (by rfl) ?y11 hHeld ?_
   case y11=>intro wq hSw;(have cq:=Y0.out wq hSw;go_simp)<;>rfl
   refine tkL 3 (v:=?_) rfl (by kernel_rfl) (fun _ _ _ h=>h) (by rfl) ?y14 hHeld ?_
   case y14=>intro wq hSw;go_simp<;>rfl
   refine tkL 4 (v:=?_) rfl (by kernel_rfl) (fun _ _ _ h=>h) (by rfl) ?y17 hHeld ?_
   case y17=>intro wq hSw;(have cq:=QI.out wq hSw;go_simp)<;>rfl
   refine tkL 6 (v:=?_) rfl (by kernel_rfl) (fun _ _ _ h=>h) (by rfl) ?y20 hHeld ?_
   case y20=>intro wq hSw;go_simp<;>rfl
   refine tkL 7 (v:=?_) rfl (by kernel_rfl) (fun _ _ _ h=>h) (by rfl) ?y23 hHeld ?_
   case y23=>intro wq hSw;go_simp<;>rfl
   refine tkL 8 (v:=?_) rfl (by kernel_rfl) (fun _ _ _ h=>h) (by rfl) ?y26 hHeld ?_
   case y26=>intro wq hSw;(have cq:=Y1.out wq hSw;go_simp)<;>rfl
   refine tkL 9 (v:=?_) rfl (by kernel_rfl) (fun _ _ _ h=>h) (by rfl) ?y29 hHeld ?_
   case y29=>intro wq hSw;go_simp<;>rfl
   refine tkL 10 (v:=?_) rfl (by kernel_rfl) (fun _ _ _ h=>h) (by rfl) ?y32 hHeld ?_
   case y32=>intro wq hSw;(have cq:=QI.out wq hSw;go_simp)<;>rfl
   refine rL 5 (by kernel_rfl) rfl fun K hK=>?_
   go_simp
   (with_reducible refine (other_p _ _ _ N ny.2.1 p.id _ (HS.out.nx hHeld) hn).mono ?_)
   rintro e wb ⟨rfl,kk⟩
   replace hHeld:=hHeld.nx kk
   clear kk
   refine hK.out _ _ (hHeld) (fun hHeld=>?_)
   clear hK K
   refine rL 11 (by kernel_rfl) rfl fun K hK=>?_
   go_simp
   (with_reducible refine (other_p _ _ _ N ny.2.2.2 p.id _ (HS.out.nx hHeld) hn).mono ?_)
   rintro e wc ⟨rfl,kk⟩
   replace hHeld:=hHeld.nx kk
   clear kk
   have B6z:=B6.out.nx hHeld
   have f0:=B6z.free 0
   have f1:=B6z.free 1
   have r0:=B6z.cell 0 _ rfl
   have r1:=B6z.cell 1 _ rfl
   refine hK.out _ _ (hHeld) (fun hHeld=>?_)
   clear hK K
   refine tkL 12 (v:=?_) rfl (by kernel_rfl) (fun _ _ _ h=>h) (by rfl) ?y60 hHeld ?_
   case y60=>intro wq hSw;go_simp<;>rfl
   refine rLL 13 (by kernel_rfl) rfl (by rfl) fun K hK=>?_
   go_simp
   refine hK.out _ _ ?_
   clear hK K
   refine wpAnyL_done (by kernel_rfl) ?_ _
   have KE:=lH (((K.out.nx hHeld).setNew (p:=⟨g6,0,none⟩) (.int .i64 (otherN N ny.2.1 p.id)) zg6).setNew (p:=⟨g6,1,none⟩) (.int .i64 (otherN N ny.2.2.2 p.id)) zg6)
   clear hDrew hHeld B6z
   go_wp2_with fail
   refine bodyPost_ret (v:=.agg #[.int .i64 (otherN N ny.2.1 p.id),.int .i64 (otherN N ny.2.2.2 p.id)]) (by simp [results,Tryz.results90,go_sem, *]) rfl ⟨by rw [E0.out],KE.out⟩
  ·have E0:=lH (LX.out.2 hb)
   have db:(((bitN xw ((k:Int)-1):Nat):Int)==1)=false:=by simp;omega
   clear hb FWh LX
   go_upto_region 10 with fail
   clear q2 B7 B10
   have Y0:Hid (∀ wq,Ex w7 wq→wq.cell? ⟨g9,0,none⟩=some (.int .i64 ny.1)):=lH (fun wq kq=>(B9.nx kq).cell 0 _ rfl)
   have Y1:Hid (∀ wq,Ex w7 wq→wq.cell? ⟨g9,1,none⟩=some (.int .i64 ny.2.2.1)):=lH (fun wq kq=>(B9.nx kq).cell 1 _ rfl)
   have QI:Hid (∀ wq,Ex w7 wq→wq.cell? ⟨g4,0,none⟩=some (.int .i64 p.id)):=lH (fun wq kq=>(B4.nx kq).cell 0 _ rfl)
   have HS:=lH (H0.out.nx EX)
   have K:=lH EX
   replace B6:=lH B6
   clear B9 B4 EX
   refine wp_region_late_drew (S:=Ex w7) [13] (by kernel_rfl) ((Ex.refl w7).drew) (fun hHeld=>?_)
   obtain ⟨wd,hwdx⟩:∃ wd:World,wd=World.drew w7:=⟨_,rfl⟩
   rw [← hwdx] at hHeld ⊢
   have hDrew:Ex w7 wd:=by rw [hwdx];exact (Ex.refl w7).drew
   clear hwdx
   refine tkL 0 (v:=?_) rfl (by kernel_rfl) (fun _ _ _ h=>h) (by rfl) ?y5 hHeld ?_
   case y5=>intro wq hSw;go_simp<;>rfl
   refine tkL 1 (v:=?_) rfl (by kernel_rfl) (fun _ _ _ h=>h) (by rfl) ?y8 hHeld ?_
   case y8=>intro wq hSw;go_simp<;>rfl
   refine tkL 2 (v:=?_) rfl (by kernel_rfl) (fun _ _ _ h=>h) (by rfl) ?y11 hHeld ?_
   case y11=>intro wq hSw;(have cq:=Y0.out wq hSw;go_simp)<;>rfl
   refine tkL 3 (v:=?_) rfl (by kernel_rfl) (fun _ _ _ h=>h) (by rfl) ?y14 hHeld ?_
   case y14=>intro wq hSw;go_simp<;>rfl
   refine tkL 4 (v:=?_) rfl (by kernel_rfl) (fun _ _ _ h=>h) (by rfl) ?y17 hHeld ?_
   case y17=>intro wq hSw;(have cq:=QI.out wq hSw;go_simp)<;>rfl
   refine tkL 6 (v:=?_) rfl (by kernel_rfl) (fun _ _ _ h=>h) (by rfl) ?y20 hHeld ?_
   case y20=>intro wq hSw;go_simp<;>rfl
   refine tkL 7 (v:=?_) rfl (by kernel_rfl) (fun _ _ _ h=>h) (by rfl) ?y23 hHeld ?_
   case y23=>intro wq hSw;go_simp<;>rfl
   refine tkL 8 (v:=?_) rfl (by kernel_rfl) (fun _ _ _ h=>h) (by rfl) ?y26 hHeld ?_
   case y26=>intro wq hSw;(have cq:=Y1.out wq hSw;go_simp)<;>rfl
   refine tkL 9 (v:=?_) rfl (by kernel_rfl) (fun _ _ _ h=>h) (by rfl) ?y29 hHeld ?_
   case y29=>intro wq hSw;go_simp<;>rfl
   refine tkL 10 (v:=?_) rfl (by kernel_rfl) (fun _ _ _ h=>h) (by rfl) ?y32 hHeld ?_
   case y32=>intro wq hSw;(have cq:=QI.out wq hSw;go_simp)<;>rfl
   refine rL 5 (by kernel_rfl) rfl fun K hK=>?_
   go_simp
   (with_reducible refine (other_p _ _ _ N ny.1 p.id _ (HS.out.nx hHeld) hn).mono ?_)
   rintro e wb ⟨rfl,kk⟩
   replace hHeld:=hHeld.nx kk
   clear kk
   refine hK.out _ _ (hHeld) (fun hHeld=>?_)
   clear hK K
   refine rL 11 (by kernel_rfl) rfl fun K hK=>?_
   go_simp
   (with_reducible refine (other_p _ _ _ N ny.2.2.1 p.id _ (HS.out.nx hHeld) hn).mono ?_)
   rintro e wc ⟨rfl,kk⟩
   replace hHeld:=hHeld.nx kk
   clear kk
   have B6z:=B6.out.nx hHeld
   have f0:=B6z.free 0
   have f1:=B6z.free 1
   have r0:=B6z.cell 0 _ rfl
   have r1:=B6z.cell 1 _ rfl
   refine hK.out _ _ (hHeld) (fun hHeld=>?_)
   clear hK K
   refine tkL 12 (v:=?_) rfl (by kernel_rfl) (fun _ _ _ h=>h) (by rfl) ?y60 hHeld ?_
   case y60=>intro wq hSw;go_simp<;>rfl
   refine rLL 13 (by kernel_rfl) rfl (by rfl) fun K hK=>?_
   go_simp
   refine hK.out _ _ ?_
   clear hK K
   refine wpAnyL_done (by kernel_rfl) ?_ _
   have KE:=lH (((K.out.nx hHeld).setNew (p:=⟨g6,0,none⟩) (.int .i64 (otherN N ny.1 p.id)) zg6).setNew (p:=⟨g6,1,none⟩) (.int .i64 (otherN N ny.2.2.1 p.id)) zg6)
   clear hDrew hHeld B6z
   go_wp2_with fail
   refine bodyPost_ret (v:=.agg #[.int .i64 (otherN N ny.1 p.id),.int .i64 (otherN N ny.2.2.1 p.id)]) (by simp [results,Tryz.results90,go_sem, *]) rfl ⟨by rw [E0.out],KE.out⟩
end Go.Proofs.YthcholmhmcpooaaGreatDoor
