/- Texts for FlightOrdersProof. -/
import Derived.Deep.CutBlock
import Derived.Test.YthdkeibapcaclaaGreatDoorFmAll12
import Derived.Test.YthdkeibapcaclaaGreatDoorFmACD1
import Derived.Test.YthdkeibapcaclaaGreatDoorFmABD1
import Derived.Test.YthdkeibapcaclaaGreatDoorFmBCD1
import Derived.Test.YthdkeibapcaclaaGreatDoorFmCD1
set_option linter.unusedSimpArgs false
set_option linter.unusedVariables false

namespace Go.Proofs.YthdkeibapcaclaaGreatDoor
open Go.RowKit
theorem pr_ext {p q:Pr} (h1:p.id=q.id) (h2:p.left=q.left) (h3:p.right=q.right) (h4:p.known=q.known) (h5:p.near=q.near):p=q:=by
 cases p;cases q
 simp only at h1 h2 h3 h4 h5
 subst h1 h2 h3 h4 h5
 rfl
section
variable {N:List Nd} {f g:Fl}
theorem delTo_cop (h0:checkN N=0) {D:List (Int×Int)} (h:DelTo N f g D):DelTo N f (copF N g) D :=
 ⟨fun x hx=>by rw [cop_peer h0 hx];exact h.1 x hx,fun m=>by rw [cop_msgs h0];exact h.2 m⟩
theorem del_next (h0:checkN N=0) {D:List (Int×Int)} (h:DelTo N f g D) {k:Nat} (hk:k<max g.msgs.length 1):∃ D',DelTo N f (delF N g k) D'∧(delF N g k).msgs.length=g.msgs.length-1:=by
 cases hm:g.msgs[k]? with
 | none =>
  have hl:g.msgs.length=0:=by have:=List.getElem?_eq_none_iff.1 hm;omega
  have e:delF N g k=copF N g:=by unfold delF;rw [if_pos (by omega),cop_msgs h0,Int.toNat_natCast,hm]
  rw [e]
  exact ⟨D,delTo_cop h0 h,by rw [cop_msgs h0,hl]⟩
 | some m =>
  refine ⟨m::D,del_step h0 h hm,?_⟩
  rw [del_some h0 hm]
  show (g.msgs.eraseIdx k).length=_
  rw [List.length_eraseIdx,if_pos (List.getElem?_eq_some_iff.1 hm).1]
def endP (N:List Nd) (p:Pr):Pr:={ p with known:=refsN N ⟨p.id,0,0,p.known,[]⟩ }
theorem orders_law (h0:checkN N=0) {f' a b:Fl} {Da Db:List (Int×Int)} (ha:DelTo N f a Da) (hb:DelTo N f' b Db) (hp:f'.peers=f.peers) (hms:∀ m,m∈f'.msgs↔m∈f.msgs) (ea:a.msgs=[]) (eb:b.msgs=[]) (na:NormF N a) (nb:NormF N b) :
  a.peers.map (endP N)=b.peers.map (endP N):=by
 have hD:∀ m,m∈Da↔m∈Db:=fun m=>by
  have h1:=ha.2 m
  have h2:=hb.2 m
  rw [ea] at h1
  rw [eb] at h2
  simp only [List.not_mem_nil,false_or] at h1 h2
  rw [← h1,← h2,hms]
 apply List.ext_getElem?
 intro j
 rw [List.getElem?_map,List.getElem?_map]
 cases hx:(sortN N)[j]? with
 | none =>
  have hl:=List.getElem?_eq_none_iff.1 hx
  rw [sortN_length] at hl
  rw [List.getElem?_eq_none (by rw [norm_lenF na];exact hl),List.getElem?_eq_none (by rw [norm_lenF nb];exact hl)]
 | some x =>
  have hxN:=(sortN_mem N x).1 (List.mem_of_getElem? hx)
  rw [norm_at h0 na hx,norm_at h0 nb hx]
  obtain ⟨a1,a2,a3,a4⟩:=ha.1 x hxN
  obtain ⟨b1,b2,b3,b4⟩:=hb.1 x hxN
  rw [hp] at b1 b2 b3 b4
  refine congrArg some (pr_ext ?_ ?_ ?_ ?_ ?_)
  ·show (peerN a.peers x.id).id=(peerN b.peers x.id).id
   rw [peer_id,peer_id]
  ·exact a1.trans b1.symm
  ·exact a2.trans b2.symm
  ·refine refs_weak (by show (peerN a.peers x.id).id=(peerN b.peers x.id).id;rw [peer_id,peer_id]) fun v hv hne=>?_
   have hne':v≠x.id:=fun e=>hne (by show v=(peerN a.peers x.id).id;rw [peer_id];exact e)
   unfold numsP
   simp only [List.mem_append,List.flatMap_nil,List.not_mem_nil,or_false]
   rw [a4 v hv hne',b4 v hv hne',hD]
  ·exact a3.trans b3.symm
theorem dbl_same (h:Nat) {k:Nat} (hk:k<f.msgs.length) (m:Int×Int):m∈(dblF f k h).msgs↔m∈f.msgs:=by
 unfold dblF
 split
 ·rw [Int.toNat_natCast,List.getElem?_eq_getElem hk]
  show m∈f.msgs++[f.msgs[k]]↔_
  rw [List.mem_append,List.mem_singleton]
  constructor
  ·rintro (h | h)
   ·exact h
   ·rw [h];exact List.getElem_mem hk
  ·exact .inl
 ·exact Iff.rfl
end
structure PsOf (k m b:Nat) (w w':World) (v:Value) (qs:List PQ) (P:List Pr):Prop where
 own:OwnPr w.heap.size w' v qs P
 len:P.length≤k
 few:FewP m P
 tape:TK w' b
 k:Exb b w w'
def PsPost (k m b:Nat) (w:World) (e:Ending) (w':World):Prop:=∃ v qs P,e=.returned v∧PsOf k m b w w' v qs P
def PsLoop (n m b:Nat) (w:World) (o i:Value) (wr:World):Prop:=∃ (j:Nat) (qs:List PQ) (P:List Pr),j≤n∧i=.int .i64 j∧PsOf j m b w wr o qs P
set_option maxRecDepth 100000 in
set_option maxHeartbeats 8000000 in
theorem peers_t {b:Nat} (ht:Nat) (a:Option Addr) (na cp:Nat) (l:List Nd) (w:World) (h:TK w b) (hs:Slb 3 encN b w a na l) (hna:na≤1000) (hi:∀ x∈l,I64 x.id) (hht:ht≤100) :
  Calls Tryz.prog 14 #[.pointer (some ⟨b,0,none⟩),.slice a na cp,.int .i64 ht] w (PsPost (na+1) (ht+1) b w):=by
 have hbw:=h.lt
 have HI:=lH hi
 have HS:=lH hs
 clear hi hs
 go_enter Tryz.func14,Tryz.ntmps14
 go_wp2_with fail
 go_loopw [7,8] (fun o i wr=>PsLoop na (ht+1) b w o i wr) (fun _ i _=>na-(intOf i).toNat)
 case atStart=>exact ⟨0,[],[],by omega,rfl,OwnP.nil _ _ _ _ _,by simp,by intro p hp;simp at hp,h,Exb.refl _ _⟩
 case round =>
  clear h
  obtain ⟨j,qs,P,hj,rfl,R⟩:=hrel
  obtain ⟨wo,rfl⟩:∃ wo:World,wo=wr:=⟨_,rfl⟩
  have T:=R.tape
  have hPl:=R.len
  have zo:=R.k.size
  have hql:qs.length≤1001:=by have:=R.own.2.1;omega
  have R:=lH R
  by_cases hjn:j<na
  ·obtain ⟨xl,ol,y,rfl,hxl,hy,hcl⟩:=Rd.at (HS.out.nxb R.out.k) (j:=j) hjn
   have e0:wo.cell? ⟨xl,ol+j*3,none⟩=some (.int .i64 y.id):=hcl 0 _ rfl
   have hyi:=lH (HI.out y (List.mem_of_getElem? hy))
   clear hcl hy
   go_wp2_with fail
   (refine (peer_t ht _ _ _ l _ T (HS.out.nxb R.out.k) hna HI.out hht).mono ?_)
   clear T
   rintro e w2 ⟨p,⟨A1,m1,c1⟩,⟨A4,m4,c4⟩,rfl,D⟩
   have ok:=D.ok
   have on:=D.on
   have T:=D.tape
   have K2:=lH D.k
   have dl:=lH (show p.known.length≤3∧p.near.length≤ht+1∧I64 p.id from ⟨D.lk,D.ln,D.id⟩)
   replace e0:=Chg.cellv D.k e0 hxl
   have hx2:=Nat.lt_of_lt_of_le hxl.1 D.k.size
   have hxb:=hxl.2
   simp only [Hdr.val] at ok on ⊢
   have z2:=D.k.size
   clear D
   have B9:=Blk.new w2 [.int .i64 p.id,.slice A1 m1 c1,.int .i64 p.left,.int .i64 p.right,.slice A4 m4 c4] 36
   have kk:=Ex.new w2 (.cells #[.int .i64 p.id,.slice A1 m1 c1,.int .i64 p.left,.int .i64 p.right,.slice A4 m4 c4] 36)
   obtain ⟨w3,hw3⟩:∃ w3,w3=w2.alloc (.cells #[.int .i64 p.id,.slice A1 m1 c1,.int .i64 p.left,.int .i64 p.right,.slice A4 m4 c4] 36):=⟨_,rfl⟩
   obtain ⟨g9,hg9⟩:∃ g9,g9=w2.heap.size:=⟨_,rfl⟩
   replace B9:Blk w3 g9 [.int .i64 p.id,.slice A1 m1 c1,.int .i64 p.left,.int .i64 p.right,.slice A4 m4 c4] 36:=by rw [hw3,hg9];exact B9
   rw [← hw3] at kk
   have Hw3:=lH hw3
   have Hg9:=lH hg9
   replace ok:=ok.nx kk
   replace on:=on.nx kk
   replace T:=T.nx kk
   have zg9:wo.heap.size≤g9:=by omega
   have n9b:g9≠b:=by omega
   have zb9:b<g9:=by omega
   have nx9:¬ xl=g9:=by omega
   replace e0:=Chg.cellv (p:=⟨xl,ol+j*3,none⟩) kk e0 hx2
   replace K2:=lH (K2.out.nxb (kk.b b))
   have hx3:=Nat.lt_of_lt_of_le hx2 kk.size
   clear kk hw3 hg9
   go_upto_region 6 with fail
   rw [← Hg9.out,← Hw3.out]
   clear Hg9 Hw3
   go_wp2_with fail
   (refine (bool_t 8 _ T (by omega) (by omega)).mono ?_)
   clear T
   rintro e w4 ⟨rb,rfl,T,kk⟩
   replace K2:=lH (K2.out.nxb kk)
   replace B9:=B9.nxb n9b kk
   replace ok:=ok.nxb (by omega) kk
   replace on:=on.nxb (by omega) kk
   replace e0:=Chg.cellv (p:=⟨xl,ol+j*3,none⟩) kk e0 ⟨hx3,hxb⟩
   clear kk
   have OWN4:=lH (R.out.own.nxb hbw K2.out)
   have KW4:=lH (R.out.k.nxb K2.out)
   cases rb with
   | true =>
    have RR:=lH (show PsLoop na (ht+1) b w u7 (.int .i64 ((j:Int)+1)) w4 from ⟨j+1,qs,P,by omega,by go_num,OWN4.out,by omega,R.out.few,T,KW4.out⟩)
    clear ok on T B9 e0
    go_wp2_with fail
    exact ⟨RR.out,by simp [intOf];omega⟩
   | false =>
    have c0:=B9.cell 0 _ rfl
    have f0:=B9.free 0
    have KS:Exb g9 w4 (w4.setCell ⟨g9,0,none⟩ (.int .i64 y.id)):=(Exb.refl g9 w4).setB (p:=⟨g9,0,none⟩) _ rfl
    obtain ⟨w5,hw5⟩:∃ w5,w5=w4.setCell ⟨g9,0,none⟩ (.int .i64 y.id):=⟨_,rfl⟩
    go_upto_region 8 with fail
    rw [← hw5] at KS ⊢
    have ok5:=ok.put B9 (by decide) KS
    have on5:=on.put B9 (by decide) KS
    have T5:TK w5 b:=by rw [hw5];exact T.set (p:=⟨g9,0,none⟩) _ zb9
    have K5:Exb b wo w5:=by rw [hw5];exact K2.out.setNew (p:=⟨g9,0,none⟩) _ zg9
    replace B9:Blk w5 g9 [.int .i64 y.id,.slice A1 m1 c1,.int .i64 p.left,.int .i64 p.right,.slice A4 m4 c4] 36:=by rw [hw5];exact B9.set 0 _
    have p0:=B9.cell 0 _ rfl
    have p1:=B9.cell 1 _ rfl
    have p2:=B9.cell 2 _ rfl
    have p3:=B9.cell 3 _ rfl
    have p4:=B9.cell 4 _ rfl
    have OWN5:=lH (R.out.own.nxb hbw K5)
    have KW5:=lH (R.out.k.nxb K5)
    have kl:=Ex.new w5 (.cells #[.int .i64 y.id,.slice A1 m1 c1,.int .i64 p.left,.int .i64 p.right,.slice A4 m4 c4] 36)
    have OL:=lH (OWN5.out.nx kl)
    have okl:=lH (ok5.nx kl)
    have onl:=lH (on5.nx kl)
    have Tl:=T5.nx kl
    have KL:=lH (KW5.out.nxb (kl.b b))
    have zl:=KL.out.size
    clear hw5 c0 f0 KS ok on T B9 e0 T5 K5 ok5 on5 kl
    go_wp2_with (at_builtin;(refine wpList_append_W (enc:=encQ) _ rfl _ _ 24 rfl w.heap.size 36 (.agg #[.int .i64 0,.slice none 0 0,.int .i64 0,.int .i64 0,.slice none 0 0]) 5 72 Tryz.underlying24 Tryz.infoPr rfl (by omega) (by omega) _ qs OL.out.row rfl _ 1 1 [((y.id,p.left,p.right),(A1,m1,c1),(A4,m4,c4))] (Sl.lit _ rfl rfl encQ_len rfl) encQ_len encQ_one rfl (by omega) (by omega) zl ?_);intro v9 w9 own9 ch0 ch1 _)
    have O9:=R.out.own.app2 (p:=⟨y.id,p.left,p.right,p.known,p.near⟩) (hk:=(A1,m1,c1)) (hn:=(A4,m4,c4)) (by decide) (by decide) zo OL.out okl.out onl.out own9 ch0
    exact ⟨⟨j+1,_,P++[⟨y.id,p.left,p.right,p.known,p.near⟩],by omega,by go_num,O9,by simp;omega,R.out.few.snoc ⟨dl.out.1,dl.out.2.1,hyi.out⟩,TP.chg Tl ch1 (fun x hx=>by omega),Chg.trans KL.out (ch1.mono (fun x hx=>hx.1))⟩,by simp [intOf];omega⟩
  ·obtain rfl:j=na:=by omega
   go_wp2_with fail
   (refine (bool_t 4 _ T (by omega) (by omega)).mono ?_)
   clear T
   rintro e w4 ⟨rb,rfl,T,kk⟩
   have OWN4:=lH (R.out.own.nxb hbw kk)
   have KW4:=lH (R.out.k.nxb kk)
   clear kk
   cases rb with
   | false =>
    have RR:=lH (show PsOf (j+1) (ht+1) b w w4 u7 qs P from ⟨OWN4.out,by omega,R.out.few,T,KW4.out⟩)
    clear T
    go_wp2_with fail
    go_ret
    exact ⟨_,qs,P,rfl,RR.out⟩
   | true =>
    have zo4:=KW4.out.size
    go_wp2_with fail
    (refine (peer_t ht _ _ _ l _ T (HS.out.nxb KW4.out) hna HI.out hht).mono ?_)
    clear T
    rintro e w5 ⟨p,⟨A1,m1,c1⟩,⟨A4,m4,c4⟩,rfl,D⟩
    have OWN5:=lH (OWN4.out.nxb hbw D.k)
    have KW5:=lH (KW4.out.nxb D.k)
    have dl:=lH (show p.known.length≤3∧p.near.length≤ht+1∧I64 p.id from ⟨D.lk,D.ln,D.id⟩)
    have kl:=Ex.new w5 (.cells #[.int .i64 p.id,.slice A1 m1 c1,.int .i64 p.left,.int .i64 p.right,.slice A4 m4 c4] 36)
    have OL:=lH (OWN5.out.nx kl)
    have okl:=lH (D.ok.nx kl)
    have onl:=lH (D.on.nx kl)
    have Tl:=D.tape.nx kl
    have KL:=lH (KW5.out.nxb (kl.b b))
    have zl:=KL.out.size
    simp only [Hdr.val]
    clear D kl
    go_wp2_with (at_builtin;(refine wpList_append_W (enc:=encQ) _ rfl _ _ 24 rfl w.heap.size 36 (.agg #[.int .i64 0,.slice none 0 0,.int .i64 0,.int .i64 0,.slice none 0 0]) 5 72 Tryz.underlying24 Tryz.infoPr rfl (by omega) (by omega) _ qs OL.out.row rfl _ 1 1 [((p.id,p.left,p.right),(A1,m1,c1),(A4,m4,c4))] (Sl.lit _ rfl rfl encQ_len rfl) encQ_len encQ_one rfl (by omega) (by omega) zl ?_);intro v9 w9 own9 ch0 ch1 _)
    have O9:=OWN4.out.app2 (p:=p) (hk:=(A1,m1,c1)) (hn:=(A4,m4,c4)) (by decide) (by decide) zo4 OL.out okl.out onl.out own9 ch0
    have RR:=lH (show PsOf (j+1) (ht+1) b w w9 v9 _ (P++[p]) from ⟨O9,by simp;omega,R.out.few.snoc dl.out,TP.chg Tl ch1 (fun x hx=>by omega),Chg.trans KL.out (ch1.mono (fun x hx=>hx.1))⟩)
    clear own9 ch0 ch1 O9 Tl
    go_ret
    exact ⟨_,_,_,rfl,RR.out⟩
set_option maxHeartbeats 1000000 in
theorem sameints_x (a1 a2:Option Addr) (n c1 c2:Nat) (l:List Int) (w:World) (h1:Sl 1 encI w a1 n l) (h2:Sl 1 encI w a2 n l) (hn:n≤4000000000000000000) :
  Calls Tryz.prog 74 #[.slice a1 n c1,.slice a2 n c2] w fun e w'=>e=.returned (.bool true)∧Ex w w':=by
 go_enter Tryz.func74,Tryz.ntmps74
 go_wp2_with fail
 go_loopw [5] (fun i wr=>∃ k:Nat,k≤n∧i=.int .i64 k∧Ex w wr) (fun i _=>n-(intOf i).toNat)
 case atStart=>exact ⟨0,by omega,rfl,Ex.refl _⟩
 case round =>
  obtain ⟨k,hk,rfl,kw⟩:=hrel
  obtain ⟨wo,rfl⟩:∃ wo:World,wo=wr:=⟨_,rfl⟩
  by_cases hlt:k<n
  ·obtain ⟨x1,o1,y,rfl,hx1,hy,hc1⟩:=(h1.nx kw).at hlt
   obtain ⟨x2,o2,y',rfl,hx2,hy',hc2⟩:=(h2.nx kw).at hlt
   obtain rfl:y=y':=Option.some.inj (hy.symm.trans hy')
   have e0:wo.cell? ⟨x1,o1+k,none⟩=some (.int .i64 y):=by simpa using hc1 0 _ rfl
   have f0:wo.cell? ⟨x2,o2+k,none⟩=some (.int .i64 y):=by simpa using hc2 0 _ rfl
   clear hc1 hc2 hy hy' h1 h2
   go_wp2_with fail
   go_quiet (fail)
   go_wp2_with fail
   exact ⟨⟨k+1,by omega,by go_num,kw.drewN _⟩,by simp [intOf];omega⟩
  ·obtain rfl:k=n:=by omega
   clear h1 h2 hk hlt
   go_wp2_with fail
   go_ret
   exact ⟨rfl,kw⟩
def KtRel (n:Nat) (w:World) (i:Value) (wr:World):Prop:=∃ k:Nat,k≤n∧i=.int .i64 k∧Ex w wr
set_option maxRecDepth 100000 in
set_option maxHeartbeats 16000000 in
theorem same14_r (a:Option Addr) (n c:Nat) (P:List Pr) (a2:Option Addr) (c2:Nat) (w:World) (h:PL w a n P) (h2:PL w a2 n P) (hn:n≤1000) (hP:∀ p∈P,p.known.length≤4000000000000000000∧p.near.length≤4000000000000000000) :
  Calls Tryz.prog 31 #[.slice a n c,.slice a2 n c2] w fun e w'=>e=.returned (.bool true)∧Ex w w':=by
 have H1:=lH h
 have H2:=lH h2
 have HP:=lH hP
 clear h h2 hP
 go_enter Tryz.func31,Tryz.ntmps31
 go_wp2_with fail
 go_loopw [5] (fun i wr=>KtRel n w i wr) (fun i _=>n-(intOf i).toNat)
 case atStart=>exact ⟨0,Nat.zero_le _,rfl,Ex.refl _⟩
 case round =>
  obtain ⟨k,hk,rfl,kw⟩:=hrel
  obtain ⟨wi,rfl⟩:∃ wi:World,wi=wr:=⟨_,rfl⟩
  have KW:=lH kw
  clear kw
  by_cases hlt:k<n
  ·obtain ⟨xp,op,b1,m1,d1,b4,m4,d4,y,rfl,hxp,hy,p0,p1,p2,p3,p4,s1,s4⟩:=(H1.out.nx KW.out).rd hlt
   obtain ⟨xq,oq,e1,u1,f1,e4,u4,f4,y',rfl,hxq,hy',q0,q1,q2,q3,q4,t1,t4⟩:=(H2.out.nx KW.out).rd hlt
   obtain rfl:y=y':=Option.some.inj (hy.symm.trans hy')
   obtain rfl:m1=u1:=s1.len.symm.trans t1.len
   obtain rfl:m4=u4:=s4.len.symm.trans t4.len
   have hyP:=HP.out y (List.mem_of_getElem? hy)
   have hm1:m1≤4000000000000000000:=by have:=s1.len;omega
   have hm4:m4≤4000000000000000000:=by have:=s4.len;omega
   have A0:=lH (fun wq (k:Ex wi wq)=>Chg.cellv k p0 hxp)
   have A1:=lH (fun wq (k:Ex wi wq)=>Chg.cellv k p1 hxp)
   have A2:=lH (fun wq (k:Ex wi wq)=>Chg.cellv k p2 hxp)
   have A3:=lH (fun wq (k:Ex wi wq)=>Chg.cellv k p3 hxp)
   have A4:=lH (fun wq (k:Ex wi wq)=>Chg.cellv k p4 hxp)
   have B0:=lH (fun wq (k:Ex wi wq)=>Chg.cellv k q0 hxq)
   have B1:=lH (fun wq (k:Ex wi wq)=>Chg.cellv k q1 hxq)
   have B2:=lH (fun wq (k:Ex wi wq)=>Chg.cellv k q2 hxq)
   have B3:=lH (fun wq (k:Ex wi wq)=>Chg.cellv k q3 hxq)
   have B4:=lH (fun wq (k:Ex wi wq)=>Chg.cellv k q4 hxq)
   have S1:=lH s1
   have S4:=lH s4
   have T1:=lH t1
   have T4:=lH t4
   clear p0 p1 p2 p3 p4 q0 q1 q2 q3 q4 s1 s4 t1 t4 hxp hxq hy hy' hyP
   go_upto_region 6 with fail
   refine wp_region_held_drew (S:=Ex wi) (by kernel_rfl) ((Ex.refl wi).drew) (fun hHeld=>?_)
   obtain ⟨wd,hwdx⟩:∃ wd:World,wd=World.drew wi:=⟨_,rfl⟩
   rw [← hwdx] at hHeld ⊢
   have hDrew:Ex wi wd:=by rw [hwdx];exact (Ex.refl wi).drew
   clear hwdx
   refine tkH 0 (v:=?_) rfl (by kernel_rfl) (fun _ _ _ h=>h) (by rfl) ?y1x0q5 (by assumption) ?z1x0q5
   case y1x0q5=>intro wq hSw;(go_simp);(try with_reducible rfl)
   try simp only [Act.put,sA,sB,sC]
   refine tkH 1 (v:=?_) rfl (by kernel_rfl) (fun _ _ _ h=>h) (by rfl) ?y1x1q8 (by assumption) ?z1x1q8
   case y1x1q8=>intro wq hSw;(go_simp);(try with_reducible rfl)
   try simp only [Act.put,sA,sB,sC]
   refine tkH 2 (v:=?_) rfl (by kernel_rfl) (fun _ _ _ h=>h) (by rfl) ?y1x2q11 (by assumption) ?z1x2q11
   case y1x2q11=>intro wq hSw;(go_simp);(try with_reducible rfl)
   try simp only [Act.put,sA,sB,sC]
   refine tkH 3 (v:=?_) rfl (by kernel_rfl) (fun _ _ _ h=>h) (by rfl) ?y1x3q14 (by assumption) ?z1x3q14
   case y1x3q14=>intro wq hSw;(go_simp);(try with_reducible rfl)
   try simp only [Act.put,sA,sB,sC]
   refine tkH 4 (v:=?_) rfl (by kernel_rfl) (fun _ _ _ h=>h) (by rfl) ?y1x4q17 (by assumption) ?z1x4q17
   case y1x4q17=>intro wq hSw;(have cq:=A0.out wq hSw;go_simp);(try with_reducible rfl)
   try simp only [Act.put,sA,sB,sC]
   refine tkH 5 (v:=?_) rfl (by kernel_rfl) (fun _ _ _ h=>h) (by rfl) ?y1x5q20 (by assumption) ?z1x5q20
   case y1x5q20=>intro wq hSw;(go_simp);(try with_reducible rfl)
   try simp only [Act.put,sA,sB,sC]
   refine tkH 6 (v:=?_) rfl (by kernel_rfl) (fun _ _ _ h=>h) (by rfl) ?y1x6q23 (by assumption) ?z1x6q23
   case y1x6q23=>intro wq hSw;(go_simp);(try with_reducible rfl)
   try simp only [Act.put,sA,sB,sC]
   refine tkH 7 (v:=?_) rfl (by kernel_rfl) (fun _ _ _ h=>h) (by rfl) ?y1x7q26 (by assumption) ?z1x7q26
   case y1x7q26=>intro wq hSw;(go_simp);(try with_reducible rfl)
   try simp only [Act.put,sA,sB,sC]
   refine tkH 8 (v:=?_) rfl (by kernel_rfl) (fun _ _ _ h=>h) (by rfl) ?y1x8q29 (by assumption) ?z1x8q29
   case y1x8q29=>intro wq hSw;(go_simp);(try with_reducible rfl)
   try simp only [Act.put,sA,sB,sC]
   refine tkH 9 (v:=?_) rfl (by kernel_rfl) (fun _ _ _ h=>h) (by rfl) ?y1x9q32 (by assumption) ?z1x9q32
   case y1x9q32=>intro wq hSw;(have cq:=B0.out wq hSw;go_simp);(try with_reducible rfl)
   try simp only [Act.put,sA,sB,sC]
   refine tkH 10 (v:=?_) rfl (by kernel_rfl) (fun _ _ _ h=>h) (by rfl) ?y1x10q35 (by assumption) ?z1x10q35
   case y1x10q35=>intro wq hSw;(go_simp);(try with_reducible rfl)
   try simp only [Act.put,sA,sB,sC]
   refine tkH 11 (v:=?_) rfl (by kernel_rfl) (fun _ _ _ h=>h) (by rfl) ?y1x11q38 (by assumption) ?z1x11q38
   case y1x11q38=>intro wq hSw;(go_simp);(try with_reducible rfl)
   try simp only [Act.put,sA,sB,sC]
   refine tkH 12 (v:=?_) rfl (by kernel_rfl) (fun _ _ _ h=>h) (by rfl) ?y1x12q41 (by assumption) ?z1x12q41
   case y1x12q41=>intro wq hSw;(go_simp);(try with_reducible rfl)
   try simp only [Act.put,sA,sB,sC]
   refine tkH 13 (v:=?_) rfl (by kernel_rfl) (fun _ _ _ h=>h) (by rfl) ?y1x13q44 (by assumption) ?z1x13q44
   case y1x13q44=>intro wq hSw;(go_simp);(try with_reducible rfl)
   try simp only [Act.put,sA,sB,sC]
   refine tkH 14 (v:=?_) rfl (by kernel_rfl) (fun _ _ _ h=>h) (by rfl) ?y1x14q47 (by assumption) ?z1x14q47
   case y1x14q47=>intro wq hSw;(go_simp);(try with_reducible rfl)
   try simp only [Act.put,sA,sB,sC]
   refine tkH 15 (v:=?_) rfl (by kernel_rfl) (fun _ _ _ h=>h) (by rfl) ?y1x15q50 (by assumption) ?z1x15q50
   case y1x15q50=>intro wq hSw;(go_simp);(try with_reducible rfl)
   try simp only [Act.put,sA,sB,sC]
   refine tkH 16 (v:=?_) rfl (by kernel_rfl) (fun _ _ _ h=>h) (by rfl) ?y1x16q53 (by assumption) ?z1x16q53
   case y1x16q53=>intro wq hSw;(have cq:=A2.out wq hSw;go_simp);(try with_reducible rfl)
   try simp only [Act.put,sA,sB,sC]
   refine tkH 17 (v:=?_) rfl (by kernel_rfl) (fun _ _ _ h=>h) (by rfl) ?y1x17q56 (by assumption) ?z1x17q56
   case y1x17q56=>intro wq hSw;(go_simp);(try with_reducible rfl)
   try simp only [Act.put,sA,sB,sC]
   refine tkH 18 (v:=?_) rfl (by kernel_rfl) (fun _ _ _ h=>h) (by rfl) ?y1x18q59 (by assumption) ?z1x18q59
   case y1x18q59=>intro wq hSw;(go_simp);(try with_reducible rfl)
   try simp only [Act.put,sA,sB,sC]
   refine tkH 19 (v:=?_) rfl (by kernel_rfl) (fun _ _ _ h=>h) (by rfl) ?y1x19q62 (by assumption) ?z1x19q62
   case y1x19q62=>intro wq hSw;(go_simp);(try with_reducible rfl)
   try simp only [Act.put,sA,sB,sC]
   refine tkH 20 (v:=?_) rfl (by kernel_rfl) (fun _ _ _ h=>h) (by rfl) ?y1x20q65 (by assumption) ?z1x20q65
   case y1x20q65=>intro wq hSw;(go_simp);(try with_reducible rfl)
   try simp only [Act.put,sA,sB,sC]
   refine tkH 21 (v:=?_) rfl (by kernel_rfl) (fun _ _ _ h=>h) (by rfl) ?y1x21q68 (by assumption) ?z1x21q68
   case y1x21q68=>intro wq hSw;(have cq:=B2.out wq hSw;go_simp);(try with_reducible rfl)
   try simp only [Act.put,sA,sB,sC]
   refine tkH 22 (v:=?_) rfl (by kernel_rfl) (fun _ _ _ h=>h) (by rfl) ?y1x22q71 (by assumption) ?z1x22q71
   case y1x22q71=>intro wq hSw;(go_simp);(try with_reducible rfl)
   try simp only [Act.put,sA,sB,sC]
   refine tkH 23 (v:=?_) rfl (by kernel_rfl) (fun _ _ _ h=>h) (by rfl) ?y1x23q74 (by assumption) ?z1x23q74
   case y1x23q74=>intro wq hSw;(go_simp);(try with_reducible rfl)
   try simp only [Act.put,sA,sB,sC]
   refine tkH 24 (v:=?_) rfl (by kernel_rfl) (fun _ _ _ h=>h) (by rfl) ?y1x24q77 (by assumption) ?z1x24q77
   case y1x24q77=>intro wq hSw;(go_simp);(try with_reducible rfl)
   try simp only [Act.put,sA,sB,sC]
   refine tkH 25 (v:=?_) rfl (by kernel_rfl) (fun _ _ _ h=>h) (by rfl) ?y1x25q80 (by assumption) ?z1x25q80
   case y1x25q80=>intro wq hSw;(go_simp);(try with_reducible rfl)
   try simp only [Act.put,sA,sB,sC]
   refine tkH 26 (v:=?_) rfl (by kernel_rfl) (fun _ _ _ h=>h) (by rfl) ?y1x26q83 (by assumption) ?z1x26q83
   case y1x26q83=>intro wq hSw;(go_simp);(try with_reducible rfl)
   try simp only [Act.put,sA,sB,sC]
   refine tkH 27 (v:=?_) rfl (by kernel_rfl) (fun _ _ _ h=>h) (by rfl) ?y1x27q86 (by assumption) ?z1x27q86
   case y1x27q86=>intro wq hSw;(go_simp);(try with_reducible rfl)
   try simp only [Act.put,sA,sB,sC]
   refine tkH 28 (v:=?_) rfl (by kernel_rfl) (fun _ _ _ h=>h) (by rfl) ?y1x28q89 (by assumption) ?z1x28q89
   case y1x28q89=>intro wq hSw;(go_simp);(try with_reducible rfl)
   try simp only [Act.put,sA,sB,sC]
   refine tkH 29 (v:=?_) rfl (by kernel_rfl) (fun _ _ _ h=>h) (by rfl) ?y1x29q92 (by assumption) ?z1x29q92
   case y1x29q92=>intro wq hSw;(have cq:=A3.out wq hSw;go_simp);(try with_reducible rfl)
   try simp only [Act.put,sA,sB,sC]
   refine tkH 30 (v:=?_) rfl (by kernel_rfl) (fun _ _ _ h=>h) (by rfl) ?y1x30q95 (by assumption) ?z1x30q95
   case y1x30q95=>intro wq hSw;(go_simp);(try with_reducible rfl)
   try simp only [Act.put,sA,sB,sC]
   refine tkH 31 (v:=?_) rfl (by kernel_rfl) (fun _ _ _ h=>h) (by rfl) ?y1x31q98 (by assumption) ?z1x31q98
   case y1x31q98=>intro wq hSw;(go_simp);(try with_reducible rfl)
   try simp only [Act.put,sA,sB,sC]
   refine tkH 32 (v:=?_) rfl (by kernel_rfl) (fun _ _ _ h=>h) (by rfl) ?y1x32q101 (by assumption) ?z1x32q101
   case y1x32q101=>intro wq hSw;(go_simp);(try with_reducible rfl)
   try simp only [Act.put,sA,sB,sC]
   refine tkH 33 (v:=?_) rfl (by kernel_rfl) (fun _ _ _ h=>h) (by rfl) ?y1x33q104 (by assumption) ?z1x33q104
   case y1x33q104=>intro wq hSw;(go_simp);(try with_reducible rfl)
   try simp only [Act.put,sA,sB,sC]
   refine tkH 34 (v:=?_) rfl (by kernel_rfl) (fun _ _ _ h=>h) (by rfl) ?y1x34q107 (by assumption) ?z1x34q107
   case y1x34q107=>intro wq hSw;(have cq:=B3.out wq hSw;go_simp);(try with_reducible rfl)
   try simp only [Act.put,sA,sB,sC]
   refine tkH 35 (v:=?_) rfl (by kernel_rfl) (fun _ _ _ h=>h) (by rfl) ?y1x35q110 (by assumption) ?z1x35q110
   case y1x35q110=>intro wq hSw;(go_simp);(try with_reducible rfl)
   try simp only [Act.put,sA,sB,sC]
   refine tkH 36 (v:=?_) rfl (by kernel_rfl) (fun _ _ _ h=>h) (by rfl) ?y1x36q113 (by assumption) ?z1x36q113
   case y1x36q113=>intro wq hSw;(go_simp);(try with_reducible rfl)
   try simp only [Act.put,sA,sB,sC]
   refine tkH 37 (v:=?_) rfl (by kernel_rfl) (fun _ _ _ h=>h) (by rfl) ?y1x37q116 (by assumption) ?z1x37q116
   case y1x37q116=>intro wq hSw;(go_simp);(try with_reducible rfl)
   try simp only [Act.put,sA,sB,sC]
   refine tkH 38 (v:=?_) rfl (by kernel_rfl) (fun _ _ _ h=>h) (by rfl) ?y1x38q119 (by assumption) ?z1x38q119
   case y1x38q119=>intro wq hSw;(go_simp);(try with_reducible rfl)
   try simp only [Act.put,sA,sB,sC]
   refine tkH 39 (v:=?_) rfl (by kernel_rfl) (fun _ _ _ h=>h) (by rfl) ?y1x39q122 (by assumption) ?z1x39q122
   case y1x39q122=>intro wq hSw;(go_simp);(try with_reducible rfl)
   try simp only [Act.put,sA,sB,sC]
   refine tkH 40 (v:=?_) rfl (by kernel_rfl) (fun _ _ _ h=>h) (by rfl) ?y1x40q125 (by assumption) ?z1x40q125
   case y1x40q125=>intro wq hSw;(go_simp);(try with_reducible rfl)
   try simp only [Act.put,sA,sB,sC]
   refine tkH 41 (v:=?_) rfl (by kernel_rfl) (fun _ _ _ h=>h) (by rfl) ?y1x41q128 (by assumption) ?z1x41q128
   case y1x41q128=>intro wq hSw;(go_simp);(try with_reducible rfl)
   try simp only [Act.put,sA,sB,sC]
   refine tkH 42 (v:=?_) rfl (by kernel_rfl) (fun _ _ _ h=>h) (by rfl) ?y1x42q131 (by assumption) ?z1x42q131
   case y1x42q131=>intro wq hSw;(have cq:=A1.out wq hSw;go_simp);(try with_reducible rfl)
   try simp only [Act.put,sA,sB,sC]
   refine tkH 43 (v:=?_) rfl (by kernel_rfl) (fun _ _ _ h=>h) (by rfl) ?y1x43q134 (by assumption) ?z1x43q134
   case y1x43q134=>intro wq hSw;(go_simp);(try with_reducible rfl)
   try simp only [Act.put,sA,sB,sC]
   refine tkH 44 (v:=?_) rfl (by kernel_rfl) (fun _ _ _ h=>h) (by rfl) ?y1x44q137 (by assumption) ?z1x44q137
   case y1x44q137=>intro wq hSw;(go_simp);(try with_reducible rfl)
   try simp only [Act.put,sA,sB,sC]
   refine tkH 45 (v:=?_) rfl (by kernel_rfl) (fun _ _ _ h=>h) (by rfl) ?y1x45q140 (by assumption) ?z1x45q140
   case y1x45q140=>intro wq hSw;(go_simp);(try with_reducible rfl)
   try simp only [Act.put,sA,sB,sC]
   refine tkH 46 (v:=?_) rfl (by kernel_rfl) (fun _ _ _ h=>h) (by rfl) ?y1x46q143 (by assumption) ?z1x46q143
   case y1x46q143=>intro wq hSw;(go_simp);(try with_reducible rfl)
   try simp only [Act.put,sA,sB,sC]
   refine tkH 47 (v:=?_) rfl (by kernel_rfl) (fun _ _ _ h=>h) (by rfl) ?y1x47q146 (by assumption) ?z1x47q146
   case y1x47q146=>intro wq hSw;(have cq:=B1.out wq hSw;go_simp);(try with_reducible rfl)
   try simp only [Act.put,sA,sB,sC]
   refine wpAnyH_ready (rs:=[48]) (by kernel_rfl) (by simp) ?_
   refine AllReadyH.cons (o:=⟨_,_,_,_,_,_⟩) rfl (fun K hK=>?_) AllReadyH.nil
   go_simp
   (with_reducible refine (sameints_x _ _ _ _ _ y.known _ (S1.out.nx hHeld) (T1.out.nx hHeld) (by omega)).mono ?_)
   rintro e wb ⟨rfl,kk⟩
   replace hHeld:=hHeld.nx kk
   clear kk
   refine hK.out _ _ (hHeld) (fun hHeld=>?_)
   clear hK K
   try simp only [Act.put,sA,sB,sC]
   refine tkH 49 (v:=?_) rfl (by kernel_rfl) (fun _ _ _ h=>h) (by rfl) ?y1x49q159 (by assumption) ?z1x49q159
   case y1x49q159=>intro wq hSw;(go_simp);(try with_reducible rfl)
   try simp only [Act.put,sA,sB,sC]
   refine tkH 50 (v:=?_) rfl (by kernel_rfl) (fun _ _ _ h=>h) (by rfl) ?y1x50q162 (by assumption) ?z1x50q162
   case y1x50q162=>intro wq hSw;(go_simp);(try with_reducible rfl)
   try simp only [Act.put,sA,sB,sC]
   refine tkH 51 (v:=?_) rfl (by kernel_rfl) (fun _ _ _ h=>h) (by rfl) ?y1x51q165 (by assumption) ?z1x51q165
   case y1x51q165=>intro wq hSw;(go_simp);(try with_reducible rfl)
   try simp only [Act.put,sA,sB,sC]
   refine tkH 52 (v:=?_) rfl (by kernel_rfl) (fun _ _ _ h=>h) (by rfl) ?y1x52q168 (by assumption) ?z1x52q168
   case y1x52q168=>intro wq hSw;(go_simp);(try with_reducible rfl)
   try simp only [Act.put,sA,sB,sC]
   refine tkH 53 (v:=?_) rfl (by kernel_rfl) (fun _ _ _ h=>h) (by rfl) ?y1x53q171 (by assumption) ?z1x53q171
   case y1x53q171=>intro wq hSw;(go_simp);(try with_reducible rfl)
   try simp only [Act.put,sA,sB,sC]
   refine tkH 54 (v:=?_) rfl (by kernel_rfl) (fun _ _ _ h=>h) (by rfl) ?y1x54q174 (by assumption) ?z1x54q174
   case y1x54q174=>intro wq hSw;(go_simp);(try with_reducible rfl)
   try simp only [Act.put,sA,sB,sC]
   refine tkH 55 (v:=?_) rfl (by kernel_rfl) (fun _ _ _ h=>h) (by rfl) ?y1x55q177 (by assumption) ?z1x55q177
   case y1x55q177=>intro wq hSw;(go_simp);(try with_reducible rfl)
   try simp only [Act.put,sA,sB,sC]
   refine tkH 56 (v:=?_) rfl (by kernel_rfl) (fun _ _ _ h=>h) (by rfl) ?y1x56q180 (by assumption) ?z1x56q180
   case y1x56q180=>intro wq hSw;(have cq:=A4.out wq hSw;go_simp);(try with_reducible rfl)
   try simp only [Act.put,sA,sB,sC]
   refine tkH 57 (v:=?_) rfl (by kernel_rfl) (fun _ _ _ h=>h) (by rfl) ?y1x57q183 (by assumption) ?z1x57q183
   case y1x57q183=>intro wq hSw;(go_simp);(try with_reducible rfl)
   try simp only [Act.put,sA,sB,sC]
   refine tkH 58 (v:=?_) rfl (by kernel_rfl) (fun _ _ _ h=>h) (by rfl) ?y1x58q186 (by assumption) ?z1x58q186
   case y1x58q186=>intro wq hSw;(go_simp);(try with_reducible rfl)
   try simp only [Act.put,sA,sB,sC]
   refine tkH 59 (v:=?_) rfl (by kernel_rfl) (fun _ _ _ h=>h) (by rfl) ?y1x59q189 (by assumption) ?z1x59q189
   case y1x59q189=>intro wq hSw;(go_simp);(try with_reducible rfl)
   try simp only [Act.put,sA,sB,sC]
   refine tkH 60 (v:=?_) rfl (by kernel_rfl) (fun _ _ _ h=>h) (by rfl) ?y1x60q192 (by assumption) ?z1x60q192
   case y1x60q192=>intro wq hSw;(go_simp);(try with_reducible rfl)
   try simp only [Act.put,sA,sB,sC]
   refine tkH 61 (v:=?_) rfl (by kernel_rfl) (fun _ _ _ h=>h) (by rfl) ?y1x61q195 (by assumption) ?z1x61q195
   case y1x61q195=>intro wq hSw;(go_simp);(try with_reducible rfl)
   try simp only [Act.put,sA,sB,sC]
   refine tkH 62 (v:=?_) rfl (by kernel_rfl) (fun _ _ _ h=>h) (by rfl) ?y1x62q198 (by assumption) ?z1x62q198
   case y1x62q198=>intro wq hSw;(have cq:=B4.out wq hSw;go_simp);(try with_reducible rfl)
   try simp only [Act.put,sA,sB,sC]
   refine tkH 63 (v:=?_) rfl (by kernel_rfl) (fun _ _ _ h=>h) (by rfl) ?y1x63q201 (by assumption) ?z1x63q201
   case y1x63q201=>intro wq hSw;(go_simp);(try with_reducible rfl)
   try simp only [Act.put,sA,sB,sC]
   refine tkH 64 (v:=?_) rfl (by kernel_rfl) (fun _ _ _ h=>h) (by rfl) ?y1x64q204 (by assumption) ?z1x64q204
   case y1x64q204=>intro wq hSw;(go_simp);(try with_reducible rfl)
   try simp only [Act.put,sA,sB,sC]
   refine tkH 65 (v:=?_) rfl (by kernel_rfl) (fun _ _ _ h=>h) (by rfl) ?y1x65q207 (by assumption) ?z1x65q207
   case y1x65q207=>intro wq hSw;(go_simp);(try with_reducible rfl)
   try simp only [Act.put,sA,sB,sC]
   refine wpAnyH_done (by kernel_rfl) ?_ _
   have K6:=lH hHeld
   clear hHeld hDrew
   have cq:=A4.out _ K6.out
   go_wp2_with fail
   go_loopw [6] (fun i wr=>KtRel m4 wb i wr) (fun i _=>m4-(intOf i).toNat)
   case atStart=>exact ⟨0,Nat.zero_le _,rfl,Ex.refl _⟩
   case round =>
    clear cq
    obtain ⟨t,ht,rfl,kv⟩:=hrel
    obtain ⟨wj,rfl⟩:∃ wj:World,wj=wr:=⟨_,rfl⟩
    have KV:=lH (K6.out.nx kv)
    have KJ:=lH kv
    clear kv
    have cq:=A4.out _ KV.out
    have cr:=B4.out _ KV.out
    by_cases htt:t<m4
    ·obtain ⟨xa,oa,z,rfl,hxa,hz,hca⟩:=(S4.out.nx KV.out).at htt
     obtain ⟨xb,ob,z',rfl,hxb,hz',hcb⟩:=(T4.out.nx KV.out).at htt
     obtain rfl:z=z':=Option.some.inj (hz.symm.trans hz')
     have f0:wj.cell? ⟨xa,oa+t*4,none⟩=some (.int .i64 z.1):=by simpa using hca 0 _ rfl
     have f1:wj.cell? ⟨xa,oa+t*4+1,none⟩=some (.int .i64 z.2.1):=by simpa using hca 1 _ rfl
     have f2:wj.cell? ⟨xa,oa+t*4+1+1,none⟩=some (.int .i64 z.2.2.1):=by simpa [Nat.add_assoc] using hca 2 _ rfl
     have f3:wj.cell? ⟨xa,oa+t*4+1+1+1,none⟩=some (.int .i64 z.2.2.2):=by simpa [Nat.add_assoc] using hca 3 _ rfl
     have g0:wj.cell? ⟨xb,ob+t*4,none⟩=some (.int .i64 z.1):=by simpa using hcb 0 _ rfl
     have g1:wj.cell? ⟨xb,ob+t*4+1,none⟩=some (.int .i64 z.2.1):=by simpa using hcb 1 _ rfl
     have g2:wj.cell? ⟨xb,ob+t*4+1+1,none⟩=some (.int .i64 z.2.2.1):=by simpa [Nat.add_assoc] using hcb 2 _ rfl
     have g3:wj.cell? ⟨xb,ob+t*4+1+1+1,none⟩=some (.int .i64 z.2.2.2):=by simpa [Nat.add_assoc] using hcb 3 _ rfl
     have RR:=lH (fun m=>show KtRel m4 wb (.int .i64 ((t:Int)+1)) (wj.drewN m) from ⟨t+1,by omega,by go_num,KJ.out.drewN m⟩)
     clear hca hcb hz hz' hxa hxb
     go_wp2_with fail
     go_quiet (fail)
     go_wp2_with fail
     exact ⟨RR.out _,by simp [intOf];omega⟩
    ·obtain rfl:t=m4:=by omega
     have RR:=lH (show KtRel n w (.int .i64 ((k:Int)+1)) wj from ⟨k+1,by omega,by go_num,KW.out.nx KV.out⟩)
     clear ht htt
     go_wp2_with fail
     exact ⟨RR.out,by simp [intOf];omega⟩
  ·obtain rfl:k=n:=by omega
   have K1:=lH KW.out
   clear hk
   go_wp2_with fail
   go_ret
   exact ⟨rfl,K1.out⟩
def X4 (b g6 g7 g8 k:Nat):Prop:=k=b∨k=g6∨k=g7∨k=g8
theorem OwnP.otherRow {eP eI eN:TypeId} {base ga:Nat} {w w':World} {v:Value} {qs:List PQ} {P:List Pr} {c:Array Value} (hI:eP≠eI) (hN:eP≠eN) (h:OwnP eP eI eN base w v qs P) (hga:w.heap[ga]?=some (.cells c eP (0,0))) (hne:¬ v.ownBlock=some ga) (k:Exb ga w w'):OwnP eP eI eN base w' v qs P :=
 ⟨h.1.chg k (fun x hx hv=>⟨hx,fun he=>hne (he▸hv)⟩),h.2.1,fun j q p hq hp=>by
  obtain ⟨r1,r2,r3⟩:=h.2.2.1 j q p hq hp
  exact ⟨r1,r2.chg k (fun x hx hv=>⟨hx,fun he=>by subst he;obtain ⟨_,c1,h1⟩:=r2.blk hv;exact blk_kind hI hga h1⟩),r3.chg k (fun x hx hv=>⟨hx,fun he=>by subst he;obtain ⟨_,c1,h1⟩:=r3.blk hv;exact blk_kind hN hga h1⟩)⟩,h.2.2.2⟩
def endJ (N:List Nd) (P:List Pr) (j:Nat):List Pr:=(P.take j).map (endP N)++P.drop j
theorem endJ_at {N:List Nd} {P:List Pr} {j:Nat} {p:Pr} (hp:P[j]?=some p):(endJ N P j)[j]?=some p:=by
 have hj:=(List.getElem?_eq_some_iff.1 hp).1
 unfold endJ
 rw [List.getElem?_append_right (by simp;omega)]
 simp only [List.length_map,List.length_take,List.getElem?_drop]
 rw [show j+(j-min j P.length)=j by omega]
 exact hp
theorem endJ_set {N:List Nd} {P:List Pr} {j:Nat} {p:Pr} (hp:P[j]?=some p):(endJ N P j).set j (endP N p)=endJ N P (j+1):=by
 have hj:=(List.getElem?_eq_some_iff.1 hp).1
 unfold endJ
 have hl:((P.take j).map (endP N)).length=j:=by simp;omega
 rw [List.set_append_right _ _ (by omega),hl,Nat.sub_self,List.drop_eq_getElem_cons hj,List.set_cons_zero,List.take_add_one,hp]
 simp
theorem endJ_all (N:List Nd) (P:List Pr):endJ N P P.length=P.map (endP N):=by unfold endJ;simp
theorem end_few {N:List Nd} {P:List Pr} (hN:N.length≤100) (h:SmallP P):∀ p∈P.map (endP N),p.known.length≤4000000000000000000∧p.near.length≤4000000000000000000:=by
 intro p hp
 obtain ⟨q,hq,rfl⟩:=List.mem_map.1 hp
 have:=h q hq
 refine ⟨?_,by show q.near.length≤_;omega⟩
 show (refsN N _).length≤_
 unfold refsN
 split
 ·have:=ord_len (N:=N) (numsP ⟨q.id,0,0,q.known,[]⟩) q.id
  show (ordN N _ q.id).length≤_
  omega
 ·exact Nat.zero_le _
theorem refs_end {b:Nat} (a:Option Addr) (n c:Nat) (N:List Nd) (p:Pr) (a1:Option Addr) (n1 c1:Nat) (w:World) (h:Sl 3 encN w a n N) (hn:n≤1000) (hc:n≤c) (hm:c≤maxLen) (h1:Sl 1 encI w a1 n1 p.known) (hn1:n1≤4000000000000000000) (_:b=b) :
  Calls Tryz.prog 30 #[.slice a n c,.agg #[.int .i64 p.id,.slice a1 n1 c1,.int .i64 0,.int .i64 0,.slice none 0 0]] w (OiPost (refsN N ⟨p.id,0,0,p.known,[]⟩) w) :=
 refs_p a n c N ⟨p.id,0,0,p.known,[]⟩ a1 n1 c1 none 0 0 w h hn hc hm h1 (Sl.nil _ _ _ _) hn1 (by omega)
structure OrB (L:List Nd) (F0 F:Fl) (q:Nat):Prop where
 peers:F.peers=F0.peers
 msgs:∀ m,m∈F.msgs↔m∈F0.msgs
 most:F.msgs.length+q≤7
 least:F0.msgs.length≤F.msgs.length
 sm:SmF F
theorem OrB.step {L:List Nd} {F0 F:Fl} {q r:Nat} (h:OrB L F0 F (q+1)) (hr:r<F0.msgs.length):OrB L F0 (dblF F r 4096) q:=by
 have:=h.least
 obtain ⟨h1,h2⟩:=dbl_len F r 4096
 exact ⟨(dbl_peers F r 4096).trans h.peers,fun m=>(dbl_same 4096 (by omega) m).trans (h.msgs m),by have:=h.most;omega,by omega,dbl_sm h.sm r 4096⟩
theorem OrB.sp {L:List Nd} {F0 F:Fl} {q:Nat} (h:OrB L F0 F q):SmallP F.peers:=by have:=h.sm;unfold SmF at this;exact this.1
structure OrD (L:List Nd) (F0 F:Fl) (m k:Nat):Prop where
 del:∃ D,DelTo L F0 F D
 most:F.msgs.length≤m-k
 norm:NormF L F
 sm:SmF F
theorem OrD.step {L:List Nd} (h0:checkN L=0) (hN:L.length≤1000) {F0 F:Fl} {m k r:Nat} (h:OrD L F0 F m k) (hr:r<max F.msgs.length 1):OrD L F0 (delF L F r) m (k+1):=by
 obtain ⟨D,hD⟩:=h.del
 obtain ⟨D',h1,h2⟩:=del_next h0 hD hr
 exact ⟨⟨D',h1⟩,by have:=h.most;omega,norm_del h0 F r,del_sm hN h.sm r⟩
theorem OrD.sp {L:List Nd} {F0 F:Fl} {m k:Nat} (h:OrD L F0 F m k):SmallP F.peers:=by have:=h.sm;unfold SmF at this;exact this.1
theorem OrD.sk {L:List Nd} {F0 F:Fl} {m k:Nat} (h:OrD L F0 F m k):∀ p∈F.peers,p.known.length≤1000000:=by have:=h.sm;unfold SmF at this;exact this.2
def OrC (x5:World) (u v s7 s8:Value) (wx:World):Prop:=∃ g7 g8,s7=.pointer (some ⟨g7,0,none⟩)∧s8=.pointer (some ⟨g8,0,none⟩)∧¬ g7=g8∧x5.heap.size≤g7∧x5.heap.size≤g8∧Blk wx g7 [u,v] 27∧Blk wx g8 [u,v] 27∧Ex x5 wx
def Or1 (b g6 g7 g8:Nat) (L:List Nd) (aP:Option Addr) (cP:Nat) (aM:Option Addr) (cM:Nat) (F0:Fl) (x1:World) (i:Value) (wr:World):Prop :=
 ∃ (q:Nat) (aB:Option Addr) (cB:Nat) (aC:Option Addr) (cC:Nat) (F:Fl),q≤3∧i=.int .i64 q∧Blk wr g6 [.slice aP F0.peers.length cP,.slice aM F0.msgs.length cM] 27∧Blk wr g7 [.slice aP F0.peers.length cP,.slice aM F0.msgs.length cM] 27 ∧
  Blk wr g8 [.slice aB F.peers.length cB,.slice aC F.msgs.length cC] 27∧FlX (X4 b g6 g7 g8) wr aP aM F0∧FlX (X4 b g6 g7 g8) wr aB aC F∧OrB L F0 F q∧TK wr b∧Exb b x1 wr
def Or2 (b g6 g7 g8 S:Nat) (L:List Nd) (F0 Fb:Fl) (x1:World) (i:Value) (wr:World):Prop :=
 ∃ (k:Nat) (aA:Option Addr) (cA:Nat) (aE:Option Addr) (cE:Nat) (F:Fl) (aB:Option Addr) (cB:Nat) (aC:Option Addr) (cC:Nat) (G:Fl),k≤20∧i=.int .i64 k ∧
  Blk wr g7 [.slice aA F.peers.length cA,.slice aE F.msgs.length cE] 27∧Blk wr g8 [.slice aB G.peers.length cB,.slice aC G.msgs.length cC] 27∧FlX (X4 b g6 g7 g8) wr aA aE F∧FlX (X4 b g6 g7 g8) wr aB aC G ∧
  OrD L F0 F 4 k∧OrD L Fb G 7 k∧S≤wr.heap.size∧(0<k→∃ qa qb,OwnPr S wr (.slice aA F.peers.length cA) qa F.peers∧OwnPr S wr (.slice aB G.peers.length cB) qb G.peers∧∀ g,(Value.slice aA F.peers.length cA).ownBlock=some g→¬ (Value.slice aB G.peers.length cB).ownBlock=some g)∧TK wr b∧Exb b x1 wr
def Or3 (b g7 g8 S n:Nat) (L:List Nd) (u7 u8:List Value) (aA:Option Addr) (cA:Nat) (P:List Pr) (v:Value) (Q:List Pr) (x1:World) (i:Value) (wr:World):Prop :=
 ∃ (j:Nat) (qa qb:List PQ),j≤n∧i=.int .i64 j∧Blk wr g7 u7 27∧Blk wr g8 u8 27∧OwnPr S wr (.slice aA n cA) qa (endJ L P j)∧OwnPr S wr v qb Q∧Exb b x1 wr
theorem allocG {wp u:World} (_h:Ex wp u):∃ g v,g=u.heap.size∧v=u.alloc (.cells #[.slice none 0 0,.slice none 0 0] 27)∧Blk v g [.slice none 0 0,.slice none 0 0] 27∧Ex u v∧wp.heap.size≤g∧u.heap.size≤g :=
 ⟨_,_,rfl,rfl,Blk.new _ _ _,Ex.new _ _,_h.size,Nat.le_refl _⟩
set_option maxRecDepth 100000 in
set_option maxHeartbeats 4000000 in
theorem flightorders_walk (a1:Option Addr) (n1 c1:Nat) (l1:List Int) (w:World) (h1:Sl 1 encI w a1 n1 l1) (hc1:n1≤c1) (hm1:c1≤maxLen) (hL:LetG w) :
  Calls Tryz.prog 5 #[.slice a1 n1 c1] w fun e w'=>e=.returned (.bool true)∧Ex w w':=by
 go_enter Tryz.func5,Tryz.ntmps5
 go_wp2_with fail
 refine (new_t _ _ _ l1 _ h1 hc1 hm1).mono ?_
 rintro e w1 ⟨rfl,T,kk,z1⟩
 obtain ⟨b,hb⟩:∃ b,b=w.heap.size:=⟨_,rfl⟩
 rw [← hb] at T ⊢
 have hgl:¬ 0=b:=by have:=hL.lt;omega
 have L1:Hid (LetG w1):=lH (hL.nx kk)
 have QL:Hid (Exl b w w1):=lH ⟨kk,by omega⟩
 clear h1 hL kk hb z1
 have hbo:=T.lt
 go_wp2_with fail
 refine (some_n 6 _ T L1.out hgl (by omega) (by omega)).mono ?_
 clear T
 rintro e x1 ⟨v1,L,rfl,R,hL1⟩
 have kw:=R.k
 have T:=R.tape
 have hb1:=T.lt
 obtain ⟨aX,cX,rfl,SX,hcX,hmX,_⟩:=R.own.slf (fun _=>rfl)
 have SX:=SX.slb hbo
 have RL:=R.len
 have H0:=lH R.ok
 have HW:Hid (∀ x∈L,x.word<4294967296):=lH (fun x hx=>by have:=R.word x hx;omega)
 have HI:Hid (∀ x∈L,I64 x.id):=lH (fun x hx=>(roster_ok R.ok x hx).1.1)
 have HS:=lH (fun wq (kq:Exb b x1 wq)=>SX.nxb kq)
 have KW:=lH kw
 clear R SX kw
 go_wp2_with fail
 refine (next_t 3 _ T (by omega) (by omega)).mono ?_
 clear T
 rintro e x2 ⟨hh,rfl,hh0,hh1,T,kk⟩
 have K1:=lH kk
 clear kk
 obtain ⟨ht,rfl⟩:∃ t:Nat,hh=t:=⟨hh.toNat,by omega⟩
 have ht16:ht≤16:=by omega
 have hb2:=T.lt
 go_wp2_with fail
 refine (peers_t ht _ _ _ L _ T (HS.out _ K1.out) (by omega) HI.out (by omega)).mono ?_
 clear T
 rintro e x3 ⟨vJ,qJ,P0,rfl,J⟩
 have T:=J.tape
 have HF:Hid (FewQ 100 200 P0):=lH (fun p hp=>by have:=J.few p hp;omega)
 have hPJ:P0.length≤10:=by have:=J.len;omega
 obtain ⟨aJ,cJ,rfl,PJ⟩:=J.own.pls
 replace K1:=lH (K1.out.nxb J.k)
 have PJ:PLb b x3 aJ P0.length P0:=PJ.plb (fun x hx=>⟨hx.2,by omega⟩)
 have SM:=lH (few_smallF HF.out)
 clear J
 have hb3:=T.lt
 go_wp2_with fail
 refine (made_x _ _ _ L _ _ _ P0 _ T (HS.out _ K1.out) (by omega) HI.out PJ (by omega) (show SmallP P0 from by have:=SM.out;unfold SmF at this;exact this.1)).mono ?_
 clear T
 rintro e x4 ⟨vP,vM,qs,M,rfl,FO,hM4,T,kk⟩
 replace K1:=lH (K1.out.nxb kk)
 have FI:SmF ⟨normalN L P0,M⟩:=few_smF HF.out M
 have FN:NormF L ⟨normalN L P0,M⟩:=norm_normal H0.out P0 M
 have FM:(⟨normalN L P0,M⟩:Fl).msgs.length≤4:=hM4
 generalize (⟨normalN L P0,M⟩:Fl)=F0 at FO FI FN FM
 obtain ⟨aP,cP,aM,cM,rfl,rfl,FX⟩:=FO.flx (X:=fun k=>k=b) (fun k hk=>by have:k=b:=hk;omega)
 have FIH:=lH FI
 have FNH:=lH FN
 clear kk FO FI PJ FN hM4
 have hx4:=T.lt
 have zk1:=K1.out.size
 have B6:=Blk.new x4 [.slice aP F0.peers.length cP,.slice aM F0.msgs.length cM] 27
 have kk:=Ex.new x4 (.cells #[.slice aP F0.peers.length cP,.slice aM F0.msgs.length cM] 27)
 obtain ⟨x5,hx5⟩:∃ x5,x5=x4.alloc (.cells #[.slice aP F0.peers.length cP,.slice aM F0.msgs.length cM] 27):=⟨_,rfl⟩
 obtain ⟨g6,hg6⟩:∃ g6,g6=x4.heap.size:=⟨_,rfl⟩
 replace B6:Blk x5 g6 [.slice aP F0.peers.length cP,.slice aM F0.msgs.length cM] 27:=by rw [hx5,hg6];exact B6
 rw [← hx5] at kk
 have Hx5:=lH hx5
 have Hg6:=lH hg6
 replace T:=T.nx kk
 have FX0:=FX
 replace K1:=lH (K1.out.nxb (kk.b b))
 have zg6:x1.heap.size≤g6:=by omega
 have hb6:¬ g6=b:=by omega
 have FX2:FlX (X2 b g6) x5 aP aM F0:=FX0.x2 (by omega) kk
 clear kk hx5 hg6
 go_upto_region 4 with fail
 rw [← Hg6.out,← Hx5.out]
 clear Hg6 Hx5
 have B6H:=lH B6
 have TH:=lH T
 have FXH:=lH FX2
 have hl6:=B6.lt
 have zx5:=K1.out.size
 clear B6 T FX FX0 FX2
 go_cut [7,8] from 26 to 27 (fun s7 s8 wx=>OrC x5 (.slice aP F0.peers.length cP) (.slice aM F0.msgs.length cM) s7 s8 wx)
 case first =>
  refine wp_region_held_drew (S:=Ex x5) (by kernel_rfl) ((Ex.refl x5).drew) (fun hHeld=>?_)
  obtain ⟨wd,hwdx⟩:∃ wd:World,wd=World.drew x5:=⟨_,rfl⟩
  rw [← hwdx] at hHeld ⊢
  have hDrew:Ex x5 wd:=by rw [hwdx];exact (Ex.refl x5).drew
  clear hwdx
  refine tkH 0 (v:=?_) rfl (by kernel_rfl) (fun _ _ _ h=>h) (by rfl) ?y1x0q5 (by assumption) ?z1x0q5
  case y1x0q5=>intro wq hSw;(have cq0:=(B6H.out.nx hSw).cell 0 _ rfl;have cq1:=(B6H.out.nx hSw).cell 1 _ rfl;go_simp);(try with_reducible rfl)
  refine tkH 1 (v:=?_) rfl (by kernel_rfl) (fun _ _ _ h=>h) (by rfl) ?y1x1q8 (by assumption) ?z1x1q8
  case y1x1q8=>intro wq hSw;(have cq0:=(B6H.out.nx hSw).cell 0 _ rfl;have cq1:=(B6H.out.nx hSw).cell 1 _ rfl;go_simp);(try with_reducible rfl)
  refine wpAnyH_ready (rs:=[2,3]) (by kernel_rfl) (by simp) ?_
  refine AllReadyH.cons (o:=⟨_,_,_,_,_,_⟩) rfl (fun K hK=>?_) ?_
  ·go_simp
   obtain ⟨g7,wq,hg7,hwq,B7,kk,zg7,zu7⟩:=allocG hHeld
   rw [← hg7,← hwq]
   clear hg7 hwq
   (try replace B8:=B8.nx kk)
   (try have h78:¬ g7=g8:=by have:=hl8;omega)
   have hl7:=B7.lt
   replace hHeld:=hHeld.nx kk
   clear kk
   refine hK.out _ _ (hHeld) (fun hHeld=>?_)
   clear hK K
   refine wpAnyH_ready (rs:=[3]) (by kernel_rfl) (by simp) ?_
   refine AllReadyH.cons (o:=⟨_,_,_,_,_,_⟩) rfl (fun K hK=>?_) AllReadyH.nil
   go_simp
   obtain ⟨g8,wq,hg8,hwq,B8,kk,zg8,zu8⟩:=allocG hHeld
   rw [← hg8,← hwq]
   clear hg8 hwq
   (try replace B7:=B7.nx kk)
   (try have h78:¬ g7=g8:=by have:=hl7;omega)
   have hl8:=B8.lt
   replace hHeld:=hHeld.nx kk
   clear kk
   refine hK.out _ _ (hHeld) (fun hHeld=>?_)
   clear hK K
   refine wpAnyH_ready (rs:=[4]) (by kernel_rfl) (by simp) ?_
   refine AllReadyH.cons (o:=⟨_,_,_,_,_,_⟩) rfl (fun K hK=>?_) AllReadyH.nil
   have r0:=B7.cell 0 _ rfl
   have r1:=B7.cell 1 _ rfl
   have f0:=B7.free 0
   have f1:=B7.free 1
   go_simp
   clear r0 r1 f0 f1
   replace B7:=(B7.set 0 (.slice aP F0.peers.length cP)).set 1 (.slice aM F0.msgs.length cM)
   replace B8:=(B8.set_ne (g':=g7) (j:=0) (.slice aP F0.peers.length cP) (fun e=>h78 e.symm)).set_ne (g':=g7) (j:=1) (.slice aM F0.msgs.length cM) (fun e=>h78 e.symm)
   replace hHeld:=(hHeld.setNew (p:=⟨g7,0,none⟩) (.slice aP F0.peers.length cP) zg7).setNew (p:=⟨g7,1,none⟩) (.slice aM F0.msgs.length cM) zg7
   refine hK.out _ _ (hHeld) (fun hHeld=>?_)
   clear hK K
   refine wpAnyH_ready (rs:=[5]) (by kernel_rfl) (by simp) ?_
   refine AllReadyH.cons (o:=⟨_,_,_,_,_,_⟩) rfl (fun K hK=>?_) AllReadyH.nil
   have r0:=B8.cell 0 _ rfl
   have r1:=B8.cell 1 _ rfl
   have f0:=B8.free 0
   have f1:=B8.free 1
   go_simp
   clear r0 r1 f0 f1
   replace B8:=(B8.set 0 (.slice aP F0.peers.length cP)).set 1 (.slice aM F0.msgs.length cM)
   replace B7:=(B7.set_ne (g':=g8) (j:=0) (.slice aP F0.peers.length cP) h78).set_ne (g':=g8) (j:=1) (.slice aM F0.msgs.length cM) h78
   replace hHeld:=(hHeld.setNew (p:=⟨g8,0,none⟩) (.slice aP F0.peers.length cP) zg8).setNew (p:=⟨g8,1,none⟩) (.slice aM F0.msgs.length cM) zg8
   refine hK.out _ _ (hHeld) (fun hHeld=>?_)
   clear hK K
   refine wpAnyH_done (by kernel_rfl) ?_ _
   have CUT:=lH (show OrC x5 (.slice aP F0.peers.length cP) (.slice aM F0.msgs.length cM) (.pointer (some ⟨g7,0,none⟩)) (.pointer (some ⟨g8,0,none⟩)) _ from ⟨g7,g8,rfl,rfl,h78,zg7,zg8,B7,B8,hHeld⟩)
   clear B7 B8 hHeld hDrew
   go_wp2_with fail
   go_meet
   exact CUT.out
  refine AllReadyH.cons (o:=⟨_,_,_,_,_,_⟩) rfl (fun K hK=>?_) AllReadyH.nil
  ·go_simp
   obtain ⟨g8,wq,hg8,hwq,B8,kk,zg8,zu8⟩:=allocG hHeld
   rw [← hg8,← hwq]
   clear hg8 hwq
   (try replace B7:=B7.nx kk)
   (try have h78:¬ g7=g8:=by have:=hl7;omega)
   have hl8:=B8.lt
   replace hHeld:=hHeld.nx kk
   clear kk
   refine hK.out _ _ (hHeld) (fun hHeld=>?_)
   clear hK K
   refine wpAnyH_ready (rs:=[2]) (by kernel_rfl) (by simp) ?_
   refine AllReadyH.cons (o:=⟨_,_,_,_,_,_⟩) rfl (fun K hK=>?_) AllReadyH.nil
   go_simp
   obtain ⟨g7,wq,hg7,hwq,B7,kk,zg7,zu7⟩:=allocG hHeld
   rw [← hg7,← hwq]
   clear hg7 hwq
   (try replace B8:=B8.nx kk)
   (try have h78:¬ g7=g8:=by have:=hl8;omega)
   have hl7:=B7.lt
   replace hHeld:=hHeld.nx kk
   clear kk
   refine hK.out _ _ (hHeld) (fun hHeld=>?_)
   clear hK K
   refine wpAnyH_ready (rs:=[4]) (by kernel_rfl) (by simp) ?_
   refine AllReadyH.cons (o:=⟨_,_,_,_,_,_⟩) rfl (fun K hK=>?_) AllReadyH.nil
   have r0:=B7.cell 0 _ rfl
   have r1:=B7.cell 1 _ rfl
   have f0:=B7.free 0
   have f1:=B7.free 1
   go_simp
   clear r0 r1 f0 f1
   replace B7:=(B7.set 0 (.slice aP F0.peers.length cP)).set 1 (.slice aM F0.msgs.length cM)
   replace B8:=(B8.set_ne (g':=g7) (j:=0) (.slice aP F0.peers.length cP) (fun e=>h78 e.symm)).set_ne (g':=g7) (j:=1) (.slice aM F0.msgs.length cM) (fun e=>h78 e.symm)
   replace hHeld:=(hHeld.setNew (p:=⟨g7,0,none⟩) (.slice aP F0.peers.length cP) zg7).setNew (p:=⟨g7,1,none⟩) (.slice aM F0.msgs.length cM) zg7
   refine hK.out _ _ (hHeld) (fun hHeld=>?_)
   clear hK K
   refine wpAnyH_ready (rs:=[5]) (by kernel_rfl) (by simp) ?_
   refine AllReadyH.cons (o:=⟨_,_,_,_,_,_⟩) rfl (fun K hK=>?_) AllReadyH.nil
   have r0:=B8.cell 0 _ rfl
   have r1:=B8.cell 1 _ rfl
   have f0:=B8.free 0
   have f1:=B8.free 1
   go_simp
   clear r0 r1 f0 f1
   replace B8:=(B8.set 0 (.slice aP F0.peers.length cP)).set 1 (.slice aM F0.msgs.length cM)
   replace B7:=(B7.set_ne (g':=g8) (j:=0) (.slice aP F0.peers.length cP) h78).set_ne (g':=g8) (j:=1) (.slice aM F0.msgs.length cM) h78
   replace hHeld:=(hHeld.setNew (p:=⟨g8,0,none⟩) (.slice aP F0.peers.length cP) zg8).setNew (p:=⟨g8,1,none⟩) (.slice aM F0.msgs.length cM) zg8
   refine hK.out _ _ (hHeld) (fun hHeld=>?_)
   clear hK K
   refine wpAnyH_done (by kernel_rfl) ?_ _
   have CUT:=lH (show OrC x5 (.slice aP F0.peers.length cP) (.slice aM F0.msgs.length cM) (.pointer (some ⟨g7,0,none⟩)) (.pointer (some ⟨g8,0,none⟩)) _ from ⟨g7,g8,rfl,rfl,h78,zg7,zg8,B7,B8,hHeld⟩)
   clear B7 B8 hHeld hDrew
   go_wp2_with fail
   go_meet
   exact CUT.out
 case rest =>
  rename World=>x6
  obtain ⟨g7,g8,rfl,rfl,h78,zg7,zg8,B7,B8,kk⟩:=hcut
  have K6:=lH (K1.out.nxb (kk.b b))
  have FX6:Hid (FlX (X4 b g6 g7 g8) x6 aP aM F0):=lH ((FXH.out.mono (fun k hk e=>by rcases e with e | e | e | e;exact .inl e;exact .inr e;omega;omega)).nx kk)
  have B66:=lH (B6H.out.nx kk)
  have T6:=TH.out.nx kk
  have z7:x1.heap.size≤g7:=by omega
  have z8:x1.heap.size≤g8:=by omega
  have hb7:¬ g7=b:=by omega
  have hb8:¬ g8=b:=by omega
  have h67:¬ g6=g7:=by omega
  have h68:¬ g6=g8:=by omega
  have h87:¬ g8=g7:=fun e=>h78 e.symm
  have bg7:b<g7:=by omega
  have bg8:b<g8:=by omega
  have hxb:X4 b g6 g7 g8 b:=.inl rfl
  have hx7:X4 b g6 g7 g8 g7:=.inr (.inr (.inl rfl))
  have hx8:X4 b g6 g7 g8 g8:=.inr (.inr (.inr rfl))
  clear kk TH FXH B6H K1
  go_wp2_with fail
  refine (next_t 4 _ T6 (by omega) (by omega)).mono ?_
  clear T6
  rintro e x7 ⟨q,rfl,q0,q1,T,kk⟩
  obtain ⟨q,rfl⟩:=Int.eq_ofNat_of_zero_le q0
  have R0:=lH (show Or1 b g6 g7 g8 L aP cP aM cM F0 x1 (.int .i64 (q:Int)) x7 from ⟨q,aP,cP,aM,cM,F0,by omega,rfl,B66.out.nxb hb6 kk,B7.nxb hb7 kk,B8.nxb hb8 kk,FX6.out.nxb hxb kk,FX6.out.nxb hxb kk,⟨rfl,fun _=>Iff.rfl,by omega,Nat.le_refl _,FIH.out⟩,T,K6.out.nxb kk⟩)
  clear kk T B7 B8 B66 FX6 K6 q0 q1
  go_upto_block 0 with fail
  go_cut [] from 30 to 46 (fun wx=>∃ i,Or1 b g6 g7 g8 L aP cP aM cM F0 x1 i wx)
  case first =>
   go_wp2_with fail
   go_loopw [9] (fun i wr=>Or1 b g6 g7 g8 L aP cP aM cM F0 x1 i wr) (fun i _=>(intOf i).toNat)
   case atStart=>exact R0.out
   case round =>
    clear R0
    obtain ⟨q,aB,cB,aC,cC,F,hq3,rfl,B6,B7,B8,FX0,FXB,OB,T,kx⟩:=hrel
    obtain ⟨wj,rfl⟩:∃ wj:World,wj=wr:=⟨_,rfl⟩
    have KX:=lH kx
    have B6H:=lH B6
    have B7H:=lH B7
    have B8H:=lH B8
    have FX0H:=lH FX0
    have FXBH:=lH FXB
    have OBH:=lH OB
    have TH:=lH T
    have hl6:=B6.lt
    have hl7:=B7.lt
    have hl8:=B8.lt
    have hlb:=T.lt
    have zP:F.peers.length≤10:=by rw [OB.peers,norm_lenF FNH.out];omega
    have zM:F.msgs.length≤7:=by have:=OB.most;omega
    have c1:=B6.cell 1 _ rfl
    clear kx B6 B7 B8 FX0 FXB OB T
    by_cases hq0:0<q
    ·have d1:(q:Int)>0:=by omega
     by_cases hm0:0<F0.msgs.length
     ·have d2:(F0.msgs.length:Int)>0:=by omega
      have OB':Hid (OrB L F0 F (q-1+1)):=lH (by rw [Nat.sub_add_cancel hq0];exact OBH.out)
      go_upto_region 8 with fail
      clear c1
      refine wp_region_late_drew (S:=(fun x=>Exb b wj x∧TK x b)) [7] (by kernel_rfl) (And.intro (Exb.refl b wj).drew (TH.out.nx (Ex.refl wj).drew)) (fun hHeld=>?_)
      obtain ⟨wd,hwdx⟩:∃ wd:World,wd=World.drew wj:=⟨_,rfl⟩
      rw [← hwdx] at hHeld ⊢
      have hDrew:Ex wj wd:=by rw [hwdx];exact (Ex.refl wj).drew
      clear hwdx
      refine tkL 0 (v:=?_) rfl (by kernel_rfl) (fun _ _ _ h=>h) (by rfl) ?y2x0q5 (by assumption) ?z2x0q5
      case y2x0q5=>intro wq hSw;(have cq0:=(B8H.out.nxb hb8 hSw.1).cell 0 _ rfl;have cq1:=(B8H.out.nxb hb8 hSw.1).cell 1 _ rfl;go_simp);(try with_reducible rfl)
      refine tkL 1 (v:=?_) rfl (by kernel_rfl) (fun _ _ _ h=>h) (by rfl) ?y2x1q8 (by assumption) ?z2x1q8
      case y2x1q8=>intro wq hSw;(go_simp);(try with_reducible rfl)
      refine tkL 2 (v:=?_) rfl (by kernel_rfl) (fun _ _ _ h=>h) (by rfl) ?y2x2q11 (by assumption) ?z2x2q11
      case y2x2q11=>intro wq hSw;(go_simp);(try with_reducible rfl)
      refine tkL 3 (v:=?_) rfl (by kernel_rfl) (fun _ _ _ h=>h) (by rfl) ?y2x3q14 (by assumption) ?z2x3q14
      case y2x3q14=>intro wq hSw;(have cq:=(B6H.out.nxb hb6 hSw.1).cell 1 _ rfl;go_simp);(try with_reducible rfl)
      refine tkL 4 (v:=?_) rfl (by kernel_rfl) (fun _ _ _ h=>h) (by rfl) ?y2x4q17 (by assumption) ?z2x4q17
      case y2x4q17=>intro wq hSw;(go_simp);(try with_reducible rfl)
      refine wpAnyL_ready (rs:=[5]) (by kernel_rfl) (by simp) ?_
      refine AllReadyL.cons (o:=⟨_,_,_,_,_,_⟩) rfl (fun K hK=>?_) AllReadyL.nil
      go_simp
      refine (next_t (F0.msgs.length:Int) _ hHeld.2 (by omega) (by omega)).mono ?_
      rintro e wa ⟨r,rfl,r0,r1,T,kk⟩
      obtain ⟨r,rfl⟩:=Int.eq_ofNat_of_zero_le r0
      replace hHeld:=And.intro (hHeld.1.nxb kk) T
      clear kk T
      refine hK.out _ _ (hHeld) (fun hHeld=>?_)
      clear hK K
      refine wpAnyL_ready (rs:=[6]) (by kernel_rfl) (by simp) ?_
      refine AllReadyL.cons (o:=⟨_,_,_,_,_,_⟩) rfl (fun K hK=>?_) AllReadyL.nil
      go_simp
      (with_reducible refine (dbl_f _ _ _ F.peers _ _ _ F.msgs r _ (FXBH.out.nxb hxb hHeld.1).pl (by omega) OBH.out.sp (FXBH.out.nxb hxb hHeld.1).sl (by omega)).mono ?_)
      rintro e wu ⟨vP,vM,qs,rfl,FO,kk⟩
      obtain ⟨G,hG⟩:∃ G,G=dblF F r 4096:=⟨_,rfl⟩
      have HG:=lH hG
      replace FO:=(show FlOwn wj.heap.size wu vP vM qs G from by rw [hG];exact FlOwn.lower FO hHeld.1.size)
      obtain ⟨aA,cA,aE,cE,rfl,rfl,FXG⟩:=FO.flx (X:=X4 b g6 g7 g8) (fun k hk=>by rcases hk with rfl | rfl | rfl | rfl<;>omega)
      replace FXG:=lH FXG
      replace hHeld:=And.intro (hHeld.1.nxb (kk.b b)) (hHeld.2.nx kk)
      clear kk FO hG
      refine hK.out _ _ (hHeld) (fun hHeld=>?_)
      clear hK K
      refine wpAnyL_ready (rs:=[7]) (by kernel_rfl) (by simp) ?_
      refine AllReadyL.consL (o:=⟨_,_,_,_,_,_⟩) rfl (by rfl) (fun K hK=>?_) AllReadyL.nil
      have B8U:=B8H.out.nxb hb8 hHeld.1
      have s0:=B8U.cell 0 _ rfl
      have s1:=B8U.cell 1 _ rfl
      have f0:=B8U.free 0
      have f1:=B8U.free 1
      go_simp
      clear s0 s1 f0 f1
      refine hK.out _ _ ?_
      clear hK K
      refine wpAnyL_done (by kernel_rfl) ?_ _
      obtain ⟨wy,hwy⟩:∃ wy,wy=(wu.setCell ⟨g8,0,none⟩ (.slice aA G.peers.length cA)).setCell ⟨g8,1,none⟩ (.slice aE G.msgs.length cE):=⟨_,rfl⟩
      rw [← hwy]
      have RR:=lH (show Or1 b g6 g7 g8 L aP cP aM cM F0 x1 (.int .i64 ((q:Int)-1)) wy from ⟨q-1,aA,cA,aE,cE,G,by omega,by rw [show ((q-1:Nat):Int)=(q:Int)-1 by omega],by rw [hwy];exact ((B6H.out.nxb hb6 hHeld.1).set_ne (g':=g8) _ h68).set_ne (g':=g8) _ h68,by rw [hwy];exact ((B7H.out.nxb hb7 hHeld.1).set_ne (g':=g8) _ h78).set_ne (g':=g8) _ h78,by rw [hwy];exact (B8U.set 0 _).set 1 _,by rw [hwy];exact ((FX0H.out.nxb hxb hHeld.1).set (p:=⟨g8,0,none⟩) _ hx8).set (p:=⟨g8,1,none⟩) _ hx8,by rw [hwy];exact (FXG.out.set (p:=⟨g8,0,none⟩) _ hx8).set (p:=⟨g8,1,none⟩) _ hx8,by rw [HG.out];exact OB'.out.step (by omega),by rw [hwy];exact hHeld.2.put2 bg8,by rw [hwy];exact ((KX.out.nxb hHeld.1).setNew (p:=⟨g8,0,none⟩) _ z8).setNew (p:=⟨g8,1,none⟩) _ z8⟩)
      clear hwy hHeld hDrew B8U FXG
      go_wp2_with fail
      exact ⟨RR.out,by simp [intOf];omega⟩
     ·have d2:¬ (F0.msgs.length:Int)>0:=by omega
      have CUT:=lH (show ∃ i,Or1 b g6 g7 g8 L aP cP aM cM F0 x1 i wj from ⟨_,q,aB,cB,aC,cC,F,hq3,rfl,B6H.out,B7H.out,B8H.out,FX0H.out,FXBH.out,OBH.out,TH.out,KX.out⟩)
      go_wp2_with fail
      go_meet
      exact CUT.out
    ·have d1:¬ (q:Int)>0:=by omega
     have CUT:=lH (show ∃ i,Or1 b g6 g7 g8 L aP cP aM cM F0 x1 i wj from ⟨_,q,aB,cB,aC,cC,F,hq3,rfl,B6H.out,B7H.out,B8H.out,FX0H.out,FXBH.out,OBH.out,TH.out,KX.out⟩)
     go_wp2_with fail
     go_meet
     exact CUT.out
  case rest =>
   clear R0
   rename World=>x8
   obtain ⟨_,q,aB,cB,aC,cC,Fb,hq3,_,B6,B7,B8,FX0,FXB,OB,T,kx⟩:=hcut
   have hXS:∀ k,X4 b g6 g7 g8 k→k<x8.heap.size:=fun k hk=>by
    have:=B6.lt
    have:=B7.lt
    have:=B8.lt
    have:=T.lt
    rcases hk with rfl | rfl | rfl | rfl<;>omega
   have R0:=lH (show Or2 b g6 g7 g8 x8.heap.size L F0 Fb x1 (.int .i64 0) x8 from ⟨0,aP,cP,aM,cM,F0,aB,cB,aC,cC,Fb,by omega,rfl,B7,B8,FX0,FXB,⟨⟨[],DelTo.refl L F0⟩,by omega,FNH.out,FIH.out⟩,⟨⟨[],DelTo.refl L Fb⟩,by have:=OB.most;omega,by unfold NormF;rw [OB.peers];exact FNH.out,OB.sm⟩,Nat.le_refl _,fun h=>absurd h (by omega),T,kx⟩)
   have OBP:=lH OB.peers
   have OBM:=lH OB.msgs
   have ZS:x1.heap.size≤x8.heap.size:=kx.size
   clear B6 B7 B8 FX0 FXB OB T kx hq3
   go_wp2_with fail
   go_loopw [10] (fun i wr=>Or2 b g6 g7 g8 x8.heap.size L F0 Fb x1 i wr) (fun i _=>20-(intOf i).toNat)
   case atStart=>exact R0.out
   case round =>
    clear R0
    obtain ⟨k,aA,cA,aE,cE,F,aB,cB,aC,cC,G,hk,rfl,B7,B8,FXA,FXB,OA,OB,zS,OW,T,kx⟩:=hrel
    obtain ⟨wi,rfl⟩:∃ wi:World,wi=wr:=⟨_,rfl⟩
    have KX:=lH kx
    have B7H:=lH B7
    have B8H:=lH B8
    have FXAH:=lH FXA
    have FXBH:=lH FXB
    have OAH:=lH OA
    have OBH:=lH OB
    have OWH:=lH OW
    have TH:=lH T
    have hl7:=B7.lt
    have hl8:=B8.lt
    have hlb:=T.lt
    have zPA:F.peers.length≤10:=by rw [norm_lenF OA.norm];omega
    have zPB:G.peers.length≤10:=by rw [norm_lenF OB.norm];omega
    have zMA:F.msgs.length≤4:=by have:=OA.most;omega
    have zMB:G.msgs.length≤7:=by have:=OB.most;omega
    clear kx B7 B8 FXA FXB OA OB OW T
    by_cases hk20:k<20
    ·have c0:=B7H.out.cell 0 _ rfl
     have c1:=B7H.out.cell 1 _ rfl
     clear OWH
     go_wp2_with fail
     (with_reducible refine (del_f _ _ _ L _ _ _ F.peers _ _ _ F.msgs 0 _ (HS.out _ KX.out).sl (by omega) hcX hmX FXAH.out.pl (by omega) OAH.out.sp FXAH.out.sl (by omega) OAH.out.sk).mono ?_)
     rintro e wu ⟨vP,vM,qs,rfl,FO,kk⟩
     obtain ⟨F',hF'⟩:∃ F',F'=delF L F 0:=⟨_,rfl⟩
     have OA2:Hid (OrD L F0 F' 4 (k+1)):=lH (by rw [hF'];exact OAH.out.step H0.out (by omega) (r:=0) (by omega))
     replace FO:=(show FlOwn x8.heap.size wu vP vM qs F' from by rw [hF'];exact FlOwn.lower FO zS)
     obtain ⟨aA2,cA2,aE2,cE2,rfl,rfl,FXA2⟩:=FO.flx (X:=X4 b g6 g7 g8) hXS
     replace B7H:=lH (B7H.out.nx kk)
     replace B8H:=lH (B8H.out.nx kk)
     replace FXBH:=lH (FXBH.out.nx kk)
     replace TH:=lH (TH.out.nx kk)
     replace KX:=lH (KX.out.nxb (kk.b b))
     have FXA2H:=lH FXA2
     have FOH:=lH FO
     have zu:=kk.size
     have e0:=B7H.out.cell 0 _ rfl
     have e1:=B7H.out.cell 1 _ rfl
     have fe0:=B7H.out.free 0
     have fe1:=B7H.out.free 1
     clear kk FO hF' c0 c1 FXAH OAH FXA2
     go_upto_region 13 with fail
     obtain ⟨wy,hwy⟩:∃ wy,wy=(wu.setCell ⟨g7,0,none⟩ (.slice aA2 F'.peers.length cA2)).setCell ⟨g7,1,none⟩ (.slice aE2 F'.msgs.length cE2):=⟨_,rfl⟩
     rw [← hwy]
     clear e0 e1 fe0 fe1
     have BA:=lH (show Blk wy g7 [.slice aA2 F'.peers.length cA2,.slice aE2 F'.msgs.length cE2] 27 from by rw [hwy];exact (B7H.out.set 0 _).set 1 _)
     have BB:=lH (show Blk wy g8 [.slice aB G.peers.length cB,.slice aC G.msgs.length cC] 27 from by rw [hwy];exact (B8H.out.set_ne (g':=g7) _ h87).set_ne (g':=g7) _ h87)
     have FA:=lH (show FlX (X4 b g6 g7 g8) wy aA2 aE2 F' from by rw [hwy];exact (FXA2H.out.set (p:=⟨g7,0,none⟩) _ hx7).set (p:=⟨g7,1,none⟩) _ hx7)
     have FB:=lH (show FlX (X4 b g6 g7 g8) wy aB aC G from by rw [hwy];exact (FXBH.out.set (p:=⟨g7,0,none⟩) _ hx7).set (p:=⟨g7,1,none⟩) _ hx7)
     have OWA:=lH (show FlOwn x8.heap.size wy (.slice aA2 F'.peers.length cA2) (.slice aE2 F'.msgs.length cE2) qs F' from FOH.out.putB B7H.out (by decide) (by decide) (by decide) (by decide) (by rw [hwy];exact ((Exb.refl g7 _).setB (p:=⟨g7,0,none⟩) _ rfl).setB (p:=⟨g7,1,none⟩) _ rfl))
     have TY:=lH (show TK wy b from by rw [hwy];exact TH.out.put2 bg7)
     have KY:=lH (show Exb b x1 wy from by rw [hwy];exact (KX.out.setNew (p:=⟨g7,0,none⟩) _ z7).setNew (p:=⟨g7,1,none⟩) _ z7)
     have zy:x8.heap.size≤wy.heap.size:=by rw [hwy];simp [World.setCell];omega
     have hy8:=BB.out.lt
     have hyb:=TY.out.lt
     clear hwy B7H B8H FXA2H FXBH FOH TH KX zu hl7 hl8 hlb
     refine wp_region_late_drew (S:=(fun x=>Exb b wy x∧TK x b)) [9] (by kernel_rfl) (And.intro (Exb.refl b wy).drew (TY.out.nx (Ex.refl wy).drew)) (fun hHeld=>?_)
     obtain ⟨wd,hwdx⟩:∃ wd:World,wd=World.drew wy:=⟨_,rfl⟩
     rw [← hwdx] at hHeld ⊢
     have hDrew:Ex wy wd:=by rw [hwdx];exact (Ex.refl wy).drew
     clear hwdx
     refine tkL 0 (v:=?_) rfl (by kernel_rfl) (fun _ _ _ h=>h) (by rfl) ?y3x0q5 (by assumption) ?z3x0q5
     case y3x0q5=>intro wq hSw;(go_simp);(try with_reducible rfl)
     refine tkL 1 (v:=?_) rfl (by kernel_rfl) (fun _ _ _ h=>h) (by rfl) ?y3x1q8 (by assumption) ?z3x1q8
     case y3x1q8=>intro wq hSw;(have cq0:=(BB.out.nxb hb8 hSw.1).cell 0 _ rfl;have cq1:=(BB.out.nxb hb8 hSw.1).cell 1 _ rfl;go_simp);(try with_reducible rfl)
     refine tkL 2 (v:=?_) rfl (by kernel_rfl) (fun _ _ _ h=>h) (by rfl) ?y3x2q11 (by assumption) ?z3x2q11
     case y3x2q11=>intro wq hSw;(go_simp);(try with_reducible rfl)
     refine tkL 3 (v:=?_) rfl (by kernel_rfl) (fun _ _ _ h=>h) (by rfl) ?y3x3q14 (by assumption) ?z3x3q14
     case y3x3q14=>intro wq hSw;(go_simp);(try with_reducible rfl)
     refine tkL 4 (v:=?_) rfl (by kernel_rfl) (fun _ _ _ h=>h) (by rfl) ?y3x4q17 (by assumption) ?z3x4q17
     case y3x4q17=>intro wq hSw;(have cq:=(BB.out.nxb hb8 hSw.1).cell 1 _ rfl;go_simp);(try with_reducible rfl)
     refine tkL 5 (v:=?_) rfl (by kernel_rfl) (fun _ _ _ h=>h) (by rfl) ?y3x5q20 (by assumption) ?z3x5q20
     case y3x5q20=>intro wq hSw;(go_simp);(try with_reducible rfl)
     refine tkL 6 (v:=?_) rfl (by kernel_rfl) (fun _ _ _ h=>h) (by rfl) ?y3x6q23 (by assumption) ?z3x6q23
     case y3x6q23=>intro wq hSw;(go_simp);(try with_reducible rfl)
     refine wpAnyL_ready (rs:=[7]) (by kernel_rfl) (by simp) ?_
     refine AllReadyL.cons (o:=⟨_,_,_,_,_,_⟩) rfl (fun K hK=>?_) AllReadyL.nil
     go_simp
     refine (next_t (max (G.msgs.length:Int) 1) _ hHeld.2 (by omega) (by omega)).mono ?_
     rintro e wa ⟨r,rfl,r0,r1,T,kk⟩
     obtain ⟨r,rfl⟩:=Int.eq_ofNat_of_zero_le r0
     replace hHeld:=And.intro (hHeld.1.nxb kk) T
     clear kk T
     refine hK.out _ _ (hHeld) (fun hHeld=>?_)
     clear hK K
     refine wpAnyL_ready (rs:=[8]) (by kernel_rfl) (by simp) ?_
     refine AllReadyL.cons (o:=⟨_,_,_,_,_,_⟩) rfl (fun K hK=>?_) AllReadyL.nil
     go_simp
     (with_reducible refine (del_f _ _ _ L _ _ _ G.peers _ _ _ G.msgs r _ (HS.out _ (KY.out.nxb hHeld.1)).sl (by omega) hcX hmX (FB.out.nxb hxb hHeld.1).pl (by omega) OBH.out.sp (FB.out.nxb hxb hHeld.1).sl (by omega) OBH.out.sk).mono ?_)
     rintro e wv ⟨vP,vM,qb,rfl,FO,kk⟩
     obtain ⟨G',hG'⟩:∃ G',G'=delF L G r:=⟨_,rfl⟩
     have HG:=lH hG'
     replace FO:=(show FlOwn wy.heap.size wv vP vM qb G' from by rw [hG'];exact FlOwn.lower FO hHeld.1.size)
     obtain ⟨aB2,cB2,aC2,cC2,rfl,rfl,FXG⟩:=FO.flx (X:=X4 b g6 g7 g8) (fun k hk=>by have:=hXS k hk;omega)
     replace FXG:=lH FXG
     have FOG:=lH FO
     replace hHeld:=And.intro (hHeld.1.nxb (kk.b b)) (hHeld.2.nx kk)
     clear kk FO hG'
     refine hK.out _ _ (hHeld) (fun hHeld=>?_)
     clear hK K
     refine wpAnyL_ready (rs:=[9]) (by kernel_rfl) (by simp) ?_
     refine AllReadyL.consL (o:=⟨_,_,_,_,_,_⟩) rfl (by rfl) (fun K hK=>?_) AllReadyL.nil
     have BBU:=BB.out.nxb hb8 hHeld.1
     have s0:=BBU.cell 0 _ rfl
     have s1:=BBU.cell 1 _ rfl
     have f0:=BBU.free 0
     have f1:=BBU.free 1
     go_simp
     clear s0 s1 f0 f1
     refine hK.out _ _ ?_
     clear hK K
     refine wpAnyL_done (by kernel_rfl) ?_ _
     obtain ⟨wz,hwz⟩:∃ wz,wz=(wv.setCell ⟨g8,0,none⟩ (.slice aB2 G'.peers.length cB2)).setCell ⟨g8,1,none⟩ (.slice aC2 G'.msgs.length cC2):=⟨_,rfl⟩
     rw [← hwz]
     have kz:Exb g8 wv wz:=by rw [hwz];exact ((Exb.refl g8 _).setB (p:=⟨g8,0,none⟩) _ rfl).setB (p:=⟨g8,1,none⟩) _ rfl
     have OA3:=(OWA.out.nxb (by omega) hHeld.1).putB BBU (by decide) (by decide) (by decide) (by decide) kz
     have OB3:=FOG.out.putB BBU (by decide) (by decide) (by decide) (by decide) kz
     have DIS:∀ g,(Value.slice aA2 F'.peers.length cA2).ownBlock=some g→¬ (Value.slice aB2 G'.peers.length cB2).ownBlock=some g:=fun g hg hg'=>by
      have h1:=OwnW.blk_lt OWA.out.1.1 hg
      have h2:=(OwnW.blk FOG.out.1.1 hg').1
      omega
     have OB2:OrD L Fb G' 7 (k+1):=by rw [HG.out];exact OBH.out.step H0.out (by omega) (by omega)
     have zz:x8.heap.size≤wz.heap.size:=Nat.le_trans zy (Nat.le_trans hHeld.1.size kz.size)
     have RR:=lH (show Or2 b g6 g7 g8 x8.heap.size L F0 Fb x1 (.int .i64 ((k:Int)+1)) wz from ⟨k+1,aA2,cA2,aE2,cE2,F',aB2,cB2,aC2,cC2,G',by omega,by go_num,by rw [hwz];exact ((BA.out.nxb hb7 hHeld.1).set_ne (g':=g8) _ h78).set_ne (g':=g8) _ h78,by rw [hwz];exact (BBU.set 0 _).set 1 _,by rw [hwz];exact ((FA.out.nxb hxb hHeld.1).set (p:=⟨g8,0,none⟩) _ hx8).set (p:=⟨g8,1,none⟩) _ hx8,by rw [hwz];exact (FXG.out.set (p:=⟨g8,0,none⟩) _ hx8).set (p:=⟨g8,1,none⟩) _ hx8,OA2.out,OB2,zz,fun _=>⟨qs,qb,OA3.1,OB3.1.lower zy,DIS⟩,by rw [hwz];exact hHeld.2.put2 bg8,by rw [hwz];exact ((KY.out.nxb hHeld.1).setNew (p:=⟨g8,0,none⟩) _ z8).setNew (p:=⟨g8,1,none⟩) _ z8⟩)
     clear hwz kz hHeld hDrew BBU FXG OA3 OB3 OB2 DIS
     go_wp2_with fail
     exact ⟨RR.out,by simp [intOf];omega⟩
    ·obtain rfl:k=20:=by omega
     have F0m:F.msgs.length=0:=by have:=OAH.out.most;omega
     have G0m:G.msgs.length=0:=by have:=OBH.out.most;omega
     have EQ:Hid (F.peers.map (endP L)=G.peers.map (endP L)):=lH (by
      obtain ⟨Da,hDa⟩:=OAH.out.del
      obtain ⟨Db,hDb⟩:=OBH.out.del
      exact orders_law H0.out hDa hDb OBP.out OBM.out (List.length_eq_zero_iff.1 F0m) (List.length_eq_zero_iff.1 G0m) OAH.out.norm OBH.out.norm)
     obtain ⟨qa,qb,OA,OB,DIS⟩:=OWH.out (by omega)
     have B7:=B7H.out
     have B8:=B8H.out
     have FEW:=lH (end_few (N:=L) (P:=F.peers) (by omega) OAH.out.sp)
     have SPA:=lH OAH.out.sp
     have SPB:=lH OBH.out.sp
     have lF:=norm_lenF OAH.out.norm
     have lG:=norm_lenF OBH.out.norm
     rw [F0m,lF] at B7
     rw [G0m,lG] at B8
     rw [lF] at OA DIS
     rw [lG] at OB DIS
     generalize F.peers=P at OA EQ FEW SPA lF
     generalize G.peers=Q at OB EQ SPB lG
     have LF:=lH lF
     have LG:=lH lG
     have DISH:=lH DIS
     have R0:=lH (show Or3 b g7 g8 x8.heap.size L.length L [.slice aA L.length cA,.slice aE 0 cE] [.slice aB L.length cB,.slice aC 0 cC] aA cA P (.slice aB L.length cB) Q x1 (.int .i64 0) wi from ⟨0,qa,qb,by omega,rfl,B7,B8,by simpa [endJ] using OA,OB,KX.out⟩)
     clear B7H B8H FXAH FXBH OAH OBH OWH TH OA OB B7 B8 lF lG KX OBP OBM FNH FIH F0m G0m DIS zPA zPB zMA zMB
     go_wp2_with fail
     go_loopw [11] (fun i wr=>Or3 b g7 g8 x8.heap.size L.length L [.slice aA L.length cA,.slice aE 0 cE] [.slice aB L.length cB,.slice aC 0 cC] aA cA P (.slice aB L.length cB) Q x1 i wr) (fun i _=>L.length-(intOf i).toNat)
     case atStart=>exact R0.out
     case round =>
      clear R0
      obtain ⟨j,qa,qb,hj,rfl,B7,B8,OA,OB,kx⟩:=hrel
      obtain ⟨wj,rfl⟩:∃ wj:World,wj=wr:=⟨_,rfl⟩
      have KX:=lH kx
      have B7H:=lH B7
      have B8H:=lH B8
      have OAH:=lH OA
      have OBH:=lH OB
      have c0:=B7.cell 0 _ rfl
      clear kx B7 B8 OA OB
      by_cases hjn:j<L.length
      ·obtain ⟨p,hp⟩:∃ p,P[j]?=some p:=⟨P[j]'(by rw [LF.out];exact hjn),by simp⟩
       have hpe:=endJ_at (N:=L) hp
       obtain ⟨⟨A1,m1,c1⟩,hn1,hq1,ok1,_⟩:=OAH.out.get hpe
       obtain ⟨g,hge,hgS⟩:∃ g,aA=some ⟨g,0,none⟩∧x8.heap.size≤g:=by
        obtain ⟨a',c',e,_,_,_,hVg,_⟩:=OAH.out.pl
        have e1:aA=a':=by injection e
        obtain ⟨g,h1,h2⟩:=hVg (fun h0=>by rw [h0] at hpe;simp at hpe)
        exact ⟨g,e1.trans h1,h2⟩
       have GE:=lH hge
       obtain rfl:=hge
       have s1:wj.cell? ⟨g,j*5+1,none⟩=some (.slice A1 m1 c1):=(OwnW.set1 encQ_len OAH.out.1 hq1 (c:=1) (by omega)).1
       have s0:wj.cell? ⟨g,j*5,none⟩=some (.int .i64 p.id):=(OwnW.set1 encQ_len OAH.out.1 hq1 (c:=0) (by omega)).1
       have hgo:g<wj.heap.size:=OwnW.blk_lt OAH.out.1 rfl
       have S1:Hid (∀ wq,Ex wj wq→wq.cell? ⟨g,j*5+1,none⟩=some (.slice A1 m1 c1)):=lH (fun wq kq=>Chg.cellv kq s1 hgo)
       have S0:Hid (∀ wq,Ex wj wq→wq.cell? ⟨g,j*5,none⟩=some (.int .i64 p.id)):=lH (fun wq kq=>Chg.cellv kq s0 hgo)
       have SK:Hid (Sl 1 encI wj A1 m1 p.known):=lH (by
        obtain ⟨a',c',e',r',_⟩:=ok1.rd (fun _=>rfl)
        simp only [Hdr.val,Value.slice.injEq] at e'
        obtain ⟨rfl,rfl,rfl⟩:=e'
        exact Rd.mono r' (fun _ hk=>hk.2))
       have fp:=SPA.out p (List.mem_of_getElem? hp)
       have hm1:m1=p.known.length:=by have:=SK.out.len;omega
       have hm2:m1≤4000000000000000000:=by omega
       have HQ:=lH hq1
       have HPE:=lH hpe
       have HP:=lH hp
       have j1:(j:Int)<(L.length:Int):=by omega
       have n7:¬ g7=g:=by have:=hXS g7 (by assumption);omega
       have n8:¬ g8=g:=by have:=hXS g8 (by assumption);omega
       clear ok1 hq1 hpe hp s0 s1 hm1
       go_upto_region 17 with fail
       clear c0
       refine wp_region_late_drew (S:=Ex wj) [18,19,20] (by kernel_rfl) ((Ex.refl wj).drew) (fun hHeld=>?_)
       obtain ⟨wd,hwdx⟩:∃ wd:World,wd=World.drew wj:=⟨_,rfl⟩
       rw [← hwdx] at hHeld ⊢
       have hDrew:Ex wj wd:=by rw [hwdx];exact (Ex.refl wj).drew
       clear hwdx
       refine tkL 0 (v:=?_) rfl (by kernel_rfl) (fun _ _ _ h=>h) (by rfl) ?y4x0q5 (by assumption) ?z4x0q5
       case y4x0q5=>intro wq hSw;(go_simp);(try with_reducible rfl)
       refine tkL 1 (v:=?_) rfl (by kernel_rfl) (fun _ _ _ h=>h) (by rfl) ?y4x1q8 (by assumption) ?z4x1q8
       case y4x1q8=>intro wq hSw;(have cq:=(B7H.out.nx hSw).cell 0 _ rfl;go_simp);(try with_reducible rfl)
       refine tkL 2 (v:=?_) rfl (by kernel_rfl) (fun _ _ _ h=>h) (by rfl) ?y4x2q11 (by assumption) ?z4x2q11
       case y4x2q11=>intro wq hSw;(go_simp);(try with_reducible rfl)
       refine tkL 3 (v:=?_) rfl (by kernel_rfl) (fun _ _ _ h=>h) (by rfl) ?y4x3q14 (by assumption) ?z4x3q14
       case y4x3q14=>intro wq hSw;(go_simp);(try with_reducible rfl)
       refine tkL 4 (v:=?_) rfl (by kernel_rfl) (fun _ _ _ h=>h) (by rfl) ?y4x4q17 (by assumption) ?z4x4q17
       case y4x4q17=>intro wq hSw;(go_simp);(try with_reducible rfl)
       refine tkL 5 (v:=?_) rfl (by kernel_rfl) (fun _ _ _ h=>h) (by rfl) ?y4x5q20 (by assumption) ?z4x5q20
       case y4x5q20=>intro wq hSw;(have cq:=(B7H.out.nx hSw).cell 0 _ rfl;go_simp);(try with_reducible rfl)
       refine tkL 6 (v:=?_) rfl (by kernel_rfl) (fun _ _ _ h=>h) (by rfl) ?y4x6q23 (by assumption) ?z4x6q23
       case y4x6q23=>intro wq hSw;(go_simp);(try with_reducible rfl)
       refine tkL 7 (v:=?_) rfl (by kernel_rfl) (fun _ _ _ h=>h) (by rfl) ?y4x7q26 (by assumption) ?z4x7q26
       case y4x7q26=>intro wq hSw;(go_simp);(try with_reducible rfl)
       refine tkL 8 (v:=?_) rfl (by kernel_rfl) (fun _ _ _ h=>h) (by rfl) ?y4x8q29 (by assumption) ?z4x8q29
       case y4x8q29=>intro wq hSw;(go_simp);(try with_reducible rfl)
       refine tkL 9 (v:=?_) rfl (by kernel_rfl) (fun _ _ _ h=>h) (by rfl) ?y4x9q32 (by assumption) ?z4x9q32
       case y4x9q32=>intro wq hSw;(have cq:=S0.out wq hSw;go_simp);(try with_reducible rfl)
       refine tkL 10 (v:=?_) rfl (by kernel_rfl) (fun _ _ _ h=>h) (by rfl) ?y4x10q35 (by assumption) ?z4x10q35
       case y4x10q35=>intro wq hSw;(go_simp);(try with_reducible rfl)
       refine tkL 11 (v:=?_) rfl (by kernel_rfl) (fun _ _ _ h=>h) (by rfl) ?y4x11q38 (by assumption) ?z4x11q38
       case y4x11q38=>intro wq hSw;(have cq:=(B7H.out.nx hSw).cell 0 _ rfl;go_simp);(try with_reducible rfl)
       refine tkL 12 (v:=?_) rfl (by kernel_rfl) (fun _ _ _ h=>h) (by rfl) ?y4x12q41 (by assumption) ?z4x12q41
       case y4x12q41=>intro wq hSw;(go_simp);(try with_reducible rfl)
       refine tkL 13 (v:=?_) rfl (by kernel_rfl) (fun _ _ _ h=>h) (by rfl) ?y4x13q44 (by assumption) ?z4x13q44
       case y4x13q44=>intro wq hSw;(go_simp);(try with_reducible rfl)
       refine tkL 14 (v:=?_) rfl (by kernel_rfl) (fun _ _ _ h=>h) (by rfl) ?y4x14q47 (by assumption) ?z4x14q47
       case y4x14q47=>intro wq hSw;(go_simp);(try with_reducible rfl)
       refine tkL 15 (v:=?_) rfl (by kernel_rfl) (fun _ _ _ h=>h) (by rfl) ?y4x15q50 (by assumption) ?z4x15q50
       case y4x15q50=>intro wq hSw;(have cq:=S1.out wq hSw;go_simp);(try with_reducible rfl)
       refine tkL 16 (v:=?_) rfl (by kernel_rfl) (fun _ _ _ h=>h) (by rfl) ?y4x16q53 (by assumption) ?z4x16q53
       case y4x16q53=>intro wq hSw;(go_simp);(try with_reducible rfl)
       refine wpAnyL_ready (rs:=[17]) (by kernel_rfl) (by simp) ?_
       refine AllReadyL.cons (o:=⟨_,_,_,_,_,_⟩) rfl (fun K hK=>?_) AllReadyL.nil
       go_simp
       (with_reducible refine (refs_end (b:=b) _ _ _ L p _ _ _ _ (HS.out _ (KX.out.nxb (hHeld.b b))).sl (by omega) hcX hmX (SK.out.nx hHeld) hm2 rfl).mono ?_)
       rintro e wu ⟨v9,rfl,own9,kk⟩
       obtain ⟨A9,C9,rfl,_,_,_,_⟩:=own9.slf (fun _=>rfl)
       have zu:=hHeld.size
       replace hHeld:=hHeld.nx kk
       have OW9:=lH own9
       have KU:=lH hHeld
       clear kk own9
       refine hK.out _ _ (hHeld) (fun hHeld=>?_)
       clear hK K
       refine wpAnyL_ready (rs:=[18]) (by kernel_rfl) (by simp) ?_
       refine AllReadyL.consL (o:=⟨_,_,_,_,_,_⟩) rfl (by rfl) (fun K hK=>?_) AllReadyL.nil
       go_simp
       refine hK.out _ _ ?_
       clear hK K
       refine wpAnyL_ready (rs:=[19]) (by kernel_rfl) (by simp) ?_
       refine AllReadyL.consL (o:=⟨_,_,_,_,_,_⟩) rfl (by rfl) (fun K hK=>?_) AllReadyL.nil
       go_simp
       refine hK.out _ _ ?_
       clear hK K
       refine wpAnyL_ready (rs:=[20]) (by kernel_rfl) (by simp) ?_
       refine AllReadyL.consL (o:=⟨_,_,_,_,_,_⟩) rfl (by rfl) (fun K hK=>?_) AllReadyL.nil
       have s1:=S1.out _ KU.out
       have f1:World.frozen? _ ⟨g,j*5+1,none⟩=false:=(OwnW.set1 encQ_len (OAH.out.nx KU.out).1 HQ.out (c:=1) (by omega)).2.1
       go_simp
       clear s1 f1
       refine hK.out _ _ ?_
       clear hK K
       refine wpAnyL_done (by kernel_rfl) ?_ _
       obtain ⟨_,_,O9⟩:=OAH.out.growK (w1:=wu) (hk':=(A9,_,C9)) (by decide) (by decide) (by decide) HQ.out HPE.out (OW9.out.base (by omega)) (Chg.mono KU.out (fun k hk=>hk.1)) (fun g' hg'=>.inr (Nat.le_trans zu (OW9.out.lt g' hg').1))
       have E9:Hid ((endJ L P j).set j { p with known:=refsN L ⟨p.id,0,0,p.known,[]⟩ }=endJ L P (j+1)):=lH (endJ_set HP.out)
       rw [E9.out] at O9
       obtain ⟨_,cur,hcur⟩:=OwnW.blk (OAH.out.nx KU.out).1 (show (Value.slice (some ⟨g,0,none⟩) L.length cA).ownBlock=some g from rfl)
       have OB9:=(OBH.out.nx KU.out).otherRow (by decide) (by decide) hcur (DISH.out g rfl) ((Exb.refl g wu).setB (p:=⟨g,j*5+1,none⟩) (.slice A9 (refsN L ⟨p.id,0,0,p.known,[]⟩).length C9) rfl)
       have RR:=lH (show Or3 b g7 g8 x8.heap.size L.length L [.slice (some ⟨g,0,none⟩) L.length cA,.slice aE 0 cE] [.slice aB L.length cB,.slice aC 0 cC] (some ⟨g,0,none⟩) cA P (.slice aB L.length cB) Q x1 (.int .i64 ((j:Int)+1)) (wu.setCell ⟨g,j*5+1,none⟩ (.slice A9 (refsN L ⟨p.id,0,0,p.known,[]⟩).length C9)) from
        ⟨j+1,_,_,by omega,by go_num,(B7H.out.nx KU.out).set_ne (g':=g) _ n7,(B8H.out.nx KU.out).set_ne (g':=g) _ n8,O9,OB9,(KX.out.nxb (KU.out.b b)).setNew (p:=⟨g,j*5+1,none⟩) _ (by show x1.heap.size≤g;omega)⟩)
       clear hHeld hDrew O9 OB9 hcur
       go_wp2_with fail
       exact ⟨RR.out,by simp [intOf];omega⟩
      ·obtain rfl:j=L.length:=by omega
       have j1:¬ (L.length:Int)<(L.length:Int):=by omega
       have OAE:=OAH.out
       rw [← LF.out,endJ_all,LF.out] at OAE
       replace OAE:=lH OAE
       clear OAH hj hjn
       have R0:=lH (show Or3 b g8 g7 x8.heap.size L.length L [.slice aB L.length cB,.slice aC 0 cC] [.slice aA L.length cA,.slice aE 0 cE] aB cB Q (.slice aA L.length cA) (P.map (endP L)) x1 (.int .i64 0) wj from ⟨0,qb,qa,by omega,rfl,B8H.out,B7H.out,by simpa [endJ] using OBH.out,OAE.out,KX.out⟩)
       clear B7H B8H OBH OAE KX
       go_wp2_with fail
       go_loopw [12] (fun i wr=>Or3 b g8 g7 x8.heap.size L.length L [.slice aB L.length cB,.slice aC 0 cC] [.slice aA L.length cA,.slice aE 0 cE] aB cB Q (.slice aA L.length cA) (P.map (endP L)) x1 i wr) (fun i _=>L.length-(intOf i).toNat)
       case atStart=>exact R0.out
       case round =>
        clear R0
        obtain ⟨j,qa,qb,hj,rfl,B7,B8,OA,OB,kx⟩:=hrel
        obtain ⟨wj,rfl⟩:∃ wj:World,wj=wr:=⟨_,rfl⟩
        have KX:=lH kx
        have B7H:=lH B7
        have B8H:=lH B8
        have OAH:=lH OA
        have OBH:=lH OB
        have c0:=B7.cell 0 _ rfl
        clear kx B7 B8 OA OB
        by_cases hjn:j<L.length
        ·obtain ⟨p,hp⟩:∃ p,Q[j]?=some p:=⟨Q[j]'(by rw [LG.out];exact hjn),by simp⟩
         have hpe:=endJ_at (N:=L) hp
         obtain ⟨⟨A1,m1,c1⟩,hn1,hq1,ok1,_⟩:=OAH.out.get hpe
         obtain ⟨g,hge,hgS⟩:∃ g,aB=some ⟨g,0,none⟩∧x8.heap.size≤g:=by
          obtain ⟨a',c',e,_,_,_,hVg,_⟩:=OAH.out.pl
          have e1:aB=a':=by injection e
          obtain ⟨g,h1,h2⟩:=hVg (fun h0=>by rw [h0] at hpe;simp at hpe)
          exact ⟨g,e1.trans h1,h2⟩
         have GE:=lH hge
         obtain rfl:=hge
         have s1:wj.cell? ⟨g,j*5+1,none⟩=some (.slice A1 m1 c1):=(OwnW.set1 encQ_len OAH.out.1 hq1 (c:=1) (by omega)).1
         have s0:wj.cell? ⟨g,j*5,none⟩=some (.int .i64 p.id):=(OwnW.set1 encQ_len OAH.out.1 hq1 (c:=0) (by omega)).1
         have hgo:g<wj.heap.size:=OwnW.blk_lt OAH.out.1 rfl
         have S1:Hid (∀ wq,Ex wj wq→wq.cell? ⟨g,j*5+1,none⟩=some (.slice A1 m1 c1)):=lH (fun wq kq=>Chg.cellv kq s1 hgo)
         have S0:Hid (∀ wq,Ex wj wq→wq.cell? ⟨g,j*5,none⟩=some (.int .i64 p.id)):=lH (fun wq kq=>Chg.cellv kq s0 hgo)
         have SK:Hid (Sl 1 encI wj A1 m1 p.known):=lH (by
          obtain ⟨a',c',e',r',_⟩:=ok1.rd (fun _=>rfl)
          simp only [Hdr.val,Value.slice.injEq] at e'
          obtain ⟨rfl,rfl,rfl⟩:=e'
          exact Rd.mono r' (fun _ hk=>hk.2))
         have fp:=SPB.out p (List.mem_of_getElem? hp)
         have hm1:m1=p.known.length:=by have:=SK.out.len;omega
         have hm2:m1≤4000000000000000000:=by omega
         have HQ:=lH hq1
         have HPE:=lH hpe
         have HP:=lH hp
         have j1:(j:Int)<(L.length:Int):=by omega
         have n7:¬ g8=g:=by have:=hXS g8 (by assumption);omega
         have n8:¬ g7=g:=by have:=hXS g7 (by assumption);omega
         clear ok1 hq1 hpe hp s0 s1 hm1
         go_upto_region 21 with fail
         clear c0
         refine wp_region_late_drew (S:=Ex wj) [18,19,20] (by kernel_rfl) ((Ex.refl wj).drew) (fun hHeld=>?_)
         obtain ⟨wd,hwdx⟩:∃ wd:World,wd=World.drew wj:=⟨_,rfl⟩
         rw [← hwdx] at hHeld ⊢
         have hDrew:Ex wj wd:=by rw [hwdx];exact (Ex.refl wj).drew
         clear hwdx
         refine tkL 0 (v:=?_) rfl (by kernel_rfl) (fun _ _ _ h=>h) (by rfl) ?y5x0q5 (by assumption) ?z5x0q5
         case y5x0q5=>intro wq hSw;(go_simp);(try with_reducible rfl)
         refine tkL 1 (v:=?_) rfl (by kernel_rfl) (fun _ _ _ h=>h) (by rfl) ?y5x1q8 (by assumption) ?z5x1q8
         case y5x1q8=>intro wq hSw;(have cq:=(B7H.out.nx hSw).cell 0 _ rfl;go_simp);(try with_reducible rfl)
         refine tkL 2 (v:=?_) rfl (by kernel_rfl) (fun _ _ _ h=>h) (by rfl) ?y5x2q11 (by assumption) ?z5x2q11
         case y5x2q11=>intro wq hSw;(go_simp);(try with_reducible rfl)
         refine tkL 3 (v:=?_) rfl (by kernel_rfl) (fun _ _ _ h=>h) (by rfl) ?y5x3q14 (by assumption) ?z5x3q14
         case y5x3q14=>intro wq hSw;(go_simp);(try with_reducible rfl)
         refine tkL 4 (v:=?_) rfl (by kernel_rfl) (fun _ _ _ h=>h) (by rfl) ?y5x4q17 (by assumption) ?z5x4q17
         case y5x4q17=>intro wq hSw;(go_simp);(try with_reducible rfl)
         refine tkL 5 (v:=?_) rfl (by kernel_rfl) (fun _ _ _ h=>h) (by rfl) ?y5x5q20 (by assumption) ?z5x5q20
         case y5x5q20=>intro wq hSw;(have cq:=(B7H.out.nx hSw).cell 0 _ rfl;go_simp);(try with_reducible rfl)
         refine tkL 6 (v:=?_) rfl (by kernel_rfl) (fun _ _ _ h=>h) (by rfl) ?y5x6q23 (by assumption) ?z5x6q23
         case y5x6q23=>intro wq hSw;(go_simp);(try with_reducible rfl)
         refine tkL 7 (v:=?_) rfl (by kernel_rfl) (fun _ _ _ h=>h) (by rfl) ?y5x7q26 (by assumption) ?z5x7q26
         case y5x7q26=>intro wq hSw;(go_simp);(try with_reducible rfl)
         refine tkL 8 (v:=?_) rfl (by kernel_rfl) (fun _ _ _ h=>h) (by rfl) ?y5x8q29 (by assumption) ?z5x8q29
         case y5x8q29=>intro wq hSw;(go_simp);(try with_reducible rfl)
         refine tkL 9 (v:=?_) rfl (by kernel_rfl) (fun _ _ _ h=>h) (by rfl) ?y5x9q32 (by assumption) ?z5x9q32
         case y5x9q32=>intro wq hSw;(have cq:=S0.out wq hSw;go_simp);(try with_reducible rfl)
         refine tkL 10 (v:=?_) rfl (by kernel_rfl) (fun _ _ _ h=>h) (by rfl) ?y5x10q35 (by assumption) ?z5x10q35
         case y5x10q35=>intro wq hSw;(go_simp);(try with_reducible rfl)
         refine tkL 11 (v:=?_) rfl (by kernel_rfl) (fun _ _ _ h=>h) (by rfl) ?y5x11q38 (by assumption) ?z5x11q38
         case y5x11q38=>intro wq hSw;(have cq:=(B7H.out.nx hSw).cell 0 _ rfl;go_simp);(try with_reducible rfl)
         refine tkL 12 (v:=?_) rfl (by kernel_rfl) (fun _ _ _ h=>h) (by rfl) ?y5x12q41 (by assumption) ?z5x12q41
         case y5x12q41=>intro wq hSw;(go_simp);(try with_reducible rfl)
         refine tkL 13 (v:=?_) rfl (by kernel_rfl) (fun _ _ _ h=>h) (by rfl) ?y5x13q44 (by assumption) ?z5x13q44
         case y5x13q44=>intro wq hSw;(go_simp);(try with_reducible rfl)
         refine tkL 14 (v:=?_) rfl (by kernel_rfl) (fun _ _ _ h=>h) (by rfl) ?y5x14q47 (by assumption) ?z5x14q47
         case y5x14q47=>intro wq hSw;(go_simp);(try with_reducible rfl)
         refine tkL 15 (v:=?_) rfl (by kernel_rfl) (fun _ _ _ h=>h) (by rfl) ?y5x15q50 (by assumption) ?z5x15q50
         case y5x15q50=>intro wq hSw;(have cq:=S1.out wq hSw;go_simp);(try with_reducible rfl)
         refine tkL 16 (v:=?_) rfl (by kernel_rfl) (fun _ _ _ h=>h) (by rfl) ?y5x16q53 (by assumption) ?z5x16q53
         case y5x16q53=>intro wq hSw;(go_simp);(try with_reducible rfl)
         refine wpAnyL_ready (rs:=[17]) (by kernel_rfl) (by simp) ?_
         refine AllReadyL.cons (o:=⟨_,_,_,_,_,_⟩) rfl (fun K hK=>?_) AllReadyL.nil
         go_simp
         (with_reducible refine (refs_end (b:=b) _ _ _ L p _ _ _ _ (HS.out _ (KX.out.nxb (hHeld.b b))).sl (by omega) hcX hmX (SK.out.nx hHeld) hm2 rfl).mono ?_)
         rintro e wu ⟨v9,rfl,own9,kk⟩
         obtain ⟨A9,C9,rfl,_,_,_,_⟩:=own9.slf (fun _=>rfl)
         have zu:=hHeld.size
         replace hHeld:=hHeld.nx kk
         have OW9:=lH own9
         have KU:=lH hHeld
         clear kk own9
         refine hK.out _ _ (hHeld) (fun hHeld=>?_)
         clear hK K
         refine wpAnyL_ready (rs:=[18]) (by kernel_rfl) (by simp) ?_
         refine AllReadyL.consL (o:=⟨_,_,_,_,_,_⟩) rfl (by rfl) (fun K hK=>?_) AllReadyL.nil
         go_simp
         refine hK.out _ _ ?_
         clear hK K
         refine wpAnyL_ready (rs:=[19]) (by kernel_rfl) (by simp) ?_
         refine AllReadyL.consL (o:=⟨_,_,_,_,_,_⟩) rfl (by rfl) (fun K hK=>?_) AllReadyL.nil
         go_simp
         refine hK.out _ _ ?_
         clear hK K
         refine wpAnyL_ready (rs:=[20]) (by kernel_rfl) (by simp) ?_
         refine AllReadyL.consL (o:=⟨_,_,_,_,_,_⟩) rfl (by rfl) (fun K hK=>?_) AllReadyL.nil
         have s1:=S1.out _ KU.out
         have f1:World.frozen? _ ⟨g,j*5+1,none⟩=false:=(OwnW.set1 encQ_len (OAH.out.nx KU.out).1 HQ.out (c:=1) (by omega)).2.1
         go_simp
         clear s1 f1
         refine hK.out _ _ ?_
         clear hK K
         refine wpAnyL_done (by kernel_rfl) ?_ _
         obtain ⟨_,_,O9⟩:=OAH.out.growK (w1:=wu) (hk':=(A9,_,C9)) (by decide) (by decide) (by decide) HQ.out HPE.out (OW9.out.base (by omega)) (Chg.mono KU.out (fun k hk=>hk.1)) (fun g' hg'=>.inr (Nat.le_trans zu (OW9.out.lt g' hg').1))
         have E9:Hid ((endJ L Q j).set j { p with known:=refsN L ⟨p.id,0,0,p.known,[]⟩ }=endJ L Q (j+1)):=lH (endJ_set HP.out)
         rw [E9.out] at O9
         obtain ⟨_,cur,hcur⟩:=OwnW.blk (OAH.out.nx KU.out).1 (show (Value.slice (some ⟨g,0,none⟩) L.length cB).ownBlock=some g from rfl)
         have OB9:=(OBH.out.nx KU.out).otherRow (by decide) (by decide) hcur ((fun g hg hg2=>DISH.out g hg2 hg) g rfl) ((Exb.refl g wu).setB (p:=⟨g,j*5+1,none⟩) (.slice A9 (refsN L ⟨p.id,0,0,p.known,[]⟩).length C9) rfl)
         have RR:=lH (show Or3 b g8 g7 x8.heap.size L.length L [.slice (some ⟨g,0,none⟩) L.length cB,.slice aC 0 cC] [.slice aA L.length cA,.slice aE 0 cE] (some ⟨g,0,none⟩) cB Q (.slice aA L.length cA) (P.map (endP L)) x1 (.int .i64 ((j:Int)+1)) (wu.setCell ⟨g,j*5+1,none⟩ (.slice A9 (refsN L ⟨p.id,0,0,p.known,[]⟩).length C9)) from
          ⟨j+1,_,_,by omega,by go_num,(B7H.out.nx KU.out).set_ne (g':=g) _ n7,(B8H.out.nx KU.out).set_ne (g':=g) _ n8,O9,OB9,(KX.out.nxb (KU.out.b b)).setNew (p:=⟨g,j*5+1,none⟩) _ (by show x1.heap.size≤g;omega)⟩)
         clear hHeld hDrew O9 OB9 hcur
         go_wp2_with fail
         exact ⟨RR.out,by simp [intOf];omega⟩
        ·obtain rfl:j=L.length:=by omega
         have j1:¬ (L.length:Int)<(L.length:Int):=by omega
         have OAE:=OAH.out
         rw [← LG.out,endJ_all,LG.out] at OAE
         replace OAE:=lH OAE
         clear OAH hj hjn
         have q7:=B8H.out.cell 1 _ rfl
         have q70:=B8H.out.cell 0 _ rfl
         have q8:=B7H.out.cell 1 _ rfl
         have q80:=B7H.out.cell 0 _ rfl
         obtain ⟨aV,cV,eV,PA,_⟩:=OBH.out.pl
         obtain ⟨aW,cW,eW,PB,_⟩:=OAE.out.pl
         rw [← EQ.out] at PB eW
         have lm:(P.map (endP L)).length=L.length:=by rw [List.length_map];exact LF.out
         rw [lm] at PA PB eV eW
         cases eV
         cases eW
         have PAH:=lH PA
         have PBH:=lH PB
         have QX:=lH (QL.out.nxb (KW.out.nxb KX.out)).1
         have LM:=lH (Nat.le_of_eq lm)
         have d0:((L.length:Int)==(L.length:Int))=true:=by simp
         clear c0 PA PB lm
         go_wp2_with fail
         (with_reducible refine (same14_r _ _ _ (P.map (endP L)) _ _ _ PAH.out PBH.out (by omega) FEW.out).mono ?_)
         rintro e y1 ⟨rfl,kk⟩
         replace QX:=lH (QX.out.nx kk)
         clear kk
         go_wp2_with fail
         (with_reducible refine (sane19_x _).mono ?_)
         rintro e y9 ⟨rfl,kk⟩
         have QE:=lH (QX.out.nx kk)
         clear kk
         go_wp2_with fail
         go_ret
         exact ⟨rfl,QE.out⟩
end Go.Proofs.YthdkeibapcaclaaGreatDoor
/-
 FlightOrders returns true for every list of numbers,and leaves its arguments as they were.
 Condition: the letters of the keys are as the program text lays them (tied by the card).
-/
namespace Go.Proofs.YthdkeibapcaclaaGreatDoor
open Go.ChangeShapes Go.WideShapes Go.ChangeAt Go.RowKit Go.Deep Go.Joins
open Go.ChangeMaps (open_string shut_string)
set_option linter.unusedVariables false
theorem Tryz.cellsInt:Tryz.prog.cellsOf 3=1:=by kernel_rfl
set_option maxRecDepth 100000 in
set_option maxHeartbeats 1000000 in
theorem flightOrders_lifted (os:Os) (started:os.Started) (H:Type) (enc:TypeId×Value→H) :
  ReturnsInHanded {} Tryz.checked os 5 .any (fun w args=>(Rows.flightOrdersSpec.pre enc Tryz.prog Tryz.f5 [] false w args∧laidMetH Tryz.prog Rows.flightOrdersRow.laid w)∧sizedMet enc Tryz.prog Tryz.f5 (OpenSpec.ofChange Rows.flightOrdersSpec) false w args)
   (Rows.flightOrdersSpec.post enc Tryz.prog Tryz.f5 false true false false):=by
 refine returnsInHanded_of_change_and (C:=Tryz.checked) (X:=fun w _=>laidMetH Tryz.prog Rows.flightOrdersRow.laid w) (fun _ _ _ hh h=>h.of_heap hh) own started (by kernel_rfl) Tryz.func5
  (ChangeSpec.witness_shaped (enc:=enc) (C:=Tryz.checked) (os:=os) (X:=fun w _=>laidMetH Tryz.prog Rows.flightOrdersRow.laid w) false (World.doorLaid Tryz.prog 400 os) #[.slice none 0 0] 8 rfl (World.shaped_of_RefB (by kernel_rfl) (by kernel_rfl)) (by kernel_rfl) (by kernel_rfl) (by kernel_rfl) (laidMetH_of_parts3 (fuel:=8) (laidMet_of_run' 8 (by kernel_rfl) (by kernel_rfl)) (by kernel_rfl) (by kernel_rfl))) ?_
 intro W base args ds gs before hval0 hW _ _ hL _
 have hval:∀ (j:Nat) t v,Tryz.f5.params[j]?=some t→args[j]?=some v→Value.okWide Tryz.prog W .any base t v:=hval0
 have hW':=hW
 obtain ⟨p,q,hA0,hV,rfl,hfz,hnd⟩:=hW
 have hA:DataW.TrodAll enc Tryz.prog W 0 (fun _=>true) true Tryz.f5.params.toList args.toList ds p:=hA0
 rw [Tryz.params5] at hA hval
 obtain ⟨v0,vs0,d0,ds0,p0,q0,hargs,rfl,rfl,h0,r0⟩:=trodAll_cons hA
 obtain ⟨rfl,rfl,rfl⟩:=trodAll_nil r0
 obtain rfl:args=#[v0]:=by cases args;simp_all
 obtain ⟨rfl,rfl⟩:=trodVars_none hV
 have k0:=h0
 have lt0:∀ x∈p0,x.block<W.heap.size:=by obtain ⟨m,hm⟩:=k0;exact DataW.trod_lt m _ _ _ hm
 obtain ⟨A0,n0,cap0,l0,rfl,rd0,hc0,hm0,wf0,nl0⟩:=rd_ints Tryz.underlying22 Tryz.underlying3 Tryz.cellsInt (hval 0 22 v0 rfl rfl) h0
 clear hA0 hval0
 have hL2:LetG W:=letG_of hL (by kernel_rfl)
 refine (flightorders_walk A0 n0 cap0 l0 W rd0 hc0 hm0 hL2).mono fun e W' ⟨he,hch⟩=>?_
 have bel:Below W.heap.size W W':=hch.below (fun _ h=>h)
 subst he
 exact ⟨_,rfl,_,_,_,[],_,[],hW',trodAll_mk1 (shut_bool Tryz.underlying4 _),(trodAll_cons_mk (Below.trod laidOut (by kernel_rfl) (of_decide_eq_true (by kernel_rfl)) k0 bel lt0) trodAll_mk0),rfl,bel.frame _,fun h=>by cases h⟩
theorem flightOrders_over:Rows.flightOrdersRow.holds Tryz.pinned (OpenSpec.ofChange Rows.flightOrdersSpec) :=
 OpenClaim.holds_of_wide 5 Tryz.f5 rfl rfl rfl rfl rfl rfl rfl ⟨rfl,rfl,rfl,rfl,rfl⟩ rfl rfl rfl rfl rfl (by kernel_rfl) Tryz.func5 (by kernel_rfl)
  (of_decide_eq_true (by kernel_rfl)) (by unfold Func.isWrapper;first | (rw [if_pos (by decide +kernel)];kernel_rfl) | (rw [if_neg (by decide +kernel)];exact ⟨rfl,rfl⟩))
  (fun os started H enc _=>flightOrders_lifted os started H enc)
theorem FlightOrders_holds:Rows.FlightOrdersCardSaid :=
 Claim7.holds_tied_plain_at .later [] [.data] true (true, "3d63441a57d5e1a930916d297e9f5e4943b290743ffbe254b51174268e98bb03") false
  flightOrders_over (fun _ h=>by cases h) (by kernel_rfl) (fun _ h=>by cases h) flightOrders_row_tie rfl ⟨rfl,rfl⟩ (by kernel_rfl) rfl
  (fun f fn hf hfn=>by
   obtain rfl : f = 5 := Option.some.inj ((show Tryz.prog.funcNamed "skipgraph/skipgraphlaw19.FlightOrders" = some 5 by kernel_rfl).symm.trans hf) |>.symm
   obtain rfl:fn=Tryz.f5:=(Option.some.inj (Tryz.func5.symm.trans hfn)).symm
   exact ⟨by kernel_rfl,fun j t ht=>by
    rw [Tryz.params5] at ht
    have hm:t∈[22]:=by simpa using Array.mem_of_getElem? ht
    have hall:([22].all fun u=>!Tryz.prog.wantsStandIn u)=true:=by kernel_rfl
    exact (show Tryz.prog.wantsStandIn t=false by simpa using List.all_eq_true.1 hall t hm)⟩)
  (by kernel_rfl)
#print axioms FlightOrders_holds
end Go.Proofs.YthdkeibapcaclaaGreatDoor
