/- Shared texts. -/
import Derived.Test.YthdkeibapcaclaaGreatDoorFmAll28
import Derived.Test.YthdkeibapcaclaaGreatDoorFmAll33
import Derived.Test.YthdkeibapcaclaaGreatDoorFmABC1
set_option linter.unusedSimpArgs false
set_option linter.unusedVariables false

namespace Go.Proofs.YthdkeibapcaclaaGreatDoor
open Go.RowKit
theorem wpList_append_rda {P:Program} {α:Type} {enc:α→List Value} {ops:Array Oper} {rest:List Oper} {o:Oper} {a:Act} {Q:Exit→Act→World→Prop} (w0:World) (hgd:o.guard=none) (s x:Operand) (t:TypeId)
  (ho:o.op=.call { callee:=.builtin .append,args:=#[s,x],argTypes:=#[t,t] })
  (base:Nat) (e:TypeId) (z:Value) (sz bytes:Nat) (ht:P.underlying t=some (.slice e)) (hi:(P.info? e).map (fun i=>(i.zero,i.size,i.bytes))=some (some z,sz,bytes))
  (hzs:z.cells.size=sz) (hsz:0<sz) (hby:bytes≤65536)
  (v:Value) (l:List α) (hown:OwnL sz enc e base w0 v l) (hs:a.eval s=v) (S:Nat→Prop) (A:Option Addr) (n c:Nat) (news:List α) (hrd:Rd sz enc S w0 A n news) (hA:A=none→c=0) (hlen:∀ y,(enc y).length=sz) (h1:∀ y,∀ u∈enc y,u.oneCell'=true)
  (hx:a.eval x=.slice A n c) (hl:l.length≤100000000) (hn:n≤100000000) (hbase:base≤w0.heap.size)
  (h:∀ v' w',OwnL sz enc e base w' v' (l++news)→Chg (fun k=>k<w0.heap.size∧¬ v.ownBlock=some k) w0 w'→Chg (· < base) w0 w'→(v'.ownBlock=v.ownBlock∨v'.ownBlock=some w0.heap.size)→wpList P ops Q rest (a.put o.dst v') w') :
  wpList P ops Q (o::rest) a w0 :=
 wpList_plain hgd fun _ hK=>wp_append_rda w0 s x t ho base e z sz bytes ht hi hzs hsz hby v l hown hs S A n c news hrd hA hlen h1 hx hl hn hbase fun v' w' h2 h3 h4 h5=>hK _ _ (h v' w' h2 h3 h4 h5)
structure JoOf (b:Nat) (l:List Nd) (w w':World) (v:Value) (qs:List PQ) (P:List Pr):Prop where
 own:OwnPr w.heap.size w' v qs P
 ids:SameIds l P
 conn:ConnN l P
 small:∀ p∈P,p.known.length≤100∧p.near.length≤200
 tape:TK w' b
 k:Exb b w w'
def JoPost (b:Nat) (l:List Nd) (w:World) (e:Ending) (w':World):Prop:=∃ v qs P,e=.returned v∧JoOf b l w w' v qs P
theorem same_snoc {l:List Nd} {P:List Pr} (h:∀ (i:Nat) (x:Nd) (p:Pr),l[i]?=some x→P[i]?=some p→p.id=x.id) {x:Nd} {p:Pr} (hx:l[P.length]?=some x) (hp:p.id=x.id) :
  ∀ (i:Nat) (x:Nd) (q:Pr),l[i]?=some x→(P++[p])[i]?=some q→q.id=x.id:=by
 intro i y q hy hq
 rcases Nat.lt_or_ge i P.length with h1 | h1
 ·rw [List.getElem?_append_left h1] at hq
  exact h i y q hy hq
 ·have h2:=(List.getElem?_eq_some_iff.1 hq).1
  rw [List.length_append,List.length_singleton] at h2
  obtain rfl:i=P.length:=by omega
  rw [hx] at hy
  cases hy
  simp at hq
  rw [← hq]
  exact hp
theorem same_set {l:List Nd} {P:List Pr} (h:SameIds l P) {a:Nat} {p p':Pr} (hp:P[a]?=some p) (he:p'.id=p.id):SameIds l (P.set a p'):=by
 refine ⟨by rw [List.length_set];exact h.1,fun i x q hx hq=>?_⟩
 by_cases hia:i=a
 ·subst hia
  rw [List.getElem?_set_self (List.getElem?_eq_some_iff.1 hp).1] at hq
  cases hq
  rw [he]
  exact h.2 i x p hx hp
 ·rw [List.getElem?_set_ne (fun h=>hia h.symm)] at hq
  exact h.2 i x q hx hq
def JoARel (m b na:Nat) (l:List Nd) (w:World) (o i:Value) (wr:World):Prop :=
 ∃ (j:Nat) (qs:List PQ) (P:List Pr),j≤na∧i=.int .i64 j∧OwnPr w.heap.size wr o qs P∧P.length=j∧(∀ (i:Nat) (x:Nd) (p:Pr),l[i]?=some x→P[i]?=some p→p.id=x.id)∧FewQ 3 m P∧TK wr b∧Exb b w wr
def JoBRel (m b na:Nat) (l:List Nd) (v:Value) (w:World) (i:Value) (wr:World):Prop :=
 ∃ (k:Nat) (qs:List PQ) (P:List Pr),1≤k∧k≤na+1∧i=.int .i64 k∧OwnPr w.heap.size wr v qs P∧SameIds l P∧FewQ (3+k) (m+k) P∧TK wr b∧Exb b w wr
def JoXCut (b na:Nat) (w5:World) (s11 s12:Value) (wx:World):Prop:=∃ a c:Nat,s11=.int .i64 a∧s12=.int .i64 c∧a<na∧c<na∧TK wx b∧Exb b w5 wx
def JoCRel (b na:Nat) (m M:Nat) (l:List Nd) (v:Value) (w:World) (i:Value) (wr:World):Prop :=
 ∃ (k:Nat) (qs:List PQ) (P:List Pr),1≤k∧k≤na+1∧i=.int .i64 k∧OwnPr w.heap.size wr v qs P∧SameIds l P∧(∀ (i:Nat) (x:Nd) (p:Pr),i+1<k→l[i]?=some x→P[i+1]?=some p→x.id∈p.known)∧FewQ (m+k) M P∧TK wr b∧Exb b w wr
set_option maxRecDepth 100000 in
set_option maxHeartbeats 16000000 in
theorem joined_t {b:Nat} (ht:Nat) (a:Option Addr) (na cp:Nat) (l:List Nd) (w:World) (h:TK w b) (hs:Slb 3 encN b w a na l) (hna:na≤20) (hcp:na≤cp) (hmx:cp≤maxLen) (h0:checkN l=0) (hht:ht≤100) :
  Calls Tryz.prog 25 #[.pointer (some ⟨b,0,none⟩),.slice a na cp,.int .i64 ht] w (JoPost b l w):=by
 have hbw:=h.lt
 have H0:=lH h0
 have HI:Hid (∀ x∈l,I64 x.id):=lH (fun x hx=>(roster_ok h0 x hx).1.1)
 have HS:=lH hs
 have HLN:=lH hs.len
 clear hs h0
 go_enter Tryz.func25,Tryz.ntmps25
 go_wp2_with fail
 go_loopw [7,8] (fun o i wr=>JoARel (ht+1) b na l w o i wr) (fun _ i _=>na-(intOf i).toNat)
 case atStart=>exact ⟨0,[],[],by omega,rfl,OwnP.nil _ _ _ _ _,rfl,by intro i x p _ h;simp at h,by intro p h;simp at h,h,Exb.refl _ _⟩
 case round =>
  clear h
  obtain ⟨j,qs,P,hj,rfl,own,hPl,hids,few,T,kw⟩:=hrel
  obtain ⟨wo,rfl⟩:∃ wo:World,wo=wr:=⟨_,rfl⟩
  have zo:=kw.size
  have hql:qs.length=j:=by rw [own.2.1,hPl]
  have OWN:=lH own
  have HIDS:=lH hids
  have FEW:=lH few
  have KW:=lH kw
  clear own hids few kw
  by_cases hjn:j<na
  ·obtain ⟨xl,ol,y,rfl,hxl,hy,hcl⟩:=Rd.at (HS.out.nxb KW.out) (j:=j) hjn
   have e0:wo.cell? ⟨xl,ol+j*3,none⟩=some (.int .i64 y.id):=hcl 0 _ rfl
   have HY:=lH hy
   clear hcl hy
   go_wp2_with fail
   (refine (peer_t ht _ _ _ l _ T (HS.out.nxb KW.out) (by omega) HI.out hht).mono ?_)
   clear T
   rintro e w2 ⟨p,⟨A1,m1,c1⟩,⟨A4,m4,c4⟩,rfl,D⟩
   have ok:=D.ok
   have on:=D.on
   have T:=D.tape
   have K2:=lH D.k
   have dl:=lH (show p.known.length≤3∧p.near.length≤ht+1 from ⟨D.lk,D.ln⟩)
   replace e0:=Chg.cellv D.k e0 hxl
   have hx2:=Nat.lt_of_lt_of_le hxl.1 D.k.size
   have hxb:=hxl.2
   simp only [Hdr.val] at ok on ⊢
   have z2:=D.k.size
   clear D
   have B9:=Blk.new w2 [.int .i64 p.id,.slice A1 m1 c1,.int .i64 p.left,.int .i64 p.right,.slice A4 m4 c4] 36
   have kk:=Ex.new w2 (.cells #[.int .i64 p.id,.slice A1 m1 c1,.int .i64 p.left,.int .i64 p.right,.slice A4 m4 c4] 36)
   obtain ⟨w4,hw4⟩:∃ w4,w4=w2.alloc (.cells #[.int .i64 p.id,.slice A1 m1 c1,.int .i64 p.left,.int .i64 p.right,.slice A4 m4 c4] 36):=⟨_,rfl⟩
   obtain ⟨g9,hg9⟩:∃ g9,g9=w2.heap.size:=⟨_,rfl⟩
   replace B9:Blk w4 g9 [.int .i64 p.id,.slice A1 m1 c1,.int .i64 p.left,.int .i64 p.right,.slice A4 m4 c4] 36:=by rw [hw4,hg9];exact B9
   rw [← hw4] at kk
   have Hw4:=lH hw4
   have Hg9:=lH hg9
   replace ok:=ok.nx kk
   replace on:=on.nx kk
   replace T:=T.nx kk
   have zg9:wo.heap.size≤g9:=by omega
   have zb9:b<g9:=by omega
   have nx9:¬ xl=g9:=by omega
   replace e0:=Chg.cellv (p:=⟨xl,ol+j*3,none⟩) kk e0 hx2
   replace K2:=lH (K2.out.nxb (kk.b b))
   clear kk hw4 hg9
   go_upto_region 6 with fail
   rw [← Hg9.out,← Hw4.out]
   clear Hg9 Hw4
   have c0:=B9.cell 0 _ rfl
   have f0:=B9.free 0
   have KS:Exb g9 w4 (w4.setCell ⟨g9,0,none⟩ (.int .i64 y.id)):=(Exb.refl g9 w4).setB (p:=⟨g9,0,none⟩) _ rfl
   obtain ⟨w5,hw5⟩:∃ w5,w5=w4.setCell ⟨g9,0,none⟩ (.int .i64 y.id):=⟨_,rfl⟩
   go_upto_region 7 with fail
   rw [← hw5] at KS ⊢
   have ok5:=ok.put B9 (by decide) KS
   have on5:=on.put B9 (by decide) KS
   have T5:TK w5 b:=by rw [hw5];exact T.set (p:=⟨g9,0,none⟩) _ zb9
   have K5:Exb b wo w5:=by rw [hw5];exact K2.out.setNew (p:=⟨g9,0,none⟩) _ zg9
   replace B9:Blk w5 g9 [.int .i64 y.id,.slice A1 m1 c1,.int .i64 p.left,.int .i64 p.right,.slice A4 m4 c4] 36:=by rw [hw5];exact B9.set 0 _
   have p0:=B9.cell 0 _ rfl
   have p1:=B9.cell 1 _ rfl
   have p2:=B9.cell 2 _ rfl
   have p3:=B9.cell 3 _ rfl
   have p4:=B9.cell 4 _ rfl
   have OWN5:=lH (OWN.out.nxb hbw K5)
   have KW5:=lH (KW.out.nxb K5)
   have kl:=Ex.new w5 (.cells #[.int .i64 y.id,.slice A1 m1 c1,.int .i64 p.left,.int .i64 p.right,.slice A4 m4 c4] 36)
   have OL:=lH (OWN5.out.nx kl)
   have okl:=lH (ok5.nx kl)
   have onl:=lH (on5.nx kl)
   have Tl:=T5.nx kl
   have KL:=lH (KW5.out.nxb (kl.b b))
   have zl:=KL.out.size
   have SN:=lH (same_snoc (p:=⟨y.id,p.left,p.right,p.known,p.near⟩) HIDS.out (by rw [hPl];exact HY.out) rfl)
   clear hw5 c0 f0 KS ok on T B9 e0 T5 K5 ok5 on5 kl
   go_wp2_with (at_builtin;(refine wpList_append_W (enc:=encQ) _ rfl _ _ 24 rfl w.heap.size 36 (.agg #[.int .i64 0,.slice none 0 0,.int .i64 0,.int .i64 0,.slice none 0 0]) 5 72 Tryz.underlying24 Tryz.infoPr rfl (by omega) (by omega) _ qs OL.out.row rfl _ 1 1 [((y.id,p.left,p.right),(A1,m1,c1),(A4,m4,c4))] (Sl.lit _ rfl rfl encQ_len rfl) encQ_len encQ_one rfl (by omega) (by omega) zl ?_);intro v9 w9 own9 ch0 ch1 _)
   have O9:=OWN.out.app2 (p:=⟨y.id,p.left,p.right,p.known,p.near⟩) (hk:=(A1,m1,c1)) (hn:=(A4,m4,c4)) (by decide) (by decide) zo OL.out okl.out onl.out own9 ch0
   exact ⟨⟨j+1,_,P++[⟨y.id,p.left,p.right,p.known,p.near⟩],by omega,by go_num,O9,by simp [hPl],SN.out,FEW.out.snoc dl.out,TP.chg Tl ch1 (fun x hx=>by omega),Chg.trans KL.out (ch1.mono (fun x hx=>hx.1))⟩,by simp [intOf];omega⟩
  ·obtain rfl:j=na:=by omega
   obtain ⟨aV,cV,rfl,_,_,_,hVg,_⟩:=OWN.out.pl
   rw [hPl] at OWN ⊢
   have SI:Hid (SameIds l P):=lH ⟨by rw [hPl];exact HLN.out.symm,HIDS.out⟩
   have HVG:Hid (1≤j→∃ g,aV=some ⟨g,0,none⟩∧w.heap.size≤g):=lH (fun h1=>hVg (fun hP=>by rw [hP] at hPl;simp at hPl;omega))
   have FEW1:Hid (FewQ (3+1) (ht+1+1) P):=lH (fun p hp=>by have:=FEW.out p hp;omega)
   clear HIDS hVg hjn hj zo
   go_wp2_with fail
   go_loopw [10] (fun i wr=>JoBRel (ht+1) b j l (.slice aV j cV) w i wr) (fun i _=>j+1-(intOf i).toNat)
   case atStart=>exact ⟨1,qs,P,by omega,by omega,rfl,OWN.out,SI.out,FEW1.out,T,KW.out⟩
   case round =>
    clear T OWN SI FEW FEW1 KW
    obtain ⟨k,qs,P,hk1,hk,rfl,own,si,few,T,kw⟩:=hrel
    obtain ⟨wo,rfl⟩:∃ wo:World,wo=wr:=⟨_,rfl⟩
    have OWN:=lH own
    have SI:=lH si
    have FEW:=lH few
    have KW:=lH kw
    clear own si few kw
    by_cases hkn:k<j
    ·obtain ⟨g,hge,hg⟩:=HVG.out (by omega)
     subst hge
     go_wp2_with fail
     (refine (next_t k _ T (by omega) (by omega)).mono ?_)
     clear T
     rintro e w5 ⟨r,rfl,hr0,hr1,T,kk⟩
     obtain ⟨r,rfl⟩:∃ t:Nat,r=t:=⟨r.toNat,by omega⟩
     replace KW:=lH (KW.out.nxb kk)
     replace OWN:=lH (OWN.out.nxb hbw kk)
     clear kk
     go_wp2_with fail
     (refine (bool_t 2 _ T (by omega) (by omega)).mono ?_)
     clear T
     rintro e w6 ⟨rb,rfl,T,kk⟩
     replace KW:=lH (KW.out.nxb kk)
     replace OWN:=lH (OWN.out.nxb hbw kk)
     clear kk
     go_upto_if 46 with fail
     go_cut [11,12] from 47 to 89 (fun s11 s12 wx=>JoXCut b j w6 s11 s12 wx)
     case first =>
      cases rb with
      | true =>
       have CUT:=lH (show JoXCut b j w6 (.int .i64 r) (.int .i64 k) w6 from ⟨r,k,rfl,rfl,by omega,hkn,T,Exb.refl _ _⟩)
       clear T
       go_wp2_with fail
       go_meet
       exact CUT.out
      | false =>
       have CUT:=lH (show JoXCut b j w6 (.int .i64 k) (.int .i64 r) w6 from ⟨k,r,rfl,rfl,hkn,by omega,T,Exb.refl _ _⟩)
       clear T
       go_wp2_with fail
       go_meet
       exact CUT.out
     case rest =>
      clear T
      rename World=>w7
      obtain ⟨x,y,rfl,rfl,hx,hy,T,k7⟩:=hcut
      replace KW:=lH (KW.out.nxb k7)
      replace OWN:=lH (OWN.out.nxb hbw k7)
      obtain ⟨xl,ol,nd,rfl,hxl,hnd,hcl⟩:=Rd.at (HS.out.nxb KW.out) (j:=y) hy
      have e0:w7.cell? ⟨xl,ol+y*3,none⟩=some (.int .i64 nd.id):=hcl 0 _ rfl
      clear k7 hcl hnd
      go_wp2_with fail
      (refine (next_t 4 _ T (by omega) (by omega)).mono ?_)
      clear T
      rintro e w8 ⟨q,rfl,hq0,hq1,T,kk⟩
      replace KW:=lH (KW.out.nxb kk)
      have own8:=OWN.out.nxb hbw kk
      clear kk e0 OWN
      have hlP:P.length=j:=by rw [SI.out.1,HLN.out]
      obtain ⟨p,hp⟩:∃ p,P[x]?=some p:=⟨P[x]'(by omega),by simp⟩
      obtain ⟨⟨A1,m1,c1⟩,⟨A4,m4,c4⟩,hq,ok,on⟩:=own8.get hp
      have fp:=FEW.out p (List.mem_of_getElem? hp)
      have zbg:b<g:=by omega
      have z8:=KW.out.size
      have FSn:Hid (∀ p':Pr,p'.known.length≤p.known.length+1→p'.near.length≤p.near.length+1→FewQ (3+(k+1)) (ht+1+(k+1)) (P.set x p')):=lH (fun p' h1 h2=>FEW.out.set (by omega) (by omega) (by omega))
      have SS:Hid (∀ p':Pr,p'.id=p.id→SameIds l (P.set x p')):=lH (fun p' h1=>same_set SI.out hp h1)
      rcases (show q=0∨q=1∨(q≠0∧q≠1) by omega) with rfl | rfl | ⟨hqa,hqb⟩
      ·obtain ⟨s1,s2,O9⟩:=own8.num (by decide) (by decide) (p':={ p with left:=nd.id }) (c:=2) (x:=nd.id) hq hp (by omega) rfl rfl rfl
       have s1':w8.cell? ⟨g,x*5+2,none⟩=some (.int .i64 p.left):=s1
       have RR:=lH (show JoBRel (ht+1) b j l (.slice (some ⟨g,0,none⟩) j cV) w (.int .i64 ((k:Int)+1)) (w8.setCell ⟨g,x*5+2,none⟩ (.int .i64 nd.id)) from
        ⟨k+1,_,_,by omega,by omega,by go_num,O9,SS.out _ rfl,FSn.out _ (by simp) (by simp),T.set (p:=⟨g,x*5+2,none⟩) _ zbg,KW.out.setNew (p:=⟨g,x*5+2,none⟩) _ hg⟩)
       clear s1 O9 own8 hq hp ok on T
       go_wp2_with fail
       exact ⟨RR.out,by simp [intOf];omega⟩
      ·have s4:w8.cell? ⟨g,x*5+4,none⟩=some (.slice A4 m4 c4):=(OwnW.set1 encQ_len own8.1 hq (c:=4) (by omega)).1
       have kl:=Ex.new w8 (.cells #[.int .i64 0,.int .i64 0,.int .i64 0,.int .i64 nd.id] 80)
       have on9:=on.nx kl
       have OW9:=lH (own8.nx kl)
       have zb:=Nat.le_trans z8 kl.size
       have T9:=lH (T.nx kl)
       have K9:=lH (KW.out.nxb (kl.b b))
       simp only [Hdr.val] at on9
       clear own8 ok on T
       go_wp2_with (at_builtin;(refine wpList_append_rda (enc:=encNr) _ rfl _ _ 34 rfl w.heap.size 80 (.agg #[.int .i64 0,.int .i64 0,.int .i64 0,.int .i64 0]) 4 32 Tryz.underlying34 Tryz.infoNr rfl (by omega) (by omega) _ p.near on9 rfl _ _ 1 1 [(0,0,0,nd.id)] (Sl.lit _ rfl rfl (fun _=>rfl) rfl) (fun h=>by cases h) (fun _=>rfl) (by simp [encNr,Value.oneCell']) rfl (by omega) (by omega) zb ?_);intro va w1 A ch0 ch1 hva;obtain ⟨A9,C9,e9,_,_,_,_⟩:=A.rd (fun _=>rfl);generalize (p.near++[(0,0,0,nd.id)]).length=L9 at e9;subst e9;obtain ⟨s1,s2,O9⟩:=OW9.out.growN (hn':=(A9,L9,C9)) (by decide) (by decide) (by decide) hq hp A ch0 (show ∀ g,(Value.slice A9 L9 C9).ownBlock=some g→(Hdr.val (A4,m4,c4)).ownBlock=some g∨_ from own_hist hva (Nat.le_refl _));simp only [Hdr.val] at s1 O9;replace O9:=lH O9)
       have RR:=lH (show JoBRel (ht+1) b j l (.slice (some ⟨g,0,none⟩) j cV) w (.int .i64 ((k:Int)+1)) (w1.setCell ⟨g,x*5+4,none⟩ (.slice A9 L9 C9)) from
        ⟨k+1,_,_,by omega,by omega,by go_num,O9.out,SS.out { p with near:=(p.near++[(0,0,0,nd.id)]) } rfl,FSn.out { p with near:=(p.near++[(0,0,0,nd.id)]) } (by simp) (by simp),(show TK w1 b from TP.chg T9.out ch1 (fun x hx=>by omega)).set (p:=⟨g,x*5+4,none⟩) _ zbg,(show Exb b w w1 from Chg.trans K9.out (ch1.mono (fun x hx=>hx.1))).setNew (p:=⟨g,x*5+4,none⟩) _ hg⟩)
       exact ⟨RR.out,by simp [intOf];omega⟩
      ·have d0:(q==0)=false:=by simpa using hqa
       have d1:(q==1)=false:=by simpa using hqb
       have s4:w8.cell? ⟨g,x*5+1,none⟩=some (.slice A1 m1 c1):=(OwnW.set1 encQ_len own8.1 hq (c:=1) (by omega)).1
       have kl:=Ex.new w8 (.cells #[.int .i64 nd.id] 3)
       have ok9:=ok.nx kl
       have OW9:=lH (own8.nx kl)
       have zb:=Nat.le_trans z8 kl.size
       have T9:=lH (T.nx kl)
       have K9:=lH (KW.out.nxb (kl.b b))
       simp only [Hdr.val] at ok9
       clear own8 ok on T hqa hqb
       go_wp2_with (at_builtin;(refine wpList_append_rda (enc:=encI) _ rfl _ _ 22 rfl w.heap.size 3 (.int .i64 0) 1 8 Tryz.underlying22 Tryz.infoI6 rfl (by omega) (by omega) _ p.known ok9 rfl _ _ 1 1 [nd.id] (Sl.lit _ rfl rfl (fun _=>rfl) rfl) (fun h=>by cases h) (fun _=>rfl) (by simp [encI,Value.oneCell']) rfl (by omega) (by omega) zb ?_);intro va w1 A ch0 ch1 hva;obtain ⟨A9,C9,e9,_,_,_,_⟩:=A.rd (fun _=>rfl);generalize (p.known++[nd.id]).length=L9 at e9;subst e9;obtain ⟨s1,s2,O9⟩:=OW9.out.growK (hk':=(A9,L9,C9)) (by decide) (by decide) (by decide) hq hp A ch0 (show ∀ g,(Value.slice A9 L9 C9).ownBlock=some g→(Hdr.val (A1,m1,c1)).ownBlock=some g∨_ from own_hist hva (Nat.le_refl _));simp only [Hdr.val] at s1 O9;replace O9:=lH O9)
       have RR:=lH (show JoBRel (ht+1) b j l (.slice (some ⟨g,0,none⟩) j cV) w (.int .i64 ((k:Int)+1)) (w1.setCell ⟨g,x*5+1,none⟩ (.slice A9 L9 C9)) from
        ⟨k+1,_,_,by omega,by omega,by go_num,O9.out,SS.out { p with known:=(p.known++[nd.id]) } rfl,FSn.out { p with known:=(p.known++[nd.id]) } (by simp) (by simp),(show TK w1 b from TP.chg T9.out ch1 (fun x hx=>by omega)).set (p:=⟨g,x*5+1,none⟩) _ zbg,(show Exb b w w1 from Chg.trans K9.out (ch1.mono (fun x hx=>hx.1))).setNew (p:=⟨g,x*5+1,none⟩) _ hg⟩)
       exact ⟨RR.out,by simp [intOf];omega⟩
    ·obtain ⟨aX,cX,hXe,PX,_,_,_,_⟩:=OWN.out.pl
     have hlP:P.length=j:=by rw [SI.out.1,HLN.out]
     rw [hlP] at hXe PX
     injection hXe with hx1 hx2 hx3
     subst hx1 hx3
     have HP:=lH PX
     have KS:=KW.out.size
     clear PX hx2
     have FC:Hid (∀ p∈P,p.known.length≤2000000∧p.near.length≤2000000):=lH (fun p hp=>by have:=FEW.out p hp;omega)
     go_wp2_with fail
     (with_reducible refine (connected_r _ _ _ l _ _ _ P _ (HS.out.nxb KW.out).sl (by omega) HP.out (by omega) FC.out).mono ?_)
     rintro e w6 ⟨rfl,kk⟩
     have OWN6:=lH (OWN.out.nx kk)
     have KW6:=lH (KW.out.nxb (kk.b b))
     have T6:=T.nx kk
     clear kk OWN KW T HP KS
     cases hcb:connB l P with
     | true =>
      have FIN:=lH (show JoOf b l w w6 (.slice aV j cV) qs P from ⟨OWN6.out,SI.out,connB_iff.1 hcb,fun p hp=>by have:=FEW.out p hp;omega,T6,KW6.out⟩)
      clear hcb T6
      go_wp2_with fail
      go_ret
      exact ⟨_,qs,P,rfl,FIN.out⟩
     | false =>
      have m0:∃ m0,m0=3+k:=⟨_,rfl⟩
      obtain ⟨m0,hm0⟩:=m0
      obtain ⟨M0,hM0⟩:∃ M0,M0=ht+1+k:=⟨_,rfl⟩
      have FEW3:Hid (FewQ (m0+1) M0 P):=lH (fun p hp=>by have:=FEW.out p hp;omega)
      have hm25:m0≤24:=by omega
      have hM200:M0≤200:=by omega
      clear hcb FEW hm0 hM0
      go_wp2_with fail
      go_loopw [14] (fun i wr=>JoCRel b j m0 M0 l (.slice aV j cV) w i wr) (fun i _=>j+1-(intOf i).toNat)
      case atStart=>exact ⟨1,qs,P,by omega,by omega,rfl,OWN6.out,SI.out,fun i x p h=>by omega,FEW3.out,T6,KW6.out⟩
      case round =>
       clear T6 OWN6 SI FEW3 KW6 hk hk1 hkn
       obtain ⟨k,qs,P,hk1,hk,rfl,own,si,hch,few,T,kw⟩:=hrel
       obtain ⟨wo,rfl⟩:∃ wo:World,wo=wr:=⟨_,rfl⟩
       have OWN:=lH own
       have SI:=lH si
       have CH:=lH hch
       have FEW:=lH few
       have KW:=lH kw
       have TH:=lH T
       clear own si few kw hch T
       have hlP:P.length=j:=by rw [SI.out.1,HLN.out]
       by_cases hkn:k<j
       ·obtain ⟨g,hge,hg⟩:=HVG.out (by omega)
        subst hge
        obtain ⟨xl,ol,nd,rfl,hxl,hnd,hcl⟩:=Rd.at (HS.out.nxb KW.out) (j:=k-1) (by omega)
        have CL:Hid (∀ wq,Ex wo wq→wq.cell? ⟨xl,ol+(k-1)*3,none⟩=some (.int .i64 nd.id)):=lH (fun wq kq=>Chg.cellv kq (hcl 0 _ rfl) hxl.1)
        obtain ⟨p,hp⟩:∃ p,P[k]?=some p:=⟨P[k]'(by omega),by simp⟩
        obtain ⟨⟨A1,m1,c1⟩,hn,hq,ok,on⟩:=OWN.out.get hp
        have fp:=FEW.out p (List.mem_of_getElem? hp)
        have s4:wo.cell? ⟨g,k*5+1,none⟩=some (.slice A1 m1 c1):=(OwnW.set1 encQ_len OWN.out.1 hq (c:=1) (by omega)).1
        have hgo:g<wo.heap.size:=OwnW.blk_lt OWN.out.1 rfl
        have CR:Hid (∀ wq,Ex wo wq→wq.cell? ⟨g,k*5+1,none⟩=some (.slice A1 m1 c1)):=lH (fun wq kq=>Chg.cellv kq s4 hgo)
        have FSn:Hid (FewQ (m0+(k+1)) M0 (P.set k { p with known:=p.known++[nd.id] })):=lH (FEW.out.set (by omega) (by omega) ⟨by simp;omega,by simp;omega⟩)
        have SS:Hid (SameIds l (P.set k { p with known:=p.known++[nd.id] })):=lH (same_set SI.out hp rfl)
        have CS:Hid (∀ (i:Nat) (x:Nd) (q:Pr),i+1<k+1→l[i]?=some x→(P.set k { p with known:=p.known++[nd.id] })[i+1]?=some q→x.id∈q.known):=lH (fun i x q hi hx hq=>by
         by_cases hik:i+1=k
         ·subst hik
          rw [List.getElem?_set_self (by omega)] at hq
          cases hq
          rw [Nat.add_sub_cancel] at hnd
          rw [Option.some.inj (hx.symm.trans hnd)]
          simp
         ·rw [List.getElem?_set_ne (fun h=>hik h.symm)] at hq
          exact CH.out i x q (by omega) hx hq)
        have hwk:IntKind.i64.wrap ((k:Int)-1)=(k:Int)-1:=IntWalk.i64_in _ (by omega)
        have h01:(1:Int)≤(k:Int):=by omega
        have h02:(k:Int)-1<(j:Int):=by omega
        have h03:(k:Int)<(j:Int):=by omega
        have zbg:b<g:=by omega
        have zo:=KW.out.size
        have OK:=lH ok
        have HQ:=lH hq
        have HP:=lH hp
        clear hcl hnd hp hq ok on s4 hxl
        go_upto_region 25 with fail
        refine wp_region_late_drew (S:=Ex wo) [14,15,16,17] (by kernel_rfl) ((Ex.refl wo).drew) (fun hHeld=>?_)
        obtain ⟨wd,hwdx⟩:∃ wd:World,wd=World.drew wo:=⟨_,rfl⟩
        rw [← hwdx] at hHeld ⊢
        have hDrew:Ex wo wd:=by rw [hwdx];exact (Ex.refl wo).drew
        clear hwdx
        refine wpAnyL_takeP (i:=0) (oi:=⟨_,_,_,_,_,_⟩) (v:=?_) rfl (by kernel_rfl) (by kernel_rfl) (by kernel_rfl) (fun _ _ _ h=>h) (Or.inl ⟨by rfl,?y1x0q5⟩) ?z1x0q5
        case y1x0q5=>intro wq hSw;(go_simp);(try with_reducible rfl)
        refine wpAnyL_takeP (i:=1) (oi:=⟨_,_,_,_,_,_⟩) (v:=?_) rfl (by kernel_rfl) (by kernel_rfl) (by kernel_rfl) (fun _ _ _ h=>h) (Or.inl ⟨by rfl,?y1x1q8⟩) ?z1x1q8
        case y1x1q8=>intro wq hSw;(go_simp);(try with_reducible rfl)
        refine tkL 2 (v:=?_) rfl (by kernel_rfl) (fun _ _ _ h=>h) (by rfl) ?y1x2q11 (by assumption) ?z1x2q11
        case y1x2q11=>intro wq hSw;(go_simp);(try with_reducible rfl)
        refine tkL 3 (v:=?_) rfl (by kernel_rfl) (fun _ _ _ h=>h) (by rfl) ?y1x3q14 (by assumption) ?z1x3q14
        case y1x3q14=>intro wq hSw;(go_simp);(try with_reducible rfl)
        refine tkL 4 (v:=?_) rfl (by kernel_rfl) (fun _ _ _ h=>h) (by rfl) ?y1x4q17 (by assumption) ?z1x4q17
        case y1x4q17=>intro wq hSw;(go_simp);(try with_reducible rfl)
        refine tkL 5 (v:=?_) rfl (by kernel_rfl) (fun _ _ _ h=>h) (by rfl) ?y1x5q20 (by assumption) ?z1x5q20
        case y1x5q20=>intro wq hSw;(go_simp);(try with_reducible rfl)
        refine tkL 6 (v:=?_) rfl (by kernel_rfl) (fun _ _ _ h=>h) (by rfl) ?y1x6q23 (by assumption) ?z1x6q23
        case y1x6q23=>intro wq hSw;(have cq:=CR.out wq hSw;go_simp);(try with_reducible rfl)
        refine tkL 7 (v:=?_) rfl (by kernel_rfl) (fun _ _ _ h=>h) (by rfl) ?y1x7q26 (by assumption) ?z1x7q26
        case y1x7q26=>intro wq hSw;(go_simp);(try with_reducible rfl)
        refine tkL 8 (v:=?_) rfl (by kernel_rfl) (fun _ _ _ h=>h) (by rfl) ?y1x8q29 (by assumption) ?z1x8q29
        case y1x8q29=>intro wq hSw;(go_simp);(try with_reducible rfl)
        refine tkL 9 (v:=?_) rfl (by kernel_rfl) (fun _ _ _ h=>h) (by rfl) ?y1x9q32 (by assumption) ?z1x9q32
        case y1x9q32=>intro wq hSw;(go_simp);(try with_reducible rfl)
        refine tkL 10 (v:=?_) rfl (by kernel_rfl) (fun _ _ _ h=>h) (by rfl) ?y1x10q35 (by assumption) ?z1x10q35
        case y1x10q35=>intro wq hSw;(go_simp);(try with_reducible rfl)
        refine tkL 11 (v:=?_) rfl (by kernel_rfl) (fun _ _ _ h=>h) (by rfl) ?y1x11q38 (by assumption) ?z1x11q38
        case y1x11q38=>intro wq hSw;(go_simp);(try with_reducible rfl)
        refine tkL 12 (v:=?_) rfl (by kernel_rfl) (fun _ _ _ h=>h) (by rfl) ?y1x12q41 (by assumption) ?z1x12q41
        case y1x12q41=>intro wq hSw;(have cq:=CL.out wq hSw;go_simp);(try with_reducible rfl)
        refine wpAnyL_ready (rs:=[13]) (by kernel_rfl) (by simp) ?_
        refine AllReadyL.cons (o:=⟨_,_,_,_,_,_⟩) rfl (fun K hK=>?_) AllReadyL.nil
        go_simp
        obtain ⟨g8,wq,hg8,hwq,SX,kk⟩:=litF hHeld.size nd.id
        rw [← hg8,← hwq]
        clear hg8 hwq
        replace hHeld:=hHeld.nx kk
        clear kk
        refine hK.out _ _ (hHeld) (fun hHeld=>?_)
        clear hK K
        refine wpAnyL_ready (rs:=[14]) (by kernel_rfl) (by simp) ?_
        refine AllReadyL.consL (o:=⟨_,_,_,_,_,_⟩) rfl (by rfl) (fun K hK=>?_) AllReadyL.nil
        rw [if_pos (by rfl)]
        have rx:=OK.out.nx hHeld
        simp only [Hdr.val] at rx
        have zbase:=Nat.le_trans zo hHeld.size
        refine wp_append_rda (enc:=encI) _ (.tmp 106) (.tmp 113) 22 rfl w.heap.size 3 (.int .i64 0) 1 8 Tryz.underlying22 Tryz.infoI6 rfl (by omega) (by omega) _ p.known rx rfl _ _ 1 1 [nd.id] SX (fun h=>by cases h) (fun _=>rfl) (by simp [encI,Value.oneCell']) rfl (by omega) (by omega) zbase ?_
        intro va w1 A ch0 ch1 hva
        obtain ⟨A9,C9,e9,_,_,_,_⟩:=A.rd (fun _=>rfl)
        generalize (p.known++[nd.id]).length=L9 at e9
        subst e9
        obtain ⟨s1,s2,O9⟩:=(OWN.out.nx hHeld).growK (hk':=(A9,L9,C9)) (by decide) (by decide) (by decide) HQ.out HP.out A ch0 (show ∀ g,(Value.slice A9 L9 C9).ownBlock=some g→(Hdr.val (A1,m1,c1)).ownBlock=some g∨_ from own_hist hva (Nat.le_refl _))
        simp only [Hdr.val] at s1 O9
        replace O9:=lH O9
        refine hK.out _ _ ?_
        clear hK K
        refine wpAnyL_ready (rs:=[15]) (by kernel_rfl) (by simp) ?_
        refine AllReadyL.consL (o:=⟨_,_,_,_,_,_⟩) rfl (by rfl) (fun K hK=>?_) AllReadyL.nil
        go_simp
        refine hK.out _ _ ?_
        clear hK K
        refine wpAnyL_ready (rs:=[16]) (by kernel_rfl) (by simp) ?_
        refine AllReadyL.consL (o:=⟨_,_,_,_,_,_⟩) rfl (by rfl) (fun K hK=>?_) AllReadyL.nil
        go_simp
        refine hK.out _ _ ?_
        clear hK K
        refine wpAnyL_ready (rs:=[17]) (by kernel_rfl) (by simp) ?_
        refine AllReadyL.consL (o:=⟨_,_,_,_,_,_⟩) rfl (by rfl) (fun K hK=>?_) AllReadyL.nil
        go_simp
        refine hK.out _ _ ?_
        clear hK K
        refine wpAnyL_done (by kernel_rfl) ?_ _
        have RR:=lH (show JoCRel b j m0 M0 l (.slice (some ⟨g,0,none⟩) j cV) w (.int .i64 ((k:Int)+1)) (w1.setCell ⟨g,k*5+1,none⟩ (.slice A9 L9 C9)) from
         ⟨k+1,_,_,by omega,by omega,by go_num,O9.out,SS.out,CS.out,FSn.out,(show TK w1 b from TP.chg (TH.out.nx hHeld) ch1 (fun x hx=>by omega)).set (p:=⟨g,k*5+1,none⟩) _ zbg,(show Exb b w w1 from Chg.trans (KW.out.nxb (hHeld.b b)) (ch1.mono (fun x hx=>hx.1))).setNew (p:=⟨g,k*5+1,none⟩) _ hg⟩)
        clear ch0 ch1 hva rx hHeld SX s1 s2 A
        go_wp2_with fail
        exact ⟨RR.out,by simp [intOf];omega⟩
       ·have hjk:j≤k:=by omega
        have FIN:=lH (show JoOf b l w wo (.slice aV j cV) qs P from ⟨OWN.out,SI.out,back_conn H0.out SI.out (fun i x p hx hp=>CH.out i x p (by have:=(List.getElem?_eq_some_iff.1 hp).1;omega) hx hp),fun p hp=>by have:=FEW.out p hp;omega,TH.out,KW.out⟩)
        go_wp2_with fail
        go_ret
        exact ⟨_,qs,P,rfl,FIN.out⟩
end Go.Proofs.YthdkeibapcaclaaGreatDoor
