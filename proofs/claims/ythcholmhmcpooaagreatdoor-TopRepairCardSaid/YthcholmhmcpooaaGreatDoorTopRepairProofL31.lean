/- Texts for TopRepairProof. -/
import Derived.Test.YthcholmhmcpooaaGreatDoorTopRepairProofL25
set_option linter.unusedSimpArgs false
set_option linter.unusedVariables false

namespace Go.Proofs.YthcholmhmcpooaaGreatDoor
open Go.RowKit
theorem Blk.app {α:Type} {sz e base g:Nat} {enc:α→List Value} {w w':World} {v:Value} {l:List α} {cs:List Value} {ty:TypeId} (B:Blk w g cs ty) (own:OwnL sz enc e base w v l) (hne:e≠ty) (k:Chg (fun k=>k<w.heap.size∧¬ v.ownBlock=some k) w w'):Blk w' g cs ty :=
 (Chg.block k g ⟨B.lt,fun hv=>own.ne_blk B hne hv rfl⟩).trans B
theorem OwnL.app {α β:Type} {sz sz' e e' base base':Nat} {enc:α→List Value} {enc':β→List Value} {w w':World} {v v':Value} {l:List α} {l':List β} (o:OwnL sz enc e base w v l) (own:OwnL sz' enc' e' base' w v' l') (hne:e≠e') (k:Chg (fun k=>k<w.heap.size∧¬ v'.ownBlock=some k) w w'):OwnL sz enc e base w' v l :=
 o.chg k fun x hx hv=>⟨hx,fun hv'=>by
  obtain ⟨_,c1,h1⟩:=o.blk hv
  obtain ⟨_,c2,h2⟩:=own.blk hv'
  exact blk_kind hne h1 h2⟩
theorem lit1 {b:Nat} {w0 u:World} (_:Exb b w0 u) (x:Int):∃ g v,g=u.heap.size∧v=u.alloc (.cells #[.int .i64 x] 3)∧Sl 1 encI v (some ⟨g,0,none⟩) 1 [x]∧Ex u v :=
 ⟨_,_,rfl,rfl,Sl.lit [x] rfl rfl (fun _=>rfl) rfl,Ex.new _ _⟩
theorem OwnL.apart {α β:Type} {sz sz' e e' base base' g:Nat} {enc:α→List Value} {enc':β→List Value} {w w':World} {v v':Value} {l:List α} {l':List β} (o:OwnL sz enc e base w v l) (own:OwnL sz' enc' e' base' w v' l') (hne:e≠e') (hg:v'.ownBlock=some g) (k:Exb g w w'):OwnL sz enc e base w' v l :=
 o.chg k fun x hx hv=>⟨hx,by
  rintro rfl
  obtain ⟨_,c1,h1⟩:=o.blk hv
  obtain ⟨_,c2,h2⟩:=own.blk hg
  exact blk_kind hne h1 h2⟩
theorem own_put4 {e:TypeId} {base:Nat} {w:World} {g n cap j:Nat} {L:List Nr} {y:Nr} (h:OwnL 4 encNr e base w (.slice (some ⟨g,0,none⟩) n cap) L) (hy:L[j]?=some y) :
  w.cell? ⟨g,j*4,none⟩=some (.int .i64 y.1)∧w.cell? ⟨g,j*4+1,none⟩=some (.int .i64 y.2.1)∧w.cell? ⟨g,j*4+1+1,none⟩=some (.int .i64 y.2.2.1)∧w.cell? ⟨g,j*4+1+1+1,none⟩=some (.int .i64 y.2.2.2) ∧
   w.frozen? ⟨g,j*4,none⟩=false∧w.frozen? ⟨g,j*4+1,none⟩=false∧w.frozen? ⟨g,j*4+1+1,none⟩=false∧w.frozen? ⟨g,j*4+1+1+1,none⟩=false ∧
   ∀ y':Nr,OwnL 4 encNr e base ((((w.setCell ⟨g,j*4,none⟩ (.int .i64 y'.1)).setCell ⟨g,j*4+1,none⟩ (.int .i64 y'.2.1)).setCell ⟨g,j*4+1+1,none⟩ (.int .i64 y'.2.2.1)).setCell ⟨g,j*4+1+1+1,none⟩ (.int .i64 y'.2.2.2)) (.slice (some ⟨g,0,none⟩) n cap) (L.set j y'):=by
 have hj:=(List.getElem?_eq_some_iff.1 hy).1
 obtain ⟨c0,f0,n0⟩:=own_set1 (enc:=encNr) (sz:=4) (fun _=>rfl) h hy (c:=0) (by omega)
 obtain ⟨c1,f1,_⟩:=own_set1 (enc:=encNr) (sz:=4) (fun _=>rfl) h hy (c:=1) (by omega)
 obtain ⟨c2,f2,_⟩:=own_set1 (enc:=encNr) (sz:=4) (fun _=>rfl) h hy (c:=2) (by omega)
 obtain ⟨c3,f3,_⟩:=own_set1 (enc:=encNr) (sz:=4) (fun _=>rfl) h hy (c:=3) (by omega)
 refine ⟨c0,c1,c2,c3,f0,f1,f2,f3,fun y'=>?_⟩
 have N1:=n0 (y'.1,y.2.1,y.2.2.1,y.2.2.2) (.int .i64 y'.1) rfl
 have h1:(L.set j (y'.1,y.2.1,y.2.2.1,y.2.2.2))[j]?=some (y'.1,y.2.1,y.2.2.1,y.2.2.2):=by rw [List.getElem?_set_self hj]
 have N2:=(own_set1 (enc:=encNr) (sz:=4) (fun _=>rfl) N1 h1 (c:=1) (by omega)).2.2 (y'.1,y'.2.1,y.2.2.1,y.2.2.2) (.int .i64 y'.2.1) rfl
 rw [List.set_set] at N2
 have h2:(L.set j (y'.1,y'.2.1,y.2.2.1,y.2.2.2))[j]?=some (y'.1,y'.2.1,y.2.2.1,y.2.2.2):=by rw [List.getElem?_set_self hj]
 have N3:=(own_set1 (enc:=encNr) (sz:=4) (fun _=>rfl) N2 h2 (c:=2) (by omega)).2.2 (y'.1,y'.2.1,y'.2.2.1,y.2.2.2) (.int .i64 y'.2.2.1) rfl
 rw [List.set_set] at N3
 have h3:(L.set j (y'.1,y'.2.1,y'.2.2.1,y.2.2.2))[j]?=some (y'.1,y'.2.1,y'.2.2.1,y.2.2.2):=by rw [List.getElem?_set_self hj]
 have N4:=(own_set1 (enc:=encNr) (sz:=4) (fun _=>rfl) N3 h3 (c:=3) (by omega)).2.2 (y'.1,y'.2.1,y'.2.2.1,y'.2.2.2) (.int .i64 y'.2.2.2) rfl
 rw [List.set_set] at N4
 exact N4
structure PeOf (m b:Nat) (w w':World) (p:Pr) (hk hn:Hdr):Prop where
 ok:OwnL 1 encI 3 w.heap.size w' hk.val p.known
 on:OwnL 4 encNr 158 w.heap.size w' hn.val p.near
 lk:p.known.length≤3
 ln:p.near.length≤m
 id:I64 p.id
 tape:TK w' b
 k:Exb b w w'
def PeePost (m b:Nat) (w:World) (e:Ending) (w':World):Prop:=∃ (p:Pr) (hk hn:Hdr),e=.returned (.agg #[.int .i64 p.id,hk.val,.int .i64 p.left,.int .i64 p.right,hn.val])∧PeOf m b w w' p hk hn
def P1Rel (b g6 g7:Nat) (r0:Int) (w:World) (i:Value) (wr:World):Prop :=
 ∃ (q:Nat) (A:Option Addr) (m c:Nat) (kn:List Int),kn.length+q≤3∧i=.int .i64 q∧Blk wr g7 [.int .i64 r0,.slice A m c,.int .i64 0,.int .i64 0,.slice none 0 0] 150∧Blk wr g6 [.int .i64 0,.slice none 0 0,.int .i64 0,.int .i64 0,.slice none 0 0] 150 ∧
  OwnL 1 encI 3 w.heap.size wr (.slice A m c) kn∧TK wr b∧Exb b w wr
def P2Rel (b g6 g7 M:Nat) (r0 lf rt:Int) (hk:Hdr) (kn:List Int) (w:World) (i:Value) (wr:World):Prop :=
 ∃ (q:Nat) (A:Option Addr) (m c:Nat) (nr:List Nr),nr.length+q≤M∧i=.int .i64 q∧Blk wr g7 [.int .i64 r0,hk.val,.int .i64 lf,.int .i64 rt,.slice A m c] 150∧Blk wr g6 [.int .i64 0,.slice none 0 0,.int .i64 0,.int .i64 0,.slice none 0 0] 150 ∧
  OwnL 1 encI 3 w.heap.size wr hk.val kn∧OwnL 4 encNr 158 w.heap.size wr (.slice A m c) nr∧TK wr b∧Exb b w wr
set_option maxRecDepth 100000 in
set_option maxHeartbeats 8000000 in
theorem peer_t {b:Nat} (ht:Nat) (a:Option Addr) (na cp:Nat) (l:List Nd) (w:World) (h:TK w b) (hs:Slb 3 encN b w a na l) (hna:na≤1000) (hi:∀ x∈l,I64 x.id) (hht:ht≤100) :
  Calls Tryz.prog 85 #[.pointer (some ⟨b,0,none⟩),.slice a na cp,.int .i64 ht] w (PeePost (ht+1) b w):=by
 have hbw:=h.lt
 have HI:=lH hi
 have HS:=lH hs
 have KW:=Exb.refl b w
 have B6:=Blk.new w [.int .i64 0,.slice none 0 0,.int .i64 0,.int .i64 0,.slice none 0 0] 150
 have kk:=Ex.new w (.cells #[.int .i64 0,.slice none 0 0,.int .i64 0,.int .i64 0,.slice none 0 0] 150)
 obtain ⟨w1,hw1⟩:∃ w1,w1=w.alloc (.cells #[.int .i64 0,.slice none 0 0,.int .i64 0,.int .i64 0,.slice none 0 0] 150):=⟨_,rfl⟩
 obtain ⟨g6,hg6⟩:∃ g6,g6=w.heap.size:=⟨_,rfl⟩
 replace B6:Blk w1 g6 [.int .i64 0,.slice none 0 0,.int .i64 0,.int .i64 0,.slice none 0 0] 150:=by rw [hw1,hg6];exact B6
 rw [← hw1] at kk
 have Hw1:=lH hw1
 have Hg6:=lH hg6
 replace h:=h.nx kk
 replace KW:=KW.nxb (kk.b b)
 have zg6:w.heap.size≤g6:=by omega
 have n6b:g6≠b:=by omega
 clear kk hw1 hg6 hi hs
 go_enter Tryz.func85,Tryz.ntmps85
 go_upto_region 1 with fail
 rw [← Hg6.out,← Hw1.out]
 clear Hg6 Hw1
 go_wp2_with fail
 refine (id_t _ _ _ l _ h (HS.out.nxb KW) hna HI.out).mono ?_
 clear h
 rintro e w2 ⟨r0,rfl,hr0,T,kk⟩
 replace KW:=KW.nxb kk
 replace B6:=B6.nxb n6b kk
 have l6:=B6.lt
 clear kk
 have B7:=Blk.new w2 [.int .i64 r0,.slice none 0 0,.int .i64 0,.int .i64 0,.slice none 0 0] 150
 have kk:=Ex.new w2 (.cells #[.int .i64 r0,.slice none 0 0,.int .i64 0,.int .i64 0,.slice none 0 0] 150)
 obtain ⟨w3,hw3⟩:∃ w3,w3=w2.alloc (.cells #[.int .i64 r0,.slice none 0 0,.int .i64 0,.int .i64 0,.slice none 0 0] 150):=⟨_,rfl⟩
 obtain ⟨g7,hg7⟩:∃ g7,g7=w2.heap.size:=⟨_,rfl⟩
 replace B7:Blk w3 g7 [.int .i64 r0,.slice none 0 0,.int .i64 0,.int .i64 0,.slice none 0 0] 150:=by rw [hw3,hg7];exact B7
 rw [← hw3] at kk
 have Hw3:=lH hw3
 have Hg7:=lH hg7
 replace B6:=B6.nx kk
 replace T:=T.nx kk
 have zg7:w.heap.size≤g7:=by have:=KW.size;omega
 have n7b:g7≠b:=by omega
 have n67:g6≠g7:=by omega
 have zb7:b<g7:=by omega
 have zb6:b<g6:=by omega
 replace KW:=KW.nxb (kk.b b)
 clear kk hw3 hg7
 go_upto_region 2 with fail
 rw [← Hg7.out,← Hw3.out]
 clear Hg7 Hw3
 go_wp2_with fail
 refine (next_t 4 _ T (by omega) (by omega)).mono ?_
 clear T
 rintro e w4 ⟨q,rfl,q0,q1,T,kk⟩
 obtain ⟨q,rfl⟩:=Int.eq_ofNat_of_zero_le q0
 replace KW:=KW.nxb kk
 replace B6:=B6.nxb n6b kk
 replace B7:=B7.nxb n7b kk
 replace hr0:=lH hr0
 clear kk
 go_wp2_with fail
 go_loopw [8] (fun i wr=>P1Rel b g6 g7 r0 w i wr) (fun i _=>(intOf i).toNat)
 case atStart=>exact ⟨q,none,0,0,[],by simp;omega,rfl,B7,B6,OwnL.nil _ _ _ _ _,T,KW⟩
 case round =>
  clear B6 B7 T KW
  obtain ⟨q,A,m,c,kn,hq,rfl,B7,B6,own,T,KW⟩:=hrel
  obtain ⟨wo,rfl⟩:∃ wo:World,wo=wr:=⟨_,rfl⟩
  by_cases hq0:0<q
  ·have BPP:=lH B7
   have BSS:=lH B6
   have OWN:=lH own
   have KWH:=lH KW
   have zk:=KW.size
   clear B7 B6 own KW
   go_upto_region 5 with fail
   refine wp_region_late_drew (S:=Exb b wo) [6,7,8] (by kernel_rfl) ((Exb.refl b wo).drew) (fun hHeld=>?_)
   obtain ⟨wd,hwdx⟩:∃ wd:World,wd=World.drew wo:=⟨_,rfl⟩
   rw [← hwdx] at hHeld ⊢
   have hDrew:Ex wo wd:=by rw [hwdx];exact (Ex.refl wo).drew
   clear hwdx
   refine tkL 0 (v:=?_) rfl (by kernel_rfl) (fun _ _ _ h=>h) (by rfl) ?y5 hHeld ?_
   case y5=>intro wq hSw;go_simp<;>rfl
   try simp only [Act.put,sA,sB,sC]
   refine tkL 1 (v:=?_) rfl (by kernel_rfl) (fun _ _ _ h=>h) (by rfl) ?y8 hHeld ?_
   case y8=>intro wq hSw;(have cq:=(BPP.out.nxb n7b hSw).cell 1 _ rfl;go_simp)<;>rfl
   try simp only [Act.put,sA,sB,sC]
   refine tkL 2 (v:=?_) rfl (by kernel_rfl) (fun _ _ _ h=>h) (by rfl) ?y11 hHeld ?_
   case y11=>intro wq hSw;go_simp<;>rfl
   try simp only [Act.put,sA,sB,sC]
   refine tkL 3 (v:=?_) rfl (by kernel_rfl) (fun _ _ _ h=>h) (by rfl) ?y14 hHeld ?_
   case y14=>intro wq hSw;go_simp<;>rfl
   try simp only [Act.put,sA,sB,sC]
   refine rL 4 (by kernel_rfl) rfl fun K hK=>?_
   go_simp
   (refine (id_t _ _ _ l _ (T.nx hDrew) (HS.out.nxb (KWH.out.nxb hHeld)) hna HI.out).mono ?_)
   clear T
   rintro e wq ⟨r,rfl,hr,T,kk⟩
   replace hHeld:=hHeld.nxb kk
   clear kk
   refine hK.out _ _ (hHeld) (fun hHeld=>?_)
   clear hK K
   try simp only [Act.put,sA,sB,sC]
   refine rL 5 (by kernel_rfl) rfl fun K hK=>?_
   go_simp
   obtain ⟨g8,wq2,hg8,hwq2,SX,kk⟩:=lit1 hHeld r
   rw [← hg8,← hwq2]
   replace hHeld:=hHeld.nxb (kk.b b)
   replace T:=T.nx kk
   clear hg8 hwq2 kk
   refine hK.out _ _ (hHeld) (fun hHeld=>?_)
   clear hK K
   try simp only [Act.put,sA,sB,sC]
   refine rLL 6 (by kernel_rfl) rfl (by rfl) fun K hK=>?_
   rw [if_pos (by rfl)]
   have own4:=OWN.out.nxb hbw hHeld
   have hkl:kn.length≤100000000:=by omega
   refine wp_append_rd (enc:=encI) _ (.tmp 21) (.tmp 25) 22 rfl w.heap.size 3 (.int .i64 0) 1 8 Tryz.underlying22 Tryz.infoI6 rfl (by omega) (by omega) _ kn own4 rfl _ _ 1 1 [r] SX (fun h=>by cases h) (fun _=>rfl) (by simp [encI,Value.oneCell']) rfl hkl (by omega) (Nat.le_trans zk hHeld.size) ?_
   intro v9 wz own9 ch0 ch1
   have hl9:(kn++[r]).length=kn.length+1:=by simp
   obtain ⟨A9,C9,e9,_⟩:=own9.rd (fun _=>rfl)
   rw [hl9] at e9
   subst e9
   have BZ:=(BPP.out.nxb n7b hHeld).app own4 (by decide) ch0
   have B6Z:=(BSS.out.nxb n6b hHeld).app own4 (by decide) ch0
   have KQ:Exb b w wz:=Chg.trans (KWH.out.nxb hHeld) (ch1.mono (fun x hx=>hx.1))
   replace T:TK wz b:=TP.chg T ch1 (fun x hx=>by omega)
   refine hK.out _ _ ?_
   clear hK K
   try simp only [Act.put,sA,sB,sC]
   refine rLL 7 (by kernel_rfl) rfl (by rfl) fun K hK=>?_
   go_simp
   refine hK.out _ _ ?_
   clear hK K
   try simp only [Act.put,sA,sB,sC]
   refine rLL 8 (by kernel_rfl) rfl (by rfl) fun K hK=>?_
   have c4:=BZ.cell 1 _ rfl
   have f4:=BZ.free 1
   go_simp
   clear c4 f4
   refine hK.out _ _ ?_
   clear hK K
   try simp only [Act.put,sA,sB,sC]
   refine wpAnyL_done (by kernel_rfl) ?_ _
   have KS:Exb g7 wz (wz.setCell ⟨g7,1,none⟩ (.slice A9 (kn.length+1) C9)):=(Exb.refl g7 wz).setB (p:=⟨g7,1,none⟩) _ rfl
   have own8:=lH (own9.put BZ (by decide) KS)
   have RR:=lH (show P1Rel b g6 g7 r0 w (.int .i64 ((q:Int)-1)) (wz.setCell ⟨g7,1,none⟩ (.slice A9 (kn.length+1) C9)) from ⟨q-1,A9,_,C9,kn++[r],by rw [hl9];omega,by rw [show ((q-1:Nat):Int)=(q:Int)-1 by omega],BZ.set 1 _,B6Z.nxb n67 KS,own8.out,T.set (p:=⟨g7,1,none⟩) _ zb7,KQ.setNew (p:=⟨g7,1,none⟩) _ zg7⟩)
   clear BZ B6Z KQ ch0 ch1 hHeld own4 own8 own9 SX KS T
   go_wp2_with fail
   exact ⟨RR.out,by simp [intOf];omega⟩
  ·have hkl:kn.length≤3:=by omega
   have zq:¬ (0:Int)<(q:Int):=by omega
   obtain ⟨A',C',e9,_⟩:=own.rd (fun _=>rfl)
   simp only [Value.slice.injEq] at e9
   obtain ⟨rfl,rfl,rfl⟩:=e9
   replace own:=lH own
   clear hq hq0
   go_wp2_with fail
   (refine (bool_t 2 _ T (by omega) (by omega)).mono ?_)
   clear T
   rintro e w5 ⟨r,rfl,T,kk⟩
   replace KW:=KW.nxb kk
   replace B6:=B6.nxb n6b kk
   replace B7:=B7.nxb n7b kk
   replace own:=lH (own.out.nxb hbw kk)
   clear kk
   cases r with
   | true =>
    go_wp2_with fail
    (refine (id_t _ _ _ l _ T (HS.out.nxb KW) hna HI.out).mono ?_)
    clear T
    rintro e wa6 ⟨lf,rfl,hlf,T,kk⟩
    replace KW:=KW.nxb kk
    replace B6:=B6.nxb n6b kk
    replace B7:=B7.nxb n7b kk
    replace own:=lH (own.out.nxb hbw kk)
    clear kk hlf
    have c2:=B7.cell 2 _ rfl
    have f2:=B7.free 2
    have KS:Exb g7 wa6 (wa6.setCell ⟨g7,2,none⟩ (.int .i64 lf)):=(Exb.refl g7 wa6).setB (p:=⟨g7,2,none⟩) _ rfl
    obtain ⟨w6,hw6⟩:∃ w6,w6=wa6.setCell ⟨g7,2,none⟩ (.int .i64 lf):=⟨_,rfl⟩
    go_upto_region 8 with fail
    rw [← hw6] at KS ⊢
    replace own:=lH (own.out.put B7 (by decide) KS)
    replace B7:Blk w6 g7 [.int .i64 r0,.slice A kn.length c,.int .i64 lf,.int .i64 0,.slice none 0 0] 150:=by rw [hw6];exact B7.set 2 _
    replace B6:=B6.nxb n67 KS
    replace T:TK w6 b:=by rw [hw6];exact T.set (p:=⟨g7,2,none⟩) _ zb7
    replace KW:Exb b w w6:=by rw [hw6];exact KW.setNew (p:=⟨g7,2,none⟩) _ zg7
    clear hw6 c2 f2 KS
    go_wp2_with fail
    (refine (bool_t 2 _ T (by omega) (by omega)).mono ?_)
    clear T
    rintro e w7 ⟨r,rfl,T,kk⟩
    replace KW:=KW.nxb kk
    replace B6:=B6.nxb n6b kk
    replace B7:=B7.nxb n7b kk
    replace own:=lH (own.out.nxb hbw kk)
    clear kk
    cases r with
    | true =>
     go_wp2_with fail
     (refine (id_t _ _ _ l _ T (HS.out.nxb KW) hna HI.out).mono ?_)
     clear T
     rintro e wa8 ⟨rt,rfl,hrt,T,kk⟩
     replace KW:=KW.nxb kk
     replace B6:=B6.nxb n6b kk
     replace B7:=B7.nxb n7b kk
     replace own:=lH (own.out.nxb hbw kk)
     clear kk hrt
     have c2:=B7.cell 3 _ rfl
     have f2:=B7.free 3
     have KS:Exb g7 wa8 (wa8.setCell ⟨g7,3,none⟩ (.int .i64 rt)):=(Exb.refl g7 wa8).setB (p:=⟨g7,3,none⟩) _ rfl
     obtain ⟨w8,hw8⟩:∃ w8,w8=wa8.setCell ⟨g7,3,none⟩ (.int .i64 rt):=⟨_,rfl⟩
     go_upto_region 10 with fail
     rw [← hw8] at KS ⊢
     replace own:=lH (own.out.put B7 (by decide) KS)
     replace B7:Blk w8 g7 [.int .i64 r0,.slice A kn.length c,.int .i64 lf,.int .i64 rt,.slice none 0 0] 150:=by rw [hw8];exact B7.set 3 _
     replace B6:=B6.nxb n67 KS
     replace T:TK w8 b:=by rw [hw8];exact T.set (p:=⟨g7,3,none⟩) _ zb7
     replace KW:Exb b w w8:=by rw [hw8];exact KW.setNew (p:=⟨g7,3,none⟩) _ zg7
     clear hw8 c2 f2 KS
     go_wp2_with fail
     refine (next_t ((ht:Int)+2) _ T (by omega) (by omega)).mono ?_
     clear T
     rintro e w9 ⟨q2,rfl,q20,q21,T,kk⟩
     obtain ⟨q2,rfl⟩:=Int.eq_ofNat_of_zero_le q20
     replace KW:=KW.nxb kk
     replace B6:=B6.nxb n6b kk
     replace B7:=B7.nxb n7b kk
     replace own:=own.out.nxb hbw kk
     clear kk
     go_wp2_with fail
     go_loopw [9] (fun i wr=>P2Rel b g6 g7 (ht+1) r0 lf rt (A,kn.length,c) kn w i wr) (fun i _=>(intOf i).toNat)
     case atStart=>exact ⟨q2,none,0,0,[],by simp;omega,rfl,B7,B6,own,OwnL.nil _ _ _ _ _,T,KW⟩
     case round =>
      clear B6 B7 T KW own
      obtain ⟨q,A4,m4,c4,nr,hq,rfl,B7,B6,own,nrow,T,KW⟩:=hrel
      simp only [Hdr.val] at B7 own
      obtain ⟨wo,rfl⟩:∃ wo:World,wo=wr:=⟨_,rfl⟩
      by_cases hq0:0<q
      ·obtain ⟨A',C',e9,_⟩:=nrow.rd (fun _=>rfl)
       simp only [Value.slice.injEq] at e9
       obtain ⟨rfl,rfl,rfl⟩:=e9
       have hnl:nr.length≤100000000:=by omega
       have zk:=KW.size
       have p4:=B7.cell 4 _ rfl
       have kl:=Ex.new wo (.cells #[.int .i64 0,.int .i64 0,.int .i64 0,.int .i64 0] 158)
       have SX:Sl 4 encNr (wo.alloc (.cells #[.int .i64 0,.int .i64 0,.int .i64 0,.int .i64 0] 158)) (some ⟨wo.heap.size,0,none⟩) 1 [((0,0,0,0):Nr)]:=Sl.lit _ rfl rfl (fun _=>rfl) rfl
       have nrk:=nrow.nx kl
       have zl:=Nat.le_trans zk kl.size
       have B7k:=B7.nx kl
       go_upto_region 14 with (at_builtin;(refine wpList_append_rq (enc:=encNr) _ rfl (.tmp 49) (.tmp 51) 148 rfl w.heap.size 158 (.agg #[.int .i64 0,.int .i64 0,.int .i64 0,.int .i64 0]) 4 32 Tryz.underlying148 Tryz.infoNr rfl (by omega) (by omega) _ nr nrk rfl _ 1 1 [((0,0,0,0):Nr)] SX (fun _=>rfl) (by simp [encNr,Value.oneCell']) rfl hnl (by omega) zl ?_);intro v9 wz own9 ch0 ch1;have hl9:(nr++[((0,0,0,0):Nr)]).length=nr.length+1:=(by simp);obtain ⟨A9,C9,e9,_,_,_,some9⟩:=own9.rd (fun _=>rfl);obtain ⟨gn,rfl,zgn⟩:=some9 (by simp);rw [hl9] at e9;subst e9;have BZ:=B7k.app nrk (by decide) ch0;have f4:=BZ.free 4;have r4:=BZ.cell 4 _ rfl)
       have KS:Exb g7 wz (wz.setCell ⟨g7,4,none⟩ (.slice (some ⟨gn,0,none⟩) (nr.length+1) C9)):=(Exb.refl g7 wz).setB (p:=⟨g7,4,none⟩) _ rfl
       obtain ⟨wy,hwy⟩:∃ wy,wy=wz.setCell ⟨g7,4,none⟩ (.slice (some ⟨gn,0,none⟩) (nr.length+1) C9):=⟨_,rfl⟩
       rw [← hwy] at KS ⊢
       have nry:=own9.put BZ (by decide) KS
       have own:=((own.nx kl).app nrk (by decide) ch0).put BZ (by decide) KS
       have B6:=((B6.nx kl).app nrk (by decide) ch0).nxb n67 KS
       have KW:Exb b w wy:=Chg.trans (Chg.trans (KW.nxb (kl.b b)) (ch1.mono (fun x hx=>hx.1))) (Chg.mono KS (fun x hx=>⟨Nat.lt_of_lt_of_le hx.1 (Nat.le_trans zl ch1.size),fun h=>by have:=hx.1;omega⟩))
       have T:TK wy b:=by rw [hwy];exact TK.set (show TK wz b from TP.chg (T.nx kl) ch1 (fun x hx=>by omega)) (p:=⟨g7,4,none⟩) _ zb7
       replace BZ:Blk wy g7 [.int .i64 r0,.slice A kn.length c,.int .i64 lf,.int .i64 rt,.slice (some ⟨gn,0,none⟩) (nr.length+1) C9] 150:=by rw [hwy];exact BZ.set 4 _
       clear hwy KS ch0 ch1 nrk nrow B7 B7k SX own9 f4 r4 p4 kl zl
       replace own:=lH own
       go_wp2_with fail
       (refine (bool_t 2 _ T (by omega) (by omega)).mono ?_)
       clear T
       rintro e w10 ⟨rb,rfl,T,kk⟩
       replace KW:=KW.nxb kk
       replace B6:=B6.nxb n6b kk
       replace BZ:=BZ.nxb n7b kk
       replace own:=lH (own.out.nxb hbw kk)
       replace nry:=nry.nxb hbw kk
       clear kk
       cases rb with
       | false =>
        have RR:=lH (show P2Rel b g6 g7 (ht+1) r0 lf rt (A,kn.length,c) kn w (.int .i64 ((q:Int)-1)) w10 from ⟨q-1,some ⟨gn,0,none⟩,_,C9,nr++[(0,0,0,0)],by rw [hl9];omega,by rw [show ((q-1:Nat):Int)=(q:Int)-1 by omega],BZ,B6,own.out,nry,T,KW⟩)
        clear BZ B6 nry T KW
        go_wp2_with fail
        exact ⟨RR.out,by simp [intOf];omega⟩
       | true =>
        have BPP:=lH BZ
        have BSS:=lH B6
        have NRY:=lH nry
        have KWH:=lH KW
        clear BZ B6 nry KW
        go_upto_region 15 with fail
        have wl1:IntKind.i64.wrap (nr.length:Int)=(nr.length:Int):=IntWalk.i64_in _ (by omega)
        have wl2:(nr.length:Int)<(nr.length:Int)+1:=by omega
        refine wp_region_late_drew (S:=Exb b w10) [19,20] (by kernel_rfl) ((Exb.refl b w10).drew) (fun hHeld=>?_)
        obtain ⟨wd,hwdx⟩:∃ wd:World,wd=World.drew w10:=⟨_,rfl⟩
        rw [← hwdx] at hHeld ⊢
        have hDrew:Ex w10 wd:=by rw [hwdx];exact (Ex.refl w10).drew
        clear hwdx
        refine tkL 0 (v:=?_) rfl (by kernel_rfl) (fun _ _ _ h=>h) (by rfl) ?y5 hHeld ?_
        case y5=>intro wq hSw;go_simp<;>rfl
        try simp only [Act.put,sA,sB,sC]
        refine tkL 1 (v:=?_) rfl (by kernel_rfl) (fun _ _ _ h=>h) (by rfl) ?y8 hHeld ?_
        case y8=>intro wq hSw;(have cq:=(BPP.out.nxb n7b hSw).cell 4 _ rfl;go_simp)<;>rfl
        try simp only [Act.put,sA,sB,sC]
        refine tkL 2 (v:=?_) rfl (by kernel_rfl) (fun _ _ _ h=>h) (by rfl) ?y11 hHeld ?_
        case y11=>intro wq hSw;go_simp<;>rfl
        try simp only [Act.put,sA,sB,sC]
        refine tkL 3 (v:=?_) rfl (by kernel_rfl) (fun _ _ _ h=>h) (by rfl) ?y14 hHeld ?_
        case y14=>intro wq hSw;(have cq:=(BPP.out.nxb n7b hSw).cell 4 _ rfl;go_simp)<;>rfl
        try simp only [Act.put,sA,sB,sC]
        refine tkL 4 (v:=?_) rfl (by kernel_rfl) (fun _ _ _ h=>h) (by rfl) ?y17 hHeld ?_
        case y17=>intro wq hSw;go_simp<;>rfl
        try simp only [Act.put,sA,sB,sC]
        refine tkL 5 (v:=?_) rfl (by kernel_rfl) (fun _ _ _ h=>h) (by rfl) ?y20 hHeld ?_
        case y20=>intro wq hSw;go_simp<;>rfl
        try simp only [Act.put,sA,sB,sC]
        refine tkL 6 (v:=?_) rfl (by kernel_rfl) (fun _ _ _ h=>h) (by rfl) ?y23 hHeld ?_
        case y23=>intro wq hSw;go_simp<;>rfl
        try simp only [Act.put,sA,sB,sC]
        refine tkL 7 (v:=?_) rfl (by kernel_rfl) (fun _ _ _ h=>h) (by rfl) ?y26 hHeld ?_
        case y26=>intro wq hSw;go_simp<;>rfl
        try simp only [Act.put,sA,sB,sC]
        refine tkL 9 (v:=?_) rfl (by kernel_rfl) (fun _ _ _ h=>h) (by rfl) ?y29 hHeld ?_
        case y29=>intro wq hSw;go_simp<;>rfl
        try simp only [Act.put,sA,sB,sC]
        refine tkL 10 (v:=?_) rfl (by kernel_rfl) (fun _ _ _ h=>h) (by rfl) ?y32 hHeld ?_
        case y32=>intro wq hSw;go_simp<;>rfl
        try simp only [Act.put,sA,sB,sC]
        refine tkL 12 (v:=?_) rfl (by kernel_rfl) (fun _ _ _ h=>h) (by rfl) ?y35 hHeld ?_
        case y35=>intro wq hSw;go_simp<;>rfl
        try simp only [Act.put,sA,sB,sC]
        refine tkL 13 (v:=?_) rfl (by kernel_rfl) (fun _ _ _ h=>h) (by rfl) ?y38 hHeld ?_
        case y38=>intro wq hSw;go_simp<;>rfl
        try simp only [Act.put,sA,sB,sC]
        refine tkL 15 (v:=?_) rfl (by kernel_rfl) (fun _ _ _ h=>h) (by rfl) ?y41 hHeld ?_
        case y41=>intro wq hSw;go_simp<;>rfl
        try simp only [Act.put,sA,sB,sC]
        refine tkL 16 (v:=?_) rfl (by kernel_rfl) (fun _ _ _ h=>h) (by rfl) ?y44 hHeld ?_
        case y44=>intro wq hSw;go_simp<;>rfl
        try simp only [Act.put,sA,sB,sC]
        refine rL 8 (by kernel_rfl) rfl fun K hK=>?_
        go_simp
        (refine (id_t _ _ _ l _ (T.nx hDrew) (HS.out.nxb (KWH.out.nxb hHeld)) hna HI.out).mono ?_)
        clear T
        rintro e wq1 ⟨i1,rfl,_,T,kk⟩
        replace hHeld:=hHeld.nxb kk
        clear kk
        refine hK.out _ _ (hHeld) (fun hHeld=>?_)
        clear hK K
        try simp only [Act.put,sA,sB,sC]
        refine rL 11 (by kernel_rfl) rfl fun K hK=>?_
        go_simp
        (refine (id_t _ _ _ l _ T (HS.out.nxb (KWH.out.nxb hHeld)) hna HI.out).mono ?_)
        clear T
        rintro e wq2 ⟨i2,rfl,_,T,kk⟩
        replace hHeld:=hHeld.nxb kk
        clear kk
        refine hK.out _ _ (hHeld) (fun hHeld=>?_)
        clear hK K
        try simp only [Act.put,sA,sB,sC]
        refine rL 14 (by kernel_rfl) rfl fun K hK=>?_
        go_simp
        (refine (id_t _ _ _ l _ T (HS.out.nxb (KWH.out.nxb hHeld)) hna HI.out).mono ?_)
        clear T
        rintro e wq3 ⟨i3,rfl,_,T,kk⟩
        replace hHeld:=hHeld.nxb kk
        clear kk
        refine hK.out _ _ (hHeld) (fun hHeld=>?_)
        clear hK K
        try simp only [Act.put,sA,sB,sC]
        refine rL 17 (by kernel_rfl) rfl fun K hK=>?_
        go_simp
        (refine (id_t _ _ _ l _ T (HS.out.nxb (KWH.out.nxb hHeld)) hna HI.out).mono ?_)
        clear T
        rintro e wq ⟨i4,rfl,_,T,kk⟩
        replace hHeld:=hHeld.nxb kk
        clear kk
        refine hK.out _ _ (hHeld) (fun hHeld=>?_)
        clear hK K
        try simp only [Act.put,sA,sB,sC]
        refine tkL 18 (v:=?_) rfl (by kernel_rfl) (fun _ _ _ h=>h) (by rfl) ?y91 hHeld ?_
        case y91=>intro wq hSw;go_simp<;>rfl
        try simp only [Act.put,sA,sB,sC]
        refine rLL 19 (by kernel_rfl) rfl (by rfl) fun K hK=>?_
        go_simp
        refine hK.out _ _ ?_
        clear hK K
        try simp only [Act.put,sA,sB,sC]
        refine rLL 20 (by kernel_rfl) rfl (by rfl) fun K hK=>?_
        have N0:=NRY.out.nxb hbw hHeld
        have hy0:(nr++[((0,0,0,0):Nr)])[nr.length]?=some (0,0,0,0):=by simp
        obtain ⟨c0,c1,c2,c3,f0,f1,f2,f3,np⟩:=own_put4 N0 hy0
        go_simp
        clear c0 c1 c2 c3 f0 f1 f2 f3
        refine hK.out _ _ ?_
        clear hK K
        try simp only [Act.put,sA,sB,sC]
        refine wpAnyL_done (by kernel_rfl) ?_ _
        have NF:=np (i1,i2,i3,i4)
        obtain ⟨wv,hwv⟩:∃ wv,wv=(((wq.setCell ⟨gn,nr.length*4,none⟩ (.int .i64 i1)).setCell ⟨gn,nr.length*4+1,none⟩ (.int .i64 i2)).setCell ⟨gn,nr.length*4+1+1,none⟩ (.int .i64 i3)).setCell ⟨gn,nr.length*4+1+1+1,none⟩ (.int .i64 i4):=⟨_,rfl⟩
        rw [← hwv]
        rw [show (nr++[((0,0,0,0):Nr)]).set nr.length (i1,i2,i3,i4)=nr++[((i1,i2,i3,i4):Nr)] by simp,← hwv] at NF
        have KS:Exb gn wq wv:=by rw [hwv];exact (((((Exb.refl gn wq).setB (p:=⟨gn,nr.length*4,none⟩) _ rfl).setB (p:=⟨gn,nr.length*4+1,none⟩) _ rfl).setB (p:=⟨gn,nr.length*4+1+1,none⟩) _ rfl).setB (p:=⟨gn,nr.length*4+1+1+1,none⟩) _ rfl)
        have B7v:=(BPP.out.nxb n7b hHeld).nxb (fun h=>N0.ne_blk (BPP.out.nxb n7b hHeld) (by decide) rfl h.symm) KS
        have B6v:=(BSS.out.nxb n6b hHeld).nxb (fun h=>N0.ne_blk (BSS.out.nxb n6b hHeld) (by decide) rfl h.symm) KS
        have own8:=(own.out.nxb hbw hHeld).apart N0 (by decide) rfl KS
        have Tv:TK wv b:=by rw [hwv];exact (((T.set (p:=⟨gn,nr.length*4,none⟩) _ (show b<gn by omega)).set (p:=⟨gn,nr.length*4+1,none⟩) _ (show b<gn by omega)).set (p:=⟨gn,nr.length*4+1+1,none⟩) _ (show b<gn by omega)).set (p:=⟨gn,nr.length*4+1+1+1,none⟩) _ (show b<gn by omega)
        have KWv:Exb b w wv:=by rw [hwv];exact ((((KWH.out.nxb hHeld).setNew (p:=⟨gn,nr.length*4,none⟩) _ zgn).setNew (p:=⟨gn,nr.length*4+1,none⟩) _ zgn).setNew (p:=⟨gn,nr.length*4+1+1,none⟩) _ zgn).setNew (p:=⟨gn,nr.length*4+1+1+1,none⟩) _ zgn
        have RR:=lH (show P2Rel b g6 g7 (ht+1) r0 lf rt (A,kn.length,c) kn w (.int .i64 ((q:Int)-1)) wv from ⟨q-1,some ⟨gn,0,none⟩,_,C9,nr++[(i1,i2,i3,i4)],by rw [List.length_append,List.length_singleton];omega,by rw [show ((q-1:Nat):Int)=(q:Int)-1 by omega],B7v,B6v,own8,NF,Tv,KWv⟩)
        clear NF np KS B7v B6v own8 Tv KWv hwv N0 hHeld T
        go_wp2_with fail
        exact ⟨RR.out,by simp [intOf];omega⟩
      ·have zq:¬ (0:Int)<(q:Int):=by omega
       obtain ⟨A',C',e9,_⟩:=nrow.rd (fun _=>rfl)
       simp only [Value.slice.injEq] at e9
       obtain ⟨rfl,rfl,rfl⟩:=e9
       have p0:=B7.cell 0 _ rfl
       have p1:=B7.cell 1 _ rfl
       have p2:=B7.cell 2 _ rfl
       have p3:=B7.cell 3 _ rfl
       have p4:=B7.cell 4 _ rfl
       have s0:=B6.cell 0 _ rfl
       have s1:=B6.cell 1 _ rfl
       have s2:=B6.cell 2 _ rfl
       have s3:=B6.cell 3 _ rfl
       have s4:=B6.cell 4 _ rfl
       have f0:=B6.free 0
       have f1:=B6.free 1
       have f2:=B6.free 2
       have f3:=B6.free 3
       have f4:=B6.free 4
       have KS:Exb g6 wo (((((wo.setCell ⟨g6,0,none⟩ (.int .i64 r0)).setCell ⟨g6,1,none⟩ (.slice A kn.length c)).setCell ⟨g6,2,none⟩ (.int .i64 lf)).setCell ⟨g6,3,none⟩ (.int .i64 rt)).setCell ⟨g6,4,none⟩ (.slice A4 nr.length c4)) :=
        (((((Exb.refl g6 wo).setB (p:=⟨g6,0,none⟩) _ rfl).setB (p:=⟨g6,1,none⟩) _ rfl).setB (p:=⟨g6,2,none⟩) _ rfl).setB (p:=⟨g6,3,none⟩) _ rfl).setB (p:=⟨g6,4,none⟩) _ rfl
       have O1:=lH (own.put B6 (by decide) KS)
       have O4:=lH (nrow.put B6 (by decide) KS)
       have KV:=lH (((((KW.setNew (p:=⟨g6,0,none⟩) (.int .i64 r0) zg6).setNew (p:=⟨g6,1,none⟩) (.slice A kn.length c) zg6).setNew (p:=⟨g6,2,none⟩) (.int .i64 lf) zg6).setNew (p:=⟨g6,3,none⟩) (.int .i64 rt) zg6).setNew (p:=⟨g6,4,none⟩) (.slice A4 nr.length c4) zg6)
       have TV:=lH (((((T.set (p:=⟨g6,0,none⟩) (.int .i64 r0) zb6).set (p:=⟨g6,1,none⟩) (.slice A kn.length c) zb6).set (p:=⟨g6,2,none⟩) (.int .i64 lf) zb6).set (p:=⟨g6,3,none⟩) (.int .i64 rt) zb6).set (p:=⟨g6,4,none⟩) (.slice A4 nr.length c4) zb6)
       have hnm:nr.length≤ht+1:=by omega
       clear B6 B7 own nrow T KW KS hq hq0
       go_wp2_with fail
       refine bodyPost_ret (v:=.agg #[.int .i64 r0,.slice A kn.length c,.int .i64 lf,.int .i64 rt,.slice A4 nr.length c4]) (by simp [results,Tryz.results85,go_sem, *]) rfl ⟨⟨r0,lf,rt,kn,nr⟩,(A,kn.length,c),(A4,nr.length,c4),rfl,O1.out,O4.out,hkl,hnm,hr0.out,TV.out,KV.out⟩
    | false =>
     obtain ⟨rt,hrt⟩:∃ rt:Int,rt=0:=⟨_,rfl⟩
     replace B7:Blk w7 g7 [.int .i64 r0,.slice A kn.length c,.int .i64 lf,.int .i64 rt,.slice none 0 0] 150:=by rw [hrt];exact B7
     clear hrt
     go_wp2_with fail
     refine (next_t ((ht:Int)+2) _ T (by omega) (by omega)).mono ?_
     clear T
     rintro e w9 ⟨q2,rfl,q20,q21,T,kk⟩
     obtain ⟨q2,rfl⟩:=Int.eq_ofNat_of_zero_le q20
     replace KW:=KW.nxb kk
     replace B6:=B6.nxb n6b kk
     replace B7:=B7.nxb n7b kk
     replace own:=own.out.nxb hbw kk
     clear kk
     go_wp2_with fail
     go_loopw [9] (fun i wr=>P2Rel b g6 g7 (ht+1) r0 lf rt (A,kn.length,c) kn w i wr) (fun i _=>(intOf i).toNat)
     case atStart=>exact ⟨q2,none,0,0,[],by simp;omega,rfl,B7,B6,own,OwnL.nil _ _ _ _ _,T,KW⟩
     case round =>
      clear B6 B7 T KW own
      obtain ⟨q,A4,m4,c4,nr,hq,rfl,B7,B6,own,nrow,T,KW⟩:=hrel
      simp only [Hdr.val] at B7 own
      obtain ⟨wo,rfl⟩:∃ wo:World,wo=wr:=⟨_,rfl⟩
      by_cases hq0:0<q
      ·obtain ⟨A',C',e9,_⟩:=nrow.rd (fun _=>rfl)
       simp only [Value.slice.injEq] at e9
       obtain ⟨rfl,rfl,rfl⟩:=e9
       have hnl:nr.length≤100000000:=by omega
       have zk:=KW.size
       have p4:=B7.cell 4 _ rfl
       have kl:=Ex.new wo (.cells #[.int .i64 0,.int .i64 0,.int .i64 0,.int .i64 0] 158)
       have SX:Sl 4 encNr (wo.alloc (.cells #[.int .i64 0,.int .i64 0,.int .i64 0,.int .i64 0] 158)) (some ⟨wo.heap.size,0,none⟩) 1 [((0,0,0,0):Nr)]:=Sl.lit _ rfl rfl (fun _=>rfl) rfl
       have nrk:=nrow.nx kl
       have zl:=Nat.le_trans zk kl.size
       have B7k:=B7.nx kl
       go_upto_region 14 with (at_builtin;(refine wpList_append_rq (enc:=encNr) _ rfl (.tmp 49) (.tmp 51) 148 rfl w.heap.size 158 (.agg #[.int .i64 0,.int .i64 0,.int .i64 0,.int .i64 0]) 4 32 Tryz.underlying148 Tryz.infoNr rfl (by omega) (by omega) _ nr nrk rfl _ 1 1 [((0,0,0,0):Nr)] SX (fun _=>rfl) (by simp [encNr,Value.oneCell']) rfl hnl (by omega) zl ?_);intro v9 wz own9 ch0 ch1;have hl9:(nr++[((0,0,0,0):Nr)]).length=nr.length+1:=(by simp);obtain ⟨A9,C9,e9,_,_,_,some9⟩:=own9.rd (fun _=>rfl);obtain ⟨gn,rfl,zgn⟩:=some9 (by simp);rw [hl9] at e9;subst e9;have BZ:=B7k.app nrk (by decide) ch0;have f4:=BZ.free 4;have r4:=BZ.cell 4 _ rfl)
       have KS:Exb g7 wz (wz.setCell ⟨g7,4,none⟩ (.slice (some ⟨gn,0,none⟩) (nr.length+1) C9)):=(Exb.refl g7 wz).setB (p:=⟨g7,4,none⟩) _ rfl
       obtain ⟨wy,hwy⟩:∃ wy,wy=wz.setCell ⟨g7,4,none⟩ (.slice (some ⟨gn,0,none⟩) (nr.length+1) C9):=⟨_,rfl⟩
       rw [← hwy] at KS ⊢
       have nry:=own9.put BZ (by decide) KS
       have own:=((own.nx kl).app nrk (by decide) ch0).put BZ (by decide) KS
       have B6:=((B6.nx kl).app nrk (by decide) ch0).nxb n67 KS
       have KW:Exb b w wy:=Chg.trans (Chg.trans (KW.nxb (kl.b b)) (ch1.mono (fun x hx=>hx.1))) (Chg.mono KS (fun x hx=>⟨Nat.lt_of_lt_of_le hx.1 (Nat.le_trans zl ch1.size),fun h=>by have:=hx.1;omega⟩))
       have T:TK wy b:=by rw [hwy];exact TK.set (show TK wz b from TP.chg (T.nx kl) ch1 (fun x hx=>by omega)) (p:=⟨g7,4,none⟩) _ zb7
       replace BZ:Blk wy g7 [.int .i64 r0,.slice A kn.length c,.int .i64 lf,.int .i64 rt,.slice (some ⟨gn,0,none⟩) (nr.length+1) C9] 150:=by rw [hwy];exact BZ.set 4 _
       clear hwy KS ch0 ch1 nrk nrow B7 B7k SX own9 f4 r4 p4 kl zl
       replace own:=lH own
       go_wp2_with fail
       (refine (bool_t 2 _ T (by omega) (by omega)).mono ?_)
       clear T
       rintro e w10 ⟨rb,rfl,T,kk⟩
       replace KW:=KW.nxb kk
       replace B6:=B6.nxb n6b kk
       replace BZ:=BZ.nxb n7b kk
       replace own:=lH (own.out.nxb hbw kk)
       replace nry:=nry.nxb hbw kk
       clear kk
       cases rb with
       | false =>
        have RR:=lH (show P2Rel b g6 g7 (ht+1) r0 lf rt (A,kn.length,c) kn w (.int .i64 ((q:Int)-1)) w10 from ⟨q-1,some ⟨gn,0,none⟩,_,C9,nr++[(0,0,0,0)],by rw [hl9];omega,by rw [show ((q-1:Nat):Int)=(q:Int)-1 by omega],BZ,B6,own.out,nry,T,KW⟩)
        clear BZ B6 nry T KW
        go_wp2_with fail
        exact ⟨RR.out,by simp [intOf];omega⟩
       | true =>
        have BPP:=lH BZ
        have BSS:=lH B6
        have NRY:=lH nry
        have KWH:=lH KW
        clear BZ B6 nry KW
        go_upto_region 15 with fail
        have wl1:IntKind.i64.wrap (nr.length:Int)=(nr.length:Int):=IntWalk.i64_in _ (by omega)
        have wl2:(nr.length:Int)<(nr.length:Int)+1:=by omega
        refine wp_region_late_drew (S:=Exb b w10) [19,20] (by kernel_rfl) ((Exb.refl b w10).drew) (fun hHeld=>?_)
        obtain ⟨wd,hwdx⟩:∃ wd:World,wd=World.drew w10:=⟨_,rfl⟩
        rw [← hwdx] at hHeld ⊢
        have hDrew:Ex w10 wd:=by rw [hwdx];exact (Ex.refl w10).drew
        clear hwdx
        refine tkL 0 (v:=?_) rfl (by kernel_rfl) (fun _ _ _ h=>h) (by rfl) ?y5 hHeld ?_
        case y5=>intro wq hSw;go_simp<;>rfl
        try simp only [Act.put,sA,sB,sC]
        refine tkL 1 (v:=?_) rfl (by kernel_rfl) (fun _ _ _ h=>h) (by rfl) ?y8 hHeld ?_
        case y8=>intro wq hSw;(have cq:=(BPP.out.nxb n7b hSw).cell 4 _ rfl;go_simp)<;>rfl
        try simp only [Act.put,sA,sB,sC]
        refine tkL 2 (v:=?_) rfl (by kernel_rfl) (fun _ _ _ h=>h) (by rfl) ?y11 hHeld ?_
        case y11=>intro wq hSw;go_simp<;>rfl
        try simp only [Act.put,sA,sB,sC]
        refine tkL 3 (v:=?_) rfl (by kernel_rfl) (fun _ _ _ h=>h) (by rfl) ?y14 hHeld ?_
        case y14=>intro wq hSw;(have cq:=(BPP.out.nxb n7b hSw).cell 4 _ rfl;go_simp)<;>rfl
        try simp only [Act.put,sA,sB,sC]
        refine tkL 4 (v:=?_) rfl (by kernel_rfl) (fun _ _ _ h=>h) (by rfl) ?y17 hHeld ?_
        case y17=>intro wq hSw;go_simp<;>rfl
        try simp only [Act.put,sA,sB,sC]
        refine tkL 5 (v:=?_) rfl (by kernel_rfl) (fun _ _ _ h=>h) (by rfl) ?y20 hHeld ?_
        case y20=>intro wq hSw;go_simp<;>rfl
        try simp only [Act.put,sA,sB,sC]
        refine tkL 6 (v:=?_) rfl (by kernel_rfl) (fun _ _ _ h=>h) (by rfl) ?y23 hHeld ?_
        case y23=>intro wq hSw;go_simp<;>rfl
        try simp only [Act.put,sA,sB,sC]
        refine tkL 7 (v:=?_) rfl (by kernel_rfl) (fun _ _ _ h=>h) (by rfl) ?y26 hHeld ?_
        case y26=>intro wq hSw;go_simp<;>rfl
        try simp only [Act.put,sA,sB,sC]
        refine tkL 9 (v:=?_) rfl (by kernel_rfl) (fun _ _ _ h=>h) (by rfl) ?y29 hHeld ?_
        case y29=>intro wq hSw;go_simp<;>rfl
        try simp only [Act.put,sA,sB,sC]
        refine tkL 10 (v:=?_) rfl (by kernel_rfl) (fun _ _ _ h=>h) (by rfl) ?y32 hHeld ?_
        case y32=>intro wq hSw;go_simp<;>rfl
        try simp only [Act.put,sA,sB,sC]
        refine tkL 12 (v:=?_) rfl (by kernel_rfl) (fun _ _ _ h=>h) (by rfl) ?y35 hHeld ?_
        case y35=>intro wq hSw;go_simp<;>rfl
        try simp only [Act.put,sA,sB,sC]
        refine tkL 13 (v:=?_) rfl (by kernel_rfl) (fun _ _ _ h=>h) (by rfl) ?y38 hHeld ?_
        case y38=>intro wq hSw;go_simp<;>rfl
        try simp only [Act.put,sA,sB,sC]
        refine tkL 15 (v:=?_) rfl (by kernel_rfl) (fun _ _ _ h=>h) (by rfl) ?y41 hHeld ?_
        case y41=>intro wq hSw;go_simp<;>rfl
        try simp only [Act.put,sA,sB,sC]
        refine tkL 16 (v:=?_) rfl (by kernel_rfl) (fun _ _ _ h=>h) (by rfl) ?y44 hHeld ?_
        case y44=>intro wq hSw;go_simp<;>rfl
        try simp only [Act.put,sA,sB,sC]
        refine rL 8 (by kernel_rfl) rfl fun K hK=>?_
        go_simp
        (refine (id_t _ _ _ l _ (T.nx hDrew) (HS.out.nxb (KWH.out.nxb hHeld)) hna HI.out).mono ?_)
        clear T
        rintro e wq1 ⟨i1,rfl,_,T,kk⟩
        replace hHeld:=hHeld.nxb kk
        clear kk
        refine hK.out _ _ (hHeld) (fun hHeld=>?_)
        clear hK K
        try simp only [Act.put,sA,sB,sC]
        refine rL 11 (by kernel_rfl) rfl fun K hK=>?_
        go_simp
        (refine (id_t _ _ _ l _ T (HS.out.nxb (KWH.out.nxb hHeld)) hna HI.out).mono ?_)
        clear T
        rintro e wq2 ⟨i2,rfl,_,T,kk⟩
        replace hHeld:=hHeld.nxb kk
        clear kk
        refine hK.out _ _ (hHeld) (fun hHeld=>?_)
        clear hK K
        try simp only [Act.put,sA,sB,sC]
        refine rL 14 (by kernel_rfl) rfl fun K hK=>?_
        go_simp
        (refine (id_t _ _ _ l _ T (HS.out.nxb (KWH.out.nxb hHeld)) hna HI.out).mono ?_)
        clear T
        rintro e wq3 ⟨i3,rfl,_,T,kk⟩
        replace hHeld:=hHeld.nxb kk
        clear kk
        refine hK.out _ _ (hHeld) (fun hHeld=>?_)
        clear hK K
        try simp only [Act.put,sA,sB,sC]
        refine rL 17 (by kernel_rfl) rfl fun K hK=>?_
        go_simp
        (refine (id_t _ _ _ l _ T (HS.out.nxb (KWH.out.nxb hHeld)) hna HI.out).mono ?_)
        clear T
        rintro e wq ⟨i4,rfl,_,T,kk⟩
        replace hHeld:=hHeld.nxb kk
        clear kk
        refine hK.out _ _ (hHeld) (fun hHeld=>?_)
        clear hK K
        try simp only [Act.put,sA,sB,sC]
        refine tkL 18 (v:=?_) rfl (by kernel_rfl) (fun _ _ _ h=>h) (by rfl) ?y91 hHeld ?_
        case y91=>intro wq hSw;go_simp<;>rfl
        try simp only [Act.put,sA,sB,sC]
        refine rLL 19 (by kernel_rfl) rfl (by rfl) fun K hK=>?_
        go_simp
        refine hK.out _ _ ?_
        clear hK K
        try simp only [Act.put,sA,sB,sC]
        refine rLL 20 (by kernel_rfl) rfl (by rfl) fun K hK=>?_
        have N0:=NRY.out.nxb hbw hHeld
        have hy0:(nr++[((0,0,0,0):Nr)])[nr.length]?=some (0,0,0,0):=by simp
        obtain ⟨c0,c1,c2,c3,f0,f1,f2,f3,np⟩:=own_put4 N0 hy0
        go_simp
        clear c0 c1 c2 c3 f0 f1 f2 f3
        refine hK.out _ _ ?_
        clear hK K
        try simp only [Act.put,sA,sB,sC]
        refine wpAnyL_done (by kernel_rfl) ?_ _
        have NF:=np (i1,i2,i3,i4)
        obtain ⟨wv,hwv⟩:∃ wv,wv=(((wq.setCell ⟨gn,nr.length*4,none⟩ (.int .i64 i1)).setCell ⟨gn,nr.length*4+1,none⟩ (.int .i64 i2)).setCell ⟨gn,nr.length*4+1+1,none⟩ (.int .i64 i3)).setCell ⟨gn,nr.length*4+1+1+1,none⟩ (.int .i64 i4):=⟨_,rfl⟩
        rw [← hwv]
        rw [show (nr++[((0,0,0,0):Nr)]).set nr.length (i1,i2,i3,i4)=nr++[((i1,i2,i3,i4):Nr)] by simp,← hwv] at NF
        have KS:Exb gn wq wv:=by rw [hwv];exact (((((Exb.refl gn wq).setB (p:=⟨gn,nr.length*4,none⟩) _ rfl).setB (p:=⟨gn,nr.length*4+1,none⟩) _ rfl).setB (p:=⟨gn,nr.length*4+1+1,none⟩) _ rfl).setB (p:=⟨gn,nr.length*4+1+1+1,none⟩) _ rfl)
        have B7v:=(BPP.out.nxb n7b hHeld).nxb (fun h=>N0.ne_blk (BPP.out.nxb n7b hHeld) (by decide) rfl h.symm) KS
        have B6v:=(BSS.out.nxb n6b hHeld).nxb (fun h=>N0.ne_blk (BSS.out.nxb n6b hHeld) (by decide) rfl h.symm) KS
        have own8:=(own.out.nxb hbw hHeld).apart N0 (by decide) rfl KS
        have Tv:TK wv b:=by rw [hwv];exact (((T.set (p:=⟨gn,nr.length*4,none⟩) _ (show b<gn by omega)).set (p:=⟨gn,nr.length*4+1,none⟩) _ (show b<gn by omega)).set (p:=⟨gn,nr.length*4+1+1,none⟩) _ (show b<gn by omega)).set (p:=⟨gn,nr.length*4+1+1+1,none⟩) _ (show b<gn by omega)
        have KWv:Exb b w wv:=by rw [hwv];exact ((((KWH.out.nxb hHeld).setNew (p:=⟨gn,nr.length*4,none⟩) _ zgn).setNew (p:=⟨gn,nr.length*4+1,none⟩) _ zgn).setNew (p:=⟨gn,nr.length*4+1+1,none⟩) _ zgn).setNew (p:=⟨gn,nr.length*4+1+1+1,none⟩) _ zgn
        have RR:=lH (show P2Rel b g6 g7 (ht+1) r0 lf rt (A,kn.length,c) kn w (.int .i64 ((q:Int)-1)) wv from ⟨q-1,some ⟨gn,0,none⟩,_,C9,nr++[(i1,i2,i3,i4)],by rw [List.length_append,List.length_singleton];omega,by rw [show ((q-1:Nat):Int)=(q:Int)-1 by omega],B7v,B6v,own8,NF,Tv,KWv⟩)
        clear NF np KS B7v B6v own8 Tv KWv hwv N0 hHeld T
        go_wp2_with fail
        exact ⟨RR.out,by simp [intOf];omega⟩
      ·have zq:¬ (0:Int)<(q:Int):=by omega
       obtain ⟨A',C',e9,_⟩:=nrow.rd (fun _=>rfl)
       simp only [Value.slice.injEq] at e9
       obtain ⟨rfl,rfl,rfl⟩:=e9
       have p0:=B7.cell 0 _ rfl
       have p1:=B7.cell 1 _ rfl
       have p2:=B7.cell 2 _ rfl
       have p3:=B7.cell 3 _ rfl
       have p4:=B7.cell 4 _ rfl
       have s0:=B6.cell 0 _ rfl
       have s1:=B6.cell 1 _ rfl
       have s2:=B6.cell 2 _ rfl
       have s3:=B6.cell 3 _ rfl
       have s4:=B6.cell 4 _ rfl
       have f0:=B6.free 0
       have f1:=B6.free 1
       have f2:=B6.free 2
       have f3:=B6.free 3
       have f4:=B6.free 4
       have KS:Exb g6 wo (((((wo.setCell ⟨g6,0,none⟩ (.int .i64 r0)).setCell ⟨g6,1,none⟩ (.slice A kn.length c)).setCell ⟨g6,2,none⟩ (.int .i64 lf)).setCell ⟨g6,3,none⟩ (.int .i64 rt)).setCell ⟨g6,4,none⟩ (.slice A4 nr.length c4)) :=
        (((((Exb.refl g6 wo).setB (p:=⟨g6,0,none⟩) _ rfl).setB (p:=⟨g6,1,none⟩) _ rfl).setB (p:=⟨g6,2,none⟩) _ rfl).setB (p:=⟨g6,3,none⟩) _ rfl).setB (p:=⟨g6,4,none⟩) _ rfl
       have O1:=lH (own.put B6 (by decide) KS)
       have O4:=lH (nrow.put B6 (by decide) KS)
       have KV:=lH (((((KW.setNew (p:=⟨g6,0,none⟩) (.int .i64 r0) zg6).setNew (p:=⟨g6,1,none⟩) (.slice A kn.length c) zg6).setNew (p:=⟨g6,2,none⟩) (.int .i64 lf) zg6).setNew (p:=⟨g6,3,none⟩) (.int .i64 rt) zg6).setNew (p:=⟨g6,4,none⟩) (.slice A4 nr.length c4) zg6)
       have TV:=lH (((((T.set (p:=⟨g6,0,none⟩) (.int .i64 r0) zb6).set (p:=⟨g6,1,none⟩) (.slice A kn.length c) zb6).set (p:=⟨g6,2,none⟩) (.int .i64 lf) zb6).set (p:=⟨g6,3,none⟩) (.int .i64 rt) zb6).set (p:=⟨g6,4,none⟩) (.slice A4 nr.length c4) zb6)
       have hnm:nr.length≤ht+1:=by omega
       clear B6 B7 own nrow T KW KS hq hq0
       go_wp2_with fail
       refine bodyPost_ret (v:=.agg #[.int .i64 r0,.slice A kn.length c,.int .i64 lf,.int .i64 rt,.slice A4 nr.length c4]) (by simp [results,Tryz.results85,go_sem, *]) rfl ⟨⟨r0,lf,rt,kn,nr⟩,(A,kn.length,c),(A4,nr.length,c4),rfl,O1.out,O4.out,hkl,hnm,hr0.out,TV.out,KV.out⟩
   | false =>
    obtain ⟨lf,hlf⟩:∃ lf:Int,lf=0:=⟨_,rfl⟩
    replace B7:Blk w5 g7 [.int .i64 r0,.slice A kn.length c,.int .i64 lf,.int .i64 0,.slice none 0 0] 150:=by rw [hlf];exact B7
    clear hlf
    go_wp2_with fail
    (refine (bool_t 2 _ T (by omega) (by omega)).mono ?_)
    clear T
    rintro e w7 ⟨r,rfl,T,kk⟩
    replace KW:=KW.nxb kk
    replace B6:=B6.nxb n6b kk
    replace B7:=B7.nxb n7b kk
    replace own:=lH (own.out.nxb hbw kk)
    clear kk
    cases r with
    | true =>
     go_wp2_with fail
     (refine (id_t _ _ _ l _ T (HS.out.nxb KW) hna HI.out).mono ?_)
     clear T
     rintro e wa8 ⟨rt,rfl,hrt,T,kk⟩
     replace KW:=KW.nxb kk
     replace B6:=B6.nxb n6b kk
     replace B7:=B7.nxb n7b kk
     replace own:=lH (own.out.nxb hbw kk)
     clear kk hrt
     have c2:=B7.cell 3 _ rfl
     have f2:=B7.free 3
     have KS:Exb g7 wa8 (wa8.setCell ⟨g7,3,none⟩ (.int .i64 rt)):=(Exb.refl g7 wa8).setB (p:=⟨g7,3,none⟩) _ rfl
     obtain ⟨w8,hw8⟩:∃ w8,w8=wa8.setCell ⟨g7,3,none⟩ (.int .i64 rt):=⟨_,rfl⟩
     go_upto_region 10 with fail
     rw [← hw8] at KS ⊢
     replace own:=lH (own.out.put B7 (by decide) KS)
     replace B7:Blk w8 g7 [.int .i64 r0,.slice A kn.length c,.int .i64 lf,.int .i64 rt,.slice none 0 0] 150:=by rw [hw8];exact B7.set 3 _
     replace B6:=B6.nxb n67 KS
     replace T:TK w8 b:=by rw [hw8];exact T.set (p:=⟨g7,3,none⟩) _ zb7
     replace KW:Exb b w w8:=by rw [hw8];exact KW.setNew (p:=⟨g7,3,none⟩) _ zg7
     clear hw8 c2 f2 KS
     go_wp2_with fail
     refine (next_t ((ht:Int)+2) _ T (by omega) (by omega)).mono ?_
     clear T
     rintro e w9 ⟨q2,rfl,q20,q21,T,kk⟩
     obtain ⟨q2,rfl⟩:=Int.eq_ofNat_of_zero_le q20
     replace KW:=KW.nxb kk
     replace B6:=B6.nxb n6b kk
     replace B7:=B7.nxb n7b kk
     replace own:=own.out.nxb hbw kk
     clear kk
     go_wp2_with fail
     go_loopw [9] (fun i wr=>P2Rel b g6 g7 (ht+1) r0 lf rt (A,kn.length,c) kn w i wr) (fun i _=>(intOf i).toNat)
     case atStart=>exact ⟨q2,none,0,0,[],by simp;omega,rfl,B7,B6,own,OwnL.nil _ _ _ _ _,T,KW⟩
     case round =>
      clear B6 B7 T KW own
      obtain ⟨q,A4,m4,c4,nr,hq,rfl,B7,B6,own,nrow,T,KW⟩:=hrel
      simp only [Hdr.val] at B7 own
      obtain ⟨wo,rfl⟩:∃ wo:World,wo=wr:=⟨_,rfl⟩
      by_cases hq0:0<q
      ·obtain ⟨A',C',e9,_⟩:=nrow.rd (fun _=>rfl)
       simp only [Value.slice.injEq] at e9
       obtain ⟨rfl,rfl,rfl⟩:=e9
       have hnl:nr.length≤100000000:=by omega
       have zk:=KW.size
       have p4:=B7.cell 4 _ rfl
       have kl:=Ex.new wo (.cells #[.int .i64 0,.int .i64 0,.int .i64 0,.int .i64 0] 158)
       have SX:Sl 4 encNr (wo.alloc (.cells #[.int .i64 0,.int .i64 0,.int .i64 0,.int .i64 0] 158)) (some ⟨wo.heap.size,0,none⟩) 1 [((0,0,0,0):Nr)]:=Sl.lit _ rfl rfl (fun _=>rfl) rfl
       have nrk:=nrow.nx kl
       have zl:=Nat.le_trans zk kl.size
       have B7k:=B7.nx kl
       go_upto_region 14 with (at_builtin;(refine wpList_append_rq (enc:=encNr) _ rfl (.tmp 49) (.tmp 51) 148 rfl w.heap.size 158 (.agg #[.int .i64 0,.int .i64 0,.int .i64 0,.int .i64 0]) 4 32 Tryz.underlying148 Tryz.infoNr rfl (by omega) (by omega) _ nr nrk rfl _ 1 1 [((0,0,0,0):Nr)] SX (fun _=>rfl) (by simp [encNr,Value.oneCell']) rfl hnl (by omega) zl ?_);intro v9 wz own9 ch0 ch1;have hl9:(nr++[((0,0,0,0):Nr)]).length=nr.length+1:=(by simp);obtain ⟨A9,C9,e9,_,_,_,some9⟩:=own9.rd (fun _=>rfl);obtain ⟨gn,rfl,zgn⟩:=some9 (by simp);rw [hl9] at e9;subst e9;have BZ:=B7k.app nrk (by decide) ch0;have f4:=BZ.free 4;have r4:=BZ.cell 4 _ rfl)
       have KS:Exb g7 wz (wz.setCell ⟨g7,4,none⟩ (.slice (some ⟨gn,0,none⟩) (nr.length+1) C9)):=(Exb.refl g7 wz).setB (p:=⟨g7,4,none⟩) _ rfl
       obtain ⟨wy,hwy⟩:∃ wy,wy=wz.setCell ⟨g7,4,none⟩ (.slice (some ⟨gn,0,none⟩) (nr.length+1) C9):=⟨_,rfl⟩
       rw [← hwy] at KS ⊢
       have nry:=own9.put BZ (by decide) KS
       have own:=((own.nx kl).app nrk (by decide) ch0).put BZ (by decide) KS
       have B6:=((B6.nx kl).app nrk (by decide) ch0).nxb n67 KS
       have KW:Exb b w wy:=Chg.trans (Chg.trans (KW.nxb (kl.b b)) (ch1.mono (fun x hx=>hx.1))) (Chg.mono KS (fun x hx=>⟨Nat.lt_of_lt_of_le hx.1 (Nat.le_trans zl ch1.size),fun h=>by have:=hx.1;omega⟩))
       have T:TK wy b:=by rw [hwy];exact TK.set (show TK wz b from TP.chg (T.nx kl) ch1 (fun x hx=>by omega)) (p:=⟨g7,4,none⟩) _ zb7
       replace BZ:Blk wy g7 [.int .i64 r0,.slice A kn.length c,.int .i64 lf,.int .i64 rt,.slice (some ⟨gn,0,none⟩) (nr.length+1) C9] 150:=by rw [hwy];exact BZ.set 4 _
       clear hwy KS ch0 ch1 nrk nrow B7 B7k SX own9 f4 r4 p4 kl zl
       replace own:=lH own
       go_wp2_with fail
       (refine (bool_t 2 _ T (by omega) (by omega)).mono ?_)
       clear T
       rintro e w10 ⟨rb,rfl,T,kk⟩
       replace KW:=KW.nxb kk
       replace B6:=B6.nxb n6b kk
       replace BZ:=BZ.nxb n7b kk
       replace own:=lH (own.out.nxb hbw kk)
       replace nry:=nry.nxb hbw kk
       clear kk
       cases rb with
       | false =>
        have RR:=lH (show P2Rel b g6 g7 (ht+1) r0 lf rt (A,kn.length,c) kn w (.int .i64 ((q:Int)-1)) w10 from ⟨q-1,some ⟨gn,0,none⟩,_,C9,nr++[(0,0,0,0)],by rw [hl9];omega,by rw [show ((q-1:Nat):Int)=(q:Int)-1 by omega],BZ,B6,own.out,nry,T,KW⟩)
        clear BZ B6 nry T KW
        go_wp2_with fail
        exact ⟨RR.out,by simp [intOf];omega⟩
       | true =>
        have BPP:=lH BZ
        have BSS:=lH B6
        have NRY:=lH nry
        have KWH:=lH KW
        clear BZ B6 nry KW
        go_upto_region 15 with fail
        have wl1:IntKind.i64.wrap (nr.length:Int)=(nr.length:Int):=IntWalk.i64_in _ (by omega)
        have wl2:(nr.length:Int)<(nr.length:Int)+1:=by omega
        refine wp_region_late_drew (S:=Exb b w10) [19,20] (by kernel_rfl) ((Exb.refl b w10).drew) (fun hHeld=>?_)
        obtain ⟨wd,hwdx⟩:∃ wd:World,wd=World.drew w10:=⟨_,rfl⟩
        rw [← hwdx] at hHeld ⊢
        have hDrew:Ex w10 wd:=by rw [hwdx];exact (Ex.refl w10).drew
        clear hwdx
        refine tkL 0 (v:=?_) rfl (by kernel_rfl) (fun _ _ _ h=>h) (by rfl) ?y5 hHeld ?_
        case y5=>intro wq hSw;go_simp<;>rfl
        try simp only [Act.put,sA,sB,sC]
        refine tkL 1 (v:=?_) rfl (by kernel_rfl) (fun _ _ _ h=>h) (by rfl) ?y8 hHeld ?_
        case y8=>intro wq hSw;(have cq:=(BPP.out.nxb n7b hSw).cell 4 _ rfl;go_simp)<;>rfl
        try simp only [Act.put,sA,sB,sC]
        refine tkL 2 (v:=?_) rfl (by kernel_rfl) (fun _ _ _ h=>h) (by rfl) ?y11 hHeld ?_
        case y11=>intro wq hSw;go_simp<;>rfl
        try simp only [Act.put,sA,sB,sC]
        refine tkL 3 (v:=?_) rfl (by kernel_rfl) (fun _ _ _ h=>h) (by rfl) ?y14 hHeld ?_
        case y14=>intro wq hSw;(have cq:=(BPP.out.nxb n7b hSw).cell 4 _ rfl;go_simp)<;>rfl
        try simp only [Act.put,sA,sB,sC]
        refine tkL 4 (v:=?_) rfl (by kernel_rfl) (fun _ _ _ h=>h) (by rfl) ?y17 hHeld ?_
        case y17=>intro wq hSw;go_simp<;>rfl
        try simp only [Act.put,sA,sB,sC]
        refine tkL 5 (v:=?_) rfl (by kernel_rfl) (fun _ _ _ h=>h) (by rfl) ?y20 hHeld ?_
        case y20=>intro wq hSw;go_simp<;>rfl
        try simp only [Act.put,sA,sB,sC]
        refine tkL 6 (v:=?_) rfl (by kernel_rfl) (fun _ _ _ h=>h) (by rfl) ?y23 hHeld ?_
        case y23=>intro wq hSw;go_simp<;>rfl
        try simp only [Act.put,sA,sB,sC]
        refine tkL 7 (v:=?_) rfl (by kernel_rfl) (fun _ _ _ h=>h) (by rfl) ?y26 hHeld ?_
        case y26=>intro wq hSw;go_simp<;>rfl
        try simp only [Act.put,sA,sB,sC]
        refine tkL 9 (v:=?_) rfl (by kernel_rfl) (fun _ _ _ h=>h) (by rfl) ?y29 hHeld ?_
        case y29=>intro wq hSw;go_simp<;>rfl
        try simp only [Act.put,sA,sB,sC]
        refine tkL 10 (v:=?_) rfl (by kernel_rfl) (fun _ _ _ h=>h) (by rfl) ?y32 hHeld ?_
        case y32=>intro wq hSw;go_simp<;>rfl
        try simp only [Act.put,sA,sB,sC]
        refine tkL 12 (v:=?_) rfl (by kernel_rfl) (fun _ _ _ h=>h) (by rfl) ?y35 hHeld ?_
        case y35=>intro wq hSw;go_simp<;>rfl
        try simp only [Act.put,sA,sB,sC]
        refine tkL 13 (v:=?_) rfl (by kernel_rfl) (fun _ _ _ h=>h) (by rfl) ?y38 hHeld ?_
        case y38=>intro wq hSw;go_simp<;>rfl
        try simp only [Act.put,sA,sB,sC]
        refine tkL 15 (v:=?_) rfl (by kernel_rfl) (fun _ _ _ h=>h) (by rfl) ?y41 hHeld ?_
        case y41=>intro wq hSw;go_simp<;>rfl
        try simp only [Act.put,sA,sB,sC]
        refine tkL 16 (v:=?_) rfl (by kernel_rfl) (fun _ _ _ h=>h) (by rfl) ?y44 hHeld ?_
        case y44=>intro wq hSw;go_simp<;>rfl
        try simp only [Act.put,sA,sB,sC]
        refine rL 8 (by kernel_rfl) rfl fun K hK=>?_
        go_simp
        (refine (id_t _ _ _ l _ (T.nx hDrew) (HS.out.nxb (KWH.out.nxb hHeld)) hna HI.out).mono ?_)
        clear T
        rintro e wq1 ⟨i1,rfl,_,T,kk⟩
        replace hHeld:=hHeld.nxb kk
        clear kk
        refine hK.out _ _ (hHeld) (fun hHeld=>?_)
        clear hK K
        try simp only [Act.put,sA,sB,sC]
        refine rL 11 (by kernel_rfl) rfl fun K hK=>?_
        go_simp
        (refine (id_t _ _ _ l _ T (HS.out.nxb (KWH.out.nxb hHeld)) hna HI.out).mono ?_)
        clear T
        rintro e wq2 ⟨i2,rfl,_,T,kk⟩
        replace hHeld:=hHeld.nxb kk
        clear kk
        refine hK.out _ _ (hHeld) (fun hHeld=>?_)
        clear hK K
        try simp only [Act.put,sA,sB,sC]
        refine rL 14 (by kernel_rfl) rfl fun K hK=>?_
        go_simp
        (refine (id_t _ _ _ l _ T (HS.out.nxb (KWH.out.nxb hHeld)) hna HI.out).mono ?_)
        clear T
        rintro e wq3 ⟨i3,rfl,_,T,kk⟩
        replace hHeld:=hHeld.nxb kk
        clear kk
        refine hK.out _ _ (hHeld) (fun hHeld=>?_)
        clear hK K
        try simp only [Act.put,sA,sB,sC]
        refine rL 17 (by kernel_rfl) rfl fun K hK=>?_
        go_simp
        (refine (id_t _ _ _ l _ T (HS.out.nxb (KWH.out.nxb hHeld)) hna HI.out).mono ?_)
        clear T
        rintro e wq ⟨i4,rfl,_,T,kk⟩
        replace hHeld:=hHeld.nxb kk
        clear kk
        refine hK.out _ _ (hHeld) (fun hHeld=>?_)
        clear hK K
        try simp only [Act.put,sA,sB,sC]
        refine tkL 18 (v:=?_) rfl (by kernel_rfl) (fun _ _ _ h=>h) (by rfl) ?y91 hHeld ?_
        case y91=>intro wq hSw;go_simp<;>rfl
        try simp only [Act.put,sA,sB,sC]
        refine rLL 19 (by kernel_rfl) rfl (by rfl) fun K hK=>?_
        go_simp
        refine hK.out _ _ ?_
        clear hK K
        try simp only [Act.put,sA,sB,sC]
        refine rLL 20 (by kernel_rfl) rfl (by rfl) fun K hK=>?_
        have N0:=NRY.out.nxb hbw hHeld
        have hy0:(nr++[((0,0,0,0):Nr)])[nr.length]?=some (0,0,0,0):=by simp
        obtain ⟨c0,c1,c2,c3,f0,f1,f2,f3,np⟩:=own_put4 N0 hy0
        go_simp
        clear c0 c1 c2 c3 f0 f1 f2 f3
        refine hK.out _ _ ?_
        clear hK K
        try simp only [Act.put,sA,sB,sC]
        refine wpAnyL_done (by kernel_rfl) ?_ _
        have NF:=np (i1,i2,i3,i4)
        obtain ⟨wv,hwv⟩:∃ wv,wv=(((wq.setCell ⟨gn,nr.length*4,none⟩ (.int .i64 i1)).setCell ⟨gn,nr.length*4+1,none⟩ (.int .i64 i2)).setCell ⟨gn,nr.length*4+1+1,none⟩ (.int .i64 i3)).setCell ⟨gn,nr.length*4+1+1+1,none⟩ (.int .i64 i4):=⟨_,rfl⟩
        rw [← hwv]
        rw [show (nr++[((0,0,0,0):Nr)]).set nr.length (i1,i2,i3,i4)=nr++[((i1,i2,i3,i4):Nr)] by simp,← hwv] at NF
        have KS:Exb gn wq wv:=by rw [hwv];exact (((((Exb.refl gn wq).setB (p:=⟨gn,nr.length*4,none⟩) _ rfl).setB (p:=⟨gn,nr.length*4+1,none⟩) _ rfl).setB (p:=⟨gn,nr.length*4+1+1,none⟩) _ rfl).setB (p:=⟨gn,nr.length*4+1+1+1,none⟩) _ rfl)
        have B7v:=(BPP.out.nxb n7b hHeld).nxb (fun h=>N0.ne_blk (BPP.out.nxb n7b hHeld) (by decide) rfl h.symm) KS
        have B6v:=(BSS.out.nxb n6b hHeld).nxb (fun h=>N0.ne_blk (BSS.out.nxb n6b hHeld) (by decide) rfl h.symm) KS
        have own8:=(own.out.nxb hbw hHeld).apart N0 (by decide) rfl KS
        have Tv:TK wv b:=by rw [hwv];exact (((T.set (p:=⟨gn,nr.length*4,none⟩) _ (show b<gn by omega)).set (p:=⟨gn,nr.length*4+1,none⟩) _ (show b<gn by omega)).set (p:=⟨gn,nr.length*4+1+1,none⟩) _ (show b<gn by omega)).set (p:=⟨gn,nr.length*4+1+1+1,none⟩) _ (show b<gn by omega)
        have KWv:Exb b w wv:=by rw [hwv];exact ((((KWH.out.nxb hHeld).setNew (p:=⟨gn,nr.length*4,none⟩) _ zgn).setNew (p:=⟨gn,nr.length*4+1,none⟩) _ zgn).setNew (p:=⟨gn,nr.length*4+1+1,none⟩) _ zgn).setNew (p:=⟨gn,nr.length*4+1+1+1,none⟩) _ zgn
        have RR:=lH (show P2Rel b g6 g7 (ht+1) r0 lf rt (A,kn.length,c) kn w (.int .i64 ((q:Int)-1)) wv from ⟨q-1,some ⟨gn,0,none⟩,_,C9,nr++[(i1,i2,i3,i4)],by rw [List.length_append,List.length_singleton];omega,by rw [show ((q-1:Nat):Int)=(q:Int)-1 by omega],B7v,B6v,own8,NF,Tv,KWv⟩)
        clear NF np KS B7v B6v own8 Tv KWv hwv N0 hHeld T
        go_wp2_with fail
        exact ⟨RR.out,by simp [intOf];omega⟩
      ·have zq:¬ (0:Int)<(q:Int):=by omega
       obtain ⟨A',C',e9,_⟩:=nrow.rd (fun _=>rfl)
       simp only [Value.slice.injEq] at e9
       obtain ⟨rfl,rfl,rfl⟩:=e9
       have p0:=B7.cell 0 _ rfl
       have p1:=B7.cell 1 _ rfl
       have p2:=B7.cell 2 _ rfl
       have p3:=B7.cell 3 _ rfl
       have p4:=B7.cell 4 _ rfl
       have s0:=B6.cell 0 _ rfl
       have s1:=B6.cell 1 _ rfl
       have s2:=B6.cell 2 _ rfl
       have s3:=B6.cell 3 _ rfl
       have s4:=B6.cell 4 _ rfl
       have f0:=B6.free 0
       have f1:=B6.free 1
       have f2:=B6.free 2
       have f3:=B6.free 3
       have f4:=B6.free 4
       have KS:Exb g6 wo (((((wo.setCell ⟨g6,0,none⟩ (.int .i64 r0)).setCell ⟨g6,1,none⟩ (.slice A kn.length c)).setCell ⟨g6,2,none⟩ (.int .i64 lf)).setCell ⟨g6,3,none⟩ (.int .i64 rt)).setCell ⟨g6,4,none⟩ (.slice A4 nr.length c4)) :=
        (((((Exb.refl g6 wo).setB (p:=⟨g6,0,none⟩) _ rfl).setB (p:=⟨g6,1,none⟩) _ rfl).setB (p:=⟨g6,2,none⟩) _ rfl).setB (p:=⟨g6,3,none⟩) _ rfl).setB (p:=⟨g6,4,none⟩) _ rfl
       have O1:=lH (own.put B6 (by decide) KS)
       have O4:=lH (nrow.put B6 (by decide) KS)
       have KV:=lH (((((KW.setNew (p:=⟨g6,0,none⟩) (.int .i64 r0) zg6).setNew (p:=⟨g6,1,none⟩) (.slice A kn.length c) zg6).setNew (p:=⟨g6,2,none⟩) (.int .i64 lf) zg6).setNew (p:=⟨g6,3,none⟩) (.int .i64 rt) zg6).setNew (p:=⟨g6,4,none⟩) (.slice A4 nr.length c4) zg6)
       have TV:=lH (((((T.set (p:=⟨g6,0,none⟩) (.int .i64 r0) zb6).set (p:=⟨g6,1,none⟩) (.slice A kn.length c) zb6).set (p:=⟨g6,2,none⟩) (.int .i64 lf) zb6).set (p:=⟨g6,3,none⟩) (.int .i64 rt) zb6).set (p:=⟨g6,4,none⟩) (.slice A4 nr.length c4) zb6)
       have hnm:nr.length≤ht+1:=by omega
       clear B6 B7 own nrow T KW KS hq hq0
       go_wp2_with fail
       refine bodyPost_ret (v:=.agg #[.int .i64 r0,.slice A kn.length c,.int .i64 lf,.int .i64 rt,.slice A4 nr.length c4]) (by simp [results,Tryz.results85,go_sem, *]) rfl ⟨⟨r0,lf,rt,kn,nr⟩,(A,kn.length,c),(A4,nr.length,c4),rfl,O1.out,O4.out,hkl,hnm,hr0.out,TV.out,KV.out⟩
    | false =>
     obtain ⟨rt,hrt⟩:∃ rt:Int,rt=0:=⟨_,rfl⟩
     replace B7:Blk w7 g7 [.int .i64 r0,.slice A kn.length c,.int .i64 lf,.int .i64 rt,.slice none 0 0] 150:=by rw [hrt];exact B7
     clear hrt
     go_wp2_with fail
     refine (next_t ((ht:Int)+2) _ T (by omega) (by omega)).mono ?_
     clear T
     rintro e w9 ⟨q2,rfl,q20,q21,T,kk⟩
     obtain ⟨q2,rfl⟩:=Int.eq_ofNat_of_zero_le q20
     replace KW:=KW.nxb kk
     replace B6:=B6.nxb n6b kk
     replace B7:=B7.nxb n7b kk
     replace own:=own.out.nxb hbw kk
     clear kk
     go_wp2_with fail
     go_loopw [9] (fun i wr=>P2Rel b g6 g7 (ht+1) r0 lf rt (A,kn.length,c) kn w i wr) (fun i _=>(intOf i).toNat)
     case atStart=>exact ⟨q2,none,0,0,[],by simp;omega,rfl,B7,B6,own,OwnL.nil _ _ _ _ _,T,KW⟩
     case round =>
      clear B6 B7 T KW own
      obtain ⟨q,A4,m4,c4,nr,hq,rfl,B7,B6,own,nrow,T,KW⟩:=hrel
      simp only [Hdr.val] at B7 own
      obtain ⟨wo,rfl⟩:∃ wo:World,wo=wr:=⟨_,rfl⟩
      by_cases hq0:0<q
      ·obtain ⟨A',C',e9,_⟩:=nrow.rd (fun _=>rfl)
       simp only [Value.slice.injEq] at e9
       obtain ⟨rfl,rfl,rfl⟩:=e9
       have hnl:nr.length≤100000000:=by omega
       have zk:=KW.size
       have p4:=B7.cell 4 _ rfl
       have kl:=Ex.new wo (.cells #[.int .i64 0,.int .i64 0,.int .i64 0,.int .i64 0] 158)
       have SX:Sl 4 encNr (wo.alloc (.cells #[.int .i64 0,.int .i64 0,.int .i64 0,.int .i64 0] 158)) (some ⟨wo.heap.size,0,none⟩) 1 [((0,0,0,0):Nr)]:=Sl.lit _ rfl rfl (fun _=>rfl) rfl
       have nrk:=nrow.nx kl
       have zl:=Nat.le_trans zk kl.size
       have B7k:=B7.nx kl
       go_upto_region 14 with (at_builtin;(refine wpList_append_rq (enc:=encNr) _ rfl (.tmp 49) (.tmp 51) 148 rfl w.heap.size 158 (.agg #[.int .i64 0,.int .i64 0,.int .i64 0,.int .i64 0]) 4 32 Tryz.underlying148 Tryz.infoNr rfl (by omega) (by omega) _ nr nrk rfl _ 1 1 [((0,0,0,0):Nr)] SX (fun _=>rfl) (by simp [encNr,Value.oneCell']) rfl hnl (by omega) zl ?_);intro v9 wz own9 ch0 ch1;have hl9:(nr++[((0,0,0,0):Nr)]).length=nr.length+1:=(by simp);obtain ⟨A9,C9,e9,_,_,_,some9⟩:=own9.rd (fun _=>rfl);obtain ⟨gn,rfl,zgn⟩:=some9 (by simp);rw [hl9] at e9;subst e9;have BZ:=B7k.app nrk (by decide) ch0;have f4:=BZ.free 4;have r4:=BZ.cell 4 _ rfl)
       have KS:Exb g7 wz (wz.setCell ⟨g7,4,none⟩ (.slice (some ⟨gn,0,none⟩) (nr.length+1) C9)):=(Exb.refl g7 wz).setB (p:=⟨g7,4,none⟩) _ rfl
       obtain ⟨wy,hwy⟩:∃ wy,wy=wz.setCell ⟨g7,4,none⟩ (.slice (some ⟨gn,0,none⟩) (nr.length+1) C9):=⟨_,rfl⟩
       rw [← hwy] at KS ⊢
       have nry:=own9.put BZ (by decide) KS
       have own:=((own.nx kl).app nrk (by decide) ch0).put BZ (by decide) KS
       have B6:=((B6.nx kl).app nrk (by decide) ch0).nxb n67 KS
       have KW:Exb b w wy:=Chg.trans (Chg.trans (KW.nxb (kl.b b)) (ch1.mono (fun x hx=>hx.1))) (Chg.mono KS (fun x hx=>⟨Nat.lt_of_lt_of_le hx.1 (Nat.le_trans zl ch1.size),fun h=>by have:=hx.1;omega⟩))
       have T:TK wy b:=by rw [hwy];exact TK.set (show TK wz b from TP.chg (T.nx kl) ch1 (fun x hx=>by omega)) (p:=⟨g7,4,none⟩) _ zb7
       replace BZ:Blk wy g7 [.int .i64 r0,.slice A kn.length c,.int .i64 lf,.int .i64 rt,.slice (some ⟨gn,0,none⟩) (nr.length+1) C9] 150:=by rw [hwy];exact BZ.set 4 _
       clear hwy KS ch0 ch1 nrk nrow B7 B7k SX own9 f4 r4 p4 kl zl
       replace own:=lH own
       go_wp2_with fail
       (refine (bool_t 2 _ T (by omega) (by omega)).mono ?_)
       clear T
       rintro e w10 ⟨rb,rfl,T,kk⟩
       replace KW:=KW.nxb kk
       replace B6:=B6.nxb n6b kk
       replace BZ:=BZ.nxb n7b kk
       replace own:=lH (own.out.nxb hbw kk)
       replace nry:=nry.nxb hbw kk
       clear kk
       cases rb with
       | false =>
        have RR:=lH (show P2Rel b g6 g7 (ht+1) r0 lf rt (A,kn.length,c) kn w (.int .i64 ((q:Int)-1)) w10 from ⟨q-1,some ⟨gn,0,none⟩,_,C9,nr++[(0,0,0,0)],by rw [hl9];omega,by rw [show ((q-1:Nat):Int)=(q:Int)-1 by omega],BZ,B6,own.out,nry,T,KW⟩)
        clear BZ B6 nry T KW
        go_wp2_with fail
        exact ⟨RR.out,by simp [intOf];omega⟩
       | true =>
        have BPP:=lH BZ
        have BSS:=lH B6
        have NRY:=lH nry
        have KWH:=lH KW
        clear BZ B6 nry KW
        go_upto_region 15 with fail
        have wl1:IntKind.i64.wrap (nr.length:Int)=(nr.length:Int):=IntWalk.i64_in _ (by omega)
        have wl2:(nr.length:Int)<(nr.length:Int)+1:=by omega
        refine wp_region_late_drew (S:=Exb b w10) [19,20] (by kernel_rfl) ((Exb.refl b w10).drew) (fun hHeld=>?_)
        obtain ⟨wd,hwdx⟩:∃ wd:World,wd=World.drew w10:=⟨_,rfl⟩
        rw [← hwdx] at hHeld ⊢
        have hDrew:Ex w10 wd:=by rw [hwdx];exact (Ex.refl w10).drew
        clear hwdx
        refine tkL 0 (v:=?_) rfl (by kernel_rfl) (fun _ _ _ h=>h) (by rfl) ?y5 hHeld ?_
        case y5=>intro wq hSw;go_simp<;>rfl
        try simp only [Act.put,sA,sB,sC]
        refine tkL 1 (v:=?_) rfl (by kernel_rfl) (fun _ _ _ h=>h) (by rfl) ?y8 hHeld ?_
        case y8=>intro wq hSw;(have cq:=(BPP.out.nxb n7b hSw).cell 4 _ rfl;go_simp)<;>rfl
        try simp only [Act.put,sA,sB,sC]
        refine tkL 2 (v:=?_) rfl (by kernel_rfl) (fun _ _ _ h=>h) (by rfl) ?y11 hHeld ?_
        case y11=>intro wq hSw;go_simp<;>rfl
        try simp only [Act.put,sA,sB,sC]
        refine tkL 3 (v:=?_) rfl (by kernel_rfl) (fun _ _ _ h=>h) (by rfl) ?y14 hHeld ?_
        case y14=>intro wq hSw;(have cq:=(BPP.out.nxb n7b hSw).cell 4 _ rfl;go_simp)<;>rfl
        try simp only [Act.put,sA,sB,sC]
        refine tkL 4 (v:=?_) rfl (by kernel_rfl) (fun _ _ _ h=>h) (by rfl) ?y17 hHeld ?_
        case y17=>intro wq hSw;go_simp<;>rfl
        try simp only [Act.put,sA,sB,sC]
        refine tkL 5 (v:=?_) rfl (by kernel_rfl) (fun _ _ _ h=>h) (by rfl) ?y20 hHeld ?_
        case y20=>intro wq hSw;go_simp<;>rfl
        try simp only [Act.put,sA,sB,sC]
        refine tkL 6 (v:=?_) rfl (by kernel_rfl) (fun _ _ _ h=>h) (by rfl) ?y23 hHeld ?_
        case y23=>intro wq hSw;go_simp<;>rfl
        try simp only [Act.put,sA,sB,sC]
        refine tkL 7 (v:=?_) rfl (by kernel_rfl) (fun _ _ _ h=>h) (by rfl) ?y26 hHeld ?_
        case y26=>intro wq hSw;go_simp<;>rfl
        try simp only [Act.put,sA,sB,sC]
        refine tkL 9 (v:=?_) rfl (by kernel_rfl) (fun _ _ _ h=>h) (by rfl) ?y29 hHeld ?_
        case y29=>intro wq hSw;go_simp<;>rfl
        try simp only [Act.put,sA,sB,sC]
        refine tkL 10 (v:=?_) rfl (by kernel_rfl) (fun _ _ _ h=>h) (by rfl) ?y32 hHeld ?_
        case y32=>intro wq hSw;go_simp<;>rfl
        try simp only [Act.put,sA,sB,sC]
        refine tkL 12 (v:=?_) rfl (by kernel_rfl) (fun _ _ _ h=>h) (by rfl) ?y35 hHeld ?_
        case y35=>intro wq hSw;go_simp<;>rfl
        try simp only [Act.put,sA,sB,sC]
        refine tkL 13 (v:=?_) rfl (by kernel_rfl) (fun _ _ _ h=>h) (by rfl) ?y38 hHeld ?_
        case y38=>intro wq hSw;go_simp<;>rfl
        try simp only [Act.put,sA,sB,sC]
        refine tkL 15 (v:=?_) rfl (by kernel_rfl) (fun _ _ _ h=>h) (by rfl) ?y41 hHeld ?_
        case y41=>intro wq hSw;go_simp<;>rfl
        try simp only [Act.put,sA,sB,sC]
        refine tkL 16 (v:=?_) rfl (by kernel_rfl) (fun _ _ _ h=>h) (by rfl) ?y44 hHeld ?_
        case y44=>intro wq hSw;go_simp<;>rfl
        try simp only [Act.put,sA,sB,sC]
        refine rL 8 (by kernel_rfl) rfl fun K hK=>?_
        go_simp
        (refine (id_t _ _ _ l _ (T.nx hDrew) (HS.out.nxb (KWH.out.nxb hHeld)) hna HI.out).mono ?_)
        clear T
        rintro e wq1 ⟨i1,rfl,_,T,kk⟩
        replace hHeld:=hHeld.nxb kk
        clear kk
        refine hK.out _ _ (hHeld) (fun hHeld=>?_)
        clear hK K
        try simp only [Act.put,sA,sB,sC]
        refine rL 11 (by kernel_rfl) rfl fun K hK=>?_
        go_simp
        (refine (id_t _ _ _ l _ T (HS.out.nxb (KWH.out.nxb hHeld)) hna HI.out).mono ?_)
        clear T
        rintro e wq2 ⟨i2,rfl,_,T,kk⟩
        replace hHeld:=hHeld.nxb kk
        clear kk
        refine hK.out _ _ (hHeld) (fun hHeld=>?_)
        clear hK K
        try simp only [Act.put,sA,sB,sC]
        refine rL 14 (by kernel_rfl) rfl fun K hK=>?_
        go_simp
        (refine (id_t _ _ _ l _ T (HS.out.nxb (KWH.out.nxb hHeld)) hna HI.out).mono ?_)
        clear T
        rintro e wq3 ⟨i3,rfl,_,T,kk⟩
        replace hHeld:=hHeld.nxb kk
        clear kk
        refine hK.out _ _ (hHeld) (fun hHeld=>?_)
        clear hK K
        try simp only [Act.put,sA,sB,sC]
        refine rL 17 (by kernel_rfl) rfl fun K hK=>?_
        go_simp
        (refine (id_t _ _ _ l _ T (HS.out.nxb (KWH.out.nxb hHeld)) hna HI.out).mono ?_)
        clear T
        rintro e wq ⟨i4,rfl,_,T,kk⟩
        replace hHeld:=hHeld.nxb kk
        clear kk
        refine hK.out _ _ (hHeld) (fun hHeld=>?_)
        clear hK K
        try simp only [Act.put,sA,sB,sC]
        refine tkL 18 (v:=?_) rfl (by kernel_rfl) (fun _ _ _ h=>h) (by rfl) ?y91 hHeld ?_
        case y91=>intro wq hSw;go_simp<;>rfl
        try simp only [Act.put,sA,sB,sC]
        refine rLL 19 (by kernel_rfl) rfl (by rfl) fun K hK=>?_
        go_simp
        refine hK.out _ _ ?_
        clear hK K
        try simp only [Act.put,sA,sB,sC]
        refine rLL 20 (by kernel_rfl) rfl (by rfl) fun K hK=>?_
        have N0:=NRY.out.nxb hbw hHeld
        have hy0:(nr++[((0,0,0,0):Nr)])[nr.length]?=some (0,0,0,0):=by simp
        obtain ⟨c0,c1,c2,c3,f0,f1,f2,f3,np⟩:=own_put4 N0 hy0
        go_simp
        clear c0 c1 c2 c3 f0 f1 f2 f3
        refine hK.out _ _ ?_
        clear hK K
        try simp only [Act.put,sA,sB,sC]
        refine wpAnyL_done (by kernel_rfl) ?_ _
        have NF:=np (i1,i2,i3,i4)
        obtain ⟨wv,hwv⟩:∃ wv,wv=(((wq.setCell ⟨gn,nr.length*4,none⟩ (.int .i64 i1)).setCell ⟨gn,nr.length*4+1,none⟩ (.int .i64 i2)).setCell ⟨gn,nr.length*4+1+1,none⟩ (.int .i64 i3)).setCell ⟨gn,nr.length*4+1+1+1,none⟩ (.int .i64 i4):=⟨_,rfl⟩
        rw [← hwv]
        rw [show (nr++[((0,0,0,0):Nr)]).set nr.length (i1,i2,i3,i4)=nr++[((i1,i2,i3,i4):Nr)] by simp,← hwv] at NF
        have KS:Exb gn wq wv:=by rw [hwv];exact (((((Exb.refl gn wq).setB (p:=⟨gn,nr.length*4,none⟩) _ rfl).setB (p:=⟨gn,nr.length*4+1,none⟩) _ rfl).setB (p:=⟨gn,nr.length*4+1+1,none⟩) _ rfl).setB (p:=⟨gn,nr.length*4+1+1+1,none⟩) _ rfl)
        have B7v:=(BPP.out.nxb n7b hHeld).nxb (fun h=>N0.ne_blk (BPP.out.nxb n7b hHeld) (by decide) rfl h.symm) KS
        have B6v:=(BSS.out.nxb n6b hHeld).nxb (fun h=>N0.ne_blk (BSS.out.nxb n6b hHeld) (by decide) rfl h.symm) KS
        have own8:=(own.out.nxb hbw hHeld).apart N0 (by decide) rfl KS
        have Tv:TK wv b:=by rw [hwv];exact (((T.set (p:=⟨gn,nr.length*4,none⟩) _ (show b<gn by omega)).set (p:=⟨gn,nr.length*4+1,none⟩) _ (show b<gn by omega)).set (p:=⟨gn,nr.length*4+1+1,none⟩) _ (show b<gn by omega)).set (p:=⟨gn,nr.length*4+1+1+1,none⟩) _ (show b<gn by omega)
        have KWv:Exb b w wv:=by rw [hwv];exact ((((KWH.out.nxb hHeld).setNew (p:=⟨gn,nr.length*4,none⟩) _ zgn).setNew (p:=⟨gn,nr.length*4+1,none⟩) _ zgn).setNew (p:=⟨gn,nr.length*4+1+1,none⟩) _ zgn).setNew (p:=⟨gn,nr.length*4+1+1+1,none⟩) _ zgn
        have RR:=lH (show P2Rel b g6 g7 (ht+1) r0 lf rt (A,kn.length,c) kn w (.int .i64 ((q:Int)-1)) wv from ⟨q-1,some ⟨gn,0,none⟩,_,C9,nr++[(i1,i2,i3,i4)],by rw [List.length_append,List.length_singleton];omega,by rw [show ((q-1:Nat):Int)=(q:Int)-1 by omega],B7v,B6v,own8,NF,Tv,KWv⟩)
        clear NF np KS B7v B6v own8 Tv KWv hwv N0 hHeld T
        go_wp2_with fail
        exact ⟨RR.out,by simp [intOf];omega⟩
      ·have zq:¬ (0:Int)<(q:Int):=by omega
       obtain ⟨A',C',e9,_⟩:=nrow.rd (fun _=>rfl)
       simp only [Value.slice.injEq] at e9
       obtain ⟨rfl,rfl,rfl⟩:=e9
       have p0:=B7.cell 0 _ rfl
       have p1:=B7.cell 1 _ rfl
       have p2:=B7.cell 2 _ rfl
       have p3:=B7.cell 3 _ rfl
       have p4:=B7.cell 4 _ rfl
       have s0:=B6.cell 0 _ rfl
       have s1:=B6.cell 1 _ rfl
       have s2:=B6.cell 2 _ rfl
       have s3:=B6.cell 3 _ rfl
       have s4:=B6.cell 4 _ rfl
       have f0:=B6.free 0
       have f1:=B6.free 1
       have f2:=B6.free 2
       have f3:=B6.free 3
       have f4:=B6.free 4
       have KS:Exb g6 wo (((((wo.setCell ⟨g6,0,none⟩ (.int .i64 r0)).setCell ⟨g6,1,none⟩ (.slice A kn.length c)).setCell ⟨g6,2,none⟩ (.int .i64 lf)).setCell ⟨g6,3,none⟩ (.int .i64 rt)).setCell ⟨g6,4,none⟩ (.slice A4 nr.length c4)) :=
        (((((Exb.refl g6 wo).setB (p:=⟨g6,0,none⟩) _ rfl).setB (p:=⟨g6,1,none⟩) _ rfl).setB (p:=⟨g6,2,none⟩) _ rfl).setB (p:=⟨g6,3,none⟩) _ rfl).setB (p:=⟨g6,4,none⟩) _ rfl
       have O1:=lH (own.put B6 (by decide) KS)
       have O4:=lH (nrow.put B6 (by decide) KS)
       have KV:=lH (((((KW.setNew (p:=⟨g6,0,none⟩) (.int .i64 r0) zg6).setNew (p:=⟨g6,1,none⟩) (.slice A kn.length c) zg6).setNew (p:=⟨g6,2,none⟩) (.int .i64 lf) zg6).setNew (p:=⟨g6,3,none⟩) (.int .i64 rt) zg6).setNew (p:=⟨g6,4,none⟩) (.slice A4 nr.length c4) zg6)
       have TV:=lH (((((T.set (p:=⟨g6,0,none⟩) (.int .i64 r0) zb6).set (p:=⟨g6,1,none⟩) (.slice A kn.length c) zb6).set (p:=⟨g6,2,none⟩) (.int .i64 lf) zb6).set (p:=⟨g6,3,none⟩) (.int .i64 rt) zb6).set (p:=⟨g6,4,none⟩) (.slice A4 nr.length c4) zb6)
       have hnm:nr.length≤ht+1:=by omega
       clear B6 B7 own nrow T KW KS hq hq0
       go_wp2_with fail
       refine bodyPost_ret (v:=.agg #[.int .i64 r0,.slice A kn.length c,.int .i64 lf,.int .i64 rt,.slice A4 nr.length c4]) (by simp [results,Tryz.results85,go_sem, *]) rfl ⟨⟨r0,lf,rt,kn,nr⟩,(A,kn.length,c),(A4,nr.length,c4),rfl,O1.out,O4.out,hkl,hnm,hr0.out,TV.out,KV.out⟩
end Go.Proofs.YthcholmhmcpooaaGreatDoor
