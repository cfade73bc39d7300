/- Texts for FlightStepsProof. -/
import Derived.Test.YtalmjklljofhbaaGreatDoorFlightStepsProofL11
import Derived.Test.YtalmjklljofhbaaGreatDoorFlightStepsProofL39
import Derived.Test.YtalmjklljofhbaaGreatDoorFlightStepsProofL40
set_option linter.unusedSimpArgs false
set_option linter.unusedVariables false

namespace Go.Proofs.YtalmjklljofhbaaGreatDoor
open Go.RowKit
theorem Blk.appW {α:Type} {sz e base g:Nat} {enc:α→List Value} {w w':World} {v:Value} {l:List α} {cs:List Value} {ty:TypeId} (B:Blk w g cs ty) (own:OwnW sz enc e base w v l) (hne:e≠ty) (k:Chg (fun k=>k<w.heap.size∧¬ v.ownBlock=some k) w w'):Blk w' g cs ty :=
 (Chg.block k g ⟨B.lt,fun hv=>by
  obtain ⟨_,c,hc⟩:=own.blk hv
  exact blk_kind hne hc B⟩).trans B
theorem OwnL.appW {α β:Type} {sz sz' e e' base base':Nat} {enc:α→List Value} {enc':β→List Value} {w w':World} {v v':Value} {l:List α} {l':List β} (o:OwnL sz enc e base w v l) (own:OwnW sz' enc' e' base' w v' l') (hne:e≠e') (k:Chg (fun k=>k<w.heap.size∧¬ v'.ownBlock=some k) w w'):OwnL sz enc e base w' v l :=
 o.chg k fun x hx hv=>⟨hx,fun hv'=>by
  obtain ⟨_,c1,h1⟩:=o.blk hv
  obtain ⟨_,c2,h2⟩:=own.blk hv'
  exact blk_kind hne h1 h2⟩
theorem nrm_few {N:List Nd} {P:List Pr} {m M:Nat} (h:FewQ m M P):FewQ m M (normalN N P):=by
 intro q hq
 unfold normalN at hq
 split at hq
 ·obtain ⟨x,_,rfl⟩:=List.mem_map.1 hq
  unfold peerN
  cases hf:P.find? fun p=>p.id==x.id with
  | none=>exact ⟨Nat.zero_le _,Nat.zero_le _⟩
  | some q=>exact h q (List.mem_of_find?_eq_some hf)
 ·cases hq
theorem nrm_len (N:List Nd) (P:List Pr):(normalN N P).length≤N.length:=by
 unfold normalN
 split
 ·rw [List.length_map,sortN_length];exact Nat.le_refl _
 ·exact Nat.zero_le _
theorem fewP_R {m:Nat} {P:List Pr} (h:FewP m P) (hm:m≤1000):FewR P:=fun p hp=>by have:=h p hp;omega
theorem FewR.snoc {P:List Pr} {p:Pr} (h:FewR P) (h1:p.known.length≤1000000) (h2:p.near.length≤1000000):FewR (P++[p]):=fun x hx=>by
 rcases List.mem_append.1 hx with h3 | h3
 ·exact h x h3
 ·rw [List.mem_singleton.1 h3];exact ⟨h1,h2⟩
theorem pick_b {b s n:Nat} (lo hi:Int) (l:List Int) {cs:List Value} (w:World) (h:TK w b) (B:Blk w s cs 3) (hcs:cs=l.map (Value.int .i64)) (hb:b<s) (hl:l.length=n) (hl0:0<n) (hl2:n≤100) (hr:∀ x∈l,lo≤x∧x≤hi) :
  Calls Tryz.prog 16 #[.pointer (some ⟨b,0,none⟩),.slice (some ⟨s,0,none⟩) n n] w fun e w'=>∃ r:Int,e=.returned (.int .i64 r)∧lo≤r∧r≤hi∧TK w' b∧Exb b w w':=by
 subst hcs
 refine (pick_x (so:=0) lo hi l w h (by omega) B.lt hl hl0 hl2 (fun j hj=>?_) hr).mono ?_
 ·rw [Nat.zero_add]
  refine B.cell j _ ?_
  rw [List.getElem?_map,List.getD_eq_getElem?_getD,List.getElem?_eq_getElem (by omega)]
  rfl
 ·rintro e w' ⟨r,rfl,r0,r1,k,t⟩
  exact ⟨r,rfl,r0,r1,t,k⟩
theorem litI4 (u:World) (a c d e:Int):∃ g v,g=u.heap.size∧v=u.alloc (.cells #[.int .i64 a,.int .i64 c,.int .i64 d,.int .i64 e] 3)∧Blk v g [.int .i64 a,.int .i64 c,.int .i64 d,.int .i64 e] 3∧Ex u v :=
 ⟨_,_,rfl,rfl,Blk.new _ _ _,Ex.new _ _⟩
def Few19 (P:List Pr):Prop:=∀ p∈P,p.known.length≤20∧p.near.length≤20
theorem Few19.r {P:List Pr} (h:Few19 P):FewR P:=fun p hp=>by have:=h p hp;omega
def Sm9Post (P:List Pr) (w:World) (e:Ending) (w':World):Prop:=∃ b:Bool,e=.returned (.bool b)∧(b=true→Few19 P)∧Ex w w'
def Sm9Rel (P:List Pr) (n:Nat) (w:World) (i:Value) (wr:World):Prop:=∃ k:Nat,k≤n∧i=.int .i64 k∧(∀ j p,j<k→P[j]?=some p→p.known.length≤20∧p.near.length≤20)∧Ex w wr
set_option maxRecDepth 100000 in
set_option maxHeartbeats 2000000 in
theorem small19_x (a:Option Addr) (n c:Nat) (P:List Pr) (w:World) (h:PL w a n P) (hn:n≤1000) :
  Calls Tryz.prog 18 #[.slice a n c] w (Sm9Post P w):=by
 have HL:=lH h.len
 have H:=lH h
 clear h
 go_enter Tryz.func18,Tryz.ntmps18
 go_wp2_with fail
 go_loopw [3] (fun i wr=>Sm9Rel P n w i wr) (fun i _=>n-(intOf i).toNat)
 case atStart=>exact ⟨0,by omega,rfl,(fun j p h=>by omega),Ex.refl _⟩
 case round =>
  obtain ⟨k,hk,rfl,hall,ki⟩:=hrel
  obtain ⟨wi,rfl⟩:∃ wi:World,wi=wr:=⟨_,rfl⟩
  have HA:=lH hall
  clear hall
  by_cases hkn:k<n
  ·obtain ⟨x5,o5,b1,m1,d1,b4,m4,d4,y,rfl,hx5,hy,e0,e1,e2,e3,e4,s1,s4⟩:=(H.out.nx ki).rd hkn
   have HY:=lH hy
   have l1:=lH s1.len
   have l4:=lH s4.len
   have e4':wi.cell? ⟨x5,o5+k*5+4,none⟩=some (.slice b4 m4 d4):=by simpa [Nat.add_assoc] using e4
   have KI:=lH ki
   have hkc:(k:Int)<(n:Int):=by omega
   clear hy s1 s4 ki hx5 e0 e2 e3 e4
   by_cases q1:m1>20
   ·have g1:(m1:Int)>20:=by omega
    have g2:(20:Int)<(m1:Int):=by omega
    clear q1
    go_wp2_with fail
    go_ret
    exact ⟨false,rfl,(fun h=>by cases h),KI.out⟩
   by_cases q4:m4>20
   ·have g1:¬ (m1:Int)>20:=by omega
    have g2:¬ (20:Int)<(m1:Int):=by omega
    have g3:(m4:Int)>20:=by omega
    have g4:(20:Int)<(m4:Int):=by omega
    clear q1 q4
    go_wp2_with fail
    go_ret
    exact ⟨false,rfl,(fun h=>by cases h),KI.out⟩
   have g1:¬ (m1:Int)>20:=by omega
   have g2:¬ (20:Int)<(m1:Int):=by omega
   have g3:¬ (m4:Int)>20:=by omega
   have g4:¬ (20:Int)<(m4:Int):=by omega
   have FN:Hid (Sm9Rel P n w (.int .i64 ((k:Int)+1)) wi):=lH ⟨k+1,by omega,by go_num,(fun j p hj hp=>by
    rcases Nat.lt_or_ge j k with h | h
    ·exact HA.out j p h hp
    ·obtain rfl:j=k:=by omega
     rw [HY.out] at hp
     cases hp
     have:=l1.out
     have:=l4.out
     omega),KI.out⟩
   clear q1 q4
   go_wp2_with fail
   exact ⟨FN.out,by simp [intOf];omega⟩
  ·obtain rfl:k=n:=by omega
   have FN:Hid (Sm9Post P w (.returned (.bool true)) wi):=lH ⟨true,rfl,(fun _=>fun p hp=>by
    obtain ⟨j,hj⟩:=List.mem_iff_getElem?.1 hp
    exact HA.out j p (by have:=(List.getElem?_eq_some_iff.1 hj).1;have:=HL.out;omega) hj),ki⟩
   clear ki
   go_wp2_with fail
   go_ret
   exact FN.out
def FsX (b:Nat) (w1:World) (s9:Value) (wx:World):Prop :=
 ∃ (a:Option Addr) (n c:Nat) (LZ:List Nd),s9=.slice a n c∧Slb 3 encN b wx a n LZ∧n≤100∧n≤c∧c≤maxLen∧(∀ x∈LZ,x.word<4294967296∧I64 x.id)∧TK wx b∧Exb b w1 wx
def FsB (b:Nat) (w1:World) (v:Value) (wx:World):Prop:=∃ β:Bool,v=.bool β∧TK wx b∧Exb b w1 wx
set_option maxRecDepth 100000 in
set_option maxHeartbeats 16000000 in
theorem flightsteps_walk (a1:Option Addr) (n1 c1:Nat) (l1:List Int) (a2:Option Addr) (n2 c2:Nat) (l2:List Nd) (a3:Option Addr) (n3 c3:Nat) (P3:List Pr) (a4:Option Addr) (n4 c4:Nat) (M4:List (Int×Int)) (id m hh:Int) (a5:Option Addr) (n5 c5:Nat) (O5:List Int) (w:World) (h1:Sl 1 encI w a1 n1 l1) (hc1:n1≤c1) (hm1:c1≤maxLen)
  (h2:Sl 3 encN w a2 n2 l2) (hc2:n2≤c2) (hm2:c2≤maxLen) (hw2:∀ x∈l2,x.word<4294967296) (h3:PL w a3 n3 P3) (h4:Sl 2 encS w a4 n4 M4) (h5:Sl 1 encI w a5 n5 O5) (hc5:n5≤c5) (hm5:c5≤maxLen) (hL:LetG w) :
  Calls Tryz.prog 3 #[.slice a1 n1 c1,.slice a2 n2 c2,.agg #[.slice a3 n3 c3,.slice a4 n4 c4],.int .i64 id,.int .i64 m,.int .i64 hh,.slice a5 n5 c5] w fun e w'=>e=.returned (.bool true)∧Ex w w':=by
 have B9:=Blk.new w [.slice a3 n3 c3,.slice a4 n4 c4] 27
 have kk:=Ex.new w (.cells #[.slice a3 n3 c3,.slice a4 n4 c4] 27)
 obtain ⟨w0,hw0⟩:∃ w0,w0=w.alloc (.cells #[.slice a3 n3 c3,.slice a4 n4 c4] 27):=⟨_,rfl⟩
 obtain ⟨g9,hg9⟩:∃ g9,g9=w.heap.size:=⟨_,rfl⟩
 replace B9:Blk w0 g9 [.slice a3 n3 c3,.slice a4 n4 c4] 27:=by rw [hw0,hg9];exact B9
 rw [← hw0] at kk
 have Hw0:=lH hw0
 have Hg9:=lH hg9
 replace h1:=h1.nx kk
 replace h2:=h2.nx kk
 replace h3:=h3.nx kk
 replace h4:=h4.nx kk
 replace h5:=h5.nx kk
 replace hL:=hL.nx kk
 have K0:=lH kk
 have hl9:=B9.lt
 clear kk hw0 hg9
 go_enter Tryz.func3,Tryz.ntmps3
 go_upto_region 1 with fail
 rw [← Hg9.out,← Hw0.out]
 clear Hg9 Hw0
 go_wp2_with fail
 refine (new_t _ _ _ l1 _ h1 hc1 hm1).mono ?_
 rintro e w1 ⟨rfl,T,kk,z1⟩
 obtain ⟨b,hb⟩:∃ b,b=w0.heap.size:=⟨_,rfl⟩
 rw [← hb] at T ⊢
 have hgl:¬ 0=b:=by have:=hL.lt;omega
 have h9b:¬ g9=b:=by omega
 have L1:Hid (LetG w1):=lH (hL.nx kk)
 have QL:Hid (Exl b w w1):=lH ⟨K0.out.nx kk,by have:=K0.out.size;omega⟩
 have S1:Hid (Slb 3 encN b w1 a2 n2 l2):=lH ((h2.slb (by omega)).nxb (kk.b b))
 have P1:Hid (PLb b w1 a3 n3 P3):=lH ((h3.plb (by omega)).nxb (kk.b b))
 have M1:Hid (Slb 2 encS b w1 a4 n4 M4):=lH ((h4.slb (by omega)).nxb (kk.b b))
 have O1:Hid (Slb 1 encI b w1 a5 n5 O5):=lH ((h5.slb (by omega)).nxb (kk.b b))
 have B9H:=lH (B9.nx kk)
 have HW2:=lH hw2
 clear h1 h2 h3 h4 h5 hL kk hb z1 hw2 B9 K0 hl9
 go_wp2_with fail
 go_loopw [16] (fun i wr=>CtRel b 3 w1 i wr) (fun i _=>3-(intOf i).toNat)
 case atStart=>exact ⟨0,by omega,rfl,Exb.refl _ _,T⟩
 case round =>
  clear T
  obtain ⟨k,hk,rfl,kw,T⟩:=hrel
  obtain ⟨wo,rfl⟩:∃ wo:World,wo=wr:=⟨_,rfl⟩
  by_cases hlt:k<3
  case neg =>
   obtain rfl:k=3:=by omega
   have QX:=lH (QL.out.nxb kw).1
   have SA:=lH (S1.out.nxb kw).sl
   have PA:=lH (P1.out.nxb kw).pl
   have MA:=lH (M1.out.nxb kw).sl
   have OA:=lH (O1.out.nxb kw).sl
   have B9K:=lH (B9H.out.nxb h9b kw)
   have q0:=B9K.out.cell 0 _ rfl
   have q1:=B9K.out.cell 1 _ rfl
   clear hk hlt kw T
   have SANE:Hid (∀ wq,Ex wo wq→Calls Tryz.prog 19 #[] wq fun e w'=>e=.returned (.bool true)∧Ex wq w'):=lH (fun wq kq=>sane19_x wq)
   by_cases gn2:n2>6
   ·have d1:(n2:Int)>6:=by omega
    have d2:(6:Int)<(n2:Int):=by omega
    clear gn2
    go_wp2_with fail
    (with_reducible refine (SANE.out _ (Ex.refl _)).mono ?_)
    rintro e wz ⟨rfl,kk⟩
    replace QX:=lH (QX.out.nx kk)
    clear kk
    go_wp2_with fail
    go_ret
    exact ⟨rfl,QX.out⟩
   have dn2:¬ (n2:Int)>6:=by omega
   have en2:¬ (6:Int)<(n2:Int):=by omega
   by_cases gn3:n3>10
   ·have d1:(n3:Int)>10:=by omega
    have d2:(10:Int)<(n3:Int):=by omega
    clear gn3
    go_wp2_with fail
    (with_reducible refine (SANE.out _ (Ex.refl _)).mono ?_)
    rintro e wz ⟨rfl,kk⟩
    replace QX:=lH (QX.out.nx kk)
    clear kk
    go_wp2_with fail
    go_ret
    exact ⟨rfl,QX.out⟩
   have dn3:¬ (n3:Int)>10:=by omega
   have en3:¬ (10:Int)<(n3:Int):=by omega
   by_cases gn4:n4>30
   ·have d1:(n4:Int)>30:=by omega
    have d2:(30:Int)<(n4:Int):=by omega
    clear gn4
    go_wp2_with fail
    (with_reducible refine (SANE.out _ (Ex.refl _)).mono ?_)
    rintro e wz ⟨rfl,kk⟩
    replace QX:=lH (QX.out.nx kk)
    clear kk
    go_wp2_with fail
    go_ret
    exact ⟨rfl,QX.out⟩
   have dn4:¬ (n4:Int)>30:=by omega
   have en4:¬ (30:Int)<(n4:Int):=by omega
   by_cases gn5:n5>100
   ·have d1:(n5:Int)>100:=by omega
    have d2:(100:Int)<(n5:Int):=by omega
    clear gn5
    go_wp2_with fail
    (with_reducible refine (SANE.out _ (Ex.refl _)).mono ?_)
    rintro e wz ⟨rfl,kk⟩
    replace QX:=lH (QX.out.nx kk)
    clear kk
    go_wp2_with fail
    go_ret
    exact ⟨rfl,QX.out⟩
   have dn5:¬ (n5:Int)>100:=by omega
   have en5:¬ (100:Int)<(n5:Int):=by omega
   go_wp2_with fail
   (with_reducible refine (small19_x _ _ _ P3 _ PA.out (by omega)).mono ?_)
   rintro e w5 ⟨β,rfl,hβ,kk⟩
   have HB:=lH hβ
   replace QX:=lH (QX.out.nx kk)
   have K5:=lH kk
   clear hβ kk q0 q1
   have q0:=(B9K.out.nx K5.out).cell 0 _ rfl
   have q1:=(B9K.out.nx K5.out).cell 1 _ rfl
   cases β with
   | false =>
    go_wp2_with fail
    (with_reducible refine (SANE.out _ K5.out).mono ?_)
    rintro e wz ⟨rfl,kk⟩
    replace QX:=lH (QX.out.nx kk)
    clear kk
    go_wp2_with fail
    go_ret
    exact ⟨rfl,QX.out⟩
   | true =>
    have FW:=lH (HB.out rfl)
    go_wp2_with fail
    (with_reducible refine (agrees19_x _ _ _ l2 _ _ _ P3 _ _ _ M4 _ _ _ _ _ _ O5 _ (SA.out.nx K5.out) (by omega) hc2 hm2 HW2.out (PA.out.nx K5.out) (by omega) FW.out.r (MA.out.nx K5.out) (by omega) (OA.out.nx K5.out) hc5 hm5).mono ?_)
    rintro e w6 ⟨rfl,kk⟩
    replace QX:=lH (QX.out.nx kk)
    replace K5:=lH (K5.out.nx kk)
    clear kk q0 q1
    go_wp2_with fail
    (with_reducible refine (SANE.out _ K5.out).mono ?_)
    rintro e wz ⟨rfl,kk⟩
    replace QX:=lH (QX.out.nx kk)
    clear kk
    go_wp2_with fail
    go_ret
    exact ⟨rfl,QX.out⟩
  have hbo:=T.lt
  go_wp2_with fail
  refine (roster_t 6 _ T (L1.out.nxb hgl kw) hgl (by omega) (by omega)).mono ?_
  clear T
  rintro e x1 ⟨v1,LX,rfl,R⟩
  replace kw:=kw.nxb R.k
  have T:=R.tape
  obtain ⟨aX,cX,rfl,SX,hcX,hmX,hnX⟩:=R.own.slf (fun _=>rfl)
  have SX:=SX.slb hbo
  have RL:=R.len
  have RN:=lH (roster_ok R.ok)
  have XW:=lH (fun x hx=>(⟨(RN.out x hx).1.2.1,(RN.out x hx).1.1⟩:_∧_))
  have XI:=lH (fun x hx=>(RN.out x hx).1.1)
  have XO:=lH (fun x hx=>(RN.out x hx).1)
  clear R
  go_wp2_with fail
  refine (next_t 3 _ T (by omega) (by omega)).mono ?_
  clear T
  rintro e x2 ⟨gg,rfl,hh0,hh1,T,kk⟩
  replace kw:=kw.nxb kk
  replace SX:=SX.nxb kk
  clear kk
  obtain ⟨ht,rfl⟩:∃ t:Nat,gg=t:=⟨gg.toNat,by omega⟩
  have hb2:=T.lt
  go_wp2_with fail
  refine (peers_t ht _ _ _ _ _ T SX (by omega) XI.out (by omega)).mono ?_
  clear T
  rintro e x3 ⟨v3,qs0,PX,rfl,RP⟩
  replace kw:=kw.nxb RP.k
  replace SX:=SX.nxb RP.k
  have KW3:=lH kw
  have SX3:=lH SX
  clear kw
  have T:=RP.tape
  have hPl:=RP.len
  have hPf:=lH (fewP_R RP.few (by omega))
  obtain ⟨aP0,cP0,rfl,PB⟩:=RP.own.pls
  have PB:PLb b x3 aP0 PX.length PX:=PB.plb (fun x hx=>⟨hx.2,by omega⟩)
  have hb3:=T.lt
  clear RP
  go_wp2_with fail
  refine (made_x _ _ _ LX _ _ _ PX _ T SX (by omega) XI.out PB (by omega) hPf.out.small).mono ?_
  clear T PB
  rintro e x4 ⟨vP,vM,qs,M,rfl,FO,hM4,T,kk⟩
  have z34:=kk.size
  have K34:=lH kk
  clear kk SX
  have FN:Hid (FewR (normalN LX PX)):=lH (nrm_few hPf.out)
  have hNl:(normalN LX PX).length≤6:=by have:=nrm_len LX PX;omega
  generalize normalN LX PX=PN at FO FN hNl
  obtain ⟨aP,cP,aM,cM,rfl,rfl⟩:=FO.msl
  replace FO:FlOwn x3.heap.size x4 (.slice aP PN.length cP) (.slice aM M.length cM) qs ⟨PN,M⟩:=FO
  have hqs:qs.length=PN.length:=FO.1.2.1
  have B19:=Blk.new x4 [.slice aP PN.length cP,.slice aM M.length cM] 27
  have kk:=Ex.new x4 (.cells #[.slice aP PN.length cP,.slice aM M.length cM] 27)
  obtain ⟨x5,hx5⟩:∃ x5,x5=x4.alloc (.cells #[.slice aP PN.length cP,.slice aM M.length cM] 27):=⟨_,rfl⟩
  obtain ⟨g19,hg19⟩:∃ g19,g19=x4.heap.size:=⟨_,rfl⟩
  replace B19:Blk x5 g19 [.slice aP PN.length cP,.slice aM M.length cM] 27:=by rw [hx5,hg19];exact B19
  rw [← hx5] at kk
  have Hx5:=lH hx5
  have Hg19:=lH hg19
  replace T:=T.nx kk
  replace FO:=FO.nx kk
  have K35:Hid (Exb b x3 x5):=lH (K34.out.nxb (kk.b b))
  have zx3:x3.heap.size≤g19:=by omega
  have hb19:¬ g19=b:=by omega
  have hb4:b<g19:=by have:=T.lt;omega
  have z35:x3.heap.size≤x5.heap.size:=by have:=kk.size;omega
  clear kk hx5 hg19 K34
  go_upto_region 7 with fail
  rw [← Hg19.out,← Hx5.out]
  clear Hg19 Hx5
  have SXH:=lH (SX3.out.nxb K35.out)
  have TH:=lH T
  have FOH:=lH FO
  have B19H:=lH B19
  have hl19:=B19.lt
  clear T FO B19
  refine wp_region_late_drew (S:=Exb b x5) [7,9] (by kernel_rfl) ((Exb.refl b x5).drew) (fun hHeld=>?_)
  obtain ⟨wd,hwdx⟩:∃ wd:World,wd=World.drew x5:=⟨_,rfl⟩
  rw [← hwdx] at hHeld ⊢
  have hDrew:Ex x5 wd:=by rw [hwdx];exact (Ex.refl x5).drew
  clear hwdx
  refine tkL 0 (v:=?_) rfl (by kernel_rfl) (fun _ _ _ h=>h) (by rfl) ?y5 hHeld ?_
  case y5=>intro wq hSw;go_simp<;>rfl
  try simp only [Act.put,sA,sB,sC]
  refine tkL 1 (v:=?_) rfl (by kernel_rfl) (fun _ _ _ h=>h) (by rfl) ?y8 hHeld ?_
  case y8=>intro wq hSw;(have cq:=(B19H.out.nxb hb19 hSw).cell 0 _ rfl;go_simp)<;>rfl
  try simp only [Act.put,sA,sB,sC]
  refine tkL 2 (v:=?_) rfl (by kernel_rfl) (fun _ _ _ h=>h) (by rfl) ?y11 hHeld ?_
  case y11=>intro wq hSw;go_simp<;>rfl
  try simp only [Act.put,sA,sB,sC]
  refine tkL 3 (v:=?_) rfl (by kernel_rfl) (fun _ _ _ h=>h) (by rfl) ?y14 hHeld ?_
  case y14=>intro wq hSw;go_simp<;>rfl
  try simp only [Act.put,sA,sB,sC]
  refine tkL 4 (v:=?_) rfl (by kernel_rfl) (fun _ _ _ h=>h) (by rfl) ?y17 hHeld ?_
  case y17=>intro wq hSw;go_simp<;>rfl
  try simp only [Act.put,sA,sB,sC]
  refine rL 5 (by kernel_rfl) rfl fun K hK=>?_
  go_simp
  have zd:=hDrew.size
  refine (peer_t ht _ _ _ LX _ (TH.out.nx hDrew) (SXH.out.nxb hHeld) (by omega) XI.out (by omega)).mono ?_
  rintro e wa ⟨p,⟨A1,m1,e1⟩,⟨A4,m4,e4⟩,rfl,D⟩
  have own2:=D.ok
  have own5:=D.on
  have TD:=D.tape
  have dl:Hid (p.known.length≤3∧p.near.length≤ht+1):=lH ⟨D.lk,D.ln⟩
  replace hHeld:=hHeld.nxb D.k
  simp only [Hdr.val]
  clear D
  refine hK.out _ _ (hHeld) (fun hHeld=>?_)
  clear hK K
  try simp only [Act.put,sA,sB,sC]
  refine rL 6 (by kernel_rfl) rfl fun K hK=>?_
  go_simp
  obtain ⟨gx,wq,hgx,hwq,SL,kk⟩:=litQ wa p (A1,m1,e1) (A4,m4,e4)
  simp only [Hdr.val] at hwq
  rw [← hgx,← hwq]
  clear hgx hwq
  replace own2:=own2.nx kk
  replace own5:=own5.nx kk
  replace TD:=TD.nx kk
  replace hHeld:=hHeld.nxb (kk.b b)
  clear kk
  refine hK.out _ _ (hHeld) (fun hHeld=>?_)
  clear hK K
  try simp only [Act.put,sA,sB,sC]
  refine rLL 7 (by kernel_rfl) rfl (by rfl) fun K hK=>?_
  rw [if_pos (by rfl)]
  have OQ:=FOH.out.1.nxb hb3 hHeld
  have OM:=FOH.out.2.nxb hb3 hHeld
  have BQ:=B19H.out.nxb hb19 hHeld
  have O0:=FOH.out.1.nx hDrew
  have zb:x3.heap.size≤wd.heap.size:=by omega
  have zn:x3.heap.size≤wq.heap.size:=by have:=hHeld.size;omega
  refine wp_append_W (enc:=encQ) _ (.tmp 38) (.tmp 43) 24 rfl x3.heap.size 36 (.agg #[.int .i64 0,.slice none 0 0,.int .i64 0,.int .i64 0,.slice none 0 0]) 5 72 Tryz.underlying24 Tryz.infoPr rfl (by omega) (by omega) _ qs OQ.row rfl _ 1 1 [(p.nums,(A1,m1,e1),(A4,m4,e4))] SL encQ_len encQ_one rfl (by omega) (by omega) zn ?_
  intro v9 w9 own9 ch0 ch1 _
  have O9:=O0.app2 (by decide) (by decide) zb OQ own2 own5 own9 ch0
  obtain ⟨PQ,hPQ⟩:∃ PQ,PQ=PN++[p]:=⟨_,rfl⟩
  rw [← hPQ] at O9
  have HPQ:=lH hPQ
  clear hPQ
  have O9:=lH O9
  have M9:=lH (OwnL.appW OM OQ.row (by decide) ch0)
  have B9Q:=BQ.appW OQ.row (by decide) ch0
  have T9:=lH (TP.chg TD ch1 (fun x hx=>by omega))
  have K9:=lH (show Exb b x3 w9 from Chg.trans (K35.out.nxb hHeld) (ch1.mono (fun x hx=>hx.1)))
  obtain ⟨a9,cp9,rfl,_⟩:=O9.out.pl
  have c9:=B9Q.cell 0 _ rfl
  have f9:=B9Q.free 0
  have B9Q:=lH B9Q
  clear own9 ch0 ch1 own2 own5 OQ OM BQ O0 SL TD zb zn zd
  refine hK.out _ _ ?_
  clear hK K
  try simp only [Act.put,sA,sB,sC]
  refine wpAnyL_takeP (i:=8) (oi:=⟨_,_,_,_,_,_⟩) (v:=?_) rfl (by kernel_rfl) (by kernel_rfl) (by kernel_rfl) (fun _ _ _ h=>h) (Or.inl ⟨by rfl,?y80⟩) ?_
  case y80=>intro wq hSw;go_simp<;>rfl
  try simp only [Act.put,sA,sB,sC]
  refine rLL 9 (by kernel_rfl) rfl (by rfl) fun K hK=>?_
  go_simp
  refine hK.out _ _ ?_
  clear hK K
  try simp only [Act.put,sA,sB,sC]
  refine wpAnyL_done (by kernel_rfl) ?_ _
  clear c9 f9 hHeld hDrew
  have HF:Hid (FewR PQ):=lH (by rw [HPQ.out];exact FN.out.snoc (by have:=dl.out;omega) (by have:=dl.out;omega))
  have hPQl:PQ.length≤7:=by rw [HPQ.out,List.length_append];simp;omega
  generalize qs++[(p.nums,(A1,m1,e1),(A4,m4,e4))]=qz at O9
  obtain ⟨x6,hx6⟩:∃ x6,x6=w9.setCell ⟨g19,0,none⟩ (.slice a9 PQ.length cp9):=⟨_,rfl⟩
  rw [← hx6]
  have KB:Exb g19 w9 x6:=by rw [hx6];exact (Exb.refl g19 _).setB (p:=⟨g19,0,none⟩) _ rfl
  have FO6:Hid (FlOwn x3.heap.size x6 (.slice a9 PQ.length cp9) (.slice aM M.length cM) qz ⟨PQ,M⟩):=lH ⟨O9.out.putB B9Q.out (by decide) (by decide) (by decide) KB,OwnL.put M9.out B9Q.out (by decide) KB⟩
  have B6:Hid (Blk x6 g19 [.slice a9 PQ.length cp9,.slice aM M.length cM] 27):=lH (by rw [hx6];exact B9Q.out.set 0 _)
  have T:TK x6 b:=by rw [hx6];exact TK.set T9.out _ (by show b<g19;omega)
  have K36:Exb b x3 x6:=by rw [hx6];exact Exb.setNew (p:=⟨g19,0,none⟩) K9.out _ zx3
  have SX6:=lH (SX3.out.nxb K36)
  have KW6:=lH (KW3.out.nxb K36)
  clear hx6 KB O9 M9 B9Q T9 K9 B19H FOH TH SXH K36 K35 SX3 KW3 FN dl
  go_upto_region 8 with fail
  go_cut [51] from 46 to 71 (fun v wx=>FsB b x6 v wx)
  case first =>
   by_cases hk2:k=2
   ·subst hk2
    go_wp2_with fail
    refine (bool_t 2 _ T (by omega) (by omega)).mono ?_
    clear T
    rintro e y1 ⟨rb,rfl,T,kk⟩
    have CUT:=lH (show FsB b x6 (.bool rb) y1 from ⟨rb,rfl,T,kk⟩)
    clear T kk
    go_wp2_with fail
    go_meet
    exact CUT.out
   ·have d1:((k:Int)==2)=false:=by simp;omega
    have CUT:=lH (show FsB b x6 (.bool false) x6 from ⟨false,rfl,T,Exb.refl _ _⟩)
    clear T hk2
    go_wp2_with fail
    go_meet
    exact CUT.out
  case rest =>
   rename World=>x7
   obtain ⟨β,rfl,T7,k7⟩:=hcut
   clear T
   have T7H:=lH T7
   have K7:=lH k7
   have SX7:=SX6.out.nxb k7
   have L7:=lH (L1.out.nxb hgl (KW6.out.nxb k7))
   have hb7:=T7.lt
   clear T7 k7
   go_upto_if 51 with fail
   go_cut [17] from 52 to 71 (fun s9 wx=>FsX b x6 s9 wx)
   case first =>
    cases β with
    | true =>
     go_wp2_with fail
     refine (oddroster_t _ _ _ _ _ T7H.out SX7 hnX (by omega) XO.out L7.out hgl).mono ?_
     rintro e x8 ⟨v8,LO,rfl,O⟩
     obtain ⟨aO,cO,rfl,SO,hcO,hmO,_⟩:=O.own.slf (fun _=>rfl)
     have OL:=O.len
     have CUT:=lH (show FsX b x6 (.slice aO LO.length cO) x8 from ⟨aO,_,cO,LO,rfl,SO.slb hb7,by omega,hcO,hmO,fun x hx=>⟨(O.ok x hx).2.1,(O.ok x hx).1⟩,O.tape,K7.out.nxb O.k⟩)
     clear O SO SX7
     go_wp2_with fail
     go_meet
     exact CUT.out
    | false =>
     have CUT:=lH (show FsX b x6 (.slice aX LX.length cX) x7 from ⟨aX,_,cX,LX,rfl,SX7,by omega,hcX,hmX,XW.out,T7H.out,K7.out⟩)
     clear SX7
     go_wp2_with fail
     go_meet
     exact CUT.out
   case rest =>
    clear SX7 T7H K7 L7
    rename World=>x8
    obtain ⟨aZ,nZ,cZ,LZ,rfl,SZ,hnZ,hcZ,hmZ,ZZ,T8,k8⟩:=hcut
    have SZ:=lH SZ
    have T8H:=lH T8
    have ZW:Hid (∀ x∈LZ,x.word<4294967296):=lH (fun x hx=>(ZZ x hx).1)
    have ZI:Hid (∀ x∈LZ,I64 x.id):=lH (fun x hx=>(ZZ x hx).2)
    have KW8:=lH (KW6.out.nxb k8)
    have B8:=lH (B6.out.nxb hb19 k8)
    have FO8:=lH (FO6.out.nxb hb3 k8)
    have hb8:=T8.lt
    clear k8 T8 ZZ SX6 KW6 B6 FO6
    go_upto_region 10 with fail
    refine wp_region_held_drew (S:=(fun x=>Exb b x8 x∧TK x b)) (by kernel_rfl) (⟨(Exb.refl b x8).drew,TK.nx T8H.out (Ex.refl x8).drew⟩) (fun hHeld=>?_)
    obtain ⟨wd,hwdx⟩:∃ wd:World,wd=World.drew x8:=⟨_,rfl⟩
    rw [← hwdx] at hHeld ⊢
    have hDrew:Ex x8 wd:=by rw [hwdx];exact (Ex.refl x8).drew
    clear hwdx
    refine tkH 0 (v:=?_) rfl (by kernel_rfl) (fun _ _ _ h=>h) (by rfl) ?y5 hHeld ?_
    case y5=>intro wq hSw;go_simp<;>rfl
    try simp only [Act.put,sA,sB,sC]
    refine tkH 1 (v:=?_) rfl (by kernel_rfl) (fun _ _ _ h=>h) (by rfl) ?y8 hHeld ?_
    case y8=>intro wq hSw;(have cq0:=(B8.out.nxb hb19 hSw.1).cell 0 _ rfl;have cq1:=(B8.out.nxb hb19 hSw.1).cell 1 _ rfl;go_simp)<;>rfl
    try simp only [Act.put,sA,sB,sC]
    refine tkH 2 (v:=?_) rfl (by kernel_rfl) (fun _ _ _ h=>h) (by rfl) ?y11 hHeld ?_
    case y11=>intro wq hSw;go_simp<;>rfl
    try simp only [Act.put,sA,sB,sC]
    refine tkH 3 (v:=?_) rfl (by kernel_rfl) (fun _ _ _ h=>h) (by rfl) ?y14 hHeld ?_
    case y14=>intro wq hSw;go_simp<;>rfl
    try simp only [Act.put,sA,sB,sC]
    refine tkH 5 (v:=?_) rfl (by kernel_rfl) (fun _ _ _ h=>h) (by rfl) ?y17 hHeld ?_
    case y17=>intro wq hSw;go_simp<;>rfl
    try simp only [Act.put,sA,sB,sC]
    refine tkH 8 (v:=?_) rfl (by kernel_rfl) (fun _ _ _ h=>h) (by rfl) ?y20 hHeld ?_
    case y20=>intro wq hSw;go_simp<;>rfl
    try simp only [Act.put,sA,sB,sC]
    refine tkH 9 (v:=?_) rfl (by kernel_rfl) (fun _ _ _ h=>h) (by rfl) ?y23 hHeld ?_
    case y23=>intro wq hSw;go_simp<;>rfl
    try simp only [Act.put,sA,sB,sC]
    refine tkH 10 (v:=?_) rfl (by kernel_rfl) (fun _ _ _ h=>h) (by rfl) ?y26 hHeld ?_
    case y26=>intro wq hSw;go_simp<;>rfl
    try simp only [Act.put,sA,sB,sC]
    refine tkH 13 (v:=?_) rfl (by kernel_rfl) (fun _ _ _ h=>h) (by rfl) ?y29 hHeld ?_
    case y29=>intro wq hSw;go_simp<;>rfl
    try simp only [Act.put,sA,sB,sC]
    refine wpAnyH_ready (rs:=[4,11]) (by kernel_rfl) (by simp) ?_
    refine AllReadyH.cons (o:=⟨_,_,_,_,_,_⟩) rfl (fun K hK=>?_) ?_
    ·go_simp
     (refine (id_t _ _ _ LZ _ hHeld.2 (SZ.out.nxb hHeld.1) (by omega) ZI.out).mono ?_)
     rintro e wa ⟨rI,rfl,hrI,T,kk⟩
     (try replace BL:=BL.nxb hbL kk)
     replace hHeld:=And.intro (hHeld.1.nxb kk) T
     clear kk T
     refine hK.out _ _ (hHeld) (fun hHeld=>?_)
     clear hK K
     try simp only [Act.put,sA,sB,sC]
     refine wpAnyH_ready (rs:=[6,11]) (by kernel_rfl) (by simp) ?_
     refine AllReadyH.cons (o:=⟨_,_,_,_,_,_⟩) rfl (fun K hK=>?_) ?_
     ·go_simp
      (refine (next_t 7 _ hHeld.2 (by omega) (by omega)).mono ?_)
      rintro e wc ⟨d7,rfl,d70,d71,T,kk⟩
      (try replace BL:=BL.nxb hbL kk)
      replace hHeld:=And.intro (hHeld.1.nxb kk) T
      clear kk T
      refine hK.out _ _ (hHeld) (fun hHeld=>?_)
      clear hK K
      try simp only [Act.put,sA,sB,sC]
      refine tkH 7 (v:=?_) rfl (by kernel_rfl) (fun _ _ _ h=>h) (by rfl) ?y54 hHeld ?_
      case y54=>intro wq hSw;go_simp<;>rfl
      try simp only [Act.put,sA,sB,sC]
      refine rH 11 (by kernel_rfl) rfl fun K hK=>?_
      go_simp
      have zL:=hHeld.2.lt
      obtain ⟨gL,wl,hgL,hwl,BL,kk⟩:=litI4 _ (ht:Int) (ht:Int) (-1) 17
      rw [← hgL,← hwl]
      have hbL:¬ gL=b:=by omega
      have hbL2:b<gL:=by omega
      clear hgL hwl zL
      replace hHeld:=And.intro (hHeld.1.nxb (kk.b b)) (hHeld.2.nx kk)
      clear kk
      refine hK.out _ _ (hHeld) (fun hHeld=>?_)
      clear hK K
      try simp only [Act.put,sA,sB,sC]
      refine rH 12 (by kernel_rfl) rfl fun K hK=>?_
      go_simp
      (refine (pick_b (n:=4) (-1) 17 [(ht:Int),(ht:Int),-1,17] _ hHeld.2 BL rfl hbL2 rfl (by omega) (by omega) (by intro x hx;simp at hx;omega)).mono ?_)
      rintro e wp ⟨hr,rfl,hr0,hr1,T,kk⟩
      replace hHeld:=And.intro (hHeld.1.nxb kk) T
      clear kk T BL
      refine hK.out _ _ (hHeld) (fun hHeld=>?_)
      clear hK K
      try simp only [Act.put,sA,sB,sC]
      refine rH 14 (by kernel_rfl) rfl fun K hK=>?_
      go_simp
      (refine (ints_t 6 9 _ hHeld.2 (by omega) (by omega) (by omega)).mono ?_)
      rintro e wn ⟨vO,O,rfl,IOw⟩
      obtain ⟨aO,cO,rfl,SO,hcO,hmO,_⟩:=IOw.own.slf (fun _=>rfl)
      have SO:=SO.sl
      replace hHeld:=And.intro (hHeld.1.nxb IOw.k) IOw.tape
      clear IOw
      refine hK.out _ _ (hHeld) (fun hHeld=>?_)
      clear hK K
      try simp only [Act.put,sA,sB,sC]
      refine rH 15 (by kernel_rfl) rfl fun K hK=>?_
      go_simp
      have FF:=FO8.out.nxb hb3 hHeld.1
      obtain ⟨_,_,_,_,eP,eM,FP,FM⟩:=FF.two
      injection eP with eP1 eP2 eP3
      injection eM with eM1 eM2 eM3
      subst eP1 eP3 eM1 eM3
      (with_reducible refine (agrees19_x _ _ _ LZ _ _ _ PQ _ _ _ M _ _ _ _ _ _ O _ (SZ.out.nxb hHeld.1).sl (by omega) hcZ hmZ ZW.out FP (by omega) HF.out FM (by omega) SO hcO hmO).mono ?_)
      rintro e wz ⟨rfl,kk⟩
      replace hHeld:=And.intro (hHeld.1.nxb (kk.b b)) (hHeld.2.nx kk)
      clear kk FF eP2 eM2 FP FM
      refine hK.out _ _ (hHeld) (fun hHeld=>?_)
      clear hK K
      try simp only [Act.put,sA,sB,sC]
      refine tkH 16 (v:=?_) rfl (by kernel_rfl) (fun _ _ _ h=>h) (by rfl) ?y108 hHeld ?_
      case y108=>intro wq hSw;go_simp<;>rfl
      try simp only [Act.put,sA,sB,sC]
      refine wpAnyH_done (by kernel_rfl) ?_ _
      have KF:=lH (KW8.out.nxb hHeld.1)
      have TF:=lH hHeld.2
      clear hHeld hDrew SO
      go_wp2_with fail
      exact ⟨⟨k+1,by omega,by go_num,KF.out,TF.out⟩,by simp [intOf];omega⟩
     refine AllReadyH.cons (o:=⟨_,_,_,_,_,_⟩) rfl (fun K hK=>?_) AllReadyH.nil
     ·go_simp
      have zL:=hHeld.2.lt
      obtain ⟨gL,wl,hgL,hwl,BL,kk⟩:=litI4 _ (ht:Int) (ht:Int) (-1) 17
      rw [← hgL,← hwl]
      have hbL:¬ gL=b:=by omega
      have hbL2:b<gL:=by omega
      clear hgL hwl zL
      replace hHeld:=And.intro (hHeld.1.nxb (kk.b b)) (hHeld.2.nx kk)
      clear kk
      refine hK.out _ _ (hHeld) (fun hHeld=>?_)
      clear hK K
      try simp only [Act.put,sA,sB,sC]
      refine rH 6 (by kernel_rfl) rfl fun K hK=>?_
      go_simp
      (refine (next_t 7 _ hHeld.2 (by omega) (by omega)).mono ?_)
      rintro e wc ⟨d7,rfl,d70,d71,T,kk⟩
      (try replace BL:=BL.nxb hbL kk)
      replace hHeld:=And.intro (hHeld.1.nxb kk) T
      clear kk T
      refine hK.out _ _ (hHeld) (fun hHeld=>?_)
      clear hK K
      try simp only [Act.put,sA,sB,sC]
      refine tkH 7 (v:=?_) rfl (by kernel_rfl) (fun _ _ _ h=>h) (by rfl) ?y137 hHeld ?_
      case y137=>intro wq hSw;go_simp<;>rfl
      try simp only [Act.put,sA,sB,sC]
      refine rH 12 (by kernel_rfl) rfl fun K hK=>?_
      go_simp
      (refine (pick_b (n:=4) (-1) 17 [(ht:Int),(ht:Int),-1,17] _ hHeld.2 BL rfl hbL2 rfl (by omega) (by omega) (by intro x hx;simp at hx;omega)).mono ?_)
      rintro e wp ⟨hr,rfl,hr0,hr1,T,kk⟩
      replace hHeld:=And.intro (hHeld.1.nxb kk) T
      clear kk T BL
      refine hK.out _ _ (hHeld) (fun hHeld=>?_)
      clear hK K
      try simp only [Act.put,sA,sB,sC]
      refine rH 14 (by kernel_rfl) rfl fun K hK=>?_
      go_simp
      (refine (ints_t 6 9 _ hHeld.2 (by omega) (by omega) (by omega)).mono ?_)
      rintro e wn ⟨vO,O,rfl,IOw⟩
      obtain ⟨aO,cO,rfl,SO,hcO,hmO,_⟩:=IOw.own.slf (fun _=>rfl)
      have SO:=SO.sl
      replace hHeld:=And.intro (hHeld.1.nxb IOw.k) IOw.tape
      clear IOw
      refine hK.out _ _ (hHeld) (fun hHeld=>?_)
      clear hK K
      try simp only [Act.put,sA,sB,sC]
      refine rH 15 (by kernel_rfl) rfl fun K hK=>?_
      go_simp
      have FF:=FO8.out.nxb hb3 hHeld.1
      obtain ⟨_,_,_,_,eP,eM,FP,FM⟩:=FF.two
      injection eP with eP1 eP2 eP3
      injection eM with eM1 eM2 eM3
      subst eP1 eP3 eM1 eM3
      (with_reducible refine (agrees19_x _ _ _ LZ _ _ _ PQ _ _ _ M _ _ _ _ _ _ O _ (SZ.out.nxb hHeld.1).sl (by omega) hcZ hmZ ZW.out FP (by omega) HF.out FM (by omega) SO hcO hmO).mono ?_)
      rintro e wz ⟨rfl,kk⟩
      replace hHeld:=And.intro (hHeld.1.nxb (kk.b b)) (hHeld.2.nx kk)
      clear kk FF eP2 eM2 FP FM
      refine hK.out _ _ (hHeld) (fun hHeld=>?_)
      clear hK K
      try simp only [Act.put,sA,sB,sC]
      refine tkH 16 (v:=?_) rfl (by kernel_rfl) (fun _ _ _ h=>h) (by rfl) ?y177 hHeld ?_
      case y177=>intro wq hSw;go_simp<;>rfl
      try simp only [Act.put,sA,sB,sC]
      refine wpAnyH_done (by kernel_rfl) ?_ _
      have KF:=lH (KW8.out.nxb hHeld.1)
      have TF:=lH hHeld.2
      clear hHeld hDrew SO
      go_wp2_with fail
      exact ⟨⟨k+1,by omega,by go_num,KF.out,TF.out⟩,by simp [intOf];omega⟩
    refine AllReadyH.cons (o:=⟨_,_,_,_,_,_⟩) rfl (fun K hK=>?_) AllReadyH.nil
    ·go_simp
     have zL:=hHeld.2.lt
     obtain ⟨gL,wl,hgL,hwl,BL,kk⟩:=litI4 _ (ht:Int) (ht:Int) (-1) 17
     rw [← hgL,← hwl]
     have hbL:¬ gL=b:=by omega
     have hbL2:b<gL:=by omega
     clear hgL hwl zL
     replace hHeld:=And.intro (hHeld.1.nxb (kk.b b)) (hHeld.2.nx kk)
     clear kk
     refine hK.out _ _ (hHeld) (fun hHeld=>?_)
     clear hK K
     try simp only [Act.put,sA,sB,sC]
     refine rH 4 (by kernel_rfl) rfl fun K hK=>?_
     go_simp
     (refine (id_t _ _ _ LZ _ hHeld.2 (SZ.out.nxb hHeld.1) (by omega) ZI.out).mono ?_)
     rintro e wa ⟨rI,rfl,hrI,T,kk⟩
     (try replace BL:=BL.nxb hbL kk)
     replace hHeld:=And.intro (hHeld.1.nxb kk) T
     clear kk T
     refine hK.out _ _ (hHeld) (fun hHeld=>?_)
     clear hK K
     try simp only [Act.put,sA,sB,sC]
     refine rH 6 (by kernel_rfl) rfl fun K hK=>?_
     go_simp
     (refine (next_t 7 _ hHeld.2 (by omega) (by omega)).mono ?_)
     rintro e wc ⟨d7,rfl,d70,d71,T,kk⟩
     (try replace BL:=BL.nxb hbL kk)
     replace hHeld:=And.intro (hHeld.1.nxb kk) T
     clear kk T
     refine hK.out _ _ (hHeld) (fun hHeld=>?_)
     clear hK K
     try simp only [Act.put,sA,sB,sC]
     refine tkH 7 (v:=?_) rfl (by kernel_rfl) (fun _ _ _ h=>h) (by rfl) ?y217 hHeld ?_
     case y217=>intro wq hSw;go_simp<;>rfl
     try simp only [Act.put,sA,sB,sC]
     refine rH 12 (by kernel_rfl) rfl fun K hK=>?_
     go_simp
     (refine (pick_b (n:=4) (-1) 17 [(ht:Int),(ht:Int),-1,17] _ hHeld.2 BL rfl hbL2 rfl (by omega) (by omega) (by intro x hx;simp at hx;omega)).mono ?_)
     rintro e wp ⟨hr,rfl,hr0,hr1,T,kk⟩
     replace hHeld:=And.intro (hHeld.1.nxb kk) T
     clear kk T BL
     refine hK.out _ _ (hHeld) (fun hHeld=>?_)
     clear hK K
     try simp only [Act.put,sA,sB,sC]
     refine rH 14 (by kernel_rfl) rfl fun K hK=>?_
     go_simp
     (refine (ints_t 6 9 _ hHeld.2 (by omega) (by omega) (by omega)).mono ?_)
     rintro e wn ⟨vO,O,rfl,IOw⟩
     obtain ⟨aO,cO,rfl,SO,hcO,hmO,_⟩:=IOw.own.slf (fun _=>rfl)
     have SO:=SO.sl
     replace hHeld:=And.intro (hHeld.1.nxb IOw.k) IOw.tape
     clear IOw
     refine hK.out _ _ (hHeld) (fun hHeld=>?_)
     clear hK K
     try simp only [Act.put,sA,sB,sC]
     refine rH 15 (by kernel_rfl) rfl fun K hK=>?_
     go_simp
     have FF:=FO8.out.nxb hb3 hHeld.1
     obtain ⟨_,_,_,_,eP,eM,FP,FM⟩:=FF.two
     injection eP with eP1 eP2 eP3
     injection eM with eM1 eM2 eM3
     subst eP1 eP3 eM1 eM3
     (with_reducible refine (agrees19_x _ _ _ LZ _ _ _ PQ _ _ _ M _ _ _ _ _ _ O _ (SZ.out.nxb hHeld.1).sl (by omega) hcZ hmZ ZW.out FP (by omega) HF.out FM (by omega) SO hcO hmO).mono ?_)
     rintro e wz ⟨rfl,kk⟩
     replace hHeld:=And.intro (hHeld.1.nxb (kk.b b)) (hHeld.2.nx kk)
     clear kk FF eP2 eM2 FP FM
     refine hK.out _ _ (hHeld) (fun hHeld=>?_)
     clear hK K
     try simp only [Act.put,sA,sB,sC]
     refine tkH 16 (v:=?_) rfl (by kernel_rfl) (fun _ _ _ h=>h) (by rfl) ?y257 hHeld ?_
     case y257=>intro wq hSw;go_simp<;>rfl
     try simp only [Act.put,sA,sB,sC]
     refine wpAnyH_done (by kernel_rfl) ?_ _
     have KF:=lH (KW8.out.nxb hHeld.1)
     have TF:=lH hHeld.2
     clear hHeld hDrew SO
     go_wp2_with fail
     exact ⟨⟨k+1,by omega,by go_num,KF.out,TF.out⟩,by simp [intOf];omega⟩
end Go.Proofs.YtalmjklljofhbaaGreatDoor
/-
 FlightSteps returns true for every list of numbers,every list of nodes,every flight and all numbers,and leaves its arguments as they were.
 Condition: the letters of the keys are as the program text lays them (tied by the card).
-/
namespace Go.Proofs.YtalmjklljofhbaaGreatDoor
open Go.RowKit
open Go.ChangeShapes Go.WideShapes Go.ChangeAt Go.RowKit Go.Deep Go.Joins
open Go.ChangeMaps (open_string shut_string)
set_option linter.unusedVariables false
theorem Tryz.cellsInt:Tryz.prog.cellsOf 3=1:=by kernel_rfl
theorem Tryz.cellsNode:Tryz.prog.cellsOf 49=3:=by kernel_rfl
theorem Tryz.cellsFlight:Tryz.prog.cellsOf 27=2:=by kernel_rfl
theorem Tryz.cellsIntro:Tryz.prog.cellsOf 67=2:=by kernel_rfl
set_option maxRecDepth 100000 in
set_option maxHeartbeats 1000000 in
theorem flightSteps_lifted (os:Os) (started:os.Started) (H:Type) (enc:TypeId×Value→H) :
  ReturnsInHanded {} Tryz.checked os 3 .any (fun w args=>(Rows.flightStepsSpec.pre enc Tryz.prog Tryz.f3 [] false w args∧laidMetH Tryz.prog Rows.flightStepsRow.laid w)∧sizedMet enc Tryz.prog Tryz.f3 (OpenSpec.ofChange Rows.flightStepsSpec) false w args)
   (Rows.flightStepsSpec.post enc Tryz.prog Tryz.f3 false true false false):=by
 refine returnsInHanded_of_change_and (C:=Tryz.checked) (X:=fun w _=>laidMetH Tryz.prog Rows.flightStepsRow.laid w) (fun _ _ _ hh h=>h.of_heap hh) own started (by kernel_rfl) Tryz.func3
  (ChangeSpec.witness_shaped (enc:=enc) (C:=Tryz.checked) (os:=os) (X:=fun w _=>laidMetH Tryz.prog Rows.flightStepsRow.laid w) false (World.doorLaid Tryz.prog 400 os) #[.slice none 0 0,.slice none 0 0,.agg #[.slice none 0 0,.slice none 0 0],.int .i64 0,.int .i64 0,.int .i64 0,.slice none 0 0] 8 rfl (World.shaped_of_RefB (by kernel_rfl) (by kernel_rfl)) (by kernel_rfl) (by kernel_rfl) (by kernel_rfl) (laidMetH_of_parts3 (fuel:=8) (laidMet_of_run' 8 (by kernel_rfl) (by kernel_rfl)) (by kernel_rfl) (by kernel_rfl))) ?_
 intro W base args ds gs before hval0 hW _ hsz0 hL _
 have hval:∀ (j:Nat) t v,Tryz.f3.params[j]?=some t→args[j]?=some v→Value.okWide Tryz.prog W .any base t v:=hval0
 have hW':=hW
 obtain ⟨p,q,hA0,hV,rfl,hfz,hnd⟩:=hW
 have hA:DataW.TrodAll enc Tryz.prog W 0 (fun _=>true) true Tryz.f3.params.toList args.toList ds p:=hA0
 have hsz:(DataW.weightsEach Tryz.prog (Tryz.f3.params.toList++Rows.flightStepsSpec.plain.varTypes Tryz.prog) (ds++gs)).all (·≤reachBytes)=true:=hsz0
 rw [Tryz.params3] at hA hval hsz
 obtain ⟨v0,vs0,d0,ds0,p0,q0,hargs,rfl,rfl,h0,r0⟩:=trodAll_cons hA
 obtain ⟨v1,vs1,d1,ds1,p1,q1,rfl,rfl,rfl,h1,r1⟩:=trodAll_cons r0
 obtain ⟨v2,vs2,d2,ds2,p2,q2,rfl,rfl,rfl,h2,r2⟩:=trodAll_cons r1
 obtain ⟨v3,vs3,d3,ds3,p3,q3,rfl,rfl,rfl,h3,r3⟩:=trodAll_cons r2
 obtain ⟨v4,vs4,d4,ds4,p4,q4,rfl,rfl,rfl,h4,r4⟩:=trodAll_cons r3
 obtain ⟨v5,vs5,d5,ds5,p5,q5,rfl,rfl,rfl,h5,r5⟩:=trodAll_cons r4
 obtain ⟨v6,vs6,d6,ds6,p6,q6,rfl,rfl,rfl,h6,r6⟩:=trodAll_cons r5
 obtain ⟨rfl,rfl,rfl⟩:=trodAll_nil r6
 obtain rfl:args=#[v0,v1,v2,v3,v4,v5,v6]:=by cases args;simp_all
 obtain ⟨rfl,rfl⟩:=trodVars_none hV
 have k0:=h0
 have lt0:∀ x∈p0,x.block<W.heap.size:=by obtain ⟨m,hm⟩:=k0;exact DataW.trod_lt m _ _ _ hm
 have k1:=h1
 have lt1:∀ x∈p1,x.block<W.heap.size:=by obtain ⟨m,hm⟩:=k1;exact DataW.trod_lt m _ _ _ hm
 have k2:=h2
 have lt2:∀ x∈p2,x.block<W.heap.size:=by obtain ⟨m,hm⟩:=k2;exact DataW.trod_lt m _ _ _ hm
 have k3:=h3
 have lt3:∀ x∈p3,x.block<W.heap.size:=by obtain ⟨m,hm⟩:=k3;exact DataW.trod_lt m _ _ _ hm
 have k4:=h4
 have lt4:∀ x∈p4,x.block<W.heap.size:=by obtain ⟨m,hm⟩:=k4;exact DataW.trod_lt m _ _ _ hm
 have k5:=h5
 have lt5:∀ x∈p5,x.block<W.heap.size:=by obtain ⟨m,hm⟩:=k5;exact DataW.trod_lt m _ _ _ hm
 have k6:=h6
 have lt6:∀ x∈p6,x.block<W.heap.size:=by obtain ⟨m,hm⟩:=k6;exact DataW.trod_lt m _ _ _ hm
 obtain ⟨A0,n0,cap0,l0,rfl,rd0,hc0,hm0,wf0,nl0⟩:=rd_ints Tryz.underlying22 Tryz.underlying3 Tryz.cellsInt (hval 0 22 v0 rfl rfl) h0
 obtain ⟨A1,n1,cap1,l1s,rfl,rd1s,hc1,hm1,nl1⟩:=rd_structs (encS:=encN32) (k:=3) Tryz.underlying23 Tryz.underlying49 (by kernel_rfl) Tryz.cellsNode rfl (by omega) (hval 1 23 v1 rfl rfl) h1
  (fun n cell hf=>by
   obtain ⟨v,y,hc,ht⟩:=hf 0 _ rfl
   obtain ⟨v',y',hc',ht'⟩:=hf 1 _ rfl
   obtain ⟨v'',y'',hc'',ht''⟩:=hf 2 _ rfl
   obtain ⟨a,e0,rfl,_⟩:=DataW.trod_int Tryz.underlying3 ht
   obtain ⟨s,e1,rfl,_⟩:=DataW.trod_string Tryz.underlying9 ht'
   obtain ⟨m,e2,rfl,wf⟩:=DataW.trod_int Tryz.underlying47 ht''
   simp at e0 e1 e2
   subst e0 e1 e2
   have hb:=bounds_u32 wf
   obtain ⟨m,rfl⟩:=Int.eq_ofNat_of_zero_le hb.1
   refine ⟨⟨⟨a,s,m⟩,by show m<4294967296;omega⟩,fun c u hu=>?_⟩
   rcases c with _ | _ | _ | c
   ·simp [encN32,encN] at hu;subst hu;exact hc
   ·simp [encN32,encN] at hu;subst hu;exact hc'
   ·simp [encN32,encN] at hu;subst hu;exact hc''
   ·simp [encN32,encN] at hu)
 obtain ⟨l1,rd1,wn1⟩:=nodes_of rd1s
 obtain ⟨c20,c21,y20,y21,m2,rfl,rfl,rfl,hy20,hy21⟩:=open_agg2 Tryz.underlying27 (by kernel_rfl) Tryz.cellsFlight (hval 2 27 v2 rfl rfl) h2
 have hwv2:Wle Tryz.prog 27 (.agg [y20.1,y21.1]):=wle_arg (P:=Tryz.prog) hsz (j:=2) (by kernel_rfl) rfl
 obtain ⟨A2p,n2p,cap2p,l2p,rfl,rd2p,hc2p,hm2p,wl2p⟩:=rd_peers_v hy20 (wle_field Tryz.underlying27 hwv2 (j:=0) rfl rfl)
 obtain ⟨A2m,n2m,cap2m,l2m,rfl,rd2m,hc2m,hm2m,_⟩:=rd_structs_v (encS:=encS) (k:=2) Tryz.underlying25 Tryz.underlying67 (by kernel_rfl) Tryz.cellsIntro rfl (by omega) hy21 (wle_field Tryz.underlying27 hwv2 (j:=1) rfl rfl)
  (fun n cell hf=>by
   obtain ⟨v,hc,y,ht,_⟩:=hf 0 _ rfl
   obtain ⟨v',hc',y',ht',_⟩:=hf 1 _ rfl
   obtain ⟨a,e0,rfl,_⟩:=DataW.trod_int Tryz.underlying3 ht
   obtain ⟨a',e0',rfl,_⟩:=DataW.trod_int Tryz.underlying3 ht'
   simp at e0 e0'
   subst e0 e0'
   refine ⟨(a,a'),fun c u hu=>?_⟩
   rcases c with _ | _ | c
   ·simp [encS] at hu;subst hu;exact hc
   ·simp [encS] at hu;subst hu;exact hc'
   ·simp [encS] at hu)
 obtain ⟨a3,rfl,rfl,rfl,wa3⟩:=open_int Tryz.underlying3 (hval 3 3 v3 rfl rfl) h3
 obtain ⟨a4,rfl,rfl,rfl,wa4⟩:=open_int Tryz.underlying3 (hval 4 3 v4 rfl rfl) h4
 obtain ⟨a5,rfl,rfl,rfl,wa5⟩:=open_int Tryz.underlying3 (hval 5 3 v5 rfl rfl) h5
 obtain ⟨A6,n6,cap6,l6,rfl,rd6,hc6,hm6,wf6,nl6⟩:=rd_ints Tryz.underlying22 Tryz.underlying3 Tryz.cellsInt (hval 6 22 v6 rfl rfl) h6
 clear hA0 hval0
 have hL2:LetG W:=letG_of hL (by kernel_rfl)
 refine (flightsteps_walk A0 n0 cap0 l0 A1 n1 cap1 l1 A2p n2p cap2p l2p A2m n2m cap2m l2m a3 a4 a5 A6 n6 cap6 l6 W rd0 hc0 hm0 rd1 hc1 hm1 wn1 rd2p rd2m rd6 hc6 hm6 hL2).mono fun e W' ⟨he,hch⟩=>?_
 have bel:Below W.heap.size W W':=hch.below (fun _ h=>h)
 subst he
 exact ⟨_,rfl,_,_,_,[],_,[],hW',trodAll_mk1 (shut_bool Tryz.underlying4 _),(trodAll_cons_mk (Below.trod laidOut (by kernel_rfl) (of_decide_eq_true (by kernel_rfl)) k0 bel lt0) (trodAll_cons_mk (Below.trod laidOut (by kernel_rfl) (of_decide_eq_true (by kernel_rfl)) k1 bel lt1) (trodAll_cons_mk (Below.trod laidOut (by kernel_rfl) (of_decide_eq_true (by kernel_rfl)) k2 bel lt2) (trodAll_cons_mk (Below.trod laidOut (by kernel_rfl) (of_decide_eq_true (by kernel_rfl)) k3 bel lt3) (trodAll_cons_mk (Below.trod laidOut (by kernel_rfl) (of_decide_eq_true (by kernel_rfl)) k4 bel lt4) (trodAll_cons_mk (Below.trod laidOut (by kernel_rfl) (of_decide_eq_true (by kernel_rfl)) k5 bel lt5) (trodAll_cons_mk (Below.trod laidOut (by kernel_rfl) (of_decide_eq_true (by kernel_rfl)) k6 bel lt6) trodAll_mk0))))))),rfl,bel.frame _,fun h=>by cases h⟩
theorem flightSteps_over:Rows.flightStepsRow.holds Tryz.pinned (OpenSpec.ofChange Rows.flightStepsSpec) :=
 OpenClaim.holds_of_wide 3 Tryz.f3 rfl rfl rfl rfl rfl rfl rfl ⟨rfl,rfl,rfl,rfl,rfl⟩ rfl rfl rfl rfl rfl (by kernel_rfl) Tryz.func3 (by kernel_rfl)
  (of_decide_eq_true (by kernel_rfl)) (by unfold Func.isWrapper;first | (rw [if_pos (by decide +kernel)];kernel_rfl) | (rw [if_neg (by decide +kernel)];exact ⟨rfl,rfl⟩))
  (fun os started H enc _=>flightSteps_lifted os started H enc)
theorem FlightSteps_holds:Rows.FlightStepsCardSaid :=
 Claim7.holds_tied_plain_at .later [] [.data] true (true, "b1738fbeb79c68c942f0977f03bc30c9bd47aac2032c4478c3ec5ec3d4787ff6") false
  flightSteps_over (fun _ h=>by cases h) (by kernel_rfl) (fun _ h=>by cases h) flightSteps_row_tie rfl ⟨rfl,rfl⟩ (by kernel_rfl) rfl
  (fun f fn hf hfn=>by
   obtain rfl : f = 3 := Option.some.inj ((show Tryz.prog.funcNamed "skipgraph/skipgraphlaw19.FlightSteps" = some 3 by kernel_rfl).symm.trans hf) |>.symm
   obtain rfl:fn=Tryz.f3:=(Option.some.inj (Tryz.func3.symm.trans hfn)).symm
   exact ⟨by kernel_rfl,fun j t ht=>by
    rw [Tryz.params3] at ht
    have hm:t∈[22,23,27,3,3,3,22]:=by simpa using Array.mem_of_getElem? ht
    have hall:([22,23,27,3,3,3,22].all fun u=>!Tryz.prog.wantsStandIn u)=true:=by kernel_rfl
    exact (show Tryz.prog.wantsStandIn t=false by simpa using List.all_eq_true.1 hall t hm)⟩)
  (by kernel_rfl)
#print axioms FlightSteps_holds
end Go.Proofs.YtalmjklljofhbaaGreatDoor
