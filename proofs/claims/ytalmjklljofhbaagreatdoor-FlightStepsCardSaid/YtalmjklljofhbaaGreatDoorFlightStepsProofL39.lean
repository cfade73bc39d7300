/- Texts for FlightStepsProof. -/
import Derived.Test.YtalmjklljofhbaaGreatDoorTie
import Derived.Test.YtalmjklljofhbaaGreatDoorCards
import Derived.Lib.LaidTab
import Derived.ChangeArms
import Derived.LaidMore
import Derived.Stop.Joined
import Derived.SevenTiedAt
import Derived.SizedLaws
import Derived.Test.YtalmjklljofhbaaGreatDoorFlightStepsProofL37
import Derived.Test.YtalmjklljofhbaaGreatDoorFlightStepsProofL38
set_option linter.unusedSimpArgs false
set_option linter.unusedVariables false

namespace Go.Proofs.YtalmjklljofhbaaGreatDoor
open Go.RowKit
def LenF (F:Fl):Prop:=F.peers.length≤1000∧F.msgs.length≤1000000∧FewR F.peers
theorem few_sm {P:List Pr} (h:FewR P):∀ p∈P,p.known.length≤4000000000000000000∧p.near.length≤4000000000000000000:=fun p hp=>by have:=h p hp;omega
theorem lenF_del {N:List Nd} {F:Fl} (hN:N.length≤1000) (h:FewR F.peers) (hm:F.msgs.length≤1000000) (k:Int):LenF (delF N F k) :=
 ⟨Nat.le_trans (del_plen k) hN,Nat.le_trans (del_msgs_len N F k) hm,del_fewR hN h k⟩
theorem lenF_tick {N:List Nd} {F:Fl} (hN:N.length≤1000) (h:FewR F.peers) (hm:F.msgs.length≤900000) (id hh:Int):LenF (tickF N F id hh):=by
 refine ⟨Nat.le_trans (tick_plen id hh) hN,?_,tick_fewR hN h id hh⟩
 by_cases h0:checkN N=0
 ·have:=tick_len (f:=F) h0 id hh;omega
 ·unfold tickF
  rw [cop_no h0]
  simp
theorem lenF_ticks {N:List Nd} {ts:List Int} {m:Int} (h0:checkN N=0) (hN:N.length≤64):∀ (n i:Nat) (L:List Int) (F:Fl),F.peers.length≤1000→FewR F.peers→F.msgs.length≤i*128→n+i≤64→LenF (tickAllF N ts m n i L F)
 | 0,i,L,F,h1,h2,h3,h4=>⟨h1,Nat.le_trans h3 (by omega),h2⟩
 | n+1,i,L,F,h1,h2,h3,h4=>by
  refine lenF_ticks h0 hN n (i+1) _ _ (Nat.le_trans (tick_plen _ _) (by omega)) (tick_fewR (by omega) h2 _ _) ?_ (by omega)
  have:=tick_len (N:=N) (f:=F) h0 (L[pickN ts i (n+1)]?.getD 0) m
  omega
theorem lenF_dels {N:List Nd} {ms:List Int} (h0:checkN N=0) (hN:N.length≤64):∀ (n i:Nat) (F:Fl),F.msgs.length=n→F.peers.length≤1000→FewR F.peers→(delAllF N ms n i F).peers.length≤1000∧FewR (delAllF N ms n i F).peers∧(delAllF N ms n i F).msgs.length=0
 | 0,i,F,h1,h2,h3=>⟨h2,h3,h1⟩
 | n+1,i,F,h1,h2,h3=>lenF_dels h0 hN n (i+1) _ (del_len h0 h1 (pick_lt ms i (by omega))) (Nat.le_trans (del_plen _) (by omega)) (del_fewR (by omega) h3 _)
theorem lenF_round {N:List Nd} {F:Fl} (h:FewR F.peers) (ms ts:List Int) (hh:Int):LenF (roundF N F ms ts hh):=by
 unfold roundF
 split
 ·rename_i hc
  have h64:=check_len hc.2
  have h1:=cop_len N F
  obtain ⟨d1,d2,d3⟩:=lenF_dels (ms:=ms) hc.2 h64 (copF N F).msgs.length 0 (copF N F) rfl (by have:=h1.1;omega) (cop_few2 h)
  exact lenF_ticks hc.2 h64 _ _ _ _ d1 d2 (by omega) (by omega)
 ·exact ⟨Nat.zero_le _,Nat.zero_le _,fun p hp=>by cases hp⟩
theorem lenF_dbl {F:Fl} (h:FewR F.peers) (hp:F.peers.length≤1000) (hm:F.msgs.length≤900000) (k:Int) (most:Nat):LenF (dblF F k most):=by
 unfold dblF
 split
 ·split
  ·exact ⟨hp,by omega,h⟩
  ·exact ⟨hp,by simp;omega,h⟩
 ·exact ⟨hp,by omega,h⟩
theorem lenF_new {N:List Nd} {P:List Pr} (hN:N.length≤1000) (h:FewR P):LenF ⟨normalN N P,[]⟩:=by
 refine ⟨Nat.le_trans (normal_le N P).1 hN,Nat.zero_le _,?_⟩
 have:=cop_few2 (N:=N) (f:=⟨P,[]⟩) h
 by_cases h0:checkN N=0
 ·rw [cop_yes h0] at this;exact this
 ·unfold normalN;rw [if_neg h0];exact fun p hp=>by cases hp
set_option maxRecDepth 100000 in
set_option maxHeartbeats 16000000 in
theorem agrees19_x (a:Option Addr) (n c:Nat) (N:List Nd) (a2:Option Addr) (n2 c2:Nat) (P:List Pr) (a3:Option Addr) (n3 c3:Nat) (M:List (Int×Int)) (id m hh:Int) (a4:Option Addr) (n4 c4:Nat) (O:List Int) (w:World) (h:Sl 3 encN w a n N) (hn:n≤1000) (hc:n≤c) (hm:c≤maxLen) (hw:∀ x∈N,x.word<4294967296)
  (h2:PL w a2 n2 P) (hn2:n2≤1000) (hP:FewR P) (h3:Sl 2 encS w a3 n3 M) (hn3:n3≤100000) (h4:Sl 1 encI w a4 n4 O) (hc4:n4≤c4) (hm4:c4≤maxLen) :
  Calls Tryz.prog 14 #[.slice a n c,.agg #[.slice a2 n2 c2,.slice a3 n3 c3],.int .i64 id,.int .i64 m,.int .i64 hh,.slice a4 n4 c4] w fun e w'=>e=.returned (.bool true)∧Ex w w':=by
 have HW:=lH hw
 have FW:=lH hP
 have SM:=lH (FewR.small hP)
 have KN:Hid (∀ p∈P,p.known.length≤1000000):=lH (fun p hp=>(hP p hp).1)
 have SF:Hid (SmF ⟨P,M⟩):=lH ⟨SM.out,KN.out⟩
 have F2:Hid (∀ p∈P,p.known.length≤2000000∧p.near.length≤2000000):=lH (fun p hp=>by have:=hP p hp;omega)
 have hN:N.length≤1000:=by rw [h.len];exact hn
 have hP1:P.length≤1000:=by rw [PL.len h2];exact hn2
 have hMl:=h3.len
 have hM9:(⟨P,M⟩:Fl).msgs.length≤900000:=by show M.length≤_;omega
 have hM10:(⟨P,M⟩:Fl).msgs.length≤1000000:=by show M.length≤_;omega
 have HM9:=lH hM9
 have B7:=Blk.new w [.slice a2 n2 c2,.slice a3 n3 c3] 27
 have kk:=Ex.new w (.cells #[.slice a2 n2 c2,.slice a3 n3 c3] 27)
 obtain ⟨w1,hw1⟩:∃ w1,w1=w.alloc (.cells #[.slice a2 n2 c2,.slice a3 n3 c3] 27):=⟨_,rfl⟩
 obtain ⟨g7,hg7⟩:∃ g7,g7=w.heap.size:=⟨_,rfl⟩
 replace B7:Blk w1 g7 [.slice a2 n2 c2,.slice a3 n3 c3] 27:=by rw [hw1,hg7];exact B7
 rw [← hw1] at kk
 have Hw1:=lH hw1
 have Hg7:=lH hg7
 replace h:=h.nx kk
 replace h2:=h2.nx kk
 replace h3:=h3.nx kk
 replace h4:=h4.nx kk
 have K1:=lH kk
 have HS:=lH h
 have H2:=lH h2
 have H3:=lH h3
 have H4:=lH h4
 clear kk hw1 hg7 h h2 h3 h4 hw hP hMl
 go_enter Tryz.func14,Tryz.ntmps14
 go_upto_region 1 with fail
 rw [← Hg7.out,← Hw1.out]
 clear Hg7 Hw1
 have B7H:=lH B7
 clear B7
 refine wp_region_held_drew (S:=Ex w1) (by kernel_rfl) ((Ex.refl w1).drew) (fun hHeld=>?_)
 obtain ⟨wd,hwdx⟩:∃ wd:World,wd=World.drew w1:=⟨_,rfl⟩
 rw [← hwdx] at hHeld ⊢
 have hDrew:Ex w1 wd:=by rw [hwdx];exact (Ex.refl w1).drew
 clear hwdx
 refine tkH 0 (v:=?_) rfl (by kernel_rfl) (fun _ _ _ h=>h) (by rfl) ?y5 hHeld ?_
 case y5=>intro wq hSw;go_simp<;>rfl
 try simp only [Act.put,sA,sB,sC]
 refine tkH 1 (v:=?_) rfl (by kernel_rfl) (fun _ _ _ h=>h) (by rfl) ?y8 hHeld ?_
 case y8=>intro wq hSw;go_simp<;>rfl
 try simp only [Act.put,sA,sB,sC]
 refine tkH 2 (v:=?_) rfl (by kernel_rfl) (fun _ _ _ h=>h) (by rfl) ?y11 hHeld ?_
 case y11=>intro wq hSw;(have cq0:=(B7H.out.nx hSw).cell 0 _ rfl;have cq1:=(B7H.out.nx hSw).cell 1 _ rfl;go_simp)<;>rfl
 try simp only [Act.put,sA,sB,sC]
 refine tkH 4 (v:=?_) rfl (by kernel_rfl) (fun _ _ _ h=>h) (by rfl) ?y14 hHeld ?_
 case y14=>intro wq hSw;go_simp<;>rfl
 try simp only [Act.put,sA,sB,sC]
 refine tkH 5 (v:=?_) rfl (by kernel_rfl) (fun _ _ _ h=>h) (by rfl) ?y17 hHeld ?_
 case y17=>intro wq hSw;go_simp<;>rfl
 try simp only [Act.put,sA,sB,sC]
 refine tkH 6 (v:=?_) rfl (by kernel_rfl) (fun _ _ _ h=>h) (by rfl) ?y20 hHeld ?_
 case y20=>intro wq hSw;(have cq0:=(B7H.out.nx hSw).cell 0 _ rfl;have cq1:=(B7H.out.nx hSw).cell 1 _ rfl;go_simp)<;>rfl
 try simp only [Act.put,sA,sB,sC]
 refine rH 3 (by kernel_rfl) rfl fun K hK=>?_
 go_simp
 (with_reducible refine (new_f _ _ _ N _ _ _ P _ (HS.out.nx hHeld) (by omega) hc hm (H2.out.nx hHeld) (by omega) SM.out).mono ?_)
 rintro e wa ⟨vA,mA,qA,rfl,FA,kk⟩
 obtain ⟨G,hG⟩:∃ G,G=(⟨normalN N P,[]⟩:Fl):=⟨_,rfl⟩
 rw [← hG] at FA
 have HG:=lH hG
 clear hG
 obtain ⟨aA,cA,bA,dA,rfl,rfl,PA,SA⟩:=FA.two
 have PAH:=lH PA
 have SAH:=lH SA
 replace hHeld:=hHeld.nx kk
 clear kk FA PA SA
 refine hK.out _ _ (hHeld) (fun hHeld=>?_)
 clear hK K
 try simp only [Act.put,sA,sB,sC]
 refine rH 7 (by kernel_rfl) rfl fun K hK=>?_
 go_simp
 (with_reducible refine (new_r19 _ _ _ N _ _ _ P _ (HS.out.nx hHeld) (by omega) (H2.out.nx hHeld) (by omega) SM.out).mono ?_)
 rintro e wb ⟨vB,mB,qB,rfl,FB,kk⟩
 rw [← HG.out] at FB
 obtain ⟨aB,cB,bB,dB,rfl,rfl,PB,SB⟩:=FB.two
 have PBH:=lH PB
 have SBH:=lH SB
 replace PAH:=lH (PAH.out.nx kk)
 replace SAH:=lH (SAH.out.nx kk)
 replace hHeld:=hHeld.nx kk
 clear kk FB PB SB
 refine hK.out _ _ (hHeld) (fun hHeld=>?_)
 clear hK K
 try simp only [Act.put,sA,sB,sC]
 refine rH 8 (by kernel_rfl) rfl fun K hK=>?_
 go_simp
 have LN:=lenF_new (N:=N) hN FW.out
 rw [← HG.out] at LN
 obtain ⟨l1,l2,l3⟩:=LN
 have l4:=few_sm l3
 (with_reducible refine (same19_r _ _ _ G.peers _ _ _ G.msgs _ _ _ _ _ PAH.out SAH.out PBH.out SBH.out l1 l2 l4).mono ?_)
 rintro e wc ⟨rfl,kk⟩
 replace hHeld:=hHeld.nx kk
 clear kk PAH SAH PBH SBH HG l1 l2 l3 l4
 refine hK.out _ _ (hHeld) (fun hHeld=>?_)
 clear hK K
 try simp only [Act.put,sA,sB,sC]
 refine tkH 9 (v:=?_) rfl (by kernel_rfl) (fun _ _ _ h=>h) (by rfl) ?y70 hHeld ?_
 case y70=>intro wq hSw;go_simp<;>rfl
 try simp only [Act.put,sA,sB,sC]
 refine tkH 10 (v:=?_) rfl (by kernel_rfl) (fun _ _ _ h=>h) (by rfl) ?y73 hHeld ?_
 case y73=>intro wq hSw;go_simp<;>rfl
 try simp only [Act.put,sA,sB,sC]
 refine tkH 11 (v:=?_) rfl (by kernel_rfl) (fun _ _ _ h=>h) (by rfl) ?y76 hHeld ?_
 case y76=>intro wq hSw;(have cq0:=(B7H.out.nx hSw).cell 0 _ rfl;have cq1:=(B7H.out.nx hSw).cell 1 _ rfl;go_simp)<;>rfl
 try simp only [Act.put,sA,sB,sC]
 refine tkH 12 (v:=?_) rfl (by kernel_rfl) (fun _ _ _ h=>h) (by rfl) ?y79 hHeld ?_
 case y79=>intro wq hSw;go_simp<;>rfl
 try simp only [Act.put,sA,sB,sC]
 refine tkH 13 (v:=?_) rfl (by kernel_rfl) (fun _ _ _ h=>h) (by rfl) ?y82 hHeld ?_
 case y82=>intro wq hSw;go_simp<;>rfl
 try simp only [Act.put,sA,sB,sC]
 refine tkH 15 (v:=?_) rfl (by kernel_rfl) (fun _ _ _ h=>h) (by rfl) ?y85 hHeld ?_
 case y85=>intro wq hSw;go_simp<;>rfl
 try simp only [Act.put,sA,sB,sC]
 refine tkH 16 (v:=?_) rfl (by kernel_rfl) (fun _ _ _ h=>h) (by rfl) ?y88 hHeld ?_
 case y88=>intro wq hSw;(have cq0:=(B7H.out.nx hSw).cell 0 _ rfl;have cq1:=(B7H.out.nx hSw).cell 1 _ rfl;go_simp)<;>rfl
 try simp only [Act.put,sA,sB,sC]
 refine tkH 17 (v:=?_) rfl (by kernel_rfl) (fun _ _ _ h=>h) (by rfl) ?y91 hHeld ?_
 case y91=>intro wq hSw;go_simp<;>rfl
 try simp only [Act.put,sA,sB,sC]
 refine tkH 18 (v:=?_) rfl (by kernel_rfl) (fun _ _ _ h=>h) (by rfl) ?y94 hHeld ?_
 case y94=>intro wq hSw;go_simp<;>rfl
 try simp only [Act.put,sA,sB,sC]
 refine rH 14 (by kernel_rfl) rfl fun K hK=>?_
 go_simp
 (with_reducible refine (tick_f _ _ _ N _ _ _ P _ _ _ M id hh _ (HS.out.nx hHeld) (by omega) hc hm HW.out (H2.out.nx hHeld) (by omega) SM.out (H3.out.nx hHeld) (by omega)).mono ?_)
 rintro e wa ⟨vA,mA,qA,rfl,FA,kk⟩
 obtain ⟨G,hG⟩:∃ G,G=tickF N ⟨P,M⟩ id hh:=⟨_,rfl⟩
 rw [← hG] at FA
 have HG:=lH hG
 clear hG
 obtain ⟨aA,cA,bA,dA,rfl,rfl,PA,SA⟩:=FA.two
 have PAH:=lH PA
 have SAH:=lH SA
 replace hHeld:=hHeld.nx kk
 clear kk FA PA SA
 refine hK.out _ _ (hHeld) (fun hHeld=>?_)
 clear hK K
 try simp only [Act.put,sA,sB,sC]
 refine rH 19 (by kernel_rfl) rfl fun K hK=>?_
 go_simp
 (with_reducible refine (tick_r19 _ _ _ N _ _ _ P _ _ _ M id hh _ (HS.out.nx hHeld) (by omega) HW.out (H2.out.nx hHeld) (by omega) FW.out (H3.out.nx hHeld) (by omega)).mono ?_)
 rintro e wb ⟨vB,mB,qB,rfl,FB,kk⟩
 rw [← HG.out] at FB
 obtain ⟨aB,cB,bB,dB,rfl,rfl,PB,SB⟩:=FB.two
 have PBH:=lH PB
 have SBH:=lH SB
 replace PAH:=lH (PAH.out.nx kk)
 replace SAH:=lH (SAH.out.nx kk)
 replace hHeld:=hHeld.nx kk
 clear kk FB PB SB
 refine hK.out _ _ (hHeld) (fun hHeld=>?_)
 clear hK K
 try simp only [Act.put,sA,sB,sC]
 refine rH 20 (by kernel_rfl) rfl fun K hK=>?_
 go_simp
 have LN:=lenF_tick (F:=⟨P,M⟩) hN FW.out hM9 id hh
 rw [← HG.out] at LN
 obtain ⟨l1,l2,l3⟩:=LN
 have l4:=few_sm l3
 (with_reducible refine (same19_r _ _ _ G.peers _ _ _ G.msgs _ _ _ _ _ PAH.out SAH.out PBH.out SBH.out l1 l2 l4).mono ?_)
 rintro e wc ⟨rfl,kk⟩
 replace hHeld:=hHeld.nx kk
 clear kk PAH SAH PBH SBH HG l1 l2 l3 l4
 refine hK.out _ _ (hHeld) (fun hHeld=>?_)
 clear hK K
 try simp only [Act.put,sA,sB,sC]
 refine tkH 21 (v:=?_) rfl (by kernel_rfl) (fun _ _ _ h=>h) (by rfl) ?y144 hHeld ?_
 case y144=>intro wq hSw;go_simp<;>rfl
 try simp only [Act.put,sA,sB,sC]
 refine tkH 22 (v:=?_) rfl (by kernel_rfl) (fun _ _ _ h=>h) (by rfl) ?y147 hHeld ?_
 case y147=>intro wq hSw;go_simp<;>rfl
 try simp only [Act.put,sA,sB,sC]
 refine tkH 23 (v:=?_) rfl (by kernel_rfl) (fun _ _ _ h=>h) (by rfl) ?y150 hHeld ?_
 case y150=>intro wq hSw;go_simp<;>rfl
 try simp only [Act.put,sA,sB,sC]
 refine tkH 24 (v:=?_) rfl (by kernel_rfl) (fun _ _ _ h=>h) (by rfl) ?y153 hHeld ?_
 case y153=>intro wq hSw;(have cq0:=(B7H.out.nx hSw).cell 0 _ rfl;have cq1:=(B7H.out.nx hSw).cell 1 _ rfl;go_simp)<;>rfl
 try simp only [Act.put,sA,sB,sC]
 refine tkH 25 (v:=?_) rfl (by kernel_rfl) (fun _ _ _ h=>h) (by rfl) ?y156 hHeld ?_
 case y156=>intro wq hSw;go_simp<;>rfl
 try simp only [Act.put,sA,sB,sC]
 refine tkH 27 (v:=?_) rfl (by kernel_rfl) (fun _ _ _ h=>h) (by rfl) ?y159 hHeld ?_
 case y159=>intro wq hSw;go_simp<;>rfl
 try simp only [Act.put,sA,sB,sC]
 refine tkH 28 (v:=?_) rfl (by kernel_rfl) (fun _ _ _ h=>h) (by rfl) ?y162 hHeld ?_
 case y162=>intro wq hSw;(have cq0:=(B7H.out.nx hSw).cell 0 _ rfl;have cq1:=(B7H.out.nx hSw).cell 1 _ rfl;go_simp)<;>rfl
 try simp only [Act.put,sA,sB,sC]
 refine tkH 29 (v:=?_) rfl (by kernel_rfl) (fun _ _ _ h=>h) (by rfl) ?y165 hHeld ?_
 case y165=>intro wq hSw;go_simp<;>rfl
 try simp only [Act.put,sA,sB,sC]
 refine rH 26 (by kernel_rfl) rfl fun K hK=>?_
 go_simp
 (with_reducible refine (del_f _ _ _ N _ _ _ P _ _ _ M m _ (HS.out.nx hHeld) (by omega) hc hm (H2.out.nx hHeld) (by omega) SM.out (H3.out.nx hHeld) (by omega) KN.out).mono ?_)
 rintro e wa ⟨vA,mA,qA,rfl,FA,kk⟩
 obtain ⟨G,hG⟩:∃ G,G=delF N ⟨P,M⟩ m:=⟨_,rfl⟩
 rw [← hG] at FA
 have HG:=lH hG
 clear hG
 obtain ⟨aA,cA,bA,dA,rfl,rfl,PA,SA⟩:=FA.two
 have PAH:=lH PA
 have SAH:=lH SA
 replace hHeld:=hHeld.nx kk
 clear kk FA PA SA
 refine hK.out _ _ (hHeld) (fun hHeld=>?_)
 clear hK K
 try simp only [Act.put,sA,sB,sC]
 refine rH 30 (by kernel_rfl) rfl fun K hK=>?_
 go_simp
 (with_reducible refine (del_r19 _ _ _ N _ _ _ P _ _ _ M m _ (HS.out.nx hHeld) (by omega) (H2.out.nx hHeld) (by omega) FW.out (H3.out.nx hHeld) (by omega) HW.out).mono ?_)
 rintro e wb ⟨vB,mB,qB,rfl,FB,kk⟩
 rw [← HG.out] at FB
 obtain ⟨aB,cB,bB,dB,rfl,rfl,PB,SB⟩:=FB.two
 have PBH:=lH PB
 have SBH:=lH SB
 replace PAH:=lH (PAH.out.nx kk)
 replace SAH:=lH (SAH.out.nx kk)
 replace hHeld:=hHeld.nx kk
 clear kk FB PB SB
 refine hK.out _ _ (hHeld) (fun hHeld=>?_)
 clear hK K
 try simp only [Act.put,sA,sB,sC]
 refine rH 31 (by kernel_rfl) rfl fun K hK=>?_
 go_simp
 have LN:=lenF_del (F:=⟨P,M⟩) hN FW.out hM10 m
 rw [← HG.out] at LN
 obtain ⟨l1,l2,l3⟩:=LN
 have l4:=few_sm l3
 (with_reducible refine (same19_r _ _ _ G.peers _ _ _ G.msgs _ _ _ _ _ PAH.out SAH.out PBH.out SBH.out l1 l2 l4).mono ?_)
 rintro e wc ⟨rfl,kk⟩
 replace hHeld:=hHeld.nx kk
 clear kk PAH SAH PBH SBH HG l1 l2 l3 l4
 refine hK.out _ _ (hHeld) (fun hHeld=>?_)
 clear hK K
 try simp only [Act.put,sA,sB,sC]
 refine tkH 32 (v:=?_) rfl (by kernel_rfl) (fun _ _ _ h=>h) (by rfl) ?y215 hHeld ?_
 case y215=>intro wq hSw;go_simp<;>rfl
 try simp only [Act.put,sA,sB,sC]
 refine tkH 33 (v:=?_) rfl (by kernel_rfl) (fun _ _ _ h=>h) (by rfl) ?y218 hHeld ?_
 case y218=>intro wq hSw;go_simp<;>rfl
 try simp only [Act.put,sA,sB,sC]
 refine tkH 34 (v:=?_) rfl (by kernel_rfl) (fun _ _ _ h=>h) (by rfl) ?y221 hHeld ?_
 case y221=>intro wq hSw;(have cq0:=(B7H.out.nx hSw).cell 0 _ rfl;have cq1:=(B7H.out.nx hSw).cell 1 _ rfl;go_simp)<;>rfl
 try simp only [Act.put,sA,sB,sC]
 refine tkH 35 (v:=?_) rfl (by kernel_rfl) (fun _ _ _ h=>h) (by rfl) ?y224 hHeld ?_
 case y224=>intro wq hSw;go_simp<;>rfl
 try simp only [Act.put,sA,sB,sC]
 refine tkH 37 (v:=?_) rfl (by kernel_rfl) (fun _ _ _ h=>h) (by rfl) ?y227 hHeld ?_
 case y227=>intro wq hSw;(have cq0:=(B7H.out.nx hSw).cell 0 _ rfl;have cq1:=(B7H.out.nx hSw).cell 1 _ rfl;go_simp)<;>rfl
 try simp only [Act.put,sA,sB,sC]
 refine tkH 38 (v:=?_) rfl (by kernel_rfl) (fun _ _ _ h=>h) (by rfl) ?y230 hHeld ?_
 case y230=>intro wq hSw;go_simp<;>rfl
 try simp only [Act.put,sA,sB,sC]
 refine rH 36 (by kernel_rfl) rfl fun K hK=>?_
 go_simp
 (with_reducible refine (dbl_f _ _ _ P _ _ _ M m _ (H2.out.nx hHeld) hn2 SM.out (H3.out.nx hHeld) (by omega)).mono ?_)
 rintro e wa ⟨vA,mA,qA,rfl,FA,kk⟩
 obtain ⟨G,hG⟩:∃ G,G=dblF ⟨P,M⟩ m 4096:=⟨_,rfl⟩
 rw [← hG] at FA
 have HG:=lH hG
 clear hG
 obtain ⟨aA,cA,bA,dA,rfl,rfl,PA,SA⟩:=FA.two
 have PAH:=lH PA
 have SAH:=lH SA
 replace hHeld:=hHeld.nx kk
 clear kk FA PA SA
 refine hK.out _ _ (hHeld) (fun hHeld=>?_)
 clear hK K
 try simp only [Act.put,sA,sB,sC]
 refine rH 39 (by kernel_rfl) rfl fun K hK=>?_
 go_simp
 (with_reducible refine (dbl_r19 _ _ _ P _ _ _ M m _ (H2.out.nx hHeld) hn2 SM.out (H3.out.nx hHeld) (by omega)).mono ?_)
 rintro e wb ⟨vB,mB,qB,rfl,FB,kk⟩
 rw [← HG.out] at FB
 obtain ⟨aB,cB,bB,dB,rfl,rfl,PB,SB⟩:=FB.two
 have PBH:=lH PB
 have SBH:=lH SB
 replace PAH:=lH (PAH.out.nx kk)
 replace SAH:=lH (SAH.out.nx kk)
 replace hHeld:=hHeld.nx kk
 clear kk FB PB SB
 refine hK.out _ _ (hHeld) (fun hHeld=>?_)
 clear hK K
 try simp only [Act.put,sA,sB,sC]
 refine rH 40 (by kernel_rfl) rfl fun K hK=>?_
 go_simp
 have LN:=lenF_dbl (F:=⟨P,M⟩) FW.out hP1 hM9 m 4096
 rw [← HG.out] at LN
 obtain ⟨l1,l2,l3⟩:=LN
 have l4:=few_sm l3
 (with_reducible refine (same19_r _ _ _ G.peers _ _ _ G.msgs _ _ _ _ _ PAH.out SAH.out PBH.out SBH.out l1 l2 l4).mono ?_)
 rintro e wc ⟨rfl,kk⟩
 replace hHeld:=hHeld.nx kk
 clear kk PAH SAH PBH SBH HG l1 l2 l3 l4
 refine hK.out _ _ (hHeld) (fun hHeld=>?_)
 clear hK K
 try simp only [Act.put,sA,sB,sC]
 refine tkH 41 (v:=?_) rfl (by kernel_rfl) (fun _ _ _ h=>h) (by rfl) ?y280 hHeld ?_
 case y280=>intro wq hSw;go_simp<;>rfl
 try simp only [Act.put,sA,sB,sC]
 refine tkH 42 (v:=?_) rfl (by kernel_rfl) (fun _ _ _ h=>h) (by rfl) ?y283 hHeld ?_
 case y283=>intro wq hSw;go_simp<;>rfl
 try simp only [Act.put,sA,sB,sC]
 refine tkH 43 (v:=?_) rfl (by kernel_rfl) (fun _ _ _ h=>h) (by rfl) ?y286 hHeld ?_
 case y286=>intro wq hSw;go_simp<;>rfl
 try simp only [Act.put,sA,sB,sC]
 refine tkH 44 (v:=?_) rfl (by kernel_rfl) (fun _ _ _ h=>h) (by rfl) ?y289 hHeld ?_
 case y289=>intro wq hSw;(have cq0:=(B7H.out.nx hSw).cell 0 _ rfl;have cq1:=(B7H.out.nx hSw).cell 1 _ rfl;go_simp)<;>rfl
 try simp only [Act.put,sA,sB,sC]
 refine tkH 45 (v:=?_) rfl (by kernel_rfl) (fun _ _ _ h=>h) (by rfl) ?y292 hHeld ?_
 case y292=>intro wq hSw;go_simp<;>rfl
 try simp only [Act.put,sA,sB,sC]
 refine tkH 46 (v:=?_) rfl (by kernel_rfl) (fun _ _ _ h=>h) (by rfl) ?y295 hHeld ?_
 case y295=>intro wq hSw;go_simp<;>rfl
 try simp only [Act.put,sA,sB,sC]
 refine tkH 47 (v:=?_) rfl (by kernel_rfl) (fun _ _ _ h=>h) (by rfl) ?y298 hHeld ?_
 case y298=>intro wq hSw;go_simp<;>rfl
 try simp only [Act.put,sA,sB,sC]
 refine tkH 49 (v:=?_) rfl (by kernel_rfl) (fun _ _ _ h=>h) (by rfl) ?y301 hHeld ?_
 case y301=>intro wq hSw;go_simp<;>rfl
 try simp only [Act.put,sA,sB,sC]
 refine tkH 50 (v:=?_) rfl (by kernel_rfl) (fun _ _ _ h=>h) (by rfl) ?y304 hHeld ?_
 case y304=>intro wq hSw;(have cq0:=(B7H.out.nx hSw).cell 0 _ rfl;have cq1:=(B7H.out.nx hSw).cell 1 _ rfl;go_simp)<;>rfl
 try simp only [Act.put,sA,sB,sC]
 refine tkH 51 (v:=?_) rfl (by kernel_rfl) (fun _ _ _ h=>h) (by rfl) ?y307 hHeld ?_
 case y307=>intro wq hSw;go_simp<;>rfl
 try simp only [Act.put,sA,sB,sC]
 refine tkH 52 (v:=?_) rfl (by kernel_rfl) (fun _ _ _ h=>h) (by rfl) ?y310 hHeld ?_
 case y310=>intro wq hSw;go_simp<;>rfl
 try simp only [Act.put,sA,sB,sC]
 refine tkH 53 (v:=?_) rfl (by kernel_rfl) (fun _ _ _ h=>h) (by rfl) ?y313 hHeld ?_
 case y313=>intro wq hSw;go_simp<;>rfl
 try simp only [Act.put,sA,sB,sC]
 refine rH 48 (by kernel_rfl) rfl fun K hK=>?_
 go_simp
 (with_reducible refine (round_f _ _ _ N _ _ _ P _ _ _ M _ _ _ O _ _ _ O hh _ (HS.out.nx hHeld) (by omega) hc hm HW.out (H2.out.nx hHeld) (by omega) SF.out (H3.out.nx hHeld) (by omega) (H4.out.nx hHeld) hc4 hm4 (H4.out.nx hHeld) hc4 hm4).mono ?_)
 rintro e wa ⟨vA,mA,qA,rfl,FA,kk⟩
 obtain ⟨G,hG⟩:∃ G,G=roundF N ⟨P,M⟩ O O hh:=⟨_,rfl⟩
 rw [← hG] at FA
 have HG:=lH hG
 clear hG
 obtain ⟨aA,cA,bA,dA,rfl,rfl,PA,SA⟩:=FA.two
 have PAH:=lH PA
 have SAH:=lH SA
 replace hHeld:=hHeld.nx kk
 clear kk FA PA SA
 refine hK.out _ _ (hHeld) (fun hHeld=>?_)
 clear hK K
 try simp only [Act.put,sA,sB,sC]
 refine rH 54 (by kernel_rfl) rfl fun K hK=>?_
 go_simp
 (with_reducible refine (round_r19 _ _ _ N _ _ _ P _ _ _ M _ _ _ O _ _ _ O hh _ (HS.out.nx hHeld) (by omega) HW.out (H2.out.nx hHeld) (by omega) FW.out (H3.out.nx hHeld) (by omega) (H4.out.nx hHeld) (H4.out.nx hHeld)).mono ?_)
 rintro e wb ⟨vB,mB,qB,rfl,FB,kk⟩
 rw [← HG.out] at FB
 obtain ⟨aB,cB,bB,dB,rfl,rfl,PB,SB⟩:=FB.two
 have PBH:=lH PB
 have SBH:=lH SB
 replace PAH:=lH (PAH.out.nx kk)
 replace SAH:=lH (SAH.out.nx kk)
 replace hHeld:=hHeld.nx kk
 clear kk FB PB SB
 refine hK.out _ _ (hHeld) (fun hHeld=>?_)
 clear hK K
 try simp only [Act.put,sA,sB,sC]
 refine rH 55 (by kernel_rfl) rfl fun K hK=>?_
 go_simp
 have LN:=lenF_round (N:=N) (F:=⟨P,M⟩) FW.out O O hh
 rw [← HG.out] at LN
 obtain ⟨l1,l2,l3⟩:=LN
 have l4:=few_sm l3
 (with_reducible refine (same19_r _ _ _ G.peers _ _ _ G.msgs _ _ _ _ _ PAH.out SAH.out PBH.out SBH.out l1 l2 l4).mono ?_)
 rintro e wc ⟨rfl,kk⟩
 replace hHeld:=hHeld.nx kk
 clear kk PAH SAH PBH SBH HG l1 l2 l3 l4
 refine hK.out _ _ (hHeld) (fun hHeld=>?_)
 clear hK K
 try simp only [Act.put,sA,sB,sC]
 refine tkH 56 (v:=?_) rfl (by kernel_rfl) (fun _ _ _ h=>h) (by rfl) ?y363 hHeld ?_
 case y363=>intro wq hSw;go_simp<;>rfl
 try simp only [Act.put,sA,sB,sC]
 refine tkH 57 (v:=?_) rfl (by kernel_rfl) (fun _ _ _ h=>h) (by rfl) ?y366 hHeld ?_
 case y366=>intro wq hSw;go_simp<;>rfl
 try simp only [Act.put,sA,sB,sC]
 refine tkH 58 (v:=?_) rfl (by kernel_rfl) (fun _ _ _ h=>h) (by rfl) ?y369 hHeld ?_
 case y369=>intro wq hSw;go_simp<;>rfl
 try simp only [Act.put,sA,sB,sC]
 refine tkH 59 (v:=?_) rfl (by kernel_rfl) (fun _ _ _ h=>h) (by rfl) ?y372 hHeld ?_
 case y372=>intro wq hSw;(have cq0:=(B7H.out.nx hSw).cell 0 _ rfl;have cq1:=(B7H.out.nx hSw).cell 1 _ rfl;go_simp)<;>rfl
 try simp only [Act.put,sA,sB,sC]
 refine tkH 61 (v:=?_) rfl (by kernel_rfl) (fun _ _ _ h=>h) (by rfl) ?y375 hHeld ?_
 case y375=>intro wq hSw;go_simp<;>rfl
 try simp only [Act.put,sA,sB,sC]
 refine tkH 62 (v:=?_) rfl (by kernel_rfl) (fun _ _ _ h=>h) (by rfl) ?y378 hHeld ?_
 case y378=>intro wq hSw;(have cq0:=(B7H.out.nx hSw).cell 0 _ rfl;have cq1:=(B7H.out.nx hSw).cell 1 _ rfl;go_simp)<;>rfl
 try simp only [Act.put,sA,sB,sC]
 refine rH 60 (by kernel_rfl) rfl fun K hK=>?_
 go_simp
 (with_reducible refine (conn_f _ _ _ N _ _ _ P _ _ _ M _ (HS.out.nx hHeld) (by omega) hc hm (H2.out.nx hHeld) (by omega) SF.out (H3.out.nx hHeld) (by omega)).mono ?_)
 rintro e wa ⟨rfl,kk⟩
 replace hHeld:=hHeld.nx kk
 clear kk
 refine hK.out _ _ (hHeld) (fun hHeld=>?_)
 clear hK K
 try simp only [Act.put,sA,sB,sC]
 refine rH 63 (by kernel_rfl) rfl fun K hK=>?_
 go_simp
 (with_reducible refine (connected_r19 _ _ _ N _ _ _ P _ _ _ M _ (HS.out.nx hHeld) (by omega) (H2.out.nx hHeld) (by omega) F2.out (H3.out.nx hHeld) (by omega)).mono ?_)
 rintro e wb ⟨rfl,kk⟩
 replace hHeld:=hHeld.nx kk
 generalize conF N ⟨P,M⟩=cf
 have dcf:(cf==cf)=true:=by simp
 clear kk
 refine hK.out _ _ (hHeld) (fun hHeld=>?_)
 clear hK K
 try simp only [Act.put,sA,sB,sC]
 refine tkH 64 (v:=?_) rfl (by kernel_rfl) (fun _ _ _ h=>h) (by rfl) ?y403 hHeld ?_
 case y403=>intro wq hSw;go_simp<;>rfl
 try simp only [Act.put,sA,sB,sC]
 refine tkH 65 (v:=?_) rfl (by kernel_rfl) (fun _ _ _ h=>h) (by rfl) ?y406 hHeld ?_
 case y406=>intro wq hSw;go_simp<;>rfl
 try simp only [Act.put,sA,sB,sC]
 refine wpAnyH_take (i := 66) (oi := ⟨some 12, .assign (.tmp 78), 4, "law.go:38", (#[⟨65, .data⟩, ⟨63, .chain⟩, ⟨0, .phase⟩, ⟨1, .phase⟩, ⟨2, .phase⟩, ⟨3, .phase⟩, ⟨4, .phase⟩, ⟨5, .phase⟩, ⟨6, .phase⟩, ⟨7, .phase⟩, ⟨8, .phase⟩, ⟨9, .phase⟩, ⟨10, .phase⟩, ⟨11, .phase⟩, ⟨12, .phase⟩, ⟨13, .phase⟩, ⟨14, .phase⟩, ⟨15, .phase⟩, ⟨16, .phase⟩, ⟨17, .phase⟩, ⟨18, .phase⟩, ⟨19, .phase⟩, ⟨20, .phase⟩, ⟨21, .phase⟩, ⟨22, .phase⟩, ⟨23, .phase⟩, ⟨24, .phase⟩, ⟨25, .phase⟩, ⟨26, .phase⟩, ⟨27, .phase⟩, ⟨28, .phase⟩, ⟨29, .phase⟩, ⟨30, .phase⟩, ⟨31, .phase⟩, ⟨32, .phase⟩, ⟨33, .phase⟩, ⟨34, .phase⟩, ⟨35, .phase⟩, ⟨36, .phase⟩, ⟨37, .phase⟩, ⟨38, .phase⟩, ⟨39, .phase⟩, ⟨40, .phase⟩, ⟨41, .phase⟩, ⟨42, .phase⟩, ⟨43, .phase⟩, ⟨44, .phase⟩, ⟨45, .phase⟩, ⟨46, .phase⟩, ⟨47, .phase⟩] ++ #[⟨48, .phase⟩, ⟨49, .phase⟩, ⟨50, .phase⟩, ⟨51, .phase⟩, ⟨52, .phase⟩, ⟨53, .phase⟩, ⟨54, .phase⟩, ⟨55, .phase⟩, ⟨56, .phase⟩, ⟨57, .phase⟩, ⟨58, .phase⟩, ⟨59, .phase⟩, ⟨60, .phase⟩, ⟨61, .phase⟩, ⟨62, .phase⟩, ⟨63, .phase⟩, ⟨64, .phase⟩, ⟨65, .phase⟩]), none⟩) (v := ?_) rfl (by kernel_rfl) (by kernel_rfl) (by kernel_rfl) (fun _ _ _ h => h) (Or.inl ⟨by rfl, ?y409⟩) (by assumption) ?_
 case y409=>intro wq hSw;go_simp<;>rfl
 try simp only [Act.put,sA,sB,sC]
 refine wpAnyH_done (by kernel_rfl) ?_ _
 have KE:=lH (K1.out.nx hHeld)
 clear hHeld hDrew
 go_wp2_with fail
 go_ret
 exact ⟨rfl,KE.out⟩
theorem Tryz.gLet : Tryz.prog.globalNamed "skipgraph/skipgraphworld.letters" = some 0 := by kernel_rfl
theorem Tryz.tLet:(Tryz.prog.globals[0]?).map (·.type)=some 110:=by kernel_rfl
theorem Tryz.cells6:Tryz.prog.cellsOf 110=6:=by kernel_rfl
theorem Tryz.cellsStr:Tryz.prog.cellsOf 9=1:=by kernel_rfl
def letL:List (List UInt8):=[[97],[98],[99],[0],[255],[109]]
theorem cells_of_strs {H:Type} {enc:TypeId×Value→H} {P:Program} {w:World} {base:Nat} {sp:Nat→Bool} {held:Bool} {fuel:Nat} {t e:TypeId} {n:Nat} {cs:List Value} {zs:List (List UInt8)} {p:List MemPlace}
  (ht:P.underlying t=some (.array n e)) (he:P.underlying e=some .string) (hce:P.cellsOf e=1) (hct:P.cellsOf t=n)
  (h:DataW.trod enc P w base sp held fuel t cs=some (.agg (zs.map fun z=>.lit (.string z)),p)):∀ (i:Nat) (z:List UInt8),zs[i]?=some z→∃ s:ByteArray,s.data.toList=z∧cs[i]?=some (.string s):=by
 cases fuel with
 | zero=>simp [DataW.trod] at h
 | succ fuel =>
  simp only [DataW.trod,ht,hce,hct,Nat.mul_one] at h
  split at h
  ·rename_i hl
   obtain ⟨xs,hm,hx⟩:=Option.map_eq_some_iff.1 h
   have hxs:xs.map (·.1)=zs.map fun z=>(DataW.lit (.string z):DataW H):=by
    have:=congrArg Prod.fst hx
    simpa using this
   have hxl:xs.length=n:=by simpa using Lib.mapM_length hm
   have hzl:zs.length=n:=by
    have:=congrArg List.length hxs
    simp at this
    omega
   intro i z hz
   have hi:i<n:=by have:=(List.getElem?_eq_some_iff.1 hz).1;omega
   obtain ⟨b,hb,hf⟩:=Lib.mapM_at hm i i (by simp [hi])
   obtain ⟨s,hc,rfl,_⟩:=DataW.trod_string he hf
   have h1:cs[i]?=some (.string s):=by
    have:=congrArg (·[0]?) hc
    simpa [List.getElem?_take,List.getElem?_drop] using this
   have h2:(xs.map (·.1))[i]?=some (DataW.lit (.string s.data.toList):DataW H):=by simp [hb]
   rw [hxs] at h2
   simp only [List.getElem?_map,Option.map_eq_some_iff,DataW.lit.injEq,Lit.string.injEq] at h2
   obtain ⟨z',hz',hzz⟩:=h2
   have:z=z':=Option.some.inj (hz.symm.trans hz')
   exact ⟨s,by rw [this,hzz],h1⟩
  ·cases h
theorem laid_let {H:Type}:(Rows.laid_skipgraph_skipgraphworld_letters:DataW H)=.agg (letL.map fun z=>.lit (.string z)):=rfl
theorem letG_head {rest : List (String × DataW Unit)} {W : World} (h : laidMet Tryz.prog (("skipgraph/skipgraphworld.letters", .agg (letL.map fun z => .lit (.string z))) :: rest) W) : LetG W := by
 obtain ⟨ps,⟨g',t',cs,fuel,p,q,hg',ht',hvar,hd,_,_⟩,_⟩:=h
 obtain rfl:=Option.some.inj (Tryz.gLet.symm.trans hg')
 obtain rfl:=Option.some.inj (Tryz.tLet.symm.trans ht')
 intro j hj
 obtain ⟨z,hz⟩:∃ z,letL[j]?=some z:=⟨letL[j]'(by simp [letL];omega),by simp⟩
 obtain ⟨s,h1,h2⟩:=cells_of_strs Tryz.underlying110 Tryz.underlying9 Tryz.cellsStr Tryz.cells6 hd j z hz
 refine ⟨s,?_,?_⟩
 ·have hl:z.length=1:=by
   have:∀ j,j<6→(letL[j]?.getD []).length=1:=by decide
   have:=this j hj
   rw [hz] at this
   exact this
  have:s.data.toList.length=1:=by rw [h1];exact hl
  rw [Array.length_toList] at this
  exact this
 ·rw [World.var?_cell Tryz.gLet hvar j]
  simpa using h2
theorem letG_of {rest : List (String × DataW Unit)} {W : World} (h : laidMetH Tryz.prog (("skipgraph/skipgraphworld.letters", Rows.laid_skipgraph_skipgraphworld_letters) :: rest) W)
  (hp : ((("skipgraph/skipgraphworld.letters", Rows.laid_skipgraph_skipgraphworld_letters) :: rest).all fun x => x.2.handleName?.isNone) = true) : LetG W := by
 rw [MakeChecks.laidMetH_plain _ _ _ hp,laid_let] at h
 exact letG_head h
open Go.ChangeShapes Go.WideShapes Go.ChangeAt Go.RowKit Go.Deep Go.Joins
def PrIn (w:World) (p:Pr→Prop):={ q:PQ×Pr // PrV w q.1 q.2∧p q.2 }
def encPrIn (w:World) (p:Pr→Prop) (q:PrIn w p):List Value:=encQ q.1.1
theorem peers_of {w:World} {p:Pr→Prop} {a:Option Addr} {n:Nat} {l:List (PrIn w p)} (h:Rd 5 (encPrIn w p) (· < w.heap.size) w a n l):∃ P:List Pr,PL w a n P∧∀ x∈P,p x:=by
 refine ⟨l.map (fun q=>q.1.2),⟨l.map (fun q=>q.1.1),⟨by rw [List.length_map];exact h.1,?_⟩,by rw [List.length_map];exact h.1,fun j q x hq hx=>?_⟩,fun c hc=>?_⟩
 ·rcases h.2 with h2 | ⟨x,o,e1,e2,e3⟩
  ·exact .inl h2
  ·refine .inr ⟨x,o,e1,e2,fun j y hj c u hu=>?_⟩
   rw [List.getElem?_map] at hj
   cases hl:l[j]? with
   | none=>rw [hl] at hj;cases hj
   | some z =>
    rw [hl] at hj
    simp only [Option.map_some,Option.some.injEq] at hj
    subst hj
    exact e3 j z hl c u hu
 ·rw [List.getElem?_map] at hq hx
  cases hl:l[j]? with
  | none=>rw [hl] at hq;cases hq
  | some z =>
   rw [hl] at hq hx
   simp only [Option.map_some,Option.some.injEq] at hq hx
   subst hq hx
   exact z.2.1
 ·obtain ⟨z,_,rfl⟩:=List.mem_map.1 hc
  exact z.2.2
open Go.ChangeShapes Go.WideShapes Go.ChangeAt Go.RowKit Go.Deep Go.Joins
section
variable {H:Type} {enc:TypeId×Value→H} {P:Program} {w:World} {base:Nat} {spare:Nat→Bool} {held:Bool}
def Wle (P:Program) (t:TypeId) (d:DataW H):Prop:=∀ n∈d.weights P t,n≤reachBytes
theorem wleAll_mem {e:TypeId}:∀ {l:List (DataW H)} {d:DataW H},d∈l→∀ n∈d.weights P e,n∈DataW.weightsAll P e l
 | d'::r,d,hd,n,hn=>by
  simp only [DataW.weightsAll,List.mem_append]
  rcases List.mem_cons.1 hd with rfl | h
  ·exact Or.inl hn
  ·exact Or.inr (wleAll_mem h n hn)
theorem wle_len {t e:TypeId} {es sp:List (DataW H)} (hu:P.underlying t=some (.slice e)) (h:Wle P t (.slice es sp)):(es.length+sp.length)*P.bytesOf e≤reachBytes:=h _ (by simp [DataW.weights,hu])
theorem wle_elem {t e:TypeId} {es sp:List (DataW H)} (hu:P.underlying t=some (.slice e)) (h:Wle P t (.slice es sp)) {d:DataW H} (hd:d∈es∨d∈sp):Wle P e d:=fun n hn=>h n (by
 simp only [DataW.weights,hu,List.mem_cons,List.mem_append]
 rcases hd with hd | hd
 ·exact Or.inr (Or.inl (wleAll_mem hd n hn))
 ·exact Or.inr (Or.inr (wleAll_mem hd n hn)))
theorem wle_field {e:TypeId} {fs:Array Field} {ps:List (DataW H)} (hu:P.underlying e=some (.struct fs)) (h:Wle P e (.agg ps)) {j:Nat} {f:Field} {d:DataW H} (hf:fs[j]?=some f) (hd:ps[j]?=some d):Wle P f.type d:=fun n hn=>h n (by
 simp only [DataW.weights,hu]
 exact DataW.weights_mem_each (ts:=fs.toList.map (·.type)) (by simp [hf]) hd n hn)
theorem wle_arg {ts:List TypeId} {ds:List (DataW H)} (h:(DataW.weightsEach P ts ds).all (·≤reachBytes)=true) {j:Nat} {t:TypeId} {d:DataW H} (ht:ts[j]?=some t) (hd:ds[j]?=some d):Wle P t d:=fun n hn =>
 of_decide_eq_true (List.all_eq_true.1 h _ (DataW.weights_mem_each ht hd n hn))
theorem open_slice_fields_v {t e:TypeId} {fs:Array Field} {fuel:Nat} {cs:List Value} {x:DataW H×List MemPlace} (ht:P.underlying t=some (.slice e)) (he:P.underlying e=some (.struct fs))
  (hone:oneCellFields P fs=true) (hC:P.cellsOf e=fs.size) (h:DataW.trod enc P w base spare held fuel t cs=some x) (hv:Wle P t x.1) :
  (cs=[.slice none 0 0]∧x=(.nil,[])) ∨
  ∃ (a:Addr) (len cap m:Nat),cs=[.slice (some a) len cap]∧len≤cap∧cap≤maxLen∧m=(if spare a.block then cap else len)∧len*P.bytesOf e≤reachBytes ∧
   ∀ i,i<m→∃ (n:Nat),∀ (j:Nat) (f:Field),fs[j]?=some f→∃ (v:Value) (y:DataW H×List MemPlace),w.cell? (a.add (i*fs.size+j))=some v∧DataW.trod enc P w base spare held n f.type [v]=some y∧Wle P f.type y.1:=by
 rcases open_slice ht h with h0 | ⟨a,len,cap,m,n,D,Pl,hcs,hb,hl,hm,hmm,hx,hi⟩
 ·exact .inl h0
 ·rw [hx] at hv
  have hsl:len*P.bytesOf e≤reachBytes:=by
   have h1:=wle_len ht hv
   rw [List.length_map,List.length_range] at h1
   exact Nat.le_trans (Nat.mul_le_mul_right _ (by omega)) h1
  have hlm:len≤m:=by rw [hmm];split<;>omega
  have hD:∀ i,i<m→Wle P e (D i):=fun i him=>by
   by_cases hil:i<len
   ·exact wle_elem ht hv (.inl (List.mem_map.2 ⟨i,List.mem_range.2 hil,rfl⟩))
   ·exact wle_elem ht hv (.inr (List.mem_map.2 ⟨i-len,List.mem_range.2 (by omega),by rw [show len+(i-len)=i by omega]⟩))
  refine .inr ⟨a,len,cap,m,hcs,hl,hm,hmm,hsl,fun i him=>?_⟩
  obtain ⟨cs',hc,ht'⟩:=hi i him
  rw [hC] at hc
  obtain ⟨ys,n',hn',hy,hlen,hyl,hf⟩:=DataW.trod_struct he ht'
  obtain ⟨_,hcl,hat⟩:=World.cells?_some hc
  refine ⟨n',fun j f hj=>?_⟩
  obtain ⟨ho,hk⟩:=hone_of hone j f hj
  have hjl:j<fs.size:=(Array.getElem?_eq_some_iff.1 hj).1
  have hcell:=hat j hjl
  have hv:cs'[j]?=some (cs'[j]'(by omega)):=List.getElem?_eq_getElem (by omega)
  have h1:=hf j f hj
  rw [ho,hk] at h1
  have hone':(cs'.drop j).take 1=[cs'[j]'(by omega)]:=by
   rw [List.drop_eq_getElem_cons (by omega)]
   rfl
  rw [hone'] at h1
  have hys:ys[j]?=some (ys[j]'(by omega)):=List.getElem?_eq_getElem (by omega)
  refine ⟨_,_,?_,h1.trans hys,?_⟩
  ·rw [← Go.Deep.add_add,hcell,hv]
  ·have e1:D i=.agg (ys.map (·.1)):=congrArg Prod.fst hy
   exact wle_field he (e1▸hD i him) hj (by rw [List.getElem?_map,hys];rfl)
theorem rd_from_v {α:Type} {encS:α→List Value} {fs:Array Field} {x:Addr} {len m:Nat} (hk0:0<fs.size) (hlm:len≤m) {Q:Value→TypeId→Nat→Prop}
  (hi:∀ i,i<m→∃ (n:Nat),∀ (j:Nat) (f:Field),fs[j]?=some f→∃ (v:Value),w.cell? (x.add (i*fs.size+j))=some v∧Q v f.type n)
  (hel:∀ (n:Nat) (cell:Nat→Option Value),(∀ (j:Nat) (f:Field),fs[j]?=some f→∃ (v:Value),cell j=some v∧Q v f.type n)→∃ y:α,∀ c u,(encS y)[c]?=some u→cell c=some u) :
  ∃ l,Rd fs.size encS (· < w.heap.size) w (some x) len l:=by
 obtain ⟨l,hll,hlp⟩:=list_of (p:=fun i (y:α)=>∀ c u,(encS y)[c]?=some u→w.cell? (x.add (i*fs.size+c))=some u) len (fun i hi'=>by
  obtain ⟨n,hn⟩:=hi i (by omega)
  exact hel n (fun j=>w.cell? (x.add (i*fs.size+j))) hn)
 refine ⟨l,hll,?_⟩
 rcases Nat.eq_zero_or_pos len with h0 | h0
 ·exact .inl h0
 ·obtain ⟨n,hn⟩:=hi 0 (by omega)
  obtain ⟨v0,hv0,_⟩:=hn 0 (fs[0]) (by simp)
  have hv0:w.cell? (x.add 0)=some v0:=by simpa using hv0
  have hx:=addr_lit hv0
  refine .inr ⟨x.block,x.off,by rw [← hx],?_,fun j y hj c u hu=>?_⟩
  ·have:=World.block_lt_of_cell? w _ hv0
   rw [hx] at this
   simpa [Addr.add] using this
  ·have:=hlp j y hj c u hu
   rw [hx,Addr.add_lit] at this
   simpa [Nat.add_assoc] using this
theorem rd_structs_v {α:Type} {k n0:Nat} {encS:α→List Value} {t e:TypeId} {fs:Array Field} {v:Value} {y0:DataW H×List MemPlace} (ht:P.underlying t=some (.slice e)) (he:P.underlying e=some (.struct fs))
  (hone:oneCellFields P fs=true) (hC:P.cellsOf e=fs.size) (hk:fs.size=k) (hk0:0<k) (hf:DataW.trod enc P w base spare held n0 t [v]=some y0) (hM:Wle P t y0.1)
  (hel:∀ (n:Nat) (cell:Nat→Option Value),(∀ (j:Nat) (f:Field),fs[j]?=some f→∃ (v:Value),cell j=some v∧∃ y:DataW H×List MemPlace,DataW.trod enc P w base spare held n f.type [v]=some y∧Wle P f.type y.1)→∃ y:α,∀ c u,(encS y)[c]?=some u→cell c=some u) :
  ∃ a n c l,v=.slice a n c∧Rd k encS (· < w.heap.size) w a n l∧n≤c∧c≤maxLen∧n*P.bytesOf e≤reachBytes:=by
 subst hk
 rcases open_slice_fields_v ht he hone hC hf hM with ⟨hcs,_⟩ | ⟨x,len,cap,m,hcs,hl,hm,hmm,hsl,hi⟩
 ·simp at hcs
  subst hcs
  exact ⟨none,0,0,[],rfl,Rd.nil _ _ _ _ _,by omega,by unfold maxLen;omega,by simp⟩
 ·simp at hcs
  subst hcs
  have hlm:len≤m:=by rw [hmm];split<;>omega
  obtain ⟨l,hr⟩:=rd_from_v (w:=w) (encS:=encS) (fs:=fs) (x:=x) (len:=len) (m:=m) hk0 hlm (Q:=fun v t n=>∃ y:DataW H×List MemPlace,DataW.trod enc P w base spare held n t [v]=some y∧Wle P t y.1)
   (fun i him=>by
    obtain ⟨n,hn⟩:=hi i him
    exact ⟨n,fun j f hj=>by
     obtain ⟨v,y,h1,h2,h3⟩:=hn j f hj
     exact ⟨v,h1,y,h2,h3⟩⟩) hel
  exact ⟨_,len,cap,l,rfl,hr,hl,hm,hsl⟩
theorem rd_ints_v {n0:Nat} {t e:TypeId} {k:IntKind} {v:Value} {y0:DataW H×List MemPlace} (ht:P.underlying t=some (.slice e)) (he:P.underlying e=some (.int k)) (hC:P.cellsOf e=1)
  (hf:DataW.trod enc P w base spare held n0 t [v]=some y0) (hM:Wle P t y0.1) :
  ∃ a n c l,v=.slice a n c∧Rd 1 (fun x:Int=>[Value.int k x]) (· < w.heap.size) w a n l∧n≤c∧c≤maxLen∧n*P.bytesOf e≤reachBytes∧∀ x∈l,(Lit.int k x).wf=true:=by
 have hb:∀ a len cap,v=.slice (some a) len cap→len*P.bytesOf e≤reachBytes:=by
  rcases open_slice ht hf with ⟨hcs,_⟩ | ⟨a,len,cap,m,n,D,Pl,hcs,_,hl,hm,hmm,hx,_⟩
  ·intro a len cap hv
   subst hv
   simp at hcs
  ·intro a' len' cap' hv
   subst hv
   simp at hcs
   obtain ⟨rfl,rfl,rfl⟩:=hcs
   rw [hx] at hM
   have h1:=wle_len ht hM
   rw [List.length_map,List.length_range] at h1
   exact Nat.le_trans (Nat.mul_le_mul_right _ (by omega)) h1
 rcases open_ints ht he hC hf with ⟨hcs,_⟩ | ⟨x,l,c,zs,hcs,_,hl,hm,hz,_,hcell,hwz⟩
 ·simp at hcs
  subst hcs
  exact ⟨none,0,0,[],rfl,Rd.nil _ _ _ _ _,by omega,by unfold maxLen;omega,by simp,by simp⟩
 ·simp at hcs
  subst hcs
  have hz':l≤zs.length:=by rw [hz];split<;>omega
  refine ⟨_,l,c,zs.take l,rfl,⟨by simp;omega,?_⟩,hl,hm,hb _ _ _ rfl,fun y hy=>hwz y (List.mem_of_mem_take hy)⟩
  rcases Nat.eq_zero_or_pos l with h0 | h0
  ·exact .inl h0
  ·have hx:=addr_lit (hcell 0 (by omega))
   refine .inr ⟨x.block,x.off,by rw [← hx],?_,fun j y hj d u hu=>?_⟩
   ·have:=World.block_lt_of_cell? w _ (hcell 0 (by omega))
    rw [hx] at this
    simpa [Addr.add] using this
   ·have hj':j<l:=by
     have:=(List.getElem?_eq_some_iff.1 hj).1
     simp at this;omega
    have hy:zs.getD j 0=y:=by
     rw [List.getElem?_take,if_pos hj'] at hj
     simp [List.getD,hj]
    have hc:=hcell j (by omega)
    rw [hx,Addr.add_lit,hy] at hc
    rcases d with _ | d
    ·simp at hu;subst hu;simpa using hc
    ·simp at hu
end
theorem Tryz.cellsIntV:Tryz.prog.cellsOf 3=1:=by kernel_rfl
theorem Tryz.cellsNearV:Tryz.prog.cellsOf 69=4:=by kernel_rfl
theorem Tryz.cellsPeerV:Tryz.prog.cellsOf 36=5:=by kernel_rfl
theorem Tryz.bytesIntV:Tryz.prog.bytesOf 3=8:=by kernel_rfl
theorem Tryz.bytesNearV:Tryz.prog.bytesOf 69=32:=by kernel_rfl
def WtV (p:Pr):Prop:=p.known.length≤17592186044416∧p.near.length≤4398046511104
set_option maxHeartbeats 1000000 in
theorem rd_peers_v {H:Type} {enc:TypeId×Value→H} {w:World} {base:Nat} {spare:Nat→Bool} {held:Bool} {n0:Nat} {v:Value} {y0:DataW H×List MemPlace}
  (hf:DataW.trod enc Tryz.prog w base spare held n0 24 [v]=some y0) (hM:Wle Tryz.prog 24 y0.1) :
  ∃ a n c P,v=.slice a n c∧PL w a n P∧n≤c∧c≤maxLen∧∀ p∈P,WtV p:=by
 obtain ⟨a,n,c,l,rfl,rd,hc,hm,_⟩:=rd_structs_v (encS:=encPrIn w (WtV)) (k:=5) Tryz.underlying24 Tryz.underlying36 (by kernel_rfl) Tryz.cellsPeerV rfl (by omega) hf hM
  (fun n cell hf=>by
   obtain ⟨v0,c0,y0,t0,_⟩:=hf 0 _ rfl
   obtain ⟨v1,c1,y1,t1,m1⟩:=hf 1 _ rfl
   obtain ⟨v2,c2,y2,t2,_⟩:=hf 2 _ rfl
   obtain ⟨v3,c3,y3,t3,_⟩:=hf 3 _ rfl
   obtain ⟨v4,c4,y4,t4,m4⟩:=hf 4 _ rfl
   obtain ⟨i0,e0,rfl,_⟩:=DataW.trod_int Tryz.underlying3 t0
   obtain ⟨i2,e2,rfl,_⟩:=DataW.trod_int Tryz.underlying3 t2
   obtain ⟨i3,e3,rfl,_⟩:=DataW.trod_int Tryz.underlying3 t3
   simp at e0 e2 e3
   subst e0 e2 e3
   obtain ⟨a1,n1,k1,l1,rfl,r1,_,_,h1,_⟩:=rd_ints_v Tryz.underlying22 Tryz.underlying3 Tryz.cellsIntV t1 m1
   obtain ⟨a4,n4,k4,l4,rfl,r4,_,_,h4⟩:=rd_structs_v (encS:=encNr) (k:=4) Tryz.underlying34 Tryz.underlying69 (by kernel_rfl) Tryz.cellsNearV rfl (by omega) t4 m4
    (fun n cell hf=>by
     obtain ⟨v0,c0,y0,t0,_⟩:=hf 0 _ rfl
     obtain ⟨v1,c1,y1,t1,_⟩:=hf 1 _ rfl
     obtain ⟨v2,c2,y2,t2,_⟩:=hf 2 _ rfl
     obtain ⟨v3,c3,y3,t3,_⟩:=hf 3 _ rfl
     obtain ⟨i0,e0,rfl,_⟩:=DataW.trod_int Tryz.underlying3 t0
     obtain ⟨i1,e1,rfl,_⟩:=DataW.trod_int Tryz.underlying3 t1
     obtain ⟨i2,e2,rfl,_⟩:=DataW.trod_int Tryz.underlying3 t2
     obtain ⟨i3,e3,rfl,_⟩:=DataW.trod_int Tryz.underlying3 t3
     simp at e0 e1 e2 e3
     subst e0 e1 e2 e3
     refine ⟨((i0,i1,i2,i3):Nr),fun c u hu=>?_⟩
     rcases c with _ | _ | _ | _ | c
     ·simp [encNr] at hu;subst hu;exact c0
     ·simp [encNr] at hu;subst hu;exact c1
     ·simp [encNr] at hu;subst hu;exact c2
     ·simp [encNr] at hu;subst hu;exact c3
     ·simp [encNr] at hu)
   have q1:l1.length=n1:=r1.1
   have q4:l4.length=n4:=r4.1
   refine ⟨⟨(((i0,i2,i3),(a1,n1,k1),(a4,n4,k4)),⟨i0,i2,i3,l1,l4⟩),⟨rfl,r1,r4⟩,by show l1.length≤17592186044416;rw [Tryz.bytesIntV] at h1;unfold reachBytes at h1;omega,by show l4.length≤4398046511104;rw [Tryz.bytesNearV] at h4;unfold reachBytes at h4;omega⟩,fun c u hu=>?_⟩
   rcases c with _ | _ | _ | _ | _ | c
   ·simp [encPrIn,encQ] at hu;subst hu;exact c0
   ·simp [encPrIn,encQ,Hdr.val] at hu;subst hu;exact c1
   ·simp [encPrIn,encQ] at hu;subst hu;exact c2
   ·simp [encPrIn,encQ] at hu;subst hu;exact c3
   ·simp [encPrIn,encQ,Hdr.val] at hu;subst hu;exact c4
   ·simp [encPrIn,encQ] at hu)
 obtain ⟨P,hP,hw⟩:=peers_of rd
 exact ⟨a,n,c,P,rfl,hP,hc,hm,hw⟩
end Go.Proofs.YtalmjklljofhbaaGreatDoor
