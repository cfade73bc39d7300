/- Texts for FlightStepsProof. -/
import Derived.Test.YtalmjklljofhbaaGreatDoorFlightStepsProofL32
import Derived.Test.YtalmjklljofhbaaGreatDoorFlightStepsProofL34
import Derived.Test.YtalmjklljofhbaaGreatDoorFlightStepsProofL35
set_option linter.unusedSimpArgs false
set_option linter.unusedVariables false

namespace Go.Proofs.YtalmjklljofhbaaGreatDoor
open Go.RowKit
set_option maxRecDepth 100000 in
set_option maxHeartbeats 4000000 in
theorem new_r19 (a:Option Addr) (n c:Nat) (N:List Nd) (a2:Option Addr) (n2 c2:Nat) (P:List Pr) (w:World) (h:Sl 3 encN w a n N) (hn:n≤1000) (h2:PL w a2 n2 P) (hn2:n2≤1000000) (hP:SmallP P) :
  Calls Tryz.prog 32 #[.slice a n c,.slice a2 n2 c2] w (FlPost ⟨normalN N P,[]⟩ w):=by
 have SM:=lH hP
 have B4:=Blk.new w [.slice none 0 0,.slice none 0 0] 27
 have kk:=Ex.new w (.cells #[.slice none 0 0,.slice none 0 0] 27)
 obtain ⟨w1,hw1⟩:∃ w1,w1=w.alloc (.cells #[.slice none 0 0,.slice none 0 0] 27):=⟨_,rfl⟩
 obtain ⟨g4,hg4⟩:∃ g4,g4=w.heap.size:=⟨_,rfl⟩
 replace B4:Blk w1 g4 [.slice none 0 0,.slice none 0 0] 27:=by rw [hw1,hg4];exact B4
 rw [← hw1] at kk
 have Hw1:=lH hw1
 have Hg4:=lH hg4
 replace h:=h.nx kk
 replace h2:=h2.nx kk
 have zg4:w.heap.size≤g4:=by omega
 have hb4:=B4.lt
 have K1:=lH kk
 clear kk hw1 hg4 hP
 go_enter Tryz.func32,Tryz.ntmps32
 go_upto_region 1 with fail
 rw [← Hg4.out,← Hw1.out]
 clear Hg4 Hw1
 go_wp2_with fail
 (with_reducible refine (normal_r _ _ _ N _ _ _ P _ h hn h2 hn2 SM.out).mono ?_)
 rintro e w2 ⟨vP,qs,rfl,oP,kk⟩
 replace B4:=B4.nx kk
 obtain ⟨aP,cP,rfl,_,_,_,_,_⟩:=oP.pl
 have r0:=B4.cell 0 _ rfl
 have r1:=B4.cell 1 _ rfl
 have f0:=B4.free 0
 have f1:=B4.free 1
 have K2:=lH (K1.out.nx kk)
 have OP:=lH oP
 have B4H:=lH B4
 clear kk h h2 oP B4
 go_wp2_with fail
 obtain ⟨wz,hwz⟩:∃ wz,wz=(w2.setCell ⟨g4,0,none⟩ (.slice aP (normalN N P).length cP)).setCell ⟨g4,1,none⟩ (.slice none 0 0):=⟨_,rfl⟩
 have BZ:Blk wz g4 [.slice aP (normalN N P).length cP,.slice none 0 0] 27:=by rw [hwz];exact (B4H.out.set 0 _).set 1 _
 have KB:Exb g4 w2 wz:=by rw [hwz];exact ((Exb.refl g4 _).setB (p:=⟨g4,0,none⟩) _ rfl).setB (p:=⟨g4,1,none⟩) _ rfl
 have KE:Ex w wz:=by rw [hwz];exact (K2.out.setNew (p:=⟨g4,0,none⟩) _ zg4).setNew (p:=⟨g4,1,none⟩) _ zg4
 have FO:=lH (show FlOwn w.heap.size wz (.slice aP (normalN N P).length cP) (.slice none 0 0) qs ⟨normalN N P,[]⟩ from ⟨(OP.out.nxb hb4 KB).lower K1.out.size,OwnL.nil _ _ _ _ _⟩)
 rw [← hwz]
 have q0:=BZ.cell 0 _ rfl
 have q1:=BZ.cell 1 _ rfl
 clear r0 r1 f0 f1 hwz
 refine bodyPost_ret (v:=.agg #[.slice aP (normalN N P).length cP,.slice none 0 0]) (by simp [results,Tryz.results32,go_sem, *]) rfl ⟨_,_,qs,rfl,FO.out,KE⟩
def S19Rel (n:Nat) (w:World) (i:Value) (wr:World):Prop:=∃ k:Nat,k≤n∧i=.int .i64 k∧Ex w wr
set_option maxRecDepth 100000 in
set_option maxHeartbeats 8000000 in
theorem same19_r (a1:Option Addr) (n1 c1:Nat) (P:List Pr) (b1:Option Addr) (m1 d1:Nat) (M:List (Int×Int)) (a2:Option Addr) (c2:Nat) (b2:Option Addr) (d2:Nat) (w:World) (h1:PL w a1 n1 P) (k1:Sl 2 encS w b1 m1 M) (h2:PL w a2 n1 P) (k2:Sl 2 encS w b2 m1 M)
  (hn:n1≤1000) (hm:m1≤1000000) (hP:∀ p∈P,p.known.length≤4000000000000000000∧p.near.length≤4000000000000000000) :
  Calls Tryz.prog 34 #[.agg #[.slice a1 n1 c1,.slice b1 m1 d1],.agg #[.slice a2 n1 c2,.slice b2 m1 d2]] w fun e w'=>e=.returned (.bool true)∧Ex w w':=by
 obtain ⟨g2,hg2⟩:∃ g2,g2=w.heap.size:=⟨_,rfl⟩
 obtain ⟨g3,hg3⟩:∃ g3,g3=(w.heap.size+1):=⟨_,rfl⟩
 obtain ⟨w1,hw1⟩:∃ w1,w1=((w.alloc (.cells #[.slice a1 n1 c1,.slice b1 m1 d1] 27)).alloc (.cells #[.slice a2 n1 c2,.slice b2 m1 d2] 27)):=⟨_,rfl⟩
 have kk:Ex w w1:=by rw [hw1];exact (((Ex.refl w).alloc (.cells #[.slice a1 n1 c1,.slice b1 m1 d1] 27)).alloc (.cells #[.slice a2 n1 c2,.slice b2 m1 d2] 27))
 have B2:Blk w1 g2 [.slice a1 n1 c1,.slice b1 m1 d1] 27:=by rw [hw1];simp only [hg2,hg3];have hbk:=((Blk.new w [.slice a1 n1 c1,.slice b1 m1 d1] 27).nx (Ex.new _ (.cells #[.slice a2 n1 c2,.slice b2 m1 d2] 27)));simpa using hbk
 have B3:Blk w1 g3 [.slice a2 n1 c2,.slice b2 m1 d2] 27:=by rw [hw1];simp only [hg2,hg3];have hbk:=(Blk.new (w.alloc (.cells #[.slice a1 n1 c1,.slice b1 m1 d1] 27)) [.slice a2 n1 c2,.slice b2 m1 d2] 27);simpa using hbk
 have Hw1:=lH hw1
 have Hg2:=lH hg2
 have Hg3:=lH hg3
 replace h1:=h1.nx kk
 replace k1:=k1.nx kk
 replace h2:=h2.nx kk
 replace k2:=k2.nx kk
 have K1:=lH kk
 clear kk hw1 hg2 hg3
 go_enter Tryz.func34,Tryz.ntmps34
 go_upto_region 1 with fail
 rw [← Hw1.out,← Hg3.out,← Hg2.out]
 clear Hw1 Hg3 Hg2
 have b0:=B2.cell 0 _ rfl
 have b1':=B2.cell 1 _ rfl
 have e0:=B3.cell 0 _ rfl
 have e1:=B3.cell 1 _ rfl
 go_wp2_with fail
 (with_reducible refine (same14_r _ _ _ P _ _ _ h1 h2 hn hP).mono ?_)
 rintro e w2 ⟨rfl,kk⟩
 have KK:=lH (K1.out.nx kk)
 have B2:=B2.nx kk
 have B3:=B3.nx kk
 have S1:=lH (k1.nx kk)
 have S2:=lH (k2.nx kk)
 clear b0 b1' e0 e1 kk h1 h2 k1 k2
 have b1':=B2.cell 1 _ rfl
 have e1:=B3.cell 1 _ rfl
 have d1f:((m1:Int) != (m1:Int))=false:=by simp
 have B2:=lH B2
 have B3:=lH B3
 go_wp2_with fail
 clear b1' e1
 go_loopw [5] (fun i wr=>S19Rel m1 w2 i wr) (fun i _=>m1-(intOf i).toNat)
 case atStart=>exact ⟨0,by omega,rfl,Ex.refl _⟩
 case round =>
  obtain ⟨k,hk,rfl,kw⟩:=hrel
  obtain ⟨wi,rfl⟩:∃ wi:World,wi=wr:=⟨_,rfl⟩
  have b1':=(B2.out.nx kw).cell 1 _ rfl
  have e1:=(B3.out.nx kw).cell 1 _ rfl
  have KW:=lH kw
  by_cases hkn:k<m1
  ·obtain ⟨x1,o1,y,rfl,hx1,hy,hc1⟩:=(S1.out.nx kw).at hkn
   obtain ⟨x2,o2,y2,rfl,hx2,hy2,hc2⟩:=(S2.out.nx kw).at hkn
   obtain rfl:y2=y:=by rw [hy] at hy2;cases hy2;rfl
   have p0:wi.cell? ⟨x1,o1+k*2,none⟩=some (.int .i64 y2.1):=hc1 0 _ rfl
   have p1:wi.cell? ⟨x1,o1+k*2+1,none⟩=some (.int .i64 y2.2):=hc1 1 _ rfl
   have q0:wi.cell? ⟨x2,o2+k*2,none⟩=some (.int .i64 y2.1):=hc2 0 _ rfl
   have q1:wi.cell? ⟨x2,o2+k*2+1,none⟩=some (.int .i64 y2.2):=hc2 1 _ rfl
   have hw1:IntKind.i64.wrap ((k:Int)+1)=(k:Int)+1:=IntWalk.i64_in _ (by omega)
   have hkI:(k:Int)<(m1:Int):=by omega
   clear hc1 hc2 hy hy2 kw
   go_wp2_with fail
   go_quiet (fail)
   go_wp2_with fail
   exact ⟨⟨k+1,by omega,by go_num,KW.out.drewN _⟩,by simp [intOf];omega⟩
  ·obtain rfl:k=m1:=by omega
   have KE:=lH (KK.out.nx kw)
   clear kw
   go_wp2_with fail
   go_ret
   exact ⟨rfl,KE.out⟩
def Cn19 (E0 M:List (Int×Int)) (base:Nat) (w:World) (o i:Value) (wr:World):Prop :=
 ∃ k:Nat,k≤M.length∧i=.int .i64 k∧OwnW 2 encP2 134 base wr o (E0++M.take k)∧Ex w wr
set_option maxRecDepth 100000 in
set_option maxHeartbeats 8000000 in
theorem connected_r19 (a:Option Addr) (n c:Nat) (N:List Nd) (a2:Option Addr) (n2 c2:Nat) (P:List Pr) (a3:Option Addr) (n3 c3:Nat) (M:List (Int×Int)) (w:World) (h:Sl 3 encN w a n N) (hn:n≤1000) (h2:PL w a2 n2 P) (hn2:n2≤1000000) (hP:∀ p∈P,p.known.length≤2000000∧p.near.length≤2000000)
  (h3:Sl 2 encS w a3 n3 M) (hn3:n3≤100000) :
  Calls Tryz.prog 45 #[.slice a n c,.agg #[.slice a2 n2 c2,.slice a3 n3 c3]] w fun e w'=>e=.returned (.bool (conF N ⟨P,M⟩))∧Ex w w':=by
 have HM:=lH h3.len
 have B3:=Blk.new w [.slice a2 n2 c2,.slice a3 n3 c3] 27
 have kk:=Ex.new w (.cells #[.slice a2 n2 c2,.slice a3 n3 c3] 27)
 obtain ⟨w1,hw1⟩:∃ w1,w1=w.alloc (.cells #[.slice a2 n2 c2,.slice a3 n3 c3] 27):=⟨_,rfl⟩
 obtain ⟨g3,hg3⟩:∃ g3,g3=w.heap.size:=⟨_,rfl⟩
 replace B3:Blk w1 g3 [.slice a2 n2 c2,.slice a3 n3 c3] 27:=by rw [hw1,hg3];exact B3
 rw [← hw1] at kk
 have Hw1:=lH hw1
 have Hg3:=lH hg3
 replace h:=h.nx kk
 replace h2:=h2.nx kk
 replace h3:=h3.nx kk
 have K1:=lH kk
 clear kk hw1 hg3
 go_enter Tryz.func45,Tryz.ntmps45
 go_upto_region 1 with fail
 rw [← Hg3.out,← Hw1.out]
 clear Hg3 Hw1
 go_wp2_with fail
 (with_reducible refine (is_r _ _ _ N _ h (by omega)).mono ?_)
 rintro e w2 ⟨rfl,kk⟩
 replace h:=h.nx kk
 replace h2:=h2.nx kk
 replace h3:=h3.nx kk
 replace B3:=B3.nx kk
 replace K1:=lH (K1.out.nx kk)
 clear kk
 by_cases hck:checkN N=0
 case neg =>
  have d1:(checkN N==0)=false:=by simpa using hck
  have E0:=lH (conF_no (f:=⟨P,M⟩) hck)
  rw [d1]
  clear h h2 h3 hck B3
  go_wp2_with fail
  go_ret
  exact ⟨by rw [E0.out];rfl,K1.out⟩
 have d1:(checkN N==0)=true:=by simpa using hck
 have E0:Hid (conF N ⟨P,M⟩=decide (Lab.partsL (N.map Nd.id) (pairsN N P++M)≤1)):=lH (conF_ref hck)
 rw [d1]
 have HC:=lH hck
 clear hck d1
 have b0:=B3.cell 0 _ rfl
 have HS:=lH h
 have H3:=lH h3
 have B3H:=lH B3
 go_wp2_with fail
 (with_reducible refine (pairs_r _ _ _ N _ _ _ P _ h hn HC.out h2 hn2 hP).mono ?_)
 rintro e w3 ⟨v5,rfl,own,kk⟩
 have hpl:(pairsN N P).length≤500000:=by
  have h1:=prsU_len HC.out P N.length
  rw [prsU_all] at h1
  omega
 obtain ⟨E,hE⟩:∃ E,E=pairsN N P:=⟨_,rfl⟩
 rw [← hE] at own hpl E0
 have R0:=lH (show Cn19 E M w2.heap.size w2 v5 (.int .i64 0) w3 from ⟨0,by omega,rfl,by simpa using own,kk⟩)
 clear own kk b0 h h2 h3 hE B3
 go_wp2_with fail
 go_loopw [5,6] (fun o i wr=>Cn19 E M w2.heap.size w2 o i wr) (fun _ i _=>n3-(intOf i).toNat)
 case atStart=>exact R0.out
 case round =>
  clear R0
  obtain ⟨k,hk,rfl,own,kw⟩:=hrel
  obtain ⟨wi,rfl⟩:∃ wi:World,wi=wr:=⟨_,rfl⟩
  have OWN:=lH own
  have KW:=lH kw
  have B3i:=lH (B3H.out.nx kw)
  have b1:=B3i.out.cell 1 _ rfl
  have hkm:k≤n3:=by have:=HM.out;omega
  by_cases hkn:k<n3
  ·obtain ⟨x1,o1,y,rfl,hx1,hy,hc1⟩:=(H3.out.nx kw).at hkn
   have p0:wi.cell? ⟨x1,o1+k*2,none⟩=some (.int .i64 y.1):=hc1 0 _ rfl
   have p1:wi.cell? ⟨x1,o1+k*2+1,none⟩=some (.int .i64 y.2):=hc1 1 _ rfl
   have TK:Hid (E++M.take (k+1)=(E++M.take k)++[(y.1,y.2)]):=lH (by rw [List.append_assoc,List.take_add_one,hy];rfl)
   have hel:(E++M.take k).length≤1000000:=by rw [List.length_append,List.length_take];omega
   have hkI:(k:Int)<(n3:Int):=by omega
   have zi:=kw.size
   clear hc1 hy own kw
   go_upto_region 7 with fail
   clear b1
   refine wp_region_late_drew (S:=Ex wi) [15] (by kernel_rfl) ((Ex.refl wi).drew) (fun hHeld=>?_)
   obtain ⟨wd,hwdx⟩:∃ wd:World,wd=World.drew wi:=⟨_,rfl⟩
   rw [← hwdx] at hHeld ⊢
   have hDrew:Ex wi wd:=by rw [hwdx];exact (Ex.refl wi).drew
   clear hwdx
   refine tkL 0 (v:=?_) rfl (by kernel_rfl) (fun _ _ _ h=>h) (by rfl) ?y5 hHeld ?_
   case y5=>intro wq hSw;go_simp<;>rfl
   try simp only [Act.put,sA,sB,sC]
   refine tkL 1 (v:=?_) rfl (by kernel_rfl) (fun _ _ _ h=>h) (by rfl) ?y8 hHeld ?_
   case y8=>intro wq hSw;go_simp<;>rfl
   try simp only [Act.put,sA,sB,sC]
   refine tkL 2 (v:=?_) rfl (by kernel_rfl) (fun _ _ _ h=>h) (by rfl) ?y11 hHeld ?_
   case y11=>intro wq hSw;(have cq:=(B3i.out.nx hSw).cell 1 _ rfl;go_simp)<;>rfl
   try simp only [Act.put,sA,sB,sC]
   refine tkL 3 (v:=?_) rfl (by kernel_rfl) (fun _ _ _ h=>h) (by rfl) ?y14 hHeld ?_
   case y14=>intro wq hSw;go_simp<;>rfl
   try simp only [Act.put,sA,sB,sC]
   refine tkL 4 (v:=?_) rfl (by kernel_rfl) (fun _ _ _ h=>h) (by rfl) ?y17 hHeld ?_
   case y17=>intro wq hSw;go_simp<;>rfl
   try simp only [Act.put,sA,sB,sC]
   refine tkL 5 (v:=?_) rfl (by kernel_rfl) (fun _ _ _ h=>h) (by rfl) ?y20 hHeld ?_
   case y20=>intro wq hSw;go_simp<;>rfl
   try simp only [Act.put,sA,sB,sC]
   refine tkL 6 (v:=?_) rfl (by kernel_rfl) (fun _ _ _ h=>h) (by rfl) ?y23 hHeld ?_
   case y23=>intro wq hSw;(have cq:=hSw.cellv p0 hx1;go_simp)<;>rfl
   try simp only [Act.put,sA,sB,sC]
   refine tkL 7 (v:=?_) rfl (by kernel_rfl) (fun _ _ _ h=>h) (by rfl) ?y26 hHeld ?_
   case y26=>intro wq hSw;go_simp<;>rfl
   try simp only [Act.put,sA,sB,sC]
   refine tkL 8 (v:=?_) rfl (by kernel_rfl) (fun _ _ _ h=>h) (by rfl) ?y29 hHeld ?_
   case y29=>intro wq hSw;(have cq:=(B3i.out.nx hSw).cell 1 _ rfl;go_simp)<;>rfl
   try simp only [Act.put,sA,sB,sC]
   refine tkL 9 (v:=?_) rfl (by kernel_rfl) (fun _ _ _ h=>h) (by rfl) ?y32 hHeld ?_
   case y32=>intro wq hSw;go_simp<;>rfl
   try simp only [Act.put,sA,sB,sC]
   refine tkL 10 (v:=?_) rfl (by kernel_rfl) (fun _ _ _ h=>h) (by rfl) ?y35 hHeld ?_
   case y35=>intro wq hSw;go_simp<;>rfl
   try simp only [Act.put,sA,sB,sC]
   refine tkL 11 (v:=?_) rfl (by kernel_rfl) (fun _ _ _ h=>h) (by rfl) ?y38 hHeld ?_
   case y38=>intro wq hSw;go_simp<;>rfl
   try simp only [Act.put,sA,sB,sC]
   refine tkL 12 (v:=?_) rfl (by kernel_rfl) (fun _ _ _ h=>h) (by rfl) ?y41 hHeld ?_
   case y41=>intro wq hSw;(have cq:=hSw.cellv p1 hx1;go_simp)<;>rfl
   try simp only [Act.put,sA,sB,sC]
   refine tkL 13 (v:=?_) rfl (by kernel_rfl) (fun _ _ _ h=>h) (by rfl) ?y44 hHeld ?_
   case y44=>intro wq hSw;go_simp<;>rfl
   try simp only [Act.put,sA,sB,sC]
   refine rL 14 (by kernel_rfl) rfl fun K hK=>?_
   go_simp
   obtain ⟨gx,wq,hgx,hwq,SX,kk⟩:=litP2 hHeld y.1 y.2
   rw [← hgx,← hwq]
   clear hgx hwq
   replace hHeld:=hHeld.nx kk
   clear kk
   refine hK.out _ _ (hHeld) (fun hHeld=>?_)
   clear hK K
   try simp only [Act.put,sA,sB,sC]
   refine rLL 15 (by kernel_rfl) rfl (by rfl) fun K hK=>?_
   rw [if_pos (by rfl)]
   have own7:=OWN.out.nx hHeld
   have zc:w2.heap.size≤wq.heap.size:=by have:=hHeld.size;omega
   refine wp_append_W (enc:=encP2) _ (.tmp 21) (.tmp 35) 132 rfl w2.heap.size 134 (.agg #[.int .i64 0,.int .i64 0]) 2 16 Tryz.underlying132 Tryz.infoP2 rfl (by omega) (by omega) _ _ own7 rfl _ 1 1 [(y.1,y.2)] SX (fun _=>rfl) encP2_one rfl hel (by omega) zc ?_
   intro v9 w9 own9 ch0 ch1 _
   have KX:=hHeld
   clear hHeld ch0 own7 SX
   refine hK.out _ _ ?_
   clear hK K
   try simp only [Act.put,sA,sB,sC]
   refine wpAnyL_takeP (i:=16) (oi:=⟨_,_,_,_,_,_⟩) (v:=?_) rfl (by kernel_rfl) (by kernel_rfl) (by kernel_rfl) (fun _ _ _ h=>h) (Or.inl ⟨by rfl,?y70⟩) ?_
   case y70=>intro wq hSw;go_simp<;>rfl
   try simp only [Act.put,sA,sB,sC]
   refine wpAnyL_done (by kernel_rfl) ?_ _
   have RR:=lH (show Cn19 E M w2.heap.size w2 v9 (.int .i64 ((k:Int)+1)) w9 from ⟨k+1,by have:=HM.out;omega,by go_num,by rw [TK.out];exact own9,Chg.trans (KW.out.nx KX) ch1⟩)
   have hw1:IntKind.i64.wrap ((k:Int)+1)=(k:Int)+1:=IntWalk.i64_in _ (by omega)
   clear own9 ch1 KX hDrew p0 p1
   go_wp2_with fail
   exact ⟨RR.out,by simp [intOf];omega⟩
  ·obtain rfl:k=n3:=by omega
   rw [List.take_of_length_le (by have:=HM.out;omega)] at own
   obtain ⟨EM,hEM⟩:∃ EM,EM=E++M:=⟨_,rfl⟩
   have hel:EM.length≤1000000:=by rw [hEM,List.length_append];have:=HM.out;omega
   rw [← hEM] at own E0
   clear hEM
   obtain ⟨a5,c5,rfl,r5,_,_,_,_⟩:=own.rd (fun _=>rfl)
   have S5:Sl 2 encP2 wi a5 EM.length EM:=Rd.mono r5 (fun _ hk=>hk.2)
   have SN:=HS.out.nx kw
   have KE:=lH (K1.out.nx kw)
   have hkI:¬ ((k:Int)<(k:Int)):=by omega
   clear own r5 kw OWN KW
   go_wp2_with fail
   (with_reducible refine (joined_r _ _ _ N _ _ _ EM _ SN hn S5 hel).mono ?_)
   rintro e w6 ⟨aj,cj,rfl,kk⟩
   generalize Lab.partsL (N.map Nd.id) EM=m at E0 ⊢
   have EH:=lH (KE.out.nx kk)
   have E1:Hid (conF N ⟨P,M⟩=decide ((m:Int)≤1)):=lH (by rw [E0.out,decide_eq_decide];omega)
   clear E0 SN S5 hel kk
   go_wp2_with fail
   go_ret
   exact ⟨by rw [E1.out];rfl,EH.out⟩
open Go.ChangeShapes Go.WideShapes Go.ChangeAt Go.RowKit Go.Deep Go.Joins
theorem own:ownKnob Tryz.prog.godebug=none:=by kernel_rfl
theorem laidOut:laidOutB Tryz.prog=true:=by kernel_rfl
section
variable {H:Type} {enc:TypeId×Value→H} {P:Program} {w:World} {base:Nat} {spare:Nat→Bool} {held:Bool}
theorem addr_lit {a:Addr} {v:Value} {w:World} (h:w.cell? (a.add 0)=some v):a=⟨a.block,a.off,none⟩:=by
 obtain ⟨b,o,s⟩:=a
 have:s=none:=by simpa [Addr.add] using World.cell?_spot h
 subst this;rfl
theorem rd_ints {t e:TypeId} {k:IntKind} {v:Value} {d:DataW H} {p:List MemPlace} {r:Reach} {b0:Nat} (ht:P.underlying t=some (.slice e)) (he:P.underlying e=some (.int k)) (hC:P.cellsOf e=1)
  (hv:Value.okWide P w r b0 t v) (h:DataW.Trod enc P w base spare held t v d p) :
  ∃ a n c l,v=.slice a n c∧Rd 1 (fun x:Int=>[Value.int k x]) (· < w.heap.size) w a n l∧n≤c∧c≤maxLen∧(∀ x∈l,(Lit.int k x).wf=true)∧(a=none→c=0):=by
 obtain ⟨a0,len0,cap0,rfl⟩:=okWide_slice ht hv
 obtain ⟨fuel,hf⟩:=h
 rcases open_ints ht he hC hf with ⟨hcs,_⟩ | ⟨x,l,c,zs,hcs,_,hl,hm,hz,_,hcell,hwz⟩
 ·simp [Value.cells] at hcs
  obtain ⟨rfl,rfl,rfl⟩:=hcs
  exact ⟨none,0,0,[],rfl,Rd.nil _ _ _ _ _,by omega,by unfold maxLen;omega,by simp,fun _=>rfl⟩
 ·simp [Value.cells] at hcs
  obtain ⟨rfl,rfl,rfl⟩:=hcs
  have hz':len0≤zs.length:=by rw [hz];split<;>omega
  refine ⟨_,len0,cap0,zs.take len0,rfl,⟨by simp;omega,?_⟩,hl,hm,fun y hy=>hwz y (List.mem_of_mem_take hy),fun h=>by cases h⟩
  rcases Nat.eq_zero_or_pos len0 with h0 | h0
  ·exact .inl h0
  ·have hx:=addr_lit (hcell 0 (by omega))
   refine .inr ⟨x.block,x.off,by rw [← hx],?_,fun j y hj c u hu=>?_⟩
   ·have:=World.block_lt_of_cell? w _ (hcell 0 (by omega))
    rw [hx] at this
    simpa [Addr.add] using this
   ·have hj':j<len0:=by
     have:=(List.getElem?_eq_some_iff.1 hj).1
     simp at this;omega
    have hy:zs.getD j 0=y:=by
     rw [List.getElem?_take,if_pos hj'] at hj
     simp [List.getD,hj]
    have hc:=hcell j (by omega)
    rw [hx,Addr.add_lit,hy] at hc
    rcases c with _ | c
    ·simp at hu;subst hu;simpa using hc
    ·simp at hu
theorem open_slice_fields {t e:TypeId} {fs:Array Field} {fuel:Nat} {cs:List Value} {x:DataW H×List MemPlace} (ht:P.underlying t=some (.slice e)) (he:P.underlying e=some (.struct fs))
  (hone:oneCellFields P fs=true) (hC:P.cellsOf e=fs.size) (h:DataW.trod enc P w base spare held fuel t cs=some x) :
  (cs=[.slice none 0 0]∧x=(.nil,[])) ∨
  ∃ (a:Addr) (len cap m:Nat),cs=[.slice (some a) len cap]∧len≤cap∧cap≤maxLen∧m=(if spare a.block then cap else len) ∧
   ∀ i,i<m→∃ (n:Nat),∀ (j:Nat) (f:Field),fs[j]?=some f→∃ (v:Value) (y:DataW H×List MemPlace),w.cell? (a.add (i*fs.size+j))=some v∧DataW.trod enc P w base spare held n f.type [v]=some y:=by
 rcases open_slice ht h with h0 | ⟨a,len,cap,m,n,D,Pl,hcs,hb,hl,hm,hmm,hx,hi⟩
 ·exact .inl h0
 ·refine .inr ⟨a,len,cap,m,hcs,hl,hm,hmm,fun i him=>?_⟩
  obtain ⟨cs',hc,ht'⟩:=hi i him
  rw [hC] at hc
  obtain ⟨ys,n',hn',hy,hlen,hyl,hf⟩:=DataW.trod_struct he ht'
  obtain ⟨_,hcl,hat⟩:=World.cells?_some hc
  refine ⟨n',fun j f hj=>?_⟩
  obtain ⟨ho,hk⟩:=hone_of hone j f hj
  have hjl:j<fs.size:=(Array.getElem?_eq_some_iff.1 hj).1
  have hcell:=hat j hjl
  have hv:cs'[j]?=some (cs'[j]'(by omega)):=List.getElem?_eq_getElem (by omega)
  have h1:=hf j f hj
  rw [ho,hk] at h1
  have hone':(cs'.drop j).take 1=[cs'[j]'(by omega)]:=by
   rw [List.drop_eq_getElem_cons (by omega)]
   rfl
  rw [hone'] at h1
  have hys:ys[j]?=some (ys[j]'(by omega)):=List.getElem?_eq_getElem (by omega)
  refine ⟨_,_,?_,h1.trans hys⟩
  rw [← Go.Deep.add_add,hcell,hv]
theorem list_of {α:Type} {p:Nat→α→Prop}:∀ n,(∀ i,i<n→∃ y,p i y)→∃ l:List α,l.length=n∧∀ (i:Nat) y,l[i]?=some y→p i y
 | 0,_=>⟨[],rfl,by simp⟩
 | n+1,h=>by
  obtain ⟨l,hl,hp⟩:=list_of n (fun i hi=>h i (by omega))
  obtain ⟨y,hy⟩:=h n (by omega)
  refine ⟨l++[y],by simp [hl],fun i z hz=>?_⟩
  rcases Nat.lt_or_ge i n with hi | hi
  ·exact hp i z (by rwa [List.getElem?_append_left (by omega)] at hz)
  ·rw [List.getElem?_append_right (by omega)] at hz
   have:i=n:=by
    rcases Nat.eq_zero_or_pos (i-l.length) with h0 | h0
    ·omega
    ·rw [List.getElem?_eq_none (by simp;omega)] at hz;cases hz
   subst this
   simp [hl] at hz
   subst hz;exact hy
theorem rd_structs {α:Type} {k:Nat} {encS:α→List Value} {t e:TypeId} {fs:Array Field} {v:Value} {d:DataW H} {p:List MemPlace} {r:Reach} {b0:Nat} (ht:P.underlying t=some (.slice e)) (he:P.underlying e=some (.struct fs))
  (hone:oneCellFields P fs=true) (hC:P.cellsOf e=fs.size) (hk:fs.size=k) (hk0:0<k)
  (hv:Value.okWide P w r b0 t v) (h:DataW.Trod enc P w base spare held t v d p)
  (hel:∀ (n:Nat) (cell:Nat→Option Value),(∀ (j:Nat) (f:Field),fs[j]?=some f→∃ (v:Value) (y:DataW H×List MemPlace),cell j=some v∧DataW.trod enc P w base spare held n f.type [v]=some y)→∃ y:α,∀ c u,(encS y)[c]?=some u→cell c=some u) :
  ∃ a n c l,v=.slice a n c∧Rd k encS (· < w.heap.size) w a n l∧n≤c∧c≤maxLen∧(a=none→c=0):=by
 subst hk
 obtain ⟨a0,len0,cap0,rfl⟩:=okWide_slice ht hv
 obtain ⟨fuel,hf⟩:=h
 rcases open_slice_fields ht he hone hC hf with ⟨hcs,_⟩ | ⟨x,len,cap,m,hcs,hl,hm,hmm,hi⟩
 ·simp [Value.cells] at hcs
  obtain ⟨rfl,rfl,rfl⟩:=hcs
  exact ⟨none,0,0,[],rfl,Rd.nil _ _ _ _ _,by omega,by unfold maxLen;omega,fun _=>rfl⟩
 ·simp [Value.cells] at hcs
  obtain ⟨rfl,rfl,rfl⟩:=hcs
  have hlm:len0≤m:=by rw [hmm];split<;>omega
  obtain ⟨l,hll,hlp⟩:=list_of (p:=fun i (y:α)=>∀ c u,(encS y)[c]?=some u→w.cell? (x.add (i*fs.size+c))=some u) len0 (fun i hi'=>by
   obtain ⟨n,hn⟩:=hi i (by omega)
   exact hel n (fun j=>w.cell? (x.add (i*fs.size+j))) hn)
  refine ⟨_,len0,cap0,l,rfl,⟨hll,?_⟩,hl,hm,fun h=>by cases h⟩
  rcases Nat.eq_zero_or_pos len0 with h0 | h0
  ·exact .inl h0
  ·obtain ⟨n,hn⟩:=hi 0 (by omega)
   obtain ⟨v0,_,hv0,_⟩:=hn 0 (fs[0]) (by simp)
   have hv0:w.cell? (x.add 0)=some v0:=by simpa using hv0
   have hx:=addr_lit hv0
   refine .inr ⟨x.block,x.off,by rw [← hx],?_,fun j y hj c u hu=>?_⟩
   ·have:=World.block_lt_of_cell? w _ hv0
    rw [hx] at this
    simpa [Addr.add] using this
   ·have:=hlp j y hj c u hu
    rw [hx,Addr.add_lit] at this
    simpa [Nat.add_assoc] using this
end
end Go.Proofs.YtalmjklljofhbaaGreatDoor
