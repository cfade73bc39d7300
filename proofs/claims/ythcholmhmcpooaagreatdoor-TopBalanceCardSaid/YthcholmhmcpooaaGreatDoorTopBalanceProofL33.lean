/- Texts for TopBalanceProof. -/
import Derived.Test.YthcholmhmcpooaaGreatDoorTopBalanceProofL23
import Derived.Test.YthcholmhmcpooaaGreatDoorTopBalanceProofL32
set_option linter.unusedSimpArgs false
set_option linter.unusedVariables false

namespace Go.Proofs.YthcholmhmcpooaaGreatDoor
open Go.RowKit
theorem Tryz.infoIn:(Tryz.prog.info? 242).map (fun i=>(i.zero,i.size,i.bytes))=some (some (.agg #[.int .i64 0,.int .i64 0]),2,16):=by kernel_rfl
def InPost (M:List (Int×Int)) (w:World) (e:Ending) (w':World):Prop:=∃ v,e=.returned v∧OwnW 2 encS 242 w.heap.size w' v M∧Ex w w'
def IoRel (L:List Int) (id:Int) (w:World) (o i:Value) (wr:World):Prop :=
 ∃ k:Nat,1≤k∧k≤L.length+1∧i=.int .i64 k∧OwnW 2 encS 242 w.heap.size wr o (((L.zip L.tail).take (k-1)).flatMap (pr2 id))∧Ex w wr
def prT (a b:Int):List (Int×Int):=[(a,b),(b,a)]
def notTo (id:Int) (q:Int×Int):Bool:=!(q.1==id)
theorem prT_all (id a b:Int):(prT a b).filter (notTo id)=pr2 id (a,b):=by
 unfold prT pr2 notTo
 by_cases h1:a=id<;>by_cases h2:b=id<;>simp [List.filter_cons,h1,h2]
theorem prT_snoc {id a b:Int} {q:Nat} {y:Int×Int} (hy:(prT a b)[q]?=some y):((prT a b).take (q+1)).filter (notTo id)=((prT a b).take q).filter (notTo id)++(if notTo id y=true then [y] else []):=by
 rw [List.take_add_one,hy,List.filter_append]
 congr 1
 simp only [Option.toList_some,List.filter_cons,List.filter_nil]
def IiRel (O:List (Int×Int)) (id a b:Int) (base lo:Nat) (w:World) (o i:Value) (wr:World):Prop :=
 ∃ q:Nat,q≤2∧i=.int .i64 q∧OwnW 2 encS 242 base wr o (O++((prT a b).take q).filter (notTo id))∧Acc base lo w.heap.size w wr o
theorem litIn {wb wq:World} (h:Ex wb wq) (a b:Int):∃ g wn,g=wq.heap.size∧wn=wq.alloc (.cells #[.int .i64 a,.int .i64 b,.int .i64 b,.int .i64 a] 242)∧Slf 2 encS wb wn (some ⟨g,0,none⟩) 2 (prT a b)∧Ex wb wn :=
 ⟨_,_,rfl,rfl,Slf.lit (prT a b) rfl h.size rfl (fun _=>rfl) rfl,h.alloc _⟩
set_option maxRecDepth 100000 in
set_option maxHeartbeats 8000000 in
theorem intros_p (a:Option Addr) (n c:Nat) (N:List Nd) (p:Pr) (a1:Option Addr) (n1 c1:Nat) (a2:Option Addr) (n2 c2:Nat) (w:World) (h:Sl 3 encN w a n N) (hn:n≤1000) (hc:n≤c) (hm:c≤maxLen) (h1:Sl 1 encI w a1 n1 p.known) (h2:Sl 4 encNr w a2 n2 p.near) (hn1:n1≤4000000000000000000) (hn2:n2≤4000000000000000000) :
  Calls Tryz.prog 153 #[.slice a n c,.agg #[.int .i64 p.id,.slice a1 n1 c1,.int .i64 p.left,.int .i64 p.right,.slice a2 n2 c2]] w (InPost (introsN N p) w):=by
 have EX:=Ex.refl w
 have HL:=lH h.len
 have B3:=Blk.new w [.int .i64 p.id,.slice a1 n1 c1,.int .i64 p.left,.int .i64 p.right,.slice a2 n2 c2] 150
 have kk:=Ex.new w (.cells #[.int .i64 p.id,.slice a1 n1 c1,.int .i64 p.left,.int .i64 p.right,.slice a2 n2 c2] 150)
 obtain ⟨w1,hw1⟩:∃ w1,w1=w.alloc (.cells #[.int .i64 p.id,.slice a1 n1 c1,.int .i64 p.left,.int .i64 p.right,.slice a2 n2 c2] 150):=⟨_,rfl⟩
 obtain ⟨g3,hg3⟩:∃ g3,g3=w.heap.size:=⟨_,rfl⟩
 replace B3:Blk w1 g3 [.int .i64 p.id,.slice a1 n1 c1,.int .i64 p.left,.int .i64 p.right,.slice a2 n2 c2] 150:=by rw [hw1,hg3];exact B3
 rw [← hw1] at kk
 have Hw1:=lH hw1
 have Hg3:=lH hg3
 replace h:=h.nx kk
 replace h1:=h1.nx kk
 replace h2:=h2.nx kk
 replace EX:=EX.nx kk
 clear kk hw1 hg3
 go_enter Tryz.func153,Tryz.ntmps153
 go_upto_region 1 with fail
 rw [← Hg3.out,← Hw1.out]
 clear Hg3 Hw1
 have q0:=B3.cell 0 _ rfl
 have q1:=B3.cell 1 _ rfl
 have q2:=B3.cell 2 _ rfl
 have q3:=B3.cell 3 _ rfl
 have q4:=B3.cell 4 _ rfl
 go_wp2_with fail
 (with_reducible refine (row_p _ _ _ N p _ _ _ _ _ _ _ h hn hc hm h1 h2 hn1 hn2).mono ?_)
 rintro e w2 ⟨v,rfl,own,kk⟩
 replace EX:=EX.nx kk
 replace B3:=B3.nx kk
 clear kk
 clear q0 q1 q2 q3 q4 h h1 h2
 have hrl:(arN N p).length≤1000:=by
  have h1:=HL.out
  have h2:=ar_len (N:=N) p
  omega
 obtain ⟨aR,cR,rfl,R1,_,_,_⟩:=own.slf (fun _=>rfl)
 have S:=lH R1.sl
 have IN:Hid (∀ M,prsN p.id (arN N p)=M→introsN N p=M):=lH (fun r hr=>hr)
 generalize arN N p=R at own R1 S IN hrl ⊢
 have B3:=lH B3
 have EX2:=lH EX
 have z2:=EX.size
 clear own R1 EX
 go_wp2_with fail
 go_loopw [5,7] (fun o i wr=>IoRel R p.id w2 o i wr) (fun _ i _=>R.length+1-(intOf i).toNat)
 case atStart=>exact ⟨1,by omega,by omega,rfl,OwnW.nil _ _ _ _ _,Ex.refl _⟩
 case round =>
  obtain ⟨k,hk1,hk,rfl,own,ki⟩:=hrel
  obtain ⟨wi,rfl⟩:∃ wi:World,wi=wr:=⟨_,rfl⟩
  have hol:(((R.zip R.tail).take (k-1)).flatMap (pr2 p.id)).length≤2000:=by
   have h1:=prs_take_len p.id ((R.zip R.tail).take (k-1))
   rw [List.length_take,List.length_zip,List.length_tail] at h1
   omega
  by_cases hkm:k<R.length
  ·obtain ⟨xl,xo,yl,rfl,hxl,hyl,hcl⟩:=(S.out.nx ki).at (show k-1<R.length by omega)
   obtain ⟨xl',xo',yr,hee,hxr,hyr,hcr⟩:=(S.out.nx ki).at hkm
   cases hee
   have CL:Hid (∀ wq,Ex wi wq→wq.cell? ⟨xl,xo+(k-1),none⟩=some (.int .i64 yl)):=lH (fun wq kq=>Chg.cellv kq (by simpa using hcl 0 _ rfl) hxl)
   have CR:Hid (∀ wq,Ex wi wq→wq.cell? ⟨xl,xo+k,none⟩=some (.int .i64 yr)):=lH (fun wq kq=>Chg.cellv kq (by simpa using hcr 0 _ rfl) hxl)
   have SN:=lH (prs_snoc (id:=p.id) hyl (by rw [show k-1+1=k by omega];exact hyr))
   generalize ((R.zip R.tail).take (k-1)).flatMap (pr2 p.id)=O at own SN hol
   have OWN:=lH own
   have KI:=lH ki
   have hkp:(0:Int)<(k:Int):=by omega
   have hwk:IntKind.i64.wrap ((k:Int)-1)=(k:Int)-1:=IntWalk.i64_in _ (by omega)
   have h01:(1:Int)≤(k:Int):=by omega
   have h02:(k:Int)-1<(R.length:Int):=by omega
   have h03:(k:Int)<(R.length:Int):=by omega
   have zi:=ki.size
   clear hyl hyr hcl hcr own ki
   go_upto_region 6 with fail
   refine wp_region_held_drew (S:=Ex wi) (by kernel_rfl) ((Ex.refl wi).drew) (fun hHeld=>?_)
   obtain ⟨wd,hwdx⟩:∃ wd:World,wd=World.drew wi:=⟨_,rfl⟩
   rw [← hwdx] at hHeld ⊢
   have hDrew:Ex wi wd:=by rw [hwdx];exact (Ex.refl wi).drew
   clear hwdx
   refine tkH 0 (v:=?_) rfl (by kernel_rfl) (fun _ _ _ h=>h) (by rfl) ?y5 hHeld ?_
   case y5=>intro wq hSw;go_simp<;>rfl
   try simp only [Act.put,sA,sB,sC]
   refine tkH 1 (v:=?_) rfl (by kernel_rfl) (fun _ _ _ h=>h) (by rfl) ?y8 hHeld ?_
   case y8=>intro wq hSw;go_simp<;>rfl
   try simp only [Act.put,sA,sB,sC]
   refine tkH 2 (v:=?_) rfl (by kernel_rfl) (fun _ _ _ h=>h) (by rfl) ?y11 hHeld ?_
   case y11=>intro wq hSw;go_simp<;>rfl
   try simp only [Act.put,sA,sB,sC]
   refine tkH 3 (v:=?_) rfl (by kernel_rfl) (fun _ _ _ h=>h) (by rfl) ?y14 hHeld ?_
   case y14=>intro wq hSw;go_simp<;>rfl
   try simp only [Act.put,sA,sB,sC]
   refine tkH 4 (v:=?_) rfl (by kernel_rfl) (fun _ _ _ h=>h) (by rfl) ?y17 hHeld ?_
   case y17=>intro wq hSw;(have cq:=CL.out wq hSw;go_simp)<;>rfl
   try simp only [Act.put,sA,sB,sC]
   refine tkH 5 (v:=?_) rfl (by kernel_rfl) (fun _ _ _ h=>h) (by rfl) ?y20 hHeld ?_
   case y20=>intro wq hSw;go_simp<;>rfl
   try simp only [Act.put,sA,sB,sC]
   refine tkH 6 (v:=?_) rfl (by kernel_rfl) (fun _ _ _ h=>h) (by rfl) ?y23 hHeld ?_
   case y23=>intro wq hSw;go_simp<;>rfl
   try simp only [Act.put,sA,sB,sC]
   refine tkH 7 (v:=?_) rfl (by kernel_rfl) (fun _ _ _ h=>h) (by rfl) ?y26 hHeld ?_
   case y26=>intro wq hSw;go_simp<;>rfl
   try simp only [Act.put,sA,sB,sC]
   refine tkH 8 (v:=?_) rfl (by kernel_rfl) (fun _ _ _ h=>h) (by rfl) ?y29 hHeld ?_
   case y29=>intro wq hSw;(have cq:=CR.out wq hSw;go_simp)<;>rfl
   try simp only [Act.put,sA,sB,sC]
   refine tkH 9 (v:=?_) rfl (by kernel_rfl) (fun _ _ _ h=>h) (by rfl) ?y32 hHeld ?_
   case y32=>intro wq hSw;go_simp<;>rfl
   try simp only [Act.put,sA,sB,sC]
   refine tkH 10 (v:=?_) rfl (by kernel_rfl) (fun _ _ _ h=>h) (by rfl) ?y35 hHeld ?_
   case y35=>intro wq hSw;go_simp<;>rfl
   try simp only [Act.put,sA,sB,sC]
   refine tkH 11 (v:=?_) rfl (by kernel_rfl) (fun _ _ _ h=>h) (by rfl) ?y38 hHeld ?_
   case y38=>intro wq hSw;go_simp<;>rfl
   try simp only [Act.put,sA,sB,sC]
   refine tkH 12 (v:=?_) rfl (by kernel_rfl) (fun _ _ _ h=>h) (by rfl) ?y41 hHeld ?_
   case y41=>intro wq hSw;go_simp<;>rfl
   try simp only [Act.put,sA,sB,sC]
   refine tkH 13 (v:=?_) rfl (by kernel_rfl) (fun _ _ _ h=>h) (by rfl) ?y44 hHeld ?_
   case y44=>intro wq hSw;(have cq:=CR.out wq hSw;go_simp)<;>rfl
   try simp only [Act.put,sA,sB,sC]
   refine tkH 14 (v:=?_) rfl (by kernel_rfl) (fun _ _ _ h=>h) (by rfl) ?y47 hHeld ?_
   case y47=>intro wq hSw;go_simp<;>rfl
   try simp only [Act.put,sA,sB,sC]
   refine tkH 15 (v:=?_) rfl (by kernel_rfl) (fun _ _ _ h=>h) (by rfl) ?y50 hHeld ?_
   case y50=>intro wq hSw;go_simp<;>rfl
   try simp only [Act.put,sA,sB,sC]
   refine tkH 16 (v:=?_) rfl (by kernel_rfl) (fun _ _ _ h=>h) (by rfl) ?y53 hHeld ?_
   case y53=>intro wq hSw;go_simp<;>rfl
   try simp only [Act.put,sA,sB,sC]
   refine tkH 17 (v:=?_) rfl (by kernel_rfl) (fun _ _ _ h=>h) (by rfl) ?y56 hHeld ?_
   case y56=>intro wq hSw;go_simp<;>rfl
   try simp only [Act.put,sA,sB,sC]
   refine tkH 18 (v:=?_) rfl (by kernel_rfl) (fun _ _ _ h=>h) (by rfl) ?y59 hHeld ?_
   case y59=>intro wq hSw;(have cq:=CL.out wq hSw;go_simp)<;>rfl
   try simp only [Act.put,sA,sB,sC]
   refine tkH 19 (v:=?_) rfl (by kernel_rfl) (fun _ _ _ h=>h) (by rfl) ?y62 hHeld ?_
   case y62=>intro wq hSw;go_simp<;>rfl
   try simp only [Act.put,sA,sB,sC]
   refine tkH 22 (v:=?_) rfl (by kernel_rfl) (fun _ _ _ h=>h) (by rfl) ?y65 hHeld ?_
   case y65=>intro wq hSw;go_simp<;>rfl
   try simp only [Act.put,sA,sB,sC]
   refine rH 20 (by kernel_rfl) rfl fun K hK=>?_
   go_simp
   obtain ⟨g9,w3,hg9,hw3,SL,kk⟩:=litIn hHeld yl yr
   rw [← hg9,← hw3]
   replace hHeld:=kk
   clear hg9 hw3 kk
   refine hK.out _ _ (hHeld) (fun hHeld=>?_)
   clear hK K
   try simp only [Act.put,sA,sB,sC]
   refine tkH 21 (v:=?_) rfl (by kernel_rfl) (fun _ _ _ h=>h) (by rfl) ?y78 hHeld ?_
   case y78=>intro wq hSw;go_simp<;>rfl
   try simp only [Act.put,sA,sB,sC]
   refine wpAnyH_done (by kernel_rfl) ?_ _
   have SLh:=lH SL
   have K3:=lH hHeld
   have OW3:=lH (OWN.out.nx hHeld)
   have z3:=hHeld.size
   have A0:=lH (Acc.start (β:=w2.heap.size) (lo:=wi.heap.size) (Nat.le_refl w3.heap.size) (fun g hg=>.inl (OWN.out.blk_lt (g:=g) hg)))
   clear SL hHeld OWN
   go_wp2_with fail
   go_loopw [5,41] (fun o i wr=>IiRel O p.id yl yr w2.heap.size wi.heap.size w3 o i wr) (fun _ i _=>2-(intOf i).toNat)
   case atStart=>exact ⟨0,by omega,rfl,by simpa using OW3.out,A0.out⟩
   case round =>
    clear OW3 A0
    obtain ⟨q,hq,rfl,own,ac⟩:=hrel
    obtain ⟨wj,rfl⟩:∃ wj:World,wj=wr:=⟨_,rfl⟩
    have hql:(O++((prT yl yr).take q).filter (notTo p.id)).length≤100000:=by
     rw [List.length_append]
     have h1:=List.length_filter_le (notTo p.id) ((prT yl yr).take q)
     rw [List.length_take] at h1
     omega
    by_cases hq2:q<2
    ·obtain ⟨x9,o9,y,hee,hx9,hy,hc9⟩:=(ac.sl SLh.out).at hq2
     cases hee
     have e0:wj.cell? ⟨g9,q*2,none⟩=some (.int .i64 y.1):=by simpa using hc9 0 _ rfl
     have e1:wj.cell? ⟨g9,q*2+1,none⟩=some (.int .i64 y.2):=by simpa using hc9 1 _ rfl
     have SQ:=lH (prT_snoc (id:=p.id) hy)
     generalize ((prT yl yr).take q).filter (notTo p.id)=F at own SQ hql
     have AC:=lH ac
     have zb0:=(ac.ex (KI.out.nx K3.out)).size
     clear hy hc9 ac
     have B9:=Blk.new wj [.int .i64 y.1,.int .i64 y.2] 242
     have kk:=Ex.new wj (.cells #[.int .i64 y.1,.int .i64 y.2] 242)
     obtain ⟨w4,hw4⟩:∃ w4,w4=wj.alloc (.cells #[.int .i64 y.1,.int .i64 y.2] 242):=⟨_,rfl⟩
     obtain ⟨g10,hg10⟩:∃ g10,g10=wj.heap.size:=⟨_,rfl⟩
     replace B9:Blk w4 g10 [.int .i64 y.1,.int .i64 y.2] 242:=by rw [hw4,hg10];exact B9
     rw [← hw4] at kk
     have Hw4:=lH hw4
     have Hg10:=lH hg10
     replace own:=own.nx kk
     have AC4:=lH (AC.out.nx kk)
     have zb:w2.heap.size≤w4.heap.size:=Nat.le_trans zb0 kk.size
     clear kk hw4 hg10
     go_upto_region 9 with fail
     rw [← Hg10.out,← Hw4.out]
     clear Hg10 Hw4
     have q0:=B9.cell 0 _ rfl
     have q1:=B9.cell 1 _ rfl
     have qp:=(B3.out.nx (AC4.out.ex (KI.out.nx K3.out))).cell 0 _ rfl
     clear e0 e1 B9
     cases hT:notTo p.id y with
     | true =>
      have d1:(y.1 != p.id)=true:=hT
      have SF:=lH (show ((prT yl yr).take (q+1)).filter (notTo p.id)=F++[y] by rw [SQ.out,if_pos hT])
      have kl:=Ex.new w4 (.cells #[.int .i64 y.1,.int .i64 y.2] 242)
      have own7:=own.nx kl
      have zc:=Nat.le_trans zb kl.size
      clear hT
      go_wp2_with (at_builtin;(refine wpList_append_W (enc:=encS) _ rfl _ _ 54 rfl w2.heap.size 242 (.agg #[.int .i64 0,.int .i64 0]) 2 16 Tryz.underlying54 Tryz.infoIn rfl (by omega) (by omega) _ _ own7 rfl _ 1 1 [y] (Sl.lit _ rfl rfl (fun _=>rfl) rfl) (fun _=>rfl) (by simp [encS,Value.oneCell']) rfl (by omega) (by omega) zc ?_);intro v6 w6 own6 ch0 ch1 hv)
      exact ⟨⟨q+1,by omega,by go_num,by rw [SF.out,← List.append_assoc];exact own6,(AC4.out.nx kl).step (fun g hg=>(own7.blk hg).1) ch0 hv⟩,by simp [intOf];omega⟩
     | false =>
      have d1:(y.1 != p.id)=false:=hT
      have SF:=lH (show ((prT yl yr).take (q+1)).filter (notTo p.id)=F by rw [SQ.out,hT];simp)
      have OF:=lH own
      clear hT own
      go_wp2_with fail
      exact ⟨⟨q+1,by omega,by go_num,by rw [SF.out];exact OF.out,AC4.out⟩,by simp [intOf];omega⟩
    ·obtain rfl:q=2:=by omega
     have OF:=lH own
     have KF:=lH (ac.ex (KI.out.nx K3.out))
     clear own ac hq hq2
     go_wp2_with fail
     refine ⟨⟨k+1,by omega,by omega,by go_num,?_,KF.out⟩,by simp [intOf];omega⟩
     rw [show k+1-1=k-1+1 by omega,SN.out,← prT_all]
     exact OF.out
  ·have HI:Hid (introsN N p=((R.zip R.tail).take (k-1)).flatMap (pr2 p.id)):=lH (IN.out _ (prs_all (by omega)).symm)
   generalize ((R.zip R.tail).take (k-1)).flatMap (pr2 p.id)=O at own HI
   have FO:=lH (own.lower z2)
   have FE:=lH (EX2.out.nx ki)
   clear own ki
   go_wp2_with fail
   go_ret
   exact ⟨_,rfl,by rw [HI.out];exact FO.out,FE.out⟩
end Go.Proofs.YthcholmhmcpooaaGreatDoor
namespace Go.Proofs.YthcholmhmcpooaaGreatDoor
open Go.RowKit Go.Maps
def AccM (β lo hi bm:Nat) (w6 wr:World) (f:Int→Value):Prop :=
 Chg (fun k=>k<hi∧k≠bm∧(k<β∨lo≤k)) w6 wr∧hi≤wr.heap.size∧∀ v g,(f v).ownBlock=some g→g<lo∨hi≤g
section
variable {β lo hi bm:Nat} {w6 wr w9:World} {f:Int→Value}
theorem AccM.sl {α:Type} {sz n:Nat} {enc:α→List Value} {a:Option Addr} {l:List α} {w5 w6 wr:World} (h:AccM β w5.heap.size w6.heap.size bm w6 wr f) (hb:bm<w5.heap.size) (s:Slf sz enc w5 w6 a n l):Sl sz enc wr a n l :=
 (Rd.chg s h.1 (fun _ hk=>⟨hk.2,by omega,.inr hk.1⟩)).mono fun _ hk=>Nat.lt_of_lt_of_le hk.2 h.2.1
theorem AccM.blk {g:Nat} {cs:List Value} {ty:TypeId} (h:AccM β lo w6.heap.size bm w6 wr f) (B:Blk w6 g cs ty) (hg:lo≤g) (hb:bm≠g):Blk wr g cs ty :=
 (Chg.block h.1 g ⟨B.lt,fun h=>hb h.symm,.inr hg⟩).trans B
theorem AccM.exb {w2:World} (h:AccM β lo w6.heap.size bm w6 wr f) (k:Exb bm w2 w6) (hβ:w2.heap.size≤β):Exb bm w2 wr :=
 Chg.trans k (Chg.mono h.1 fun x hx=>⟨Nat.lt_of_lt_of_le hx.1 k.size,hx.2,.inl (Nat.lt_of_lt_of_le hx.1 hβ)⟩)
end
theorem own_hist {va v:Value} {c s:Nat} (h:va.ownBlock=v.ownBlock∨va.ownBlock=some c) (hs:s≤c):∀ g,va.ownBlock=some g→v.ownBlock=some g∨s≤g:=fun g hg=>by
 rcases h with h | h
 ·exact .inl (by rw [← h];exact hg)
 ·rw [h] at hg;cases hg;exact .inr hs
theorem hold_ex {bm g7:Nat} {wp cur w':World} (h:Chg (fun k=>k=bm∨k=g7) wp cur) (hb:bm<wp.heap.size) (hg:g7<wp.heap.size) (k:Ex cur w'):Chg (fun k=>k=bm∨k=g7) wp w' :=
 Chg.trans h (Chg.mono k fun x hx=>by have:=h.size;show x<cur.heap.size;omega)
theorem hold_row {bm g7:Nat} {wp cur w':World} {v:Value} (h:Chg (fun k=>k=bm∨k=g7) wp cur) (hb:bm<wp.heap.size) (hg:g7<wp.heap.size) (n:¬ v.ownBlock=some bm∧¬ v.ownBlock=some g7) (k:Chg (fun k=>k<cur.heap.size∧¬ v.ownBlock=some k) cur w'):Chg (fun k=>k=bm∨k=g7) wp w' :=
 Chg.trans h (Chg.mono k fun x hx=>by
  have:=h.size
  rcases hx with rfl | rfl
  ·exact ⟨by omega,n.1⟩
  ·exact ⟨by omega,n.2⟩)
abbrev GpM (base:Nat) (w:World) (b n:Nat) (f:Int→Value) (J:Int→List Int):Prop:=GrpM Tryz.prog 3 3 base w b n f J
theorem Tryz.zeroS (w:World):(zeroValue 22).run Tryz.prog w=.ok nilS w:=by kernel_rfl
theorem litF {wp u:World} (hz:wp.heap.size≤u.heap.size) (x:Int):∃ g v,g=u.heap.size∧v=u.alloc (.cells #[.int .i64 x] 3)∧Slf 1 encI wp v (some ⟨g,0,none⟩) 1 [x]∧Ex u v :=
 ⟨_,_,rfl,rfl,Slf.lit [x] rfl hz rfl (fun _=>rfl) rfl,Ex.new _ _⟩
theorem Slf.row {α β:Type} {sz n sz' e base:Nat} {enc:α→List Value} {enc':β→List Value} {w0 w w':World} {a:Option Addr} {l:List α} {v:Value} {l':List β} (s:Slf sz enc w0 w a n l) (h:OwnL sz' enc' e base w0 v l') (k:Chg (fun k=>k<w.heap.size∧¬ v.ownBlock=some k) w w'):Slf sz enc w0 w' a n l :=
 (Rd.chg s k fun _ hk=>⟨hk.2,fun hv=>by have:=(h.lt _ hv).2;have:=hk.1;omega⟩).mono fun _ hk=>⟨hk.1,Nat.lt_of_lt_of_le hk.2 k.size⟩
theorem QuL.base {e:TypeId} {base base':Nat} {w:World} {v:Value} {l:List Int} (h:QuL e base w v l) (hb:base'≤base):QuL e base' w v l:=by
 rcases h with h | ⟨g,o,cap,cur,h1,h2,h3⟩
 ·exact .inl h
 ·exact .inr ⟨g,o,cap,cur,h1,Nat.le_trans hb h2,h3⟩
end Go.Proofs.YthcholmhmcpooaaGreatDoor
