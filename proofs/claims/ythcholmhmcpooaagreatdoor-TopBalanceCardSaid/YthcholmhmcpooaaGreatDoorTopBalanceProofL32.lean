/- Texts for TopBalanceProof. -/
import Derived.Deep.LoopGhost
import Derived.Test.YthcholmhmcpooaaGreatDoorTopBalanceProofL18
import Derived.Test.YthcholmhmcpooaaGreatDoorTopBalanceProofL20
import Derived.Test.YthcholmhmcpooaaGreatDoorTopBalanceProofL28
set_option linter.unusedSimpArgs false
set_option linter.unusedVariables false

namespace Go.Proofs.YthcholmhmcpooaaGreatDoor
open Go.RowKit
set_option maxHeartbeats 1000000 in
theorem row1_p (g2 g5:Nat) (a:Option Addr) (n c:Nat) (N:List Nd) (own:Nd) (w:World) (h2:Blk w g2 [.slice a n c] 25) (h5:Blk w g5 [.int .i64 own.id,.string own.key,.int .u32 own.word] 36) (hs:Sl 3 encN w a n N) (hn:n≤1000) :
  PredZ 223 #[.pointer (some ⟨g2,0,none⟩),.pointer (some ⟨g5,0,none⟩)] (gtP N own) w:=by
 intro id w' kk
 have q0:=(h2.nx kk).cell 0 _ rfl
 have B5:=h5.nx kk
 have HS:=lH (hs.nx kk)
 have HG:Hid (gtP N own id = !(Op.bytesLess (findN N id).1.key.toList own.key.toList||((findN N id).1.key.toList==own.key.toList))):=lH rfl
 clear h2 h5 hs kk
 go_enter Tryz.func223,Tryz.ntmps223
 go_wp2_with fail
 (with_reducible refine (find_p _ _ _ _ id _ HS.out (by omega)).mono ?_)
 rintro e w1 ⟨rfl,kk⟩
 replace B5:=B5.nx kk
 have K1:=lH kk
 clear kk q0 HS
 generalize findN N id=F at HG ⊢
 obtain ⟨⟨xi,xk,xw⟩,ok⟩:=F
 simp only at HG
 have q5:=B5.cell 1 _ rfl
 have hg5:=B5.lt
 have hne:¬ g5=w1.heap.size:=by omega
 have KE:=lH (K1.out.nx (Ex.new w1 (.cells #[.int .i64 xi,.string xk,.int .u32 xw] 36)))
 simp only [Nd.val]
 clear B5 K1
 go_wp2_with fail
 go_ret
 exact ⟨by rw [HG.out,Bool.not_or];rfl,KE.out⟩
theorem ar_no {N:List Nd} {p:Pr} (h:¬ ((findN N p.id).2=true∧checkN N=0)):arN N p=[]:=by unfold arN;rw [if_neg h]
set_option maxRecDepth 100000 in
set_option maxHeartbeats 4000000 in
theorem row_p (a:Option Addr) (n c:Nat) (N:List Nd) (p:Pr) (a1:Option Addr) (n1 c1:Nat) (a2:Option Addr) (n2 c2:Nat) (w:World) (h:Sl 3 encN w a n N) (hn:n≤1000) (hc:n≤c) (hm:c≤maxLen) (h1:Sl 1 encI w a1 n1 p.known) (h2:Sl 4 encNr w a2 n2 p.near) (hn1:n1≤4000000000000000000) (hn2:n2≤4000000000000000000) :
  Calls Tryz.prog 203 #[.slice a n c,.agg #[.int .i64 p.id,.slice a1 n1 c1,.int .i64 p.left,.int .i64 p.right,.slice a2 n2 c2]] w (OiPost (arN N p) w):=by
 have HL:=lH h.len
 have EX:=Ex.refl w
 have EG:Hid (∀ args w,(callFunc 223 args).run Tryz.prog w=.ok (.enter 223 args) w):=lH (enters_of Tryz.func223 (by kernel_rfl) rfl)
 obtain ⟨g2,hg2⟩:∃ g2,g2=w.heap.size:=⟨_,rfl⟩
 obtain ⟨g3,hg3⟩:∃ g3,g3=(w.heap.size+1):=⟨_,rfl⟩
 obtain ⟨w1,hw1⟩:∃ w1,w1=((w.alloc (.cells #[.slice a n c] 25)).alloc (.cells #[.int .i64 p.id,.slice a1 n1 c1,.int .i64 p.left,.int .i64 p.right,.slice a2 n2 c2] 150)):=⟨_,rfl⟩
 have kk:Ex w w1:=by rw [hw1];exact (((Ex.refl w).alloc (.cells #[.slice a n c] 25)).alloc (.cells #[.int .i64 p.id,.slice a1 n1 c1,.int .i64 p.left,.int .i64 p.right,.slice a2 n2 c2] 150))
 have B2:Blk w1 g2 [.slice a n c] 25:=by rw [hw1];simp only [hg2,hg3];have hbk:=((Blk.new w [.slice a n c] 25).nx (Ex.new _ (.cells #[.int .i64 p.id,.slice a1 n1 c1,.int .i64 p.left,.int .i64 p.right,.slice a2 n2 c2] 150)));simpa using hbk
 have B3:Blk w1 g3 [.int .i64 p.id,.slice a1 n1 c1,.int .i64 p.left,.int .i64 p.right,.slice a2 n2 c2] 150:=by rw [hw1];simp only [hg2,hg3];have hbk:=(Blk.new (w.alloc (.cells #[.slice a n c] 25)) [.int .i64 p.id,.slice a1 n1 c1,.int .i64 p.left,.int .i64 p.right,.slice a2 n2 c2] 150);simpa using hbk
 have Hw1:=lH hw1
 have Hg2:=lH hg2
 have Hg3:=lH hg3
 replace h:=h.nx kk
 replace h1:=h1.nx kk
 replace h2:=h2.nx kk
 replace EX:=EX.nx kk
 clear kk hw1 hg2 hg3
 go_enter Tryz.func203,Tryz.ntmps203
 go_upto_region 1 with fail
 rw [← Hw1.out,← Hg3.out,← Hg2.out]
 clear Hw1 Hg3 Hg2
 have q2:=B2.cell 0 _ rfl
 have q3:=B3.cell 0 _ rfl
 go_wp2_with fail
 (with_reducible refine (find_p _ _ _ _ p.id _ h (by omega)).mono ?_)
 rintro e w2 ⟨rfl,kk⟩
 replace h:=h.nx kk
 replace h1:=h1.nx kk
 replace h2:=h2.nx kk
 replace EX:=EX.nx kk
 replace B2:=B2.nx kk
 replace B3:=B3.nx kk
 clear kk
 clear q2 q3
 have HNO:=lH (ar_no (N:=N) (p:=p))
 have HFM:=lH (fun hf=>findN_mem (l:=N) (id:=p.id) hf)
 obtain ⟨F,hF⟩:∃ F,F=findN N p.id:=⟨_,rfl⟩
 have HF:=lH hF
 rw [← hF] at HNO ⊢
 clear hF
 obtain ⟨⟨xi,xk,xw⟩,ok⟩:=F
 have B5:=Blk.new w2 [.int .i64 xi,.string xk,.int .u32 xw] 36
 have kk:=Ex.new w2 (.cells #[.int .i64 xi,.string xk,.int .u32 xw] 36)
 obtain ⟨w3,hw3⟩:∃ w3,w3=w2.alloc (.cells #[.int .i64 xi,.string xk,.int .u32 xw] 36):=⟨_,rfl⟩
 obtain ⟨g5,hg5⟩:∃ g5,g5=w2.heap.size:=⟨_,rfl⟩
 replace B5:Blk w3 g5 [.int .i64 xi,.string xk,.int .u32 xw] 36:=by rw [hw3,hg5];exact B5
 rw [← hw3] at kk
 have Hw3:=lH hw3
 have Hg5:=lH hg5
 replace h:=h.nx kk
 replace h1:=h1.nx kk
 replace h2:=h2.nx kk
 replace EX:=EX.nx kk
 replace B2:=B2.nx kk
 replace B3:=B3.nx kk
 clear kk hw3 hg5
 simp only [Nd.val]
 go_upto_region 2 with fail
 rw [← Hg5.out,← Hw3.out]
 clear Hg5 Hw3
 cases ok with
 | false =>
  have E0:Hid (arN N p=[]):=lH (HNO.out (fun hh=>by cases hh.1))
  have EX:=lH EX
  clear h h1 h2 B2 B3 B5
  go_wp2_with fail
  go_ret
  exact ⟨_,rfl,by rw [E0.out];exact OwnL.nil _ _ _ _ _,EX.out⟩
 | true =>
  have q2:=B2.cell 0 _ rfl
  go_wp2_with fail
  (with_reducible refine (check_p _ _ _ _ _ h (by omega) hc hm).mono ?_)
  rintro e w4 ⟨rfl,kk⟩
  replace h:=h.nx kk
  replace h1:=h1.nx kk
  replace h2:=h2.nx kk
  replace EX:=EX.nx kk
  replace B2:=B2.nx kk
  replace B3:=B3.nx kk
  replace B5:=B5.nx kk
  clear kk
  clear q2
  by_cases hck:checkN N=0
  case neg =>
   have d1:(checkN N != 0)=true:=by simpa using hck
   have E0:Hid (arN N p=[]):=lH (HNO.out (fun hh=>hck hh.2))
   have EX:=lH EX
   clear h h1 h2 B2 B3 B5 hck
   go_wp2_with fail
   go_ret
   exact ⟨_,rfl,by rw [E0.out];exact OwnL.nil _ _ _ _ _,EX.out⟩
  have d1:(checkN N != 0)=false:=by simpa using hck
  have HC:=lH hck
  clear hck HNO
  obtain ⟨hxN,hxi⟩:(⟨xi,xk,xw⟩:Nd)∈N∧xi=p.id:=by
   have:=HFM.out (by rw [← HF.out])
   rw [← HF.out] at this
   exact this
  have RL:=lH (row_law HC.out hxN (p:=p) hxi)
  clear hxN hxi HFM
  have q2:=B2.cell 0 _ rfl
  have q30:=B3.cell 0 _ rfl
  have q31:=B3.cell 1 _ rfl
  have q32:=B3.cell 2 _ rfl
  have q33:=B3.cell 3 _ rfl
  have q34:=B3.cell 4 _ rfl
  have z4:=EX.size
  go_wp2_with fail
  (with_reducible refine (refs_p _ _ _ N p _ _ _ _ _ _ _ h (by omega) hc hm h1 h2 hn1 hn2).mono ?_)
  rintro e w5 ⟨v,rfl,own,kk⟩
  replace h:=h.nx kk
  replace EX:=EX.nx kk
  replace B2:=B2.nx kk
  replace B3:=B3.nx kk
  replace B5:=B5.nx kk
  clear kk
  clear q2 q30 q31 q32 q33 q34 h1 h2
  replace own:=own.base z4
  obtain ⟨aR,cR,rfl,R1,hcR,hmR,_⟩:=own.slf (fun _=>rfl)
  have hrl:(refsN N p).length≤1000:=by
   have:=HL.out
   have h9:(refsN N p).length≤N.length:=by
    unfold refsN
    split
    ·exact ord_len _ _
    ·exact Nat.zero_le _
   omega
  generalize refsN N p=R at own R1 RL hcR hrl ⊢
  have RS:=R1.sl
  have PI:=row1_p g2 g5 a n c N ⟨xi,xk,xw⟩ w5 B2 B5 h hn
  go_wp2_with fail
  (with_reducible refine (idxf_z _ _ _ EG.out _ _ _ R _ RS (by omega) PI).mono ?_)
  rintro e w6 ⟨rfl,kk⟩
  replace own:=own.nx kk
  replace EX:=EX.nx kk
  replace B3:=B3.nx kk
  clear kk PI RS R1 B2 B5 h
  have zw:=EX.size
  have q30:=B3.cell 0 _ rfl
  have FIN:Hid (∀ (i:Nat),R.findIdx (gtP N ⟨xi,xk,xw⟩)=i→insZ R i p.id=arN N p):=lH (fun i hi=>by rw [← RL.out,← hi];rfl)
  rcases idxZ_cases (gtP N ⟨xi,xk,xw⟩) R with ⟨k,hq,hi,hk⟩ | ⟨hq,hi⟩
  ·rw [hq]
   have hk0:¬ (k:Int)<0:=by omega
   have HI:=lH (FIN.out k hi)
   have zw6:=EX.size
   have hne9:∀ g,g=w6.heap.size→¬ (Value.slice aR R.length cR).ownBlock=some g:=fun g hg hv=>by have:=(own.lt g hv).2;omega
   clear hq hi FIN
   have B9:=Blk.new w6 [.int .i64 p.id] 3
   have kk:=Ex.new w6 (.cells #[.int .i64 p.id] 3)
   obtain ⟨w7,hw7⟩:∃ w7,w7=w6.alloc (.cells #[.int .i64 p.id] 3):=⟨_,rfl⟩
   obtain ⟨g9,hg9⟩:∃ g9,g9=w6.heap.size:=⟨_,rfl⟩
   replace B9:Blk w7 g9 [.int .i64 p.id] 3:=by rw [hw7,hg9];exact B9
   rw [← hw7] at kk
   have Hw7:=lH hw7
   have Hg9:=lH hg9
   replace own:=own.nx kk
   replace EX:=EX.nx kk
   replace hne9:=lH (hne9 g9 hg9)
   clear kk hw7 hg9
   have zw7:=EX.size
   go_wp2_with fail
   rw [← Hg9.out,← Hw7.out]
   clear Hg9 Hw7 q30 B3
   (with_reducible refine (insert_i _ R w.heap.size k p.id g9 _ own zw7 (by omega) (by omega) B9 hne9.out).mono ?_)
   rintro e w8 ⟨v8,rfl,own8,ch⟩
   have FO:=lH own8
   have FE:=lH (Chg.trans EX ch)
   clear own8 ch own B9 EX
   go_wp2_with fail
   go_ret
   exact ⟨_,rfl,by rw [← HI.out];exact FO.out,FE.out⟩
  ·rw [hq]
   have HI:=lH (FIN.out R.length hi)
   have zw6:=EX.size
   have hne9:∀ g,g=w6.heap.size→¬ (Value.slice aR R.length cR).ownBlock=some g:=fun g hg hv=>by have:=(own.lt g hv).2;omega
   clear hq hi FIN
   have B9:=Blk.new w6 [.int .i64 p.id] 3
   have kk:=Ex.new w6 (.cells #[.int .i64 p.id] 3)
   obtain ⟨w7,hw7⟩:∃ w7,w7=w6.alloc (.cells #[.int .i64 p.id] 3):=⟨_,rfl⟩
   obtain ⟨g9,hg9⟩:∃ g9,g9=w6.heap.size:=⟨_,rfl⟩
   replace B9:Blk w7 g9 [.int .i64 p.id] 3:=by rw [hw7,hg9];exact B9
   rw [← hw7] at kk
   have Hw7:=lH hw7
   have Hg9:=lH hg9
   replace own:=own.nx kk
   replace EX:=EX.nx kk
   replace hne9:=lH (hne9 g9 hg9)
   clear kk hw7 hg9
   have zw7:=EX.size
   go_wp2_with fail
   rw [← Hg9.out,← Hw7.out]
   clear Hg9 Hw7 q30 B3
   (with_reducible refine (insert_i _ R w.heap.size R.length p.id g9 _ own zw7 (by omega) (by omega) B9 hne9.out).mono ?_)
   rintro e w8 ⟨v8,rfl,own8,ch⟩
   have FO:=lH own8
   have FE:=lH (Chg.trans EX ch)
   clear own8 ch own B9 EX
   go_wp2_with fail
   go_ret
   exact ⟨_,rfl,by rw [← HI.out];exact FO.out,FE.out⟩
def KpPost (N:List Nd) (p:Pr) (w:World) (e:Ending) (w':World):Prop:=e=.returned (.agg #[.int .i64 (keepN N p).1,.int .i64 (keepN N p).2])∧Ex w w'
theorem idx_here {l:List Int} {id:Int} {k:Nat} (h:l.findIdx (fun x=>id==x)=k) (hk:k<l.length):l[k]?=some id:=by
 subst h
 have:=List.findIdx_getElem (w:=hk)
 rw [List.getElem?_eq_getElem hk]
 simp only [beq_iff_eq] at this
 rw [← this]
theorem idx_gone {l:List Int} {id:Int} (h:l.findIdx (fun x=>id==x)=l.length):id∉l:=by
 intro hm
 have:l.findIdx (fun x=>id==x)<l.length:=List.findIdx_lt_length.2 ⟨id,hm,by simp⟩
 omega
set_option maxRecDepth 100000 in
set_option maxHeartbeats 4000000 in
theorem keep_p (a:Option Addr) (n c:Nat) (N:List Nd) (p:Pr) (a1:Option Addr) (n1 c1:Nat) (a2:Option Addr) (n2 c2:Nat) (w:World) (h:Sl 3 encN w a n N) (hn:n≤1000) (hc:n≤c) (hm:c≤maxLen) (h1:Sl 1 encI w a1 n1 p.known) (h2:Sl 4 encNr w a2 n2 p.near) (hn1:n1≤4000000000000000000) (hn2:n2≤4000000000000000000) :
  Calls Tryz.prog 152 #[.slice a n c,.agg #[.int .i64 p.id,.slice a1 n1 c1,.int .i64 p.left,.int .i64 p.right,.slice a2 n2 c2]] w (KpPost N p w):=by
 have EX:=Ex.refl w
 have HL:=lH h.len
 obtain ⟨g3,hg3⟩:∃ g3,g3=w.heap.size:=⟨_,rfl⟩
 obtain ⟨g4,hg4⟩:∃ g4,g4=(w.heap.size+1):=⟨_,rfl⟩
 obtain ⟨w1,hw1⟩:∃ w1,w1=((w.alloc (.cells #[.int .i64 p.id,.slice a1 n1 c1,.int .i64 p.left,.int .i64 p.right,.slice a2 n2 c2] 150)).alloc (.cells #[.int .i64 0,.int .i64 0] 128)):=⟨_,rfl⟩
 have kk:Ex w w1:=by rw [hw1];exact (((Ex.refl w).alloc (.cells #[.int .i64 p.id,.slice a1 n1 c1,.int .i64 p.left,.int .i64 p.right,.slice a2 n2 c2] 150)).alloc (.cells #[.int .i64 0,.int .i64 0] 128))
 have B3:Blk w1 g3 [.int .i64 p.id,.slice a1 n1 c1,.int .i64 p.left,.int .i64 p.right,.slice a2 n2 c2] 150:=by rw [hw1];simp only [hg3,hg4];have hbk:=((Blk.new w [.int .i64 p.id,.slice a1 n1 c1,.int .i64 p.left,.int .i64 p.right,.slice a2 n2 c2] 150).nx (Ex.new _ (.cells #[.int .i64 0,.int .i64 0] 128)));simpa using hbk
 have B4:Blk w1 g4 [.int .i64 0,.int .i64 0] 128:=by rw [hw1];simp only [hg3,hg4];have hbk:=(Blk.new (w.alloc (.cells #[.int .i64 p.id,.slice a1 n1 c1,.int .i64 p.left,.int .i64 p.right,.slice a2 n2 c2] 150)) [.int .i64 0,.int .i64 0] 128);simpa using hbk
 have Hw1:=lH hw1
 have Hg3:=lH hg3
 have Hg4:=lH hg4
 replace h:=h.nx kk
 replace h1:=h1.nx kk
 replace h2:=h2.nx kk
 replace EX:=EX.nx kk
 have zg4:w.heap.size≤g4:=by omega
 clear kk hw1 hg3 hg4
 go_enter Tryz.func152,Tryz.ntmps152
 go_upto_region 1 with fail
 rw [← Hw1.out,← Hg4.out,← Hg3.out]
 clear Hw1 Hg4 Hg3
 have q0:=B3.cell 0 _ rfl
 have q1:=B3.cell 1 _ rfl
 have q2:=B3.cell 2 _ rfl
 have q3:=B3.cell 3 _ rfl
 have q4:=B3.cell 4 _ rfl
 have z1:=EX.size
 go_wp2_with fail
 (with_reducible refine (row_p _ _ _ N p _ _ _ _ _ _ _ h hn hc hm h1 h2 hn1 hn2).mono ?_)
 rintro e w2 ⟨v,rfl,own,kk⟩
 replace EX:=EX.nx kk
 replace B3:=B3.nx kk
 replace B4:=B4.nx kk
 clear kk
 clear q0 q1 q2 q3 q4 h h1 h2
 have hrl:(arN N p).length≤1000:=by
  have h1:=HL.out
  have h2:=ar_len (N:=N) p
  omega
 obtain ⟨aR,cR,rfl,R1,_,_,_⟩:=own.slf (fun _=>rfl)
 have S:=R1.sl
 have KN:Hid (∀ r,besN p.id (arN N p)=r→keepN N p=r):=lH (fun r hr=>hr)
 have ND:=lH (ar_nodup' (N:=N) p)
 generalize arN N p=R at own R1 S KN ND hrl ⊢
 clear own R1
 have q0:=B3.cell 0 _ rfl
 go_wp2_with fail
 (with_reducible refine (index_e _ _ _ R p.id _ S (by omega)).mono ?_)
 rintro e w3 ⟨rfl,kk⟩
 replace S:=S.nx kk
 replace EX:=EX.nx kk
 replace B4:=B4.nx kk
 clear kk
 clear q0 B3
 have zw3:=EX.size
 have hl4:=B4.lt
 have B7:=Blk.new w3 [.int .i64 0,.int .i64 0] 128
 have kk:=Ex.new w3 (.cells #[.int .i64 0,.int .i64 0] 128)
 obtain ⟨w4,hw4⟩:∃ w4,w4=w3.alloc (.cells #[.int .i64 0,.int .i64 0] 128):=⟨_,rfl⟩
 obtain ⟨g7,hg7⟩:∃ g7,g7=w3.heap.size:=⟨_,rfl⟩
 replace B7:Blk w4 g7 [.int .i64 0,.int .i64 0] 128:=by rw [hw4,hg7];exact B7
 rw [← hw4] at kk
 have Hw4:=lH hw4
 have Hg7:=lH hg7
 replace EX:=EX.nx kk
 replace B4:=B4.nx kk
 have zg7:w.heap.size≤g7:=by omega
 have hg47:¬ g4=g7:=by omega
 have KK:=lH kk
 have HG7:=lH hg7
 clear kk hw4 hg7
 have hR:¬ (-1:Int)>0:=by omega
 rcases idxZ_cases (fun x=>p.id==x) R with ⟨k,hq,hi,hk⟩ | ⟨hq,hi⟩
 ·rw [hq]
  have hk0:(0:Int)≤(k:Int):=by omega
  have HH:=lH (bes_nodup ND.out (idx_here hi hk))
  clear hq hi hR
  by_cases hz:k=0
  ·subst hz
   by_cases h1:0+1<R.length
   ·obtain ⟨xr,xo,yr,rfl,hxr0,hyr,hcr⟩:=S.at h1
    have cr0:w3.cell? ⟨xr,xo+(0+1),none⟩=some (.int .i64 yr):=by simpa using hcr 0 _ rfl
    have cr:=Chg.cellv KK.out cr0 hxr0
    have HYR:=lH hyr
    have hxr:xr≠g7:=by have:=HG7.out;omega
    clear hcr hyr cr0 hxr0
    have KE:Hid (keepN N p=(0,yr)):=lH (KN.out _ (by rw [HH.out,HYR.out];rfl))
    have B4h:=lH B4
    have B7h:=lH B7
    have EXh:=lH EX
    clear B4 B7 EX KN ND
    go_upto_region 4 with fail
    rw [← Hg7.out,← Hw4.out]
    clear Hg7 Hw4
    obtain ⟨w5,hw5⟩:∃ w5,w5=w4:=⟨_,rfl⟩
    have cR5:=lH (fun (x:Addr) (v:Value) (_:x.block≠g7) (hv:w4.cell? x=some v)=>show w5.cell? x=some v by rw [hw5];exact hv)
    rw [← hw5] at B4h B7h EXh ⊢
    have B7i:=B7h.out
    have B4i:=B4h.out
    have EXi:=EXh.out
    clear hw5 B7h B4h EXh
    go_upto_region 6 with fail
    have B4i:=lH B4i
    have B7i:=lH B7i
    have EXi:=lH EXi
    have cq:=cR5.out _ _ hxr cr
    have f7:=B7i.out.free 1
    have r7:=B7i.out.cell 1 _ rfl
    go_upto_region 8 with fail
    obtain ⟨w6,hw6⟩:∃ w6,w6=w5.setCell ⟨g7,1,none⟩ (.int .i64 yr):=⟨_,rfl⟩
    rw [← hw6]
    have B7j:Blk w6 g7 [.int .i64 0,.int .i64 yr] 128:=by rw [hw6];exact B7i.out.set 1 _
    have B4j:Blk w6 g4 [.int .i64 0,.int .i64 0] 128:=by rw [hw6];exact B4i.out.set_ne _ hg47
    have EXj:Ex w w6:=by rw [hw6];exact EXi.out.setNew (p:=⟨g7,1,none⟩) _ zg7
    clear hw6 f7 r7 cq cR5 B7i B4i EXi
    have p0:=B7j.cell 0 _ rfl
    have p1:=B7j.cell 1 _ rfl
    have q0:=B4j.cell 0 _ rfl
    have q1:=B4j.cell 1 _ rfl
    have f0:=B4j.free 0
    have f1:=B4j.free 1
    have KF:=lH ((EXj.setNew (p:=⟨g4,0,none⟩) (.int .i64 0) zg4).setNew (p:=⟨g4,1,none⟩) (.int .i64 yr) zg4)
    clear B7j B4j EXj
    go_wp2_with fail
    refine bodyPost_ret (v:=.agg #[.int .i64 0,.int .i64 yr]) (by simp [results,Tryz.results152,go_sem, *]) rfl ⟨by rw [KE.out],KF.out⟩
   ·have hR0:R[0+1]?=none:=List.getElem?_eq_none (by omega)
    have HR0:=lH hR0
    clear hR0
    have KE:Hid (keepN N p=(0,0)):=lH (KN.out _ (by rw [HH.out,HR0.out];rfl))
    have B4h:=lH B4
    have B7h:=lH B7
    have EXh:=lH EX
    clear B4 B7 EX KN ND
    go_upto_region 4 with fail
    rw [← Hg7.out,← Hw4.out]
    clear Hg7 Hw4
    obtain ⟨w5,hw5⟩:∃ w5,w5=w4:=⟨_,rfl⟩
    have cR5:=lH (fun (x:Addr) (v:Value) (_:x.block≠g7) (hv:w4.cell? x=some v)=>show w5.cell? x=some v by rw [hw5];exact hv)
    rw [← hw5] at B4h B7h EXh ⊢
    have B7i:=B7h.out
    have B4i:=B4h.out
    have EXi:=EXh.out
    clear hw5 B7h B4h EXh
    go_upto_region 6 with fail
    have B4i:=lH B4i
    have B7i:=lH B7i
    have EXi:=lH EXi
    go_upto_region 8 with fail
    obtain ⟨w6,hw6⟩:∃ w6,w6=w5:=⟨_,rfl⟩
    rw [← hw6] at B4i B7i EXi ⊢
    have B7j:=B7i.out
    have B4j:=B4i.out
    have EXj:=EXi.out
    clear hw6 cR5 B7i B4i EXi
    have p0:=B7j.cell 0 _ rfl
    have p1:=B7j.cell 1 _ rfl
    have q0:=B4j.cell 0 _ rfl
    have q1:=B4j.cell 1 _ rfl
    have f0:=B4j.free 0
    have f1:=B4j.free 1
    have KF:=lH ((EXj.setNew (p:=⟨g4,0,none⟩) (.int .i64 0) zg4).setNew (p:=⟨g4,1,none⟩) (.int .i64 0) zg4)
    clear B7j B4j EXj
    go_wp2_with fail
    refine bodyPost_ret (v:=.agg #[.int .i64 0,.int .i64 0]) (by simp [results,Tryz.results152,go_sem, *]) rfl ⟨by rw [KE.out],KF.out⟩
  ·obtain ⟨xl,xo,yl,rfl,hxl0,hyl,hcl⟩:=S.at (show k-1<R.length by omega)
   have cl0:w3.cell? ⟨xl,xo+(k-1),none⟩=some (.int .i64 yl):=by simpa using hcl 0 _ rfl
   have cl:=Chg.cellv KK.out cl0 hxl0
   have HYL:=lH hyl
   have hkp:(0:Int)<(k:Int):=by omega
   clear hcl hyl cl0
   by_cases h1:k+1<R.length
   ·obtain ⟨xr,xo',yr,hee,hxr0,hyr,hcr⟩:=S.at h1
    cases hee
    have cr0:w3.cell? ⟨xl,xo+(k+1),none⟩=some (.int .i64 yr):=by simpa using hcr 0 _ rfl
    have cr:=Chg.cellv KK.out cr0 hxr0
    have HYR:=lH hyr
    have hxr:xl≠g7:=by have:=HG7.out;omega
    clear hcr hyr cr0 hxr0
    have KE:Hid (keepN N p=(yl,yr)):=lH (KN.out _ (by rw [HH.out,HYR.out,HYL.out,if_neg hz];rfl))
    have B4h:=lH B4
    have B7h:=lH B7
    have EXh:=lH EX
    clear B4 B7 EX KN ND
    go_upto_region 4 with fail
    rw [← Hg7.out,← Hw4.out]
    clear Hg7 Hw4
    have f7:=B7h.out.free 0
    have r7:=B7h.out.cell 0 _ rfl
    go_upto_region 6 with fail
    obtain ⟨w5,hw5⟩:∃ w5,w5=w4.setCell ⟨g7,0,none⟩ (.int .i64 yl):=⟨_,rfl⟩
    rw [← hw5]
    have B7i:Blk w5 g7 [.int .i64 yl,.int .i64 0] 128:=by rw [hw5];exact B7h.out.set 0 _
    have B4i:Blk w5 g4 [.int .i64 0,.int .i64 0] 128:=by rw [hw5];exact B4h.out.set_ne _ hg47
    have EXi:Ex w w5:=by rw [hw5];exact EXh.out.setNew (p:=⟨g7,0,none⟩) _ zg7
    have cR5:=lH (fun (x:Addr) (v:Value) (hx:x.block≠g7) (hv:w4.cell? x=some v)=>show w5.cell? x=some v by rw [hw5];exact (World.cell?_of_block (heap_set_ne rfl hx)).trans hv)
    clear hw5 f7 r7 B7h B4h EXh
    have B4i:=lH B4i
    have B7i:=lH B7i
    have EXi:=lH EXi
    have cq:=cR5.out _ _ hxr cr
    have f7:=B7i.out.free 1
    have r7:=B7i.out.cell 1 _ rfl
    go_upto_region 8 with fail
    obtain ⟨w6,hw6⟩:∃ w6,w6=w5.setCell ⟨g7,1,none⟩ (.int .i64 yr):=⟨_,rfl⟩
    rw [← hw6]
    have B7j:Blk w6 g7 [.int .i64 yl,.int .i64 yr] 128:=by rw [hw6];exact B7i.out.set 1 _
    have B4j:Blk w6 g4 [.int .i64 0,.int .i64 0] 128:=by rw [hw6];exact B4i.out.set_ne _ hg47
    have EXj:Ex w w6:=by rw [hw6];exact EXi.out.setNew (p:=⟨g7,1,none⟩) _ zg7
    clear hw6 f7 r7 cq cR5 B7i B4i EXi
    have p0:=B7j.cell 0 _ rfl
    have p1:=B7j.cell 1 _ rfl
    have q0:=B4j.cell 0 _ rfl
    have q1:=B4j.cell 1 _ rfl
    have f0:=B4j.free 0
    have f1:=B4j.free 1
    have KF:=lH ((EXj.setNew (p:=⟨g4,0,none⟩) (.int .i64 yl) zg4).setNew (p:=⟨g4,1,none⟩) (.int .i64 yr) zg4)
    clear B7j B4j EXj
    go_wp2_with fail
    refine bodyPost_ret (v:=.agg #[.int .i64 yl,.int .i64 yr]) (by simp [results,Tryz.results152,go_sem, *]) rfl ⟨by rw [KE.out],KF.out⟩
   ·have hR0:R[k+1]?=none:=List.getElem?_eq_none (by omega)
    have HR0:=lH hR0
    clear hR0
    have KE:Hid (keepN N p=(yl,0)):=lH (KN.out _ (by rw [HH.out,HR0.out,HYL.out,if_neg hz];rfl))
    have B4h:=lH B4
    have B7h:=lH B7
    have EXh:=lH EX
    clear B4 B7 EX KN ND
    go_upto_region 4 with fail
    rw [← Hg7.out,← Hw4.out]
    clear Hg7 Hw4
    have f7:=B7h.out.free 0
    have r7:=B7h.out.cell 0 _ rfl
    go_upto_region 6 with fail
    obtain ⟨w5,hw5⟩:∃ w5,w5=w4.setCell ⟨g7,0,none⟩ (.int .i64 yl):=⟨_,rfl⟩
    rw [← hw5]
    have B7i:Blk w5 g7 [.int .i64 yl,.int .i64 0] 128:=by rw [hw5];exact B7h.out.set 0 _
    have B4i:Blk w5 g4 [.int .i64 0,.int .i64 0] 128:=by rw [hw5];exact B4h.out.set_ne _ hg47
    have EXi:Ex w w5:=by rw [hw5];exact EXh.out.setNew (p:=⟨g7,0,none⟩) _ zg7
    have cR5:=lH (fun (x:Addr) (v:Value) (hx:x.block≠g7) (hv:w4.cell? x=some v)=>show w5.cell? x=some v by rw [hw5];exact (World.cell?_of_block (heap_set_ne rfl hx)).trans hv)
    clear hw5 f7 r7 B7h B4h EXh
    have B4i:=lH B4i
    have B7i:=lH B7i
    have EXi:=lH EXi
    go_upto_region 8 with fail
    obtain ⟨w6,hw6⟩:∃ w6,w6=w5:=⟨_,rfl⟩
    rw [← hw6] at B4i B7i EXi ⊢
    have B7j:=B7i.out
    have B4j:=B4i.out
    have EXj:=EXi.out
    clear hw6 cR5 B7i B4i EXi
    have p0:=B7j.cell 0 _ rfl
    have p1:=B7j.cell 1 _ rfl
    have q0:=B4j.cell 0 _ rfl
    have q1:=B4j.cell 1 _ rfl
    have f0:=B4j.free 0
    have f1:=B4j.free 1
    have KF:=lH ((EXj.setNew (p:=⟨g4,0,none⟩) (.int .i64 yl) zg4).setNew (p:=⟨g4,1,none⟩) (.int .i64 0) zg4)
    clear B7j B4j EXj
    go_wp2_with fail
    refine bodyPost_ret (v:=.agg #[.int .i64 yl,.int .i64 0]) (by simp [results,Tryz.results152,go_sem, *]) rfl ⟨by rw [KE.out],KF.out⟩
 ·rw [hq]
  have HH:=lH (bes_none (idx_gone hi))
  clear hq hi
  have KE:Hid (keepN N p=(0,0)):=lH (KN.out _ (by rw [HH.out]))
  have B4h:=lH B4
  have B7h:=lH B7
  have EXh:=lH EX
  clear B4 B7 EX KN ND
  go_upto_region 4 with fail
  rw [← Hg7.out,← Hw4.out]
  clear Hg7 Hw4
  obtain ⟨w5,hw5⟩:∃ w5,w5=w4:=⟨_,rfl⟩
  have cR5:=lH (fun (x:Addr) (v:Value) (_:x.block≠g7) (hv:w4.cell? x=some v)=>show w5.cell? x=some v by rw [hw5];exact hv)
  rw [← hw5] at B4h B7h EXh ⊢
  have B7i:=B7h.out
  have B4i:=B4h.out
  have EXi:=EXh.out
  clear hw5 B7h B4h EXh
  go_upto_region 6 with fail
  have B4i:=lH B4i
  have B7i:=lH B7i
  have EXi:=lH EXi
  go_upto_region 8 with fail
  obtain ⟨w6,hw6⟩:∃ w6,w6=w5:=⟨_,rfl⟩
  rw [← hw6] at B4i B7i EXi ⊢
  have B7j:=B7i.out
  have B4j:=B4i.out
  have EXj:=EXi.out
  clear hw6 cR5 B7i B4i EXi
  have p0:=B7j.cell 0 _ rfl
  have p1:=B7j.cell 1 _ rfl
  have q0:=B4j.cell 0 _ rfl
  have q1:=B4j.cell 1 _ rfl
  have f0:=B4j.free 0
  have f1:=B4j.free 1
  have KF:=lH ((EXj.setNew (p:=⟨g4,0,none⟩) (.int .i64 0) zg4).setNew (p:=⟨g4,1,none⟩) (.int .i64 0) zg4)
  clear B7j B4j EXj
  go_wp2_with fail
  refine bodyPost_ret (v:=.agg #[.int .i64 0,.int .i64 0]) (by simp [results,Tryz.results152,go_sem, *]) rfl ⟨by rw [KE.out],KF.out⟩
end Go.Proofs.YthcholmhmcpooaaGreatDoor
