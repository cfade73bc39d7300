/- Shared texts. -/
import Derived.WideKeyEntry
import Derived.Test.YthdkeibapcaclaaGreatDoorFmAll6
import Derived.Test.YthdkeibapcaclaaGreatDoorFmAll20
import Derived.Test.YthdkeibapcaclaaGreatDoorFmAll21
set_option linter.unusedSimpArgs false
set_option linter.unusedVariables false

namespace Go.Proofs.YthdkeibapcaclaaGreatDoor
open Go.RowKit
theorem cont4 (y:Nr) (id:Int):(nums4 y).contains id=(y.1==id||y.2.1==id||y.2.2.1==id||y.2.2.2==id):=by
 unfold nums4
 rw [Bool.eq_iff_iff]
 simp only [List.contains_iff_mem,List.mem_cons,List.not_mem_nil,or_false,Bool.or_eq_true,beq_iff_eq]
 omega
set_option maxHeartbeats 1000000 in
theorem names1_p (gx:Nat) (id:Int) (y:Nr) (w:World) (hx:Blk w gx [.int .i64 id] 3) :
  Calls Tryz.prog 131 #[.agg #[.int .i64 y.1,.int .i64 y.2.1,.int .i64 y.2.2.1,.int .i64 y.2.2.2],.pointer (some ⟨gx,0,none⟩)] w fun e w'=>e=.returned (.bool ((nums4 y).contains id))∧Ex w w':=by
 have hg:=hx.lt
 have EX:=Ex.refl w
 have CN:=lH (cont4 y id)
 have B2:=Blk.new w [.int .i64 y.1,.int .i64 y.2.1,.int .i64 y.2.2.1,.int .i64 y.2.2.2] 80
 have kk:=Ex.new w (.cells #[.int .i64 y.1,.int .i64 y.2.1,.int .i64 y.2.2.1,.int .i64 y.2.2.2] 80)
 obtain ⟨w1,hw1⟩:∃ w1,w1=w.alloc (.cells #[.int .i64 y.1,.int .i64 y.2.1,.int .i64 y.2.2.1,.int .i64 y.2.2.2] 80):=⟨_,rfl⟩
 obtain ⟨g2,hg2⟩:∃ g2,g2=w.heap.size:=⟨_,rfl⟩
 replace B2:Blk w1 g2 [.int .i64 y.1,.int .i64 y.2.1,.int .i64 y.2.2.1,.int .i64 y.2.2.2] 80:=by rw [hw1,hg2];exact B2
 rw [← hw1] at kk
 have Hw1:=lH hw1
 have Hg2:=lH hg2
 replace hx:=hx.nx kk
 replace EX:=EX.nx kk
 clear kk hw1 hg2
 go_enter Tryz.func131,Tryz.ntmps131
 go_upto_region 1 with fail
 rw [← Hg2.out,← Hw1.out]
 clear Hg2 Hw1
 have q0:=hx.cell 0 _ rfl
 have p0:=B2.cell 0 _ rfl
 have p1:=B2.cell 1 _ rfl
 have p2:=B2.cell 2 _ rfl
 have p3:=B2.cell 3 _ rfl
 clear hx B2
 generalize hc1:(y.1==id)=c1 at CN
 generalize hc2:(y.2.1==id)=c2 at CN
 generalize hc3:(y.2.2.1==id)=c3 at CN
 generalize hc4:(y.2.2.2==id)=c4 at CN
 cases c1 with
 | true =>
  go_wp2_with fail
  go_ret
  exact ⟨by rw [CN.out];rfl,EX⟩
 | false =>
  cases c2 with
  | true =>
   go_wp2_with fail
   go_ret
   exact ⟨by rw [CN.out];rfl,EX⟩
  | false =>
   cases c3 with
   | true =>
    go_wp2_with fail
    go_ret
    exact ⟨by rw [CN.out];rfl,EX⟩
   | false =>
    go_wp2_with fail
    go_ret
    exact ⟨by rw [CN.out];rfl,EX⟩
def NmfRel (id:Int) (l:List Nr) (n:Nat) (w:World) (i:Value) (wr:World):Prop :=
 ∃ k:Nat,k≤n∧i=.int .i64 k∧Ex w wr∧∀ j z,j<k→l[j]?=some z→(nums4 z).contains id=false
set_option maxRecDepth 100000 in
set_option maxHeartbeats 2000000 in
theorem idxf_nr (gx:Nat) (id:Int) (a:Option Addr) (n c:Nat) (l:List Nr) (w:World) (h:Sl 4 encNr w a n l) (hn:n≤4000000000000000000) (hx:Blk w gx [.int .i64 id] 3) :
  Calls Tryz.prog 172 #[.slice a n c,.func (.func 131) #[] #[.pointer (some ⟨gx,0,none⟩)]] w fun e w'=>∃ r:Int,e=.returned (.int .i64 r)∧decide (0≤r)=(l.flatMap nums4).contains id∧Ex w w':=by
 have HL:=lH h.len
 have HX:=lH hx
 have hs:=lH h
 have eg:∀ args w,(callFunc 131 args).run Tryz.prog w=.ok (.enter 131 args) w:=enters_of Tryz.func131 (by kernel_rfl) rfl
 clear h hx
 go_enter Tryz.func172,Tryz.ntmps172
 go_wp2
 go_loopw [8] (fun i wr=>NmfRel id l n w i wr) (fun i _=>n-(intOf i).toNat)
 case atStart=>exact ⟨0,by omega,rfl,Ex.refl _,by intro j z h;omega⟩
 case round =>
  obtain ⟨k,hk,rfl,kw,hno⟩:=hrel
  have HNO:=lH hno
  clear hno
  obtain ⟨wo,rfl⟩:∃ wo:World,wo=wr:=⟨_,rfl⟩
  by_cases hlt:k<n
  ·obtain ⟨x1,o1,y,rfl,hx1,hy,hc1⟩:=(hs.out.nx kw).at hlt
   have e0:wo.cell? ⟨x1,o1+k*4,none⟩=some (.int .i64 y.1):=hc1 0 _ rfl
   have e1:wo.cell? ⟨x1,o1+k*4+1,none⟩=some (.int .i64 y.2.1):=hc1 1 _ rfl
   have e2:wo.cell? ⟨x1,o1+k*4+1+1,none⟩=some (.int .i64 y.2.2.1):=by simpa [Nat.add_assoc] using hc1 2 _ rfl
   have e3:wo.cell? ⟨x1,o1+k*4+1+1+1,none⟩=some (.int .i64 y.2.2.2):=by simpa [Nat.add_assoc] using hc1 3 _ rfl
   have HY:=lH hy
   have HB:=lH (HX.out.nx kw)
   have KW:=lH kw
   clear hc1 hy kw
   go_wp2_with fail
   (with_reducible refine (names1_p gx id y _ HB.out).mono ?_)
   rintro e w2 ⟨rfl,k2⟩
   have K2:=lH (KW.out.nx k2)
   clear k2 e0 e1 e2 e3
   cases hb:(nums4 y).contains id with
   | true =>
    have HI:Hid ((l.flatMap nums4).contains id=true):=lH (by
     rw [List.contains_iff_mem,List.mem_flatMap]
     exact ⟨y,List.mem_of_getElem? HY.out,List.contains_iff_mem.1 hb⟩)
    clear hb
    go_wp2_with fail
    go_ret
    exact ⟨_,rfl,by rw [HI.out];simp,K2.out⟩
   | false =>
    have HB:=lH hb
    clear hb
    go_wp2_with fail
    refine ⟨⟨k+1,by omega,by go_num,K2.out,fun j z hj hz=>?_⟩,by simp [intOf];omega⟩
    rcases Nat.lt_or_ge j k with h | h
    ·exact HNO.out j z h hz
    ·obtain rfl:j=k:=by omega
     rw [Option.some.inj (hz.symm.trans HY.out)]
     exact HB.out
  ·obtain rfl:k=n:=by omega
   have HI:Hid ((l.flatMap nums4).contains id=false):=lH (by
    rw [Bool.eq_false_iff]
    intro hc
    rw [List.contains_iff_mem,List.mem_flatMap] at hc
    obtain ⟨y,hy,hm⟩:=hc
    obtain ⟨j,hj⟩:=List.mem_iff_getElem?.1 hy
    have:=HNO.out j y (by rw [← HL.out];exact (List.getElem?_eq_some_iff.1 hj).1) hj
    rw [List.contains_iff_mem.2 hm] at this
    cases this)
   have KW:=lH kw
   clear kw hk hlt
   go_wp2_with fail
   go_ret
   exact ⟨-1,rfl,by rw [HI.out];rfl,KW.out⟩
theorem contf_nr (gx:Nat) (id:Int) (a:Option Addr) (n c:Nat) (l:List Nr) (w:World) (h:Sl 4 encNr w a n l) (hn:n≤4000000000000000000) (hx:Blk w gx [.int .i64 id] 3) :
  Calls Tryz.prog 133 #[.slice a n c,.func (.func 131) #[] #[.pointer (some ⟨gx,0,none⟩)]] w fun e w'=>e=.returned (.bool ((l.flatMap nums4).contains id))∧Ex w w':=by
 go_enter Tryz.func133,Tryz.ntmps133
 go_wp2_with fail
 (with_reducible refine (idxf_nr gx id _ _ _ _ _ h hn hx).mono ?_)
 rintro e w1 ⟨r,rfl,hr,kk⟩
 have HR:=lH hr
 clear h hx hr
 go_wp2_with fail
 go_ret
 exact ⟨by rw [← HR.out];rfl,kk⟩
theorem cont_nums (p:Pr) (id:Int):(numsP p).contains id=(p.left==id||p.right==id||p.known.contains id||(p.near.flatMap nums4).contains id):=by
 unfold numsP
 rw [Bool.eq_iff_iff]
 simp only [List.contains_iff_mem,List.mem_append,List.mem_cons,List.not_mem_nil,or_false,Bool.or_eq_true,beq_iff_eq]
 constructor
 ·rintro ((h | h | h) | h)
  ·exact .inl (.inr h)
  ·exact .inl (.inl (.inl h.symm))
  ·exact .inl (.inl (.inr h.symm))
  ·exact .inr h
 ·rintro (((h | h) | h) | h)
  ·exact .inl (.inr (.inl h.symm))
  ·exact .inl (.inr (.inr h.symm))
  ·exact .inl (.inl h)
  ·exact .inr h
set_option maxHeartbeats 2000000 in
theorem names_p (p:Pr) (a1:Option Addr) (n1 c1:Nat) (a2:Option Addr) (n2 c2:Nat) (id:Int) (w:World) (h1:Sl 1 encI w a1 n1 p.known) (h2:Sl 4 encNr w a2 n2 p.near) (hn1:n1≤4000000000000000000) (hn2:n2≤4000000000000000000) :
  Calls Tryz.prog 73 #[.agg #[.int .i64 p.id,.slice a1 n1 c1,.int .i64 p.left,.int .i64 p.right,.slice a2 n2 c2],.int .i64 id] w fun e w'=>e=.returned (.bool ((numsP p).contains id))∧Ex w w':=by
 have EX:=Ex.refl w
 have CN:=lH (cont_nums p id)
 obtain ⟨g2,hg2⟩:∃ g2,g2=w.heap.size:=⟨_,rfl⟩
 obtain ⟨g3,hg3⟩:∃ g3,g3=(w.heap.size+1):=⟨_,rfl⟩
 obtain ⟨w1,hw1⟩:∃ w1,w1=((w.alloc (.cells #[.int .i64 p.id,.slice a1 n1 c1,.int .i64 p.left,.int .i64 p.right,.slice a2 n2 c2] 36)).alloc (.cells #[.int .i64 id] 3)):=⟨_,rfl⟩
 have kk:Ex w w1:=by rw [hw1];exact (((Ex.refl w).alloc (.cells #[.int .i64 p.id,.slice a1 n1 c1,.int .i64 p.left,.int .i64 p.right,.slice a2 n2 c2] 36)).alloc (.cells #[.int .i64 id] 3))
 have B2:Blk w1 g2 [.int .i64 p.id,.slice a1 n1 c1,.int .i64 p.left,.int .i64 p.right,.slice a2 n2 c2] 36:=by rw [hw1];simp only [hg2,hg3];have hbk:=((Blk.new w [.int .i64 p.id,.slice a1 n1 c1,.int .i64 p.left,.int .i64 p.right,.slice a2 n2 c2] 36).nx (Ex.new _ (.cells #[.int .i64 id] 3)));simpa using hbk
 have B3:Blk w1 g3 [.int .i64 id] 3:=by rw [hw1];simp only [hg2,hg3];have hbk:=(Blk.new (w.alloc (.cells #[.int .i64 p.id,.slice a1 n1 c1,.int .i64 p.left,.int .i64 p.right,.slice a2 n2 c2] 36)) [.int .i64 id] 3);simpa using hbk
 have Hw1:=lH hw1
 have Hg2:=lH hg2
 have Hg3:=lH hg3
 replace h1:=h1.nx kk
 replace h2:=h2.nx kk
 replace EX:=EX.nx kk
 clear kk hw1 hg2 hg3
 go_enter Tryz.func73,Tryz.ntmps73
 go_upto_region 2 with fail
 rw [← Hw1.out,← Hg3.out,← Hg2.out]
 clear Hw1 Hg3 Hg2
 have p1:=B2.cell 1 _ rfl
 have p2:=B2.cell 2 _ rfl
 have p3:=B2.cell 3 _ rfl
 have p4:=B2.cell 4 _ rfl
 have q0:=B3.cell 0 _ rfl
 have S1:=lH h1
 have S2:=lH h2
 replace B2:=lH B2
 replace B3:=lH B3
 clear h1 h2
 generalize hc1:(p.left==id)=b1 at CN
 generalize hc2:(p.right==id)=b2 at CN
 cases b1 with
 | true =>
  go_wp2_with fail
  go_ret
  exact ⟨by rw [CN.out];rfl,EX⟩
 | false =>
  cases b2 with
  | true =>
   go_wp2_with fail
   go_ret
   exact ⟨by rw [CN.out];rfl,EX⟩
  | false =>
   go_wp2_with fail
   (with_reducible refine (contains_i _ _ _ _ id _ S1.out hn1).mono ?_)
   rintro e w2 ⟨rfl,kk⟩
   replace EX:=EX.nx kk
   generalize hc3:p.known.contains id=b3 at CN
   have p4:=(B2.out.nx kk).cell 4 _ rfl
   have S2:=lH (S2.out.nx kk)
   have B3:=lH (B3.out.nx kk)
   clear kk p1 p2 p3 q0
   cases b3 with
   | true =>
    go_wp2_with fail
    go_ret
    exact ⟨by rw [CN.out];rfl,EX⟩
   | false =>
    go_wp2_with fail
    (with_reducible refine (contf_nr g3 id _ _ _ _ _ S2.out hn2 B3.out).mono ?_)
    rintro e w3 ⟨rfl,kk⟩
    replace EX:=EX.nx kk
    clear kk
    generalize hc4:(p.near.flatMap nums4).contains id=b4 at CN
    have CN:Hid ((numsP p).contains id=b4):=lH (by rw [CN.out];rfl)
    clear p4
    go_wp2_with fail
    go_ret
    exact ⟨by rw [CN.out];rfl,EX⟩
set_option maxRecDepth 100000 in
set_option maxHeartbeats 4000000 in
theorem refs_p (a:Option Addr) (n c:Nat) (N:List Nd) (p:Pr) (a1:Option Addr) (n1 c1:Nat) (a2:Option Addr) (n2 c2:Nat) (w:World) (h:Sl 3 encN w a n N) (hn:n≤1000) (hc:n≤c) (hm:c≤maxLen) (h1:Sl 1 encI w a1 n1 p.known) (h2:Sl 4 encNr w a2 n2 p.near) (hn1:n1≤4000000000000000000) (hn2:n2≤4000000000000000000) :
  Calls Tryz.prog 30 #[.slice a n c,.agg #[.int .i64 p.id,.slice a1 n1 c1,.int .i64 p.left,.int .i64 p.right,.slice a2 n2 c2]] w (OiPost (refsN N p) w):=by
 have HL:=lH h.len
 have EX:=Ex.refl w
 have B3:=Blk.new w [.int .i64 p.id,.slice a1 n1 c1,.int .i64 p.left,.int .i64 p.right,.slice a2 n2 c2] 36
 have kk:=Ex.new w (.cells #[.int .i64 p.id,.slice a1 n1 c1,.int .i64 p.left,.int .i64 p.right,.slice a2 n2 c2] 36)
 obtain ⟨w1,hw1⟩:∃ w1,w1=w.alloc (.cells #[.int .i64 p.id,.slice a1 n1 c1,.int .i64 p.left,.int .i64 p.right,.slice a2 n2 c2] 36):=⟨_,rfl⟩
 obtain ⟨g3,hg3⟩:∃ g3,g3=w.heap.size:=⟨_,rfl⟩
 replace B3:Blk w1 g3 [.int .i64 p.id,.slice a1 n1 c1,.int .i64 p.left,.int .i64 p.right,.slice a2 n2 c2] 36:=by rw [hw1,hg3];exact B3
 rw [← hw1] at kk
 have Hw1:=lH hw1
 have Hg3:=lH hg3
 replace h:=h.nx kk
 replace h1:=h1.nx kk
 replace h2:=h2.nx kk
 replace EX:=EX.nx kk
 clear kk hw1 hg3
 go_enter Tryz.func30,Tryz.ntmps30
 go_upto_region 1 with fail
 rw [← Hg3.out,← Hw1.out]
 clear Hg3 Hw1
 go_wp2_with fail
 (with_reducible refine (check_p _ _ _ _ _ h (by omega) hc hm).mono ?_)
 rintro e w2 ⟨rfl,kk⟩
 replace h:=h.nx kk
 replace h1:=h1.nx kk
 replace h2:=h2.nx kk
 replace EX:=EX.nx kk
 replace B3:=B3.nx kk
 clear kk
 by_cases hck:checkN N=0
 case neg =>
  have d1:(checkN N != 0)=true:=by simpa using hck
  have E0:Hid (refsN N p=[]):=lH (by unfold refsN;rw [if_neg hck])
  clear h h1 h2 hck B3
  go_wp2_with fail
  go_ret
  exact ⟨_,rfl,by rw [E0.out];exact OwnL.nil _ _ _ _ _,EX⟩
 have d1:(checkN N != 0)=false:=by simpa using hck
 have HC:=lH hck
 clear hck
 go_wp2_with fail
 (with_reducible refine (sort_p _ _ _ _ _ h hn).mono ?_)
 rintro e w3 ⟨v,S,rfl,OS,⟨hp,hsrt⟩,kk⟩
 replace h1:=h1.nx kk
 replace h2:=h2.nx kk
 replace EX:=EX.nx kk
 replace B3:=B3.nx kk
 clear kk
 have hSe:S=sortN N:=sortN_unique (check_keys HC.out) hp hsrt
 subst hSe
 obtain ⟨a3,c3,rfl,S3,_,_⟩:=sorted_own HC.out OS
 rw [HL.out] at S3 ⊢
 have ES:Hid (refsN N p=((sortN N).filter (ordP (numsP p) p.id)).map Nd.id):=lH (by unfold refsN;rw [if_pos HC.out];rfl)
 generalize sortN N=S at S3 ES
 have HSL:=lH S3.len
 replace S3:=lH S3
 have S1:=lH h1
 have S2:=lH h2
 have K1:=lH EX
 have hz1:=EX.size
 replace B3:=lH B3
 clear h h1 h2 OS EX hp hsrt
 go_wp2_with fail
 go_loopw [5,14] (fun o i wr=>OrdRel S (numsP p) p.id w3 o i wr) (fun _ i _=>n-(intOf i).toNat)
 case atStart=>exact ⟨0,by omega,rfl,OwnL.nil _ _ _ _ _,Ex.refl _⟩
 case round =>
  obtain ⟨j,hj,rfl,own,ki⟩:=hrel
  obtain ⟨wi,rfl⟩:∃ wi:World,wi=wr:=⟨_,rfl⟩
  by_cases hjm:j<n
  ·obtain ⟨x3,o3,y,rfl,hx3,hy,hc3⟩:=(S3.out.nx ki).at hjm
   have e0:wi.cell? ⟨x3,o3+j*3,none⟩=some (.int .i64 y.id):=hc3 0 _ rfl
   have e1:wi.cell? ⟨x3,o3+j*3+1,none⟩=some (.string y.key):=hc3 1 _ rfl
   have e2:wi.cell? ⟨x3,o3+j*3+1+1,none⟩=some (.int .u32 y.word):=by simpa [Nat.add_assoc] using hc3 2 _ rfl
   have SN:=lH (ord_snoc (l:=numsP p) (but:=p.id) hy)
   have hrl:(((S.take j).filter (ordP (numsP p) p.id)).map Nd.id).length≤1000:=by
    rw [List.length_map]
    have:=List.length_filter_le (ordP (numsP p) p.id) (S.take j)
    rw [List.length_take] at this
    omega
   generalize ((S.take j).filter (ordP (numsP p) p.id)).map Nd.id=row at own SN hrl
   have KI:=lH ki
   clear hy hc3 ki
   have B7:=Blk.new wi [.int .i64 y.id,.string y.key,.int .u32 y.word] 60
   have kk:=Ex.new wi (.cells #[.int .i64 y.id,.string y.key,.int .u32 y.word] 60)
   obtain ⟨w7,hw7⟩:∃ w7,w7=wi.alloc (.cells #[.int .i64 y.id,.string y.key,.int .u32 y.word] 60):=⟨_,rfl⟩
   obtain ⟨g7,hg7⟩:∃ g7,g7=wi.heap.size:=⟨_,rfl⟩
   replace B7:Blk w7 g7 [.int .i64 y.id,.string y.key,.int .u32 y.word] 60:=by rw [hw7,hg7];exact B7
   rw [← hw7] at kk
   have Hw7:=lH hw7
   have Hg7:=lH hg7
   replace own:=own.nx kk
   have K7:=lH (KI.out.nx kk)
   clear kk hw7 hg7
   have Q3:=B3.out.nx K7.out
   go_upto_region 7 with fail
   rw [← Hg7.out,← Hw7.out]
   clear Hg7 Hw7
   have q0:=B7.cell 0 _ rfl
   have p0:=Q3.cell 0 _ rfl
   clear e0 e1 e2
   by_cases hb:y.id=p.id
   ·have hq:(y.id != p.id)=false:=by simp [hb]
    have hq2:(y.id==p.id)=true:=by simp [hb]
    have PF:Hid (ordP (numsP p) p.id y=false):=lH (by unfold ordP;rw [hq2];rfl)
    have OWN:=lH own
    clear hb own hq2 B7 Q3
    go_wp2_with fail
    exact ⟨⟨j+1,by rw [HSL.out];omega,by go_num,by rw [SN.out,PF.out];simpa using OWN.out,K7.out⟩,by simp [intOf];omega⟩
   ·have hq:(y.id != p.id)=true:=by simpa using hb
    have hq2:(y.id==p.id)=false:=by simpa using hb
    have PB:Hid (ordP (numsP p) p.id y=(numsP p).contains y.id):=lH (by unfold ordP;rw [hq2];rfl)
    have p1:=Q3.cell 1 _ rfl
    have p2:=Q3.cell 2 _ rfl
    have p3:=Q3.cell 3 _ rfl
    have p4:=Q3.cell 4 _ rfl
    clear hb hq2 Q3
    go_wp2_with fail
    (with_reducible refine (names_p p _ _ _ _ _ _ y.id _ (S1.out.nx K7.out) (S2.out.nx K7.out) hn1 hn2).mono ?_)
    rintro e w5 ⟨rfl,kk⟩
    replace own:=own.nx kk
    replace B7:=B7.nx kk
    have K5:=lH (K7.out.nx kk)
    have zb5:=K5.out.size
    have q0:=B7.cell 0 _ rfl
    have OWN:=lH own
    clear kk p0 p1 p2 p3 p4 own B7
    generalize (numsP p).contains y.id=inl at PB ⊢
    generalize y.id=yi at SN q0 hq
    cases inl with
    | false =>
     clear q0 hq
     go_wp2_with fail
     exact ⟨⟨j+1,by rw [HSL.out];omega,by go_num,by rw [SN.out,PB.out];simpa using OWN.out,K5.out⟩,by simp [intOf];omega⟩
    | true =>
     have own5:=OWN.out
     have hl7:row.length≤1000000:=by omega
     clear hq
     go_wp2_with (at_builtin;(refine wpList_append_lit (enc:=encI) w5 rfl _ _ 22 rfl w3.heap.size 3 (.int .i64 0) 1 8 Tryz.underlying22 Tryz.infoI6 rfl (by omega) (by omega) _ _ own5 rfl (yi:Int) _ rfl rfl (by simp [encI,Value.oneCell']) _ (by simp) rfl hl7 zb5 _ ?_);intro v6 w6 own6 _ ch1 _)
     refine ⟨⟨j+1,by rw [HSL.out];omega,by go_num,by rw [SN.out,PB.out];exact own6,Chg.trans K5.out ch1⟩,by simp [intOf];omega⟩
  ·obtain rfl:j=n:=by have:=HSL.out;omega
   rw [List.take_of_length_le (by rw [HSL.out];exact Nat.le_refl _)] at own
   have own:=lH (own.base hz1)
   have KE:=lH (K1.out.nx ki)
   clear hj hjm ki
   go_wp2_with fail
   go_ret
   exact ⟨_,rfl,by rw [ES.out];exact own.out,KE.out⟩
end Go.Proofs.YthdkeibapcaclaaGreatDoor
namespace Go.Proofs.YthdkeibapcaclaaGreatDoor
open Go.RowKit Go.Maps
open Go.ChangeMaps Go.MapKept
open Go.WideElems (Fit findIdx_born findIdx_arr modify_last set_self)
def rawR (v:Value):Option (DataW Value×List MemPlace):=some (.held v,[])
abbrev nilS:Value:=.slice none 0 0
def RawM (P:Program) (k:TypeId) (w:World) (b n:Nat) (f:Int→Value):Prop :=
 ∃ D,w.ownsMap P k rawR b n D∧∀ v,D.atKey (keyI v) (.held nilS)=.held (f v)
def upd (f:Int→Value) (v:Int) (u:Value):Int→Value:=fun x=>if x=v then u else f x
section
variable {P:Program} {k e t:TypeId} {w w':World} {b n:Nat} {f:Int→Value}
theorem RawM.made (w:World) (P:Program) (k:TypeId):RawM P k (w.alloc (.map #[] 0)) w.heap.size 0 (fun _=>nilS):=⟨_,World.ownsMap_made _ _ _ _,fun _=>rfl⟩
theorem RawM.lt (h:RawM P k w b n f):b<w.heap.size:=by obtain ⟨D,h,_⟩:=h;exact World.ownsMap.lt h
theorem RawM.same (h:RawM P k w b n f) (hh:w'.heap[b]?=w.heap[b]?):RawM P k w' b n f:=by
 obtain ⟨D,⟨es,clock,hb,r⟩,hf⟩:=h
 exact ⟨D,⟨es,clock,hh.trans hb,r⟩,hf⟩
theorem RawM.nx (h:RawM P k w b n f) (kk:Ex w w'):RawM P k w' b n f:=h.same (kk.block b h.lt)
theorem RawM.nxb {c:Nat} (h:RawM P k w b n f) (hc:b≠c) (kk:Exb c w w'):RawM P k w' b n f:=h.same (kk.block b ⟨h.lt,hc⟩)
theorem RawM.get (h:RawM P k w b n f) (hk:P.underlying k=some (.int .i64)) (ht:P.underlying t=some (.map k e)) (hz:(zeroValue e).run P w=.ok nilS w) {v:Int} (hv:(Lit.int .i64 v).wf=true) :
  (Instr.lookup t (.map (some b)) (.int .i64 v) false).run P w=.ok (f v) w:=by
 obtain ⟨D,h,hf⟩:=h
 obtain ⟨u,ps,hrun,hR⟩:=World.ownsMap.lookup (t:=t) (e:=e) h (int_keyed hk) ht hz (zd:=.held nilS) (zp:=[]) rfl (keyOf_int_mk hk hv)
 rw [hf] at hR
 unfold rawR at hR
 simp only [Option.some.injEq,Prod.mk.injEq,DataW.held.injEq] at hR
 rw [hrun,hR.1]
theorem raw_put {D:DataW Value} (hD:IsMap D) (hf:∀ v,D.atKey (keyI v) (.held nilS)=.held (f v)) (v:Int) (u:Value):∀ x,(D.put (keyI v) (.held u)).atKey (keyI x) (.held nilS)=.held (upd f v u x):=by
 intro x
 unfold upd
 by_cases hx:x=v
 ·subst hx
  rw [atKey_put_same hD (key_lit x),if_pos rfl]
 ·rw [atKey_put_other (by simpa [keyI] using hx),hf,if_neg hx]
theorem RawM.put (h:RawM P k w b n f) (hk:P.underlying k=some (.int .i64)) (ht:P.underlying t=some (.map k e)) (hn:n<100000000) {v:Int} (hv:(Lit.int .i64 v).wf=true) (u:Value) :
  ∃ w',(Instr.mapUpdate t (.map (some b)) (.int .i64 v) u).run P w=.ok () w'∧RawM P k w' b (n+1) (upd f v u)∧Exb b w w'∧w'.heap.size=w.heap.size:=by
 obtain ⟨D,h,hf⟩:=h
 obtain ⟨w',hrun,ho,ht'⟩:=World.ownsMap.store (t:=t) (e:=e) (val:=u) (d:=.held u) (ps:=[]) h (int_keyed hk) ht (by unfold maxLen;omega) (keyOf_int_mk hk hv) rfl
 refine ⟨w',hrun,⟨_,ho,raw_put h.isMap hf v u⟩,turned_exb ht',?_⟩
 obtain ⟨es,clock,es',clock',hb,rfl⟩:=ht'
 simp [Go.ChangeMaps.setBlock]
theorem RawM.entry (h:RawM P k w b n f) (hk:P.underlying k=some (.int .i64)) (ht:P.underlying t=some (.map k e)) (hz:∀ u:World,(zeroValue e).run P u=.ok nilS u) (hn:n<100000000) {v:Int} (hv:(Lit.int .i64 v).wf=true) :
  ∃ (v0:Value) (st:Nat) (w1:World),(Instr.mapEntry t (.map (some b)) (.int .i64 v)).run P w=.ok (.tuple #[v0,goInt st]) w1∧Exb b w w1∧w1.heap.size=w.heap.size ∧
   ∀ (w2:World) (u:Value),w2.heap[b]?=w1.heap[b]?→∃ w3,(Instr.entryStore t (.map (some b)) (goInt st) u).run P w2=.ok () w3∧RawM P k w3 b (n+1) (upd f v u)∧Exb b w2 w3∧w3.heap.size=w2.heap.size:=by
 have K:=int_keyed (P:=P) hk
 have hkey:=keyOf_int_mk (P:=P) hk hv
 obtain ⟨D,⟨es,clock,hb,F,hs,hD⟩,hf⟩:=h
 have hM:RawM P k w b n f:=⟨D,⟨es,clock,hb,F,hs,hD⟩,hf⟩
 obtain ⟨s1,s2,_⟩:=F.stamped
 have fin:∀ (es1:Array MapEntry) (c1:Nat) (w2:World) (u:Value) (es':Array MapEntry) (c':Nat),(setBlock w b (.map es1 c1)).heap[b]?=w2.heap[b]? →
   (Instr.mapUpdate t (.map (some b)) (.int .i64 v) u).run P w=.ok () (setBlock w b (.map es' c'))→RawM P k (setBlock w2 b (.map es' c')) b (n+1) (upd f v u)∧Exb b w2 (setBlock w2 b (.map es' c'))∧(setBlock w2 b (.map es' c')).heap.size=w2.heap.size:=by
  intro es1 c1 w2 u es' c' hw2 hrun
  obtain ⟨w',hrun',hM',_,_⟩:=hM.put hk ht hn hv u
  rw [hrun] at hrun'
  cases hrun'
  have h2:w2.heap[b]?=some (.map es1 c1):=hw2.symm.trans (heap_setBlock_same hb _)
  refine ⟨hM'.same ((heap_setBlock_same h2 _).trans (heap_setBlock_same hb _).symm),turned_exb ⟨es1,c1,es',c',h2,rfl⟩,by simp [setBlock]⟩
 rcases K.find w hkey es.toList F.keys with ⟨h1,h2⟩ | ⟨j,e0,h1,h2,h3⟩
 ·refine ⟨nilS,clock,setBlock w b (.map (es.push ⟨.int .i64 v,nilS,clock⟩) (clock+1)),?_,turned_exb ⟨es,clock,_,_,hb,rfl⟩,by simp [setBlock],fun w2 u hw2=>⟨setBlock w2 b (.map (es.push ⟨.int .i64 v,u,clock⟩) (clock+1)),?_,fin _ _ w2 u _ _ hw2.symm ?_⟩⟩
  ·simp [Instr.mapEntry,run_underlying ht,MapKept.run_getObj_map hb,K.check w false hkey,h1,hz,MapKept.run_setObj_map _ hb,Result.andThen,setBlock]
  ·have hw2:w2.heap[b]?=some (.map (es.push ⟨.int .i64 v,nilS,clock⟩) (clock+1)):=hw2.trans (heap_setBlock_same hb _)
   have hidx:(es.push ⟨.int .i64 v,nilS,clock⟩).findIdx? (fun e=>((e.born:Nat):Int)==((clock:Nat):Int))=some es.size:=by
    rw [findIdx_arr]
    refine findIdx_born (l:=(es.push ⟨.int .i64 v,nilS,clock⟩).toList) (j:=es.size) (e0:=⟨.int .i64 v,nilS,clock⟩) ?_ (by simp)
    simp only [Array.toList_push,List.map_append,List.map_cons,List.map_nil]
    refine List.nodup_append.2 ⟨s2,by simp,fun a ha c hc e1=>?_⟩
    simp only [List.mem_singleton] at hc
    obtain ⟨x,hx,rfl⟩:=List.mem_map.1 ha
    have:=s1 x hx
    omega
   have hmod:(es.push ⟨.int .i64 v,nilS,clock⟩).modify es.size (fun e=>{ e with val:=u })=es.push ⟨.int .i64 v,u,clock⟩:=by
    apply Array.ext'
    rw [Array.toList_modify,Array.toList_push,Array.toList_push,← Array.length_toList,modify_last]
   simp [Instr.entryStore,MapKept.run_getObj_map hw2,asInt,asIntOf,goInt,hidx,hmod,MapKept.run_setObj_map _ hw2,Result.andThen,setBlock]
  ·simp [Instr.mapUpdate,run_underlying ht,MapKept.run_getObj_map hb,K.check w false hkey,h1,MapKept.run_setObj_map _ hb,Result.andThen,setBlock]
 ·have hj:es[j]?=some e0:=by simpa using h2
  have hsame:es.modify j (fun e=>{ e with key:=.int .i64 v })=es:=by
   apply Array.ext'
   rw [Array.toList_modify,modify_eq_set _ _ _ _ h2]
   have:({ e0 with key:=.int .i64 v }:MapEntry)=e0:=by rw [← h3]
   rw [this]
   exact set_self _ _ _ h2
  refine ⟨e0.val,e0.born,setBlock w b (.map es clock),?_,turned_exb ⟨es,clock,_,_,hb,rfl⟩,by simp [setBlock],fun w2 u hw2=>⟨setBlock w2 b (.map (es.modify j (fun e'=>{ e' with key:=.int .i64 v,val:=u })) clock),?_,fin _ _ w2 u _ _ hw2.symm ?_⟩⟩
  ·simp [Instr.mapEntry,run_underlying ht,MapKept.run_getObj_map hb,K.check w false hkey,h1,hj,h3,K.stays w hkey,hsame,MapKept.run_setObj_map _ hb,Result.andThen,setBlock]
  ·have hw2:w2.heap[b]?=some (.map es clock):=hw2.trans (heap_setBlock_same hb _)
   have hidx:es.findIdx? (fun e=>((e.born:Nat):Int)==((e0.born:Nat):Int))=some j:=by
    rw [findIdx_arr]
    exact findIdx_born s2 h2
   have hmod:es.modify j (fun e=>{ e with val:=u })=es.modify j (fun e'=>{ e' with key:=.int .i64 v,val:=u }):=by
    apply Array.ext'
    rw [Array.toList_modify,Array.toList_modify,modify_eq_set _ _ _ _ h2,modify_eq_set _ _ _ _ h2,← h3]
   simp [Instr.entryStore,MapKept.run_getObj_map hw2,asInt,asIntOf,goInt,hidx,hmod,MapKept.run_setObj_map _ hw2,Result.andThen,setBlock]
  ·simp [Instr.mapUpdate,run_underlying ht,MapKept.run_getObj_map hb,K.check w false hkey,h1,hj,h3,K.stays w hkey,MapKept.run_setObj_map _ hb,Result.andThen,setBlock]
end
def Acc (β lo hi:Nat) (w6 wr:World) (o:Value):Prop:=Chg (fun k=>k<hi∧(k<β∨lo≤k)) w6 wr∧hi≤wr.heap.size∧∀ g,o.ownBlock=some g→g<lo∨hi≤g
theorem Acc.start {β lo hi:Nat} {w:World} {o:Value} (hs:hi≤w.heap.size) (ho:∀ g,o.ownBlock=some g→g<lo∨hi≤g):Acc β lo hi w w o:=⟨Chg.refl _ _,hs,ho⟩
theorem Acc.step {β lo hi:Nat} {w6 wr w9:World} {o o':Value} (h:Acc β lo hi w6 wr o) (hb:∀ g,o.ownBlock=some g→β≤g) (k:Chg (fun k=>k<wr.heap.size∧¬ o.ownBlock=some k) wr w9) (ho:o'.ownBlock=o.ownBlock∨∀ g,o'.ownBlock=some g→wr.heap.size≤g):Acc β lo hi w6 w9 o':=by
 refine ⟨h.1.trans (k.mono fun x hx=>⟨Nat.lt_of_lt_of_le hx.1 h.2.1,fun hv=>?_⟩),Nat.le_trans h.2.1 k.size,fun g hg=>?_⟩
 ·have h1:=hb x hv
  have h2:=h.2.2 x hv
  have h3:=hx.2
  have h4:=hx.1
  omega
 ·rcases ho with h1 | h1
  ·exact h.2.2 g (by rw [← h1];exact hg)
  ·have:=h1 g hg;have:=h.2.1;omega
theorem Acc.nx {β lo hi:Nat} {w6 wr w9:World} {o:Value} (h:Acc β lo hi w6 wr o) (k:Ex wr w9):Acc β lo hi w6 w9 o :=
 ⟨h.1.trans (Chg.mono k fun x hx=>Nat.lt_of_lt_of_le hx.1 h.2.1),Nat.le_trans h.2.1 k.size,h.2.2⟩
theorem Acc.sl {α:Type} {sz n:Nat} {enc:α→List Value} {a:Option Addr} {l:List α} {β:Nat} {w5 w6 wr:World} {o:Value} (h:Acc β w5.heap.size w6.heap.size w6 wr o) (s:Slf sz enc w5 w6 a n l):Sl sz enc wr a n l :=
 (Rd.chg s h.1 (fun _ hk=>⟨hk.2,.inr hk.1⟩)).mono fun _ hk=>Nat.lt_of_lt_of_le hk.2 h.2.1
theorem Acc.ex {w2 w6 wr:World} {lo:Nat} {o:Value} (h:Acc w2.heap.size lo w6.heap.size w6 wr o) (k:Ex w2 w6):Ex w2 wr :=
 Chg.trans k (Chg.mono h.1 fun _ hk=>⟨Nat.lt_of_lt_of_le hk k.size,.inl hk⟩)
theorem OwnW.blk_lt {α:Type} {sz e base:Nat} {enc:α→List Value} {w:World} {v:Value} {l:List α} (h:OwnW sz enc e base w v l) {g:Nat} (hg:v.ownBlock=some g):g<w.heap.size:=by
 obtain ⟨_,cur,hh⟩:=h.blk hg
 exact heap_lt hh
structure Fl where
 peers:List Pr
 msgs:List (Int×Int)
def copF (N:List Nd) (f:Fl):Fl:=if checkN N=0 then ⟨normalN N f.peers,f.msgs⟩ else ⟨[],[]⟩
def tickP (N:List Nd) (st:Int→Pr) (x:Pr) (h:Nat):Pr:=⟨x.id,(keepN N x).1,(keepN N x).2,ordN N [(keepN N x).1,(keepN N x).2] x.id,nextB N st x h⟩
def tickF (N:List Nd) (f:Fl) (id h:Int):Fl :=
 if lvlN h=true∧(copF N f).peers.any (fun p=>p.id==id)=true then
  ⟨(copF N f).peers.map fun p=>if p.id=id then tickP N (peerN (copF N f).peers) p h.toNat else p,(copF N f).msgs++introsN N (peerN (copF N f).peers id)⟩
 else copF N f
def tellP (N:List Nd) (m:Int×Int) (p:Pr):Pr:=if p.id=m.1 then { p with known:=ordN N (p.known++[m.2]) p.id } else p
def delF (N:List Nd) (f:Fl) (k:Int):Fl :=
 if 0≤k then match (copF N f).msgs[k.toNat]? with
  | none=>copF N f
  | some m=>⟨if (findN N m.2).2=true∧m.1≠m.2 then (copF N f).peers.map (tellP N m) else (copF N f).peers,(copF N f).msgs.eraseIdx k.toNat⟩
 else copF N f
def dblF (f:Fl) (k:Int) (most:Nat):Fl :=
 if 0≤k∧f.msgs.length<most then match f.msgs[k.toNat]? with
  | none=>f
  | some m=>⟨f.peers,f.msgs++[m]⟩
 else f
def nodeB (N:List Nd) (v:Int):Prop:=∃ x∈N,x.id=v
def EdgeF (N:List Nd) (f:Fl) (u v:Int):Prop:=EdgeN N f.peers u v∨((u,v)∈f.msgs∧nodeB N u∧nodeB N v)
def ConnF (N:List Nd) (f:Fl):Prop:=checkN N=0∧∀ x∈N,∀ y∈N,Cl (EdgeF N f) x.id y.id
section
variable {N:List Nd} {f:Fl}
theorem cop_peer (h0:checkN N=0) {x:Nd} (hx:x∈N):peerN (copF N f).peers x.id=peerN f.peers x.id:=by
 unfold copF
 rw [if_pos h0]
 exact normal_peer h0 hx
theorem cop_msgs (h0:checkN N=0):(copF N f).msgs=f.msgs:=by unfold copF;rw [if_pos h0]
theorem cop_map (h0:checkN N=0):(copF N f).peers=(sortN N).map fun x=>peerN f.peers x.id:=by
 unfold copF normalN
 rw [if_pos h0,if_pos h0]
theorem peer_change (h0:checkN N=0) {P:List Pr} (g:Pr→Pr) (hg:∀ p,(g p).id=p.id) {x:Nd} (hx:x∈N):peerN (((sortN N).map fun x=>peerN P x.id).map g) x.id=g (peerN P x.id):=by
 rw [List.map_map]
 refine (peer_map (sort_ids h0) (fun y=>?_) ((sortN_mem N x).2 hx)).trans rfl
 show (g (peerN P y.id)).id=y.id
 rw [hg,peer_id]
theorem tick_no {id:Int} {h:Int} (hn:¬ (lvlN h=true∧(copF N f).peers.any (fun p=>p.id==id)=true)):tickF N f id h=copF N f:=by unfold tickF;rw [if_neg hn]
theorem find_node (h0:checkN N=0) {v:Int}:(findN N v).2=true↔nodeB N v:=by
 constructor
 ·intro h
  unfold findN at h
  cases e:N.find? (fun x=>x.id==v) with
  | none=>rw [e] at h;cases h
  | some x=>exact ⟨x,List.mem_of_find?_eq_some e,by simpa using List.find?_some e⟩
 ·rintro ⟨x,hx,rfl⟩
  rw [find_in h0 hx]
theorem tell_id (m:Int×Int) (p:Pr):(tellP N m p).id=p.id:=by unfold tellP;split<;>rfl
theorem del_some (h0:checkN N=0) {k:Nat} {m:Int×Int} (hm:f.msgs[k]?=some m):delF N f k=⟨if (findN N m.2).2=true∧m.1≠m.2 then (copF N f).peers.map (tellP N m) else (copF N f).peers,f.msgs.eraseIdx k⟩:=by
 unfold delF
 rw [if_pos (by omega),cop_msgs h0,Int.toNat_natCast,hm]
theorem del_peer (h0:checkN N=0) {k:Nat} {m:Int×Int} (hm:f.msgs[k]?=some m) {y:Nd} (hy:y∈N):peerN (delF N f k).peers y.id=if (findN N m.2).2=true∧m.1≠m.2∧y.id=m.1 then { peerN f.peers y.id with known:=ordN N ((peerN f.peers y.id).known++[m.2]) y.id } else peerN f.peers y.id:=by
 rw [del_some h0 hm]
 by_cases hc:(findN N m.2).2=true∧m.1≠m.2
 ·simp only [if_pos hc]
  rw [cop_map h0,peer_change h0 _ (tell_id m) hy]
  unfold tellP
  rw [peer_id]
  by_cases he:y.id=m.1
  ·rw [if_pos he,if_pos ⟨hc.1,hc.2,he⟩]
  ·rw [if_neg he,if_neg (fun h=>he h.2.2)]
 ·simp only [if_neg hc]
  rw [cop_peer h0 hy,if_neg (fun h=>hc ⟨h.1,h.2.1⟩)]
end
def pickN (l:List Int) (i n:Nat):Nat:=match l[i]? with
 | none=>0
 | some x=>(x % (n:Int)).toNat
theorem pick_lt (l:List Int) (i:Nat) {n:Nat} (hn:0<n):pickN l i n<n:=by
 unfold pickN
 split
 ·exact hn
 ·rename_i x _
  have:=Int.emod_lt_of_pos x (show (0:Int)<n by omega)
  have:=Int.emod_nonneg x (show (n:Int)≠0 by omega)
  omega
def delAllF (N:List Nd) (ms:List Int):Nat→Nat→Fl→Fl
 | 0,_,f=>f
 | n+1,i,f=>delAllF N ms n (i+1) (delF N f (pickN ms i (n+1):Nat))
def tickAllF (N:List Nd) (ts:List Int) (h:Int):Nat→Nat→List Int→Fl→Fl
 | 0,_,_,f=>f
 | n+1,i,left,f=>tickAllF N ts h n (i+1) (left.eraseIdx (pickN ts i (n+1))) (tickF N f (left[pickN ts i (n+1)]?.getD 0) h)
def roundF (N:List Nd) (f:Fl) (ms ts:List Int) (h:Int):Fl :=
 if lvlN h=true∧checkN N=0 then tickAllF N ts h N.length 0 ((sortN N).map Nd.id) (delAllF N ms (copF N f).msgs.length 0 (copF N f)) else ⟨[],[]⟩
section
variable {N:List Nd} {f g:Fl}
def DelTo (N:List Nd) (f g:Fl) (D:List (Int×Int)):Prop :=
 (∀ x∈N,(peerN g.peers x.id).left=(peerN f.peers x.id).left∧(peerN g.peers x.id).right=(peerN f.peers x.id).right∧(peerN g.peers x.id).near=(peerN f.peers x.id).near ∧
  ∀ v,nodeB N v→v≠x.id→(v∈(peerN g.peers x.id).known↔v∈(peerN f.peers x.id).known∨(x.id,v)∈D))∧∀ m,m∈f.msgs↔m∈g.msgs∨m∈D
theorem DelTo.refl (N:List Nd) (f:Fl):DelTo N f f []:=⟨fun x hx=>⟨rfl,rfl,rfl,fun v _ _=>by simp⟩,fun m=>by simp⟩
end
section
variable {N:List Nd} {f g:Fl}
def NormF (N:List Nd) (f:Fl):Prop:=f.peers.map Pr.id=(sortN N).map Nd.id
theorem norm_lenF (h:NormF N f):f.peers.length=N.length:=by
 have:=congrArg List.length h
 simpa [sortN_length] using this
theorem norm_normal (h0:checkN N=0) (P:List Pr) (M:List (Int×Int)):NormF N ⟨normalN N P,M⟩:=by
 unfold NormF normalN
 rw [if_pos h0,List.map_map]
 exact List.map_congr_left fun x _=>peer_id _ _
theorem norm_cop (h0:checkN N=0) (f:Fl):NormF N (copF N f):=by
 unfold copF
 rw [if_pos h0]
 exact norm_normal h0 _ _
theorem ids_map {P:List Pr} {G:Pr→Pr} (hG:∀ p,(G p).id=p.id):(P.map G).map Pr.id=P.map Pr.id:=by
 rw [List.map_map]
 exact List.map_congr_left fun p _=>hG p
theorem norm_tick (h0:checkN N=0) (f:Fl) (id h:Int):NormF N (tickF N f id h):=by
 unfold tickF
 split
 ·show ((copF N f).peers.map fun p=>if p.id=id then tickP N (peerN (copF N f).peers) p h.toNat else p).map Pr.id=_
  rw [ids_map (fun p=>by split<;>rfl)]
  exact norm_cop h0 f
 ·exact norm_cop h0 f
theorem norm_del (h0:checkN N=0) (f:Fl) (k:Int):NormF N (delF N f k):=by
 unfold delF
 split
 ·split
  ·exact norm_cop h0 f
  ·split
   ·show ((copF N f).peers.map (tellP N ‹_›)).map Pr.id=_
    rw [ids_map (tell_id _)]
    exact norm_cop h0 f
   ·exact norm_cop h0 f
 ·exact norm_cop h0 f
end
end Go.Proofs.YthdkeibapcaclaaGreatDoor
