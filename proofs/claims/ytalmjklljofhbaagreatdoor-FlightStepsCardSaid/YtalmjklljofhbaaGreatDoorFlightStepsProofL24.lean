/- Texts for FlightStepsProof. -/
import Derived.Shelf.Spec.SlicesInsertGrow
import Derived.Test.YtalmjklljofhbaaGreatDoorFlightStepsProofL6
import Derived.Test.YtalmjklljofhbaaGreatDoorFlightStepsProofL20
import Derived.Test.YtalmjklljofhbaaGreatDoorFlightStepsProofL23
set_option linter.unusedSimpArgs false
set_option linter.unusedVariables false

namespace Go.Proofs.YtalmjklljofhbaaGreatDoor
open Go.RowKit
theorem cont4 (y:Nr) (id:Int):(nums4 y).contains id=(y.1==id||y.2.1==id||y.2.2.1==id||y.2.2.2==id):=by
 unfold nums4
 rw [Bool.eq_iff_iff]
 simp only [List.contains_iff_mem,List.mem_cons,List.not_mem_nil,or_false,Bool.or_eq_true,beq_iff_eq]
 omega
set_option maxHeartbeats 1000000 in
theorem names1_p (gx:Nat) (id:Int) (y:Nr) (w:World) (hx:Blk w gx [.int .i64 id] 3) :
  Calls Tryz.prog 166 #[.agg #[.int .i64 y.1,.int .i64 y.2.1,.int .i64 y.2.2.1,.int .i64 y.2.2.2],.pointer (some ⟨gx,0,none⟩)] w fun e w'=>e=.returned (.bool ((nums4 y).contains id))∧Ex w w':=by
 have hg:=hx.lt
 have EX:=Ex.refl w
 have CN:=lH (cont4 y id)
 have B2:=Blk.new w [.int .i64 y.1,.int .i64 y.2.1,.int .i64 y.2.2.1,.int .i64 y.2.2.2] 69
 have kk:=Ex.new w (.cells #[.int .i64 y.1,.int .i64 y.2.1,.int .i64 y.2.2.1,.int .i64 y.2.2.2] 69)
 obtain ⟨w1,hw1⟩:∃ w1,w1=w.alloc (.cells #[.int .i64 y.1,.int .i64 y.2.1,.int .i64 y.2.2.1,.int .i64 y.2.2.2] 69):=⟨_,rfl⟩
 obtain ⟨g2,hg2⟩:∃ g2,g2=w.heap.size:=⟨_,rfl⟩
 replace B2:Blk w1 g2 [.int .i64 y.1,.int .i64 y.2.1,.int .i64 y.2.2.1,.int .i64 y.2.2.2] 69:=by rw [hw1,hg2];exact B2
 rw [← hw1] at kk
 have Hw1:=lH hw1
 have Hg2:=lH hg2
 replace hx:=hx.nx kk
 replace EX:=EX.nx kk
 clear kk hw1 hg2
 go_enter Tryz.func166,Tryz.ntmps166
 go_upto_region 1 with fail
 rw [← Hg2.out,← Hw1.out]
 clear Hg2 Hw1
 have q0:=hx.cell 0 _ rfl
 have p0:=B2.cell 0 _ rfl
 have p1:=B2.cell 1 _ rfl
 have p2:=B2.cell 2 _ rfl
 have p3:=B2.cell 3 _ rfl
 clear hx B2
 generalize hc1:(y.1==id)=c1 at CN
 generalize hc2:(y.2.1==id)=c2 at CN
 generalize hc3:(y.2.2.1==id)=c3 at CN
 generalize hc4:(y.2.2.2==id)=c4 at CN
 cases c1 with
 | true =>
  go_wp2_with fail
  go_ret
  exact ⟨by rw [CN.out];rfl,EX⟩
 | false =>
  cases c2 with
  | true =>
   go_wp2_with fail
   go_ret
   exact ⟨by rw [CN.out];rfl,EX⟩
  | false =>
   cases c3 with
   | true =>
    go_wp2_with fail
    go_ret
    exact ⟨by rw [CN.out];rfl,EX⟩
   | false =>
    go_wp2_with fail
    go_ret
    exact ⟨by rw [CN.out];rfl,EX⟩
def NmfRel (id:Int) (l:List Nr) (n:Nat) (w:World) (i:Value) (wr:World):Prop :=
 ∃ k:Nat,k≤n∧i=.int .i64 k∧Ex w wr∧∀ j z,j<k→l[j]?=some z→(nums4 z).contains id=false
set_option maxRecDepth 100000 in
set_option maxHeartbeats 2000000 in
theorem idxf_nr (gx:Nat) (id:Int) (a:Option Addr) (n c:Nat) (l:List Nr) (w:World) (h:Sl 4 encNr w a n l) (hn:n≤4000000000000000000) (hx:Blk w gx [.int .i64 id] 3) :
  Calls Tryz.prog 187 #[.slice a n c,.func (.func 166) #[] #[.pointer (some ⟨gx,0,none⟩)]] w fun e w'=>∃ r:Int,e=.returned (.int .i64 r)∧decide (0≤r)=(l.flatMap nums4).contains id∧Ex w w':=by
 have HL:=lH h.len
 have HX:=lH hx
 have hs:=lH h
 have eg:∀ args w,(callFunc 166 args).run Tryz.prog w=.ok (.enter 166 args) w:=enters_of Tryz.func166 (by kernel_rfl) rfl
 clear h hx
 go_enter Tryz.func187,Tryz.ntmps187
 go_wp2
 go_loopw [8] (fun i wr=>NmfRel id l n w i wr) (fun i _=>n-(intOf i).toNat)
 case atStart=>exact ⟨0,by omega,rfl,Ex.refl _,by intro j z h;omega⟩
 case round =>
  obtain ⟨k,hk,rfl,kw,hno⟩:=hrel
  have HNO:=lH hno
  clear hno
  obtain ⟨wo,rfl⟩:∃ wo:World,wo=wr:=⟨_,rfl⟩
  by_cases hlt:k<n
  ·obtain ⟨x1,o1,y,rfl,hx1,hy,hc1⟩:=(hs.out.nx kw).at hlt
   have e0:wo.cell? ⟨x1,o1+k*4,none⟩=some (.int .i64 y.1):=hc1 0 _ rfl
   have e1:wo.cell? ⟨x1,o1+k*4+1,none⟩=some (.int .i64 y.2.1):=hc1 1 _ rfl
   have e2:wo.cell? ⟨x1,o1+k*4+1+1,none⟩=some (.int .i64 y.2.2.1):=by simpa [Nat.add_assoc] using hc1 2 _ rfl
   have e3:wo.cell? ⟨x1,o1+k*4+1+1+1,none⟩=some (.int .i64 y.2.2.2):=by simpa [Nat.add_assoc] using hc1 3 _ rfl
   have HY:=lH hy
   have HB:=lH (HX.out.nx kw)
   have KW:=lH kw
   clear hc1 hy kw
   go_wp2_with fail
   (with_reducible refine (names1_p gx id y _ HB.out).mono ?_)
   rintro e w2 ⟨rfl,k2⟩
   have K2:=lH (KW.out.nx k2)
   clear k2 e0 e1 e2 e3
   cases hb:(nums4 y).contains id with
   | true =>
    have HI:Hid ((l.flatMap nums4).contains id=true):=lH (by
     rw [List.contains_iff_mem,List.mem_flatMap]
     exact ⟨y,List.mem_of_getElem? HY.out,List.contains_iff_mem.1 hb⟩)
    clear hb
    go_wp2_with fail
    go_ret
    exact ⟨_,rfl,by rw [HI.out];simp,K2.out⟩
   | false =>
    have HB:=lH hb
    clear hb
    go_wp2_with fail
    refine ⟨⟨k+1,by omega,by go_num,K2.out,fun j z hj hz=>?_⟩,by simp [intOf];omega⟩
    rcases Nat.lt_or_ge j k with h | h
    ·exact HNO.out j z h hz
    ·obtain rfl:j=k:=by omega
     rw [Option.some.inj (hz.symm.trans HY.out)]
     exact HB.out
  ·obtain rfl:k=n:=by omega
   have HI:Hid ((l.flatMap nums4).contains id=false):=lH (by
    rw [Bool.eq_false_iff]
    intro hc
    rw [List.contains_iff_mem,List.mem_flatMap] at hc
    obtain ⟨y,hy,hm⟩:=hc
    obtain ⟨j,hj⟩:=List.mem_iff_getElem?.1 hy
    have:=HNO.out j y (by rw [← HL.out];exact (List.getElem?_eq_some_iff.1 hj).1) hj
    rw [List.contains_iff_mem.2 hm] at this
    cases this)
   have KW:=lH kw
   clear kw hk hlt
   go_wp2_with fail
   go_ret
   exact ⟨-1,rfl,by rw [HI.out];rfl,KW.out⟩
theorem contf_nr (gx:Nat) (id:Int) (a:Option Addr) (n c:Nat) (l:List Nr) (w:World) (h:Sl 4 encNr w a n l) (hn:n≤4000000000000000000) (hx:Blk w gx [.int .i64 id] 3) :
  Calls Tryz.prog 168 #[.slice a n c,.func (.func 166) #[] #[.pointer (some ⟨gx,0,none⟩)]] w fun e w'=>e=.returned (.bool ((l.flatMap nums4).contains id))∧Ex w w':=by
 go_enter Tryz.func168,Tryz.ntmps168
 go_wp2_with fail
 (with_reducible refine (idxf_nr gx id _ _ _ _ _ h hn hx).mono ?_)
 rintro e w1 ⟨r,rfl,hr,kk⟩
 have HR:=lH hr
 clear h hx hr
 go_wp2_with fail
 go_ret
 exact ⟨by rw [← HR.out];rfl,kk⟩
theorem cont_nums (p:Pr) (id:Int):(numsP p).contains id=(p.left==id||p.right==id||p.known.contains id||(p.near.flatMap nums4).contains id):=by
 unfold numsP
 rw [Bool.eq_iff_iff]
 simp only [List.contains_iff_mem,List.mem_append,List.mem_cons,List.not_mem_nil,or_false,Bool.or_eq_true,beq_iff_eq]
 constructor
 ·rintro ((h | h | h) | h)
  ·exact .inl (.inr h)
  ·exact .inl (.inl (.inl h.symm))
  ·exact .inl (.inl (.inr h.symm))
  ·exact .inr h
 ·rintro (((h | h) | h) | h)
  ·exact .inl (.inr (.inl h.symm))
  ·exact .inl (.inr (.inr h.symm))
  ·exact .inl (.inl h)
  ·exact .inr h
set_option maxHeartbeats 2000000 in
theorem names_p (p:Pr) (a1:Option Addr) (n1 c1:Nat) (a2:Option Addr) (n2 c2:Nat) (id:Int) (w:World) (h1:Sl 1 encI w a1 n1 p.known) (h2:Sl 4 encNr w a2 n2 p.near) (hn1:n1≤4000000000000000000) (hn2:n2≤4000000000000000000) :
  Calls Tryz.prog 138 #[.agg #[.int .i64 p.id,.slice a1 n1 c1,.int .i64 p.left,.int .i64 p.right,.slice a2 n2 c2],.int .i64 id] w fun e w'=>e=.returned (.bool ((numsP p).contains id))∧Ex w w':=by
 have EX:=Ex.refl w
 have CN:=lH (cont_nums p id)
 obtain ⟨g2,hg2⟩:∃ g2,g2=w.heap.size:=⟨_,rfl⟩
 obtain ⟨g3,hg3⟩:∃ g3,g3=(w.heap.size+1):=⟨_,rfl⟩
 obtain ⟨w1,hw1⟩:∃ w1,w1=((w.alloc (.cells #[.int .i64 p.id,.slice a1 n1 c1,.int .i64 p.left,.int .i64 p.right,.slice a2 n2 c2] 36)).alloc (.cells #[.int .i64 id] 3)):=⟨_,rfl⟩
 have kk:Ex w w1:=by rw [hw1];exact (((Ex.refl w).alloc (.cells #[.int .i64 p.id,.slice a1 n1 c1,.int .i64 p.left,.int .i64 p.right,.slice a2 n2 c2] 36)).alloc (.cells #[.int .i64 id] 3))
 have B2:Blk w1 g2 [.int .i64 p.id,.slice a1 n1 c1,.int .i64 p.left,.int .i64 p.right,.slice a2 n2 c2] 36:=by rw [hw1];simp only [hg2,hg3];have hbk:=((Blk.new w [.int .i64 p.id,.slice a1 n1 c1,.int .i64 p.left,.int .i64 p.right,.slice a2 n2 c2] 36).nx (Ex.new _ (.cells #[.int .i64 id] 3)));simpa using hbk
 have B3:Blk w1 g3 [.int .i64 id] 3:=by rw [hw1];simp only [hg2,hg3];have hbk:=(Blk.new (w.alloc (.cells #[.int .i64 p.id,.slice a1 n1 c1,.int .i64 p.left,.int .i64 p.right,.slice a2 n2 c2] 36)) [.int .i64 id] 3);simpa using hbk
 have Hw1:=lH hw1
 have Hg2:=lH hg2
 have Hg3:=lH hg3
 replace h1:=h1.nx kk
 replace h2:=h2.nx kk
 replace EX:=EX.nx kk
 clear kk hw1 hg2 hg3
 go_enter Tryz.func138,Tryz.ntmps138
 go_upto_region 2 with fail
 rw [← Hw1.out,← Hg3.out,← Hg2.out]
 clear Hw1 Hg3 Hg2
 have p1:=B2.cell 1 _ rfl
 have p2:=B2.cell 2 _ rfl
 have p3:=B2.cell 3 _ rfl
 have p4:=B2.cell 4 _ rfl
 have q0:=B3.cell 0 _ rfl
 have S1:=lH h1
 have S2:=lH h2
 replace B2:=lH B2
 replace B3:=lH B3
 clear h1 h2
 generalize hc1:(p.left==id)=b1 at CN
 generalize hc2:(p.right==id)=b2 at CN
 cases b1 with
 | true =>
  go_wp2_with fail
  go_ret
  exact ⟨by rw [CN.out];rfl,EX⟩
 | false =>
  cases b2 with
  | true =>
   go_wp2_with fail
   go_ret
   exact ⟨by rw [CN.out];rfl,EX⟩
  | false =>
   go_wp2_with fail
   (with_reducible refine (contains_i _ _ _ _ id _ S1.out hn1).mono ?_)
   rintro e w2 ⟨rfl,kk⟩
   replace EX:=EX.nx kk
   generalize hc3:p.known.contains id=b3 at CN
   have p4:=(B2.out.nx kk).cell 4 _ rfl
   have S2:=lH (S2.out.nx kk)
   have B3:=lH (B3.out.nx kk)
   clear kk p1 p2 p3 q0
   cases b3 with
   | true =>
    go_wp2_with fail
    go_ret
    exact ⟨by rw [CN.out];rfl,EX⟩
   | false =>
    go_wp2_with fail
    (with_reducible refine (contf_nr g3 id _ _ _ _ _ S2.out hn2 B3.out).mono ?_)
    rintro e w3 ⟨rfl,kk⟩
    replace EX:=EX.nx kk
    clear kk
    generalize hc4:(p.near.flatMap nums4).contains id=b4 at CN
    have CN:Hid ((numsP p).contains id=b4):=lH (by rw [CN.out];rfl)
    clear p4
    go_wp2_with fail
    go_ret
    exact ⟨by rw [CN.out];rfl,EX⟩
set_option maxRecDepth 100000 in
set_option maxHeartbeats 4000000 in
theorem refs_p (a:Option Addr) (n c:Nat) (N:List Nd) (p:Pr) (a1:Option Addr) (n1 c1:Nat) (a2:Option Addr) (n2 c2:Nat) (w:World) (h:Sl 3 encN w a n N) (hn:n≤1000) (hc:n≤c) (hm:c≤maxLen) (h1:Sl 1 encI w a1 n1 p.known) (h2:Sl 4 encNr w a2 n2 p.near) (hn1:n1≤4000000000000000000) (hn2:n2≤4000000000000000000) :
  Calls Tryz.prog 82 #[.slice a n c,.agg #[.int .i64 p.id,.slice a1 n1 c1,.int .i64 p.left,.int .i64 p.right,.slice a2 n2 c2]] w (OiPost (refsN N p) w):=by
 have HL:=lH h.len
 have EX:=Ex.refl w
 have B3:=Blk.new w [.int .i64 p.id,.slice a1 n1 c1,.int .i64 p.left,.int .i64 p.right,.slice a2 n2 c2] 36
 have kk:=Ex.new w (.cells #[.int .i64 p.id,.slice a1 n1 c1,.int .i64 p.left,.int .i64 p.right,.slice a2 n2 c2] 36)
 obtain ⟨w1,hw1⟩:∃ w1,w1=w.alloc (.cells #[.int .i64 p.id,.slice a1 n1 c1,.int .i64 p.left,.int .i64 p.right,.slice a2 n2 c2] 36):=⟨_,rfl⟩
 obtain ⟨g3,hg3⟩:∃ g3,g3=w.heap.size:=⟨_,rfl⟩
 replace B3:Blk w1 g3 [.int .i64 p.id,.slice a1 n1 c1,.int .i64 p.left,.int .i64 p.right,.slice a2 n2 c2] 36:=by rw [hw1,hg3];exact B3
 rw [← hw1] at kk
 have Hw1:=lH hw1
 have Hg3:=lH hg3
 replace h:=h.nx kk
 replace h1:=h1.nx kk
 replace h2:=h2.nx kk
 replace EX:=EX.nx kk
 clear kk hw1 hg3
 go_enter Tryz.func82,Tryz.ntmps82
 go_upto_region 1 with fail
 rw [← Hg3.out,← Hw1.out]
 clear Hg3 Hw1
 go_wp2_with fail
 (with_reducible refine (check_p _ _ _ _ _ h (by omega) hc hm).mono ?_)
 rintro e w2 ⟨rfl,kk⟩
 replace h:=h.nx kk
 replace h1:=h1.nx kk
 replace h2:=h2.nx kk
 replace EX:=EX.nx kk
 replace B3:=B3.nx kk
 clear kk
 by_cases hck:checkN N=0
 case neg =>
  have d1:(checkN N != 0)=true:=by simpa using hck
  have E0:Hid (refsN N p=[]):=lH (by unfold refsN;rw [if_neg hck])
  clear h h1 h2 hck B3
  go_wp2_with fail
  go_ret
  exact ⟨_,rfl,by rw [E0.out];exact OwnL.nil _ _ _ _ _,EX⟩
 have d1:(checkN N != 0)=false:=by simpa using hck
 have HC:=lH hck
 clear hck
 go_wp2_with fail
 (with_reducible refine (sort_p _ _ _ _ _ h hn).mono ?_)
 rintro e w3 ⟨v,S,rfl,OS,⟨hp,hsrt⟩,kk⟩
 replace h1:=h1.nx kk
 replace h2:=h2.nx kk
 replace EX:=EX.nx kk
 replace B3:=B3.nx kk
 clear kk
 have hSe:S=sortN N:=sortN_unique (check_keys HC.out) hp hsrt
 subst hSe
 obtain ⟨a3,c3,rfl,S3,_,_⟩:=sorted_own HC.out OS
 rw [HL.out] at S3 ⊢
 have ES:Hid (refsN N p=((sortN N).filter (ordP (numsP p) p.id)).map Nd.id):=lH (by unfold refsN;rw [if_pos HC.out];rfl)
 generalize sortN N=S at S3 ES
 have HSL:=lH S3.len
 replace S3:=lH S3
 have S1:=lH h1
 have S2:=lH h2
 have K1:=lH EX
 have hz1:=EX.size
 replace B3:=lH B3
 clear h h1 h2 OS EX hp hsrt
 go_wp2_with fail
 go_loopw [5,14] (fun o i wr=>OrdRel S (numsP p) p.id w3 o i wr) (fun _ i _=>n-(intOf i).toNat)
 case atStart=>exact ⟨0,by omega,rfl,OwnL.nil _ _ _ _ _,Ex.refl _⟩
 case round =>
  obtain ⟨j,hj,rfl,own,ki⟩:=hrel
  obtain ⟨wi,rfl⟩:∃ wi:World,wi=wr:=⟨_,rfl⟩
  by_cases hjm:j<n
  ·obtain ⟨x3,o3,y,rfl,hx3,hy,hc3⟩:=(S3.out.nx ki).at hjm
   have e0:wi.cell? ⟨x3,o3+j*3,none⟩=some (.int .i64 y.id):=hc3 0 _ rfl
   have e1:wi.cell? ⟨x3,o3+j*3+1,none⟩=some (.string y.key):=hc3 1 _ rfl
   have e2:wi.cell? ⟨x3,o3+j*3+1+1,none⟩=some (.int .u32 y.word):=by simpa [Nat.add_assoc] using hc3 2 _ rfl
   have SN:=lH (ord_snoc (l:=numsP p) (but:=p.id) hy)
   have hrl:(((S.take j).filter (ordP (numsP p) p.id)).map Nd.id).length≤1000:=by
    rw [List.length_map]
    have:=List.length_filter_le (ordP (numsP p) p.id) (S.take j)
    rw [List.length_take] at this
    omega
   generalize ((S.take j).filter (ordP (numsP p) p.id)).map Nd.id=row at own SN hrl
   have KI:=lH ki
   clear hy hc3 ki
   have B7:=Blk.new wi [.int .i64 y.id,.string y.key,.int .u32 y.word] 49
   have kk:=Ex.new wi (.cells #[.int .i64 y.id,.string y.key,.int .u32 y.word] 49)
   obtain ⟨w7,hw7⟩:∃ w7,w7=wi.alloc (.cells #[.int .i64 y.id,.string y.key,.int .u32 y.word] 49):=⟨_,rfl⟩
   obtain ⟨g7,hg7⟩:∃ g7,g7=wi.heap.size:=⟨_,rfl⟩
   replace B7:Blk w7 g7 [.int .i64 y.id,.string y.key,.int .u32 y.word] 49:=by rw [hw7,hg7];exact B7
   rw [← hw7] at kk
   have Hw7:=lH hw7
   have Hg7:=lH hg7
   replace own:=own.nx kk
   have K7:=lH (KI.out.nx kk)
   clear kk hw7 hg7
   have Q3:=B3.out.nx K7.out
   go_upto_region 7 with fail
   rw [← Hg7.out,← Hw7.out]
   clear Hg7 Hw7
   have q0:=B7.cell 0 _ rfl
   have p0:=Q3.cell 0 _ rfl
   clear e0 e1 e2
   by_cases hb:y.id=p.id
   ·have hq:(y.id != p.id)=false:=by simp [hb]
    have hq2:(y.id==p.id)=true:=by simp [hb]
    have PF:Hid (ordP (numsP p) p.id y=false):=lH (by unfold ordP;rw [hq2];rfl)
    have OWN:=lH own
    clear hb own hq2 B7 Q3
    go_wp2_with fail
    exact ⟨⟨j+1,by rw [HSL.out];omega,by go_num,by rw [SN.out,PF.out];simpa using OWN.out,K7.out⟩,by simp [intOf];omega⟩
   ·have hq:(y.id != p.id)=true:=by simpa using hb
    have hq2:(y.id==p.id)=false:=by simpa using hb
    have PB:Hid (ordP (numsP p) p.id y=(numsP p).contains y.id):=lH (by unfold ordP;rw [hq2];rfl)
    have p1:=Q3.cell 1 _ rfl
    have p2:=Q3.cell 2 _ rfl
    have p3:=Q3.cell 3 _ rfl
    have p4:=Q3.cell 4 _ rfl
    clear hb hq2 Q3
    go_wp2_with fail
    (with_reducible refine (names_p p _ _ _ _ _ _ y.id _ (S1.out.nx K7.out) (S2.out.nx K7.out) hn1 hn2).mono ?_)
    rintro e w5 ⟨rfl,kk⟩
    replace own:=own.nx kk
    replace B7:=B7.nx kk
    have K5:=lH (K7.out.nx kk)
    have zb5:=K5.out.size
    have q0:=B7.cell 0 _ rfl
    have OWN:=lH own
    clear kk p0 p1 p2 p3 p4 own B7
    generalize (numsP p).contains y.id=inl at PB ⊢
    generalize y.id=yi at SN q0 hq
    cases inl with
    | false =>
     clear q0 hq
     go_wp2_with fail
     exact ⟨⟨j+1,by rw [HSL.out];omega,by go_num,by rw [SN.out,PB.out];simpa using OWN.out,K5.out⟩,by simp [intOf];omega⟩
    | true =>
     have own5:=OWN.out
     have hl7:row.length≤1000000:=by omega
     clear hq
     go_wp2_with (at_builtin;(refine wpList_append_lit (enc:=encI) w5 rfl _ _ 22 rfl w3.heap.size 3 (.int .i64 0) 1 8 Tryz.underlying22 Tryz.infoI6 rfl (by omega) (by omega) _ _ own5 rfl (yi:Int) _ rfl rfl (by simp [encI,Value.oneCell']) _ (by simp) rfl hl7 zb5 _ ?_);intro v6 w6 own6 _ ch1 _)
     refine ⟨⟨j+1,by rw [HSL.out];omega,by go_num,by rw [SN.out,PB.out];exact own6,Chg.trans K5.out ch1⟩,by simp [intOf];omega⟩
  ·obtain rfl:j=n:=by have:=HSL.out;omega
   rw [List.take_of_length_le (by rw [HSL.out];exact Nat.le_refl _)] at own
   have own:=lH (own.base hz1)
   have KE:=lH (K1.out.nx ki)
   clear hj hjm ki
   go_wp2_with fail
   go_ret
   exact ⟨_,rfl,by rw [ES.out];exact own.out,KE.out⟩
end Go.Proofs.YtalmjklljofhbaaGreatDoor
namespace Go.Proofs.YtalmjklljofhbaaGreatDoor
open Go.RowKit Go.Maps
open Go.ChangeMaps Go.MapKept
open Go.WideElems (Fit findIdx_born findIdx_arr modify_last set_self)
def rawR (v:Value):Option (DataW Value×List MemPlace):=some (.held v,[])
abbrev nilS:Value:=.slice none 0 0
def RawM (P:Program) (k:TypeId) (w:World) (b n:Nat) (f:Int→Value):Prop :=
 ∃ D,w.ownsMap P k rawR b n D∧∀ v,D.atKey (keyI v) (.held nilS)=.held (f v)
def upd (f:Int→Value) (v:Int) (u:Value):Int→Value:=fun x=>if x=v then u else f x
section
variable {P:Program} {k e t:TypeId} {w w':World} {b n:Nat} {f:Int→Value}
theorem RawM.made (w:World) (P:Program) (k:TypeId):RawM P k (w.alloc (.map #[] 0)) w.heap.size 0 (fun _=>nilS):=⟨_,World.ownsMap_made _ _ _ _,fun _=>rfl⟩
theorem RawM.lt (h:RawM P k w b n f):b<w.heap.size:=by obtain ⟨D,h,_⟩:=h;exact World.ownsMap.lt h
theorem RawM.same (h:RawM P k w b n f) (hh:w'.heap[b]?=w.heap[b]?):RawM P k w' b n f:=by
 obtain ⟨D,⟨es,clock,hb,r⟩,hf⟩:=h
 exact ⟨D,⟨es,clock,hh.trans hb,r⟩,hf⟩
theorem RawM.nx (h:RawM P k w b n f) (kk:Ex w w'):RawM P k w' b n f:=h.same (kk.block b h.lt)
theorem RawM.nxb {c:Nat} (h:RawM P k w b n f) (hc:b≠c) (kk:Exb c w w'):RawM P k w' b n f:=h.same (kk.block b ⟨h.lt,hc⟩)
theorem RawM.get (h:RawM P k w b n f) (hk:P.underlying k=some (.int .i64)) (ht:P.underlying t=some (.map k e)) (hz:(zeroValue e).run P w=.ok nilS w) {v:Int} (hv:(Lit.int .i64 v).wf=true) :
  (Instr.lookup t (.map (some b)) (.int .i64 v) false).run P w=.ok (f v) w:=by
 obtain ⟨D,h,hf⟩:=h
 obtain ⟨u,ps,hrun,hR⟩:=World.ownsMap.lookup (t:=t) (e:=e) h (int_keyed hk) ht hz (zd:=.held nilS) (zp:=[]) rfl (keyOf_int_mk hk hv)
 rw [hf] at hR
 unfold rawR at hR
 simp only [Option.some.injEq,Prod.mk.injEq,DataW.held.injEq] at hR
 rw [hrun,hR.1]
theorem raw_put {D:DataW Value} (hD:IsMap D) (hf:∀ v,D.atKey (keyI v) (.held nilS)=.held (f v)) (v:Int) (u:Value):∀ x,(D.put (keyI v) (.held u)).atKey (keyI x) (.held nilS)=.held (upd f v u x):=by
 intro x
 unfold upd
 by_cases hx:x=v
 ·subst hx
  rw [atKey_put_same hD (key_lit x),if_pos rfl]
 ·rw [atKey_put_other (by simpa [keyI] using hx),hf,if_neg hx]
theorem RawM.put (h:RawM P k w b n f) (hk:P.underlying k=some (.int .i64)) (ht:P.underlying t=some (.map k e)) (hn:n<100000000) {v:Int} (hv:(Lit.int .i64 v).wf=true) (u:Value) :
  ∃ w',(Instr.mapUpdate t (.map (some b)) (.int .i64 v) u).run P w=.ok () w'∧RawM P k w' b (n+1) (upd f v u)∧Exb b w w'∧w'.heap.size=w.heap.size:=by
 obtain ⟨D,h,hf⟩:=h
 obtain ⟨w',hrun,ho,ht'⟩:=World.ownsMap.store (t:=t) (e:=e) (val:=u) (d:=.held u) (ps:=[]) h (int_keyed hk) ht (by unfold maxLen;omega) (keyOf_int_mk hk hv) rfl
 refine ⟨w',hrun,⟨_,ho,raw_put h.isMap hf v u⟩,turned_exb ht',?_⟩
 obtain ⟨es,clock,es',clock',hb,rfl⟩:=ht'
 simp [Go.ChangeMaps.setBlock]
theorem RawM.entry (h:RawM P k w b n f) (hk:P.underlying k=some (.int .i64)) (ht:P.underlying t=some (.map k e)) (hz:∀ u:World,(zeroValue e).run P u=.ok nilS u) (hn:n<100000000) {v:Int} (hv:(Lit.int .i64 v).wf=true) :
  ∃ (v0:Value) (st:Nat) (w1:World),(Instr.mapEntry t (.map (some b)) (.int .i64 v)).run P w=.ok (.tuple #[v0,goInt st]) w1∧Exb b w w1∧w1.heap.size=w.heap.size ∧
   ∀ (w2:World) (u:Value),w2.heap[b]?=w1.heap[b]?→∃ w3,(Instr.entryStore t (.map (some b)) (goInt st) u).run P w2=.ok () w3∧RawM P k w3 b (n+1) (upd f v u)∧Exb b w2 w3∧w3.heap.size=w2.heap.size:=by
 have K:=int_keyed (P:=P) hk
 have hkey:=keyOf_int_mk (P:=P) hk hv
 obtain ⟨D,⟨es,clock,hb,F,hs,hD⟩,hf⟩:=h
 have hM:RawM P k w b n f:=⟨D,⟨es,clock,hb,F,hs,hD⟩,hf⟩
 obtain ⟨s1,s2,_⟩:=F.stamped
 have fin:∀ (es1:Array MapEntry) (c1:Nat) (w2:World) (u:Value) (es':Array MapEntry) (c':Nat),(setBlock w b (.map es1 c1)).heap[b]?=w2.heap[b]? →
   (Instr.mapUpdate t (.map (some b)) (.int .i64 v) u).run P w=.ok () (setBlock w b (.map es' c'))→RawM P k (setBlock w2 b (.map es' c')) b (n+1) (upd f v u)∧Exb b w2 (setBlock w2 b (.map es' c'))∧(setBlock w2 b (.map es' c')).heap.size=w2.heap.size:=by
  intro es1 c1 w2 u es' c' hw2 hrun
  obtain ⟨w',hrun',hM',_,_⟩:=hM.put hk ht hn hv u
  rw [hrun] at hrun'
  cases hrun'
  have h2:w2.heap[b]?=some (.map es1 c1):=hw2.symm.trans (heap_setBlock_same hb _)
  refine ⟨hM'.same ((heap_setBlock_same h2 _).trans (heap_setBlock_same hb _).symm),turned_exb ⟨es1,c1,es',c',h2,rfl⟩,by simp [setBlock]⟩
 rcases K.find w hkey es.toList F.keys with ⟨h1,h2⟩ | ⟨j,e0,h1,h2,h3⟩
 ·refine ⟨nilS,clock,setBlock w b (.map (es.push ⟨.int .i64 v,nilS,clock⟩) (clock+1)),?_,turned_exb ⟨es,clock,_,_,hb,rfl⟩,by simp [setBlock],fun w2 u hw2=>⟨setBlock w2 b (.map (es.push ⟨.int .i64 v,u,clock⟩) (clock+1)),?_,fin _ _ w2 u _ _ hw2.symm ?_⟩⟩
  ·simp [Instr.mapEntry,run_underlying ht,MapKept.run_getObj_map hb,K.check w false hkey,h1,hz,MapKept.run_setObj_map _ hb,Result.andThen,setBlock]
  ·have hw2:w2.heap[b]?=some (.map (es.push ⟨.int .i64 v,nilS,clock⟩) (clock+1)):=hw2.trans (heap_setBlock_same hb _)
   have hidx:(es.push ⟨.int .i64 v,nilS,clock⟩).findIdx? (fun e=>((e.born:Nat):Int)==((clock:Nat):Int))=some es.size:=by
    rw [findIdx_arr]
    refine findIdx_born (l:=(es.push ⟨.int .i64 v,nilS,clock⟩).toList) (j:=es.size) (e0:=⟨.int .i64 v,nilS,clock⟩) ?_ (by simp)
    simp only [Array.toList_push,List.map_append,List.map_cons,List.map_nil]
    refine List.nodup_append.2 ⟨s2,by simp,fun a ha c hc e1=>?_⟩
    simp only [List.mem_singleton] at hc
    obtain ⟨x,hx,rfl⟩:=List.mem_map.1 ha
    have:=s1 x hx
    omega
   have hmod:(es.push ⟨.int .i64 v,nilS,clock⟩).modify es.size (fun e=>{ e with val:=u })=es.push ⟨.int .i64 v,u,clock⟩:=by
    apply Array.ext'
    rw [Array.toList_modify,Array.toList_push,Array.toList_push,← Array.length_toList,modify_last]
   simp [Instr.entryStore,MapKept.run_getObj_map hw2,asInt,asIntOf,goInt,hidx,hmod,MapKept.run_setObj_map _ hw2,Result.andThen,setBlock]
  ·simp [Instr.mapUpdate,run_underlying ht,MapKept.run_getObj_map hb,K.check w false hkey,h1,MapKept.run_setObj_map _ hb,Result.andThen,setBlock]
 ·have hj:es[j]?=some e0:=by simpa using h2
  have hsame:es.modify j (fun e=>{ e with key:=.int .i64 v })=es:=by
   apply Array.ext'
   rw [Array.toList_modify,modify_eq_set _ _ _ _ h2]
   have:({ e0 with key:=.int .i64 v }:MapEntry)=e0:=by rw [← h3]
   rw [this]
   exact set_self _ _ _ h2
  refine ⟨e0.val,e0.born,setBlock w b (.map es clock),?_,turned_exb ⟨es,clock,_,_,hb,rfl⟩,by simp [setBlock],fun w2 u hw2=>⟨setBlock w2 b (.map (es.modify j (fun e'=>{ e' with key:=.int .i64 v,val:=u })) clock),?_,fin _ _ w2 u _ _ hw2.symm ?_⟩⟩
  ·simp [Instr.mapEntry,run_underlying ht,MapKept.run_getObj_map hb,K.check w false hkey,h1,hj,h3,K.stays w hkey,hsame,MapKept.run_setObj_map _ hb,Result.andThen,setBlock]
  ·have hw2:w2.heap[b]?=some (.map es clock):=hw2.trans (heap_setBlock_same hb _)
   have hidx:es.findIdx? (fun e=>((e.born:Nat):Int)==((e0.born:Nat):Int))=some j:=by
    rw [findIdx_arr]
    exact findIdx_born s2 h2
   have hmod:es.modify j (fun e=>{ e with val:=u })=es.modify j (fun e'=>{ e' with key:=.int .i64 v,val:=u }):=by
    apply Array.ext'
    rw [Array.toList_modify,Array.toList_modify,modify_eq_set _ _ _ _ h2,modify_eq_set _ _ _ _ h2,← h3]
   simp [Instr.entryStore,MapKept.run_getObj_map hw2,asInt,asIntOf,goInt,hidx,hmod,MapKept.run_setObj_map _ hw2,Result.andThen,setBlock]
  ·simp [Instr.mapUpdate,run_underlying ht,MapKept.run_getObj_map hb,K.check w false hkey,h1,hj,h3,K.stays w hkey,MapKept.run_setObj_map _ hb,Result.andThen,setBlock]
end
def GrpM (P:Program) (k e:TypeId) (base:Nat) (w:World) (b n:Nat) (f:Int→Value) (J:Int→List Int):Prop :=
 RawM P k w b n f∧b<base∧base≤w.heap.size∧(∀ v,OwnL 1 encI e base w (f v) (J v))∧∀ v v' g,v≠v'→(f v).ownBlock=some g→¬ (f v').ownBlock=some g
section
variable {P:Program} {k e:TypeId} {base:Nat} {w w':World} {b n:Nat} {f:Int→Value} {J:Int→List Int}
theorem GrpM.made (w:World) (P:Program) (k e:TypeId):GrpM P k e (w.heap.size+1) (w.alloc (.map #[] 0)) w.heap.size 0 (fun _=>nilS) (fun _=>[]) :=
 ⟨RawM.made w P k,by omega,by simp,fun _=>OwnL.nil _ _ _ _ _,fun _ _ _ _ h=>by cases h⟩
theorem GrpM.nx (h:GrpM P k e base w b n f J) (kk:Ex w w'):GrpM P k e base w' b n f J :=
 ⟨h.1.nx kk,h.2.1,Nat.le_trans h.2.2.1 kk.size,fun v=>(h.2.2.2.1 v).nx kk,h.2.2.2.2⟩
theorem GrpM.nxb {c:Nat} (h:GrpM P k e base w b n f J) (hc:c<base) (hb:b≠c) (kk:Exb c w w'):GrpM P k e base w' b n f J :=
 ⟨h.1.nxb hb kk,h.2.1,Nat.le_trans h.2.2.1 kk.size,fun v=>(h.2.2.2.1 v).nxb hc kk,h.2.2.2.2⟩
theorem GrpM.row (h:GrpM P k e base w b n f J) (v:Int):OwnL 1 encI e base w (f v) (J v):=h.2.2.2.1 v
def grp2 (J:Int→List Int) (x y:Int):Int→List Int:=fun v=>if v=y then J y++[x] else if v=x then J x++[y] else J v
theorem GrpM.two (h:GrpM P k e base w b n f J) {x y:Int} (hxy:x≠y) {w1 w2 w3:World} {a' c':Value} {n':Nat}
  (A:OwnL 1 encI e base w1 a' (J x++[y])) (k1:Chg (fun k=>k<w.heap.size∧¬ (f x).ownBlock=some k) w w1) (la:∀ g,a'.ownBlock=some g→(f x).ownBlock=some g∨w.heap.size≤g)
  (C:OwnL 1 encI e base w2 c' (J y++[x])) (k2:Chg (fun k=>k<w1.heap.size∧¬ (f y).ownBlock=some k) w1 w2) (lc:∀ g,c'.ownBlock=some g→(f y).ownBlock=some g∨w1.heap.size≤g)
  (k3:Exb b w2 w3) (R:RawM P k w3 b n' (upd (upd f x a') y c')):GrpM P k e base w3 b n' (upd (upd f x a') y c') (grp2 J x y):=by
 obtain ⟨h1,hb,hs,hO,hd⟩:=h
 have s1:=k1.size
 have s2:=k2.size
 have s3:=k3.size
 have A2:OwnL 1 encI e base w2 a' (J x++[y]):=A.chg k2 fun g hg hv=>⟨hg,fun hy=>by
  rcases la g hv with h2 | h2
  ·exact hd x y g hxy h2 hy
  ·have:=((hO y).lt g hy).2;omega⟩
 have blk:∀ v g,v≠x→v≠y→(f v).ownBlock=some g→g<w.heap.size:=fun v g _ _ hv=>((hO v).lt g hv).2
 refine ⟨R,hb,by omega,fun v=>?_,fun v v' g hne hv hv'=>?_⟩
 ·unfold upd grp2
  by_cases hvy:v=y
  ·rw [if_pos hvy,if_pos hvy]
   exact C.nxb hb k3
  ·rw [if_neg hvy,if_neg hvy]
   by_cases hvx:v=x
   ·rw [if_pos hvx,if_pos hvx]
    exact A2.nxb hb k3
   ·rw [if_neg hvx,if_neg hvx]
    have O1:OwnL 1 encI e base w1 (f v) (J v):=(hO v).chg k1 fun g hg hv=>⟨hg,hd v x g hvx hv⟩
    have O2:OwnL 1 encI e base w2 (f v) (J v):=O1.chg k2 fun g hg hv=>⟨hg,hd v y g hvy hv⟩
    exact O2.nxb hb k3
 ·unfold upd at hv hv'
  have ca:∀ g,a'.ownBlock=some g→c'.ownBlock=some g→False:=by
   intro g ha hc
   rcases la g ha with h2 | h2
   ·rcases lc g hc with h3 | h3
    ·exact hd x y g hxy h2 h3
    ·have:=((hO x).lt g h2).2;omega
   ·rcases lc g hc with h3 | h3
    ·have:=((hO y).lt g h3).2;omega
    ·have:=(A.lt g ha).2;omega
  have ov:∀ u g,u≠x→u≠y→(f u).ownBlock=some g→¬ a'.ownBlock=some g∧¬ c'.ownBlock=some g:=by
   intro u g hux huy hu
   refine ⟨fun ha=>?_,fun hc=>?_⟩
   ·rcases la g ha with h2 | h2
    ·exact hd u x g hux hu h2
    ·have:=((hO u).lt g hu).2;omega
   ·rcases lc g hc with h2 | h2
    ·exact hd u y g huy hu h2
    ·have:=((hO u).lt g hu).2;omega
  by_cases hvy:v=y
  ·rw [if_pos hvy] at hv
   rw [if_neg (by omega)] at hv'
   by_cases hvx':v'=x
   ·rw [if_pos hvx'] at hv';exact ca g hv' hv
   ·rw [if_neg hvx'] at hv';exact (ov v' g hvx' (by omega) hv').2 hv
  ·rw [if_neg hvy] at hv
   by_cases hvx:v=x
   ·rw [if_pos hvx] at hv
    by_cases hvy':v'=y
    ·rw [if_pos hvy'] at hv';exact ca g hv hv'
    ·rw [if_neg hvy',if_neg (by omega)] at hv';exact (ov v' g (by omega) hvy' hv').1 hv
   ·rw [if_neg hvx] at hv
    by_cases hvy':v'=y
    ·rw [if_pos hvy'] at hv';exact (ov v g hvx hvy hv).2 hv'
    ·rw [if_neg hvy'] at hv'
     by_cases hvx':v'=x
     ·rw [if_pos hvx'] at hv';exact (ov v g hvx hvy hv).1 hv'
     ·rw [if_neg hvx'] at hv';exact hd v v' g hne hv hv'
end
def jOf (E:List (Int×Int)):Int→List Int:=E.foldl (fun J q=>grp2 J q.1 q.2) (fun _=>[])
theorem jOf_snoc (E:List (Int×Int)) (q:Int×Int):jOf (E++[q])=grp2 (jOf E) q.1 q.2:=by unfold jOf;rw [List.foldl_append];rfl
theorem jOf_law:∀ (n:Nat) (E:List (Int×Int)),E.length=n→(∀ q∈E,q.1≠q.2)→∀ u,(jOf E u).length≤E.length∧∀ v,v∈jOf E u↔(u,v)∈E∨(v,u)∈E
 | 0,E,h,_,u=>by
  rw [List.length_eq_zero_iff.1 h]
  simp [jOf]
 | n+1,E,h,hne,u=>by
  rcases List.eq_nil_or_concat E with rfl | ⟨E',q,rfl⟩
  ·cases h
  ·rw [List.concat_eq_append] at h hne ⊢
   obtain ⟨q1,q2⟩:=q
   obtain ⟨h1,h2⟩:=jOf_law n E' (by simpa using h) (fun q hq=>hne q (by simp [hq])) u
   have hq:q1≠q2:=hne (q1,q2) (by simp)
   rw [jOf_snoc]
   unfold grp2
   refine ⟨?_,fun v=>?_⟩
   ·by_cases ha:u=q2
    ·rw [if_pos ha,← ha];simp;omega
    ·rw [if_neg ha]
     by_cases hb:u=q1
     ·rw [if_pos hb,← hb];simp;omega
     ·rw [if_neg hb];simp;omega
   ·by_cases ha:u=q2
    ·rw [if_pos ha,← ha]
     simp only [List.mem_append,List.mem_singleton,h2,Prod.mk.injEq]
     constructor
     ·rintro ((h | h) | h)
      ·exact .inl (.inl h)
      ·exact .inr (.inl h)
      ·exact .inr (.inr ⟨h,trivial⟩)
     ·rintro ((h | h) | (h | h))
      ·exact .inl (.inl h)
      ·exact absurd (h.1.symm.trans ha) hq
      ·exact .inl (.inr h)
      ·exact .inr h.1
    ·rw [if_neg ha]
     by_cases hb:u=q1
     ·rw [if_pos hb,← hb]
      simp only [List.mem_append,List.mem_singleton,h2,Prod.mk.injEq]
      constructor
      ·rintro ((h | h) | h)
       ·exact .inl (.inl h)
       ·exact .inr (.inl h)
       ·exact .inl (.inr ⟨trivial,h⟩)
      ·rintro ((h | h) | (h | h))
       ·exact .inl (.inl h)
       ·exact .inr h.2
       ·exact .inl (.inr h)
       ·exact absurd h.2 ha
     ·rw [if_neg hb]
      simp only [List.mem_append,List.mem_singleton,h2,Prod.mk.injEq]
      constructor
      ·rintro (h | h)
       ·exact .inl (.inl h)
       ·exact .inr (.inl h)
      ·rintro ((h | h) | (h | h))
       ·exact .inl h
       ·exact absurd h.1 hb
       ·exact .inr h
       ·exact absurd h.2 ha
section
variable {N:List Nd} {P:List Pr} {J:Int→List Int} {M T:List Int}
theorem pairs_ne (h0:checkN N=0) {q:Int×Int} (hq:q∈pairsN N P):q.1≠q.2:=by
 unfold pairsN at hq
 obtain ⟨x,hx,hq⟩:=List.mem_flatMap.1 hq
 obtain ⟨v,hv,rfl⟩:=List.mem_map.1 hq
 have:=((mem_refs h0).1 hv).2.1
 rw [peer_id] at this
 exact fun h=>this h.symm
theorem refs_len (h0:checkN N=0) (p:Pr):(refsN N p).length≤N.length:=by
 unfold refsN
 rw [if_pos h0]
 unfold ordN
 rw [List.length_map]
 have:=List.length_filter_le (fun x=>!(x.id==p.id)&&(numsP p).contains x.id) (sortN N)
 rwa [sortN_length] at this
theorem pairs_len (h0:checkN N=0):∀ L:List Nd,(L.flatMap fun x=>(refsN N (peerN P x.id)).map fun v=>(x.id,v)).length≤L.length*N.length
 | []=>by simp
 | x::L=>by
  have:=pairs_len h0 L
  have:=refs_len h0 (peerN P x.id)
  rw [List.flatMap_cons,List.length_append,List.length_map,List.length_cons,Nat.succ_mul]
  omega
theorem joined_law (h0:checkN N=0) {u v:Int}:v∈jOf (pairsN N P) u↔EdgeN N P u v∨EdgeN N P v u:=by
 rw [(jOf_law _ _ rfl (fun q hq=>pairs_ne h0 hq) u).2 v]
 have key:∀ a b,(a,b)∈pairsN N P↔EdgeN N P a b:=by
  intro a b
  rw [← pairs_in h0]
  constructor
  ·intro h
   refine ⟨h,?_⟩
   unfold pairsN at h
   obtain ⟨x,hx,hq⟩:=List.mem_flatMap.1 h
   obtain ⟨c,hc,he⟩:=List.mem_map.1 hq
   cases he
   exact ⟨⟨x,hx,rfl⟩,((mem_refs h0).1 hc).1⟩
  ·exact fun h=>h.1
 rw [key,key]
def Bfs (N:List Nd) (P:List Pr) (J:Int→List Int) (M T:List Int):Prop :=
 M.Nodup∧(∀ v,v∈M∨v∈T→∃ s,N.head?=some s∧Cl (EdgeN N P) s.id v)∧(∀ u∈M,∀ v∈J u,v∈M∨v∈T)∧∀ s,N.head?=some s→s.id∈M∨s.id∈T
def todoN (N:List Nd) (J:Int→List Int) (M T:List Int):Nat:=T.length+((N.filter fun x=>!(M.contains x.id)).map fun x=>(J x.id).length).sum
theorem bfs_start:Bfs N P J [] (match N with | []=>[] | s::_=>[s.id]):=by
 refine ⟨List.nodup_nil,fun v hv=>?_,(by simp),fun s hs=>?_⟩
 ·cases N with
  | nil=>rcases hv with hv | hv<;>cases hv
  | cons s N =>
   rcases hv with hv | hv
   ·cases hv
   ·simp only [List.mem_singleton] at hv
    subst hv
    exact ⟨s,rfl,.refl _⟩
 ·cases N with
  | nil=>cases hs
  | cons a N=>cases hs;simp
theorem bfs_old {v:Int} (h:Bfs N P J M (v::T)) (hv:v∈M):Bfs N P J M T:=by
 obtain ⟨h1,h2,h3,h4⟩:=h
 refine ⟨h1,fun u hu=>h2 u (hu.imp id (fun h=>List.mem_cons_of_mem _ h)),fun u hu x hx=>?_,fun s hs=>?_⟩
 ·rcases h3 u hu x hx with h | h
  ·exact .inl h
  ·rcases List.mem_cons.1 h with h | h
   ·subst h;exact .inl hv
   ·exact .inr h
 ·rcases h4 s hs with h | h
  ·exact .inl h
  ·rcases List.mem_cons.1 h with h | h
   ·rw [h];exact .inl hv
   ·exact .inr h
theorem bfs_new (hJ:∀ u v,v∈J u→EdgeN N P u v∨EdgeN N P v u) {v:Int} (h:Bfs N P J M (v::T)) (hv:v∉M):Bfs N P J (M++[v]) (T++J v):=by
 obtain ⟨h1,h2,h3,h4⟩:=h
 refine ⟨List.nodup_append.2 ⟨h1,by simp,fun a ha b hb=>by simp only [List.mem_singleton] at hb;subst hb;exact fun e=>hv (e▸ha)⟩,fun u hu=>?_,fun u hu x hx=>?_,fun s hs=>?_⟩
 ·have key:u∈M∨u∈v::T∨u∈J v:=by
   simp only [List.mem_append,List.mem_singleton] at hu
   rcases hu with (h | h) | (h | h)
   ·exact .inl h
   ·subst h;exact .inr (.inl (by simp))
   ·exact .inr (.inl (by simp [h]))
   ·exact .inr (.inr h)
  rcases key with h | h | h
  ·exact h2 u (.inl h)
  ·exact h2 u (.inr h)
  ·obtain ⟨s,hs,hc⟩:=h2 v (.inr (by simp))
   exact ⟨s,hs,hc.trans (Cl.one (hJ v u h))⟩
 ·simp only [List.mem_append,List.mem_singleton] at hu ⊢
  rcases hu with hu | hu
  ·rcases h3 u hu x hx with h | h
   ·exact .inl (.inl h)
   ·rcases List.mem_cons.1 h with h | h
    ·exact .inl (.inr h)
    ·exact .inr (.inl h)
  ·subst hu
   exact .inr (.inr hx)
 ·simp only [List.mem_append,List.mem_singleton]
  rcases h4 s hs with h | h
  ·exact .inl (.inl h)
  ·rcases List.mem_cons.1 h with h | h
   ·exact .inl (.inr h)
   ·exact .inr (.inl h)
theorem todo_new (h0:checkN N=0) {x:Nd} (hx:x∈N) (hv:x.id∉M):todoN N J (M++[x.id]) (T++J x.id)+1=todoN N J M (x.id::T):=by
 have key:∀ L:List Nd,(L.Pairwise fun a b=>a.id≠b.id)→x∈L →
   ((L.filter fun y=>!((M++[x.id]).contains y.id)).map fun y=>(J y.id).length).sum+(J x.id).length=((L.filter fun y=>!(M.contains y.id)).map fun y=>(J y.id).length).sum:=by
  intro L
  induction L with
  | nil=>intro _ h;cases h
  | cons y L ih =>
   intro hp hxl
   rw [List.pairwise_cons] at hp
   rw [List.filter_cons,List.filter_cons]
   rcases List.mem_cons.1 hxl with rfl | hxl
   ·have h1:(!((M++[x.id]).contains x.id))=false:=by simp
    have h2:(!(M.contains x.id))=true:=by simpa using hv
    rw [h1,h2]
    simp only [if_true,Bool.false_eq_true,if_false,List.map_cons,List.sum_cons]
    have:(L.filter fun y=>!((M++[x.id]).contains y.id))=L.filter fun y=>!(M.contains y.id):=by
     refine List.filter_congr fun y hy=>?_
     have:=hp.1 y hy
     rw [Bool.eq_iff_iff]
     simp;exact fun _ h=>this h.symm
    rw [this]
    omega
   ·have hne:=hp.1 x hxl
    have h1:(!((M++[x.id]).contains y.id)) = !(M.contains y.id):=by
     rw [Bool.eq_iff_iff]
     simp [hne]
    rw [h1]
    have:=ih hp.2 hxl
    split
    ·simp only [List.map_cons,List.sum_cons];omega
    ·exact this
 have hp:N.Pairwise fun a b=>a.id≠b.id:=(keys_pw (check_keys h0)).imp (fun h=>h.2)
 have:=key N hp hx
 unfold todoN
 simp only [List.length_append,List.length_cons]
 omega
theorem bfs_node (h0:checkN N=0) (h:Bfs N P J M T) {v:Int} (hv:v∈M∨v∈T):∃ x∈N,x.id=v:=by
 obtain ⟨s,hs,hc⟩:=h.2.1 v hv
 have hsN:s∈N:=List.mem_of_mem_head? hs
 cases hc.symm with
 | refl=>exact ⟨s,hsN,rfl⟩
 | step e _ =>
  rcases e with e | e
  ·exact e.1
  ·exact (edge_node h0 e).2
theorem bfs_len (h0:checkN N=0) (h:Bfs N P J M T):M.length≤N.length:=by
 have hsub:∀ v∈M,v∈N.map Nd.id:=fun v hv=>by
  obtain ⟨x,hx,rfl⟩:=bfs_node h0 h (.inl hv)
  exact List.mem_map.2 ⟨x,hx,rfl⟩
 have:=h.1.length_le_of_subset (l₂:=N.map Nd.id) (fun v hv=>hsub v hv)
 simpa using this
theorem bfs_end (h0:checkN N=0) (hJ:∀ u v,v∈J u↔EdgeN N P u v∨EdgeN N P v u) (h:Bfs N P J M []):M.length=N.length↔ConnN N P:=by
 cases N with
 | nil =>
  have:=bfs_len h0 h
  simp only [List.length_nil,Nat.le_zero] at this
  simp only [this,List.length_nil,true_iff]
  exact ⟨h0,by simp⟩
 | cons s N =>
  have hs:s.id∈M:=by
   rcases h.2.2.2 s rfl with h | h
   ·exact h
   ·cases h
  refine met_conn h0 (s:=s) (by simp) hs h.1 (fun v hv=>?_) (fun u hu v e=>?_)
  ·obtain ⟨s',hs',hc⟩:=h.2.1 v (.inl hv)
   cases hs'
   exact hc
  ·rcases h.2.2.1 u hu v ((hJ u v).2 e) with h | h
   ·exact h
   ·cases h
theorem conn_bool (h0:checkN N=0) (hJ:∀ u v,v∈J u↔EdgeN N P u v∨EdgeN N P v u) (h:Bfs N P J M []):decide ((M.length:Int)=N.length)=connB N P:=by
 rw [Bool.eq_iff_iff,connB_iff,← bfs_end h0 hJ h,decide_eq_true_eq]
 omega
end
def grp1 (J:Int→List Int) (x y:Int):Int→List Int:=fun v=>if v=x then J x++[y] else J v
section
variable {P:Program} {k e:TypeId} {base:Nat} {w w':World} {b n:Nat} {f:Int→Value} {J:Int→List Int}
theorem GrpM.one (h:GrpM P k e base w b n f J) {x y:Int} {w1 w3:World} {a':Value} {n':Nat}
  (A:OwnL 1 encI e base w1 a' (J x++[y])) (k1:Chg (fun k=>k<w.heap.size∧¬ (f x).ownBlock=some k) w w1) (la:∀ g,a'.ownBlock=some g→(f x).ownBlock=some g∨w.heap.size≤g)
  (k3:Exb b w1 w3) (R:RawM P k w3 b n' (upd f x a')):GrpM P k e base w3 b n' (upd f x a') (grp1 J x y):=by
 obtain ⟨h1,hb,hs,hO,hd⟩:=h
 have s1:=k1.size
 have s3:=k3.size
 refine ⟨R,hb,by omega,fun v=>?_,fun v v' g hne hv hv'=>?_⟩
 ·unfold upd grp1
  by_cases hvx:v=x
  ·rw [if_pos hvx,if_pos hvx]
   exact A.nxb hb k3
  ·rw [if_neg hvx,if_neg hvx]
   have O1:OwnL 1 encI e base w1 (f v) (J v):=(hO v).chg k1 fun g hg hv=>⟨hg,hd v x g hvx hv⟩
   exact O1.nxb hb k3
 ·unfold upd at hv hv'
  have ov:∀ u g,u≠x→(f u).ownBlock=some g→¬ a'.ownBlock=some g:=by
   intro u g hux hu ha
   rcases la g ha with h2 | h2
   ·exact hd u x g hux hu h2
   ·have:=((hO u).lt g hu).2;omega
  by_cases hvx:v=x
  ·rw [if_pos hvx] at hv
   rw [if_neg (by omega)] at hv'
   exact ov v' g (by omega) hv' hv
  ·rw [if_neg hvx] at hv
   by_cases hvx':v'=x
   ·rw [if_pos hvx'] at hv';exact ov v g hvx hv hv'
   ·rw [if_neg hvx'] at hv';exact hd v v' g hne hv hv'
end
section
variable {α:Type} {sz:Nat} {enc:α→List Value} {e:TypeId} {base:Nat} {w:World} {l:List α} {g n cap:Nat}
theorem OwnL.parts (h:OwnL sz enc e base w (.slice (some ⟨g,0,none⟩) n cap) l):∃ cur:Array Value,n=l.length∧base≤g∧w.heap[g]?=some (.cells cur e (0,0))∧n≤cap∧cap≤maxLen∧cur.size=cap*sz∧cur.toList.take (n*sz)=l.flatMap enc∧(l.flatMap enc).length=n*sz:=by
 rcases h.2 with ⟨h1,_⟩ | ⟨g',cap',cur,e1,e2,e3,e4,e5,e6,e7⟩
 ·cases h1
 ·obtain ⟨rfl,hLn,rfl⟩:g=g'∧n=l.length∧cap=cap':=by simpa using e1
  subst hLn
  exact ⟨cur,rfl,e2,e3,e4,e5,e6,e7,h.1⟩
theorem OwnL.ofParts {cur:Array Value} (h1:n=l.length) (h2:base≤g) (h3:w.heap[g]?=some (.cells cur e (0,0))) (h4:n≤cap) (h5:cap≤maxLen) (h6:cur.size=cap*sz) (h7:cur.toList.take (n*sz)=l.flatMap enc) (h8:(l.flatMap enc).length=n*sz) :
  OwnL sz enc e base w (.slice (some ⟨g,0,none⟩) n cap) l:=by
 subst h1
 exact ⟨h8,.inr ⟨g,cap,cur,rfl,h2,h3,h4,h5,h6,h7⟩⟩
theorem OwnL.setcD (h:OwnL sz enc e base w (.slice (some ⟨g,0,none⟩) n cap) l) (v:Value) {j:Nat} (hj:n*sz≤j) :
  OwnL sz enc e base (w.setCell ⟨g,j,none⟩ v) (.slice (some ⟨g,0,none⟩) n cap) l:=by
 obtain ⟨cur,a1,a2,a3,a4,a5,a6,a7,a8⟩:=h.parts
 exact OwnL.ofParts a1 a2 (heap_set a3 j v) a4 a5 (by simp [a6]) (by rw [← a7,Array.toList_setIfInBounds,List.take_set_of_le hj]) a8
theorem OwnL.setcsD:∀ (vs:List Value) (w:World) (j:Nat),n*sz≤j→OwnL sz enc e base w (.slice (some ⟨g,0,none⟩) n cap) l →
  OwnL sz enc e base (w.setCells g j vs) (.slice (some ⟨g,0,none⟩) n cap) l
 | [],_,_,_,h=>h
 | v::vs,w,j,hj,h=>OwnL.setcsD vs _ (j+1) (by omega) (h.setcD v hj)
theorem OwnL.cellC (h:OwnL sz enc e base w (.slice (some ⟨g,0,none⟩) n cap) l) {j:Nat} (hj:j<cap*sz):(w.cell? ⟨g,j,none⟩).isSome=true∧w.frozen? ⟨g,j,none⟩=false:=by
 obtain ⟨cur,a1,a2,a3,a4,a5,a6,a7,a8⟩:=h.parts
 have hsz:j<cur.size:=by rw [a6];exact hj
 exact ⟨by simp [World.cell?,a3,hsz],by simp [World.frozen?,a3]⟩
theorem run_clear_own {P:Program} (h:OwnL sz enc e base w (.slice (some ⟨g,0,none⟩) n cap) l) (m q:Nat) (hm:m+(q+1)≤cap) (z:Value) (zs:Array Value) (hz:(zeroValue e).run P w=.ok z w) (hzc:z.cells=zs) (hzs:zs.size=sz) (hsz:0<sz) (hz1:∀ i,i<sz→(zs[i]!).oneCell'=true)
  (ts ty:TypeId) (hu:P.underlying ts=some (.slice e)) (c':Nat) :
  ∃ vs,(Builtin.clear_ #[ts] ty #[.slice (some ⟨g,m*sz,none⟩) (q+1) c']).run P w=.ok (.tuple #[]) (w.setCells g (m*sz) vs):=by
 obtain ⟨vs,hvs⟩:∃ vs,vs=(Builtin.zeroCells (Value.cells z) (q+1)).toList:=⟨_,rfl⟩
 have hl:vs.length=(q+1)*sz:=by rw [hvs,hzc];simp [Builtin.zeroCells,hzs]
 have hmul:(m+(q+1))*sz≤cap*sz:=Nat.mul_le_mul_right _ hm
 rw [Nat.add_mul] at hmul
 have h1:∀ v∈vs,v.oneCell'=true:=by
  intro v hv
  rw [hvs,hzc] at hv
  simp only [Builtin.zeroCells,Array.toList_map,List.mem_map] at hv
  obtain ⟨i,_,rfl⟩:=hv
  rw [hzs]
  exact hz1 _ (Nat.mod_lt _ hsz)
 have hst:=run_storeCells_cells (P:=P) g (m*sz) vs 0 w (by intro j hj;rw [hl] at hj;exact (h.cellC (by omega)).1) (by intro j hj;rw [hl] at hj;exact (h.cellC (by omega)).2) h1
 simp only [Nat.add_zero] at hst
 refine ⟨vs,?_⟩
 simp [Builtin.clear_,run_underlying hu,hz,← hvs,hst]
theorem chg_setcs {g:Nat} {w0:World}:∀ (vs:List Value) (w:World) (j:Nat),Chg (fun x=>x<w0.heap.size∧¬ x=g) w0 w→Chg (fun x=>x<w0.heap.size∧¬ x=g) w0 (w.setCells g j vs)
 | [],_,_,h=>h
 | v::vs,w,j,h=>chg_setcs vs _ (j+1) (h.setCell (p:=⟨g,j,none⟩) v (fun k hk=>hk.2))
theorem wp_append_room {P:Program} {o:Oper} {a:Act} {K:Act→World→Prop} {Q:Exit→Act→World→Prop} (s x:Operand) (t:TypeId)
  (ho:o.op=.call { callee:=.builtin .append,args:=#[s,x],argTypes:=#[t,t] })
  (z:Value) (bytes:Nat) (ht:P.underlying t=some (.slice e)) (hi:(P.info? e).map (fun i=>(i.zero,i.size,i.bytes))=some (some z,sz,bytes))
  (hown:OwnL sz enc e base w (.slice (some ⟨g,0,none⟩) n cap) l) (k:Nat) (hk:k≤n) (hs:a.eval s=.slice (some ⟨g,0,none⟩) k cap) (A:Addr) (m c:Nat) (news:List α) (hrd:Sl sz enc w (some A) m news) (hlen:∀ y,(enc y).length=sz) (h1:∀ y,∀ u∈enc y,u.oneCell'=true) (hsz:0<sz)
  (hx:a.eval x=.slice (some A) m c) (hroom:k+m≤cap)
  (h:∀ w',OwnL sz enc e base w' (.slice (some ⟨g,0,none⟩) (k+m) cap) (l.take k++news)→Chg (fun x=>x<w.heap.size∧¬ x=g) w w'→K (a.put o.dst (.slice (some ⟨g,0,none⟩) (k+m) cap)) w'):o.wp P a w K Q:=by
 obtain ⟨i,hi,hz0,hz1,hz2⟩:=info_parts hi
 obtain ⟨cur,a1,a2,a3,a4,a5,a6,a7,a8⟩:=hown.parts
 have hnl:=hrd.len
 have hnew:∀ j u,(news.flatMap enc)[j]?=some u→w.cell? (A.add j)=some u:=by
  intro j u hu
  rcases hrd.2 with h0 | ⟨x,o,e1,_,_⟩
  ·have:news=[]:=List.eq_nil_of_length_eq_zero (hnl.trans h0)
   subst this
   simp at hu
  ·cases e1
   rw [Addr.add_lit]
   exact hrd.flatW hlen hsz j u hu
 have hnf:(news.flatMap enc).length=m*sz:=by rw [flatW_len hlen,hnl]
 have h1f:∀ u∈news.flatMap enc,u.oneCell'=true:=fun u hu=>by
  obtain ⟨y,_,hy⟩:=List.mem_flatMap.1 hu
  exact h1 y u hy
 have hmm:(k+m)*sz≤cap*sz:=Nat.mul_le_mul_right _ hroom
 rw [Nat.add_mul] at hmm
 have htk:cur.toList.take (k*sz)=(l.take k).flatMap enc:=by
  rw [flatN_take hlen,← a7,List.take_take,Nat.min_eq_left (Nat.mul_le_mul_right _ hk)]
 have hlk:(l.take k).length=k:=by rw [List.length_take];omega
 have hrun:=run_append_room (P:=P) w t o.type e i ht hi g k cap cur a3 A m c (news.flatMap enc) (by rw [hz1];exact hnf) hnew h1f hroom (by rw [hz1,hnf];omega)
 have close:∀ v' w',(Builtin.append_ #[t,t] o.type #[.slice (some ⟨g,0,none⟩) k cap,.slice (some A) m c]).run P w=.ok v' w'→K (a.put o.dst v') w'→o.wp P a w K Q:=by
  intro v' w' hr hK
  unfold Oper.wp
  simp [execOp,ho,resolve,invoke,builtin,hs,hx,hr,Result.andThen]
  exact hK
 refine close _ _ hrun (h _ (OwnL.ofParts (by rw [List.length_append,hlk,hnl]) a2 (setRow_heap w g cur _ e _ a3) hroom a5 ?_ ?_ ?_) ⟨rfl,rfl,rfl,by simp [World.setRow],fun k hk=>setRow_other w g k _ (fun he=>hk.2 he)⟩)
 ·simp only [List.size_toArray,List.length_append,List.length_take,List.length_drop,Array.length_toList,hz1,hnf]
  omega
 ·rw [hz1,htk,List.flatMap_append,Nat.add_mul]
  have:((l.take k).flatMap enc++news.flatMap enc).length=k*sz+m*sz:=by rw [List.length_append,flatW_len hlen,hlk,hnf]
  rw [← this]
  exact List.take_left
 ·rw [List.flatMap_append,List.length_append,flatW_len hlen,hlk,hnf,Nat.add_mul]
end
theorem Tryz.infoIoD:(Tryz.prog.info? 67).map (fun i=>(i.zero,i.size,i.bytes))=some (some (.agg #[.int .i64 0,.int .i64 0]),2,16):=by kernel_rfl
theorem Tryz.zero_delete_io (w:World):(zeroValue 67).run Tryz.prog w=.ok (.agg #[.int .i64 0,.int .i64 0]) w:=by kernel_rfl
set_option maxRecDepth 100000 in
set_option maxHeartbeats 4000000 in
theorem delete_io (v:Value) (l:List (Int×Int)) (k:Nat) (w0 w:World) (h:OwnL 2 encS 67 w0.heap.size w v l) (hk:k<l.length) (hn:l.length≤1000000) (k0:Ex w0 w) :
  Calls Tryz.prog 88 #[v,.int .i64 k,.int .i64 ((k:Int)+1)] w fun e w'=>∃ v',e=.returned v'∧OwnL 2 encS 67 w0.heap.size w' v' (l.eraseIdx k)∧Ex w0 w'∧Chg (fun x=>x<w.heap.size∧¬ v.ownBlock=some x) w w':=by
 rcases h.2 with ⟨_,h2⟩ | ⟨g,cap,cur,rfl,hb,_,hlc,hcm,_,_⟩
 ·omega
 obtain ⟨m,hm⟩:∃ m,l.length=k+1+m:=⟨l.length-(k+1),by omega⟩
 rw [hm] at h hlc hn ⊢
 unfold maxLen at hcm
 have OWN:=lH h
 have HB:=lH hb
 have K0:=lH k0
 have EI:=lH (show l.eraseIdx k=l.take k++l.drop (k+1) from List.eraseIdx_eq_take_drop_succ l k)
 have SLW:=lH (show Sl 2 encS w (some ⟨g,0,none⟩) l.length l from by
  obtain ⟨a',c',e',r',_⟩:=h.rd (fun _=>rfl)
  have e2:some (⟨g,0,none⟩:Addr)=a'∧k+1+m=l.length∧cap=c':=by simpa using e'
  obtain ⟨rfl,_,rfl⟩:=e2
  exact Rd.mono r' (fun _ hk=>hk.2))
 have HM:=lH hm
 have w1:IntKind.i64.wrap ((k:Int)+1)=(k:Int)+1:=IntWalk.i64_in _ (by omega)
 have t1:((k:Int)+1).toNat=k+1:=by omega
 have b1:(0:Int)≤(k:Int)+1:=by omega
 have b2:(k:Int)≤(k:Int)+1:=by omega
 have b3:(k:Int)+1≤(k:Int)+1+(m:Int):=by omega
 have b4:(k:Int)+1+(m:Int)≤(cap:Int):=by omega
 have b8:(0:Int)≤(k:Int)+(m:Int):=by omega
 have b9:(k:Int)+(m:Int)≤(k:Int)+1+(m:Int):=by omega
 have t2:((k:Int)+(m:Int)).toNat=k+m:=by omega
 have t3:((k:Int)+1+(m:Int)).toNat=k+1+m:=by omega
 have t4:k+1+m-(k+1)=m:=by omega
 have t5:k+1+m-(k+m)=1:=by omega
 have b5:(k:Int)≤(cap:Int):=by omega
 have b6:(k:Int)+1≤(cap:Int):=by omega
 have b7:((k:Int)==(k:Int)+1)=false:=by rw [beq_eq_false_iff_ne];omega
 clear h hb k0 hm hk
 go_enter Tryz.func88,Tryz.ntmps88
 go_upto_region 5 with fail
 have FIN:∀ (wx:World),OwnL 2 encS 67 w0.heap.size wx (.slice (some ⟨g,0,none⟩) (k+m) cap) (l.eraseIdx k)→Ex w0 wx→Chg (fun x=>x<w.heap.size∧¬ x=g) w wx→∃ vs:List Value,
   (∀ ty c',(Builtin.clear_ #[25] ty #[.slice (some ⟨g,(k+m)*2,none⟩) 1 c']).run Tryz.prog wx=.ok (.tuple #[]) (wx.setCells g ((k+m)*2) vs))∧OwnL 2 encS 67 w0.heap.size (wx.setCells g ((k+m)*2) vs) (.slice (some ⟨g,0,none⟩) (k+m) cap) (l.eraseIdx k)∧Ex w0 (wx.setCells g ((k+m)*2) vs)∧Chg (fun x=>x<w.heap.size∧¬ (Value.slice (some ⟨g,0,none⟩) (k+1+m) cap).ownBlock=some x) w (wx.setCells g ((k+m)*2) vs):=fun wx O E C=>by
  have hz1:∀ i,i<2→((#[.int .i64 0,.int .i64 0]:Array Value)[i]!).oneCell'=true:=fun i hi=>match i,hi with
  | 0,_=>rfl
  | 1,_=>rfl
  obtain ⟨vs,hvs⟩:=run_clear_own (P:=Tryz.prog) O (k+m) 0 (by omega) (.agg #[.int .i64 0,.int .i64 0]) #[.int .i64 0,.int .i64 0] (Tryz.zero_delete_io wx) rfl rfl (by omega) hz1 25 0 Tryz.underlying25 0
  exact ⟨vs,fun _ _=>hvs,OwnL.setcsD vs wx _ (Nat.le_refl _) O,ex_setcs HB.out vs wx _ E,(chg_setcs vs wx _ C).mono (fun x hx=>⟨hx.1,fun he=>hx.2 (by rw [he];rfl)⟩)⟩
 by_cases hcap:cap=k+1
 ·subst hcap
  have HRD:Sl 2 encS w (some ⟨g,0,none⟩) m (l.drop (k+1)):=by
   rw [show m=0 by omega,List.drop_of_length_le (by have:=HM.out;omega)]
   exact Sl.nil _ _ _ _
  have HR:=lH HRD
  clear HRD
  refine wp_region_held_drew (S:=Ex w0) (by kernel_rfl) (K0.out.drew) (fun hHeld=>?_)
  obtain ⟨wd,hwdx⟩:∃ wd:World,wd=World.drew w:=⟨_,rfl⟩
  rw [← hwdx] at hHeld ⊢
  have hDrew:Ex w wd:=by rw [hwdx];exact (Ex.refl w).drew
  clear hwdx
  refine tkH 0 (v:=?_) rfl (by kernel_rfl) (fun _ _ _ h=>h) (by rfl) ?y5 hHeld ?_
  case y5=>intro wq hSw;go_simp<;>rfl
  refine tkH 1 (v:=?_) rfl (by kernel_rfl) (fun _ _ _ h=>h) (by rfl) ?y8 hHeld ?_
  case y8=>intro wq hSw;go_simp<;>rfl
  refine tkH 2 (v:=?_) rfl (by kernel_rfl) (fun _ _ _ h=>h) (by rfl) ?y11 hHeld ?_
  case y11=>intro wq hSw;go_simp<;>rfl
  refine tkH 3 (v:=?_) rfl (by kernel_rfl) (fun _ _ _ h=>h) (by rfl) ?y14 hHeld ?_
  case y14=>intro wq hSw;go_simp<;>rfl
  refine tkH 4 (v:=?_) rfl (by kernel_rfl) (fun _ _ _ h=>h) (by rfl) ?y17 hHeld ?_
  case y17=>intro wq hSw;go_simp<;>rfl
  refine tkH 5 (v:=?_) rfl (by kernel_rfl) (fun _ _ _ h=>h) (by rfl) ?y20 hHeld ?_
  case y20=>intro wq hSw;go_simp<;>rfl
  refine rH 6 (by kernel_rfl) rfl fun K hK=>?_
  rw [if_pos (by rfl)]
  refine wp_append_room (enc:=encS) (.tmp 22) (.tmp 25) 25 rfl (.agg #[.int .i64 0,.int .i64 0]) 16 Tryz.underlying25 Tryz.infoIoD (OWN.out.nx hDrew) k (by omega) rfl ⟨g,0,none⟩ m _ (l.drop (k+1)) (HR.out.nx hDrew) (fun _=>rfl) (by simp [encS,Value.oneCell']) (by omega) rfl (by omega) ?_
  intro w9 own9 ch0
  replace hHeld:Ex w0 w9:=Chg.trans hHeld (ch0.mono (fun x hx=>⟨Nat.lt_of_lt_of_le hx hHeld.size,fun he=>by have:=HB.out;omega⟩))
  have HC:Chg (fun x=>x<w.heap.size∧¬ x=g) w w9:=Chg.trans (Chg.mono hDrew (fun x hx=>hx.1)) (ch0.mono (fun x hx=>⟨Nat.lt_of_lt_of_le hx.1 hDrew.size,hx.2⟩))
  rw [← EI.out] at own9
  clear ch0
  refine hK.out _ _ (hHeld) (fun hHeld=>?_)
  clear hK K
  refine tkH 7 (v:=?_) rfl (by kernel_rfl) (fun _ _ _ h=>h) (by rfl) ?y35 hHeld ?_
  case y35=>intro wq hSw;go_simp<;>rfl
  refine wpAnyH_done (by kernel_rfl) ?_ _
  obtain ⟨vs,hcl,O9,E9,C9⟩:=FIN w9 own9 hHeld HC
  clear FIN own9 hHeld hDrew HC
  go_wp2_with (simp only [hcl])
  go_ret
  exact ⟨_,rfl,O9,E9,C9⟩
 ·have HRD:Sl 2 encS w (some ⟨g,(k+1)*2,none⟩) m (l.drop (k+1)):=by
   have:=Sl.drop SLW.out (m:=k+1) (by have:=HM.out;omega)
   rw [Nat.zero_add,show l.length-(k+1)=m by have:=HM.out;omega] at this
   exact this
  have hcap2:¬ k+1=cap:=fun h=>hcap h.symm
  have HR:=lH HRD
  clear HRD
  refine wp_region_held_drew (S:=Ex w0) (by kernel_rfl) (K0.out.drew) (fun hHeld=>?_)
  obtain ⟨wd,hwdx⟩:∃ wd:World,wd=World.drew w:=⟨_,rfl⟩
  rw [← hwdx] at hHeld ⊢
  have hDrew:Ex w wd:=by rw [hwdx];exact (Ex.refl w).drew
  clear hwdx
  refine tkH 0 (v:=?_) rfl (by kernel_rfl) (fun _ _ _ h=>h) (by rfl) ?y5 hHeld ?_
  case y5=>intro wq hSw;go_simp<;>rfl
  refine tkH 1 (v:=?_) rfl (by kernel_rfl) (fun _ _ _ h=>h) (by rfl) ?y8 hHeld ?_
  case y8=>intro wq hSw;go_simp<;>rfl
  refine tkH 2 (v:=?_) rfl (by kernel_rfl) (fun _ _ _ h=>h) (by rfl) ?y11 hHeld ?_
  case y11=>intro wq hSw;go_simp<;>rfl
  refine tkH 3 (v:=?_) rfl (by kernel_rfl) (fun _ _ _ h=>h) (by rfl) ?y14 hHeld ?_
  case y14=>intro wq hSw;go_simp<;>rfl
  refine tkH 4 (v:=?_) rfl (by kernel_rfl) (fun _ _ _ h=>h) (by rfl) ?y17 hHeld ?_
  case y17=>intro wq hSw;go_simp<;>rfl
  refine tkH 5 (v:=?_) rfl (by kernel_rfl) (fun _ _ _ h=>h) (by rfl) ?y20 hHeld ?_
  case y20=>intro wq hSw;go_simp<;>rfl
  refine rH 6 (by kernel_rfl) rfl fun K hK=>?_
  rw [if_pos (by rfl)]
  refine wp_append_room (enc:=encS) (.tmp 22) (.tmp 25) 25 rfl (.agg #[.int .i64 0,.int .i64 0]) 16 Tryz.underlying25 Tryz.infoIoD (OWN.out.nx hDrew) k (by omega) rfl ⟨g,(k+1)*2,none⟩ m _ (l.drop (k+1)) (HR.out.nx hDrew) (fun _=>rfl) (by simp [encS,Value.oneCell']) (by omega) rfl (by omega) ?_
  intro w9 own9 ch0
  replace hHeld:Ex w0 w9:=Chg.trans hHeld (ch0.mono (fun x hx=>⟨Nat.lt_of_lt_of_le hx hHeld.size,fun he=>by have:=HB.out;omega⟩))
  have HC:Chg (fun x=>x<w.heap.size∧¬ x=g) w w9:=Chg.trans (Chg.mono hDrew (fun x hx=>hx.1)) (ch0.mono (fun x hx=>⟨Nat.lt_of_lt_of_le hx.1 hDrew.size,hx.2⟩))
  rw [← EI.out] at own9
  clear ch0
  refine hK.out _ _ (hHeld) (fun hHeld=>?_)
  clear hK K
  refine tkH 7 (v:=?_) rfl (by kernel_rfl) (fun _ _ _ h=>h) (by rfl) ?y35 hHeld ?_
  case y35=>intro wq hSw;go_simp<;>rfl
  refine wpAnyH_done (by kernel_rfl) ?_ _
  obtain ⟨vs,hcl,O9,E9,C9⟩:=FIN w9 own9 hHeld HC
  clear FIN own9 hHeld hDrew HC
  go_wp2_with (simp only [hcl])
  go_ret
  exact ⟨_,rfl,O9,E9,C9⟩
theorem Tryz.zero_delete_nd (w:World):(zeroValue 49).run Tryz.prog w=.ok (.agg #[.int .i64 0,.string ⟨#[]⟩,.int .u32 0]) w:=by kernel_rfl
set_option maxRecDepth 100000 in
set_option maxHeartbeats 4000000 in
theorem delete_nd (v:Value) (l:List Nd) (k:Nat) (w0 w:World) (h:OwnL 3 encN 49 w0.heap.size w v l) (hk:k<l.length) (hn:l.length≤1000000) (k0:Ex w0 w) :
  Calls Tryz.prog 96 #[v,.int .i64 k,.int .i64 ((k:Int)+1)] w fun e w'=>∃ v',e=.returned v'∧OwnL 3 encN 49 w0.heap.size w' v' (l.eraseIdx k)∧Ex w0 w'∧Chg (fun x=>x<w.heap.size∧¬ v.ownBlock=some x) w w':=by
 rcases h.2 with ⟨_,h2⟩ | ⟨g,cap,cur,rfl,hb,_,hlc,hcm,_,_⟩
 ·omega
 obtain ⟨m,hm⟩:∃ m,l.length=k+1+m:=⟨l.length-(k+1),by omega⟩
 rw [hm] at h hlc hn ⊢
 unfold maxLen at hcm
 have OWN:=lH h
 have HB:=lH hb
 have K0:=lH k0
 have EI:=lH (show l.eraseIdx k=l.take k++l.drop (k+1) from List.eraseIdx_eq_take_drop_succ l k)
 have SLW:=lH (show Sl 3 encN w (some ⟨g,0,none⟩) l.length l from by
  obtain ⟨a',c',e',r',_⟩:=h.rd (fun _=>rfl)
  have e2:some (⟨g,0,none⟩:Addr)=a'∧k+1+m=l.length∧cap=c':=by simpa using e'
  obtain ⟨rfl,_,rfl⟩:=e2
  exact Rd.mono r' (fun _ hk=>hk.2))
 have HM:=lH hm
 have w1:IntKind.i64.wrap ((k:Int)+1)=(k:Int)+1:=IntWalk.i64_in _ (by omega)
 have t1:((k:Int)+1).toNat=k+1:=by omega
 have b1:(0:Int)≤(k:Int)+1:=by omega
 have b2:(k:Int)≤(k:Int)+1:=by omega
 have b3:(k:Int)+1≤(k:Int)+1+(m:Int):=by omega
 have b4:(k:Int)+1+(m:Int)≤(cap:Int):=by omega
 have b8:(0:Int)≤(k:Int)+(m:Int):=by omega
 have b9:(k:Int)+(m:Int)≤(k:Int)+1+(m:Int):=by omega
 have t2:((k:Int)+(m:Int)).toNat=k+m:=by omega
 have t3:((k:Int)+1+(m:Int)).toNat=k+1+m:=by omega
 have t4:k+1+m-(k+1)=m:=by omega
 have t5:k+1+m-(k+m)=1:=by omega
 have b5:(k:Int)≤(cap:Int):=by omega
 have b6:(k:Int)+1≤(cap:Int):=by omega
 have b7:((k:Int)==(k:Int)+1)=false:=by rw [beq_eq_false_iff_ne];omega
 clear h hb k0 hm hk
 go_enter Tryz.func96,Tryz.ntmps96
 go_upto_region 5 with fail
 have FIN:∀ (wx:World),OwnL 3 encN 49 w0.heap.size wx (.slice (some ⟨g,0,none⟩) (k+m) cap) (l.eraseIdx k)→Ex w0 wx→Chg (fun x=>x<w.heap.size∧¬ x=g) w wx→∃ vs:List Value,
   (∀ ty c',(Builtin.clear_ #[23] ty #[.slice (some ⟨g,(k+m)*3,none⟩) 1 c']).run Tryz.prog wx=.ok (.tuple #[]) (wx.setCells g ((k+m)*3) vs))∧OwnL 3 encN 49 w0.heap.size (wx.setCells g ((k+m)*3) vs) (.slice (some ⟨g,0,none⟩) (k+m) cap) (l.eraseIdx k)∧Ex w0 (wx.setCells g ((k+m)*3) vs)∧Chg (fun x=>x<w.heap.size∧¬ (Value.slice (some ⟨g,0,none⟩) (k+1+m) cap).ownBlock=some x) w (wx.setCells g ((k+m)*3) vs):=fun wx O E C=>by
  have hz1:∀ i,i<3→((#[.int .i64 0,.string ⟨#[]⟩,.int .u32 0]:Array Value)[i]!).oneCell'=true:=fun i hi=>match i,hi with
  | 0,_=>rfl
  | 1,_=>rfl
  | 2,_=>rfl
  obtain ⟨vs,hvs⟩:=run_clear_own (P:=Tryz.prog) O (k+m) 0 (by omega) (.agg #[.int .i64 0,.string ⟨#[]⟩,.int .u32 0]) #[.int .i64 0,.string ⟨#[]⟩,.int .u32 0] (Tryz.zero_delete_nd wx) rfl rfl (by omega) hz1 23 0 Tryz.underlying23 0
  exact ⟨vs,fun _ _=>hvs,OwnL.setcsD vs wx _ (Nat.le_refl _) O,ex_setcs HB.out vs wx _ E,(chg_setcs vs wx _ C).mono (fun x hx=>⟨hx.1,fun he=>hx.2 (by rw [he];rfl)⟩)⟩
 by_cases hcap:cap=k+1
 ·subst hcap
  have HRD:Sl 3 encN w (some ⟨g,0,none⟩) m (l.drop (k+1)):=by
   rw [show m=0 by omega,List.drop_of_length_le (by have:=HM.out;omega)]
   exact Sl.nil _ _ _ _
  have HR:=lH HRD
  clear HRD
  refine wp_region_held_drew (S:=Ex w0) (by kernel_rfl) (K0.out.drew) (fun hHeld=>?_)
  obtain ⟨wd,hwdx⟩:∃ wd:World,wd=World.drew w:=⟨_,rfl⟩
  rw [← hwdx] at hHeld ⊢
  have hDrew:Ex w wd:=by rw [hwdx];exact (Ex.refl w).drew
  clear hwdx
  refine tkH 0 (v:=?_) rfl (by kernel_rfl) (fun _ _ _ h=>h) (by rfl) ?y5 hHeld ?_
  case y5=>intro wq hSw;go_simp<;>rfl
  refine tkH 1 (v:=?_) rfl (by kernel_rfl) (fun _ _ _ h=>h) (by rfl) ?y8 hHeld ?_
  case y8=>intro wq hSw;go_simp<;>rfl
  refine tkH 2 (v:=?_) rfl (by kernel_rfl) (fun _ _ _ h=>h) (by rfl) ?y11 hHeld ?_
  case y11=>intro wq hSw;go_simp<;>rfl
  refine tkH 3 (v:=?_) rfl (by kernel_rfl) (fun _ _ _ h=>h) (by rfl) ?y14 hHeld ?_
  case y14=>intro wq hSw;go_simp<;>rfl
  refine tkH 4 (v:=?_) rfl (by kernel_rfl) (fun _ _ _ h=>h) (by rfl) ?y17 hHeld ?_
  case y17=>intro wq hSw;go_simp<;>rfl
  refine tkH 5 (v:=?_) rfl (by kernel_rfl) (fun _ _ _ h=>h) (by rfl) ?y20 hHeld ?_
  case y20=>intro wq hSw;go_simp<;>rfl
  refine rH 6 (by kernel_rfl) rfl fun K hK=>?_
  rw [if_pos (by rfl)]
  refine wp_append_room (enc:=encN) (.tmp 22) (.tmp 25) 23 rfl (.agg #[.int .i64 0,.string ⟨#[]⟩,.int .u32 0]) 32 Tryz.underlying23 Tryz.infoN (OWN.out.nx hDrew) k (by omega) rfl ⟨g,0,none⟩ m _ (l.drop (k+1)) (HR.out.nx hDrew) (fun _=>rfl) (by simp [encN,Value.oneCell']) (by omega) rfl (by omega) ?_
  intro w9 own9 ch0
  replace hHeld:Ex w0 w9:=Chg.trans hHeld (ch0.mono (fun x hx=>⟨Nat.lt_of_lt_of_le hx hHeld.size,fun he=>by have:=HB.out;omega⟩))
  have HC:Chg (fun x=>x<w.heap.size∧¬ x=g) w w9:=Chg.trans (Chg.mono hDrew (fun x hx=>hx.1)) (ch0.mono (fun x hx=>⟨Nat.lt_of_lt_of_le hx.1 hDrew.size,hx.2⟩))
  rw [← EI.out] at own9
  clear ch0
  refine hK.out _ _ (hHeld) (fun hHeld=>?_)
  clear hK K
  refine tkH 7 (v:=?_) rfl (by kernel_rfl) (fun _ _ _ h=>h) (by rfl) ?y35 hHeld ?_
  case y35=>intro wq hSw;go_simp<;>rfl
  refine wpAnyH_done (by kernel_rfl) ?_ _
  obtain ⟨vs,hcl,O9,E9,C9⟩:=FIN w9 own9 hHeld HC
  clear FIN own9 hHeld hDrew HC
  go_wp2_with (simp only [hcl])
  go_ret
  exact ⟨_,rfl,O9,E9,C9⟩
 ·have HRD:Sl 3 encN w (some ⟨g,(k+1)*3,none⟩) m (l.drop (k+1)):=by
   have:=Sl.drop SLW.out (m:=k+1) (by have:=HM.out;omega)
   rw [Nat.zero_add,show l.length-(k+1)=m by have:=HM.out;omega] at this
   exact this
  have hcap2:¬ k+1=cap:=fun h=>hcap h.symm
  have HR:=lH HRD
  clear HRD
  refine wp_region_held_drew (S:=Ex w0) (by kernel_rfl) (K0.out.drew) (fun hHeld=>?_)
  obtain ⟨wd,hwdx⟩:∃ wd:World,wd=World.drew w:=⟨_,rfl⟩
  rw [← hwdx] at hHeld ⊢
  have hDrew:Ex w wd:=by rw [hwdx];exact (Ex.refl w).drew
  clear hwdx
  refine tkH 0 (v:=?_) rfl (by kernel_rfl) (fun _ _ _ h=>h) (by rfl) ?y5 hHeld ?_
  case y5=>intro wq hSw;go_simp<;>rfl
  refine tkH 1 (v:=?_) rfl (by kernel_rfl) (fun _ _ _ h=>h) (by rfl) ?y8 hHeld ?_
  case y8=>intro wq hSw;go_simp<;>rfl
  refine tkH 2 (v:=?_) rfl (by kernel_rfl) (fun _ _ _ h=>h) (by rfl) ?y11 hHeld ?_
  case y11=>intro wq hSw;go_simp<;>rfl
  refine tkH 3 (v:=?_) rfl (by kernel_rfl) (fun _ _ _ h=>h) (by rfl) ?y14 hHeld ?_
  case y14=>intro wq hSw;go_simp<;>rfl
  refine tkH 4 (v:=?_) rfl (by kernel_rfl) (fun _ _ _ h=>h) (by rfl) ?y17 hHeld ?_
  case y17=>intro wq hSw;go_simp<;>rfl
  refine tkH 5 (v:=?_) rfl (by kernel_rfl) (fun _ _ _ h=>h) (by rfl) ?y20 hHeld ?_
  case y20=>intro wq hSw;go_simp<;>rfl
  refine rH 6 (by kernel_rfl) rfl fun K hK=>?_
  rw [if_pos (by rfl)]
  refine wp_append_room (enc:=encN) (.tmp 22) (.tmp 25) 23 rfl (.agg #[.int .i64 0,.string ⟨#[]⟩,.int .u32 0]) 32 Tryz.underlying23 Tryz.infoN (OWN.out.nx hDrew) k (by omega) rfl ⟨g,(k+1)*3,none⟩ m _ (l.drop (k+1)) (HR.out.nx hDrew) (fun _=>rfl) (by simp [encN,Value.oneCell']) (by omega) rfl (by omega) ?_
  intro w9 own9 ch0
  replace hHeld:Ex w0 w9:=Chg.trans hHeld (ch0.mono (fun x hx=>⟨Nat.lt_of_lt_of_le hx hHeld.size,fun he=>by have:=HB.out;omega⟩))
  have HC:Chg (fun x=>x<w.heap.size∧¬ x=g) w w9:=Chg.trans (Chg.mono hDrew (fun x hx=>hx.1)) (ch0.mono (fun x hx=>⟨Nat.lt_of_lt_of_le hx.1 hDrew.size,hx.2⟩))
  rw [← EI.out] at own9
  clear ch0
  refine hK.out _ _ (hHeld) (fun hHeld=>?_)
  clear hK K
  refine tkH 7 (v:=?_) rfl (by kernel_rfl) (fun _ _ _ h=>h) (by rfl) ?y35 hHeld ?_
  case y35=>intro wq hSw;go_simp<;>rfl
  refine wpAnyH_done (by kernel_rfl) ?_ _
  obtain ⟨vs,hcl,O9,E9,C9⟩:=FIN w9 own9 hHeld HC
  clear FIN own9 hHeld hDrew HC
  go_wp2_with (simp only [hcl])
  go_ret
  exact ⟨_,rfl,O9,E9,C9⟩
end Go.Proofs.YtalmjklljofhbaaGreatDoor
