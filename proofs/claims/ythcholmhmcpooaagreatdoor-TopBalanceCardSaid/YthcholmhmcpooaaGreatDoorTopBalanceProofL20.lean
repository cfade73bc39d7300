/- Texts for TopBalanceProof. -/
import Derived.Test.YthcholmhmcpooaaGreatDoorTopBalanceProofL17
set_option linter.unusedSimpArgs false
set_option linter.unusedVariables false

namespace Go.Proofs.YthcholmhmcpooaaGreatDoor
open Go.RowKit
def OiPost (l:List Int) (w:World) (e:Ending) (w':World):Prop:=∃ v,e=.returned v∧OwnL 1 encI 3 w.heap.size w' v l∧Ex w w'
def ordP (l:List Int) (but:Int) (y:Nd):Bool:=!(y.id==but)&&l.contains y.id
def OrdRel (S:List Nd) (l:List Int) (but:Int) (w:World) (o i:Value) (wr:World):Prop :=
 ∃ j:Nat,j≤S.length∧i=.int .i64 j∧OwnL 1 encI 3 w.heap.size wr o (((S.take j).filter (ordP l but)).map Nd.id)∧Ex w wr
theorem ord_snoc {S:List Nd} {l:List Int} {but:Int} {j:Nat} {y:Nd} (hy:S[j]?=some y) :
  ((S.take (j+1)).filter (ordP l but)).map Nd.id=((S.take j).filter (ordP l but)).map Nd.id++(if ordP l but y=true then [y.id] else []):=by
 rw [List.take_add_one,hy,List.filter_append,List.map_append]
 congr 1
 by_cases hp:ordP l but y=true
 ·rw [if_pos hp];simp [hp]
 ·rw [if_neg hp];simp [hp]
end Go.Proofs.YthcholmhmcpooaaGreatDoor
namespace Go.Proofs.YthcholmhmcpooaaGreatDoor
open Go.RowKit Go.Maps
theorem sorted_own {l:List Nd} {base:Nat} {w:World} {v:Value} (h0:checkN l=0) (own:OwnL 3 encN 36 base w v (sortN l)) :
  ∃ a c,v=.slice a l.length c∧Sl 3 encN w a l.length (sortN l)∧l.length≤c∧c≤maxLen:=by
 obtain ⟨a,c,e,r,h1,h2,_⟩:=own.rd (fun _=>rfl)
 rw [sortN_length] at e r h1
 exact ⟨a,c,e,r.mono (fun _ hk=>hk.2),h1,h2⟩
theorem cont4 (y:Nr) (id:Int):(nums4 y).contains id=(y.1==id||y.2.1==id||y.2.2.1==id||y.2.2.2==id):=by
 unfold nums4
 rw [Bool.eq_iff_iff]
 simp only [List.contains_iff_mem,List.mem_cons,List.not_mem_nil,or_false,Bool.or_eq_true,beq_iff_eq]
 omega
set_option maxHeartbeats 1000000 in
theorem names1_p (gx:Nat) (id:Int) (y:Nr) (w:World) (hx:Blk w gx [.int .i64 id] 3) :
  Calls Tryz.prog 225 #[.agg #[.int .i64 y.1,.int .i64 y.2.1,.int .i64 y.2.2.1,.int .i64 y.2.2.2],.pointer (some ⟨gx,0,none⟩)] w fun e w'=>e=.returned (.bool ((nums4 y).contains id))∧Ex w w':=by
 have hg:=hx.lt
 have EX:=Ex.refl w
 have CN:=lH (cont4 y id)
 have B2:=Blk.new w [.int .i64 y.1,.int .i64 y.2.1,.int .i64 y.2.2.1,.int .i64 y.2.2.2] 158
 have kk:=Ex.new w (.cells #[.int .i64 y.1,.int .i64 y.2.1,.int .i64 y.2.2.1,.int .i64 y.2.2.2] 158)
 obtain ⟨w1,hw1⟩:∃ w1,w1=w.alloc (.cells #[.int .i64 y.1,.int .i64 y.2.1,.int .i64 y.2.2.1,.int .i64 y.2.2.2] 158):=⟨_,rfl⟩
 obtain ⟨g2,hg2⟩:∃ g2,g2=w.heap.size:=⟨_,rfl⟩
 replace B2:Blk w1 g2 [.int .i64 y.1,.int .i64 y.2.1,.int .i64 y.2.2.1,.int .i64 y.2.2.2] 158:=by rw [hw1,hg2];exact B2
 rw [← hw1] at kk
 have Hw1:=lH hw1
 have Hg2:=lH hg2
 replace hx:=hx.nx kk
 replace EX:=EX.nx kk
 clear kk hw1 hg2
 go_enter Tryz.func225,Tryz.ntmps225
 go_upto_region 1 with fail
 rw [← Hg2.out,← Hw1.out]
 clear Hg2 Hw1
 have q0:=hx.cell 0 _ rfl
 have p0:=B2.cell 0 _ rfl
 have p1:=B2.cell 1 _ rfl
 have p2:=B2.cell 2 _ rfl
 have p3:=B2.cell 3 _ rfl
 clear hx B2
 generalize hc1:(y.1==id)=c1 at CN
 generalize hc2:(y.2.1==id)=c2 at CN
 generalize hc3:(y.2.2.1==id)=c3 at CN
 generalize hc4:(y.2.2.2==id)=c4 at CN
 cases c1 with
 | true =>
  go_wp2_with fail
  go_ret
  exact ⟨by rw [CN.out];rfl,EX⟩
 | false =>
  cases c2 with
  | true =>
   go_wp2_with fail
   go_ret
   exact ⟨by rw [CN.out];rfl,EX⟩
  | false =>
   cases c3 with
   | true =>
    go_wp2_with fail
    go_ret
    exact ⟨by rw [CN.out];rfl,EX⟩
   | false =>
    go_wp2_with fail
    go_ret
    exact ⟨by rw [CN.out];rfl,EX⟩
def NmfRel (id:Int) (l:List Nr) (n:Nat) (w:World) (i:Value) (wr:World):Prop :=
 ∃ k:Nat,k≤n∧i=.int .i64 k∧Ex w wr∧∀ j z,j<k→l[j]?=some z→(nums4 z).contains id=false
set_option maxRecDepth 100000 in
set_option maxHeartbeats 2000000 in
theorem idxf_nr (gx:Nat) (id:Int) (a:Option Addr) (n c:Nat) (l:List Nr) (w:World) (h:Sl 4 encNr w a n l) (hn:n≤4000000000000000000) (hx:Blk w gx [.int .i64 id] 3) :
  Calls Tryz.prog 237 #[.slice a n c,.func (.func 225) #[] #[.pointer (some ⟨gx,0,none⟩)]] w fun e w'=>∃ r:Int,e=.returned (.int .i64 r)∧decide (0≤r)=(l.flatMap nums4).contains id∧Ex w w':=by
 have HL:=lH h.len
 have HX:=lH hx
 have hs:=lH h
 have eg:∀ args w,(callFunc 225 args).run Tryz.prog w=.ok (.enter 225 args) w:=enters_of Tryz.func225 (by kernel_rfl) rfl
 clear h hx
 go_enter Tryz.func237,Tryz.ntmps237
 go_wp2
 go_loopw [8] (fun i wr=>NmfRel id l n w i wr) (fun i _=>n-(intOf i).toNat)
 case atStart=>exact ⟨0,by omega,rfl,Ex.refl _,by intro j z h;omega⟩
 case round =>
  obtain ⟨k,hk,rfl,kw,hno⟩:=hrel
  have HNO:=lH hno
  clear hno
  obtain ⟨wo,rfl⟩:∃ wo:World,wo=wr:=⟨_,rfl⟩
  by_cases hlt:k<n
  ·obtain ⟨x1,o1,y,rfl,hx1,hy,hc1⟩:=(hs.out.nx kw).at hlt
   have e0:wo.cell? ⟨x1,o1+k*4,none⟩=some (.int .i64 y.1):=hc1 0 _ rfl
   have e1:wo.cell? ⟨x1,o1+k*4+1,none⟩=some (.int .i64 y.2.1):=hc1 1 _ rfl
   have e2:wo.cell? ⟨x1,o1+k*4+1+1,none⟩=some (.int .i64 y.2.2.1):=by simpa [Nat.add_assoc] using hc1 2 _ rfl
   have e3:wo.cell? ⟨x1,o1+k*4+1+1+1,none⟩=some (.int .i64 y.2.2.2):=by simpa [Nat.add_assoc] using hc1 3 _ rfl
   have HY:=lH hy
   have HB:=lH (HX.out.nx kw)
   have KW:=lH kw
   clear hc1 hy kw
   go_wp2_with fail
   (with_reducible refine (names1_p gx id y _ HB.out).mono ?_)
   rintro e w2 ⟨rfl,k2⟩
   have K2:=lH (KW.out.nx k2)
   clear k2 e0 e1 e2 e3
   cases hb:(nums4 y).contains id with
   | true =>
    have HI:Hid ((l.flatMap nums4).contains id=true):=lH (by
     rw [List.contains_iff_mem,List.mem_flatMap]
     exact ⟨y,List.mem_of_getElem? HY.out,List.contains_iff_mem.1 hb⟩)
    clear hb
    go_wp2_with fail
    go_ret
    exact ⟨_,rfl,by rw [HI.out];simp,K2.out⟩
   | false =>
    have HB:=lH hb
    clear hb
    go_wp2_with fail
    refine ⟨⟨k+1,by omega,by go_num,K2.out,fun j z hj hz=>?_⟩,by simp [intOf];omega⟩
    rcases Nat.lt_or_ge j k with h | h
    ·exact HNO.out j z h hz
    ·obtain rfl:j=k:=by omega
     rw [Option.some.inj (hz.symm.trans HY.out)]
     exact HB.out
  ·obtain rfl:k=n:=by omega
   have HI:Hid ((l.flatMap nums4).contains id=false):=lH (by
    rw [Bool.eq_false_iff]
    intro hc
    rw [List.contains_iff_mem,List.mem_flatMap] at hc
    obtain ⟨y,hy,hm⟩:=hc
    obtain ⟨j,hj⟩:=List.mem_iff_getElem?.1 hy
    have:=HNO.out j y (by rw [← HL.out];exact (List.getElem?_eq_some_iff.1 hj).1) hj
    rw [List.contains_iff_mem.2 hm] at this
    cases this)
   have KW:=lH kw
   clear kw hk hlt
   go_wp2_with fail
   go_ret
   exact ⟨-1,rfl,by rw [HI.out];rfl,KW.out⟩
theorem contf_nr (gx:Nat) (id:Int) (a:Option Addr) (n c:Nat) (l:List Nr) (w:World) (h:Sl 4 encNr w a n l) (hn:n≤4000000000000000000) (hx:Blk w gx [.int .i64 id] 3) :
  Calls Tryz.prog 226 #[.slice a n c,.func (.func 225) #[] #[.pointer (some ⟨gx,0,none⟩)]] w fun e w'=>e=.returned (.bool ((l.flatMap nums4).contains id))∧Ex w w':=by
 go_enter Tryz.func226,Tryz.ntmps226
 go_wp2_with fail
 (with_reducible refine (idxf_nr gx id _ _ _ _ _ h hn hx).mono ?_)
 rintro e w1 ⟨r,rfl,hr,kk⟩
 have HR:=lH hr
 clear h hx hr
 go_wp2_with fail
 go_ret
 exact ⟨by rw [← HR.out];rfl,kk⟩
theorem cont_nums (p:Pr) (id:Int):(numsP p).contains id=(p.left==id||p.right==id||p.known.contains id||(p.near.flatMap nums4).contains id):=by
 unfold numsP
 rw [Bool.eq_iff_iff]
 simp only [List.contains_iff_mem,List.mem_append,List.mem_cons,List.not_mem_nil,or_false,Bool.or_eq_true,beq_iff_eq]
 constructor
 ·rintro ((h | h | h) | h)
  ·exact .inl (.inr h)
  ·exact .inl (.inl (.inl h.symm))
  ·exact .inl (.inl (.inr h.symm))
  ·exact .inr h
 ·rintro (((h | h) | h) | h)
  ·exact .inl (.inr (.inl h.symm))
  ·exact .inl (.inr (.inr h.symm))
  ·exact .inl (.inl h)
  ·exact .inr h
set_option maxHeartbeats 2000000 in
theorem names_p (p:Pr) (a1:Option Addr) (n1 c1:Nat) (a2:Option Addr) (n2 c2:Nat) (id:Int) (w:World) (h1:Sl 1 encI w a1 n1 p.known) (h2:Sl 4 encNr w a2 n2 p.near) (hn1:n1≤4000000000000000000) (hn2:n2≤4000000000000000000) :
  Calls Tryz.prog 204 #[.agg #[.int .i64 p.id,.slice a1 n1 c1,.int .i64 p.left,.int .i64 p.right,.slice a2 n2 c2],.int .i64 id] w fun e w'=>e=.returned (.bool ((numsP p).contains id))∧Ex w w':=by
 have EX:=Ex.refl w
 have CN:=lH (cont_nums p id)
 obtain ⟨g2,hg2⟩:∃ g2,g2=w.heap.size:=⟨_,rfl⟩
 obtain ⟨g3,hg3⟩:∃ g3,g3=(w.heap.size+1):=⟨_,rfl⟩
 obtain ⟨w1,hw1⟩:∃ w1,w1=((w.alloc (.cells #[.int .i64 p.id,.slice a1 n1 c1,.int .i64 p.left,.int .i64 p.right,.slice a2 n2 c2] 150)).alloc (.cells #[.int .i64 id] 3)):=⟨_,rfl⟩
 have kk:Ex w w1:=by rw [hw1];exact (((Ex.refl w).alloc (.cells #[.int .i64 p.id,.slice a1 n1 c1,.int .i64 p.left,.int .i64 p.right,.slice a2 n2 c2] 150)).alloc (.cells #[.int .i64 id] 3))
 have B2:Blk w1 g2 [.int .i64 p.id,.slice a1 n1 c1,.int .i64 p.left,.int .i64 p.right,.slice a2 n2 c2] 150:=by rw [hw1];simp only [hg2,hg3];have hbk:=((Blk.new w [.int .i64 p.id,.slice a1 n1 c1,.int .i64 p.left,.int .i64 p.right,.slice a2 n2 c2] 150).nx (Ex.new _ (.cells #[.int .i64 id] 3)));simpa using hbk
 have B3:Blk w1 g3 [.int .i64 id] 3:=by rw [hw1];simp only [hg2,hg3];have hbk:=(Blk.new (w.alloc (.cells #[.int .i64 p.id,.slice a1 n1 c1,.int .i64 p.left,.int .i64 p.right,.slice a2 n2 c2] 150)) [.int .i64 id] 3);simpa using hbk
 have Hw1:=lH hw1
 have Hg2:=lH hg2
 have Hg3:=lH hg3
 replace h1:=h1.nx kk
 replace h2:=h2.nx kk
 replace EX:=EX.nx kk
 clear kk hw1 hg2 hg3
 go_enter Tryz.func204,Tryz.ntmps204
 go_upto_region 2 with fail
 rw [← Hw1.out,← Hg3.out,← Hg2.out]
 clear Hw1 Hg3 Hg2
 have p1:=B2.cell 1 _ rfl
 have p2:=B2.cell 2 _ rfl
 have p3:=B2.cell 3 _ rfl
 have p4:=B2.cell 4 _ rfl
 have q0:=B3.cell 0 _ rfl
 have S1:=lH h1
 have S2:=lH h2
 replace B2:=lH B2
 replace B3:=lH B3
 clear h1 h2
 generalize hc1:(p.left==id)=b1 at CN
 generalize hc2:(p.right==id)=b2 at CN
 cases b1 with
 | true =>
  go_wp2_with fail
  go_ret
  exact ⟨by rw [CN.out];rfl,EX⟩
 | false =>
  cases b2 with
  | true =>
   go_wp2_with fail
   go_ret
   exact ⟨by rw [CN.out];rfl,EX⟩
  | false =>
   go_wp2_with fail
   (with_reducible refine (contains_i _ _ _ _ id _ S1.out hn1).mono ?_)
   rintro e w2 ⟨rfl,kk⟩
   replace EX:=EX.nx kk
   generalize hc3:p.known.contains id=b3 at CN
   have p4:=(B2.out.nx kk).cell 4 _ rfl
   have S2:=lH (S2.out.nx kk)
   have B3:=lH (B3.out.nx kk)
   clear kk p1 p2 p3 q0
   cases b3 with
   | true =>
    go_wp2_with fail
    go_ret
    exact ⟨by rw [CN.out];rfl,EX⟩
   | false =>
    go_wp2_with fail
    (with_reducible refine (contf_nr g3 id _ _ _ _ _ S2.out hn2 B3.out).mono ?_)
    rintro e w3 ⟨rfl,kk⟩
    replace EX:=EX.nx kk
    clear kk
    generalize hc4:(p.near.flatMap nums4).contains id=b4 at CN
    have CN:Hid ((numsP p).contains id=b4):=lH (by rw [CN.out];rfl)
    clear p4
    go_wp2_with fail
    go_ret
    exact ⟨by rw [CN.out];rfl,EX⟩
set_option maxRecDepth 100000 in
set_option maxHeartbeats 4000000 in
theorem refs_p (a:Option Addr) (n c:Nat) (N:List Nd) (p:Pr) (a1:Option Addr) (n1 c1:Nat) (a2:Option Addr) (n2 c2:Nat) (w:World) (h:Sl 3 encN w a n N) (hn:n≤1000) (hc:n≤c) (hm:c≤maxLen) (h1:Sl 1 encI w a1 n1 p.known) (h2:Sl 4 encNr w a2 n2 p.near) (hn1:n1≤4000000000000000000) (hn2:n2≤4000000000000000000) :
  Calls Tryz.prog 154 #[.slice a n c,.agg #[.int .i64 p.id,.slice a1 n1 c1,.int .i64 p.left,.int .i64 p.right,.slice a2 n2 c2]] w (OiPost (refsN N p) w):=by
 have HL:=lH h.len
 have EX:=Ex.refl w
 have B3:=Blk.new w [.int .i64 p.id,.slice a1 n1 c1,.int .i64 p.left,.int .i64 p.right,.slice a2 n2 c2] 150
 have kk:=Ex.new w (.cells #[.int .i64 p.id,.slice a1 n1 c1,.int .i64 p.left,.int .i64 p.right,.slice a2 n2 c2] 150)
 obtain ⟨w1,hw1⟩:∃ w1,w1=w.alloc (.cells #[.int .i64 p.id,.slice a1 n1 c1,.int .i64 p.left,.int .i64 p.right,.slice a2 n2 c2] 150):=⟨_,rfl⟩
 obtain ⟨g3,hg3⟩:∃ g3,g3=w.heap.size:=⟨_,rfl⟩
 replace B3:Blk w1 g3 [.int .i64 p.id,.slice a1 n1 c1,.int .i64 p.left,.int .i64 p.right,.slice a2 n2 c2] 150:=by rw [hw1,hg3];exact B3
 rw [← hw1] at kk
 have Hw1:=lH hw1
 have Hg3:=lH hg3
 replace h:=h.nx kk
 replace h1:=h1.nx kk
 replace h2:=h2.nx kk
 replace EX:=EX.nx kk
 clear kk hw1 hg3
 go_enter Tryz.func154,Tryz.ntmps154
 go_upto_region 1 with fail
 rw [← Hg3.out,← Hw1.out]
 clear Hg3 Hw1
 go_wp2_with fail
 (with_reducible refine (check_p _ _ _ _ _ h (by omega) hc hm).mono ?_)
 rintro e w2 ⟨rfl,kk⟩
 replace h:=h.nx kk
 replace h1:=h1.nx kk
 replace h2:=h2.nx kk
 replace EX:=EX.nx kk
 replace B3:=B3.nx kk
 clear kk
 by_cases hck:checkN N=0
 case neg =>
  have d1:(checkN N != 0)=true:=by simpa using hck
  have E0:Hid (refsN N p=[]):=lH (by unfold refsN;rw [if_neg hck])
  clear h h1 h2 hck B3
  go_wp2_with fail
  go_ret
  exact ⟨_,rfl,by rw [E0.out];exact OwnL.nil _ _ _ _ _,EX⟩
 have d1:(checkN N != 0)=false:=by simpa using hck
 have HC:=lH hck
 clear hck
 go_wp2_with fail
 (with_reducible refine (sort_p _ _ _ _ _ h hn).mono ?_)
 rintro e w3 ⟨v,S,rfl,OS,⟨hp,hsrt⟩,kk⟩
 replace h1:=h1.nx kk
 replace h2:=h2.nx kk
 replace EX:=EX.nx kk
 replace B3:=B3.nx kk
 clear kk
 have hSe:S=sortN N:=sortN_unique (check_keys HC.out) hp hsrt
 subst hSe
 obtain ⟨a3,c3,rfl,S3,_,_⟩:=sorted_own HC.out OS
 rw [HL.out] at S3 ⊢
 have ES:Hid (refsN N p=((sortN N).filter (ordP (numsP p) p.id)).map Nd.id):=lH (by unfold refsN;rw [if_pos HC.out];rfl)
 generalize sortN N=S at S3 ES
 have HSL:=lH S3.len
 replace S3:=lH S3
 have S1:=lH h1
 have S2:=lH h2
 have K1:=lH EX
 have hz1:=EX.size
 replace B3:=lH B3
 clear h h1 h2 OS EX hp hsrt
 go_wp2_with fail
 go_loopw [5,14] (fun o i wr=>OrdRel S (numsP p) p.id w3 o i wr) (fun _ i _=>n-(intOf i).toNat)
 case atStart=>exact ⟨0,by omega,rfl,OwnL.nil _ _ _ _ _,Ex.refl _⟩
 case round =>
  obtain ⟨j,hj,rfl,own,ki⟩:=hrel
  obtain ⟨wi,rfl⟩:∃ wi:World,wi=wr:=⟨_,rfl⟩
  by_cases hjm:j<n
  ·obtain ⟨x3,o3,y,rfl,hx3,hy,hc3⟩:=(S3.out.nx ki).at hjm
   have e0:wi.cell? ⟨x3,o3+j*3,none⟩=some (.int .i64 y.id):=hc3 0 _ rfl
   have e1:wi.cell? ⟨x3,o3+j*3+1,none⟩=some (.string y.key):=hc3 1 _ rfl
   have e2:wi.cell? ⟨x3,o3+j*3+1+1,none⟩=some (.int .u32 y.word):=by simpa [Nat.add_assoc] using hc3 2 _ rfl
   have SN:=lH (ord_snoc (l:=numsP p) (but:=p.id) hy)
   have hrl:(((S.take j).filter (ordP (numsP p) p.id)).map Nd.id).length≤1000:=by
    rw [List.length_map]
    have:=List.length_filter_le (ordP (numsP p) p.id) (S.take j)
    rw [List.length_take] at this
    omega
   generalize ((S.take j).filter (ordP (numsP p) p.id)).map Nd.id=row at own SN hrl
   have KI:=lH ki
   clear hy hc3 ki
   have B7:=Blk.new wi [.int .i64 y.id,.string y.key,.int .u32 y.word] 36
   have kk:=Ex.new wi (.cells #[.int .i64 y.id,.string y.key,.int .u32 y.word] 36)
   obtain ⟨w7,hw7⟩:∃ w7,w7=wi.alloc (.cells #[.int .i64 y.id,.string y.key,.int .u32 y.word] 36):=⟨_,rfl⟩
   obtain ⟨g7,hg7⟩:∃ g7,g7=wi.heap.size:=⟨_,rfl⟩
   replace B7:Blk w7 g7 [.int .i64 y.id,.string y.key,.int .u32 y.word] 36:=by rw [hw7,hg7];exact B7
   rw [← hw7] at kk
   have Hw7:=lH hw7
   have Hg7:=lH hg7
   replace own:=own.nx kk
   have K7:=lH (KI.out.nx kk)
   clear kk hw7 hg7
   have Q3:=B3.out.nx K7.out
   go_upto_region 7 with fail
   rw [← Hg7.out,← Hw7.out]
   clear Hg7 Hw7
   have q0:=B7.cell 0 _ rfl
   have p0:=Q3.cell 0 _ rfl
   clear e0 e1 e2
   by_cases hb:y.id=p.id
   ·have hq:(y.id != p.id)=false:=by simp [hb]
    have hq2:(y.id==p.id)=true:=by simp [hb]
    have PF:Hid (ordP (numsP p) p.id y=false):=lH (by unfold ordP;rw [hq2];rfl)
    have OWN:=lH own
    clear hb own hq2 B7 Q3
    go_wp2_with fail
    exact ⟨⟨j+1,by rw [HSL.out];omega,by go_num,by rw [SN.out,PF.out];simpa using OWN.out,K7.out⟩,by simp [intOf];omega⟩
   ·have hq:(y.id != p.id)=true:=by simpa using hb
    have hq2:(y.id==p.id)=false:=by simpa using hb
    have PB:Hid (ordP (numsP p) p.id y=(numsP p).contains y.id):=lH (by unfold ordP;rw [hq2];rfl)
    have p1:=Q3.cell 1 _ rfl
    have p2:=Q3.cell 2 _ rfl
    have p3:=Q3.cell 3 _ rfl
    have p4:=Q3.cell 4 _ rfl
    clear hb hq2 Q3
    go_wp2_with fail
    (with_reducible refine (names_p p _ _ _ _ _ _ y.id _ (S1.out.nx K7.out) (S2.out.nx K7.out) hn1 hn2).mono ?_)
    rintro e w5 ⟨rfl,kk⟩
    replace own:=own.nx kk
    replace B7:=B7.nx kk
    have K5:=lH (K7.out.nx kk)
    have zb5:=K5.out.size
    have q0:=B7.cell 0 _ rfl
    have OWN:=lH own
    clear kk p0 p1 p2 p3 p4 own B7
    generalize (numsP p).contains y.id=inl at PB ⊢
    generalize y.id=yi at SN q0 hq
    cases inl with
    | false =>
     clear q0 hq
     go_wp2_with fail
     exact ⟨⟨j+1,by rw [HSL.out];omega,by go_num,by rw [SN.out,PB.out];simpa using OWN.out,K5.out⟩,by simp [intOf];omega⟩
    | true =>
     have own5:=OWN.out
     have hl7:row.length≤1000000:=by omega
     clear hq
     go_wp2_with (at_builtin;(refine wpList_append_lit (enc:=encI) w5 rfl _ _ 22 rfl w3.heap.size 3 (.int .i64 0) 1 8 Tryz.underlying22 Tryz.infoI6 rfl (by omega) (by omega) _ _ own5 rfl (yi:Int) _ rfl rfl (by simp [encI,Value.oneCell']) _ (by simp) rfl hl7 zb5 _ ?_);intro v6 w6 own6 _ ch1 _)
     refine ⟨⟨j+1,by rw [HSL.out];omega,by go_num,by rw [SN.out,PB.out];exact own6,Chg.trans K5.out ch1⟩,by simp [intOf];omega⟩
  ·obtain rfl:j=n:=by have:=HSL.out;omega
   rw [List.take_of_length_le (by rw [HSL.out];exact Nat.le_refl _)] at own
   have own:=lH (own.base hz1)
   have KE:=lH (K1.out.nx ki)
   clear hj hjm ki
   go_wp2_with fail
   go_ret
   exact ⟨_,rfl,by rw [ES.out];exact own.out,KE.out⟩
end Go.Proofs.YthcholmhmcpooaaGreatDoor
