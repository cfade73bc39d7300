/- Texts for FlightStepsProof. -/
import Derived.Test.YtalmjklljofhbaaGreatDoorFlightStepsProofL22
import Derived.Test.YtalmjklljofhbaaGreatDoorFlightStepsProofL24
set_option linter.unusedSimpArgs false
set_option linter.unusedVariables false

namespace Go.Proofs.YtalmjklljofhbaaGreatDoor
open Go.RowKit Go.Maps
def PredI (g:Nat) (lb:Array Value) (id:Int) (w:World):Prop:=∀ (x:Pr) (h1 h2:Hdr) (w':World),Ex w w'→Calls Tryz.prog g (#[.agg #[.int .i64 x.id,h1.val,.int .i64 x.left,.int .i64 x.right,h2.val]]++lb) w' fun e w''=>e=.returned (.bool (x.id==id))∧Ex w' w''
def idxQ (id:Int) (P:List Pr):Int:=if P.findIdx (fun p=>p.id==id)<P.length then (P.findIdx (fun p=>p.id==id):Int) else -1
theorem idxQ_of {P:List Pr} {id:Int} {k:Nat} {y:Pr} (hy:P[k]?=some y) (he:y.id=id) (hno:∀ j z,j<k→P[j]?=some z→z.id≠id):idxQ id P=k:=by
 have hk:=(List.getElem?_eq_some_iff.1 hy)
 have hkl:=hk.1
 have h1:P.findIdx (fun p=>p.id==id)=k:=by
  rw [List.findIdx_eq hkl]
  refine ⟨by rw [hk.2];simpa using he,fun j hj=>?_⟩
  have:=hno j _ hj (List.getElem?_eq_getElem (by omega))
  simpa using this
 unfold idxQ
 rw [h1,if_pos hkl]
theorem idxQ_none {P:List Pr} {id:Int} (hno:∀ j z,j<P.length→P[j]?=some z→z.id≠id):idxQ id P = -1:=by
 unfold idxQ
 rw [if_neg]
 intro h
 have h1:=List.findIdx_getElem (w:=h)
 have h2:=hno _ _ h (List.getElem?_eq_getElem h)
 simp at h1
 exact h2 h1
theorem idxQ_cases (P:List Pr) (id:Int):(∃ (k:Nat) (y:Pr),idxQ id P=k∧k<P.length∧P[k]?=some y∧peerN P id=y∧y.id=id)∨(idxQ id P = -1∧peerN P id=⟨id,0,0,[],[]⟩):=by
 by_cases h:P.findIdx (fun p=>p.id==id)<P.length
 ·have h1:(P[P.findIdx (fun p=>p.id==id)]).id=id:=by simpa using List.findIdx_getElem (w:=h)
  have hno:∀ j z,j<P.findIdx (fun p=>p.id==id)→P[j]?=some z→z.id≠id:=fun j z hj hz=>by
   have:=List.not_of_lt_findIdx hj
   rw [List.getElem?_eq_getElem (by omega)] at hz
   cases hz
   simpa using this
  exact .inl ⟨_,_,by unfold idxQ;rw [if_pos h],h,List.getElem?_eq_getElem h,peerN_at (List.getElem?_eq_getElem h) h1 hno,h1⟩
 ·have hno:∀ j z,j<P.length→P[j]?=some z→z.id≠id:=fun j z hj hz=>by
   have:=List.not_of_lt_findIdx (p:=fun p:Pr=>p.id==id) (xs:=P) (i:=j) (by omega)
   rw [List.getElem?_eq_getElem (by omega)] at hz
   cases hz
   simpa using this
  exact .inr ⟨by unfold idxQ;rw [if_neg h],peerN_none hno⟩
set_option maxRecDepth 100000 in
set_option maxHeartbeats 2000000 in
theorem idxf_pr (g:Nat) (lb:Array Value) (id:Int) (eg:∀ args w,(callFunc g args).run Tryz.prog w=.ok (.enter g args) w) (a:Option Addr) (n c:Nat) (P:List Pr) (w:World) (h:PL w a n P) (hn:n≤4000000000000000000) (hp:PredI g lb id w) :
  Calls Tryz.prog 77 #[.slice a n c,.func (.func g) #[] lb] w fun e w'=>e=.returned (.int .i64 (idxQ id P))∧Ex w w':=by
 have HL:=lH h.len
 have HP:=lH hp
 have hs:=lH h
 clear h hp
 go_enter Tryz.func77,Tryz.ntmps77
 go_wp2
 go_loopw [8] (fun i wr=>PeRel P id n w i wr) (fun i _=>n-(intOf i).toNat)
 case atStart=>exact ⟨0,by omega,rfl,Ex.refl _,by intro j z h;omega⟩
 case round =>
  obtain ⟨k,hk,rfl,kw,hno⟩:=hrel
  have HNO:=lH hno
  clear hno
  obtain ⟨wo,rfl⟩:∃ wo:World,wo=wr:=⟨_,rfl⟩
  by_cases hlt:k<n
  ·obtain ⟨x3,o3,b1,m1,d1,b4,m4,d4,y,rfl,hx3,hy,e0,e1,e2,e3,e4,s1,s4⟩:=(hs.out.nx kw).rd hlt
   have HY:=lH hy
   have hc:=HP.out y (b1,m1,d1) (b4,m4,d4) wo kw
   have KW:=lH kw
   simp only [Hdr.val] at hc
   clear hy kw s1 s4
   go_wp2_with fail
   refine hc.mono ?_
   rintro e w2 ⟨rfl,k2⟩
   have K2:=lH (KW.out.nx k2)
   clear hc k2 e0 e1 e2 e3 e4
   by_cases hv:y.id=id
   ·have HI:Hid (idxQ id P=k):=lH (idxQ_of HY.out hv HNO.out)
    have hb:(y.id==id)=true:=by simpa using hv
    rw [hb]
    clear hv hb
    go_wp2_with fail
    go_ret
    exact ⟨by rw [HI.out];rfl,K2.out⟩
   ·have HV:=lH hv
    have hb:(y.id==id)=false:=by simpa using hv
    rw [hb]
    clear hv hb
    go_wp2_with fail
    refine ⟨⟨k+1,by omega,by go_num,K2.out,fun j z hj hz=>?_⟩,by simp [intOf];omega⟩
    rcases Nat.lt_or_ge j k with h | h
    ·exact HNO.out j z h hz
    ·obtain rfl:j=k:=by omega
     rw [Option.some.inj (hz.symm.trans HY.out)]
     exact HV.out
  ·obtain rfl:k=n:=by omega
   have HI:Hid (idxQ id P = -1):=lH (idxQ_none (fun j z hj hz=>HNO.out j z (by rw [← HL.out];exact hj) hz))
   have KW:=lH kw
   clear kw hk hlt
   go_wp2_with fail
   go_ret
   exact ⟨by rw [HI.out];rfl,KW.out⟩
set_option maxHeartbeats 1000000 in
theorem conn1_p (gx:Nat) (x:Nd) (w:World) (hx:Blk w gx [.int .i64 x.id,.string x.key,.int .u32 x.word] 49):PredI 146 #[.pointer (some ⟨gx,0,none⟩)] x.id w:=by
 intro p h1 h2 w' kk
 have q0:=(hx.nx kk).cell 0 _ rfl
 have hg:=(hx.nx kk).lt
 have hne:¬ gx=w'.heap.size:=by omega
 obtain ⟨a1,n1,c1⟩:=h1
 obtain ⟨a2,n2,c2⟩:=h2
 simp only [Hdr.val]
 clear hx kk
 go_enter Tryz.func146,Tryz.ntmps146
 go_wp2
 go_ret
 exact ⟨rfl,(Ex.refl _).alloc _⟩
theorem norm1_p (gx:Nat) (x:Nd) (w:World) (hx:Blk w gx [.int .i64 x.id,.string x.key,.int .u32 x.word] 49):PredI 132 #[.pointer (some ⟨gx,0,none⟩)] x.id w:=by
 intro p h1 h2 w' kk
 have q0:=(hx.nx kk).cell 0 _ rfl
 have hg:=(hx.nx kk).lt
 have hne:¬ gx=w'.heap.size:=by omega
 obtain ⟨a1,n1,c1⟩:=h1
 obtain ⟨a2,n2,c2⟩:=h2
 simp only [Hdr.val]
 clear hx kk
 go_enter Tryz.func132,Tryz.ntmps132
 go_wp2
 go_ret
 exact ⟨rfl,(Ex.refl _).alloc _⟩
def NoRel (S:List Nd) (P:List Pr) (w:World) (o i:Value) (wr:World):Prop :=
 ∃ (j:Nat) (qs:List PQ),j≤S.length∧i=.int .i64 j∧OwnPr w.heap.size wr o qs ((S.take j).map fun x=>peerN P x.id)∧Ex w wr
theorem no_snoc {S:List Nd} {P:List Pr} {j:Nat} {x:Nd} (hy:S[j]?=some x):((S.take (j+1)).map fun x=>peerN P x.id)=((S.take j).map fun x=>peerN P x.id)++[peerN P x.id]:=by
 rw [take_snocN S j x hy,List.map_append];rfl
set_option maxRecDepth 100000 in
set_option maxHeartbeats 8000000 in
theorem normal_p (a:Option Addr) (n c:Nat) (N:List Nd) (a2:Option Addr) (n2 c2:Nat) (P:List Pr) (w:World) (h:Sl 3 encN w a n N) (hn:n≤1000) (hc:n≤c) (hm:c≤maxLen) (h2:PL w a2 n2 P) (hn2:n2≤4000000000000000000) (hP:SmallP P) :
  Calls Tryz.prog 75 #[.slice a n c,.slice a2 n2 c2] w (PlPost (normalN N P) w):=by
 have HL:=lH h.len
 have HP:=lH hP
 clear hP
 have EG:Hid (∀ args w,(callFunc 132 args).run Tryz.prog w=.ok (.enter 132 args) w):=lH (enters_of Tryz.func132 (by kernel_rfl) rfl)
 have H2:=lH h2
 clear h2
 go_enter Tryz.func75,Tryz.ntmps75
 go_wp2_with fail
 (with_reducible refine (check_p _ _ _ _ _ h (by omega) hc hm).mono ?_)
 rintro e w0 ⟨rfl,kk⟩
 replace h:=h.nx kk
 have K0:=lH kk
 clear kk
 by_cases hck:checkN N=0
 case neg =>
  have d1:(checkN N != 0)=true:=by simpa using hck
  have E0:Hid (normalN N P=[]):=lH (by unfold normalN;rw [if_neg hck])
  clear h hck
  go_wp2_with fail
  go_ret
  exact ⟨_,[],rfl,by rw [E0.out];exact OwnP.nil _ _ _ _ _,K0.out⟩
 have d1:(checkN N != 0)=false:=by simpa using hck
 have E0:Hid (normalN N P=(sortN N).map fun x=>peerN P x.id):=lH (by unfold normalN;rw [if_pos hck])
 have HC:=lH hck
 clear hck
 go_wp2_with fail
 (with_reducible refine (sort_p _ _ _ _ _ h hn).mono ?_)
 rintro e w1 ⟨v,S,rfl,OS,⟨hp,hsrt⟩,kk⟩
 have hSe:S=sortN N:=sortN_unique (check_keys HC.out) hp hsrt
 subst hSe
 obtain ⟨a1,c1,rfl,S1,_,_⟩:=sorted_own HC.out OS
 rw [HL.out] at S1 ⊢
 have hSl:(sortN N).length=n:=by rw [S1.len]
 generalize sortN N=S at S1 hSl E0 ⊢
 have S1:=lH S1
 have K1:=lH (K0.out.nx kk)
 have HSL:=lH hSl
 have z01:=K1.out.size
 clear h OS kk hp hsrt hSl
 go_wp2_with fail
 go_loopw [5,16] (fun o i wr=>NoRel S P w1 o i wr) (fun _ i _=>n-(intOf i).toNat)
 case atStart=>exact ⟨0,[],by omega,rfl,OwnP.nil _ _ _ _ _,Ex.refl _⟩
 case round =>
  obtain ⟨j,qs,hj,rfl,own,ki⟩:=hrel
  rw [HSL.out] at hj
  obtain ⟨wi,rfl⟩:∃ wi:World,wi=wr:=⟨_,rfl⟩
  by_cases hjm:j<n
  ·obtain ⟨x3,o3,x,rfl,hx3,hy,hc3⟩:=(S1.out.nx ki).at hjm
   have e0:wi.cell? ⟨x3,o3+j*3,none⟩=some (.int .i64 x.id):=hc3 0 _ rfl
   have e1:wi.cell? ⟨x3,o3+j*3+1,none⟩=some (.string x.key):=hc3 1 _ rfl
   have e2:wi.cell? ⟨x3,o3+j*3+1+1,none⟩=some (.int .u32 x.word):=by simpa [Nat.add_assoc] using hc3 2 _ rfl
   have SN:=lH (no_snoc (P:=P) hy)
   have hql:qs.length=j:=by rw [own.2.1,List.length_map,List.length_take,HSL.out];omega
   have hwi:=ki.size
   have KI:=lH ki
   have OWN:=lH own
   clear hy own ki hc3
   have B7:=Blk.new wi [.int .i64 x.id,.string x.key,.int .u32 x.word] 49
   have kk:=Ex.new wi (.cells #[.int .i64 x.id,.string x.key,.int .u32 x.word] 49)
   obtain ⟨w4,hw4⟩:∃ w4,w4=wi.alloc (.cells #[.int .i64 x.id,.string x.key,.int .u32 x.word] 49):=⟨_,rfl⟩
   obtain ⟨g7,hg7⟩:∃ g7,g7=wi.heap.size:=⟨_,rfl⟩
   replace B7:Blk w4 g7 [.int .i64 x.id,.string x.key,.int .u32 x.word] 49:=by rw [hw4,hg7];exact B7
   rw [← hw4] at kk
   have Hw4:=lH hw4
   have Hg7:=lH hg7
   have zg7:wi.heap.size≤g7:=by omega
   have K4:=lH kk
   clear kk hw4 hg7
   go_upto_region 7 with fail
   rw [← Hg7.out,← Hw4.out]
   clear Hg7 Hw4
   have q0:=B7.cell 0 _ rfl
   clear e0 e1 e2
   have hz4:=K4.out.size
   have hl7:=B7.lt
   have B8:=Blk.new w4 [.int .i64 x.id,.slice none 0 0,.int .i64 0,.int .i64 0,.slice none 0 0] 36
   have kk:=Ex.new w4 (.cells #[.int .i64 x.id,.slice none 0 0,.int .i64 0,.int .i64 0,.slice none 0 0] 36)
   obtain ⟨w5,hw5⟩:∃ w5,w5=w4.alloc (.cells #[.int .i64 x.id,.slice none 0 0,.int .i64 0,.int .i64 0,.slice none 0 0] 36):=⟨_,rfl⟩
   obtain ⟨g8,hg8⟩:∃ g8,g8=w4.heap.size:=⟨_,rfl⟩
   replace B8:Blk w5 g8 [.int .i64 x.id,.slice none 0 0,.int .i64 0,.int .i64 0,.slice none 0 0] 36:=by rw [hw5,hg8];exact B8
   rw [← hw5] at kk
   have Hw5:=lH hw5
   have Hg8:=lH hg8
   replace B7:=B7.nx kk
   replace K4:=lH (K4.out.nx kk)
   have zg8:wi.heap.size≤g8:=by omega
   clear kk hw5 hg8
   go_upto_region 8 with fail
   rw [← Hg8.out,← Hw5.out]
   clear Hg8 Hw5
   clear q0
   have PI:=norm1_p g7 x w5 B7
   replace B8:=lH B8
   clear B7
   go_wp2_with fail
   (with_reducible refine (idxf_pr _ _ _ EG.out _ _ _ P _ (H2.out.nx (K1.out.nx (KI.out.nx K4.out))) hn2 PI).mono ?_)
   rintro e w6 ⟨rfl,kk⟩
   replace B8:=lH (B8.out.nx kk)
   replace K4:=lH (K4.out.nx kk)
   have HG8:=lH B8.out.lt
   clear kk PI
   rcases idxQ_cases P x.id with ⟨k,y,hq,hkl,hyk,hpy,-⟩ | ⟨hq,hpy⟩
   ·have hk2:k<n2:=by have:=H2.out.len;omega
    obtain ⟨x5,o5,b1,m1,d1,b4,m4,d4,y',rfl,hx5,hy',e0,e1,e2,e3,e4,s1,s4⟩:=(H2.out.nx (K1.out.nx KI.out)).rd hk2
    obtain rfl:y=y':=Option.some.inj (hyk.symm.trans hy')
    have HPY:=lH hpy
    have hyP:=HP.out y (List.mem_of_getElem? hyk)
    have hl1:m1≤17592186044416:=by have:=s1.len;omega
    have hl4:m4≤4398046511104:=by have:=s4.len;omega
    have S1y:=lH s1
    have S4y:=lH s4
    have c0:=Chg.cellv K4.out e0 hx5
    have c1:=Chg.cellv K4.out e1 hx5
    have c2:=Chg.cellv K4.out e2 hx5
    have c3:=Chg.cellv K4.out e3 hx5
    have c4:=Chg.cellv K4.out e4 hx5
    have f0:=B8.out.free 0
    have f1:=B8.out.free 1
    have f2:=B8.out.free 2
    have f3:=B8.out.free 3
    have f4:=B8.out.free 4
    have r0:=B8.out.cell 0 _ rfl
    have r1:=B8.out.cell 1 _ rfl
    have r2:=B8.out.cell 2 _ rfl
    have r3:=B8.out.cell 3 _ rfl
    have r4:=B8.out.cell 4 _ rfl
    have hk0:(0:Int)≤(k:Int):=by omega
    rw [hq]
    clear hq hkl hyk hpy hyP e0 e1 e2 e3 e4 s1 s4 hy' hx5
    go_upto_region 11 with fail
    have KB0:Exb g8 w6 (((((w6.setCell ⟨g8,0,none⟩ (.int .i64 y.id)).setCell ⟨g8,1,none⟩ (.slice b1 m1 d1)).setCell ⟨g8,2,none⟩ (.int .i64 y.left)).setCell ⟨g8,3,none⟩ (.int .i64 y.right)).setCell ⟨g8,4,none⟩ (.slice b4 m4 d4)) :=
     (((((Exb.refl g8 w6).setB (p:=⟨g8,0,none⟩) _ rfl).setB (p:=⟨g8,1,none⟩) _ rfl).setB (p:=⟨g8,2,none⟩) _ rfl).setB (p:=⟨g8,3,none⟩) _ rfl).setB (p:=⟨g8,4,none⟩) _ rfl
    have BS0:=((((B8.out.set 0 (.int .i64 y.id)).set 1 (.slice b1 m1 d1)).set 2 (.int .i64 y.left)).set 3 (.int .i64 y.right)).set 4 (.slice b4 m4 d4)
    obtain ⟨w7,hw7⟩:∃ w7,w7=(((((w6.setCell ⟨g8,0,none⟩ (.int .i64 y.id)).setCell ⟨g8,1,none⟩ (.slice b1 m1 d1)).setCell ⟨g8,2,none⟩ (.int .i64 y.left)).setCell ⟨g8,3,none⟩ (.int .i64 y.right)).setCell ⟨g8,4,none⟩ (.slice b4 m4 d4)):=⟨_,rfl⟩
    rw [← hw7] at KB0 BS0
    have BS:Blk w7 g8 [.int .i64 y.id,.slice b1 m1 d1,.int .i64 y.left,.int .i64 y.right,.slice b4 m4 d4] 36:=BS0
    have K8:=lH (Exl.nxb (b:=g8) (w:=wi) ⟨K4.out,zg8⟩ KB0).1
    rw [← hw7]
    have hg8l:=BS.lt
    have B8s:=lH BS
    have hz8:=K8.out.size
    clear hw7 KB0 BS0 BS c0 c1 c2 c3 c4 f0 f1 f2 f3 f4 r0 r1 r2 r3 r4 B8 K4
    refine wp_region_late_drew (S:=Ex w7) [7,8,9] (by kernel_rfl) ((Ex.refl w7).drew) (fun hHeld=>?_)
    refine tkL 0 (v:=?_) rfl (by kernel_rfl) (fun _ _ _ h=>h) (by rfl) ?y1 hHeld ?_
    case y1=>intro wq hSw;go_simp<;>rfl
    refine tkL 1 (v:=?_) rfl (by kernel_rfl) (fun _ _ _ h=>h) (by rfl) ?y4 hHeld ?_
    case y4=>intro wq hSw;(have cq:=(B8s.out.nx hSw).cell 1 _ rfl;go_simp)<;>rfl
    refine tkL 3 (v:=?_) rfl (by kernel_rfl) (fun _ _ _ h=>h) (by rfl) ?y7 hHeld ?_
    case y7=>intro wq hSw;go_simp<;>rfl
    refine tkL 4 (v:=?_) rfl (by kernel_rfl) (fun _ _ _ h=>h) (by rfl) ?y10 hHeld ?_
    case y10=>intro wq hSw;(have cq:=(B8s.out.nx hSw).cell 4 _ rfl;go_simp)<;>rfl
    refine rL 2 (by kernel_rfl) rfl fun K hK=>?_
    go_simp
    (with_reducible refine (clone_i _ _ _ _ _ ((S1y.out.nx K8.out).nx hHeld) hl1).mono ?_)
    rintro e wc ⟨vc,rfl,own2,kk⟩
    (try replace own5:=own5.nx kk)
    obtain ⟨A2,C2,rfl,_,_,_,_⟩:=own2.slf (fun _=>rfl)
    replace own2:=own2.base hHeld.size
    replace hHeld:=hHeld.nx kk
    clear kk
    have BQ:=B8s.out.nx hHeld
    have KZ:=hHeld.b g8
    refine hK.out _ _ (hHeld) (fun hHeld=>?_)
    clear hK K
    refine tkL 6 (v:=?_) rfl (by kernel_rfl) (fun _ _ _ h=>h) (by rfl) ?y28 hHeld ?_
    case y28=>intro wq hSw;go_simp<;>rfl
    refine rL 5 (by kernel_rfl) rfl fun K hK=>?_
    go_simp
    (with_reducible refine (clone_nr _ _ _ _ _ ((S4y.out.nx K8.out).nx hHeld) hl4).mono ?_)
    rintro e wc ⟨vc,rfl,own5,kk⟩
    (try replace own2:=own2.nx kk)
    obtain ⟨A5,C5,rfl,_,_,_,_⟩:=own5.slf (fun _=>rfl)
    replace own5:=own5.base hHeld.size
    replace hHeld:=hHeld.nx kk
    clear kk
    have BQ:=B8s.out.nx hHeld
    have KZ:=hHeld.b g8
    refine hK.out _ _ (hHeld) (fun hHeld=>?_)
    clear hK K
    refine rLL 7 (by kernel_rfl) rfl (by rfl) fun K hK=>?_
    have cq:=BQ.cell 1 _ rfl
    have fq:=BQ.free 1
    go_simp
    clear cq fq
    replace BQ:=BQ.set 1 (.slice A2 y.known.length C2)
    replace own2:=own2.nxb hg8l ((Exb.refl g8 _).setB (p:=⟨g8,1,none⟩) (.slice A2 y.known.length C2) rfl)
    replace own5:=own5.nxb hg8l ((Exb.refl g8 _).setB (p:=⟨g8,1,none⟩) (.slice A2 y.known.length C2) rfl)
    replace KZ:=KZ.setB (p:=⟨g8,1,none⟩) (.slice A2 y.known.length C2) rfl
    refine hK.out _ _ ?_
    clear hK K
    refine rLL 8 (by kernel_rfl) rfl (by rfl) fun K hK=>?_
    go_simp
    refine hK.out _ _ ?_
    clear hK K
    refine rLL 9 (by kernel_rfl) rfl (by rfl) fun K hK=>?_
    have cq:=BQ.cell 4 _ rfl
    have fq:=BQ.free 4
    go_simp
    clear cq fq
    replace BQ:=BQ.set 4 (.slice A5 y.near.length C5)
    replace own2:=own2.nxb hg8l ((Exb.refl g8 _).setB (p:=⟨g8,4,none⟩) (.slice A5 y.near.length C5) rfl)
    replace own5:=own5.nxb hg8l ((Exb.refl g8 _).setB (p:=⟨g8,4,none⟩) (.slice A5 y.near.length C5) rfl)
    replace KZ:=KZ.setB (p:=⟨g8,4,none⟩) (.slice A5 y.near.length C5) rfl
    refine hK.out _ _ ?_
    clear hK K
    refine wpAnyL_done (by kernel_rfl) ?_ _
    obtain ⟨wz,hwz⟩:∃ wz,wz=(wc.setCell ⟨g8,1,none⟩ (.slice A2 y.known.length C2)).setCell ⟨g8,4,none⟩ (.slice A5 y.near.length C5):=⟨_,rfl⟩
    rw [← hwz] at BQ own2 own5 KZ ⊢
    clear hwz
    have BF:Blk wz g8 [.int .i64 y.id,.slice A2 y.known.length C2,.int .i64 y.left,.int .i64 y.right,.slice A5 y.near.length C5] 36:=BQ
    have p0:=BF.cell 0 _ rfl
    have p1:=BF.cell 1 _ rfl
    have p2:=BF.cell 2 _ rfl
    have p3:=BF.cell 3 _ rfl
    have p4:=BF.cell 4 _ rfl
    have KW:=lH (Exl.nxb (b:=g8) (w:=wi) ⟨K8.out,zg8⟩ KZ).1
    have OP:=lH (OWN.out.nx KW.out)
    have zw:=KW.out.size
    replace own2:=lH (own2.base hz8)
    replace own5:=lH (own5.base hz8)
    have hw3:w1.heap.size≤wi.heap.size:=hwi
    have KN:=KW.out.nx (Ex.new _ (.cells #[.int .i64 y.id,.slice A2 y.known.length C2,.int .i64 y.left,.int .i64 y.right,.slice A5 y.near.length C5] 36))
    have zn:=Nat.le_trans hw3 KN.size
    clear BQ BF KZ hHeld
    go_wp2_with (at_builtin;(refine wpList_append_W (enc:=encQ) _ rfl _ _ 24 rfl w1.heap.size 36 (.agg #[.int .i64 0,.slice none 0 0,.int .i64 0,.int .i64 0,.slice none 0 0]) 5 72 Tryz.underlying24 Tryz.infoPr rfl (by omega) (by omega) _ qs (OP.out.nx (Ex.new _ _)).row rfl _ 1 1 [(y.nums,(A2,y.known.length,C2),(A5,y.near.length,C5))] (Sl.lit _ rfl rfl encQ_len rfl) encQ_len encQ_one rfl (by omega) (by omega) zn ?_);intro v9 w9 own9 ch0 ch1 _)
    have RR:=OWN.out.app (by decide) (by decide) hw3 KN (own2.out.nx (Ex.new _ _)) (own5.out.nx (Ex.new _ _)) own9 ch0
    exact ⟨⟨j+1,_,by rw [HSL.out];omega,by go_num,by rw [SN.out,HPY.out];exact RR,Chg.trans (KI.out.nx KN) ch1⟩,by simp [intOf];omega⟩
   ·have HPY:=lH hpy
    have hw3:w1.heap.size≤wi.heap.size:=hwi
    have r0:=B8.out.cell 0 _ rfl
    have r1:=B8.out.cell 1 _ rfl
    have r2:=B8.out.cell 2 _ rfl
    have r3:=B8.out.cell 3 _ rfl
    have r4:=B8.out.cell 4 _ rfl
    have KN:=K4.out.nx (Ex.new _ (.cells #[.int .i64 x.id,.slice none 0 0,.int .i64 0,.int .i64 0,.slice none 0 0] 36))
    have zn:=Nat.le_trans hw3 KN.size
    have OP:=lH (OWN.out.nx K4.out)
    rw [hq]
    clear hq hpy
    go_wp2_with (at_builtin;(refine wpList_append_W (enc:=encQ) _ rfl _ _ 24 rfl w1.heap.size 36 (.agg #[.int .i64 0,.slice none 0 0,.int .i64 0,.int .i64 0,.slice none 0 0]) 5 72 Tryz.underlying24 Tryz.infoPr rfl (by omega) (by omega) _ qs (OP.out.nx (Ex.new _ _)).row rfl _ 1 1 [((x.id,0,0),(none,0,0),(none,0,0))] (Sl.lit _ rfl rfl encQ_len rfl) encQ_len encQ_one rfl (by omega) (by omega) zn ?_);intro v9 w9 own9 ch0 ch1 _)
    have RR:=OWN.out.app (p:=⟨x.id,0,0,[],[]⟩) (hk:=(none,0,0)) (hn:=(none,0,0)) (by decide) (by decide) hw3 KN (OwnL.nil _ _ _ _ _) (OwnL.nil _ _ _ _ _) own9 ch0
    exact ⟨⟨j+1,_,by rw [HSL.out];omega,by go_num,by rw [SN.out,HPY.out];exact RR,Chg.trans (KI.out.nx KN) ch1⟩,by simp [intOf];omega⟩
  ·obtain rfl:j=n:=by omega
   rw [List.take_of_length_le (by rw [HSL.out];exact Nat.le_refl _)] at own
   have OWN:=lH (own.lower z01)
   have KI:=lH (K1.out.nx ki)
   clear own ki hj hjm
   go_wp2_with fail
   go_ret
   exact ⟨_,qs,rfl,by rw [E0.out];exact OWN.out,KI.out⟩
theorem OwnL.ne_blk {α:Type} {sz e base g':Nat} {enc:α→List Value} {w:World} {v:Value} {l:List α} {cs:List Value} {ty:TypeId} (h:OwnL sz enc e base w v l) (B:Blk w g' cs ty) (hne:e≠ty) {g:Nat} (hg:v.ownBlock=some g):g≠g':=by
 rintro rfl
 obtain ⟨_,cur,hh⟩:=h.blk hg
 exact blk_kind hne hh B
theorem OwnL.put {α:Type} {sz e base g':Nat} {enc:α→List Value} {w w':World} {v:Value} {l:List α} {cs:List Value} {ty:TypeId} (h:OwnL sz enc e base w v l) (B:Blk w g' cs ty) (hne:e≠ty) (k:Exb g' w w'):OwnL sz enc e base w' v l :=
 h.chg k fun _ hx hv=>⟨hx,h.ne_blk B hne hv⟩
theorem Blk.low {w w':World} {g B:Nat} {cs:List Value} {ty:TypeId} (h:Blk w g cs ty) (hg:g<B) (k:Chg (· < B) w w'):Blk w' g cs ty:=(Chg.block k g hg).trans h
end Go.Proofs.YtalmjklljofhbaaGreatDoor
namespace Go.Proofs.YtalmjklljofhbaaGreatDoor
open Go.RowKit Go.Maps
def AccM (β lo hi bm:Nat) (w6 wr:World) (f:Int→Value):Prop :=
 Chg (fun k=>k<hi∧k≠bm∧(k<β∨lo≤k)) w6 wr∧hi≤wr.heap.size∧∀ v g,(f v).ownBlock=some g→g<lo∨hi≤g
section
variable {β lo hi bm:Nat} {w6 wr w9:World} {f:Int→Value}
theorem AccM.sl {α:Type} {sz n:Nat} {enc:α→List Value} {a:Option Addr} {l:List α} {w5 w6 wr:World} (h:AccM β w5.heap.size w6.heap.size bm w6 wr f) (hb:bm<w5.heap.size) (s:Slf sz enc w5 w6 a n l):Sl sz enc wr a n l :=
 (Rd.chg s h.1 (fun _ hk=>⟨hk.2,by omega,.inr hk.1⟩)).mono fun _ hk=>Nat.lt_of_lt_of_le hk.2 h.2.1
theorem AccM.blk {g:Nat} {cs:List Value} {ty:TypeId} (h:AccM β lo w6.heap.size bm w6 wr f) (B:Blk w6 g cs ty) (hg:lo≤g) (hb:bm≠g):Blk wr g cs ty :=
 (Chg.block h.1 g ⟨B.lt,fun h=>hb h.symm,.inr hg⟩).trans B
theorem AccM.exb {w2:World} (h:AccM β lo w6.heap.size bm w6 wr f) (k:Exb bm w2 w6) (hβ:w2.heap.size≤β):Exb bm w2 wr :=
 Chg.trans k (Chg.mono h.1 fun x hx=>⟨Nat.lt_of_lt_of_le hx.1 k.size,hx.2,.inl (Nat.lt_of_lt_of_le hx.1 hβ)⟩)
end
theorem own_hist {va v:Value} {c s:Nat} (h:va.ownBlock=v.ownBlock∨va.ownBlock=some c) (hs:s≤c):∀ g,va.ownBlock=some g→v.ownBlock=some g∨s≤g:=fun g hg=>by
 rcases h with h | h
 ·exact .inl (by rw [← h];exact hg)
 ·rw [h] at hg;cases hg;exact .inr hs
theorem hold_ex {bm g7:Nat} {wp cur w':World} (h:Chg (fun k=>k=bm∨k=g7) wp cur) (hb:bm<wp.heap.size) (hg:g7<wp.heap.size) (k:Ex cur w'):Chg (fun k=>k=bm∨k=g7) wp w' :=
 Chg.trans h (Chg.mono k fun x hx=>by have:=h.size;show x<cur.heap.size;omega)
theorem hold_row {bm g7:Nat} {wp cur w':World} {v:Value} (h:Chg (fun k=>k=bm∨k=g7) wp cur) (hb:bm<wp.heap.size) (hg:g7<wp.heap.size) (n:¬ v.ownBlock=some bm∧¬ v.ownBlock=some g7) (k:Chg (fun k=>k<cur.heap.size∧¬ v.ownBlock=some k) cur w'):Chg (fun k=>k=bm∨k=g7) wp w' :=
 Chg.trans h (Chg.mono k fun x hx=>by
  have:=h.size
  rcases hx with rfl | rfl
  ·exact ⟨by omega,n.1⟩
  ·exact ⟨by omega,n.2⟩)
theorem AccM.two {β lo hi bm:Nat} {w6 wp w1 w2 w3:World} {f:Int→Value} {x y:Int} {va vc:Value} (h:AccM β lo hi bm w6 wp f) (hb:∀ v g,(f v).ownBlock=some g→β≤g)
  (k1:Chg (fun k=>k<wp.heap.size∧¬ (f x).ownBlock=some k) wp w1) (la:∀ g,va.ownBlock=some g→(f x).ownBlock=some g∨wp.heap.size≤g)
  (k2:Chg (fun k=>k<w1.heap.size∧¬ (f y).ownBlock=some k) w1 w2) (lc:∀ g,vc.ownBlock=some g→(f y).ownBlock=some g∨w1.heap.size≤g) (k3:Exb bm w2 w3):AccM β lo hi bm w6 w3 (upd (upd f x va) y vc):=by
 have s1:=k1.size
 have s2:=k2.size
 have s3:=k3.size
 have hs:=h.2.1
 have key:∀ v k,k<hi∧k≠bm∧(k<β∨lo≤k)→¬ (f v).ownBlock=some k:=fun v k hk hv=>by
  have h1:=hb v k hv
  have h2:=h.2.2 v k hv
  omega
 refine ⟨h.1.trans ((k1.mono fun k hk=>⟨by omega,key x k hk⟩).trans ((k2.mono fun k hk=>⟨by omega,key y k hk⟩).trans (Chg.mono k3 fun k hk=>⟨by omega,hk.2.1⟩))),by omega,fun v g hv=>?_⟩
 unfold upd at hv
 by_cases h1:v=y
 ·rw [if_pos h1] at hv
  rcases lc g hv with h2 | h2
  ·exact h.2.2 y g h2
  ·omega
 ·rw [if_neg h1] at hv
  by_cases h3:v=x
  ·rw [if_pos h3] at hv
   rcases la g hv with h2 | h2
   ·exact h.2.2 x g h2
   ·omega
  ·rw [if_neg h3] at hv
   exact h.2.2 v g hv
def prsU (N:List Nd) (P:List Pr) (j:Nat):List (Int×Int):=(N.take j).flatMap fun x=>(refsN N (peerN P x.id)).map fun v=>(x.id,v)
theorem prsU_snoc {N:List Nd} {P:List Pr} {j:Nat} {x:Nd} (hx:N[j]?=some x):prsU N P (j+1)=prsU N P j++(refsN N (peerN P x.id)).map fun v=>(x.id,v):=by
 unfold prsU
 rw [take_snocN N j x hx,List.flatMap_append]
 simp
theorem prsU_all (N:List Nd) (P:List Pr):prsU N P N.length=pairsN N P:=by
 unfold prsU pairsN
 rw [List.take_of_length_le (Nat.le_refl _)]
theorem prsU_len {N:List Nd} (h0:checkN N=0) (P:List Pr) (j:Nat):(prsU N P j).length≤64*64:=by
 have h1:=pairs_len (P:=P) h0 (N.take j)
 have h2:=check_len h0
 have h3:(N.take j).length≤64:=by rw [List.length_take];omega
 unfold prsU
 exact Nat.le_trans h1 (Nat.mul_le_mul h3 h2)
theorem refs_empty {N:List Nd} (h0:checkN N=0) (id:Int):refsN N ⟨id,0,0,[],[]⟩=[]:=by
 unfold refsN
 rw [if_pos h0]
 unfold ordN
 rw [List.map_eq_nil_iff,List.filter_eq_nil_iff]
 intro x hx
 have:=(roster_ok h0 x ((sortN_mem N x).1 hx)).2.1
 simp only [numsP,Bool.and_eq_true,List.contains_iff_mem,List.flatMap_nil,List.append_nil,List.nil_append,List.mem_cons,List.not_mem_nil,or_false]
 omega
abbrev GpM (base:Nat) (w:World) (b n:Nat) (f:Int→Value) (J:Int→List Int):Prop:=GrpM Tryz.prog 3 3 base w b n f J
def CnRel (N:List Nd) (P:List Pr) (bm:Nat) (w:World) (i:Value) (wr:World):Prop :=
 ∃ (j n:Nat) (f:Int→Value),j≤N.length∧i=.int .i64 j∧GpM w.heap.size wr bm n f (jOf (prsU N P j))∧n=2*(prsU N P j).length∧Exb bm w wr
def CmRel (x:Int) (l:List Int) (E:List (Int×Int)) (bm lo:Nat) (w w6:World) (i:Value) (wr:World):Prop :=
 ∃ (j n:Nat) (f:Int→Value),j≤l.length∧i=.int .i64 j∧GpM w.heap.size wr bm n f (jOf (E++(l.take j).map fun v=>(x,v)))∧n=2*(E.length+j)∧AccM w.heap.size lo w6.heap.size bm w6 wr f
theorem Tryz.zeroS (w:World):(zeroValue 22).run Tryz.prog w=.ok nilS w:=by kernel_rfl
theorem litF {wp u:World} (hz:wp.heap.size≤u.heap.size) (x:Int):∃ g v,g=u.heap.size∧v=u.alloc (.cells #[.int .i64 x] 3)∧Slf 1 encI wp v (some ⟨g,0,none⟩) 1 [x]∧Ex u v :=
 ⟨_,_,rfl,rfl,Slf.lit [x] rfl hz rfl (fun _=>rfl) rfl,Ex.new _ _⟩
theorem Slf.row2 {α:Type} {sz n:Nat} {enc:α→List Value} {w0 w w':World} {a:Option Addr} {l:List α} {v:Value} (s:Slf sz enc w0 w a n l) (h:∀ g,v.ownBlock=some g→g<w0.heap.size) (k:Chg (fun k=>k<w.heap.size∧¬ v.ownBlock=some k) w w'):Slf sz enc w0 w' a n l :=
 (Rd.chg s k fun _ hk=>⟨hk.2,fun hv=>by have:=h _ hv;have:=hk.1;omega⟩).mono fun _ hk=>⟨hk.1,Nat.lt_of_lt_of_le hk.2 k.size⟩
theorem Slf.row {α β:Type} {sz n sz' e base:Nat} {enc:α→List Value} {enc':β→List Value} {w0 w w':World} {a:Option Addr} {l:List α} {v:Value} {l':List β} (s:Slf sz enc w0 w a n l) (h:OwnL sz' enc' e base w0 v l') (k:Chg (fun k=>k<w.heap.size∧¬ v.ownBlock=some k) w w'):Slf sz enc w0 w' a n l :=
 (Rd.chg s k fun _ hk=>⟨hk.2,fun hv=>by have:=(h.lt _ hv).2;have:=hk.1;omega⟩).mono fun _ hk=>⟨hk.1,Nat.lt_of_lt_of_le hk.2 k.size⟩
theorem sumJ_le {J:Int→List Int} (hJ:∀ u,(J u).length≤10000) (L:List Nd):(L.map fun x=>(J x.id).length).sum≤L.length*10000:=by
 induction L with
 | nil=>simp
 | cons x L ih =>
  have:=hJ x.id
  rw [List.map_cons,List.sum_cons,List.length_cons]
  omega
theorem todo_le {N:List Nd} {J:Int→List Int} (hN:N.length≤64) (hJ:∀ u,(J u).length≤10000) (M T:List Int):todoN N J M T≤T.length+640000:=by
 have h1:=sumJ_le hJ (N.filter fun x=>!(M.contains x.id))
 have h2:=List.length_filter_le (fun x:Nd=>!(M.contains x.id)) N
 unfold todoN
 omega
theorem todo_len (N:List Nd) (J:Int→List Int) (M T:List Int):T.length≤todoN N J M T:=by unfold todoN;omega
theorem todo_old (N:List Nd) (J:Int→List Int) (M T:List Int) (v:Int):todoN N J M T+1=todoN N J M (v::T):=by unfold todoN;rw [List.length_cons];omega
theorem QuL.no {e:TypeId} {base:Nat} {w:World} {v:Value} (h:QuL e base w v []):∃ a c,v=.slice a 0 c:=by
 rcases h with ⟨rfl,_⟩ | ⟨g,o,cap,cur,rfl,_⟩
 ·exact ⟨none,0,rfl⟩
 ·exact ⟨_,cap,rfl⟩
theorem QuL.base {e:TypeId} {base base':Nat} {w:World} {v:Value} {l:List Int} (h:QuL e base w v l) (hb:base'≤base):QuL e base' w v l:=by
 rcases h with h | ⟨g,o,cap,cur,h1,h2,h3⟩
 ·exact .inl h
 ·exact .inr ⟨g,o,cap,cur,h1,Nat.le_trans hb h2,h3⟩
theorem OwnL.rdz {α:Type} {sz e base:Nat} {enc:α→List Value} {w:World} {v:Value} {l:List α} (h:OwnL sz enc e base w v l) (hsz:∀ y,(enc y).length=sz) :
  ∃ a cap,v=.slice a l.length cap∧Rd sz enc (fun k=>base≤k∧k<w.heap.size) w a l.length l∧(a=none→cap=0):=by
 obtain ⟨a,cap,e1,r,_⟩:=h.rd hsz
 refine ⟨a,cap,e1,r,fun h0=>?_⟩
 subst h0
 rcases h.2 with ⟨e2,hn⟩ | ⟨g,cap',cur,e2,_⟩
 ·rw [e1] at e2
  injection e2
 ·rw [e1] at e2
  simp at e2
theorem wpList_append_hap {P:Program} {ops:Array Oper} {rest:List Oper} {o:Oper} {a:Act} {Q:Exit→Act→World→Prop} {w:World} (hgd:o.guard=none) (s x:Operand) (t:TypeId)
  (ho:o.op=.call { callee:=.builtin .append,args:=#[s,x],argTypes:=#[t,t] }) {v v':Value} {A:Option Addr} {n c:Nat} {w':World} (hap:(Builtin.append_ #[t,t] o.type #[v,.slice A n c]).run P w=.ok v' w')
  (hs:a.eval s=v) (hx:a.eval x=.slice A n c) (h:wpList P ops Q rest (a.put o.dst v') w'):wpList P ops Q (o::rest) a w :=
 wpList_plain hgd fun K hK=>by
  unfold Oper.wp execOp
  simp only [ho,resolve,invoke,builtin,Sem.run_bind,Sem.run_pure,Result.andThen_ok,List.map_toArray,List.map_cons,List.map_nil,hs,hx,hap]
  exact hK _ _ h
abbrev SetB (w:World) (b:Nat) (S:List Int):Prop:=SetM Tryz.prog 3 4 w b S
def startN (N:List Nd):List Int:=match N with | []=>[] | s::_=>[s.id]
theorem startN_at {N:List Nd} {x:Nd} (h:N[0]?=some x):startN N=[x.id]:=by
 cases N with
 | nil=>cases h
 | cons y N=>simp at h;rw [h];rfl
theorem startN_bfs (N:List Nd) (P:List Pr) (J:Int→List Int):Bfs N P J [] (startN N):=bfs_start
theorem startN_len (N:List Nd):(startN N).length≤1:=by
 cases N with
 | nil=>exact Nat.zero_le _
 | cons y N=>exact Nat.le_refl _
def CqRel (N:List Nd) (bs:Nat) (w6:World) (o:Value) (wr:World):Prop :=
 QuL 3 (bs+1) wr o (startN N)∧Ex w6 wr
def CbRel (N:List Nd) (P:List Pr) (J:Int→List Int) (bs:Nat) (wi:World) (k:Nat) (o:Value) (wr:World):Prop :=
 ∃ M T,Bfs N P J M T∧SetB wr bs M∧QuL 3 (bs+1) wr o T∧Ex wi wr∧k=todoN N J M T∧k≤700000
set_option maxRecDepth 100000 in
set_option maxHeartbeats 16000000 in
theorem connected_p (a:Option Addr) (n c:Nat) (N:List Nd) (a2:Option Addr) (n2 c2:Nat) (P:List Pr) (w:World) (h:Sl 3 encN w a n N) (hn:n≤1000) (hc:n≤c) (hm:c≤maxLen) (h2:PL w a2 n2 P) (hn2:n2≤4000000000000000000) (hP:∀ p∈P,p.known.length≤4000000000000000000∧p.near.length≤4000000000000000000) :
  Calls Tryz.prog 101 #[.slice a n c,.slice a2 n2 c2] w fun e w'=>e=.returned (.bool (connB N P))∧Ex w w':=by
 have HL:=lH h.len
 have HP:=lH hP
 have H2:=lH h2
 have EX:=Ex.refl w
 clear hP h2
 go_enter Tryz.func101,Tryz.ntmps101
 go_wp2_with fail
 (with_reducible refine (check_p _ _ _ _ _ h (by omega) hc hm).mono ?_)
 rintro e w1 ⟨rfl,kk⟩
 replace h:=h.nx kk
 replace EX:=EX.nx kk
 clear kk
 by_cases hck:checkN N=0
 case neg =>
  have d1:(checkN N != 0)=true:=by simpa using hck
  have E0:Hid (connB N P=false):=lH (by unfold connB;rw [show (checkN N==0)=false by simpa using hck];rfl)
  clear h hck
  go_wp2_with fail
  go_ret
  exact ⟨by rw [E0.out];rfl,EX⟩
 have d1:(checkN N != 0)=false:=by simpa using hck
 have HC:=lH hck
 have hn64:n≤64:=by have:=check_len hck;have:=HL.out;omega
 have HI:Hid (∀ x∈N,I64 x.id):=lH (fun x hx=>(roster_ok HC.out x hx).1.1)
 clear hck
 have G4:=GrpM.made w1 Tryz.prog 3 3
 have kk:=Ex.new w1 (.map #[] 0)
 obtain ⟨w4,hw4⟩:∃ w4,w4=w1.alloc (.map #[] 0):=⟨_,rfl⟩
 obtain ⟨bm,hbm⟩:∃ bm,bm=w1.heap.size:=⟨_,rfl⟩
 have hsz4:w4.heap.size=bm+1:=by rw [hw4,hbm];simp
 replace G4:GpM w4.heap.size w4 bm 0 (fun _=>nilS) (fun _=>[]):=by rw [hsz4,hw4,hbm];exact G4
 rw [← hw4] at kk
 have Hw4:=lH hw4
 have Hbm:=lH hbm
 have hwb:w.heap.size≤bm:=by have:=EX.size;omega
 have HS:=lH (h.slb (show w1.heap.size≤bm by omega))
 replace HS:=lH (HS.out.nxb (kk.b bm))
 have EX1:=lH (EX.nx kk)
 have HPL:=lH ((H2.out.plb hwb).nxb (EX1.out.b bm))
 clear kk hw4 hbm h
 have hmm:=@run_makeMap Tryz.prog
 go_upto_region 4 with fail
 rw [← Hbm.out,← Hw4.out]
 clear Hbm Hw4
 clear hmm
 have hbm4:bm<w4.heap.size:=by omega
 replace hsz4:=lH hsz4
 clear EX
 go_wp2_with fail
 go_loopw [20] (fun i wr=>CnRel N P bm w4 i wr) (fun i _=>n-(intOf i).toNat)
 case atStart=>exact ⟨0,0,fun _=>nilS,by omega,rfl,G4,rfl,Exb.refl _ _⟩
 case round =>
  clear G4
  obtain ⟨j,nn,f,hj,rfl,GP,hnn,kw⟩:=hrel
  obtain ⟨wi,rfl⟩:∃ wi:World,wi=wr:=⟨_,rfl⟩
  have hjn:j≤n:=by have:=HL.out;omega
  have HNN:=lH hnn
  clear hnn hj
  by_cases hjm:j<n
  ·obtain ⟨x3,o3,x,rfl,hx3,hy,hc3⟩:=(HS.out.nxb kw).sl.at hjm
   have e0:wi.cell? ⟨x3,o3+j*3,none⟩=some (.int .i64 x.id):=hc3 0 _ rfl
   have e1:wi.cell? ⟨x3,o3+j*3+1,none⟩=some (.string x.key):=hc3 1 _ rfl
   have e2:wi.cell? ⟨x3,o3+j*3+1+1,none⟩=some (.int .u32 x.word):=by simpa [Nat.add_assoc] using hc3 2 _ rfl
   have SN:=lH (prsU_snoc (P:=P) hy)
   have hxI:=lH (HI.out x (List.mem_of_getElem? hy))
   have KW:=lH kw
   have GW:=lH GP
   have hbi:bm<wi.heap.size:=Nat.lt_of_lt_of_le hbm4 kw.size
   have PE:=prsU_len HC.out P j
   clear hc3 hy kw GP
   have B7:=Blk.new wi [.int .i64 x.id,.string x.key,.int .u32 x.word] 49
   have kk:=Ex.new wi (.cells #[.int .i64 x.id,.string x.key,.int .u32 x.word] 49)
   obtain ⟨w7,hw7⟩:∃ w7,w7=wi.alloc (.cells #[.int .i64 x.id,.string x.key,.int .u32 x.word] 49):=⟨_,rfl⟩
   obtain ⟨g7,hg7⟩:∃ g7,g7=wi.heap.size:=⟨_,rfl⟩
   replace B7:Blk w7 g7 [.int .i64 x.id,.string x.key,.int .u32 x.word] 49:=by rw [hw7,hg7];exact B7
   rw [← hw7] at kk
   have Hw7:=lH hw7
   have Hg7:=lH hg7
   have zg7:wi.heap.size≤g7:=by omega
   have n7b:bm≠g7:=by omega
   have K7:=lH kk
   clear kk hw7 hg7
   go_upto_region 7 with fail
   rw [← Hg7.out,← Hw7.out]
   clear Hg7 Hw7
   have eg:∀ args w,(callFunc 146 args).run Tryz.prog w=.ok (.enter 146 args) w:=enters_of Tryz.func146 (by kernel_rfl) rfl
   have EG:=lH eg
   have HB:=lH B7
   clear eg B7 e0 e1 e2
   have PLW:=lH (((HPL.out.nxb KW.out).nxb (K7.out.b bm)).pl)
   go_wp2_with fail
   (with_reducible refine (idxf_pr 146 #[.pointer (some ⟨g7,0,none⟩)] x.id EG.out _ _ _ P w7 PLW.out hn2 (conn1_p g7 x w7 HB.out)).mono ?_)
   rintro e w8 ⟨rfl,k8⟩
   replace K7:=lH (K7.out.nx k8)
   replace PLW:=lH (PLW.out.nx k8)
   replace HB:=lH (HB.out.nx k8)
   clear k8
   rcases idxQ_cases P x.id with ⟨k,y,hi,hk,hyk,hpe,hyid⟩ | ⟨hi,hpe⟩
   case inr =>
    rw [hi]
    have RR:=lH (show CnRel N P bm w4 (.int .i64 ((j:Int)+1)) w8 from ⟨j+1,nn,f,by have:=HL.out;omega,by go_num,by rw [SN.out,hpe,refs_empty HC.out];simpa using GW.out.nx K7.out,by rw [SN.out,hpe,refs_empty HC.out];simpa using HNN.out,KW.out.nxb (K7.out.b bm)⟩)
    clear hi hpe
    go_wp2_with fail
    exact ⟨RR.out,by simp [intOf];omega⟩
   replace hyid:=lH hyid
   rw [hi]
   have hk2:k<n2:=by have:=PLW.out.len;omega
   obtain ⟨xp,op,b1,m1,d1',b4,m4,d4,y',rfl,hxp,hyk',p0,p1,p2,p3,p4,s1,s4⟩:=PLW.out.rd hk2
   obtain rfl:y=y':=Option.some.inj (hyk.symm.trans hyk')
   have hyP:=HP.out y (List.mem_of_getElem? hyk)
   have hl1:m1≤4000000000000000000:=by have:=s1.len;omega
   have hl4:m4≤4000000000000000000:=by have:=s4.len;omega
   have hk0:¬ (k:Int)<0:=by omega
   have hkn:(k:Int)<(n2:Int):=by omega
   have hpe:=lH hpe
   have S1:=lH s1
   have S4:=lH s4
   clear hi hyk hyk' s1 s4 hyP hk
   go_wp2_with fail
   (with_reducible refine (refs_p _ _ _ N y _ _ _ _ _ _ _ ((HS.out.nxb KW.out).nxb (K7.out.b bm)).sl hn hc hm S1.out S4.out hl1 hl4).mono ?_)
   rintro e w9 ⟨v9,rfl,o9,kk⟩
   obtain ⟨A9,C9,rfl,r9,_,_,_⟩:=o9.slf (fun _=>rfl)
   replace r9:=lH (r9.old K7.out.size)
   have hlr:=refs_len HC.out y
   have HRI:Hid (∀ v∈refsN N y,I64 v∧v≠x.id):=lH (fun v hv=>by
    obtain ⟨⟨z,hz,rfl⟩,h2,_⟩:=(mem_refs HC.out).1 hv
    exact ⟨HI.out z hz,by rw [hyid.out] at h2;exact h2⟩)
   have hL9:=r9.out.len
   have SN:Hid (prsU N P (j+1)=prsU N P j++(refsN N y).map fun v=>(x.id,v)):=lH (by rw [SN.out,hpe.out])
   replace HB:=lH (HB.out.nx kk)
   have K9:=lH (K7.out.nx kk)
   have A0:Hid (AccM w4.heap.size wi.heap.size w9.heap.size bm w9 w9 f):=lH ⟨Chg.refl _ _,Nat.le_refl _,fun v g hg=>.inl ((GW.out.row v).lt g hg).2⟩
   have G9:=lH (GW.out.nx K9.out)
   generalize refsN N y=L at r9 hlr HRI hL9 SN ⊢
   have hLl:L.length≤64:=by have:=HL.out;omega
   have hz9:=K9.out.size
   clear o9 kk p0 p1 p2 p3 p4 hyid hlr
   go_wp2_with fail
   go_loopw [36] (fun i wr=>CmRel x.id L (prsU N P j) bm wi.heap.size w4 w9 i wr) (fun i _=>L.length-(intOf i).toNat)
   case atStart=>exact ⟨0,nn,f,by omega,rfl,by simpa using G9.out,by simpa using HNN.out,A0.out⟩
   case round =>
    clear A0 G9 GW
    obtain ⟨i,m,f2,hi,rfl,GP,hm2,ac⟩:=hrel
    obtain ⟨wp,rfl⟩:∃ wp:World,wp=wr:=⟨_,rfl⟩
    by_cases hil:i<L.length
    ·obtain ⟨xr,or,id,rfl,hxr,hid,hcr⟩:=(ac.sl hbi r9.out).at (j:=i) hil
     have f0:wp.cell? ⟨xr,or+i,none⟩=some (.int .i64 id):=by simpa using hcr 0 _ rfl
     have LS:Hid ((L.take (i+1)).map (fun v=>(x.id,v))=(L.take i).map (fun v=>(x.id,v))++[(x.id,id)]):=lH (by rw [take_snocN L i id hid,List.map_append];rfl)
     obtain ⟨hidI,hne⟩:=HRI.out id (List.mem_of_getElem? hid)
     have BP:=lH (ac.blk HB.out (by omega) n7b)
     have GPH:=lH GP
     have AC:=lH ac
     have M2:=lH hm2
     have hm100:m<1000000:=by omega
     have zbp:bm<wp.heap.size:=GP.1.lt
     have zgp:g7<wp.heap.size:=BP.out.lt
     have NB:Hid (∀ v,¬ (f2 v).ownBlock=some bm∧¬ (f2 v).ownBlock=some g7):=lH (fun v=>⟨fun hv=>by have:=((GPH.out.row v).lt bm hv).1;omega,fun hv=>OwnL.ne_blk (GPH.out.row v) BP.out (by decide) hv rfl⟩)
     have JX:=lH (show ∀ u,(jOf (prsU N P j++(L.take i).map fun v=>(x.id,v)) u).length≤100000 from fun u=>by
      have hne:∀ q∈prsU N P j++(L.take i).map (fun v=>(x.id,v)),q.1≠q.2:=fun q hq=>by
       rcases List.mem_append.1 hq with h1 | h1
       ·refine pairs_ne HC.out (P:=P) (q:=q) ?_
        unfold prsU at h1
        unfold pairsN
        obtain ⟨z,hz,h2⟩:=List.mem_flatMap.1 h1
        exact List.mem_flatMap.2 ⟨z,List.mem_of_mem_take hz,h2⟩
       ·obtain ⟨v,hv,rfl⟩:=List.mem_map.1 h1
        exact fun h=>(HRI.out v (List.mem_of_mem_take hv)).2 h.symm
      have h1:=((jOf_law _ _ rfl hne) u).1
      rw [List.length_append,List.length_map,List.length_take] at h1
      omega)
     generalize hJ:jOf (prsU N P j++(L.take i).map fun v=>(x.id,v))=J at GP GPH JX
     have HJ:=lH hJ
     have wx1:=lH (wf_of hxI.out)
     have wx2:=lH (wf_of hidI)
     have hne2:id≠x.id:=hne
     have jlx:=JX.out x.id
     have jly:=JX.out id
     clear hcr hid ac hm2 hJ GP JX
     go_upto_region 12 with fail
     refine wp_region_late_drew (S:=Chg (fun k=>k=bm∨k=g7) wp) [19,21,22] (by kernel_rfl) ((Chg.refl _ wp).drew) (fun hHeld=>?_)
     obtain ⟨wd,hwdx⟩:∃ wd:World,wd=World.drew wp:=⟨_,rfl⟩
     rw [← hwdx] at hHeld ⊢
     have hDrew:Ex wp wd:=by rw [hwdx];exact (Ex.refl wp).drew
     clear hwdx
     refine tkL 0 (v:=?_) rfl (by kernel_rfl) (fun _ _ _ h=>h) (by rfl) ?y5 hHeld ?_
     case y5=>intro wq hSw;go_simp<;>rfl
     refine tkL 1 (v:=?_) rfl (by kernel_rfl) (fun _ _ _ h=>h) (by rfl) ?y8 hHeld ?_
     case y8=>intro wq hSw;go_simp<;>rfl
     refine tkL 2 (v:=?_) rfl (by kernel_rfl) (fun _ _ _ h=>h) (by rfl) ?y11 hHeld ?_
     case y11=>intro wq hSw;(have cq:=((show Blk wq g7 _ _ from (hSw.block g7 (.inr rfl)).trans BP.out).cell 0 _ rfl);go_simp)<;>rfl
     refine wpAnyL_takeP (i:=3) (oi:=⟨_,_,_,_,_,_⟩) (v:=?_) rfl (by kernel_rfl) (by kernel_rfl) (by kernel_rfl) (fun _ _ _ h=>h) (Or.inl ⟨by rfl,?y14⟩) ?_
     case y14=>intro wq hSw;go_simp<;>rfl
     refine wpAnyL_takeP (i:=4) (oi:=⟨_,_,_,_,_,_⟩) (v:=?_) rfl (by kernel_rfl) (by kernel_rfl) (by kernel_rfl) (fun _ _ _ h=>h) (Or.inl ⟨by rfl,?y17⟩) ?_
     case y17=>intro wq hSw;go_simp<;>rfl
     refine tkL 5 (v:=?_) rfl (by kernel_rfl) (fun _ _ _ h=>h) (by rfl) ?y20 hHeld ?_
     case y20=>intro wq hSw;go_simp<;>rfl
     refine tkL 6 (v:=?_) rfl (by kernel_rfl) (fun _ _ _ h=>h) (by rfl) ?y23 hHeld ?_
     case y23=>intro wq hSw;go_simp<;>rfl
     refine tkL 7 (v:=?_) rfl (by kernel_rfl) (fun _ _ _ h=>h) (by rfl) ?y26 hHeld ?_
     case y26=>intro wq hSw;(have cq:=((show Blk wq g7 _ _ from (hSw.block g7 (.inr rfl)).trans BP.out).cell 0 _ rfl);go_simp)<;>rfl
     refine tkL 8 (v:=?_) rfl (by kernel_rfl) (fun _ _ _ h=>h) (by rfl) ?y29 hHeld ?_
     case y29=>intro wq hSw;(have lk:=(RawM.same GPH.out.1 (hSw.block bm (.inl rfl))).get (t:=175) Tryz.underlying3 Tryz.underlying175 (Tryz.zeroS _) wx1.out;go_simp)<;>rfl
     refine tkL 9 (v:=?_) rfl (by kernel_rfl) (fun _ _ _ h=>h) (by rfl) ?y32 hHeld ?_
     case y32=>intro wq hSw;go_simp<;>rfl
     refine tkL 12 (v:=?_) rfl (by kernel_rfl) (fun _ _ _ h=>h) (by rfl) ?y35 hHeld ?_
     case y35=>intro wq hSw;go_simp<;>rfl
     refine tkL 13 (v:=?_) rfl (by kernel_rfl) (fun _ _ _ h=>h) (by rfl) ?y38 hHeld ?_
     case y38=>intro wq hSw;go_simp<;>rfl
     refine tkL 14 (v:=?_) rfl (by kernel_rfl) (fun _ _ _ h=>h) (by rfl) ?y41 hHeld ?_
     case y41=>intro wq hSw;(have lk:=(RawM.same GPH.out.1 (hSw.block bm (.inl rfl))).get (t:=175) Tryz.underlying3 Tryz.underlying175 (Tryz.zeroS _) wx2.out;go_simp)<;>rfl
     refine tkL 15 (v:=?_) rfl (by kernel_rfl) (fun _ _ _ h=>h) (by rfl) ?y44 hHeld ?_
     case y44=>intro wq hSw;go_simp<;>rfl
     refine tkL 16 (v:=?_) rfl (by kernel_rfl) (fun _ _ _ h=>h) (by rfl) ?y47 hHeld ?_
     case y47=>intro wq hSw;(have cq:=((show Blk wq g7 _ _ from (hSw.block g7 (.inr rfl)).trans BP.out).cell 0 _ rfl);go_simp)<;>rfl
     refine wpAnyL_ready (rs:=[10,17]) (by kernel_rfl) (by simp) ?_
     refine AllReadyL.cons (o:=⟨_,_,_,_,_,_⟩) rfl (fun K hK=>?_) ?_
     ·go_simp
      obtain ⟨g8,wq,hg8,hwq,SX,kk⟩:=litF hHeld.size id
      rw [← hg8,← hwq]
      clear hg8 hwq
      (try replace SY:=SY.nx kk)
      replace hDrew:=hDrew.nx kk
      replace hHeld:=hold_ex hHeld zbp zgp kk
      clear kk
      refine hK.out _ _ (hHeld) (fun hHeld=>?_)
      clear hK K
      refine wpAnyL_ready (rs:=[11,17]) (by kernel_rfl) (by simp) ?_
      refine AllReadyL.cons (o:=⟨_,_,_,_,_,_⟩) rfl (fun K hK=>?_) ?_
      ·rw [if_pos (by rfl)]
       have rx:=(GPH.out.row x.id).nx hDrew
       have zbase:=Nat.le_trans GPH.out.2.2.1 hDrew.size
       refine wp_append_rda (enc:=encI) _ (.tmp 48) (.tmp 50) 22 rfl w4.heap.size 3 (.int .i64 0) 1 8 Tryz.underlying22 Tryz.infoI6 rfl (by omega) (by omega) _ (J x.id) rx rfl _ _ 1 1 [id] SX (fun h=>by cases h) (fun _=>rfl) (by simp [encI,Value.oneCell']) rfl (by omega) (by omega) zbase ?_
       intro va w1 A ch0 ch1 hva
       have KA:Chg (fun k=>k<wp.heap.size∧¬ (f2 x.id).ownBlock=some k) wp w1:=Chg.trans (Chg.mono hDrew (fun k hk=>hk.1)) (Chg.mono ch0 (fun k hk=>⟨Nat.lt_of_lt_of_le hk.1 hDrew.size,hk.2⟩))
       have la:=own_hist hva hDrew.size
       (try replace SY:=SY.row2 (fun g hg=>((GPH.out.row x.id).lt g hg).2) ch0)
       have KE:=Ex.refl w1
       replace hHeld:=hold_row hHeld zbp zgp (NB.out x.id) ch0
       have zb1:=Nat.le_trans zbase ch0.size
       clear ch0 ch1 hva rx hDrew SX
       refine hK.out _ _ (hHeld) (fun hHeld=>?_)
       clear hK K
       refine rL 17 (by kernel_rfl) rfl fun K hK=>?_
       go_simp
       obtain ⟨g9,wq,hg9,hwq,SY,kk⟩:=litF hHeld.size x.id
       rw [← hg9,← hwq]
       clear hg9 hwq
       (try replace SX:=SX.nx kk)
       (first | replace hDrew:=hDrew.nx kk | replace KE:=KE.nx kk)
       replace hHeld:=hold_ex hHeld zbp zgp kk
       clear kk
       refine hK.out _ _ (hHeld) (fun hHeld=>?_)
       clear hK K
       refine rL 18 (by kernel_rfl) rfl fun K hK=>?_
       rw [if_pos (by rfl)]
       have ry:=((GPH.out.row id).chg KA (fun g hg hv=>⟨hg,fun hx=>GPH.out.2.2.2.2 id x.id g hne2 hv hx⟩)).nx KE
       have zb2:=Nat.le_trans zb1 KE.size
       refine wp_append_rda (enc:=encI) _ (.tmp 54) (.tmp 57) 22 rfl w4.heap.size 3 (.int .i64 0) 1 8 Tryz.underlying22 Tryz.infoI6 rfl (by omega) (by omega) _ (J id) ry rfl _ _ 1 1 [x.id] SY (fun h=>by cases h) (fun _=>rfl) (by simp [encI,Value.oneCell']) rfl (by omega) (by omega) zb2 ?_
       intro vc w2 C ch0 ch1 hvc
       have KC:Chg (fun k=>k<w1.heap.size∧¬ (f2 id).ownBlock=some k) w1 w2:=Chg.trans (Chg.mono KE (fun k hk=>hk.1)) (Chg.mono ch0 (fun k hk=>⟨Nat.lt_of_lt_of_le hk.1 KE.size,hk.2⟩))
       have lc:=own_hist hvc KE.size
       replace hHeld:=hold_row hHeld zbp zgp (NB.out id) ch0
       clear ch0 ch1 hvc ry SY KE
       refine hK.out _ _ (hHeld) (fun hHeld=>?_)
       clear hK K
       refine rLL 19 (by kernel_rfl) rfl (by rfl) fun K hK=>?_
       have R2:=RawM.same GPH.out.1 (hHeld.block bm (.inl rfl))
       obtain ⟨v0,st,we,hrun,k3,sz3,back⟩:=R2.entry (t:=175) Tryz.underlying3 Tryz.underlying175 (fun u=>Tryz.zeroS u) (by omega) wx1.out
       go_simp
       clear hrun sz3 R2
       refine hK.out _ _ ?_
       clear hK K
       refine wpAnyL_takeP (i:=20) (oi:=⟨_,_,_,_,_,_⟩) (v:=?_) rfl (by kernel_rfl) (by kernel_rfl) (by kernel_rfl) (fun _ _ _ h=>h) (Or.inl ⟨by rfl,?y116⟩) ?_
       case y116=>intro wq hSw;go_simp<;>rfl
       refine rLL 21 (by kernel_rfl) rfl (by rfl) fun K hK=>?_
       obtain ⟨wf,hrun2,R3,k4,sz4⟩:=back we va rfl
       simp only [goInt] at hrun2
       go_simp
       clear hrun2 sz4 back
       refine hK.out _ _ ?_
       clear hK K
       refine rLL 22 (by kernel_rfl) rfl (by rfl) fun K hK=>?_
       obtain ⟨wg,hrun3,R4,k5,sz5⟩:=R3.put (t:=175) Tryz.underlying3 Tryz.underlying175 (by omega) wx2.out vc
       go_simp
       clear hrun3 sz5 R3
       refine hK.out _ _ ?_
       clear hK K
       refine wpAnyL_done (by kernel_rfl) ?_ _
       have KF:=k3.nxb (k4.nxb k5)
       have GN:=GPH.out.two (x:=x.id) (y:=id) (fun h=>hne2 h.symm) A KA la C KC lc KF R4
       have AN:=AC.out.two (fun v g hg=>((GPH.out.row v).lt g hg).1) KA la KC lc KF
       have RR:=lH (show CmRel x.id L (prsU N P j) bm wi.heap.size w4 w9 (.int .i64 ((i:Int)+1)) wg from ⟨i+1,m+1+1,_,by omega,by go_num,by rw [LS.out,← List.append_assoc,jOf_snoc,HJ.out];exact GN,by rw [M2.out];omega,AN⟩)
       clear GN AN KF A C KA KC la lc R4 k3 k4 k5 hHeld
       go_wp2_with fail
       exact ⟨RR.out,by simp [intOf];omega⟩
      refine AllReadyL.cons (o:=⟨_,_,_,_,_,_⟩) rfl (fun K hK=>?_) AllReadyL.nil
      ·go_simp
       obtain ⟨g9,wq,hg9,hwq,SY,kk⟩:=litF hHeld.size x.id
       rw [← hg9,← hwq]
       clear hg9 hwq
       (try replace SX:=SX.nx kk)
       (first | replace hDrew:=hDrew.nx kk | replace KE:=KE.nx kk)
       replace hHeld:=hold_ex hHeld zbp zgp kk
       clear kk
       refine hK.out _ _ (hHeld) (fun hHeld=>?_)
       clear hK K
       refine rL 11 (by kernel_rfl) rfl fun K hK=>?_
       rw [if_pos (by rfl)]
       have rx:=(GPH.out.row x.id).nx hDrew
       have zbase:=Nat.le_trans GPH.out.2.2.1 hDrew.size
       refine wp_append_rda (enc:=encI) _ (.tmp 48) (.tmp 50) 22 rfl w4.heap.size 3 (.int .i64 0) 1 8 Tryz.underlying22 Tryz.infoI6 rfl (by omega) (by omega) _ (J x.id) rx rfl _ _ 1 1 [id] SX (fun h=>by cases h) (fun _=>rfl) (by simp [encI,Value.oneCell']) rfl (by omega) (by omega) zbase ?_
       intro va w1 A ch0 ch1 hva
       have KA:Chg (fun k=>k<wp.heap.size∧¬ (f2 x.id).ownBlock=some k) wp w1:=Chg.trans (Chg.mono hDrew (fun k hk=>hk.1)) (Chg.mono ch0 (fun k hk=>⟨Nat.lt_of_lt_of_le hk.1 hDrew.size,hk.2⟩))
       have la:=own_hist hva hDrew.size
       (try replace SY:=SY.row2 (fun g hg=>((GPH.out.row x.id).lt g hg).2) ch0)
       have KE:=Ex.refl w1
       replace hHeld:=hold_row hHeld zbp zgp (NB.out x.id) ch0
       have zb1:=Nat.le_trans zbase ch0.size
       clear ch0 ch1 hva rx hDrew SX
       refine hK.out _ _ (hHeld) (fun hHeld=>?_)
       clear hK K
       refine rL 18 (by kernel_rfl) rfl fun K hK=>?_
       rw [if_pos (by rfl)]
       have ry:=((GPH.out.row id).chg KA (fun g hg hv=>⟨hg,fun hx=>GPH.out.2.2.2.2 id x.id g hne2 hv hx⟩)).nx KE
       have zb2:=Nat.le_trans zb1 KE.size
       refine wp_append_rda (enc:=encI) _ (.tmp 54) (.tmp 57) 22 rfl w4.heap.size 3 (.int .i64 0) 1 8 Tryz.underlying22 Tryz.infoI6 rfl (by omega) (by omega) _ (J id) ry rfl _ _ 1 1 [x.id] SY (fun h=>by cases h) (fun _=>rfl) (by simp [encI,Value.oneCell']) rfl (by omega) (by omega) zb2 ?_
       intro vc w2 C ch0 ch1 hvc
       have KC:Chg (fun k=>k<w1.heap.size∧¬ (f2 id).ownBlock=some k) w1 w2:=Chg.trans (Chg.mono KE (fun k hk=>hk.1)) (Chg.mono ch0 (fun k hk=>⟨Nat.lt_of_lt_of_le hk.1 KE.size,hk.2⟩))
       have lc:=own_hist hvc KE.size
       replace hHeld:=hold_row hHeld zbp zgp (NB.out id) ch0
       clear ch0 ch1 hvc ry SY KE
       refine hK.out _ _ (hHeld) (fun hHeld=>?_)
       clear hK K
       refine rLL 19 (by kernel_rfl) rfl (by rfl) fun K hK=>?_
       have R2:=RawM.same GPH.out.1 (hHeld.block bm (.inl rfl))
       obtain ⟨v0,st,we,hrun,k3,sz3,back⟩:=R2.entry (t:=175) Tryz.underlying3 Tryz.underlying175 (fun u=>Tryz.zeroS u) (by omega) wx1.out
       go_simp
       clear hrun sz3 R2
       refine hK.out _ _ ?_
       clear hK K
       refine wpAnyL_takeP (i:=20) (oi:=⟨_,_,_,_,_,_⟩) (v:=?_) rfl (by kernel_rfl) (by kernel_rfl) (by kernel_rfl) (fun _ _ _ h=>h) (Or.inl ⟨by rfl,?y190⟩) ?_
       case y190=>intro wq hSw;go_simp<;>rfl
       refine rLL 21 (by kernel_rfl) rfl (by rfl) fun K hK=>?_
       obtain ⟨wf,hrun2,R3,k4,sz4⟩:=back we va rfl
       simp only [goInt] at hrun2
       go_simp
       clear hrun2 sz4 back
       refine hK.out _ _ ?_
       clear hK K
       refine rLL 22 (by kernel_rfl) rfl (by rfl) fun K hK=>?_
       obtain ⟨wg,hrun3,R4,k5,sz5⟩:=R3.put (t:=175) Tryz.underlying3 Tryz.underlying175 (by omega) wx2.out vc
       go_simp
       clear hrun3 sz5 R3
       refine hK.out _ _ ?_
       clear hK K
       refine wpAnyL_done (by kernel_rfl) ?_ _
       have KF:=k3.nxb (k4.nxb k5)
       have GN:=GPH.out.two (x:=x.id) (y:=id) (fun h=>hne2 h.symm) A KA la C KC lc KF R4
       have AN:=AC.out.two (fun v g hg=>((GPH.out.row v).lt g hg).1) KA la KC lc KF
       have RR:=lH (show CmRel x.id L (prsU N P j) bm wi.heap.size w4 w9 (.int .i64 ((i:Int)+1)) wg from ⟨i+1,m+1+1,_,by omega,by go_num,by rw [LS.out,← List.append_assoc,jOf_snoc,HJ.out];exact GN,by rw [M2.out];omega,AN⟩)
       clear GN AN KF A C KA KC la lc R4 k3 k4 k5 hHeld
       go_wp2_with fail
       exact ⟨RR.out,by simp [intOf];omega⟩
     refine AllReadyL.cons (o:=⟨_,_,_,_,_,_⟩) rfl (fun K hK=>?_) AllReadyL.nil
     ·go_simp
      obtain ⟨g9,wq,hg9,hwq,SY,kk⟩:=litF hHeld.size x.id
      rw [← hg9,← hwq]
      clear hg9 hwq
      (try replace SX:=SX.nx kk)
      (first | replace hDrew:=hDrew.nx kk | replace KE:=KE.nx kk)
      replace hHeld:=hold_ex hHeld zbp zgp kk
      clear kk
      refine hK.out _ _ (hHeld) (fun hHeld=>?_)
      clear hK K
      refine rL 10 (by kernel_rfl) rfl fun K hK=>?_
      go_simp
      obtain ⟨g8,wq,hg8,hwq,SX,kk⟩:=litF hHeld.size id
      rw [← hg8,← hwq]
      clear hg8 hwq
      (try replace SY:=SY.nx kk)
      replace hDrew:=hDrew.nx kk
      replace hHeld:=hold_ex hHeld zbp zgp kk
      clear kk
      refine hK.out _ _ (hHeld) (fun hHeld=>?_)
      clear hK K
      refine rL 11 (by kernel_rfl) rfl fun K hK=>?_
      rw [if_pos (by rfl)]
      have rx:=(GPH.out.row x.id).nx hDrew
      have zbase:=Nat.le_trans GPH.out.2.2.1 hDrew.size
      refine wp_append_rda (enc:=encI) _ (.tmp 48) (.tmp 50) 22 rfl w4.heap.size 3 (.int .i64 0) 1 8 Tryz.underlying22 Tryz.infoI6 rfl (by omega) (by omega) _ (J x.id) rx rfl _ _ 1 1 [id] SX (fun h=>by cases h) (fun _=>rfl) (by simp [encI,Value.oneCell']) rfl (by omega) (by omega) zbase ?_
      intro va w1 A ch0 ch1 hva
      have KA:Chg (fun k=>k<wp.heap.size∧¬ (f2 x.id).ownBlock=some k) wp w1:=Chg.trans (Chg.mono hDrew (fun k hk=>hk.1)) (Chg.mono ch0 (fun k hk=>⟨Nat.lt_of_lt_of_le hk.1 hDrew.size,hk.2⟩))
      have la:=own_hist hva hDrew.size
      (try replace SY:=SY.row2 (fun g hg=>((GPH.out.row x.id).lt g hg).2) ch0)
      have KE:=Ex.refl w1
      replace hHeld:=hold_row hHeld zbp zgp (NB.out x.id) ch0
      have zb1:=Nat.le_trans zbase ch0.size
      clear ch0 ch1 hva rx hDrew SX
      refine hK.out _ _ (hHeld) (fun hHeld=>?_)
      clear hK K
      refine rL 18 (by kernel_rfl) rfl fun K hK=>?_
      rw [if_pos (by rfl)]
      have ry:=((GPH.out.row id).chg KA (fun g hg hv=>⟨hg,fun hx=>GPH.out.2.2.2.2 id x.id g hne2 hv hx⟩)).nx KE
      have zb2:=Nat.le_trans zb1 KE.size
      refine wp_append_rda (enc:=encI) _ (.tmp 54) (.tmp 57) 22 rfl w4.heap.size 3 (.int .i64 0) 1 8 Tryz.underlying22 Tryz.infoI6 rfl (by omega) (by omega) _ (J id) ry rfl _ _ 1 1 [x.id] SY (fun h=>by cases h) (fun _=>rfl) (by simp [encI,Value.oneCell']) rfl (by omega) (by omega) zb2 ?_
      intro vc w2 C ch0 ch1 hvc
      have KC:Chg (fun k=>k<w1.heap.size∧¬ (f2 id).ownBlock=some k) w1 w2:=Chg.trans (Chg.mono KE (fun k hk=>hk.1)) (Chg.mono ch0 (fun k hk=>⟨Nat.lt_of_lt_of_le hk.1 KE.size,hk.2⟩))
      have lc:=own_hist hvc KE.size
      replace hHeld:=hold_row hHeld zbp zgp (NB.out id) ch0
      clear ch0 ch1 hvc ry SY KE
      refine hK.out _ _ (hHeld) (fun hHeld=>?_)
      clear hK K
      refine rLL 19 (by kernel_rfl) rfl (by rfl) fun K hK=>?_
      have R2:=RawM.same GPH.out.1 (hHeld.block bm (.inl rfl))
      obtain ⟨v0,st,we,hrun,k3,sz3,back⟩:=R2.entry (t:=175) Tryz.underlying3 Tryz.underlying175 (fun u=>Tryz.zeroS u) (by omega) wx1.out
      go_simp
      clear hrun sz3 R2
      refine hK.out _ _ ?_
      clear hK K
      refine wpAnyL_takeP (i:=20) (oi:=⟨_,_,_,_,_,_⟩) (v:=?_) rfl (by kernel_rfl) (by kernel_rfl) (by kernel_rfl) (fun _ _ _ h=>h) (Or.inl ⟨by rfl,?y277⟩) ?_
      case y277=>intro wq hSw;go_simp<;>rfl
      refine rLL 21 (by kernel_rfl) rfl (by rfl) fun K hK=>?_
      obtain ⟨wf,hrun2,R3,k4,sz4⟩:=back we va rfl
      simp only [goInt] at hrun2
      go_simp
      clear hrun2 sz4 back
      refine hK.out _ _ ?_
      clear hK K
      refine rLL 22 (by kernel_rfl) rfl (by rfl) fun K hK=>?_
      obtain ⟨wg,hrun3,R4,k5,sz5⟩:=R3.put (t:=175) Tryz.underlying3 Tryz.underlying175 (by omega) wx2.out vc
      go_simp
      clear hrun3 sz5 R3
      refine hK.out _ _ ?_
      clear hK K
      refine wpAnyL_done (by kernel_rfl) ?_ _
      have KF:=k3.nxb (k4.nxb k5)
      have GN:=GPH.out.two (x:=x.id) (y:=id) (fun h=>hne2 h.symm) A KA la C KC lc KF R4
      have AN:=AC.out.two (fun v g hg=>((GPH.out.row v).lt g hg).1) KA la KC lc KF
      have RR:=lH (show CmRel x.id L (prsU N P j) bm wi.heap.size w4 w9 (.int .i64 ((i:Int)+1)) wg from ⟨i+1,m+1+1,_,by omega,by go_num,by rw [LS.out,← List.append_assoc,jOf_snoc,HJ.out];exact GN,by rw [M2.out];omega,AN⟩)
      clear GN AN KF A C KA KC la lc R4 k3 k4 k5 hHeld
      go_wp2_with fail
      exact ⟨RR.out,by simp [intOf];omega⟩
    ·obtain rfl:i=L.length:=by omega
     rw [List.take_of_length_le (Nat.le_refl _),← SN.out] at GP
     have RR:=lH (show CnRel N P bm w4 (.int .i64 ((j:Int)+1)) wp from ⟨j+1,m,f2,by have:=HL.out;omega,by go_num,GP,by rw [SN.out,List.length_append,List.length_map];exact hm2,(ac.exb (KW.out.nxb (K9.out.b bm)) (Nat.le_refl _))⟩)
     clear GP ac
     go_wp2_with fail
     exact ⟨RR.out,by simp [intOf];omega⟩
  ·have hjN:j=N.length:=by have:=HL.out;omega
   have PE:=prsU_len HC.out P N.length
   rw [hjN] at GP
   rw [prsU_all] at GP PE
   clear hjN
   have HJ:Hid (∀ u v,v∈jOf (pairsN N P) u↔EdgeN N P u v∨EdgeN N P v u):=lH (fun u v=>joined_law HC.out)
   have JX:Hid (∀ u,(jOf (pairsN N P) u).length≤10000):=lH (fun u=>by
    have h1:=((jOf_law _ (pairsN N P) rfl (fun q hq=>pairs_ne HC.out hq)) u).1
    omega)
   generalize jOf (pairsN N P)=J at GP HJ JX
   have GW:=lH GP
   have KW:=lH kw
   clear GP kw PE
   have G6:=SetM.made wi Tryz.prog 3 4
   have kk:=Ex.new wi (.map #[] 0)
   obtain ⟨w6,hw6⟩:∃ w6,w6=wi.alloc (.map #[] 0):=⟨_,rfl⟩
   obtain ⟨bs,hbs⟩:∃ bs,bs=wi.heap.size:=⟨_,rfl⟩
   have hsz6:w6.heap.size=bs+1:=by rw [hw6,hbs];simp
   rw [← hbs,← hw6] at G6
   rw [← hw6] at kk
   have Hw6:=lH hw6
   have Hbs:=lH hbs
   have Hbs':=lH hbs
   have K6:=lH kk
   replace G6:=lH G6
   replace hsz6:=lH hsz6
   clear kk hw6 hbs
   have hmm:=@run_makeMap Tryz.prog
   go_upto_region 16 with fail
   rw [← Hbs.out,← Hw6.out]
   clear Hbs Hw6
   clear hmm hjm hjn
   go_upto_if 66 with fail
   go_cut [12] from 67 to 71 (fun q wk=>CqRel N bs w6 q wk)
   case first =>
    by_cases hn0:n=0
    ·have CUT:Hid (CqRel N bs w6 (.slice none 0 0) w6):=lH (by
      have:N=[]:=List.eq_nil_of_length_eq_zero (by have:=HL.out;omega)
      subst this
      exact ⟨.inl ⟨rfl,rfl⟩,Ex.refl _⟩)
     subst hn0
     go_wp2_with fail
     go_meet
     exact CUT.out
    ·have hn1:0<n:=by omega
     obtain ⟨x3,o3,x,rfl,hx3,hy,hc3⟩:=((HS.out.nxb KW.out).nxb (K6.out.b bm)).sl.at hn1
     have e0:w6.cell? ⟨x3,o3,none⟩=some (.int .i64 x.id):=by simpa using hc3 0 _ rfl
     have HX:=lH (startN_at hy)
     obtain ⟨g7,hg7⟩:∃ g7,g7=w6.heap.size:=⟨_,rfl⟩
     obtain ⟨w7,hw7⟩:∃ w7,w7=w6.alloc (.cells #[.int .i64 x.id] 3):=⟨_,rfl⟩
     have CUT:Hid (CqRel N bs w6 (.slice (some ⟨g7,0,none⟩) 1 1) w7):=lH (by
      unfold CqRel
      rw [HX.out,hg7,hw7]
      exact ⟨QuL.ofL (OwnL.lit [x.id] (fun _=>rfl) (by have:=hsz6.out;omega) (by simp [maxLen]) rfl),Ex.new _ _⟩)
     have Hg7:=lH hg7
     have Hw7:=lH hw7
     clear hc3 hy hg7 hw7
     go_upto_region 19 with fail
     rw [← Hg7.out,← Hw7.out]
     clear Hg7 Hw7
     go_wp2_with fail
     go_meet
     exact CUT.out
   case rest =>
    rename World=>wk
    obtain ⟨Q1,k7⟩:=hcut
    have C0:Hid (CbRel N P J bs wi (todoN N J [] (startN N)) u12 wk):=lH ⟨[],startN N,startN_bfs N P J,G6.out.nx k7,Q1,K6.out.nx k7,rfl,by have h1:=todo_le (N:=N) (by have:=HL.out;omega) JX.out [] (startN N);have h2:=startN_len N;omega⟩
    clear Q1 k7
    have hwb6:wi.heap.size=bs:=Hbs'.out.symm
    go_upto_region 19 with fail
    go_loopg [12] (todoN N J [] (startN N)) (fun k o wr=>CbRel N P J bs wi k o wr)
    case atStart=>exact C0.out
    case round =>
     clear C0
     obtain ⟨M,T,BF,SM,QT,kx,rfl,hk7⟩:=hrel
     obtain ⟨wp,rfl⟩:∃ wp:World,wp=wr:=⟨_,rfl⟩
     have HK7:=lH hk7
     have BL:=lH (Nat.le_trans (bfs_len HC.out BF) (show N.length≤64 by have:=HL.out;omega))
     have BFH:=lH BF
     have SMH:=lH SM
     have KX:=lH kx
     clear hk7 SM kx
     cases T with
     | nil =>
      obtain ⟨aq,cq,rfl⟩:=QT.no
      have RES:Hid (decide ((M.length:Int)=n)=connB N P):=lH (by rw [← HL.out];exact conn_bool HC.out HJ.out BFH.out)
      have hlen:=fun ty=>SMH.out.len (t:=176) Tryz.underlying176 BFH.out.1 ty
      have KE:=lH ((Exl.nxb (⟨EX1.out,hwb⟩:Exl bm w w4) KW.out).nx KX.out).1
      clear BF QT
      go_wp2_with fail
      go_ret
      exact ⟨by rw [← RES.out];rfl,KE.out⟩
     | cons v T =>
      obtain ⟨g,o,cap,rfl,hg,hbg,hc1,hcl,e0,Q2⟩:=QT.front
      obtain ⟨x,hx,hxv⟩:=bfs_node HC.out BFH.out (.inr (List.mem_cons_self ..))
      have hvI:=lH (hxv▸HI.out x hx)
      have wv:=lH (wf_of hvI.out)
      have TL:=lH (Nat.le_trans (todo_len N J M (v::T)) HK7.out)
      have lk:=fun hz=>SMH.out.get (t:=176) Tryz.underlying3 Tryz.underlying4 Tryz.underlying176 hz wv.out
      replace lk:=lk (Tryz.zeroB _)
      clear QT BF
      by_cases hcap:cap=1
      ·subst hcap
       obtain rfl:T=[]:=List.eq_nil_of_length_eq_zero (by omega)
       replace Q2:QuL 3 (bs+1) wp (.slice (some ⟨g,o,none⟩) 0 0) []:=by rw [if_pos rfl] at Q2;exact Q2
       by_cases hv:v∈M
       ·have d1:M.contains v=true:=by simpa using hv
        have RR:=lH (show CbRel N P J bs wi (todoN N J M []) (.slice (some ⟨g,o,none⟩) 0 0) wp from ⟨M,[],bfs_old BFH.out hv,SMH.out,Q2,KX.out,rfl,by have:=HK7.out;have:=todo_old N J M [] v;omega⟩)
        clear Q2
        go_wp2_with fail
        go_roundg (todoN N J M [])
        case measure=>have:=todo_old N J M [] v;omega
        case rel=>exact RR.out
       ·have d1:M.contains v=false:=by simpa using hv
        obtain ⟨wq,hput,SM2,kb,hzq⟩:=SMH.out.put (t:=176) Tryz.underlying3 Tryz.underlying4 Tryz.underlying176 (by have:=BL.out;omega) wv.out
        have kx2:=lH ((Exl.nxb (⟨KX.out,by omega⟩:Exl bs wi wp) kb).1)
        have GQ:=GW.out.nx kx2.out
        have lk2:=GQ.1.get (t:=175) Tryz.underlying3 Tryz.underlying175 (Tryz.zeroS _) wv.out
        obtain ⟨ar,cr,er,rr,hr0⟩:=(GQ.row v).rdz (fun _=>rfl)
        rw [er] at lk2
        have hq6:bs+1≤wq.heap.size:=by have:=SM2.lt;omega
        obtain ⟨v9,w9,hap,Q3,c1,c2,_⟩:=(Q2.nxb (by omega) kb).append (P:=Tryz.prog) 22 22 (z:=.int .i64 0) (bytes:=8) Tryz.underlying22 Tryz.infoI6 rfl (by omega) rr hr0 (by have:=TL.out;simp at this;omega) (by have:=JX.out v;omega) hq6
        have TN:Hid (todoN N J (M++[v]) ([]++J v)+1=todoN N J M (v::[])):=lH (by subst hxv;exact todo_new HC.out hx hv)
        have RR:=lH (show CbRel N P J bs wi (todoN N J (M++[v]) ([]++J v)) v9 w9 from ⟨M++[v],[]++J v,bfs_new (fun u v=>(HJ.out u v).1) BFH.out hv,SM2.same (c2.block bs (Nat.lt_succ_self _)),Q3,Chg.trans kx2.out (Chg.mono c2 fun k hk=>by show k<bs+1;omega),rfl,by have:=HK7.out;have:=TN.out;omega⟩)
        clear Q2 GQ er rr hr0 Q3 c1 c2 hx hxv SM2 kb
        go_wp2_with (at_builtin;go_loud (refine wpList_append_hap rfl _ _ 22 rfl hap rfl rfl ?_))
        go_roundg (todoN N J (M++[v]) ([]++J v))
        case measure=>have:=TN.out;omega
        case rel=>exact RR.out
      ·rw [if_neg hcap] at Q2
       by_cases hv:v∈M
       ·have d1:M.contains v=true:=by simpa using hv
        have RR:=lH (show CbRel N P J bs wi (todoN N J M T) (.slice (some ⟨g,o+1,none⟩) T.length (cap-1)) wp from ⟨M,T,bfs_old BFH.out hv,SMH.out,Q2,KX.out,rfl,by have:=HK7.out;have:=todo_old N J M T v;omega⟩)
        clear Q2
        go_wp2_with fail
        go_roundg (todoN N J M T)
        case measure=>have:=todo_old N J M T v;omega
        case rel=>exact RR.out
       ·have d1:M.contains v=false:=by simpa using hv
        obtain ⟨wq,hput,SM2,kb,hzq⟩:=SMH.out.put (t:=176) Tryz.underlying3 Tryz.underlying4 Tryz.underlying176 (by have:=BL.out;omega) wv.out
        have kx2:=lH ((Exl.nxb (⟨KX.out,by omega⟩:Exl bs wi wp) kb).1)
        have GQ:=GW.out.nx kx2.out
        have lk2:=GQ.1.get (t:=175) Tryz.underlying3 Tryz.underlying175 (Tryz.zeroS _) wv.out
        obtain ⟨ar,cr,er,rr,hr0⟩:=(GQ.row v).rdz (fun _=>rfl)
        rw [er] at lk2
        have hq6:bs+1≤wq.heap.size:=by have:=SM2.lt;omega
        obtain ⟨v9,w9,hap,Q3,c1,c2,_⟩:=(Q2.nxb (by omega) kb).append (P:=Tryz.prog) 22 22 (z:=.int .i64 0) (bytes:=8) Tryz.underlying22 Tryz.infoI6 rfl (by omega) rr hr0 (by have:=TL.out;simp at this;omega) (by have:=JX.out v;omega) hq6
        have TN:Hid (todoN N J (M++[v]) (T++J v)+1=todoN N J M (v::T)):=lH (by subst hxv;exact todo_new HC.out hx hv)
        have RR:=lH (show CbRel N P J bs wi (todoN N J (M++[v]) (T++J v)) v9 w9 from ⟨M++[v],T++J v,bfs_new (fun u v=>(HJ.out u v).1) BFH.out hv,SM2.same (c2.block bs (Nat.lt_succ_self _)),Q3,Chg.trans kx2.out (Chg.mono c2 fun k hk=>by show k<bs+1;omega),rfl,by have:=HK7.out;have:=TN.out;omega⟩)
        clear Q2 GQ er rr hr0 Q3 c1 c2 hx hxv SM2 kb
        go_wp2_with (at_builtin;go_loud (refine wpList_append_hap rfl _ _ 22 rfl hap rfl rfl ?_))
        go_roundg (todoN N J (M++[v]) (T++J v))
        case measure=>have:=TN.out;omega
        case rel=>exact RR.out
end Go.Proofs.YtalmjklljofhbaaGreatDoor
namespace Go.Proofs.YtalmjklljofhbaaGreatDoor
open Go.RowKit Go.Maps
theorem normal_le (N:List Nd) (P:List Pr):(normalN N P).length≤N.length∧(0<(normalN N P).length→checkN N=0):=by
 unfold normalN
 split
 ·rename_i h;exact ⟨by rw [List.length_map,sortN_length];exact Nat.le_refl _,fun _=>h⟩
 ·exact ⟨Nat.zero_le _,fun h=>by cases h⟩
theorem normal_small (N:List Nd) {P:List Pr} (h:SmallP P):SmallP (normalN N P):=by
 intro p hp
 unfold normalN at hp
 split at hp
 ·obtain ⟨x,_,rfl⟩:=List.mem_map.1 hp
  unfold peerN
  cases hf:P.find? fun p=>p.id==x.id with
  | none=>exact ⟨Nat.zero_le _,Nat.zero_le _⟩
  | some q=>exact h q (List.mem_of_find?_eq_some hf)
 ·cases hp
theorem AccM.one {β lo hi bm:Nat} {w6 wp w1 w3:World} {f:Int→Value} {x:Int} {va:Value} (h:AccM β lo hi bm w6 wp f) (hb:∀ v g,(f v).ownBlock=some g→β≤g)
  (k1:Chg (fun k=>k<wp.heap.size∧¬ (f x).ownBlock=some k) wp w1) (la:∀ g,va.ownBlock=some g→(f x).ownBlock=some g∨wp.heap.size≤g) (k3:Exb bm w1 w3):AccM β lo hi bm w6 w3 (upd f x va):=by
 have s1:=k1.size
 have s3:=k3.size
 have hs:=h.2.1
 have key:∀ v k,k<hi∧k≠bm∧(k<β∨lo≤k)→¬ (f v).ownBlock=some k:=fun v k hk hv=>by
  have h1:=hb v k hv
  have h2:=h.2.2 v k hv
  omega
 refine ⟨h.1.trans ((k1.mono fun k hk=>⟨by omega,key x k hk⟩).trans (Chg.mono k3 fun k hk=>⟨by omega,hk.2.1⟩)),by omega,fun v g hv=>?_⟩
 unfold upd at hv
 by_cases h3:v=x
 ·rw [if_pos h3] at hv
  rcases la g hv with h2 | h2
  ·exact h.2.2 x g h2
  ·omega
 ·rw [if_neg h3] at hv
  exact h.2.2 v g hv
theorem find_word {N:List Nd} (hw:∀ x∈N,x.word<4294967296) (id:Int) (h:(findN N id).2=true):(findN N id).1.word<4294967296:=hw _ (findN_mem h).1
set_option maxHeartbeats 1000000 in
theorem other_p (a:Option Addr) (n c:Nat) (N:List Nd) (id own:Int) (w:World) (h:Sl 3 encN w a n N) (hn:n≤1000) :
  Calls Tryz.prog 161 #[.slice a n c,.int .i64 id,.int .i64 own] w fun e w'=>e=.returned (.int .i64 (otherN N id own))∧Ex w w':=by
 have EX:=Ex.refl w
 have E1:Hid (∀ o,o=(findN N id).2→otherN N id own=if o=true∧id≠own then id else 0):=lH (fun o ho=>by rw [ho];rfl)
 go_enter Tryz.func161,Tryz.ntmps161
 go_wp2_with fail
 (with_reducible refine (find_p _ _ _ _ id _ h (by omega)).mono ?_)
 rintro e w1 ⟨rfl,kk⟩
 replace EX:=EX.nx kk
 clear kk
 replace E1:=E1.out _ rfl
 obtain ⟨F,hF⟩:∃ F,F=findN N id:=⟨_,rfl⟩
 rw [← hF] at E1 ⊢
 clear hF h
 obtain ⟨⟨xi,xk,xw⟩,ok⟩:=F
 replace E1:=lH E1
 have B5:=Blk.new w1 [.int .i64 xi,.string xk,.int .u32 xw] 49
 have kk:=Ex.new w1 (.cells #[.int .i64 xi,.string xk,.int .u32 xw] 49)
 obtain ⟨w2,hw2⟩:∃ w2,w2=w1.alloc (.cells #[.int .i64 xi,.string xk,.int .u32 xw] 49):=⟨_,rfl⟩
 obtain ⟨g5,hg5⟩:∃ g5,g5=w1.heap.size:=⟨_,rfl⟩
 replace B5:Blk w2 g5 [.int .i64 xi,.string xk,.int .u32 xw] 49:=by rw [hw2,hg5];exact B5
 rw [← hw2] at kk
 have Hw2:=lH hw2
 have Hg5:=lH hg5
 replace EX:=EX.nx kk
 clear kk hw2 hg5
 simp only [Nd.val]
 go_upto_region 2 with fail
 rw [← Hg5.out,← Hw2.out]
 clear Hg5 Hw2
 clear B5
 cases ok with
 | false =>
  have E1:Hid (otherN N id own=0):=lH (E1.out.trans (if_neg (by simp)))
  go_wp2_with fail
  go_ret
  exact ⟨by rw [E1.out];rfl,EX⟩
 | true =>
  by_cases he:id=own
  ·have EZ:Hid (otherN N id own=0):=lH (E1.out.trans (if_neg (by simp [he])))
   have d1:(id==own)=true:=by simpa using he
   clear he E1
   go_wp2_with fail
   go_ret
   exact ⟨by rw [EZ.out];rfl,EX⟩
  ·have EZ:Hid (otherN N id own=id):=lH (E1.out.trans (if_pos ⟨rfl,he⟩))
   have d1:(id==own)=false:=by simpa using he
   clear he E1
   go_wp2_with fail
   go_ret
   exact ⟨by rw [EZ.out];rfl,EX⟩
theorem pair_no {N:List Nd} {nb:Int} (own:Int) (lev:Nat) (zero one:Int) (h:(findN N nb).2=false):pairB N own nb lev zero one=(0,0):=by unfold pairB;rw [if_neg (by rw [h];simp)]
theorem pair_z {N:List Nd} {nb:Int} (own:Int) (lev:Nat) (zero one:Int) (h:(findN N nb).2=true) (hb:bitN (findN N nb).1.word lev=0):pairB N own nb lev zero one=((findN N nb).1.id,otherN N one own):=by unfold pairB;rw [if_pos h,if_pos hb]
theorem pair_o {N:List Nd} {nb:Int} (own:Int) (lev:Nat) (zero one:Int) (h:(findN N nb).2=true) (hb:¬ bitN (findN N nb).1.word lev=0):pairB N own nb lev zero one=(otherN N zero own,(findN N nb).1.id):=by unfold pairB;rw [if_pos h,if_neg hb]
set_option maxRecDepth 100000 in
set_option maxHeartbeats 2000000 in
theorem pair_p (a:Option Addr) (n c:Nat) (N:List Nd) (own nb:Int) (lev:Nat) (zero one:Int) (w:World) (h:Sl 3 encN w a n N) (hn:n≤1000) (hw:∀ x∈N,x.word<4294967296) (hl:lev≤16) :
  Calls Tryz.prog 135 #[.slice a n c,.int .i64 own,.int .i64 nb,.int .i64 lev,.int .i64 zero,.int .i64 one] w fun e w'=>e=.returned (.tuple #[.int .i64 (pairB N own nb lev zero one).1,.int .i64 (pairB N own nb lev zero one).2])∧Ex w w':=by
 have EX:=Ex.refl w
 have P0:=pair_no (N:=N) (nb:=nb) own lev zero one
 have P1:=pair_z (N:=N) (nb:=nb) own lev zero one
 have P2:=pair_o (N:=N) (nb:=nb) own lev zero one
 have FW:=find_word hw nb
 clear hw
 go_enter Tryz.func135,Tryz.ntmps135
 generalize hPB:pairB N own nb lev zero one=PB at P0 P1 P2 ⊢
 clear hPB
 replace P0:=lH P0
 replace P1:=lH P1
 replace P2:=lH P2
 replace FW:=lH FW
 go_wp2_with fail
 (with_reducible refine (find_p _ _ _ _ nb _ h (by omega)).mono ?_)
 rintro e w1 ⟨rfl,kk⟩
 replace EX:=EX.nx kk
 replace h:=h.nx kk
 clear kk
 replace P0:=P0.out
 replace P1:=P1.out
 replace P2:=P2.out
 replace FW:=FW.out
 obtain ⟨F,hF⟩:∃ F,F=findN N nb:=⟨_,rfl⟩
 rw [← hF] at P0 P1 P2 FW ⊢
 clear hF
 obtain ⟨⟨xi,xk,xw⟩,ok⟩:=F
 have B5:=Blk.new w1 [.int .i64 xi,.string xk,.int .u32 xw] 49
 have kk:=Ex.new w1 (.cells #[.int .i64 xi,.string xk,.int .u32 xw] 49)
 obtain ⟨w2,hw2⟩:∃ w2,w2=w1.alloc (.cells #[.int .i64 xi,.string xk,.int .u32 xw] 49):=⟨_,rfl⟩
 obtain ⟨g5,hg5⟩:∃ g5,g5=w1.heap.size:=⟨_,rfl⟩
 replace B5:Blk w2 g5 [.int .i64 xi,.string xk,.int .u32 xw] 49:=by rw [hw2,hg5];exact B5
 rw [← hw2] at kk
 have Hw2:=lH hw2
 have Hg5:=lH hg5
 replace EX:=EX.nx kk
 replace h:=h.nx kk
 clear kk hw2 hg5
 simp only [Nd.val]
 go_upto_region 2 with fail
 rw [← Hg5.out,← Hw2.out]
 clear Hg5 Hw2
 cases ok with
 | false =>
  have E1:=lH (P0 rfl)
  clear P0 P1 P2 FW h B5
  go_wp2_with fail
  go_ret2
  exact ⟨by rw [E1.out];rfl,EX⟩
 | true =>
  have q2:=B5.cell 2 _ rfl
  have FWh:=FW rfl
  by_cases hb:bitN xw lev=0
  ·have E1:=lH (P1 rfl hb)
   have d1:(((bitN xw lev:Nat):Int)==0)=true:=by rw [hb];rfl
   have BF:Hid (∀ wq,Ex w2 wq→wq.cell? ⟨g5,0,none⟩=some (.int .i64 xi)):=lH (fun wq kq=>(B5.nx kq).cell 0 _ rfl)
   have H:=lH h
   have K:=lH EX
   clear P0 P1 P2 FW h B5 hb EX
   go_wp2_with fail
   refine (bit_p xw lev _ FWh (by omega) (by omega)).mono ?_
   rintro e w3 ⟨rfl,rfl⟩
   clear FWh
   go_upto_region 5 with fail
   clear q2
   refine wp_region_held_drew (S:=Ex w2) (by kernel_rfl) ((Ex.refl w2).drew) (fun hHeld=>?_)
   obtain ⟨wd,hwdx⟩:∃ wd:World,wd=World.drew w2:=⟨_,rfl⟩
   rw [← hwdx] at hHeld ⊢
   have hDrew:Ex w2 wd:=by rw [hwdx];exact (Ex.refl w2).drew
   clear hwdx
   refine tkH 0 (v:=?_) rfl (by kernel_rfl) (fun _ _ _ h=>h) (by rfl) ?y5 hHeld ?_
   case y5=>intro wq hSw;go_simp<;>rfl
   refine tkH 1 (v:=?_) rfl (by kernel_rfl) (fun _ _ _ h=>h) (by rfl) ?y8 hHeld ?_
   case y8=>intro wq hSw;(have cq:=BF.out wq hSw;go_simp)<;>rfl
   refine tkH 2 (v:=?_) rfl (by kernel_rfl) (fun _ _ _ h=>h) (by rfl) ?y11 hHeld ?_
   case y11=>intro wq hSw;go_simp<;>rfl
   refine tkH 3 (v:=?_) rfl (by kernel_rfl) (fun _ _ _ h=>h) (by rfl) ?y14 hHeld ?_
   case y14=>intro wq hSw;go_simp<;>rfl
   refine tkH 4 (v:=?_) rfl (by kernel_rfl) (fun _ _ _ h=>h) (by rfl) ?y17 hHeld ?_
   case y17=>intro wq hSw;go_simp<;>rfl
   refine rH 5 (by kernel_rfl) rfl fun K hK=>?_
   go_simp
   (with_reducible refine (other_p _ _ _ N one own _ (H.out.nx hHeld) hn).mono ?_)
   rintro e wb ⟨rfl,kk⟩
   replace hHeld:=hHeld.nx kk
   clear kk
   refine hK.out _ _ (hHeld) (fun hHeld=>?_)
   clear hK K
   refine tkH 6 (v:=?_) rfl (by kernel_rfl) (fun _ _ _ h=>h) (by rfl) ?y30 hHeld ?_
   case y30=>intro wq hSw;go_simp<;>rfl
   refine tkH 7 (v:=?_) rfl (by kernel_rfl) (fun _ _ _ h=>h) (by rfl) ?y33 hHeld ?_
   case y33=>intro wq hSw;go_simp<;>rfl
   refine wpAnyH_done (by kernel_rfl) ?_ _
   have KE:=lH (K.out.nx hHeld)
   clear hHeld hDrew
   go_wp2_with fail
   go_ret2
   exact ⟨by rw [E1.out];rfl,KE.out⟩
  ·have E1:=lH (P2 rfl hb)
   have d1:(((bitN xw lev:Nat):Int)==0)=false:=by simpa using hb
   have BF:Hid (∀ wq,Ex w2 wq→wq.cell? ⟨g5,0,none⟩=some (.int .i64 xi)):=lH (fun wq kq=>(B5.nx kq).cell 0 _ rfl)
   have H:=lH h
   have K:=lH EX
   clear P0 P1 P2 FW h B5 hb EX
   go_wp2_with fail
   refine (bit_p xw lev _ FWh (by omega) (by omega)).mono ?_
   rintro e w3 ⟨rfl,rfl⟩
   clear FWh
   go_upto_region 6 with fail
   clear q2
   refine wp_region_held_drew (S:=Ex w2) (by kernel_rfl) ((Ex.refl w2).drew) (fun hHeld=>?_)
   obtain ⟨wd,hwdx⟩:∃ wd:World,wd=World.drew w2:=⟨_,rfl⟩
   rw [← hwdx] at hHeld ⊢
   have hDrew:Ex w2 wd:=by rw [hwdx];exact (Ex.refl w2).drew
   clear hwdx
   refine tkH 0 (v:=?_) rfl (by kernel_rfl) (fun _ _ _ h=>h) (by rfl) ?y5 hHeld ?_
   case y5=>intro wq hSw;go_simp<;>rfl
   refine tkH 1 (v:=?_) rfl (by kernel_rfl) (fun _ _ _ h=>h) (by rfl) ?y8 hHeld ?_
   case y8=>intro wq hSw;go_simp<;>rfl
   refine tkH 2 (v:=?_) rfl (by kernel_rfl) (fun _ _ _ h=>h) (by rfl) ?y11 hHeld ?_
   case y11=>intro wq hSw;go_simp<;>rfl
   refine tkH 4 (v:=?_) rfl (by kernel_rfl) (fun _ _ _ h=>h) (by rfl) ?y14 hHeld ?_
   case y14=>intro wq hSw;go_simp<;>rfl
   refine tkH 5 (v:=?_) rfl (by kernel_rfl) (fun _ _ _ h=>h) (by rfl) ?y17 hHeld ?_
   case y17=>intro wq hSw;(have cq:=BF.out wq hSw;go_simp)<;>rfl
   refine rH 3 (by kernel_rfl) rfl fun K hK=>?_
   go_simp
   (with_reducible refine (other_p _ _ _ N zero own _ (H.out.nx hHeld) hn).mono ?_)
   rintro e wb ⟨rfl,kk⟩
   replace hHeld:=hHeld.nx kk
   clear kk
   refine hK.out _ _ (hHeld) (fun hHeld=>?_)
   clear hK K
   refine tkH 6 (v:=?_) rfl (by kernel_rfl) (fun _ _ _ h=>h) (by rfl) ?y30 hHeld ?_
   case y30=>intro wq hSw;go_simp<;>rfl
   refine tkH 7 (v:=?_) rfl (by kernel_rfl) (fun _ _ _ h=>h) (by rfl) ?y33 hHeld ?_
   case y33=>intro wq hSw;go_simp<;>rfl
   refine wpAnyH_done (by kernel_rfl) ?_ _
   have KE:=lH (K.out.nx hHeld)
   clear hHeld hDrew
   go_wp2_with fail
   go_ret2
   exact ⟨by rw [E1.out];rfl,KE.out⟩
theorem at1_p (gx:Nat) (id:Int) (w:World) (hx:Blk w gx [.int .i64 id] 3):PredI 162 #[.pointer (some ⟨gx,0,none⟩)] id w:=by
 intro p h1 h2 w' kk
 have q0:=(hx.nx kk).cell 0 _ rfl
 have hg:=(hx.nx kk).lt
 have hne:¬ gx=w'.heap.size:=by omega
 obtain ⟨a1,n1,c1⟩:=h1
 obtain ⟨a2,n2,c2⟩:=h2
 simp only [Hdr.val]
 clear hx kk
 go_enter Tryz.func162,Tryz.ntmps162
 go_wp2
 go_ret
 exact ⟨rfl,(Ex.refl _).alloc _⟩
def nrV (x:Nr):Value:=.agg #[.int .i64 x.1,.int .i64 x.2.1,.int .i64 x.2.2.1,.int .i64 x.2.2.2]
theorem near_at {p:Pr} {i:Nat} {x:Nr} (h:p.near[i]?=some x):nearAt p i=x:=by unfold nearAt;rw [h];rfl
theorem near_out {p:Pr} {i:Nat} (h:p.near.length≤i):nearAt p i=(0,0,0,0):=by unfold nearAt;rw [List.getElem?_eq_none h];rfl
set_option maxRecDepth 100000 in
set_option maxHeartbeats 2000000 in
theorem at_p (a2:Option Addr) (n2 c2:Nat) (P:List Pr) (id:Int) (lev:Nat) (w:World) (h2:PL w a2 n2 P) (hn2:n2≤4000000000000000000) (hP:∀ p∈P,p.near.length≤4000000000000000000) (hl:lev≤16) :
  Calls Tryz.prog 134 #[.slice a2 n2 c2,.int .i64 id,.int .i64 lev] w fun e w'=>e=.returned (nrV (nearAt (peerN P id) lev))∧Ex w w':=by
 have EG:Hid (∀ args w,(callFunc 162 args).run Tryz.prog w=.ok (.enter 162 args) w):=lH (enters_of Tryz.func162 (by kernel_rfl) rfl)
 have EX:=Ex.refl w
 have HP:=lH hP
 clear hP
 have hwi:w.heap.size≤w.heap.size:=Nat.le_refl _
 obtain ⟨g4,hg4⟩:∃ g4,g4=w.heap.size:=⟨_,rfl⟩
 obtain ⟨g6,hg6⟩:∃ g6,g6=(w.heap.size+1):=⟨_,rfl⟩
 obtain ⟨w1,hw1⟩:∃ w1,w1=((w.alloc (.cells #[.int .i64 id] 3)).alloc (.cells #[.int .i64 0,.int .i64 0,.int .i64 0,.int .i64 0] 69)):=⟨_,rfl⟩
 have kk:Ex w w1:=by rw [hw1];exact (((Ex.refl w).alloc (.cells #[.int .i64 id] 3)).alloc (.cells #[.int .i64 0,.int .i64 0,.int .i64 0,.int .i64 0] 69))
 have B4:Blk w1 g4 [.int .i64 id] 3:=by rw [hw1];simp only [hg4,hg6];have hbk:=((Blk.new w [.int .i64 id] 3).nx (Ex.new _ (.cells #[.int .i64 0,.int .i64 0,.int .i64 0,.int .i64 0] 69)));simpa using hbk
 have B6:Blk w1 g6 [.int .i64 0,.int .i64 0,.int .i64 0,.int .i64 0] 69:=by rw [hw1];simp only [hg4,hg6];have hbk:=(Blk.new (w.alloc (.cells #[.int .i64 id] 3)) [.int .i64 0,.int .i64 0,.int .i64 0,.int .i64 0] 69);simpa using hbk
 have Hw1:=lH hw1
 have Hg4:=lH hg4
 have Hg6:=lH hg6
 replace h2:=h2.nx kk
 replace EX:=EX.nx kk
 have hz6:w.heap.size≤g6:=by omega
 clear kk hw1 hg4 hg6
 go_enter Tryz.func134,Tryz.ntmps134
 go_upto_region 1 with fail
 rw [← Hw1.out,← Hg6.out,← Hg4.out]
 clear Hw1 Hg6 Hg4
 have PI:=at1_p g4 id w1 B4
 replace B6:=lH B6
 clear B4
 go_wp2_with fail
 (with_reducible refine (idxf_pr _ _ _ EG.out _ _ _ P _ h2 hn2 PI).mono ?_)
 rintro e w2 ⟨rfl,kk⟩
 replace B6:=B6.out.nx kk
 replace EX:=EX.nx kk
 replace h2:=h2.nx kk
 clear kk PI
 have f0:=B6.free 0
 have f1:=B6.free 1
 have f2:=B6.free 2
 have f3:=B6.free 3
 have c0:=B6.cell 0 _ rfl
 have c1:=B6.cell 1 _ rfl
 have c2:=B6.cell 2 _ rfl
 have c3:=B6.cell 3 _ rfl
 rcases idxQ_cases P id with ⟨k,y,hq,hkl,hyk,hpy,-⟩ | ⟨hq,hpy⟩
 ·rw [hq]
  have hk2:k<n2:=by have:=h2.len;omega
  have hk0:¬ (k:Int)<0:=by omega
  have hk1:(0:Int)≤(k:Int):=by omega
  have hk3:(k:Int)<(n2:Int):=by omega
  obtain ⟨x5,o5,b1,m1,d1,b4,m4,d4,y',rfl,hx5,hy',e0,e1,e2,e3,e4,s1,s4⟩:=h2.rd hk2
  obtain rfl:y=y':=Option.some.inj (hyk.symm.trans hy')
  have hm4:=s4.len
  have hyP:=HP.out y (List.mem_of_getElem? hyk)
  have HPY:=lH hpy
  clear e0 e1 e2 e3 s1 hy' hkl hq hpy hyk h2
  by_cases hlt:lev<m4
  ·obtain ⟨x6,o6,ny,rfl,hx6,hny,hc6⟩:=s4.at hlt
   have V:Hid (nearAt (peerN P id) lev=ny):=lH (by rw [HPY.out];exact near_at hny)
   have r0:w2.cell? ⟨x6,o6+lev*4,none⟩=some (.int .i64 ny.1):=hc6 0 _ rfl
   have r1:w2.cell? ⟨x6,o6+lev*4+1,none⟩=some (.int .i64 ny.2.1):=hc6 1 _ rfl
   have r2:w2.cell? ⟨x6,o6+lev*4+1+1,none⟩=some (.int .i64 ny.2.2.1):=by simpa [Nat.add_assoc] using hc6 2 _ rfl
   have r3:w2.cell? ⟨x6,o6+lev*4+1+1+1,none⟩=some (.int .i64 ny.2.2.2):=by simpa [Nat.add_assoc] using hc6 3 _ rfl
   have d1:decide ((lev:Int) ≥ (m4:Int))=false:=by simp;omega
   have d2:decide ((m4:Int)≤(lev:Int))=false:=by simp;omega
   have hl1:(lev:Int)<(m4:Int):=by omega
   have KE:=lH ((((EX.setNew (p:=⟨g6,0,none⟩) (.int .i64 ny.1) hz6).setNew (p:=⟨g6,1,none⟩) (.int .i64 ny.2.1) hz6).setNew (p:=⟨g6,2,none⟩) (.int .i64 ny.2.2.1) hz6).setNew (p:=⟨g6,3,none⟩) (.int .i64 ny.2.2.2) hz6)
   clear s4 hc6 hny EX HPY
   go_wp2_with fail
   refine bodyPost_ret (v:=nrV ny) (by simp [results,Tryz.results134,go_sem,nrV, *]) rfl ⟨by rw [V.out],KE.out⟩
  ·have V:Hid (nearAt (peerN P id) lev=(0,0,0,0)):=lH (by rw [HPY.out];exact near_out (by omega))
   have hge:m4≤lev:=by omega
   have KE:=lH ((((EX.setNew (p:=⟨g6,0,none⟩) (.int .i64 0) hz6).setNew (p:=⟨g6,1,none⟩) (.int .i64 0) hz6).setNew (p:=⟨g6,2,none⟩) (.int .i64 0) hz6).setNew (p:=⟨g6,3,none⟩) (.int .i64 0) hz6)
   clear s4 EX HPY hlt
   go_wp2_with fail
   refine bodyPost_ret (v:=nrV (0,0,0,0)) (by simp [results,Tryz.results134,go_sem,nrV, *]) rfl ⟨by rw [V.out],KE.out⟩
 ·rw [hq]
  have V:Hid (nearAt (peerN P id) lev=(0,0,0,0)):=lH (by rw [hpy];exact near_out (Nat.zero_le _))
  have KE:=lH ((((EX.setNew (p:=⟨g6,0,none⟩) (.int .i64 0) hz6).setNew (p:=⟨g6,1,none⟩) (.int .i64 0) hz6).setNew (p:=⟨g6,2,none⟩) (.int .i64 0) hz6).setNew (p:=⟨g6,3,none⟩) (.int .i64 0) hz6)
  clear hq hpy EX h2
  go_wp2_with fail
  refine bodyPost_ret (v:=nrV (0,0,0,0)) (by simp [results,Tryz.results134,go_sem,nrV, *]) rfl ⟨by rw [V.out],KE.out⟩
theorem normal_yes {N:List Nd} {P:List Pr} (h:(checkN N==0)=true):normalN N P=(sortN N).map fun x=>peerN P x.id:=by unfold normalN;rw [if_pos (by simpa using h)]
theorem normal_not {N:List Nd} {P:List Pr} (h:(checkN N==0)=false):normalN N P=[]:=by unfold normalN;rw [if_neg (by simpa using h)]
set_option maxRecDepth 100000 in
set_option maxHeartbeats 8000000 in
theorem normal_r (a:Option Addr) (n c:Nat) (N:List Nd) (a2:Option Addr) (n2 c2:Nat) (P:List Pr) (w:World) (h:Sl 3 encN w a n N) (hn:n≤1000) (h2:PL w a2 n2 P) (hn2:n2≤1000000) (hP:SmallP P) :
  Calls Tryz.prog 73 #[.slice a n c,.slice a2 n2 c2] w (PlPost (normalN N P) w):=by
 have HL:=lH h.len
 have HP:=lH hP
 have EX:=Ex.refl w
 clear hP
 go_enter Tryz.func73,Tryz.ntmps73
 go_wp2_with fail
 (with_reducible refine (is_r _ _ _ N _ h (by omega)).mono ?_)
 rintro e w1 ⟨rfl,kk⟩
 replace h:=h.nx kk
 replace h2:=h2.nx kk
 replace EX:=EX.nx kk
 clear kk
 cases hc:(checkN N==0) with
 | false =>
  have E0:=lH (normal_not (P:=P) hc)
  have EX:=lH EX
  clear h h2 hc
  go_wp2_with fail
  go_ret
  exact ⟨_,[],rfl,by rw [E0.out];exact OwnP.nil _ _ _ _ _,EX.out⟩
 | true =>
  have E0:=lH (normal_yes (P:=P) hc)
  clear hc
  go_wp2_with fail
  (with_reducible refine (sort_r _ _ _ N _ h hn).mono ?_)
  rintro e w3 ⟨a3,n3,c3,rfl,r3,kk⟩
  replace h2:=h2.nx kk
  replace EX:=EX.nx kk
  clear kk
  have r3:Slf 3 encN w1 w3 a3 n3 _:=r3
  have R3:=lH r3.sl
  have hn3:n3≤1000:=by have:=r3.len;have:=sortN_length N;have:=HL.out;omega
  obtain ⟨S,hS⟩:∃ S,S=sortN N:=⟨_,rfl⟩
  rw [← hS] at R3 E0
  have HSL:=lH R3.out.len
  have H2:=lH h2
  have z0:=EX.size
  have EX:=lH EX
  clear h h2 hS r3
  go_wp2_with fail
  go_loopw [5,7] (fun o i wr=>NoRel S P w3 o i wr) (fun _ i _=>n3-(intOf i).toNat)
  case atStart=>exact ⟨0,[],by omega,rfl,OwnP.nil _ _ _ _ _,Ex.refl _⟩
  case round =>
   obtain ⟨j,qs,hj,rfl,own,ki⟩:=hrel
   rw [HSL.out] at hj
   obtain ⟨wi,rfl⟩:∃ wi:World,wi=wr:=⟨_,rfl⟩
   by_cases hjm:j<n3
   ·obtain ⟨x3,o3,x,rfl,hx3,hy,hc3⟩:=(R3.out.nx ki).at hjm
    have e0:wi.cell? ⟨x3,o3+j*3,none⟩=some (.int .i64 x.id):=hc3 0 _ rfl
    have SN:=lH (no_snoc (P:=P) hy)
    have hql:qs.length=j:=by rw [own.2.1,List.length_map,List.length_take,HSL.out];omega
    have hwi:=ki.size
    have KI:=lH ki
    have OWN:=lH own
    clear hy own ki hc3
    go_wp2_with fail
    (with_reducible refine (peer_r _ _ _ P x.id _ (H2.out.nx KI.out) hn2 HP.out).mono ?_)
    rintro e w6 ⟨hk,hnr,rfl,own2,own5,kk⟩
    generalize peerN P x.id=p at SN own2 own5 ⊢
    have K6:=lH kk
    have OP:=lH (OWN.out.nx kk)
    have KN:=kk.nx (Ex.new _ (.cells #[.int .i64 p.id,hk.val,.int .i64 p.left,.int .i64 p.right,hnr.val] 36))
    have zn:=Nat.le_trans hwi KN.size
    have o2:=lH own2
    have o5:=lH own5
    obtain ⟨A2,M2,C2⟩:=hk
    obtain ⟨A5,M5,C5⟩:=hnr
    simp only [Hdr.val] at KN zn ⊢
    clear e0 kk own2 own5
    go_wp2_with (at_builtin;(refine wpList_append_W (enc:=encQ) _ rfl _ _ 24 rfl w3.heap.size 36 (.agg #[.int .i64 0,.slice none 0 0,.int .i64 0,.int .i64 0,.slice none 0 0]) 5 72 Tryz.underlying24 Tryz.infoPr rfl (by omega) (by omega) _ qs (OP.out.nx (Ex.new _ _)).row rfl _ 1 1 [(p.nums,(A2,M2,C2),(A5,M5,C5))] (Sl.lit _ rfl rfl encQ_len rfl) encQ_len encQ_one rfl (by omega) (by omega) zn ?_);intro v9 w9 own9 ch0 ch1 _)
    have RR:=OWN.out.app (p:=p) (hk:=(A2,M2,C2)) (hn:=(A5,M5,C5)) (by decide) (by decide) hwi KN (o2.out.nx (Ex.new _ _)) (o5.out.nx (Ex.new _ _)) own9 ch0
    exact ⟨⟨j+1,_,by rw [HSL.out];omega,by go_num,by rw [SN.out];exact RR,Chg.trans (KI.out.nx KN) ch1⟩,by simp [intOf];omega⟩
   ·obtain rfl:j=n3:=by omega
    rw [List.take_of_length_le (by rw [HSL.out];exact Nat.le_refl _)] at own
    have OWN:=lH (own.lower z0)
    have KI:=lH (EX.out.nx ki)
    clear own ki hj hjm
    go_wp2_with fail
    go_ret
    exact ⟨_,qs,rfl,by rw [E0.out];exact OWN.out,KI.out⟩
def encP2 (q:Int×Int):List Value:=[.int .i64 q.1,.int .i64 q.2]
theorem Tryz.infoP2:(Tryz.prog.info? 134).map (fun i=>(i.zero,i.size,i.bytes))=some (some (.agg #[.int .i64 0,.int .i64 0]),2,16):=by kernel_rfl
theorem encP2_one (q:Int×Int):∀ u∈encP2 q,u.oneCell'=true:=by
 intro u hu
 simp only [encP2,List.mem_cons,List.not_mem_nil,or_false] at hu
 rcases hu with rfl | rfl<;>rfl
theorem peerN_small {P:List Pr} {m:Nat} (h:∀ p∈P,p.known.length≤m∧p.near.length≤m) (id:Int):(peerN P id).known.length≤m∧(peerN P id).near.length≤m:=by
 unfold peerN
 cases hf:P.find? fun p=>p.id==id with
 | none=>exact ⟨Nat.zero_le _,Nat.zero_le _⟩
 | some p=>exact h p (List.mem_of_find?_eq_some hf)
def PqPost (E:List (Int×Int)) (w:World) (e:Ending) (w':World):Prop:=∃ v,e=.returned v∧OwnW 2 encP2 134 w.heap.size w' v E∧Ex w w'
def PaRel (N:List Nd) (P:List Pr) (w:World) (o i:Value) (wr:World):Prop :=
 ∃ j:Nat,j≤N.length∧i=.int .i64 j∧OwnW 2 encP2 134 w.heap.size wr o (prsU N P j)∧Ex w wr
def PbRel (x:Int) (l:List Int) (E:List (Int×Int)) (β lo:Nat) (w6:World) (o i:Value) (wr:World):Prop :=
 ∃ j:Nat,j≤l.length∧i=.int .i64 j∧OwnW 2 encP2 134 β wr o (E++(l.take j).map fun v=>(x,v))∧Acc β lo w6.heap.size w6 wr o
theorem litP2 {w0 u:World} (_:Ex w0 u) (x y:Int):∃ g v,g=u.heap.size∧v=u.alloc (.cells #[.int .i64 x,.int .i64 y] 134)∧Sl 2 encP2 v (some ⟨g,0,none⟩) 1 [(x,y)]∧Ex u v :=
 ⟨_,_,rfl,rfl,Sl.lit [(x,y)] rfl rfl (fun _=>rfl) rfl,Ex.new _ _⟩
set_option maxRecDepth 100000 in
set_option maxHeartbeats 16000000 in
theorem pairs_r (a:Option Addr) (n c:Nat) (N:List Nd) (a2:Option Addr) (n2 c2:Nat) (P:List Pr) (w:World) (h:Sl 3 encN w a n N) (hn:n≤1000) (h0:checkN N=0) (h2:PL w a2 n2 P) (hn2:n2≤1000000) (hP:∀ p∈P,p.known.length≤2000000∧p.near.length≤2000000) :
  Calls Tryz.prog 102 #[.slice a n c,.slice a2 n2 c2] w (PqPost (pairsN N P) w):=by
 have HL:=lH h.len
 have HC:=lH h0
 have hn64:n≤64:=by have:=check_len h0;have:=HL.out;omega
 have HS:=lH h
 have HPL:=lH h2
 have HP:=lH hP
 have HSP:Hid (SmallP P):=lH (fun p hp=>by have:=HP.out p hp;omega)
 clear h h0 h2 hP
 go_enter Tryz.func102,Tryz.ntmps102
 go_wp2_with fail
 go_loopw [5,6] (fun o i wr=>PaRel N P w o i wr) (fun _ i _=>n-(intOf i).toNat)
 case atStart=>exact ⟨0,Nat.zero_le _,rfl,OwnW.nil _ _ _ _ _,Ex.refl _⟩
 case round =>
  obtain ⟨j,hj,rfl,own,kw⟩:=hrel
  obtain ⟨wo,rfl⟩:∃ wo:World,wo=wr:=⟨_,rfl⟩
  by_cases hlt:j<n
  ·obtain ⟨x3,o3,x,rfl,hx3,hy,hc3⟩:=(HS.out.nx kw).at hlt
   have e0:wo.cell? ⟨x3,o3+j*3,none⟩=some (.int .i64 x.id):=hc3 0 _ rfl
   have HY:=lH hy
   have SN:=lH (prsU_snoc (P:=P) hy)
   have PE:=prsU_len HC.out P j
   have KW:=lH kw
   have hzo:=kw.size
   have BLO:=lH (fun g hg=>own.blk_lt (g:=g) hg)
   clear hc3 hy kw hj
   go_wp2_with fail
   (with_reducible refine (peer_r _ _ _ P x.id _ (HPL.out.nx KW.out) hn2 HSP.out).mono ?_)
   rintro e w6 ⟨hk,hq,rfl,ok1,ok2,kk⟩
   replace own:=own.nx kk
   have K6:=lH kk
   have hz6:=kk.size
   have hpl:=peerN_small HP.out x.id
   generalize peerN P x.id=p at ok1 ok2 hpl SN ⊢
   obtain ⟨A1,C1,E1,r1,z1⟩:=ok1.rdz (fun _=>rfl)
   obtain ⟨A2,C2,E2,r2,z2⟩:=ok2.rdz (fun _=>rfl)
   rw [E1,E2]
   have s1:Sl 1 encI w6 A1 p.known.length p.known:=r1.mono (fun _ hk=>hk.2)
   have s2:Sl 4 encNr w6 A2 p.near.length p.near:=r2.mono (fun _ hk=>hk.2)
   clear kk ok1 ok2 r1 r2 z2 E1 E2 e0
   go_wp2_with fail
   (with_reducible refine (refs_r _ _ _ N p _ _ _ _ _ _ _ (HS.out.nx (KW.out.nx K6.out)) hn s1 s2 hpl.1 hpl.2 z1).mono ?_)
   rintro e w7 ⟨v7,rfl,o7,kk⟩
   replace own:=own.nx kk
   obtain ⟨A7,C7,rfl,r7,_,_,_⟩:=o7.slf (fun _=>rfl)
   have R7:=lH r7
   have hlr:=refs_len HC.out p
   have K7:=lH (K6.out.nx kk)
   have hz7:=kk.size
   have A0:=lH (Acc.start (β:=w.heap.size) (lo:=w6.heap.size) (Nat.le_refl w7.heap.size) (fun g hg=>.inl (by have:=BLO.out g hg;omega)))
   generalize refsN N p=L at r7 R7 hlr SN ⊢
   have hLl:L.length≤64:=by have:=HL.out;omega
   generalize hE:prsU N P j=E at own PE SN
   clear o7 kk s1 s2 hpl z1 r7 hlr hE BLO
   go_wp2_with fail
   go_loopw [5,8] (fun o i wr=>PbRel x.id L E w.heap.size w6.heap.size w7 o i wr) (fun _ i _=>L.length-(intOf i).toNat)
   case atStart=>exact ⟨0,Nat.zero_le _,rfl,by simpa using own,A0.out⟩
   case round =>
    clear own A0
    obtain ⟨k,hk,rfl,own,ac⟩:=hrel
    obtain ⟨wp,rfl⟩:∃ wp:World,wp=wr:=⟨_,rfl⟩
    by_cases hkl:k<L.length
    ·obtain ⟨xr,or,id,rfl,hxr,hid,hcr⟩:=(ac.sl R7.out).at hkl
     have f0:wp.cell? ⟨xr,or+k,none⟩=some (.int .i64 id):=by simpa using hcr 0 _ rfl
     have F0:=lH (fun wq (k:Ex wp wq)=>Chg.cellv k f0 hxr)
     obtain ⟨x3',o3',x',he',hx3',hy',hc3'⟩:=(HS.out.nx (ac.ex (KW.out.nx K7.out))).at hlt
     cases he'
     obtain rfl:x=x':=Option.some.inj (HY.out.symm.trans hy')
     have e0:wp.cell? ⟨x3,o3+j*3,none⟩=some (.int .i64 x.id):=hc3' 0 _ rfl
     have X0:=lH (fun wq (k:Ex wp wq)=>Chg.cellv k e0 hx3')
     have LS:Hid ((L.take (k+1)).map (fun v=>(x.id,v))=(L.take k).map (fun v=>(x.id,v))++[(x.id,id)]):=lH (by rw [take_snocN L k id hid,List.map_append];rfl)
     have zb:=(ac.ex (KW.out.nx K7.out)).size
     have AC:=lH ac
     have OWN:=lH own
     have hl7:(E++(L.take k).map fun v=>(x.id,v)).length≤1000000:=by rw [List.length_append,List.length_map,List.length_take];omega
     clear hcr hid hxr f0 hy' hc3' hx3' e0 ac own
     generalize (L.take k).map (fun v=>(x.id,v))=R at OWN LS hl7
     go_upto_region 9 with fail
     refine wp_region_late_drew (S:=Ex wp) [12] (by kernel_rfl) ((Ex.refl wp).drew) (fun hHeld=>?_)
     obtain ⟨wd,hwdx⟩:∃ wd:World,wd=World.drew wp:=⟨_,rfl⟩
     rw [← hwdx] at hHeld ⊢
     have hDrew:Ex wp wd:=by rw [hwdx];exact (Ex.refl wp).drew
     clear hwdx
     refine tkL 0 (v:=?_) rfl (by kernel_rfl) (fun _ _ _ h=>h) (by rfl) ?y5 hHeld ?_
     case y5=>intro wq hSw;go_simp<;>rfl
     refine tkL 1 (v:=?_) rfl (by kernel_rfl) (fun _ _ _ h=>h) (by rfl) ?y8 hHeld ?_
     case y8=>intro wq hSw;go_simp<;>rfl
     refine tkL 2 (v:=?_) rfl (by kernel_rfl) (fun _ _ _ h=>h) (by rfl) ?y11 hHeld ?_
     case y11=>intro wq hSw;go_simp<;>rfl
     refine tkL 3 (v:=?_) rfl (by kernel_rfl) (fun _ _ _ h=>h) (by rfl) ?y14 hHeld ?_
     case y14=>intro wq hSw;go_simp<;>rfl
     refine tkL 4 (v:=?_) rfl (by kernel_rfl) (fun _ _ _ h=>h) (by rfl) ?y17 hHeld ?_
     case y17=>intro wq hSw;go_simp<;>rfl
     refine tkL 5 (v:=?_) rfl (by kernel_rfl) (fun _ _ _ h=>h) (by rfl) ?y20 hHeld ?_
     case y20=>intro wq hSw;(have cq:=X0.out wq hSw;go_simp)<;>rfl
     refine tkL 6 (v:=?_) rfl (by kernel_rfl) (fun _ _ _ h=>h) (by rfl) ?y23 hHeld ?_
     case y23=>intro wq hSw;go_simp<;>rfl
     refine tkL 7 (v:=?_) rfl (by kernel_rfl) (fun _ _ _ h=>h) (by rfl) ?y26 hHeld ?_
     case y26=>intro wq hSw;go_simp<;>rfl
     refine tkL 8 (v:=?_) rfl (by kernel_rfl) (fun _ _ _ h=>h) (by rfl) ?y29 hHeld ?_
     case y29=>intro wq hSw;go_simp<;>rfl
     refine tkL 9 (v:=?_) rfl (by kernel_rfl) (fun _ _ _ h=>h) (by rfl) ?y32 hHeld ?_
     case y32=>intro wq hSw;(have cq:=F0.out wq hSw;go_simp)<;>rfl
     refine tkL 10 (v:=?_) rfl (by kernel_rfl) (fun _ _ _ h=>h) (by rfl) ?y35 hHeld ?_
     case y35=>intro wq hSw;go_simp<;>rfl
     refine rL 11 (by kernel_rfl) rfl fun K hK=>?_
     go_simp
     obtain ⟨g8,wz,hg8,hwz,SZ,kk⟩:=litP2 hHeld x.id id
     rw [← hg8,← hwz]
     clear hg8 hwz
     replace hHeld:=hHeld.nx kk
     clear kk
     refine hK.out _ _ (hHeld) (fun hHeld=>?_)
     clear hK K
     refine rLL 12 (by kernel_rfl) rfl (by rfl) fun K hK=>?_
     rw [if_pos (by rfl)]
     have own7:=OWN.out.nx hHeld
     have zc:=Nat.le_trans zb hHeld.size
     refine wp_append_W (enc:=encP2) _ (.tmp 30) (.tmp 41) 132 rfl w.heap.size 134 (.agg #[.int .i64 0,.int .i64 0]) 2 16 Tryz.underlying132 Tryz.infoP2 rfl (by omega) (by omega) _ _ own7 rfl _ 1 1 [(x.id,id)] SZ (fun _=>rfl) encP2_one rfl hl7 (by omega) zc ?_
     intro v6 w9 own9 ch0 ch1 hv
     have RR:=lH (show PbRel x.id L E w.heap.size w6.heap.size w7 v6 (.int .i64 ((k:Int)+1)) w9 from ⟨k+1,by omega,by go_num,by rw [LS.out,← List.append_assoc];exact own9,(AC.out.nx hHeld).step (fun g hg=>(own7.blk hg).1) ch0 hv⟩)
     clear own7 own9 ch0 hv SZ hHeld
     refine hK.out _ _ ?_
     clear hK K
     refine wpAnyL_takeP (i:=13) (oi:=⟨_,_,_,_,_,_⟩) (v:=?_) rfl (by kernel_rfl) (by kernel_rfl) (by kernel_rfl) (fun _ _ _ h=>h) (Or.inl ⟨by rfl,?y61⟩) ?_
     case y61=>intro wq hSw;go_simp<;>rfl
     refine wpAnyL_done (by kernel_rfl) ?_ _
     go_wp2_with fail
     exact ⟨RR.out,by simp [intOf];omega⟩
    ·obtain rfl:k=L.length:=by omega
     rw [List.take_of_length_le (Nat.le_refl _),← SN.out] at own
     have RR:=lH (show PaRel N P w u5 (.int .i64 ((j:Int)+1)) wp from ⟨j+1,by have:=HL.out;omega,by go_num,own,ac.ex (KW.out.nx K7.out)⟩)
     clear own ac
     go_wp2_with fail
     exact ⟨RR.out,by simp [intOf];omega⟩
  ·have hjN:j=N.length:=by have:=HL.out;omega
   have hjn:j=n:=by have:=HL.out;omega
   rw [hjN,prsU_all] at own
   have OW:=lH own
   have K1:=lH kw
   clear own kw hj hjN hjn
   go_wp2_with fail
   go_ret
   exact ⟨_,rfl,OW.out,K1.out⟩
end Go.Proofs.YtalmjklljofhbaaGreatDoor
