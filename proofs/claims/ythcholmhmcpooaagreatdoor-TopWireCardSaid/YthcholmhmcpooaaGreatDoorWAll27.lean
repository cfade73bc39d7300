/- Shared texts. -/
import Derived.Test.YthcholmhmcpooaaGreatDoorWAll19
import Derived.Test.YthcholmhmcpooaaGreatDoorWAll24
set_option linter.unusedSimpArgs false
set_option linter.unusedVariables false

namespace Go.Proofs.YthcholmhmcpooaaGreatDoor
open Go.RowKit
theorem norm1_p (gx:Nat) (x:Nd) (w:World) (hx:Blk w gx [.int .i64 x.id,.string x.key,.int .u32 x.word] 36):PredI 158 #[.pointer (some ⟨gx,0,none⟩)] x.id w:=by
 intro p h1 h2 w' kk
 have q0:=(hx.nx kk).cell 0 _ rfl
 have hg:=(hx.nx kk).lt
 have hne:¬ gx=w'.heap.size:=by omega
 obtain ⟨a1,n1,c1⟩:=h1
 obtain ⟨a2,n2,c2⟩:=h2
 simp only [Hdr.val]
 clear hx kk
 go_enter Tryz.func158,Tryz.ntmps158
 go_wp2
 go_ret
 exact ⟨rfl,(Ex.refl _).alloc _⟩
def NoRel (S:List Nd) (P:List Pr) (w:World) (o i:Value) (wr:World):Prop :=
 ∃ (j:Nat) (qs:List PQ),j≤S.length∧i=.int .i64 j∧OwnPr w.heap.size wr o qs ((S.take j).map fun x=>peerN P x.id)∧Ex w wr
theorem no_snoc {S:List Nd} {P:List Pr} {j:Nat} {x:Nd} (hy:S[j]?=some x):((S.take (j+1)).map fun x=>peerN P x.id)=((S.take j).map fun x=>peerN P x.id)++[peerN P x.id]:=by
 rw [take_snocN S j x hy,List.map_append];rfl
set_option maxRecDepth 100000 in
set_option maxHeartbeats 8000000 in
theorem normal_p (a:Option Addr) (n c:Nat) (N:List Nd) (a2:Option Addr) (n2 c2:Nat) (P:List Pr) (w:World) (h:Sl 3 encN w a n N) (hn:n≤1000) (hc:n≤c) (hm:c≤maxLen) (h2:PL w a2 n2 P) (hn2:n2≤4000000000000000000) (hP:SmallP P) :
  Calls Tryz.prog 84 #[.slice a n c,.slice a2 n2 c2] w (PlPost (normalN N P) w):=by
 have HL:=lH h.len
 have HP:=lH hP
 clear hP
 have EG:Hid (∀ args w,(callFunc 158 args).run Tryz.prog w=.ok (.enter 158 args) w):=lH (enters_of Tryz.func158 (by kernel_rfl) rfl)
 have H2:=lH h2
 clear h2
 go_enter Tryz.func84,Tryz.ntmps84
 go_wp2_with fail
 (with_reducible refine (check_p _ _ _ _ _ h (by omega) hc hm).mono ?_)
 rintro e w0 ⟨rfl,kk⟩
 replace h:=h.nx kk
 have K0:=lH kk
 clear kk
 by_cases hck:checkN N=0
 case neg =>
  have d1:(checkN N != 0)=true:=by simpa using hck
  have E0:Hid (normalN N P=[]):=lH (by unfold normalN;rw [if_neg hck])
  clear h hck
  go_wp2_with fail
  go_ret
  exact ⟨_,[],rfl,by rw [E0.out];exact OwnP.nil _ _ _ _ _,K0.out⟩
 have d1:(checkN N != 0)=false:=by simpa using hck
 have E0:Hid (normalN N P=(sortN N).map fun x=>peerN P x.id):=lH (by unfold normalN;rw [if_pos hck])
 have HC:=lH hck
 clear hck
 go_wp2_with fail
 (with_reducible refine (sort_p _ _ _ _ _ h hn).mono ?_)
 rintro e w1 ⟨v,S,rfl,OS,⟨hp,hsrt⟩,kk⟩
 have hSe:S=sortN N:=sortN_unique (check_keys HC.out) hp hsrt
 subst hSe
 obtain ⟨a1,c1,rfl,S1,_,_⟩:=sorted_own HC.out OS
 rw [HL.out] at S1 ⊢
 have hSl:(sortN N).length=n:=by rw [S1.len]
 generalize sortN N=S at S1 hSl E0 ⊢
 have S1:=lH S1
 have K1:=lH (K0.out.nx kk)
 have HSL:=lH hSl
 have z01:=K1.out.size
 clear h OS kk hp hsrt hSl
 go_wp2_with fail
 go_loopw [5,16] (fun o i wr=>NoRel S P w1 o i wr) (fun _ i _=>n-(intOf i).toNat)
 case atStart=>exact ⟨0,[],by omega,rfl,OwnP.nil _ _ _ _ _,Ex.refl _⟩
 case round =>
  obtain ⟨j,qs,hj,rfl,own,ki⟩:=hrel
  rw [HSL.out] at hj
  obtain ⟨wi,rfl⟩:∃ wi:World,wi=wr:=⟨_,rfl⟩
  by_cases hjm:j<n
  ·obtain ⟨x3,o3,x,rfl,hx3,hy,hc3⟩:=(S1.out.nx ki).at hjm
   have e0:wi.cell? ⟨x3,o3+j*3,none⟩=some (.int .i64 x.id):=hc3 0 _ rfl
   have e1:wi.cell? ⟨x3,o3+j*3+1,none⟩=some (.string x.key):=hc3 1 _ rfl
   have e2:wi.cell? ⟨x3,o3+j*3+1+1,none⟩=some (.int .u32 x.word):=by simpa [Nat.add_assoc] using hc3 2 _ rfl
   have SN:=lH (no_snoc (P:=P) hy)
   have hql:qs.length=j:=by rw [own.2.1,List.length_map,List.length_take,HSL.out];omega
   have hwi:=ki.size
   have KI:=lH ki
   have OWN:=lH own
   clear hy own ki hc3
   have B7:=Blk.new wi [.int .i64 x.id,.string x.key,.int .u32 x.word] 36
   have kk:=Ex.new wi (.cells #[.int .i64 x.id,.string x.key,.int .u32 x.word] 36)
   obtain ⟨w4,hw4⟩:∃ w4,w4=wi.alloc (.cells #[.int .i64 x.id,.string x.key,.int .u32 x.word] 36):=⟨_,rfl⟩
   obtain ⟨g7,hg7⟩:∃ g7,g7=wi.heap.size:=⟨_,rfl⟩
   replace B7:Blk w4 g7 [.int .i64 x.id,.string x.key,.int .u32 x.word] 36:=by rw [hw4,hg7];exact B7
   rw [← hw4] at kk
   have Hw4:=lH hw4
   have Hg7:=lH hg7
   have zg7:wi.heap.size≤g7:=by omega
   have K4:=lH kk
   clear kk hw4 hg7
   go_upto_region 7 with fail
   rw [← Hg7.out,← Hw4.out]
   clear Hg7 Hw4
   have q0:=B7.cell 0 _ rfl
   clear e0 e1 e2
   have hz4:=K4.out.size
   have hl7:=B7.lt
   have B8:=Blk.new w4 [.int .i64 x.id,.slice none 0 0,.int .i64 0,.int .i64 0,.slice none 0 0] 150
   have kk:=Ex.new w4 (.cells #[.int .i64 x.id,.slice none 0 0,.int .i64 0,.int .i64 0,.slice none 0 0] 150)
   obtain ⟨w5,hw5⟩:∃ w5,w5=w4.alloc (.cells #[.int .i64 x.id,.slice none 0 0,.int .i64 0,.int .i64 0,.slice none 0 0] 150):=⟨_,rfl⟩
   obtain ⟨g8,hg8⟩:∃ g8,g8=w4.heap.size:=⟨_,rfl⟩
   replace B8:Blk w5 g8 [.int .i64 x.id,.slice none 0 0,.int .i64 0,.int .i64 0,.slice none 0 0] 150:=by rw [hw5,hg8];exact B8
   rw [← hw5] at kk
   have Hw5:=lH hw5
   have Hg8:=lH hg8
   replace B7:=B7.nx kk
   replace K4:=lH (K4.out.nx kk)
   have zg8:wi.heap.size≤g8:=by omega
   clear kk hw5 hg8
   go_upto_region 8 with fail
   rw [← Hg8.out,← Hw5.out]
   clear Hg8 Hw5
   clear q0
   have PI:=norm1_p g7 x w5 B7
   replace B8:=lH B8
   clear B7
   go_wp2_with fail
   (with_reducible refine (idxf_pr _ _ _ EG.out _ _ _ P _ (H2.out.nx (K1.out.nx (KI.out.nx K4.out))) hn2 PI).mono ?_)
   rintro e w6 ⟨rfl,kk⟩
   replace B8:=lH (B8.out.nx kk)
   replace K4:=lH (K4.out.nx kk)
   have HG8:=lH B8.out.lt
   clear kk PI
   rcases idxQ_cases P x.id with ⟨k,y,hq,hkl,hyk,hpy,-⟩ | ⟨hq,hpy⟩
   ·have hk2:k<n2:=by have:=H2.out.len;omega
    obtain ⟨x5,o5,b1,m1,d1,b4,m4,d4,y',rfl,hx5,hy',e0,e1,e2,e3,e4,s1,s4⟩:=(H2.out.nx (K1.out.nx KI.out)).rd hk2
    obtain rfl:y=y':=Option.some.inj (hyk.symm.trans hy')
    have HPY:=lH hpy
    have hyP:=HP.out y (List.mem_of_getElem? hyk)
    have hl1:m1≤17592186044416:=by have:=s1.len;omega
    have hl4:m4≤4398046511104:=by have:=s4.len;omega
    have S1y:=lH s1
    have S4y:=lH s4
    have c0:=Chg.cellv K4.out e0 hx5
    have c1:=Chg.cellv K4.out e1 hx5
    have c2:=Chg.cellv K4.out e2 hx5
    have c3:=Chg.cellv K4.out e3 hx5
    have c4:=Chg.cellv K4.out e4 hx5
    have f0:=B8.out.free 0
    have f1:=B8.out.free 1
    have f2:=B8.out.free 2
    have f3:=B8.out.free 3
    have f4:=B8.out.free 4
    have r0:=B8.out.cell 0 _ rfl
    have r1:=B8.out.cell 1 _ rfl
    have r2:=B8.out.cell 2 _ rfl
    have r3:=B8.out.cell 3 _ rfl
    have r4:=B8.out.cell 4 _ rfl
    have hk0:(0:Int)≤(k:Int):=by omega
    rw [hq]
    clear hq hkl hyk hpy hyP e0 e1 e2 e3 e4 s1 s4 hy' hx5
    go_upto_region 11 with fail
    have KB0:Exb g8 w6 (((((w6.setCell ⟨g8,0,none⟩ (.int .i64 y.id)).setCell ⟨g8,1,none⟩ (.slice b1 m1 d1)).setCell ⟨g8,2,none⟩ (.int .i64 y.left)).setCell ⟨g8,3,none⟩ (.int .i64 y.right)).setCell ⟨g8,4,none⟩ (.slice b4 m4 d4)) :=
     (((((Exb.refl g8 w6).setB (p:=⟨g8,0,none⟩) _ rfl).setB (p:=⟨g8,1,none⟩) _ rfl).setB (p:=⟨g8,2,none⟩) _ rfl).setB (p:=⟨g8,3,none⟩) _ rfl).setB (p:=⟨g8,4,none⟩) _ rfl
    have BS0:=((((B8.out.set 0 (.int .i64 y.id)).set 1 (.slice b1 m1 d1)).set 2 (.int .i64 y.left)).set 3 (.int .i64 y.right)).set 4 (.slice b4 m4 d4)
    obtain ⟨w7,hw7⟩:∃ w7,w7=(((((w6.setCell ⟨g8,0,none⟩ (.int .i64 y.id)).setCell ⟨g8,1,none⟩ (.slice b1 m1 d1)).setCell ⟨g8,2,none⟩ (.int .i64 y.left)).setCell ⟨g8,3,none⟩ (.int .i64 y.right)).setCell ⟨g8,4,none⟩ (.slice b4 m4 d4)):=⟨_,rfl⟩
    rw [← hw7] at KB0 BS0
    have BS:Blk w7 g8 [.int .i64 y.id,.slice b1 m1 d1,.int .i64 y.left,.int .i64 y.right,.slice b4 m4 d4] 150:=BS0
    have K8:=lH (Exl.nxb (b:=g8) (w:=wi) ⟨K4.out,zg8⟩ KB0).1
    rw [← hw7]
    have hg8l:=BS.lt
    have B8s:=lH BS
    have hz8:=K8.out.size
    clear hw7 KB0 BS0 BS c0 c1 c2 c3 c4 f0 f1 f2 f3 f4 r0 r1 r2 r3 r4 B8 K4
    refine wp_region_late_drew (S:=Ex w7) [7,8,9] (by kernel_rfl) ((Ex.refl w7).drew) (fun hHeld=>?_)
    refine tkL 0 (v:=?_) rfl (by kernel_rfl) (fun _ _ _ h=>h) (by rfl) ?y1 hHeld ?_
    case y1=>intro wq hSw;go_simp<;>rfl
    refine tkL 1 (v:=?_) rfl (by kernel_rfl) (fun _ _ _ h=>h) (by rfl) ?y4 hHeld ?_
    case y4=>intro wq hSw;(have cq:=(B8s.out.nx hSw).cell 1 _ rfl;go_simp)<;>rfl
    refine tkL 3 (v:=?_) rfl (by kernel_rfl) (fun _ _ _ h=>h) (by rfl) ?y7 hHeld ?_
    case y7=>intro wq hSw;go_simp<;>rfl
    refine tkL 4 (v:=?_) rfl (by kernel_rfl) (fun _ _ _ h=>h) (by rfl) ?y10 hHeld ?_
    case y10=>intro wq hSw;(have cq:=(B8s.out.nx hSw).cell 4 _ rfl;go_simp)<;>rfl
    refine rL 2 (by kernel_rfl) rfl fun K hK=>?_
    go_simp
    (with_reducible refine (clone_i _ _ _ _ _ ((S1y.out.nx K8.out).nx hHeld) hl1).mono ?_)
    rintro e wc ⟨vc,rfl,own2,kk⟩
    (try replace own5:=own5.nx kk)
    obtain ⟨A2,C2,rfl,_,_,_,_⟩:=own2.slf (fun _=>rfl)
    replace own2:=own2.base hHeld.size
    replace hHeld:=hHeld.nx kk
    clear kk
    have BQ:=B8s.out.nx hHeld
    have KZ:=hHeld.b g8
    refine hK.out _ _ (hHeld) (fun hHeld=>?_)
    clear hK K
    refine tkL 6 (v:=?_) rfl (by kernel_rfl) (fun _ _ _ h=>h) (by rfl) ?y28 hHeld ?_
    case y28=>intro wq hSw;go_simp<;>rfl
    refine rL 5 (by kernel_rfl) rfl fun K hK=>?_
    go_simp
    (with_reducible refine (clone_nr _ _ _ _ _ ((S4y.out.nx K8.out).nx hHeld) hl4).mono ?_)
    rintro e wc ⟨vc,rfl,own5,kk⟩
    (try replace own2:=own2.nx kk)
    obtain ⟨A5,C5,rfl,_,_,_,_⟩:=own5.slf (fun _=>rfl)
    replace own5:=own5.base hHeld.size
    replace hHeld:=hHeld.nx kk
    clear kk
    have BQ:=B8s.out.nx hHeld
    have KZ:=hHeld.b g8
    refine hK.out _ _ (hHeld) (fun hHeld=>?_)
    clear hK K
    refine rLL 7 (by kernel_rfl) rfl (by rfl) fun K hK=>?_
    have cq:=BQ.cell 1 _ rfl
    have fq:=BQ.free 1
    go_simp
    clear cq fq
    replace BQ:=BQ.set 1 (.slice A2 y.known.length C2)
    replace own2:=own2.nxb hg8l ((Exb.refl g8 _).setB (p:=⟨g8,1,none⟩) (.slice A2 y.known.length C2) rfl)
    replace own5:=own5.nxb hg8l ((Exb.refl g8 _).setB (p:=⟨g8,1,none⟩) (.slice A2 y.known.length C2) rfl)
    replace KZ:=KZ.setB (p:=⟨g8,1,none⟩) (.slice A2 y.known.length C2) rfl
    refine hK.out _ _ ?_
    clear hK K
    refine rLL 8 (by kernel_rfl) rfl (by rfl) fun K hK=>?_
    go_simp
    refine hK.out _ _ ?_
    clear hK K
    refine rLL 9 (by kernel_rfl) rfl (by rfl) fun K hK=>?_
    have cq:=BQ.cell 4 _ rfl
    have fq:=BQ.free 4
    go_simp
    clear cq fq
    replace BQ:=BQ.set 4 (.slice A5 y.near.length C5)
    replace own2:=own2.nxb hg8l ((Exb.refl g8 _).setB (p:=⟨g8,4,none⟩) (.slice A5 y.near.length C5) rfl)
    replace own5:=own5.nxb hg8l ((Exb.refl g8 _).setB (p:=⟨g8,4,none⟩) (.slice A5 y.near.length C5) rfl)
    replace KZ:=KZ.setB (p:=⟨g8,4,none⟩) (.slice A5 y.near.length C5) rfl
    refine hK.out _ _ ?_
    clear hK K
    refine wpAnyL_done (by kernel_rfl) ?_ _
    obtain ⟨wz,hwz⟩:∃ wz,wz=(wc.setCell ⟨g8,1,none⟩ (.slice A2 y.known.length C2)).setCell ⟨g8,4,none⟩ (.slice A5 y.near.length C5):=⟨_,rfl⟩
    rw [← hwz] at BQ own2 own5 KZ ⊢
    clear hwz
    have BF:Blk wz g8 [.int .i64 y.id,.slice A2 y.known.length C2,.int .i64 y.left,.int .i64 y.right,.slice A5 y.near.length C5] 150:=BQ
    have p0:=BF.cell 0 _ rfl
    have p1:=BF.cell 1 _ rfl
    have p2:=BF.cell 2 _ rfl
    have p3:=BF.cell 3 _ rfl
    have p4:=BF.cell 4 _ rfl
    have KW:=lH (Exl.nxb (b:=g8) (w:=wi) ⟨K8.out,zg8⟩ KZ).1
    have OP:=lH (OWN.out.nx KW.out)
    have zw:=KW.out.size
    replace own2:=lH (own2.base hz8)
    replace own5:=lH (own5.base hz8)
    have hw3:w1.heap.size≤wi.heap.size:=hwi
    have KN:=KW.out.nx (Ex.new _ (.cells #[.int .i64 y.id,.slice A2 y.known.length C2,.int .i64 y.left,.int .i64 y.right,.slice A5 y.near.length C5] 150))
    have zn:=Nat.le_trans hw3 KN.size
    clear BQ BF KZ hHeld
    go_wp2_with (at_builtin;(refine wpList_append_W (enc:=encQ) _ rfl _ _ 53 rfl w1.heap.size 150 (.agg #[.int .i64 0,.slice none 0 0,.int .i64 0,.int .i64 0,.slice none 0 0]) 5 72 Tryz.underlying53 Tryz.infoPr rfl (by omega) (by omega) _ qs (OP.out.nx (Ex.new _ _)).row rfl _ 1 1 [(y.nums,(A2,y.known.length,C2),(A5,y.near.length,C5))] (Sl.lit _ rfl rfl encQ_len rfl) encQ_len encQ_one rfl (by omega) (by omega) zn ?_);intro v9 w9 own9 ch0 ch1 _)
    have RR:=OWN.out.app (by decide) (by decide) hw3 KN (own2.out.nx (Ex.new _ _)) (own5.out.nx (Ex.new _ _)) own9 ch0
    exact ⟨⟨j+1,_,by rw [HSL.out];omega,by go_num,by rw [SN.out,HPY.out];exact RR,Chg.trans (KI.out.nx KN) ch1⟩,by simp [intOf];omega⟩
   ·have HPY:=lH hpy
    have hw3:w1.heap.size≤wi.heap.size:=hwi
    have r0:=B8.out.cell 0 _ rfl
    have r1:=B8.out.cell 1 _ rfl
    have r2:=B8.out.cell 2 _ rfl
    have r3:=B8.out.cell 3 _ rfl
    have r4:=B8.out.cell 4 _ rfl
    have KN:=K4.out.nx (Ex.new _ (.cells #[.int .i64 x.id,.slice none 0 0,.int .i64 0,.int .i64 0,.slice none 0 0] 150))
    have zn:=Nat.le_trans hw3 KN.size
    have OP:=lH (OWN.out.nx K4.out)
    rw [hq]
    clear hq hpy
    go_wp2_with (at_builtin;(refine wpList_append_W (enc:=encQ) _ rfl _ _ 53 rfl w1.heap.size 150 (.agg #[.int .i64 0,.slice none 0 0,.int .i64 0,.int .i64 0,.slice none 0 0]) 5 72 Tryz.underlying53 Tryz.infoPr rfl (by omega) (by omega) _ qs (OP.out.nx (Ex.new _ _)).row rfl _ 1 1 [((x.id,0,0),(none,0,0),(none,0,0))] (Sl.lit _ rfl rfl encQ_len rfl) encQ_len encQ_one rfl (by omega) (by omega) zn ?_);intro v9 w9 own9 ch0 ch1 _)
    have RR:=OWN.out.app (p:=⟨x.id,0,0,[],[]⟩) (hk:=(none,0,0)) (hn:=(none,0,0)) (by decide) (by decide) hw3 KN (OwnL.nil _ _ _ _ _) (OwnL.nil _ _ _ _ _) own9 ch0
    exact ⟨⟨j+1,_,by rw [HSL.out];omega,by go_num,by rw [SN.out,HPY.out];exact RR,Chg.trans (KI.out.nx KN) ch1⟩,by simp [intOf];omega⟩
  ·obtain rfl:j=n:=by omega
   rw [List.take_of_length_le (by rw [HSL.out];exact Nat.le_refl _)] at own
   have OWN:=lH (own.lower z01)
   have KI:=lH (K1.out.nx ki)
   clear own ki hj hjm
   go_wp2_with fail
   go_ret
   exact ⟨_,qs,rfl,by rw [E0.out];exact OWN.out,KI.out⟩
set_option maxHeartbeats 1000000 in
theorem row1_p (g2 g5:Nat) (a:Option Addr) (n c:Nat) (N:List Nd) (own:Nd) (w:World) (h2:Blk w g2 [.slice a n c] 25) (h5:Blk w g5 [.int .i64 own.id,.string own.key,.int .u32 own.word] 36) (hs:Sl 3 encN w a n N) (hn:n≤1000) :
  PredZ 223 #[.pointer (some ⟨g2,0,none⟩),.pointer (some ⟨g5,0,none⟩)] (gtP N own) w:=by
 intro id w' kk
 have q0:=(h2.nx kk).cell 0 _ rfl
 have B5:=h5.nx kk
 have HS:=lH (hs.nx kk)
 have HG:Hid (gtP N own id = !(Op.bytesLess (findN N id).1.key.toList own.key.toList||((findN N id).1.key.toList==own.key.toList))):=lH rfl
 clear h2 h5 hs kk
 go_enter Tryz.func223,Tryz.ntmps223
 go_wp2_with fail
 (with_reducible refine (find_p _ _ _ _ id _ HS.out (by omega)).mono ?_)
 rintro e w1 ⟨rfl,kk⟩
 replace B5:=B5.nx kk
 have K1:=lH kk
 clear kk q0 HS
 generalize findN N id=F at HG ⊢
 obtain ⟨⟨xi,xk,xw⟩,ok⟩:=F
 simp only at HG
 have q5:=B5.cell 1 _ rfl
 have hg5:=B5.lt
 have hne:¬ g5=w1.heap.size:=by omega
 have KE:=lH (K1.out.nx (Ex.new w1 (.cells #[.int .i64 xi,.string xk,.int .u32 xw] 36)))
 simp only [Nd.val]
 clear B5 K1
 go_wp2_with fail
 go_ret
 exact ⟨by rw [HG.out,Bool.not_or];rfl,KE.out⟩
theorem ar_no {N:List Nd} {p:Pr} (h:¬ ((findN N p.id).2=true∧checkN N=0)):arN N p=[]:=by unfold arN;rw [if_neg h]
set_option maxRecDepth 100000 in
set_option maxHeartbeats 4000000 in
theorem row_p (a:Option Addr) (n c:Nat) (N:List Nd) (p:Pr) (a1:Option Addr) (n1 c1:Nat) (a2:Option Addr) (n2 c2:Nat) (w:World) (h:Sl 3 encN w a n N) (hn:n≤1000) (hc:n≤c) (hm:c≤maxLen) (h1:Sl 1 encI w a1 n1 p.known) (h2:Sl 4 encNr w a2 n2 p.near) (hn1:n1≤4000000000000000000) (hn2:n2≤4000000000000000000) :
  Calls Tryz.prog 203 #[.slice a n c,.agg #[.int .i64 p.id,.slice a1 n1 c1,.int .i64 p.left,.int .i64 p.right,.slice a2 n2 c2]] w (OiPost (arN N p) w):=by
 have HL:=lH h.len
 have EX:=Ex.refl w
 have EG:Hid (∀ args w,(callFunc 223 args).run Tryz.prog w=.ok (.enter 223 args) w):=lH (enters_of Tryz.func223 (by kernel_rfl) rfl)
 obtain ⟨g2,hg2⟩:∃ g2,g2=w.heap.size:=⟨_,rfl⟩
 obtain ⟨g3,hg3⟩:∃ g3,g3=(w.heap.size+1):=⟨_,rfl⟩
 obtain ⟨w1,hw1⟩:∃ w1,w1=((w.alloc (.cells #[.slice a n c] 25)).alloc (.cells #[.int .i64 p.id,.slice a1 n1 c1,.int .i64 p.left,.int .i64 p.right,.slice a2 n2 c2] 150)):=⟨_,rfl⟩
 have kk:Ex w w1:=by rw [hw1];exact (((Ex.refl w).alloc (.cells #[.slice a n c] 25)).alloc (.cells #[.int .i64 p.id,.slice a1 n1 c1,.int .i64 p.left,.int .i64 p.right,.slice a2 n2 c2] 150))
 have B2:Blk w1 g2 [.slice a n c] 25:=by rw [hw1];simp only [hg2,hg3];have hbk:=((Blk.new w [.slice a n c] 25).nx (Ex.new _ (.cells #[.int .i64 p.id,.slice a1 n1 c1,.int .i64 p.left,.int .i64 p.right,.slice a2 n2 c2] 150)));simpa using hbk
 have B3:Blk w1 g3 [.int .i64 p.id,.slice a1 n1 c1,.int .i64 p.left,.int .i64 p.right,.slice a2 n2 c2] 150:=by rw [hw1];simp only [hg2,hg3];have hbk:=(Blk.new (w.alloc (.cells #[.slice a n c] 25)) [.int .i64 p.id,.slice a1 n1 c1,.int .i64 p.left,.int .i64 p.right,.slice a2 n2 c2] 150);simpa using hbk
 have Hw1:=lH hw1
 have Hg2:=lH hg2
 have Hg3:=lH hg3
 replace h:=h.nx kk
 replace h1:=h1.nx kk
 replace h2:=h2.nx kk
 replace EX:=EX.nx kk
 clear kk hw1 hg2 hg3
 go_enter Tryz.func203,Tryz.ntmps203
 go_upto_region 1 with fail
 rw [← Hw1.out,← Hg3.out,← Hg2.out]
 clear Hw1 Hg3 Hg2
 have q2:=B2.cell 0 _ rfl
 have q3:=B3.cell 0 _ rfl
 go_wp2_with fail
 (with_reducible refine (find_p _ _ _ _ p.id _ h (by omega)).mono ?_)
 rintro e w2 ⟨rfl,kk⟩
 replace h:=h.nx kk
 replace h1:=h1.nx kk
 replace h2:=h2.nx kk
 replace EX:=EX.nx kk
 replace B2:=B2.nx kk
 replace B3:=B3.nx kk
 clear kk
 clear q2 q3
 have HNO:=lH (ar_no (N:=N) (p:=p))
 have HFM:=lH (fun hf=>findN_mem (l:=N) (id:=p.id) hf)
 obtain ⟨F,hF⟩:∃ F,F=findN N p.id:=⟨_,rfl⟩
 have HF:=lH hF
 rw [← hF] at HNO ⊢
 clear hF
 obtain ⟨⟨xi,xk,xw⟩,ok⟩:=F
 have B5:=Blk.new w2 [.int .i64 xi,.string xk,.int .u32 xw] 36
 have kk:=Ex.new w2 (.cells #[.int .i64 xi,.string xk,.int .u32 xw] 36)
 obtain ⟨w3,hw3⟩:∃ w3,w3=w2.alloc (.cells #[.int .i64 xi,.string xk,.int .u32 xw] 36):=⟨_,rfl⟩
 obtain ⟨g5,hg5⟩:∃ g5,g5=w2.heap.size:=⟨_,rfl⟩
 replace B5:Blk w3 g5 [.int .i64 xi,.string xk,.int .u32 xw] 36:=by rw [hw3,hg5];exact B5
 rw [← hw3] at kk
 have Hw3:=lH hw3
 have Hg5:=lH hg5
 replace h:=h.nx kk
 replace h1:=h1.nx kk
 replace h2:=h2.nx kk
 replace EX:=EX.nx kk
 replace B2:=B2.nx kk
 replace B3:=B3.nx kk
 clear kk hw3 hg5
 simp only [Nd.val]
 go_upto_region 2 with fail
 rw [← Hg5.out,← Hw3.out]
 clear Hg5 Hw3
 cases ok with
 | false =>
  have E0:Hid (arN N p=[]):=lH (HNO.out (fun hh=>by cases hh.1))
  have EX:=lH EX
  clear h h1 h2 B2 B3 B5
  go_wp2_with fail
  go_ret
  exact ⟨_,rfl,by rw [E0.out];exact OwnL.nil _ _ _ _ _,EX.out⟩
 | true =>
  have q2:=B2.cell 0 _ rfl
  go_wp2_with fail
  (with_reducible refine (check_p _ _ _ _ _ h (by omega) hc hm).mono ?_)
  rintro e w4 ⟨rfl,kk⟩
  replace h:=h.nx kk
  replace h1:=h1.nx kk
  replace h2:=h2.nx kk
  replace EX:=EX.nx kk
  replace B2:=B2.nx kk
  replace B3:=B3.nx kk
  replace B5:=B5.nx kk
  clear kk
  clear q2
  by_cases hck:checkN N=0
  case neg =>
   have d1:(checkN N != 0)=true:=by simpa using hck
   have E0:Hid (arN N p=[]):=lH (HNO.out (fun hh=>hck hh.2))
   have EX:=lH EX
   clear h h1 h2 B2 B3 B5 hck
   go_wp2_with fail
   go_ret
   exact ⟨_,rfl,by rw [E0.out];exact OwnL.nil _ _ _ _ _,EX.out⟩
  have d1:(checkN N != 0)=false:=by simpa using hck
  have HC:=lH hck
  clear hck HNO
  obtain ⟨hxN,hxi⟩:(⟨xi,xk,xw⟩:Nd)∈N∧xi=p.id:=by
   have:=HFM.out (by rw [← HF.out])
   rw [← HF.out] at this
   exact this
  have RL:=lH (row_law HC.out hxN (p:=p) hxi)
  clear hxN hxi HFM
  have q2:=B2.cell 0 _ rfl
  have q30:=B3.cell 0 _ rfl
  have q31:=B3.cell 1 _ rfl
  have q32:=B3.cell 2 _ rfl
  have q33:=B3.cell 3 _ rfl
  have q34:=B3.cell 4 _ rfl
  have z4:=EX.size
  go_wp2_with fail
  (with_reducible refine (refs_p _ _ _ N p _ _ _ _ _ _ _ h (by omega) hc hm h1 h2 hn1 hn2).mono ?_)
  rintro e w5 ⟨v,rfl,own,kk⟩
  replace h:=h.nx kk
  replace EX:=EX.nx kk
  replace B2:=B2.nx kk
  replace B3:=B3.nx kk
  replace B5:=B5.nx kk
  clear kk
  clear q2 q30 q31 q32 q33 q34 h1 h2
  replace own:=own.base z4
  obtain ⟨aR,cR,rfl,R1,hcR,hmR,_⟩:=own.slf (fun _=>rfl)
  have hrl:(refsN N p).length≤1000:=by
   have:=HL.out
   have h9:(refsN N p).length≤N.length:=by
    unfold refsN
    split
    ·exact ord_len _ _
    ·exact Nat.zero_le _
   omega
  generalize refsN N p=R at own R1 RL hcR hrl ⊢
  have RS:=R1.sl
  have PI:=row1_p g2 g5 a n c N ⟨xi,xk,xw⟩ w5 B2 B5 h hn
  go_wp2_with fail
  (with_reducible refine (idxf_z _ _ _ EG.out _ _ _ R _ RS (by omega) PI).mono ?_)
  rintro e w6 ⟨rfl,kk⟩
  replace own:=own.nx kk
  replace EX:=EX.nx kk
  replace B3:=B3.nx kk
  clear kk PI RS R1 B2 B5 h
  have zw:=EX.size
  have q30:=B3.cell 0 _ rfl
  have FIN:Hid (∀ (i:Nat),R.findIdx (gtP N ⟨xi,xk,xw⟩)=i→insZ R i p.id=arN N p):=lH (fun i hi=>by rw [← RL.out,← hi];rfl)
  rcases idxZ_cases (gtP N ⟨xi,xk,xw⟩) R with ⟨k,hq,hi,hk⟩ | ⟨hq,hi⟩
  ·rw [hq]
   have hk0:¬ (k:Int)<0:=by omega
   have HI:=lH (FIN.out k hi)
   have zw6:=EX.size
   have hne9:∀ g,g=w6.heap.size→¬ (Value.slice aR R.length cR).ownBlock=some g:=fun g hg hv=>by have:=(own.lt g hv).2;omega
   clear hq hi FIN
   have B9:=Blk.new w6 [.int .i64 p.id] 3
   have kk:=Ex.new w6 (.cells #[.int .i64 p.id] 3)
   obtain ⟨w7,hw7⟩:∃ w7,w7=w6.alloc (.cells #[.int .i64 p.id] 3):=⟨_,rfl⟩
   obtain ⟨g9,hg9⟩:∃ g9,g9=w6.heap.size:=⟨_,rfl⟩
   replace B9:Blk w7 g9 [.int .i64 p.id] 3:=by rw [hw7,hg9];exact B9
   rw [← hw7] at kk
   have Hw7:=lH hw7
   have Hg9:=lH hg9
   replace own:=own.nx kk
   replace EX:=EX.nx kk
   replace hne9:=lH (hne9 g9 hg9)
   clear kk hw7 hg9
   have zw7:=EX.size
   go_wp2_with fail
   rw [← Hg9.out,← Hw7.out]
   clear Hg9 Hw7 q30 B3
   (with_reducible refine (insert_i _ R w.heap.size k p.id g9 _ own zw7 (by omega) (by omega) B9 hne9.out).mono ?_)
   rintro e w8 ⟨v8,rfl,own8,ch⟩
   have FO:=lH own8
   have FE:=lH (Chg.trans EX ch)
   clear own8 ch own B9 EX
   go_wp2_with fail
   go_ret
   exact ⟨_,rfl,by rw [← HI.out];exact FO.out,FE.out⟩
  ·rw [hq]
   have HI:=lH (FIN.out R.length hi)
   have zw6:=EX.size
   have hne9:∀ g,g=w6.heap.size→¬ (Value.slice aR R.length cR).ownBlock=some g:=fun g hg hv=>by have:=(own.lt g hv).2;omega
   clear hq hi FIN
   have B9:=Blk.new w6 [.int .i64 p.id] 3
   have kk:=Ex.new w6 (.cells #[.int .i64 p.id] 3)
   obtain ⟨w7,hw7⟩:∃ w7,w7=w6.alloc (.cells #[.int .i64 p.id] 3):=⟨_,rfl⟩
   obtain ⟨g9,hg9⟩:∃ g9,g9=w6.heap.size:=⟨_,rfl⟩
   replace B9:Blk w7 g9 [.int .i64 p.id] 3:=by rw [hw7,hg9];exact B9
   rw [← hw7] at kk
   have Hw7:=lH hw7
   have Hg9:=lH hg9
   replace own:=own.nx kk
   replace EX:=EX.nx kk
   replace hne9:=lH (hne9 g9 hg9)
   clear kk hw7 hg9
   have zw7:=EX.size
   go_wp2_with fail
   rw [← Hg9.out,← Hw7.out]
   clear Hg9 Hw7 q30 B3
   (with_reducible refine (insert_i _ R w.heap.size R.length p.id g9 _ own zw7 (by omega) (by omega) B9 hne9.out).mono ?_)
   rintro e w8 ⟨v8,rfl,own8,ch⟩
   have FO:=lH own8
   have FE:=lH (Chg.trans EX ch)
   clear own8 ch own B9 EX
   go_wp2_with fail
   go_ret
   exact ⟨_,rfl,by rw [← HI.out];exact FO.out,FE.out⟩
def KpPost (N:List Nd) (p:Pr) (w:World) (e:Ending) (w':World):Prop:=e=.returned (.agg #[.int .i64 (keepN N p).1,.int .i64 (keepN N p).2])∧Ex w w'
theorem idx_here {l:List Int} {id:Int} {k:Nat} (h:l.findIdx (fun x=>id==x)=k) (hk:k<l.length):l[k]?=some id:=by
 subst h
 have:=List.findIdx_getElem (w:=hk)
 rw [List.getElem?_eq_getElem hk]
 simp only [beq_iff_eq] at this
 rw [← this]
theorem idx_gone {l:List Int} {id:Int} (h:l.findIdx (fun x=>id==x)=l.length):id∉l:=by
 intro hm
 have:l.findIdx (fun x=>id==x)<l.length:=List.findIdx_lt_length.2 ⟨id,hm,by simp⟩
 omega
set_option maxRecDepth 100000 in
set_option maxHeartbeats 4000000 in
theorem keep_p (a:Option Addr) (n c:Nat) (N:List Nd) (p:Pr) (a1:Option Addr) (n1 c1:Nat) (a2:Option Addr) (n2 c2:Nat) (w:World) (h:Sl 3 encN w a n N) (hn:n≤1000) (hc:n≤c) (hm:c≤maxLen) (h1:Sl 1 encI w a1 n1 p.known) (h2:Sl 4 encNr w a2 n2 p.near) (hn1:n1≤4000000000000000000) (hn2:n2≤4000000000000000000) :
  Calls Tryz.prog 152 #[.slice a n c,.agg #[.int .i64 p.id,.slice a1 n1 c1,.int .i64 p.left,.int .i64 p.right,.slice a2 n2 c2]] w (KpPost N p w):=by
 have EX:=Ex.refl w
 have HL:=lH h.len
 obtain ⟨g3,hg3⟩:∃ g3,g3=w.heap.size:=⟨_,rfl⟩
 obtain ⟨g4,hg4⟩:∃ g4,g4=(w.heap.size+1):=⟨_,rfl⟩
 obtain ⟨w1,hw1⟩:∃ w1,w1=((w.alloc (.cells #[.int .i64 p.id,.slice a1 n1 c1,.int .i64 p.left,.int .i64 p.right,.slice a2 n2 c2] 150)).alloc (.cells #[.int .i64 0,.int .i64 0] 128)):=⟨_,rfl⟩
 have kk:Ex w w1:=by rw [hw1];exact (((Ex.refl w).alloc (.cells #[.int .i64 p.id,.slice a1 n1 c1,.int .i64 p.left,.int .i64 p.right,.slice a2 n2 c2] 150)).alloc (.cells #[.int .i64 0,.int .i64 0] 128))
 have B3:Blk w1 g3 [.int .i64 p.id,.slice a1 n1 c1,.int .i64 p.left,.int .i64 p.right,.slice a2 n2 c2] 150:=by rw [hw1];simp only [hg3,hg4];have hbk:=((Blk.new w [.int .i64 p.id,.slice a1 n1 c1,.int .i64 p.left,.int .i64 p.right,.slice a2 n2 c2] 150).nx (Ex.new _ (.cells #[.int .i64 0,.int .i64 0] 128)));simpa using hbk
 have B4:Blk w1 g4 [.int .i64 0,.int .i64 0] 128:=by rw [hw1];simp only [hg3,hg4];have hbk:=(Blk.new (w.alloc (.cells #[.int .i64 p.id,.slice a1 n1 c1,.int .i64 p.left,.int .i64 p.right,.slice a2 n2 c2] 150)) [.int .i64 0,.int .i64 0] 128);simpa using hbk
 have Hw1:=lH hw1
 have Hg3:=lH hg3
 have Hg4:=lH hg4
 replace h:=h.nx kk
 replace h1:=h1.nx kk
 replace h2:=h2.nx kk
 replace EX:=EX.nx kk
 have zg4:w.heap.size≤g4:=by omega
 clear kk hw1 hg3 hg4
 go_enter Tryz.func152,Tryz.ntmps152
 go_upto_region 1 with fail
 rw [← Hw1.out,← Hg4.out,← Hg3.out]
 clear Hw1 Hg4 Hg3
 have q0:=B3.cell 0 _ rfl
 have q1:=B3.cell 1 _ rfl
 have q2:=B3.cell 2 _ rfl
 have q3:=B3.cell 3 _ rfl
 have q4:=B3.cell 4 _ rfl
 have z1:=EX.size
 go_wp2_with fail
 (with_reducible refine (row_p _ _ _ N p _ _ _ _ _ _ _ h hn hc hm h1 h2 hn1 hn2).mono ?_)
 rintro e w2 ⟨v,rfl,own,kk⟩
 replace EX:=EX.nx kk
 replace B3:=B3.nx kk
 replace B4:=B4.nx kk
 clear kk
 clear q0 q1 q2 q3 q4 h h1 h2
 have hrl:(arN N p).length≤1000:=by
  have h1:=HL.out
  have h2:=ar_len (N:=N) p
  omega
 obtain ⟨aR,cR,rfl,R1,_,_,_⟩:=own.slf (fun _=>rfl)
 have S:=R1.sl
 have KN:Hid (∀ r,besN p.id (arN N p)=r→keepN N p=r):=lH (fun r hr=>hr)
 have ND:=lH (ar_nodup' (N:=N) p)
 generalize arN N p=R at own R1 S KN ND hrl ⊢
 clear own R1
 have q0:=B3.cell 0 _ rfl
 go_wp2_with fail
 (with_reducible refine (index_e _ _ _ R p.id _ S (by omega)).mono ?_)
 rintro e w3 ⟨rfl,kk⟩
 replace S:=S.nx kk
 replace EX:=EX.nx kk
 replace B4:=B4.nx kk
 clear kk
 clear q0 B3
 have zw3:=EX.size
 have hl4:=B4.lt
 have B7:=Blk.new w3 [.int .i64 0,.int .i64 0] 128
 have kk:=Ex.new w3 (.cells #[.int .i64 0,.int .i64 0] 128)
 obtain ⟨w4,hw4⟩:∃ w4,w4=w3.alloc (.cells #[.int .i64 0,.int .i64 0] 128):=⟨_,rfl⟩
 obtain ⟨g7,hg7⟩:∃ g7,g7=w3.heap.size:=⟨_,rfl⟩
 replace B7:Blk w4 g7 [.int .i64 0,.int .i64 0] 128:=by rw [hw4,hg7];exact B7
 rw [← hw4] at kk
 have Hw4:=lH hw4
 have Hg7:=lH hg7
 replace EX:=EX.nx kk
 replace B4:=B4.nx kk
 have zg7:w.heap.size≤g7:=by omega
 have hg47:¬ g4=g7:=by omega
 have KK:=lH kk
 have HG7:=lH hg7
 clear kk hw4 hg7
 have hR:¬ (-1:Int)>0:=by omega
 rcases idxZ_cases (fun x=>p.id==x) R with ⟨k,hq,hi,hk⟩ | ⟨hq,hi⟩
 ·rw [hq]
  have hk0:(0:Int)≤(k:Int):=by omega
  have HH:=lH (bes_nodup ND.out (idx_here hi hk))
  clear hq hi hR
  by_cases hz:k=0
  ·subst hz
   by_cases h1:0+1<R.length
   ·obtain ⟨xr,xo,yr,rfl,hxr0,hyr,hcr⟩:=S.at h1
    have cr0:w3.cell? ⟨xr,xo+(0+1),none⟩=some (.int .i64 yr):=by simpa using hcr 0 _ rfl
    have cr:=Chg.cellv KK.out cr0 hxr0
    have HYR:=lH hyr
    have hxr:xr≠g7:=by have:=HG7.out;omega
    clear hcr hyr cr0 hxr0
    have KE:Hid (keepN N p=(0,yr)):=lH (KN.out _ (by rw [HH.out,HYR.out];rfl))
    have B4h:=lH B4
    have B7h:=lH B7
    have EXh:=lH EX
    clear B4 B7 EX KN ND
    go_upto_region 4 with fail
    rw [← Hg7.out,← Hw4.out]
    clear Hg7 Hw4
    obtain ⟨w5,hw5⟩:∃ w5,w5=w4:=⟨_,rfl⟩
    have cR5:=lH (fun (x:Addr) (v:Value) (_:x.block≠g7) (hv:w4.cell? x=some v)=>show w5.cell? x=some v by rw [hw5];exact hv)
    rw [← hw5] at B4h B7h EXh ⊢
    have B7i:=B7h.out
    have B4i:=B4h.out
    have EXi:=EXh.out
    clear hw5 B7h B4h EXh
    go_upto_region 6 with fail
    have B4i:=lH B4i
    have B7i:=lH B7i
    have EXi:=lH EXi
    have cq:=cR5.out _ _ hxr cr
    have f7:=B7i.out.free 1
    have r7:=B7i.out.cell 1 _ rfl
    go_upto_region 8 with fail
    obtain ⟨w6,hw6⟩:∃ w6,w6=w5.setCell ⟨g7,1,none⟩ (.int .i64 yr):=⟨_,rfl⟩
    rw [← hw6]
    have B7j:Blk w6 g7 [.int .i64 0,.int .i64 yr] 128:=by rw [hw6];exact B7i.out.set 1 _
    have B4j:Blk w6 g4 [.int .i64 0,.int .i64 0] 128:=by rw [hw6];exact B4i.out.set_ne _ hg47
    have EXj:Ex w w6:=by rw [hw6];exact EXi.out.setNew (p:=⟨g7,1,none⟩) _ zg7
    clear hw6 f7 r7 cq cR5 B7i B4i EXi
    have p0:=B7j.cell 0 _ rfl
    have p1:=B7j.cell 1 _ rfl
    have q0:=B4j.cell 0 _ rfl
    have q1:=B4j.cell 1 _ rfl
    have f0:=B4j.free 0
    have f1:=B4j.free 1
    have KF:=lH ((EXj.setNew (p:=⟨g4,0,none⟩) (.int .i64 0) zg4).setNew (p:=⟨g4,1,none⟩) (.int .i64 yr) zg4)
    clear B7j B4j EXj
    go_wp2_with fail
    refine bodyPost_ret (v:=.agg #[.int .i64 0,.int .i64 yr]) (by simp [results,Tryz.results152,go_sem, *]) rfl ⟨by rw [KE.out],KF.out⟩
   ·have hR0:R[0+1]?=none:=List.getElem?_eq_none (by omega)
    have HR0:=lH hR0
    clear hR0
    have KE:Hid (keepN N p=(0,0)):=lH (KN.out _ (by rw [HH.out,HR0.out];rfl))
    have B4h:=lH B4
    have B7h:=lH B7
    have EXh:=lH EX
    clear B4 B7 EX KN ND
    go_upto_region 4 with fail
    rw [← Hg7.out,← Hw4.out]
    clear Hg7 Hw4
    obtain ⟨w5,hw5⟩:∃ w5,w5=w4:=⟨_,rfl⟩
    have cR5:=lH (fun (x:Addr) (v:Value) (_:x.block≠g7) (hv:w4.cell? x=some v)=>show w5.cell? x=some v by rw [hw5];exact hv)
    rw [← hw5] at B4h B7h EXh ⊢
    have B7i:=B7h.out
    have B4i:=B4h.out
    have EXi:=EXh.out
    clear hw5 B7h B4h EXh
    go_upto_region 6 with fail
    have B4i:=lH B4i
    have B7i:=lH B7i
    have EXi:=lH EXi
    go_upto_region 8 with fail
    obtain ⟨w6,hw6⟩:∃ w6,w6=w5:=⟨_,rfl⟩
    rw [← hw6] at B4i B7i EXi ⊢
    have B7j:=B7i.out
    have B4j:=B4i.out
    have EXj:=EXi.out
    clear hw6 cR5 B7i B4i EXi
    have p0:=B7j.cell 0 _ rfl
    have p1:=B7j.cell 1 _ rfl
    have q0:=B4j.cell 0 _ rfl
    have q1:=B4j.cell 1 _ rfl
    have f0:=B4j.free 0
    have f1:=B4j.free 1
    have KF:=lH ((EXj.setNew (p:=⟨g4,0,none⟩) (.int .i64 0) zg4).setNew (p:=⟨g4,1,none⟩) (.int .i64 0) zg4)
    clear B7j B4j EXj
    go_wp2_with fail
    refine bodyPost_ret (v:=.agg #[.int .i64 0,.int .i64 0]) (by simp [results,Tryz.results152,go_sem, *]) rfl ⟨by rw [KE.out],KF.out⟩
  ·obtain ⟨xl,xo,yl,rfl,hxl0,hyl,hcl⟩:=S.at (show k-1<R.length by omega)
   have cl0:w3.cell? ⟨xl,xo+(k-1),none⟩=some (.int .i64 yl):=by simpa using hcl 0 _ rfl
   have cl:=Chg.cellv KK.out cl0 hxl0
   have HYL:=lH hyl
   have hkp:(0:Int)<(k:Int):=by omega
   clear hcl hyl cl0
   by_cases h1:k+1<R.length
   ·obtain ⟨xr,xo',yr,hee,hxr0,hyr,hcr⟩:=S.at h1
    cases hee
    have cr0:w3.cell? ⟨xl,xo+(k+1),none⟩=some (.int .i64 yr):=by simpa using hcr 0 _ rfl
    have cr:=Chg.cellv KK.out cr0 hxr0
    have HYR:=lH hyr
    have hxr:xl≠g7:=by have:=HG7.out;omega
    clear hcr hyr cr0 hxr0
    have KE:Hid (keepN N p=(yl,yr)):=lH (KN.out _ (by rw [HH.out,HYR.out,HYL.out,if_neg hz];rfl))
    have B4h:=lH B4
    have B7h:=lH B7
    have EXh:=lH EX
    clear B4 B7 EX KN ND
    go_upto_region 4 with fail
    rw [← Hg7.out,← Hw4.out]
    clear Hg7 Hw4
    have f7:=B7h.out.free 0
    have r7:=B7h.out.cell 0 _ rfl
    go_upto_region 6 with fail
    obtain ⟨w5,hw5⟩:∃ w5,w5=w4.setCell ⟨g7,0,none⟩ (.int .i64 yl):=⟨_,rfl⟩
    rw [← hw5]
    have B7i:Blk w5 g7 [.int .i64 yl,.int .i64 0] 128:=by rw [hw5];exact B7h.out.set 0 _
    have B4i:Blk w5 g4 [.int .i64 0,.int .i64 0] 128:=by rw [hw5];exact B4h.out.set_ne _ hg47
    have EXi:Ex w w5:=by rw [hw5];exact EXh.out.setNew (p:=⟨g7,0,none⟩) _ zg7
    have cR5:=lH (fun (x:Addr) (v:Value) (hx:x.block≠g7) (hv:w4.cell? x=some v)=>show w5.cell? x=some v by rw [hw5];exact (World.cell?_of_block (heap_set_ne rfl hx)).trans hv)
    clear hw5 f7 r7 B7h B4h EXh
    have B4i:=lH B4i
    have B7i:=lH B7i
    have EXi:=lH EXi
    have cq:=cR5.out _ _ hxr cr
    have f7:=B7i.out.free 1
    have r7:=B7i.out.cell 1 _ rfl
    go_upto_region 8 with fail
    obtain ⟨w6,hw6⟩:∃ w6,w6=w5.setCell ⟨g7,1,none⟩ (.int .i64 yr):=⟨_,rfl⟩
    rw [← hw6]
    have B7j:Blk w6 g7 [.int .i64 yl,.int .i64 yr] 128:=by rw [hw6];exact B7i.out.set 1 _
    have B4j:Blk w6 g4 [.int .i64 0,.int .i64 0] 128:=by rw [hw6];exact B4i.out.set_ne _ hg47
    have EXj:Ex w w6:=by rw [hw6];exact EXi.out.setNew (p:=⟨g7,1,none⟩) _ zg7
    clear hw6 f7 r7 cq cR5 B7i B4i EXi
    have p0:=B7j.cell 0 _ rfl
    have p1:=B7j.cell 1 _ rfl
    have q0:=B4j.cell 0 _ rfl
    have q1:=B4j.cell 1 _ rfl
    have f0:=B4j.free 0
    have f1:=B4j.free 1
    have KF:=lH ((EXj.setNew (p:=⟨g4,0,none⟩) (.int .i64 yl) zg4).setNew (p:=⟨g4,1,none⟩) (.int .i64 yr) zg4)
    clear B7j B4j EXj
    go_wp2_with fail
    refine bodyPost_ret (v:=.agg #[.int .i64 yl,.int .i64 yr]) (by simp [results,Tryz.results152,go_sem, *]) rfl ⟨by rw [KE.out],KF.out⟩
   ·have hR0:R[k+1]?=none:=List.getElem?_eq_none (by omega)
    have HR0:=lH hR0
    clear hR0
    have KE:Hid (keepN N p=(yl,0)):=lH (KN.out _ (by rw [HH.out,HR0.out,HYL.out,if_neg hz];rfl))
    have B4h:=lH B4
    have B7h:=lH B7
    have EXh:=lH EX
    clear B4 B7 EX KN ND
    go_upto_region 4 with fail
    rw [← Hg7.out,← Hw4.out]
    clear Hg7 Hw4
    have f7:=B7h.out.free 0
    have r7:=B7h.out.cell 0 _ rfl
    go_upto_region 6 with fail
    obtain ⟨w5,hw5⟩:∃ w5,w5=w4.setCell ⟨g7,0,none⟩ (.int .i64 yl):=⟨_,rfl⟩
    rw [← hw5]
    have B7i:Blk w5 g7 [.int .i64 yl,.int .i64 0] 128:=by rw [hw5];exact B7h.out.set 0 _
    have B4i:Blk w5 g4 [.int .i64 0,.int .i64 0] 128:=by rw [hw5];exact B4h.out.set_ne _ hg47
    have EXi:Ex w w5:=by rw [hw5];exact EXh.out.setNew (p:=⟨g7,0,none⟩) _ zg7
    have cR5:=lH (fun (x:Addr) (v:Value) (hx:x.block≠g7) (hv:w4.cell? x=some v)=>show w5.cell? x=some v by rw [hw5];exact (World.cell?_of_block (heap_set_ne rfl hx)).trans hv)
    clear hw5 f7 r7 B7h B4h EXh
    have B4i:=lH B4i
    have B7i:=lH B7i
    have EXi:=lH EXi
    go_upto_region 8 with fail
    obtain ⟨w6,hw6⟩:∃ w6,w6=w5:=⟨_,rfl⟩
    rw [← hw6] at B4i B7i EXi ⊢
    have B7j:=B7i.out
    have B4j:=B4i.out
    have EXj:=EXi.out
    clear hw6 cR5 B7i B4i EXi
    have p0:=B7j.cell 0 _ rfl
    have p1:=B7j.cell 1 _ rfl
    have q0:=B4j.cell 0 _ rfl
    have q1:=B4j.cell 1 _ rfl
    have f0:=B4j.free 0
    have f1:=B4j.free 1
    have KF:=lH ((EXj.setNew (p:=⟨g4,0,none⟩) (.int .i64 yl) zg4).setNew (p:=⟨g4,1,none⟩) (.int .i64 0) zg4)
    clear B7j B4j EXj
    go_wp2_with fail
    refine bodyPost_ret (v:=.agg #[.int .i64 yl,.int .i64 0]) (by simp [results,Tryz.results152,go_sem, *]) rfl ⟨by rw [KE.out],KF.out⟩
 ·rw [hq]
  have HH:=lH (bes_none (idx_gone hi))
  clear hq hi
  have KE:Hid (keepN N p=(0,0)):=lH (KN.out _ (by rw [HH.out]))
  have B4h:=lH B4
  have B7h:=lH B7
  have EXh:=lH EX
  clear B4 B7 EX KN ND
  go_upto_region 4 with fail
  rw [← Hg7.out,← Hw4.out]
  clear Hg7 Hw4
  obtain ⟨w5,hw5⟩:∃ w5,w5=w4:=⟨_,rfl⟩
  have cR5:=lH (fun (x:Addr) (v:Value) (_:x.block≠g7) (hv:w4.cell? x=some v)=>show w5.cell? x=some v by rw [hw5];exact hv)
  rw [← hw5] at B4h B7h EXh ⊢
  have B7i:=B7h.out
  have B4i:=B4h.out
  have EXi:=EXh.out
  clear hw5 B7h B4h EXh
  go_upto_region 6 with fail
  have B4i:=lH B4i
  have B7i:=lH B7i
  have EXi:=lH EXi
  go_upto_region 8 with fail
  obtain ⟨w6,hw6⟩:∃ w6,w6=w5:=⟨_,rfl⟩
  rw [← hw6] at B4i B7i EXi ⊢
  have B7j:=B7i.out
  have B4j:=B4i.out
  have EXj:=EXi.out
  clear hw6 cR5 B7i B4i EXi
  have p0:=B7j.cell 0 _ rfl
  have p1:=B7j.cell 1 _ rfl
  have q0:=B4j.cell 0 _ rfl
  have q1:=B4j.cell 1 _ rfl
  have f0:=B4j.free 0
  have f1:=B4j.free 1
  have KF:=lH ((EXj.setNew (p:=⟨g4,0,none⟩) (.int .i64 0) zg4).setNew (p:=⟨g4,1,none⟩) (.int .i64 0) zg4)
  clear B7j B4j EXj
  go_wp2_with fail
  refine bodyPost_ret (v:=.agg #[.int .i64 0,.int .i64 0]) (by simp [results,Tryz.results152,go_sem, *]) rfl ⟨by rw [KE.out],KF.out⟩
theorem Tryz.infoIn:(Tryz.prog.info? 242).map (fun i=>(i.zero,i.size,i.bytes))=some (some (.agg #[.int .i64 0,.int .i64 0]),2,16):=by kernel_rfl
def InPost (M:List (Int×Int)) (w:World) (e:Ending) (w':World):Prop:=∃ v,e=.returned v∧OwnW 2 encS 242 w.heap.size w' v M∧Ex w w'
def IoRel (L:List Int) (id:Int) (w:World) (o i:Value) (wr:World):Prop :=
 ∃ k:Nat,1≤k∧k≤L.length+1∧i=.int .i64 k∧OwnW 2 encS 242 w.heap.size wr o (((L.zip L.tail).take (k-1)).flatMap (pr2 id))∧Ex w wr
def prT (a b:Int):List (Int×Int):=[(a,b),(b,a)]
def notTo (id:Int) (q:Int×Int):Bool:=!(q.1==id)
theorem prT_all (id a b:Int):(prT a b).filter (notTo id)=pr2 id (a,b):=by
 unfold prT pr2 notTo
 by_cases h1:a=id<;>by_cases h2:b=id<;>simp [List.filter_cons,h1,h2]
theorem prT_snoc {id a b:Int} {q:Nat} {y:Int×Int} (hy:(prT a b)[q]?=some y):((prT a b).take (q+1)).filter (notTo id)=((prT a b).take q).filter (notTo id)++(if notTo id y=true then [y] else []):=by
 rw [List.take_add_one,hy,List.filter_append]
 congr 1
 simp only [Option.toList_some,List.filter_cons,List.filter_nil]
def IiRel (O:List (Int×Int)) (id a b:Int) (base lo:Nat) (w:World) (o i:Value) (wr:World):Prop :=
 ∃ q:Nat,q≤2∧i=.int .i64 q∧OwnW 2 encS 242 base wr o (O++((prT a b).take q).filter (notTo id))∧Acc base lo w.heap.size w wr o
theorem litIn {wb wq:World} (h:Ex wb wq) (a b:Int):∃ g wn,g=wq.heap.size∧wn=wq.alloc (.cells #[.int .i64 a,.int .i64 b,.int .i64 b,.int .i64 a] 242)∧Slf 2 encS wb wn (some ⟨g,0,none⟩) 2 (prT a b)∧Ex wb wn :=
 ⟨_,_,rfl,rfl,Slf.lit (prT a b) rfl h.size rfl (fun _=>rfl) rfl,h.alloc _⟩
set_option maxRecDepth 100000 in
set_option maxHeartbeats 8000000 in
theorem intros_p (a:Option Addr) (n c:Nat) (N:List Nd) (p:Pr) (a1:Option Addr) (n1 c1:Nat) (a2:Option Addr) (n2 c2:Nat) (w:World) (h:Sl 3 encN w a n N) (hn:n≤1000) (hc:n≤c) (hm:c≤maxLen) (h1:Sl 1 encI w a1 n1 p.known) (h2:Sl 4 encNr w a2 n2 p.near) (hn1:n1≤4000000000000000000) (hn2:n2≤4000000000000000000) :
  Calls Tryz.prog 153 #[.slice a n c,.agg #[.int .i64 p.id,.slice a1 n1 c1,.int .i64 p.left,.int .i64 p.right,.slice a2 n2 c2]] w (InPost (introsN N p) w):=by
 have EX:=Ex.refl w
 have HL:=lH h.len
 have B3:=Blk.new w [.int .i64 p.id,.slice a1 n1 c1,.int .i64 p.left,.int .i64 p.right,.slice a2 n2 c2] 150
 have kk:=Ex.new w (.cells #[.int .i64 p.id,.slice a1 n1 c1,.int .i64 p.left,.int .i64 p.right,.slice a2 n2 c2] 150)
 obtain ⟨w1,hw1⟩:∃ w1,w1=w.alloc (.cells #[.int .i64 p.id,.slice a1 n1 c1,.int .i64 p.left,.int .i64 p.right,.slice a2 n2 c2] 150):=⟨_,rfl⟩
 obtain ⟨g3,hg3⟩:∃ g3,g3=w.heap.size:=⟨_,rfl⟩
 replace B3:Blk w1 g3 [.int .i64 p.id,.slice a1 n1 c1,.int .i64 p.left,.int .i64 p.right,.slice a2 n2 c2] 150:=by rw [hw1,hg3];exact B3
 rw [← hw1] at kk
 have Hw1:=lH hw1
 have Hg3:=lH hg3
 replace h:=h.nx kk
 replace h1:=h1.nx kk
 replace h2:=h2.nx kk
 replace EX:=EX.nx kk
 clear kk hw1 hg3
 go_enter Tryz.func153,Tryz.ntmps153
 go_upto_region 1 with fail
 rw [← Hg3.out,← Hw1.out]
 clear Hg3 Hw1
 have q0:=B3.cell 0 _ rfl
 have q1:=B3.cell 1 _ rfl
 have q2:=B3.cell 2 _ rfl
 have q3:=B3.cell 3 _ rfl
 have q4:=B3.cell 4 _ rfl
 go_wp2_with fail
 (with_reducible refine (row_p _ _ _ N p _ _ _ _ _ _ _ h hn hc hm h1 h2 hn1 hn2).mono ?_)
 rintro e w2 ⟨v,rfl,own,kk⟩
 replace EX:=EX.nx kk
 replace B3:=B3.nx kk
 clear kk
 clear q0 q1 q2 q3 q4 h h1 h2
 have hrl:(arN N p).length≤1000:=by
  have h1:=HL.out
  have h2:=ar_len (N:=N) p
  omega
 obtain ⟨aR,cR,rfl,R1,_,_,_⟩:=own.slf (fun _=>rfl)
 have S:=lH R1.sl
 have IN:Hid (∀ M,prsN p.id (arN N p)=M→introsN N p=M):=lH (fun r hr=>hr)
 generalize arN N p=R at own R1 S IN hrl ⊢
 have B3:=lH B3
 have EX2:=lH EX
 have z2:=EX.size
 clear own R1 EX
 go_wp2_with fail
 go_loopw [5,7] (fun o i wr=>IoRel R p.id w2 o i wr) (fun _ i _=>R.length+1-(intOf i).toNat)
 case atStart=>exact ⟨1,by omega,by omega,rfl,OwnW.nil _ _ _ _ _,Ex.refl _⟩
 case round =>
  obtain ⟨k,hk1,hk,rfl,own,ki⟩:=hrel
  obtain ⟨wi,rfl⟩:∃ wi:World,wi=wr:=⟨_,rfl⟩
  have hol:(((R.zip R.tail).take (k-1)).flatMap (pr2 p.id)).length≤2000:=by
   have h1:=prs_take_len p.id ((R.zip R.tail).take (k-1))
   rw [List.length_take,List.length_zip,List.length_tail] at h1
   omega
  by_cases hkm:k<R.length
  ·obtain ⟨xl,xo,yl,rfl,hxl,hyl,hcl⟩:=(S.out.nx ki).at (show k-1<R.length by omega)
   obtain ⟨xl',xo',yr,hee,hxr,hyr,hcr⟩:=(S.out.nx ki).at hkm
   cases hee
   have CL:Hid (∀ wq,Ex wi wq→wq.cell? ⟨xl,xo+(k-1),none⟩=some (.int .i64 yl)):=lH (fun wq kq=>Chg.cellv kq (by simpa using hcl 0 _ rfl) hxl)
   have CR:Hid (∀ wq,Ex wi wq→wq.cell? ⟨xl,xo+k,none⟩=some (.int .i64 yr)):=lH (fun wq kq=>Chg.cellv kq (by simpa using hcr 0 _ rfl) hxl)
   have SN:=lH (prs_snoc (id:=p.id) hyl (by rw [show k-1+1=k by omega];exact hyr))
   generalize ((R.zip R.tail).take (k-1)).flatMap (pr2 p.id)=O at own SN hol
   have OWN:=lH own
   have KI:=lH ki
   have hkp:(0:Int)<(k:Int):=by omega
   have hwk:IntKind.i64.wrap ((k:Int)-1)=(k:Int)-1:=IntWalk.i64_in _ (by omega)
   have h01:(1:Int)≤(k:Int):=by omega
   have h02:(k:Int)-1<(R.length:Int):=by omega
   have h03:(k:Int)<(R.length:Int):=by omega
   have zi:=ki.size
   clear hyl hyr hcl hcr own ki
   go_upto_region 6 with fail
   refine wp_region_held_drew (S:=Ex wi) (by kernel_rfl) ((Ex.refl wi).drew) (fun hHeld=>?_)
   obtain ⟨wd,hwdx⟩:∃ wd:World,wd=World.drew wi:=⟨_,rfl⟩
   rw [← hwdx] at hHeld ⊢
   have hDrew:Ex wi wd:=by rw [hwdx];exact (Ex.refl wi).drew
   clear hwdx
   refine tkH 0 (v:=?_) rfl (by kernel_rfl) (fun _ _ _ h=>h) (by rfl) ?y5 hHeld ?_
   case y5=>intro wq hSw;go_simp<;>rfl
   try simp only [Act.put,sA,sB,sC]
   refine tkH 1 (v:=?_) rfl (by kernel_rfl) (fun _ _ _ h=>h) (by rfl) ?y8 hHeld ?_
   case y8=>intro wq hSw;go_simp<;>rfl
   try simp only [Act.put,sA,sB,sC]
   refine tkH 2 (v:=?_) rfl (by kernel_rfl) (fun _ _ _ h=>h) (by rfl) ?y11 hHeld ?_
   case y11=>intro wq hSw;go_simp<;>rfl
   try simp only [Act.put,sA,sB,sC]
   refine tkH 3 (v:=?_) rfl (by kernel_rfl) (fun _ _ _ h=>h) (by rfl) ?y14 hHeld ?_
   case y14=>intro wq hSw;go_simp<;>rfl
   try simp only [Act.put,sA,sB,sC]
   refine tkH 4 (v:=?_) rfl (by kernel_rfl) (fun _ _ _ h=>h) (by rfl) ?y17 hHeld ?_
   case y17=>intro wq hSw;(have cq:=CL.out wq hSw;go_simp)<;>rfl
   try simp only [Act.put,sA,sB,sC]
   refine tkH 5 (v:=?_) rfl (by kernel_rfl) (fun _ _ _ h=>h) (by rfl) ?y20 hHeld ?_
   case y20=>intro wq hSw;go_simp<;>rfl
   try simp only [Act.put,sA,sB,sC]
   refine tkH 6 (v:=?_) rfl (by kernel_rfl) (fun _ _ _ h=>h) (by rfl) ?y23 hHeld ?_
   case y23=>intro wq hSw;go_simp<;>rfl
   try simp only [Act.put,sA,sB,sC]
   refine tkH 7 (v:=?_) rfl (by kernel_rfl) (fun _ _ _ h=>h) (by rfl) ?y26 hHeld ?_
   case y26=>intro wq hSw;go_simp<;>rfl
   try simp only [Act.put,sA,sB,sC]
   refine tkH 8 (v:=?_) rfl (by kernel_rfl) (fun _ _ _ h=>h) (by rfl) ?y29 hHeld ?_
   case y29=>intro wq hSw;(have cq:=CR.out wq hSw;go_simp)<;>rfl
   try simp only [Act.put,sA,sB,sC]
   refine tkH 9 (v:=?_) rfl (by kernel_rfl) (fun _ _ _ h=>h) (by rfl) ?y32 hHeld ?_
   case y32=>intro wq hSw;go_simp<;>rfl
   try simp only [Act.put,sA,sB,sC]
   refine tkH 10 (v:=?_) rfl (by kernel_rfl) (fun _ _ _ h=>h) (by rfl) ?y35 hHeld ?_
   case y35=>intro wq hSw;go_simp<;>rfl
   try simp only [Act.put,sA,sB,sC]
   refine tkH 11 (v:=?_) rfl (by kernel_rfl) (fun _ _ _ h=>h) (by rfl) ?y38 hHeld ?_
   case y38=>intro wq hSw;go_simp<;>rfl
   try simp only [Act.put,sA,sB,sC]
   refine tkH 12 (v:=?_) rfl (by kernel_rfl) (fun _ _ _ h=>h) (by rfl) ?y41 hHeld ?_
   case y41=>intro wq hSw;go_simp<;>rfl
   try simp only [Act.put,sA,sB,sC]
   refine tkH 13 (v:=?_) rfl (by kernel_rfl) (fun _ _ _ h=>h) (by rfl) ?y44 hHeld ?_
   case y44=>intro wq hSw;(have cq:=CR.out wq hSw;go_simp)<;>rfl
   try simp only [Act.put,sA,sB,sC]
   refine tkH 14 (v:=?_) rfl (by kernel_rfl) (fun _ _ _ h=>h) (by rfl) ?y47 hHeld ?_
   case y47=>intro wq hSw;go_simp<;>rfl
   try simp only [Act.put,sA,sB,sC]
   refine tkH 15 (v:=?_) rfl (by kernel_rfl) (fun _ _ _ h=>h) (by rfl) ?y50 hHeld ?_
   case y50=>intro wq hSw;go_simp<;>rfl
   try simp only [Act.put,sA,sB,sC]
   refine tkH 16 (v:=?_) rfl (by kernel_rfl) (fun _ _ _ h=>h) (by rfl) ?y53 hHeld ?_
   case y53=>intro wq hSw;go_simp<;>rfl
   try simp only [Act.put,sA,sB,sC]
   refine tkH 17 (v:=?_) rfl (by kernel_rfl) (fun _ _ _ h=>h) (by rfl) ?y56 hHeld ?_
   case y56=>intro wq hSw;go_simp<;>rfl
   try simp only [Act.put,sA,sB,sC]
   refine tkH 18 (v:=?_) rfl (by kernel_rfl) (fun _ _ _ h=>h) (by rfl) ?y59 hHeld ?_
   case y59=>intro wq hSw;(have cq:=CL.out wq hSw;go_simp)<;>rfl
   try simp only [Act.put,sA,sB,sC]
   refine tkH 19 (v:=?_) rfl (by kernel_rfl) (fun _ _ _ h=>h) (by rfl) ?y62 hHeld ?_
   case y62=>intro wq hSw;go_simp<;>rfl
   try simp only [Act.put,sA,sB,sC]
   refine tkH 22 (v:=?_) rfl (by kernel_rfl) (fun _ _ _ h=>h) (by rfl) ?y65 hHeld ?_
   case y65=>intro wq hSw;go_simp<;>rfl
   try simp only [Act.put,sA,sB,sC]
   refine rH 20 (by kernel_rfl) rfl fun K hK=>?_
   go_simp
   obtain ⟨g9,w3,hg9,hw3,SL,kk⟩:=litIn hHeld yl yr
   rw [← hg9,← hw3]
   replace hHeld:=kk
   clear hg9 hw3 kk
   refine hK.out _ _ (hHeld) (fun hHeld=>?_)
   clear hK K
   try simp only [Act.put,sA,sB,sC]
   refine tkH 21 (v:=?_) rfl (by kernel_rfl) (fun _ _ _ h=>h) (by rfl) ?y78 hHeld ?_
   case y78=>intro wq hSw;go_simp<;>rfl
   try simp only [Act.put,sA,sB,sC]
   refine wpAnyH_done (by kernel_rfl) ?_ _
   have SLh:=lH SL
   have K3:=lH hHeld
   have OW3:=lH (OWN.out.nx hHeld)
   have z3:=hHeld.size
   have A0:=lH (Acc.start (β:=w2.heap.size) (lo:=wi.heap.size) (Nat.le_refl w3.heap.size) (fun g hg=>.inl (OWN.out.blk_lt (g:=g) hg)))
   clear SL hHeld OWN
   go_wp2_with fail
   go_loopw [5,41] (fun o i wr=>IiRel O p.id yl yr w2.heap.size wi.heap.size w3 o i wr) (fun _ i _=>2-(intOf i).toNat)
   case atStart=>exact ⟨0,by omega,rfl,by simpa using OW3.out,A0.out⟩
   case round =>
    clear OW3 A0
    obtain ⟨q,hq,rfl,own,ac⟩:=hrel
    obtain ⟨wj,rfl⟩:∃ wj:World,wj=wr:=⟨_,rfl⟩
    have hql:(O++((prT yl yr).take q).filter (notTo p.id)).length≤100000:=by
     rw [List.length_append]
     have h1:=List.length_filter_le (notTo p.id) ((prT yl yr).take q)
     rw [List.length_take] at h1
     omega
    by_cases hq2:q<2
    ·obtain ⟨x9,o9,y,hee,hx9,hy,hc9⟩:=(ac.sl SLh.out).at hq2
     cases hee
     have e0:wj.cell? ⟨g9,q*2,none⟩=some (.int .i64 y.1):=by simpa using hc9 0 _ rfl
     have e1:wj.cell? ⟨g9,q*2+1,none⟩=some (.int .i64 y.2):=by simpa using hc9 1 _ rfl
     have SQ:=lH (prT_snoc (id:=p.id) hy)
     generalize ((prT yl yr).take q).filter (notTo p.id)=F at own SQ hql
     have AC:=lH ac
     have zb0:=(ac.ex (KI.out.nx K3.out)).size
     clear hy hc9 ac
     have B9:=Blk.new wj [.int .i64 y.1,.int .i64 y.2] 242
     have kk:=Ex.new wj (.cells #[.int .i64 y.1,.int .i64 y.2] 242)
     obtain ⟨w4,hw4⟩:∃ w4,w4=wj.alloc (.cells #[.int .i64 y.1,.int .i64 y.2] 242):=⟨_,rfl⟩
     obtain ⟨g10,hg10⟩:∃ g10,g10=wj.heap.size:=⟨_,rfl⟩
     replace B9:Blk w4 g10 [.int .i64 y.1,.int .i64 y.2] 242:=by rw [hw4,hg10];exact B9
     rw [← hw4] at kk
     have Hw4:=lH hw4
     have Hg10:=lH hg10
     replace own:=own.nx kk
     have AC4:=lH (AC.out.nx kk)
     have zb:w2.heap.size≤w4.heap.size:=Nat.le_trans zb0 kk.size
     clear kk hw4 hg10
     go_upto_region 9 with fail
     rw [← Hg10.out,← Hw4.out]
     clear Hg10 Hw4
     have q0:=B9.cell 0 _ rfl
     have q1:=B9.cell 1 _ rfl
     have qp:=(B3.out.nx (AC4.out.ex (KI.out.nx K3.out))).cell 0 _ rfl
     clear e0 e1 B9
     cases hT:notTo p.id y with
     | true =>
      have d1:(y.1 != p.id)=true:=hT
      have SF:=lH (show ((prT yl yr).take (q+1)).filter (notTo p.id)=F++[y] by rw [SQ.out,if_pos hT])
      have kl:=Ex.new w4 (.cells #[.int .i64 y.1,.int .i64 y.2] 242)
      have own7:=own.nx kl
      have zc:=Nat.le_trans zb kl.size
      clear hT
      go_wp2_with (at_builtin;(refine wpList_append_W (enc:=encS) _ rfl _ _ 54 rfl w2.heap.size 242 (.agg #[.int .i64 0,.int .i64 0]) 2 16 Tryz.underlying54 Tryz.infoIn rfl (by omega) (by omega) _ _ own7 rfl _ 1 1 [y] (Sl.lit _ rfl rfl (fun _=>rfl) rfl) (fun _=>rfl) (by simp [encS,Value.oneCell']) rfl (by omega) (by omega) zc ?_);intro v6 w6 own6 ch0 ch1 hv)
      exact ⟨⟨q+1,by omega,by go_num,by rw [SF.out,← List.append_assoc];exact own6,(AC4.out.nx kl).step (fun g hg=>(own7.blk hg).1) ch0 hv⟩,by simp [intOf];omega⟩
     | false =>
      have d1:(y.1 != p.id)=false:=hT
      have SF:=lH (show ((prT yl yr).take (q+1)).filter (notTo p.id)=F by rw [SQ.out,hT];simp)
      have OF:=lH own
      clear hT own
      go_wp2_with fail
      exact ⟨⟨q+1,by omega,by go_num,by rw [SF.out];exact OF.out,AC4.out⟩,by simp [intOf];omega⟩
    ·obtain rfl:q=2:=by omega
     have OF:=lH own
     have KF:=lH (ac.ex (KI.out.nx K3.out))
     clear own ac hq hq2
     go_wp2_with fail
     refine ⟨⟨k+1,by omega,by omega,by go_num,?_,KF.out⟩,by simp [intOf];omega⟩
     rw [show k+1-1=k-1+1 by omega,SN.out,← prT_all]
     exact OF.out
  ·have HI:Hid (introsN N p=((R.zip R.tail).take (k-1)).flatMap (pr2 p.id)):=lH (IN.out _ (prs_all (by omega)).symm)
   generalize ((R.zip R.tail).take (k-1)).flatMap (pr2 p.id)=O at own HI
   have FO:=lH (own.lower z2)
   have FE:=lH (EX2.out.nx ki)
   clear own ki
   go_wp2_with fail
   go_ret
   exact ⟨_,rfl,by rw [HI.out];exact FO.out,FE.out⟩
end Go.Proofs.YthcholmhmcpooaaGreatDoor
