/- Shared texts. -/
import Derived.Test.YtalmjklljofhbaaGreatDoorSxAll5
set_option linter.unusedSimpArgs false
set_option linter.unusedVariables false

namespace Go.Proofs.YtalmjklljofhbaaGreatDoor
open Go.RowKit
def idxI (g:List Nd) (id:Int):Nat:=g.findIdx fun x=>x.id==id
theorem idxI_of {g:List Nd} {id:Int} {k:Nat} {y:Nd} (hy:g[k]?=some y) (he:y.id=id) (hno:∀ j z,j<k→g[j]?=some z→z.id≠id):idxI g id=k:=by
 have hk:=(List.getElem?_eq_some_iff.1 hy).1
 have hv:=(List.getElem?_eq_some_iff.1 hy).2
 rw [idxI,List.findIdx_eq hk]
 refine ⟨by rw [hv];simpa using he,fun j hj=>?_⟩
 have:=hno j _ hj (List.getElem?_eq_getElem (by omega))
 simpa using this
theorem idxI_none {g:List Nd} {id:Int} (hno:∀ j z,j<g.length→g[j]?=some z→z.id≠id):idxI g id=g.length:=by
 rw [idxI,List.findIdx_eq_length]
 intro x hx
 obtain ⟨j,hj,he⟩:=List.mem_iff_getElem.1 hx
 have:=hno j x hj (by rw [← he];simp)
 simpa using this
def thrG (l:List Nd) (id:Int) (h:Int):List Nd:=groupN (sortN l) h (findN l id).1.word
def throughN (l:List Nd) (id:Int) (h:Int):List Nd×Nat×Bool :=
 if (findN l id).2=true∧(checkN l==0)=true∧lvlN h=true∧idxI (thrG l id h) id<(thrG l id h).length then (thrG l id h,idxI (thrG l id h) id,true) else ([],0,false)
def ThPost (r:List Nd×Nat×Bool) (w:World) (e:Ending) (w':World):Prop :=
 ∃ (a:Option Addr) (cp:Nat),e=.returned (.tuple #[.slice a r.1.length cp,.int .i64 r.2.1,.bool r.2.2])∧Sl 3 encN w' a r.1.length r.1∧Ex w w'
def ThPostF (r:List Nd×Nat×Bool) (w:World) (e:Ending) (w':World):Prop :=
 ∃ (a:Option Addr) (cp:Nat),e=.returned (.tuple #[.slice a r.1.length cp,.int .i64 r.2.1,.bool r.2.2])∧Slf 3 encN w w' a r.1.length r.1∧Ex w w'
theorem thPost_none {l:List Nd} {id h:Int} {w w':World} (hne:throughN l id h=([],0,false)) (k:Ex w w'):ThPostF (throughN l id h) w (.returned (.tuple #[.slice none 0 0,.int .i64 0,.bool false])) w':=by
 rw [hne]
 exact ⟨none,0,rfl,Slf.nil _ _ _ _ _,k⟩
def TgRel (g:List Nd) (id:Int) (w:World) (i:Value) (wr:World):Prop :=
 ∃ k:Nat,k≤g.length∧i=.int .i64 k∧Ex w wr∧∀ j z,j<k→g[j]?=some z→z.id≠id
theorem findN_word {l:List Nd} (hw:∀ x∈l,x.word<4294967296) (id:Int):(findN l id).1.word<4294967296:=by
 unfold findN
 split
 ·rename_i x hx
  exact hw x (List.mem_of_find?_eq_some hx)
 ·show 0<_;omega
set_option maxRecDepth 100000 in
set_option maxHeartbeats 2000000 in
theorem through_f (a:Option Addr) (n cp:Nat) (l:List Nd) (id h:Int) (w:World) (hs:Sl 3 encN w a n l) (hn:n≤1000) (hw:∀ x∈l,x.word<4294967296) :
  Calls Tryz.prog 127 #[.slice a n cp,.int .i64 id,.int .i64 h] w (ThPostF (throughN l id h) w):=by
 have HW:=lH (sort_word hw)
 have HX:=findN_word hw id
 have HL:=lH hs.len
 clear hw
 go_enter Tryz.func127,Tryz.ntmps127
 go_wp2_with fail
 (with_reducible refine (find_r _ _ _ _ _ _ hs (by omega)).mono ?_)
 rintro e w1 ⟨rfl,k1⟩
 have S1:=hs.nx k1
 obtain ⟨F,hF⟩:∃ F,F=findN l id:=⟨_,rfl⟩
 have HF:=lH hF
 rw [← hF] at HX ⊢
 obtain ⟨⟨xi,xk,xw⟩,ok⟩:=F
 have k2:=Ex.new w1 (.cells #[.int .i64 xi,.string xk,.int .u32 xw] 49)
 have B2:=Blk.new w1 [.int .i64 xi,.string xk,.int .u32 xw] 49
 obtain ⟨w2,hw2⟩:∃ w2,w2=w1.alloc (.cells #[.int .i64 xi,.string xk,.int .u32 xw] 49):=⟨_,rfl⟩
 obtain ⟨g2,hg2⟩:∃ g2,g2=w1.heap.size:=⟨_,rfl⟩
 have B2:Blk w2 g2 [.int .i64 xi,.string xk,.int .u32 xw] 49:=by rw [hw2,hg2];exact B2
 rw [← hw2] at k2
 have HW2:=lH hw2
 have HG2:=lH hg2
 replace S1:=S1.nx k2
 replace k1:=k1.nx k2
 clear hF hw2 hg2 k2 hs
 simp only [Nd.val]
 go_upto_region 2 with fail
 rw [← HG2.out,← HW2.out]
 cases ok with
 | false =>
  have HT:Hid (throughN l id h=([],0,false)):=lH (by unfold throughN;rw [if_neg];rintro ⟨h1,_⟩;rw [← HF.out] at h1;cases h1)
  clear S1 B2
  go_wp2_with fail
  refine bodyPost_ret (v:=.tuple #[.slice none 0 0,.int .i64 0,.bool false]) (by simp [results,Tryz.results127,go_sem, *]) rfl (thPost_none HT.out k1)
 | true =>
  go_wp2_with fail
  (with_reducible refine (is_r _ _ _ _ _ S1 (by omega)).mono ?_)
  rintro e w3 ⟨rfl,k3⟩
  replace S1:=S1.nx k3
  replace k1:=k1.nx k3
  replace B2:=B2.nx k3
  clear k3
  cases hc:(checkN l==0) with
  | false =>
   have HT:Hid (throughN l id h=([],0,false)):=lH (by unfold throughN;rw [if_neg];rintro ⟨_,h1,_⟩;rw [hc] at h1;cases h1)
   clear S1 B2 hc
   go_wp2_with fail
   refine bodyPost_ret (v:=.tuple #[.slice none 0 0,.int .i64 0,.bool false]) (by simp [results,Tryz.results127,go_sem, *]) rfl (thPost_none HT.out k1)
  | true =>
   have HC:=lH hc
   clear hc
   go_wp2_with fail
   refine (level_r h _).mono ?_
   rintro e w4 ⟨rfl,rfl⟩
   cases hl:lvlN h with
   | false =>
    have HT:Hid (throughN l id h=([],0,false)):=lH (by unfold throughN;rw [if_neg];rintro ⟨_,_,h1,_⟩;rw [hl] at h1;cases h1)
    clear S1 B2 hl
    go_wp2_with fail
    refine bodyPost_ret (v:=.tuple #[.slice none 0 0,.int .i64 0,.bool false]) (by simp [results,Tryz.results127,go_sem, *]) rfl (thPost_none HT.out k1)
   | true =>
    have HLV:=lH hl
    clear hl
    go_wp2_with fail
    replace B2:=B2.nx (Ex.refl w3).drew
    refine wp_region_held_drew (S:=Ex w3.drew) (by kernel_rfl) (Ex.refl _) (fun hHeld=>?_)
    refine tkH 0 (v:=?_) rfl (by kernel_rfl) (fun _ _ _ h=>h) (by rfl) ?hyr1x0 (by assumption) ?restr1x0
    case hyr1x0=>intro wq hSw;(go_simp);(try with_reducible rfl)
    refine tkH 2 (v:=?_) rfl (by kernel_rfl) (fun _ _ _ h=>h) (by rfl) ?hyr1x2 (by assumption) ?restr1x2
    case hyr1x2=>intro wq hSw;(go_simp);(try with_reducible rfl)
    refine tkH 3 (v:=?_) rfl (by kernel_rfl) (fun _ _ _ h=>h) (by rfl) ?hyr1x3 (by assumption) ?restr1x3
    case hyr1x3=>intro wq hSw;(go_simp);(try with_reducible rfl)
    refine tkH 4 (v:=?_) rfl (by kernel_rfl) (fun _ _ _ h=>h) (by rfl) ?hyr1x4 (by assumption) ?restr1x4
    case hyr1x4=>intro wq hSw;(have cq:=(B2.nx hSw).cell 2 _ rfl;go_simp);(try with_reducible rfl)
    refine wpAnyH_ready (rs:=[1]) (by kernel_rfl) (by simp) ?_
    refine AllReadyH.cons (o:=⟨_,_,_,_,_,_⟩) rfl (fun K hK=>?_) AllReadyH.nil
    go_simp
    (with_reducible refine (sort_r _ _ _ _ _ (S1.nx (Ex.refl w3).drew) hn).mono ?_)
    rintro e w5 ⟨a5,n5,c5,rfl,r5,k5⟩
    have r5:Slf 3 encN w3.drew w5 a5 n5 _:=r5
    replace k5:Ex w3.drew w5:=k5
    replace B2:=B2.nx k5
    have hn5:n5≤1000:=by have:=r5.len;have:=sortN_length l;have:=HL.out;omega
    refine hK.out _ _ k5 (fun _=>?_)
    clear hK K
    refine wpAnyH_switch (S':=Ex w5) (fun _ hSw=>Ex.nx k5 hSw) ?_
    clear hHeld
    have hHeld:=Ex.refl w5
    refine wpAnyH_ready (rs:=[5]) (by kernel_rfl) (by simp) ?_
    refine AllReadyH.cons (o:=⟨_,_,_,_,_,_⟩) rfl (fun K hK=>?_) AllReadyH.nil
    go_simp
    refine (group_r _ _ _ _ h xw _ r5.sl (fun _ hk=>hk) hn5 HW.out HX).mono ?_
    rintro e w6 ⟨a6,n6,c6,rfl,r6,k6⟩
    have r6:Slf 3 encN w5 w6 a6 n6 _:=r6
    replace k6:Ex w5 w6:=k6
    refine hK.out _ _ k6 (fun _=>?_)
    clear hK K
    refine wpAnyH_switch (S':=Ex w6) (fun _ hSw=>Ex.nx k6 hSw) ?_
    clear hHeld
    have hHeld:=Ex.refl w6
    refine tkH 6 (v:=?_) rfl (by kernel_rfl) (fun _ _ _ h=>h) (by rfl) ?hyr1x6 (by assumption) ?restr1x6
    case hyr1x6=>intro wq hSw;(go_simp);(try with_reducible rfl)
    refine wpAnyH_done (by kernel_rfl) ?_ _
    have k7:=k1.nx (((Ex.refl w3).drew.nx k5).nx k6)
    have HG:Hid (thrG l id h=groupN (sortN l) h xw):=lH (by unfold thrG;rw [← HF.out])
    have RG:Slf 3 encN w w6 a6 n6 _:=r6.old (Nat.le_trans k1.size k5.size)
    clear r5 r6 k5 k6 hn5 S1 B2 k1
    have RG:=RG
    have hng:=RG.len
    subst hng
    have hgl:=groupN_length (sortN l) h xw
    rw [sortN_length] at hgl
    have hgl:(groupN (sortN l) h xw).length≤1000:=by have:=HL.out;omega
    generalize groupN (sortN l) h xw=G at RG HG hgl ⊢
    have RG:=lH RG
    go_wp2_with fail
    go_loopw [12] (fun i wr=>TgRel G id w6 i wr) (fun i _=>G.length-(intOf i).toNat)
    case atStart=>exact ⟨0,by omega,rfl,Ex.refl _,by intro _ _ h;omega⟩
    case round =>
     obtain ⟨k,hk,rfl,kw,hno⟩:=hrel
     have HNO:=lH hno
     obtain ⟨wo,rfl⟩:∃ wo:World,wo=wr:=⟨_,rfl⟩
     clear hno
     by_cases hlt:k<G.length
     ·obtain ⟨x1,o1,y,rfl,hx1,hy,hc1⟩:=(RG.out.nx kw).sl.at hlt
      have e0:wo.cell? ⟨x1,o1+k*3,none⟩=some (.int .i64 y.id):=hc1 0 _ rfl
      have HY:=lH hy
      have hlt':=lH hlt
      clear hy hc1
      by_cases hid:y.id=id
      ·have HI:idxI G id=k:=idxI_of HY.out hid HNO.out
       have HT:Hid (throughN l id h=(G,k,true)):=lH (by unfold throughN;rw [HG.out,HI,if_pos];exact ⟨by rw [← HF.out],HC.out,HLV.out,hlt⟩)
       have d1:(y.id==id)=true:=by simpa using hid
       clear hid HI
       go_wp2_with fail
       refine bodyPost_ret (v:=.tuple #[.slice (some ⟨x1,o1,none⟩) G.length c6,.int .i64 k,.bool true]) (by simp [results,Tryz.results127,go_sem, *]) rfl ?_
       rw [HT.out]
       exact ⟨_,_,rfl,RG.out.nx kw,k7.nx kw⟩
      ·have d1:(y.id==id)=false:=by simpa using hid
       have HID:=lH hid
       clear hid
       go_wp2_with fail
       refine ⟨⟨k+1,by omega,by go_num,kw,fun j z hj hz=>?_⟩,by simp [intOf];omega⟩
       rcases Nat.lt_or_ge j k with h | h
       ·exact HNO.out j z h hz
       ·obtain rfl:j=k:=by omega
        rw [Option.some.inj (hz.symm.trans HY.out)]
        exact HID.out
     ·obtain rfl:k=G.length:=by omega
      have HT:Hid (throughN l id h=([],0,false)):=lH (by unfold throughN;rw [HG.out,if_neg];rintro ⟨_,_,_,h1⟩;rw [idxI_none HNO.out] at h1;omega)
      clear hk hlt
      go_wp2_with fail
      refine bodyPost_ret (v:=.tuple #[.slice none 0 0,.int .i64 0,.bool false]) (by simp [results,Tryz.results127,go_sem, *]) rfl (thPost_none HT.out (k7.nx kw))
theorem through_r (a:Option Addr) (n cp:Nat) (l:List Nd) (id h:Int) (w:World) (hs:Sl 3 encN w a n l) (hn:n≤1000) (hw:∀ x∈l,x.word<4294967296) :
  Calls Tryz.prog 127 #[.slice a n cp,.int .i64 id,.int .i64 h] w (ThPost (throughN l id h) w) :=
 (through_f a n cp l id h w hs hn hw).mono fun _ _ ⟨a',c',e,s,k⟩=>⟨a',c',e,s.sl,k⟩
def leftN (g:List Nd) (i:Nat):Int:=if i=0 then 0 else (g[i-1]?.getD Nd.zero).id
def rightN (g:List Nd) (i:Nat):Int:=(g[i+1]?.getD Nd.zero).id
def neighN (l:List Nd) (id:Int) (h:Int):(Int×Int)×Bool :=
 if (throughN l id h).2.2 then ((leftN (throughN l id h).1 (throughN l id h).2.1,rightN (throughN l id h).1 (throughN l id h).2.1),true) else ((0,0),false)
theorem throughN_lt {l:List Nd} {id h:Int} (hr:(throughN l id h).2.2=true):(throughN l id h).2.1<(throughN l id h).1.length:=by
 unfold throughN at *
 split at hr
 ·rename_i hc
  rw [if_pos hc]
  exact hc.2.2.2
 ·cases hr
theorem throughN_len (l:List Nd) (id h:Int):(throughN l id h).1.length≤l.length:=by
 unfold throughN
 split
 ·unfold thrG
  have:=groupN_length (sortN l) h (findN l id).1.word
  rw [sortN_length] at this
  exact this
 ·simp
theorem idAt {w:World} {a:Option Addr} {n:Nat} {G:List Nd} (h:Sl 3 encN w a n G) {j:Nat} (hj:j<n):∃ x o,a=some ⟨x,o,none⟩∧x<w.heap.size∧w.cell? ⟨x,o+j*3,none⟩=some (.int .i64 (G[j]?.getD Nd.zero).id):=by
 obtain ⟨x,o,y,e,hx,hy,hc⟩:=h.at hj
 exact ⟨x,o,e,hx,by rw [hy];exact hc 0 _ rfl⟩
def NgPost (r:(Int×Int)×Bool) (w:World) (e:Ending) (w':World):Prop :=
 e=.returned (.tuple #[.agg #[.int .i64 r.1.1,.int .i64 r.1.2],.bool r.2])∧Ex w w'
set_option maxRecDepth 100000 in
set_option maxHeartbeats 2000000 in
theorem neigh_r (a:Option Addr) (n cp:Nat) (l:List Nd) (id h:Int) (w:World) (hs:Sl 3 encN w a n l) (hn:n≤1000) (hw:∀ x∈l,x.word<4294967296) :
  Calls Tryz.prog 104 #[.slice a n cp,.int .i64 id,.int .i64 h] w (NgPost (neighN l id h) w):=by
 have HW:=lH hw
 have HL:=lH hs.len
 have k1:=Ex.new w (.cells #[.int .i64 0,.int .i64 0] 81)
 have B1:=Blk.new w [.int .i64 0,.int .i64 0] 81
 obtain ⟨w1,hw1⟩:∃ w1,w1=w.alloc (.cells #[.int .i64 0,.int .i64 0] 81):=⟨_,rfl⟩
 obtain ⟨g,hg⟩:∃ g,g=w.heap.size:=⟨_,rfl⟩
 have B1:Blk w1 g [.int .i64 0,.int .i64 0] 81:=by rw [hw1,hg];exact B1
 rw [← hw1] at k1
 have hgn:w.heap.size≤g:=by omega
 have HW1:=lH hw1
 have HG:=lH hg
 have S1:=hs.nx k1
 clear hs hw1 hg hw
 go_enter Tryz.func104,Tryz.ntmps104
 go_upto_region 1 with fail
 rw [← HG.out,← HW1.out]
 go_wp2_with fail
 (with_reducible refine (through_r _ _ _ _ _ _ _ S1 hn HW.out).mono ?_)
 rintro e w2 ⟨a2,c2,rfl,R2,k2⟩
 have HLT:=fun hr=>throughN_lt (l:=l) (id:=id) (h:=h) hr
 have HLE:=throughN_len l id h
 have HNE:Hid (neighN l id h=if (throughN l id h).2.2 then ((leftN (throughN l id h).1 (throughN l id h).2.1,rightN (throughN l id h).1 (throughN l id h).2.1),true) else ((0,0),false)):=lH rfl
 have hle:=HL.out
 generalize throughN l id h=r at R2 HLT HLE HNE ⊢
 obtain ⟨G,i,ok⟩:=r
 have kk:=k1.nx k2
 have B:=B1.nx k2
 have hgl:G.length≤1000:=by have:=HLE;simp at this;omega
 clear S1 B1 k1 k2 HLE hle
 simp only
 cases ok with
 | false =>
  have HE:Hid (neighN l id h=((0,0),false)):=HNE
  have q0:=B.cell 0 _ rfl
  have q1:=B.cell 1 _ rfl
  have z0:=B.free 0
  have z1:=B.free 1
  clear R2 HLT HNE
  go_wp2_with fail
  refine bodyPost_ret (v:=.tuple #[.agg #[.int .i64 0,.int .i64 0],.bool false]) (by simp [results,Tryz.results104,go_sem, *]) rfl ⟨by rw [HE.out],?_⟩
  exact (kk.setNew (p:=⟨g,0,none⟩) _ hgn).setNew (p:=⟨g,1,none⟩) _ hgn
 | true =>
  have hi:i<G.length:=HLT rfl
  have HE:Hid (neighN l id h=((leftN G i,rightN G i),true)):=HNE
  have k3:=Ex.new w2 (.cells #[.int .i64 0,.int .i64 0] 81)
  have B3:=Blk.new w2 [.int .i64 0,.int .i64 0] 81
  obtain ⟨w3,hw3⟩:∃ w3,w3=w2.alloc (.cells #[.int .i64 0,.int .i64 0] 81):=⟨_,rfl⟩
  obtain ⟨g3,hg3⟩:∃ g3,g3=w2.heap.size:=⟨_,rfl⟩
  have B3:Blk w3 g3 [.int .i64 0,.int .i64 0] 81:=by rw [hw3,hg3];exact B3
  rw [← hw3] at k3
  have hgg:g≠g3:=by have:=B.lt;omega
  have hgn3:w.heap.size≤g3:=by have:=kk.size;omega
  have HW3:=lH hw3
  have HG3:=lH hg3
  replace B:=B.nx k3
  replace kk:=kk.nx k3
  have R3:=R2.nx k3
  clear hw3 hg3 k3 R2 HLT HNE
  go_upto_region 5 with fail
  rw [← HG3.out,← HW3.out]
  -- the left neighbour
  obtain ⟨L,hL⟩:∃ L,L=leftN G i:=⟨_,rfl⟩
  obtain ⟨Rr,hR⟩:∃ Rr,Rr=rightN G i:=⟨_,rfl⟩
  rw [← hL,← hR] at HE
  have q0:=B3.cell 0 _ rfl
  have q1:=B3.cell 1 _ rfl
  have z0:=B3.free 0
  have z1:=B3.free 1
  have p0:=B.cell 0 _ rfl
  have p1:=B.cell 1 _ rfl
  have y0:=B.free 0
  have y1:=B.free 1
  have hgg2:¬ g=g3:=hgg
  have hgg3:¬ g3=g:=fun h=>hgg h.symm
  by_cases hi0:i=0
  ·have hL0:L=0:=by rw [hL];unfold leftN;rw [if_pos hi0]
   subst hL0
   have d0:¬ (0:Int)<(i:Int):=by omega
   by_cases hr:i+1<G.length
   ·have hR1:Rr=(G[i+1]?.getD Nd.zero).id:=hR
    obtain ⟨x5,o5,ex,hx5,f5⟩:=idAt R3 (j:=i+1) hr
    subst ex
    rw [← hR1] at f5
    replace f5:w3.cell? ⟨x5,o5+3,none⟩=some (.int .i64 Rr):=by rw [hi0] at f5;exact f5
    have dr:(i:Int)+1<(G.length:Int):=by omega
    clear hL hR R3 hR1
    go_wp2_with fail
    refine bodyPost_ret (v:=.tuple #[.agg #[.int .i64 0,.int .i64 Rr],.bool true]) (by simp [results,Tryz.results104,go_sem, *]) rfl ⟨by rw [HE.out],?_⟩
    repeat (first | exact kk | refine Ex.setNew ?_ _ (by first | exact hgn | exact hgn3))
   ·have hR1:Rr=0:=by rw [hR];unfold rightN;rw [List.getElem?_eq_none (by omega)];rfl
    subst hR1
    have dr:¬ (i:Int)+1<(G.length:Int):=by omega
    clear hL hR R3
    go_wp2_with fail
    refine bodyPost_ret (v:=.tuple #[.agg #[.int .i64 0,.int .i64 0],.bool true]) (by simp [results,Tryz.results104,go_sem, *]) rfl ⟨by rw [HE.out],?_⟩
    repeat (first | exact kk | refine Ex.setNew ?_ _ (by first | exact hgn | exact hgn3))
  ·have hL0:L=(G[i-1]?.getD Nd.zero).id:=by rw [hL];unfold leftN;rw [if_neg hi0]
   have d0:(0:Int)<(i:Int):=by omega
   have hi1:(i:Int)-1=((i-1:Nat):Int):=by omega
   obtain ⟨x4,o4,rfl,hx4,f4⟩:=idAt R3 (j:=i-1) (by simp only at hi ⊢;omega)
   rw [← hL0] at f4
   clear hL0
   by_cases hr:i+1<G.length
   ·have hR1:Rr=(G[i+1]?.getD Nd.zero).id:=hR
    obtain ⟨x5,o5,ex,hx5,f5⟩:=idAt R3 (j:=i+1) hr
    cases ex
    rw [← hR1] at f5
    have dr:(i:Int)+1<(G.length:Int):=by omega
    clear hL hR R3 hR1
    go_wp2_with fail
    refine bodyPost_ret (v:=.tuple #[.agg #[.int .i64 L,.int .i64 Rr],.bool true]) (by simp [results,Tryz.results104,go_sem, *]) rfl ⟨by rw [HE.out],?_⟩
    repeat (first | exact kk | refine Ex.setNew ?_ _ (by first | exact hgn | exact hgn3))
   ·have hR1:Rr=0:=by rw [hR];unfold rightN;rw [List.getElem?_eq_none (by omega)];rfl
    subst hR1
    have dr:¬ (i:Int)+1<(G.length:Int):=by omega
    clear hL hR R3
    go_wp2_with fail
    refine bodyPost_ret (v:=.tuple #[.agg #[.int .i64 L,.int .i64 0],.bool true]) (by simp [results,Tryz.results104,go_sem, *]) rfl ⟨by rw [HE.out],?_⟩
    repeat (first | exact kk | refine Ex.setNew ?_ _ (by first | exact hgn | exact hgn3))
theorem Tryz.infoLk:(Tryz.prog.info? 81).map (fun i=>(i.zero,i.size,i.bytes))=some (some (.agg #[.int .i64 0,.int .i64 0]),2,16):=by kernel_rfl
theorem Tryz.infoLd:(Tryz.prog.info? 84).map (fun i=>(i.zero,i.size,i.bytes))=some (some (.agg #[.int .i64 0,.slice none 0 0]),2,32):=by kernel_rfl
abbrev Lkd:=Int×List (Int×Int)
def rowN (S:List Nd) (m:Nat) (x:Nd):Lkd:=(x.id,(List.range m).map fun (h:Nat)=>(neighN S x.id h).1)
def buildN (l:List Nd) (height:Int):List Lkd×Int :=
 if (checkN l==0)=false then ([],1) else if lvlN height=false then ([],2) else ((sortN l).map (rowN (sortN l) (height.toNat+1)),0)
abbrev OwnLk (base:Nat) (w:World) (v:Value) (qs:List (Int×Hdr)) (L:List Lkd):Prop:=OwnN encI 2 2 encS 84 81 base w v qs L
abbrev LkL (w:World) (a:Option Addr) (n:Nat) (L:List Lkd):Prop:=NL encI 2 2 encS w a n L
def LkPost (L:List Lkd) (e:Int) (w:World) (en:Ending) (w':World):Prop :=
 ∃ (v:Value) (qs:List (Int×Hdr)),en=.returned (.tuple #[v,.int .i64 e])∧OwnLk w.heap.size w' v qs L∧Ex w w'
theorem OwnN.base {A β:Type} {encA:A→List Value} {s1 s2:Nat} {encB:β→List Value} {e1 e2:TypeId} {base base':Nat} {w:World} {v:Value} {qs:List (A×Hdr)} {L:List (A×List β)}
  (h:OwnN encA s1 s2 encB e1 e2 base w v qs L) (hb:base'≤base):OwnN encA s1 s2 encB e1 e2 base' w v qs L :=
 ⟨h.1.lower hb,h.2.1,fun j q c hq hc=>⟨(h.2.2.1 j q c hq hc).1,(h.2.2.1 j q c hq hc).2.base hb⟩,h.2.2.2⟩
def BdRel (S:List Nd) (m n:Nat) (w1:World) (o i:Value) (wr:World):Prop :=
 ∃ (k:Nat) (qs:List (Int×Hdr)),k≤n∧i=.int .i64 k∧OwnLk w1.heap.size wr o qs ((S.take k).map (rowN S m))∧Ex w1 wr
def LvRel (S:List Nd) (m:Nat) (x:Nd) (g:Nat) (w:World) (i:Value) (wr:World):Prop :=
 ∃ (j:Nat) (v:Value),j≤m∧i=.int .i64 j∧Blk wr g [.int .i64 x.id,v] 84∧OwnL 2 encS 81 w.heap.size wr v (rowN S j x).2∧Exb g w wr
theorem rowN_succ (S:List Nd) (j:Nat) (x:Nd):(rowN S (j+1) x).2=(rowN S j x).2++[(neighN S x.id (j:Nat)).1]:=by
 unfold rowN
 simp [List.range_succ]
theorem rowN_len (S:List Nd) (j:Nat) (x:Nd):(rowN S j x).2.length=j:=by unfold rowN;simp
set_option maxRecDepth 100000 in
set_option maxHeartbeats 4000000 in
theorem build_r (a:Option Addr) (n cp:Nat) (l:List Nd) (h:Int) (w:World) (hs:Sl 3 encN w a n l) (hn:n≤1000) (hw:∀ x∈l,x.word<4294967296) :
  Calls Tryz.prog 47 #[.slice a n cp,.int .i64 h] w (LkPost (buildN l h).1 (buildN l h).2 w):=by
 have HW:=lH (sort_word hw)
 have HL:=lH hs.len
 clear hw
 go_enter Tryz.func47,Tryz.ntmps47
 go_wp2_with fail
 (with_reducible refine (is_r _ _ _ _ _ hs (by omega)).mono ?_)
 rintro e w1 ⟨rfl,k1⟩
 have S1:=hs.nx k1
 clear hs
 cases hc:(checkN l==0) with
 | false =>
  have HB:Hid (buildN l h=([],1)):=lH (by unfold buildN;rw [if_pos hc])
  clear S1 hc
  go_wp2_with fail
  go_ret2
  rw [HB.out]
  exact ⟨_,[],rfl,OwnN.nil _ _ _ _ _ _ _ _,k1⟩
 | true =>
  go_wp2_with fail
  refine (level_r h _).mono ?_
  rintro e w2 ⟨rfl,rfl⟩
  cases hl:lvlN h with
  | false =>
   have HB:Hid (buildN l h=([],2)):=lH (by unfold buildN;rw [if_neg (by rw [hc];simp),if_pos hl])
   clear S1 hc hl
   go_wp2_with fail
   go_ret2
   rw [HB.out]
   exact ⟨_,[],rfl,OwnN.nil _ _ _ _ _ _ _ _,k1⟩
  | true =>
   have HB:Hid (buildN l h=((sortN l).map (rowN (sortN l) (h.toNat+1)),0)):=lH (by unfold buildN;rw [if_neg (by rw [hc];simp),if_neg (by rw [hl];simp)])
   have hh:0≤h∧h≤16:=by unfold lvlN at hl;simpa using hl
   obtain ⟨m,rfl⟩:=Int.eq_ofNat_of_zero_le hh.1
   have hm:m≤16:=by have:=hh.2;omega
   clear hc hl hh
   go_wp2_with fail
   (with_reducible refine (sort_r _ _ _ _ _ S1 hn).mono ?_)
   rintro e w3 ⟨a3,n3,c3,rfl,r3,k3⟩
   have r3:Slf 3 encN w1 w3 a3 n3 _:=r3
   have R3:=r3.sl
   have hn3:n3≤1000:=by have:=r3.len;have:=sortN_length l;have:=HL.out;omega
   have k3:Ex w w3:=k1.nx k3
   clear S1 k1 r3
   obtain ⟨S,hS⟩:∃ S,S=sortN l:=⟨_,rfl⟩
   rw [← hS] at R3 HW HB
   have HSL:=lH R3.len
   have R3:=lH R3
   have K3:=lH k3
   have hz3:=k3.size
   clear hS k3
   go_wp2_with fail
   go_loopw [7,8] (fun o i wr=>BdRel S (m+1) n3 w3 o i wr) (fun _ i _=>n3-(intOf i).toNat)
   case atStart=>exact ⟨0,[],by omega,rfl,OwnN.nil _ _ _ _ _ _ _ _,Ex.refl _⟩
   case round =>
    obtain ⟨k,qs,hk,rfl,OQ,kw⟩:=hrel
    obtain ⟨wo,rfl⟩:∃ wo:World,wo=wr:=⟨_,rfl⟩
    by_cases hlt:k<n3
    ·obtain ⟨x1,o1,x,rfl,hx1,hx,hc1⟩:=(R3.out.nx kw).at hlt
     have e0:wo.cell? ⟨x1,o1+k*3,none⟩=some (.int .i64 x.id):=hc1 0 _ rfl
     have HX:=lH hx
     have OQ:=lH OQ
     have B9:=Blk.new wo [.int .i64 x.id,.slice none 0 0] 84
     have k9:=Ex.new wo (.cells #[.int .i64 x.id,.slice none 0 0] 84)
     obtain ⟨w9,hw9⟩:∃ w9,w9=wo.alloc (.cells #[.int .i64 x.id,.slice none 0 0] 84):=⟨_,rfl⟩
     obtain ⟨g9,hg9⟩:∃ g9,g9=wo.heap.size:=⟨_,rfl⟩
     have B9:Blk w9 g9 [.int .i64 x.id,.slice none 0 0] 84:=by rw [hw9,hg9];exact B9
     rw [← hw9] at k9
     have hgo:wo.heap.size≤g9:=by omega
     have hg9':g9<w9.heap.size:=B9.lt
     have HW9:=lH hw9
     have HG9:=lH hg9
     have hzo:=kw.size
     have K9:=lH k9
     have KW:=lH kw
     clear hw9 hg9 hc1 hx kw k9
     go_upto_region 11 with fail
     rw [← HG9.out,← HW9.out]
     go_wp2_with fail
     clear e0
     go_loopw [10] (fun i wr=>LvRel S (m+1) x g9 w9 i wr) (fun i _=>m+1-(intOf i).toNat)
     case atStart=>exact ⟨0,_,by omega,rfl,B9,OwnL.nil _ _ _ _ _,Exb.refl _ _⟩
     case round =>
      clear B9
      obtain ⟨j,vv,hj,rfl,B9,own,kv⟩:=hrel
      obtain ⟨wi,rfl⟩:∃ wi:World,wi=wr:=⟨_,rfl⟩
      have ki:Ex wo wi:=Ex.of_exb ((K9.out.b g9).nxb kv) hgo
      by_cases hjm:j≤m
      ·have e0:wi.cell? ⟨x1,o1+k*3,none⟩=some (.int .i64 x.id):=by
        obtain ⟨x5,o5,y5,he5,hx5,hy5,hc5⟩:=((R3.out.nx KW.out).nx ki).at hlt
        cases he5
        obtain rfl:x=y5:=Option.some.inj (HX.out.symm.trans hy5)
        exact hc5 0 _ rfl
       have RI:=(R3.out.nx KW.out).nx ki
       have RS:=lH (rowN_succ S j x)
       have hrl:=rowN_len S j x
       go_wp2_with fail
       (with_reducible refine (neigh_r _ _ _ _ _ _ _ RI hn3 HW.out).mono ?_)
       rintro e w4 ⟨rfl,k4⟩
       obtain ⟨⟨⟨nl,nr⟩,nok⟩,hN⟩:∃ N,N=neighN S x.id (j:Nat):=⟨_,rfl⟩
       have HN:=lH hN
       rw [← hN]
       generalize (rowN S j x).2=row at own RS hrl
       have own4:=own.nx k4
       replace B9:=B9.nx k4
       replace kv:=kv.nxb (k4.b g9)
       clear RI k4 hN e0 own
       have B5:=Blk.new w4 [.int .i64 nl,.int .i64 nr] 81
       have k5:=Ex.new w4 (.cells #[.int .i64 nl,.int .i64 nr] 81)
       obtain ⟨w5,hw5⟩:∃ w5,w5=w4.alloc (.cells #[.int .i64 nl,.int .i64 nr] 81):=⟨_,rfl⟩
       obtain ⟨g5,hg5⟩:∃ g5,g5=w4.heap.size:=⟨_,rfl⟩
       have B5:Blk w5 g5 [.int .i64 nl,.int .i64 nr] 81:=by rw [hw5,hg5];exact B5
       rw [← hw5] at k5
       have HW5:=lH hw5
       have HG5:=lH hg5
       replace own4:=own4.nx k5
       replace B9:=B9.nx k5
       replace kv:=kv.nxb (k5.b g9)
       clear hw5 hg5 k5
       go_upto_region 15 with fail
       rw [← HG5.out,← HW5.out]
       have q0:=B5.cell 0 _ rfl
       have q1:=B5.cell 1 _ rfl
       have p0:=B9.cell 0 _ rfl
       have p1:=B9.cell 1 _ rfl
       have zb:=kv.size
       go_wp2_with (at_builtin;(refine wpList_append_lit (enc:=encS) w5 rfl _ _ 82 rfl w9.heap.size 81 (.agg #[.int .i64 0,.int .i64 0]) 2 16 Tryz.underlying82 Tryz.infoLk rfl (by omega) (by omega) _ _ own4 rfl ((nl,nr):Int×Int) _ rfl rfl (by simp [encS,Value.oneCell']) _ (by simp) rfl (by omega) zb _ ?_);intro v6 w6 own6 _ ch1 _;obtain ⟨a6,c6,rfl,_,_,_,_⟩:=own6.rd (fun _=>rfl);have B6:Blk w6 g9 _ _:=(ch1.block g9 hg9').trans B9;have z6:=B6.free 1;have p6:=B6.cell 1 _ rfl)
       rw [← HN.out] at RS
       have own7:OwnL 2 encS 81 w9.heap.size (w6.setCell ⟨g9,1,none⟩ (.slice a6 (row++[(nl,nr)]).length c6)) (.slice a6 (row++[(nl,nr)]).length c6) (row++[(nl,nr)]) :=
        own6.chg ((Chg.refl (·≠g9) w6).setCell _ (fun x hx=>hx)) (fun x _ hv=>by have:=(own6.lt x hv).1;omega)
       have kv7:Exb g9 w9 (w6.setCell ⟨g9,1,none⟩ (.slice a6 (row++[(nl,nr)]).length c6)):=(show Exb g9 w9 w6 from Chg.trans kv (ch1.mono (fun x hx=>hx.1))).setB _ rfl
       have B7:=B6.set 1 (.slice a6 (row++[(nl,nr)]).length c6)
       have hll:(row++[(nl,nr)]).length=j+1:=by simp [hrl]
       rw [hll] at own7 kv7 B7
       exact ⟨⟨j+1,_,by omega,by go_num,B7,by rw [RS.out];exact own7,kv7⟩,by simp [intOf];omega⟩
      ·obtain rfl:j=m+1:=by omega
       have OQ1:=OQ.out.nx ki
       have q0:=B9.cell 0 _ rfl
       have q1:=B9.cell 1 _ rfl
       obtain ⟨a6,c6,rfl,_,_,_,_⟩:=own.rd (fun _=>rfl)
       have hkq:qs.length=k:=by rw [OQ1.2.1,List.length_map,List.length_take,HSL.out];omega
       have hzi:w3.heap.size≤wi.heap.size:=by have:=ki.size;omega
       have hjm1:((m:Int)+1)≤(m:Int)+1:=by omega
       have FR:∀ (j:Nat) (r:Int×Hdr) (g:Nat),qs[j]?=some r→r.2.val.ownBlock=some g→¬ (Value.slice a6 (rowN S (m+1) x).2.length c6).ownBlock=some g:=by
        intro j r g hr hg hv
        have h1:=OQ.out.lt hr hg
        have h2:=(own.lt g hv).1
        omega
       clear hjm hj hjm1
       have k8:=Ex.new wi (.cells #[.int .i64 x.id,.slice a6 (rowN S (m+1) x).2.length c6] 84)
       have SX:Sl 2 (encP encI) (wi.alloc (.cells #[.int .i64 x.id,.slice a6 (rowN S (m+1) x).2.length c6] 84)) (some ⟨wi.heap.size,0,none⟩) 1 [((x.id,(a6,(rowN S (m+1) x).2.length,c6)):Int×Hdr)]:=Sl.lit _ rfl rfl (fun _=>rfl) rfl
       have OQ2:=OQ1.nx k8
       have own2:=own.nx k8
       have ki8:=ki.nx k8
       go_wp2_with (at_builtin;(refine wpList_append_W (enc:=encP encI) _ rfl _ _ 50 rfl w3.heap.size 84 (.agg #[.int .i64 0,.slice none 0 0]) 2 32 Tryz.underlying50 Tryz.infoLd rfl (by omega) (by omega) _ _ OQ2.1 rfl _ 1 1 [_] SX (fun _=>rfl) (by simp [encP,encI,Hdr.val,Value.oneCell']) rfl (by omega) (by omega) (by simp;omega) ?_);intro v7 w7 own7 ch0 ch1 _)
       have OQ7:=OQ2.push (by decide) own7 ch0 (own2.base (by omega)) FR
       have kw7:Ex w3 w7:=Chg.trans (KW.out.nx ki8) ch1
       have ET:(S.take (k+1)).map (rowN S (m+1))=(S.take k).map (rowN S (m+1))++[(x.id,(rowN S (m+1) x).2)]:=by rw [List.take_add_one,HX.out,List.map_append];rfl
       exact ⟨⟨k+1,qs++[((x.id,(a6,(rowN S (m+1) x).2.length,c6)):Int×Hdr)],by omega,by go_num,by rw [ET];exact OQ7,kw7⟩,by simp [intOf];omega⟩
    ·obtain rfl:k=n3:=by omega
     rw [List.take_of_length_le (by rw [HSL.out];exact Nat.le_refl _)] at OQ
     have HB2:=HB
     clear hk hlt
     go_wp2_with fail
     go_ret2
     rw [HB.out]
     exact ⟨_,qs,rfl,OQ.base hz3,K3.out.nx kw⟩
theorem flat_set1 {α:Type} {sz:Nat} {enc:α→List Value} (hsz:∀ y,(enc y).length=sz) {c:Nat} (hc:c<sz) {y':α} {v:Value} :
  ∀ (L:List α) (j:Nat) (y:α),L[j]?=some y→enc y'=(enc y).set c v→(L.set j y').flatMap enc=(L.flatMap enc).set (j*sz+c) v
 | [],j,y,h,_=>by simp at h
 | z::r,0,y,h,hv=>by
  simp at h;subst h
  rw [List.set_cons_zero,List.flatMap_cons,List.flatMap_cons,hv,Nat.zero_mul,Nat.zero_add,List.set_append_left _ _ (by rw [hsz];exact hc)]
 | z::r,j+1,y,h,hv=>by
  rw [List.set_cons_succ,List.flatMap_cons,List.flatMap_cons,flat_set1 hsz hc r j y (by simpa using h) hv,List.set_append_right _ _ (by rw [hsz,Nat.succ_mul];omega),hsz]
  congr 2
  rw [Nat.succ_mul];omega
theorem own_set1 {α:Type} {sz:Nat} {enc:α→List Value} (hsz:∀ y,(enc y).length=sz) {e:TypeId} {base:Nat} {w:World} {g n cap j c:Nat} {L:List α} {y:α} (h:OwnL sz enc e base w (.slice (some ⟨g,0,none⟩) n cap) L)
  (hy:L[j]?=some y) (hc:c<sz):w.cell? ⟨g,j*sz+c,none⟩=(enc y)[c]?∧w.frozen? ⟨g,j*sz+c,none⟩=false ∧
   ∀ (y':α) (v:Value),enc y'=(enc y).set c v→OwnL sz enc e base (w.setCell ⟨g,j*sz+c,none⟩ v) (.slice (some ⟨g,0,none⟩) n cap) (L.set j y'):=by
 rcases h.2 with ⟨h1,_⟩ | ⟨g',cap',cur,e1,e2,e3,e4,e5,e6,e7⟩
 ·cases h1
 ·obtain ⟨rfl,hLn,rfl⟩:g=g'∧n=L.length∧cap=cap':=by simpa using e1
  have hjl:=(List.getElem?_eq_some_iff.1 hy).1
  have hlt:j*sz+c<L.length*sz:=by
   have:(j+1)*sz≤L.length*sz:=Nat.mul_le_mul_right _ hjl
   rw [Nat.succ_mul] at this;omega
  refine ⟨?_,by simp [World.frozen?,e3],fun y' v hv=>⟨?_,.inr ⟨g,cap,_,by simp [hLn],e2,heap_set e3 _ v,by simpa using e4,e5,by simpa using e6,?_⟩⟩⟩
  ·have h2:(cur.toList.take (L.length*sz))[j*sz+c]?=(enc y)[c]?:=by
    rw [e7]
    have hcy:c<(enc y).length:=by rw [hsz];exact hc
    rw [List.getElem?_eq_getElem hcy]
    exact flat_at hsz L j y hy c _ (List.getElem?_eq_getElem hcy)
   rw [List.getElem?_take,if_pos hlt] at h2
   simpa [World.cell?,e3] using h2
  ·rw [flatN_len hsz]
  ·rw [flat_set1 hsz hc L j y hy hv,← e7,List.length_set]
   simp only [Array.toList_setIfInBounds,List.take_set]
def NOk (x:Nd):Prop:=I64 x.id∧x.word<4294967296∧x.key.size≤65
theorem roster_ok {l:List Nd} (h:checkN l=0):∀ x∈l,NOk x∧1≤x.id∧x.id≤2147483647∧x.key.size≤64∧x.word<65536:=by
 intro x hx
 have hb:badN x=false:=by
  cases hb:badN x with
  | false=>rfl
  | true =>
   exfalso
   unfold checkN at h
   have:l.any badN=true:=List.any_eq_true.2 ⟨x,hx,hb⟩
   rw [this] at h
   split at h<;>simp at h
 unfold badN validN at hb
 simp at hb
 obtain ⟨⟨⟨h1,h2⟩,h3⟩,h4⟩:=hb
 exact ⟨⟨⟨by omega,by omega⟩,by omega,by omega⟩,by omega,by omega,by omega,by omega⟩
def SmRel (L M:List Lkd) (n:Nat) (w:World) (i:Value) (wr:World):Prop:=∃ k:Nat,k≤n∧i=.int .i64 k∧Ex w wr∧L.take k=M.take k
def SvRel (r s:List (Int×Int)) (n:Nat) (w:World) (i:Value) (wr:World):Prop:=∃ k:Nat,k≤n∧i=.int .i64 k∧Ex w wr∧r.take k=s.take k
theorem take_snoc_eq {α:Type} {L M:List α} {k:Nat} {c d:α} (h:L.take k=M.take k) (hc:L[k]?=some c) (hd:M[k]?=some d) (he:c=d):L.take (k+1)=M.take (k+1):=by
 rw [List.take_add_one,List.take_add_one,h,hc,hd,he]
theorem ne_at {α:Type} {L M:List α} {k:Nat} {c d:α} (hc:L[k]?=some c) (hd:M[k]?=some d) (he:c≠d):¬ L=M:=by
 intro h
 rw [h,hd] at hc
 exact he (Option.some.inj hc).symm
set_option maxHeartbeats 4000000 in
theorem samelk_g (a1 a2:Option Addr) (n m c1 c2:Nat) (L M:List Lkd) (w:World) (h1:LkL w a1 n L) (h2:LkL w a2 m M) (hn:n≤1000000) (hs:∀ c∈L,c.2.length≤9223372036854775807) :
  Calls Tryz.prog 24 #[.slice a1 n c1,.slice a2 m c2] w fun e w'=>e=.returned (.bool (decide (L=M)))∧Ex w w':=by
 have HL:=lH h1.len
 have HM:=lH h2.len
 have HS:=lH hs
 clear hs
 go_enter Tryz.func24,Tryz.ntmps24
 by_cases hnm:n=m
 ·subst hnm
  go_wp2_with fail
  go_loopw [5] (fun i wr=>SmRel L M n w i wr) (fun i _=>n-(intOf i).toNat)
  case atStart=>exact ⟨0,by omega,rfl,Ex.refl _,rfl⟩
  case round =>
   obtain ⟨k,hk,rfl,kw,hT⟩:=hrel
   obtain ⟨wo,rfl⟩:∃ wo:World,wo=wr:=⟨_,rfl⟩
   have HT:=lH hT
   clear hT
   by_cases hlt:k<n
   ·obtain ⟨x1,o1,a1',n1',c1',d1,rfl,hx1,hy1,hc1,r1⟩:=(h1.nx kw).at hlt
    obtain ⟨x2,o2,a2',n2',c2',d2,rfl,hx2,hy2,hc2,r2⟩:=(h2.nx kw).at hlt
    have e0:wo.cell? ⟨x1,o1+k*2,none⟩=some (.int .i64 d1.1):=hc1 0 _ rfl
    have e1:wo.cell? ⟨x1,o1+k*2+1,none⟩=some (.slice a1' n1' c1'):=hc1 1 _ rfl
    have f0:wo.cell? ⟨x2,o2+k*2,none⟩=some (.int .i64 d2.1):=hc2 0 _ rfl
    have f1:wo.cell? ⟨x2,o2+k*2+1,none⟩=some (.slice a2' n2' c2'):=hc2 1 _ rfl
    have HY1:=lH hy1
    have HY2:=lH hy2
    have L1:=lH r1.len
    have L2:=lH r2.len
    have R1:=lH r1
    have R2:=lH r2
    have H1:=lH h1
    have H2:=lH h2
    have hb1:n1'≤9223372036854775807:=by rw [← r1.len];exact HS.out _ (List.mem_of_getElem? hy1)
    have KW:=lH kw
    clear hc1 hc2 hy1 hy2 r1 r2 h1 h2 kw
    by_cases hid:d1.1=d2.1
    ·by_cases hln:n1'=n2'
     ·subst hln
      have g1:decide (d1.1=d2.1)=true:=by simpa using hid
      go_wp2_with fail
      go_quiet (fail)
      go_wp2_with fail
      have KQ:=KW.out.drewN 0
      go_loopw [6] (fun i wr=>SvRel d1.2 d2.2 n1' wo i wr) (fun i _=>n1'-(intOf i).toNat)
      case atStart=>exact ⟨0,by omega,rfl,(Ex.refl wo).drewN _,rfl⟩
      case round =>
       obtain ⟨j,hj,rfl,kv,hT2⟩:=hrel
       obtain ⟨wi,rfl⟩:∃ wi:World,wi=wr:=⟨_,rfl⟩
       have HT2:=lH hT2
       clear hT2
       have e1:=Chg.cellv kv e1 hx1
       have f1:=Chg.cellv kv f1 hx2
       by_cases hjl:j<n1'
       ·obtain ⟨x3,o3,y1,rfl,hx3,hy1,hc3⟩:=(R1.out.nx kv).at hjl
        obtain ⟨x4,o4,y2,rfl,hx4,hy2,hc4⟩:=(R2.out.nx kv).at hjl
        have u0:wi.cell? ⟨x3,o3+j*2,none⟩=some (.int .i64 y1.1):=hc3 0 _ rfl
        have u1:wi.cell? ⟨x3,o3+j*2+1,none⟩=some (.int .i64 y1.2):=hc3 1 _ rfl
        have v0:wi.cell? ⟨x4,o4+j*2,none⟩=some (.int .i64 y2.1):=hc4 0 _ rfl
        have v1:wi.cell? ⟨x4,o4+j*2+1,none⟩=some (.int .i64 y2.2):=hc4 1 _ rfl
        have HZ1:=lH hy1
        have HZ2:=lH hy2
        have KV:=lH kv
        clear hc3 hc4 hy1 hy2 kv e0 f0
        by_cases hy:y1=y2
        ·subst hy
         go_wp2_with fail
         go_quiet (fail)
         go_wp2_with fail
         exact ⟨⟨j+1,by omega,by go_num,KV.out.drewN _,take_snoc_eq HT2.out HZ1.out HZ2.out rfl⟩,by simp [intOf];omega⟩
        ·have ND:Hid (decide (L=M)=false):=lH (decide_eq_false (ne_at HY1.out HY2.out (fun h=>ne_at HZ1.out HZ2.out hy (by rw [h]))))
         obtain ⟨p1,r1⟩:=y1
         obtain ⟨p2,r2⟩:=y2
         simp only at u0 u1 v0 v1
         by_cases hp:p1=p2
         ·subst hp
          have hr:¬ r1=r2:=fun h=>hy (by rw [h])
          have hb:(r1==r2)=false:=by simpa using hr
          clear hy HZ1 HZ2
          go_wp2_with fail
          go_quiet (fail)
          go_wp2_with fail
          go_ret
          exact ⟨by rw [ND.out];rfl,(KW.out.nx KV.out).drewN _⟩
         ·have hb:(p1==p2)=false:=by simpa using hp
          clear hy HZ1 HZ2
          go_wp2_with fail
          go_quiet (fail)
          go_wp2_with fail
          go_ret
          exact ⟨by rw [ND.out];rfl,(KW.out.nx KV.out).drewN _⟩
       ·obtain rfl:j=n1':=by omega
        have ED:d1=d2:=Prod.ext hid (by
         have h3:=HT2.out
         rwa [List.take_of_length_le (by rw [L1.out];exact Nat.le_refl _),List.take_of_length_le (by rw [L2.out];exact Nat.le_refl _)] at h3)
        have ED:=lH ED
        have KV:=lH kv
        clear kv hj hjl e0 f0
        go_wp2_with fail
        exact ⟨⟨k+1,by omega,by go_num,KW.out.nx KV.out,take_snoc_eq HT.out HY1.out HY2.out ED.out⟩,by simp [intOf];omega⟩
     ·have g1:decide (d1.1=d2.1)=true:=by simpa using hid
      have g2:¬ (n1':Int)=(n2':Int):=by omega
      have ND:Hid (decide (L=M)=false):=lH (decide_eq_false (ne_at HY1.out HY2.out (fun h=>hln (by rw [← L1.out,← L2.out,h]))))
      go_wp2_with fail
      go_quiet (fail)
      go_wp2_with fail
      go_ret
      exact ⟨by rw [ND.out];rfl,KW.out.drewN _⟩
    ·have g1:decide (d1.1=d2.1)=false:=by simpa using hid
     have ND:Hid (decide (L=M)=false):=lH (decide_eq_false (ne_at HY1.out HY2.out (fun h=>hid (by rw [h]))))
     go_wp2_with fail
     go_quiet (fail)
     go_wp2_with fail
     go_ret
     exact ⟨by rw [ND.out];rfl,KW.out.drewN _⟩
   ·obtain rfl:k=n:=by omega
    have ED:Hid (decide (L=M)=true):=lH (decide_eq_true (by
     have h3:=HT.out
     rwa [List.take_of_length_le (by rw [HL.out];exact Nat.le_refl _),List.take_of_length_le (by rw [HM.out];exact Nat.le_refl _)] at h3))
    clear h1 h2 hk hlt
    go_wp2_with fail
    go_ret
    exact ⟨by rw [ED.out];rfl,kw⟩
 ·have hnm':¬ (n:Int)=(m:Int):=by omega
  have ND:Hid (decide (L=M)=false):=lH (decide_eq_false (fun h=>hnm (by rw [← HL.out,← HM.out,h])))
  clear h1 h2
  go_wp2_with fail
  go_ret
  exact ⟨by rw [ND.out];rfl,Ex.refl _⟩
set_option maxHeartbeats 4000000 in
theorem eql_p (a1 a2:Option Addr) (n m c1 c2:Nat) (r s:List (Int×Int)) (w:World) (h1:Sl 2 encS w a1 n r) (h2:Sl 2 encS w a2 m s) (hn:n≤9223372036854775807) :
  Calls Tryz.prog 152 #[.slice a1 n c1,.slice a2 m c2] w fun e w'=>e=.returned (.bool (decide (r=s)))∧Ex w w':=by
 have L1:=lH h1.len
 have L2:=lH h2.len
 have R1:=lH h1
 have R2:=lH h2
 clear h1 h2
 go_enter Tryz.func152,Tryz.ntmps152
 by_cases hnm:n=m
 ·subst hnm
  go_wp2_with fail
  go_loopw [13] (fun i wr=>SvRel r s n w i wr) (fun i _=>n-(intOf i).toNat)
  case atStart=>exact ⟨0,by omega,rfl,Ex.refl w,rfl⟩
  case round =>
   obtain ⟨j,hj,rfl,kv,hT2⟩:=hrel
   obtain ⟨wi,rfl⟩:∃ wi:World,wi=wr:=⟨_,rfl⟩
   have HT2:=lH hT2
   clear hT2
   by_cases hjl:j<n
   ·obtain ⟨x3,o3,y1,rfl,hx3,hy1,hc3⟩:=(R1.out.nx kv).at hjl
    obtain ⟨x4,o4,y2,rfl,hx4,hy2,hc4⟩:=(R2.out.nx kv).at hjl
    have u0:wi.cell? ⟨x3,o3+j*2,none⟩=some (.int .i64 y1.1):=hc3 0 _ rfl
    have u1:wi.cell? ⟨x3,o3+j*2+1,none⟩=some (.int .i64 y1.2):=hc3 1 _ rfl
    have v0:wi.cell? ⟨x4,o4+j*2,none⟩=some (.int .i64 y2.1):=hc4 0 _ rfl
    have v1:wi.cell? ⟨x4,o4+j*2+1,none⟩=some (.int .i64 y2.2):=hc4 1 _ rfl
    have HZ1:=lH hy1
    have HZ2:=lH hy2
    have KV:=lH kv
    clear hc3 hc4 hy1 hy2 kv
    by_cases hy:y1=y2
    ·subst hy
     go_wp2_with fail
     go_quiet (fail)
     go_wp2_with fail
     exact ⟨⟨j+1,by omega,by go_num,KV.out.drewN _,take_snoc_eq HT2.out HZ1.out HZ2.out rfl⟩,by simp [intOf];omega⟩
    ·have ND:Hid (decide (r=s)=false):=lH (decide_eq_false (ne_at HZ1.out HZ2.out hy))
     obtain ⟨p1,r1⟩:=y1
     obtain ⟨p2,r2⟩:=y2
     simp only at u0 u1 v0 v1
     by_cases hp:p1=p2
     ·subst hp
      have hr:¬ r1=r2:=fun h=>hy (by rw [h])
      have hb:(r1==r2)=false:=by simpa using hr
      clear hy HZ1 HZ2
      go_wp2_with fail
      go_quiet (fail)
      go_wp2_with fail
      go_ret
      exact ⟨by rw [ND.out];rfl,KV.out.drewN _⟩
     ·have hb:(p1==p2)=false:=by simpa using hp
      clear hy HZ1 HZ2
      go_wp2_with fail
      go_quiet (fail)
      go_wp2_with fail
      go_ret
      exact ⟨by rw [ND.out];rfl,KV.out.drewN _⟩
   ·obtain rfl:j=n:=by omega
    have ED:Hid (decide (r=s)=true):=lH (decide_eq_true (by
     have h3:=HT2.out
     rwa [List.take_of_length_le (by rw [L1.out];exact Nat.le_refl _),List.take_of_length_le (by rw [L2.out];exact Nat.le_refl _)] at h3))
    have KV:=lH kv
    clear kv hj hjl
    go_wp2_with fail
    go_ret
    exact ⟨by rw [ED.out];rfl,KV.out⟩
 ·have hnm':¬ (n:Int)=(m:Int):=by omega
  have ND:Hid (decide (r=s)=false):=lH (decide_eq_false (fun h=>hnm (by rw [← L1.out,← L2.out,h])))
  go_wp2_with fail
  go_ret
  exact ⟨by rw [ND.out];rfl,Ex.refl _⟩
set_option maxHeartbeats 1000000 in
theorem same1_p (i1 i2:Int) (a1 a2:Option Addr) (n m c1 c2:Nat) (r s:List (Int×Int)) (w:World) (h1:Sl 2 encS w a1 n r) (h2:Sl 2 encS w a2 m s) (hn:n≤9223372036854775807) :
  Calls Tryz.prog 151 #[.agg #[.int .i64 i1,.slice a1 n c1],.agg #[.int .i64 i2,.slice a2 m c2]] w fun e w'=>e=.returned (.bool (decide ((i1,r)=(i2,s))))∧Ex w w':=by
 go_enter Tryz.func151,Tryz.ntmps151
 by_cases hi:i1=i2
 ·subst hi
  have k1:=Ex.new w (.cells #[.int .i64 i1,.slice a1 n c1] 84)
  have k2:=k1.alloc (.cells #[.int .i64 i1,.slice a2 m c2] 84)
  have R1:=h1.nx k2
  have R2:=h2.nx k2
  have DD:Hid (decide ((i1,r)=(i1,s))=decide (r=s)):=lH (by rw [decide_eq_decide];simp)
  have K2:=lH k2
  clear h1 h2 k1 k2
  go_wp2_with fail
  (with_reducible refine (eql_p _ _ _ _ _ _ _ _ _ R1 R2 hn).mono ?_)
  rintro e w1 ⟨rfl,kk⟩
  clear R1 R2
  go_wp2_with fail
  go_ret
  exact ⟨by rw [DD.out];rfl,K2.out.nx kk⟩
 ·have d1:(i1==i2)=false:=by simpa using hi
  have ND:Hid (decide ((i1,r)=(i2,s))=false):=lH (decide_eq_false (fun h=>hi (by cases h;rfl)))
  clear h1 h2
  go_wp2_with fail
  go_ret
  exact ⟨by rw [ND.out];rfl,((Ex.refl w).alloc _).alloc _⟩
set_option maxRecDepth 100000 in
set_option maxHeartbeats 4000000 in
theorem eqf_p (a1 a2:Option Addr) (n m c1 c2:Nat) (L M:List Lkd) (w:World) (h1:LkL w a1 n L) (h2:LkL w a2 m M) (hn:n≤1000000) (hs:∀ c∈L,c.2.length≤9223372036854775807) :
  Calls Tryz.prog 150 #[.slice a1 n c1,.slice a2 m c2,.func (.func 151) #[] #[]] w fun e w'=>e=.returned (.bool (decide (L=M)))∧Ex w w':=by
 have HL:=lH h1.len
 have HM:=lH h2.len
 have HS:=lH hs
 have H1:=lH h1
 have H2:=lH h2
 clear hs h1 h2
 go_enter Tryz.func150,Tryz.ntmps150
 by_cases hnm:n=m
 ·subst hnm
  go_wp2_with fail
  go_loopw [17] (fun i wr=>SmRel L M n w i wr) (fun i _=>n-(intOf i).toNat)
  case atStart=>exact ⟨0,by omega,rfl,Ex.refl _,rfl⟩
  case round =>
   obtain ⟨k,hk,rfl,kw,hT⟩:=hrel
   obtain ⟨wo,rfl⟩:∃ wo:World,wo=wr:=⟨_,rfl⟩
   have HT:=lH hT
   clear hT
   by_cases hlt:k<n
   ·obtain ⟨x1,o1,a1',n1',c1',d1,rfl,hx1,hy1,hc1,r1⟩:=(H1.out.nx kw).at hlt
    obtain ⟨x2,o2,a2',n2',c2',d2,rfl,hx2,hy2,hc2,r2⟩:=(H2.out.nx kw).at hlt
    have e0:wo.cell? ⟨x1,o1+k*2,none⟩=some (.int .i64 d1.1):=hc1 0 _ rfl
    have e1:wo.cell? ⟨x1,o1+k*2+1,none⟩=some (.slice a1' n1' c1'):=hc1 1 _ rfl
    have f0:wo.cell? ⟨x2,o2+k*2,none⟩=some (.int .i64 d2.1):=hc2 0 _ rfl
    have f1:wo.cell? ⟨x2,o2+k*2+1,none⟩=some (.slice a2' n2' c2'):=hc2 1 _ rfl
    have hne1:¬ x1=wo.heap.size:=by omega
    have hne2:¬ x2=wo.heap.size:=by omega
    have HY1:=lH hy1
    have HY2:=lH hy2
    have hb1:n1'≤9223372036854775807:=by rw [← r1.len];exact HS.out _ (List.mem_of_getElem? hy1)
    have k1:=Ex.new wo (.cells #[.int .i64 d1.1,.slice a1' n1' c1'] 84)
    have k2:=k1.alloc (.cells #[.int .i64 d2.1,.slice a2' n2' c2'] 84)
    have R1:=lH (fun (cur:World) (k:Ex wo cur)=>r1.nx k)
    have R2:=lH (fun (cur:World) (k:Ex wo cur)=>r2.nx k)
    have K2:=lH k2
    have KW:=lH kw
    clear hc1 hc2 hy1 hy2 r1 r2 k1 k2 kw
    go_wp2_with fail
    (with_reducible refine (same1_p _ _ _ _ _ _ _ _ _ _ _ (R1.out _ K2.out) (R2.out _ K2.out) hb1).mono ?_)
    rintro e w1 ⟨rfl,kk⟩
    have KZ:=lH (KW.out.nx (K2.out.nx kk))
    clear kk K2 R1 R2 e0 e1 f0 f1
    by_cases hd:(d1.1,d1.2)=(d2.1,d2.2)
    ·rw [decide_eq_true hd]
     have ED:Hid (d1=d2):=lH hd
     clear hd
     go_wp2_with fail
     exact ⟨⟨k+1,by omega,by go_num,KZ.out,take_snoc_eq HT.out HY1.out HY2.out ED.out⟩,by simp [intOf];omega⟩
    ·rw [decide_eq_false hd]
     have ND:Hid (decide (L=M)=false):=lH (decide_eq_false (ne_at HY1.out HY2.out hd))
     clear hd
     go_wp2_with fail
     go_ret
     exact ⟨by rw [ND.out];rfl,KZ.out⟩
   ·obtain rfl:k=n:=by omega
    have ED:Hid (decide (L=M)=true):=lH (decide_eq_true (by
     have h3:=HT.out
     rwa [List.take_of_length_le (by rw [HL.out];exact Nat.le_refl _),List.take_of_length_le (by rw [HM.out];exact Nat.le_refl _)] at h3))
    clear hk hlt
    go_wp2_with fail
    go_ret
    exact ⟨by rw [ED.out];rfl,kw⟩
 ·have hnm':¬ (n:Int)=(m:Int):=by omega
  have ND:Hid (decide (L=M)=false):=lH (decide_eq_false (fun h=>hnm (by rw [← HL.out,← HM.out,h])))
  go_wp2_with fail
  go_ret
  exact ⟨by rw [ND.out];rfl,Ex.refl _⟩
theorem same_lp (a1 a2:Option Addr) (n m c1 c2:Nat) (L M:List Lkd) (w:World) (h1:LkL w a1 n L) (h2:LkL w a2 m M) (hn:n≤1000000) (hs:∀ c∈L,c.2.length≤9223372036854775807) :
  Calls Tryz.prog 106 #[.slice a1 n c1,.slice a2 m c2] w fun e w'=>e=.returned (.bool (decide (L=M)))∧Ex w w':=by
 go_enter Tryz.func106,Tryz.ntmps106
 go_wp2_with fail
 (with_reducible refine (eqf_p _ _ _ _ _ _ _ _ _ h1 h2 hn hs).mono ?_)
 rintro e w1 ⟨rfl,kk⟩
 clear h1 h2
 go_wp2_with fail
 go_ret
 exact ⟨rfl,kk⟩
def LkB (b:Nat) (w:World) (a:Option Addr) (n:Nat) (L:List Lkd):Prop :=
 ∃ qs:List (Int×Hdr),Slb 2 (encP encI) b w a n qs∧L.length=n∧∀ (j:Nat) (q:Int×Hdr) (c:Lkd),qs[j]?=some q→L[j]?=some c→q.1=c.1∧Slb 2 encS b w q.2.1 q.2.2.1 c.2
theorem LkB.nxb {b:Nat} {w w':World} {a:Option Addr} {n:Nat} {L:List Lkd} (h:LkB b w a n L) (k:Exb b w w'):LkB b w' a n L:=by
 obtain ⟨qs,h1,h2,h3⟩:=h
 exact ⟨qs,h1.nxb k,h2,fun j q c hq hc=>⟨(h3 j q c hq hc).1,(h3 j q c hq hc).2.nxb k⟩⟩
theorem LkB.nl {b:Nat} {w:World} {a:Option Addr} {n:Nat} {L:List Lkd} (h:LkB b w a n L):LkL w a n L:=by
 obtain ⟨qs,h1,h2,h3⟩:=h
 exact ⟨qs,h1.sl,h2,fun j q c hq hc=>⟨(h3 j q c hq hc).1,(h3 j q c hq hc).2.sl⟩⟩
end Go.Proofs.YtalmjklljofhbaaGreatDoor
