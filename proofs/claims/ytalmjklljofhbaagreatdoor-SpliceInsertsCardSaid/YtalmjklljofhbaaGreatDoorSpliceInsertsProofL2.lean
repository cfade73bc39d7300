/- Texts for SpliceInsertsProof. -/
import Derived.Test.YtalmjklljofhbaaGreatDoorSxAll16
import Derived.Test.YtalmjklljofhbaaGreatDoorSxAll25
import Derived.Test.YtalmjklljofhbaaGreatDoorSxAll26
import Derived.Test.YtalmjklljofhbaaGreatDoorSpliceInsertsProofL1
set_option linter.unusedSimpArgs false
set_option linter.unusedVariables false

namespace Go.Proofs.YtalmjklljofhbaaGreatDoor
open Go.RowKit
def V1 (R:List Nd) (x:Nd) (j la:Nat) (w:World) (c i:Value) (wr:World):Prop :=
 ∃ k:Nat,k≤R.length∧c=.int .i64 k∧i=.int .i64 ((la:Int)-1-(k:Int))∧Ex w wr∧∀ i z,i<k→R[i]?=some z→bitN z.word j≠bitN x.word j
def V2 (B:List Nd) (x:Nd) (j U la:Nat) (w:World) (c i:Value) (wr:World):Prop :=
 ∃ q:Nat,q≤B.length∧c=.int .i64 ((U:Int)+(q:Int))∧i=.int .i64 ((la:Int)+1+(q:Int))∧Ex w wr∧∀ i z,i<q→B[i]?=some z→bitN z.word j≠bitN x.word j
set_option maxRecDepth 100000 in
set_option maxHeartbeats 8000000 in
theorem visits_r (a:Option Addr) (n c:Nat) (N:List Nd) (x:Nd) (j:Nat) (w:World) (h:Sl 3 encN w a n N) (hn:n≤1000) (hw:∀ x∈N,x.word<4294967296) (h0:checkN N=0) (hx:x∈N) (hj:j≤16) :
  Calls Tryz.prog 68 #[.slice a n c,.agg #[.int .i64 x.id,.string x.key,.int .u32 x.word],.int .i64 j] w fun e w'=>e=.returned (.int .i64 (visN N x j:Nat))∧Ex w w':=by
 obtain ⟨A,B,eg⟩:=grp_at hx (lvl_nat hj)
 have HT:=(thr_at h0 hx hj).1
 have hi:idxI (grpS N (j:Int) x.word) x.id=A.length:=idxI_at (grp_asc h0 j x.word) (by rw [eg];simp)
 rw [hi] at HT
 have EV0:=vis_at h0 eg
 obtain ⟨hGA,hGB⟩:=grp_parts h0 eg
 have HAW:Hid (∀ y∈A.reverse,y.word<4294967296):=lH (fun y hy=>hw y (hGA y (List.mem_reverse.1 hy)).1)
 have HBW:Hid (∀ y∈B,y.word<4294967296):=lH (fun y hy=>hw y (hGB y hy).1)
 have HXW:=lH (hw x hx)
 have h64:=check_len h0
 have hGl:A.length+1+B.length≤64:=by
  have h1:(grpS N (j:Int) x.word).length≤N.length:=by
   unfold grpS groupN
   exact Nat.le_trans (List.length_filter_le _ _) (Nat.le_of_eq (sortN_length N))
  rw [eg,List.length_append,List.length_cons] at h1
  omega
 rw [eg] at HT
 have EX:=Ex.refl w
 have B4:=Blk.new w [.int .i64 x.id,.string x.key,.int .u32 x.word] 49
 have kk:=Ex.new w (.cells #[.int .i64 x.id,.string x.key,.int .u32 x.word] 49)
 obtain ⟨w1,hw1⟩:∃ w1,w1=w.alloc (.cells #[.int .i64 x.id,.string x.key,.int .u32 x.word] 49):=⟨_,rfl⟩
 obtain ⟨g4,hg4⟩:∃ g4,g4=w.heap.size:=⟨_,rfl⟩
 replace B4:Blk w1 g4 [.int .i64 x.id,.string x.key,.int .u32 x.word] 49:=by rw [hw1,hg4];exact B4
 rw [← hw1] at kk
 have Hw1:=lH hw1
 have Hg4:=lH hg4
 replace h:=h.nx kk
 replace EX:=EX.nx kk
 clear kk hw1 hg4
 have b0:=B4.cell 0 _ rfl
 go_enter Tryz.func68,Tryz.ntmps68
 go_upto_region 1 with fail
 rw [← Hg4.out,← Hw1.out]
 clear Hg4 Hw1 eg h64 hGA hGB
 go_wp2_with fail
 (with_reducible refine (through_r _ _ _ N x.id (j:Int) _ h hn hw).mono ?_)
 rintro e w2 ⟨aG,cG,rfl,SG,kk⟩
 replace EX:=EX.nx kk
 replace B4:=B4.nx kk
 clear kk
 rw [HT] at SG ⊢
 simp only at SG
 clear HT h b0
 have hnl:(A++x::B).length=A.length+1+B.length:=by simp;omega
 obtain ⟨nG,hnG⟩:∃ nG,nG=(A++x::B).length:=⟨_,rfl⟩
 rw [← hnG] at SG hnl ⊢
 have NG:=lH hnl
 have hn64:nG≤64:=by omega
 have SG:=lH SG
 have EX:=lH EX
 have B4:=lH B4
 obtain ⟨x1,o1,y1,rfl,hx1,_,_⟩:=SG.out.at (j:=A.length) (by omega)
 clear hnG hnl hx1
 obtain ⟨RA,hRA⟩:∃ RA,RA=A.reverse:=⟨_,rfl⟩
 rw [← hRA] at HAW EV0
 have HRA:=lH hRA
 have hRl:RA.length=A.length:=by rw [hRA,List.length_reverse]
 have HRL:=lH hRl
 have wz0:IntKind.i64.wrap ((A.length:Int)-1)=(A.length:Int)-1:=IntWalk.i64_in _ (by omega)
 obtain ⟨U1,hU1⟩:∃ U1,U1=untN j x RA:=⟨_,rfl⟩
 rw [← hU1] at EV0
 have HU1:=lH hU1
 have EV:=lH EV0
 have hU1b:U1≤64:=by obtain ⟨_,_,_,_,q1,_⟩:=unt_le j x RA;rw [hU1];omega
 have R1:=lH (show V1 RA x j A.length w2 (.int .i64 0) (.int .i64 ((A.length:Int)-1)) w2 from ⟨0,by omega,by go_num,by go_num,Ex.refl _,fun i z h=>by omega⟩)
 clear hRA hRl hU1 EV0 hw h0 hx
 go_wp2_with fail
 go_loopw [10,11] (fun c i wr=>V1 RA x j A.length w2 c i wr) (fun _ i _=>(intOf i+1).toNat)
 case atStart=>exact R1.out
 case round =>
  clear R1 wz0
  obtain ⟨k,hk,rfl,rfl,kw,hno⟩:=hrel
  obtain ⟨wi,rfl⟩:∃ wi:World,wi=wr:=⟨_,rfl⟩
  have HNO:=lH hno
  have KW:=lH kw
  have hkA:k≤A.length:=by have:=HRL.out;omega
  by_cases hkn:k<A.length
  ·obtain ⟨y,hy⟩:∃ y,RA[k]?=some y:=⟨RA[k]'(by have:=HRL.out;omega),by simp⟩
   obtain ⟨p,hp⟩:∃ p,p=A.length-1-k:=⟨_,rfl⟩
   have hpI:(A.length:Int)-1-(k:Int)=(p:Int):=by omega
   obtain ⟨x2,o2,y2,he,hx2,hy2,hc2⟩:=(SG.out.nx kw).at (j:=p) (by have:=NG.out;omega)
   have he2:x1=x2∧o1=o2:=by simpa using he
   obtain ⟨rfl,rfl⟩:=he2
   obtain rfl:y2=y:=by
    rw [List.getElem?_append_left (by omega)] at hy2
    rw [HRA.out,List.getElem?_reverse hkn,← hp,hy2] at hy
    cases hy;rfl
   have e2:wi.cell? ⟨x1,o1+p*3+1+1,none⟩=some (.int .u32 y2.word):=by simpa [Nat.add_assoc] using hc2 2 _ rfl
   have hyw:=HAW.out y2 (List.mem_of_getElem? hy)
   have HY:=lH hy
   have B4j:=lH (B4.out.nx kw)
   rw [hpI]
   have hp0:(p:Int) ≥ 0:=by omega
   have hpl:(p:Int)<(nG:Int):=by have:=NG.out;omega
   have wb:IntKind.i64.wrap ((k:Int)+1)=(k:Int)+1:=IntWalk.i64_in _ (by omega)
   have wc:IntKind.i64.wrap ((p:Int)-1)=(p:Int)-1:=IntWalk.i64_in _ (by omega)
   have HP:=lH hp
   clear hp hpI he hc2 hy2 hy kw hno
   go_upto_region 7 with fail
   refine wp_region_held_drew (S:=Ex wi) (by kernel_rfl) ((Ex.refl wi).drew) (fun hHeld=>?_)
   obtain ⟨wd,hwdx⟩:∃ wd:World,wd=World.drew wi:=⟨_,rfl⟩
   rw [← hwdx] at hHeld ⊢
   have hDrew:Ex wi wd:=by rw [hwdx];exact (Ex.refl wi).drew
   clear hwdx
   refine tkH 0 (v:=?_) rfl (by kernel_rfl) (fun _ _ _ h=>h) (by rfl) ?y1x0q5 (by assumption) ?z1x0q5
   case y1x0q5=>intro wq hSw;(go_simp);(try with_reducible rfl)
   try simp only [Act.put,sA,sB,sC]
   refine tkH 1 (v:=?_) rfl (by kernel_rfl) (fun _ _ _ h=>h) (by rfl) ?y1x1q8 (by assumption) ?z1x1q8
   case y1x1q8=>intro wq hSw;(go_simp);(try with_reducible rfl)
   try simp only [Act.put,sA,sB,sC]
   refine tkH 2 (v:=?_) rfl (by kernel_rfl) (fun _ _ _ h=>h) (by rfl) ?y1x2q11 (by assumption) ?z1x2q11
   case y1x2q11=>intro wq hSw;(go_simp);(try with_reducible rfl)
   try simp only [Act.put,sA,sB,sC]
   refine tkH 3 (v:=?_) rfl (by kernel_rfl) (fun _ _ _ h=>h) (by rfl) ?y1x3q14 (by assumption) ?z1x3q14
   case y1x3q14=>intro wq hSw;(go_simp);(try with_reducible rfl)
   try simp only [Act.put,sA,sB,sC]
   refine tkH 4 (v:=?_) rfl (by kernel_rfl) (fun _ _ _ h=>h) (by rfl) ?y1x4q17 (by assumption) ?z1x4q17
   case y1x4q17=>intro wq hSw;(have cq:=hSw.cellv e2 hx2;go_simp);(try with_reducible rfl)
   try simp only [Act.put,sA,sB,sC]
   refine tkH 5 (v:=?_) rfl (by kernel_rfl) (fun _ _ _ h=>h) (by rfl) ?y1x5q20 (by assumption) ?z1x5q20
   case y1x5q20=>intro wq hSw;(go_simp);(try with_reducible rfl)
   try simp only [Act.put,sA,sB,sC]
   refine tkH 7 (v:=?_) rfl (by kernel_rfl) (fun _ _ _ h=>h) (by rfl) ?y1x7q23 (by assumption) ?z1x7q23
   case y1x7q23=>intro wq hSw;(go_simp);(try with_reducible rfl)
   try simp only [Act.put,sA,sB,sC]
   refine tkH 8 (v:=?_) rfl (by kernel_rfl) (fun _ _ _ h=>h) (by rfl) ?y1x8q26 (by assumption) ?z1x8q26
   case y1x8q26=>intro wq hSw;(have cq:=(B4j.out.nx hSw).cell 2 _ rfl;go_simp);(try with_reducible rfl)
   try simp only [Act.put,sA,sB,sC]
   refine tkH 9 (v:=?_) rfl (by kernel_rfl) (fun _ _ _ h=>h) (by rfl) ?y1x9q29 (by assumption) ?z1x9q29
   case y1x9q29=>intro wq hSw;(go_simp);(try with_reducible rfl)
   try simp only [Act.put,sA,sB,sC]
   refine wpAnyH_ready (rs:=[6]) (by kernel_rfl) (by simp) ?_
   refine AllReadyH.cons (o:=⟨_,_,_,_,_,_⟩) rfl (fun K hK=>?_) AllReadyH.nil
   go_simp
   refine (bit_r _ _ _ hyw (by omega) (by omega)).mono ?_
   rintro e wk ⟨rfl,rfl⟩
   refine hK.out _ _ (hHeld) (fun hHeld=>?_)
   clear hK K
   try simp only [Act.put,sA,sB,sC]
   refine wpAnyH_ready (rs:=[10]) (by kernel_rfl) (by simp) ?_
   refine AllReadyH.cons (o:=⟨_,_,_,_,_,_⟩) rfl (fun K hK=>?_) AllReadyH.nil
   go_simp
   refine (bit_r _ _ _ HXW.out (by omega) (by omega)).mono ?_
   rintro e wk ⟨rfl,rfl⟩
   refine hK.out _ _ (hHeld) (fun hHeld=>?_)
   clear hK K
   try simp only [Act.put,sA,sB,sC]
   refine tkH 11 (v:=?_) rfl (by kernel_rfl) (fun _ _ _ h=>h) (by rfl) ?y1x11q48 (by assumption) ?z1x11q48
   case y1x11q48=>intro wq hSw;(go_simp);(try with_reducible rfl)
   try simp only [Act.put,sA,sB,sC]
   refine wpAnyH_done (by kernel_rfl) ?_ _
   have KW:=lH (KW.out.nx hHeld)
   clear hHeld hDrew e2 B4j
   by_cases hb:bitN y2.word j=bitN x.word j
   ·have E:=lH (unt_at HY.out hb HNO.out)
    have hkU:k+1=U1:=by rw [HU1.out,E.out]
    have d1:(((bitN y2.word j:Nat):Int)==((bitN x.word j:Nat):Int))=true:=by rw [beq_iff_eq];omega
    have HKU:=lH hkU
    have hkU2:(k:Int)+1=(U1:Int):=by omega
    have HKI:=lH hkU2
    clear hb hkU hkU2 HY HP hp0 hpl wc hkn
    have R2:=lH (show V2 B x j U1 A.length w2 (.int .i64 ((k:Int)+1)) (.int .i64 ((A.length:Int)+1)) wd from ⟨0,by omega,by rw [HKI.out];go_num,by go_num,KW.out,fun i z h=>by omega⟩)
    have wa:IntKind.i64.wrap ((A.length:Int)+1)=(A.length:Int)+1:=IntWalk.i64_in _ (by omega)
    go_wp2_with fail
    go_loopw [10,12] (fun c i wr=>V2 B x j U1 A.length w2 c i wr) (fun _ i _=>A.length+1+B.length-(intOf i).toNat)
    case atStart=>exact R2.out
    case round =>
     clear R2
     obtain ⟨q,hq,rfl,rfl,kw2,hno2⟩:=hrel
     obtain ⟨wj,rfl⟩:∃ wj:World,wj=wr:=⟨_,rfl⟩
     have HNO2:=lH hno2
     have KW2:=lH kw2
     by_cases hqn:q<B.length
     ·obtain ⟨y,hy⟩:∃ y,B[q]?=some y:=⟨B[q],List.getElem?_eq_getElem hqn⟩
      obtain ⟨p,hp⟩:∃ p,p=A.length+1+q:=⟨_,rfl⟩
      have hpI:(A.length:Int)+1+(q:Int)=(p:Int):=by omega
      have hpG:p<nG:=by have:=NG.out;omega
      obtain ⟨x2,o2,y2,he,hx2,hy2,hc2⟩:=(SG.out.nx kw2).at hpG
      have he2:x1=x2∧o1=o2:=by simpa using he
      obtain ⟨rfl,rfl⟩:=he2
      obtain rfl:y2=y:=by
       rw [hp,show A.length+1+q=(A++[x]).length+q by simp,show A++x::B=(A++[x])++B by simp,List.getElem?_append_right (by omega),Nat.add_sub_cancel_left,hy] at hy2
       cases hy2;rfl
      have e2:wj.cell? ⟨x1,o1+p*3+1+1,none⟩=some (.int .u32 y2.word):=by simpa [Nat.add_assoc] using hc2 2 _ rfl
      have hyw:=HBW.out y2 (List.mem_of_getElem? hy)
      have HY:=lH hy
      have B4j:=lH (B4.out.nx kw2)
      rw [hpI]
      have hp0:¬ (p:Int)<0:=by omega
      have hpl:(p:Int)<(nG:Int):=by omega
      have wb:IntKind.i64.wrap ((U1:Int)+(q:Int)+1)=(U1:Int)+(q:Int)+1:=IntWalk.i64_in _ (by omega)
      have wc:IntKind.i64.wrap ((p:Int)+1)=(p:Int)+1:=IntWalk.i64_in _ (by omega)
      have HP:=lH hp
      clear hp hpI he hc2 hy2 hy kw2 hno2
      go_upto_region 12 with fail
      refine wp_region_held_drew (S:=Ex wj) (by kernel_rfl) ((Ex.refl wj).drew) (fun hHeld=>?_)
      obtain ⟨wd,hwdx⟩:∃ wd:World,wd=World.drew wj:=⟨_,rfl⟩
      rw [← hwdx] at hHeld ⊢
      have hDrew:Ex wj wd:=by rw [hwdx];exact (Ex.refl wj).drew
      clear hwdx
      refine tkH 0 (v:=?_) rfl (by kernel_rfl) (fun _ _ _ h=>h) (by rfl) ?y2x0q5 (by assumption) ?z2x0q5
      case y2x0q5=>intro wq hSw;(go_simp);(try with_reducible rfl)
      try simp only [Act.put,sA,sB,sC]
      refine tkH 1 (v:=?_) rfl (by kernel_rfl) (fun _ _ _ h=>h) (by rfl) ?y2x1q8 (by assumption) ?z2x1q8
      case y2x1q8=>intro wq hSw;(go_simp);(try with_reducible rfl)
      try simp only [Act.put,sA,sB,sC]
      refine tkH 2 (v:=?_) rfl (by kernel_rfl) (fun _ _ _ h=>h) (by rfl) ?y2x2q11 (by assumption) ?z2x2q11
      case y2x2q11=>intro wq hSw;(go_simp);(try with_reducible rfl)
      try simp only [Act.put,sA,sB,sC]
      refine tkH 3 (v:=?_) rfl (by kernel_rfl) (fun _ _ _ h=>h) (by rfl) ?y2x3q14 (by assumption) ?z2x3q14
      case y2x3q14=>intro wq hSw;(go_simp);(try with_reducible rfl)
      try simp only [Act.put,sA,sB,sC]
      refine tkH 4 (v:=?_) rfl (by kernel_rfl) (fun _ _ _ h=>h) (by rfl) ?y2x4q17 (by assumption) ?z2x4q17
      case y2x4q17=>intro wq hSw;(have cq:=hSw.cellv e2 hx2;go_simp);(try with_reducible rfl)
      try simp only [Act.put,sA,sB,sC]
      refine tkH 5 (v:=?_) rfl (by kernel_rfl) (fun _ _ _ h=>h) (by rfl) ?y2x5q20 (by assumption) ?z2x5q20
      case y2x5q20=>intro wq hSw;(go_simp);(try with_reducible rfl)
      try simp only [Act.put,sA,sB,sC]
      refine tkH 7 (v:=?_) rfl (by kernel_rfl) (fun _ _ _ h=>h) (by rfl) ?y2x7q23 (by assumption) ?z2x7q23
      case y2x7q23=>intro wq hSw;(go_simp);(try with_reducible rfl)
      try simp only [Act.put,sA,sB,sC]
      refine tkH 8 (v:=?_) rfl (by kernel_rfl) (fun _ _ _ h=>h) (by rfl) ?y2x8q26 (by assumption) ?z2x8q26
      case y2x8q26=>intro wq hSw;(have cq:=(B4j.out.nx hSw).cell 2 _ rfl;go_simp);(try with_reducible rfl)
      try simp only [Act.put,sA,sB,sC]
      refine tkH 9 (v:=?_) rfl (by kernel_rfl) (fun _ _ _ h=>h) (by rfl) ?y2x9q29 (by assumption) ?z2x9q29
      case y2x9q29=>intro wq hSw;(go_simp);(try with_reducible rfl)
      try simp only [Act.put,sA,sB,sC]
      refine wpAnyH_ready (rs:=[6]) (by kernel_rfl) (by simp) ?_
      refine AllReadyH.cons (o:=⟨_,_,_,_,_,_⟩) rfl (fun K hK=>?_) AllReadyH.nil
      go_simp
      refine (bit_r _ _ _ hyw (by omega) (by omega)).mono ?_
      rintro e wk ⟨rfl,rfl⟩
      refine hK.out _ _ (hHeld) (fun hHeld=>?_)
      clear hK K
      try simp only [Act.put,sA,sB,sC]
      refine wpAnyH_ready (rs:=[10]) (by kernel_rfl) (by simp) ?_
      refine AllReadyH.cons (o:=⟨_,_,_,_,_,_⟩) rfl (fun K hK=>?_) AllReadyH.nil
      go_simp
      refine (bit_r _ _ _ HXW.out (by omega) (by omega)).mono ?_
      rintro e wk ⟨rfl,rfl⟩
      refine hK.out _ _ (hHeld) (fun hHeld=>?_)
      clear hK K
      try simp only [Act.put,sA,sB,sC]
      refine tkH 11 (v:=?_) rfl (by kernel_rfl) (fun _ _ _ h=>h) (by rfl) ?y2x11q48 (by assumption) ?z2x11q48
      case y2x11q48=>intro wq hSw;(go_simp);(try with_reducible rfl)
      try simp only [Act.put,sA,sB,sC]
      refine wpAnyH_done (by kernel_rfl) ?_ _
      have KW2:=lH (KW2.out.nx hHeld)
      clear hHeld hDrew e2
      by_cases hb:bitN y2.word j=bitN x.word j
      ·have E:=lH (unt_at HY.out hb HNO2.out)
       have d1:(((bitN y2.word j:Nat):Int)==((bitN x.word j:Nat):Int))=true:=by rw [beq_iff_eq];omega
       have EV:=EV.out
       have EVH:Hid (visN N x j=U1+(q+1)):=lH (by rw [EV,E.out])
       clear hb EV
       go_wp2_with fail
       go_ret
       exact ⟨by rw [EVH.out];go_num,EX.out.nx KW2.out⟩
      ·have d1:(((bitN y2.word j:Nat):Int)==((bitN x.word j:Nat):Int))=false:=by rw [beq_eq_false_iff_ne];omega
       have RR:Hid (∀ i z,i<q+1→B[i]?=some z→bitN z.word j≠bitN x.word j):=lH (fun i z hi hz=>by
        by_cases hiq:i=q
        ·subst hiq;rw [HY.out] at hz;cases hz;exact hb
        ·exact HNO2.out i z (by omega) hz)
       clear hb
       go_wp2_with fail
       exact ⟨⟨q+1,by omega,by go_num,by have:=HP.out;go_num,KW2.out,RR.out⟩,by have:=HP.out;simp [intOf];omega⟩
     ·obtain rfl:q=B.length:=by omega
      have EVH:Hid (visN N x j=U1+B.length):=lH (by rw [EV.out,unt_none (fun i z hi hz=>HNO2.out i z hi hz)])
      have hnl:¬ ((A.length:Int)+1+(B.length:Int)<(nG:Int)):=by have:=NG.out;omega
      clear kw2 hno2 hqn hq
      go_wp2_with fail
      go_ret
      exact ⟨by rw [EVH.out];go_num,EX.out.nx KW2.out⟩
   ·have d1:(((bitN y2.word j:Nat):Int)==((bitN x.word j:Nat):Int))=false:=by rw [beq_eq_false_iff_ne];omega
    have RR:Hid (∀ i z,i<k+1→RA[i]?=some z→bitN z.word j≠bitN x.word j):=lH (fun i z hi hz=>by
     by_cases hik:i=k
     ·subst hik;rw [HY.out] at hz;cases hz;exact hb
     ·exact HNO.out i z (by omega) hz)
    clear hb
    go_wp2_with fail
    exact ⟨⟨k+1,by have:=HRL.out;omega,by go_num,by have:=HP.out;rw [show (A.length:Int)-1-((k+1:Nat):Int)=(p:Int)-1 by omega],KW.out,RR.out⟩,by have:=HP.out;simp [intOf]<;>omega⟩
  ·obtain rfl:k=A.length:=by omega
   have hkU:A.length=U1:=by rw [HU1.out,unt_none (fun i z hi hz=>HNO.out i z (by have:=HRL.out;omega) hz),HRL.out]
   have HKU:=lH hkU
   have hkU2:(A.length:Int)=(U1:Int):=by omega
   have HKI:=lH hkU2
   have hm1:(A.length:Int)-1-(A.length:Int) = -1:=by omega
   rw [hm1]
   clear kw hno hkn hk hkA hkU hkU2 hm1
   have R2:=lH (show V2 B x j U1 A.length w2 (.int .i64 (A.length:Int)) (.int .i64 ((A.length:Int)+1)) wi from ⟨0,by omega,by rw [HKI.out];go_num,by go_num,KW.out,fun i z h=>by omega⟩)
   have wa:IntKind.i64.wrap ((A.length:Int)+1)=(A.length:Int)+1:=IntWalk.i64_in _ (by omega)
   go_wp2_with fail
   go_loopw [10,12] (fun c i wr=>V2 B x j U1 A.length w2 c i wr) (fun _ i _=>A.length+1+B.length-(intOf i).toNat)
   case atStart=>exact R2.out
   case round =>
    clear R2
    obtain ⟨q,hq,rfl,rfl,kw2,hno2⟩:=hrel
    obtain ⟨wj,rfl⟩:∃ wj:World,wj=wr:=⟨_,rfl⟩
    have HNO2:=lH hno2
    have KW2:=lH kw2
    by_cases hqn:q<B.length
    ·obtain ⟨y,hy⟩:∃ y,B[q]?=some y:=⟨B[q],List.getElem?_eq_getElem hqn⟩
     obtain ⟨p,hp⟩:∃ p,p=A.length+1+q:=⟨_,rfl⟩
     have hpI:(A.length:Int)+1+(q:Int)=(p:Int):=by omega
     have hpG:p<nG:=by have:=NG.out;omega
     obtain ⟨x2,o2,y2,he,hx2,hy2,hc2⟩:=(SG.out.nx kw2).at hpG
     have he2:x1=x2∧o1=o2:=by simpa using he
     obtain ⟨rfl,rfl⟩:=he2
     obtain rfl:y2=y:=by
      rw [hp,show A.length+1+q=(A++[x]).length+q by simp,show A++x::B=(A++[x])++B by simp,List.getElem?_append_right (by omega),Nat.add_sub_cancel_left,hy] at hy2
      cases hy2;rfl
     have e2:wj.cell? ⟨x1,o1+p*3+1+1,none⟩=some (.int .u32 y2.word):=by simpa [Nat.add_assoc] using hc2 2 _ rfl
     have hyw:=HBW.out y2 (List.mem_of_getElem? hy)
     have HY:=lH hy
     have B4j:=lH (B4.out.nx kw2)
     rw [hpI]
     have hp0:¬ (p:Int)<0:=by omega
     have hpl:(p:Int)<(nG:Int):=by omega
     have wb:IntKind.i64.wrap ((U1:Int)+(q:Int)+1)=(U1:Int)+(q:Int)+1:=IntWalk.i64_in _ (by omega)
     have wc:IntKind.i64.wrap ((p:Int)+1)=(p:Int)+1:=IntWalk.i64_in _ (by omega)
     have HP:=lH hp
     clear hp hpI he hc2 hy2 hy kw2 hno2
     go_upto_region 12 with fail
     refine wp_region_held_drew (S:=Ex wj) (by kernel_rfl) ((Ex.refl wj).drew) (fun hHeld=>?_)
     obtain ⟨wd,hwdx⟩:∃ wd:World,wd=World.drew wj:=⟨_,rfl⟩
     rw [← hwdx] at hHeld ⊢
     have hDrew:Ex wj wd:=by rw [hwdx];exact (Ex.refl wj).drew
     clear hwdx
     refine tkH 0 (v:=?_) rfl (by kernel_rfl) (fun _ _ _ h=>h) (by rfl) ?y3x0q5 (by assumption) ?z3x0q5
     case y3x0q5=>intro wq hSw;(go_simp);(try with_reducible rfl)
     try simp only [Act.put,sA,sB,sC]
     refine tkH 1 (v:=?_) rfl (by kernel_rfl) (fun _ _ _ h=>h) (by rfl) ?y3x1q8 (by assumption) ?z3x1q8
     case y3x1q8=>intro wq hSw;(go_simp);(try with_reducible rfl)
     try simp only [Act.put,sA,sB,sC]
     refine tkH 2 (v:=?_) rfl (by kernel_rfl) (fun _ _ _ h=>h) (by rfl) ?y3x2q11 (by assumption) ?z3x2q11
     case y3x2q11=>intro wq hSw;(go_simp);(try with_reducible rfl)
     try simp only [Act.put,sA,sB,sC]
     refine tkH 3 (v:=?_) rfl (by kernel_rfl) (fun _ _ _ h=>h) (by rfl) ?y3x3q14 (by assumption) ?z3x3q14
     case y3x3q14=>intro wq hSw;(go_simp);(try with_reducible rfl)
     try simp only [Act.put,sA,sB,sC]
     refine tkH 4 (v:=?_) rfl (by kernel_rfl) (fun _ _ _ h=>h) (by rfl) ?y3x4q17 (by assumption) ?z3x4q17
     case y3x4q17=>intro wq hSw;(have cq:=hSw.cellv e2 hx2;go_simp);(try with_reducible rfl)
     try simp only [Act.put,sA,sB,sC]
     refine tkH 5 (v:=?_) rfl (by kernel_rfl) (fun _ _ _ h=>h) (by rfl) ?y3x5q20 (by assumption) ?z3x5q20
     case y3x5q20=>intro wq hSw;(go_simp);(try with_reducible rfl)
     try simp only [Act.put,sA,sB,sC]
     refine tkH 7 (v:=?_) rfl (by kernel_rfl) (fun _ _ _ h=>h) (by rfl) ?y3x7q23 (by assumption) ?z3x7q23
     case y3x7q23=>intro wq hSw;(go_simp);(try with_reducible rfl)
     try simp only [Act.put,sA,sB,sC]
     refine tkH 8 (v:=?_) rfl (by kernel_rfl) (fun _ _ _ h=>h) (by rfl) ?y3x8q26 (by assumption) ?z3x8q26
     case y3x8q26=>intro wq hSw;(have cq:=(B4j.out.nx hSw).cell 2 _ rfl;go_simp);(try with_reducible rfl)
     try simp only [Act.put,sA,sB,sC]
     refine tkH 9 (v:=?_) rfl (by kernel_rfl) (fun _ _ _ h=>h) (by rfl) ?y3x9q29 (by assumption) ?z3x9q29
     case y3x9q29=>intro wq hSw;(go_simp);(try with_reducible rfl)
     try simp only [Act.put,sA,sB,sC]
     refine wpAnyH_ready (rs:=[6]) (by kernel_rfl) (by simp) ?_
     refine AllReadyH.cons (o:=⟨_,_,_,_,_,_⟩) rfl (fun K hK=>?_) AllReadyH.nil
     go_simp
     refine (bit_r _ _ _ hyw (by omega) (by omega)).mono ?_
     rintro e wk ⟨rfl,rfl⟩
     refine hK.out _ _ (hHeld) (fun hHeld=>?_)
     clear hK K
     try simp only [Act.put,sA,sB,sC]
     refine wpAnyH_ready (rs:=[10]) (by kernel_rfl) (by simp) ?_
     refine AllReadyH.cons (o:=⟨_,_,_,_,_,_⟩) rfl (fun K hK=>?_) AllReadyH.nil
     go_simp
     refine (bit_r _ _ _ HXW.out (by omega) (by omega)).mono ?_
     rintro e wk ⟨rfl,rfl⟩
     refine hK.out _ _ (hHeld) (fun hHeld=>?_)
     clear hK K
     try simp only [Act.put,sA,sB,sC]
     refine tkH 11 (v:=?_) rfl (by kernel_rfl) (fun _ _ _ h=>h) (by rfl) ?y3x11q48 (by assumption) ?z3x11q48
     case y3x11q48=>intro wq hSw;(go_simp);(try with_reducible rfl)
     try simp only [Act.put,sA,sB,sC]
     refine wpAnyH_done (by kernel_rfl) ?_ _
     have KW2:=lH (KW2.out.nx hHeld)
     clear hHeld hDrew e2
     by_cases hb:bitN y2.word j=bitN x.word j
     ·have E:=lH (unt_at HY.out hb HNO2.out)
      have d1:(((bitN y2.word j:Nat):Int)==((bitN x.word j:Nat):Int))=true:=by rw [beq_iff_eq];omega
      have EV:=EV.out
      have EVH:Hid (visN N x j=U1+(q+1)):=lH (by rw [EV,E.out])
      clear hb EV
      go_wp2_with fail
      go_ret
      exact ⟨by rw [EVH.out];go_num,EX.out.nx KW2.out⟩
     ·have d1:(((bitN y2.word j:Nat):Int)==((bitN x.word j:Nat):Int))=false:=by rw [beq_eq_false_iff_ne];omega
      have RR:Hid (∀ i z,i<q+1→B[i]?=some z→bitN z.word j≠bitN x.word j):=lH (fun i z hi hz=>by
       by_cases hiq:i=q
       ·subst hiq;rw [HY.out] at hz;cases hz;exact hb
       ·exact HNO2.out i z (by omega) hz)
      clear hb
      go_wp2_with fail
      exact ⟨⟨q+1,by omega,by go_num,by have:=HP.out;go_num,KW2.out,RR.out⟩,by have:=HP.out;simp [intOf];omega⟩
    ·obtain rfl:q=B.length:=by omega
     have EVH:Hid (visN N x j=U1+B.length):=lH (by rw [EV.out,unt_none (fun i z hi hz=>HNO2.out i z hi hz)])
     have hnl:¬ ((A.length:Int)+1+(B.length:Int)<(nG:Int)):=by have:=NG.out;omega
     clear kw2 hno2 hqn hq
     go_wp2_with fail
     go_ret
     exact ⟨by rw [EVH.out];go_num,EX.out.nx KW2.out⟩
def VsRel (M:List Nd) (x:Nd) (m H:Nat) (w:World) (cnt i:Value) (wr:World):Prop :=
 ∃ j:Nat,j≤m∧cnt=.int .i64 ((H+visS M x j:Nat):Int)∧i=.int .i64 j∧Ex w wr
set_option maxRecDepth 100000 in
set_option maxHeartbeats 8000000 in
theorem insert_r (a:Option Addr) (n c:Nat) (N:List Nd) (a2:Option Addr) (n2 c2:Nat) (L:List Lkd) (x:Nd) (frm hh:Int) (w:World) (h:Sl 3 encN w a n N) (hn:n≤1000) (hnil:a=none→c=0) (hw:∀ x∈N,x.word<4294967296) (hxw:x.word<4294967296)
  (h2:LkL w a2 n2 L) (hn2:n2≤1000000) (hs:∀ c∈L,c.2.length≤9223372036854775807) :
  Calls Tryz.prog 23 #[.slice a n c,.slice a2 n2 c2,.agg #[.int .i64 x.id,.string x.key,.int .u32 x.word],.int .i64 frm,.int .i64 hh] w (ItPost (insertN N L x frm hh) w):=by
 have HW:=lH hw
 have HS:=lH hs
 have HL:=lH h.len
 have NIL:=lH hnil
 have EX:=Ex.refl w
 clear hs hnil
 have B7:=Blk.new w [.int .i64 x.id,.string x.key,.int .u32 x.word] 49
 have kk:=Ex.new w (.cells #[.int .i64 x.id,.string x.key,.int .u32 x.word] 49)
 obtain ⟨w1,hw1⟩:∃ w1,w1=w.alloc (.cells #[.int .i64 x.id,.string x.key,.int .u32 x.word] 49):=⟨_,rfl⟩
 obtain ⟨g7,hg7⟩:∃ g7,g7=w.heap.size:=⟨_,rfl⟩
 replace B7:Blk w1 g7 [.int .i64 x.id,.string x.key,.int .u32 x.word] 49:=by rw [hw1,hg7];exact B7
 rw [← hw1] at kk
 have Hw1:=lH hw1
 have Hg7:=lH hg7
 replace h:=h.nx kk
 replace h2:=h2.nx kk
 replace EX:=EX.nx kk
 clear kk hw1 hg7
 go_enter Tryz.func23,Tryz.ntmps23
 go_upto_region 1 with fail
 rw [← Hg7.out,← Hw1.out]
 clear Hg7 Hw1
 go_wp2_with fail
 refine (level_r hh _).mono ?_
 rintro e w0 ⟨rfl,rfl⟩
 by_cases hlv:lvlN hh=false
 ·have E:Hid (insertN N L x frm hh=([],0,2)):=lH (by unfold insertN;rw [if_pos hlv])
  rw [hlv]
  go_wp2_with fail
  go_ret3
  exact ItPost.bad E.out EX
 replace hlv:lvlN hh=true:=by simpa using hlv
 rw [hlv]
 obtain ⟨m,rfl⟩:∃ m:Nat,hh=m:=⟨hh.toNat,by unfold lvlN at hlv;simp at hlv;omega⟩
 have hm16:m≤16:=by unfold lvlN at hlv;simp at hlv;omega
 clear hlv
 go_wp2_with fail
 (with_reducible refine (exact7_r _ _ _ _ _ _ _ _ (m:Int) _ h hn hw h2 hn2 HS.out).mono ?_)
 rintro e w2 ⟨rfl,kk⟩
 replace h:=h.nx kk
 replace EX:=EX.nx kk
 replace h2:=h2.nx kk
 replace B7:=B7.nx kk
 clear kk
 by_cases he:exactI N L (m:Int)=false
 ·have E:Hid (insertN N L x frm m=([],0,1)):=lH (by unfold insertN;rw [if_neg (by rw [lvl_nat hm16];simp),if_pos he])
  rw [he]
  go_wp2_with fail
  go_ret3
  exact ItPost.bad E.out EX
 replace he:exactI N L (m:Int)=true:=by simpa using he
 rw [he]
 have HE:=lH he
 obtain ⟨h0,_,hL⟩:=exactI_yes he
 have h64:=check_len h0
 have hn':n≤64:=by have:=HL.out;omega
 have HLE:=lH hL
 have H0:=lH h0
 have zw2:w.heap.size≤w2.heap.size:=EX.size
 have B7:=lH B7
 have HN:=lH h
 have H2:=lH h2
 have EX:=lH EX
 clear he hL h0 h h2 h64
 go_upto_region 5 with fail
 go_cut [13] from 23 to 83 (fun v wx=>AllCut (N++[x]) w.heap.size w2 v wx)
 case first =>
  refine wp_region_held_drew (S:=Ex w2) (by kernel_rfl) ((Ex.refl w2).drew) (fun hHeld=>?_)
  obtain ⟨wd,hwdx⟩:∃ wd:World,wd=World.drew w2:=⟨_,rfl⟩
  rw [← hwdx] at hHeld ⊢
  have hDrew:Ex w2 wd:=by rw [hwdx];exact (Ex.refl w2).drew
  clear hwdx
  refine tkH 0 (v:=?_) rfl (by kernel_rfl) (fun _ _ _ h=>h) (by rfl) ?y1x0q5 (by assumption) ?z1x0q5
  case y1x0q5=>intro wq hSw;(go_simp);(try with_reducible rfl)
  try simp only [Act.put,sA,sB,sC]
  refine tkH 2 (v:=?_) rfl (by kernel_rfl) (fun _ _ _ h=>h) (by rfl) ?y1x2q8 (by assumption) ?z1x2q8
  case y1x2q8=>intro wq hSw;(have c0:=(B7.out.nx hSw).cell 0 _ rfl;have c1:=(B7.out.nx hSw).cell 1 _ rfl;have c2:=(B7.out.nx hSw).cell 2 _ rfl;go_simp);(try with_reducible rfl)
  try simp only [Act.put,sA,sB,sC]
  refine wpAnyH_ready (rs:=[1,3]) (by kernel_rfl) (by simp) ?_
  refine AllReadyH.cons (o:=⟨_,_,_,_,_,_⟩) rfl (fun K hK=>?_) ?_
  ·rw [if_pos (by rfl)]
   have z0:=hHeld.size
   have s0:=HN.out.nx hHeld
   refine wp_append_rd (enc:=encN) _ (.const (.slice none 0 0)) (.tmp 31) 23 rfl w2.heap.size 49 (.agg #[.int .i64 0,.string ByteArray.empty,.int .u32 0]) 3 32 Tryz.underlying23 Tryz.infoN rfl (by omega) (by omega) _ [] (OwnL.nil _ _ _ _ _) rfl _ a n c N s0 NIL.out (fun _=>rfl) (by simp [encN,Value.oneCell']) rfl (by simp) (by omega) z0 ?_
   intro v6 w6 own6 ch0 ch1
   rw [List.nil_append] at own6
   (try replace SX:=SX.nx (Chg.mono ch0 (fun k hk=>⟨hk,by simp [Value.ownBlock]⟩)))
   replace hHeld:Ex w2 w6:=Chg.trans hHeld ch1
   clear ch0 ch1 z0 s0
   refine hK.out _ _ (hHeld) (fun hHeld=>?_)
   clear hK K
   try simp only [Act.put,sA,sB,sC]
   refine wpAnyH_ready (rs:=[3]) (by kernel_rfl) (by simp) ?_
   refine AllReadyH.cons (o:=⟨_,_,_,_,_,_⟩) rfl (fun K hK=>?_) AllReadyH.nil
   go_simp
   obtain ⟨gx,wq,hgx,hwq,SX,kk⟩:=litNd hHeld x
   rw [← hgx,← hwq]
   clear hgx hwq
   (try replace own6:=own6.nx kk)
   replace hHeld:=hHeld.nx kk
   clear kk
   refine hK.out _ _ (hHeld) (fun hHeld=>?_)
   clear hK K
   try simp only [Act.put,sA,sB,sC]
   refine wpAnyH_ready (rs:=[4]) (by kernel_rfl) (by simp) ?_
   refine AllReadyH.cons (o:=⟨_,_,_,_,_,_⟩) rfl (fun K hK=>?_) AllReadyH.nil
   rw [if_pos (by rfl)]
   have z0:=hHeld.size
   refine wp_append_rd (enc:=encN) _ (.tmp 32) (.tmp 34) 23 rfl w2.heap.size 49 (.agg #[.int .i64 0,.string ByteArray.empty,.int .u32 0]) 3 32 Tryz.underlying23 Tryz.infoN rfl (by omega) (by omega) _ N own6 rfl _ _ 1 1 [x] SX (fun h=>by cases h) (fun _=>rfl) (by simp [encN,Value.oneCell']) rfl (by have:=HL.out;omega) (by omega) z0 ?_
   intro v8 w8 own8 ch0 ch1
   replace hHeld:Ex w2 w8:=Chg.trans hHeld ch1
   clear ch0 ch1 own6 SX
   have CUT:=lH (show AllCut (N++[x]) w.heap.size w2 v8 w8 from ⟨OwnL.base own8 zw2,hHeld⟩)
   refine hK.out _ _ (hHeld) (fun hHeld=>?_)
   clear hK K
   try simp only [Act.put,sA,sB,sC]
   refine tkH 5 (v:=?_) rfl (by kernel_rfl) (fun _ _ _ h=>h) (by rfl) ?y1x5q49 (by assumption) ?z1x5q49
   case y1x5q49=>intro wq hSw;(go_simp);(try with_reducible rfl)
   try simp only [Act.put,sA,sB,sC]
   refine wpAnyH_done (by kernel_rfl) ?_ _
   clear hHeld own8
   go_wp2_with fail
   go_meet
   exact CUT.out
  refine AllReadyH.cons (o:=⟨_,_,_,_,_,_⟩) rfl (fun K hK=>?_) AllReadyH.nil
  ·go_simp
   obtain ⟨gx,wq,hgx,hwq,SX,kk⟩:=litNd hHeld x
   rw [← hgx,← hwq]
   clear hgx hwq
   (try replace own6:=own6.nx kk)
   replace hHeld:=hHeld.nx kk
   clear kk
   refine hK.out _ _ (hHeld) (fun hHeld=>?_)
   clear hK K
   try simp only [Act.put,sA,sB,sC]
   refine wpAnyH_ready (rs:=[1]) (by kernel_rfl) (by simp) ?_
   refine AllReadyH.cons (o:=⟨_,_,_,_,_,_⟩) rfl (fun K hK=>?_) AllReadyH.nil
   rw [if_pos (by rfl)]
   have z0:=hHeld.size
   have s0:=HN.out.nx hHeld
   refine wp_append_rd (enc:=encN) _ (.const (.slice none 0 0)) (.tmp 31) 23 rfl w2.heap.size 49 (.agg #[.int .i64 0,.string ByteArray.empty,.int .u32 0]) 3 32 Tryz.underlying23 Tryz.infoN rfl (by omega) (by omega) _ [] (OwnL.nil _ _ _ _ _) rfl _ a n c N s0 NIL.out (fun _=>rfl) (by simp [encN,Value.oneCell']) rfl (by simp) (by omega) z0 ?_
   intro v6 w6 own6 ch0 ch1
   rw [List.nil_append] at own6
   (try replace SX:=SX.nx (Chg.mono ch0 (fun k hk=>⟨hk,by simp [Value.ownBlock]⟩)))
   replace hHeld:Ex w2 w6:=Chg.trans hHeld ch1
   clear ch0 ch1 z0 s0
   refine hK.out _ _ (hHeld) (fun hHeld=>?_)
   clear hK K
   try simp only [Act.put,sA,sB,sC]
   refine wpAnyH_ready (rs:=[4]) (by kernel_rfl) (by simp) ?_
   refine AllReadyH.cons (o:=⟨_,_,_,_,_,_⟩) rfl (fun K hK=>?_) AllReadyH.nil
   rw [if_pos (by rfl)]
   have z0:=hHeld.size
   refine wp_append_rd (enc:=encN) _ (.tmp 32) (.tmp 34) 23 rfl w2.heap.size 49 (.agg #[.int .i64 0,.string ByteArray.empty,.int .u32 0]) 3 32 Tryz.underlying23 Tryz.infoN rfl (by omega) (by omega) _ N own6 rfl _ _ 1 1 [x] SX (fun h=>by cases h) (fun _=>rfl) (by simp [encN,Value.oneCell']) rfl (by have:=HL.out;omega) (by omega) z0 ?_
   intro v8 w8 own8 ch0 ch1
   replace hHeld:Ex w2 w8:=Chg.trans hHeld ch1
   clear ch0 ch1 own6 SX
   have CUT:=lH (show AllCut (N++[x]) w.heap.size w2 v8 w8 from ⟨OwnL.base own8 zw2,hHeld⟩)
   refine hK.out _ _ (hHeld) (fun hHeld=>?_)
   clear hK K
   try simp only [Act.put,sA,sB,sC]
   refine tkH 5 (v:=?_) rfl (by kernel_rfl) (fun _ _ _ h=>h) (by rfl) ?y1x5q91 (by assumption) ?z1x5q91
   case y1x5q91=>intro wq hSw;(go_simp);(try with_reducible rfl)
   try simp only [Act.put,sA,sB,sC]
   refine wpAnyH_done (by kernel_rfl) ?_ _
   clear hHeld own8
   go_wp2_with fail
   go_meet
   exact CUT.out
 case rest =>
  obtain ⟨own13,k3⟩:=hcut
  rename World=>w3
  obtain ⟨M,hM⟩:∃ M,M=N++[x]:=⟨_,rfl⟩
  rw [← hM] at own13
  have hMl:M.length≤65:=by rw [hM,List.length_append];have:=HL.out;simp;omega
  have HMW:Hid (∀ y∈M,y.word<4294967296):=lH (fun y hy=>by
   rw [hM] at hy
   rcases List.mem_append.1 hy with h | h
   ·exact HW.out y h
   ·rw [List.mem_singleton.1 h];exact hxw)
  have HM:=lH hM
  have HXM:Hid (x∈M):=lH (by rw [hM];simp)
  obtain ⟨a13,c13,rfl,S13,hc13,hm13⟩:=own13.sl3 (fun _=>rfl)
  have B7:=lH (B7.out.nx k3)
  have HN:=lH (HN.out.nx k3)
  have H2:=lH (H2.out.nx k3)
  have EX:=lH (EX.out.nx k3)
  clear own13 k3 hM
  go_wp2_with fail
  (with_reducible refine (check_r _ _ _ M _ S13 (by omega)).mono ?_)
  rintro e w4 ⟨rfl,kk⟩
  replace S13:=S13.nx kk
  replace B7:=lH (B7.out.nx kk)
  replace HN:=lH (HN.out.nx kk)
  replace H2:=lH (H2.out.nx kk)
  replace EX:=lH (EX.out.nx kk)
  clear kk
  by_cases hck:checkN M=0
  case neg =>
   have E:Hid (insertN N L x frm m=([],0,checkN M)):=lH (by unfold insertN;rw [if_neg (by rw [lvl_nat hm16];simp),if_neg (by rw [HE.out];simp),← HM.out,if_pos hck])
   have d1:(checkN M != 0)=true:=by simpa using hck
   clear hck
   go_wp2_with fail
   go_ret3
   exact ItPost.bad E.out EX.out
  have HCK:=lH hck
  have hkx:Hid (x.key.size≤64):=lH (roster_ok hck x HXM.out).2.2.2.1
  rw [hck]
  clear hck
  have S13:=lH S13
  go_wp2_with fail
  (with_reducible refine (find_r _ _ _ N frm _ HN.out (by omega)).mono ?_)
  rintro e w5 ⟨rfl,kk⟩
  replace S13:=lH (S13.out.nx kk)
  replace B7:=lH (B7.out.nx kk)
  replace HN:=lH (HN.out.nx kk)
  replace H2:=lH (H2.out.nx kk)
  replace EX:=lH (EX.out.nx kk)
  clear kk
  obtain ⟨F,hF⟩:∃ F,F=findN N frm:=⟨_,rfl⟩
  rw [← hF]
  have HF:=lH hF
  clear hF
  obtain ⟨⟨fi,fk,fw⟩,ok⟩:=F
  simp only [Nd.val]
  have B15:=Blk.new w5 [.int .i64 fi,.string fk,.int .u32 fw] 49
  have kk:=Ex.new w5 (.cells #[.int .i64 fi,.string fk,.int .u32 fw] 49)
  obtain ⟨w6,hw6⟩:∃ w6,w6=w5.alloc (.cells #[.int .i64 fi,.string fk,.int .u32 fw] 49):=⟨_,rfl⟩
  obtain ⟨g15,hg15⟩:∃ g15,g15=w5.heap.size:=⟨_,rfl⟩
  replace B15:Blk w6 g15 [.int .i64 fi,.string fk,.int .u32 fw] 49:=by rw [hw6,hg15];exact B15
  rw [← hw6] at kk
  have Hw6:=lH hw6
  have Hg15:=lH hg15
  replace S13:=lH (S13.out.nx kk)
  replace B7:=lH (B7.out.nx kk)
  replace HN:=lH (HN.out.nx kk)
  replace H2:=lH (H2.out.nx kk)
  replace EX:=lH (EX.out.nx kk)
  clear kk hw6 hg15
  go_upto_region 10 with fail
  rw [← Hg15.out,← Hw6.out]
  clear Hg15 Hw6
  clear B15
  by_cases hbad:N≠[]∧(findN N frm).2=false
  ·have E:Hid (insertN N L x frm m=([],0,6)):=lH (by
    unfold insertN
    rw [if_neg (by rw [lvl_nat hm16];simp),if_neg (by rw [HE.out];simp),← HM.out,if_neg (by rw [HCK.out];simp),if_pos hbad])
   obtain rfl:ok=false:=by have:=hbad.2;rw [← HF.out] at this;exact this
   have hn0:n≠0:=fun h=>hbad.1 (List.eq_nil_of_length_eq_zero (HL.out.trans h))
   have d1:(n:Int)>0:=by omega
   clear hbad hn0
   go_wp2_with fail
   go_ret3
   exact ItPost.bad E.out EX.out
  ·have hfr:N=[]∨(findN N frm).2=true:=by
    by_cases h1:N=[]
    ·exact .inl h1
    ·refine .inr ?_
     by_cases h2:(findN N frm).2=true
     ·exact h2
     ·exact absurd ⟨h1,by simpa using h2⟩ hbad
   have HFR:=lH hfr
   have hok:Hid (ok=true∨n=0):=lH (by
    rcases hfr with h | h
    ·exact .inr (by rw [← HL.out,h];rfl)
    ·rw [← HF.out] at h;exact .inl h)
   have E:Hid (insertN N L x frm m=((buildN M m).1,(routeN N L frm x.key).1.length+visS M x m,0)):=lH (by
    have h1:=HCK.out
    rw [HM.out] at h1
    have:=ins_ok (frm:=frm) h1 hm16 hfr
    rw [← HLE.out,← HM.out] at this
    exact this)
   clear hbad hfr
   go_cut [53] from 23 to 83 (fun v wx=>v=.bool false∧wx=w6)
   case first =>
    cases ok with
    | true =>
     go_wp2_with fail
     go_meet
     exact ⟨rfl,rfl⟩
    | false =>
     have hn0:n=0:=by rcases hok.out with h | h;cases h;exact h
     have d1:¬ (n:Int)>0:=by omega
     have N0:=lH hn0
     clear hn0 d1
     go_wp2_with fail
     go_meet
     exact ⟨by rw [decide_eq_false (by have:=N0.out;omega)],rfl⟩
   case rest =>
    obtain ⟨rfl,rfl⟩:=hcut
    have b1:=B7.out.cell 1 _ rfl
    go_wp2_with fail
    (with_reducible refine (route_r _ _ _ N _ _ _ L frm x.key _ HN.out hn H2.out hn2 HS.out).mono ?_)
    rintro e w7 ⟨v17,rfl,ownH,kk⟩
    replace S13:=lH (S13.out.nx kk)
    replace B7:=lH (B7.out.nx kk)
    replace EX:=lH (EX.out.nx kk)
    clear kk
    obtain ⟨aH,cH,rfl,_⟩:=ownH.rd (fun _=>rfl)
    have hroute:=route_short N L frm x.key
    obtain ⟨H,hH⟩:∃ H,H=(routeN N L frm x.key).1.length:=⟨_,rfl⟩
    rw [← hH] at hroute E ⊢
    have z7:w.heap.size≤w7.heap.size:=EX.out.size
    have R0:=lH (show VsRel M x m H w7 (.int .i64 (H:Int)) (.int .i64 0) w7 from ⟨0,by omega,by simp [visS],rfl,Ex.refl _⟩)
    clear ownH hH b1
    go_wp2_with fail
    go_loopw [19,20] (fun cnt i wr=>VsRel M x m H w7 cnt i wr) (fun _ i _=>m-(intOf i).toNat)
    case atStart=>exact R0.out
    case round =>
     clear R0
     obtain ⟨j,hj,rfl,rfl,kw⟩:=hrel
     obtain ⟨wi,rfl⟩:∃ wi:World,wi=wr:=⟨_,rfl⟩
     have S13i:=S13.out.nx kw
     by_cases hjn:j<m
     ·have B7i:=B7.out.nx kw
      have b0:=B7i.cell 0 _ rfl
      have b1:=B7i.cell 1 _ rfl
      have b2:=B7i.cell 2 _ rfl
      have hvs:=visS_small HCK.out HXM.out (h:=j) (by omega)
      have hvs2:visS M x j≤16*65:=Nat.le_trans hvs (Nat.mul_le_mul (by omega) hMl)
      have hv1:=vis_small HCK.out HXM.out (lev:=j) (by omega)
      have VS:=lH (visS_succ M x j)
      have KW:=lH kw
      obtain ⟨C,hC⟩:∃ C,C=H+visS M x j:=⟨_,rfl⟩
      rw [← hC]
      have hCb:C≤2000:=by omega
      have HC:=lH hC
      have hjI:(j:Int)<(m:Int):=by omega
      clear hvs hvs2 hC kw B7i
      go_wp2_with fail
      (with_reducible refine (visits_r _ _ _ M x j _ S13i (by omega) HMW.out HCK.out HXM.out (by omega)).mono ?_)
      rintro e w8 ⟨rfl,kk⟩
      have KW:=lH (KW.out.nx kk)
      obtain ⟨V,hV⟩:∃ V,V=visN M x j:=⟨_,rfl⟩
      rw [← hV] at hv1 VS ⊢
      have wa:IntKind.i64.wrap ((C:Int)+(V:Int))=(C:Int)+(V:Int):=IntWalk.i64_in _ (by omega)
      have wb:IntKind.i64.wrap ((j:Int)+1)=(j:Int)+1:=IntWalk.i64_in _ (by omega)
      have RR:=lH (show VsRel M x m H w7 (.int .i64 ((C:Int)+(V:Int))) (.int .i64 ((j:Int)+1)) w8 from ⟨j+1,by omega,by rw [VS.out];have:=HC.out;congr 1;omega,by go_num,KW.out⟩)
      clear kk S13i hV b0 b1 b2
      go_wp2_with fail
      exact ⟨RR.out,by simp [intOf];omega⟩
     ·obtain rfl:j=m:=by omega
      have KW:=lH kw
      have zi:=kw.size
      have hjn2:¬ ((j:Int)<(j:Int)):=by omega
      clear kw hjn hj
      go_wp2_with fail
      (with_reducible refine (build_r _ _ _ M (j:Int) _ S13i (by omega) HMW.out).mono ?_)
      rintro e w8 ⟨v8,q8,rfl,own8,kk⟩
      have OW:=lH own8
      have KW:=lH (KW.out.nx kk)
      clear kk own8 S13i
      go_wp2_with fail
      go_ret3
      exact ItPost.own E.out OW.out (by omega) (EX.out.nx KW.out)
theorem check_one {x:Nd} (h1:1≤x.id) (h2:x.id≤2147483647) (h3:x.key.size≤64) (h4:x.word<65536):checkN [x]=0:=by
 have hb:badN x=false:=by
  unfold badN validN
  simp
  omega
 have hd:dupN [x]=false:=by
  cases h:dupN [x] with
  | false=>rfl
  | true =>
   obtain ⟨i,k,_,_,hki,hi,_⟩:=(dupN_iff _).1 h
   have:=(List.getElem?_eq_some_iff.1 hi).1
   simp at this
   omega
 unfold checkN
 simp [hb,hd]
def SomeOf (n b:Nat) (w w':World) (v:Value) (L:List Nd):Prop:=RosterOf n b w w' v L∧1≤L.length
set_option maxRecDepth 100000 in
set_option maxHeartbeats 1000000 in
theorem some_n {b:Nat} (n:Nat) (w:World) (h:TK w b) (hL:LetG w) (hgb:¬ 0=b) (hn0:1≤n) (hn:n≤60) :
  Calls Tryz.prog 21 #[.pointer (some ⟨b,0,none⟩),.int .i64 n] w fun e w'=>∃ v L,e=.returned v∧SomeOf n b w w' v L:=by
 have hbw:=h.lt
 go_enter Tryz.func21,Tryz.ntmps21
 go_wp2_with fail
 refine (roster_t n _ h hL hgb hn0 hn).mono ?_
 rintro e w1 ⟨v1,L,rfl,R⟩
 obtain ⟨A1,C1,rfl,_,_,_,_⟩:=R.own.slf (fun _=>rfl)
 have T:=R.tape
 have L1:=hL.nxb hgb R.k
 clear h hL
 by_cases h0:L.length=0
 ·have d0:((L.length:Int)==0)=true:=by rw [h0];rfl
  have kk:=R.k
  clear R
  go_wp2_with fail
  refine (next_t (3*(n:Int)) _ T (by omega) (by omega)).mono ?_
  clear T
  rintro e w2 ⟨d,rfl,r0,r1,T,k2⟩
  replace L1:=L1.nxb hgb k2
  replace kk:=kk.nxb k2
  clear k2
  go_wp2_with fail
  refine (key_t _ T L1 hgb).mono ?_
  clear T
  rintro e w3 ⟨s,rfl,hs,T,k2⟩
  replace kk:=kk.nxb k2
  clear k2 L1
  go_wp2_with fail
  refine (word_t _ T).mono ?_
  clear T
  rintro e w4 ⟨m,rfl,hm,T,k2⟩
  replace kk:=kk.nxb k2
  clear k2
  have kz:=kk.size
  go_wp2_with fail
  go_ret
  refine ⟨_,[⟨1+d,s,m⟩],rfl,⟨OwnL.lit [⟨1+d,s,m⟩] (fun _=>rfl) kz (by unfold maxLen;simp) rfl,by simp;omega,check_one (by simp;omega) (by simp;omega) hs hm,by simpa using hm,T.nx (Ex.new _ _),kk.nxb ((Ex.new _ _).b b)⟩,by simp⟩
 ·have d0:((L.length:Int)==0)=false:=by rw [beq_eq_false_iff_ne];omega
  have R:=lH R
  go_wp2_with fail
  go_ret
  exact ⟨_,L,rfl,R.out,by omega⟩
def SwI (b g:Nat) (w:World) (v11 v15 v16:Value) (wx:World):Prop :=
 ∃ (a:Option Addr) (n c:Nat) (l:List Nd) (y:Nd) (f h:Int),v11=.slice a n c∧v15=.int .i64 f∧v16=.int .i64 h∧Slb 3 encN b wx a n l∧n≤20∧n≤c∧c≤maxLen∧(a=none→c=0)∧(∀ x∈l,x.word<4294967296)∧y.word<4294967296 ∧
  Blk wx g [.int .i64 y.id,.string y.key,.int .u32 y.word] 49∧TK wx b∧Exb b w wx
theorem put14 {w:World} {g:Nat} {a0 a1 a2:Value} {ty:TypeId} (B:Blk w g [a0,a1,a2] ty) (v0 v1 v2:Value):∃ wk,wk=((w.setCell ⟨g,0,none⟩ v0).setCell ⟨g,1,none⟩ v1).setCell ⟨g,2,none⟩ v2∧Blk wk g [v0,v1,v2] ty∧Exb g w wk :=
 ⟨_,rfl,((B.set 0 v0).set 1 v1).set 2 v2,(((Exb.refl g w).setB (p:=⟨g,0,none⟩) v0 rfl).setB (p:=⟨g,1,none⟩) v1 rfl).setB (p:=⟨g,2,none⟩) v2 rfl⟩
theorem exbNew {b g:Nat} {w0 w1 w2:World} (h:Exb b w0 w1) (hg:w0.heap.size≤g) (k:Exb g w1 w2):Exb b w0 w2 :=
 Chg.trans h (Chg.mono k (fun q hq=>⟨Nat.lt_of_lt_of_le hq.1 h.size,fun e=>by have:=hq.1;omega⟩))
theorem tkPut {b g:Nat} {w w':World} (T:TK w b) (k:Exb g w w') (hg:g≠b) (hbg:b<g):TK w' b:=TP.chg T k (fun q hq=>⟨by have:=T.lt;omega,by omega⟩)
theorem insertN_small {N:List Nd} {L:List Lkd} {x:Nd} {f h:Int} (hn:N.length≤999):(insertN N L x f h).1.length≤1000∧∀ c∈(insertN N L x f h).1,c.2.length≤9223372036854775807:=by
 have hb:=buildN_small (N++[x]) h (by simp;omega)
 unfold insertN
 split
 ·simp
 ·split
  ·simp
  ·split
   ·simp
   ·split
    ·simp
    ·exact ⟨hb.1,fun c hc=>Nat.le_trans (hb.2 c hc) (by omega)⟩
set_option maxRecDepth 100000 in
set_option maxHeartbeats 16000000 in
theorem spliceinserts_walk (a1:Option Addr) (n1 c1:Nat) (l1:List Int) (x:Nd) (frm hh:Int) (w:World) (h1:Sl 1 encI w a1 n1 l1) (hc1:n1≤c1) (hm1:c1≤maxLen) (hxw:x.word<4294967296) (hT:TabG w) (hL:LetG w) :
  Calls Tryz.prog 4 #[.slice a1 n1 c1,.agg #[.int .i64 x.id,.string x.key,.int .u32 x.word],.int .i64 frm,.int .i64 hh] w fun e w'=>e=.returned (.bool true)∧Ex w w':=by
 have B5:=Blk.new w [.int .i64 x.id,.string x.key,.int .u32 x.word] 49
 have kk:=Ex.new w (.cells #[.int .i64 x.id,.string x.key,.int .u32 x.word] 49)
 obtain ⟨w0,hw0⟩:∃ w0,w0=w.alloc (.cells #[.int .i64 x.id,.string x.key,.int .u32 x.word] 49):=⟨_,rfl⟩
 obtain ⟨g5,hg5⟩:∃ g5,g5=w.heap.size:=⟨_,rfl⟩
 replace B5:Blk w0 g5 [.int .i64 x.id,.string x.key,.int .u32 x.word] 49:=by rw [hw0,hg5];exact B5
 rw [← hw0] at kk
 have Hw0:=lH hw0
 have Hg5:=lH hg5
 replace h1:=h1.nx kk
 replace hT:=hT.nx kk
 replace hL:=hL.nx kk
 have kw0:=kk
 clear kk hw0 hg5
 go_enter Tryz.func4,Tryz.ntmps4
 go_upto_region 1 with fail
 rw [← Hg5.out,← Hw0.out]
 clear Hg5 Hw0
 go_wp2_with fail
 refine (new_t _ _ _ l1 _ h1 hc1 hm1).mono ?_
 rintro e w1 ⟨rfl,T,kk,z1⟩
 obtain ⟨b,hb⟩:∃ b,b=w0.heap.size:=⟨_,rfl⟩
 rw [← hb] at T ⊢
 have hgt:¬ 1=b:=by have:=hT.lt;omega
 have hgl:¬ 0=b:=by have:=hL.lt;omega
 have T1:Hid (TabG w1):=lH (hT.nx kk)
 have L1:Hid (LetG w1):=lH (hL.nx kk)
 have QL:Hid (Exl b w w1):=lH ⟨kw0.nx kk,by have:=kw0.size;omega⟩
 have hg5b:g5≠b:=by have:=B5.lt;omega
 have B5:=lH (B5.nx kk)
 clear h1 hT hL kk hb z1 kw0
 go_wp2_with fail
 go_loopw [10] (fun i wr=>CtRel b 4 w1 i wr) (fun i _=>4-(intOf i).toNat)
 case atStart=>exact ⟨0,by omega,rfl,Exb.refl _ _,T⟩
 case round =>
  clear T
  obtain ⟨k,hk,rfl,kw,T⟩:=hrel
  obtain ⟨wo,rfl⟩:∃ wo:World,wo=wr:=⟨_,rfl⟩
  by_cases hlt:k<4
  case neg =>
   obtain rfl:k=4:=by omega
   have TG:=T1.out.nxb hgt kw
   have QX:=lH (QL.out.nxb kw).1
   clear hk hlt kw T
   go_wp2_with fail
   (with_reducible refine (sane10_x _ TG).mono ?_)
   rintro e w9 ⟨rfl,kk⟩
   go_wp2_with fail
   go_ret
   exact ⟨rfl,QX.out.nx kk⟩
  have hbo:=T.lt
  go_wp2_with fail
  refine (roster_t 7 _ T (L1.out.nxb hgl kw) hgl (by omega) (by omega)).mono ?_
  clear T
  rintro e x1 ⟨v1,LX,rfl,R⟩
  replace kw:=kw.nxb R.k
  have T:=R.tape
  obtain ⟨aX,cX,rfl,SX,hcX,hmX,hnX⟩:=R.own.slf (fun _=>rfl)
  have SX:=SX.slb hbo
  have RL:=R.len
  have RC:=lH R.ok
  have RN:=lH (roster_ok R.ok)
  have XW:Hid (∀ x∈LX,x.word<4294967296):=lH (fun x hx=>(RN.out x hx).1.2.1)
  clear R
  go_wp2_with fail
  refine (next_t 4 _ T (by omega) (by omega)).mono ?_
  clear T
  rintro e x2 ⟨r,rfl,r0,r1,T,kk⟩
  replace kw:=kw.nxb kk
  replace SX:=SX.nxb kk
  clear kk
  obtain ⟨h,rfl⟩:=Int.eq_ofNat_of_zero_le r0
  have hh3:h≤3:=by omega
  clear r0 r1
  go_wp2_with fail
  refine (next_t 5 _ T (by omega) (by omega)).mono ?_
  clear T
  rintro e x3 ⟨r,rfl,r0,r1,T,kk⟩
  replace kw:=kw.nxb kk
  replace SX:=SX.nxb kk
  clear kk
  obtain ⟨q,rfl⟩:=Int.eq_ofNat_of_zero_le r0
  obtain ⟨d,hd⟩:∃ d:Nat,d=q / 4:=⟨_,rfl⟩
  have hd1:d≤1:=by omega
  have hqd:Int.tdiv (q:Int) 4=(d:Int):=by rw [hd];exact Int.ofNat_tdiv q 4▸rfl
  have hqw:IntKind.i64.wrap (Int.tdiv (q:Int) 4)=(d:Int):=by rw [hqd];exact IntWalk.i64_in _ (by omega)
  have hb3:=T.lt
  clear hd r0 r1
  go_wp2_with fail
  refine (links_t _ _ _ _ (h:Int) d _ T SX (by omega) (by omega) XW.out (fun x hx=>(RN.out x hx).1.1)).mono ?_
  clear T
  rintro e x4 ⟨vL,qs,X,rfl,ownX,okX,T,kk⟩
  replace kw:=kw.nxb kk
  replace SX:=SX.nxb kk
  clear kk
  have PX:X.length≤100:=by have:=okX.1;omega
  have PX2:Hid (∀ c∈X,c.2.length≤9223372036854775807):=lH (fun c hc=>Nat.le_trans (okX.2 c hc).2.1 (by omega))
  clear okX hqd hqw
  go_wp2_with fail
  refine (some_n 1 _ T (L1.out.nxb hgl kw) hgl (by omega) (by omega)).mono ?_
  clear T
  rintro e x5 ⟨v5,LY,rfl,R,hY1⟩
  replace kw:=kw.nxb R.k
  replace SX:=SX.nxb R.k
  replace ownX:=ownX.nxb hb3 R.k
  have T:=R.tape
  obtain ⟨aY,cY,rfl,SY,_,_,_⟩:=R.own.slf (fun _=>rfl)
  have YN:=lH (roster_ok R.ok)
  have hYl:LY.length=1:=by have:=R.len;omega
  clear R
  obtain ⟨xY,oY,y,rfl,hxY,hy,hcY⟩:=SY.sl.at (j:=0) (by omega)
  have c0:x5.cell? ⟨xY,oY,none⟩=some (.int .i64 y.id):=by simpa using hcY 0 _ rfl
  have c1:x5.cell? ⟨xY,oY+1,none⟩=some (.string y.key):=by simpa using hcY 1 _ rfl
  have c2:x5.cell? ⟨xY,oY+1+1,none⟩=some (.int .u32 y.word):=by simpa [Nat.add_assoc] using hcY 2 _ rfl
  have YO:=lH (YN.out y (List.mem_of_getElem? hy)).1
  have hb5:=T.lt
  have hY0:(0:Int)<(LY.length:Int):=by omega
  have zx5:=T.lt
  clear hcY hy hxY SY
  have OX5:=lH ownX
  have KW5:=lH kw
  have SX5:=lH SX
  have k5:=Exb.refl b x5
  have B14:=Blk.new x5 [.int .i64 y.id,.string y.key,.int .u32 y.word] 49
  have kk:=Ex.new x5 (.cells #[.int .i64 y.id,.string y.key,.int .u32 y.word] 49)
  obtain ⟨x6,hx6⟩:∃ x6,x6=x5.alloc (.cells #[.int .i64 y.id,.string y.key,.int .u32 y.word] 49):=⟨_,rfl⟩
  obtain ⟨g14,hg14⟩:∃ g14,g14=x5.heap.size:=⟨_,rfl⟩
  replace B14:Blk x6 g14 [.int .i64 y.id,.string y.key,.int .u32 y.word] 49:=by rw [hx6,hg14];exact B14
  rw [← hx6] at kk
  have Hx6:=lH hx6
  have Hg14:=lH hg14
  replace T:=T.nx kk
  replace kw:=kw.nxb (kk.b b)
  replace SX:=SX.nxb (kk.b b)
  replace ownX:=ownX.nx kk
  replace k5:=k5.nxb (kk.b b)
  have hg14b:g14≠b:=by omega
  have hg14z:x5.heap.size≤g14:=by omega
  have hbg14:b<g14:=by omega
  clear kk hx6 hg14
  go_upto_region 8 with fail
  rw [← Hg14.out,← Hx6.out]
  clear Hg14 Hx6
  clear c0 c1 c2 hY0
  go_wp2_with fail
  refine (id_t _ _ _ _ _ T SX (by omega) (fun x hx=>(RN.out x hx).1.1)).mono ?_
  clear T
  rintro e x7 ⟨rI,rfl,hrI,T,kk⟩
  replace kw:=kw.nxb kk
  replace SX:=SX.nxb kk
  replace ownX:=ownX.nxb hb3 kk
  replace k5:=k5.nxb kk
  replace B14:=B14.nxb hg14b kk
  clear kk
  go_wp2_with fail
  refine (pick_t (n:=6) (-1) 17 [(h:Int),(h:Int),(h:Int),(h:Int),-1,17] T rfl rfl rfl (by omega) (by omega) (by intro x hx;simp at hx;omega)).mono ?_
  clear T
  rintro e x8 ⟨rH,rfl,rH0,rH1,T,kk⟩
  replace kw:=kw.nxb kk
  replace SX:=SX.nxb kk
  replace ownX:=ownX.nxb hb3 kk
  replace k5:=k5.nxb kk
  replace B14:=B14.nxb hg14b kk
  clear kk
  clear rH0 rH1 hrI
  have KW:=lH kw
  have K5:=lH k5
  clear ownX kw k5 SX
  have SX:=SX5.out.nxb K5.out
  go_upto_block 2 with fail
  have hkb:=T.lt
  have YW:=lH (YO.out.2.1)
  go_cut [11,15,16] from 25 to 112 (fun v11 v15 v16 wx=>SwI b g14 x5 v11 v15 v16 wx)
  case first =>
   have NX:=hnX
   by_cases h1:k=1
   ·have d1:((k:Int)==1)=true:=by rw [beq_iff_eq];omega
    have c0:=B14.cell 0 _ rfl
    have c1:=B14.cell 1 _ rfl
    have c2:=B14.cell 2 _ rfl
    have kn:=Ex.new x8 (.cells #[.int .i64 y.id,.string y.key,.int .u32 y.word] 49)
    have SF:Slf 3 encN x8 (x8.alloc (.cells #[.int .i64 y.id,.string y.key,.int .u32 y.word] 49)) (some ⟨x8.heap.size,0,none⟩) 1 [y]:=Slf.lit [y] rfl (Nat.le_refl _) rfl (fun _=>rfl) rfl
    have SL:=SF.slb hkb
    clear SF
    have Tn:=T.nx kn
    have Ln:=(L1.out.nxb hgl KW.out).nx kn
    clear h1 T
    go_wp2_with fail
    refine (oddroster_t _ _ _ [y] _ Tn SL (fun h=>by cases h) (by omega) (fun z hz=>by rw [List.mem_singleton.1 hz];exact YO.out) Ln hgl).mono ?_
    rintro e x9 ⟨vO,LO,rfl,RO⟩
    have kk:Exb b x8 x9:=(kn.b b).nxb RO.k
    have T:=RO.tape
    obtain ⟨aO,cO,rfl,SO,_,_,_⟩:=RO.own.slf (fun _=>rfl)
    have hO1:=RO.pos
    have OO:=lH RO.ok
    clear RO Tn Ln SL kn c0 c1 c2
    obtain ⟨xO,oO,z,rfl,hxO,hz,hcO⟩:=SO.sl.at (j:=0) (by omega)
    have e0:x9.cell? ⟨xO,oO,none⟩=some (.int .i64 z.id):=by simpa using hcO 0 _ rfl
    have e1:x9.cell? ⟨xO,oO+1,none⟩=some (.string z.key):=by simpa using hcO 1 _ rfl
    have e2:x9.cell? ⟨xO,oO+1+1,none⟩=some (.int .u32 z.word):=by simpa [Nat.add_assoc] using hcO 2 _ rfl
    have hO2:(0:Int)<(LO.length:Int):=by omega
    have B14:=B14.nxb hg14b kk
    have c0:=B14.cell 0 _ rfl
    have c1:=B14.cell 1 _ rfl
    have c2:=B14.cell 2 _ rfl
    have f0:=B14.free 0
    have f1:=B14.free 1
    have f2:=B14.free 2
    obtain ⟨wk,hwk,BK,k14⟩:=put14 B14 (.int .i64 z.id) (.string z.key) (.int .u32 z.word)
    have TK2:TK wk b:=TP.chg T k14 (fun q hq=>⟨by have:=T.lt;omega,by omega⟩)
    have KK:=exbNew (K5.out.nxb kk) hg14z k14
    have CUT:=lH (show SwI b g14 x5 (.slice aX LX.length cX) (.int .i64 rI) (.int .i64 rH) wk from ⟨aX,LX.length,cX,LX,z,rI,rH,rfl,rfl,rfl,SX5.out.nxb KK,by omega,hcX,hmX,NX,XW.out,(OO.out z (List.mem_of_getElem? hz)).2.1,BK,TK2,KK⟩)
    have HWK:=lH hwk
    clear hcO hz hxO SO SX T TK2 BK k14 kk hwk B14 KK
    go_wp2_with fail
    rw [← HWK.out]
    go_meet
    exact CUT.out
   by_cases h2:k=2
   ·have d1:((k:Int)==1)=false:=by rw [beq_eq_false_iff_ne];omega
    have d2:((k:Int)==2)=true:=by rw [beq_iff_eq];omega
    clear h1 h2
    go_wp2_with fail
    refine (oddroster_t _ _ _ LX _ T SX NX (by omega) (fun z hz=>(RN.out z hz).1) (L1.out.nxb hgl KW.out) hgl).mono ?_
    rintro e x9 ⟨vO,LO,rfl,RO⟩
    have kk:=RO.k
    have T9:=RO.tape
    obtain ⟨aO,cO,rfl,SO,hcO,hmO,hnO⟩:=RO.own.slf (fun _=>rfl)
    have SO:=SO.slb hkb
    have RL9:=RO.len
    have OO:=lH RO.ok
    clear RO
    have B14:=B14.nxb hg14b kk
    have CUT:=lH (show SwI b g14 x5 (.slice aO LO.length cO) (.int .i64 rI) (.int .i64 rH) x9 from ⟨aO,LO.length,cO,LO,y,rI,rH,rfl,rfl,rfl,SO,by omega,hcO,hmO,hnO,fun z hz=>(OO.out z hz).2.1,YW.out,B14,T9,K5.out.nxb kk⟩)
    clear T T9 SO SX kk B14
    go_wp2_with fail
    go_meet
    exact CUT.out
   by_cases h3:k=3
   ·have d1:((k:Int)==1)=false:=by rw [beq_eq_false_iff_ne];omega
    have d2:((k:Int)==2)=false:=by rw [beq_eq_false_iff_ne];omega
    have d3:((k:Int)==3)=true:=by rw [beq_iff_eq];omega
    have B5x:=lH (B5.out.nxb hg5b KW5.out)
    clear h1 h2 h3 SX
    go_upto_region 15 with fail
    refine wp_region_held_drew (S:=Exb b x5) (by kernel_rfl) (K5.out.drew) (fun hHeld=>?_)
    obtain ⟨wd,hwdx⟩:∃ wd:World,wd=World.drew x8:=⟨_,rfl⟩
    rw [← hwdx] at hHeld ⊢
    have hDrew:Ex x8 wd:=by rw [hwdx];exact (Ex.refl x8).drew
    clear hwdx
    refine tkH 0 (v:=?_) rfl (by kernel_rfl) (fun _ _ _ h=>h) (by rfl) ?y1x0q5 (by assumption) ?z1x0q5
    case y1x0q5=>intro wq hSw;(have q0:=(B5x.out.nxb hg5b hSw).cell 0 _ rfl;have q1:=(B5x.out.nxb hg5b hSw).cell 1 _ rfl;have q2:=(B5x.out.nxb hg5b hSw).cell 2 _ rfl;go_simp);(try with_reducible rfl)
    try simp only [Act.put,sA,sB,sC]
    refine tkH 1 (v:=?_) rfl (by kernel_rfl) (fun _ _ _ h=>h) (by rfl) ?y1x1q8 (by assumption) ?z1x1q8
    case y1x1q8=>intro wq hSw;(go_simp);(try with_reducible rfl)
    try simp only [Act.put,sA,sB,sC]
    refine tkH 2 (v:=?_) rfl (by kernel_rfl) (fun _ _ _ h=>h) (by rfl) ?y1x2q11 (by assumption) ?z1x2q11
    case y1x2q11=>intro wq hSw;(go_simp);(try with_reducible rfl)
    try simp only [Act.put,sA,sB,sC]
    refine tkH 3 (v:=?_) rfl (by kernel_rfl) (fun _ _ _ h=>h) (by rfl) ?y1x3q14 (by assumption) ?z1x3q14
    case y1x3q14=>intro wq hSw;(go_simp);(try with_reducible rfl)
    try simp only [Act.put,sA,sB,sC]
    refine tkH 5 (v:=?_) rfl (by kernel_rfl) (fun _ _ _ h=>h) (by rfl) ?y1x5q17 (by assumption) ?z1x5q17
    case y1x5q17=>intro wq hSw;(go_simp);(try with_reducible rfl)
    try simp only [Act.put,sA,sB,sC]
    refine wpAnyH_ready (rs:=[4,6]) (by kernel_rfl) (by simp) ?_
    refine AllReadyH.cons (o:=⟨_,_,_,_,_,_⟩) rfl (fun K hK=>?_) ?_
    ·go_simp
     (try replace T:=T.nx hDrew)
     (try replace B14:=B14.nx hDrew)
     obtain ⟨g74,wq,hg74,hwq,BL,kk,zg74⟩:=newI2 hHeld (h:Int) hh
     rw [← hg74,← hwq]
     have hg74b:g74≠b:=by have:=T.lt;omega
     have hg74n:g74≠g14:=by have:=B14.lt;omega
     clear hg74 hwq zg74
     replace T:=T.nx kk
     replace B14:=B14.nx kk
     replace hHeld:=hHeld.nxb (kk.b b)
     clear kk
     refine hK.out _ _ (hHeld) (fun hHeld=>?_)
     clear hK K
     try simp only [Act.put,sA,sB,sC]
     refine wpAnyH_ready (rs:=[6]) (by kernel_rfl) (by simp) ?_
     refine AllReadyH.cons (o:=⟨_,_,_,_,_,_⟩) rfl (fun K hK=>?_) AllReadyH.nil
     go_simp
     (try replace T:=T.nx hDrew)
     (try replace B14:=B14.nx hDrew)
     refine (next_t 2 _ T (by omega) (by omega)).mono ?_
     rintro e wt ⟨r,rfl,r0,r1,T9,kk⟩
     obtain ⟨j,rfl⟩:=Int.eq_ofNat_of_zero_le r0
     have hj2:j<2:=by omega
     have hjI:(j:Int)<2:=by omega
     have hj0:¬ (j:Int)<0:=by omega
     obtain ⟨u,hu⟩:=pick2 (h:Int) hh hj2
     replace T:=T9
     clear T9
     replace B14:=B14.nxb hg14b kk
     (try replace BL:=BL.nxb hg74b kk)
     replace hHeld:=hHeld.nxb kk
     clear kk r0 r1
     refine hK.out _ _ (hHeld) (fun hHeld=>?_)
     clear hK K
     try simp only [Act.put,sA,sB,sC]
     refine tkH 7 (v:=?_) rfl (by kernel_rfl) (fun _ _ _ h=>h) (by rfl) ?y1x7q58 (by assumption) ?z1x7q58
     case y1x7q58=>intro wq hSw;(go_simp);(try with_reducible rfl)
     try simp only [Act.put,sA,sB,sC]
     refine wpAnyH_ready (rs:=[8,9]) (by kernel_rfl) (by simp) ?_
     refine AllReadyH.cons (o:=⟨_,_,_,_,_,_⟩) rfl (fun K hK=>?_) ?_
     ·have cq:=BL.cell j _ hu
      go_simp
      clear cq
      refine hK.out _ _ (hHeld) (fun hHeld=>?_)
      clear hK K
      try simp only [Act.put,sA,sB,sC]
      refine wpAnyH_ready (rs:=[9]) (by kernel_rfl) (by simp) ?_
      refine AllReadyH.cons (o:=⟨_,_,_,_,_,_⟩) rfl (fun K hK=>?_) AllReadyH.nil
      have c0:=B14.cell 0 _ rfl
      have c1:=B14.cell 1 _ rfl
      have c2:=B14.cell 2 _ rfl
      have f0:=B14.free 0
      have f1:=B14.free 1
      have f2:=B14.free 2
      go_simp
      clear c0 c1 c2 f0 f1 f2
      obtain ⟨wk,hwk,BK,k14⟩:=put14 B14 (.int .i64 x.id) (.string x.key) (.int .u32 x.word)
      rw [← hwk]
      clear hwk
      replace T:=tkPut T k14 hg14b hbg14
      (try replace BL:=BL.nxb hg74n k14)
      replace hHeld:=exbNew hHeld hg14z k14
      replace B14:=BK
      clear BK k14
      refine hK.out _ _ (hHeld) (fun hHeld=>?_)
      clear hK K
      try simp only [Act.put,sA,sB,sC]
      refine tkH 10 (v:=?_) rfl (by kernel_rfl) (fun _ _ _ h=>h) (by rfl) ?y1x10q90 (by assumption) ?z1x10q90
      case y1x10q90=>intro wq hSw;(go_simp);(try with_reducible rfl)
      try simp only [Act.put,sA,sB,sC]
      refine tkH 11 (v:=?_) rfl (by kernel_rfl) (fun _ _ _ h=>h) (by rfl) ?y1x11q93 (by assumption) ?z1x11q93
      case y1x11q93=>intro wq hSw;(go_simp);(try with_reducible rfl)
      try simp only [Act.put,sA,sB,sC]
      refine wpAnyH_done (by kernel_rfl) ?_ _
      have CUT:=lH (show SwI b g14 x5 (.slice aX LX.length cX) (.int .i64 frm) (.int .i64 u) _ from ⟨aX,LX.length,cX,LX,x,frm,u,rfl,rfl,rfl,SX5.out.nxb hHeld,by omega,hcX,hmX,NX,XW.out,hxw,B14,T,hHeld⟩)
      clear T B14 hHeld BL
      go_wp2_with fail
      go_meet
      exact CUT.out
     refine AllReadyH.cons (o:=⟨_,_,_,_,_,_⟩) rfl (fun K hK=>?_) AllReadyH.nil
     ·have c0:=B14.cell 0 _ rfl
      have c1:=B14.cell 1 _ rfl
      have c2:=B14.cell 2 _ rfl
      have f0:=B14.free 0
      have f1:=B14.free 1
      have f2:=B14.free 2
      go_simp
      clear c0 c1 c2 f0 f1 f2
      obtain ⟨wk,hwk,BK,k14⟩:=put14 B14 (.int .i64 x.id) (.string x.key) (.int .u32 x.word)
      rw [← hwk]
      clear hwk
      replace T:=tkPut T k14 hg14b hbg14
      (try replace BL:=BL.nxb hg74n k14)
      replace hHeld:=exbNew hHeld hg14z k14
      replace B14:=BK
      clear BK k14
      refine hK.out _ _ (hHeld) (fun hHeld=>?_)
      clear hK K
      try simp only [Act.put,sA,sB,sC]
      refine tkH 10 (v:=?_) rfl (by kernel_rfl) (fun _ _ _ h=>h) (by rfl) ?y1x10q118 (by assumption) ?z1x10q118
      case y1x10q118=>intro wq hSw;(go_simp);(try with_reducible rfl)
      try simp only [Act.put,sA,sB,sC]
      refine wpAnyH_ready (rs:=[8]) (by kernel_rfl) (by simp) ?_
      refine AllReadyH.cons (o:=⟨_,_,_,_,_,_⟩) rfl (fun K hK=>?_) AllReadyH.nil
      have cq:=BL.cell j _ hu
      go_simp
      clear cq
      refine hK.out _ _ (hHeld) (fun hHeld=>?_)
      clear hK K
      try simp only [Act.put,sA,sB,sC]
      refine tkH 11 (v:=?_) rfl (by kernel_rfl) (fun _ _ _ h=>h) (by rfl) ?y1x11q129 (by assumption) ?z1x11q129
      case y1x11q129=>intro wq hSw;(go_simp);(try with_reducible rfl)
      try simp only [Act.put,sA,sB,sC]
      refine wpAnyH_done (by kernel_rfl) ?_ _
      have CUT:=lH (show SwI b g14 x5 (.slice aX LX.length cX) (.int .i64 frm) (.int .i64 u) _ from ⟨aX,LX.length,cX,LX,x,frm,u,rfl,rfl,rfl,SX5.out.nxb hHeld,by omega,hcX,hmX,NX,XW.out,hxw,B14,T,hHeld⟩)
      clear T B14 hHeld BL
      go_wp2_with fail
      go_meet
      exact CUT.out
    refine AllReadyH.cons (o:=⟨_,_,_,_,_,_⟩) rfl (fun K hK=>?_) AllReadyH.nil
    ·go_simp
     (try replace T:=T.nx hDrew)
     (try replace B14:=B14.nx hDrew)
     refine (next_t 2 _ T (by omega) (by omega)).mono ?_
     rintro e wt ⟨r,rfl,r0,r1,T9,kk⟩
     obtain ⟨j,rfl⟩:=Int.eq_ofNat_of_zero_le r0
     have hj2:j<2:=by omega
     have hjI:(j:Int)<2:=by omega
     have hj0:¬ (j:Int)<0:=by omega
     obtain ⟨u,hu⟩:=pick2 (h:Int) hh hj2
     replace T:=T9
     clear T9
     replace B14:=B14.nxb hg14b kk
     (try replace BL:=BL.nxb hg74b kk)
     replace hHeld:=hHeld.nxb kk
     clear kk r0 r1
     refine hK.out _ _ (hHeld) (fun hHeld=>?_)
     clear hK K
     try simp only [Act.put,sA,sB,sC]
     refine wpAnyH_ready (rs:=[4,9]) (by kernel_rfl) (by simp) ?_
     refine AllReadyH.cons (o:=⟨_,_,_,_,_,_⟩) rfl (fun K hK=>?_) ?_
     ·go_simp
      (try replace T:=T.nx hDrew)
      (try replace B14:=B14.nx hDrew)
      obtain ⟨g74,wq,hg74,hwq,BL,kk,zg74⟩:=newI2 hHeld (h:Int) hh
      rw [← hg74,← hwq]
      have hg74b:g74≠b:=by have:=T.lt;omega
      have hg74n:g74≠g14:=by have:=B14.lt;omega
      clear hg74 hwq zg74
      replace T:=T.nx kk
      replace B14:=B14.nx kk
      replace hHeld:=hHeld.nxb (kk.b b)
      clear kk
      refine hK.out _ _ (hHeld) (fun hHeld=>?_)
      clear hK K
      try simp only [Act.put,sA,sB,sC]
      refine tkH 7 (v:=?_) rfl (by kernel_rfl) (fun _ _ _ h=>h) (by rfl) ?y1x7q171 (by assumption) ?z1x7q171
      case y1x7q171=>intro wq hSw;(go_simp);(try with_reducible rfl)
      try simp only [Act.put,sA,sB,sC]
      refine wpAnyH_ready (rs:=[8,9]) (by kernel_rfl) (by simp) ?_
      refine AllReadyH.cons (o:=⟨_,_,_,_,_,_⟩) rfl (fun K hK=>?_) ?_
      ·have cq:=BL.cell j _ hu
       go_simp
       clear cq
       refine hK.out _ _ (hHeld) (fun hHeld=>?_)
       clear hK K
       try simp only [Act.put,sA,sB,sC]
       refine wpAnyH_ready (rs:=[9]) (by kernel_rfl) (by simp) ?_
       refine AllReadyH.cons (o:=⟨_,_,_,_,_,_⟩) rfl (fun K hK=>?_) AllReadyH.nil
       have c0:=B14.cell 0 _ rfl
       have c1:=B14.cell 1 _ rfl
       have c2:=B14.cell 2 _ rfl
       have f0:=B14.free 0
       have f1:=B14.free 1
       have f2:=B14.free 2
       go_simp
       clear c0 c1 c2 f0 f1 f2
       obtain ⟨wk,hwk,BK,k14⟩:=put14 B14 (.int .i64 x.id) (.string x.key) (.int .u32 x.word)
       rw [← hwk]
       clear hwk
       replace T:=tkPut T k14 hg14b hbg14
       (try replace BL:=BL.nxb hg74n k14)
       replace hHeld:=exbNew hHeld hg14z k14
       replace B14:=BK
       clear BK k14
       refine hK.out _ _ (hHeld) (fun hHeld=>?_)
       clear hK K
       try simp only [Act.put,sA,sB,sC]
       refine tkH 10 (v:=?_) rfl (by kernel_rfl) (fun _ _ _ h=>h) (by rfl) ?y1x10q203 (by assumption) ?z1x10q203
       case y1x10q203=>intro wq hSw;(go_simp);(try with_reducible rfl)
       try simp only [Act.put,sA,sB,sC]
       refine tkH 11 (v:=?_) rfl (by kernel_rfl) (fun _ _ _ h=>h) (by rfl) ?y1x11q206 (by assumption) ?z1x11q206
       case y1x11q206=>intro wq hSw;(go_simp);(try with_reducible rfl)
       try simp only [Act.put,sA,sB,sC]
       refine wpAnyH_done (by kernel_rfl) ?_ _
       have CUT:=lH (show SwI b g14 x5 (.slice aX LX.length cX) (.int .i64 frm) (.int .i64 u) _ from ⟨aX,LX.length,cX,LX,x,frm,u,rfl,rfl,rfl,SX5.out.nxb hHeld,by omega,hcX,hmX,NX,XW.out,hxw,B14,T,hHeld⟩)
       clear T B14 hHeld BL
       go_wp2_with fail
       go_meet
       exact CUT.out
      refine AllReadyH.cons (o:=⟨_,_,_,_,_,_⟩) rfl (fun K hK=>?_) AllReadyH.nil
      ·have c0:=B14.cell 0 _ rfl
       have c1:=B14.cell 1 _ rfl
       have c2:=B14.cell 2 _ rfl
       have f0:=B14.free 0
       have f1:=B14.free 1
       have f2:=B14.free 2
       go_simp
       clear c0 c1 c2 f0 f1 f2
       obtain ⟨wk,hwk,BK,k14⟩:=put14 B14 (.int .i64 x.id) (.string x.key) (.int .u32 x.word)
       rw [← hwk]
       clear hwk
       replace T:=tkPut T k14 hg14b hbg14
       (try replace BL:=BL.nxb hg74n k14)
       replace hHeld:=exbNew hHeld hg14z k14
       replace B14:=BK
       clear BK k14
       refine hK.out _ _ (hHeld) (fun hHeld=>?_)
       clear hK K
       try simp only [Act.put,sA,sB,sC]
       refine tkH 10 (v:=?_) rfl (by kernel_rfl) (fun _ _ _ h=>h) (by rfl) ?y1x10q231 (by assumption) ?z1x10q231
       case y1x10q231=>intro wq hSw;(go_simp);(try with_reducible rfl)
       try simp only [Act.put,sA,sB,sC]
       refine wpAnyH_ready (rs:=[8]) (by kernel_rfl) (by simp) ?_
       refine AllReadyH.cons (o:=⟨_,_,_,_,_,_⟩) rfl (fun K hK=>?_) AllReadyH.nil
       have cq:=BL.cell j _ hu
       go_simp
       clear cq
       refine hK.out _ _ (hHeld) (fun hHeld=>?_)
       clear hK K
       try simp only [Act.put,sA,sB,sC]
       refine tkH 11 (v:=?_) rfl (by kernel_rfl) (fun _ _ _ h=>h) (by rfl) ?y1x11q242 (by assumption) ?z1x11q242
       case y1x11q242=>intro wq hSw;(go_simp);(try with_reducible rfl)
       try simp only [Act.put,sA,sB,sC]
       refine wpAnyH_done (by kernel_rfl) ?_ _
       have CUT:=lH (show SwI b g14 x5 (.slice aX LX.length cX) (.int .i64 frm) (.int .i64 u) _ from ⟨aX,LX.length,cX,LX,x,frm,u,rfl,rfl,rfl,SX5.out.nxb hHeld,by omega,hcX,hmX,NX,XW.out,hxw,B14,T,hHeld⟩)
       clear T B14 hHeld BL
       go_wp2_with fail
       go_meet
       exact CUT.out
     refine AllReadyH.cons (o:=⟨_,_,_,_,_,_⟩) rfl (fun K hK=>?_) AllReadyH.nil
     ·have c0:=B14.cell 0 _ rfl
      have c1:=B14.cell 1 _ rfl
      have c2:=B14.cell 2 _ rfl
      have f0:=B14.free 0
      have f1:=B14.free 1
      have f2:=B14.free 2
      go_simp
      clear c0 c1 c2 f0 f1 f2
      obtain ⟨wk,hwk,BK,k14⟩:=put14 B14 (.int .i64 x.id) (.string x.key) (.int .u32 x.word)
      rw [← hwk]
      clear hwk
      replace T:=tkPut T k14 hg14b hbg14
      (try replace BL:=BL.nxb hg74n k14)
      replace hHeld:=exbNew hHeld hg14z k14
      replace B14:=BK
      clear BK k14
      refine hK.out _ _ (hHeld) (fun hHeld=>?_)
      clear hK K
      try simp only [Act.put,sA,sB,sC]
      refine tkH 10 (v:=?_) rfl (by kernel_rfl) (fun _ _ _ h=>h) (by rfl) ?y1x10q267 (by assumption) ?z1x10q267
      case y1x10q267=>intro wq hSw;(go_simp);(try with_reducible rfl)
      try simp only [Act.put,sA,sB,sC]
      refine wpAnyH_ready (rs:=[4]) (by kernel_rfl) (by simp) ?_
      refine AllReadyH.cons (o:=⟨_,_,_,_,_,_⟩) rfl (fun K hK=>?_) AllReadyH.nil
      go_simp
      (try replace T:=T.nx hDrew)
      (try replace B14:=B14.nx hDrew)
      obtain ⟨g74,wq,hg74,hwq,BL,kk,zg74⟩:=newI2 hHeld (h:Int) hh
      rw [← hg74,← hwq]
      have hg74b:g74≠b:=by have:=T.lt;omega
      have hg74n:g74≠g14:=by have:=B14.lt;omega
      clear hg74 hwq zg74
      replace T:=T.nx kk
      replace B14:=B14.nx kk
      replace hHeld:=hHeld.nxb (kk.b b)
      clear kk
      refine hK.out _ _ (hHeld) (fun hHeld=>?_)
      clear hK K
      try simp only [Act.put,sA,sB,sC]
      refine tkH 7 (v:=?_) rfl (by kernel_rfl) (fun _ _ _ h=>h) (by rfl) ?y1x7q287 (by assumption) ?z1x7q287
      case y1x7q287=>intro wq hSw;(go_simp);(try with_reducible rfl)
      try simp only [Act.put,sA,sB,sC]
      refine wpAnyH_ready (rs:=[8]) (by kernel_rfl) (by simp) ?_
      refine AllReadyH.cons (o:=⟨_,_,_,_,_,_⟩) rfl (fun K hK=>?_) AllReadyH.nil
      have cq:=BL.cell j _ hu
      go_simp
      clear cq
      refine hK.out _ _ (hHeld) (fun hHeld=>?_)
      clear hK K
      try simp only [Act.put,sA,sB,sC]
      refine tkH 11 (v:=?_) rfl (by kernel_rfl) (fun _ _ _ h=>h) (by rfl) ?y1x11q298 (by assumption) ?z1x11q298
      case y1x11q298=>intro wq hSw;(go_simp);(try with_reducible rfl)
      try simp only [Act.put,sA,sB,sC]
      refine wpAnyH_done (by kernel_rfl) ?_ _
      have CUT:=lH (show SwI b g14 x5 (.slice aX LX.length cX) (.int .i64 frm) (.int .i64 u) _ from ⟨aX,LX.length,cX,LX,x,frm,u,rfl,rfl,rfl,SX5.out.nxb hHeld,by omega,hcX,hmX,NX,XW.out,hxw,B14,T,hHeld⟩)
      clear T B14 hHeld BL
      go_wp2_with fail
      go_meet
      exact CUT.out
   have d1:((k:Int)==1)=false:=by rw [beq_eq_false_iff_ne];omega
   have d2:((k:Int)==2)=false:=by rw [beq_eq_false_iff_ne];omega
   have d3:((k:Int)==3)=false:=by rw [beq_eq_false_iff_ne];omega
   have CUT:=lH (show SwI b g14 x5 (.slice aX LX.length cX) (.int .i64 rI) (.int .i64 rH) x8 from ⟨aX,LX.length,cX,LX,y,rI,rH,rfl,rfl,rfl,SX,by omega,hcX,hmX,NX,XW.out,YW.out,B14,T,K5.out⟩)
   clear T SX B14 h1 h2 h3
   go_wp2_with fail
   go_meet
   exact CUT.out
  case rest =>
   obtain ⟨aZ,nZ,cZ,LZ,z,fz,hz,rfl,rfl,rfl,SZ,hnZ,hcZ,hmZ,nilZ,ZW,zw,B14,T9,kk⟩:=hcut
   rename World=>x9
   clear T SX
   have ZW:=lH ZW
   have KW:=lH (KW5.out.nxb kk)
   have hb3x:=hb3
   have OX:=OX5.out.nxb hb3 kk
   have S:=SZ.sl
   obtain ⟨aP,cP,rfl,LK,_,_,_,_⟩:=OwnN.nl (encA:=encI) (encB:=encS) (s1:=2) (s2:=2) (fun _=>rfl) (fun _=>rfl) OX
   have LK:=lH LK
   have TB:=lH T9
   have EX:=Ex.refl x9
   have TG:=T1.out.nxb hgt KW.out
   clear SZ OX T9 kk
   have b0:=B14.cell 0 _ rfl
   have b1:=B14.cell 1 _ rfl
   have b2:=B14.cell 2 _ rfl
   go_wp2_with fail
   (with_reducible refine (insert_p _ _ _ LZ _ _ _ X z fz hz _ S (by omega) hcZ hmZ ZW.out zw TG LK.out (by omega) PX2.out).mono ?_)
   rintro e y1 ⟨v17,q17,rfl,ownA,kk⟩
   replace S:=S.nx kk
   replace LK:=lH (LK.out.nx kk)
   replace EX:=EX.nx kk
   replace TG:=TG.nx kk
   replace B14:=B14.nx kk
   clear kk
   obtain ⟨aA,cA,rfl,LA,_,_,_,_⟩:=OwnN.nl (encA:=encI) (encB:=encS) (s1:=2) (s2:=2) (fun _=>rfl) (fun _=>rfl) ownA
   have LA:=lH LA
   clear ownA
   clear b0 b1 b2
   have b0:=B14.cell 0 _ rfl
   have b1:=B14.cell 1 _ rfl
   have b2:=B14.cell 2 _ rfl
   go_wp2_with fail
   (with_reducible refine (insert_r _ _ _ LZ _ _ _ X z fz hz _ S (by omega) nilZ ZW.out zw LK.out (by omega) PX2.out).mono ?_)
   rintro e y2 ⟨v20,q20,rfl,ownB,kk⟩
   replace S:=S.nx kk
   replace LK:=lH (LK.out.nx kk)
   replace EX:=EX.nx kk
   replace TG:=TG.nx kk
   replace B14:=B14.nx kk
   replace LA:=lH (LA.out.nx kk)
   clear kk
   obtain ⟨aB,cB,rfl,LB,_,_,_,_⟩:=OwnN.nl (encA:=encI) (encB:=encS) (s1:=2) (s2:=2) (fun _=>rfl) (fun _=>rfl) ownB
   have LB:=lH LB
   obtain ⟨R,hR⟩:∃ R,R=insertN LZ X z fz hz:=⟨_,rfl⟩
   rw [← hR] at LA LB ⊢
   obtain ⟨hR1,hR2⟩:R.1.length≤1000∧∀ c∈R.1,c.2.length≤9223372036854775807:=by rw [hR];exact insertN_small (by have:=S.len;omega)
   have HR2:=lH hR2
   clear ownB hR hR2
   obtain ⟨RL1,Rn,Re⟩:=R
   simp only at LA LB hR1 HR2 ⊢
   go_wp2_with fail
   (with_reducible refine (samelk_g _ _ _ _ _ _ RL1 RL1 _ LA.out LB.out (by omega) HR2.out).mono ?_)
   rintro e y3 ⟨rfl,kk⟩
   replace S:=S.nx kk
   replace LK:=lH (LK.out.nx kk)
   replace EX:=EX.nx kk
   replace TG:=TG.nx kk
   replace B14:=B14.nx kk
   replace LA:=lH (LA.out.nx kk)
   replace LB:=lH (LB.out.nx kk)
   clear kk
   rw [decide_eq_true (rfl:RL1=RL1)]
   have FIN:Hid (CtRel b 4 w1 (.int .i64 ((k:Int)+1)) y3):=lH ⟨k+1,by omega,by go_num,KW.out.nxb (EX.b b),TB.out.nx EX⟩
   clear S LK LA LB EX TG B14 b0 b1 b2
   go_wp2_with fail
   exact ⟨FIN.out,by simp [intOf];omega⟩
end Go.Proofs.YtalmjklljofhbaaGreatDoor
/-
 SpliceInserts returns true for every list of numbers,every node and any two numbers,and leaves its arguments as they were.
 Condition: the table of math/bits and the letters of the keys are as the program text lays them (tied by the card).
-/
namespace Go.Proofs.YtalmjklljofhbaaGreatDoor
open Go.RowKit
open Go.ChangeShapes Go.WideShapes Go.ChangeAt Go.RowKit Go.Deep Go.Joins
open Go.ChangeMaps (open_string shut_string)
set_option linter.unusedVariables false
theorem Tryz.cellsInt:Tryz.prog.cellsOf 3=1:=by kernel_rfl
theorem Tryz.cellsNode:Tryz.prog.cellsOf 49=3:=by kernel_rfl
set_option maxRecDepth 100000 in
set_option maxHeartbeats 1000000 in
theorem spliceInserts_lifted (os:Os) (started:os.Started) (H:Type) (enc:TypeId×Value→H) :
  ReturnsInHanded {} Tryz.checked os 4 .any (fun w args=>(Rows.spliceInsertsSpec.pre enc Tryz.prog Tryz.f4 [] false w args∧laidMetH Tryz.prog Rows.spliceInsertsRow.laid w)∧sizedMet enc Tryz.prog Tryz.f4 (OpenSpec.ofChange Rows.spliceInsertsSpec) false w args)
   (Rows.spliceInsertsSpec.post enc Tryz.prog Tryz.f4 false true false false):=by
 refine returnsInHanded_of_change_and (C:=Tryz.checked) (X:=fun w _=>laidMetH Tryz.prog Rows.spliceInsertsRow.laid w) (fun _ _ _ hh h=>h.of_heap hh) own started (by kernel_rfl) Tryz.func4
  (ChangeSpec.witness_shaped (enc:=enc) (C:=Tryz.checked) (os:=os) (X:=fun w _=>laidMetH Tryz.prog Rows.spliceInsertsRow.laid w) false (World.doorLaid Tryz.prog 400 os) #[.slice none 0 0,.agg #[.int .i64 0,.string ByteArray.empty,.int .u32 0],.int .i64 0,.int .i64 0] 8 rfl (World.shaped_of_RefB (by kernel_rfl) (by kernel_rfl)) (by kernel_rfl) (by kernel_rfl) (by kernel_rfl) (laidMetH_of_parts3 (fuel:=8) (laidMet_of_run' 8 (by kernel_rfl) (by kernel_rfl)) (by kernel_rfl) (by kernel_rfl))) ?_
 intro W base args ds gs before hval0 hW _ _ hL _
 have hval:∀ (j:Nat) t v,Tryz.f4.params[j]?=some t→args[j]?=some v→Value.okWide Tryz.prog W .any base t v:=hval0
 have hW':=hW
 obtain ⟨p,q,hA0,hV,rfl,hfz,hnd⟩:=hW
 have hA:DataW.TrodAll enc Tryz.prog W 0 (fun _=>true) true Tryz.f4.params.toList args.toList ds p:=hA0
 rw [Tryz.params4] at hA hval
 obtain ⟨v0,vs0,d0,ds0,p0,q0,hargs,rfl,rfl,h0,r0⟩:=trodAll_cons hA
 obtain ⟨v1,vs1,d1,ds1,p1,q1,rfl,rfl,rfl,h1,r1⟩:=trodAll_cons r0
 obtain ⟨v2,vs2,d2,ds2,p2,q2,rfl,rfl,rfl,h2,r2⟩:=trodAll_cons r1
 obtain ⟨v3,vs3,d3,ds3,p3,q3,rfl,rfl,rfl,h3,r3⟩:=trodAll_cons r2
 obtain ⟨rfl,rfl,rfl⟩:=trodAll_nil r3
 obtain rfl:args=#[v0,v1,v2,v3]:=by cases args;simp_all
 obtain ⟨rfl,rfl⟩:=trodVars_none hV
 have k0:=h0
 have lt0:∀ x∈p0,x.block<W.heap.size:=by obtain ⟨m,hm⟩:=k0;exact DataW.trod_lt m _ _ _ hm
 have k1:=h1
 have lt1:∀ x∈p1,x.block<W.heap.size:=by obtain ⟨m,hm⟩:=k1;exact DataW.trod_lt m _ _ _ hm
 have k2:=h2
 have lt2:∀ x∈p2,x.block<W.heap.size:=by obtain ⟨m,hm⟩:=k2;exact DataW.trod_lt m _ _ _ hm
 have k3:=h3
 have lt3:∀ x∈p3,x.block<W.heap.size:=by obtain ⟨m,hm⟩:=k3;exact DataW.trod_lt m _ _ _ hm
 obtain ⟨A0,n0,cap0,l0,rfl,rd0,hc0,hm0,wf0,nl0⟩:=rd_ints Tryz.underlying22 Tryz.underlying3 Tryz.cellsInt (hval 0 22 v0 rfl rfl) h0
 obtain ⟨c10,c11,c12,y10,y11,y12,m1,rfl,rfl,rfl,hy10,hy11,hy12⟩:=open_agg3 Tryz.underlying49 (by kernel_rfl) Tryz.cellsNode (hval 1 49 v1 rfl rfl) h1
 obtain ⟨xi1,e10,rfl,_⟩:=DataW.trod_int Tryz.underlying3 hy10
 obtain ⟨xs1,e11,rfl,_⟩:=DataW.trod_string Tryz.underlying9 hy11
 obtain ⟨xw1,e12,rfl,wx1⟩:=DataW.trod_int Tryz.underlying47 hy12
 simp at e10 e11 e12
 subst e10 e11 e12
 have hxb1:=bounds_u32 wx1
 obtain ⟨xw1,rfl⟩:=Int.eq_ofNat_of_zero_le hxb1.1
 have hxw1:xw1<4294967296:=by omega
 obtain ⟨a2,rfl,rfl,rfl,wa2⟩:=open_int Tryz.underlying3 (hval 2 3 v2 rfl rfl) h2
 obtain ⟨a3,rfl,rfl,rfl,wa3⟩:=open_int Tryz.underlying3 (hval 3 3 v3 rfl rfl) h3
 clear hA0 hval0
 have hT:TabG W:=tabG_of hL (by kernel_rfl)
 have hL2:LetG W:=letG_second hL (by kernel_rfl) (by kernel_rfl)
 refine (spliceinserts_walk A0 n0 cap0 l0 ⟨xi1,xs1,xw1⟩ a2 a3 W rd0 hc0 hm0 hxw1 hT hL2).mono fun e W' ⟨he,hch⟩=>?_
 have bel:Below W.heap.size W W':=hch.below (fun _ h=>h)
 subst he
 exact ⟨_,rfl,_,_,_,[],_,[],hW',trodAll_mk1 (shut_bool Tryz.underlying4 _),(trodAll_cons_mk (Below.trod laidOut (by kernel_rfl) (of_decide_eq_true (by kernel_rfl)) k0 bel lt0) (trodAll_cons_mk (Below.trod laidOut (by kernel_rfl) (of_decide_eq_true (by kernel_rfl)) k1 bel lt1) (trodAll_cons_mk (Below.trod laidOut (by kernel_rfl) (of_decide_eq_true (by kernel_rfl)) k2 bel lt2) (trodAll_cons_mk (Below.trod laidOut (by kernel_rfl) (of_decide_eq_true (by kernel_rfl)) k3 bel lt3) trodAll_mk0)))),rfl,bel.frame _,fun h=>by cases h⟩
theorem spliceInserts_over:Rows.spliceInsertsRow.holds Tryz.pinned (OpenSpec.ofChange Rows.spliceInsertsSpec) :=
 OpenClaim.holds_of_wide 4 Tryz.f4 rfl rfl rfl rfl rfl rfl rfl ⟨rfl,rfl,rfl,rfl,rfl⟩ rfl rfl rfl rfl rfl (by kernel_rfl) Tryz.func4 (by kernel_rfl)
  (of_decide_eq_true (by kernel_rfl)) (by unfold Func.isWrapper;first | (rw [if_pos (by decide +kernel)];kernel_rfl) | (rw [if_neg (by decide +kernel)];exact ⟨rfl,rfl⟩))
  (fun os started H enc _=>spliceInserts_lifted os started H enc)
theorem SpliceInserts_holds:Rows.SpliceInsertsCardSaid :=
 Claim7.holds_tied_plain_at .later [] [.data, .data] true (true, "b1738fbeb79c68c942f0977f03bc30c9bd47aac2032c4478c3ec5ec3d4787ff6") false
  spliceInserts_over (fun _ h=>by cases h) (by kernel_rfl) (fun _ h=>by cases h) spliceInserts_row_tie rfl ⟨rfl,rfl⟩ (by kernel_rfl) rfl
  (fun f fn hf hfn=>by
   obtain rfl : f = 4 := Option.some.inj ((show Tryz.prog.funcNamed "skipgraph/skipgraphlaw10.SpliceInserts" = some 4 by kernel_rfl).symm.trans hf) |>.symm
   obtain rfl:fn=Tryz.f4:=(Option.some.inj (Tryz.func4.symm.trans hfn)).symm
   exact ⟨by kernel_rfl,fun j t ht=>by
    rw [Tryz.params4] at ht
    have hm:t∈[22,49,3,3]:=by simpa using Array.mem_of_getElem? ht
    have hall:([22,49,3,3].all fun u=>!Tryz.prog.wantsStandIn u)=true:=by kernel_rfl
    exact (show Tryz.prog.wantsStandIn t=false by simpa using List.all_eq_true.1 hall t hm)⟩)
  (by kernel_rfl)
#print axioms SpliceInserts_holds
end Go.Proofs.YtalmjklljofhbaaGreatDoor
