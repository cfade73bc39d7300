/- Texts for TopSearchProof. -/
import Derived.Test.YthcholmhmcpooaaGreatDoorWAll30
import Derived.Test.YthcholmhmcpooaaGreatDoorWAll31
import Derived.Test.YthcholmhmcpooaaGreatDoorTopSearchProofL1
set_option linter.unusedSimpArgs false
set_option linter.unusedVariables false

namespace Go.Proofs.YthcholmhmcpooaaGreatDoor
open Go.RowKit
theorem height_leT (l:List Nd):heightN l≤16:=by
 unfold heightN
 split
 ·omega
 ·cases h:(List.range 16).find? fun h=>!decide ((classesN (sortN l) (h:Nat)).length<l.length) with
  | none=>simp
  | some k =>
   have:=List.mem_of_find?_eq_some h
   simp at this
   simp;omega
def TsRel (n:Nat) (w:World) (i:Value) (wr:World):Prop:=∃ k:Nat,k≤n∧i=.int .i64 k∧Ex w wr
theorem rgQ {w w':World} (h:Ex w.drew w'):Ex w w':=(Ex.refl w).drew.nx h
set_option maxRecDepth 100000 in
set_option maxHeartbeats 16000000 in
theorem topsearch_walk (a1:Option Addr) (n1 c1:Nat) (l1:List Int) (s:ByteArray) (w:World) (h1:Sl 1 encI w a1 n1 l1) (hc1:n1≤c1) (hm1:c1≤maxLen) (hT:TabG w) (hL:LetG w) :
  Calls Tryz.prog 3 #[.slice a1 n1 c1,.string s] w fun e w'=>e=.returned (.bool true)∧Ex w w':=by
 go_enter Tryz.func3,Tryz.ntmps3
 go_wp2_with fail
 refine (new_t _ _ _ l1 _ h1 hc1 hm1).mono ?_
 rintro e w1 ⟨rfl,T,kk,z1⟩
 obtain ⟨b,hb⟩:∃ b,b=w.heap.size:=⟨_,rfl⟩
 rw [← hb] at T ⊢
 have hgt:¬ 1=b:=by have:=hT.lt;omega
 have hgl:¬ 0=b:=by have:=hL.lt;omega
 have T1:Hid (TabG w1):=lH (hT.nx kk)
 have L1:Hid (LetG w1):=lH (hL.nx kk)
 have QL:Hid (Exl b w w1):=lH ⟨kk,by omega⟩
 clear h1 hT hL kk hb z1
 have hbo:=T.lt
 go_wp2_with fail
 refine (some_n 8 _ T L1.out hgl (by omega) (by omega)).mono ?_
 clear T
 rintro e x1 ⟨v1,L,rfl,R,hL1⟩
 have kw:=R.k
 have T:=R.tape
 obtain ⟨aX,cX,rfl,SX,hcX,hmX,_⟩:=R.own.slf (fun _=>rfl)
 have SX:=SX.slb hbo
 have RL:=R.len
 have H0:=lH R.ok
 have HW:Hid (∀ x∈L,x.word<4294967296):=lH (fun x hx=>by have:=R.word x hx;omega)
 have hb1:=T.lt
 have HS:=lH (fun wq (kq:Exb b x1 wq)=>SX.nxb kq)
 have KW:=lH kw
 have TH:=lH T
 have K:=lH (Ex.refl x1)
 clear R SX kw T
 go_wp2_with fail
 (with_reducible refine (height_p _ _ _ L _ (HS.out _ (K.out.b b)).sl (by omega) hcX hmX HW.out (T1.out.nxb hgt (KW.out.nxb (K.out.b b)))).mono ?_)
 rintro e x2 ⟨rfl,kk⟩
 replace K:=lH (K.out.nx kk)
 obtain ⟨hh,hhe⟩:∃ hh,hh=heightN L:=⟨_,rfl⟩
 rw [← hhe]
 have hh16:hh≤16:=by rw [hhe];exact height_leT L
 have HH:Hid (heightN L≤hh):=lH (by omega)
 clear kk hhe
 go_wp2_with fail
 (with_reducible refine (sort_p _ _ _ L _ (HS.out _ (K.out.b b)).sl (by omega)).mono ?_)
 rintro e x3 ⟨v,S',rfl,OS,⟨hp,hsrt⟩,kk⟩
 have hSe:S'=sortN L:=sortN_unique (check_keys H0.out) hp hsrt
 subst hSe
 obtain ⟨aS,cS,rfl,r5,hcS,hmS⟩:=OS.sl3 (fun _=>rfl)
 have hSl:(sortN L).length=L.length:=sortN_length L
 rw [hSl] at r5 hcS ⊢
 replace K:=lH (K.out.nx kk)
 have R5:=lH r5
 clear OS hp hsrt r5 kk hSl
 go_wp2_with fail
 (with_reducible refine (load_p _ _ _ L hh _ R5.out (by omega) hcS hmS H0.out hh16 HW.out).mono ?_)
 rintro e x4 ⟨v,qs,cnt,rfl,own,kk⟩
 have z13:=K.out.size
 replace K:=lH (K.out.nx kk)
 obtain ⟨LR,hLR⟩:∃ LR,LR=(buildN L (hh:Int)).1:=⟨_,rfl⟩
 rw [← hLR] at own
 have BSR:Hid (∀ c∈LR,c.2.length≤17):=lH (by rw [hLR];exact (buildN_small L (hh:Int) (by omega)).2)
 have BLR:LR.length≤1000:=by rw [hLR];exact (buildN_small L (hh:Int) (by omega)).1
 have HLR:=lH hLR
 obtain ⟨aL,cL,rfl,LL⟩:=own.nlb (b:=b) (by have h5:=TH.out.lt;omega)
 have LLH:=lH LL
 have T4:=lH (TH.out.nx K.out)
 clear own LL kk hLR
 go_wp2_with fail
 refine (key_t _ T4.out (L1.out.nxb hgl (KW.out.nxb (K.out.b b))) hgl).mono ?_
 rintro e x5 ⟨q,rfl,hq,T5,kk⟩
 have TK5:=lH T5
 have KX:=lH ((K.out.b b).nxb kk)
 have LL5:=lH (fun wq (kq:Exb b x5 wq)=>LLH.out wq (kk.nxb kq))
 clear T5 kk T4 K LLH
 go_wp2_with fail
 go_loopw [12] (fun i wr=>TsRel L.length x5 i wr) (fun i _=>L.length-(intOf i).toNat)
 case atStart=>exact ⟨0,by omega,rfl,Ex.refl _⟩
 case round =>
  obtain ⟨i,hi,rfl,kw⟩:=hrel
  obtain ⟨wi,rfl⟩:∃ wi:World,wi=wr:=⟨_,rfl⟩
  have N1:=lH kw
  clear kw
  by_cases hil:i<L.length
  ·obtain ⟨xo,oo,y,rfl,hxo,hy,hcc⟩:=(HS.out _ (KX.out.nxb (N1.out.b b))).sl.at hil
   have e0:wi.cell? ⟨xo,oo+i*3,none⟩=some (.int .i64 y.id):=hcc 0 _ rfl
   have HYM:=lH (List.mem_of_getElem? hy)
   clear hcc hy
   go_wp2_with fail
   (with_reducible refine (route_p _ _ _ L _ _ _ LR y.id q _ (HS.out _ (KX.out.nxb (N1.out.b b))).sl (by omega) hcX hmX (LL5.out _ (N1.out.b b)) (by omega) (fun c hc=>Nat.le_trans (BSR.out c hc) (by omega))).mono ?_)
   rintro e y1 ⟨v2,rfl,own,kk⟩
   have N2:=lH (N1.out.nx kk)
   obtain ⟨aH,cH,rfl,H,_,_,_⟩:=own.slf (fun _=>rfl)
   have H:=H.sl
   have HE:=end_law (L:=(buildN L (hh:Int)).1) H0.out HYM.out hq (by rw [(build_top H0.out hh16 HYM.out).1];omega) (fun x hx=>(build_top H0.out hh16 hx).2 0 (by omega))
   have HB:=ends_law H0.out HW.out hh16 HH.out HYM.out hq
   rw [← HLR.out] at HE HB
   obtain ⟨RT,hRT⟩:∃ RT,RT=routeN L LR y.id q:=⟨_,rfl⟩
   rw [← hRT] at H HE HB ⊢
   have hRl:=route_small L LR y.id q
   rw [← hRT] at hRl
   obtain ⟨g1,g2,g3⟩:=HE
   rw [g1]
   obtain ⟨en,hen⟩:∃ en,en=(ownN L q).1.id:=⟨_,rfl⟩
   rw [← hen] at g2
   have G2:=lH g2
   have HEN:=lH hen
   have HH1:=lH H
   have hbl:=bound_le H0.out HYM.out
   have HB2:¬ boundN L y.id<RT.1.length:=by omega
   clear own kk e0 H g1 g2 g3 hen HB hRT
   go_wp2_with fail
   (with_reducible refine (end_p y.id _ _ _ RT.1 _ HH1.out (by omega)).mono ?_)
   rintro e y2 ⟨rfl,kk⟩
   rw [G2.out]
   have N3:=lH (N2.out.nx kk)
   clear kk
   go_wp2_with fail
   (with_reducible refine (bound_p _ _ _ L y.id _ (HS.out _ (KX.out.nxb (N3.out.b b))).sl (by omega) hcX hmX HW.out (T1.out.nxb hgt (KW.out.nxb (KX.out.nxb (N3.out.b b))))).mono ?_)
   rintro e y3 ⟨rfl,kk⟩
   have N4:=lH (N3.out.nx kk)
   clear kk
   go_wp2_with fail
   go_loopw [17] (fun i wr=>TsRel L.length y3 i wr) (fun i _=>L.length-(intOf i).toNat)
   case atStart=>exact ⟨0,by omega,rfl,Ex.refl _⟩
   case round =>
    obtain ⟨j,hj,rfl,kv⟩:=hrel
    obtain ⟨wj,rfl⟩:∃ wj:World,wj=wr:=⟨_,rfl⟩
    have M1:=lH kv
    have N5:=lH (N4.out.nx kv)
    clear kv
    by_cases hjl:j<L.length
    ·obtain ⟨xp,op,z,hxe,hxp,hz,hcz⟩:=(HS.out _ (KX.out.nxb (N5.out.b b))).sl.at hjl
     cases hxe
     have e0:wj.cell? ⟨xo,oo+j*3,none⟩=some (.int .i64 z.id):=hcz 0 _ rfl
     have hzm:z∈sortN L:=(sortN_perm L).symm.subset (List.mem_of_getElem? hz)
     obtain ⟨p,hp⟩:=List.mem_iff_getElem?.1 hzm
     have HPO:=has_own H0.out hp hq
     rw [← HEN.out,← has_val hp q] at HPO
     obtain ⟨bz,hbz⟩:∃ bz,bz=decide (z.id=en):=⟨_,rfl⟩
     rw [← hbz] at HPO
     have hbe:(z.id==en)=bz:=by rw [hbz];by_cases h:z.id=en<;>simp [h]
     have HP:=lH hp
     have HPOH:=lH HPO
     have HXP:=lH hxp
     clear hcz hz hzm hp HPO hbz
     go_wp2_with fail
     (with_reducible refine (interval_p _ _ _ L z p _ (HS.out _ (KX.out.nxb (N5.out.b b))).sl (by omega) hcX hmX H0.out HP.out).mono ?_)
     rintro e u1 ⟨rfl,kk⟩
     obtain ⟨lo,hlo⟩:∃ lo,lo=loI (sortN L) p:=⟨_,rfl⟩
     obtain ⟨⟨hi,top⟩,hhi⟩:∃ h,h=hiI (sortN L) p:=⟨_,rfl⟩
     rw [← hlo,← hhi] at HPOH ⊢
     simp only at HPOH ⊢
     have e0':u1.cell? ⟨xo,oo+j*3,none⟩=some (.int .i64 z.id):=kk.cellv e0 HXP.out
     have hxo1:xo<u1.heap.size:=Nat.lt_of_lt_of_le HXP.out kk.size
     clear e0 hlo hhi
     have K1:=kk
     have B18:=Blk.new u1 [.string lo,.bool false,.string hi,.bool top] 45
     have kk:=Ex.new u1 (.cells #[.string lo,.bool false,.string hi,.bool top] 45)
     obtain ⟨u2,hu2⟩:∃ u2,u2=u1.alloc (.cells #[.string lo,.bool false,.string hi,.bool top] 45):=⟨_,rfl⟩
     obtain ⟨g18,hg18⟩:∃ g18,g18=u1.heap.size:=⟨_,rfl⟩
     replace B18:Blk u2 g18 [.string lo,.bool false,.string hi,.bool top] 45:=by rw [hu2,hg18];exact B18
     rw [← hu2] at kk
     have Hu2:=lH hu2
     have Hg18:=lH hg18
     have E0:=lH (fun wq (kq:Ex u2 wq)=>(kk.nx kq).cellv e0' hxo1)
     have M2:=lH ((M1.out.nx K1).nx kk)
     have B18H:=lH B18
     clear kk hu2 hg18 B18 K1 e0' hxo1
     go_upto_region 18 with fail
     rw [← Hg18.out,← Hu2.out]
     clear Hg18 Hu2
     refine wp_region_held_drew (S:=Ex u2.drew) (by kernel_rfl) (Ex.refl _) (fun hHeld=>?_)
     refine tkH 0 (v:=?_) rfl (by kernel_rfl) (fun _ _ _ h=>h) (by rfl) ?hyr1x0 (by assumption) ?restr1x0
     case hyr1x0=>intro wq hSw;(go_simp);(try with_reducible rfl)
     try simp only [Act.put,sA,sB,sC]
     refine tkH 1 (v:=?_) rfl (by kernel_rfl) (fun _ _ _ h=>h) (by rfl) ?hyr1x1 (by assumption) ?restr1x1
     case hyr1x1=>intro wq hSw;(go_simp);(try with_reducible rfl)
     try simp only [Act.put,sA,sB,sC]
     refine tkH 2 (v:=?_) rfl (by kernel_rfl) (fun _ _ _ h=>h) (by rfl) ?hyr1x2 (by assumption) ?restr1x2
     case hyr1x2=>intro wq hSw;(go_simp);(try with_reducible rfl)
     try simp only [Act.put,sA,sB,sC]
     refine tkH 3 (v:=?_) rfl (by kernel_rfl) (fun _ _ _ h=>h) (by rfl) ?hyr1x3 (by assumption) ?restr1x3
     case hyr1x3=>intro wq hSw;(have c0:=(B18H.out.nx (rgQ hSw)).cell 0 _ rfl;have c1:=(B18H.out.nx (rgQ hSw)).cell 1 _ rfl;have c2:=(B18H.out.nx (rgQ hSw)).cell 2 _ rfl;have c3:=(B18H.out.nx (rgQ hSw)).cell 3 _ rfl;go_simp);(try with_reducible rfl)
     try simp only [Act.put,sA,sB,sC]
     refine tkH 4 (v:=?_) rfl (by kernel_rfl) (fun _ _ _ h=>h) (by rfl) ?hyr1x4 (by assumption) ?restr1x4
     case hyr1x4=>intro wq hSw;(go_simp);(try with_reducible rfl)
     try simp only [Act.put,sA,sB,sC]
     refine tkH 6 (v:=?_) rfl (by kernel_rfl) (fun _ _ _ h=>h) (by rfl) ?hyr1x6 (by assumption) ?restr1x6
     case hyr1x6=>intro wq hSw;(go_simp);(try with_reducible rfl)
     try simp only [Act.put,sA,sB,sC]
     refine tkH 7 (v:=?_) rfl (by kernel_rfl) (fun _ _ _ h=>h) (by rfl) ?hyr1x7 (by assumption) ?restr1x7
     case hyr1x7=>intro wq hSw;(go_simp);(try with_reducible rfl)
     try simp only [Act.put,sA,sB,sC]
     refine tkH 8 (v:=?_) rfl (by kernel_rfl) (fun _ _ _ h=>h) (by rfl) ?hyr1x8 (by assumption) ?restr1x8
     case hyr1x8=>intro wq hSw;(go_simp);(try with_reducible rfl)
     try simp only [Act.put,sA,sB,sC]
     refine tkH 9 (v:=?_) rfl (by kernel_rfl) (fun _ _ _ h=>h) (by rfl) ?hyr1x9 (by assumption) ?restr1x9
     case hyr1x9=>intro wq hSw;(go_simp);(try with_reducible rfl)
     try simp only [Act.put,sA,sB,sC]
     refine tkH 10 (v:=?_) rfl (by kernel_rfl) (fun _ _ _ h=>h) (by rfl) ?hyr1x10 (by assumption) ?restr1x10
     case hyr1x10=>intro wq hSw;(have cq:=E0.out _ (rgQ hSw);go_simp);(try with_reducible rfl)
     try simp only [Act.put,sA,sB,sC]
     refine tkH 11 (v:=?_) rfl (by kernel_rfl) (fun _ _ _ h=>h) (by rfl) ?hyr1x11 (by assumption) ?restr1x11
     case hyr1x11=>intro wq hSw;(go_simp);(try with_reducible rfl)
     try simp only [Act.put,sA,sB,sC]
     refine tkH 12 (v:=?_) rfl (by kernel_rfl) (fun _ _ _ h=>h) (by rfl) ?hyr1x12 (by assumption) ?restr1x12
     case hyr1x12=>intro wq hSw;(go_simp);(try with_reducible rfl)
     try simp only [Act.put,sA,sB,sC]
     refine rH 5 (by kernel_rfl) rfl fun K hK=>?_
     go_simp
     (with_reducible refine (contains_p lo hi q top _).mono ?_)
     rintro e u3 ⟨rfl,k4⟩
     replace k4:Ex u2.drew u3:=k4
     rw [HPOH.out]
     refine hK.out _ _ k4 (fun _=>?_)
     clear hK K
     try simp only [Act.put,sA,sB,sC]
     refine wpAnyH_switch (S':=Ex u3) (fun _ hSw=>Ex.nx k4 hSw) ?_
     clear hHeld
     have hHeld:=Ex.refl u3
     refine tkH 13 (v:=?_) rfl (by kernel_rfl) (fun _ _ _ h=>h) (by rfl) ?hyr1x13 (by assumption) ?restr1x13
     case hyr1x13=>intro wq hSw;(go_simp);(try with_reducible rfl)
     try simp only [Act.put,sA,sB,sC]
     refine tkH 14 (v:=?_) rfl (by kernel_rfl) (fun _ _ _ h=>h) (by rfl) ?hyr1x14 (by assumption) ?restr1x14
     case hyr1x14=>intro wq hSw;(go_simp);(try with_reducible rfl)
     try simp only [Act.put,sA,sB,sC]
     refine wpAnyH_done (by kernel_rfl) ?_ _
     have RR:=lH (show TsRel L.length y3 (.int .i64 ((j:Int)+1)) u3 from ⟨j+1,by omega,by go_num,M2.out.nx ((Ex.refl u2).drew.nx k4)⟩)
     clear k4
     go_wp2_with fail
     exact ⟨RR.out,by simp [intOf];omega⟩
    ·obtain rfl:j=L.length:=by omega
     have RR:=lH (show TsRel L.length x5 (.int .i64 ((i:Int)+1)) wj from ⟨i+1,by omega,by go_num,N5.out⟩)
     clear hj hjl
     go_wp2_with fail
     exact ⟨RR.out,by simp [intOf];omega⟩
  ·obtain rfl:i=L.length:=by omega
   have T6:=lH (TK5.out.nx N1.out)
   have KX6:=lH (KX.out.nxb (N1.out.b b))
   clear hi hil
   go_wp2_with fail
   (with_reducible refine (reaches_t aX L.length cX L aL LR.length cL LR hh s _ T6.out (HS.out _ KX6.out) (by omega) hcX hmX H0.out hh16 HLR.out (fun wq kq=>LL5.out wq ((N1.out.b b).nxb kq)) (by omega) (L1.out.nxb hgl (KW.out.nxb KX6.out)) hgl).mono ?_)
   rintro e y4 ⟨rfl,_,kk⟩
   replace KX6:=lH (KX6.out.nxb kk)
   clear kk
   go_wp2_with fail
   (with_reducible refine (saneT_x _ (T1.out.nxb hgt (KW.out.nxb KX6.out))).mono ?_)
   rintro e y5 ⟨rfl,kk⟩
   have QX:=lH ((QL.out.nxb (KW.out.nxb KX6.out)).1.nx kk)
   clear kk
   go_wp2_with fail
   go_ret
   exact ⟨rfl,QX.out⟩
end Go.Proofs.YthcholmhmcpooaaGreatDoor
/-
 TopSearch returns true for every list of numbers and every key,and leaves its arguments as they were.
 Condition: the table of math/bits and the letters of the keys are as the program text lays them (tied by the card).
-/
namespace Go.Proofs.YthcholmhmcpooaaGreatDoor
open Go.RowKit
open Go.ChangeShapes Go.WideShapes Go.ChangeAt Go.RowKit Go.Deep Go.Joins
open Go.ChangeMaps (open_string shut_string)
set_option linter.unusedVariables false
theorem Tryz.cellsInt:Tryz.prog.cellsOf 3=1:=by kernel_rfl
set_option maxRecDepth 100000 in
set_option maxHeartbeats 1000000 in
theorem topSearch_lifted (os:Os) (started:os.Started) (H:Type) (enc:TypeId×Value→H) :
  ReturnsInHanded {} Tryz.checked os 3 .any (fun w args=>(Rows.topSearchSpec.pre enc Tryz.prog Tryz.f3 [] false w args∧laidMetH Tryz.prog Rows.topSearchRow.laid w)∧sizedMet enc Tryz.prog Tryz.f3 (OpenSpec.ofChange Rows.topSearchSpec) false w args)
   (Rows.topSearchSpec.post enc Tryz.prog Tryz.f3 false true false false):=by
 refine returnsInHanded_of_change_and (C:=Tryz.checked) (X:=fun w _=>laidMetH Tryz.prog Rows.topSearchRow.laid w) (fun _ _ _ hh h=>h.of_heap hh) own started (by kernel_rfl) Tryz.func3
  (ChangeSpec.witness_shaped (enc:=enc) (C:=Tryz.checked) (os:=os) (X:=fun w _=>laidMetH Tryz.prog Rows.topSearchRow.laid w) false (World.doorLaid Tryz.prog 400 os) #[.slice none 0 0,.string ByteArray.empty] 8 rfl (World.shaped_of_RefB (by kernel_rfl) (by kernel_rfl)) (by kernel_rfl) (by kernel_rfl) (by kernel_rfl) (laidMetH_of_parts3 (fuel:=8) (laidMet_of_run' 8 (by kernel_rfl) (by kernel_rfl)) (by kernel_rfl) (by kernel_rfl))) ?_
 intro W base args ds gs before hval0 hW _ _ hL _
 have hval:∀ (j:Nat) t v,Tryz.f3.params[j]?=some t→args[j]?=some v→Value.okWide Tryz.prog W .any base t v:=hval0
 have hW':=hW
 obtain ⟨p,q,hA0,hV,rfl,hfz,hnd⟩:=hW
 have hA:DataW.TrodAll enc Tryz.prog W 0 (fun _=>true) true Tryz.f3.params.toList args.toList ds p:=hA0
 rw [Tryz.params3] at hA hval
 obtain ⟨v0,vs0,d0,ds0,p0,q0,hargs,rfl,rfl,h0,r0⟩:=trodAll_cons hA
 obtain ⟨v1,vs1,d1,ds1,p1,q1,rfl,rfl,rfl,h1,r1⟩:=trodAll_cons r0
 obtain ⟨rfl,rfl,rfl⟩:=trodAll_nil r1
 obtain rfl:args=#[v0,v1]:=by cases args;simp_all
 obtain ⟨rfl,rfl⟩:=trodVars_none hV
 have k0:=h0
 have lt0:∀ x∈p0,x.block<W.heap.size:=by obtain ⟨m,hm⟩:=k0;exact DataW.trod_lt m _ _ _ hm
 have k1:=h1
 have lt1:∀ x∈p1,x.block<W.heap.size:=by obtain ⟨m,hm⟩:=k1;exact DataW.trod_lt m _ _ _ hm
 obtain ⟨A0,n0,cap0,l0,rfl,rd0,hc0,hm0,wf0,nl0⟩:=rd_ints Tryz.underlying22 Tryz.underlying3 Tryz.cellsInt (hval 0 22 v0 rfl rfl) h0
 obtain ⟨s1,rfl,rfl,rfl,hs1⟩:=open_string Tryz.underlying9 (hval 1 9 v1 rfl rfl) h1
 clear hA0 hval0
 have hT:TabG W:=tabG_of hL (by kernel_rfl)
 have hL2:LetG W:=letG_second hL (by kernel_rfl) (by kernel_rfl)
 refine (topsearch_walk A0 n0 cap0 l0 s1 W rd0 hc0 hm0 hT hL2).mono fun e W' ⟨he,hch⟩=>?_
 have bel:Below W.heap.size W W':=hch.below (fun _ h=>h)
 subst he
 exact ⟨_,rfl,_,_,_,[],_,[],hW',trodAll_mk1 (shut_bool Tryz.underlying4 _),(trodAll_cons_mk (Below.trod laidOut (by kernel_rfl) (of_decide_eq_true (by kernel_rfl)) k0 bel lt0) (trodAll_cons_mk (Below.trod laidOut (by kernel_rfl) (of_decide_eq_true (by kernel_rfl)) k1 bel lt1) trodAll_mk0)),rfl,bel.frame _,fun h=>by cases h⟩
theorem topSearch_over:Rows.topSearchRow.holds Tryz.pinned (OpenSpec.ofChange Rows.topSearchSpec) :=
 OpenClaim.holds_of_wide 3 Tryz.f3 rfl rfl rfl rfl rfl rfl rfl ⟨rfl,rfl,rfl,rfl,rfl⟩ rfl rfl rfl rfl rfl (by kernel_rfl) Tryz.func3 (by kernel_rfl)
  (of_decide_eq_true (by kernel_rfl)) (by unfold Func.isWrapper;first | (rw [if_pos (by decide +kernel)];kernel_rfl) | (rw [if_neg (by decide +kernel)];exact ⟨rfl,rfl⟩))
  (fun os started H enc _=>topSearch_lifted os started H enc)
theorem TopSearch_holds:Rows.TopSearchCardSaid :=
 Claim7.holds_tied_plain_at .later [] [.data, .data] true (true, "bea4d03cc20eaf986630eb777e7bfa9e7601f9278fe4c67cc1bf42749c60bd93") false
  topSearch_over (fun _ h=>by cases h) (by kernel_rfl) (fun _ h=>by cases h) topSearch_row_tie rfl ⟨rfl,rfl⟩ (by kernel_rfl) rfl
  (fun f fn hf hfn=>by
   obtain rfl : f = 3 := Option.some.inj ((show Tryz.prog.funcNamed "skipgraph/skipgraphtop.TopSearch" = some 3 by kernel_rfl).symm.trans hf) |>.symm
   obtain rfl:fn=Tryz.f3:=(Option.some.inj (Tryz.func3.symm.trans hfn)).symm
   exact ⟨by kernel_rfl,fun j t ht=>by
    rw [Tryz.params3] at ht
    have hm:t∈[22,9]:=by simpa using Array.mem_of_getElem? ht
    have hall:([22,9].all fun u=>!Tryz.prog.wantsStandIn u)=true:=by kernel_rfl
    exact (show Tryz.prog.wantsStandIn t=false by simpa using List.all_eq_true.1 hall t hm)⟩)
  (by kernel_rfl)
#print axioms TopSearch_holds
end Go.Proofs.YthcholmhmcpooaaGreatDoor
