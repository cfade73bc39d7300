/- Texts for SpliceUndoesProof. -/
import Derived.Test.YtalmjklljofhbaaDoorSdAll24
import Derived.Test.YtalmjklljofhbaaDoorSdAll25
import Derived.Test.YtalmjklljofhbaaDoorSdBC1
set_option linter.unusedSimpArgs false
set_option linter.unusedVariables false

namespace Go.Proofs.YtalmjklljofhbaaDoor
open Go.RowKit
def UnCut (R:List Nd) (b:Nat) (w:World) (v:Value) (wx:World):Prop:=∃ frm:Int,v=.int .i64 frm∧(R=[]∨(findN R frm).2=true)∧Exb b w wx
set_option maxRecDepth 100000 in
set_option maxHeartbeats 16000000 in
theorem spliceundoes_walk (a1:Option Addr) (n1 c1:Nat) (l1:List Int) (w:World) (h1:Sl 1 encI w a1 n1 l1) (hc1:n1≤c1) (hm1:c1≤maxLen) (hT:TabG w) (hL:LetG w) :
  Calls Tryd.prog 4 #[.slice a1 n1 c1] w fun e w'=>e=.returned (.bool true)∧Ex w w':=by
 go_enter Tryd.func4,Tryd.ntmps4
 go_wp2_with fail
 refine (new_t _ _ _ l1 _ h1 hc1 hm1).mono ?_
 rintro e w1 ⟨rfl,T,kk,z1⟩
 obtain ⟨b,hb⟩:∃ b,b=w.heap.size:=⟨_,rfl⟩
 rw [← hb] at T ⊢
 have hgt:¬ 1=b:=by have:=hT.lt;omega
 have hgl:¬ 0=b:=by have:=hL.lt;omega
 have T1:Hid (TabG w1):=lH (hT.nx kk)
 have L1:Hid (LetG w1):=lH (hL.nx kk)
 have QL:Hid (Exl b w w1):=lH ⟨kk,by omega⟩
 clear h1 hT hL kk hb z1
 have hbo:=T.lt
 go_wp2_with fail
 refine (some_n 8 _ T L1.out hgl (by omega) (by omega)).mono ?_
 clear T
 rintro e w2 ⟨v1,L,rfl,R0,hL1⟩
 replace T1:=lH (T1.out.nxb hgt R0.k)
 replace L1:=lH (L1.out.nxb hgl R0.k)
 replace QL:=lH (QL.out.nxb R0.k)
 obtain ⟨aX,cX,rfl,SX,hcX,hmX,_⟩:=R0.own.slf (fun _=>rfl)
 have SX:=SX.slb hbo
 have RL:=R0.len
 have RC:=lH R0.ok
 have RN:=lH (roster_ok R0.ok)
 have XW:Hid (∀ x∈L,x.word<4294967296):=lH (fun x hx=>(RN.out x hx).1.2.1)
 have T:=R0.tape
 clear R0
 go_wp2_with fail
 refine (next_t 4 _ T (by omega) (by omega)).mono ?_
 clear T
 rintro e w3 ⟨r,rfl,r0,r1,T,kk⟩
 replace T1:=lH (T1.out.nxb hgt kk)
 replace L1:=lH (L1.out.nxb hgl kk)
 replace QL:=lH (QL.out.nxb kk)
 replace SX:=SX.nxb kk
 clear kk
 obtain ⟨h,rfl⟩:=Int.eq_ofNat_of_zero_le r0
 have hh:h≤16:=by omega
 clear r0 r1
 go_wp2_with fail
 refine (next_t (L.length:Int) _ T (by omega) (by omega)).mono ?_
 clear T
 rintro e w4 ⟨r,rfl,r0,r1,T,kk⟩
 replace T1:=lH (T1.out.nxb hgt kk)
 replace L1:=lH (L1.out.nxb hgl kk)
 replace QL:=lH (QL.out.nxb kk)
 replace SX:=SX.nxb kk
 clear kk
 obtain ⟨m,rfl⟩:=Int.eq_ofNat_of_zero_le r0
 have hm:m<L.length:=by omega
 clear r0 r1
 obtain ⟨x1,o1,x,rfl,hx1,hx,hc⟩:=SX.sl.at hm
 have c0:w4.cell? ⟨x1,o1+m*3,none⟩=some (.int .i64 x.id):=hc 0 _ rfl
 have c1:w4.cell? ⟨x1,o1+m*3+1,none⟩=some (.string x.key):=hc 1 _ rfl
 have c2:w4.cell? ⟨x1,o1+m*3+1+1,none⟩=some (.int .u32 x.word):=by simpa [Nat.add_assoc] using hc 2 _ rfl
 have HXM:=lH (List.mem_of_getElem? hx)
 have hxw:=XW.out x HXM.out
 have hbn:=T.lt
 clear hc hx hx1
 have B6:=Blk.new w4 [.int .i64 x.id,.string x.key,.int .u32 x.word] 38
 have kk:=Ex.new w4 (.cells #[.int .i64 x.id,.string x.key,.int .u32 x.word] 38)
 obtain ⟨w5,hw5⟩:∃ w5,w5=w4.alloc (.cells #[.int .i64 x.id,.string x.key,.int .u32 x.word] 38):=⟨_,rfl⟩
 obtain ⟨g6,hg6⟩:∃ g6,g6=w4.heap.size:=⟨_,rfl⟩
 replace B6:Blk w5 g6 [.int .i64 x.id,.string x.key,.int .u32 x.word] 38:=by rw [hw5,hg6];exact B6
 rw [← hw5] at kk
 have Hw5:=lH hw5
 have Hg6:=lH hg6
 replace T:=T.nx kk
 replace T1:=lH (T1.out.nx kk)
 replace L1:=lH (L1.out.nx kk)
 replace QL:=lH (QL.out.nx kk)
 replace SX:=SX.nxb (kk.b b)
 have hg6b:g6≠b:=by omega
 clear kk hw5 hg6
 go_upto_region 4 with fail
 rw [← Hg6.out,← Hw5.out]
 clear Hg6 Hw5
 clear c0 c1 c2
 have hbq:=T.lt
 have b0:=B6.cell 0 _ rfl
 have kn:=Ex.new w5 (.cells #[.int .i64 x.id] 3)
 have SI:Sl 1 encI (w5.alloc (.cells #[.int .i64 x.id] 3)) (some ⟨w5.heap.size,0,none⟩) 1 [x.id]:=Sl.lit _ rfl rfl (fun _=>rfl) rfl
 have S5:=SX.sl.nx kn
 have hb5:b<(w5.alloc (.cells #[.int .i64 x.id] 3)).heap.size:=Nat.lt_of_lt_of_le hbq kn.size
 go_wp2_with fail
 (with_reducible refine (without_p _ _ _ L _ _ _ [x.id] _ S5 (by omega) SI (by omega)).mono ?_)
 rintro e w6 ⟨v,rfl,own,kk⟩
 have kk:=kn.nx kk
 replace T:=T.nx kk
 replace T1:=lH (T1.out.nx kk)
 replace L1:=lH (L1.out.nx kk)
 replace QL:=lH (QL.out.nx kk)
 replace SX:=SX.nxb (kk.b b)
 replace B6:=B6.nx kk
 rw [with_drop] at own
 have RRC:=lH (drop_check RC.out x.id)
 have RRW:Hid (∀ y∈dropN L x.id,y.word<4294967296):=lH (drop_word XW.out x.id)
 have RIN:=lH (fun (frm:Int) (hf:dropN L x.id=[]∨(findN (dropN L x.id) frm).2=true) (i:Nat) (hi:i≤16)=>ins_ok (frm:=frm) (put_check RC.out HXM.out) hi hf)
 have DL:=drop_len RC.out HXM.out
 have DPB:=lH (fun (i:Int)=>put_build RC.out HXM.out i)
 obtain ⟨R,hR⟩:∃ R,R=dropN L x.id:=⟨_,rfl⟩
 rw [← hR] at own RRC RRW RIN DL DPB
 obtain ⟨aR,cR,rfl,SR,hcR,hmR,_⟩:=own.slf (fun _=>rfl)
 have SR:=SR.slb hb5
 obtain ⟨q,hq⟩:∃ q,q=R.length:=⟨_,rfl⟩
 rw [← hq] at SR hcR DL ⊢
 have HQ:=lH hq
 have HR:=lH hR
 have DLH:=lH DL
 have hq8:q≤10:=by omega
 have hwl:IntKind.i64.wrap ((L.length:Int)-1)=(L.length:Int)-1:=IntWalk.i64_in _ (by omega)
 have hdl:((q:Int) != (L.length:Int)-1)=false:=by rw [bne_eq_false_iff_eq];omega
 clear kk kn SI S5 b0 own hR hq DL hb5 hbq
 have hb6:=T.lt
 go_wp2_with fail
 (with_reducible refine (build_p _ _ _ L (h:Int) _ SX.sl (by omega) hcX hmX XW.out T1.out).mono ?_)
 rintro e w7 ⟨vL,qL,rfl,ownL,kk⟩
 replace T:=T.nx kk
 replace T1:=lH (T1.out.nx kk)
 replace L1:=lH (L1.out.nx kk)
 replace QL:=lH (QL.out.nx kk)
 replace SX:=SX.nxb (kk.b b)
 replace B6:=B6.nx kk
 replace SR:=SR.nxb (kk.b b)
 clear kk
 rw [(build_ok0 RC.out hh).1]
 obtain ⟨LB,hLB⟩:∃ LB,LB=(buildN L (h:Int)).1:=⟨_,rfl⟩
 rw [← hLB] at ownL
 have hb7:=T.lt
 go_wp2_with fail
 (with_reducible refine (build_p _ _ _ R (h:Int) _ SR.sl (by omega) hcR hmR RRW.out T1.out).mono ?_)
 rintro e w8 ⟨vR,qR,rfl,ownR,kk⟩
 replace T:=T.nx kk
 replace T1:=lH (T1.out.nx kk)
 replace L1:=lH (L1.out.nx kk)
 replace QL:=lH (QL.out.nx kk)
 replace SX:=SX.nxb (kk.b b)
 replace B6:=B6.nx kk
 replace SR:=SR.nxb (kk.b b)
 replace ownL:=ownL.nx kk
 clear kk
 rw [(build_ok0 RRC.out hh).1]
 obtain ⟨RB,hRB⟩:∃ RB,RB=(buildN R (h:Int)).1:=⟨_,rfl⟩
 rw [← hRB] at ownR
 have BL:=lH (buildN_small L (h:Int) (by omega))
 have BR:=lH (buildN_small R (h:Int) (by have:=HQ.out;omega))
 rw [← hLB] at BL
 rw [← hRB] at BR
 have HREM:Hid (removeN L LB x.id h=(RB,tieN L x.id (h+1),0)):=lH (by rw [hLB,hRB,HR.out];exact rem_ok RC.out hh HXM.out)
 have HINS:Hid (∀ frm:Int,(R=[]∨(findN R frm).2=true)→insertN R RB x frm h=(LB,(routeN R RB frm x.key).1.length+visS (R++[x]) x h,0)):=lH (fun frm hf=>by have:=RIN.out frm hf h hh;rw [DPB.out,← hLB,← hRB] at this;exact this)
 have HLB:=lH hLB
 have HRB:=lH hRB
 clear hLB hRB
 have b0:=B6.cell 0 _ rfl
 go_upto_if 70 with fail
 clear b0 hwl hdl
 go_cut [12] from 22 to 136 (fun v wx=>UnCut R b w8 v wx)
 case first =>
  by_cases hq0:q=0
  ·have R0:Hid (R=[]):=lH (List.eq_nil_of_length_eq_zero (by rw [← HQ.out];exact hq0))
   have d1:¬ (q:Int)>0:=by omega
   clear hq0
   go_wp2_with fail
   go_meet
   exact ⟨x.id,rfl,.inl R0.out,Exb.refl _ _⟩
  have d1:(q:Int)>0:=by omega
  have hq1:(1:Int)≤(q:Int):=by omega
  clear hq0
  go_wp2_with fail
  refine (next_t (q:Int) _ T hq1 (by omega)).mono ?_
  clear T
  rintro e w9 ⟨r,rfl,r0,r1,T,kk⟩
  replace T1:=lH (T1.out.nxb hgt kk)
  replace L1:=lH (L1.out.nxb hgl kk)
  replace QL:=lH (QL.out.nxb kk)
  replace SX:=SX.nxb kk
  replace B6:=B6.nxb hg6b kk
  replace SR:=SR.nxb kk
  replace ownL:=ownL.nxb hb6 kk
  replace ownR:=ownR.nxb hb7 kk
  obtain ⟨j,rfl⟩:=Int.eq_ofNat_of_zero_le r0
  have hj:j<q:=by omega
  obtain ⟨x2,o2,y,rfl,hx2,hy,hc⟩:=SR.sl.at hj
  have e0:w9.cell? ⟨x2,o2+j*3,none⟩=some (.int .i64 y.id):=hc 0 _ rfl
  have CUT:=lH (show UnCut R b w8 (.int .i64 y.id) w9 from ⟨y.id,rfl,.inr (by rw [find_in RRC.out (List.mem_of_getElem? hy)]),kk⟩)
  clear hc hy hx2 kk r0 r1
  go_wp2_with fail
  go_meet
  exact CUT.out
 case rest =>
  obtain ⟨frm,rfl,hfr,kk⟩:=hcut
  rename World=>w9
  clear T
  replace T1:=lH (T1.out.nxb hgt kk)
  replace L1:=lH (L1.out.nxb hgl kk)
  replace QL:=lH (QL.out.nxb kk)
  replace SX:=SX.nxb kk
  replace B6:=B6.nxb hg6b kk
  replace SR:=SR.nxb kk
  replace ownL:=ownL.nxb hb6 kk
  replace ownR:=ownR.nxb hb7 kk
  clear kk
  have HFR:=lH hfr
  have S:=SX.sl
  have SQ:=SR.sl
  obtain ⟨aL,cL,rfl,LL,_,_,_,_⟩:=OwnN.nl (encA:=encI) (encB:=encS) (s1:=2) (s2:=2) (fun _=>rfl) (fun _=>rfl) ownL
  obtain ⟨aM,cM,rfl,LR,_,_,_,_⟩:=OwnN.nl (encA:=encI) (encB:=encS) (s1:=2) (s2:=2) (fun _=>rfl) (fun _=>rfl) ownR
  have QX:=QL.out.1
  have TG:=T1.out
  clear SX SR ownL ownR QL T1 L1 hfr
  have LL:=lH LL
  have LR:=lH LR
  have BL1:=BL.out.1
  have BR1:=BR.out.1
  have BL2:Hid (∀ c∈LB,c.2.length≤9223372036854775807):=lH (fun c hc=>Nat.le_trans (BL.out.2 c hc) (by omega))
  have BR2:Hid (∀ c∈RB,c.2.length≤9223372036854775807):=lH (fun c hc=>Nat.le_trans (BR.out.2 c hc) (by omega))
  have b0:=B6.cell 0 _ rfl
  go_wp2_with fail
  (with_reducible refine (remove_p _ _ _ L _ _ _ LB x.id (h:Int) _ S (by omega) hcX hmX XW.out TG LL.out (by omega) BL2.out).mono ?_)
  rintro e y1 ⟨v13,q13,rfl,own13,kk⟩
  replace S:=S.nx kk
  replace SQ:=SQ.nx kk
  replace LL:=lH (LL.out.nx kk)
  replace LR:=lH (LR.out.nx kk)
  replace QX:=QX.nx kk
  replace TG:=TG.nx kk
  replace B6:=B6.nx kk
  clear kk
  rw [HREM.out] at own13 ⊢
  clear b0
  obtain ⟨a13,c13,rfl,L13,_,_,_,_⟩:=OwnN.nl (encA:=encI) (encB:=encS) (s1:=2) (s2:=2) (fun _=>rfl) (fun _=>rfl) own13
  have L13:=lH L13
  clear own13
  have b0:=B6.cell 0 _ rfl
  have b1:=B6.cell 1 _ rfl
  have b2:=B6.cell 2 _ rfl
  go_wp2_with fail
  (with_reducible refine (insert_p _ _ _ R _ _ _ RB x frm (h:Int) _ SQ (by omega) hcR hmR RRW.out hxw TG L13.out (by omega) BR2.out).mono ?_)
  rintro e y2 ⟨v16,q16,rfl,own16,kk⟩
  replace S:=S.nx kk
  replace SQ:=SQ.nx kk
  replace LL:=lH (LL.out.nx kk)
  replace LR:=lH (LR.out.nx kk)
  replace QX:=QX.nx kk
  replace TG:=TG.nx kk
  replace B6:=B6.nx kk
  replace L13:=lH (L13.out.nx kk)
  clear kk
  rw [HINS.out frm HFR.out] at own16 ⊢
  clear b0 b1 b2
  obtain ⟨a16,c16,rfl,L16,_,_,_,_⟩:=OwnN.nl (encA:=encI) (encB:=encS) (s1:=2) (s2:=2) (fun _=>rfl) (fun _=>rfl) own16
  have L16:=lH L16
  clear own16
  have b0:=B6.cell 0 _ rfl
  go_wp2_with fail
  (with_reducible refine (remove_p _ _ _ L _ _ _ LB x.id (h:Int) _ S (by omega) hcX hmX XW.out TG L16.out (by omega) BL2.out).mono ?_)
  rintro e y3 ⟨v19,q19,rfl,own19,kk⟩
  replace S:=S.nx kk
  replace SQ:=SQ.nx kk
  replace LL:=lH (LL.out.nx kk)
  replace LR:=lH (LR.out.nx kk)
  replace QX:=QX.nx kk
  replace TG:=TG.nx kk
  replace B6:=B6.nx kk
  replace L13:=lH (L13.out.nx kk)
  replace L16:=lH (L16.out.nx kk)
  clear kk
  rw [HREM.out] at own19 ⊢
  clear b0
  obtain ⟨a19,c19,rfl,L19,_,_,_,_⟩:=OwnN.nl (encA:=encI) (encB:=encS) (s1:=2) (s2:=2) (fun _=>rfl) (fun _=>rfl) own19
  have L19:=lH L19
  clear own19
  go_wp2_with fail
  (with_reducible refine (samelk_g _ _ _ _ _ _ RB RB _ L13.out LR.out (by omega) BR2.out).mono ?_)
  rintro e z0 ⟨rfl,kk⟩
  replace S:=S.nx kk
  replace SQ:=SQ.nx kk
  replace LL:=lH (LL.out.nx kk)
  replace LR:=lH (LR.out.nx kk)
  replace QX:=QX.nx kk
  replace TG:=TG.nx kk
  replace B6:=B6.nx kk
  replace L13:=lH (L13.out.nx kk)
  replace L16:=lH (L16.out.nx kk)
  replace L19:=lH (L19.out.nx kk)
  clear kk
  rw [decide_eq_true (rfl:RB=RB)]
  go_wp2_with fail
  (with_reducible refine (samelk_g _ _ _ _ _ _ LB LB _ L16.out LL.out (by omega) BL2.out).mono ?_)
  rintro e z1 ⟨rfl,kk⟩
  replace S:=S.nx kk
  replace SQ:=SQ.nx kk
  replace LL:=lH (LL.out.nx kk)
  replace LR:=lH (LR.out.nx kk)
  replace QX:=QX.nx kk
  replace TG:=TG.nx kk
  replace B6:=B6.nx kk
  replace L13:=lH (L13.out.nx kk)
  replace L16:=lH (L16.out.nx kk)
  replace L19:=lH (L19.out.nx kk)
  clear kk
  rw [decide_eq_true (rfl:LB=LB)]
  go_wp2_with fail
  (with_reducible refine (samelk_g _ _ _ _ _ _ RB RB _ L19.out LR.out (by omega) BR2.out).mono ?_)
  rintro e z2 ⟨rfl,kk⟩
  replace S:=S.nx kk
  replace SQ:=SQ.nx kk
  replace LL:=lH (LL.out.nx kk)
  replace LR:=lH (LR.out.nx kk)
  replace QX:=QX.nx kk
  replace TG:=TG.nx kk
  replace B6:=B6.nx kk
  replace L13:=lH (L13.out.nx kk)
  replace L16:=lH (L16.out.nx kk)
  replace L19:=lH (L19.out.nx kk)
  clear kk
  rw [decide_eq_true (rfl:RB=RB)]
  go_wp2_with fail
  (with_reducible refine (sane10_x _ TG).mono ?_)
  rintro e z9 ⟨rfl,kk⟩
  replace S:=S.nx kk
  replace SQ:=SQ.nx kk
  replace LL:=lH (LL.out.nx kk)
  replace LR:=lH (LR.out.nx kk)
  replace QX:=QX.nx kk
  replace TG:=TG.nx kk
  replace B6:=B6.nx kk
  replace L13:=lH (L13.out.nx kk)
  replace L16:=lH (L16.out.nx kk)
  replace L19:=lH (L19.out.nx kk)
  clear kk
  go_wp2_with fail
  go_ret
  exact ⟨rfl,QX⟩
end Go.Proofs.YtalmjklljofhbaaDoor
/-
 SpliceUndoes returns true for every list of numbers,and leaves its arguments as they were.
 Condition: the table of math/bits and the letters of the keys are as the program text lays them (tied by the card).
-/
namespace Go.Proofs.YtalmjklljofhbaaDoor
open Go.RowKit
open Go.ChangeShapes Go.WideShapes Go.ChangeAt Go.RowKit Go.Deep Go.Joins
open Go.ChangeMaps (open_string shut_string)
set_option linter.unusedVariables false
theorem Tryd.cellsInt:Tryd.prog.cellsOf 3=1:=by kernel_rfl
set_option maxRecDepth 100000 in
set_option maxHeartbeats 1000000 in
theorem spliceUndoes_lifted (os:Os) (started:os.Started) (H:Type) (enc:TypeId×Value→H) :
  ReturnsInHanded {} Tryd.checked os 4 .any (fun w args=>(Rows.spliceUndoesSpec.pre enc Tryd.prog Tryd.f4 [] false w args∧laidMetH Tryd.prog Rows.spliceUndoesRow.laid w)∧sizedMet enc Tryd.prog Tryd.f4 (OpenSpec.ofChange Rows.spliceUndoesSpec) false w args)
   (Rows.spliceUndoesSpec.post enc Tryd.prog Tryd.f4 false true false false):=by
 refine returnsInHanded_of_change_and (C:=Tryd.checked) (X:=fun w _=>laidMetH Tryd.prog Rows.spliceUndoesRow.laid w) (fun _ _ _ hh h=>h.of_heap hh) own started (by kernel_rfl) Tryd.func4
  (ChangeSpec.witness_shaped (enc:=enc) (C:=Tryd.checked) (os:=os) (X:=fun w _=>laidMetH Tryd.prog Rows.spliceUndoesRow.laid w) false (World.doorLaid Tryd.prog 400 os) #[.slice none 0 0] 8 rfl (World.shaped_of_RefB (by kernel_rfl) (by kernel_rfl)) (by kernel_rfl) (by kernel_rfl) (by kernel_rfl) (laidMetH_of_parts3 (fuel:=8) (laidMet_of_run' 8 (by kernel_rfl) (by kernel_rfl)) (by kernel_rfl) (by kernel_rfl))) ?_
 intro W base args ds gs before hval0 hW _ _ hL _
 have hval:∀ (j:Nat) t v,Tryd.f4.params[j]?=some t→args[j]?=some v→Value.okWide Tryd.prog W .any base t v:=hval0
 have hW':=hW
 obtain ⟨p,q,hA0,hV,rfl,hfz,hnd⟩:=hW
 have hA:DataW.TrodAll enc Tryd.prog W 0 (fun _=>true) true Tryd.f4.params.toList args.toList ds p:=hA0
 rw [Tryd.params4] at hA hval
 obtain ⟨v0,vs0,d0,ds0,p0,q0,hargs,rfl,rfl,h0,r0⟩:=trodAll_cons hA
 obtain ⟨rfl,rfl,rfl⟩:=trodAll_nil r0
 obtain rfl:args=#[v0]:=by cases args;simp_all
 obtain ⟨rfl,rfl⟩:=trodVars_none hV
 have k0:=h0
 have lt0:∀ x∈p0,x.block<W.heap.size:=by obtain ⟨m,hm⟩:=k0;exact DataW.trod_lt m _ _ _ hm
 obtain ⟨A0,n0,cap0,l0,rfl,rd0,hc0,hm0,wf0,nl0⟩:=rd_ints Tryd.underlying22 Tryd.underlying3 Tryd.cellsInt (hval 0 22 v0 rfl rfl) h0
 clear hA0 hval0
 have hT:TabG W:=tabG_of hL (by kernel_rfl)
 have hL2:LetG W:=letG_second hL (by kernel_rfl) (by kernel_rfl)
 refine (spliceundoes_walk A0 n0 cap0 l0 W rd0 hc0 hm0 hT hL2).mono fun e W' ⟨he,hch⟩=>?_
 have bel:Below W.heap.size W W':=hch.below (fun _ h=>h)
 subst he
 exact ⟨_,rfl,_,_,_,[],_,[],hW',trodAll_mk1 (shut_bool Tryd.underlying4 _),(trodAll_cons_mk (Below.trod laidOut (by kernel_rfl) (of_decide_eq_true (by kernel_rfl)) k0 bel lt0) trodAll_mk0),rfl,bel.frame _,fun h=>by cases h⟩
theorem spliceUndoes_over:Rows.spliceUndoesRow.holds Tryd.pinned (OpenSpec.ofChange Rows.spliceUndoesSpec) :=
 OpenClaim.holds_of_wide 4 Tryd.f4 rfl rfl rfl rfl rfl rfl rfl ⟨rfl,rfl,rfl,rfl,rfl⟩ rfl rfl rfl rfl rfl (by kernel_rfl) Tryd.func4 (by kernel_rfl)
  (of_decide_eq_true (by kernel_rfl)) (by unfold Func.isWrapper;first | (rw [if_pos (by decide +kernel)];kernel_rfl) | (rw [if_neg (by decide +kernel)];exact ⟨rfl,rfl⟩))
  (fun os started H enc _=>spliceUndoes_lifted os started H enc)
theorem SpliceUndoes_holds:Rows.SpliceUndoesCardSaid :=
 Claim7.holds_tied_plain_at .later [] [.data, .data] true (true, "517cf27bafc81ed1b48e12ec04a420ffb21250635aea1422c02147852fa62a79") false
  spliceUndoes_over (fun _ h=>by cases h) (by kernel_rfl) (fun _ h=>by cases h) spliceUndoes_row_tie rfl ⟨rfl,rfl⟩ (by kernel_rfl) rfl
  (fun f fn hf hfn=>by
   obtain rfl : f = 4 := Option.some.inj ((show Tryd.prog.funcNamed "skipgraph/skipgraphlaw10.SpliceUndoes" = some 4 by kernel_rfl).symm.trans hf) |>.symm
   obtain rfl:fn=Tryd.f4:=(Option.some.inj (Tryd.func4.symm.trans hfn)).symm
   exact ⟨by kernel_rfl,fun j t ht=>by
    rw [Tryd.params4] at ht
    have hm:t∈[22]:=by simpa using Array.mem_of_getElem? ht
    have hall:([22].all fun u=>!Tryd.prog.wantsStandIn u)=true:=by kernel_rfl
    exact (show Tryd.prog.wantsStandIn t=false by simpa using List.all_eq_true.1 hall t hm)⟩)
  (by kernel_rfl)
#print axioms SpliceUndoes_holds
end Go.Proofs.YtalmjklljofhbaaDoor
