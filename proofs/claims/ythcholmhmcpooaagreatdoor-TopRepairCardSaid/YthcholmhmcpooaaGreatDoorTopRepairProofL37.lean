/- Texts for TopRepairProof. -/
import Derived.Test.YthcholmhmcpooaaGreatDoorTopRepairProofL36
set_option linter.unusedSimpArgs false
set_option linter.unusedVariables false

namespace Go.Proofs.YthcholmhmcpooaaGreatDoor
open Go.RowKit
theorem own_over {w:World} {g base M1:Nat} {cur:Array Value} {R:List (Int×Int)} (hb:base≤g) (hB:w.heap[g]?=some (.cells cur 128 (0,0))) (hc:cur.size=M1*2) (hR:R.length=M1) (hM:M1≤17) :
  OwnL 2 encS 128 base (w.setCells g 0 (R.flatMap encS)) (.slice (some ⟨g,0,none⟩) M1 M1) R∧Exb g w (w.setCells g 0 (R.flatMap encS)):=by
 have hf:(R.flatMap encS).length=R.length*2:=flatN_len (enc:=encS) (sz:=2) (fun _=>rfl) R
 have hh:=heap_setCells (R.flatMap encS) w cur 0 hB
 have hl:(arrSet cur 0 (R.flatMap encS)).toList=R.flatMap encS:=by
  rw [arrSet_list _ _ _ (by omega)]
  have:cur.toList.drop (0+(R.flatMap encS).length)=[]:=List.drop_eq_nil_of_le (by rw [Array.length_toList];omega)
  rw [this]
  simp
 refine ⟨⟨hf,.inr ⟨g,M1,_,by rw [hR],hb,hh,by omega,by unfold maxLen;omega,by rw [arrSet_size];omega,?_⟩⟩,chg_cells (fun x hx=>hx.2) _ _ 0 (Exb.refl g w)⟩
 rw [hl]
 exact List.take_of_length_le (by omega)
theorem run_over {w:World} {g base M1:Nat} {l0 R:List (Int×Int)} {a:Option Addr} {c:Nat} (IN:OwnL 2 encS 128 base w (.slice (some ⟨g,0,none⟩) M1 M1) l0) (hR:R.length=M1) (h1:1≤M1) (hS:Sl 2 encS w a R.length R) (ty:TypeId) :
  (Builtin.copy_ #[119,119] ty #[.slice (some ⟨g,0,none⟩) M1 M1,.slice a R.length c]).run Tryz.prog w=.ok (goInt M1) (w.setCells g 0 (R.flatMap encS)):=by
 have hf:(R.flatMap encS).length=R.length*2:=flatN_len (enc:=encS) (sz:=2) (fun _=>rfl) R
 obtain ⟨x,o,rfl⟩:∃ x o,a=some ⟨x,o,none⟩:=by
  rcases hS.2 with h0 | ⟨x,o,e,_⟩
  ·omega
  ·exact ⟨x,o,e⟩
 refine run_copy_cells2 w _ _ ty 128 g 0 M1 M1 ⟨x,o,none⟩ R.length c (R.flatMap encS) Tryz.underlying119 (by kernel_rfl) M1 (by rw [hR];exact (Nat.min_self M1).symm) (by omega) (fun j v hj=>?_) (fun j hj=>?_) (fun j hj=>?_) (fun v hv=>?_)
 ·have hjl:j<(R.flatMap encS).length:=(List.getElem?_eq_some_iff.1 hj).1
  have hk:j / 2<R.length:=by omega
  obtain ⟨x1,o1,y,e,_,hy,hcell⟩:=hS.at hk
  cases e
  have he:j / 2*2+j % 2=j:=by omega
  have hu:(encS y)[j % 2]?=some v:=by
   rcases Nat.mod_two_eq_zero_or_one j with h | h
   ·have hd:=flat_at (enc:=encS) (sz:=2) (fun _=>rfl) R (j / 2) y hy 0 (.int .i64 y.1) rfl
    rw [h] at he ⊢
    rw [he,hj] at hd
    cases hd
    rfl
   ·have hd:=flat_at (enc:=encS) (sz:=2) (fun _=>rfl) R (j / 2) y hy 1 (.int .i64 y.2) rfl
    rw [h] at he ⊢
    rw [he,hj] at hd
    cases hd
    rfl
  have:=hcell (j % 2) v hu
  rw [Nat.add_assoc,he] at this
  rw [show (⟨x,o,none⟩:Addr).add j=⟨x,o+j,none⟩ from by unfold Addr.add;split<;>simp_all]
  exact this
 ·simp only [Nat.zero_add]
  exact (OwnL.cellC IN (by omega)).1
 ·simp only [Nat.zero_add]
  exact (OwnL.cellC IN (by omega)).2
 ·obtain ⟨q,_,hq⟩:=List.mem_flatMap.1 hv
  revert hq
  simp only [encS,List.mem_cons,List.not_mem_nil,or_false]
  rintro (rfl | rfl)<;>rfl
theorem proper_i (a:Option Addr) (n c:Nat) (N:List Nd) (m:Int) (w:World) (h:Sl 3 encN w a n N) (hn:n≤1000000) (hc:n≤c) (hm:c≤maxLen) (h0:checkN N=0) (hm0:0≤m) (hm16:m≤16) :
  Calls Tryz.prog 164 #[.slice a n c,.int .i64 m] w fun e w'=>e=.returned (.bool true)∧Ex w w':=by
 have C0:=lH h0
 clear h0
 go_enter Tryz.func164,Tryz.ntmps164
 go_wp2_with fail
 (with_reducible refine (check_p _ _ _ N _ h hn hc hm).mono ?_)
 rintro e w1 ⟨rfl,kk⟩
 rw [C0.out]
 have g0:m ≥ 0:=hm0
 have K:=lH kk
 clear kk h hm0
 go_wp2_with fail
 go_ret
 exact ⟨rfl,K.out⟩
def NormRel (L:List Lkd) (n:Nat) (w:World) (o i:Value) (wr:World):Prop :=
 ∃ (k:Nat) (qs:List (Int×Hdr)),k≤n∧i=.int .i64 k∧OwnLk w.heap.size wr o qs (L.take k)∧Ex w wr
set_option maxRecDepth 100000 in
set_option maxHeartbeats 4000000 in
theorem normal_i (a:Option Addr) (n c:Nat) (N:List Nd) (a2:Option Addr) (n2 c2:Nat) (L:List Lkd) (m:Nat) (w:World) (h:Sl 3 encN w a n N) (hn:n≤1000) (hc:n≤c) (hm:c≤maxLen) (h0:checkN N=0) (hm16:m≤16) (hL:L=(buildN N (m:Int)).1) (h2:LkL w a2 n2 L) (hn2:n2≤1000000) :
  Calls Tryz.prog 91 #[.slice a n c,.slice a2 n2 c2,.int .i64 m] w fun e w'=>∃ v qs,e=.returned v∧OwnLk w.heap.size w' v qs L∧Ex w w':=by
 have HN:=lH h.len
 have C0:=lH h0
 have HS:=lH h
 have H2:=lH h2
 have HL:=lH hL
 have LR:Hid (L=(sortN N).map (rowN (sortN N) (m+1))):=lH (by rw [hL];exact build_row h0 hm16)
 have LV:Hid (∀ c∈L,c.2.length=m+1):=lH (by rw [hL];exact build_lv h0 hm16)
 have HLl:L.length=n:=by have:=LR.out;rw [this,List.length_map,sortN_length];exact h.len
 have HLN:=lH HLl
 obtain ⟨M1,hM1⟩:∃ M1,M1=m+1:=⟨_,rfl⟩
 have HM1:=lH hM1
 have hM17:M1≤17:=by omega
 have hM0:1≤M1:=by omega
 clear h0 h h2 hL HLl hM1
 go_enter Tryz.func91,Tryz.ntmps91
 go_wp2_with fail
 (with_reducible refine (proper_i _ _ _ N (m:Int) _ HS.out (by omega) hc hm C0.out (by omega) (by omega)).mono ?_)
 rintro e w1 ⟨rfl,kk⟩
 have K1:=lH kk
 clear kk
 go_wp2_with fail
 (with_reducible refine (sort_p _ _ _ N _ (HS.out.nx K1.out) (by omega)).mono ?_)
 rintro e w2 ⟨v,S,rfl,OS,⟨hp,hsrt⟩,kk⟩
 have hSe:S=sortN N:=sortN_unique (check_keys C0.out) hp hsrt
 obtain ⟨a5,c5,rfl,r5,hc5,hm5⟩:=OS.sl3 (fun _=>rfl)
 have K2:=lH (K1.out.nx kk)
 have HSE:=lH hSe
 have hSl:S.length=n:=by rw [hSe,sortN_length];exact HN.out
 rw [hSl] at r5 hc5 ⊢
 have R5:=lH r5
 have HSL:=lH hSl
 clear hSe kk OS hp hsrt r5 hSl
 go_wp2_with fail
 go_loopw [7,18] (fun o i wr=>NormRel L n w2 o i wr) (fun _ i _=>n-(intOf i).toNat)
 case atStart=>exact ⟨0,[],by omega,rfl,OwnN.nil _ _ _ _ _ _ _ _,Ex.refl _⟩
 case round =>
  obtain ⟨k,qs,hk,rfl,own,kw⟩:=hrel
  obtain ⟨wi,rfl⟩:∃ wi:World,wi=wr:=⟨_,rfl⟩
  have OWN:=lH own
  have KW:=lH kw
  by_cases hkn:k<n
  ·obtain ⟨x5,o5,y,rfl,hx5,hy,hcc⟩:=(R5.out.nx kw).at hkn
   have e0:wi.cell? ⟨x5,o5+k*3,none⟩=some (.int .i64 y.id):=hcc 0 _ rfl
   have e1:wi.cell? ⟨x5,o5+k*3+1,none⟩=some (.string y.key):=hcc 1 _ rfl
   have e2:wi.cell? ⟨x5,o5+k*3+1+1,none⟩=some (.int .u32 y.word):=by simpa [Nat.add_assoc] using hcc 2 _ rfl
   have e2':wi.cell? ⟨x5,o5+k*3+2,none⟩=some (.int .u32 y.word):=hcc 2 _ rfl
   obtain ⟨d,hd⟩:∃ d,L[k]?=some d:=⟨_,List.getElem?_eq_getElem (by have:=HLN.out;omega)⟩
   have hdy:d.1=y.id:=by
    have h1:=hd
    rw [LR.out,List.getElem?_map,← HSE.out,hy] at h1
    cases h1
    rfl
   have hdl:d.2.length=M1:=by rw [HM1.out];exact LV.out d (List.mem_of_getElem? hd)
   have hno:∀ j z,j<k→L[j]?=some z→z.1≠y.id:=fun j z hj hz=>by
    rw [LR.out,List.getElem?_map,← HSE.out] at hz
    cases hu:S[j]? with
    | none=>rw [hu] at hz;cases hz
    | some u =>
     rw [hu] at hz
     cases hz
     have hu':=hu
     have hy':=hy
     rw [HSE.out] at hu' hy'
     exact (asc_at (sortN_str C0.out) hu' hy' hj).2
   have HD:=lH hd
   have HDY:=lH hdy
   have HDL:=lH hdl
   have HNO:=lH hno
   have TK1:Hid (L.take (k+1)=L.take k++[d]):=lH (by rw [List.take_add_one,hd];rfl)
   have hql:qs.length=k:=by rw [own.2.1,List.length_take];have:=HLN.out;omega
   have zw:=kw.size
   clear hcc hd hdy hdl hno hy own kw
   have B9:=Blk.new wi [.int .i64 y.id,.string y.key,.int .u32 y.word] 36
   have kk:=Ex.new wi (.cells #[.int .i64 y.id,.string y.key,.int .u32 y.word] 36)
   obtain ⟨w5,hw5⟩:∃ w5,w5=wi.alloc (.cells #[.int .i64 y.id,.string y.key,.int .u32 y.word] 36):=⟨_,rfl⟩
   obtain ⟨g9,hg9⟩:∃ g9,g9=wi.heap.size:=⟨_,rfl⟩
   replace B9:Blk w5 g9 [.int .i64 y.id,.string y.key,.int .u32 y.word] 36:=by rw [hw5,hg9];exact B9
   rw [← hw5] at kk
   have Hw5:=lH hw5
   have Hg9:=lH hg9
   have K5:=lH kk
   have z5:=kk.size
   clear kk hw5 hg9
   go_upto_region 7 with fail
   rw [← Hg9.out,← Hw5.out]
   clear Hg9 Hw5
   have B9H:=lH B9
   obtain ⟨Z,hZ⟩:∃ Z,Z=((List.replicate M1 ((0,0):Int×Int)).flatMap encS).toArray:=⟨_,rfl⟩
   have cm:(Instr.makeSlice 119 (.int .i64 ((m:Int)+1)) (.int .i64 ((m:Int)+1))).run Tryz.prog w5=.ok (.slice (some ⟨w5.heap.size,0,none⟩) M1 M1) (w5.alloc (.cells Z 128)):=by
    rw [hZ];exact mkLk m M1 hm16 HM1.out _
   have wrm:IntKind.i64.wrap ((m:Int)+1)=(m:Int)+1:=IntWalk.i64_in _ (by omega)
   have hZs:Z.size=M1*2:=by
    rw [hZ]
    have:=flatN_len (enc:=encS) (sz:=2) (fun _=>rfl) (List.replicate M1 ((0,0):Int×Int))
    simpa using this
   have HZS:=lH hZs
   obtain ⟨w6,hw6⟩:∃ w6,w6=w5.alloc (.cells Z 128):=⟨_,rfl⟩
   obtain ⟨g10,hg10⟩:∃ g10,g10=w5.heap.size:=⟨_,rfl⟩
   have kk:Ex w5 w6:=by rw [hw6];exact Ex.new _ _
   have BZ:w6.heap[g10]?=some (.cells Z 128 (0,0)):=by rw [hw6,hg10];exact heap_new w5 _
   have H6:=lH hw6
   have H10:=lH hg10
   have IN:OwnL 2 encS 128 w2.heap.size w6 (.slice (some ⟨g10,0,none⟩) M1 M1) (List.replicate M1 ((0,0):Int×Int)):=by
    have:=OwnL.lit (sz:=2) (enc:=encS) (e:=128) (base:=w2.heap.size) (w:=w5) (List.replicate M1 ((0,0):Int×Int)) (fun _=>rfl) (by omega) (by rw [List.length_replicate];unfold maxLen;omega) (cs:=Z) hZ
    rw [List.length_replicate] at this
    rw [hw6,hg10]
    exact this
   have B6:=B9.nx kk
   have BZH:=lH BZ
   have INH:=lH IN
   have K6:=lH (K5.out.nx kk)
   have z6:=kk.size
   have zg:w2.heap.size≤g10:=by omega
   have zgi:wi.heap.size≤g10:=by omega
   have hg9n:¬ g9=g10:=by have:=B9.lt;omega
   clear e0 e1 e2 e2' hZ hZs hw6 hg10 BZ kk
   go_upto_region 8 with fail
   rw [← H6.out,← H10.out]
   clear cm H6 H10
   have b0:=B6.cell 0 _ rfl
   have B6H:=lH B6
   have lt10:=heap_lt BZH.out
   clear B6 IN B9
   go_wp2_with fail
   (with_reducible refine (elem_p _ _ _ L y.id _ (H2.out.nx ((K2.out.nx KW.out).nx K6.out)) hn2 k d HD.out HDY.out HNO.out).mono ?_)
   rintro e w7 ⟨a',c',rfl,SR,kk⟩
   have BZ7:w7.heap[g10]?=some (.cells Z 128 (0,0)):=(kk.block g10 lt10).trans BZH.out
   have IN7:=INH.out.nx kk
   have cp:=fun ty=>run_over (c:=c') IN7 HDL.out hM0 SR ty
   have OV:=own_over (R:=d.2) zg BZ7 HZS.out HDL.out hM17
   have B7:=B6H.out.nx kk
   have K7:=K6.out.nx kk
   have z7:=kk.size
   clear b0 kk IN7 BZ7 SR
   go_upto_region 9 with (at_builtin;refine wpList_copy_runI _ rfl _ _ 119 119 rfl _ _ rfl rfl (cp _) ?_)
   obtain ⟨w8,hw8⟩:∃ w8,w8=w7.setCells g10 0 (d.2.flatMap encS):=⟨_,rfl⟩
   rw [← hw8] at OV ⊢
   have B8:=B7.nxb hg9n OV.2
   have K8:Ex wi w8:=Chg.trans K7 (Chg.mono OV.2 (fun x hx=>⟨Nat.lt_of_lt_of_le hx K7.size,by have:x<wi.heap.size:=hx;omega⟩))
   have q0:=B8.cell 0 _ rfl
   have OQ1:=OWN.out.nx K8
   have own2:=OV.1
   have z8:=K8.size
   have FR:∀ (j:Nat) (r:Int×Hdr) (g:Nat),qs[j]?=some r→r.2.val.ownBlock=some g→¬ (Value.slice (some ⟨g10,0,none⟩) M1 M1).ownBlock=some g:=fun j r g hr hg hv=>by
    have h1:=OWN.out.lt hr hg
    cases hv
    exact absurd (show g10<wi.heap.size from h1) (by omega)
   have k8:=Ex.new w8 (.cells #[.int .i64 y.id,.slice (some ⟨g10,0,none⟩) M1 M1] 121)
   have SX:Sl 2 (encP encI) (w8.alloc (.cells #[.int .i64 y.id,.slice (some ⟨g10,0,none⟩) M1 M1] 121)) (some ⟨w8.heap.size,0,none⟩) 1 [((y.id,(some ⟨g10,0,none⟩,M1,M1)):Int×Hdr)]:=Sl.lit _ rfl rfl (fun _=>rfl) rfl
   have OQ2:=OQ1.nx k8
   have own3:=own2.nx k8
   have K9:=K8.nx k8
   clear cp OV B7 K7 hw8
   go_upto_region 10 with (at_builtin;(refine wpList_append_W (enc:=encP encI) _ rfl _ _ 28 rfl w2.heap.size 121 (.agg #[.int .i64 0,.slice none 0 0]) 2 32 Tryz.underlying28 Tryz.infoLd rfl (by omega) (by omega) _ _ OQ2.1 rfl _ 1 1 [_] SX (fun _=>rfl) (by simp [encP,encI,Hdr.val,Value.oneCell']) rfl (by omega) (by omega) (by simp;omega) ?_);intro v9 w9 own9 ch0 ch1 _)
   have OQ9:=OQ2.push (by decide) own9 ch0 own3 FR
   have RR:=lH (show NormRel L n w2 v9 (.int .i64 ((k:Int)+1)) w9 from ⟨k+1,_,by omega,by go_num,by rw [TK1.out,show d=(y.id,d.2) from by rw [← HDY.out]];exact OQ9,Chg.trans (KW.out.nx K9) ch1⟩)
   clear OQ1 OQ2 own9 ch0 ch1 own3 own2 SX FR OQ9 q0 K9 k8 B8
   go_wp2_with fail
   exact ⟨RR.out,by simp [intOf];omega⟩
  ·obtain rfl:k=n:=by omega
   rw [List.take_of_length_le (by have:=HLN.out;omega)] at own
   have OW:=lH own
   clear own kw OWN
   go_wp2_with fail
   go_ret
   exact ⟨_,_,rfl,OwnN.base OW.out (by have:=K2.out.size;omega),K2.out.nx KW.out⟩
end Go.Proofs.YthcholmhmcpooaaGreatDoor
namespace Go.Proofs.YthcholmhmcpooaaGreatDoor
open Go.RowKit Go.Maps
def CkA (P:Program) (kt:TypeId) (gm n:Nat) (w:World) (i:Value) (wr:World):Prop :=
 ∃ (k:Nat) (f:Int→Value),k≤n∧i=.int .i64 k∧RawM P kt wr gm k f∧Exb gm w wr
def CkB (n:Nat) (w:World) (o i:Value) (wr:World):Prop:=∃ k:Nat,k≤n∧o=.slice none 0 0∧i=.int .i64 k∧Ex w wr
theorem litPair (u:World) (x y:Int):∃ g v,g=u.heap.size∧v=u.alloc (.cells #[.int .i64 x,.int .i64 x,.int .i64 y,.int .i64 y] 164)∧Blk v g [.int .i64 x,.int .i64 x,.int .i64 y,.int .i64 y] 164∧Ex u v :=
 ⟨_,_,rfl,rfl,Blk.new _ _ _,Ex.new _ _⟩
set_option maxRecDepth 100000 in
set_option maxHeartbeats 16000000 in
theorem check_i (a:Option Addr) (n c:Nat) (N:List Nd) (a2:Option Addr) (n2 c2:Nat) (L:List Lkd) (m:Nat) (w:World) (h:Sl 3 encN w a n N) (hn:n≤1000) (hc:n≤c) (hm:c≤maxLen) (h0:checkN N=0) (hm16:m≤16) (hw:∀ x∈N,x.word<4294967296) (hT:TabG w) (hL:L=(buildN N (m:Int)).1) (h2:LkL w a2 n2 L) (hn2:n2≤1000000) :
  Calls Tryz.prog 27 #[.slice a n c,.slice a2 n2 c2,.int .i64 m] w fun e w'=>e=.returned (.slice none 0 0)∧Ex w w':=by
 have HN:=lH h.len
 have C0:=lH h0
 have HL:=lH hL
 have HW:=lH hw
 have LV:Hid (∀ c∈L,c.2.length=m+1):=lH (by rw [hL];exact build_lv h0 hm16)
 have hLl:L.length≤1000:=by rw [hL];exact (buildN_small N (m:Int) (by have:=h.len;omega)).1
 have HOK:=lH (roster_ok h0)
 obtain ⟨M1,hM1⟩:∃ M1,M1=m+1:=⟨_,rfl⟩
 rw [← hM1] at LV
 have hM17:M1≤17:=by omega
 clear hM1
 have hkt:Tryz.prog.underlying 3=some (.int .i64):=Tryz.underlying3
 have hmt:Tryz.prog.underlying 135=some (.map 3 36):=by kernel_rfl
 have HKT:=lH hkt
 have HMT:=lH hmt
 obtain ⟨w1,hw1⟩:∃ w1,w1=w.alloc (.map #[] 0):=⟨_,rfl⟩
 obtain ⟨gm,hgm⟩:∃ gm,gm=w.heap.size:=⟨_,rfl⟩
 have k1:Ex w w1:=by rw [hw1];exact Ex.new _ _
 have MI:RawM Tryz.prog 3 w1 gm 0 (fun _=>nilS):=by rw [hw1,hgm];exact RawM.made w _ _
 have gT:=hT.lt
 have hTb:¬ 1=gm:=by omega
 have hS1:=(h.slb (b:=gm) (Nat.le_of_eq hgm.symm)).nxb (k1.b gm)
 have HS:=lH (fun wq (kq:Exb gm w1 wq)=>(hS1.nxb kq).sl)
 have H2:=lH (fun wq (kq:Ex w wq)=>h2.nx kq)
 have HT1:=lH (hT.nx k1)
 have K1:=lH k1
 have HW1:=lH hw1
 have HGM:=lH hgm
 have zgm:w.heap.size≤gm:=by omega
 clear h h0 hL hw hT h2 hkt hmt hw1 hgm k1 hS1 gT
 have hmm:=@run_makeMap Tryz.prog
 go_enter Tryz.func27,Tryz.ntmps27
 go_upto_region 2 with fail
 rw [← HGM.out,← HW1.out]
 clear HGM HW1 hmm
 go_wp2_with fail
 go_loopw [23] (fun i wr=>CkA Tryz.prog 3 gm n w1 i wr) (fun i _=>n-(intOf i).toNat)
 case atStart=>exact ⟨0,_,by omega,rfl,MI,Exb.refl _ _⟩
 case round =>
  clear MI
  obtain ⟨k,f,hk,rfl,MI,kw⟩:=hrel
  obtain ⟨wo,rfl⟩:∃ wo:World,wo=wr:=⟨_,rfl⟩
  by_cases hlt:k<n
  ·obtain ⟨x1,o1,y,rfl,hx1,hy,hc1⟩:=(HS.out _ kw).at hlt
   have e0:wo.cell? ⟨x1,o1+k*3,none⟩=some (.int .i64 y.id):=hc1 0 _ rfl
   have e1:wo.cell? ⟨x1,o1+k*3+1,none⟩=some (.string y.key):=hc1 1 _ rfl
   have e2:wo.cell? ⟨x1,o1+k*3+2,none⟩=some (.int .u32 y.word):=hc1 2 _ rfl
   have e2':wo.cell? ⟨x1,o1+k*3+1+1,none⟩=some (.int .u32 y.word):=e2
   have hwf:(Lit.int .i64 y.id).wf=true:=wf_of (HOK.out y (List.mem_of_getElem? hy)).1.1
   have HWF:=lH hwf
   have hmlt:=MI.lt
   clear hy hc1 hwf
   have B9:=Blk.new wo [.int .i64 y.id,.string y.key,.int .u32 y.word] 36
   have kk:=Ex.new wo (.cells #[.int .i64 y.id,.string y.key,.int .u32 y.word] 36)
   obtain ⟨w7,hw7⟩:∃ w7,w7=wo.alloc (.cells #[.int .i64 y.id,.string y.key,.int .u32 y.word] 36):=⟨_,rfl⟩
   obtain ⟨g9,hg9⟩:∃ g9,g9=wo.heap.size:=⟨_,rfl⟩
   replace B9:Blk w7 g9 [.int .i64 y.id,.string y.key,.int .u32 y.word] 36:=by rw [hw7,hg9];exact B9
   rw [← hw7] at kk
   have Hw7:=lH hw7
   have Hg9:=lH hg9
   replace MI:=MI.nx kk
   have hg9b:g9≠gm:=by omega
   have KW:=lH (kw.nxb (kk.b gm))
   clear kk hw7 hg9 kw
   go_upto_region 5 with fail
   rw [← Hg9.out,← Hw7.out]
   clear Hg9 Hw7
   clear e0 e1 e2 e2'
   obtain ⟨wm,hrun,MI2,km⟩:=MI.put HKT.out HMT.out (by omega) HWF.out (.agg #[.int .i64 y.id,.string y.key,.int .u32 y.word])
   have b0:=B9.cell 0 _ rfl
   have b1:=B9.cell 1 _ rfl
   have b2:=B9.cell 2 _ rfl
   have RR:=lH (show CkA Tryz.prog 3 gm n w1 (.int .i64 ((k:Int)+1)) wm from ⟨k+1,_,by omega,by go_num,MI2,KW.out.nxb km.1⟩)
   clear MI2 MI km B9
   go_wp2_with fail
   exact ⟨RR.out,by simp [intOf];omega⟩
  ·obtain rfl:k=n:=by omega
   have K2:=lH (show Ex w wo from Chg.trans K1.out (Chg.mono kw (fun x hx=>⟨Nat.lt_of_lt_of_le hx K1.out.size,by have:x<w.heap.size:=hx;omega⟩)))
   have HT2:=lH (HT1.out.nxb hTb kw)
   have HS2:=lH (HS.out _ kw)
   clear MI kw HS
   go_wp2_with fail
   (with_reducible refine (build_p _ _ _ N (m:Int) _ HS2.out (by omega) hc hm HW.out HT2.out).mono ?_)
   rintro e w2 ⟨v,qs,rfl,own,kk⟩
   rw [← HL.out] at own
   obtain ⟨aW,cW,rfl,LW⟩:=own.nl'
   have LWH:=lH LW
   have K3:=lH (K2.out.nx kk)
   have HS3:=lH (HS2.out.nx kk)
   clear own LW kk
   go_wp2_with fail
   (with_reducible refine (normal_i _ _ _ N _ _ _ L m _ HS3.out hn hc hm C0.out hm16 HL.out (H2.out _ K3.out) hn2).mono ?_)
   rintro e w3 ⟨v,q3,rfl,own,kk⟩
   obtain ⟨aO,cO,rfl,LO⟩:=own.nl'
   have LOH:=lH LO
   have LWH:=lH (LWH.out.nx kk)
   have K4:=lH (K3.out.nx kk)
   clear own LO kk K3 HS3 HT2
   go_wp2_with fail
   go_loopw [12,43] (fun o i wr=>CkB L.length w3 o i wr) (fun _ i _=>L.length-(intOf i).toNat)
   case atStart=>exact ⟨0,by omega,rfl,rfl,Ex.refl _⟩
   case round =>
    obtain ⟨i,hi,rfl,rfl,kw⟩:=hrel
    obtain ⟨wj,rfl⟩:∃ wj:World,wj=wr:=⟨_,rfl⟩
    by_cases hil:i<L.length
    ·obtain ⟨x,o,a',n',c',d,rfl,hx,hd,hcc,sr⟩:=(LOH.out.nx kw).at hil
     have e0:wj.cell? ⟨x,o+i*2,none⟩=some (.int .i64 d.1):=hcc 0 _ rfl
     have e1:wj.cell? ⟨x,o+i*2+1,none⟩=some (.slice a' n' c'):=hcc 1 _ rfl
     obtain ⟨x',o',a'',n'',c'',d',rfl,hx',hd',hcc',sr'⟩:=(LWH.out.nx kw).at hil
     obtain rfl:d'=d:=Option.some.inj (hd'.symm.trans hd)
     have u1:wj.cell? ⟨x',o'+i*2+1,none⟩=some (.slice a'' n'' c''):=hcc' 1 _ rfl
     have hnl:M1=n':=by rw [← sr.len];exact (LV.out d' (List.mem_of_getElem? hd)).symm
     have hnl':M1=n'':=by rw [← sr'.len];exact (LV.out d' (List.mem_of_getElem? hd)).symm
     subst hnl
     subst hnl'
     have SR:=lH sr
     have SR':=lH sr'
     have hxlt:=hx
     have hxlt':=hx'
     clear hd hd' hcc hcc' sr sr'
     have B14:=Blk.new wj [.int .i64 d'.1,.slice a' M1 c'] 121
     have kk:=Ex.new wj (.cells #[.int .i64 d'.1,.slice a' M1 c'] 121)
     obtain ⟨w4,hw4⟩:∃ w4,w4=wj.alloc (.cells #[.int .i64 d'.1,.slice a' M1 c'] 121):=⟨_,rfl⟩
     obtain ⟨g14,hg14⟩:∃ g14,g14=wj.heap.size:=⟨_,rfl⟩
     replace B14:Blk w4 g14 [.int .i64 d'.1,.slice a' M1 c'] 121:=by rw [hw4,hg14];exact B14
     rw [← hw4] at kk
     have Hw4:=lH hw4
     have Hg14:=lH hg14
     have KW:=lH kw
     have K5:=lH kk
     have U1:=lH (fun wq (kq:Ex w4 wq)=>(kk.nx kq).cellv u1 hxlt')
     clear kk hw4 hg14 kw u1
     go_upto_region 12 with fail
     rw [← Hg14.out,← Hw4.out]
     clear Hg14 Hw4
     clear e0 e1
     have b1:=B14.cell 1 _ rfl
     go_wp2_with fail
     go_loopw [12,51] (fun o i wr=>CkB M1 w4 o i wr) (fun _ i _=>M1-(intOf i).toNat)
     case atStart=>exact ⟨0,by omega,rfl,rfl,Ex.refl _⟩
     case round =>
      clear b1
      obtain ⟨lev,hlev,rfl,rfl,kv⟩:=hrel
      obtain ⟨wl,rfl⟩:∃ wl:World,wl=wr:=⟨_,rfl⟩
      by_cases hll:lev<M1
      ·obtain ⟨p,op,q,rfl,hp,hq,hcq⟩:=(SR.out.nx (K5.out.nx kv)).at hll
       have e0:wl.cell? ⟨p,op+lev*2,none⟩=some (.int .i64 q.1):=hcq 0 _ rfl
       have e1:wl.cell? ⟨p,op+lev*2+1,none⟩=some (.int .i64 q.2):=hcq 1 _ rfl
       obtain ⟨p',op',q',rfl,hp',hq',hcq'⟩:=(SR'.out.nx (K5.out.nx kv)).at hll
       obtain rfl:q'=q:=Option.some.inj (hq'.symm.trans hq)
       have f0:wl.cell? ⟨p',op'+lev*2,none⟩=some (.int .i64 q'.1):=hcq' 0 _ rfl
       have f1:wl.cell? ⟨p',op'+lev*2+1,none⟩=some (.int .i64 q'.2):=hcq' 1 _ rfl
       clear hq hq' hcq hcq'
       have B16:=Blk.new wl [.int .i64 q'.1,.int .i64 q'.2] 128
       have kk:=Ex.new wl (.cells #[.int .i64 q'.1,.int .i64 q'.2] 128)
       obtain ⟨w5,hw5⟩:∃ w5,w5=wl.alloc (.cells #[.int .i64 q'.1,.int .i64 q'.2] 128):=⟨_,rfl⟩
       obtain ⟨g16,hg16⟩:∃ g16,g16=wl.heap.size:=⟨_,rfl⟩
       replace B16:Blk w5 g16 [.int .i64 q'.1,.int .i64 q'.2] 128:=by rw [hw5,hg16];exact B16
       rw [← hw5] at kk
       have Hw5:=lH hw5
       have Hg16:=lH hg16
       have K6:=lH (kv.nx kk)
       have V0:=lH (fun wq (kq:Ex w5 wq)=>(kk.nx kq).cellv f0 hp')
       have V1:=lH (fun wq (kq:Ex w5 wq)=>(kk.nx kq).cellv f1 hp')
       clear kk hw5 hg16 kv
       go_upto_region 15 with fail
       rw [← Hg16.out,← Hw5.out]
       clear Hg16 Hw5
       clear e0 e1 f0 f1
       have B16H:=lH B16
       clear B16
       have hl1:(lev:Int)<(M1:Int):=by omega
       have hi1:(i:Int)<(L.length:Int):=by omega
       refine wp_region_held_drew (S:=Ex w5) (by kernel_rfl) ((Ex.refl w5).drew) (fun hHeld=>?_)
       obtain ⟨wd,hwdx⟩:∃ wd:World,wd=World.drew w5:=⟨_,rfl⟩
       rw [← hwdx] at hHeld ⊢
       have hDrew:Ex w5 wd:=by rw [hwdx];exact (Ex.refl w5).drew
       clear hwdx
       refine tkH 0 (v:=?_) rfl (by kernel_rfl) (fun _ _ _ h=>h) (by rfl) ?y5 hHeld ?_
       case y5=>intro wq hSw;go_simp<;>rfl
       try simp only [Act.put,sA,sB,sC]
       refine tkH 1 (v:=?_) rfl (by kernel_rfl) (fun _ _ _ h=>h) (by rfl) ?y8 hHeld ?_
       case y8=>intro wq hSw;(have cq:=(B16H.out.nx hSw).cell 0 _ rfl;go_simp)<;>rfl
       try simp only [Act.put,sA,sB,sC]
       refine tkH 2 (v:=?_) rfl (by kernel_rfl) (fun _ _ _ h=>h) (by rfl) ?y11 hHeld ?_
       case y11=>intro wq hSw;go_simp<;>rfl
       try simp only [Act.put,sA,sB,sC]
       refine tkH 3 (v:=?_) rfl (by kernel_rfl) (fun _ _ _ h=>h) (by rfl) ?y14 hHeld ?_
       case y14=>intro wq hSw;go_simp<;>rfl
       try simp only [Act.put,sA,sB,sC]
       refine tkH 4 (v:=?_) rfl (by kernel_rfl) (fun _ _ _ h=>h) (by rfl) ?y17 hHeld ?_
       case y17=>intro wq hSw;go_simp<;>rfl
       try simp only [Act.put,sA,sB,sC]
       refine tkH 5 (v:=?_) rfl (by kernel_rfl) (fun _ _ _ h=>h) (by rfl) ?y20 hHeld ?_
       case y20=>intro wq hSw;go_simp<;>rfl
       try simp only [Act.put,sA,sB,sC]
       refine tkH 6 (v:=?_) rfl (by kernel_rfl) (fun _ _ _ h=>h) (by rfl) ?y23 hHeld ?_
       case y23=>intro wq hSw;(have cq:=U1.out _ (K6.out.nx hSw);go_simp)<;>rfl
       try simp only [Act.put,sA,sB,sC]
       refine tkH 7 (v:=?_) rfl (by kernel_rfl) (fun _ _ _ h=>h) (by rfl) ?y26 hHeld ?_
       case y26=>intro wq hSw;go_simp<;>rfl
       try simp only [Act.put,sA,sB,sC]
       refine tkH 8 (v:=?_) rfl (by kernel_rfl) (fun _ _ _ h=>h) (by rfl) ?y29 hHeld ?_
       case y29=>intro wq hSw;go_simp<;>rfl
       try simp only [Act.put,sA,sB,sC]
       refine tkH 9 (v:=?_) rfl (by kernel_rfl) (fun _ _ _ h=>h) (by rfl) ?y32 hHeld ?_
       case y32=>intro wq hSw;go_simp<;>rfl
       try simp only [Act.put,sA,sB,sC]
       refine tkH 10 (v:=?_) rfl (by kernel_rfl) (fun _ _ _ h=>h) (by rfl) ?y35 hHeld ?_
       case y35=>intro wq hSw;(have cq:=V0.out _ hSw;go_simp)<;>rfl
       try simp only [Act.put,sA,sB,sC]
       refine tkH 11 (v:=?_) rfl (by kernel_rfl) (fun _ _ _ h=>h) (by rfl) ?y38 hHeld ?_
       case y38=>intro wq hSw;go_simp<;>rfl
       try simp only [Act.put,sA,sB,sC]
       refine tkH 12 (v:=?_) rfl (by kernel_rfl) (fun _ _ _ h=>h) (by rfl) ?y41 hHeld ?_
       case y41=>intro wq hSw;go_simp<;>rfl
       try simp only [Act.put,sA,sB,sC]
       refine tkH 13 (v:=?_) rfl (by kernel_rfl) (fun _ _ _ h=>h) (by rfl) ?y44 hHeld ?_
       case y44=>intro wq hSw;(have cq:=(B16H.out.nx hSw).cell 1 _ rfl;go_simp)<;>rfl
       try simp only [Act.put,sA,sB,sC]
       refine tkH 14 (v:=?_) rfl (by kernel_rfl) (fun _ _ _ h=>h) (by rfl) ?y47 hHeld ?_
       case y47=>intro wq hSw;go_simp<;>rfl
       try simp only [Act.put,sA,sB,sC]
       refine tkH 15 (v:=?_) rfl (by kernel_rfl) (fun _ _ _ h=>h) (by rfl) ?y50 hHeld ?_
       case y50=>intro wq hSw;go_simp<;>rfl
       try simp only [Act.put,sA,sB,sC]
       refine tkH 16 (v:=?_) rfl (by kernel_rfl) (fun _ _ _ h=>h) (by rfl) ?y53 hHeld ?_
       case y53=>intro wq hSw;go_simp<;>rfl
       try simp only [Act.put,sA,sB,sC]
       refine tkH 17 (v:=?_) rfl (by kernel_rfl) (fun _ _ _ h=>h) (by rfl) ?y56 hHeld ?_
       case y56=>intro wq hSw;go_simp<;>rfl
       try simp only [Act.put,sA,sB,sC]
       refine tkH 18 (v:=?_) rfl (by kernel_rfl) (fun _ _ _ h=>h) (by rfl) ?y59 hHeld ?_
       case y59=>intro wq hSw;(have cq:=U1.out _ (K6.out.nx hSw);go_simp)<;>rfl
       try simp only [Act.put,sA,sB,sC]
       refine tkH 19 (v:=?_) rfl (by kernel_rfl) (fun _ _ _ h=>h) (by rfl) ?y62 hHeld ?_
       case y62=>intro wq hSw;go_simp<;>rfl
       try simp only [Act.put,sA,sB,sC]
       refine tkH 20 (v:=?_) rfl (by kernel_rfl) (fun _ _ _ h=>h) (by rfl) ?y65 hHeld ?_
       case y65=>intro wq hSw;go_simp<;>rfl
       try simp only [Act.put,sA,sB,sC]
       refine tkH 21 (v:=?_) rfl (by kernel_rfl) (fun _ _ _ h=>h) (by rfl) ?y68 hHeld ?_
       case y68=>intro wq hSw;go_simp<;>rfl
       try simp only [Act.put,sA,sB,sC]
       refine tkH 22 (v:=?_) rfl (by kernel_rfl) (fun _ _ _ h=>h) (by rfl) ?y71 hHeld ?_
       case y71=>intro wq hSw;(have cq:=V1.out _ hSw;go_simp)<;>rfl
       try simp only [Act.put,sA,sB,sC]
       refine tkH 23 (v:=?_) rfl (by kernel_rfl) (fun _ _ _ h=>h) (by rfl) ?y74 hHeld ?_
       case y74=>intro wq hSw;go_simp<;>rfl
       try simp only [Act.put,sA,sB,sC]
       refine tkH 26 (v:=?_) rfl (by kernel_rfl) (fun _ _ _ h=>h) (by rfl) ?y77 hHeld ?_
       case y77=>intro wq hSw;go_simp<;>rfl
       try simp only [Act.put,sA,sB,sC]
       refine rH 24 (by kernel_rfl) rfl fun K hK=>?_
       go_simp
       obtain ⟨g80,w6,h80,h6,BP,kk⟩:=litPair _ q'.1 q'.2
       rw [← h80,← h6]
       clear h80 h6
       replace hHeld:=hHeld.nx kk
       clear kk
       refine hK.out _ _ (hHeld) (fun hHeld=>?_)
       clear hK K
       try simp only [Act.put,sA,sB,sC]
       refine tkH 25 (v:=?_) rfl (by kernel_rfl) (fun _ _ _ h=>h) (by rfl) ?y91 hHeld ?_
       case y91=>intro wq hSw;go_simp<;>rfl
       try simp only [Act.put,sA,sB,sC]
       refine wpAnyH_done (by kernel_rfl) ?_ _
       have K7:=lH (K6.out.nx hHeld)
       have BPH:=lH BP
       clear BP hHeld hDrew
       go_wp2_with fail
       go_loopw [12,82] (fun o i wr=>CkB 2 w6 o i wr) (fun _ i _=>2-(intOf i).toNat)
       case atStart=>exact ⟨0,by omega,rfl,rfl,Ex.refl _⟩
       case round =>
        obtain ⟨sd,hsd,rfl,rfl,ks⟩:=hrel
        obtain ⟨wn,rfl⟩:∃ wn:World,wn=wr:=⟨_,rfl⟩
        by_cases hs2:sd<2
        ·obtain ⟨z,hz0,hz1⟩:∃ z:Int,wn.cell? ⟨g80,sd*2,none⟩=some (.int .i64 z)∧wn.cell? ⟨g80,sd*2+1,none⟩=some (.int .i64 z):=by
          have B:=BPH.out.nx ks
          rcases (show sd=0∨sd=1 by omega) with rfl | rfl
          ·exact ⟨q'.1,B.cell 0 _ rfl,B.cell 1 _ rfl⟩
          ·exact ⟨q'.2,B.cell 2 _ rfl,B.cell 3 _ rfl⟩
         have B18:=Blk.new wn [.int .i64 z,.int .i64 z] 164
         have kk:=Ex.new wn (.cells #[.int .i64 z,.int .i64 z] 164)
         obtain ⟨w8,hw8⟩:∃ w8,w8=wn.alloc (.cells #[.int .i64 z,.int .i64 z] 164):=⟨_,rfl⟩
         obtain ⟨g18,hg18⟩:∃ g18,g18=wn.heap.size:=⟨_,rfl⟩
         replace B18:Blk w8 g18 [.int .i64 z,.int .i64 z] 164:=by rw [hw8,hg18];exact B18
         rw [← hw8] at kk
         have Hw8:=lH hw8
         have Hg18:=lH hg18
         have RR:=lH (show CkB 2 w6 (.slice none 0 0) (.int .i64 ((sd:Int)+1)) w8 from ⟨sd+1,by omega,rfl,by go_num,ks.nx kk⟩)
         clear kk hw8 hg18 ks
         go_upto_region 18 with fail
         rw [← Hg18.out,← Hw8.out]
         clear Hg18 Hw8
         clear hz0 hz1
         have b0:=B18.cell 0 _ rfl
         have b1:=B18.cell 1 _ rfl
         go_wp2_with fail
         exact ⟨RR.out,by simp [intOf];omega⟩
        ·have RR:=lH (show CkB M1 w4 (.slice none 0 0) (.int .i64 ((lev:Int)+1)) wn from ⟨lev+1,by omega,rfl,by go_num,K7.out.nx ks⟩)
         obtain rfl:sd=2:=by omega
         clear ks hs2
         go_wp2_with fail
         exact ⟨RR.out,by simp [intOf];omega⟩
      ·obtain rfl:lev=M1:=by omega
       have RR:=lH (show CkB L.length w3 (.slice none 0 0) (.int .i64 ((i:Int)+1)) wl from ⟨i+1,by omega,rfl,by go_num,(KW.out.nx K5.out).nx kv⟩)
       clear kv hll hlev
       go_wp2_with fail
       exact ⟨RR.out,by simp [intOf];omega⟩
    ·obtain rfl:i=L.length:=by omega
     have KE:=lH (K4.out.nx kw)
     clear kw hil
     go_wp2_with fail
     go_ret
     exact ⟨rfl,KE.out⟩
end Go.Proofs.YthcholmhmcpooaaGreatDoor
