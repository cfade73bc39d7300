/- Texts for SpliceOrdersProof. -/
import Derived.Test.YtalmjklljofhbaaDoorSdAll24
import Derived.Test.YtalmjklljofhbaaDoorSdAll25
set_option linter.unusedSimpArgs false
set_option linter.unusedVariables false

namespace Go.Proofs.YtalmjklljofhbaaDoor
open Go.RowKit
def GwPost (L:List Lkd) (b:Nat) (w:World) (e:Ending) (w':World):Prop :=
 ∃ v qs,e=.returned (.tuple #[v,.bool true])∧OwnLk w.heap.size w' v qs L∧TK w' b∧Exb b w w'
def GwRel (l:List Nd) (h b:Nat) (w:World) (nd lk i:Value) (wr:World):Prop :=
 ∃ (k:Nat) (qs:List (Int×Hdr)),k≤l.length∧i=.int .i64 k∧OwnL 3 encN 38 w.heap.size wr nd (l.take k)∧OwnLk w.heap.size wr lk qs (buildN (l.take k) (h:Int)).1∧TK wr b∧Exb b w wr
def FrCut (N:List Nd) (b:Nat) (w:World) (v:Value) (wx:World):Prop:=∃ frm:Int,v=.int .i64 frm∧(N=[]∨(findN N frm).2=true)∧TK wx b∧Exb b w wx
theorem build_nil (h:Nat):(buildN [] (h:Int)).1=[]:=by
 unfold buildN
 split
 ·rfl
 ·split
  ·rfl
  ·rfl
theorem keepK {base b:Nat} {w0 w w':World} {nd v:Value} {N:List Nd} {qs:List (Int×Hdr)} {L:List Lkd} (own:OwnLk w0.heap.size w v qs L) (k0:Exb b w0 w0) (hb:b<w0.heap.size) (ond:∀ g,nd.ownBlock=some g→g<w0.heap.size)
  (ch:Chg (fun k=>k<w.heap.size∧¬ nd.ownBlock=some k) w w'):OwnLk w0.heap.size w' v qs L:=by
 cases hob:nd.ownBlock with
 | none=>exact OwnN.nx own (Chg.mono ch (fun k hk=>⟨hk,by rw [hob];simp⟩))
 | some g=>exact OwnN.nxb own (ond g hob) (Chg.mono ch (fun k hk=>⟨hk.1,by rw [hob];intro he;cases he;exact hk.2 rfl⟩))
set_option maxRecDepth 100000 in
set_option maxHeartbeats 8000000 in
theorem grow_t {b:Nat} (a:Option Addr) (n c:Nat) (l:List Nd) (h:Nat) (w:World) (T:TK w b) (hs:Slb 3 encN b w a n l) (hn:n≤20) (h0:checkN l=0) (hw:∀ x∈l,x.word<4294967296) (hh:h≤16) (hT:TabG w) (hgt:¬ 1=b) :
  Calls Tryd.prog 10 #[.pointer (some ⟨b,0,none⟩),.slice a n c,.int .i64 h] w (GwPost (buildN l (h:Int)).1 b w):=by
 have HL:=lH hs.sl.len
 have H0:=lH h0
 have HW:=lH hw
 have hbw:=T.lt
 have SL:=lH hs
 have T0:=lH hT
 have R0:=lH (show GwRel l h b w (.slice none 0 0) (.slice none 0 0) (.int .i64 0) w from ⟨0,[],by omega,rfl,by rw [List.take_zero];exact OwnL.nil _ _ _ _ _,by rw [List.take_zero,build_nil];exact OwnN.nil _ _ _ _ _ _ _ _,T,Exb.refl _ _⟩)
 clear hs h0 hw hT T
 go_enter Tryd.func10,Tryd.ntmps10
 go_wp2_with fail
 go_loopw [8,9,10] (fun nd lk i wr=>GwRel l h b w nd lk i wr) (fun _ _ i _=>n-(intOf i).toNat)
 case atStart=>exact R0.out
 case round =>
  clear R0
  obtain ⟨k,qs,hk,rfl,own8,own9,T,kw⟩:=hrel
  obtain ⟨wi,rfl⟩:∃ wi:World,wi=wr:=⟨_,rfl⟩
  by_cases hkn:k<n
  ·obtain ⟨N,hN⟩:∃ N,N=l.take k:=⟨_,rfl⟩
   have hNl:N.length=k:=by rw [hN,List.length_take];have:=HL.out;omega
   rw [← hN] at own8 own9
   obtain ⟨a8,c8,rfl,_,hc8,hm8⟩:=own8.sl3 (fun _=>rfl)
   rw [hNl] at own8 hc8 ⊢
   have HN:=lH hN
   have HNL:=lH hNl
   have N0:Hid (checkN N=0):=lH (by rw [hN];exact check_sub (List.take_sublist _ _) H0.out)
   have OWN9:=lH own9
   have OWN8:=lH own8
   have KW:=lH kw
   have zk:=kw.size
   have hki:(k:Int)<(n:Int):=by omega
   clear hN hNl own8 own9 kw
   go_upto_if 22 with fail
   go_cut [11] from 15 to 53 (fun v wx=>FrCut N b wi v wx)
   case first =>
    by_cases hk0:k=0
    ·have d1:¬ (k:Int)>0:=by omega
     have hN0:Hid (N=[]):=lH (List.eq_nil_of_length_eq_zero (by rw [HNL.out];exact hk0))
     have CUT:=lH (show FrCut N b wi (.int .i64 0) wi from ⟨0,rfl,.inl hN0.out,T,Exb.refl _ _⟩)
     clear hk0 T
     go_wp2_with fail
     go_meet
     exact CUT.out
    ·have d1:(k:Int)>0:=by omega
     have hk1:(1:Int)≤(k:Int):=by omega
     clear hk0
     go_wp2_with fail
     refine (next_t (k:Int) _ T hk1 (by omega)).mono ?_
     rintro e w2 ⟨r,rfl,r0,r1,T2,kk⟩
     obtain ⟨j,rfl⟩:=Int.eq_ofNat_of_zero_le r0
     have hj:j<k:=by omega
     have S8:=OwnL.slv (OWN8.out.nxb hbw kk) (fun _=>rfl)
     obtain ⟨x2,o2,y,rfl,hx2,hy,hc⟩:=S8.at hj
     have e0:w2.cell? ⟨x2,o2+j*3,none⟩=some (.int .i64 y.id):=hc 0 _ rfl
     have CUT:=lH (show FrCut N b wi (.int .i64 y.id) w2 from ⟨y.id,rfl,.inr (by rw [find_in N0.out (List.mem_of_getElem? hy)]),T2,kk⟩)
     clear hc hy hx2 kk r0 r1 S8 T T2
     go_wp2_with fail
     go_meet
     exact CUT.out
   case rest =>
    obtain ⟨frm,rfl,hfr,T2,k2⟩:=hcut
    rename World=>w2
    clear T
    have KW:=lH (KW.out.nxb k2)
    have own8:=OWN8.out.nxb hbw k2
    have S8:=OwnL.slv own8 (fun _=>rfl)
    have own9:=OWN9.out.nxb hbw k2
    obtain ⟨a9,c9,rfl,L9,_,_,_,_⟩:=OwnN.nl (encA:=encI) (encB:=encS) (s1:=2) (s2:=2) (fun _=>rfl) (fun _=>rfl) own9
    have SX:=(SL.out.nxb KW.out).sl
    obtain ⟨x1,o1,x,rfl,hx1,hx,hc⟩:=SX.at hkn
    have c0:w2.cell? ⟨x1,o1+k*3,none⟩=some (.int .i64 x.id):=hc 0 _ rfl
    have c1:w2.cell? ⟨x1,o1+k*3+1,none⟩=some (.string x.key):=hc 1 _ rfl
    have c2:w2.cell? ⟨x1,o1+k*3+1+1,none⟩=some (.int .u32 x.word):=by simpa [Nat.add_assoc] using hc 2 _ rfl
    have hTK:Hid (l.take (k+1)=N++[x]):=lH (by rw [HN.out];exact take_snocN l k x hx)
    have NX0:Hid (checkN (N++[x])=0):=lH (by rw [← hTK.out];exact check_sub (List.take_sublist _ _) H0.out)
    have hxw:=HW.out x (List.mem_of_getElem? hx)
    have hNW:∀ y∈N,y.word<4294967296:=fun y hy=>HW.out y (by rw [HN.out] at hy;exact List.mem_of_mem_take hy)
    have TG:=T0.out.nxb hgt KW.out
    have HINS:Hid (insertN N (buildN N (h:Int)).1 x frm h=((buildN (N++[x]) h).1,(routeN N (buildN N (h:Int)).1 frm x.key).1.length+visS (N++[x]) x h,0)):=lH (ins_ok NX0.out hh hfr)
    have BS:=buildN_small N (h:Int) (by rw [HNL.out];omega)
    have BS1:=BS.1
    have BS2:∀ c∈(buildN N (h:Int)).1,c.2.length≤9223372036854775807:=fun c hc=>Nat.le_trans (BS.2 c hc) (by omega)
    have OWN8:=lH own8
    have T2:=lH T2
    have zk2:=k2.size
    clear hc hx hfr own8 own9 k2 SX BS OWN9
    go_wp2_with fail
    (with_reducible refine (insert_p _ _ _ N _ _ _ (buildN N (h:Int)).1 x frm (h:Int) _ S8 (by omega) hc8 hm8 hNW hxw TG L9 (by omega) BS2).mono ?_)
    rintro e w3 ⟨v12,q12,rfl,own12,kk⟩
    rw [HINS.out] at own12 ⊢
    have own8:=OWN8.out.nx kk
    have c0:=kk.cellv c0 hx1
    have c1:=kk.cellv c1 hx1
    have c2:=kk.cellv c2 hx1
    have T3:=T2.out.nx kk
    have KW3:=lH (KW.out.nxb (kk.b b))
    have zk3:=kk.size
    have O12:=lH own12
    have H8:=lH (fun g (hg:(Value.slice a8 k c8).ownBlock=some g)=>(OWN8.out.lt g hg).2)
    have hb2:=T2.out.lt
    have hkn2:N.length≤1000000:=by rw [HNL.out];omega
    clear kk own12 S8 L9 TG BS1 BS2 hNW
    go_upto_region 12 with fail
    go_wp2_with (at_builtin;(refine wpList_append_lit (enc:=encN) w3 rfl _ _ 25 rfl w.heap.size 38 (.agg #[.int .i64 0,.string ByteArray.empty,.int .u32 0]) 3 32 Tryd.underlying25 Tryd.infoN rfl (by omega) (by omega) _ N own8 rfl x _ rfl rfl (by simp [encN,Value.oneCell']) _ rfl rfl hkn2 (by omega) _ ?_);intro v4 w4 own4 ch0 ch1 _)
    have own5:OwnLk w2.heap.size w4 v12 q12 (buildN (N++[x]) (h:Int)).1:=keepK (b:=b) (N:=N) (base:=0) O12.out (Exb.refl _ _) hb2 H8.out ch0
    refine ⟨⟨k+1,q12,by have:=HL.out;omega,by go_num,by rw [hTK.out];exact own4,by rw [hTK.out];exact OwnN.base own5 (by omega),TP.chg T3 ch1 (fun y hy=>by omega),Chg.trans KW3.out (ch1.mono (fun y hy=>hy.1))⟩,by simp [intOf];omega⟩
  ·obtain rfl:k=n:=by have:=HL.out;omega
   rw [List.take_of_length_le (by have:=HL.out;omega)] at own9
   have OWN9:=lH own9
   have KW:=lH kw
   have TT:=lH T
   clear own8 own9 kw T
   go_wp2_with fail
   go_ret2
   exact ⟨_,_,rfl,OWN9.out,TT.out,KW.out⟩
set_option maxRecDepth 100000 in
set_option maxHeartbeats 16000000 in
theorem spliceorders_walk (a1:Option Addr) (n1 c1:Nat) (l1:List Int) (turn:Int) (w:World) (h1:Sl 1 encI w a1 n1 l1) (hc1:n1≤c1) (hm1:c1≤maxLen) (hT:TabG w) (hL:LetG w) :
  Calls Tryd.prog 3 #[.slice a1 n1 c1,.int .i64 turn] w fun e w'=>e=.returned (.bool true)∧Ex w w':=by
 go_enter Tryd.func3,Tryd.ntmps3
 go_wp2_with fail
 refine (new_t _ _ _ l1 _ h1 hc1 hm1).mono ?_
 rintro e w1 ⟨rfl,T,kk,z1⟩
 obtain ⟨b,hb⟩:∃ b,b=w.heap.size:=⟨_,rfl⟩
 rw [← hb] at T ⊢
 have hgt:¬ 1=b:=by have:=hT.lt;omega
 have hgl:¬ 0=b:=by have:=hL.lt;omega
 have T1:Hid (TabG w1):=lH (hT.nx kk)
 have L1:Hid (LetG w1):=lH (hL.nx kk)
 have QL:Hid (Exl b w w1):=lH ⟨kk,by omega⟩
 clear h1 hT hL kk hb z1
 have hbo:=T.lt
 go_wp2_with fail
 refine (some_n 7 _ T L1.out hgl (by omega) (by omega)).mono ?_
 clear T
 rintro e w2 ⟨v1,L,rfl,R0,hL1⟩
 replace T1:=lH (T1.out.nxb hgt R0.k)
 replace L1:=lH (L1.out.nxb hgl R0.k)
 replace QL:=lH (QL.out.nxb R0.k)
 obtain ⟨aX,cX,rfl,SX,hcX,hmX,_⟩:=R0.own.slf (fun _=>rfl)
 have SX:=SX.slb hbo
 have RL:=R0.len
 have RC:=lH R0.ok
 have RN:=lH (roster_ok R0.ok)
 have XW:Hid (∀ x∈L,x.word<4294967296):=lH (fun x hx=>(RN.out x hx).1.2.1)
 have T:=R0.tape
 clear R0
 go_wp2_with fail
 refine (next_t 4 _ T (by omega) (by omega)).mono ?_
 clear T
 rintro e w3 ⟨r,rfl,r0,r1,T,kk⟩
 replace T1:=lH (T1.out.nxb hgt kk)
 replace L1:=lH (L1.out.nxb hgl kk)
 replace QL:=lH (QL.out.nxb kk)
 replace SX:=SX.nxb kk
 clear kk
 obtain ⟨h,rfl⟩:=Int.eq_ofNat_of_zero_le r0
 have hh:h≤16:=by omega
 clear r0 r1
 go_wp2_with fail
 refine (mod_any turn (L.length:Int) _ (by omega) (by omega)).mono ?_
 rintro e wz ⟨rfl,rfl⟩
 obtain ⟨m,hm⟩:∃ m:Nat,turn % (L.length:Int)=(m:Int):=⟨(turn % (L.length:Int)).toNat,by have:=Int.emod_nonneg turn (show (L.length:Int)≠0 by omega);omega⟩
 have hm6:m<L.length:=by have:=Int.emod_lt_of_pos turn (show (0:Int)<(L.length:Int) by omega);omega
 rw [hm]
 clear hm
 have hb3:=T.lt
 go_wp2_with fail
 refine (grow_t _ _ _ L h _ T SX (by omega) RC.out XW.out hh T1.out hgt).mono ?_
 clear T
 rintro e w4 ⟨v9,q9,rfl,own9,T,kk⟩
 replace T1:=lH (T1.out.nxb hgt kk)
 replace L1:=lH (L1.out.nxb hgl kk)
 replace QL:=lH (QL.out.nxb kk)
 replace SX:=SX.nxb kk
 clear kk
 obtain ⟨LB,hLB⟩:∃ LB,LB=(buildN L (h:Int)).1:=⟨_,rfl⟩
 rw [← hLB] at own9
 have BL:=lH (buildN_small L (h:Int) (by omega))
 rw [← hLB] at BL
 have HLB:=lH hLB
 have PERM:Hid ((L.drop m++L.take m).Perm L):=lH (by
  have:=(List.perm_append_comm (l₁:=L.drop m) (l₂:=L.take m))
  rwa [List.take_append_drop] at this)
 obtain ⟨x1,o1,_,rfl,_,_,_⟩:=SX.sl.at (j:=0) (by omega)
 have SD:=lH (fun (cur:World) (k:Ex w4 cur)=>(SX.sl.nx k).drop (m:=m) (by omega))
 have ST:=lH (fun (cur:World) (k:Ex w4 cur)=>(SX.sl.nx k).take (m:=m) (by omega))
 have OWN0:=lH (fun (cur:World) (k:Ex w4 cur)=>(OwnL.lit (enc:=encN) (sz:=3) (e:=38) (base:=w4.heap.size) (w:=cur) ([]:List Nd) (fun _=>rfl) k.size (Nat.zero_le _) (cs:=#[]) rfl))
 have TT:=lH T
 have T1x:=lH (fun (cur:World) (k:Ex w4 cur)=>T1.out.nx k)
 have hb4:=T.lt
 have q1:(m:Int)≤(cX:Int):=by omega
 have q2:(m:Int)≤(L.length:Int):=by omega
 have q3:¬ cX=m:=by omega
 clear T hLB
 go_upto_region 5 with fail
 refine wp_region_late_drew (S:=Ex w4) [11] (by kernel_rfl) ((Ex.refl w4).drew) (fun hHeld=>?_)
 obtain ⟨wd,hwdx⟩:∃ wd:World,wd=World.drew w4:=⟨_,rfl⟩
 rw [← hwdx] at hHeld ⊢
 have hDrew:Ex w4 wd:=by rw [hwdx];exact (Ex.refl w4).drew
 clear hwdx
 refine tkL 0 (v:=?_) rfl (by kernel_rfl) (fun _ _ _ h=>h) (by rfl) ?y1x0q5 (by assumption) ?z1x0q5
 case y1x0q5=>intro wq hSw;(go_simp);(try with_reducible rfl)
 refine tkL 2 (v:=?_) rfl (by kernel_rfl) (fun _ _ _ h=>h) (by rfl) ?y1x2q8 (by assumption) ?z1x2q8
 case y1x2q8=>intro wq hSw;(go_simp);(try with_reducible rfl)
 refine tkL 3 (v:=?_) rfl (by kernel_rfl) (fun _ _ _ h=>h) (by rfl) ?y1x3q11 (by assumption) ?z1x3q11
 case y1x3q11=>intro wq hSw;(go_simp);(try with_reducible rfl)
 refine tkL 4 (v:=?_) rfl (by kernel_rfl) (fun _ _ _ h=>h) (by rfl) ?y1x4q14 (by assumption) ?z1x4q14
 case y1x4q14=>intro wq hSw;(go_simp);(try with_reducible rfl)
 refine tkL 6 (v:=?_) rfl (by kernel_rfl) (fun _ _ _ h=>h) (by rfl) ?y1x6q17 (by assumption) ?z1x6q17
 case y1x6q17=>intro wq hSw;(go_simp);(try with_reducible rfl)
 refine tkL 7 (v:=?_) rfl (by kernel_rfl) (fun _ _ _ h=>h) (by rfl) ?y1x7q20 (by assumption) ?z1x7q20
 case y1x7q20=>intro wq hSw;(go_simp);(try with_reducible rfl)
 refine tkL 8 (v:=?_) rfl (by kernel_rfl) (fun _ _ _ h=>h) (by rfl) ?y1x8q23 (by assumption) ?z1x8q23
 case y1x8q23=>intro wq hSw;(go_simp);(try with_reducible rfl)
 refine tkL 10 (v:=?_) rfl (by kernel_rfl) (fun _ _ _ h=>h) (by rfl) ?y1x10q26 (by assumption) ?z1x10q26
 case y1x10q26=>intro wq hSw;(go_simp);(try with_reducible rfl)
 refine wpAnyL_ready (rs:=[1]) (by kernel_rfl) (by simp) ?_
 refine AllReadyL.cons (o:=⟨_,_,_,_,_,_⟩) rfl (fun K hK=>?_) AllReadyL.nil
 go_simp
 have own6:=OWN0.out _ hHeld
 have j6:=hHeld.alloc (.cells #[] 38)
 refine hK.out _ _ (j6) (fun hHeld=>?_)
 clear hK K
 refine wpAnyL_ready (rs:=[5]) (by kernel_rfl) (by simp) ?_
 refine AllReadyL.cons (o:=⟨_,_,_,_,_,_⟩) rfl (fun K hK=>?_) AllReadyL.nil
 rw [if_pos (by rfl)]
 have s0:=SD.out _ hHeld
 have z0:=Ex.size hHeld
 refine wp_append_rd (enc:=encN) _ (.tmp 32) (.tmp 35) 25 rfl w4.heap.size 38 (.agg #[.int .i64 0,.string ByteArray.empty,.int .u32 0]) 3 32 Tryd.underlying25 Tryd.infoN rfl (by omega) (by omega) _ [] own6 rfl _ _ _ _ (L.drop m) s0 (fun h=>by cases h) (fun _=>rfl) (by simp [encN,Value.oneCell']) rfl (by simp) (by omega) z0 ?_
 intro v7 w7 own7 ch0 ch1
 have j7:Ex w4 w7:=Chg.trans hHeld ch1
 rw [List.nil_append] at own7
 clear ch0 ch1 s0 z0 own6
 refine hK.out _ _ (j7) (fun hHeld=>?_)
 clear hK K
 refine wpAnyL_ready (rs:=[9]) (by kernel_rfl) (by simp) ?_
 refine AllReadyL.cons (o:=⟨_,_,_,_,_,_⟩) rfl (fun K hK=>?_) AllReadyL.nil
 rw [if_pos (by rfl)]
 have s0:=ST.out _ hHeld
 have z0:=Ex.size hHeld
 refine wp_append_rd (enc:=encN) _ (.tmp 36) (.tmp 39) 25 rfl w4.heap.size 38 (.agg #[.int .i64 0,.string ByteArray.empty,.int .u32 0]) 3 32 Tryd.underlying25 Tryd.infoN rfl (by omega) (by omega) _ (L.drop m) own7 rfl _ _ _ _ (L.take m) s0 (fun h=>by cases h) (fun _=>rfl) (by simp [encN,Value.oneCell']) rfl (by rw [List.length_drop];omega) (by omega) z0 ?_
 intro v8 w8 own8 ch0 ch1
 have j8:Ex w4 w8:=Chg.trans hHeld ch1
 clear ch0 ch1 s0 z0 own7
 obtain ⟨PL,hPL⟩:∃ PL,PL=L.drop m++L.take m:=⟨_,rfl⟩
 rw [← hPL] at own8
 have HPL:=lH hPL
 have hlp:PL.length=L.length:=by rw [hPL];exact PERM.out.length_eq
 clear hPL
 obtain ⟨A8,C8,rfl,S8,hc8,hm8,_⟩:=own8.slf (fun _=>rfl)
 have S8:=S8.slb hb4
 rw [hlp] at S8 hc8
 clear own8
 refine hK.out _ _ (j8) (fun hHeld=>?_)
 clear hK K
 refine wpAnyL_ready (rs:=[11]) (by kernel_rfl) (by simp) ?_
 refine AllReadyL.consL (o:=⟨_,_,_,_,_,_⟩) rfl (by rfl) (fun K hK=>?_) AllReadyL.nil
 go_simp
 have TX:=TT.out.nx hHeld
 have T1y:=T1x.out _ hHeld
 have hb8:=TX.lt
 (with_reducible refine (grow_t _ _ _ PL h _ TX S8 (by omega) (by rw [HPL.out];exact check_perm PERM.out RC.out) (fun x hx=>XW.out x (PERM.out.mem_iff.1 (by rw [← HPL.out];exact hx))) hh T1y hgt).mono ?_)
 rintro e w9 ⟨v11,q11,rfl,own11,T9,kk⟩
 rw [show (buildN PL (h:Int)).1=LB from by rw [HPL.out,build_perm PERM.out RC.out,← HLB.out]] at own11
 have kk:Exb b w4 w9:=(hHeld.b b).nxb kk
 clear hHeld TX S8 T1y T9
 refine hK.out _ _ ?_
 clear hK K
 refine wpAnyL_takeP (i:=12) (oi:=⟨_,_,_,_,_,_⟩) (v:=?_) rfl (by kernel_rfl) (by kernel_rfl) (by kernel_rfl) (fun _ _ _ h=>h) (Or.inl ⟨by rfl,?y1x12q85⟩) ?z1x12q85
 case y1x12q85=>intro wq hSw;(go_simp);(try with_reducible rfl)
 refine wpAnyL_takeP (i:=13) (oi:=⟨_,_,_,_,_,_⟩) (v:=?_) rfl (by kernel_rfl) (by kernel_rfl) (by kernel_rfl) (fun _ _ _ h=>h) (Or.inl ⟨by rfl,?y1x13q88⟩) ?z1x13q88
 case y1x13q88=>intro wq hSw;(go_simp);(try with_reducible rfl)
 refine wpAnyL_takeP (i:=14) (oi:=⟨_,_,_,_,_,_⟩) (v:=?_) rfl (by kernel_rfl) (by kernel_rfl) (by kernel_rfl) (fun _ _ _ h=>h) (Or.inl ⟨by rfl,?y1x14q91⟩) ?z1x14q91
 case y1x14q91=>intro wq hSw;(go_simp);(try with_reducible rfl)
 refine wpAnyL_takeP (i:=15) (oi:=⟨_,_,_,_,_,_⟩) (v:=?_) rfl (by kernel_rfl) (by kernel_rfl) (by kernel_rfl) (fun _ _ _ h=>h) (Or.inl ⟨by rfl,?y1x15q94⟩) ?z1x15q94
 case y1x15q94=>intro wq hSw;(go_simp);(try with_reducible rfl)
 refine wpAnyL_takeP (i:=16) (oi:=⟨_,_,_,_,_,_⟩) (v:=?_) rfl (by kernel_rfl) (by kernel_rfl) (by kernel_rfl) (fun _ _ _ h=>h) (Or.inl ⟨by rfl,?y1x16q97⟩) ?z1x16q97
 case y1x16q97=>intro wq hSw;(go_simp);(try with_reducible rfl)
 refine wpAnyL_done (by kernel_rfl) ?_ _
 replace T1:=lH (T1.out.nxb hgt kk)
 replace L1:=lH (L1.out.nxb hgl kk)
 replace QL:=lH (QL.out.nxb kk)
 replace SX:=SX.nxb kk
 replace own9:=own9.nxb hb3 kk
 clear kk hDrew SD ST OWN0 TT T1x
 have S:=SX.sl
 obtain ⟨aL,cL,rfl,L9,_,_,_,_⟩:=OwnN.nl (encA:=encI) (encB:=encS) (s1:=2) (s2:=2) (fun _=>rfl) (fun _=>rfl) own9
 obtain ⟨aM,cM,rfl,LM,_,_,_,_⟩:=OwnN.nl (encA:=encI) (encB:=encS) (s1:=2) (s2:=2) (fun _=>rfl) (fun _=>rfl) own11
 have QX:=QL.out.1
 have TG:=T1.out
 clear SX own9 own11 QL T1 L1
 have L9:=lH L9
 have LM:=lH LM
 have BL1:=BL.out.1
 have BL2:Hid (∀ c∈LB,c.2.length≤9223372036854775807):=lH (fun c hc=>Nat.le_trans (BL.out.2 c hc) (by omega))
 have HEX:Hid (exactI L LB h=true):=lH (by rw [HLB.out];exact exact_build RC.out hh)
 go_wp2_with fail
 (with_reducible refine (samelk_g _ _ _ _ _ _ LB LB _ L9.out LM.out (by omega) BL2.out).mono ?_)
 rintro e z1 ⟨rfl,kk⟩
 replace S:=S.nx kk
 replace L9:=lH (L9.out.nx kk)
 replace LM:=lH (LM.out.nx kk)
 replace QX:=QX.nx kk
 replace TG:=TG.nx kk
 clear kk
 rw [decide_eq_true (rfl:LB=LB)]
 go_wp2_with fail
 (with_reducible refine (exact_p _ _ _ L _ _ _ LB (h:Int) _ S (by omega) hcX hmX XW.out TG L9.out (by omega) BL2.out).mono ?_)
 rintro e z2 ⟨rfl,kk⟩
 replace S:=S.nx kk
 replace L9:=lH (L9.out.nx kk)
 replace LM:=lH (LM.out.nx kk)
 replace QX:=QX.nx kk
 replace TG:=TG.nx kk
 clear kk
 rw [HEX.out]
 go_wp2_with fail
 (with_reducible refine (sane10_x _ TG).mono ?_)
 rintro e z9 ⟨rfl,kk⟩
 replace S:=S.nx kk
 replace L9:=lH (L9.out.nx kk)
 replace LM:=lH (LM.out.nx kk)
 replace QX:=QX.nx kk
 replace TG:=TG.nx kk
 clear kk
 go_wp2_with fail
 go_ret
 exact ⟨rfl,QX⟩
end Go.Proofs.YtalmjklljofhbaaDoor
/-
 SpliceOrders returns true for every list of numbers and every number,and leaves its arguments as they were.
 Condition: the table of math/bits and the letters of the keys are as the program text lays them (tied by the card).
-/
namespace Go.Proofs.YtalmjklljofhbaaDoor
open Go.RowKit
open Go.ChangeShapes Go.WideShapes Go.ChangeAt Go.RowKit Go.Deep Go.Joins
open Go.ChangeMaps (open_string shut_string)
set_option linter.unusedVariables false
theorem Tryd.cellsInt:Tryd.prog.cellsOf 3=1:=by kernel_rfl
set_option maxRecDepth 100000 in
set_option maxHeartbeats 1000000 in
theorem spliceOrders_lifted (os:Os) (started:os.Started) (H:Type) (enc:TypeId×Value→H) :
  ReturnsInHanded {} Tryd.checked os 3 .any (fun w args=>(Rows.spliceOrdersSpec.pre enc Tryd.prog Tryd.f3 [] false w args∧laidMetH Tryd.prog Rows.spliceOrdersRow.laid w)∧sizedMet enc Tryd.prog Tryd.f3 (OpenSpec.ofChange Rows.spliceOrdersSpec) false w args)
   (Rows.spliceOrdersSpec.post enc Tryd.prog Tryd.f3 false true false false):=by
 refine returnsInHanded_of_change_and (C:=Tryd.checked) (X:=fun w _=>laidMetH Tryd.prog Rows.spliceOrdersRow.laid w) (fun _ _ _ hh h=>h.of_heap hh) own started (by kernel_rfl) Tryd.func3
  (ChangeSpec.witness_shaped (enc:=enc) (C:=Tryd.checked) (os:=os) (X:=fun w _=>laidMetH Tryd.prog Rows.spliceOrdersRow.laid w) false (World.doorLaid Tryd.prog 400 os) #[.slice none 0 0,.int .i64 0] 8 rfl (World.shaped_of_RefB (by kernel_rfl) (by kernel_rfl)) (by kernel_rfl) (by kernel_rfl) (by kernel_rfl) (laidMetH_of_parts3 (fuel:=8) (laidMet_of_run' 8 (by kernel_rfl) (by kernel_rfl)) (by kernel_rfl) (by kernel_rfl))) ?_
 intro W base args ds gs before hval0 hW _ _ hL _
 have hval:∀ (j:Nat) t v,Tryd.f3.params[j]?=some t→args[j]?=some v→Value.okWide Tryd.prog W .any base t v:=hval0
 have hW':=hW
 obtain ⟨p,q,hA0,hV,rfl,hfz,hnd⟩:=hW
 have hA:DataW.TrodAll enc Tryd.prog W 0 (fun _=>true) true Tryd.f3.params.toList args.toList ds p:=hA0
 rw [Tryd.params3] at hA hval
 obtain ⟨v0,vs0,d0,ds0,p0,q0,hargs,rfl,rfl,h0,r0⟩:=trodAll_cons hA
 obtain ⟨v1,vs1,d1,ds1,p1,q1,rfl,rfl,rfl,h1,r1⟩:=trodAll_cons r0
 obtain ⟨rfl,rfl,rfl⟩:=trodAll_nil r1
 obtain rfl:args=#[v0,v1]:=by cases args;simp_all
 obtain ⟨rfl,rfl⟩:=trodVars_none hV
 have k0:=h0
 have lt0:∀ x∈p0,x.block<W.heap.size:=by obtain ⟨m,hm⟩:=k0;exact DataW.trod_lt m _ _ _ hm
 have k1:=h1
 have lt1:∀ x∈p1,x.block<W.heap.size:=by obtain ⟨m,hm⟩:=k1;exact DataW.trod_lt m _ _ _ hm
 obtain ⟨A0,n0,cap0,l0,rfl,rd0,hc0,hm0,wf0,nl0⟩:=rd_ints Tryd.underlying22 Tryd.underlying3 Tryd.cellsInt (hval 0 22 v0 rfl rfl) h0
 obtain ⟨a1,rfl,rfl,rfl,wa1⟩:=open_int Tryd.underlying3 (hval 1 3 v1 rfl rfl) h1
 clear hA0 hval0
 have hT:TabG W:=tabG_of hL (by kernel_rfl)
 have hL2:LetG W:=letG_second hL (by kernel_rfl) (by kernel_rfl)
 refine (spliceorders_walk A0 n0 cap0 l0 a1 W rd0 hc0 hm0 hT hL2).mono fun e W' ⟨he,hch⟩=>?_
 have bel:Below W.heap.size W W':=hch.below (fun _ h=>h)
 subst he
 exact ⟨_,rfl,_,_,_,[],_,[],hW',trodAll_mk1 (shut_bool Tryd.underlying4 _),(trodAll_cons_mk (Below.trod laidOut (by kernel_rfl) (of_decide_eq_true (by kernel_rfl)) k0 bel lt0) (trodAll_cons_mk (Below.trod laidOut (by kernel_rfl) (of_decide_eq_true (by kernel_rfl)) k1 bel lt1) trodAll_mk0)),rfl,bel.frame _,fun h=>by cases h⟩
theorem spliceOrders_over:Rows.spliceOrdersRow.holds Tryd.pinned (OpenSpec.ofChange Rows.spliceOrdersSpec) :=
 OpenClaim.holds_of_wide 3 Tryd.f3 rfl rfl rfl rfl rfl rfl rfl ⟨rfl,rfl,rfl,rfl,rfl⟩ rfl rfl rfl rfl rfl (by kernel_rfl) Tryd.func3 (by kernel_rfl)
  (of_decide_eq_true (by kernel_rfl)) (by unfold Func.isWrapper;first | (rw [if_pos (by decide +kernel)];kernel_rfl) | (rw [if_neg (by decide +kernel)];exact ⟨rfl,rfl⟩))
  (fun os started H enc _=>spliceOrders_lifted os started H enc)
theorem SpliceOrders_holds:Rows.SpliceOrdersCardSaid :=
 Claim7.holds_tied_plain_at .later [] [.data, .data] true (true, "517cf27bafc81ed1b48e12ec04a420ffb21250635aea1422c02147852fa62a79") false
  spliceOrders_over (fun _ h=>by cases h) (by kernel_rfl) (fun _ h=>by cases h) spliceOrders_row_tie rfl ⟨rfl,rfl⟩ (by kernel_rfl) rfl
  (fun f fn hf hfn=>by
   obtain rfl : f = 3 := Option.some.inj ((show Tryd.prog.funcNamed "skipgraph/skipgraphlaw10.SpliceOrders" = some 3 by kernel_rfl).symm.trans hf) |>.symm
   obtain rfl:fn=Tryd.f3:=(Option.some.inj (Tryd.func3.symm.trans hfn)).symm
   exact ⟨by kernel_rfl,fun j t ht=>by
    rw [Tryd.params3] at ht
    have hm:t∈[22,3]:=by simpa using Array.mem_of_getElem? ht
    have hall:([22,3].all fun u=>!Tryd.prog.wantsStandIn u)=true:=by kernel_rfl
    exact (show Tryd.prog.wantsStandIn t=false by simpa using List.all_eq_true.1 hall t hm)⟩)
  (by kernel_rfl)
#print axioms SpliceOrders_holds
end Go.Proofs.YtalmjklljofhbaaDoor
