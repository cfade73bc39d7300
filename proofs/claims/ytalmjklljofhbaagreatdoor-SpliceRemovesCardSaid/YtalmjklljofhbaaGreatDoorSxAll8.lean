/- Shared texts. -/
import Derived.Lib.LaidU8
import Derived.Test.YtalmjklljofhbaaGreatDoorSxAll5
set_option linter.unusedSimpArgs false
set_option linter.unusedVariables false

namespace Go.Proofs.YtalmjklljofhbaaGreatDoor
open Go.RowKit
def TabG (w:World):Prop:=∀ j,j<32→w.cell? ⟨1,j,none⟩=some (.int .u8 (Lib.deBruijn32tab.getD j 0))
theorem TabG.lt {w:World} (h:TabG w):1<w.heap.size:=World.block_lt_of_cell? w _ (h 0 (by omega))
theorem TabG.chg {w w':World} (h:TabG w) {S:Nat→Prop} (k:Chg S w w') (hs:S 1):TabG w':=fun j hj=>k.cellv (h j hj) hs
set_option maxHeartbeats 1000000 in
theorem tz32_core (x k idx:Nat) (w:World) (hx0:((x:Int)==0)=false)
  (key:bits BinOp.and IntKind.u32 (x:Int) (-(x:Int) % 4294967296)*125613361 % 4294967296 / 134217728=(idx:Int))
  (hi:idx<32) (hcell:w.cell? ⟨1,idx,none⟩=some (.int .u8 k)) (_hk:k<32) :
  Calls Tryz.prog 172 #[.int .u32 x] w fun e w'=>e=.returned (.int .i64 k)∧w=w':=by
 go_enter Tryz.func172,Tryz.ntmps172
 go_wp2_with (simp only [key])
 go_ret
 exact ⟨rfl,rfl⟩
theorem tz32_zero (w:World):Calls Tryz.prog 172 #[.int .u32 0] w fun e w'=>e=.returned (.int .i64 32)∧w=w':=by
 go_enter Tryz.func172,Tryz.ntmps172
 go_wp2
 go_ret
 exact ⟨rfl,rfl⟩
theorem tz32 (x:Nat) (hx:x<4294967296) (w:World) (hT:TabG w) :
  Calls Tryz.prog 172 #[.int .u32 x] w fun e w'=>e=.returned (.int .i64 (Lib.ctz 32 x))∧w=w':=by
 by_cases hx0:x=0
 ·subst hx0
  exact tz32_zero w
 ·obtain ⟨hlow,hk⟩:=Lib.lowest_bit 32 x hx0 hx
  obtain ⟨hi,htab⟩:=Lib.deBruijn32_at _ hk
  have hcell:=hT _ hi
  rw [htab] at hcell
  exact tz32_core x _ _ w (by simp;omega) (tz32_keyn x _ hx hx0 hlow) hi hcell hk
set_option maxHeartbeats 1000000 in
theorem common_p (a b:Nat) (w:World) (ha:a<4294967296) (hb:b<4294967296) (hT:TabG w) :
  Calls Tryz.prog 155 #[.int .u32 a,.int .u32 b] w fun e w'=>e=.returned (.int .i64 (commonN a b))∧w=w':=by
 have hx:=bits_xor_u32n a b ha hb
 have HT:=lH hT
 clear hT
 by_cases h16:Lib.ctz 32 (a ^^^ b)≤16
 ·have HC:Hid (commonN a b=Lib.ctz 32 (a ^^^ b)):=Nat.min_eq_left h16
  generalize hk:Lib.ctz 32 (a ^^^ b)=k at *
  have HK:=lH hk
  clear hk
  go_enter Tryz.func155,Tryz.ntmps155
  go_wp2_with fail
  refine (tz32 _ (xor_lt ha hb) _ HT.out).mono ?_
  rintro e w1 ⟨rfl,rfl⟩
  rw [HK.out]
  go_wp2_with fail
  go_ret
  exact ⟨by rw [HC.out];first | rfl | exact congrArg (fun z=>Ending.returned (Value.int .i64 z)) (by omega:min (k:Int) 16=(k:Int)),rfl⟩
 ·have HC:Hid (commonN a b=16):=Nat.min_eq_right (by omega)
  generalize hk:Lib.ctz 32 (a ^^^ b)=k at *
  have HK:=lH hk
  clear hk
  go_enter Tryz.func155,Tryz.ntmps155
  go_wp2_with fail
  refine (tz32 _ (xor_lt ha hb) _ HT.out).mono ?_
  rintro e w1 ⟨rfl,rfl⟩
  rw [HK.out]
  go_wp2_with fail
  go_ret
  exact ⟨by rw [HC.out];first | rfl | exact congrArg (fun z=>Ending.returned (Value.int .i64 z)) (by omega:min (k:Int) 16=((16:Nat):Int)),rfl⟩
set_option maxHeartbeats 1000000 in
theorem bit_p (a:Nat) (i:Int) (w:World) (ha:a<4294967296) (hi1:-9223372036854775808≤i) (hi2:i≤9223372036854775807) :
  Calls Tryz.prog 61 #[.int .u32 a,.int .i64 i] w fun e w'=>e=.returned (.int .i64 (bitN a i))∧w=w':=by
 by_cases hi:i<0∨16≤i
 ·have hz:=lH (bit_zero a i hi)
  rcases Int.lt_or_le i 0 with h | h
  ·have d1:decide (i<0)=true:=by simpa using h
   clear hi
   go_enter Tryz.func61,Tryz.ntmps61
   go_wp2
   go_ret
   exact ⟨by rw [hz.out];rfl,rfl⟩
  ·have d1:decide (i<0)=false:=by simpa using h
   have d2:decide (16≤i)=true:=by simp;omega
   clear hi
   go_enter Tryz.func61,Tryz.ntmps61
   go_wp2
   go_ret
   exact ⟨by rw [hz.out];rfl,rfl⟩
 ·have hk:=lH (bit_key a i ha (by omega) (by omega))
  have d1:decide (i<0)=false:=by simp;omega
  have d2:decide (16≤i)=false:=by simp;omega
  have e1:0≤i:=by omega
  have e2:i<16:=by omega
  clear hi
  go_enter Tryz.func61,Tryz.ntmps61
  go_wp2
  go_ret
  exact ⟨by rw [← hk.out];rfl,rfl⟩
set_option maxHeartbeats 1000000 in
theorem same_p (a b:Nat) (h:Int) (w:World) (ha:a<4294967296) (hb:b<4294967296) (hT:TabG w) :
  Calls Tryz.prog 119 #[.int .u32 a,.int .u32 b,.int .i64 h] w fun e w'=>e=.returned (.bool (sameN a b h))∧w=w':=by
 have HT:=lH hT
 clear hT
 go_enter Tryz.func119,Tryz.ntmps119
 go_wp2_with fail
 refine (common_p _ _ _ ha hb HT.out).mono ?_
 rintro e w1 ⟨rfl,rfl⟩
 go_wp2_with fail
 go_ret
 exact ⟨rfl,rfl⟩
theorem wvalid_p (a:Nat) (w:World):Calls Tryz.prog 108 #[.int .u32 a] w fun e w'=>e=.returned (.bool (validN a))∧w=w':=by
 go_enter Tryz.func108,Tryz.ntmps108
 go_wp2
 go_ret
 exact ⟨rfl,rfl⟩
theorem same_pE (a b:Nat) (h:Int) (w:World) (ha:a<4294967296) (hb:b<4294967296) (hT:TabG w) :
  Calls Tryz.prog 119 #[.int .u32 a,.int .u32 b,.int .i64 h] w fun e w'=>e=.returned (.bool (sameN a b h))∧Ex w w' :=
 (same_p a b h w ha hb hT).mono fun _ _ h=>⟨h.1,by rw [← h.2];exact Ex.refl _⟩
theorem TabG.nx {w w':World} (h:TabG w) (k:Ex w w'):TabG w':=h.chg k h.lt
set_option maxHeartbeats 1000000 in
theorem cls1_p (a:Option Addr) (n cp gx gh:Nat) (c:List Nd) (id:Int) (key:ByteArray) (v:Nat) (h:Int) (w:World) (hr:Sl 3 encN w a n c) (hc:0<n) (hn:n≤1000000) (hcw:∀ y∈c,y.word<4294967296) (hv:v<4294967296)
  (hx:Blk w gx [.int .i64 id,.string key,.int .u32 v] 49) (hh:Blk w gh [.int .i64 h] 3) (hT:TabG w) :
  Calls Tryz.prog 189 #[.slice a n cp,.pointer (some ⟨gx,0,none⟩),.pointer (some ⟨gh,0,none⟩)] w fun e w'=>e=.returned (.bool (sameN (headW c) v h))∧Ex w w':=by
 obtain ⟨x1,o1,y,rfl,hx1,hy,hc1⟩:=hr.at hc
 have e2:w.cell? ⟨x1,o1+2,none⟩=some (.int .u32 y.word):=by simpa using hc1 2 _ rfl
 have f2:=hx.cell 2 _ rfl
 have f0:=hh.cell 0 _ rfl
 have lx:=hx.lt
 have lh:=hh.lt
 have hyw:=hcw y (List.mem_of_getElem? hy)
 have hW:headW c=y.word:=by
  cases c with
  | nil=>simp at hy
  | cons z r=>simp at hy;subst hy;rfl
 have HT:=lH hT
 rw [hW]
 clear hW hc1 hy hr hcw hx hh hT
 go_enter Tryz.func189,Tryz.ntmps189
 go_wp2_with fail
 refine wp_region_held_drew (S:=Ex w.drew) (by kernel_rfl) (Ex.refl _) (fun hHeld=>?_)
 refine tkH 0 (v:=?_) rfl (by kernel_rfl) (fun _ _ _ h=>h) (by rfl) ?hyr1x0 (by assumption) ?restr1x0
 case hyr1x0=>intro wq hSw;(go_simp);(try with_reducible rfl)
 refine tkH 1 (v:=?_) rfl (by kernel_rfl) (fun _ _ _ h=>h) (by rfl) ?hyr1x1 (by assumption) ?restr1x1
 case hyr1x1=>intro wq hSw;(go_simp);(try with_reducible rfl)
 refine tkH 2 (v:=?_) rfl (by kernel_rfl) (fun _ _ _ h=>h) (by rfl) ?hyr1x2 (by assumption) ?restr1x2
 case hyr1x2=>intro wq hSw;(go_simp);(try with_reducible rfl)
 refine tkH 3 (v:=?_) rfl (by kernel_rfl) (fun _ _ _ h=>h) (by rfl) ?hyr1x3 (by assumption) ?restr1x3
 case hyr1x3=>intro wq hSw;(have cq:=Chg.cellv hSw e2 hx1;go_simp);(try with_reducible rfl)
 refine tkH 4 (v:=?_) rfl (by kernel_rfl) (fun _ _ _ h=>h) (by rfl) ?hyr1x4 (by assumption) ?restr1x4
 case hyr1x4=>intro wq hSw;(go_simp);(try with_reducible rfl)
 refine tkH 5 (v:=?_) rfl (by kernel_rfl) (fun _ _ _ h=>h) (by rfl) ?hyr1x5 (by assumption) ?restr1x5
 case hyr1x5=>intro wq hSw;(have cq:=Chg.cellv hSw f2 lx;go_simp);(try with_reducible rfl)
 refine tkH 6 (v:=?_) rfl (by kernel_rfl) (fun _ _ _ h=>h) (by rfl) ?hyr1x6 (by assumption) ?restr1x6
 case hyr1x6=>intro wq hSw;(have cq:=Chg.cellv hSw f0 lh;go_simp);(try with_reducible rfl)
 refine wpAnyH_ready (rs:=[7]) (by kernel_rfl) (by simp) ?_
 refine AllReadyH.cons (o:=⟨_,_,_,_,_,_⟩) rfl (fun K hK=>?_) AllReadyH.nil
 go_simp
 (with_reducible refine (same_pE _ _ _ _ hyw hv (HT.out.nx (Ex.refl w).drew)).mono ?_)
 rintro e v1 ⟨rfl,kk⟩
 refine hK.out _ _ kk (fun _=>?_)
 clear hK K
 refine wpAnyH_switch (S':=Ex v1) (fun _ hSw=>Ex.nx kk hSw) ?_
 clear hHeld
 have hHeld:=Ex.refl v1
 refine tkH 8 (v:=?_) rfl (by kernel_rfl) (fun _ _ _ h=>h) (by rfl) ?hyr1x8 (by assumption) ?restr1x8
 case hyr1x8=>intro wq hSw;(go_simp);(try with_reducible rfl)
 refine wpAnyH_done (by kernel_rfl) ?_ _
 go_wp2_with fail
 go_ret
 exact ⟨rfl,(Ex.refl w).drew.nx kk⟩
set_option maxHeartbeats 1000000 in
theorem idx_p (a:Option Addr) (n cp gx gh:Nat) (C:List (List Nd)) (id:Int) (key:ByteArray) (v:Nat) (h:Int) (w:World) (hr:LL w a n C) (hn:n≤1000000) (hC:GoodC C) (hv:v<4294967296)
  (hx:Blk w gx [.int .i64 id,.string key,.int .u32 v] 49) (hh:Blk w gh [.int .i64 h] 3) (hT:TabG w) :
  Calls Tryz.prog 188 #[.slice a n cp,.func (.func 189) #[] #[.pointer (some ⟨gx,0,none⟩),.pointer (some ⟨gh,0,none⟩)]] w
   fun e w'=>e=.returned (.int .i64 (idxV C v h))∧Ex w w':=by
 have HL:=lH hr.len
 have HC:=lH hC
 have HT:=lH hT
 have HX:=lH hx
 have HH:=lH hh
 clear hC hT hx hh
 go_enter Tryz.func188,Tryz.ntmps188
 go_wp2_with fail
 go_loopw [8] (fun i wr=>IdxRel n C v h w i wr) (fun i _=>n-(intOf i).toNat)
 case atStart=>exact ⟨0,by omega,rfl,Ex.refl _,by intro _ _ h;omega⟩
 case round =>
  obtain ⟨k,hk,rfl,kw,hno⟩:=hrel
  have HNO:=lH hno
  clear hno
  obtain ⟨wo,rfl⟩:∃ wo:World,wo=wr:=⟨_,rfl⟩
  by_cases hlt:k<n
  ·obtain ⟨x1,o1,b1,m1,d1,c,rfl,hx1,hy,hc1,r1⟩:=(hr.nx kw).at hlt
   obtain ⟨p1,p2,p3⟩:=HC.out c (List.mem_of_getElem? hy)
   rw [r1.len] at p1 p2
   have HY:=lH hy
   have P3:=lH p3
   clear hy hr hx1 p3
   go_wp2_with fail
   (with_reducible refine (cls1_p _ _ _ _ _ _ _ _ _ _ _ r1 p1 p2 P3.out hv (HX.out.nx kw) (HH.out.nx kw) (HT.out.nx kw)).mono ?_)
   rintro e w2 ⟨rfl,kk⟩
   replace kw:=kw.nx kk
   clear kk hc1 r1
   cases hs:sameN (headW c) v h with
   | true =>
    have HI:Hid (idxV C v h=k):=lH (by unfold idxV;rw [idxC_of HY.out hs HNO.out,if_pos (by rw [HL.out];exact hlt)])
    clear hs
    go_wp2_with fail
    go_ret
    exact ⟨by rw [HI.out];rfl,kw⟩
   | false =>
    have HS:=lH hs
    clear hs
    go_wp2_with fail
    refine ⟨⟨k+1,by omega,by go_num,kw,fun j c' hj hc'=>?_⟩,by simp [intOf];omega⟩
    rcases Nat.lt_or_ge j k with h | h
    ·exact HNO.out j c' h hc'
    ·obtain rfl:j=k:=by omega
     rw [Option.some.inj (hc'.symm.trans HY.out)]
     exact HS.out
  ·obtain rfl:k=n:=by omega
   have HI:Hid (idxV C v h = -1):=lH (by unfold idxV;rw [idxC_none (fun j c hj hc=>HNO.out j c (by rw [← HL.out];exact hj) hc),if_neg (by omega)])
   clear hr hk hlt
   go_wp2_with fail
   go_ret
   exact ⟨by rw [HI.out];rfl,kw⟩
set_option maxRecDepth 100000 in
set_option maxHeartbeats 4000000 in
theorem classes_p (a:Option Addr) (n cp:Nat) (l:List Nd) (h:Int) (w:World) (hs:Sl 3 encN w a n l) (hn:n≤1000) (hw:∀ x∈l,x.word<4294967296) (hT:TabG w) :
  Calls Tryz.prog 170 #[.slice a n cp,.int .i64 h] w (ClPost (classesN l h) w):=by
 have HL:=lH hs.len
 have hs:=lH hs
 have HW:=lH hw
 have HT:=lH hT
 have k1:=Ex.new w (.cells #[.int .i64 h] 3)
 have BH:=Blk.new w [.int .i64 h] 3
 obtain ⟨w1,hw1⟩:∃ w1,w1=w.alloc (.cells #[.int .i64 h] 3):=⟨_,rfl⟩
 obtain ⟨gh,hgh⟩:∃ gh,gh=w.heap.size:=⟨_,rfl⟩
 have BH:Blk w1 gh [.int .i64 h] 3:=by rw [hw1,hgh];exact BH
 rw [← hw1] at k1
 have HW1:=lH hw1
 have HGH:=lH hgh
 have HK1:=lH k1
 have c0:=BH.cell 0 _ rfl
 clear hw hT hw1 hgh k1
 go_enter Tryz.func170,Tryz.ntmps170
 go_upto_region 1 with fail
 rw [← HGH.out,← HW1.out]
 by_cases h16:16<h
 ·have HC:Hid (classesN l h=[]):=lH (classesN_big h16)
  clear BH
  go_wp2_with fail
  go_ret
  exact ⟨none,0,by rw [HC.out];rfl,by rw [HC.out];exact LL.nil _ _,HK1.out⟩
 have HF:=lH (classesN_fold (l:=l) h16)
 have BH:=lH BH
 go_wp2_with fail
 go_loopw [5,13] (fun o i wr=>ClRel l h n w1 o i wr) (fun _ i _=>n-(intOf i).toNat)
 case atStart=>exact ⟨0,[],by omega,rfl,OwnQ.nil _ _,Ex.refl _⟩
 case round =>
  obtain ⟨k,qs,hk,rfl,OQ,kx⟩:=hrel
  obtain ⟨wo,rfl⟩:∃ wo:World,wo=wr:=⟨_,rfl⟩
  by_cases hlt:k<n
  ·obtain ⟨x1,o1,y,rfl,hx1,hy,hc1⟩:=(hs.out.nx (HK1.out.nx kx)).at hlt
   have e0:wo.cell? ⟨x1,o1+k*3,none⟩=some (.int .i64 y.id):=hc1 0 _ rfl
   have e1:wo.cell? ⟨x1,o1+k*3+1,none⟩=some (.string y.key):=hc1 1 _ rfl
   have e2:wo.cell? ⟨x1,o1+k*3+1+1,none⟩=some (.int .u32 y.word):=by simpa [Nat.add_assoc] using hc1 2 _ rfl
   have e2':wo.cell? ⟨x1,o1+k*3+2,none⟩=some (.int .u32 y.word):=hc1 2 _ rfl
   have hyw:=HW.out y (List.mem_of_getElem? hy)
   have FSn:=lH (foldC_snoc h l k y hy)
   have hFL:(foldC h (l.take k)).length≤k:=Nat.le_trans (foldC_length h (l.take k)) (by rw [List.length_take];omega)
   have FF:Hid (Fine 100000 (fun y=>y.word<4294967296) (foldC h (l.take k))):=lH (fun c hc=>by
    have:=foldC_fine (h:=h) (l.take k) (P:=fun y=>y.word<4294967296) (fun y hy=>HW.out y (List.mem_of_mem_take hy)) c hc
    exact ⟨this.1,Nat.le_trans this.2.1 (by rw [List.length_take];omega),this.2.2⟩)
   generalize foldC h (l.take k)=C at OQ FSn hFL FF
   clear hc1 hy
   have B7:=Blk.new wo [.int .i64 y.id,.string y.key,.int .u32 y.word] 49
   have k2:=Ex.new wo (.cells #[.int .i64 y.id,.string y.key,.int .u32 y.word] 49)
   obtain ⟨w2,hw2⟩:∃ w2,w2=wo.alloc (.cells #[.int .i64 y.id,.string y.key,.int .u32 y.word] 49):=⟨_,rfl⟩
   obtain ⟨g7,hg7⟩:∃ g7,g7=wo.heap.size:=⟨_,rfl⟩
   have B7:Blk w2 g7 [.int .i64 y.id,.string y.key,.int .u32 y.word] 49:=by rw [hw2,hg7];exact B7
   rw [← hw2] at k2
   have HW2:=lH hw2
   have HG7:=lH hg7
   replace OQ:=OQ.nx k2
   replace kx:=kx.nx k2
   obtain ⟨a3,cap3,rfl,ll3,hc3,_,_⟩:=OQ.ll
   clear hw2 hg7 k2 c0
   go_upto_region 7 with fail
   rw [← HG7.out,← HW2.out]
   clear e0 e1 e2 e2'
   go_wp2_with fail
   have hGood:GoodC C:=fun c hc=>⟨(FF.out c hc).1,Nat.le_trans (FF.out c hc).2.1 (by omega),(FF.out c hc).2.2⟩
   (with_reducible refine (idx_p _ _ _ _ _ _ _ _ _ _ _ ll3 (by omega) hGood hyw B7 (BH.out.nx kx) (HT.out.nx (HK1.out.nx kx))).mono ?_)
   rintro e w3 ⟨rfl,kk⟩
   replace OQ:=OQ.nx kk
   replace kx:=kx.nx kk
   replace B7:=lH (B7.nx kk)
   obtain ⟨KX,hKX⟩:∃ KX,KX=idxC C y.word h:=⟨_,rfl⟩
   have KI:=lH hKX.symm
   have hKle:KX≤C.length:=by rw [hKX];exact idxC_le _ _ _
   clear kk ll3 hGood
   by_cases hKn:KX=C.length
   ·have IV:idxV C y.word h = -1:=by unfold idxV;rw [← hKX,if_neg (by omega)]
    rw [IV]
    have lq:qs.length≤1000000:=by rw [OQ.2.1];omega
    have zq:=kx.size
    clear hKX IV
    go_upto_region 11 with (at_builtin;(refine wpList_append_lit (enc:=encH) w3 rfl _ _ 201 rfl w1.heap.size 23 (.slice none 0 0) 1 24 Tryz.underlying201 Tryz.infoH rfl (by omega) (by omega) _ _ OQ.1 rfl ((none,0,0):Hdr) _ rfl rfl (by simp [encH,Hdr.val,Value.oneCell']) _ (by simp) rfl lq (by omega) _ ?_);intro vp wp ownp ch0 ch1 _)
    have B7:=lH (B7.out.chg ch0 ⟨B7.out.lt,OQ.ne_blk B7.out⟩)
    have OQ:=OQ.pad ownp ch0
    replace kx:Ex w1 wp:=Chg.trans kx ch1
    obtain ⟨C',hC'⟩:∃ C':List (List Nd),C'=C++[[]]:=⟨_,rfl⟩
    rw [← hC'] at OQ
    have CL:C'.length=C.length+1:=by rw [hC'];simp
    have EC:Hid (C'=padC C KX):=lH (by unfold padC;rw [if_pos (by omega),hC'])
    have CLEN:Hid (∀ c∈C',c.length≤1000000):=lH (fun c hc=>by
     rw [hC'] at hc
     rcases List.mem_append.1 hc with h1 | h1
     ·exact Nat.le_trans (FF.out c h1).2.1 (by omega)
     ·rw [List.mem_singleton.1 h1];simp)
    generalize (qs++[((none,0,0):Hdr)])=qs at OQ
    obtain ⟨wa,rfl⟩:∃ wa:World,wa=wp:=⟨_,rfl⟩
    have hKC:KX<C'.length:=by omega
    have NL:Hid (C'.length≤1000001):=lH (by omega)
    clear hC' CL ownp ch0 ch1
    rw [← hKn]
    clear hKn
    obtain ⟨a4,cap4,he4,ll4,_,_,some4⟩:=OQ.ll
    cases he4
    obtain ⟨g4,e4,hg4⟩:=some4 (by intro h0;rw [h0] at hKC;simp at hKC)
    first | subst e4 | (obtain rfl:g4=g3:=by cases e4;rfl)
    obtain ⟨c,hc⟩:∃ c,C'[KX]?=some c:=⟨C'[KX]'hKC,by simp⟩
    obtain ⟨⟨qa,qn,qc⟩,hq⟩:∃ q:Hdr,qs[KX]?=some q:=⟨qs[KX]'(by rw [OQ.2.1];exact hKC),by simp⟩
    have hcl:c.length≤1000000:=CLEN.out c (List.mem_of_getElem? hc)
    obtain ⟨cy,hcy⟩:∃ cy:List Nd,cy=c++[y]:=⟨_,rfl⟩
    have FIN:Hid (stepC h C y=C'.set KX cy):=lH (by unfold stepC;rw [KI.out,← EC.out,hc,hcy];rfl)
    have HCY:=lH hcy
    clear hcy
    have HQ:=lH hq
    have HCC:=lH hc
    have hn4:(KX:Int)<(C'.length:Int):=by omega
    have hn5:C'.length≤1000001:=NL.out
    clear hc hq ll4 some4
    go_wp2_with fail
    have OQ:=lH (OQ.nx (Ex.refl wa).drew)
    have kx:=kx.nx (Ex.refl wa).drew
    have SXF:∀ cur:World,Sl 3 encN (cur.alloc (.cells #[.int .i64 y.id,.string y.key,.int .u32 y.word] 49)) (some ⟨cur.heap.size,0,none⟩) 1 [y]:=fun cur=>Sl.lit _ rfl rfl (fun _=>rfl) rfl
    refine wp_region_held_drew (S:=fun _=>True) (by kernel_rfl) (trivial) (fun hHeld=>?_)
    refine tkH 0 (v:=?_) rfl (by kernel_rfl) (fun _ _ _ h=>h) (by rfl) ?y1x0q1 (by assumption) ?z1x0q1
    case y1x0q1=>intro wq hSw;(go_simp);(try with_reducible rfl)
    refine tkH 1 (v:=?_) rfl (by kernel_rfl) (fun _ _ _ h=>h) (by rfl) ?y1x1q4 (by assumption) ?z1x1q4
    case y1x1q4=>intro wq hSw;(go_simp);(try with_reducible rfl)
    refine tkH 2 (v:=?_) rfl (by kernel_rfl) (fun _ _ _ h=>h) (by rfl) ?y1x2q7 (by assumption) ?z1x2q7
    case y1x2q7=>intro wq hSw;(go_simp);(try with_reducible rfl)
    refine tkH 3 (v:=?_) rfl (by kernel_rfl) (fun _ _ _ h=>h) (by rfl) ?y1x3q10 (by assumption) ?z1x3q10
    case y1x3q10=>intro wq hSw;(go_simp);(try with_reducible rfl)
    refine tkH 4 (v:=?_) rfl (by kernel_rfl) (fun _ _ _ h=>h) (by rfl) ?y1x4q13 (by assumption) ?z1x4q13
    case y1x4q13=>intro wq hSw;(go_simp);(try with_reducible rfl)
    refine wpAnyH_ready (rs:=[5,6]) (by kernel_rfl) (by simp) ?_
    refine AllReadyH.cons (o:=⟨_,_,_,_,_,_⟩) rfl (fun K hK=>?_) ?_
    ·have cc:=(own_cellH OQ.out.1 HQ.out).1
     simp only [Hdr.val] at cc
     (try have cc2:(wa.alloc (.cells #[.int .i64 y.id,.string y.key,.int .u32 y.word] 49)).cell? ⟨g4,KX,none⟩=some (.slice qa qn qc):=cc)
     go_simp
     clear cc
     (try clear cc2)
     refine hK.out _ _ (trivial) (fun hHeld=>?_)
     clear hK K
     refine wpAnyH_ready (rs:=[6]) (by kernel_rfl) (by simp) ?_
     refine AllReadyH.cons (o:=⟨_,_,_,_,_,_⟩) rfl (fun K hK=>?_) AllReadyH.nil
     have b0:=B7.out.cell 0 _ rfl
     have b1:=B7.out.cell 1 _ rfl
     have b2:=B7.out.cell 2 _ rfl
     go_simp
     clear b0 b1 b2
     refine hK.out _ _ (trivial) (fun hHeld=>?_)
     clear hK K
     refine wpAnyH_ready (rs:=[7]) (by kernel_rfl) (by simp) ?_
     refine AllReadyH.cons (o:=⟨_,_,_,_,_,_⟩) rfl (fun K hK=>?_) AllReadyH.nil
     go_simp
     have SX:=SXF wa.drew
     have e7:=Ex.new wa.drew (.cells #[.int .i64 y.id,.string y.key,.int .u32 y.word] 49)
     replace OQ:=lH (OQ.out.nx e7)
     replace kx:=kx.nx e7
     clear e7
     refine hK.out _ _ (trivial) (fun hHeld=>?_)
     clear hK K
     refine wpAnyH_ready (rs:=[8]) (by kernel_rfl) (by simp) ?_
     refine AllReadyH.cons (o:=⟨_,_,_,_,_,_⟩) rfl (fun K hK=>?_) AllReadyH.nil
     rw [if_pos (by rfl)]
     have z0:=Ex.size kx
     have oi:=OQ.out.2.2.1 KX _ _ HQ.out HCC.out
     refine wp_append_rda (enc:=encN) _ (.tmp 32) (.tmp 34) 23 rfl w1.heap.size 49 (.agg #[.int .i64 0,.string ByteArray.empty,.int .u32 0]) 3 32 Tryz.underlying23 Tryz.infoN rfl (by omega) (by omega) _ c oi rfl _ _ 1 1 [y] SX (fun h=>by cases h) (fun _=>rfl) (by simp [encN,Value.oneCell']) rfl (by omega) (by omega) z0 ?_
     intro v8 w8 own8 ch0 ch1 hat
     rw [← HCY.out] at own8
     obtain ⟨a8,cap8,rfl,_,_,_,_⟩:=own8.rd (fun _=>rfl)
     obtain ⟨pc,pf,OQ2⟩:=OwnQ.put (q':=(a8,cy.length,cap8)) OQ.out HQ.out own8 ch0 hat
     replace kx:Ex w1 w8:=Chg.trans kx ch1
     replace OQ:=lH OQ2
     clear OQ2 own8 ch0 ch1 hat oi z0 SX
     refine hK.out _ _ (trivial) (fun hHeld=>?_)
     clear hK K
     refine tkH 9 (v:=?_) rfl (by kernel_rfl) (fun _ _ _ h=>h) (by rfl) ?y1x9q64 (by assumption) ?z1x9q64
     case y1x9q64=>intro wq hSw;(go_simp);(try with_reducible rfl)
     refine wpAnyH_ready (rs:=[10]) (by kernel_rfl) (by simp) ?_
     refine AllReadyH.cons (o:=⟨_,_,_,_,_,_⟩) rfl (fun K hK=>?_) AllReadyH.nil
     go_simp
     clear pc pf
     refine hK.out _ _ (trivial) (fun hHeld=>?_)
     clear hK K
     refine wpAnyH_done (by kernel_rfl) ?_ _
     replace kx:=kx.setNew (p:=⟨g4,KX,none⟩) (Hdr.val (a8,cy.length,cap8)) hg4
     obtain ⟨wz,hwz⟩:∃ wz,wz=w8.setCell ⟨g4,KX,none⟩ (.slice a8 cy.length cap8):=⟨_,rfl⟩
     have OQ:=lH (OwnQ.cast OQ.out (w':=wz) hwz)
     have kx:Ex w1 wz:=by rw [hwz];exact kx
     rw [← hwz]
     clear hwz SXF hHeld hn5 hcl
     go_wp2_with fail
     exact ⟨⟨k+1,_,by omega,by go_num,by rw [FSn.out,FIN.out];exact OQ.out,kx⟩,by simp [intOf];omega⟩
    refine AllReadyH.cons (o:=⟨_,_,_,_,_,_⟩) rfl (fun K hK=>?_) AllReadyH.nil
    ·have b0:=B7.out.cell 0 _ rfl
     have b1:=B7.out.cell 1 _ rfl
     have b2:=B7.out.cell 2 _ rfl
     go_simp
     clear b0 b1 b2
     refine hK.out _ _ (trivial) (fun hHeld=>?_)
     clear hK K
     refine wpAnyH_ready (rs:=[5,7]) (by kernel_rfl) (by simp) ?_
     refine AllReadyH.cons (o:=⟨_,_,_,_,_,_⟩) rfl (fun K hK=>?_) ?_
     ·have cc:=(own_cellH OQ.out.1 HQ.out).1
      simp only [Hdr.val] at cc
      (try have cc2:(wa.alloc (.cells #[.int .i64 y.id,.string y.key,.int .u32 y.word] 49)).cell? ⟨g4,KX,none⟩=some (.slice qa qn qc):=cc)
      go_simp
      clear cc
      (try clear cc2)
      refine hK.out _ _ (trivial) (fun hHeld=>?_)
      clear hK K
      refine wpAnyH_ready (rs:=[7]) (by kernel_rfl) (by simp) ?_
      refine AllReadyH.cons (o:=⟨_,_,_,_,_,_⟩) rfl (fun K hK=>?_) AllReadyH.nil
      go_simp
      have SX:=SXF wa.drew
      have e7:=Ex.new wa.drew (.cells #[.int .i64 y.id,.string y.key,.int .u32 y.word] 49)
      replace OQ:=lH (OQ.out.nx e7)
      replace kx:=kx.nx e7
      clear e7
      refine hK.out _ _ (trivial) (fun hHeld=>?_)
      clear hK K
      refine wpAnyH_ready (rs:=[8]) (by kernel_rfl) (by simp) ?_
      refine AllReadyH.cons (o:=⟨_,_,_,_,_,_⟩) rfl (fun K hK=>?_) AllReadyH.nil
      rw [if_pos (by rfl)]
      have z0:=Ex.size kx
      have oi:=OQ.out.2.2.1 KX _ _ HQ.out HCC.out
      refine wp_append_rda (enc:=encN) _ (.tmp 32) (.tmp 34) 23 rfl w1.heap.size 49 (.agg #[.int .i64 0,.string ByteArray.empty,.int .u32 0]) 3 32 Tryz.underlying23 Tryz.infoN rfl (by omega) (by omega) _ c oi rfl _ _ 1 1 [y] SX (fun h=>by cases h) (fun _=>rfl) (by simp [encN,Value.oneCell']) rfl (by omega) (by omega) z0 ?_
      intro v8 w8 own8 ch0 ch1 hat
      rw [← HCY.out] at own8
      obtain ⟨a8,cap8,rfl,_,_,_,_⟩:=own8.rd (fun _=>rfl)
      obtain ⟨pc,pf,OQ2⟩:=OwnQ.put (q':=(a8,cy.length,cap8)) OQ.out HQ.out own8 ch0 hat
      replace kx:Ex w1 w8:=Chg.trans kx ch1
      replace OQ:=lH OQ2
      clear OQ2 own8 ch0 ch1 hat oi z0 SX
      refine hK.out _ _ (trivial) (fun hHeld=>?_)
      clear hK K
      refine tkH 9 (v:=?_) rfl (by kernel_rfl) (fun _ _ _ h=>h) (by rfl) ?y1x9q123 (by assumption) ?z1x9q123
      case y1x9q123=>intro wq hSw;(go_simp);(try with_reducible rfl)
      refine wpAnyH_ready (rs:=[10]) (by kernel_rfl) (by simp) ?_
      refine AllReadyH.cons (o:=⟨_,_,_,_,_,_⟩) rfl (fun K hK=>?_) AllReadyH.nil
      go_simp
      clear pc pf
      refine hK.out _ _ (trivial) (fun hHeld=>?_)
      clear hK K
      refine wpAnyH_done (by kernel_rfl) ?_ _
      replace kx:=kx.setNew (p:=⟨g4,KX,none⟩) (Hdr.val (a8,cy.length,cap8)) hg4
      obtain ⟨wz,hwz⟩:∃ wz,wz=w8.setCell ⟨g4,KX,none⟩ (.slice a8 cy.length cap8):=⟨_,rfl⟩
      have OQ:=lH (OwnQ.cast OQ.out (w':=wz) hwz)
      have kx:Ex w1 wz:=by rw [hwz];exact kx
      rw [← hwz]
      clear hwz SXF hHeld hn5 hcl
      go_wp2_with fail
      exact ⟨⟨k+1,_,by omega,by go_num,by rw [FSn.out,FIN.out];exact OQ.out,kx⟩,by simp [intOf];omega⟩
     refine AllReadyH.cons (o:=⟨_,_,_,_,_,_⟩) rfl (fun K hK=>?_) AllReadyH.nil
     ·go_simp
      have SX:=SXF wa.drew
      have e7:=Ex.new wa.drew (.cells #[.int .i64 y.id,.string y.key,.int .u32 y.word] 49)
      replace OQ:=lH (OQ.out.nx e7)
      replace kx:=kx.nx e7
      clear e7
      refine hK.out _ _ (trivial) (fun hHeld=>?_)
      clear hK K
      refine wpAnyH_ready (rs:=[5]) (by kernel_rfl) (by simp) ?_
      refine AllReadyH.cons (o:=⟨_,_,_,_,_,_⟩) rfl (fun K hK=>?_) AllReadyH.nil
      have cc:=(own_cellH OQ.out.1 HQ.out).1
      simp only [Hdr.val] at cc
      (try have cc2:(wa.alloc (.cells #[.int .i64 y.id,.string y.key,.int .u32 y.word] 49)).cell? ⟨g4,KX,none⟩=some (.slice qa qn qc):=cc)
      go_simp
      clear cc
      (try clear cc2)
      refine hK.out _ _ (trivial) (fun hHeld=>?_)
      clear hK K
      refine wpAnyH_ready (rs:=[8]) (by kernel_rfl) (by simp) ?_
      refine AllReadyH.cons (o:=⟨_,_,_,_,_,_⟩) rfl (fun K hK=>?_) AllReadyH.nil
      rw [if_pos (by rfl)]
      have z0:=Ex.size kx
      have oi:=OQ.out.2.2.1 KX _ _ HQ.out HCC.out
      refine wp_append_rda (enc:=encN) _ (.tmp 32) (.tmp 34) 23 rfl w1.heap.size 49 (.agg #[.int .i64 0,.string ByteArray.empty,.int .u32 0]) 3 32 Tryz.underlying23 Tryz.infoN rfl (by omega) (by omega) _ c oi rfl _ _ 1 1 [y] SX (fun h=>by cases h) (fun _=>rfl) (by simp [encN,Value.oneCell']) rfl (by omega) (by omega) z0 ?_
      intro v8 w8 own8 ch0 ch1 hat
      rw [← HCY.out] at own8
      obtain ⟨a8,cap8,rfl,_,_,_,_⟩:=own8.rd (fun _=>rfl)
      obtain ⟨pc,pf,OQ2⟩:=OwnQ.put (q':=(a8,cy.length,cap8)) OQ.out HQ.out own8 ch0 hat
      replace kx:Ex w1 w8:=Chg.trans kx ch1
      replace OQ:=lH OQ2
      clear OQ2 own8 ch0 ch1 hat oi z0 SX
      refine hK.out _ _ (trivial) (fun hHeld=>?_)
      clear hK K
      refine tkH 9 (v:=?_) rfl (by kernel_rfl) (fun _ _ _ h=>h) (by rfl) ?y1x9q172 (by assumption) ?z1x9q172
      case y1x9q172=>intro wq hSw;(go_simp);(try with_reducible rfl)
      refine wpAnyH_ready (rs:=[10]) (by kernel_rfl) (by simp) ?_
      refine AllReadyH.cons (o:=⟨_,_,_,_,_,_⟩) rfl (fun K hK=>?_) AllReadyH.nil
      go_simp
      clear pc pf
      refine hK.out _ _ (trivial) (fun hHeld=>?_)
      clear hK K
      refine wpAnyH_done (by kernel_rfl) ?_ _
      replace kx:=kx.setNew (p:=⟨g4,KX,none⟩) (Hdr.val (a8,cy.length,cap8)) hg4
      obtain ⟨wz,hwz⟩:∃ wz,wz=w8.setCell ⟨g4,KX,none⟩ (.slice a8 cy.length cap8):=⟨_,rfl⟩
      have OQ:=lH (OwnQ.cast OQ.out (w':=wz) hwz)
      have kx:Ex w1 wz:=by rw [hwz];exact kx
      rw [← hwz]
      clear hwz SXF hHeld hn5 hcl
      go_wp2_with fail
      exact ⟨⟨k+1,_,by omega,by go_num,by rw [FSn.out,FIN.out];exact OQ.out,kx⟩,by simp [intOf];omega⟩
   ·have IV:idxV C y.word h=(KX:Int):=by unfold idxV;rw [← hKX,if_pos (by omega)]
    rw [IV]
    obtain ⟨wa,rfl⟩:∃ wa:World,wa=w3:=⟨_,rfl⟩
    have k0:(0:Int)≤(KX:Int):=by omega
    clear hKX IV
    have EC:Hid (C=padC C KX):=lH (by unfold padC;rw [if_neg (by omega)])
    have CLEN:Hid (∀ c∈C,c.length≤1000000):=lH (fun c hc=>Nat.le_trans (FF.out c hc).2.1 (by omega))
    have hKC:KX<C.length:=by omega
    have NL:Hid (C.length≤1000001):=lH (by omega)
    obtain ⟨a4,cap4,he4,ll4,_,_,some4⟩:=OQ.ll
    cases he4
    obtain ⟨g4,e4,hg4⟩:=some4 (by intro h0;rw [h0] at hKC;simp at hKC)
    first | subst e4 | (obtain rfl:g4=g3:=by cases e4;rfl)
    obtain ⟨c,hc⟩:∃ c,C[KX]?=some c:=⟨C[KX]'hKC,by simp⟩
    obtain ⟨⟨qa,qn,qc⟩,hq⟩:∃ q:Hdr,qs[KX]?=some q:=⟨qs[KX]'(by rw [OQ.2.1];exact hKC),by simp⟩
    have hcl:c.length≤1000000:=CLEN.out c (List.mem_of_getElem? hc)
    obtain ⟨cy,hcy⟩:∃ cy:List Nd,cy=c++[y]:=⟨_,rfl⟩
    have FIN:Hid (stepC h C y=C.set KX cy):=lH (by unfold stepC;rw [KI.out,← EC.out,hc,hcy];rfl)
    have HCY:=lH hcy
    clear hcy
    have HQ:=lH hq
    have HCC:=lH hc
    have hn4:(KX:Int)<(C.length:Int):=by omega
    have hn5:C.length≤1000001:=NL.out
    clear hc hq ll4 some4
    go_wp2_with fail
    have OQ:=lH (OQ.nx (Ex.refl wa).drew)
    have kx:=kx.nx (Ex.refl wa).drew
    have SXF:∀ cur:World,Sl 3 encN (cur.alloc (.cells #[.int .i64 y.id,.string y.key,.int .u32 y.word] 49)) (some ⟨cur.heap.size,0,none⟩) 1 [y]:=fun cur=>Sl.lit _ rfl rfl (fun _=>rfl) rfl
    refine wp_region_held_drew (S:=fun _=>True) (by kernel_rfl) (trivial) (fun hHeld=>?_)
    refine tkH 0 (v:=?_) rfl (by kernel_rfl) (fun _ _ _ h=>h) (by rfl) ?y2x0q1 (by assumption) ?z2x0q1
    case y2x0q1=>intro wq hSw;(go_simp);(try with_reducible rfl)
    refine tkH 1 (v:=?_) rfl (by kernel_rfl) (fun _ _ _ h=>h) (by rfl) ?y2x1q4 (by assumption) ?z2x1q4
    case y2x1q4=>intro wq hSw;(go_simp);(try with_reducible rfl)
    refine tkH 2 (v:=?_) rfl (by kernel_rfl) (fun _ _ _ h=>h) (by rfl) ?y2x2q7 (by assumption) ?z2x2q7
    case y2x2q7=>intro wq hSw;(go_simp);(try with_reducible rfl)
    refine tkH 3 (v:=?_) rfl (by kernel_rfl) (fun _ _ _ h=>h) (by rfl) ?y2x3q10 (by assumption) ?z2x3q10
    case y2x3q10=>intro wq hSw;(go_simp);(try with_reducible rfl)
    refine tkH 4 (v:=?_) rfl (by kernel_rfl) (fun _ _ _ h=>h) (by rfl) ?y2x4q13 (by assumption) ?z2x4q13
    case y2x4q13=>intro wq hSw;(go_simp);(try with_reducible rfl)
    refine wpAnyH_ready (rs:=[5,6]) (by kernel_rfl) (by simp) ?_
    refine AllReadyH.cons (o:=⟨_,_,_,_,_,_⟩) rfl (fun K hK=>?_) ?_
    ·have cc:=(own_cellH OQ.out.1 HQ.out).1
     simp only [Hdr.val] at cc
     (try have cc2:(wa.alloc (.cells #[.int .i64 y.id,.string y.key,.int .u32 y.word] 49)).cell? ⟨g4,KX,none⟩=some (.slice qa qn qc):=cc)
     go_simp
     clear cc
     (try clear cc2)
     refine hK.out _ _ (trivial) (fun hHeld=>?_)
     clear hK K
     refine wpAnyH_ready (rs:=[6]) (by kernel_rfl) (by simp) ?_
     refine AllReadyH.cons (o:=⟨_,_,_,_,_,_⟩) rfl (fun K hK=>?_) AllReadyH.nil
     have b0:=B7.out.cell 0 _ rfl
     have b1:=B7.out.cell 1 _ rfl
     have b2:=B7.out.cell 2 _ rfl
     go_simp
     clear b0 b1 b2
     refine hK.out _ _ (trivial) (fun hHeld=>?_)
     clear hK K
     refine wpAnyH_ready (rs:=[7]) (by kernel_rfl) (by simp) ?_
     refine AllReadyH.cons (o:=⟨_,_,_,_,_,_⟩) rfl (fun K hK=>?_) AllReadyH.nil
     go_simp
     have SX:=SXF wa.drew
     have e7:=Ex.new wa.drew (.cells #[.int .i64 y.id,.string y.key,.int .u32 y.word] 49)
     replace OQ:=lH (OQ.out.nx e7)
     replace kx:=kx.nx e7
     clear e7
     refine hK.out _ _ (trivial) (fun hHeld=>?_)
     clear hK K
     refine wpAnyH_ready (rs:=[8]) (by kernel_rfl) (by simp) ?_
     refine AllReadyH.cons (o:=⟨_,_,_,_,_,_⟩) rfl (fun K hK=>?_) AllReadyH.nil
     rw [if_pos (by rfl)]
     have z0:=Ex.size kx
     have oi:=OQ.out.2.2.1 KX _ _ HQ.out HCC.out
     refine wp_append_rda (enc:=encN) _ (.tmp 32) (.tmp 34) 23 rfl w1.heap.size 49 (.agg #[.int .i64 0,.string ByteArray.empty,.int .u32 0]) 3 32 Tryz.underlying23 Tryz.infoN rfl (by omega) (by omega) _ c oi rfl _ _ 1 1 [y] SX (fun h=>by cases h) (fun _=>rfl) (by simp [encN,Value.oneCell']) rfl (by omega) (by omega) z0 ?_
     intro v8 w8 own8 ch0 ch1 hat
     rw [← HCY.out] at own8
     obtain ⟨a8,cap8,rfl,_,_,_,_⟩:=own8.rd (fun _=>rfl)
     obtain ⟨pc,pf,OQ2⟩:=OwnQ.put (q':=(a8,cy.length,cap8)) OQ.out HQ.out own8 ch0 hat
     replace kx:Ex w1 w8:=Chg.trans kx ch1
     replace OQ:=lH OQ2
     clear OQ2 own8 ch0 ch1 hat oi z0 SX
     refine hK.out _ _ (trivial) (fun hHeld=>?_)
     clear hK K
     refine tkH 9 (v:=?_) rfl (by kernel_rfl) (fun _ _ _ h=>h) (by rfl) ?y2x9q64 (by assumption) ?z2x9q64
     case y2x9q64=>intro wq hSw;(go_simp);(try with_reducible rfl)
     refine wpAnyH_ready (rs:=[10]) (by kernel_rfl) (by simp) ?_
     refine AllReadyH.cons (o:=⟨_,_,_,_,_,_⟩) rfl (fun K hK=>?_) AllReadyH.nil
     go_simp
     clear pc pf
     refine hK.out _ _ (trivial) (fun hHeld=>?_)
     clear hK K
     refine wpAnyH_done (by kernel_rfl) ?_ _
     replace kx:=kx.setNew (p:=⟨g4,KX,none⟩) (Hdr.val (a8,cy.length,cap8)) hg4
     obtain ⟨wz,hwz⟩:∃ wz,wz=w8.setCell ⟨g4,KX,none⟩ (.slice a8 cy.length cap8):=⟨_,rfl⟩
     have OQ:=lH (OwnQ.cast OQ.out (w':=wz) hwz)
     have kx:Ex w1 wz:=by rw [hwz];exact kx
     rw [← hwz]
     clear hwz SXF hHeld hn5 hcl
     go_wp2_with fail
     exact ⟨⟨k+1,_,by omega,by go_num,by rw [FSn.out,FIN.out];exact OQ.out,kx⟩,by simp [intOf];omega⟩
    refine AllReadyH.cons (o:=⟨_,_,_,_,_,_⟩) rfl (fun K hK=>?_) AllReadyH.nil
    ·have b0:=B7.out.cell 0 _ rfl
     have b1:=B7.out.cell 1 _ rfl
     have b2:=B7.out.cell 2 _ rfl
     go_simp
     clear b0 b1 b2
     refine hK.out _ _ (trivial) (fun hHeld=>?_)
     clear hK K
     refine wpAnyH_ready (rs:=[5,7]) (by kernel_rfl) (by simp) ?_
     refine AllReadyH.cons (o:=⟨_,_,_,_,_,_⟩) rfl (fun K hK=>?_) ?_
     ·have cc:=(own_cellH OQ.out.1 HQ.out).1
      simp only [Hdr.val] at cc
      (try have cc2:(wa.alloc (.cells #[.int .i64 y.id,.string y.key,.int .u32 y.word] 49)).cell? ⟨g4,KX,none⟩=some (.slice qa qn qc):=cc)
      go_simp
      clear cc
      (try clear cc2)
      refine hK.out _ _ (trivial) (fun hHeld=>?_)
      clear hK K
      refine wpAnyH_ready (rs:=[7]) (by kernel_rfl) (by simp) ?_
      refine AllReadyH.cons (o:=⟨_,_,_,_,_,_⟩) rfl (fun K hK=>?_) AllReadyH.nil
      go_simp
      have SX:=SXF wa.drew
      have e7:=Ex.new wa.drew (.cells #[.int .i64 y.id,.string y.key,.int .u32 y.word] 49)
      replace OQ:=lH (OQ.out.nx e7)
      replace kx:=kx.nx e7
      clear e7
      refine hK.out _ _ (trivial) (fun hHeld=>?_)
      clear hK K
      refine wpAnyH_ready (rs:=[8]) (by kernel_rfl) (by simp) ?_
      refine AllReadyH.cons (o:=⟨_,_,_,_,_,_⟩) rfl (fun K hK=>?_) AllReadyH.nil
      rw [if_pos (by rfl)]
      have z0:=Ex.size kx
      have oi:=OQ.out.2.2.1 KX _ _ HQ.out HCC.out
      refine wp_append_rda (enc:=encN) _ (.tmp 32) (.tmp 34) 23 rfl w1.heap.size 49 (.agg #[.int .i64 0,.string ByteArray.empty,.int .u32 0]) 3 32 Tryz.underlying23 Tryz.infoN rfl (by omega) (by omega) _ c oi rfl _ _ 1 1 [y] SX (fun h=>by cases h) (fun _=>rfl) (by simp [encN,Value.oneCell']) rfl (by omega) (by omega) z0 ?_
      intro v8 w8 own8 ch0 ch1 hat
      rw [← HCY.out] at own8
      obtain ⟨a8,cap8,rfl,_,_,_,_⟩:=own8.rd (fun _=>rfl)
      obtain ⟨pc,pf,OQ2⟩:=OwnQ.put (q':=(a8,cy.length,cap8)) OQ.out HQ.out own8 ch0 hat
      replace kx:Ex w1 w8:=Chg.trans kx ch1
      replace OQ:=lH OQ2
      clear OQ2 own8 ch0 ch1 hat oi z0 SX
      refine hK.out _ _ (trivial) (fun hHeld=>?_)
      clear hK K
      refine tkH 9 (v:=?_) rfl (by kernel_rfl) (fun _ _ _ h=>h) (by rfl) ?y2x9q123 (by assumption) ?z2x9q123
      case y2x9q123=>intro wq hSw;(go_simp);(try with_reducible rfl)
      refine wpAnyH_ready (rs:=[10]) (by kernel_rfl) (by simp) ?_
      refine AllReadyH.cons (o:=⟨_,_,_,_,_,_⟩) rfl (fun K hK=>?_) AllReadyH.nil
      go_simp
      clear pc pf
      refine hK.out _ _ (trivial) (fun hHeld=>?_)
      clear hK K
      refine wpAnyH_done (by kernel_rfl) ?_ _
      replace kx:=kx.setNew (p:=⟨g4,KX,none⟩) (Hdr.val (a8,cy.length,cap8)) hg4
      obtain ⟨wz,hwz⟩:∃ wz,wz=w8.setCell ⟨g4,KX,none⟩ (.slice a8 cy.length cap8):=⟨_,rfl⟩
      have OQ:=lH (OwnQ.cast OQ.out (w':=wz) hwz)
      have kx:Ex w1 wz:=by rw [hwz];exact kx
      rw [← hwz]
      clear hwz SXF hHeld hn5 hcl
      go_wp2_with fail
      exact ⟨⟨k+1,_,by omega,by go_num,by rw [FSn.out,FIN.out];exact OQ.out,kx⟩,by simp [intOf];omega⟩
     refine AllReadyH.cons (o:=⟨_,_,_,_,_,_⟩) rfl (fun K hK=>?_) AllReadyH.nil
     ·go_simp
      have SX:=SXF wa.drew
      have e7:=Ex.new wa.drew (.cells #[.int .i64 y.id,.string y.key,.int .u32 y.word] 49)
      replace OQ:=lH (OQ.out.nx e7)
      replace kx:=kx.nx e7
      clear e7
      refine hK.out _ _ (trivial) (fun hHeld=>?_)
      clear hK K
      refine wpAnyH_ready (rs:=[5]) (by kernel_rfl) (by simp) ?_
      refine AllReadyH.cons (o:=⟨_,_,_,_,_,_⟩) rfl (fun K hK=>?_) AllReadyH.nil
      have cc:=(own_cellH OQ.out.1 HQ.out).1
      simp only [Hdr.val] at cc
      (try have cc2:(wa.alloc (.cells #[.int .i64 y.id,.string y.key,.int .u32 y.word] 49)).cell? ⟨g4,KX,none⟩=some (.slice qa qn qc):=cc)
      go_simp
      clear cc
      (try clear cc2)
      refine hK.out _ _ (trivial) (fun hHeld=>?_)
      clear hK K
      refine wpAnyH_ready (rs:=[8]) (by kernel_rfl) (by simp) ?_
      refine AllReadyH.cons (o:=⟨_,_,_,_,_,_⟩) rfl (fun K hK=>?_) AllReadyH.nil
      rw [if_pos (by rfl)]
      have z0:=Ex.size kx
      have oi:=OQ.out.2.2.1 KX _ _ HQ.out HCC.out
      refine wp_append_rda (enc:=encN) _ (.tmp 32) (.tmp 34) 23 rfl w1.heap.size 49 (.agg #[.int .i64 0,.string ByteArray.empty,.int .u32 0]) 3 32 Tryz.underlying23 Tryz.infoN rfl (by omega) (by omega) _ c oi rfl _ _ 1 1 [y] SX (fun h=>by cases h) (fun _=>rfl) (by simp [encN,Value.oneCell']) rfl (by omega) (by omega) z0 ?_
      intro v8 w8 own8 ch0 ch1 hat
      rw [← HCY.out] at own8
      obtain ⟨a8,cap8,rfl,_,_,_,_⟩:=own8.rd (fun _=>rfl)
      obtain ⟨pc,pf,OQ2⟩:=OwnQ.put (q':=(a8,cy.length,cap8)) OQ.out HQ.out own8 ch0 hat
      replace kx:Ex w1 w8:=Chg.trans kx ch1
      replace OQ:=lH OQ2
      clear OQ2 own8 ch0 ch1 hat oi z0 SX
      refine hK.out _ _ (trivial) (fun hHeld=>?_)
      clear hK K
      refine tkH 9 (v:=?_) rfl (by kernel_rfl) (fun _ _ _ h=>h) (by rfl) ?y2x9q172 (by assumption) ?z2x9q172
      case y2x9q172=>intro wq hSw;(go_simp);(try with_reducible rfl)
      refine wpAnyH_ready (rs:=[10]) (by kernel_rfl) (by simp) ?_
      refine AllReadyH.cons (o:=⟨_,_,_,_,_,_⟩) rfl (fun K hK=>?_) AllReadyH.nil
      go_simp
      clear pc pf
      refine hK.out _ _ (trivial) (fun hHeld=>?_)
      clear hK K
      refine wpAnyH_done (by kernel_rfl) ?_ _
      replace kx:=kx.setNew (p:=⟨g4,KX,none⟩) (Hdr.val (a8,cy.length,cap8)) hg4
      obtain ⟨wz,hwz⟩:∃ wz,wz=w8.setCell ⟨g4,KX,none⟩ (.slice a8 cy.length cap8):=⟨_,rfl⟩
      have OQ:=lH (OwnQ.cast OQ.out (w':=wz) hwz)
      have kx:Ex w1 wz:=by rw [hwz];exact kx
      rw [← hwz]
      clear hwz SXF hHeld hn5 hcl
      go_wp2_with fail
      exact ⟨⟨k+1,_,by omega,by go_num,by rw [FSn.out,FIN.out];exact OQ.out,kx⟩,by simp [intOf];omega⟩
  ·obtain rfl:k=n:=by omega
   rw [List.take_of_length_le (by rw [HL.out];exact Nat.le_refl _)] at OQ
   obtain ⟨a3,cap3,rfl,ll3,hc3,_,_⟩:=OQ.ll
   have LL3:=lH ll3
   clear OQ ll3 hk hlt
   go_wp2_with fail
   go_ret
   exact ⟨a3,cap3,by rw [HF.out];rfl,by rw [HF.out];exact LL3.out,HK1.out.nx kx⟩
set_option maxHeartbeats 1000000 in
theorem group_p {S:Nat→Prop} (a:Option Addr) (n cap:Nat) (l:List Nd) (h:Int) (v:Nat) (w:World) (hr:Rd 3 encN S w a n l) (hS:∀ k,S k→k<w.heap.size) (hn:n≤1000)
  (hw:∀ x∈l,x.word<4294967296) (hv:v<4294967296) (hT:TabG w) :
  Calls Tryz.prog 57 #[.slice a n cap,.int .i64 h,.int .u32 v] w (NodesPost (groupN l h v) w):=by
 have hlen:=hr.1
 have hlt:=hT.lt
 have HT:=lH hT
 have HL:=lH hlen
 have HW:=lH hw
 clear hT hlen hw
 go_enter Tryz.func57,Tryz.ntmps57
 go_wp2
 go_loopw [7,12] (fun o i wr=>GroupRel l h v w o i wr) (fun _ i _=>n-(intOf i).toNat)
 case atStart=>exact ⟨0,by omega,rfl,OwnL.nil _ _ _ _ _,Chg.refl _ _⟩
 case round =>
  obtain ⟨k,hk,rfl,hown,hc⟩:=hrel
  obtain ⟨wo,rfl⟩:∃ wo:World,wo=wr:=⟨_,rfl⟩
  have hwo:=hr.chg hc hS
  have hsz:=hc.size
  have HT':=lH (HT.out.chg hc hlt)
  have hgl:=groupN_length (l.take k) h v
  rw [List.length_take] at hgl
  have hkl:=HL.out
  by_cases hlt':k<n
  ·obtain ⟨x,o,y,rfl,hx,hy,hcell⟩:=hwo.at hlt'
   have e0:wo.cell? ⟨x,o+k*3,none⟩=some (.int .i64 y.id):=hcell 0 _ rfl
   have e1:wo.cell? ⟨x,o+k*3+1,none⟩=some (.string y.key):=hcell 1 _ rfl
   have e2:wo.cell? ⟨x,o+k*3+1+1,none⟩=some (.int .u32 y.word):=by simpa [Nat.add_assoc] using hcell 2 _ rfl
   have hyw:=HW.out y (List.mem_of_getElem? hy)
   have Hy:=lH hy
   have hc1:=hc.alloc (.cells #[.int .i64 y.id,.string y.key,.int .u32 y.word] 49) (by intro k hk;omega)
   have hown1:=hown.alloc (.cells #[.int .i64 y.id,.string y.key,.int .u32 y.word] 49)
   have HT1:=lH (HT'.out.chg ((Chg.refl (· < wo.heap.size) wo).alloc (.cells #[.int .i64 y.id,.string y.key,.int .u32 y.word] 49) (by simp)) (by omega))
   clear hy hcell hr hwo hkl
   by_cases hs:sameN y.word v h=true
   ·go_wp2_with (first
     | (go_at_call 119;refine (same_p _ _ _ _ hyw hv HT1.out).mono ?_;rintro e w1 ⟨rfl,rfl⟩)
     | (at_builtin;go_loud (refine wpList_append_lit (enc:=encN) (wo.alloc (.cells #[.int .i64 y.id,.string y.key,.int .u32 y.word] 49)) rfl _ _ 23 rfl w.heap.size 49 (.agg #[.int .i64 0,.string ByteArray.empty,.int .u32 0]) 3 32 Tryz.underlying23 Tryz.infoN rfl (by omega) (by omega) _ _ hown1 rfl y _ rfl rfl (by simp [encN,Value.oneCell']) _ (by simp) rfl (by omega) (by simp;omega) _ ?_);intro v' w3 hown3 _ hch3 hz3))
    go_roundw
    case rel=>exact ⟨k+1,by have:=HL.out;omega,by go_num,by rw [groupN_snoc l h v k y Hy.out,if_pos hs];exact hown3,hc1.then hch3 (fun _ h=>h)⟩
    case measure=>simp [intOf];omega
   ·have hs:sameN y.word v h=false:=by simpa using hs
    go_wp2_with (go_at_call 119;refine (same_p _ _ _ _ hyw hv HT1.out).mono ?_;rintro e w1 ⟨rfl,rfl⟩)
    go_roundw
    case rel=>exact ⟨k+1,by have:=HL.out;omega,by go_num,by rw [groupN_snoc l h v k y Hy.out,if_neg (by simp [hs])];exact hown1,hc1⟩
    case measure=>simp [intOf];omega
  ·obtain rfl:k=n:=by omega
   rw [List.take_of_length_le (by omega)] at hown
   obtain ⟨a',cap',rfl,hrd,_⟩:=hown.rd (fun _=>rfl)
   clear hown hr hwo
   go_wp2
   go_ret
   exact ⟨a',_,cap',rfl,hrd,hc⟩
theorem TabG.nxb {b:Nat} {w w':World} (h:TabG w) (hb:¬ 1=b) (k:Exb b w w'):TabG w':=h.chg k ⟨h.lt,hb⟩
def CtRel (b n:Nat) (w:World) (i:Value) (wr:World):Prop:=∃ k:Nat,k≤n∧i=.int .i64 k∧Exb b w wr∧TK wr b
theorem sum_take_succ (l:List Nat) (k u:Nat) (h:l[k]?=some u):(l.take (k+1)).sum=(l.take k).sum+u:=by
 rw [List.take_add_one,h];simp
theorem sum_take_le (l:List Nat) (k:Nat):(l.take k).sum≤l.sum:=by
 conv=>rhs;rw [← List.take_append_drop k l]
 rw [List.sum_append];omega
theorem bit_pE (a:Nat) (i:Int) (w:World) (ha:a<4294967296) (hi1:-9223372036854775808≤i) (hi2:i≤9223372036854775807) :
  Calls Tryz.prog 61 #[.int .u32 a,.int .i64 i] w fun e w'=>e=.returned (.int .i64 (bitN a i))∧Ex w w' :=
 (bit_p a i w ha hi1 hi2).mono fun _ _ h=>⟨h.1,by rw [← h.2];exact Ex.refl _⟩
theorem Tryz.gTab : Tryz.prog.globalNamed "math/bits.deBruijn32tab" = some 1 := by kernel_rfl
theorem Tryz.tTab:(Tryz.prog.globals[1]?).map (·.type)=some 213:=by kernel_rfl
theorem Tryz.cells32:Tryz.prog.cellsOf 213=32:=by kernel_rfl
theorem Tryz.cellsU8:Tryz.prog.cellsOf 5=1:=by kernel_rfl
theorem laid_tab {H:Type}:(Rows.laid_math_bits_deBruijn32tab:DataW H)=Lib.tabData .u8 (Lib.deBruijn32tab.map fun (n:Nat)=>(n:Int)):=rfl
theorem tabG_of {rest : List (String × DataW Unit)} {W : World} (h : laidMetH Tryz.prog (("math/bits.deBruijn32tab", Rows.laid_math_bits_deBruijn32tab) :: rest) W)
  (hp : ((("math/bits.deBruijn32tab", Rows.laid_math_bits_deBruijn32tab) :: rest).all fun x => x.2.handleName?.isNone) = true) : TabG W := by
 rw [MakeChecks.laidMetH_plain _ _ _ hp,laid_tab] at h
 have ht:=Lib.tabIs_of_head Tryz.gTab Tryz.tTab Tryz.underlying213 Tryz.underlying5 Tryz.cellsU8 Tryz.cells32 h
 intro j hj
 have:=ht.cell Tryz.gTab j (by simp [Lib.deBruijn32tab];omega)
 rw [this]
 congr 2
 simp [List.getD,List.getElem?_map]
 cases h:Lib.deBruijn32tab[j]?<;>simp
end Go.Proofs.YtalmjklljofhbaaGreatDoor
