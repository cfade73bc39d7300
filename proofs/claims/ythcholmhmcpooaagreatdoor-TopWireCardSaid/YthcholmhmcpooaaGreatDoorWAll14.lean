/- Shared texts. -/
import Derived.Test.YthcholmhmcpooaaGreatDoorWAll8
import Derived.Test.YthcholmhmcpooaaGreatDoorWAll13
set_option linter.unusedSimpArgs false
set_option linter.unusedVariables false

namespace Go.Proofs.YthcholmhmcpooaaGreatDoor
open Go.RowKit
def posK (S:List Nd):Nat→Int→Int
 | 0=>fun _=>0
 | k+1=>fun y=>if y=(S[k]?.getD Nd.zero).id then (k:Int) else posK S k y
theorem posK_at {S:List Nd} (hd:S.Pairwise fun x y=>x.id≠y.id):∀ (k p:Nat) (y:Nd),p<k→k≤S.length→S[p]?=some y→posK S k y.id=p
 | 0,_,_,h,_,_=>by omega
 | k+1,p,y,hp,hk,hy=>by
  unfold posK
  by_cases he:p=k
  ·subst he;rw [hy];exact if_pos rfl
  ·obtain ⟨z,hz⟩:∃ z,S[k]?=some z:=⟨S[k],List.getElem?_eq_getElem (by omega)⟩
   have hne:y.id≠z.id:=by
    obtain ⟨h1,e1⟩:=List.getElem?_eq_some_iff.1 hy
    obtain ⟨h2,e2⟩:=List.getElem?_eq_some_iff.1 hz
    have:=List.pairwise_iff_getElem.1 hd p k h1 h2 (by omega)
    rwa [e1,e2] at this
   rw [hz,if_neg (by exact hne)]
   exact posK_at hd k p y (by omega) (by omega) hy
theorem rows0_snoc (S:List Nd) (m k:Nat) (x:Nd) (hx:S[k]?=some x):rowsF (S.take (k+1)) m (procB S 0)=rowsF (S.take k) m (procB S 0)++[(x.id,List.replicate m (0,0))]:=by
 unfold rowsF
 rw [take_snocN S k x hx,List.map_append]
 congr 1
 show [(x.id,(List.range m).map fun _=>((0,0):Int×Int))]=_
 rw [List.map_const',List.length_range]
theorem lists_in {S:List Nd} {h:Int}:∀ c∈listsN S h,∀ x∈c,∃ y∈S,y.id=x:=by
 intro c hc x hx
 unfold listsN at hc
 split at hc
 ·obtain ⟨d,hd,rfl⟩:=List.mem_map.1 hc
  obtain ⟨y,hy,rfl⟩:=List.mem_map.1 hx
  refine ⟨y,?_,rfl⟩
  by_cases hh:16<h
  ·rw [classesN_big hh] at hd;cases hd
  ·rw [classesN_fold hh] at hd
   exact (sortN_mem S y).1 ((foldC_fine (h:=h) (P:=fun y=>y∈sortN S) (sortN S) (fun _ hy=>hy) d hd).2.2 y hy)
 ·cases hc
theorem lists_sm {S:List Nd} {h:Int} (hl:S.length≤1000):(listsN S h).length≤1000∧∀ c∈listsN S h,c.length≤1000:=by
 unfold listsN
 split
 ·have:=classesN_sm (sortN S) h (by rw [sortN_length];exact hl)
  refine ⟨by rw [List.length_map];exact this.1,fun c hc=>?_⟩
  obtain ⟨d,hd,rfl⟩:=List.mem_map.1 hc
  unfold idsN
  rw [List.length_map]
  exact this.2 d hd
 ·exact ⟨by simp,by simp⟩
def B1Rel (S:List Nd) (m b:Nat) (w:World) (o i:Value) (wr:World):Prop :=
 ∃ (k:Nat) (qs:List (Int×Hdr)),k≤S.length∧i=.int .i64 k∧OwnLk w.heap.size wr o qs (rowsF (S.take k) m (procB S 0))∧MapI wr b k (posK S k)∧Exb b w wr
def B2Rel (S:List Nd) (m base:Nat) (v:Value) (qs:List (Int×Hdr)) (w:World) (i:Value) (wr:World):Prop :=
 ∃ j:Nat,j≤m∧i=.int .i64 j∧OwnLk base wr v qs (rowsF S m (procB S j))∧Exq qs w wr
def B3Rel (S:List Nd) (m base j:Nat) (M:List (List Int)) (v:Value) (qs:List (Int×Hdr)) (w:World) (i:Value) (wr:World):Prop :=
 ∃ q:Nat,q≤M.length∧i=.int .i64 q∧OwnLk base wr v qs (rowsF S m (procL j (M.take q) (procB S j)))∧Exq qs w wr
def B4Rel (S:List Nd) (m base j:Nat) (c:List Int) (F:FnL) (v:Value) (qs:List (Int×Hdr)) (w:World) (i:Value) (wr:World):Prop :=
 ∃ r:Nat,(r<c.length∨r=0)∧i=.int .i64 ((r:Int)+1)∧OwnLk base wr v qs (rowsF S m (procI c j F r))∧Exq qs w wr
theorem blk_ne {α:Type} {sz base g:Nat} {enc:α→List Value} {e ty:TypeId} {w:World} {v:Value} {l:List α} {cs:List Value} (h:OwnW sz enc e base w v l) (B:Blk w g cs ty) (hne:ty≠e):¬ v.ownBlock=some g:=by
 intro hv
 obtain ⟨_,cur,e1⟩:=h.blk hv
 unfold Blk at B
 rw [B] at e1
 simp at e1
 exact hne e1.2
theorem own_out {base:Nat} {w:World} {v:Value} {qs:List (Int×Hdr)} {S:List Nd} {m:Nat} {F:FnL} (h:OwnLk base w v qs (rowsF S m F)):∃ a c,v=.slice a S.length c:=by
 obtain ⟨a,c,e,_⟩:=h.1.rd (fun _=>rfl)
 refine ⟨a,c,?_⟩
 rw [e,h.2.1]
 unfold rowsF
 rw [List.length_map]
theorem atI_of {c:List Int} {r:Nat} {x:Int} (h:c[r]?=some x):atI c r=x:=by unfold atI;rw [h];rfl
theorem Chg.undrew {S:Nat→Prop} {w w':World} (h:Chg S w w'):Chg S w.drew w':=⟨h.1,h.2,h.3,h.4,h.5⟩
theorem mem_at {S:List Nd} {x:Int} (h:∃ y:Nd,y∈S∧y.id=x):∃ (p:Nat) (y:Nd),S[p]?=some y∧y.id=x:=by
 obtain ⟨y,hy,e⟩:=h
 obtain ⟨p,hp⟩:=List.mem_iff_getElem?.1 hy
 exact ⟨p,y,hp,e⟩
set_option maxRecDepth 100000 in
set_option maxHeartbeats 8000000 in
theorem build_q (a:Option Addr) (n c:Nat) (l:List Nd) (h:Int) (w:World) (hs:Sl 3 encN w a n l) (hn:n≤1000) (hc:n≤c) (hm:c≤maxLen) (hw:∀ x∈l,x.word<4294967296) (hT:TabG w)
  (L:List Lkd) (e0:Int) (hL1:checkN l≠0→L=[]∧e0=1) (hL2:checkN l=0→lvlN h=false→L=[]∧e0=2) (hL3:checkN l=0→∀ m:Nat,h=m→m≤16→L=rowsF (sortN l) (m+1) (procB (sortN l) (m+1))∧e0=0) :
  Calls Tryz.prog 38 #[.slice a n c,.int .i64 h] w (LkPost L e0 w):=by
 have HW:=lH hw
 have HL:=lH hs.len
 have HT:=lH hT
 have H1:=lH hL1
 have H2:=lH hL2
 have H3:=lH hL3
 have hmm:=@run_makeMap Tryz.prog
 clear hw hT hL1 hL2 hL3
 go_enter Tryz.func38,Tryz.ntmps38
 go_wp2_with fail
 (with_reducible refine (ordered_p _ _ _ _ _ hs hn hc hm).mono ?_)
 rintro e w0 ⟨v,S,rfl,OS,⟨hp,hsrt⟩,k0⟩
 have SL:=lH hp.length_eq
 have SW:Hid (∀ x∈S,x.word<4294967296):=lH (fun x hx=>HW.out x (hp.mem_iff.1 hx))
 have HSR:=lH hsrt
 replace HT:=lH (HT.out.nx k0)
 have SOK:Hid (checkN l=0→∀ x∈S,1≤x.id∧x.id≤2147483647):=lH (fun h0 x hx=>by
  have:=roster_ok h0 x (hp.mem_iff.1 hx)
  exact ⟨this.2.1,this.2.2.1⟩)
 clear hp hsrt hs
 by_cases hck:checkN l=0
 case neg =>
  obtain ⟨rfl,rfl⟩:=H1.out hck
  have d1:(checkN l==0)=false:=by simpa using hck
  rw [d1]
  clear hck d1 OS
  go_wp2_with fail
  go_ret2
  exact ⟨_,[],rfl,OwnN.nil _ _ _ _ _ _ _ _,k0⟩
 have HCK:=lH hck
 have d1:(checkN l==0)=true:=by simpa using hck
 rw [d1]
 clear hck d1
 by_cases hlo:h<0
 ·obtain ⟨rfl,rfl⟩:=H2.out HCK.out (by unfold lvlN;simp;omega)
  clear OS
  go_wp2_with fail
  go_ret2
  exact ⟨_,[],rfl,OwnN.nil _ _ _ _ _ _ _ _,k0⟩
 by_cases hhi:16<h
 ·obtain ⟨rfl,rfl⟩:=H2.out HCK.out (by unfold lvlN;simp;omega)
  clear OS
  go_wp2_with fail
  go_ret2
  exact ⟨_,[],rfl,OwnN.nil _ _ _ _ _ _ _ _,k0⟩
 obtain ⟨m,rfl⟩:=Int.eq_ofNat_of_zero_le (show 0≤h by omega)
 have hm16:m≤16:=by omega
 obtain ⟨hLL,rfl⟩:=H3.out HCK.out m rfl hm16
 rw [← HSR.out HCK.out] at hLL
 have HLL:=lH hLL
 have ID:Hid (S.Pairwise fun x y=>x.id≠y.id):=lH (by
  rw [HSR.out HCK.out]
  exact (sortN_str HCK.out).imp (fun h=>h.2))
 have SOK:=lH (SOK.out HCK.out)
 obtain ⟨M1,hM1⟩:∃ M1,M1=m+1:=⟨_,rfl⟩
 rw [← hM1] at HLL
 have HM1:=lH hM1
 have hM17:M1≤17:=by omega
 clear hM1
 obtain ⟨aS,cS,rfl,sS,hcS,hmS⟩:=OS.sl3 (fun _=>rfl)
 have hnS:S.length≤1000:=by have:=HL.out;have:=SL.out;omega
 clear OS hLL H1 H2 H3 hlo hhi
 obtain ⟨w1,hw1⟩:∃ w1,w1=w0.alloc (.map #[] 0):=⟨_,rfl⟩
 obtain ⟨b,hb⟩:∃ b,b=w0.heap.size:=⟨_,rfl⟩
 have MI:MapI w1 b 0 (posK S 0):=by rw [hw1,hb];exact MapI.made w0
 have k1:Ex w0 w1:=by rw [hw1];exact Ex.new _ _
 have sSb:=(sS.slb (Nat.le_of_eq hb.symm)).nxb (k1.b b)
 have hb0:w.heap.size≤b:=by have:=k0.size;omega
 have HT1:=lH (HT.out.nx k1)
 have hTb:1<b:=by have:=HT.out.lt;omega
 have hTb:=lH hTb
 have hbw1:b<w1.heap.size:=MI.lt
 have HW1:=lH hw1
 have HB:=lH hb
 have K1:=lH (k0.nx k1)
 have SSB:=lH sSb
 clear hw1 hb k0 k1 sS sSb
 go_upto_region 7 with fail
 rw [← HB.out,← HW1.out]
 go_wp2_with fail
 go_loopw [9,32] (fun o i wr=>B1Rel S M1 b w1 o i wr) (fun _ i _=>S.length-(intOf i).toNat)
 case atStart=>exact ⟨0,[],by omega,rfl,OwnN.nil _ _ _ _ _ _ _ _,MI,Exb.refl _ _⟩
 case round =>
  clear MI
  obtain ⟨k,qs,hk,rfl,OQ,MI,kw⟩:=hrel
  obtain ⟨wo,rfl⟩:∃ wo:World,wo=wr:=⟨_,rfl⟩
  by_cases hlt:k<S.length
  ·obtain ⟨x1,o1,y,rfl,hx1,hy,hc1⟩:=((SSB.out.nxb kw).sl).at hlt
   obtain ⟨yi,yk,yw⟩:=y
   have e0:wo.cell? ⟨x1,o1+k*3,none⟩=some (.int .i64 yi):=hc1 0 _ rfl
   have e1:wo.cell? ⟨x1,o1+k*3+1,none⟩=some (.string yk):=hc1 1 _ rfl
   have e2:wo.cell? ⟨x1,o1+k*3+2,none⟩=some (.int .u32 yw):=hc1 2 _ rfl
   have e2':wo.cell? ⟨x1,o1+k*3+1+1,none⟩=some (.int .u32 yw):=e2
   have RS:=lH (rows0_snoc S M1 k _ hy)
   have hid:=SOK.out _ (List.mem_of_getElem? hy)
   have hid1:1≤yi:=hid.1
   have hid2:yi≤2147483647:=hid.2
   have PK:Hid ((fun y=>if y=yi then (k:Int) else posK S k y)=posK S (k+1)):=lH (by
    show _=fun y=>if y=(S[k]?.getD Nd.zero).id then (k:Int) else posK S k y
    rw [hy];rfl)
   clear hy hc1 hid
   have k7:=Ex.new wo (.cells #[.int .i64 yi,.string yk,.int .u32 yw] 36)
   have B4:=Blk.new wo [.int .i64 yi,.string yk,.int .u32 yw] 36
   obtain ⟨w7,hw7⟩:∃ w7,w7=wo.alloc (.cells #[.int .i64 yi,.string yk,.int .u32 yw] 36):=⟨_,rfl⟩
   obtain ⟨g4,hg4⟩:∃ g4,g4=wo.heap.size:=⟨_,rfl⟩
   have B4:Blk w7 g4 [.int .i64 yi,.string yk,.int .u32 yw] 36:=by rw [hw7,hg4];exact B4
   rw [← hw7] at k7
   have hg4b:g4≠b:=by have:=MI.lt;omega
   have HW7:=lH hw7
   have HG4:=lH hg4
   replace OQ:=OwnN.nx OQ k7
   replace MI:=MI.nx k7
   replace kw:=kw.nxb (k7.b b)
   clear hw7 hg4 k7
   go_upto_region 11 with fail
   rw [← HG4.out,← HW7.out]
   clear e0 e1 e2 e2'
   obtain ⟨wm,hrun,MI2,km⟩:=MI.put (x:=yi) (v:=k) (by omega) (by omega) (show k<maxLen by unfold maxLen;omega)
   have y0:=B4.cell 0 _ rfl
   have B4m:=lH (B4.nxb hg4b km)
   have OQm:=lH (OwnN.nxb OQ hbw1 km)
   replace kw:=lH (kw.nxb km)
   rw [PK.out] at MI2
   have MI2:=lH MI2
   clear OQ MI B4 km
   go_upto_region 12 with fail
   clear hrun y0
   have B4d:=lH (B4m.out.nx (Ex.refl wm).drew)
   obtain ⟨Z,hZ⟩:∃ Z,Z=((List.replicate M1 ((0,0):Int×Int)).flatMap encS).toArray:=⟨_,rfl⟩
   have cm:(Instr.makeSlice 119 (.int .i64 ((m:Int)+1)) (.int .i64 ((m:Int)+1))).run Tryz.prog wm.drew=.ok (.slice (some ⟨wm.drew.heap.size,0,none⟩) M1 M1) (wm.drew.alloc (.cells Z 128)):=by
    rw [hZ];exact mkLk m M1 hm16 HM1.out _
   have CM:=lH cm
   have HZ:=lH hZ
   have hbs:w1.heap.size≤wm.heap.size:=kw.out.size
   have IN:Hid (OwnL 2 encS 128 w1.heap.size (wm.alloc (.cells Z 128)) (.slice (some ⟨wm.heap.size,0,none⟩) M1 M1) (List.replicate M1 ((0,0):Int×Int))):=lH (by
    have:=OwnL.lit (sz:=2) (enc:=encS) (e:=128) (base:=w1.heap.size) (w:=wm) (List.replicate M1 ((0,0):Int×Int)) (fun _=>rfl) hbs (by rw [List.length_replicate];unfold maxLen;omega) (cs:=Z) hZ
    rwa [List.length_replicate] at this)
   have hkq:qs.length=k:=by rw [OQm.out.2.1];unfold rowsF;rw [List.length_map,List.length_take];omega
   have hkq:=lH hkq
   have FR:Hid (∀ (j:Nat) (r:Int×Hdr) (g:Nat),qs[j]?=some r→r.2.val.ownBlock=some g→¬ (Value.slice (some ⟨wm.heap.size,0,none⟩) M1 M1).ownBlock=some g):=lH (by
    intro j r g hr hg hv
    have h1:g<wm.heap.size:=OwnN.lt OQm.out hr hg
    cases hv
    exact Nat.lt_irrefl _ h1)
   have wrm:IntKind.i64.wrap ((m:Int)+1)=(m:Int)+1:=IntWalk.i64_in _ (by omega)
   have NB:=lH (blk_ne OQm.out.1 B4m.out (by decide))
   have G4L:Hid (g4<wm.heap.size):=lH B4m.out.lt
   clear cm hZ
   refine wp_region_held_drew (S:=Chg (· = g4) wm.drew) (by kernel_rfl) (Chg.refl _ _) (fun hHeld=>?_)
   refine tkH 0 (v:=?_) rfl (by kernel_rfl) (fun _ _ _ h=>h) (by rfl) ?y1 hHeld ?_
   case y1=>intro wq hSw;go_simp<;>rfl
   refine tkH 1 (v:=?_) rfl (by kernel_rfl) (fun _ _ _ h=>h) (by rfl) ?y4 hHeld ?_
   case y4=>intro wq hSw;go_simp<;>rfl
   refine tkH 2 (v:=?_) rfl (by kernel_rfl) (fun _ _ _ h=>h) (by rfl) ?y7 hHeld ?_
   case y7=>intro wq hSw;(have cq:=(B4d.out.chg hSw rfl).cell 0 _ rfl;go_simp)<;>rfl
   refine tkH 3 (v:=?_) rfl (by kernel_rfl) (fun _ _ _ h=>h) (by rfl) ?y10 hHeld ?_
   case y10=>intro wq hSw;go_simp<;>rfl
   refine tkH 4 (v:=?_) rfl (by kernel_rfl) (fun _ _ _ h=>h) (by rfl) ?y13 hHeld ?_
   case y13=>intro wq hSw;go_simp<;>rfl
   refine rH 5 (by kernel_rfl) rfl fun K hK=>?_
   have cm:=CM.out
   go_simp
   clear cm
   refine hK.out _ _ ((Chg.undrew ((Chg.refl (· = g4) wm).alloc _ (fun x hx=>by cases hx;exact G4L.out)).drew)) (fun hHeld=>?_)
   clear hK K
   refine tkH 6 (v:=?_) rfl (by kernel_rfl) (fun _ _ _ h=>h) (by rfl) ?y24 hHeld ?_
   case y24=>intro wq hSw;go_simp<;>rfl
   refine rH 7 (by kernel_rfl) rfl fun K hK=>?_
   go_simp
   refine hK.out _ _ ((Chg.undrew (((Chg.refl (· = g4) wm).alloc _ (fun x hx=>by cases hx;exact G4L.out)).alloc _ (fun x hx=>by cases hx;exact Nat.lt_of_lt_of_le G4L.out (Ex.new wm _).size)).drew)) (fun hHeld=>?_)
   clear hK K
   refine rH 8 (by kernel_rfl) rfl fun K hK=>?_
   rw [if_pos (by rfl)]
   have kz:Ex wm ((wm.alloc (.cells Z 128)).alloc (.cells #[.int .i64 yi,.slice (some ⟨wm.heap.size,0,none⟩) M1 M1] 121)).drew:=((Ex.new wm (.cells Z 128)).alloc _).drew
   have OQ2:=OwnN.nx OQm.out kz
   have hql:qs.length≤1000000:=by rw [hkq.out];omega
   have SX0:Sl 2 (encP encI) ((wm.alloc (.cells Z 128)).alloc (.cells #[.int .i64 yi,.slice (some ⟨wm.heap.size,0,none⟩) M1 M1] 121)) (some ⟨wm.heap.size+1,0,none⟩) 1 [((yi,(some ⟨wm.heap.size,0,none⟩,M1,M1)):Int×Hdr)]:=Sl.lit _ (by simp) rfl (fun _=>rfl) rfl
   have SX:=SX0.nx (Ex.refl _).drew
   have zz:=Nat.le_trans hbs kz.size
   refine wp_append_W (enc:=encP encI) _ (.tmp 41) (.tmp 48) 28 rfl w1.heap.size 121 (.agg #[.int .i64 0,.slice none 0 0]) 2 32 Tryz.underlying28 Tryz.infoLd rfl (by omega) (by omega) _ qs OQ2.1 rfl _ 1 1 [((yi,(some ⟨wm.heap.size,0,none⟩,M1,M1)):Int×Hdr)] SX (fun _=>rfl) (by simp [encP,encI,Hdr.val,Value.oneCell']) rfl hql (by omega) zz ?_
   intro v9 w9 own9 ch0 ch1 _
   refine hK.out _ _ ((Chg.undrew (Chg.trans (Chg.mono kz (fun x hx=>by cases hx;exact G4L.out)) (Chg.mono ch0 (fun x hx=>by cases hx;exact ⟨Nat.lt_of_lt_of_le G4L.out kz.size,NB.out⟩))))) (fun hHeld=>?_)
   clear hK K
   refine tkH 9 (v:=?_) rfl (by kernel_rfl) (fun _ _ _ h=>h) (by rfl) ?y47 hHeld ?_
   case y47=>intro wq hSw;go_simp<;>rfl
   refine wpAnyH_done (by kernel_rfl) ?_ _
   have OQ9:=OwnN.push (by decide) OQ2 own9 ch0 (IN.out.nx (Ex.new _ _).drew) FR.out
   have kw9:Exb b w1 w9:=Chg.trans (Chg.trans kw.out (Chg.mono kz (fun x hx=>Nat.lt_of_lt_of_le hx.1 kw.out.size))) (Chg.mono ch1 (fun x hx=>hx.1))
   have MI9:=MI2.out.chg (S:=(· = b)) (Chg.trans (Chg.mono kz (fun x hx=>by cases hx;exact MI2.out.lt)) (Chg.mono ch1 (fun x hx=>by cases hx;exact hbw1))) rfl
   clear OQ2 own9 ch0 ch1 SX SX0
   go_wp2_with fail
   exact ⟨⟨k+1,_,by omega,by go_num,by rw [RS.out];exact OQ9,MI9,kw9⟩,by simp [intOf];omega⟩
  ·obtain rfl:k=S.length:=by omega
   rw [List.take_length] at OQ
   obtain ⟨ao,co,rfl⟩:=own_out OQ
   have HQB:Hid (∀ k,InQ qs k→w1.heap.size≤k∧k<wo.heap.size):=lH (fun k hk=>inQ_base OQ hk)
   have KT:Hid (∀ wr,Exq qs wo wr→Exb b w1 wr):=lH (fun wr kq=>Chg.trans kw (Chg.mono kq (fun x hx=>⟨Nat.lt_of_lt_of_le hx.1 kw.size,fun hi=>by have h1:=(HQB.out x hi).1;have h2:=hx.1;exact absurd h2 (Nat.not_lt.2 h1)⟩)))
   have MIH:Hid (∀ wr,Exq qs wo wr→MapI wr b S.length (posK S S.length)):=lH (fun wr kq=>MI.chg kq ⟨MI.lt,fun hi=>by have h1:=(HQB.out b hi).1;omega⟩)
   have KW:=lH kw
   have hzo:=kw.size
   clear hk hlt kw MI
   have wrm:IntKind.i64.wrap ((m:Int)+1)=(m:Int)+1:=IntWalk.i64_in _ (by omega)
   go_wp2_with fail
   go_loopw [53] (fun i wr=>B2Rel S M1 w1.heap.size (.slice ao S.length co) qs wo i wr) (fun i _=>M1-(intOf i).toNat)
   case atStart=>exact ⟨0,by omega,rfl,OQ,Exq.refl _ _⟩
   case round =>
    clear OQ
    obtain ⟨j,hj,rfl,OQ,kq⟩:=hrel
    obtain ⟨wj,rfl⟩:∃ wj:World,wj=wr:=⟨_,rfl⟩
    by_cases hjm:j<M1
    ·have hjm1:(j:Int)<(m:Int)+1:=by have:=HM1.out;omega
     have SSj:=(SSB.out.nxb (KT.out _ kq)).sl
     have TGj:TabG wj:=HT1.out.chg (KT.out _ kq) ⟨HT1.out.lt,by have:=hTb.out;omega⟩
     have OQH:=lH OQ
     have KQ:=lH kq
     have hzj:=kq.size
     have HLI:=lH (lists_in (S:=S) (h:=(j:Int)))
     have HLS:=lH (lists_sm (h:=(j:Int)) hnS)
     have HPB:Hid (procB S (j+1)=procL j (listsN S (j:Int)) (procB S j)):=lH rfl
     clear OQ kq
     go_wp2_with fail
     (with_reducible refine (lists_p _ _ _ _ _ _ SSj hnS hcS hmS SW.out TGj).mono ?_)
     rintro e w5 ⟨vl,ql,rfl,OL,k5⟩
     obtain ⟨aL,cL,rfl,LT⟩:=OwnIL.ilt OL
     obtain ⟨M,hM⟩:∃ M,M=listsN S (j:Int):=⟨_,rfl⟩
     rw [← hM] at LT HLI HLS HPB ⊢
     have LT:=lH LT
     have OQ:=OwnN.nx OQH.out k5
     have K5:=lH k5
     have hz5:=k5.size
     have hMl:=HLS.out.1
     have KL:Hid (∀ u v,w5.heap.size≤u.heap.size→Exq qs u v→Chg (fun k=>wj.heap.size≤k∧k<w5.heap.size) u v):=lH (fun u v hu kq=>Chg.mono kq (fun x hx=>⟨Nat.lt_of_lt_of_le hx.2 hu,fun hi=>by have h1:=(HQB.out x hi).2;have h2:=hx.1;omega⟩))
     clear OL k5 SSj TGj hM
     go_wp2_with fail
     go_loopw [60] (fun i wr=>B3Rel S M1 w1.heap.size j M (.slice ao S.length co) qs w5 i wr) (fun i _=>M.length-(intOf i).toNat)
     case atStart=>exact ⟨0,by omega,rfl,OQ,Exq.refl _ _⟩
     case round =>
      clear OQ
      obtain ⟨q,hq,rfl,OQ,k3⟩:=hrel
      obtain ⟨wq3,rfl⟩:∃ wq3:World,wq3=wr:=⟨_,rfl⟩
      by_cases hqm:q<M.length
      ·obtain ⟨x3,o3,a',n',c',cc,rfl,hx3,hcc,hcell,hids⟩:=(LT.out.chg (KL.out _ _ (Nat.le_refl _) k3)).at hqm
       have hnl:=hids.1
       subst hnl
       have hcl:cc.length≤1000:=HLS.out.2 cc (List.mem_of_getElem? hcc)
       have HIN:=lH (HLI.out cc (List.mem_of_getElem? hcc))
       have PS:=lH (procL_snoc j M (procB S j) q cc hcc)
       have hz3:=k3.size
       have HID:=lH hids
       have K3:=lH k3
       obtain ⟨F,hF⟩:∃ F,F=procL j (M.take q) (procB S j):=⟨_,rfl⟩
       rw [← hF] at OQ PS
       clear hcc hids k3 hF
       go_wp2_with fail
       clear hcell
       go_loopw [15] (fun i wr=>B4Rel S M1 w1.heap.size j cc F (.slice ao S.length co) qs wq3 i wr) (fun i _=>cc.length-(intOf i).toNat)
       case atStart=>exact ⟨0,.inr rfl,rfl,OQ,Exq.refl _ _⟩
       case round =>
        clear OQ
        obtain ⟨r,hr,rfl,OQ,k4⟩:=hrel
        obtain ⟨wi,rfl⟩:∃ wi:World,wi=wr:=⟨_,rfl⟩
        by_cases hrm:r+1<cc.length
        ·have k4d:Exq qs wq3 wi.drew:=k4.nx (Ex.refl wi).drew
         have OQ:=OwnN.nx OQ (Ex.refl wi).drew
         have RI:=HID.out.chg (KL.out _ _ hz3 k4d) (fun _ x=>x)
         obtain ⟨x6,o6,i1,rfl,hx6,hi1,hc6⟩:=RI.at hrm
         obtain ⟨x7,o7,i0,e67,_,hi0,hc7⟩:=RI.at (show r<cc.length by omega)
         cases e67
         have E1:wi.drew.cell? ⟨x6,o6+(r+1),none⟩=some (.int .i64 i1):=by simpa using hc6 0 _ rfl
         have E0:wi.drew.cell? ⟨x6,o6+r,none⟩=some (.int .i64 i0):=by simpa using hc7 0 _ rfl
         obtain ⟨p1,y1,hp1,hy1⟩:=mem_at (HIN.out i1 (List.mem_of_getElem? hi1))
         obtain ⟨p0,y0,hp0,hy0⟩:=mem_at (HIN.out i0 (List.mem_of_getElem? hi0))
         have PP:Hid (procI cc j F (r+1)=updR (updL (procI cc j F r) i1 j i0) i0 j i1):=lH (by rw [← atI_of hi1,← atI_of hi0];rfl)
         obtain ⟨FF,hFF⟩:∃ FF,FF=procI cc j F r:=⟨_,rfl⟩
         rw [← hFF] at OQ PP
         have b1:=SOK.out _ (List.mem_of_getElem? hp1)
         have b0:=SOK.out _ (List.mem_of_getElem? hp0)
         rw [hy1] at b1
         rw [hy0] at b0
         have hq1:=posK_at ID.out S.length p1 y1 (List.getElem?_eq_some_iff.1 hp1).1 (Nat.le_refl _) hp1
         have hq0:=posK_at ID.out S.length p0 y0 (List.getElem?_eq_some_iff.1 hp0).1 (Nat.le_refl _) hp0
         have hl1:=(List.getElem?_eq_some_iff.1 hp1).1
         have hl0:=(List.getElem?_eq_some_iff.1 hp0).1
         rw [hy1] at hq1
         rw [hy0] at hq0
         have KK:=KQ.out.nxq ((Exq.of_ex K5.out).nxq (K3.out.nxq k4d))
         have LK1:Hid (∀ wq,Exq qs wi.drew wq→(Instr.lookup 191 (.map (some b)) (.int .i64 i1) false).run Tryz.prog wq=.ok (.int .i64 (p1:Int)) wq):=lH (fun wq hSw=>by
          have:=(MIH.out wq (KK.nxq hSw)).look (x:=i1) (by omega)
          rwa [hq1] at this)
         have LK0:Hid (∀ wq,Exq qs wi.drew wq→(Instr.lookup 191 (.map (some b)) (.int .i64 i0) false).run Tryz.prog wq=.ok (.int .i64 (p0:Int)) wq):=lH (fun wq hSw=>by
          have:=(MIH.out wq (KK.nxq hSw)).look (x:=i0) (by omega)
          rwa [hq0] at this)
         have NX:Hid (x6<wi.drew.heap.size∧¬ InQ qs x6):=lH ⟨by have:=k4d.size;have:=hx6.2;omega,fun hi=>by have h1:=(HQB.out x6 hi).2;have h2:=hx6.1;omega⟩
         obtain ⟨g,cap,g1,cap1,ev,hgl,hgq,hc1,hin1,⟨u10,hu10⟩,⟨u11,hu11⟩,f10,f11,OU1,OV1⟩:=rows_at ID.out OQ hp1 hjm
         cases ev
         rw [hy1] at OU1
         have OQ1:=OU1 i0
         have ks1:Exq qs wi.drew (wi.drew.setCell ⟨g1,j*2,none⟩ (.int .i64 i0)):=(Exq.refl _ _).set _ hin1
         obtain ⟨g',cap',g0,cap0,ev,hgl',hgq',hc0,hin0,⟨u00,hu00⟩,⟨u01,hu01⟩,f00,f01,OU0,OV0⟩:=rows_at ID.out (OwnN.nx OQ1 (Ex.refl _).drew) hp0 hjm
         cases ev
         rw [hy0] at OV0
         have OQ0:=lH (OV0 i1)
         have NG:Hid (g<wi.drew.heap.size∧¬ InQ qs g):=lH ⟨hgl,hgq⟩
         have NG':Hid (g<(wi.drew.setCell ⟨g1,j*2,none⟩ (.int .i64 i0)).drew.heap.size∧¬ InQ qs g):=lH ⟨hgl',hgq⟩
         have HE1:=lH E1
         have HE0:=lH E0
         have HC1:=lH hc1
         have KS1:=lH ks1
         have KS1d:Hid (Exq qs wi.drew (wi.drew.setCell ⟨g1,j*2,none⟩ (.int .i64 i0)).drew):=lH (ks1.nx (Ex.refl _).drew)
         have HC0:Hid (wi.drew.cell? ⟨g,p0*2+1,none⟩=some (.slice (some ⟨g0,0,none⟩) M1 cap0)):=lH ((Chg.cell (p:=⟨g,p0*2+1,none⟩) KS1d.out NG.out).symm.trans hc0)
         have IN1:=lH hin1
         have IN0:=lH hin0
         have ST1:=lH (And.intro hu10 f10)
         obtain ⟨gx,capx,g0',cap0',ev,_,_,hc0',_,_,⟨u01',hu01'⟩,_,f01',_,_⟩:=rows_at ID.out OQ hp0 hjm
         cases ev
         have hg00:g0=g0':=by
          have:=hc0'.symm.trans HC0.out
          simp at this
          exact this.1.symm
         subst hg00
         have ST0:Hid (wi.cell? ⟨g0,j*2+1,none⟩=some u01'∧wi.frozen? ⟨g0,j*2+1,none⟩=false):=lH ⟨hu01',f01'⟩
         clear hc0' hu01' f01'
         have K4D:=lH k4d
         have wr1:IntKind.i64.wrap ((r:Int)+1+1)=(r:Int)+1+1:=IntWalk.i64_in _ (by omega)
         have hrm1:(r:Int)+1<(cc.length:Int):=by omega
         have wr0:IntKind.i64.wrap (r:Int)=(r:Int):=IntWalk.i64_in _ (by omega)
         have hr01:(0:Int)≤(r:Int)+1:=by omega
         have hrm0:(r:Int)<(cc.length:Int):=by omega
         have hp1S:(p1:Int)<(S.length:Int):=by omega
         have hp0S:(p0:Int)<(S.length:Int):=by omega
         have hjM:(j:Int)<(M1:Int):=by omega
         clear hFF b1 b0 hq1 hq0 hy1 hy0 hp1 hp0 hc6 hc7 hi0 hi1 E1 E0 OU1 OV1 OU0 OV0 OQ OQ1 ks1 hgl hgq hgl' hgq' hc1 hc0 hin1 hin0 hu10 hu11 hu00 hu01 f10 f11 f00 f01 RI k4 k4d hx6 KK
         go_wp2_with fail
         refine wp_region_held_drew (S:=Exq qs wi.drew) (by kernel_rfl) (Exq.refl _ _) (fun hHeld=>?_)
         refine tkH 0 (v:=?_) rfl (by kernel_rfl) (fun _ _ _ h=>h) (by rfl) ?y1 hHeld ?_
         case y1=>intro wq hSw;go_simp<;>rfl
         refine tkH 1 (v:=?_) rfl (by kernel_rfl) (fun _ _ _ h=>h) (by rfl) ?y4 hHeld ?_
         case y4=>intro wq hSw;go_simp<;>rfl
         refine tkH 2 (v:=?_) rfl (by kernel_rfl) (fun _ _ _ h=>h) (by rfl) ?y7 hHeld ?_
         case y7=>intro wq hSw;go_simp<;>rfl
         refine tkH 3 (v:=?_) rfl (by kernel_rfl) (fun _ _ _ h=>h) (by rfl) ?y10 hHeld ?_
         case y10=>intro wq hSw;go_simp<;>rfl
         refine tkH 4 (v:=?_) rfl (by kernel_rfl) (fun _ _ _ h=>h) (by rfl) ?y13 hHeld ?_
         case y13=>intro wq hSw;go_simp<;>rfl
         refine tkH 5 (v:=?_) rfl (by kernel_rfl) (fun _ _ _ h=>h) (by rfl) ?y16 hHeld ?_
         case y16=>intro wq hSw;(have cq:=Chg.cellv hSw HE1.out NX.out;go_simp)<;>rfl
         refine tkH 6 (v:=?_) rfl (by kernel_rfl) (fun _ _ _ h=>h) (by rfl) ?y19 hHeld ?_
         case y19=>intro wq hSw;(have cq:=LK1.out _ hSw;go_simp)<;>rfl
         refine tkH 7 (v:=?_) rfl (by kernel_rfl) (fun _ _ _ h=>h) (by rfl) ?y22 hHeld ?_
         case y22=>intro wq hSw;go_simp<;>rfl
         refine tkH 8 (v:=?_) rfl (by kernel_rfl) (fun _ _ _ h=>h) (by rfl) ?y25 hHeld ?_
         case y25=>intro wq hSw;go_simp<;>rfl
         refine tkH 9 (v:=?_) rfl (by kernel_rfl) (fun _ _ _ h=>h) (by rfl) ?y28 hHeld ?_
         case y28=>intro wq hSw;(have cq:=Chg.cellv hSw HC1.out NG.out;go_simp)<;>rfl
         refine tkH 10 (v:=?_) rfl (by kernel_rfl) (fun _ _ _ h=>h) (by rfl) ?y31 hHeld ?_
         case y31=>intro wq hSw;go_simp<;>rfl
         refine tkH 11 (v:=?_) rfl (by kernel_rfl) (fun _ _ _ h=>h) (by rfl) ?y34 hHeld ?_
         case y34=>intro wq hSw;go_simp<;>rfl
         refine tkH 12 (v:=?_) rfl (by kernel_rfl) (fun _ _ _ h=>h) (by rfl) ?y37 hHeld ?_
         case y37=>intro wq hSw;go_simp<;>rfl
         refine tkH 13 (v:=?_) rfl (by kernel_rfl) (fun _ _ _ h=>h) (by rfl) ?y40 hHeld ?_
         case y40=>intro wq hSw;go_simp<;>rfl
         refine tkH 14 (v:=?_) rfl (by kernel_rfl) (fun _ _ _ h=>h) (by rfl) ?y43 hHeld ?_
         case y43=>intro wq hSw;go_simp<;>rfl
         refine tkH 15 (v:=?_) rfl (by kernel_rfl) (fun _ _ _ h=>h) (by rfl) ?y46 hHeld ?_
         case y46=>intro wq hSw;(have cq:=Chg.cellv hSw HE0.out NX.out;go_simp)<;>rfl
         refine tkH 16 (v:=?_) rfl (by kernel_rfl) (fun _ _ _ h=>h) (by rfl) ?y49 hHeld ?_
         case y49=>intro wq hSw;go_simp<;>rfl
         refine tkH 17 (v:=?_) rfl (by kernel_rfl) (fun _ _ _ h=>h) (by rfl) ?y52 hHeld ?_
         case y52=>intro wq hSw;go_simp<;>rfl
         refine rH 18 (by kernel_rfl) rfl fun K hK=>?_
         have st:=ST1.out
         go_simp
         refine hK.out _ _ (KS1.out) (fun hHeld=>?_)
         clear hK K
         refine wpAnyH_done (by kernel_rfl) ?_ _
         go_wp2_with fail
         refine wp_region_held_drew (S:=Exq qs wi.drew) (by kernel_rfl) (KS1d.out) (fun hHeld=>?_)
         refine tkH 0 (v:=?_) rfl (by kernel_rfl) (fun _ _ _ h=>h) (by rfl) ?y1 hHeld ?_
         case y1=>intro wq hSw;go_simp<;>rfl
         refine tkH 1 (v:=?_) rfl (by kernel_rfl) (fun _ _ _ h=>h) (by rfl) ?y4 hHeld ?_
         case y4=>intro wq hSw;go_simp<;>rfl
         refine tkH 2 (v:=?_) rfl (by kernel_rfl) (fun _ _ _ h=>h) (by rfl) ?y7 hHeld ?_
         case y7=>intro wq hSw;go_simp<;>rfl
         refine tkH 3 (v:=?_) rfl (by kernel_rfl) (fun _ _ _ h=>h) (by rfl) ?y10 hHeld ?_
         case y10=>intro wq hSw;go_simp<;>rfl
         refine tkH 4 (v:=?_) rfl (by kernel_rfl) (fun _ _ _ h=>h) (by rfl) ?y13 hHeld ?_
         case y13=>intro wq hSw;go_simp<;>rfl
         refine tkH 5 (v:=?_) rfl (by kernel_rfl) (fun _ _ _ h=>h) (by rfl) ?y16 hHeld ?_
         case y16=>intro wq hSw;go_simp<;>rfl
         refine tkH 6 (v:=?_) rfl (by kernel_rfl) (fun _ _ _ h=>h) (by rfl) ?y19 hHeld ?_
         case y19=>intro wq hSw;(have cq:=Chg.cellv hSw HE0.out NX.out;go_simp)<;>rfl
         refine tkH 7 (v:=?_) rfl (by kernel_rfl) (fun _ _ _ h=>h) (by rfl) ?y22 hHeld ?_
         case y22=>intro wq hSw;(have cq:=LK0.out _ hSw;go_simp)<;>rfl
         refine tkH 8 (v:=?_) rfl (by kernel_rfl) (fun _ _ _ h=>h) (by rfl) ?y25 hHeld ?_
         case y25=>intro wq hSw;go_simp<;>rfl
         refine tkH 9 (v:=?_) rfl (by kernel_rfl) (fun _ _ _ h=>h) (by rfl) ?y28 hHeld ?_
         case y28=>intro wq hSw;go_simp<;>rfl
         refine tkH 10 (v:=?_) rfl (by kernel_rfl) (fun _ _ _ h=>h) (by rfl) ?y31 hHeld ?_
         case y31=>intro wq hSw;(have cq:=Chg.cellv hSw HC0.out NG.out;go_simp)<;>rfl
         refine tkH 11 (v:=?_) rfl (by kernel_rfl) (fun _ _ _ h=>h) (by rfl) ?y34 hHeld ?_
         case y34=>intro wq hSw;go_simp<;>rfl
         refine tkH 12 (v:=?_) rfl (by kernel_rfl) (fun _ _ _ h=>h) (by rfl) ?y37 hHeld ?_
         case y37=>intro wq hSw;go_simp<;>rfl
         refine tkH 13 (v:=?_) rfl (by kernel_rfl) (fun _ _ _ h=>h) (by rfl) ?y40 hHeld ?_
         case y40=>intro wq hSw;go_simp<;>rfl
         refine tkH 14 (v:=?_) rfl (by kernel_rfl) (fun _ _ _ h=>h) (by rfl) ?y43 hHeld ?_
         case y43=>intro wq hSw;go_simp<;>rfl
         refine tkH 15 (v:=?_) rfl (by kernel_rfl) (fun _ _ _ h=>h) (by rfl) ?y46 hHeld ?_
         case y46=>intro wq hSw;(have cq:=Chg.cellv hSw HE1.out NX.out;go_simp)<;>rfl
         refine tkH 16 (v:=?_) rfl (by kernel_rfl) (fun _ _ _ h=>h) (by rfl) ?y49 hHeld ?_
         case y49=>intro wq hSw;go_simp<;>rfl
         refine tkH 17 (v:=?_) rfl (by kernel_rfl) (fun _ _ _ h=>h) (by rfl) ?y52 hHeld ?_
         case y52=>intro wq hSw;go_simp<;>rfl
         refine rH 18 (by kernel_rfl) rfl fun K hK=>?_
         have st:=ST0.out
         go_simp
         refine hK.out _ _ (Exq.set (p:=⟨g0,j*2+1,none⟩) KS1d.out _ IN0.out) (fun hHeld=>?_)
         clear hK K
         refine wpAnyH_done (by kernel_rfl) ?_ _
         go_wp2_with fail
         exact ⟨⟨r+1,by omega,by go_num,by rw [PP.out];exact OQ0.out,K4D.out.nxq (Exq.set (p:=⟨g0,j*2+1,none⟩) KS1d.out _ IN0.out)⟩,by simp [intOf];omega⟩
        ·obtain ⟨FF,hFF⟩:∃ FF,FF=procI cc j F r:=⟨_,rfl⟩
         have hre:r=cc.length-1:=by omega
         rw [← hFF] at OQ
         rw [hre] at hFF
         rw [← hFF] at PS
         have dlt:¬ ((r:Int)+1<(cc.length:Int)):=by omega
         have OQ:=lH OQ
         have k34:=K3.out.nxq k4
         clear hFF hre hrm k4
         go_wp2_with fail
         exact ⟨⟨q+1,by omega,by go_num,by rw [PS.out];exact OQ.out,k34⟩,by simp [intOf];omega⟩
      ·obtain rfl:q=M.length:=by omega
       rw [List.take_length,← HPB.out] at OQ
       have OQ:=lH OQ
       have kj:=KQ.out.nxq ((Exq.of_ex K5.out).nxq k3)
       clear hqm hq k3
       go_wp2_with fail
       exact ⟨⟨j+1,by omega,by go_num,OQ.out,kj⟩,by simp [intOf];omega⟩
    ·obtain rfl:j=M1:=by omega
     rw [← HLL.out] at OQ
     have OQ:=lH (OwnN.base OQ (show w.heap.size≤w1.heap.size by omega))
     have KE:Ex w wj:=Chg.trans K1.out (Chg.mono (KT.out _ kq) (fun x hx=>⟨Nat.lt_of_lt_of_le hx K1.out.size,by have:x<w.heap.size:=hx;omega⟩))
     have dlt:¬ ((j:Int)<(m:Int)+1):=by have:=HM1.out;omega
     clear hjm hj kq
     go_wp2_with fail
     go_ret2
     exact ⟨_,qs,rfl,OQ.out,KE⟩
theorem fil_fold {h:Int} (hh:h≤16) (l:List Nd) (hl:∀ y∈l,y.word<4294967296):∀ c∈foldC h l,c=l.filter fun y=>sameN (headW c) y.word h:=by
 induction l using snoc_ind with
 | h0=>intro c hc;simp [foldC] at hc
 | h1 l x ih =>
  have hl':∀ y∈l,y.word<4294967296:=fun y hy=>hl y (List.mem_append_left _ hy)
  have hx:x.word<4294967296:=hl x (by simp)
  have ih:=ih hl'
  have H:=(foldC_cnt hh l hl').1
  rw [foldC_append]
  generalize foldC h l=C at H ih
  have hw:∀ c∈C,headW c<4294967296:=fun c hc=>by
   obtain ⟨y,hy,he⟩:=headW_mem (H.mem c hc).1
   rw [he];exact hl' y ((H.mem c hc).2 y hy).1
  rcases stepC_cases h C x with ⟨hno,he⟩ | ⟨K,c,hc,hs,he⟩
  ·rw [he]
   intro d hd
   rw [List.filter_append]
   rcases List.mem_append.1 hd with hd | hd
   ·have h1:=hno d hd
    rw [← ih d hd]
    simp [h1]
   ·obtain rfl:=List.mem_singleton.1 hd
    have h1:l.filter (fun y=>sameN (headW [x]) y.word h)=[]:=by
     rw [List.filter_eq_nil_iff]
     intro y hy hxy
     obtain ⟨c,hc,hyc⟩:=H.all y hy
     have:=sameN_trans (hw c hc) (hl' y hy) hx ((H.mem c hc).2 y hyc).2 (sameN_symm hxy)
     rw [hno c hc] at this
     cases this
    rw [h1]
    have:sameN (headW [x]) x.word h=true:=sameN_refl _ hh
    simp [this]
  ·rw [he]
   intro d hd
   rw [List.filter_append]
   obtain ⟨i,hi⟩:=List.mem_iff_getElem?.1 hd
   have hcm:=List.mem_of_getElem? hc
   by_cases hik:i=K
   ·subst hik
    rw [List.getElem?_set_self (List.getElem?_eq_some_iff.1 hc).1] at hi
    cases hi
    rw [headW_snoc x (H.mem c hcm).1,← ih c hcm]
    simp [hs]
   ·rw [List.getElem?_set_ne (by omega)] at hi
    have hdm:=List.mem_of_getElem? hi
    have h1:sameN (headW d) x.word h=false:=by
     cases hsd:sameN (headW d) x.word h with
     | false=>rfl
     | true=>exact absurd (H.heads i K d c hi hc (sameN_trans (hw d hdm) hx (hw c hcm) hsd (sameN_symm hs))) hik
    rw [← ih d hdm]
    simp [h1]
theorem sort_check {l:List Nd} (h:checkN l=0):checkN (sortN l)=0:=by
 have hp:=sortN_perm l
 unfold checkN at h ⊢
 split at h
 ·omega
 rename_i hlen
 split at h
 ·omega
 rename_i hbad
 split at h
 ·omega
 rename_i hdup
 have h0:checkN l=0:=by unfold checkN;rw [if_neg hlen,if_neg hbad,if_neg hdup]
 rw [if_neg (by rw [hp.length_eq];exact hlen),if_neg (by
  intro hb
  obtain ⟨x,hx,hxb⟩:=List.any_eq_true.1 hb
  exact hbad (List.any_eq_true.2 ⟨x,hp.mem_iff.1 hx,hxb⟩)),if_neg]
 intro hd
 obtain ⟨i,k,x,y,hki,hx,hy,he⟩:=(dupN_iff _).1 hd
 have:=asc_at (sortN_str h0) hy hx hki
 unfold eqN at he
 rcases Bool.or_eq_true_iff.1 he with h1 | h1
 ·exact this.2 (by simpa using (beq_iff_eq.1 h1).symm)
 ·rw [beq_iff_eq.1 h1,bytesLess_irrefl] at this
  cases this.1
theorem sort_sort {l:List Nd} (h:checkN l=0):sortN (sortN l)=sortN l :=
 sortN_unique (check_keys h) ((sortN_perm _).trans (sortN_perm l)) (sortN_asc _)
theorem find_in {S:List Nd} (h:checkN S=0) {x:Nd} (hx:x∈S):findN S x.id=(x,true):=by
 have h2:(findN S x.id).2=true:=by
  unfold findN
  cases e:S.find? (fun y=>y.id==x.id) with
  | none=>have:=List.find?_eq_none.1 e x hx;simp at this
  | some y=>rfl
 obtain ⟨h3,h4⟩:=findN_mem h2
 have h5:=ids_eq (check_keys h) h3 hx h4
 exact Prod.ext h5 h2
theorem procB_high (S:List Nd) (x:Int) (j:Nat):∀ k,k≤j→procB S k x j=(0,0)
 | 0,_=>rfl
 | k+1,hk=>by
  show procL k (listsN S (k:Nat)) (procB S k) x j=_
  rw [procL_level _ _ _ _ _ (by omega)]
  exact procB_high S x j k (by omega)
theorem procB_low (S:List Nd) (x:Int) (j:Nat):∀ d,procB S (j+1+d) x j=procB S (j+1) x j
 | 0=>rfl
 | d+1=>by
  show procL (j+1+d) _ (procB S (j+1+d)) x j=_
  rw [procL_level _ _ _ _ _ (by omega)]
  exact procB_low S x j d
theorem atI_ids {c:List Nd} {q:Nat} (_:q<c.length):atI (idsN c) q=(c[q]?.getD Nd.zero).id:=by
 unfold atI idsN
 rw [List.getElem?_map]
 cases h:c[q]? with
 | none=>exact absurd (List.getElem?_eq_none_iff.1 h) (by omega)
 | some y=>rfl
theorem build_at {l:List Nd} (h0:checkN l=0) (hw:∀ x∈l,x.word<4294967296) {x:Nd} (hx:x∈sortN l) {j:Nat} (hj:j≤16):procB (sortN l) (j+1) x.id j=(neighN (sortN l) x.id (j:Nat)).1:=by
 obtain ⟨S,hS⟩:∃ S,S=sortN l:=⟨_,rfl⟩
 have hc:=sort_check h0
 have hss:=sort_sort h0
 have hA:=sortN_str h0
 have hws:∀ y∈S,y.word<4294967296:=fun y hy=>hw y ((sortN_mem l y).1 (hS▸hy))
 rw [← hS] at hx hc hss hA ⊢
 have hlv:lvlN (j:Int)=true:=by unfold lvlN;simp;omega
 have hf:=find_in hc hx
 have hL:listsN S (j:Int)=(foldC (j:Int) S).map idsN:=by
  unfold listsN
  rw [if_pos ⟨by rw [hc];rfl,hlv⟩,hss,classesN_fold (by omega)]
 obtain ⟨i,hi,_,hn⟩:=neighN_yes (l:=S) (id:=x.id) (h:=(j:Int)) hc (by rw [hf]) hlv
 have HC:=(foldC_cnt (show (j:Int)≤16 by omega) S hws).1
 have HF:=fil_fold (show (j:Int)≤16 by omega) S hws
 have hth:thrG S x.id (j:Int)=groupN S (j:Int) x.word:=by unfold thrG;rw [hss,hf]
 rw [hth] at hi hn
 rw [hf] at hi
 obtain ⟨c,hcm,hxc⟩:=HC.all x hx
 have hgc:groupN S (j:Int) x.word=c:=by
  have hsx:=((HC.mem c hcm).2 x hxc).2
  obtain ⟨y0,hy0,he0⟩:=headW_mem (HC.mem c hcm).1
  have hwc:headW c<4294967296:=by rw [he0];exact hws y0 ((HC.mem c hcm).2 y0 hy0).1
  conv=>rhs;rw [HF c hcm]
  unfold groupN
  apply List.filter_congr
  intro y hy
  rw [Bool.eq_iff_iff]
  exact ⟨fun h=>sameN_trans hwc (hws x hx) (hws y hy) hsx (sameN_symm h),fun h=>sameN_trans (hws y hy) hwc (hws x hx) (sameN_symm h) hsx⟩
 rw [hgc] at hi hn
 have hAc:AscS c:=by rw [HF c hcm];exact List.Pairwise.filter _ hA
 have hil:=(List.getElem?_eq_some_iff.1 hi).1
 show procL j (listsN S (j:Nat)) (procB S j) x.id j=_
 have hxi:x.id=atI (idsN c) i:=by rw [atI_ids hil,hi];rfl
 rw [hL,hn,hxi]
 rw [procL_at j _ _ ?_ ?_ (idsN c) (List.mem_map.2 ⟨c,hcm,rfl⟩) i (by unfold idsN;simpa using hil) (procB_high S _ j j (Nat.le_refl _))]
 ·have hlen:(idsN c).length=c.length:=by unfold idsN;simp
  show _=(leftN c i,rightN c i)
  congr 1
  ·unfold leftN
   by_cases h1:i=0
   ·rw [if_neg (by omega),if_pos h1]
   ·rw [if_pos (by omega),if_neg h1,atI_ids (by omega)]
  ·unfold rightN
   rw [hlen]
   by_cases h1:i+1<c.length
   ·rw [if_pos h1,atI_ids h1]
   ·rw [if_neg h1,List.getElem?_eq_none (by omega)];rfl
 ·rw [List.pairwise_map,List.pairwise_iff_getElem]
  intro p q hp hq hpq z hz1 hz2
  obtain ⟨y1,hy1,e1⟩:=List.mem_map.1 hz1
  obtain ⟨y2,hy2,e2⟩:=List.mem_map.1 hz2
  have m1:=(HC.mem _ (List.getElem_mem hp)).2 y1 hy1
  have m2:=(HC.mem _ (List.getElem_mem hq)).2 y2 hy2
  have e:y1=y2:=ids_eq (check_keys hc) m1.1 m2.1 (e1.trans e2.symm)
  subst e
  have hwc:∀ d∈foldC (j:Int) S,headW d<4294967296:=fun d hd=>by
   obtain ⟨y0,hy0,he0⟩:=headW_mem (HC.mem d hd).1
   rw [he0];exact hws y0 ((HC.mem d hd).2 y0 hy0).1
  have:=HC.heads p q _ _ (List.getElem?_eq_getElem hp) (List.getElem?_eq_getElem hq) (sameN_trans (hwc _ (List.getElem_mem hp)) (hws y1 m1.1) (hwc _ (List.getElem_mem hq)) m1.2 (sameN_symm m2.2))
  omega
 ·intro d hd
  obtain ⟨c',hc',rfl⟩:=List.mem_map.1 hd
  have hA':AscS c':=by rw [HF c' hc'];exact List.Pairwise.filter _ hA
  unfold idsN List.Nodup
  rw [List.pairwise_map]
  exact hA'.imp (fun h=>h.2)
theorem build_rows {l:List Nd} (h0:checkN l=0) (hw:∀ x∈l,x.word<4294967296) {m:Nat} (hm:m≤16):rowsF (sortN l) (m+1) (procB (sortN l) (m+1))=(sortN l).map (rowN (sortN l) (m+1)):=by
 unfold rowsF rowN
 apply List.map_congr_left
 intro x hx
 congr 1
 apply List.map_congr_left
 intro j hj
 have hj:=List.mem_range.1 hj
 have:=procB_low (sortN l) x.id j (m-j)
 rw [show j+1+(m-j)=m+1 by omega] at this
 rw [this,build_at h0 hw hx (by omega)]
theorem build_p (a:Option Addr) (n c:Nat) (l:List Nd) (h:Int) (w:World) (hs:Sl 3 encN w a n l) (hn:n≤1000) (hc:n≤c) (hm:c≤maxLen) (hw:∀ x∈l,x.word<4294967296) (hT:TabG w) :
  Calls Tryz.prog 38 #[.slice a n c,.int .i64 h] w (LkPost (buildN l h).1 (buildN l h).2 w):=by
 refine build_q a n c l h w hs hn hc hm hw hT _ _ (fun h0=>?_) (fun h0 h1=>?_) (fun h0 m he hm=>?_)
 ·unfold buildN
  rw [if_pos (by rw [beq_eq_false_iff_ne];exact h0)]
  exact ⟨rfl,rfl⟩
 ·unfold buildN
  rw [if_neg (by rw [h0];simp),if_pos h1]
  exact ⟨rfl,rfl⟩
 ·subst he
  unfold buildN
  rw [if_neg (by rw [h0];simp),if_neg (by unfold lvlN;simp;omega)]
  rw [build_rows h0 hw hm]
  exact ⟨rfl,rfl⟩
theorem check_perm {l l':List Nd} (hp:l'.Perm l) (h:checkN l=0):checkN l'=0:=by
 have hk:=check_keys h
 unfold checkN at h ⊢
 split at h
 ·omega
 rename_i hlen
 split at h
 ·omega
 rename_i hbad
 rw [if_neg (by rw [hp.length_eq];exact hlen),if_neg (by
  intro hb
  obtain ⟨x,hx,hxb⟩:=List.any_eq_true.1 hb
  exact hbad (List.any_eq_true.2 ⟨x,hp.mem_iff.1 hx,hxb⟩)),if_neg]
 intro hd
 obtain ⟨i,k,x,y,hki,hx,hy,he⟩:=(dupN_iff _).1 hd
 have h2:l'.Pairwise fun x y=>x.key.toList≠y.key.toList∧x.id≠y.id :=
  (hp.symm.pairwise_iff (fun {x y} hxy=>⟨fun he=>hxy.1 he.symm,fun he=>hxy.2 he.symm⟩)).1 (keys_pw hk)
 obtain ⟨hi,e1⟩:=List.getElem?_eq_some_iff.1 hx
 obtain ⟨hk,e2⟩:=List.getElem?_eq_some_iff.1 hy
 have:=List.pairwise_iff_getElem.1 h2 k i hk hi hki
 rw [e1,e2] at this
 unfold eqN at he
 rcases Bool.or_eq_true_iff.1 he with h1 | h1
 ·exact this.2 (by simpa using (beq_iff_eq.1 h1).symm)
 ·exact this.1 (beq_iff_eq.1 h1).symm
theorem sort_perm {l l':List Nd} (hp:l'.Perm l) (h:checkN l=0):sortN l'=sortN l :=
 sortN_unique (check_keys h) ((sortN_perm l').trans hp) (sortN_asc l')
theorem build_perm {l l':List Nd} (hp:l'.Perm l) (h:checkN l=0) (m:Int):buildN l' m=buildN l m:=by
 unfold buildN
 rw [sort_perm hp h,check_perm hp h,h]
theorem check_id {l:List Nd} (h:checkN l=0) {x:Nd} (hx:x∈l):1≤x.id:=by
 unfold checkN at h
 split at h
 ·omega
 ·split at h
  ·omega
  ·rename_i hb
   have hb:badN x=false:=by
    cases hy2:badN x with
    | false=>rfl
    | true=>exact absurd (List.any_eq_true.2 ⟨x,hx,hy2⟩) hb
   unfold badN at hb
   simp only [Bool.or_eq_false_iff,decide_eq_false_iff_not] at hb
   omega
def lastI (A:List Nd):Int:=(A.getLast?.getD Nd.zero).id
def headI (B:List Nd):Int:=(B.head?.getD Nd.zero).id
def grpS (l:List Nd) (h:Int) (v:Nat):List Nd:=groupN (sortN l) h v
theorem grp_eq {l:List Nd} {h:Int} {u v:Nat} (hw:∀ x∈l,x.word<4294967296) (hu:u<4294967296) (hv:v<4294967296) (hs:sameN u v h=true):grpS l h u=grpS l h v:=by
 unfold grpS groupN
 apply List.filter_congr
 intro y hy
 have hy:=hw y ((sortN_mem l y).1 hy)
 rw [Bool.eq_iff_iff]
 exact ⟨fun h=>sameN_trans hy hu hv h hs,fun h=>sameN_trans hy hv hu h (sameN_symm hs)⟩
theorem grp_mem {l:List Nd} {h:Int} {v:Nat} {y:Nd}:y∈grpS l h v↔y∈l∧sameN y.word v h=true:=by
 unfold grpS groupN
 rw [List.mem_filter,sortN_mem]
theorem neigh_split {l:List Nd} (h0:checkN l=0) {x:Nd} (hx:x∈l) {h:Int} (hl:lvlN h=true) {A B:List Nd} (e:grpS l h x.word=A++x::B):neighN l x.id h=((lastI A,headI B),true):=by
 have hf:=find_in h0 hx
 obtain ⟨i,hi,_,hn⟩:=neighN_yes (l:=l) (id:=x.id) (h:=h) h0 (by rw [hf]) hl
 have hG:thrG l x.id h=A++x::B:=by unfold thrG;rw [hf];exact e
 have hA:AscS (thrG l x.id h):=asc_group (sortN_str h0) h _
 rw [hf] at hi
 rw [hG] at hi hn hA
 have h1:=idxI_at hA hi
 have h2:=idxI_at hA (i:=A.length) (x:=x) (by simp)
 have hi:i=A.length:=by simp only at h1;omega
 subst hi
 rw [hn]
 congr 2
 ·unfold leftN lastI
  by_cases ha:A.length=0
  ·rw [if_pos ha,List.length_eq_zero_iff.1 ha];rfl
  ·rw [if_neg ha,List.getElem?_append_left (by omega),List.getLast?_eq_getElem?]
 ·unfold rightN headI
  rw [List.getElem?_append_right (by omega),show A.length+1-A.length=1 by omega,List.getElem?_cons_succ,List.head?_eq_getElem?]
theorem grp_at {l:List Nd} {x:Nd} (hx:x∈l) {h:Int} (hl:lvlN h=true):∃ A B,grpS l h x.word=A++x::B:=by
 have:x∈grpS l h x.word:=grp_mem.2 ⟨hx,sameN_refl _ (by unfold lvlN at hl;simp at hl;exact hl.2)⟩
 exact List.append_of_mem this
theorem grp_asc {l:List Nd} (h0:checkN l=0) (h:Int) (v:Nat):AscS (grpS l h v):=asc_group (sortN_str h0) h v
theorem find_zero {l:List Nd} (h0:checkN l=0):findN l 0=(Nd.zero,false) :=
 findN_none fun j z _ hz=>by have:=check_id h0 (List.mem_of_getElem? hz);omega
def dropN (l:List Nd) (id:Int):List Nd:=l.filter fun y=>!(y.id==id)
theorem drop_check {l:List Nd} (h0:checkN l=0) (id:Int):checkN (dropN l id)=0:=by
 have hk:=keys_pw (check_keys h0)
 have hs:(dropN l id).Sublist l:=List.filter_sublist
 unfold checkN at h0 ⊢
 split at h0
 ·omega
 rename_i hlen
 split at h0
 ·omega
 rename_i hbad
 rw [if_neg (by have:=hs.length_le;omega),if_neg (by
  intro hb
  obtain ⟨x,hx,hxb⟩:=List.any_eq_true.1 hb
  exact hbad (List.any_eq_true.2 ⟨x,hs.subset hx,hxb⟩)),if_neg]
 intro hd
 obtain ⟨i,k,x,y,hki,hx,hy,he⟩:=(dupN_iff _).1 hd
 have h2:=hk.sublist hs
 obtain ⟨hi,e1⟩:=List.getElem?_eq_some_iff.1 hx
 obtain ⟨hk,e2⟩:=List.getElem?_eq_some_iff.1 hy
 have:=List.pairwise_iff_getElem.1 h2 k i hk hi hki
 rw [e1,e2] at this
 unfold eqN at he
 rcases Bool.or_eq_true_iff.1 he with h1 | h1
 ·exact this.2 (by simpa using (beq_iff_eq.1 h1).symm)
 ·exact this.1 (beq_iff_eq.1 h1).symm
theorem drop_sort {l:List Nd} (h0:checkN l=0) (id:Int):sortN (dropN l id)=dropN (sortN l) id:=by
 symm
 apply sortN_unique (check_keys (drop_check h0 id))
 ·exact (sortN_perm l).filter _
 ·exact List.Pairwise.filter _ (sortN_asc l)
theorem drop_grp {l:List Nd} (h0:checkN l=0) (id:Int) (h:Int) (v:Nat):grpS (dropN l id) h v=dropN (grpS l h v) id:=by
 unfold grpS groupN
 rw [drop_sort h0]
 unfold dropN
 rw [List.filter_filter,List.filter_filter]
 apply List.filter_congr
 intro y _
 rw [Bool.and_comm]
theorem drop_none {A:List Nd} {id:Int} (h:∀ y∈A,y.id≠id):dropN A id=A:=by
 unfold dropN
 rw [List.filter_eq_self]
 intro y hy
 have:=h y hy
 simp [this]
theorem drop_app (A B:List Nd) (id:Int):dropN (A++B) id=dropN A id++dropN B id:=by unfold dropN;rw [List.filter_append]
theorem drop_yes (y:Nd) (B:List Nd) {id:Int} (h:y.id=id):dropN (y::B) id=dropN B id:=by unfold dropN;rw [List.filter_cons_of_neg (by simp [h])]
theorem drop_no (y:Nd) (B:List Nd) {id:Int} (h:y.id≠id):dropN (y::B) id=y::dropN B id:=by unfold dropN;rw [List.filter_cons_of_pos (by simp [h])]
theorem drop_nil (id:Int):dropN [] id=[]:=rfl
theorem loc_law {l:List Nd} (h0:checkN l=0) (hw:∀ x∈l,x.word<4294967296) {h:Int} (hl:lvlN h=true) {x y:Nd} (hx:x∈l) (hy:y∈dropN l x.id) :
  (neighN l y.id h).2=true∧(neighN (dropN l x.id) y.id h).2=true∧(neighN l x.id h).2=true ∧
  ((neighN l y.id h).1.1≠(neighN (dropN l x.id) y.id h).1.1→(neighN l y.id h).1.1=x.id) ∧
  ((neighN l y.id h).1.2≠(neighN (dropN l x.id) y.id h).1.2→(neighN l y.id h).1.2=x.id) ∧
  ((neighN l y.id h).1.1=x.id→(neighN (dropN l x.id) y.id h).1.1=(neighN l x.id h).1.1) ∧
  ((neighN l y.id h).1.2=x.id→(neighN (dropN l x.id) y.id h).1.2=(neighN l x.id h).1.2):=by
 have hyl:y∈l:=(List.mem_filter.1 hy).1
 have hyx:y.id≠x.id:=by have:=(List.mem_filter.1 hy).2;simpa using this
 have hx1:=check_id h0 hx
 obtain ⟨A,B,e⟩:=grp_at hyl hl
 have ha:=grp_asc h0 h y.word
 have hn:=neigh_split h0 hyl hl e
 have e2:grpS (dropN l x.id) h y.word=dropN A x.id++y::dropN B x.id:=by
  rw [drop_grp h0,e,drop_app,drop_no _ _ hyx]
 have hn2:=neigh_split (drop_check h0 x.id) hy hl e2
 obtain ⟨A3,B3,e3⟩:=grp_at hx hl
 have hn3:=neigh_split h0 hx hl e3
 have hmem:∀ z∈grpS l h y.word,z.id=x.id→z=x:=fun z hz he=>ids_eq (check_keys h0) (grp_mem.1 hz).1 hx he
 have hxg:x∈grpS l h y.word→grpS l h x.word=grpS l h y.word:=fun hm=>grp_eq hw (hw x hx) (hw y hyl) (grp_mem.1 hm).2
 have hxn:∀ A' B',grpS l h y.word=A'++x::B'→(neighN l x.id h)=((lastI A',headI B'),true):=fun A' B' e'=>by
  refine neigh_split h0 hx hl ?_
  rw [hxg (by rw [e'];simp),e']
 have hnone:∀ {P Q:List Nd},(∀ z∈P,z∈grpS l h y.word)→(∀ z∈P,z.id≠x.id)→dropN P x.id=P:=fun _ h2=>drop_none h2
 rw [hn,hn2]
 rw [e] at ha hmem hxn
 have hL:(lastI A≠lastI (dropN A x.id)→lastI A=x.id)∧(lastI A=x.id→lastI (dropN A x.id)=(neighN l x.id h).1.1):=by
  rcases List.eq_nil_or_concat A with rfl | ⟨A',z,rfl⟩
  ·exact ⟨fun h=>absurd rfl h,fun h=>by have:(0:Int)=x.id:=h;omega⟩
  ·rw [List.concat_eq_append] at *
   have e5:lastI (A'++[z])=z.id:=by unfold lastI;simp
   by_cases hz:z.id=x.id
   ·have hzx:=hmem z (by simp) hz
    subst hzx
    have h7:=hxn A' (y::B) (by simp)
    rw [h7,drop_app,drop_yes _ _ rfl,drop_nil,List.append_nil,drop_none (fun w hw'=>?_)]
    ·exact ⟨fun _=>e5,fun _=>rfl⟩
    ·have h8:=(List.pairwise_append.1 (List.pairwise_append.1 ha).1).2.2 w hw' z (by simp)
     exact h8.2
   ·have e6:lastI (dropN (A'++[z]) x.id)=z.id:=by rw [drop_app,drop_no _ _ hz,drop_nil];unfold lastI;simp
    rw [e5,e6]
    exact ⟨fun h=>absurd rfl h,fun h=>absurd h hz⟩
 have hR:(headI B≠headI (dropN B x.id)→headI B=x.id)∧(headI B=x.id→headI (dropN B x.id)=(neighN l x.id h).1.2):=by
  cases B with
  | nil=>exact ⟨fun h=>absurd rfl h,fun h=>by have:(0:Int)=x.id:=h;omega⟩
  | cons z B' =>
   have e5:headI (z::B')=z.id:=rfl
   by_cases hz:z.id=x.id
   ·have hzx:=hmem z (by simp) hz
    subst hzx
    have h7:=hxn (A++[y]) B' (by simp)
    rw [h7,drop_yes _ _ rfl,drop_none (fun w hw'=>?_)]
    ·exact ⟨fun _=>e5,fun _=>rfl⟩
    ·have h8:=(List.pairwise_cons.1 (List.pairwise_cons.1 (List.pairwise_append.1 ha).2.1).2).1 w hw'
     exact fun h=>h8.2 h.symm
   ·have e6:headI (dropN (z::B') x.id)=z.id:=by rw [drop_no _ _ hz];rfl
    rw [e5,e6]
    exact ⟨fun h=>absurd rfl h,fun h=>absurd h hz⟩
 refine ⟨rfl,rfl,by rw [hn3],hL.1,hR.1,hL.2,hR.2⟩
theorem buildN_small (l:List Nd) (h:Int) (hl:l.length≤1000):(buildN l h).1.length≤1000∧∀ c∈(buildN l h).1,c.2.length≤17:=by
 unfold buildN
 split
 ·simp
 ·split
  ·simp
  ·rename_i hv
   refine ⟨by simp [sortN_length];omega,fun c hc=>?_⟩
   obtain ⟨x,_,rfl⟩:=List.mem_map.1 hc
   rw [rowN_len]
   unfold lvlN at hv
   simp at hv
   omega
def nums4 (x:Nr):List Int:=[x.1,x.2.1,x.2.2.1,x.2.2.2]
def numsP (p:Pr):List Int:=p.known++[p.left,p.right]++p.near.flatMap nums4
def ordN (N:List Nd) (l:List Int) (but:Int):List Int:=((sortN N).filter fun x=>!(x.id==but)&&l.contains x.id).map Nd.id
def refsN (N:List Nd) (p:Pr):List Int:=if checkN N=0 then ordN N (numsP p) p.id else []
def peerN (P:List Pr) (id:Int):Pr:=(P.find? fun p=>p.id==id).getD ⟨id,0,0,[],[]⟩
def normalN (N:List Nd) (P:List Pr):List Pr:=if checkN N=0 then (sortN N).map fun x=>peerN P x.id else []
def arN (N:List Nd) (p:Pr):List Int:=if (findN N p.id).2=true∧checkN N=0 then ordN N (refsN N p++[p.id]) 0 else []
def pr2 (id:Int) (q:Int×Int):List (Int×Int):=(if q.1=id then [] else [(q.1,q.2)])++(if q.2=id then [] else [(q.2,q.1)])
def prsN (id:Int) (l:List Int):List (Int×Int):=(l.zip l.tail).flatMap (pr2 id)
def introsN (N:List Nd) (p:Pr):List (Int×Int):=prsN p.id (arN N p)
def besN (id:Int) (l:List Int):Int×Int:=match l.findIdx? (·==id) with
 | none=>(0,0)
 | some i=>((if i=0 then 0 else l[i-1]?.getD 0),l[i+1]?.getD 0)
def keepN (N:List Nd) (p:Pr):Int×Int:=besN p.id (arN N p)
def toldN (M:List (Int×Int)) (id:Int):List Int:=(M.filter fun m=>m.1==id).map (·.2)
def roundN (N:List Nd) (P:List Pr):List Pr :=
 (normalN N P).map fun p=>{ p with left:=(keepN N p).1,right:=(keepN N p).2,known:=ordN N ([(keepN N p).1,(keepN N p).2]++toldN ((normalN N P).flatMap (introsN N)) p.id) p.id }
section
variable {N:List Nd} {P:List Pr}
theorem mem_ord {l:List Int} {but id:Int}:id∈ordN N l but↔(∃ x∈N,x.id=id)∧id≠but∧id∈l:=by
 unfold ordN
 simp only [List.mem_map,List.mem_filter,sortN_mem,Bool.and_eq_true,Bool.not_eq_true',beq_eq_false_iff_ne,List.contains_iff_mem]
 constructor
 ·rintro ⟨x,⟨h1,h2,h3⟩,rfl⟩;exact ⟨⟨x,h1,rfl⟩,h2,h3⟩
 ·rintro ⟨⟨x,h1,rfl⟩,h2,h3⟩;exact ⟨x,⟨h1,h2,h3⟩,rfl⟩
theorem mem_refs (h0:checkN N=0) {p:Pr} {id:Int}:id∈refsN N p↔(∃ x∈N,x.id=id)∧id≠p.id∧id∈numsP p:=by
 unfold refsN
 rw [if_pos h0,mem_ord]
theorem peer_id (P:List Pr) (id:Int):(peerN P id).id=id:=by
 unfold peerN
 cases h:P.find? fun p=>p.id==id with
 | none=>rfl
 | some p=>simpa using List.find?_some h
theorem ar_eq (h0:checkN N=0) {p:Pr} {x:Nd} (hx:x∈N) (hid:x.id=p.id):arN N p=((sortN N).filter fun y=>y.id==p.id||(numsP p).contains y.id).map Nd.id:=by
 unfold arN
 rw [if_pos ⟨by rw [← hid,find_in h0 hx],h0⟩]
 unfold ordN
 congr 1
 refine List.filter_congr fun y hy=>?_
 have hy:=(sortN_mem N y).1 hy
 have h1:=check_id h0 hy
 rw [Bool.eq_iff_iff]
 simp only [Bool.and_eq_true,Bool.not_eq_true',beq_eq_false_iff_ne,List.contains_iff_mem,List.mem_append,List.mem_singleton,Bool.or_eq_true,beq_iff_eq,mem_refs h0]
 constructor
 ·rintro ⟨_,⟨_,_,h⟩ | h⟩
  ·exact .inr h
  ·exact .inl h
 ·rintro (h | h)
  ·exact ⟨by omega,.inr h⟩
  ·by_cases he:y.id=p.id
   ·exact ⟨by omega,.inr he⟩
   ·exact ⟨by omega,.inl ⟨⟨y,hy,rfl⟩,he,h⟩⟩
end
def rndP (N:List Nd) (M:List (Int×Int)) (p:Pr):Pr:={ p with left:=(keepN N p).1,right:=(keepN N p).2,known:=ordN N ([(keepN N p).1,(keepN N p).2]++toldN M p.id) p.id }
theorem roundN_eq (N:List Nd) (P:List Pr):roundN N P=(normalN N P).map (rndP N ((normalN N P).flatMap (introsN N))):=rfl
section
variable {N:List Nd} {P:List Pr}
theorem sort_ids {N:List Nd} (h0:checkN N=0):(sortN N).Pairwise fun x y=>x.id≠y.id:=List.Pairwise.imp (fun h=>h.2) (sortN_str h0)
def KR (N:List Nd) (P:List Pr) (x y:Nat):Prop:=∃ a b,(sortN N)[x]?=some a∧(sortN N)[y]?=some b∧b.id∈refsN N (peerN P a.id)
theorem KR.lt {x y:Nat} (h:KR N P x y):x<N.length∧y<N.length:=by
 obtain ⟨a,b,h1,h2,_⟩:=h
 have g1:=(List.getElem?_eq_some_iff.1 h1).1
 have g2:=(List.getElem?_eq_some_iff.1 h2).1
 rw [sortN_length] at g1 g2
 exact ⟨g1,g2⟩
inductive Cl (R:Int→Int→Prop):Int→Int→Prop
 | refl (a:Int):Cl R a a
 | step {a c b:Int}:R a c∨R c a→Cl R c b→Cl R a b
theorem Cl.trans {R:Int→Int→Prop} {a b c:Int} (h:Cl R a b) (k:Cl R b c):Cl R a c:=by
 induction h with
 | refl _=>exact k
 | step h1 _ ih=>exact .step h1 (ih k)
theorem Cl.one {R:Int→Int→Prop} {a b:Int} (h:R a b∨R b a):Cl R a b:=.step h (.refl b)
theorem Cl.symm {R:Int→Int→Prop} {a b:Int} (h:Cl R a b):Cl R b a:=by
 induction h with
 | refl _=>exact .refl _
 | step h1 _ ih=>exact ih.trans (.one h1.symm)
theorem Cl.mono {R R':Int→Int→Prop} (hr:∀ a b,R a b→Cl R' a b) {a b:Int} (h:Cl R a b):Cl R' a b:=by
 induction h with
 | refl _=>exact .refl _
 | step h1 _ ih =>
  rcases h1 with h | h
  ·exact (hr _ _ h).trans ih
  ·exact (hr _ _ h).symm.trans ih
end
section
variable {N:List Nd}
theorem prs_inv {id:Int}:∀ {l:List Int} {u v:Int},(u,v)∈prsN id l→u≠id∧∃ A B,l=A++u::v::B∨l=A++v::u::B
 | [],u,v,h=>by simp [prsN] at h
 | [a],u,v,h=>by simp [prsN] at h
 | a::b::r,u,v,h=>by
  have e:prsN id (a::b::r)=pr2 id (a,b)++prsN id (b::r):=by unfold prsN;simp
  rw [e] at h
  rcases List.mem_append.1 h with h | h
  ·unfold pr2 at h
   rcases List.mem_append.1 h with h | h
   ·by_cases ha:a=id
    ·rw [if_pos ha] at h;cases h
    ·rw [if_neg ha] at h
     have:=List.mem_singleton.1 h
     cases this
     exact ⟨ha,[],r,.inl rfl⟩
   ·by_cases hb:b=id
    ·rw [if_pos (c:=b=id) hb] at h;cases h
    ·rw [if_neg (c:=b=id) hb] at h
     have:=List.mem_singleton.1 h
     cases this
     exact ⟨hb,[],r,.inr rfl⟩
  ·obtain ⟨h1,A,B,h2⟩:=prs_inv h
   exact ⟨h1,a::A,B,by rcases h2 with h | h<;>simp [h]⟩
theorem ar_nodup (h0:checkN N=0) {p:Pr}:(arN N p).Nodup:=by
 have hs:=sort_ids h0
 unfold arN
 split
 ·unfold ordN
  exact List.Pairwise.map _ (fun a b h=>h) (hs.filter _)
 ·exact List.Pairwise.nil
variable {P:List Pr}
end
def otherN (N:List Nd) (id own:Int):Int:=if (findN N id).2=true∧id≠own then id else 0
def zNr:Nr:=(0,0,0,0)
def nearAt (p:Pr) (i:Nat):Nr:=p.near[i]?.getD zNr
def linkB (N:List Nd) (p:Pr) (lev:Int):Int×Int :=
 if (findN N p.id).2=true∧checkN N=0∧lvlN lev=true∧lev≤p.near.length then
  (let y:=if lev=0 then (p.left,p.right) else if bitN (findN N p.id).1.word (lev-1)=1 then ((nearAt p (lev-1).toNat).2.1,(nearAt p (lev-1).toNat).2.2.2) else ((nearAt p (lev-1).toNat).1,(nearAt p (lev-1).toNat).2.2.1)
   (otherN N y.1 p.id,otherN N y.2 p.id))
 else (0,0)
def pairB (N:List Nd) (own nb:Int) (lev:Nat) (zero one:Int):Int×Int :=
 if (findN N nb).2=true then (if bitN (findN N nb).1.word lev=0 then ((findN N nb).1.id,otherN N one own) else (otherN N zero own,(findN N nb).1.id)) else (0,0)
def stepB (N:List Nd) (st:Int→Pr) (p:Pr) (i:Nat):Nr :=
 ((pairB N p.id (linkB N p i).1 i (nearAt (st (linkB N p i).1) i).1 (nearAt (st (linkB N p i).1) i).2.1).1,(pairB N p.id (linkB N p i).1 i (nearAt (st (linkB N p i).1) i).1 (nearAt (st (linkB N p i).1) i).2.1).2,
  (pairB N p.id (linkB N p i).2 i (nearAt (st (linkB N p i).2) i).2.2.1 (nearAt (st (linkB N p i).2) i).2.2.2).1,(pairB N p.id (linkB N p i).2 i (nearAt (st (linkB N p i).2) i).2.2.1 (nearAt (st (linkB N p i).2) i).2.2.2).2)
def nextB (N:List Nd) (st:Int→Pr) (p:Pr) (h:Nat):List Nr:=(List.range h).map (stepB N st p)
def bRoundN (N:List Nd) (P:List Pr) (h:Int):List Pr:=if lvlN h=true then (normalN N P).map fun p=>{ p with near:=nextB N (peerN (normalN N P)) p h.toNat } else []
def linksB (N:List Nd) (P:List Pr) (h:Int):List Lkd:=if lvlN h=true then (normalN N P).map fun p=>(p.id,(List.range (h.toNat+1)).map fun (lev:Nat)=>linkB N p lev) else []
section
variable {N:List Nd}
theorem grp_parts (h0:checkN N=0) {i:Int} {v:Nat} {A B:List Nd} {x:Nd} (e:grpS N i v=A++x::B):(∀ z∈A,z∈N∧z.id≠x.id)∧(∀ z∈B,z∈N∧z.id≠x.id):=by
 have ha:=grp_asc h0 i v
 rw [e] at ha
 have h1:=List.pairwise_append.1 ha
 have hm:∀ z∈A++x::B,z∈N:=fun z hz=>(grp_mem.1 (by rw [e];exact hz)).1
 exact ⟨fun z hz=>⟨hm z (by simp [hz]),(h1.2.2 z hz x (by simp)).2⟩,fun z hz=>⟨hm z (by simp [hz]),(((List.pairwise_cons.1 h1.2.1).1 z hz).2).symm⟩⟩
theorem grp_same (hw:∀ x∈N,x.word<4294967296) {x u:Nd} {i:Nat} (hx:x∈N) (hu:u∈grpS N i x.word):grpS N i u.word=grpS N i x.word:=by
 obtain ⟨h1,h2⟩:=grp_mem.1 hu
 exact grp_eq hw (hw u h1) (hw x hx) h2
end
def brkN (x:Nd) (lev:Int) (y:Nd):Bool:=y.id==x.id||sameN x.word y.word (lev+1)
def runStep (x:Nd) (lev:Int) (s:Nat×Nat) (y:Nd):Nat×Nat:=if brkN x lev y then (s.1,0) else (max s.1 (s.2+1),s.2+1)
def runF (x:Nd) (lev:Int) (G:List Nd):Nat×Nat:=G.foldl (runStep x lev) (0,0)
def runN (l:List Nd) (id lev:Int):Nat:=if checkN l=0∧(findN l id).2=true∧lvlN lev=true then (runF (findN l id).1 lev (thrG l id lev)).1 else 0
section
variable {x:Nd} {lev:Int}
theorem run_inv:∀ (G:List Nd) (s:Nat×Nat),s.2≤s.1→(G.foldl (runStep x lev) s).2≤(G.foldl (runStep x lev) s).1∧s.1≤(G.foldl (runStep x lev) s).1
 | [],s,h=>⟨h,Nat.le_refl _⟩
 | y::G,s,h=>by
  have h1:(runStep x lev s y).2≤(runStep x lev s y).1∧s.1≤(runStep x lev s y).1:=by
   unfold runStep
   split
   ·exact ⟨Nat.zero_le _,Nat.le_refl _⟩
   ·exact ⟨by show s.2+1≤max s.1 (s.2+1);omega,by show s.1≤max s.1 (s.2+1);omega⟩
  have:=run_inv G _ h1.1
  exact ⟨this.1,Nat.le_trans h1.2 this.2⟩
theorem run_q:∀ (Q:List Nd) (s:Nat×Nat),s.2≤s.1→(∀ y∈Q,brkN x lev y=false)→(Q.foldl (runStep x lev) s).2=s.2+Q.length
 | [],s,_,_=>rfl
 | y::Q,s,h,hQ=>by
  have e:runStep x lev s y=(max s.1 (s.2+1),s.2+1):=by unfold runStep;rw [hQ y (by simp)];rfl
  show (Q.foldl (runStep x lev) (runStep x lev s y)).2=_
  rw [e,run_q Q _ (by simp only;omega) (fun z hz=>hQ z (by simp [hz]))]
  simp only [List.length_cons]
  omega
theorem run_seg (A Q B:List Nd) (hQ:∀ y∈Q,brkN x lev y=false):Q.length≤(runF x lev (A++Q++B)).1:=by
 unfold runF
 rw [List.foldl_append,List.foldl_append]
 have h1:=run_inv (x:=x) (lev:=lev) A (0,0) (Nat.le_refl _)
 have h2:=run_q Q _ h1.1 hQ
 have h3:=run_inv (x:=x) (lev:=lev) Q _ h1.1
 have h4:=run_inv (x:=x) (lev:=lev) B _ h3.1
 omega
end
theorem runN_eq {l:List Nd} (h0:checkN l=0) {x:Nd} (hx:x∈l) {h:Nat} (hh:h≤16):runN l x.id h=(runF x h (grpS l h x.word)).1:=by
 have hf:=find_in h0 hx
 unfold runN thrG
 rw [hf,if_pos ⟨h0,rfl,by unfold lvlN;simp;omega⟩]
 rfl
def gtP (N:List Nd) (own:Nd) (id:Int):Bool:=!(Op.bytesLess (findN N id).1.key.toList own.key.toList||((findN N id).1.key.toList==own.key.toList))
def insAt (l:List Int) (i:Nat) (v:Int):List Int:=l.take i++v::l.drop i
theorem findIdx_two {p:Int→Bool} {A B:List Int} (hA:∀ u∈A,p u=false) (hB:∀ u∈B,p u=true):(A++B).findIdx p=A.length:=by
 have h1:A.findIdx p=A.length:=List.findIdx_eq_length.2 (by simpa using hA)
 rw [List.findIdx_append,if_neg (by omega)]
 cases B with
 | nil=>simp
 | cons b B=>simp [List.findIdx_cons,hB b (by simp)]
section
variable {N:List Nd}
theorem row_law (h0:checkN N=0) {x:Nd} (hx:x∈N) {p:Pr} (hid:x.id=p.id):insAt (refsN N p) ((refsN N p).findIdx (gtP N x)) p.id=arN N p:=by
 obtain ⟨A,B,e⟩:=List.append_of_mem ((sortN_mem N x).2 hx)
 have hs:=sortN_str h0
 unfold AscS at hs
 rw [e] at hs
 have hA:∀ y∈A,Op.bytesLess y.key.toList x.key.toList=true∧y.id≠x.id:=fun y hy=>(List.pairwise_append.1 hs).2.2 y hy x (by simp)
 have hB:∀ y∈B,Op.bytesLess x.key.toList y.key.toList=true∧x.id≠y.id:=fun y hy=>(List.pairwise_cons.1 (List.pairwise_append.1 hs).2.1).1 y hy
 have mA:∀ y∈A,y∈N:=fun y hy=>(sortN_mem N y).1 (by rw [e];simp [hy])
 have mB:∀ y∈B,y∈N:=fun y hy=>(sortN_mem N y).1 (by rw [e];simp [hy])
 have hr:refsN N p=(A.filter fun y=>(numsP p).contains y.id).map Nd.id++(B.filter fun y=>(numsP p).contains y.id).map Nd.id:=by
  have fA:(A.filter fun y=>!(y.id==p.id)&&(numsP p).contains y.id)=A.filter fun y=>(numsP p).contains y.id:=List.filter_congr fun y hy=>by
   have h1:=(hA y hy).2
   rw [hid] at h1
   simp [h1]
  have fB:(B.filter fun y=>!(y.id==p.id)&&(numsP p).contains y.id)=B.filter fun y=>(numsP p).contains y.id:=List.filter_congr fun y hy=>by
   have h1:=(hB y hy).2
   rw [hid] at h1
   simp [Ne.symm h1]
  unfold refsN
  rw [if_pos h0]
  unfold ordN
  rw [e,List.filter_append,List.filter_cons_of_neg (by simp [hid]),fA,fB,List.map_append]
 have ha:arN N p=(A.filter fun y=>(numsP p).contains y.id).map Nd.id++p.id::(B.filter fun y=>(numsP p).contains y.id).map Nd.id:=by
  have fA:(A.filter fun y=>y.id==p.id||(numsP p).contains y.id)=A.filter fun y=>(numsP p).contains y.id:=List.filter_congr fun y hy=>by
   have h1:=(hA y hy).2
   rw [hid] at h1
   simp [h1]
  have fB:(B.filter fun y=>y.id==p.id||(numsP p).contains y.id)=B.filter fun y=>(numsP p).contains y.id:=List.filter_congr fun y hy=>by
   have h1:=(hB y hy).2
   rw [hid] at h1
   simp [Ne.symm h1]
  rw [ar_eq h0 hx hid,e,List.filter_append,List.filter_cons_of_pos (by simp [hid]),fA,fB,List.map_append,List.map_cons,hid]
 have hi:(refsN N p).findIdx (gtP N x)=((A.filter fun y=>(numsP p).contains y.id).map Nd.id).length:=by
  rw [hr]
  refine findIdx_two (fun u hu=>?_) (fun u hu=>?_)
  ·obtain ⟨y,hy,rfl⟩:=List.mem_map.1 hu
   have hy:=(List.mem_filter.1 hy).1
   unfold gtP
   rw [find_in h0 (mA y hy),(hA y hy).1]
   rfl
  ·obtain ⟨y,hy,rfl⟩:=List.mem_map.1 hu
   have hy:=(List.mem_filter.1 hy).1
   have h1:=(hB y hy).1
   have h2:=bl_asymm h1
   have h3:(y.key.toList==x.key.toList)=false:=by
    rw [beq_eq_false_iff_ne]
    intro he
    rw [he,bytesLess_irrefl] at h1
    cases h1
   unfold gtP
   rw [find_in h0 (mB y hy),h2,h3]
   rfl
 rw [hi,ha,hr]
 unfold insAt
 rw [List.take_left,List.drop_left]
theorem ord_congr {l l':List Int} {but:Int} (h:∀ v,v∈l↔v∈l'):ordN N l but=ordN N l' but:=by
 unfold ordN
 congr 1
 refine List.filter_congr fun y _=>?_
 rw [Bool.eq_iff_iff]
 simp only [Bool.and_eq_true,List.contains_iff_mem,h]
theorem known_eq (h0:checkN N=0) (id l r:Int) (T:List Int):refsN N ⟨id,l,r,T,[]⟩=ordN N ([l,r]++T) id:=by
 unfold refsN
 rw [if_pos h0]
 refine ord_congr fun v=>?_
 unfold numsP
 simp only [List.flatMap_nil,List.append_nil,List.mem_append,List.mem_cons,List.not_mem_nil,or_false]
 exact Or.comm
theorem ar_ids (p:Pr):∀ v∈arN N p,∃ x∈N,x.id=v:=by
 intro v hv
 unfold arN at hv
 split at hv
 ·exact (mem_ord.1 hv).1
 ·cases hv
theorem ord_len (l:List Int) (but:Int):(ordN N l but).length≤N.length:=by
 unfold ordN
 rw [List.length_map]
 exact Nat.le_trans (List.length_filter_le _ _) (Nat.le_of_eq (sortN_length N))
theorem ar_len (p:Pr):(arN N p).length≤N.length:=by
 unfold arN
 split
 ·exact ord_len _ _
 ·exact Nat.zero_le _
theorem ar_nodup' (p:Pr):(arN N p).Nodup:=by
 by_cases h0:checkN N=0
 ·exact ar_nodup h0
 ·unfold arN
  rw [if_neg (fun h=>h0 h.2)]
  exact List.Pairwise.nil
end
theorem zip_at {l:List Int} {j:Nat} {a b:Int} (ha:l[j]?=some a) (hb:l[j+1]?=some b):(l.zip l.tail)[j]?=some (a,b):=by
 rw [List.getElem?_zip_eq_some]
 exact ⟨ha,by rw [List.getElem?_tail];exact hb⟩
theorem prs_snoc {id:Int} {l:List Int} {j:Nat} {a b:Int} (ha:l[j]?=some a) (hb:l[j+1]?=some b) :
  ((l.zip l.tail).take (j+1)).flatMap (pr2 id)=((l.zip l.tail).take j).flatMap (pr2 id)++pr2 id (a,b):=by
 rw [List.take_add_one,zip_at ha hb,List.flatMap_append]
 simp
theorem prs_all {id:Int} {l:List Int} {j:Nat} (hj:l.length≤j+1):((l.zip l.tail).take j).flatMap (pr2 id)=prsN id l:=by
 unfold prsN
 rw [List.take_of_length_le (by rw [List.length_zip,List.length_tail];omega)]
theorem pr2_len (id:Int) (q:Int×Int):(pr2 id q).length≤2:=by
 unfold pr2
 rw [List.length_append]
 split<;>split<;>simp
theorem prs_take_len (id:Int) (L:List (Int×Int)):(L.flatMap (pr2 id)).length≤2*L.length:=by
 induction L with
 | nil=>simp
 | cons a L ih =>
  rw [List.flatMap_cons,List.length_append,List.length_cons]
  have:=pr2_len id a
  omega
theorem prs_len (id:Int) (l:List Int):(prsN id l).length≤2*l.length:=by
 unfold prsN
 have:=prs_take_len id (l.zip l.tail)
 rw [List.length_zip,List.length_tail] at this
 omega
theorem intros_len (N:List Nd) (p:Pr):(introsN N p).length≤2*N.length:=by
 have h1:=prs_len p.id (arN N p)
 have h2:=ar_len (N:=N) p
 unfold introsN
 omega
theorem prs_from {id:Int} {l:List Int} {q:Int×Int} (h:q∈prsN id l):q.1∈l∧q.2∈l:=by
 obtain ⟨_,A,B,e | e⟩:=prs_inv (u:=q.1) (v:=q.2) h<;>rw [e]<;>simp
theorem told_snoc (M:List (Int×Int)) (m:Int×Int) (id:Int):toldN (M++[m]) id=toldN M id++(if m.1=id then [m.2] else []):=by
 unfold toldN
 rw [List.filter_append,List.map_append]
 congr 1
 by_cases h:m.1=id
 ·rw [if_pos h];simp [h]
 ·rw [if_neg h];simp [h]
theorem told_len (M:List (Int×Int)) (id:Int):(toldN M id).length≤M.length:=by
 unfold toldN
 rw [List.length_map]
 exact List.length_filter_le _ _
theorem bes_nodup {id:Int} {l:List Int} (hd:l.Nodup) {i:Nat} (hi:l[i]?=some id):besN id l=((if i=0 then 0 else l[i-1]?.getD 0),l[i+1]?.getD 0):=by
 have hf:l.findIdx? (·==id)=some i:=by
  rw [List.findIdx?_eq_some_iff_getElem]
  obtain ⟨h1,h2⟩:=List.getElem?_eq_some_iff.1 hi
  refine ⟨h1,by simp [h2],fun j hj=>?_⟩
  have:=(List.pairwise_iff_getElem.1 hd) j i (by omega) h1 hj
  rw [h2] at this
  simpa using this
 unfold besN
 rw [hf]
theorem bes_none {id:Int} {l:List Int} (h:id∉l):besN id l=(0,0):=by
 have hf:l.findIdx? (·==id)=none:=by
  rw [List.findIdx?_eq_none_iff]
  intro x hx
  simp only [beq_eq_false_iff_ne]
  intro he
  exact h (he▸hx)
 unfold besN
 rw [hf]
end Go.Proofs.YthcholmhmcpooaaGreatDoor
