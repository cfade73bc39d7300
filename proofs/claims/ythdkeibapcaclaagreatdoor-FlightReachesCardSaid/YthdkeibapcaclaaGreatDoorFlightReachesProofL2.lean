/- Texts for FlightReachesProof. -/
import Derived.Test.YthdkeibapcaclaaGreatDoorFmAB1
import Derived.Test.YthdkeibapcaclaaGreatDoorFmBC1
import Derived.Test.YthdkeibapcaclaaGreatDoorFlightReachesProofL1
set_option linter.unusedSimpArgs false
set_option linter.unusedVariables false

namespace Go.Proofs.YthdkeibapcaclaaGreatDoor
open Go.RowKit
def posK (S:List Nd):Nat→Int→Int
 | 0=>fun _=>0
 | k+1=>fun y=>if y=(S[k]?.getD Nd.zero).id then (k:Int) else posK S k y
theorem posK_at {S:List Nd} (hd:S.Pairwise fun x y=>x.id≠y.id):∀ (k p:Nat) (y:Nd),p<k→k≤S.length→S[p]?=some y→posK S k y.id=p
 | 0,_,_,h,_,_=>by omega
 | k+1,p,y,hp,hk,hy=>by
  unfold posK
  by_cases he:p=k
  ·subst he;rw [hy];exact if_pos rfl
  ·obtain ⟨z,hz⟩:∃ z,S[k]?=some z:=⟨S[k],List.getElem?_eq_getElem (by omega)⟩
   have hne:y.id≠z.id:=by
    obtain ⟨h1,e1⟩:=List.getElem?_eq_some_iff.1 hy
    obtain ⟨h2,e2⟩:=List.getElem?_eq_some_iff.1 hz
    have:=List.pairwise_iff_getElem.1 hd p k h1 h2 (by omega)
    rwa [e1,e2] at this
   rw [hz,if_neg (by exact hne)]
   exact posK_at hd k p y (by omega) (by omega) hy
theorem rows0_snoc (S:List Nd) (m k:Nat) (x:Nd) (hx:S[k]?=some x):rowsF (S.take (k+1)) m (procB S 0)=rowsF (S.take k) m (procB S 0)++[(x.id,List.replicate m (0,0))]:=by
 unfold rowsF
 rw [take_snocN S k x hx,List.map_append]
 congr 1
 show [(x.id,(List.range m).map fun _=>((0,0):Int×Int))]=_
 rw [List.map_const',List.length_range]
theorem lists_in {S:List Nd} {h:Int}:∀ c∈listsN S h,∀ x∈c,∃ y∈S,y.id=x:=by
 intro c hc x hx
 unfold listsN at hc
 split at hc
 ·obtain ⟨d,hd,rfl⟩:=List.mem_map.1 hc
  obtain ⟨y,hy,rfl⟩:=List.mem_map.1 hx
  refine ⟨y,?_,rfl⟩
  by_cases hh:16<h
  ·rw [classesN_big hh] at hd;cases hd
  ·rw [classesN_fold hh] at hd
   exact (sortN_mem S y).1 ((foldC_fine (h:=h) (P:=fun y=>y∈sortN S) (sortN S) (fun _ hy=>hy) d hd).2.2 y hy)
 ·cases hc
theorem lists_sm {S:List Nd} {h:Int} (hl:S.length≤1000):(listsN S h).length≤1000∧∀ c∈listsN S h,c.length≤1000:=by
 unfold listsN
 split
 ·have:=classesN_sm (sortN S) h (by rw [sortN_length];exact hl)
  refine ⟨by rw [List.length_map];exact this.1,fun c hc=>?_⟩
  obtain ⟨d,hd,rfl⟩:=List.mem_map.1 hc
  unfold idsN
  rw [List.length_map]
  exact this.2 d hd
 ·exact ⟨by simp,by simp⟩
def B1Rel (S:List Nd) (m b:Nat) (w:World) (o i:Value) (wr:World):Prop :=
 ∃ (k:Nat) (qs:List (Int×Hdr)),k≤S.length∧i=.int .i64 k∧OwnLk w.heap.size wr o qs (rowsF (S.take k) m (procB S 0))∧MapI wr b k (posK S k)∧Exb b w wr
def B2Rel (S:List Nd) (m base:Nat) (v:Value) (qs:List (Int×Hdr)) (w:World) (i:Value) (wr:World):Prop :=
 ∃ j:Nat,j≤m∧i=.int .i64 j∧OwnLk base wr v qs (rowsF S m (procB S j))∧Exq qs w wr
def B3Rel (S:List Nd) (m base j:Nat) (M:List (List Int)) (v:Value) (qs:List (Int×Hdr)) (w:World) (i:Value) (wr:World):Prop :=
 ∃ q:Nat,q≤M.length∧i=.int .i64 q∧OwnLk base wr v qs (rowsF S m (procL j (M.take q) (procB S j)))∧Exq qs w wr
def B4Rel (S:List Nd) (m base j:Nat) (c:List Int) (F:FnL) (v:Value) (qs:List (Int×Hdr)) (w:World) (i:Value) (wr:World):Prop :=
 ∃ r:Nat,(r<c.length∨r=0)∧i=.int .i64 ((r:Int)+1)∧OwnLk base wr v qs (rowsF S m (procI c j F r))∧Exq qs w wr
theorem blk_ne {α:Type} {sz base g:Nat} {enc:α→List Value} {e ty:TypeId} {w:World} {v:Value} {l:List α} {cs:List Value} (h:OwnW sz enc e base w v l) (B:Blk w g cs ty) (hne:ty≠e):¬ v.ownBlock=some g:=by
 intro hv
 obtain ⟨_,cur,e1⟩:=h.blk hv
 unfold Blk at B
 rw [B] at e1
 simp at e1
 exact hne e1.2
theorem own_out {base:Nat} {w:World} {v:Value} {qs:List (Int×Hdr)} {S:List Nd} {m:Nat} {F:FnL} (h:OwnLk base w v qs (rowsF S m F)):∃ a c,v=.slice a S.length c:=by
 obtain ⟨a,c,e,_⟩:=h.1.rd (fun _=>rfl)
 refine ⟨a,c,?_⟩
 rw [e,h.2.1]
 unfold rowsF
 rw [List.length_map]
theorem atI_of {c:List Int} {r:Nat} {x:Int} (h:c[r]?=some x):atI c r=x:=by unfold atI;rw [h];rfl
theorem Chg.undrew {S:Nat→Prop} {w w':World} (h:Chg S w w'):Chg S w.drew w':=⟨h.1,h.2,h.3,h.4,h.5⟩
theorem mem_at {S:List Nd} {x:Int} (h:∃ y:Nd,y∈S∧y.id=x):∃ (p:Nat) (y:Nd),S[p]?=some y∧y.id=x:=by
 obtain ⟨y,hy,e⟩:=h
 obtain ⟨p,hp⟩:=List.mem_iff_getElem?.1 hy
 exact ⟨p,y,hp,e⟩
set_option maxRecDepth 100000 in
set_option maxHeartbeats 8000000 in
theorem build_q (a:Option Addr) (n c:Nat) (l:List Nd) (h:Int) (w:World) (hs:Sl 3 encN w a n l) (hn:n≤1000) (hc:n≤c) (hm:c≤maxLen) (hw:∀ x∈l,x.word<4294967296) (hT:TabG w)
  (L:List Lkd) (e0:Int) (hL1:checkN l≠0→L=[]∧e0=1) (hL2:checkN l=0→lvlN h=false→L=[]∧e0=2) (hL3:checkN l=0→∀ m:Nat,h=m→m≤16→L=rowsF (sortN l) (m+1) (procB (sortN l) (m+1))∧e0=0) :
  Calls Tryz.prog 103 #[.slice a n c,.int .i64 h] w (LkPost L e0 w):=by
 have HW:=lH hw
 have HL:=lH hs.len
 have HT:=lH hT
 have H1:=lH hL1
 have H2:=lH hL2
 have H3:=lH hL3
 have hmm:=@run_makeMap Tryz.prog
 clear hw hT hL1 hL2 hL3
 go_enter Tryz.func103,Tryz.ntmps103
 go_wp2_with fail
 (with_reducible refine (ordered_p _ _ _ _ _ hs hn hc hm).mono ?_)
 rintro e w0 ⟨v,S,rfl,OS,⟨hp,hsrt⟩,k0⟩
 have SL:=lH hp.length_eq
 have SW:Hid (∀ x∈S,x.word<4294967296):=lH (fun x hx=>HW.out x (hp.mem_iff.1 hx))
 have HSR:=lH hsrt
 replace HT:=lH (HT.out.nx k0)
 have SOK:Hid (checkN l=0→∀ x∈S,1≤x.id∧x.id≤2147483647):=lH (fun h0 x hx=>by
  have:=roster_ok h0 x (hp.mem_iff.1 hx)
  exact ⟨this.2.1,this.2.2.1⟩)
 clear hp hsrt hs
 by_cases hck:checkN l=0
 case neg =>
  obtain ⟨rfl,rfl⟩:=H1.out hck
  have d1:(checkN l==0)=false:=by simpa using hck
  rw [d1]
  clear hck d1 OS
  go_wp2_with fail
  go_ret2
  exact ⟨_,[],rfl,OwnN.nil _ _ _ _ _ _ _ _,k0⟩
 have HCK:=lH hck
 have d1:(checkN l==0)=true:=by simpa using hck
 rw [d1]
 clear hck d1
 by_cases hlo:h<0
 ·obtain ⟨rfl,rfl⟩:=H2.out HCK.out (by unfold lvlN;simp;omega)
  clear OS
  go_wp2_with fail
  go_ret2
  exact ⟨_,[],rfl,OwnN.nil _ _ _ _ _ _ _ _,k0⟩
 by_cases hhi:16<h
 ·obtain ⟨rfl,rfl⟩:=H2.out HCK.out (by unfold lvlN;simp;omega)
  clear OS
  go_wp2_with fail
  go_ret2
  exact ⟨_,[],rfl,OwnN.nil _ _ _ _ _ _ _ _,k0⟩
 obtain ⟨m,rfl⟩:=Int.eq_ofNat_of_zero_le (show 0≤h by omega)
 have hm16:m≤16:=by omega
 obtain ⟨hLL,rfl⟩:=H3.out HCK.out m rfl hm16
 rw [← HSR.out HCK.out] at hLL
 have HLL:=lH hLL
 have ID:Hid (S.Pairwise fun x y=>x.id≠y.id):=lH (by
  rw [HSR.out HCK.out]
  exact (sortN_str HCK.out).imp (fun h=>h.2))
 have SOK:=lH (SOK.out HCK.out)
 obtain ⟨M1,hM1⟩:∃ M1,M1=m+1:=⟨_,rfl⟩
 rw [← hM1] at HLL
 have HM1:=lH hM1
 have hM17:M1≤17:=by omega
 clear hM1
 obtain ⟨aS,cS,rfl,sS,hcS,hmS⟩:=OS.sl3 (fun _=>rfl)
 have hnS:S.length≤1000:=by have:=HL.out;have:=SL.out;omega
 clear OS hLL H1 H2 H3 hlo hhi
 obtain ⟨w1,hw1⟩:∃ w1,w1=w0.alloc (.map #[] 0):=⟨_,rfl⟩
 obtain ⟨b,hb⟩:∃ b,b=w0.heap.size:=⟨_,rfl⟩
 have MI:MapI w1 b 0 (posK S 0):=by rw [hw1,hb];exact MapI.made w0
 have k1:Ex w0 w1:=by rw [hw1];exact Ex.new _ _
 have sSb:=(sS.slb (Nat.le_of_eq hb.symm)).nxb (k1.b b)
 have hb0:w.heap.size≤b:=by have:=k0.size;omega
 have HT1:=lH (HT.out.nx k1)
 have hTb:1<b:=by have:=HT.out.lt;omega
 have hTb:=lH hTb
 have hbw1:b<w1.heap.size:=MI.lt
 have HW1:=lH hw1
 have HB:=lH hb
 have K1:=lH (k0.nx k1)
 have SSB:=lH sSb
 clear hw1 hb k0 k1 sS sSb
 go_upto_region 7 with fail
 rw [← HB.out,← HW1.out]
 go_wp2_with fail
 go_loopw [9,32] (fun o i wr=>B1Rel S M1 b w1 o i wr) (fun _ i _=>S.length-(intOf i).toNat)
 case atStart=>exact ⟨0,[],by omega,rfl,OwnN.nil _ _ _ _ _ _ _ _,MI,Exb.refl _ _⟩
 case round =>
  clear MI
  obtain ⟨k,qs,hk,rfl,OQ,MI,kw⟩:=hrel
  obtain ⟨wo,rfl⟩:∃ wo:World,wo=wr:=⟨_,rfl⟩
  by_cases hlt:k<S.length
  ·obtain ⟨x1,o1,y,rfl,hx1,hy,hc1⟩:=((SSB.out.nxb kw).sl).at hlt
   obtain ⟨yi,yk,yw⟩:=y
   have e0:wo.cell? ⟨x1,o1+k*3,none⟩=some (.int .i64 yi):=hc1 0 _ rfl
   have e1:wo.cell? ⟨x1,o1+k*3+1,none⟩=some (.string yk):=hc1 1 _ rfl
   have e2:wo.cell? ⟨x1,o1+k*3+2,none⟩=some (.int .u32 yw):=hc1 2 _ rfl
   have e2':wo.cell? ⟨x1,o1+k*3+1+1,none⟩=some (.int .u32 yw):=e2
   have RS:=lH (rows0_snoc S M1 k _ hy)
   have hid:=SOK.out _ (List.mem_of_getElem? hy)
   have hid1:1≤yi:=hid.1
   have hid2:yi≤2147483647:=hid.2
   have PK:Hid ((fun y=>if y=yi then (k:Int) else posK S k y)=posK S (k+1)):=lH (by
    show _=fun y=>if y=(S[k]?.getD Nd.zero).id then (k:Int) else posK S k y
    rw [hy];rfl)
   clear hy hc1 hid
   have k7:=Ex.new wo (.cells #[.int .i64 yi,.string yk,.int .u32 yw] 60)
   have B4:=Blk.new wo [.int .i64 yi,.string yk,.int .u32 yw] 60
   obtain ⟨w7,hw7⟩:∃ w7,w7=wo.alloc (.cells #[.int .i64 yi,.string yk,.int .u32 yw] 60):=⟨_,rfl⟩
   obtain ⟨g4,hg4⟩:∃ g4,g4=wo.heap.size:=⟨_,rfl⟩
   have B4:Blk w7 g4 [.int .i64 yi,.string yk,.int .u32 yw] 60:=by rw [hw7,hg4];exact B4
   rw [← hw7] at k7
   have hg4b:g4≠b:=by have:=MI.lt;omega
   have HW7:=lH hw7
   have HG4:=lH hg4
   replace OQ:=OwnN.nx OQ k7
   replace MI:=MI.nx k7
   replace kw:=kw.nxb (k7.b b)
   clear hw7 hg4 k7
   go_upto_region 11 with fail
   rw [← HG4.out,← HW7.out]
   clear e0 e1 e2 e2'
   obtain ⟨wm,hrun,MI2,km⟩:=MI.put (x:=yi) (v:=k) (by omega) (by omega) (show k<maxLen by unfold maxLen;omega)
   have y0:=B4.cell 0 _ rfl
   have B4m:=lH (B4.nxb hg4b km)
   have OQm:=lH (OwnN.nxb OQ hbw1 km)
   replace kw:=lH (kw.nxb km)
   rw [PK.out] at MI2
   have MI2:=lH MI2
   clear OQ MI B4 km
   go_upto_region 12 with fail
   clear hrun y0
   have B4d:=lH (B4m.out.nx (Ex.refl wm).drew)
   obtain ⟨Z,hZ⟩:∃ Z,Z=((List.replicate M1 ((0,0):Int×Int)).flatMap encS).toArray:=⟨_,rfl⟩
   have cm:(Instr.makeSlice 107 (.int .i64 ((m:Int)+1)) (.int .i64 ((m:Int)+1))).run Tryz.prog wm.drew=.ok (.slice (some ⟨wm.drew.heap.size,0,none⟩) M1 M1) (wm.drew.alloc (.cells Z 100)):=by
    rw [hZ];exact mkLk m M1 hm16 HM1.out _
   have CM:=lH cm
   have HZ:=lH hZ
   have hbs:w1.heap.size≤wm.heap.size:=kw.out.size
   have IN:Hid (OwnL 2 encS 100 w1.heap.size (wm.alloc (.cells Z 100)) (.slice (some ⟨wm.heap.size,0,none⟩) M1 M1) (List.replicate M1 ((0,0):Int×Int))):=lH (by
    have:=OwnL.lit (sz:=2) (enc:=encS) (e:=100) (base:=w1.heap.size) (w:=wm) (List.replicate M1 ((0,0):Int×Int)) (fun _=>rfl) hbs (by rw [List.length_replicate];unfold maxLen;omega) (cs:=Z) hZ
    rwa [List.length_replicate] at this)
   have hkq:qs.length=k:=by rw [OQm.out.2.1];unfold rowsF;rw [List.length_map,List.length_take];omega
   have hkq:=lH hkq
   have FR:Hid (∀ (j:Nat) (r:Int×Hdr) (g:Nat),qs[j]?=some r→r.2.val.ownBlock=some g→¬ (Value.slice (some ⟨wm.heap.size,0,none⟩) M1 M1).ownBlock=some g):=lH (by
    intro j r g hr hg hv
    have h1:g<wm.heap.size:=OwnN.lt OQm.out hr hg
    cases hv
    exact Nat.lt_irrefl _ h1)
   have wrm:IntKind.i64.wrap ((m:Int)+1)=(m:Int)+1:=IntWalk.i64_in _ (by omega)
   have NB:=lH (blk_ne OQm.out.1 B4m.out (by decide))
   have G4L:Hid (g4<wm.heap.size):=lH B4m.out.lt
   clear cm hZ
   refine wp_region_held_drew (S:=Chg (· = g4) wm.drew) (by kernel_rfl) (Chg.refl _ _) (fun hHeld=>?_)
   refine tkH 0 (v:=?_) rfl (by kernel_rfl) (fun _ _ _ h=>h) (by rfl) ?y1x0q1 (by assumption) ?z1x0q1
   case y1x0q1=>intro wq hSw;(go_simp);(try with_reducible rfl)
   refine tkH 1 (v:=?_) rfl (by kernel_rfl) (fun _ _ _ h=>h) (by rfl) ?y1x1q4 (by assumption) ?z1x1q4
   case y1x1q4=>intro wq hSw;(go_simp);(try with_reducible rfl)
   refine tkH 2 (v:=?_) rfl (by kernel_rfl) (fun _ _ _ h=>h) (by rfl) ?y1x2q7 (by assumption) ?z1x2q7
   case y1x2q7=>intro wq hSw;(have cq:=(B4d.out.chg hSw rfl).cell 0 _ rfl;go_simp);(try with_reducible rfl)
   refine tkH 3 (v:=?_) rfl (by kernel_rfl) (fun _ _ _ h=>h) (by rfl) ?y1x3q10 (by assumption) ?z1x3q10
   case y1x3q10=>intro wq hSw;(go_simp);(try with_reducible rfl)
   refine tkH 4 (v:=?_) rfl (by kernel_rfl) (fun _ _ _ h=>h) (by rfl) ?y1x4q13 (by assumption) ?z1x4q13
   case y1x4q13=>intro wq hSw;(go_simp);(try with_reducible rfl)
   refine wpAnyH_ready (rs:=[5]) (by kernel_rfl) (by simp) ?_
   refine AllReadyH.cons (o:=⟨_,_,_,_,_,_⟩) rfl (fun K hK=>?_) AllReadyH.nil
   have cm:=CM.out
   go_simp
   clear cm
   refine hK.out _ _ ((Chg.undrew ((Chg.refl (· = g4) wm).alloc _ (fun x hx=>by cases hx;exact G4L.out)).drew)) (fun hHeld=>?_)
   clear hK K
   refine tkH 6 (v:=?_) rfl (by kernel_rfl) (fun _ _ _ h=>h) (by rfl) ?y1x6q24 (by assumption) ?z1x6q24
   case y1x6q24=>intro wq hSw;(go_simp);(try with_reducible rfl)
   refine wpAnyH_ready (rs:=[7]) (by kernel_rfl) (by simp) ?_
   refine AllReadyH.cons (o:=⟨_,_,_,_,_,_⟩) rfl (fun K hK=>?_) AllReadyH.nil
   go_simp
   refine hK.out _ _ ((Chg.undrew (((Chg.refl (· = g4) wm).alloc _ (fun x hx=>by cases hx;exact G4L.out)).alloc _ (fun x hx=>by cases hx;exact Nat.lt_of_lt_of_le G4L.out (Ex.new wm _).size)).drew)) (fun hHeld=>?_)
   clear hK K
   refine wpAnyH_ready (rs:=[8]) (by kernel_rfl) (by simp) ?_
   refine AllReadyH.cons (o:=⟨_,_,_,_,_,_⟩) rfl (fun K hK=>?_) AllReadyH.nil
   rw [if_pos (by rfl)]
   have kz:Ex wm ((wm.alloc (.cells Z 100)).alloc (.cells #[.int .i64 yi,.slice (some ⟨wm.heap.size,0,none⟩) M1 M1] 109)).drew:=((Ex.new wm (.cells Z 100)).alloc _).drew
   have OQ2:=OwnN.nx OQm.out kz
   have hql:qs.length≤1000000:=by rw [hkq.out];omega
   have SX0:Sl 2 (encP encI) ((wm.alloc (.cells Z 100)).alloc (.cells #[.int .i64 yi,.slice (some ⟨wm.heap.size,0,none⟩) M1 M1] 109)) (some ⟨wm.heap.size+1,0,none⟩) 1 [((yi,(some ⟨wm.heap.size,0,none⟩,M1,M1)):Int×Hdr)]:=Sl.lit _ (by simp) rfl (fun _=>rfl) rfl
   have SX:=SX0.nx (Ex.refl _).drew
   have zz:=Nat.le_trans hbs kz.size
   refine wp_append_W (enc:=encP encI) _ (.tmp 41) (.tmp 48) 61 rfl w1.heap.size 109 (.agg #[.int .i64 0,.slice none 0 0]) 2 32 Tryz.underlying61 Tryz.infoLd rfl (by omega) (by omega) _ qs OQ2.1 rfl _ 1 1 [((yi,(some ⟨wm.heap.size,0,none⟩,M1,M1)):Int×Hdr)] SX (fun _=>rfl) (by simp [encP,encI,Hdr.val,Value.oneCell']) rfl hql (by omega) zz ?_
   intro v9 w9 own9 ch0 ch1 _
   refine hK.out _ _ ((Chg.undrew (Chg.trans (Chg.mono kz (fun x hx=>by cases hx;exact G4L.out)) (Chg.mono ch0 (fun x hx=>by cases hx;exact ⟨Nat.lt_of_lt_of_le G4L.out kz.size,NB.out⟩))))) (fun hHeld=>?_)
   clear hK K
   refine tkH 9 (v:=?_) rfl (by kernel_rfl) (fun _ _ _ h=>h) (by rfl) ?y1x9q47 (by assumption) ?z1x9q47
   case y1x9q47=>intro wq hSw;(go_simp);(try with_reducible rfl)
   refine wpAnyH_done (by kernel_rfl) ?_ _
   have OQ9:=OwnN.push (by decide) OQ2 own9 ch0 (IN.out.nx (Ex.new _ _).drew) FR.out
   have kw9:Exb b w1 w9:=Chg.trans (Chg.trans kw.out (Chg.mono kz (fun x hx=>Nat.lt_of_lt_of_le hx.1 kw.out.size))) (Chg.mono ch1 (fun x hx=>hx.1))
   have MI9:=MI2.out.chg (S:=(· = b)) (Chg.trans (Chg.mono kz (fun x hx=>by cases hx;exact MI2.out.lt)) (Chg.mono ch1 (fun x hx=>by cases hx;exact hbw1))) rfl
   clear OQ2 own9 ch0 ch1 SX SX0
   go_wp2_with fail
   exact ⟨⟨k+1,_,by omega,by go_num,by rw [RS.out];exact OQ9,MI9,kw9⟩,by simp [intOf];omega⟩
  ·obtain rfl:k=S.length:=by omega
   rw [List.take_length] at OQ
   obtain ⟨ao,co,rfl⟩:=own_out OQ
   have HQB:Hid (∀ k,InQ qs k→w1.heap.size≤k∧k<wo.heap.size):=lH (fun k hk=>inQ_base OQ hk)
   have KT:Hid (∀ wr,Exq qs wo wr→Exb b w1 wr):=lH (fun wr kq=>Chg.trans kw (Chg.mono kq (fun x hx=>⟨Nat.lt_of_lt_of_le hx.1 kw.size,fun hi=>by have h1:=(HQB.out x hi).1;have h2:=hx.1;exact absurd h2 (Nat.not_lt.2 h1)⟩)))
   have MIH:Hid (∀ wr,Exq qs wo wr→MapI wr b S.length (posK S S.length)):=lH (fun wr kq=>MI.chg kq ⟨MI.lt,fun hi=>by have h1:=(HQB.out b hi).1;omega⟩)
   have KW:=lH kw
   have hzo:=kw.size
   clear hk hlt kw MI
   have wrm:IntKind.i64.wrap ((m:Int)+1)=(m:Int)+1:=IntWalk.i64_in _ (by omega)
   go_wp2_with fail
   go_loopw [53] (fun i wr=>B2Rel S M1 w1.heap.size (.slice ao S.length co) qs wo i wr) (fun i _=>M1-(intOf i).toNat)
   case atStart=>exact ⟨0,by omega,rfl,OQ,Exq.refl _ _⟩
   case round =>
    clear OQ
    obtain ⟨j,hj,rfl,OQ,kq⟩:=hrel
    obtain ⟨wj,rfl⟩:∃ wj:World,wj=wr:=⟨_,rfl⟩
    by_cases hjm:j<M1
    ·have hjm1:(j:Int)<(m:Int)+1:=by have:=HM1.out;omega
     have SSj:=(SSB.out.nxb (KT.out _ kq)).sl
     have TGj:TabG wj:=HT1.out.chg (KT.out _ kq) ⟨HT1.out.lt,by have:=hTb.out;omega⟩
     have OQH:=lH OQ
     have KQ:=lH kq
     have hzj:=kq.size
     have HLI:=lH (lists_in (S:=S) (h:=(j:Int)))
     have HLS:=lH (lists_sm (h:=(j:Int)) hnS)
     have HPB:Hid (procB S (j+1)=procL j (listsN S (j:Int)) (procB S j)):=lH rfl
     clear OQ kq
     go_wp2_with fail
     (with_reducible refine (lists_p _ _ _ _ _ _ SSj hnS hcS hmS SW.out TGj).mono ?_)
     rintro e w5 ⟨vl,ql,rfl,OL,k5⟩
     obtain ⟨aL,cL,rfl,LT⟩:=OwnIL.ilt OL
     obtain ⟨M,hM⟩:∃ M,M=listsN S (j:Int):=⟨_,rfl⟩
     rw [← hM] at LT HLI HLS HPB ⊢
     have LT:=lH LT
     have OQ:=OwnN.nx OQH.out k5
     have K5:=lH k5
     have hz5:=k5.size
     have hMl:=HLS.out.1
     have KL:Hid (∀ u v,w5.heap.size≤u.heap.size→Exq qs u v→Chg (fun k=>wj.heap.size≤k∧k<w5.heap.size) u v):=lH (fun u v hu kq=>Chg.mono kq (fun x hx=>⟨Nat.lt_of_lt_of_le hx.2 hu,fun hi=>by have h1:=(HQB.out x hi).2;have h2:=hx.1;omega⟩))
     clear OL k5 SSj TGj hM
     go_wp2_with fail
     go_loopw [60] (fun i wr=>B3Rel S M1 w1.heap.size j M (.slice ao S.length co) qs w5 i wr) (fun i _=>M.length-(intOf i).toNat)
     case atStart=>exact ⟨0,by omega,rfl,OQ,Exq.refl _ _⟩
     case round =>
      clear OQ
      obtain ⟨q,hq,rfl,OQ,k3⟩:=hrel
      obtain ⟨wq3,rfl⟩:∃ wq3:World,wq3=wr:=⟨_,rfl⟩
      by_cases hqm:q<M.length
      ·obtain ⟨x3,o3,a',n',c',cc,rfl,hx3,hcc,hcell,hids⟩:=(LT.out.chg (KL.out _ _ (Nat.le_refl _) k3)).at hqm
       have hnl:=hids.1
       subst hnl
       have hcl:cc.length≤1000:=HLS.out.2 cc (List.mem_of_getElem? hcc)
       have HIN:=lH (HLI.out cc (List.mem_of_getElem? hcc))
       have PS:=lH (procL_snoc j M (procB S j) q cc hcc)
       have hz3:=k3.size
       have HID:=lH hids
       have K3:=lH k3
       obtain ⟨F,hF⟩:∃ F,F=procL j (M.take q) (procB S j):=⟨_,rfl⟩
       rw [← hF] at OQ PS
       clear hcc hids k3 hF
       go_wp2_with fail
       clear hcell
       go_loopw [15] (fun i wr=>B4Rel S M1 w1.heap.size j cc F (.slice ao S.length co) qs wq3 i wr) (fun i _=>cc.length-(intOf i).toNat)
       case atStart=>exact ⟨0,.inr rfl,rfl,OQ,Exq.refl _ _⟩
       case round =>
        clear OQ
        obtain ⟨r,hr,rfl,OQ,k4⟩:=hrel
        obtain ⟨wi,rfl⟩:∃ wi:World,wi=wr:=⟨_,rfl⟩
        by_cases hrm:r+1<cc.length
        ·have k4d:Exq qs wq3 wi.drew:=k4.nx (Ex.refl wi).drew
         have OQ:=OwnN.nx OQ (Ex.refl wi).drew
         have RI:=HID.out.chg (KL.out _ _ hz3 k4d) (fun _ x=>x)
         obtain ⟨x6,o6,i1,rfl,hx6,hi1,hc6⟩:=RI.at hrm
         obtain ⟨x7,o7,i0,e67,_,hi0,hc7⟩:=RI.at (show r<cc.length by omega)
         cases e67
         have E1:wi.drew.cell? ⟨x6,o6+(r+1),none⟩=some (.int .i64 i1):=by simpa using hc6 0 _ rfl
         have E0:wi.drew.cell? ⟨x6,o6+r,none⟩=some (.int .i64 i0):=by simpa using hc7 0 _ rfl
         obtain ⟨p1,y1,hp1,hy1⟩:=mem_at (HIN.out i1 (List.mem_of_getElem? hi1))
         obtain ⟨p0,y0,hp0,hy0⟩:=mem_at (HIN.out i0 (List.mem_of_getElem? hi0))
         have PP:Hid (procI cc j F (r+1)=updR (updL (procI cc j F r) i1 j i0) i0 j i1):=lH (by rw [← atI_of hi1,← atI_of hi0];rfl)
         obtain ⟨FF,hFF⟩:∃ FF,FF=procI cc j F r:=⟨_,rfl⟩
         rw [← hFF] at OQ PP
         have b1:=SOK.out _ (List.mem_of_getElem? hp1)
         have b0:=SOK.out _ (List.mem_of_getElem? hp0)
         rw [hy1] at b1
         rw [hy0] at b0
         have hq1:=posK_at ID.out S.length p1 y1 (List.getElem?_eq_some_iff.1 hp1).1 (Nat.le_refl _) hp1
         have hq0:=posK_at ID.out S.length p0 y0 (List.getElem?_eq_some_iff.1 hp0).1 (Nat.le_refl _) hp0
         have hl1:=(List.getElem?_eq_some_iff.1 hp1).1
         have hl0:=(List.getElem?_eq_some_iff.1 hp0).1
         rw [hy1] at hq1
         rw [hy0] at hq0
         have KK:=KQ.out.nxq ((Exq.of_ex K5.out).nxq (K3.out.nxq k4d))
         have LK1:Hid (∀ wq,Exq qs wi.drew wq→(Instr.lookup 177 (.map (some b)) (.int .i64 i1) false).run Tryz.prog wq=.ok (.int .i64 (p1:Int)) wq):=lH (fun wq hSw=>by
          have:=(MIH.out wq (KK.nxq hSw)).look (x:=i1) (by omega)
          rwa [hq1] at this)
         have LK0:Hid (∀ wq,Exq qs wi.drew wq→(Instr.lookup 177 (.map (some b)) (.int .i64 i0) false).run Tryz.prog wq=.ok (.int .i64 (p0:Int)) wq):=lH (fun wq hSw=>by
          have:=(MIH.out wq (KK.nxq hSw)).look (x:=i0) (by omega)
          rwa [hq0] at this)
         have NX:Hid (x6<wi.drew.heap.size∧¬ InQ qs x6):=lH ⟨by have:=k4d.size;have:=hx6.2;omega,fun hi=>by have h1:=(HQB.out x6 hi).2;have h2:=hx6.1;omega⟩
         obtain ⟨g,cap,g1,cap1,ev,hgl,hgq,hc1,hin1,⟨u10,hu10⟩,⟨u11,hu11⟩,f10,f11,OU1,OV1⟩:=rows_at ID.out OQ hp1 hjm
         cases ev
         rw [hy1] at OU1
         have OQ1:=OU1 i0
         have ks1:Exq qs wi.drew (wi.drew.setCell ⟨g1,j*2,none⟩ (.int .i64 i0)):=(Exq.refl _ _).set _ hin1
         obtain ⟨g',cap',g0,cap0,ev,hgl',hgq',hc0,hin0,⟨u00,hu00⟩,⟨u01,hu01⟩,f00,f01,OU0,OV0⟩:=rows_at ID.out (OwnN.nx OQ1 (Ex.refl _).drew) hp0 hjm
         cases ev
         rw [hy0] at OV0
         have OQ0:=lH (OV0 i1)
         have NG:Hid (g<wi.drew.heap.size∧¬ InQ qs g):=lH ⟨hgl,hgq⟩
         have NG':Hid (g<(wi.drew.setCell ⟨g1,j*2,none⟩ (.int .i64 i0)).drew.heap.size∧¬ InQ qs g):=lH ⟨hgl',hgq⟩
         have HE1:=lH E1
         have HE0:=lH E0
         have HC1:=lH hc1
         have KS1:=lH ks1
         have KS1d:Hid (Exq qs wi.drew (wi.drew.setCell ⟨g1,j*2,none⟩ (.int .i64 i0)).drew):=lH (ks1.nx (Ex.refl _).drew)
         have HC0:Hid (wi.drew.cell? ⟨g,p0*2+1,none⟩=some (.slice (some ⟨g0,0,none⟩) M1 cap0)):=lH ((Chg.cell (p:=⟨g,p0*2+1,none⟩) KS1d.out NG.out).symm.trans hc0)
         have IN1:=lH hin1
         have IN0:=lH hin0
         have ST1:=lH (And.intro hu10 f10)
         obtain ⟨gx,capx,g0',cap0',ev,_,_,hc0',_,_,⟨u01',hu01'⟩,_,f01',_,_⟩:=rows_at ID.out OQ hp0 hjm
         cases ev
         have hg00:g0=g0':=by
          have:=hc0'.symm.trans HC0.out
          simp at this
          exact this.1.symm
         subst hg00
         have ST0:Hid (wi.cell? ⟨g0,j*2+1,none⟩=some u01'∧wi.frozen? ⟨g0,j*2+1,none⟩=false):=lH ⟨hu01',f01'⟩
         clear hc0' hu01' f01'
         have K4D:=lH k4d
         have wr1:IntKind.i64.wrap ((r:Int)+1+1)=(r:Int)+1+1:=IntWalk.i64_in _ (by omega)
         have hrm1:(r:Int)+1<(cc.length:Int):=by omega
         have wr0:IntKind.i64.wrap (r:Int)=(r:Int):=IntWalk.i64_in _ (by omega)
         have hr01:(0:Int)≤(r:Int)+1:=by omega
         have hrm0:(r:Int)<(cc.length:Int):=by omega
         have hp1S:(p1:Int)<(S.length:Int):=by omega
         have hp0S:(p0:Int)<(S.length:Int):=by omega
         have hjM:(j:Int)<(M1:Int):=by omega
         clear hFF b1 b0 hq1 hq0 hy1 hy0 hp1 hp0 hc6 hc7 hi0 hi1 E1 E0 OU1 OV1 OU0 OV0 OQ OQ1 ks1 hgl hgq hgl' hgq' hc1 hc0 hin1 hin0 hu10 hu11 hu00 hu01 f10 f11 f00 f01 RI k4 k4d hx6 KK
         go_wp2_with fail
         refine wp_region_held_drew (S:=Exq qs wi.drew) (by kernel_rfl) (Exq.refl _ _) (fun hHeld=>?_)
         refine tkH 0 (v:=?_) rfl (by kernel_rfl) (fun _ _ _ h=>h) (by rfl) ?y2x0q1 (by assumption) ?z2x0q1
         case y2x0q1=>intro wq hSw;(go_simp);(try with_reducible rfl)
         refine tkH 1 (v:=?_) rfl (by kernel_rfl) (fun _ _ _ h=>h) (by rfl) ?y2x1q4 (by assumption) ?z2x1q4
         case y2x1q4=>intro wq hSw;(go_simp);(try with_reducible rfl)
         refine tkH 2 (v:=?_) rfl (by kernel_rfl) (fun _ _ _ h=>h) (by rfl) ?y2x2q7 (by assumption) ?z2x2q7
         case y2x2q7=>intro wq hSw;(go_simp);(try with_reducible rfl)
         refine tkH 3 (v:=?_) rfl (by kernel_rfl) (fun _ _ _ h=>h) (by rfl) ?y2x3q10 (by assumption) ?z2x3q10
         case y2x3q10=>intro wq hSw;(go_simp);(try with_reducible rfl)
         refine tkH 4 (v:=?_) rfl (by kernel_rfl) (fun _ _ _ h=>h) (by rfl) ?y2x4q13 (by assumption) ?z2x4q13
         case y2x4q13=>intro wq hSw;(go_simp);(try with_reducible rfl)
         refine tkH 5 (v:=?_) rfl (by kernel_rfl) (fun _ _ _ h=>h) (by rfl) ?y2x5q16 (by assumption) ?z2x5q16
         case y2x5q16=>intro wq hSw;(have cq:=Chg.cellv hSw HE1.out NX.out;go_simp);(try with_reducible rfl)
         refine tkH 6 (v:=?_) rfl (by kernel_rfl) (fun _ _ _ h=>h) (by rfl) ?y2x6q19 (by assumption) ?z2x6q19
         case y2x6q19=>intro wq hSw;(have cq:=LK1.out _ hSw;go_simp);(try with_reducible rfl)
         refine tkH 7 (v:=?_) rfl (by kernel_rfl) (fun _ _ _ h=>h) (by rfl) ?y2x7q22 (by assumption) ?z2x7q22
         case y2x7q22=>intro wq hSw;(go_simp);(try with_reducible rfl)
         refine tkH 8 (v:=?_) rfl (by kernel_rfl) (fun _ _ _ h=>h) (by rfl) ?y2x8q25 (by assumption) ?z2x8q25
         case y2x8q25=>intro wq hSw;(go_simp);(try with_reducible rfl)
         refine tkH 9 (v:=?_) rfl (by kernel_rfl) (fun _ _ _ h=>h) (by rfl) ?y2x9q28 (by assumption) ?z2x9q28
         case y2x9q28=>intro wq hSw;(have cq:=Chg.cellv hSw HC1.out NG.out;go_simp);(try with_reducible rfl)
         refine tkH 10 (v:=?_) rfl (by kernel_rfl) (fun _ _ _ h=>h) (by rfl) ?y2x10q31 (by assumption) ?z2x10q31
         case y2x10q31=>intro wq hSw;(go_simp);(try with_reducible rfl)
         refine tkH 11 (v:=?_) rfl (by kernel_rfl) (fun _ _ _ h=>h) (by rfl) ?y2x11q34 (by assumption) ?z2x11q34
         case y2x11q34=>intro wq hSw;(go_simp);(try with_reducible rfl)
         refine tkH 12 (v:=?_) rfl (by kernel_rfl) (fun _ _ _ h=>h) (by rfl) ?y2x12q37 (by assumption) ?z2x12q37
         case y2x12q37=>intro wq hSw;(go_simp);(try with_reducible rfl)
         refine tkH 13 (v:=?_) rfl (by kernel_rfl) (fun _ _ _ h=>h) (by rfl) ?y2x13q40 (by assumption) ?z2x13q40
         case y2x13q40=>intro wq hSw;(go_simp);(try with_reducible rfl)
         refine tkH 14 (v:=?_) rfl (by kernel_rfl) (fun _ _ _ h=>h) (by rfl) ?y2x14q43 (by assumption) ?z2x14q43
         case y2x14q43=>intro wq hSw;(go_simp);(try with_reducible rfl)
         refine tkH 15 (v:=?_) rfl (by kernel_rfl) (fun _ _ _ h=>h) (by rfl) ?y2x15q46 (by assumption) ?z2x15q46
         case y2x15q46=>intro wq hSw;(have cq:=Chg.cellv hSw HE0.out NX.out;go_simp);(try with_reducible rfl)
         refine tkH 16 (v:=?_) rfl (by kernel_rfl) (fun _ _ _ h=>h) (by rfl) ?y2x16q49 (by assumption) ?z2x16q49
         case y2x16q49=>intro wq hSw;(go_simp);(try with_reducible rfl)
         refine tkH 17 (v:=?_) rfl (by kernel_rfl) (fun _ _ _ h=>h) (by rfl) ?y2x17q52 (by assumption) ?z2x17q52
         case y2x17q52=>intro wq hSw;(go_simp);(try with_reducible rfl)
         refine wpAnyH_ready (rs:=[18]) (by kernel_rfl) (by simp) ?_
         refine AllReadyH.cons (o:=⟨_,_,_,_,_,_⟩) rfl (fun K hK=>?_) AllReadyH.nil
         have st:=ST1.out
         go_simp
         refine hK.out _ _ (KS1.out) (fun hHeld=>?_)
         clear hK K
         refine wpAnyH_done (by kernel_rfl) ?_ _
         go_wp2_with fail
         refine wp_region_held_drew (S:=Exq qs wi.drew) (by kernel_rfl) (KS1d.out) (fun hHeld=>?_)
         refine tkH 0 (v:=?_) rfl (by kernel_rfl) (fun _ _ _ h=>h) (by rfl) ?y3x0q1 (by assumption) ?z3x0q1
         case y3x0q1=>intro wq hSw;(go_simp);(try with_reducible rfl)
         refine tkH 1 (v:=?_) rfl (by kernel_rfl) (fun _ _ _ h=>h) (by rfl) ?y3x1q4 (by assumption) ?z3x1q4
         case y3x1q4=>intro wq hSw;(go_simp);(try with_reducible rfl)
         refine tkH 2 (v:=?_) rfl (by kernel_rfl) (fun _ _ _ h=>h) (by rfl) ?y3x2q7 (by assumption) ?z3x2q7
         case y3x2q7=>intro wq hSw;(go_simp);(try with_reducible rfl)
         refine tkH 3 (v:=?_) rfl (by kernel_rfl) (fun _ _ _ h=>h) (by rfl) ?y3x3q10 (by assumption) ?z3x3q10
         case y3x3q10=>intro wq hSw;(go_simp);(try with_reducible rfl)
         refine tkH 4 (v:=?_) rfl (by kernel_rfl) (fun _ _ _ h=>h) (by rfl) ?y3x4q13 (by assumption) ?z3x4q13
         case y3x4q13=>intro wq hSw;(go_simp);(try with_reducible rfl)
         refine tkH 5 (v:=?_) rfl (by kernel_rfl) (fun _ _ _ h=>h) (by rfl) ?y3x5q16 (by assumption) ?z3x5q16
         case y3x5q16=>intro wq hSw;(go_simp);(try with_reducible rfl)
         refine tkH 6 (v:=?_) rfl (by kernel_rfl) (fun _ _ _ h=>h) (by rfl) ?y3x6q19 (by assumption) ?z3x6q19
         case y3x6q19=>intro wq hSw;(have cq:=Chg.cellv hSw HE0.out NX.out;go_simp);(try with_reducible rfl)
         refine tkH 7 (v:=?_) rfl (by kernel_rfl) (fun _ _ _ h=>h) (by rfl) ?y3x7q22 (by assumption) ?z3x7q22
         case y3x7q22=>intro wq hSw;(have cq:=LK0.out _ hSw;go_simp);(try with_reducible rfl)
         refine tkH 8 (v:=?_) rfl (by kernel_rfl) (fun _ _ _ h=>h) (by rfl) ?y3x8q25 (by assumption) ?z3x8q25
         case y3x8q25=>intro wq hSw;(go_simp);(try with_reducible rfl)
         refine tkH 9 (v:=?_) rfl (by kernel_rfl) (fun _ _ _ h=>h) (by rfl) ?y3x9q28 (by assumption) ?z3x9q28
         case y3x9q28=>intro wq hSw;(go_simp);(try with_reducible rfl)
         refine tkH 10 (v:=?_) rfl (by kernel_rfl) (fun _ _ _ h=>h) (by rfl) ?y3x10q31 (by assumption) ?z3x10q31
         case y3x10q31=>intro wq hSw;(have cq:=Chg.cellv hSw HC0.out NG.out;go_simp);(try with_reducible rfl)
         refine tkH 11 (v:=?_) rfl (by kernel_rfl) (fun _ _ _ h=>h) (by rfl) ?y3x11q34 (by assumption) ?z3x11q34
         case y3x11q34=>intro wq hSw;(go_simp);(try with_reducible rfl)
         refine tkH 12 (v:=?_) rfl (by kernel_rfl) (fun _ _ _ h=>h) (by rfl) ?y3x12q37 (by assumption) ?z3x12q37
         case y3x12q37=>intro wq hSw;(go_simp);(try with_reducible rfl)
         refine tkH 13 (v:=?_) rfl (by kernel_rfl) (fun _ _ _ h=>h) (by rfl) ?y3x13q40 (by assumption) ?z3x13q40
         case y3x13q40=>intro wq hSw;(go_simp);(try with_reducible rfl)
         refine tkH 14 (v:=?_) rfl (by kernel_rfl) (fun _ _ _ h=>h) (by rfl) ?y3x14q43 (by assumption) ?z3x14q43
         case y3x14q43=>intro wq hSw;(go_simp);(try with_reducible rfl)
         refine tkH 15 (v:=?_) rfl (by kernel_rfl) (fun _ _ _ h=>h) (by rfl) ?y3x15q46 (by assumption) ?z3x15q46
         case y3x15q46=>intro wq hSw;(have cq:=Chg.cellv hSw HE1.out NX.out;go_simp);(try with_reducible rfl)
         refine tkH 16 (v:=?_) rfl (by kernel_rfl) (fun _ _ _ h=>h) (by rfl) ?y3x16q49 (by assumption) ?z3x16q49
         case y3x16q49=>intro wq hSw;(go_simp);(try with_reducible rfl)
         refine tkH 17 (v:=?_) rfl (by kernel_rfl) (fun _ _ _ h=>h) (by rfl) ?y3x17q52 (by assumption) ?z3x17q52
         case y3x17q52=>intro wq hSw;(go_simp);(try with_reducible rfl)
         refine wpAnyH_ready (rs:=[18]) (by kernel_rfl) (by simp) ?_
         refine AllReadyH.cons (o:=⟨_,_,_,_,_,_⟩) rfl (fun K hK=>?_) AllReadyH.nil
         have st:=ST0.out
         go_simp
         refine hK.out _ _ (Exq.set (p:=⟨g0,j*2+1,none⟩) KS1d.out _ IN0.out) (fun hHeld=>?_)
         clear hK K
         refine wpAnyH_done (by kernel_rfl) ?_ _
         go_wp2_with fail
         exact ⟨⟨r+1,by omega,by go_num,by rw [PP.out];exact OQ0.out,K4D.out.nxq (Exq.set (p:=⟨g0,j*2+1,none⟩) KS1d.out _ IN0.out)⟩,by simp [intOf];omega⟩
        ·obtain ⟨FF,hFF⟩:∃ FF,FF=procI cc j F r:=⟨_,rfl⟩
         have hre:r=cc.length-1:=by omega
         rw [← hFF] at OQ
         rw [hre] at hFF
         rw [← hFF] at PS
         have dlt:¬ ((r:Int)+1<(cc.length:Int)):=by omega
         have OQ:=lH OQ
         have k34:=K3.out.nxq k4
         clear hFF hre hrm k4
         go_wp2_with fail
         exact ⟨⟨q+1,by omega,by go_num,by rw [PS.out];exact OQ.out,k34⟩,by simp [intOf];omega⟩
      ·obtain rfl:q=M.length:=by omega
       rw [List.take_length,← HPB.out] at OQ
       have OQ:=lH OQ
       have kj:=KQ.out.nxq ((Exq.of_ex K5.out).nxq k3)
       clear hqm hq k3
       go_wp2_with fail
       exact ⟨⟨j+1,by omega,by go_num,OQ.out,kj⟩,by simp [intOf];omega⟩
    ·obtain rfl:j=M1:=by omega
     rw [← HLL.out] at OQ
     have OQ:=lH (OwnN.base OQ (show w.heap.size≤w1.heap.size by omega))
     have KE:Ex w wj:=Chg.trans K1.out (Chg.mono (KT.out _ kq) (fun x hx=>⟨Nat.lt_of_lt_of_le hx K1.out.size,by have:x<w.heap.size:=hx;omega⟩))
     have dlt:¬ ((j:Int)<(m:Int)+1):=by have:=HM1.out;omega
     clear hjm hj kq
     go_wp2_with fail
     go_ret2
     exact ⟨_,qs,rfl,OQ.out,KE⟩
theorem fil_fold {h:Int} (hh:h≤16) (l:List Nd) (hl:∀ y∈l,y.word<4294967296):∀ c∈foldC h l,c=l.filter fun y=>sameN (headW c) y.word h:=by
 induction l using snoc_ind with
 | h0=>intro c hc;simp [foldC] at hc
 | h1 l x ih =>
  have hl':∀ y∈l,y.word<4294967296:=fun y hy=>hl y (List.mem_append_left _ hy)
  have hx:x.word<4294967296:=hl x (by simp)
  have ih:=ih hl'
  have H:=(foldC_cnt hh l hl').1
  rw [foldC_append]
  generalize foldC h l=C at H ih
  have hw:∀ c∈C,headW c<4294967296:=fun c hc=>by
   obtain ⟨y,hy,he⟩:=headW_mem (H.mem c hc).1
   rw [he];exact hl' y ((H.mem c hc).2 y hy).1
  rcases stepC_cases h C x with ⟨hno,he⟩ | ⟨K,c,hc,hs,he⟩
  ·rw [he]
   intro d hd
   rw [List.filter_append]
   rcases List.mem_append.1 hd with hd | hd
   ·have h1:=hno d hd
    rw [← ih d hd]
    simp [h1]
   ·obtain rfl:=List.mem_singleton.1 hd
    have h1:l.filter (fun y=>sameN (headW [x]) y.word h)=[]:=by
     rw [List.filter_eq_nil_iff]
     intro y hy hxy
     obtain ⟨c,hc,hyc⟩:=H.all y hy
     have:=sameN_trans (hw c hc) (hl' y hy) hx ((H.mem c hc).2 y hyc).2 (sameN_symm hxy)
     rw [hno c hc] at this
     cases this
    rw [h1]
    have:sameN (headW [x]) x.word h=true:=sameN_refl _ hh
    simp [this]
  ·rw [he]
   intro d hd
   rw [List.filter_append]
   obtain ⟨i,hi⟩:=List.mem_iff_getElem?.1 hd
   have hcm:=List.mem_of_getElem? hc
   by_cases hik:i=K
   ·subst hik
    rw [List.getElem?_set_self (List.getElem?_eq_some_iff.1 hc).1] at hi
    cases hi
    rw [headW_snoc x (H.mem c hcm).1,← ih c hcm]
    simp [hs]
   ·rw [List.getElem?_set_ne (by omega)] at hi
    have hdm:=List.mem_of_getElem? hi
    have h1:sameN (headW d) x.word h=false:=by
     cases hsd:sameN (headW d) x.word h with
     | false=>rfl
     | true=>exact absurd (H.heads i K d c hi hc (sameN_trans (hw d hdm) hx (hw c hcm) hsd (sameN_symm hs))) hik
    rw [← ih d hdm]
    simp [h1]
theorem sort_check {l:List Nd} (h:checkN l=0):checkN (sortN l)=0:=by
 have hp:=sortN_perm l
 unfold checkN at h ⊢
 split at h
 ·omega
 rename_i hlen
 split at h
 ·omega
 rename_i hbad
 split at h
 ·omega
 rename_i hdup
 have h0:checkN l=0:=by unfold checkN;rw [if_neg hlen,if_neg hbad,if_neg hdup]
 rw [if_neg (by rw [hp.length_eq];exact hlen),if_neg (by
  intro hb
  obtain ⟨x,hx,hxb⟩:=List.any_eq_true.1 hb
  exact hbad (List.any_eq_true.2 ⟨x,hp.mem_iff.1 hx,hxb⟩)),if_neg]
 intro hd
 obtain ⟨i,k,x,y,hki,hx,hy,he⟩:=(dupN_iff _).1 hd
 have:=asc_at (sortN_str h0) hy hx hki
 unfold eqN at he
 rcases Bool.or_eq_true_iff.1 he with h1 | h1
 ·exact this.2 (by simpa using (beq_iff_eq.1 h1).symm)
 ·rw [beq_iff_eq.1 h1,bytesLess_irrefl] at this
  cases this.1
theorem sort_sort {l:List Nd} (h:checkN l=0):sortN (sortN l)=sortN l :=
 sortN_unique (check_keys h) ((sortN_perm _).trans (sortN_perm l)) (sortN_asc _)
theorem procB_high (S:List Nd) (x:Int) (j:Nat):∀ k,k≤j→procB S k x j=(0,0)
 | 0,_=>rfl
 | k+1,hk=>by
  show procL k (listsN S (k:Nat)) (procB S k) x j=_
  rw [procL_level _ _ _ _ _ (by omega)]
  exact procB_high S x j k (by omega)
theorem procB_low (S:List Nd) (x:Int) (j:Nat):∀ d,procB S (j+1+d) x j=procB S (j+1) x j
 | 0=>rfl
 | d+1=>by
  show procL (j+1+d) _ (procB S (j+1+d)) x j=_
  rw [procL_level _ _ _ _ _ (by omega)]
  exact procB_low S x j d
theorem atI_ids {c:List Nd} {q:Nat} (_:q<c.length):atI (idsN c) q=(c[q]?.getD Nd.zero).id:=by
 unfold atI idsN
 rw [List.getElem?_map]
 cases h:c[q]? with
 | none=>exact absurd (List.getElem?_eq_none_iff.1 h) (by omega)
 | some y=>rfl
theorem build_at {l:List Nd} (h0:checkN l=0) (hw:∀ x∈l,x.word<4294967296) {x:Nd} (hx:x∈sortN l) {j:Nat} (hj:j≤16):procB (sortN l) (j+1) x.id j=(neighN (sortN l) x.id (j:Nat)).1:=by
 obtain ⟨S,hS⟩:∃ S,S=sortN l:=⟨_,rfl⟩
 have hc:=sort_check h0
 have hss:=sort_sort h0
 have hA:=sortN_str h0
 have hws:∀ y∈S,y.word<4294967296:=fun y hy=>hw y ((sortN_mem l y).1 (hS▸hy))
 rw [← hS] at hx hc hss hA ⊢
 have hlv:lvlN (j:Int)=true:=by unfold lvlN;simp;omega
 have hf:=find_in hc hx
 have hL:listsN S (j:Int)=(foldC (j:Int) S).map idsN:=by
  unfold listsN
  rw [if_pos ⟨by rw [hc];rfl,hlv⟩,hss,classesN_fold (by omega)]
 obtain ⟨i,hi,_,hn⟩:=neighN_yes (l:=S) (id:=x.id) (h:=(j:Int)) hc (by rw [hf]) hlv
 have HC:=(foldC_cnt (show (j:Int)≤16 by omega) S hws).1
 have HF:=fil_fold (show (j:Int)≤16 by omega) S hws
 have hth:thrG S x.id (j:Int)=groupN S (j:Int) x.word:=by unfold thrG;rw [hss,hf]
 rw [hth] at hi hn
 rw [hf] at hi
 obtain ⟨c,hcm,hxc⟩:=HC.all x hx
 have hgc:groupN S (j:Int) x.word=c:=by
  have hsx:=((HC.mem c hcm).2 x hxc).2
  obtain ⟨y0,hy0,he0⟩:=headW_mem (HC.mem c hcm).1
  have hwc:headW c<4294967296:=by rw [he0];exact hws y0 ((HC.mem c hcm).2 y0 hy0).1
  conv=>rhs;rw [HF c hcm]
  unfold groupN
  apply List.filter_congr
  intro y hy
  rw [Bool.eq_iff_iff]
  exact ⟨fun h=>sameN_trans hwc (hws x hx) (hws y hy) hsx (sameN_symm h),fun h=>sameN_trans (hws y hy) hwc (hws x hx) (sameN_symm h) hsx⟩
 rw [hgc] at hi hn
 have hAc:AscS c:=by rw [HF c hcm];exact List.Pairwise.filter _ hA
 have hil:=(List.getElem?_eq_some_iff.1 hi).1
 show procL j (listsN S (j:Nat)) (procB S j) x.id j=_
 have hxi:x.id=atI (idsN c) i:=by rw [atI_ids hil,hi];rfl
 rw [hL,hn,hxi]
 rw [procL_at j _ _ ?_ ?_ (idsN c) (List.mem_map.2 ⟨c,hcm,rfl⟩) i (by unfold idsN;simpa using hil) (procB_high S _ j j (Nat.le_refl _))]
 ·have hlen:(idsN c).length=c.length:=by unfold idsN;simp
  show _=(leftN c i,rightN c i)
  congr 1
  ·unfold leftN
   by_cases h1:i=0
   ·rw [if_neg (by omega),if_pos h1]
   ·rw [if_pos (by omega),if_neg h1,atI_ids (by omega)]
  ·unfold rightN
   rw [hlen]
   by_cases h1:i+1<c.length
   ·rw [if_pos h1,atI_ids h1]
   ·rw [if_neg h1,List.getElem?_eq_none (by omega)];rfl
 ·rw [List.pairwise_map,List.pairwise_iff_getElem]
  intro p q hp hq hpq z hz1 hz2
  obtain ⟨y1,hy1,e1⟩:=List.mem_map.1 hz1
  obtain ⟨y2,hy2,e2⟩:=List.mem_map.1 hz2
  have m1:=(HC.mem _ (List.getElem_mem hp)).2 y1 hy1
  have m2:=(HC.mem _ (List.getElem_mem hq)).2 y2 hy2
  have e:y1=y2:=ids_eq (check_keys hc) m1.1 m2.1 (e1.trans e2.symm)
  subst e
  have hwc:∀ d∈foldC (j:Int) S,headW d<4294967296:=fun d hd=>by
   obtain ⟨y0,hy0,he0⟩:=headW_mem (HC.mem d hd).1
   rw [he0];exact hws y0 ((HC.mem d hd).2 y0 hy0).1
  have:=HC.heads p q _ _ (List.getElem?_eq_getElem hp) (List.getElem?_eq_getElem hq) (sameN_trans (hwc _ (List.getElem_mem hp)) (hws y1 m1.1) (hwc _ (List.getElem_mem hq)) m1.2 (sameN_symm m2.2))
  omega
 ·intro d hd
  obtain ⟨c',hc',rfl⟩:=List.mem_map.1 hd
  have hA':AscS c':=by rw [HF c' hc'];exact List.Pairwise.filter _ hA
  unfold idsN List.Nodup
  rw [List.pairwise_map]
  exact hA'.imp (fun h=>h.2)
theorem build_rows {l:List Nd} (h0:checkN l=0) (hw:∀ x∈l,x.word<4294967296) {m:Nat} (hm:m≤16):rowsF (sortN l) (m+1) (procB (sortN l) (m+1))=(sortN l).map (rowN (sortN l) (m+1)):=by
 unfold rowsF rowN
 apply List.map_congr_left
 intro x hx
 congr 1
 apply List.map_congr_left
 intro j hj
 have hj:=List.mem_range.1 hj
 have:=procB_low (sortN l) x.id j (m-j)
 rw [show j+1+(m-j)=m+1 by omega] at this
 rw [this,build_at h0 hw hx (by omega)]
theorem build_p (a:Option Addr) (n c:Nat) (l:List Nd) (h:Int) (w:World) (hs:Sl 3 encN w a n l) (hn:n≤1000) (hc:n≤c) (hm:c≤maxLen) (hw:∀ x∈l,x.word<4294967296) (hT:TabG w) :
  Calls Tryz.prog 103 #[.slice a n c,.int .i64 h] w (LkPost (buildN l h).1 (buildN l h).2 w):=by
 refine build_q a n c l h w hs hn hc hm hw hT _ _ (fun h0=>?_) (fun h0 h1=>?_) (fun h0 m he hm=>?_)
 ·unfold buildN
  rw [if_pos (by rw [beq_eq_false_iff_ne];exact h0)]
  exact ⟨rfl,rfl⟩
 ·unfold buildN
  rw [if_neg (by rw [h0];simp),if_pos h1]
  exact ⟨rfl,rfl⟩
 ·subst he
  unfold buildN
  rw [if_neg (by rw [h0];simp),if_neg (by unfold lvlN;simp;omega)]
  rw [build_rows h0 hw hm]
  exact ⟨rfl,rfl⟩
theorem check_perm {l l':List Nd} (hp:l'.Perm l) (h:checkN l=0):checkN l'=0:=by
 have hk:=check_keys h
 unfold checkN at h ⊢
 split at h
 ·omega
 rename_i hlen
 split at h
 ·omega
 rename_i hbad
 rw [if_neg (by rw [hp.length_eq];exact hlen),if_neg (by
  intro hb
  obtain ⟨x,hx,hxb⟩:=List.any_eq_true.1 hb
  exact hbad (List.any_eq_true.2 ⟨x,hp.mem_iff.1 hx,hxb⟩)),if_neg]
 intro hd
 obtain ⟨i,k,x,y,hki,hx,hy,he⟩:=(dupN_iff _).1 hd
 have h2:l'.Pairwise fun x y=>x.key.toList≠y.key.toList∧x.id≠y.id :=
  (hp.symm.pairwise_iff (fun {x y} hxy=>⟨fun he=>hxy.1 he.symm,fun he=>hxy.2 he.symm⟩)).1 (keys_pw hk)
 obtain ⟨hi,e1⟩:=List.getElem?_eq_some_iff.1 hx
 obtain ⟨hk,e2⟩:=List.getElem?_eq_some_iff.1 hy
 have:=List.pairwise_iff_getElem.1 h2 k i hk hi hki
 rw [e1,e2] at this
 unfold eqN at he
 rcases Bool.or_eq_true_iff.1 he with h1 | h1
 ·exact this.2 (by simpa using (beq_iff_eq.1 h1).symm)
 ·exact this.1 (beq_iff_eq.1 h1).symm
theorem sort_perm {l l':List Nd} (hp:l'.Perm l) (h:checkN l=0):sortN l'=sortN l :=
 sortN_unique (check_keys h) ((sortN_perm l').trans hp) (sortN_asc l')
theorem grp_at {l:List Nd} {x:Nd} (hx:x∈l) {h:Int} (hl:lvlN h=true):∃ A B,grpS l h x.word=A++x::B:=by
 have:x∈grpS l h x.word:=grp_mem.2 ⟨hx,sameN_refl _ (by unfold lvlN at hl;simp at hl;exact hl.2)⟩
 exact List.append_of_mem this
theorem build_ok0 {l:List Nd} (h0:checkN l=0) {h:Nat} (hh:h≤16):(buildN l (h:Int)).2=0∧(buildN l (h:Int)).1.length=l.length∧∀ c∈(buildN l (h:Int)).1,c.2.length=h+1:=by
 unfold buildN
 rw [if_neg (by rw [h0];simp),if_neg (by unfold lvlN;simp;omega)]
 refine ⟨rfl,by simp [sortN_length],?_⟩
 intro c hc
 obtain ⟨x,_,rfl⟩:=List.mem_map.1 hc
 rw [rowN_len]
 omega
end Go.Proofs.YthdkeibapcaclaaGreatDoor
namespace Go.Proofs.YthdkeibapcaclaaGreatDoor
open Go.RowKit
namespace Lin
section
variable {K K':Nat→Nat→Prop}
theorem raise (hR:Rnd K K') (hirr:∀ x,¬ K x x) {lo hi a b:Nat} (h:Path (Sym K) lo hi a b) (hb:lo+1≤b) :
  (lo+1≤a→Path (Sym K') (lo+1) hi a b)∧(a=lo→∀ e,K lo e→lo+1≤e→e≤hi→Path (Sym K') (lo+1) hi e b):=by
 induction h with
 | refl g1 g2=>exact ⟨fun h=>.refl h g2,fun h=>by omega⟩
 | step g1 g2 g3 k ih =>
  rename_i a c b
  obtain ⟨i1,i2⟩:=ih hb
  refine ⟨fun ha=>?_,fun ha e he h1 h2=>?_⟩
  ·by_cases hc:lo+1≤c
   ·exact (edge hR (.inl g3.1) ha g2 hc k.head.2).trans (i1 hc)
   ·have hc:c=lo:=by have:=k.head.1;omega
    subst hc
    exact i2 rfl a g3.2 ha g2
  ·subst ha
   have hc:a+1≤c:=by
    have:=k.head.1
    rcases Nat.lt_or_ge a c with h | h
    ·exact h
    ·have:c=a:=by omega
     subst this
     exact absurd g3.1 (hirr _)
   exact (joined hR (p:=a) (.inr he) (.inr g3.1) h1 h2 hc k.head.2).trans (i1 hc)
end
section
variable {n:Nat} {K:Nat→Nat→Nat→Prop}
theorem sorts (hR:∀ t,Rnd (K t) (K (t+1))) (hirr:∀ t x,¬ K t x x) (hc:∀ a b,a<n→b<n→Path (fun x y=>K 0 x y∨K 0 y x) 0 (n-1) a b) {i:Nat} (hi:i+1<n):Sym (K (n-1)) i (i+1):=by
 have h1:Path (Sym (K 1)) 0 (n-1) i (i+1):=keep (hR 0) (hc i (i+1) (by omega) hi)
 have up:∀ d,d≤n-1-(i+1)→Path (Sym (K (1+d))) 0 (n-1-d) i (i+1):=by
  intro d
  induction d with
  | zero=>intro _;exact h1
  | succ d ih =>
   intro hd
   have h:=ih (by omega)
   rw [show n-1-d=(n-1-(d+1))+1 by omega] at h
   exact (lower (hR (1+d)) (hirr _) h (by omega)).1 (by omega)
 have h2:=up (n-1-(i+1)) (Nat.le_refl _)
 rw [show n-1-(n-1-(i+1))=i+1 by omega] at h2
 have down:∀ d,d≤i→Path (Sym (K (1+(n-1-(i+1))+d))) d (i+1) i (i+1):=by
  intro d
  induction d with
  | zero=>intro _;exact h2
  | succ d ih =>
   intro hd
   exact (raise (hR (1+(n-1-(i+1))+d)) (hirr _) (ih (by omega)) (by omega)).1 (by omega)
 have h3:=down i (Nat.le_refl _)
 rw [show 1+(n-1-(i+1))+i=n-1 by omega] at h3
 exact pair h3 rfl (fun x h=>hirr _ x h.1)
theorem sorted_from (hR:∀ t,Rnd (K t) (K (t+1))) (hirr:∀ t x,¬ K t x x) (hc:∀ a b,a<n→b<n→Path (fun x y=>K 0 x y∨K 0 y x) 0 (n-1) a b) {i:Nat} (hi:i+1<n):∀ d,Sym (K (n-1+d)) i (i+1)
 | 0=>sorts hR hirr hc hi
 | d+1=>stays (hR _) (sorted_from hR hirr hc hi d)
end
end Lin
section
variable {N:List Nd} {P:List Pr}
theorem KR.irr (h0:checkN N=0) (x:Nat):¬ KR N P x x:=by
 rintro ⟨a,b,h1,h2,h3⟩
 rw [h1] at h2
 cases h2
 have:=((mem_refs h0).1 h3).2.1
 rw [peer_id] at this
 exact this rfl
def exactL (N:List Nd) (P:List Pr):Prop:=checkN N=0∧∀ x∈N,((peerN P x.id).left,(peerN P x.id).right)=(neighN N x.id (0:Nat)).1
theorem grp_zero (N:List Nd) (v:Nat):grpS N ((0:Nat):Int) v=sortN N:=by
 unfold grpS groupN
 rw [List.filter_eq_self]
 intro y _
 unfold sameN
 simp
theorem keep_sym (h0:checkN N=0) {i:Nat} {x:Nd} (hi:(sortN N)[i]?=some x) (hl:∀ k,i=k+1→KR N P i k) (hr:i+1<N.length→KR N P i (i+1)):keepN N (peerN P x.id)=(neighN N x.id (0:Nat)).1:=by
 obtain ⟨hlt,e⟩:=List.getElem?_eq_some_iff.1 hi
 have hxN:=(sortN_mem N _).1 (List.mem_of_getElem? hi)
 have hS:sortN N=(sortN N).take i++x::(sortN N).drop (i+1):=by
  rw [← e,← List.drop_eq_getElem_cons hlt,List.take_append_drop]
 have hn:=neigh_split h0 hxN (h:=((0:Nat):Int)) rfl (A:=(sortN N).take i) (B:=(sortN N).drop (i+1)) (by rw [grp_zero];exact hS)
 rw [hn]
 have hids:=sort_ids h0
 have hpid:(peerN P x.id).id=x.id:=peer_id P x.id
 have hF:∀ {k:Nat} {z:Nd},(sortN N)[k]?=some z→KR N P i k→(z.id==(peerN P x.id).id||(numsP (peerN P x.id)).contains z.id)=true:=by
  rintro k z hz ⟨a,b,h1,h2,h3⟩
  rw [hi] at h1
  rw [hz] at h2
  cases h1
  cases h2
  simp only [Bool.or_eq_true,List.contains_iff_mem]
  exact .inr ((mem_refs h0).1 h3).2.2
 have hA:∀ z,((sortN N).take i).getLast?=some z→(z.id==(peerN P x.id).id||(numsP (peerN P x.id)).contains z.id)=true:=by
  intro z hz
  rw [List.getLast?_eq_getElem?,List.length_take,List.getElem?_take] at hz
  split at hz
  ·rename_i hlt2
   refine hF hz (hl _ ?_)
   omega
  ·cases hz
 have hB:∀ z,((sortN N).drop (i+1)).head?=some z→(z.id==(peerN P x.id).id||(numsP (peerN P x.id)).contains z.id)=true:=by
  intro z hz
  rw [List.head?_drop] at hz
  have:=(List.getElem?_eq_some_iff.1 hz).1
  rw [sortN_length] at this
  exact hF hz (hr this)
 have har:=ar_eq h0 hxN hpid.symm
 generalize hAA:(sortN N).take i=A at hS hn hA
 generalize hBB:(sortN N).drop (i+1)=B at hS hn hB
 generalize hFF:(fun y:Nd=>y.id==(peerN P x.id).id||(numsP (peerN P x.id)).contains y.id)=F at har
 have hFx:F x=true:=by rw [← hFF];simp [hpid]
 have hA:∀ z,A.getLast?=some z→F z=true:=fun z hz=>by rw [← hFF];exact hA z hz
 have hB:∀ z,B.head?=some z→F z=true:=fun z hz=>by rw [← hFF];exact hB z hz
 rw [hS,List.filter_append,List.filter_cons_of_pos hFx,List.map_append,List.map_cons] at har
 have hnot:x.id∉(A.filter F).map Nd.id:=fun h=>by
  obtain ⟨z,hz,he⟩:=List.mem_map.1 h
  rw [hS] at hids
  exact (List.pairwise_append.1 hids).2.2 z (List.mem_filter.1 hz).1 x (by simp) he
 unfold keepN
 rw [har,hpid,bes_at hnot]
 congr 1
 ·unfold lastI
  rcases List.eq_nil_or_concat A with h | ⟨A0,z,h⟩
  ·subst h;rfl
  ·rw [List.concat_eq_append] at h
   subst h
   have:=hA z (by simp)
   rw [List.filter_append]
   simp [this]
 ·unfold headI
  cases B with
  | nil=>rfl
  | cons b B0 =>
   rw [List.filter_cons_of_pos (hB b rfl)]
   rfl
end
section
variable {N:List Nd}
theorem sort_law {P:Nat→List Pr} (hc:ConnN N (P 0)) (hk:∀ t,∀ a∈N,∀ v∈(peerN (roundN N (P t)) a.id).known,v∈(peerN (P (t+1)) a.id).known)
  (hlr:∀ t,∀ a∈N,((peerN (P (t+1)) a.id).left,(peerN (P (t+1)) a.id).right)=keepN N (peerN (P t) a.id)):∀ t,N.length≤t→exactL N (P t):=by
 intro t ht
 have h0:=hc.1
 refine ⟨h0,fun x hx=>?_⟩
 obtain ⟨i,hi,hin⟩:=place_of hx
 obtain ⟨s,rfl⟩:∃ s,t=s+1:=⟨t-1,by omega⟩
 rw [hlr s x hx]
 have path:∀ a b,a<N.length→b<N.length→Lin.Path (fun x y=>KR N (P 0) x y∨KR N (P 0) y x) 0 (N.length-1) a b:=by
  intro a b ha hb
  obtain ⟨u,hu⟩:∃ u,(sortN N)[a]?=some u:=⟨_,List.getElem?_eq_getElem (by rw [sortN_length];exact ha)⟩
  obtain ⟨v,hv⟩:∃ v,(sortN N)[b]?=some v:=⟨_,List.getElem?_eq_getElem (by rw [sortN_length];exact hb)⟩
  have huN:=(sortN_mem N _).1 (List.mem_of_getElem? hu)
  have hvN:=(sortN_mem N _).1 (List.mem_of_getElem? hv)
  exact cl_path h0 (hc.2 u huN v hvN) hu hv rfl rfl
 have hs:∀ {j:Nat},j+1<N.length→Lin.Sym (KR N (P s)) j (j+1):=fun {j} hj=>by
  have:=Lin.sorted_from (K:=fun t=>KR N (P t)) (n:=N.length) (fun t=>rnd h0 (hk t)) (fun t x=>KR.irr h0 x) path hj (s-(N.length-1))
  rw [show N.length-1+(s-(N.length-1))=s by omega] at this
  exact this
 exact keep_sym h0 hi (fun k hk=>by subst hk;exact (hs hin).2) (fun h=>(hs h).1)
variable {P:List Pr}
end
def linksB (N:List Nd) (P:List Pr) (h:Int):List Lkd:=if lvlN h=true then (normalN N P).map fun p=>(p.id,(List.range (h.toNat+1)).map fun (lev:Nat)=>linkB N p lev) else []
noncomputable def exactB (N:List Nd) (P:List Pr) (h:Int):Bool:=(buildN N h).2==0&&decide (linksB N P h=(buildN N h).1)
section
variable {N:List Nd}
def bitIs (i b:Nat) (y:Nd):Bool:=bitN y.word i==b
theorem other_node (h0:checkN N=0) {z:Nd} (hz:z∈N) {own:Int} (hne:z.id≠own):otherN N z.id own=z.id:=by
 unfold otherN
 rw [if_pos ⟨by rw [find_in h0 hz],hne⟩]
theorem other_zero (h0:checkN N=0) (own:Int):otherN N 0 own=0:=by
 unfold otherN
 rw [if_neg]
 rintro ⟨h,_⟩
 rw [find_zero h0] at h
 cases h
theorem other_last (h0:checkN N=0) {A:List Nd} {own:Int} (hA:∀ z∈A,z∈N∧z.id≠own):otherN N (lastI A) own=lastI A:=by
 rcases List.eq_nil_or_concat A with h | ⟨A0,z,h⟩
 ·subst h;exact other_zero h0 own
 ·rw [List.concat_eq_append] at h
  subst h
  have:lastI (A0++[z])=z.id:=by unfold lastI;simp
  rw [this]
  exact other_node h0 (hA z (by simp)).1 (hA z (by simp)).2
theorem other_head (h0:checkN N=0) {B:List Nd} {own:Int} (hB:∀ z∈B,z∈N∧z.id≠own):otherN N (headI B) own=headI B:=by
 cases B with
 | nil=>exact other_zero h0 own
 | cons z B =>
  show otherN N z.id own=z.id
  exact other_node h0 (hB z (by simp)).1 (hB z (by simp)).2
theorem grp_parts (h0:checkN N=0) {i:Int} {v:Nat} {A B:List Nd} {x:Nd} (e:grpS N i v=A++x::B):(∀ z∈A,z∈N∧z.id≠x.id)∧(∀ z∈B,z∈N∧z.id≠x.id):=by
 have ha:=grp_asc h0 i v
 rw [e] at ha
 have h1:=List.pairwise_append.1 ha
 have hm:∀ z∈A++x::B,z∈N:=fun z hz=>(grp_mem.1 (by rw [e];exact hz)).1
 exact ⟨fun z hz=>⟨hm z (by simp [hz]),(h1.2.2 z hz x (by simp)).2⟩,fun z hz=>⟨hm z (by simp [hz]),(((List.pairwise_cons.1 h1.2.1).1 z hz).2).symm⟩⟩
theorem step_left (h0:checkN N=0) {st:Int→Pr} {p:Pr} {x:Nd} {i:Nat} (hi:i≤16) (hx:x∈N) (hp:p.id=x.id) (hl:linkB N p i=(neighN N x.id i).1) {A B:List Nd} (e:grpS N i x.word=A++x::B)
  (hu:∀ A0 u,A=A0++[u]→(nearAt (st u.id) i).1=lastI (A0.filter (bitIs i 0))∧(nearAt (st u.id) i).2.1=lastI (A0.filter (bitIs i 1))) :
  (stepB N st p i).1=lastI (A.filter (bitIs i 0))∧(stepB N st p i).2.1=lastI (A.filter (bitIs i 1)):=by
 have hn:=neigh_split h0 hx (h:=(i:Int)) (by unfold lvlN;simp;omega) e
 obtain ⟨hA,_⟩:=grp_parts h0 e
 have hs:stepB N st p i=((pairB N x.id (lastI A) i (nearAt (st (lastI A)) i).1 (nearAt (st (lastI A)) i).2.1).1,(pairB N x.id (lastI A) i (nearAt (st (lastI A)) i).1 (nearAt (st (lastI A)) i).2.1).2,(stepB N st p i).2.2):=by
  unfold stepB
  rw [hl,hn,hp]
 rw [hs]
 simp only
 rcases List.eq_nil_or_concat A with h | ⟨A0,u,h⟩
 ·subst h
  have:pairB N x.id (lastI []) i (nearAt (st (lastI [])) i).1 (nearAt (st (lastI [])) i).2.1=(0,0):=by
   unfold pairB
   rw [if_neg]
   rw [show lastI []=0 from rfl,find_zero h0]
   simp
  rw [this]
  exact ⟨rfl,rfl⟩
 ·rw [List.concat_eq_append] at h
  subst h
  have hlu:lastI (A0++[u])=u.id:=by unfold lastI;simp
  obtain ⟨g0,g1⟩:=hu A0 u rfl
  have huN:=(hA u (by simp)).1
  have sub:∀ b,∀ z∈A0.filter (bitIs i b),z∈N∧z.id≠x.id:=fun b z hz=>hA z (by simp [(List.mem_filter.1 hz).1])
  rw [hlu,g0,g1]
  unfold pairB
  rw [find_in h0 huN,if_pos rfl]
  by_cases hb:bitN u.word i=0
  ·rw [if_pos hb,other_last h0 (sub 1),List.filter_append,List.filter_append]
   have e0:[u].filter (bitIs i 0)=[u]:=by simp [bitIs,hb]
   have e1:[u].filter (bitIs i 1)=[]:=by simp [bitIs,hb]
   rw [e0,e1,List.append_nil]
   exact ⟨by unfold lastI;simp,rfl⟩
  ·have hb1:bitN u.word i=1:=by have:=bitN_lt u.word (i:Int);omega
   rw [if_neg hb,other_last h0 (sub 0),List.filter_append,List.filter_append]
   have e0:[u].filter (bitIs i 0)=[]:=by simp [bitIs,hb1]
   have e1:[u].filter (bitIs i 1)=[u]:=by simp [bitIs,hb1]
   rw [e0,e1,List.append_nil]
   exact ⟨rfl,by unfold lastI;simp⟩
theorem step_right (h0:checkN N=0) {st:Int→Pr} {p:Pr} {x:Nd} {i:Nat} (hi:i≤16) (hx:x∈N) (hp:p.id=x.id) (hl:linkB N p i=(neighN N x.id i).1) {A B:List Nd} (e:grpS N i x.word=A++x::B)
  (hu:∀ u B0,B=u::B0→(nearAt (st u.id) i).2.2.1=headI (B0.filter (bitIs i 0))∧(nearAt (st u.id) i).2.2.2=headI (B0.filter (bitIs i 1))) :
  (stepB N st p i).2.2.1=headI (B.filter (bitIs i 0))∧(stepB N st p i).2.2.2=headI (B.filter (bitIs i 1)):=by
 have hn:=neigh_split h0 hx (h:=(i:Int)) (by unfold lvlN;simp;omega) e
 obtain ⟨_,hB⟩:=grp_parts h0 e
 have hs:(stepB N st p i).2.2=pairB N x.id (headI B) i (nearAt (st (headI B)) i).2.2.1 (nearAt (st (headI B)) i).2.2.2:=by
  unfold stepB
  rw [hl,hn,hp]
 rw [hs]
 cases B with
 | nil =>
  have:pairB N x.id (headI []) i (nearAt (st (headI [])) i).2.2.1 (nearAt (st (headI [])) i).2.2.2=(0,0):=by
   unfold pairB
   rw [if_neg]
   rw [show headI []=0 from rfl,find_zero h0]
   simp
  rw [this]
  exact ⟨rfl,rfl⟩
 | cons u B0 =>
  obtain ⟨g0,g1⟩:=hu u B0 rfl
  have huN:=(hB u (by simp)).1
  have sub:∀ b,∀ z∈B0.filter (bitIs i b),z∈N∧z.id≠x.id:=fun b z hz=>hB z (by simp [(List.mem_filter.1 hz).1])
  rw [show headI (u::B0)=u.id from rfl,g0,g1]
  unfold pairB
  rw [find_in h0 huN,if_pos rfl]
  by_cases hb:bitN u.word i=0
  ·rw [if_pos hb,other_head h0 (sub 1),List.filter_cons_of_pos (by simp [bitIs,hb]),List.filter_cons_of_neg (by simp [bitIs,hb])]
   exact ⟨rfl,rfl⟩
  ·have hb1:bitN u.word i=1:=by have:=bitN_lt u.word (i:Int);omega
   rw [if_neg hb,other_head h0 (sub 0),List.filter_cons_of_neg (by simp [bitIs,hb1]),List.filter_cons_of_pos (by simp [bitIs,hb1])]
   exact ⟨rfl,rfl⟩
theorem grp_next (hw:∀ x∈N,x.word<4294967296) {x:Nd} (hx:x∈N) {i:Nat} (hi:i<16):grpS N ((i+1:Nat):Int) x.word=(grpS N i x.word).filter (bitIs i (bitN x.word i)):=by
 unfold grpS groupN
 rw [List.filter_filter]
 refine List.filter_congr fun y hy=>?_
 have hy:=(sortN_mem N y).1 hy
 rw [Bool.eq_iff_iff,show ((i+1:Nat):Int)=(i:Int)+1 by omega,same_succ (hw y hy) (hw x hx) hi]
 unfold bitIs
 simp only [Bool.and_eq_true,beq_iff_eq]
 exact And.comm
theorem link_near (h0:checkN N=0) (hw:∀ x∈N,x.word<4294967296) {p:Pr} {x:Nd} {i:Nat} (hi:i<16) (hx:x∈N) (hp:p.id=x.id) (hlen:i+1≤p.near.length) {A B:List Nd} (e:grpS N i x.word=A++x::B)
  (hL:(nearAt p i).1=lastI (A.filter (bitIs i 0))∧(nearAt p i).2.1=lastI (A.filter (bitIs i 1))) (hR:(nearAt p i).2.2.1=headI (B.filter (bitIs i 0))∧(nearAt p i).2.2.2=headI (B.filter (bitIs i 1))) :
  linkB N p ((i+1:Nat):Int)=(neighN N x.id ((i+1:Nat):Int)).1:=by
 have hlv:lvlN ((i+1:Nat):Int)=true:=by unfold lvlN;simp;omega
 obtain ⟨hA,hB⟩:=grp_parts h0 e
 have e':grpS N ((i+1:Nat):Int) x.word=A.filter (bitIs i (bitN x.word i))++x::B.filter (bitIs i (bitN x.word i)):=by
  rw [grp_next hw hx hi,e,List.filter_append,List.filter_cons_of_pos (by simp [bitIs])]
 rw [neigh_split h0 hx hlv e']
 have subA:∀ b,∀ z∈A.filter (bitIs i b),z∈N∧z.id≠x.id:=fun b z hz=>hA z (List.mem_filter.1 hz).1
 have subB:∀ b,∀ z∈B.filter (bitIs i b),z∈N∧z.id≠x.id:=fun b z hz=>hB z (List.mem_filter.1 hz).1
 unfold linkB
 rw [hp,find_in h0 hx,if_pos ⟨rfl,h0,hlv,by omega⟩,if_neg (by omega),show (((i+1:Nat):Int)-1)=(i:Int) by omega,show ((i:Int)).toNat=i by omega,hL.1,hL.2,hR.1,hR.2]
 simp only
 by_cases hb:bitN x.word i=1
 ·rw [if_pos hb,hb]
  simp only
  rw [other_last h0 (subA 1),other_head h0 (subB 1)]
 ·have hb0:bitN x.word i=0:=by have:=bitN_lt x.word (i:Int);omega
  rw [if_neg hb,hb0]
  simp only
  rw [other_last h0 (subA 0),other_head h0 (subB 0)]
def RightB (N:List Nd) (st:Int→Pr) (i:Nat):Prop:=∀ x∈N,linkB N (st x.id) i=(neighN N x.id i).1
theorem near_next {st:Int→Pr} {p q:Pr} {h i:Nat} (hq:q.near=nextB N st p h) (hi:i<h):nearAt q i=stepB N st p i:=by
 unfold nearAt
 rw [hq]
 unfold nextB
 rw [List.getElem?_map,List.getElem?_range hi]
 rfl
theorem grp_same (hw:∀ x∈N,x.word<4294967296) {x u:Nd} {i:Nat} (hx:x∈N) (hu:u∈grpS N i x.word):grpS N i u.word=grpS N i x.word:=by
 obtain ⟨h1,h2⟩:=grp_mem.1 hu
 exact grp_eq hw (hw u h1) (hw x hx) h2
theorem near_of {p q:Pr} {i:Nat} (h:p.near=q.near):nearAt p i=nearAt q i:=by unfold nearAt;rw [h]
theorem climbA (h0:checkN N=0) (hw:∀ x∈N,x.word<4294967296) {h:Nat} (hh:h≤16) {S:Nat→Int→Pr} (hid:∀ t id,(S t id).id=id)
  (hnear:∀ t,∀ x∈N,∃ st:Int→Pr,(∀ y∈N,(st y.id).near=(S t y.id).near∨(st y.id).near=(S (t+1) y.id).near)∧(S (t+1) x.id).near=nextB N st (S t x.id) h) {T:Nat} (hR0:∀ t,T≤t→RightB N (S t) 0) :
  ∀ i,i≤h→∀ t,T+i*N.length≤t→RightB N (S t) i:=by
 intro i
 induction i with
 | zero=>intro _ t ht;exact hR0 t (by omega)
 | succ i ih =>
  intro hi t ht x hx
  have hR:=ih (by omega)
  have hne:1≤N.length:=by rcases N with _ | ⟨a,N⟩;cases hx;simp
  have hm:(i+1)*N.length=i*N.length+N.length:=by rw [Nat.add_mul,Nat.one_mul]
  -- by the number of nodes on the side
  have left:∀ r,∀ s,T+i*N.length+r+1≤s→∀ y∈N,∀ A B,grpS N i y.word=A++y::B→A.length≤r→(nearAt (S s y.id) i).1=lastI (A.filter (bitIs i 0))∧(nearAt (S s y.id) i).2.1=lastI (A.filter (bitIs i 1)):=by
   intro r
   induction r with
   | zero =>
    intro s hs y hy A B e hA
    obtain ⟨s',rfl⟩:∃ s',s=s'+1:=⟨s-1,by omega⟩
    obtain ⟨st,hst,hnx⟩:=hnear s' y hy
    rw [near_next hnx (by omega)]
    refine step_left h0 (by omega) hy (hid _ _) (hR s' (by omega) y hy) e fun A0 u he=>?_
    rw [he] at hA
    simp at hA
   | succ r ihr =>
    intro s hs y hy A B e hA
    obtain ⟨s',rfl⟩:∃ s',s=s'+1:=⟨s-1,by omega⟩
    obtain ⟨st,hst,hnx⟩:=hnear s' y hy
    rw [near_next hnx (by omega)]
    refine step_left h0 (by omega) hy (hid _ _) (hR s' (by omega) y hy) e fun A0 u he=>?_
    have hu:u∈grpS N i y.word:=by rw [e,he];simp
    have g1:grpS N i u.word=A0++u::(y::B):=by rw [grp_same hw hy hu,e,he];simp
    have g2:A0.length≤r:=by rw [he] at hA;simp at hA;omega
    rcases hst u (grp_mem.1 hu).1 with hn | hn
    ·rw [near_of hn];exact ihr s' (by omega) u (grp_mem.1 hu).1 A0 (y::B) g1 g2
    ·rw [near_of hn];exact ihr (s'+1) (by omega) u (grp_mem.1 hu).1 A0 (y::B) g1 g2
  have right:∀ r,∀ s,T+i*N.length+r+1≤s→∀ y∈N,∀ A B,grpS N i y.word=A++y::B→B.length≤r→(nearAt (S s y.id) i).2.2.1=headI (B.filter (bitIs i 0))∧(nearAt (S s y.id) i).2.2.2=headI (B.filter (bitIs i 1)):=by
   intro r
   induction r with
   | zero =>
    intro s hs y hy A B e hB
    obtain ⟨s',rfl⟩:∃ s',s=s'+1:=⟨s-1,by omega⟩
    obtain ⟨st,hst,hnx⟩:=hnear s' y hy
    rw [near_next hnx (by omega)]
    refine step_right h0 (by omega) hy (hid _ _) (hR s' (by omega) y hy) e fun u B0 he=>?_
    rw [he] at hB
    simp at hB
   | succ r ihr =>
    intro s hs y hy A B e hB
    obtain ⟨s',rfl⟩:∃ s',s=s'+1:=⟨s-1,by omega⟩
    obtain ⟨st,hst,hnx⟩:=hnear s' y hy
    rw [near_next hnx (by omega)]
    refine step_right h0 (by omega) hy (hid _ _) (hR s' (by omega) y hy) e fun u B0 he=>?_
    have hu:u∈grpS N i y.word:=by rw [e,he];simp
    have g1:grpS N i u.word=(A++[y])++u::B0:=by rw [grp_same hw hy hu,e,he];simp
    have g2:B0.length≤r:=by rw [he] at hB;simp at hB;omega
    rcases hst u (grp_mem.1 hu).1 with hn | hn
    ·rw [near_of hn];exact ihr s' (by omega) u (grp_mem.1 hu).1 (A++[y]) B0 g1 g2
    ·rw [near_of hn];exact ihr (s'+1) (by omega) u (grp_mem.1 hu).1 (A++[y]) B0 g1 g2
  obtain ⟨A,B,e⟩:=grp_at hx (h:=(i:Int)) (by unfold lvlN;simp;omega)
  have hlen:A.length+B.length+1≤N.length:=by
   have h1:(grpS N (i:Int) x.word).length≤(sortN N).length:=List.length_filter_le _ _
   rw [sortN_length,e] at h1
   simp at h1
   omega
  obtain ⟨s',rfl⟩:∃ s',t=s'+1:=⟨t-1,by omega⟩
  refine link_near h0 hw (by omega) hx (hid _ _) ?_ e (left (N.length-1) (s'+1) (by omega) x hx A B e (by omega)) (right (N.length-1) (s'+1) (by omega) x hx A B e (by omega))
  obtain ⟨st,_,hnx⟩:=hnear s' x hx
  rw [hnx]
  unfold nextB
  simp
  omega
end
variable {N:List Nd} {L:List Lkd} {key:List UInt8} {right:Bool}
theorem meas_down (x:Nd) (lev:Nat):measR N right x lev<measR N right x (lev+1):=by
 unfold measR
 rw [Nat.add_mul]
 omega
theorem RtSt.down {R:Nd×List Hop} {x:Nd} {lev:Nat} {out:List Hop} (h:RtSt N L key right R x (lev+1) out) (hh:hopN N L key right x lev=none):RtSt N L key right R x lev out:=by
 obtain ⟨f,h1,h2⟩:=h
 have hm:=meas_down (N:=N) (right:=right) x lev
 obtain ⟨f,rfl⟩:∃ g,f=g+1:=⟨f-1,by omega⟩
 refine ⟨f,by omega,?_⟩
 rw [← h2]
 show _=(match hopN N L key right x lev with | some y=>rtF N L key right f y (lev+1) (out++[(x.id,y.id,(lev:Int))]) | none=>rtF N L key right f x lev out)
 rw [hh]
variable {N:List Nd} {L:List Lkd} {key:List UInt8} {right:Bool}
theorem HopsOk.side {x':Nd}:∀ {hs:List Hop} {x:Nd} {lev:Nat},HopsOk N key right x' x lev hs→(if right then Op.bytesLess key x.key.toList=false else Op.bytesLess key x.key.toList=true)→(if right then Op.bytesLess key x'.key.toList=false else Op.bytesLess key x'.key.toList=true)
 | [],_,_,h,hk=>by rw [← show _=x' from h];exact hk
 | _::hs,x,_,⟨y,l',h1,h2,h3,h4,h5⟩,hk=>h5.side (by
   unfold DirN at h4
   cases right with
   | true=>rw [if_pos rfl] at h4 ⊢;exact h4.2
   | false=>rw [if_neg (by simp)] at h4 ⊢;exact h4.2)
theorem dlt_irrefl {right:Bool} (a:Nd):dlt right a a=false:=by
 cases right<;>exact bytesLess_irrefl _
theorem win_down {right:Bool} {key:List UInt8} {a b:Nd} (h:dlt right a b=true) (hw:win right key b=true):win right key a=true:=by
 cases right with
 | true =>
  have h:Op.bytesLess a.key.toList b.key.toList=true:=h
  have hw:(!Op.bytesLess key b.key.toList)=true:=hw
  show (!Op.bytesLess key a.key.toList)=true
  cases hk:Op.bytesLess key a.key.toList with
  | false=>rfl
  | true=>rw [bl_trans hk h] at hw;cases hw
 | false =>
  have h:Op.bytesLess b.key.toList a.key.toList=true:=h
  have hw:Op.bytesLess key b.key.toList=true:=hw
  exact bl_trans hw h
section
variable {N:List Nd} {L:List Lkd} {key:List UInt8} {right:Bool}
theorem sameN_le {a b:Nat} {h k:Int} (hs:sameN a b h=true) (hk:k≤h):sameN a b k=true:=by
 unfold sameN at *
 simp only [decide_eq_true_eq] at *
 omega
theorem CntSt.down (h0:checkN N=0) (hw:∀ x∈N,x.word<4294967296) {frm:Nd} (hf:frm∈N) {lev:Nat} (hl:lev+1≤16) {x:Nd} {q:Nat} (h:CntSt N key right frm (lev+1) x q) (hL:atL L x.id (lev+1:Nat)=(neighN N x.id (lev+1:Nat)).1) (hh:hopN N L key right x (lev+1)=none) :
  CntSt N key right frm lev x 0:=by
 have ho:=h.own hw hf
 have hm:=h.mem
 obtain ⟨P,A,Q,B,e1,e2,rfl,h3,h4,h5⟩:=h
 rw [hop_exact h0 hl hm.1 hL (by rw [ho];exact e1)] at hh
 have ha:=dir_asc (right:=right) (grp_asc h0 ((lev+1:Nat):Int) frm.word)
 rw [e1] at ha
 have ha2:=List.pairwise_append.1 ha
 have hxm:x∈dirL right (grpS N (lev:Int) frm.word):=dir_mem.2 (grp_mem.2 ⟨hm.1,sameN_le hm.2 (by omega)⟩)
 obtain ⟨P2,B2,f1⟩:=List.append_of_mem hxm
 have hb:=dir_asc (right:=right) (grp_asc h0 (lev:Int) frm.word)
 rw [f1] at hb
 have hb2:=(List.pairwise_cons.1 (List.pairwise_append.1 hb).2.1).1
 refine ⟨P2,P2++[x],[],B2,f1,by simp,rfl,by simp,fun z hz hwz=>?_,h5⟩
 have hxz:=hb2 z hz
 have hzN:z∈N:=(grp_mem.1 (dir_mem.1 (by rw [f1];simp [hz]))).1
 cases hbr:brkN frm lev z with
 | false=>rfl
 | true =>
  exfalso
  unfold brkN at hbr
  rcases Bool.or_eq_true_iff.1 hbr with h | h
  ·have hid:z.id=frm.id:=by simpa using h
   have hz2:z=frm:=ids_eq (check_keys h0) hzN hf hid
   rw [hz2] at hxz
   rcases h5 with rfl | h5
   ·rw [dlt_irrefl] at hxz;cases hxz
   ·have:=dlt_trans h5 hxz
    rw [dlt_irrefl] at this;cases this
  ·have hzG:z∈dirL right (grpS N ((lev+1:Nat):Int) frm.word):=dir_mem.2 (grp_mem.2 ⟨hzN,sameN_symm (by rw [show ((lev+1:Nat):Int)=(lev:Int)+1 by omega];exact h)⟩)
   rw [e1] at hzG
   have hzB:z∈B:=by
    rcases List.mem_append.1 hzG with h | h
    ·have:=ha2.2.2 z h x (by simp)
     have:=dlt_trans this hxz
     rw [dlt_irrefl] at this;cases this
    ·rcases List.mem_cons.1 h with h | h
     ·rw [h,dlt_irrefl] at hxz;cases hxz
     ·exact h
   cases B with
   | nil=>cases hzB
   | cons y B =>
    rw [nextW_cons] at hh
    split at hh
    ·cases hh
    ·rename_i hwn
     rcases List.mem_cons.1 hzB with h | h
     ·rw [h] at hwz;exact hwn hwz
     ·exact hwn (win_down ((List.pairwise_cons.1 (List.pairwise_cons.1 ha2.2.1).2).1 z h) hwz)
end
section
variable {N:List Nd}
theorem right_zero (h0:checkN N=0) {P:List Pr} (he:exactL N P):RightB N (peerN P) 0:=by
 intro x hx
 have hpid:=peer_id P x.id
 obtain ⟨A,B,e⟩:=grp_at hx (h:=((0:Nat):Int)) rfl
 obtain ⟨hA,hB⟩:=grp_parts h0 e
 have hn:=neigh_split h0 hx (h:=((0:Nat):Int)) rfl e
 have hx2:=he.2 x hx
 rw [hn] at hx2 ⊢
 simp only [Prod.mk.injEq] at hx2
 unfold linkB
 rw [hpid,find_in h0 hx,if_pos ⟨rfl,h0,rfl,by omega⟩,if_pos (show ((0:Nat):Int)=0 from rfl)]
 simp only
 rw [hx2.1,hx2.2,other_last h0 hA,other_head h0 hB]
theorem links_build (h0:checkN N=0) {h:Nat} (hh:h≤16) {P:List Pr} (hR:∀ i,i≤h→RightB N (peerN P) i):linksB N P (h:Int)=(buildN N (h:Int)).1:=by
 unfold linksB buildN normalN
 have hlv:lvlN (h:Int)=true:=by unfold lvlN;simp;omega
 rw [if_pos hlv,if_pos h0,if_neg (show ¬ (checkN N==0)=false by rw [h0];simp),if_neg (show ¬ lvlN (h:Int)=false by rw [hlv];simp),List.map_map]
 refine List.map_congr_left fun x hx=>?_
 have hxN:=(sortN_mem N x).1 hx
 have h0s:checkN (sortN N)=0:=check_perm (sortN_perm N) h0
 show ((peerN P x.id).id,_)=rowN (sortN N) _ x
 unfold rowN
 rw [peer_id,show ((h:Int)).toNat=h by omega]
 congr 1
 refine List.map_congr_left fun i hi=>?_
 have hi:i<h+1:=by simpa using hi
 rw [hR i (by omega) x hxN]
 have hlv:lvlN (i:Int)=true:=by unfold lvlN;simp;omega
 obtain ⟨A,B,e⟩:=grp_at hxN hlv
 have es:grpS (sortN N) i x.word=A++x::B:=by
  unfold grpS at e ⊢
  rw [sort_perm (sortN_perm N) h0];exact e
 rw [neigh_split h0 hxN hlv e,neigh_split h0s hx hlv es]
theorem exact_yes (h0:checkN N=0) {h:Nat} (hh:h≤16) {P:List Pr} (hR:∀ i,i≤h→RightB N (peerN P) i):exactB N P (h:Int)=true:=by
 unfold exactB
 rw [links_build h0 hh hR,(build_ok0 h0 hh).1]
 simp
theorem reach_lawA (hw:∀ x∈N,x.word<4294967296) {h:Nat} (hh:h≤16) {P:Nat→List Pr} (hc:ConnN N (P 0)) (hk:∀ t,∀ a∈N,∀ v∈(peerN (roundN N (P t)) a.id).known,v∈(peerN (P (t+1)) a.id).known)
  (hlr:∀ t,∀ a∈N,((peerN (P (t+1)) a.id).left,(peerN (P (t+1)) a.id).right)=keepN N (peerN (P t) a.id))
  (hnear:∀ t,∀ a∈N,∃ st:Int→Pr,(∀ y∈N,(st y.id).near=(peerN (P t) y.id).near∨(st y.id).near=(peerN (P (t+1)) y.id).near)∧(peerN (P (t+1)) a.id).near=nextB N st (peerN (P t) a.id) h) :
  ∀ t,N.length*(h+1)≤t→exactB N (P t) (h:Int)=true:=by
 intro t ht
 have h0:=hc.1
 refine exact_yes h0 hh fun i hi=>?_
 refine climbA h0 hw hh (S:=fun t=>peerN (P t)) (fun t id=>peer_id _ _) (fun t x hx=>hnear t x hx) (T:=N.length) (fun t ht=>right_zero h0 (sort_law hc hk hlr t ht)) i hi t ?_
 have h1:N.length*(i+1)≤N.length*(h+1):=Nat.mul_le_mul_left _ (by omega)
 rw [Nat.mul_add,Nat.mul_one,Nat.mul_comm] at h1
 omega
end
theorem Exb.nxb' {g:Nat} {wk wp wq wz:World} (h:Exb g wk wp) (k:Exb g wp wq) (c:Chg (· < wk.heap.size) wq wz):Exb g wk wz :=
 Chg.trans (h.nxb k) (Chg.mono c fun _ hk=>hk.1)
section
variable {N:List Nd} {f g:Fl}
theorem next_known (h0:checkN N=0) {f q g q' g':Fl} {h:Nat} (b:Between N f q g h) (b':Between N g q' g' h) {x:Nd} (hx:x∈N) {v:Int} (hv:v∈(peerN (roundN N q.peers) x.id).known):v∈(peerN q'.peers x.id).known:=by
 obtain ⟨hvN,hne,hh⟩:=(known_iff h0 hx).1 hv
 rw [((b'.1 x hx).2.2.2 v hvN hne)]
 obtain ⟨st,_,hg⟩:=b.2.1 x hx
 rw [hg]
 have hord:∀ l:List Int,v∈l→v∈ordN N l (peerN q.peers x.id).id:=fun l hl=>mem_ord.2 ⟨hvN,by rw [peer_id];exact hne,hl⟩
 rcases hh with h | h | ⟨c,hc,hm⟩
 ·exact .inl (hord _ (by rw [h];simp))
 ·exact .inl (hord _ (by rw [h];simp))
 ·exact .inr ((b.2.2 _).2 ⟨c,hc,hm⟩)
theorem between_conn {f q g:Fl} {h:Nat} (b:Between N f q g h) (hc:ConnF N f):ConnN N q.peers:=by
 have h0:=hc.1
 refine ⟨h0,fun x hx y hy=>(hc.2 x hx y hy).mono fun a c e=>?_⟩
 have more:∀ z∈N,∀ v,nodeB N v→v≠z.id→v∈numsP (peerN f.peers z.id)∨(z.id,v)∈f.msgs→v∈refsN N (peerN q.peers z.id):=by
  intro z hz v hv hne hh
  obtain ⟨h1,h2,h3,h4⟩:=b.1 z hz
  refine (mem_refs h0).2 ⟨hv,by rw [peer_id];exact hne,?_⟩
  unfold numsP
  rw [h1,h2,h3,List.mem_append,List.mem_append,h4 v hv hne]
  rcases hh with h | h
  ·unfold numsP at h
   rw [List.mem_append,List.mem_append] at h
   rcases h with (h | h) | h
   ·exact .inl (.inl (.inl h))
   ·exact .inl (.inr h)
   ·exact .inr h
  ·exact .inl (.inl (.inr h))
 rcases e with ⟨⟨z,hz,rfl⟩,hv⟩ | ⟨hm,⟨z,hz,rfl⟩,hcN⟩
 ·obtain ⟨h1,h2,h3⟩:=(mem_refs h0).1 hv
  rw [peer_id] at h2
  exact Cl.one (.inl ⟨⟨z,hz,rfl⟩,more z hz _ h1 h2 (.inl h3)⟩)
 ·by_cases he:c=z.id
  ·rw [he];exact .refl _
  ·exact Cl.one (.inl ⟨⟨z,hz,rfl⟩,more z hz _ hcN he (.inr hm)⟩)
theorem exactB_congr {P Q:List Pr} {h:Nat} (hP:∀ x∈N,(peerN P x.id).left=(peerN Q x.id).left∧(peerN P x.id).right=(peerN Q x.id).right∧(peerN P x.id).near=(peerN Q x.id).near):exactB N P (h:Int)=exactB N Q (h:Int):=by
 have hl:linksB N P (h:Int)=linksB N Q (h:Int):=by
  unfold linksB
  split
  ·unfold normalN
   split
   ·rw [List.map_map,List.map_map]
    refine List.map_congr_left fun x hx=>?_
    obtain ⟨h1,h2,h3⟩:=hP x ((sortN_mem N x).1 hx)
    refine Prod.ext ?_ ?_
    ·show (peerN P x.id).id=(peerN Q x.id).id
     rw [peer_id,peer_id]
    ·refine List.map_congr_left fun i _=>?_
     unfold linkB nearAt
     rw [peer_id,peer_id,h1,h2,h3]
   ·rfl
  ·rfl
 unfold exactB
 rw [hl]
theorem flight_law (hw:∀ x∈N,x.word<4294967296) {h:Nat} (hh:h≤16) {F:Nat→Fl} (hc:ConnF N (F 0)) (hr:∀ t,∃ ms ts,F (t+1)=roundF N (F t) ms ts h) (t:Nat) (ht:N.length*(h+1)≤t):exactB N (F t).peers (h:Int)=true:=by
 have h0:=hc.1
 have hb:∀ t,∃ q,Between N (F t) q (F (t+1)) h:=fun t=>by
  obtain ⟨ms,ts,e⟩:=hr t
  rw [e]
  exact round_law h0 hh (F t) ms ts
 obtain ⟨Q,hQ⟩:∃ Q:Nat→Fl,∀ t,Between N (F t) (Q t) (F (t+1)) h:=⟨fun t=>(hb t).choose,fun t=>(hb t).choose_spec⟩
 have hcongr:exactB N (F t).peers (h:Int)=exactB N (Q t).peers (h:Int):=exactB_congr fun x hx=>by
  obtain ⟨h1,h2,h3,_⟩:=(hQ t).1 x hx
  exact ⟨h1.symm,h2.symm,h3.symm⟩
 rw [hcongr]
 refine reach_lawA hw hh (P:=fun t=>(Q t).peers) (between_conn (hQ 0) hc) (fun t a ha v hv=>next_known h0 (hQ t) (hQ (t+1)) ha hv) (fun t a ha=>?_) (fun t a ha=>?_) t ht
 ·obtain ⟨st,_,hg⟩:=(hQ t).2.1 a ha
  obtain ⟨h1,h2,_,_⟩:=(hQ (t+1)).1 a ha
  rw [h1,h2,hg]
  rfl
 ·obtain ⟨st,h1,hg⟩:=(hQ t).2.1 a ha
  obtain ⟨_,_,h3,_⟩:=(hQ (t+1)).1 a ha
  refine ⟨st,fun y hy=>?_,?_⟩
  ·rcases h1 y hy with h | h
   ·exact .inl h
   ·exact .inr (by rw [h,((hQ (t+1)).1 y hy).2.2.1])
  ·rw [h3,hg]
   rfl
end
theorem allocFb {b:Nat} {wp u:World} (h:Exb b wp u) (t:TK u b):∃ g v,g=u.heap.size∧v=u.alloc (.cells #[.slice none 0 0,.slice none 0 0] 27)∧Blk v g [.slice none 0 0,.slice none 0 0] 27∧Ex u v∧wp.heap.size≤g∧¬ g=b :=
 ⟨_,_,rfl,rfl,Blk.new _ _ _,Ex.new _ _,h.size,by have:=t.lt;omega⟩
theorem storeFb {b:Nat} {wp u:World} {g:Nat} {x0 y0:Value} (B:Blk u g [x0,y0] 27) (h:Exb b wp u) (hz:wp.heap.size≤g) (x y:Value) :
  ∃ wz,wz=(u.setCell ⟨g,0,none⟩ x).setCell ⟨g,1,none⟩ y∧Blk wz g [x,y] 27∧Exb g u wz∧Exb b wp wz :=
 ⟨_,rfl,(B.set 0 x).set 1 y,((Exb.refl g u).setB (p:=⟨g,0,none⟩) _ rfl).setB (p:=⟨g,1,none⟩) _ rfl,(h.setNew (p:=⟨g,0,none⟩) _ hz).setNew (p:=⟨g,1,none⟩) _ hz⟩
section
variable {N:List Nd} {f g:Fl}
inductive RunsF (N:List Nd) (h:Nat) (f:Fl):Nat→Fl→Prop
 | zero:RunsF N h f 0 f
 | step {t:Nat} {g:Fl} (ms ts:List Int) (hg:RunsF N h f t g):RunsF N h f (t+1) (roundF N g ms ts h)
def iterF (N:List Nd) (h:Nat) (f:Fl):Nat→Fl
 | 0=>f
 | n+1=>roundF N (iterF N h f n) [] [] h
theorem RunsF.seq {h t:Nat} (hr:RunsF N h f t g):∃ F:Nat→Fl,F 0=f∧(∀ t,∃ ms ts,F (t+1)=roundF N (F t) ms ts h)∧F t=g:=by
 induction hr with
 | zero=>exact ⟨iterF N h f,rfl,fun t=>⟨[],[],rfl⟩,rfl⟩
 | @step t g ms ts _ ih =>
  obtain ⟨F,h1,h2,h3⟩:=ih
  refine ⟨fun i=>if i≤t then F i else iterF N h (roundF N g ms ts h) (i-t-1),?_,fun i=>?_,?_⟩
  ·simp [h1]
  ·by_cases hi:i+1≤t
   ·obtain ⟨a,b,e⟩:=h2 i
    exact ⟨a,b,by simp only [if_pos hi,if_pos (show i≤t by omega)];exact e⟩
   ·by_cases hit:i=t
    ·subst hit
     exact ⟨ms,ts,by simp [iterF,h3,show ¬ i+1≤i by omega]⟩
    ·refine ⟨[],[],?_⟩
     simp only [if_neg hi,if_neg (show ¬ i≤t by omega)]
     rw [show i+1-t-1=(i-t-1)+1 by omega]
     rfl
  ·simp [iterF,show ¬ t+1≤t by omega]
theorem runs_exact (hw:∀ x∈N,x.word<4294967296) {h t:Nat} (hh:h≤16) (hc:ConnF N f) (hr:RunsF N h f t g) (ht:N.length*(h+1)≤t):exactB N g.peers (h:Int)=true:=by
 obtain ⟨F,h1,h2,h3⟩:=hr.seq
 rw [← h3]
 exact flight_law hw hh (F:=F) (by rw [h1];exact hc) h2 t ht
end
def lrow (N:List Nd) (h:Nat) (p:Pr):Lkd:=(p.id,(List.range (h+1)).map fun (lev:Nat)=>linkB N p lev)
theorem links_eq {N:List Nd} {P:List Pr} {h:Nat} (hh:h≤16):linksB N P h=(normalN N P).map (lrow N h):=by
 unfold linksB
 rw [if_pos (lvl_of (by omega) (by omega))]
 rfl
theorem links_no {N:List Nd} {P:List Pr} {h:Int} (hh:lvlN h=false):linksB N P h=[]:=by unfold linksB;rw [if_neg (by rw [hh];simp)]
theorem litLk {w0 u:World} (_:Ex w0 u) (y:Int×Int):∃ g v,g=u.heap.size∧v=u.alloc (.cells #[.int .i64 y.1,.int .i64 y.2] 100)∧Sl 2 encS v (some ⟨g,0,none⟩) 1 [y]∧Ex u v :=
 ⟨_,_,rfl,rfl,Sl.lit [y] rfl rfl (fun _=>rfl) rfl,Ex.new _ _⟩
def LsPost (L:List Lkd) (w:World) (en:Ending) (w':World):Prop:=∃ (v:Value) (qs:List (Int×Hdr)),en=.returned v∧OwnLk w.heap.size w' v qs L∧Ex w w'
def LoRel (N:List Nd) (Q:List Pr) (h:Nat) (w:World) (o i:Value) (wr:World):Prop :=
 ∃ (j:Nat) (qs:List (Int×Hdr)),j≤Q.length∧i=.int .i64 j∧OwnLk w.heap.size wr o qs ((Q.take j).map (lrow N h))∧Ex w wr
def LiRel (N:List Nd) (p:Pr) (h g:Nat) (w:World) (i:Value) (wr:World):Prop :=
 ∃ (lev:Nat) (A:Option Addr) (m c:Nat),lev≤h+1∧i=.int .i64 lev∧Blk wr g [.int .i64 p.id,.slice A m c] 109∧OwnL 2 encS 100 w.heap.size wr (.slice A m c) ((List.range lev).map fun (lev:Nat)=>linkB N p lev)∧Exb g w wr
set_option maxRecDepth 100000 in
set_option maxHeartbeats 8000000 in
theorem links_p (a:Option Addr) (n c:Nat) (N:List Nd) (a2:Option Addr) (n2 c2:Nat) (P:List Pr) (hh:Int) (w:World) (h:Sl 3 encN w a n N) (hn:n≤1000) (hc:n≤c) (hm:c≤maxLen) (hw:∀ x∈N,x.word<4294967296) (h2:PL w a2 n2 P) (hn2:n2≤4000000000000000000) (hP:SmallP P) :
  Calls Tryz.prog 105 #[.slice a n c,.slice a2 n2 c2,.int .i64 hh] w (LsPost (linksB N P hh) w):=by
 have HL:=lH h.len
 have HW:=lH hw
 clear hw
 have NO:Hid (lvlN hh=false→LsPost (linksB N P hh) w (.returned (.slice none 0 0)) w):=lH (fun h=>by
  rw [links_no h]
  exact ⟨_,[],rfl,OwnN.nil _ _ _ _ _ _ _ _,Ex.refl _⟩)
 by_cases h0:hh<0
 ·have FI:=lH (NO.out (by unfold lvlN;simp;omega))
  clear h h2 hP NO
  go_enter Tryz.func105,Tryz.ntmps105
  go_wp2_with fail
  go_ret
  exact FI.out
 by_cases h1:hh>16
 ·have FI:=lH (NO.out (by unfold lvlN;simp;omega))
  clear h h2 hP NO
  go_enter Tryz.func105,Tryz.ntmps105
  go_wp2_with fail
  go_ret
  exact FI.out
 obtain ⟨k,rfl⟩:=Int.eq_ofNat_of_zero_le (show 0≤hh by omega)
 have hk16:k≤16:=by omega
 have HR:=lH (links_eq (N:=N) (P:=P) hk16)
 clear NO
 go_enter Tryz.func105,Tryz.ntmps105
 go_wp2_with fail
 (with_reducible refine (normal_p _ _ _ N _ _ _ P _ h hn hc hm h2 hn2 hP).mono ?_)
 rintro e w3 ⟨v3,qs,rfl,OQ,kk⟩
 replace h:=h.nx kk
 clear h2
 have K03:=lH kk
 obtain ⟨hQ1,hQ2⟩:=normal_le N P
 have HQS:=lH (normal_small N hP)
 generalize normalN N P=Q at OQ hQ1 hQ2 HR HQS
 obtain ⟨aQ,cQ,rfl,PQ0,_,_,_,_⟩:=OQ.pl
 have HPQ:=lH PQ0
 have hQn:Q.length≤n:=by have:=HL.out;omega
 have hz3:=kk.size
 have HS:=lH h
 clear OQ PQ0 kk hQ1 hQ2 hP h
 go_wp2_with fail
 go_loopw [7,22] (fun o i wr=>LoRel N Q k w3 o i wr) (fun _ i _=>Q.length-(intOf i).toNat)
 case atStart=>exact ⟨0,[],by omega,rfl,OwnN.nil _ _ _ _ _ _ _ _,Ex.refl _⟩
 case round =>
  obtain ⟨j,qz,hj,rfl,own,ki⟩:=hrel
  obtain ⟨wi,rfl⟩:∃ wi:World,wi=wr:=⟨_,rfl⟩
  by_cases hjm:j<Q.length
  ·obtain ⟨x5,o5,b1,m1,d1,b4,m4,d4,y,rfl,hx5,hy,e0,e1,e2,e3,e4,s1,s4⟩:=(HPQ.out.nx ki).rd hjm
   have ET:Hid ((Q.take (j+1)).map (lrow N k)=(Q.take j).map (lrow N k)++[(y.id,(List.range (k+1)).map fun (lev:Nat)=>linkB N y lev)]):=lH (by rw [List.take_add_one,hy,List.map_append];rfl)
   have hyP:=HQS.out y (List.mem_of_getElem? hy)
   have hql:qz.length=j:=by rw [own.2.1,List.length_map,List.length_take];omega
   have hl4:m4≤4000000000000000000:=by have:=s4.len;omega
   have hwi:=ki.size
   have S4y:=lH s4
   have KI:=lH ki
   have OWN:=lH own
   clear hy own ki hyP s1 s4
   have B9:=Blk.new wi [.int .i64 y.id,.slice b1 m1 d1,.int .i64 y.left,.int .i64 y.right,.slice b4 m4 d4] 36
   have kk:=Ex.new wi (.cells #[.int .i64 y.id,.slice b1 m1 d1,.int .i64 y.left,.int .i64 y.right,.slice b4 m4 d4] 36)
   obtain ⟨w7,hw7⟩:∃ w7,w7=wi.alloc (.cells #[.int .i64 y.id,.slice b1 m1 d1,.int .i64 y.left,.int .i64 y.right,.slice b4 m4 d4] 36):=⟨_,rfl⟩
   obtain ⟨g9,hg9⟩:∃ g9,g9=wi.heap.size:=⟨_,rfl⟩
   replace B9:Blk w7 g9 [.int .i64 y.id,.slice b1 m1 d1,.int .i64 y.left,.int .i64 y.right,.slice b4 m4 d4] 36:=by rw [hw7,hg9];exact B9
   rw [← hw7] at kk
   have Hw7:=lH hw7
   have Hg9:=lH hg9
   have zg9:wi.heap.size≤g9:=by omega
   have K7:=lH kk
   clear kk hw7 hg9
   go_upto_region 7 with fail
   rw [← Hg9.out,← Hw7.out]
   clear Hg9 Hw7
   clear e0 e1 e2 e3 e4
   have p0:=B9.cell 0 _ rfl
   have hg9l:=B9.lt
   have B10:=Blk.new w7 [.int .i64 y.id,.slice none 0 0] 109
   have kk:=Ex.new w7 (.cells #[.int .i64 y.id,.slice none 0 0] 109)
   obtain ⟨w8,hw8⟩:∃ w8,w8=w7.alloc (.cells #[.int .i64 y.id,.slice none 0 0] 109):=⟨_,rfl⟩
   obtain ⟨g10,hg10⟩:∃ g10,g10=w7.heap.size:=⟨_,rfl⟩
   replace B10:Blk w8 g10 [.int .i64 y.id,.slice none 0 0] 109:=by rw [hw8,hg10];exact B10
   rw [← hw8] at kk
   have Hw8:=lH hw8
   have Hg10:=lH hg10
   replace B9:=B9.nx kk
   have zg10:w7.heap.size≤g10:=by omega
   have n910:¬ g9=g10:=by omega
   have zgi:wi.heap.size≤g10:=by have:=K7.out.size;omega
   have K8:=lH (K7.out.nx kk)
   clear kk hw8 hg10
   go_upto_region 8 with fail
   rw [← Hg10.out,← Hw8.out]
   clear Hg10 Hw8
   clear p0
   have B9s:=lH B9
   have hgk:=B10.lt
   have hwk:IntKind.i64.wrap ((k:Int)+1)=(k:Int)+1:=IntWalk.i64_in _ (by omega)
   clear B9
   go_wp2_with fail
   go_loopw [31] (fun i wr=>LiRel N y k g10 w8 i wr) (fun i _=>k+1-(intOf i).toNat)
   case atStart=>exact ⟨0,none,0,0,by omega,rfl,B10,OwnL.nil _ _ _ _ _,Exb.refl _ _⟩
   case round =>
    clear B10
    obtain ⟨lev,A,m,cc,hlev,rfl,BR,lrw,kv⟩:=hrel
    obtain ⟨wp,rfl⟩:∃ wp:World,wp=wr:=⟨_,rfl⟩
    have KV:=lH (Exl.nxb (b:=g10) (w:=wi) ⟨K8.out,zgi⟩ kv).1
    by_cases hl2:lev≤k
    ·have SP:=lH (HS.out.nx (KI.out.nx KV.out))
     have SN4:=lH (S4y.out.nx KV.out)
     have KVV:=lH kv
     have NSN:Hid (((List.range (lev+1)).map fun (lev:Nat)=>linkB N y lev)=((List.range lev).map fun (lev:Nat)=>linkB N y lev)++[linkB N y lev]):=lH (by rw [List.range_succ,List.map_append];rfl)
     have hrl:((List.range lev).map fun (lev:Nat)=>linkB N y lev).length=lev:=by simp
     generalize hyy:linkB N y lev=yy at NSN
     have HYY:=lH hyy
     generalize ((List.range lev).map fun (lev:Nat)=>linkB N y lev)=row at lrw NSN hrl
     have BPP:=lH BR
     have NROW:=lH lrw
     have zk:=kv.size
     clear hyy lrw kv BR
     have BN:=lH (B9s.out.nxb n910 KVV.out)
     have hlk:(lev:Int)<(k:Int)+1:=by omega
     go_upto_region 11 with fail
     refine wp_region_late_drew (S:=Ex wp) [7,8,9] (by kernel_rfl) ((Ex.refl wp).drew) (fun hHeld=>?_)
     obtain ⟨wd,hwdx⟩:∃ wd:World,wd=World.drew wp:=⟨_,rfl⟩
     rw [← hwdx] at hHeld ⊢
     have hDrew:Ex wp wd:=by rw [hwdx];exact (Ex.refl wp).drew
     clear hwdx
     refine tkL 0 (v:=?_) rfl (by kernel_rfl) (fun _ _ _ h=>h) (by rfl) ?y1x0q5 (by assumption) ?z1x0q5
     case y1x0q5=>intro wq hSw;(go_simp);(try with_reducible rfl)
     refine tkL 1 (v:=?_) rfl (by kernel_rfl) (fun _ _ _ h=>h) (by rfl) ?y1x1q8 (by assumption) ?z1x1q8
     case y1x1q8=>intro wq hSw;(have cq:=(BPP.out.nx hSw).cell 1 _ rfl;go_simp);(try with_reducible rfl)
     refine tkL 2 (v:=?_) rfl (by kernel_rfl) (fun _ _ _ h=>h) (by rfl) ?y1x2q11 (by assumption) ?z1x2q11
     case y1x2q11=>intro wq hSw;(go_simp);(try with_reducible rfl)
     refine tkL 3 (v:=?_) rfl (by kernel_rfl) (fun _ _ _ h=>h) (by rfl) ?y1x3q14 (by assumption) ?z1x3q14
     case y1x3q14=>intro wq hSw;(have B:=BN.out.nx hSw;have c0:=B.cell 0 _ rfl;have c1:=B.cell 1 _ rfl;have c2:=B.cell 2 _ rfl;have c3:=B.cell 3 _ rfl;have c4:=B.cell 4 _ rfl;go_simp);(try with_reducible rfl)
     refine tkL 4 (v:=?_) rfl (by kernel_rfl) (fun _ _ _ h=>h) (by rfl) ?y1x4q17 (by assumption) ?z1x4q17
     case y1x4q17=>intro wq hSw;(go_simp);(try with_reducible rfl)
     refine wpAnyL_ready (rs:=[5]) (by kernel_rfl) (by simp) ?_
     refine AllReadyL.cons (o:=⟨_,_,_,_,_,_⟩) rfl (fun K hK=>?_) AllReadyL.nil
     go_simp
     (with_reducible refine (link_p _ _ _ N y _ _ _ _ _ _ (lev:Int) _ (SP.out.nx hHeld) hn hc hm HW.out (SN4.out.nx hHeld) hl4).mono ?_)
     rintro e wq ⟨rfl,kk⟩
     rw [HYY.out]
     replace hHeld:=hHeld.nx kk
     clear kk
     refine hK.out _ _ (hHeld) (fun hHeld=>?_)
     clear hK K
     refine wpAnyL_ready (rs:=[6]) (by kernel_rfl) (by simp) ?_
     refine AllReadyL.cons (o:=⟨_,_,_,_,_,_⟩) rfl (fun K hK=>?_) AllReadyL.nil
     go_simp
     obtain ⟨g8,wq2,hg8,hwq2,SX,kk⟩:=litLk hHeld yy
     rw [← hg8,← hwq2]
     replace hHeld:=hHeld.nx kk
     clear hg8 hwq2 kk
     refine hK.out _ _ (hHeld) (fun hHeld=>?_)
     clear hK K
     refine wpAnyL_ready (rs:=[7]) (by kernel_rfl) (by simp) ?_
     refine AllReadyL.consL (o:=⟨_,_,_,_,_,_⟩) rfl (by rfl) (fun K hK=>?_) AllReadyL.nil
     rw [if_pos (by rfl)]
     have own4:=NROW.out.nx hHeld
     refine wp_append_rd (enc:=encS) _ (.tmp 35) (.tmp 40) 107 rfl w8.heap.size 100 (.agg #[.int .i64 0,.int .i64 0]) 2 16 Tryz.underlying107 Tryz.infoLk rfl (by omega) (by omega) _ row own4 rfl _ _ 1 1 [yy] SX (fun h=>by cases h) (fun _=>rfl) (by simp [encS,Value.oneCell']) rfl (by omega) (by omega) (Nat.le_trans zk hHeld.size) ?_
     intro v9 wz own9 ch0 ch1
     obtain ⟨A9,C9,e9,_⟩:=own9.rd (fun _=>rfl)
     rw [show (row++[yy]).length=lev+1 by rw [List.length_append,hrl];rfl] at e9
     subst e9
     have BZ:=(BPP.out.nx hHeld).low hgk ch1
     have KQ:Exb g10 w8 wz:=KVV.out.nxb' (hHeld.b g10) ch1
     refine hK.out _ _ ?_
     clear hK K
     refine wpAnyL_ready (rs:=[8]) (by kernel_rfl) (by simp) ?_
     refine AllReadyL.consL (o:=⟨_,_,_,_,_,_⟩) rfl (by rfl) (fun K hK=>?_) AllReadyL.nil
     go_simp
     refine hK.out _ _ ?_
     clear hK K
     refine wpAnyL_ready (rs:=[9]) (by kernel_rfl) (by simp) ?_
     refine AllReadyL.consL (o:=⟨_,_,_,_,_,_⟩) rfl (by rfl) (fun K hK=>?_) AllReadyL.nil
     have c4:=BZ.cell 1 _ rfl
     have f4:=BZ.free 1
     go_simp
     clear c4 f4
     refine hK.out _ _ ?_
     clear hK K
     refine wpAnyL_done (by kernel_rfl) ?_ _
     have BY:=BZ.set 1 (.slice A9 (lev+1) C9)
     have K9:Exb g10 w8 (wz.setCell ⟨g10,1,none⟩ (.slice A9 (lev+1) C9)):=KQ.setB (p:=⟨g10,1,none⟩) _ rfl
     have own8:=lH (own9.put BZ (by decide) ((Exb.refl g10 wz).setB (p:=⟨g10,1,none⟩) (.slice A9 (lev+1) C9) rfl))
     have RR:=lH (show LiRel N y k g10 w8 (.int .i64 ((lev:Int)+1)) (wz.setCell ⟨g10,1,none⟩ (.slice A9 (lev+1) C9)) from ⟨lev+1,A9,_,C9,by omega,by go_num,BY,by rw [NSN.out];exact own8.out,K9⟩)
     clear BY K9 own8 own9 BZ KQ ch0 ch1 hHeld own4 SX
     go_wp2_with fail
     exact ⟨RR.out,by simp [intOf];omega⟩
    ·obtain rfl:lev=k+1:=by omega
     have p0:=BR.cell 0 _ rfl
     have p1:=BR.cell 1 _ rfl
     obtain ⟨A,cc,e9,_⟩:=lrw.rd (fun _=>rfl)
     cases e9
     have OQ1:=OWN.out.nx KV.out
     have KW:Ex wi wp:=KV.out
     have hzi:w3.heap.size≤w8.heap.size:=by have:=K8.out.size;omega
     have hzp:w3.heap.size≤wp.heap.size:=Nat.le_trans hzi kv.size
     have hlk:¬ (((k+1:Nat):Int)<(k:Int)+1):=by omega
     have FR:∀ (j:Nat) (r:Int×Hdr) (g:Nat),qz[j]?=some r→r.2.val.ownBlock=some g→¬ (Value.slice A ((List.range (k+1)).map fun (lev:Nat)=>linkB N y lev).length cc).ownBlock=some g:=by
      intro j r g hr hg hv
      have h1:=OWN.out.lt hr hg
      have h2:=(lrw.lt g hv).1
      have h3:=K8.out.size
      omega
     generalize ((List.range (k+1)).map fun (lev:Nat)=>linkB N y lev)=row at lrw p1 FR ET
     have k8:=Ex.new wp (.cells #[.int .i64 y.id,.slice A row.length cc] 109)
     have SX:Sl 2 (encP encI) (wp.alloc (.cells #[.int .i64 y.id,.slice A row.length cc] 109)) (some ⟨wp.heap.size,0,none⟩) 1 [((y.id,(A,row.length,cc)):Int×Hdr)]:=Sl.lit _ rfl rfl (fun _=>rfl) rfl
     have OQ2:=OQ1.nx k8
     have own2:=lrw.nx k8
     have ki8:=(KI.out.nx KW).nx k8
     clear BR kv hlev hl2 lrw
     go_wp2_with (at_builtin;(refine wpList_append_W (enc:=encP encI) _ rfl _ _ 61 rfl w3.heap.size 109 (.agg #[.int .i64 0,.slice none 0 0]) 2 32 Tryz.underlying61 Tryz.infoLd rfl (by omega) (by omega) _ _ OQ2.1 rfl _ 1 1 [_] SX (fun _=>rfl) (by simp [encP,encI,Hdr.val,Value.oneCell']) rfl (by omega) (by omega) (by simp;omega) ?_);intro v7 w9 own7 ch0 ch1 _)
     have OQ7:=OQ2.push (by decide) own7 ch0 (own2.base (by omega)) FR
     exact ⟨⟨j+1,qz++[((y.id,(A,row.length,cc)):Int×Hdr)],by omega,by go_num,by rw [ET.out];exact OQ7,Chg.trans ki8 ch1⟩,by simp [intOf];omega⟩
  ·obtain rfl:j=Q.length:=by omega
   rw [List.take_length] at own
   have OWN:=lH (OwnN.base own hz3)
   have KI:=lH (K03.out.nx ki)
   clear own ki hj hjm
   go_wp2_with fail
   go_ret
   exact ⟨_,qz,rfl,by rw [HR.out];exact OWN.out,KI.out⟩
def SmRel (L M:List Lkd) (n:Nat) (w:World) (i:Value) (wr:World):Prop:=∃ k:Nat,k≤n∧i=.int .i64 k∧Ex w wr∧L.take k=M.take k
def SvRel (r s:List (Int×Int)) (n:Nat) (w:World) (i:Value) (wr:World):Prop:=∃ k:Nat,k≤n∧i=.int .i64 k∧Ex w wr∧r.take k=s.take k
theorem take_snoc_eq {α:Type} {L M:List α} {k:Nat} {c d:α} (h:L.take k=M.take k) (hc:L[k]?=some c) (hd:M[k]?=some d) (he:c=d):L.take (k+1)=M.take (k+1):=by
 rw [List.take_add_one,List.take_add_one,h,hc,hd,he]
theorem ne_at {α:Type} {L M:List α} {k:Nat} {c d:α} (hc:L[k]?=some c) (hd:M[k]?=some d) (he:c≠d):¬ L=M:=by
 intro h
 rw [h,hd] at hc
 exact he (Option.some.inj hc).symm
end Go.Proofs.YthdkeibapcaclaaGreatDoor
