/- Shared texts. -/
import Derived.Test.YtalmjklljofhbaaGreatDoorSxAll11
import Derived.Test.YtalmjklljofhbaaGreatDoorSxAll14
set_option linter.unusedSimpArgs false
set_option linter.unusedVariables false

namespace Go.Proofs.YtalmjklljofhbaaGreatDoor
open Go.RowKit
def LkOk (B1 B2:Nat) (L:List Lkd):Prop:=L.length≤B1∧∀ c∈L,I64 c.1∧c.2.length≤B2∧∀ y∈c.2,I64 y.1∧I64 y.2
theorem i64_zero:I64 0:=⟨by omega,by omega⟩
theorem neigh_ok {l:List Nd} (h:∀ x∈l,I64 x.id) (id lev:Int):I64 (neighN l id lev).1.1∧I64 (neighN l id lev).1.2:=by
 have hg:∀ x∈(throughN l id lev).1,I64 x.id:=by
  intro x hx
  unfold throughN at hx
  split at hx
  ·unfold thrG groupN at hx
   exact h x ((sortN_mem l x).1 (List.mem_filter.1 hx).1)
  ·simp at hx
 have hd:∀ (o:Option Nd),(∀ x,o=some x→I64 x.id)→I64 (o.getD Nd.zero).id:=by
  intro o ho
  cases o with
  | none=>exact i64_zero
  | some x=>exact ho x rfl
 unfold neighN
 split
 ·refine ⟨?_,?_⟩
  ·show I64 (leftN _ _)
   unfold leftN
   split
   ·exact i64_zero
   ·exact hd _ (fun x hx=>hg x (List.mem_of_getElem? hx))
  ·exact hd _ (fun x hx=>hg x (List.mem_of_getElem? hx))
 ·exact ⟨i64_zero,i64_zero⟩
theorem build_ok {l:List Nd} (h:∀ x∈l,I64 x.id) (lev:Int):LkOk l.length 17 (buildN l lev).1:=by
 unfold buildN
 split
 ·exact ⟨by simp,by simp⟩
 ·split
  ·exact ⟨by simp,by simp⟩
  ·rename_i hl
   have hlv:0≤lev∧lev≤16:=by
    have:lvlN lev=true:=by simpa using hl
    unfold lvlN at this
    simpa using this
   refine ⟨by simp [sortN_length],fun c hc=>?_⟩
   obtain ⟨x,hx,rfl⟩:=List.mem_map.1 hc
   have hs:∀ x∈sortN l,I64 x.id:=fun x hx=>h x ((sortN_mem l x).1 hx)
   refine ⟨hs x hx,by rw [rowN_len];omega,fun y hy=>?_⟩
   unfold rowN at hy
   obtain ⟨j,_,rfl⟩:=List.mem_map.1 hy
   exact neigh_ok hs _ _
def LsRel (n ch b:Nat) (w:World) (o i:Value) (wr:World):Prop :=
 ∃ (k:Nat) (qs:List (Int×Hdr)) (L:List Lkd),k≤ch∧i=.int .i64 k∧OwnLk w.heap.size wr o qs L∧LkOk (n+(ch-k)) (17+(ch-k)) L∧TK wr b∧Exb b w wr
theorem lk_mono {B1 B2 B1' B2':Nat} {L:List Lkd} (h:LkOk B1 B2 L) (h1:B1≤B1') (h2:B2≤B2'):LkOk B1' B2' L :=
 ⟨by have:=h.1;omega,fun c hc=>⟨(h.2 c hc).1,by have:=(h.2 c hc).2.1;omega,(h.2 c hc).2.2⟩⟩
theorem lk_erase {B1 B2:Nat} {L:List Lkd} (h:LkOk B1 B2 L) (j:Nat):LkOk B1 B2 (L.take j++L.drop (j+1)):=by
 refine ⟨by have:=h.1;simp;omega,fun c hc=>h.2 c ?_⟩
 rcases List.mem_append.1 hc with h1 | h1
 ·exact List.mem_of_mem_take h1
 ·exact List.mem_of_mem_drop h1
theorem lk_push {B1 B2:Nat} {L:List Lkd} (h:LkOk B1 B2 L) {c:Lkd} (hc:I64 c.1∧c.2.length≤B2∧∀ y∈c.2,I64 y.1∧I64 y.2):LkOk (B1+1) B2 (L++[c]):=by
 refine ⟨by have:=h.1;simp;omega,fun d hd=>?_⟩
 rcases List.mem_append.1 hd with h1 | h1
 ·exact h.2 d h1
 ·rw [List.mem_singleton.1 h1];exact hc
theorem lk_set {B1 B2:Nat} {L:List Lkd} (h:LkOk B1 B2 L) (j:Nat) {c:Lkd} (hc:I64 c.1∧c.2.length≤B2∧∀ y∈c.2,I64 y.1∧I64 y.2):LkOk B1 B2 (L.set j c):=by
 refine ⟨by have:=h.1;simp;omega,fun d hd=>?_⟩
 rcases List.mem_or_eq_of_mem_set hd with h1 | rfl
 ·exact h.2 d h1
 ·exact hc
theorem own_cut_blk (a:Option Addr) (n m c:Nat):(Hdr.val (a,m,c)).ownBlock=(Hdr.val (a,n,c)).ownBlock:=by cases a<;>rfl
theorem own_cut {e:TypeId} {base:Nat} {w:World} {a:Option Addr} {n m c:Nat} {l:List (Int×Int)} (h:OwnL 2 encS e base w (Hdr.val (a,n,c)) l) (hm:m≤l.length):OwnL 2 encS e base w (Hdr.val (a,m,c)) (l.take m):=by
 have hml:(l.take m).length=m:=by rw [List.length_take];omega
 rcases h.2 with ⟨h1,h2⟩ | ⟨g,cap,cur,e1,e2,e3,e4,e5,e6,e7⟩
 ·have h1':a=none∧n=0∧c=0:=by simpa [Hdr.val] using h1
  obtain ⟨rfl,rfl,rfl⟩:=h1'
  have hl0:l=[]:=List.eq_nil_of_length_eq_zero h2
  subst hl0
  obtain rfl:m=0:=by simp at hm;omega
  exact h
 ·have h1':a=some ⟨g,0,none⟩∧n=l.length∧c=cap:=by simpa [Hdr.val] using e1
  obtain ⟨rfl,rfl,rfl⟩:=h1'
  refine ⟨by rw [flatN_len (sz:=2) (fun _=>rfl)],.inr ⟨g,c,cur,by simp [Hdr.val,hml],e2,e3,by omega,e5,e6,?_⟩⟩
  rw [hml,flatN_take (sz:=2) (fun _=>rfl),← e7,List.take_take,Nat.min_eq_left (Nat.mul_le_mul_right _ hm)]
def LinksPost (n ch b:Nat) (w:World) (e:Ending) (w':World):Prop:=∃ (v:Value) (qs:List (Int×Hdr)) (L:List Lkd),e=.returned v∧OwnLk w.heap.size w' v qs L∧LkOk (n+ch) (17+ch) L∧TK w' b∧Exb b w w'
set_option maxRecDepth 100000 in
set_option maxHeartbeats 8000000 in
theorem links_t {b:Nat} (a:Option Addr) (n cp:Nat) (l:List Nd) (lev:Int) (ch:Nat) (w:World) (h:TK w b) (hs:Slb 3 encN b w a n l) (hn:n≤100) (hch:ch≤10) (hw:∀ x∈l,x.word<4294967296) (hi:∀ x∈l,I64 x.id) :
  Calls Tryz.prog 20 #[.pointer (some ⟨b,0,none⟩),.slice a n cp,.int .i64 lev,.int .i64 ch] w (LinksPost n ch b w):=by
 have HI:=lH hi
 have HS:=lH hs
 have hbw:=h.lt
 have BO:=build_ok hi lev
 rw [hs.len] at BO
 clear hi
 go_enter Tryz.func20,Tryz.ntmps20
 go_wp2_with fail
 (with_reducible refine (build_r _ _ _ _ _ _ hs.sl (by omega) hw).mono ?_)
 rintro e w1 ⟨v1,q1,rfl,OQ,k1⟩
 have T:=h.nx k1
 have kk:=k1.b b
 generalize (buildN l lev).1=L0 at OQ BO
 generalize (buildN l lev).2=er
 clear h hs hw k1
 go_wp2_with fail
 refine (next_t ((ch:Int)+1) _ T (by omega) (by omega)).mono ?_
 clear T
 rintro e w2 ⟨k,rfl,k0,k1,T,k2⟩
 obtain ⟨k,rfl⟩:=Int.eq_ofNat_of_zero_le k0
 replace OQ:=OQ.nxb hbw k2
 replace kk:=kk.nxb k2
 have BO:=lH (lk_mono BO (show n≤n+(ch-k) by omega) (show 17≤17+(ch-k) by omega))
 have hkc:k≤ch:=by omega
 clear k2 k0 k1
 go_wp2_with fail
 go_loopw [9,11] (fun o i wr=>LsRel n ch b w o i wr) (fun _ i _=>(intOf i).toNat)
 case atStart=>exact ⟨k,q1,L0,hkc,rfl,OQ,BO.out,T,kk⟩
 case round =>
  clear OQ BO T kk hkc
  obtain ⟨q,qs,L,hq,rfl,OQ,LO,T,kk⟩:=hrel
  have LO:=lH LO
  obtain ⟨wo,rfl⟩:∃ wo:World,wo=wr:=⟨_,rfl⟩
  obtain ⟨a3,cap3,rfl,NL3,hc3,hm3,some3,_⟩:=OwnN.nl (encA:=encI) (encB:=encS) (s1:=2) (s2:=2) (fun _=>rfl) (fun _=>rfl) OQ
  have hL1:=LO.out.1
  by_cases hq0:0<q
  ·by_cases hL0:L.length=0
   ·have d0:¬ (0:Int)<(L.length:Int):=by omega
    have HL0:=lH hL0
    have OQ:=lH OQ
    clear hL0 NL3 some3
    go_wp2_with fail
    go_ret
    exact ⟨_,qs,L,rfl,OQ.out,lk_mono LO.out (by omega) (by omega),T,kk⟩
   ·obtain ⟨g,rfl,hg⟩:=some3 (fun h0=>hL0 (by rw [h0];rfl))
    have hLp:(0:Int)<(L.length:Int):=by omega
    have hgb:¬ g=b:=by omega
    clear some3 NL3 hL0
    go_wp2_with fail
    refine (next_t (L.length:Int) _ T (by omega) (by omega)).mono ?_
    clear T
    rintro e w3 ⟨j,rfl,j0,j1,T,k2⟩
    obtain ⟨j,rfl⟩:=Int.eq_ofNat_of_zero_le j0
    have hjl:j<L.length:=by omega
    have hjl':(j:Int)<(L.length:Int):=by omega
    replace OQ:=OQ.nxb hbw k2
    replace kk:=kk.nxb k2
    clear k2 j0 j1
    go_wp2_with fail
    refine (next_t 7 _ T (by omega) (by omega)).mono ?_
    clear T
    rintro e w4 ⟨r,rfl,r0,r1,T,k2⟩
    replace OQ:=OQ.nxb hbw k2
    replace kk:=kk.nxb k2
    clear k2
    obtain ⟨c,hc⟩:∃ c,L[j]?=some c:=⟨L[j],by simp⟩
    obtain ⟨⟨ha,hn3,hcp⟩,hqj,own⟩:=OwnN.get (p:=1) OQ hc
    have cok:=lH (LO.out.2 c (List.mem_of_getElem? hc))
    have hqm:((q:Int)-1)=((q-1:Nat):Int):=by omega
    have hqsl:qs.length=L.length:=OQ.2.1
    by_cases r00:r=0
    ·subst r00
     clear cok own hqj
     go_wp2_with fail
     have OQ:=OQ.nx (Ex.refl w4).drew
     have T:TK w4.drew b:=T
     have kk:=kk.drew
     have z0:=kk.size
     have hjc:(j:Int)≤(cap3:Int):=by omega
     have hj1:(j:Int)+1≤(L.length:Int):=by omega
     have jw:IntKind.i64.wrap ((j:Int)+1)=(j:Int)+1:=IntWalk.i64_in _ (by omega)
     have jt:((j:Int)+1).toNat=j+1:=by omega
     have j0':(0:Int)≤(j:Int)+1:=by omega
     have jle:j≤qs.length:=by omega
     have hjj:(j:Int)≤(j:Int)+1:=by omega
     by_cases hcap:cap3=j+1
     ·have HRD:Sl 2 (encP encI) w4.drew (some ⟨g,0,none⟩) (L.length-(j+1)) (qs.drop (j+1)):=by
       rw [show L.length-(j+1)=0 by omega,List.drop_of_length_le (by omega)]
       exact Sl.nil _ _ _ _
      refine wp_region_held_drew (S:=fun _=>True) (by kernel_rfl) (trivial) (fun hHeld=>?_)
      refine tkH 0 (v:=?_) rfl (by kernel_rfl) (fun _ _ _ h=>h) (by rfl) ?y1x0q1 (by assumption) ?z1x0q1
      case y1x0q1=>intro wq hSw;(go_simp);(try with_reducible rfl)
      try simp only [Act.put,sA,sB,sC]
      refine tkH 1 (v:=?_) rfl (by kernel_rfl) (fun _ _ _ h=>h) (by rfl) ?y1x1q4 (by assumption) ?z1x1q4
      case y1x1q4=>intro wq hSw;(go_simp);(try with_reducible rfl)
      try simp only [Act.put,sA,sB,sC]
      refine tkH 2 (v:=?_) rfl (by kernel_rfl) (fun _ _ _ h=>h) (by rfl) ?y1x2q7 (by assumption) ?z1x2q7
      case y1x2q7=>intro wq hSw;(go_simp);(try with_reducible rfl)
      try simp only [Act.put,sA,sB,sC]
      refine tkH 3 (v:=?_) rfl (by kernel_rfl) (fun _ _ _ h=>h) (by rfl) ?y1x3q10 (by assumption) ?z1x3q10
      case y1x3q10=>intro wq hSw;(go_simp);(try with_reducible rfl)
      try simp only [Act.put,sA,sB,sC]
      refine tkH 4 (v:=?_) rfl (by kernel_rfl) (fun _ _ _ h=>h) (by rfl) ?y1x4q13 (by assumption) ?z1x4q13
      case y1x4q13=>intro wq hSw;(go_simp);(try with_reducible rfl)
      try simp only [Act.put,sA,sB,sC]
      refine tkH 5 (v:=?_) rfl (by kernel_rfl) (fun _ _ _ h=>h) (by rfl) ?y1x5q16 (by assumption) ?z1x5q16
      case y1x5q16=>intro wq hSw;(go_simp);(try with_reducible rfl)
      try simp only [Act.put,sA,sB,sC]
      refine tkH 6 (v:=?_) rfl (by kernel_rfl) (fun _ _ _ h=>h) (by rfl) ?y1x6q19 (by assumption) ?z1x6q19
      case y1x6q19=>intro wq hSw;(go_simp);(try with_reducible rfl)
      try simp only [Act.put,sA,sB,sC]
      refine tkH 7 (v:=?_) rfl (by kernel_rfl) (fun _ _ _ h=>h) (by rfl) ?y1x7q22 (by assumption) ?z1x7q22
      case y1x7q22=>intro wq hSw;(go_simp);(try with_reducible rfl)
      try simp only [Act.put,sA,sB,sC]
      refine wpAnyH_ready (rs:=[8]) (by kernel_rfl) (by simp) ?_
      refine AllReadyH.cons (o:=⟨_,_,_,_,_,_⟩) rfl (fun K hK=>?_) AllReadyH.nil
      rw [if_pos (by rfl)]
      refine wp_append_W (enc:=encP encI) _ (.tmp 76) (.tmp 80) 50 rfl w.heap.size 84 (.agg #[.int .i64 0,.slice none 0 0]) 2 32 Tryz.underlying50 Tryz.infoLd rfl (by omega) (by omega) _ (qs.take j) (OwnW.cut (sz:=2) (enc:=encP encI) (fun _=>rfl) OQ.1 (by omega)) rfl ⟨g,0,none⟩ (L.length-(j+1)) _ (qs.drop (j+1)) HRD (fun _=>rfl) (by simp [encP,encI,Hdr.val,Value.oneCell']) rfl (by simp;omega) (by omega) z0 ?_
      intro v9 w9 own9 ch0 ch1 _
      refine hK.out _ _ (trivial) (fun hHeld=>?_)
      clear hK K
      try simp only [Act.put,sA,sB,sC]
      refine tkH 9 (v:=?_) rfl (by kernel_rfl) (fun _ _ _ h=>h) (by rfl) ?y1x9q33 (by assumption) ?z1x9q33
      case y1x9q33=>intro wq hSw;(go_simp);(try with_reducible rfl)
      try simp only [Act.put,sA,sB,sC]
      refine wpAnyH_done (by kernel_rfl) ?_ _
      replace OQ:=OQ.erase (by decide) hjl own9 ch0
      replace T:=TP.chg T ch1 (fun x hx=>by omega)
      replace kk:Exb b w w9:=Chg.trans kk (ch1.mono (fun x hx=>hx.1))
      clear HRD own9 ch0 ch1
      go_wp2_with fail
      exact ⟨⟨q-1,_,_,by omega,by first | rfl | rw [hqm],OQ,lk_mono (lk_erase LO.out j) (by omega) (by omega),T,kk⟩,by simp [intOf];omega⟩
     ·have HRD:Sl 2 (encP encI) w4.drew (some ⟨g,(j+1)*2,none⟩) (L.length-(j+1)) (qs.drop (j+1)):=by
       obtain ⟨a',c',e',r',_⟩:=OQ.1.rd (fun _=>rfl)
       have e2:some (⟨g,0,none⟩:Addr)=a'∧L.length=qs.length∧cap3=c':=by simpa using e'
       obtain ⟨rfl,hLq,rfl⟩:=e2
       have r2:Sl 2 (encP encI) w4.drew (some ⟨g,0,none⟩) qs.length qs:=Rd.mono r' (fun _ hk=>hk.2)
       have:=Sl.drop r2 (m:=j+1) (by omega)
       rw [Nat.zero_add,← hLq] at this
       exact this
      refine wp_region_held_drew (S:=fun _=>True) (by kernel_rfl) (trivial) (fun hHeld=>?_)
      refine tkH 0 (v:=?_) rfl (by kernel_rfl) (fun _ _ _ h=>h) (by rfl) ?y2x0q1 (by assumption) ?z2x0q1
      case y2x0q1=>intro wq hSw;(go_simp);(try with_reducible rfl)
      try simp only [Act.put,sA,sB,sC]
      refine tkH 1 (v:=?_) rfl (by kernel_rfl) (fun _ _ _ h=>h) (by rfl) ?y2x1q4 (by assumption) ?z2x1q4
      case y2x1q4=>intro wq hSw;(go_simp);(try with_reducible rfl)
      try simp only [Act.put,sA,sB,sC]
      refine tkH 2 (v:=?_) rfl (by kernel_rfl) (fun _ _ _ h=>h) (by rfl) ?y2x2q7 (by assumption) ?z2x2q7
      case y2x2q7=>intro wq hSw;(go_simp);(try with_reducible rfl)
      try simp only [Act.put,sA,sB,sC]
      refine tkH 3 (v:=?_) rfl (by kernel_rfl) (fun _ _ _ h=>h) (by rfl) ?y2x3q10 (by assumption) ?z2x3q10
      case y2x3q10=>intro wq hSw;(go_simp);(try with_reducible rfl)
      try simp only [Act.put,sA,sB,sC]
      refine tkH 4 (v:=?_) rfl (by kernel_rfl) (fun _ _ _ h=>h) (by rfl) ?y2x4q13 (by assumption) ?z2x4q13
      case y2x4q13=>intro wq hSw;(go_simp);(try with_reducible rfl)
      try simp only [Act.put,sA,sB,sC]
      refine tkH 5 (v:=?_) rfl (by kernel_rfl) (fun _ _ _ h=>h) (by rfl) ?y2x5q16 (by assumption) ?z2x5q16
      case y2x5q16=>intro wq hSw;(go_simp);(try with_reducible rfl)
      try simp only [Act.put,sA,sB,sC]
      refine tkH 6 (v:=?_) rfl (by kernel_rfl) (fun _ _ _ h=>h) (by rfl) ?y2x6q19 (by assumption) ?z2x6q19
      case y2x6q19=>intro wq hSw;(go_simp);(try with_reducible rfl)
      try simp only [Act.put,sA,sB,sC]
      refine tkH 7 (v:=?_) rfl (by kernel_rfl) (fun _ _ _ h=>h) (by rfl) ?y2x7q22 (by assumption) ?z2x7q22
      case y2x7q22=>intro wq hSw;(go_simp);(try with_reducible rfl)
      try simp only [Act.put,sA,sB,sC]
      refine wpAnyH_ready (rs:=[8]) (by kernel_rfl) (by simp) ?_
      refine AllReadyH.cons (o:=⟨_,_,_,_,_,_⟩) rfl (fun K hK=>?_) AllReadyH.nil
      rw [if_pos (by rfl)]
      refine wp_append_W (enc:=encP encI) _ (.tmp 76) (.tmp 80) 50 rfl w.heap.size 84 (.agg #[.int .i64 0,.slice none 0 0]) 2 32 Tryz.underlying50 Tryz.infoLd rfl (by omega) (by omega) _ (qs.take j) (OwnW.cut (sz:=2) (enc:=encP encI) (fun _=>rfl) OQ.1 (by omega)) rfl ⟨g,(j+1)*2,none⟩ (L.length-(j+1)) _ (qs.drop (j+1)) HRD (fun _=>rfl) (by simp [encP,encI,Hdr.val,Value.oneCell']) rfl (by simp;omega) (by omega) z0 ?_
      intro v9 w9 own9 ch0 ch1 _
      refine hK.out _ _ (trivial) (fun hHeld=>?_)
      clear hK K
      try simp only [Act.put,sA,sB,sC]
      refine tkH 9 (v:=?_) rfl (by kernel_rfl) (fun _ _ _ h=>h) (by rfl) ?y2x9q33 (by assumption) ?z2x9q33
      case y2x9q33=>intro wq hSw;(go_simp);(try with_reducible rfl)
      try simp only [Act.put,sA,sB,sC]
      refine wpAnyH_done (by kernel_rfl) ?_ _
      replace OQ:=OQ.erase (by decide) hjl own9 ch0
      replace T:=TP.chg T ch1 (fun x hx=>by omega)
      replace kk:Exb b w w9:=Chg.trans kk (ch1.mono (fun x hx=>hx.1))
      clear HRD own9 ch0 ch1
      go_wp2_with fail
      exact ⟨⟨q-1,_,_,by omega,by first | rfl | rw [hqm],OQ,lk_mono (lk_erase LO.out j) (by omega) (by omega),T,kk⟩,by simp [intOf];omega⟩
    by_cases r01:r=1
    ·subst r01
     clear r00 cok own hqj
     go_wp2_with fail
     refine (id_t _ _ _ _ _ T (HS.out.nxb kk) (by omega) HI.out).mono ?_
     clear T
     rintro e w5 ⟨i1,rfl,I1,T,k2⟩
     replace OQ:=OQ.nxb hbw k2
     replace kk:=kk.nxb k2
     clear k2
     go_wp2_with fail
     refine (id_t _ _ _ _ _ T (HS.out.nxb kk) (by omega) HI.out).mono ?_
     clear T
     rintro e w6 ⟨i2,rfl,I2,T,k2⟩
     replace OQ:=OQ.nxb hbw k2
     replace kk:=kk.nxb k2
     clear k2
     go_wp2_with fail
     refine (id_t _ _ _ _ _ T (HS.out.nxb kk) (by omega) HI.out).mono ?_
     clear T
     rintro e w7 ⟨i3,rfl,I3,T,k2⟩
     replace OQ:=OQ.nxb hbw k2
     replace kk:=kk.nxb k2
     clear k2
     have zz:=kk.size
     have kA:=Ex.new w7 (.cells #[.int .i64 i2,.int .i64 i3] 81)
     have ownI:OwnL 2 encS 81 w.heap.size (w7.alloc (.cells #[.int .i64 i2,.int .i64 i3] 81)) (.slice (some ⟨w7.heap.size,0,none⟩) 1 1) [(i2,i3)]:=OwnL.lit [(i2,i3)] (fun _=>rfl) zz (by unfold maxLen;simp) rfl
     have kB:=Ex.new (w7.alloc (.cells #[.int .i64 i2,.int .i64 i3] 81)) (.cells #[.int .i64 i1,.slice (some ⟨w7.heap.size,0,none⟩) 1 1] 84)
     have SX:Sl 2 (encP encI) ((w7.alloc (.cells #[.int .i64 i2,.int .i64 i3] 81)).alloc (.cells #[.int .i64 i1,.slice (some ⟨w7.heap.size,0,none⟩) 1 1] 84)) (some ⟨(w7.alloc (.cells #[.int .i64 i2,.int .i64 i3] 81)).heap.size,0,none⟩) 1 [((i1,(some ⟨w7.heap.size,0,none⟩,1,1)):Int×Hdr)]:=Sl.lit _ rfl rfl (fun _=>rfl) rfl
     have FR:∀ (j:Nat) (r:Int×Hdr) (x:Nat),qs[j]?=some r→r.2.val.ownBlock=some x→¬ (Value.slice (some ⟨w7.heap.size,0,none⟩) 1 1).ownBlock=some x:=by
      intro j r x hr hx hv
      have h1:=OQ.lt hr hx
      simp [Value.ownBlock] at hv
      omega
     have OQ2:=(OQ.nx kA).nx kB
     have ownI2:=ownI.nx kB
     have T2:=(T.nx kA).nx kB
     have kk2:=(kk.nxb (kA.b b)).nxb (kB.b b)
     have zz2:=kk2.size
     have HSX:(w7.alloc (.cells #[.int .i64 i2,.int .i64 i3] 81)).heap.size=w7.heap.size+1:=by simp
     rw [HSX] at SX
     clear ownI OQ T kk kA kB HSX
     go_wp2_with (at_builtin;(refine wpList_append_W (enc:=encP encI) _ rfl _ _ 50 rfl w.heap.size 84 (.agg #[.int .i64 0,.slice none 0 0]) 2 32 Tryz.underlying50 Tryz.infoLd rfl (by omega) (by omega) _ qs OQ2.1 rfl _ 1 1 [_] SX (fun _=>rfl) (by simp [encP,encI,Hdr.val,Value.oneCell']) rfl (by omega) (by omega) zz2 ?_);intro v9 w9 own9 ch0 ch1 _)
     have OQ:=OQ2.push (by decide) own9 ch0 ownI2 FR
     have T:=TP.chg T2 ch1 (fun x hx=>by omega)
     have kk:Exb b w w9:=Chg.trans kk2 (ch1.mono (fun x hx=>hx.1))
     exact ⟨⟨q-1,_,_,by omega,by first | rfl | rw [hqm],OQ,lk_mono (lk_push LO.out ⟨I1,by show 1≤_;omega,fun y hy=>by rw [List.mem_singleton.1 hy];exact ⟨I2,I3⟩⟩) (by omega) (by omega),T,kk⟩,by simp [intOf];omega⟩
    by_cases r02:r=2
    ·subst r02
     clear r00 r01
     obtain ⟨a6,c6,e6,r6,hc6,_,some6⟩:=own.rd (fun _=>rfl)
     obtain ⟨rfl,hn3e,rfl⟩:ha=a6∧hn3=c.2.length∧hcp=c6:=by simpa [Hdr.val] using e6
     have HN3:=lH hn3e
     have hcl:hn3≤17+(ch-q):=by rw [hn3e];exact cok.out.2.1
     rw [← hn3e] at hc6
     have jw3:IntKind.i64.wrap ((hn3:Int)+1)=(hn3:Int)+1:=IntWalk.i64_in _ (by omega)
     clear hn3e
     clear e6 r6 some6
     have OQ:=OQ.nx (Ex.refl w4).drew
     have own:=own.nx (Ex.refl w4).drew
     have T:TK w4.drew b:=T
     have kk:=kk.drew
     have CE:∀ cur:World,OwnLk w.heap.size cur (.slice (some ⟨g,0,none⟩) L.length cap3) qs L→cur.cell? ⟨g,j*2+1,none⟩=some (.slice ha hn3 hcp):=fun cur h=>by
      have:=(OwnW.set1 (sz:=2) (enc:=encP encI) (c:=1) (fun _=>rfl) h.1 hqj (by omega)).1
      exact this
     go_wp2_with fail
     refine wp_region_held_drew (S:=fun _=>True) (by kernel_rfl) (trivial) (fun hHeld=>?_)
     refine tkH 0 (v:=?_) rfl (by kernel_rfl) (fun _ _ _ h=>h) (by rfl) ?y3x0q1 (by assumption) ?z3x0q1
     case y3x0q1=>intro wq hSw;(go_simp);(try with_reducible rfl)
     try simp only [Act.put,sA,sB,sC]
     refine tkH 1 (v:=?_) rfl (by kernel_rfl) (fun _ _ _ h=>h) (by rfl) ?y3x1q4 (by assumption) ?z3x1q4
     case y3x1q4=>intro wq hSw;(go_simp);(try with_reducible rfl)
     try simp only [Act.put,sA,sB,sC]
     refine tkH 2 (v:=?_) rfl (by kernel_rfl) (fun _ _ _ h=>h) (by rfl) ?y3x2q7 (by assumption) ?z3x2q7
     case y3x2q7=>intro wq hSw;(go_simp);(try with_reducible rfl)
     try simp only [Act.put,sA,sB,sC]
     refine tkH 3 (v:=?_) rfl (by kernel_rfl) (fun _ _ _ h=>h) (by rfl) ?y3x3q10 (by assumption) ?z3x3q10
     case y3x3q10=>intro wq hSw;(go_simp);(try with_reducible rfl)
     try simp only [Act.put,sA,sB,sC]
     refine tkH 4 (v:=?_) rfl (by kernel_rfl) (fun _ _ _ h=>h) (by rfl) ?y3x4q13 (by assumption) ?z3x4q13
     case y3x4q13=>intro wq hSw;(go_simp);(try with_reducible rfl)
     try simp only [Act.put,sA,sB,sC]
     refine tkH 5 (v:=?_) rfl (by kernel_rfl) (fun _ _ _ h=>h) (by rfl) ?y3x5q16 (by assumption) ?z3x5q16
     case y3x5q16=>intro wq hSw;(go_simp);(try with_reducible rfl)
     try simp only [Act.put,sA,sB,sC]
     refine tkH 7 (v:=?_) rfl (by kernel_rfl) (fun _ _ _ h=>h) (by rfl) ?y3x7q19 (by assumption) ?z3x7q19
     case y3x7q19=>intro wq hSw;(go_simp);(try with_reducible rfl)
     try simp only [Act.put,sA,sB,sC]
     refine tkH 8 (v:=?_) rfl (by kernel_rfl) (fun _ _ _ h=>h) (by rfl) ?y3x8q22 (by assumption) ?z3x8q22
     case y3x8q22=>intro wq hSw;(go_simp);(try with_reducible rfl)
     try simp only [Act.put,sA,sB,sC]
     refine tkH 9 (v:=?_) rfl (by kernel_rfl) (fun _ _ _ h=>h) (by rfl) ?y3x9q25 (by assumption) ?z3x9q25
     case y3x9q25=>intro wq hSw;(go_simp);(try with_reducible rfl)
     try simp only [Act.put,sA,sB,sC]
     refine tkH 10 (v:=?_) rfl (by kernel_rfl) (fun _ _ _ h=>h) (by rfl) ?y3x10q28 (by assumption) ?z3x10q28
     case y3x10q28=>intro wq hSw;(go_simp);(try with_reducible rfl)
     try simp only [Act.put,sA,sB,sC]
     refine tkH 11 (v:=?_) rfl (by kernel_rfl) (fun _ _ _ h=>h) (by rfl) ?y3x11q31 (by assumption) ?z3x11q31
     case y3x11q31=>intro wq hSw;(go_simp);(try with_reducible rfl)
     try simp only [Act.put,sA,sB,sC]
     refine wpAnyH_ready (rs:=[6,12]) (by kernel_rfl) (by simp) ?_
     refine AllReadyH.cons (o:=⟨_,_,_,_,_,_⟩) rfl (fun K hK=>?_) ?_
     ·have cq:=CE _ OQ
      go_simp
      clear cq
      refine hK.out _ _ (trivial) (fun hHeld=>?_)
      clear hK K
      try simp only [Act.put,sA,sB,sC]
      refine wpAnyH_ready (rs:=[12]) (by kernel_rfl) (by simp) ?_
      refine AllReadyH.cons (o:=⟨_,_,_,_,_,_⟩) rfl (fun K hK=>?_) AllReadyH.nil
      have cq:=CE _ OQ
      go_simp
      clear cq
      refine hK.out _ _ (trivial) (fun hHeld=>?_)
      clear hK K
      try simp only [Act.put,sA,sB,sC]
      refine tkH 13 (v:=?_) rfl (by kernel_rfl) (fun _ _ _ h=>h) (by rfl) ?y3x13q50 (by assumption) ?z3x13q50
      case y3x13q50=>intro wq hSw;(go_simp);(try with_reducible rfl)
      try simp only [Act.put,sA,sB,sC]
      refine tkH 14 (v:=?_) rfl (by kernel_rfl) (fun _ _ _ h=>h) (by rfl) ?y3x14q53 (by assumption) ?z3x14q53
      case y3x14q53=>intro wq hSw;(go_simp);(try with_reducible rfl)
      try simp only [Act.put,sA,sB,sC]
      refine wpAnyH_ready (rs:=[15]) (by kernel_rfl) (by simp) ?_
      refine AllReadyH.cons (o:=⟨_,_,_,_,_,_⟩) rfl (fun K hK=>?_) AllReadyH.nil
      go_simp
      ((with_reducible refine (next_t ((hn3:Int)+1) _ T (by omega) (by omega)).mono ?_))
      clear T
      rintro e w5 ⟨m,rfl,m0,m1,T,k2⟩
      obtain ⟨m,rfl⟩:=Int.eq_ofNat_of_zero_le m0
      replace OQ:=OQ.nxb hbw k2
      replace own:=own.nxb hbw k2
      replace kk:=kk.nxb k2
      clear k2
      have hmc:(m:Int)≤(hcp:Int):=by omega
      have hml:m≤c.2.length:=by rw [← HN3.out];omega
      refine hK.out _ _ (trivial) (fun hHeld=>?_)
      clear hK K
      try simp only [Act.put,sA,sB,sC]
      refine tkH 16 (v:=?_) rfl (by kernel_rfl) (fun _ _ _ h=>h) (by rfl) ?y3x16q72 (by assumption) ?z3x16q72
      case y3x16q72=>intro wq hSw;(go_simp);(try with_reducible rfl)
      try simp only [Act.put,sA,sB,sC]
      refine tkH 17 (v:=?_) rfl (by kernel_rfl) (fun _ _ _ h=>h) (by rfl) ?y3x17q75 (by assumption) ?z3x17q75
      case y3x17q75=>intro wq hSw;(go_simp);(try with_reducible rfl)
      try simp only [Act.put,sA,sB,sC]
      refine tkH 18 (v:=?_) rfl (by kernel_rfl) (fun _ _ _ h=>h) (by rfl) ?y3x18q78 (by assumption) ?z3x18q78
      case y3x18q78=>intro wq hSw;(go_simp);(try with_reducible rfl)
      try simp only [Act.put,sA,sB,sC]
      refine wpAnyH_ready (rs:=[19]) (by kernel_rfl) (by simp) ?_
      refine AllReadyH.cons (o:=⟨_,_,_,_,_,_⟩) rfl (fun K hK=>?_) AllReadyH.nil
      obtain ⟨pc,pf,OQ2⟩:=OwnN.put (p:=1) (fun _=>rfl) (by decide) OQ hqj (hd':=(ha,m,hcp)) (c':=c.2.take m) (own_cut own hml) (Chg.refl _ _) (.inl (own_cut_blk ha hn3 m hcp))
      go_simp
      clear pc pf OQ
      refine hK.out _ _ (trivial) (fun hHeld=>?_)
      clear hK K
      try simp only [Act.put,sA,sB,sC]
      refine wpAnyH_done (by kernel_rfl) ?_ _
      have T:=T.set (p:=⟨g,j*2+1,none⟩) (Hdr.val (ha,m,hcp)) (by show b<g;omega)
      have kk:=kk.setNew (p:=⟨g,j*2+1,none⟩) (Hdr.val (ha,m,hcp)) hg
      have OQ:=OQ2
      clear OQ2 own
      go_wp2_with fail
      exact ⟨⟨q-1,_,_,by omega,by first | rfl | rw [hqm],OQ,lk_mono (lk_set LO.out j ⟨cok.out.1,by show (c.2.take m).length≤_;rw [List.length_take,← HN3.out];omega,fun y hy=>cok.out.2.2 y (List.mem_of_mem_take hy)⟩) (by omega) (by omega),T,kk⟩,by simp [intOf];omega⟩
     refine AllReadyH.cons (o:=⟨_,_,_,_,_,_⟩) rfl (fun K hK=>?_) AllReadyH.nil
     ·have cq:=CE _ OQ
      go_simp
      clear cq
      refine hK.out _ _ (trivial) (fun hHeld=>?_)
      clear hK K
      try simp only [Act.put,sA,sB,sC]
      refine tkH 13 (v:=?_) rfl (by kernel_rfl) (fun _ _ _ h=>h) (by rfl) ?y3x13q98 (by assumption) ?z3x13q98
      case y3x13q98=>intro wq hSw;(go_simp);(try with_reducible rfl)
      try simp only [Act.put,sA,sB,sC]
      refine tkH 14 (v:=?_) rfl (by kernel_rfl) (fun _ _ _ h=>h) (by rfl) ?y3x14q101 (by assumption) ?z3x14q101
      case y3x14q101=>intro wq hSw;(go_simp);(try with_reducible rfl)
      try simp only [Act.put,sA,sB,sC]
      refine wpAnyH_ready (rs:=[6,15]) (by kernel_rfl) (by simp) ?_
      refine AllReadyH.cons (o:=⟨_,_,_,_,_,_⟩) rfl (fun K hK=>?_) ?_
      ·have cq:=CE _ OQ
       go_simp
       clear cq
       refine hK.out _ _ (trivial) (fun hHeld=>?_)
       clear hK K
       try simp only [Act.put,sA,sB,sC]
       refine wpAnyH_ready (rs:=[15]) (by kernel_rfl) (by simp) ?_
       refine AllReadyH.cons (o:=⟨_,_,_,_,_,_⟩) rfl (fun K hK=>?_) AllReadyH.nil
       go_simp
       ((with_reducible refine (next_t ((hn3:Int)+1) _ T (by omega) (by omega)).mono ?_))
       clear T
       rintro e w5 ⟨m,rfl,m0,m1,T,k2⟩
       obtain ⟨m,rfl⟩:=Int.eq_ofNat_of_zero_le m0
       replace OQ:=OQ.nxb hbw k2
       replace own:=own.nxb hbw k2
       replace kk:=kk.nxb k2
       clear k2
       have hmc:(m:Int)≤(hcp:Int):=by omega
       have hml:m≤c.2.length:=by rw [← HN3.out];omega
       refine hK.out _ _ (trivial) (fun hHeld=>?_)
       clear hK K
       try simp only [Act.put,sA,sB,sC]
       refine tkH 16 (v:=?_) rfl (by kernel_rfl) (fun _ _ _ h=>h) (by rfl) ?y3x16q128 (by assumption) ?z3x16q128
       case y3x16q128=>intro wq hSw;(go_simp);(try with_reducible rfl)
       try simp only [Act.put,sA,sB,sC]
       refine tkH 17 (v:=?_) rfl (by kernel_rfl) (fun _ _ _ h=>h) (by rfl) ?y3x17q131 (by assumption) ?z3x17q131
       case y3x17q131=>intro wq hSw;(go_simp);(try with_reducible rfl)
       try simp only [Act.put,sA,sB,sC]
       refine tkH 18 (v:=?_) rfl (by kernel_rfl) (fun _ _ _ h=>h) (by rfl) ?y3x18q134 (by assumption) ?z3x18q134
       case y3x18q134=>intro wq hSw;(go_simp);(try with_reducible rfl)
       try simp only [Act.put,sA,sB,sC]
       refine wpAnyH_ready (rs:=[19]) (by kernel_rfl) (by simp) ?_
       refine AllReadyH.cons (o:=⟨_,_,_,_,_,_⟩) rfl (fun K hK=>?_) AllReadyH.nil
       obtain ⟨pc,pf,OQ2⟩:=OwnN.put (p:=1) (fun _=>rfl) (by decide) OQ hqj (hd':=(ha,m,hcp)) (c':=c.2.take m) (own_cut own hml) (Chg.refl _ _) (.inl (own_cut_blk ha hn3 m hcp))
       go_simp
       clear pc pf OQ
       refine hK.out _ _ (trivial) (fun hHeld=>?_)
       clear hK K
       try simp only [Act.put,sA,sB,sC]
       refine wpAnyH_done (by kernel_rfl) ?_ _
       have T:=T.set (p:=⟨g,j*2+1,none⟩) (Hdr.val (ha,m,hcp)) (by show b<g;omega)
       have kk:=kk.setNew (p:=⟨g,j*2+1,none⟩) (Hdr.val (ha,m,hcp)) hg
       have OQ:=OQ2
       clear OQ2 own
       go_wp2_with fail
       exact ⟨⟨q-1,_,_,by omega,by first | rfl | rw [hqm],OQ,lk_mono (lk_set LO.out j ⟨cok.out.1,by show (c.2.take m).length≤_;rw [List.length_take,← HN3.out];omega,fun y hy=>cok.out.2.2 y (List.mem_of_mem_take hy)⟩) (by omega) (by omega),T,kk⟩,by simp [intOf];omega⟩
      refine AllReadyH.cons (o:=⟨_,_,_,_,_,_⟩) rfl (fun K hK=>?_) AllReadyH.nil
      ·go_simp
       ((with_reducible refine (next_t ((hn3:Int)+1) _ T (by omega) (by omega)).mono ?_))
       clear T
       rintro e w5 ⟨m,rfl,m0,m1,T,k2⟩
       obtain ⟨m,rfl⟩:=Int.eq_ofNat_of_zero_le m0
       replace OQ:=OQ.nxb hbw k2
       replace own:=own.nxb hbw k2
       replace kk:=kk.nxb k2
       clear k2
       have hmc:(m:Int)≤(hcp:Int):=by omega
       have hml:m≤c.2.length:=by rw [← HN3.out];omega
       refine hK.out _ _ (trivial) (fun hHeld=>?_)
       clear hK K
       try simp only [Act.put,sA,sB,sC]
       refine wpAnyH_ready (rs:=[6]) (by kernel_rfl) (by simp) ?_
       refine AllReadyH.cons (o:=⟨_,_,_,_,_,_⟩) rfl (fun K hK=>?_) AllReadyH.nil
       have cq:=CE _ OQ
       go_simp
       clear cq
       refine hK.out _ _ (trivial) (fun hHeld=>?_)
       clear hK K
       try simp only [Act.put,sA,sB,sC]
       refine tkH 16 (v:=?_) rfl (by kernel_rfl) (fun _ _ _ h=>h) (by rfl) ?y3x16q170 (by assumption) ?z3x16q170
       case y3x16q170=>intro wq hSw;(go_simp);(try with_reducible rfl)
       try simp only [Act.put,sA,sB,sC]
       refine tkH 17 (v:=?_) rfl (by kernel_rfl) (fun _ _ _ h=>h) (by rfl) ?y3x17q173 (by assumption) ?z3x17q173
       case y3x17q173=>intro wq hSw;(go_simp);(try with_reducible rfl)
       try simp only [Act.put,sA,sB,sC]
       refine tkH 18 (v:=?_) rfl (by kernel_rfl) (fun _ _ _ h=>h) (by rfl) ?y3x18q176 (by assumption) ?z3x18q176
       case y3x18q176=>intro wq hSw;(go_simp);(try with_reducible rfl)
       try simp only [Act.put,sA,sB,sC]
       refine wpAnyH_ready (rs:=[19]) (by kernel_rfl) (by simp) ?_
       refine AllReadyH.cons (o:=⟨_,_,_,_,_,_⟩) rfl (fun K hK=>?_) AllReadyH.nil
       obtain ⟨pc,pf,OQ2⟩:=OwnN.put (p:=1) (fun _=>rfl) (by decide) OQ hqj (hd':=(ha,m,hcp)) (c':=c.2.take m) (own_cut own hml) (Chg.refl _ _) (.inl (own_cut_blk ha hn3 m hcp))
       go_simp
       clear pc pf OQ
       refine hK.out _ _ (trivial) (fun hHeld=>?_)
       clear hK K
       try simp only [Act.put,sA,sB,sC]
       refine wpAnyH_done (by kernel_rfl) ?_ _
       have T:=T.set (p:=⟨g,j*2+1,none⟩) (Hdr.val (ha,m,hcp)) (by show b<g;omega)
       have kk:=kk.setNew (p:=⟨g,j*2+1,none⟩) (Hdr.val (ha,m,hcp)) hg
       have OQ:=OQ2
       clear OQ2 own
       go_wp2_with fail
       exact ⟨⟨q-1,_,_,by omega,by first | rfl | rw [hqm],OQ,lk_mono (lk_set LO.out j ⟨cok.out.1,by show (c.2.take m).length≤_;rw [List.length_take,← HN3.out];omega,fun y hy=>cok.out.2.2 y (List.mem_of_mem_take hy)⟩) (by omega) (by omega),T,kk⟩,by simp [intOf];omega⟩
    by_cases r03:r=3
    ·subst r03
     clear r00 r01 r02
     obtain ⟨a6,c6,e6,r6,hc6,_,some6⟩:=own.rd (fun _=>rfl)
     obtain ⟨rfl,hn3e,rfl⟩:ha=a6∧hn3=c.2.length∧hcp=c6:=by simpa [Hdr.val] using e6
     have HN3:=lH hn3e
     have hcl:hn3≤17+(ch-q):=by rw [hn3e];exact cok.out.2.1
     rw [← hn3e] at hc6
     have jw3:IntKind.i64.wrap ((hn3:Int)+1)=(hn3:Int)+1:=IntWalk.i64_in _ (by omega)
     clear hn3e
     clear e6 r6 some6
     have OQ:=OQ.nx (Ex.refl w4).drew
     have own:=own.nx (Ex.refl w4).drew
     have T:TK w4.drew b:=T
     have kk:=kk.drew
     have CE:∀ cur:World,OwnLk w.heap.size cur (.slice (some ⟨g,0,none⟩) L.length cap3) qs L→cur.cell? ⟨g,j*2+1,none⟩=some (.slice ha hn3 hcp):=fun cur h=>by
      have:=(OwnW.set1 (sz:=2) (enc:=encP encI) (c:=1) (fun _=>rfl) h.1 hqj (by omega)).1
      exact this
     go_wp2_with fail
     refine wp_region_held_drew (S:=fun _=>True) (by kernel_rfl) (trivial) (fun hHeld=>?_)
     refine tkH 0 (v:=?_) rfl (by kernel_rfl) (fun _ _ _ h=>h) (by rfl) ?y4x0q1 (by assumption) ?z4x0q1
     case y4x0q1=>intro wq hSw;(go_simp);(try with_reducible rfl)
     try simp only [Act.put,sA,sB,sC]
     refine tkH 1 (v:=?_) rfl (by kernel_rfl) (fun _ _ _ h=>h) (by rfl) ?y4x1q4 (by assumption) ?z4x1q4
     case y4x1q4=>intro wq hSw;(go_simp);(try with_reducible rfl)
     try simp only [Act.put,sA,sB,sC]
     refine tkH 2 (v:=?_) rfl (by kernel_rfl) (fun _ _ _ h=>h) (by rfl) ?y4x2q7 (by assumption) ?z4x2q7
     case y4x2q7=>intro wq hSw;(go_simp);(try with_reducible rfl)
     try simp only [Act.put,sA,sB,sC]
     refine tkH 3 (v:=?_) rfl (by kernel_rfl) (fun _ _ _ h=>h) (by rfl) ?y4x3q10 (by assumption) ?z4x3q10
     case y4x3q10=>intro wq hSw;(go_simp);(try with_reducible rfl)
     try simp only [Act.put,sA,sB,sC]
     refine tkH 4 (v:=?_) rfl (by kernel_rfl) (fun _ _ _ h=>h) (by rfl) ?y4x4q13 (by assumption) ?z4x4q13
     case y4x4q13=>intro wq hSw;(go_simp);(try with_reducible rfl)
     try simp only [Act.put,sA,sB,sC]
     refine tkH 5 (v:=?_) rfl (by kernel_rfl) (fun _ _ _ h=>h) (by rfl) ?y4x5q16 (by assumption) ?z4x5q16
     case y4x5q16=>intro wq hSw;(go_simp);(try with_reducible rfl)
     try simp only [Act.put,sA,sB,sC]
     refine tkH 7 (v:=?_) rfl (by kernel_rfl) (fun _ _ _ h=>h) (by rfl) ?y4x7q19 (by assumption) ?z4x7q19
     case y4x7q19=>intro wq hSw;(go_simp);(try with_reducible rfl)
     try simp only [Act.put,sA,sB,sC]
     refine tkH 8 (v:=?_) rfl (by kernel_rfl) (fun _ _ _ h=>h) (by rfl) ?y4x8q22 (by assumption) ?z4x8q22
     case y4x8q22=>intro wq hSw;(go_simp);(try with_reducible rfl)
     try simp only [Act.put,sA,sB,sC]
     refine tkH 10 (v:=?_) rfl (by kernel_rfl) (fun _ _ _ h=>h) (by rfl) ?y4x10q25 (by assumption) ?z4x10q25
     case y4x10q25=>intro wq hSw;(go_simp);(try with_reducible rfl)
     try simp only [Act.put,sA,sB,sC]
     refine tkH 11 (v:=?_) rfl (by kernel_rfl) (fun _ _ _ h=>h) (by rfl) ?y4x11q28 (by assumption) ?z4x11q28
     case y4x11q28=>intro wq hSw;(go_simp);(try with_reducible rfl)
     try simp only [Act.put,sA,sB,sC]
     refine wpAnyH_ready (rs:=[6,9]) (by kernel_rfl) (by simp) ?_
     refine AllReadyH.cons (o:=⟨_,_,_,_,_,_⟩) rfl (fun K hK=>?_) ?_
     ·have cq:=CE _ OQ
      go_simp
      clear cq
      refine hK.out _ _ (trivial) (fun hHeld=>?_)
      clear hK K
      try simp only [Act.put,sA,sB,sC]
      refine wpAnyH_ready (rs:=[9]) (by kernel_rfl) (by simp) ?_
      refine AllReadyH.cons (o:=⟨_,_,_,_,_,_⟩) rfl (fun K hK=>?_) AllReadyH.nil
      go_simp
      (refine (id_t _ _ _ _ _ T (HS.out.nxb kk) (by omega) HI.out).mono ?_)
      clear T
      rintro e w5 ⟨i2,rfl,I2,T,k2⟩
      replace OQ:=OQ.nxb hbw k2
      replace own:=own.nxb hbw k2
      replace kk:=kk.nxb k2
      clear k2
      refine hK.out _ _ (trivial) (fun hHeld=>?_)
      clear hK K
      try simp only [Act.put,sA,sB,sC]
      refine wpAnyH_ready (rs:=[12]) (by kernel_rfl) (by simp) ?_
      refine AllReadyH.cons (o:=⟨_,_,_,_,_,_⟩) rfl (fun K hK=>?_) AllReadyH.nil
      go_simp
      (refine (id_t _ _ _ _ _ T (HS.out.nxb kk) (by omega) HI.out).mono ?_)
      clear T
      rintro e w6 ⟨i3,rfl,I3,T,k2⟩
      replace OQ:=OQ.nxb hbw k2
      replace own:=own.nxb hbw k2
      replace kk:=kk.nxb k2
      clear k2
      refine hK.out _ _ (trivial) (fun hHeld=>?_)
      clear hK K
      try simp only [Act.put,sA,sB,sC]
      refine tkH 13 (v:=?_) rfl (by kernel_rfl) (fun _ _ _ h=>h) (by rfl) ?y4x13q65 (by assumption) ?z4x13q65
      case y4x13q65=>intro wq hSw;(go_simp);(try with_reducible rfl)
      try simp only [Act.put,sA,sB,sC]
      refine wpAnyH_ready (rs:=[14]) (by kernel_rfl) (by simp) ?_
      refine AllReadyH.cons (o:=⟨_,_,_,_,_,_⟩) rfl (fun K hK=>?_) AllReadyH.nil
      have SX:Sl 2 encS (w6.alloc (.cells #[.int .i64 i2,.int .i64 i3] 81)) (some ⟨w6.heap.size,0,none⟩) 1 [(i2,i3)]:=Sl.lit _ rfl rfl (fun _=>rfl) rfl
      go_simp
      have k8:=Ex.new w6 (.cells #[.int .i64 i2,.int .i64 i3] 81)
      replace OQ:=OQ.nx k8
      replace own:=own.nx k8
      replace kk:=kk.nxb (k8.b b)
      replace T:=T.nx k8
      clear k8
      refine hK.out _ _ (trivial) (fun hHeld=>?_)
      clear hK K
      try simp only [Act.put,sA,sB,sC]
      refine wpAnyH_ready (rs:=[15]) (by kernel_rfl) (by simp) ?_
      refine AllReadyH.cons (o:=⟨_,_,_,_,_,_⟩) rfl (fun K hK=>?_) AllReadyH.nil
      rw [if_pos (by rfl)]
      have z6:=kk.size
      refine wp_append_rda (enc:=encS) _ (.tmp 128) (.tmp 136) 82 rfl w.heap.size 81 (.agg #[.int .i64 0,.int .i64 0]) 2 16 Tryz.underlying82 Tryz.infoLk rfl (by omega) (by omega) _ c.2 own rfl _ _ 1 1 [_] SX (fun h=>by cases h) (fun _=>rfl) (by simp [encS,Value.oneCell']) rfl (by rw [← HN3.out];omega) (by omega) z6 ?_
      intro v9 w9 own9 ch0 ch1 hat
      obtain ⟨a9,c9,rfl,_,_,_,_⟩:=own9.rd (fun _=>rfl)
      obtain ⟨pc,pf,OQ2⟩:=OwnN.put (p:=1) (fun _=>rfl) (by decide) OQ hqj (hd':=(a9,(c.2++[(i2,i3)]).length,c9)) (c':=c.2++[(i2,i3)]) own9 ch0 (hat.imp id (fun h x hx=>by have h2:=h.symm.trans hx;cases h2;exact Nat.le_refl _))
      have hll:(c.2++[(i2,i3)]).length=hn3+1:=by rw [HN3.out];simp
      simp only [Hdr.val,hll] at OQ2
      have kk:Exb b w w9:=Chg.trans kk (ch1.mono (fun x hx=>hx.1))
      have T:=TP.chg T ch1 (fun x hx=>by omega)
      clear own9 ch0 ch1 hat
      refine hK.out _ _ (trivial) (fun hHeld=>?_)
      clear hK K
      try simp only [Act.put,sA,sB,sC]
      refine tkH 16 (v:=?_) rfl (by kernel_rfl) (fun _ _ _ h=>h) (by rfl) ?y4x16q97 (by assumption) ?z4x16q97
      case y4x16q97=>intro wq hSw;(go_simp);(try with_reducible rfl)
      try simp only [Act.put,sA,sB,sC]
      refine tkH 17 (v:=?_) rfl (by kernel_rfl) (fun _ _ _ h=>h) (by rfl) ?y4x17q100 (by assumption) ?z4x17q100
      case y4x17q100=>intro wq hSw;(go_simp);(try with_reducible rfl)
      try simp only [Act.put,sA,sB,sC]
      refine wpAnyH_ready (rs:=[18]) (by kernel_rfl) (by simp) ?_
      refine AllReadyH.cons (o:=⟨_,_,_,_,_,_⟩) rfl (fun K hK=>?_) AllReadyH.nil
      go_simp
      clear pc pf OQ
      refine hK.out _ _ (trivial) (fun hHeld=>?_)
      clear hK K
      try simp only [Act.put,sA,sB,sC]
      refine wpAnyH_done (by kernel_rfl) ?_ _
      have T:TK (w9.setCell ⟨g,j*2+1,none⟩ (.slice a9 (hn3+1) c9)) b:=TK.set T (p:=⟨g,j*2+1,none⟩) _ (by show b<g;omega)
      have kk:=kk.setNew (p:=⟨g,j*2+1,none⟩) (.slice a9 (hn3+1) c9) hg
      have OQ:=OQ2
      clear OQ2 own SX
      go_wp2_with fail
      exact ⟨⟨q-1,_,_,by omega,by first | rfl | rw [hqm],OQ,lk_mono (lk_set (B2:=17+(ch-q)+1) (lk_mono LO.out (Nat.le_refl _) (by omega)) j ⟨cok.out.1,by show (c.2++[(i2,i3)]).length≤_;rw [hll];omega,fun y hy=>by rcases List.mem_append.1 hy with h1 | h1;exact cok.out.2.2 y h1;rw [List.mem_singleton.1 h1];exact ⟨I2,I3⟩⟩) (by omega) (by omega),T,kk⟩,by simp [intOf];omega⟩
     refine AllReadyH.cons (o:=⟨_,_,_,_,_,_⟩) rfl (fun K hK=>?_) AllReadyH.nil
     ·go_simp
      (refine (id_t _ _ _ _ _ T (HS.out.nxb kk) (by omega) HI.out).mono ?_)
      clear T
      rintro e w5 ⟨i2,rfl,I2,T,k2⟩
      replace OQ:=OQ.nxb hbw k2
      replace own:=own.nxb hbw k2
      replace kk:=kk.nxb k2
      clear k2
      refine hK.out _ _ (trivial) (fun hHeld=>?_)
      clear hK K
      try simp only [Act.put,sA,sB,sC]
      refine wpAnyH_ready (rs:=[6,12]) (by kernel_rfl) (by simp) ?_
      refine AllReadyH.cons (o:=⟨_,_,_,_,_,_⟩) rfl (fun K hK=>?_) ?_
      ·have cq:=CE _ OQ
       go_simp
       clear cq
       refine hK.out _ _ (trivial) (fun hHeld=>?_)
       clear hK K
       try simp only [Act.put,sA,sB,sC]
       refine wpAnyH_ready (rs:=[12]) (by kernel_rfl) (by simp) ?_
       refine AllReadyH.cons (o:=⟨_,_,_,_,_,_⟩) rfl (fun K hK=>?_) AllReadyH.nil
       go_simp
       (refine (id_t _ _ _ _ _ T (HS.out.nxb kk) (by omega) HI.out).mono ?_)
       clear T
       rintro e w6 ⟨i3,rfl,I3,T,k2⟩
       replace OQ:=OQ.nxb hbw k2
       replace own:=own.nxb hbw k2
       replace kk:=kk.nxb k2
       clear k2
       refine hK.out _ _ (trivial) (fun hHeld=>?_)
       clear hK K
       try simp only [Act.put,sA,sB,sC]
       refine tkH 13 (v:=?_) rfl (by kernel_rfl) (fun _ _ _ h=>h) (by rfl) ?y4x13q145 (by assumption) ?z4x13q145
       case y4x13q145=>intro wq hSw;(go_simp);(try with_reducible rfl)
       try simp only [Act.put,sA,sB,sC]
       refine wpAnyH_ready (rs:=[14]) (by kernel_rfl) (by simp) ?_
       refine AllReadyH.cons (o:=⟨_,_,_,_,_,_⟩) rfl (fun K hK=>?_) AllReadyH.nil
       have SX:Sl 2 encS (w6.alloc (.cells #[.int .i64 i2,.int .i64 i3] 81)) (some ⟨w6.heap.size,0,none⟩) 1 [(i2,i3)]:=Sl.lit _ rfl rfl (fun _=>rfl) rfl
       go_simp
       have k8:=Ex.new w6 (.cells #[.int .i64 i2,.int .i64 i3] 81)
       replace OQ:=OQ.nx k8
       replace own:=own.nx k8
       replace kk:=kk.nxb (k8.b b)
       replace T:=T.nx k8
       clear k8
       refine hK.out _ _ (trivial) (fun hHeld=>?_)
       clear hK K
       try simp only [Act.put,sA,sB,sC]
       refine wpAnyH_ready (rs:=[15]) (by kernel_rfl) (by simp) ?_
       refine AllReadyH.cons (o:=⟨_,_,_,_,_,_⟩) rfl (fun K hK=>?_) AllReadyH.nil
       rw [if_pos (by rfl)]
       have z6:=kk.size
       refine wp_append_rda (enc:=encS) _ (.tmp 128) (.tmp 136) 82 rfl w.heap.size 81 (.agg #[.int .i64 0,.int .i64 0]) 2 16 Tryz.underlying82 Tryz.infoLk rfl (by omega) (by omega) _ c.2 own rfl _ _ 1 1 [_] SX (fun h=>by cases h) (fun _=>rfl) (by simp [encS,Value.oneCell']) rfl (by rw [← HN3.out];omega) (by omega) z6 ?_
       intro v9 w9 own9 ch0 ch1 hat
       obtain ⟨a9,c9,rfl,_,_,_,_⟩:=own9.rd (fun _=>rfl)
       obtain ⟨pc,pf,OQ2⟩:=OwnN.put (p:=1) (fun _=>rfl) (by decide) OQ hqj (hd':=(a9,(c.2++[(i2,i3)]).length,c9)) (c':=c.2++[(i2,i3)]) own9 ch0 (hat.imp id (fun h x hx=>by have h2:=h.symm.trans hx;cases h2;exact Nat.le_refl _))
       have hll:(c.2++[(i2,i3)]).length=hn3+1:=by rw [HN3.out];simp
       simp only [Hdr.val,hll] at OQ2
       have kk:Exb b w w9:=Chg.trans kk (ch1.mono (fun x hx=>hx.1))
       have T:=TP.chg T ch1 (fun x hx=>by omega)
       clear own9 ch0 ch1 hat
       refine hK.out _ _ (trivial) (fun hHeld=>?_)
       clear hK K
       try simp only [Act.put,sA,sB,sC]
       refine tkH 16 (v:=?_) rfl (by kernel_rfl) (fun _ _ _ h=>h) (by rfl) ?y4x16q177 (by assumption) ?z4x16q177
       case y4x16q177=>intro wq hSw;(go_simp);(try with_reducible rfl)
       try simp only [Act.put,sA,sB,sC]
       refine tkH 17 (v:=?_) rfl (by kernel_rfl) (fun _ _ _ h=>h) (by rfl) ?y4x17q180 (by assumption) ?z4x17q180
       case y4x17q180=>intro wq hSw;(go_simp);(try with_reducible rfl)
       try simp only [Act.put,sA,sB,sC]
       refine wpAnyH_ready (rs:=[18]) (by kernel_rfl) (by simp) ?_
       refine AllReadyH.cons (o:=⟨_,_,_,_,_,_⟩) rfl (fun K hK=>?_) AllReadyH.nil
       go_simp
       clear pc pf OQ
       refine hK.out _ _ (trivial) (fun hHeld=>?_)
       clear hK K
       try simp only [Act.put,sA,sB,sC]
       refine wpAnyH_done (by kernel_rfl) ?_ _
       have T:TK (w9.setCell ⟨g,j*2+1,none⟩ (.slice a9 (hn3+1) c9)) b:=TK.set T (p:=⟨g,j*2+1,none⟩) _ (by show b<g;omega)
       have kk:=kk.setNew (p:=⟨g,j*2+1,none⟩) (.slice a9 (hn3+1) c9) hg
       have OQ:=OQ2
       clear OQ2 own SX
       go_wp2_with fail
       exact ⟨⟨q-1,_,_,by omega,by first | rfl | rw [hqm],OQ,lk_mono (lk_set (B2:=17+(ch-q)+1) (lk_mono LO.out (Nat.le_refl _) (by omega)) j ⟨cok.out.1,by show (c.2++[(i2,i3)]).length≤_;rw [hll];omega,fun y hy=>by rcases List.mem_append.1 hy with h1 | h1;exact cok.out.2.2 y h1;rw [List.mem_singleton.1 h1];exact ⟨I2,I3⟩⟩) (by omega) (by omega),T,kk⟩,by simp [intOf];omega⟩
      refine AllReadyH.cons (o:=⟨_,_,_,_,_,_⟩) rfl (fun K hK=>?_) AllReadyH.nil
      ·go_simp
       (refine (id_t _ _ _ _ _ T (HS.out.nxb kk) (by omega) HI.out).mono ?_)
       clear T
       rintro e w6 ⟨i3,rfl,I3,T,k2⟩
       replace OQ:=OQ.nxb hbw k2
       replace own:=own.nxb hbw k2
       replace kk:=kk.nxb k2
       clear k2
       refine hK.out _ _ (trivial) (fun hHeld=>?_)
       clear hK K
       try simp only [Act.put,sA,sB,sC]
       refine tkH 13 (v:=?_) rfl (by kernel_rfl) (fun _ _ _ h=>h) (by rfl) ?y4x13q204 (by assumption) ?z4x13q204
       case y4x13q204=>intro wq hSw;(go_simp);(try with_reducible rfl)
       try simp only [Act.put,sA,sB,sC]
       refine wpAnyH_ready (rs:=[6,14]) (by kernel_rfl) (by simp) ?_
       refine AllReadyH.cons (o:=⟨_,_,_,_,_,_⟩) rfl (fun K hK=>?_) ?_
       ·have cq:=CE _ OQ
        go_simp
        clear cq
        refine hK.out _ _ (trivial) (fun hHeld=>?_)
        clear hK K
        try simp only [Act.put,sA,sB,sC]
        refine wpAnyH_ready (rs:=[14]) (by kernel_rfl) (by simp) ?_
        refine AllReadyH.cons (o:=⟨_,_,_,_,_,_⟩) rfl (fun K hK=>?_) AllReadyH.nil
        have SX:Sl 2 encS (w6.alloc (.cells #[.int .i64 i2,.int .i64 i3] 81)) (some ⟨w6.heap.size,0,none⟩) 1 [(i2,i3)]:=Sl.lit _ rfl rfl (fun _=>rfl) rfl
        go_simp
        have k8:=Ex.new w6 (.cells #[.int .i64 i2,.int .i64 i3] 81)
        replace OQ:=OQ.nx k8
        replace own:=own.nx k8
        replace kk:=kk.nxb (k8.b b)
        replace T:=T.nx k8
        clear k8
        refine hK.out _ _ (trivial) (fun hHeld=>?_)
        clear hK K
        try simp only [Act.put,sA,sB,sC]
        refine wpAnyH_ready (rs:=[15]) (by kernel_rfl) (by simp) ?_
        refine AllReadyH.cons (o:=⟨_,_,_,_,_,_⟩) rfl (fun K hK=>?_) AllReadyH.nil
        rw [if_pos (by rfl)]
        have z6:=kk.size
        refine wp_append_rda (enc:=encS) _ (.tmp 128) (.tmp 136) 82 rfl w.heap.size 81 (.agg #[.int .i64 0,.int .i64 0]) 2 16 Tryz.underlying82 Tryz.infoLk rfl (by omega) (by omega) _ c.2 own rfl _ _ 1 1 [_] SX (fun h=>by cases h) (fun _=>rfl) (by simp [encS,Value.oneCell']) rfl (by rw [← HN3.out];omega) (by omega) z6 ?_
        intro v9 w9 own9 ch0 ch1 hat
        obtain ⟨a9,c9,rfl,_,_,_,_⟩:=own9.rd (fun _=>rfl)
        obtain ⟨pc,pf,OQ2⟩:=OwnN.put (p:=1) (fun _=>rfl) (by decide) OQ hqj (hd':=(a9,(c.2++[(i2,i3)]).length,c9)) (c':=c.2++[(i2,i3)]) own9 ch0 (hat.imp id (fun h x hx=>by have h2:=h.symm.trans hx;cases h2;exact Nat.le_refl _))
        have hll:(c.2++[(i2,i3)]).length=hn3+1:=by rw [HN3.out];simp
        simp only [Hdr.val,hll] at OQ2
        have kk:Exb b w w9:=Chg.trans kk (ch1.mono (fun x hx=>hx.1))
        have T:=TP.chg T ch1 (fun x hx=>by omega)
        clear own9 ch0 ch1 hat
        refine hK.out _ _ (trivial) (fun hHeld=>?_)
        clear hK K
        try simp only [Act.put,sA,sB,sC]
        refine tkH 16 (v:=?_) rfl (by kernel_rfl) (fun _ _ _ h=>h) (by rfl) ?y4x16q244 (by assumption) ?z4x16q244
        case y4x16q244=>intro wq hSw;(go_simp);(try with_reducible rfl)
        try simp only [Act.put,sA,sB,sC]
        refine tkH 17 (v:=?_) rfl (by kernel_rfl) (fun _ _ _ h=>h) (by rfl) ?y4x17q247 (by assumption) ?z4x17q247
        case y4x17q247=>intro wq hSw;(go_simp);(try with_reducible rfl)
        try simp only [Act.put,sA,sB,sC]
        refine wpAnyH_ready (rs:=[18]) (by kernel_rfl) (by simp) ?_
        refine AllReadyH.cons (o:=⟨_,_,_,_,_,_⟩) rfl (fun K hK=>?_) AllReadyH.nil
        go_simp
        clear pc pf OQ
        refine hK.out _ _ (trivial) (fun hHeld=>?_)
        clear hK K
        try simp only [Act.put,sA,sB,sC]
        refine wpAnyH_done (by kernel_rfl) ?_ _
        have T:TK (w9.setCell ⟨g,j*2+1,none⟩ (.slice a9 (hn3+1) c9)) b:=TK.set T (p:=⟨g,j*2+1,none⟩) _ (by show b<g;omega)
        have kk:=kk.setNew (p:=⟨g,j*2+1,none⟩) (.slice a9 (hn3+1) c9) hg
        have OQ:=OQ2
        clear OQ2 own SX
        go_wp2_with fail
        exact ⟨⟨q-1,_,_,by omega,by first | rfl | rw [hqm],OQ,lk_mono (lk_set (B2:=17+(ch-q)+1) (lk_mono LO.out (Nat.le_refl _) (by omega)) j ⟨cok.out.1,by show (c.2++[(i2,i3)]).length≤_;rw [hll];omega,fun y hy=>by rcases List.mem_append.1 hy with h1 | h1;exact cok.out.2.2 y h1;rw [List.mem_singleton.1 h1];exact ⟨I2,I3⟩⟩) (by omega) (by omega),T,kk⟩,by simp [intOf];omega⟩
       refine AllReadyH.cons (o:=⟨_,_,_,_,_,_⟩) rfl (fun K hK=>?_) AllReadyH.nil
       ·have SX:Sl 2 encS (w6.alloc (.cells #[.int .i64 i2,.int .i64 i3] 81)) (some ⟨w6.heap.size,0,none⟩) 1 [(i2,i3)]:=Sl.lit _ rfl rfl (fun _=>rfl) rfl
        go_simp
        have k8:=Ex.new w6 (.cells #[.int .i64 i2,.int .i64 i3] 81)
        replace OQ:=OQ.nx k8
        replace own:=own.nx k8
        replace kk:=kk.nxb (k8.b b)
        replace T:=T.nx k8
        clear k8
        refine hK.out _ _ (trivial) (fun hHeld=>?_)
        clear hK K
        try simp only [Act.put,sA,sB,sC]
        refine wpAnyH_ready (rs:=[6]) (by kernel_rfl) (by simp) ?_
        refine AllReadyH.cons (o:=⟨_,_,_,_,_,_⟩) rfl (fun K hK=>?_) AllReadyH.nil
        have cq:=CE _ OQ
        go_simp
        clear cq
        refine hK.out _ _ (trivial) (fun hHeld=>?_)
        clear hK K
        try simp only [Act.put,sA,sB,sC]
        refine wpAnyH_ready (rs:=[15]) (by kernel_rfl) (by simp) ?_
        refine AllReadyH.cons (o:=⟨_,_,_,_,_,_⟩) rfl (fun K hK=>?_) AllReadyH.nil
        rw [if_pos (by rfl)]
        have z6:=kk.size
        refine wp_append_rda (enc:=encS) _ (.tmp 128) (.tmp 136) 82 rfl w.heap.size 81 (.agg #[.int .i64 0,.int .i64 0]) 2 16 Tryz.underlying82 Tryz.infoLk rfl (by omega) (by omega) _ c.2 own rfl _ _ 1 1 [_] SX (fun h=>by cases h) (fun _=>rfl) (by simp [encS,Value.oneCell']) rfl (by rw [← HN3.out];omega) (by omega) z6 ?_
        intro v9 w9 own9 ch0 ch1 hat
        obtain ⟨a9,c9,rfl,_,_,_,_⟩:=own9.rd (fun _=>rfl)
        obtain ⟨pc,pf,OQ2⟩:=OwnN.put (p:=1) (fun _=>rfl) (by decide) OQ hqj (hd':=(a9,(c.2++[(i2,i3)]).length,c9)) (c':=c.2++[(i2,i3)]) own9 ch0 (hat.imp id (fun h x hx=>by have h2:=h.symm.trans hx;cases h2;exact Nat.le_refl _))
        have hll:(c.2++[(i2,i3)]).length=hn3+1:=by rw [HN3.out];simp
        simp only [Hdr.val,hll] at OQ2
        have kk:Exb b w w9:=Chg.trans kk (ch1.mono (fun x hx=>hx.1))
        have T:=TP.chg T ch1 (fun x hx=>by omega)
        clear own9 ch0 ch1 hat
        refine hK.out _ _ (trivial) (fun hHeld=>?_)
        clear hK K
        try simp only [Act.put,sA,sB,sC]
        refine tkH 16 (v:=?_) rfl (by kernel_rfl) (fun _ _ _ h=>h) (by rfl) ?y4x16q295 (by assumption) ?z4x16q295
        case y4x16q295=>intro wq hSw;(go_simp);(try with_reducible rfl)
        try simp only [Act.put,sA,sB,sC]
        refine tkH 17 (v:=?_) rfl (by kernel_rfl) (fun _ _ _ h=>h) (by rfl) ?y4x17q298 (by assumption) ?z4x17q298
        case y4x17q298=>intro wq hSw;(go_simp);(try with_reducible rfl)
        try simp only [Act.put,sA,sB,sC]
        refine wpAnyH_ready (rs:=[18]) (by kernel_rfl) (by simp) ?_
        refine AllReadyH.cons (o:=⟨_,_,_,_,_,_⟩) rfl (fun K hK=>?_) AllReadyH.nil
        go_simp
        clear pc pf OQ
        refine hK.out _ _ (trivial) (fun hHeld=>?_)
        clear hK K
        try simp only [Act.put,sA,sB,sC]
        refine wpAnyH_done (by kernel_rfl) ?_ _
        have T:TK (w9.setCell ⟨g,j*2+1,none⟩ (.slice a9 (hn3+1) c9)) b:=TK.set T (p:=⟨g,j*2+1,none⟩) _ (by show b<g;omega)
        have kk:=kk.setNew (p:=⟨g,j*2+1,none⟩) (.slice a9 (hn3+1) c9) hg
        have OQ:=OQ2
        clear OQ2 own SX
        go_wp2_with fail
        exact ⟨⟨q-1,_,_,by omega,by first | rfl | rw [hqm],OQ,lk_mono (lk_set (B2:=17+(ch-q)+1) (lk_mono LO.out (Nat.le_refl _) (by omega)) j ⟨cok.out.1,by show (c.2++[(i2,i3)]).length≤_;rw [hll];omega,fun y hy=>by rcases List.mem_append.1 hy with h1 | h1;exact cok.out.2.2 y h1;rw [List.mem_singleton.1 h1];exact ⟨I2,I3⟩⟩) (by omega) (by omega),T,kk⟩,by simp [intOf];omega⟩
    ·have d0:(r==0)=false:=by simpa using r00
     have d1:(r==1)=false:=by simpa using r01
     have d2:(r==2)=false:=by simpa using r02
     have d3:(r==3)=false:=by simpa using r03
     clear r00 r01 r02 r03 r0 r1
     obtain ⟨a6,c6,e6,r6,hc6,_,some6⟩:=own.rd (fun _=>rfl)
     obtain ⟨rfl,hn3e,rfl⟩:ha=a6∧hn3=c.2.length∧hcp=c6:=by simpa [Hdr.val] using e6
     have HN3:=lH hn3e
     have hcl:hn3≤17+(ch-q):=by rw [hn3e];exact cok.out.2.1
     rw [← hn3e] at hc6
     have jw3:IntKind.i64.wrap ((hn3:Int)+1)=(hn3:Int)+1:=IntWalk.i64_in _ (by omega)
     clear hn3e
     have SOME6:=lH some6
     clear e6 r6 some6 jw3
     have CE:∀ cur:World,OwnLk w.heap.size cur (.slice (some ⟨g,0,none⟩) L.length cap3) qs L→cur.cell? ⟨g,j*2+1,none⟩=some (.slice ha hn3 hcp):=fun cur h=>by
      have:=(OwnW.set1 (sz:=2) (enc:=encP encI) (c:=1) (fun _=>rfl) h.1 hqj (by omega)).1
      exact this
     have cq:=CE _ OQ
     by_cases hn0:hn3=0
     ·have dn:¬ (0:Int)<(hn3:Int):=by omega
      have HN0:=lH hn0
      clear own hqj hn0
      go_wp2_with fail
      exact ⟨⟨q-1,qs,L,by omega,by first | rfl | rw [hqm],OQ,lk_mono LO.out (by omega) (by omega),T,kk⟩,by simp [intOf];omega⟩
     ·have dn:(0:Int)<(hn3:Int):=by omega
      obtain ⟨gi,rfl,hgi⟩:=SOME6.out (fun h0=>hn0 (by rw [HN3.out,h0];rfl))
      clear hn0
      go_wp2_with fail
      clear cq
      replace OQ:=OQ.nx (Ex.refl w4).drew
      replace own:=own.nx (Ex.refl w4).drew
      replace T:TK w4.drew b:=T
      replace kk:=kk.drew
      refine wp_region_held_drew (S:=fun _=>True) (by kernel_rfl) (trivial) (fun hHeld=>?_)
      refine tkH 0 (v:=?_) rfl (by kernel_rfl) (fun _ _ _ h=>h) (by rfl) ?y5x0q1 (by assumption) ?z5x0q1
      case y5x0q1=>intro wq hSw;(go_simp);(try with_reducible rfl)
      try simp only [Act.put,sA,sB,sC]
      refine tkH 1 (v:=?_) rfl (by kernel_rfl) (fun _ _ _ h=>h) (by rfl) ?y5x1q4 (by assumption) ?z5x1q4
      case y5x1q4=>intro wq hSw;(go_simp);(try with_reducible rfl)
      try simp only [Act.put,sA,sB,sC]
      refine tkH 2 (v:=?_) rfl (by kernel_rfl) (fun _ _ _ h=>h) (by rfl) ?y5x2q7 (by assumption) ?z5x2q7
      case y5x2q7=>intro wq hSw;(go_simp);(try with_reducible rfl)
      try simp only [Act.put,sA,sB,sC]
      refine tkH 3 (v:=?_) rfl (by kernel_rfl) (fun _ _ _ h=>h) (by rfl) ?y5x3q10 (by assumption) ?z5x3q10
      case y5x3q10=>intro wq hSw;(go_simp);(try with_reducible rfl)
      try simp only [Act.put,sA,sB,sC]
      refine tkH 5 (v:=?_) rfl (by kernel_rfl) (fun _ _ _ h=>h) (by rfl) ?y5x5q13 (by assumption) ?z5x5q13
      case y5x5q13=>intro wq hSw;(go_simp);(try with_reducible rfl)
      try simp only [Act.put,sA,sB,sC]
      refine tkH 6 (v:=?_) rfl (by kernel_rfl) (fun _ _ _ h=>h) (by rfl) ?y5x6q16 (by assumption) ?z5x6q16
      case y5x6q16=>intro wq hSw;(go_simp);(try with_reducible rfl)
      try simp only [Act.put,sA,sB,sC]
      refine wpAnyH_ready (rs:=[4,7]) (by kernel_rfl) (by simp) ?_
      refine AllReadyH.cons (o:=⟨_,_,_,_,_,_⟩) rfl (fun K hK=>?_) ?_
      ·have cq:=CE _ OQ
       go_simp
       clear cq
       refine hK.out _ _ (trivial) (fun hHeld=>?_)
       clear hK K
       try simp only [Act.put,sA,sB,sC]
       refine wpAnyH_ready (rs:=[7]) (by kernel_rfl) (by simp) ?_
       refine AllReadyH.cons (o:=⟨_,_,_,_,_,_⟩) rfl (fun K hK=>?_) AllReadyH.nil
       go_simp
       ((with_reducible refine (next_t (hn3:Int) _ T (by omega) (by omega)).mono ?_))
       clear T
       rintro e w5 ⟨m,rfl,m0,m1,T,k2⟩
       obtain ⟨m,rfl⟩:=Int.eq_ofNat_of_zero_le m0
       replace OQ:=OQ.nxb hbw k2
       replace own:=own.nxb hbw k2
       replace kk:=kk.nxb k2
       clear k2
       have hmc:(m:Int)<(hn3:Int):=by omega
       refine hK.out _ _ (trivial) (fun hHeld=>?_)
       clear hK K
       try simp only [Act.put,sA,sB,sC]
       refine tkH 8 (v:=?_) rfl (by kernel_rfl) (fun _ _ _ h=>h) (by rfl) ?y5x8q42 (by assumption) ?z5x8q42
       case y5x8q42=>intro wq hSw;(go_simp);(try with_reducible rfl)
       try simp only [Act.put,sA,sB,sC]
       refine tkH 9 (v:=?_) rfl (by kernel_rfl) (fun _ _ _ h=>h) (by rfl) ?y5x9q45 (by assumption) ?z5x9q45
       case y5x9q45=>intro wq hSw;(go_simp);(try with_reducible rfl)
       try simp only [Act.put,sA,sB,sC]
       refine wpAnyH_done (by kernel_rfl) ?_ _
       have hml:m<c.2.length:=by rw [← HN3.out];omega
       obtain ⟨yy,hyy⟩:∃ yy,c.2[m]?=some yy:=⟨c.2[m],by simp⟩
       have HYY:=lH hyy
       have yok:=lH (cok.out.2.2 yy (List.mem_of_getElem? hyy))
       clear hyy
       go_wp2_with fail
       refine (bool_t 2 _ T (by omega) (by omega)).mono ?_
       clear T
       rintro e w6 ⟨rr,rfl,T,k2⟩
       replace OQ:=OQ.nxb hbw k2
       replace own:=own.nxb hbw k2
       replace kk:=kk.nxb k2
       clear k2
       cases rr with
       | true =>
        go_wp2_with fail
        refine (id_t _ _ _ _ _ T (HS.out.nxb kk) (by omega) HI.out).mono ?_
        clear T
        rintro e w7 ⟨i2,rfl,I2,T,k2⟩
        replace OQ:=OQ.nxb hbw k2
        replace own:=own.nxb hbw k2
        replace kk:=kk.nxb k2
        obtain ⟨pc,pf,OS⟩:=own_set1 (sz:=2) (enc:=encS) (c:=0) (fun _=>rfl) own HYY.out (by omega)
        have OS:=lH (OS (i2,yy.2) (.int .i64 i2) rfl)
        have pc:w7.cell? ⟨gi,m*2,none⟩=some (.int .i64 yy.1):=pc
        have pf:w7.frozen? ⟨gi,m*2,none⟩=false:=pf
        clear k2
        go_wp2_with fail
        have OQ:=OwnN.keep (p:=1) (by decide) OQ hqj (c':=c.2.set m (i2,yy.2)) OS.out ((Chg.refl _ w7).setCell _ (fun x hx he=>hx.2 (by rw [he];rfl)))
        have T:TK _ b:=TK.set T (p:=⟨gi,m*2,none⟩) (.int .i64 i2) (by show b<gi;omega)
        have kk:=kk.setNew (p:=⟨gi,m*2,none⟩) (.int .i64 i2) hgi
        exact ⟨⟨q-1,_,_,by omega,by first | rfl | rw [hqm],OQ,lk_mono (lk_set LO.out j ⟨cok.out.1,by show (c.2.set m (i2,yy.2)).length≤_;rw [List.length_set,← HN3.out];omega,fun y hy=>by rcases List.mem_or_eq_of_mem_set hy with h1 | h1;exact cok.out.2.2 y h1;rw [h1];exact ⟨I2,yok.out.2⟩⟩) (by omega) (by omega),T,kk⟩,by simp [intOf];omega⟩
       | false =>
        go_wp2_with fail
        refine (id_t _ _ _ _ _ T (HS.out.nxb kk) (by omega) HI.out).mono ?_
        clear T
        rintro e w7 ⟨i2,rfl,I2,T,k2⟩
        replace OQ:=OQ.nxb hbw k2
        replace own:=own.nxb hbw k2
        replace kk:=kk.nxb k2
        obtain ⟨pc,pf,OS⟩:=own_set1 (sz:=2) (enc:=encS) (c:=1) (fun _=>rfl) own HYY.out (by omega)
        have OS:=lH (OS (yy.1,i2) (.int .i64 i2) rfl)
        have pc:w7.cell? ⟨gi,m*2+1,none⟩=some (.int .i64 yy.2):=pc
        have pf:w7.frozen? ⟨gi,m*2+1,none⟩=false:=pf
        clear k2
        go_wp2_with fail
        have OQ:=OwnN.keep (p:=1) (by decide) OQ hqj (c':=c.2.set m (yy.1,i2)) OS.out ((Chg.refl _ w7).setCell _ (fun x hx he=>hx.2 (by rw [he];rfl)))
        have T:TK _ b:=TK.set T (p:=⟨gi,m*2+1,none⟩) (.int .i64 i2) (by show b<gi;omega)
        have kk:=kk.setNew (p:=⟨gi,m*2+1,none⟩) (.int .i64 i2) hgi
        exact ⟨⟨q-1,_,_,by omega,by first | rfl | rw [hqm],OQ,lk_mono (lk_set LO.out j ⟨cok.out.1,by show (c.2.set m (yy.1,i2)).length≤_;rw [List.length_set,← HN3.out];omega,fun y hy=>by rcases List.mem_or_eq_of_mem_set hy with h1 | h1;exact cok.out.2.2 y h1;rw [h1];exact ⟨yok.out.1,I2⟩⟩) (by omega) (by omega),T,kk⟩,by simp [intOf];omega⟩
      refine AllReadyH.cons (o:=⟨_,_,_,_,_,_⟩) rfl (fun K hK=>?_) AllReadyH.nil
      ·go_simp
       ((with_reducible refine (next_t (hn3:Int) _ T (by omega) (by omega)).mono ?_))
       clear T
       rintro e w5 ⟨m,rfl,m0,m1,T,k2⟩
       obtain ⟨m,rfl⟩:=Int.eq_ofNat_of_zero_le m0
       replace OQ:=OQ.nxb hbw k2
       replace own:=own.nxb hbw k2
       replace kk:=kk.nxb k2
       clear k2
       have hmc:(m:Int)<(hn3:Int):=by omega
       refine hK.out _ _ (trivial) (fun hHeld=>?_)
       clear hK K
       try simp only [Act.put,sA,sB,sC]
       refine wpAnyH_ready (rs:=[4]) (by kernel_rfl) (by simp) ?_
       refine AllReadyH.cons (o:=⟨_,_,_,_,_,_⟩) rfl (fun K hK=>?_) AllReadyH.nil
       have cq:=CE _ OQ
       go_simp
       clear cq
       refine hK.out _ _ (trivial) (fun hHeld=>?_)
       clear hK K
       try simp only [Act.put,sA,sB,sC]
       refine tkH 8 (v:=?_) rfl (by kernel_rfl) (fun _ _ _ h=>h) (by rfl) ?y5x8q72 (by assumption) ?z5x8q72
       case y5x8q72=>intro wq hSw;(go_simp);(try with_reducible rfl)
       try simp only [Act.put,sA,sB,sC]
       refine tkH 9 (v:=?_) rfl (by kernel_rfl) (fun _ _ _ h=>h) (by rfl) ?y5x9q75 (by assumption) ?z5x9q75
       case y5x9q75=>intro wq hSw;(go_simp);(try with_reducible rfl)
       try simp only [Act.put,sA,sB,sC]
       refine wpAnyH_done (by kernel_rfl) ?_ _
       have hml:m<c.2.length:=by rw [← HN3.out];omega
       obtain ⟨yy,hyy⟩:∃ yy,c.2[m]?=some yy:=⟨c.2[m],by simp⟩
       have HYY:=lH hyy
       have yok:=lH (cok.out.2.2 yy (List.mem_of_getElem? hyy))
       clear hyy
       go_wp2_with fail
       refine (bool_t 2 _ T (by omega) (by omega)).mono ?_
       clear T
       rintro e w6 ⟨rr,rfl,T,k2⟩
       replace OQ:=OQ.nxb hbw k2
       replace own:=own.nxb hbw k2
       replace kk:=kk.nxb k2
       clear k2
       cases rr with
       | true =>
        go_wp2_with fail
        refine (id_t _ _ _ _ _ T (HS.out.nxb kk) (by omega) HI.out).mono ?_
        clear T
        rintro e w7 ⟨i2,rfl,I2,T,k2⟩
        replace OQ:=OQ.nxb hbw k2
        replace own:=own.nxb hbw k2
        replace kk:=kk.nxb k2
        obtain ⟨pc,pf,OS⟩:=own_set1 (sz:=2) (enc:=encS) (c:=0) (fun _=>rfl) own HYY.out (by omega)
        have OS:=lH (OS (i2,yy.2) (.int .i64 i2) rfl)
        have pc:w7.cell? ⟨gi,m*2,none⟩=some (.int .i64 yy.1):=pc
        have pf:w7.frozen? ⟨gi,m*2,none⟩=false:=pf
        clear k2
        go_wp2_with fail
        have OQ:=OwnN.keep (p:=1) (by decide) OQ hqj (c':=c.2.set m (i2,yy.2)) OS.out ((Chg.refl _ w7).setCell _ (fun x hx he=>hx.2 (by rw [he];rfl)))
        have T:TK _ b:=TK.set T (p:=⟨gi,m*2,none⟩) (.int .i64 i2) (by show b<gi;omega)
        have kk:=kk.setNew (p:=⟨gi,m*2,none⟩) (.int .i64 i2) hgi
        exact ⟨⟨q-1,_,_,by omega,by first | rfl | rw [hqm],OQ,lk_mono (lk_set LO.out j ⟨cok.out.1,by show (c.2.set m (i2,yy.2)).length≤_;rw [List.length_set,← HN3.out];omega,fun y hy=>by rcases List.mem_or_eq_of_mem_set hy with h1 | h1;exact cok.out.2.2 y h1;rw [h1];exact ⟨I2,yok.out.2⟩⟩) (by omega) (by omega),T,kk⟩,by simp [intOf];omega⟩
       | false =>
        go_wp2_with fail
        refine (id_t _ _ _ _ _ T (HS.out.nxb kk) (by omega) HI.out).mono ?_
        clear T
        rintro e w7 ⟨i2,rfl,I2,T,k2⟩
        replace OQ:=OQ.nxb hbw k2
        replace own:=own.nxb hbw k2
        replace kk:=kk.nxb k2
        obtain ⟨pc,pf,OS⟩:=own_set1 (sz:=2) (enc:=encS) (c:=1) (fun _=>rfl) own HYY.out (by omega)
        have OS:=lH (OS (yy.1,i2) (.int .i64 i2) rfl)
        have pc:w7.cell? ⟨gi,m*2+1,none⟩=some (.int .i64 yy.2):=pc
        have pf:w7.frozen? ⟨gi,m*2+1,none⟩=false:=pf
        clear k2
        go_wp2_with fail
        have OQ:=OwnN.keep (p:=1) (by decide) OQ hqj (c':=c.2.set m (yy.1,i2)) OS.out ((Chg.refl _ w7).setCell _ (fun x hx he=>hx.2 (by rw [he];rfl)))
        have T:TK _ b:=TK.set T (p:=⟨gi,m*2+1,none⟩) (.int .i64 i2) (by show b<gi;omega)
        have kk:=kk.setNew (p:=⟨gi,m*2+1,none⟩) (.int .i64 i2) hgi
        exact ⟨⟨q-1,_,_,by omega,by first | rfl | rw [hqm],OQ,lk_mono (lk_set LO.out j ⟨cok.out.1,by show (c.2.set m (yy.1,i2)).length≤_;rw [List.length_set,← HN3.out];omega,fun y hy=>by rcases List.mem_or_eq_of_mem_set hy with h1 | h1;exact cok.out.2.2 y h1;rw [h1];exact ⟨yok.out.1,I2⟩⟩) (by omega) (by omega),T,kk⟩,by simp [intOf];omega⟩
  ·have OQ:=lH OQ
   clear NL3 some3
   go_wp2_with fail
   go_ret
   exact ⟨_,qs,L,rfl,OQ.out,lk_mono LO.out (by omega) (by omega),T,kk⟩
end Go.Proofs.YtalmjklljofhbaaGreatDoor
