/- Texts for TopWireProof. -/
import Derived.Test.YthcholmhmcpooaaGreatDoorWAll31
import Derived.Test.YthcholmhmcpooaaGreatDoorTopWireProofL3
set_option linter.unusedSimpArgs false
set_option linter.unusedVariables false

namespace Go.Proofs.YthcholmhmcpooaaGreatDoor
open Go.RowKit
def NLb (b:Nat) (w:World) (a:Option Addr) (n:Nat) (L:List Lkd):Prop :=
 ∃ qs:List (Int×Hdr),Slb 2 (encP encI) b w a n qs∧L.length=n∧∀ (j:Nat) (q:Int×Hdr) (c:Lkd),qs[j]?=some q→L[j]?=some c→q.1=c.1∧Slb 2 encS b w q.2.1 q.2.2.1 c.2
theorem NLb.nxb {b:Nat} {w w':World} {a:Option Addr} {n:Nat} {L:List Lkd} (h:NLb b w a n L) (k:Exb b w w'):NLb b w' a n L:=by
 obtain ⟨qs,h1,h2,h3⟩:=h
 exact ⟨qs,h1.nxb k,h2,fun j q c hq hc=>⟨(h3 j q c hq hc).1,(h3 j q c hq hc).2.nxb k⟩⟩
theorem NLb.nl {b:Nat} {w:World} {a:Option Addr} {n:Nat} {L:List Lkd} (h:NLb b w a n L):LkL w a n L:=by
 obtain ⟨qs,h1,h2,h3⟩:=h
 exact ⟨qs,h1.sl,h2,fun j q c hq hc=>⟨(h3 j q c hq hc).1,(h3 j q c hq hc).2.sl⟩⟩
theorem NL.nlb {b:Nat} {w:World} {a:Option Addr} {n:Nat} {L:List Lkd} (h:LkL w a n L) (hb:w.heap.size≤b):NLb b w a n L:=by
 obtain ⟨qs,h1,h2,h3⟩:=h
 exact ⟨qs,h1.slb hb,h2,fun j q c hq hc=>⟨(h3 j q c hq hc).1,(h3 j q c hq hc).2.slb hb⟩⟩
theorem OwnN.nlb {base b:Nat} {w:World} {v:Value} {qs:List (Int×Hdr)} {L:List Lkd} (h:OwnLk base w v qs L) (hb:b<base) :
  ∃ a cap,v=.slice a L.length cap∧NLb b w a L.length L∧L.length≤cap∧cap≤maxLen:=by
 obtain ⟨a,cap,e,r,c1,c2,c3,c4⟩:=h.1.rd (fun _=>rfl)
 rw [h.2.1] at e r c1
 refine ⟨a,cap,e,⟨qs,Rd.mono r (fun k hk=>⟨hk.2,by have:=hk.1;omega⟩),rfl,fun j q c hq hc=>?_⟩,c1,c2⟩
 obtain ⟨r1,r2⟩:=h.2.2.1 j q c hq hc
 refine ⟨r1,?_⟩
 obtain ⟨a',cap',e',r',_⟩:=r2.rd (fun _=>rfl)
 obtain ⟨x,q1,q2,q3⟩:=q
 simp only [Hdr.val,Value.slice.injEq] at e'
 obtain ⟨rfl,rfl,rfl⟩:=e'
 exact Rd.mono r' (fun k hk=>⟨hk.2,by have:=hk.1;omega⟩)
theorem encNds_len (l:List Nd):(encNds l).1.length≤100000:=by
 unfold encNds
 split
 ·simp
 ·split
  ·simp
  ·rename_i h1 h2
   have h3:=enc_take_le l l.length (fun j z _ hz=>by
    have hm:=List.mem_of_getElem? hz
    by_cases hk:64<z.key.size
    ·exact absurd (List.any_eq_true.2 ⟨z,hm,by simpa using hk⟩) h2
    ·omega)
   rw [List.take_length] at h3
   have h4:=encU_length l.length
   simp only [List.length_append]
   omega
theorem encLks_len (l:List Lkd):(encLks l).1.length≤100000:=by
 unfold encLks
 split
 ·simp
 ·split
  ·simp
  ·rename_i h1 h2
   have h3:=encl_take_le l l.length (fun j z _ hz=>by
    have hm:=List.mem_of_getElem? hz
    by_cases hk:17<z.2.length
    ·exact absurd (List.any_eq_true.2 ⟨z,hm,by simpa using hk⟩) h2
    ·omega)
   rw [List.take_length] at h3
   have h4:=encU_length l.length
   simp only [List.length_append]
   omega
theorem own_run {base:Nat} {w:World} {v:Value} {l:List UInt8} (h:OwnL 1 encB 5 base w v l) (hl:l.length≤100000) :
  ∃ a n cap,v=.slice a n cap∧(convert 65 9 (.slice a n cap)).run Tryz.prog w=.ok (.string (strB l)) w∧n≤100000∧n≤cap∧cap≤maxLen∧Form a cap∧(a=none→cap=0):=by
 obtain ⟨a,c,rfl,r,c1,c2,c3⟩:=h.rd (fun _=>rfl)
 have s:Sl 1 encB w a l.length l:=Rd.mono r (fun _ hk=>hk.2)
 have f:=own_form h
 exact ⟨a,_,c,rfl,run_str Tryz.underlying65 Tryz.underlying5 Tryz.underlying9 s,hl,c1,c2,f,fun h0=>by
  rcases f with ⟨_,h⟩ | ⟨x,o,h⟩
  ·exact h
  ·rw [h0] at h;cases h⟩
theorem own_slb {base b:Nat} {w:World} {a:Option Addr} {n cap:Nat} {l:List UInt8} (h:OwnL 1 encB 5 base w (.slice a n cap) l) (hb:b<base):Slb 1 encB b w a n l:=by
 obtain ⟨a',c,e,r,_⟩:=h.rd (fun _=>rfl)
 cases e
 exact Rd.mono r (fun k hk=>⟨hk.2,by have:=hk.1;omega⟩)
def PredK (g:Nat) (lb:Array Value) (id:Int) (w:World):Prop:=∀ (c:Lkd) (h1:Hdr) (w':World),Ex w w'→Calls Tryz.prog g (#[.agg #[.int .i64 c.1,h1.val]]++lb) w' fun e w''=>e=.returned (.bool (c.1==id))∧Ex w' w''
def KeRel (k0:Nat) (w:World) (i:Value) (wr:World):Prop:=∃ k:Nat,k≤k0∧i=.int .i64 k∧Ex w wr
set_option maxRecDepth 100000 in
set_option maxHeartbeats 2000000 in
theorem idxf_lk (g:Nat) (lb:Array Value) (id:Int) (eg:∀ args w,(callFunc g args).run Tryz.prog w=.ok (.enter g args) w) (a:Option Addr) (n c:Nat) (L:List Lkd) (w:World) (h:LkL w a n L) (hn:n≤1000000) (hp:PredK g lb id w)
  (k0:Nat) (y:Lkd) (hy:L[k0]?=some y) (he:y.1=id) (hno:∀ j z,j<k0→L[j]?=some z→z.1≠id) :
  Calls Tryz.prog 210 #[.slice a n c,.func (.func g) #[] lb] w fun e w'=>e=.returned (.int .i64 k0)∧Ex w w':=by
 have hkn:k0<n:=by have h1:=(List.getElem?_eq_some_iff.1 hy).1;have h2:=h.len;omega
 have HP:=lH hp
 have hs:=lH h
 have HY0:=lH hy
 have HE:=lH he
 have HNO:=lH hno
 clear h hp hy he hno
 go_enter Tryz.func210,Tryz.ntmps210
 go_wp2
 go_loopw [8] (fun i wr=>KeRel k0 w i wr) (fun i _=>n-(intOf i).toNat)
 case atStart=>exact ⟨0,by omega,rfl,Ex.refl _⟩
 case round =>
  obtain ⟨k,hk,rfl,kw⟩:=hrel
  obtain ⟨wo,rfl⟩:∃ wo:World,wo=wr:=⟨_,rfl⟩
  have hlt:k<n:=by omega
  obtain ⟨x,o,a',n',c',d,rfl,hx,hd,hc,sr⟩:=(hs.out.nx kw).at hlt
  have e0:wo.cell? ⟨x,o+k*2,none⟩=some (.int .i64 d.1):=hc 0 _ rfl
  have e1:wo.cell? ⟨x,o+k*2+1,none⟩=some (.slice a' n' c'):=hc 1 _ rfl
  have HD:=lH hd
  have hcl:=HP.out d (a',n',c') wo kw
  have KW:=lH kw
  simp only [Hdr.val] at hcl
  clear hd kw sr hc
  go_wp2_with fail
  refine hcl.mono ?_
  rintro e w2 ⟨rfl,k2⟩
  have K2:=lH (KW.out.nx k2)
  clear hcl k2 e0 e1
  by_cases hv:k=k0
  ·have hb:(d.1==id)=true:=by
    have h1:=HD.out
    rw [hv,HY0.out] at h1
    cases h1
    simpa using HE.out
   rw [hb]
   obtain rfl:=hv
   clear hb
   go_wp2_with fail
   go_ret
   exact ⟨rfl,K2.out⟩
  ·have hb:(d.1==id)=false:=by simpa using HNO.out k d (by omega) HD.out
   rw [hb]
   have hk1:k+1≤k0:=by omega
   clear hb hv
   go_wp2_with fail
   exact ⟨⟨k+1,hk1,by go_num,K2.out⟩,by simp [intOf];omega⟩
set_option maxHeartbeats 1000000 in
theorem elem1_p (gx:Nat) (id:Int) (w:World) (hx:Blk w gx [.int .i64 id] 3):PredK 211 #[.pointer (some ⟨gx,0,none⟩)] id w:=by
 intro p h1 w' kk
 have q0:=(hx.nx kk).cell 0 _ rfl
 have hg:=(hx.nx kk).lt
 have hne:¬ gx=w'.heap.size:=by omega
 obtain ⟨a1,n1,c1⟩:=h1
 simp only [Hdr.val]
 clear hx kk
 go_enter Tryz.func211,Tryz.ntmps211
 go_wp2
 go_ret
 exact ⟨rfl,(Ex.refl _).alloc _⟩
def ElPost (R:List (Int×Int)) (w:World) (e:Ending) (w':World):Prop:=∃ a' c',e=.returned (.slice a' R.length c')∧Sl 2 encS w' a' R.length R∧Ex w w'
set_option maxHeartbeats 2000000 in
theorem elem_p (a:Option Addr) (n c:Nat) (L:List Lkd) (id:Int) (w:World) (h:LkL w a n L) (hn:n≤1000000) (k0:Nat) (y:Lkd) (hy:L[k0]?=some y) (he:y.1=id) (hno:∀ j z,j<k0→L[j]?=some z→z.1≠id) :
  Calls Tryz.prog 165 #[.slice a n c,.int .i64 id] w (ElPost y.2 w):=by
 have hkn:k0<n:=by have h1:=(List.getElem?_eq_some_iff.1 hy).1;have h2:=h.len;omega
 have HS:=lH h
 have HY0:=lH hy
 have eg:∀ args w,(callFunc 211 args).run Tryz.prog w=.ok (.enter 211 args) w:=enters_of Tryz.func211 (by kernel_rfl) rfl
 have EG:=lH eg
 have IX:=lH (fun (w':World) gx kw B=>idxf_lk 211 #[.pointer (some ⟨gx,0,none⟩)] id EG.out a n c L w' (HS.out.nx kw) hn (elem1_p gx id w' B) k0 y hy he hno)
 clear h hy he hno eg
 have B1:=Blk.new w [.int .i64 id] 3
 have kk:=Ex.new w (.cells #[.int .i64 id] 3)
 obtain ⟨w1,hw1⟩:∃ w1,w1=w.alloc (.cells #[.int .i64 id] 3):=⟨_,rfl⟩
 obtain ⟨g1,hg1⟩:∃ g1,g1=w.heap.size:=⟨_,rfl⟩
 replace B1:Blk w1 g1 [.int .i64 id] 3:=by rw [hw1,hg1];exact B1
 rw [← hw1] at kk
 have Hw1:=lH hw1
 have Hg1:=lH hg1
 have K1:=lH kk
 have B1H:=lH B1
 clear kk B1 hw1 hg1
 go_enter Tryz.func165,Tryz.ntmps165
 go_upto_region 1 with fail
 rw [← Hg1.out,← Hw1.out]
 clear Hg1 Hw1
 go_wp2_with fail
 (with_reducible refine (IX.out _ _ K1.out B1H.out).mono ?_)
 rintro e w2 ⟨rfl,kk⟩
 have K2:=lH (K1.out.nx kk)
 clear kk
 obtain ⟨x,o,a',n',c',d,rfl,hx,hd,hc,sr⟩:=(HS.out.nx K2.out).at hkn
 have e1:w2.cell? ⟨x,o+k0*2+1,none⟩=some (.slice a' n' c'):=hc 1 _ rfl
 have hdy:d=y:=Option.some.inj (hd.symm.trans HY0.out)
 have hn':n'=d.2.length:=sr.len.symm
 subst hn'
 have SR:=lH sr
 have hge:(k0:Int) ≥ 0:=by omega
 have HDY:=lH hdy
 clear hc sr hd hdy
 go_wp2_with fail
 go_ret
 exact ⟨a',c',by rw [← HDY.out];rfl,by rw [← HDY.out];exact SR.out,K2.out⟩
section
variable {α:Type} {sz:Nat} {enc:α→List Value} {e:TypeId} {base:Nat} {w:World} {l:List α} {g n cap:Nat}
theorem OwnL.parts (h:OwnL sz enc e base w (.slice (some ⟨g,0,none⟩) n cap) l):∃ cur:Array Value,n=l.length∧base≤g∧w.heap[g]?=some (.cells cur e (0,0))∧n≤cap∧cap≤maxLen∧cur.size=cap*sz∧cur.toList.take (n*sz)=l.flatMap enc∧(l.flatMap enc).length=n*sz:=by
 rcases h.2 with ⟨h1,_⟩ | ⟨g',cap',cur,e1,e2,e3,e4,e5,e6,e7⟩
 ·cases h1
 ·obtain ⟨rfl,hLn,rfl⟩:g=g'∧n=l.length∧cap=cap':=by simpa using e1
  subst hLn
  exact ⟨cur,rfl,e2,e3,e4,e5,e6,e7,h.1⟩
theorem OwnL.cellC (h:OwnL sz enc e base w (.slice (some ⟨g,0,none⟩) n cap) l) {j:Nat} (hj:j<cap*sz):(w.cell? ⟨g,j,none⟩).isSome=true∧w.frozen? ⟨g,j,none⟩=false:=by
 obtain ⟨cur,a1,a2,a3,a4,a5,a6,a7,a8⟩:=h.parts
 have hsz:j<cur.size:=by rw [a6];exact hj
 exact ⟨by simp [World.cell?,a3,hsz],by simp [World.frozen?,a3]⟩
end
theorem own_over {w:World} {g base M1:Nat} {cur:Array Value} {R:List (Int×Int)} (hb:base≤g) (hB:w.heap[g]?=some (.cells cur 128 (0,0))) (hc:cur.size=M1*2) (hR:R.length=M1) (hM:M1≤17) :
  OwnL 2 encS 128 base (w.setCells g 0 (R.flatMap encS)) (.slice (some ⟨g,0,none⟩) M1 M1) R∧Exb g w (w.setCells g 0 (R.flatMap encS)):=by
 have hf:(R.flatMap encS).length=R.length*2:=flatN_len (enc:=encS) (sz:=2) (fun _=>rfl) R
 have hh:=heap_setCells (R.flatMap encS) w cur 0 hB
 have hl:(arrSet cur 0 (R.flatMap encS)).toList=R.flatMap encS:=by
  rw [arrSet_list _ _ _ (by omega)]
  have:cur.toList.drop (0+(R.flatMap encS).length)=[]:=List.drop_eq_nil_of_le (by rw [Array.length_toList];omega)
  rw [this]
  simp
 refine ⟨⟨hf,.inr ⟨g,M1,_,by rw [hR],hb,hh,by omega,by unfold maxLen;omega,by rw [arrSet_size];omega,?_⟩⟩,chg_cells (fun x hx=>hx.2) _ _ 0 (Exb.refl g w)⟩
 rw [hl]
 exact List.take_of_length_le (by omega)
theorem run_over {w:World} {g base M1:Nat} {l0 R:List (Int×Int)} {a:Option Addr} {c:Nat} (IN:OwnL 2 encS 128 base w (.slice (some ⟨g,0,none⟩) M1 M1) l0) (hR:R.length=M1) (h1:1≤M1) (hS:Sl 2 encS w a R.length R) (ty:TypeId) :
  (Builtin.copy_ #[119,119] ty #[.slice (some ⟨g,0,none⟩) M1 M1,.slice a R.length c]).run Tryz.prog w=.ok (goInt M1) (w.setCells g 0 (R.flatMap encS)):=by
 have hf:(R.flatMap encS).length=R.length*2:=flatN_len (enc:=encS) (sz:=2) (fun _=>rfl) R
 obtain ⟨x,o,rfl⟩:∃ x o,a=some ⟨x,o,none⟩:=by
  rcases hS.2 with h0 | ⟨x,o,e,_⟩
  ·omega
  ·exact ⟨x,o,e⟩
 refine run_copy_cells2 w _ _ ty 128 g 0 M1 M1 ⟨x,o,none⟩ R.length c (R.flatMap encS) Tryz.underlying119 (by kernel_rfl) M1 (by rw [hR];exact (Nat.min_self M1).symm) (by omega) (fun j v hj=>?_) (fun j hj=>?_) (fun j hj=>?_) (fun v hv=>?_)
 ·have hjl:j<(R.flatMap encS).length:=(List.getElem?_eq_some_iff.1 hj).1
  have hk:j / 2<R.length:=by omega
  obtain ⟨x1,o1,y,e,_,hy,hcell⟩:=hS.at hk
  cases e
  have he:j / 2*2+j % 2=j:=by omega
  have hu:(encS y)[j % 2]?=some v:=by
   rcases Nat.mod_two_eq_zero_or_one j with h | h
   ·have hd:=flat_at (enc:=encS) (sz:=2) (fun _=>rfl) R (j / 2) y hy 0 (.int .i64 y.1) rfl
    rw [h] at he ⊢
    rw [he,hj] at hd
    cases hd
    rfl
   ·have hd:=flat_at (enc:=encS) (sz:=2) (fun _=>rfl) R (j / 2) y hy 1 (.int .i64 y.2) rfl
    rw [h] at he ⊢
    rw [he,hj] at hd
    cases hd
    rfl
  have:=hcell (j % 2) v hu
  rw [Nat.add_assoc,he] at this
  rw [show (⟨x,o,none⟩:Addr).add j=⟨x,o+j,none⟩ from by unfold Addr.add;split<;>simp_all]
  exact this
 ·simp only [Nat.zero_add]
  exact (OwnL.cellC IN (by omega)).1
 ·simp only [Nat.zero_add]
  exact (OwnL.cellC IN (by omega)).2
 ·obtain ⟨q,_,hq⟩:=List.mem_flatMap.1 hv
  revert hq
  simp only [encS,List.mem_cons,List.not_mem_nil,or_false]
  rintro (rfl | rfl)<;>rfl
theorem proper_i (a:Option Addr) (n c:Nat) (N:List Nd) (m:Int) (w:World) (h:Sl 3 encN w a n N) (hn:n≤1000000) (hc:n≤c) (hm:c≤maxLen) (h0:checkN N=0) (hm0:0≤m) (hm16:m≤16) :
  Calls Tryz.prog 164 #[.slice a n c,.int .i64 m] w fun e w'=>e=.returned (.bool true)∧Ex w w':=by
 have C0:=lH h0
 clear h0
 go_enter Tryz.func164,Tryz.ntmps164
 go_wp2_with fail
 (with_reducible refine (check_p _ _ _ N _ h hn hc hm).mono ?_)
 rintro e w1 ⟨rfl,kk⟩
 rw [C0.out]
 have g0:m ≥ 0:=hm0
 have K:=lH kk
 clear kk h hm0
 go_wp2_with fail
 go_ret
 exact ⟨rfl,K.out⟩
def NormRel (L:List Lkd) (n:Nat) (w:World) (o i:Value) (wr:World):Prop :=
 ∃ (k:Nat) (qs:List (Int×Hdr)),k≤n∧i=.int .i64 k∧OwnLk w.heap.size wr o qs (L.take k)∧Ex w wr
set_option maxRecDepth 100000 in
set_option maxHeartbeats 4000000 in
theorem normal_i (a:Option Addr) (n c:Nat) (N:List Nd) (a2:Option Addr) (n2 c2:Nat) (L:List Lkd) (m:Nat) (w:World) (h:Sl 3 encN w a n N) (hn:n≤1000) (hc:n≤c) (hm:c≤maxLen) (h0:checkN N=0) (hm16:m≤16) (hL:L=(buildN N (m:Int)).1) (h2:LkL w a2 n2 L) (hn2:n2≤1000000) :
  Calls Tryz.prog 91 #[.slice a n c,.slice a2 n2 c2,.int .i64 m] w fun e w'=>∃ v qs,e=.returned v∧OwnLk w.heap.size w' v qs L∧Ex w w':=by
 have HN:=lH h.len
 have C0:=lH h0
 have HS:=lH h
 have H2:=lH h2
 have HL:=lH hL
 have LR:Hid (L=(sortN N).map (rowN (sortN N) (m+1))):=lH (by rw [hL];exact build_row h0 hm16)
 have LV:Hid (∀ c∈L,c.2.length=m+1):=lH (by rw [hL];exact build_lv h0 hm16)
 have HLl:L.length=n:=by have:=LR.out;rw [this,List.length_map,sortN_length];exact h.len
 have HLN:=lH HLl
 obtain ⟨M1,hM1⟩:∃ M1,M1=m+1:=⟨_,rfl⟩
 have HM1:=lH hM1
 have hM17:M1≤17:=by omega
 have hM0:1≤M1:=by omega
 clear h0 h h2 hL HLl hM1
 go_enter Tryz.func91,Tryz.ntmps91
 go_wp2_with fail
 (with_reducible refine (proper_i _ _ _ N (m:Int) _ HS.out (by omega) hc hm C0.out (by omega) (by omega)).mono ?_)
 rintro e w1 ⟨rfl,kk⟩
 have K1:=lH kk
 clear kk
 go_wp2_with fail
 (with_reducible refine (sort_p _ _ _ N _ (HS.out.nx K1.out) (by omega)).mono ?_)
 rintro e w2 ⟨v,S,rfl,OS,⟨hp,hsrt⟩,kk⟩
 have hSe:S=sortN N:=sortN_unique (check_keys C0.out) hp hsrt
 obtain ⟨a5,c5,rfl,r5,hc5,hm5⟩:=OS.sl3 (fun _=>rfl)
 have K2:=lH (K1.out.nx kk)
 have HSE:=lH hSe
 have hSl:S.length=n:=by rw [hSe,sortN_length];exact HN.out
 rw [hSl] at r5 hc5 ⊢
 have R5:=lH r5
 have HSL:=lH hSl
 clear hSe kk OS hp hsrt r5 hSl
 go_wp2_with fail
 go_loopw [7,18] (fun o i wr=>NormRel L n w2 o i wr) (fun _ i _=>n-(intOf i).toNat)
 case atStart=>exact ⟨0,[],by omega,rfl,OwnN.nil _ _ _ _ _ _ _ _,Ex.refl _⟩
 case round =>
  obtain ⟨k,qs,hk,rfl,own,kw⟩:=hrel
  obtain ⟨wi,rfl⟩:∃ wi:World,wi=wr:=⟨_,rfl⟩
  have OWN:=lH own
  have KW:=lH kw
  by_cases hkn:k<n
  ·obtain ⟨x5,o5,y,rfl,hx5,hy,hcc⟩:=(R5.out.nx kw).at hkn
   have e0:wi.cell? ⟨x5,o5+k*3,none⟩=some (.int .i64 y.id):=hcc 0 _ rfl
   have e1:wi.cell? ⟨x5,o5+k*3+1,none⟩=some (.string y.key):=hcc 1 _ rfl
   have e2:wi.cell? ⟨x5,o5+k*3+1+1,none⟩=some (.int .u32 y.word):=by simpa [Nat.add_assoc] using hcc 2 _ rfl
   have e2':wi.cell? ⟨x5,o5+k*3+2,none⟩=some (.int .u32 y.word):=hcc 2 _ rfl
   obtain ⟨d,hd⟩:∃ d,L[k]?=some d:=⟨_,List.getElem?_eq_getElem (by have:=HLN.out;omega)⟩
   have hdy:d.1=y.id:=by
    have h1:=hd
    rw [LR.out,List.getElem?_map,← HSE.out,hy] at h1
    cases h1
    rfl
   have hdl:d.2.length=M1:=by rw [HM1.out];exact LV.out d (List.mem_of_getElem? hd)
   have hno:∀ j z,j<k→L[j]?=some z→z.1≠y.id:=fun j z hj hz=>by
    rw [LR.out,List.getElem?_map,← HSE.out] at hz
    cases hu:S[j]? with
    | none=>rw [hu] at hz;cases hz
    | some u =>
     rw [hu] at hz
     cases hz
     have hu':=hu
     have hy':=hy
     rw [HSE.out] at hu' hy'
     exact (asc_at (sortN_str C0.out) hu' hy' hj).2
   have HD:=lH hd
   have HDY:=lH hdy
   have HDL:=lH hdl
   have HNO:=lH hno
   have TK1:Hid (L.take (k+1)=L.take k++[d]):=lH (by rw [List.take_add_one,hd];rfl)
   have hql:qs.length=k:=by rw [own.2.1,List.length_take];have:=HLN.out;omega
   have zw:=kw.size
   clear hcc hd hdy hdl hno hy own kw
   have B9:=Blk.new wi [.int .i64 y.id,.string y.key,.int .u32 y.word] 36
   have kk:=Ex.new wi (.cells #[.int .i64 y.id,.string y.key,.int .u32 y.word] 36)
   obtain ⟨w5,hw5⟩:∃ w5,w5=wi.alloc (.cells #[.int .i64 y.id,.string y.key,.int .u32 y.word] 36):=⟨_,rfl⟩
   obtain ⟨g9,hg9⟩:∃ g9,g9=wi.heap.size:=⟨_,rfl⟩
   replace B9:Blk w5 g9 [.int .i64 y.id,.string y.key,.int .u32 y.word] 36:=by rw [hw5,hg9];exact B9
   rw [← hw5] at kk
   have Hw5:=lH hw5
   have Hg9:=lH hg9
   have K5:=lH kk
   have z5:=kk.size
   clear kk hw5 hg9
   go_upto_region 7 with fail
   rw [← Hg9.out,← Hw5.out]
   clear Hg9 Hw5
   have B9H:=lH B9
   obtain ⟨Z,hZ⟩:∃ Z,Z=((List.replicate M1 ((0,0):Int×Int)).flatMap encS).toArray:=⟨_,rfl⟩
   have cm:(Instr.makeSlice 119 (.int .i64 ((m:Int)+1)) (.int .i64 ((m:Int)+1))).run Tryz.prog w5=.ok (.slice (some ⟨w5.heap.size,0,none⟩) M1 M1) (w5.alloc (.cells Z 128)):=by
    rw [hZ];exact mkLk m M1 hm16 HM1.out _
   have wrm:IntKind.i64.wrap ((m:Int)+1)=(m:Int)+1:=IntWalk.i64_in _ (by omega)
   have hZs:Z.size=M1*2:=by
    rw [hZ]
    have:=flatN_len (enc:=encS) (sz:=2) (fun _=>rfl) (List.replicate M1 ((0,0):Int×Int))
    simpa using this
   have HZS:=lH hZs
   obtain ⟨w6,hw6⟩:∃ w6,w6=w5.alloc (.cells Z 128):=⟨_,rfl⟩
   obtain ⟨g10,hg10⟩:∃ g10,g10=w5.heap.size:=⟨_,rfl⟩
   have kk:Ex w5 w6:=by rw [hw6];exact Ex.new _ _
   have BZ:w6.heap[g10]?=some (.cells Z 128 (0,0)):=by rw [hw6,hg10];exact heap_new w5 _
   have H6:=lH hw6
   have H10:=lH hg10
   have IN:OwnL 2 encS 128 w2.heap.size w6 (.slice (some ⟨g10,0,none⟩) M1 M1) (List.replicate M1 ((0,0):Int×Int)):=by
    have:=OwnL.lit (sz:=2) (enc:=encS) (e:=128) (base:=w2.heap.size) (w:=w5) (List.replicate M1 ((0,0):Int×Int)) (fun _=>rfl) (by omega) (by rw [List.length_replicate];unfold maxLen;omega) (cs:=Z) hZ
    rw [List.length_replicate] at this
    rw [hw6,hg10]
    exact this
   have B6:=B9.nx kk
   have BZH:=lH BZ
   have INH:=lH IN
   have K6:=lH (K5.out.nx kk)
   have z6:=kk.size
   have zg:w2.heap.size≤g10:=by omega
   have zgi:wi.heap.size≤g10:=by omega
   have hg9n:¬ g9=g10:=by have:=B9.lt;omega
   clear e0 e1 e2 e2' hZ hZs hw6 hg10 BZ kk
   go_upto_region 8 with fail
   rw [← H6.out,← H10.out]
   clear cm H6 H10
   have b0:=B6.cell 0 _ rfl
   have B6H:=lH B6
   have lt10:=heap_lt BZH.out
   clear B6 IN B9
   go_wp2_with fail
   (with_reducible refine (elem_p _ _ _ L y.id _ (H2.out.nx ((K2.out.nx KW.out).nx K6.out)) hn2 k d HD.out HDY.out HNO.out).mono ?_)
   rintro e w7 ⟨a',c',rfl,SR,kk⟩
   have BZ7:w7.heap[g10]?=some (.cells Z 128 (0,0)):=(kk.block g10 lt10).trans BZH.out
   have IN7:=INH.out.nx kk
   have cp:=fun ty=>run_over (c:=c') IN7 HDL.out hM0 SR ty
   have OV:=own_over (R:=d.2) zg BZ7 HZS.out HDL.out hM17
   have B7:=B6H.out.nx kk
   have K7:=K6.out.nx kk
   have z7:=kk.size
   clear b0 kk IN7 BZ7 SR
   go_upto_region 9 with (at_builtin;refine wpList_copy_runI _ rfl _ _ 119 119 rfl _ _ rfl rfl (cp _) ?_)
   obtain ⟨w8,hw8⟩:∃ w8,w8=w7.setCells g10 0 (d.2.flatMap encS):=⟨_,rfl⟩
   rw [← hw8] at OV ⊢
   have B8:=B7.nxb hg9n OV.2
   have K8:Ex wi w8:=Chg.trans K7 (Chg.mono OV.2 (fun x hx=>⟨Nat.lt_of_lt_of_le hx K7.size,by have:x<wi.heap.size:=hx;omega⟩))
   have q0:=B8.cell 0 _ rfl
   have OQ1:=OWN.out.nx K8
   have own2:=OV.1
   have z8:=K8.size
   have FR:∀ (j:Nat) (r:Int×Hdr) (g:Nat),qs[j]?=some r→r.2.val.ownBlock=some g→¬ (Value.slice (some ⟨g10,0,none⟩) M1 M1).ownBlock=some g:=fun j r g hr hg hv=>by
    have h1:=OWN.out.lt hr hg
    cases hv
    exact absurd (show g10<wi.heap.size from h1) (by omega)
   have k8:=Ex.new w8 (.cells #[.int .i64 y.id,.slice (some ⟨g10,0,none⟩) M1 M1] 121)
   have SX:Sl 2 (encP encI) (w8.alloc (.cells #[.int .i64 y.id,.slice (some ⟨g10,0,none⟩) M1 M1] 121)) (some ⟨w8.heap.size,0,none⟩) 1 [((y.id,(some ⟨g10,0,none⟩,M1,M1)):Int×Hdr)]:=Sl.lit _ rfl rfl (fun _=>rfl) rfl
   have OQ2:=OQ1.nx k8
   have own3:=own2.nx k8
   have K9:=K8.nx k8
   clear cp OV B7 K7 hw8
   go_upto_region 10 with (at_builtin;(refine wpList_append_W (enc:=encP encI) _ rfl _ _ 28 rfl w2.heap.size 121 (.agg #[.int .i64 0,.slice none 0 0]) 2 32 Tryz.underlying28 Tryz.infoLd rfl (by omega) (by omega) _ _ OQ2.1 rfl _ 1 1 [_] SX (fun _=>rfl) (by simp [encP,encI,Hdr.val,Value.oneCell']) rfl (by omega) (by omega) (by simp;omega) ?_);intro v9 w9 own9 ch0 ch1 _)
   have OQ9:=OQ2.push (by decide) own9 ch0 own3 FR
   have RR:=lH (show NormRel L n w2 v9 (.int .i64 ((k:Int)+1)) w9 from ⟨k+1,_,by omega,by go_num,by rw [TK1.out,show d=(y.id,d.2) from by rw [← HDY.out]];exact OQ9,Chg.trans (KW.out.nx K9) ch1⟩)
   clear OQ1 OQ2 own9 ch0 ch1 own3 own2 SX FR OQ9 q0 K9 k8 B8
   go_wp2_with fail
   exact ⟨RR.out,by simp [intOf];omega⟩
  ·obtain rfl:k=n:=by omega
   rw [List.take_of_length_le (by have:=HLN.out;omega)] at own
   have OW:=lH own
   clear own kw OWN
   go_wp2_with fail
   go_ret
   exact ⟨_,_,rfl,OwnN.base OW.out (by have:=K2.out.size;omega),K2.out.nx KW.out⟩
end Go.Proofs.YthcholmhmcpooaaGreatDoor
namespace Go.Proofs.YthcholmhmcpooaaGreatDoor
open Go.RowKit Go.Maps
def CkA (P:Program) (kt:TypeId) (gm n:Nat) (w:World) (i:Value) (wr:World):Prop :=
 ∃ (k:Nat) (f:Int→Value),k≤n∧i=.int .i64 k∧RawM P kt wr gm k f∧Exb gm w wr
def CkB (n:Nat) (w:World) (o i:Value) (wr:World):Prop:=∃ k:Nat,k≤n∧o=.slice none 0 0∧i=.int .i64 k∧Ex w wr
theorem litPair (u:World) (x y:Int):∃ g v,g=u.heap.size∧v=u.alloc (.cells #[.int .i64 x,.int .i64 x,.int .i64 y,.int .i64 y] 164)∧Blk v g [.int .i64 x,.int .i64 x,.int .i64 y,.int .i64 y] 164∧Ex u v :=
 ⟨_,_,rfl,rfl,Blk.new _ _ _,Ex.new _ _⟩
set_option maxRecDepth 100000 in
set_option maxHeartbeats 16000000 in
theorem check_i (a:Option Addr) (n c:Nat) (N:List Nd) (a2:Option Addr) (n2 c2:Nat) (L:List Lkd) (m:Nat) (w:World) (h:Sl 3 encN w a n N) (hn:n≤1000) (hc:n≤c) (hm:c≤maxLen) (h0:checkN N=0) (hm16:m≤16) (hw:∀ x∈N,x.word<4294967296) (hT:TabG w) (hL:L=(buildN N (m:Int)).1) (h2:LkL w a2 n2 L) (hn2:n2≤1000000) :
  Calls Tryz.prog 27 #[.slice a n c,.slice a2 n2 c2,.int .i64 m] w fun e w'=>e=.returned (.slice none 0 0)∧Ex w w':=by
 have HN:=lH h.len
 have C0:=lH h0
 have HL:=lH hL
 have HW:=lH hw
 have LV:Hid (∀ c∈L,c.2.length=m+1):=lH (by rw [hL];exact build_lv h0 hm16)
 have hLl:L.length≤1000:=by rw [hL];exact (buildN_small N (m:Int) (by have:=h.len;omega)).1
 have HOK:=lH (roster_ok h0)
 obtain ⟨M1,hM1⟩:∃ M1,M1=m+1:=⟨_,rfl⟩
 rw [← hM1] at LV
 have hM17:M1≤17:=by omega
 clear hM1
 have hkt:Tryz.prog.underlying 3=some (.int .i64):=Tryz.underlying3
 have hmt:Tryz.prog.underlying 135=some (.map 3 36):=by kernel_rfl
 have HKT:=lH hkt
 have HMT:=lH hmt
 obtain ⟨w1,hw1⟩:∃ w1,w1=w.alloc (.map #[] 0):=⟨_,rfl⟩
 obtain ⟨gm,hgm⟩:∃ gm,gm=w.heap.size:=⟨_,rfl⟩
 have k1:Ex w w1:=by rw [hw1];exact Ex.new _ _
 have MI:RawM Tryz.prog 3 w1 gm 0 (fun _=>nilS):=by rw [hw1,hgm];exact RawM.made w _ _
 have gT:=hT.lt
 have hTb:¬ 1=gm:=by omega
 have hS1:=(h.slb (b:=gm) (Nat.le_of_eq hgm.symm)).nxb (k1.b gm)
 have HS:=lH (fun wq (kq:Exb gm w1 wq)=>(hS1.nxb kq).sl)
 have H2:=lH (fun wq (kq:Ex w wq)=>h2.nx kq)
 have HT1:=lH (hT.nx k1)
 have K1:=lH k1
 have HW1:=lH hw1
 have HGM:=lH hgm
 have zgm:w.heap.size≤gm:=by omega
 clear h h0 hL hw hT h2 hkt hmt hw1 hgm k1 hS1 gT
 have hmm:=@run_makeMap Tryz.prog
 go_enter Tryz.func27,Tryz.ntmps27
 go_upto_region 2 with fail
 rw [← HGM.out,← HW1.out]
 clear HGM HW1 hmm
 go_wp2_with fail
 go_loopw [23] (fun i wr=>CkA Tryz.prog 3 gm n w1 i wr) (fun i _=>n-(intOf i).toNat)
 case atStart=>exact ⟨0,_,by omega,rfl,MI,Exb.refl _ _⟩
 case round =>
  clear MI
  obtain ⟨k,f,hk,rfl,MI,kw⟩:=hrel
  obtain ⟨wo,rfl⟩:∃ wo:World,wo=wr:=⟨_,rfl⟩
  by_cases hlt:k<n
  ·obtain ⟨x1,o1,y,rfl,hx1,hy,hc1⟩:=(HS.out _ kw).at hlt
   have e0:wo.cell? ⟨x1,o1+k*3,none⟩=some (.int .i64 y.id):=hc1 0 _ rfl
   have e1:wo.cell? ⟨x1,o1+k*3+1,none⟩=some (.string y.key):=hc1 1 _ rfl
   have e2:wo.cell? ⟨x1,o1+k*3+2,none⟩=some (.int .u32 y.word):=hc1 2 _ rfl
   have e2':wo.cell? ⟨x1,o1+k*3+1+1,none⟩=some (.int .u32 y.word):=e2
   have hwf:(Lit.int .i64 y.id).wf=true:=wf_of (HOK.out y (List.mem_of_getElem? hy)).1.1
   have HWF:=lH hwf
   have hmlt:=MI.lt
   clear hy hc1 hwf
   have B9:=Blk.new wo [.int .i64 y.id,.string y.key,.int .u32 y.word] 36
   have kk:=Ex.new wo (.cells #[.int .i64 y.id,.string y.key,.int .u32 y.word] 36)
   obtain ⟨w7,hw7⟩:∃ w7,w7=wo.alloc (.cells #[.int .i64 y.id,.string y.key,.int .u32 y.word] 36):=⟨_,rfl⟩
   obtain ⟨g9,hg9⟩:∃ g9,g9=wo.heap.size:=⟨_,rfl⟩
   replace B9:Blk w7 g9 [.int .i64 y.id,.string y.key,.int .u32 y.word] 36:=by rw [hw7,hg9];exact B9
   rw [← hw7] at kk
   have Hw7:=lH hw7
   have Hg9:=lH hg9
   replace MI:=MI.nx kk
   have hg9b:g9≠gm:=by omega
   have KW:=lH (kw.nxb (kk.b gm))
   clear kk hw7 hg9 kw
   go_upto_region 5 with fail
   rw [← Hg9.out,← Hw7.out]
   clear Hg9 Hw7
   clear e0 e1 e2 e2'
   obtain ⟨wm,hrun,MI2,km⟩:=MI.put HKT.out HMT.out (by omega) HWF.out (.agg #[.int .i64 y.id,.string y.key,.int .u32 y.word])
   have b0:=B9.cell 0 _ rfl
   have b1:=B9.cell 1 _ rfl
   have b2:=B9.cell 2 _ rfl
   have RR:=lH (show CkA Tryz.prog 3 gm n w1 (.int .i64 ((k:Int)+1)) wm from ⟨k+1,_,by omega,by go_num,MI2,KW.out.nxb km.1⟩)
   clear MI2 MI km B9
   go_wp2_with fail
   exact ⟨RR.out,by simp [intOf];omega⟩
  ·obtain rfl:k=n:=by omega
   have K2:=lH (show Ex w wo from Chg.trans K1.out (Chg.mono kw (fun x hx=>⟨Nat.lt_of_lt_of_le hx K1.out.size,by have:x<w.heap.size:=hx;omega⟩)))
   have HT2:=lH (HT1.out.nxb hTb kw)
   have HS2:=lH (HS.out _ kw)
   clear MI kw HS
   go_wp2_with fail
   (with_reducible refine (build_p _ _ _ N (m:Int) _ HS2.out (by omega) hc hm HW.out HT2.out).mono ?_)
   rintro e w2 ⟨v,qs,rfl,own,kk⟩
   rw [← HL.out] at own
   obtain ⟨aW,cW,rfl,LW⟩:=own.nl'
   have LWH:=lH LW
   have K3:=lH (K2.out.nx kk)
   have HS3:=lH (HS2.out.nx kk)
   clear own LW kk
   go_wp2_with fail
   (with_reducible refine (normal_i _ _ _ N _ _ _ L m _ HS3.out hn hc hm C0.out hm16 HL.out (H2.out _ K3.out) hn2).mono ?_)
   rintro e w3 ⟨v,q3,rfl,own,kk⟩
   obtain ⟨aO,cO,rfl,LO⟩:=own.nl'
   have LOH:=lH LO
   have LWH:=lH (LWH.out.nx kk)
   have K4:=lH (K3.out.nx kk)
   clear own LO kk K3 HS3 HT2
   go_wp2_with fail
   go_loopw [12,43] (fun o i wr=>CkB L.length w3 o i wr) (fun _ i _=>L.length-(intOf i).toNat)
   case atStart=>exact ⟨0,by omega,rfl,rfl,Ex.refl _⟩
   case round =>
    obtain ⟨i,hi,rfl,rfl,kw⟩:=hrel
    obtain ⟨wj,rfl⟩:∃ wj:World,wj=wr:=⟨_,rfl⟩
    by_cases hil:i<L.length
    ·obtain ⟨x,o,a',n',c',d,rfl,hx,hd,hcc,sr⟩:=(LOH.out.nx kw).at hil
     have e0:wj.cell? ⟨x,o+i*2,none⟩=some (.int .i64 d.1):=hcc 0 _ rfl
     have e1:wj.cell? ⟨x,o+i*2+1,none⟩=some (.slice a' n' c'):=hcc 1 _ rfl
     obtain ⟨x',o',a'',n'',c'',d',rfl,hx',hd',hcc',sr'⟩:=(LWH.out.nx kw).at hil
     obtain rfl:d'=d:=Option.some.inj (hd'.symm.trans hd)
     have u1:wj.cell? ⟨x',o'+i*2+1,none⟩=some (.slice a'' n'' c''):=hcc' 1 _ rfl
     have hnl:M1=n':=by rw [← sr.len];exact (LV.out d' (List.mem_of_getElem? hd)).symm
     have hnl':M1=n'':=by rw [← sr'.len];exact (LV.out d' (List.mem_of_getElem? hd)).symm
     subst hnl
     subst hnl'
     have SR:=lH sr
     have SR':=lH sr'
     have hxlt:=hx
     have hxlt':=hx'
     clear hd hd' hcc hcc' sr sr'
     have B14:=Blk.new wj [.int .i64 d'.1,.slice a' M1 c'] 121
     have kk:=Ex.new wj (.cells #[.int .i64 d'.1,.slice a' M1 c'] 121)
     obtain ⟨w4,hw4⟩:∃ w4,w4=wj.alloc (.cells #[.int .i64 d'.1,.slice a' M1 c'] 121):=⟨_,rfl⟩
     obtain ⟨g14,hg14⟩:∃ g14,g14=wj.heap.size:=⟨_,rfl⟩
     replace B14:Blk w4 g14 [.int .i64 d'.1,.slice a' M1 c'] 121:=by rw [hw4,hg14];exact B14
     rw [← hw4] at kk
     have Hw4:=lH hw4
     have Hg14:=lH hg14
     have KW:=lH kw
     have K5:=lH kk
     have U1:=lH (fun wq (kq:Ex w4 wq)=>(kk.nx kq).cellv u1 hxlt')
     clear kk hw4 hg14 kw u1
     go_upto_region 12 with fail
     rw [← Hg14.out,← Hw4.out]
     clear Hg14 Hw4
     clear e0 e1
     have b1:=B14.cell 1 _ rfl
     go_wp2_with fail
     go_loopw [12,51] (fun o i wr=>CkB M1 w4 o i wr) (fun _ i _=>M1-(intOf i).toNat)
     case atStart=>exact ⟨0,by omega,rfl,rfl,Ex.refl _⟩
     case round =>
      clear b1
      obtain ⟨lev,hlev,rfl,rfl,kv⟩:=hrel
      obtain ⟨wl,rfl⟩:∃ wl:World,wl=wr:=⟨_,rfl⟩
      by_cases hll:lev<M1
      ·obtain ⟨p,op,q,rfl,hp,hq,hcq⟩:=(SR.out.nx (K5.out.nx kv)).at hll
       have e0:wl.cell? ⟨p,op+lev*2,none⟩=some (.int .i64 q.1):=hcq 0 _ rfl
       have e1:wl.cell? ⟨p,op+lev*2+1,none⟩=some (.int .i64 q.2):=hcq 1 _ rfl
       obtain ⟨p',op',q',rfl,hp',hq',hcq'⟩:=(SR'.out.nx (K5.out.nx kv)).at hll
       obtain rfl:q'=q:=Option.some.inj (hq'.symm.trans hq)
       have f0:wl.cell? ⟨p',op'+lev*2,none⟩=some (.int .i64 q'.1):=hcq' 0 _ rfl
       have f1:wl.cell? ⟨p',op'+lev*2+1,none⟩=some (.int .i64 q'.2):=hcq' 1 _ rfl
       clear hq hq' hcq hcq'
       have B16:=Blk.new wl [.int .i64 q'.1,.int .i64 q'.2] 128
       have kk:=Ex.new wl (.cells #[.int .i64 q'.1,.int .i64 q'.2] 128)
       obtain ⟨w5,hw5⟩:∃ w5,w5=wl.alloc (.cells #[.int .i64 q'.1,.int .i64 q'.2] 128):=⟨_,rfl⟩
       obtain ⟨g16,hg16⟩:∃ g16,g16=wl.heap.size:=⟨_,rfl⟩
       replace B16:Blk w5 g16 [.int .i64 q'.1,.int .i64 q'.2] 128:=by rw [hw5,hg16];exact B16
       rw [← hw5] at kk
       have Hw5:=lH hw5
       have Hg16:=lH hg16
       have K6:=lH (kv.nx kk)
       have V0:=lH (fun wq (kq:Ex w5 wq)=>(kk.nx kq).cellv f0 hp')
       have V1:=lH (fun wq (kq:Ex w5 wq)=>(kk.nx kq).cellv f1 hp')
       clear kk hw5 hg16 kv
       go_upto_region 15 with fail
       rw [← Hg16.out,← Hw5.out]
       clear Hg16 Hw5
       clear e0 e1 f0 f1
       have B16H:=lH B16
       clear B16
       have hl1:(lev:Int)<(M1:Int):=by omega
       have hi1:(i:Int)<(L.length:Int):=by omega
       refine wp_region_held_drew (S:=Ex w5) (by kernel_rfl) ((Ex.refl w5).drew) (fun hHeld=>?_)
       obtain ⟨wd,hwdx⟩:∃ wd:World,wd=World.drew w5:=⟨_,rfl⟩
       rw [← hwdx] at hHeld ⊢
       have hDrew:Ex w5 wd:=by rw [hwdx];exact (Ex.refl w5).drew
       clear hwdx
       refine tkH 0 (v:=?_) rfl (by kernel_rfl) (fun _ _ _ h=>h) (by rfl) ?y5 hHeld ?_
       case y5=>intro wq hSw;go_simp<;>rfl
       try simp only [Act.put,sA,sB,sC]
       refine tkH 1 (v:=?_) rfl (by kernel_rfl) (fun _ _ _ h=>h) (by rfl) ?y8 hHeld ?_
       case y8=>intro wq hSw;(have cq:=(B16H.out.nx hSw).cell 0 _ rfl;go_simp)<;>rfl
       try simp only [Act.put,sA,sB,sC]
       refine tkH 2 (v:=?_) rfl (by kernel_rfl) (fun _ _ _ h=>h) (by rfl) ?y11 hHeld ?_
       case y11=>intro wq hSw;go_simp<;>rfl
       try simp only [Act.put,sA,sB,sC]
       refine tkH 3 (v:=?_) rfl (by kernel_rfl) (fun _ _ _ h=>h) (by rfl) ?y14 hHeld ?_
       case y14=>intro wq hSw;go_simp<;>rfl
       try simp only [Act.put,sA,sB,sC]
       refine tkH 4 (v:=?_) rfl (by kernel_rfl) (fun _ _ _ h=>h) (by rfl) ?y17 hHeld ?_
       case y17=>intro wq hSw;go_simp<;>rfl
       try simp only [Act.put,sA,sB,sC]
       refine tkH 5 (v:=?_) rfl (by kernel_rfl) (fun _ _ _ h=>h) (by rfl) ?y20 hHeld ?_
       case y20=>intro wq hSw;go_simp<;>rfl
       try simp only [Act.put,sA,sB,sC]
       refine tkH 6 (v:=?_) rfl (by kernel_rfl) (fun _ _ _ h=>h) (by rfl) ?y23 hHeld ?_
       case y23=>intro wq hSw;(have cq:=U1.out _ (K6.out.nx hSw);go_simp)<;>rfl
       try simp only [Act.put,sA,sB,sC]
       refine tkH 7 (v:=?_) rfl (by kernel_rfl) (fun _ _ _ h=>h) (by rfl) ?y26 hHeld ?_
       case y26=>intro wq hSw;go_simp<;>rfl
       try simp only [Act.put,sA,sB,sC]
       refine tkH 8 (v:=?_) rfl (by kernel_rfl) (fun _ _ _ h=>h) (by rfl) ?y29 hHeld ?_
       case y29=>intro wq hSw;go_simp<;>rfl
       try simp only [Act.put,sA,sB,sC]
       refine tkH 9 (v:=?_) rfl (by kernel_rfl) (fun _ _ _ h=>h) (by rfl) ?y32 hHeld ?_
       case y32=>intro wq hSw;go_simp<;>rfl
       try simp only [Act.put,sA,sB,sC]
       refine tkH 10 (v:=?_) rfl (by kernel_rfl) (fun _ _ _ h=>h) (by rfl) ?y35 hHeld ?_
       case y35=>intro wq hSw;(have cq:=V0.out _ hSw;go_simp)<;>rfl
       try simp only [Act.put,sA,sB,sC]
       refine tkH 11 (v:=?_) rfl (by kernel_rfl) (fun _ _ _ h=>h) (by rfl) ?y38 hHeld ?_
       case y38=>intro wq hSw;go_simp<;>rfl
       try simp only [Act.put,sA,sB,sC]
       refine tkH 12 (v:=?_) rfl (by kernel_rfl) (fun _ _ _ h=>h) (by rfl) ?y41 hHeld ?_
       case y41=>intro wq hSw;go_simp<;>rfl
       try simp only [Act.put,sA,sB,sC]
       refine tkH 13 (v:=?_) rfl (by kernel_rfl) (fun _ _ _ h=>h) (by rfl) ?y44 hHeld ?_
       case y44=>intro wq hSw;(have cq:=(B16H.out.nx hSw).cell 1 _ rfl;go_simp)<;>rfl
       try simp only [Act.put,sA,sB,sC]
       refine tkH 14 (v:=?_) rfl (by kernel_rfl) (fun _ _ _ h=>h) (by rfl) ?y47 hHeld ?_
       case y47=>intro wq hSw;go_simp<;>rfl
       try simp only [Act.put,sA,sB,sC]
       refine tkH 15 (v:=?_) rfl (by kernel_rfl) (fun _ _ _ h=>h) (by rfl) ?y50 hHeld ?_
       case y50=>intro wq hSw;go_simp<;>rfl
       try simp only [Act.put,sA,sB,sC]
       refine tkH 16 (v:=?_) rfl (by kernel_rfl) (fun _ _ _ h=>h) (by rfl) ?y53 hHeld ?_
       case y53=>intro wq hSw;go_simp<;>rfl
       try simp only [Act.put,sA,sB,sC]
       refine tkH 17 (v:=?_) rfl (by kernel_rfl) (fun _ _ _ h=>h) (by rfl) ?y56 hHeld ?_
       case y56=>intro wq hSw;go_simp<;>rfl
       try simp only [Act.put,sA,sB,sC]
       refine tkH 18 (v:=?_) rfl (by kernel_rfl) (fun _ _ _ h=>h) (by rfl) ?y59 hHeld ?_
       case y59=>intro wq hSw;(have cq:=U1.out _ (K6.out.nx hSw);go_simp)<;>rfl
       try simp only [Act.put,sA,sB,sC]
       refine tkH 19 (v:=?_) rfl (by kernel_rfl) (fun _ _ _ h=>h) (by rfl) ?y62 hHeld ?_
       case y62=>intro wq hSw;go_simp<;>rfl
       try simp only [Act.put,sA,sB,sC]
       refine tkH 20 (v:=?_) rfl (by kernel_rfl) (fun _ _ _ h=>h) (by rfl) ?y65 hHeld ?_
       case y65=>intro wq hSw;go_simp<;>rfl
       try simp only [Act.put,sA,sB,sC]
       refine tkH 21 (v:=?_) rfl (by kernel_rfl) (fun _ _ _ h=>h) (by rfl) ?y68 hHeld ?_
       case y68=>intro wq hSw;go_simp<;>rfl
       try simp only [Act.put,sA,sB,sC]
       refine tkH 22 (v:=?_) rfl (by kernel_rfl) (fun _ _ _ h=>h) (by rfl) ?y71 hHeld ?_
       case y71=>intro wq hSw;(have cq:=V1.out _ hSw;go_simp)<;>rfl
       try simp only [Act.put,sA,sB,sC]
       refine tkH 23 (v:=?_) rfl (by kernel_rfl) (fun _ _ _ h=>h) (by rfl) ?y74 hHeld ?_
       case y74=>intro wq hSw;go_simp<;>rfl
       try simp only [Act.put,sA,sB,sC]
       refine tkH 26 (v:=?_) rfl (by kernel_rfl) (fun _ _ _ h=>h) (by rfl) ?y77 hHeld ?_
       case y77=>intro wq hSw;go_simp<;>rfl
       try simp only [Act.put,sA,sB,sC]
       refine rH 24 (by kernel_rfl) rfl fun K hK=>?_
       go_simp
       obtain ⟨g80,w6,h80,h6,BP,kk⟩:=litPair _ q'.1 q'.2
       rw [← h80,← h6]
       clear h80 h6
       replace hHeld:=hHeld.nx kk
       clear kk
       refine hK.out _ _ (hHeld) (fun hHeld=>?_)
       clear hK K
       try simp only [Act.put,sA,sB,sC]
       refine tkH 25 (v:=?_) rfl (by kernel_rfl) (fun _ _ _ h=>h) (by rfl) ?y91 hHeld ?_
       case y91=>intro wq hSw;go_simp<;>rfl
       try simp only [Act.put,sA,sB,sC]
       refine wpAnyH_done (by kernel_rfl) ?_ _
       have K7:=lH (K6.out.nx hHeld)
       have BPH:=lH BP
       clear BP hHeld hDrew
       go_wp2_with fail
       go_loopw [12,82] (fun o i wr=>CkB 2 w6 o i wr) (fun _ i _=>2-(intOf i).toNat)
       case atStart=>exact ⟨0,by omega,rfl,rfl,Ex.refl _⟩
       case round =>
        obtain ⟨sd,hsd,rfl,rfl,ks⟩:=hrel
        obtain ⟨wn,rfl⟩:∃ wn:World,wn=wr:=⟨_,rfl⟩
        by_cases hs2:sd<2
        ·obtain ⟨z,hz0,hz1⟩:∃ z:Int,wn.cell? ⟨g80,sd*2,none⟩=some (.int .i64 z)∧wn.cell? ⟨g80,sd*2+1,none⟩=some (.int .i64 z):=by
          have B:=BPH.out.nx ks
          rcases (show sd=0∨sd=1 by omega) with rfl | rfl
          ·exact ⟨q'.1,B.cell 0 _ rfl,B.cell 1 _ rfl⟩
          ·exact ⟨q'.2,B.cell 2 _ rfl,B.cell 3 _ rfl⟩
         have B18:=Blk.new wn [.int .i64 z,.int .i64 z] 164
         have kk:=Ex.new wn (.cells #[.int .i64 z,.int .i64 z] 164)
         obtain ⟨w8,hw8⟩:∃ w8,w8=wn.alloc (.cells #[.int .i64 z,.int .i64 z] 164):=⟨_,rfl⟩
         obtain ⟨g18,hg18⟩:∃ g18,g18=wn.heap.size:=⟨_,rfl⟩
         replace B18:Blk w8 g18 [.int .i64 z,.int .i64 z] 164:=by rw [hw8,hg18];exact B18
         rw [← hw8] at kk
         have Hw8:=lH hw8
         have Hg18:=lH hg18
         have RR:=lH (show CkB 2 w6 (.slice none 0 0) (.int .i64 ((sd:Int)+1)) w8 from ⟨sd+1,by omega,rfl,by go_num,ks.nx kk⟩)
         clear kk hw8 hg18 ks
         go_upto_region 18 with fail
         rw [← Hg18.out,← Hw8.out]
         clear Hg18 Hw8
         clear hz0 hz1
         have b0:=B18.cell 0 _ rfl
         have b1:=B18.cell 1 _ rfl
         go_wp2_with fail
         exact ⟨RR.out,by simp [intOf];omega⟩
        ·have RR:=lH (show CkB M1 w4 (.slice none 0 0) (.int .i64 ((lev:Int)+1)) wn from ⟨lev+1,by omega,rfl,by go_num,K7.out.nx ks⟩)
         obtain rfl:sd=2:=by omega
         clear ks hs2
         go_wp2_with fail
         exact ⟨RR.out,by simp [intOf];omega⟩
      ·obtain rfl:lev=M1:=by omega
       have RR:=lH (show CkB L.length w3 (.slice none 0 0) (.int .i64 ((i:Int)+1)) wl from ⟨i+1,by omega,rfl,by go_num,(KW.out.nx K5.out).nx kv⟩)
       clear kv hll hlev
       go_wp2_with fail
       exact ⟨RR.out,by simp [intOf];omega⟩
    ·obtain rfl:i=L.length:=by omega
     have KE:=lH (K4.out.nx kw)
     clear kw hil
     go_wp2_with fail
     go_ret
     exact ⟨rfl,KE.out⟩
def TwRel (n:Nat) (w:World) (i:Value) (wr:World):Prop:=∃ k:Nat,k≤n∧i=.int .i64 k∧Ex w wr
theorem nok_rtW {x:Nd} (h:NOk x∧1≤x.id∧x.id≤2147483647∧x.key.size≤64∧x.word<65536):NRt x:=⟨h.1.1,by have:=h.2.2.2.2;omega,h.2.2.2.1⟩
theorem nrt_eW {x:Nd} (h:NRt x):NOkE x:=⟨h.1.1,h.1.2,by have:=h.2.1;omega,by have:=h.2.2;omega⟩
theorem encLks_ok {L:List Lkd} (h1:L.length≤64) (h2:∀ c∈L,c.2.length≤17):(encLks L).2=0:=by
 unfold encLks
 rw [if_neg (by omega),if_neg]
 rw [List.any_eq_true]
 rintro ⟨c,hc,hd⟩
 have:=h2 c hc
 simp at hd
 omega
set_option maxRecDepth 100000 in
set_option maxHeartbeats 16000000 in
theorem topwire_walk (a1:Option Addr) (n1 c1:Nat) (l1:List Int) (w:World) (h1:Sl 1 encI w a1 n1 l1) (hc1:n1≤c1) (hm1:c1≤maxLen) (hT:TabG w) (hL:LetG w) :
  Calls Tryz.prog 5 #[.slice a1 n1 c1] w fun e w'=>e=.returned (.bool true)∧Ex w w':=by
 go_enter Tryz.func5,Tryz.ntmps5
 go_wp2_with fail
 refine (new_t _ _ _ l1 _ h1 hc1 hm1).mono ?_
 rintro e w1 ⟨rfl,T,kk,z1⟩
 obtain ⟨b,hb⟩:∃ b,b=w.heap.size:=⟨_,rfl⟩
 rw [← hb] at T ⊢
 have hgt:¬ 1=b:=by have:=hT.lt;omega
 have hgl:¬ 0=b:=by have:=hL.lt;omega
 have T1:Hid (TabG w1):=lH (hT.nx kk)
 have L1:Hid (LetG w1):=lH (hL.nx kk)
 have QL:Hid (Exl b w w1):=lH ⟨kk,by omega⟩
 clear h1 hT hL kk hb z1
 have hbo:=T.lt
 go_wp2_with fail
 refine (some_n 7 _ T L1.out hgl (by omega) (by omega)).mono ?_
 clear T
 rintro e x1 ⟨v1,L,rfl,R,hL1⟩
 have kw:=R.k
 have T:=R.tape
 obtain ⟨aX,cX,rfl,SX,hcX,hmX,_⟩:=R.own.slf (fun _=>rfl)
 have SX:=SX.slb hbo
 have RL:=R.len
 have H0:=lH R.ok
 have HW:Hid (∀ x∈L,x.word<4294967296):=lH (fun x hx=>by have:=R.word x hx;omega)
 have HRT:Hid (∀ x∈L,NRt x):=lH (fun x hx=>nok_rtW (roster_ok R.ok x hx))
 have HI:Hid (∀ x∈L,I64 x.id):=lH (fun x hx=>(roster_ok R.ok x hx).1.1)
 have hb1:=T.lt
 have HS:=lH (fun wq (kq:Exb b x1 wq)=>SX.nxb kq)
 have KW:=lH kw
 clear R SX kw
 go_wp2_with fail
 refine (next_t 4 _ T (by omega) (by omega)).mono ?_
 clear T
 rintro e x2 ⟨hh,rfl,hh0,hh1,T,kk⟩
 have KX:=lH kk
 have TH:=lH T
 have K:=lH (Ex.refl x2)
 have hb2:=T.lt
 clear kk T
 obtain ⟨ht,rfl⟩:∃ t:Nat,hh=t:=⟨hh.toNat,by omega⟩
 have ht16:ht≤16:=by omega
 go_wp2_with fail
 (with_reducible refine (sort_p _ _ _ L _ (HS.out _ KX.out).sl (by omega)).mono ?_)
 rintro e x3 ⟨v,S',rfl,OS,⟨hp,hsrt⟩,kk⟩
 have hSe:S'=sortN L:=sortN_unique (check_keys H0.out) hp hsrt
 subst hSe
 obtain ⟨aS,cS,rfl,r5,hcS,hmS⟩:=OS.sl3 (fun _=>rfl)
 have hSl:(sortN L).length=L.length:=sortN_length L
 rw [hSl] at r5 hcS ⊢
 replace K:=lH (K.out.nx kk)
 have R5:=lH r5
 clear OS hp hsrt r5 kk hSl
 go_wp2_with fail
 (with_reducible refine (load_p _ _ _ L ht _ R5.out (by omega) hcS hmS H0.out ht16 HW.out).mono ?_)
 rintro e x4 ⟨v,qs,cnt,rfl,own,kk⟩
 have z13:=K.out.size
 replace K:=lH (K.out.nx kk)
 have LKK:=build_ok HI.out (ht:Int)
 obtain ⟨LR,hLR⟩:∃ LR,LR=(buildN L (ht:Int)).1:=⟨_,rfl⟩
 rw [← hLR] at own LKK
 have BSR:Hid (∀ c∈LR,c.2.length≤17):=lH (by rw [hLR];exact (buildN_small L (ht:Int) (by omega)).2)
 have BLR:LR.length≤7:=by rw [hLR,(build_ok0 H0.out ht16).2.1];omega
 have LOKX:Hid (∀ c∈LR,LOkE c):=lH (fun c hc=>by
  obtain ⟨i1,i2,i3⟩:=LKK.2 c hc
  exact ⟨i1,by omega,i3⟩)
 have EXI:Hid (exactI L LR ht=true):=lH (by rw [hLR];exact exact_build H0.out ht16)
 have HLR:=lH hLR
 obtain ⟨aL,cL,rfl,LL⟩:=own.nlb (b:=b) (by omega)
 have LLH:=lH LL
 have M:=lH (Ex.refl x4)
 clear own LL kk hLR LKK
 go_wp2_with fail
 (with_reducible refine (encn_p _ _ _ L _ (HS.out _ (KX.out.nxb (K.out.b b))).sl (by omega) (fun x hx=>nrt_eW (HRT.out x hx))).mono ?_)
 rintro e x5 ⟨v5,rfl,own5,kk⟩
 have RT:=dec_enc_nodes HRT.out (by omega)
 have RT1:=lH RT.2
 rw [RT.1]
 have z5:=K.out.size
 replace K:=lH (K.out.nx kk)
 replace M:=lH (M.out.nx kk)
 clear RT kk
 go_wp2_with fail
 (with_reducible refine (encl_p _ _ _ LR _ (LLH.out _ (M.out.b b)) (by omega) LOKX.out).mono ?_)
 rintro e x6 ⟨v6,rfl,own6,kk⟩
 have E0:=encLks_ok (L:=LR) (by omega) BSR.out
 have RT2:=lH (dec_enc_links (fun c hc=>⟨(LOKX.out c hc).1,(LOKX.out c hc).2.2⟩) E0)
 rw [E0]
 have z6:=K.out.size
 replace K:=lH (K.out.nx kk)
 have own5:=own5.nx kk
 have LN5:=encNds_len L
 have LN6:=encLks_len LR
 obtain ⟨bn,hbn⟩:∃ r,r=(encNds L).1:=⟨_,rfl⟩
 obtain ⟨bl,hbl⟩:∃ r,r=(encLks LR).1:=⟨_,rfl⟩
 rw [← hbn] at own5 RT1 LN5
 rw [← hbl] at own6 RT2 LN6
 obtain ⟨ya4,yn4,yc4,rfl,_,yl4,o4,m4,f4,nil4⟩:=own_run own5 LN5
 obtain ⟨ya5,yn5,yc5,rfl,_,yl5,o5,m5,f5,nil5⟩:=own_run own6 LN6
 have s4:=own_slb (b:=b) own5 (by omega)
 have s5:=own_slb (b:=b) own6 (by omega)
 have F4:=lH f4
 have F5:=lH f5
 clear own5 own6 LN5 LN6 f4 f5 nil4 nil5 hbn hbl E0
 replace M:=lH (M.out.nx kk)
 clear kk
 go_wp2_with fail
 (with_reducible refine (decn_p _ _ _ _ _ s4.sl (by omega) o4 m4 F4.out).mono ?_)
 rintro e x7 ⟨v7,rfl,own7,kk⟩
 rw [RT1.out] at own7 ⊢
 obtain ⟨aM,cM,rfl,s7,hcM,hmM,_⟩:=own7.slf (fun _=>rfl)
 have SM:=s7.slb (b:=b) (by have:=K.out.size;omega)
 have HSM:=lH (fun wq (kq:Exb b x7 wq)=>(SM.nxb kq).sl)
 have s5:=s5.nxb (kk.b b)
 have z7:=K.out.size
 replace K:=lH (K.out.nx kk)
 replace M:=lH (M.out.nx kk)
 clear own7 s7 SM kk s4
 go_wp2_with fail
 (with_reducible refine (decl_p _ _ _ _ _ s5.sl (by omega) o5 m5 F5.out).mono ?_)
 rintro e x8 ⟨v8,qs8,rfl,own8,kk⟩
 rw [RT2.out] at own8 ⊢
 obtain ⟨aN,cN,rfl,LN⟩:=own8.nlb (b:=b) (by have:=K.out.size;omega)
 have LNH:=lH LN
 have K78:=lH kk
 replace K:=lH (K.out.nx kk)
 replace M:=lH (M.out.nx kk)
 have KX8:=lH (KX.out.nxb (K.out.b b))
 have T8:=lH (TH.out.nx K.out)
 clear own8 LN kk s5
 go_upto_region 11 with fail
 refine wp_region_held_drew (S:=(fun x=>Exb b x8 x∧TK x b)) (by kernel_rfl) (And.intro (Exb.refl b x8).drew (T8.out.nx (Ex.refl x8).drew)) (fun hHeld=>?_)
 obtain ⟨wd,hwdx⟩:∃ wd:World,wd=World.drew x8:=⟨_,rfl⟩
 rw [← hwdx] at hHeld ⊢
 have hDrew:Ex x8 wd:=by rw [hwdx];exact (Ex.refl x8).drew
 clear hwdx
 refine tkH 0 (v:=?_) rfl (by kernel_rfl) (fun _ _ _ h=>h) (by rfl) ?y5 hHeld ?_
 case y5=>intro wq hSw;go_simp<;>rfl
 try simp only [Act.put,sA,sB,sC]
 refine tkH 1 (v:=?_) rfl (by kernel_rfl) (fun _ _ _ h=>h) (by rfl) ?y8 hHeld ?_
 case y8=>intro wq hSw;go_simp<;>rfl
 try simp only [Act.put,sA,sB,sC]
 refine tkH 2 (v:=?_) rfl (by kernel_rfl) (fun _ _ _ h=>h) (by rfl) ?y11 hHeld ?_
 case y11=>intro wq hSw;go_simp<;>rfl
 try simp only [Act.put,sA,sB,sC]
 refine tkH 3 (v:=?_) rfl (by kernel_rfl) (fun _ _ _ h=>h) (by rfl) ?y14 hHeld ?_
 case y14=>intro wq hSw;go_simp<;>rfl
 try simp only [Act.put,sA,sB,sC]
 refine tkH 8 (v:=?_) rfl (by kernel_rfl) (fun _ _ _ h=>h) (by rfl) ?y17 hHeld ?_
 case y17=>intro wq hSw;go_simp<;>rfl
 try simp only [Act.put,sA,sB,sC]
 refine rH 4 (by kernel_rfl) rfl fun K hK=>?_
 go_simp
 refine (next_t (L.length:Int) _ hHeld.2 (by omega) (by omega)).mono ?_
 rintro e xa ⟨r,rfl,r0,r1,T,kk⟩
 obtain ⟨j,rfl⟩:=Int.eq_ofNat_of_zero_le r0
 have hj:j<L.length:=by omega
 obtain ⟨xo,oo,y,rfl,hxo,hy,hcc⟩:=Rd.at (HS.out _ KX8.out) hj
 have E0:=lH (fun wq (kq:Exb b x8 wq)=>show wq.cell? ⟨xo,oo+j*3,none⟩=some (.int .i64 y.id) from kq.cellv (hcc 0 _ rfl) hxo)
 have HYM:=lH (List.mem_of_getElem? hy)
 replace hHeld:=And.intro (hHeld.1.nxb kk) T
 clear kk T r0 r1 hcc hxo hy
 refine hK.out _ _ (hHeld) (fun hHeld=>?_)
 clear hK K
 try simp only [Act.put,sA,sB,sC]
 refine tkH 5 (v:=?_) rfl (by kernel_rfl) (fun _ _ _ h=>h) (by rfl) ?y35 hHeld ?_
 case y35=>intro wq hSw;go_simp<;>rfl
 try simp only [Act.put,sA,sB,sC]
 refine tkH 6 (v:=?_) rfl (by kernel_rfl) (fun _ _ _ h=>h) (by rfl) ?y38 hHeld ?_
 case y38=>intro wq hSw;go_simp<;>rfl
 try simp only [Act.put,sA,sB,sC]
 refine tkH 7 (v:=?_) rfl (by kernel_rfl) (fun _ _ _ h=>h) (by rfl) ?y41 hHeld ?_
 case y41=>intro wq hSw;(have cq:=E0.out _ hSw.1;go_simp)<;>rfl
 try simp only [Act.put,sA,sB,sC]
 refine rH 9 (by kernel_rfl) rfl fun K hK=>?_
 go_simp
 refine (key_t _ hHeld.2 (L1.out.nxb hgl (KW.out.nxb (KX8.out.nxb hHeld.1))) hgl).mono ?_
 rintro e xb ⟨q,rfl,hq,T,kk⟩
 replace hHeld:=And.intro (hHeld.1.nxb kk) T
 clear kk T
 refine hK.out _ _ (hHeld) (fun hHeld=>?_)
 clear hK K
 try simp only [Act.put,sA,sB,sC]
 refine tkH 10 (v:=?_) rfl (by kernel_rfl) (fun _ _ _ h=>h) (by rfl) ?y54 hHeld ?_
 case y54=>intro wq hSw;go_simp<;>rfl
 try simp only [Act.put,sA,sB,sC]
 refine tkH 11 (v:=?_) rfl (by kernel_rfl) (fun _ _ _ h=>h) (by rfl) ?y57 hHeld ?_
 case y57=>intro wq hSw;go_simp<;>rfl
 try simp only [Act.put,sA,sB,sC]
 refine wpAnyH_done (by kernel_rfl) ?_ _
 have KB:=lH hHeld.1
 have HE:=end_law (L:=(buildN L (ht:Int)).1) H0.out HYM.out hq (by rw [(build_top H0.out ht16 HYM.out).1];omega) (fun x hx=>(build_top H0.out ht16 hx).2 0 (by omega))
 rw [← HLR.out] at HE
 have N:=lH (Ex.refl xb)
 have HSB:=lH (fun wq (kq:Ex xb wq)=>(HS.out _ (KX8.out.nxb (KB.out.nxb (kq.b b)))).sl)
 have LLB:=lH (fun wq (kq:Ex xb wq)=>LLH.out _ ((M.out.b b).nxb (KB.out.nxb (kq.b b))))
 have HMB:=lH (fun wq (kq:Ex xb wq)=>HSM.out _ ((K78.out.b b).nxb (KB.out.nxb (kq.b b))))
 have LNB:=lH (fun wq (kq:Ex xb wq)=>LNH.out _ (KB.out.nxb (kq.b b)))
 have TGB:=lH (fun wq (kq:Ex xb wq)=>T1.out.nxb hgt (KW.out.nxb (KX8.out.nxb (KB.out.nxb (kq.b b)))))
 have QX:=lH (QL.out.nxb (KW.out.nxb (KX8.out.nxb KB.out))).1
 clear hHeld hDrew
 go_wp2_with fail
 (with_reducible refine (route_p _ _ _ L _ _ _ LR y.id q _ (HSB.out _ N.out) (by omega) hcX hmX (LLB.out _ N.out) (by omega) (fun c hc=>Nat.le_trans (BSR.out c hc) (by omega))).mono ?_)
 rintro e y1 ⟨v2,rfl,own,kk⟩
 obtain ⟨aH,cH,rfl,H,_,_,_⟩:=own.slf (fun _=>rfl)
 have H1:=H.sl
 replace N:=lH (N.out.nx kk)
 clear own kk H
 go_wp2_with fail
 (with_reducible refine (route_p _ _ _ L _ _ _ LR y.id q _ (HMB.out _ N.out) (by omega) hcM hmM (LNB.out _ N.out) (by omega) (fun c hc=>Nat.le_trans (BSR.out c hc) (by omega))).mono ?_)
 rintro e y2 ⟨v2,rfl,own,kk⟩
 obtain ⟨aG,cG,rfl,G,_,_,_⟩:=own.slf (fun _=>rfl)
 have G1:=G.sl
 replace H1:=H1.nx kk
 replace N:=lH (N.out.nx kk)
 clear own kk G
 have hRl:=route_small L LR y.id q
 obtain ⟨RT,hRT⟩:∃ RT,RT=routeN L LR y.id q:=⟨_,rfl⟩
 rw [← hRT] at H1 G1 HE hRl ⊢
 rw [HE.1]
 have HH1:=lH H1
 have HG1:=lH G1
 clear HE hRT H1 G1
 go_wp2_with fail
 go_loopw [23] (fun i wr=>TwRel RT.1.length y2 i wr) (fun i _=>RT.1.length-(intOf i).toNat)
 case atStart=>exact ⟨0,by omega,rfl,Ex.refl _⟩
 case round =>
  obtain ⟨i,hi,rfl,kv⟩:=hrel
  obtain ⟨wi,rfl⟩:∃ wi:World,wi=wr:=⟨_,rfl⟩
  have KV:=lH kv
  by_cases hil:i<RT.1.length
  ·obtain ⟨x3',o3,p1,rfl,hx3,hp1,hc3⟩:=(HH1.out.nx kv).at hil
   obtain ⟨x4',o4',p2,rfl,hx4,hp2,hc4⟩:=(HG1.out.nx kv).at hil
   obtain rfl:p2=p1:=Option.some.inj (hp2.symm.trans hp1)
   have u0:wi.cell? ⟨x3',o3+i*3,none⟩=some (.int .i64 p2.1):=hc3 0 _ rfl
   have u1:wi.cell? ⟨x3',o3+i*3+1,none⟩=some (.int .i64 p2.2.1):=hc3 1 _ rfl
   have u2:wi.cell? ⟨x3',o3+i*3+2,none⟩=some (.int .i64 p2.2.2):=hc3 2 _ rfl
   have u3:wi.cell? ⟨x3',o3+i*3+1+1,none⟩=some (.int .i64 p2.2.2):=u2
   have v0:wi.cell? ⟨x4',o4'+i*3,none⟩=some (.int .i64 p2.1):=hc4 0 _ rfl
   have v1:wi.cell? ⟨x4',o4'+i*3+1,none⟩=some (.int .i64 p2.2.1):=hc4 1 _ rfl
   have v2:wi.cell? ⟨x4',o4'+i*3+2,none⟩=some (.int .i64 p2.2.2):=hc4 2 _ rfl
   have v3:wi.cell? ⟨x4',o4'+i*3+1+1,none⟩=some (.int .i64 p2.2.2):=v2
   clear hc3 hc4 hp1 hp2 kv
   go_wp2_with fail
   go_quiet (fail)
   go_wp2_with fail
   exact ⟨⟨i+1,by omega,by go_num,KV.out.drewN _⟩,by simp [intOf];omega⟩
  ·obtain rfl:i=RT.1.length:=by omega
   have N2:=lH (N.out.nx kv)
   clear kv hi hil
   go_wp2_with fail
   (with_reducible refine (exact_p _ _ _ L _ _ _ LR ht _ (HMB.out _ N2.out) (by omega) hcM hmM HW.out (TGB.out _ N2.out) (LNB.out _ N2.out) (by omega) (fun c hc=>Nat.le_trans (BSR.out c hc) (by omega))).mono ?_)
   rintro e u1 ⟨rfl,kk⟩
   rw [EXI.out]
   have N3:=lH (N2.out.nx kk)
   clear kk
   go_wp2_with fail
   (with_reducible refine (check_i _ _ _ L _ _ _ LR ht _ (HMB.out _ N3.out) (by omega) hcM hmM H0.out ht16 HW.out (TGB.out _ N3.out) HLR.out (LNB.out _ N3.out) (by omega)).mono ?_)
   rintro e u2 ⟨rfl,kk⟩
   have N4:=lH (N3.out.nx kk)
   clear kk
   go_wp2_with fail
   (with_reducible refine (saneT_x _ (TGB.out _ N4.out)).mono ?_)
   rintro e u3 ⟨rfl,kk⟩
   have QE:=lH (QX.out.nx (N4.out.nx kk))
   clear kk
   go_wp2_with fail
   go_ret
   exact ⟨rfl,QE.out⟩
end Go.Proofs.YthcholmhmcpooaaGreatDoor
/-
 TopWire returns true for every list of numbers,and leaves its arguments as they were.
 Condition: the table of math/bits and the letters of the keys are as the program text lays them (tied by the card).
-/
namespace Go.Proofs.YthcholmhmcpooaaGreatDoor
open Go.RowKit
open Go.ChangeShapes Go.WideShapes Go.ChangeAt Go.RowKit Go.Deep Go.Joins
open Go.ChangeMaps (open_string shut_string)
set_option linter.unusedVariables false
theorem Tryz.cellsInt:Tryz.prog.cellsOf 3=1:=by kernel_rfl
set_option maxRecDepth 100000 in
set_option maxHeartbeats 1000000 in
theorem topWire_lifted (os:Os) (started:os.Started) (H:Type) (enc:TypeId×Value→H) :
  ReturnsInHanded {} Tryz.checked os 5 .any (fun w args=>(Rows.topWireSpec.pre enc Tryz.prog Tryz.f5 [] false w args∧laidMetH Tryz.prog Rows.topWireRow.laid w)∧sizedMet enc Tryz.prog Tryz.f5 (OpenSpec.ofChange Rows.topWireSpec) false w args)
   (Rows.topWireSpec.post enc Tryz.prog Tryz.f5 false true false false):=by
 refine returnsInHanded_of_change_and (C:=Tryz.checked) (X:=fun w _=>laidMetH Tryz.prog Rows.topWireRow.laid w) (fun _ _ _ hh h=>h.of_heap hh) own started (by kernel_rfl) Tryz.func5
  (ChangeSpec.witness_shaped (enc:=enc) (C:=Tryz.checked) (os:=os) (X:=fun w _=>laidMetH Tryz.prog Rows.topWireRow.laid w) false (World.doorLaid Tryz.prog 400 os) #[.slice none 0 0] 8 rfl (World.shaped_of_RefB (by kernel_rfl) (by kernel_rfl)) (by kernel_rfl) (by kernel_rfl) (by kernel_rfl) (laidMetH_of_parts3 (fuel:=8) (laidMet_of_run' 8 (by kernel_rfl) (by kernel_rfl)) (by kernel_rfl) (by kernel_rfl))) ?_
 intro W base args ds gs before hval0 hW _ _ hL _
 have hval:∀ (j:Nat) t v,Tryz.f5.params[j]?=some t→args[j]?=some v→Value.okWide Tryz.prog W .any base t v:=hval0
 have hW':=hW
 obtain ⟨p,q,hA0,hV,rfl,hfz,hnd⟩:=hW
 have hA:DataW.TrodAll enc Tryz.prog W 0 (fun _=>true) true Tryz.f5.params.toList args.toList ds p:=hA0
 rw [Tryz.params5] at hA hval
 obtain ⟨v0,vs0,d0,ds0,p0,q0,hargs,rfl,rfl,h0,r0⟩:=trodAll_cons hA
 obtain ⟨rfl,rfl,rfl⟩:=trodAll_nil r0
 obtain rfl:args=#[v0]:=by cases args;simp_all
 obtain ⟨rfl,rfl⟩:=trodVars_none hV
 have k0:=h0
 have lt0:∀ x∈p0,x.block<W.heap.size:=by obtain ⟨m,hm⟩:=k0;exact DataW.trod_lt m _ _ _ hm
 obtain ⟨A0,n0,cap0,l0,rfl,rd0,hc0,hm0,wf0,nl0⟩:=rd_ints Tryz.underlying22 Tryz.underlying3 Tryz.cellsInt (hval 0 22 v0 rfl rfl) h0
 clear hA0 hval0
 have hT:TabG W:=tabG_of hL (by kernel_rfl)
 have hL2:LetG W:=letG_second hL (by kernel_rfl) (by kernel_rfl)
 refine (topwire_walk A0 n0 cap0 l0 W rd0 hc0 hm0 hT hL2).mono fun e W' ⟨he,hch⟩=>?_
 have bel:Below W.heap.size W W':=hch.below (fun _ h=>h)
 subst he
 exact ⟨_,rfl,_,_,_,[],_,[],hW',trodAll_mk1 (shut_bool Tryz.underlying4 _),(trodAll_cons_mk (Below.trod laidOut (by kernel_rfl) (of_decide_eq_true (by kernel_rfl)) k0 bel lt0) trodAll_mk0),rfl,bel.frame _,fun h=>by cases h⟩
theorem topWire_over:Rows.topWireRow.holds Tryz.pinned (OpenSpec.ofChange Rows.topWireSpec) :=
 OpenClaim.holds_of_wide 5 Tryz.f5 rfl rfl rfl rfl rfl rfl rfl ⟨rfl,rfl,rfl,rfl,rfl⟩ rfl rfl rfl rfl rfl (by kernel_rfl) Tryz.func5 (by kernel_rfl)
  (of_decide_eq_true (by kernel_rfl)) (by unfold Func.isWrapper;first | (rw [if_pos (by decide +kernel)];kernel_rfl) | (rw [if_neg (by decide +kernel)];exact ⟨rfl,rfl⟩))
  (fun os started H enc _=>topWire_lifted os started H enc)
theorem TopWire_holds:Rows.TopWireCardSaid :=
 Claim7.holds_tied_plain_at .later [] [.data, .data] true (true, "bea4d03cc20eaf986630eb777e7bfa9e7601f9278fe4c67cc1bf42749c60bd93") false
  topWire_over (fun _ h=>by cases h) (by kernel_rfl) (fun _ h=>by cases h) topWire_row_tie rfl ⟨rfl,rfl⟩ (by kernel_rfl) rfl
  (fun f fn hf hfn=>by
   obtain rfl : f = 5 := Option.some.inj ((show Tryz.prog.funcNamed "skipgraph/skipgraphtop.TopWire" = some 5 by kernel_rfl).symm.trans hf) |>.symm
   obtain rfl:fn=Tryz.f5:=(Option.some.inj (Tryz.func5.symm.trans hfn)).symm
   exact ⟨by kernel_rfl,fun j t ht=>by
    rw [Tryz.params5] at ht
    have hm:t∈[22]:=by simpa using Array.mem_of_getElem? ht
    have hall:([22].all fun u=>!Tryz.prog.wantsStandIn u)=true:=by kernel_rfl
    exact (show Tryz.prog.wantsStandIn t=false by simpa using List.all_eq_true.1 hall t hm)⟩)
  (by kernel_rfl)
#print axioms TopWire_holds
end Go.Proofs.YthcholmhmcpooaaGreatDoor
