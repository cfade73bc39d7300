/- Texts for TopBalanceProof. -/
import Derived.Test.YthcholmhmcpooaaGreatDoorTopBalanceProofL10
import Derived.Test.YthcholmhmcpooaaGreatDoorTopBalanceProofL11
import Derived.Test.YthcholmhmcpooaaGreatDoorTopBalanceProofL12
set_option linter.unusedSimpArgs false
set_option linter.unusedVariables false

namespace Go.Proofs.YthcholmhmcpooaaGreatDoor
open Go.RowKit
theorem Tryz.infoI6:(Tryz.prog.info? 3).map (fun i=>(i.zero,i.size,i.bytes))=some (some (.int .i64 0),1,8):=by kernel_rfl
theorem Tryz.infoIL:(Tryz.prog.info? 22).map (fun i=>(i.zero,i.size,i.bytes))=some (some (.slice none 0 0),1,24):=by kernel_rfl
def enc0:Unit→List Value:=fun _=>[]
def pairU (m:List Int):Unit×List Int:=((),m)
abbrev OwnIL (base:Nat) (w:World) (v:Value) (qs:List (Unit×Hdr)) (M:List (List Int)):Prop:=OwnN enc0 1 1 encI 22 3 base w v qs (M.map pairU)
def IlPost (M:List (List Int)) (w:World) (e:Ending) (w':World):Prop :=
 ∃ (v:Value) (qs:List (Unit×Hdr)),e=.returned v∧OwnIL w.heap.size w' v qs M∧Ex w w'
def idsN (c:List Nd):List Int:=c.map Nd.id
theorem idsN_snoc (c:List Nd) (k:Nat) (y:Nd) (hy:c[k]?=some y):idsN (c.take (k+1))=idsN (c.take k)++[y.id]:=by
 unfold idsN;rw [take_snocN c k y hy,List.map_append];rfl
theorem idsC_snoc (C:List (List Nd)) (k:Nat) (c:List Nd) (hc:C[k]?=some c):(((C.take (k+1)).map idsN).map pairU)=(((C.take k).map idsN).map pairU)++[((),idsN c)]:=by
 rw [List.take_add_one,hc,List.map_append,List.map_append];rfl
def listsN (l:List Nd) (h:Int):List (List Int):=if (checkN l==0)=true∧lvlN h=true then (classesN (sortN l) h).map idsN else []
theorem classesN_sm (l:List Nd) (h:Int) (hl:l.length≤1000):(classesN l h).length≤1000∧∀ c∈classesN l h,c.length≤1000:=by
 refine ⟨Nat.le_trans (classes_le l h) hl,?_⟩
 intro c hc
 by_cases hh:16<h
 ·rw [classesN_big hh] at hc;cases hc
 ·rw [classesN_fold hh] at hc
  have:=foldC_fine (h:=h) (P:=fun _=>True) l (fun _ _=>trivial)
  exact Nat.le_trans (this c hc).2.1 hl
def IdqRel (c:List Nd) (n:Nat) (w:World) (o i:Value) (wr:World):Prop :=
 ∃ k:Nat,k≤n∧i=.int .i64 k∧OwnL 1 encI 3 w.heap.size wr o (idsN (c.take k))∧Ex w wr
def IlRel (C:List (List Nd)) (w:World) (o i:Value) (wr:World):Prop :=
 ∃ (k:Nat) (qs:List (Unit×Hdr)),k≤C.length∧i=.int .i64 k∧OwnIL w.heap.size wr o qs ((C.take k).map idsN)∧Ex w wr
set_option maxRecDepth 100000 in
set_option maxHeartbeats 2000000 in
theorem lists_p (a:Option Addr) (n c:Nat) (l:List Nd) (h:Int) (w:World) (hs:Sl 3 encN w a n l) (hn:n≤1000) (hc:n≤c) (hm:c≤maxLen) (hw:∀ x∈l,x.word<4294967296) (hT:TabG w) :
  Calls Tryz.prog 109 #[.slice a n c,.int .i64 h] w (IlPost (listsN l h) w):=by
 have HW:=lH hw
 have HL:=lH hs.len
 have HT:=lH hT
 clear hw hT
 go_enter Tryz.func109,Tryz.ntmps109
 go_wp2_with fail
 (with_reducible refine (ordered_p _ _ _ _ _ hs hn hc hm).mono ?_)
 rintro e w1 ⟨v,S,rfl,OS,⟨hp,hsrt⟩,k1⟩
 have SL:=lH hp.length_eq
 have SW:Hid (∀ x∈S,x.word<4294967296):=lH (fun x hx=>HW.out x (hp.mem_iff.1 hx))
 have HSR:=lH hsrt
 replace HT:=lH (HT.out.nx k1)
 clear hp hsrt hs
 by_cases hck:checkN l=0
 case neg =>
  have HNO:Hid (listsN l h=[]):=lH (by unfold listsN;rw [if_neg];rintro ⟨h1,_⟩;exact hck (by simpa using h1))
  have d1:(checkN l==0)=false:=by simpa using hck
  rw [d1]
  clear hck d1 OS
  go_wp2_with fail
  go_ret
  rw [HNO.out]
  exact ⟨_,[],rfl,OwnN.nil _ _ _ _ _ _ _ _,k1⟩
 have HCK:=lH hck
 have d1:(checkN l==0)=true:=by simpa using hck
 rw [d1]
 clear hck d1
 by_cases hlo:h<0
 ·have HNO:Hid (listsN l h=[]):=lH (by unfold listsN;rw [if_neg];rintro ⟨_,h1⟩;unfold lvlN at h1;simp at h1;omega)
  clear OS
  go_wp2_with fail
  go_ret
  rw [HNO.out]
  exact ⟨_,[],rfl,OwnN.nil _ _ _ _ _ _ _ _,k1⟩
 by_cases hhi:16<h
 ·have HNO:Hid (listsN l h=[]):=lH (by unfold listsN;rw [if_neg];rintro ⟨_,h1⟩;unfold lvlN at h1;simp at h1;omega)
  clear OS
  go_wp2_with fail
  go_ret
  rw [HNO.out]
  exact ⟨_,[],rfl,OwnN.nil _ _ _ _ _ _ _ _,k1⟩
 have HYES:Hid (listsN l h=(classesN S h).map idsN):=lH (by
  unfold listsN;rw [if_pos ⟨by rw [HCK.out];rfl,by unfold lvlN;simp;omega⟩,HSR.out HCK.out])
 have HSM:=lH (classesN_sm S h (by have:=HL.out;have:=SL.out;omega))
 obtain ⟨aS,cS,rfl,sS,_,_⟩:=OS.sl3 (fun _=>rfl)
 have hnS:S.length≤1000:=by have:=HL.out;have:=SL.out;omega
 clear OS
 go_wp2_with fail
 (with_reducible refine (classes_p _ _ _ _ _ _ sS hnS SW.out HT.out).mono ?_)
 rintro e w2 ⟨a2,c2,rfl,C2,k2⟩
 replace k1:=lH (k1.nx k2)
 have hsz:=k1.out.size
 generalize classesN S h=C at C2 HSM HYES ⊢
 have C2:=lH C2
 have hC:=HSM.out.1
 clear k2 sS
 go_wp2_with fail
 go_loopw [7,32] (fun o i wr=>IlRel C w2 o i wr) (fun _ i _=>C.length-(intOf i).toNat)
 case atStart=>exact ⟨0,[],by omega,rfl,OwnN.nil _ _ _ _ _ _ _ _,Ex.refl _⟩
 case round =>
  obtain ⟨k,qs,hk,rfl,OQ,kw⟩:=hrel
  obtain ⟨wo,rfl⟩:∃ wo:World,wo=wr:=⟨_,rfl⟩
  by_cases hlt:k<C.length
  ·obtain ⟨x1,o1,a',n',c',cc,rfl,hx1,hcc,hcell,hsl⟩:=(C2.out.nx kw).at hlt
   have HCC:=lH hcc
   have hnl:=hsl.len
   have hcl:cc.length≤1000:=HSM.out.2 cc (List.mem_of_getElem? hcc)
   subst hnl
   have OQ:=lH OQ
   have HSL:=lH hsl
   have hzo:=kw.size
   have KW:=lH kw
   clear hcc hsl kw
   go_wp2_with fail
   clear hcell
   go_loopw [10,38] (fun o i wr=>IdqRel cc cc.length wo o i wr) (fun _ i _=>cc.length-(intOf i).toNat)
   case atStart=>exact ⟨0,by omega,rfl,OwnL.nil _ _ _ _ _,Ex.refl _⟩
   case round =>
    obtain ⟨j,hj,rfl,own,ki⟩:=hrel
    obtain ⟨wi,rfl⟩:∃ wi:World,wi=wr:=⟨_,rfl⟩
    by_cases hjm:j<cc.length
    ·obtain ⟨x3,o3,y,rfl,hx3,hy,hc3⟩:=(HSL.out.nx ki).at hjm
     obtain ⟨yi,yk,yw⟩:=y
     have e0:wi.cell? ⟨x3,o3+j*3,none⟩=some (.int .i64 yi):=hc3 0 _ rfl
     have e1:wi.cell? ⟨x3,o3+j*3+1,none⟩=some (.string yk):=hc3 1 _ rfl
     have e2:wi.cell? ⟨x3,o3+j*3+2,none⟩=some (.int .u32 yw):=hc3 2 _ rfl
     have e2':wi.cell? ⟨x3,o3+j*3+1+1,none⟩=some (.int .u32 yw):=e2
     have SN:=lH (idsN_snoc cc j _ hy)
     have hrl:(idsN (cc.take j)).length=j:=by unfold idsN;rw [List.length_map,List.length_take];omega
     clear hy hc3
     have k7:=Ex.new wi (.cells #[.int .i64 yi,.string yk,.int .u32 yw] 36)
     have B4:=Blk.new wi [.int .i64 yi,.string yk,.int .u32 yw] 36
     obtain ⟨w7,hw7⟩:∃ w7,w7=wi.alloc (.cells #[.int .i64 yi,.string yk,.int .u32 yw] 36):=⟨_,rfl⟩
     obtain ⟨g4,hg4⟩:∃ g4,g4=wi.heap.size:=⟨_,rfl⟩
     have B4:Blk w7 g4 [.int .i64 yi,.string yk,.int .u32 yw] 36:=by rw [hw7,hg4];exact B4
     rw [← hw7] at k7
     have HW7:=lH hw7
     have HG4:=lH hg4
     replace own:=own.nx k7
     replace ki:=ki.nx k7
     generalize idsN (cc.take j)=row at own SN hrl
     clear hw7 hg4 k7
     go_upto_region 12 with fail
     rw [← HG4.out,← HW7.out]
     clear e0 e1 e2 e2'
     have y0:=B4.cell 0 _ rfl
     have zb:=ki.size
     go_wp2_with (at_builtin;(refine wpList_append_lit (enc:=encI) w7 rfl _ _ 22 rfl wo.heap.size 3 (.int .i64 0) 1 8 Tryz.underlying22 Tryz.infoI6 rfl (by omega) (by omega) _ _ own rfl (yi:Int) _ rfl rfl (by simp [encI,Value.oneCell']) _ (by simp) rfl (by omega) zb _ ?_);intro v6 w6 own6 _ ch1 _)
     refine ⟨⟨j+1,by omega,by go_num,by rw [SN.out];exact own6,Chg.trans ki ch1⟩,by simp [intOf];omega⟩
    ·obtain rfl:j=cc.length:=by omega
     rw [List.take_length] at own
     have OQ1:=OQ.out.nx ki
     obtain ⟨a6,c6,rfl,_,_,_,_⟩:=own.rd (fun _=>rfl)
     have hkq:qs.length=k:=by rw [OQ1.2.1,List.length_map,List.length_map,List.length_take];omega
     have hzi:w2.heap.size≤wi.heap.size:=by have:=ki.size;omega
     have FR:∀ (j:Nat) (r:Unit×Hdr) (g:Nat),qs[j]?=some r→r.2.val.ownBlock=some g→¬ (Value.slice a6 (idsN cc).length c6).ownBlock=some g:=by
      intro j r g hr hg hv
      have h1:=OQ.out.lt hr hg
      have h2:=(own.lt g hv).1
      omega
     clear hjm hj
     have k8:=Ex.new wi (.cells #[.slice a6 (idsN cc).length c6] 22)
     have SX:Sl 1 (encP enc0) (wi.alloc (.cells #[.slice a6 (idsN cc).length c6] 22)) (some ⟨wi.heap.size,0,none⟩) 1 [(((),(a6,(idsN cc).length,c6)):Unit×Hdr)]:=Sl.lit _ rfl rfl (fun _=>rfl) rfl
     have OQ2:=OQ1.nx k8
     have own2:=own.nx k8
     have ki8:=ki.nx k8
     have hql:qs.length≤1000000:=by omega
     go_wp2_with (at_builtin;(refine wpList_append_W (enc:=encP enc0) _ rfl _ _ 192 rfl w2.heap.size 22 (.slice none 0 0) 1 24 Tryz.underlying192 Tryz.infoIL rfl (by omega) (by omega) _ _ OQ2.1 rfl _ 1 1 [_] SX (fun _=>rfl) (by simp [encP,enc0,Hdr.val,Value.oneCell']) rfl hql (by omega) (by simp;omega) ?_);intro v7 w7 own7 ch0 ch1 _)
     have OQ7:=OQ2.push (by decide) own7 ch0 (own2.base (by omega)) FR
     have kw7:Ex w2 w7:=Chg.trans (KW.out.nx ki8) ch1
     exact ⟨⟨k+1,qs++[(((),(a6,(idsN cc).length,c6)):Unit×Hdr)],by omega,by go_num,by show OwnN enc0 1 1 encI _ _ _ _ _ _ (((C.take (k+1)).map idsN).map pairU);rw [idsC_snoc C k cc HCC.out];exact OQ7,kw7⟩,by simp [intOf];omega⟩
  ·obtain rfl:k=C.length:=by omega
   rw [List.take_length] at OQ
   have OQ:=lH OQ
   clear hk hlt
   go_wp2_with fail
   go_ret
   rw [HYES.out]
   exact ⟨_,qs,rfl,OwnN.base OQ.out hsz,k1.out.nx kw⟩
abbrev FnL:=Int→Nat→Int×Int
def updL (F:FnL) (id:Int) (j:Nat) (v:Int):FnL:=fun x h=>if x=id∧h=j then (v,(F x h).2) else F x h
def updR (F:FnL) (id:Int) (j:Nat) (v:Int):FnL:=fun x h=>if x=id∧h=j then ((F x h).1,v) else F x h
def atI (ids:List Int) (q:Nat):Int:=ids[q]?.getD 0
def procI (ids:List Int) (j:Nat) (F:FnL):Nat→FnL
 | 0=>F
 | n+1=>updR (updL (procI ids j F n) (atI ids (n+1)) j (atI ids n)) (atI ids n) j (atI ids (n+1))
def procL (j:Nat) (M:List (List Int)) (F:FnL):FnL:=M.foldl (fun F ids=>procI ids j F (ids.length-1)) F
def procB (S:List Nd):Nat→FnL
 | 0=>fun _ _=>(0,0)
 | j+1=>procL j (listsN S (j:Nat)) (procB S j)
def rowsF (S:List Nd) (m:Nat) (F:FnL):List Lkd:=S.map fun x=>(x.id,(List.range m).map fun j=>F x.id j)
theorem procL_snoc (j:Nat) (M:List (List Int)) (F:FnL) (k:Nat) (c:List Int) (hc:M[k]?=some c):procL j (M.take (k+1)) F=procI c j (procL j (M.take k) F) (c.length-1):=by
 unfold procL
 rw [List.take_add_one,hc,List.foldl_append]
 rfl
theorem procI_other (ids:List Int) (j:Nat) (F:FnL) (n:Nat) (x:Int) (h:Nat) (hx:h≠j∨∀ q,q≤n→x≠atI ids q):procI ids j F n x h=F x h:=by
 induction n with
 | zero=>rfl
 | succ n ih =>
  have ih:=ih (hx.imp id (fun g q hq=>g q (by omega)))
  show updR (updL (procI ids j F n) (atI ids (n+1)) j (atI ids n)) (atI ids n) j (atI ids (n+1)) x h=_
  unfold updR updL
  rcases hx with hx | hx
  ·rw [if_neg (fun e=>hx e.2),if_neg (fun e=>hx e.2),ih]
  ·rw [if_neg (fun e=>hx n (by omega) e.1),if_neg (fun e=>hx (n+1) (by omega) e.1),ih]
theorem atI_inj {ids:List Int} (hn:ids.Nodup) {p q:Nat} (hp:p<ids.length) (hq:q<ids.length) (e:atI ids p=atI ids q):p=q:=by
 unfold atI at e
 rw [List.getElem?_eq_getElem hp,List.getElem?_eq_getElem hq] at e
 have hw:=List.pairwise_iff_getElem.1 hn
 rcases Nat.lt_trichotomy p q with h | h | h
 ·exact absurd e (hw p q hp hq h)
 ·exact h
 ·exact absurd e.symm (hw q p hq hp h)
theorem procI_at {ids:List Int} (hn:ids.Nodup) (j:Nat) (F:FnL) {p:Nat} (hp:p<ids.length) :
  ∀ n,n<ids.length→procI ids j F n (atI ids p) j=(if 1≤p∧p≤n then atI ids (p-1) else (F (atI ids p) j).1,if p<n then atI ids (p+1) else (F (atI ids p) j).2):=by
 intro n
 induction n with
 | zero=>intro _;rw [if_neg (by omega),if_neg (by omega)];rfl
 | succ n ih =>
  intro hl
  have ih:=ih (by omega)
  have e1:(atI ids p=atI ids (n+1))↔p=n+1:=⟨fun e=>atI_inj hn hp hl e,fun e=>by rw [e]⟩
  have e2:(atI ids p=atI ids n)↔p=n:=⟨fun e=>atI_inj hn hp (by omega) e,fun e=>by rw [e]⟩
  show updR (updL (procI ids j F n) (atI ids (n+1)) j (atI ids n)) (atI ids n) j (atI ids (n+1)) (atI ids p) j=_
  unfold updR updL
  simp only [e1,e2,and_true]
  by_cases h1:p=n+1
  ·rw [if_neg (by omega),if_pos h1,ih,if_pos (by omega:1≤p∧p≤n+1),if_neg (by omega:¬ p<n+1)]
   simp only
   rw [if_neg (by omega:¬ p<n),h1]
   rfl
  ·by_cases h2:p=n
   ·rw [if_pos h2,if_neg h1,ih]
    simp only
    rw [if_pos (by omega:p<n+1),h2]
    by_cases h3:1≤n
    ·rw [if_pos ⟨h3,Nat.le_refl _⟩,if_pos ⟨h3,by omega⟩]
    ·rw [if_neg (by omega),if_neg (by omega)]
   ·rw [if_neg h2,if_neg h1,ih]
    congr 1
    ·by_cases h3:1≤p∧p≤n
     ·rw [if_pos h3,if_pos (by omega)]
     ·rw [if_neg h3,if_neg (by omega)]
    ·by_cases h3:p<n
     ·rw [if_pos h3,if_pos (by omega)]
     ·rw [if_neg h3,if_neg (by omega)]
theorem procL_level (j:Nat) (M:List (List Int)) (F:FnL) (x:Int) (h:Nat) (hh:h≠j):procL j M F x h=F x h:=by
 unfold procL
 induction M generalizing F with
 | nil=>rfl
 | cons c M ih=>rw [List.foldl_cons,ih,procI_other _ _ _ _ _ _ (.inl hh)]
theorem atI_mem {ids:List Int} {q:Nat} (hq:q<ids.length):atI ids q∈ids:=by
 unfold atI;rw [List.getElem?_eq_getElem hq];exact List.getElem_mem hq
theorem procI_mem (ids:List Int) (j:Nat) (F:FnL) (x:Int) (h:Nat) (hx:x∉ids):procI ids j F (ids.length-1) x h=F x h:=by
 by_cases h0:ids=[]
 ·subst h0;rfl
 ·have:0<ids.length:=List.length_pos_iff.2 h0
  exact procI_other _ _ _ _ _ _ (.inr fun q hq e=>hx (e▸atI_mem (by omega)))
theorem procL_not (j:Nat) (M:List (List Int)) (F:FnL) (x:Int) (h:Nat) (hx:∀ c∈M,x∉c):procL j M F x h=F x h:=by
 unfold procL
 induction M generalizing F with
 | nil=>rfl
 | cons c M ih=>rw [List.foldl_cons,ih _ (fun d hd=>hx d (by simp [hd])),procI_mem _ _ _ _ _ (hx c (by simp))]
theorem procL_at (j:Nat):∀ (M:List (List Int)) (F:FnL),M.Pairwise (fun c d=>∀ x∈c,x∉d)→(∀ c∈M,c.Nodup)→∀ c∈M,∀ p,p<c.length→F (atI c p) j=(0,0) →
  procL j M F (atI c p) j=(if 1≤p then atI c (p-1) else 0,if p+1<c.length then atI c (p+1) else 0)
 | [],_,_,_,c,hc,_,_,_=>by cases hc
 | d::M,F,hM,hN,c,hc,p,hp,hF=>by
  rw [List.pairwise_cons] at hM
  show procL j M (procI d j F (d.length-1)) (atI c p) j=_
  by_cases hcd:c∈M
  ·rw [procL_at j M _ hM.2 (fun c hc=>hN c (by simp [hc])) c hcd p hp]
   rw [procI_mem _ _ _ _ _ (fun hx=>hM.1 c hcd _ hx (atI_mem hp))]
   exact hF
  ·obtain rfl:c=d:=by rcases List.mem_cons.1 hc with e | e;exact e;exact absurd e hcd
   rw [procL_not _ _ _ _ _ (fun d hd hx=>hM.1 d hd _ (atI_mem hp) hx),procI_at (hN c (by simp)) j F hp (c.length-1) (by omega),hF]
   congr 1
   ·by_cases h3:1≤p
    ·rw [if_pos h3,if_pos (by omega)]
    ·rw [if_neg h3,if_neg (by omega)]
   ·by_cases h3:p<c.length-1
    ·rw [if_pos h3,if_pos (by omega)]
    ·rw [if_neg h3,if_neg (by omega)]
def InQ (qs:List (Int×Hdr)) (k:Nat):Prop:=∃ (j:Nat) (r:Int×Hdr),qs[j]?=some r∧r.2.val.ownBlock=some k
def Exq (qs:List (Int×Hdr)) (w w':World):Prop:=Chg (fun k=>k<w.heap.size∧¬ InQ qs k) w w'
theorem Exq.refl (qs:List (Int×Hdr)) (w:World):Exq qs w w:=Chg.refl _ w
theorem Exq.size {qs:List (Int×Hdr)} {w w':World} (k:Exq qs w w'):w.heap.size≤w'.heap.size:=Chg.size k
theorem Exq.nxq {qs:List (Int×Hdr)} {w w1 w2:World} (h:Exq qs w w1) (k:Exq qs w1 w2):Exq qs w w2:=Chg.trans h (Chg.mono k (fun _ hk=>⟨Nat.lt_of_lt_of_le hk.1 h.size,hk.2⟩))
theorem Exq.nx {qs:List (Int×Hdr)} {w w1 w2:World} (h:Exq qs w w1) (k:Ex w1 w2):Exq qs w w2:=Chg.trans h (Chg.mono k (fun _ hk=>Nat.lt_of_lt_of_le hk.1 h.size))
theorem Exq.of_ex {qs:List (Int×Hdr)} {w w':World} (k:Ex w w'):Exq qs w w':=Chg.mono k (fun _ hk=>hk.1)
theorem Exq.set {qs:List (Int×Hdr)} {w w':World} (h:Exq qs w w') {p:Addr} (v:Value) (hp:InQ qs p.block):Exq qs w (w'.setCell p v):=Chg.setCell h v (fun k hk he=>hk.2 (he▸hp))
theorem inQ_base {base:Nat} {w:World} {v:Value} {qs:List (Int×Hdr)} {L:List Lkd} (h:OwnLk base w v qs L) {k:Nat} (hk:InQ qs k):base≤k∧k<w.heap.size:=by
 obtain ⟨j,r,hr,hg⟩:=hk
 exact ⟨(OwnN.blk h hr hg).1,OwnN.lt h hr hg⟩
theorem inQ_ne {base:Nat} {w:World} {v:Value} {qs:List (Int×Hdr)} {L:List Lkd} (h:OwnLk base w v qs L) {k:Nat} (hk:v.ownBlock=some k):¬ InQ qs k:=by
 rintro ⟨j,r,hr,hg⟩
 exact OwnN.ne (by decide) h hr hg hk
def ILt (T:Nat→Prop) (w:World) (a:Option Addr) (n:Nat) (M:List (List Int)):Prop :=
 ∃ hs:List (Unit×Hdr),Rd 1 (encP enc0) T w a n hs∧M.length=n∧∀ (j:Nat) (q:Unit×Hdr) (c:List Int),hs[j]?=some q→M[j]?=some c→Rd 1 encI T w q.2.1 q.2.2.1 c
theorem ILt.chg {T:Nat→Prop} {w w':World} {a:Option Addr} {n:Nat} {M:List (List Int)} (h:ILt T w a n M) (k:Chg T w w'):ILt T w' a n M:=by
 obtain ⟨hs,h1,h2,h3⟩:=h
 exact ⟨hs,Rd.chg h1 k (fun _ x=>x),h2,fun j q c hq hc=>Rd.chg (h3 j q c hq hc) k (fun _ x=>x)⟩
theorem ILt.at {T:Nat→Prop} {w:World} {a:Option Addr} {n:Nat} {M:List (List Int)} (h:ILt T w a n M) {j:Nat} (hj:j<n) :
  ∃ x o a' n' c' c,a=some ⟨x,o,none⟩∧T x∧M[j]?=some c∧w.cell? ⟨x,o+j,none⟩=some (.slice a' n' c')∧Rd 1 encI T w a' n' c:=by
 obtain ⟨hs,h1,h2,h3⟩:=h
 obtain ⟨x,o,q,e,hx,hq,hc⟩:=Rd.at h1 hj
 obtain ⟨c,hcc⟩:∃ c,M[j]?=some c:=⟨M[j]'(by omega),by simp⟩
 refine ⟨x,o,q.2.1,q.2.2.1,q.2.2.2,c,e,hx,hcc,?_,h3 j q c hq hcc⟩
 have:=hc 0 _ rfl
 rw [Nat.mul_one,Nat.add_zero] at this
 exact this
theorem OwnIL.ilt {base:Nat} {w:World} {v:Value} {qs:List (Unit×Hdr)} {M:List (List Int)} (h:OwnIL base w v qs M) :
  ∃ a cap,v=.slice a M.length cap∧ILt (fun k=>base≤k∧k<w.heap.size) w a M.length M:=by
 obtain ⟨a,cap,e,r,c1,c2,c3,c4⟩:=h.1.rd (fun _=>rfl)
 have hl:=h.2.1
 rw [List.length_map] at hl
 rw [hl] at e r
 refine ⟨a,cap,e,qs,r,rfl,fun j q c hq hc=>?_⟩
 obtain ⟨r1,r2⟩:=h.2.2.1 j q (pairU c) hq (by rw [List.getElem?_map,hc];rfl)
 obtain ⟨a',cap',e',r',_⟩:=r2.rd (fun _=>rfl)
 obtain ⟨x,q1,q2,q3⟩:=q
 simp only [Hdr.val,Value.slice.injEq] at e'
 obtain ⟨rfl,rfl,rfl⟩:=e'
 exact r'
theorem mkLk0 (w:World):(Instr.makeSlice 119 (.int .i64 1) (.int .i64 1)).run Tryz.prog w=.ok (.slice (some ⟨w.heap.size,0,none⟩) 1 1) (w.alloc (.cells ((List.replicate 1 ((0,0):Int×Int)).flatMap encS).toArray 128)):=by kernel_rfl
theorem mkLk1 (w:World):(Instr.makeSlice 119 (.int .i64 2) (.int .i64 2)).run Tryz.prog w=.ok (.slice (some ⟨w.heap.size,0,none⟩) 2 2) (w.alloc (.cells ((List.replicate 2 ((0,0):Int×Int)).flatMap encS).toArray 128)):=by kernel_rfl
theorem mkLk2 (w:World):(Instr.makeSlice 119 (.int .i64 3) (.int .i64 3)).run Tryz.prog w=.ok (.slice (some ⟨w.heap.size,0,none⟩) 3 3) (w.alloc (.cells ((List.replicate 3 ((0,0):Int×Int)).flatMap encS).toArray 128)):=by kernel_rfl
theorem mkLk3 (w:World):(Instr.makeSlice 119 (.int .i64 4) (.int .i64 4)).run Tryz.prog w=.ok (.slice (some ⟨w.heap.size,0,none⟩) 4 4) (w.alloc (.cells ((List.replicate 4 ((0,0):Int×Int)).flatMap encS).toArray 128)):=by kernel_rfl
theorem mkLk4 (w:World):(Instr.makeSlice 119 (.int .i64 5) (.int .i64 5)).run Tryz.prog w=.ok (.slice (some ⟨w.heap.size,0,none⟩) 5 5) (w.alloc (.cells ((List.replicate 5 ((0,0):Int×Int)).flatMap encS).toArray 128)):=by kernel_rfl
theorem mkLk5 (w:World):(Instr.makeSlice 119 (.int .i64 6) (.int .i64 6)).run Tryz.prog w=.ok (.slice (some ⟨w.heap.size,0,none⟩) 6 6) (w.alloc (.cells ((List.replicate 6 ((0,0):Int×Int)).flatMap encS).toArray 128)):=by kernel_rfl
theorem mkLk6 (w:World):(Instr.makeSlice 119 (.int .i64 7) (.int .i64 7)).run Tryz.prog w=.ok (.slice (some ⟨w.heap.size,0,none⟩) 7 7) (w.alloc (.cells ((List.replicate 7 ((0,0):Int×Int)).flatMap encS).toArray 128)):=by kernel_rfl
theorem mkLk7 (w:World):(Instr.makeSlice 119 (.int .i64 8) (.int .i64 8)).run Tryz.prog w=.ok (.slice (some ⟨w.heap.size,0,none⟩) 8 8) (w.alloc (.cells ((List.replicate 8 ((0,0):Int×Int)).flatMap encS).toArray 128)):=by kernel_rfl
theorem mkLk8 (w:World):(Instr.makeSlice 119 (.int .i64 9) (.int .i64 9)).run Tryz.prog w=.ok (.slice (some ⟨w.heap.size,0,none⟩) 9 9) (w.alloc (.cells ((List.replicate 9 ((0,0):Int×Int)).flatMap encS).toArray 128)):=by kernel_rfl
theorem mkLk9 (w:World):(Instr.makeSlice 119 (.int .i64 10) (.int .i64 10)).run Tryz.prog w=.ok (.slice (some ⟨w.heap.size,0,none⟩) 10 10) (w.alloc (.cells ((List.replicate 10 ((0,0):Int×Int)).flatMap encS).toArray 128)):=by kernel_rfl
theorem mkLk10 (w:World):(Instr.makeSlice 119 (.int .i64 11) (.int .i64 11)).run Tryz.prog w=.ok (.slice (some ⟨w.heap.size,0,none⟩) 11 11) (w.alloc (.cells ((List.replicate 11 ((0,0):Int×Int)).flatMap encS).toArray 128)):=by kernel_rfl
theorem mkLk11 (w:World):(Instr.makeSlice 119 (.int .i64 12) (.int .i64 12)).run Tryz.prog w=.ok (.slice (some ⟨w.heap.size,0,none⟩) 12 12) (w.alloc (.cells ((List.replicate 12 ((0,0):Int×Int)).flatMap encS).toArray 128)):=by kernel_rfl
theorem mkLk12 (w:World):(Instr.makeSlice 119 (.int .i64 13) (.int .i64 13)).run Tryz.prog w=.ok (.slice (some ⟨w.heap.size,0,none⟩) 13 13) (w.alloc (.cells ((List.replicate 13 ((0,0):Int×Int)).flatMap encS).toArray 128)):=by kernel_rfl
theorem mkLk13 (w:World):(Instr.makeSlice 119 (.int .i64 14) (.int .i64 14)).run Tryz.prog w=.ok (.slice (some ⟨w.heap.size,0,none⟩) 14 14) (w.alloc (.cells ((List.replicate 14 ((0,0):Int×Int)).flatMap encS).toArray 128)):=by kernel_rfl
theorem mkLk14 (w:World):(Instr.makeSlice 119 (.int .i64 15) (.int .i64 15)).run Tryz.prog w=.ok (.slice (some ⟨w.heap.size,0,none⟩) 15 15) (w.alloc (.cells ((List.replicate 15 ((0,0):Int×Int)).flatMap encS).toArray 128)):=by kernel_rfl
theorem mkLk15 (w:World):(Instr.makeSlice 119 (.int .i64 16) (.int .i64 16)).run Tryz.prog w=.ok (.slice (some ⟨w.heap.size,0,none⟩) 16 16) (w.alloc (.cells ((List.replicate 16 ((0,0):Int×Int)).flatMap encS).toArray 128)):=by kernel_rfl
theorem mkLk16 (w:World):(Instr.makeSlice 119 (.int .i64 17) (.int .i64 17)).run Tryz.prog w=.ok (.slice (some ⟨w.heap.size,0,none⟩) 17 17) (w.alloc (.cells ((List.replicate 17 ((0,0):Int×Int)).flatMap encS).toArray 128)):=by kernel_rfl
theorem mkLk (m M1:Nat) (hm:m≤16) (h:M1=m+1) (w:World):(Instr.makeSlice 119 (.int .i64 ((m:Int)+1)) (.int .i64 ((m:Int)+1))).run Tryz.prog w =
  .ok (.slice (some ⟨w.heap.size,0,none⟩) M1 M1) (w.alloc (.cells ((List.replicate M1 ((0,0):Int×Int)).flatMap encS).toArray 128)):=by
 subst h
 match m,hm with
 | 0,_=>exact mkLk0 w
 | 1,_=>exact mkLk1 w
 | 2,_=>exact mkLk2 w
 | 3,_=>exact mkLk3 w
 | 4,_=>exact mkLk4 w
 | 5,_=>exact mkLk5 w
 | 6,_=>exact mkLk6 w
 | 7,_=>exact mkLk7 w
 | 8,_=>exact mkLk8 w
 | 9,_=>exact mkLk9 w
 | 10,_=>exact mkLk10 w
 | 11,_=>exact mkLk11 w
 | 12,_=>exact mkLk12 w
 | 13,_=>exact mkLk13 w
 | 14,_=>exact mkLk14 w
 | 15,_=>exact mkLk15 w
 | 16,_=>exact mkLk16 w
 | m+17,h=>exact absurd h (by omega)
theorem rows_set {S:List Nd} (hd:S.Pairwise fun x y=>x.id≠y.id) {m p j:Nat} {y:Nd} (hp:S[p]?=some y) (hj:j<m) (F G:FnL) (hG:∀ x h,(x≠y.id∨h≠j)→G x h=F x h) :
  rowsF S m G=(rowsF S m F).set p (y.id,((List.range m).map fun j=>F y.id j).set j (G y.id j)):=by
 obtain ⟨hpl,hpe⟩:=List.getElem?_eq_some_iff.1 hp
 apply List.ext_getElem?
 intro i
 unfold rowsF
 by_cases hi:i=p
 ·subst hi
  rw [List.getElem?_set_self (by simpa using hpl),List.getElem?_map,hp]
  simp only [Option.map_some,Option.some.injEq,Prod.mk.injEq,true_and]
  apply List.ext_getElem?
  intro h
  by_cases hh:h=j
  ·subst hh
   rw [List.getElem?_set_self (by simpa using hj),List.getElem?_map,List.getElem?_range hj]
   rfl
  ·rw [List.getElem?_set_ne (by omega)]
   simp only [List.getElem?_map]
   by_cases hm:h<m
   ·rw [List.getElem?_range hm]
    simp only [Option.map_some]
    rw [hG _ _ (.inr hh)]
   ·rw [List.getElem?_eq_none (by simpa using hm)];rfl
 ·rw [List.getElem?_set_ne (by omega)]
  simp only [List.getElem?_map]
  cases hx:S[i]? with
  | none=>rfl
  | some x =>
   simp only [Option.map_some]
   have hne:x.id≠y.id:=by
    obtain ⟨hil,hie⟩:=List.getElem?_eq_some_iff.1 hx
    have hw:=List.pairwise_iff_getElem.1 hd
    rcases Nat.lt_or_gt_of_ne hi with h | h
    ·have:=hw i p hil hpl h;rwa [hie,hpe] at this
    ·have:=hw p i hpl hil h;rw [hie,hpe] at this;exact fun e=>this e.symm
   congr 2
   apply List.map_congr_left
   intro h _
   exact hG _ _ (.inl hne)
theorem rows_at {base:Nat} {w:World} {v:Value} {qs:List (Int×Hdr)} {S:List Nd} {m:Nat} {F:FnL} (hd:S.Pairwise fun x y=>x.id≠y.id) (h:OwnLk base w v qs (rowsF S m F)) {p j:Nat} {y:Nd} (hp:S[p]?=some y) (hj:j<m) :
  ∃ g cap g' cap',v=.slice (some ⟨g,0,none⟩) S.length cap∧g<w.heap.size∧¬ InQ qs g∧w.cell? ⟨g,p*2+1,none⟩=some (.slice (some ⟨g',0,none⟩) m cap')∧InQ qs g' ∧
   (∃ u,w.cell? ⟨g',j*2,none⟩=some u)∧(∃ u,w.cell? ⟨g',j*2+1,none⟩=some u)∧w.frozen? ⟨g',j*2,none⟩=false∧w.frozen? ⟨g',j*2+1,none⟩=false ∧
   (∀ u:Int,OwnLk base (w.setCell ⟨g',j*2,none⟩ (.int .i64 u)) v qs (rowsF S m (updL F y.id j u))) ∧
   ∀ u:Int,OwnLk base (w.setCell ⟨g',j*2+1,none⟩ (.int .i64 u)) v qs (rowsF S m (updR F y.id j u)):=by
 have hpl:=(List.getElem?_eq_some_iff.1 hp).1
 have hL:(rowsF S m F)[p]?=some (y.id,(List.range m).map fun j=>F y.id j):=by unfold rowsF;rw [List.getElem?_map,hp];rfl
 obtain ⟨hd1,hq,ho⟩:=OwnN.get (p:=1) h hL
 obtain ⟨a,cap,e,r,c1,c2,c3,c4⟩:=h.1.rd (fun _=>rfl)
 have hlen:qs.length=S.length:=by rw [h.2.1];unfold rowsF;simp
 obtain ⟨g,hga,hgb⟩:=c3 (by intro h0;rw [h0] at hlen;simp at hlen;omega)
 cases hga
 subst e
 have hvb:(Value.slice (some ⟨g,0,none⟩) qs.length cap).ownBlock=some g:=rfl
 have hrow:((List.range m).map fun j=>F y.id j)[j]?=some (F y.id j):=by rw [List.getElem?_map,List.getElem?_range hj];rfl
 have hhd:∃ g' cap',hd1.val=.slice (some ⟨g',0,none⟩) m cap':=by
  rcases ho.2 with ⟨h1,h2⟩ | ⟨g',cap',cur,h1,_⟩
  ·exfalso;have h2':=h2;simp at h2';omega
  ·exact ⟨g',cap',by rw [h1];simp⟩
 obtain ⟨g',cap',hv'⟩:=hhd
 have hinq:InQ qs g':=⟨p,_,hq,by rw [hv'];rfl⟩
 have hcell:=(h.1.set1 (sz:=2) (enc:=encP encI) (c:=1) (fun _=>rfl) hq (by omega)).1
 rw [hv'] at ho
 obtain ⟨q0,f0,O0⟩:=own_set1 (sz:=2) (enc:=encS) (c:=0) (fun _=>rfl) ho hrow (by omega)
 obtain ⟨q1,f1,O1⟩:=own_set1 (sz:=2) (enc:=encS) (c:=1) (fun _=>rfl) ho hrow (by omega)
 have hgl:g<w.heap.size:=by obtain ⟨_,cur,hc⟩:=OwnW.blk h.1 hvb;exact heap_lt hc
 have key:∀ (c:Nat) (u:Value) (row':List (Int×Int)),OwnL 2 encS 128 base (w.setCell ⟨g',j*2+c,none⟩ u) hd1.val row'→OwnLk base (w.setCell ⟨g',j*2+c,none⟩ u) (.slice (some ⟨g,0,none⟩) qs.length cap) qs ((rowsF S m F).set p (y.id,row')):=by
  intro c u row' ho'
  exact OwnN.keep (by decide) h hq ho' ((Chg.refl _ w).setCell _ (fun x hx he=>hx.2 (by rw [hv',he];rfl)))
 refine ⟨g,cap,g',cap',by rw [hlen],hgl,inQ_ne h hvb,?_,hinq,⟨_,q0⟩,⟨_,q1⟩,f0,f1,fun u=>?_,fun u=>?_⟩
 ·rw [← hv']
  exact hcell
 ·rw [rows_set hd hp hj F (updL F y.id j u) (fun x h hx=>by unfold updL;rw [if_neg (fun e=>by rcases hx with hx | hx;exact hx e.1;exact hx e.2)])]
  have hu:updL F y.id j u y.id j=(u,(F y.id j).2):=by unfold updL;rw [if_pos ⟨rfl,rfl⟩]
  rw [hu]
  refine key 0 _ _ ?_
  rw [hv']
  exact O0 (u,(F y.id j).2) (.int .i64 u) rfl
 ·rw [rows_set hd hp hj F (updR F y.id j u) (fun x h hx=>by unfold updR;rw [if_neg (fun e=>by rcases hx with hx | hx;exact hx e.1;exact hx e.2)])]
  have hu:updR F y.id j u y.id j=((F y.id j).1,u):=by unfold updR;rw [if_pos ⟨rfl,rfl⟩]
  rw [hu]
  refine key 1 _ _ ?_
  rw [hv']
  exact O1 ((F y.id j).1,u) (.int .i64 u) rfl
def posK (S:List Nd):Nat→Int→Int
 | 0=>fun _=>0
 | k+1=>fun y=>if y=(S[k]?.getD Nd.zero).id then (k:Int) else posK S k y
theorem posK_at {S:List Nd} (hd:S.Pairwise fun x y=>x.id≠y.id):∀ (k p:Nat) (y:Nd),p<k→k≤S.length→S[p]?=some y→posK S k y.id=p
 | 0,_,_,h,_,_=>by omega
 | k+1,p,y,hp,hk,hy=>by
  unfold posK
  by_cases he:p=k
  ·subst he;rw [hy];exact if_pos rfl
  ·obtain ⟨z,hz⟩:∃ z,S[k]?=some z:=⟨S[k],List.getElem?_eq_getElem (by omega)⟩
   have hne:y.id≠z.id:=by
    obtain ⟨h1,e1⟩:=List.getElem?_eq_some_iff.1 hy
    obtain ⟨h2,e2⟩:=List.getElem?_eq_some_iff.1 hz
    have:=List.pairwise_iff_getElem.1 hd p k h1 h2 (by omega)
    rwa [e1,e2] at this
   rw [hz,if_neg (by exact hne)]
   exact posK_at hd k p y (by omega) (by omega) hy
theorem rows0_snoc (S:List Nd) (m k:Nat) (x:Nd) (hx:S[k]?=some x):rowsF (S.take (k+1)) m (procB S 0)=rowsF (S.take k) m (procB S 0)++[(x.id,List.replicate m (0,0))]:=by
 unfold rowsF
 rw [take_snocN S k x hx,List.map_append]
 congr 1
 show [(x.id,(List.range m).map fun _=>((0,0):Int×Int))]=_
 rw [List.map_const',List.length_range]
theorem lists_in {S:List Nd} {h:Int}:∀ c∈listsN S h,∀ x∈c,∃ y∈S,y.id=x:=by
 intro c hc x hx
 unfold listsN at hc
 split at hc
 ·obtain ⟨d,hd,rfl⟩:=List.mem_map.1 hc
  obtain ⟨y,hy,rfl⟩:=List.mem_map.1 hx
  refine ⟨y,?_,rfl⟩
  by_cases hh:16<h
  ·rw [classesN_big hh] at hd;cases hd
  ·rw [classesN_fold hh] at hd
   exact (sortN_mem S y).1 ((foldC_fine (h:=h) (P:=fun y=>y∈sortN S) (sortN S) (fun _ hy=>hy) d hd).2.2 y hy)
 ·cases hc
theorem lists_sm {S:List Nd} {h:Int} (hl:S.length≤1000):(listsN S h).length≤1000∧∀ c∈listsN S h,c.length≤1000:=by
 unfold listsN
 split
 ·have:=classesN_sm (sortN S) h (by rw [sortN_length];exact hl)
  refine ⟨by rw [List.length_map];exact this.1,fun c hc=>?_⟩
  obtain ⟨d,hd,rfl⟩:=List.mem_map.1 hc
  unfold idsN
  rw [List.length_map]
  exact this.2 d hd
 ·exact ⟨by simp,by simp⟩
def B1Rel (S:List Nd) (m b:Nat) (w:World) (o i:Value) (wr:World):Prop :=
 ∃ (k:Nat) (qs:List (Int×Hdr)),k≤S.length∧i=.int .i64 k∧OwnLk w.heap.size wr o qs (rowsF (S.take k) m (procB S 0))∧MapI wr b k (posK S k)∧Exb b w wr
def B2Rel (S:List Nd) (m base:Nat) (v:Value) (qs:List (Int×Hdr)) (w:World) (i:Value) (wr:World):Prop :=
 ∃ j:Nat,j≤m∧i=.int .i64 j∧OwnLk base wr v qs (rowsF S m (procB S j))∧Exq qs w wr
def B3Rel (S:List Nd) (m base j:Nat) (M:List (List Int)) (v:Value) (qs:List (Int×Hdr)) (w:World) (i:Value) (wr:World):Prop :=
 ∃ q:Nat,q≤M.length∧i=.int .i64 q∧OwnLk base wr v qs (rowsF S m (procL j (M.take q) (procB S j)))∧Exq qs w wr
def B4Rel (S:List Nd) (m base j:Nat) (c:List Int) (F:FnL) (v:Value) (qs:List (Int×Hdr)) (w:World) (i:Value) (wr:World):Prop :=
 ∃ r:Nat,(r<c.length∨r=0)∧i=.int .i64 ((r:Int)+1)∧OwnLk base wr v qs (rowsF S m (procI c j F r))∧Exq qs w wr
theorem blk_ne {α:Type} {sz base g:Nat} {enc:α→List Value} {e ty:TypeId} {w:World} {v:Value} {l:List α} {cs:List Value} (h:OwnW sz enc e base w v l) (B:Blk w g cs ty) (hne:ty≠e):¬ v.ownBlock=some g:=by
 intro hv
 obtain ⟨_,cur,e1⟩:=h.blk hv
 unfold Blk at B
 rw [B] at e1
 simp at e1
 exact hne e1.2
theorem own_out {base:Nat} {w:World} {v:Value} {qs:List (Int×Hdr)} {S:List Nd} {m:Nat} {F:FnL} (h:OwnLk base w v qs (rowsF S m F)):∃ a c,v=.slice a S.length c:=by
 obtain ⟨a,c,e,_⟩:=h.1.rd (fun _=>rfl)
 refine ⟨a,c,?_⟩
 rw [e,h.2.1]
 unfold rowsF
 rw [List.length_map]
theorem atI_of {c:List Int} {r:Nat} {x:Int} (h:c[r]?=some x):atI c r=x:=by unfold atI;rw [h];rfl
theorem Chg.undrew {S:Nat→Prop} {w w':World} (h:Chg S w w'):Chg S w.drew w':=⟨h.1,h.2,h.3,h.4,h.5⟩
theorem mem_at {S:List Nd} {x:Int} (h:∃ y:Nd,y∈S∧y.id=x):∃ (p:Nat) (y:Nd),S[p]?=some y∧y.id=x:=by
 obtain ⟨y,hy,e⟩:=h
 obtain ⟨p,hp⟩:=List.mem_iff_getElem?.1 hy
 exact ⟨p,y,hp,e⟩
set_option maxRecDepth 100000 in
set_option maxHeartbeats 8000000 in
theorem build_q (a:Option Addr) (n c:Nat) (l:List Nd) (h:Int) (w:World) (hs:Sl 3 encN w a n l) (hn:n≤1000) (hc:n≤c) (hm:c≤maxLen) (hw:∀ x∈l,x.word<4294967296) (hT:TabG w)
  (L:List Lkd) (e0:Int) (hL1:checkN l≠0→L=[]∧e0=1) (hL2:checkN l=0→lvlN h=false→L=[]∧e0=2) (hL3:checkN l=0→∀ m:Nat,h=m→m≤16→L=rowsF (sortN l) (m+1) (procB (sortN l) (m+1))∧e0=0) :
  Calls Tryz.prog 38 #[.slice a n c,.int .i64 h] w (LkPost L e0 w):=by
 have HW:=lH hw
 have HL:=lH hs.len
 have HT:=lH hT
 have H1:=lH hL1
 have H2:=lH hL2
 have H3:=lH hL3
 have hmm:=@run_makeMap Tryz.prog
 clear hw hT hL1 hL2 hL3
 go_enter Tryz.func38,Tryz.ntmps38
 go_wp2_with fail
 (with_reducible refine (ordered_p _ _ _ _ _ hs hn hc hm).mono ?_)
 rintro e w0 ⟨v,S,rfl,OS,⟨hp,hsrt⟩,k0⟩
 have SL:=lH hp.length_eq
 have SW:Hid (∀ x∈S,x.word<4294967296):=lH (fun x hx=>HW.out x (hp.mem_iff.1 hx))
 have HSR:=lH hsrt
 replace HT:=lH (HT.out.nx k0)
 have SOK:Hid (checkN l=0→∀ x∈S,1≤x.id∧x.id≤2147483647):=lH (fun h0 x hx=>by
  have:=roster_ok h0 x (hp.mem_iff.1 hx)
  exact ⟨this.2.1,this.2.2.1⟩)
 clear hp hsrt hs
 by_cases hck:checkN l=0
 case neg =>
  obtain ⟨rfl,rfl⟩:=H1.out hck
  have d1:(checkN l==0)=false:=by simpa using hck
  rw [d1]
  clear hck d1 OS
  go_wp2_with fail
  go_ret2
  exact ⟨_,[],rfl,OwnN.nil _ _ _ _ _ _ _ _,k0⟩
 have HCK:=lH hck
 have d1:(checkN l==0)=true:=by simpa using hck
 rw [d1]
 clear hck d1
 by_cases hlo:h<0
 ·obtain ⟨rfl,rfl⟩:=H2.out HCK.out (by unfold lvlN;simp;omega)
  clear OS
  go_wp2_with fail
  go_ret2
  exact ⟨_,[],rfl,OwnN.nil _ _ _ _ _ _ _ _,k0⟩
 by_cases hhi:16<h
 ·obtain ⟨rfl,rfl⟩:=H2.out HCK.out (by unfold lvlN;simp;omega)
  clear OS
  go_wp2_with fail
  go_ret2
  exact ⟨_,[],rfl,OwnN.nil _ _ _ _ _ _ _ _,k0⟩
 obtain ⟨m,rfl⟩:=Int.eq_ofNat_of_zero_le (show 0≤h by omega)
 have hm16:m≤16:=by omega
 obtain ⟨hLL,rfl⟩:=H3.out HCK.out m rfl hm16
 rw [← HSR.out HCK.out] at hLL
 have HLL:=lH hLL
 have ID:Hid (S.Pairwise fun x y=>x.id≠y.id):=lH (by
  rw [HSR.out HCK.out]
  exact (sortN_str HCK.out).imp (fun h=>h.2))
 have SOK:=lH (SOK.out HCK.out)
 obtain ⟨M1,hM1⟩:∃ M1,M1=m+1:=⟨_,rfl⟩
 rw [← hM1] at HLL
 have HM1:=lH hM1
 have hM17:M1≤17:=by omega
 clear hM1
 obtain ⟨aS,cS,rfl,sS,hcS,hmS⟩:=OS.sl3 (fun _=>rfl)
 have hnS:S.length≤1000:=by have:=HL.out;have:=SL.out;omega
 clear OS hLL H1 H2 H3 hlo hhi
 obtain ⟨w1,hw1⟩:∃ w1,w1=w0.alloc (.map #[] 0):=⟨_,rfl⟩
 obtain ⟨b,hb⟩:∃ b,b=w0.heap.size:=⟨_,rfl⟩
 have MI:MapI w1 b 0 (posK S 0):=by rw [hw1,hb];exact MapI.made w0
 have k1:Ex w0 w1:=by rw [hw1];exact Ex.new _ _
 have sSb:=(sS.slb (Nat.le_of_eq hb.symm)).nxb (k1.b b)
 have hb0:w.heap.size≤b:=by have:=k0.size;omega
 have HT1:=lH (HT.out.nx k1)
 have hTb:1<b:=by have:=HT.out.lt;omega
 have hTb:=lH hTb
 have hbw1:b<w1.heap.size:=MI.lt
 have HW1:=lH hw1
 have HB:=lH hb
 have K1:=lH (k0.nx k1)
 have SSB:=lH sSb
 clear hw1 hb k0 k1 sS sSb
 go_upto_region 7 with fail
 rw [← HB.out,← HW1.out]
 go_wp2_with fail
 go_loopw [9,32] (fun o i wr=>B1Rel S M1 b w1 o i wr) (fun _ i _=>S.length-(intOf i).toNat)
 case atStart=>exact ⟨0,[],by omega,rfl,OwnN.nil _ _ _ _ _ _ _ _,MI,Exb.refl _ _⟩
 case round =>
  clear MI
  obtain ⟨k,qs,hk,rfl,OQ,MI,kw⟩:=hrel
  obtain ⟨wo,rfl⟩:∃ wo:World,wo=wr:=⟨_,rfl⟩
  by_cases hlt:k<S.length
  ·obtain ⟨x1,o1,y,rfl,hx1,hy,hc1⟩:=((SSB.out.nxb kw).sl).at hlt
   obtain ⟨yi,yk,yw⟩:=y
   have e0:wo.cell? ⟨x1,o1+k*3,none⟩=some (.int .i64 yi):=hc1 0 _ rfl
   have e1:wo.cell? ⟨x1,o1+k*3+1,none⟩=some (.string yk):=hc1 1 _ rfl
   have e2:wo.cell? ⟨x1,o1+k*3+2,none⟩=some (.int .u32 yw):=hc1 2 _ rfl
   have e2':wo.cell? ⟨x1,o1+k*3+1+1,none⟩=some (.int .u32 yw):=e2
   have RS:=lH (rows0_snoc S M1 k _ hy)
   have hid:=SOK.out _ (List.mem_of_getElem? hy)
   have hid1:1≤yi:=hid.1
   have hid2:yi≤2147483647:=hid.2
   have PK:Hid ((fun y=>if y=yi then (k:Int) else posK S k y)=posK S (k+1)):=lH (by
    show _=fun y=>if y=(S[k]?.getD Nd.zero).id then (k:Int) else posK S k y
    rw [hy];rfl)
   clear hy hc1 hid
   have k7:=Ex.new wo (.cells #[.int .i64 yi,.string yk,.int .u32 yw] 36)
   have B4:=Blk.new wo [.int .i64 yi,.string yk,.int .u32 yw] 36
   obtain ⟨w7,hw7⟩:∃ w7,w7=wo.alloc (.cells #[.int .i64 yi,.string yk,.int .u32 yw] 36):=⟨_,rfl⟩
   obtain ⟨g4,hg4⟩:∃ g4,g4=wo.heap.size:=⟨_,rfl⟩
   have B4:Blk w7 g4 [.int .i64 yi,.string yk,.int .u32 yw] 36:=by rw [hw7,hg4];exact B4
   rw [← hw7] at k7
   have hg4b:g4≠b:=by have:=MI.lt;omega
   have HW7:=lH hw7
   have HG4:=lH hg4
   replace OQ:=OwnN.nx OQ k7
   replace MI:=MI.nx k7
   replace kw:=kw.nxb (k7.b b)
   clear hw7 hg4 k7
   go_upto_region 11 with fail
   rw [← HG4.out,← HW7.out]
   clear e0 e1 e2 e2'
   obtain ⟨wm,hrun,MI2,km⟩:=MI.put (x:=yi) (v:=k) (by omega) (by omega) (show k<maxLen by unfold maxLen;omega)
   have y0:=B4.cell 0 _ rfl
   have B4m:=lH (B4.nxb hg4b km)
   have OQm:=lH (OwnN.nxb OQ hbw1 km)
   replace kw:=lH (kw.nxb km)
   rw [PK.out] at MI2
   have MI2:=lH MI2
   clear OQ MI B4 km
   go_upto_region 12 with fail
   clear hrun y0
   have B4d:=lH (B4m.out.nx (Ex.refl wm).drew)
   obtain ⟨Z,hZ⟩:∃ Z,Z=((List.replicate M1 ((0,0):Int×Int)).flatMap encS).toArray:=⟨_,rfl⟩
   have cm:(Instr.makeSlice 119 (.int .i64 ((m:Int)+1)) (.int .i64 ((m:Int)+1))).run Tryz.prog wm.drew=.ok (.slice (some ⟨wm.drew.heap.size,0,none⟩) M1 M1) (wm.drew.alloc (.cells Z 128)):=by
    rw [hZ];exact mkLk m M1 hm16 HM1.out _
   have CM:=lH cm
   have HZ:=lH hZ
   have hbs:w1.heap.size≤wm.heap.size:=kw.out.size
   have IN:Hid (OwnL 2 encS 128 w1.heap.size (wm.alloc (.cells Z 128)) (.slice (some ⟨wm.heap.size,0,none⟩) M1 M1) (List.replicate M1 ((0,0):Int×Int))):=lH (by
    have:=OwnL.lit (sz:=2) (enc:=encS) (e:=128) (base:=w1.heap.size) (w:=wm) (List.replicate M1 ((0,0):Int×Int)) (fun _=>rfl) hbs (by rw [List.length_replicate];unfold maxLen;omega) (cs:=Z) hZ
    rwa [List.length_replicate] at this)
   have hkq:qs.length=k:=by rw [OQm.out.2.1];unfold rowsF;rw [List.length_map,List.length_take];omega
   have hkq:=lH hkq
   have FR:Hid (∀ (j:Nat) (r:Int×Hdr) (g:Nat),qs[j]?=some r→r.2.val.ownBlock=some g→¬ (Value.slice (some ⟨wm.heap.size,0,none⟩) M1 M1).ownBlock=some g):=lH (by
    intro j r g hr hg hv
    have h1:g<wm.heap.size:=OwnN.lt OQm.out hr hg
    cases hv
    exact Nat.lt_irrefl _ h1)
   have wrm:IntKind.i64.wrap ((m:Int)+1)=(m:Int)+1:=IntWalk.i64_in _ (by omega)
   have NB:=lH (blk_ne OQm.out.1 B4m.out (by decide))
   have G4L:Hid (g4<wm.heap.size):=lH B4m.out.lt
   clear cm hZ
   refine wp_region_held_drew (S:=Chg (· = g4) wm.drew) (by kernel_rfl) (Chg.refl _ _) (fun hHeld=>?_)
   refine tkH 0 (v:=?_) rfl (by kernel_rfl) (fun _ _ _ h=>h) (by rfl) ?y1 hHeld ?_
   case y1=>intro wq hSw;go_simp<;>rfl
   refine tkH 1 (v:=?_) rfl (by kernel_rfl) (fun _ _ _ h=>h) (by rfl) ?y4 hHeld ?_
   case y4=>intro wq hSw;go_simp<;>rfl
   refine tkH 2 (v:=?_) rfl (by kernel_rfl) (fun _ _ _ h=>h) (by rfl) ?y7 hHeld ?_
   case y7=>intro wq hSw;(have cq:=(B4d.out.chg hSw rfl).cell 0 _ rfl;go_simp)<;>rfl
   refine tkH 3 (v:=?_) rfl (by kernel_rfl) (fun _ _ _ h=>h) (by rfl) ?y10 hHeld ?_
   case y10=>intro wq hSw;go_simp<;>rfl
   refine tkH 4 (v:=?_) rfl (by kernel_rfl) (fun _ _ _ h=>h) (by rfl) ?y13 hHeld ?_
   case y13=>intro wq hSw;go_simp<;>rfl
   refine rH 5 (by kernel_rfl) rfl fun K hK=>?_
   have cm:=CM.out
   go_simp
   clear cm
   refine hK.out _ _ ((Chg.undrew ((Chg.refl (· = g4) wm).alloc _ (fun x hx=>by cases hx;exact G4L.out)).drew)) (fun hHeld=>?_)
   clear hK K
   refine tkH 6 (v:=?_) rfl (by kernel_rfl) (fun _ _ _ h=>h) (by rfl) ?y24 hHeld ?_
   case y24=>intro wq hSw;go_simp<;>rfl
   refine rH 7 (by kernel_rfl) rfl fun K hK=>?_
   go_simp
   refine hK.out _ _ ((Chg.undrew (((Chg.refl (· = g4) wm).alloc _ (fun x hx=>by cases hx;exact G4L.out)).alloc _ (fun x hx=>by cases hx;exact Nat.lt_of_lt_of_le G4L.out (Ex.new wm _).size)).drew)) (fun hHeld=>?_)
   clear hK K
   refine rH 8 (by kernel_rfl) rfl fun K hK=>?_
   rw [if_pos (by rfl)]
   have kz:Ex wm ((wm.alloc (.cells Z 128)).alloc (.cells #[.int .i64 yi,.slice (some ⟨wm.heap.size,0,none⟩) M1 M1] 121)).drew:=((Ex.new wm (.cells Z 128)).alloc _).drew
   have OQ2:=OwnN.nx OQm.out kz
   have hql:qs.length≤1000000:=by rw [hkq.out];omega
   have SX0:Sl 2 (encP encI) ((wm.alloc (.cells Z 128)).alloc (.cells #[.int .i64 yi,.slice (some ⟨wm.heap.size,0,none⟩) M1 M1] 121)) (some ⟨wm.heap.size+1,0,none⟩) 1 [((yi,(some ⟨wm.heap.size,0,none⟩,M1,M1)):Int×Hdr)]:=Sl.lit _ (by simp) rfl (fun _=>rfl) rfl
   have SX:=SX0.nx (Ex.refl _).drew
   have zz:=Nat.le_trans hbs kz.size
   refine wp_append_W (enc:=encP encI) _ (.tmp 41) (.tmp 48) 28 rfl w1.heap.size 121 (.agg #[.int .i64 0,.slice none 0 0]) 2 32 Tryz.underlying28 Tryz.infoLd rfl (by omega) (by omega) _ qs OQ2.1 rfl _ 1 1 [((yi,(some ⟨wm.heap.size,0,none⟩,M1,M1)):Int×Hdr)] SX (fun _=>rfl) (by simp [encP,encI,Hdr.val,Value.oneCell']) rfl hql (by omega) zz ?_
   intro v9 w9 own9 ch0 ch1 _
   refine hK.out _ _ ((Chg.undrew (Chg.trans (Chg.mono kz (fun x hx=>by cases hx;exact G4L.out)) (Chg.mono ch0 (fun x hx=>by cases hx;exact ⟨Nat.lt_of_lt_of_le G4L.out kz.size,NB.out⟩))))) (fun hHeld=>?_)
   clear hK K
   refine tkH 9 (v:=?_) rfl (by kernel_rfl) (fun _ _ _ h=>h) (by rfl) ?y47 hHeld ?_
   case y47=>intro wq hSw;go_simp<;>rfl
   refine wpAnyH_done (by kernel_rfl) ?_ _
   have OQ9:=OwnN.push (by decide) OQ2 own9 ch0 (IN.out.nx (Ex.new _ _).drew) FR.out
   have kw9:Exb b w1 w9:=Chg.trans (Chg.trans kw.out (Chg.mono kz (fun x hx=>Nat.lt_of_lt_of_le hx.1 kw.out.size))) (Chg.mono ch1 (fun x hx=>hx.1))
   have MI9:=MI2.out.chg (S:=(· = b)) (Chg.trans (Chg.mono kz (fun x hx=>by cases hx;exact MI2.out.lt)) (Chg.mono ch1 (fun x hx=>by cases hx;exact hbw1))) rfl
   clear OQ2 own9 ch0 ch1 SX SX0
   go_wp2_with fail
   exact ⟨⟨k+1,_,by omega,by go_num,by rw [RS.out];exact OQ9,MI9,kw9⟩,by simp [intOf];omega⟩
  ·obtain rfl:k=S.length:=by omega
   rw [List.take_length] at OQ
   obtain ⟨ao,co,rfl⟩:=own_out OQ
   have HQB:Hid (∀ k,InQ qs k→w1.heap.size≤k∧k<wo.heap.size):=lH (fun k hk=>inQ_base OQ hk)
   have KT:Hid (∀ wr,Exq qs wo wr→Exb b w1 wr):=lH (fun wr kq=>Chg.trans kw (Chg.mono kq (fun x hx=>⟨Nat.lt_of_lt_of_le hx.1 kw.size,fun hi=>by have h1:=(HQB.out x hi).1;have h2:=hx.1;exact absurd h2 (Nat.not_lt.2 h1)⟩)))
   have MIH:Hid (∀ wr,Exq qs wo wr→MapI wr b S.length (posK S S.length)):=lH (fun wr kq=>MI.chg kq ⟨MI.lt,fun hi=>by have h1:=(HQB.out b hi).1;omega⟩)
   have KW:=lH kw
   have hzo:=kw.size
   clear hk hlt kw MI
   have wrm:IntKind.i64.wrap ((m:Int)+1)=(m:Int)+1:=IntWalk.i64_in _ (by omega)
   go_wp2_with fail
   go_loopw [53] (fun i wr=>B2Rel S M1 w1.heap.size (.slice ao S.length co) qs wo i wr) (fun i _=>M1-(intOf i).toNat)
   case atStart=>exact ⟨0,by omega,rfl,OQ,Exq.refl _ _⟩
   case round =>
    clear OQ
    obtain ⟨j,hj,rfl,OQ,kq⟩:=hrel
    obtain ⟨wj,rfl⟩:∃ wj:World,wj=wr:=⟨_,rfl⟩
    by_cases hjm:j<M1
    ·have hjm1:(j:Int)<(m:Int)+1:=by have:=HM1.out;omega
     have SSj:=(SSB.out.nxb (KT.out _ kq)).sl
     have TGj:TabG wj:=HT1.out.chg (KT.out _ kq) ⟨HT1.out.lt,by have:=hTb.out;omega⟩
     have OQH:=lH OQ
     have KQ:=lH kq
     have hzj:=kq.size
     have HLI:=lH (lists_in (S:=S) (h:=(j:Int)))
     have HLS:=lH (lists_sm (h:=(j:Int)) hnS)
     have HPB:Hid (procB S (j+1)=procL j (listsN S (j:Int)) (procB S j)):=lH rfl
     clear OQ kq
     go_wp2_with fail
     (with_reducible refine (lists_p _ _ _ _ _ _ SSj hnS hcS hmS SW.out TGj).mono ?_)
     rintro e w5 ⟨vl,ql,rfl,OL,k5⟩
     obtain ⟨aL,cL,rfl,LT⟩:=OwnIL.ilt OL
     obtain ⟨M,hM⟩:∃ M,M=listsN S (j:Int):=⟨_,rfl⟩
     rw [← hM] at LT HLI HLS HPB ⊢
     have LT:=lH LT
     have OQ:=OwnN.nx OQH.out k5
     have K5:=lH k5
     have hz5:=k5.size
     have hMl:=HLS.out.1
     have KL:Hid (∀ u v,w5.heap.size≤u.heap.size→Exq qs u v→Chg (fun k=>wj.heap.size≤k∧k<w5.heap.size) u v):=lH (fun u v hu kq=>Chg.mono kq (fun x hx=>⟨Nat.lt_of_lt_of_le hx.2 hu,fun hi=>by have h1:=(HQB.out x hi).2;have h2:=hx.1;omega⟩))
     clear OL k5 SSj TGj hM
     go_wp2_with fail
     go_loopw [60] (fun i wr=>B3Rel S M1 w1.heap.size j M (.slice ao S.length co) qs w5 i wr) (fun i _=>M.length-(intOf i).toNat)
     case atStart=>exact ⟨0,by omega,rfl,OQ,Exq.refl _ _⟩
     case round =>
      clear OQ
      obtain ⟨q,hq,rfl,OQ,k3⟩:=hrel
      obtain ⟨wq3,rfl⟩:∃ wq3:World,wq3=wr:=⟨_,rfl⟩
      by_cases hqm:q<M.length
      ·obtain ⟨x3,o3,a',n',c',cc,rfl,hx3,hcc,hcell,hids⟩:=(LT.out.chg (KL.out _ _ (Nat.le_refl _) k3)).at hqm
       have hnl:=hids.1
       subst hnl
       have hcl:cc.length≤1000:=HLS.out.2 cc (List.mem_of_getElem? hcc)
       have HIN:=lH (HLI.out cc (List.mem_of_getElem? hcc))
       have PS:=lH (procL_snoc j M (procB S j) q cc hcc)
       have hz3:=k3.size
       have HID:=lH hids
       have K3:=lH k3
       obtain ⟨F,hF⟩:∃ F,F=procL j (M.take q) (procB S j):=⟨_,rfl⟩
       rw [← hF] at OQ PS
       clear hcc hids k3 hF
       go_wp2_with fail
       clear hcell
       go_loopw [15] (fun i wr=>B4Rel S M1 w1.heap.size j cc F (.slice ao S.length co) qs wq3 i wr) (fun i _=>cc.length-(intOf i).toNat)
       case atStart=>exact ⟨0,.inr rfl,rfl,OQ,Exq.refl _ _⟩
       case round =>
        clear OQ
        obtain ⟨r,hr,rfl,OQ,k4⟩:=hrel
        obtain ⟨wi,rfl⟩:∃ wi:World,wi=wr:=⟨_,rfl⟩
        by_cases hrm:r+1<cc.length
        ·have k4d:Exq qs wq3 wi.drew:=k4.nx (Ex.refl wi).drew
         have OQ:=OwnN.nx OQ (Ex.refl wi).drew
         have RI:=HID.out.chg (KL.out _ _ hz3 k4d) (fun _ x=>x)
         obtain ⟨x6,o6,i1,rfl,hx6,hi1,hc6⟩:=RI.at hrm
         obtain ⟨x7,o7,i0,e67,_,hi0,hc7⟩:=RI.at (show r<cc.length by omega)
         cases e67
         have E1:wi.drew.cell? ⟨x6,o6+(r+1),none⟩=some (.int .i64 i1):=by simpa using hc6 0 _ rfl
         have E0:wi.drew.cell? ⟨x6,o6+r,none⟩=some (.int .i64 i0):=by simpa using hc7 0 _ rfl
         obtain ⟨p1,y1,hp1,hy1⟩:=mem_at (HIN.out i1 (List.mem_of_getElem? hi1))
         obtain ⟨p0,y0,hp0,hy0⟩:=mem_at (HIN.out i0 (List.mem_of_getElem? hi0))
         have PP:Hid (procI cc j F (r+1)=updR (updL (procI cc j F r) i1 j i0) i0 j i1):=lH (by rw [← atI_of hi1,← atI_of hi0];rfl)
         obtain ⟨FF,hFF⟩:∃ FF,FF=procI cc j F r:=⟨_,rfl⟩
         rw [← hFF] at OQ PP
         have b1:=SOK.out _ (List.mem_of_getElem? hp1)
         have b0:=SOK.out _ (List.mem_of_getElem? hp0)
         rw [hy1] at b1
         rw [hy0] at b0
         have hq1:=posK_at ID.out S.length p1 y1 (List.getElem?_eq_some_iff.1 hp1).1 (Nat.le_refl _) hp1
         have hq0:=posK_at ID.out S.length p0 y0 (List.getElem?_eq_some_iff.1 hp0).1 (Nat.le_refl _) hp0
         have hl1:=(List.getElem?_eq_some_iff.1 hp1).1
         have hl0:=(List.getElem?_eq_some_iff.1 hp0).1
         rw [hy1] at hq1
         rw [hy0] at hq0
         have KK:=KQ.out.nxq ((Exq.of_ex K5.out).nxq (K3.out.nxq k4d))
         have LK1:Hid (∀ wq,Exq qs wi.drew wq→(Instr.lookup 191 (.map (some b)) (.int .i64 i1) false).run Tryz.prog wq=.ok (.int .i64 (p1:Int)) wq):=lH (fun wq hSw=>by
          have:=(MIH.out wq (KK.nxq hSw)).look (x:=i1) (by omega)
          rwa [hq1] at this)
         have LK0:Hid (∀ wq,Exq qs wi.drew wq→(Instr.lookup 191 (.map (some b)) (.int .i64 i0) false).run Tryz.prog wq=.ok (.int .i64 (p0:Int)) wq):=lH (fun wq hSw=>by
          have:=(MIH.out wq (KK.nxq hSw)).look (x:=i0) (by omega)
          rwa [hq0] at this)
         have NX:Hid (x6<wi.drew.heap.size∧¬ InQ qs x6):=lH ⟨by have:=k4d.size;have:=hx6.2;omega,fun hi=>by have h1:=(HQB.out x6 hi).2;have h2:=hx6.1;omega⟩
         obtain ⟨g,cap,g1,cap1,ev,hgl,hgq,hc1,hin1,⟨u10,hu10⟩,⟨u11,hu11⟩,f10,f11,OU1,OV1⟩:=rows_at ID.out OQ hp1 hjm
         cases ev
         rw [hy1] at OU1
         have OQ1:=OU1 i0
         have ks1:Exq qs wi.drew (wi.drew.setCell ⟨g1,j*2,none⟩ (.int .i64 i0)):=(Exq.refl _ _).set _ hin1
         obtain ⟨g',cap',g0,cap0,ev,hgl',hgq',hc0,hin0,⟨u00,hu00⟩,⟨u01,hu01⟩,f00,f01,OU0,OV0⟩:=rows_at ID.out (OwnN.nx OQ1 (Ex.refl _).drew) hp0 hjm
         cases ev
         rw [hy0] at OV0
         have OQ0:=lH (OV0 i1)
         have NG:Hid (g<wi.drew.heap.size∧¬ InQ qs g):=lH ⟨hgl,hgq⟩
         have NG':Hid (g<(wi.drew.setCell ⟨g1,j*2,none⟩ (.int .i64 i0)).drew.heap.size∧¬ InQ qs g):=lH ⟨hgl',hgq⟩
         have HE1:=lH E1
         have HE0:=lH E0
         have HC1:=lH hc1
         have KS1:=lH ks1
         have KS1d:Hid (Exq qs wi.drew (wi.drew.setCell ⟨g1,j*2,none⟩ (.int .i64 i0)).drew):=lH (ks1.nx (Ex.refl _).drew)
         have HC0:Hid (wi.drew.cell? ⟨g,p0*2+1,none⟩=some (.slice (some ⟨g0,0,none⟩) M1 cap0)):=lH ((Chg.cell (p:=⟨g,p0*2+1,none⟩) KS1d.out NG.out).symm.trans hc0)
         have IN1:=lH hin1
         have IN0:=lH hin0
         have ST1:=lH (And.intro hu10 f10)
         obtain ⟨gx,capx,g0',cap0',ev,_,_,hc0',_,_,⟨u01',hu01'⟩,_,f01',_,_⟩:=rows_at ID.out OQ hp0 hjm
         cases ev
         have hg00:g0=g0':=by
          have:=hc0'.symm.trans HC0.out
          simp at this
          exact this.1.symm
         subst hg00
         have ST0:Hid (wi.cell? ⟨g0,j*2+1,none⟩=some u01'∧wi.frozen? ⟨g0,j*2+1,none⟩=false):=lH ⟨hu01',f01'⟩
         clear hc0' hu01' f01'
         have K4D:=lH k4d
         have wr1:IntKind.i64.wrap ((r:Int)+1+1)=(r:Int)+1+1:=IntWalk.i64_in _ (by omega)
         have hrm1:(r:Int)+1<(cc.length:Int):=by omega
         have wr0:IntKind.i64.wrap (r:Int)=(r:Int):=IntWalk.i64_in _ (by omega)
         have hr01:(0:Int)≤(r:Int)+1:=by omega
         have hrm0:(r:Int)<(cc.length:Int):=by omega
         have hp1S:(p1:Int)<(S.length:Int):=by omega
         have hp0S:(p0:Int)<(S.length:Int):=by omega
         have hjM:(j:Int)<(M1:Int):=by omega
         clear hFF b1 b0 hq1 hq0 hy1 hy0 hp1 hp0 hc6 hc7 hi0 hi1 E1 E0 OU1 OV1 OU0 OV0 OQ OQ1 ks1 hgl hgq hgl' hgq' hc1 hc0 hin1 hin0 hu10 hu11 hu00 hu01 f10 f11 f00 f01 RI k4 k4d hx6 KK
         go_wp2_with fail
         refine wp_region_held_drew (S:=Exq qs wi.drew) (by kernel_rfl) (Exq.refl _ _) (fun hHeld=>?_)
         refine tkH 0 (v:=?_) rfl (by kernel_rfl) (fun _ _ _ h=>h) (by rfl) ?y1 hHeld ?_
         case y1=>intro wq hSw;go_simp<;>rfl
         refine tkH 1 (v:=?_) rfl (by kernel_rfl) (fun _ _ _ h=>h) (by rfl) ?y4 hHeld ?_
         case y4=>intro wq hSw;go_simp<;>rfl
         refine tkH 2 (v:=?_) rfl (by kernel_rfl) (fun _ _ _ h=>h) (by rfl) ?y7 hHeld ?_
         case y7=>intro wq hSw;go_simp<;>rfl
         refine tkH 3 (v:=?_) rfl (by kernel_rfl) (fun _ _ _ h=>h) (by rfl) ?y10 hHeld ?_
         case y10=>intro wq hSw;go_simp<;>rfl
         refine tkH 4 (v:=?_) rfl (by kernel_rfl) (fun _ _ _ h=>h) (by rfl) ?y13 hHeld ?_
         case y13=>intro wq hSw;go_simp<;>rfl
         refine tkH 5 (v:=?_) rfl (by kernel_rfl) (fun _ _ _ h=>h) (by rfl) ?y16 hHeld ?_
         case y16=>intro wq hSw;(have cq:=Chg.cellv hSw HE1.out NX.out;go_simp)<;>rfl
         refine tkH 6 (v:=?_) rfl (by kernel_rfl) (fun _ _ _ h=>h) (by rfl) ?y19 hHeld ?_
         case y19=>intro wq hSw;(have cq:=LK1.out _ hSw;go_simp)<;>rfl
         refine tkH 7 (v:=?_) rfl (by kernel_rfl) (fun _ _ _ h=>h) (by rfl) ?y22 hHeld ?_
         case y22=>intro wq hSw;go_simp<;>rfl
         refine tkH 8 (v:=?_) rfl (by kernel_rfl) (fun _ _ _ h=>h) (by rfl) ?y25 hHeld ?_
         case y25=>intro wq hSw;go_simp<;>rfl
         refine tkH 9 (v:=?_) rfl (by kernel_rfl) (fun _ _ _ h=>h) (by rfl) ?y28 hHeld ?_
         case y28=>intro wq hSw;(have cq:=Chg.cellv hSw HC1.out NG.out;go_simp)<;>rfl
         refine tkH 10 (v:=?_) rfl (by kernel_rfl) (fun _ _ _ h=>h) (by rfl) ?y31 hHeld ?_
         case y31=>intro wq hSw;go_simp<;>rfl
         refine tkH 11 (v:=?_) rfl (by kernel_rfl) (fun _ _ _ h=>h) (by rfl) ?y34 hHeld ?_
         case y34=>intro wq hSw;go_simp<;>rfl
         refine tkH 12 (v:=?_) rfl (by kernel_rfl) (fun _ _ _ h=>h) (by rfl) ?y37 hHeld ?_
         case y37=>intro wq hSw;go_simp<;>rfl
         refine tkH 13 (v:=?_) rfl (by kernel_rfl) (fun _ _ _ h=>h) (by rfl) ?y40 hHeld ?_
         case y40=>intro wq hSw;go_simp<;>rfl
         refine tkH 14 (v:=?_) rfl (by kernel_rfl) (fun _ _ _ h=>h) (by rfl) ?y43 hHeld ?_
         case y43=>intro wq hSw;go_simp<;>rfl
         refine tkH 15 (v:=?_) rfl (by kernel_rfl) (fun _ _ _ h=>h) (by rfl) ?y46 hHeld ?_
         case y46=>intro wq hSw;(have cq:=Chg.cellv hSw HE0.out NX.out;go_simp)<;>rfl
         refine tkH 16 (v:=?_) rfl (by kernel_rfl) (fun _ _ _ h=>h) (by rfl) ?y49 hHeld ?_
         case y49=>intro wq hSw;go_simp<;>rfl
         refine tkH 17 (v:=?_) rfl (by kernel_rfl) (fun _ _ _ h=>h) (by rfl) ?y52 hHeld ?_
         case y52=>intro wq hSw;go_simp<;>rfl
         refine rH 18 (by kernel_rfl) rfl fun K hK=>?_
         have st:=ST1.out
         go_simp
         refine hK.out _ _ (KS1.out) (fun hHeld=>?_)
         clear hK K
         refine wpAnyH_done (by kernel_rfl) ?_ _
         go_wp2_with fail
         refine wp_region_held_drew (S:=Exq qs wi.drew) (by kernel_rfl) (KS1d.out) (fun hHeld=>?_)
         refine tkH 0 (v:=?_) rfl (by kernel_rfl) (fun _ _ _ h=>h) (by rfl) ?y1 hHeld ?_
         case y1=>intro wq hSw;go_simp<;>rfl
         refine tkH 1 (v:=?_) rfl (by kernel_rfl) (fun _ _ _ h=>h) (by rfl) ?y4 hHeld ?_
         case y4=>intro wq hSw;go_simp<;>rfl
         refine tkH 2 (v:=?_) rfl (by kernel_rfl) (fun _ _ _ h=>h) (by rfl) ?y7 hHeld ?_
         case y7=>intro wq hSw;go_simp<;>rfl
         refine tkH 3 (v:=?_) rfl (by kernel_rfl) (fun _ _ _ h=>h) (by rfl) ?y10 hHeld ?_
         case y10=>intro wq hSw;go_simp<;>rfl
         refine tkH 4 (v:=?_) rfl (by kernel_rfl) (fun _ _ _ h=>h) (by rfl) ?y13 hHeld ?_
         case y13=>intro wq hSw;go_simp<;>rfl
         refine tkH 5 (v:=?_) rfl (by kernel_rfl) (fun _ _ _ h=>h) (by rfl) ?y16 hHeld ?_
         case y16=>intro wq hSw;go_simp<;>rfl
         refine tkH 6 (v:=?_) rfl (by kernel_rfl) (fun _ _ _ h=>h) (by rfl) ?y19 hHeld ?_
         case y19=>intro wq hSw;(have cq:=Chg.cellv hSw HE0.out NX.out;go_simp)<;>rfl
         refine tkH 7 (v:=?_) rfl (by kernel_rfl) (fun _ _ _ h=>h) (by rfl) ?y22 hHeld ?_
         case y22=>intro wq hSw;(have cq:=LK0.out _ hSw;go_simp)<;>rfl
         refine tkH 8 (v:=?_) rfl (by kernel_rfl) (fun _ _ _ h=>h) (by rfl) ?y25 hHeld ?_
         case y25=>intro wq hSw;go_simp<;>rfl
         refine tkH 9 (v:=?_) rfl (by kernel_rfl) (fun _ _ _ h=>h) (by rfl) ?y28 hHeld ?_
         case y28=>intro wq hSw;go_simp<;>rfl
         refine tkH 10 (v:=?_) rfl (by kernel_rfl) (fun _ _ _ h=>h) (by rfl) ?y31 hHeld ?_
         case y31=>intro wq hSw;(have cq:=Chg.cellv hSw HC0.out NG.out;go_simp)<;>rfl
         refine tkH 11 (v:=?_) rfl (by kernel_rfl) (fun _ _ _ h=>h) (by rfl) ?y34 hHeld ?_
         case y34=>intro wq hSw;go_simp<;>rfl
         refine tkH 12 (v:=?_) rfl (by kernel_rfl) (fun _ _ _ h=>h) (by rfl) ?y37 hHeld ?_
         case y37=>intro wq hSw;go_simp<;>rfl
         refine tkH 13 (v:=?_) rfl (by kernel_rfl) (fun _ _ _ h=>h) (by rfl) ?y40 hHeld ?_
         case y40=>intro wq hSw;go_simp<;>rfl
         refine tkH 14 (v:=?_) rfl (by kernel_rfl) (fun _ _ _ h=>h) (by rfl) ?y43 hHeld ?_
         case y43=>intro wq hSw;go_simp<;>rfl
         refine tkH 15 (v:=?_) rfl (by kernel_rfl) (fun _ _ _ h=>h) (by rfl) ?y46 hHeld ?_
         case y46=>intro wq hSw;(have cq:=Chg.cellv hSw HE1.out NX.out;go_simp)<;>rfl
         refine tkH 16 (v:=?_) rfl (by kernel_rfl) (fun _ _ _ h=>h) (by rfl) ?y49 hHeld ?_
         case y49=>intro wq hSw;go_simp<;>rfl
         refine tkH 17 (v:=?_) rfl (by kernel_rfl) (fun _ _ _ h=>h) (by rfl) ?y52 hHeld ?_
         case y52=>intro wq hSw;go_simp<;>rfl
         refine rH 18 (by kernel_rfl) rfl fun K hK=>?_
         have st:=ST0.out
         go_simp
         refine hK.out _ _ (Exq.set (p:=⟨g0,j*2+1,none⟩) KS1d.out _ IN0.out) (fun hHeld=>?_)
         clear hK K
         refine wpAnyH_done (by kernel_rfl) ?_ _
         go_wp2_with fail
         exact ⟨⟨r+1,by omega,by go_num,by rw [PP.out];exact OQ0.out,K4D.out.nxq (Exq.set (p:=⟨g0,j*2+1,none⟩) KS1d.out _ IN0.out)⟩,by simp [intOf];omega⟩
        ·obtain ⟨FF,hFF⟩:∃ FF,FF=procI cc j F r:=⟨_,rfl⟩
         have hre:r=cc.length-1:=by omega
         rw [← hFF] at OQ
         rw [hre] at hFF
         rw [← hFF] at PS
         have dlt:¬ ((r:Int)+1<(cc.length:Int)):=by omega
         have OQ:=lH OQ
         have k34:=K3.out.nxq k4
         clear hFF hre hrm k4
         go_wp2_with fail
         exact ⟨⟨q+1,by omega,by go_num,by rw [PS.out];exact OQ.out,k34⟩,by simp [intOf];omega⟩
      ·obtain rfl:q=M.length:=by omega
       rw [List.take_length,← HPB.out] at OQ
       have OQ:=lH OQ
       have kj:=KQ.out.nxq ((Exq.of_ex K5.out).nxq k3)
       clear hqm hq k3
       go_wp2_with fail
       exact ⟨⟨j+1,by omega,by go_num,OQ.out,kj⟩,by simp [intOf];omega⟩
    ·obtain rfl:j=M1:=by omega
     rw [← HLL.out] at OQ
     have OQ:=lH (OwnN.base OQ (show w.heap.size≤w1.heap.size by omega))
     have KE:Ex w wj:=Chg.trans K1.out (Chg.mono (KT.out _ kq) (fun x hx=>⟨Nat.lt_of_lt_of_le hx K1.out.size,by have:x<w.heap.size:=hx;omega⟩))
     have dlt:¬ ((j:Int)<(m:Int)+1):=by have:=HM1.out;omega
     clear hjm hj kq
     go_wp2_with fail
     go_ret2
     exact ⟨_,qs,rfl,OQ.out,KE⟩
theorem fil_fold {h:Int} (hh:h≤16) (l:List Nd) (hl:∀ y∈l,y.word<4294967296):∀ c∈foldC h l,c=l.filter fun y=>sameN (headW c) y.word h:=by
 induction l using snoc_ind with
 | h0=>intro c hc;simp [foldC] at hc
 | h1 l x ih =>
  have hl':∀ y∈l,y.word<4294967296:=fun y hy=>hl y (List.mem_append_left _ hy)
  have hx:x.word<4294967296:=hl x (by simp)
  have ih:=ih hl'
  have H:=(foldC_cnt hh l hl').1
  rw [foldC_append]
  generalize foldC h l=C at H ih
  have hw:∀ c∈C,headW c<4294967296:=fun c hc=>by
   obtain ⟨y,hy,he⟩:=headW_mem (H.mem c hc).1
   rw [he];exact hl' y ((H.mem c hc).2 y hy).1
  rcases stepC_cases h C x with ⟨hno,he⟩ | ⟨K,c,hc,hs,he⟩
  ·rw [he]
   intro d hd
   rw [List.filter_append]
   rcases List.mem_append.1 hd with hd | hd
   ·have h1:=hno d hd
    rw [← ih d hd]
    simp [h1]
   ·obtain rfl:=List.mem_singleton.1 hd
    have h1:l.filter (fun y=>sameN (headW [x]) y.word h)=[]:=by
     rw [List.filter_eq_nil_iff]
     intro y hy hxy
     obtain ⟨c,hc,hyc⟩:=H.all y hy
     have:=sameN_trans (hw c hc) (hl' y hy) hx ((H.mem c hc).2 y hyc).2 (sameN_symm hxy)
     rw [hno c hc] at this
     cases this
    rw [h1]
    have:sameN (headW [x]) x.word h=true:=sameN_refl _ hh
    simp [this]
  ·rw [he]
   intro d hd
   rw [List.filter_append]
   obtain ⟨i,hi⟩:=List.mem_iff_getElem?.1 hd
   have hcm:=List.mem_of_getElem? hc
   by_cases hik:i=K
   ·subst hik
    rw [List.getElem?_set_self (List.getElem?_eq_some_iff.1 hc).1] at hi
    cases hi
    rw [headW_snoc x (H.mem c hcm).1,← ih c hcm]
    simp [hs]
   ·rw [List.getElem?_set_ne (by omega)] at hi
    have hdm:=List.mem_of_getElem? hi
    have h1:sameN (headW d) x.word h=false:=by
     cases hsd:sameN (headW d) x.word h with
     | false=>rfl
     | true=>exact absurd (H.heads i K d c hi hc (sameN_trans (hw d hdm) hx (hw c hcm) hsd (sameN_symm hs))) hik
    rw [← ih d hdm]
    simp [h1]
theorem sort_check {l:List Nd} (h:checkN l=0):checkN (sortN l)=0:=by
 have hp:=sortN_perm l
 unfold checkN at h ⊢
 split at h
 ·omega
 rename_i hlen
 split at h
 ·omega
 rename_i hbad
 split at h
 ·omega
 rename_i hdup
 have h0:checkN l=0:=by unfold checkN;rw [if_neg hlen,if_neg hbad,if_neg hdup]
 rw [if_neg (by rw [hp.length_eq];exact hlen),if_neg (by
  intro hb
  obtain ⟨x,hx,hxb⟩:=List.any_eq_true.1 hb
  exact hbad (List.any_eq_true.2 ⟨x,hp.mem_iff.1 hx,hxb⟩)),if_neg]
 intro hd
 obtain ⟨i,k,x,y,hki,hx,hy,he⟩:=(dupN_iff _).1 hd
 have:=asc_at (sortN_str h0) hy hx hki
 unfold eqN at he
 rcases Bool.or_eq_true_iff.1 he with h1 | h1
 ·exact this.2 (by simpa using (beq_iff_eq.1 h1).symm)
 ·rw [beq_iff_eq.1 h1,bytesLess_irrefl] at this
  cases this.1
theorem sort_sort {l:List Nd} (h:checkN l=0):sortN (sortN l)=sortN l :=
 sortN_unique (check_keys h) ((sortN_perm _).trans (sortN_perm l)) (sortN_asc _)
theorem find_in {S:List Nd} (h:checkN S=0) {x:Nd} (hx:x∈S):findN S x.id=(x,true):=by
 have h2:(findN S x.id).2=true:=by
  unfold findN
  cases e:S.find? (fun y=>y.id==x.id) with
  | none=>have:=List.find?_eq_none.1 e x hx;simp at this
  | some y=>rfl
 obtain ⟨h3,h4⟩:=findN_mem h2
 have h5:=ids_eq (check_keys h) h3 hx h4
 exact Prod.ext h5 h2
theorem procB_high (S:List Nd) (x:Int) (j:Nat):∀ k,k≤j→procB S k x j=(0,0)
 | 0,_=>rfl
 | k+1,hk=>by
  show procL k (listsN S (k:Nat)) (procB S k) x j=_
  rw [procL_level _ _ _ _ _ (by omega)]
  exact procB_high S x j k (by omega)
theorem procB_low (S:List Nd) (x:Int) (j:Nat):∀ d,procB S (j+1+d) x j=procB S (j+1) x j
 | 0=>rfl
 | d+1=>by
  show procL (j+1+d) _ (procB S (j+1+d)) x j=_
  rw [procL_level _ _ _ _ _ (by omega)]
  exact procB_low S x j d
theorem atI_ids {c:List Nd} {q:Nat} (_:q<c.length):atI (idsN c) q=(c[q]?.getD Nd.zero).id:=by
 unfold atI idsN
 rw [List.getElem?_map]
 cases h:c[q]? with
 | none=>exact absurd (List.getElem?_eq_none_iff.1 h) (by omega)
 | some y=>rfl
theorem build_at {l:List Nd} (h0:checkN l=0) (hw:∀ x∈l,x.word<4294967296) {x:Nd} (hx:x∈sortN l) {j:Nat} (hj:j≤16):procB (sortN l) (j+1) x.id j=(neighN (sortN l) x.id (j:Nat)).1:=by
 obtain ⟨S,hS⟩:∃ S,S=sortN l:=⟨_,rfl⟩
 have hc:=sort_check h0
 have hss:=sort_sort h0
 have hA:=sortN_str h0
 have hws:∀ y∈S,y.word<4294967296:=fun y hy=>hw y ((sortN_mem l y).1 (hS▸hy))
 rw [← hS] at hx hc hss hA ⊢
 have hlv:lvlN (j:Int)=true:=by unfold lvlN;simp;omega
 have hf:=find_in hc hx
 have hL:listsN S (j:Int)=(foldC (j:Int) S).map idsN:=by
  unfold listsN
  rw [if_pos ⟨by rw [hc];rfl,hlv⟩,hss,classesN_fold (by omega)]
 obtain ⟨i,hi,_,hn⟩:=neighN_yes (l:=S) (id:=x.id) (h:=(j:Int)) hc (by rw [hf]) hlv
 have HC:=(foldC_cnt (show (j:Int)≤16 by omega) S hws).1
 have HF:=fil_fold (show (j:Int)≤16 by omega) S hws
 have hth:thrG S x.id (j:Int)=groupN S (j:Int) x.word:=by unfold thrG;rw [hss,hf]
 rw [hth] at hi hn
 rw [hf] at hi
 obtain ⟨c,hcm,hxc⟩:=HC.all x hx
 have hgc:groupN S (j:Int) x.word=c:=by
  have hsx:=((HC.mem c hcm).2 x hxc).2
  obtain ⟨y0,hy0,he0⟩:=headW_mem (HC.mem c hcm).1
  have hwc:headW c<4294967296:=by rw [he0];exact hws y0 ((HC.mem c hcm).2 y0 hy0).1
  conv=>rhs;rw [HF c hcm]
  unfold groupN
  apply List.filter_congr
  intro y hy
  rw [Bool.eq_iff_iff]
  exact ⟨fun h=>sameN_trans hwc (hws x hx) (hws y hy) hsx (sameN_symm h),fun h=>sameN_trans (hws y hy) hwc (hws x hx) (sameN_symm h) hsx⟩
 rw [hgc] at hi hn
 have hAc:AscS c:=by rw [HF c hcm];exact List.Pairwise.filter _ hA
 have hil:=(List.getElem?_eq_some_iff.1 hi).1
 show procL j (listsN S (j:Nat)) (procB S j) x.id j=_
 have hxi:x.id=atI (idsN c) i:=by rw [atI_ids hil,hi];rfl
 rw [hL,hn,hxi]
 rw [procL_at j _ _ ?_ ?_ (idsN c) (List.mem_map.2 ⟨c,hcm,rfl⟩) i (by unfold idsN;simpa using hil) (procB_high S _ j j (Nat.le_refl _))]
 ·have hlen:(idsN c).length=c.length:=by unfold idsN;simp
  show _=(leftN c i,rightN c i)
  congr 1
  ·unfold leftN
   by_cases h1:i=0
   ·rw [if_neg (by omega),if_pos h1]
   ·rw [if_pos (by omega),if_neg h1,atI_ids (by omega)]
  ·unfold rightN
   rw [hlen]
   by_cases h1:i+1<c.length
   ·rw [if_pos h1,atI_ids h1]
   ·rw [if_neg h1,List.getElem?_eq_none (by omega)];rfl
 ·rw [List.pairwise_map,List.pairwise_iff_getElem]
  intro p q hp hq hpq z hz1 hz2
  obtain ⟨y1,hy1,e1⟩:=List.mem_map.1 hz1
  obtain ⟨y2,hy2,e2⟩:=List.mem_map.1 hz2
  have m1:=(HC.mem _ (List.getElem_mem hp)).2 y1 hy1
  have m2:=(HC.mem _ (List.getElem_mem hq)).2 y2 hy2
  have e:y1=y2:=ids_eq (check_keys hc) m1.1 m2.1 (e1.trans e2.symm)
  subst e
  have hwc:∀ d∈foldC (j:Int) S,headW d<4294967296:=fun d hd=>by
   obtain ⟨y0,hy0,he0⟩:=headW_mem (HC.mem d hd).1
   rw [he0];exact hws y0 ((HC.mem d hd).2 y0 hy0).1
  have:=HC.heads p q _ _ (List.getElem?_eq_getElem hp) (List.getElem?_eq_getElem hq) (sameN_trans (hwc _ (List.getElem_mem hp)) (hws y1 m1.1) (hwc _ (List.getElem_mem hq)) m1.2 (sameN_symm m2.2))
  omega
 ·intro d hd
  obtain ⟨c',hc',rfl⟩:=List.mem_map.1 hd
  have hA':AscS c':=by rw [HF c' hc'];exact List.Pairwise.filter _ hA
  unfold idsN List.Nodup
  rw [List.pairwise_map]
  exact hA'.imp (fun h=>h.2)
theorem build_rows {l:List Nd} (h0:checkN l=0) (hw:∀ x∈l,x.word<4294967296) {m:Nat} (hm:m≤16):rowsF (sortN l) (m+1) (procB (sortN l) (m+1))=(sortN l).map (rowN (sortN l) (m+1)):=by
 unfold rowsF rowN
 apply List.map_congr_left
 intro x hx
 congr 1
 apply List.map_congr_left
 intro j hj
 have hj:=List.mem_range.1 hj
 have:=procB_low (sortN l) x.id j (m-j)
 rw [show j+1+(m-j)=m+1 by omega] at this
 rw [this,build_at h0 hw hx (by omega)]
theorem build_p (a:Option Addr) (n c:Nat) (l:List Nd) (h:Int) (w:World) (hs:Sl 3 encN w a n l) (hn:n≤1000) (hc:n≤c) (hm:c≤maxLen) (hw:∀ x∈l,x.word<4294967296) (hT:TabG w) :
  Calls Tryz.prog 38 #[.slice a n c,.int .i64 h] w (LkPost (buildN l h).1 (buildN l h).2 w):=by
 refine build_q a n c l h w hs hn hc hm hw hT _ _ (fun h0=>?_) (fun h0 h1=>?_) (fun h0 m he hm=>?_)
 ·unfold buildN
  rw [if_pos (by rw [beq_eq_false_iff_ne];exact h0)]
  exact ⟨rfl,rfl⟩
 ·unfold buildN
  rw [if_neg (by rw [h0];simp),if_pos h1]
  exact ⟨rfl,rfl⟩
 ·subst he
  unfold buildN
  rw [if_neg (by rw [h0];simp),if_neg (by unfold lvlN;simp;omega)]
  rw [build_rows h0 hw hm]
  exact ⟨rfl,rfl⟩
theorem check_perm {l l':List Nd} (hp:l'.Perm l) (h:checkN l=0):checkN l'=0:=by
 have hk:=check_keys h
 unfold checkN at h ⊢
 split at h
 ·omega
 rename_i hlen
 split at h
 ·omega
 rename_i hbad
 rw [if_neg (by rw [hp.length_eq];exact hlen),if_neg (by
  intro hb
  obtain ⟨x,hx,hxb⟩:=List.any_eq_true.1 hb
  exact hbad (List.any_eq_true.2 ⟨x,hp.mem_iff.1 hx,hxb⟩)),if_neg]
 intro hd
 obtain ⟨i,k,x,y,hki,hx,hy,he⟩:=(dupN_iff _).1 hd
 have h2:l'.Pairwise fun x y=>x.key.toList≠y.key.toList∧x.id≠y.id :=
  (hp.symm.pairwise_iff (fun {x y} hxy=>⟨fun he=>hxy.1 he.symm,fun he=>hxy.2 he.symm⟩)).1 (keys_pw hk)
 obtain ⟨hi,e1⟩:=List.getElem?_eq_some_iff.1 hx
 obtain ⟨hk,e2⟩:=List.getElem?_eq_some_iff.1 hy
 have:=List.pairwise_iff_getElem.1 h2 k i hk hi hki
 rw [e1,e2] at this
 unfold eqN at he
 rcases Bool.or_eq_true_iff.1 he with h1 | h1
 ·exact this.2 (by simpa using (beq_iff_eq.1 h1).symm)
 ·exact this.1 (beq_iff_eq.1 h1).symm
theorem sort_perm {l l':List Nd} (hp:l'.Perm l) (h:checkN l=0):sortN l'=sortN l :=
 sortN_unique (check_keys h) ((sortN_perm l').trans hp) (sortN_asc l')
theorem build_perm {l l':List Nd} (hp:l'.Perm l) (h:checkN l=0) (m:Int):buildN l' m=buildN l m:=by
 unfold buildN
 rw [sort_perm hp h,check_perm hp h,h]
theorem check_id {l:List Nd} (h:checkN l=0) {x:Nd} (hx:x∈l):1≤x.id:=by
 unfold checkN at h
 split at h
 ·omega
 ·split at h
  ·omega
  ·rename_i hb
   have hb:badN x=false:=by
    cases hy2:badN x with
    | false=>rfl
    | true=>exact absurd (List.any_eq_true.2 ⟨x,hx,hy2⟩) hb
   unfold badN at hb
   simp only [Bool.or_eq_false_iff,decide_eq_false_iff_not] at hb
   omega
def lastI (A:List Nd):Int:=(A.getLast?.getD Nd.zero).id
def headI (B:List Nd):Int:=(B.head?.getD Nd.zero).id
def grpS (l:List Nd) (h:Int) (v:Nat):List Nd:=groupN (sortN l) h v
theorem grp_eq {l:List Nd} {h:Int} {u v:Nat} (hw:∀ x∈l,x.word<4294967296) (hu:u<4294967296) (hv:v<4294967296) (hs:sameN u v h=true):grpS l h u=grpS l h v:=by
 unfold grpS groupN
 apply List.filter_congr
 intro y hy
 have hy:=hw y ((sortN_mem l y).1 hy)
 rw [Bool.eq_iff_iff]
 exact ⟨fun h=>sameN_trans hy hu hv h hs,fun h=>sameN_trans hy hv hu h (sameN_symm hs)⟩
theorem grp_mem {l:List Nd} {h:Int} {v:Nat} {y:Nd}:y∈grpS l h v↔y∈l∧sameN y.word v h=true:=by
 unfold grpS groupN
 rw [List.mem_filter,sortN_mem]
theorem neigh_split {l:List Nd} (h0:checkN l=0) {x:Nd} (hx:x∈l) {h:Int} (hl:lvlN h=true) {A B:List Nd} (e:grpS l h x.word=A++x::B):neighN l x.id h=((lastI A,headI B),true):=by
 have hf:=find_in h0 hx
 obtain ⟨i,hi,_,hn⟩:=neighN_yes (l:=l) (id:=x.id) (h:=h) h0 (by rw [hf]) hl
 have hG:thrG l x.id h=A++x::B:=by unfold thrG;rw [hf];exact e
 have hA:AscS (thrG l x.id h):=asc_group (sortN_str h0) h _
 rw [hf] at hi
 rw [hG] at hi hn hA
 have h1:=idxI_at hA hi
 have h2:=idxI_at hA (i:=A.length) (x:=x) (by simp)
 have hi:i=A.length:=by simp only at h1;omega
 subst hi
 rw [hn]
 congr 2
 ·unfold leftN lastI
  by_cases ha:A.length=0
  ·rw [if_pos ha,List.length_eq_zero_iff.1 ha];rfl
  ·rw [if_neg ha,List.getElem?_append_left (by omega),List.getLast?_eq_getElem?]
 ·unfold rightN headI
  rw [List.getElem?_append_right (by omega),show A.length+1-A.length=1 by omega,List.getElem?_cons_succ,List.head?_eq_getElem?]
theorem grp_at {l:List Nd} {x:Nd} (hx:x∈l) {h:Int} (hl:lvlN h=true):∃ A B,grpS l h x.word=A++x::B:=by
 have:x∈grpS l h x.word:=grp_mem.2 ⟨hx,sameN_refl _ (by unfold lvlN at hl;simp at hl;exact hl.2)⟩
 exact List.append_of_mem this
theorem grp_asc {l:List Nd} (h0:checkN l=0) (h:Int) (v:Nat):AscS (grpS l h v):=asc_group (sortN_str h0) h v
theorem find_zero {l:List Nd} (h0:checkN l=0):findN l 0=(Nd.zero,false) :=
 findN_none fun j z _ hz=>by have:=check_id h0 (List.mem_of_getElem? hz);omega
def dropN (l:List Nd) (id:Int):List Nd:=l.filter fun y=>!(y.id==id)
theorem drop_check {l:List Nd} (h0:checkN l=0) (id:Int):checkN (dropN l id)=0:=by
 have hk:=keys_pw (check_keys h0)
 have hs:(dropN l id).Sublist l:=List.filter_sublist
 unfold checkN at h0 ⊢
 split at h0
 ·omega
 rename_i hlen
 split at h0
 ·omega
 rename_i hbad
 rw [if_neg (by have:=hs.length_le;omega),if_neg (by
  intro hb
  obtain ⟨x,hx,hxb⟩:=List.any_eq_true.1 hb
  exact hbad (List.any_eq_true.2 ⟨x,hs.subset hx,hxb⟩)),if_neg]
 intro hd
 obtain ⟨i,k,x,y,hki,hx,hy,he⟩:=(dupN_iff _).1 hd
 have h2:=hk.sublist hs
 obtain ⟨hi,e1⟩:=List.getElem?_eq_some_iff.1 hx
 obtain ⟨hk,e2⟩:=List.getElem?_eq_some_iff.1 hy
 have:=List.pairwise_iff_getElem.1 h2 k i hk hi hki
 rw [e1,e2] at this
 unfold eqN at he
 rcases Bool.or_eq_true_iff.1 he with h1 | h1
 ·exact this.2 (by simpa using (beq_iff_eq.1 h1).symm)
 ·exact this.1 (beq_iff_eq.1 h1).symm
theorem drop_sort {l:List Nd} (h0:checkN l=0) (id:Int):sortN (dropN l id)=dropN (sortN l) id:=by
 symm
 apply sortN_unique (check_keys (drop_check h0 id))
 ·exact (sortN_perm l).filter _
 ·exact List.Pairwise.filter _ (sortN_asc l)
theorem drop_grp {l:List Nd} (h0:checkN l=0) (id:Int) (h:Int) (v:Nat):grpS (dropN l id) h v=dropN (grpS l h v) id:=by
 unfold grpS groupN
 rw [drop_sort h0]
 unfold dropN
 rw [List.filter_filter,List.filter_filter]
 apply List.filter_congr
 intro y _
 rw [Bool.and_comm]
theorem drop_none {A:List Nd} {id:Int} (h:∀ y∈A,y.id≠id):dropN A id=A:=by
 unfold dropN
 rw [List.filter_eq_self]
 intro y hy
 have:=h y hy
 simp [this]
theorem drop_app (A B:List Nd) (id:Int):dropN (A++B) id=dropN A id++dropN B id:=by unfold dropN;rw [List.filter_append]
theorem drop_yes (y:Nd) (B:List Nd) {id:Int} (h:y.id=id):dropN (y::B) id=dropN B id:=by unfold dropN;rw [List.filter_cons_of_neg (by simp [h])]
theorem drop_no (y:Nd) (B:List Nd) {id:Int} (h:y.id≠id):dropN (y::B) id=y::dropN B id:=by unfold dropN;rw [List.filter_cons_of_pos (by simp [h])]
theorem drop_nil (id:Int):dropN [] id=[]:=rfl
theorem loc_law {l:List Nd} (h0:checkN l=0) (hw:∀ x∈l,x.word<4294967296) {h:Int} (hl:lvlN h=true) {x y:Nd} (hx:x∈l) (hy:y∈dropN l x.id) :
  (neighN l y.id h).2=true∧(neighN (dropN l x.id) y.id h).2=true∧(neighN l x.id h).2=true ∧
  ((neighN l y.id h).1.1≠(neighN (dropN l x.id) y.id h).1.1→(neighN l y.id h).1.1=x.id) ∧
  ((neighN l y.id h).1.2≠(neighN (dropN l x.id) y.id h).1.2→(neighN l y.id h).1.2=x.id) ∧
  ((neighN l y.id h).1.1=x.id→(neighN (dropN l x.id) y.id h).1.1=(neighN l x.id h).1.1) ∧
  ((neighN l y.id h).1.2=x.id→(neighN (dropN l x.id) y.id h).1.2=(neighN l x.id h).1.2):=by
 have hyl:y∈l:=(List.mem_filter.1 hy).1
 have hyx:y.id≠x.id:=by have:=(List.mem_filter.1 hy).2;simpa using this
 have hx1:=check_id h0 hx
 obtain ⟨A,B,e⟩:=grp_at hyl hl
 have ha:=grp_asc h0 h y.word
 have hn:=neigh_split h0 hyl hl e
 have e2:grpS (dropN l x.id) h y.word=dropN A x.id++y::dropN B x.id:=by
  rw [drop_grp h0,e,drop_app,drop_no _ _ hyx]
 have hn2:=neigh_split (drop_check h0 x.id) hy hl e2
 obtain ⟨A3,B3,e3⟩:=grp_at hx hl
 have hn3:=neigh_split h0 hx hl e3
 have hmem:∀ z∈grpS l h y.word,z.id=x.id→z=x:=fun z hz he=>ids_eq (check_keys h0) (grp_mem.1 hz).1 hx he
 have hxg:x∈grpS l h y.word→grpS l h x.word=grpS l h y.word:=fun hm=>grp_eq hw (hw x hx) (hw y hyl) (grp_mem.1 hm).2
 have hxn:∀ A' B',grpS l h y.word=A'++x::B'→(neighN l x.id h)=((lastI A',headI B'),true):=fun A' B' e'=>by
  refine neigh_split h0 hx hl ?_
  rw [hxg (by rw [e'];simp),e']
 have hnone:∀ {P Q:List Nd},(∀ z∈P,z∈grpS l h y.word)→(∀ z∈P,z.id≠x.id)→dropN P x.id=P:=fun _ h2=>drop_none h2
 rw [hn,hn2]
 rw [e] at ha hmem hxn
 have hL:(lastI A≠lastI (dropN A x.id)→lastI A=x.id)∧(lastI A=x.id→lastI (dropN A x.id)=(neighN l x.id h).1.1):=by
  rcases List.eq_nil_or_concat A with rfl | ⟨A',z,rfl⟩
  ·exact ⟨fun h=>absurd rfl h,fun h=>by have:(0:Int)=x.id:=h;omega⟩
  ·rw [List.concat_eq_append] at *
   have e5:lastI (A'++[z])=z.id:=by unfold lastI;simp
   by_cases hz:z.id=x.id
   ·have hzx:=hmem z (by simp) hz
    subst hzx
    have h7:=hxn A' (y::B) (by simp)
    rw [h7,drop_app,drop_yes _ _ rfl,drop_nil,List.append_nil,drop_none (fun w hw'=>?_)]
    ·exact ⟨fun _=>e5,fun _=>rfl⟩
    ·have h8:=(List.pairwise_append.1 (List.pairwise_append.1 ha).1).2.2 w hw' z (by simp)
     exact h8.2
   ·have e6:lastI (dropN (A'++[z]) x.id)=z.id:=by rw [drop_app,drop_no _ _ hz,drop_nil];unfold lastI;simp
    rw [e5,e6]
    exact ⟨fun h=>absurd rfl h,fun h=>absurd h hz⟩
 have hR:(headI B≠headI (dropN B x.id)→headI B=x.id)∧(headI B=x.id→headI (dropN B x.id)=(neighN l x.id h).1.2):=by
  cases B with
  | nil=>exact ⟨fun h=>absurd rfl h,fun h=>by have:(0:Int)=x.id:=h;omega⟩
  | cons z B' =>
   have e5:headI (z::B')=z.id:=rfl
   by_cases hz:z.id=x.id
   ·have hzx:=hmem z (by simp) hz
    subst hzx
    have h7:=hxn (A++[y]) B' (by simp)
    rw [h7,drop_yes _ _ rfl,drop_none (fun w hw'=>?_)]
    ·exact ⟨fun _=>e5,fun _=>rfl⟩
    ·have h8:=(List.pairwise_cons.1 (List.pairwise_cons.1 (List.pairwise_append.1 ha).2.1).2).1 w hw'
     exact fun h=>h8.2 h.symm
   ·have e6:headI (dropN (z::B') x.id)=z.id:=by rw [drop_no _ _ hz];rfl
    rw [e5,e6]
    exact ⟨fun h=>absurd rfl h,fun h=>absurd h hz⟩
 refine ⟨rfl,rfl,by rw [hn3],hL.1,hR.1,hL.2,hR.2⟩
theorem drop_len {l:List Nd} (h0:checkN l=0) {x:Nd} (hx:x∈l):(dropN l x.id).length+1=l.length:=by
 obtain ⟨A,B,rfl⟩:=List.append_of_mem hx
 have hk:=keys_pw (check_keys h0)
 rw [drop_app,drop_yes _ _ rfl,drop_none,drop_none]
 ·simp;omega
 ·intro y hy
  exact fun h=>((List.pairwise_cons.1 (List.pairwise_append.1 hk).2.1).1 y hy).2 h.symm
 ·intro y hy
  exact ((List.pairwise_append.1 hk).2.2 y hy x (by simp)).2
theorem buildN_small (l:List Nd) (h:Int) (hl:l.length≤1000):(buildN l h).1.length≤1000∧∀ c∈(buildN l h).1,c.2.length≤17:=by
 unfold buildN
 split
 ·simp
 ·split
  ·simp
  ·rename_i hv
   refine ⟨by simp [sortN_length];omega,fun c hc=>?_⟩
   obtain ⟨x,_,rfl⟩:=List.mem_map.1 hc
   rw [rowN_len]
   unfold lvlN at hv
   simp at hv
   omega
abbrev Hop:=Int×Int×Int
def atL (L:List Lkd) (id lev:Int):Int×Int:=match L.find? (fun c=>c.1==id) with | some c=>if lev<0 then (0,0) else c.2[lev.toNat]?.getD (0,0) | none=>(0,0)
def topL (L:List Lkd) (id:Int):Int:=match L.find? (fun c=>c.1==id) with | some c=>min ((c.2.length:Int)-1) 16 | none=>-1
def hopN (N:List Nd) (L:List Lkd) (key:List UInt8) (right:Bool) (x:Nd) (lev:Nat):Option Nd :=
 if right then (if (findN N (atL L x.id lev).2).2&&(Op.bytesLess x.key.toList (findN N (atL L x.id lev).2).1.key.toList&&!Op.bytesLess key (findN N (atL L x.id lev).2).1.key.toList) then some (findN N (atL L x.id lev).2).1 else none)
 else (if (findN N (atL L x.id lev).1).2&&(Op.bytesLess (findN N (atL L x.id lev).1).1.key.toList x.key.toList&&Op.bytesLess key (findN N (atL L x.id lev).1).1.key.toList) then some (findN N (atL L x.id lev).1).1 else none)
def rtF (N:List Nd) (L:List Lkd) (key:List UInt8) (right:Bool):Nat→Nd→Nat→List Hop→Nd×List Hop
 | 0,x,_,out=>(x,out)
 | _+1,x,0,out=>(x,out)
 | f+1,x,lev+1,out =>
  match hopN N L key right x lev with
  | some y=>rtF N L key right f y (lev+1) (out++[(x.id,y.id,(lev:Int))])
  | none=>rtF N L key right f x lev out
def bey (N:List Nd) (right:Bool) (x:Nd):Nat:=N.countP fun z=>if right then Op.bytesLess x.key.toList z.key.toList else Op.bytesLess z.key.toList x.key.toList
def measR (N:List Nd) (right:Bool) (x:Nd) (lev:Nat):Nat:=lev*(N.length+1)+bey N right x
def routeN (N:List Nd) (L:List Lkd) (frm:Int) (key:ByteArray):List Hop×Int :=
 if checkN N≠0∨64<key.size then ([],1)
 else if (findN N frm).2=false then ([],6)
 else
  let right:=!Op.bytesLess key.toList (findN N frm).1.key.toList
  let r:=rtF N L key.toList right (18*(N.length+1)) (findN N frm).1 (topL L frm+1).toNat []
  if (findN N (atL L r.1.id 0).1).2&&!right&&!Op.bytesLess key.toList (findN N (atL L r.1.id 0).1).1.key.toList then (r.2++[(r.1.id,(findN N (atL L r.1.id 0).1).1.id,0)],0) else (r.2,0)
def endN (frm:Int) (h:List Hop):Int:=match h.getLast? with | some p=>p.2.1 | none=>frm
variable {N:List Nd} {L:List Lkd} {key:List UInt8} {right:Bool}
theorem hop_mem {x y:Nd} {lev:Nat} (h:hopN N L key right x lev=some y):y∈N ∧
  (if right then Op.bytesLess x.key.toList y.key.toList=true∧Op.bytesLess key y.key.toList=false else Op.bytesLess y.key.toList x.key.toList=true∧Op.bytesLess key y.key.toList=true):=by
 unfold hopN at h
 cases right with
 | true =>
  rw [if_pos rfl] at h ⊢
  split at h
  ·rename_i hc
   cases h
   simp only [Bool.and_eq_true,Bool.not_eq_true'] at hc
   exact ⟨(findN_mem hc.1).1,hc.2.1,hc.2.2⟩
  ·cases h
 | false =>
  rw [if_neg (by simp)] at h ⊢
  split at h
  ·rename_i hc
   cases h
   simp only [Bool.and_eq_true] at hc
   exact ⟨(findN_mem hc.1).1,hc.2.1,hc.2.2⟩
  ·cases h
theorem count_lt {α:Type} {p q:α→Bool}:∀ {l:List α} {y:α},y∈l→(∀ z,p z=true→q z=true)→q y=true→p y=false→l.countP p<l.countP q
 | [],_,hy,_,_,_=>by cases hy
 | a::l,y,hy,h,h1,h2=>by
  rw [List.countP_cons,List.countP_cons]
  have hle:l.countP p≤l.countP q:=List.countP_mono_left (fun z _=>h z)
  rcases List.mem_cons.1 hy with rfl | hy
  ·rw [h1,h2];simp;omega
  ·have:=count_lt hy h h1 h2
   have h3:=h a
   cases hp:p a with
   | true=>rw [h3 hp];simp;omega
   | false =>
    generalize (if q a=true then 1 else 0)=z
    simp
    omega
theorem bey_lt {x y:Nd} {lev:Nat} (h:hopN N L key right x lev=some y):bey N right y<bey N right x:=by
 obtain ⟨hm,hc⟩:=hop_mem h
 unfold bey
 cases right with
 | true =>
  rw [if_pos rfl] at hc
  refine count_lt hm (fun z hz=>?_) ?_ ?_
  ·rw [if_pos rfl] at hz ⊢;exact bl_trans hc.1 hz
  ·rw [if_pos rfl];exact hc.1
  ·rw [if_pos rfl];exact bytesLess_irrefl _
 | false =>
  rw [if_neg (by simp)] at hc
  refine count_lt hm (fun z hz=>?_) ?_ ?_
  ·rw [if_neg (by simp)] at hz ⊢;exact bl_trans hz hc.1
  ·rw [if_neg (by simp)];exact hc.1
  ·rw [if_neg (by simp)];exact bytesLess_irrefl _
theorem bey_le (x:Nd):bey N right x≤N.length:=List.countP_le_length
theorem meas_hop {x y:Nd} {lev:Nat} (h:hopN N L key right x lev=some y):measR N right y (lev+1)<measR N right x (lev+1):=by
 have:=bey_lt h
 unfold measR
 omega
theorem meas_down (x:Nd) (lev:Nat):measR N right x lev<measR N right x (lev+1):=by
 unfold measR
 rw [Nat.add_mul]
 omega
def RtSt (N:List Nd) (L:List Lkd) (key:List UInt8) (right:Bool) (R:Nd×List Hop) (x:Nd) (lev:Nat) (out:List Hop):Prop:=∃ f,measR N right x lev≤f∧rtF N L key right f x lev out=R
theorem RtSt.start {x:Nd} {lev:Nat} (hl:lev≤17):RtSt N L key right (rtF N L key right (18*(N.length+1)) x lev []) x lev []:=by
 refine ⟨_,?_,rfl⟩
 unfold measR
 have:=bey_le (N:=N) (right:=right) x
 have:lev*(N.length+1)≤17*(N.length+1):=Nat.mul_le_mul_right _ hl
 omega
theorem RtSt.hop {R:Nd×List Hop} {x y:Nd} {lev:Nat} {out:List Hop} (h:RtSt N L key right R x (lev+1) out) (hh:hopN N L key right x lev=some y):RtSt N L key right R y (lev+1) (out++[(x.id,y.id,(lev:Int))]):=by
 obtain ⟨f,h1,h2⟩:=h
 have hm:=meas_hop hh
 obtain ⟨f,rfl⟩:∃ g,f=g+1:=⟨f-1,by omega⟩
 refine ⟨f,by omega,?_⟩
 rw [← h2]
 show _=(match hopN N L key right x lev with | some y=>rtF N L key right f y (lev+1) (out++[(x.id,y.id,(lev:Int))]) | none=>rtF N L key right f x lev out)
 rw [hh]
theorem RtSt.down {R:Nd×List Hop} {x:Nd} {lev:Nat} {out:List Hop} (h:RtSt N L key right R x (lev+1) out) (hh:hopN N L key right x lev=none):RtSt N L key right R x lev out:=by
 obtain ⟨f,h1,h2⟩:=h
 have hm:=meas_down (N:=N) (right:=right) x lev
 obtain ⟨f,rfl⟩:∃ g,f=g+1:=⟨f-1,by omega⟩
 refine ⟨f,by omega,?_⟩
 rw [← h2]
 show _=(match hopN N L key right x lev with | some y=>rtF N L key right f y (lev+1) (out++[(x.id,y.id,(lev:Int))]) | none=>rtF N L key right f x lev out)
 rw [hh]
theorem RtSt.done {R:Nd×List Hop} {x:Nd} {out:List Hop} (h:RtSt N L key right R x 0 out):R=(x,out):=by
 obtain ⟨f,h1,h2⟩:=h
 rw [← h2]
 cases f<;>rfl
def DirN (key:List UInt8) (right:Bool) (x y:Nd):Prop:=if right then Op.bytesLess x.key.toList y.key.toList=true∧Op.bytesLess key y.key.toList=false else Op.bytesLess y.key.toList x.key.toList=true∧Op.bytesLess key y.key.toList=true
def HopsOk (N:List Nd) (key:List UInt8) (right:Bool) (x':Nd):Nd→Nat→List Hop→Prop
 | x,_,[]=>x=x'
 | x,lev,h::hs=>∃ (y:Nd) (lev':Nat),y∈N∧h=(x.id,y.id,(lev':Int))∧lev'≤lev∧DirN key right x y∧HopsOk N key right x' y lev' hs
variable {N:List Nd} {L:List Lkd} {key:List UInt8} {right:Bool}
theorem HopsOk.mono {x':Nd}:∀ {hs:List Hop} {x:Nd} {lev lev2:Nat},HopsOk N key right x' x lev hs→lev≤lev2→HopsOk N key right x' x lev2 hs
 | [],_,_,_,h,_=>h
 | _::_,_,_,_,⟨y,l',h1,h2,h3,h4,h5⟩,hl=>⟨y,l',h1,h2,by omega,h4,h5⟩
theorem rtF_ok:∀ (f:Nat) (x:Nd) (lev:Nat) (out:List Hop),∃ hs,(rtF N L key right f x lev out).2=out++hs∧HopsOk N key right (rtF N L key right f x lev out).1 x (lev-1) hs
 | 0,x,lev,out=>⟨[],by simp [rtF],rfl⟩
 | f+1,x,0,out=>⟨[],by simp [rtF],rfl⟩
 | f+1,x,lev+1,out=>by
  have e:rtF N L key right (f+1) x (lev+1) out=(match hopN N L key right x lev with | some y=>rtF N L key right f y (lev+1) (out++[(x.id,y.id,(lev:Int))]) | none=>rtF N L key right f x lev out):=rfl
  cases hh:hopN N L key right x lev with
  | some y =>
   rw [hh] at e
   obtain ⟨hs,h1,h2⟩:=rtF_ok f y (lev+1) (out++[(x.id,y.id,(lev:Int))])
   rw [e]
   refine ⟨(x.id,y.id,(lev:Int))::hs,by rw [h1];simp,y,lev,(hop_mem hh).1,rfl,by omega,(hop_mem hh).2,h2⟩
  | none =>
   rw [hh] at e
   obtain ⟨hs,h1,h2⟩:=rtF_ok f x lev out
   rw [e]
   exact ⟨hs,h1,h2.mono (by omega)⟩
theorem HopsOk.len {x':Nd}:∀ {hs:List Hop} {x:Nd} {lev:Nat},HopsOk N key right x' x lev hs→hs.length+bey N right x'≤bey N right x
 | [],_,_,h=>by rw [← show _=x' from h];simp
 | _::hs,x,_,⟨y,l',h1,h2,h3,h4,h5⟩=>by
  have:=h5.len
  have hlt:bey N right y<bey N right x:=by
   unfold bey
   cases right with
   | true =>
    unfold DirN at h4
    rw [if_pos rfl] at h4
    refine count_lt h1 (fun z hz=>?_) ?_ ?_
    ·rw [if_pos rfl] at hz ⊢;exact bl_trans h4.1 hz
    ·rw [if_pos rfl];exact h4.1
    ·rw [if_pos rfl];exact bytesLess_irrefl _
   | false =>
    unfold DirN at h4
    rw [if_neg (by simp)] at h4
    refine count_lt h1 (fun z hz=>?_) ?_ ?_
    ·rw [if_neg (by simp)] at hz ⊢;exact bl_trans hz h4.1
    ·rw [if_neg (by simp)];exact h4.1
    ·rw [if_neg (by simp)];exact bytesLess_irrefl _
  simp only [List.length_cons]
  omega
theorem HopsOk.side {x':Nd}:∀ {hs:List Hop} {x:Nd} {lev:Nat},HopsOk N key right x' x lev hs→(if right then Op.bytesLess key x.key.toList=false else Op.bytesLess key x.key.toList=true)→(if right then Op.bytesLess key x'.key.toList=false else Op.bytesLess key x'.key.toList=true)
 | [],_,_,h,hk=>by rw [← show _=x' from h];exact hk
 | _::hs,x,_,⟨y,l',h1,h2,h3,h4,h5⟩,hk=>h5.side (by
   unfold DirN at h4
   cases right with
   | true=>rw [if_pos rfl] at h4 ⊢;exact h4.2
   | false=>rw [if_neg (by simp)] at h4 ⊢;exact h4.2)
theorem HopsOk.mem {x':Nd}:∀ {hs:List Hop} {x:Nd} {lev:Nat},HopsOk N key right x' x lev hs→x∈N→x'∈N
 | [],_,_,h,hx=>by rw [← show _=x' from h];exact hx
 | _::_,_,_,⟨_,_,h1,_,_,_,h5⟩,_=>h5.mem h1
theorem bey_self {x:Nd} (hx:x∈N):bey N right x<N.length:=by
 unfold bey
 have:N.countP (fun z=>if right then Op.bytesLess x.key.toList z.key.toList else Op.bytesLess z.key.toList x.key.toList)<N.countP (fun _=>true) :=
  count_lt hx (fun _ _=>rfl) rfl (by cases right<;>simp [bytesLess_irrefl])
 rwa [List.countP_true] at this
def RouteOk (N:List Nd) (key:List UInt8) (right:Bool):Nd→Nat→List Hop→Prop
 | _,_,[]=>True
 | x,lev,h::hs=>∃ (y:Nd) (lev':Nat),y∈N∧h=(x.id,y.id,(lev':Int))∧lev'≤lev ∧
   (DirN key right x y∨(right=false∧hs=[]∧lev'=0∧Op.bytesLess key y.key.toList=false∧Op.bytesLess y.key.toList x.key.toList=true))∧RouteOk N key right y lev' hs
theorem HopsOk.route {x':Nd}:∀ {hs:List Hop} {x:Nd} {lev:Nat},HopsOk N key right x' x lev hs→RouteOk N key right x lev hs
 | [],_,_,_=>trivial
 | _::_,_,_,⟨y,l',h1,h2,h3,h4,h5⟩=>⟨y,l',h1,h2,h3,.inl h4,h5.route⟩
theorem HopsOk.snoc {x' y:Nd} (hy:y∈N) (hr:right=false) (h1:Op.bytesLess key y.key.toList=false) (h2:Op.bytesLess y.key.toList x'.key.toList=true):∀ {hs:List Hop} {x:Nd} {lev:Nat},HopsOk N key right x' x lev hs→RouteOk N key right x lev (hs++[(x'.id,y.id,0)])
 | [],x,lev,h=>by
  have h:x=x':=h
  subst h
  exact ⟨y,0,hy,rfl,by omega,.inr ⟨hr,rfl,rfl,h1,h2⟩,trivial⟩
 | _::_,_,_,⟨z,l',g1,g2,g3,g4,g5⟩=>⟨z,l',g1,g2,g3,.inl g4,g5.snoc hy hr h1 h2⟩
theorem appr_law (h0:checkN N=0) {k:ByteArray} (hk:k.size≤64) {x:Nd} (hx:x∈N) :
  (routeN N L x.id k).2=0∧(routeN N L x.id k).1.length<N.length∧RouteOk N k.toList (!Op.bytesLess k.toList x.key.toList) x 16 (routeN N L x.id k).1:=by
 have hf:=find_in h0 hx
 unfold routeN
 rw [if_neg (by rintro (h | h);exact h h0;omega),hf,if_neg (by simp)]
 simp only
 generalize hr:(!Op.bytesLess k.toList x.key.toList)=right
 have htop:(topL L x.id+1).toNat≤17:=by
  unfold topL
  split<;>omega
 obtain ⟨hs,e1,e2⟩:=rtF_ok (N:=N) (L:=L) (key:=k.toList) (right:=right) (18*(N.length+1)) x (topL L x.id+1).toNat []
 rw [List.nil_append] at e1
 generalize rtF N L k.toList right (18*(N.length+1)) x (topL L x.id+1).toNat []=R at e1 e2
 obtain ⟨x',out⟩:=R
 simp only at e1 e2 ⊢
 subst e1
 have e2:=e2.mono (show _≤16 by omega)
 have hl:=e2.len
 have hbx:=bey_self (right:=right) hx
 split
 ·rename_i hc
  simp only [Bool.and_eq_true,Bool.not_eq_true'] at hc
  obtain ⟨⟨c1,c2⟩,c3⟩:=hc
  subst c2
  obtain ⟨m1,m2⟩:=findN_mem c1
  have hkx:=e2.side (by rw [if_neg (by simp)];simpa using hr)
  rw [if_neg (by simp)] at hkx
  have hyx:Op.bytesLess (findN N (atL L x'.id 0).1).1.key.toList x'.key.toList=true:=by
   rcases bl_tri (findN N (atL L x'.id 0).1).1.key.toList x'.key.toList with ⟨h,_⟩ | ⟨h,_⟩ | ⟨h,_⟩
   ·exact h
   ·rw [h,hkx] at c3;cases c3
   ·rw [bl_trans hkx h] at c3;cases c3
  refine ⟨rfl,?_,e2.snoc m1 rfl c3 hyx⟩
  have h1:0<bey N false x':=by
   unfold bey
   rw [List.countP_pos_iff]
   exact ⟨_,m1,by rw [if_neg (by simp)];exact hyx⟩
  simp only [List.length_append,List.length_singleton]
  omega
 ·exact ⟨rfl,by show out.length<_;omega,e2.route⟩
def brkN (x:Nd) (lev:Int) (y:Nd):Bool:=y.id==x.id||sameN x.word y.word (lev+1)
def runStep (x:Nd) (lev:Int) (s:Nat×Nat) (y:Nd):Nat×Nat:=if brkN x lev y then (s.1,0) else (max s.1 (s.2+1),s.2+1)
def runF (x:Nd) (lev:Int) (G:List Nd):Nat×Nat:=G.foldl (runStep x lev) (0,0)
def runN (l:List Nd) (id lev:Int):Nat:=if checkN l=0∧(findN l id).2=true∧lvlN lev=true then (runF (findN l id).1 lev (thrG l id lev)).1 else 0
section
variable {x:Nd} {lev:Int}
theorem run_inv:∀ (G:List Nd) (s:Nat×Nat),s.2≤s.1→(G.foldl (runStep x lev) s).2≤(G.foldl (runStep x lev) s).1∧s.1≤(G.foldl (runStep x lev) s).1
 | [],s,h=>⟨h,Nat.le_refl _⟩
 | y::G,s,h=>by
  have h1:(runStep x lev s y).2≤(runStep x lev s y).1∧s.1≤(runStep x lev s y).1:=by
   unfold runStep
   split
   ·exact ⟨Nat.zero_le _,Nat.le_refl _⟩
   ·exact ⟨by show s.2+1≤max s.1 (s.2+1);omega,by show s.1≤max s.1 (s.2+1);omega⟩
  have:=run_inv G _ h1.1
  exact ⟨this.1,Nat.le_trans h1.2 this.2⟩
theorem run_q:∀ (Q:List Nd) (s:Nat×Nat),s.2≤s.1→(∀ y∈Q,brkN x lev y=false)→(Q.foldl (runStep x lev) s).2=s.2+Q.length
 | [],s,_,_=>rfl
 | y::Q,s,h,hQ=>by
  have e:runStep x lev s y=(max s.1 (s.2+1),s.2+1):=by unfold runStep;rw [hQ y (by simp)];rfl
  show (Q.foldl (runStep x lev) (runStep x lev s y)).2=_
  rw [e,run_q Q _ (by simp only;omega) (fun z hz=>hQ z (by simp [hz]))]
  simp only [List.length_cons]
  omega
theorem run_seg (A Q B:List Nd) (hQ:∀ y∈Q,brkN x lev y=false):Q.length≤(runF x lev (A++Q++B)).1:=by
 unfold runF
 rw [List.foldl_append,List.foldl_append]
 have h1:=run_inv (x:=x) (lev:=lev) A (0,0) (Nat.le_refl _)
 have h2:=run_q Q _ h1.1 hQ
 have h3:=run_inv (x:=x) (lev:=lev) Q _ h1.1
 have h4:=run_inv (x:=x) (lev:=lev) B _ h3.1
 omega
end
theorem runN_eq {l:List Nd} (h0:checkN l=0) {x:Nd} (hx:x∈l) {h:Nat} (hh:h≤16):runN l x.id h=(runF x h (grpS l h x.word)).1:=by
 have hf:=find_in h0 hx
 unfold runN thrG
 rw [hf,if_pos ⟨h0,rfl,by unfold lvlN;simp;omega⟩]
 rfl
theorem le_not (a b:List UInt8):(Op.bytesLess a b||a==b) = !Op.bytesLess b a:=by
 rcases bl_tri a b with ⟨h1,h2,h3⟩ | ⟨h1,h2,h3⟩ | ⟨h1,h2,h3⟩
 ·rw [h1,h2];rfl
 ·rw [h1,bytesLess_irrefl];simp
 ·rw [h1,h2];simpa using h3
theorem Tryz.infoHp:(Tryz.prog.info? 74).map (fun i=>(i.zero,i.size,i.bytes))=some (some (.agg #[.int .i64 0,.int .i64 0,.int .i64 0]),3,24):=by kernel_rfl
def encHp (h:Hop):List Value:=[.int .i64 h.1,.int .i64 h.2.1,.int .i64 h.2.2]
def RtPost (r:List Hop×Int) (w:World) (e:Ending) (w':World):Prop:=∃ v:Value,e=.returned (.tuple #[v,.int .i64 r.2])∧OwnL 3 encHp 74 w.heap.size w' v r.1∧Ex w w'
def lenS:Value→Nat | .slice _ n _=>n | _=>0
theorem route_bad {N:List Nd} {L:List Lkd} {frm:Int} {s:ByteArray} (h:checkN N≠0∨64<s.size):routeN N L frm s=([],1):=by unfold routeN;rw [if_pos h]
theorem route_unk {N:List Nd} {L:List Lkd} {frm:Int} {s:ByteArray} (h:¬ (checkN N≠0∨64<s.size)) (hf:(findN N frm).2=false):routeN N L frm s=([],6):=by unfold routeN;rw [if_neg h,if_pos hf]
theorem lenS_own {base:Nat} {w:World} {v:Value} {out:List Hop} (h:OwnL 3 encHp 74 base w v out):lenS v=out.length:=by
 obtain ⟨a,cap,rfl,_⟩:=h.rd (fun _=>rfl)
 rfl
theorem check_lenU {l:List Nd} (h:checkN l=0):l.length≤64:=by
 unfold checkN at h
 split at h
 ·omega
 ·omega
theorem route_val {N:List Nd} {L:List Lkd} {frm:Int} {s:ByteArray} {x0:Nd} {right:Bool} {T:Int} {R:Nd×List Hop} {x:Nd} {out:List Hop} (h1:¬ (checkN N≠0∨64<s.size)) (hf:(x0,true)=findN N frm)
  (hr:right = !Op.bytesLess s.toList x0.key.toList) (hT:T=topL L frm) (hR:R=rtF N L s.toList right (18*(N.length+1)) x0 (T+1).toNat []) (hd:R=(x,out)) :
  routeN N L frm s=if ((findN N (atL L x.id 0).1).2&&!right&&!Op.bytesLess s.toList (findN N (atL L x.id 0).1).1.key.toList)=true then (out++[(x.id,(findN N (atL L x.id 0).1).1.id,0)],0) else (out,0):=by
 unfold routeN
 rw [if_neg h1,← hf,if_neg (by simp)]
 simp only
 rw [← hr,← hT,← hR,hd]
def nums4 (x:Nr):List Int:=[x.1,x.2.1,x.2.2.1,x.2.2.2]
def numsP (p:Pr):List Int:=p.known++[p.left,p.right]++p.near.flatMap nums4
def ordN (N:List Nd) (l:List Int) (but:Int):List Int:=((sortN N).filter fun x=>!(x.id==but)&&l.contains x.id).map Nd.id
def refsN (N:List Nd) (p:Pr):List Int:=if checkN N=0 then ordN N (numsP p) p.id else []
def peerN (P:List Pr) (id:Int):Pr:=(P.find? fun p=>p.id==id).getD ⟨id,0,0,[],[]⟩
def normalN (N:List Nd) (P:List Pr):List Pr:=if checkN N=0 then (sortN N).map fun x=>peerN P x.id else []
def arN (N:List Nd) (p:Pr):List Int:=if (findN N p.id).2=true∧checkN N=0 then ordN N (refsN N p++[p.id]) 0 else []
def pr2 (id:Int) (q:Int×Int):List (Int×Int):=(if q.1=id then [] else [(q.1,q.2)])++(if q.2=id then [] else [(q.2,q.1)])
def prsN (id:Int) (l:List Int):List (Int×Int):=(l.zip l.tail).flatMap (pr2 id)
def introsN (N:List Nd) (p:Pr):List (Int×Int):=prsN p.id (arN N p)
def besN (id:Int) (l:List Int):Int×Int:=match l.findIdx? (·==id) with
 | none=>(0,0)
 | some i=>((if i=0 then 0 else l[i-1]?.getD 0),l[i+1]?.getD 0)
def keepN (N:List Nd) (p:Pr):Int×Int:=besN p.id (arN N p)
def toldN (M:List (Int×Int)) (id:Int):List Int:=(M.filter fun m=>m.1==id).map (·.2)
def roundN (N:List Nd) (P:List Pr):List Pr :=
 (normalN N P).map fun p=>{ p with left:=(keepN N p).1,right:=(keepN N p).2,known:=ordN N ([(keepN N p).1,(keepN N p).2]++toldN ((normalN N P).flatMap (introsN N)) p.id) p.id }
section
variable {N:List Nd} {P:List Pr}
theorem mem_ord {l:List Int} {but id:Int}:id∈ordN N l but↔(∃ x∈N,x.id=id)∧id≠but∧id∈l:=by
 unfold ordN
 simp only [List.mem_map,List.mem_filter,sortN_mem,Bool.and_eq_true,Bool.not_eq_true',beq_eq_false_iff_ne,List.contains_iff_mem]
 constructor
 ·rintro ⟨x,⟨h1,h2,h3⟩,rfl⟩;exact ⟨⟨x,h1,rfl⟩,h2,h3⟩
 ·rintro ⟨⟨x,h1,rfl⟩,h2,h3⟩;exact ⟨x,⟨h1,h2,h3⟩,rfl⟩
theorem mem_refs (h0:checkN N=0) {p:Pr} {id:Int}:id∈refsN N p↔(∃ x∈N,x.id=id)∧id≠p.id∧id∈numsP p:=by
 unfold refsN
 rw [if_pos h0,mem_ord]
theorem peer_id (P:List Pr) (id:Int):(peerN P id).id=id:=by
 unfold peerN
 cases h:P.find? fun p=>p.id==id with
 | none=>rfl
 | some p=>simpa using List.find?_some h
theorem ar_eq (h0:checkN N=0) {p:Pr} {x:Nd} (hx:x∈N) (hid:x.id=p.id):arN N p=((sortN N).filter fun y=>y.id==p.id||(numsP p).contains y.id).map Nd.id:=by
 unfold arN
 rw [if_pos ⟨by rw [← hid,find_in h0 hx],h0⟩]
 unfold ordN
 congr 1
 refine List.filter_congr fun y hy=>?_
 have hy:=(sortN_mem N y).1 hy
 have h1:=check_id h0 hy
 rw [Bool.eq_iff_iff]
 simp only [Bool.and_eq_true,Bool.not_eq_true',beq_eq_false_iff_ne,List.contains_iff_mem,List.mem_append,List.mem_singleton,Bool.or_eq_true,beq_iff_eq,mem_refs h0]
 constructor
 ·rintro ⟨_,⟨_,_,h⟩ | h⟩
  ·exact .inr h
  ·exact .inl h
 ·rintro (h | h)
  ·exact ⟨by omega,.inr h⟩
  ·by_cases he:y.id=p.id
   ·exact ⟨by omega,.inr he⟩
   ·exact ⟨by omega,.inl ⟨⟨y,hy,rfl⟩,he,h⟩⟩
end
end Go.Proofs.YthcholmhmcpooaaGreatDoor
