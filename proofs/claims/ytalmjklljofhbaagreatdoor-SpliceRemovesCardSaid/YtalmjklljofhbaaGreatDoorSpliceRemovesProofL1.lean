/- Texts for SpliceRemovesProof. -/
import Derived.Test.YtalmjklljofhbaaGreatDoorSxAll16
import Derived.Test.YtalmjklljofhbaaGreatDoorSxAll25
import Derived.Test.YtalmjklljofhbaaGreatDoorSxAll26
set_option linter.unusedSimpArgs false
set_option linter.unusedVariables false

namespace Go.Proofs.YtalmjklljofhbaaGreatDoor
open Go.RowKit
section
variable {N:List Nd} {L:List Lkd} {key:List UInt8} {right:Bool}
end
theorem build_top {N:List Nd} (h0:checkN N=0) {h:Nat} (hh:h≤16) {x:Nd} (hx:x∈N):topL (buildN N (h:Int)).1 x.id=h∧∀ lev:Nat,lev≤h→atL (buildN N (h:Int)).1 x.id lev=(neighN N x.id lev).1:=by
 have h0s:checkN (sortN N)=0:=check_perm (sortN_perm N) h0
 have hfind:(buildN N (h:Int)).1.find? (fun c=>c.1==x.id)=some (rowN (sortN N) (h+1) x):=by
  unfold buildN
  rw [if_neg (by rw [h0];simp),if_neg (by unfold lvlN;simp;omega)]
  simp only
  rw [show ((h:Int)).toNat+1=h+1 by omega,List.find?_map]
  have:((fun (c:Lkd)=>c.1==x.id) ∘ rowN (sortN N) (h+1))=fun y:Nd=>y.id==x.id:=rfl
  rw [this]
  have hf:=find_in h0s ((sortN_mem N x).2 hx)
  unfold findN at hf
  split at hf
  ·rename_i y hy
   cases hf
   rw [hy];rfl
  ·cases hf
 have hnb:∀ lev:Nat,lev≤16→(neighN (sortN N) x.id lev)=neighN N x.id lev:=fun lev hl=>by
  have hlv:lvlN (lev:Int)=true:=by unfold lvlN;simp;omega
  obtain ⟨A,B,e⟩:=grp_at hx hlv
  have es:grpS (sortN N) lev x.word=A++x::B:=by
   unfold grpS at e ⊢
   rw [sort_perm (sortN_perm N) h0];exact e
  rw [neigh_split h0 hx hlv e,neigh_split h0s ((sortN_mem N x).2 hx) hlv es]
 refine ⟨?_,fun lev hl=>?_⟩
 ·unfold topL
  rw [hfind]
  simp only [rowN_len]
  omega
 ·unfold atL
  rw [hfind]
  simp only
  rw [if_neg (by omega)]
  unfold rowN
  simp only
  rw [show ((lev:Int)).toNat=lev by omega,List.getElem?_map,List.getElem?_range (by omega)]
  simp only [Option.map_some,Option.getD_some]
  rw [hnb lev (by omega)]
def NdPost (l:List Nd) (base:Nat) (w:World) (e:Ending) (w':World):Prop:=∃ v:Value,e=.returned v∧OwnL 3 encN 49 base w' v l∧Ex w w'
def withoutN (l:List Nd) (ids:List Int):List Nd:=l.filter fun x=>!(ids.contains x.id)
section
variable {N:List Nd}
theorem with_drop (id:Int):withoutN N [id]=dropN N id:=by
 unfold withoutN dropN
 refine List.filter_congr fun x _=>?_
 by_cases h:x.id=id<;>simp [h]
end
def HasRel (l:List Int) (v:Int) (n:Nat) (w:World) (i:Value) (wr:World):Prop :=
 ∃ k:Nat,k≤n∧i=.int .i64 k∧Ex w wr∧∀ j z,j<k→l[j]?=some z→z≠v
set_option maxHeartbeats 1000000 in
theorem has_r (a:Option Addr) (n c:Nat) (l:List Int) (v:Int) (w:World) (h:Sl 1 encI w a n l) (hn:n≤4000000000000000000) :
  Calls Tryz.prog 129 #[.slice a n c,.int .i64 v] w fun e w'=>e=.returned (.bool (l.contains v))∧Ex w w':=by
 have HL:=lH h.len
 have hs:=lH h
 clear h
 go_enter Tryz.func129,Tryz.ntmps129
 go_wp2_with fail
 go_loopw [5] (fun i wr=>HasRel l v n w i wr) (fun i _=>n-(intOf i).toNat)
 case atStart=>exact ⟨0,by omega,rfl,Ex.refl _,by intro j z h;omega⟩
 case round =>
  obtain ⟨k,hk,rfl,kw,hno⟩:=hrel
  have HNO:=lH hno
  clear hno
  obtain ⟨wo,rfl⟩:∃ wo:World,wo=wr:=⟨_,rfl⟩
  by_cases hlt:k<n
  ·obtain ⟨x1,o1,y,rfl,hx1,hy,hc1⟩:=(hs.out.nx kw).at hlt
   have e0:wo.cell? ⟨x1,o1+k,none⟩=some (.int .i64 y):=by simpa using hc1 0 _ rfl
   have HY:=lH hy
   have KW:=lH kw
   clear hc1 hy kw
   by_cases hv:y=v
   ·have HC:Hid (l.contains v=true):=lH (by rw [List.contains_iff_mem,← hv];exact List.mem_of_getElem? HY.out)
    have hb:(y==v)=true:=by rw [hv];simp
    clear hv
    go_wp2_with fail
    go_ret
    exact ⟨by rw [HC.out];rfl,KW.out⟩
   ·have HV:=lH hv
    have hb:(y==v)=false:=by rw [beq_eq_false_iff_ne];exact hv
    clear hv
    go_wp2_with fail
    refine ⟨⟨k+1,by omega,by go_num,KW.out,fun j z hj hz=>?_⟩,by simp [intOf];omega⟩
    rcases Nat.lt_or_ge j k with h | h
    ·exact HNO.out j z h hz
    ·obtain rfl:j=k:=by omega
     rw [Option.some.inj (hz.symm.trans HY.out)]
     exact HV.out
  ·obtain rfl:k=n:=by omega
   have HC:Hid (l.contains v=false):=lH (by
    cases hc:l.contains v with
    | false=>rfl
    | true =>
     rw [List.contains_iff_mem] at hc
     obtain ⟨j,hj⟩:=List.mem_iff_getElem?.1 hc
     exact absurd rfl (HNO.out j v (by have:=(List.getElem?_eq_some_iff.1 hj).1;rw [← HL.out];exact this) hj))
   have KW:=lH kw
   clear hk hlt kw
   go_wp2_with fail
   go_ret
   exact ⟨by rw [HC.out];rfl,KW.out⟩
section
variable {N:List Nd}
theorem drop_word (hw:∀ x∈N,x.word<4294967296) (id:Int):∀ x∈dropN N id,x.word<4294967296:=fun x hx=>hw x (List.mem_filter.1 hx).1
end
theorem wo_snoc {l:List Nd} {ids:List Int} {k:Nat} {y:Nd} (hy:l[k]?=some y):withoutN (l.take (k+1)) ids=withoutN (l.take k) ids++(if ids.contains y.id then [] else [y]):=by
 unfold withoutN
 rw [take_snocN l k y hy,List.filter_append]
 congr 1
 by_cases h:ids.contains y.id=true
 ·rw [if_pos h,List.filter_cons_of_neg (by rw [h];simp)];rfl
 ·rw [if_neg h,List.filter_cons_of_pos (by simpa using h)];rfl
def WtRel (l:List Nd) (ids:List Int) (w:World) (o i:Value) (wr:World):Prop :=
 ∃ k:Nat,k≤l.length∧i=.int .i64 k∧OwnL 3 encN 49 w.heap.size wr o (withoutN (l.take k) ids)∧Ex w wr
set_option maxRecDepth 100000 in
set_option maxHeartbeats 4000000 in
theorem without_r (a:Option Addr) (n c:Nat) (l:List Nd) (a2:Option Addr) (n2 c2:Nat) (ids:List Int) (w:World) (h:Sl 3 encN w a n l) (hn:n≤1000) (h2:Sl 1 encI w a2 n2 ids) (hn2:n2≤4000000000000000000) :
  Calls Tryz.prog 71 #[.slice a n c,.slice a2 n2 c2] w (NdPost (withoutN l ids) w.heap.size w):=by
 have HL:=lH h.len
 have HS:=lH h
 have H2:=lH h2
 clear h h2
 go_enter Tryz.func71,Tryz.ntmps71
 go_wp2_with fail
 go_loopw [5,6] (fun o i wr=>WtRel l ids w o i wr) (fun _ i _=>n-(intOf i).toNat)
 case atStart=>exact ⟨0,by omega,rfl,OwnL.nil _ _ _ _ _,Ex.refl _⟩
 case round =>
  obtain ⟨k,hk,rfl,own,kw⟩:=hrel
  obtain ⟨wi,rfl⟩:∃ wi:World,wi=wr:=⟨_,rfl⟩
  by_cases hkn:k<n
  ·obtain ⟨x,o,y,rfl,hx,hy,hc⟩:=(HS.out.nx kw).at hkn
   have e0:wi.cell? ⟨x,o+k*3,none⟩=some (.int .i64 y.id):=hc 0 _ rfl
   have e1:wi.cell? ⟨x,o+k*3+1,none⟩=some (.string y.key):=hc 1 _ rfl
   have e2:wi.cell? ⟨x,o+k*3+1+1,none⟩=some (.int .u32 y.word):=by simpa [Nat.add_assoc] using hc 2 _ rfl
   have WS:=lH (wo_snoc (ids:=ids) hy)
   have H2i:=H2.out.nx kw
   have OWN:=lH own
   have KW:=lH kw
   have hwl:(withoutN (l.take k) ids).length≤1000000:=by
    have h1:(withoutN (l.take k) ids).length≤(l.take k).length:=List.length_filter_le _ _
    rw [List.length_take] at h1
    omega
   have hkI:(k:Int)<(n:Int):=by omega
   clear hc hy own kw
   go_wp2_with fail
   (with_reducible refine (has_r _ _ _ ids y.id _ H2i hn2).mono ?_)
   rintro e w3 ⟨rfl,kk⟩
   have OWN:=OWN.out.nx kk
   have KW:=lH (KW.out.nx kk)
   have e0:=kk.cellv e0 hx
   have e1:=kk.cellv e1 hx
   have e2:=kk.cellv e2 hx
   have zk:=KW.out.size
   clear kk H2i
   by_cases hh:ids.contains y.id=true
   ·rw [if_pos hh,List.append_nil] at WS
    have RR:=lH (show WtRel l ids w _ (.int .i64 ((k:Int)+1)) w3 from ⟨k+1,by have:=HL.out;omega,by go_num,by rw [WS.out];exact OWN,KW.out⟩)
    rw [hh]
    clear OWN hh
    go_wp2_with fail
    exact ⟨RR.out,by simp [intOf];omega⟩
   ·rw [if_neg hh] at WS
    replace hh:ids.contains y.id=false:=by simpa using hh
    rw [hh]
    clear hh
    go_wp2_with (at_builtin;(refine wpList_append_lit (enc:=encN) w3 rfl _ _ 23 rfl w.heap.size 49 (.agg #[.int .i64 0,.string ByteArray.empty,.int .u32 0]) 3 32 Tryz.underlying23 Tryz.infoN rfl (by omega) (by omega) _ _ OWN rfl y _ rfl rfl (by simp [encN,Value.oneCell']) _ rfl rfl hwl (by omega) _ ?_);intro v4 w4 own4 _ ch1 _)
    exact ⟨⟨k+1,by have:=HL.out;omega,by go_num,by rw [WS.out];exact own4,Chg.trans KW.out ch1⟩,by simp [intOf];omega⟩
  ·obtain rfl:k=n:=by have:=HL.out;omega
   rw [List.take_of_length_le (by have:=HL.out;omega)] at own
   have OW:=lH own
   have KW:=lH kw
   clear own kw
   go_wp2_with fail
   go_ret
   exact ⟨_,rfl,OW.out,KW.out⟩
def RmrRel (N:List Nd) (id:Int) (m:Nat) (w:World) (cnt i:Value) (wr:World):Prop :=
 ∃ j:Nat,j≤m∧cnt=.int .i64 (tieN N id j:Nat)∧i=.int .i64 j∧Ex w wr
set_option maxRecDepth 100000 in
set_option maxHeartbeats 8000000 in
theorem remove_r (a:Option Addr) (n c:Nat) (N:List Nd) (a2:Option Addr) (n2 c2:Nat) (L:List Lkd) (id hh:Int) (w:World) (h:Sl 3 encN w a n N) (hn:n≤1000) (hw:∀ x∈N,x.word<4294967296)
  (h2:LkL w a2 n2 L) (hn2:n2≤1000000) (hs:∀ c∈L,c.2.length≤9223372036854775807) :
  Calls Tryz.prog 27 #[.slice a n c,.slice a2 n2 c2,.int .i64 id,.int .i64 hh] w (ItPost (removeN N L id hh) w):=by
 have HW:=lH hw
 have HS:=lH hs
 have EX:=Ex.refl w
 clear hs
 go_enter Tryz.func27,Tryz.ntmps27
 go_wp2_with fail
 refine (level_r hh _).mono ?_
 rintro e w0 ⟨rfl,rfl⟩
 by_cases hlv:lvlN hh=false
 ·have E:Hid (removeN N L id hh=([],0,2)):=lH (by unfold removeN;rw [if_pos hlv])
  rw [hlv]
  go_wp2_with fail
  go_ret3
  exact ItPost.bad E.out EX
 replace hlv:lvlN hh=true:=by simpa using hlv
 rw [hlv]
 obtain ⟨m,rfl⟩:∃ m:Nat,hh=m:=⟨hh.toNat,by unfold lvlN at hlv;simp at hlv;omega⟩
 have hm16:m≤16:=by unfold lvlN at hlv;simp at hlv;omega
 clear hlv
 go_wp2_with fail
 (with_reducible refine (exact7_r _ _ _ _ _ _ _ _ (m:Int) _ h hn hw h2 hn2 HS.out).mono ?_)
 rintro e w1 ⟨rfl,kk⟩
 replace h:=h.nx kk
 replace EX:=EX.nx kk
 replace h2:=h2.nx kk
 clear kk
 by_cases he:exactI N L (m:Int)=false
 ·have E:Hid (removeN N L id m=([],0,1)):=lH (by unfold removeN;rw [if_neg (by rw [lvl_nat hm16];simp),if_pos he])
  rw [he]
  go_wp2_with fail
  go_ret3
  exact ItPost.bad E.out EX
 replace he:exactI N L (m:Int)=true:=by simpa using he
 rw [he]
 have HE:=lH he
 obtain ⟨h0,_,hL⟩:=exactI_yes he
 have HLE:=lH hL
 have H0:=lH h0
 clear he hL h0
 go_wp2_with fail
 (with_reducible refine (find_r _ _ _ _ id _ h (by omega)).mono ?_)
 rintro e w2 ⟨rfl,kk⟩
 replace h:=h.nx kk
 replace EX:=EX.nx kk
 replace h2:=h2.nx kk
 clear kk
 obtain ⟨F,hF⟩:∃ F,F=findN N id:=⟨_,rfl⟩
 rw [← hF]
 have HF:=lH hF
 clear hF
 obtain ⟨⟨fi,fk,fw⟩,ok⟩:=F
 simp only [Nd.val]
 have B11:=Blk.new w2 [.int .i64 fi,.string fk,.int .u32 fw] 49
 have kk:=Ex.new w2 (.cells #[.int .i64 fi,.string fk,.int .u32 fw] 49)
 obtain ⟨w3,hw3⟩:∃ w3,w3=w2.alloc (.cells #[.int .i64 fi,.string fk,.int .u32 fw] 49):=⟨_,rfl⟩
 obtain ⟨g11,hg11⟩:∃ g11,g11=w2.heap.size:=⟨_,rfl⟩
 replace B11:Blk w3 g11 [.int .i64 fi,.string fk,.int .u32 fw] 49:=by rw [hw3,hg11];exact B11
 rw [← hw3] at kk
 have Hw3:=lH hw3
 have Hg11:=lH hg11
 replace h:=h.nx kk
 replace EX:=EX.nx kk
 replace h2:=h2.nx kk
 clear kk hw3 hg11
 go_upto_region 6 with fail
 rw [← Hg11.out,← Hw3.out]
 clear Hg11 Hw3
 cases ok with
 | false =>
  have E:Hid (removeN N L id m=([],0,6)):=lH (by unfold removeN;rw [if_neg (by rw [lvl_nat hm16];simp),if_neg (by rw [HE.out];simp),if_pos (by rw [← HF.out])])
  go_wp2_with fail
  go_ret3
  exact ItPost.bad E.out EX
 | true =>
  have HX:=findN_mem (show (findN N id).2=true by rw [← HF.out])
  rw [← HF.out] at HX
  obtain ⟨hxm,hid⟩:=HX
  have E:Hid (removeN N L id m=((buildN (dropN N id) m).1,tieN N id (m+1),0)):=lH (by have:=rem_ok (m:=m) H0.out hm16 hxm;rw [← HLE.out] at this;simp only at hid;subst hid;exact this)
  have HA:Hid (∀ j:Nat,j≤m→atL L id j=(neighN N id j).1):=lH (fun j hj=>by have:=(build_top H0.out hm16 hxm).2 j hj;rw [← HLE.out] at this;simp only at hid;subst hid;exact this)
  have z3:w.heap.size≤w3.heap.size:=EX.size
  have HN:=lH h
  have H2:=lH h2
  have EX:=lH EX
  have R0:=lH (show RmrRel N id (m+1) w3 (.int .i64 0) (.int .i64 0) w3 from ⟨0,by omega,rfl,rfl,Ex.refl _⟩)
  clear h h2 hxm hid B11
  go_wp2_with fail
  go_loopw [13,14] (fun cnt i wr=>RmrRel N id (m+1) w3 cnt i wr) (fun _ i _=>m+1-(intOf i).toNat)
  case atStart=>exact R0.out
  case round =>
   clear R0
   obtain ⟨j,hj,rfl,rfl,kw⟩:=hrel
   obtain ⟨wi,rfl⟩:∃ wi:World,wi=wr:=⟨_,rfl⟩
   have hts:=tie_small N id j
   by_cases hjn:j≤m
   ·have TN:=lH (tieN_succ N id j)
    have hat:=HA.out j hjn
    obtain ⟨y,hy⟩:∃ y,y=(neighN N id (j:Nat)).1:=⟨_,rfl⟩
    rw [← hy] at hat TN
    obtain ⟨T,hT⟩:∃ T,T=tieN N id j:=⟨_,rfl⟩
    rw [← hT] at hts TN ⊢
    obtain ⟨l,r⟩:=y
    have H2i:=H2.out.nx kw
    have KW:=lH kw
    have HAT:=lH hat
    have hjI:(j:Int)≤(m:Int):=by omega
    clear hT hy hat kw
    go_wp2_with fail
    (with_reducible refine (at_r _ _ _ L id (j:Int) _ H2i hn2 (by omega)).mono ?_)
    rintro e w4 ⟨rfl,kk⟩
    rw [HAT.out]
    have KW:=lH (KW.out.nx kk)
    clear kk H2i
    have B15:=Blk.new w4 [.int .i64 l,.int .i64 r] 81
    have kk:=Ex.new w4 (.cells #[.int .i64 l,.int .i64 r] 81)
    obtain ⟨w5,hw5⟩:∃ w5,w5=w4.alloc (.cells #[.int .i64 l,.int .i64 r] 81):=⟨_,rfl⟩
    obtain ⟨g15,hg15⟩:∃ g15,g15=w4.heap.size:=⟨_,rfl⟩
    replace B15:Blk w5 g15 [.int .i64 l,.int .i64 r] 81:=by rw [hw5,hg15];exact B15
    rw [← hw5] at kk
    have Hw5:=lH hw5
    have Hg15:=lH hg15
    replace KW:=lH (KW.out.nx kk)
    clear kk hw5 hg15
    go_upto_region 13 with fail
    rw [← Hg15.out,← Hw5.out]
    clear Hg15 Hw5
    have b0:=B15.cell 0 _ rfl
    have b1:=B15.cell 1 _ rfl
    have wa:IntKind.i64.wrap ((T:Int)+1)=(T:Int)+1:=IntWalk.i64_in _ (by omega)
    have wb:IntKind.i64.wrap ((T:Int)+1+1)=(T:Int)+1+1:=IntWalk.i64_in _ (by omega)
    have wc:IntKind.i64.wrap ((j:Int)+1)=(j:Int)+1:=IntWalk.i64_in _ (by omega)
    have FIN:Hid (∀ t:Int,t=((T+(hasN l+hasN r):Nat):Int)→RmrRel N id (m+1) w3 (.int .i64 t) (.int .i64 ((j:Int)+1)) w5):=lH (fun t ht=>⟨j+1,by omega,by rw [TN.out,ht],by go_num,KW.out⟩)
    clear B15
    by_cases hl:l=0
    ·by_cases hr:r=0
     ·have FN:=lH (FIN.out (T:Int) (by subst hl hr;simp [hasN]))
      have d1:(l != 0)=false:=by simpa using hl
      have d2:(r != 0)=false:=by simpa using hr
      clear hl hr
      go_wp2_with fail
      exact ⟨FN.out,by simp [intOf];omega⟩
     ·have FN:=lH (FIN.out ((T:Int)+1) (by subst hl;simp [hasN,hr]))
      have d1:(l != 0)=false:=by simpa using hl
      have d2:(r != 0)=true:=by simpa using hr
      clear hl hr
      go_wp2_with fail
      exact ⟨FN.out,by simp [intOf];omega⟩
    ·by_cases hr:r=0
     ·have FN:=lH (FIN.out ((T:Int)+1) (by subst hr;simp [hasN,hl]))
      have d1:(l != 0)=true:=by simpa using hl
      have d2:(r != 0)=false:=by simpa using hr
      clear hl hr
      go_wp2_with fail
      exact ⟨FN.out,by simp [intOf];omega⟩
     ·have FN:=lH (FIN.out ((T:Int)+1+1) (by simp [hasN,hl,hr];omega))
      have d1:(l != 0)=true:=by simpa using hl
      have d2:(r != 0)=true:=by simpa using hr
      clear hl hr
      go_wp2_with fail
      exact ⟨FN.out,by simp [intOf];omega⟩
   ·obtain rfl:j=m+1:=by omega
    have KW:=lH kw
    have SN:=HN.out.nx kw
    have zi:=kw.size
    have kn:=Ex.new wi (.cells #[.int .i64 id] 3)
    have SI:Sl 1 encI (wi.alloc (.cells #[.int .i64 id] 3)) (some ⟨wi.heap.size,0,none⟩) 1 [id]:=Sl.lit _ rfl rfl (fun _=>rfl) rfl
    have SN:=SN.nx kn
    have hjn2:¬ ((m:Int)+1≤(m:Int)):=by omega
    clear kw hj hjn
    go_wp2_with fail
    (with_reducible refine (without_r _ _ _ N _ _ _ [id] _ SN (by omega) SI (by omega)).mono ?_)
    rintro e w6 ⟨v,rfl,own,kk⟩
    rw [with_drop] at own
    have DW:=lH (drop_word HW.out id)
    have hdl:(dropN N id).length≤1000:=Nat.le_trans (List.length_filter_le _ _) (by rw [HN.out.len];exact hn)
    obtain ⟨D,hD⟩:∃ D,D=dropN N id:=⟨_,rfl⟩
    rw [← hD] at own DW hdl
    have HD:=lH hD
    obtain ⟨aR,cR,rfl,SR,_,_⟩:=own.sl3 (fun _=>rfl)
    have KW:=lH (KW.out.nx (kn.nx kk))
    have z6:w.heap.size≤w6.heap.size:=by have:=kn.size;have:=kk.size;omega
    clear kk kn SI SN own hD zi
    go_wp2_with fail
    (with_reducible refine (build_r _ _ _ D (m:Int) _ SR hdl DW.out).mono ?_)
    rintro e w7 ⟨v7,q7,rfl,own7,kk⟩
    rw [HD.out] at own7
    have OW:=lH own7
    have KW:=lH (KW.out.nx kk)
    clear kk own7 SR
    go_wp2_with fail
    go_ret3
    exact ItPost.own E.out OW.out z6 (EX.out.nx KW.out)
def SwRm (b:Nat) (w:World) (v12 v13:Value) (wx:World):Prop:=∃ f h:Int,v12=.int .i64 f∧v13=.int .i64 h∧TK wx b∧Exb b w wx
theorem removeN_small {N:List Nd} {L:List Lkd} {id h:Int} (hn:N.length≤999):(removeN N L id h).1.length≤1000∧∀ c∈(removeN N L id h).1,c.2.length≤9223372036854775807:=by
 have hb:=buildN_small (dropN N id) h (Nat.le_trans (List.length_filter_le _ _) (by omega))
 unfold removeN
 split
 ·simp
 ·split
  ·simp
  ·split
   ·simp
   ·exact ⟨hb.1,fun c hc=>Nat.le_trans (hb.2 c hc) (by omega)⟩
set_option maxRecDepth 100000 in
set_option maxHeartbeats 16000000 in
theorem spliceremoves_walk (a1:Option Addr) (n1 c1:Nat) (l1:List Int) (id hh:Int) (w:World) (h1:Sl 1 encI w a1 n1 l1) (hc1:n1≤c1) (hm1:c1≤maxLen) (hT:TabG w) (hL:LetG w) :
  Calls Tryz.prog 5 #[.slice a1 n1 c1,.int .i64 id,.int .i64 hh] w fun e w'=>e=.returned (.bool true)∧Ex w w':=by
 go_enter Tryz.func5,Tryz.ntmps5
 go_wp2_with fail
 refine (new_t _ _ _ l1 _ h1 hc1 hm1).mono ?_
 rintro e w1 ⟨rfl,T,kk,z1⟩
 obtain ⟨b,hb⟩:∃ b,b=w.heap.size:=⟨_,rfl⟩
 rw [← hb] at T ⊢
 have hgt:¬ 1=b:=by have:=hT.lt;omega
 have hgl:¬ 0=b:=by have:=hL.lt;omega
 have T1:Hid (TabG w1):=lH (hT.nx kk)
 have L1:Hid (LetG w1):=lH (hL.nx kk)
 have QL:Hid (Exl b w w1):=lH ⟨kk,by omega⟩
 clear h1 hT hL kk hb z1
 go_wp2_with fail
 go_loopw [8] (fun i wr=>CtRel b 4 w1 i wr) (fun i _=>4-(intOf i).toNat)
 case atStart=>exact ⟨0,by omega,rfl,Exb.refl _ _,T⟩
 case round =>
  clear T
  obtain ⟨k,hk,rfl,kw,T⟩:=hrel
  obtain ⟨wo,rfl⟩:∃ wo:World,wo=wr:=⟨_,rfl⟩
  by_cases hlt:k<4
  case neg =>
   obtain rfl:k=4:=by omega
   have TG:=T1.out.nxb hgt kw
   have QX:=lH (QL.out.nxb kw).1
   clear hk hlt kw T
   go_wp2_with fail
   (with_reducible refine (sane10_x _ TG).mono ?_)
   rintro e w9 ⟨rfl,kk⟩
   go_wp2_with fail
   go_ret
   exact ⟨rfl,QX.out.nx kk⟩
  have hbo:=T.lt
  go_wp2_with fail
  refine (roster_t 7 _ T (L1.out.nxb hgl kw) hgl (by omega) (by omega)).mono ?_
  clear T
  rintro e x1 ⟨v1,LX,rfl,R⟩
  replace kw:=kw.nxb R.k
  have T:=R.tape
  obtain ⟨aX,cX,rfl,SX,hcX,hmX,hnX⟩:=R.own.slf (fun _=>rfl)
  have SX:=SX.slb hbo
  have RL:=R.len
  have RC:=lH R.ok
  have RN:=lH (roster_ok R.ok)
  have XW:Hid (∀ x∈LX,x.word<4294967296):=lH (fun x hx=>(RN.out x hx).1.2.1)
  clear R
  go_wp2_with fail
  refine (next_t 4 _ T (by omega) (by omega)).mono ?_
  clear T
  rintro e x2 ⟨r,rfl,r0,r1,T,kk⟩
  replace kw:=kw.nxb kk
  replace SX:=SX.nxb kk
  clear kk
  obtain ⟨h,rfl⟩:=Int.eq_ofNat_of_zero_le r0
  have hh3:h≤3:=by omega
  clear r0 r1
  go_wp2_with fail
  refine (next_t 5 _ T (by omega) (by omega)).mono ?_
  clear T
  rintro e x3 ⟨r,rfl,r0,r1,T,kk⟩
  replace kw:=kw.nxb kk
  replace SX:=SX.nxb kk
  clear kk
  obtain ⟨q,rfl⟩:=Int.eq_ofNat_of_zero_le r0
  obtain ⟨d,hd⟩:∃ d:Nat,d=q / 4:=⟨_,rfl⟩
  have hd1:d≤1:=by omega
  have hqd:Int.tdiv (q:Int) 4=(d:Int):=by rw [hd];exact Int.ofNat_tdiv q 4▸rfl
  have hqw:IntKind.i64.wrap (Int.tdiv (q:Int) 4)=(d:Int):=by rw [hqd];exact IntWalk.i64_in _ (by omega)
  have hb3:=T.lt
  clear hd r0 r1
  go_wp2_with fail
  refine (links_t _ _ _ _ (h:Int) d _ T SX (by omega) (by omega) XW.out (fun x hx=>(RN.out x hx).1.1)).mono ?_
  clear T
  rintro e x4 ⟨vL,qs,X,rfl,ownX,okX,T,kk⟩
  replace kw:=kw.nxb kk
  replace SX:=SX.nxb kk
  clear kk
  have PX:X.length≤100:=by have:=okX.1;omega
  have PX2:Hid (∀ c∈X,c.2.length≤9223372036854775807):=lH (fun c hc=>Nat.le_trans (okX.2 c hc).2.1 (by omega))
  clear okX hqd hqw
  go_wp2_with fail
  refine (id_t _ _ _ _ _ T SX (by omega) (fun x hx=>(RN.out x hx).1.1)).mono ?_
  clear T
  rintro e x7 ⟨rI,rfl,hrI,T,kk⟩
  replace kw:=kw.nxb kk
  replace SX:=SX.nxb kk
  replace ownX:=ownX.nxb hb3 kk
  clear kk
  go_wp2_with fail
  refine (pick_t (n:=6) (-1) 17 [(h:Int),(h:Int),(h:Int),(h:Int),-1,17] T rfl rfl rfl (by omega) (by omega) (by intro x hx;simp at hx;omega)).mono ?_
  clear T
  rintro e x8 ⟨rH,rfl,rH0,rH1,T,kk⟩
  replace kw:=kw.nxb kk
  replace SX:=SX.nxb kk
  replace ownX:=ownX.nxb hb3 kk
  clear kk
  clear rH0 rH1 hrI
  have KW:=lH kw
  clear kw
  go_upto_if 48 with fail
  go_cut [12,13] from 22 to 88 (fun v12 v13 wx=>SwRm b x8 v12 v13 wx)
  case first =>
   by_cases h3:k=3
   ·have d1:((k:Int)==3)=true:=by rw [beq_iff_eq];omega
    clear h3 SX ownX
    go_upto_region 9 with fail
    refine wp_region_held_drew (S:=Exb b x8) (by kernel_rfl) ((Exb.refl b x8).drew) (fun hHeld=>?_)
    obtain ⟨wd,hwdx⟩:∃ wd:World,wd=World.drew x8:=⟨_,rfl⟩
    rw [← hwdx] at hHeld ⊢
    have hDrew:Ex x8 wd:=by rw [hwdx];exact (Ex.refl x8).drew
    clear hwdx
    refine tkH 0 (v:=?_) rfl (by kernel_rfl) (fun _ _ _ h=>h) (by rfl) ?y1x0q5 (by assumption) ?z1x0q5
    case y1x0q5=>intro wq hSw;(go_simp);(try with_reducible rfl)
    try simp only [Act.put,sA,sB,sC]
    refine tkH 1 (v:=?_) rfl (by kernel_rfl) (fun _ _ _ h=>h) (by rfl) ?y1x1q8 (by assumption) ?z1x1q8
    case y1x1q8=>intro wq hSw;(go_simp);(try with_reducible rfl)
    try simp only [Act.put,sA,sB,sC]
    refine tkH 2 (v:=?_) rfl (by kernel_rfl) (fun _ _ _ h=>h) (by rfl) ?y1x2q11 (by assumption) ?z1x2q11
    case y1x2q11=>intro wq hSw;(go_simp);(try with_reducible rfl)
    try simp only [Act.put,sA,sB,sC]
    refine tkH 4 (v:=?_) rfl (by kernel_rfl) (fun _ _ _ h=>h) (by rfl) ?y1x4q14 (by assumption) ?z1x4q14
    case y1x4q14=>intro wq hSw;(go_simp);(try with_reducible rfl)
    try simp only [Act.put,sA,sB,sC]
    refine wpAnyH_ready (rs:=[3,5]) (by kernel_rfl) (by simp) ?_
    refine AllReadyH.cons (o:=⟨_,_,_,_,_,_⟩) rfl (fun K hK=>?_) ?_
    ·go_simp
     (try replace T:=T.nx hDrew)
     obtain ⟨g74,wq,hg74,hwq,BL,kk,zg74⟩:=newI2 hHeld (h:Int) hh
     rw [← hg74,← hwq]
     have hg74b:g74≠b:=by have:=T.lt;omega
     clear hg74 hwq zg74
     replace T:=T.nx kk
     replace hHeld:=hHeld.nxb (kk.b b)
     clear kk
     refine hK.out _ _ (hHeld) (fun hHeld=>?_)
     clear hK K
     try simp only [Act.put,sA,sB,sC]
     refine wpAnyH_ready (rs:=[5]) (by kernel_rfl) (by simp) ?_
     refine AllReadyH.cons (o:=⟨_,_,_,_,_,_⟩) rfl (fun K hK=>?_) AllReadyH.nil
     go_simp
     (try replace T:=T.nx hDrew)
     refine (next_t 2 _ T (by omega) (by omega)).mono ?_
     rintro e wt ⟨r,rfl,r0,r1,T9,kk⟩
     obtain ⟨j,rfl⟩:=Int.eq_ofNat_of_zero_le r0
     have hj2:j<2:=by omega
     have hjI:(j:Int)<2:=by omega
     have hj0:¬ (j:Int)<0:=by omega
     obtain ⟨u,hu⟩:=pick2 (h:Int) hh hj2
     replace T:=T9
     clear T9
     (try replace BL:=BL.nxb hg74b kk)
     replace hHeld:=hHeld.nxb kk
     clear kk r0 r1
     refine hK.out _ _ (hHeld) (fun hHeld=>?_)
     clear hK K
     try simp only [Act.put,sA,sB,sC]
     refine tkH 6 (v:=?_) rfl (by kernel_rfl) (fun _ _ _ h=>h) (by rfl) ?y1x6q50 (by assumption) ?z1x6q50
     case y1x6q50=>intro wq hSw;(go_simp);(try with_reducible rfl)
     try simp only [Act.put,sA,sB,sC]
     refine tkH 8 (v:=?_) rfl (by kernel_rfl) (fun _ _ _ h=>h) (by rfl) ?y1x8q53 (by assumption) ?z1x8q53
     case y1x8q53=>intro wq hSw;(go_simp);(try with_reducible rfl)
     try simp only [Act.put,sA,sB,sC]
     refine wpAnyH_ready (rs:=[7]) (by kernel_rfl) (by simp) ?_
     refine AllReadyH.cons (o:=⟨_,_,_,_,_,_⟩) rfl (fun K hK=>?_) AllReadyH.nil
     have cq:=BL.cell j _ hu
     go_simp
     clear cq
     refine hK.out _ _ (hHeld) (fun hHeld=>?_)
     clear hK K
     try simp only [Act.put,sA,sB,sC]
     refine tkH 9 (v:=?_) rfl (by kernel_rfl) (fun _ _ _ h=>h) (by rfl) ?y1x9q64 (by assumption) ?z1x9q64
     case y1x9q64=>intro wq hSw;(go_simp);(try with_reducible rfl)
     try simp only [Act.put,sA,sB,sC]
     refine wpAnyH_done (by kernel_rfl) ?_ _
     have CUT:=lH (show SwRm b x8 (.int .i64 id) (.int .i64 u) _ from ⟨id,u,rfl,rfl,T,hHeld⟩)
     clear T hHeld BL
     go_wp2_with fail
     go_meet
     exact CUT.out
    refine AllReadyH.cons (o:=⟨_,_,_,_,_,_⟩) rfl (fun K hK=>?_) AllReadyH.nil
    ·go_simp
     (try replace T:=T.nx hDrew)
     refine (next_t 2 _ T (by omega) (by omega)).mono ?_
     rintro e wt ⟨r,rfl,r0,r1,T9,kk⟩
     obtain ⟨j,rfl⟩:=Int.eq_ofNat_of_zero_le r0
     have hj2:j<2:=by omega
     have hjI:(j:Int)<2:=by omega
     have hj0:¬ (j:Int)<0:=by omega
     obtain ⟨u,hu⟩:=pick2 (h:Int) hh hj2
     replace T:=T9
     clear T9
     (try replace BL:=BL.nxb hg74b kk)
     replace hHeld:=hHeld.nxb kk
     clear kk r0 r1
     refine hK.out _ _ (hHeld) (fun hHeld=>?_)
     clear hK K
     try simp only [Act.put,sA,sB,sC]
     refine tkH 8 (v:=?_) rfl (by kernel_rfl) (fun _ _ _ h=>h) (by rfl) ?y1x8q87 (by assumption) ?z1x8q87
     case y1x8q87=>intro wq hSw;(go_simp);(try with_reducible rfl)
     try simp only [Act.put,sA,sB,sC]
     refine wpAnyH_ready (rs:=[3]) (by kernel_rfl) (by simp) ?_
     refine AllReadyH.cons (o:=⟨_,_,_,_,_,_⟩) rfl (fun K hK=>?_) AllReadyH.nil
     go_simp
     (try replace T:=T.nx hDrew)
     obtain ⟨g74,wq,hg74,hwq,BL,kk,zg74⟩:=newI2 hHeld (h:Int) hh
     rw [← hg74,← hwq]
     have hg74b:g74≠b:=by have:=T.lt;omega
     clear hg74 hwq zg74
     replace T:=T.nx kk
     replace hHeld:=hHeld.nxb (kk.b b)
     clear kk
     refine hK.out _ _ (hHeld) (fun hHeld=>?_)
     clear hK K
     try simp only [Act.put,sA,sB,sC]
     refine tkH 6 (v:=?_) rfl (by kernel_rfl) (fun _ _ _ h=>h) (by rfl) ?y1x6q104 (by assumption) ?z1x6q104
     case y1x6q104=>intro wq hSw;(go_simp);(try with_reducible rfl)
     try simp only [Act.put,sA,sB,sC]
     refine wpAnyH_ready (rs:=[7]) (by kernel_rfl) (by simp) ?_
     refine AllReadyH.cons (o:=⟨_,_,_,_,_,_⟩) rfl (fun K hK=>?_) AllReadyH.nil
     have cq:=BL.cell j _ hu
     go_simp
     clear cq
     refine hK.out _ _ (hHeld) (fun hHeld=>?_)
     clear hK K
     try simp only [Act.put,sA,sB,sC]
     refine tkH 9 (v:=?_) rfl (by kernel_rfl) (fun _ _ _ h=>h) (by rfl) ?y1x9q115 (by assumption) ?z1x9q115
     case y1x9q115=>intro wq hSw;(go_simp);(try with_reducible rfl)
     try simp only [Act.put,sA,sB,sC]
     refine wpAnyH_done (by kernel_rfl) ?_ _
     have CUT:=lH (show SwRm b x8 (.int .i64 id) (.int .i64 u) _ from ⟨id,u,rfl,rfl,T,hHeld⟩)
     clear T hHeld BL
     go_wp2_with fail
     go_meet
     exact CUT.out
   have d3:((k:Int)==3)=false:=by rw [beq_eq_false_iff_ne];omega
   have CUT:=lH (show SwRm b x8 (.int .i64 rI) (.int .i64 rH) x8 from ⟨rI,rH,rfl,rfl,T,Exb.refl _ _⟩)
   clear T SX h3 ownX
   go_wp2_with fail
   go_meet
   exact CUT.out
  case rest =>
   obtain ⟨fz,hz,rfl,rfl,T9,kk⟩:=hcut
   rename World=>x9
   clear T
   have KW:=lH (KW.out.nxb kk)
   have OX:=ownX.nxb hb3 kk
   have S:=(SX.nxb kk).sl
   obtain ⟨aP,cP,rfl,LK,_,_,_,_⟩:=OwnN.nl (encA:=encI) (encB:=encS) (s1:=2) (s2:=2) (fun _=>rfl) (fun _=>rfl) OX
   have LK:=lH LK
   have TB:=lH T9
   have EX:=Ex.refl x9
   have TG:=T1.out.nxb hgt KW.out
   clear SX OX ownX T9 kk
   go_wp2_with fail
   (with_reducible refine (remove_p _ _ _ LX _ _ _ X fz hz _ S (by omega) hcX hmX XW.out TG LK.out (by omega) PX2.out).mono ?_)
   rintro e y1 ⟨v17,q17,rfl,ownA,kk⟩
   replace S:=S.nx kk
   replace LK:=lH (LK.out.nx kk)
   replace EX:=EX.nx kk
   replace TG:=TG.nx kk
   clear kk
   obtain ⟨aA,cA,rfl,LA,_,_,_,_⟩:=OwnN.nl (encA:=encI) (encB:=encS) (s1:=2) (s2:=2) (fun _=>rfl) (fun _=>rfl) ownA
   have LA:=lH LA
   clear ownA
   go_wp2_with fail
   (with_reducible refine (remove_r _ _ _ LX _ _ _ X fz hz _ S (by omega) XW.out LK.out (by omega) PX2.out).mono ?_)
   rintro e y2 ⟨v20,q20,rfl,ownB,kk⟩
   replace S:=S.nx kk
   replace LK:=lH (LK.out.nx kk)
   replace EX:=EX.nx kk
   replace TG:=TG.nx kk
   replace LA:=lH (LA.out.nx kk)
   clear kk
   obtain ⟨aB,cB,rfl,LB,_,_,_,_⟩:=OwnN.nl (encA:=encI) (encB:=encS) (s1:=2) (s2:=2) (fun _=>rfl) (fun _=>rfl) ownB
   have LB:=lH LB
   obtain ⟨R,hR⟩:∃ R,R=removeN LX X fz hz:=⟨_,rfl⟩
   rw [← hR] at LA LB ⊢
   obtain ⟨hR1,hR2⟩:R.1.length≤1000∧∀ c∈R.1,c.2.length≤9223372036854775807:=by rw [hR];exact removeN_small (by have:=S.len;omega)
   have HR2:=lH hR2
   clear ownB hR hR2
   obtain ⟨RL1,Rn,Re⟩:=R
   simp only at LA LB hR1 HR2 ⊢
   go_wp2_with fail
   (with_reducible refine (samelk_g _ _ _ _ _ _ RL1 RL1 _ LA.out LB.out (by omega) HR2.out).mono ?_)
   rintro e y3 ⟨rfl,kk⟩
   replace S:=S.nx kk
   replace LK:=lH (LK.out.nx kk)
   replace EX:=EX.nx kk
   replace TG:=TG.nx kk
   replace LA:=lH (LA.out.nx kk)
   replace LB:=lH (LB.out.nx kk)
   clear kk
   rw [decide_eq_true (rfl:RL1=RL1)]
   have FIN:Hid (CtRel b 4 w1 (.int .i64 ((k:Int)+1)) y3):=lH ⟨k+1,by omega,by go_num,KW.out.nxb (EX.b b),TB.out.nx EX⟩
   clear S LK LA LB EX TG
   go_wp2_with fail
   exact ⟨FIN.out,by simp [intOf];omega⟩
end Go.Proofs.YtalmjklljofhbaaGreatDoor
/-
 SpliceRemoves returns true for every list of numbers and any two numbers,and leaves its arguments as they were.
 Condition: the table of math/bits and the letters of the keys are as the program text lays them (tied by the card).
-/
namespace Go.Proofs.YtalmjklljofhbaaGreatDoor
open Go.RowKit
open Go.ChangeShapes Go.WideShapes Go.ChangeAt Go.RowKit Go.Deep Go.Joins
open Go.ChangeMaps (open_string shut_string)
set_option linter.unusedVariables false
theorem Tryz.cellsInt:Tryz.prog.cellsOf 3=1:=by kernel_rfl
set_option maxRecDepth 100000 in
set_option maxHeartbeats 1000000 in
theorem spliceRemoves_lifted (os:Os) (started:os.Started) (H:Type) (enc:TypeId×Value→H) :
  ReturnsInHanded {} Tryz.checked os 5 .any (fun w args=>(Rows.spliceRemovesSpec.pre enc Tryz.prog Tryz.f5 [] false w args∧laidMetH Tryz.prog Rows.spliceRemovesRow.laid w)∧sizedMet enc Tryz.prog Tryz.f5 (OpenSpec.ofChange Rows.spliceRemovesSpec) false w args)
   (Rows.spliceRemovesSpec.post enc Tryz.prog Tryz.f5 false true false false):=by
 refine returnsInHanded_of_change_and (C:=Tryz.checked) (X:=fun w _=>laidMetH Tryz.prog Rows.spliceRemovesRow.laid w) (fun _ _ _ hh h=>h.of_heap hh) own started (by kernel_rfl) Tryz.func5
  (ChangeSpec.witness_shaped (enc:=enc) (C:=Tryz.checked) (os:=os) (X:=fun w _=>laidMetH Tryz.prog Rows.spliceRemovesRow.laid w) false (World.doorLaid Tryz.prog 400 os) #[.slice none 0 0,.int .i64 0,.int .i64 0] 8 rfl (World.shaped_of_RefB (by kernel_rfl) (by kernel_rfl)) (by kernel_rfl) (by kernel_rfl) (by kernel_rfl) (laidMetH_of_parts3 (fuel:=8) (laidMet_of_run' 8 (by kernel_rfl) (by kernel_rfl)) (by kernel_rfl) (by kernel_rfl))) ?_
 intro W base args ds gs before hval0 hW _ _ hL _
 have hval:∀ (j:Nat) t v,Tryz.f5.params[j]?=some t→args[j]?=some v→Value.okWide Tryz.prog W .any base t v:=hval0
 have hW':=hW
 obtain ⟨p,q,hA0,hV,rfl,hfz,hnd⟩:=hW
 have hA:DataW.TrodAll enc Tryz.prog W 0 (fun _=>true) true Tryz.f5.params.toList args.toList ds p:=hA0
 rw [Tryz.params5] at hA hval
 obtain ⟨v0,vs0,d0,ds0,p0,q0,hargs,rfl,rfl,h0,r0⟩:=trodAll_cons hA
 obtain ⟨v1,vs1,d1,ds1,p1,q1,rfl,rfl,rfl,h1,r1⟩:=trodAll_cons r0
 obtain ⟨v2,vs2,d2,ds2,p2,q2,rfl,rfl,rfl,h2,r2⟩:=trodAll_cons r1
 obtain ⟨rfl,rfl,rfl⟩:=trodAll_nil r2
 obtain rfl:args=#[v0,v1,v2]:=by cases args;simp_all
 obtain ⟨rfl,rfl⟩:=trodVars_none hV
 have k0:=h0
 have lt0:∀ x∈p0,x.block<W.heap.size:=by obtain ⟨m,hm⟩:=k0;exact DataW.trod_lt m _ _ _ hm
 have k1:=h1
 have lt1:∀ x∈p1,x.block<W.heap.size:=by obtain ⟨m,hm⟩:=k1;exact DataW.trod_lt m _ _ _ hm
 have k2:=h2
 have lt2:∀ x∈p2,x.block<W.heap.size:=by obtain ⟨m,hm⟩:=k2;exact DataW.trod_lt m _ _ _ hm
 obtain ⟨A0,n0,cap0,l0,rfl,rd0,hc0,hm0,wf0,nl0⟩:=rd_ints Tryz.underlying22 Tryz.underlying3 Tryz.cellsInt (hval 0 22 v0 rfl rfl) h0
 obtain ⟨a1,rfl,rfl,rfl,wa1⟩:=open_int Tryz.underlying3 (hval 1 3 v1 rfl rfl) h1
 obtain ⟨a2,rfl,rfl,rfl,wa2⟩:=open_int Tryz.underlying3 (hval 2 3 v2 rfl rfl) h2
 clear hA0 hval0
 have hT:TabG W:=tabG_of hL (by kernel_rfl)
 have hL2:LetG W:=letG_second hL (by kernel_rfl) (by kernel_rfl)
 refine (spliceremoves_walk A0 n0 cap0 l0 a1 a2 W rd0 hc0 hm0 hT hL2).mono fun e W' ⟨he,hch⟩=>?_
 have bel:Below W.heap.size W W':=hch.below (fun _ h=>h)
 subst he
 exact ⟨_,rfl,_,_,_,[],_,[],hW',trodAll_mk1 (shut_bool Tryz.underlying4 _),(trodAll_cons_mk (Below.trod laidOut (by kernel_rfl) (of_decide_eq_true (by kernel_rfl)) k0 bel lt0) (trodAll_cons_mk (Below.trod laidOut (by kernel_rfl) (of_decide_eq_true (by kernel_rfl)) k1 bel lt1) (trodAll_cons_mk (Below.trod laidOut (by kernel_rfl) (of_decide_eq_true (by kernel_rfl)) k2 bel lt2) trodAll_mk0))),rfl,bel.frame _,fun h=>by cases h⟩
theorem spliceRemoves_over:Rows.spliceRemovesRow.holds Tryz.pinned (OpenSpec.ofChange Rows.spliceRemovesSpec) :=
 OpenClaim.holds_of_wide 5 Tryz.f5 rfl rfl rfl rfl rfl rfl rfl ⟨rfl,rfl,rfl,rfl,rfl⟩ rfl rfl rfl rfl rfl (by kernel_rfl) Tryz.func5 (by kernel_rfl)
  (of_decide_eq_true (by kernel_rfl)) (by unfold Func.isWrapper;first | (rw [if_pos (by decide +kernel)];kernel_rfl) | (rw [if_neg (by decide +kernel)];exact ⟨rfl,rfl⟩))
  (fun os started H enc _=>spliceRemoves_lifted os started H enc)
theorem SpliceRemoves_holds:Rows.SpliceRemovesCardSaid :=
 Claim7.holds_tied_plain_at .later [] [.data, .data] true (true, "b1738fbeb79c68c942f0977f03bc30c9bd47aac2032c4478c3ec5ec3d4787ff6") false
  spliceRemoves_over (fun _ h=>by cases h) (by kernel_rfl) (fun _ h=>by cases h) spliceRemoves_row_tie rfl ⟨rfl,rfl⟩ (by kernel_rfl) rfl
  (fun f fn hf hfn=>by
   obtain rfl : f = 5 := Option.some.inj ((show Tryz.prog.funcNamed "skipgraph/skipgraphlaw10.SpliceRemoves" = some 5 by kernel_rfl).symm.trans hf) |>.symm
   obtain rfl:fn=Tryz.f5:=(Option.some.inj (Tryz.func5.symm.trans hfn)).symm
   exact ⟨by kernel_rfl,fun j t ht=>by
    rw [Tryz.params5] at ht
    have hm:t∈[22,3,3]:=by simpa using Array.mem_of_getElem? ht
    have hall:([22,3,3].all fun u=>!Tryz.prog.wantsStandIn u)=true:=by kernel_rfl
    exact (show Tryz.prog.wantsStandIn t=false by simpa using List.all_eq_true.1 hall t hm)⟩)
  (by kernel_rfl)
#print axioms SpliceRemoves_holds
end Go.Proofs.YtalmjklljofhbaaGreatDoor
