/- Shared texts. -/
import Derived.Test.YthcholmhmcpooaaGreatDoorWAll18
import Derived.Test.YthcholmhmcpooaaGreatDoorWAll21
set_option linter.unusedSimpArgs false
set_option linter.unusedVariables false

namespace Go.Proofs.YthcholmhmcpooaaGreatDoor
open Go.RowKit Go.Shelf
theorem enc2 (y:Int×Hdr):(encP encI y).length=2:=rfl
theorem enc2_one (y:Int×Hdr):∀ u∈encP encI y,u.oneCell'=true:=by simp [encP,encI,Hdr.val,Value.oneCell']
set_option maxHeartbeats 4000000 in
theorem eql_p (a1 a2:Option Addr) (n m c1 c2:Nat) (r s:List (Int×Int)) (w:World) (h1:Sl 2 encS w a1 n r) (h2:Sl 2 encS w a2 m s) (hn:n≤9223372036854775807) :
  Calls Tryz.prog 168 #[.slice a1 n c1,.slice a2 m c2] w fun e w'=>e=.returned (.bool (decide (r=s)))∧Ex w w':=by
 have L1:=lH h1.len
 have L2:=lH h2.len
 have R1:=lH h1
 have R2:=lH h2
 clear h1 h2
 go_enter Tryz.func168,Tryz.ntmps168
 by_cases hnm:n=m
 ·subst hnm
  go_wp2_with fail
  go_loopw [13] (fun i wr=>SvRel r s n w i wr) (fun i _=>n-(intOf i).toNat)
  case atStart=>exact ⟨0,by omega,rfl,Ex.refl w,rfl⟩
  case round =>
   obtain ⟨j,hj,rfl,kv,hT2⟩:=hrel
   obtain ⟨wi,rfl⟩:∃ wi:World,wi=wr:=⟨_,rfl⟩
   have HT2:=lH hT2
   clear hT2
   by_cases hjl:j<n
   ·obtain ⟨x3,o3,y1,rfl,hx3,hy1,hc3⟩:=(R1.out.nx kv).at hjl
    obtain ⟨x4,o4,y2,rfl,hx4,hy2,hc4⟩:=(R2.out.nx kv).at hjl
    have u0:wi.cell? ⟨x3,o3+j*2,none⟩=some (.int .i64 y1.1):=hc3 0 _ rfl
    have u1:wi.cell? ⟨x3,o3+j*2+1,none⟩=some (.int .i64 y1.2):=hc3 1 _ rfl
    have v0:wi.cell? ⟨x4,o4+j*2,none⟩=some (.int .i64 y2.1):=hc4 0 _ rfl
    have v1:wi.cell? ⟨x4,o4+j*2+1,none⟩=some (.int .i64 y2.2):=hc4 1 _ rfl
    have HZ1:=lH hy1
    have HZ2:=lH hy2
    have KV:=lH kv
    clear hc3 hc4 hy1 hy2 kv
    by_cases hy:y1=y2
    ·subst hy
     go_wp2_with fail
     go_quiet (fail)
     go_wp2_with fail
     exact ⟨⟨j+1,by omega,by go_num,KV.out.drewN _,take_snoc_eq HT2.out HZ1.out HZ2.out rfl⟩,by simp [intOf];omega⟩
    ·have ND:Hid (decide (r=s)=false):=lH (decide_eq_false (ne_at HZ1.out HZ2.out hy))
     obtain ⟨p1,r1⟩:=y1
     obtain ⟨p2,r2⟩:=y2
     simp only at u0 u1 v0 v1
     by_cases hp:p1=p2
     ·subst hp
      have hr:¬ r1=r2:=fun h=>hy (by rw [h])
      have hb:(r1==r2)=false:=by simpa using hr
      clear hy HZ1 HZ2
      go_wp2_with fail
      go_quiet (fail)
      go_wp2_with fail
      go_ret
      exact ⟨by rw [ND.out];rfl,KV.out.drewN _⟩
     ·have hb:(p1==p2)=false:=by simpa using hp
      clear hy HZ1 HZ2
      go_wp2_with fail
      go_quiet (fail)
      go_wp2_with fail
      go_ret
      exact ⟨by rw [ND.out];rfl,KV.out.drewN _⟩
   ·obtain rfl:j=n:=by omega
    have ED:Hid (decide (r=s)=true):=lH (decide_eq_true (by
     have h3:=HT2.out
     rwa [List.take_of_length_le (by rw [L1.out];exact Nat.le_refl _),List.take_of_length_le (by rw [L2.out];exact Nat.le_refl _)] at h3))
    have KV:=lH kv
    clear kv hj hjl
    go_wp2_with fail
    go_ret
    exact ⟨by rw [ED.out];rfl,KV.out⟩
 ·have hnm':¬ (n:Int)=(m:Int):=by omega
  have ND:Hid (decide (r=s)=false):=lH (decide_eq_false (fun h=>hnm (by rw [← L1.out,← L2.out,h])))
  go_wp2_with fail
  go_ret
  exact ⟨by rw [ND.out];rfl,Ex.refl _⟩
set_option maxHeartbeats 1000000 in
theorem same1_p (i1 i2:Int) (a1 a2:Option Addr) (n m c1 c2:Nat) (r s:List (Int×Int)) (w:World) (h1:Sl 2 encS w a1 n r) (h2:Sl 2 encS w a2 m s) (hn:n≤9223372036854775807) :
  Calls Tryz.prog 167 #[.agg #[.int .i64 i1,.slice a1 n c1],.agg #[.int .i64 i2,.slice a2 m c2]] w fun e w'=>e=.returned (.bool (decide ((i1,r)=(i2,s))))∧Ex w w':=by
 go_enter Tryz.func167,Tryz.ntmps167
 by_cases hi:i1=i2
 ·subst hi
  have k1:=Ex.new w (.cells #[.int .i64 i1,.slice a1 n c1] 121)
  have k2:=k1.alloc (.cells #[.int .i64 i1,.slice a2 m c2] 121)
  have R1:=h1.nx k2
  have R2:=h2.nx k2
  have DD:Hid (decide ((i1,r)=(i1,s))=decide (r=s)):=lH (by rw [decide_eq_decide];simp)
  have K2:=lH k2
  clear h1 h2 k1 k2
  go_wp2_with fail
  (with_reducible refine (eql_p _ _ _ _ _ _ _ _ _ R1 R2 hn).mono ?_)
  rintro e w1 ⟨rfl,kk⟩
  clear R1 R2
  go_wp2_with fail
  go_ret
  exact ⟨by rw [DD.out];rfl,K2.out.nx kk⟩
 ·have d1:(i1==i2)=false:=by simpa using hi
  have ND:Hid (decide ((i1,r)=(i2,s))=false):=lH (decide_eq_false (fun h=>hi (by cases h;rfl)))
  clear h1 h2
  go_wp2_with fail
  go_ret
  exact ⟨by rw [ND.out];rfl,((Ex.refl w).alloc _).alloc _⟩
set_option maxRecDepth 100000 in
set_option maxHeartbeats 4000000 in
theorem eqf_p (a1 a2:Option Addr) (n m c1 c2:Nat) (L M:List Lkd) (w:World) (h1:LkL w a1 n L) (h2:LkL w a2 m M) (hn:n≤1000000) (hs:∀ c∈L,c.2.length≤9223372036854775807) :
  Calls Tryz.prog 166 #[.slice a1 n c1,.slice a2 m c2,.func (.func 167) #[] #[]] w fun e w'=>e=.returned (.bool (decide (L=M)))∧Ex w w':=by
 have HL:=lH h1.len
 have HM:=lH h2.len
 have HS:=lH hs
 have H1:=lH h1
 have H2:=lH h2
 clear hs h1 h2
 go_enter Tryz.func166,Tryz.ntmps166
 by_cases hnm:n=m
 ·subst hnm
  go_wp2_with fail
  go_loopw [17] (fun i wr=>SmRel L M n w i wr) (fun i _=>n-(intOf i).toNat)
  case atStart=>exact ⟨0,by omega,rfl,Ex.refl _,rfl⟩
  case round =>
   obtain ⟨k,hk,rfl,kw,hT⟩:=hrel
   obtain ⟨wo,rfl⟩:∃ wo:World,wo=wr:=⟨_,rfl⟩
   have HT:=lH hT
   clear hT
   by_cases hlt:k<n
   ·obtain ⟨x1,o1,a1',n1',c1',d1,rfl,hx1,hy1,hc1,r1⟩:=(H1.out.nx kw).at hlt
    obtain ⟨x2,o2,a2',n2',c2',d2,rfl,hx2,hy2,hc2,r2⟩:=(H2.out.nx kw).at hlt
    have e0:wo.cell? ⟨x1,o1+k*2,none⟩=some (.int .i64 d1.1):=hc1 0 _ rfl
    have e1:wo.cell? ⟨x1,o1+k*2+1,none⟩=some (.slice a1' n1' c1'):=hc1 1 _ rfl
    have f0:wo.cell? ⟨x2,o2+k*2,none⟩=some (.int .i64 d2.1):=hc2 0 _ rfl
    have f1:wo.cell? ⟨x2,o2+k*2+1,none⟩=some (.slice a2' n2' c2'):=hc2 1 _ rfl
    have hne1:¬ x1=wo.heap.size:=by omega
    have hne2:¬ x2=wo.heap.size:=by omega
    have HY1:=lH hy1
    have HY2:=lH hy2
    have hb1:n1'≤9223372036854775807:=by rw [← r1.len];exact HS.out _ (List.mem_of_getElem? hy1)
    have k1:=Ex.new wo (.cells #[.int .i64 d1.1,.slice a1' n1' c1'] 121)
    have k2:=k1.alloc (.cells #[.int .i64 d2.1,.slice a2' n2' c2'] 121)
    have R1:=lH (fun (cur:World) (k:Ex wo cur)=>r1.nx k)
    have R2:=lH (fun (cur:World) (k:Ex wo cur)=>r2.nx k)
    have K2:=lH k2
    have KW:=lH kw
    clear hc1 hc2 hy1 hy2 r1 r2 k1 k2 kw
    go_wp2_with fail
    (with_reducible refine (same1_p _ _ _ _ _ _ _ _ _ _ _ (R1.out _ K2.out) (R2.out _ K2.out) hb1).mono ?_)
    rintro e w1 ⟨rfl,kk⟩
    have KZ:=lH (KW.out.nx (K2.out.nx kk))
    clear kk K2 R1 R2 e0 e1 f0 f1
    by_cases hd:(d1.1,d1.2)=(d2.1,d2.2)
    ·rw [decide_eq_true hd]
     have ED:Hid (d1=d2):=lH hd
     clear hd
     go_wp2_with fail
     exact ⟨⟨k+1,by omega,by go_num,KZ.out,take_snoc_eq HT.out HY1.out HY2.out ED.out⟩,by simp [intOf];omega⟩
    ·rw [decide_eq_false hd]
     have ND:Hid (decide (L=M)=false):=lH (decide_eq_false (ne_at HY1.out HY2.out hd))
     clear hd
     go_wp2_with fail
     go_ret
     exact ⟨by rw [ND.out];rfl,KZ.out⟩
   ·obtain rfl:k=n:=by omega
    have ED:Hid (decide (L=M)=true):=lH (decide_eq_true (by
     have h3:=HT.out
     rwa [List.take_of_length_le (by rw [HL.out];exact Nat.le_refl _),List.take_of_length_le (by rw [HM.out];exact Nat.le_refl _)] at h3))
    clear hk hlt
    go_wp2_with fail
    go_ret
    exact ⟨by rw [ED.out];rfl,kw⟩
 ·have hnm':¬ (n:Int)=(m:Int):=by omega
  have ND:Hid (decide (L=M)=false):=lH (decide_eq_false (fun h=>hnm (by rw [← HL.out,← HM.out,h])))
  go_wp2_with fail
  go_ret
  exact ⟨by rw [ND.out];rfl,Ex.refl _⟩
theorem same_lp (a1 a2:Option Addr) (n m c1 c2:Nat) (L M:List Lkd) (w:World) (h1:LkL w a1 n L) (h2:LkL w a2 m M) (hn:n≤1000000) (hs:∀ c∈L,c.2.length≤9223372036854775807) :
  Calls Tryz.prog 93 #[.slice a1 n c1,.slice a2 m c2] w fun e w'=>e=.returned (.bool (decide (L=M)))∧Ex w w':=by
 go_enter Tryz.func93,Tryz.ntmps93
 go_wp2_with fail
 (with_reducible refine (eqf_p _ _ _ _ _ _ _ _ _ h1 h2 hn hs).mono ?_)
 rintro e w1 ⟨rfl,kk⟩
 clear h1 h2
 go_wp2_with fail
 go_ret
 exact ⟨rfl,kk⟩
def QuL (e:TypeId) (base:Nat) (w:World) (v:Value) (l:List Int):Prop :=
 (v=.slice none 0 0∧l=[])∨∃ (g o cap:Nat) (cur:Array Value),v=.slice (some ⟨g,o,none⟩) l.length cap∧base≤g∧w.heap[g]?=some (.cells cur e (0,0))∧l.length≤cap∧cap≤maxLen∧o+cap≤cur.size∧(cur.toList.drop o).take l.length=l.flatMap encI
section
variable {e:TypeId} {base:Nat} {w w':World} {v:Value} {l:List Int}
theorem flatI_len (l:List Int):(l.flatMap encI).length=l.length:=by
 induction l with
 | nil=>rfl
 | cons x l ih=>rw [List.flatMap_cons,List.length_append,ih,List.length_cons,show (encI x).length=1 from rfl];omega
theorem flatI_map (l:List Int):l.flatMap encI=l.map (Value.int .i64):=by
 induction l with
 | nil=>rfl
 | cons y r ih=>rw [List.flatMap_cons,ih];rfl
theorem QuL.chg (h:QuL e base w v l) {S:Nat→Prop} (k:Chg S w w') (hs:∀ k,k<w.heap.size→v.ownBlock=some k→S k):QuL e base w' v l:=by
 rcases h with h | ⟨g,o,cap,cur,rfl,hb,hg,rest⟩
 ·exact .inl h
 ·exact .inr ⟨g,o,cap,cur,rfl,hb,(k.block g (hs g (heap_lt hg) rfl)).trans hg,rest⟩
theorem QuL.nx (h:QuL e base w v l) (k:Ex w w'):QuL e base w' v l:=h.chg k (fun _ hk _=>hk)
theorem QuL.lt (h:QuL e base w v l) {g:Nat} (hg:v.ownBlock=some g):base≤g∧g<w.heap.size:=by
 rcases h with ⟨rfl,_⟩ | ⟨g',o,cap,cur,rfl,hb,hh,_⟩
 ·cases hg
 ·cases hg
  exact ⟨hb,heap_lt hh⟩
theorem QuL.nxb {b:Nat} (h:QuL e base w v l) (hb:b<base) (k:Exb b w w'):QuL e base w' v l:=h.chg k (fun x hx hv=>⟨hx,by have:=(h.lt hv).1;omega⟩)
theorem QuL.append {P:Program} (h:QuL e base w v l) (t ty:TypeId) {z:Value} {bytes:Nat} (ht:P.underlying t=some (.slice e)) (hi:(P.info? e).map (fun i=>(i.zero,i.size,i.bytes))=some (some z,1,bytes)) (hzs:z.cells.size=1) (hby:bytes≤65536)
  {S:Nat→Prop} {A:Option Addr} {n c:Nat} {news:List Int} (hrd:Rd 1 encI S w A n news) (hA:A=none→c=0) (hl:l.length≤100000000) (hn:n≤100000000) (hbase:base≤w.heap.size) :
  ∃ v' w',(Builtin.append_ #[t,t] ty #[v,.slice A n c]).run P w=.ok v' w'∧QuL e base w' v' (l++news)∧Chg (fun k=>k<w.heap.size∧¬ v.ownBlock=some k) w w'∧Chg (· < base) w w'∧(v'.ownBlock=v.ownBlock∨v'.ownBlock=some w.heap.size):=by
 obtain ⟨i,hi,hz0,hz1,hz2⟩:=info_parts hi
 have hmul:(l.length+n)*bytes≤200000000*65536:=Nat.mul_le_mul (by omega) hby
 have hnl:=hrd.1
 have nothing:news=[]→(Builtin.append_ #[t,t] ty #[v,.slice A n c]).run P w=.ok v w→∃ v' w',(Builtin.append_ #[t,t] ty #[v,.slice A n c]).run P w=.ok v' w'∧QuL e base w' v' (l++news)∧Chg (fun k=>k<w.heap.size∧¬ v.ownBlock=some k) w w'∧Chg (· < base) w w'∧(v'.ownBlock=v.ownBlock∨v'.ownBlock=some w.heap.size) :=
  fun hnews hrun=>⟨v,w,hrun,by rw [hnews];simpa using h,Chg.refl _ _,Chg.refl _ _,.inl rfl⟩
 by_cases hn0:n=0
 ·subst hn0
  have hnews:news=[]:=List.eq_nil_of_length_eq_zero hnl
  refine nothing hnews ?_
  rcases h with ⟨rfl,_⟩ | ⟨g,o,cap,cur,rfl,_,_,hnc,_⟩
  ·cases A<;>simp [Builtin.append_,run_underlying ht,sizeOf,typeInfo,hi,Builtin.lenOf,Builtin.firstCells,loadCells,loadCellsFrom]
  ·cases A<;>simp [Builtin.append_,run_underlying ht,sizeOf,typeInfo,hi,Builtin.lenOf,Builtin.firstCells,hnc,storeCells,loadCells,loadCellsFrom]
 ·obtain ⟨ad,rfl,hcells⟩:∃ ad,A=some ad∧∀ j u,(news.flatMap encI)[j]?=some u→w.cell? (ad.add j)=some u:=by
   rcases hrd.2 with h0 | ⟨x,o,rfl,hx,hc⟩
   ·exact absurd h0 hn0
   ·refine ⟨_,rfl,fun j u hu=>?_⟩
    have hflat:=flatI_map news
    rw [hflat,List.getElem?_map] at hu
    cases hy:news[j]? with
    | none=>rw [hy] at hu;cases hu
    | some y =>
     rw [hy] at hu
     cases hu
     have:=hc j y hy 0 _ rfl
     have hadd:(⟨x,o,none⟩:Addr).add j=⟨x,o+j,none⟩:=by unfold Addr.add;split<;>simp_all
     rw [hadd]
     simpa using this
  have hfl:(news.flatMap encI).length=n*i.size:=by rw [flatI_len,hz1,hnl,Nat.mul_one]
  have h1f:∀ u∈news.flatMap encI,u.oneCell'=true:=by
   intro u hu
   obtain ⟨y,_,hy⟩:=List.mem_flatMap.1 hu
   simp only [encI,List.mem_singleton] at hy
   subst hy
   rfl
  have fresh:∀ (old:Nat),old<l.length+n →
    QuL e base (w.drew.alloc (.cells ((l.flatMap encI).toArray++(news.flatMap encI).toArray++Builtin.zeroCells z.cells (grownCap w (l.length+n) old e-(l.length+n))) e)) (.slice (some ⟨w.heap.size,0,none⟩) (l.length+n) (grownCap w (l.length+n) old e)) (l++news):=by
   intro old ho
   have hge:=grownCap_ge w (l.length+n) old e
   have hcm:grownCap w (l.length+n) old e≤maxLen:=grownCap_le_maxLen w (l.length+n) old e (by unfold maxLen;omega)
   refine .inr ⟨w.heap.size,0,_,_,by rw [List.length_append,hnl],hbase,heap_alloc_new w.drew _,by rw [List.length_append,hnl];exact hge,hcm,?_,?_⟩
   ·simp only [Array.size_append,List.size_toArray,size_zeroCells,hzs,flatI_len,hnl]
    omega
   ·simp only [Array.toList_append,List.append_assoc,List.drop_zero]
    rw [← List.append_assoc,← List.flatMap_append,← flatI_len (l++news)]
    exact List.take_left
  have hex:∀ o:Obj,Ex w (w.drew.alloc o):=fun o=>⟨rfl,rfl,rfl,by simp,fun k hk=>heap_alloc_old w.drew _ hk⟩
  rcases h with ⟨rfl,rfl⟩ | ⟨g,o,cap,cur,rfl,hb,hg,h1,h2,h3,h4⟩
  ·have hr:=run_append_nil (P:=P) w t ty e i z ht hi hz0 ad n c (news.flatMap encI) hfl hcells (by omega) (by omega) (by rw [hz2];simp only [List.length_nil,Nat.zero_add] at hmul;omega)
   have hf:=fresh 0 (by simp;omega)
   simp only [List.length_nil,Nat.zero_add,List.flatMap_nil,List.nil_append] at hf ⊢
   refine ⟨_,_,hr,by simpa using hf,(hex _).mono fun k hk=>hk.1,(hex _).mono fun k (hk:k<base)=>by show k<w.heap.size;omega,.inr rfl⟩
  ·by_cases hroom:l.length+n≤cap
   ·have hfc:=run_firstCells_some (P:=P) w i.size n ad n c (news.flatMap encI) hfl hcells
    have hst:=run_storeCells_at P g (o+l.length) e (news.flatMap encI) 0 cur w hg (by rw [flatI_len,hnl];omega) h1f
    simp only [Nat.add_zero] at hst
    have hadd:(⟨g,o,none⟩:Addr).add (l.length*i.size)=⟨g,o+l.length,none⟩:=by rw [hz1,Nat.mul_one];unfold Addr.add;split<;>simp_all
    refine ⟨.slice (some ⟨g,o,none⟩) (l.length+n) cap,w.setRow g (cur.toList.take (o+l.length)++news.flatMap encI++cur.toList.drop (o+l.length+(news.flatMap encI).length)).toArray,?_,.inr ⟨g,o,cap,_,by rw [List.length_append,hnl],hb,setRow_heap w g cur _ e _ hg,by rw [List.length_append,hnl];exact hroom,h2,?_,?_⟩,⟨rfl,rfl,rfl,by simp [World.setRow],fun k hk=>setRow_other w g k _ (fun he=>hk.2 (by rw [he];rfl))⟩,⟨rfl,rfl,rfl,by simp [World.setRow],fun k (hk:k<base)=>setRow_other w g k _ (by omega)⟩,.inl rfl⟩
    ·simp [Builtin.append_,run_underlying ht,sizeOf,typeInfo,hi,Builtin.lenOf,hroom,hfc,hadd,hst]
    ·simp only [List.size_toArray,List.length_append,List.length_take,List.length_drop,Array.length_toList,flatI_len,hnl]
     omega
    ·rw [List.flatMap_append,← h4,List.length_append,hnl]
     have hsz:o+l.length≤cur.toList.length:=by simp;omega
     simp only [List.append_assoc]
     rw [List.drop_append_of_le_length (by rw [List.length_take];omega),List.drop_take,show o+l.length-o=l.length by omega,← List.append_assoc]
     rw [List.take_append_of_le_length (by rw [List.length_append,List.length_take,List.length_drop,flatI_len,hnl];omega)]
     rw [List.take_of_length_le (by rw [List.length_append,List.length_take,List.length_drop,flatI_len,hnl];omega)]
   ·have holds:∀ j u,(l.flatMap encI)[j]?=some u→w.cell? ((⟨g,o,none⟩:Addr).add j)=some u:=by
     intro j u hu
     have hadd:(⟨g,o,none⟩:Addr).add j=⟨g,o+j,none⟩:=by unfold Addr.add;split<;>simp_all
     rw [hadd]
     rw [← h4,List.getElem?_take] at hu
     split at hu
     ·rw [List.getElem?_drop] at hu
      have:cur[o+j]?=some u:=by simpa using hu
      simp [World.cell?,hg,this]
     ·cases hu
    have hr:=run_append_grow (P:=P) w t ty e i z ht hi hz0 ⟨g,o,none⟩ l.length cap (l.flatMap encI) (by rw [flatI_len,hz1,Nat.mul_one]) holds ad n c (news.flatMap encI) hfl hcells (by omega) (by omega) (growslice_fits (by omega) (by rw [hz2];omega))
    exact ⟨_,_,hr,fresh cap (by omega),(hex _).mono fun k hk=>hk.1,(hex _).mono fun k (hk:k<base)=>by show k<w.heap.size;omega,.inr rfl⟩
end
def GrpM (P:Program) (k e:TypeId) (base:Nat) (w:World) (b n:Nat) (f:Int→Value) (J:Int→List Int):Prop :=
 RawM P k w b n f∧b<base∧base≤w.heap.size∧(∀ v,OwnL 1 encI e base w (f v) (J v))∧∀ v v' g,v≠v'→(f v).ownBlock=some g→¬ (f v').ownBlock=some g
section
variable {P:Program} {k e:TypeId} {base:Nat} {w w':World} {b n:Nat} {f:Int→Value} {J:Int→List Int}
theorem GrpM.made (w:World) (P:Program) (k e:TypeId):GrpM P k e (w.heap.size+1) (w.alloc (.map #[] 0)) w.heap.size 0 (fun _=>nilS) (fun _=>[]) :=
 ⟨RawM.made w P k,by omega,by simp,fun _=>OwnL.nil _ _ _ _ _,fun _ _ _ _ h=>by cases h⟩
theorem GrpM.nx (h:GrpM P k e base w b n f J) (kk:Ex w w'):GrpM P k e base w' b n f J :=
 ⟨h.1.nx kk,h.2.1,Nat.le_trans h.2.2.1 kk.size,fun v=>(h.2.2.2.1 v).nx kk,h.2.2.2.2⟩
theorem GrpM.nxb {c:Nat} (h:GrpM P k e base w b n f J) (hc:c<base) (hb:b≠c) (kk:Exb c w w'):GrpM P k e base w' b n f J :=
 ⟨h.1.nxb hb kk,h.2.1,Nat.le_trans h.2.2.1 kk.size,fun v=>(h.2.2.2.1 v).nxb hc kk,h.2.2.2.2⟩
theorem GrpM.row (h:GrpM P k e base w b n f J) (v:Int):OwnL 1 encI e base w (f v) (J v):=h.2.2.2.1 v
end
def grp1 (J:Int→List Int) (x y:Int):Int→List Int:=fun v=>if v=x then J x++[y] else J v
section
variable {P:Program} {k e:TypeId} {base:Nat} {w w':World} {b n:Nat} {f:Int→Value} {J:Int→List Int}
theorem GrpM.one (h:GrpM P k e base w b n f J) {x y:Int} {w1 w3:World} {a':Value} {n':Nat}
  (A:OwnL 1 encI e base w1 a' (J x++[y])) (k1:Chg (fun k=>k<w.heap.size∧¬ (f x).ownBlock=some k) w w1) (la:∀ g,a'.ownBlock=some g→(f x).ownBlock=some g∨w.heap.size≤g)
  (k3:Exb b w1 w3) (R:RawM P k w3 b n' (upd f x a')):GrpM P k e base w3 b n' (upd f x a') (grp1 J x y):=by
 obtain ⟨h1,hb,hs,hO,hd⟩:=h
 have s1:=k1.size
 have s3:=k3.size
 refine ⟨R,hb,by omega,fun v=>?_,fun v v' g hne hv hv'=>?_⟩
 ·unfold upd grp1
  by_cases hvx:v=x
  ·rw [if_pos hvx,if_pos hvx]
   exact A.nxb hb k3
  ·rw [if_neg hvx,if_neg hvx]
   have O1:OwnL 1 encI e base w1 (f v) (J v):=(hO v).chg k1 fun g hg hv=>⟨hg,hd v x g hvx hv⟩
   exact O1.nxb hb k3
 ·unfold upd at hv hv'
  have ov:∀ u g,u≠x→(f u).ownBlock=some g→¬ a'.ownBlock=some g:=by
   intro u g hux hu ha
   rcases la g ha with h2 | h2
   ·exact hd u x g hux hu h2
   ·have:=((hO u).lt g hu).2;omega
  by_cases hvx:v=x
  ·rw [if_pos hvx] at hv
   rw [if_neg (by omega)] at hv'
   exact ov v' g (by omega) hv' hv
  ·rw [if_neg hvx] at hv
   by_cases hvx':v'=x
   ·rw [if_pos hvx'] at hv';exact ov v g hvx hv hv'
   ·rw [if_neg hvx'] at hv';exact hd v v' g hne hv hv'
end
end Go.Proofs.YthcholmhmcpooaaGreatDoor
