/- Texts for TopBalanceProof. -/
import Derived.Test.YthcholmhmcpooaaGreatDoorTopBalanceProofL17
set_option linter.unusedSimpArgs false
set_option linter.unusedVariables false

namespace Go.Proofs.YthcholmhmcpooaaGreatDoor
open Go.RowKit
section
variable {N:List Nd}
def rRoundN (N:List Nd) (P:List Pr) (h:Int):List Pr:=if lvlN h=true then ((roundN N P).zip (bRoundN N P h)).map fun q=>{ q.1 with near:=q.2.near } else []
def rRunsN (N:List Nd) (P:List Pr) (h:Int):Nat→List Pr
 | 0=>P
 | t+1=>rRoundN N (rRunsN N P h t) h
end
end Go.Proofs.YthcholmhmcpooaaGreatDoor
namespace Go.Proofs.YthcholmhmcpooaaGreatDoor
open Go.RowKit Go.Shelf
def renI:Ren where
 f:=fun x=>match x with | 21=>224 | 27=>235 | 28=>236 | 35=>240 | 39=>241 | _=>x
 t:=fun x=>match x with | 0=>0 | 3=>3 | 4=>4 | 22=>22 | _=>x
 g:=fun x=>x
theorem Tryz.lays21:Lays2.n21 Tryz.prog renI where
 mixed:=by kernel_rfl
 f21:=by kernel_rfl
 f27:=by kernel_rfl
 f28:=by kernel_rfl
 f35:=by kernel_rfl
 f39:=by kernel_rfl
 t0:=by kernel_rfl
 a0:=fun w=>by kernel_rfl
 z0:=fun w=>by kernel_rfl
 v0:=fun w=>by kernel_rfl
 t3:=by kernel_rfl
 a3:=fun w=>by kernel_rfl
 z3:=fun w=>by kernel_rfl
 v3:=fun w=>by kernel_rfl
 t4:=by kernel_rfl
 a4:=fun w=>by kernel_rfl
 z4:=fun w=>by kernel_rfl
 v4:=fun w=>by kernel_rfl
 t22:=by kernel_rfl
 a22:=fun w=>by kernel_rfl
 z22:=fun w=>by kernel_rfl
 v22:=fun w=>by kernel_rfl
 i3:=by kernel_rfl
def arrSet:Array Value→Nat→List Value→Array Value
 | a,_,[]=>a
 | a,o,v::vs=>arrSet (a.setIfInBounds o v) (o+1) vs
theorem arrSet_size:∀ (vs:List Value) (a:Array Value) (o:Nat),(arrSet a o vs).size=a.size
 | [],_,_=>rfl
 | v::vs,a,o=>by
  show (arrSet (a.setIfInBounds o v) (o+1) vs).size=a.size
  rw [arrSet_size vs];simp
theorem arrSet_list:∀ (vs:List Value) (a:Array Value) (o:Nat),o+vs.length≤a.size→(arrSet a o vs).toList=a.toList.take o++vs++a.toList.drop (o+vs.length)
 | [],a,o,_=>by simp [arrSet]
 | v::vs,a,o,h=>by
  show (arrSet (a.setIfInBounds o v) (o+1) vs).toList=_
  simp only [List.length_cons] at h
  rw [arrSet_list vs _ _ (by simp;omega),Array.toList_setIfInBounds,List.take_set,List.drop_set_of_lt (by omega),List.take_succ_eq_append_getElem (by simp;omega),
   List.set_append_right _ _ (by simp;omega)]
  have:(a.toList.take o).length=o:=by simp;omega
  rw [this,Nat.sub_self,List.set_cons_zero,List.length_cons,show o+1+vs.length=o+(vs.length+1) by omega]
  simp
theorem heap_setCells {g:Nat} {ty:TypeId}:∀ (vs:List Value) (w:World) (cur:Array Value) (o:Nat),w.heap[g]?=some (.cells cur ty (0,0))→(w.setCells g o vs).heap[g]?=some (.cells (arrSet cur o vs) ty (0,0))
 | [],_,_,_,h=>h
 | v::vs,w,cur,o,h=>heap_setCells vs (w.setCell ⟨g,o,none⟩ v) (cur.setIfInBounds o v) (o+1) (heap_set h o v)
theorem chg_setCells {g base:Nat} (hb:base≤g):∀ (vs:List Value) (w w0:World) (o:Nat),Chg (· < base) w0 w→Chg (· < base) w0 (w.setCells g o vs)
 | [],_,_,_,h=>h
 | v::vs,w,w0,o,h=>chg_setCells hb vs _ w0 (o+1) (h.setCell (p:=⟨g,o,none⟩) v (fun k hk=>by show k≠g;omega))
def valsI (l:List Int):List Value:=l.map fun x=>Value.int .i64 x
theorem vals_flat (l:List Int):l.flatMap encI=valsI l:=by
 induction l with
 | nil=>rfl
 | cons x l ih=>rw [List.flatMap_cons,ih];rfl
theorem vals_len (l:List Int):(valsI l).length=l.length:=by unfold valsI;simp
theorem vals_one (l:List Int):∀ v∈valsI l,v.oneCell'=true:=by
 intro v hv
 obtain ⟨x,_,rfl⟩:=List.mem_map.1 hv
 rfl
theorem own_vals {e base g cap:Nat} {w:World} {cur:Array Value} {L:List Int} {n:Nat} (hn:L.length=n) (hb:base≤g) (hg:w.heap[g]?=some (.cells cur e (0,0))) (h1:n≤cap) (h2:cap≤maxLen) (h3:cur.size=cap) (h4:cur.toList.take n=valsI L) :
  OwnL 1 encI e base w (.slice (some ⟨g,0,none⟩) n cap) L:=by
 subst hn
 refine ⟨by rw [vals_flat,vals_len];omega,.inr ⟨g,cap,cur,rfl,hb,hg,h1,h2,by omega,?_⟩⟩
 rw [Nat.mul_one,vals_flat]
 exact h4
def insZ (l:List Int) (i:Nat) (v:Int):List Int:=l.take i++v::l.drop i
theorem ins_vals (l:List Int) (i:Nat) (v:Int):valsI (insZ l i v)=(valsI l).take i++[Value.int .i64 v]++(valsI l).drop i:=by
 unfold insZ valsI
 simp [List.map_take,List.map_drop]
theorem ins_len (l:List Int) (i:Nat) (v:Int) (hi:i≤l.length):(insZ l i v).length=l.length+1:=by
 unfold insZ
 simp
 omega
theorem zero_size (k:Nat):(Builtin.zeroCells (Value.int .i64 0).cells k).size=k:=by simp [Builtin.zeroCells,Value.cells]
def InsPost (l:List Int) (i:Nat) (u:Int) (base:Nat) (w:World) (e:Ending) (w':World):Prop:=∃ v',e=.returned v'∧OwnL 1 encI 3 base w' v' (insZ l i u)∧Chg (· < base) w w'
set_option maxRecDepth 100000 in
set_option maxHeartbeats 2000000 in
theorem insert_i (v:Value) (l:List Int) (base:Nat) (i:Nat) (u:Int) (g:Nat) (w:World) (own:OwnL 1 encI 3 base w v l) (hb:base≤w.heap.size) (hl:l.length≤1000000) (hi:i≤l.length) (B:Blk w g [.int .i64 u] 3) (hne:¬ v.ownBlock=some g) :
  Calls Tryz.prog 224 #[v,.int .i64 i,.slice (some ⟨g,0,none⟩) 1 1] w (InsPost l i u base w):=by
 have hvs:∀ (j:Nat) (x:Value),([Value.int .i64 u]:List Value)[j]?=some x→w.cell? ⟨g,0+j,none⟩=some x:=fun j x hj=>by rw [Nat.zero_add];exact B.cell j x hj
 have h1v:∀ x∈([Value.int .i64 u]:List Value),x.oneCell'=true:=by intro x hx;rw [List.mem_singleton.1 hx];rfl
 have hgl:=B.lt
 rcases own.2 with ⟨rfl,hn⟩ | ⟨g0,cap,cur,rfl,hb0,hg,h1,h2,h3,h4⟩
 ·have hl0:l=[]:=List.eq_nil_of_length_eq_zero hn
  subst hl0
  obtain rfl:i=0:=by simpa using hi
  have H:=Any2.slices_Insert_int_end_grow Tryz.lays21 none 0 0 g 0 1 1 [] [.int .i64 u] w (by omega) (by omega) (by omega) (by omega) rfl rfl (fun _=>rfl) (fun a ha=>by cases ha) hvs h1v
  refine Calls.mono H ?_
  rintro e w' ⟨rfl,rfl⟩
  refine ⟨_,rfl,?_,(Chg.refl _ w).drew.alloc _ (fun k (hk:k<base)=>by show k<w.heap.size;omega)⟩
  refine own_vals (cur:=_) rfl hb (heap_new w _) (grownCap_ge _ _ _ _) (grownCap_le_maxLen _ _ _ _ (by unfold maxLen;omega)) ?_ ?_
  ·have:=grownCap_ge w 1 0 (renI.t 3)
   simp [zero_size]
   omega
  ·simp [insZ,valsI]
 ·rw [Nat.mul_one,vals_flat] at h4
  have hcl:=vals_len l
  have hcs:∀ (j:Nat) (x:Value),(valsI l)[j]?=some x→w.cell? ⟨g0,0+j,none⟩=some x:=fun j x hj=>by
   rw [Nat.zero_add,World.cell?,hg]
   rw [← h4,List.getElem?_take] at hj
   split at hj
   ·simpa using hj
   ·cases hj
  have hne0:¬ g=g0:=fun h=>hne (by rw [h];rfl)
  have hfz:∀ j,w.frozen? ⟨g0,j,none⟩=false:=fun j=>by simp [World.frozen?,hg]
  have hsp:∀ j,j<cap→(w.cell? ⟨g0,j,none⟩).isSome=true:=fun j hj=>by
   have:j<cur.size:=by omega
   simp [World.cell?,hg,this]
  have hm63:cap≤9223372036854775807:=by unfold maxLen at h2;omega
  rcases Nat.lt_or_ge l.length cap with hroom | hfull
  ·rcases Nat.lt_or_ge i l.length with hlt | hge
   ·have H:=Any2.slices_Insert_int_shift Tryz.lays21 g0 0 l.length cap i g 0 1 1 (valsI l) [.int .i64 u] w hlt (by omega) (by omega) hm63 hne0 hcl rfl hcs (fun j hj=>by rw [Nat.zero_add];exact hsp j (by omega)) (fun j _=>by rw [Nat.zero_add];exact hfz j) hvs (vals_one l) h1v
     3 3 1 cap (by have:=B;unfold Blk at this;simp [World.shape?,this]) (by simp [World.shape?,hg];omega) (by omega) (B.free 0) (B.free 1)
    refine Calls.mono H ?_
    rintro e w' ⟨rfl,rfl⟩
    simp only [Nat.zero_add]
    have hd:(valsI l).drop i=(valsI l).drop i:=rfl
    have hh:=heap_setCells [.int .i64 u] _ _ i (heap_setCells ((valsI l).drop i) w.drew cur (i+1) hg)
    refine ⟨_,rfl,own_vals (ins_len l i u hi) hb0 hh (by omega) h2 (by rw [arrSet_size,arrSet_size];omega) ?_,chg_setCells hb0 _ _ _ _ (chg_setCells hb0 _ _ _ _ ((Chg.refl _ w).drew))⟩
    have hdl:((valsI l).drop i).length=l.length-i:=by rw [List.length_drop,hcl]
    rw [arrSet_list _ _ _ (by rw [arrSet_size];simp;omega),arrSet_list _ _ _ (by rw [hdl];omega),ins_vals]
    have e1:(cur.toList.take i)=(valsI l).take i:=by rw [← h4,List.take_take,Nat.min_eq_left (by omega)]
    have e2:(cur.toList.take (i+1)).length=i+1:=by simp;omega
    have r1:(cur.toList.take (i+1)++(valsI l).drop i++cur.toList.drop (i+1+((valsI l).drop i).length)).take i=(valsI l).take i:=by
     rw [List.append_assoc,List.take_append_of_le_length (by omega),List.take_take,Nat.min_eq_left (by omega),e1]
    have r2:(cur.toList.take (i+1)++(valsI l).drop i++cur.toList.drop (i+1+((valsI l).drop i).length)).drop (i+[Value.int .i64 u].length)=(valsI l).drop i++cur.toList.drop (i+1+((valsI l).drop i).length):=by
     rw [List.length_singleton,List.append_assoc,List.drop_append_of_le_length (by omega),List.drop_of_length_le (by omega),List.nil_append]
    rw [r1,r2,← List.append_assoc,List.take_append_of_le_length (by rw [List.length_append,List.length_append,hdl,List.length_take,hcl,List.length_singleton];omega),List.take_of_length_le (by rw [List.length_append,List.length_append,hdl,List.length_take,hcl,List.length_singleton];omega)]
   ·obtain rfl:i=l.length:=by omega
    have H:=Any2.slices_Insert_int_end_room Tryz.lays21 g0 0 l.length cap g 0 1 1 [.int .i64 u] w (by omega) (by omega) hm63 rfl (fun j hj=>hsp _ (by omega)) (fun j _=>hfz _) hvs h1v
    refine Calls.mono H ?_
    rintro e w' ⟨rfl,rfl⟩
    simp only [Nat.zero_add]
    have hh:=heap_setCells [.int .i64 u] w cur l.length hg
    refine ⟨_,rfl,own_vals (ins_len l _ u (Nat.le_refl _)) hb0 hh (by omega) h2 (by rw [arrSet_size];omega) ?_,chg_setCells hb0 _ _ _ _ (Chg.refl _ w)⟩
    rw [arrSet_list _ _ _ (by simp;omega),ins_vals,h4,List.take_of_length_le (l:=valsI l) (by omega),List.drop_of_length_le (l:=valsI l) (by omega),List.append_nil]
    rw [List.take_append_of_le_length (by simp [hcl]),List.take_of_length_le (by simp [hcl])]
  ·have hcap:cap=l.length:=by omega
   rcases Nat.lt_or_ge i l.length with hlt | hge
   ·have H:=Any2.slices_Insert_int_grow Tryz.lays21 g0 0 l.length cap i g 0 1 1 (valsI l) [.int .i64 u] w hlt (by omega) h1 (by omega) (by omega) hcl rfl hcs hvs (vals_one l) h1v
    refine Calls.mono H ?_
    rintro e w' ⟨rfl,rfl⟩
    obtain ⟨G,hG⟩:∃ G,G=grownCap w (l.length+1) cap (renI.t 3):=⟨_,rfl⟩
    have hG1:=grownCap_ge w (l.length+1) cap (renI.t 3)
    have hG2:=grownCap_le_maxLen w (l.length+1) cap (renI.t 3) (by unfold maxLen;omega)
    rw [← hG] at hG1 hG2 ⊢
    obtain ⟨row,hrow⟩:∃ row:Array Value,row=((valsI l).take i).toArray++Builtin.zeroCells (Value.int .i64 0).cells (l.length+1-i)++Builtin.zeroCells (Value.int .i64 0).cells (G-(l.length+1)):=⟨_,rfl⟩
    have hrs:row.size=G:=by rw [hrow];simp [zero_size,hcl];omega
    have hrt:row.toList.take i=(valsI l).take i:=by
     have h9:row.toList=(valsI l).take i++((Builtin.zeroCells (Value.int .i64 0).cells (l.length+1-i)).toList++(Builtin.zeroCells (Value.int .i64 0).cells (G-(l.length+1))).toList):=by rw [hrow];simp
     have h8:((valsI l).take i).length=i:=by rw [List.length_take,hcl];omega
     rw [h9,List.take_append_of_le_length (by omega),List.take_of_length_le (by omega)]
    rw [← hrow]
    have hw1:(w.alloc (.cells row (renI.t 3))).drew.heap[w.heap.size]?=some (.cells row 3 (0,0)):=heap_new w _
    have hh1:=heap_setCells [.int .i64 u] _ row i hw1
    have hh:=heap_setCells ((valsI l).drop i) ((w.alloc (.cells row (renI.t 3))).drew.setCells w.heap.size i [.int .i64 u]).drew _ (i+1) hh1
    refine ⟨_,rfl,own_vals (cur:=_) (ins_len l i u hi) hb hh hG1 hG2 (by rw [arrSet_size,arrSet_size];exact hrs) ?_,chg_setCells hb _ _ _ _ (Chg.drew (chg_setCells hb _ _ _ _ (((Chg.refl _ w).alloc _ (fun k (hk:k<base)=>by show k<w.heap.size;omega)).drew)))⟩
    have hdl:((valsI l).drop i).length=l.length-i:=by rw [List.length_drop,hcl]
    rw [arrSet_list _ _ _ (by rw [arrSet_size,hdl];omega),arrSet_list _ _ _ (by simp;omega),ins_vals]
    have e2:(row.toList.take i++[Value.int .i64 u]).length=i+1:=by simp [hrs];omega
    have r1:(row.toList.take i++[Value.int .i64 u]++row.toList.drop (i+[Value.int .i64 u].length)).take (i+1)=(valsI l).take i++[Value.int .i64 u]:=by
     rw [List.take_append_of_le_length (by omega),List.take_of_length_le (by omega),hrt]
    rw [r1,List.take_append_of_le_length (by rw [List.length_append,List.length_append,hdl,List.length_take,hcl,List.length_singleton];omega),List.take_of_length_le (by rw [List.length_append,List.length_append,hdl,List.length_take,hcl,List.length_singleton];omega)]
   ·obtain rfl:i=l.length:=by omega
    have H:=Any2.slices_Insert_int_end_grow Tryz.lays21 (some ⟨g0,0,none⟩) l.length cap g 0 1 1 (valsI l) [.int .i64 u] w (by omega) h1 (by omega) (by omega) hcl rfl (fun h=>by cases h) (fun a ha=>by cases ha;intro j x hj;rw [Addr.add_lit];exact hcs j x hj) hvs h1v
    refine Calls.mono H ?_
    rintro e w' ⟨rfl,rfl⟩
    refine ⟨_,rfl,?_,(Chg.refl _ w).drew.alloc _ (fun k (hk:k<base)=>by show k<w.heap.size;omega)⟩
    have hG1:=grownCap_ge w (l.length+1) cap (renI.t 3)
    refine own_vals (cur:=_) (ins_len l _ u (Nat.le_refl _)) hb (heap_new w _) hG1 (grownCap_le_maxLen _ _ _ _ (by unfold maxLen;omega)) ?_ ?_
    ·simp [zero_size,hcl]
     omega
    ·rw [ins_vals,List.take_of_length_le (l:=valsI l) (by omega),List.drop_of_length_le (l:=valsI l) (by omega),List.append_nil]
     simp only [Array.toList_append]
     rw [List.take_append_of_le_length (by simp [hcl]),List.take_of_length_le (by simp [hcl])]
def PredZ (g:Nat) (lb:Array Value) (p:Int→Bool) (w:World):Prop:=∀ (x:Int) (w':World),Ex w w'→Calls Tryz.prog g (#[.int .i64 x]++lb) w' fun e w''=>e=.returned (.bool (p x))∧Ex w' w''
def idxZ (p:Int→Bool) (l:List Int):Int:=if l.findIdx p<l.length then (l.findIdx p:Int) else -1
theorem idxZ_of {p:Int→Bool} {l:List Int} {k:Nat} {y:Int} (hy:l[k]?=some y) (hp:p y=true) (hno:∀ j z,j<k→l[j]?=some z→p z=false):idxZ p l=k:=by
 have hk:=(List.getElem?_eq_some_iff.1 hy)
 have hk1:=hk.1
 have:l.findIdx p=k:=by
  rw [List.findIdx_eq hk.1]
  refine ⟨by rw [hk.2];exact hp,fun j hj=>?_⟩
  exact hno j _ hj (List.getElem?_eq_getElem (by omega))
 unfold idxZ
 rw [this,if_pos hk.1]
theorem idxZ_none {p:Int→Bool} {l:List Int} (hno:∀ j z,j<l.length→l[j]?=some z→p z=false):idxZ p l = -1:=by
 unfold idxZ
 rw [if_neg]
 rw [List.findIdx_lt_length]
 rintro ⟨x,hx,hp⟩
 obtain ⟨j,hj⟩:=List.mem_iff_getElem?.1 hx
 rw [hno j x (List.getElem?_eq_some_iff.1 hj).1 hj] at hp
 cases hp
theorem idxZ_cases (p:Int→Bool) (l:List Int):(∃ k:Nat,idxZ p l=k∧l.findIdx p=k∧k<l.length)∨(idxZ p l = -1∧l.findIdx p=l.length):=by
 unfold idxZ
 by_cases h:l.findIdx p<l.length
 ·exact .inl ⟨_,by rw [if_pos h],rfl,h⟩
 ·exact .inr ⟨by rw [if_neg h],by have:=List.findIdx_le_length (p:=p) (xs:=l);omega⟩
def IzRel (p:Int→Bool) (l:List Int) (n:Nat) (w:World) (i:Value) (wr:World):Prop :=
 ∃ k:Nat,k≤n∧i=.int .i64 k∧Ex w wr∧∀ j z,j<k→l[j]?=some z→p z=false
set_option maxRecDepth 100000 in
set_option maxHeartbeats 2000000 in
theorem idxf_z (g:Nat) (lb:Array Value) (p:Int→Bool) (eg:∀ args w,(callFunc g args).run Tryz.prog w=.ok (.enter g args) w) (a:Option Addr) (n c:Nat) (l:List Int) (w:World) (h:Sl 1 encI w a n l) (hn:n≤1000000) (hp:PredZ g lb p w) :
  Calls Tryz.prog 222 #[.slice a n c,.func (.func g) #[] lb] w fun e w'=>e=.returned (.int .i64 (idxZ p l))∧Ex w w':=by
 have HL:=lH h.len
 have HP:=lH hp
 have hs:=lH h
 clear h hp
 go_enter Tryz.func222,Tryz.ntmps222
 go_wp2
 go_loopw [8] (fun i wr=>IzRel p l n w i wr) (fun i _=>n-(intOf i).toNat)
 case atStart=>exact ⟨0,by omega,rfl,Ex.refl _,by intro j z h;omega⟩
 case round =>
  obtain ⟨k,hk,rfl,kw,hno⟩:=hrel
  have HNO:=lH hno
  clear hno
  obtain ⟨wo,rfl⟩:∃ wo:World,wo=wr:=⟨_,rfl⟩
  by_cases hlt:k<n
  ·obtain ⟨x1,o1,y,rfl,hx1,hy,hc1⟩:=(hs.out.nx kw).at hlt
   have e0:wo.cell? ⟨x1,o1+k,none⟩=some (.int .i64 y):=by simpa using hc1 0 _ rfl
   have HY:=lH hy
   have hc:=HP.out y wo kw
   have KW:=lH kw
   clear hc1 hy kw
   go_wp2_with fail
   refine hc.mono ?_
   rintro e w2 ⟨rfl,k2⟩
   have K2:=lH (KW.out.nx k2)
   clear hc k2 e0
   cases hb:p y with
   | true =>
    have HI:Hid (idxZ p l=k):=lH (idxZ_of HY.out hb HNO.out)
    clear hb
    go_wp2_with fail
    go_ret
    exact ⟨by rw [HI.out];rfl,K2.out⟩
   | false =>
    have HB:=lH hb
    clear hb
    go_wp2_with fail
    refine ⟨⟨k+1,by omega,by go_num,K2.out,fun j z hj hz=>?_⟩,by simp [intOf];omega⟩
    rcases Nat.lt_or_ge j k with h | h
    ·exact HNO.out j z h hz
    ·obtain rfl:j=k:=by omega
     rw [Option.some.inj (hz.symm.trans HY.out)]
     exact HB.out
  ·obtain rfl:k=n:=by omega
   have HI:Hid (idxZ p l = -1):=lH (idxZ_none (fun j z hj hz=>HNO.out j z (by rw [← HL.out];exact hj) hz))
   have KW:=lH kw
   clear kw hk hlt
   go_wp2_with fail
   go_ret
   exact ⟨by rw [HI.out];rfl,KW.out⟩
set_option maxHeartbeats 1000000 in
theorem index_e (a:Option Addr) (n c:Nat) (l:List Int) (v:Int) (w:World) (h:Sl 1 encI w a n l) (hn:n≤4000000000000000000) :
  Calls Tryz.prog 173 #[.slice a n c,.int .i64 v] w fun e w'=>e=.returned (.int .i64 (idxZ (fun x=>v==x) l))∧Ex w w':=by
 have HL:=lH h.len
 have hs:=lH h
 clear h
 go_enter Tryz.func173,Tryz.ntmps173
 go_wp2
 go_loopw [8] (fun i wr=>IzRel (fun x=>v==x) l n w i wr) (fun i _=>n-(intOf i).toNat)
 case atStart=>exact ⟨0,by omega,rfl,Ex.refl _,by intro j z h;omega⟩
 case round =>
  obtain ⟨k,hk,rfl,kw,hno⟩:=hrel
  have HNO:=lH hno
  clear hno
  obtain ⟨wo,rfl⟩:∃ wo:World,wo=wr:=⟨_,rfl⟩
  by_cases hlt:k<n
  ·obtain ⟨x1,o1,y,rfl,hx1,hy,hc1⟩:=(hs.out.nx kw).at hlt
   have e0:wo.cell? ⟨x1,o1+k,none⟩=some (.int .i64 y):=by simpa using hc1 0 _ rfl
   have HY:=lH hy
   have KW:=lH kw
   clear hc1 hy kw
   cases hb:(v==y) with
   | true =>
    have HI:Hid (idxZ (fun x=>v==x) l=k):=lH (idxZ_of HY.out hb HNO.out)
    go_wp2_with fail
    go_ret
    exact ⟨by rw [HI.out];rfl,KW.out⟩
   | false =>
    have HB:=lH hb
    go_wp2_with fail
    refine ⟨⟨k+1,by omega,by go_num,KW.out,fun j z hj hz=>?_⟩,by simp [intOf];omega⟩
    rcases Nat.lt_or_ge j k with h | h
    ·exact HNO.out j z h hz
    ·obtain rfl:j=k:=by omega
     rw [Option.some.inj (hz.symm.trans HY.out)]
     exact HB.out
  ·obtain rfl:k=n:=by omega
   have HI:Hid (idxZ (fun x=>v==x) l = -1):=lH (idxZ_none (fun j z hj hz=>HNO.out j z (by rw [← HL.out];exact hj) hz))
   have KW:=lH kw
   clear kw hk hlt
   go_wp2_with fail
   go_ret
   exact ⟨by rw [HI.out];rfl,KW.out⟩
end Go.Proofs.YthcholmhmcpooaaGreatDoor
namespace Go.Proofs.YthcholmhmcpooaaGreatDoor
open Go.RowKit Go.Shelf
theorem run_copy_cells2 {P:Program} (w:World) (dT sT ty elem:TypeId) (b o dLen dCap:Nat) (a:Addr) (sLen sCap:Nat) (cs:List Value)
  (hu:P.underlying dT=some (.slice elem)) (hs:(P.info? elem).map (·.size)=some 2) (k:Nat) (hk:k=Nat.min sLen dLen) (hn:cs.length=k*2)
  (hsrc:∀ j v,cs[j]?=some v→w.cell? (a.add j)=some v) (hc:∀ j,j<cs.length→(w.cell? ⟨b,o+j,none⟩).isSome=true) (hf:∀ j,j<cs.length→w.frozen? ⟨b,o+j,none⟩=false) (h1:∀ v∈cs,v.oneCell'=true) :
  (Builtin.copy_ #[dT,sT] ty #[.slice (some ⟨b,o,none⟩) dLen dCap,.slice (some a) sLen sCap]).run P w=.ok (goInt k) (w.setCells b o cs):=by
 have hl:=run_loadCells_list (P:=P) w a cs hsrc
 have hst:=run_storeCells_cells (P:=P) b o cs 0 w (by simpa using hc) (by simpa using hf) h1
 cases hq:P.info? elem with
 | none=>simp [hq] at hs
 | some i =>
  have hi:i.size=2:=by simpa [hq] using hs
  rw [hn] at hl
  simp [Builtin.copy_,run_underlying hu,Builtin.lenOf,Builtin.firstCells,sizeOf,typeInfo,hq,hi,← hk,hl,hst]
def InwPost (qs:List (Int×Hdr)) (i:Nat) (q:Int×Hdr) (v:Value) (base:Nat) (w:World) (e:Ending) (w':World):Prop :=
 ∃ v',e=.returned v'∧OwnW 2 (encP encI) 121 base w' v' (qs.take i++q::qs.drop i)∧Chg (fun x=>x<w.heap.size∧¬ v.ownBlock=some x) w w'
theorem enc2 (y:Int×Hdr):(encP encI y).length=2:=rfl
theorem enc2_one (y:Int×Hdr):∀ u∈encP encI y,u.oneCell'=true:=by simp [encP,encI,Hdr.val,Value.oneCell']
theorem chg_cells {g:Nat} {S:Nat→Prop} {w0:World} (hS:∀ x,S x→x≠g):∀ (vs:List Value) (w:World) (j:Nat),Chg S w0 w→Chg S w0 (w.setCells g j vs)
 | [],_,_,h=>h
 | v::vs,w,j,h=>chg_cells hS vs _ (j+1) (h.setCell (p:=⟨g,j,none⟩) v (fun k hk=>hS k hk))
theorem ins_cells {qs:List (Int×Hdr)} {q:Int×Hdr} {i:Nat} {cur:Array Value} {a:Array Value} (hi:i≤qs.length) (ha:a.toList.take (i*2)=(qs.take i).flatMap (encP encI)) (hs:(qs.length+1)*2≤a.size) :
  (arrSet (arrSet a ((i+1)*2) ((qs.drop i).flatMap (encP encI))) (i*2) (encP encI q)).toList.take ((qs.length+1)*2)=(qs.take i++q::qs.drop i).flatMap (encP encI) ∧
  (arrSet (arrSet a (i*2) (encP encI q)) ((i+1)*2) ((qs.drop i).flatMap (encP encI))).toList.take ((qs.length+1)*2)=(qs.take i++q::qs.drop i).flatMap (encP encI):=by
 have hd:((qs.drop i).flatMap (encP encI)).length=(qs.length-i)*2:=by rw [flatW_len enc2,List.length_drop]
 have hq:(encP encI q).length=2:=rfl
 have hal:a.toList.length=a.size:=Array.length_toList
 have hlt:(a.toList.take (i*2)).length=i*2:=by rw [List.length_take];omega
 have e:(qs.take i++q::qs.drop i).flatMap (encP encI)=a.toList.take (i*2)++(encP encI q++(qs.drop i).flatMap (encP encI)):=by
  rw [ha,List.flatMap_append,List.flatMap_cons]
 have tot:(a.toList.take (i*2)++(encP encI q++(qs.drop i).flatMap (encP encI))).length=(qs.length+1)*2:=by
  rw [List.length_append,List.length_append,hlt,hd,hq];omega
 rw [e]
 constructor
 ·rw [arrSet_list _ _ _ (by rw [arrSet_size,hq];omega),arrSet_list _ _ _ (by rw [hd];omega)]
  have l1:(a.toList.take ((i+1)*2)).length=(i+1)*2:=by rw [List.length_take];omega
  have r1:(a.toList.take ((i+1)*2)++(qs.drop i).flatMap (encP encI)++a.toList.drop ((i+1)*2+((qs.drop i).flatMap (encP encI)).length)).take (i*2)=a.toList.take (i*2):=by
   rw [List.append_assoc,List.take_append_of_le_length (by omega),List.take_take,Nat.min_eq_left (by omega)]
  have r2:(a.toList.take ((i+1)*2)++(qs.drop i).flatMap (encP encI)++a.toList.drop ((i+1)*2+((qs.drop i).flatMap (encP encI)).length)).drop (i*2+(encP encI q).length)=(qs.drop i).flatMap (encP encI)++a.toList.drop ((i+1)*2+((qs.drop i).flatMap (encP encI)).length):=by
   rw [List.append_assoc,List.drop_append_of_le_length (by omega),List.drop_of_length_le (by omega),List.nil_append]
  rw [r1,r2,List.append_assoc,← List.append_assoc (encP encI q),← List.append_assoc]
  rw [← tot,List.take_left']
  rfl
 ·rw [arrSet_list _ _ _ (by rw [arrSet_size,hd];omega),arrSet_list _ _ _ (by rw [hq];omega)]
  have r1:(a.toList.take (i*2)++encP encI q++a.toList.drop (i*2+(encP encI q).length)).take ((i+1)*2)=a.toList.take (i*2)++encP encI q:=by
   have:(a.toList.take (i*2)++encP encI q).length=(i+1)*2:=by rw [List.length_append,hlt,hq];omega
   rw [← this,List.take_left']
   rfl
  rw [r1,List.append_assoc (a.toList.take (i*2)),← tot,List.take_left']
  rfl
theorem own_row {qs:List (Int×Hdr)} {base g cap:Nat} {w:World} {cur:Array Value} {n:Nat} (hn:qs.length=n) (hb:base≤g) (hg:w.heap[g]?=some (.cells cur 121 (0,0))) (h1:n≤cap) (h2:cap≤maxLen) (h3:cap*2≤cur.size)
  (h4:cur.toList.take (n*2)=qs.flatMap (encP encI)):OwnW 2 (encP encI) 121 base w (.slice (some ⟨g,0,none⟩) n cap) qs:=by
 subst hn
 exact .inr ⟨g,cap,cur,rfl,hb,hg,h1,h2,h3,h4⟩
theorem ins_length {qs:List (Int×Hdr)} {q:Int×Hdr} {i:Nat} (hi:i≤qs.length):(qs.take i++q::qs.drop i).length=qs.length+1:=by
 rw [List.length_append,List.length_take,List.length_cons,List.length_drop];omega
theorem Tryz.sizeLd (w:World):(sizeOf 121).run Tryz.prog w=.ok 2 w:=by kernel_rfl
theorem Tryz.szLd:(Tryz.prog.info? 121).map (·.size)=some 2:=by kernel_rfl
set_option maxRecDepth 100000 in
set_option maxHeartbeats 4000000 in
theorem insert_lk (v:Value) (qs:List (Int×Hdr)) (base i:Nat) (q:Int×Hdr) (g:Nat) (w:World) (own:OwnW 2 (encP encI) 121 base w v qs) (hb:base≤w.heap.size) (hl:qs.length≤1000) (hi:i≤qs.length)
  (B:Blk w g [.int .i64 q.1,q.2.val] 121) (hne:¬ v.ownBlock=some g) :
  Calls Tryz.prog 125 #[v,.int .i64 i,.slice (some ⟨g,0,none⟩) 1 1] w (InwPost qs i q v base w):=by
 have hgl:=B.lt
 have SQ:Sl 2 (encP encI) w (some ⟨g,0,none⟩) 1 [q]:=⟨rfl,.inr ⟨g,0,rfl,hgl,fun j y hj k u hk=>by
  obtain rfl:j=0:=by have:=(List.getElem?_eq_some_iff.1 hj).1;simpa using this
  cases hj
  have:=B.cell k u hk
  simpa using this⟩⟩
 by_cases hin:i=qs.length
 ·subst hin
  have EQ:Hid (qs.take qs.length++q::qs.drop qs.length=qs++[q]):=lH (by rw [List.take_length,List.drop_length])
  have OW:=lH own
  have HSQ:=lH SQ
  rcases own with ⟨rfl,rfl⟩ | ⟨g0,cap,cur,rfl,hb0,hg,h1,h2,h3,h4⟩
  ·clear B SQ hne
   go_enter Tryz.func125,Tryz.ntmps125
   go_wp2_with (at_builtin;(refine wpList_append_W (enc:=encP encI) _ rfl _ _ 28 rfl base 121 (.agg #[.int .i64 0,.slice none 0 0]) 2 32 Tryz.underlying28 Tryz.infoLd rfl (by omega) (by omega) _ [] OW.out rfl ⟨g,0,none⟩ 1 1 [q] HSQ.out enc2 enc2_one rfl (by simp) (by omega) hb ?_);intro v' w' own' ch0 ch1 _)
   go_ret
   exact ⟨_,rfl,by simpa using own',ch0⟩
  ·have hm63:cap≤9223372036854775807:=by unfold maxLen at h2;omega
   clear B SQ hne h3 h4 hg hb0
   go_enter Tryz.func125,Tryz.ntmps125
   go_wp2_with (at_builtin;(refine wpList_append_W (enc:=encP encI) _ rfl _ _ 28 rfl base 121 (.agg #[.int .i64 0,.slice none 0 0]) 2 32 Tryz.underlying28 Tryz.infoLd rfl (by omega) (by omega) _ qs OW.out rfl ⟨g,0,none⟩ 1 1 [q] HSQ.out enc2 enc2_one rfl (by omega) (by omega) hb ?_);intro v' w' own' ch0 ch1 _)
   all_goals (go_ret;exact ⟨_,rfl,by rw [EQ.out];exact own',ch0⟩)
 ·have hlt:i<qs.length:=by omega
  rcases own with ⟨_,rfl⟩ | ⟨g0,cap,cur,rfl,hb0,hg,h1,h2,h3,h4⟩
  ·exact absurd hlt (by simp)
  obtain ⟨n,hnq⟩:∃ n,n=qs.length:=⟨_,rfl⟩
  have HNQ:=lH hnq
  have INS:=lH (fun (a:Array Value) ha hs=>ins_cells (qs:=qs) (q:=q) (i:=i) (cur:=cur) (a:=a) hi ha hs)
  have ILEN:=lH (ins_length (q:=q) hi)
  have hfl:(qs.flatMap (encP encI)).length=n*2:=by rw [flatW_len enc2,hnq]
  have hdf:(qs.drop i).flatMap (encP encI)=(qs.flatMap (encP encI)).drop (i*2):=flatN_drop enc2 qs i
  have htf:(qs.take i).flatMap (encP encI)=(qs.flatMap (encP encI)).take (i*2):=flatN_take enc2 qs i
  rw [← hnq] at h1 h4 hlt hl hi hin ILEN INS ⊢
  have hm63:cap≤9223372036854775807:=by unfold maxLen at h2;omega
  have hne0:g≠g0:=fun h=>hne (by rw [h];rfl)
  have hcs:∀ (j:Nat) (x:Value),(qs.flatMap (encP encI))[j]?=some x→w.cell? ⟨g0,j,none⟩=some x:=fun j x hj=>by
   rw [World.cell?,hg]
   rw [← h4,List.getElem?_take] at hj
   split at hj
   ·simpa using hj
   ·cases hj
  have hfz:∀ j,w.frozen? ⟨g0,j,none⟩=false:=fun j=>by simp [World.frozen?,hg]
  have hsp:∀ j,j<cap*2→(w.cell? ⟨g0,j,none⟩).isSome=true:=fun j hj=>by
   have:j<cur.size:=by omega
   simp [World.cell?,hg,this]
  have hvs:∀ (j:Nat) (x:Value),(encP encI q)[j]?=some x→w.cell? ⟨g,j,none⟩=some x:=fun j x hj=>B.cell j x hj
  obtain ⟨dr,hdr⟩:∃ dr,dr=(qs.drop i).flatMap (encP encI):=⟨_,rfl⟩
  have hdl:dr.length=(n-i)*2:=by rw [hdr,flatW_len enc2,List.length_drop,hnq]
  have h1d:∀ x∈dr,x.oneCell'=true:=fun x hx=>by
   rw [hdr] at hx
   obtain ⟨y,_,hy⟩:=List.mem_flatMap.1 hx
   exact enc2_one y x hy
  have hds:∀ (j:Nat) (x:Value),dr[j]?=some x→w.cell? ⟨g0,i*2+j,none⟩=some x:=fun j x hj=>by
   rw [hdr,hdf,List.getElem?_drop] at hj
   exact hcs _ x hj
  have hz2:¬ ((i:Int)=(n:Int)):=by omega
  have hii:(i:Int)≤(n:Int):=by omega
  have hwi:IntKind.i64.wrap ((i:Int)+1)=(i:Int)+1:=IntWalk.i64_in _ (by omega)
  have hwn:IntKind.i64.wrap ((n:Int)+1)=(n:Int)+1:=IntWalk.i64_in _ (by omega)
  have hb1:(0:Int)≤(i:Int)+1:=by omega
  have htn:((i:Int)+1).toNat=i+1:=by omega
  have htn2:((n:Int)+1).toNat=n+1:=by omega
  have hb3:(i:Int)≤(n:Int)+1:=by omega
  have hb3b:(i:Int)+1≤(n:Int)+1:=by omega
  have hb4:¬ (cap=i):=by omega
  rw [← hdr] at INS
  have mixed:Tryz.prog.follows .mixedOrders=true:=by kernel_rfl
  by_cases hroom:n+1≤cap
  ·have hrI:¬ (n:Int)+1>(cap:Int):=by omega
   have hb2:¬ (cap=i+1):=by omega
   have hsa:w.shape? g=some (121,2):=by have:=B;unfold Blk at this;simp [World.shape?,this]
   have hsb:w.shape? g0=some (121,cur.size):=by simp [World.shape?,hg]
   have hov:∀ lb cb,(callFunc 182 #[.slice (some ⟨g,0,none⟩) 1 1,.slice (some ⟨g0,(i+1)*2,none⟩) lb cb]).run Tryz.prog w=.ok (.value (.bool false)) w:=fun lb cb=>by
    rw [run_callFunc_extern Tryz.func182 (by kernel_rfl) (by kernel_rfl) (by kernel_rfl) (e:=Extern.SlicesOverlaps.overlaps #[28,28] #[4]) (by kernel_rfl),
     Lib.run_overlaps_apart w 28 4 121 Tryz.underlying28 2 Tryz.sizeLd ⟨g,0,none⟩ ⟨g0,(i+1)*2,none⟩ 1 1 lb cb hne0 121 121 2 cur.size hsa hsb (by omega) (B.free 0) (B.free 2)]
    rfl
   have hcp1:∀ ty dc sc,(Builtin.copy_ #[28,28] ty #[.slice (some ⟨g0,(i+1)*2,none⟩) (n-i) dc,.slice (some ⟨g0,i*2,none⟩) (n+1-i) sc]).run Tryz.prog w.drew=.ok (goInt (n-i:Nat)) (w.drew.setCells g0 ((i+1)*2) dr):=fun ty dc sc =>
    run_copy_cells2 w.drew _ _ ty 121 g0 ((i+1)*2) (n-i) dc ⟨g0,i*2,none⟩ (n+1-i) sc dr Tryz.underlying28 Tryz.szLd (n-i) (by simp only [Nat.min_def];split<;>omega) hdl
     (fun j x hj=>by rw [Addr.add_lit];exact hds j x hj) (fun j hj=>hsp _ (by omega)) (fun j hj=>hfz _) h1d
   obtain ⟨W1,hW1⟩:∃ W1,W1=w.drew.setCells g0 ((i+1)*2) dr:=⟨_,rfl⟩
   have hsp1:∀ k,k<(n+1)*2→(W1.cell? ⟨g0,k,none⟩).isSome=true:=fun k hk=>by
    rw [hW1]
    exact isSome_setCells g0 dr ((i+1)*2) w.drew (fun j hj=>hsp _ (by omega)) _ (hsp k (by omega))
   have hcp2:∀ (W:World),(∀ x,W.cell? x=W1.cell? x)→(∀ x,W.frozen? x=W1.frozen? x)→∀ ty dc,(Builtin.copy_ #[28,28] ty #[.slice (some ⟨g0,i*2,none⟩) (n+1-i) dc,.slice (some ⟨g,0,none⟩) 1 1]).run Tryz.prog W=.ok (goInt (1:Nat)) (W.setCells g0 (i*2) (encP encI q)):=fun W hWc hWf ty dc =>
    run_copy_cells2 W _ _ ty 121 g0 (i*2) (n+1-i) dc ⟨g,0,none⟩ 1 1 (encP encI q) Tryz.underlying28 Tryz.szLd 1 (by simp only [Nat.min_def];split<;>omega) rfl
     (fun j x hj=>by
      rw [Addr.add_lit,hWc,hW1,World.cell?_setCells_out g0 _ _ _ _ (fun h _=>absurd h hne0),Nat.zero_add]
      exact hvs j x hj)
     (fun j hj=>by rw [hWc];exact hsp1 _ (by have:(encP encI q).length=2:=rfl;omega)) (fun j hj=>by rw [hWf,hW1,World.frozen?_setCells];exact hfz _) (enc2_one q)
   have FIN:=lH (show InwPost qs i q (.slice (some ⟨g0,0,none⟩) n cap) base w (.returned (.slice (some ⟨g0,0,none⟩) (n+1) cap)) (W1.setCells g0 (i*2) (encP encI q)) from by
    rw [hW1]
    have hh:=heap_setCells (encP encI q) _ _ (i*2) (heap_setCells dr w.drew cur ((i+1)*2) hg)
    refine ⟨_,rfl,own_row (by rw [ILEN.out]) hb0 hh (by omega) h2 (by rw [arrSet_size,arrSet_size];exact h3) (INS.out cur (by rw [htf,← h4,List.take_take,Nat.min_eq_left (by omega)]) (by omega)).1,?_⟩
    have hS:∀ x,(x<w.heap.size∧¬ (Value.slice (some ⟨g0,0,none⟩) n cap).ownBlock=some x)→x≠g0:=fun x hx he=>hx.2 (by rw [he];rfl)
    exact chg_cells hS _ _ _ (chg_cells hS _ _ _ (Chg.refl _ w).drew))
   rw [← hW1] at hcp1
   clear hcs hds hvs hsp hfz hsp1 B SQ hne hg h3 h4 hfl hdf htf hdl h1d hdr hsa hsb INS ILEN hnq hW1
   go_enter Tryz.func125,Tryz.ntmps125
   go_wp2_with (simp only [hov])
   go_region_law_o (refine step_copy_runI rfl _ _ 28 28 rfl _ _ (by simp [Act.eval,Act.put]) (by simp [Act.eval,Act.put]) (hcp1 _ _ _) ?_)
   go_wp2_with (at_builtin;refine wpList_copy_runI _ rfl _ _ 28 28 rfl _ _ rfl rfl (hcp2 _ (fun _=>rfl) (fun _=>rfl) _ _) ?_)
   go_ret
   exact FIN.out
  ·have hcap:cap=n:=by omega
   have hrI:(n:Int)+1>(cap:Int):=by omega
   subst hcap
   have hz3:(cap:Int)<(cap:Int)+1:=by omega
   obtain ⟨i0,hi0,hz0,hzs,hzb⟩:=info_parts Tryz.infoLd
   have hbw:g0<w.heap.size:=heap_lt hg
   have hkk:(cap:Int)+1-(i:Int)=((cap+1-i:Nat):Int):=by omega
   have hwk:IntKind.i64.wrap ((cap:Int)+1-(i:Int))=(cap:Int)+1-(i:Int):=IntWalk.i64_in _ (by omega)
   have hik:i+(cap+1-i)=cap+1:=by omega
   obtain ⟨tr,htr⟩:∃ tr,tr=(qs.take i).flatMap (encP encI):=⟨_,rfl⟩
   have htl:tr.length=i*2:=by rw [htr,flatW_len enc2,List.length_take];omega
   have hold:(Builtin.firstCells i0.size i (.slice (some ⟨g0,0,none⟩) i cap)).run Tryz.prog w.drew=.ok tr.toArray w.drew:=by
    rw [hzs]
    exact run_firstCells_some w.drew 2 i ⟨g0,0,none⟩ i cap tr htl (fun j x hj=>by
     rw [Addr.add_lit,Nat.zero_add]
     rw [htr,htf,List.getElem?_take] at hj
     split at hj
     ·exact hcs j x hj
     ·cases hj)
   have hrz:∀ ty,(Builtin.append_ #[28,3] ty #[.slice (some ⟨g0,0,none⟩) i cap,.int .i64 ((cap:Int)+1-(i:Int))]).run Tryz.prog w =
     .ok (.slice (some ⟨w.heap.size,0,none⟩) (cap+1) (grownCap w (cap+1) cap 121)) (w.drew.alloc (.cells (tr.toArray++Builtin.zeroCells (Value.agg #[.int .i64 0,.slice none 0 0]).cells (cap+1-i)++Builtin.zeroCells (Value.agg #[.int .i64 0,.slice none 0 0]).cells (grownCap w (cap+1) cap 121-(cap+1))) 121)):=fun ty=>by
    have h:=Lib.run_append_grow_zeros w 28 3 ty 121 i0 _ .i64 .i64 Tryz.underlying28 Tryz.underlying3 hi0 hz0 (some ⟨g0,0,none⟩) i cap tr hold (cap+1-i) (by omega) (by omega) (by omega) (by omega) (by rw [hzb];omega) (by rw [hzb,hik];exact growslice_fits (by omega) (by omega))
    rw [hik] at h
    rw [hkk]
    exact h
   obtain ⟨G,hG⟩:∃ G,G=grownCap w (cap+1) cap 121:=⟨_,rfl⟩
   obtain ⟨ROW,hROW⟩:∃ ROW:Array Value,ROW=tr.toArray++Builtin.zeroCells (Value.agg #[.int .i64 0,.slice none 0 0]).cells (cap+1-i)++Builtin.zeroCells (Value.agg #[.int .i64 0,.slice none 0 0]).cells (G-(cap+1)):=⟨_,rfl⟩
   rw [← hG] at hrz
   rw [← hROW] at hrz
   have hGn:cap+1≤G:=by rw [hG];exact grownCap_ge w _ _ _
   have hGm:G≤maxLen:=by rw [hG];exact grownCap_le_maxLen w (cap+1) cap 121 (by unfold maxLen;omega)
   have hzc:(Value.agg #[.int .i64 0,.slice none 0 0]).cells.size=2:=rfl
   have hRs:ROW.size=G*2:=by
    rw [hROW]
    simp only [Array.size_append,List.size_toArray,size_zeroCells,hzc,htl]
    omega
   have hRt:ROW.toList.take (i*2)=(qs.take i).flatMap (encP encI):=by
    rw [← htr,hROW]
    simp only [Array.toList_append,List.append_assoc]
    rw [← htl,List.take_left']
    rfl
   obtain ⟨W1,hW1⟩:∃ W1,W1=w.drew.alloc (.cells ROW 121):=⟨_,rfl⟩
   rw [← hW1] at hrz
   have hN:∀ j,j<(cap+1)*2→(W1.cell? ⟨w.heap.size,j,none⟩).isSome=true:=fun j hj=>by
    rw [hW1,World.cell?_alloc_at (w:=w.drew) ROW _ w.heap.size j rfl,Array.getElem?_eq_getElem (by omega)];rfl
   have hNf:∀ j,W1.frozen? ⟨w.heap.size,j,none⟩=false:=fun j=>by rw [hW1];exact World.frozen?_alloc_at (w:=w.drew) ROW _ w.heap.size j rfl
   have hOb:∀ j v,w.cell? ⟨g0,j,none⟩=some v→W1.cell? ⟨g0,j,none⟩=some v:=fun j v h=>by rw [hW1,World.cell?_alloc_past (w:=w.drew) _ g0 j hbw];exact h
   have hOv:∀ j v,w.cell? ⟨g,j,none⟩=some v→W1.cell? ⟨g,j,none⟩=some v:=fun j v h=>by rw [hW1,World.cell?_alloc_past (w:=w.drew) _ g j hgl];exact h
   have hql:(encP encI q).length=2:=rfl
   have hcpA:∀ (W:World),(∀ x,W.cell? x=W1.cell? x)→(∀ x,W.frozen? x=W1.frozen? x)→∀ ty dc,(Builtin.copy_ #[28,28] ty #[.slice (some ⟨w.heap.size,i*2,none⟩) (cap+1-i) dc,.slice (some ⟨g,0,none⟩) 1 1]).run Tryz.prog W=.ok (goInt (1:Nat)) (W.setCells w.heap.size (i*2) (encP encI q)):=fun W hWc hWf ty dc =>
    run_copy_cells2 W _ _ ty 121 w.heap.size (i*2) (cap+1-i) dc ⟨g,0,none⟩ 1 1 (encP encI q) Tryz.underlying28 Tryz.szLd 1 (by simp only [Nat.min_def];split<;>omega) rfl
     (fun j x hj=>by rw [Addr.add_lit,hWc,Nat.zero_add];exact hOv _ x (hvs j x hj))
     (fun j hj=>by rw [hWc];exact hN _ (by omega)) (fun j hj=>by rw [hWf];exact hNf _) (enc2_one q)
   have hGi:¬ (G=i):=by omega
   have hGim:¬ (G=i+1):=by omega
   have hbN:g0≠w.heap.size:=by omega
   have hcpB:∀ (W:World),(∀ x,W.cell? x=(W1.setCells w.heap.size (i*2) (encP encI q)).cell? x)→(∀ x,W.frozen? x=(W1.setCells w.heap.size (i*2) (encP encI q)).frozen? x)→∀ ty dc sc,(Builtin.copy_ #[28,28] ty #[.slice (some ⟨w.heap.size,(i+1)*2,none⟩) (cap-i) dc,.slice (some ⟨g0,i*2,none⟩) (cap-i) sc]).run Tryz.prog W=.ok (goInt (cap-i:Nat)) (W.setCells w.heap.size ((i+1)*2) dr):=fun W hWc hWf ty dc sc =>
    run_copy_cells2 W _ _ ty 121 w.heap.size ((i+1)*2) (cap-i) dc ⟨g0,i*2,none⟩ (cap-i) sc dr Tryz.underlying28 Tryz.szLd (cap-i) (by simp) hdl
     (fun j x hj=>by
      rw [Addr.add_lit,hWc,World.cell?_setCells_out _ _ _ _ _ (fun h _=>absurd h hbN)]
      exact hOb _ x (hds j x hj))
     (fun j hj=>by rw [hWc];exact isSome_setCells w.heap.size (encP encI q) (i*2) W1 (fun t ht=>hN _ (by omega)) _ (hN _ (by omega)))
     (fun j hj=>by rw [hWf,World.frozen?_setCells];exact hNf _) h1d
   have FIN:=lH (fun (W:World) (hW:W=((W1.setCells w.heap.size (i*2) (encP encI q)).drew.setCells w.heap.size ((i+1)*2) dr)∨W=((w.alloc (.cells ROW 121)).drew.setCells w.heap.size (i*2) (encP encI q)).drew.setCells w.heap.size ((i+1)*2) dr) =>
    show InwPost qs i q (.slice (some ⟨g0,0,none⟩) cap cap) base w (.returned (.slice (some ⟨w.heap.size,0,none⟩) (cap+1) G)) W from by
    have hS:∀ x,(x<w.heap.size∧¬ (Value.slice (some ⟨g0,0,none⟩) cap cap).ownBlock=some x)→x≠w.heap.size:=fun x hx he=>by omega
    have hA:(arrSet (arrSet ROW (i*2) (encP encI q)) ((i+1)*2) dr).size=G*2:=by rw [arrSet_size,arrSet_size];exact hRs
    have hw1:(w.alloc (.cells ROW 121)).drew.heap[w.heap.size]?=some (.cells ROW 121 (0,0)):=heap_new w _
    rcases hW with rfl | rfl
    ·have hw1':W1.heap[w.heap.size]?=some (.cells ROW 121 (0,0)):=by rw [hW1];exact hw1
     have hh:=heap_setCells dr (W1.setCells w.heap.size (i*2) (encP encI q)).drew _ ((i+1)*2) (heap_setCells (encP encI q) _ _ (i*2) hw1')
     refine ⟨_,rfl,own_row (by rw [ILEN.out]) hb hh (by omega) hGm (by rw [hA];exact Nat.le_refl _) (INS.out ROW hRt (by omega)).2,?_⟩
     refine chg_cells hS _ _ _ (Chg.drew (chg_cells hS _ _ _ ?_))
     rw [hW1]
     exact ((Chg.refl _ w).drew).alloc _ (fun k hk=>hk.1)
    ·have hh:=heap_setCells dr ((w.alloc (.cells ROW 121)).drew.setCells w.heap.size (i*2) (encP encI q)).drew _ ((i+1)*2) (heap_setCells (encP encI q) _ _ (i*2) hw1)
     refine ⟨_,rfl,own_row (by rw [ILEN.out]) hb hh (by omega) hGm (by rw [hA];exact Nat.le_refl _) (INS.out ROW hRt (by omega)).2,?_⟩
     refine chg_cells hS _ _ _ (Chg.drew (chg_cells hS _ _ _ ?_))
     exact ((Chg.refl _ w).alloc _ (fun k hk=>hk.1)).drew)
   clear hcs hds hvs hsp hfz B SQ hne hg h3 h4 hfl hdf htf hdl h1d hdr INS ILEN hnq hkk hik hold hROW hG hRs hRt htr htl hN hNf hOb hOv
   subst hW1
   have hE1:∀ x,((w.alloc (.cells ROW 121)).drew).cell? x=(w.drew.alloc (.cells ROW 121)).cell? x:=fun x=>rfl
   have hE2:∀ x,((w.alloc (.cells ROW 121)).drew).frozen? x=(w.drew.alloc (.cells ROW 121)).frozen? x:=fun x=>rfl
   have hF1:∀ x,(((w.alloc (.cells ROW 121)).drew.setCells w.heap.size (i*2) (encP encI q)).drew).cell? x=((w.drew.alloc (.cells ROW 121)).setCells w.heap.size (i*2) (encP encI q)).cell? x:=fun x=>rfl
   have hF2:∀ x,(((w.alloc (.cells ROW 121)).drew.setCells w.heap.size (i*2) (encP encI q)).drew).frozen? x=((w.drew.alloc (.cells ROW 121)).setCells w.heap.size (i*2) (encP encI q)).frozen? x:=fun x=>rfl
   go_enter Tryz.func125,Tryz.ntmps125
   go_wp2_with (first
    | (at_builtin;refine Lib.wpList_append_run _ rfl _ _ _ _ rfl _ _ rfl rfl _ _ (hrz _) ?_)
    | (at_builtin;refine wpList_copy_runI _ rfl _ _ 28 28 rfl _ _ rfl rfl (hcpA _ hE1 hE2 _ _) ?_)
    | (at_builtin;refine wpList_copy_runI _ rfl _ _ 28 28 rfl _ _ rfl rfl (hcpB _ (fun _=>rfl) (fun _=>rfl) _ _ _) ?_))
   go_region_law_o (refine step_copy_runI rfl _ _ 28 28 rfl (.slice (some ⟨w.heap.size,(i+1)*2,none⟩) (cap-i) (G-(i+1))) (.slice (some ⟨g0,i*2,none⟩) (cap-i) (cap-i)) (by simp [Act.eval,Act.put]) (by simp [Act.eval,Act.put]) (hcpB _ hF1 hF2 3 (G-(i+1)) (cap-i)) ?_)
   go_wp2
   go_ret
   first | exact FIN.out _ (.inl rfl) | exact FIN.out _ (.inr rfl)
end Go.Proofs.YthcholmhmcpooaaGreatDoor
