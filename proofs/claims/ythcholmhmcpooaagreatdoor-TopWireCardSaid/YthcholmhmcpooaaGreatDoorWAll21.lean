/- Shared texts. -/
import Derived.Shelf.Spec.SlicesInsertGrow
import Derived.Lib.SliceRun
import Derived.Test.YthcholmhmcpooaaGreatDoorWAll3
import Derived.Test.YthcholmhmcpooaaGreatDoorWAll5
set_option linter.unusedSimpArgs false
set_option linter.unusedVariables false

namespace Go.Proofs.YthcholmhmcpooaaGreatDoor
open Go.RowKit Go.Shelf
def renI:Ren where
 f:=fun x=>match x with | 21=>224 | 27=>235 | 28=>236 | 35=>240 | 39=>241 | _=>x
 t:=fun x=>match x with | 0=>0 | 3=>3 | 4=>4 | 22=>22 | _=>x
 g:=fun x=>x
theorem Tryz.lays21:Lays2.n21 Tryz.prog renI where
 mixed:=by kernel_rfl
 f21:=by kernel_rfl
 f27:=by kernel_rfl
 f28:=by kernel_rfl
 f35:=by kernel_rfl
 f39:=by kernel_rfl
 t0:=by kernel_rfl
 a0:=fun w=>by kernel_rfl
 z0:=fun w=>by kernel_rfl
 v0:=fun w=>by kernel_rfl
 t3:=by kernel_rfl
 a3:=fun w=>by kernel_rfl
 z3:=fun w=>by kernel_rfl
 v3:=fun w=>by kernel_rfl
 t4:=by kernel_rfl
 a4:=fun w=>by kernel_rfl
 z4:=fun w=>by kernel_rfl
 v4:=fun w=>by kernel_rfl
 t22:=by kernel_rfl
 a22:=fun w=>by kernel_rfl
 z22:=fun w=>by kernel_rfl
 v22:=fun w=>by kernel_rfl
 i3:=by kernel_rfl
def arrSet:Array Value→Nat→List Value→Array Value
 | a,_,[]=>a
 | a,o,v::vs=>arrSet (a.setIfInBounds o v) (o+1) vs
theorem arrSet_size:∀ (vs:List Value) (a:Array Value) (o:Nat),(arrSet a o vs).size=a.size
 | [],_,_=>rfl
 | v::vs,a,o=>by
  show (arrSet (a.setIfInBounds o v) (o+1) vs).size=a.size
  rw [arrSet_size vs];simp
theorem arrSet_list:∀ (vs:List Value) (a:Array Value) (o:Nat),o+vs.length≤a.size→(arrSet a o vs).toList=a.toList.take o++vs++a.toList.drop (o+vs.length)
 | [],a,o,_=>by simp [arrSet]
 | v::vs,a,o,h=>by
  show (arrSet (a.setIfInBounds o v) (o+1) vs).toList=_
  simp only [List.length_cons] at h
  rw [arrSet_list vs _ _ (by simp;omega),Array.toList_setIfInBounds,List.take_set,List.drop_set_of_lt (by omega),List.take_succ_eq_append_getElem (by simp;omega),
   List.set_append_right _ _ (by simp;omega)]
  have:(a.toList.take o).length=o:=by simp;omega
  rw [this,Nat.sub_self,List.set_cons_zero,List.length_cons,show o+1+vs.length=o+(vs.length+1) by omega]
  simp
theorem heap_setCells {g:Nat} {ty:TypeId}:∀ (vs:List Value) (w:World) (cur:Array Value) (o:Nat),w.heap[g]?=some (.cells cur ty (0,0))→(w.setCells g o vs).heap[g]?=some (.cells (arrSet cur o vs) ty (0,0))
 | [],_,_,_,h=>h
 | v::vs,w,cur,o,h=>heap_setCells vs (w.setCell ⟨g,o,none⟩ v) (cur.setIfInBounds o v) (o+1) (heap_set h o v)
theorem chg_setCells {g base:Nat} (hb:base≤g):∀ (vs:List Value) (w w0:World) (o:Nat),Chg (· < base) w0 w→Chg (· < base) w0 (w.setCells g o vs)
 | [],_,_,_,h=>h
 | v::vs,w,w0,o,h=>chg_setCells hb vs _ w0 (o+1) (h.setCell (p:=⟨g,o,none⟩) v (fun k hk=>by show k≠g;omega))
def valsI (l:List Int):List Value:=l.map fun x=>Value.int .i64 x
theorem vals_flat (l:List Int):l.flatMap encI=valsI l:=by
 induction l with
 | nil=>rfl
 | cons x l ih=>rw [List.flatMap_cons,ih];rfl
theorem vals_len (l:List Int):(valsI l).length=l.length:=by unfold valsI;simp
theorem vals_one (l:List Int):∀ v∈valsI l,v.oneCell'=true:=by
 intro v hv
 obtain ⟨x,_,rfl⟩:=List.mem_map.1 hv
 rfl
theorem own_vals {e base g cap:Nat} {w:World} {cur:Array Value} {L:List Int} {n:Nat} (hn:L.length=n) (hb:base≤g) (hg:w.heap[g]?=some (.cells cur e (0,0))) (h1:n≤cap) (h2:cap≤maxLen) (h3:cur.size=cap) (h4:cur.toList.take n=valsI L) :
  OwnL 1 encI e base w (.slice (some ⟨g,0,none⟩) n cap) L:=by
 subst hn
 refine ⟨by rw [vals_flat,vals_len];omega,.inr ⟨g,cap,cur,rfl,hb,hg,h1,h2,by omega,?_⟩⟩
 rw [Nat.mul_one,vals_flat]
 exact h4
def insZ (l:List Int) (i:Nat) (v:Int):List Int:=l.take i++v::l.drop i
theorem ins_vals (l:List Int) (i:Nat) (v:Int):valsI (insZ l i v)=(valsI l).take i++[Value.int .i64 v]++(valsI l).drop i:=by
 unfold insZ valsI
 simp [List.map_take,List.map_drop]
theorem ins_len (l:List Int) (i:Nat) (v:Int) (hi:i≤l.length):(insZ l i v).length=l.length+1:=by
 unfold insZ
 simp
 omega
theorem zero_size (k:Nat):(Builtin.zeroCells (Value.int .i64 0).cells k).size=k:=by simp [Builtin.zeroCells,Value.cells]
def InsPost (l:List Int) (i:Nat) (u:Int) (base:Nat) (w:World) (e:Ending) (w':World):Prop:=∃ v',e=.returned v'∧OwnL 1 encI 3 base w' v' (insZ l i u)∧Chg (· < base) w w'
set_option maxRecDepth 100000 in
set_option maxHeartbeats 2000000 in
theorem insert_i (v:Value) (l:List Int) (base:Nat) (i:Nat) (u:Int) (g:Nat) (w:World) (own:OwnL 1 encI 3 base w v l) (hb:base≤w.heap.size) (hl:l.length≤1000000) (hi:i≤l.length) (B:Blk w g [.int .i64 u] 3) (hne:¬ v.ownBlock=some g) :
  Calls Tryz.prog 224 #[v,.int .i64 i,.slice (some ⟨g,0,none⟩) 1 1] w (InsPost l i u base w):=by
 have hvs:∀ (j:Nat) (x:Value),([Value.int .i64 u]:List Value)[j]?=some x→w.cell? ⟨g,0+j,none⟩=some x:=fun j x hj=>by rw [Nat.zero_add];exact B.cell j x hj
 have h1v:∀ x∈([Value.int .i64 u]:List Value),x.oneCell'=true:=by intro x hx;rw [List.mem_singleton.1 hx];rfl
 have hgl:=B.lt
 rcases own.2 with ⟨rfl,hn⟩ | ⟨g0,cap,cur,rfl,hb0,hg,h1,h2,h3,h4⟩
 ·have hl0:l=[]:=List.eq_nil_of_length_eq_zero hn
  subst hl0
  obtain rfl:i=0:=by simpa using hi
  have H:=Any2.slices_Insert_int_end_grow Tryz.lays21 none 0 0 g 0 1 1 [] [.int .i64 u] w (by omega) (by omega) (by omega) (by omega) rfl rfl (fun _=>rfl) (fun a ha=>by cases ha) hvs h1v
  refine Calls.mono H ?_
  rintro e w' ⟨rfl,rfl⟩
  refine ⟨_,rfl,?_,(Chg.refl _ w).drew.alloc _ (fun k (hk:k<base)=>by show k<w.heap.size;omega)⟩
  refine own_vals (cur:=_) rfl hb (heap_new w _) (grownCap_ge _ _ _ _) (grownCap_le_maxLen _ _ _ _ (by unfold maxLen;omega)) ?_ ?_
  ·have:=grownCap_ge w 1 0 (renI.t 3)
   simp [zero_size]
   omega
  ·simp [insZ,valsI]
 ·rw [Nat.mul_one,vals_flat] at h4
  have hcl:=vals_len l
  have hcs:∀ (j:Nat) (x:Value),(valsI l)[j]?=some x→w.cell? ⟨g0,0+j,none⟩=some x:=fun j x hj=>by
   rw [Nat.zero_add,World.cell?,hg]
   rw [← h4,List.getElem?_take] at hj
   split at hj
   ·simpa using hj
   ·cases hj
  have hne0:¬ g=g0:=fun h=>hne (by rw [h];rfl)
  have hfz:∀ j,w.frozen? ⟨g0,j,none⟩=false:=fun j=>by simp [World.frozen?,hg]
  have hsp:∀ j,j<cap→(w.cell? ⟨g0,j,none⟩).isSome=true:=fun j hj=>by
   have:j<cur.size:=by omega
   simp [World.cell?,hg,this]
  have hm63:cap≤9223372036854775807:=by unfold maxLen at h2;omega
  rcases Nat.lt_or_ge l.length cap with hroom | hfull
  ·rcases Nat.lt_or_ge i l.length with hlt | hge
   ·have H:=Any2.slices_Insert_int_shift Tryz.lays21 g0 0 l.length cap i g 0 1 1 (valsI l) [.int .i64 u] w hlt (by omega) (by omega) hm63 hne0 hcl rfl hcs (fun j hj=>by rw [Nat.zero_add];exact hsp j (by omega)) (fun j _=>by rw [Nat.zero_add];exact hfz j) hvs (vals_one l) h1v
     3 3 1 cap (by have:=B;unfold Blk at this;simp [World.shape?,this]) (by simp [World.shape?,hg];omega) (by omega) (B.free 0) (B.free 1)
    refine Calls.mono H ?_
    rintro e w' ⟨rfl,rfl⟩
    simp only [Nat.zero_add]
    have hd:(valsI l).drop i=(valsI l).drop i:=rfl
    have hh:=heap_setCells [.int .i64 u] _ _ i (heap_setCells ((valsI l).drop i) w.drew cur (i+1) hg)
    refine ⟨_,rfl,own_vals (ins_len l i u hi) hb0 hh (by omega) h2 (by rw [arrSet_size,arrSet_size];omega) ?_,chg_setCells hb0 _ _ _ _ (chg_setCells hb0 _ _ _ _ ((Chg.refl _ w).drew))⟩
    have hdl:((valsI l).drop i).length=l.length-i:=by rw [List.length_drop,hcl]
    rw [arrSet_list _ _ _ (by rw [arrSet_size];simp;omega),arrSet_list _ _ _ (by rw [hdl];omega),ins_vals]
    have e1:(cur.toList.take i)=(valsI l).take i:=by rw [← h4,List.take_take,Nat.min_eq_left (by omega)]
    have e2:(cur.toList.take (i+1)).length=i+1:=by simp;omega
    have r1:(cur.toList.take (i+1)++(valsI l).drop i++cur.toList.drop (i+1+((valsI l).drop i).length)).take i=(valsI l).take i:=by
     rw [List.append_assoc,List.take_append_of_le_length (by omega),List.take_take,Nat.min_eq_left (by omega),e1]
    have r2:(cur.toList.take (i+1)++(valsI l).drop i++cur.toList.drop (i+1+((valsI l).drop i).length)).drop (i+[Value.int .i64 u].length)=(valsI l).drop i++cur.toList.drop (i+1+((valsI l).drop i).length):=by
     rw [List.length_singleton,List.append_assoc,List.drop_append_of_le_length (by omega),List.drop_of_length_le (by omega),List.nil_append]
    rw [r1,r2,← List.append_assoc,List.take_append_of_le_length (by rw [List.length_append,List.length_append,hdl,List.length_take,hcl,List.length_singleton];omega),List.take_of_length_le (by rw [List.length_append,List.length_append,hdl,List.length_take,hcl,List.length_singleton];omega)]
   ·obtain rfl:i=l.length:=by omega
    have H:=Any2.slices_Insert_int_end_room Tryz.lays21 g0 0 l.length cap g 0 1 1 [.int .i64 u] w (by omega) (by omega) hm63 rfl (fun j hj=>hsp _ (by omega)) (fun j _=>hfz _) hvs h1v
    refine Calls.mono H ?_
    rintro e w' ⟨rfl,rfl⟩
    simp only [Nat.zero_add]
    have hh:=heap_setCells [.int .i64 u] w cur l.length hg
    refine ⟨_,rfl,own_vals (ins_len l _ u (Nat.le_refl _)) hb0 hh (by omega) h2 (by rw [arrSet_size];omega) ?_,chg_setCells hb0 _ _ _ _ (Chg.refl _ w)⟩
    rw [arrSet_list _ _ _ (by simp;omega),ins_vals,h4,List.take_of_length_le (l:=valsI l) (by omega),List.drop_of_length_le (l:=valsI l) (by omega),List.append_nil]
    rw [List.take_append_of_le_length (by simp [hcl]),List.take_of_length_le (by simp [hcl])]
  ·have hcap:cap=l.length:=by omega
   rcases Nat.lt_or_ge i l.length with hlt | hge
   ·have H:=Any2.slices_Insert_int_grow Tryz.lays21 g0 0 l.length cap i g 0 1 1 (valsI l) [.int .i64 u] w hlt (by omega) h1 (by omega) (by omega) hcl rfl hcs hvs (vals_one l) h1v
    refine Calls.mono H ?_
    rintro e w' ⟨rfl,rfl⟩
    obtain ⟨G,hG⟩:∃ G,G=grownCap w (l.length+1) cap (renI.t 3):=⟨_,rfl⟩
    have hG1:=grownCap_ge w (l.length+1) cap (renI.t 3)
    have hG2:=grownCap_le_maxLen w (l.length+1) cap (renI.t 3) (by unfold maxLen;omega)
    rw [← hG] at hG1 hG2 ⊢
    obtain ⟨row,hrow⟩:∃ row:Array Value,row=((valsI l).take i).toArray++Builtin.zeroCells (Value.int .i64 0).cells (l.length+1-i)++Builtin.zeroCells (Value.int .i64 0).cells (G-(l.length+1)):=⟨_,rfl⟩
    have hrs:row.size=G:=by rw [hrow];simp [zero_size,hcl];omega
    have hrt:row.toList.take i=(valsI l).take i:=by
     have h9:row.toList=(valsI l).take i++((Builtin.zeroCells (Value.int .i64 0).cells (l.length+1-i)).toList++(Builtin.zeroCells (Value.int .i64 0).cells (G-(l.length+1))).toList):=by rw [hrow];simp
     have h8:((valsI l).take i).length=i:=by rw [List.length_take,hcl];omega
     rw [h9,List.take_append_of_le_length (by omega),List.take_of_length_le (by omega)]
    rw [← hrow]
    have hw1:(w.alloc (.cells row (renI.t 3))).drew.heap[w.heap.size]?=some (.cells row 3 (0,0)):=heap_new w _
    have hh1:=heap_setCells [.int .i64 u] _ row i hw1
    have hh:=heap_setCells ((valsI l).drop i) ((w.alloc (.cells row (renI.t 3))).drew.setCells w.heap.size i [.int .i64 u]).drew _ (i+1) hh1
    refine ⟨_,rfl,own_vals (cur:=_) (ins_len l i u hi) hb hh hG1 hG2 (by rw [arrSet_size,arrSet_size];exact hrs) ?_,chg_setCells hb _ _ _ _ (Chg.drew (chg_setCells hb _ _ _ _ (((Chg.refl _ w).alloc _ (fun k (hk:k<base)=>by show k<w.heap.size;omega)).drew)))⟩
    have hdl:((valsI l).drop i).length=l.length-i:=by rw [List.length_drop,hcl]
    rw [arrSet_list _ _ _ (by rw [arrSet_size,hdl];omega),arrSet_list _ _ _ (by simp;omega),ins_vals]
    have e2:(row.toList.take i++[Value.int .i64 u]).length=i+1:=by simp [hrs];omega
    have r1:(row.toList.take i++[Value.int .i64 u]++row.toList.drop (i+[Value.int .i64 u].length)).take (i+1)=(valsI l).take i++[Value.int .i64 u]:=by
     rw [List.take_append_of_le_length (by omega),List.take_of_length_le (by omega),hrt]
    rw [r1,List.take_append_of_le_length (by rw [List.length_append,List.length_append,hdl,List.length_take,hcl,List.length_singleton];omega),List.take_of_length_le (by rw [List.length_append,List.length_append,hdl,List.length_take,hcl,List.length_singleton];omega)]
   ·obtain rfl:i=l.length:=by omega
    have H:=Any2.slices_Insert_int_end_grow Tryz.lays21 (some ⟨g0,0,none⟩) l.length cap g 0 1 1 (valsI l) [.int .i64 u] w (by omega) h1 (by omega) (by omega) hcl rfl (fun h=>by cases h) (fun a ha=>by cases ha;intro j x hj;rw [Addr.add_lit];exact hcs j x hj) hvs h1v
    refine Calls.mono H ?_
    rintro e w' ⟨rfl,rfl⟩
    refine ⟨_,rfl,?_,(Chg.refl _ w).drew.alloc _ (fun k (hk:k<base)=>by show k<w.heap.size;omega)⟩
    have hG1:=grownCap_ge w (l.length+1) cap (renI.t 3)
    refine own_vals (cur:=_) (ins_len l _ u (Nat.le_refl _)) hb (heap_new w _) hG1 (grownCap_le_maxLen _ _ _ _ (by unfold maxLen;omega)) ?_ ?_
    ·simp [zero_size,hcl]
     omega
    ·rw [ins_vals,List.take_of_length_le (l:=valsI l) (by omega),List.drop_of_length_le (l:=valsI l) (by omega),List.append_nil]
     simp only [Array.toList_append]
     rw [List.take_append_of_le_length (by simp [hcl]),List.take_of_length_le (by simp [hcl])]
def PredZ (g:Nat) (lb:Array Value) (p:Int→Bool) (w:World):Prop:=∀ (x:Int) (w':World),Ex w w'→Calls Tryz.prog g (#[.int .i64 x]++lb) w' fun e w''=>e=.returned (.bool (p x))∧Ex w' w''
def idxZ (p:Int→Bool) (l:List Int):Int:=if l.findIdx p<l.length then (l.findIdx p:Int) else -1
theorem idxZ_of {p:Int→Bool} {l:List Int} {k:Nat} {y:Int} (hy:l[k]?=some y) (hp:p y=true) (hno:∀ j z,j<k→l[j]?=some z→p z=false):idxZ p l=k:=by
 have hk:=(List.getElem?_eq_some_iff.1 hy)
 have hk1:=hk.1
 have:l.findIdx p=k:=by
  rw [List.findIdx_eq hk.1]
  refine ⟨by rw [hk.2];exact hp,fun j hj=>?_⟩
  exact hno j _ hj (List.getElem?_eq_getElem (by omega))
 unfold idxZ
 rw [this,if_pos hk.1]
theorem idxZ_none {p:Int→Bool} {l:List Int} (hno:∀ j z,j<l.length→l[j]?=some z→p z=false):idxZ p l = -1:=by
 unfold idxZ
 rw [if_neg]
 rw [List.findIdx_lt_length]
 rintro ⟨x,hx,hp⟩
 obtain ⟨j,hj⟩:=List.mem_iff_getElem?.1 hx
 rw [hno j x (List.getElem?_eq_some_iff.1 hj).1 hj] at hp
 cases hp
theorem idxZ_cases (p:Int→Bool) (l:List Int):(∃ k:Nat,idxZ p l=k∧l.findIdx p=k∧k<l.length)∨(idxZ p l = -1∧l.findIdx p=l.length):=by
 unfold idxZ
 by_cases h:l.findIdx p<l.length
 ·exact .inl ⟨_,by rw [if_pos h],rfl,h⟩
 ·exact .inr ⟨by rw [if_neg h],by have:=List.findIdx_le_length (p:=p) (xs:=l);omega⟩
def IzRel (p:Int→Bool) (l:List Int) (n:Nat) (w:World) (i:Value) (wr:World):Prop :=
 ∃ k:Nat,k≤n∧i=.int .i64 k∧Ex w wr∧∀ j z,j<k→l[j]?=some z→p z=false
set_option maxRecDepth 100000 in
set_option maxHeartbeats 2000000 in
theorem idxf_z (g:Nat) (lb:Array Value) (p:Int→Bool) (eg:∀ args w,(callFunc g args).run Tryz.prog w=.ok (.enter g args) w) (a:Option Addr) (n c:Nat) (l:List Int) (w:World) (h:Sl 1 encI w a n l) (hn:n≤1000000) (hp:PredZ g lb p w) :
  Calls Tryz.prog 222 #[.slice a n c,.func (.func g) #[] lb] w fun e w'=>e=.returned (.int .i64 (idxZ p l))∧Ex w w':=by
 have HL:=lH h.len
 have HP:=lH hp
 have hs:=lH h
 clear h hp
 go_enter Tryz.func222,Tryz.ntmps222
 go_wp2
 go_loopw [8] (fun i wr=>IzRel p l n w i wr) (fun i _=>n-(intOf i).toNat)
 case atStart=>exact ⟨0,by omega,rfl,Ex.refl _,by intro j z h;omega⟩
 case round =>
  obtain ⟨k,hk,rfl,kw,hno⟩:=hrel
  have HNO:=lH hno
  clear hno
  obtain ⟨wo,rfl⟩:∃ wo:World,wo=wr:=⟨_,rfl⟩
  by_cases hlt:k<n
  ·obtain ⟨x1,o1,y,rfl,hx1,hy,hc1⟩:=(hs.out.nx kw).at hlt
   have e0:wo.cell? ⟨x1,o1+k,none⟩=some (.int .i64 y):=by simpa using hc1 0 _ rfl
   have HY:=lH hy
   have hc:=HP.out y wo kw
   have KW:=lH kw
   clear hc1 hy kw
   go_wp2_with fail
   refine hc.mono ?_
   rintro e w2 ⟨rfl,k2⟩
   have K2:=lH (KW.out.nx k2)
   clear hc k2 e0
   cases hb:p y with
   | true =>
    have HI:Hid (idxZ p l=k):=lH (idxZ_of HY.out hb HNO.out)
    clear hb
    go_wp2_with fail
    go_ret
    exact ⟨by rw [HI.out];rfl,K2.out⟩
   | false =>
    have HB:=lH hb
    clear hb
    go_wp2_with fail
    refine ⟨⟨k+1,by omega,by go_num,K2.out,fun j z hj hz=>?_⟩,by simp [intOf];omega⟩
    rcases Nat.lt_or_ge j k with h | h
    ·exact HNO.out j z h hz
    ·obtain rfl:j=k:=by omega
     rw [Option.some.inj (hz.symm.trans HY.out)]
     exact HB.out
  ·obtain rfl:k=n:=by omega
   have HI:Hid (idxZ p l = -1):=lH (idxZ_none (fun j z hj hz=>HNO.out j z (by rw [← HL.out];exact hj) hz))
   have KW:=lH kw
   clear kw hk hlt
   go_wp2_with fail
   go_ret
   exact ⟨by rw [HI.out];rfl,KW.out⟩
set_option maxHeartbeats 1000000 in
theorem index_e (a:Option Addr) (n c:Nat) (l:List Int) (v:Int) (w:World) (h:Sl 1 encI w a n l) (hn:n≤4000000000000000000) :
  Calls Tryz.prog 173 #[.slice a n c,.int .i64 v] w fun e w'=>e=.returned (.int .i64 (idxZ (fun x=>v==x) l))∧Ex w w':=by
 have HL:=lH h.len
 have hs:=lH h
 clear h
 go_enter Tryz.func173,Tryz.ntmps173
 go_wp2
 go_loopw [8] (fun i wr=>IzRel (fun x=>v==x) l n w i wr) (fun i _=>n-(intOf i).toNat)
 case atStart=>exact ⟨0,by omega,rfl,Ex.refl _,by intro j z h;omega⟩
 case round =>
  obtain ⟨k,hk,rfl,kw,hno⟩:=hrel
  have HNO:=lH hno
  clear hno
  obtain ⟨wo,rfl⟩:∃ wo:World,wo=wr:=⟨_,rfl⟩
  by_cases hlt:k<n
  ·obtain ⟨x1,o1,y,rfl,hx1,hy,hc1⟩:=(hs.out.nx kw).at hlt
   have e0:wo.cell? ⟨x1,o1+k,none⟩=some (.int .i64 y):=by simpa using hc1 0 _ rfl
   have HY:=lH hy
   have KW:=lH kw
   clear hc1 hy kw
   cases hb:(v==y) with
   | true =>
    have HI:Hid (idxZ (fun x=>v==x) l=k):=lH (idxZ_of HY.out hb HNO.out)
    go_wp2_with fail
    go_ret
    exact ⟨by rw [HI.out];rfl,KW.out⟩
   | false =>
    have HB:=lH hb
    go_wp2_with fail
    refine ⟨⟨k+1,by omega,by go_num,KW.out,fun j z hj hz=>?_⟩,by simp [intOf];omega⟩
    rcases Nat.lt_or_ge j k with h | h
    ·exact HNO.out j z h hz
    ·obtain rfl:j=k:=by omega
     rw [Option.some.inj (hz.symm.trans HY.out)]
     exact HB.out
  ·obtain rfl:k=n:=by omega
   have HI:Hid (idxZ (fun x=>v==x) l = -1):=lH (idxZ_none (fun j z hj hz=>HNO.out j z (by rw [← HL.out];exact hj) hz))
   have KW:=lH kw
   clear kw hk hlt
   go_wp2_with fail
   go_ret
   exact ⟨by rw [HI.out];rfl,KW.out⟩
end Go.Proofs.YthcholmhmcpooaaGreatDoor
