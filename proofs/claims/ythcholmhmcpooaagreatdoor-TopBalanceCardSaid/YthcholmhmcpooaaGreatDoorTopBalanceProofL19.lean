/- Texts for TopBalanceProof. -/
import Derived.Test.YthcholmhmcpooaaGreatDoorTopBalanceProofL17
set_option linter.unusedSimpArgs false
set_option linter.unusedVariables false

namespace Go.Proofs.YthcholmhmcpooaaGreatDoor
open Go.RowKit
theorem joinJ_fst (L:List Lkd) (a b:Int) (i:Nat):(joinJ L a b i).map Prod.fst=L.map Prod.fst:=by
 unfold joinJ
 rw [List.map_map]
 rfl
theorem joinJ_len (L:List Lkd) (a b:Int) (i:Nat):(joinJ L a b i).length=L.length:=by unfold joinJ;rw [List.length_map]
theorem joinJ_lv {L:List Lkd} {n:Nat} (h:∀ c∈L,c.2.length=n) (a b:Int) (i:Nat):∀ c∈joinJ L a b i,c.2.length=n:=by
 intro c hc
 unfold joinJ at hc
 obtain ⟨d,hd,rfl⟩:=List.mem_map.1 hc
 unfold setJ
 rw [List.length_modify]
 exact h d hd
def rowJ (N:List Nd) (id:Int) (j:Nat) (L:List Lkd):List Lkd:=(List.range j).foldl (fun (L:List Lkd) (i:Nat)=>joinJ L (neighN N id i).1.1 (neighN N id i).1.2 i) L
theorem rowJ_succ (N:List Nd) (id:Int) (j:Nat) (L:List Lkd):rowJ N id (j+1) L=joinJ (rowJ N id j L) (neighN N id j).1.1 (neighN N id j).1.2 j:=by
 unfold rowJ
 rw [List.range_succ,List.foldl_append]
 rfl
theorem rowJ_fst (N:List Nd) (id:Int) (L:List Lkd):∀ j,(rowJ N id j L).map Prod.fst=L.map Prod.fst
 | 0=>rfl
 | j+1=>by rw [rowJ_succ,joinJ_fst,rowJ_fst N id L j]
theorem rowJ_len (N:List Nd) (id:Int) (L:List Lkd) (j:Nat):(rowJ N id j L).length=L.length:=by
 have:=congrArg List.length (rowJ_fst N id L j)
 simpa using this
theorem rowJ_lv (N:List Nd) (id:Int) {L:List Lkd} {n:Nat} (h:∀ c∈L,c.2.length=n):∀ j,∀ c∈rowJ N id j L,c.2.length=n
 | 0=>h
 | j+1=>by rw [rowJ_succ];exact joinJ_lv (rowJ_lv N id h j) _ _ _
theorem erase_flt {J:List Lkd} {id:Int} {xs ys:List Int} (h:J.map Prod.fst=xs++id::ys) (ha:∀ a∈xs,a≠id) (hb:∀ b∈ys,b≠id) :
  J.take xs.length++J.drop (xs.length+1)=J.filter fun c=>!(c.1==id):=by
 obtain ⟨J1,J2,rfl,h1,h2⟩:=List.map_eq_append_iff.1 h
 obtain ⟨c,J3,rfl,hc,h3⟩:=List.map_eq_cons_iff.1 h2
 have hl:xs.length=J1.length:=by rw [← h1];simp
 have f1:J1.filter (fun c=>!(c.1==id))=J1:=List.filter_eq_self.2 fun d hd=>by
  have:=ha d.1 (by rw [← h1];exact List.mem_map_of_mem hd)
  simpa using this
 have f3:J3.filter (fun c=>!(c.1==id))=J3:=List.filter_eq_self.2 fun d hd=>by
  have:=hb d.1 (by rw [← h3];exact List.mem_map_of_mem hd)
  simpa using this
 rw [hl,List.filter_append,List.filter_cons_of_neg (by simp [hc]),f1,f3,List.take_left]
 congr 1
 rw [List.drop_append]
 simp
section
variable {N:List Nd}
theorem find_place (h0:checkN N=0) {id:Int} (hf:(findN N id).2=true):∃ (x:Nd) (A B:List Nd),x∈N∧x.id=id∧sortN N=A++x::B∧placeI N id=A.length:=by
 obtain ⟨h1,h2⟩:=findN_mem hf
 obtain ⟨A,B,e⟩:=List.append_of_mem ((sortN_mem N _).2 h1)
 exact ⟨_,A,B,h1,h2,e,by rw [← h2];exact placeI_at h0 e⟩
theorem find_noplace {id:Int} (hf:(findN N id).2=false):placeI N id = -1:=by
 unfold placeI
 split
 ·rename_i h0
  unfold idxB
  rw [if_neg]
  intro h
  have h1:=List.findIdx_getElem (w:=h)
  have h2:(sortN N)[(sortN N).findIdx fun x=>x.id==id]∈sortN N:=List.getElem_mem h
  have h3:=find_in h0 ((sortN_mem N _).1 h2)
  have h4:((sortN N)[(sortN N).findIdx fun x=>x.id==id]).id=id:=by simpa using h1
  rw [h4] at h3
  rw [h3] at hf
  cases hf
 ·rfl
theorem build_row (h0:checkN N=0) {m:Nat} (hm:m≤16):(buildN N (m:Int)).1=(sortN N).map (rowN (sortN N) (m+1)):=by
 unfold buildN
 rw [if_neg (by rw [h0];simp),if_neg (by unfold lvlN;simp;omega)]
 rfl
theorem build_fst (h0:checkN N=0) {m:Nat} (hm:m≤16):(buildN N (m:Int)).1.map Prod.fst=(sortN N).map Nd.id:=by
 rw [build_row h0 hm,List.map_map]
 rfl
theorem build_lv (h0:checkN N=0) {m:Nat} (hm:m≤16):∀ c∈(buildN N (m:Int)).1,c.2.length=m+1:=by
 intro c hc
 rw [build_row h0 hm] at hc
 obtain ⟨x,_,rfl⟩:=List.mem_map.1 hc
 unfold rowN
 simp
theorem neigh_sortS (h0:checkN N=0) {z:Nd} (hz:z∈N) {i:Nat} (hi:i≤16):(neighN (sortN N) z.id i).1=(neighN N z.id i).1:=by
 have hl:lvlN (i:Int)=true:=by unfold lvlN;simp;omega
 obtain ⟨A,B,e⟩:=grp_at hz hl
 have es:grpS (sortN N) i z.word=A++z::B:=by
  unfold grpS at e ⊢
  rw [sort_perm (sortN_perm N) h0];exact e
 rw [neigh_split h0 hz hl e,neigh_split (check_perm (sortN_perm N) h0) ((sortN_mem N z).2 hz) hl es]
theorem build_get (h0:checkN N=0) {m:Nat} (hm:m≤16) {x:Nd} {A B:List Nd} (e:sortN N=A++x::B) (hx:x∈N):∃ R:List (Int×Int),(buildN N (m:Int)).1[A.length]?=some (x.id,R)∧R.length=m+1∧∀ j,j≤m→R[j]?=some (neighN N x.id j).1:=by
 refine ⟨(rowN (sortN N) (m+1) x).2,?_,by unfold rowN;simp,fun j hj=>?_⟩
 ·rw [build_row h0 hm,List.getElem?_map,e,List.getElem?_append_right (Nat.le_refl _),Nat.sub_self]
  rfl
 ·unfold rowN
  rw [List.getElem?_map,List.getElem?_range (by omega)]
  simp only [Option.map_some]
  rw [neigh_sortS h0 hx (by omega)]
theorem rm_end (h0:checkN N=0) (hw:∀ x∈N,x.word<4294967296) {m:Nat} (hm:m≤16) {x:Nd} {A B:List Nd} (e:sortN N=A++x::B) (hx:x∈N) :
  (rowJ N x.id (m+1) (buildN N (m:Int)).1).take A.length++(rowJ N x.id (m+1) (buildN N (m:Int)).1).drop (A.length+1)=(buildN (dropN N x.id) (m:Int)).1:=by
 have hf:(rowJ N x.id (m+1) (buildN N (m:Int)).1).map Prod.fst=A.map Nd.id++x.id::B.map Nd.id:=by
  rw [rowJ_fst,build_fst h0 hm,e]
  simp
 have hp:=sort_ids h0
 rw [e] at hp
 have hq:=List.pairwise_append.1 hp
 have h1:=erase_flt hf (fun a ha=>by
  obtain ⟨z,hz,rfl⟩:=List.mem_map.1 ha
  exact hq.2.2 z hz x (by simp)) (fun b hb=>by
  obtain ⟨z,hz,rfl⟩:=List.mem_map.1 hb
  exact ((List.pairwise_cons.1 hq.2.1).1 z hz).symm)
 rw [List.length_map] at h1
 rw [h1]
 exact remove_law h0 hw hm hx
end
theorem get_insert {α:Type} {l:List α} {a:α} {i:Nat} (hi:i≤l.length) (j:Nat):(l.take i++a::l.drop i)[j]?=if j<i then l[j]? else if j=i then some a else l[j-1]?:=by
 by_cases h1:j<i
 ·rw [if_pos h1,List.getElem?_append_left (by rw [List.length_take];omega),List.getElem?_take,if_pos h1]
 ·rw [if_neg h1,List.getElem?_append_right (by rw [List.length_take];omega),List.length_take,Nat.min_eq_left hi]
  by_cases h2:j=i
  ·subst h2
   simp
  ·rw [if_neg h2]
   obtain ⟨d,rfl⟩:∃ d,j=i+1+d:=⟨j-(i+1),by omega⟩
   rw [show i+1+d-i=d+1 by omega,List.getElem?_cons_succ,List.getElem?_drop]
   congr 1
   omega
section
variable {A β:Type} {encA:A→List Value} {p s2:Nat} {encB:β→List Value} {e1 e2:TypeId} {base:Nat} {w w':World} {v v':Value} {qs:List (A×Hdr)} {L:List (A×List β)}
theorem OwnN.insert (hne:e1≠e2) (h:OwnN encA (p+1) s2 encB e1 e2 base w v qs L) {i:Nat} (hi:i≤L.length) {q:A×Hdr} {c:List β} (ho:OwnW (p+1) (encP encA) e1 base w' v' (qs.take i++q::qs.drop i))
  (hq:OwnL s2 encB e2 base w' q.2.val c) (kk:Chg (fun x=>x<w.heap.size∧¬ v.ownBlock=some x) w w') (hfr:∀ (j:Nat) (r:A×Hdr) (g:Nat),qs[j]?=some r→r.2.val.ownBlock=some g→¬ q.2.val.ownBlock=some g) :
  OwnN encA (p+1) s2 encB e1 e2 base w' v' (qs.take i++q::qs.drop i) (L.take i++(q.1,c)::L.drop i):=by
 have hl:=h.2.1
 have key:∀ (j:Nat) (r:A×Hdr) (d:A×List β),qs[j]?=some r→L[j]?=some d→r.1=d.1∧OwnL s2 encB e2 base w' r.2.val d.2:=fun j r d hr hd=>by
  obtain ⟨r1,r2⟩:=h.2.2.1 j r d hr hd
  exact ⟨r1,r2.chg kk (fun x hx hv=>⟨hx,h.ne hne hr hv⟩)⟩
 refine ⟨ho,by simp;omega,fun j r d hr hd=>?_,fun a b ra rb x ha hb ga gb=>?_⟩
 ·rw [get_insert (by omega)] at hr hd
  split at hr
  ·rename_i h1
   rw [if_pos h1] at hd
   exact key j r d hr hd
  ·rename_i h1
   rw [if_neg h1] at hd
   split at hr
   ·rename_i h2
    rw [if_pos h2] at hd
    cases hr
    cases hd
    exact ⟨rfl,hq⟩
   ·rename_i h2
    rw [if_neg h2] at hd
    exact key (j-1) r d hr hd
 ·rw [get_insert (by omega)] at ha hb
  split at ha
  ·split at hb
   ·exact h.2.2.2 a b ra rb x ha hb ga gb
   ·split at hb
    ·cases hb
     exact absurd gb (hfr a ra x ha ga)
    ·have:=h.2.2.2 a (b-1) ra rb x ha hb ga gb;omega
  ·split at ha
   ·cases ha
    split at hb
    ·exact absurd ga (hfr b rb x hb gb)
    ·split at hb
     ·omega
     ·exact absurd ga (hfr (b-1) rb x hb gb)
   ·split at hb
    ·have:=h.2.2.2 (a-1) b ra rb x ha hb ga gb;omega
    ·split at hb
     ·cases hb
      exact absurd gb (hfr (a-1) ra x ha ga)
     ·have:=h.2.2.2 (a-1) (b-1) ra rb x ha hb ga gb;omega
end
def insJ (N:List Nd) (id:Int) (j:Nat) (L:List Lkd):List Lkd:=(List.range j).foldl (fun (L:List Lkd) (i:Nat)=>joinJ (joinJ L (neighN N id i).1.1 id i) id (neighN N id i).1.2 i) L
theorem insJ_succ (N:List Nd) (id:Int) (j:Nat) (L:List Lkd):insJ N id (j+1) L=joinJ (joinJ (insJ N id j L) (neighN N id j).1.1 id j) id (neighN N id j).1.2 j:=by
 unfold insJ
 rw [List.range_succ,List.foldl_append]
 rfl
theorem insJ_len (N:List Nd) (id:Int) (L:List Lkd):∀ j,(insJ N id j L).length=L.length
 | 0=>rfl
 | j+1=>by rw [insJ_succ,joinJ_len,joinJ_len,insJ_len N id L j]
theorem insJ_lv (N:List Nd) (id:Int) {L:List Lkd} {n:Nat} (h:∀ c∈L,c.2.length=n):∀ j,∀ c∈insJ N id j L,c.2.length=n
 | 0=>h
 | j+1=>by rw [insJ_succ];exact joinJ_lv (joinJ_lv (insJ_lv N id h j) _ _ _) _ _ _
section
variable {N:List Nd}
def newJ (L:List Lkd) (a:Nat) (id:Int) (m:Nat):List Lkd:=L.take a++(id,List.replicate m ((0:Int),(0:Int)))::L.drop a
theorem newJ_lv {L:List Lkd} {n:Nat} (h:∀ c∈L,c.2.length=n) (a:Nat) (id:Int):∀ c∈newJ L a id n,c.2.length=n:=by
 intro c hc
 unfold newJ at hc
 rcases List.mem_append.1 hc with hc | hc
 ·exact h c (List.mem_of_mem_take hc)
 ·rcases List.mem_cons.1 hc with rfl | hc
  ·simp
  ·exact h c (List.mem_of_mem_drop hc)
theorem newJ_len (L:List Lkd) (a:Nat) (id:Int) (m:Nat):(newJ L a id m).length=L.length+1:=by
 unfold newJ
 rw [List.length_append,List.length_cons,List.length_take,List.length_drop]
 omega
theorem in_end {x:Nd} (h0:checkN (N++[x])=0) (hw:∀ y∈N++[x],y.word<4294967296) {m:Nat} (hm:m≤16) {A B:List Nd} (e:sortN (N++[x])=A++x::B) :
  insJ (N++[x]) x.id (m+1) (newJ (buildN N (m:Int)).1 A.length x.id (m+1))=(buildN (N++[x]) (m:Int)).1:=by
 have hi:idxI (sortN (N++[x])) x.id=A.length:=idxI_at (sortN_str h0) (by rw [e];simp)
 have h1:=ins_rows h0 hm rfl rfl
 rw [hi] at h1
 unfold newJ
 rw [h1]
 exact insert_law h0 hw hm (by simp)
theorem rank_new {x:Nd} (h0:checkN (N++[x])=0):∃ A B:List Nd,sortN (N++[x])=A++x::B∧rankN (N++[x]) x.id=((A.length:Int),true)∧A.length≤N.length:=by
 obtain ⟨A,B,e⟩:=List.append_of_mem ((sortN_mem (N++[x]) x).2 (by simp))
 have hp:=placeI_at h0 e
 refine ⟨A,B,e,?_,?_⟩
 ·unfold rankN
  rw [hp]
  refine Prod.ext ?_ ?_
  ·show max ((A.length:Int)) 0=_;omega
  ·show decide (0≤(A.length:Int))=true;simp
 ·have:=sortN_length (N++[x])
  rw [e] at this
  simp at this
  omega
end
def iwN (x:Nd):Int×Nat:=(x.id,x.word)
theorem group_iw (h:Int) (v:Nat):∀ {l l':List Nd},l.map iwN=l'.map iwN→(groupN l h v).map Nd.id=(groupN l' h v).map Nd.id
 | [],[],_=>rfl
 | [],_::_,e=>by simp at e
 | _::_,[],e=>by simp at e
 | x::l,y::l',e=>by
  simp only [List.map_cons,List.cons.injEq] at e
  have hi:x.id=y.id:=congrArg Prod.fst e.1
  have hw:x.word=y.word:=congrArg Prod.snd e.1
  have ih:=group_iw h v e.2
  unfold groupN at ih ⊢
  rw [List.filter_cons,List.filter_cons,hw]
  split
  ·rw [List.map_cons,List.map_cons,hi,ih]
  ·exact ih
theorem last_ids {A A':List Nd} (h:A.map Nd.id=A'.map Nd.id):lastI A=lastI A':=by
 have e:∀ B:List Nd,lastI B=((B.map Nd.id).getLast?).getD 0:=fun B=>by
  unfold lastI
  rw [List.getLast?_map]
  cases B.getLast?<;>rfl
 rw [e,e,h]
theorem head_ids {A A':List Nd} (h:A.map Nd.id=A'.map Nd.id):headI A=headI A':=by
 have e:∀ B:List Nd,headI B=((B.map Nd.id).head?).getD 0:=fun B=>by
  unfold headI
  cases B<;>rfl
 rw [e,e,h]
theorem build_iw {l l':List Nd} (h0:checkN l=0) (h0':checkN l'=0) (hs:sortN l=l) (hs':sortN l'=l') (e:l.map iwN=l'.map iwN) {m:Nat} (hm:m≤16):(buildN l (m:Int)).1=(buildN l' (m:Int)).1:=by
 rw [build_row h0 hm,build_row h0' hm,hs,hs']
 have hlen:l.length=l'.length:=by have:=congrArg List.length e;simpa using this
 apply List.ext_getElem?
 intro i
 rw [List.getElem?_map,List.getElem?_map]
 cases hx:l[i]? with
 | none =>
  have:l'[i]?=none:=by rw [List.getElem?_eq_none_iff] at hx ⊢;omega
  rw [this]
  rfl
 | some x =>
  have hil:=(List.getElem?_eq_some_iff.1 hx).1
  obtain ⟨y,hy⟩:∃ y,l'[i]?=some y:=⟨_,List.getElem?_eq_getElem (by omega)⟩
  rw [hy]
  have hxy:iwN x=iwN y:=by
   have:=congrArg (fun L:List (Int×Nat)=>L[i]?) e
   simp only [List.getElem?_map,hx,hy,Option.map_some,Option.some.injEq] at this
   exact this
  have hi:x.id=y.id:=congrArg Prod.fst hxy
  have hw:x.word=y.word:=congrArg Prod.snd hxy
  have sp:∀ {L:List Nd} {z:Nd},L[i]?=some z→L=L.take i++z::L.drop (i+1):=fun {L z} h=>by
   obtain ⟨h1,h2⟩:=List.getElem?_eq_some_iff.1 h
   rw [← h2,List.getElem_cons_drop,List.take_append_drop]
  have tk:(l.take i).map iwN=(l'.take i).map iwN:=by rw [List.map_take,List.map_take,e]
  have dr:(l.drop (i+1)).map iwN=(l'.drop (i+1)).map iwN:=by rw [List.map_drop,List.map_drop,e]
  have grp:∀ {L:List Nd} {z:Nd} (h:Int),h≤16→sortN L=L→L[i]?=some z→grpS L h z.word=groupN (L.take i) h z.word++z::groupN (L.drop (i+1)) h z.word:=fun {L z} h h16 hsL hz=>by
   unfold grpS
   rw [hsL]
   conv=>lhs;rw [sp hz]
   unfold groupN
   rw [List.filter_append,List.filter_cons,if_pos (sameN_refl z.word h16)]
  have nb:∀ h:Int,h≤16→lvlN h=true→(neighN l x.id h).1=(neighN l' y.id h).1:=fun h h16 hl=>by
   rw [neigh_split h0 (List.mem_of_getElem? hx) hl (grp h h16 hs hx),neigh_split h0' (List.mem_of_getElem? hy) hl (grp h h16 hs' hy)]
   have a1:=last_ids (group_iw h x.word tk)
   have a2:=head_ids (group_iw h x.word dr)
   rw [← hw]
   simp only [a1,a2]
  simp only [Option.map_some,Option.some.injEq]
  unfold rowN
  refine Prod.ext hi ?_
  refine List.map_congr_left fun h hh=>?_
  rw [List.mem_range] at hh
  exact nb h (by omega) (lvl_nat (by omega))
abbrev Rw:=ByteArray×ByteArray
abbrev Hg:=Nd×List Rw
def ltB (a b:ByteArray):Prop:=Op.bytesLess a.toList b.toList=true
theorem ltB.trans {a b c:ByteArray} (h:ltB a b) (k:ltB b c):ltB a c:=bl_trans h k
theorem ltB.asymm {a b:ByteArray} (h:ltB a b):¬ ltB b a:=fun k=>by
 have:=bl_asymm h
 unfold ltB at k
 rw [this] at k
 cases k
theorem ltB.irrefl (a:ByteArray):¬ ltB a a:=fun k=>k.asymm k
theorem ltB.of_le {a b c:ByteArray} (h:¬ ltB b a) (k:ltB b c):ltB a c:=by
 rcases bl_tri a.toList b.toList with ⟨h1,_,_⟩ | ⟨h1,_,_⟩ | ⟨h1,_,_⟩
 ·exact bl_trans h1 k
 ·unfold ltB at *
  rw [h1]
  exact k
 ·exact absurd h1 h
def relI (a b:ByteArray×Bool):Prop:=if b.2 then ltB a.1 b.1 else if a.2 then ¬ ltB b.1 a.1 else ltB a.1 b.1
def seqH (H:List Hg):List (ByteArray×Bool):=H.flatMap fun c=>(c.1.key,true)::c.2.map fun r=>(r.1,false)
theorem seq_app (X Y:List Hg):seqH (X++Y)=seqH X++seqH Y:=by unfold seqH;rw [List.flatMap_append]
theorem seq_cons (c:Hg) (Y:List Hg):seqH (c::Y)=(c.1.key,true)::(c.2.map fun r=>(r.1,false))++seqH Y:=by unfold seqH;rw [List.flatMap_cons]
theorem ins_pair {Z W:List (ByteArray×Bool)} {q:ByteArray} (h:(Z++(q,false)::W).Pairwise relI) (hz:∀ x∈Z,ltB x.1 q):(Z++(q,true)::(q,false)::W).Pairwise relI:=by
 obtain ⟨h1,h2,h3⟩:=List.pairwise_append.1 h
 have h4:=List.pairwise_cons.1 h2
 refine List.pairwise_append.2 ⟨h1,List.pairwise_cons.2 ⟨fun y hy=>?_,h2⟩,fun x hx y hy=>?_⟩
 ·rcases List.mem_cons.1 hy with rfl | hy
  ·show ¬ ltB q q
   exact ltB.irrefl q
  ·have:=h4.1 y hy
   unfold relI at this ⊢
   split
   ·rename_i hb
    rw [if_pos hb] at this
    exact this
   ·rename_i hb
    rw [if_neg hb] at this
    exact ltB.asymm this
 ·rcases List.mem_cons.1 hy with rfl | hy
  ·exact hz x hx
  ·exact h3 x hx y hy
theorem below_row {Z W:List (ByteArray×Bool)} {p q:ByteArray} (h:(Z++(p,false)::(q,false)::W).Pairwise relI):∀ x∈Z++[(p,false)],ltB x.1 q:=by
 obtain ⟨h1,h2,h3⟩:=List.pairwise_append.1 h
 have hpq:ltB p q:=(List.pairwise_cons.1 h2).1 (q,false) (by simp)
 intro x hx
 rcases List.mem_append.1 hx with hx | hx
 ·have hxp:=h3 x hx (p,false) (by simp)
  have hxq:=h3 x hx (q,false) (by simp)
  obtain ⟨xk,xb⟩:=x
  cases xb with
  | true=>exact ltB.of_le (show ¬ ltB p xk from hxp) hpq
  | false=>exact hxq
 ·rw [List.mem_singleton.1 hx]
  exact hpq
structure InvB (I0:List (Int×Nat)) (R:List Rw) (H:List Hg):Prop where
 seq:(seqH H).Pairwise relI
 cat:H.flatMap Prod.snd=R
 iw:(H.map fun c=>iwN c.1).Perm I0
 fst:∃ c H',H=c::H'∧c.1.key=⟨#[]⟩
 siz:∀ c∈H,c.1.key.size≤64
section
variable {I0:List (Int×Nat)} {R:List Rw} {X Y:List Hg} {n1 n2 n' nb g:Nd} {A B P Q:List Rw} {r:Rw}
theorem InvB.join (h:InvB I0 R (X++(n1,A)::(n2,B)::Y)) (hk:n'.key=n1.key) {J:List (Int×Nat)} (hJ:((X++(n',A++B)::Y).map fun c=>iwN c.1).Perm J):InvB J R (X++(n',A++B)::Y):=by
 refine ⟨?_,?_,hJ,?_,?_⟩
 ·refine List.Pairwise.sublist ?_ h.seq
  rw [seq_app,seq_cons,seq_app,seq_cons,seq_cons]
  simp only [hk,List.map_append,List.cons_append,List.append_assoc]
  exact List.Sublist.append (List.Sublist.refl _) (List.Sublist.cons_cons _ (List.Sublist.append (List.Sublist.refl _) (List.sublist_cons_self _ _)))
 ·have:=h.cat
  rw [← this]
  simp [List.flatMap_append,List.flatMap_cons]
 ·obtain ⟨c,H',e,hc⟩:=h.fst
  cases X with
  | nil =>
   simp only [List.nil_append,List.cons.injEq] at e
   exact ⟨_,_,rfl,by rw [hk];rw [← e.1] at hc;exact hc⟩
  | cons x X =>
   simp only [List.cons_append,List.cons.injEq] at e
   exact ⟨x,_,rfl,by rw [e.1];exact hc⟩
 ·intro c hc
  rcases List.mem_append.1 hc with hc | hc
  ·exact h.siz c (by simp [hc])
  ·rcases List.mem_cons.1 hc with rfl | hc
   ·show n'.key.size≤64
    rw [hk]
    exact h.siz (n1,A) (by simp)
   ·exact h.siz c (by simp [hc])
theorem InvB.split (h:InvB I0 R (X++(nb,P++r::Q)::Y)) (hP:P≠[]) (hr:r.1.size≤64) {J:List (Int×Nat)} (hJ:((X++(nb,P)::({ g with key:=r.1 },r::Q)::Y).map fun c=>iwN c.1).Perm J) :
  InvB J R (X++(nb,P)::({ g with key:=r.1 },r::Q)::Y):=by
 refine ⟨?_,?_,hJ,?_,?_⟩
 ·obtain ⟨P0,p,rfl⟩:∃ P0 p,P=P0++[p]:=by
   rcases List.eq_nil_or_concat P with rfl | ⟨P0,p,rfl⟩
   ·exact absurd rfl hP
   ·exact ⟨P0,p,List.concat_eq_append⟩
  have hs:=h.seq
  rw [seq_app,seq_cons] at hs
  have e1:seqH X++((nb.key,true)::((P0++[p]++r::Q).map fun r=>(r.1,false))++seqH Y)=(seqH X++(nb.key,true)::P0.map fun r=>(r.1,false))++(p.1,false)::(r.1,false)::((Q.map fun r=>(r.1,false))++seqH Y):=by simp
  rw [e1] at hs
  have hb:=below_row hs
  have e2:(seqH X++(nb.key,true)::P0.map fun r=>(r.1,false))++(p.1,false)::(r.1,false)::((Q.map fun r=>(r.1,false))++seqH Y)=((seqH X++(nb.key,true)::P0.map fun r=>(r.1,false))++[(p.1,false)])++(r.1,false)::((Q.map fun r=>(r.1,false))++seqH Y):=by simp
  rw [e2] at hs
  have:=ins_pair hs hb
  rw [seq_app,seq_cons,seq_cons]
  have e3:seqH X++(((nb,P0++[p]):Hg).1.key,true)::(((nb,P0++[p]):Hg).2.map fun r=>(r.1,false))++((({ g with key:=r.1 },r::Q):Hg).1.key,true)::((({ g with key:=r.1 },r::Q):Hg).2.map fun r=>(r.1,false))++seqH Y =
    (seqH X++(nb.key,true)::P0.map fun r=>(r.1,false))++[(p.1,false)]++(r.1,true)::(r.1,false)::((Q.map fun r=>(r.1,false))++seqH Y):=by simp
  simp only [List.append_assoc,List.cons_append] at e3 this ⊢
  rw [e3]
  exact this
 ·have:=h.cat
  rw [← this]
  simp [List.flatMap_append,List.flatMap_cons]
 ·obtain ⟨c,H',e,hc⟩:=h.fst
  cases X with
  | nil =>
   simp only [List.nil_append,List.cons.injEq] at e
   exact ⟨_,_,rfl,by rw [← e.1] at hc;exact hc⟩
  | cons x X =>
   simp only [List.cons_append,List.cons.injEq] at e
   exact ⟨x,_,rfl,by rw [e.1];exact hc⟩
 ·intro c hc
  rcases List.mem_append.1 hc with hc | hc
  ·exact h.siz c (by simp [hc])
  ·rcases List.mem_cons.1 hc with rfl | hc
   ·exact h.siz (nb,P++r::Q) (by simp)
   ·rcases List.mem_cons.1 hc with rfl | hc
    ·exact hr
    ·exact h.siz c (by simp [hc])
end
section
variable {I0:List (Int×Nat)} {R:List Rw} {H X Y:List Hg} {c:Hg} {N0:List Nd}
theorem InvB.nodes (h:InvB I0 R H):(H.map Prod.fst).Pairwise fun x y=>ltB x.key y.key:=by
 have hs:(H.map fun c=>(c.1.key,true)).Sublist (seqH H):=by
  clear h
  induction H with
  | nil=>exact List.Sublist.refl _
  | cons c H ih =>
   rw [seq_cons,List.map_cons,List.cons_append]
   exact List.Sublist.cons_cons _ (ih.trans (List.sublist_append_right _ _))
 have:=h.seq.sublist hs
 rw [List.pairwise_map] at this ⊢
 exact this
theorem InvB.rows (h:InvB I0 R H):R.Pairwise fun x y=>ltB x.1 y.1:=by
 have hs:(R.map fun r=>(r.1,false)).Sublist (seqH H):=by
  rw [← h.cat]
  clear h
  induction H with
  | nil=>exact List.Sublist.refl _
  | cons c H ih =>
   rw [seq_cons,List.flatMap_cons,List.map_append,List.cons_append]
   exact List.Sublist.cons _ (List.Sublist.append (List.Sublist.refl _) ih)
 have:=h.seq.sublist hs
 rw [List.pairwise_map] at this
 exact this
theorem InvB.at (h:InvB I0 R (X++c::Y)) {r:Rw} (hr:r∈c.2):¬ ltB r.1 c.1.key∧∀ d∈Y,ltB r.1 d.1.key:=by
 have hs:=h.seq
 rw [seq_app,seq_cons] at hs
 have h1:=(List.pairwise_append.1 hs).2.1
 have hm:(r.1,false)∈c.2.map fun r=>(r.1,false):=List.mem_map.2 ⟨r,hr,rfl⟩
 rw [List.cons_append] at h1
 refine ⟨(List.pairwise_cons.1 h1).1 (r.1,false) (List.mem_append_left _ hm),fun d hd=>?_⟩
 have h2:=(List.pairwise_append.1 (List.pairwise_cons.1 h1).2).2.2 (r.1,false) hm (d.1.key,true) (by
  unfold seqH
  exact List.mem_flatMap.2 ⟨d,hd,by simp⟩)
 exact h2
theorem InvB.len (h:InvB I0 R H):H.length=I0.length:=by have:=h.iw.length_eq;simpa using this
theorem InvB.asc (h:InvB I0 R H):AscN (H.map Prod.fst):=h.nodes.imp fun hab=>(ltN_no _ _).2 (.inl hab)
theorem InvB.check (h:InvB (N0.map iwN) R H) (h0:checkN N0=0):checkN (H.map Prod.fst)=0:=by
 have hp:=h.iw
 have hl:=h.len
 rw [List.length_map] at hl
 have hN64:N0.length≤64:=by
  unfold checkN at h0
  split at h0
  ·omega
  ·omega
 have hdup0:dupN N0=false:=by
  unfold checkN at h0
  split at h0
  ·omega
  ·split at h0
   ·omega
   ·split at h0
    ·omega
    ·rename_i hd
     simpa using hd
 have hmem:∀ c∈H,∃ x∈N0,iwN x=iwN c.1:=fun c hc=>by
  have:iwN c.1∈H.map fun c=>iwN c.1:=List.mem_map.2 ⟨c,hc,rfl⟩
  have:=hp.subset this
  obtain ⟨x,hx,e⟩:=List.mem_map.1 this
  exact ⟨x,hx,e⟩
 have hbad:(H.map Prod.fst).any badN=false:=by
  rw [List.any_eq_false]
  intro x hx
  obtain ⟨c,hc,rfl⟩:=List.mem_map.1 hx
  obtain ⟨y,hy,e⟩:=hmem c hc
  obtain ⟨_,i1,i2,_,i3⟩:=roster_ok h0 y hy
  have e1:y.id=c.1.id:=congrArg Prod.fst e
  have e2:y.word=c.1.word:=congrArg Prod.snd e
  have:=h.siz c hc
  unfold badN validN
  rw [← e1,← e2]
  simp
  omega
 have hids:(H.map fun c=>c.1.id).Nodup:=by
  have n0:(N0.map Nd.id).Nodup:=by
   rw [List.Nodup,List.pairwise_map,List.pairwise_iff_getElem]
   intro i j hi hj hij e
   have:dupN N0=true:=(dupN_iff N0).2 ⟨j,i,N0[j],N0[i],hij,List.getElem?_eq_getElem hj,List.getElem?_eq_getElem hi,by unfold eqN;simp [e]⟩
   rw [hdup0] at this
   cases this
  have hp2:(H.map fun c=>c.1.id).Perm (N0.map Nd.id):=by
   have:=hp.map Prod.fst
   rw [List.map_map,List.map_map] at this
   exact this
  exact hp2.nodup_iff.2 n0
 have hdup:dupN (H.map Prod.fst)=false:=by
  cases hd:dupN (H.map Prod.fst) with
  | false=>rfl
  | true =>
   obtain ⟨i,k,x,y,hki,hx,hy,he⟩:=(dupN_iff _).1 hd
   exfalso
   unfold eqN at he
   rw [Bool.or_eq_true] at he
   obtain ⟨hi,ex⟩:=List.getElem?_eq_some_iff.1 hx
   obtain ⟨hk,ey⟩:=List.getElem?_eq_some_iff.1 hy
   rcases he with he | he
   ·rw [List.Nodup,List.pairwise_map,List.pairwise_iff_getElem] at hids
    rw [List.length_map] at hi hk
    have:=hids k i hk hi hki
    rw [List.getElem_map] at ex ey
    rw [ex,ey] at this
    exact this (by simpa using he:x.id=y.id).symm
   ·have:=List.pairwise_iff_getElem.1 h.nodes k i hk hi hki
    rw [ex,ey] at this
    unfold ltB at this
    rw [show x.key.toList=y.key.toList from by simpa using he] at this
    rw [bytesLess_irrefl] at this
    cases this
 unfold checkN
 rw [if_neg (by rw [List.length_map];omega),hbad,hdup]
 simp
theorem InvB.sort (h:InvB (N0.map iwN) R H) (h0:checkN N0=0):sortN (H.map Prod.fst)=H.map Prod.fst:=(sortN_unique (check_keys (h.check h0)) (List.Perm.refl _) h.asc).symm
end
def cmpB (k1:ByteArray) (t1:Bool) (k2:ByteArray) (t2:Bool):Int :=
 if t1=true then (if t2=true then 0 else 1) else if t2=true then -1 else if Op.bytesLess k1.toList k2.toList=true then -1 else if Op.bytesLess k2.toList k1.toList=true then 1 else 0
def RgOk (lo hi:ByteArray) (top:Bool):Prop:=lo.size≤64∧hi.size≤64∧(top=true→hi=⟨#[]⟩)∧(top=false→ltB lo hi)
theorem rg_cmp {lo hi:ByteArray} {top:Bool} (h:RgOk lo hi top):cmpB lo false hi top = -1:=by
 unfold cmpB
 rw [if_neg (by simp)]
 cases top with
 | true=>rfl
 | false =>
  rw [if_neg (by simp),if_pos (show Op.bytesLess lo.toList hi.toList=true from h.2.2.2 rfl)]
theorem cmp_le (lo k:ByteArray):decide (cmpB lo false k false≤0) = !Op.bytesLess k.toList lo.toList:=by
 unfold cmpB
 rw [if_neg (by simp),if_neg (by simp)]
 rcases bl_tri lo.toList k.toList with ⟨h1,h2,_⟩ | ⟨_,h1,h2⟩ | ⟨h1,h2,_⟩
 ·rw [if_pos h1,h2];rfl
 ·rw [if_neg (by rw [h1];simp),if_neg (by rw [h2];simp),h2];rfl
 ·rw [if_neg (by rw [h2];simp),if_pos h1,h1];rfl
theorem cmp_lt (k hi:ByteArray) (top:Bool):decide (cmpB k false hi top<0)=(top||Op.bytesLess k.toList hi.toList):=by
 unfold cmpB
 rw [if_neg (by simp)]
 cases top with
 | true=>rfl
 | false =>
  rw [if_neg (by simp)]
  rcases bl_tri k.toList hi.toList with ⟨h1,h2,_⟩ | ⟨_,h1,h2⟩ | ⟨h1,h2,_⟩
  ·rw [if_pos h1,h1];rfl
  ·rw [if_neg (by rw [h1];simp),if_neg (by rw [h2];simp),h1];rfl
  ·rw [if_neg (by rw [h2];simp),if_pos h1,h2];rfl
set_option maxHeartbeats 4000000 in
theorem compare_k (k1 k2:ByteArray) (t1 t2:Bool) (w:World):Calls Tryz.prog 217 #[.agg #[.string k1,.bool t1],.agg #[.string k2,.bool t2]] w fun e w'=>e=.returned (.int .i64 (cmpB k1 t1 k2 t2))∧Ex w w':=by
 obtain ⟨g2,hg2⟩:∃ g2,g2=w.heap.size:=⟨_,rfl⟩
 obtain ⟨g3,hg3⟩:∃ g3,g3=(w.heap.size+1):=⟨_,rfl⟩
 obtain ⟨w1,hw1⟩:∃ w1,w1=((w.alloc (.cells #[.string k1,.bool t1] 43)).alloc (.cells #[.string k2,.bool t2] 43)):=⟨_,rfl⟩
 have kk:Ex w w1:=by rw [hw1];exact (((Ex.refl w).alloc (.cells #[.string k1,.bool t1] 43)).alloc (.cells #[.string k2,.bool t2] 43))
 have B2:Blk w1 g2 [.string k1,.bool t1] 43:=by rw [hw1];simp only [hg2,hg3];have hbk:=((Blk.new w [.string k1,.bool t1] 43).nx (Ex.new _ (.cells #[.string k2,.bool t2] 43)));simpa using hbk
 have B3:Blk w1 g3 [.string k2,.bool t2] 43:=by rw [hw1];simp only [hg2,hg3];have hbk:=(Blk.new (w.alloc (.cells #[.string k1,.bool t1] 43)) [.string k2,.bool t2] 43);simpa using hbk
 have Hw1:=lH hw1
 have Hg2:=lH hg2
 have Hg3:=lH hg3
 have K1:=lH kk
 clear kk hw1 hg2 hg3
 go_enter Tryz.func217,Tryz.ntmps217
 go_upto_region 1 with fail
 rw [← Hw1.out,← Hg3.out,← Hg2.out]
 clear Hw1 Hg3 Hg2
 have b0:=B2.cell 0 _ rfl
 have b1:=B2.cell 1 _ rfl
 have c0:=B3.cell 0 _ rfl
 have c1:=B3.cell 1 _ rfl
 clear B2 B3
 cases t1 with
 | true =>
  cases t2 with
  | true =>
   go_wp2_with fail
   go_ret
   exact ⟨rfl,K1.out⟩
  | false =>
   go_wp2_with fail
   go_ret
   exact ⟨rfl,K1.out⟩
 | false =>
  cases t2 with
  | true =>
   go_wp2_with fail
   go_ret
   exact ⟨rfl,K1.out⟩
  | false =>
   rcases bl_tri k1.toList k2.toList with ⟨h1,h2,h3⟩ | ⟨h1,h2,h3⟩ | ⟨h1,h2,h3⟩
   ·have HR:Hid (cmpB k1 false k2 false = -1):=lH (by unfold cmpB;rw [if_neg (by simp),if_neg (by simp),if_pos h1])
    clear h3
    go_wp2_with fail
    go_ret
    exact ⟨by rw [HR.out];rfl,K1.out⟩
   ·have HR:Hid (cmpB k1 false k2 false=0):=lH (by unfold cmpB;rw [if_neg (by simp),if_neg (by simp),if_neg (by rw [h2];simp),if_neg (by rw [h3];simp)])
    have hI:Op.bytesLess k2.toList k2.toList=false:=bytesLess_irrefl _
    clear h2 h3
    go_wp2_with fail
    go_ret
    exact ⟨by rw [HR.out];rfl,K1.out⟩
   ·have HR:Hid (cmpB k1 false k2 false=1):=lH (by unfold cmpB;rw [if_neg (by simp),if_neg (by simp),if_neg (by rw [h2];simp),if_pos h1])
    have hE:(k1.toList==k2.toList)=false:=by simpa using h3
    clear h3
    go_wp2_with fail
    go_ret
    exact ⟨by rw [HR.out];rfl,K1.out⟩
set_option maxHeartbeats 1000000 in
theorem vbound_k (k:ByteArray) (t:Bool) (hk:k.size≤64) (ht:t=true→k=⟨#[]⟩) (w:World):Calls Tryz.prog 239 #[.agg #[.string k,.bool t]] w fun e w'=>e=.returned (.bool true)∧Ex w w':=by
 have d1:decide ((k.size:Int)≤64)=true:=by simp;omega
 have B2:=Blk.new w [.string k,.bool t] 43
 have kk:=Ex.new w (.cells #[.string k,.bool t] 43)
 obtain ⟨w1,hw1⟩:∃ w1,w1=w.alloc (.cells #[.string k,.bool t] 43):=⟨_,rfl⟩
 obtain ⟨g2,hg2⟩:∃ g2,g2=w.heap.size:=⟨_,rfl⟩
 replace B2:Blk w1 g2 [.string k,.bool t] 43:=by rw [hw1,hg2];exact B2
 rw [← hw1] at kk
 have Hw1:=lH hw1
 have Hg2:=lH hg2
 have K1:=lH kk
 clear kk hw1 hg2
 go_enter Tryz.func239,Tryz.ntmps239
 go_upto_region 1 with fail
 rw [← Hg2.out,← Hw1.out]
 clear Hg2 Hw1
 have b0:=B2.cell 0 _ rfl
 have b1:=B2.cell 1 _ rfl
 clear B2
 go_wp2_with fail
 refine (vkey_p k _).mono ?_
 rintro e w2 ⟨rfl,rfl⟩
 rw [d1]
 clear d1
 cases t with
 | true =>
  have hk0:=ht rfl
  subst hk0
  clear hk ht
  go_wp2_with fail
  go_ret
  exact ⟨rfl,K1.out⟩
 | false =>
  clear hk ht
  go_wp2_with fail
  go_ret
  exact ⟨rfl,K1.out⟩
set_option maxHeartbeats 2000000 in
theorem valid_k (lo hi:ByteArray) (top:Bool) (h:RgOk lo hi top) (w:World):Calls Tryz.prog 233 #[.agg #[.string lo,.bool false,.string hi,.bool top]] w fun e w'=>e=.returned (.bool true)∧Ex w w':=by
 have HO:=lH h
 have B2:=Blk.new w [.string lo,.bool false,.string hi,.bool top] 45
 have kk:=Ex.new w (.cells #[.string lo,.bool false,.string hi,.bool top] 45)
 obtain ⟨w1,hw1⟩:∃ w1,w1=w.alloc (.cells #[.string lo,.bool false,.string hi,.bool top] 45):=⟨_,rfl⟩
 obtain ⟨g2,hg2⟩:∃ g2,g2=w.heap.size:=⟨_,rfl⟩
 replace B2:Blk w1 g2 [.string lo,.bool false,.string hi,.bool top] 45:=by rw [hw1,hg2];exact B2
 rw [← hw1] at kk
 have Hw1:=lH hw1
 have Hg2:=lH hg2
 have K1:=lH kk
 have BH:=lH B2
 clear kk hw1 hg2 h
 go_enter Tryz.func233,Tryz.ntmps233
 go_upto_region 1 with fail
 rw [← Hg2.out,← Hw1.out]
 clear Hg2 Hw1
 have b0:=B2.cell 0 _ rfl
 have b1:=B2.cell 1 _ rfl
 clear B2
 go_wp2_with fail
 refine (vbound_k lo false HO.out.1 (fun h=>by cases h) _).mono ?_
 rintro e w2 ⟨rfl,kk⟩
 have b2:=(BH.out.nx kk).cell 2 _ rfl
 have b3:=(BH.out.nx kk).cell 3 _ rfl
 have K2:=lH kk
 clear kk b0 b1
 go_wp2_with fail
 refine (vbound_k hi top HO.out.2.1 HO.out.2.2.1 _).mono ?_
 rintro e w3 ⟨rfl,kk⟩
 have K3:=lH (K2.out.nx kk)
 have b0:=(BH.out.nx K3.out).cell 0 _ rfl
 have b1:=(BH.out.nx K3.out).cell 1 _ rfl
 have c2:=(BH.out.nx K3.out).cell 2 _ rfl
 have c3:=(BH.out.nx K3.out).cell 3 _ rfl
 clear kk b2 b3
 go_wp2_with fail
 refine (compare_k lo hi false top _).mono ?_
 rintro e w4 ⟨rfl,kk⟩
 rw [rg_cmp HO.out]
 have K4:=lH (K1.out.nx (K3.out.nx kk))
 clear kk b0 b1 c2 c3
 go_wp2_with fail
 go_ret
 exact ⟨rfl,K4.out⟩
set_option maxHeartbeats 2000000 in
theorem empty_k (lo hi:ByteArray) (top:Bool) (h:RgOk lo hi top) (w:World):Calls Tryz.prog 216 #[.agg #[.string lo,.bool false,.string hi,.bool top]] w fun e w'=>e=.returned (.bool false)∧Ex w w':=by
 have HO:=lH h
 have B2:=Blk.new w [.string lo,.bool false,.string hi,.bool top] 45
 have kk:=Ex.new w (.cells #[.string lo,.bool false,.string hi,.bool top] 45)
 obtain ⟨w1,hw1⟩:∃ w1,w1=w.alloc (.cells #[.string lo,.bool false,.string hi,.bool top] 45):=⟨_,rfl⟩
 obtain ⟨g2,hg2⟩:∃ g2,g2=w.heap.size:=⟨_,rfl⟩
 replace B2:Blk w1 g2 [.string lo,.bool false,.string hi,.bool top] 45:=by rw [hw1,hg2];exact B2
 rw [← hw1] at kk
 have Hw1:=lH hw1
 have Hg2:=lH hg2
 have K1:=lH kk
 have BH:=lH B2
 clear kk hw1 hg2 h
 go_enter Tryz.func216,Tryz.ntmps216
 go_upto_region 1 with fail
 rw [← Hg2.out,← Hw1.out]
 clear Hg2 Hw1
 have b0:=B2.cell 0 _ rfl
 have b1:=B2.cell 1 _ rfl
 have b2:=B2.cell 2 _ rfl
 have b3:=B2.cell 3 _ rfl
 clear B2
 go_wp2_with fail
 refine (valid_k lo hi top HO.out _).mono ?_
 rintro e w2 ⟨rfl,kk⟩
 have K2:=lH kk
 clear kk b0 b1 b2 b3
 have b0:=(BH.out.nx K2.out).cell 0 _ rfl
 have b1:=(BH.out.nx K2.out).cell 1 _ rfl
 have b2:=(BH.out.nx K2.out).cell 2 _ rfl
 have b3:=(BH.out.nx K2.out).cell 3 _ rfl
 go_wp2_with fail
 refine (compare_k lo hi false top _).mono ?_
 rintro e w4 ⟨rfl,kk⟩
 rw [rg_cmp HO.out]
 have K4:=lH (K1.out.nx (K2.out.nx kk))
 clear kk b0 b1 b2 b3
 go_wp2_with fail
 go_ret
 exact ⟨rfl,K4.out⟩
set_option maxHeartbeats 4000000 in
theorem contains_k (lo hi k:ByteArray) (top:Bool) (h:RgOk lo hi top) (hk:k.size≤64) (w:World):Calls Tryz.prog 185 #[.agg #[.string lo,.bool false,.string hi,.bool top],.string k] w fun e w'=>e=.returned (.bool (hasV lo hi top k))∧Ex w w':=by
 have HO:=lH h
 have d1:decide ((k.size:Int)≤64)=true:=by simp;omega
 have HD:=lH d1
 obtain ⟨g2,hg2⟩:∃ g2,g2=w.heap.size:=⟨_,rfl⟩
 obtain ⟨g5,hg5⟩:∃ g5,g5=(w.heap.size+1):=⟨_,rfl⟩
 obtain ⟨w1,hw1⟩:∃ w1,w1=((w.alloc (.cells #[.string lo,.bool false,.string hi,.bool top] 45)).alloc (.cells #[.string k,.bool false] 43)):=⟨_,rfl⟩
 have kk:Ex w w1:=by rw [hw1];exact (((Ex.refl w).alloc (.cells #[.string lo,.bool false,.string hi,.bool top] 45)).alloc (.cells #[.string k,.bool false] 43))
 have B2:Blk w1 g2 [.string lo,.bool false,.string hi,.bool top] 45:=by rw [hw1];simp only [hg2,hg5];have hbk:=((Blk.new w [.string lo,.bool false,.string hi,.bool top] 45).nx (Ex.new _ (.cells #[.string k,.bool false] 43)));simpa using hbk
 have B5:Blk w1 g5 [.string k,.bool false] 43:=by rw [hw1];simp only [hg2,hg5];have hbk:=(Blk.new (w.alloc (.cells #[.string lo,.bool false,.string hi,.bool top] 45)) [.string k,.bool false] 43);simpa using hbk
 have Hw1:=lH hw1
 have Hg2:=lH hg2
 have Hg5:=lH hg5
 have K1:=lH kk
 have BH:=lH B2
 have CH:=lH B5
 clear kk hw1 hg2 hg5 h d1 hk
 go_enter Tryz.func185,Tryz.ntmps185
 go_upto_region 2 with fail
 rw [← Hw1.out,← Hg5.out,← Hg2.out]
 clear Hw1 Hg5 Hg2
 have b0:=B2.cell 0 _ rfl
 have b1:=B2.cell 1 _ rfl
 have b2:=B2.cell 2 _ rfl
 have b3:=B2.cell 3 _ rfl
 clear B2 B5
 go_wp2_with fail
 refine (empty_k lo hi top HO.out _).mono ?_
 rintro e w2 ⟨rfl,kk⟩
 have K2:=lH kk
 clear kk b0 b1 b2 b3
 go_wp2_with fail
 refine (vkey_p k _).mono ?_
 rintro e w3 ⟨rfl,rfl⟩
 rw [HD.out]
 have b0:=(BH.out.nx K2.out).cell 0 _ rfl
 have b1:=(BH.out.nx K2.out).cell 1 _ rfl
 have c0:=(CH.out.nx K2.out).cell 0 _ rfl
 have c1:=(CH.out.nx K2.out).cell 1 _ rfl
 go_wp2_with fail
 refine (compare_k lo k false false _).mono ?_
 rintro e w4 ⟨rfl,kk⟩
 have K4:=lH (K2.out.nx kk)
 have HLE:=lH (cmp_le lo k)
 have HLT:=lH (cmp_lt k hi top)
 clear kk b0 b1 c0 c1
 have c0:=(CH.out.nx K4.out).cell 0 _ rfl
 have c1:=(CH.out.nx K4.out).cell 1 _ rfl
 have b2:=(BH.out.nx K4.out).cell 2 _ rfl
 have b3:=(BH.out.nx K4.out).cell 3 _ rfl
 cases hl:Op.bytesLess k.toList lo.toList with
 | true =>
  have d2:¬ cmpB lo false k false≤0:=by have:=HLE.out;rw [hl] at this;simpa using this
  have HR:Hid (hasV lo hi top k=false):=lH (by unfold hasV;rw [hl];rfl)
  clear hl
  go_wp2_with fail
  go_ret
  exact ⟨by rw [HR.out];rfl,K1.out.nx K4.out⟩
 | false =>
  have d2:cmpB lo false k false≤0:=by have:=HLE.out;rw [hl] at this;simpa using this
  have HR:Hid (hasV lo hi top k=decide (cmpB k false hi top<0)):=lH (by rw [HLT.out];unfold hasV;rw [hl];rfl)
  clear hl
  go_wp2_with fail
  refine (compare_k k hi false top _).mono ?_
  rintro e w5 ⟨rfl,kk⟩
  have K5:=lH (K1.out.nx (K4.out.nx kk))
  clear kk c0 c1 b2 b3
  go_wp2_with fail
  go_ret
  exact ⟨by rw [HR.out];rfl,K5.out⟩
set_option maxHeartbeats 4000000 in
theorem compare_r (k1 k2:ByteArray) (t1 t2:Bool) (w:World):Calls Tryz.prog 181 #[.agg #[.string k1,.bool t1],.agg #[.string k2,.bool t2]] w fun e w'=>e=.returned (.int .i64 (cmpB k1 t1 k2 t2))∧Ex w w':=by
 obtain ⟨g2,hg2⟩:∃ g2,g2=w.heap.size:=⟨_,rfl⟩
 obtain ⟨g3,hg3⟩:∃ g3,g3=(w.heap.size+1):=⟨_,rfl⟩
 obtain ⟨w1,hw1⟩:∃ w1,w1=((w.alloc (.cells #[.string k1,.bool t1] 43)).alloc (.cells #[.string k2,.bool t2] 43)):=⟨_,rfl⟩
 have kk:Ex w w1:=by rw [hw1];exact (((Ex.refl w).alloc (.cells #[.string k1,.bool t1] 43)).alloc (.cells #[.string k2,.bool t2] 43))
 have B2:Blk w1 g2 [.string k1,.bool t1] 43:=by rw [hw1];simp only [hg2,hg3];have hbk:=((Blk.new w [.string k1,.bool t1] 43).nx (Ex.new _ (.cells #[.string k2,.bool t2] 43)));simpa using hbk
 have B3:Blk w1 g3 [.string k2,.bool t2] 43:=by rw [hw1];simp only [hg2,hg3];have hbk:=(Blk.new (w.alloc (.cells #[.string k1,.bool t1] 43)) [.string k2,.bool t2] 43);simpa using hbk
 have Hw1:=lH hw1
 have Hg2:=lH hg2
 have Hg3:=lH hg3
 have K1:=lH kk
 clear kk hw1 hg2 hg3
 go_enter Tryz.func181,Tryz.ntmps181
 go_upto_region 1 with fail
 rw [← Hw1.out,← Hg3.out,← Hg2.out]
 clear Hw1 Hg3 Hg2
 have b0:=B2.cell 0 _ rfl
 have b1:=B2.cell 1 _ rfl
 have c0:=B3.cell 0 _ rfl
 have c1:=B3.cell 1 _ rfl
 clear B2 B3
 cases t1 with
 | true =>
  cases t2 with
  | true =>
   go_wp2_with fail
   go_ret
   exact ⟨rfl,K1.out⟩
  | false =>
   go_wp2_with fail
   go_ret
   exact ⟨rfl,K1.out⟩
 | false =>
  cases t2 with
  | true =>
   go_wp2_with fail
   go_ret
   exact ⟨rfl,K1.out⟩
  | false =>
   rcases bl_tri k1.toList k2.toList with ⟨h1,h2,h3⟩ | ⟨h1,h2,h3⟩ | ⟨h1,h2,h3⟩
   ·have HR:Hid (cmpB k1 false k2 false = -1):=lH (by unfold cmpB;rw [if_neg (by simp),if_neg (by simp),if_pos h1])
    clear h3
    go_wp2_with fail
    go_ret
    exact ⟨by rw [HR.out];rfl,K1.out⟩
   ·have HR:Hid (cmpB k1 false k2 false=0):=lH (by unfold cmpB;rw [if_neg (by simp),if_neg (by simp),if_neg (by rw [h2];simp),if_neg (by rw [h3];simp)])
    have hI:Op.bytesLess k2.toList k2.toList=false:=bytesLess_irrefl _
    clear h2 h3
    go_wp2_with fail
    go_ret
    exact ⟨by rw [HR.out];rfl,K1.out⟩
   ·have HR:Hid (cmpB k1 false k2 false=1):=lH (by unfold cmpB;rw [if_neg (by simp),if_neg (by simp),if_neg (by rw [h2];simp),if_pos h1])
    have hE:(k1.toList==k2.toList)=false:=by simpa using h3
    clear h3
    go_wp2_with fail
    go_ret
    exact ⟨by rw [HR.out];rfl,K1.out⟩
set_option maxHeartbeats 1000000 in
theorem vbound_r (k:ByteArray) (t:Bool) (hk:k.size≤64) (ht:t=true→k=⟨#[]⟩) (w:World):Calls Tryz.prog 230 #[.agg #[.string k,.bool t]] w fun e w'=>e=.returned (.bool true)∧Ex w w':=by
 have d1:decide ((k.size:Int)≤64)=true:=by simp;omega
 have B2:=Blk.new w [.string k,.bool t] 43
 have kk:=Ex.new w (.cells #[.string k,.bool t] 43)
 obtain ⟨w1,hw1⟩:∃ w1,w1=w.alloc (.cells #[.string k,.bool t] 43):=⟨_,rfl⟩
 obtain ⟨g2,hg2⟩:∃ g2,g2=w.heap.size:=⟨_,rfl⟩
 replace B2:Blk w1 g2 [.string k,.bool t] 43:=by rw [hw1,hg2];exact B2
 rw [← hw1] at kk
 have Hw1:=lH hw1
 have Hg2:=lH hg2
 have K1:=lH kk
 clear kk hw1 hg2
 go_enter Tryz.func230,Tryz.ntmps230
 go_upto_region 1 with fail
 rw [← Hg2.out,← Hw1.out]
 clear Hg2 Hw1
 have b0:=B2.cell 0 _ rfl
 have b1:=B2.cell 1 _ rfl
 clear B2
 go_wp2_with fail
 refine (vkey_r k _).mono ?_
 rintro e w2 ⟨rfl,rfl⟩
 rw [d1]
 clear d1
 cases t with
 | true =>
  have hk0:=ht rfl
  subst hk0
  clear hk ht
  go_wp2_with fail
  go_ret
  exact ⟨rfl,K1.out⟩
 | false =>
  clear hk ht
  go_wp2_with fail
  go_ret
  exact ⟨rfl,K1.out⟩
set_option maxHeartbeats 2000000 in
theorem valid_r (lo hi:ByteArray) (top:Bool) (h:RgOk lo hi top) (w:World):Calls Tryz.prog 212 #[.agg #[.string lo,.bool false,.string hi,.bool top]] w fun e w'=>e=.returned (.bool true)∧Ex w w':=by
 have HO:=lH h
 have B2:=Blk.new w [.string lo,.bool false,.string hi,.bool top] 45
 have kk:=Ex.new w (.cells #[.string lo,.bool false,.string hi,.bool top] 45)
 obtain ⟨w1,hw1⟩:∃ w1,w1=w.alloc (.cells #[.string lo,.bool false,.string hi,.bool top] 45):=⟨_,rfl⟩
 obtain ⟨g2,hg2⟩:∃ g2,g2=w.heap.size:=⟨_,rfl⟩
 replace B2:Blk w1 g2 [.string lo,.bool false,.string hi,.bool top] 45:=by rw [hw1,hg2];exact B2
 rw [← hw1] at kk
 have Hw1:=lH hw1
 have Hg2:=lH hg2
 have K1:=lH kk
 have BH:=lH B2
 clear kk hw1 hg2 h
 go_enter Tryz.func212,Tryz.ntmps212
 go_upto_region 1 with fail
 rw [← Hg2.out,← Hw1.out]
 clear Hg2 Hw1
 have b0:=B2.cell 0 _ rfl
 have b1:=B2.cell 1 _ rfl
 clear B2
 go_wp2_with fail
 refine (vbound_r lo false HO.out.1 (fun h=>by cases h) _).mono ?_
 rintro e w2 ⟨rfl,kk⟩
 have b2:=(BH.out.nx kk).cell 2 _ rfl
 have b3:=(BH.out.nx kk).cell 3 _ rfl
 have K2:=lH kk
 clear kk b0 b1
 go_wp2_with fail
 refine (vbound_r hi top HO.out.2.1 HO.out.2.2.1 _).mono ?_
 rintro e w3 ⟨rfl,kk⟩
 have K3:=lH (K2.out.nx kk)
 have b0:=(BH.out.nx K3.out).cell 0 _ rfl
 have b1:=(BH.out.nx K3.out).cell 1 _ rfl
 have c2:=(BH.out.nx K3.out).cell 2 _ rfl
 have c3:=(BH.out.nx K3.out).cell 3 _ rfl
 clear kk b2 b3
 go_wp2_with fail
 refine (compare_r lo hi false top _).mono ?_
 rintro e w4 ⟨rfl,kk⟩
 rw [rg_cmp HO.out]
 have K4:=lH (K1.out.nx (K3.out.nx kk))
 clear kk b0 b1 c2 c3
 go_wp2_with fail
 go_ret
 exact ⟨rfl,K4.out⟩
set_option maxHeartbeats 2000000 in
theorem empty_r (lo hi:ByteArray) (top:Bool) (h:RgOk lo hi top) (w:World):Calls Tryz.prog 176 #[.agg #[.string lo,.bool false,.string hi,.bool top]] w fun e w'=>e=.returned (.bool false)∧Ex w w':=by
 have HO:=lH h
 have B2:=Blk.new w [.string lo,.bool false,.string hi,.bool top] 45
 have kk:=Ex.new w (.cells #[.string lo,.bool false,.string hi,.bool top] 45)
 obtain ⟨w1,hw1⟩:∃ w1,w1=w.alloc (.cells #[.string lo,.bool false,.string hi,.bool top] 45):=⟨_,rfl⟩
 obtain ⟨g2,hg2⟩:∃ g2,g2=w.heap.size:=⟨_,rfl⟩
 replace B2:Blk w1 g2 [.string lo,.bool false,.string hi,.bool top] 45:=by rw [hw1,hg2];exact B2
 rw [← hw1] at kk
 have Hw1:=lH hw1
 have Hg2:=lH hg2
 have K1:=lH kk
 have BH:=lH B2
 clear kk hw1 hg2 h
 go_enter Tryz.func176,Tryz.ntmps176
 go_upto_region 1 with fail
 rw [← Hg2.out,← Hw1.out]
 clear Hg2 Hw1
 have b0:=B2.cell 0 _ rfl
 have b1:=B2.cell 1 _ rfl
 have b2:=B2.cell 2 _ rfl
 have b3:=B2.cell 3 _ rfl
 clear B2
 go_wp2_with fail
 refine (valid_r lo hi top HO.out _).mono ?_
 rintro e w2 ⟨rfl,kk⟩
 have K2:=lH kk
 clear kk b0 b1 b2 b3
 have b0:=(BH.out.nx K2.out).cell 0 _ rfl
 have b1:=(BH.out.nx K2.out).cell 1 _ rfl
 have b2:=(BH.out.nx K2.out).cell 2 _ rfl
 have b3:=(BH.out.nx K2.out).cell 3 _ rfl
 go_wp2_with fail
 refine (compare_r lo hi false top _).mono ?_
 rintro e w4 ⟨rfl,kk⟩
 rw [rg_cmp HO.out]
 have K4:=lH (K1.out.nx (K2.out.nx kk))
 clear kk b0 b1 b2 b3
 go_wp2_with fail
 go_ret
 exact ⟨rfl,K4.out⟩
set_option maxHeartbeats 4000000 in
theorem contains_r (lo hi k:ByteArray) (top:Bool) (h:RgOk lo hi top) (hk:k.size≤64) (w:World):Calls Tryz.prog 116 #[.agg #[.string lo,.bool false,.string hi,.bool top],.string k] w fun e w'=>e=.returned (.bool (hasV lo hi top k))∧Ex w w':=by
 have HO:=lH h
 have d1:decide ((k.size:Int)≤64)=true:=by simp;omega
 have HD:=lH d1
 obtain ⟨g2,hg2⟩:∃ g2,g2=w.heap.size:=⟨_,rfl⟩
 obtain ⟨g5,hg5⟩:∃ g5,g5=(w.heap.size+1):=⟨_,rfl⟩
 obtain ⟨w1,hw1⟩:∃ w1,w1=((w.alloc (.cells #[.string lo,.bool false,.string hi,.bool top] 45)).alloc (.cells #[.string k,.bool false] 43)):=⟨_,rfl⟩
 have kk:Ex w w1:=by rw [hw1];exact (((Ex.refl w).alloc (.cells #[.string lo,.bool false,.string hi,.bool top] 45)).alloc (.cells #[.string k,.bool false] 43))
 have B2:Blk w1 g2 [.string lo,.bool false,.string hi,.bool top] 45:=by rw [hw1];simp only [hg2,hg5];have hbk:=((Blk.new w [.string lo,.bool false,.string hi,.bool top] 45).nx (Ex.new _ (.cells #[.string k,.bool false] 43)));simpa using hbk
 have B5:Blk w1 g5 [.string k,.bool false] 43:=by rw [hw1];simp only [hg2,hg5];have hbk:=(Blk.new (w.alloc (.cells #[.string lo,.bool false,.string hi,.bool top] 45)) [.string k,.bool false] 43);simpa using hbk
 have Hw1:=lH hw1
 have Hg2:=lH hg2
 have Hg5:=lH hg5
 have K1:=lH kk
 have BH:=lH B2
 have CH:=lH B5
 clear kk hw1 hg2 hg5 h d1 hk
 go_enter Tryz.func116,Tryz.ntmps116
 go_upto_region 2 with fail
 rw [← Hw1.out,← Hg5.out,← Hg2.out]
 clear Hw1 Hg5 Hg2
 have b0:=B2.cell 0 _ rfl
 have b1:=B2.cell 1 _ rfl
 have b2:=B2.cell 2 _ rfl
 have b3:=B2.cell 3 _ rfl
 clear B2 B5
 go_wp2_with fail
 refine (empty_r lo hi top HO.out _).mono ?_
 rintro e w2 ⟨rfl,kk⟩
 have K2:=lH kk
 clear kk b0 b1 b2 b3
 go_wp2_with fail
 refine (vkey_r k _).mono ?_
 rintro e w3 ⟨rfl,rfl⟩
 rw [HD.out]
 have b0:=(BH.out.nx K2.out).cell 0 _ rfl
 have b1:=(BH.out.nx K2.out).cell 1 _ rfl
 have c0:=(CH.out.nx K2.out).cell 0 _ rfl
 have c1:=(CH.out.nx K2.out).cell 1 _ rfl
 go_wp2_with fail
 refine (compare_r lo k false false _).mono ?_
 rintro e w4 ⟨rfl,kk⟩
 have K4:=lH (K2.out.nx kk)
 have HLE:=lH (cmp_le lo k)
 have HLT:=lH (cmp_lt k hi top)
 clear kk b0 b1 c0 c1
 have c0:=(CH.out.nx K4.out).cell 0 _ rfl
 have c1:=(CH.out.nx K4.out).cell 1 _ rfl
 have b2:=(BH.out.nx K4.out).cell 2 _ rfl
 have b3:=(BH.out.nx K4.out).cell 3 _ rfl
 cases hl:Op.bytesLess k.toList lo.toList with
 | true =>
  have d2:¬ cmpB lo false k false≤0:=by have:=HLE.out;rw [hl] at this;simpa using this
  have HR:Hid (hasV lo hi top k=false):=lH (by unfold hasV;rw [hl];rfl)
  clear hl
  go_wp2_with fail
  go_ret
  exact ⟨by rw [HR.out];rfl,K1.out.nx K4.out⟩
 | false =>
  have d2:cmpB lo false k false≤0:=by have:=HLE.out;rw [hl] at this;simpa using this
  have HR:Hid (hasV lo hi top k=decide (cmpB k false hi top<0)):=lH (by rw [HLT.out];unfold hasV;rw [hl];rfl)
  clear hl
  go_wp2_with fail
  refine (compare_r k hi false top _).mono ?_
  rintro e w5 ⟨rfl,kk⟩
  have K5:=lH (K1.out.nx (K4.out.nx kk))
  clear kk c0 c1 b2 b3
  go_wp2_with fail
  go_ret
  exact ⟨by rw [HR.out];rfl,K5.out⟩
end Go.Proofs.YthcholmhmcpooaaGreatDoor
