/- Shared texts. -/
import Derived.Deep.CutBlock
import Derived.ProofKit
import Derived.OpenShut
import Derived.ShutString
import Derived.ChangeOld
import Derived.Lib.SmallJoins
import Derived.Deep.Slices
import Derived.Deep.Fields
import Derived.ChangeSame
import Derived.Test.YtalmjklljofhbaaGreatDoorSxAll23
set_option linter.unusedSimpArgs false
set_option linter.unusedVariables false

namespace Go.Proofs.YtalmjklljofhbaaGreatDoor
open Go.RowKit
theorem joinJ_fst (L:List Lkd) (a b:Int) (i:Nat):(joinJ L a b i).map Prod.fst=L.map Prod.fst:=by
 unfold joinJ
 rw [List.map_map]
 rfl
theorem joinJ_len (L:List Lkd) (a b:Int) (i:Nat):(joinJ L a b i).length=L.length:=by unfold joinJ;rw [List.length_map]
theorem joinJ_lv {L:List Lkd} {n:Nat} (h:∀ c∈L,c.2.length=n) (a b:Int) (i:Nat):∀ c∈joinJ L a b i,c.2.length=n:=by
 intro c hc
 unfold joinJ at hc
 obtain ⟨d,hd,rfl⟩:=List.mem_map.1 hc
 unfold setJ
 rw [List.length_modify]
 exact h d hd
def rowJ (N:List Nd) (id:Int) (j:Nat) (L:List Lkd):List Lkd:=(List.range j).foldl (fun (L:List Lkd) (i:Nat)=>joinJ L (neighN N id i).1.1 (neighN N id i).1.2 i) L
theorem rowJ_succ (N:List Nd) (id:Int) (j:Nat) (L:List Lkd):rowJ N id (j+1) L=joinJ (rowJ N id j L) (neighN N id j).1.1 (neighN N id j).1.2 j:=by
 unfold rowJ
 rw [List.range_succ,List.foldl_append]
 rfl
theorem rowJ_fst (N:List Nd) (id:Int) (L:List Lkd):∀ j,(rowJ N id j L).map Prod.fst=L.map Prod.fst
 | 0=>rfl
 | j+1=>by rw [rowJ_succ,joinJ_fst,rowJ_fst N id L j]
theorem rowJ_len (N:List Nd) (id:Int) (L:List Lkd) (j:Nat):(rowJ N id j L).length=L.length:=by
 have:=congrArg List.length (rowJ_fst N id L j)
 simpa using this
theorem rowJ_lv (N:List Nd) (id:Int) {L:List Lkd} {n:Nat} (h:∀ c∈L,c.2.length=n):∀ j,∀ c∈rowJ N id j L,c.2.length=n
 | 0=>h
 | j+1=>by rw [rowJ_succ];exact joinJ_lv (rowJ_lv N id h j) _ _ _
theorem erase_flt {J:List Lkd} {id:Int} {xs ys:List Int} (h:J.map Prod.fst=xs++id::ys) (ha:∀ a∈xs,a≠id) (hb:∀ b∈ys,b≠id) :
  J.take xs.length++J.drop (xs.length+1)=J.filter fun c=>!(c.1==id):=by
 obtain ⟨J1,J2,rfl,h1,h2⟩:=List.map_eq_append_iff.1 h
 obtain ⟨c,J3,rfl,hc,h3⟩:=List.map_eq_cons_iff.1 h2
 have hl:xs.length=J1.length:=by rw [← h1];simp
 have f1:J1.filter (fun c=>!(c.1==id))=J1:=List.filter_eq_self.2 fun d hd=>by
  have:=ha d.1 (by rw [← h1];exact List.mem_map_of_mem hd)
  simpa using this
 have f3:J3.filter (fun c=>!(c.1==id))=J3:=List.filter_eq_self.2 fun d hd=>by
  have:=hb d.1 (by rw [← h3];exact List.mem_map_of_mem hd)
  simpa using this
 rw [hl,List.filter_append,List.filter_cons_of_neg (by simp [hc]),f1,f3,List.take_left]
 congr 1
 rw [List.drop_append]
 simp
section
variable {N:List Nd}
theorem find_place (h0:checkN N=0) {id:Int} (hf:(findN N id).2=true):∃ (x:Nd) (A B:List Nd),x∈N∧x.id=id∧sortN N=A++x::B∧placeI N id=A.length:=by
 obtain ⟨h1,h2⟩:=findN_mem hf
 obtain ⟨A,B,e⟩:=List.append_of_mem ((sortN_mem N _).2 h1)
 exact ⟨_,A,B,h1,h2,e,by rw [← h2];exact placeI_at h0 e⟩
theorem find_noplace {id:Int} (hf:(findN N id).2=false):placeI N id = -1:=by
 unfold placeI
 split
 ·rename_i h0
  unfold idxB
  rw [if_neg]
  intro h
  have h1:=List.findIdx_getElem (w:=h)
  have h2:(sortN N)[(sortN N).findIdx fun x=>x.id==id]∈sortN N:=List.getElem_mem h
  have h3:=find_in h0 ((sortN_mem N _).1 h2)
  have h4:((sortN N)[(sortN N).findIdx fun x=>x.id==id]).id=id:=by simpa using h1
  rw [h4] at h3
  rw [h3] at hf
  cases hf
 ·rfl
theorem build_row (h0:checkN N=0) {m:Nat} (hm:m≤16):(buildN N (m:Int)).1=(sortN N).map (rowN (sortN N) (m+1)):=by
 unfold buildN
 rw [if_neg (by rw [h0];simp),if_neg (by unfold lvlN;simp;omega)]
 rfl
theorem build_fst (h0:checkN N=0) {m:Nat} (hm:m≤16):(buildN N (m:Int)).1.map Prod.fst=(sortN N).map Nd.id:=by
 rw [build_row h0 hm,List.map_map]
 rfl
theorem build_lv (h0:checkN N=0) {m:Nat} (hm:m≤16):∀ c∈(buildN N (m:Int)).1,c.2.length=m+1:=by
 intro c hc
 rw [build_row h0 hm] at hc
 obtain ⟨x,_,rfl⟩:=List.mem_map.1 hc
 unfold rowN
 simp
theorem neigh_sortS (h0:checkN N=0) {z:Nd} (hz:z∈N) {i:Nat} (hi:i≤16):(neighN (sortN N) z.id i).1=(neighN N z.id i).1:=by
 have hl:lvlN (i:Int)=true:=by unfold lvlN;simp;omega
 obtain ⟨A,B,e⟩:=grp_at hz hl
 have es:grpS (sortN N) i z.word=A++z::B:=by
  unfold grpS at e ⊢
  rw [sort_perm (sortN_perm N) h0];exact e
 rw [neigh_split h0 hz hl e,neigh_split (check_perm (sortN_perm N) h0) ((sortN_mem N z).2 hz) hl es]
theorem build_get (h0:checkN N=0) {m:Nat} (hm:m≤16) {x:Nd} {A B:List Nd} (e:sortN N=A++x::B) (hx:x∈N):∃ R:List (Int×Int),(buildN N (m:Int)).1[A.length]?=some (x.id,R)∧R.length=m+1∧∀ j,j≤m→R[j]?=some (neighN N x.id j).1:=by
 refine ⟨(rowN (sortN N) (m+1) x).2,?_,by unfold rowN;simp,fun j hj=>?_⟩
 ·rw [build_row h0 hm,List.getElem?_map,e,List.getElem?_append_right (Nat.le_refl _),Nat.sub_self]
  rfl
 ·unfold rowN
  rw [List.getElem?_map,List.getElem?_range (by omega)]
  simp only [Option.map_some]
  rw [neigh_sortS h0 hx (by omega)]
theorem rm_end (h0:checkN N=0) (hw:∀ x∈N,x.word<4294967296) {m:Nat} (hm:m≤16) {x:Nd} {A B:List Nd} (e:sortN N=A++x::B) (hx:x∈N) :
  (rowJ N x.id (m+1) (buildN N (m:Int)).1).take A.length++(rowJ N x.id (m+1) (buildN N (m:Int)).1).drop (A.length+1)=(buildN (dropN N x.id) (m:Int)).1:=by
 have hf:(rowJ N x.id (m+1) (buildN N (m:Int)).1).map Prod.fst=A.map Nd.id++x.id::B.map Nd.id:=by
  rw [rowJ_fst,build_fst h0 hm,e]
  simp
 have hp:=sort_ids h0
 rw [e] at hp
 have hq:=List.pairwise_append.1 hp
 have h1:=erase_flt hf (fun a ha=>by
  obtain ⟨z,hz,rfl⟩:=List.mem_map.1 ha
  exact hq.2.2 z hz x (by simp)) (fun b hb=>by
  obtain ⟨z,hz,rfl⟩:=List.mem_map.1 hb
  exact ((List.pairwise_cons.1 hq.2.1).1 z hz).symm)
 rw [List.length_map] at h1
 rw [h1]
 exact remove_law h0 hw hm hx
end
theorem get_insert {α:Type} {l:List α} {a:α} {i:Nat} (hi:i≤l.length) (j:Nat):(l.take i++a::l.drop i)[j]?=if j<i then l[j]? else if j=i then some a else l[j-1]?:=by
 by_cases h1:j<i
 ·rw [if_pos h1,List.getElem?_append_left (by rw [List.length_take];omega),List.getElem?_take,if_pos h1]
 ·rw [if_neg h1,List.getElem?_append_right (by rw [List.length_take];omega),List.length_take,Nat.min_eq_left hi]
  by_cases h2:j=i
  ·subst h2
   simp
  ·rw [if_neg h2]
   obtain ⟨d,rfl⟩:∃ d,j=i+1+d:=⟨j-(i+1),by omega⟩
   rw [show i+1+d-i=d+1 by omega,List.getElem?_cons_succ,List.getElem?_drop]
   congr 1
   omega
section
variable {A β:Type} {encA:A→List Value} {p s2:Nat} {encB:β→List Value} {e1 e2:TypeId} {base:Nat} {w w':World} {v v':Value} {qs:List (A×Hdr)} {L:List (A×List β)}
theorem OwnN.insert (hne:e1≠e2) (h:OwnN encA (p+1) s2 encB e1 e2 base w v qs L) {i:Nat} (hi:i≤L.length) {q:A×Hdr} {c:List β} (ho:OwnW (p+1) (encP encA) e1 base w' v' (qs.take i++q::qs.drop i))
  (hq:OwnL s2 encB e2 base w' q.2.val c) (kk:Chg (fun x=>x<w.heap.size∧¬ v.ownBlock=some x) w w') (hfr:∀ (j:Nat) (r:A×Hdr) (g:Nat),qs[j]?=some r→r.2.val.ownBlock=some g→¬ q.2.val.ownBlock=some g) :
  OwnN encA (p+1) s2 encB e1 e2 base w' v' (qs.take i++q::qs.drop i) (L.take i++(q.1,c)::L.drop i):=by
 have hl:=h.2.1
 have key:∀ (j:Nat) (r:A×Hdr) (d:A×List β),qs[j]?=some r→L[j]?=some d→r.1=d.1∧OwnL s2 encB e2 base w' r.2.val d.2:=fun j r d hr hd=>by
  obtain ⟨r1,r2⟩:=h.2.2.1 j r d hr hd
  exact ⟨r1,r2.chg kk (fun x hx hv=>⟨hx,h.ne hne hr hv⟩)⟩
 refine ⟨ho,by simp;omega,fun j r d hr hd=>?_,fun a b ra rb x ha hb ga gb=>?_⟩
 ·rw [get_insert (by omega)] at hr hd
  split at hr
  ·rename_i h1
   rw [if_pos h1] at hd
   exact key j r d hr hd
  ·rename_i h1
   rw [if_neg h1] at hd
   split at hr
   ·rename_i h2
    rw [if_pos h2] at hd
    cases hr
    cases hd
    exact ⟨rfl,hq⟩
   ·rename_i h2
    rw [if_neg h2] at hd
    exact key (j-1) r d hr hd
 ·rw [get_insert (by omega)] at ha hb
  split at ha
  ·split at hb
   ·exact h.2.2.2 a b ra rb x ha hb ga gb
   ·split at hb
    ·cases hb
     exact absurd gb (hfr a ra x ha ga)
    ·have:=h.2.2.2 a (b-1) ra rb x ha hb ga gb;omega
  ·split at ha
   ·cases ha
    split at hb
    ·exact absurd ga (hfr b rb x hb gb)
    ·split at hb
     ·omega
     ·exact absurd ga (hfr (b-1) rb x hb gb)
   ·split at hb
    ·have:=h.2.2.2 (a-1) b ra rb x ha hb ga gb;omega
    ·split at hb
     ·cases hb
      exact absurd gb (hfr (a-1) ra x ha ga)
     ·have:=h.2.2.2 (a-1) (b-1) ra rb x ha hb ga gb;omega
end
def insJ (N:List Nd) (id:Int) (j:Nat) (L:List Lkd):List Lkd:=(List.range j).foldl (fun (L:List Lkd) (i:Nat)=>joinJ (joinJ L (neighN N id i).1.1 id i) id (neighN N id i).1.2 i) L
theorem insJ_succ (N:List Nd) (id:Int) (j:Nat) (L:List Lkd):insJ N id (j+1) L=joinJ (joinJ (insJ N id j L) (neighN N id j).1.1 id j) id (neighN N id j).1.2 j:=by
 unfold insJ
 rw [List.range_succ,List.foldl_append]
 rfl
theorem insJ_len (N:List Nd) (id:Int) (L:List Lkd):∀ j,(insJ N id j L).length=L.length
 | 0=>rfl
 | j+1=>by rw [insJ_succ,joinJ_len,joinJ_len,insJ_len N id L j]
theorem insJ_lv (N:List Nd) (id:Int) {L:List Lkd} {n:Nat} (h:∀ c∈L,c.2.length=n):∀ j,∀ c∈insJ N id j L,c.2.length=n
 | 0=>h
 | j+1=>by rw [insJ_succ];exact joinJ_lv (joinJ_lv (insJ_lv N id h j) _ _ _) _ _ _
section
variable {N:List Nd}
def newJ (L:List Lkd) (a:Nat) (id:Int) (m:Nat):List Lkd:=L.take a++(id,List.replicate m ((0:Int),(0:Int)))::L.drop a
theorem newJ_lv {L:List Lkd} {n:Nat} (h:∀ c∈L,c.2.length=n) (a:Nat) (id:Int):∀ c∈newJ L a id n,c.2.length=n:=by
 intro c hc
 unfold newJ at hc
 rcases List.mem_append.1 hc with hc | hc
 ·exact h c (List.mem_of_mem_take hc)
 ·rcases List.mem_cons.1 hc with rfl | hc
  ·simp
  ·exact h c (List.mem_of_mem_drop hc)
theorem newJ_len (L:List Lkd) (a:Nat) (id:Int) (m:Nat):(newJ L a id m).length=L.length+1:=by
 unfold newJ
 rw [List.length_append,List.length_cons,List.length_take,List.length_drop]
 omega
theorem in_end {x:Nd} (h0:checkN (N++[x])=0) (hw:∀ y∈N++[x],y.word<4294967296) {m:Nat} (hm:m≤16) {A B:List Nd} (e:sortN (N++[x])=A++x::B) :
  insJ (N++[x]) x.id (m+1) (newJ (buildN N (m:Int)).1 A.length x.id (m+1))=(buildN (N++[x]) (m:Int)).1:=by
 have hi:idxI (sortN (N++[x])) x.id=A.length:=idxI_at (sortN_str h0) (by rw [e];simp)
 have h1:=ins_rows h0 hm rfl rfl
 rw [hi] at h1
 unfold newJ
 rw [h1]
 exact insert_law h0 hw hm (by simp)
theorem rank_new {x:Nd} (h0:checkN (N++[x])=0):∃ A B:List Nd,sortN (N++[x])=A++x::B∧rankN (N++[x]) x.id=((A.length:Int),true)∧A.length≤N.length:=by
 obtain ⟨A,B,e⟩:=List.append_of_mem ((sortN_mem (N++[x]) x).2 (by simp))
 have hp:=placeI_at h0 e
 refine ⟨A,B,e,?_,?_⟩
 ·unfold rankN
  rw [hp]
  refine Prod.ext ?_ ?_
  ·show max ((A.length:Int)) 0=_;omega
  ·show decide (0≤(A.length:Int))=true;simp
 ·have:=sortN_length (N++[x])
  rw [e] at this
  simp at this
  omega
end
theorem newI2 {S:Nat→Prop} {w0 u:World} (_:Chg S w0 u) (a c:Int):∃ g v,g=u.heap.size∧v=u.alloc (.cells #[.int .i64 a,.int .i64 c] 3)∧Blk v g [.int .i64 a,.int .i64 c] 3∧Ex u v∧u.heap.size≤g :=
 ⟨_,_,rfl,rfl,Blk.new _ _ _,Ex.new _ _,Nat.le_refl _⟩
theorem pick2 (a c:Int) {j:Nat} (hj:j<2):∃ u:Int,[(Value.int .i64 a:Value),.int .i64 c][j]?=some (.int .i64 u):=by
 rcases (show j=0∨j=1 by omega) with h | h
 ·exact ⟨a,by rw [h];rfl⟩
 ·exact ⟨c,by rw [h];rfl⟩
open Go.ChangeShapes Go.WideShapes Go.ChangeAt Go.RowKit Go.Deep Go.Joins
theorem own:ownKnob Tryz.prog.godebug=none:=by kernel_rfl
theorem laidOut:laidOutB Tryz.prog=true:=by kernel_rfl
section
variable {H:Type} {enc:TypeId×Value→H} {P:Program} {w:World} {base:Nat} {spare:Nat→Bool} {held:Bool}
theorem addr_lit {a:Addr} {v:Value} {w:World} (h:w.cell? (a.add 0)=some v):a=⟨a.block,a.off,none⟩:=by
 obtain ⟨b,o,s⟩:=a
 have:s=none:=by simpa [Addr.add] using World.cell?_spot h
 subst this;rfl
theorem rd_ints {t e:TypeId} {k:IntKind} {v:Value} {d:DataW H} {p:List MemPlace} {r:Reach} {b0:Nat} (ht:P.underlying t=some (.slice e)) (he:P.underlying e=some (.int k)) (hC:P.cellsOf e=1)
  (hv:Value.okWide P w r b0 t v) (h:DataW.Trod enc P w base spare held t v d p) :
  ∃ a n c l,v=.slice a n c∧Rd 1 (fun x:Int=>[Value.int k x]) (· < w.heap.size) w a n l∧n≤c∧c≤maxLen∧(∀ x∈l,(Lit.int k x).wf=true)∧(a=none→c=0):=by
 obtain ⟨a0,len0,cap0,rfl⟩:=okWide_slice ht hv
 obtain ⟨fuel,hf⟩:=h
 rcases open_ints ht he hC hf with ⟨hcs,_⟩ | ⟨x,l,c,zs,hcs,_,hl,hm,hz,_,hcell,hwz⟩
 ·simp [Value.cells] at hcs
  obtain ⟨rfl,rfl,rfl⟩:=hcs
  exact ⟨none,0,0,[],rfl,Rd.nil _ _ _ _ _,by omega,by unfold maxLen;omega,by simp,fun _=>rfl⟩
 ·simp [Value.cells] at hcs
  obtain ⟨rfl,rfl,rfl⟩:=hcs
  have hz':len0≤zs.length:=by rw [hz];split<;>omega
  refine ⟨_,len0,cap0,zs.take len0,rfl,⟨by simp;omega,?_⟩,hl,hm,fun y hy=>hwz y (List.mem_of_mem_take hy),fun h=>by cases h⟩
  rcases Nat.eq_zero_or_pos len0 with h0 | h0
  ·exact .inl h0
  ·have hx:=addr_lit (hcell 0 (by omega))
   refine .inr ⟨x.block,x.off,by rw [← hx],?_,fun j y hj c u hu=>?_⟩
   ·have:=World.block_lt_of_cell? w _ (hcell 0 (by omega))
    rw [hx] at this
    simpa [Addr.add] using this
   ·have hj':j<len0:=by
     have:=(List.getElem?_eq_some_iff.1 hj).1
     simp at this;omega
    have hy:zs.getD j 0=y:=by
     rw [List.getElem?_take,if_pos hj'] at hj
     simp [List.getD,hj]
    have hc:=hcell j (by omega)
    rw [hx,Addr.add_lit,hy] at hc
    rcases c with _ | c
    ·simp at hu;subst hu;simpa using hc
    ·simp at hu
end
end Go.Proofs.YtalmjklljofhbaaGreatDoor
