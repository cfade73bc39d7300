/- Shared texts. -/
import Derived.Deep.LoopGhost
import Derived.Test.YthdkeibapcaclaaGreatDoorFmAll22
import Derived.Test.YthdkeibapcaclaaGreatDoorFmAll23
set_option linter.unusedSimpArgs false
set_option linter.unusedVariables false

namespace Go.Proofs.YthdkeibapcaclaaGreatDoor
open Go.RowKit
def GrpM (P:Program) (k e:TypeId) (base:Nat) (w:World) (b n:Nat) (f:Int→Value) (J:Int→List Int):Prop :=
 RawM P k w b n f∧b<base∧base≤w.heap.size∧(∀ v,OwnL 1 encI e base w (f v) (J v))∧∀ v v' g,v≠v'→(f v).ownBlock=some g→¬ (f v').ownBlock=some g
section
variable {P:Program} {k e:TypeId} {base:Nat} {w w':World} {b n:Nat} {f:Int→Value} {J:Int→List Int}
theorem GrpM.made (w:World) (P:Program) (k e:TypeId):GrpM P k e (w.heap.size+1) (w.alloc (.map #[] 0)) w.heap.size 0 (fun _=>nilS) (fun _=>[]) :=
 ⟨RawM.made w P k,by omega,by simp,fun _=>OwnL.nil _ _ _ _ _,fun _ _ _ _ h=>by cases h⟩
theorem GrpM.nx (h:GrpM P k e base w b n f J) (kk:Ex w w'):GrpM P k e base w' b n f J :=
 ⟨h.1.nx kk,h.2.1,Nat.le_trans h.2.2.1 kk.size,fun v=>(h.2.2.2.1 v).nx kk,h.2.2.2.2⟩
theorem GrpM.nxb {c:Nat} (h:GrpM P k e base w b n f J) (hc:c<base) (hb:b≠c) (kk:Exb c w w'):GrpM P k e base w' b n f J :=
 ⟨h.1.nxb hb kk,h.2.1,Nat.le_trans h.2.2.1 kk.size,fun v=>(h.2.2.2.1 v).nxb hc kk,h.2.2.2.2⟩
theorem GrpM.row (h:GrpM P k e base w b n f J) (v:Int):OwnL 1 encI e base w (f v) (J v):=h.2.2.2.1 v
def grp2 (J:Int→List Int) (x y:Int):Int→List Int:=fun v=>if v=y then J y++[x] else if v=x then J x++[y] else J v
theorem GrpM.two (h:GrpM P k e base w b n f J) {x y:Int} (hxy:x≠y) {w1 w2 w3:World} {a' c':Value} {n':Nat}
  (A:OwnL 1 encI e base w1 a' (J x++[y])) (k1:Chg (fun k=>k<w.heap.size∧¬ (f x).ownBlock=some k) w w1) (la:∀ g,a'.ownBlock=some g→(f x).ownBlock=some g∨w.heap.size≤g)
  (C:OwnL 1 encI e base w2 c' (J y++[x])) (k2:Chg (fun k=>k<w1.heap.size∧¬ (f y).ownBlock=some k) w1 w2) (lc:∀ g,c'.ownBlock=some g→(f y).ownBlock=some g∨w1.heap.size≤g)
  (k3:Exb b w2 w3) (R:RawM P k w3 b n' (upd (upd f x a') y c')):GrpM P k e base w3 b n' (upd (upd f x a') y c') (grp2 J x y):=by
 obtain ⟨h1,hb,hs,hO,hd⟩:=h
 have s1:=k1.size
 have s2:=k2.size
 have s3:=k3.size
 have A2:OwnL 1 encI e base w2 a' (J x++[y]):=A.chg k2 fun g hg hv=>⟨hg,fun hy=>by
  rcases la g hv with h2 | h2
  ·exact hd x y g hxy h2 hy
  ·have:=((hO y).lt g hy).2;omega⟩
 have blk:∀ v g,v≠x→v≠y→(f v).ownBlock=some g→g<w.heap.size:=fun v g _ _ hv=>((hO v).lt g hv).2
 refine ⟨R,hb,by omega,fun v=>?_,fun v v' g hne hv hv'=>?_⟩
 ·unfold upd grp2
  by_cases hvy:v=y
  ·rw [if_pos hvy,if_pos hvy]
   exact C.nxb hb k3
  ·rw [if_neg hvy,if_neg hvy]
   by_cases hvx:v=x
   ·rw [if_pos hvx,if_pos hvx]
    exact A2.nxb hb k3
   ·rw [if_neg hvx,if_neg hvx]
    have O1:OwnL 1 encI e base w1 (f v) (J v):=(hO v).chg k1 fun g hg hv=>⟨hg,hd v x g hvx hv⟩
    have O2:OwnL 1 encI e base w2 (f v) (J v):=O1.chg k2 fun g hg hv=>⟨hg,hd v y g hvy hv⟩
    exact O2.nxb hb k3
 ·unfold upd at hv hv'
  have ca:∀ g,a'.ownBlock=some g→c'.ownBlock=some g→False:=by
   intro g ha hc
   rcases la g ha with h2 | h2
   ·rcases lc g hc with h3 | h3
    ·exact hd x y g hxy h2 h3
    ·have:=((hO x).lt g h2).2;omega
   ·rcases lc g hc with h3 | h3
    ·have:=((hO y).lt g h3).2;omega
    ·have:=(A.lt g ha).2;omega
  have ov:∀ u g,u≠x→u≠y→(f u).ownBlock=some g→¬ a'.ownBlock=some g∧¬ c'.ownBlock=some g:=by
   intro u g hux huy hu
   refine ⟨fun ha=>?_,fun hc=>?_⟩
   ·rcases la g ha with h2 | h2
    ·exact hd u x g hux hu h2
    ·have:=((hO u).lt g hu).2;omega
   ·rcases lc g hc with h2 | h2
    ·exact hd u y g huy hu h2
    ·have:=((hO u).lt g hu).2;omega
  by_cases hvy:v=y
  ·rw [if_pos hvy] at hv
   rw [if_neg (by omega)] at hv'
   by_cases hvx':v'=x
   ·rw [if_pos hvx'] at hv';exact ca g hv' hv
   ·rw [if_neg hvx'] at hv';exact (ov v' g hvx' (by omega) hv').2 hv
  ·rw [if_neg hvy] at hv
   by_cases hvx:v=x
   ·rw [if_pos hvx] at hv
    by_cases hvy':v'=y
    ·rw [if_pos hvy'] at hv';exact ca g hv hv'
    ·rw [if_neg hvy',if_neg (by omega)] at hv';exact (ov v' g (by omega) hvy' hv').1 hv
   ·rw [if_neg hvx] at hv
    by_cases hvy':v'=y
    ·rw [if_pos hvy'] at hv';exact (ov v g hvx hvy hv).2 hv'
    ·rw [if_neg hvy'] at hv'
     by_cases hvx':v'=x
     ·rw [if_pos hvx'] at hv';exact (ov v g hvx hvy hv).1 hv'
     ·rw [if_neg hvx'] at hv';exact hd v v' g hne hv hv'
end
def jOf (E:List (Int×Int)):Int→List Int:=E.foldl (fun J q=>grp2 J q.1 q.2) (fun _=>[])
theorem jOf_snoc (E:List (Int×Int)) (q:Int×Int):jOf (E++[q])=grp2 (jOf E) q.1 q.2:=by unfold jOf;rw [List.foldl_append];rfl
theorem jOf_law:∀ (n:Nat) (E:List (Int×Int)),E.length=n→(∀ q∈E,q.1≠q.2)→∀ u,(jOf E u).length≤E.length∧∀ v,v∈jOf E u↔(u,v)∈E∨(v,u)∈E
 | 0,E,h,_,u=>by
  rw [List.length_eq_zero_iff.1 h]
  simp [jOf]
 | n+1,E,h,hne,u=>by
  rcases List.eq_nil_or_concat E with rfl | ⟨E',q,rfl⟩
  ·cases h
  ·rw [List.concat_eq_append] at h hne ⊢
   obtain ⟨q1,q2⟩:=q
   obtain ⟨h1,h2⟩:=jOf_law n E' (by simpa using h) (fun q hq=>hne q (by simp [hq])) u
   have hq:q1≠q2:=hne (q1,q2) (by simp)
   rw [jOf_snoc]
   unfold grp2
   refine ⟨?_,fun v=>?_⟩
   ·by_cases ha:u=q2
    ·rw [if_pos ha,← ha];simp;omega
    ·rw [if_neg ha]
     by_cases hb:u=q1
     ·rw [if_pos hb,← hb];simp;omega
     ·rw [if_neg hb];simp;omega
   ·by_cases ha:u=q2
    ·rw [if_pos ha,← ha]
     simp only [List.mem_append,List.mem_singleton,h2,Prod.mk.injEq]
     constructor
     ·rintro ((h | h) | h)
      ·exact .inl (.inl h)
      ·exact .inr (.inl h)
      ·exact .inr (.inr ⟨h,trivial⟩)
     ·rintro ((h | h) | (h | h))
      ·exact .inl (.inl h)
      ·exact absurd (h.1.symm.trans ha) hq
      ·exact .inl (.inr h)
      ·exact .inr h.1
    ·rw [if_neg ha]
     by_cases hb:u=q1
     ·rw [if_pos hb,← hb]
      simp only [List.mem_append,List.mem_singleton,h2,Prod.mk.injEq]
      constructor
      ·rintro ((h | h) | h)
       ·exact .inl (.inl h)
       ·exact .inr (.inl h)
       ·exact .inl (.inr ⟨trivial,h⟩)
      ·rintro ((h | h) | (h | h))
       ·exact .inl (.inl h)
       ·exact .inr h.2
       ·exact .inl (.inr h)
       ·exact absurd h.2 ha
     ·rw [if_neg hb]
      simp only [List.mem_append,List.mem_singleton,h2,Prod.mk.injEq]
      constructor
      ·rintro (h | h)
       ·exact .inl (.inl h)
       ·exact .inr (.inl h)
      ·rintro ((h | h) | (h | h))
       ·exact .inl h
       ·exact absurd h.1 hb
       ·exact .inr h
       ·exact absurd h.2 ha
section
variable {N:List Nd} {P:List Pr} {J:Int→List Int} {M T:List Int}
theorem pairs_ne (h0:checkN N=0) {q:Int×Int} (hq:q∈pairsN N P):q.1≠q.2:=by
 unfold pairsN at hq
 obtain ⟨x,hx,hq⟩:=List.mem_flatMap.1 hq
 obtain ⟨v,hv,rfl⟩:=List.mem_map.1 hq
 have:=((mem_refs h0).1 hv).2.1
 rw [peer_id] at this
 exact fun h=>this h.symm
theorem refs_len (h0:checkN N=0) (p:Pr):(refsN N p).length≤N.length:=by
 unfold refsN
 rw [if_pos h0]
 unfold ordN
 rw [List.length_map]
 have:=List.length_filter_le (fun x=>!(x.id==p.id)&&(numsP p).contains x.id) (sortN N)
 rwa [sortN_length] at this
theorem pairs_len (h0:checkN N=0):∀ L:List Nd,(L.flatMap fun x=>(refsN N (peerN P x.id)).map fun v=>(x.id,v)).length≤L.length*N.length
 | []=>by simp
 | x::L=>by
  have:=pairs_len h0 L
  have:=refs_len h0 (peerN P x.id)
  rw [List.flatMap_cons,List.length_append,List.length_map,List.length_cons,Nat.succ_mul]
  omega
theorem joined_law (h0:checkN N=0) {u v:Int}:v∈jOf (pairsN N P) u↔EdgeN N P u v∨EdgeN N P v u:=by
 rw [(jOf_law _ _ rfl (fun q hq=>pairs_ne h0 hq) u).2 v]
 have key:∀ a b,(a,b)∈pairsN N P↔EdgeN N P a b:=by
  intro a b
  rw [← pairs_in h0]
  constructor
  ·intro h
   refine ⟨h,?_⟩
   unfold pairsN at h
   obtain ⟨x,hx,hq⟩:=List.mem_flatMap.1 h
   obtain ⟨c,hc,he⟩:=List.mem_map.1 hq
   cases he
   exact ⟨⟨x,hx,rfl⟩,((mem_refs h0).1 hc).1⟩
  ·exact fun h=>h.1
 rw [key,key]
def Bfs (N:List Nd) (P:List Pr) (J:Int→List Int) (M T:List Int):Prop :=
 M.Nodup∧(∀ v,v∈M∨v∈T→∃ s,N.head?=some s∧Cl (EdgeN N P) s.id v)∧(∀ u∈M,∀ v∈J u,v∈M∨v∈T)∧∀ s,N.head?=some s→s.id∈M∨s.id∈T
def todoN (N:List Nd) (J:Int→List Int) (M T:List Int):Nat:=T.length+((N.filter fun x=>!(M.contains x.id)).map fun x=>(J x.id).length).sum
theorem bfs_start:Bfs N P J [] (match N with | []=>[] | s::_=>[s.id]):=by
 refine ⟨List.nodup_nil,fun v hv=>?_,(by simp),fun s hs=>?_⟩
 ·cases N with
  | nil=>rcases hv with hv | hv<;>cases hv
  | cons s N =>
   rcases hv with hv | hv
   ·cases hv
   ·simp only [List.mem_singleton] at hv
    subst hv
    exact ⟨s,rfl,.refl _⟩
 ·cases N with
  | nil=>cases hs
  | cons a N=>cases hs;simp
theorem bfs_old {v:Int} (h:Bfs N P J M (v::T)) (hv:v∈M):Bfs N P J M T:=by
 obtain ⟨h1,h2,h3,h4⟩:=h
 refine ⟨h1,fun u hu=>h2 u (hu.imp id (fun h=>List.mem_cons_of_mem _ h)),fun u hu x hx=>?_,fun s hs=>?_⟩
 ·rcases h3 u hu x hx with h | h
  ·exact .inl h
  ·rcases List.mem_cons.1 h with h | h
   ·subst h;exact .inl hv
   ·exact .inr h
 ·rcases h4 s hs with h | h
  ·exact .inl h
  ·rcases List.mem_cons.1 h with h | h
   ·rw [h];exact .inl hv
   ·exact .inr h
theorem bfs_new (hJ:∀ u v,v∈J u→EdgeN N P u v∨EdgeN N P v u) {v:Int} (h:Bfs N P J M (v::T)) (hv:v∉M):Bfs N P J (M++[v]) (T++J v):=by
 obtain ⟨h1,h2,h3,h4⟩:=h
 refine ⟨List.nodup_append.2 ⟨h1,by simp,fun a ha b hb=>by simp only [List.mem_singleton] at hb;subst hb;exact fun e=>hv (e▸ha)⟩,fun u hu=>?_,fun u hu x hx=>?_,fun s hs=>?_⟩
 ·have key:u∈M∨u∈v::T∨u∈J v:=by
   simp only [List.mem_append,List.mem_singleton] at hu
   rcases hu with (h | h) | (h | h)
   ·exact .inl h
   ·subst h;exact .inr (.inl (by simp))
   ·exact .inr (.inl (by simp [h]))
   ·exact .inr (.inr h)
  rcases key with h | h | h
  ·exact h2 u (.inl h)
  ·exact h2 u (.inr h)
  ·obtain ⟨s,hs,hc⟩:=h2 v (.inr (by simp))
   exact ⟨s,hs,hc.trans (Cl.one (hJ v u h))⟩
 ·simp only [List.mem_append,List.mem_singleton] at hu ⊢
  rcases hu with hu | hu
  ·rcases h3 u hu x hx with h | h
   ·exact .inl (.inl h)
   ·rcases List.mem_cons.1 h with h | h
    ·exact .inl (.inr h)
    ·exact .inr (.inl h)
  ·subst hu
   exact .inr (.inr hx)
 ·simp only [List.mem_append,List.mem_singleton]
  rcases h4 s hs with h | h
  ·exact .inl (.inl h)
  ·rcases List.mem_cons.1 h with h | h
   ·exact .inl (.inr h)
   ·exact .inr (.inl h)
theorem todo_new (h0:checkN N=0) {x:Nd} (hx:x∈N) (hv:x.id∉M):todoN N J (M++[x.id]) (T++J x.id)+1=todoN N J M (x.id::T):=by
 have key:∀ L:List Nd,(L.Pairwise fun a b=>a.id≠b.id)→x∈L →
   ((L.filter fun y=>!((M++[x.id]).contains y.id)).map fun y=>(J y.id).length).sum+(J x.id).length=((L.filter fun y=>!(M.contains y.id)).map fun y=>(J y.id).length).sum:=by
  intro L
  induction L with
  | nil=>intro _ h;cases h
  | cons y L ih =>
   intro hp hxl
   rw [List.pairwise_cons] at hp
   rw [List.filter_cons,List.filter_cons]
   rcases List.mem_cons.1 hxl with rfl | hxl
   ·have h1:(!((M++[x.id]).contains x.id))=false:=by simp
    have h2:(!(M.contains x.id))=true:=by simpa using hv
    rw [h1,h2]
    simp only [if_true,Bool.false_eq_true,if_false,List.map_cons,List.sum_cons]
    have:(L.filter fun y=>!((M++[x.id]).contains y.id))=L.filter fun y=>!(M.contains y.id):=by
     refine List.filter_congr fun y hy=>?_
     have:=hp.1 y hy
     rw [Bool.eq_iff_iff]
     simp;exact fun _ h=>this h.symm
    rw [this]
    omega
   ·have hne:=hp.1 x hxl
    have h1:(!((M++[x.id]).contains y.id)) = !(M.contains y.id):=by
     rw [Bool.eq_iff_iff]
     simp [hne]
    rw [h1]
    have:=ih hp.2 hxl
    split
    ·simp only [List.map_cons,List.sum_cons];omega
    ·exact this
 have hp:N.Pairwise fun a b=>a.id≠b.id:=(keys_pw (check_keys h0)).imp (fun h=>h.2)
 have:=key N hp hx
 unfold todoN
 simp only [List.length_append,List.length_cons]
 omega
theorem bfs_node (h0:checkN N=0) (h:Bfs N P J M T) {v:Int} (hv:v∈M∨v∈T):∃ x∈N,x.id=v:=by
 obtain ⟨s,hs,hc⟩:=h.2.1 v hv
 have hsN:s∈N:=List.mem_of_mem_head? hs
 cases hc.symm with
 | refl=>exact ⟨s,hsN,rfl⟩
 | step e _ =>
  rcases e with e | e
  ·exact e.1
  ·exact (edge_node h0 e).2
theorem bfs_len (h0:checkN N=0) (h:Bfs N P J M T):M.length≤N.length:=by
 have hsub:∀ v∈M,v∈N.map Nd.id:=fun v hv=>by
  obtain ⟨x,hx,rfl⟩:=bfs_node h0 h (.inl hv)
  exact List.mem_map.2 ⟨x,hx,rfl⟩
 have:=h.1.length_le_of_subset (l₂:=N.map Nd.id) (fun v hv=>hsub v hv)
 simpa using this
theorem bfs_end (h0:checkN N=0) (hJ:∀ u v,v∈J u↔EdgeN N P u v∨EdgeN N P v u) (h:Bfs N P J M []):M.length=N.length↔ConnN N P:=by
 cases N with
 | nil =>
  have:=bfs_len h0 h
  simp only [List.length_nil,Nat.le_zero] at this
  simp only [this,List.length_nil,true_iff]
  exact ⟨h0,by simp⟩
 | cons s N =>
  have hs:s.id∈M:=by
   rcases h.2.2.2 s rfl with h | h
   ·exact h
   ·cases h
  refine met_conn h0 (s:=s) (by simp) hs h.1 (fun v hv=>?_) (fun u hu v e=>?_)
  ·obtain ⟨s',hs',hc⟩:=h.2.1 v (.inl hv)
   cases hs'
   exact hc
  ·rcases h.2.2.1 u hu v ((hJ u v).2 e) with h | h
   ·exact h
   ·cases h
theorem conn_bool (h0:checkN N=0) (hJ:∀ u v,v∈J u↔EdgeN N P u v∨EdgeN N P v u) (h:Bfs N P J M []):decide ((M.length:Int)=N.length)=connB N P:=by
 rw [Bool.eq_iff_iff,connB_iff,← bfs_end h0 hJ h,decide_eq_true_eq]
 omega
end
end Go.Proofs.YthdkeibapcaclaaGreatDoor
namespace Go.Proofs.YthdkeibapcaclaaGreatDoor
open Go.RowKit Go.Maps
def PredI (g:Nat) (lb:Array Value) (id:Int) (w:World):Prop:=∀ (x:Pr) (h1 h2:Hdr) (w':World),Ex w w'→Calls Tryz.prog g (#[.agg #[.int .i64 x.id,h1.val,.int .i64 x.left,.int .i64 x.right,h2.val]]++lb) w' fun e w''=>e=.returned (.bool (x.id==id))∧Ex w' w''
def idxQ (id:Int) (P:List Pr):Int:=if P.findIdx (fun p=>p.id==id)<P.length then (P.findIdx (fun p=>p.id==id):Int) else -1
theorem idxQ_of {P:List Pr} {id:Int} {k:Nat} {y:Pr} (hy:P[k]?=some y) (he:y.id=id) (hno:∀ j z,j<k→P[j]?=some z→z.id≠id):idxQ id P=k:=by
 have hk:=(List.getElem?_eq_some_iff.1 hy)
 have hkl:=hk.1
 have h1:P.findIdx (fun p=>p.id==id)=k:=by
  rw [List.findIdx_eq hkl]
  refine ⟨by rw [hk.2];simpa using he,fun j hj=>?_⟩
  have:=hno j _ hj (List.getElem?_eq_getElem (by omega))
  simpa using this
 unfold idxQ
 rw [h1,if_pos hkl]
theorem idxQ_none {P:List Pr} {id:Int} (hno:∀ j z,j<P.length→P[j]?=some z→z.id≠id):idxQ id P = -1:=by
 unfold idxQ
 rw [if_neg]
 intro h
 have h1:=List.findIdx_getElem (w:=h)
 have h2:=hno _ _ h (List.getElem?_eq_getElem h)
 simp at h1
 exact h2 h1
theorem idxQ_cases (P:List Pr) (id:Int):(∃ (k:Nat) (y:Pr),idxQ id P=k∧k<P.length∧P[k]?=some y∧peerN P id=y∧y.id=id)∨(idxQ id P = -1∧peerN P id=⟨id,0,0,[],[]⟩):=by
 by_cases h:P.findIdx (fun p=>p.id==id)<P.length
 ·have h1:(P[P.findIdx (fun p=>p.id==id)]).id=id:=by simpa using List.findIdx_getElem (w:=h)
  have hno:∀ j z,j<P.findIdx (fun p=>p.id==id)→P[j]?=some z→z.id≠id:=fun j z hj hz=>by
   have:=List.not_of_lt_findIdx hj
   rw [List.getElem?_eq_getElem (by omega)] at hz
   cases hz
   simpa using this
  exact .inl ⟨_,_,by unfold idxQ;rw [if_pos h],h,List.getElem?_eq_getElem h,peerN_at (List.getElem?_eq_getElem h) h1 hno,h1⟩
 ·have hno:∀ j z,j<P.length→P[j]?=some z→z.id≠id:=fun j z hj hz=>by
   have:=List.not_of_lt_findIdx (p:=fun p:Pr=>p.id==id) (xs:=P) (i:=j) (by omega)
   rw [List.getElem?_eq_getElem (by omega)] at hz
   cases hz
   simpa using this
  exact .inr ⟨by unfold idxQ;rw [if_neg h],peerN_none hno⟩
set_option maxRecDepth 100000 in
set_option maxHeartbeats 2000000 in
theorem idxf_pr (g:Nat) (lb:Array Value) (id:Int) (eg:∀ args w,(callFunc g args).run Tryz.prog w=.ok (.enter g args) w) (a:Option Addr) (n c:Nat) (P:List Pr) (w:World) (h:PL w a n P) (hn:n≤4000000000000000000) (hp:PredI g lb id w) :
  Calls Tryz.prog 63 #[.slice a n c,.func (.func g) #[] lb] w fun e w'=>e=.returned (.int .i64 (idxQ id P))∧Ex w w':=by
 have HL:=lH h.len
 have HP:=lH hp
 have hs:=lH h
 clear h hp
 go_enter Tryz.func63,Tryz.ntmps63
 go_wp2
 go_loopw [8] (fun i wr=>PeRel P id n w i wr) (fun i _=>n-(intOf i).toNat)
 case atStart=>exact ⟨0,by omega,rfl,Ex.refl _,by intro j z h;omega⟩
 case round =>
  obtain ⟨k,hk,rfl,kw,hno⟩:=hrel
  have HNO:=lH hno
  clear hno
  obtain ⟨wo,rfl⟩:∃ wo:World,wo=wr:=⟨_,rfl⟩
  by_cases hlt:k<n
  ·obtain ⟨x3,o3,b1,m1,d1,b4,m4,d4,y,rfl,hx3,hy,e0,e1,e2,e3,e4,s1,s4⟩:=(hs.out.nx kw).rd hlt
   have HY:=lH hy
   have hc:=HP.out y (b1,m1,d1) (b4,m4,d4) wo kw
   have KW:=lH kw
   simp only [Hdr.val] at hc
   clear hy kw s1 s4
   go_wp2_with fail
   refine hc.mono ?_
   rintro e w2 ⟨rfl,k2⟩
   have K2:=lH (KW.out.nx k2)
   clear hc k2 e0 e1 e2 e3 e4
   by_cases hv:y.id=id
   ·have HI:Hid (idxQ id P=k):=lH (idxQ_of HY.out hv HNO.out)
    have hb:(y.id==id)=true:=by simpa using hv
    rw [hb]
    clear hv hb
    go_wp2_with fail
    go_ret
    exact ⟨by rw [HI.out];rfl,K2.out⟩
   ·have HV:=lH hv
    have hb:(y.id==id)=false:=by simpa using hv
    rw [hb]
    clear hv hb
    go_wp2_with fail
    refine ⟨⟨k+1,by omega,by go_num,K2.out,fun j z hj hz=>?_⟩,by simp [intOf];omega⟩
    rcases Nat.lt_or_ge j k with h | h
    ·exact HNO.out j z h hz
    ·obtain rfl:j=k:=by omega
     rw [Option.some.inj (hz.symm.trans HY.out)]
     exact HV.out
  ·obtain rfl:k=n:=by omega
   have HI:Hid (idxQ id P = -1):=lH (idxQ_none (fun j z hj hz=>HNO.out j z (by rw [← HL.out];exact hj) hz))
   have KW:=lH kw
   clear kw hk hlt
   go_wp2_with fail
   go_ret
   exact ⟨by rw [HI.out];rfl,KW.out⟩
set_option maxHeartbeats 1000000 in
theorem conn1_p (gx:Nat) (x:Nd) (w:World) (hx:Blk w gx [.int .i64 x.id,.string x.key,.int .u32 x.word] 60):PredI 79 #[.pointer (some ⟨gx,0,none⟩)] x.id w:=by
 intro p h1 h2 w' kk
 have q0:=(hx.nx kk).cell 0 _ rfl
 have hg:=(hx.nx kk).lt
 have hne:¬ gx=w'.heap.size:=by omega
 obtain ⟨a1,n1,c1⟩:=h1
 obtain ⟨a2,n2,c2⟩:=h2
 simp only [Hdr.val]
 clear hx kk
 go_enter Tryz.func79,Tryz.ntmps79
 go_wp2
 go_ret
 exact ⟨rfl,(Ex.refl _).alloc _⟩
theorem norm1_p (gx:Nat) (x:Nd) (w:World) (hx:Blk w gx [.int .i64 x.id,.string x.key,.int .u32 x.word] 60):PredI 125 #[.pointer (some ⟨gx,0,none⟩)] x.id w:=by
 intro p h1 h2 w' kk
 have q0:=(hx.nx kk).cell 0 _ rfl
 have hg:=(hx.nx kk).lt
 have hne:¬ gx=w'.heap.size:=by omega
 obtain ⟨a1,n1,c1⟩:=h1
 obtain ⟨a2,n2,c2⟩:=h2
 simp only [Hdr.val]
 clear hx kk
 go_enter Tryz.func125,Tryz.ntmps125
 go_wp2
 go_ret
 exact ⟨rfl,(Ex.refl _).alloc _⟩
def NoRel (S:List Nd) (P:List Pr) (w:World) (o i:Value) (wr:World):Prop :=
 ∃ (j:Nat) (qs:List PQ),j≤S.length∧i=.int .i64 j∧OwnPr w.heap.size wr o qs ((S.take j).map fun x=>peerN P x.id)∧Ex w wr
theorem no_snoc {S:List Nd} {P:List Pr} {j:Nat} {x:Nd} (hy:S[j]?=some x):((S.take (j+1)).map fun x=>peerN P x.id)=((S.take j).map fun x=>peerN P x.id)++[peerN P x.id]:=by
 rw [take_snocN S j x hy,List.map_append];rfl
set_option maxRecDepth 100000 in
set_option maxHeartbeats 8000000 in
theorem normal_p (a:Option Addr) (n c:Nat) (N:List Nd) (a2:Option Addr) (n2 c2:Nat) (P:List Pr) (w:World) (h:Sl 3 encN w a n N) (hn:n≤1000) (hc:n≤c) (hm:c≤maxLen) (h2:PL w a2 n2 P) (hn2:n2≤4000000000000000000) (hP:SmallP P) :
  Calls Tryz.prog 61 #[.slice a n c,.slice a2 n2 c2] w (PlPost (normalN N P) w):=by
 have HL:=lH h.len
 have HP:=lH hP
 clear hP
 have EG:Hid (∀ args w,(callFunc 125 args).run Tryz.prog w=.ok (.enter 125 args) w):=lH (enters_of Tryz.func125 (by kernel_rfl) rfl)
 have H2:=lH h2
 clear h2
 go_enter Tryz.func61,Tryz.ntmps61
 go_wp2_with fail
 (with_reducible refine (check_p _ _ _ _ _ h (by omega) hc hm).mono ?_)
 rintro e w0 ⟨rfl,kk⟩
 replace h:=h.nx kk
 have K0:=lH kk
 clear kk
 by_cases hck:checkN N=0
 case neg =>
  have d1:(checkN N != 0)=true:=by simpa using hck
  have E0:Hid (normalN N P=[]):=lH (by unfold normalN;rw [if_neg hck])
  clear h hck
  go_wp2_with fail
  go_ret
  exact ⟨_,[],rfl,by rw [E0.out];exact OwnP.nil _ _ _ _ _,K0.out⟩
 have d1:(checkN N != 0)=false:=by simpa using hck
 have E0:Hid (normalN N P=(sortN N).map fun x=>peerN P x.id):=lH (by unfold normalN;rw [if_pos hck])
 have HC:=lH hck
 clear hck
 go_wp2_with fail
 (with_reducible refine (sort_p _ _ _ _ _ h hn).mono ?_)
 rintro e w1 ⟨v,S,rfl,OS,⟨hp,hsrt⟩,kk⟩
 have hSe:S=sortN N:=sortN_unique (check_keys HC.out) hp hsrt
 subst hSe
 obtain ⟨a1,c1,rfl,S1,_,_⟩:=sorted_own HC.out OS
 rw [HL.out] at S1 ⊢
 have hSl:(sortN N).length=n:=by rw [S1.len]
 generalize sortN N=S at S1 hSl E0 ⊢
 have S1:=lH S1
 have K1:=lH (K0.out.nx kk)
 have HSL:=lH hSl
 have z01:=K1.out.size
 clear h OS kk hp hsrt hSl
 go_wp2_with fail
 go_loopw [5,16] (fun o i wr=>NoRel S P w1 o i wr) (fun _ i _=>n-(intOf i).toNat)
 case atStart=>exact ⟨0,[],by omega,rfl,OwnP.nil _ _ _ _ _,Ex.refl _⟩
 case round =>
  obtain ⟨j,qs,hj,rfl,own,ki⟩:=hrel
  rw [HSL.out] at hj
  obtain ⟨wi,rfl⟩:∃ wi:World,wi=wr:=⟨_,rfl⟩
  by_cases hjm:j<n
  ·obtain ⟨x3,o3,x,rfl,hx3,hy,hc3⟩:=(S1.out.nx ki).at hjm
   have e0:wi.cell? ⟨x3,o3+j*3,none⟩=some (.int .i64 x.id):=hc3 0 _ rfl
   have e1:wi.cell? ⟨x3,o3+j*3+1,none⟩=some (.string x.key):=hc3 1 _ rfl
   have e2:wi.cell? ⟨x3,o3+j*3+1+1,none⟩=some (.int .u32 x.word):=by simpa [Nat.add_assoc] using hc3 2 _ rfl
   have SN:=lH (no_snoc (P:=P) hy)
   have hql:qs.length=j:=by rw [own.2.1,List.length_map,List.length_take,HSL.out];omega
   have hwi:=ki.size
   have KI:=lH ki
   have OWN:=lH own
   clear hy own ki hc3
   have B7:=Blk.new wi [.int .i64 x.id,.string x.key,.int .u32 x.word] 60
   have kk:=Ex.new wi (.cells #[.int .i64 x.id,.string x.key,.int .u32 x.word] 60)
   obtain ⟨w4,hw4⟩:∃ w4,w4=wi.alloc (.cells #[.int .i64 x.id,.string x.key,.int .u32 x.word] 60):=⟨_,rfl⟩
   obtain ⟨g7,hg7⟩:∃ g7,g7=wi.heap.size:=⟨_,rfl⟩
   replace B7:Blk w4 g7 [.int .i64 x.id,.string x.key,.int .u32 x.word] 60:=by rw [hw4,hg7];exact B7
   rw [← hw4] at kk
   have Hw4:=lH hw4
   have Hg7:=lH hg7
   have zg7:wi.heap.size≤g7:=by omega
   have K4:=lH kk
   clear kk hw4 hg7
   go_upto_region 7 with fail
   rw [← Hg7.out,← Hw4.out]
   clear Hg7 Hw4
   have q0:=B7.cell 0 _ rfl
   clear e0 e1 e2
   have hz4:=K4.out.size
   have hl7:=B7.lt
   have B8:=Blk.new w4 [.int .i64 x.id,.slice none 0 0,.int .i64 0,.int .i64 0,.slice none 0 0] 36
   have kk:=Ex.new w4 (.cells #[.int .i64 x.id,.slice none 0 0,.int .i64 0,.int .i64 0,.slice none 0 0] 36)
   obtain ⟨w5,hw5⟩:∃ w5,w5=w4.alloc (.cells #[.int .i64 x.id,.slice none 0 0,.int .i64 0,.int .i64 0,.slice none 0 0] 36):=⟨_,rfl⟩
   obtain ⟨g8,hg8⟩:∃ g8,g8=w4.heap.size:=⟨_,rfl⟩
   replace B8:Blk w5 g8 [.int .i64 x.id,.slice none 0 0,.int .i64 0,.int .i64 0,.slice none 0 0] 36:=by rw [hw5,hg8];exact B8
   rw [← hw5] at kk
   have Hw5:=lH hw5
   have Hg8:=lH hg8
   replace B7:=B7.nx kk
   replace K4:=lH (K4.out.nx kk)
   have zg8:wi.heap.size≤g8:=by omega
   clear kk hw5 hg8
   go_upto_region 8 with fail
   rw [← Hg8.out,← Hw5.out]
   clear Hg8 Hw5
   clear q0
   have PI:=norm1_p g7 x w5 B7
   replace B8:=lH B8
   clear B7
   go_wp2_with fail
   (with_reducible refine (idxf_pr _ _ _ EG.out _ _ _ P _ (H2.out.nx (K1.out.nx (KI.out.nx K4.out))) hn2 PI).mono ?_)
   rintro e w6 ⟨rfl,kk⟩
   replace B8:=lH (B8.out.nx kk)
   replace K4:=lH (K4.out.nx kk)
   have HG8:=lH B8.out.lt
   clear kk PI
   rcases idxQ_cases P x.id with ⟨k,y,hq,hkl,hyk,hpy,-⟩ | ⟨hq,hpy⟩
   ·have hk2:k<n2:=by have:=H2.out.len;omega
    obtain ⟨x5,o5,b1,m1,d1,b4,m4,d4,y',rfl,hx5,hy',e0,e1,e2,e3,e4,s1,s4⟩:=(H2.out.nx (K1.out.nx KI.out)).rd hk2
    obtain rfl:y=y':=Option.some.inj (hyk.symm.trans hy')
    have HPY:=lH hpy
    have hyP:=HP.out y (List.mem_of_getElem? hyk)
    have hl1:m1≤17592186044416:=by have:=s1.len;omega
    have hl4:m4≤4398046511104:=by have:=s4.len;omega
    have S1y:=lH s1
    have S4y:=lH s4
    have c0:=Chg.cellv K4.out e0 hx5
    have c1:=Chg.cellv K4.out e1 hx5
    have c2:=Chg.cellv K4.out e2 hx5
    have c3:=Chg.cellv K4.out e3 hx5
    have c4:=Chg.cellv K4.out e4 hx5
    have f0:=B8.out.free 0
    have f1:=B8.out.free 1
    have f2:=B8.out.free 2
    have f3:=B8.out.free 3
    have f4:=B8.out.free 4
    have r0:=B8.out.cell 0 _ rfl
    have r1:=B8.out.cell 1 _ rfl
    have r2:=B8.out.cell 2 _ rfl
    have r3:=B8.out.cell 3 _ rfl
    have r4:=B8.out.cell 4 _ rfl
    have hk0:(0:Int)≤(k:Int):=by omega
    rw [hq]
    clear hq hkl hyk hpy hyP e0 e1 e2 e3 e4 s1 s4 hy' hx5
    go_upto_region 11 with fail
    have KB0:Exb g8 w6 (((((w6.setCell ⟨g8,0,none⟩ (.int .i64 y.id)).setCell ⟨g8,1,none⟩ (.slice b1 m1 d1)).setCell ⟨g8,2,none⟩ (.int .i64 y.left)).setCell ⟨g8,3,none⟩ (.int .i64 y.right)).setCell ⟨g8,4,none⟩ (.slice b4 m4 d4)) :=
     (((((Exb.refl g8 w6).setB (p:=⟨g8,0,none⟩) _ rfl).setB (p:=⟨g8,1,none⟩) _ rfl).setB (p:=⟨g8,2,none⟩) _ rfl).setB (p:=⟨g8,3,none⟩) _ rfl).setB (p:=⟨g8,4,none⟩) _ rfl
    have BS0:=((((B8.out.set 0 (.int .i64 y.id)).set 1 (.slice b1 m1 d1)).set 2 (.int .i64 y.left)).set 3 (.int .i64 y.right)).set 4 (.slice b4 m4 d4)
    obtain ⟨w7,hw7⟩:∃ w7,w7=(((((w6.setCell ⟨g8,0,none⟩ (.int .i64 y.id)).setCell ⟨g8,1,none⟩ (.slice b1 m1 d1)).setCell ⟨g8,2,none⟩ (.int .i64 y.left)).setCell ⟨g8,3,none⟩ (.int .i64 y.right)).setCell ⟨g8,4,none⟩ (.slice b4 m4 d4)):=⟨_,rfl⟩
    rw [← hw7] at KB0 BS0
    have BS:Blk w7 g8 [.int .i64 y.id,.slice b1 m1 d1,.int .i64 y.left,.int .i64 y.right,.slice b4 m4 d4] 36:=BS0
    have K8:=lH (Exl.nxb (b:=g8) (w:=wi) ⟨K4.out,zg8⟩ KB0).1
    rw [← hw7]
    have hg8l:=BS.lt
    have B8s:=lH BS
    have hz8:=K8.out.size
    clear hw7 KB0 BS0 BS c0 c1 c2 c3 c4 f0 f1 f2 f3 f4 r0 r1 r2 r3 r4 B8 K4
    refine wp_region_late_drew (S:=Ex w7) [7,8,9] (by kernel_rfl) ((Ex.refl w7).drew) (fun hHeld=>?_)
    refine tkL 0 (v:=?_) rfl (by kernel_rfl) (fun _ _ _ h=>h) (by rfl) ?y1x0q1 (by assumption) ?z1x0q1
    case y1x0q1=>intro wq hSw;(go_simp);(try with_reducible rfl)
    refine tkL 1 (v:=?_) rfl (by kernel_rfl) (fun _ _ _ h=>h) (by rfl) ?y1x1q4 (by assumption) ?z1x1q4
    case y1x1q4=>intro wq hSw;(have cq:=(B8s.out.nx hSw).cell 1 _ rfl;go_simp);(try with_reducible rfl)
    refine tkL 3 (v:=?_) rfl (by kernel_rfl) (fun _ _ _ h=>h) (by rfl) ?y1x3q7 (by assumption) ?z1x3q7
    case y1x3q7=>intro wq hSw;(go_simp);(try with_reducible rfl)
    refine tkL 4 (v:=?_) rfl (by kernel_rfl) (fun _ _ _ h=>h) (by rfl) ?y1x4q10 (by assumption) ?z1x4q10
    case y1x4q10=>intro wq hSw;(have cq:=(B8s.out.nx hSw).cell 4 _ rfl;go_simp);(try with_reducible rfl)
    refine wpAnyL_ready (rs:=[2]) (by kernel_rfl) (by simp) ?_
    refine AllReadyL.cons (o:=⟨_,_,_,_,_,_⟩) rfl (fun K hK=>?_) AllReadyL.nil
    go_simp
    (with_reducible refine (clone_i _ _ _ _ _ ((S1y.out.nx K8.out).nx hHeld) hl1).mono ?_)
    rintro e wc ⟨vc,rfl,own2,kk⟩
    (try replace own5:=own5.nx kk)
    obtain ⟨A2,C2,rfl,_,_,_,_⟩:=own2.slf (fun _=>rfl)
    replace own2:=own2.base hHeld.size
    replace hHeld:=hHeld.nx kk
    clear kk
    have BQ:=B8s.out.nx hHeld
    have KZ:=hHeld.b g8
    refine hK.out _ _ (hHeld) (fun hHeld=>?_)
    clear hK K
    refine tkL 6 (v:=?_) rfl (by kernel_rfl) (fun _ _ _ h=>h) (by rfl) ?y1x6q28 (by assumption) ?z1x6q28
    case y1x6q28=>intro wq hSw;(go_simp);(try with_reducible rfl)
    refine wpAnyL_ready (rs:=[5]) (by kernel_rfl) (by simp) ?_
    refine AllReadyL.cons (o:=⟨_,_,_,_,_,_⟩) rfl (fun K hK=>?_) AllReadyL.nil
    go_simp
    (with_reducible refine (clone_nr _ _ _ _ _ ((S4y.out.nx K8.out).nx hHeld) hl4).mono ?_)
    rintro e wc ⟨vc,rfl,own5,kk⟩
    (try replace own2:=own2.nx kk)
    obtain ⟨A5,C5,rfl,_,_,_,_⟩:=own5.slf (fun _=>rfl)
    replace own5:=own5.base hHeld.size
    replace hHeld:=hHeld.nx kk
    clear kk
    have BQ:=B8s.out.nx hHeld
    have KZ:=hHeld.b g8
    refine hK.out _ _ (hHeld) (fun hHeld=>?_)
    clear hK K
    refine wpAnyL_ready (rs:=[7]) (by kernel_rfl) (by simp) ?_
    refine AllReadyL.consL (o:=⟨_,_,_,_,_,_⟩) rfl (by rfl) (fun K hK=>?_) AllReadyL.nil
    have cq:=BQ.cell 1 _ rfl
    have fq:=BQ.free 1
    go_simp
    clear cq fq
    replace BQ:=BQ.set 1 (.slice A2 y.known.length C2)
    replace own2:=own2.nxb hg8l ((Exb.refl g8 _).setB (p:=⟨g8,1,none⟩) (.slice A2 y.known.length C2) rfl)
    replace own5:=own5.nxb hg8l ((Exb.refl g8 _).setB (p:=⟨g8,1,none⟩) (.slice A2 y.known.length C2) rfl)
    replace KZ:=KZ.setB (p:=⟨g8,1,none⟩) (.slice A2 y.known.length C2) rfl
    refine hK.out _ _ ?_
    clear hK K
    refine wpAnyL_ready (rs:=[8]) (by kernel_rfl) (by simp) ?_
    refine AllReadyL.consL (o:=⟨_,_,_,_,_,_⟩) rfl (by rfl) (fun K hK=>?_) AllReadyL.nil
    go_simp
    refine hK.out _ _ ?_
    clear hK K
    refine wpAnyL_ready (rs:=[9]) (by kernel_rfl) (by simp) ?_
    refine AllReadyL.consL (o:=⟨_,_,_,_,_,_⟩) rfl (by rfl) (fun K hK=>?_) AllReadyL.nil
    have cq:=BQ.cell 4 _ rfl
    have fq:=BQ.free 4
    go_simp
    clear cq fq
    replace BQ:=BQ.set 4 (.slice A5 y.near.length C5)
    replace own2:=own2.nxb hg8l ((Exb.refl g8 _).setB (p:=⟨g8,4,none⟩) (.slice A5 y.near.length C5) rfl)
    replace own5:=own5.nxb hg8l ((Exb.refl g8 _).setB (p:=⟨g8,4,none⟩) (.slice A5 y.near.length C5) rfl)
    replace KZ:=KZ.setB (p:=⟨g8,4,none⟩) (.slice A5 y.near.length C5) rfl
    refine hK.out _ _ ?_
    clear hK K
    refine wpAnyL_done (by kernel_rfl) ?_ _
    obtain ⟨wz,hwz⟩:∃ wz,wz=(wc.setCell ⟨g8,1,none⟩ (.slice A2 y.known.length C2)).setCell ⟨g8,4,none⟩ (.slice A5 y.near.length C5):=⟨_,rfl⟩
    rw [← hwz] at BQ own2 own5 KZ ⊢
    clear hwz
    have BF:Blk wz g8 [.int .i64 y.id,.slice A2 y.known.length C2,.int .i64 y.left,.int .i64 y.right,.slice A5 y.near.length C5] 36:=BQ
    have p0:=BF.cell 0 _ rfl
    have p1:=BF.cell 1 _ rfl
    have p2:=BF.cell 2 _ rfl
    have p3:=BF.cell 3 _ rfl
    have p4:=BF.cell 4 _ rfl
    have KW:=lH (Exl.nxb (b:=g8) (w:=wi) ⟨K8.out,zg8⟩ KZ).1
    have OP:=lH (OWN.out.nx KW.out)
    have zw:=KW.out.size
    replace own2:=lH (own2.base hz8)
    replace own5:=lH (own5.base hz8)
    have hw3:w1.heap.size≤wi.heap.size:=hwi
    have KN:=KW.out.nx (Ex.new _ (.cells #[.int .i64 y.id,.slice A2 y.known.length C2,.int .i64 y.left,.int .i64 y.right,.slice A5 y.near.length C5] 36))
    have zn:=Nat.le_trans hw3 KN.size
    clear BQ BF KZ hHeld
    go_wp2_with (at_builtin;(refine wpList_append_W (enc:=encQ) _ rfl _ _ 24 rfl w1.heap.size 36 (.agg #[.int .i64 0,.slice none 0 0,.int .i64 0,.int .i64 0,.slice none 0 0]) 5 72 Tryz.underlying24 Tryz.infoPr rfl (by omega) (by omega) _ qs (OP.out.nx (Ex.new _ _)).row rfl _ 1 1 [(y.nums,(A2,y.known.length,C2),(A5,y.near.length,C5))] (Sl.lit _ rfl rfl encQ_len rfl) encQ_len encQ_one rfl (by omega) (by omega) zn ?_);intro v9 w9 own9 ch0 ch1 _)
    have RR:=OWN.out.app (by decide) (by decide) hw3 KN (own2.out.nx (Ex.new _ _)) (own5.out.nx (Ex.new _ _)) own9 ch0
    exact ⟨⟨j+1,_,by rw [HSL.out];omega,by go_num,by rw [SN.out,HPY.out];exact RR,Chg.trans (KI.out.nx KN) ch1⟩,by simp [intOf];omega⟩
   ·have HPY:=lH hpy
    have hw3:w1.heap.size≤wi.heap.size:=hwi
    have r0:=B8.out.cell 0 _ rfl
    have r1:=B8.out.cell 1 _ rfl
    have r2:=B8.out.cell 2 _ rfl
    have r3:=B8.out.cell 3 _ rfl
    have r4:=B8.out.cell 4 _ rfl
    have KN:=K4.out.nx (Ex.new _ (.cells #[.int .i64 x.id,.slice none 0 0,.int .i64 0,.int .i64 0,.slice none 0 0] 36))
    have zn:=Nat.le_trans hw3 KN.size
    have OP:=lH (OWN.out.nx K4.out)
    rw [hq]
    clear hq hpy
    go_wp2_with (at_builtin;(refine wpList_append_W (enc:=encQ) _ rfl _ _ 24 rfl w1.heap.size 36 (.agg #[.int .i64 0,.slice none 0 0,.int .i64 0,.int .i64 0,.slice none 0 0]) 5 72 Tryz.underlying24 Tryz.infoPr rfl (by omega) (by omega) _ qs (OP.out.nx (Ex.new _ _)).row rfl _ 1 1 [((x.id,0,0),(none,0,0),(none,0,0))] (Sl.lit _ rfl rfl encQ_len rfl) encQ_len encQ_one rfl (by omega) (by omega) zn ?_);intro v9 w9 own9 ch0 ch1 _)
    have RR:=OWN.out.app (p:=⟨x.id,0,0,[],[]⟩) (hk:=(none,0,0)) (hn:=(none,0,0)) (by decide) (by decide) hw3 KN (OwnL.nil _ _ _ _ _) (OwnL.nil _ _ _ _ _) own9 ch0
    exact ⟨⟨j+1,_,by rw [HSL.out];omega,by go_num,by rw [SN.out,HPY.out];exact RR,Chg.trans (KI.out.nx KN) ch1⟩,by simp [intOf];omega⟩
  ·obtain rfl:j=n:=by omega
   rw [List.take_of_length_le (by rw [HSL.out];exact Nat.le_refl _)] at own
   have OWN:=lH (own.lower z01)
   have KI:=lH (K1.out.nx ki)
   clear own ki hj hjm
   go_wp2_with fail
   go_ret
   exact ⟨_,qs,rfl,by rw [E0.out];exact OWN.out,KI.out⟩
set_option maxHeartbeats 1000000 in
theorem row1_p (g2 g5:Nat) (a:Option Addr) (n c:Nat) (N:List Nd) (own:Nd) (w:World) (h2:Blk w g2 [.slice a n c] 23) (h5:Blk w g5 [.int .i64 own.id,.string own.key,.int .u32 own.word] 60) (hs:Sl 3 encN w a n N) (hn:n≤1000) :
  PredZ 174 #[.pointer (some ⟨g2,0,none⟩),.pointer (some ⟨g5,0,none⟩)] (gtP N own) w:=by
 intro id w' kk
 have q0:=(h2.nx kk).cell 0 _ rfl
 have B5:=h5.nx kk
 have HS:=lH (hs.nx kk)
 have HG:Hid (gtP N own id = !(Op.bytesLess (findN N id).1.key.toList own.key.toList||((findN N id).1.key.toList==own.key.toList))):=lH rfl
 clear h2 h5 hs kk
 go_enter Tryz.func174,Tryz.ntmps174
 go_wp2_with fail
 (with_reducible refine (find_p _ _ _ _ id _ HS.out (by omega)).mono ?_)
 rintro e w1 ⟨rfl,kk⟩
 replace B5:=B5.nx kk
 have K1:=lH kk
 clear kk q0 HS
 generalize findN N id=F at HG ⊢
 obtain ⟨⟨xi,xk,xw⟩,ok⟩:=F
 simp only at HG
 have q5:=B5.cell 1 _ rfl
 have hg5:=B5.lt
 have hne:¬ g5=w1.heap.size:=by omega
 have KE:=lH (K1.out.nx (Ex.new w1 (.cells #[.int .i64 xi,.string xk,.int .u32 xw] 60)))
 simp only [Nd.val]
 clear B5 K1
 go_wp2_with fail
 go_ret
 exact ⟨by rw [HG.out,Bool.not_or];rfl,KE.out⟩
theorem ar_no {N:List Nd} {p:Pr} (h:¬ ((findN N p.id).2=true∧checkN N=0)):arN N p=[]:=by unfold arN;rw [if_neg h]
set_option maxRecDepth 100000 in
set_option maxHeartbeats 4000000 in
theorem row_p (a:Option Addr) (n c:Nat) (N:List Nd) (p:Pr) (a1:Option Addr) (n1 c1:Nat) (a2:Option Addr) (n2 c2:Nat) (w:World) (h:Sl 3 encN w a n N) (hn:n≤1000) (hc:n≤c) (hm:c≤maxLen) (h1:Sl 1 encI w a1 n1 p.known) (h2:Sl 4 encNr w a2 n2 p.near) (hn1:n1≤4000000000000000000) (hn2:n2≤4000000000000000000) :
  Calls Tryz.prog 134 #[.slice a n c,.agg #[.int .i64 p.id,.slice a1 n1 c1,.int .i64 p.left,.int .i64 p.right,.slice a2 n2 c2]] w (OiPost (arN N p) w):=by
 have HL:=lH h.len
 have EX:=Ex.refl w
 have EG:Hid (∀ args w,(callFunc 174 args).run Tryz.prog w=.ok (.enter 174 args) w):=lH (enters_of Tryz.func174 (by kernel_rfl) rfl)
 obtain ⟨g2,hg2⟩:∃ g2,g2=w.heap.size:=⟨_,rfl⟩
 obtain ⟨g3,hg3⟩:∃ g3,g3=(w.heap.size+1):=⟨_,rfl⟩
 obtain ⟨w1,hw1⟩:∃ w1,w1=((w.alloc (.cells #[.slice a n c] 23)).alloc (.cells #[.int .i64 p.id,.slice a1 n1 c1,.int .i64 p.left,.int .i64 p.right,.slice a2 n2 c2] 36)):=⟨_,rfl⟩
 have kk:Ex w w1:=by rw [hw1];exact (((Ex.refl w).alloc (.cells #[.slice a n c] 23)).alloc (.cells #[.int .i64 p.id,.slice a1 n1 c1,.int .i64 p.left,.int .i64 p.right,.slice a2 n2 c2] 36))
 have B2:Blk w1 g2 [.slice a n c] 23:=by rw [hw1];simp only [hg2,hg3];have hbk:=((Blk.new w [.slice a n c] 23).nx (Ex.new _ (.cells #[.int .i64 p.id,.slice a1 n1 c1,.int .i64 p.left,.int .i64 p.right,.slice a2 n2 c2] 36)));simpa using hbk
 have B3:Blk w1 g3 [.int .i64 p.id,.slice a1 n1 c1,.int .i64 p.left,.int .i64 p.right,.slice a2 n2 c2] 36:=by rw [hw1];simp only [hg2,hg3];have hbk:=(Blk.new (w.alloc (.cells #[.slice a n c] 23)) [.int .i64 p.id,.slice a1 n1 c1,.int .i64 p.left,.int .i64 p.right,.slice a2 n2 c2] 36);simpa using hbk
 have Hw1:=lH hw1
 have Hg2:=lH hg2
 have Hg3:=lH hg3
 replace h:=h.nx kk
 replace h1:=h1.nx kk
 replace h2:=h2.nx kk
 replace EX:=EX.nx kk
 clear kk hw1 hg2 hg3
 go_enter Tryz.func134,Tryz.ntmps134
 go_upto_region 1 with fail
 rw [← Hw1.out,← Hg3.out,← Hg2.out]
 clear Hw1 Hg3 Hg2
 have q2:=B2.cell 0 _ rfl
 have q3:=B3.cell 0 _ rfl
 go_wp2_with fail
 (with_reducible refine (find_p _ _ _ _ p.id _ h (by omega)).mono ?_)
 rintro e w2 ⟨rfl,kk⟩
 replace h:=h.nx kk
 replace h1:=h1.nx kk
 replace h2:=h2.nx kk
 replace EX:=EX.nx kk
 replace B2:=B2.nx kk
 replace B3:=B3.nx kk
 clear kk
 clear q2 q3
 have HNO:=lH (ar_no (N:=N) (p:=p))
 have HFM:=lH (fun hf=>findN_mem (l:=N) (id:=p.id) hf)
 obtain ⟨F,hF⟩:∃ F,F=findN N p.id:=⟨_,rfl⟩
 have HF:=lH hF
 rw [← hF] at HNO ⊢
 clear hF
 obtain ⟨⟨xi,xk,xw⟩,ok⟩:=F
 have B5:=Blk.new w2 [.int .i64 xi,.string xk,.int .u32 xw] 60
 have kk:=Ex.new w2 (.cells #[.int .i64 xi,.string xk,.int .u32 xw] 60)
 obtain ⟨w3,hw3⟩:∃ w3,w3=w2.alloc (.cells #[.int .i64 xi,.string xk,.int .u32 xw] 60):=⟨_,rfl⟩
 obtain ⟨g5,hg5⟩:∃ g5,g5=w2.heap.size:=⟨_,rfl⟩
 replace B5:Blk w3 g5 [.int .i64 xi,.string xk,.int .u32 xw] 60:=by rw [hw3,hg5];exact B5
 rw [← hw3] at kk
 have Hw3:=lH hw3
 have Hg5:=lH hg5
 replace h:=h.nx kk
 replace h1:=h1.nx kk
 replace h2:=h2.nx kk
 replace EX:=EX.nx kk
 replace B2:=B2.nx kk
 replace B3:=B3.nx kk
 clear kk hw3 hg5
 simp only [Nd.val]
 go_upto_region 2 with fail
 rw [← Hg5.out,← Hw3.out]
 clear Hg5 Hw3
 cases ok with
 | false =>
  have E0:Hid (arN N p=[]):=lH (HNO.out (fun hh=>by cases hh.1))
  have EX:=lH EX
  clear h h1 h2 B2 B3 B5
  go_wp2_with fail
  go_ret
  exact ⟨_,rfl,by rw [E0.out];exact OwnL.nil _ _ _ _ _,EX.out⟩
 | true =>
  have q2:=B2.cell 0 _ rfl
  go_wp2_with fail
  (with_reducible refine (check_p _ _ _ _ _ h (by omega) hc hm).mono ?_)
  rintro e w4 ⟨rfl,kk⟩
  replace h:=h.nx kk
  replace h1:=h1.nx kk
  replace h2:=h2.nx kk
  replace EX:=EX.nx kk
  replace B2:=B2.nx kk
  replace B3:=B3.nx kk
  replace B5:=B5.nx kk
  clear kk
  clear q2
  by_cases hck:checkN N=0
  case neg =>
   have d1:(checkN N != 0)=true:=by simpa using hck
   have E0:Hid (arN N p=[]):=lH (HNO.out (fun hh=>hck hh.2))
   have EX:=lH EX
   clear h h1 h2 B2 B3 B5 hck
   go_wp2_with fail
   go_ret
   exact ⟨_,rfl,by rw [E0.out];exact OwnL.nil _ _ _ _ _,EX.out⟩
  have d1:(checkN N != 0)=false:=by simpa using hck
  have HC:=lH hck
  clear hck HNO
  obtain ⟨hxN,hxi⟩:(⟨xi,xk,xw⟩:Nd)∈N∧xi=p.id:=by
   have:=HFM.out (by rw [← HF.out])
   rw [← HF.out] at this
   exact this
  have RL:=lH (row_law HC.out hxN (p:=p) hxi)
  clear hxN hxi HFM
  have q2:=B2.cell 0 _ rfl
  have q30:=B3.cell 0 _ rfl
  have q31:=B3.cell 1 _ rfl
  have q32:=B3.cell 2 _ rfl
  have q33:=B3.cell 3 _ rfl
  have q34:=B3.cell 4 _ rfl
  have z4:=EX.size
  go_wp2_with fail
  (with_reducible refine (refs_p _ _ _ N p _ _ _ _ _ _ _ h (by omega) hc hm h1 h2 hn1 hn2).mono ?_)
  rintro e w5 ⟨v,rfl,own,kk⟩
  replace h:=h.nx kk
  replace EX:=EX.nx kk
  replace B2:=B2.nx kk
  replace B3:=B3.nx kk
  replace B5:=B5.nx kk
  clear kk
  clear q2 q30 q31 q32 q33 q34 h1 h2
  replace own:=own.base z4
  obtain ⟨aR,cR,rfl,R1,hcR,hmR,_⟩:=own.slf (fun _=>rfl)
  have hrl:(refsN N p).length≤1000:=by
   have:=HL.out
   have h9:(refsN N p).length≤N.length:=by
    unfold refsN
    split
    ·exact ord_len _ _
    ·exact Nat.zero_le _
   omega
  generalize refsN N p=R at own R1 RL hcR hrl ⊢
  have RS:=R1.sl
  have PI:=row1_p g2 g5 a n c N ⟨xi,xk,xw⟩ w5 B2 B5 h hn
  go_wp2_with fail
  (with_reducible refine (idxf_z _ _ _ EG.out _ _ _ R _ RS (by omega) PI).mono ?_)
  rintro e w6 ⟨rfl,kk⟩
  replace own:=own.nx kk
  replace EX:=EX.nx kk
  replace B3:=B3.nx kk
  clear kk PI RS R1 B2 B5 h
  have zw:=EX.size
  have q30:=B3.cell 0 _ rfl
  have FIN:Hid (∀ (i:Nat),R.findIdx (gtP N ⟨xi,xk,xw⟩)=i→insZ R i p.id=arN N p):=lH (fun i hi=>by rw [← RL.out,← hi];rfl)
  rcases idxZ_cases (gtP N ⟨xi,xk,xw⟩) R with ⟨k,hq,hi,hk⟩ | ⟨hq,hi⟩
  ·rw [hq]
   have hk0:¬ (k:Int)<0:=by omega
   have HI:=lH (FIN.out k hi)
   have zw6:=EX.size
   have hne9:∀ g,g=w6.heap.size→¬ (Value.slice aR R.length cR).ownBlock=some g:=fun g hg hv=>by have:=(own.lt g hv).2;omega
   clear hq hi FIN
   have B9:=Blk.new w6 [.int .i64 p.id] 3
   have kk:=Ex.new w6 (.cells #[.int .i64 p.id] 3)
   obtain ⟨w7,hw7⟩:∃ w7,w7=w6.alloc (.cells #[.int .i64 p.id] 3):=⟨_,rfl⟩
   obtain ⟨g9,hg9⟩:∃ g9,g9=w6.heap.size:=⟨_,rfl⟩
   replace B9:Blk w7 g9 [.int .i64 p.id] 3:=by rw [hw7,hg9];exact B9
   rw [← hw7] at kk
   have Hw7:=lH hw7
   have Hg9:=lH hg9
   replace own:=own.nx kk
   replace EX:=EX.nx kk
   replace hne9:=lH (hne9 g9 hg9)
   clear kk hw7 hg9
   have zw7:=EX.size
   go_wp2_with fail
   rw [← Hg9.out,← Hw7.out]
   clear Hg9 Hw7 q30 B3
   (with_reducible refine (insert_i _ R w.heap.size k p.id g9 _ own zw7 (by omega) (by omega) B9 hne9.out).mono ?_)
   rintro e w8 ⟨v8,rfl,own8,ch⟩
   have FO:=lH own8
   have FE:=lH (Chg.trans EX ch)
   clear own8 ch own B9 EX
   go_wp2_with fail
   go_ret
   exact ⟨_,rfl,by rw [← HI.out];exact FO.out,FE.out⟩
  ·rw [hq]
   have HI:=lH (FIN.out R.length hi)
   have zw6:=EX.size
   have hne9:∀ g,g=w6.heap.size→¬ (Value.slice aR R.length cR).ownBlock=some g:=fun g hg hv=>by have:=(own.lt g hv).2;omega
   clear hq hi FIN
   have B9:=Blk.new w6 [.int .i64 p.id] 3
   have kk:=Ex.new w6 (.cells #[.int .i64 p.id] 3)
   obtain ⟨w7,hw7⟩:∃ w7,w7=w6.alloc (.cells #[.int .i64 p.id] 3):=⟨_,rfl⟩
   obtain ⟨g9,hg9⟩:∃ g9,g9=w6.heap.size:=⟨_,rfl⟩
   replace B9:Blk w7 g9 [.int .i64 p.id] 3:=by rw [hw7,hg9];exact B9
   rw [← hw7] at kk
   have Hw7:=lH hw7
   have Hg9:=lH hg9
   replace own:=own.nx kk
   replace EX:=EX.nx kk
   replace hne9:=lH (hne9 g9 hg9)
   clear kk hw7 hg9
   have zw7:=EX.size
   go_wp2_with fail
   rw [← Hg9.out,← Hw7.out]
   clear Hg9 Hw7 q30 B3
   (with_reducible refine (insert_i _ R w.heap.size R.length p.id g9 _ own zw7 (by omega) (by omega) B9 hne9.out).mono ?_)
   rintro e w8 ⟨v8,rfl,own8,ch⟩
   have FO:=lH own8
   have FE:=lH (Chg.trans EX ch)
   clear own8 ch own B9 EX
   go_wp2_with fail
   go_ret
   exact ⟨_,rfl,by rw [← HI.out];exact FO.out,FE.out⟩
def KpPost (N:List Nd) (p:Pr) (w:World) (e:Ending) (w':World):Prop:=e=.returned (.agg #[.int .i64 (keepN N p).1,.int .i64 (keepN N p).2])∧Ex w w'
theorem idx_here {l:List Int} {id:Int} {k:Nat} (h:l.findIdx (fun x=>id==x)=k) (hk:k<l.length):l[k]?=some id:=by
 subst h
 have:=List.findIdx_getElem (w:=hk)
 rw [List.getElem?_eq_getElem hk]
 simp only [beq_iff_eq] at this
 rw [← this]
theorem idx_gone {l:List Int} {id:Int} (h:l.findIdx (fun x=>id==x)=l.length):id∉l:=by
 intro hm
 have:l.findIdx (fun x=>id==x)<l.length:=List.findIdx_lt_length.2 ⟨id,hm,by simp⟩
 omega
set_option maxRecDepth 100000 in
set_option maxHeartbeats 4000000 in
theorem keep_p (a:Option Addr) (n c:Nat) (N:List Nd) (p:Pr) (a1:Option Addr) (n1 c1:Nat) (a2:Option Addr) (n2 c2:Nat) (w:World) (h:Sl 3 encN w a n N) (hn:n≤1000) (hc:n≤c) (hm:c≤maxLen) (h1:Sl 1 encI w a1 n1 p.known) (h2:Sl 4 encNr w a2 n2 p.near) (hn1:n1≤4000000000000000000) (hn2:n2≤4000000000000000000) :
  Calls Tryz.prog 76 #[.slice a n c,.agg #[.int .i64 p.id,.slice a1 n1 c1,.int .i64 p.left,.int .i64 p.right,.slice a2 n2 c2]] w (KpPost N p w):=by
 have EX:=Ex.refl w
 have HL:=lH h.len
 obtain ⟨g3,hg3⟩:∃ g3,g3=w.heap.size:=⟨_,rfl⟩
 obtain ⟨g4,hg4⟩:∃ g4,g4=(w.heap.size+1):=⟨_,rfl⟩
 obtain ⟨w1,hw1⟩:∃ w1,w1=((w.alloc (.cells #[.int .i64 p.id,.slice a1 n1 c1,.int .i64 p.left,.int .i64 p.right,.slice a2 n2 c2] 36)).alloc (.cells #[.int .i64 0,.int .i64 0] 100)):=⟨_,rfl⟩
 have kk:Ex w w1:=by rw [hw1];exact (((Ex.refl w).alloc (.cells #[.int .i64 p.id,.slice a1 n1 c1,.int .i64 p.left,.int .i64 p.right,.slice a2 n2 c2] 36)).alloc (.cells #[.int .i64 0,.int .i64 0] 100))
 have B3:Blk w1 g3 [.int .i64 p.id,.slice a1 n1 c1,.int .i64 p.left,.int .i64 p.right,.slice a2 n2 c2] 36:=by rw [hw1];simp only [hg3,hg4];have hbk:=((Blk.new w [.int .i64 p.id,.slice a1 n1 c1,.int .i64 p.left,.int .i64 p.right,.slice a2 n2 c2] 36).nx (Ex.new _ (.cells #[.int .i64 0,.int .i64 0] 100)));simpa using hbk
 have B4:Blk w1 g4 [.int .i64 0,.int .i64 0] 100:=by rw [hw1];simp only [hg3,hg4];have hbk:=(Blk.new (w.alloc (.cells #[.int .i64 p.id,.slice a1 n1 c1,.int .i64 p.left,.int .i64 p.right,.slice a2 n2 c2] 36)) [.int .i64 0,.int .i64 0] 100);simpa using hbk
 have Hw1:=lH hw1
 have Hg3:=lH hg3
 have Hg4:=lH hg4
 replace h:=h.nx kk
 replace h1:=h1.nx kk
 replace h2:=h2.nx kk
 replace EX:=EX.nx kk
 have zg4:w.heap.size≤g4:=by omega
 clear kk hw1 hg3 hg4
 go_enter Tryz.func76,Tryz.ntmps76
 go_upto_region 1 with fail
 rw [← Hw1.out,← Hg4.out,← Hg3.out]
 clear Hw1 Hg4 Hg3
 have q0:=B3.cell 0 _ rfl
 have q1:=B3.cell 1 _ rfl
 have q2:=B3.cell 2 _ rfl
 have q3:=B3.cell 3 _ rfl
 have q4:=B3.cell 4 _ rfl
 have z1:=EX.size
 go_wp2_with fail
 (with_reducible refine (row_p _ _ _ N p _ _ _ _ _ _ _ h hn hc hm h1 h2 hn1 hn2).mono ?_)
 rintro e w2 ⟨v,rfl,own,kk⟩
 replace EX:=EX.nx kk
 replace B3:=B3.nx kk
 replace B4:=B4.nx kk
 clear kk
 clear q0 q1 q2 q3 q4 h h1 h2
 have hrl:(arN N p).length≤1000:=by
  have h1:=HL.out
  have h2:=ar_len (N:=N) p
  omega
 obtain ⟨aR,cR,rfl,R1,_,_,_⟩:=own.slf (fun _=>rfl)
 have S:=R1.sl
 have KN:Hid (∀ r,besN p.id (arN N p)=r→keepN N p=r):=lH (fun r hr=>hr)
 have ND:=lH (ar_nodup' (N:=N) p)
 generalize arN N p=R at own R1 S KN ND hrl ⊢
 clear own R1
 have q0:=B3.cell 0 _ rfl
 go_wp2_with fail
 (with_reducible refine (index_e _ _ _ R p.id _ S (by omega)).mono ?_)
 rintro e w3 ⟨rfl,kk⟩
 replace S:=S.nx kk
 replace EX:=EX.nx kk
 replace B4:=B4.nx kk
 clear kk
 clear q0 B3
 have zw3:=EX.size
 have hl4:=B4.lt
 have B7:=Blk.new w3 [.int .i64 0,.int .i64 0] 100
 have kk:=Ex.new w3 (.cells #[.int .i64 0,.int .i64 0] 100)
 obtain ⟨w4,hw4⟩:∃ w4,w4=w3.alloc (.cells #[.int .i64 0,.int .i64 0] 100):=⟨_,rfl⟩
 obtain ⟨g7,hg7⟩:∃ g7,g7=w3.heap.size:=⟨_,rfl⟩
 replace B7:Blk w4 g7 [.int .i64 0,.int .i64 0] 100:=by rw [hw4,hg7];exact B7
 rw [← hw4] at kk
 have Hw4:=lH hw4
 have Hg7:=lH hg7
 replace EX:=EX.nx kk
 replace B4:=B4.nx kk
 have zg7:w.heap.size≤g7:=by omega
 have hg47:¬ g4=g7:=by omega
 have KK:=lH kk
 have HG7:=lH hg7
 clear kk hw4 hg7
 have hR:¬ (-1:Int)>0:=by omega
 rcases idxZ_cases (fun x=>p.id==x) R with ⟨k,hq,hi,hk⟩ | ⟨hq,hi⟩
 ·rw [hq]
  have hk0:(0:Int)≤(k:Int):=by omega
  have HH:=lH (bes_nodup ND.out (idx_here hi hk))
  clear hq hi hR
  by_cases hz:k=0
  ·subst hz
   by_cases h1:0+1<R.length
   ·obtain ⟨xr,xo,yr,rfl,hxr0,hyr,hcr⟩:=S.at h1
    have cr0:w3.cell? ⟨xr,xo+(0+1),none⟩=some (.int .i64 yr):=by simpa using hcr 0 _ rfl
    have cr:=Chg.cellv KK.out cr0 hxr0
    have HYR:=lH hyr
    have hxr:xr≠g7:=by have:=HG7.out;omega
    clear hcr hyr cr0 hxr0
    have KE:Hid (keepN N p=(0,yr)):=lH (KN.out _ (by rw [HH.out,HYR.out];rfl))
    have B4h:=lH B4
    have B7h:=lH B7
    have EXh:=lH EX
    clear B4 B7 EX KN ND
    go_upto_region 4 with fail
    rw [← Hg7.out,← Hw4.out]
    clear Hg7 Hw4
    obtain ⟨w5,hw5⟩:∃ w5,w5=w4:=⟨_,rfl⟩
    have cR5:=lH (fun (x:Addr) (v:Value) (_:x.block≠g7) (hv:w4.cell? x=some v)=>show w5.cell? x=some v by rw [hw5];exact hv)
    rw [← hw5] at B4h B7h EXh ⊢
    have B7i:=B7h.out
    have B4i:=B4h.out
    have EXi:=EXh.out
    clear hw5 B7h B4h EXh
    go_upto_region 6 with fail
    have B4i:=lH B4i
    have B7i:=lH B7i
    have EXi:=lH EXi
    have cq:=cR5.out _ _ hxr cr
    have f7:=B7i.out.free 1
    have r7:=B7i.out.cell 1 _ rfl
    go_upto_region 8 with fail
    obtain ⟨w6,hw6⟩:∃ w6,w6=w5.setCell ⟨g7,1,none⟩ (.int .i64 yr):=⟨_,rfl⟩
    rw [← hw6]
    have B7j:Blk w6 g7 [.int .i64 0,.int .i64 yr] 100:=by rw [hw6];exact B7i.out.set 1 _
    have B4j:Blk w6 g4 [.int .i64 0,.int .i64 0] 100:=by rw [hw6];exact B4i.out.set_ne _ hg47
    have EXj:Ex w w6:=by rw [hw6];exact EXi.out.setNew (p:=⟨g7,1,none⟩) _ zg7
    clear hw6 f7 r7 cq cR5 B7i B4i EXi
    have p0:=B7j.cell 0 _ rfl
    have p1:=B7j.cell 1 _ rfl
    have q0:=B4j.cell 0 _ rfl
    have q1:=B4j.cell 1 _ rfl
    have f0:=B4j.free 0
    have f1:=B4j.free 1
    have KF:=lH ((EXj.setNew (p:=⟨g4,0,none⟩) (.int .i64 0) zg4).setNew (p:=⟨g4,1,none⟩) (.int .i64 yr) zg4)
    clear B7j B4j EXj
    go_wp2_with fail
    refine bodyPost_ret (v:=.agg #[.int .i64 0,.int .i64 yr]) (by simp [results,Tryz.results76,go_sem, *]) rfl ⟨by rw [KE.out],KF.out⟩
   ·have hR0:R[0+1]?=none:=List.getElem?_eq_none (by omega)
    have HR0:=lH hR0
    clear hR0
    have KE:Hid (keepN N p=(0,0)):=lH (KN.out _ (by rw [HH.out,HR0.out];rfl))
    have B4h:=lH B4
    have B7h:=lH B7
    have EXh:=lH EX
    clear B4 B7 EX KN ND
    go_upto_region 4 with fail
    rw [← Hg7.out,← Hw4.out]
    clear Hg7 Hw4
    obtain ⟨w5,hw5⟩:∃ w5,w5=w4:=⟨_,rfl⟩
    have cR5:=lH (fun (x:Addr) (v:Value) (_:x.block≠g7) (hv:w4.cell? x=some v)=>show w5.cell? x=some v by rw [hw5];exact hv)
    rw [← hw5] at B4h B7h EXh ⊢
    have B7i:=B7h.out
    have B4i:=B4h.out
    have EXi:=EXh.out
    clear hw5 B7h B4h EXh
    go_upto_region 6 with fail
    have B4i:=lH B4i
    have B7i:=lH B7i
    have EXi:=lH EXi
    go_upto_region 8 with fail
    obtain ⟨w6,hw6⟩:∃ w6,w6=w5:=⟨_,rfl⟩
    rw [← hw6] at B4i B7i EXi ⊢
    have B7j:=B7i.out
    have B4j:=B4i.out
    have EXj:=EXi.out
    clear hw6 cR5 B7i B4i EXi
    have p0:=B7j.cell 0 _ rfl
    have p1:=B7j.cell 1 _ rfl
    have q0:=B4j.cell 0 _ rfl
    have q1:=B4j.cell 1 _ rfl
    have f0:=B4j.free 0
    have f1:=B4j.free 1
    have KF:=lH ((EXj.setNew (p:=⟨g4,0,none⟩) (.int .i64 0) zg4).setNew (p:=⟨g4,1,none⟩) (.int .i64 0) zg4)
    clear B7j B4j EXj
    go_wp2_with fail
    refine bodyPost_ret (v:=.agg #[.int .i64 0,.int .i64 0]) (by simp [results,Tryz.results76,go_sem, *]) rfl ⟨by rw [KE.out],KF.out⟩
  ·obtain ⟨xl,xo,yl,rfl,hxl0,hyl,hcl⟩:=S.at (show k-1<R.length by omega)
   have cl0:w3.cell? ⟨xl,xo+(k-1),none⟩=some (.int .i64 yl):=by simpa using hcl 0 _ rfl
   have cl:=Chg.cellv KK.out cl0 hxl0
   have HYL:=lH hyl
   have hkp:(0:Int)<(k:Int):=by omega
   clear hcl hyl cl0
   by_cases h1:k+1<R.length
   ·obtain ⟨xr,xo',yr,hee,hxr0,hyr,hcr⟩:=S.at h1
    cases hee
    have cr0:w3.cell? ⟨xl,xo+(k+1),none⟩=some (.int .i64 yr):=by simpa using hcr 0 _ rfl
    have cr:=Chg.cellv KK.out cr0 hxr0
    have HYR:=lH hyr
    have hxr:xl≠g7:=by have:=HG7.out;omega
    clear hcr hyr cr0 hxr0
    have KE:Hid (keepN N p=(yl,yr)):=lH (KN.out _ (by rw [HH.out,HYR.out,HYL.out,if_neg hz];rfl))
    have B4h:=lH B4
    have B7h:=lH B7
    have EXh:=lH EX
    clear B4 B7 EX KN ND
    go_upto_region 4 with fail
    rw [← Hg7.out,← Hw4.out]
    clear Hg7 Hw4
    have f7:=B7h.out.free 0
    have r7:=B7h.out.cell 0 _ rfl
    go_upto_region 6 with fail
    obtain ⟨w5,hw5⟩:∃ w5,w5=w4.setCell ⟨g7,0,none⟩ (.int .i64 yl):=⟨_,rfl⟩
    rw [← hw5]
    have B7i:Blk w5 g7 [.int .i64 yl,.int .i64 0] 100:=by rw [hw5];exact B7h.out.set 0 _
    have B4i:Blk w5 g4 [.int .i64 0,.int .i64 0] 100:=by rw [hw5];exact B4h.out.set_ne _ hg47
    have EXi:Ex w w5:=by rw [hw5];exact EXh.out.setNew (p:=⟨g7,0,none⟩) _ zg7
    have cR5:=lH (fun (x:Addr) (v:Value) (hx:x.block≠g7) (hv:w4.cell? x=some v)=>show w5.cell? x=some v by rw [hw5];exact (World.cell?_of_block (heap_set_ne rfl hx)).trans hv)
    clear hw5 f7 r7 B7h B4h EXh
    have B4i:=lH B4i
    have B7i:=lH B7i
    have EXi:=lH EXi
    have cq:=cR5.out _ _ hxr cr
    have f7:=B7i.out.free 1
    have r7:=B7i.out.cell 1 _ rfl
    go_upto_region 8 with fail
    obtain ⟨w6,hw6⟩:∃ w6,w6=w5.setCell ⟨g7,1,none⟩ (.int .i64 yr):=⟨_,rfl⟩
    rw [← hw6]
    have B7j:Blk w6 g7 [.int .i64 yl,.int .i64 yr] 100:=by rw [hw6];exact B7i.out.set 1 _
    have B4j:Blk w6 g4 [.int .i64 0,.int .i64 0] 100:=by rw [hw6];exact B4i.out.set_ne _ hg47
    have EXj:Ex w w6:=by rw [hw6];exact EXi.out.setNew (p:=⟨g7,1,none⟩) _ zg7
    clear hw6 f7 r7 cq cR5 B7i B4i EXi
    have p0:=B7j.cell 0 _ rfl
    have p1:=B7j.cell 1 _ rfl
    have q0:=B4j.cell 0 _ rfl
    have q1:=B4j.cell 1 _ rfl
    have f0:=B4j.free 0
    have f1:=B4j.free 1
    have KF:=lH ((EXj.setNew (p:=⟨g4,0,none⟩) (.int .i64 yl) zg4).setNew (p:=⟨g4,1,none⟩) (.int .i64 yr) zg4)
    clear B7j B4j EXj
    go_wp2_with fail
    refine bodyPost_ret (v:=.agg #[.int .i64 yl,.int .i64 yr]) (by simp [results,Tryz.results76,go_sem, *]) rfl ⟨by rw [KE.out],KF.out⟩
   ·have hR0:R[k+1]?=none:=List.getElem?_eq_none (by omega)
    have HR0:=lH hR0
    clear hR0
    have KE:Hid (keepN N p=(yl,0)):=lH (KN.out _ (by rw [HH.out,HR0.out,HYL.out,if_neg hz];rfl))
    have B4h:=lH B4
    have B7h:=lH B7
    have EXh:=lH EX
    clear B4 B7 EX KN ND
    go_upto_region 4 with fail
    rw [← Hg7.out,← Hw4.out]
    clear Hg7 Hw4
    have f7:=B7h.out.free 0
    have r7:=B7h.out.cell 0 _ rfl
    go_upto_region 6 with fail
    obtain ⟨w5,hw5⟩:∃ w5,w5=w4.setCell ⟨g7,0,none⟩ (.int .i64 yl):=⟨_,rfl⟩
    rw [← hw5]
    have B7i:Blk w5 g7 [.int .i64 yl,.int .i64 0] 100:=by rw [hw5];exact B7h.out.set 0 _
    have B4i:Blk w5 g4 [.int .i64 0,.int .i64 0] 100:=by rw [hw5];exact B4h.out.set_ne _ hg47
    have EXi:Ex w w5:=by rw [hw5];exact EXh.out.setNew (p:=⟨g7,0,none⟩) _ zg7
    have cR5:=lH (fun (x:Addr) (v:Value) (hx:x.block≠g7) (hv:w4.cell? x=some v)=>show w5.cell? x=some v by rw [hw5];exact (World.cell?_of_block (heap_set_ne rfl hx)).trans hv)
    clear hw5 f7 r7 B7h B4h EXh
    have B4i:=lH B4i
    have B7i:=lH B7i
    have EXi:=lH EXi
    go_upto_region 8 with fail
    obtain ⟨w6,hw6⟩:∃ w6,w6=w5:=⟨_,rfl⟩
    rw [← hw6] at B4i B7i EXi ⊢
    have B7j:=B7i.out
    have B4j:=B4i.out
    have EXj:=EXi.out
    clear hw6 cR5 B7i B4i EXi
    have p0:=B7j.cell 0 _ rfl
    have p1:=B7j.cell 1 _ rfl
    have q0:=B4j.cell 0 _ rfl
    have q1:=B4j.cell 1 _ rfl
    have f0:=B4j.free 0
    have f1:=B4j.free 1
    have KF:=lH ((EXj.setNew (p:=⟨g4,0,none⟩) (.int .i64 yl) zg4).setNew (p:=⟨g4,1,none⟩) (.int .i64 0) zg4)
    clear B7j B4j EXj
    go_wp2_with fail
    refine bodyPost_ret (v:=.agg #[.int .i64 yl,.int .i64 0]) (by simp [results,Tryz.results76,go_sem, *]) rfl ⟨by rw [KE.out],KF.out⟩
 ·rw [hq]
  have HH:=lH (bes_none (idx_gone hi))
  clear hq hi
  have KE:Hid (keepN N p=(0,0)):=lH (KN.out _ (by rw [HH.out]))
  have B4h:=lH B4
  have B7h:=lH B7
  have EXh:=lH EX
  clear B4 B7 EX KN ND
  go_upto_region 4 with fail
  rw [← Hg7.out,← Hw4.out]
  clear Hg7 Hw4
  obtain ⟨w5,hw5⟩:∃ w5,w5=w4:=⟨_,rfl⟩
  have cR5:=lH (fun (x:Addr) (v:Value) (_:x.block≠g7) (hv:w4.cell? x=some v)=>show w5.cell? x=some v by rw [hw5];exact hv)
  rw [← hw5] at B4h B7h EXh ⊢
  have B7i:=B7h.out
  have B4i:=B4h.out
  have EXi:=EXh.out
  clear hw5 B7h B4h EXh
  go_upto_region 6 with fail
  have B4i:=lH B4i
  have B7i:=lH B7i
  have EXi:=lH EXi
  go_upto_region 8 with fail
  obtain ⟨w6,hw6⟩:∃ w6,w6=w5:=⟨_,rfl⟩
  rw [← hw6] at B4i B7i EXi ⊢
  have B7j:=B7i.out
  have B4j:=B4i.out
  have EXj:=EXi.out
  clear hw6 cR5 B7i B4i EXi
  have p0:=B7j.cell 0 _ rfl
  have p1:=B7j.cell 1 _ rfl
  have q0:=B4j.cell 0 _ rfl
  have q1:=B4j.cell 1 _ rfl
  have f0:=B4j.free 0
  have f1:=B4j.free 1
  have KF:=lH ((EXj.setNew (p:=⟨g4,0,none⟩) (.int .i64 0) zg4).setNew (p:=⟨g4,1,none⟩) (.int .i64 0) zg4)
  clear B7j B4j EXj
  go_wp2_with fail
  refine bodyPost_ret (v:=.agg #[.int .i64 0,.int .i64 0]) (by simp [results,Tryz.results76,go_sem, *]) rfl ⟨by rw [KE.out],KF.out⟩
theorem Tryz.infoIn:(Tryz.prog.info? 78).map (fun i=>(i.zero,i.size,i.bytes))=some (some (.agg #[.int .i64 0,.int .i64 0]),2,16):=by kernel_rfl
def InPost (M:List (Int×Int)) (w:World) (e:Ending) (w':World):Prop:=∃ v,e=.returned v∧OwnW 2 encS 78 w.heap.size w' v M∧Ex w w'
def IoRel (L:List Int) (id:Int) (w:World) (o i:Value) (wr:World):Prop :=
 ∃ k:Nat,1≤k∧k≤L.length+1∧i=.int .i64 k∧OwnW 2 encS 78 w.heap.size wr o (((L.zip L.tail).take (k-1)).flatMap (pr2 id))∧Ex w wr
def prT (a b:Int):List (Int×Int):=[(a,b),(b,a)]
def notTo (id:Int) (q:Int×Int):Bool:=!(q.1==id)
theorem prT_all (id a b:Int):(prT a b).filter (notTo id)=pr2 id (a,b):=by
 unfold prT pr2 notTo
 by_cases h1:a=id<;>by_cases h2:b=id<;>simp [List.filter_cons,h1,h2]
theorem prT_snoc {id a b:Int} {q:Nat} {y:Int×Int} (hy:(prT a b)[q]?=some y):((prT a b).take (q+1)).filter (notTo id)=((prT a b).take q).filter (notTo id)++(if notTo id y=true then [y] else []):=by
 rw [List.take_add_one,hy,List.filter_append]
 congr 1
 simp only [Option.toList_some,List.filter_cons,List.filter_nil]
def IiRel (O:List (Int×Int)) (id a b:Int) (base lo:Nat) (w:World) (o i:Value) (wr:World):Prop :=
 ∃ q:Nat,q≤2∧i=.int .i64 q∧OwnW 2 encS 78 base wr o (O++((prT a b).take q).filter (notTo id))∧Acc base lo w.heap.size w wr o
theorem litIn {wb wq:World} (h:Ex wb wq) (a b:Int):∃ g wn,g=wq.heap.size∧wn=wq.alloc (.cells #[.int .i64 a,.int .i64 b,.int .i64 b,.int .i64 a] 78)∧Slf 2 encS wb wn (some ⟨g,0,none⟩) 2 (prT a b)∧Ex wb wn :=
 ⟨_,_,rfl,rfl,Slf.lit (prT a b) rfl h.size rfl (fun _=>rfl) rfl,h.alloc _⟩
set_option maxRecDepth 100000 in
set_option maxHeartbeats 8000000 in
theorem intros_p (a:Option Addr) (n c:Nat) (N:List Nd) (p:Pr) (a1:Option Addr) (n1 c1:Nat) (a2:Option Addr) (n2 c2:Nat) (w:World) (h:Sl 3 encN w a n N) (hn:n≤1000) (hc:n≤c) (hm:c≤maxLen) (h1:Sl 1 encI w a1 n1 p.known) (h2:Sl 4 encNr w a2 n2 p.near) (hn1:n1≤4000000000000000000) (hn2:n2≤4000000000000000000) :
  Calls Tryz.prog 75 #[.slice a n c,.agg #[.int .i64 p.id,.slice a1 n1 c1,.int .i64 p.left,.int .i64 p.right,.slice a2 n2 c2]] w (InPost (introsN N p) w):=by
 have EX:=Ex.refl w
 have HL:=lH h.len
 have B3:=Blk.new w [.int .i64 p.id,.slice a1 n1 c1,.int .i64 p.left,.int .i64 p.right,.slice a2 n2 c2] 36
 have kk:=Ex.new w (.cells #[.int .i64 p.id,.slice a1 n1 c1,.int .i64 p.left,.int .i64 p.right,.slice a2 n2 c2] 36)
 obtain ⟨w1,hw1⟩:∃ w1,w1=w.alloc (.cells #[.int .i64 p.id,.slice a1 n1 c1,.int .i64 p.left,.int .i64 p.right,.slice a2 n2 c2] 36):=⟨_,rfl⟩
 obtain ⟨g3,hg3⟩:∃ g3,g3=w.heap.size:=⟨_,rfl⟩
 replace B3:Blk w1 g3 [.int .i64 p.id,.slice a1 n1 c1,.int .i64 p.left,.int .i64 p.right,.slice a2 n2 c2] 36:=by rw [hw1,hg3];exact B3
 rw [← hw1] at kk
 have Hw1:=lH hw1
 have Hg3:=lH hg3
 replace h:=h.nx kk
 replace h1:=h1.nx kk
 replace h2:=h2.nx kk
 replace EX:=EX.nx kk
 clear kk hw1 hg3
 go_enter Tryz.func75,Tryz.ntmps75
 go_upto_region 1 with fail
 rw [← Hg3.out,← Hw1.out]
 clear Hg3 Hw1
 have q0:=B3.cell 0 _ rfl
 have q1:=B3.cell 1 _ rfl
 have q2:=B3.cell 2 _ rfl
 have q3:=B3.cell 3 _ rfl
 have q4:=B3.cell 4 _ rfl
 go_wp2_with fail
 (with_reducible refine (row_p _ _ _ N p _ _ _ _ _ _ _ h hn hc hm h1 h2 hn1 hn2).mono ?_)
 rintro e w2 ⟨v,rfl,own,kk⟩
 replace EX:=EX.nx kk
 replace B3:=B3.nx kk
 clear kk
 clear q0 q1 q2 q3 q4 h h1 h2
 have hrl:(arN N p).length≤1000:=by
  have h1:=HL.out
  have h2:=ar_len (N:=N) p
  omega
 obtain ⟨aR,cR,rfl,R1,_,_,_⟩:=own.slf (fun _=>rfl)
 have S:=lH R1.sl
 have IN:Hid (∀ M,prsN p.id (arN N p)=M→introsN N p=M):=lH (fun r hr=>hr)
 generalize arN N p=R at own R1 S IN hrl ⊢
 have B3:=lH B3
 have EX2:=lH EX
 have z2:=EX.size
 clear own R1 EX
 go_wp2_with fail
 go_loopw [5,7] (fun o i wr=>IoRel R p.id w2 o i wr) (fun _ i _=>R.length+1-(intOf i).toNat)
 case atStart=>exact ⟨1,by omega,by omega,rfl,OwnW.nil _ _ _ _ _,Ex.refl _⟩
 case round =>
  obtain ⟨k,hk1,hk,rfl,own,ki⟩:=hrel
  obtain ⟨wi,rfl⟩:∃ wi:World,wi=wr:=⟨_,rfl⟩
  have hol:(((R.zip R.tail).take (k-1)).flatMap (pr2 p.id)).length≤2000:=by
   have h1:=prs_take_len p.id ((R.zip R.tail).take (k-1))
   rw [List.length_take,List.length_zip,List.length_tail] at h1
   omega
  by_cases hkm:k<R.length
  ·obtain ⟨xl,xo,yl,rfl,hxl,hyl,hcl⟩:=(S.out.nx ki).at (show k-1<R.length by omega)
   obtain ⟨xl',xo',yr,hee,hxr,hyr,hcr⟩:=(S.out.nx ki).at hkm
   cases hee
   have CL:Hid (∀ wq,Ex wi wq→wq.cell? ⟨xl,xo+(k-1),none⟩=some (.int .i64 yl)):=lH (fun wq kq=>Chg.cellv kq (by simpa using hcl 0 _ rfl) hxl)
   have CR:Hid (∀ wq,Ex wi wq→wq.cell? ⟨xl,xo+k,none⟩=some (.int .i64 yr)):=lH (fun wq kq=>Chg.cellv kq (by simpa using hcr 0 _ rfl) hxl)
   have SN:=lH (prs_snoc (id:=p.id) hyl (by rw [show k-1+1=k by omega];exact hyr))
   generalize ((R.zip R.tail).take (k-1)).flatMap (pr2 p.id)=O at own SN hol
   have OWN:=lH own
   have KI:=lH ki
   have hkp:(0:Int)<(k:Int):=by omega
   have hwk:IntKind.i64.wrap ((k:Int)-1)=(k:Int)-1:=IntWalk.i64_in _ (by omega)
   have h01:(1:Int)≤(k:Int):=by omega
   have h02:(k:Int)-1<(R.length:Int):=by omega
   have h03:(k:Int)<(R.length:Int):=by omega
   have zi:=ki.size
   clear hyl hyr hcl hcr own ki
   go_upto_region 6 with fail
   refine wp_region_held_drew (S:=Ex wi) (by kernel_rfl) ((Ex.refl wi).drew) (fun hHeld=>?_)
   obtain ⟨wd,hwdx⟩:∃ wd:World,wd=World.drew wi:=⟨_,rfl⟩
   rw [← hwdx] at hHeld ⊢
   have hDrew:Ex wi wd:=by rw [hwdx];exact (Ex.refl wi).drew
   clear hwdx
   refine tkH 0 (v:=?_) rfl (by kernel_rfl) (fun _ _ _ h=>h) (by rfl) ?y1x0q5 (by assumption) ?z1x0q5
   case y1x0q5=>intro wq hSw;(go_simp);(try with_reducible rfl)
   try simp only [Act.put,sA,sB,sC]
   refine tkH 1 (v:=?_) rfl (by kernel_rfl) (fun _ _ _ h=>h) (by rfl) ?y1x1q8 (by assumption) ?z1x1q8
   case y1x1q8=>intro wq hSw;(go_simp);(try with_reducible rfl)
   try simp only [Act.put,sA,sB,sC]
   refine tkH 2 (v:=?_) rfl (by kernel_rfl) (fun _ _ _ h=>h) (by rfl) ?y1x2q11 (by assumption) ?z1x2q11
   case y1x2q11=>intro wq hSw;(go_simp);(try with_reducible rfl)
   try simp only [Act.put,sA,sB,sC]
   refine tkH 3 (v:=?_) rfl (by kernel_rfl) (fun _ _ _ h=>h) (by rfl) ?y1x3q14 (by assumption) ?z1x3q14
   case y1x3q14=>intro wq hSw;(go_simp);(try with_reducible rfl)
   try simp only [Act.put,sA,sB,sC]
   refine tkH 4 (v:=?_) rfl (by kernel_rfl) (fun _ _ _ h=>h) (by rfl) ?y1x4q17 (by assumption) ?z1x4q17
   case y1x4q17=>intro wq hSw;(have cq:=CL.out wq hSw;go_simp);(try with_reducible rfl)
   try simp only [Act.put,sA,sB,sC]
   refine tkH 5 (v:=?_) rfl (by kernel_rfl) (fun _ _ _ h=>h) (by rfl) ?y1x5q20 (by assumption) ?z1x5q20
   case y1x5q20=>intro wq hSw;(go_simp);(try with_reducible rfl)
   try simp only [Act.put,sA,sB,sC]
   refine tkH 6 (v:=?_) rfl (by kernel_rfl) (fun _ _ _ h=>h) (by rfl) ?y1x6q23 (by assumption) ?z1x6q23
   case y1x6q23=>intro wq hSw;(go_simp);(try with_reducible rfl)
   try simp only [Act.put,sA,sB,sC]
   refine tkH 7 (v:=?_) rfl (by kernel_rfl) (fun _ _ _ h=>h) (by rfl) ?y1x7q26 (by assumption) ?z1x7q26
   case y1x7q26=>intro wq hSw;(go_simp);(try with_reducible rfl)
   try simp only [Act.put,sA,sB,sC]
   refine tkH 8 (v:=?_) rfl (by kernel_rfl) (fun _ _ _ h=>h) (by rfl) ?y1x8q29 (by assumption) ?z1x8q29
   case y1x8q29=>intro wq hSw;(have cq:=CR.out wq hSw;go_simp);(try with_reducible rfl)
   try simp only [Act.put,sA,sB,sC]
   refine tkH 9 (v:=?_) rfl (by kernel_rfl) (fun _ _ _ h=>h) (by rfl) ?y1x9q32 (by assumption) ?z1x9q32
   case y1x9q32=>intro wq hSw;(go_simp);(try with_reducible rfl)
   try simp only [Act.put,sA,sB,sC]
   refine tkH 10 (v:=?_) rfl (by kernel_rfl) (fun _ _ _ h=>h) (by rfl) ?y1x10q35 (by assumption) ?z1x10q35
   case y1x10q35=>intro wq hSw;(go_simp);(try with_reducible rfl)
   try simp only [Act.put,sA,sB,sC]
   refine tkH 11 (v:=?_) rfl (by kernel_rfl) (fun _ _ _ h=>h) (by rfl) ?y1x11q38 (by assumption) ?z1x11q38
   case y1x11q38=>intro wq hSw;(go_simp);(try with_reducible rfl)
   try simp only [Act.put,sA,sB,sC]
   refine tkH 12 (v:=?_) rfl (by kernel_rfl) (fun _ _ _ h=>h) (by rfl) ?y1x12q41 (by assumption) ?z1x12q41
   case y1x12q41=>intro wq hSw;(go_simp);(try with_reducible rfl)
   try simp only [Act.put,sA,sB,sC]
   refine tkH 13 (v:=?_) rfl (by kernel_rfl) (fun _ _ _ h=>h) (by rfl) ?y1x13q44 (by assumption) ?z1x13q44
   case y1x13q44=>intro wq hSw;(have cq:=CR.out wq hSw;go_simp);(try with_reducible rfl)
   try simp only [Act.put,sA,sB,sC]
   refine tkH 14 (v:=?_) rfl (by kernel_rfl) (fun _ _ _ h=>h) (by rfl) ?y1x14q47 (by assumption) ?z1x14q47
   case y1x14q47=>intro wq hSw;(go_simp);(try with_reducible rfl)
   try simp only [Act.put,sA,sB,sC]
   refine tkH 15 (v:=?_) rfl (by kernel_rfl) (fun _ _ _ h=>h) (by rfl) ?y1x15q50 (by assumption) ?z1x15q50
   case y1x15q50=>intro wq hSw;(go_simp);(try with_reducible rfl)
   try simp only [Act.put,sA,sB,sC]
   refine tkH 16 (v:=?_) rfl (by kernel_rfl) (fun _ _ _ h=>h) (by rfl) ?y1x16q53 (by assumption) ?z1x16q53
   case y1x16q53=>intro wq hSw;(go_simp);(try with_reducible rfl)
   try simp only [Act.put,sA,sB,sC]
   refine tkH 17 (v:=?_) rfl (by kernel_rfl) (fun _ _ _ h=>h) (by rfl) ?y1x17q56 (by assumption) ?z1x17q56
   case y1x17q56=>intro wq hSw;(go_simp);(try with_reducible rfl)
   try simp only [Act.put,sA,sB,sC]
   refine tkH 18 (v:=?_) rfl (by kernel_rfl) (fun _ _ _ h=>h) (by rfl) ?y1x18q59 (by assumption) ?z1x18q59
   case y1x18q59=>intro wq hSw;(have cq:=CL.out wq hSw;go_simp);(try with_reducible rfl)
   try simp only [Act.put,sA,sB,sC]
   refine tkH 19 (v:=?_) rfl (by kernel_rfl) (fun _ _ _ h=>h) (by rfl) ?y1x19q62 (by assumption) ?z1x19q62
   case y1x19q62=>intro wq hSw;(go_simp);(try with_reducible rfl)
   try simp only [Act.put,sA,sB,sC]
   refine tkH 22 (v:=?_) rfl (by kernel_rfl) (fun _ _ _ h=>h) (by rfl) ?y1x22q65 (by assumption) ?z1x22q65
   case y1x22q65=>intro wq hSw;(go_simp);(try with_reducible rfl)
   try simp only [Act.put,sA,sB,sC]
   refine wpAnyH_ready (rs:=[20]) (by kernel_rfl) (by simp) ?_
   refine AllReadyH.cons (o:=⟨_,_,_,_,_,_⟩) rfl (fun K hK=>?_) AllReadyH.nil
   go_simp
   obtain ⟨g9,w3,hg9,hw3,SL,kk⟩:=litIn hHeld yl yr
   rw [← hg9,← hw3]
   replace hHeld:=kk
   clear hg9 hw3 kk
   refine hK.out _ _ (hHeld) (fun hHeld=>?_)
   clear hK K
   try simp only [Act.put,sA,sB,sC]
   refine tkH 21 (v:=?_) rfl (by kernel_rfl) (fun _ _ _ h=>h) (by rfl) ?y1x21q78 (by assumption) ?z1x21q78
   case y1x21q78=>intro wq hSw;(go_simp);(try with_reducible rfl)
   try simp only [Act.put,sA,sB,sC]
   refine wpAnyH_done (by kernel_rfl) ?_ _
   have SLh:=lH SL
   have K3:=lH hHeld
   have OW3:=lH (OWN.out.nx hHeld)
   have z3:=hHeld.size
   have A0:=lH (Acc.start (β:=w2.heap.size) (lo:=wi.heap.size) (Nat.le_refl w3.heap.size) (fun g hg=>.inl (OWN.out.blk_lt (g:=g) hg)))
   clear SL hHeld OWN
   go_wp2_with fail
   go_loopw [5,41] (fun o i wr=>IiRel O p.id yl yr w2.heap.size wi.heap.size w3 o i wr) (fun _ i _=>2-(intOf i).toNat)
   case atStart=>exact ⟨0,by omega,rfl,by simpa using OW3.out,A0.out⟩
   case round =>
    clear OW3 A0
    obtain ⟨q,hq,rfl,own,ac⟩:=hrel
    obtain ⟨wj,rfl⟩:∃ wj:World,wj=wr:=⟨_,rfl⟩
    have hql:(O++((prT yl yr).take q).filter (notTo p.id)).length≤100000:=by
     rw [List.length_append]
     have h1:=List.length_filter_le (notTo p.id) ((prT yl yr).take q)
     rw [List.length_take] at h1
     omega
    by_cases hq2:q<2
    ·obtain ⟨x9,o9,y,hee,hx9,hy,hc9⟩:=(ac.sl SLh.out).at hq2
     cases hee
     have e0:wj.cell? ⟨g9,q*2,none⟩=some (.int .i64 y.1):=by simpa using hc9 0 _ rfl
     have e1:wj.cell? ⟨g9,q*2+1,none⟩=some (.int .i64 y.2):=by simpa using hc9 1 _ rfl
     have SQ:=lH (prT_snoc (id:=p.id) hy)
     generalize ((prT yl yr).take q).filter (notTo p.id)=F at own SQ hql
     have AC:=lH ac
     have zb0:=(ac.ex (KI.out.nx K3.out)).size
     clear hy hc9 ac
     have B9:=Blk.new wj [.int .i64 y.1,.int .i64 y.2] 78
     have kk:=Ex.new wj (.cells #[.int .i64 y.1,.int .i64 y.2] 78)
     obtain ⟨w4,hw4⟩:∃ w4,w4=wj.alloc (.cells #[.int .i64 y.1,.int .i64 y.2] 78):=⟨_,rfl⟩
     obtain ⟨g10,hg10⟩:∃ g10,g10=wj.heap.size:=⟨_,rfl⟩
     replace B9:Blk w4 g10 [.int .i64 y.1,.int .i64 y.2] 78:=by rw [hw4,hg10];exact B9
     rw [← hw4] at kk
     have Hw4:=lH hw4
     have Hg10:=lH hg10
     replace own:=own.nx kk
     have AC4:=lH (AC.out.nx kk)
     have zb:w2.heap.size≤w4.heap.size:=Nat.le_trans zb0 kk.size
     clear kk hw4 hg10
     go_upto_region 9 with fail
     rw [← Hg10.out,← Hw4.out]
     clear Hg10 Hw4
     have q0:=B9.cell 0 _ rfl
     have q1:=B9.cell 1 _ rfl
     have qp:=(B3.out.nx (AC4.out.ex (KI.out.nx K3.out))).cell 0 _ rfl
     clear e0 e1 B9
     cases hT:notTo p.id y with
     | true =>
      have d1:(y.1 != p.id)=true:=hT
      have SF:=lH (show ((prT yl yr).take (q+1)).filter (notTo p.id)=F++[y] by rw [SQ.out,if_pos hT])
      have kl:=Ex.new w4 (.cells #[.int .i64 y.1,.int .i64 y.2] 78)
      have own7:=own.nx kl
      have zc:=Nat.le_trans zb kl.size
      clear hT
      go_wp2_with (at_builtin;(refine wpList_append_W (enc:=encS) _ rfl _ _ 25 rfl w2.heap.size 78 (.agg #[.int .i64 0,.int .i64 0]) 2 16 Tryz.underlying25 Tryz.infoIn rfl (by omega) (by omega) _ _ own7 rfl _ 1 1 [y] (Sl.lit _ rfl rfl (fun _=>rfl) rfl) (fun _=>rfl) (by simp [encS,Value.oneCell']) rfl (by omega) (by omega) zc ?_);intro v6 w6 own6 ch0 ch1 hv)
      exact ⟨⟨q+1,by omega,by go_num,by rw [SF.out,← List.append_assoc];exact own6,(AC4.out.nx kl).step (fun g hg=>(own7.blk hg).1) ch0 hv⟩,by simp [intOf];omega⟩
     | false =>
      have d1:(y.1 != p.id)=false:=hT
      have SF:=lH (show ((prT yl yr).take (q+1)).filter (notTo p.id)=F by rw [SQ.out,hT];simp)
      have OF:=lH own
      clear hT own
      go_wp2_with fail
      exact ⟨⟨q+1,by omega,by go_num,by rw [SF.out];exact OF.out,AC4.out⟩,by simp [intOf];omega⟩
    ·obtain rfl:q=2:=by omega
     have OF:=lH own
     have KF:=lH (ac.ex (KI.out.nx K3.out))
     clear own ac hq hq2
     go_wp2_with fail
     refine ⟨⟨k+1,by omega,by omega,by go_num,?_,KF.out⟩,by simp [intOf];omega⟩
     rw [show k+1-1=k-1+1 by omega,SN.out,← prT_all]
     exact OF.out
  ·have HI:Hid (introsN N p=((R.zip R.tail).take (k-1)).flatMap (pr2 p.id)):=lH (IN.out _ (prs_all (by omega)).symm)
   generalize ((R.zip R.tail).take (k-1)).flatMap (pr2 p.id)=O at own HI
   have FO:=lH (own.lower z2)
   have FE:=lH (EX2.out.nx ki)
   clear own ki
   go_wp2_with fail
   go_ret
   exact ⟨_,rfl,by rw [HI.out];exact FO.out,FE.out⟩
def grp1 (J:Int→List Int) (x y:Int):Int→List Int:=fun v=>if v=x then J x++[y] else J v
section
variable {P:Program} {k e:TypeId} {base:Nat} {w w':World} {b n:Nat} {f:Int→Value} {J:Int→List Int}
theorem GrpM.one (h:GrpM P k e base w b n f J) {x y:Int} {w1 w3:World} {a':Value} {n':Nat}
  (A:OwnL 1 encI e base w1 a' (J x++[y])) (k1:Chg (fun k=>k<w.heap.size∧¬ (f x).ownBlock=some k) w w1) (la:∀ g,a'.ownBlock=some g→(f x).ownBlock=some g∨w.heap.size≤g)
  (k3:Exb b w1 w3) (R:RawM P k w3 b n' (upd f x a')):GrpM P k e base w3 b n' (upd f x a') (grp1 J x y):=by
 obtain ⟨h1,hb,hs,hO,hd⟩:=h
 have s1:=k1.size
 have s3:=k3.size
 refine ⟨R,hb,by omega,fun v=>?_,fun v v' g hne hv hv'=>?_⟩
 ·unfold upd grp1
  by_cases hvx:v=x
  ·rw [if_pos hvx,if_pos hvx]
   exact A.nxb hb k3
  ·rw [if_neg hvx,if_neg hvx]
   have O1:OwnL 1 encI e base w1 (f v) (J v):=(hO v).chg k1 fun g hg hv=>⟨hg,hd v x g hvx hv⟩
   exact O1.nxb hb k3
 ·unfold upd at hv hv'
  have ov:∀ u g,u≠x→(f u).ownBlock=some g→¬ a'.ownBlock=some g:=by
   intro u g hux hu ha
   rcases la g ha with h2 | h2
   ·exact hd u x g hux hu h2
   ·have:=((hO u).lt g hu).2;omega
  by_cases hvx:v=x
  ·rw [if_pos hvx] at hv
   rw [if_neg (by omega)] at hv'
   exact ov v' g (by omega) hv' hv
  ·rw [if_neg hvx] at hv
   by_cases hvx':v'=x
   ·rw [if_pos hvx'] at hv';exact ov v g hvx hv hv'
   ·rw [if_neg hvx'] at hv';exact hd v v' g hne hv hv'
end
theorem find_word {N:List Nd} (hw:∀ x∈N,x.word<4294967296) (id:Int) (h:(findN N id).2=true):(findN N id).1.word<4294967296:=hw _ (findN_mem h).1
set_option maxHeartbeats 1000000 in
theorem other_p (a:Option Addr) (n c:Nat) (N:List Nd) (id own:Int) (w:World) (h:Sl 3 encN w a n N) (hn:n≤1000) :
  Calls Tryz.prog 181 #[.slice a n c,.int .i64 id,.int .i64 own] w fun e w'=>e=.returned (.int .i64 (otherN N id own))∧Ex w w':=by
 have EX:=Ex.refl w
 have E1:Hid (∀ o,o=(findN N id).2→otherN N id own=if o=true∧id≠own then id else 0):=lH (fun o ho=>by rw [ho];rfl)
 go_enter Tryz.func181,Tryz.ntmps181
 go_wp2_with fail
 (with_reducible refine (find_p _ _ _ _ id _ h (by omega)).mono ?_)
 rintro e w1 ⟨rfl,kk⟩
 replace EX:=EX.nx kk
 clear kk
 replace E1:=E1.out _ rfl
 obtain ⟨F,hF⟩:∃ F,F=findN N id:=⟨_,rfl⟩
 rw [← hF] at E1 ⊢
 clear hF h
 obtain ⟨⟨xi,xk,xw⟩,ok⟩:=F
 replace E1:=lH E1
 have B5:=Blk.new w1 [.int .i64 xi,.string xk,.int .u32 xw] 60
 have kk:=Ex.new w1 (.cells #[.int .i64 xi,.string xk,.int .u32 xw] 60)
 obtain ⟨w2,hw2⟩:∃ w2,w2=w1.alloc (.cells #[.int .i64 xi,.string xk,.int .u32 xw] 60):=⟨_,rfl⟩
 obtain ⟨g5,hg5⟩:∃ g5,g5=w1.heap.size:=⟨_,rfl⟩
 replace B5:Blk w2 g5 [.int .i64 xi,.string xk,.int .u32 xw] 60:=by rw [hw2,hg5];exact B5
 rw [← hw2] at kk
 have Hw2:=lH hw2
 have Hg5:=lH hg5
 replace EX:=EX.nx kk
 clear kk hw2 hg5
 simp only [Nd.val]
 go_upto_region 2 with fail
 rw [← Hg5.out,← Hw2.out]
 clear Hg5 Hw2
 clear B5
 cases ok with
 | false =>
  have E1:Hid (otherN N id own=0):=lH (E1.out.trans (if_neg (by simp)))
  go_wp2_with fail
  go_ret
  exact ⟨by rw [E1.out];rfl,EX⟩
 | true =>
  by_cases he:id=own
  ·have EZ:Hid (otherN N id own=0):=lH (E1.out.trans (if_neg (by simp [he])))
   have d1:(id==own)=true:=by simpa using he
   clear he E1
   go_wp2_with fail
   go_ret
   exact ⟨by rw [EZ.out];rfl,EX⟩
  ·have EZ:Hid (otherN N id own=id):=lH (E1.out.trans (if_pos ⟨rfl,he⟩))
   have d1:(id==own)=false:=by simpa using he
   clear he E1
   go_wp2_with fail
   go_ret
   exact ⟨by rw [EZ.out];rfl,EX⟩
theorem pair_no {N:List Nd} {nb:Int} (own:Int) (lev:Nat) (zero one:Int) (h:(findN N nb).2=false):pairB N own nb lev zero one=(0,0):=by unfold pairB;rw [if_neg (by rw [h];simp)]
theorem pair_z {N:List Nd} {nb:Int} (own:Int) (lev:Nat) (zero one:Int) (h:(findN N nb).2=true) (hb:bitN (findN N nb).1.word lev=0):pairB N own nb lev zero one=((findN N nb).1.id,otherN N one own):=by unfold pairB;rw [if_pos h,if_pos hb]
theorem pair_o {N:List Nd} {nb:Int} (own:Int) (lev:Nat) (zero one:Int) (h:(findN N nb).2=true) (hb:¬ bitN (findN N nb).1.word lev=0):pairB N own nb lev zero one=(otherN N zero own,(findN N nb).1.id):=by unfold pairB;rw [if_pos h,if_neg hb]
set_option maxRecDepth 100000 in
set_option maxHeartbeats 2000000 in
theorem pair_p (a:Option Addr) (n c:Nat) (N:List Nd) (own nb:Int) (lev:Nat) (zero one:Int) (w:World) (h:Sl 3 encN w a n N) (hn:n≤1000) (hw:∀ x∈N,x.word<4294967296) (hl:lev≤16) :
  Calls Tryz.prog 161 #[.slice a n c,.int .i64 own,.int .i64 nb,.int .i64 lev,.int .i64 zero,.int .i64 one] w fun e w'=>e=.returned (.tuple #[.int .i64 (pairB N own nb lev zero one).1,.int .i64 (pairB N own nb lev zero one).2])∧Ex w w':=by
 have EX:=Ex.refl w
 have P0:=pair_no (N:=N) (nb:=nb) own lev zero one
 have P1:=pair_z (N:=N) (nb:=nb) own lev zero one
 have P2:=pair_o (N:=N) (nb:=nb) own lev zero one
 have FW:=find_word hw nb
 clear hw
 go_enter Tryz.func161,Tryz.ntmps161
 generalize hPB:pairB N own nb lev zero one=PB at P0 P1 P2 ⊢
 clear hPB
 replace P0:=lH P0
 replace P1:=lH P1
 replace P2:=lH P2
 replace FW:=lH FW
 go_wp2_with fail
 (with_reducible refine (find_p _ _ _ _ nb _ h (by omega)).mono ?_)
 rintro e w1 ⟨rfl,kk⟩
 replace EX:=EX.nx kk
 replace h:=h.nx kk
 clear kk
 replace P0:=P0.out
 replace P1:=P1.out
 replace P2:=P2.out
 replace FW:=FW.out
 obtain ⟨F,hF⟩:∃ F,F=findN N nb:=⟨_,rfl⟩
 rw [← hF] at P0 P1 P2 FW ⊢
 clear hF
 obtain ⟨⟨xi,xk,xw⟩,ok⟩:=F
 have B5:=Blk.new w1 [.int .i64 xi,.string xk,.int .u32 xw] 60
 have kk:=Ex.new w1 (.cells #[.int .i64 xi,.string xk,.int .u32 xw] 60)
 obtain ⟨w2,hw2⟩:∃ w2,w2=w1.alloc (.cells #[.int .i64 xi,.string xk,.int .u32 xw] 60):=⟨_,rfl⟩
 obtain ⟨g5,hg5⟩:∃ g5,g5=w1.heap.size:=⟨_,rfl⟩
 replace B5:Blk w2 g5 [.int .i64 xi,.string xk,.int .u32 xw] 60:=by rw [hw2,hg5];exact B5
 rw [← hw2] at kk
 have Hw2:=lH hw2
 have Hg5:=lH hg5
 replace EX:=EX.nx kk
 replace h:=h.nx kk
 clear kk hw2 hg5
 simp only [Nd.val]
 go_upto_region 2 with fail
 rw [← Hg5.out,← Hw2.out]
 clear Hg5 Hw2
 cases ok with
 | false =>
  have E1:=lH (P0 rfl)
  clear P0 P1 P2 FW h B5
  go_wp2_with fail
  go_ret2
  exact ⟨by rw [E1.out];rfl,EX⟩
 | true =>
  have q2:=B5.cell 2 _ rfl
  have FWh:=FW rfl
  by_cases hb:bitN xw lev=0
  ·have E1:=lH (P1 rfl hb)
   have d1:(((bitN xw lev:Nat):Int)==0)=true:=by rw [hb];rfl
   have BF:Hid (∀ wq,Ex w2 wq→wq.cell? ⟨g5,0,none⟩=some (.int .i64 xi)):=lH (fun wq kq=>(B5.nx kq).cell 0 _ rfl)
   have H:=lH h
   have K:=lH EX
   clear P0 P1 P2 FW h B5 hb EX
   go_wp2_with fail
   refine (bit_p xw lev _ FWh (by omega) (by omega)).mono ?_
   rintro e w3 ⟨rfl,rfl⟩
   clear FWh
   go_upto_region 5 with fail
   clear q2
   refine wp_region_held_drew (S:=Ex w2) (by kernel_rfl) ((Ex.refl w2).drew) (fun hHeld=>?_)
   obtain ⟨wd,hwdx⟩:∃ wd:World,wd=World.drew w2:=⟨_,rfl⟩
   rw [← hwdx] at hHeld ⊢
   have hDrew:Ex w2 wd:=by rw [hwdx];exact (Ex.refl w2).drew
   clear hwdx
   refine tkH 0 (v:=?_) rfl (by kernel_rfl) (fun _ _ _ h=>h) (by rfl) ?y1x0q5 (by assumption) ?z1x0q5
   case y1x0q5=>intro wq hSw;(go_simp);(try with_reducible rfl)
   refine tkH 1 (v:=?_) rfl (by kernel_rfl) (fun _ _ _ h=>h) (by rfl) ?y1x1q8 (by assumption) ?z1x1q8
   case y1x1q8=>intro wq hSw;(have cq:=BF.out wq hSw;go_simp);(try with_reducible rfl)
   refine tkH 2 (v:=?_) rfl (by kernel_rfl) (fun _ _ _ h=>h) (by rfl) ?y1x2q11 (by assumption) ?z1x2q11
   case y1x2q11=>intro wq hSw;(go_simp);(try with_reducible rfl)
   refine tkH 3 (v:=?_) rfl (by kernel_rfl) (fun _ _ _ h=>h) (by rfl) ?y1x3q14 (by assumption) ?z1x3q14
   case y1x3q14=>intro wq hSw;(go_simp);(try with_reducible rfl)
   refine tkH 4 (v:=?_) rfl (by kernel_rfl) (fun _ _ _ h=>h) (by rfl) ?y1x4q17 (by assumption) ?z1x4q17
   case y1x4q17=>intro wq hSw;(go_simp);(try with_reducible rfl)
   refine wpAnyH_ready (rs:=[5]) (by kernel_rfl) (by simp) ?_
   refine AllReadyH.cons (o:=⟨_,_,_,_,_,_⟩) rfl (fun K hK=>?_) AllReadyH.nil
   go_simp
   (with_reducible refine (other_p _ _ _ N one own _ (H.out.nx hHeld) hn).mono ?_)
   rintro e wb ⟨rfl,kk⟩
   replace hHeld:=hHeld.nx kk
   clear kk
   refine hK.out _ _ (hHeld) (fun hHeld=>?_)
   clear hK K
   refine tkH 6 (v:=?_) rfl (by kernel_rfl) (fun _ _ _ h=>h) (by rfl) ?y1x6q30 (by assumption) ?z1x6q30
   case y1x6q30=>intro wq hSw;(go_simp);(try with_reducible rfl)
   refine tkH 7 (v:=?_) rfl (by kernel_rfl) (fun _ _ _ h=>h) (by rfl) ?y1x7q33 (by assumption) ?z1x7q33
   case y1x7q33=>intro wq hSw;(go_simp);(try with_reducible rfl)
   refine wpAnyH_done (by kernel_rfl) ?_ _
   have KE:=lH (K.out.nx hHeld)
   clear hHeld hDrew
   go_wp2_with fail
   go_ret2
   exact ⟨by rw [E1.out];rfl,KE.out⟩
  ·have E1:=lH (P2 rfl hb)
   have d1:(((bitN xw lev:Nat):Int)==0)=false:=by simpa using hb
   have BF:Hid (∀ wq,Ex w2 wq→wq.cell? ⟨g5,0,none⟩=some (.int .i64 xi)):=lH (fun wq kq=>(B5.nx kq).cell 0 _ rfl)
   have H:=lH h
   have K:=lH EX
   clear P0 P1 P2 FW h B5 hb EX
   go_wp2_with fail
   refine (bit_p xw lev _ FWh (by omega) (by omega)).mono ?_
   rintro e w3 ⟨rfl,rfl⟩
   clear FWh
   go_upto_region 6 with fail
   clear q2
   refine wp_region_held_drew (S:=Ex w2) (by kernel_rfl) ((Ex.refl w2).drew) (fun hHeld=>?_)
   obtain ⟨wd,hwdx⟩:∃ wd:World,wd=World.drew w2:=⟨_,rfl⟩
   rw [← hwdx] at hHeld ⊢
   have hDrew:Ex w2 wd:=by rw [hwdx];exact (Ex.refl w2).drew
   clear hwdx
   refine tkH 0 (v:=?_) rfl (by kernel_rfl) (fun _ _ _ h=>h) (by rfl) ?y2x0q5 (by assumption) ?z2x0q5
   case y2x0q5=>intro wq hSw;(go_simp);(try with_reducible rfl)
   refine tkH 1 (v:=?_) rfl (by kernel_rfl) (fun _ _ _ h=>h) (by rfl) ?y2x1q8 (by assumption) ?z2x1q8
   case y2x1q8=>intro wq hSw;(go_simp);(try with_reducible rfl)
   refine tkH 2 (v:=?_) rfl (by kernel_rfl) (fun _ _ _ h=>h) (by rfl) ?y2x2q11 (by assumption) ?z2x2q11
   case y2x2q11=>intro wq hSw;(go_simp);(try with_reducible rfl)
   refine tkH 4 (v:=?_) rfl (by kernel_rfl) (fun _ _ _ h=>h) (by rfl) ?y2x4q14 (by assumption) ?z2x4q14
   case y2x4q14=>intro wq hSw;(go_simp);(try with_reducible rfl)
   refine tkH 5 (v:=?_) rfl (by kernel_rfl) (fun _ _ _ h=>h) (by rfl) ?y2x5q17 (by assumption) ?z2x5q17
   case y2x5q17=>intro wq hSw;(have cq:=BF.out wq hSw;go_simp);(try with_reducible rfl)
   refine wpAnyH_ready (rs:=[3]) (by kernel_rfl) (by simp) ?_
   refine AllReadyH.cons (o:=⟨_,_,_,_,_,_⟩) rfl (fun K hK=>?_) AllReadyH.nil
   go_simp
   (with_reducible refine (other_p _ _ _ N zero own _ (H.out.nx hHeld) hn).mono ?_)
   rintro e wb ⟨rfl,kk⟩
   replace hHeld:=hHeld.nx kk
   clear kk
   refine hK.out _ _ (hHeld) (fun hHeld=>?_)
   clear hK K
   refine tkH 6 (v:=?_) rfl (by kernel_rfl) (fun _ _ _ h=>h) (by rfl) ?y2x6q30 (by assumption) ?z2x6q30
   case y2x6q30=>intro wq hSw;(go_simp);(try with_reducible rfl)
   refine tkH 7 (v:=?_) rfl (by kernel_rfl) (fun _ _ _ h=>h) (by rfl) ?y2x7q33 (by assumption) ?z2x7q33
   case y2x7q33=>intro wq hSw;(go_simp);(try with_reducible rfl)
   refine wpAnyH_done (by kernel_rfl) ?_ _
   have KE:=lH (K.out.nx hHeld)
   clear hHeld hDrew
   go_wp2_with fail
   go_ret2
   exact ⟨by rw [E1.out];rfl,KE.out⟩
theorem at1_p (gx:Nat) (id:Int) (w:World) (hx:Blk w gx [.int .i64 id] 3):PredI 182 #[.pointer (some ⟨gx,0,none⟩)] id w:=by
 intro p h1 h2 w' kk
 have q0:=(hx.nx kk).cell 0 _ rfl
 have hg:=(hx.nx kk).lt
 have hne:¬ gx=w'.heap.size:=by omega
 obtain ⟨a1,n1,c1⟩:=h1
 obtain ⟨a2,n2,c2⟩:=h2
 simp only [Hdr.val]
 clear hx kk
 go_enter Tryz.func182,Tryz.ntmps182
 go_wp2
 go_ret
 exact ⟨rfl,(Ex.refl _).alloc _⟩
def nrV (x:Nr):Value:=.agg #[.int .i64 x.1,.int .i64 x.2.1,.int .i64 x.2.2.1,.int .i64 x.2.2.2]
theorem near_at {p:Pr} {i:Nat} {x:Nr} (h:p.near[i]?=some x):nearAt p i=x:=by unfold nearAt;rw [h];rfl
theorem near_out {p:Pr} {i:Nat} (h:p.near.length≤i):nearAt p i=(0,0,0,0):=by unfold nearAt;rw [List.getElem?_eq_none h];rfl
set_option maxRecDepth 100000 in
set_option maxHeartbeats 2000000 in
theorem at_p (a2:Option Addr) (n2 c2:Nat) (P:List Pr) (id:Int) (lev:Nat) (w:World) (h2:PL w a2 n2 P) (hn2:n2≤4000000000000000000) (hP:∀ p∈P,p.near.length≤4000000000000000000) (hl:lev≤16) :
  Calls Tryz.prog 160 #[.slice a2 n2 c2,.int .i64 id,.int .i64 lev] w fun e w'=>e=.returned (nrV (nearAt (peerN P id) lev))∧Ex w w':=by
 have EG:Hid (∀ args w,(callFunc 182 args).run Tryz.prog w=.ok (.enter 182 args) w):=lH (enters_of Tryz.func182 (by kernel_rfl) rfl)
 have EX:=Ex.refl w
 have HP:=lH hP
 clear hP
 have hwi:w.heap.size≤w.heap.size:=Nat.le_refl _
 obtain ⟨g4,hg4⟩:∃ g4,g4=w.heap.size:=⟨_,rfl⟩
 obtain ⟨g6,hg6⟩:∃ g6,g6=(w.heap.size+1):=⟨_,rfl⟩
 obtain ⟨w1,hw1⟩:∃ w1,w1=((w.alloc (.cells #[.int .i64 id] 3)).alloc (.cells #[.int .i64 0,.int .i64 0,.int .i64 0,.int .i64 0] 80)):=⟨_,rfl⟩
 have kk:Ex w w1:=by rw [hw1];exact (((Ex.refl w).alloc (.cells #[.int .i64 id] 3)).alloc (.cells #[.int .i64 0,.int .i64 0,.int .i64 0,.int .i64 0] 80))
 have B4:Blk w1 g4 [.int .i64 id] 3:=by rw [hw1];simp only [hg4,hg6];have hbk:=((Blk.new w [.int .i64 id] 3).nx (Ex.new _ (.cells #[.int .i64 0,.int .i64 0,.int .i64 0,.int .i64 0] 80)));simpa using hbk
 have B6:Blk w1 g6 [.int .i64 0,.int .i64 0,.int .i64 0,.int .i64 0] 80:=by rw [hw1];simp only [hg4,hg6];have hbk:=(Blk.new (w.alloc (.cells #[.int .i64 id] 3)) [.int .i64 0,.int .i64 0,.int .i64 0,.int .i64 0] 80);simpa using hbk
 have Hw1:=lH hw1
 have Hg4:=lH hg4
 have Hg6:=lH hg6
 replace h2:=h2.nx kk
 replace EX:=EX.nx kk
 have hz6:w.heap.size≤g6:=by omega
 clear kk hw1 hg4 hg6
 go_enter Tryz.func160,Tryz.ntmps160
 go_upto_region 1 with fail
 rw [← Hw1.out,← Hg6.out,← Hg4.out]
 clear Hw1 Hg6 Hg4
 have PI:=at1_p g4 id w1 B4
 replace B6:=lH B6
 clear B4
 go_wp2_with fail
 (with_reducible refine (idxf_pr _ _ _ EG.out _ _ _ P _ h2 hn2 PI).mono ?_)
 rintro e w2 ⟨rfl,kk⟩
 replace B6:=B6.out.nx kk
 replace EX:=EX.nx kk
 replace h2:=h2.nx kk
 clear kk PI
 have f0:=B6.free 0
 have f1:=B6.free 1
 have f2:=B6.free 2
 have f3:=B6.free 3
 have c0:=B6.cell 0 _ rfl
 have c1:=B6.cell 1 _ rfl
 have c2:=B6.cell 2 _ rfl
 have c3:=B6.cell 3 _ rfl
 rcases idxQ_cases P id with ⟨k,y,hq,hkl,hyk,hpy,-⟩ | ⟨hq,hpy⟩
 ·rw [hq]
  have hk2:k<n2:=by have:=h2.len;omega
  have hk0:¬ (k:Int)<0:=by omega
  have hk1:(0:Int)≤(k:Int):=by omega
  have hk3:(k:Int)<(n2:Int):=by omega
  obtain ⟨x5,o5,b1,m1,d1,b4,m4,d4,y',rfl,hx5,hy',e0,e1,e2,e3,e4,s1,s4⟩:=h2.rd hk2
  obtain rfl:y=y':=Option.some.inj (hyk.symm.trans hy')
  have hm4:=s4.len
  have hyP:=HP.out y (List.mem_of_getElem? hyk)
  have HPY:=lH hpy
  clear e0 e1 e2 e3 s1 hy' hkl hq hpy hyk h2
  by_cases hlt:lev<m4
  ·obtain ⟨x6,o6,ny,rfl,hx6,hny,hc6⟩:=s4.at hlt
   have V:Hid (nearAt (peerN P id) lev=ny):=lH (by rw [HPY.out];exact near_at hny)
   have r0:w2.cell? ⟨x6,o6+lev*4,none⟩=some (.int .i64 ny.1):=hc6 0 _ rfl
   have r1:w2.cell? ⟨x6,o6+lev*4+1,none⟩=some (.int .i64 ny.2.1):=hc6 1 _ rfl
   have r2:w2.cell? ⟨x6,o6+lev*4+1+1,none⟩=some (.int .i64 ny.2.2.1):=by simpa [Nat.add_assoc] using hc6 2 _ rfl
   have r3:w2.cell? ⟨x6,o6+lev*4+1+1+1,none⟩=some (.int .i64 ny.2.2.2):=by simpa [Nat.add_assoc] using hc6 3 _ rfl
   have d1:decide ((lev:Int) ≥ (m4:Int))=false:=by simp;omega
   have d2:decide ((m4:Int)≤(lev:Int))=false:=by simp;omega
   have hl1:(lev:Int)<(m4:Int):=by omega
   have KE:=lH ((((EX.setNew (p:=⟨g6,0,none⟩) (.int .i64 ny.1) hz6).setNew (p:=⟨g6,1,none⟩) (.int .i64 ny.2.1) hz6).setNew (p:=⟨g6,2,none⟩) (.int .i64 ny.2.2.1) hz6).setNew (p:=⟨g6,3,none⟩) (.int .i64 ny.2.2.2) hz6)
   clear s4 hc6 hny EX HPY
   go_wp2_with fail
   refine bodyPost_ret (v:=nrV ny) (by simp [results,Tryz.results160,go_sem,nrV, *]) rfl ⟨by rw [V.out],KE.out⟩
  ·have V:Hid (nearAt (peerN P id) lev=(0,0,0,0)):=lH (by rw [HPY.out];exact near_out (by omega))
   have hge:m4≤lev:=by omega
   have KE:=lH ((((EX.setNew (p:=⟨g6,0,none⟩) (.int .i64 0) hz6).setNew (p:=⟨g6,1,none⟩) (.int .i64 0) hz6).setNew (p:=⟨g6,2,none⟩) (.int .i64 0) hz6).setNew (p:=⟨g6,3,none⟩) (.int .i64 0) hz6)
   clear s4 EX HPY hlt
   go_wp2_with fail
   refine bodyPost_ret (v:=nrV (0,0,0,0)) (by simp [results,Tryz.results160,go_sem,nrV, *]) rfl ⟨by rw [V.out],KE.out⟩
 ·rw [hq]
  have V:Hid (nearAt (peerN P id) lev=(0,0,0,0)):=lH (by rw [hpy];exact near_out (Nat.zero_le _))
  have KE:=lH ((((EX.setNew (p:=⟨g6,0,none⟩) (.int .i64 0) hz6).setNew (p:=⟨g6,1,none⟩) (.int .i64 0) hz6).setNew (p:=⟨g6,2,none⟩) (.int .i64 0) hz6).setNew (p:=⟨g6,3,none⟩) (.int .i64 0) hz6)
  clear hq hpy EX h2
  go_wp2_with fail
  refine bodyPost_ret (v:=nrV (0,0,0,0)) (by simp [results,Tryz.results160,go_sem,nrV, *]) rfl ⟨by rw [V.out],KE.out⟩
end Go.Proofs.YthdkeibapcaclaaGreatDoor
