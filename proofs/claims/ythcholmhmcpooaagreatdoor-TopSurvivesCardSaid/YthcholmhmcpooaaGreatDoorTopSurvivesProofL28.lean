/- Texts for TopSurvivesProof. -/
import Derived.Test.YthcholmhmcpooaaGreatDoorTopSurvivesProofL25
set_option linter.unusedSimpArgs false
set_option linter.unusedVariables false

namespace Go.Proofs.YthcholmhmcpooaaGreatDoor
open Go.RowKit
def grp1 (J:Int→List Int) (x y:Int):Int→List Int:=fun v=>if v=x then J x++[y] else J v
section
variable {P:Program} {k e:TypeId} {base:Nat} {w w':World} {b n:Nat} {f:Int→Value} {J:Int→List Int}
theorem GrpM.one (h:GrpM P k e base w b n f J) {x y:Int} {w1 w3:World} {a':Value} {n':Nat}
  (A:OwnL 1 encI e base w1 a' (J x++[y])) (k1:Chg (fun k=>k<w.heap.size∧¬ (f x).ownBlock=some k) w w1) (la:∀ g,a'.ownBlock=some g→(f x).ownBlock=some g∨w.heap.size≤g)
  (k3:Exb b w1 w3) (R:RawM P k w3 b n' (upd f x a')):GrpM P k e base w3 b n' (upd f x a') (grp1 J x y):=by
 obtain ⟨h1,hb,hs,hO,hd⟩:=h
 have s1:=k1.size
 have s3:=k3.size
 refine ⟨R,hb,by omega,fun v=>?_,fun v v' g hne hv hv'=>?_⟩
 ·unfold upd grp1
  by_cases hvx:v=x
  ·rw [if_pos hvx,if_pos hvx]
   exact A.nxb hb k3
  ·rw [if_neg hvx,if_neg hvx]
   have O1:OwnL 1 encI e base w1 (f v) (J v):=(hO v).chg k1 fun g hg hv=>⟨hg,hd v x g hvx hv⟩
   exact O1.nxb hb k3
 ·unfold upd at hv hv'
  have ov:∀ u g,u≠x→(f u).ownBlock=some g→¬ a'.ownBlock=some g:=by
   intro u g hux hu ha
   rcases la g ha with h2 | h2
   ·exact hd u x g hux hu h2
   ·have:=((hO u).lt g hu).2;omega
  by_cases hvx:v=x
  ·rw [if_pos hvx] at hv
   rw [if_neg (by omega)] at hv'
   exact ov v' g (by omega) hv' hv
  ·rw [if_neg hvx] at hv
   by_cases hvx':v'=x
   ·rw [if_pos hvx'] at hv';exact ov v g hvx hv hv'
   ·rw [if_neg hvx'] at hv';exact hd v v' g hne hv hv'
end
structure Fl where
 peers:List Pr
 msgs:List (Int×Int)
def copF (N:List Nd) (f:Fl):Fl:=if checkN N=0 then ⟨normalN N f.peers,f.msgs⟩ else ⟨[],[]⟩
def tickP (N:List Nd) (st:Int→Pr) (x:Pr) (h:Nat):Pr:=⟨x.id,(keepN N x).1,(keepN N x).2,ordN N [(keepN N x).1,(keepN N x).2] x.id,nextB N st x h⟩
def tickF (N:List Nd) (f:Fl) (id h:Int):Fl :=
 if lvlN h=true∧(copF N f).peers.any (fun p=>p.id==id)=true then
  ⟨(copF N f).peers.map fun p=>if p.id=id then tickP N (peerN (copF N f).peers) p h.toNat else p,(copF N f).msgs++introsN N (peerN (copF N f).peers id)⟩
 else copF N f
def tellP (N:List Nd) (m:Int×Int) (p:Pr):Pr:=if p.id=m.1 then { p with known:=ordN N (p.known++[m.2]) p.id } else p
def delF (N:List Nd) (f:Fl) (k:Int):Fl :=
 if 0≤k then match (copF N f).msgs[k.toNat]? with
  | none=>copF N f
  | some m=>⟨if (findN N m.2).2=true∧m.1≠m.2 then (copF N f).peers.map (tellP N m) else (copF N f).peers,(copF N f).msgs.eraseIdx k.toNat⟩
 else copF N f
def dblF (f:Fl) (k:Int) (most:Nat):Fl :=
 if 0≤k∧f.msgs.length<most then match f.msgs[k.toNat]? with
  | none=>f
  | some m=>⟨f.peers,f.msgs++[m]⟩
 else f
def nodeB (N:List Nd) (v:Int):Prop:=∃ x∈N,x.id=v
def EdgeF (N:List Nd) (f:Fl) (u v:Int):Prop:=EdgeN N f.peers u v∨((u,v)∈f.msgs∧nodeB N u∧nodeB N v)
def ConnF (N:List Nd) (f:Fl):Prop:=checkN N=0∧∀ x∈N,∀ y∈N,Cl (EdgeF N f) x.id y.id
section
variable {N:List Nd} {f:Fl}
theorem cop_peer (h0:checkN N=0) {x:Nd} (hx:x∈N):peerN (copF N f).peers x.id=peerN f.peers x.id:=by
 unfold copF
 rw [if_pos h0]
 exact normal_peer h0 hx
theorem cop_msgs (h0:checkN N=0):(copF N f).msgs=f.msgs:=by unfold copF;rw [if_pos h0]
theorem cop_map (h0:checkN N=0):(copF N f).peers=(sortN N).map fun x=>peerN f.peers x.id:=by
 unfold copF normalN
 rw [if_pos h0,if_pos h0]
theorem peer_change (h0:checkN N=0) {P:List Pr} (g:Pr→Pr) (hg:∀ p,(g p).id=p.id) {x:Nd} (hx:x∈N):peerN (((sortN N).map fun x=>peerN P x.id).map g) x.id=g (peerN P x.id):=by
 rw [List.map_map]
 refine (peer_map (sort_ids h0) (fun y=>?_) ((sortN_mem N x).2 hx)).trans rfl
 show (g (peerN P y.id)).id=y.id
 rw [hg,peer_id]
theorem edge_same {P Q:List Pr} (h:∀ x∈N,peerN P x.id=peerN Q x.id) (u v:Int):EdgeN N P u v↔EdgeN N Q u v:=by
 unfold EdgeN
 constructor
 ·rintro ⟨⟨x,hx,rfl⟩,hv⟩
  exact ⟨⟨x,hx,rfl⟩,by rwa [← h x hx]⟩
 ·rintro ⟨⟨x,hx,rfl⟩,hv⟩
  exact ⟨⟨x,hx,rfl⟩,by rwa [h x hx]⟩
theorem chain_int {R:Int→Int→Prop}:∀ (l:List Int),(∀ A a b B,l=A++a::b::B→R a b∨R b a)→∀ x∈l,∀ y∈l,Cl R x y
 | [],_,x,hx,_,_=>by cases hx
 | [a],_,x,hx,y,hy=>by
  simp only [List.mem_singleton] at hx hy
  subst hx hy
  exact .refl _
 | a::b::l,h,x,hx,y,hy=>by
  have ih:=chain_int (b::l) (fun A u v B e=>h (a::A) u v B (by rw [e];rfl))
  have hab:Cl R a b:=Cl.one (h [] a b l rfl)
  have hb:∀ z∈a::b::l,Cl R b z:=by
   intro z hz
   rcases List.mem_cons.1 hz with rfl | hz
   ·exact hab.symm
   ·exact ih b (by simp) z hz
  exact (hb x hx).symm.trans (hb y hy)
theorem connF_of {g:Fl} (h:ConnF N f) (hr:∀ a b,EdgeF N f a b→Cl (EdgeF N g) a b):ConnF N g:=⟨h.1,fun x hx y hy=>(h.2 x hx y hy).mono hr⟩
theorem copF_conn (h:ConnF N f):ConnF N (copF N f):=by
 refine connF_of h fun a b e=>Cl.one (.inl ?_)
 rcases e with e | e
 ·exact .inl ((edge_same (fun x hx=>(cop_peer h.1 hx).symm) a b).1 e)
 ·exact .inr (by rw [cop_msgs h.1];exact e)
theorem row_cl (h0:checkN N=0) {p:Pr} {R:Int→Int→Prop} (hR:∀ u v,(u,v)∈introsN N p→nodeB N u→nodeB N v→R u v):∀ x∈arN N p,∀ y∈arN N p,Cl R x y:=by
 refine chain_int _ fun A a b B e=>?_
 have hn:=ar_nodup h0 (p:=p)
 have ha:=(ar_mem h0 (p:=p) (u:=a) (by rw [e];simp)).1
 have hb:=(ar_mem h0 (p:=p) (u:=b) (by rw [e];simp)).1
 have hab:a≠b:=by
  rw [e] at hn
  have:=(List.nodup_append.1 hn).2.1
  rw [List.nodup_cons] at this
  exact fun he=>this.1 (by rw [he];simp)
 have hm:=prs_mem (id:=p.id) (a:=a) (b:=b) (A:=A) (B:=B)
 rw [← e] at hm
 by_cases h:a=p.id
 ·exact .inr (hR b a (hm.2 (fun he=>hab (h.trans he.symm))) hb ha)
 ·exact .inl (hR a b (hm.1 h) ha hb)
theorem tick_yes (h0:checkN N=0) {x:Nd} (hx:x∈N) {h:Nat} (hh:h≤16):tickF N f x.id h =
  ⟨((sortN N).map fun x=>peerN f.peers x.id).map fun p=>if p.id=x.id then tickP N (peerN (copF N f).peers) p h else p,f.msgs++introsN N (peerN f.peers x.id)⟩:=by
 unfold tickF
 rw [if_pos,cop_msgs h0,cop_peer h0 hx,cop_map h0]
 ·rfl
 ·refine ⟨by unfold lvlN;simp;omega,?_⟩
  rw [cop_map h0,List.any_eq_true]
  exact ⟨peerN f.peers x.id,List.mem_map.2 ⟨x,(sortN_mem N x).2 hx,rfl⟩,by simp [peer_id]⟩
theorem tick_peer (h0:checkN N=0) {x y:Nd} (hx:x∈N) (hy:y∈N) {h:Nat} (hh:h≤16) :
  peerN (tickF N f x.id h).peers y.id=if y.id=x.id then tickP N (peerN f.peers) (peerN f.peers x.id) h else peerN f.peers y.id:=by
 rw [tick_yes h0 hx hh]
 refine (peer_change h0 _ (fun p=>?_) hy).trans ?_
 ·show (if p.id=x.id then tickP N (peerN (copF N f).peers) p h else p).id=p.id
  split<;>rfl
 ·rw [peer_id]
  by_cases he:y.id=x.id
  ·rw [if_pos he,if_pos he,he]
   unfold tickP
   rw [next_congr (fun z hz=>cop_peer h0 hz)]
  ·rw [if_neg he,if_neg he]
theorem tick_no {id:Int} {h:Int} (hn:¬ (lvlN h=true∧(copF N f).peers.any (fun p=>p.id==id)=true)):tickF N f id h=copF N f:=by unfold tickF;rw [if_neg hn]
theorem tick_conn (hc:ConnF N f) (id h:Int):ConnF N (tickF N f id h):=by
 have h0:=hc.1
 by_cases hy:lvlN h=true∧(copF N f).peers.any (fun p=>p.id==id)=true
 ·obtain ⟨k,rfl⟩:=Int.eq_ofNat_of_zero_le (show 0≤h by have:=hy.1;unfold lvlN at this;simp at this;exact this.1)
  have hk:k≤16:=by have:=hy.1;unfold lvlN at this;simp at this;omega
  obtain ⟨x,hx,rfl⟩:∃ x∈N,x.id=id:=by
   obtain ⟨p,hp,he⟩:=List.any_eq_true.1 hy.2
   rw [cop_map h0] at hp
   obtain ⟨x,hx,rfl⟩:=List.mem_map.1 hp
   exact ⟨x,(sortN_mem N x).1 hx,by simpa [peer_id] using he⟩
  have hm:(tickF N f x.id k).msgs=f.msgs++introsN N (peerN f.peers x.id):=by rw [tick_yes h0 hx hk]
  refine connF_of hc fun a b e=>?_
  rcases e with ⟨⟨y,hyN,rfl⟩,hv⟩ | ⟨hmm,hu,hv⟩
  ·by_cases he:y.id=x.id
   ·rw [he] at hv ⊢
    have hR:∀ u v,(u,v)∈introsN N (peerN f.peers x.id)→nodeB N u→nodeB N v→EdgeF N (tickF N f x.id k) u v:=fun u v hu h1 h2=>.inr ⟨by rw [hm];exact List.mem_append_right _ hu,h1,h2⟩
    have hin:∀ v,v=x.id∨v∈refsN N (peerN f.peers x.id)→v∈arN N (peerN f.peers x.id):=by
     intro v hv
     rw [ar_eq h0 hx (peer_id _ _).symm]
     have hvN:∃ z∈N,z.id=v:=by
      rcases hv with rfl | hv
      ·exact ⟨x,hx,rfl⟩
      ·exact ((mem_refs h0).1 hv).1
     obtain ⟨z,hz,rfl⟩:=hvN
     refine List.mem_map.2 ⟨z,List.mem_filter.2 ⟨(sortN_mem N z).2 hz,?_⟩,rfl⟩
     rw [peer_id,Bool.or_eq_true]
     rcases hv with hv | hv
     ·exact .inl (by simpa using hv)
     ·exact .inr (by rw [List.contains_iff_mem];exact ((mem_refs h0).1 hv).2.2)
    exact row_cl h0 hR x.id (hin _ (.inl rfl)) b (hin _ (.inr hv))
   ·refine Cl.one (.inl (.inl ⟨⟨y,hyN,rfl⟩,?_⟩))
    rw [tick_peer h0 hx hyN hk,if_neg he]
    exact hv
  ·exact Cl.one (.inl (.inr ⟨by rw [hm];exact List.mem_append_left _ hmm,hu,hv⟩))
 ·rw [tick_no hy]
  exact copF_conn hc
theorem mem_erase_or {α:Type}:∀ (l:List α) (k:Nat) (m x:α),l[k]?=some m→x∈l→x=m∨x∈l.eraseIdx k
 | a::l,0,m,x,hk,hx=>by
  simp at hk
  subst hk
  rcases List.mem_cons.1 hx with h | h
  ·exact .inl h
  ·exact .inr h
 | a::l,k+1,m,x,hk,hx=>by
  simp at hk
  rcases List.mem_cons.1 hx with h | h
  ·exact .inr (by rw [List.eraseIdx_cons_succ,h];simp)
  ·rcases mem_erase_or l k m x hk h with h | h
   ·exact .inl h
   ·exact .inr (by rw [List.eraseIdx_cons_succ];exact List.mem_cons_of_mem _ h)
theorem find_node (h0:checkN N=0) {v:Int}:(findN N v).2=true↔nodeB N v:=by
 constructor
 ·intro h
  unfold findN at h
  cases e:N.find? (fun x=>x.id==v) with
  | none=>rw [e] at h;cases h
  | some x=>exact ⟨x,List.mem_of_find?_eq_some e,by simpa using List.find?_some e⟩
 ·rintro ⟨x,hx,rfl⟩
  rw [find_in h0 hx]
theorem tell_id (m:Int×Int) (p:Pr):(tellP N m p).id=p.id:=by unfold tellP;split<;>rfl
theorem del_some (h0:checkN N=0) {k:Nat} {m:Int×Int} (hm:f.msgs[k]?=some m):delF N f k=⟨if (findN N m.2).2=true∧m.1≠m.2 then (copF N f).peers.map (tellP N m) else (copF N f).peers,f.msgs.eraseIdx k⟩:=by
 unfold delF
 rw [if_pos (by omega),cop_msgs h0,Int.toNat_natCast,hm]
theorem del_peer (h0:checkN N=0) {k:Nat} {m:Int×Int} (hm:f.msgs[k]?=some m) {y:Nd} (hy:y∈N):peerN (delF N f k).peers y.id=if (findN N m.2).2=true∧m.1≠m.2∧y.id=m.1 then { peerN f.peers y.id with known:=ordN N ((peerN f.peers y.id).known++[m.2]) y.id } else peerN f.peers y.id:=by
 rw [del_some h0 hm]
 by_cases hc:(findN N m.2).2=true∧m.1≠m.2
 ·simp only [if_pos hc]
  rw [cop_map h0,peer_change h0 _ (tell_id m) hy]
  unfold tellP
  rw [peer_id]
  by_cases he:y.id=m.1
  ·rw [if_pos he,if_pos ⟨hc.1,hc.2,he⟩]
  ·rw [if_neg he,if_neg (fun h=>he h.2.2)]
 ·simp only [if_neg hc]
  rw [cop_peer h0 hy,if_neg (fun h=>hc ⟨h.1,h.2.1⟩)]
theorem nums_more {p:Pr} {v b:Int} (hv:v∈refsN N p) (h0:checkN N=0):v∈refsN N { p with known:=ordN N (p.known++[b]) p.id }:=by
 obtain ⟨h1,h2,h3⟩:=(mem_refs h0).1 hv
 refine (mem_refs h0).2 ⟨h1,h2,?_⟩
 unfold numsP at h3 ⊢
 simp only [List.mem_append] at h3 ⊢
 rcases h3 with (h | h) | h
 ·exact .inl (.inl (mem_ord.2 ⟨h1,h2,by simp [h]⟩))
 ·exact .inl (.inr h)
 ·exact .inr h
theorem del_conn (hc:ConnF N f) (k:Int):ConnF N (delF N f k):=by
 have h0:=hc.1
 by_cases hk:0≤k
 ·obtain ⟨j,rfl⟩:=Int.eq_ofNat_of_zero_le hk
  cases hm:f.msgs[j]? with
  | none =>
   have:delF N f j=copF N f:=by unfold delF;rw [if_pos hk,cop_msgs h0,Int.toNat_natCast,hm]
   rw [this]
   exact copF_conn hc
  | some m =>
   have hms:(delF N f j).msgs=f.msgs.eraseIdx j:=by rw [del_some h0 hm]
   refine connF_of hc fun a b e=>?_
   rcases e with ⟨⟨y,hy,rfl⟩,hv⟩ | ⟨hmm,⟨y,hy,rfl⟩,hb⟩
   ·refine Cl.one (.inl (.inl ⟨⟨y,hy,rfl⟩,?_⟩))
    rw [del_peer h0 hm hy]
    split
    ·have:=nums_more (b:=m.2) hv h0
     rw [show (peerN f.peers y.id).id=y.id from peer_id _ _] at this
     show b∈refsN N ⟨(peerN f.peers y.id).id,(peerN f.peers y.id).left,(peerN f.peers y.id).right,ordN N ((peerN f.peers y.id).known++[m.2]) y.id,(peerN f.peers y.id).near⟩
     rw [show (peerN f.peers y.id).id=y.id from peer_id _ _]
     exact this
    ·exact hv
   ·rcases mem_erase_or _ _ _ _ hm hmm with h | h
    ·subst h
     by_cases he:y.id=b
     ·rw [← he];exact .refl _
     ·refine Cl.one (.inl (.inl ⟨⟨y,hy,rfl⟩,?_⟩))
      rw [del_peer h0 hm hy,if_pos ⟨(find_node h0).2 hb,he,rfl⟩]
      refine (mem_refs h0).2 ⟨hb,by show b≠(peerN f.peers y.id).id;rw [peer_id];exact fun h=>he h.symm,?_⟩
      unfold numsP
      exact List.mem_append_left _ (List.mem_append_left _ (mem_ord.2 ⟨hb,fun h=>he h.symm,by simp⟩))
    ·exact Cl.one (.inl (.inr ⟨by rw [hms];exact h,⟨y,hy,rfl⟩,hb⟩))
 ·have:delF N f k=copF N f:=by unfold delF;rw [if_neg hk]
  rw [this]
  exact copF_conn hc
theorem dbl_conn (hc:ConnF N f) (k:Int) (most:Nat):ConnF N (dblF f k most):=by
 unfold dblF
 split
 ·split
  ·exact hc
  ·refine connF_of hc fun a b e=>Cl.one (.inl ?_)
   rcases e with e | ⟨e,h1,h2⟩
   ·exact .inl e
   ·exact .inr ⟨List.mem_append_left _ e,h1,h2⟩
 ·exact hc
end
def pickN (l:List Int) (i n:Nat):Nat:=match l[i]? with
 | none=>0
 | some x=>(x % (n:Int)).toNat
theorem pick_lt (l:List Int) (i:Nat) {n:Nat} (hn:0<n):pickN l i n<n:=by
 unfold pickN
 split
 ·exact hn
 ·rename_i x _
  have:=Int.emod_lt_of_pos x (show (0:Int)<n by omega)
  have:=Int.emod_nonneg x (show (n:Int)≠0 by omega)
  omega
def delAllF (N:List Nd) (ms:List Int):Nat→Nat→Fl→Fl
 | 0,_,f=>f
 | n+1,i,f=>delAllF N ms n (i+1) (delF N f (pickN ms i (n+1):Nat))
def tickAllF (N:List Nd) (ts:List Int) (h:Int):Nat→Nat→List Int→Fl→Fl
 | 0,_,_,f=>f
 | n+1,i,left,f=>tickAllF N ts h n (i+1) (left.eraseIdx (pickN ts i (n+1))) (tickF N f (left[pickN ts i (n+1)]?.getD 0) h)
def roundF (N:List Nd) (f:Fl) (ms ts:List Int) (h:Int):Fl :=
 if lvlN h=true∧checkN N=0 then tickAllF N ts h N.length 0 ((sortN N).map Nd.id) (delAllF N ms (copF N f).msgs.length 0 (copF N f)) else ⟨[],[]⟩
section
variable {N:List Nd} {f g:Fl}
def DelTo (N:List Nd) (f g:Fl) (D:List (Int×Int)):Prop :=
 (∀ x∈N,(peerN g.peers x.id).left=(peerN f.peers x.id).left∧(peerN g.peers x.id).right=(peerN f.peers x.id).right∧(peerN g.peers x.id).near=(peerN f.peers x.id).near ∧
  ∀ v,nodeB N v→v≠x.id→(v∈(peerN g.peers x.id).known↔v∈(peerN f.peers x.id).known∨(x.id,v)∈D))∧∀ m,m∈f.msgs↔m∈g.msgs∨m∈D
theorem DelTo.refl (N:List Nd) (f:Fl):DelTo N f f []:=⟨fun x hx=>⟨rfl,rfl,rfl,fun v _ _=>by simp⟩,fun m=>by simp⟩
theorem erase_or {α:Type}:∀ (l:List α) (k:Nat) (m x:α),l[k]?=some m→(x∈l↔x∈l.eraseIdx k∨x=m)
 | a::l,0,m,x,hk=>by
  simp at hk
  subst hk
  simp [or_comm]
 | a::l,k+1,m,x,hk=>by
  simp at hk
  rw [List.eraseIdx_cons_succ,List.mem_cons,List.mem_cons,erase_or l k m x hk,or_assoc]
theorem del_step (h0:checkN N=0) {D:List (Int×Int)} (h:DelTo N f g D) {k:Nat} {m:Int×Int} (hm:g.msgs[k]?=some m):DelTo N f (delF N g k) (m::D):=by
 refine ⟨fun x hx=>?_,fun u=>?_⟩
 ·obtain ⟨h1,h2,h3,h4⟩:=h.1 x hx
  rw [del_peer h0 hm hx]
  by_cases hc:(findN N m.2).2=true∧m.1≠m.2∧x.id=m.1
  ·rw [if_pos hc]
   refine ⟨h1,h2,h3,fun v hv hne=>?_⟩
   show v∈ordN N ((peerN g.peers x.id).known++[m.2]) x.id↔_
   rw [mem_ord]
   simp only [List.mem_append,List.mem_cons,List.not_mem_nil,or_false,h4 v hv hne]
   constructor
   ·rintro ⟨_,_,(h | h) | h⟩
    ·exact .inl h
    ·exact .inr (.inr h)
    ·exact .inr (.inl (Prod.ext hc.2.2 h))
   ·rintro (h | (h | h))
    ·exact ⟨hv,hne,.inl (.inl h)⟩
    ·exact ⟨hv,hne,.inr (by rw [← h])⟩
    ·exact ⟨hv,hne,.inl (.inr h)⟩
  ·rw [if_neg hc]
   refine ⟨h1,h2,h3,fun v hv hne=>?_⟩
   rw [h4 v hv hne,List.mem_cons]
   constructor
   ·rintro (h | h)
    ·exact .inl h
    ·exact .inr (.inr h)
   ·rintro (h | (h | h))
    ·exact .inl h
    ·exact absurd ⟨(find_node h0).2 (by rw [← h];exact hv),by rw [← h];exact fun e=>hne e.symm,by rw [← h]⟩ hc
    ·exact .inr h
 ·rw [h.2,del_some h0 hm,List.mem_cons]
  show u∈g.msgs∨u∈D↔u∈g.msgs.eraseIdx k∨u=m∨u∈D
  rw [erase_or _ _ _ u hm,or_assoc]
theorem del_all (h0:checkN N=0) (ms:List Int):∀ (n i:Nat) (g:Fl) (D:List (Int×Int)),g.msgs.length=n→DelTo N f g D→∃ D',DelTo N f (delAllF N ms n i g) D'∧(delAllF N ms n i g).msgs=[]
 | 0,_,g,D,hl,h=>⟨D,h,List.length_eq_zero_iff.1 hl⟩
 | n+1,i,g,D,hl,h=>by
  have hk:=pick_lt ms i (show 0<n+1 by omega)
  obtain ⟨m,hm⟩:∃ m,g.msgs[pickN ms i (n+1)]?=some m:=⟨g.msgs[pickN ms i (n+1)]'(by omega),by simp⟩
  refine del_all h0 ms n (i+1) _ _ ?_ (del_step h0 h hm)
  rw [del_some h0 hm]
  show (g.msgs.eraseIdx _).length=n
  rw [List.length_eraseIdx,if_pos (by omega)]
  omega
def TickTo (N:List Nd) (q g:Fl) (h:Nat) (A:List Int):Prop :=
 (∀ x∈N,(x.id∉A→peerN g.peers x.id=peerN q.peers x.id)∧(x.id∈A→∃ st:Int→Pr,(∀ z∈N,(st z.id).near=(peerN q.peers z.id).near∨(z.id∈A∧(st z.id).near=(peerN g.peers z.id).near)) ∧
  peerN g.peers x.id=tickP N st (peerN q.peers x.id) h))∧∀ m,m∈g.msgs↔m∈q.msgs∨∃ x∈N,x.id∈A∧m∈introsN N (peerN q.peers x.id)
theorem tick_step (h0:checkN N=0) {q:Fl} {h:Nat} (hh:h≤16) {A:List Int} (ht:TickTo N q g h A) {x:Nd} (hx:x∈N) (hxA:x.id∉A):TickTo N q (tickF N g x.id h) h (x.id::A):=by
 have hq:=(ht.1 x hx).1 hxA
 refine ⟨fun y hy=>⟨fun hyA=>?_,fun hyA=>?_⟩,fun m=>?_⟩
 ·rw [List.mem_cons,not_or] at hyA
  rw [tick_peer h0 hx hy hh,if_neg hyA.1]
  exact (ht.1 y hy).1 hyA.2
 ·by_cases he:y.id=x.id
  ·refine ⟨peerN g.peers,fun z hz=>?_,?_⟩
   ·by_cases hzA:z.id∈A
    ·refine .inr ⟨List.mem_cons_of_mem _ hzA,?_⟩
     rw [tick_peer h0 hx hz hh,if_neg (fun e=>hxA (by rw [← e];exact hzA))]
    ·exact .inl (by rw [(ht.1 z hz).1 hzA])
   ·rw [tick_peer h0 hx hy hh,if_pos he,hq,he]
  ·have hyA:y.id∈A:=by
    rcases List.mem_cons.1 hyA with h | h
    ·exact absurd h he
    ·exact h
   obtain ⟨st,h1,h2⟩:=(ht.1 y hy).2 hyA
   refine ⟨st,fun z hz=>?_,?_⟩
   ·rcases h1 z hz with h | ⟨h,h'⟩
    ·exact .inl h
    ·refine .inr ⟨List.mem_cons_of_mem _ h,?_⟩
     rw [tick_peer h0 hx hz hh,if_neg (fun e=>hxA (by rw [← e];exact h))]
     exact h'
   ·rw [tick_peer h0 hx hy hh,if_neg he,h2]
 ·rw [tick_yes h0 hx hh]
  show m∈g.msgs++introsN N (peerN g.peers x.id)↔_
  rw [List.mem_append,ht.2,hq]
  constructor
  ·rintro ((h | ⟨y,hy,hyA,hm⟩) | h)
   ·exact .inl h
   ·exact .inr ⟨y,hy,List.mem_cons_of_mem _ hyA,hm⟩
   ·exact .inr ⟨x,hx,by simp,h⟩
  ·rintro (h | ⟨y,hy,hyA,hm⟩)
   ·exact .inl (.inl h)
   ·rcases List.mem_cons.1 hyA with h | h
    ·rw [h] at hm;exact .inr hm
    ·exact .inl (.inr ⟨y,hy,h,hm⟩)
theorem nodup_at {l:List Int} (h:l.Nodup) {i j:Nat} (hi:i<l.length) (hj:j<l.length) (e:l[i]=l[j]):i=j:=by
 have:=List.pairwise_iff_getElem.1 h
 rcases Nat.lt_trichotomy i j with h1 | h1 | h1
 ·exact absurd e (this i j hi hj h1)
 ·exact h1
 ·exact absurd e.symm (this j i hj hi h1)
theorem tick_all (h0:checkN N=0) {q:Fl} {h:Nat} (hh:h≤16) (ts:List Int):∀ (n i:Nat) (left A:List Int) (g:Fl),left.length=n→left.Nodup→(∀ v∈left,nodeB N v∧v∉A)→(∀ x∈N,x.id∈A∨x.id∈left)→TickTo N q g h A →
  ∃ A',TickTo N q (tickAllF N ts h n i left g) h A'∧∀ x∈N,x.id∈A'
 | 0,_,left,A,g,hl,_,_,hA,ht=>⟨A,ht,fun x hx=>by
   have:=hA x hx
   rw [List.length_eq_zero_iff.1 hl] at this
   simpa using this⟩
 | n+1,i,left,A,g,hl,hnd,hN,hA,ht=>by
  have hk:=pick_lt ts i (show 0<n+1 by omega)
  obtain ⟨m,hm⟩:∃ m,left[pickN ts i (n+1)]?=some m:=⟨left[pickN ts i (n+1)]'(by omega),by simp⟩
  obtain ⟨⟨x,hx,rfl⟩,hxA⟩:=hN m (List.mem_of_getElem? hm)
  unfold tickAllF
  rw [hm]
  have hnot:∀ v∈left.eraseIdx (pickN ts i (n+1)),v≠x.id:=by
   intro v hv he
   subst he
   obtain ⟨j,hj⟩:=List.mem_iff_getElem?.1 hv
   rw [List.getElem?_eraseIdx] at hj
   obtain ⟨h1,e1⟩:=List.getElem?_eq_some_iff.1 hm
   split at hj
   ·obtain ⟨h2,e2⟩:=List.getElem?_eq_some_iff.1 hj
    have:=nodup_at hnd h2 h1 (e2.trans e1.symm)
    omega
   ·obtain ⟨h2,e2⟩:=List.getElem?_eq_some_iff.1 hj
    have:=nodup_at hnd h2 h1 (e2.trans e1.symm)
    omega
  refine tick_all h0 hh ts n (i+1) _ (x.id::A) _ ?_ ?_ (fun v hv=>?_) (fun y hy=>?_) (tick_step h0 hh ht hx hxA)
  ·rw [List.length_eraseIdx,if_pos (by omega)];omega
  ·exact hnd.sublist (List.eraseIdx_sublist _ _)
  ·have hvl:v∈left:=(List.eraseIdx_sublist _ _).subset hv
   refine ⟨(hN v hvl).1,fun h=>?_⟩
   rcases List.mem_cons.1 h with h | h
   ·exact hnot v hv h
   ·exact (hN v hvl).2 h
  ·rcases hA y hy with h | h
   ·exact .inl (List.mem_cons_of_mem _ h)
   ·rcases (erase_or _ _ _ y.id hm).1 h with h | h
    ·exact .inr h
    ·exact .inl (by rw [h];simp)
def Between (N:List Nd) (f q g:Fl) (h:Nat):Prop :=
 (∀ x∈N,(peerN q.peers x.id).left=(peerN f.peers x.id).left∧(peerN q.peers x.id).right=(peerN f.peers x.id).right∧(peerN q.peers x.id).near=(peerN f.peers x.id).near ∧
  ∀ v,nodeB N v→v≠x.id→(v∈(peerN q.peers x.id).known↔v∈(peerN f.peers x.id).known∨(x.id,v)∈f.msgs)) ∧
 (∀ x∈N,∃ st:Int→Pr,(∀ z∈N,(st z.id).near=(peerN q.peers z.id).near∨(st z.id).near=(peerN g.peers z.id).near)∧peerN g.peers x.id=tickP N st (peerN q.peers x.id) h) ∧
 ∀ m,m∈g.msgs↔∃ x∈N,m∈introsN N (peerN q.peers x.id)
theorem round_law (h0:checkN N=0) {h:Nat} (hh:h≤16) (f:Fl) (ms ts:List Int):∃ q,Between N f q (roundF N f ms ts h) h:=by
 have hl:lvlN (h:Int)=true:=by unfold lvlN;simp;omega
 obtain ⟨D,hD,hD0⟩:=del_all h0 ms _ 0 (copF N f) [] rfl (DelTo.refl N (copF N f))
 obtain ⟨q,hq⟩:∃ q,q=delAllF N ms (copF N f).msgs.length 0 (copF N f):=⟨_,rfl⟩
 rw [← hq] at hD hD0
 have hst:TickTo N q q h []:=⟨fun x hx=>⟨fun _=>rfl,fun h=>by cases h⟩,fun m=>by simp⟩
 have hids:((sortN N).map Nd.id).Nodup:=List.Pairwise.map _ (fun a b h=>h) (sort_ids h0)
 obtain ⟨A,hA,hall⟩:=tick_all h0 hh ts N.length 0 ((sortN N).map Nd.id) [] q (by simp [sortN_length]) hids (fun v hv=>by
  obtain ⟨x,hx,rfl⟩:=List.mem_map.1 hv
  exact ⟨⟨x,(sortN_mem N x).1 hx,rfl⟩,by simp⟩) (fun x hx=>.inr (List.mem_map.2 ⟨x,(sortN_mem N x).2 hx,rfl⟩)) hst
 refine ⟨q,fun x hx=>?_,fun x hx=>?_,fun m=>?_⟩
 ·obtain ⟨h1,h2,h3,h4⟩:=hD.1 x hx
  rw [cop_peer h0 hx] at h1 h2 h3 h4
  refine ⟨h1,h2,h3,fun v hv hne=>?_⟩
  rw [h4 v hv hne]
  have:=hD.2 (x.id,v)
  rw [hD0,cop_msgs h0] at this
  simp only [List.not_mem_nil,false_or] at this
  rw [this]
 ·unfold roundF
  rw [if_pos ⟨hl,h0⟩,← hq]
  obtain ⟨st,h1,h2⟩:=(hA.1 x hx).2 (hall x hx)
  exact ⟨st,fun z hz=>(h1 z hz).imp id (fun h=>h.2),h2⟩
 ·unfold roundF
  rw [if_pos ⟨hl,h0⟩,← hq,hA.2,hD0]
  constructor
  ·rintro (h | ⟨x,hx,_,hm⟩)
   ·cases h
   ·exact ⟨x,hx,hm⟩
  ·rintro ⟨x,hx,hm⟩
   exact .inr ⟨x,hx,hall x hx,hm⟩
theorem next_known (h0:checkN N=0) {f q g q' g':Fl} {h:Nat} (b:Between N f q g h) (b':Between N g q' g' h) {x:Nd} (hx:x∈N) {v:Int} (hv:v∈(peerN (roundN N q.peers) x.id).known):v∈(peerN q'.peers x.id).known:=by
 obtain ⟨hvN,hne,hh⟩:=(known_iff h0 hx).1 hv
 rw [((b'.1 x hx).2.2.2 v hvN hne)]
 obtain ⟨st,_,hg⟩:=b.2.1 x hx
 rw [hg]
 have hord:∀ l:List Int,v∈l→v∈ordN N l (peerN q.peers x.id).id:=fun l hl=>mem_ord.2 ⟨hvN,by rw [peer_id];exact hne,hl⟩
 rcases hh with h | h | ⟨c,hc,hm⟩
 ·exact .inl (hord _ (by rw [h];simp))
 ·exact .inl (hord _ (by rw [h];simp))
 ·exact .inr ((b.2.2 _).2 ⟨c,hc,hm⟩)
theorem between_conn {f q g:Fl} {h:Nat} (b:Between N f q g h) (hc:ConnF N f):ConnN N q.peers:=by
 have h0:=hc.1
 refine ⟨h0,fun x hx y hy=>(hc.2 x hx y hy).mono fun a c e=>?_⟩
 have more:∀ z∈N,∀ v,nodeB N v→v≠z.id→v∈numsP (peerN f.peers z.id)∨(z.id,v)∈f.msgs→v∈refsN N (peerN q.peers z.id):=by
  intro z hz v hv hne hh
  obtain ⟨h1,h2,h3,h4⟩:=b.1 z hz
  refine (mem_refs h0).2 ⟨hv,by rw [peer_id];exact hne,?_⟩
  unfold numsP
  rw [h1,h2,h3,List.mem_append,List.mem_append,h4 v hv hne]
  rcases hh with h | h
  ·unfold numsP at h
   rw [List.mem_append,List.mem_append] at h
   rcases h with (h | h) | h
   ·exact .inl (.inl (.inl h))
   ·exact .inl (.inr h)
   ·exact .inr h
  ·exact .inl (.inl (.inr h))
 rcases e with ⟨⟨z,hz,rfl⟩,hv⟩ | ⟨hm,⟨z,hz,rfl⟩,hcN⟩
 ·obtain ⟨h1,h2,h3⟩:=(mem_refs h0).1 hv
  rw [peer_id] at h2
  exact Cl.one (.inl ⟨⟨z,hz,rfl⟩,more z hz _ h1 h2 (.inl h3)⟩)
 ·by_cases he:c=z.id
  ·rw [he];exact .refl _
  ·exact Cl.one (.inl ⟨⟨z,hz,rfl⟩,more z hz _ hcN he (.inr hm)⟩)
theorem exactB_congr {P Q:List Pr} {h:Nat} (hP:∀ x∈N,(peerN P x.id).left=(peerN Q x.id).left∧(peerN P x.id).right=(peerN Q x.id).right∧(peerN P x.id).near=(peerN Q x.id).near):exactB N P (h:Int)=exactB N Q (h:Int):=by
 have hl:linksB N P (h:Int)=linksB N Q (h:Int):=by
  unfold linksB
  split
  ·unfold normalN
   split
   ·rw [List.map_map,List.map_map]
    refine List.map_congr_left fun x hx=>?_
    obtain ⟨h1,h2,h3⟩:=hP x ((sortN_mem N x).1 hx)
    refine Prod.ext ?_ ?_
    ·show (peerN P x.id).id=(peerN Q x.id).id
     rw [peer_id,peer_id]
    ·refine List.map_congr_left fun i _=>?_
     unfold linkB nearAt
     rw [peer_id,peer_id,h1,h2,h3]
   ·rfl
  ·rfl
 unfold exactB
 rw [hl]
theorem flight_law (hw:∀ x∈N,x.word<4294967296) {h:Nat} (hh:h≤16) {F:Nat→Fl} (hc:ConnF N (F 0)) (hr:∀ t,∃ ms ts,F (t+1)=roundF N (F t) ms ts h) (t:Nat) (ht:N.length*(h+1)≤t):exactB N (F t).peers (h:Int)=true:=by
 have h0:=hc.1
 have hb:∀ t,∃ q,Between N (F t) q (F (t+1)) h:=fun t=>by
  obtain ⟨ms,ts,e⟩:=hr t
  rw [e]
  exact round_law h0 hh (F t) ms ts
 obtain ⟨Q,hQ⟩:∃ Q:Nat→Fl,∀ t,Between N (F t) (Q t) (F (t+1)) h:=⟨fun t=>(hb t).choose,fun t=>(hb t).choose_spec⟩
 have hcongr:exactB N (F t).peers (h:Int)=exactB N (Q t).peers (h:Int):=exactB_congr fun x hx=>by
  obtain ⟨h1,h2,h3,_⟩:=(hQ t).1 x hx
  exact ⟨h1.symm,h2.symm,h3.symm⟩
 rw [hcongr]
 refine reach_lawA hw hh (P:=fun t=>(Q t).peers) (between_conn (hQ 0) hc) (fun t a ha v hv=>next_known h0 (hQ t) (hQ (t+1)) ha hv) (fun t a ha=>?_) (fun t a ha=>?_) t ht
 ·obtain ⟨st,_,hg⟩:=(hQ t).2.1 a ha
  obtain ⟨h1,h2,_,_⟩:=(hQ (t+1)).1 a ha
  rw [h1,h2,hg]
  rfl
 ·obtain ⟨st,h1,hg⟩:=(hQ t).2.1 a ha
  obtain ⟨_,_,h3,_⟩:=(hQ (t+1)).1 a ha
  refine ⟨st,fun y hy=>?_,?_⟩
  ·rcases h1 y hy with h | h
   ·exact .inl h
   ·exact .inr (by rw [h,((hQ (t+1)).1 y hy).2.2.1])
  ·rw [h3,hg]
   rfl
end
theorem Blk.app {α:Type} {sz e base g:Nat} {enc:α→List Value} {w w':World} {v:Value} {l:List α} {cs:List Value} {ty:TypeId} (B:Blk w g cs ty) (own:OwnL sz enc e base w v l) (hne:e≠ty) (k:Chg (fun k=>k<w.heap.size∧¬ v.ownBlock=some k) w w'):Blk w' g cs ty :=
 (Chg.block k g ⟨B.lt,fun hv=>own.ne_blk B hne hv rfl⟩).trans B
theorem OwnL.app {α β:Type} {sz sz' e e' base base':Nat} {enc:α→List Value} {enc':β→List Value} {w w':World} {v v':Value} {l:List α} {l':List β} (o:OwnL sz enc e base w v l) (own:OwnL sz' enc' e' base' w v' l') (hne:e≠e') (k:Chg (fun k=>k<w.heap.size∧¬ v'.ownBlock=some k) w w'):OwnL sz enc e base w' v l :=
 o.chg k fun x hx hv=>⟨hx,fun hv'=>by
  obtain ⟨_,c1,h1⟩:=o.blk hv
  obtain ⟨_,c2,h2⟩:=own.blk hv'
  exact blk_kind hne h1 h2⟩
structure DnOf (n b:Nat) (w w':World) (v:Value) (l:List Int):Prop where
 own:OwnL 1 encI 3 w.heap.size w' v l
 len:l.length≤n
 i64:∀ x∈l,I64 x
 tape:TK w' b
 k:Exb b w w'
set_option maxRecDepth 100000 in
set_option maxHeartbeats 2000000 in
theorem down_t {b:Nat} (n:Nat) (a:Option Addr) (na cp:Nat) (l:List Nd) (w:World) (h:TK w b) (hs:Slb 3 encN b w a na l) (hna:na≤1000) (hi:∀ x∈l,I64 x.id) (hn:n≤1000) :
  Calls Tryz.prog 33 #[.pointer (some ⟨b,0,none⟩),.slice a na cp,.int .i64 n] w fun e w'=>∃ v r,e=.returned v∧DnOf n b w w' v r:=by
 have hbw:=h.lt
 have HI:=lH hi
 clear hi
 go_enter Tryz.func33,Tryz.ntmps33
 go_wp2_with fail
 refine (next_t ((n:Int)+1) _ h (by omega) (by omega)).mono ?_
 rintro e w1 ⟨q,rfl,q0,q1,T,kk⟩
 obtain ⟨q,rfl⟩:=Int.eq_ofNat_of_zero_le q0
 have HS:=lH hs
 clear h hs
 go_wp2_with fail
 go_loopw [7,8] (fun o i wr=>∃ (q:Nat) (L:List Int),L.length+q≤n∧i=.int .i64 q∧DnOf n b w wr o L) (fun _ i _=>(intOf i).toNat)
 case atStart=>exact ⟨q,[],by simp;omega,rfl,OwnL.nil _ _ _ _ _,by simp,by simp,T,kk⟩
 case round =>
  clear T kk
  obtain ⟨q,L,hq,rfl,R⟩:=hrel
  obtain ⟨wo,rfl⟩:∃ wo:World,wo=wr:=⟨_,rfl⟩
  by_cases hq0:0<q
  ·have T:=R.tape
   have R:=lH R
   go_wp2_with fail
   refine (id_t _ _ _ l _ T (HS.out.nxb R.out.k) hna HI.out).mono ?_
   clear T
   rintro e w2 ⟨r,rfl,hr,T,k2⟩
   have HR:=lH hr
   have own:=R.out.own.nxb hbw k2
   have kk:=R.out.k.nxb k2
   have zz:=kk.size
   have hLl:L.length≤1000:=by omega
   clear k2 hr
   go_wp2_with (at_builtin;(refine wpList_append_lit (enc:=encI) w2 rfl _ _ 22 rfl w.heap.size 3 (.int .i64 0) 1 8 Tryz.underlying22 Tryz.infoI6 rfl (by omega) (by omega) _ _ own rfl (r:Int) _ rfl rfl (by simp [encI,Value.oneCell']) _ (by simp) rfl (by omega) zz _ ?_);intro v6 w6 own6 _ ch1 _)
   refine ⟨⟨q-1,L++[r],by simp;omega,by rw [show ((q-1:Nat):Int)=(q:Int)-1 by omega],own6,by simp;omega,?_,TP.chg T ch1 (fun x hx=>by omega),Chg.trans kk (ch1.mono (fun x hx=>hx.1))⟩,by simp [intOf];omega⟩
   intro x hx
   rcases List.mem_append.1 hx with h1 | h1
   ·exact R.out.i64 x h1
   ·rw [List.mem_singleton.1 h1];exact HR.out
  ·have R:=lH R
   go_wp2_with fail
   go_ret
   exact ⟨_,L,rfl,R.out⟩
theorem OwnL.apart {α β:Type} {sz sz' e e' base base' g:Nat} {enc:α→List Value} {enc':β→List Value} {w w':World} {v v':Value} {l:List α} {l':List β} (o:OwnL sz enc e base w v l) (own:OwnL sz' enc' e' base' w v' l') (hne:e≠e') (hg:v'.ownBlock=some g) (k:Exb g w w'):OwnL sz enc e base w' v l :=
 o.chg k fun x hx hv=>⟨hx,by
  rintro rfl
  obtain ⟨_,c1,h1⟩:=o.blk hv
  obtain ⟨_,c2,h2⟩:=own.blk hg
  exact blk_kind hne h1 h2⟩
section
variable {N:List Nd} {f g:Fl}
def NormF (N:List Nd) (f:Fl):Prop:=f.peers.map Pr.id=(sortN N).map Nd.id
theorem norm_lenF (h:NormF N f):f.peers.length=N.length:=by
 have:=congrArg List.length h
 simpa [sortN_length] using this
theorem norm_normal (h0:checkN N=0) (P:List Pr) (M:List (Int×Int)):NormF N ⟨normalN N P,M⟩:=by
 unfold NormF normalN
 rw [if_pos h0,List.map_map]
 exact List.map_congr_left fun x _=>peer_id _ _
theorem norm_cop (h0:checkN N=0) (f:Fl):NormF N (copF N f):=by
 unfold copF
 rw [if_pos h0]
 exact norm_normal h0 _ _
theorem ids_map {P:List Pr} {G:Pr→Pr} (hG:∀ p,(G p).id=p.id):(P.map G).map Pr.id=P.map Pr.id:=by
 rw [List.map_map]
 exact List.map_congr_left fun p _=>hG p
theorem norm_tick (h0:checkN N=0) (f:Fl) (id h:Int):NormF N (tickF N f id h):=by
 unfold tickF
 split
 ·show ((copF N f).peers.map fun p=>if p.id=id then tickP N (peerN (copF N f).peers) p h.toNat else p).map Pr.id=_
  rw [ids_map (fun p=>by split<;>rfl)]
  exact norm_cop h0 f
 ·exact norm_cop h0 f
theorem norm_del (h0:checkN N=0) (f:Fl) (k:Int):NormF N (delF N f k):=by
 unfold delF
 split
 ·split
  ·exact norm_cop h0 f
  ·split
   ·show ((copF N f).peers.map (tellP N ‹_›)).map Pr.id=_
    rw [ids_map (tell_id _)]
    exact norm_cop h0 f
   ·exact norm_cop h0 f
 ·exact norm_cop h0 f
theorem dbl_peers (f:Fl) (k:Int) (most:Nat):(dblF f k most).peers=f.peers:=by
 unfold dblF
 split
 ·split<;>rfl
 ·rfl
theorem norm_delAll (h0:checkN N=0) (ms:List Int):∀ (n i:Nat) (g:Fl),NormF N g→NormF N (delAllF N ms n i g)
 | 0,_,_,h=>h
 | n+1,i,g,_=>norm_delAll h0 ms n (i+1) _ (norm_del h0 g _)
theorem norm_tickAll (h0:checkN N=0) (ts:List Int) (h:Int):∀ (n i:Nat) (left:List Int) (g:Fl),NormF N g→NormF N (tickAllF N ts h n i left g)
 | 0,_,_,_,hg=>hg
 | n+1,i,left,g,_=>norm_tickAll h0 ts h n (i+1) _ _ (norm_tick h0 g _ _)
theorem norm_round (h0:checkN N=0) {h:Nat} (hh:h≤16) (f:Fl) (ms ts:List Int):NormF N (roundF N f ms ts h):=by
 unfold roundF
 rw [if_pos ⟨by unfold lvlN;simp;omega,h0⟩]
 exact norm_tickAll h0 ts h _ _ _ _ (norm_delAll h0 ms _ _ _ (norm_cop h0 f))
theorem dbl_len (f:Fl) (k:Int) (most:Nat):(dblF f k most).msgs.length≤f.msgs.length+1∧f.msgs.length≤(dblF f k most).msgs.length:=by
 unfold dblF
 split
 ·split
  ·exact ⟨by omega,by omega⟩
  ·show (f.msgs++[_]).length≤_∧_≤(f.msgs++[_]).length
   simp
 ·exact ⟨by omega,by omega⟩
end
section
variable {α:Type} {sz:Nat} {enc:α→List Value} {e:TypeId} {base:Nat} {w:World} {l:List α} {g n cap:Nat}
theorem OwnW.parts (h:OwnW sz enc e base w (.slice (some ⟨g,0,none⟩) n cap) l):∃ cur:Array Value,n=l.length∧base≤g∧w.heap[g]?=some (.cells cur e (0,0))∧n≤cap∧cap≤maxLen∧cap*sz≤cur.size∧cur.toList.take (n*sz)=l.flatMap enc∧(l.flatMap enc).length=n*sz:=by
 rcases h with ⟨h1,_⟩ | ⟨g',cap',cur,e1,e2,e3,e4,e5,e6,e7⟩
 ·cases h1
 ·obtain ⟨rfl,hLn,rfl⟩:g=g'∧n=l.length∧cap=cap':=by simpa using e1
  subst hLn
  exact ⟨cur,rfl,e2,e3,e4,e5,e6,e7,by have:=congrArg List.length e7;have hm:=Nat.mul_le_mul_right sz e4;have h0:cur.toList.length=cur.size:=Array.length_toList;rw [List.length_take,h0,Nat.min_eq_left (by omega)] at this;exact this.symm⟩
theorem OwnW.ofParts {cur:Array Value} (h1:n=l.length) (h2:base≤g) (h3:w.heap[g]?=some (.cells cur e (0,0))) (h4:n≤cap) (h5:cap≤maxLen) (h6:cap*sz≤cur.size) (h7:cur.toList.take (n*sz)=l.flatMap enc) (h8:(l.flatMap enc).length=n*sz) :
  OwnW sz enc e base w (.slice (some ⟨g,0,none⟩) n cap) l:=by
 subst h1
 exact .inr ⟨g,cap,cur,rfl,h2,h3,h4,h5,h6,h7⟩
theorem OwnW.setcD (h:OwnW sz enc e base w (.slice (some ⟨g,0,none⟩) n cap) l) (v:Value) {j:Nat} (hj:n*sz≤j) :
  OwnW sz enc e base (w.setCell ⟨g,j,none⟩ v) (.slice (some ⟨g,0,none⟩) n cap) l:=by
 obtain ⟨cur,a1,a2,a3,a4,a5,a6,a7,a8⟩:=h.parts
 exact OwnW.ofParts a1 a2 (heap_set a3 j v) a4 a5 (by simp [a6]) (by rw [← a7,Array.toList_setIfInBounds,List.take_set_of_le hj]) a8
theorem OwnW.setcsD:∀ (vs:List Value) (w:World) (j:Nat),n*sz≤j→OwnW sz enc e base w (.slice (some ⟨g,0,none⟩) n cap) l →
  OwnW sz enc e base (w.setCells g j vs) (.slice (some ⟨g,0,none⟩) n cap) l
 | [],_,_,_,h=>h
 | v::vs,w,j,hj,h=>OwnW.setcsD vs _ (j+1) (by omega) (h.setcD v hj)
theorem OwnW.cellC (h:OwnW sz enc e base w (.slice (some ⟨g,0,none⟩) n cap) l) {j:Nat} (hj:j<cap*sz):(w.cell? ⟨g,j,none⟩).isSome=true∧w.frozen? ⟨g,j,none⟩=false:=by
 obtain ⟨cur,a1,a2,a3,a4,a5,a6,a7,a8⟩:=h.parts
 have hsz:j<cur.size:=by omega
 exact ⟨by simp [World.cell?,a3,hsz],by simp [World.frozen?,a3]⟩
theorem run_clear_ownW {P:Program} (h:OwnW sz enc e base w (.slice (some ⟨g,0,none⟩) n cap) l) (m q:Nat) (hm:m+(q+1)≤cap) (z:Value) (zs:Array Value) (hz:(zeroValue e).run P w=.ok z w) (hzc:z.cells=zs) (hzs:zs.size=sz) (hsz:0<sz) (hz1:∀ i,i<sz→(zs[i]!).oneCell'=true)
  (ts ty:TypeId) (hu:P.underlying ts=some (.slice e)) (c':Nat) :
  ∃ vs,(Builtin.clear_ #[ts] ty #[.slice (some ⟨g,m*sz,none⟩) (q+1) c']).run P w=.ok (.tuple #[]) (w.setCells g (m*sz) vs):=by
 obtain ⟨vs,hvs⟩:∃ vs,vs=(Builtin.zeroCells (Value.cells z) (q+1)).toList:=⟨_,rfl⟩
 have hl:vs.length=(q+1)*sz:=by rw [hvs,hzc];simp [Builtin.zeroCells,hzs]
 have hmul:(m+(q+1))*sz≤cap*sz:=Nat.mul_le_mul_right _ hm
 rw [Nat.add_mul] at hmul
 have h1:∀ v∈vs,v.oneCell'=true:=by
  intro v hv
  rw [hvs,hzc] at hv
  simp only [Builtin.zeroCells,Array.toList_map,List.mem_map] at hv
  obtain ⟨i,_,rfl⟩:=hv
  rw [hzs]
  exact hz1 _ (Nat.mod_lt _ hsz)
 have hst:=run_storeCells_cells (P:=P) g (m*sz) vs 0 w (by intro j hj;rw [hl] at hj;exact (h.cellC (by omega)).1) (by intro j hj;rw [hl] at hj;exact (h.cellC (by omega)).2) h1
 simp only [Nat.add_zero] at hst
 refine ⟨vs,?_⟩
 simp [Builtin.clear_,run_underlying hu,hz,← hvs,hst]
theorem chg_setcsW {g:Nat} {w0:World}:∀ (vs:List Value) (w:World) (j:Nat),Chg (fun x=>x<w0.heap.size∧¬ x=g) w0 w→Chg (fun x=>x<w0.heap.size∧¬ x=g) w0 (w.setCells g j vs)
 | [],_,_,h=>h
 | v::vs,w,j,h=>chg_setcsW vs _ (j+1) (h.setCell (p:=⟨g,j,none⟩) v (fun k hk=>hk.2))
theorem wp_append_roomW {P:Program} {o:Oper} {a:Act} {K:Act→World→Prop} {Q:Exit→Act→World→Prop} (s x:Operand) (t:TypeId)
  (ho:o.op=.call { callee:=.builtin .append,args:=#[s,x],argTypes:=#[t,t] })
  (z:Value) (bytes:Nat) (ht:P.underlying t=some (.slice e)) (hi:(P.info? e).map (fun i=>(i.zero,i.size,i.bytes))=some (some z,sz,bytes))
  (hown:OwnW sz enc e base w (.slice (some ⟨g,0,none⟩) n cap) l) (k:Nat) (hk:k≤n) (hs:a.eval s=.slice (some ⟨g,0,none⟩) k cap) (A:Addr) (m c:Nat) (news:List α) (hrd:Sl sz enc w (some A) m news) (hlen:∀ y,(enc y).length=sz) (h1:∀ y,∀ u∈enc y,u.oneCell'=true) (hsz:0<sz)
  (hx:a.eval x=.slice (some A) m c) (hroom:k+m≤cap)
  (h:∀ w',OwnW sz enc e base w' (.slice (some ⟨g,0,none⟩) (k+m) cap) (l.take k++news)→Chg (fun x=>x<w.heap.size∧¬ x=g) w w'→K (a.put o.dst (.slice (some ⟨g,0,none⟩) (k+m) cap)) w'):o.wp P a w K Q:=by
 obtain ⟨i,hi,hz0,hz1,hz2⟩:=info_parts hi
 obtain ⟨cur,a1,a2,a3,a4,a5,a6,a7,a8⟩:=hown.parts
 have hnl:=hrd.len
 have hnew:∀ j u,(news.flatMap enc)[j]?=some u→w.cell? (A.add j)=some u:=by
  intro j u hu
  rcases hrd.2 with h0 | ⟨x,o,e1,_,_⟩
  ·have:news=[]:=List.eq_nil_of_length_eq_zero (hnl.trans h0)
   subst this
   simp at hu
  ·cases e1
   rw [Addr.add_lit]
   exact hrd.flatW hlen hsz j u hu
 have hnf:(news.flatMap enc).length=m*sz:=by rw [flatW_len hlen,hnl]
 have h1f:∀ u∈news.flatMap enc,u.oneCell'=true:=fun u hu=>by
  obtain ⟨y,_,hy⟩:=List.mem_flatMap.1 hu
  exact h1 y u hy
 have hmm:(k+m)*sz≤cap*sz:=Nat.mul_le_mul_right _ hroom
 rw [Nat.add_mul] at hmm
 have htk:cur.toList.take (k*sz)=(l.take k).flatMap enc:=by
  rw [flatN_take hlen,← a7,List.take_take,Nat.min_eq_left (Nat.mul_le_mul_right _ hk)]
 have hlk:(l.take k).length=k:=by rw [List.length_take];omega
 have hrun:=run_append_room (P:=P) w t o.type e i ht hi g k cap cur a3 A m c (news.flatMap enc) (by rw [hz1];exact hnf) hnew h1f hroom (by rw [hz1,hnf];omega)
 have close:∀ v' w',(Builtin.append_ #[t,t] o.type #[.slice (some ⟨g,0,none⟩) k cap,.slice (some A) m c]).run P w=.ok v' w'→K (a.put o.dst v') w'→o.wp P a w K Q:=by
  intro v' w' hr hK
  unfold Oper.wp
  simp [execOp,ho,resolve,invoke,builtin,hs,hx,hr,Result.andThen]
  exact hK
 refine close _ _ hrun (h _ (OwnW.ofParts (by rw [List.length_append,hlk,hnl]) a2 (setRow_heap w g cur _ e _ a3) hroom a5 ?_ ?_ ?_) ⟨rfl,rfl,rfl,by simp [World.setRow],fun k hk=>setRow_other w g k _ (fun he=>hk.2 he)⟩)
 ·simp only [List.size_toArray,List.length_append,List.length_take,List.length_drop,Array.length_toList,hz1,hnf]
  omega
 ·rw [hz1,htk,List.flatMap_append,Nat.add_mul]
  have:((l.take k).flatMap enc++news.flatMap enc).length=k*sz+m*sz:=by rw [List.length_append,flatW_len hlen,hlk,hnf]
  rw [← this]
  exact List.take_left
 ·rw [List.flatMap_append,List.length_append,flatW_len hlen,hlk,hnf,Nat.add_mul]
end
theorem Tryz.zero_delete_lk (w:World):(zeroValue 121).run Tryz.prog w=.ok (.agg #[.int .i64 0,.slice none 0 0]) w:=by kernel_rfl
set_option maxRecDepth 100000 in
set_option maxHeartbeats 4000000 in
theorem delete_lk (v:Value) (l:List (Int×Hdr)) (k:Nat) (w0 w:World) (h:OwnW 2 (encP encI) 121 w0.heap.size w v l) (hk:k<l.length) (hn:l.length≤1000000) (k0:Ex w0 w) :
  Calls Tryz.prog 113 #[v,.int .i64 k,.int .i64 ((k:Int)+1)] w fun e w'=>∃ v',e=.returned v'∧OwnW 2 (encP encI) 121 w0.heap.size w' v' (l.eraseIdx k)∧Ex w0 w'∧Chg (fun x=>x<w.heap.size∧¬ v.ownBlock=some x) w w':=by
 have h9:=h
 rcases h9 with ⟨_,h2⟩ | ⟨g,cap,cur,rfl,hb,_,hlc,hcm,_,_⟩
 ·rw [h2] at hk;simp at hk
 obtain ⟨m,hm⟩:∃ m,l.length=k+1+m:=⟨l.length-(k+1),by omega⟩
 rw [hm] at h hlc hn ⊢
 unfold maxLen at hcm
 have OWN:=lH h
 have HB:=lH hb
 have K0:=lH k0
 have EI:=lH (show l.eraseIdx k=l.take k++l.drop (k+1) from List.eraseIdx_eq_take_drop_succ l k)
 have SLW:=lH (show Sl 2 (encP encI) w (some ⟨g,0,none⟩) l.length l from by
  obtain ⟨a',c',e',r',_⟩:=h.rd (fun _=>rfl)
  have e2:some (⟨g,0,none⟩:Addr)=a'∧k+1+m=l.length∧cap=c':=by simpa using e'
  obtain ⟨rfl,_,rfl⟩:=e2
  exact Rd.mono r' (fun _ hk=>hk.2))
 have HM:=lH hm
 have w1:IntKind.i64.wrap ((k:Int)+1)=(k:Int)+1:=IntWalk.i64_in _ (by omega)
 have t1:((k:Int)+1).toNat=k+1:=by omega
 have b1:(0:Int)≤(k:Int)+1:=by omega
 have b2:(k:Int)≤(k:Int)+1:=by omega
 have b3:(k:Int)+1≤(k:Int)+1+(m:Int):=by omega
 have b4:(k:Int)+1+(m:Int)≤(cap:Int):=by omega
 have b8:(0:Int)≤(k:Int)+(m:Int):=by omega
 have b9:(k:Int)+(m:Int)≤(k:Int)+1+(m:Int):=by omega
 have t2:((k:Int)+(m:Int)).toNat=k+m:=by omega
 have t3:((k:Int)+1+(m:Int)).toNat=k+1+m:=by omega
 have t4:k+1+m-(k+1)=m:=by omega
 have t5:k+1+m-(k+m)=1:=by omega
 have b5:(k:Int)≤(cap:Int):=by omega
 have b6:(k:Int)+1≤(cap:Int):=by omega
 have b7:((k:Int)==(k:Int)+1)=false:=by rw [beq_eq_false_iff_ne];omega
 clear h hb k0 hm hk
 go_enter Tryz.func113,Tryz.ntmps113
 go_upto_region 5 with fail
 have FIN:∀ (wx:World),OwnW 2 (encP encI) 121 w0.heap.size wx (.slice (some ⟨g,0,none⟩) (k+m) cap) (l.eraseIdx k)→Ex w0 wx→Chg (fun x=>x<w.heap.size∧¬ x=g) w wx→∃ vs:List Value,
   (∀ ty c',(Builtin.clear_ #[28] ty #[.slice (some ⟨g,(k+m)*2,none⟩) 1 c']).run Tryz.prog wx=.ok (.tuple #[]) (wx.setCells g ((k+m)*2) vs))∧OwnW 2 (encP encI) 121 w0.heap.size (wx.setCells g ((k+m)*2) vs) (.slice (some ⟨g,0,none⟩) (k+m) cap) (l.eraseIdx k)∧Ex w0 (wx.setCells g ((k+m)*2) vs)∧Chg (fun x=>x<w.heap.size∧¬ (Value.slice (some ⟨g,0,none⟩) (k+1+m) cap).ownBlock=some x) w (wx.setCells g ((k+m)*2) vs):=fun wx O E C=>by
  have hz1:∀ i,i<2→((#[.int .i64 0,.slice none 0 0]:Array Value)[i]!).oneCell'=true:=fun i hi=>match i,hi with
  | 0,_=>rfl
  | 1,_=>rfl
  obtain ⟨vs,hvs⟩:=run_clear_ownW (P:=Tryz.prog) O (k+m) 0 (by omega) (.agg #[.int .i64 0,.slice none 0 0]) #[.int .i64 0,.slice none 0 0] (Tryz.zero_delete_lk wx) rfl rfl (by omega) hz1 28 0 Tryz.underlying28 0
  exact ⟨vs,fun _ _=>hvs,OwnW.setcsD vs wx _ (Nat.le_refl _) O,ex_setcs HB.out vs wx _ E,(chg_setcsW vs wx _ C).mono (fun x hx=>⟨hx.1,fun he=>hx.2 (by rw [he];rfl)⟩)⟩
 by_cases hcap:cap=k+1
 ·subst hcap
  have HRD:Sl 2 (encP encI) w (some ⟨g,0,none⟩) m (l.drop (k+1)):=by
   rw [show m=0 by omega,List.drop_of_length_le (by have:=HM.out;omega)]
   exact Sl.nil _ _ _ _
  have HR:=lH HRD
  clear HRD
  refine wp_region_held_drew (S:=Ex w0) (by kernel_rfl) (K0.out.drew) (fun hHeld=>?_)
  obtain ⟨wd,hwdx⟩:∃ wd:World,wd=World.drew w:=⟨_,rfl⟩
  rw [← hwdx] at hHeld ⊢
  have hDrew:Ex w wd:=by rw [hwdx];exact (Ex.refl w).drew
  clear hwdx
  refine tkH 0 (v:=?_) rfl (by kernel_rfl) (fun _ _ _ h=>h) (by rfl) ?y5 hHeld ?_
  case y5=>intro wq hSw;go_simp<;>rfl
  refine tkH 1 (v:=?_) rfl (by kernel_rfl) (fun _ _ _ h=>h) (by rfl) ?y8 hHeld ?_
  case y8=>intro wq hSw;go_simp<;>rfl
  refine tkH 2 (v:=?_) rfl (by kernel_rfl) (fun _ _ _ h=>h) (by rfl) ?y11 hHeld ?_
  case y11=>intro wq hSw;go_simp<;>rfl
  refine tkH 3 (v:=?_) rfl (by kernel_rfl) (fun _ _ _ h=>h) (by rfl) ?y14 hHeld ?_
  case y14=>intro wq hSw;go_simp<;>rfl
  refine tkH 4 (v:=?_) rfl (by kernel_rfl) (fun _ _ _ h=>h) (by rfl) ?y17 hHeld ?_
  case y17=>intro wq hSw;go_simp<;>rfl
  refine tkH 5 (v:=?_) rfl (by kernel_rfl) (fun _ _ _ h=>h) (by rfl) ?y20 hHeld ?_
  case y20=>intro wq hSw;go_simp<;>rfl
  refine rH 6 (by kernel_rfl) rfl fun K hK=>?_
  rw [if_pos (by rfl)]
  refine wp_append_roomW (enc:=(encP encI)) (.tmp 22) (.tmp 25) 28 rfl (.agg #[.int .i64 0,.slice none 0 0]) 32 Tryz.underlying28 Tryz.infoLd (OWN.out.nx hDrew) k (by omega) rfl ⟨g,0,none⟩ m _ (l.drop (k+1)) (HR.out.nx hDrew) (fun _=>rfl) (by simp [encP,encI,Hdr.val,Value.oneCell']) (by omega) rfl (by omega) ?_
  intro w9 own9 ch0
  replace hHeld:Ex w0 w9:=Chg.trans hHeld (ch0.mono (fun x hx=>⟨Nat.lt_of_lt_of_le hx hHeld.size,fun he=>by have:=HB.out;omega⟩))
  have HC:Chg (fun x=>x<w.heap.size∧¬ x=g) w w9:=Chg.trans (Chg.mono hDrew (fun x hx=>hx.1)) (ch0.mono (fun x hx=>⟨Nat.lt_of_lt_of_le hx.1 hDrew.size,hx.2⟩))
  rw [← EI.out] at own9
  clear ch0
  refine hK.out _ _ (hHeld) (fun hHeld=>?_)
  clear hK K
  refine tkH 7 (v:=?_) rfl (by kernel_rfl) (fun _ _ _ h=>h) (by rfl) ?y35 hHeld ?_
  case y35=>intro wq hSw;go_simp<;>rfl
  refine wpAnyH_done (by kernel_rfl) ?_ _
  obtain ⟨vs,hcl,O9,E9,C9⟩:=FIN w9 own9 hHeld HC
  clear FIN own9 hHeld hDrew HC
  go_wp2_with (simp only [hcl])
  go_ret
  exact ⟨_,rfl,O9,E9,C9⟩
 ·have HRD:Sl 2 (encP encI) w (some ⟨g,(k+1)*2,none⟩) m (l.drop (k+1)):=by
   have:=Sl.drop SLW.out (m:=k+1) (by have:=HM.out;omega)
   rw [Nat.zero_add,show l.length-(k+1)=m by have:=HM.out;omega] at this
   exact this
  have hcap2:¬ k+1=cap:=fun h=>hcap h.symm
  have HR:=lH HRD
  clear HRD
  refine wp_region_held_drew (S:=Ex w0) (by kernel_rfl) (K0.out.drew) (fun hHeld=>?_)
  obtain ⟨wd,hwdx⟩:∃ wd:World,wd=World.drew w:=⟨_,rfl⟩
  rw [← hwdx] at hHeld ⊢
  have hDrew:Ex w wd:=by rw [hwdx];exact (Ex.refl w).drew
  clear hwdx
  refine tkH 0 (v:=?_) rfl (by kernel_rfl) (fun _ _ _ h=>h) (by rfl) ?y5 hHeld ?_
  case y5=>intro wq hSw;go_simp<;>rfl
  refine tkH 1 (v:=?_) rfl (by kernel_rfl) (fun _ _ _ h=>h) (by rfl) ?y8 hHeld ?_
  case y8=>intro wq hSw;go_simp<;>rfl
  refine tkH 2 (v:=?_) rfl (by kernel_rfl) (fun _ _ _ h=>h) (by rfl) ?y11 hHeld ?_
  case y11=>intro wq hSw;go_simp<;>rfl
  refine tkH 3 (v:=?_) rfl (by kernel_rfl) (fun _ _ _ h=>h) (by rfl) ?y14 hHeld ?_
  case y14=>intro wq hSw;go_simp<;>rfl
  refine tkH 4 (v:=?_) rfl (by kernel_rfl) (fun _ _ _ h=>h) (by rfl) ?y17 hHeld ?_
  case y17=>intro wq hSw;go_simp<;>rfl
  refine tkH 5 (v:=?_) rfl (by kernel_rfl) (fun _ _ _ h=>h) (by rfl) ?y20 hHeld ?_
  case y20=>intro wq hSw;go_simp<;>rfl
  refine rH 6 (by kernel_rfl) rfl fun K hK=>?_
  rw [if_pos (by rfl)]
  refine wp_append_roomW (enc:=(encP encI)) (.tmp 22) (.tmp 25) 28 rfl (.agg #[.int .i64 0,.slice none 0 0]) 32 Tryz.underlying28 Tryz.infoLd (OWN.out.nx hDrew) k (by omega) rfl ⟨g,(k+1)*2,none⟩ m _ (l.drop (k+1)) (HR.out.nx hDrew) (fun _=>rfl) (by simp [encP,encI,Hdr.val,Value.oneCell']) (by omega) rfl (by omega) ?_
  intro w9 own9 ch0
  replace hHeld:Ex w0 w9:=Chg.trans hHeld (ch0.mono (fun x hx=>⟨Nat.lt_of_lt_of_le hx hHeld.size,fun he=>by have:=HB.out;omega⟩))
  have HC:Chg (fun x=>x<w.heap.size∧¬ x=g) w w9:=Chg.trans (Chg.mono hDrew (fun x hx=>hx.1)) (ch0.mono (fun x hx=>⟨Nat.lt_of_lt_of_le hx.1 hDrew.size,hx.2⟩))
  rw [← EI.out] at own9
  clear ch0
  refine hK.out _ _ (hHeld) (fun hHeld=>?_)
  clear hK K
  refine tkH 7 (v:=?_) rfl (by kernel_rfl) (fun _ _ _ h=>h) (by rfl) ?y35 hHeld ?_
  case y35=>intro wq hSw;go_simp<;>rfl
  refine wpAnyH_done (by kernel_rfl) ?_ _
  obtain ⟨vs,hcl,O9,E9,C9⟩:=FIN w9 own9 hHeld HC
  clear FIN own9 hHeld hDrew HC
  go_wp2_with (simp only [hcl])
  go_ret
  exact ⟨_,rfl,O9,E9,C9⟩
end Go.Proofs.YthcholmhmcpooaaGreatDoor
