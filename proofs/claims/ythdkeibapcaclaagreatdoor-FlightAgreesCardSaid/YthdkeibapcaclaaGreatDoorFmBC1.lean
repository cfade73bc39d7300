/- Shared texts. -/
import Derived.Test.YthdkeibapcaclaaGreatDoorFmABC1
import Derived.Test.YthdkeibapcaclaaGreatDoorFmBCD1
set_option linter.unusedSimpArgs false
set_option linter.unusedVariables false

namespace Go.Proofs.YthdkeibapcaclaaGreatDoor
open Go.RowKit
def toldN (M:List (Int×Int)) (id:Int):List Int:=(M.filter fun m=>m.1==id).map (·.2)
def roundN (N:List Nd) (P:List Pr):List Pr :=
 (normalN N P).map fun p=>{ p with left:=(keepN N p).1,right:=(keepN N p).2,known:=ordN N ([(keepN N p).1,(keepN N p).2]++toldN ((normalN N P).flatMap (introsN N)) p.id) p.id }
section
variable {N:List Nd} {P:List Pr}
theorem bes_at {id:Int} {A B:List Int} (hA:id∉A):besN id (A++id::B)=((A.getLast?.getD 0),B.head?.getD 0):=by
 have hf:(A++id::B).findIdx? (·==id)=some A.length:=by
  rw [List.findIdx?_eq_some_iff_getElem]
  refine ⟨by simp,by simp,fun j hj=>?_⟩
  rw [List.getElem_append_left hj]
  have:A[j]∈A:=List.getElem_mem hj
  simp only [beq_iff_eq]
  intro h
  rw [h] at this
  exact hA this
 unfold besN
 rw [hf]
 simp only
 congr 1
 ·by_cases h:A.length=0
  ·rw [if_pos h,List.length_eq_zero_iff.1 h];rfl
  ·rw [if_neg h,List.getElem?_append_left (by omega),List.getLast?_eq_getElem?]
 ·rw [List.getElem?_append_right (by omega),show A.length+1-A.length=1 by omega,List.getElem?_cons_succ,List.head?_eq_getElem?]
end
def rndP (N:List Nd) (M:List (Int×Int)) (p:Pr):Pr:={ p with left:=(keepN N p).1,right:=(keepN N p).2,known:=ordN N ([(keepN N p).1,(keepN N p).2]++toldN M p.id) p.id }
theorem roundN_eq (N:List Nd) (P:List Pr):roundN N P=(normalN N P).map (rndP N ((normalN N P).flatMap (introsN N))):=rfl
section
variable {N:List Nd} {P:List Pr}
theorem round_map (h0:checkN N=0):roundN N P=(sortN N).map fun x=>rndP N ((normalN N P).flatMap (introsN N)) (peerN P x.id):=by
 rw [roundN_eq]
 unfold normalN
 rw [if_pos h0,List.map_map]
 rfl
theorem round_peer (h0:checkN N=0) {a:Nd} (ha:a∈N):peerN (roundN N P) a.id=rndP N ((normalN N P).flatMap (introsN N)) (peerN P a.id):=by
 rw [round_map h0]
 exact peer_map (sort_ids h0) (f:=fun x=>rndP N ((normalN N P).flatMap (introsN N)) (peerN P x.id)) (fun x=>peer_id P x.id) ((sortN_mem N a).2 ha)
theorem split2 {α:Type} {S:List α} {x y:Nat} {a b:α} (ha:S[x]?=some a) (hb:S[y]?=some b) (h:x<y) :
  ∃ A M B,S=A++a::(M++b::B)∧A.length=x∧∀ i z,M[i]?=some z→S[x+1+i]?=some z∧x+1+i<y:=by
 obtain ⟨hx,e1⟩:=List.getElem?_eq_some_iff.1 ha
 obtain ⟨hy,e2⟩:=List.getElem?_eq_some_iff.1 hb
 refine ⟨S.take x,(S.drop (x+1)).take (y-x-1),S.drop (y+1),?_,by simp;omega,fun i z hz=>?_⟩
 ·have h1:S=S.take x++S.drop x:=(List.take_append_drop x S).symm
  have h2:S.drop x=a::S.drop (x+1):=by rw [List.drop_eq_getElem_cons hx,e1]
  have h3:S.drop (x+1)=(S.drop (x+1)).take (y-x-1)++(S.drop (x+1)).drop (y-x-1):=(List.take_append_drop _ _).symm
  have h4:(S.drop (x+1)).drop (y-x-1)=b::S.drop (y+1):=by
   rw [List.drop_drop,show x+1+(y-x-1)=y by omega,List.drop_eq_getElem_cons hy,e2]
  rw [h4] at h3
  rw [← h3,← h2]
  exact h1
 ·rw [List.getElem?_take] at hz
  split at hz
  ·rename_i hi
   rw [List.getElem?_drop] at hz
   exact ⟨hz,by omega⟩
  ·cases hz
theorem rnd (h0:checkN N=0) {P':List Pr} (hk:∀ a∈N,∀ v∈(peerN (roundN N P) a.id).known,v∈(peerN P' a.id).known):Lin.Rnd (KR N P) (KR N P'):=by
 rintro p x y ⟨hx,hy,hlt,hno⟩
 -- the node whose row it is
 obtain ⟨c,hc⟩:∃ c,(sortN N)[p]?=some c:=by
  rcases hx with rfl | ⟨c,_,h,_⟩
  ·rcases hy with h | ⟨c,_,h,_⟩
   ·omega
   ·exact ⟨c,h⟩
  ·exact ⟨c,h⟩
 obtain ⟨a,ha⟩:∃ a,(sortN N)[x]?=some a:=by
  rcases hx with rfl | ⟨_,a,_,h,_⟩
  ·exact ⟨c,hc⟩
  ·exact ⟨a,h⟩
 obtain ⟨b,hb⟩:∃ b,(sortN N)[y]?=some b:=by
  rcases hy with rfl | ⟨_,b,_,h,_⟩
  ·exact ⟨c,hc⟩
  ·exact ⟨b,h⟩
 have hmem:∀ {i:Nat} {z:Nd},(sortN N)[i]?=some z→z∈N:=fun h=>(sortN_mem N _).1 (List.mem_of_getElem? h)
 have hcN:=hmem hc
 have haN:=hmem ha
 have hbN:=hmem hb
 have hpid:(peerN P c.id).id=c.id:=peer_id P c.id
 have hrow:∀ {z:Nat} {d:Nd},(sortN N)[z]?=some d→(Lin.Row (KR N P) p z↔(d.id==c.id||(numsP (peerN P c.id)).contains d.id)=true):=by
  intro z d hd
  have hdN:=hmem hd
  simp only [Bool.or_eq_true,beq_iff_eq,List.contains_iff_mem]
  constructor
  ·rintro (rfl | ⟨c',d',h1,h2,h3⟩)
   ·rw [hc] at hd;cases hd;exact .inl rfl
   ·rw [hc] at h1;cases h1
    rw [hd] at h2;cases h2
    exact .inr ((mem_refs h0).1 h3).2.2
  ·rintro (h | h)
   ·refine .inl ?_
    have hdc:d=c:=ids_eq (check_keys h0) hdN hcN h
    subst hdc
    obtain ⟨i1,e1⟩:=List.getElem?_eq_some_iff.1 hd
    obtain ⟨i2,e2⟩:=List.getElem?_eq_some_iff.1 hc
    rcases Nat.lt_trichotomy z p with h | h | h
    ·exact absurd (by rw [e1,e2]) (List.pairwise_iff_getElem.1 (sort_ids h0) z p i1 i2 h)
    ·exact h
    ·exact absurd (by rw [e1,e2]) (List.pairwise_iff_getElem.1 (sort_ids h0) p z i2 i1 h)
   ·by_cases he:d.id=c.id
    ·refine .inl ?_
     have hdc:d=c:=ids_eq (check_keys h0) hdN hcN he
     subst hdc
     obtain ⟨i1,e1⟩:=List.getElem?_eq_some_iff.1 hd
     obtain ⟨i2,e2⟩:=List.getElem?_eq_some_iff.1 hc
     rcases Nat.lt_trichotomy z p with h | h | h
     ·exact absurd (by rw [e1,e2]) (List.pairwise_iff_getElem.1 (sort_ids h0) z p i1 i2 h)
     ·exact h
     ·exact absurd (by rw [e1,e2]) (List.pairwise_iff_getElem.1 (sort_ids h0) p z i2 i1 h)
    ·exact .inr ⟨c,d,hc,hd,(mem_refs h0).2 ⟨⟨d,hdN,rfl⟩,by rw [hpid];exact he,h⟩⟩
 -- the row, with a and b next to each other
 obtain ⟨A,M,B,hS,hAl,hM⟩:=split2 ha hb hlt
 have hMf:M.filter (fun z=>z.id==(peerN P c.id).id||(numsP (peerN P c.id)).contains z.id)=[]:=by
  rw [List.filter_eq_nil_iff]
  intro z hz
  obtain ⟨i,hi⟩:=List.mem_iff_getElem?.1 hz
  obtain ⟨h1,h2⟩:=hM i z hi
  intro hf
  rw [hpid] at hf
  exact hno _ ((hrow h1).2 hf) ⟨by omega,h2⟩
 have hfa:=(hrow ha).1 hx
 have hfb:=(hrow hb).1 hy
 have har:∃ A' B':List Nd,arN N (peerN P c.id)=A'.map Nd.id++a.id::b.id::B'.map Nd.id∧(∀ z∈A',z∈A):=by
  rw [ar_eq h0 hcN hpid.symm,hS]
  refine ⟨A.filter (fun z=>z.id==(peerN P c.id).id||(numsP (peerN P c.id)).contains z.id),B.filter (fun z=>z.id==(peerN P c.id).id||(numsP (peerN P c.id)).contains z.id),?_,fun z hz=>(List.mem_filter.1 hz).1⟩
  rw [List.filter_append,List.filter_cons_of_pos (by rw [hpid];exact hfa),List.filter_append,hMf,List.nil_append,List.filter_cons_of_pos (by rw [hpid];exact hfb)]
  simp
 obtain ⟨A',B',har,hA'⟩:=har
 have hids:=sort_ids h0
 rw [hS] at hids
 have hid2:=List.pairwise_append.1 hids
 have hab:a.id≠b.id:=(List.pairwise_cons.1 hid2.2.1).1 b (by simp)
 have hAa:a.id∉A'.map Nd.id:=fun h=>by
  obtain ⟨z,hz,he⟩:=List.mem_map.1 h
  exact hid2.2.2 z (hA' z hz) a (by simp) he
 have hAb:b.id∉A'.map Nd.id++[a.id]:=fun h=>by
  rcases List.mem_append.1 h with h | h
  ·obtain ⟨z,hz,he⟩:=List.mem_map.1 h
   exact hid2.2.2 z (hA' z hz) b (by simp) he
  ·exact hab (List.mem_singleton.1 h).symm
 have hpn:peerN P c.id∈normalN N P:=by
  unfold normalN
  rw [if_pos h0]
  exact List.mem_map.2 ⟨c,(sortN_mem N c).2 hcN,rfl⟩
 -- what goes into the references
 have know:∀ {u v:Nd},u∈N→v∈N→v.id≠u.id→(v.id∈toldN ((normalN N P).flatMap (introsN N)) u.id∨v.id=(keepN N (peerN P u.id)).1∨v.id=(keepN N (peerN P u.id)).2)→v.id∈refsN N (peerN P' u.id):=by
  intro u v hu hv hne h
  rw [mem_refs h0]
  refine ⟨⟨v,hv,rfl⟩,by rw [peer_id];exact hne,?_⟩
  unfold numsP
  refine List.mem_append.2 (.inl (List.mem_append.2 (.inl (hk u hu _ ?_))))
  rw [round_peer h0 hu]
  unfold rndP
  rw [mem_ord]
  refine ⟨⟨v,hv,rfl⟩,by rw [peer_id];exact hne,?_⟩
  rw [peer_id]
  rcases h with h | h | h
  ·exact List.mem_append.2 (.inr h)
  ·exact List.mem_append.2 (.inl (by simp [h]))
  ·exact List.mem_append.2 (.inl (by simp [h]))
 have told:∀ {u v:Int},(u,v)∈introsN N (peerN P c.id)→v∈toldN ((normalN N P).flatMap (introsN N)) u:=by
  intro u v h
  unfold toldN
  refine List.mem_map.2 ⟨(u,v),List.mem_filter.2 ⟨List.mem_flatMap.2 ⟨_,hpn,h⟩,by simp⟩,rfl⟩
 have hin:introsN N (peerN P c.id)=prsN c.id (A'.map Nd.id++a.id::b.id::B'.map Nd.id):=by unfold introsN;rw [hpid,har]
 have hkp:keepN N (peerN P c.id)=besN c.id (A'.map Nd.id++a.id::b.id::B'.map Nd.id):=by unfold keepN;rw [hpid,har]
 constructor
 ·refine ⟨a,b,ha,hb,know haN hbN (Ne.symm hab) ?_⟩
  by_cases hac:a.id=c.id
  ·have:a=c:=ids_eq (check_keys h0) haN hcN hac
   subst this
   refine .inr (.inr ?_)
   rw [hkp,bes_at hAa]
   rfl
  ·refine .inl (told ?_)
   rw [hin]
   exact prs_mem.1 hac
 ·refine ⟨b,a,hb,ha,know hbN haN hab ?_⟩
  by_cases hbc:b.id=c.id
  ·have:b=c:=ids_eq (check_keys h0) hbN hcN hbc
   subst this
   refine .inr (.inl ?_)
   have e:A'.map Nd.id++a.id::b.id::B'.map Nd.id=(A'.map Nd.id++[a.id])++b.id::B'.map Nd.id:=by simp
   rw [hkp,e,bes_at hAb]
   simp
  ·refine .inl (told ?_)
   rw [hin]
   exact prs_mem.2 hbc
theorem edge_kr (h0:checkN N=0) {x y:Nat} {a b:Nd} (ha:(sortN N)[x]?=some a) (hb:(sortN N)[y]?=some b):EdgeN N P a.id b.id↔KR N P x y:=by
 have haN:=(sortN_mem N _).1 (List.mem_of_getElem? ha)
 constructor
 ·rintro ⟨_,h⟩
  exact ⟨a,b,ha,hb,h⟩
 ·rintro ⟨a',b',h1,h2,h3⟩
  rw [ha] at h1
  rw [hb] at h2
  cases h1
  cases h2
  exact ⟨⟨a,haN,rfl⟩,h3⟩
theorem place_of {x:Nd} (hx:x∈N):∃ i,(sortN N)[i]?=some x∧i<N.length:=by
 obtain ⟨i,hi⟩:=List.mem_iff_getElem?.1 ((sortN_mem N x).2 hx)
 have:=(List.getElem?_eq_some_iff.1 hi).1
 rw [sortN_length] at this
 exact ⟨i,hi,this⟩
theorem place_eq (h0:checkN N=0) {i j:Nat} {a b:Nd} (hi:(sortN N)[i]?=some a) (hj:(sortN N)[j]?=some b) (he:a.id=b.id):i=j:=by
 obtain ⟨h1,e1⟩:=List.getElem?_eq_some_iff.1 hi
 obtain ⟨h2,e2⟩:=List.getElem?_eq_some_iff.1 hj
 rcases Nat.lt_trichotomy i j with h | h | h
 ·exact absurd (by rw [e1,e2];exact he) (List.pairwise_iff_getElem.1 (sort_ids h0) i j h1 h2 h)
 ·exact h
 ·exact absurd (by rw [e1,e2];exact he.symm) (List.pairwise_iff_getElem.1 (sort_ids h0) j i h2 h1 h)
theorem cl_path (h0:checkN N=0) {u v:Int} (h:Cl (EdgeN N P) u v):∀ {i j:Nat} {a b:Nd},(sortN N)[i]?=some a→(sortN N)[j]?=some b→a.id=u→b.id=v→Lin.Path (fun x y=>KR N P x y∨KR N P y x) 0 (N.length-1) i j:=by
 have lt:∀ {i:Nat} {a:Nd},(sortN N)[i]?=some a→i≤N.length-1:=fun h=>by
  have:=(List.getElem?_eq_some_iff.1 h).1
  rw [sortN_length] at this
  omega
 induction h with
 | refl u =>
  intro i j a b hi hj ha hb
  have:=place_eq h0 hi hj (ha.trans hb.symm)
  subst this
  exact .refl (Nat.zero_le _) (lt hi)
 | step h1 h2 ih =>
  rename_i u c v
  intro i j a b hi hj ha hb
  obtain ⟨z,hz,hzc⟩:∃ z∈N,z.id=c:=by
   rcases h1 with h | h
   ·exact (edge_node h0 h).2
   ·exact (edge_node h0 h).1
  obtain ⟨k,hk,_⟩:=place_of hz
  refine .step (Nat.zero_le _) (lt hi) ?_ (ih hk hj hzc hb)
  rw [← ha,← hzc] at h1
  exact h1.imp (edge_kr h0 hi hk).1 (edge_kr h0 hk hi).1
end
section
variable {N:List Nd}
variable {P:List Pr}
theorem known_iff (h0:checkN N=0) {x:Nd} (hx:x∈N) {v:Int}:v∈(peerN (roundN N P) x.id).known↔(∃ y∈N,y.id=v)∧v≠x.id∧(v=(keepN N (peerN P x.id)).1∨v=(keepN N (peerN P x.id)).2∨∃ c∈N,(x.id,v)∈introsN N (peerN P c.id)):=by
 rw [round_peer h0 hx]
 unfold rndP
 rw [mem_ord,peer_id]
 have ht:v∈toldN ((normalN N P).flatMap (introsN N)) x.id↔∃ c∈N,(x.id,v)∈introsN N (peerN P c.id):=by
  unfold toldN normalN
  rw [if_pos h0]
  simp only [List.mem_map,List.mem_filter,List.mem_flatMap,beq_iff_eq]
  constructor
  ·rintro ⟨m,⟨⟨p,⟨c,hc,rfl⟩,hm⟩,he⟩,rfl⟩
   refine ⟨c,(sortN_mem N c).1 hc,?_⟩
   rw [← he];exact hm
  ·rintro ⟨c,hc,hm⟩
   exact ⟨(x.id,v),⟨⟨_,⟨c,(sortN_mem N c).2 hc,rfl⟩,hm⟩,rfl⟩,rfl⟩
 rw [List.mem_append,ht]
 simp only [List.mem_cons,List.not_mem_nil,or_false,or_assoc]
end
section
variable {N:List Nd} {f g:Fl}
def TickTo (N:List Nd) (q g:Fl) (h:Nat) (A:List Int):Prop :=
 (∀ x∈N,(x.id∉A→peerN g.peers x.id=peerN q.peers x.id)∧(x.id∈A→∃ st:Int→Pr,(∀ z∈N,(st z.id).near=(peerN q.peers z.id).near∨(z.id∈A∧(st z.id).near=(peerN g.peers z.id).near)) ∧
  peerN g.peers x.id=tickP N st (peerN q.peers x.id) h))∧∀ m,m∈g.msgs↔m∈q.msgs∨∃ x∈N,x.id∈A∧m∈introsN N (peerN q.peers x.id)
theorem tick_step (h0:checkN N=0) {q:Fl} {h:Nat} (hh:h≤16) {A:List Int} (ht:TickTo N q g h A) {x:Nd} (hx:x∈N) (hxA:x.id∉A):TickTo N q (tickF N g x.id h) h (x.id::A):=by
 have hq:=(ht.1 x hx).1 hxA
 refine ⟨fun y hy=>⟨fun hyA=>?_,fun hyA=>?_⟩,fun m=>?_⟩
 ·rw [List.mem_cons,not_or] at hyA
  rw [tick_peer h0 hx hy hh,if_neg hyA.1]
  exact (ht.1 y hy).1 hyA.2
 ·by_cases he:y.id=x.id
  ·refine ⟨peerN g.peers,fun z hz=>?_,?_⟩
   ·by_cases hzA:z.id∈A
    ·refine .inr ⟨List.mem_cons_of_mem _ hzA,?_⟩
     rw [tick_peer h0 hx hz hh,if_neg (fun e=>hxA (by rw [← e];exact hzA))]
    ·exact .inl (by rw [(ht.1 z hz).1 hzA])
   ·rw [tick_peer h0 hx hy hh,if_pos he,hq,he]
  ·have hyA:y.id∈A:=by
    rcases List.mem_cons.1 hyA with h | h
    ·exact absurd h he
    ·exact h
   obtain ⟨st,h1,h2⟩:=(ht.1 y hy).2 hyA
   refine ⟨st,fun z hz=>?_,?_⟩
   ·rcases h1 z hz with h | ⟨h,h'⟩
    ·exact .inl h
    ·refine .inr ⟨List.mem_cons_of_mem _ h,?_⟩
     rw [tick_peer h0 hx hz hh,if_neg (fun e=>hxA (by rw [← e];exact h))]
     exact h'
   ·rw [tick_peer h0 hx hy hh,if_neg he,h2]
 ·rw [tick_yes h0 hx hh]
  show m∈g.msgs++introsN N (peerN g.peers x.id)↔_
  rw [List.mem_append,ht.2,hq]
  constructor
  ·rintro ((h | ⟨y,hy,hyA,hm⟩) | h)
   ·exact .inl h
   ·exact .inr ⟨y,hy,List.mem_cons_of_mem _ hyA,hm⟩
   ·exact .inr ⟨x,hx,by simp,h⟩
  ·rintro (h | ⟨y,hy,hyA,hm⟩)
   ·exact .inl (.inl h)
   ·rcases List.mem_cons.1 hyA with h | h
    ·rw [h] at hm;exact .inr hm
    ·exact .inl (.inr ⟨y,hy,h,hm⟩)
theorem nodup_at {l:List Int} (h:l.Nodup) {i j:Nat} (hi:i<l.length) (hj:j<l.length) (e:l[i]=l[j]):i=j:=by
 have:=List.pairwise_iff_getElem.1 h
 rcases Nat.lt_trichotomy i j with h1 | h1 | h1
 ·exact absurd e (this i j hi hj h1)
 ·exact h1
 ·exact absurd e.symm (this j i hj hi h1)
theorem tick_all (h0:checkN N=0) {q:Fl} {h:Nat} (hh:h≤16) (ts:List Int):∀ (n i:Nat) (left A:List Int) (g:Fl),left.length=n→left.Nodup→(∀ v∈left,nodeB N v∧v∉A)→(∀ x∈N,x.id∈A∨x.id∈left)→TickTo N q g h A →
  ∃ A',TickTo N q (tickAllF N ts h n i left g) h A'∧∀ x∈N,x.id∈A'
 | 0,_,left,A,g,hl,_,_,hA,ht=>⟨A,ht,fun x hx=>by
   have:=hA x hx
   rw [List.length_eq_zero_iff.1 hl] at this
   simpa using this⟩
 | n+1,i,left,A,g,hl,hnd,hN,hA,ht=>by
  have hk:=pick_lt ts i (show 0<n+1 by omega)
  obtain ⟨m,hm⟩:∃ m,left[pickN ts i (n+1)]?=some m:=⟨left[pickN ts i (n+1)]'(by omega),by simp⟩
  obtain ⟨⟨x,hx,rfl⟩,hxA⟩:=hN m (List.mem_of_getElem? hm)
  unfold tickAllF
  rw [hm]
  have hnot:∀ v∈left.eraseIdx (pickN ts i (n+1)),v≠x.id:=by
   intro v hv he
   subst he
   obtain ⟨j,hj⟩:=List.mem_iff_getElem?.1 hv
   rw [List.getElem?_eraseIdx] at hj
   obtain ⟨h1,e1⟩:=List.getElem?_eq_some_iff.1 hm
   split at hj
   ·obtain ⟨h2,e2⟩:=List.getElem?_eq_some_iff.1 hj
    have:=nodup_at hnd h2 h1 (e2.trans e1.symm)
    omega
   ·obtain ⟨h2,e2⟩:=List.getElem?_eq_some_iff.1 hj
    have:=nodup_at hnd h2 h1 (e2.trans e1.symm)
    omega
  refine tick_all h0 hh ts n (i+1) _ (x.id::A) _ ?_ ?_ (fun v hv=>?_) (fun y hy=>?_) (tick_step h0 hh ht hx hxA)
  ·rw [List.length_eraseIdx,if_pos (by omega)];omega
  ·exact hnd.sublist (List.eraseIdx_sublist _ _)
  ·have hvl:v∈left:=(List.eraseIdx_sublist _ _).subset hv
   refine ⟨(hN v hvl).1,fun h=>?_⟩
   rcases List.mem_cons.1 h with h | h
   ·exact hnot v hv h
   ·exact (hN v hvl).2 h
  ·rcases hA y hy with h | h
   ·exact .inl (List.mem_cons_of_mem _ h)
   ·rcases (erase_or _ _ _ y.id hm).1 h with h | h
    ·exact .inr h
    ·exact .inl (by rw [h];simp)
def Between (N:List Nd) (f q g:Fl) (h:Nat):Prop :=
 (∀ x∈N,(peerN q.peers x.id).left=(peerN f.peers x.id).left∧(peerN q.peers x.id).right=(peerN f.peers x.id).right∧(peerN q.peers x.id).near=(peerN f.peers x.id).near ∧
  ∀ v,nodeB N v→v≠x.id→(v∈(peerN q.peers x.id).known↔v∈(peerN f.peers x.id).known∨(x.id,v)∈f.msgs)) ∧
 (∀ x∈N,∃ st:Int→Pr,(∀ z∈N,(st z.id).near=(peerN q.peers z.id).near∨(st z.id).near=(peerN g.peers z.id).near)∧peerN g.peers x.id=tickP N st (peerN q.peers x.id) h) ∧
 ∀ m,m∈g.msgs↔∃ x∈N,m∈introsN N (peerN q.peers x.id)
theorem round_law (h0:checkN N=0) {h:Nat} (hh:h≤16) (f:Fl) (ms ts:List Int):∃ q,Between N f q (roundF N f ms ts h) h:=by
 have hl:lvlN (h:Int)=true:=by unfold lvlN;simp;omega
 obtain ⟨D,hD,hD0⟩:=del_all h0 ms _ 0 (copF N f) [] rfl (DelTo.refl N (copF N f))
 obtain ⟨q,hq⟩:∃ q,q=delAllF N ms (copF N f).msgs.length 0 (copF N f):=⟨_,rfl⟩
 rw [← hq] at hD hD0
 have hst:TickTo N q q h []:=⟨fun x hx=>⟨fun _=>rfl,fun h=>by cases h⟩,fun m=>by simp⟩
 have hids:((sortN N).map Nd.id).Nodup:=List.Pairwise.map _ (fun a b h=>h) (sort_ids h0)
 obtain ⟨A,hA,hall⟩:=tick_all h0 hh ts N.length 0 ((sortN N).map Nd.id) [] q (by simp [sortN_length]) hids (fun v hv=>by
  obtain ⟨x,hx,rfl⟩:=List.mem_map.1 hv
  exact ⟨⟨x,(sortN_mem N x).1 hx,rfl⟩,by simp⟩) (fun x hx=>.inr (List.mem_map.2 ⟨x,(sortN_mem N x).2 hx,rfl⟩)) hst
 refine ⟨q,fun x hx=>?_,fun x hx=>?_,fun m=>?_⟩
 ·obtain ⟨h1,h2,h3,h4⟩:=hD.1 x hx
  rw [cop_peer h0 hx] at h1 h2 h3 h4
  refine ⟨h1,h2,h3,fun v hv hne=>?_⟩
  rw [h4 v hv hne]
  have:=hD.2 (x.id,v)
  rw [hD0,cop_msgs h0] at this
  simp only [List.not_mem_nil,false_or] at this
  rw [this]
 ·unfold roundF
  rw [if_pos ⟨hl,h0⟩,← hq]
  obtain ⟨st,h1,h2⟩:=(hA.1 x hx).2 (hall x hx)
  exact ⟨st,fun z hz=>(h1 z hz).imp id (fun h=>h.2),h2⟩
 ·unfold roundF
  rw [if_pos ⟨hl,h0⟩,← hq,hA.2,hD0]
  constructor
  ·rintro (h | ⟨x,hx,_,hm⟩)
   ·cases h
   ·exact ⟨x,hx,hm⟩
  ·rintro ⟨x,hx,hm⟩
   exact .inr ⟨x,hx,hall x hx,hm⟩
end
structure InOf (n b:Nat) (w w':World) (v:Value) (l:List Int):Prop where
 own:OwnL 1 encI 3 w.heap.size w' v l
 len:l.length≤n
 tape:TK w' b
 k:Exb b w w'
set_option maxRecDepth 100000 in
set_option maxHeartbeats 2000000 in
theorem ints_t {b:Nat} (n:Nat) (most:Int) (w:World) (h:TK w b) (hn:n≤1000) (hm1:1≤most) (hm2:most≤1000000) :
  Calls Tryz.prog 21 #[.pointer (some ⟨b,0,none⟩),.int .i64 n,.int .i64 most] w fun e w'=>∃ v r,e=.returned v∧InOf n b w w' v r:=by
 have hbw:=h.lt
 go_enter Tryz.func21,Tryz.ntmps21
 go_wp2_with fail
 refine (next_t ((n:Int)+1) _ h (by omega) (by omega)).mono ?_
 rintro e w1 ⟨q,rfl,q0,q1,T,kk⟩
 obtain ⟨q,rfl⟩:=Int.eq_ofNat_of_zero_le q0
 clear h
 go_wp2_with fail
 go_loopw [7,8] (fun o i wr=>∃ (q:Nat) (L:List Int),L.length+q≤n∧i=.int .i64 q∧InOf n b w wr o L) (fun _ i _=>(intOf i).toNat)
 case atStart=>exact ⟨q,[],by simp;omega,rfl,OwnL.nil _ _ _ _ _,by simp,T,kk⟩
 case round =>
  clear T kk
  obtain ⟨q,L,hq,rfl,R⟩:=hrel
  obtain ⟨wo,rfl⟩:∃ wo:World,wo=wr:=⟨_,rfl⟩
  by_cases hq0:0<q
  ·have T:=R.tape
   have R:=lH R
   go_wp2_with fail
   refine (next_t most _ T hm1 (by omega)).mono ?_
   clear T
   rintro e w2 ⟨r,rfl,r0,r1,T,k2⟩
   have own:=R.out.own.nxb hbw k2
   have kk:=R.out.k.nxb k2
   have zz:=kk.size
   have hLl:L.length≤1000:=by omega
   clear k2 r0 r1
   go_wp2_with (at_builtin;(refine wpList_append_lit (enc:=encI) w2 rfl _ _ 22 rfl w.heap.size 3 (.int .i64 0) 1 8 Tryz.underlying22 Tryz.infoI6 rfl (by omega) (by omega) _ _ own rfl (r:Int) _ rfl rfl (by simp [encI,Value.oneCell']) _ (by simp) rfl (by omega) zz _ ?_);intro v6 w6 own6 _ ch1 _)
   refine ⟨⟨q-1,L++[r],by simp;omega,by rw [show ((q-1:Nat):Int)=(q:Int)-1 by omega],own6,by simp;omega,TP.chg T ch1 (fun x hx=>by omega),Chg.trans kk (ch1.mono (fun x hx=>hx.1))⟩,by simp [intOf];omega⟩
  ·have R:=lH R
   go_wp2_with fail
   go_ret
   exact ⟨_,L,rfl,R.out⟩
theorem ints_8 {b:Nat} (w:World) (h:TK w b):Calls Tryz.prog 21 #[.pointer (some ⟨b,0,none⟩),.int .i64 8,.int .i64 50] w fun e w'=>∃ v r,e=.returned v∧InOf 8 b w w' v r:=ints_t 8 50 w h (by omega) (by omega) (by omega)
theorem ints_6 {b:Nat} (w:World) (h:TK w b):Calls Tryz.prog 21 #[.pointer (some ⟨b,0,none⟩),.int .i64 6,.int .i64 9] w fun e w'=>∃ v r,e=.returned v∧InOf 6 b w w' v r:=ints_t 6 9 w h (by omega) (by omega) (by omega)
section
variable {eP eI eN:TypeId} {base:Nat} {w:World} {v:Value} {qs:List PQ} {P:List Pr}
end
def MixQ (S:Nat) (qs2:List PQ) (j:Nat) (qs:List PQ):Prop:=∀ (i:Nat) (q:PQ) (g:Nat),qs[i]?=some q→q.2.2.val.ownBlock=some g→g<S∨(i<j∧∃ q2,qs2[i]?=some q2∧q2.2.2=q.2.2)
theorem MixQ.start {eP eI eN:TypeId} {base S:Nat} {w:World} {v:Value} {qs qs2:List PQ} {P:List Pr} (h:OwnP eP eI eN base w v qs P) (hS:w.heap.size≤S):MixQ S qs2 0 qs:=fun i q g hq hg=>by
 obtain ⟨p,_,_,_,r3⟩:=h.getp hq
 exact .inl (Nat.lt_of_lt_of_le (r3.lt g hg).2 hS)
theorem MixQ.fn {eP eI eN:TypeId} {S:Nat} {w:World} {v:Value} {qs qs2:List PQ} {Q:List Pr} {j:Nat} {q2:PQ} (h:MixQ S qs2 j qs) (h2:OwnP eP eI eN S w v qs2 Q) (hq2:qs2[j]?=some q2) :
  ∀ (i:Nat) (r:PQ) (g':Nat),i≠j→qs[i]?=some r→r.2.2.val.ownBlock=some g'→¬ q2.2.2.val.ownBlock=some g':=fun i r g hij hr hg hv=>by
 obtain ⟨p,_,_,_,r3⟩:=h2.getp hq2
 have hS:=(r3.lt g hv).1
 rcases h i r g hr hg with h1 | ⟨_,q3,h3,h4⟩
 ·omega
 ·exact hij (h2.2.2.2.2 i j q3 q2 g h3 hq2 (by rw [h4];exact hg) hv)
theorem MixQ.step {S:Nat} {qs qs2:List PQ} {j:Nat} {q2 q':PQ} (h:MixQ S qs2 j qs) (hq2:qs2[j]?=some q2) (he:q2.2.2=q'.2.2):MixQ S qs2 (j+1) (qs.set j q'):=fun i q g hq hg=>by
 by_cases hij:j=i
 ·subst hij
  rw [List.getElem?_set] at hq
  simp at hq
  obtain ⟨_,rfl⟩:=hq
  exact .inr ⟨by omega,q2,hq2,he⟩
 ·rw [List.getElem?_set_ne hij] at hq
  rcases h i q g hq hg with h1 | ⟨h1,h2⟩
  ·exact .inl h1
  ·exact .inr ⟨by omega,h2⟩
end Go.Proofs.YthdkeibapcaclaaGreatDoor
