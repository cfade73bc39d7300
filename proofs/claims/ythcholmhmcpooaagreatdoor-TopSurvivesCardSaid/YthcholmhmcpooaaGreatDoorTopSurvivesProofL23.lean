/- Texts for TopSurvivesProof. -/
import Derived.BigRegion
import Derived.Test.YthcholmhmcpooaaGreatDoorTopSurvivesProofL21
import Derived.Test.YthcholmhmcpooaaGreatDoorTopSurvivesProofL22
set_option linter.unusedSimpArgs false
set_option linter.unusedVariables false

namespace Go.Proofs.YthcholmhmcpooaaGreatDoor
open Go.RowKit
def besideN (g:List Nd) (k:Nat) (m:Int):List Int:=(g.zipIdx.filter fun q=>decide (q.2≠k)&&decide ((q.2:Int)-k≤m)&&decide ((k:Int)-q.2≤m)).map fun q=>q.1.id
def contactsN (N:List Nd) (id width height:Int):List Int :=
 if width<1∨lvlN height=false∨checkN N≠0 then [] else ordN N ((List.range (height.toNat+1)).flatMap fun (h:Nat)=>besideN (throughN N id h).1 (throughN N id h).2.1 width) id
def gapStep (s:Nat×Nat) (b:Bool):Nat×Nat:=(max s.1 (if b then s.2+1 else 0),if b then s.2+1 else 0)
def gapF (bs:List Bool) (s:Nat×Nat):Nat×Nat:=bs.foldl gapStep s
def gapN (N:List Nd) (down:List Int):Nat:=if checkN N=0 then (gapF ((sortN N).map fun x=>down.contains x.id) (0,0)).1 else 0
def peerC (N:List Nd) (width height:Int) (x:Nd):Pr :=
 ⟨x.id,(neighN (sortN N) x.id 0).1.1,(neighN (sortN N) x.id 0).1.2,contactsN (sortN N) x.id width height,(List.range height.toNat).map (nearG (sortN N) x)⟩
def peersN (N:List Nd) (width height:Int):List Pr:=if checkN N=0∧lvlN height=true then (sortN N).map (peerC N width height) else []
def crashN (P:List Pr) (down:List Int):List Pr:=P.filter fun p=>!(down.contains p.id)
theorem gap_mono_s:∀ (bs:List Bool) (s:Nat×Nat),s.1≤(gapF bs s).1
 | [],s=>Nat.le_refl _
 | b::bs,s=>by
  have:=gap_mono_s bs (gapStep s b)
  unfold gapF at this ⊢
  rw [List.foldl_cons]
  unfold gapStep at this ⊢
  simp only at this
  omega
theorem gap_le_s:∀ (bs:List Bool) (s:Nat×Nat),(gapF bs s).1≤max s.1 (s.2+bs.length)
 | [],s=>by unfold gapF;simp;omega
 | b::bs,s=>by
  have:=gap_le_s bs (gapStep s b)
  unfold gapF at this ⊢
  rw [List.foldl_cons]
  unfold gapStep at this ⊢
  cases b<;>simp at this ⊢<;>omega
theorem gap_run:∀ (bs:List Bool) (s:Nat×Nat),(∀ b∈bs,b=true)→0<bs.length→s.2+bs.length≤(gapF bs s).1
 | [b],s,h,_=>by
  have:=h b (by simp)
  subst this
  show _≤(gapStep s true).1
  unfold gapStep
  simp
  omega
 | b::c::bs,s,h,_=>by
  have:=h b (by simp)
  subst this
  have:=gap_run (c::bs) (gapStep s true) (fun x hx=>h x (by simp_all)) (by simp)
  unfold gapF at this ⊢
  rw [List.foldl_cons]
  unfold gapStep at this ⊢
  simp at this ⊢
  omega
theorem gap_app (A B:List Bool) (s:Nat×Nat):gapF (A++B) s=gapF B (gapF A s):=by unfold gapF;rw [List.foldl_append]
theorem gap_inner {A D B:List Bool} {s:Nat×Nat} (h:∀ b∈D,b=true):D.length≤(gapF (A++D++B) s).1:=by
 rw [gap_app,gap_app]
 by_cases hd:D.length=0
 ·omega
 ·have h1:=gap_run D (gapF A s) h (by omega)
  have h2:=gap_mono_s B (gapF D (gapF A s))
  omega
theorem gap_le (N:List Nd) (down:List Int):gapN N down≤N.length:=by
 unfold gapN
 split
 ·have:=gap_le_s ((sortN N).map fun x=>down.contains x.id) (0,0)
  simp [sortN_length] at this
  simpa using this
 ·omega
theorem mem_beside {g:List Nd} {k:Nat} {m v:Int}:v∈besideN g k m↔∃ j y,g[j]?=some y∧j≠k∧(j:Int)-k≤m∧(k:Int)-j≤m∧y.id=v:=by
 unfold besideN
 rw [List.mem_map]
 constructor
 ·rintro ⟨⟨y,j⟩,h1,rfl⟩
  obtain ⟨h2,h3⟩:=List.mem_filter.1 h1
  have h4:=List.mem_zipIdx_iff_getElem?.1 h2
  simp only [Bool.and_eq_true,decide_eq_true_eq] at h3
  exact ⟨j,y,h4,h3.1.1,h3.1.2,h3.2,rfl⟩
 ·rintro ⟨j,y,h1,h2,h3,h4,rfl⟩
  refine ⟨(y,j),List.mem_filter.2 ⟨List.mem_zipIdx_iff_getElem?.2 h1,?_⟩,rfl⟩
  simp only [Bool.and_eq_true,decide_eq_true_eq]
  exact ⟨⟨h2,h3⟩,h4⟩
section
variable {N:List Nd}
theorem thr_at (h0:checkN N=0) {x:Nd} (hx:x∈N) {h:Nat} (hh:h≤16):throughN N x.id h=(grpS N h x.word,idxI (grpS N h x.word) x.id,true)∧(grpS N h x.word)[idxI (grpS N h x.word) x.id]?=some x:=by
 have hf:=find_in h0 hx
 have hG:thrG N x.id h=grpS N h x.word:=by unfold thrG;rw [hf];rfl
 obtain ⟨A,B,e⟩:=grp_at hx (h:=(h:Int)) (by unfold lvlN;simp;omega)
 have hi:idxI (grpS N h x.word) x.id=A.length:=by
  have ha:=grp_asc h0 (h:Int) x.word
  rw [e] at ha ⊢
  exact idxI_at ha (i:=A.length) (x:=x) (by simp)
 have hat:(grpS N h x.word)[idxI (grpS N h x.word) x.id]?=some x:=by rw [hi,e];simp
 refine ⟨?_,hat⟩
 unfold throughN
 rw [hG,if_pos ⟨by rw [hf],by rw [h0];rfl,by unfold lvlN;simp;omega,(List.getElem?_eq_some_iff.1 hat).1⟩]
theorem thr_no {id:Int} (h:∀ x∈N,x.id≠id) (l:Int):throughN N id l=([],0,false):=by
 unfold throughN
 rw [if_neg]
 rintro ⟨h1,_⟩
 rw [findN_none fun j z _ hz=>h z (List.mem_of_getElem? hz)] at h1
 cases h1
def Near (N:List Nd) (x y:Nd) (w:Int) (h:Nat):Prop:=∃ i k j:Nat,i≤h∧(grpS N (i:Int) x.word)[k]?=some x∧(grpS N (i:Int) x.word)[j]?=some y∧j≠k∧(j:Int)-k≤w∧(k:Int)-j≤w
theorem grp_uniq (h0:checkN N=0) {i:Int} {v k j:Nat} {x y:Nd} (hk:(grpS N i v)[k]?=some x) (hj:(grpS N i v)[j]?=some y) (he:x.id=y.id):k=j:=by
 have:=idxI_at (grp_asc h0 i v) hk
 have:=idxI_at (grp_asc h0 i v) hj
 rw [he] at *
 omega
theorem mem_contacts (h0:checkN N=0) {x:Nd} (hx:x∈N) {w:Int} (hw1:1≤w) {h:Nat} (hh:h≤16) {v:Int}:v∈contactsN N x.id w h↔∃ y∈N,y.id=v∧Near N x y w h:=by
 unfold contactsN
 rw [if_neg (by
  rintro (h | h | h)
  ·omega
  ·unfold lvlN at h;simp at h;omega
  ·exact h h0),mem_ord]
 simp only [Int.toNat_natCast,List.mem_flatMap,List.mem_range]
 constructor
 ·rintro ⟨⟨y,hy,rfl⟩,hne,i,hi,hb⟩
  obtain ⟨e1,e2⟩:=thr_at h0 hx (h:=i) (by omega)
  rw [e1] at hb
  obtain ⟨j,z,hz,h1,h2,h3,h4⟩:=mem_beside.1 hb
  have:z=y:=by
   have:=ids_eq (check_keys h0) (grp_mem.1 (List.mem_of_getElem? hz)).1 hy h4
   exact this
  subst this
  exact ⟨z,hy,rfl,i,_,j,by omega,e2,hz,h1,h2,h3⟩
 ·rintro ⟨y,hy,rfl,i,k,j,hi,hk,hj,h1,h2,h3⟩
  obtain ⟨e1,e2⟩:=thr_at h0 hx (h:=i) (by omega)
  have hkk:=grp_uniq h0 hk e2 rfl
  subst hkk
  refine ⟨⟨y,hy,rfl⟩,fun he=>h1 (grp_uniq h0 hj e2 he),i,by omega,?_⟩
  rw [e1]
  exact mem_beside.2 ⟨j,y,hj,h1,h2,h3,rfl⟩
theorem chain_cl {R:Int→Int→Prop}:∀ (S:List Nd),(∀ A a b B,S=A++a::b::B→R a.id b.id)→∀ x∈S,∀ y∈S,Cl R x.id y.id
 | [],_,x,hx,_,_=>by cases hx
 | [a],_,x,hx,y,hy=>by
  simp only [List.mem_singleton] at hx hy
  subst hx hy
  exact .refl _
 | a::b::S,h,x,hx,y,hy=>by
  have ih:=chain_cl (b::S) (fun A u v B e=>h (a::A) u v B (by rw [e];rfl))
  have hab:Cl R a.id b.id:=Cl.one (.inl (h [] a b S rfl))
  have hb:∀ z∈a::b::S,Cl R b.id z.id:=by
   intro z hz
   rcases List.mem_cons.1 hz with rfl | hz
   ·exact hab.symm
   ·exact ih b (by simp) z hz
  exact (hb x hx).symm.trans (hb y hy)
theorem filter_two {α:Type} {p:α→Bool} {S A' B':List α} {a b:α} (h:S.filter p=A'++a::b::B'):∃ A D B,S=A++a::(D++b::B)∧∀ d∈D,p d=false:=by
 obtain ⟨l1,l2,rfl,_,h2⟩:=List.filter_eq_append_iff.1 h
 obtain ⟨m1,m2,rfl,_,_,h3⟩:=List.filter_eq_cons_iff.1 h2
 obtain ⟨k1,k2,rfl,h4,_,_⟩:=List.filter_eq_cons_iff.1 h3
 exact ⟨l1++m1,k1,k2,by simp,fun d hd=>by simpa using h4 d hd⟩
theorem sub_check {l:List Nd} (h0:checkN l=0) (p:Nd→Bool):checkN (l.filter p)=0:=by
 have hk:=check_keys h0
 unfold checkN at h0 ⊢
 split at h0
 ·omega
 rename_i hlen
 split at h0
 ·omega
 rename_i hbad
 have hle:=List.length_filter_le p l
 rw [if_neg (by omega),if_neg (by
  intro hb
  obtain ⟨x,hx,hxb⟩:=List.any_eq_true.1 hb
  exact hbad (List.any_eq_true.2 ⟨x,(List.mem_filter.1 hx).1,hxb⟩)),if_neg]
 intro hd
 obtain ⟨i,k,x,y,hki,hx,hy,he⟩:=(dupN_iff _).1 hd
 have h2:(l.filter p).Pairwise fun x y=>x.key.toList≠y.key.toList∧x.id≠y.id:=List.Pairwise.filter p (keys_pw hk)
 obtain ⟨hi,e1⟩:=List.getElem?_eq_some_iff.1 hx
 obtain ⟨hk,e2⟩:=List.getElem?_eq_some_iff.1 hy
 have:=List.pairwise_iff_getElem.1 h2 k i hk hi hki
 rw [e1,e2] at this
 unfold eqN at he
 rcases Bool.or_eq_true_iff.1 he with h1 | h1
 ·exact this.2 (by simpa using (beq_iff_eq.1 h1).symm)
 ·exact this.1 (beq_iff_eq.1 h1).symm
theorem sort_filter {l:List Nd} (h0:checkN l=0) (p:Nd→Bool):sortN (l.filter p)=(sortN l).filter p :=
 (sortN_unique (check_keys (sub_check h0 p)) ((sortN_perm l).filter p) (List.Pairwise.filter p (sortN_asc l))).symm
theorem contacts_sort (h0:checkN N=0) (id w h:Int):contactsN (sortN N) id w h=contactsN N id w h:=by
 have hs:sortN (sortN N)=sortN N:=sort_perm (sortN_perm N) h0
 have hc:checkN (sortN N)=checkN N:=by rw [check_perm (sortN_perm N) h0,h0]
 have ht:∀ (i:Nat),throughN (sortN N) id i=throughN N id i:=by
  intro i
  by_cases hx:∃ x∈N,x.id=id
  ·obtain ⟨x,hx,rfl⟩:=hx
   unfold throughN thrG
   rw [find_in h0 hx,find_in (hc.trans h0) ((sortN_mem N x).2 hx),hs,hc]
  ·rw [thr_no (fun x hx' he=>hx ⟨x,hx',he⟩),thr_no (fun x hx' he=>hx ⟨x,(sortN_mem N x).1 hx',he⟩)]
 unfold contactsN ordN
 simp only [ht,hs,hc]
theorem survive_law (h0:checkN N=0) {h:Nat} (hh:h≤16) {wd:Int} {down:List Int} (hg:(gapN N down:Int)<wd) :
  ConnN (withoutN N down) (crashN (peersN N wd h) down)∧(crashN (peersN N wd h) down).length=(withoutN N down).length:=by
 have hp:peersN N wd h=(sortN N).map (peerC N wd h):=by unfold peersN;rw [if_pos ⟨h0,by unfold lvlN;simp;omega⟩]
 have hcr:crashN (peersN N wd h) down=((sortN N).filter fun x=>!(down.contains x.id)).map (peerC N wd h):=by
  unfold crashN
  rw [hp,List.filter_map]
  rfl
 have h1:checkN (withoutN N down)=0:=sub_check h0 _
 have hsw:sortN (withoutN N down)=(sortN N).filter fun x=>!(down.contains x.id):=sort_filter h0 _
 refine ⟨⟨h1,fun x hx y hy=>?_⟩,?_⟩
 ·refine chain_cl (sortN (withoutN N down)) ?_ x ((sortN_mem _ x).2 hx) y ((sortN_mem _ y).2 hy)
  intro A' a b B' e
  have ha:=(sortN_mem _ a).1 (show a∈sortN (withoutN N down) by rw [e];simp)
  have hb:=(sortN_mem _ b).1 (show b∈sortN (withoutN N down) by rw [e];simp)
  have haN:a∈N:=(List.mem_filter.1 ha).1
  have hbN:b∈N:=(List.mem_filter.1 hb).1
  rw [hsw] at e
  obtain ⟨A,D,B,eS,hD⟩:=filter_two e
  have hgap:D.length≤gapN N down:=by
   unfold gapN
   rw [if_pos h0,eS]
   have:=gap_inner (A:=(A++[a]).map fun x=>down.contains x.id) (D:=D.map fun x=>down.contains x.id) (B:=(b::B).map fun x=>down.contains x.id) (s:=(0,0)) (by
    intro z hz
    obtain ⟨d,hd,rfl⟩:=List.mem_map.1 hz
    simpa using hD d hd)
   rw [List.length_map] at this
   simpa using this
  refine ⟨⟨a,ha,rfl⟩,?_⟩
  have hpa:peerN (crashN (peersN N wd h) down) a.id=peerC N wd h a:=by
   rw [hcr]
   refine peer_map (List.Pairwise.filter _ (sort_ids h0)) (fun _=>rfl) ?_
   rw [← hsw]
   exact (sortN_mem _ a).2 ha
  rw [mem_refs h1,hpa]
  have hids:=sort_ids h0
  refine ⟨⟨b,hb,rfl⟩,?_,?_⟩
  ·rw [eS] at hids
   have:=(List.pairwise_append.1 hids).2.1
   rw [List.pairwise_cons] at this
   exact fun he=>this.1 b (by simp) he.symm
  ·show b.id∈contactsN (sortN N) a.id wd h++_++_
   rw [contacts_sort h0]
   refine List.mem_append_left _ (List.mem_append_left _ ?_)
   rw [mem_contacts h0 haN (by omega) hh]
   refine ⟨b,hbN,rfl,0,A.length,A.length+D.length+1,by omega,?_,?_,by omega,by omega,by omega⟩
   ·rw [grp_zero,eS];simp
   ·rw [grp_zero,eS,List.getElem?_append_right (by omega),show A.length+D.length+1-A.length=D.length+1 by omega,List.getElem?_cons_succ,List.getElem?_append_right (by omega)];simp
 ·rw [hcr,List.length_map,← hsw,sortN_length]
end
def OiPost (l:List Int) (w:World) (e:Ending) (w':World):Prop:=∃ v,e=.returned v∧OwnL 1 encI 3 w.heap.size w' v l∧Ex w w'
def HasRel (l:List Int) (v:Int) (n:Nat) (w:World) (i:Value) (wr:World):Prop :=
 ∃ k:Nat,k≤n∧i=.int .i64 k∧Ex w wr∧∀ j z,j<k→l[j]?=some z→z≠v
set_option maxHeartbeats 1000000 in
theorem has_r (a:Option Addr) (n c:Nat) (l:List Int) (v:Int) (w:World) (h:Sl 1 encI w a n l) (hn:n≤4000000000000000000) :
  Calls Tryz.prog 39 #[.slice a n c,.int .i64 v] w fun e w'=>e=.returned (.bool (l.contains v))∧Ex w w':=by
 have HL:=lH h.len
 have hs:=lH h
 clear h
 go_enter Tryz.func39,Tryz.ntmps39
 go_wp2_with fail
 go_loopw [5] (fun i wr=>HasRel l v n w i wr) (fun i _=>n-(intOf i).toNat)
 case atStart=>exact ⟨0,by omega,rfl,Ex.refl _,by intro j z h;omega⟩
 case round =>
  obtain ⟨k,hk,rfl,kw,hno⟩:=hrel
  have HNO:=lH hno
  clear hno
  obtain ⟨wo,rfl⟩:∃ wo:World,wo=wr:=⟨_,rfl⟩
  by_cases hlt:k<n
  ·obtain ⟨x1,o1,y,rfl,hx1,hy,hc1⟩:=(hs.out.nx kw).at hlt
   have e0:wo.cell? ⟨x1,o1+k,none⟩=some (.int .i64 y):=by simpa using hc1 0 _ rfl
   have HY:=lH hy
   have KW:=lH kw
   clear hc1 hy kw
   by_cases hv:y=v
   ·have HC:Hid (l.contains v=true):=lH (by rw [List.contains_iff_mem,← hv];exact List.mem_of_getElem? HY.out)
    have hb:(y==v)=true:=by rw [hv];simp
    clear hv
    go_wp2_with fail
    go_ret
    exact ⟨by rw [HC.out];rfl,KW.out⟩
   ·have HV:=lH hv
    have hb:(y==v)=false:=by rw [beq_eq_false_iff_ne];exact hv
    clear hv
    go_wp2_with fail
    refine ⟨⟨k+1,by omega,by go_num,KW.out,fun j z hj hz=>?_⟩,by simp [intOf];omega⟩
    rcases Nat.lt_or_ge j k with h | h
    ·exact HNO.out j z h hz
    ·obtain rfl:j=k:=by omega
     rw [Option.some.inj (hz.symm.trans HY.out)]
     exact HV.out
  ·obtain rfl:k=n:=by omega
   have HC:Hid (l.contains v=false):=lH (by
    cases hc:l.contains v with
    | false=>rfl
    | true =>
     rw [List.contains_iff_mem] at hc
     obtain ⟨j,hj⟩:=List.mem_iff_getElem?.1 hc
     exact absurd rfl (HNO.out j v (by have:=(List.getElem?_eq_some_iff.1 hj).1;rw [← HL.out];exact this) hj))
   have KW:=lH kw
   clear hk hlt kw
   go_wp2_with fail
   go_ret
   exact ⟨by rw [HC.out];rfl,KW.out⟩
def ordP (l:List Int) (but:Int) (y:Nd):Bool:=!(y.id==but)&&l.contains y.id
def OrdRel (S:List Nd) (l:List Int) (but:Int) (w:World) (o i:Value) (wr:World):Prop :=
 ∃ j:Nat,j≤S.length∧i=.int .i64 j∧OwnL 1 encI 3 w.heap.size wr o (((S.take j).filter (ordP l but)).map Nd.id)∧Ex w wr
theorem ord_snoc {S:List Nd} {l:List Int} {but:Int} {j:Nat} {y:Nd} (hy:S[j]?=some y) :
  ((S.take (j+1)).filter (ordP l but)).map Nd.id=((S.take j).filter (ordP l but)).map Nd.id++(if ordP l but y=true then [y.id] else []):=by
 rw [List.take_add_one,hy,List.filter_append,List.map_append]
 congr 1
 by_cases hp:ordP l but y=true
 ·rw [if_pos hp];simp [hp]
 ·rw [if_neg hp];simp [hp]
def GapRel (S:List Nd) (down:List Int) (w:World) (b r i:Value) (wr:World):Prop :=
 ∃ j:Nat,j≤S.length∧i=.int .i64 j∧b=.int .i64 (gapF ((S.take j).map fun x=>down.contains x.id) (0,0)).1∧r=.int .i64 (gapF ((S.take j).map fun x=>down.contains x.id) (0,0)).2∧Ex w wr
theorem gap_snoc {S:List Nd} {down:List Int} {j:Nat} {y:Nd} (hy:S[j]?=some y) (s:Nat×Nat) :
  gapF ((S.take (j+1)).map fun x=>down.contains x.id) s=gapStep (gapF ((S.take j).map fun x=>down.contains x.id) s) (down.contains y.id):=by
 rw [List.take_add_one,hy,List.map_append,gap_app]
 rfl
theorem gap_two:∀ (bs:List Bool) (s:Nat×Nat),(gapF bs s).2≤s.2+bs.length
 | [],s=>Nat.le_refl _
 | b::bs,s=>by
  have:=gap_two bs (gapStep s b)
  unfold gapF at this ⊢
  rw [List.foldl_cons]
  unfold gapStep at this ⊢
  cases b<;>simp at this ⊢<;>omega
end Go.Proofs.YthcholmhmcpooaaGreatDoor
namespace Go.Proofs.YthcholmhmcpooaaGreatDoor
open Go.RowKit Go.Maps
theorem sorted_own {l:List Nd} {base:Nat} {w:World} {v:Value} (h0:checkN l=0) (own:OwnL 3 encN 36 base w v (sortN l)) :
  ∃ a c,v=.slice a l.length c∧Sl 3 encN w a l.length (sortN l)∧l.length≤c∧c≤maxLen:=by
 obtain ⟨a,c,e,r,h1,h2,_⟩:=own.rd (fun _=>rfl)
 rw [sortN_length] at e r h1
 exact ⟨a,c,e,r.mono (fun _ hk=>hk.2),h1,h2⟩
set_option maxRecDepth 100000 in
set_option maxHeartbeats 2000000 in
theorem gap_p (a:Option Addr) (n c:Nat) (N:List Nd) (a2:Option Addr) (n2 c2:Nat) (down:List Int) (w:World) (h:Sl 3 encN w a n N) (hn:n≤1000) (hc:n≤c) (hm:c≤maxLen) (h2:Sl 1 encI w a2 n2 down) (hn2:n2≤4000000000000000000) :
  Calls Tryz.prog 34 #[.slice a n c,.slice a2 n2 c2] w fun e w'=>e=.returned (.int .i64 (gapN N down))∧Ex w w':=by
 have HL:=lH h.len
 go_enter Tryz.func34,Tryz.ntmps34
 go_wp2_with fail
 (with_reducible refine (check_p _ _ _ _ _ h (by omega) hc hm).mono ?_)
 rintro e w0 ⟨rfl,kk⟩
 replace h:=h.nx kk
 replace h2:=h2.nx kk
 have K0:=lH kk
 clear kk
 by_cases hck:checkN N=0
 case neg =>
  have d1:(checkN N != 0)=true:=by simpa using hck
  have E0:Hid (gapN N down=0):=lH (by unfold gapN;rw [if_neg hck])
  clear h h2 hck
  go_wp2_with fail
  go_ret
  exact ⟨by rw [E0.out];rfl,K0.out⟩
 have d1:(checkN N != 0)=false:=by simpa using hck
 have EG:Hid (gapN N down=(gapF ((sortN N).map fun x=>down.contains x.id) (0,0)).1):=lH (by unfold gapN;rw [if_pos hck])
 have HC:=lH hck
 clear hck
 go_wp2_with fail
 (with_reducible refine (sort_p _ _ _ _ _ h hn).mono ?_)
 rintro e w1 ⟨v,S,rfl,OS,⟨hp,hsrt⟩,kk⟩
 replace h2:=h2.nx kk
 have hSe:S=sortN N:=sortN_unique (check_keys HC.out) hp hsrt
 subst hSe
 obtain ⟨a1,c1,rfl,S1,_,_⟩:=sorted_own HC.out OS
 rw [HL.out] at S1 ⊢
 have hSl:(sortN N).length≤n:=by rw [S1.len];omega
 generalize sortN N=S at S1 hSl EG ⊢
 have HSL:=lH S1.len
 have S1:=lH S1
 have H2:=lH h2
 have K1:=lH (K0.out.nx kk)
 clear h OS h2 kk hp hsrt
 go_wp2_with fail
 go_loopw [5,6,15] (fun b r i wr=>GapRel S down w1 b r i wr) (fun _ _ i _=>n-(intOf i).toNat)
 case atStart=>exact ⟨0,by omega,rfl,rfl,rfl,Ex.refl _⟩
 case round =>
  obtain ⟨j,hj,rfl,rfl,rfl,ki⟩:=hrel
  obtain ⟨wi,rfl⟩:∃ wi:World,wi=wr:=⟨_,rfl⟩
  by_cases hjm:j<n
  ·obtain ⟨x3,o3,y,rfl,hx3,hy,hc3⟩:=(S1.out.nx ki).at hjm
   have e0:wi.cell? ⟨x3,o3+j*3,none⟩=some (.int .i64 y.id):=hc3 0 _ rfl
   have e1:wi.cell? ⟨x3,o3+j*3+1,none⟩=some (.string y.key):=hc3 1 _ rfl
   have e2:wi.cell? ⟨x3,o3+j*3+1+1,none⟩=some (.int .u32 y.word):=by simpa [Nat.add_assoc] using hc3 2 _ rfl
   have SN:=lH (gap_snoc (down:=down) hy (0,0))
   have b1:=gap_le_s ((S.take j).map fun x=>down.contains x.id) (0,0)
   have b2:=gap_two ((S.take j).map fun x=>down.contains x.id) (0,0)
   rw [List.length_map,List.length_take] at b1 b2
   obtain ⟨⟨p,q⟩,hpq⟩:∃ s,s=gapF ((S.take j).map fun x=>down.contains x.id) (0,0):=⟨_,rfl⟩
   rw [← hpq] at SN b1 b2 ⊢
   simp only at b1 b2 ⊢
   have hp:p≤1000:=by simp at b1;omega
   have hq:q≤1000:=by simp at b2;omega
   have KI:=lH ki
   clear hy hc3 ki hpq b1 b2
   have B7:=Blk.new wi [.int .i64 y.id,.string y.key,.int .u32 y.word] 36
   have kk:=Ex.new wi (.cells #[.int .i64 y.id,.string y.key,.int .u32 y.word] 36)
   obtain ⟨w7,hw7⟩:∃ w7,w7=wi.alloc (.cells #[.int .i64 y.id,.string y.key,.int .u32 y.word] 36):=⟨_,rfl⟩
   obtain ⟨g7,hg7⟩:∃ g7,g7=wi.heap.size:=⟨_,rfl⟩
   replace B7:Blk w7 g7 [.int .i64 y.id,.string y.key,.int .u32 y.word] 36:=by rw [hw7,hg7];exact B7
   rw [← hw7] at kk
   have Hw7:=lH hw7
   have Hg7:=lH hg7
   have K7:=lH (KI.out.nx kk)
   clear kk hw7 hg7
   go_upto_region 7 with fail
   rw [← Hg7.out,← Hw7.out]
   clear Hg7 Hw7
   have q0:=B7.cell 0 _ rfl
   clear B7 e0 e1 e2
   go_wp2_with fail
   (with_reducible refine (contains_i _ _ _ _ y.id _ (H2.out.nx K7.out) hn2).mono ?_)
   rintro e w5 ⟨rfl,kk⟩
   have k5:=lH (K7.out.nx kk)
   clear kk q0
   generalize down.contains y.id=inl at SN ⊢
   cases inl with
   | false =>
    have hm:max (p:Int) 0=(p:Int):=by omega
    go_wp2_with fail
    refine ⟨⟨j+1,by rw [HSL.out];omega,by go_num,?_,?_,k5.out⟩,by simp [intOf];omega⟩
    ·rw [SN.out];unfold gapStep;simp
    ·rw [SN.out];unfold gapStep;simp
   | true =>
    go_wp2_with fail
    refine ⟨⟨j+1,by rw [HSL.out];omega,by go_num,?_,?_,k5.out⟩,by simp [intOf];omega⟩
    ·rw [SN.out];unfold gapStep;simp;omega
    ·rw [SN.out];unfold gapStep;simp
  ·obtain rfl:j=n:=by have:=HSL.out;omega
   rw [List.take_of_length_le (by rw [HSL.out];exact Nat.le_refl _)]
   have EE:Hid (gapN N down=(gapF (S.map fun x=>down.contains x.id) (0,0)).1):=EG
   have KE:=lH (K1.out.nx ki)
   clear hj hjm ki
   go_wp2_with fail
   go_ret
   exact ⟨by rw [EE.out];rfl,KE.out⟩
def ascN (S:List Nd) (M:List Int):List Int:=(S.filter fun x=>M.contains x.id).map Nd.id
def AscRel (S:List Nd) (M:List Int) (w:World) (o i:Value) (wr:World):Prop :=
 ∃ j:Nat,j≤S.length∧i=.int .i64 j∧OwnL 1 encI 3 w.heap.size wr o (ascN (S.take j) M)∧Ex w wr
theorem asc_snoc {S:List Nd} {M:List Int} {j:Nat} {y:Nd} (hy:S[j]?=some y):ascN (S.take (j+1)) M=ascN (S.take j) M++(if M.contains y.id=true then [y.id] else []):=by
 unfold ascN
 rw [List.take_add_one,hy,List.filter_append,List.map_append]
 congr 1
 by_cases hp:M.contains y.id=true
 ·rw [if_pos hp];simp only [Option.toList_some,List.filter_cons,hp,if_true,List.filter_nil,List.map_cons,List.map_nil]
 ·rw [if_neg hp];simp only [Option.toList_some,List.filter_cons,hp,List.filter_nil,List.map_nil];rfl
theorem Tryz.zeroB (w:World):(zeroValue 4).run Tryz.prog w=.ok (.bool false) w:=by kernel_rfl
set_option maxRecDepth 100000 in
set_option maxHeartbeats 2000000 in
theorem ascending_p (a:Option Addr) (n c:Nat) (N:List Nd) (bm:Nat) (M:List Int) (w:World) (h:Sl 3 encN w a n N) (hn:n≤1000) (h0:checkN N=0) (hM:SetM Tryz.prog 3 4 w bm M) :
  Calls Tryz.prog 174 #[.slice a n c,.map (some bm)] w (OiPost (ascN (sortN N) M) w):=by
 have HL:=lH h.len
 have HC:=lH h0
 have HR:=lH (fun x (hx:x∈N)=>(roster_ok h0 x hx).1.1)
 clear h0
 go_enter Tryz.func174,Tryz.ntmps174
 go_wp2_with fail
 (with_reducible refine (sort_p _ _ _ _ _ h hn).mono ?_)
 rintro e w1 ⟨v,S,rfl,OS,⟨hp,hsrt⟩,kk⟩
 replace hM:=hM.nx kk
 have hSe:S=sortN N:=sortN_unique (check_keys HC.out) hp hsrt
 subst hSe
 obtain ⟨a1,c1,rfl,S1,_,_⟩:=sorted_own HC.out OS
 rw [HL.out] at S1 ⊢
 have HI:Hid (∀ x∈sortN N,I64 x.id):=lH (fun x hx=>HR.out x ((sortN_mem N x).1 hx))
 have hSl:(sortN N).length≤n:=by rw [S1.len];omega
 obtain ⟨S,hS⟩:∃ S,S=sortN N:=⟨_,rfl⟩
 rw [← hS] at S1 hSl HI ⊢
 have ES:Hid (ascN (sortN N) M=ascN S M):=lH (by rw [hS])
 clear hS
 have HSL:=lH S1.len
 have S1:=lH S1
 have HM:=lH hM
 have K1:=lH kk
 have hz1:=kk.size
 clear h OS hM kk hp hsrt HR
 go_wp2_with fail
 go_loopw [5,11] (fun o i wr=>AscRel S M w1 o i wr) (fun _ i _=>n-(intOf i).toNat)
 case atStart=>exact ⟨0,by omega,rfl,OwnL.nil _ _ _ _ _,Ex.refl _⟩
 case round =>
  obtain ⟨j,hj,rfl,own,ki⟩:=hrel
  obtain ⟨wi,rfl⟩:∃ wi:World,wi=wr:=⟨_,rfl⟩
  by_cases hjm:j<n
  ·obtain ⟨x3,o3,y,rfl,hx3,hy,hc3⟩:=(S1.out.nx ki).at hjm
   have e0:wi.cell? ⟨x3,o3+j*3,none⟩=some (.int .i64 y.id):=hc3 0 _ rfl
   have e1:wi.cell? ⟨x3,o3+j*3+1,none⟩=some (.string y.key):=hc3 1 _ rfl
   have e2:wi.cell? ⟨x3,o3+j*3+1+1,none⟩=some (.int .u32 y.word):=by simpa [Nat.add_assoc] using hc3 2 _ rfl
   have SN:=lH (asc_snoc (M:=M) hy)
   have hrl:(ascN (S.take j) M).length≤1000:=by
    unfold ascN
    rw [List.length_map]
    have:=List.length_filter_le (fun x=>M.contains x.id) (S.take j)
    rw [List.length_take] at this
    omega
   have hyi:=HI.out y (List.mem_of_getElem? hy)
   generalize ascN (S.take j) M=row at own SN hrl
   have KI:=lH ki
   clear hy hc3 ki
   have B7:=Blk.new wi [.int .i64 y.id,.string y.key,.int .u32 y.word] 36
   have kk:=Ex.new wi (.cells #[.int .i64 y.id,.string y.key,.int .u32 y.word] 36)
   obtain ⟨w7,hw7⟩:∃ w7,w7=wi.alloc (.cells #[.int .i64 y.id,.string y.key,.int .u32 y.word] 36):=⟨_,rfl⟩
   obtain ⟨g7,hg7⟩:∃ g7,g7=wi.heap.size:=⟨_,rfl⟩
   replace B7:Blk w7 g7 [.int .i64 y.id,.string y.key,.int .u32 y.word] 36:=by rw [hw7,hg7];exact B7
   rw [← hw7] at kk
   have Hw7:=lH hw7
   have Hg7:=lH hg7
   replace own:=own.nx kk
   have k7:=KI.out.nx kk
   have hz7:=k7.size
   have K7:=lH k7
   clear kk hw7 hg7 k7
   go_upto_region 5 with fail
   rw [← Hg7.out,← Hw7.out]
   clear Hg7 Hw7
   have q0:=B7.cell 0 _ rfl
   have hv:(Lit.int .i64 y.id).wf=true:=wf_of hyi
   have lk:=SetM.get (t:=262) (HM.out.nx K7.out) Tryz.underlying3 Tryz.underlying4 Tryz.underlying262 (Tryz.zeroB _) hv
   have OWN:=lH own
   generalize y.id=yi at SN q0 lk B7
   clear e0 e1 e2 own hyi hv
   generalize M.contains yi=inl at SN lk
   cases inl with
   | false =>
    clear B7
    go_wp2_with fail
    exact ⟨⟨j+1,by rw [HSL.out];omega,by go_num,by rw [SN.out];simpa using OWN.out,K7.out⟩,by simp [intOf];omega⟩
   | true =>
    have own7:=OWN.out
    have hl7:row.length≤1000000:=by omega
    clear B7
    go_wp2_with (at_builtin;(refine wpList_append_lit (enc:=encI) w7 rfl _ _ 22 rfl w1.heap.size 3 (.int .i64 0) 1 8 Tryz.underlying22 Tryz.infoI6 rfl (by omega) (by omega) _ _ own7 rfl (yi:Int) _ rfl rfl (by simp [encI,Value.oneCell']) _ (by simp) rfl hl7 hz7 _ ?_);intro v6 w6 own6 _ ch1 _)
    refine ⟨⟨j+1,by rw [HSL.out];omega,by go_num,by rw [SN.out];exact own6,Chg.trans K7.out ch1⟩,by simp [intOf];omega⟩
  ·obtain rfl:j=n:=by have:=HSL.out;omega
   rw [List.take_of_length_le (by rw [HSL.out];exact Nat.le_refl _)] at own
   have own:=lH (own.base hz1)
   have KE:=lH (K1.out.nx ki)
   clear hj hjm ki
   go_wp2_with fail
   go_ret
   exact ⟨_,rfl,by rw [ES.out];exact own.out,KE.out⟩
end Go.Proofs.YthcholmhmcpooaaGreatDoor
namespace Go.Proofs.YthcholmhmcpooaaGreatDoor
open Go.RowKit Go.Maps
set_option maxRecDepth 100000 in
set_option maxHeartbeats 2000000 in
theorem index_n (a:Option Addr) (n c:Nat) (l:List Nd) (x:Nd) (k0:Nat) (w:World) (h:Sl 3 encN w a n l) (hn:n≤1000) (hk0:l[k0]?=some x) (hno:∀ j z,j<k0→l[j]?=some z→z.id≠x.id) :
  Calls Tryz.prog 127 #[.slice a n c,.agg #[.int .i64 x.id,.string x.key,.int .u32 x.word]] w fun e w'=>e=.returned (.int .i64 k0)∧Ex w w':=by
 have HNO:=lH hno
 have HK0:=lH hk0
 have hk0n:k0<n:=by have:=(List.getElem?_eq_some_iff.1 hk0).1;have:=h.len;omega
 have EX:=Ex.refl w
 have B3:=Blk.new w [.int .i64 x.id,.string x.key,.int .u32 x.word] 36
 have kk:=Ex.new w (.cells #[.int .i64 x.id,.string x.key,.int .u32 x.word] 36)
 obtain ⟨w1,hw1⟩:∃ w1,w1=w.alloc (.cells #[.int .i64 x.id,.string x.key,.int .u32 x.word] 36):=⟨_,rfl⟩
 obtain ⟨g3,hg3⟩:∃ g3,g3=w.heap.size:=⟨_,rfl⟩
 replace B3:Blk w1 g3 [.int .i64 x.id,.string x.key,.int .u32 x.word] 36:=by rw [hw1,hg3];exact B3
 rw [← hw1] at kk
 have Hw1:=lH hw1
 have Hg3:=lH hg3
 replace h:=h.nx kk
 replace EX:=EX.nx kk
 clear kk hw1 hg3
 have HS:=lH h
 have EX:=lH EX
 clear hno hk0 h
 go_enter Tryz.func127,Tryz.ntmps127
 go_upto_region 1 with fail
 rw [← Hg3.out,← Hw1.out]
 clear Hg3 Hw1
 have HB:=lH B3
 clear B3
 go_wp2_with fail
 go_loopw [8] (fun i wr=>∃ j:Nat,j≤k0∧i=.int .i64 j∧Ex w1 wr) (fun i _=>n-(intOf i).toNat)
 case atStart=>exact ⟨0,by omega,rfl,Ex.refl _⟩
 case round =>
  obtain ⟨j,hj,rfl,kw⟩:=hrel
  obtain ⟨wo,rfl⟩:∃ wo:World,wo=wr:=⟨_,rfl⟩
  obtain ⟨x1,o1,y,rfl,hx1,hy,hc1⟩:=(HS.out.nx kw).at (j:=j) (by omega)
  have e0:wo.cell? ⟨x1,o1+j*3,none⟩=some (.int .i64 y.id):=hc1 0 _ rfl
  have e1:wo.cell? ⟨x1,o1+j*3+1,none⟩=some (.string y.key):=hc1 1 _ rfl
  have e2:wo.cell? ⟨x1,o1+j*3+1+1,none⟩=some (.int .u32 y.word):=by simpa [Nat.add_assoc] using hc1 2 _ rfl
  have B:=HB.out.nx kw
  have q0:=B.cell 0 _ rfl
  have q1:=B.cell 1 _ rfl
  have q2:=B.cell 2 _ rfl
  have KW:=lH (EX.out.nx kw)
  have KV:=lH kw
  by_cases hlt:j=k0
  ·subst hlt
   obtain rfl:y=x:=Option.some.inj (hy.symm.trans HK0.out)
   clear hc1 hy kw B
   go_wp2_with fail
   go_quiet (fail)
   go_wp2_with fail
   go_ret
   exact ⟨rfl,KW.out.drewN _⟩
  ·have hb:(x.id==y.id)=false:=by
    have:=HNO.out j y (by omega) hy
    rw [beq_eq_false_iff_ne]
    exact fun h=>this h.symm
   clear hc1 hy kw B
   go_wp2_with fail
   go_quiet (fail)
   go_wp2_with fail
   exact ⟨⟨j+1,by omega,by go_num,KV.out.drewN _⟩,by simp [intOf];omega⟩
theorem group_q (a:Option Addr) (n cap:Nat) (l:List Nd) (h:Int) (v:Nat) (w:World) (hs:Sl 3 encN w a n l) (hn:n≤1000) (hw:∀ x∈l,x.word<4294967296) (hv:v<4294967296) (hT:TabG w) :
  Calls Tryz.prog 126 #[.slice a n cap,.int .i64 h,.int .u32 v] w fun e w'=>∃ a' c',e=.returned (.slice a' (groupN l h v).length c')∧Slf 3 encN w w' a' (groupN l h v).length (groupN l h v)∧Ex w w':=by
 refine (group_p (S:=(· < w.heap.size)) a n cap l h v w hs (fun _ hk=>hk) hn hw hv hT).mono ?_
 rintro e w' ⟨a',n',c',rfl,r,k⟩
 obtain rfl:(groupN l h v).length=n':=r.1
 exact ⟨a',c',rfl,r,k⟩
def besP (g:List Nd) (k:Nat) (m:Int) (j:Nat):List Int:=((g.zipIdx.take j).filter fun q=>decide (q.2≠k)&&decide ((q.2:Int)-k≤m)&&decide ((k:Int)-q.2≤m)).map fun q=>q.1.id
theorem besP_snoc {g:List Nd} {k j:Nat} {m:Int} {y:Nd} (hy:g[j]?=some y):besP g k m (j+1)=besP g k m j++(if j≠k∧(j:Int) ≥ k-m∧(j:Int)≤k+m then [y.id] else []):=by
 unfold besP
 have hz:g.zipIdx[j]?=some (y,j):=by simp [List.getElem?_zipIdx,hy]
 rw [List.take_add_one,hz,List.filter_append,List.map_append]
 congr 1
 by_cases hp:j≠k∧(j:Int) ≥ k-m∧(j:Int)≤k+m
 ·rw [if_pos hp]
  have:(decide (j≠k)&&decide ((j:Int)-k≤m)&&decide ((k:Int)-j≤m))=true:=by simp;omega
  simp only [Option.toList_some,List.filter_cons,this,if_true,List.filter_nil,List.map_cons,List.map_nil]
 ·rw [if_neg hp]
  have:(decide (j≠k)&&decide ((j:Int)-k≤m)&&decide ((k:Int)-j≤m))=false:=by
   rw [Bool.eq_false_iff]
   intro h
   simp at h
   omega
  simp only [Option.toList_some,List.filter_cons,this,List.filter_nil,List.map_nil]
  rfl
theorem besP_all (g:List Nd) (k:Nat) (m:Int):besP g k m g.length=besideN g k m:=by
 unfold besP besideN
 rw [List.take_of_length_le (by simp)]
theorem besP_len (g:List Nd) (k:Nat) (m:Int) (j:Nat):(besP g k m j).length≤g.length:=by
 unfold besP
 rw [List.length_map]
 have:=List.length_filter_le (fun q:Nd×Nat=>decide (q.2≠k)&&decide ((q.2:Int)-k≤m)&&decide ((k:Int)-q.2≤m)) (g.zipIdx.take j)
 rw [List.length_take,List.length_zipIdx] at this
 omega
def conS (N:List Nd) (x:Nd) (m:Int) (i:Nat):List Int:=(List.range i).flatMap fun h:Nat=>besideN (grpS N h x.word) (idxI (grpS N h x.word) x.id) m
theorem conS_snoc (N:List Nd) (x:Nd) (m:Int) (i:Nat):conS N x m (i+1)=conS N x m i++besideN (grpS N i x.word) (idxI (grpS N i x.word) x.id) m:=by
 unfold conS
 rw [List.range_succ,List.flatMap_append]
 simp
theorem grpS_le (N:List Nd) (h:Int) (v:Nat):(grpS N h v).length≤N.length:=by
 unfold grpS
 have:=groupN_length (sortN N) h v
 rw [sortN_length] at this
 exact this
theorem beside_le (g:List Nd) (k:Nat) (m:Int):(besideN g k m).length≤g.length:=by
 rw [← besP_all];exact besP_len _ _ _ _
theorem conS_len (N:List Nd) (x:Nd) (m:Int) (i:Nat):(conS N x m i).length≤i*N.length:=by
 induction i with
 | zero=>simp [conS]
 | succ i ih =>
  rw [conS_snoc,List.length_append,Nat.succ_mul]
  have:=beside_le (grpS N i x.word) (idxI (grpS N i x.word) x.id) m
  have:=grpS_le N i x.word
  omega
theorem check_len {N:List Nd} (h0:checkN N=0):N.length≤64:=by
 unfold checkN at h0
 split at h0
 ·cases h0
 ·omega
theorem con_asc {N:List Nd} (h0:checkN N=0) {x:Nd} (hx:x∈N) {width height:Int} (hw:1≤width) (hh0:0≤height) (hh:height≤16):ascN (sortN N) (conS N x (min width 64) (height.toNat+1))=contactsN N x.id width height:=by
 have h64:=check_len h0
 unfold contactsN
 rw [if_neg (by
  rintro (h | h | h)
  ·omega
  ·unfold lvlN at h;simp at h;omega
  ·exact h h0)]
 unfold ascN ordN
 congr 1
 refine List.filter_congr fun y hy=>?_
 have hy:=(sortN_mem N y).1 hy
 rw [Bool.eq_iff_iff]
 simp only [Bool.and_eq_true,Bool.not_eq_true',beq_eq_false_iff_ne,List.contains_iff_mem,conS,List.mem_flatMap,List.mem_range]
 constructor
 ·rintro ⟨i,hi,hb⟩
  obtain ⟨e1,e2⟩:=thr_at h0 hx (h:=i) (by omega)
  obtain ⟨j,z,hz,h1,h2,h3,h4⟩:=mem_beside.1 hb
  have hzy:z=y:=ids_eq (check_keys h0) (grp_mem.1 (List.mem_of_getElem? hz)).1 hy h4
  subst hzy
  refine ⟨fun he=>h1 (grp_uniq h0 hz e2 he),i,hi,?_⟩
  rw [e1]
  simp only
  exact mem_beside.2 ⟨j,z,hz,h1,by omega,by omega,rfl⟩
 ·rintro ⟨hne,i,hi,hb⟩
  obtain ⟨e1,e2⟩:=thr_at h0 hx (h:=i) (by omega)
  rw [e1] at hb
  simp only at hb
  obtain ⟨j,z,hz,h1,h2,h3,h4⟩:=mem_beside.1 hb
  have hj:=(List.getElem?_eq_some_iff.1 hz).1
  have hk:=(List.getElem?_eq_some_iff.1 e2).1
  have:=grpS_le N i x.word
  exact ⟨i,hi,mem_beside.2 ⟨j,z,hz,h1,by omega,by omega,h4⟩⟩
theorem contacts_no {N:List Nd} {id width height:Int} (h:(findN N id).2=false∨checkN N≠0∨width<1∨height<0∨16<height):contactsN N id width height=[]:=by
 unfold contactsN
 by_cases h1:width<1∨lvlN height=false∨checkN N≠0
 ·rw [if_pos h1]
 ·rw [if_neg h1]
  have hf:(findN N id).2=false:=by
   rcases h with h | h | h | h | h
   ·exact h
   ·exact absurd (.inr (.inr h)) h1
   ·exact absurd (.inl h) h1
   ·exact absurd (.inr (.inl (by unfold lvlN;simp;omega))) h1
   ·exact absurd (.inr (.inl (by unfold lvlN;simp;omega))) h1
  have ht:∀ i:Int,throughN N id i=([],0,false):=fun i=>by
   unfold throughN
   rw [if_neg]
   rintro ⟨h1,_⟩
   rw [hf] at h1
   cases h1
  unfold ordN
  simp only [ht]
  have:(List.flatMap (fun h:Nat=>besideN [] 0 width) (List.range (height.toNat+1)))=[]:=by
   rw [List.flatMap_eq_nil_iff]
   intro i _
   rfl
  rw [this]
  simp
def CoRel (N:List Nd) (x:Nd) (m:Int) (bm:Nat) (hh:Nat) (w:World) (i:Value) (wr:World):Prop :=
 ∃ j:Nat,j≤hh∧i=.int .i64 j∧SetM Tryz.prog 3 4 wr bm (conS N x m j)∧Exb bm w wr
def CiRel (G:List Nd) (k:Nat) (m:Int) (C:List Int) (bm:Nat) (w:World) (i:Value) (wr:World):Prop :=
 ∃ j:Nat,j≤G.length∧i=.int .i64 j∧SetM Tryz.prog 3 4 wr bm (C++besP G k m j)∧Exb bm w wr
set_option maxRecDepth 100000 in
set_option maxHeartbeats 8000000 in
theorem contacts_p (a:Option Addr) (n c:Nat) (N:List Nd) (id width height:Int) (w:World) (h:Sl 3 encN w a n N) (hn:n≤1000) (hc:n≤c) (hm:c≤maxLen) (hw:∀ x∈N,x.word<4294967296) (hT:TabG w) :
  Calls Tryz.prog 104 #[.slice a n c,.int .i64 id,.int .i64 width,.int .i64 height] w (OiPost (contactsN N id width height) w):=by
 have HL:=lH h.len
 have HXW:=findN_word hw id
 have HW:=lH (sort_word hw)
 have EX:=Ex.refl w
 clear hw
 go_enter Tryz.func104,Tryz.ntmps104
 go_wp2_with fail
 (with_reducible refine (find_p _ _ _ _ id _ h (by omega)).mono ?_)
 rintro e w1 ⟨rfl,kk⟩
 replace h:=h.nx kk
 replace hT:=hT.nx kk
 replace EX:=EX.nx kk
 clear kk
 obtain ⟨F,hF⟩:∃ F,F=findN N id:=⟨_,rfl⟩
 have HF:=lH hF
 rw [← hF] at HXW ⊢
 clear hF
 obtain ⟨⟨xi,xk,xw⟩,ok⟩:=F
 simp only at HXW
 have B2:=Blk.new w1 [.int .i64 xi,.string xk,.int .u32 xw] 36
 have kk:=Ex.new w1 (.cells #[.int .i64 xi,.string xk,.int .u32 xw] 36)
 obtain ⟨w2,hw2⟩:∃ w2,w2=w1.alloc (.cells #[.int .i64 xi,.string xk,.int .u32 xw] 36):=⟨_,rfl⟩
 obtain ⟨g2,hg2⟩:∃ g2,g2=w1.heap.size:=⟨_,rfl⟩
 replace B2:Blk w2 g2 [.int .i64 xi,.string xk,.int .u32 xw] 36:=by rw [hw2,hg2];exact B2
 rw [← hw2] at kk
 have Hw2:=lH hw2
 have Hg2:=lH hg2
 replace h:=h.nx kk
 replace hT:=hT.nx kk
 replace EX:=EX.nx kk
 clear kk hw2 hg2
 simp only [Nd.val]
 go_upto_region 2 with fail
 rw [← Hg2.out,← Hw2.out]
 clear Hg2 Hw2
 have NO:Hid ((findN N id).2=false∨checkN N≠0∨width<1∨height<0∨16<height→∀ wx,Ex w wx→OiPost (contactsN N id width height) w (.returned (.slice none 0 0)) wx):=lH (fun hh wx kx=>by rw [contacts_no hh];exact ⟨_,rfl,OwnL.nil _ _ _ _ _,kx⟩)
 cases ok with
 | false =>
  have FI:=lH (NO.out (.inl (by rw [← HF.out])) _ EX)
  clear h hT B2 NO EX
  go_wp2_with fail
  go_ret
  exact FI.out
 | true =>
  go_wp2_with fail
  (with_reducible refine (check_p _ _ _ _ _ h (by omega) hc hm).mono ?_)
  rintro e w3 ⟨rfl,kk⟩
  replace h:=h.nx kk
  replace hT:=hT.nx kk
  replace EX:=EX.nx kk
  replace B2:=B2.nx kk
  clear kk
  by_cases hck:checkN N=0
  case neg =>
   have d1:(checkN N != 0)=true:=by simpa using hck
   have FI:=lH (NO.out (.inr (.inl hck)) _ EX)
   clear h hT B2 NO hck EX
   go_wp2_with fail
   go_ret
   exact FI.out
  have d1:(checkN N != 0)=false:=by simpa using hck
  have HC:=lH hck
  clear hck
  by_cases hw1:width<1
  ·have FI:=lH (NO.out (.inr (.inr (.inl hw1))) _ EX)
   clear h hT B2 NO EX
   go_wp2_with fail
   go_ret
   exact FI.out
  by_cases hh0:height<0
  ·have FI:=lH (NO.out (.inr (.inr (.inr (.inl hh0)))) _ EX)
   clear h hT B2 NO EX
   go_wp2_with fail
   go_ret
   exact FI.out
  by_cases hh1:16<height
  ·have FI:=lH (NO.out (.inr (.inr (.inr (.inr hh1)))) _ EX)
   clear h hT B2 NO EX
   go_wp2_with fail
   go_ret
   exact FI.out
  obtain ⟨hh,rfl⟩:=Int.eq_ofNat_of_zero_le (show 0≤height by omega)
  have hh16:hh≤16:=by omega
  obtain ⟨hxN,hxi⟩:(⟨xi,xk,xw⟩:Nd)∈N∧xi=id:=by
   have:=findN_mem (l:=N) (id:=id) (by rw [← HF.out])
   rw [← HF.out] at this
   exact this
  replace hxi:=lH hxi
  obtain ⟨x,hx⟩:∃ x:Nd,x=⟨xi,xk,xw⟩:=⟨_,rfl⟩
  rw [← hx] at hxN
  obtain ⟨rfl,rfl,rfl⟩:xi=x.id∧xk=x.key∧xw=x.word:=by rw [hx];exact ⟨rfl,rfl,rfl⟩
  have HXN:=lH hxN
  obtain ⟨m,hm64⟩:∃ m,min width 64=m:=⟨_,rfl⟩
  have hm1:1≤m:=by omega
  have hm2:m≤64:=by omega
  have FIN:Hid (ascN (sortN N) (conS N x m (hh+1))=contactsN N id width hh):=lH (by rw [← hm64,← hxi.out];have:=con_asc HC.out HXN.out (width:=width) (height:=hh) (by omega) (by omega) (by omega);simpa using this)
  have HI:Hid (∀ y∈sortN N,I64 y.id):=lH (fun y hy=>(roster_ok HC.out y ((sortN_mem N y).1 hy)).1.1)
  have h64:=check_len HC.out
  clear hx hxN NO hxi HF
  have M4:=SetM.made w3 Tryz.prog 3 4
  have kk:=Ex.new w3 (.map #[] 0)
  obtain ⟨w4,hw4⟩:∃ w4,w4=w3.alloc (.map #[] 0):=⟨_,rfl⟩
  obtain ⟨bm,hbm⟩:∃ bm,bm=w3.heap.size:=⟨_,rfl⟩
  replace M4:SetM Tryz.prog 3 4 w4 bm []:=by rw [hw4,hbm];exact M4
  rw [← hw4] at kk
  have Hw4:=lH hw4
  have Hbm:=lH hbm
  have hgb:¬ 1=bm:=by have:=hT.lt;omega
  have hg2b:g2≠bm:=by have:=B2.lt;omega
  have hwb:w.heap.size≤bm:=by have:=EX.size;omega
  have HS:=lH (h.slb (show w3.heap.size≤bm by omega))
  replace HS:=lH (HS.out.nxb (kk.b bm))
  replace hT:=hT.nx kk
  replace EX:=EX.nx kk
  replace B2:=B2.nx kk
  have h:=h.nx kk
  clear kk hw4 hbm
  have hmm:=@run_makeMap Tryz.prog
  go_upto_region 5 with fail
  rw [← Hbm.out,← Hw4.out]
  clear Hbm Hw4
  clear hmm
  have hbm4:=M4.lt
  go_wp2_with fail
  (with_reducible refine (sort_p _ _ _ _ _ h hn).mono ?_)
  rintro e w5 ⟨v,S,rfl,OS,⟨hp,hsrt⟩,kk⟩
  replace hT:=hT.nx kk
  replace EX:=EX.nx kk
  replace B2:=B2.nx kk
  replace M4:=M4.nx kk
  replace HS:=lH (HS.out.nxb (kk.b bm))
  have hSe:S=sortN N:=sortN_unique (check_keys HC.out) hp hsrt
  subst hSe
  obtain ⟨a1,c1,rfl,S1,_,_,_⟩:=OS.slf (fun _=>rfl)
  replace S1:=lH (S1.slb hbm4)
  have hsl:(sortN N).length≤64:=by rw [sortN_length];exact h64
  replace EX:=lH EX
  replace hT:=lH hT
  replace B2:=lH B2
  clear h OS kk hp hsrt
  go_wp2_with fail
  go_loopw [48] (fun i wr=>CoRel N x m bm (hh+1) w5 i wr) (fun i _=>hh+1-(intOf i).toNat)
  case atStart=>exact ⟨0,by omega,rfl,M4,Exb.refl _ _⟩
  case round =>
   clear M4
   obtain ⟨i,hi,rfl,M,kw⟩:=hrel
   obtain ⟨wo,rfl⟩:∃ wo:World,wo=wr:=⟨_,rfl⟩
   by_cases hlt:i<hh+1
   ·have T1:=hT.out.nxb hgb kw
    have Q2:=B2.out.nxb hg2b kw
    have q0:=Q2.cell 0 _ rfl
    have q1:=Q2.cell 1 _ rfl
    have q2:=Q2.cell 2 _ rfl
    have S2:=(S1.out.nxb kw).sl
    have hi16:i≤16:=by omega
    have hbo:=M.lt
    obtain ⟨_,hat⟩:=thr_at HC.out HXN.out (h:=i) hi16
    replace hat:=lH hat
    have KW:=lH kw
    clear kw
    go_wp2_with fail
    (with_reducible refine (group_q _ _ _ (sortN N) i x.word _ S2 (by omega) HW.out HXW T1).mono ?_)
    rintro e w6 ⟨a3,c3,rfl,r3,kk⟩
    replace M:=M.nx kk
    replace Q2:=Q2.nx kk
    have G3:=lH (r3.slb hbo)
    clear r3
    have hG:groupN (sortN N) i x.word=grpS N i x.word:=rfl
    rw [hG] at G3 ⊢
    replace KW:=lH (KW.out.nxb (kk.b bm))
    have hgl:=grpS_le N i x.word
    have AI:=lH (fun j z (hj:j<idxI (grpS N i x.word) x.id) (hz:(grpS N i x.word)[j]?=some z)=>show z.id≠x.id from fun he=>by have:=grp_uniq HC.out hz hat.out he;omega)
    have GI:Hid (∀ y∈grpS N i x.word,I64 y.id):=lH (fun y hy=>HI.out y (List.mem_filter.1 hy).1)
    have CS:=lH (conS_snoc N x m i)
    have cl:=conS_len N x m i
    have cl2:(conS N x m i).length≤17*64:=Nat.le_trans cl (Nat.mul_le_mul (by omega) h64)
    generalize hK:idxI (grpS N i x.word) x.id=k at hat AI CS
    generalize hGG:grpS N i x.word=G at G3 hgl hat AI GI CS hK ⊢
    generalize conS N x m i=C at M CS cl2
    have hkG:k<G.length:=(List.getElem?_eq_some_iff.1 hat.out).1
    clear kk hK hGG hG cl S2 T1 q0 q1 q2
    have q0:=Q2.cell 0 _ rfl
    have q1:=Q2.cell 1 _ rfl
    have q2:=Q2.cell 2 _ rfl
    go_wp2_with fail
    (with_reducible refine (index_n _ _ _ G x k _ G3.out.sl (by omega) hat.out AI.out).mono ?_)
    rintro e w7 ⟨rfl,kk⟩
    replace M:=M.nx kk
    replace G3:=lH (G3.out.nxb (kk.b bm))
    replace KW:=lH (KW.out.nxb (kk.b bm))
    clear kk q0 q1 q2 Q2
    go_wp2_with fail
    go_loopw [61] (fun i wr=>CiRel G k m C bm w7 i wr) (fun i _=>G.length-(intOf i).toNat)
    case atStart=>exact ⟨0,by omega,rfl,by simpa [besP] using M,Exb.refl _ _⟩
    case round =>
     clear M
     obtain ⟨j,hj,rfl,M,kw⟩:=hrel
     obtain ⟨wp,rfl⟩:∃ wp:World,wp=wr:=⟨_,rfl⟩
     by_cases hjl:j<G.length
     ·obtain ⟨x3,o3,y,rfl,hx3,hy,hc3⟩:=(G3.out.nxb kw).sl.at (j:=j) (by omega)
      have e0:wp.cell? ⟨x3,o3+j*3,none⟩=some (.int .i64 y.id):=hc3 0 _ rfl
      have e1:wp.cell? ⟨x3,o3+j*3+1,none⟩=some (.string y.key):=hc3 1 _ rfl
      have e2:wp.cell? ⟨x3,o3+j*3+1+1,none⟩=some (.int .u32 y.word):=by simpa [Nat.add_assoc] using hc3 2 _ rfl
      have SN:=lH (besP_snoc (k:=k) (m:=m) hy)
      have bl:=besP_len G k m j
      have hyi:=GI.out y (List.mem_of_getElem? hy)
      have hv:=lH (wf_of hyi)
      have KV:=lH kw
      clear hc3 hy kw
      generalize besP G k m j=R at M SN bl
      have B8:=Blk.new wp [.int .i64 y.id,.string y.key,.int .u32 y.word] 36
      have kk:=Ex.new wp (.cells #[.int .i64 y.id,.string y.key,.int .u32 y.word] 36)
      obtain ⟨w8,hw8⟩:∃ w8,w8=wp.alloc (.cells #[.int .i64 y.id,.string y.key,.int .u32 y.word] 36):=⟨_,rfl⟩
      obtain ⟨g8,hg8⟩:∃ g8,g8=wp.heap.size:=⟨_,rfl⟩
      replace B8:Blk w8 g8 [.int .i64 y.id,.string y.key,.int .u32 y.word] 36:=by rw [hw8,hg8];exact B8
      rw [← hw8] at kk
      have Hw8:=lH hw8
      have Hg8:=lH hg8
      replace M:=M.nx kk
      replace KV:=lH (KV.out.nxb (kk.b bm))
      clear kk hw8 hg8
      go_upto_region 14 with fail
      rw [← Hg8.out,← Hw8.out]
      clear Hg8 Hw8
      have p0:=B8.cell 0 _ rfl
      clear e0 e1 e2 B8
      by_cases hp:j≠k∧(j:Int) ≥ k-m∧(j:Int)≤k+m
      ·obtain ⟨b1,b2,b3⟩:=hp
       have SN:Hid (besP G k m (j+1)=R++[y.id]):=lH (by rw [SN.out,if_pos ⟨b1,b2,b3⟩])
       have c1:((j:Int) != k)=true:=by simp;omega
       obtain ⟨w9,hrun,M9,k9,_⟩:=M.put (t:=262) Tryz.underlying3 Tryz.underlying4 Tryz.underlying262 (by rw [List.length_append];omega) hv.out
       have M9:=lH M9
       have K9:=lH (KV.out.nxb k9)
       clear M k9 hyi b1
       go_wp2_with fail
       refine ⟨⟨j+1,by omega,by go_num,?_,K9.out⟩,by simp [intOf];omega⟩
       rw [SN.out,← List.append_assoc]
       exact M9.out
      ·have SN:Hid (besP G k m (j+1)=R):=lH (by rw [SN.out,if_neg hp,List.append_nil])
       have RR:=lH (show CiRel G k m C bm w7 (.int .i64 ((j:Int)+1)) w8 from ⟨j+1,by omega,by go_num,by rw [SN.out];exact M,KV.out⟩)
       by_cases b1:j=k
       ·have c1:((j:Int) != k)=false:=by simp;omega
        clear M hp b1
        go_wp2_with fail
        exact ⟨RR.out,by simp [intOf];omega⟩
       ·have c1:((j:Int) != k)=true:=by simp;omega
        by_cases b2:(j:Int) ≥ k-m
        ·have b3:¬ (j:Int)≤k+m:=fun h=>hp ⟨b1,b2,h⟩
         clear M hp b1
         go_wp2_with fail
         exact ⟨RR.out,by simp [intOf];omega⟩
        ·clear M hp b1
         go_wp2_with fail
         exact ⟨RR.out,by simp [intOf];omega⟩
     ·obtain rfl:j=G.length:=by omega
      have RR:=lH (show CoRel N x m bm (hh+1) w5 (.int .i64 ((i:Int)+1)) wp from ⟨i+1,by omega,by go_num,by rw [CS.out,← besP_all];exact M,KW.out.nxb kw⟩)
      clear M kw
      go_wp2_with fail
      exact ⟨RR.out,by simp [intOf];omega⟩
   ·obtain rfl:i=hh+1:=by omega
    have S0:=(HS.out.nxb kw).sl
    have EF:=lH (Exl.nxb (b:=bm) (w:=w) ⟨EX.out,hwb⟩ kw).1
    clear kw hi hlt
    have hgo:¬ ((hh+1:Nat):Int)<(hh:Int)+1:=by omega
    go_wp2_with fail
    (with_reducible refine (ascending_p _ _ _ N bm _ _ S0 hn HC.out M).mono ?_)
    rintro e wz ⟨vz,rfl,oz,kk⟩
    have OZ:=lH (oz.base EF.out.size)
    have KZ:=lH (EF.out.nx kk)
    clear M oz kk S0
    go_wp2_with fail
    go_ret
    exact ⟨_,rfl,by rw [← FIN.out];exact OZ.out,KZ.out⟩
theorem cont4 (y:Nr) (id:Int):(nums4 y).contains id=(y.1==id||y.2.1==id||y.2.2.1==id||y.2.2.2==id):=by
 unfold nums4
 rw [Bool.eq_iff_iff]
 simp only [List.contains_iff_mem,List.mem_cons,List.not_mem_nil,or_false,Bool.or_eq_true,beq_iff_eq]
 omega
set_option maxHeartbeats 1000000 in
theorem names1_p (gx:Nat) (id:Int) (y:Nr) (w:World) (hx:Blk w gx [.int .i64 id] 3) :
  Calls Tryz.prog 225 #[.agg #[.int .i64 y.1,.int .i64 y.2.1,.int .i64 y.2.2.1,.int .i64 y.2.2.2],.pointer (some ⟨gx,0,none⟩)] w fun e w'=>e=.returned (.bool ((nums4 y).contains id))∧Ex w w':=by
 have hg:=hx.lt
 have EX:=Ex.refl w
 have CN:=lH (cont4 y id)
 have B2:=Blk.new w [.int .i64 y.1,.int .i64 y.2.1,.int .i64 y.2.2.1,.int .i64 y.2.2.2] 158
 have kk:=Ex.new w (.cells #[.int .i64 y.1,.int .i64 y.2.1,.int .i64 y.2.2.1,.int .i64 y.2.2.2] 158)
 obtain ⟨w1,hw1⟩:∃ w1,w1=w.alloc (.cells #[.int .i64 y.1,.int .i64 y.2.1,.int .i64 y.2.2.1,.int .i64 y.2.2.2] 158):=⟨_,rfl⟩
 obtain ⟨g2,hg2⟩:∃ g2,g2=w.heap.size:=⟨_,rfl⟩
 replace B2:Blk w1 g2 [.int .i64 y.1,.int .i64 y.2.1,.int .i64 y.2.2.1,.int .i64 y.2.2.2] 158:=by rw [hw1,hg2];exact B2
 rw [← hw1] at kk
 have Hw1:=lH hw1
 have Hg2:=lH hg2
 replace hx:=hx.nx kk
 replace EX:=EX.nx kk
 clear kk hw1 hg2
 go_enter Tryz.func225,Tryz.ntmps225
 go_upto_region 1 with fail
 rw [← Hg2.out,← Hw1.out]
 clear Hg2 Hw1
 have q0:=hx.cell 0 _ rfl
 have p0:=B2.cell 0 _ rfl
 have p1:=B2.cell 1 _ rfl
 have p2:=B2.cell 2 _ rfl
 have p3:=B2.cell 3 _ rfl
 clear hx B2
 generalize hc1:(y.1==id)=c1 at CN
 generalize hc2:(y.2.1==id)=c2 at CN
 generalize hc3:(y.2.2.1==id)=c3 at CN
 generalize hc4:(y.2.2.2==id)=c4 at CN
 cases c1 with
 | true =>
  go_wp2_with fail
  go_ret
  exact ⟨by rw [CN.out];rfl,EX⟩
 | false =>
  cases c2 with
  | true =>
   go_wp2_with fail
   go_ret
   exact ⟨by rw [CN.out];rfl,EX⟩
  | false =>
   cases c3 with
   | true =>
    go_wp2_with fail
    go_ret
    exact ⟨by rw [CN.out];rfl,EX⟩
   | false =>
    go_wp2_with fail
    go_ret
    exact ⟨by rw [CN.out];rfl,EX⟩
def NmfRel (id:Int) (l:List Nr) (n:Nat) (w:World) (i:Value) (wr:World):Prop :=
 ∃ k:Nat,k≤n∧i=.int .i64 k∧Ex w wr∧∀ j z,j<k→l[j]?=some z→(nums4 z).contains id=false
set_option maxRecDepth 100000 in
set_option maxHeartbeats 2000000 in
theorem idxf_nr (gx:Nat) (id:Int) (a:Option Addr) (n c:Nat) (l:List Nr) (w:World) (h:Sl 4 encNr w a n l) (hn:n≤4000000000000000000) (hx:Blk w gx [.int .i64 id] 3) :
  Calls Tryz.prog 237 #[.slice a n c,.func (.func 225) #[] #[.pointer (some ⟨gx,0,none⟩)]] w fun e w'=>∃ r:Int,e=.returned (.int .i64 r)∧decide (0≤r)=(l.flatMap nums4).contains id∧Ex w w':=by
 have HL:=lH h.len
 have HX:=lH hx
 have hs:=lH h
 have eg:∀ args w,(callFunc 225 args).run Tryz.prog w=.ok (.enter 225 args) w:=enters_of Tryz.func225 (by kernel_rfl) rfl
 clear h hx
 go_enter Tryz.func237,Tryz.ntmps237
 go_wp2
 go_loopw [8] (fun i wr=>NmfRel id l n w i wr) (fun i _=>n-(intOf i).toNat)
 case atStart=>exact ⟨0,by omega,rfl,Ex.refl _,by intro j z h;omega⟩
 case round =>
  obtain ⟨k,hk,rfl,kw,hno⟩:=hrel
  have HNO:=lH hno
  clear hno
  obtain ⟨wo,rfl⟩:∃ wo:World,wo=wr:=⟨_,rfl⟩
  by_cases hlt:k<n
  ·obtain ⟨x1,o1,y,rfl,hx1,hy,hc1⟩:=(hs.out.nx kw).at hlt
   have e0:wo.cell? ⟨x1,o1+k*4,none⟩=some (.int .i64 y.1):=hc1 0 _ rfl
   have e1:wo.cell? ⟨x1,o1+k*4+1,none⟩=some (.int .i64 y.2.1):=hc1 1 _ rfl
   have e2:wo.cell? ⟨x1,o1+k*4+1+1,none⟩=some (.int .i64 y.2.2.1):=by simpa [Nat.add_assoc] using hc1 2 _ rfl
   have e3:wo.cell? ⟨x1,o1+k*4+1+1+1,none⟩=some (.int .i64 y.2.2.2):=by simpa [Nat.add_assoc] using hc1 3 _ rfl
   have HY:=lH hy
   have HB:=lH (HX.out.nx kw)
   have KW:=lH kw
   clear hc1 hy kw
   go_wp2_with fail
   (with_reducible refine (names1_p gx id y _ HB.out).mono ?_)
   rintro e w2 ⟨rfl,k2⟩
   have K2:=lH (KW.out.nx k2)
   clear k2 e0 e1 e2 e3
   cases hb:(nums4 y).contains id with
   | true =>
    have HI:Hid ((l.flatMap nums4).contains id=true):=lH (by
     rw [List.contains_iff_mem,List.mem_flatMap]
     exact ⟨y,List.mem_of_getElem? HY.out,List.contains_iff_mem.1 hb⟩)
    clear hb
    go_wp2_with fail
    go_ret
    exact ⟨_,rfl,by rw [HI.out];simp,K2.out⟩
   | false =>
    have HB:=lH hb
    clear hb
    go_wp2_with fail
    refine ⟨⟨k+1,by omega,by go_num,K2.out,fun j z hj hz=>?_⟩,by simp [intOf];omega⟩
    rcases Nat.lt_or_ge j k with h | h
    ·exact HNO.out j z h hz
    ·obtain rfl:j=k:=by omega
     rw [Option.some.inj (hz.symm.trans HY.out)]
     exact HB.out
  ·obtain rfl:k=n:=by omega
   have HI:Hid ((l.flatMap nums4).contains id=false):=lH (by
    rw [Bool.eq_false_iff]
    intro hc
    rw [List.contains_iff_mem,List.mem_flatMap] at hc
    obtain ⟨y,hy,hm⟩:=hc
    obtain ⟨j,hj⟩:=List.mem_iff_getElem?.1 hy
    have:=HNO.out j y (by rw [← HL.out];exact (List.getElem?_eq_some_iff.1 hj).1) hj
    rw [List.contains_iff_mem.2 hm] at this
    cases this)
   have KW:=lH kw
   clear kw hk hlt
   go_wp2_with fail
   go_ret
   exact ⟨-1,rfl,by rw [HI.out];rfl,KW.out⟩
theorem contf_nr (gx:Nat) (id:Int) (a:Option Addr) (n c:Nat) (l:List Nr) (w:World) (h:Sl 4 encNr w a n l) (hn:n≤4000000000000000000) (hx:Blk w gx [.int .i64 id] 3) :
  Calls Tryz.prog 226 #[.slice a n c,.func (.func 225) #[] #[.pointer (some ⟨gx,0,none⟩)]] w fun e w'=>e=.returned (.bool ((l.flatMap nums4).contains id))∧Ex w w':=by
 go_enter Tryz.func226,Tryz.ntmps226
 go_wp2_with fail
 (with_reducible refine (idxf_nr gx id _ _ _ _ _ h hn hx).mono ?_)
 rintro e w1 ⟨r,rfl,hr,kk⟩
 have HR:=lH hr
 clear h hx hr
 go_wp2_with fail
 go_ret
 exact ⟨by rw [← HR.out];rfl,kk⟩
theorem cont_nums (p:Pr) (id:Int):(numsP p).contains id=(p.left==id||p.right==id||p.known.contains id||(p.near.flatMap nums4).contains id):=by
 unfold numsP
 rw [Bool.eq_iff_iff]
 simp only [List.contains_iff_mem,List.mem_append,List.mem_cons,List.not_mem_nil,or_false,Bool.or_eq_true,beq_iff_eq]
 constructor
 ·rintro ((h | h | h) | h)
  ·exact .inl (.inr h)
  ·exact .inl (.inl (.inl h.symm))
  ·exact .inl (.inl (.inr h.symm))
  ·exact .inr h
 ·rintro (((h | h) | h) | h)
  ·exact .inl (.inr (.inl h.symm))
  ·exact .inl (.inr (.inr h.symm))
  ·exact .inl (.inl h)
  ·exact .inr h
set_option maxHeartbeats 2000000 in
theorem names_p (p:Pr) (a1:Option Addr) (n1 c1:Nat) (a2:Option Addr) (n2 c2:Nat) (id:Int) (w:World) (h1:Sl 1 encI w a1 n1 p.known) (h2:Sl 4 encNr w a2 n2 p.near) (hn1:n1≤4000000000000000000) (hn2:n2≤4000000000000000000) :
  Calls Tryz.prog 204 #[.agg #[.int .i64 p.id,.slice a1 n1 c1,.int .i64 p.left,.int .i64 p.right,.slice a2 n2 c2],.int .i64 id] w fun e w'=>e=.returned (.bool ((numsP p).contains id))∧Ex w w':=by
 have EX:=Ex.refl w
 have CN:=lH (cont_nums p id)
 obtain ⟨g2,hg2⟩:∃ g2,g2=w.heap.size:=⟨_,rfl⟩
 obtain ⟨g3,hg3⟩:∃ g3,g3=(w.heap.size+1):=⟨_,rfl⟩
 obtain ⟨w1,hw1⟩:∃ w1,w1=((w.alloc (.cells #[.int .i64 p.id,.slice a1 n1 c1,.int .i64 p.left,.int .i64 p.right,.slice a2 n2 c2] 150)).alloc (.cells #[.int .i64 id] 3)):=⟨_,rfl⟩
 have kk:Ex w w1:=by rw [hw1];exact (((Ex.refl w).alloc (.cells #[.int .i64 p.id,.slice a1 n1 c1,.int .i64 p.left,.int .i64 p.right,.slice a2 n2 c2] 150)).alloc (.cells #[.int .i64 id] 3))
 have B2:Blk w1 g2 [.int .i64 p.id,.slice a1 n1 c1,.int .i64 p.left,.int .i64 p.right,.slice a2 n2 c2] 150:=by rw [hw1];simp only [hg2,hg3];have hbk:=((Blk.new w [.int .i64 p.id,.slice a1 n1 c1,.int .i64 p.left,.int .i64 p.right,.slice a2 n2 c2] 150).nx (Ex.new _ (.cells #[.int .i64 id] 3)));simpa using hbk
 have B3:Blk w1 g3 [.int .i64 id] 3:=by rw [hw1];simp only [hg2,hg3];have hbk:=(Blk.new (w.alloc (.cells #[.int .i64 p.id,.slice a1 n1 c1,.int .i64 p.left,.int .i64 p.right,.slice a2 n2 c2] 150)) [.int .i64 id] 3);simpa using hbk
 have Hw1:=lH hw1
 have Hg2:=lH hg2
 have Hg3:=lH hg3
 replace h1:=h1.nx kk
 replace h2:=h2.nx kk
 replace EX:=EX.nx kk
 clear kk hw1 hg2 hg3
 go_enter Tryz.func204,Tryz.ntmps204
 go_upto_region 2 with fail
 rw [← Hw1.out,← Hg3.out,← Hg2.out]
 clear Hw1 Hg3 Hg2
 have p1:=B2.cell 1 _ rfl
 have p2:=B2.cell 2 _ rfl
 have p3:=B2.cell 3 _ rfl
 have p4:=B2.cell 4 _ rfl
 have q0:=B3.cell 0 _ rfl
 have S1:=lH h1
 have S2:=lH h2
 replace B2:=lH B2
 replace B3:=lH B3
 clear h1 h2
 generalize hc1:(p.left==id)=b1 at CN
 generalize hc2:(p.right==id)=b2 at CN
 cases b1 with
 | true =>
  go_wp2_with fail
  go_ret
  exact ⟨by rw [CN.out];rfl,EX⟩
 | false =>
  cases b2 with
  | true =>
   go_wp2_with fail
   go_ret
   exact ⟨by rw [CN.out];rfl,EX⟩
  | false =>
   go_wp2_with fail
   (with_reducible refine (contains_i _ _ _ _ id _ S1.out hn1).mono ?_)
   rintro e w2 ⟨rfl,kk⟩
   replace EX:=EX.nx kk
   generalize hc3:p.known.contains id=b3 at CN
   have p4:=(B2.out.nx kk).cell 4 _ rfl
   have S2:=lH (S2.out.nx kk)
   have B3:=lH (B3.out.nx kk)
   clear kk p1 p2 p3 q0
   cases b3 with
   | true =>
    go_wp2_with fail
    go_ret
    exact ⟨by rw [CN.out];rfl,EX⟩
   | false =>
    go_wp2_with fail
    (with_reducible refine (contf_nr g3 id _ _ _ _ _ S2.out hn2 B3.out).mono ?_)
    rintro e w3 ⟨rfl,kk⟩
    replace EX:=EX.nx kk
    clear kk
    generalize hc4:(p.near.flatMap nums4).contains id=b4 at CN
    have CN:Hid ((numsP p).contains id=b4):=lH (by rw [CN.out];rfl)
    clear p4
    go_wp2_with fail
    go_ret
    exact ⟨by rw [CN.out];rfl,EX⟩
set_option maxRecDepth 100000 in
set_option maxHeartbeats 4000000 in
theorem refs_p (a:Option Addr) (n c:Nat) (N:List Nd) (p:Pr) (a1:Option Addr) (n1 c1:Nat) (a2:Option Addr) (n2 c2:Nat) (w:World) (h:Sl 3 encN w a n N) (hn:n≤1000) (hc:n≤c) (hm:c≤maxLen) (h1:Sl 1 encI w a1 n1 p.known) (h2:Sl 4 encNr w a2 n2 p.near) (hn1:n1≤4000000000000000000) (hn2:n2≤4000000000000000000) :
  Calls Tryz.prog 154 #[.slice a n c,.agg #[.int .i64 p.id,.slice a1 n1 c1,.int .i64 p.left,.int .i64 p.right,.slice a2 n2 c2]] w (OiPost (refsN N p) w):=by
 have HL:=lH h.len
 have EX:=Ex.refl w
 have B3:=Blk.new w [.int .i64 p.id,.slice a1 n1 c1,.int .i64 p.left,.int .i64 p.right,.slice a2 n2 c2] 150
 have kk:=Ex.new w (.cells #[.int .i64 p.id,.slice a1 n1 c1,.int .i64 p.left,.int .i64 p.right,.slice a2 n2 c2] 150)
 obtain ⟨w1,hw1⟩:∃ w1,w1=w.alloc (.cells #[.int .i64 p.id,.slice a1 n1 c1,.int .i64 p.left,.int .i64 p.right,.slice a2 n2 c2] 150):=⟨_,rfl⟩
 obtain ⟨g3,hg3⟩:∃ g3,g3=w.heap.size:=⟨_,rfl⟩
 replace B3:Blk w1 g3 [.int .i64 p.id,.slice a1 n1 c1,.int .i64 p.left,.int .i64 p.right,.slice a2 n2 c2] 150:=by rw [hw1,hg3];exact B3
 rw [← hw1] at kk
 have Hw1:=lH hw1
 have Hg3:=lH hg3
 replace h:=h.nx kk
 replace h1:=h1.nx kk
 replace h2:=h2.nx kk
 replace EX:=EX.nx kk
 clear kk hw1 hg3
 go_enter Tryz.func154,Tryz.ntmps154
 go_upto_region 1 with fail
 rw [← Hg3.out,← Hw1.out]
 clear Hg3 Hw1
 go_wp2_with fail
 (with_reducible refine (check_p _ _ _ _ _ h (by omega) hc hm).mono ?_)
 rintro e w2 ⟨rfl,kk⟩
 replace h:=h.nx kk
 replace h1:=h1.nx kk
 replace h2:=h2.nx kk
 replace EX:=EX.nx kk
 replace B3:=B3.nx kk
 clear kk
 by_cases hck:checkN N=0
 case neg =>
  have d1:(checkN N != 0)=true:=by simpa using hck
  have E0:Hid (refsN N p=[]):=lH (by unfold refsN;rw [if_neg hck])
  clear h h1 h2 hck B3
  go_wp2_with fail
  go_ret
  exact ⟨_,rfl,by rw [E0.out];exact OwnL.nil _ _ _ _ _,EX⟩
 have d1:(checkN N != 0)=false:=by simpa using hck
 have HC:=lH hck
 clear hck
 go_wp2_with fail
 (with_reducible refine (sort_p _ _ _ _ _ h hn).mono ?_)
 rintro e w3 ⟨v,S,rfl,OS,⟨hp,hsrt⟩,kk⟩
 replace h1:=h1.nx kk
 replace h2:=h2.nx kk
 replace EX:=EX.nx kk
 replace B3:=B3.nx kk
 clear kk
 have hSe:S=sortN N:=sortN_unique (check_keys HC.out) hp hsrt
 subst hSe
 obtain ⟨a3,c3,rfl,S3,_,_⟩:=sorted_own HC.out OS
 rw [HL.out] at S3 ⊢
 have ES:Hid (refsN N p=((sortN N).filter (ordP (numsP p) p.id)).map Nd.id):=lH (by unfold refsN;rw [if_pos HC.out];rfl)
 generalize sortN N=S at S3 ES
 have HSL:=lH S3.len
 replace S3:=lH S3
 have S1:=lH h1
 have S2:=lH h2
 have K1:=lH EX
 have hz1:=EX.size
 replace B3:=lH B3
 clear h h1 h2 OS EX hp hsrt
 go_wp2_with fail
 go_loopw [5,14] (fun o i wr=>OrdRel S (numsP p) p.id w3 o i wr) (fun _ i _=>n-(intOf i).toNat)
 case atStart=>exact ⟨0,by omega,rfl,OwnL.nil _ _ _ _ _,Ex.refl _⟩
 case round =>
  obtain ⟨j,hj,rfl,own,ki⟩:=hrel
  obtain ⟨wi,rfl⟩:∃ wi:World,wi=wr:=⟨_,rfl⟩
  by_cases hjm:j<n
  ·obtain ⟨x3,o3,y,rfl,hx3,hy,hc3⟩:=(S3.out.nx ki).at hjm
   have e0:wi.cell? ⟨x3,o3+j*3,none⟩=some (.int .i64 y.id):=hc3 0 _ rfl
   have e1:wi.cell? ⟨x3,o3+j*3+1,none⟩=some (.string y.key):=hc3 1 _ rfl
   have e2:wi.cell? ⟨x3,o3+j*3+1+1,none⟩=some (.int .u32 y.word):=by simpa [Nat.add_assoc] using hc3 2 _ rfl
   have SN:=lH (ord_snoc (l:=numsP p) (but:=p.id) hy)
   have hrl:(((S.take j).filter (ordP (numsP p) p.id)).map Nd.id).length≤1000:=by
    rw [List.length_map]
    have:=List.length_filter_le (ordP (numsP p) p.id) (S.take j)
    rw [List.length_take] at this
    omega
   generalize ((S.take j).filter (ordP (numsP p) p.id)).map Nd.id=row at own SN hrl
   have KI:=lH ki
   clear hy hc3 ki
   have B7:=Blk.new wi [.int .i64 y.id,.string y.key,.int .u32 y.word] 36
   have kk:=Ex.new wi (.cells #[.int .i64 y.id,.string y.key,.int .u32 y.word] 36)
   obtain ⟨w7,hw7⟩:∃ w7,w7=wi.alloc (.cells #[.int .i64 y.id,.string y.key,.int .u32 y.word] 36):=⟨_,rfl⟩
   obtain ⟨g7,hg7⟩:∃ g7,g7=wi.heap.size:=⟨_,rfl⟩
   replace B7:Blk w7 g7 [.int .i64 y.id,.string y.key,.int .u32 y.word] 36:=by rw [hw7,hg7];exact B7
   rw [← hw7] at kk
   have Hw7:=lH hw7
   have Hg7:=lH hg7
   replace own:=own.nx kk
   have K7:=lH (KI.out.nx kk)
   clear kk hw7 hg7
   have Q3:=B3.out.nx K7.out
   go_upto_region 7 with fail
   rw [← Hg7.out,← Hw7.out]
   clear Hg7 Hw7
   have q0:=B7.cell 0 _ rfl
   have p0:=Q3.cell 0 _ rfl
   clear e0 e1 e2
   by_cases hb:y.id=p.id
   ·have hq:(y.id != p.id)=false:=by simp [hb]
    have hq2:(y.id==p.id)=true:=by simp [hb]
    have PF:Hid (ordP (numsP p) p.id y=false):=lH (by unfold ordP;rw [hq2];rfl)
    have OWN:=lH own
    clear hb own hq2 B7 Q3
    go_wp2_with fail
    exact ⟨⟨j+1,by rw [HSL.out];omega,by go_num,by rw [SN.out,PF.out];simpa using OWN.out,K7.out⟩,by simp [intOf];omega⟩
   ·have hq:(y.id != p.id)=true:=by simpa using hb
    have hq2:(y.id==p.id)=false:=by simpa using hb
    have PB:Hid (ordP (numsP p) p.id y=(numsP p).contains y.id):=lH (by unfold ordP;rw [hq2];rfl)
    have p1:=Q3.cell 1 _ rfl
    have p2:=Q3.cell 2 _ rfl
    have p3:=Q3.cell 3 _ rfl
    have p4:=Q3.cell 4 _ rfl
    clear hb hq2 Q3
    go_wp2_with fail
    (with_reducible refine (names_p p _ _ _ _ _ _ y.id _ (S1.out.nx K7.out) (S2.out.nx K7.out) hn1 hn2).mono ?_)
    rintro e w5 ⟨rfl,kk⟩
    replace own:=own.nx kk
    replace B7:=B7.nx kk
    have K5:=lH (K7.out.nx kk)
    have zb5:=K5.out.size
    have q0:=B7.cell 0 _ rfl
    have OWN:=lH own
    clear kk p0 p1 p2 p3 p4 own B7
    generalize (numsP p).contains y.id=inl at PB ⊢
    generalize y.id=yi at SN q0 hq
    cases inl with
    | false =>
     clear q0 hq
     go_wp2_with fail
     exact ⟨⟨j+1,by rw [HSL.out];omega,by go_num,by rw [SN.out,PB.out];simpa using OWN.out,K5.out⟩,by simp [intOf];omega⟩
    | true =>
     have own5:=OWN.out
     have hl7:row.length≤1000000:=by omega
     clear hq
     go_wp2_with (at_builtin;(refine wpList_append_lit (enc:=encI) w5 rfl _ _ 22 rfl w3.heap.size 3 (.int .i64 0) 1 8 Tryz.underlying22 Tryz.infoI6 rfl (by omega) (by omega) _ _ own5 rfl (yi:Int) _ rfl rfl (by simp [encI,Value.oneCell']) _ (by simp) rfl hl7 zb5 _ ?_);intro v6 w6 own6 _ ch1 _)
     refine ⟨⟨j+1,by rw [HSL.out];omega,by go_num,by rw [SN.out,PB.out];exact own6,Chg.trans K5.out ch1⟩,by simp [intOf];omega⟩
  ·obtain rfl:j=n:=by have:=HSL.out;omega
   rw [List.take_of_length_le (by rw [HSL.out];exact Nat.le_refl _)] at own
   have own:=lH (own.base hz1)
   have KE:=lH (K1.out.nx ki)
   clear hj hjm ki
   go_wp2_with fail
   go_ret
   exact ⟨_,rfl,by rw [ES.out];exact own.out,KE.out⟩
def nearF (x:Nd) (i:Nat) (s:Nr) (y:Nd):Nr :=
 if Op.bytesLess y.key.toList x.key.toList=true then (if bitN y.word i=0 then (y.id,s.2.1,s.2.2.1,s.2.2.2) else (s.1,y.id,s.2.2.1,s.2.2.2))
 else if y.key.toList=x.key.toList then s
 else if bitN y.word i=0 then (if s.2.2.1=0 then (s.1,s.2.1,y.id,s.2.2.2) else s) else (if s.2.2.2=0 then (s.1,s.2.1,s.2.2.1,y.id) else s)
def lastD (d:Int) (l:List Nd):Int:=match l.getLast? with
 | some y=>y.id
 | none=>d
theorem lastD_cons (d:Int) (y:Nd) (l:List Nd):lastD d (y::l)=lastD y.id l:=by
 unfold lastD
 cases l with
 | nil=>rfl
 | cons z l=>rw [List.getLast?_cons_cons];cases h:(z::l).getLast? with
  | none=>simp at h
  | some u=>rfl
theorem lastD_zero (l:List Nd):lastD 0 l=lastI l:=by
 unfold lastD lastI
 cases h:l.getLast? with
 | none=>rfl
 | some u=>rfl
theorem bit_two (a:Nat) (i:Int):bitN a i=0∨bitN a i=1:=by
 unfold bitN
 split
 ·exact .inl rfl
 ·omega
theorem near_left {x:Nd} {i:Nat}:∀ (A:List Nd) (s:Nr),(∀ y∈A,Op.bytesLess y.key.toList x.key.toList=true)→A.foldl (nearF x i) s=(lastD s.1 (A.filter (bitIs i 0)),lastD s.2.1 (A.filter (bitIs i 1)),s.2.2.1,s.2.2.2)
 | [],s,_=>rfl
 | y::A,s,h=>by
  rw [List.foldl_cons,near_left A _ (fun z hz=>h z (List.mem_cons_of_mem _ hz))]
  unfold nearF
  rw [if_pos (h y List.mem_cons_self)]
  rcases bit_two y.word i with hb | hb
  ·rw [if_pos hb,List.filter_cons_of_pos (by simp [bitIs,hb]),List.filter_cons_of_neg (by simp [bitIs,hb]),lastD_cons]
  ·rw [if_neg (by omega),List.filter_cons_of_neg (by simp [bitIs,hb]),List.filter_cons_of_pos (by simp [bitIs,hb]),lastD_cons]
theorem headI_cons (y:Nd) (l:List Nd):headI (y::l)=y.id:=rfl
theorem near_right {x:Nd} {i:Nat}:∀ (B:List Nd) (s:Nr),(∀ y∈B,Op.bytesLess x.key.toList y.key.toList=true∧y.id≠0) →
  B.foldl (nearF x i) s=(s.1,s.2.1,if s.2.2.1=0 then headI (B.filter (bitIs i 0)) else s.2.2.1,if s.2.2.2=0 then headI (B.filter (bitIs i 1)) else s.2.2.2)
 | [],s,_=>by
  obtain ⟨s1,s2,s3,s4⟩:=s
  have:headI ([]:List Nd)=0:=rfl
  simp only [List.foldl_nil,List.filter_nil,this,Prod.mk.injEq,true_and]
  constructor<;>split<;>simp_all
 | y::B,s,h=>by
  rw [List.foldl_cons,near_right B _ (fun z hz=>h z (List.mem_cons_of_mem _ hz))]
  obtain ⟨hl,hid⟩:=h y List.mem_cons_self
  have h1:=bl_asymm hl
  have h2:¬ y.key.toList=x.key.toList:=by
   intro he
   rw [he,bytesLess_irrefl] at hl
   cases hl
  unfold nearF
  rw [if_neg (by rw [h1];simp),if_neg h2]
  rcases bit_two y.word i with hb | hb
  ·rw [if_pos hb,List.filter_cons_of_pos (by simp [bitIs,hb]),List.filter_cons_of_neg (by simp [bitIs,hb]),headI_cons]
   by_cases h3:s.2.2.1=0
   ·rw [if_pos h3];simp [h3,hid]
   ·rw [if_neg h3];simp [h3]
  ·rw [if_neg (by omega),List.filter_cons_of_neg (by simp [bitIs,hb]),List.filter_cons_of_pos (by simp [bitIs,hb]),headI_cons]
   by_cases h3:s.2.2.2=0
   ·rw [if_pos h3];simp [h3,hid]
   ·rw [if_neg h3];simp [h3]
theorem near_fold {N:List Nd} (h0:checkN N=0) {x:Nd} {i:Nat} {A B:List Nd} (e:grpS N i x.word=A++x::B):(grpS N i x.word).foldl (nearF x i) (0,0,0,0)=nearG N x i:=by
 rw [nearG_at h0 e]
 have ha:=grp_asc h0 (i:Int) x.word
 rw [e] at ha ⊢
 have hp:=List.pairwise_append.1 ha
 rw [List.foldl_append,near_left A _ (fun y hy=>(hp.2.2 y hy x List.mem_cons_self).1),List.foldl_cons]
 have hs:∀ s:Nr,nearF x i s x=s:=fun s=>by unfold nearF;rw [bytesLess_irrefl];simp
 rw [hs,near_right B _ (fun y hy=>⟨((List.pairwise_cons.1 hp.2.1).1 y hy).1,?_⟩)]
 ·simp only [lastD_zero,if_true]
 ·have hm:y∈grpS N i x.word:=by rw [e];simp [hy]
  have:=(roster_ok h0 y (grp_mem.1 hm).1).2.1
  omega
def NrRel (G:List Nd) (x:Nd) (i g7:Nat) (w:World) (p:Value) (wr:World):Prop :=
 ∃ (j:Nat) (s:Nr),j≤G.length∧p=.int .i64 j∧s=(G.take j).foldl (nearF x i) (0,0,0,0)∧Blk wr g7 (encNr s) 158∧Exb g7 w wr
theorem nr_snoc {G:List Nd} {x y:Nd} {i j:Nat} (hy:G[j]?=some y):(G.take (j+1)).foldl (nearF x i) (0,0,0,0)=nearF x i ((G.take j).foldl (nearF x i) (0,0,0,0)) y:=by
 rw [take_snocN G j y hy,List.foldl_append];rfl
set_option maxRecDepth 100000 in
set_option maxHeartbeats 8000000 in
theorem near_p (a:Option Addr) (n c:Nat) (N:List Nd) (x:Nd) (i:Nat) (w:World) (h:Sl 3 encN w a n (sortN N)) (hn:n≤1000) (h0:checkN N=0) (hw:∀ x∈N,x.word<4294967296) (hx:x∈N) (hi:i<16) (hT:TabG w) :
  Calls Tryz.prog 105 #[.slice a n c,.agg #[.int .i64 x.id,.string x.key,.int .u32 x.word],.int .i64 i] w fun e w'=>e=.returned (.agg (encNr (nearG N x i)).toArray)∧Ex w w':=by
 have HW:=lH (sort_word hw)
 have hxw:=hw x hx
 have EX:=Ex.refl w
 have FO:Hid ((grpS N i x.word).foldl (nearF x i) (0,0,0,0)=nearG N x i):=lH (by
  obtain ⟨A,B,e⟩:=grp_at hx (h:=(i:Int)) (by unfold lvlN;simp;omega)
  exact near_fold h0 e)
 have HI:Hid (∀ y∈grpS N i x.word,I64 y.id∧y.word<4294967296):=lH (fun y hy=>⟨(roster_ok h0 y (grp_mem.1 hy).1).1.1,hw y (grp_mem.1 hy).1⟩)
 obtain ⟨g4,hg4⟩:∃ g4,g4=w.heap.size:=⟨_,rfl⟩
 obtain ⟨g6,hg6⟩:∃ g6,g6=(w.heap.size+1):=⟨_,rfl⟩
 obtain ⟨g7,hg7⟩:∃ g7,g7=(w.heap.size+1+1):=⟨_,rfl⟩
 obtain ⟨g8,hg8⟩:∃ g8,g8=(w.heap.size+1+1+1):=⟨_,rfl⟩
 obtain ⟨g9,hg9⟩:∃ g9,g9=(w.heap.size+1+1+1+1):=⟨_,rfl⟩
 obtain ⟨w1,hw1⟩:∃ w1,w1=(((((w.alloc (.cells #[.int .i64 x.id,.string x.key,.int .u32 x.word] 36)).alloc (.cells #[.int .i64 0,.int .i64 0,.int .i64 0,.int .i64 0] 158)).alloc (.cells #[.int .i64 0,.int .i64 0,.int .i64 0,.int .i64 0] 158)).alloc (.cells #[.pointer (some ⟨(w.heap.size+1+1),0,none⟩),.pointer (some ⟨(w.heap.size+1+1),1,none⟩)] 265)).alloc (.cells #[.pointer (some ⟨(w.heap.size+1+1),2,none⟩),.pointer (some ⟨(w.heap.size+1+1),3,none⟩)] 265)):=⟨_,rfl⟩
 have kk:Ex w w1:=by rw [hw1];exact ((((((Ex.refl w).alloc (.cells #[.int .i64 x.id,.string x.key,.int .u32 x.word] 36)).alloc (.cells #[.int .i64 0,.int .i64 0,.int .i64 0,.int .i64 0] 158)).alloc (.cells #[.int .i64 0,.int .i64 0,.int .i64 0,.int .i64 0] 158)).alloc (.cells #[.pointer (some ⟨(w.heap.size+1+1),0,none⟩),.pointer (some ⟨(w.heap.size+1+1),1,none⟩)] 265)).alloc (.cells #[.pointer (some ⟨(w.heap.size+1+1),2,none⟩),.pointer (some ⟨(w.heap.size+1+1),3,none⟩)] 265))
 have B4:Blk w1 g4 [.int .i64 x.id,.string x.key,.int .u32 x.word] 36:=by rw [hw1];simp only [hg4,hg6,hg7,hg8,hg9];have hbk:=(((((Blk.new w [.int .i64 x.id,.string x.key,.int .u32 x.word] 36).nx (Ex.new _ (.cells #[.int .i64 0,.int .i64 0,.int .i64 0,.int .i64 0] 158))).nx (Ex.new _ (.cells #[.int .i64 0,.int .i64 0,.int .i64 0,.int .i64 0] 158))).nx (Ex.new _ (.cells #[.pointer (some ⟨(w.heap.size+1+1),0,none⟩),.pointer (some ⟨(w.heap.size+1+1),1,none⟩)] 265))).nx (Ex.new _ (.cells #[.pointer (some ⟨(w.heap.size+1+1),2,none⟩),.pointer (some ⟨(w.heap.size+1+1),3,none⟩)] 265)));simpa using hbk
 have B6:Blk w1 g6 [.int .i64 0,.int .i64 0,.int .i64 0,.int .i64 0] 158:=by rw [hw1];simp only [hg4,hg6,hg7,hg8,hg9];have hbk:=((((Blk.new (w.alloc (.cells #[.int .i64 x.id,.string x.key,.int .u32 x.word] 36)) [.int .i64 0,.int .i64 0,.int .i64 0,.int .i64 0] 158).nx (Ex.new _ (.cells #[.int .i64 0,.int .i64 0,.int .i64 0,.int .i64 0] 158))).nx (Ex.new _ (.cells #[.pointer (some ⟨(w.heap.size+1+1),0,none⟩),.pointer (some ⟨(w.heap.size+1+1),1,none⟩)] 265))).nx (Ex.new _ (.cells #[.pointer (some ⟨(w.heap.size+1+1),2,none⟩),.pointer (some ⟨(w.heap.size+1+1),3,none⟩)] 265)));simpa using hbk
 have B7:Blk w1 g7 [.int .i64 0,.int .i64 0,.int .i64 0,.int .i64 0] 158:=by rw [hw1];simp only [hg4,hg6,hg7,hg8,hg9];have hbk:=(((Blk.new ((w.alloc (.cells #[.int .i64 x.id,.string x.key,.int .u32 x.word] 36)).alloc (.cells #[.int .i64 0,.int .i64 0,.int .i64 0,.int .i64 0] 158)) [.int .i64 0,.int .i64 0,.int .i64 0,.int .i64 0] 158).nx (Ex.new _ (.cells #[.pointer (some ⟨(w.heap.size+1+1),0,none⟩),.pointer (some ⟨(w.heap.size+1+1),1,none⟩)] 265))).nx (Ex.new _ (.cells #[.pointer (some ⟨(w.heap.size+1+1),2,none⟩),.pointer (some ⟨(w.heap.size+1+1),3,none⟩)] 265)));simpa using hbk
 have B8:Blk w1 g8 [.pointer (some ⟨g7,0,none⟩),.pointer (some ⟨g7,1,none⟩)] 265:=by rw [hw1];simp only [hg4,hg6,hg7,hg8,hg9];have hbk:=((Blk.new (((w.alloc (.cells #[.int .i64 x.id,.string x.key,.int .u32 x.word] 36)).alloc (.cells #[.int .i64 0,.int .i64 0,.int .i64 0,.int .i64 0] 158)).alloc (.cells #[.int .i64 0,.int .i64 0,.int .i64 0,.int .i64 0] 158)) [.pointer (some ⟨(w.heap.size+1+1),0,none⟩),.pointer (some ⟨(w.heap.size+1+1),1,none⟩)] 265).nx (Ex.new _ (.cells #[.pointer (some ⟨(w.heap.size+1+1),2,none⟩),.pointer (some ⟨(w.heap.size+1+1),3,none⟩)] 265)));simpa using hbk
 have B9:Blk w1 g9 [.pointer (some ⟨g7,2,none⟩),.pointer (some ⟨g7,3,none⟩)] 265:=by rw [hw1];simp only [hg4,hg6,hg7,hg8,hg9];have hbk:=(Blk.new ((((w.alloc (.cells #[.int .i64 x.id,.string x.key,.int .u32 x.word] 36)).alloc (.cells #[.int .i64 0,.int .i64 0,.int .i64 0,.int .i64 0] 158)).alloc (.cells #[.int .i64 0,.int .i64 0,.int .i64 0,.int .i64 0] 158)).alloc (.cells #[.pointer (some ⟨(w.heap.size+1+1),0,none⟩),.pointer (some ⟨(w.heap.size+1+1),1,none⟩)] 265)) [.pointer (some ⟨(w.heap.size+1+1),2,none⟩),.pointer (some ⟨(w.heap.size+1+1),3,none⟩)] 265);simpa using hbk
 have Hw1:=lH hw1
 have Hg4:=lH hg4
 have Hg6:=lH hg6
 have Hg7:=lH hg7
 have Hg8:=lH hg8
 have Hg9:=lH hg9
 replace h:=h.nx kk
 replace hT:=hT.nx kk
 replace EX:=EX.nx kk
 have n47:g4≠g7:=by omega
 have n67:g6≠g7:=by omega
 have n87:g8≠g7:=by omega
 have n97:g9≠g7:=by omega
 have hw7:w.heap.size≤g7:=by omega
 have hw6:w.heap.size≤g6:=by omega
 clear kk hw hx h0 hw1 hg4 hg6 hg7 hg8 hg9
 go_enter Tryz.func105,Tryz.ntmps105
 go_upto_region 4 with fail
 rw [← Hw1.out,← Hg9.out,← Hg8.out,← Hg7.out,← Hg6.out,← Hg4.out]
 clear Hw1 Hg9 Hg8 Hg7 Hg6 Hg4
 have hb7:=B7.lt
 have q0:=B4.cell 0 _ rfl
 have q1:=B4.cell 1 _ rfl
 have q2:=B4.cell 2 _ rfl
 go_wp2_with fail
 (with_reducible refine (group_q _ _ _ (sortN N) i x.word _ h (by omega) HW.out hxw hT).mono ?_)
 rintro e w6 ⟨a3,c3,rfl,r3,kk⟩
 replace EX:=EX.nx kk
 replace B4:=B4.nx kk
 replace B6:=B6.nx kk
 replace B7:=B7.nx kk
 replace B8:=B8.nx kk
 replace B9:=B9.nx kk
 clear kk
 have hG:groupN (sortN N) i x.word=grpS N i x.word:=rfl
 have hgl:(groupN (sortN N) i x.word).length≤1000:=by have:=groupN_length (sortN N) i x.word;have:=h.len;omega
 rw [hG] at r3 hgl ⊢
 generalize grpS N i x.word=G at r3 hgl FO HI ⊢
 have G3:=lH (r3.slb hb7)
 replace EX:=lH EX
 replace B4:=lH B4
 replace B6:=lH B6
 replace B8:=lH B8
 replace B9:=lH B9
 clear r3 hG h hT q0 q1 q2 HW
 go_wp2_with fail
 go_loopw [25] (fun p wr=>NrRel G x i g7 w6 p wr) (fun p _=>G.length-(intOf p).toNat)
 case atStart=>exact ⟨0,(0,0,0,0),by omega,rfl,rfl,B7,Exb.refl _ _⟩
 case round =>
  clear B7
  obtain ⟨j,s,hj,rfl,hs,B7,kw⟩:=hrel
  obtain ⟨wo,rfl⟩:∃ wo:World,wo=wr:=⟨_,rfl⟩
  by_cases hjl:j<G.length
  ·obtain ⟨x3,o3,y,rfl,hx3,hy,hc3⟩:=(G3.out.nxb kw).sl.at (j:=j) hjl
   have e0:wo.cell? ⟨x3,o3+j*3,none⟩=some (.int .i64 y.id):=hc3 0 _ rfl
   have e1:wo.cell? ⟨x3,o3+j*3+1,none⟩=some (.string y.key):=hc3 1 _ rfl
   have e2:wo.cell? ⟨x3,o3+j*3+1+1,none⟩=some (.int .u32 y.word):=by simpa [Nat.add_assoc] using hc3 2 _ rfl
   have SN:=lH (nr_snoc (x:=x) (i:=i) hy)
   rw [← hs] at SN
   obtain ⟨hyi,hyw⟩:=HI.out y (List.mem_of_getElem? hy)
   have hg7w:=B7.lt
   have Q8:=B8.out.nxb n87 kw
   have Q9:=B9.out.nxb n97 kw
   have Q4:=B4.out.nxb n47 kw
   have KV:=lH kw
   clear hc3 hy kw hs
   have B11:=Blk.new wo [.int .i64 y.id,.string y.key,.int .u32 y.word] 36
   have kk:=Ex.new wo (.cells #[.int .i64 y.id,.string y.key,.int .u32 y.word] 36)
   obtain ⟨w8,hw8⟩:∃ w8,w8=wo.alloc (.cells #[.int .i64 y.id,.string y.key,.int .u32 y.word] 36):=⟨_,rfl⟩
   obtain ⟨g11,hg11⟩:∃ g11,g11=wo.heap.size:=⟨_,rfl⟩
   replace B11:Blk w8 g11 [.int .i64 y.id,.string y.key,.int .u32 y.word] 36:=by rw [hw8,hg11];exact B11
   rw [← hw8] at kk
   have Hw8:=lH hw8
   have Hg11:=lH hg11
   replace B7:=B7.nx kk
   replace Q8:=Q8.nx kk
   replace Q9:=Q9.nx kk
   replace Q4:=Q4.nx kk
   replace KV:=lH (KV.out.nxb (kk.b g7))
   have hn11:¬ g11=g7:=by omega
   clear kk hw8 hg11
   go_upto_region 7 with fail
   rw [← Hg11.out,← Hw8.out]
   clear Hg11 Hw8
   have p0:=B11.cell 0 _ rfl
   have p1:=B11.cell 1 _ rfl
   have p2:=B11.cell 2 _ rfl
   have q1:=Q4.cell 1 _ rfl
   have l0:=Q8.cell 0 _ rfl
   have l1:=Q8.cell 1 _ rfl
   have m0:=Q9.cell 0 _ rfl
   have m1:=Q9.cell 1 _ rfl
   have r0:=B7.cell 0 _ rfl
   have r1:=B7.cell 1 _ rfl
   have r2:=B7.cell 2 _ rfl
   have r3:=B7.cell 3 _ rfl
   have f0:=B7.free 0
   have f1:=B7.free 1
   have f2:=B7.free 2
   have f3:=B7.free 3
   have HB:=lH B7
   clear e0 e1 e2 B7 B11 Q8 Q9 Q4
   go_wp2_with fail
   (with_reducible refine (bit_p y.word i _ hyw (by omega) (by omega)).mono ?_)
   rintro e w9 ⟨rfl,rfl⟩
   have hb2:=bit_two y.word i
   have HBT:Hid (nearF x i s y=if Op.bytesLess y.key.toList x.key.toList=true then (if bitN y.word i=0 then (y.id,s.2.1,s.2.2.1,s.2.2.2) else (s.1,y.id,s.2.2.1,s.2.2.2))
     else if y.key.toList=x.key.toList then s else if bitN y.word i=0 then (if s.2.2.1=0 then (s.1,s.2.1,y.id,s.2.2.2) else s) else (if s.2.2.2=0 then (s.1,s.2.1,s.2.2.1,y.id) else s)):=lH rfl
   generalize bitN y.word i=bt at hb2 HBT ⊢
   have RR:Hid (∀ (s':Nr) wx,nearF x i s y=s'→Blk wx g7 (encNr s') 158→Exb g7 w6 wx→NrRel G x i g7 w6 (.int .i64 ((j:Int)+1)) wx):=lH (fun s' wx h1 h2 h3=>⟨j+1,s',by omega,by go_num,by rw [SN.out,h1],h2,h3⟩)
   cases hle:Op.bytesLess y.key.toList x.key.toList with
   | true =>
    rcases hb2 with rfl | rfl
    ·have NF:Hid (nearF x i s y=(y.id,s.2.1,s.2.2.1,s.2.2.2)):=lH (by rw [HBT.out,if_pos hle];rfl)
     clear HBT
     go_wp2_with fail
     go_region
     go_wp2_with fail
     exact ⟨RR.out _ _ NF.out (HB.out.set 0 _) (KV.out.drew.setB (p:=⟨g7,0,none⟩) _ rfl),by simp [intOf];omega⟩
    ·have NF:Hid (nearF x i s y=(s.1,y.id,s.2.2.1,s.2.2.2)):=lH (by rw [HBT.out,if_pos hle];rfl)
     clear HBT
     go_wp2_with fail
     go_region
     go_wp2_with fail
     exact ⟨RR.out _ _ NF.out (HB.out.set 1 _) (KV.out.drew.setB (p:=⟨g7,1,none⟩) _ rfl),by simp [intOf];omega⟩
   | false =>
    by_cases hke:y.key.toList=x.key.toList
    ·have hkb:(y.key.toList==x.key.toList)=true:=by rw [hke];exact beq_self_eq_true _
     have NF:=lH (RR.out s w8 (by rw [HBT.out,if_neg (by rw [hle];simp),if_pos hke]) HB.out KV.out)
     clear HBT hke
     go_wp2_with fail
     exact ⟨NF.out,by simp [intOf];omega⟩
    ·have hkb:(y.key.toList==x.key.toList)=false:=by rw [beq_eq_false_iff_ne];exact hke
     have HN:Hid (nearF x i s y=if bt=0 then (if s.2.2.1=0 then (s.1,s.2.1,y.id,s.2.2.2) else s) else (if s.2.2.2=0 then (s.1,s.2.1,s.2.2.1,y.id) else s)):=lH (by rw [HBT.out,if_neg (by rw [hle];simp),if_neg hke])
     clear HBT hke
     rcases hb2 with rfl | rfl
     ·by_cases hz:s.2.2.1=0
      ·have NF:Hid (nearF x i s y=(s.1,s.2.1,y.id,s.2.2.2)):=lH (by rw [HN.out,if_pos rfl,if_pos hz])
       clear HN
       go_wp2_with fail
       go_region
       go_wp2_with fail
       exact ⟨RR.out _ _ NF.out (HB.out.set 2 _) (KV.out.drew.setB (p:=⟨g7,2,none⟩) _ rfl),by simp [intOf];omega⟩
      ·have hzb:(s.2.2.1==0)=false:=by simpa using hz
       have NF:=lH (RR.out s w8 (by rw [HN.out,if_pos rfl,if_neg hz]) HB.out KV.out)
       clear HN hz
       go_wp2_with fail
       exact ⟨NF.out,by simp [intOf];omega⟩
     ·by_cases hz:s.2.2.2=0
      ·have NF:Hid (nearF x i s y=(s.1,s.2.1,s.2.2.1,y.id)):=lH (by rw [HN.out,if_neg (by omega),if_pos hz])
       clear HN
       go_wp2_with fail
       go_region
       go_wp2_with fail
       exact ⟨RR.out _ _ NF.out (HB.out.set 3 _) (KV.out.drew.setB (p:=⟨g7,3,none⟩) _ rfl),by simp [intOf];omega⟩
      ·have hzb:(s.2.2.2==0)=false:=by simpa using hz
       have NF:=lH (RR.out s w8 (by rw [HN.out,if_neg (by omega),if_neg hz]) HB.out KV.out)
       clear HN hz
       go_wp2_with fail
       exact ⟨NF.out,by simp [intOf];omega⟩
  ·obtain rfl:j=G.length:=by omega
   have FSn:Hid (s=nearG N x i):=lH (by rw [← FO.out,hs,List.take_of_length_le (Nat.le_refl _)])
   have r0:=B7.cell 0 _ rfl
   have r1:=B7.cell 1 _ rfl
   have r2:=B7.cell 2 _ rfl
   have r3:=B7.cell 3 _ rfl
   have Q6:=B6.out.nxb n67 kw
   have z0:=Q6.cell 0 _ rfl
   have z1:=Q6.cell 1 _ rfl
   have z2:=Q6.cell 2 _ rfl
   have z3:=Q6.cell 3 _ rfl
   have f0:=Q6.free 0
   have f1:=Q6.free 1
   have f2:=Q6.free 2
   have f3:=Q6.free 3
   have EF:Ex w wo:=(Exl.nxb (b:=g7) (w:=w) ⟨EX.out,hw7⟩ kw).1
   have KE:=lH ((((EF.setNew (p:=⟨g6,0,none⟩) (.int .i64 s.1) hw6).setNew (p:=⟨g6,1,none⟩) (.int .i64 s.2.1) hw6).setNew (p:=⟨g6,2,none⟩) (.int .i64 s.2.2.1) hw6).setNew (p:=⟨g6,3,none⟩) (.int .i64 s.2.2.2) hw6)
   clear hj hjl kw hs B7 Q6 EF
   go_wp2_with fail
   refine bodyPost_ret (v:=.agg #[.int .i64 s.1,.int .i64 s.2.1,.int .i64 s.2.2.1,.int .i64 s.2.2.2]) (by simp [results,Tryz.results105,go_sem, *]) rfl ⟨by rw [← FSn.out];rfl,KE.out⟩
def Acc (β lo hi:Nat) (w6 wr:World) (o:Value):Prop:=Chg (fun k=>k<hi∧(k<β∨lo≤k)) w6 wr∧hi≤wr.heap.size∧∀ g,o.ownBlock=some g→g<lo∨hi≤g
theorem Acc.start {β lo hi:Nat} {w:World} {o:Value} (hs:hi≤w.heap.size) (ho:∀ g,o.ownBlock=some g→g<lo∨hi≤g):Acc β lo hi w w o:=⟨Chg.refl _ _,hs,ho⟩
theorem Acc.step {β lo hi:Nat} {w6 wr w9:World} {o o':Value} (h:Acc β lo hi w6 wr o) (hb:∀ g,o.ownBlock=some g→β≤g) (k:Chg (fun k=>k<wr.heap.size∧¬ o.ownBlock=some k) wr w9) (ho:o'.ownBlock=o.ownBlock∨∀ g,o'.ownBlock=some g→wr.heap.size≤g):Acc β lo hi w6 w9 o':=by
 refine ⟨h.1.trans (k.mono fun x hx=>⟨Nat.lt_of_lt_of_le hx.1 h.2.1,fun hv=>?_⟩),Nat.le_trans h.2.1 k.size,fun g hg=>?_⟩
 ·have h1:=hb x hv
  have h2:=h.2.2 x hv
  have h3:=hx.2
  have h4:=hx.1
  omega
 ·rcases ho with h1 | h1
  ·exact h.2.2 g (by rw [← h1];exact hg)
  ·have:=h1 g hg;have:=h.2.1;omega
theorem Acc.nx {β lo hi:Nat} {w6 wr w9:World} {o:Value} (h:Acc β lo hi w6 wr o) (k:Ex wr w9):Acc β lo hi w6 w9 o :=
 ⟨h.1.trans (Chg.mono k fun x hx=>Nat.lt_of_lt_of_le hx.1 h.2.1),Nat.le_trans h.2.1 k.size,h.2.2⟩
theorem Acc.sl {α:Type} {sz n:Nat} {enc:α→List Value} {a:Option Addr} {l:List α} {β:Nat} {w5 w6 wr:World} {o:Value} (h:Acc β w5.heap.size w6.heap.size w6 wr o) (s:Slf sz enc w5 w6 a n l):Sl sz enc wr a n l :=
 (Rd.chg s h.1 (fun _ hk=>⟨hk.2,.inr hk.1⟩)).mono fun _ hk=>Nat.lt_of_lt_of_le hk.2 h.2.1
theorem Acc.ex {w2 w6 wr:World} {lo:Nat} {o:Value} (h:Acc w2.heap.size lo w6.heap.size w6 wr o) (k:Ex w2 w6):Ex w2 wr :=
 Chg.trans k (Chg.mono h.1 fun _ hk=>⟨Nat.lt_of_lt_of_le hk k.size,.inl hk⟩)
theorem OwnW.blk_lt {α:Type} {sz e base:Nat} {enc:α→List Value} {w:World} {v:Value} {l:List α} (h:OwnW sz enc e base w v l) {g:Nat} (hg:v.ownBlock=some g):g<w.heap.size:=by
 obtain ⟨_,cur,hh⟩:=h.blk hg
 exact heap_lt hh
end Go.Proofs.YthcholmhmcpooaaGreatDoor
