/- Texts for TopRepairProof. -/
import Derived.Test.YthcholmhmcpooaaGreatDoorTopRepairProofL21
set_option linter.unusedSimpArgs false
set_option linter.unusedVariables false

namespace Go.Proofs.YthcholmhmcpooaaGreatDoor
open Go.RowKit
def brkN (x:Nd) (lev:Int) (y:Nd):Bool:=y.id==x.id||sameN x.word y.word (lev+1)
def runStep (x:Nd) (lev:Int) (s:Nat×Nat) (y:Nd):Nat×Nat:=if brkN x lev y then (s.1,0) else (max s.1 (s.2+1),s.2+1)
def runF (x:Nd) (lev:Int) (G:List Nd):Nat×Nat:=G.foldl (runStep x lev) (0,0)
def runN (l:List Nd) (id lev:Int):Nat:=if checkN l=0∧(findN l id).2=true∧lvlN lev=true then (runF (findN l id).1 lev (thrG l id lev)).1 else 0
section
variable {x:Nd} {lev:Int}
theorem run_inv:∀ (G:List Nd) (s:Nat×Nat),s.2≤s.1→(G.foldl (runStep x lev) s).2≤(G.foldl (runStep x lev) s).1∧s.1≤(G.foldl (runStep x lev) s).1
 | [],s,h=>⟨h,Nat.le_refl _⟩
 | y::G,s,h=>by
  have h1:(runStep x lev s y).2≤(runStep x lev s y).1∧s.1≤(runStep x lev s y).1:=by
   unfold runStep
   split
   ·exact ⟨Nat.zero_le _,Nat.le_refl _⟩
   ·exact ⟨by show s.2+1≤max s.1 (s.2+1);omega,by show s.1≤max s.1 (s.2+1);omega⟩
  have:=run_inv G _ h1.1
  exact ⟨this.1,Nat.le_trans h1.2 this.2⟩
theorem run_q:∀ (Q:List Nd) (s:Nat×Nat),s.2≤s.1→(∀ y∈Q,brkN x lev y=false)→(Q.foldl (runStep x lev) s).2=s.2+Q.length
 | [],s,_,_=>rfl
 | y::Q,s,h,hQ=>by
  have e:runStep x lev s y=(max s.1 (s.2+1),s.2+1):=by unfold runStep;rw [hQ y (by simp)];rfl
  show (Q.foldl (runStep x lev) (runStep x lev s y)).2=_
  rw [e,run_q Q _ (by simp only;omega) (fun z hz=>hQ z (by simp [hz]))]
  simp only [List.length_cons]
  omega
theorem run_seg (A Q B:List Nd) (hQ:∀ y∈Q,brkN x lev y=false):Q.length≤(runF x lev (A++Q++B)).1:=by
 unfold runF
 rw [List.foldl_append,List.foldl_append]
 have h1:=run_inv (x:=x) (lev:=lev) A (0,0) (Nat.le_refl _)
 have h2:=run_q Q _ h1.1 hQ
 have h3:=run_inv (x:=x) (lev:=lev) Q _ h1.1
 have h4:=run_inv (x:=x) (lev:=lev) B _ h3.1
 omega
end
theorem runN_eq {l:List Nd} (h0:checkN l=0) {x:Nd} (hx:x∈l) {h:Nat} (hh:h≤16):runN l x.id h=(runF x h (grpS l h x.word)).1:=by
 have hf:=find_in h0 hx
 unfold runN thrG
 rw [hf,if_pos ⟨h0,rfl,by unfold lvlN;simp;omega⟩]
 rfl
namespace Lab
def joinL (lab:List Nat) (i j:Nat):List Nat:=(lab.set i (min (lab.getD i 0) (lab.getD j 0))).set j (min (lab.getD i 0) (lab.getD j 0))
def stepL (ids:List Int) (lab:List Nat) (q:Int×Int):List Nat:=match ids.findIdx? (·==q.1),ids.findIdx? (·==q.2) with
 | some i,some j=>joinL lab i j
 | _,_=>lab
def sweepL (ids:List Int) (E:List (Int×Int)) (lab:List Nat):List Nat:=E.foldl (stepL ids) lab
def labsL (ids:List Int) (E:List (Int×Int)):Nat→List Nat
 | 0=>List.range ids.length
 | t+1=>sweepL ids E (labsL ids E t)
def partsL (ids:List Int) (E:List (Int×Int)):Nat:=((List.range ids.length).filter fun i=>(labsL ids E ids.length).getD i 0==i).length
def Ed (ids:List Int) (E:List (Int×Int)) (i j:Nat):Prop:=∃ q∈E,ids.findIdx? (·==q.1)=some i∧ids.findIdx? (·==q.2)=some j
inductive Cn (ids:List Int) (E:List (Int×Int)):Nat→Nat→Prop
 | refl (i:Nat):Cn ids E i i
 | step {i j k:Nat}:Ed ids E i j∨Ed ids E j i→Cn ids E j k→Cn ids E i k
variable {ids:List Int} {E:List (Int×Int)}
theorem Cn.trans {i j k:Nat} (h:Cn ids E i j) (g:Cn ids E j k):Cn ids E i k:=by
 induction h with
 | refl _=>exact g
 | step h1 _ ih=>exact .step h1 (ih g)
theorem Cn.one {i j:Nat} (h:Ed ids E i j∨Ed ids E j i):Cn ids E i j:=.step h (.refl j)
theorem Cn.symm {i j:Nat} (h:Cn ids E i j):Cn ids E j i:=by
 induction h with
 | refl _=>exact .refl _
 | step h1 _ ih=>exact ih.trans (.one h1.symm)
theorem ed_lt {i j:Nat} (h:Ed ids E i j):i<ids.length∧j<ids.length:=by
 obtain ⟨q,_,h1,h2⟩:=h
 exact ⟨(List.findIdx?_eq_some_iff_getElem.1 h1).1,(List.findIdx?_eq_some_iff_getElem.1 h2).1⟩
theorem set_getD (l:List Nat) (i x k:Nat) (h:i<l.length):(l.set i x).getD k 0=if k=i then x else l.getD k 0:=by
 rw [List.getD_eq_getElem?_getD,List.getD_eq_getElem?_getD]
 by_cases hk:k=i
 ·subst hk;rw [if_pos rfl,List.getElem?_set_self h];rfl
 ·rw [if_neg hk,List.getElem?_set_ne (Ne.symm hk)]
theorem join_getD (lab:List Nat) (i j k:Nat) (hi:i<lab.length) (hj:j<lab.length):(joinL lab i j).getD k 0=if k=i∨k=j then min (lab.getD i 0) (lab.getD j 0) else lab.getD k 0:=by
 unfold joinL
 rw [set_getD _ _ _ _ (by simp;exact hj),set_getD _ _ _ _ hi]
 by_cases h1:k=j
 ·rw [if_pos h1,if_pos (.inr h1)]
 ·rw [if_neg h1]
  by_cases h2:k=i
  ·rw [if_pos h2,if_pos (.inl h2)]
  ·rw [if_neg h2,if_neg (by rintro (h | h);exact h2 h;exact h1 h)]
theorem join_len (lab:List Nat) (i j:Nat):(joinL lab i j).length=lab.length:=by unfold joinL;simp
def Okl (ids:List Int) (E:List (Int×Int)) (lab:List Nat):Prop:=lab.length=ids.length∧∀ i,i<ids.length→lab.getD i 0≤i∧Cn ids E i (lab.getD i 0)
def Lel (a b:List Nat):Prop:=∀ i,b.getD i 0≤a.getD i 0
theorem stepl_ok {lab:List Nat} (h:Okl ids E lab) {q:Int×Int} (hq:q∈E):Okl ids E (stepL ids lab q)∧Lel lab (stepL ids lab q):=by
 unfold stepL
 cases h1:ids.findIdx? (·==q.1) with
 | none=>exact ⟨h,fun i=>Nat.le_refl _⟩
 | some i =>
  cases h2:ids.findIdx? (·==q.2) with
  | none=>exact ⟨h,fun i=>Nat.le_refl _⟩
  | some j =>
   simp only
   have he:Ed ids E i j:=⟨q,hq,h1,h2⟩
   obtain ⟨hi,hj⟩:=ed_lt he
   have li:i<lab.length:=by rw [h.1];exact hi
   have lj:j<lab.length:=by rw [h.1];exact hj
   have ci:=h.2 i hi
   have cj:=h.2 j hj
   have hij:Cn ids E i j:=.one (.inl he)
   refine ⟨⟨by rw [join_len];exact h.1,fun k hk=>?_⟩,fun k=>?_⟩
   ·rw [join_getD lab i j k li lj]
    by_cases hkk:k=i∨k=j
    ·rw [if_pos hkk]
     rcases hkk with rfl | rfl
     ·refine ⟨by omega,?_⟩
      rcases Nat.le_total (lab.getD k 0) (lab.getD j 0) with h | h
      ·rw [Nat.min_eq_left h];exact ci.2
      ·rw [Nat.min_eq_right h];exact hij.trans cj.2
     ·refine ⟨by omega,?_⟩
      rcases Nat.le_total (lab.getD i 0) (lab.getD k 0) with h | h
      ·rw [Nat.min_eq_left h];exact hij.symm.trans ci.2
      ·rw [Nat.min_eq_right h];exact cj.2
    ·rw [if_neg hkk];exact h.2 k hk
   ·rw [join_getD lab i j k li lj]
    by_cases hkk:k=i∨k=j
    ·rw [if_pos hkk]
     rcases hkk with rfl | rfl<;>omega
    ·rw [if_neg hkk];exact Nat.le_refl _
theorem fold_ok:∀ (F:List (Int×Int)) (lab:List Nat),(∀ q∈F,q∈E)→Okl ids E lab→Okl ids E (F.foldl (stepL ids) lab)∧Lel lab (F.foldl (stepL ids) lab)
 | [],lab,_,h=>⟨h,fun _=>Nat.le_refl _⟩
 | q::F,lab,hF,h=>by
  obtain ⟨h1,h2⟩:=stepl_ok h (hF q (by simp))
  obtain ⟨h3,h4⟩:=fold_ok F _ (fun r hr=>hF r (by simp [hr])) h1
  exact ⟨h3,fun i=>Nat.le_trans (h4 i) (h2 i)⟩
theorem labs_ok:∀ t,Okl ids E (labsL ids E t)
 | 0=>⟨by simp [labsL],fun i hi=>by
   have:(labsL ids E 0).getD i 0=i:=by unfold labsL;rw [List.getD_eq_getElem?_getD,List.getElem?_range hi];rfl
   rw [this]
   exact ⟨Nat.le_refl _,.refl _⟩⟩
 | t+1=>(fold_ok E _ (fun _ h=>h) (labs_ok t)).1
theorem labs_le (t:Nat):Lel (labsL ids E t) (labsL ids E (t+1)):=(fold_ok E _ (fun _ h=>h) (labs_ok t)).2
theorem carry {c:Nat}:∀ (F:List (Int×Int)) (lab:List Nat),(∀ q∈F,q∈E)→Okl ids E lab→∀ {q:Int×Int} {i j:Nat},q∈F→ids.findIdx? (·==q.1)=some i→ids.findIdx? (·==q.2)=some j →
  (lab.getD i 0≤c∨lab.getD j 0≤c)→(F.foldl (stepL ids) lab).getD i 0≤c∧(F.foldl (stepL ids) lab).getD j 0≤c
 | [],_,_,_,_,_,_,hq,_,_,_=>by cases hq
 | r::F,lab,hF,h,q,i,j,hq,h1,h2,hc=>by
  have ho:=stepl_ok h (hF r (by simp))
  have hl:=(fold_ok F _ (fun r hr=>hF r (by simp [hr])) ho.1).2
  show (F.foldl (stepL ids) (stepL ids lab r)).getD i 0≤c∧(F.foldl (stepL ids) (stepL ids lab r)).getD j 0≤c
  rcases List.mem_cons.1 hq with rfl | hq
  ·have he:Ed ids E i j:=⟨q,hF q (by simp),h1,h2⟩
   obtain ⟨hi,hj⟩:=ed_lt he
   have li:i<lab.length:=by rw [h.1];exact hi
   have lj:j<lab.length:=by rw [h.1];exact hj
   have e:stepL ids lab q=joinL lab i j:=by unfold stepL;rw [h1,h2]
   have gi:(stepL ids lab q).getD i 0≤c:=by rw [e,join_getD lab i j i li lj,if_pos (.inl rfl)];omega
   have gj:(stepL ids lab q).getD j 0≤c:=by rw [e,join_getD lab i j j li lj,if_pos (.inr rfl)];omega
   exact ⟨Nat.le_trans (hl i) gi,Nat.le_trans (hl j) gj⟩
  ·refine carry F _ (fun r hr=>hF r (by simp [hr])) ho.1 hq h1 h2 ?_
   rcases hc with hc | hc
   ·exact .inl (Nat.le_trans (ho.2 i) hc)
   ·exact .inr (Nat.le_trans (ho.2 j) hc)
theorem carry_labs {c t i j:Nat} (he:Ed ids E i j∨Ed ids E j i) (hc:(labsL ids E t).getD i 0≤c):(labsL ids E (t+1)).getD j 0≤c:=by
 rcases he with ⟨q,hq,h1,h2⟩ | ⟨q,hq,h1,h2⟩
 ·exact (carry E _ (fun _ h=>h) (labs_ok t) hq h1 h2 (.inl hc)).2
 ·exact (carry E _ (fun _ h=>h) (labs_ok t) hq h1 h2 (.inr hc)).1
theorem border {P:Nat→Prop} (hdec:∀ i,P i∨¬ P i) {i j:Nat} (h:Cn ids E i j):P i→¬ P j→∃ u v,(Ed ids E u v∨Ed ids E v u)∧P u∧¬ P v∧Cn ids E i v:=by
 induction h with
 | refl _=>intro h1 h2;exact absurd h1 h2
 | step h1 g ih =>
  rename_i i k j
  intro hi hj
  rcases hdec k with hk | hk
  ·obtain ⟨u,v,h2,h3,h4,h5⟩:=ih hk hj
   exact ⟨u,v,h2,h3,h4,(Cn.one h1).trans h5⟩
  ·exact ⟨i,k,h1,hi,hk,.one h1⟩
theorem conv {c:Nat} (hc:c<ids.length) {j:Nat} (hj:j<ids.length) (h:Cn ids E c j):(labsL ids E ids.length).getD j 0≤c:=by
 -- the number of places that bear c or less grows until all of the component do
 have grow:∀ t,(∀ j,j<ids.length→Cn ids E c j→(labsL ids E t).getD j 0≤c)∨t+1≤((List.range ids.length).countP fun i=>decide ((labsL ids E t).getD i 0≤c)):=by
  intro t
  induction t with
  | zero =>
   right
   refine List.countP_pos_iff.2 ⟨c,by simpa using hc,?_⟩
   have:=((labs_ok (ids:=ids) (E:=E) 0).2 c hc).1
   simpa using this
  | succ t ih =>
   rcases ih with h | h
   ·left
    intro j hj hcj
    exact Nat.le_trans (labs_le t j) (h j hj hcj)
   ·by_cases hall:∀ j,j<ids.length→Cn ids E c j→(labsL ids E t).getD j 0≤c
    ·left
     intro j hj hcj
     exact Nat.le_trans (labs_le t j) (hall j hj hcj)
    ·right
     have hex:∃ j,j<ids.length∧Cn ids E c j∧¬ (labsL ids E t).getD j 0≤c:=by
      apply Classical.byContradiction
      intro hno
      exact hall fun j hj hcj=>Classical.byContradiction fun hn=>hno ⟨j,hj,hcj,hn⟩
     obtain ⟨j,hj,hcj,hn⟩:=hex
     obtain ⟨u,v,he,hu,hv,_⟩:=border (P:=fun i=>(labsL ids E t).getD i 0≤c) (fun i=>Classical.em _) hcj ((labs_ok (ids:=ids) (E:=E) t).2 c hc).1 hn
     have hvl:v<ids.length:=by rcases he with h | h;exact (ed_lt h).2;exact (ed_lt h).1
     have:=carry_labs he hu
     have hlt:((List.range ids.length).countP fun i=>decide ((labsL ids E t).getD i 0≤c))<((List.range ids.length).countP fun i=>decide ((labsL ids E (t+1)).getD i 0≤c)) :=
      count_lt (y:=v) (by simpa using hvl) (fun z hz=>by simp only [decide_eq_true_eq] at hz ⊢;exact Nat.le_trans (labs_le t z) hz) (by simpa using this) (by simpa using hv)
     omega
 rcases grow ids.length with g | g
 ·exact g j hj h
 ·have:((List.range ids.length).countP fun i=>decide ((labsL ids E ids.length).getD i 0≤c))≤(List.range ids.length).length:=List.countP_le_length
  rw [List.length_range] at this
  omega
theorem parts_le_one:partsL ids E≤1↔∀ i j,i<ids.length→j<ids.length→Cn ids E i j:=by
 have hp:partsL ids E=(List.range ids.length).countP fun i=>(labsL ids E ids.length).getD i 0==i:=(List.countP_eq_length_filter).symm
 constructor
 ·intro h i j hi hj
  -- the labels of both are the only place that bears itself
  have root:∀ k,k<ids.length→∃ c,c<ids.length∧Cn ids E k c∧(labsL ids E ids.length).getD c 0=c:=by
   intro k
   induction k using Nat.strongRecOn with
   | ind k ih =>
    intro hk
    obtain ⟨h1,h2⟩:=(labs_ok (ids:=ids) (E:=E) ids.length).2 k hk
    by_cases he:(labsL ids E ids.length).getD k 0=k
    ·exact ⟨k,hk,.refl _,he⟩
    ·obtain ⟨c,g1,g2,g3⟩:=ih ((labsL ids E ids.length).getD k 0) (by omega) (by omega)
     exact ⟨c,g1,h2.trans g2,g3⟩
  obtain ⟨a,a1,a2,a3⟩:=root i hi
  obtain ⟨b,b1,b2,b3⟩:=root j hj
  have hab:a=b:=by
   apply Classical.byContradiction
   intro hne
   rw [hp] at h
   have hmem:∀ {c},c<ids.length→(labsL ids E ids.length).getD c 0=c→c∈(List.range ids.length).filter fun i=>(labsL ids E ids.length).getD i 0==i:=fun h1 h2=>List.mem_filter.2 ⟨by simpa using h1,by simpa using h2⟩
   have ha:=hmem a1 a3
   have hb:=hmem b1 b3
   rw [List.countP_eq_length_filter] at h
   match hl:(List.range ids.length).filter (fun i=>(labsL ids E ids.length).getD i 0==i),h,ha,hb with
   | [],_,ha,_=>cases ha
   | [z],_,ha,hb =>
    have e1:=List.mem_singleton.1 ha
    have e2:=List.mem_singleton.1 hb
    exact hne (e1.trans e2.symm)
   | _::_::_,h,_,_=>simp at h
  subst hab
  exact a2.trans b2.symm
 ·intro h
  rw [hp]
  rcases Nat.eq_zero_or_pos ids.length with h0 | h0
  ·rw [h0];simp
  ·have hz:∀ i,i<ids.length→((labsL ids E ids.length).getD i 0==i)=(i==0):=by
    intro i hi
    have:=conv (E:=E) h0 hi (h 0 i h0 hi)
    rw [Bool.eq_iff_iff,beq_iff_eq,beq_iff_eq]
    omega
   have:((List.range ids.length).countP fun i=>(labsL ids E ids.length).getD i 0==i)=(List.range ids.length).countP fun i=>i==0:=by
    refine List.countP_congr fun i hi=>?_
    rw [hz i (by simpa using hi)]
   rw [this]
   have:(List.range ids.length).countP (fun i=>i==0)=(List.range ids.length).count 0:=rfl
   rw [this]
   have hnd:(List.range ids.length).Nodup:=List.nodup_range
   exact List.nodup_iff_count.1 hnd 0
end Lab
def pairsN (N:List Nd) (P:List Pr):List (Int×Int):=N.flatMap fun x=>(refsN N (peerN P x.id)).map fun v=>(x.id,v)
def InE (N:List Nd) (E:List (Int×Int)) (u v:Int):Prop:=(u,v)∈E∧(∃ x∈N,x.id=u)∧∃ y∈N,y.id=v
section
variable {N:List Nd} {E:List (Int×Int)}
theorem ids_get (h0:checkN N=0) {v:Int} {i:Nat}:(N.map Nd.id).findIdx? (·==v)=some i↔(N.map Nd.id)[i]?=some v:=by
 have hk:=check_keys h0
 constructor
 ·intro h
  obtain ⟨h1,h2,_⟩:=List.findIdx?_eq_some_iff_getElem.1 h
  rw [List.getElem?_eq_getElem h1]
  simpa using h2
 ·intro h
  obtain ⟨h1,h2⟩:=List.getElem?_eq_some_iff.1 h
  refine List.findIdx?_eq_some_iff_getElem.2 ⟨h1,by simpa using h2,fun j hj=>?_⟩
  have hjl:j<N.length:=by simp at h1;omega
  have hil:i<N.length:=by simpa using h1
  have:=(hk i j N[i] N[j] hj (List.getElem?_eq_getElem hil) (List.getElem?_eq_getElem hjl)).2
  simp only [List.getElem_map,beq_iff_eq] at h2 ⊢
  intro he
  exact this (h2.trans he.symm)
theorem ed_iff (h0:checkN N=0) {i j:Nat} {x y:Nd} (hx:N[i]?=some x) (hy:N[j]?=some y):Lab.Ed (N.map Nd.id) E i j↔InE N E x.id y.id:=by
 have hx':(N.map Nd.id)[i]?=some x.id:=by rw [List.getElem?_map,hx];rfl
 have hy':(N.map Nd.id)[j]?=some y.id:=by rw [List.getElem?_map,hy];rfl
 constructor
 ·rintro ⟨q,hq,h1,h2⟩
  have e1:=(ids_get h0).1 h1
  have e2:=(ids_get h0).1 h2
  rw [hx'] at e1
  rw [hy'] at e2
  cases q
  simp only [Option.some.injEq] at e1 e2
  subst e1 e2
  exact ⟨hq,⟨x,List.mem_of_getElem? hx,rfl⟩,y,List.mem_of_getElem? hy,rfl⟩
 ·rintro ⟨h,_,_⟩
  exact ⟨_,h,(ids_get h0).2 hx',(ids_get h0).2 hy'⟩
theorem node_get {i:Nat} (hi:i<(N.map Nd.id).length):∃ x,N[i]?=some x:=⟨N[i]'(by simpa using hi),by simp⟩
theorem cn_cl (h0:checkN N=0) {i j:Nat} (h:Lab.Cn (N.map Nd.id) E i j):∀ {x y:Nd},N[i]?=some x→N[j]?=some y→Cl (InE N E) x.id y.id:=by
 induction h with
 | refl i=>intro x y hx hy;rw [hx] at hy;cases hy;exact .refl _
 | step h1 g ih =>
  rename_i i k j
  intro x y hx hy
  obtain ⟨z,hz⟩:∃ z,N[k]?=some z:=node_get (by rcases h1 with h | h;exact (Lab.ed_lt h).2;exact (Lab.ed_lt h).1)
  exact (Cl.one (h1.imp (ed_iff h0 hx hz).1 (ed_iff h0 hz hx).1)).trans (ih hz hy)
theorem cl_cn (h0:checkN N=0) {u v:Int} (h:Cl (InE N E) u v):∀ {i j:Nat} {x y:Nd},N[i]?=some x→N[j]?=some y→x.id=u→y.id=v→Lab.Cn (N.map Nd.id) E i j:=by
 induction h with
 | refl u =>
  intro i j x y hx hy h1 h2
  have e1:(N.map Nd.id)[i]?=some u:=by rw [List.getElem?_map,hx,← h1];rfl
  have e2:(N.map Nd.id)[j]?=some u:=by rw [List.getElem?_map,hy,← h2];rfl
  have:=(ids_get h0).2 e1
  rw [(ids_get h0).2 e2] at this
  cases this
  exact .refl _
 | step h1 g ih =>
  rename_i u c v
  intro i j x y hx hy hxu hyv
  obtain ⟨z,hz,hzc⟩:∃ z∈N,z.id=c:=by
   rcases h1 with h | h
   ·exact h.2.2
   ·exact h.2.1
  obtain ⟨k,hk⟩:=List.mem_iff_getElem?.1 hz
  rw [← hxu,← hzc] at h1
  exact (Lab.Cn.one (h1.imp (ed_iff h0 hx hk).2 (ed_iff h0 hk hx).2)).trans (ih hk hy hzc hyv)
theorem joined_iff (h0:checkN N=0):Lab.partsL (N.map Nd.id) E≤1↔∀ x∈N,∀ y∈N,Cl (InE N E) x.id y.id:=by
 rw [Lab.parts_le_one]
 constructor
 ·intro h x hx y hy
  obtain ⟨i,hi⟩:=List.mem_iff_getElem?.1 hx
  obtain ⟨j,hj⟩:=List.mem_iff_getElem?.1 hy
  have li:=(List.getElem?_eq_some_iff.1 hi).1
  have lj:=(List.getElem?_eq_some_iff.1 hj).1
  exact cn_cl h0 (h i j (by simpa using li) (by simpa using lj)) hi hj
 ·intro h i j hi hj
  obtain ⟨x,hx⟩:=node_get hi
  obtain ⟨y,hy⟩:=node_get hj
  exact cl_cn h0 (h x (List.mem_of_getElem? hx) y (List.mem_of_getElem? hy)) hx hy rfl rfl
theorem pairs_in {P:List Pr} (h0:checkN N=0) {u v:Int}:InE N (pairsN N P) u v↔EdgeN N P u v:=by
 unfold InE pairsN
 simp only [List.mem_flatMap,List.mem_map,Prod.mk.injEq]
 constructor
 ·rintro ⟨⟨x,hx,w,hw,rfl,rfl⟩,_,_⟩
  exact ⟨⟨x,hx,rfl⟩,hw⟩
 ·rintro ⟨⟨x,hx,rfl⟩,hv⟩
  exact ⟨⟨x,hx,v,hv,rfl,rfl⟩,⟨x,hx,rfl⟩,((mem_refs h0).1 hv).1⟩
theorem conn_iff {P:List Pr} (h0:checkN N=0):Lab.partsL (N.map Nd.id) (pairsN N P)≤1↔ConnN N P:=by
 rw [joined_iff h0]
 constructor
 ·intro h
  exact ⟨h0,fun x hx y hy=>(h x hx y hy).mono (fun a b hab=>.one (.inl ((pairs_in h0).1 hab)))⟩
 ·rintro ⟨_,h⟩ x hx y hy
  exact (h x hx y hy).mono (fun a b hab=>.one (.inl ((pairs_in h0).2 hab)))
def connB (N:List Nd) (P:List Pr):Bool:=checkN N==0&&decide (Lab.partsL (N.map Nd.id) (pairsN N P)≤1)
theorem connB_iff {P:List Pr}:connB N P=true↔ConnN N P:=by
 unfold connB
 rw [Bool.and_eq_true,beq_iff_eq,decide_eq_true_eq]
 constructor
 ·rintro ⟨h1,h2⟩;exact (conn_iff h1).1 h2
 ·intro h;exact ⟨h.1,(conn_iff h.1).2 h⟩
end
def jt (left right id:Int) (q:Int×Int):Int×Int:=(if id=right then left else q.1,if id=left then right else q.2)
section
variable {N:List Nd}
end
def exactI (N:List Nd) (L:List Lkd) (h:Int):Bool:=(buildN N h).2==0&&decide (L=(buildN N h).1)
section
variable {N:List Nd}
end
section
variable {N:List Nd}
theorem build_row (h0:checkN N=0) {m:Nat} (hm:m≤16):(buildN N (m:Int)).1=(sortN N).map (rowN (sortN N) (m+1)):=by
 unfold buildN
 rw [if_neg (by rw [h0];simp),if_neg (by unfold lvlN;simp;omega)]
 rfl
theorem build_lv (h0:checkN N=0) {m:Nat} (hm:m≤16):∀ c∈(buildN N (m:Int)).1,c.2.length=m+1:=by
 intro c hc
 rw [build_row h0 hm] at hc
 obtain ⟨x,_,rfl⟩:=List.mem_map.1 hc
 unfold rowN
 simp
end
section
variable {N:List Nd}
theorem lvl_nat {m:Nat} (hm:m≤16):lvlN (m:Int)=true:=by unfold lvlN;simp;omega
theorem build_two (h0:checkN N=0) {m:Nat} (hm:m≤16):(buildN N (m:Int)).2=0:=by
 unfold buildN
 rw [if_neg (by rw [h0];simp),if_neg (by rw [lvl_nat hm];simp)]
theorem exact_build (h0:checkN N=0) {m:Nat} (hm:m≤16):exactI N (buildN N (m:Int)).1 m=true:=by
 unfold exactI
 rw [build_two h0 hm]
 simp
end
end Go.Proofs.YthcholmhmcpooaaGreatDoor
