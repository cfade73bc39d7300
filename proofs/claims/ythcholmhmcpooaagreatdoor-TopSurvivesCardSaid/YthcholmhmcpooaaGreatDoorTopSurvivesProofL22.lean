/- Texts for TopSurvivesProof. -/
import Derived.Test.YthcholmhmcpooaaGreatDoorTopSurvivesProofL18
set_option linter.unusedSimpArgs false
set_option linter.unusedVariables false

namespace Go.Proofs.YthcholmhmcpooaaGreatDoor
open Go.RowKit
namespace Lab
def joinL (lab:List Nat) (i j:Nat):List Nat:=(lab.set i (min (lab.getD i 0) (lab.getD j 0))).set j (min (lab.getD i 0) (lab.getD j 0))
def stepL (ids:List Int) (lab:List Nat) (q:Int×Int):List Nat:=match ids.findIdx? (·==q.1),ids.findIdx? (·==q.2) with
 | some i,some j=>joinL lab i j
 | _,_=>lab
def sweepL (ids:List Int) (E:List (Int×Int)) (lab:List Nat):List Nat:=E.foldl (stepL ids) lab
def labsL (ids:List Int) (E:List (Int×Int)):Nat→List Nat
 | 0=>List.range ids.length
 | t+1=>sweepL ids E (labsL ids E t)
def Ed (ids:List Int) (E:List (Int×Int)) (i j:Nat):Prop:=∃ q∈E,ids.findIdx? (·==q.1)=some i∧ids.findIdx? (·==q.2)=some j
inductive Cn (ids:List Int) (E:List (Int×Int)):Nat→Nat→Prop
 | refl (i:Nat):Cn ids E i i
 | step {i j k:Nat}:Ed ids E i j∨Ed ids E j i→Cn ids E j k→Cn ids E i k
variable {ids:List Int} {E:List (Int×Int)}
theorem Cn.trans {i j k:Nat} (h:Cn ids E i j) (g:Cn ids E j k):Cn ids E i k:=by
 induction h with
 | refl _=>exact g
 | step h1 _ ih=>exact .step h1 (ih g)
theorem Cn.one {i j:Nat} (h:Ed ids E i j∨Ed ids E j i):Cn ids E i j:=.step h (.refl j)
theorem Cn.symm {i j:Nat} (h:Cn ids E i j):Cn ids E j i:=by
 induction h with
 | refl _=>exact .refl _
 | step h1 _ ih=>exact ih.trans (.one h1.symm)
theorem ed_lt {i j:Nat} (h:Ed ids E i j):i<ids.length∧j<ids.length:=by
 obtain ⟨q,_,h1,h2⟩:=h
 exact ⟨(List.findIdx?_eq_some_iff_getElem.1 h1).1,(List.findIdx?_eq_some_iff_getElem.1 h2).1⟩
theorem set_getD (l:List Nat) (i x k:Nat) (h:i<l.length):(l.set i x).getD k 0=if k=i then x else l.getD k 0:=by
 rw [List.getD_eq_getElem?_getD,List.getD_eq_getElem?_getD]
 by_cases hk:k=i
 ·subst hk;rw [if_pos rfl,List.getElem?_set_self h];rfl
 ·rw [if_neg hk,List.getElem?_set_ne (Ne.symm hk)]
theorem join_getD (lab:List Nat) (i j k:Nat) (hi:i<lab.length) (hj:j<lab.length):(joinL lab i j).getD k 0=if k=i∨k=j then min (lab.getD i 0) (lab.getD j 0) else lab.getD k 0:=by
 unfold joinL
 rw [set_getD _ _ _ _ (by simp;exact hj),set_getD _ _ _ _ hi]
 by_cases h1:k=j
 ·rw [if_pos h1,if_pos (.inr h1)]
 ·rw [if_neg h1]
  by_cases h2:k=i
  ·rw [if_pos h2,if_pos (.inl h2)]
  ·rw [if_neg h2,if_neg (by rintro (h | h);exact h2 h;exact h1 h)]
theorem join_len (lab:List Nat) (i j:Nat):(joinL lab i j).length=lab.length:=by unfold joinL;simp
def Okl (ids:List Int) (E:List (Int×Int)) (lab:List Nat):Prop:=lab.length=ids.length∧∀ i,i<ids.length→lab.getD i 0≤i∧Cn ids E i (lab.getD i 0)
def Lel (a b:List Nat):Prop:=∀ i,b.getD i 0≤a.getD i 0
theorem stepl_ok {lab:List Nat} (h:Okl ids E lab) {q:Int×Int} (hq:q∈E):Okl ids E (stepL ids lab q)∧Lel lab (stepL ids lab q):=by
 unfold stepL
 cases h1:ids.findIdx? (·==q.1) with
 | none=>exact ⟨h,fun i=>Nat.le_refl _⟩
 | some i =>
  cases h2:ids.findIdx? (·==q.2) with
  | none=>exact ⟨h,fun i=>Nat.le_refl _⟩
  | some j =>
   simp only
   have he:Ed ids E i j:=⟨q,hq,h1,h2⟩
   obtain ⟨hi,hj⟩:=ed_lt he
   have li:i<lab.length:=by rw [h.1];exact hi
   have lj:j<lab.length:=by rw [h.1];exact hj
   have ci:=h.2 i hi
   have cj:=h.2 j hj
   have hij:Cn ids E i j:=.one (.inl he)
   refine ⟨⟨by rw [join_len];exact h.1,fun k hk=>?_⟩,fun k=>?_⟩
   ·rw [join_getD lab i j k li lj]
    by_cases hkk:k=i∨k=j
    ·rw [if_pos hkk]
     rcases hkk with rfl | rfl
     ·refine ⟨by omega,?_⟩
      rcases Nat.le_total (lab.getD k 0) (lab.getD j 0) with h | h
      ·rw [Nat.min_eq_left h];exact ci.2
      ·rw [Nat.min_eq_right h];exact hij.trans cj.2
     ·refine ⟨by omega,?_⟩
      rcases Nat.le_total (lab.getD i 0) (lab.getD k 0) with h | h
      ·rw [Nat.min_eq_left h];exact hij.symm.trans ci.2
      ·rw [Nat.min_eq_right h];exact cj.2
    ·rw [if_neg hkk];exact h.2 k hk
   ·rw [join_getD lab i j k li lj]
    by_cases hkk:k=i∨k=j
    ·rw [if_pos hkk]
     rcases hkk with rfl | rfl<;>omega
    ·rw [if_neg hkk];exact Nat.le_refl _
theorem fold_ok:∀ (F:List (Int×Int)) (lab:List Nat),(∀ q∈F,q∈E)→Okl ids E lab→Okl ids E (F.foldl (stepL ids) lab)∧Lel lab (F.foldl (stepL ids) lab)
 | [],lab,_,h=>⟨h,fun _=>Nat.le_refl _⟩
 | q::F,lab,hF,h=>by
  obtain ⟨h1,h2⟩:=stepl_ok h (hF q (by simp))
  obtain ⟨h3,h4⟩:=fold_ok F _ (fun r hr=>hF r (by simp [hr])) h1
  exact ⟨h3,fun i=>Nat.le_trans (h4 i) (h2 i)⟩
theorem labs_ok:∀ t,Okl ids E (labsL ids E t)
 | 0=>⟨by simp [labsL],fun i hi=>by
   have:(labsL ids E 0).getD i 0=i:=by unfold labsL;rw [List.getD_eq_getElem?_getD,List.getElem?_range hi];rfl
   rw [this]
   exact ⟨Nat.le_refl _,.refl _⟩⟩
 | t+1=>(fold_ok E _ (fun _ h=>h) (labs_ok t)).1
theorem labs_le (t:Nat):Lel (labsL ids E t) (labsL ids E (t+1)):=(fold_ok E _ (fun _ h=>h) (labs_ok t)).2
theorem carry {c:Nat}:∀ (F:List (Int×Int)) (lab:List Nat),(∀ q∈F,q∈E)→Okl ids E lab→∀ {q:Int×Int} {i j:Nat},q∈F→ids.findIdx? (·==q.1)=some i→ids.findIdx? (·==q.2)=some j →
  (lab.getD i 0≤c∨lab.getD j 0≤c)→(F.foldl (stepL ids) lab).getD i 0≤c∧(F.foldl (stepL ids) lab).getD j 0≤c
 | [],_,_,_,_,_,_,hq,_,_,_=>by cases hq
 | r::F,lab,hF,h,q,i,j,hq,h1,h2,hc=>by
  have ho:=stepl_ok h (hF r (by simp))
  have hl:=(fold_ok F _ (fun r hr=>hF r (by simp [hr])) ho.1).2
  show (F.foldl (stepL ids) (stepL ids lab r)).getD i 0≤c∧(F.foldl (stepL ids) (stepL ids lab r)).getD j 0≤c
  rcases List.mem_cons.1 hq with rfl | hq
  ·have he:Ed ids E i j:=⟨q,hF q (by simp),h1,h2⟩
   obtain ⟨hi,hj⟩:=ed_lt he
   have li:i<lab.length:=by rw [h.1];exact hi
   have lj:j<lab.length:=by rw [h.1];exact hj
   have e:stepL ids lab q=joinL lab i j:=by unfold stepL;rw [h1,h2]
   have gi:(stepL ids lab q).getD i 0≤c:=by rw [e,join_getD lab i j i li lj,if_pos (.inl rfl)];omega
   have gj:(stepL ids lab q).getD j 0≤c:=by rw [e,join_getD lab i j j li lj,if_pos (.inr rfl)];omega
   exact ⟨Nat.le_trans (hl i) gi,Nat.le_trans (hl j) gj⟩
  ·refine carry F _ (fun r hr=>hF r (by simp [hr])) ho.1 hq h1 h2 ?_
   rcases hc with hc | hc
   ·exact .inl (Nat.le_trans (ho.2 i) hc)
   ·exact .inr (Nat.le_trans (ho.2 j) hc)
theorem carry_labs {c t i j:Nat} (he:Ed ids E i j∨Ed ids E j i) (hc:(labsL ids E t).getD i 0≤c):(labsL ids E (t+1)).getD j 0≤c:=by
 rcases he with ⟨q,hq,h1,h2⟩ | ⟨q,hq,h1,h2⟩
 ·exact (carry E _ (fun _ h=>h) (labs_ok t) hq h1 h2 (.inl hc)).2
 ·exact (carry E _ (fun _ h=>h) (labs_ok t) hq h1 h2 (.inr hc)).1
theorem border {P:Nat→Prop} (hdec:∀ i,P i∨¬ P i) {i j:Nat} (h:Cn ids E i j):P i→¬ P j→∃ u v,(Ed ids E u v∨Ed ids E v u)∧P u∧¬ P v∧Cn ids E i v:=by
 induction h with
 | refl _=>intro h1 h2;exact absurd h1 h2
 | step h1 g ih =>
  rename_i i k j
  intro hi hj
  rcases hdec k with hk | hk
  ·obtain ⟨u,v,h2,h3,h4,h5⟩:=ih hk hj
   exact ⟨u,v,h2,h3,h4,(Cn.one h1).trans h5⟩
  ·exact ⟨i,k,h1,hi,hk,.one h1⟩
theorem conv {c:Nat} (hc:c<ids.length) {j:Nat} (hj:j<ids.length) (h:Cn ids E c j):(labsL ids E ids.length).getD j 0≤c:=by
 -- the number of places that bear c or less grows until all of the component do
 have grow:∀ t,(∀ j,j<ids.length→Cn ids E c j→(labsL ids E t).getD j 0≤c)∨t+1≤((List.range ids.length).countP fun i=>decide ((labsL ids E t).getD i 0≤c)):=by
  intro t
  induction t with
  | zero =>
   right
   refine List.countP_pos_iff.2 ⟨c,by simpa using hc,?_⟩
   have:=((labs_ok (ids:=ids) (E:=E) 0).2 c hc).1
   simpa using this
  | succ t ih =>
   rcases ih with h | h
   ·left
    intro j hj hcj
    exact Nat.le_trans (labs_le t j) (h j hj hcj)
   ·by_cases hall:∀ j,j<ids.length→Cn ids E c j→(labsL ids E t).getD j 0≤c
    ·left
     intro j hj hcj
     exact Nat.le_trans (labs_le t j) (hall j hj hcj)
    ·right
     have hex:∃ j,j<ids.length∧Cn ids E c j∧¬ (labsL ids E t).getD j 0≤c:=by
      apply Classical.byContradiction
      intro hno
      exact hall fun j hj hcj=>Classical.byContradiction fun hn=>hno ⟨j,hj,hcj,hn⟩
     obtain ⟨j,hj,hcj,hn⟩:=hex
     obtain ⟨u,v,he,hu,hv,_⟩:=border (P:=fun i=>(labsL ids E t).getD i 0≤c) (fun i=>Classical.em _) hcj ((labs_ok (ids:=ids) (E:=E) t).2 c hc).1 hn
     have hvl:v<ids.length:=by rcases he with h | h;exact (ed_lt h).2;exact (ed_lt h).1
     have:=carry_labs he hu
     have hlt:((List.range ids.length).countP fun i=>decide ((labsL ids E t).getD i 0≤c))<((List.range ids.length).countP fun i=>decide ((labsL ids E (t+1)).getD i 0≤c)) :=
      count_lt (y:=v) (by simpa using hvl) (fun z hz=>by simp only [decide_eq_true_eq] at hz ⊢;exact Nat.le_trans (labs_le t z) hz) (by simpa using this) (by simpa using hv)
     omega
 rcases grow ids.length with g | g
 ·exact g j hj h
 ·have:((List.range ids.length).countP fun i=>decide ((labsL ids E ids.length).getD i 0≤c))≤(List.range ids.length).length:=List.countP_le_length
  rw [List.length_range] at this
  omega
end Lab
end Go.Proofs.YthcholmhmcpooaaGreatDoor
