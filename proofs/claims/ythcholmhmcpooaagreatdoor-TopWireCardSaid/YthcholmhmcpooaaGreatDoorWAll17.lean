/- Shared texts. -/
import Derived.Test.YthcholmhmcpooaaGreatDoorWAll16
set_option linter.unusedSimpArgs false
set_option linter.unusedVariables false

namespace Go.Proofs.YthcholmhmcpooaaGreatDoor
open Go.RowKit
namespace Lab
def joinL (lab:List Nat) (i j:Nat):List Nat:=(lab.set i (min (lab.getD i 0) (lab.getD j 0))).set j (min (lab.getD i 0) (lab.getD j 0))
def stepL (ids:List Int) (lab:List Nat) (q:Int×Int):List Nat:=match ids.findIdx? (·==q.1),ids.findIdx? (·==q.2) with
 | some i,some j=>joinL lab i j
 | _,_=>lab
def sweepL (ids:List Int) (E:List (Int×Int)) (lab:List Nat):List Nat:=E.foldl (stepL ids) lab
def labsL (ids:List Int) (E:List (Int×Int)):Nat→List Nat
 | 0=>List.range ids.length
 | t+1=>sweepL ids E (labsL ids E t)
def Ed (ids:List Int) (E:List (Int×Int)) (i j:Nat):Prop:=∃ q∈E,ids.findIdx? (·==q.1)=some i∧ids.findIdx? (·==q.2)=some j
inductive Cn (ids:List Int) (E:List (Int×Int)):Nat→Nat→Prop
 | refl (i:Nat):Cn ids E i i
 | step {i j k:Nat}:Ed ids E i j∨Ed ids E j i→Cn ids E j k→Cn ids E i k
variable {ids:List Int} {E:List (Int×Int)}
theorem Cn.trans {i j k:Nat} (h:Cn ids E i j) (g:Cn ids E j k):Cn ids E i k:=by
 induction h with
 | refl _=>exact g
 | step h1 _ ih=>exact .step h1 (ih g)
theorem Cn.one {i j:Nat} (h:Ed ids E i j∨Ed ids E j i):Cn ids E i j:=.step h (.refl j)
theorem Cn.symm {i j:Nat} (h:Cn ids E i j):Cn ids E j i:=by
 induction h with
 | refl _=>exact .refl _
 | step h1 _ ih=>exact ih.trans (.one h1.symm)
theorem ed_lt {i j:Nat} (h:Ed ids E i j):i<ids.length∧j<ids.length:=by
 obtain ⟨q,_,h1,h2⟩:=h
 exact ⟨(List.findIdx?_eq_some_iff_getElem.1 h1).1,(List.findIdx?_eq_some_iff_getElem.1 h2).1⟩
theorem set_getD (l:List Nat) (i x k:Nat) (h:i<l.length):(l.set i x).getD k 0=if k=i then x else l.getD k 0:=by
 rw [List.getD_eq_getElem?_getD,List.getD_eq_getElem?_getD]
 by_cases hk:k=i
 ·subst hk;rw [if_pos rfl,List.getElem?_set_self h];rfl
 ·rw [if_neg hk,List.getElem?_set_ne (Ne.symm hk)]
theorem join_getD (lab:List Nat) (i j k:Nat) (hi:i<lab.length) (hj:j<lab.length):(joinL lab i j).getD k 0=if k=i∨k=j then min (lab.getD i 0) (lab.getD j 0) else lab.getD k 0:=by
 unfold joinL
 rw [set_getD _ _ _ _ (by simp;exact hj),set_getD _ _ _ _ hi]
 by_cases h1:k=j
 ·rw [if_pos h1,if_pos (.inr h1)]
 ·rw [if_neg h1]
  by_cases h2:k=i
  ·rw [if_pos h2,if_pos (.inl h2)]
  ·rw [if_neg h2,if_neg (by rintro (h | h);exact h2 h;exact h1 h)]
theorem join_len (lab:List Nat) (i j:Nat):(joinL lab i j).length=lab.length:=by unfold joinL;simp
def Okl (ids:List Int) (E:List (Int×Int)) (lab:List Nat):Prop:=lab.length=ids.length∧∀ i,i<ids.length→lab.getD i 0≤i∧Cn ids E i (lab.getD i 0)
def Lel (a b:List Nat):Prop:=∀ i,b.getD i 0≤a.getD i 0
theorem stepl_ok {lab:List Nat} (h:Okl ids E lab) {q:Int×Int} (hq:q∈E):Okl ids E (stepL ids lab q)∧Lel lab (stepL ids lab q):=by
 unfold stepL
 cases h1:ids.findIdx? (·==q.1) with
 | none=>exact ⟨h,fun i=>Nat.le_refl _⟩
 | some i =>
  cases h2:ids.findIdx? (·==q.2) with
  | none=>exact ⟨h,fun i=>Nat.le_refl _⟩
  | some j =>
   simp only
   have he:Ed ids E i j:=⟨q,hq,h1,h2⟩
   obtain ⟨hi,hj⟩:=ed_lt he
   have li:i<lab.length:=by rw [h.1];exact hi
   have lj:j<lab.length:=by rw [h.1];exact hj
   have ci:=h.2 i hi
   have cj:=h.2 j hj
   have hij:Cn ids E i j:=.one (.inl he)
   refine ⟨⟨by rw [join_len];exact h.1,fun k hk=>?_⟩,fun k=>?_⟩
   ·rw [join_getD lab i j k li lj]
    by_cases hkk:k=i∨k=j
    ·rw [if_pos hkk]
     rcases hkk with rfl | rfl
     ·refine ⟨by omega,?_⟩
      rcases Nat.le_total (lab.getD k 0) (lab.getD j 0) with h | h
      ·rw [Nat.min_eq_left h];exact ci.2
      ·rw [Nat.min_eq_right h];exact hij.trans cj.2
     ·refine ⟨by omega,?_⟩
      rcases Nat.le_total (lab.getD i 0) (lab.getD k 0) with h | h
      ·rw [Nat.min_eq_left h];exact hij.symm.trans ci.2
      ·rw [Nat.min_eq_right h];exact cj.2
    ·rw [if_neg hkk];exact h.2 k hk
   ·rw [join_getD lab i j k li lj]
    by_cases hkk:k=i∨k=j
    ·rw [if_pos hkk]
     rcases hkk with rfl | rfl<;>omega
    ·rw [if_neg hkk];exact Nat.le_refl _
theorem fold_ok:∀ (F:List (Int×Int)) (lab:List Nat),(∀ q∈F,q∈E)→Okl ids E lab→Okl ids E (F.foldl (stepL ids) lab)∧Lel lab (F.foldl (stepL ids) lab)
 | [],lab,_,h=>⟨h,fun _=>Nat.le_refl _⟩
 | q::F,lab,hF,h=>by
  obtain ⟨h1,h2⟩:=stepl_ok h (hF q (by simp))
  obtain ⟨h3,h4⟩:=fold_ok F _ (fun r hr=>hF r (by simp [hr])) h1
  exact ⟨h3,fun i=>Nat.le_trans (h4 i) (h2 i)⟩
theorem labs_ok:∀ t,Okl ids E (labsL ids E t)
 | 0=>⟨by simp [labsL],fun i hi=>by
   have:(labsL ids E 0).getD i 0=i:=by unfold labsL;rw [List.getD_eq_getElem?_getD,List.getElem?_range hi];rfl
   rw [this]
   exact ⟨Nat.le_refl _,.refl _⟩⟩
 | t+1=>(fold_ok E _ (fun _ h=>h) (labs_ok t)).1
theorem labs_le (t:Nat):Lel (labsL ids E t) (labsL ids E (t+1)):=(fold_ok E _ (fun _ h=>h) (labs_ok t)).2
theorem carry {c:Nat}:∀ (F:List (Int×Int)) (lab:List Nat),(∀ q∈F,q∈E)→Okl ids E lab→∀ {q:Int×Int} {i j:Nat},q∈F→ids.findIdx? (·==q.1)=some i→ids.findIdx? (·==q.2)=some j →
  (lab.getD i 0≤c∨lab.getD j 0≤c)→(F.foldl (stepL ids) lab).getD i 0≤c∧(F.foldl (stepL ids) lab).getD j 0≤c
 | [],_,_,_,_,_,_,hq,_,_,_=>by cases hq
 | r::F,lab,hF,h,q,i,j,hq,h1,h2,hc=>by
  have ho:=stepl_ok h (hF r (by simp))
  have hl:=(fold_ok F _ (fun r hr=>hF r (by simp [hr])) ho.1).2
  show (F.foldl (stepL ids) (stepL ids lab r)).getD i 0≤c∧(F.foldl (stepL ids) (stepL ids lab r)).getD j 0≤c
  rcases List.mem_cons.1 hq with rfl | hq
  ·have he:Ed ids E i j:=⟨q,hF q (by simp),h1,h2⟩
   obtain ⟨hi,hj⟩:=ed_lt he
   have li:i<lab.length:=by rw [h.1];exact hi
   have lj:j<lab.length:=by rw [h.1];exact hj
   have e:stepL ids lab q=joinL lab i j:=by unfold stepL;rw [h1,h2]
   have gi:(stepL ids lab q).getD i 0≤c:=by rw [e,join_getD lab i j i li lj,if_pos (.inl rfl)];omega
   have gj:(stepL ids lab q).getD j 0≤c:=by rw [e,join_getD lab i j j li lj,if_pos (.inr rfl)];omega
   exact ⟨Nat.le_trans (hl i) gi,Nat.le_trans (hl j) gj⟩
  ·refine carry F _ (fun r hr=>hF r (by simp [hr])) ho.1 hq h1 h2 ?_
   rcases hc with hc | hc
   ·exact .inl (Nat.le_trans (ho.2 i) hc)
   ·exact .inr (Nat.le_trans (ho.2 j) hc)
theorem carry_labs {c t i j:Nat} (he:Ed ids E i j∨Ed ids E j i) (hc:(labsL ids E t).getD i 0≤c):(labsL ids E (t+1)).getD j 0≤c:=by
 rcases he with ⟨q,hq,h1,h2⟩ | ⟨q,hq,h1,h2⟩
 ·exact (carry E _ (fun _ h=>h) (labs_ok t) hq h1 h2 (.inl hc)).2
 ·exact (carry E _ (fun _ h=>h) (labs_ok t) hq h1 h2 (.inr hc)).1
theorem border {P:Nat→Prop} (hdec:∀ i,P i∨¬ P i) {i j:Nat} (h:Cn ids E i j):P i→¬ P j→∃ u v,(Ed ids E u v∨Ed ids E v u)∧P u∧¬ P v∧Cn ids E i v:=by
 induction h with
 | refl _=>intro h1 h2;exact absurd h1 h2
 | step h1 g ih =>
  rename_i i k j
  intro hi hj
  rcases hdec k with hk | hk
  ·obtain ⟨u,v,h2,h3,h4,h5⟩:=ih hk hj
   exact ⟨u,v,h2,h3,h4,(Cn.one h1).trans h5⟩
  ·exact ⟨i,k,h1,hi,hk,.one h1⟩
theorem conv {c:Nat} (hc:c<ids.length) {j:Nat} (hj:j<ids.length) (h:Cn ids E c j):(labsL ids E ids.length).getD j 0≤c:=by
 -- the number of places that bear c or less grows until all of the component do
 have grow:∀ t,(∀ j,j<ids.length→Cn ids E c j→(labsL ids E t).getD j 0≤c)∨t+1≤((List.range ids.length).countP fun i=>decide ((labsL ids E t).getD i 0≤c)):=by
  intro t
  induction t with
  | zero =>
   right
   refine List.countP_pos_iff.2 ⟨c,by simpa using hc,?_⟩
   have:=((labs_ok (ids:=ids) (E:=E) 0).2 c hc).1
   simpa using this
  | succ t ih =>
   rcases ih with h | h
   ·left
    intro j hj hcj
    exact Nat.le_trans (labs_le t j) (h j hj hcj)
   ·by_cases hall:∀ j,j<ids.length→Cn ids E c j→(labsL ids E t).getD j 0≤c
    ·left
     intro j hj hcj
     exact Nat.le_trans (labs_le t j) (hall j hj hcj)
    ·right
     have hex:∃ j,j<ids.length∧Cn ids E c j∧¬ (labsL ids E t).getD j 0≤c:=by
      apply Classical.byContradiction
      intro hno
      exact hall fun j hj hcj=>Classical.byContradiction fun hn=>hno ⟨j,hj,hcj,hn⟩
     obtain ⟨j,hj,hcj,hn⟩:=hex
     obtain ⟨u,v,he,hu,hv,_⟩:=border (P:=fun i=>(labsL ids E t).getD i 0≤c) (fun i=>Classical.em _) hcj ((labs_ok (ids:=ids) (E:=E) t).2 c hc).1 hn
     have hvl:v<ids.length:=by rcases he with h | h;exact (ed_lt h).2;exact (ed_lt h).1
     have:=carry_labs he hu
     have hlt:((List.range ids.length).countP fun i=>decide ((labsL ids E t).getD i 0≤c))<((List.range ids.length).countP fun i=>decide ((labsL ids E (t+1)).getD i 0≤c)) :=
      count_lt (y:=v) (by simpa using hvl) (fun z hz=>by simp only [decide_eq_true_eq] at hz ⊢;exact Nat.le_trans (labs_le t z) hz) (by simpa using this) (by simpa using hv)
     omega
 rcases grow ids.length with g | g
 ·exact g j hj h
 ·have:((List.range ids.length).countP fun i=>decide ((labsL ids E ids.length).getD i 0≤c))≤(List.range ids.length).length:=List.countP_le_length
  rw [List.length_range] at this
  omega
end Lab
def jt (left right id:Int) (q:Int×Int):Int×Int:=(if id=right then left else q.1,if id=left then right else q.2)
def setJ (left right:Int) (i:Nat) (c:Lkd):Lkd:=(c.1,c.2.modify i (jt left right c.1))
def joinJ (L:List Lkd) (left right:Int) (i:Nat):List Lkd:=L.map (setJ left right i)
theorem fold_modify {α:Type} (g:Nat→α→α):∀ (m:Nat) (ls:List α) (j:Nat),((List.range m).foldl (fun l i=>l.modify i (g i)) ls)[j]?=if j<m then ls[j]?.map (g j) else ls[j]?
 | 0,ls,j=>by simp
 | m+1,ls,j=>by
  rw [List.range_succ,List.foldl_append]
  simp only [List.foldl_cons,List.foldl_nil]
  rw [List.getElem?_modify,fold_modify g m ls j]
  by_cases h1:j<m
  ·rw [if_pos h1,if_pos (by omega)]
   have:¬ m=j:=by omega
   simp [this]
  ·rw [if_neg h1]
   by_cases h2:m=j
   ·subst h2
    rw [if_pos (by omega)]
    simp
   ·rw [if_neg (by omega)]
    simp [h2]
theorem fold_map {α:Type} (F:Nat→α→α):∀ (r:List Nat) (L:List α),r.foldl (fun L i=>L.map (F i)) L=L.map fun c=>r.foldl (fun c i=>F i c) c
 | [],L=>by simp
 | i::r,L=>by rw [List.foldl_cons,fold_map F r,List.map_map];rfl
section
variable {N:List Nd}
theorem mutual_nb (h0:checkN N=0) (hw:∀ x∈N,x.word<4294967296) {i:Nat} (hi:i≤16) {x z:Nd} (hx:x∈N) (hz:z∈N) :
  ((neighN N x.id i).1.1=z.id↔(neighN N z.id i).1.2=x.id):=by
 have hl:lvlN (i:Int)=true:=by unfold lvlN;simp;omega
 have left_right:∀ {x z:Nd},x∈N→z∈N→(neighN N x.id i).1.1=z.id→(neighN N z.id i).1.2=x.id:=by
  intro x z hx hz h
  obtain ⟨A,B,e⟩:=grp_at hx hl
  rw [neigh_split h0 hx hl e] at h
  rcases List.eq_nil_or_concat A with rfl | ⟨A',u,rfl⟩
  ·have:=check_id h0 hz
   have h:(0:Int)=z.id:=h
   omega
  ·rw [List.concat_eq_append] at *
   have hu:lastI (A'++[u])=u.id:=by unfold lastI;simp
   have huN:u∈N:=(grp_mem.1 (show u∈grpS N (i:Int) x.word by rw [e];simp)).1
   have:u=z:=ids_eq (check_keys h0) huN hz (hu.symm.trans h)
   subst this
   have eu:grpS N (i:Int) u.word=A'++u::x::B:=by
    rw [grp_same hw (x:=x) (i:=i) hx (by rw [e];simp),e];simp
   rw [neigh_split h0 hz hl eu]
   rfl
 refine ⟨left_right hx hz,fun h=>?_⟩
 obtain ⟨A,B,e⟩:=grp_at hz hl
 rw [neigh_split h0 hz hl e] at h
 cases B with
 | nil =>
  have:=check_id h0 hx
  have h:(0:Int)=x.id:=h
  omega
 | cons u B =>
  have huN:u∈N:=(grp_mem.1 (show u∈grpS N (i:Int) z.word by rw [e];simp)).1
  have:u=x:=ids_eq (check_keys h0) huN hx h
  subst this
  have eu:grpS N (i:Int) u.word=(A++[z])++u::B:=by
   rw [grp_same hw (x:=z) (i:=i) hz (by rw [e];simp),e];simp
  rw [neigh_split h0 hx hl eu]
  unfold lastI
  simp
theorem join_link (h0:checkN N=0) (hw:∀ x∈N,x.word<4294967296) {i:Nat} (hi:i≤16) {x z:Nd} (hx:x∈N) (hz:z∈dropN N x.id) :
  jt x.id (neighN N x.id i).1.2 z.id (jt (neighN N x.id i).1.1 x.id z.id (neighN (dropN N x.id) z.id i).1)=(neighN N z.id i).1:=by
 have hzN:z∈N:=(List.mem_filter.1 hz).1
 have hzx:z.id≠x.id:=by have:=(List.mem_filter.1 hz).2;simpa using this
 obtain ⟨_,_,_,h4,h5,_,_⟩:=loc_law h0 hw (h:=(i:Int)) (by unfold lvlN;simp;omega) hx hz
 have m1:=mutual_nb h0 hw hi hx hzN
 have m2:=mutual_nb h0 hw hi hzN hx
 unfold jt
 simp only
 rw [if_neg hzx,if_neg hzx]
 refine Prod.ext ?_ ?_
 ·show (if z.id=(neighN N x.id i).1.2 then x.id else (neighN (dropN N x.id) z.id i).1.1)=(neighN N z.id i).1.1
  by_cases h:z.id=(neighN N x.id i).1.2
  ·rw [if_pos h];exact (m2.2 h.symm).symm
  ·rw [if_neg h]
   apply Classical.byContradiction
   intro hne
   exact h (m2.1 (h4 fun e=>hne e.symm)).symm
 ·show (if z.id=(neighN N x.id i).1.1 then x.id else (neighN (dropN N x.id) z.id i).1.2)=(neighN N z.id i).1.2
  by_cases h:z.id=(neighN N x.id i).1.1
  ·rw [if_pos h];exact (m1.1 h.symm).symm
  ·rw [if_neg h]
   apply Classical.byContradiction
   intro hne
   exact h (m1.2 (h5 fun e=>hne e.symm)).symm
theorem own_link {x:Nd} (i:Nat) (h2:(neighN N x.id i).1.2≠x.id) (q:Int×Int):jt x.id (neighN N x.id i).1.2 x.id (jt (neighN N x.id i).1.1 x.id x.id q)=(neighN N x.id i).1:=by
 unfold jt
 simp only [if_true,if_neg (fun h:x.id=(neighN N x.id i).1.2=>h2 h.symm)]
theorem neigh_ne (h0:checkN N=0) {i:Nat} (hi:i≤16) {x:Nd} (hx:x∈N):(neighN N x.id i).1.1≠x.id∧(neighN N x.id i).1.2≠x.id:=by
 have hl:lvlN (i:Int)=true:=by unfold lvlN;simp;omega
 obtain ⟨A,B,e⟩:=grp_at hx hl
 obtain ⟨hA,hB⟩:=grp_parts h0 e
 have hx1:=check_id h0 hx
 rw [neigh_split h0 hx hl e]
 refine ⟨?_,?_⟩
 ·show lastI A≠x.id
  rcases List.eq_nil_or_concat A with rfl | ⟨A',u,rfl⟩
  ·show (0:Int)≠x.id;omega
  ·rw [List.concat_eq_append] at *
   have:lastI (A'++[u])=u.id:=by unfold lastI;simp
   rw [this]
   exact (hA u (by simp)).2
 ·show headI B≠x.id
  cases B with
  | nil=>show (0:Int)≠x.id;omega
  | cons u B=>exact (hB u (by simp)).2
theorem insert_law (h0:checkN N=0) (hw:∀ x∈N,x.word<4294967296) {h:Nat} (hh:h≤16) {x:Nd} (hx:x∈N) :
  (List.range (h+1)).foldl (fun (L:List Lkd) (i:Nat)=>joinJ (joinJ L (neighN N x.id i).1.1 x.id i) x.id (neighN N x.id i).1.2 i) ((sortN N).map fun z=>if z.id=x.id then (x.id,List.replicate (h+1) (0,0)) else rowN (sortN (dropN N x.id)) (h+1) z)=(buildN N (h:Int)).1:=by
 have hb:(buildN N (h:Int)).1=(sortN N).map (rowN (sortN N) (h+1)):=by
  unfold buildN
  rw [if_neg (by rw [h0];simp),if_neg (by unfold lvlN;simp;omega)]
  rfl
 rw [hb]
 have hF:∀ (L:List Lkd),(List.range (h+1)).foldl (fun (L:List Lkd) (i:Nat)=>joinJ (joinJ L (neighN N x.id i).1.1 x.id i) x.id (neighN N x.id i).1.2 i) L =
   L.map fun c=>(c.1,(List.range (h+1)).foldl (fun l i=>l.modify i (fun q=>jt x.id (neighN N x.id i).1.2 c.1 (jt (neighN N x.id i).1.1 x.id c.1 q))) c.2):=by
  intro L
  have e1:(fun (L:List Lkd) (i:Nat)=>joinJ (joinJ L (neighN N x.id i).1.1 x.id i) x.id (neighN N x.id i).1.2 i)=fun L i=>L.map fun c=>((c.1,c.2.modify i (fun q=>jt x.id (neighN N x.id i).1.2 c.1 (jt (neighN N x.id i).1.1 x.id c.1 q))):Lkd):=by
   funext L i
   unfold joinJ
   rw [List.map_map]
   refine List.map_congr_left fun c _=>?_
   unfold setJ
   simp only [Function.comp]
   refine Prod.ext rfl ?_
   show (c.2.modify i _).modify i _=c.2.modify i _
   apply List.ext_getElem?
   intro k
   simp only [List.getElem?_modify]
   cases c.2[k]? with
   | none=>rfl
   | some q=>by_cases hk:i=k<;>simp [hk]
  rw [e1,fold_map (fun i (c:Lkd)=>((c.1,c.2.modify i (fun q=>jt x.id (neighN N x.id i).1.2 c.1 (jt (neighN N x.id i).1.1 x.id c.1 q))):Lkd))]
  refine List.map_congr_left fun c _=>?_
  have key:∀ (r:List Nat) (d:Lkd),d.1=c.1→r.foldl (fun c i=>((c.1,c.2.modify i (fun q=>jt x.id (neighN N x.id i).1.2 c.1 (jt (neighN N x.id i).1.1 x.id c.1 q))):Lkd)) d=(c.1,r.foldl (fun l i=>l.modify i (fun q=>jt x.id (neighN N x.id i).1.2 c.1 (jt (neighN N x.id i).1.1 x.id c.1 q))) d.2):=by
   intro r
   induction r with
   | nil=>intro d hd;rw [← hd];rfl
   | cons i r ih =>
    intro d hd
    rw [List.foldl_cons]
    refine (ih (d.1,d.2.modify i fun q=>jt x.id (neighN N x.id i).1.2 d.1 (jt (neighN N x.id i).1.1 x.id d.1 q)) hd).trans ?_
    rw [hd]
    rfl
  exact key _ c rfl
 rw [hF,List.map_map]
 have h0s:checkN (sortN N)=0:=check_perm (sortN_perm N) h0
 have hnS:∀ {M:List Nd} (hM:checkN M=0) {z:Nd} (hz:z∈M) {i:Nat} (hi:i≤16),(neighN (sortN M) z.id i).1=(neighN M z.id i).1:=by
  intro M hM z hz i hi
  have hl:lvlN (i:Int)=true:=by unfold lvlN;simp;omega
  obtain ⟨A,B,e⟩:=grp_at hz hl
  have es:grpS (sortN M) i z.word=A++z::B:=by
   unfold grpS at e ⊢
   rw [sort_perm (sortN_perm M) hM];exact e
  rw [neigh_split hM hz hl e,neigh_split (check_perm (sortN_perm M) hM) ((sortN_mem M z).2 hz) hl es]
 refine List.map_congr_left fun z hz=>?_
 have hzN:=(sortN_mem N z).1 hz
 simp only [Function.comp]
 by_cases hzx:z.id=x.id
 ·have:z=x:=ids_eq (check_keys h0) hzN hx hzx
  subst this
  rw [if_pos rfl]
  unfold rowN
  refine Prod.ext rfl ?_
  apply List.ext_getElem?
  intro j
  show (List.foldl _ _ _)[j]?=_
  rw [fold_modify (fun i q=>jt z.id (neighN N z.id i).1.2 z.id (jt (neighN N z.id i).1.1 z.id z.id q)),List.getElem?_map]
  by_cases hj:j<h+1
  ·rw [if_pos hj,List.getElem?_range hj,List.getElem?_replicate,if_pos hj]
   simp only [Option.map_some]
   rw [own_link j (neigh_ne h0 (by omega) hx).2,hnS h0 hx (by omega)]
  ·rw [if_neg hj,List.getElem?_replicate,if_neg hj,List.getElem?_eq_none (by simpa using hj)]
   rfl
 ·rw [if_neg hzx]
  have hzD:z∈dropN N x.id:=List.mem_filter.2 ⟨hzN,by simpa using hzx⟩
  unfold rowN
  refine Prod.ext rfl ?_
  apply List.ext_getElem?
  intro j
  show (List.foldl _ _ _)[j]?=_
  rw [fold_modify (fun i q=>jt x.id (neighN N x.id i).1.2 z.id (jt (neighN N x.id i).1.1 x.id z.id q)),List.getElem?_map,List.getElem?_map]
  by_cases hj:j<h+1
  ·rw [if_pos hj,List.getElem?_range hj]
   simp only [Option.map_some]
   rw [hnS (drop_check h0 x.id) hzD (by omega),join_link h0 hw (by omega) hx hzD,hnS h0 hzN (by omega)]
  ·rw [if_neg hj,List.getElem?_eq_none (by simpa using hj)]
   rfl
end
def exactI (N:List Nd) (L:List Lkd) (h:Int):Bool:=(buildN N h).2==0&&decide (L=(buildN N h).1)
section
variable {N:List Nd}
theorem drop_last {x:Nd} (h0:checkN (N++[x])=0):dropN (N++[x]) x.id=N:=by
 have hk:=check_keys h0
 rw [drop_app,drop_none (fun y hy=>?_)]
 ·unfold dropN;simp
 ·obtain ⟨i,hi⟩:=List.mem_iff_getElem?.1 hy
  have hil:=(List.getElem?_eq_some_iff.1 hi).1
  have:=hk N.length i x y hil (by simp) (by rw [List.getElem?_append_left hil];exact hi)
  exact fun e=>this.2 e.symm
theorem ins_rows {x:Nd} (h0:checkN (N++[x])=0) {L:List Lkd} {h:Nat} (hh:h≤16) (hL:L=(buildN N (h:Int)).1) {r:Lkd} (hr:r=(x.id,List.replicate (h+1) (0,0))) :
  L.take (idxI (sortN (N++[x])) x.id)++r::L.drop (idxI (sortN (N++[x])) x.id)=(sortN (N++[x])).map fun z=>if z.id=x.id then (x.id,List.replicate (h+1) (0,0)) else rowN (sortN (dropN (N++[x]) x.id)) (h+1) z:=by
 have h1:checkN N=0:=by rw [← drop_last h0];exact drop_check h0 x.id
 have hb:(buildN N (h:Int)).1=(sortN N).map (rowN (sortN N) (h+1)):=by
  unfold buildN
  rw [if_neg (by rw [h1];simp),if_neg (by unfold lvlN;simp;omega)]
  rfl
 have hx:x∈sortN (N++[x]):=(sortN_mem _ x).2 (by simp)
 obtain ⟨A,B,e⟩:=List.append_of_mem hx
 have hs:=sortN_str h0
 have hi:idxI (sortN (N++[x])) x.id=A.length:=idxI_at hs (by rw [e];simp)
 have hAB:(∀ z∈A,z.id≠x.id)∧∀ z∈B,z.id≠x.id:=by
  have hp:=sort_ids h0
  rw [e] at hp
  have hq:=List.pairwise_append.1 hp
  exact ⟨fun z hz=>hq.2.2 z hz x (by simp),fun z hz=>((List.pairwise_cons.1 hq.2.1).1 z hz).symm⟩
 have hN:sortN N=A++B:=by
  have:=drop_sort h0 x.id
  rw [drop_last h0,e,drop_app,drop_none hAB.1] at this
  rw [this]
  have e2:dropN (x::B) x.id=B:=by
   have:=drop_none hAB.2
   unfold dropN at this ⊢
   rw [List.filter_cons_of_neg (by simp)]
   exact this
  rw [e2]
 rw [hi,drop_last h0,hL,hb,hN,e,hr]
 have hl:A.length=(A.map (rowN (A++B) (h+1))).length:=by simp
 rw [List.map_append,List.map_append,List.map_cons,if_pos rfl,hl,List.take_left,List.drop_left]
 congr 1
 ·exact List.map_congr_left fun z hz=>by rw [if_neg (hAB.1 z hz)]
 ·congr 1
  exact List.map_congr_left fun z hz=>by rw [if_neg (hAB.2 z hz)]
end
theorem joinJ_len (L:List Lkd) (a b:Int) (i:Nat):(joinJ L a b i).length=L.length:=by unfold joinJ;rw [List.length_map]
section
variable {N:List Nd}
theorem build_row (h0:checkN N=0) {m:Nat} (hm:m≤16):(buildN N (m:Int)).1=(sortN N).map (rowN (sortN N) (m+1)):=by
 unfold buildN
 rw [if_neg (by rw [h0];simp),if_neg (by unfold lvlN;simp;omega)]
 rfl
theorem build_fst (h0:checkN N=0) {m:Nat} (hm:m≤16):(buildN N (m:Int)).1.map Prod.fst=(sortN N).map Nd.id:=by
 rw [build_row h0 hm,List.map_map]
 rfl
theorem build_lv (h0:checkN N=0) {m:Nat} (hm:m≤16):∀ c∈(buildN N (m:Int)).1,c.2.length=m+1:=by
 intro c hc
 rw [build_row h0 hm] at hc
 obtain ⟨x,_,rfl⟩:=List.mem_map.1 hc
 unfold rowN
 simp
end
theorem check_sub {l l':List Nd} (hs:l'.Sublist l) (h0:checkN l=0):checkN l'=0:=by
 have hk:=keys_pw (check_keys h0)
 unfold checkN at h0 ⊢
 split at h0
 ·omega
 rename_i hlen
 split at h0
 ·omega
 rename_i hbad
 rw [if_neg (by have:=hs.length_le;omega),if_neg (by
  intro hb
  obtain ⟨x,hx,hxb⟩:=List.any_eq_true.1 hb
  exact hbad (List.any_eq_true.2 ⟨x,hs.subset hx,hxb⟩)),if_neg]
 intro hd
 obtain ⟨i,k,x,y,hki,hx,hy,he⟩:=(dupN_iff _).1 hd
 have h2:=hk.sublist hs
 obtain ⟨hi,e1⟩:=List.getElem?_eq_some_iff.1 hx
 obtain ⟨hk,e2⟩:=List.getElem?_eq_some_iff.1 hy
 have:=List.pairwise_iff_getElem.1 h2 k i hk hi hki
 rw [e1,e2] at this
 unfold eqN at he
 rcases Bool.or_eq_true_iff.1 he with h1 | h1
 ·exact this.2 (by simpa using (beq_iff_eq.1 h1).symm)
 ·exact this.1 (beq_iff_eq.1 h1).symm
section
variable {N:List Nd}
theorem lvl_nat {m:Nat} (hm:m≤16):lvlN (m:Int)=true:=by unfold lvlN;simp;omega
end
end Go.Proofs.YthcholmhmcpooaaGreatDoor
