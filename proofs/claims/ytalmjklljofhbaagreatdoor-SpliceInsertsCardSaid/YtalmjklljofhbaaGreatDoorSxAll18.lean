/- Shared texts. -/
import Derived.Lib.SliceRun
import Derived.BigRegion
import Derived.Test.YtalmjklljofhbaaGreatDoorSxAll17
set_option linter.unusedSimpArgs false
set_option linter.unusedVariables false

namespace Go.Proofs.YtalmjklljofhbaaGreatDoor
open Go.RowKit
namespace Lab
def joinL (lab:List Nat) (i j:Nat):List Nat:=(lab.set i (min (lab.getD i 0) (lab.getD j 0))).set j (min (lab.getD i 0) (lab.getD j 0))
def stepL (ids:List Int) (lab:List Nat) (q:Int×Int):List Nat:=match ids.findIdx? (·==q.1),ids.findIdx? (·==q.2) with
 | some i,some j=>joinL lab i j
 | _,_=>lab
def sweepL (ids:List Int) (E:List (Int×Int)) (lab:List Nat):List Nat:=E.foldl (stepL ids) lab
def labsL (ids:List Int) (E:List (Int×Int)):Nat→List Nat
 | 0=>List.range ids.length
 | t+1=>sweepL ids E (labsL ids E t)
def Ed (ids:List Int) (E:List (Int×Int)) (i j:Nat):Prop:=∃ q∈E,ids.findIdx? (·==q.1)=some i∧ids.findIdx? (·==q.2)=some j
inductive Cn (ids:List Int) (E:List (Int×Int)):Nat→Nat→Prop
 | refl (i:Nat):Cn ids E i i
 | step {i j k:Nat}:Ed ids E i j∨Ed ids E j i→Cn ids E j k→Cn ids E i k
variable {ids:List Int} {E:List (Int×Int)}
theorem Cn.trans {i j k:Nat} (h:Cn ids E i j) (g:Cn ids E j k):Cn ids E i k:=by
 induction h with
 | refl _=>exact g
 | step h1 _ ih=>exact .step h1 (ih g)
theorem Cn.one {i j:Nat} (h:Ed ids E i j∨Ed ids E j i):Cn ids E i j:=.step h (.refl j)
theorem Cn.symm {i j:Nat} (h:Cn ids E i j):Cn ids E j i:=by
 induction h with
 | refl _=>exact .refl _
 | step h1 _ ih=>exact ih.trans (.one h1.symm)
theorem ed_lt {i j:Nat} (h:Ed ids E i j):i<ids.length∧j<ids.length:=by
 obtain ⟨q,_,h1,h2⟩:=h
 exact ⟨(List.findIdx?_eq_some_iff_getElem.1 h1).1,(List.findIdx?_eq_some_iff_getElem.1 h2).1⟩
theorem set_getD (l:List Nat) (i x k:Nat) (h:i<l.length):(l.set i x).getD k 0=if k=i then x else l.getD k 0:=by
 rw [List.getD_eq_getElem?_getD,List.getD_eq_getElem?_getD]
 by_cases hk:k=i
 ·subst hk;rw [if_pos rfl,List.getElem?_set_self h];rfl
 ·rw [if_neg hk,List.getElem?_set_ne (Ne.symm hk)]
theorem join_getD (lab:List Nat) (i j k:Nat) (hi:i<lab.length) (hj:j<lab.length):(joinL lab i j).getD k 0=if k=i∨k=j then min (lab.getD i 0) (lab.getD j 0) else lab.getD k 0:=by
 unfold joinL
 rw [set_getD _ _ _ _ (by simp;exact hj),set_getD _ _ _ _ hi]
 by_cases h1:k=j
 ·rw [if_pos h1,if_pos (.inr h1)]
 ·rw [if_neg h1]
  by_cases h2:k=i
  ·rw [if_pos h2,if_pos (.inl h2)]
  ·rw [if_neg h2,if_neg (by rintro (h | h);exact h2 h;exact h1 h)]
theorem join_len (lab:List Nat) (i j:Nat):(joinL lab i j).length=lab.length:=by unfold joinL;simp
def Okl (ids:List Int) (E:List (Int×Int)) (lab:List Nat):Prop:=lab.length=ids.length∧∀ i,i<ids.length→lab.getD i 0≤i∧Cn ids E i (lab.getD i 0)
def Lel (a b:List Nat):Prop:=∀ i,b.getD i 0≤a.getD i 0
theorem stepl_ok {lab:List Nat} (h:Okl ids E lab) {q:Int×Int} (hq:q∈E):Okl ids E (stepL ids lab q)∧Lel lab (stepL ids lab q):=by
 unfold stepL
 cases h1:ids.findIdx? (·==q.1) with
 | none=>exact ⟨h,fun i=>Nat.le_refl _⟩
 | some i =>
  cases h2:ids.findIdx? (·==q.2) with
  | none=>exact ⟨h,fun i=>Nat.le_refl _⟩
  | some j =>
   simp only
   have he:Ed ids E i j:=⟨q,hq,h1,h2⟩
   obtain ⟨hi,hj⟩:=ed_lt he
   have li:i<lab.length:=by rw [h.1];exact hi
   have lj:j<lab.length:=by rw [h.1];exact hj
   have ci:=h.2 i hi
   have cj:=h.2 j hj
   have hij:Cn ids E i j:=.one (.inl he)
   refine ⟨⟨by rw [join_len];exact h.1,fun k hk=>?_⟩,fun k=>?_⟩
   ·rw [join_getD lab i j k li lj]
    by_cases hkk:k=i∨k=j
    ·rw [if_pos hkk]
     rcases hkk with rfl | rfl
     ·refine ⟨by omega,?_⟩
      rcases Nat.le_total (lab.getD k 0) (lab.getD j 0) with h | h
      ·rw [Nat.min_eq_left h];exact ci.2
      ·rw [Nat.min_eq_right h];exact hij.trans cj.2
     ·refine ⟨by omega,?_⟩
      rcases Nat.le_total (lab.getD i 0) (lab.getD k 0) with h | h
      ·rw [Nat.min_eq_left h];exact hij.symm.trans ci.2
      ·rw [Nat.min_eq_right h];exact cj.2
    ·rw [if_neg hkk];exact h.2 k hk
   ·rw [join_getD lab i j k li lj]
    by_cases hkk:k=i∨k=j
    ·rw [if_pos hkk]
     rcases hkk with rfl | rfl<;>omega
    ·rw [if_neg hkk];exact Nat.le_refl _
theorem fold_ok:∀ (F:List (Int×Int)) (lab:List Nat),(∀ q∈F,q∈E)→Okl ids E lab→Okl ids E (F.foldl (stepL ids) lab)∧Lel lab (F.foldl (stepL ids) lab)
 | [],lab,_,h=>⟨h,fun _=>Nat.le_refl _⟩
 | q::F,lab,hF,h=>by
  obtain ⟨h1,h2⟩:=stepl_ok h (hF q (by simp))
  obtain ⟨h3,h4⟩:=fold_ok F _ (fun r hr=>hF r (by simp [hr])) h1
  exact ⟨h3,fun i=>Nat.le_trans (h4 i) (h2 i)⟩
theorem labs_ok:∀ t,Okl ids E (labsL ids E t)
 | 0=>⟨by simp [labsL],fun i hi=>by
   have:(labsL ids E 0).getD i 0=i:=by unfold labsL;rw [List.getD_eq_getElem?_getD,List.getElem?_range hi];rfl
   rw [this]
   exact ⟨Nat.le_refl _,.refl _⟩⟩
 | t+1=>(fold_ok E _ (fun _ h=>h) (labs_ok t)).1
theorem labs_le (t:Nat):Lel (labsL ids E t) (labsL ids E (t+1)):=(fold_ok E _ (fun _ h=>h) (labs_ok t)).2
theorem carry {c:Nat}:∀ (F:List (Int×Int)) (lab:List Nat),(∀ q∈F,q∈E)→Okl ids E lab→∀ {q:Int×Int} {i j:Nat},q∈F→ids.findIdx? (·==q.1)=some i→ids.findIdx? (·==q.2)=some j →
  (lab.getD i 0≤c∨lab.getD j 0≤c)→(F.foldl (stepL ids) lab).getD i 0≤c∧(F.foldl (stepL ids) lab).getD j 0≤c
 | [],_,_,_,_,_,_,hq,_,_,_=>by cases hq
 | r::F,lab,hF,h,q,i,j,hq,h1,h2,hc=>by
  have ho:=stepl_ok h (hF r (by simp))
  have hl:=(fold_ok F _ (fun r hr=>hF r (by simp [hr])) ho.1).2
  show (F.foldl (stepL ids) (stepL ids lab r)).getD i 0≤c∧(F.foldl (stepL ids) (stepL ids lab r)).getD j 0≤c
  rcases List.mem_cons.1 hq with rfl | hq
  ·have he:Ed ids E i j:=⟨q,hF q (by simp),h1,h2⟩
   obtain ⟨hi,hj⟩:=ed_lt he
   have li:i<lab.length:=by rw [h.1];exact hi
   have lj:j<lab.length:=by rw [h.1];exact hj
   have e:stepL ids lab q=joinL lab i j:=by unfold stepL;rw [h1,h2]
   have gi:(stepL ids lab q).getD i 0≤c:=by rw [e,join_getD lab i j i li lj,if_pos (.inl rfl)];omega
   have gj:(stepL ids lab q).getD j 0≤c:=by rw [e,join_getD lab i j j li lj,if_pos (.inr rfl)];omega
   exact ⟨Nat.le_trans (hl i) gi,Nat.le_trans (hl j) gj⟩
  ·refine carry F _ (fun r hr=>hF r (by simp [hr])) ho.1 hq h1 h2 ?_
   rcases hc with hc | hc
   ·exact .inl (Nat.le_trans (ho.2 i) hc)
   ·exact .inr (Nat.le_trans (ho.2 j) hc)
theorem carry_labs {c t i j:Nat} (he:Ed ids E i j∨Ed ids E j i) (hc:(labsL ids E t).getD i 0≤c):(labsL ids E (t+1)).getD j 0≤c:=by
 rcases he with ⟨q,hq,h1,h2⟩ | ⟨q,hq,h1,h2⟩
 ·exact (carry E _ (fun _ h=>h) (labs_ok t) hq h1 h2 (.inl hc)).2
 ·exact (carry E _ (fun _ h=>h) (labs_ok t) hq h1 h2 (.inr hc)).1
theorem border {P:Nat→Prop} (hdec:∀ i,P i∨¬ P i) {i j:Nat} (h:Cn ids E i j):P i→¬ P j→∃ u v,(Ed ids E u v∨Ed ids E v u)∧P u∧¬ P v∧Cn ids E i v:=by
 induction h with
 | refl _=>intro h1 h2;exact absurd h1 h2
 | step h1 g ih =>
  rename_i i k j
  intro hi hj
  rcases hdec k with hk | hk
  ·obtain ⟨u,v,h2,h3,h4,h5⟩:=ih hk hj
   exact ⟨u,v,h2,h3,h4,(Cn.one h1).trans h5⟩
  ·exact ⟨i,k,h1,hi,hk,.one h1⟩
theorem conv {c:Nat} (hc:c<ids.length) {j:Nat} (hj:j<ids.length) (h:Cn ids E c j):(labsL ids E ids.length).getD j 0≤c:=by
 -- the number of places that bear c or less grows until all of the component do
 have grow:∀ t,(∀ j,j<ids.length→Cn ids E c j→(labsL ids E t).getD j 0≤c)∨t+1≤((List.range ids.length).countP fun i=>decide ((labsL ids E t).getD i 0≤c)):=by
  intro t
  induction t with
  | zero =>
   right
   refine List.countP_pos_iff.2 ⟨c,by simpa using hc,?_⟩
   have:=((labs_ok (ids:=ids) (E:=E) 0).2 c hc).1
   simpa using this
  | succ t ih =>
   rcases ih with h | h
   ·left
    intro j hj hcj
    exact Nat.le_trans (labs_le t j) (h j hj hcj)
   ·by_cases hall:∀ j,j<ids.length→Cn ids E c j→(labsL ids E t).getD j 0≤c
    ·left
     intro j hj hcj
     exact Nat.le_trans (labs_le t j) (hall j hj hcj)
    ·right
     have hex:∃ j,j<ids.length∧Cn ids E c j∧¬ (labsL ids E t).getD j 0≤c:=by
      apply Classical.byContradiction
      intro hno
      exact hall fun j hj hcj=>Classical.byContradiction fun hn=>hno ⟨j,hj,hcj,hn⟩
     obtain ⟨j,hj,hcj,hn⟩:=hex
     obtain ⟨u,v,he,hu,hv,_⟩:=border (P:=fun i=>(labsL ids E t).getD i 0≤c) (fun i=>Classical.em _) hcj ((labs_ok (ids:=ids) (E:=E) t).2 c hc).1 hn
     have hvl:v<ids.length:=by rcases he with h | h;exact (ed_lt h).2;exact (ed_lt h).1
     have:=carry_labs he hu
     have hlt:((List.range ids.length).countP fun i=>decide ((labsL ids E t).getD i 0≤c))<((List.range ids.length).countP fun i=>decide ((labsL ids E (t+1)).getD i 0≤c)) :=
      count_lt (y:=v) (by simpa using hvl) (fun z hz=>by simp only [decide_eq_true_eq] at hz ⊢;exact Nat.le_trans (labs_le t z) hz) (by simpa using this) (by simpa using hv)
     omega
 rcases grow ids.length with g | g
 ·exact g j hj h
 ·have:((List.range ids.length).countP fun i=>decide ((labsL ids E ids.length).getD i 0≤c))≤(List.range ids.length).length:=List.countP_le_length
  rw [List.length_range] at this
  omega
end Lab
structure Fl where
 peers:List Pr
 msgs:List (Int×Int)
def nodeB (N:List Nd) (v:Int):Prop:=∃ x∈N,x.id=v
section
variable {N:List Nd} {f:Fl}
end
section
variable {N:List Nd} {f g:Fl}
def DelTo (N:List Nd) (f g:Fl) (D:List (Int×Int)):Prop :=
 (∀ x∈N,(peerN g.peers x.id).left=(peerN f.peers x.id).left∧(peerN g.peers x.id).right=(peerN f.peers x.id).right∧(peerN g.peers x.id).near=(peerN f.peers x.id).near ∧
  ∀ v,nodeB N v→v≠x.id→(v∈(peerN g.peers x.id).known↔v∈(peerN f.peers x.id).known∨(x.id,v)∈D))∧∀ m,m∈f.msgs↔m∈g.msgs∨m∈D
theorem DelTo.refl (N:List Nd) (f:Fl):DelTo N f f []:=⟨fun x hx=>⟨rfl,rfl,rfl,fun v _ _=>by simp⟩,fun m=>by simp⟩
end
def jt (left right id:Int) (q:Int×Int):Int×Int:=(if id=right then left else q.1,if id=left then right else q.2)
def setJ (left right:Int) (i:Nat) (c:Lkd):Lkd:=(c.1,c.2.modify i (jt left right c.1))
def joinJ (L:List Lkd) (left right:Int) (i:Nat):List Lkd:=L.map (setJ left right i)
theorem fold_modify {α:Type} (g:Nat→α→α):∀ (m:Nat) (ls:List α) (j:Nat),((List.range m).foldl (fun l i=>l.modify i (g i)) ls)[j]?=if j<m then ls[j]?.map (g j) else ls[j]?
 | 0,ls,j=>by simp
 | m+1,ls,j=>by
  rw [List.range_succ,List.foldl_append]
  simp only [List.foldl_cons,List.foldl_nil]
  rw [List.getElem?_modify,fold_modify g m ls j]
  by_cases h1:j<m
  ·rw [if_pos h1,if_pos (by omega)]
   have:¬ m=j:=by omega
   simp [this]
  ·rw [if_neg h1]
   by_cases h2:m=j
   ·subst h2
    rw [if_pos (by omega)]
    simp
   ·rw [if_neg (by omega)]
    simp [h2]
theorem fold_map {α:Type} (F:Nat→α→α):∀ (r:List Nat) (L:List α),r.foldl (fun L i=>L.map (F i)) L=L.map fun c=>r.foldl (fun c i=>F i c) c
 | [],L=>by simp
 | i::r,L=>by rw [List.foldl_cons,fold_map F r,List.map_map];rfl
section
variable {N:List Nd}
theorem mutual_nb (h0:checkN N=0) (hw:∀ x∈N,x.word<4294967296) {i:Nat} (hi:i≤16) {x z:Nd} (hx:x∈N) (hz:z∈N) :
  ((neighN N x.id i).1.1=z.id↔(neighN N z.id i).1.2=x.id):=by
 have hl:lvlN (i:Int)=true:=by unfold lvlN;simp;omega
 have left_right:∀ {x z:Nd},x∈N→z∈N→(neighN N x.id i).1.1=z.id→(neighN N z.id i).1.2=x.id:=by
  intro x z hx hz h
  obtain ⟨A,B,e⟩:=grp_at hx hl
  rw [neigh_split h0 hx hl e] at h
  rcases List.eq_nil_or_concat A with rfl | ⟨A',u,rfl⟩
  ·have:=check_id h0 hz
   have h:(0:Int)=z.id:=h
   omega
  ·rw [List.concat_eq_append] at *
   have hu:lastI (A'++[u])=u.id:=by unfold lastI;simp
   have huN:u∈N:=(grp_mem.1 (show u∈grpS N (i:Int) x.word by rw [e];simp)).1
   have:u=z:=ids_eq (check_keys h0) huN hz (hu.symm.trans h)
   subst this
   have eu:grpS N (i:Int) u.word=A'++u::x::B:=by
    rw [grp_same hw (x:=x) (i:=i) hx (by rw [e];simp),e];simp
   rw [neigh_split h0 hz hl eu]
   rfl
 refine ⟨left_right hx hz,fun h=>?_⟩
 obtain ⟨A,B,e⟩:=grp_at hz hl
 rw [neigh_split h0 hz hl e] at h
 cases B with
 | nil =>
  have:=check_id h0 hx
  have h:(0:Int)=x.id:=h
  omega
 | cons u B =>
  have huN:u∈N:=(grp_mem.1 (show u∈grpS N (i:Int) z.word by rw [e];simp)).1
  have:u=x:=ids_eq (check_keys h0) huN hx h
  subst this
  have eu:grpS N (i:Int) u.word=(A++[z])++u::B:=by
   rw [grp_same hw (x:=z) (i:=i) hz (by rw [e];simp),e];simp
  rw [neigh_split h0 hx hl eu]
  unfold lastI
  simp
theorem join_link (h0:checkN N=0) (hw:∀ x∈N,x.word<4294967296) {i:Nat} (hi:i≤16) {x z:Nd} (hx:x∈N) (hz:z∈dropN N x.id) :
  jt x.id (neighN N x.id i).1.2 z.id (jt (neighN N x.id i).1.1 x.id z.id (neighN (dropN N x.id) z.id i).1)=(neighN N z.id i).1:=by
 have hzN:z∈N:=(List.mem_filter.1 hz).1
 have hzx:z.id≠x.id:=by have:=(List.mem_filter.1 hz).2;simpa using this
 obtain ⟨_,_,_,h4,h5,_,_⟩:=loc_law h0 hw (h:=(i:Int)) (by unfold lvlN;simp;omega) hx hz
 have m1:=mutual_nb h0 hw hi hx hzN
 have m2:=mutual_nb h0 hw hi hzN hx
 unfold jt
 simp only
 rw [if_neg hzx,if_neg hzx]
 refine Prod.ext ?_ ?_
 ·show (if z.id=(neighN N x.id i).1.2 then x.id else (neighN (dropN N x.id) z.id i).1.1)=(neighN N z.id i).1.1
  by_cases h:z.id=(neighN N x.id i).1.2
  ·rw [if_pos h];exact (m2.2 h.symm).symm
  ·rw [if_neg h]
   apply Classical.byContradiction
   intro hne
   exact h (m2.1 (h4 fun e=>hne e.symm)).symm
 ·show (if z.id=(neighN N x.id i).1.1 then x.id else (neighN (dropN N x.id) z.id i).1.2)=(neighN N z.id i).1.2
  by_cases h:z.id=(neighN N x.id i).1.1
  ·rw [if_pos h];exact (m1.1 h.symm).symm
  ·rw [if_neg h]
   apply Classical.byContradiction
   intro hne
   exact h (m1.2 (h5 fun e=>hne e.symm)).symm
theorem leave_link (h0:checkN N=0) (hw:∀ x∈N,x.word<4294967296) {i:Nat} (hi:i≤16) {x z:Nd} (hx:x∈N) (hz:z∈dropN N x.id) :
  jt (neighN N x.id i).1.1 (neighN N x.id i).1.2 z.id (neighN N z.id i).1=(neighN (dropN N x.id) z.id i).1:=by
 have hzN:z∈N:=(List.mem_filter.1 hz).1
 obtain ⟨_,_,_,h4,h5,h6,h7⟩:=loc_law h0 hw (h:=(i:Int)) (by unfold lvlN;simp;omega) hx hz
 have m1:=mutual_nb h0 hw hi hx hzN
 have m2:=mutual_nb h0 hw hi hzN hx
 unfold jt
 refine Prod.ext ?_ ?_
 ·show (if z.id=(neighN N x.id i).1.2 then (neighN N x.id i).1.1 else (neighN N z.id i).1.1)=_
  by_cases h:z.id=(neighN N x.id i).1.2
  ·rw [if_pos h];exact (h6 (m2.2 h.symm)).symm
  ·rw [if_neg h]
   apply Classical.byContradiction
   intro hne
   exact h (m2.1 (h4 hne)).symm
 ·show (if z.id=(neighN N x.id i).1.1 then (neighN N x.id i).1.2 else (neighN N z.id i).1.2)=_
  by_cases h:z.id=(neighN N x.id i).1.1
  ·rw [if_pos h];exact (h7 (m1.1 h.symm)).symm
  ·rw [if_neg h]
   apply Classical.byContradiction
   intro hne
   exact h (m1.2 (h5 hne)).symm
theorem own_link {x:Nd} (i:Nat) (h2:(neighN N x.id i).1.2≠x.id) (q:Int×Int):jt x.id (neighN N x.id i).1.2 x.id (jt (neighN N x.id i).1.1 x.id x.id q)=(neighN N x.id i).1:=by
 unfold jt
 simp only [if_true,if_neg (fun h:x.id=(neighN N x.id i).1.2=>h2 h.symm)]
theorem neigh_ne (h0:checkN N=0) {i:Nat} (hi:i≤16) {x:Nd} (hx:x∈N):(neighN N x.id i).1.1≠x.id∧(neighN N x.id i).1.2≠x.id:=by
 have hl:lvlN (i:Int)=true:=by unfold lvlN;simp;omega
 obtain ⟨A,B,e⟩:=grp_at hx hl
 obtain ⟨hA,hB⟩:=grp_parts h0 e
 have hx1:=check_id h0 hx
 rw [neigh_split h0 hx hl e]
 refine ⟨?_,?_⟩
 ·show lastI A≠x.id
  rcases List.eq_nil_or_concat A with rfl | ⟨A',u,rfl⟩
  ·show (0:Int)≠x.id;omega
  ·rw [List.concat_eq_append] at *
   have:lastI (A'++[u])=u.id:=by unfold lastI;simp
   rw [this]
   exact (hA u (by simp)).2
 ·show headI B≠x.id
  cases B with
  | nil=>show (0:Int)≠x.id;omega
  | cons u B=>exact (hB u (by simp)).2
theorem insert_law (h0:checkN N=0) (hw:∀ x∈N,x.word<4294967296) {h:Nat} (hh:h≤16) {x:Nd} (hx:x∈N) :
  (List.range (h+1)).foldl (fun (L:List Lkd) (i:Nat)=>joinJ (joinJ L (neighN N x.id i).1.1 x.id i) x.id (neighN N x.id i).1.2 i) ((sortN N).map fun z=>if z.id=x.id then (x.id,List.replicate (h+1) (0,0)) else rowN (sortN (dropN N x.id)) (h+1) z)=(buildN N (h:Int)).1:=by
 have hb:(buildN N (h:Int)).1=(sortN N).map (rowN (sortN N) (h+1)):=by
  unfold buildN
  rw [if_neg (by rw [h0];simp),if_neg (by unfold lvlN;simp;omega)]
  rfl
 rw [hb]
 have hF:∀ (L:List Lkd),(List.range (h+1)).foldl (fun (L:List Lkd) (i:Nat)=>joinJ (joinJ L (neighN N x.id i).1.1 x.id i) x.id (neighN N x.id i).1.2 i) L =
   L.map fun c=>(c.1,(List.range (h+1)).foldl (fun l i=>l.modify i (fun q=>jt x.id (neighN N x.id i).1.2 c.1 (jt (neighN N x.id i).1.1 x.id c.1 q))) c.2):=by
  intro L
  have e1:(fun (L:List Lkd) (i:Nat)=>joinJ (joinJ L (neighN N x.id i).1.1 x.id i) x.id (neighN N x.id i).1.2 i)=fun L i=>L.map fun c=>((c.1,c.2.modify i (fun q=>jt x.id (neighN N x.id i).1.2 c.1 (jt (neighN N x.id i).1.1 x.id c.1 q))):Lkd):=by
   funext L i
   unfold joinJ
   rw [List.map_map]
   refine List.map_congr_left fun c _=>?_
   unfold setJ
   simp only [Function.comp]
   refine Prod.ext rfl ?_
   show (c.2.modify i _).modify i _=c.2.modify i _
   apply List.ext_getElem?
   intro k
   simp only [List.getElem?_modify]
   cases c.2[k]? with
   | none=>rfl
   | some q=>by_cases hk:i=k<;>simp [hk]
  rw [e1,fold_map (fun i (c:Lkd)=>((c.1,c.2.modify i (fun q=>jt x.id (neighN N x.id i).1.2 c.1 (jt (neighN N x.id i).1.1 x.id c.1 q))):Lkd))]
  refine List.map_congr_left fun c _=>?_
  have key:∀ (r:List Nat) (d:Lkd),d.1=c.1→r.foldl (fun c i=>((c.1,c.2.modify i (fun q=>jt x.id (neighN N x.id i).1.2 c.1 (jt (neighN N x.id i).1.1 x.id c.1 q))):Lkd)) d=(c.1,r.foldl (fun l i=>l.modify i (fun q=>jt x.id (neighN N x.id i).1.2 c.1 (jt (neighN N x.id i).1.1 x.id c.1 q))) d.2):=by
   intro r
   induction r with
   | nil=>intro d hd;rw [← hd];rfl
   | cons i r ih =>
    intro d hd
    rw [List.foldl_cons]
    refine (ih (d.1,d.2.modify i fun q=>jt x.id (neighN N x.id i).1.2 d.1 (jt (neighN N x.id i).1.1 x.id d.1 q)) hd).trans ?_
    rw [hd]
    rfl
  exact key _ c rfl
 rw [hF,List.map_map]
 have h0s:checkN (sortN N)=0:=check_perm (sortN_perm N) h0
 have hnS:∀ {M:List Nd} (hM:checkN M=0) {z:Nd} (hz:z∈M) {i:Nat} (hi:i≤16),(neighN (sortN M) z.id i).1=(neighN M z.id i).1:=by
  intro M hM z hz i hi
  have hl:lvlN (i:Int)=true:=by unfold lvlN;simp;omega
  obtain ⟨A,B,e⟩:=grp_at hz hl
  have es:grpS (sortN M) i z.word=A++z::B:=by
   unfold grpS at e ⊢
   rw [sort_perm (sortN_perm M) hM];exact e
  rw [neigh_split hM hz hl e,neigh_split (check_perm (sortN_perm M) hM) ((sortN_mem M z).2 hz) hl es]
 refine List.map_congr_left fun z hz=>?_
 have hzN:=(sortN_mem N z).1 hz
 simp only [Function.comp]
 by_cases hzx:z.id=x.id
 ·have:z=x:=ids_eq (check_keys h0) hzN hx hzx
  subst this
  rw [if_pos rfl]
  unfold rowN
  refine Prod.ext rfl ?_
  apply List.ext_getElem?
  intro j
  show (List.foldl _ _ _)[j]?=_
  rw [fold_modify (fun i q=>jt z.id (neighN N z.id i).1.2 z.id (jt (neighN N z.id i).1.1 z.id z.id q)),List.getElem?_map]
  by_cases hj:j<h+1
  ·rw [if_pos hj,List.getElem?_range hj,List.getElem?_replicate,if_pos hj]
   simp only [Option.map_some]
   rw [own_link j (neigh_ne h0 (by omega) hx).2,hnS h0 hx (by omega)]
  ·rw [if_neg hj,List.getElem?_replicate,if_neg hj,List.getElem?_eq_none (by simpa using hj)]
   rfl
 ·rw [if_neg hzx]
  have hzD:z∈dropN N x.id:=List.mem_filter.2 ⟨hzN,by simpa using hzx⟩
  unfold rowN
  refine Prod.ext rfl ?_
  apply List.ext_getElem?
  intro j
  show (List.foldl _ _ _)[j]?=_
  rw [fold_modify (fun i q=>jt x.id (neighN N x.id i).1.2 z.id (jt (neighN N x.id i).1.1 x.id z.id q)),List.getElem?_map,List.getElem?_map]
  by_cases hj:j<h+1
  ·rw [if_pos hj,List.getElem?_range hj]
   simp only [Option.map_some]
   rw [hnS (drop_check h0 x.id) hzD (by omega),join_link h0 hw (by omega) hx hzD,hnS h0 hzN (by omega)]
  ·rw [if_neg hj,List.getElem?_eq_none (by simpa using hj)]
   rfl
theorem remove_law (h0:checkN N=0) (hw:∀ x∈N,x.word<4294967296) {h:Nat} (hh:h≤16) {x:Nd} (hx:x∈N) :
  ((List.range (h+1)).foldl (fun (L:List Lkd) (i:Nat)=>joinJ L (neighN N x.id i).1.1 (neighN N x.id i).1.2 i) (buildN N (h:Int)).1).filter (fun c=>!(c.1==x.id))=(buildN (dropN N x.id) (h:Int)).1:=by
 have hlv:lvlN (h:Int)=true:=by unfold lvlN;simp;omega
 have hb:∀ {M:List Nd},checkN M=0→(buildN M (h:Int)).1=(sortN M).map (rowN (sortN M) (h+1)):=by
  intro M hM
  unfold buildN
  rw [if_neg (by rw [hM];simp),if_neg (by rw [hlv];simp)]
  rfl
 rw [hb h0,hb (drop_check h0 x.id)]
 have e1:(fun (L:List Lkd) (i:Nat)=>joinJ L (neighN N x.id i).1.1 (neighN N x.id i).1.2 i)=fun L i=>L.map fun c=>((c.1,c.2.modify i (jt (neighN N x.id i).1.1 (neighN N x.id i).1.2 c.1)):Lkd):=rfl
 rw [e1,fold_map (fun i (c:Lkd)=>((c.1,c.2.modify i (jt (neighN N x.id i).1.1 (neighN N x.id i).1.2 c.1)):Lkd)),List.map_map]
 have key:∀ (a:Int) (r:List Nat) (d:Lkd),d.1=a→r.foldl (fun c i=>((c.1,c.2.modify i (jt (neighN N x.id i).1.1 (neighN N x.id i).1.2 c.1)):Lkd)) d=(a,r.foldl (fun l i=>l.modify i (jt (neighN N x.id i).1.1 (neighN N x.id i).1.2 a)) d.2):=by
  intro a r
  induction r with
  | nil=>intro d hd;rw [← hd];rfl
  | cons i r ih =>
   intro d hd
   rw [List.foldl_cons]
   refine (ih (d.1,d.2.modify i (jt (neighN N x.id i).1.1 (neighN N x.id i).1.2 d.1)) hd).trans ?_
   rw [hd]
   rfl
 have hnS:∀ {M:List Nd} (hM:checkN M=0) {z:Nd} (hz:z∈M) {i:Nat} (hi:i≤16),(neighN (sortN M) z.id i).1=(neighN M z.id i).1:=by
  intro M hM z hz i hi
  have hl:lvlN (i:Int)=true:=by unfold lvlN;simp;omega
  obtain ⟨A,B,e⟩:=grp_at hz hl
  have es:grpS (sortN M) i z.word=A++z::B:=by
   unfold grpS at e ⊢
   rw [sort_perm (sortN_perm M) hM];exact e
  rw [neigh_split hM hz hl e,neigh_split (check_perm (sortN_perm M) hM) ((sortN_mem M z).2 hz) hl es]
 rw [List.filter_map,drop_sort h0]
 have hf:(sortN N).filter ((fun (c:Lkd)=>!(c.1==x.id)) ∘ ((fun c=>(List.range (h+1)).foldl (fun c i=>((c.1,c.2.modify i (jt (neighN N x.id i).1.1 (neighN N x.id i).1.2 c.1)):Lkd)) c) ∘ rowN (sortN N) (h+1)))=dropN (sortN N) x.id:=by
  unfold dropN
  refine List.filter_congr fun z _=>?_
  simp only [Function.comp]
  rw [key z.id _ _ rfl]
 rw [hf]
 refine List.map_congr_left fun z hz=>?_
 have hzD:z∈dropN N x.id:=by
  have:=List.mem_filter.1 hz
  exact List.mem_filter.2 ⟨(sortN_mem N z).1 this.1,this.2⟩
 have hzN:=(List.mem_filter.1 hzD).1
 simp only [Function.comp]
 rw [key z.id _ _ rfl]
 unfold rowN
 refine Prod.ext rfl ?_
 apply List.ext_getElem?
 intro j
 show (List.foldl _ _ _)[j]?=_
 rw [fold_modify (fun i q=>jt (neighN N x.id i).1.1 (neighN N x.id i).1.2 z.id q),List.getElem?_map,List.getElem?_map]
 by_cases hj:j<h+1
 ·rw [if_pos hj,List.getElem?_range hj]
  simp only [Option.map_some]
  rw [hnS h0 hzN (by omega),leave_link h0 hw (by omega) hx hzD,← drop_sort h0,hnS (drop_check h0 x.id) hzD (by omega)]
 ·rw [if_neg hj,List.getElem?_eq_none (by simpa using hj)]
  rfl
end
def untN (lev:Nat) (x:Nd) (l:List Nd):Nat:=match l.findIdx? fun y=>bitN y.word lev==bitN x.word lev with
 | some i=>i+1
 | none=>l.length
def visN (all:List Nd) (x:Nd) (lev:Nat):Nat :=
 untN lev x ((grpS all lev x.word).take (idxI (grpS all lev x.word) x.id)).reverse+untN lev x ((grpS all lev x.word).drop (idxI (grpS all lev x.word) x.id+1))
def visS (all:List Nd) (x:Nd) (h:Nat):Nat:=((List.range h).map (visN all x)).sum
def exactI (N:List Nd) (L:List Lkd) (h:Int):Bool:=(buildN N h).2==0&&decide (L=(buildN N h).1)
def insertN (N:List Nd) (L:List Lkd) (x:Nd) (frm h:Int):List Lkd×Nat×Int :=
 if lvlN h=false then ([],0,2)
 else if exactI N L h=false then ([],0,1)
 else if checkN (N++[x])≠0 then ([],0,checkN (N++[x]))
 else if N≠[]∧(findN N frm).2=false then ([],0,6)
 else ((buildN (N++[x]) h).1,(routeN N L frm x.key).1.length+visS (N++[x]) x h.toNat,0)
def hasN (v:Int):Nat:=if v=0 then 0 else 1
def tieN (N:List Nd) (id:Int) (m:Nat):Nat:=((List.range m).map fun (i:Nat)=>hasN (neighN N id i).1.1+hasN (neighN N id i).1.2).sum
def removeN (N:List Nd) (L:List Lkd) (id h:Int):List Lkd×Nat×Int :=
 if lvlN h=false then ([],0,2)
 else if exactI N L h=false then ([],0,1)
 else if (findN N id).2=false then ([],0,6)
 else ((buildN (dropN N id) h).1,tieN N id (h.toNat+1),0)
section
variable {N:List Nd}
theorem visS_succ (all:List Nd) (x:Nd) (j:Nat):visS all x (j+1)=visS all x j+visN all x j:=by unfold visS;simp [List.range_succ]
theorem tieN_succ (N:List Nd) (id:Int) (j:Nat):tieN N id (j+1)=tieN N id j+(hasN (neighN N id j).1.1+hasN (neighN N id j).1.2):=by unfold tieN;simp [List.range_succ]
theorem exactI_yes {L:List Lkd} {h:Int} (he:exactI N L h=true):checkN N=0∧lvlN h=true∧L=(buildN N h).1:=by
 unfold exactI at he
 rw [Bool.and_eq_true,beq_iff_eq,decide_eq_true_eq] at he
 obtain ⟨h1,h2⟩:=he
 unfold buildN at h1
 split at h1
 ·cases h1
 rename_i h3
 split at h1
 ·cases h1
 rename_i h4
 exact ⟨by simpa using h3,by simpa using h4,h2⟩
theorem unt_le (lev:Nat) (x:Nd) (l:List Nd):∃ Q R,l=Q++R∧untN lev x l≤Q.length+1∧untN lev x l≤l.length∧∀ y∈Q,bitN y.word lev≠bitN x.word lev:=by
 unfold untN
 cases hf:l.findIdx? fun y=>bitN y.word lev==bitN x.word lev with
 | none =>
  refine ⟨l,[],by simp,by show l.length≤_;omega,Nat.le_refl _,fun y hy he=>?_⟩
  have:=List.findIdx?_eq_none_iff.1 hf y hy
  simp [he] at this
 | some i =>
  obtain ⟨h1,h2,h3⟩:=List.findIdx?_eq_some_iff_getElem.1 hf
  refine ⟨l.take i,l.drop i,(List.take_append_drop i l).symm,by show i+1≤_;rw [List.length_take];omega,by show i+1≤_;omega,fun y hy he=>?_⟩
  obtain ⟨j,hj⟩:=List.mem_iff_getElem?.1 hy
  rw [List.getElem?_take] at hj
  split at hj
  ·rename_i hji
   obtain ⟨h4,h5⟩:=List.getElem?_eq_some_iff.1 hj
   have:=h3 j hji
   rw [h5] at this
   simp [he] at this
  ·cases hj
theorem vis_at (h0:checkN N=0) {x:Nd} {lev:Nat} {A B:List Nd} (e:grpS N (lev:Int) x.word=A++x::B):visN N x lev=untN lev x A.reverse+untN lev x B:=by
 have hi:idxI (grpS N (lev:Int) x.word) x.id=A.length:=idxI_at (grp_asc h0 lev x.word) (by rw [e];simp)
 unfold visN
 rw [hi,e,List.take_left,List.drop_append,List.drop_of_length_le (by omega),List.nil_append,Nat.add_sub_cancel_left]
 rfl
theorem vis_small (h0:checkN N=0) {x:Nd} (hx:x∈N) {lev:Nat} (hl:lev≤16):visN N x lev≤N.length:=by
 obtain ⟨A,B,e⟩:=grp_at hx (show lvlN (lev:Int)=true by unfold lvlN;simp;omega)
 rw [vis_at h0 e]
 obtain ⟨_,_,_,_,q1,_⟩:=unt_le lev x B
 obtain ⟨_,_,_,_,q2,_⟩:=unt_le lev x A.reverse
 rw [List.length_reverse] at q2
 have h1:(grpS N (lev:Int) x.word).length≤N.length:=by
  unfold grpS groupN
  refine Nat.le_trans (List.length_filter_le _ _) (Nat.le_of_eq (sortN_length N))
 rw [e,List.length_append,List.length_cons] at h1
 omega
theorem visS_small (h0:checkN N=0) {x:Nd} (hx:x∈N):∀ {h:Nat},h≤17→visS N x h≤h*N.length
 | 0,_=>by simp [visS]
 | h+1,hh=>by
  have:=visS_small h0 hx (h:=h) (by omega)
  have:=vis_small h0 hx (lev:=h) (by omega)
  rw [visS_succ,Nat.succ_mul]
  omega
theorem tie_small (N:List Nd) (id:Int):∀ m,tieN N id m≤2*m
 | 0=>by simp [tieN]
 | m+1=>by
  have:=tie_small N id m
  have h1:∀ v,hasN v≤1:=fun v=>by unfold hasN;split<;>omega
  have:=h1 (neighN N id m).1.1
  have:=h1 (neighN N id m).1.2
  rw [tieN_succ]
  omega
theorem drop_last {x:Nd} (h0:checkN (N++[x])=0):dropN (N++[x]) x.id=N:=by
 have hk:=check_keys h0
 rw [drop_app,drop_none (fun y hy=>?_)]
 ·unfold dropN;simp
 ·obtain ⟨i,hi⟩:=List.mem_iff_getElem?.1 hy
  have hil:=(List.getElem?_eq_some_iff.1 hi).1
  have:=hk N.length i x y hil (by simp) (by rw [List.getElem?_append_left hil];exact hi)
  exact fun e=>this.2 e.symm
theorem ins_rows {x:Nd} (h0:checkN (N++[x])=0) {L:List Lkd} {h:Nat} (hh:h≤16) (hL:L=(buildN N (h:Int)).1) {r:Lkd} (hr:r=(x.id,List.replicate (h+1) (0,0))) :
  L.take (idxI (sortN (N++[x])) x.id)++r::L.drop (idxI (sortN (N++[x])) x.id)=(sortN (N++[x])).map fun z=>if z.id=x.id then (x.id,List.replicate (h+1) (0,0)) else rowN (sortN (dropN (N++[x]) x.id)) (h+1) z:=by
 have h1:checkN N=0:=by rw [← drop_last h0];exact drop_check h0 x.id
 have hb:(buildN N (h:Int)).1=(sortN N).map (rowN (sortN N) (h+1)):=by
  unfold buildN
  rw [if_neg (by rw [h1];simp),if_neg (by unfold lvlN;simp;omega)]
  rfl
 have hx:x∈sortN (N++[x]):=(sortN_mem _ x).2 (by simp)
 obtain ⟨A,B,e⟩:=List.append_of_mem hx
 have hs:=sortN_str h0
 have hi:idxI (sortN (N++[x])) x.id=A.length:=idxI_at hs (by rw [e];simp)
 have hAB:(∀ z∈A,z.id≠x.id)∧∀ z∈B,z.id≠x.id:=by
  have hp:=sort_ids h0
  rw [e] at hp
  have hq:=List.pairwise_append.1 hp
  exact ⟨fun z hz=>hq.2.2 z hz x (by simp),fun z hz=>((List.pairwise_cons.1 hq.2.1).1 z hz).symm⟩
 have hN:sortN N=A++B:=by
  have:=drop_sort h0 x.id
  rw [drop_last h0,e,drop_app,drop_none hAB.1] at this
  rw [this]
  have e2:dropN (x::B) x.id=B:=by
   have:=drop_none hAB.2
   unfold dropN at this ⊢
   rw [List.filter_cons_of_neg (by simp)]
   exact this
  rw [e2]
 rw [hi,drop_last h0,hL,hb,hN,e,hr]
 have hl:A.length=(A.map (rowN (A++B) (h+1))).length:=by simp
 rw [List.map_append,List.map_append,List.map_cons,if_pos rfl,hl,List.take_left,List.drop_left]
 congr 1
 ·exact List.map_congr_left fun z hz=>by rw [if_neg (hAB.1 z hz)]
 ·congr 1
  exact List.map_congr_left fun z hz=>by rw [if_neg (hAB.2 z hz)]
end
end Go.Proofs.YtalmjklljofhbaaGreatDoor
namespace Go.Proofs.YtalmjklljofhbaaGreatDoor
open Go.RowKit Go.Maps
set_option maxRecDepth 100000 in
set_option maxHeartbeats 2000000 in
theorem index_n (a:Option Addr) (n c:Nat) (l:List Nd) (x:Nd) (k0:Nat) (w:World) (h:Sl 3 encN w a n l) (hn:n≤1000) (hk0:l[k0]?=some x) (hno:∀ j z,j<k0→l[j]?=some z→z.id≠x.id) :
  Calls Tryz.prog 59 #[.slice a n c,.agg #[.int .i64 x.id,.string x.key,.int .u32 x.word]] w fun e w'=>e=.returned (.int .i64 k0)∧Ex w w':=by
 have HNO:=lH hno
 have HK0:=lH hk0
 have hk0n:k0<n:=by have:=(List.getElem?_eq_some_iff.1 hk0).1;have:=h.len;omega
 have EX:=Ex.refl w
 have B3:=Blk.new w [.int .i64 x.id,.string x.key,.int .u32 x.word] 49
 have kk:=Ex.new w (.cells #[.int .i64 x.id,.string x.key,.int .u32 x.word] 49)
 obtain ⟨w1,hw1⟩:∃ w1,w1=w.alloc (.cells #[.int .i64 x.id,.string x.key,.int .u32 x.word] 49):=⟨_,rfl⟩
 obtain ⟨g3,hg3⟩:∃ g3,g3=w.heap.size:=⟨_,rfl⟩
 replace B3:Blk w1 g3 [.int .i64 x.id,.string x.key,.int .u32 x.word] 49:=by rw [hw1,hg3];exact B3
 rw [← hw1] at kk
 have Hw1:=lH hw1
 have Hg3:=lH hg3
 replace h:=h.nx kk
 replace EX:=EX.nx kk
 clear kk hw1 hg3
 have HS:=lH h
 have EX:=lH EX
 clear hno hk0 h
 go_enter Tryz.func59,Tryz.ntmps59
 go_upto_region 1 with fail
 rw [← Hg3.out,← Hw1.out]
 clear Hg3 Hw1
 have HB:=lH B3
 clear B3
 go_wp2_with fail
 go_loopw [8] (fun i wr=>∃ j:Nat,j≤k0∧i=.int .i64 j∧Ex w1 wr) (fun i _=>n-(intOf i).toNat)
 case atStart=>exact ⟨0,by omega,rfl,Ex.refl _⟩
 case round =>
  obtain ⟨j,hj,rfl,kw⟩:=hrel
  obtain ⟨wo,rfl⟩:∃ wo:World,wo=wr:=⟨_,rfl⟩
  obtain ⟨x1,o1,y,rfl,hx1,hy,hc1⟩:=(HS.out.nx kw).at (j:=j) (by omega)
  have e0:wo.cell? ⟨x1,o1+j*3,none⟩=some (.int .i64 y.id):=hc1 0 _ rfl
  have e1:wo.cell? ⟨x1,o1+j*3+1,none⟩=some (.string y.key):=hc1 1 _ rfl
  have e2:wo.cell? ⟨x1,o1+j*3+1+1,none⟩=some (.int .u32 y.word):=by simpa [Nat.add_assoc] using hc1 2 _ rfl
  have B:=HB.out.nx kw
  have q0:=B.cell 0 _ rfl
  have q1:=B.cell 1 _ rfl
  have q2:=B.cell 2 _ rfl
  have KW:=lH (EX.out.nx kw)
  have KV:=lH kw
  by_cases hlt:j=k0
  ·subst hlt
   obtain rfl:y=x:=Option.some.inj (hy.symm.trans HK0.out)
   clear hc1 hy kw B
   go_wp2_with fail
   go_quiet (fail)
   go_wp2_with fail
   go_ret
   exact ⟨rfl,KW.out.drewN _⟩
  ·have hb:(x.id==y.id)=false:=by
    have:=HNO.out j y (by omega) hy
    rw [beq_eq_false_iff_ne]
    exact fun h=>this h.symm
   clear hc1 hy kw B
   go_wp2_with fail
   go_quiet (fail)
   go_wp2_with fail
   exact ⟨⟨j+1,by omega,by go_num,KV.out.drewN _⟩,by simp [intOf];omega⟩
theorem check_len {N:List Nd} (h0:checkN N=0):N.length≤64:=by
 unfold checkN at h0
 split at h0
 ·cases h0
 ·omega
theorem wp_append_rqW {P:Program} {α:Type} {enc:α→List Value} {o:Oper} {a:Act} {K:Act→World→Prop} {Q:Exit→Act→World→Prop} (w0:World) (s x:Operand) (t:TypeId)
  (ho:o.op=.call { callee:=.builtin .append,args:=#[s,x],argTypes:=#[t,t] })
  (base:Nat) (e:TypeId) (z:Value) (sz bytes:Nat) (ht:P.underlying t=some (.slice e)) (hi:(P.info? e).map (fun i=>(i.zero,i.size,i.bytes))=some (some z,sz,bytes))
  (hzs:z.cells.size=sz) (hsz:0<sz) (hby:bytes≤65536)
  (v:Value) (l:List α) (hown:OwnL sz enc e base w0 v l) (hs:a.eval s=v) (A:Option Addr) (n c:Nat) (news:List α) (hrd:Sl sz enc w0 A n news) (hlen:∀ y,(enc y).length=sz) (h1:∀ y,∀ u∈enc y,u.oneCell'=true)
  (hx:a.eval x=.slice A n c) (hb1:0<bytes) (hmul:(l.length+n)*bytes≤140737488355328) (hbase:base≤w0.heap.size)
  (h:∀ v' w',OwnL sz enc e base w' v' (l++news)→Chg (fun k=>k<w0.heap.size∧¬ v.ownBlock=some k) w0 w'→Chg (· < base) w0 w'→K (a.put o.dst v') w') :
  o.wp P a w0 K Q:=by
 by_cases hA:A=none→c=0
 ·exact wp_append_rdW w0 s x t ho base e z sz bytes ht hi hzs hsz hby v l hown hs (· < w0.heap.size) A n c news hrd hA hlen h1 hx hb1 hmul hbase h
 ·have hAn:A=none:=by
   cases A with
   | none=>rfl
   | some _=>exact absurd (fun h=>by cases h) hA
  subst hAn
  obtain ⟨i,hi,hz0,hz1,hz2⟩:=info_parts hi
  have hn0:n=0:=by
   rcases hrd.2 with h0 | ⟨x,o,e1,_⟩
   ·exact h0
   ·cases e1
  subst hn0
  have hnews:news=[]:=List.eq_nil_of_length_eq_zero hrd.1
  subst hnews
  have hrun:(Builtin.append_ #[t,t] o.type #[v,.slice none 0 c]).run P w0=.ok v w0:=by
   rcases hown.2 with ⟨rfl,_⟩ | ⟨g,cap,cur,rfl,_,_,hnc,_⟩
   ·simp [Builtin.append_,run_underlying ht,sizeOf,typeInfo,hi,Builtin.lenOf,Builtin.firstCells,loadCells,loadCellsFrom]
   ·simp [Builtin.append_,run_underlying ht,sizeOf,typeInfo,hi,Builtin.lenOf,Builtin.firstCells,hnc,storeCells,loadCells,loadCellsFrom]
  unfold Oper.wp execOp
  simp only [ho,resolve,invoke,builtin,Sem.run_bind,Sem.run_pure,Result.andThen_ok,List.map_toArray,List.map_cons,List.map_nil,hs,hx,hrun]
  exact h v w0 (by simpa using hown) (Chg.refl _ _) (Chg.refl _ _)
theorem wpList_append_rqW {P:Program} {α:Type} {enc:α→List Value} {ops:Array Oper} {rest:List Oper} {o:Oper} {a:Act} {Q:Exit→Act→World→Prop} (w0:World) (hgd:o.guard=none) (s x:Operand) (t:TypeId)
  (ho:o.op=.call { callee:=.builtin .append,args:=#[s,x],argTypes:=#[t,t] })
  (base:Nat) (e:TypeId) (z:Value) (sz bytes:Nat) (ht:P.underlying t=some (.slice e)) (hi:(P.info? e).map (fun i=>(i.zero,i.size,i.bytes))=some (some z,sz,bytes))
  (hzs:z.cells.size=sz) (hsz:0<sz) (hby:bytes≤65536)
  (v:Value) (l:List α) (hown:OwnL sz enc e base w0 v l) (hs:a.eval s=v) (A:Option Addr) (n c:Nat) (news:List α) (hrd:Sl sz enc w0 A n news) (hlen:∀ y,(enc y).length=sz) (h1:∀ y,∀ u∈enc y,u.oneCell'=true)
  (hx:a.eval x=.slice A n c) (hb1:0<bytes) (hmul:(l.length+n)*bytes≤140737488355328) (hbase:base≤w0.heap.size)
  (h:∀ v' w',OwnL sz enc e base w' v' (l++news)→Chg (fun k=>k<w0.heap.size∧¬ v.ownBlock=some k) w0 w'→Chg (· < base) w0 w'→wpList P ops Q rest (a.put o.dst v') w') :
  wpList P ops Q (o::rest) a w0 :=
 wpList_plain hgd fun _ hK=>wp_append_rqW w0 s x t ho base e z sz bytes ht hi hzs hsz hby v l hown hs A n c news hrd hlen h1 hx hb1 hmul hbase fun v' w' h2 h3 h4=>hK _ _ (h v' w' h2 h3 h4)
theorem check_sub {l l':List Nd} (hs:l'.Sublist l) (h0:checkN l=0):checkN l'=0:=by
 have hk:=keys_pw (check_keys h0)
 unfold checkN at h0 ⊢
 split at h0
 ·omega
 rename_i hlen
 split at h0
 ·omega
 rename_i hbad
 rw [if_neg (by have:=hs.length_le;omega),if_neg (by
  intro hb
  obtain ⟨x,hx,hxb⟩:=List.any_eq_true.1 hb
  exact hbad (List.any_eq_true.2 ⟨x,hs.subset hx,hxb⟩)),if_neg]
 intro hd
 obtain ⟨i,k,x,y,hki,hx,hy,he⟩:=(dupN_iff _).1 hd
 have h2:=hk.sublist hs
 obtain ⟨hi,e1⟩:=List.getElem?_eq_some_iff.1 hx
 obtain ⟨hk,e2⟩:=List.getElem?_eq_some_iff.1 hy
 have:=List.pairwise_iff_getElem.1 h2 k i hk hi hki
 rw [e1,e2] at this
 unfold eqN at he
 rcases Bool.or_eq_true_iff.1 he with h1 | h1
 ·exact this.2 (by simpa using (beq_iff_eq.1 h1).symm)
 ·exact this.1 (beq_iff_eq.1 h1).symm
section
variable {N:List Nd}
theorem lvl_nat {m:Nat} (hm:m≤16):lvlN (m:Int)=true:=by unfold lvlN;simp;omega
theorem build_two (h0:checkN N=0) {m:Nat} (hm:m≤16):(buildN N (m:Int)).2=0:=by
 unfold buildN
 rw [if_neg (by rw [h0];simp),if_neg (by rw [lvl_nat hm];simp)]
theorem exact_build (h0:checkN N=0) {m:Nat} (hm:m≤16):exactI N (buildN N (m:Int)).1 m=true:=by
 unfold exactI
 rw [build_two h0 hm]
 simp
theorem ins_ok {x:Nd} (h0:checkN (N++[x])=0) {m:Nat} (hm:m≤16) {frm:Int} (hf:N=[]∨(findN N frm).2=true) :
  insertN N (buildN N (m:Int)).1 x frm m=((buildN (N++[x]) m).1,(routeN N (buildN N (m:Int)).1 frm x.key).1.length+visS (N++[x]) x m,0):=by
 have h1:checkN N=0:=check_sub (List.sublist_append_left _ _) h0
 unfold insertN
 rw [if_neg (by rw [lvl_nat hm];simp),if_neg (by rw [exact_build h1 hm];simp),if_neg (by rw [h0];simp),if_neg]
 ·rfl
 ·rintro ⟨g1,g2⟩
  rcases hf with hf | hf
  ·exact g1 hf
  ·rw [hf] at g2;cases g2
theorem rem_ok (h0:checkN N=0) {m:Nat} (hm:m≤16) {x:Nd} (hx:x∈N):removeN N (buildN N (m:Int)).1 x.id m=((buildN (dropN N x.id) m).1,tieN N x.id (m+1),0):=by
 unfold removeN
 rw [if_neg (by rw [lvl_nat hm];simp),if_neg (by rw [exact_build h0 hm];simp),if_neg (by rw [find_in h0 hx];simp)]
 rfl
end
end Go.Proofs.YtalmjklljofhbaaGreatDoor
