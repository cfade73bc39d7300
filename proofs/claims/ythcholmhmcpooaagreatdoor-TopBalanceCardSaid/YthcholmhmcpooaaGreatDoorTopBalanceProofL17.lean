/- Texts for TopBalanceProof. -/
import Derived.Shelf.Spec.SlicesInsertGrow
import Derived.BigRegion
import Derived.Test.YthcholmhmcpooaaGreatDoorTopBalanceProofL16
set_option linter.unusedSimpArgs false
set_option linter.unusedVariables false

namespace Go.Proofs.YthcholmhmcpooaaGreatDoor
open Go.RowKit
def rndP (N:List Nd) (M:List (Int×Int)) (p:Pr):Pr:={ p with left:=(keepN N p).1,right:=(keepN N p).2,known:=ordN N ([(keepN N p).1,(keepN N p).2]++toldN M p.id) p.id }
theorem roundN_eq (N:List Nd) (P:List Pr):roundN N P=(normalN N P).map (rndP N ((normalN N P).flatMap (introsN N))):=rfl
section
variable {N:List Nd} {P:List Pr}
theorem sort_ids {N:List Nd} (h0:checkN N=0):(sortN N).Pairwise fun x y=>x.id≠y.id:=List.Pairwise.imp (fun h=>h.2) (sortN_str h0)
def KR (N:List Nd) (P:List Pr) (x y:Nat):Prop:=∃ a b,(sortN N)[x]?=some a∧(sortN N)[y]?=some b∧b.id∈refsN N (peerN P a.id)
theorem KR.lt {x y:Nat} (h:KR N P x y):x<N.length∧y<N.length:=by
 obtain ⟨a,b,h1,h2,_⟩:=h
 have g1:=(List.getElem?_eq_some_iff.1 h1).1
 have g2:=(List.getElem?_eq_some_iff.1 h2).1
 rw [sortN_length] at g1 g2
 exact ⟨g1,g2⟩
inductive Cl (R:Int→Int→Prop):Int→Int→Prop
 | refl (a:Int):Cl R a a
 | step {a c b:Int}:R a c∨R c a→Cl R c b→Cl R a b
theorem Cl.trans {R:Int→Int→Prop} {a b c:Int} (h:Cl R a b) (k:Cl R b c):Cl R a c:=by
 induction h with
 | refl _=>exact k
 | step h1 _ ih=>exact .step h1 (ih k)
theorem Cl.one {R:Int→Int→Prop} {a b:Int} (h:R a b∨R b a):Cl R a b:=.step h (.refl b)
theorem Cl.symm {R:Int→Int→Prop} {a b:Int} (h:Cl R a b):Cl R b a:=by
 induction h with
 | refl _=>exact .refl _
 | step h1 _ ih=>exact ih.trans (.one h1.symm)
theorem Cl.mono {R R':Int→Int→Prop} (hr:∀ a b,R a b→Cl R' a b) {a b:Int} (h:Cl R a b):Cl R' a b:=by
 induction h with
 | refl _=>exact .refl _
 | step h1 _ ih =>
  rcases h1 with h | h
  ·exact (hr _ _ h).trans ih
  ·exact (hr _ _ h).symm.trans ih
end
section
variable {N:List Nd}
theorem prs_inv {id:Int}:∀ {l:List Int} {u v:Int},(u,v)∈prsN id l→u≠id∧∃ A B,l=A++u::v::B∨l=A++v::u::B
 | [],u,v,h=>by simp [prsN] at h
 | [a],u,v,h=>by simp [prsN] at h
 | a::b::r,u,v,h=>by
  have e:prsN id (a::b::r)=pr2 id (a,b)++prsN id (b::r):=by unfold prsN;simp
  rw [e] at h
  rcases List.mem_append.1 h with h | h
  ·unfold pr2 at h
   rcases List.mem_append.1 h with h | h
   ·by_cases ha:a=id
    ·rw [if_pos ha] at h;cases h
    ·rw [if_neg ha] at h
     have:=List.mem_singleton.1 h
     cases this
     exact ⟨ha,[],r,.inl rfl⟩
   ·by_cases hb:b=id
    ·rw [if_pos (c:=b=id) hb] at h;cases h
    ·rw [if_neg (c:=b=id) hb] at h
     have:=List.mem_singleton.1 h
     cases this
     exact ⟨hb,[],r,.inr rfl⟩
  ·obtain ⟨h1,A,B,h2⟩:=prs_inv h
   exact ⟨h1,a::A,B,by rcases h2 with h | h<;>simp [h]⟩
theorem ar_nodup (h0:checkN N=0) {p:Pr}:(arN N p).Nodup:=by
 have hs:=sort_ids h0
 unfold arN
 split
 ·unfold ordN
  exact List.Pairwise.map _ (fun a b h=>h) (hs.filter _)
 ·exact List.Pairwise.nil
variable {P:List Pr}
end
def otherN (N:List Nd) (id own:Int):Int:=if (findN N id).2=true∧id≠own then id else 0
def zNr:Nr:=(0,0,0,0)
def nearAt (p:Pr) (i:Nat):Nr:=p.near[i]?.getD zNr
def linkB (N:List Nd) (p:Pr) (lev:Int):Int×Int :=
 if (findN N p.id).2=true∧checkN N=0∧lvlN lev=true∧lev≤p.near.length then
  (let y:=if lev=0 then (p.left,p.right) else if bitN (findN N p.id).1.word (lev-1)=1 then ((nearAt p (lev-1).toNat).2.1,(nearAt p (lev-1).toNat).2.2.2) else ((nearAt p (lev-1).toNat).1,(nearAt p (lev-1).toNat).2.2.1)
   (otherN N y.1 p.id,otherN N y.2 p.id))
 else (0,0)
def pairB (N:List Nd) (own nb:Int) (lev:Nat) (zero one:Int):Int×Int :=
 if (findN N nb).2=true then (if bitN (findN N nb).1.word lev=0 then ((findN N nb).1.id,otherN N one own) else (otherN N zero own,(findN N nb).1.id)) else (0,0)
def stepB (N:List Nd) (st:Int→Pr) (p:Pr) (i:Nat):Nr :=
 ((pairB N p.id (linkB N p i).1 i (nearAt (st (linkB N p i).1) i).1 (nearAt (st (linkB N p i).1) i).2.1).1,(pairB N p.id (linkB N p i).1 i (nearAt (st (linkB N p i).1) i).1 (nearAt (st (linkB N p i).1) i).2.1).2,
  (pairB N p.id (linkB N p i).2 i (nearAt (st (linkB N p i).2) i).2.2.1 (nearAt (st (linkB N p i).2) i).2.2.2).1,(pairB N p.id (linkB N p i).2 i (nearAt (st (linkB N p i).2) i).2.2.1 (nearAt (st (linkB N p i).2) i).2.2.2).2)
def nextB (N:List Nd) (st:Int→Pr) (p:Pr) (h:Nat):List Nr:=(List.range h).map (stepB N st p)
def bRoundN (N:List Nd) (P:List Pr) (h:Int):List Pr:=if lvlN h=true then (normalN N P).map fun p=>{ p with near:=nextB N (peerN (normalN N P)) p h.toNat } else []
def linksB (N:List Nd) (P:List Pr) (h:Int):List Lkd:=if lvlN h=true then (normalN N P).map fun p=>(p.id,(List.range (h.toNat+1)).map fun (lev:Nat)=>linkB N p lev) else []
section
variable {N:List Nd}
theorem grp_parts (h0:checkN N=0) {i:Int} {v:Nat} {A B:List Nd} {x:Nd} (e:grpS N i v=A++x::B):(∀ z∈A,z∈N∧z.id≠x.id)∧(∀ z∈B,z∈N∧z.id≠x.id):=by
 have ha:=grp_asc h0 i v
 rw [e] at ha
 have h1:=List.pairwise_append.1 ha
 have hm:∀ z∈A++x::B,z∈N:=fun z hz=>(grp_mem.1 (by rw [e];exact hz)).1
 exact ⟨fun z hz=>⟨hm z (by simp [hz]),(h1.2.2 z hz x (by simp)).2⟩,fun z hz=>⟨hm z (by simp [hz]),(((List.pairwise_cons.1 h1.2.1).1 z hz).2).symm⟩⟩
theorem grp_same (hw:∀ x∈N,x.word<4294967296) {x u:Nd} {i:Nat} (hx:x∈N) (hu:u∈grpS N i x.word):grpS N i u.word=grpS N i x.word:=by
 obtain ⟨h1,h2⟩:=grp_mem.1 hu
 exact grp_eq hw (hw u h1) (hw x hx) h2
end
namespace Lab
def joinL (lab:List Nat) (i j:Nat):List Nat:=(lab.set i (min (lab.getD i 0) (lab.getD j 0))).set j (min (lab.getD i 0) (lab.getD j 0))
def stepL (ids:List Int) (lab:List Nat) (q:Int×Int):List Nat:=match ids.findIdx? (·==q.1),ids.findIdx? (·==q.2) with
 | some i,some j=>joinL lab i j
 | _,_=>lab
def sweepL (ids:List Int) (E:List (Int×Int)) (lab:List Nat):List Nat:=E.foldl (stepL ids) lab
def labsL (ids:List Int) (E:List (Int×Int)):Nat→List Nat
 | 0=>List.range ids.length
 | t+1=>sweepL ids E (labsL ids E t)
def Ed (ids:List Int) (E:List (Int×Int)) (i j:Nat):Prop:=∃ q∈E,ids.findIdx? (·==q.1)=some i∧ids.findIdx? (·==q.2)=some j
inductive Cn (ids:List Int) (E:List (Int×Int)):Nat→Nat→Prop
 | refl (i:Nat):Cn ids E i i
 | step {i j k:Nat}:Ed ids E i j∨Ed ids E j i→Cn ids E j k→Cn ids E i k
variable {ids:List Int} {E:List (Int×Int)}
theorem Cn.trans {i j k:Nat} (h:Cn ids E i j) (g:Cn ids E j k):Cn ids E i k:=by
 induction h with
 | refl _=>exact g
 | step h1 _ ih=>exact .step h1 (ih g)
theorem Cn.one {i j:Nat} (h:Ed ids E i j∨Ed ids E j i):Cn ids E i j:=.step h (.refl j)
theorem Cn.symm {i j:Nat} (h:Cn ids E i j):Cn ids E j i:=by
 induction h with
 | refl _=>exact .refl _
 | step h1 _ ih=>exact ih.trans (.one h1.symm)
theorem ed_lt {i j:Nat} (h:Ed ids E i j):i<ids.length∧j<ids.length:=by
 obtain ⟨q,_,h1,h2⟩:=h
 exact ⟨(List.findIdx?_eq_some_iff_getElem.1 h1).1,(List.findIdx?_eq_some_iff_getElem.1 h2).1⟩
theorem set_getD (l:List Nat) (i x k:Nat) (h:i<l.length):(l.set i x).getD k 0=if k=i then x else l.getD k 0:=by
 rw [List.getD_eq_getElem?_getD,List.getD_eq_getElem?_getD]
 by_cases hk:k=i
 ·subst hk;rw [if_pos rfl,List.getElem?_set_self h];rfl
 ·rw [if_neg hk,List.getElem?_set_ne (Ne.symm hk)]
theorem join_getD (lab:List Nat) (i j k:Nat) (hi:i<lab.length) (hj:j<lab.length):(joinL lab i j).getD k 0=if k=i∨k=j then min (lab.getD i 0) (lab.getD j 0) else lab.getD k 0:=by
 unfold joinL
 rw [set_getD _ _ _ _ (by simp;exact hj),set_getD _ _ _ _ hi]
 by_cases h1:k=j
 ·rw [if_pos h1,if_pos (.inr h1)]
 ·rw [if_neg h1]
  by_cases h2:k=i
  ·rw [if_pos h2,if_pos (.inl h2)]
  ·rw [if_neg h2,if_neg (by rintro (h | h);exact h2 h;exact h1 h)]
theorem join_len (lab:List Nat) (i j:Nat):(joinL lab i j).length=lab.length:=by unfold joinL;simp
def Okl (ids:List Int) (E:List (Int×Int)) (lab:List Nat):Prop:=lab.length=ids.length∧∀ i,i<ids.length→lab.getD i 0≤i∧Cn ids E i (lab.getD i 0)
def Lel (a b:List Nat):Prop:=∀ i,b.getD i 0≤a.getD i 0
theorem stepl_ok {lab:List Nat} (h:Okl ids E lab) {q:Int×Int} (hq:q∈E):Okl ids E (stepL ids lab q)∧Lel lab (stepL ids lab q):=by
 unfold stepL
 cases h1:ids.findIdx? (·==q.1) with
 | none=>exact ⟨h,fun i=>Nat.le_refl _⟩
 | some i =>
  cases h2:ids.findIdx? (·==q.2) with
  | none=>exact ⟨h,fun i=>Nat.le_refl _⟩
  | some j =>
   simp only
   have he:Ed ids E i j:=⟨q,hq,h1,h2⟩
   obtain ⟨hi,hj⟩:=ed_lt he
   have li:i<lab.length:=by rw [h.1];exact hi
   have lj:j<lab.length:=by rw [h.1];exact hj
   have ci:=h.2 i hi
   have cj:=h.2 j hj
   have hij:Cn ids E i j:=.one (.inl he)
   refine ⟨⟨by rw [join_len];exact h.1,fun k hk=>?_⟩,fun k=>?_⟩
   ·rw [join_getD lab i j k li lj]
    by_cases hkk:k=i∨k=j
    ·rw [if_pos hkk]
     rcases hkk with rfl | rfl
     ·refine ⟨by omega,?_⟩
      rcases Nat.le_total (lab.getD k 0) (lab.getD j 0) with h | h
      ·rw [Nat.min_eq_left h];exact ci.2
      ·rw [Nat.min_eq_right h];exact hij.trans cj.2
     ·refine ⟨by omega,?_⟩
      rcases Nat.le_total (lab.getD i 0) (lab.getD k 0) with h | h
      ·rw [Nat.min_eq_left h];exact hij.symm.trans ci.2
      ·rw [Nat.min_eq_right h];exact cj.2
    ·rw [if_neg hkk];exact h.2 k hk
   ·rw [join_getD lab i j k li lj]
    by_cases hkk:k=i∨k=j
    ·rw [if_pos hkk]
     rcases hkk with rfl | rfl<;>omega
    ·rw [if_neg hkk];exact Nat.le_refl _
theorem fold_ok:∀ (F:List (Int×Int)) (lab:List Nat),(∀ q∈F,q∈E)→Okl ids E lab→Okl ids E (F.foldl (stepL ids) lab)∧Lel lab (F.foldl (stepL ids) lab)
 | [],lab,_,h=>⟨h,fun _=>Nat.le_refl _⟩
 | q::F,lab,hF,h=>by
  obtain ⟨h1,h2⟩:=stepl_ok h (hF q (by simp))
  obtain ⟨h3,h4⟩:=fold_ok F _ (fun r hr=>hF r (by simp [hr])) h1
  exact ⟨h3,fun i=>Nat.le_trans (h4 i) (h2 i)⟩
theorem labs_ok:∀ t,Okl ids E (labsL ids E t)
 | 0=>⟨by simp [labsL],fun i hi=>by
   have:(labsL ids E 0).getD i 0=i:=by unfold labsL;rw [List.getD_eq_getElem?_getD,List.getElem?_range hi];rfl
   rw [this]
   exact ⟨Nat.le_refl _,.refl _⟩⟩
 | t+1=>(fold_ok E _ (fun _ h=>h) (labs_ok t)).1
theorem labs_le (t:Nat):Lel (labsL ids E t) (labsL ids E (t+1)):=(fold_ok E _ (fun _ h=>h) (labs_ok t)).2
theorem carry {c:Nat}:∀ (F:List (Int×Int)) (lab:List Nat),(∀ q∈F,q∈E)→Okl ids E lab→∀ {q:Int×Int} {i j:Nat},q∈F→ids.findIdx? (·==q.1)=some i→ids.findIdx? (·==q.2)=some j →
  (lab.getD i 0≤c∨lab.getD j 0≤c)→(F.foldl (stepL ids) lab).getD i 0≤c∧(F.foldl (stepL ids) lab).getD j 0≤c
 | [],_,_,_,_,_,_,hq,_,_,_=>by cases hq
 | r::F,lab,hF,h,q,i,j,hq,h1,h2,hc=>by
  have ho:=stepl_ok h (hF r (by simp))
  have hl:=(fold_ok F _ (fun r hr=>hF r (by simp [hr])) ho.1).2
  show (F.foldl (stepL ids) (stepL ids lab r)).getD i 0≤c∧(F.foldl (stepL ids) (stepL ids lab r)).getD j 0≤c
  rcases List.mem_cons.1 hq with rfl | hq
  ·have he:Ed ids E i j:=⟨q,hF q (by simp),h1,h2⟩
   obtain ⟨hi,hj⟩:=ed_lt he
   have li:i<lab.length:=by rw [h.1];exact hi
   have lj:j<lab.length:=by rw [h.1];exact hj
   have e:stepL ids lab q=joinL lab i j:=by unfold stepL;rw [h1,h2]
   have gi:(stepL ids lab q).getD i 0≤c:=by rw [e,join_getD lab i j i li lj,if_pos (.inl rfl)];omega
   have gj:(stepL ids lab q).getD j 0≤c:=by rw [e,join_getD lab i j j li lj,if_pos (.inr rfl)];omega
   exact ⟨Nat.le_trans (hl i) gi,Nat.le_trans (hl j) gj⟩
  ·refine carry F _ (fun r hr=>hF r (by simp [hr])) ho.1 hq h1 h2 ?_
   rcases hc with hc | hc
   ·exact .inl (Nat.le_trans (ho.2 i) hc)
   ·exact .inr (Nat.le_trans (ho.2 j) hc)
theorem carry_labs {c t i j:Nat} (he:Ed ids E i j∨Ed ids E j i) (hc:(labsL ids E t).getD i 0≤c):(labsL ids E (t+1)).getD j 0≤c:=by
 rcases he with ⟨q,hq,h1,h2⟩ | ⟨q,hq,h1,h2⟩
 ·exact (carry E _ (fun _ h=>h) (labs_ok t) hq h1 h2 (.inl hc)).2
 ·exact (carry E _ (fun _ h=>h) (labs_ok t) hq h1 h2 (.inr hc)).1
theorem border {P:Nat→Prop} (hdec:∀ i,P i∨¬ P i) {i j:Nat} (h:Cn ids E i j):P i→¬ P j→∃ u v,(Ed ids E u v∨Ed ids E v u)∧P u∧¬ P v∧Cn ids E i v:=by
 induction h with
 | refl _=>intro h1 h2;exact absurd h1 h2
 | step h1 g ih =>
  rename_i i k j
  intro hi hj
  rcases hdec k with hk | hk
  ·obtain ⟨u,v,h2,h3,h4,h5⟩:=ih hk hj
   exact ⟨u,v,h2,h3,h4,(Cn.one h1).trans h5⟩
  ·exact ⟨i,k,h1,hi,hk,.one h1⟩
theorem conv {c:Nat} (hc:c<ids.length) {j:Nat} (hj:j<ids.length) (h:Cn ids E c j):(labsL ids E ids.length).getD j 0≤c:=by
 -- the number of places that bear c or less grows until all of the component do
 have grow:∀ t,(∀ j,j<ids.length→Cn ids E c j→(labsL ids E t).getD j 0≤c)∨t+1≤((List.range ids.length).countP fun i=>decide ((labsL ids E t).getD i 0≤c)):=by
  intro t
  induction t with
  | zero =>
   right
   refine List.countP_pos_iff.2 ⟨c,by simpa using hc,?_⟩
   have:=((labs_ok (ids:=ids) (E:=E) 0).2 c hc).1
   simpa using this
  | succ t ih =>
   rcases ih with h | h
   ·left
    intro j hj hcj
    exact Nat.le_trans (labs_le t j) (h j hj hcj)
   ·by_cases hall:∀ j,j<ids.length→Cn ids E c j→(labsL ids E t).getD j 0≤c
    ·left
     intro j hj hcj
     exact Nat.le_trans (labs_le t j) (hall j hj hcj)
    ·right
     have hex:∃ j,j<ids.length∧Cn ids E c j∧¬ (labsL ids E t).getD j 0≤c:=by
      apply Classical.byContradiction
      intro hno
      exact hall fun j hj hcj=>Classical.byContradiction fun hn=>hno ⟨j,hj,hcj,hn⟩
     obtain ⟨j,hj,hcj,hn⟩:=hex
     obtain ⟨u,v,he,hu,hv,_⟩:=border (P:=fun i=>(labsL ids E t).getD i 0≤c) (fun i=>Classical.em _) hcj ((labs_ok (ids:=ids) (E:=E) t).2 c hc).1 hn
     have hvl:v<ids.length:=by rcases he with h | h;exact (ed_lt h).2;exact (ed_lt h).1
     have:=carry_labs he hu
     have hlt:((List.range ids.length).countP fun i=>decide ((labsL ids E t).getD i 0≤c))<((List.range ids.length).countP fun i=>decide ((labsL ids E (t+1)).getD i 0≤c)) :=
      count_lt (y:=v) (by simpa using hvl) (fun z hz=>by simp only [decide_eq_true_eq] at hz ⊢;exact Nat.le_trans (labs_le t z) hz) (by simpa using this) (by simpa using hv)
     omega
 rcases grow ids.length with g | g
 ·exact g j hj h
 ·have:((List.range ids.length).countP fun i=>decide ((labsL ids E ids.length).getD i 0≤c))≤(List.range ids.length).length:=List.countP_le_length
  rw [List.length_range] at this
  omega
end Lab
structure Fl where
 peers:List Pr
 msgs:List (Int×Int)
def nodeB (N:List Nd) (v:Int):Prop:=∃ x∈N,x.id=v
section
variable {N:List Nd} {f:Fl}
end
section
variable {N:List Nd} {f g:Fl}
def DelTo (N:List Nd) (f g:Fl) (D:List (Int×Int)):Prop :=
 (∀ x∈N,(peerN g.peers x.id).left=(peerN f.peers x.id).left∧(peerN g.peers x.id).right=(peerN f.peers x.id).right∧(peerN g.peers x.id).near=(peerN f.peers x.id).near ∧
  ∀ v,nodeB N v→v≠x.id→(v∈(peerN g.peers x.id).known↔v∈(peerN f.peers x.id).known∨(x.id,v)∈D))∧∀ m,m∈f.msgs↔m∈g.msgs∨m∈D
theorem DelTo.refl (N:List Nd) (f:Fl):DelTo N f f []:=⟨fun x hx=>⟨rfl,rfl,rfl,fun v _ _=>by simp⟩,fun m=>by simp⟩
end
def jt (left right id:Int) (q:Int×Int):Int×Int:=(if id=right then left else q.1,if id=left then right else q.2)
def setJ (left right:Int) (i:Nat) (c:Lkd):Lkd:=(c.1,c.2.modify i (jt left right c.1))
def joinJ (L:List Lkd) (left right:Int) (i:Nat):List Lkd:=L.map (setJ left right i)
theorem fold_modify {α:Type} (g:Nat→α→α):∀ (m:Nat) (ls:List α) (j:Nat),((List.range m).foldl (fun l i=>l.modify i (g i)) ls)[j]?=if j<m then ls[j]?.map (g j) else ls[j]?
 | 0,ls,j=>by simp
 | m+1,ls,j=>by
  rw [List.range_succ,List.foldl_append]
  simp only [List.foldl_cons,List.foldl_nil]
  rw [List.getElem?_modify,fold_modify g m ls j]
  by_cases h1:j<m
  ·rw [if_pos h1,if_pos (by omega)]
   have:¬ m=j:=by omega
   simp [this]
  ·rw [if_neg h1]
   by_cases h2:m=j
   ·subst h2
    rw [if_pos (by omega)]
    simp
   ·rw [if_neg (by omega)]
    simp [h2]
theorem fold_map {α:Type} (F:Nat→α→α):∀ (r:List Nat) (L:List α),r.foldl (fun L i=>L.map (F i)) L=L.map fun c=>r.foldl (fun c i=>F i c) c
 | [],L=>by simp
 | i::r,L=>by rw [List.foldl_cons,fold_map F r,List.map_map];rfl
section
variable {N:List Nd}
theorem mutual_nb (h0:checkN N=0) (hw:∀ x∈N,x.word<4294967296) {i:Nat} (hi:i≤16) {x z:Nd} (hx:x∈N) (hz:z∈N) :
  ((neighN N x.id i).1.1=z.id↔(neighN N z.id i).1.2=x.id):=by
 have hl:lvlN (i:Int)=true:=by unfold lvlN;simp;omega
 have left_right:∀ {x z:Nd},x∈N→z∈N→(neighN N x.id i).1.1=z.id→(neighN N z.id i).1.2=x.id:=by
  intro x z hx hz h
  obtain ⟨A,B,e⟩:=grp_at hx hl
  rw [neigh_split h0 hx hl e] at h
  rcases List.eq_nil_or_concat A with rfl | ⟨A',u,rfl⟩
  ·have:=check_id h0 hz
   have h:(0:Int)=z.id:=h
   omega
  ·rw [List.concat_eq_append] at *
   have hu:lastI (A'++[u])=u.id:=by unfold lastI;simp
   have huN:u∈N:=(grp_mem.1 (show u∈grpS N (i:Int) x.word by rw [e];simp)).1
   have:u=z:=ids_eq (check_keys h0) huN hz (hu.symm.trans h)
   subst this
   have eu:grpS N (i:Int) u.word=A'++u::x::B:=by
    rw [grp_same hw (x:=x) (i:=i) hx (by rw [e];simp),e];simp
   rw [neigh_split h0 hz hl eu]
   rfl
 refine ⟨left_right hx hz,fun h=>?_⟩
 obtain ⟨A,B,e⟩:=grp_at hz hl
 rw [neigh_split h0 hz hl e] at h
 cases B with
 | nil =>
  have:=check_id h0 hx
  have h:(0:Int)=x.id:=h
  omega
 | cons u B =>
  have huN:u∈N:=(grp_mem.1 (show u∈grpS N (i:Int) z.word by rw [e];simp)).1
  have:u=x:=ids_eq (check_keys h0) huN hx h
  subst this
  have eu:grpS N (i:Int) u.word=(A++[z])++u::B:=by
   rw [grp_same hw (x:=z) (i:=i) hz (by rw [e];simp),e];simp
  rw [neigh_split h0 hx hl eu]
  unfold lastI
  simp
theorem join_link (h0:checkN N=0) (hw:∀ x∈N,x.word<4294967296) {i:Nat} (hi:i≤16) {x z:Nd} (hx:x∈N) (hz:z∈dropN N x.id) :
  jt x.id (neighN N x.id i).1.2 z.id (jt (neighN N x.id i).1.1 x.id z.id (neighN (dropN N x.id) z.id i).1)=(neighN N z.id i).1:=by
 have hzN:z∈N:=(List.mem_filter.1 hz).1
 have hzx:z.id≠x.id:=by have:=(List.mem_filter.1 hz).2;simpa using this
 obtain ⟨_,_,_,h4,h5,_,_⟩:=loc_law h0 hw (h:=(i:Int)) (by unfold lvlN;simp;omega) hx hz
 have m1:=mutual_nb h0 hw hi hx hzN
 have m2:=mutual_nb h0 hw hi hzN hx
 unfold jt
 simp only
 rw [if_neg hzx,if_neg hzx]
 refine Prod.ext ?_ ?_
 ·show (if z.id=(neighN N x.id i).1.2 then x.id else (neighN (dropN N x.id) z.id i).1.1)=(neighN N z.id i).1.1
  by_cases h:z.id=(neighN N x.id i).1.2
  ·rw [if_pos h];exact (m2.2 h.symm).symm
  ·rw [if_neg h]
   apply Classical.byContradiction
   intro hne
   exact h (m2.1 (h4 fun e=>hne e.symm)).symm
 ·show (if z.id=(neighN N x.id i).1.1 then x.id else (neighN (dropN N x.id) z.id i).1.2)=(neighN N z.id i).1.2
  by_cases h:z.id=(neighN N x.id i).1.1
  ·rw [if_pos h];exact (m1.1 h.symm).symm
  ·rw [if_neg h]
   apply Classical.byContradiction
   intro hne
   exact h (m1.2 (h5 fun e=>hne e.symm)).symm
theorem leave_link (h0:checkN N=0) (hw:∀ x∈N,x.word<4294967296) {i:Nat} (hi:i≤16) {x z:Nd} (hx:x∈N) (hz:z∈dropN N x.id) :
  jt (neighN N x.id i).1.1 (neighN N x.id i).1.2 z.id (neighN N z.id i).1=(neighN (dropN N x.id) z.id i).1:=by
 have hzN:z∈N:=(List.mem_filter.1 hz).1
 obtain ⟨_,_,_,h4,h5,h6,h7⟩:=loc_law h0 hw (h:=(i:Int)) (by unfold lvlN;simp;omega) hx hz
 have m1:=mutual_nb h0 hw hi hx hzN
 have m2:=mutual_nb h0 hw hi hzN hx
 unfold jt
 refine Prod.ext ?_ ?_
 ·show (if z.id=(neighN N x.id i).1.2 then (neighN N x.id i).1.1 else (neighN N z.id i).1.1)=_
  by_cases h:z.id=(neighN N x.id i).1.2
  ·rw [if_pos h];exact (h6 (m2.2 h.symm)).symm
  ·rw [if_neg h]
   apply Classical.byContradiction
   intro hne
   exact h (m2.1 (h4 hne)).symm
 ·show (if z.id=(neighN N x.id i).1.1 then (neighN N x.id i).1.2 else (neighN N z.id i).1.2)=_
  by_cases h:z.id=(neighN N x.id i).1.1
  ·rw [if_pos h];exact (h7 (m1.1 h.symm)).symm
  ·rw [if_neg h]
   apply Classical.byContradiction
   intro hne
   exact h (m1.2 (h5 hne)).symm
theorem own_link {x:Nd} (i:Nat) (h2:(neighN N x.id i).1.2≠x.id) (q:Int×Int):jt x.id (neighN N x.id i).1.2 x.id (jt (neighN N x.id i).1.1 x.id x.id q)=(neighN N x.id i).1:=by
 unfold jt
 simp only [if_true,if_neg (fun h:x.id=(neighN N x.id i).1.2=>h2 h.symm)]
theorem neigh_ne (h0:checkN N=0) {i:Nat} (hi:i≤16) {x:Nd} (hx:x∈N):(neighN N x.id i).1.1≠x.id∧(neighN N x.id i).1.2≠x.id:=by
 have hl:lvlN (i:Int)=true:=by unfold lvlN;simp;omega
 obtain ⟨A,B,e⟩:=grp_at hx hl
 obtain ⟨hA,hB⟩:=grp_parts h0 e
 have hx1:=check_id h0 hx
 rw [neigh_split h0 hx hl e]
 refine ⟨?_,?_⟩
 ·show lastI A≠x.id
  rcases List.eq_nil_or_concat A with rfl | ⟨A',u,rfl⟩
  ·show (0:Int)≠x.id;omega
  ·rw [List.concat_eq_append] at *
   have:lastI (A'++[u])=u.id:=by unfold lastI;simp
   rw [this]
   exact (hA u (by simp)).2
 ·show headI B≠x.id
  cases B with
  | nil=>show (0:Int)≠x.id;omega
  | cons u B=>exact (hB u (by simp)).2
theorem insert_law (h0:checkN N=0) (hw:∀ x∈N,x.word<4294967296) {h:Nat} (hh:h≤16) {x:Nd} (hx:x∈N) :
  (List.range (h+1)).foldl (fun (L:List Lkd) (i:Nat)=>joinJ (joinJ L (neighN N x.id i).1.1 x.id i) x.id (neighN N x.id i).1.2 i) ((sortN N).map fun z=>if z.id=x.id then (x.id,List.replicate (h+1) (0,0)) else rowN (sortN (dropN N x.id)) (h+1) z)=(buildN N (h:Int)).1:=by
 have hb:(buildN N (h:Int)).1=(sortN N).map (rowN (sortN N) (h+1)):=by
  unfold buildN
  rw [if_neg (by rw [h0];simp),if_neg (by unfold lvlN;simp;omega)]
  rfl
 rw [hb]
 have hF:∀ (L:List Lkd),(List.range (h+1)).foldl (fun (L:List Lkd) (i:Nat)=>joinJ (joinJ L (neighN N x.id i).1.1 x.id i) x.id (neighN N x.id i).1.2 i) L =
   L.map fun c=>(c.1,(List.range (h+1)).foldl (fun l i=>l.modify i (fun q=>jt x.id (neighN N x.id i).1.2 c.1 (jt (neighN N x.id i).1.1 x.id c.1 q))) c.2):=by
  intro L
  have e1:(fun (L:List Lkd) (i:Nat)=>joinJ (joinJ L (neighN N x.id i).1.1 x.id i) x.id (neighN N x.id i).1.2 i)=fun L i=>L.map fun c=>((c.1,c.2.modify i (fun q=>jt x.id (neighN N x.id i).1.2 c.1 (jt (neighN N x.id i).1.1 x.id c.1 q))):Lkd):=by
   funext L i
   unfold joinJ
   rw [List.map_map]
   refine List.map_congr_left fun c _=>?_
   unfold setJ
   simp only [Function.comp]
   refine Prod.ext rfl ?_
   show (c.2.modify i _).modify i _=c.2.modify i _
   apply List.ext_getElem?
   intro k
   simp only [List.getElem?_modify]
   cases c.2[k]? with
   | none=>rfl
   | some q=>by_cases hk:i=k<;>simp [hk]
  rw [e1,fold_map (fun i (c:Lkd)=>((c.1,c.2.modify i (fun q=>jt x.id (neighN N x.id i).1.2 c.1 (jt (neighN N x.id i).1.1 x.id c.1 q))):Lkd))]
  refine List.map_congr_left fun c _=>?_
  have key:∀ (r:List Nat) (d:Lkd),d.1=c.1→r.foldl (fun c i=>((c.1,c.2.modify i (fun q=>jt x.id (neighN N x.id i).1.2 c.1 (jt (neighN N x.id i).1.1 x.id c.1 q))):Lkd)) d=(c.1,r.foldl (fun l i=>l.modify i (fun q=>jt x.id (neighN N x.id i).1.2 c.1 (jt (neighN N x.id i).1.1 x.id c.1 q))) d.2):=by
   intro r
   induction r with
   | nil=>intro d hd;rw [← hd];rfl
   | cons i r ih =>
    intro d hd
    rw [List.foldl_cons]
    refine (ih (d.1,d.2.modify i fun q=>jt x.id (neighN N x.id i).1.2 d.1 (jt (neighN N x.id i).1.1 x.id d.1 q)) hd).trans ?_
    rw [hd]
    rfl
  exact key _ c rfl
 rw [hF,List.map_map]
 have h0s:checkN (sortN N)=0:=check_perm (sortN_perm N) h0
 have hnS:∀ {M:List Nd} (hM:checkN M=0) {z:Nd} (hz:z∈M) {i:Nat} (hi:i≤16),(neighN (sortN M) z.id i).1=(neighN M z.id i).1:=by
  intro M hM z hz i hi
  have hl:lvlN (i:Int)=true:=by unfold lvlN;simp;omega
  obtain ⟨A,B,e⟩:=grp_at hz hl
  have es:grpS (sortN M) i z.word=A++z::B:=by
   unfold grpS at e ⊢
   rw [sort_perm (sortN_perm M) hM];exact e
  rw [neigh_split hM hz hl e,neigh_split (check_perm (sortN_perm M) hM) ((sortN_mem M z).2 hz) hl es]
 refine List.map_congr_left fun z hz=>?_
 have hzN:=(sortN_mem N z).1 hz
 simp only [Function.comp]
 by_cases hzx:z.id=x.id
 ·have:z=x:=ids_eq (check_keys h0) hzN hx hzx
  subst this
  rw [if_pos rfl]
  unfold rowN
  refine Prod.ext rfl ?_
  apply List.ext_getElem?
  intro j
  show (List.foldl _ _ _)[j]?=_
  rw [fold_modify (fun i q=>jt z.id (neighN N z.id i).1.2 z.id (jt (neighN N z.id i).1.1 z.id z.id q)),List.getElem?_map]
  by_cases hj:j<h+1
  ·rw [if_pos hj,List.getElem?_range hj,List.getElem?_replicate,if_pos hj]
   simp only [Option.map_some]
   rw [own_link j (neigh_ne h0 (by omega) hx).2,hnS h0 hx (by omega)]
  ·rw [if_neg hj,List.getElem?_replicate,if_neg hj,List.getElem?_eq_none (by simpa using hj)]
   rfl
 ·rw [if_neg hzx]
  have hzD:z∈dropN N x.id:=List.mem_filter.2 ⟨hzN,by simpa using hzx⟩
  unfold rowN
  refine Prod.ext rfl ?_
  apply List.ext_getElem?
  intro j
  show (List.foldl _ _ _)[j]?=_
  rw [fold_modify (fun i q=>jt x.id (neighN N x.id i).1.2 z.id (jt (neighN N x.id i).1.1 x.id z.id q)),List.getElem?_map,List.getElem?_map]
  by_cases hj:j<h+1
  ·rw [if_pos hj,List.getElem?_range hj]
   simp only [Option.map_some]
   rw [hnS (drop_check h0 x.id) hzD (by omega),join_link h0 hw (by omega) hx hzD,hnS h0 hzN (by omega)]
  ·rw [if_neg hj,List.getElem?_eq_none (by simpa using hj)]
   rfl
theorem remove_law (h0:checkN N=0) (hw:∀ x∈N,x.word<4294967296) {h:Nat} (hh:h≤16) {x:Nd} (hx:x∈N) :
  ((List.range (h+1)).foldl (fun (L:List Lkd) (i:Nat)=>joinJ L (neighN N x.id i).1.1 (neighN N x.id i).1.2 i) (buildN N (h:Int)).1).filter (fun c=>!(c.1==x.id))=(buildN (dropN N x.id) (h:Int)).1:=by
 have hlv:lvlN (h:Int)=true:=by unfold lvlN;simp;omega
 have hb:∀ {M:List Nd},checkN M=0→(buildN M (h:Int)).1=(sortN M).map (rowN (sortN M) (h+1)):=by
  intro M hM
  unfold buildN
  rw [if_neg (by rw [hM];simp),if_neg (by rw [hlv];simp)]
  rfl
 rw [hb h0,hb (drop_check h0 x.id)]
 have e1:(fun (L:List Lkd) (i:Nat)=>joinJ L (neighN N x.id i).1.1 (neighN N x.id i).1.2 i)=fun L i=>L.map fun c=>((c.1,c.2.modify i (jt (neighN N x.id i).1.1 (neighN N x.id i).1.2 c.1)):Lkd):=rfl
 rw [e1,fold_map (fun i (c:Lkd)=>((c.1,c.2.modify i (jt (neighN N x.id i).1.1 (neighN N x.id i).1.2 c.1)):Lkd)),List.map_map]
 have key:∀ (a:Int) (r:List Nat) (d:Lkd),d.1=a→r.foldl (fun c i=>((c.1,c.2.modify i (jt (neighN N x.id i).1.1 (neighN N x.id i).1.2 c.1)):Lkd)) d=(a,r.foldl (fun l i=>l.modify i (jt (neighN N x.id i).1.1 (neighN N x.id i).1.2 a)) d.2):=by
  intro a r
  induction r with
  | nil=>intro d hd;rw [← hd];rfl
  | cons i r ih =>
   intro d hd
   rw [List.foldl_cons]
   refine (ih (d.1,d.2.modify i (jt (neighN N x.id i).1.1 (neighN N x.id i).1.2 d.1)) hd).trans ?_
   rw [hd]
   rfl
 have hnS:∀ {M:List Nd} (hM:checkN M=0) {z:Nd} (hz:z∈M) {i:Nat} (hi:i≤16),(neighN (sortN M) z.id i).1=(neighN M z.id i).1:=by
  intro M hM z hz i hi
  have hl:lvlN (i:Int)=true:=by unfold lvlN;simp;omega
  obtain ⟨A,B,e⟩:=grp_at hz hl
  have es:grpS (sortN M) i z.word=A++z::B:=by
   unfold grpS at e ⊢
   rw [sort_perm (sortN_perm M) hM];exact e
  rw [neigh_split hM hz hl e,neigh_split (check_perm (sortN_perm M) hM) ((sortN_mem M z).2 hz) hl es]
 rw [List.filter_map,drop_sort h0]
 have hf:(sortN N).filter ((fun (c:Lkd)=>!(c.1==x.id)) ∘ ((fun c=>(List.range (h+1)).foldl (fun c i=>((c.1,c.2.modify i (jt (neighN N x.id i).1.1 (neighN N x.id i).1.2 c.1)):Lkd)) c) ∘ rowN (sortN N) (h+1)))=dropN (sortN N) x.id:=by
  unfold dropN
  refine List.filter_congr fun z _=>?_
  simp only [Function.comp]
  rw [key z.id _ _ rfl]
 rw [hf]
 refine List.map_congr_left fun z hz=>?_
 have hzD:z∈dropN N x.id:=by
  have:=List.mem_filter.1 hz
  exact List.mem_filter.2 ⟨(sortN_mem N z).1 this.1,this.2⟩
 have hzN:=(List.mem_filter.1 hzD).1
 simp only [Function.comp]
 rw [key z.id _ _ rfl]
 unfold rowN
 refine Prod.ext rfl ?_
 apply List.ext_getElem?
 intro j
 show (List.foldl _ _ _)[j]?=_
 rw [fold_modify (fun i q=>jt (neighN N x.id i).1.1 (neighN N x.id i).1.2 z.id q),List.getElem?_map,List.getElem?_map]
 by_cases hj:j<h+1
 ·rw [if_pos hj,List.getElem?_range hj]
  simp only [Option.map_some]
  rw [hnS h0 hzN (by omega),leave_link h0 hw (by omega) hx hzD,← drop_sort h0,hnS (drop_check h0 x.id) hzD (by omega)]
 ·rw [if_neg hj,List.getElem?_eq_none (by simpa using hj)]
  rfl
end
def untN (lev:Nat) (x:Nd) (l:List Nd):Nat:=match l.findIdx? fun y=>bitN y.word lev==bitN x.word lev with
 | some i=>i+1
 | none=>l.length
def visN (all:List Nd) (x:Nd) (lev:Nat):Nat :=
 untN lev x ((grpS all lev x.word).take (idxI (grpS all lev x.word) x.id)).reverse+untN lev x ((grpS all lev x.word).drop (idxI (grpS all lev x.word) x.id+1))
def visS (all:List Nd) (x:Nd) (h:Nat):Nat:=((List.range h).map (visN all x)).sum
def exactI (N:List Nd) (L:List Lkd) (h:Int):Bool:=(buildN N h).2==0&&decide (L=(buildN N h).1)
def insertN (N:List Nd) (L:List Lkd) (x:Nd) (frm h:Int):List Lkd×Nat×Int :=
 if lvlN h=false then ([],0,2)
 else if exactI N L h=false then ([],0,1)
 else if checkN (N++[x])≠0 then ([],0,checkN (N++[x]))
 else if N≠[]∧(findN N frm).2=false then ([],0,6)
 else ((buildN (N++[x]) h).1,(routeN N L frm x.key).1.length+visS (N++[x]) x h.toNat,0)
def hasN (v:Int):Nat:=if v=0 then 0 else 1
def tieN (N:List Nd) (id:Int) (m:Nat):Nat:=((List.range m).map fun (i:Nat)=>hasN (neighN N id i).1.1+hasN (neighN N id i).1.2).sum
def removeN (N:List Nd) (L:List Lkd) (id h:Int):List Lkd×Nat×Int :=
 if lvlN h=false then ([],0,2)
 else if exactI N L h=false then ([],0,1)
 else if (findN N id).2=false then ([],0,6)
 else ((buildN (dropN N id) h).1,tieN N id (h.toNat+1),0)
section
variable {N:List Nd}
theorem visS_succ (all:List Nd) (x:Nd) (j:Nat):visS all x (j+1)=visS all x j+visN all x j:=by unfold visS;simp [List.range_succ]
theorem tieN_succ (N:List Nd) (id:Int) (j:Nat):tieN N id (j+1)=tieN N id j+(hasN (neighN N id j).1.1+hasN (neighN N id j).1.2):=by unfold tieN;simp [List.range_succ]
theorem exactI_yes {L:List Lkd} {h:Int} (he:exactI N L h=true):checkN N=0∧lvlN h=true∧L=(buildN N h).1:=by
 unfold exactI at he
 rw [Bool.and_eq_true,beq_iff_eq,decide_eq_true_eq] at he
 obtain ⟨h1,h2⟩:=he
 unfold buildN at h1
 split at h1
 ·cases h1
 rename_i h3
 split at h1
 ·cases h1
 rename_i h4
 exact ⟨by simpa using h3,by simpa using h4,h2⟩
theorem with_drop (id:Int):withoutN N [id]=dropN N id:=by
 unfold withoutN dropN
 refine List.filter_congr fun x _=>?_
 by_cases h:x.id=id<;>simp [h]
theorem unt_le (lev:Nat) (x:Nd) (l:List Nd):∃ Q R,l=Q++R∧untN lev x l≤Q.length+1∧untN lev x l≤l.length∧∀ y∈Q,bitN y.word lev≠bitN x.word lev:=by
 unfold untN
 cases hf:l.findIdx? fun y=>bitN y.word lev==bitN x.word lev with
 | none =>
  refine ⟨l,[],by simp,by show l.length≤_;omega,Nat.le_refl _,fun y hy he=>?_⟩
  have:=List.findIdx?_eq_none_iff.1 hf y hy
  simp [he] at this
 | some i =>
  obtain ⟨h1,h2,h3⟩:=List.findIdx?_eq_some_iff_getElem.1 hf
  refine ⟨l.take i,l.drop i,(List.take_append_drop i l).symm,by show i+1≤_;rw [List.length_take];omega,by show i+1≤_;omega,fun y hy he=>?_⟩
  obtain ⟨j,hj⟩:=List.mem_iff_getElem?.1 hy
  rw [List.getElem?_take] at hj
  split at hj
  ·rename_i hji
   obtain ⟨h4,h5⟩:=List.getElem?_eq_some_iff.1 hj
   have:=h3 j hji
   rw [h5] at this
   simp [he] at this
  ·cases hj
theorem vis_at (h0:checkN N=0) {x:Nd} {lev:Nat} {A B:List Nd} (e:grpS N (lev:Int) x.word=A++x::B):visN N x lev=untN lev x A.reverse+untN lev x B:=by
 have hi:idxI (grpS N (lev:Int) x.word) x.id=A.length:=idxI_at (grp_asc h0 lev x.word) (by rw [e];simp)
 unfold visN
 rw [hi,e,List.take_left,List.drop_append,List.drop_of_length_le (by omega),List.nil_append,Nat.add_sub_cancel_left]
 rfl
theorem vis_small (h0:checkN N=0) {x:Nd} (hx:x∈N) {lev:Nat} (hl:lev≤16):visN N x lev≤N.length:=by
 obtain ⟨A,B,e⟩:=grp_at hx (show lvlN (lev:Int)=true by unfold lvlN;simp;omega)
 rw [vis_at h0 e]
 obtain ⟨_,_,_,_,q1,_⟩:=unt_le lev x B
 obtain ⟨_,_,_,_,q2,_⟩:=unt_le lev x A.reverse
 rw [List.length_reverse] at q2
 have h1:(grpS N (lev:Int) x.word).length≤N.length:=by
  unfold grpS groupN
  refine Nat.le_trans (List.length_filter_le _ _) (Nat.le_of_eq (sortN_length N))
 rw [e,List.length_append,List.length_cons] at h1
 omega
theorem visS_small (h0:checkN N=0) {x:Nd} (hx:x∈N):∀ {h:Nat},h≤17→visS N x h≤h*N.length
 | 0,_=>by simp [visS]
 | h+1,hh=>by
  have:=visS_small h0 hx (h:=h) (by omega)
  have:=vis_small h0 hx (lev:=h) (by omega)
  rw [visS_succ,Nat.succ_mul]
  omega
theorem tie_small (N:List Nd) (id:Int):∀ m,tieN N id m≤2*m
 | 0=>by simp [tieN]
 | m+1=>by
  have:=tie_small N id m
  have h1:∀ v,hasN v≤1:=fun v=>by unfold hasN;split<;>omega
  have:=h1 (neighN N id m).1.1
  have:=h1 (neighN N id m).1.2
  rw [tieN_succ]
  omega
theorem drop_last {x:Nd} (h0:checkN (N++[x])=0):dropN (N++[x]) x.id=N:=by
 have hk:=check_keys h0
 rw [drop_app,drop_none (fun y hy=>?_)]
 ·unfold dropN;simp
 ·obtain ⟨i,hi⟩:=List.mem_iff_getElem?.1 hy
  have hil:=(List.getElem?_eq_some_iff.1 hi).1
  have:=hk N.length i x y hil (by simp) (by rw [List.getElem?_append_left hil];exact hi)
  exact fun e=>this.2 e.symm
theorem ins_rows {x:Nd} (h0:checkN (N++[x])=0) {L:List Lkd} {h:Nat} (hh:h≤16) (hL:L=(buildN N (h:Int)).1) {r:Lkd} (hr:r=(x.id,List.replicate (h+1) (0,0))) :
  L.take (idxI (sortN (N++[x])) x.id)++r::L.drop (idxI (sortN (N++[x])) x.id)=(sortN (N++[x])).map fun z=>if z.id=x.id then (x.id,List.replicate (h+1) (0,0)) else rowN (sortN (dropN (N++[x]) x.id)) (h+1) z:=by
 have h1:checkN N=0:=by rw [← drop_last h0];exact drop_check h0 x.id
 have hb:(buildN N (h:Int)).1=(sortN N).map (rowN (sortN N) (h+1)):=by
  unfold buildN
  rw [if_neg (by rw [h1];simp),if_neg (by unfold lvlN;simp;omega)]
  rfl
 have hx:x∈sortN (N++[x]):=(sortN_mem _ x).2 (by simp)
 obtain ⟨A,B,e⟩:=List.append_of_mem hx
 have hs:=sortN_str h0
 have hi:idxI (sortN (N++[x])) x.id=A.length:=idxI_at hs (by rw [e];simp)
 have hAB:(∀ z∈A,z.id≠x.id)∧∀ z∈B,z.id≠x.id:=by
  have hp:=sort_ids h0
  rw [e] at hp
  have hq:=List.pairwise_append.1 hp
  exact ⟨fun z hz=>hq.2.2 z hz x (by simp),fun z hz=>((List.pairwise_cons.1 hq.2.1).1 z hz).symm⟩
 have hN:sortN N=A++B:=by
  have:=drop_sort h0 x.id
  rw [drop_last h0,e,drop_app,drop_none hAB.1] at this
  rw [this]
  have e2:dropN (x::B) x.id=B:=by
   have:=drop_none hAB.2
   unfold dropN at this ⊢
   rw [List.filter_cons_of_neg (by simp)]
   exact this
  rw [e2]
 rw [hi,drop_last h0,hL,hb,hN,e,hr]
 have hl:A.length=(A.map (rowN (A++B) (h+1))).length:=by simp
 rw [List.map_append,List.map_append,List.map_cons,if_pos rfl,hl,List.take_left,List.drop_left]
 congr 1
 ·exact List.map_congr_left fun z hz=>by rw [if_neg (hAB.1 z hz)]
 ·congr 1
  exact List.map_congr_left fun z hz=>by rw [if_neg (hAB.2 z hz)]
end
theorem check_sub {l l':List Nd} (hs:l'.Sublist l) (h0:checkN l=0):checkN l'=0:=by
 have hk:=keys_pw (check_keys h0)
 unfold checkN at h0 ⊢
 split at h0
 ·omega
 rename_i hlen
 split at h0
 ·omega
 rename_i hbad
 rw [if_neg (by have:=hs.length_le;omega),if_neg (by
  intro hb
  obtain ⟨x,hx,hxb⟩:=List.any_eq_true.1 hb
  exact hbad (List.any_eq_true.2 ⟨x,hs.subset hx,hxb⟩)),if_neg]
 intro hd
 obtain ⟨i,k,x,y,hki,hx,hy,he⟩:=(dupN_iff _).1 hd
 have h2:=hk.sublist hs
 obtain ⟨hi,e1⟩:=List.getElem?_eq_some_iff.1 hx
 obtain ⟨hk,e2⟩:=List.getElem?_eq_some_iff.1 hy
 have:=List.pairwise_iff_getElem.1 h2 k i hk hi hki
 rw [e1,e2] at this
 unfold eqN at he
 rcases Bool.or_eq_true_iff.1 he with h1 | h1
 ·exact this.2 (by simpa using (beq_iff_eq.1 h1).symm)
 ·exact this.1 (beq_iff_eq.1 h1).symm
section
variable {N:List Nd}
theorem lvl_nat {m:Nat} (hm:m≤16):lvlN (m:Int)=true:=by unfold lvlN;simp;omega
theorem build_two (h0:checkN N=0) {m:Nat} (hm:m≤16):(buildN N (m:Int)).2=0:=by
 unfold buildN
 rw [if_neg (by rw [h0];simp),if_neg (by rw [lvl_nat hm];simp)]
theorem exact_build (h0:checkN N=0) {m:Nat} (hm:m≤16):exactI N (buildN N (m:Int)).1 m=true:=by
 unfold exactI
 rw [build_two h0 hm]
 simp
theorem ins_ok {x:Nd} (h0:checkN (N++[x])=0) {m:Nat} (hm:m≤16) {frm:Int} (hf:N=[]∨(findN N frm).2=true) :
  insertN N (buildN N (m:Int)).1 x frm m=((buildN (N++[x]) m).1,(routeN N (buildN N (m:Int)).1 frm x.key).1.length+visS (N++[x]) x m,0):=by
 have h1:checkN N=0:=check_sub (List.sublist_append_left _ _) h0
 unfold insertN
 rw [if_neg (by rw [lvl_nat hm];simp),if_neg (by rw [exact_build h1 hm];simp),if_neg (by rw [h0];simp),if_neg]
 ·rfl
 ·rintro ⟨g1,g2⟩
  rcases hf with hf | hf
  ·exact g1 hf
  ·rw [hf] at g2;cases g2
theorem rem_ok (h0:checkN N=0) {m:Nat} (hm:m≤16) {x:Nd} (hx:x∈N):removeN N (buildN N (m:Int)).1 x.id m=((buildN (dropN N x.id) m).1,tieN N x.id (m+1),0):=by
 unfold removeN
 rw [if_neg (by rw [lvl_nat hm];simp),if_neg (by rw [exact_build h0 hm];simp),if_neg (by rw [find_in h0 hx];simp)]
 rfl
theorem drop_put (h0:checkN N=0) {x:Nd} (hx:x∈N):(dropN N x.id++[x]).Perm N:=by
 obtain ⟨A,B,rfl⟩:=List.append_of_mem hx
 have hp:(A++x::B).Pairwise fun a b=>a.id≠b.id:=(keys_pw (check_keys h0)).imp fun {a b} h=>h.2
 have hq:=List.pairwise_append.1 hp
 have e:dropN (A++x::B) x.id=A++B:=by
  rw [drop_app,drop_none (fun z hz=>hq.2.2 z hz x (by simp))]
  congr 1
  have:=drop_none (A:=B) (id:=x.id) (fun z hz=>((List.pairwise_cons.1 hq.2.1).1 z hz).symm)
  unfold dropN at this ⊢
  rw [List.filter_cons_of_neg (by simp)]
  exact this
 rw [e]
 exact (List.perm_append_singleton x (A++B)).trans List.perm_middle.symm
theorem put_check (h0:checkN N=0) {x:Nd} (hx:x∈N):checkN (dropN N x.id++[x])=0:=check_perm (drop_put h0 hx) h0
theorem put_build (h0:checkN N=0) {x:Nd} (hx:x∈N) (m:Int):buildN (dropN N x.id++[x]) m=buildN N m:=build_perm (drop_put h0 hx) h0 m
theorem drop_word (hw:∀ x∈N,x.word<4294967296) (id:Int):∀ x∈dropN N id,x.word<4294967296:=fun x hx=>hw x (List.mem_filter.1 hx).1
end
section
variable {α:Type} {sz:Nat} {enc:α→List Value} {e:TypeId} {base:Nat} {w:World} {l:List α} {g n cap:Nat}
theorem OwnW.parts (h:OwnW sz enc e base w (.slice (some ⟨g,0,none⟩) n cap) l):∃ cur:Array Value,n=l.length∧base≤g∧w.heap[g]?=some (.cells cur e (0,0))∧n≤cap∧cap≤maxLen∧cap*sz≤cur.size∧cur.toList.take (n*sz)=l.flatMap enc∧(l.flatMap enc).length=n*sz:=by
 rcases h with ⟨h1,_⟩ | ⟨g',cap',cur,e1,e2,e3,e4,e5,e6,e7⟩
 ·cases h1
 ·obtain ⟨rfl,hLn,rfl⟩:g=g'∧n=l.length∧cap=cap':=by simpa using e1
  subst hLn
  exact ⟨cur,rfl,e2,e3,e4,e5,e6,e7,by have:=congrArg List.length e7;have hm:=Nat.mul_le_mul_right sz e4;have h0:cur.toList.length=cur.size:=Array.length_toList;rw [List.length_take,h0,Nat.min_eq_left (by omega)] at this;exact this.symm⟩
theorem OwnW.ofParts {cur:Array Value} (h1:n=l.length) (h2:base≤g) (h3:w.heap[g]?=some (.cells cur e (0,0))) (h4:n≤cap) (h5:cap≤maxLen) (h6:cap*sz≤cur.size) (h7:cur.toList.take (n*sz)=l.flatMap enc) (h8:(l.flatMap enc).length=n*sz) :
  OwnW sz enc e base w (.slice (some ⟨g,0,none⟩) n cap) l:=by
 subst h1
 exact .inr ⟨g,cap,cur,rfl,h2,h3,h4,h5,h6,h7⟩
theorem OwnW.setcD (h:OwnW sz enc e base w (.slice (some ⟨g,0,none⟩) n cap) l) (v:Value) {j:Nat} (hj:n*sz≤j) :
  OwnW sz enc e base (w.setCell ⟨g,j,none⟩ v) (.slice (some ⟨g,0,none⟩) n cap) l:=by
 obtain ⟨cur,a1,a2,a3,a4,a5,a6,a7,a8⟩:=h.parts
 exact OwnW.ofParts a1 a2 (heap_set a3 j v) a4 a5 (by simp [a6]) (by rw [← a7,Array.toList_setIfInBounds,List.take_set_of_le hj]) a8
theorem OwnW.setcsD:∀ (vs:List Value) (w:World) (j:Nat),n*sz≤j→OwnW sz enc e base w (.slice (some ⟨g,0,none⟩) n cap) l →
  OwnW sz enc e base (w.setCells g j vs) (.slice (some ⟨g,0,none⟩) n cap) l
 | [],_,_,_,h=>h
 | v::vs,w,j,hj,h=>OwnW.setcsD vs _ (j+1) (by omega) (h.setcD v hj)
theorem OwnW.cellC (h:OwnW sz enc e base w (.slice (some ⟨g,0,none⟩) n cap) l) {j:Nat} (hj:j<cap*sz):(w.cell? ⟨g,j,none⟩).isSome=true∧w.frozen? ⟨g,j,none⟩=false:=by
 obtain ⟨cur,a1,a2,a3,a4,a5,a6,a7,a8⟩:=h.parts
 have hsz:j<cur.size:=by omega
 exact ⟨by simp [World.cell?,a3,hsz],by simp [World.frozen?,a3]⟩
theorem run_clear_ownW {P:Program} (h:OwnW sz enc e base w (.slice (some ⟨g,0,none⟩) n cap) l) (m q:Nat) (hm:m+(q+1)≤cap) (z:Value) (zs:Array Value) (hz:(zeroValue e).run P w=.ok z w) (hzc:z.cells=zs) (hzs:zs.size=sz) (hsz:0<sz) (hz1:∀ i,i<sz→(zs[i]!).oneCell'=true)
  (ts ty:TypeId) (hu:P.underlying ts=some (.slice e)) (c':Nat) :
  ∃ vs,(Builtin.clear_ #[ts] ty #[.slice (some ⟨g,m*sz,none⟩) (q+1) c']).run P w=.ok (.tuple #[]) (w.setCells g (m*sz) vs):=by
 obtain ⟨vs,hvs⟩:∃ vs,vs=(Builtin.zeroCells (Value.cells z) (q+1)).toList:=⟨_,rfl⟩
 have hl:vs.length=(q+1)*sz:=by rw [hvs,hzc];simp [Builtin.zeroCells,hzs]
 have hmul:(m+(q+1))*sz≤cap*sz:=Nat.mul_le_mul_right _ hm
 rw [Nat.add_mul] at hmul
 have h1:∀ v∈vs,v.oneCell'=true:=by
  intro v hv
  rw [hvs,hzc] at hv
  simp only [Builtin.zeroCells,Array.toList_map,List.mem_map] at hv
  obtain ⟨i,_,rfl⟩:=hv
  rw [hzs]
  exact hz1 _ (Nat.mod_lt _ hsz)
 have hst:=run_storeCells_cells (P:=P) g (m*sz) vs 0 w (by intro j hj;rw [hl] at hj;exact (h.cellC (by omega)).1) (by intro j hj;rw [hl] at hj;exact (h.cellC (by omega)).2) h1
 simp only [Nat.add_zero] at hst
 refine ⟨vs,?_⟩
 simp [Builtin.clear_,run_underlying hu,hz,← hvs,hst]
theorem chg_setcsW {g:Nat} {w0:World}:∀ (vs:List Value) (w:World) (j:Nat),Chg (fun x=>x<w0.heap.size∧¬ x=g) w0 w→Chg (fun x=>x<w0.heap.size∧¬ x=g) w0 (w.setCells g j vs)
 | [],_,_,h=>h
 | v::vs,w,j,h=>chg_setcsW vs _ (j+1) (h.setCell (p:=⟨g,j,none⟩) v (fun k hk=>hk.2))
theorem wp_append_roomW {P:Program} {o:Oper} {a:Act} {K:Act→World→Prop} {Q:Exit→Act→World→Prop} (s x:Operand) (t:TypeId)
  (ho:o.op=.call { callee:=.builtin .append,args:=#[s,x],argTypes:=#[t,t] })
  (z:Value) (bytes:Nat) (ht:P.underlying t=some (.slice e)) (hi:(P.info? e).map (fun i=>(i.zero,i.size,i.bytes))=some (some z,sz,bytes))
  (hown:OwnW sz enc e base w (.slice (some ⟨g,0,none⟩) n cap) l) (k:Nat) (hk:k≤n) (hs:a.eval s=.slice (some ⟨g,0,none⟩) k cap) (A:Addr) (m c:Nat) (news:List α) (hrd:Sl sz enc w (some A) m news) (hlen:∀ y,(enc y).length=sz) (h1:∀ y,∀ u∈enc y,u.oneCell'=true) (hsz:0<sz)
  (hx:a.eval x=.slice (some A) m c) (hroom:k+m≤cap)
  (h:∀ w',OwnW sz enc e base w' (.slice (some ⟨g,0,none⟩) (k+m) cap) (l.take k++news)→Chg (fun x=>x<w.heap.size∧¬ x=g) w w'→K (a.put o.dst (.slice (some ⟨g,0,none⟩) (k+m) cap)) w'):o.wp P a w K Q:=by
 obtain ⟨i,hi,hz0,hz1,hz2⟩:=info_parts hi
 obtain ⟨cur,a1,a2,a3,a4,a5,a6,a7,a8⟩:=hown.parts
 have hnl:=hrd.len
 have hnew:∀ j u,(news.flatMap enc)[j]?=some u→w.cell? (A.add j)=some u:=by
  intro j u hu
  rcases hrd.2 with h0 | ⟨x,o,e1,_,_⟩
  ·have:news=[]:=List.eq_nil_of_length_eq_zero (hnl.trans h0)
   subst this
   simp at hu
  ·cases e1
   rw [Addr.add_lit]
   exact hrd.flatW hlen hsz j u hu
 have hnf:(news.flatMap enc).length=m*sz:=by rw [flatW_len hlen,hnl]
 have h1f:∀ u∈news.flatMap enc,u.oneCell'=true:=fun u hu=>by
  obtain ⟨y,_,hy⟩:=List.mem_flatMap.1 hu
  exact h1 y u hy
 have hmm:(k+m)*sz≤cap*sz:=Nat.mul_le_mul_right _ hroom
 rw [Nat.add_mul] at hmm
 have htk:cur.toList.take (k*sz)=(l.take k).flatMap enc:=by
  rw [flatN_take hlen,← a7,List.take_take,Nat.min_eq_left (Nat.mul_le_mul_right _ hk)]
 have hlk:(l.take k).length=k:=by rw [List.length_take];omega
 have hrun:=run_append_room (P:=P) w t o.type e i ht hi g k cap cur a3 A m c (news.flatMap enc) (by rw [hz1];exact hnf) hnew h1f hroom (by rw [hz1,hnf];omega)
 have close:∀ v' w',(Builtin.append_ #[t,t] o.type #[.slice (some ⟨g,0,none⟩) k cap,.slice (some A) m c]).run P w=.ok v' w'→K (a.put o.dst v') w'→o.wp P a w K Q:=by
  intro v' w' hr hK
  unfold Oper.wp
  simp [execOp,ho,resolve,invoke,builtin,hs,hx,hr,Result.andThen]
  exact hK
 refine close _ _ hrun (h _ (OwnW.ofParts (by rw [List.length_append,hlk,hnl]) a2 (setRow_heap w g cur _ e _ a3) hroom a5 ?_ ?_ ?_) ⟨rfl,rfl,rfl,by simp [World.setRow],fun k hk=>setRow_other w g k _ (fun he=>hk.2 he)⟩)
 ·simp only [List.size_toArray,List.length_append,List.length_take,List.length_drop,Array.length_toList,hz1,hnf]
  omega
 ·rw [hz1,htk,List.flatMap_append,Nat.add_mul]
  have:((l.take k).flatMap enc++news.flatMap enc).length=k*sz+m*sz:=by rw [List.length_append,flatW_len hlen,hlk,hnf]
  rw [← this]
  exact List.take_left
 ·rw [List.flatMap_append,List.length_append,flatW_len hlen,hlk,hnf,Nat.add_mul]
end
theorem Tryz.zero_delete_lk (w:World):(zeroValue 121).run Tryz.prog w=.ok (.agg #[.int .i64 0,.slice none 0 0]) w:=by kernel_rfl
set_option maxRecDepth 100000 in
set_option maxHeartbeats 4000000 in
theorem delete_lk (v:Value) (l:List (Int×Hdr)) (k:Nat) (w0 w:World) (h:OwnW 2 (encP encI) 121 w0.heap.size w v l) (hk:k<l.length) (hn:l.length≤1000000) (k0:Ex w0 w) :
  Calls Tryz.prog 113 #[v,.int .i64 k,.int .i64 ((k:Int)+1)] w fun e w'=>∃ v',e=.returned v'∧OwnW 2 (encP encI) 121 w0.heap.size w' v' (l.eraseIdx k)∧Ex w0 w'∧Chg (fun x=>x<w.heap.size∧¬ v.ownBlock=some x) w w':=by
 have h9:=h
 rcases h9 with ⟨_,h2⟩ | ⟨g,cap,cur,rfl,hb,_,hlc,hcm,_,_⟩
 ·rw [h2] at hk;simp at hk
 obtain ⟨m,hm⟩:∃ m,l.length=k+1+m:=⟨l.length-(k+1),by omega⟩
 rw [hm] at h hlc hn ⊢
 unfold maxLen at hcm
 have OWN:=lH h
 have HB:=lH hb
 have K0:=lH k0
 have EI:=lH (show l.eraseIdx k=l.take k++l.drop (k+1) from List.eraseIdx_eq_take_drop_succ l k)
 have SLW:=lH (show Sl 2 (encP encI) w (some ⟨g,0,none⟩) l.length l from by
  obtain ⟨a',c',e',r',_⟩:=h.rd (fun _=>rfl)
  have e2:some (⟨g,0,none⟩:Addr)=a'∧k+1+m=l.length∧cap=c':=by simpa using e'
  obtain ⟨rfl,_,rfl⟩:=e2
  exact Rd.mono r' (fun _ hk=>hk.2))
 have HM:=lH hm
 have w1:IntKind.i64.wrap ((k:Int)+1)=(k:Int)+1:=IntWalk.i64_in _ (by omega)
 have t1:((k:Int)+1).toNat=k+1:=by omega
 have b1:(0:Int)≤(k:Int)+1:=by omega
 have b2:(k:Int)≤(k:Int)+1:=by omega
 have b3:(k:Int)+1≤(k:Int)+1+(m:Int):=by omega
 have b4:(k:Int)+1+(m:Int)≤(cap:Int):=by omega
 have b8:(0:Int)≤(k:Int)+(m:Int):=by omega
 have b9:(k:Int)+(m:Int)≤(k:Int)+1+(m:Int):=by omega
 have t2:((k:Int)+(m:Int)).toNat=k+m:=by omega
 have t3:((k:Int)+1+(m:Int)).toNat=k+1+m:=by omega
 have t4:k+1+m-(k+1)=m:=by omega
 have t5:k+1+m-(k+m)=1:=by omega
 have b5:(k:Int)≤(cap:Int):=by omega
 have b6:(k:Int)+1≤(cap:Int):=by omega
 have b7:((k:Int)==(k:Int)+1)=false:=by rw [beq_eq_false_iff_ne];omega
 clear h hb k0 hm hk
 go_enter Tryz.func113,Tryz.ntmps113
 go_upto_region 5 with fail
 have FIN:∀ (wx:World),OwnW 2 (encP encI) 121 w0.heap.size wx (.slice (some ⟨g,0,none⟩) (k+m) cap) (l.eraseIdx k)→Ex w0 wx→Chg (fun x=>x<w.heap.size∧¬ x=g) w wx→∃ vs:List Value,
   (∀ ty c',(Builtin.clear_ #[28] ty #[.slice (some ⟨g,(k+m)*2,none⟩) 1 c']).run Tryz.prog wx=.ok (.tuple #[]) (wx.setCells g ((k+m)*2) vs))∧OwnW 2 (encP encI) 121 w0.heap.size (wx.setCells g ((k+m)*2) vs) (.slice (some ⟨g,0,none⟩) (k+m) cap) (l.eraseIdx k)∧Ex w0 (wx.setCells g ((k+m)*2) vs)∧Chg (fun x=>x<w.heap.size∧¬ (Value.slice (some ⟨g,0,none⟩) (k+1+m) cap).ownBlock=some x) w (wx.setCells g ((k+m)*2) vs):=fun wx O E C=>by
  have hz1:∀ i,i<2→((#[.int .i64 0,.slice none 0 0]:Array Value)[i]!).oneCell'=true:=fun i hi=>match i,hi with
  | 0,_=>rfl
  | 1,_=>rfl
  obtain ⟨vs,hvs⟩:=run_clear_ownW (P:=Tryz.prog) O (k+m) 0 (by omega) (.agg #[.int .i64 0,.slice none 0 0]) #[.int .i64 0,.slice none 0 0] (Tryz.zero_delete_lk wx) rfl rfl (by omega) hz1 28 0 Tryz.underlying28 0
  exact ⟨vs,fun _ _=>hvs,OwnW.setcsD vs wx _ (Nat.le_refl _) O,ex_setcs HB.out vs wx _ E,(chg_setcsW vs wx _ C).mono (fun x hx=>⟨hx.1,fun he=>hx.2 (by rw [he];rfl)⟩)⟩
 by_cases hcap:cap=k+1
 ·subst hcap
  have HRD:Sl 2 (encP encI) w (some ⟨g,0,none⟩) m (l.drop (k+1)):=by
   rw [show m=0 by omega,List.drop_of_length_le (by have:=HM.out;omega)]
   exact Sl.nil _ _ _ _
  have HR:=lH HRD
  clear HRD
  refine wp_region_held_drew (S:=Ex w0) (by kernel_rfl) (K0.out.drew) (fun hHeld=>?_)
  obtain ⟨wd,hwdx⟩:∃ wd:World,wd=World.drew w:=⟨_,rfl⟩
  rw [← hwdx] at hHeld ⊢
  have hDrew:Ex w wd:=by rw [hwdx];exact (Ex.refl w).drew
  clear hwdx
  refine tkH 0 (v:=?_) rfl (by kernel_rfl) (fun _ _ _ h=>h) (by rfl) ?y5 hHeld ?_
  case y5=>intro wq hSw;go_simp<;>rfl
  refine tkH 1 (v:=?_) rfl (by kernel_rfl) (fun _ _ _ h=>h) (by rfl) ?y8 hHeld ?_
  case y8=>intro wq hSw;go_simp<;>rfl
  refine tkH 2 (v:=?_) rfl (by kernel_rfl) (fun _ _ _ h=>h) (by rfl) ?y11 hHeld ?_
  case y11=>intro wq hSw;go_simp<;>rfl
  refine tkH 3 (v:=?_) rfl (by kernel_rfl) (fun _ _ _ h=>h) (by rfl) ?y14 hHeld ?_
  case y14=>intro wq hSw;go_simp<;>rfl
  refine tkH 4 (v:=?_) rfl (by kernel_rfl) (fun _ _ _ h=>h) (by rfl) ?y17 hHeld ?_
  case y17=>intro wq hSw;go_simp<;>rfl
  refine tkH 5 (v:=?_) rfl (by kernel_rfl) (fun _ _ _ h=>h) (by rfl) ?y20 hHeld ?_
  case y20=>intro wq hSw;go_simp<;>rfl
  refine rH 6 (by kernel_rfl) rfl fun K hK=>?_
  rw [if_pos (by rfl)]
  refine wp_append_roomW (enc:=(encP encI)) (.tmp 22) (.tmp 25) 28 rfl (.agg #[.int .i64 0,.slice none 0 0]) 32 Tryz.underlying28 Tryz.infoLd (OWN.out.nx hDrew) k (by omega) rfl ⟨g,0,none⟩ m _ (l.drop (k+1)) (HR.out.nx hDrew) (fun _=>rfl) (by simp [encP,encI,Hdr.val,Value.oneCell']) (by omega) rfl (by omega) ?_
  intro w9 own9 ch0
  replace hHeld:Ex w0 w9:=Chg.trans hHeld (ch0.mono (fun x hx=>⟨Nat.lt_of_lt_of_le hx hHeld.size,fun he=>by have:=HB.out;omega⟩))
  have HC:Chg (fun x=>x<w.heap.size∧¬ x=g) w w9:=Chg.trans (Chg.mono hDrew (fun x hx=>hx.1)) (ch0.mono (fun x hx=>⟨Nat.lt_of_lt_of_le hx.1 hDrew.size,hx.2⟩))
  rw [← EI.out] at own9
  clear ch0
  refine hK.out _ _ (hHeld) (fun hHeld=>?_)
  clear hK K
  refine tkH 7 (v:=?_) rfl (by kernel_rfl) (fun _ _ _ h=>h) (by rfl) ?y35 hHeld ?_
  case y35=>intro wq hSw;go_simp<;>rfl
  refine wpAnyH_done (by kernel_rfl) ?_ _
  obtain ⟨vs,hcl,O9,E9,C9⟩:=FIN w9 own9 hHeld HC
  clear FIN own9 hHeld hDrew HC
  go_wp2_with (simp only [hcl])
  go_ret
  exact ⟨_,rfl,O9,E9,C9⟩
 ·have HRD:Sl 2 (encP encI) w (some ⟨g,(k+1)*2,none⟩) m (l.drop (k+1)):=by
   have:=Sl.drop SLW.out (m:=k+1) (by have:=HM.out;omega)
   rw [Nat.zero_add,show l.length-(k+1)=m by have:=HM.out;omega] at this
   exact this
  have hcap2:¬ k+1=cap:=fun h=>hcap h.symm
  have HR:=lH HRD
  clear HRD
  refine wp_region_held_drew (S:=Ex w0) (by kernel_rfl) (K0.out.drew) (fun hHeld=>?_)
  obtain ⟨wd,hwdx⟩:∃ wd:World,wd=World.drew w:=⟨_,rfl⟩
  rw [← hwdx] at hHeld ⊢
  have hDrew:Ex w wd:=by rw [hwdx];exact (Ex.refl w).drew
  clear hwdx
  refine tkH 0 (v:=?_) rfl (by kernel_rfl) (fun _ _ _ h=>h) (by rfl) ?y5 hHeld ?_
  case y5=>intro wq hSw;go_simp<;>rfl
  refine tkH 1 (v:=?_) rfl (by kernel_rfl) (fun _ _ _ h=>h) (by rfl) ?y8 hHeld ?_
  case y8=>intro wq hSw;go_simp<;>rfl
  refine tkH 2 (v:=?_) rfl (by kernel_rfl) (fun _ _ _ h=>h) (by rfl) ?y11 hHeld ?_
  case y11=>intro wq hSw;go_simp<;>rfl
  refine tkH 3 (v:=?_) rfl (by kernel_rfl) (fun _ _ _ h=>h) (by rfl) ?y14 hHeld ?_
  case y14=>intro wq hSw;go_simp<;>rfl
  refine tkH 4 (v:=?_) rfl (by kernel_rfl) (fun _ _ _ h=>h) (by rfl) ?y17 hHeld ?_
  case y17=>intro wq hSw;go_simp<;>rfl
  refine tkH 5 (v:=?_) rfl (by kernel_rfl) (fun _ _ _ h=>h) (by rfl) ?y20 hHeld ?_
  case y20=>intro wq hSw;go_simp<;>rfl
  refine rH 6 (by kernel_rfl) rfl fun K hK=>?_
  rw [if_pos (by rfl)]
  refine wp_append_roomW (enc:=(encP encI)) (.tmp 22) (.tmp 25) 28 rfl (.agg #[.int .i64 0,.slice none 0 0]) 32 Tryz.underlying28 Tryz.infoLd (OWN.out.nx hDrew) k (by omega) rfl ⟨g,(k+1)*2,none⟩ m _ (l.drop (k+1)) (HR.out.nx hDrew) (fun _=>rfl) (by simp [encP,encI,Hdr.val,Value.oneCell']) (by omega) rfl (by omega) ?_
  intro w9 own9 ch0
  replace hHeld:Ex w0 w9:=Chg.trans hHeld (ch0.mono (fun x hx=>⟨Nat.lt_of_lt_of_le hx hHeld.size,fun he=>by have:=HB.out;omega⟩))
  have HC:Chg (fun x=>x<w.heap.size∧¬ x=g) w w9:=Chg.trans (Chg.mono hDrew (fun x hx=>hx.1)) (ch0.mono (fun x hx=>⟨Nat.lt_of_lt_of_le hx.1 hDrew.size,hx.2⟩))
  rw [← EI.out] at own9
  clear ch0
  refine hK.out _ _ (hHeld) (fun hHeld=>?_)
  clear hK K
  refine tkH 7 (v:=?_) rfl (by kernel_rfl) (fun _ _ _ h=>h) (by rfl) ?y35 hHeld ?_
  case y35=>intro wq hSw;go_simp<;>rfl
  refine wpAnyH_done (by kernel_rfl) ?_ _
  obtain ⟨vs,hcl,O9,E9,C9⟩:=FIN w9 own9 hHeld HC
  clear FIN own9 hHeld hDrew HC
  go_wp2_with (simp only [hcl])
  go_ret
  exact ⟨_,rfl,O9,E9,C9⟩
set_option maxHeartbeats 1000000 in
theorem group_o (a:Option Addr) (n cap:Nat) (l:List Nd) (h:Int) (v:Nat) (w:World) (hr:Sl 3 encN w a n l) (hn:n≤1000)
  (hw:∀ x∈l,x.word<4294967296) (hv:v<4294967296) (hT:TabG w) :
  Calls Tryz.prog 126 #[.slice a n cap,.int .i64 h,.int .u32 v] w fun e w'=>∃ v',e=.returned v'∧OwnL 3 encN 36 w.heap.size w' v' (groupN l h v)∧Ex w w':=by
 have hS:∀ k,k<w.heap.size→k<w.heap.size:=fun _ hk=>hk
 have hlen:=hr.1
 have hlt:=hT.lt
 have HT:=lH hT
 have HL:=lH hlen
 have HW:=lH hw
 clear hT hlen hw
 go_enter Tryz.func126,Tryz.ntmps126
 go_wp2
 go_loopw [7,12] (fun o i wr=>GroupRel l h v w o i wr) (fun _ i _=>n-(intOf i).toNat)
 case atStart=>exact ⟨0,by omega,rfl,OwnL.nil _ _ _ _ _,Chg.refl _ _⟩
 case round =>
  obtain ⟨k,hk,rfl,hown,hc⟩:=hrel
  obtain ⟨wo,rfl⟩:∃ wo:World,wo=wr:=⟨_,rfl⟩
  have hwo:=hr.chg hc hS
  have hsz:=hc.size
  have HT':=lH (HT.out.chg hc hlt)
  have hgl:=groupN_length (l.take k) h v
  rw [List.length_take] at hgl
  have hkl:=HL.out
  by_cases hlt':k<n
  ·obtain ⟨x,o,y,rfl,hx,hy,hcell⟩:=hwo.at hlt'
   have e0:wo.cell? ⟨x,o+k*3,none⟩=some (.int .i64 y.id):=hcell 0 _ rfl
   have e1:wo.cell? ⟨x,o+k*3+1,none⟩=some (.string y.key):=hcell 1 _ rfl
   have e2:wo.cell? ⟨x,o+k*3+1+1,none⟩=some (.int .u32 y.word):=by simpa [Nat.add_assoc] using hcell 2 _ rfl
   have hyw:=HW.out y (List.mem_of_getElem? hy)
   have Hy:=lH hy
   have hc1:=hc.alloc (.cells #[.int .i64 y.id,.string y.key,.int .u32 y.word] 36) (by intro k hk;omega)
   have hown1:=hown.alloc (.cells #[.int .i64 y.id,.string y.key,.int .u32 y.word] 36)
   have HT1:=lH (HT'.out.chg ((Chg.refl (· < wo.heap.size) wo).alloc (.cells #[.int .i64 y.id,.string y.key,.int .u32 y.word] 36) (by simp)) (by omega))
   clear hy hcell hr hwo hkl
   by_cases hs:sameN y.word v h=true
   ·go_wp2_with (first
     | (go_at_call 141;refine (same_p _ _ _ _ hyw hv HT1.out).mono ?_;rintro e w1 ⟨rfl,rfl⟩)
     | (at_builtin;go_loud (refine wpList_append_lit (enc:=encN) (wo.alloc (.cells #[.int .i64 y.id,.string y.key,.int .u32 y.word] 36)) rfl _ _ 25 rfl w.heap.size 36 (.agg #[.int .i64 0,.string ByteArray.empty,.int .u32 0]) 3 32 Tryz.underlying25 Tryz.infoN rfl (by omega) (by omega) _ _ hown1 rfl y _ rfl rfl (by simp [encN,Value.oneCell']) _ (by simp) rfl (by omega) (by simp;omega) _ ?_);intro v' w3 hown3 _ hch3 hz3))
    go_roundw
    case rel=>exact ⟨k+1,by have:=HL.out;omega,by go_num,by rw [groupN_snoc l h v k y Hy.out,if_pos hs];exact hown3,hc1.then hch3 (fun _ h=>h)⟩
    case measure=>simp [intOf];omega
   ·have hs:sameN y.word v h=false:=by simpa using hs
    go_wp2_with (go_at_call 141;refine (same_p _ _ _ _ hyw hv HT1.out).mono ?_;rintro e w1 ⟨rfl,rfl⟩)
    go_roundw
    case rel=>exact ⟨k+1,by have:=HL.out;omega,by go_num,by rw [groupN_snoc l h v k y Hy.out,if_neg (by simp [hs])];exact hown1,hc1⟩
    case measure=>simp [intOf];omega
  ·obtain rfl:k=n:=by omega
   rw [List.take_of_length_le (by omega)] at hown
   have OW:=lH hown
   clear hown hr hwo
   go_wp2
   go_ret
   exact ⟨_,rfl,OW.out,hc⟩
def gtP (N:List Nd) (own:Nd) (id:Int):Bool:=!(Op.bytesLess (findN N id).1.key.toList own.key.toList||((findN N id).1.key.toList==own.key.toList))
def insAt (l:List Int) (i:Nat) (v:Int):List Int:=l.take i++v::l.drop i
theorem findIdx_two {p:Int→Bool} {A B:List Int} (hA:∀ u∈A,p u=false) (hB:∀ u∈B,p u=true):(A++B).findIdx p=A.length:=by
 have h1:A.findIdx p=A.length:=List.findIdx_eq_length.2 (by simpa using hA)
 rw [List.findIdx_append,if_neg (by omega)]
 cases B with
 | nil=>simp
 | cons b B=>simp [List.findIdx_cons,hB b (by simp)]
section
variable {N:List Nd}
theorem row_law (h0:checkN N=0) {x:Nd} (hx:x∈N) {p:Pr} (hid:x.id=p.id):insAt (refsN N p) ((refsN N p).findIdx (gtP N x)) p.id=arN N p:=by
 obtain ⟨A,B,e⟩:=List.append_of_mem ((sortN_mem N x).2 hx)
 have hs:=sortN_str h0
 unfold AscS at hs
 rw [e] at hs
 have hA:∀ y∈A,Op.bytesLess y.key.toList x.key.toList=true∧y.id≠x.id:=fun y hy=>(List.pairwise_append.1 hs).2.2 y hy x (by simp)
 have hB:∀ y∈B,Op.bytesLess x.key.toList y.key.toList=true∧x.id≠y.id:=fun y hy=>(List.pairwise_cons.1 (List.pairwise_append.1 hs).2.1).1 y hy
 have mA:∀ y∈A,y∈N:=fun y hy=>(sortN_mem N y).1 (by rw [e];simp [hy])
 have mB:∀ y∈B,y∈N:=fun y hy=>(sortN_mem N y).1 (by rw [e];simp [hy])
 have hr:refsN N p=(A.filter fun y=>(numsP p).contains y.id).map Nd.id++(B.filter fun y=>(numsP p).contains y.id).map Nd.id:=by
  have fA:(A.filter fun y=>!(y.id==p.id)&&(numsP p).contains y.id)=A.filter fun y=>(numsP p).contains y.id:=List.filter_congr fun y hy=>by
   have h1:=(hA y hy).2
   rw [hid] at h1
   simp [h1]
  have fB:(B.filter fun y=>!(y.id==p.id)&&(numsP p).contains y.id)=B.filter fun y=>(numsP p).contains y.id:=List.filter_congr fun y hy=>by
   have h1:=(hB y hy).2
   rw [hid] at h1
   simp [Ne.symm h1]
  unfold refsN
  rw [if_pos h0]
  unfold ordN
  rw [e,List.filter_append,List.filter_cons_of_neg (by simp [hid]),fA,fB,List.map_append]
 have ha:arN N p=(A.filter fun y=>(numsP p).contains y.id).map Nd.id++p.id::(B.filter fun y=>(numsP p).contains y.id).map Nd.id:=by
  have fA:(A.filter fun y=>y.id==p.id||(numsP p).contains y.id)=A.filter fun y=>(numsP p).contains y.id:=List.filter_congr fun y hy=>by
   have h1:=(hA y hy).2
   rw [hid] at h1
   simp [h1]
  have fB:(B.filter fun y=>y.id==p.id||(numsP p).contains y.id)=B.filter fun y=>(numsP p).contains y.id:=List.filter_congr fun y hy=>by
   have h1:=(hB y hy).2
   rw [hid] at h1
   simp [Ne.symm h1]
  rw [ar_eq h0 hx hid,e,List.filter_append,List.filter_cons_of_pos (by simp [hid]),fA,fB,List.map_append,List.map_cons,hid]
 have hi:(refsN N p).findIdx (gtP N x)=((A.filter fun y=>(numsP p).contains y.id).map Nd.id).length:=by
  rw [hr]
  refine findIdx_two (fun u hu=>?_) (fun u hu=>?_)
  ·obtain ⟨y,hy,rfl⟩:=List.mem_map.1 hu
   have hy:=(List.mem_filter.1 hy).1
   unfold gtP
   rw [find_in h0 (mA y hy),(hA y hy).1]
   rfl
  ·obtain ⟨y,hy,rfl⟩:=List.mem_map.1 hu
   have hy:=(List.mem_filter.1 hy).1
   have h1:=(hB y hy).1
   have h2:=bl_asymm h1
   have h3:(y.key.toList==x.key.toList)=false:=by
    rw [beq_eq_false_iff_ne]
    intro he
    rw [he,bytesLess_irrefl] at h1
    cases h1
   unfold gtP
   rw [find_in h0 (mB y hy),h2,h3]
   rfl
 rw [hi,ha,hr]
 unfold insAt
 rw [List.take_left,List.drop_left]
theorem ord_congr {l l':List Int} {but:Int} (h:∀ v,v∈l↔v∈l'):ordN N l but=ordN N l' but:=by
 unfold ordN
 congr 1
 refine List.filter_congr fun y _=>?_
 rw [Bool.eq_iff_iff]
 simp only [Bool.and_eq_true,List.contains_iff_mem,h]
theorem known_eq (h0:checkN N=0) (id l r:Int) (T:List Int):refsN N ⟨id,l,r,T,[]⟩=ordN N ([l,r]++T) id:=by
 unfold refsN
 rw [if_pos h0]
 refine ord_congr fun v=>?_
 unfold numsP
 simp only [List.flatMap_nil,List.append_nil,List.mem_append,List.mem_cons,List.not_mem_nil,or_false]
 exact Or.comm
theorem ar_ids (p:Pr):∀ v∈arN N p,∃ x∈N,x.id=v:=by
 intro v hv
 unfold arN at hv
 split at hv
 ·exact (mem_ord.1 hv).1
 ·cases hv
theorem ord_len (l:List Int) (but:Int):(ordN N l but).length≤N.length:=by
 unfold ordN
 rw [List.length_map]
 exact Nat.le_trans (List.length_filter_le _ _) (Nat.le_of_eq (sortN_length N))
theorem ar_len (p:Pr):(arN N p).length≤N.length:=by
 unfold arN
 split
 ·exact ord_len _ _
 ·exact Nat.zero_le _
theorem ar_nodup' (p:Pr):(arN N p).Nodup:=by
 by_cases h0:checkN N=0
 ·exact ar_nodup h0
 ·unfold arN
  rw [if_neg (fun h=>h0 h.2)]
  exact List.Pairwise.nil
end
theorem zip_at {l:List Int} {j:Nat} {a b:Int} (ha:l[j]?=some a) (hb:l[j+1]?=some b):(l.zip l.tail)[j]?=some (a,b):=by
 rw [List.getElem?_zip_eq_some]
 exact ⟨ha,by rw [List.getElem?_tail];exact hb⟩
theorem prs_snoc {id:Int} {l:List Int} {j:Nat} {a b:Int} (ha:l[j]?=some a) (hb:l[j+1]?=some b) :
  ((l.zip l.tail).take (j+1)).flatMap (pr2 id)=((l.zip l.tail).take j).flatMap (pr2 id)++pr2 id (a,b):=by
 rw [List.take_add_one,zip_at ha hb,List.flatMap_append]
 simp
theorem prs_all {id:Int} {l:List Int} {j:Nat} (hj:l.length≤j+1):((l.zip l.tail).take j).flatMap (pr2 id)=prsN id l:=by
 unfold prsN
 rw [List.take_of_length_le (by rw [List.length_zip,List.length_tail];omega)]
theorem pr2_len (id:Int) (q:Int×Int):(pr2 id q).length≤2:=by
 unfold pr2
 rw [List.length_append]
 split<;>split<;>simp
theorem prs_take_len (id:Int) (L:List (Int×Int)):(L.flatMap (pr2 id)).length≤2*L.length:=by
 induction L with
 | nil=>simp
 | cons a L ih =>
  rw [List.flatMap_cons,List.length_append,List.length_cons]
  have:=pr2_len id a
  omega
theorem prs_len (id:Int) (l:List Int):(prsN id l).length≤2*l.length:=by
 unfold prsN
 have:=prs_take_len id (l.zip l.tail)
 rw [List.length_zip,List.length_tail] at this
 omega
theorem intros_len (N:List Nd) (p:Pr):(introsN N p).length≤2*N.length:=by
 have h1:=prs_len p.id (arN N p)
 have h2:=ar_len (N:=N) p
 unfold introsN
 omega
theorem prs_from {id:Int} {l:List Int} {q:Int×Int} (h:q∈prsN id l):q.1∈l∧q.2∈l:=by
 obtain ⟨_,A,B,e | e⟩:=prs_inv (u:=q.1) (v:=q.2) h<;>rw [e]<;>simp
theorem told_snoc (M:List (Int×Int)) (m:Int×Int) (id:Int):toldN (M++[m]) id=toldN M id++(if m.1=id then [m.2] else []):=by
 unfold toldN
 rw [List.filter_append,List.map_append]
 congr 1
 by_cases h:m.1=id
 ·rw [if_pos h];simp [h]
 ·rw [if_neg h];simp [h]
theorem told_len (M:List (Int×Int)) (id:Int):(toldN M id).length≤M.length:=by
 unfold toldN
 rw [List.length_map]
 exact List.length_filter_le _ _
theorem bes_nodup {id:Int} {l:List Int} (hd:l.Nodup) {i:Nat} (hi:l[i]?=some id):besN id l=((if i=0 then 0 else l[i-1]?.getD 0),l[i+1]?.getD 0):=by
 have hf:l.findIdx? (·==id)=some i:=by
  rw [List.findIdx?_eq_some_iff_getElem]
  obtain ⟨h1,h2⟩:=List.getElem?_eq_some_iff.1 hi
  refine ⟨h1,by simp [h2],fun j hj=>?_⟩
  have:=(List.pairwise_iff_getElem.1 hd) j i (by omega) h1 hj
  rw [h2] at this
  simpa using this
 unfold besN
 rw [hf]
theorem bes_none {id:Int} {l:List Int} (h:id∉l):besN id l=(0,0):=by
 have hf:l.findIdx? (·==id)=none:=by
  rw [List.findIdx?_eq_none_iff]
  intro x hx
  simp only [beq_eq_false_iff_ne]
  intro he
  exact h (he▸hx)
 unfold besN
 rw [hf]
end Go.Proofs.YthcholmhmcpooaaGreatDoor
