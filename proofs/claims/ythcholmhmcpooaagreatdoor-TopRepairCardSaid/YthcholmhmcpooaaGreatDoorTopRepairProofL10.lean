/- Texts for TopRepairProof. -/
import Derived.Test.YthcholmhmcpooaaGreatDoorTopRepairProofL3
set_option linter.unusedSimpArgs false
set_option linter.unusedVariables false

namespace Go.Proofs.YthcholmhmcpooaaGreatDoor
open Go.RowKit
theorem sameN_refl (a:Nat) {h:Int} (hh:h≤16):sameN a a h=true:=by unfold sameN;rw [common_self];simpa using hh
theorem sameN_symm {a b:Nat} {h:Int} (hs:sameN a b h=true):sameN b a h=true:=by unfold sameN at *;rw [commonN_comm];exact hs
theorem sameN_trans {a b c:Nat} {h:Int} (ha:a<4294967296) (hb:b<4294967296) (hc:c<4294967296) (h1:sameN a b h=true) (h2:sameN b c h=true):sameN a c h=true:=by
 unfold sameN at *
 have:=common_min ha hb hc
 simp at *
 omega
theorem same_succ {a b m:Nat} (ha:a<4294967296) (hb:b<4294967296) (hm:m<16) :
  sameN a b ((m:Int)+1)=true↔sameN a b m=true∧bitN a m=bitN b m:=by
 have key:a.testBit m=b.testBit m↔bitN a m=bitN b m:=by
  rw [bitN_of a m hm,bitN_of b m hm];exact bit_eq_iff a b m
 unfold sameN
 simp only [decide_eq_true_eq]
 constructor
 ·intro h
  exact ⟨by omega,key.1 (common_lt ha hb (by omega))⟩
 ·rintro ⟨h1,h2⟩
  rcases Nat.lt_or_ge m (commonN a b) with h | h
  ·omega
  ·exfalso
   have he:commonN a b=m:=by omega
   have:=common_at ha hb (by omega)
   rw [he] at this
   exact this (key.2 h2)
theorem stepC_cases (h:Int) (C:List (List Nd)) (x:Nd) :
  ((∀ c∈C,sameN (headW c) x.word h=false)∧stepC h C x=C++[[x]]) ∨
  ∃ K c,C[K]?=some c∧sameN (headW c) x.word h=true∧stepC h C x=C.set K (c++[x]):=by
 have hle:=idxC_le C x.word h
 by_cases hK:idxC C x.word h=C.length
 ·refine .inl ⟨fun c hc=>?_,?_⟩
  ·have:=(List.findIdx_eq_length.1 hK) c hc
   simpa using this
  ·unfold stepC padC
   rw [hK,if_pos rfl,List.getElem?_append_right (Nat.le_refl _)]
   simp
 ·refine .inr ⟨idxC C x.word h,C[idxC C x.word h]'(by omega),by simp,?_,?_⟩
  ·exact List.findIdx_getElem (p:=fun c=>sameN (headW c) x.word h) (w:=by unfold idxC at *;omega)
  ·unfold stepC padC
   rw [if_neg hK]
   congr 2
   rw [List.getElem?_eq_getElem (by omega)]
   rfl
structure Cls (h:Int) (l:List Nd) (C:List (List Nd)):Prop where
 all:∀ y∈l,∃ c∈C,y∈c
 mem:∀ c∈C,0<c.length∧∀ y∈c,y∈l∧sameN (headW c) y.word h=true
 heads:∀ (i j:Nat) ci cj,C[i]?=some ci→C[j]?=some cj→sameN (headW ci) (headW cj) h=true→i=j
theorem headW_mem {c:List Nd} (h:0<c.length):∃ y∈c,headW c=y.word:=by
 cases c with
 | nil=>simp at h
 | cons y r=>exact ⟨y,by simp,rfl⟩
theorem headW_snoc {c:List Nd} (x:Nd) (h:0<c.length):headW (c++[x])=headW c:=by
 cases c with
 | nil=>simp at h
 | cons y r=>rfl
theorem Cls.step {h:Int} {l:List Nd} {C:List (List Nd)} {x:Nd} (hh:h≤16) (H:Cls h l C) (hl:∀ y∈l,y.word<4294967296) (hx:x.word<4294967296):Cls h (l++[x]) (stepC h C x):=by
 have hw:∀ c∈C,headW c<4294967296:=fun c hc=>by
  obtain ⟨y,hy,he⟩:=headW_mem (H.mem c hc).1
  rw [he];exact hl y ((H.mem c hc).2 y hy).1
 rcases stepC_cases h C x with ⟨hno,he⟩ | ⟨K,c,hc,hs,he⟩
 ·rw [he]
  refine ⟨fun y hy=>?_,fun d hd=>?_,fun i j ci cj hi hj hs=>?_⟩
  ·rcases List.mem_append.1 hy with hy | hy
   ·obtain ⟨c,hc,hyc⟩:=H.all y hy
    exact ⟨c,List.mem_append_left _ hc,hyc⟩
   ·exact ⟨[x],by simp,hy⟩
  ·rcases List.mem_append.1 hd with hd | hd
   ·exact ⟨(H.mem d hd).1,fun y hy=>⟨List.mem_append_left _ ((H.mem d hd).2 y hy).1,((H.mem d hd).2 y hy).2⟩⟩
   ·rw [List.mem_singleton.1 hd]
    refine ⟨by simp,fun y hy=>?_⟩
    rw [List.mem_singleton.1 hy]
    exact ⟨by simp,sameN_refl _ hh⟩
  ·have last:∀ (i:Nat) ci,(C++[[x]])[i]?=some ci→(i<C.length∧C[i]?=some ci)∨(i=C.length∧ci=[x]):=by
    intro i ci hi
    rcases Nat.lt_or_ge i C.length with h | h
    ·rw [List.getElem?_append_left h] at hi;exact .inl ⟨h,hi⟩
    ·have:=(List.getElem?_eq_some_iff.1 hi).1
     simp at this
     obtain rfl:i=C.length:=by omega
     simp at hi
     exact .inr ⟨rfl,hi.symm⟩
   rcases last i ci hi with ⟨h1,h2⟩ | ⟨h1,h2⟩<;>rcases last j cj hj with ⟨h3,h4⟩ | ⟨h3,h4⟩
   ·exact H.heads i j ci cj h2 h4 hs
   ·rw [h4] at hs
    have:=hno ci (List.mem_of_getElem? h2)
    rw [show headW [x]=x.word from rfl,this] at hs
    cases hs
   ·rw [h2] at hs
    have:=hno cj (List.mem_of_getElem? h4)
    have hs:=sameN_symm hs
    rw [show headW [x]=x.word from rfl,this] at hs
    cases hs
   ·omega
 ·rw [he]
  have hcm:=H.mem c (List.mem_of_getElem? hc)
  have hKl:=(List.getElem?_eq_some_iff.1 hc).1
  refine ⟨fun y hy=>?_,fun d hd=>?_,fun i j ci cj hi hj hs=>?_⟩
  ·rcases List.mem_append.1 hy with hy | hy
   ·obtain ⟨d,hd,hyd⟩:=H.all y hy
    obtain ⟨j,hj⟩:=List.mem_iff_getElem?.1 hd
    by_cases hjK:j=K
    ·subst hjK
     obtain rfl:c=d:=Option.some.inj (hc.symm.trans hj)
     exact ⟨c++[x],List.mem_iff_getElem?.2 ⟨j,by rw [List.getElem?_set_self hKl]⟩,List.mem_append_left _ hyd⟩
    ·exact ⟨d,List.mem_iff_getElem?.2 ⟨j,by rw [List.getElem?_set_ne (by omega)];exact hj⟩,hyd⟩
   ·exact ⟨c++[x],List.mem_iff_getElem?.2 ⟨K,by rw [List.getElem?_set_self hKl]⟩,by rw [List.mem_singleton.1 hy];simp⟩
  ·rcases List.mem_or_eq_of_mem_set hd with hd | rfl
   ·exact ⟨(H.mem d hd).1,fun y hy=>⟨List.mem_append_left _ ((H.mem d hd).2 y hy).1,((H.mem d hd).2 y hy).2⟩⟩
   ·refine ⟨by simp,fun y hy=>?_⟩
    rw [headW_snoc x hcm.1]
    rcases List.mem_append.1 hy with hy | hy
    ·exact ⟨List.mem_append_left _ (hcm.2 y hy).1,(hcm.2 y hy).2⟩
    ·rw [List.mem_singleton.1 hy];exact ⟨by simp,hs⟩
  ·have hd:∀ (i:Nat) ci,(C.set K (c++[x]))[i]?=some ci→∃ di,C[i]?=some di∧headW ci=headW di:=by
    intro i ci hi
    by_cases hiK:i=K
    ·subst hiK
     rw [List.getElem?_set_self hKl] at hi
     cases hi
     exact ⟨c,hc,headW_snoc x hcm.1⟩
    ·rw [List.getElem?_set_ne (by omega)] at hi
     exact ⟨ci,hi,rfl⟩
   obtain ⟨di,h1,h2⟩:=hd i ci hi
   obtain ⟨dj,h3,h4⟩:=hd j cj hj
   rw [h2,h4] at hs
   exact H.heads i j di dj h1 h3 hs
theorem snoc_ind {α:Type} {P:List α→Prop} (h0:P []) (h1:∀ l x,P l→P (l++[x])) (l:List α):P l:=by
 have:∀ l:List α,P l.reverse:=by
  intro l
  induction l with
  | nil=>exact h0
  | cons x r ih=>rw [List.reverse_cons];exact h1 _ _ ih
 have:=this l.reverse
 rwa [List.reverse_reverse] at this
theorem foldC_append (h:Int) (l:List Nd) (x:Nd):foldC h (l++[x])=stepC h (foldC h l) x:=by unfold foldC;rw [List.foldl_append];rfl
open Classical in
noncomputable def cntN (h:Int):List Nd→Nat
 | []=>0
 | x::l=>cntN h l+if ∃ y∈l,sameN y.word x.word h=true then 0 else 1
open Classical in
theorem foldC_cnt {h:Int} (hh:h≤16) (l:List Nd) (hl:∀ y∈l,y.word<4294967296):Cls h l (foldC h l)∧(foldC h l).length=cntN h l.reverse:=by
 induction l using snoc_ind with
 | h0=>exact ⟨⟨by simp,by simp [foldC],by simp [foldC]⟩,rfl⟩
 | h1 l x ih =>
  have hl':∀ y∈l,y.word<4294967296:=fun y hy=>hl y (List.mem_append_left _ hy)
  have hx:x.word<4294967296:=hl x (by simp)
  obtain ⟨H1,H3⟩:=ih hl'
  rw [foldC_append]
  refine ⟨H1.step hh hl' hx,?_⟩
  rw [List.reverse_append,List.reverse_singleton,List.singleton_append]
  unfold cntN
  rw [← H3]
  generalize foldC h l=C at H1
  have hw1:∀ c∈C,headW c<4294967296:=fun c hc=>by
   obtain ⟨y,hy,he⟩:=headW_mem (H1.mem c hc).1
   rw [he];exact hl' y ((H1.mem c hc).2 y hy).1
  rcases stepC_cases h C x with ⟨hno,he⟩ | ⟨K,d,hd,hs,he⟩
  ·rw [he,if_neg]
   ·simp
   ·rintro ⟨y,hy,h1⟩
    obtain ⟨c,hc,hyc⟩:=H1.all y (List.mem_reverse.1 hy)
    have:=sameN_trans (hw1 c hc) (hl' y (List.mem_reverse.1 hy)) hx ((H1.mem c hc).2 y hyc).2 h1
    rw [hno c hc] at this
    cases this
  ·rw [he,if_pos]
   ·simp
   ·have hdC:=List.mem_of_getElem? hd
    obtain ⟨y,hy,hye⟩:=headW_mem (H1.mem d hdC).1
    refine ⟨y,List.mem_reverse.2 ((H1.mem d hdC).2 y hy).1,?_⟩
    rw [← hye];exact hs
theorem classes_le (l:List Nd) (h:Int):(classesN l h).length≤l.length:=by
 by_cases h16:16<h
 ·rw [classesN_big h16];simp
 ·rw [classesN_fold h16];exact foldC_length h l
end Go.Proofs.YthcholmhmcpooaaGreatDoor
