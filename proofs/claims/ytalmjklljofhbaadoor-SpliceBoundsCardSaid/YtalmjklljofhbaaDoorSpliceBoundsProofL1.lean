/- Texts for SpliceBoundsProof. -/
import Derived.Test.YtalmjklljofhbaaDoorSdAll24
import Derived.Test.YtalmjklljofhbaaDoorSdAll25
import Derived.Test.YtalmjklljofhbaaDoorSdBC1
set_option linter.unusedSimpArgs false
set_option linter.unusedVariables false

namespace Go.Proofs.YtalmjklljofhbaaDoor
open Go.RowKit
theorem bitN_of (a i:Nat) (hi:i<16):bitN a i=a / 2 ^ i % 2:=by unfold bitN;rw [if_neg (by omega)];simp
theorem testBit_of (a i:Nat):a.testBit i=decide (a / 2 ^ i % 2=1):=by
 rw [Nat.testBit_eq_decide_div_mod_eq]
theorem bit_eq_iff (a b i:Nat):a.testBit i=b.testBit i↔a / 2 ^ i % 2=b / 2 ^ i % 2:=by
 rw [testBit_of,testBit_of]
 have h1:=Nat.mod_lt (a / 2 ^ i) (show 2>0 by omega)
 have h2:=Nat.mod_lt (b / 2 ^ i) (show 2>0 by omega)
 constructor
 ·intro h
  by_cases h3:a / 2 ^ i % 2=1
  ·have:b / 2 ^ i % 2=1:=by simpa [h3] using h.symm
   omega
  ·have:¬ b / 2 ^ i % 2=1:=by simpa [h3] using h.symm
   omega
 ·intro h;rw [h]
theorem bitN_lt (a:Nat) (i:Int):bitN a i<2:=by unfold bitN;split<;>omega
def heightN (l:List Nd):Nat:=if (checkN l==0)=false∨l.length=0 then 0 else ((List.range 16).find? fun h=>!decide ((classesN (sortN l) (h:Nat)).length<l.length)).getD 16
theorem heightN_of {l:List Nd} {k:Nat} (hk:k<16) (h1:(checkN l==0)=true) (h2:l.length≠0) (hk2:¬ (classesN (sortN l) (k:Nat)).length<l.length) (hno:∀ j,j<k→(classesN (sortN l) (j:Nat)).length<l.length):heightN l=k:=by
 have:(List.range 16).find? (fun h=>!decide ((classesN (sortN l) (h:Nat)).length<l.length))=some k:=by
  rw [List.find?_eq_some_iff_getElem]
  refine ⟨by simpa using hk2,k,by simpa using hk,by simp,fun j hj=>?_⟩
  have:=hno j hj
  simpa using this
 unfold heightN
 rw [if_neg (by rw [h1];simp [h2]),this]
 rfl
theorem heightN_top {l:List Nd} (h1:(checkN l==0)=true) (h2:l.length≠0) (hno:∀ j,j<16→(classesN (sortN l) (j:Nat)).length<l.length):heightN l=16:=by
 have:(List.range 16).find? (fun h=>!decide ((classesN (sortN l) (h:Nat)).length<l.length))=none:=by
  rw [List.find?_eq_none]
  intro j hj
  have:=hno j (by simpa using hj)
  simpa using this
 unfold heightN
 rw [if_neg (by rw [h1];simp [h2]),this]
 rfl
theorem same_succ {a b m:Nat} (ha:a<4294967296) (hb:b<4294967296) (hm:m<16) :
  sameN a b ((m:Int)+1)=true↔sameN a b m=true∧bitN a m=bitN b m:=by
 have key:a.testBit m=b.testBit m↔bitN a m=bitN b m:=by
  rw [bitN_of a m hm,bitN_of b m hm];exact bit_eq_iff a b m
 unfold sameN
 simp only [decide_eq_true_eq]
 constructor
 ·intro h
  exact ⟨by omega,key.1 (common_lt ha hb (by omega))⟩
 ·rintro ⟨h1,h2⟩
  rcases Nat.lt_or_ge m (commonN a b) with h | h
  ·omega
  ·exfalso
   have he:commonN a b=m:=by omega
   have:=common_at ha hb (by omega)
   rw [he] at this
   exact this (key.2 h2)
def onesN (c:List Nd) (m:Nat):Nat:=(c.map fun y=>bitN y.word m).sum
def partC (m:Nat) (c:List Nd):Nat:=(if 0<onesN c m then 1 else 0)+(if onesN c m<c.length then 1 else 0)
def partsC (m:Nat) (C:List (List Nd)):Nat:=(C.map (partC m)).sum
def lensC (C:List (List Nd)):Nat:=(C.map List.length).sum
theorem ones_le (c:List Nd) (m:Nat):onesN c m≤c.length:=by
 unfold onesN
 induction c with
 | nil=>simp
 | cons y r ih=>have:=bitN_lt y.word m;simp at *;omega
theorem ones_pos (c:List Nd) (m:Nat):0<onesN c m↔∃ y∈c,bitN y.word m=1:=by
 unfold onesN
 induction c with
 | nil=>simp
 | cons y r ih =>
  have h:=bitN_lt y.word m
  simp only [List.map_cons,List.sum_cons,List.mem_cons,exists_eq_or_imp]
  rw [← ih]
  omega
theorem ones_lt (c:List Nd) (m:Nat):onesN c m<c.length↔∃ y∈c,bitN y.word m=0:=by
 induction c with
 | nil=>simp [onesN]
 | cons y r ih =>
  have h:=bitN_lt y.word m
  have h2:=ones_le r m
  have h3:onesN (y::r) m=bitN y.word m+onesN r m:=by unfold onesN;simp
  rw [h3]
  simp only [List.mem_cons,exists_eq_or_imp,List.length_cons]
  rw [← ih]
  omega
theorem ones_snoc (c:List Nd) (x:Nd) (m:Nat):onesN (c++[x]) m=onesN c m+bitN x.word m:=by unfold onesN;simp
theorem part_snoc (c:List Nd) (x:Nd) (m:Nat):partC m (c++[x])=partC m c+if (∃ y∈c,bitN y.word m=bitN x.word m) then 0 else 1:=by
 unfold partC
 rw [ones_snoc,List.length_append,List.length_singleton]
 have hle:=ones_le c m
 have hp:=ones_pos c m
 have hq:=ones_lt c m
 have hb:=bitN_lt x.word m
 rcases Nat.lt_or_ge (bitN x.word m) 1 with h0 | h1
 ·have hz:bitN x.word m=0:=by omega
  rw [hz]
  simp only [← hq]
  split<;>split<;>split<;>split<;>omega
 ·have hz:bitN x.word m=1:=by omega
  rw [hz]
  simp only [← hp]
  split<;>split<;>split<;>split<;>omega
theorem part_one (x:Nd) (m:Nat):partC m [x]=1:=by
 have hb:=bitN_lt x.word m
 unfold partC onesN
 simp
 split<;>split<;>omega
theorem sum_set:∀ (l:List Nat) (k v u:Nat),l[k]?=some u→(l.set k v).sum+u=l.sum+v
 | [],k,v,u,h=>by simp at h
 | y::r,0,v,u,h=>by simp at h;subst h;simp;omega
 | y::r,k+1,v,u,h=>by
  have:=sum_set r k v u (by simpa using h)
  simp;omega
theorem lensC_step (h:Int) (C:List (List Nd)) (x:Nd):lensC (stepC h C x)=lensC C+1:=by
 unfold lensC
 rcases stepC_cases h C x with ⟨_,he⟩ | ⟨K,c,hc,hs,he⟩
 ·rw [he];simp
 ·rw [he,List.map_set]
  have:=sum_set (C.map List.length) K (c++[x]).length c.length (by simp [hc])
  simp at *
  omega
theorem split_law (m:Nat) (hm:m<16) (l:List Nd) (hl:∀ y∈l,y.word<4294967296) :
  Cls m l (foldC m l)∧Cls ((m:Int)+1) l (foldC ((m:Int)+1) l)∧(foldC ((m:Int)+1) l).length=partsC m (foldC m l)∧lensC (foldC m l)=l.length:=by
 induction l using snoc_ind with
 | h0=>exact ⟨⟨by simp,by simp [foldC],by simp [foldC]⟩,⟨by simp,by simp [foldC],by simp [foldC]⟩,rfl,rfl⟩
 | h1 l x ih =>
  have hl':∀ y∈l,y.word<4294967296:=fun y hy=>hl y (List.mem_append_left _ hy)
  have hx:x.word<4294967296:=hl x (by simp)
  obtain ⟨H1,H2,H3,H4⟩:=ih hl'
  rw [foldC_append,foldC_append]
  refine ⟨H1.step (by omega) hl' hx,H2.step (by omega) hl' hx,?_,by rw [lensC_step,H4];simp⟩
  generalize foldC (m:Int) l=C at H1 H3 H4
  generalize foldC ((m:Int)+1) l=D at H2 H3
  have hw1:∀ c∈C,headW c<4294967296:=fun c hc=>by
   obtain ⟨y,hy,he⟩:=headW_mem (H1.mem c hc).1
   rw [he];exact hl' y ((H1.mem c hc).2 y hy).1
  have hw2:∀ c∈D,headW c<4294967296:=fun c hc=>by
   obtain ⟨y,hy,he⟩:=headW_mem (H2.mem c hc).1
   rw [he];exact hl' y ((H2.mem c hc).2 y hy).1
  -- whether a class of D takes x
  have take:∀ y∈l,sameN y.word x.word m=true→bitN y.word m=bitN x.word m→∃ d∈D,sameN (headW d) x.word ((m:Int)+1)=true:=by
   intro y hy h1 h2
   obtain ⟨d,hd,hyd⟩:=H2.all y hy
   exact ⟨d,hd,sameN_trans (hw2 d hd) (hl' y hy) hx ((H2.mem d hd).2 y hyd).2 ((same_succ (hl' y hy) hx hm).2 ⟨h1,h2⟩)⟩
  have back:∀ d∈D,sameN (headW d) x.word ((m:Int)+1)=true→∃ y∈l,sameN y.word x.word m=true∧bitN y.word m=bitN x.word m:=by
   intro d hd hs
   obtain ⟨y,hy,he⟩:=headW_mem (H2.mem d hd).1
   have hyl:=((H2.mem d hd).2 y hy).1
   rw [he] at hs
   exact ⟨y,hyl,(same_succ (hl' y hyl) hx hm).1 hs⟩
  have hD:(stepC ((m:Int)+1) D x).length=D.length+if (∃ y∈l,sameN y.word x.word m=true∧bitN y.word m=bitN x.word m) then 0 else 1:=by
   rcases stepC_cases ((m:Int)+1) D x with ⟨hno,he⟩ | ⟨K,d,hd,hs,he⟩
   ·rw [he,if_neg]
    ·simp
    ·rintro ⟨y,hy,h1,h2⟩
     obtain ⟨d,hd,hs⟩:=take y hy h1 h2
     rw [hno d hd] at hs
     cases hs
   ·rw [he,if_pos (back d (List.mem_of_getElem? hd) hs)]
    simp
  rw [hD,H3]
  rcases stepC_cases (m:Int) C x with ⟨hno,he⟩ | ⟨K,c,hc,hs,he⟩
  ·rw [he,if_neg]
   ·unfold partsC;simp [part_one]
   ·rintro ⟨y,hy,h1,_⟩
    obtain ⟨c,hc,hyc⟩:=H1.all y hy
    have:=sameN_trans (hw1 c hc) (hl' y hy) hx ((H1.mem c hc).2 y hyc).2 h1
    rw [hno c hc] at this
    cases this
  ·have hcC:=List.mem_of_getElem? hc
   have hiff:(∃ y∈l,sameN y.word x.word m=true∧bitN y.word m=bitN x.word m)↔∃ y∈c,bitN y.word m=bitN x.word m:=by
    constructor
    ·rintro ⟨y,hy,h1,h2⟩
     obtain ⟨d,hd,hyd⟩:=H1.all y hy
     obtain ⟨j,hj⟩:=List.mem_iff_getElem?.1 hd
     have hdx:=sameN_trans (hw1 d hd) (hl' y hy) hx ((H1.mem d hd).2 y hyd).2 h1
     have hdc:=sameN_trans (hw1 d hd) hx (hw1 c hcC) hdx (sameN_symm hs)
     obtain rfl:=H1.heads j K d c hj hc hdc
     obtain rfl:c=d:=Option.some.inj (hc.symm.trans hj)
     exact ⟨y,hyd,h2⟩
    ·rintro ⟨y,hy,h2⟩
     have h3:=(H1.mem c hcC).2 y hy
     exact ⟨y,h3.1,sameN_trans (hl' y h3.1) (hw1 c hcC) hx (sameN_symm h3.2) hs,h2⟩
   rw [he]
   unfold partsC
   rw [List.map_set]
   have:=sum_set (C.map (partC m)) K (partC m (c++[x])) (partC m c) (by simp [hc])
   rw [part_snoc] at this
   by_cases hex:∃ y∈c,bitN y.word m=bitN x.word m
   ·rw [if_pos (hiff.2 hex)]
    rw [part_snoc,if_pos hex] at *
    omega
   ·rw [if_neg (fun h=>hex (hiff.1 h))]
    rw [part_snoc,if_neg hex] at *
    omega
open Classical in
theorem cntN_perm {h:Int} {l l':List Nd} (hp:l.Perm l'):(∀ y∈l,y.word<4294967296)→cntN h l=cntN h l':=by
 induction hp with
 | nil=>intro _;rfl
 | @cons x l1 l2 hp ih =>
  intro hw
  unfold cntN
  rw [ih (fun y hy=>hw y (by simp [hy]))]
  congr 1
  have:(∃ y∈l1,sameN y.word x.word h=true)↔(∃ y∈l2,sameN y.word x.word h=true):=⟨fun ⟨y,hy,k⟩=>⟨y,hp.mem_iff.1 hy,k⟩,fun ⟨y,hy,k⟩=>⟨y,hp.mem_iff.2 hy,k⟩⟩
  simp only [this]
 | swap x y l =>
  intro hw
  have hx:=hw x (by simp)
  have hy:=hw y (by simp)
  have hl:∀ z∈l,z.word<4294967296:=fun z hz=>hw z (by simp [hz])
  unfold cntN
  unfold cntN
  simp only [List.mem_cons,exists_eq_or_imp]
  by_cases s:sameN x.word y.word h=true
  ·have s':=sameN_symm s
   have e:(∃ z∈l,sameN z.word x.word h=true)↔(∃ z∈l,sameN z.word y.word h=true) :=
    ⟨fun ⟨z,hz,k⟩=>⟨z,hz,sameN_trans (hl z hz) hx hy k s⟩,fun ⟨z,hz,k⟩=>⟨z,hz,sameN_trans (hl z hz) hy hx k s'⟩⟩
   rw [if_pos (Or.inl s),if_pos (Or.inl s')]
   simp only [e]
  ·have s':¬ sameN y.word x.word h=true:=fun k=>s (sameN_symm k)
   simp only [s,s',false_or]
   simp only [Bool.false_eq_true,false_or]
   omega
 | trans h1 h2 ih1 ih2 =>
  intro hw
  rw [ih1 hw,ih2 (fun y hy=>hw y (h1.mem_iff.2 hy))]
theorem classes_count {h:Int} {l l':List Nd} (hp:l.Perm l') (hl:∀ y∈l,y.word<4294967296):(classesN l h).length=(classesN l' h).length:=by
 by_cases h16:16<h
 ·rw [classesN_big h16,classesN_big h16]
 ·rw [classesN_fold h16,classesN_fold h16,(foldC_cnt (by omega) l hl).2,(foldC_cnt (by omega) l' (fun y hy=>hl y (hp.mem_iff.2 hy))).2]
  exact cntN_perm ((l.reverse_perm.trans hp).trans l'.reverse_perm.symm) (fun y hy=>hl y (List.mem_reverse.1 hy))
def HpRel (l:List Nd) (w:World) (i:Value) (wr:World):Prop:=∃ k:Nat,k≤16∧i=.int .i64 k∧Ex w wr∧∀ j,j<k→(classesN l (j:Nat)).length<l.length
set_option maxHeartbeats 2000000 in
theorem height_p (a:Option Addr) (n c:Nat) (l:List Nd) (w:World) (hs:Sl 3 encN w a n l) (hn:n≤1000) (hc:n≤c) (hm:c≤maxLen) (hw:∀ x∈l,x.word<4294967296) (hT:TabG w) :
  Calls Tryd.prog 18 #[.slice a n c] w fun e w'=>e=.returned (.int .i64 (heightN l))∧Ex w w':=by
 have HW:=lH hw
 have HL:=lH hs.len
 have HT:=lH hT
 have CNT:∀ j:Int,(classesN (sortN l) j).length=(classesN l j).length:=fun j=>classes_count (sortN_perm l) (fun y hy=>HW.out y ((sortN_mem l y).1 hy))
 have CNT:=lH CNT
 clear hw hT
 go_enter Tryd.func18,Tryd.ntmps18
 go_wp2_with fail
 (with_reducible refine (check_p _ _ _ _ _ hs (by omega) hc hm).mono ?_)
 rintro e w1 ⟨rfl,k1⟩
 have S1:=hs.nx k1
 clear hs
 by_cases hck:checkN l=0
 ·have HC:=lH hck
  rw [hck]
  clear hck
  have S1:=lH S1
  have HT1:=lH (HT.out.nx k1)
  go_wp2_with fail
  go_loopw [7] (fun i wr=>HpRel l w1 i wr) (fun i _=>16-(intOf i).toNat)
  case atStart=>exact ⟨0,by omega,rfl,Ex.refl _,by intro _ h;omega⟩
  case round =>
   obtain ⟨k,hk,rfl,kw,hno⟩:=hrel
   have HNO:=lH hno
   obtain ⟨wo,rfl⟩:∃ wo:World,wo=wr:=⟨_,rfl⟩
   clear hno
   by_cases hlt:k<16
   ·have SO:=S1.out.nx kw
    have TO:=HT1.out.nx kw
    go_wp2_with fail
    (with_reducible refine (classes_p _ _ _ _ _ _ SO hn HW.out TO).mono ?_)
    rintro e w2 ⟨a2,c2,rfl,C2,k2⟩
    replace kw:=kw.nx k2
    clear SO C2 TO
    have hle:=classes_le l (k:Int)
    by_cases heq:(classesN l (k:Int)).length=l.length
    ·have d1:(((classesN l (k:Int)).length:Int)==(n:Int))=true:=by rw [beq_iff_eq,heq,HL.out]
     have HH:Hid (heightN l=k):=lH (by
      by_cases h0:l.length=0
      ·have:k=0:=by
        rcases Nat.eq_zero_or_pos k with h | h
        ·exact h
        ·have:=HNO.out 0 h;omega
       rw [this];unfold heightN;rw [if_pos (.inr h0)]
      ·exact heightN_of hlt (by rw [HC.out];rfl) h0 (by rw [CNT.out,heq];omega) (fun j hj=>by rw [CNT.out];exact HNO.out j hj))
     clear heq hle
     go_wp2_with fail
     go_ret
     exact ⟨by rw [HH.out];rfl,k1.nx kw⟩
    ·have d1:(((classesN l (k:Int)).length:Int)==(n:Int))=false:=by rw [beq_eq_false_iff_ne,← HL.out];omega
     have HM:Hid ((classesN l (k:Int)).length<l.length):=lH (by omega)
     clear heq hle
     go_wp2_with fail
     refine ⟨⟨k+1,by omega,by go_num,kw,fun j hj=>?_⟩,by simp [intOf];omega⟩
     rcases Nat.lt_or_ge j k with h | h
     ·exact HNO.out j h
     ·obtain rfl:j=k:=by omega
      exact HM.out
   ·obtain rfl:k=16:=by omega
    have HH:Hid (heightN l=16):=lH (heightN_top (by rw [HC.out];rfl) (by have:=HNO.out 0 (by omega);omega) (fun j hj=>by rw [CNT.out];exact HNO.out j hj))
    have KW:=lH (k1.nx kw)
    clear kw hk hlt
    go_wp2_with fail
    go_ret
    exact ⟨by rw [HH.out];rfl,KW.out⟩
 ·have d1:(checkN l != 0)=true:=by rw [bne_iff_ne];exact hck
  have HH:Hid (heightN l=0):=lH (by unfold heightN;rw [if_pos (.inl (by rw [beq_eq_false_iff_ne];exact hck))])
  clear S1 hck
  go_wp2_with fail
  go_ret
  exact ⟨by rw [HH.out];rfl,k1⟩
theorem part_ge (m:Nat) (c:List Nd) (hc:0<c.length):1≤partC m c:=by
 unfold partC
 by_cases h:0<onesN c m
 ·rw [if_pos h];omega
 ·rw [if_neg h,if_pos (by omega)];omega
theorem parts_le (m:Nat) (C:List (List Nd)) (hc:∀ c∈C,0<c.length):C.length≤partsC m C∧partsC m C≤2*C.length:=by
 unfold partsC
 induction C with
 | nil=>simp
 | cons c C ih =>
  have h1:=ih (fun d hd=>hc d (by simp [hd]))
  have h2:=part_ge m c (hc c (by simp))
  have h3:partC m c≤2:=by unfold partC;split<;>split<;>omega
  simp only [List.map_cons,List.sum_cons,List.length_cons]
  omega
theorem classes_mono {S:List Nd} (hw:∀ x∈S,x.word<4294967296) (m:Nat):∀ d,m+d≤16→(foldC (m:Int) S).length≤(foldC ((m+d:Nat):Int) S).length
 | 0,_=>Nat.le_refl _
 | d+1,h=>by
  obtain ⟨H1,H2,H3,H4⟩:=split_law (m+d) (by omega) S hw
  have h1:=classes_mono hw m d (by omega)
  have h2:=(parts_le (m+d) _ (fun c hc=>(H1.mem c hc).1)).1
  have e:(((m+d:Nat):Int)+1)=((m+(d+1):Nat):Int):=by omega
  rw [e] at H3
  omega
theorem height_spec {l:List Nd} (h0:checkN l=0) (hne:l.length≠0):(heightN l<16→¬ (classesN (sortN l) (heightN l:Nat)).length<l.length)∧∀ j,j<heightN l→(classesN (sortN l) (j:Nat)).length<l.length:=by
 unfold heightN
 rw [if_neg (by rw [h0];simp [hne])]
 cases e:(List.range 16).find? fun h=>!decide ((classesN (sortN l) (h:Nat)).length<l.length) with
 | none =>
  refine ⟨fun h=>absurd h (by simp),fun j hj=>?_⟩
  have:=List.find?_eq_none.1 e j (by simpa using hj)
  simpa using this
 | some k =>
  have h1:=List.find?_some e
  refine ⟨fun _=>by simpa using h1,fun j hj=>?_⟩
  have hj:j<k:=hj
  obtain ⟨_,us,vs,e2,h3⟩:=List.find?_eq_some_iff_append.1 e
  have hk:k<16:=by
   have:k∈List.range 16:=by rw [e2];simp
   simpa using this
  have hjm:j∈us:=by
   have hp:(List.range 16).Pairwise (· < ·):=List.pairwise_lt_range
   have hj2:j∈List.range 16:=by simp;omega
   rw [e2] at hp hj2
   rcases List.mem_append.1 hj2 with h | h
   ·exact h
   ·have h5:=(List.pairwise_append.1 hp).2.1
    rcases List.mem_cons.1 h with h | h
    ·omega
    ·have:=(List.pairwise_cons.1 h5).1 j h;omega
  simpa using h3 j hjm
def boundN (l:List Nd) (id:Int):Nat:=if (findN l id).2=true∧checkN l=0 then 1+((List.range 17).map fun (h:Nat)=>runN l id h).sum else 0
section
variable {x:Nd} {lev:Int}
theorem run_count:∀ (G:List Nd) (s:Nat×Nat),s.2≤s.1→(G.foldl (runStep x lev) s).1≤s.1+G.countP fun y=>!brkN x lev y
 | [],s,_=>Nat.le_refl _
 | y::G,s,h=>by
  show (G.foldl (runStep x lev) (runStep x lev s y)).1≤_
  rw [List.countP_cons]
  cases hb:brkN x lev y with
  | true =>
   have e:runStep x lev s y=(s.1,0):=by unfold runStep;rw [hb];rfl
   rw [e]
   have:=run_count G (s.1,0) (Nat.zero_le _)
   simp only at this ⊢
   omega
  | false =>
   have e:runStep x lev s y=(max s.1 (s.2+1),s.2+1):=by unfold runStep;rw [hb];rfl
   rw [e]
   have:=run_count G (max s.1 (s.2+1),s.2+1) (by simp only;omega)
   simp only [Bool.not_false,if_true] at this ⊢
   omega
end
theorem sum_count {α:Type} (p:α→Bool) (f:α→Nat) (m:Nat):∀ l:List α,((List.range m).map fun h=>l.countP fun y=>p y&&f y==h).sum≤l.countP p
 | []=>by
  simp only [List.countP_nil]
  induction m with
  | zero=>simp
  | succ m ih=>rw [List.range_succ,List.map_append,List.sum_append];simpa using ih
 | y::l=>by
  have ih:=sum_count p f m l
  have h1:∀ k,((List.range k).map fun h=>(y::l).countP fun y=>p y&&f y==h).sum=((List.range k).map fun h=>l.countP fun y=>p y&&f y==h).sum+if p y=true∧f y<k then 1 else 0:=by
   intro k
   induction k with
   | zero=>simp
   | succ k ihk =>
    rw [List.range_succ,List.map_append,List.sum_append,List.map_append,List.sum_append,ihk]
    simp only [List.map_cons,List.map_nil,List.sum_cons,List.sum_nil,List.countP_cons,Bool.and_eq_true,beq_iff_eq]
    by_cases hp:p y=true
    ·by_cases h2:f y=k
     ·rw [if_neg (by omega),if_pos ⟨hp,h2⟩,if_pos ⟨hp,by omega⟩];omega
     ·by_cases h3:f y<k
      ·rw [if_pos ⟨hp,h3⟩,if_neg (by rintro ⟨_,h⟩;exact h2 h),if_pos ⟨hp,by omega⟩];omega
      ·rw [if_neg (by rintro ⟨_,h⟩;exact h3 h),if_neg (by rintro ⟨_,h⟩;exact h2 h),if_neg (by rintro ⟨_,h⟩;omega)];omega
    ·rw [if_neg (by rintro ⟨h,_⟩;exact hp h),if_neg (by rintro ⟨h,_⟩;exact hp h),if_neg (by rintro ⟨h,_⟩;exact hp h)];omega
  rw [h1,List.countP_cons]
  by_cases hp:p y=true
  ·rw [if_pos hp]
   split<;>omega
  ·rw [if_neg hp,if_neg (by rintro ⟨h,_⟩;exact hp h)];omega
theorem nb_common {x y:Nd} {h:Nat} (hs:sameN y.word x.word (h:Int)=true) (hb:brkN x (h:Int) y=false):y.id≠x.id∧commonN x.word y.word=h:=by
 unfold brkN at hb
 simp only [Bool.or_eq_false_iff,beq_eq_false_iff_ne] at hb
 refine ⟨hb.1,?_⟩
 have h2:=hb.2
 unfold sameN at hs h2
 rw [commonN_comm] at hs
 simp only [decide_eq_true_eq,decide_eq_false_iff_not] at hs h2
 omega
theorem sum_le {α:Type} {f g:α→Nat}:∀ (l:List α),(∀ x∈l,f x≤g x)→(l.map f).sum≤(l.map g).sum
 | [],_=>Nat.le_refl _
 | x::l,h=>by
  have:=sum_le l (fun y hy=>h y (by simp [hy]))
  have:=h x (by simp)
  simp only [List.map_cons,List.sum_cons]
  omega
theorem boundN_eq {l:List Nd} (h0:checkN l=0) {x:Nd} (hx:x∈l):boundN l x.id=1+((List.range 17).map fun (h:Nat)=>runN l x.id h).sum:=by
 unfold boundN
 rw [if_pos ⟨by rw [find_in h0 hx],h0⟩]
theorem bound_le {l:List Nd} (h0:checkN l=0) {x:Nd} (hx:x∈l):boundN l x.id≤l.length:=by
 rw [boundN_eq h0 hx]
 have h1:((List.range 17).map fun (h:Nat)=>runN l x.id h).sum≤((List.range 17).map fun h=>(sortN l).countP fun y=>(!(y.id==x.id))&&commonN x.word y.word==h).sum:=by
  refine sum_le _ (fun h hh=>?_)
  have hh:h<17:=by simpa using hh
  rw [runN_eq h0 hx (by omega)]
  have:=run_count (x:=x) (lev:=(h:Int)) (grpS l h x.word) (0,0) (Nat.le_refl _)
  refine Nat.le_trans (by unfold runF;simpa using this) ?_
  unfold grpS groupN
  rw [List.countP_filter]
  refine List.countP_mono_left (fun y _ hy=>?_)
  simp only [Bool.and_eq_true,Bool.not_eq_true'] at hy
  obtain ⟨h1,h2⟩:=nb_common hy.2 hy.1
  simp [h1,h2]
 have h2:=sum_count (fun y:Nd=>!(y.id==x.id)) (fun y=>commonN x.word y.word) 17 (sortN l)
 have h3:(sortN l).countP (fun y:Nd=>!(y.id==x.id))<(sortN l).countP (fun _=>true) :=
  count_lt ((sortN_mem l x).2 hx) (fun _ _=>rfl) rfl (by simp)
 rw [List.countP_true,sortN_length] at h3
 omega
section
variable {N:List Nd} {L:List Lkd} {key:List UInt8} {right:Bool}
def runS (N:List Nd) (frm:Int) (lev:Nat):Nat:=((List.range lev).map fun (h:Nat)=>runN N frm h).sum
theorem runS_succ (frm:Int) (lev:Nat):runS N frm (lev+1)=runS N frm lev+runN N frm lev:=by
 unfold runS;rw [List.range_succ,List.map_append,List.sum_append];simp
theorem runS_mono (frm:Int) (a:Nat):∀ d,runS N frm a≤runS N frm (a+d)
 | 0=>Nat.le_refl _
 | d+1=>Nat.le_trans (runS_mono frm a d) (by rw [show a+(d+1)=(a+d)+1 from rfl,runS_succ];omega)
theorem rt_cnt (h0:checkN N=0) (hw:∀ x∈N,x.word<4294967296) {frm:Nd} (hf:frm∈N) {top:Nat} (ht:top≤16) (hL:∀ x∈N,∀ lev:Nat,lev≤top→atL L x.id lev=(neighN N x.id lev).1) :
  ∀ (f:Nat) (x:Nd) (lev q:Nat) (out:List Hop),lev≤top→CntSt N key right frm lev x q→(rtF N L key right f x (lev+1) out).2.length+q≤out.length+runS N frm.id (lev+1)
 | 0,x,lev,q,out,hl,h=>by
  have:=h.le h0 hf (by omega)
  rw [runS_succ]
  show out.length+q≤_
  omega
 | f+1,x,lev,q,out,hl,h=>by
  have e:rtF N L key right (f+1) x (lev+1) out=(match hopN N L key right x lev with | some y=>rtF N L key right f y (lev+1) (out++[(x.id,y.id,(lev:Int))]) | none=>rtF N L key right f x lev out):=rfl
  have hq:=h.le h0 hf (by omega)
  cases hh:hopN N L key right x lev with
  | some y =>
   rw [hh] at e
   have:=rt_cnt h0 hw hf ht hL f y lev (q+1) (out++[(x.id,y.id,(lev:Int))]) hl (h.step h0 hw hf (by omega) (hL x h.mem.1 lev hl) hh)
   rw [e]
   simp only [List.length_append,List.length_singleton] at this ⊢
   omega
  | none =>
   rw [hh] at e
   rw [e,runS_succ]
   cases lev with
   | zero =>
    have:rtF N L key right f x 0 out=(x,out):=by cases f<;>rfl
    simp only [this]
    omega
   | succ lev =>
    have:=rt_cnt h0 hw hf ht hL f x lev 0 out (by omega) (h.down h0 hw hf (by omega) (hL x h.mem.1 (lev+1) hl) hh)
    simp only at this ⊢
    omega
end
theorem build_top {N:List Nd} (h0:checkN N=0) {h:Nat} (hh:h≤16) {x:Nd} (hx:x∈N):topL (buildN N (h:Int)).1 x.id=h∧∀ lev:Nat,lev≤h→atL (buildN N (h:Int)).1 x.id lev=(neighN N x.id lev).1:=by
 have h0s:checkN (sortN N)=0:=check_perm (sortN_perm N) h0
 have hfind:(buildN N (h:Int)).1.find? (fun c=>c.1==x.id)=some (rowN (sortN N) (h+1) x):=by
  unfold buildN
  rw [if_neg (by rw [h0];simp),if_neg (by unfold lvlN;simp;omega)]
  simp only
  rw [show ((h:Int)).toNat+1=h+1 by omega,List.find?_map]
  have:((fun (c:Lkd)=>c.1==x.id) ∘ rowN (sortN N) (h+1))=fun y:Nd=>y.id==x.id:=rfl
  rw [this]
  have hf:=find_in h0s ((sortN_mem N x).2 hx)
  unfold findN at hf
  split at hf
  ·rename_i y hy
   cases hf
   rw [hy];rfl
  ·cases hf
 have hnb:∀ lev:Nat,lev≤16→(neighN (sortN N) x.id lev)=neighN N x.id lev:=fun lev hl=>by
  have hlv:lvlN (lev:Int)=true:=by unfold lvlN;simp;omega
  obtain ⟨A,B,e⟩:=grp_at hx hlv
  have es:grpS (sortN N) lev x.word=A++x::B:=by
   unfold grpS at e ⊢
   rw [sort_perm (sortN_perm N) h0];exact e
  rw [neigh_split h0 hx hlv e,neigh_split h0s ((sortN_mem N x).2 hx) hlv es]
 refine ⟨?_,fun lev hl=>?_⟩
 ·unfold topL
  rw [hfind]
  simp only [rowN_len]
  omega
 ·unfold atL
  rw [hfind]
  simp only
  rw [if_neg (by omega)]
  unfold rowN
  simp only
  rw [show ((lev:Int)).toNat=lev by omega,List.getElem?_map,List.getElem?_range (by omega)]
  simp only [Option.map_some,Option.getD_some]
  rw [hnb lev (by omega)]
theorem single_high {N:List Nd} (h0:checkN N=0) (hw:∀ x∈N,x.word<4294967296) {h:Nat} (hh:h<16) (hle:heightN N≤h) {x y:Nd} (hx:x∈N) (hy:y∈N) (hs:sameN x.word y.word (h:Int)=true):x=y:=by
 have hne:N.length≠0:=by intro h;rw [List.length_eq_zero_iff.1 h] at hx;cases hx
 have hws:∀ x∈sortN N,x.word<4294967296:=fun x hx=>hw x ((sortN_mem N x).1 hx)
 have h1:=(height_spec h0 hne).1 (by omega)
 rw [classesN_fold (by omega)] at h1
 have h2:=classes_mono hws (heightN N) (h-heightN N) (by omega)
 rw [show heightN N+(h-heightN N)=h by omega] at h2
 obtain ⟨H1,_,_,H4⟩:=split_law h hh (sortN N) hws
 rw [sortN_length] at H4
 have hone:∀ c∈foldC (h:Int) (sortN N),c.length≤1:=by
  have gen:∀ C:List (List Nd),(∀ c∈C,0<c.length)→lensC C≤C.length→∀ c∈C,c.length≤1:=by
   have hge:∀ C:List (List Nd),(∀ c∈C,0<c.length)→C.length≤lensC C:=by
    intro C
    induction C with
    | nil=>intro _;exact Nat.zero_le _
    | cons c C ih =>
     intro hC
     have:=ih (fun d hd=>hC d (by simp [hd]))
     have:=hC c (by simp)
     unfold lensC at *
     simp only [List.map_cons,List.sum_cons,List.length_cons] at *
     omega
   intro C
   induction C with
   | nil=>intro _ _ c hc;cases hc
   | cons d C ih =>
    intro hC hs c hc
    have h1:=hge C (fun e he=>hC e (by simp [he]))
    have h2:=hC d (by simp)
    have h3:lensC (d::C)=d.length+lensC C:=by unfold lensC;simp
    rw [h3,List.length_cons] at hs
    rcases List.mem_cons.1 hc with rfl | hc
    ·omega
    ·exact ih (fun e he=>hC e (by simp [he])) (by omega) c hc
  exact gen _ (fun c hc=>(H1.mem c hc).1) (by omega)
 obtain ⟨c,hc,hxc⟩:=H1.all x ((sortN_mem N x).2 hx)
 obtain ⟨d,hd,hyd⟩:=H1.all y ((sortN_mem N y).2 hy)
 obtain ⟨i,hi⟩:=List.mem_iff_getElem?.1 hc
 obtain ⟨j,hj⟩:=List.mem_iff_getElem?.1 hd
 have hxs:=(H1.mem c hc).2 x hxc
 have hys:=(H1.mem d hd).2 y hyd
 obtain ⟨zc,hzc,ezc⟩:=headW_mem (H1.mem c hc).1
 obtain ⟨zd,hzd,ezd⟩:=headW_mem (H1.mem d hd).1
 have wc:headW c<4294967296:=by rw [ezc];exact hws _ ((H1.mem c hc).2 zc hzc).1
 have wd:headW d<4294967296:=by rw [ezd];exact hws _ ((H1.mem d hd).2 zd hzd).1
 have wx:=hw x hx
 have wy:=hw y hy
 have hij:=H1.heads i j c d hi hj (sameN_trans wc wx wd hxs.2 (sameN_trans wx wy wd hs (sameN_symm hys.2)))
 subst hij
 have hcd:c=d:=Option.some.inj (hi.symm.trans hj)
 subst hcd
 have h1:=hone c hc
 match c,h1,hxc,hyd with
 | [z],_,hxc,hyd=>
  have e1:x=z:=by simpa using hxc
  have e2:y=z:=by simpa using hyd
  rw [e1,e2]
theorem ends_law {N:List Nd} (h0:checkN N=0) (hw:∀ x∈N,x.word<4294967296) {h:Nat} (hh:h≤16) (hle:heightN N≤h) {x:Nd} (hx:x∈N) {k:ByteArray} (hk:k.size≤64) :
  (routeN N (buildN N (h:Int)).1 x.id k).1.length≤boundN N x.id:=by
 obtain ⟨ht,hL⟩:=build_top h0 hh hx
 have hL':∀ y∈N,∀ lev:Nat,lev≤h→atL (buildN N (h:Int)).1 y.id lev=(neighN N y.id lev).1:=fun y hy=>(build_top h0 hh hy).2
 have hf:=find_in h0 hx
 have key:∀ right,(rtF N (buildN N (h:Int)).1 k.toList right (18*(N.length+1)) x (h+1) []).2.length≤runS N x.id 17:=fun right=>by
  obtain ⟨P,B,e⟩:=List.append_of_mem (dir_mem (right:=right).2 (grp_mem.2 ⟨hx,sameN_refl _ (show (h:Int)≤16 by omega)⟩):x∈dirL right (grpS N (h:Int) x.word))
  have hst:CntSt N k.toList right x h x 0:=by
   refine ⟨P,P++[x],[],B,e,by simp,rfl,by simp,fun z hz _=>?_,.inl rfl⟩
   have hzG:=grp_mem.1 (dir_mem.1 (show z∈dirL right (grpS N (h:Int) x.word) by rw [e];simp [hz]))
   have hasc:=dir_asc (right:=right) (grp_asc h0 (h:Int) x.word)
   rw [e] at hasc
   have hxz:=(List.pairwise_cons.1 (List.pairwise_append.1 hasc).2.1).1 z hz
   by_cases h16:h<16
   ·have:=single_high h0 hw h16 hle hzG.1 hx hzG.2
    rw [this,dlt_irrefl] at hxz;cases hxz
   ·have hc:=commonN_le x.word z.word
    cases hb:brkN x (h:Int) z with
    | false=>rfl
    | true =>
     unfold brkN sameN at hb
     simp only [Bool.or_eq_true,beq_iff_eq,decide_eq_true_eq] at hb
     rcases hb with hb | hb
     ·have:=ids_eq (check_keys h0) hzG.1 hx hb
      rw [this,dlt_irrefl] at hxz;cases hxz
     ·omega
  have:=rt_cnt (right:=right) (key:=k.toList) h0 hw hx hh hL' (18*(N.length+1)) x h 0 [] (Nat.le_refl _) hst
  have hm:=runS_mono (N:=N) x.id (h+1) (16-h)
  rw [show h+1+(16-h)=17 by omega] at hm
  simp only [List.length_nil] at this
  omega
 rw [boundN_eq h0 hx]
 have e17:((List.range 17).map fun (h:Nat)=>runN N x.id h).sum=runS N x.id 17:=rfl
 rw [e17]
 unfold routeN
 rw [if_neg (by rintro (h | h);exact h h0;omega),hf,if_neg (by simp)]
 simp only
 rw [ht,show ((h:Int)+1).toNat=h+1 by omega]
 have:=key (!Op.bytesLess k.toList x.key.toList)
 split
 ·simp only [List.length_append,List.length_singleton];omega
 ·simp only;omega
section
variable {N:List Nd}
theorem vis_le (h0:checkN N=0) (hw:∀ x∈N,x.word<4294967296) {x:Nd} (hx:x∈N) {lev:Nat} (hl:lev<16):visN N x lev≤2*(runN N x.id lev+1):=by
 have hlv:lvlN (lev:Int)=true:=by unfold lvlN;simp;omega
 obtain ⟨A,B,e⟩:=grp_at hx hlv
 obtain ⟨hA,hB⟩:=grp_parts h0 e
 rw [vis_at h0 e,runN_eq h0 hx (by omega),e]
 have hbrk:∀ y,y∈N→y.id≠x.id→bitN y.word lev≠bitN x.word lev→brkN x lev y=false:=by
  intro y hy hne hb
  unfold brkN
  rw [Bool.or_eq_false_iff]
  refine ⟨by simpa using hne,?_⟩
  cases hs:sameN x.word y.word ((lev:Int)+1) with
  | false=>rfl
  | true=>exact absurd ((same_succ (hw x hx) (hw y hy) hl).1 hs).2.symm hb
 obtain ⟨Q,R,e1,q1,_,q2⟩:=unt_le lev x B
 obtain ⟨Q',R',e2,q3,_,q4⟩:=unt_le lev x A.reverse
 have s1:=run_seg (x:=x) (lev:=lev) (A++[x]) Q R (fun y hy=>by
  have:=hB y (by rw [e1];exact List.mem_append_left _ hy)
  exact hbrk y this.1 this.2 (q2 y hy))
 have eA:A=R'.reverse++Q'.reverse:=by
  rw [← List.reverse_append,← e2,List.reverse_reverse]
 have s2:=run_seg (x:=x) (lev:=lev) R'.reverse Q'.reverse (x::B) (fun y hy=>by
  have hyA:y∈A:=by rw [eA];exact List.mem_append_right _ hy
  have:=hA y hyA
  exact hbrk y this.1 this.2 (q4 y (List.mem_reverse.1 hy)))
 rw [← eA,List.length_reverse] at s2
 have s1':Q.length≤(runF x lev (A++x::B)).1:=by
  rw [e1]
  have:A++x::(Q++R)=A++[x]++Q++R:=by simp
  rw [this]
  exact s1
 omega
theorem visS_le (h0:checkN N=0) (hw:∀ x∈N,x.word<4294967296) {x:Nd} (hx:x∈N):∀ {h:Nat},h≤16→visS N x h≤((List.range h).map fun (i:Nat)=>2*(runN N x.id i+1)).sum
 | 0,_=>by simp [visS]
 | h+1,hh=>by
  have:=visS_le h0 hw hx (h:=h) (by omega)
  have:=vis_le h0 hw hx (lev:=h) (by omega)
  rw [visS_succ,List.range_succ,List.map_append,List.sum_append]
  simp only [List.map_cons,List.map_nil,List.sum_cons,List.sum_nil]
  omega
end
theorem runF_snoc (x:Nd) (lev:Int) (G:List Nd) (k:Nat) (y:Nd) (hy:G[k]?=some y):runF x lev (G.take (k+1))=runStep x lev (runF x lev (G.take k)) y:=by
 unfold runF
 rw [take_snocN G k y hy,List.foldl_append];rfl
theorem run_len (x:Nd) (lev:Int) (G:List Nd):(runF x lev G).1≤G.length∧(runF x lev G).2≤G.length:=by
 have h1:=run_count (x:=x) (lev:=lev) G (0,0) (Nat.le_refl _)
 have h2:=run_inv (x:=x) (lev:=lev) G (0,0) (Nat.le_refl _)
 have h3:(G.countP fun y=>!brkN x lev y)≤G.length:=List.countP_le_length
 unfold runF
 omega
theorem step_brk {x y:Nd} {lev:Int} {s:Nat×Nat} (h:brkN x lev y=true):runStep x lev s y=(s.1,0):=by unfold runStep;rw [if_pos h]
theorem step_free {x y:Nd} {lev:Int} {s:Nat×Nat} (h:brkN x lev y=false):runStep x lev s y=(max s.1 (s.2+1),s.2+1):=by unfold runStep;rw [h];rfl
theorem runN_no {l:List Nd} {id lev:Int} (h:checkN l≠0∨(findN l id).2=false∨lvlN lev=false):runN l id lev=0:=by
 unfold runN
 rw [if_neg]
 rintro ⟨h1,h2,h3⟩
 rcases h with h | h | h
 ·exact h h1
 ·rw [h] at h2;cases h2
 ·rw [h] at h3;cases h3
theorem runN_yes {l:List Nd} {id lev:Int} {x:Nd} (h:checkN l=0) (h2:(x,true)=findN l id) (h3:lvlN lev=true):runN l id lev=(runF x lev (groupN (sortN l) lev x.word)).1:=by
 unfold runN thrG
 rw [← h2,if_pos ⟨h,rfl,h3⟩]
theorem runN_le (l:List Nd) (id lev:Int):runN l id lev≤l.length:=by
 unfold runN
 split
 ·have h1:=(run_len (findN l id).1 lev (thrG l id lev)).1
  have h2:(thrG l id lev).length≤(sortN l).length:=List.length_filter_le _ _
  rw [sortN_length] at h2
  omega
 ·omega
def RnRel (x:Nd) (lev:Int) (G:List Nd) (g:Nat) (w:World) (m r i:Value) (wr:World):Prop :=
 ∃ k:Nat,k≤G.length∧i=.int .i64 k∧m=.int .i64 ((runF x lev (G.take k)).1:Nat)∧r=.int .i64 ((runF x lev (G.take k)).2:Nat)∧Ex w wr
set_option maxRecDepth 100000 in
set_option maxHeartbeats 4000000 in
theorem run_p (a:Option Addr) (n c:Nat) (l:List Nd) (id lev:Int) (w:World) (hs:Sl 3 encN w a n l) (hn:n≤1000) (hc:n≤c) (hm:c≤maxLen) (hw:∀ x∈l,x.word<4294967296) (hT:TabG w) :
  Calls Tryd.prog 20 #[.slice a n c,.int .i64 id,.int .i64 lev] w fun e w'=>e=.returned (.int .i64 (runN l id lev))∧Ex w w':=by
 have HW:=lH hw
 have HXW:=findN_word hw id
 have HL:=lH hs.len
 have EX:=Ex.refl w
 clear hw
 go_enter Tryd.func20,Tryd.ntmps20
 go_wp2_with fail
 (with_reducible refine (find_p _ _ _ _ _ _ hs (by omega)).mono ?_)
 rintro e w1 ⟨rfl,kk⟩
 replace hs:=hs.nx kk
 replace hT:=lH (hT.nx kk)
 replace EX:=EX.nx kk
 clear kk
 obtain ⟨F,hF⟩:∃ F,F=findN l id:=⟨_,rfl⟩
 have HF:=lH hF
 rw [← hF] at HXW ⊢
 obtain ⟨x,ok⟩:=F
 unfold Nd.val
 simp only at HXW ⊢
 clear hF
 have B:=Blk.new w1 [.int .i64 x.id,.string x.key,.int .u32 x.word] 38
 have kk:=Ex.new w1 (.cells #[.int .i64 x.id,.string x.key,.int .u32 x.word] 38)
 obtain ⟨w2,hw2⟩:∃ w2,w2=w1.alloc (.cells #[.int .i64 x.id,.string x.key,.int .u32 x.word] 38):=⟨_,rfl⟩
 obtain ⟨g,hg⟩:∃ g,g=w1.heap.size:=⟨_,rfl⟩
 replace B:Blk w2 g [.int .i64 x.id,.string x.key,.int .u32 x.word] 38:=by rw [hw2,hg];exact B
 rw [← hw2] at kk
 have Hw2:=lH hw2
 have Hg:=lH hg
 replace hs:=hs.nx kk
 replace hT:=lH (hT.out.nx kk)
 replace EX:=EX.nx kk
 clear kk hw2 hg
 go_upto_region 2 with fail
 rw [← Hg.out,← Hw2.out]
 clear Hg Hw2
 cases ok with
 | false =>
  have RN:=lH (runN_no (lev:=lev) (.inr (.inl (show (findN l id).2=false by rw [← HF.out]))))
  clear hs B
  go_wp2_with fail
  go_ret
  exact ⟨by rw [RN.out];rfl,EX⟩
 | true =>
  go_wp2_with fail
  (with_reducible refine (check_p _ _ _ _ _ hs (by omega) hc hm).mono ?_)
  rintro e w3 ⟨rfl,kk⟩
  replace hs:=hs.nx kk
  replace hT:=lH (hT.out.nx kk)
  replace EX:=EX.nx kk
  replace B:=B.nx kk
  clear kk
  by_cases hck:checkN l=0
  case neg =>
   have RN:=lH (runN_no (id:=id) (lev:=lev) (.inl hck))
   have d1:(checkN l != 0)=true:=by simpa using hck
   clear hs hck B
   go_wp2_with fail
   go_ret
   exact ⟨by rw [RN.out];rfl,EX⟩
  have d1:(checkN l != 0)=false:=by simpa using hck
  have HC:=lH hck
  clear hck
  by_cases hlo:lev<0
  ·have RN:=lH (runN_no (l:=l) (id:=id) (.inr (.inr (show lvlN lev=false by unfold lvlN;simp;omega))))
   clear hs B
   go_wp2_with fail
   go_ret
   exact ⟨by rw [RN.out];rfl,EX⟩
  ·by_cases hhi:16<lev
   ·have RN:=lH (runN_no (l:=l) (id:=id) (.inr (.inr (show lvlN lev=false by unfold lvlN;simp;omega))))
    clear hs B
    go_wp2_with fail
    go_ret
    exact ⟨by rw [RN.out];rfl,EX⟩
   ·have RY:=lH (runN_yes HC.out HF.out (show lvlN lev=true by unfold lvlN;simp;omega))
    go_upto_region 5 with fail
    refine wp_region_held_drew (S:=Ex w3.drew) (by kernel_rfl) (Ex.refl _) (fun hHeld=>?_)
    refine tkH 0 (v:=?_) rfl (by kernel_rfl) (fun _ _ _ h=>h) (by rfl) ?hyr1x0 (by assumption) ?restr1x0
    case hyr1x0=>intro wq hSw;(go_simp);(try with_reducible rfl)
    try simp only [Act.put,sA,sB,sC]
    refine tkH 2 (v:=?_) rfl (by kernel_rfl) (fun _ _ _ h=>h) (by rfl) ?hyr1x2 (by assumption) ?restr1x2
    case hyr1x2=>intro wq hSw;(go_simp);(try with_reducible rfl)
    try simp only [Act.put,sA,sB,sC]
    refine tkH 3 (v:=?_) rfl (by kernel_rfl) (fun _ _ _ h=>h) (by rfl) ?hyr1x3 (by assumption) ?restr1x3
    case hyr1x3=>intro wq hSw;(go_simp);(try with_reducible rfl)
    try simp only [Act.put,sA,sB,sC]
    refine tkH 4 (v:=?_) rfl (by kernel_rfl) (fun _ _ _ h=>h) (by rfl) ?hyr1x4 (by assumption) ?restr1x4
    case hyr1x4=>intro wq hSw;(have hSw':Ex w3 wq:=(Ex.refl w3).drew.nx hSw;have cq:=(B.nx hSw').cell 2 _ rfl;go_simp);(try with_reducible rfl)
    try simp only [Act.put,sA,sB,sC]
    refine tkH 7 (v:=?_) rfl (by kernel_rfl) (fun _ _ _ h=>h) (by rfl) ?hyr1x7 (by assumption) ?restr1x7
    case hyr1x7=>intro wq hSw;(go_simp);(try with_reducible rfl)
    try simp only [Act.put,sA,sB,sC]
    refine wpAnyH_ready (rs:=[1]) (by kernel_rfl) (by simp) ?_
    refine AllReadyH.cons (o:=⟨_,_,_,_,_,_⟩) rfl (fun K hK=>?_) AllReadyH.nil
    go_simp
    (with_reducible refine (sort_p _ _ _ _ _ (hs.nx (Ex.refl w3).drew) hn).mono ?_)
    rintro e w5 ⟨v,S,rfl,OS,⟨hp,hsrt⟩,k5⟩
    replace k5:Ex w3.drew w5:=k5
    have hSe:S=sortN l:=sortN_unique (check_keys HC.out) hp hsrt
    subst hSe
    obtain ⟨a5,c5,rfl,r5,hc5,hm5⟩:=OS.sl3 (fun _=>rfl)
    replace B:=B.nx ((Ex.refl w3).drew.nx k5)
    have hT5:=hT.out.nx ((Ex.refl w3).drew.nx k5)
    rw [sortN_length] at r5 hc5 ⊢
    rw [HL.out] at r5 hc5 ⊢
    have hL5:=HL.out
    have r5:Rd 3 encN (· < w5.heap.size) w5 a5 n (sortN l):=r5
    refine hK.out _ _ k5 (fun _=>?_)
    clear hK K
    try simp only [Act.put,sA,sB,sC]
    refine wpAnyH_switch (S':=Ex w5) (fun _ hSw=>Ex.nx k5 hSw) ?_
    clear hHeld
    have hHeld:=Ex.refl w5
    refine wpAnyH_ready (rs:=[5]) (by kernel_rfl) (by simp) ?_
    refine AllReadyH.cons (o:=⟨_,_,_,_,_,_⟩) rfl (fun K hK=>?_) AllReadyH.nil
    go_simp
    (with_reducible refine (group_p _ _ _ _ lev x.word _ r5 (fun _ hk=>hk) (by omega) (fun y hy=>HW.out y ((sortN_mem l y).1 hy)) HXW hT5).mono ?_)
    rintro e w6 ⟨a6,n6,c6,rfl,r6,k6⟩
    replace k6:Ex w5 w6:=k6
    refine hK.out _ _ k6 (fun _=>?_)
    clear hK K
    try simp only [Act.put,sA,sB,sC]
    refine wpAnyH_switch (S':=Ex w6) (fun _ hSw=>Ex.nx k6 hSw) ?_
    clear hHeld
    have hHeld:=Ex.refl w6
    refine tkH 6 (v:=?_) rfl (by kernel_rfl) (fun _ _ _ h=>h) (by rfl) ?hyr1x6 (by assumption) ?restr1x6
    case hyr1x6=>intro wq hSw;(go_simp);(try with_reducible rfl)
    try simp only [Act.put,sA,sB,sC]
    refine wpAnyH_done (by kernel_rfl) ?_ _
    have k7:=((Ex.refl w3).drew.nx k5).nx k6
    obtain ⟨G,hG⟩:∃ G,G=groupN (sortN l) lev x.word:=⟨_,rfl⟩
    rw [← hG] at r6 RY
    have hGl:G.length=n6:=r6.1
    have hGs:G.length≤1000:=by
     have:(groupN (sortN l) lev x.word).length≤(sortN l).length:=List.length_filter_le _ _
     rw [sortN_length,HL.out] at this
     rw [hG];omega
    have hn6:n6≤1000:=by omega
    have GW:Hid (∀ y∈G,y.word<4294967296):=lH (fun y hy=>HW.out y ((sortN_mem l y).1 (by rw [hG] at hy;exact (List.mem_filter.1 hy).1)))
    have SG:Hid (Sl 3 encN w6 a6 n6 G):=lH (Rd.mono r6 (fun _ hk=>hk.2))
    have TT6:=lH (hT5.nx k6)
    have BX:=lH (B.nx k6)
    have E6:=lH (EX.nx k7)
    have HGL:=lH hGl
    clear r5 r6 k5 k6 k7 hG B hT hs EX OS hT5 hp hsrt hm5 hc5 hGl hL5
    go_wp2_with fail
    go_loopw [9,10,41] (fun m r i wr=>RnRel x lev G g w6 m r i wr) (fun _ _ i _=>n6-(intOf i).toNat)
    case atStart=>exact ⟨0,by omega,rfl,rfl,rfl,Ex.refl _⟩
    case round =>
     obtain ⟨k,hk,rfl,rfl,rfl,kw⟩:=hrel
     obtain ⟨wo,rfl⟩:∃ wo:World,wo=wr:=⟨_,rfl⟩
     rw [HGL.out] at hk
     by_cases hlt:k<n6
     ·obtain ⟨x1,o1,y,rfl,hx1,hy,hc1⟩:=(SG.out.nx kw).at hlt
      have f0:wo.cell? ⟨x1,o1+k*3,none⟩=some (.int .i64 y.id):=hc1 0 _ rfl
      have f1:wo.cell? ⟨x1,o1+k*3+1,none⟩=some (.string y.key):=hc1 1 _ rfl
      have f2:wo.cell? ⟨x1,o1+k*3+1+1,none⟩=some (.int .u32 y.word):=by simpa [Nat.add_assoc] using hc1 2 _ rfl
      have SN:=lH (runF_snoc x lev G k y hy)
      have hyw:=GW.out y (List.mem_of_getElem? hy)
      obtain ⟨s,hs⟩:∃ s,s=runF x lev (G.take k):=⟨_,rfl⟩
      have hsl:=run_len x lev (G.take k)
      have htl:(G.take k).length≤k:=by simp;omega
      rw [← hs] at SN hsl ⊢
      have E6:=lH (E6.out.nx kw)
      have BX:=BX.out.nx kw
      have TT6:=lH (TT6.out.nx kw)
      have KW:=lH kw
      obtain ⟨s1,s2⟩:=s
      have hs1:s1≤1000:=by simp only at hsl;omega
      have hs2:s2≤1000:=by simp only at hsl;omega
      clear hsl htl
      simp only at SN ⊢
      clear hs hc1 hy kw
      have BY:=Blk.new wo [.int .i64 y.id,.string y.key,.int .u32 y.word] 38
      have kk:=Ex.new wo (.cells #[.int .i64 y.id,.string y.key,.int .u32 y.word] 38)
      obtain ⟨w7,hw7⟩:∃ w7,w7=wo.alloc (.cells #[.int .i64 y.id,.string y.key,.int .u32 y.word] 38):=⟨_,rfl⟩
      obtain ⟨gy,hgy⟩:∃ gy,gy=wo.heap.size:=⟨_,rfl⟩
      replace BY:Blk w7 gy [.int .i64 y.id,.string y.key,.int .u32 y.word] 38:=by rw [hw7,hgy];exact BY
      rw [← hw7] at kk
      have Hw7:=lH hw7
      have Hgy:=lH hgy
      replace BX:=BX.nx kk
      replace TT6:=lH (TT6.out.nx kk)
      replace KW:=lH (KW.out.nx kk)
      clear kk hw7 hgy
      go_upto_region 8 with fail
      rw [← Hgy.out,← Hw7.out]
      clear Hgy Hw7
      have x2:=BX.cell 2 _ rfl
      have y0:=BY.cell 0 _ rfl
      have y2:=BY.cell 2 _ rfl
      clear f0 f1 f2 BX BY
      by_cases hid:y.id=id
      ·have hb:(y.id==id)=true:=by simpa using hid
       have RR:Hid (RnRel x lev G g w6 (.int .i64 (s1:Nat)) (.int .i64 0) (.int .i64 ((k:Int)+1)) w7):=lH
        ⟨k+1,by rw [HGL.out];omega,by go_num,by rw [SN.out,step_brk];unfold brkN;rw [show x.id=id from by have h:=findN_mem (show (findN l id).2=true by rw [← HF.out]);rw [← HF.out] at h;exact h.2,hb];rfl,
         by rw [SN.out,step_brk];rfl;unfold brkN;rw [show x.id=id from by have h:=findN_mem (show (findN l id).2=true by rw [← HF.out]);rw [← HF.out] at h;exact h.2,hb];rfl,KW.out⟩
       clear hid x2 y2
       go_wp2_with fail
       exact ⟨RR.out,by simp [intOf];omega⟩
      ·have hb:(y.id==id)=false:=by simpa using hid
       have hxid:Hid (x.id=id):=lH (by have h:=findN_mem (show (findN l id).2=true by rw [← HF.out]);rw [← HF.out] at h;exact h.2)
       clear hid
       go_wp2_with fail
       (with_reducible refine (same_p _ _ _ _ HXW hyw TT6.out).mono ?_)
       rintro e w8 ⟨rfl,rfl⟩
       cases hsm:sameN x.word y.word (lev+1) with
       | true =>
        have RR:Hid (RnRel x lev G g w6 (.int .i64 (s1:Nat)) (.int .i64 0) (.int .i64 ((k:Int)+1)) w7):=lH
         ⟨k+1,by rw [HGL.out];omega,by go_num,by rw [SN.out,step_brk];unfold brkN;rw [hsm];simp,by rw [SN.out,step_brk];rfl;unfold brkN;rw [hsm];simp,KW.out⟩
        clear x2 y2
        go_wp2_with fail
        exact ⟨RR.out,by simp [intOf];omega⟩
       | false =>
        have hbk:brkN x lev y=false:=by unfold brkN;rw [hsm,hxid.out,hb];rfl
        have RR:Hid (RnRel x lev G g w6 (.int .i64 ((max s1 (s2+1):Nat):Int)) (.int .i64 ((s2:Int)+1)) (.int .i64 ((k:Int)+1)) w7):=lH
         ⟨k+1,by rw [HGL.out];omega,by go_num,by rw [SN.out,step_free hbk],by rw [SN.out,step_free hbk];go_num,KW.out⟩
        have hmx:max (s1:Int) ((s2:Int)+1)=((max s1 (s2+1):Nat):Int):=by omega
        have HMX:=lH hmx
        clear x2 y2 hmx hbk
        go_wp2_with fail
        rw [HMX.out]
        exact ⟨RR.out,by simp [intOf];omega⟩
     ·obtain rfl:k=n6:=by omega
      have RZ:Hid (((runF x lev (G.take k)).1:Nat)=runN l id lev):=lH (by rw [RY.out,List.take_of_length_le (by rw [HGL.out];exact Nat.le_refl _)])
      rw [RZ.out]
      have E6:=lH (E6.out.nx kw)
      clear hk hlt kw
      go_wp2_with fail
      go_ret
      exact ⟨rfl,E6.out⟩
theorem boundN_no {l:List Nd} {id:Int} (h:(findN l id).2=false∨checkN l≠0):boundN l id=0:=by
 unfold boundN
 rw [if_neg]
 rintro ⟨h1,h2⟩
 rcases h with h | h
 ·rw [h] at h1;cases h1
 ·exact h h2
theorem boundN_yes {l:List Nd} {id:Int} (h:(findN l id).2=true) (h2:checkN l=0):boundN l id=1+runS l id 17:=by
 unfold boundN
 rw [if_pos ⟨h,h2⟩];rfl
theorem runS_le (l:List Nd) (id:Int):∀ k,runS l id k≤k*l.length
 | 0=>by unfold runS;simp
 | k+1=>by rw [runS_succ];have:=runS_le l id k;have:=runN_le l id k;rw [Nat.add_mul];omega
def BoRel (l:List Nd) (id:Int) (w:World) (s i:Value) (wr:World):Prop:=∃ k:Nat,k≤17∧i=.int .i64 k∧s=.int .i64 ((1+runS l id k:Nat):Int)∧Ex w wr
set_option maxRecDepth 100000 in
set_option maxHeartbeats 4000000 in
theorem bound_p (a:Option Addr) (n c:Nat) (l:List Nd) (id:Int) (w:World) (hs:Sl 3 encN w a n l) (hn:n≤1000) (hc:n≤c) (hm:c≤maxLen) (hw:∀ x∈l,x.word<4294967296) (hT:TabG w) :
  Calls Tryd.prog 19 #[.slice a n c,.int .i64 id] w fun e w'=>e=.returned (.int .i64 (boundN l id))∧Ex w w':=by
 have HW:=lH hw
 have HL:=lH hs.len
 have EX:=Ex.refl w
 have T3:=lH hT
 clear hw hT
 go_enter Tryd.func19,Tryd.ntmps19
 go_wp2_with fail
 (with_reducible refine (find_p _ _ _ _ _ _ hs (by omega)).mono ?_)
 rintro e w1 ⟨rfl,kk⟩
 replace hs:=hs.nx kk
 replace EX:=EX.nx kk
 replace T3:=lH (T3.out.nx kk)
 clear kk
 obtain ⟨F,hF⟩:∃ F,F=findN l id:=⟨_,rfl⟩
 have HF:=lH hF
 rw [← hF]
 obtain ⟨x,ok⟩:=F
 unfold Nd.val
 simp only
 clear hF
 have B:=Blk.new w1 [.int .i64 x.id,.string x.key,.int .u32 x.word] 38
 have kk:=Ex.new w1 (.cells #[.int .i64 x.id,.string x.key,.int .u32 x.word] 38)
 obtain ⟨w2,hw2⟩:∃ w2,w2=w1.alloc (.cells #[.int .i64 x.id,.string x.key,.int .u32 x.word] 38):=⟨_,rfl⟩
 obtain ⟨g,hg⟩:∃ g,g=w1.heap.size:=⟨_,rfl⟩
 replace B:Blk w2 g [.int .i64 x.id,.string x.key,.int .u32 x.word] 38:=by rw [hw2,hg];exact B
 rw [← hw2] at kk
 have Hw2:=lH hw2
 have Hg:=lH hg
 replace hs:=hs.nx kk
 replace EX:=EX.nx kk
 replace T3:=lH (T3.out.nx kk)
 clear kk hw2 hg
 go_upto_region 2 with fail
 rw [← Hg.out,← Hw2.out]
 clear Hg Hw2
 clear B
 cases ok with
 | false =>
  have RN:=lH (boundN_no (l:=l) (id:=id) (.inl (by rw [← HF.out])))
  clear hs
  go_wp2_with fail
  go_ret
  exact ⟨by rw [RN.out];rfl,EX⟩
 | true =>
  go_wp2_with fail
  (with_reducible refine (check_p _ _ _ _ _ hs (by omega) hc hm).mono ?_)
  rintro e w3 ⟨rfl,kk⟩
  replace hs:=hs.nx kk
  replace EX:=EX.nx kk
  replace T3:=lH (T3.out.nx kk)
  clear kk
  by_cases hck:checkN l=0
  case neg =>
   have RN:=lH (boundN_no (l:=l) (id:=id) (.inr hck))
   have d1:(checkN l != 0)=true:=by simpa using hck
   
   clear hs hck
   go_wp2_with fail
   go_ret
   exact ⟨by rw [RN.out];rfl,EX⟩
  have d1:(checkN l != 0)=false:=by simpa using hck
  
  have RY:=lH (boundN_yes (l:=l) (id:=id) (by rw [← HF.out]) hck)
  have E3:=lH EX
  have S3:=lH hs
  clear hck EX hs
  go_wp2_with fail
  go_loopw [7,22] (fun s i wr=>BoRel l id w3 s i wr) (fun _ i _=>17-(intOf i).toNat)
  case atStart=>exact ⟨0,by omega,rfl,rfl,Ex.refl _⟩
  case round =>
   obtain ⟨k,hk,rfl,rfl,kw⟩:=hrel
   obtain ⟨wo,rfl⟩:∃ wo:World,wo=wr:=⟨_,rfl⟩
   obtain ⟨s,hs⟩:∃ s,s=1+runS l id k:=⟨_,rfl⟩
   rw [← hs]
   have hsb:s≤100000:=by
    have h1:=runS_le l id k
    have h2:=HL.out
    have h3:k*l.length≤17*1000:=Nat.mul_le_mul hk (by omega)
    omega
   have HSE:=lH hs
   clear hs
   by_cases hlt:k<17
   ·have SK:=S3.out.nx kw
    have T3:=lH (T3.out.nx kw)
    have hr1:=runN_le l id k
    have hr2:runN l id (k:Nat)≤1000:=by have:=HL.out;omega
    have RR:Hid (∀ w',Ex wo w'→BoRel l id w3 (.int .i64 ((s:Int)+(runN l id (k:Nat):Nat))) (.int .i64 ((k:Int)+1)) w'):=lH (fun w' h=>⟨k+1,by omega,by go_num,by rw [runS_succ,HSE.out];congr 1;omega,kw.nx h⟩)
    clear kw hr1
    go_wp2_with fail
    (with_reducible refine (run_p _ _ _ _ _ _ _ SK hn hc hm HW.out T3.out).mono ?_)
    rintro e w5 ⟨rfl,kk⟩
    have RR:=lH (RR.out _ kk)
    clear kk SK
    go_wp2_with fail
    exact ⟨RR.out,by simp [intOf];omega⟩
   ·obtain rfl:k=17:=by omega
    have RZ:Hid (s=boundN l id):=lH (by rw [RY.out,HSE.out])
    have E6:=lH (E3.out.nx kw)
    clear kw
    go_wp2_with fail
    go_ret
    exact ⟨by rw [RZ.out];rfl,E6.out⟩
theorem height_leB (l:List Nd):heightN l≤16:=by
 unfold heightN
 split
 ·omega
 ·cases h:(List.range 16).find? fun h=>!decide ((classesN (sortN l) (h:Nat)).length<l.length) with
  | none=>simp
  | some k =>
   have:=List.mem_of_find?_eq_some h
   simp at this
   simp;omega
theorem visS_perm {N N':List Nd} (hp:N'.Perm N) (h0:checkN N=0) (x:Nd) (h:Nat):visS N' x h=visS N x h:=by
 unfold visS visN grpS
 rw [sort_perm hp h0]
def bdS (L:List Nd) (x:Nd) (j:Nat):Nat:=((List.range j).map fun (i:Nat)=>2*(runN L x.id i+1)).sum
theorem bdS_succ (L:List Nd) (x:Nd) (j:Nat):bdS L x (j+1)=bdS L x j+2*(runN L x.id j+1):=by unfold bdS;simp [List.range_succ]
theorem bdS_le (L:List Nd) (x:Nd):∀ j,bdS L x j≤j*(2*(L.length+1))
 | 0=>by simp [bdS]
 | j+1=>by
  have:=bdS_le L x j
  have:=runN_le L x.id (j:Int)
  rw [bdS_succ,Nat.add_mul j 1,Nat.one_mul]
  omega
def BdsRel (L:List Nd) (x:Nd) (h Bd:Nat) (w:World) (c i:Value) (wr:World):Prop:=∃ j:Nat,j≤h∧c=.int .i64 ((Bd+bdS L x j:Nat):Int)∧i=.int .i64 j∧Ex w wr
set_option maxRecDepth 100000 in
set_option maxHeartbeats 16000000 in
theorem splicebounds_walk (a1:Option Addr) (n1 c1:Nat) (l1:List Int) (w:World) (h1:Sl 1 encI w a1 n1 l1) (hc1:n1≤c1) (hm1:c1≤maxLen) (hT:TabG w) (hL:LetG w) :
  Calls Tryd.prog 5 #[.slice a1 n1 c1] w fun e w'=>e=.returned (.bool true)∧Ex w w':=by
 go_enter Tryd.func5,Tryd.ntmps5
 go_wp2_with fail
 refine (new_t _ _ _ l1 _ h1 hc1 hm1).mono ?_
 rintro e w1 ⟨rfl,T,kk,z1⟩
 obtain ⟨b,hb⟩:∃ b,b=w.heap.size:=⟨_,rfl⟩
 rw [← hb] at T ⊢
 have hgt:¬ 1=b:=by have:=hT.lt;omega
 have hgl:¬ 0=b:=by have:=hL.lt;omega
 have T1:Hid (TabG w1):=lH (hT.nx kk)
 have L1:Hid (LetG w1):=lH (hL.nx kk)
 have QL:Hid (Exl b w w1):=lH ⟨kk,by omega⟩
 clear h1 hT hL kk hb z1
 have hbo:=T.lt
 go_wp2_with fail
 refine (some_n 9 _ T L1.out hgl (by omega) (by omega)).mono ?_
 clear T
 rintro e w2 ⟨v1,L,rfl,R0,hL1⟩
 replace T1:=lH (T1.out.nxb hgt R0.k)
 replace L1:=lH (L1.out.nxb hgl R0.k)
 replace QL:=lH (QL.out.nxb R0.k)
 obtain ⟨aX,cX,rfl,SX,hcX,hmX,_⟩:=R0.own.slf (fun _=>rfl)
 have SX:=SX.slb hbo
 have RL:=R0.len
 have RC:=lH R0.ok
 have RN:=lH (roster_ok R0.ok)
 have XW:Hid (∀ x∈L,x.word<4294967296):=lH (fun x hx=>(RN.out x hx).1.2.1)
 have T:=R0.tape
 clear R0
 go_wp2_with fail
 refine (next_t (L.length:Int) _ T (by omega) (by omega)).mono ?_
 clear T
 rintro e w4 ⟨r,rfl,r0,r1,T,kk⟩
 replace T1:=lH (T1.out.nxb hgt kk)
 replace L1:=lH (L1.out.nxb hgl kk)
 replace QL:=lH (QL.out.nxb kk)
 replace SX:=SX.nxb kk
 clear kk
 obtain ⟨m,rfl⟩:=Int.eq_ofNat_of_zero_le r0
 have hm:m<L.length:=by omega
 clear r0 r1
 obtain ⟨x1,o1,x,rfl,hx1,hx,hc⟩:=SX.sl.at hm
 have c0:w4.cell? ⟨x1,o1+m*3,none⟩=some (.int .i64 x.id):=hc 0 _ rfl
 have c1:w4.cell? ⟨x1,o1+m*3+1,none⟩=some (.string x.key):=hc 1 _ rfl
 have c2:w4.cell? ⟨x1,o1+m*3+1+1,none⟩=some (.int .u32 x.word):=by simpa [Nat.add_assoc] using hc 2 _ rfl
 have HXM:=lH (List.mem_of_getElem? hx)
 have hxw:=XW.out x HXM.out
 have hbn:=T.lt
 clear hc hx hx1
 have B6:=Blk.new w4 [.int .i64 x.id,.string x.key,.int .u32 x.word] 38
 have kk:=Ex.new w4 (.cells #[.int .i64 x.id,.string x.key,.int .u32 x.word] 38)
 obtain ⟨w5,hw5⟩:∃ w5,w5=w4.alloc (.cells #[.int .i64 x.id,.string x.key,.int .u32 x.word] 38):=⟨_,rfl⟩
 obtain ⟨g6,hg6⟩:∃ g6,g6=w4.heap.size:=⟨_,rfl⟩
 replace B6:Blk w5 g6 [.int .i64 x.id,.string x.key,.int .u32 x.word] 38:=by rw [hw5,hg6];exact B6
 rw [← hw5] at kk
 have Hw5:=lH hw5
 have Hg6:=lH hg6
 replace T:=T.nx kk
 replace T1:=lH (T1.out.nx kk)
 replace L1:=lH (L1.out.nx kk)
 replace QL:=lH (QL.out.nx kk)
 replace SX:=SX.nxb (kk.b b)
 have hg6b:g6≠b:=by omega
 clear kk hw5 hg6
 go_upto_region 4 with fail
 rw [← Hg6.out,← Hw5.out]
 clear Hg6 Hw5
 clear c0 c1 c2
 have hbq:=T.lt
 have b0:=B6.cell 0 _ rfl
 have kn:=Ex.new w5 (.cells #[.int .i64 x.id] 3)
 have SI:Sl 1 encI (w5.alloc (.cells #[.int .i64 x.id] 3)) (some ⟨w5.heap.size,0,none⟩) 1 [x.id]:=Sl.lit _ rfl rfl (fun _=>rfl) rfl
 have S5:=SX.sl.nx kn
 have hb5:b<(w5.alloc (.cells #[.int .i64 x.id] 3)).heap.size:=Nat.lt_of_lt_of_le hbq kn.size
 go_wp2_with fail
 (with_reducible refine (without_p _ _ _ L _ _ _ [x.id] _ S5 (by omega) SI (by omega)).mono ?_)
 rintro e w6 ⟨v,rfl,own,kk⟩
 have kk:=kn.nx kk
 replace T:=T.nx kk
 replace T1:=lH (T1.out.nx kk)
 replace L1:=lH (L1.out.nx kk)
 replace QL:=lH (QL.out.nx kk)
 replace SX:=SX.nxb (kk.b b)
 replace B6:=B6.nx kk
 rw [with_drop] at own
 have RRC:=lH (drop_check RC.out x.id)
 have RRW:Hid (∀ y∈dropN L x.id,y.word<4294967296):=lH (drop_word XW.out x.id)
 have RIN:=lH (fun (frm:Int) (hf:dropN L x.id=[]∨(findN (dropN L x.id) frm).2=true) (i:Nat) (hi:i≤16)=>ins_ok (frm:=frm) (put_check RC.out HXM.out) hi hf)
 have DL:=drop_len RC.out HXM.out
 have DPB:=lH (fun (i:Int)=>put_build RC.out HXM.out i)
 obtain ⟨R,hR⟩:∃ R,R=dropN L x.id:=⟨_,rfl⟩
 rw [← hR] at own RRC RRW RIN DL DPB
 obtain ⟨aR,cR,rfl,SR,hcR,hmR,_⟩:=own.slf (fun _=>rfl)
 have SR:=SR.slb hb5
 obtain ⟨q,hq⟩:∃ q,q=R.length:=⟨_,rfl⟩
 rw [← hq] at SR hcR DL ⊢
 have HQ:=lH hq
 have HR:=lH hR
 have DLH:=lH DL
 have hq8:q≤10:=by omega
 have hwl:IntKind.i64.wrap ((L.length:Int)-1)=(L.length:Int)-1:=IntWalk.i64_in _ (by omega)
 have hdl:((q:Int) != (L.length:Int)-1)=false:=by rw [bne_eq_false_iff_eq];omega
 clear kk kn SI S5 b0 own hR hq DL hb5 hbq
 have hxk:=(roster_ok RC.out x HXM.out).2.2.2.1
 have HXK:=lH hxk
 clear hxk hwl hdl
 go_wp2_with fail
 (with_reducible refine (height_p _ _ _ R _ SR.sl (by omega) hcR hmR RRW.out T1.out).mono ?_)
 rintro e w7 ⟨rfl,kk⟩
 replace T:=T.nx kk
 replace T1:=lH (T1.out.nx kk)
 replace L1:=lH (L1.out.nx kk)
 replace QL:=lH (QL.out.nx kk)
 replace SX:=SX.nxb (kk.b b)
 replace B6:=B6.nx kk
 replace SR:=SR.nxb (kk.b b)
 clear kk
 have hh16:=height_leB R
 obtain ⟨h,hh⟩:∃ h,h=heightN R:=⟨_,rfl⟩
 rw [← hh] at hh16 ⊢
 have HHT:=lH hh
 clear hh
 have hneg:¬ (h:Int)<0:=by omega
 have hbig:¬ (h:Int)>16:=by omega
 by_cases hq0:q=0
 ·have d1:((q:Int)==0)=true:=by rw [beq_iff_eq];omega
  have d2:((L.length:Int)==1)=true:=by rw [beq_iff_eq];have:=DLH.out;omega
  have QX:=lH QL.out.1
  have TG:=T1.out
  clear hq0 T SX SR B6 QL
  go_wp2_with fail
  (with_reducible refine (sane10_x _ TG).mono ?_)
  rintro e z9 ⟨rfl,kk⟩
  go_wp2_with fail
  go_ret
  exact ⟨rfl,QX.out.nx kk⟩
 have d1:((q:Int)==0)=false:=by rw [beq_eq_false_iff_ne];omega
 have hq1:(1:Int)≤(q:Int):=by omega
 clear hq0
 have hb7:=T.lt
 go_wp2_with fail
 (with_reducible refine (build_p _ _ _ R (h:Int) _ SR.sl (by omega) hcR hmR RRW.out T1.out).mono ?_)
 rintro e w8 ⟨vR,qR,rfl,ownR,kk⟩
 replace T:=T.nx kk
 replace T1:=lH (T1.out.nx kk)
 replace L1:=lH (L1.out.nx kk)
 replace QL:=lH (QL.out.nx kk)
 replace SX:=SX.nxb (kk.b b)
 replace B6:=B6.nx kk
 replace SR:=SR.nxb (kk.b b)
 clear kk
 rw [(build_ok0 RRC.out hh16).1]
 obtain ⟨RB,hRB⟩:∃ RB,RB=(buildN R (h:Int)).1:=⟨_,rfl⟩
 rw [← hRB] at ownR
 have BR:=lH (buildN_small R (h:Int) (by have:=HQ.out;omega))
 rw [← hRB] at BR
 have HRB:=lH hRB
 clear hRB
 go_wp2_with fail
 refine (next_t (q:Int) _ T hq1 (by omega)).mono ?_
 clear T
 rintro e w9 ⟨r,rfl,r0,r1,T,kk⟩
 replace T1:=lH (T1.out.nxb hgt kk)
 replace L1:=lH (L1.out.nxb hgl kk)
 replace QL:=lH (QL.out.nxb kk)
 replace SX:=SX.nxb kk
 replace B6:=B6.nxb hg6b kk
 replace SR:=SR.nxb kk
 replace ownR:=ownR.nxb hb7 kk
 clear kk
 obtain ⟨j,rfl⟩:=Int.eq_ofNat_of_zero_le r0
 have hj:j<q:=by omega
 obtain ⟨x2,o2,y,rfl,hx2,hy,hc⟩:=SR.sl.at hj
 have e0:w9.cell? ⟨x2,o2+j*3,none⟩=some (.int .i64 y.id):=hc 0 _ rfl
 have HYM:=lH (List.mem_of_getElem? hy)
 have S:=SX.sl
 have SQ:=SR.sl
 obtain ⟨aM,cM,rfl,LR,_,_,_,_⟩:=OwnN.nl (encA:=encI) (encB:=encS) (s1:=2) (s2:=2) (fun _=>rfl) (fun _=>rfl) ownR
 have QX:=QL.out.1
 have TG:=T1.out
 clear SX SR ownR QL T1 L1 T hc hy hx2 r0 r1
 have LR:=lH LR
 have BR1:=BR.out.1
 have BR2:Hid (∀ c∈RB,c.2.length≤9223372036854775807):=lH (fun c hc=>Nat.le_trans (BR.out.2 c hc) (by omega))
 have HINS:Hid (insertN R RB x y.id h=((buildN L (h:Int)).1,(routeN R RB y.id x.key).1.length+visS (R++[x]) x h,0)):=lH (by have:=RIN.out y.id (.inr (by rw [find_in RRC.out HYM.out])) h hh16;rw [DPB.out,← HRB.out] at this;exact this)
 have HEND:Hid ((routeN R RB y.id x.key).1.length≤boundN R y.id):=lH (by rw [HRB.out];exact ends_law RRC.out RRW.out hh16 (Nat.le_of_eq HHT.out.symm) HYM.out HXK.out)
 have HVIS:Hid (visS (R++[x]) x h≤bdS L x h):=lH (by rw [HR.out,visS_perm (drop_put RC.out HXM.out) RC.out];exact visS_le RC.out XW.out HXM.out hh16)
 have hbl:=bound_le RRC.out HYM.out
 have hrl:R.length=q:=HQ.out.symm
 rw [hrl] at hbl
 have b0:=B6.cell 0 _ rfl
 have b1:=B6.cell 1 _ rfl
 have b2:=B6.cell 2 _ rfl
 clear hrl d1 hq1
 go_wp2_with fail
 (with_reducible refine (insert_p _ _ _ R _ _ _ RB x y.id (h:Int) _ SQ (by omega) hcR hmR RRW.out hxw TG LR.out (by omega) BR2.out).mono ?_)
 rintro e y1 ⟨v16,q16,rfl,own16,kk⟩
 replace S:=S.nx kk
 replace SQ:=SQ.nx kk
 replace QX:=QX.nx kk
 replace TG:=TG.nx kk
 replace B6:=B6.nx kk
 clear kk
 clear own16 e0 b0 b1 b2 LR
 rw [HINS.out]
 obtain ⟨NV,hNV⟩:∃ NV,NV=(routeN R RB y.id x.key).1.length+visS (R++[x]) x h:=⟨_,rfl⟩
 simp only
 rw [← hNV]
 have HNV:=lH hNV
 clear hNV
 go_wp2_with fail
 (with_reducible refine (bound_p _ _ _ R y.id _ SQ (by omega) hcR hmR RRW.out TG).mono ?_)
 rintro e y2 ⟨rfl,kk⟩
 replace S:=S.nx kk
 replace SQ:=SQ.nx kk
 replace QX:=QX.nx kk
 replace TG:=TG.nx kk
 replace B6:=B6.nx kk
 clear kk
 obtain ⟨Bd,hBd⟩:∃ Bd,Bd=boundN R y.id:=⟨_,rfl⟩
 rw [← hBd] at hbl ⊢
 have HBD:=lH hBd
 clear hBd
 have ST:=lH (show BdsRel L x h Bd y2 (.int .i64 (Bd:Int)) (.int .i64 0) y2 from ⟨0,by omega,by simp [bdS],rfl,Ex.refl _⟩)
 have S:=lH S
 have QX:=lH QX
 have TG:=lH TG
 have B6:=lH B6
 clear SQ
 go_wp2_with fail
 go_loopw [14,15] (fun c i wr=>BdsRel L x h Bd y2 c i wr) (fun _ i _=>h-(intOf i).toNat)
 case atStart=>exact ST.out
 case round =>
  clear ST
  obtain ⟨i,hi,rfl,rfl,kw⟩:=hrel
  obtain ⟨wo,rfl⟩:∃ wo:World,wo=wr:=⟨_,rfl⟩
  have hbs:=bdS_le L x i
  have hbs2:bdS L x i≤16*20:=Nat.le_trans hbs (Nat.mul_le_mul (by omega) (by omega))
  have BS:=lH (bdS_succ L x i)
  by_cases hlt:i<h
  case neg =>
   obtain rfl:i=h:=by omega
   have TG:=TG.out.nx kw
   have QX:=lH (QX.out.nx kw)
   have d1:((NV:Int) ≥ 0):=by omega
   have d2:(NV:Int)≤((Bd+bdS L x i:Nat):Int):=by have:=HNV.out;have:=HEND.out;have:=HVIS.out;have:=HBD.out;omega
   have d3:¬ (i:Int)<(i:Int):=by omega
   obtain ⟨C,hC⟩:∃ C,C=Bd+bdS L x i:=⟨_,rfl⟩
   rw [← hC] at d2 ⊢
   clear hlt kw hbs hbs2 hC
   go_wp2_with fail
   (with_reducible refine (sane10_x _ TG).mono ?_)
   rintro e z9 ⟨rfl,kk⟩
   go_wp2_with fail
   go_ret
   exact ⟨rfl,QX.out.nx kk⟩
  obtain ⟨C,hC⟩:∃ C,C=Bd+bdS L x i:=⟨_,rfl⟩
  rw [← hC]
  have hCb:C≤1000:=by omega
  have HC:=lH hC
  have b0:=(B6.out.nx kw).cell 0 _ rfl
  have S:=S.out.nx kw
  have TG:=TG.out.nx kw
  have hrn:=runN_le L x.id (i:Int)
  clear hC hbs hbs2
  go_wp2_with fail
  (with_reducible refine (run_p _ _ _ L x.id (i:Int) _ S (by omega) hcX hmX XW.out TG).mono ?_)
  rintro e u1 ⟨rfl,kk⟩
  replace kw:=kw.nx kk
  clear kk
  obtain ⟨rn,hrr⟩:∃ rn,rn=runN L x.id (i:Int):=⟨_,rfl⟩
  rw [← hrr] at hrn BS ⊢
  have w1:IntKind.i64.wrap ((rn:Int)+1)=(rn:Int)+1:=IntWalk.i64_in _ (by omega)
  have w2:IntKind.i64.wrap (2*((rn:Int)+1))=2*((rn:Int)+1):=IntWalk.i64_in _ (by omega)
  have w3:IntKind.i64.wrap ((C:Int)+2*((rn:Int)+1))=(C:Int)+2*((rn:Int)+1):=IntWalk.i64_in _ (by omega)
  have w4:IntKind.i64.wrap ((i:Int)+1)=(i:Int)+1:=IntWalk.i64_in _ (by omega)
  have RR:=lH (show BdsRel L x h Bd y2 (.int .i64 ((C:Int)+2*((rn:Int)+1))) (.int .i64 ((i:Int)+1)) u1 from ⟨i+1,by omega,by rw [BS.out];have:=HC.out;congr 1;omega,by go_num,kw⟩)
  clear hrr kw S TG b0
  go_wp2_with fail
  exact ⟨RR.out,by simp [intOf];omega⟩
end Go.Proofs.YtalmjklljofhbaaDoor
/-
 SpliceBounds returns true for every list of numbers,and leaves its arguments as they were.
 Condition: the table of math/bits and the letters of the keys are as the program text lays them (tied by the card).
-/
namespace Go.Proofs.YtalmjklljofhbaaDoor
open Go.RowKit
open Go.ChangeShapes Go.WideShapes Go.ChangeAt Go.RowKit Go.Deep Go.Joins
open Go.ChangeMaps (open_string shut_string)
set_option linter.unusedVariables false
theorem Tryd.cellsInt:Tryd.prog.cellsOf 3=1:=by kernel_rfl
set_option maxRecDepth 100000 in
set_option maxHeartbeats 1000000 in
theorem spliceBounds_lifted (os:Os) (started:os.Started) (H:Type) (enc:TypeId×Value→H) :
  ReturnsInHanded {} Tryd.checked os 5 .any (fun w args=>(Rows.spliceBoundsSpec.pre enc Tryd.prog Tryd.f5 [] false w args∧laidMetH Tryd.prog Rows.spliceBoundsRow.laid w)∧sizedMet enc Tryd.prog Tryd.f5 (OpenSpec.ofChange Rows.spliceBoundsSpec) false w args)
   (Rows.spliceBoundsSpec.post enc Tryd.prog Tryd.f5 false true false false):=by
 refine returnsInHanded_of_change_and (C:=Tryd.checked) (X:=fun w _=>laidMetH Tryd.prog Rows.spliceBoundsRow.laid w) (fun _ _ _ hh h=>h.of_heap hh) own started (by kernel_rfl) Tryd.func5
  (ChangeSpec.witness_shaped (enc:=enc) (C:=Tryd.checked) (os:=os) (X:=fun w _=>laidMetH Tryd.prog Rows.spliceBoundsRow.laid w) false (World.doorLaid Tryd.prog 400 os) #[.slice none 0 0] 8 rfl (World.shaped_of_RefB (by kernel_rfl) (by kernel_rfl)) (by kernel_rfl) (by kernel_rfl) (by kernel_rfl) (laidMetH_of_parts3 (fuel:=8) (laidMet_of_run' 8 (by kernel_rfl) (by kernel_rfl)) (by kernel_rfl) (by kernel_rfl))) ?_
 intro W base args ds gs before hval0 hW _ _ hL _
 have hval:∀ (j:Nat) t v,Tryd.f5.params[j]?=some t→args[j]?=some v→Value.okWide Tryd.prog W .any base t v:=hval0
 have hW':=hW
 obtain ⟨p,q,hA0,hV,rfl,hfz,hnd⟩:=hW
 have hA:DataW.TrodAll enc Tryd.prog W 0 (fun _=>true) true Tryd.f5.params.toList args.toList ds p:=hA0
 rw [Tryd.params5] at hA hval
 obtain ⟨v0,vs0,d0,ds0,p0,q0,hargs,rfl,rfl,h0,r0⟩:=trodAll_cons hA
 obtain ⟨rfl,rfl,rfl⟩:=trodAll_nil r0
 obtain rfl:args=#[v0]:=by cases args;simp_all
 obtain ⟨rfl,rfl⟩:=trodVars_none hV
 have k0:=h0
 have lt0:∀ x∈p0,x.block<W.heap.size:=by obtain ⟨m,hm⟩:=k0;exact DataW.trod_lt m _ _ _ hm
 obtain ⟨A0,n0,cap0,l0,rfl,rd0,hc0,hm0,wf0,nl0⟩:=rd_ints Tryd.underlying22 Tryd.underlying3 Tryd.cellsInt (hval 0 22 v0 rfl rfl) h0
 clear hA0 hval0
 have hT:TabG W:=tabG_of hL (by kernel_rfl)
 have hL2:LetG W:=letG_second hL (by kernel_rfl) (by kernel_rfl)
 refine (splicebounds_walk A0 n0 cap0 l0 W rd0 hc0 hm0 hT hL2).mono fun e W' ⟨he,hch⟩=>?_
 have bel:Below W.heap.size W W':=hch.below (fun _ h=>h)
 subst he
 exact ⟨_,rfl,_,_,_,[],_,[],hW',trodAll_mk1 (shut_bool Tryd.underlying4 _),(trodAll_cons_mk (Below.trod laidOut (by kernel_rfl) (of_decide_eq_true (by kernel_rfl)) k0 bel lt0) trodAll_mk0),rfl,bel.frame _,fun h=>by cases h⟩
theorem spliceBounds_over:Rows.spliceBoundsRow.holds Tryd.pinned (OpenSpec.ofChange Rows.spliceBoundsSpec) :=
 OpenClaim.holds_of_wide 5 Tryd.f5 rfl rfl rfl rfl rfl rfl rfl ⟨rfl,rfl,rfl,rfl,rfl⟩ rfl rfl rfl rfl rfl (by kernel_rfl) Tryd.func5 (by kernel_rfl)
  (of_decide_eq_true (by kernel_rfl)) (by unfold Func.isWrapper;first | (rw [if_pos (by decide +kernel)];kernel_rfl) | (rw [if_neg (by decide +kernel)];exact ⟨rfl,rfl⟩))
  (fun os started H enc _=>spliceBounds_lifted os started H enc)
theorem SpliceBounds_holds:Rows.SpliceBoundsCardSaid :=
 Claim7.holds_tied_plain_at .later [] [.data, .data] true (true, "517cf27bafc81ed1b48e12ec04a420ffb21250635aea1422c02147852fa62a79") false
  spliceBounds_over (fun _ h=>by cases h) (by kernel_rfl) (fun _ h=>by cases h) spliceBounds_row_tie rfl ⟨rfl,rfl⟩ (by kernel_rfl) rfl
  (fun f fn hf hfn=>by
   obtain rfl : f = 5 := Option.some.inj ((show Tryd.prog.funcNamed "skipgraph/skipgraphlaw10.SpliceBounds" = some 5 by kernel_rfl).symm.trans hf) |>.symm
   obtain rfl:fn=Tryd.f5:=(Option.some.inj (Tryd.func5.symm.trans hfn)).symm
   exact ⟨by kernel_rfl,fun j t ht=>by
    rw [Tryd.params5] at ht
    have hm:t∈[22]:=by simpa using Array.mem_of_getElem? ht
    have hall:([22].all fun u=>!Tryd.prog.wantsStandIn u)=true:=by kernel_rfl
    exact (show Tryd.prog.wantsStandIn t=false by simpa using List.all_eq_true.1 hall t hm)⟩)
  (by kernel_rfl)
#print axioms SpliceBounds_holds
end Go.Proofs.YtalmjklljofhbaaDoor
