/- Texts for TopSearchProof. -/
import Derived.Test.YthcholmhmcpooaaGreatDoorWAll23
set_option linter.unusedSimpArgs false
set_option linter.unusedVariables false

namespace Go.Proofs.YthcholmhmcpooaaGreatDoor
open Go.RowKit
theorem bitN_of (a i:Nat) (hi:i<16):bitN a i=a / 2 ^ i % 2:=by unfold bitN;rw [if_neg (by omega)];simp
theorem testBit_of (a i:Nat):a.testBit i=decide (a / 2 ^ i % 2=1):=by
 rw [Nat.testBit_eq_decide_div_mod_eq]
theorem bit_eq_iff (a b i:Nat):a.testBit i=b.testBit i↔a / 2 ^ i % 2=b / 2 ^ i % 2:=by
 rw [testBit_of,testBit_of]
 have h1:=Nat.mod_lt (a / 2 ^ i) (show 2>0 by omega)
 have h2:=Nat.mod_lt (b / 2 ^ i) (show 2>0 by omega)
 constructor
 ·intro h
  by_cases h3:a / 2 ^ i % 2=1
  ·have:b / 2 ^ i % 2=1:=by simpa [h3] using h.symm
   omega
  ·have:¬ b / 2 ^ i % 2=1:=by simpa [h3] using h.symm
   omega
 ·intro h;rw [h]
theorem bitN_lt (a:Nat) (i:Int):bitN a i<2:=by unfold bitN;split<;>omega
def NodesPost (l:List Nd) (w:World) (e:Ending) (w':World):Prop :=
 ∃ (a:Option Addr) (n cap:Nat),e=.returned (.slice a n cap)∧Rd 3 encN (fun k=>w.heap.size≤k∧k<w'.heap.size) w' a n l∧Chg (· < w.heap.size) w w'
theorem groupN_snoc (l:List Nd) (h:Int) (v:Nat) (k:Nat) (y:Nd) (hy:l[k]?=some y):groupN (l.take (k+1)) h v=if sameN y.word v h then groupN (l.take k) h v++[y] else groupN (l.take k) h v:=by
 unfold groupN
 rw [take_snocN l k y hy,List.filter_append]
 cases hs:sameN y.word v h<;>simp [hs]
theorem groupN_length (l:List Nd) (h:Int) (v:Nat):(groupN l h v).length≤l.length:=List.length_filter_le _ _
def GroupRel (l:List Nd) (h:Int) (v:Nat) (w:World) (o i:Value) (wr:World):Prop :=
 ∃ k:Nat,k≤l.length∧i=.int .i64 k∧OwnL 3 encN 36 w.heap.size wr o (groupN (l.take k) h v)∧Chg (· < w.heap.size) w wr
def heightN (l:List Nd):Nat:=if (checkN l==0)=false∨l.length=0 then 0 else ((List.range 16).find? fun h=>!decide ((classesN (sortN l) (h:Nat)).length<l.length)).getD 16
theorem heightN_of {l:List Nd} {k:Nat} (hk:k<16) (h1:(checkN l==0)=true) (h2:l.length≠0) (hk2:¬ (classesN (sortN l) (k:Nat)).length<l.length) (hno:∀ j,j<k→(classesN (sortN l) (j:Nat)).length<l.length):heightN l=k:=by
 have:(List.range 16).find? (fun h=>!decide ((classesN (sortN l) (h:Nat)).length<l.length))=some k:=by
  rw [List.find?_eq_some_iff_getElem]
  refine ⟨by simpa using hk2,k,by simpa using hk,by simp,fun j hj=>?_⟩
  have:=hno j hj
  simpa using this
 unfold heightN
 rw [if_neg (by rw [h1];simp [h2]),this]
 rfl
theorem heightN_top {l:List Nd} (h1:(checkN l==0)=true) (h2:l.length≠0) (hno:∀ j,j<16→(classesN (sortN l) (j:Nat)).length<l.length):heightN l=16:=by
 have:(List.range 16).find? (fun h=>!decide ((classesN (sortN l) (h:Nat)).length<l.length))=none:=by
  rw [List.find?_eq_none]
  intro j hj
  have:=hno j (by simpa using hj)
  simpa using this
 unfold heightN
 rw [if_neg (by rw [h1];simp [h2]),this]
 rfl
theorem same_succ {a b m:Nat} (ha:a<4294967296) (hb:b<4294967296) (hm:m<16) :
  sameN a b ((m:Int)+1)=true↔sameN a b m=true∧bitN a m=bitN b m:=by
 have key:a.testBit m=b.testBit m↔bitN a m=bitN b m:=by
  rw [bitN_of a m hm,bitN_of b m hm];exact bit_eq_iff a b m
 unfold sameN
 simp only [decide_eq_true_eq]
 constructor
 ·intro h
  exact ⟨by omega,key.1 (common_lt ha hb (by omega))⟩
 ·rintro ⟨h1,h2⟩
  rcases Nat.lt_or_ge m (commonN a b) with h | h
  ·omega
  ·exfalso
   have he:commonN a b=m:=by omega
   have:=common_at ha hb (by omega)
   rw [he] at this
   exact this (key.2 h2)
def onesN (c:List Nd) (m:Nat):Nat:=(c.map fun y=>bitN y.word m).sum
def partC (m:Nat) (c:List Nd):Nat:=(if 0<onesN c m then 1 else 0)+(if onesN c m<c.length then 1 else 0)
def partsC (m:Nat) (C:List (List Nd)):Nat:=(C.map (partC m)).sum
def lensC (C:List (List Nd)):Nat:=(C.map List.length).sum
theorem ones_le (c:List Nd) (m:Nat):onesN c m≤c.length:=by
 unfold onesN
 induction c with
 | nil=>simp
 | cons y r ih=>have:=bitN_lt y.word m;simp at *;omega
theorem ones_pos (c:List Nd) (m:Nat):0<onesN c m↔∃ y∈c,bitN y.word m=1:=by
 unfold onesN
 induction c with
 | nil=>simp
 | cons y r ih =>
  have h:=bitN_lt y.word m
  simp only [List.map_cons,List.sum_cons,List.mem_cons,exists_eq_or_imp]
  rw [← ih]
  omega
theorem ones_lt (c:List Nd) (m:Nat):onesN c m<c.length↔∃ y∈c,bitN y.word m=0:=by
 induction c with
 | nil=>simp [onesN]
 | cons y r ih =>
  have h:=bitN_lt y.word m
  have h2:=ones_le r m
  have h3:onesN (y::r) m=bitN y.word m+onesN r m:=by unfold onesN;simp
  rw [h3]
  simp only [List.mem_cons,exists_eq_or_imp,List.length_cons]
  rw [← ih]
  omega
theorem ones_snoc (c:List Nd) (x:Nd) (m:Nat):onesN (c++[x]) m=onesN c m+bitN x.word m:=by unfold onesN;simp
theorem part_snoc (c:List Nd) (x:Nd) (m:Nat):partC m (c++[x])=partC m c+if (∃ y∈c,bitN y.word m=bitN x.word m) then 0 else 1:=by
 unfold partC
 rw [ones_snoc,List.length_append,List.length_singleton]
 have hle:=ones_le c m
 have hp:=ones_pos c m
 have hq:=ones_lt c m
 have hb:=bitN_lt x.word m
 rcases Nat.lt_or_ge (bitN x.word m) 1 with h0 | h1
 ·have hz:bitN x.word m=0:=by omega
  rw [hz]
  simp only [← hq]
  split<;>split<;>split<;>split<;>omega
 ·have hz:bitN x.word m=1:=by omega
  rw [hz]
  simp only [← hp]
  split<;>split<;>split<;>split<;>omega
theorem part_one (x:Nd) (m:Nat):partC m [x]=1:=by
 have hb:=bitN_lt x.word m
 unfold partC onesN
 simp
 split<;>split<;>omega
theorem sum_set:∀ (l:List Nat) (k v u:Nat),l[k]?=some u→(l.set k v).sum+u=l.sum+v
 | [],k,v,u,h=>by simp at h
 | y::r,0,v,u,h=>by simp at h;subst h;simp;omega
 | y::r,k+1,v,u,h=>by
  have:=sum_set r k v u (by simpa using h)
  simp;omega
theorem lensC_step (h:Int) (C:List (List Nd)) (x:Nd):lensC (stepC h C x)=lensC C+1:=by
 unfold lensC
 rcases stepC_cases h C x with ⟨_,he⟩ | ⟨K,c,hc,hs,he⟩
 ·rw [he];simp
 ·rw [he,List.map_set]
  have:=sum_set (C.map List.length) K (c++[x]).length c.length (by simp [hc])
  simp at *
  omega
theorem split_law (m:Nat) (hm:m<16) (l:List Nd) (hl:∀ y∈l,y.word<4294967296) :
  Cls m l (foldC m l)∧Cls ((m:Int)+1) l (foldC ((m:Int)+1) l)∧(foldC ((m:Int)+1) l).length=partsC m (foldC m l)∧lensC (foldC m l)=l.length:=by
 induction l using snoc_ind with
 | h0=>exact ⟨⟨by simp,by simp [foldC],by simp [foldC]⟩,⟨by simp,by simp [foldC],by simp [foldC]⟩,rfl,rfl⟩
 | h1 l x ih =>
  have hl':∀ y∈l,y.word<4294967296:=fun y hy=>hl y (List.mem_append_left _ hy)
  have hx:x.word<4294967296:=hl x (by simp)
  obtain ⟨H1,H2,H3,H4⟩:=ih hl'
  rw [foldC_append,foldC_append]
  refine ⟨H1.step (by omega) hl' hx,H2.step (by omega) hl' hx,?_,by rw [lensC_step,H4];simp⟩
  generalize foldC (m:Int) l=C at H1 H3 H4
  generalize foldC ((m:Int)+1) l=D at H2 H3
  have hw1:∀ c∈C,headW c<4294967296:=fun c hc=>by
   obtain ⟨y,hy,he⟩:=headW_mem (H1.mem c hc).1
   rw [he];exact hl' y ((H1.mem c hc).2 y hy).1
  have hw2:∀ c∈D,headW c<4294967296:=fun c hc=>by
   obtain ⟨y,hy,he⟩:=headW_mem (H2.mem c hc).1
   rw [he];exact hl' y ((H2.mem c hc).2 y hy).1
  -- whether a class of D takes x
  have take:∀ y∈l,sameN y.word x.word m=true→bitN y.word m=bitN x.word m→∃ d∈D,sameN (headW d) x.word ((m:Int)+1)=true:=by
   intro y hy h1 h2
   obtain ⟨d,hd,hyd⟩:=H2.all y hy
   exact ⟨d,hd,sameN_trans (hw2 d hd) (hl' y hy) hx ((H2.mem d hd).2 y hyd).2 ((same_succ (hl' y hy) hx hm).2 ⟨h1,h2⟩)⟩
  have back:∀ d∈D,sameN (headW d) x.word ((m:Int)+1)=true→∃ y∈l,sameN y.word x.word m=true∧bitN y.word m=bitN x.word m:=by
   intro d hd hs
   obtain ⟨y,hy,he⟩:=headW_mem (H2.mem d hd).1
   have hyl:=((H2.mem d hd).2 y hy).1
   rw [he] at hs
   exact ⟨y,hyl,(same_succ (hl' y hyl) hx hm).1 hs⟩
  have hD:(stepC ((m:Int)+1) D x).length=D.length+if (∃ y∈l,sameN y.word x.word m=true∧bitN y.word m=bitN x.word m) then 0 else 1:=by
   rcases stepC_cases ((m:Int)+1) D x with ⟨hno,he⟩ | ⟨K,d,hd,hs,he⟩
   ·rw [he,if_neg]
    ·simp
    ·rintro ⟨y,hy,h1,h2⟩
     obtain ⟨d,hd,hs⟩:=take y hy h1 h2
     rw [hno d hd] at hs
     cases hs
   ·rw [he,if_pos (back d (List.mem_of_getElem? hd) hs)]
    simp
  rw [hD,H3]
  rcases stepC_cases (m:Int) C x with ⟨hno,he⟩ | ⟨K,c,hc,hs,he⟩
  ·rw [he,if_neg]
   ·unfold partsC;simp [part_one]
   ·rintro ⟨y,hy,h1,_⟩
    obtain ⟨c,hc,hyc⟩:=H1.all y hy
    have:=sameN_trans (hw1 c hc) (hl' y hy) hx ((H1.mem c hc).2 y hyc).2 h1
    rw [hno c hc] at this
    cases this
  ·have hcC:=List.mem_of_getElem? hc
   have hiff:(∃ y∈l,sameN y.word x.word m=true∧bitN y.word m=bitN x.word m)↔∃ y∈c,bitN y.word m=bitN x.word m:=by
    constructor
    ·rintro ⟨y,hy,h1,h2⟩
     obtain ⟨d,hd,hyd⟩:=H1.all y hy
     obtain ⟨j,hj⟩:=List.mem_iff_getElem?.1 hd
     have hdx:=sameN_trans (hw1 d hd) (hl' y hy) hx ((H1.mem d hd).2 y hyd).2 h1
     have hdc:=sameN_trans (hw1 d hd) hx (hw1 c hcC) hdx (sameN_symm hs)
     obtain rfl:=H1.heads j K d c hj hc hdc
     obtain rfl:c=d:=Option.some.inj (hc.symm.trans hj)
     exact ⟨y,hyd,h2⟩
    ·rintro ⟨y,hy,h2⟩
     have h3:=(H1.mem c hcC).2 y hy
     exact ⟨y,h3.1,sameN_trans (hl' y h3.1) (hw1 c hcC) hx (sameN_symm h3.2) hs,h2⟩
   rw [he]
   unfold partsC
   rw [List.map_set]
   have:=sum_set (C.map (partC m)) K (partC m (c++[x])) (partC m c) (by simp [hc])
   rw [part_snoc] at this
   by_cases hex:∃ y∈c,bitN y.word m=bitN x.word m
   ·rw [if_pos (hiff.2 hex)]
    rw [part_snoc,if_pos hex] at *
    omega
   ·rw [if_neg (fun h=>hex (hiff.1 h))]
    rw [part_snoc,if_neg hex] at *
    omega
open Classical in
theorem cntN_perm {h:Int} {l l':List Nd} (hp:l.Perm l'):(∀ y∈l,y.word<4294967296)→cntN h l=cntN h l':=by
 induction hp with
 | nil=>intro _;rfl
 | @cons x l1 l2 hp ih =>
  intro hw
  unfold cntN
  rw [ih (fun y hy=>hw y (by simp [hy]))]
  congr 1
  have:(∃ y∈l1,sameN y.word x.word h=true)↔(∃ y∈l2,sameN y.word x.word h=true):=⟨fun ⟨y,hy,k⟩=>⟨y,hp.mem_iff.1 hy,k⟩,fun ⟨y,hy,k⟩=>⟨y,hp.mem_iff.2 hy,k⟩⟩
  simp only [this]
 | swap x y l =>
  intro hw
  have hx:=hw x (by simp)
  have hy:=hw y (by simp)
  have hl:∀ z∈l,z.word<4294967296:=fun z hz=>hw z (by simp [hz])
  unfold cntN
  unfold cntN
  simp only [List.mem_cons,exists_eq_or_imp]
  by_cases s:sameN x.word y.word h=true
  ·have s':=sameN_symm s
   have e:(∃ z∈l,sameN z.word x.word h=true)↔(∃ z∈l,sameN z.word y.word h=true) :=
    ⟨fun ⟨z,hz,k⟩=>⟨z,hz,sameN_trans (hl z hz) hx hy k s⟩,fun ⟨z,hz,k⟩=>⟨z,hz,sameN_trans (hl z hz) hy hx k s'⟩⟩
   rw [if_pos (Or.inl s),if_pos (Or.inl s')]
   simp only [e]
  ·have s':¬ sameN y.word x.word h=true:=fun k=>s (sameN_symm k)
   simp only [s,s',false_or]
   simp only [Bool.false_eq_true,false_or]
   omega
 | trans h1 h2 ih1 ih2 =>
  intro hw
  rw [ih1 hw,ih2 (fun y hy=>hw y (h1.mem_iff.2 hy))]
theorem classes_count {h:Int} {l l':List Nd} (hp:l.Perm l') (hl:∀ y∈l,y.word<4294967296):(classesN l h).length=(classesN l' h).length:=by
 by_cases h16:16<h
 ·rw [classesN_big h16,classesN_big h16]
 ·rw [classesN_fold h16,classesN_fold h16,(foldC_cnt (by omega) l hl).2,(foldC_cnt (by omega) l' (fun y hy=>hl y (hp.mem_iff.2 hy))).2]
  exact cntN_perm ((l.reverse_perm.trans hp).trans l'.reverse_perm.symm) (fun y hy=>hl y (List.mem_reverse.1 hy))
theorem findN_word {l:List Nd} (hw:∀ x∈l,x.word<4294967296) (id:Int):(findN l id).1.word<4294967296:=by
 unfold findN
 split
 ·rename_i x hx
  exact hw x (List.mem_of_find?_eq_some hx)
 ·show 0<_;omega
set_option maxHeartbeats 1000000 in
theorem group_p {S:Nat→Prop} (a:Option Addr) (n cap:Nat) (l:List Nd) (h:Int) (v:Nat) (w:World) (hr:Rd 3 encN S w a n l) (hS:∀ k,S k→k<w.heap.size) (hn:n≤1000)
  (hw:∀ x∈l,x.word<4294967296) (hv:v<4294967296) (hT:TabG w) :
  Calls Tryz.prog 126 #[.slice a n cap,.int .i64 h,.int .u32 v] w (NodesPost (groupN l h v) w):=by
 have hlen:=hr.1
 have hlt:=hT.lt
 have HT:=lH hT
 have HL:=lH hlen
 have HW:=lH hw
 clear hT hlen hw
 go_enter Tryz.func126,Tryz.ntmps126
 go_wp2
 go_loopw [7,12] (fun o i wr=>GroupRel l h v w o i wr) (fun _ i _=>n-(intOf i).toNat)
 case atStart=>exact ⟨0,by omega,rfl,OwnL.nil _ _ _ _ _,Chg.refl _ _⟩
 case round =>
  obtain ⟨k,hk,rfl,hown,hc⟩:=hrel
  obtain ⟨wo,rfl⟩:∃ wo:World,wo=wr:=⟨_,rfl⟩
  have hwo:=hr.chg hc hS
  have hsz:=hc.size
  have HT':=lH (HT.out.chg hc hlt)
  have hgl:=groupN_length (l.take k) h v
  rw [List.length_take] at hgl
  have hkl:=HL.out
  by_cases hlt':k<n
  ·obtain ⟨x,o,y,rfl,hx,hy,hcell⟩:=hwo.at hlt'
   have e0:wo.cell? ⟨x,o+k*3,none⟩=some (.int .i64 y.id):=hcell 0 _ rfl
   have e1:wo.cell? ⟨x,o+k*3+1,none⟩=some (.string y.key):=hcell 1 _ rfl
   have e2:wo.cell? ⟨x,o+k*3+1+1,none⟩=some (.int .u32 y.word):=by simpa [Nat.add_assoc] using hcell 2 _ rfl
   have hyw:=HW.out y (List.mem_of_getElem? hy)
   have Hy:=lH hy
   have hc1:=hc.alloc (.cells #[.int .i64 y.id,.string y.key,.int .u32 y.word] 36) (by intro k hk;omega)
   have hown1:=hown.alloc (.cells #[.int .i64 y.id,.string y.key,.int .u32 y.word] 36)
   have HT1:=lH (HT'.out.chg ((Chg.refl (· < wo.heap.size) wo).alloc (.cells #[.int .i64 y.id,.string y.key,.int .u32 y.word] 36) (by simp)) (by omega))
   clear hy hcell hr hwo hkl
   by_cases hs:sameN y.word v h=true
   ·go_wp2_with (first
     | (go_at_call 141;refine (same_p _ _ _ _ hyw hv HT1.out).mono ?_;rintro e w1 ⟨rfl,rfl⟩)
     | (at_builtin;go_loud (refine wpList_append_lit (enc:=encN) (wo.alloc (.cells #[.int .i64 y.id,.string y.key,.int .u32 y.word] 36)) rfl _ _ 25 rfl w.heap.size 36 (.agg #[.int .i64 0,.string ByteArray.empty,.int .u32 0]) 3 32 Tryz.underlying25 Tryz.infoN rfl (by omega) (by omega) _ _ hown1 rfl y _ rfl rfl (by simp [encN,Value.oneCell']) _ (by simp) rfl (by omega) (by simp;omega) _ ?_);intro v' w3 hown3 _ hch3 hz3))
    go_roundw
    case rel=>exact ⟨k+1,by have:=HL.out;omega,by go_num,by rw [groupN_snoc l h v k y Hy.out,if_pos hs];exact hown3,hc1.then hch3 (fun _ h=>h)⟩
    case measure=>simp [intOf];omega
   ·have hs:sameN y.word v h=false:=by simpa using hs
    go_wp2_with (go_at_call 141;refine (same_p _ _ _ _ hyw hv HT1.out).mono ?_;rintro e w1 ⟨rfl,rfl⟩)
    go_roundw
    case rel=>exact ⟨k+1,by have:=HL.out;omega,by go_num,by rw [groupN_snoc l h v k y Hy.out,if_neg (by simp [hs])];exact hown1,hc1⟩
    case measure=>simp [intOf];omega
  ·obtain rfl:k=n:=by omega
   rw [List.take_of_length_le (by omega)] at hown
   obtain ⟨a',cap',rfl,hrd,_⟩:=hown.rd (fun _=>rfl)
   clear hown hr hwo
   go_wp2
   go_ret
   exact ⟨a',_,cap',rfl,hrd,hc⟩
def HpRel (l:List Nd) (w:World) (i:Value) (wr:World):Prop:=∃ k:Nat,k≤16∧i=.int .i64 k∧Ex w wr∧∀ j,j<k→(classesN l (j:Nat)).length<l.length
set_option maxHeartbeats 2000000 in
theorem height_p (a:Option Addr) (n c:Nat) (l:List Nd) (w:World) (hs:Sl 3 encN w a n l) (hn:n≤1000) (hc:n≤c) (hm:c≤maxLen) (hw:∀ x∈l,x.word<4294967296) (hT:TabG w) :
  Calls Tryz.prog 10 #[.slice a n c] w fun e w'=>e=.returned (.int .i64 (heightN l))∧Ex w w':=by
 have HW:=lH hw
 have HL:=lH hs.len
 have HT:=lH hT
 have CNT:∀ j:Int,(classesN (sortN l) j).length=(classesN l j).length:=fun j=>classes_count (sortN_perm l) (fun y hy=>HW.out y ((sortN_mem l y).1 hy))
 have CNT:=lH CNT
 clear hw hT
 go_enter Tryz.func10,Tryz.ntmps10
 go_wp2_with fail
 (with_reducible refine (check_p _ _ _ _ _ hs (by omega) hc hm).mono ?_)
 rintro e w1 ⟨rfl,k1⟩
 have S1:=hs.nx k1
 clear hs
 by_cases hck:checkN l=0
 ·have HC:=lH hck
  rw [hck]
  clear hck
  have S1:=lH S1
  have HT1:=lH (HT.out.nx k1)
  go_wp2_with fail
  go_loopw [7] (fun i wr=>HpRel l w1 i wr) (fun i _=>16-(intOf i).toNat)
  case atStart=>exact ⟨0,by omega,rfl,Ex.refl _,by intro _ h;omega⟩
  case round =>
   obtain ⟨k,hk,rfl,kw,hno⟩:=hrel
   have HNO:=lH hno
   obtain ⟨wo,rfl⟩:∃ wo:World,wo=wr:=⟨_,rfl⟩
   clear hno
   by_cases hlt:k<16
   ·have SO:=S1.out.nx kw
    have TO:=HT1.out.nx kw
    go_wp2_with fail
    (with_reducible refine (classes_p _ _ _ _ _ _ SO hn HW.out TO).mono ?_)
    rintro e w2 ⟨a2,c2,rfl,C2,k2⟩
    replace kw:=kw.nx k2
    clear SO C2 TO
    have hle:=classes_le l (k:Int)
    by_cases heq:(classesN l (k:Int)).length=l.length
    ·have d1:(((classesN l (k:Int)).length:Int)==(n:Int))=true:=by rw [beq_iff_eq,heq,HL.out]
     have HH:Hid (heightN l=k):=lH (by
      by_cases h0:l.length=0
      ·have:k=0:=by
        rcases Nat.eq_zero_or_pos k with h | h
        ·exact h
        ·have:=HNO.out 0 h;omega
       rw [this];unfold heightN;rw [if_pos (.inr h0)]
      ·exact heightN_of hlt (by rw [HC.out];rfl) h0 (by rw [CNT.out,heq];omega) (fun j hj=>by rw [CNT.out];exact HNO.out j hj))
     clear heq hle
     go_wp2_with fail
     go_ret
     exact ⟨by rw [HH.out];rfl,k1.nx kw⟩
    ·have d1:(((classesN l (k:Int)).length:Int)==(n:Int))=false:=by rw [beq_eq_false_iff_ne,← HL.out];omega
     have HM:Hid ((classesN l (k:Int)).length<l.length):=lH (by omega)
     clear heq hle
     go_wp2_with fail
     refine ⟨⟨k+1,by omega,by go_num,kw,fun j hj=>?_⟩,by simp [intOf];omega⟩
     rcases Nat.lt_or_ge j k with h | h
     ·exact HNO.out j h
     ·obtain rfl:j=k:=by omega
      exact HM.out
   ·obtain rfl:k=16:=by omega
    have HH:Hid (heightN l=16):=lH (heightN_top (by rw [HC.out];rfl) (by have:=HNO.out 0 (by omega);omega) (fun j hj=>by rw [CNT.out];exact HNO.out j hj))
    have KW:=lH (k1.nx kw)
    clear kw hk hlt
    go_wp2_with fail
    go_ret
    exact ⟨by rw [HH.out];rfl,KW.out⟩
 ·have d1:(checkN l != 0)=true:=by rw [bne_iff_ne];exact hck
  have HH:Hid (heightN l=0):=lH (by unfold heightN;rw [if_pos (.inl (by rw [beq_eq_false_iff_ne];exact hck))])
  clear S1 hck
  go_wp2_with fail
  go_ret
  exact ⟨by rw [HH.out];rfl,k1⟩
theorem part_ge (m:Nat) (c:List Nd) (hc:0<c.length):1≤partC m c:=by
 unfold partC
 by_cases h:0<onesN c m
 ·rw [if_pos h];omega
 ·rw [if_neg h,if_pos (by omega)];omega
theorem parts_le (m:Nat) (C:List (List Nd)) (hc:∀ c∈C,0<c.length):C.length≤partsC m C∧partsC m C≤2*C.length:=by
 unfold partsC
 induction C with
 | nil=>simp
 | cons c C ih =>
  have h1:=ih (fun d hd=>hc d (by simp [hd]))
  have h2:=part_ge m c (hc c (by simp))
  have h3:partC m c≤2:=by unfold partC;split<;>split<;>omega
  simp only [List.map_cons,List.sum_cons,List.length_cons]
  omega
theorem classes_mono {S:List Nd} (hw:∀ x∈S,x.word<4294967296) (m:Nat):∀ d,m+d≤16→(foldC (m:Int) S).length≤(foldC ((m+d:Nat):Int) S).length
 | 0,_=>Nat.le_refl _
 | d+1,h=>by
  obtain ⟨H1,H2,H3,H4⟩:=split_law (m+d) (by omega) S hw
  have h1:=classes_mono hw m d (by omega)
  have h2:=(parts_le (m+d) _ (fun c hc=>(H1.mem c hc).1)).1
  have e:(((m+d:Nat):Int)+1)=((m+(d+1):Nat):Int):=by omega
  rw [e] at H3
  omega
theorem height_spec {l:List Nd} (h0:checkN l=0) (hne:l.length≠0):(heightN l<16→¬ (classesN (sortN l) (heightN l:Nat)).length<l.length)∧∀ j,j<heightN l→(classesN (sortN l) (j:Nat)).length<l.length:=by
 unfold heightN
 rw [if_neg (by rw [h0];simp [hne])]
 cases e:(List.range 16).find? fun h=>!decide ((classesN (sortN l) (h:Nat)).length<l.length) with
 | none =>
  refine ⟨fun h=>absurd h (by simp),fun j hj=>?_⟩
  have:=List.find?_eq_none.1 e j (by simpa using hj)
  simpa using this
 | some k =>
  have h1:=List.find?_some e
  refine ⟨fun _=>by simpa using h1,fun j hj=>?_⟩
  have hj:j<k:=hj
  obtain ⟨_,us,vs,e2,h3⟩:=List.find?_eq_some_iff_append.1 e
  have hk:k<16:=by
   have:k∈List.range 16:=by rw [e2];simp
   simpa using this
  have hjm:j∈us:=by
   have hp:(List.range 16).Pairwise (· < ·):=List.pairwise_lt_range
   have hj2:j∈List.range 16:=by simp;omega
   rw [e2] at hp hj2
   rcases List.mem_append.1 hj2 with h | h
   ·exact h
   ·have h5:=(List.pairwise_append.1 hp).2.1
    rcases List.mem_cons.1 h with h | h
    ·omega
    ·have:=(List.pairwise_cons.1 h5).1 j h;omega
  simpa using h3 j hjm
def boundN (l:List Nd) (id:Int):Nat:=if (findN l id).2=true∧checkN l=0 then 1+((List.range 17).map fun (h:Nat)=>runN l id h).sum else 0
section
variable {x:Nd} {lev:Int}
theorem run_count:∀ (G:List Nd) (s:Nat×Nat),s.2≤s.1→(G.foldl (runStep x lev) s).1≤s.1+G.countP fun y=>!brkN x lev y
 | [],s,_=>Nat.le_refl _
 | y::G,s,h=>by
  show (G.foldl (runStep x lev) (runStep x lev s y)).1≤_
  rw [List.countP_cons]
  cases hb:brkN x lev y with
  | true =>
   have e:runStep x lev s y=(s.1,0):=by unfold runStep;rw [hb];rfl
   rw [e]
   have:=run_count G (s.1,0) (Nat.zero_le _)
   simp only at this ⊢
   omega
  | false =>
   have e:runStep x lev s y=(max s.1 (s.2+1),s.2+1):=by unfold runStep;rw [hb];rfl
   rw [e]
   have:=run_count G (max s.1 (s.2+1),s.2+1) (by simp only;omega)
   simp only [Bool.not_false,if_true] at this ⊢
   omega
end
theorem sum_count {α:Type} (p:α→Bool) (f:α→Nat) (m:Nat):∀ l:List α,((List.range m).map fun h=>l.countP fun y=>p y&&f y==h).sum≤l.countP p
 | []=>by
  simp only [List.countP_nil]
  induction m with
  | zero=>simp
  | succ m ih=>rw [List.range_succ,List.map_append,List.sum_append];simpa using ih
 | y::l=>by
  have ih:=sum_count p f m l
  have h1:∀ k,((List.range k).map fun h=>(y::l).countP fun y=>p y&&f y==h).sum=((List.range k).map fun h=>l.countP fun y=>p y&&f y==h).sum+if p y=true∧f y<k then 1 else 0:=by
   intro k
   induction k with
   | zero=>simp
   | succ k ihk =>
    rw [List.range_succ,List.map_append,List.sum_append,List.map_append,List.sum_append,ihk]
    simp only [List.map_cons,List.map_nil,List.sum_cons,List.sum_nil,List.countP_cons,Bool.and_eq_true,beq_iff_eq]
    by_cases hp:p y=true
    ·by_cases h2:f y=k
     ·rw [if_neg (by omega),if_pos ⟨hp,h2⟩,if_pos ⟨hp,by omega⟩];omega
     ·by_cases h3:f y<k
      ·rw [if_pos ⟨hp,h3⟩,if_neg (by rintro ⟨_,h⟩;exact h2 h),if_pos ⟨hp,by omega⟩];omega
      ·rw [if_neg (by rintro ⟨_,h⟩;exact h3 h),if_neg (by rintro ⟨_,h⟩;exact h2 h),if_neg (by rintro ⟨_,h⟩;omega)];omega
    ·rw [if_neg (by rintro ⟨h,_⟩;exact hp h),if_neg (by rintro ⟨h,_⟩;exact hp h),if_neg (by rintro ⟨h,_⟩;exact hp h)];omega
  rw [h1,List.countP_cons]
  by_cases hp:p y=true
  ·rw [if_pos hp]
   split<;>omega
  ·rw [if_neg hp,if_neg (by rintro ⟨h,_⟩;exact hp h)];omega
theorem nb_common {x y:Nd} {h:Nat} (hs:sameN y.word x.word (h:Int)=true) (hb:brkN x (h:Int) y=false):y.id≠x.id∧commonN x.word y.word=h:=by
 unfold brkN at hb
 simp only [Bool.or_eq_false_iff,beq_eq_false_iff_ne] at hb
 refine ⟨hb.1,?_⟩
 have h2:=hb.2
 unfold sameN at hs h2
 rw [commonN_comm] at hs
 simp only [decide_eq_true_eq,decide_eq_false_iff_not] at hs h2
 omega
theorem sum_le {α:Type} {f g:α→Nat}:∀ (l:List α),(∀ x∈l,f x≤g x)→(l.map f).sum≤(l.map g).sum
 | [],_=>Nat.le_refl _
 | x::l,h=>by
  have:=sum_le l (fun y hy=>h y (by simp [hy]))
  have:=h x (by simp)
  simp only [List.map_cons,List.sum_cons]
  omega
theorem boundN_eq {l:List Nd} (h0:checkN l=0) {x:Nd} (hx:x∈l):boundN l x.id=1+((List.range 17).map fun (h:Nat)=>runN l x.id h).sum:=by
 unfold boundN
 rw [if_pos ⟨by rw [find_in h0 hx],h0⟩]
theorem bound_le {l:List Nd} (h0:checkN l=0) {x:Nd} (hx:x∈l):boundN l x.id≤l.length:=by
 rw [boundN_eq h0 hx]
 have h1:((List.range 17).map fun (h:Nat)=>runN l x.id h).sum≤((List.range 17).map fun h=>(sortN l).countP fun y=>(!(y.id==x.id))&&commonN x.word y.word==h).sum:=by
  refine sum_le _ (fun h hh=>?_)
  have hh:h<17:=by simpa using hh
  rw [runN_eq h0 hx (by omega)]
  have:=run_count (x:=x) (lev:=(h:Int)) (grpS l h x.word) (0,0) (Nat.le_refl _)
  refine Nat.le_trans (by unfold runF;simpa using this) ?_
  unfold grpS groupN
  rw [List.countP_filter]
  refine List.countP_mono_left (fun y _ hy=>?_)
  simp only [Bool.and_eq_true,Bool.not_eq_true'] at hy
  obtain ⟨h1,h2⟩:=nb_common hy.2 hy.1
  simp [h1,h2]
 have h2:=sum_count (fun y:Nd=>!(y.id==x.id)) (fun y=>commonN x.word y.word) 17 (sortN l)
 have h3:(sortN l).countP (fun y:Nd=>!(y.id==x.id))<(sortN l).countP (fun _=>true) :=
  count_lt ((sortN_mem l x).2 hx) (fun _ _=>rfl) rfl (by simp)
 rw [List.countP_true,sortN_length] at h3
 omega
section
variable {N:List Nd} {L:List Lkd} {key:List UInt8} {right:Bool}
def runS (N:List Nd) (frm:Int) (lev:Nat):Nat:=((List.range lev).map fun (h:Nat)=>runN N frm h).sum
theorem runS_succ (frm:Int) (lev:Nat):runS N frm (lev+1)=runS N frm lev+runN N frm lev:=by
 unfold runS;rw [List.range_succ,List.map_append,List.sum_append];simp
theorem runS_mono (frm:Int) (a:Nat):∀ d,runS N frm a≤runS N frm (a+d)
 | 0=>Nat.le_refl _
 | d+1=>Nat.le_trans (runS_mono frm a d) (by rw [show a+(d+1)=(a+d)+1 from rfl,runS_succ];omega)
theorem rt_cnt (h0:checkN N=0) (hw:∀ x∈N,x.word<4294967296) {frm:Nd} (hf:frm∈N) {top:Nat} (ht:top≤16) (hL:∀ x∈N,∀ lev:Nat,lev≤top→atL L x.id lev=(neighN N x.id lev).1) :
  ∀ (f:Nat) (x:Nd) (lev q:Nat) (out:List Hop),lev≤top→CntSt N key right frm lev x q→(rtF N L key right f x (lev+1) out).2.length+q≤out.length+runS N frm.id (lev+1)
 | 0,x,lev,q,out,hl,h=>by
  have:=h.le h0 hf (by omega)
  rw [runS_succ]
  show out.length+q≤_
  omega
 | f+1,x,lev,q,out,hl,h=>by
  have e:rtF N L key right (f+1) x (lev+1) out=(match hopN N L key right x lev with | some y=>rtF N L key right f y (lev+1) (out++[(x.id,y.id,(lev:Int))]) | none=>rtF N L key right f x lev out):=rfl
  have hq:=h.le h0 hf (by omega)
  cases hh:hopN N L key right x lev with
  | some y =>
   rw [hh] at e
   have:=rt_cnt h0 hw hf ht hL f y lev (q+1) (out++[(x.id,y.id,(lev:Int))]) hl (h.step h0 hw hf (by omega) (hL x h.mem.1 lev hl) hh)
   rw [e]
   simp only [List.length_append,List.length_singleton] at this ⊢
   omega
  | none =>
   rw [hh] at e
   rw [e,runS_succ]
   cases lev with
   | zero =>
    have:rtF N L key right f x 0 out=(x,out):=by cases f<;>rfl
    simp only [this]
    omega
   | succ lev =>
    have:=rt_cnt h0 hw hf ht hL f x lev 0 out (by omega) (h.down h0 hw hf (by omega) (hL x h.mem.1 (lev+1) hl) hh)
    simp only at this ⊢
    omega
end
theorem single_high {N:List Nd} (h0:checkN N=0) (hw:∀ x∈N,x.word<4294967296) {h:Nat} (hh:h<16) (hle:heightN N≤h) {x y:Nd} (hx:x∈N) (hy:y∈N) (hs:sameN x.word y.word (h:Int)=true):x=y:=by
 have hne:N.length≠0:=by intro h;rw [List.length_eq_zero_iff.1 h] at hx;cases hx
 have hws:∀ x∈sortN N,x.word<4294967296:=fun x hx=>hw x ((sortN_mem N x).1 hx)
 have h1:=(height_spec h0 hne).1 (by omega)
 rw [classesN_fold (by omega)] at h1
 have h2:=classes_mono hws (heightN N) (h-heightN N) (by omega)
 rw [show heightN N+(h-heightN N)=h by omega] at h2
 obtain ⟨H1,_,_,H4⟩:=split_law h hh (sortN N) hws
 rw [sortN_length] at H4
 have hone:∀ c∈foldC (h:Int) (sortN N),c.length≤1:=by
  have gen:∀ C:List (List Nd),(∀ c∈C,0<c.length)→lensC C≤C.length→∀ c∈C,c.length≤1:=by
   have hge:∀ C:List (List Nd),(∀ c∈C,0<c.length)→C.length≤lensC C:=by
    intro C
    induction C with
    | nil=>intro _;exact Nat.zero_le _
    | cons c C ih =>
     intro hC
     have:=ih (fun d hd=>hC d (by simp [hd]))
     have:=hC c (by simp)
     unfold lensC at *
     simp only [List.map_cons,List.sum_cons,List.length_cons] at *
     omega
   intro C
   induction C with
   | nil=>intro _ _ c hc;cases hc
   | cons d C ih =>
    intro hC hs c hc
    have h1:=hge C (fun e he=>hC e (by simp [he]))
    have h2:=hC d (by simp)
    have h3:lensC (d::C)=d.length+lensC C:=by unfold lensC;simp
    rw [h3,List.length_cons] at hs
    rcases List.mem_cons.1 hc with rfl | hc
    ·omega
    ·exact ih (fun e he=>hC e (by simp [he])) (by omega) c hc
  exact gen _ (fun c hc=>(H1.mem c hc).1) (by omega)
 obtain ⟨c,hc,hxc⟩:=H1.all x ((sortN_mem N x).2 hx)
 obtain ⟨d,hd,hyd⟩:=H1.all y ((sortN_mem N y).2 hy)
 obtain ⟨i,hi⟩:=List.mem_iff_getElem?.1 hc
 obtain ⟨j,hj⟩:=List.mem_iff_getElem?.1 hd
 have hxs:=(H1.mem c hc).2 x hxc
 have hys:=(H1.mem d hd).2 y hyd
 obtain ⟨zc,hzc,ezc⟩:=headW_mem (H1.mem c hc).1
 obtain ⟨zd,hzd,ezd⟩:=headW_mem (H1.mem d hd).1
 have wc:headW c<4294967296:=by rw [ezc];exact hws _ ((H1.mem c hc).2 zc hzc).1
 have wd:headW d<4294967296:=by rw [ezd];exact hws _ ((H1.mem d hd).2 zd hzd).1
 have wx:=hw x hx
 have wy:=hw y hy
 have hij:=H1.heads i j c d hi hj (sameN_trans wc wx wd hxs.2 (sameN_trans wx wy wd hs (sameN_symm hys.2)))
 subst hij
 have hcd:c=d:=Option.some.inj (hi.symm.trans hj)
 subst hcd
 have h1:=hone c hc
 match c,h1,hxc,hyd with
 | [z],_,hxc,hyd=>
  have e1:x=z:=by simpa using hxc
  have e2:y=z:=by simpa using hyd
  rw [e1,e2]
theorem ends_law {N:List Nd} (h0:checkN N=0) (hw:∀ x∈N,x.word<4294967296) {h:Nat} (hh:h≤16) (hle:heightN N≤h) {x:Nd} (hx:x∈N) {k:ByteArray} (hk:k.size≤64) :
  (routeN N (buildN N (h:Int)).1 x.id k).1.length≤boundN N x.id:=by
 obtain ⟨ht,hL⟩:=build_top h0 hh hx
 have hL':∀ y∈N,∀ lev:Nat,lev≤h→atL (buildN N (h:Int)).1 y.id lev=(neighN N y.id lev).1:=fun y hy=>(build_top h0 hh hy).2
 have hf:=find_in h0 hx
 have key:∀ right,(rtF N (buildN N (h:Int)).1 k.toList right (18*(N.length+1)) x (h+1) []).2.length≤runS N x.id 17:=fun right=>by
  obtain ⟨P,B,e⟩:=List.append_of_mem (dir_mem (right:=right).2 (grp_mem.2 ⟨hx,sameN_refl _ (show (h:Int)≤16 by omega)⟩):x∈dirL right (grpS N (h:Int) x.word))
  have hst:CntSt N k.toList right x h x 0:=by
   refine ⟨P,P++[x],[],B,e,by simp,rfl,by simp,fun z hz _=>?_,.inl rfl⟩
   have hzG:=grp_mem.1 (dir_mem.1 (show z∈dirL right (grpS N (h:Int) x.word) by rw [e];simp [hz]))
   have hasc:=dir_asc (right:=right) (grp_asc h0 (h:Int) x.word)
   rw [e] at hasc
   have hxz:=(List.pairwise_cons.1 (List.pairwise_append.1 hasc).2.1).1 z hz
   by_cases h16:h<16
   ·have:=single_high h0 hw h16 hle hzG.1 hx hzG.2
    rw [this,dlt_irrefl] at hxz;cases hxz
   ·have hc:=commonN_le x.word z.word
    cases hb:brkN x (h:Int) z with
    | false=>rfl
    | true =>
     unfold brkN sameN at hb
     simp only [Bool.or_eq_true,beq_iff_eq,decide_eq_true_eq] at hb
     rcases hb with hb | hb
     ·have:=ids_eq (check_keys h0) hzG.1 hx hb
      rw [this,dlt_irrefl] at hxz;cases hxz
     ·omega
  have:=rt_cnt (right:=right) (key:=k.toList) h0 hw hx hh hL' (18*(N.length+1)) x h 0 [] (Nat.le_refl _) hst
  have hm:=runS_mono (N:=N) x.id (h+1) (16-h)
  rw [show h+1+(16-h)=17 by omega] at hm
  simp only [List.length_nil] at this
  omega
 rw [boundN_eq h0 hx]
 have e17:((List.range 17).map fun (h:Nat)=>runN N x.id h).sum=runS N x.id 17:=rfl
 rw [e17]
 unfold routeN
 rw [if_neg (by rintro (h | h);exact h h0;omega),hf,if_neg (by simp)]
 simp only
 rw [ht,show ((h:Int)+1).toNat=h+1 by omega]
 have:=key (!Op.bytesLess k.toList x.key.toList)
 split
 ·simp only [List.length_append,List.length_singleton];omega
 ·simp only;omega
def CtRel (b n:Nat) (w:World) (i:Value) (wr:World):Prop:=∃ k:Nat,k≤n∧i=.int .i64 k∧Exb b w wr∧TK wr b
theorem runF_snoc (x:Nd) (lev:Int) (G:List Nd) (k:Nat) (y:Nd) (hy:G[k]?=some y):runF x lev (G.take (k+1))=runStep x lev (runF x lev (G.take k)) y:=by
 unfold runF
 rw [take_snocN G k y hy,List.foldl_append];rfl
theorem runs_len (x:Nd) (lev:Int) (G:List Nd):(runF x lev G).1≤G.length∧(runF x lev G).2≤G.length:=by
 have h1:=run_count (x:=x) (lev:=lev) G (0,0) (Nat.le_refl _)
 have h2:=run_inv (x:=x) (lev:=lev) G (0,0) (Nat.le_refl _)
 have h3:(G.countP fun y=>!brkN x lev y)≤G.length:=List.countP_le_length
 unfold runF
 omega
theorem step_brk {x y:Nd} {lev:Int} {s:Nat×Nat} (h:brkN x lev y=true):runStep x lev s y=(s.1,0):=by unfold runStep;rw [if_pos h]
theorem step_free {x y:Nd} {lev:Int} {s:Nat×Nat} (h:brkN x lev y=false):runStep x lev s y=(max s.1 (s.2+1),s.2+1):=by unfold runStep;rw [h];rfl
theorem runN_no {l:List Nd} {id lev:Int} (h:checkN l≠0∨(findN l id).2=false∨lvlN lev=false):runN l id lev=0:=by
 unfold runN
 rw [if_neg]
 rintro ⟨h1,h2,h3⟩
 rcases h with h | h | h
 ·exact h h1
 ·rw [h] at h2;cases h2
 ·rw [h] at h3;cases h3
theorem runN_yes {l:List Nd} {id lev:Int} {x:Nd} (h:checkN l=0) (h2:(x,true)=findN l id) (h3:lvlN lev=true):runN l id lev=(runF x lev (groupN (sortN l) lev x.word)).1:=by
 unfold runN thrG
 rw [← h2,if_pos ⟨h,rfl,h3⟩]
theorem runN_le (l:List Nd) (id lev:Int):runN l id lev≤l.length:=by
 unfold runN
 split
 ·have h1:=(runs_len (findN l id).1 lev (thrG l id lev)).1
  have h2:(thrG l id lev).length≤(sortN l).length:=List.length_filter_le _ _
  rw [sortN_length] at h2
  omega
 ·omega
def RnRel (x:Nd) (lev:Int) (G:List Nd) (g:Nat) (w:World) (m r i:Value) (wr:World):Prop :=
 ∃ k:Nat,k≤G.length∧i=.int .i64 k∧m=.int .i64 ((runF x lev (G.take k)).1:Nat)∧r=.int .i64 ((runF x lev (G.take k)).2:Nat)∧Ex w wr
set_option maxRecDepth 100000 in
set_option maxHeartbeats 4000000 in
theorem runs_p (a:Option Addr) (n c:Nat) (l:List Nd) (id lev:Int) (w:World) (hs:Sl 3 encN w a n l) (hn:n≤1000) (hc:n≤c) (hm:c≤maxLen) (hw:∀ x∈l,x.word<4294967296) (hT:TabG w) :
  Calls Tryz.prog 74 #[.slice a n c,.int .i64 id,.int .i64 lev] w fun e w'=>e=.returned (.int .i64 (runN l id lev))∧Ex w w':=by
 have HW:=lH hw
 have HXW:=findN_word hw id
 have HL:=lH hs.len
 have EX:=Ex.refl w
 clear hw
 go_enter Tryz.func74,Tryz.ntmps74
 go_wp2_with fail
 (with_reducible refine (find_p _ _ _ _ _ _ hs (by omega)).mono ?_)
 rintro e w1 ⟨rfl,kk⟩
 replace hs:=hs.nx kk
 replace hT:=lH (hT.nx kk)
 replace EX:=EX.nx kk
 clear kk
 obtain ⟨F,hF⟩:∃ F,F=findN l id:=⟨_,rfl⟩
 have HF:=lH hF
 rw [← hF] at HXW ⊢
 obtain ⟨x,ok⟩:=F
 unfold Nd.val
 simp only at HXW ⊢
 clear hF
 have B:=Blk.new w1 [.int .i64 x.id,.string x.key,.int .u32 x.word] 36
 have kk:=Ex.new w1 (.cells #[.int .i64 x.id,.string x.key,.int .u32 x.word] 36)
 obtain ⟨w2,hw2⟩:∃ w2,w2=w1.alloc (.cells #[.int .i64 x.id,.string x.key,.int .u32 x.word] 36):=⟨_,rfl⟩
 obtain ⟨g,hg⟩:∃ g,g=w1.heap.size:=⟨_,rfl⟩
 replace B:Blk w2 g [.int .i64 x.id,.string x.key,.int .u32 x.word] 36:=by rw [hw2,hg];exact B
 rw [← hw2] at kk
 have Hw2:=lH hw2
 have Hg:=lH hg
 replace hs:=hs.nx kk
 replace hT:=lH (hT.out.nx kk)
 replace EX:=EX.nx kk
 clear kk hw2 hg
 go_upto_region 2 with fail
 rw [← Hg.out,← Hw2.out]
 clear Hg Hw2
 cases ok with
 | false =>
  have RN:=lH (runN_no (lev:=lev) (.inr (.inl (show (findN l id).2=false by rw [← HF.out]))))
  clear hs B
  go_wp2_with fail
  go_ret
  exact ⟨by rw [RN.out];rfl,EX⟩
 | true =>
  go_wp2_with fail
  (with_reducible refine (check_p _ _ _ _ _ hs (by omega) hc hm).mono ?_)
  rintro e w3 ⟨rfl,kk⟩
  replace hs:=hs.nx kk
  replace hT:=lH (hT.out.nx kk)
  replace EX:=EX.nx kk
  replace B:=B.nx kk
  clear kk
  by_cases hck:checkN l=0
  case neg =>
   have RN:=lH (runN_no (id:=id) (lev:=lev) (.inl hck))
   have d1:(checkN l != 0)=true:=by simpa using hck
   clear hs hck B
   go_wp2_with fail
   go_ret
   exact ⟨by rw [RN.out];rfl,EX⟩
  have d1:(checkN l != 0)=false:=by simpa using hck
  have HC:=lH hck
  clear hck
  by_cases hlo:lev<0
  ·have RN:=lH (runN_no (l:=l) (id:=id) (.inr (.inr (show lvlN lev=false by unfold lvlN;simp;omega))))
   clear hs B
   go_wp2_with fail
   go_ret
   exact ⟨by rw [RN.out];rfl,EX⟩
  ·by_cases hhi:16<lev
   ·have RN:=lH (runN_no (l:=l) (id:=id) (.inr (.inr (show lvlN lev=false by unfold lvlN;simp;omega))))
    clear hs B
    go_wp2_with fail
    go_ret
    exact ⟨by rw [RN.out];rfl,EX⟩
   ·have RY:=lH (runN_yes HC.out HF.out (show lvlN lev=true by unfold lvlN;simp;omega))
    go_upto_region 5 with fail
    refine wp_region_held_drew (S:=Ex w3.drew) (by kernel_rfl) (Ex.refl _) (fun hHeld=>?_)
    refine tkH 0 (v:=?_) rfl (by kernel_rfl) (fun _ _ _ h=>h) (by rfl) ?hyr1x0 (by assumption) ?restr1x0
    case hyr1x0=>intro wq hSw;(go_simp);(try with_reducible rfl)
    try simp only [Act.put,sA,sB,sC]
    refine tkH 2 (v:=?_) rfl (by kernel_rfl) (fun _ _ _ h=>h) (by rfl) ?hyr1x2 (by assumption) ?restr1x2
    case hyr1x2=>intro wq hSw;(go_simp);(try with_reducible rfl)
    try simp only [Act.put,sA,sB,sC]
    refine tkH 3 (v:=?_) rfl (by kernel_rfl) (fun _ _ _ h=>h) (by rfl) ?hyr1x3 (by assumption) ?restr1x3
    case hyr1x3=>intro wq hSw;(go_simp);(try with_reducible rfl)
    try simp only [Act.put,sA,sB,sC]
    refine tkH 4 (v:=?_) rfl (by kernel_rfl) (fun _ _ _ h=>h) (by rfl) ?hyr1x4 (by assumption) ?restr1x4
    case hyr1x4=>intro wq hSw;(have hSw':Ex w3 wq:=(Ex.refl w3).drew.nx hSw;have cq:=(B.nx hSw').cell 2 _ rfl;go_simp);(try with_reducible rfl)
    try simp only [Act.put,sA,sB,sC]
    refine tkH 7 (v:=?_) rfl (by kernel_rfl) (fun _ _ _ h=>h) (by rfl) ?hyr1x7 (by assumption) ?restr1x7
    case hyr1x7=>intro wq hSw;(go_simp);(try with_reducible rfl)
    try simp only [Act.put,sA,sB,sC]
    refine rH 1 (by kernel_rfl) rfl fun K hK=>?_
    go_simp
    (with_reducible refine (sort_p _ _ _ _ _ (hs.nx (Ex.refl w3).drew) hn).mono ?_)
    rintro e w5 ⟨v,S,rfl,OS,⟨hp,hsrt⟩,k5⟩
    replace k5:Ex w3.drew w5:=k5
    have hSe:S=sortN l:=sortN_unique (check_keys HC.out) hp hsrt
    subst hSe
    obtain ⟨a5,c5,rfl,r5,hc5,hm5⟩:=OS.sl3 (fun _=>rfl)
    replace B:=B.nx ((Ex.refl w3).drew.nx k5)
    have hT5:=hT.out.nx ((Ex.refl w3).drew.nx k5)
    rw [sortN_length] at r5 hc5 ⊢
    rw [HL.out] at r5 hc5 ⊢
    have hL5:=HL.out
    have r5:Rd 3 encN (· < w5.heap.size) w5 a5 n (sortN l):=r5
    refine hK.out _ _ k5 (fun _=>?_)
    clear hK K
    try simp only [Act.put,sA,sB,sC]
    refine wpAnyH_switch (S':=Ex w5) (fun _ hSw=>Ex.nx k5 hSw) ?_
    clear hHeld
    have hHeld:=Ex.refl w5
    refine rH 5 (by kernel_rfl) rfl fun K hK=>?_
    go_simp
    (with_reducible refine (group_p _ _ _ _ lev x.word _ r5 (fun _ hk=>hk) (by omega) (fun y hy=>HW.out y ((sortN_mem l y).1 hy)) HXW hT5).mono ?_)
    rintro e w6 ⟨a6,n6,c6,rfl,r6,k6⟩
    replace k6:Ex w5 w6:=k6
    refine hK.out _ _ k6 (fun _=>?_)
    clear hK K
    try simp only [Act.put,sA,sB,sC]
    refine wpAnyH_switch (S':=Ex w6) (fun _ hSw=>Ex.nx k6 hSw) ?_
    clear hHeld
    have hHeld:=Ex.refl w6
    refine tkH 6 (v:=?_) rfl (by kernel_rfl) (fun _ _ _ h=>h) (by rfl) ?hyr1x6 (by assumption) ?restr1x6
    case hyr1x6=>intro wq hSw;(go_simp);(try with_reducible rfl)
    try simp only [Act.put,sA,sB,sC]
    refine wpAnyH_done (by kernel_rfl) ?_ _
    have k7:=((Ex.refl w3).drew.nx k5).nx k6
    obtain ⟨G,hG⟩:∃ G,G=groupN (sortN l) lev x.word:=⟨_,rfl⟩
    rw [← hG] at r6 RY
    have hGl:G.length=n6:=r6.1
    have hGs:G.length≤1000:=by
     have:(groupN (sortN l) lev x.word).length≤(sortN l).length:=List.length_filter_le _ _
     rw [sortN_length,HL.out] at this
     rw [hG];omega
    have hn6:n6≤1000:=by omega
    have GW:Hid (∀ y∈G,y.word<4294967296):=lH (fun y hy=>HW.out y ((sortN_mem l y).1 (by rw [hG] at hy;exact (List.mem_filter.1 hy).1)))
    have SG:Hid (Sl 3 encN w6 a6 n6 G):=lH (Rd.mono r6 (fun _ hk=>hk.2))
    have TT6:=lH (hT5.nx k6)
    have BX:=lH (B.nx k6)
    have E6:=lH (EX.nx k7)
    have HGL:=lH hGl
    clear r5 r6 k5 k6 k7 hG B hT hs EX OS hT5 hp hsrt hm5 hc5 hGl hL5
    go_wp2_with fail
    go_loopw [9,10,41] (fun m r i wr=>RnRel x lev G g w6 m r i wr) (fun _ _ i _=>n6-(intOf i).toNat)
    case atStart=>exact ⟨0,by omega,rfl,rfl,rfl,Ex.refl _⟩
    case round =>
     obtain ⟨k,hk,rfl,rfl,rfl,kw⟩:=hrel
     obtain ⟨wo,rfl⟩:∃ wo:World,wo=wr:=⟨_,rfl⟩
     rw [HGL.out] at hk
     by_cases hlt:k<n6
     ·obtain ⟨x1,o1,y,rfl,hx1,hy,hc1⟩:=(SG.out.nx kw).at hlt
      have f0:wo.cell? ⟨x1,o1+k*3,none⟩=some (.int .i64 y.id):=hc1 0 _ rfl
      have f1:wo.cell? ⟨x1,o1+k*3+1,none⟩=some (.string y.key):=hc1 1 _ rfl
      have f2:wo.cell? ⟨x1,o1+k*3+1+1,none⟩=some (.int .u32 y.word):=by simpa [Nat.add_assoc] using hc1 2 _ rfl
      have SN:=lH (runF_snoc x lev G k y hy)
      have hyw:=GW.out y (List.mem_of_getElem? hy)
      obtain ⟨s,hs⟩:∃ s,s=runF x lev (G.take k):=⟨_,rfl⟩
      have hsl:=runs_len x lev (G.take k)
      have htl:(G.take k).length≤k:=by simp;omega
      rw [← hs] at SN hsl ⊢
      have E6:=lH (E6.out.nx kw)
      have BX:=BX.out.nx kw
      have TT6:=lH (TT6.out.nx kw)
      have KW:=lH kw
      obtain ⟨s1,s2⟩:=s
      have hs1:s1≤1000:=by simp only at hsl;omega
      have hs2:s2≤1000:=by simp only at hsl;omega
      clear hsl htl
      simp only at SN ⊢
      clear hs hc1 hy kw
      have BY:=Blk.new wo [.int .i64 y.id,.string y.key,.int .u32 y.word] 36
      have kk:=Ex.new wo (.cells #[.int .i64 y.id,.string y.key,.int .u32 y.word] 36)
      obtain ⟨w7,hw7⟩:∃ w7,w7=wo.alloc (.cells #[.int .i64 y.id,.string y.key,.int .u32 y.word] 36):=⟨_,rfl⟩
      obtain ⟨gy,hgy⟩:∃ gy,gy=wo.heap.size:=⟨_,rfl⟩
      replace BY:Blk w7 gy [.int .i64 y.id,.string y.key,.int .u32 y.word] 36:=by rw [hw7,hgy];exact BY
      rw [← hw7] at kk
      have Hw7:=lH hw7
      have Hgy:=lH hgy
      replace BX:=BX.nx kk
      replace TT6:=lH (TT6.out.nx kk)
      replace KW:=lH (KW.out.nx kk)
      clear kk hw7 hgy
      go_upto_region 8 with fail
      rw [← Hgy.out,← Hw7.out]
      clear Hgy Hw7
      have x2:=BX.cell 2 _ rfl
      have y0:=BY.cell 0 _ rfl
      have y2:=BY.cell 2 _ rfl
      clear f0 f1 f2 BX BY
      by_cases hid:y.id=id
      ·have hb:(y.id==id)=true:=by simpa using hid
       have RR:Hid (RnRel x lev G g w6 (.int .i64 (s1:Nat)) (.int .i64 0) (.int .i64 ((k:Int)+1)) w7):=lH
        ⟨k+1,by rw [HGL.out];omega,by go_num,by rw [SN.out,step_brk];unfold brkN;rw [show x.id=id from by have h:=findN_mem (show (findN l id).2=true by rw [← HF.out]);rw [← HF.out] at h;exact h.2,hb];rfl,
         by rw [SN.out,step_brk];rfl;unfold brkN;rw [show x.id=id from by have h:=findN_mem (show (findN l id).2=true by rw [← HF.out]);rw [← HF.out] at h;exact h.2,hb];rfl,KW.out⟩
       clear hid x2 y2
       go_wp2_with fail
       exact ⟨RR.out,by simp [intOf];omega⟩
      ·have hb:(y.id==id)=false:=by simpa using hid
       have hxid:Hid (x.id=id):=lH (by have h:=findN_mem (show (findN l id).2=true by rw [← HF.out]);rw [← HF.out] at h;exact h.2)
       clear hid
       go_wp2_with fail
       (with_reducible refine (same_p _ _ _ _ HXW hyw TT6.out).mono ?_)
       rintro e w8 ⟨rfl,rfl⟩
       cases hsm:sameN x.word y.word (lev+1) with
       | true =>
        have RR:Hid (RnRel x lev G g w6 (.int .i64 (s1:Nat)) (.int .i64 0) (.int .i64 ((k:Int)+1)) w7):=lH
         ⟨k+1,by rw [HGL.out];omega,by go_num,by rw [SN.out,step_brk];unfold brkN;rw [hsm];simp,by rw [SN.out,step_brk];rfl;unfold brkN;rw [hsm];simp,KW.out⟩
        clear x2 y2
        go_wp2_with fail
        exact ⟨RR.out,by simp [intOf];omega⟩
       | false =>
        have hbk:brkN x lev y=false:=by unfold brkN;rw [hsm,hxid.out,hb];rfl
        have RR:Hid (RnRel x lev G g w6 (.int .i64 ((max s1 (s2+1):Nat):Int)) (.int .i64 ((s2:Int)+1)) (.int .i64 ((k:Int)+1)) w7):=lH
         ⟨k+1,by rw [HGL.out];omega,by go_num,by rw [SN.out,step_free hbk],by rw [SN.out,step_free hbk];go_num,KW.out⟩
        have hmx:max (s1:Int) ((s2:Int)+1)=((max s1 (s2+1):Nat):Int):=by omega
        have HMX:=lH hmx
        clear x2 y2 hmx hbk
        go_wp2_with fail
        rw [HMX.out]
        exact ⟨RR.out,by simp [intOf];omega⟩
     ·obtain rfl:k=n6:=by omega
      have RZ:Hid (((runF x lev (G.take k)).1:Nat)=runN l id lev):=lH (by rw [RY.out,List.take_of_length_le (by rw [HGL.out];exact Nat.le_refl _)])
      rw [RZ.out]
      have E6:=lH (E6.out.nx kw)
      clear hk hlt kw
      go_wp2_with fail
      go_ret
      exact ⟨rfl,E6.out⟩
theorem boundN_no {l:List Nd} {id:Int} (h:(findN l id).2=false∨checkN l≠0):boundN l id=0:=by
 unfold boundN
 rw [if_neg]
 rintro ⟨h1,h2⟩
 rcases h with h | h
 ·rw [h] at h1;cases h1
 ·exact h h2
theorem boundN_yes {l:List Nd} {id:Int} (h:(findN l id).2=true) (h2:checkN l=0):boundN l id=1+runS l id 17:=by
 unfold boundN
 rw [if_pos ⟨h,h2⟩];rfl
theorem runS_le (l:List Nd) (id:Int):∀ k,runS l id k≤k*l.length
 | 0=>by unfold runS;simp
 | k+1=>by rw [runS_succ];have:=runS_le l id k;have:=runN_le l id k;rw [Nat.add_mul];omega
def BoRel (l:List Nd) (id:Int) (w:World) (s i:Value) (wr:World):Prop:=∃ k:Nat,k≤17∧i=.int .i64 k∧s=.int .i64 ((1+runS l id k:Nat):Int)∧Ex w wr
set_option maxRecDepth 100000 in
set_option maxHeartbeats 4000000 in
theorem bound_p (a:Option Addr) (n c:Nat) (l:List Nd) (id:Int) (w:World) (hs:Sl 3 encN w a n l) (hn:n≤1000) (hc:n≤c) (hm:c≤maxLen) (hw:∀ x∈l,x.word<4294967296) (hT:TabG w) :
  Calls Tryz.prog 16 #[.slice a n c,.int .i64 id] w fun e w'=>e=.returned (.int .i64 (boundN l id))∧Ex w w':=by
 have HW:=lH hw
 have HL:=lH hs.len
 have EX:=Ex.refl w
 have T3:=lH hT
 clear hw hT
 go_enter Tryz.func16,Tryz.ntmps16
 go_wp2_with fail
 (with_reducible refine (find_p _ _ _ _ _ _ hs (by omega)).mono ?_)
 rintro e w1 ⟨rfl,kk⟩
 replace hs:=hs.nx kk
 replace EX:=EX.nx kk
 replace T3:=lH (T3.out.nx kk)
 clear kk
 obtain ⟨F,hF⟩:∃ F,F=findN l id:=⟨_,rfl⟩
 have HF:=lH hF
 rw [← hF]
 obtain ⟨x,ok⟩:=F
 unfold Nd.val
 simp only
 clear hF
 have B:=Blk.new w1 [.int .i64 x.id,.string x.key,.int .u32 x.word] 36
 have kk:=Ex.new w1 (.cells #[.int .i64 x.id,.string x.key,.int .u32 x.word] 36)
 obtain ⟨w2,hw2⟩:∃ w2,w2=w1.alloc (.cells #[.int .i64 x.id,.string x.key,.int .u32 x.word] 36):=⟨_,rfl⟩
 obtain ⟨g,hg⟩:∃ g,g=w1.heap.size:=⟨_,rfl⟩
 replace B:Blk w2 g [.int .i64 x.id,.string x.key,.int .u32 x.word] 36:=by rw [hw2,hg];exact B
 rw [← hw2] at kk
 have Hw2:=lH hw2
 have Hg:=lH hg
 replace hs:=hs.nx kk
 replace EX:=EX.nx kk
 replace T3:=lH (T3.out.nx kk)
 clear kk hw2 hg
 go_upto_region 2 with fail
 rw [← Hg.out,← Hw2.out]
 clear Hg Hw2
 clear B
 cases ok with
 | false =>
  have RN:=lH (boundN_no (l:=l) (id:=id) (.inl (by rw [← HF.out])))
  clear hs
  go_wp2_with fail
  go_ret
  exact ⟨by rw [RN.out];rfl,EX⟩
 | true =>
  go_wp2_with fail
  (with_reducible refine (check_p _ _ _ _ _ hs (by omega) hc hm).mono ?_)
  rintro e w3 ⟨rfl,kk⟩
  replace hs:=hs.nx kk
  replace EX:=EX.nx kk
  replace T3:=lH (T3.out.nx kk)
  clear kk
  by_cases hck:checkN l=0
  case neg =>
   have RN:=lH (boundN_no (l:=l) (id:=id) (.inr hck))
   have d1:(checkN l != 0)=true:=by simpa using hck
   
   clear hs hck
   go_wp2_with fail
   go_ret
   exact ⟨by rw [RN.out];rfl,EX⟩
  have d1:(checkN l != 0)=false:=by simpa using hck
  
  have RY:=lH (boundN_yes (l:=l) (id:=id) (by rw [← HF.out]) hck)
  have E3:=lH EX
  have S3:=lH hs
  clear hck EX hs
  go_wp2_with fail
  go_loopw [7,22] (fun s i wr=>BoRel l id w3 s i wr) (fun _ i _=>17-(intOf i).toNat)
  case atStart=>exact ⟨0,by omega,rfl,rfl,Ex.refl _⟩
  case round =>
   obtain ⟨k,hk,rfl,rfl,kw⟩:=hrel
   obtain ⟨wo,rfl⟩:∃ wo:World,wo=wr:=⟨_,rfl⟩
   obtain ⟨s,hs⟩:∃ s,s=1+runS l id k:=⟨_,rfl⟩
   rw [← hs]
   have hsb:s≤100000:=by
    have h1:=runS_le l id k
    have h2:=HL.out
    have h3:k*l.length≤17*1000:=Nat.mul_le_mul hk (by omega)
    omega
   have HSE:=lH hs
   clear hs
   by_cases hlt:k<17
   ·have SK:=S3.out.nx kw
    have T3:=lH (T3.out.nx kw)
    have hr1:=runN_le l id k
    have hr2:runN l id (k:Nat)≤1000:=by have:=HL.out;omega
    have RR:Hid (∀ w',Ex wo w'→BoRel l id w3 (.int .i64 ((s:Int)+(runN l id (k:Nat):Nat))) (.int .i64 ((k:Int)+1)) w'):=lH (fun w' h=>⟨k+1,by omega,by go_num,by rw [runS_succ,HSE.out];congr 1;omega,kw.nx h⟩)
    clear kw hr1
    go_wp2_with fail
    (with_reducible refine (runs_p _ _ _ _ _ _ _ SK hn hc hm HW.out T3.out).mono ?_)
    rintro e w5 ⟨rfl,kk⟩
    have RR:=lH (RR.out _ kk)
    clear kk SK
    go_wp2_with fail
    exact ⟨RR.out,by simp [intOf];omega⟩
   ·obtain rfl:k=17:=by omega
    have RZ:Hid (s=boundN l id):=lH (by rw [RY.out,HSE.out])
    have E6:=lH (E3.out.nx kw)
    clear kw
    go_wp2_with fail
    go_ret
    exact ⟨by rw [RZ.out];rfl,E6.out⟩
def placeI (l:List Nd) (id:Int):Int:=if checkN l=0 then idxB (fun x=>x.id==id) (sortN l) else -1
theorem place1_p (gx:Nat) (id:Int) (w:World) (hx:Blk w gx [.int .i64 id] 3):PredG 146 #[.pointer (some ⟨gx,0,none⟩)] (fun x=>x.id==id) w:=by
 intro x w' k
 have b0:=(hx.nx k).cell 0 _ rfl
 have B3:=Blk.new w' [.int .i64 x.id,.string x.key,.int .u32 x.word] 36
 have kn:=Ex.new w' (.cells #[.int .i64 x.id,.string x.key,.int .u32 x.word] 36)
 obtain ⟨w3,hw3⟩:∃ w3,w3=w'.alloc (.cells #[.int .i64 x.id,.string x.key,.int .u32 x.word] 36):=⟨_,rfl⟩
 obtain ⟨g3,hg3⟩:∃ g3,g3=w'.heap.size:=⟨_,rfl⟩
 have B3:Blk w3 g3 [.int .i64 x.id,.string x.key,.int .u32 x.word] 36:=by rw [hw3,hg3];exact B3
 rw [← hw3] at kn
 have b0:=((hx.nx k).nx kn).cell 0 _ rfl
 have y0:=B3.cell 0 _ rfl
 have HW3:=lH hw3
 have HG3:=lH hg3
 clear hw3 hg3 hx k B3
 unfold Nd.val
 go_enter Tryz.func146,Tryz.ntmps146
 go_upto_region 1 with fail
 rw [← HG3.out,← HW3.out]
 go_wp2_with fail
 go_ret
 exact ⟨rfl,kn⟩
def PlcPost (l:List Nd) (id:Int) (w:World) (e:Ending) (w':World):Prop :=
 ∃ (v:Value) (S:List Nd),e=.returned (.tuple #[v,.int .i64 (placeI l id)])∧OwnL 3 encN 36 w.heap.size w' v S∧(checkN l=0→S=sortN l)∧Ex w w'
set_option maxHeartbeats 1000000 in
theorem place_p (a:Option Addr) (n c:Nat) (l:List Nd) (id:Int) (w:World) (hs:Sl 3 encN w a n l) (hn:n≤1000) (hc:n≤c) (hm:c≤maxLen) :
  Calls Tryz.prog 75 #[.slice a n c,.int .i64 id] w (PlcPost l id w):=by
 have HL:=lH hs.len
 have EX:=Ex.refl w
 have B:=Blk.new w [.int .i64 id] 3
 have kk:=Ex.new w (.cells #[.int .i64 id] 3)
 obtain ⟨w1,hw1⟩:∃ w1,w1=w.alloc (.cells #[.int .i64 id] 3):=⟨_,rfl⟩
 obtain ⟨g,hg⟩:∃ g,g=w.heap.size:=⟨_,rfl⟩
 replace B:Blk w1 g [.int .i64 id] 3:=by rw [hw1,hg];exact B
 rw [← hw1] at kk
 have Hw1:=lH hw1
 have Hg:=lH hg
 replace hs:=hs.nx kk
 replace EX:=EX.nx kk
 have hgw:w.heap.size≤g:=by omega
 have eg:∀ args w,(callFunc 146 args).run Tryz.prog w=.ok (.enter 146 args) w:=enters_of Tryz.func146 (by kernel_rfl) rfl
 have EG:=lH eg
 clear kk hw1 hg eg
 go_enter Tryz.func75,Tryz.ntmps75
 go_upto_region 1 with fail
 rw [← Hg.out,← Hw1.out]
 clear Hg Hw1
 go_wp2_with fail
 (with_reducible refine (check_p _ _ _ _ _ hs (by omega) hc hm).mono ?_)
 rintro e w2 ⟨rfl,kk⟩
 replace hs:=hs.nx kk
 replace EX:=EX.nx kk
 replace B:=B.nx kk
 clear kk
 by_cases hck:checkN l=0
 case neg =>
  have d1:(checkN l != 0)=true:=by simpa using hck
  have PL:Hid (placeI l id = -1):=lH (by unfold placeI;rw [if_neg hck])
  have HC:=lH hck
  clear hs hck B
  go_wp2_with fail
  go_ret2
  exact ⟨_,[],by rw [PL.out];rfl,OwnL.nil _ _ _ _ _,fun h=>absurd h HC.out,EX⟩
 have d1:(checkN l != 0)=false:=by simpa using hck
 have HC:=lH hck
 have PL:Hid (placeI l id=idxB (fun x=>x.id==id) (sortN l)):=lH (by unfold placeI;rw [if_pos hck])
 clear hck
 have hz2:w.heap.size≤w2.heap.size:=EX.size
 go_wp2_with fail
 (with_reducible refine (sort_p _ _ _ _ _ hs hn).mono ?_)
 rintro e w3 ⟨v,S,rfl,OS,⟨hp,hsrt⟩,kk⟩
 replace EX:=EX.nx kk
 replace B:=B.nx kk
 have hSe:S=sortN l:=sortN_unique (check_keys HC.out) hp hsrt
 subst hSe
 obtain ⟨a5,c5,rfl,r5,hc5,hm5⟩:=OS.sl3 (fun _=>rfl)
 have OS:=lH (OwnL.base OS hz2)
 rw [sortN_length] at r5 hc5 ⊢
 rw [HL.out] at r5 hc5 ⊢
 clear kk hs hp hsrt
 go_wp2_with fail
 (with_reducible refine (idxf_n 146 #[.pointer (some ⟨g,0,none⟩)] (fun x=>x.id==id) EG.out _ _ _ _ _ r5 (by omega) (place1_p g id w3 B)).mono ?_)
 rintro e w4 ⟨rfl,kk⟩
 have OS:=lH (OS.out.nx kk)
 replace EX:=EX.nx kk
 have HS:=lH (sortN_length l)
 clear kk r5 B hc5 hm5
 go_wp2_with fail
 go_ret2
 refine ⟨_,_,by rw [PL.out];rfl,?_,fun _=>rfl,EX⟩
 have:=OS.out
 rw [HS.out,HL.out] at this
 exact this
theorem placeI_at {l:List Nd} (h0:checkN l=0) {A B:List Nd} {x:Nd} (e:sortN l=A++x::B):placeI l x.id=A.length:=by
 have hs:=sortN_str h0
 unfold placeI
 rw [if_pos h0,e]
 rw [e] at hs
 refine (idxB_of (y:=x) (k:=A.length) (by simp) (by simp) fun j z hj hz=>?_).1
 rw [List.getElem?_append_left hj] at hz
 have:=((List.pairwise_append.1 hs).2.2 z (List.mem_of_getElem? hz) x (by simp)).2
 simpa using this
def OwRel (key:List UInt8) (S:List Nd) (x0:Nd) (g:Nat) (w:World) (i:Value) (wr:World):Prop :=
 ∃ (k:Nat) (y:Nd),k≤S.length∧i=.int .i64 k∧y=(S.take k).foldl (ownF key) x0∧Blk wr g [.int .i64 y.id,.string y.key,.int .u32 y.word] 36∧Exb g w wr
def OnPost (r:Nd×Bool) (w:World) (e:Ending) (w':World):Prop:=e=.returned (.tuple #[.agg #[.int .i64 r.1.id,.string r.1.key,.int .u32 r.1.word],.bool r.2])∧Ex w w'
theorem ownN_no {l:List Nd} {s:ByteArray} (h:checkN l≠0∨l.length=0∨64<s.size):ownN l s=(Nd.zero,false):=by
 unfold ownN
 rw [if_neg]
 rintro ⟨h1,h2,h3⟩
 rcases h with h | h | h
 ·exact h h1
 ·exact h2 h
 ·omega
theorem ownF_snoc (key:List UInt8) (x0:Nd) (S:List Nd) (k:Nat) (y:Nd) (hy:S[k]?=some y):(S.take (k+1)).foldl (ownF key) x0=ownF key ((S.take k).foldl (ownF key) x0) y:=by
 rw [take_snocN S k y hy,List.foldl_append];rfl
set_option maxRecDepth 100000 in
set_option maxHeartbeats 4000000 in
theorem owner_p (a:Option Addr) (n c:Nat) (l:List Nd) (s:ByteArray) (w:World) (hs:Sl 3 encN w a n l) (hn:n≤1000) (hc:n≤c) (hm:c≤maxLen) :
  Calls Tryz.prog 76 #[.slice a n c,.string s] w (OnPost (ownN l s) w):=by
 have HL:=lH hs.len
 have EX:=Ex.refl w
 have B4:=Blk.new w [.int .i64 0,.string ⟨#[]⟩,.int .u32 0] 36
 have kk:=Ex.new w (.cells #[.int .i64 0,.string ⟨#[]⟩,.int .u32 0] 36)
 obtain ⟨w1,hw1⟩:∃ w1,w1=w.alloc (.cells #[.int .i64 0,.string ⟨#[]⟩,.int .u32 0] 36):=⟨_,rfl⟩
 obtain ⟨g4,hg4⟩:∃ g4,g4=w.heap.size:=⟨_,rfl⟩
 replace B4:Blk w1 g4 [.int .i64 0,.string ⟨#[]⟩,.int .u32 0] 36:=by rw [hw1,hg4];exact B4
 rw [← hw1] at kk
 have Hw1:=lH hw1
 have Hg4:=lH hg4
 replace hs:=hs.nx kk
 replace EX:=EX.nx kk
 have hgw:w.heap.size≤g4:=by omega
 have HGW:=lH hgw
 clear kk hw1 hg4
 go_enter Tryz.func76,Tryz.ntmps76
 go_upto_region 1 with fail
 rw [← Hg4.out,← Hw1.out]
 clear Hg4 Hw1
 go_wp2_with fail
 (with_reducible refine (check_p _ _ _ _ _ hs (by omega) hc hm).mono ?_)
 rintro e w2 ⟨rfl,kk⟩
 replace hs:=hs.nx kk
 replace EX:=EX.nx kk
 replace B4:=B4.nx kk
 clear kk
 have KE:Hid (∀ v0 v1 v2,Ex w (((w2.setCell ⟨g4,0,none⟩ v0).setCell ⟨g4,1,none⟩ v1).setCell ⟨g4,2,none⟩ v2)):=lH (fun v0 v1 v2=>((EX.setNew (p:=⟨g4,0,none⟩) _ hgw).setNew (p:=⟨g4,1,none⟩) _ hgw).setNew (p:=⟨g4,2,none⟩) _ hgw)
 have NO:Hid (ownN l s=(Nd.zero,false)→∀ a,OnPost (ownN l s) w (.returned (.tuple #[.agg #[.int .i64 0,.string ⟨#[]⟩,.int .u32 0],.bool false])) (((w2.setCell ⟨g4,0,none⟩ (.int .i64 0)).setCell ⟨g4,1,none⟩ (.string ⟨#[]⟩)).setCell ⟨g4,2,none⟩ a)):=lH (fun h a=>by rw [h];exact ⟨rfl,KE.out _ _ _⟩)
 by_cases hck:checkN l=0
 case neg =>
  have d1:(checkN l != 0)=true:=by simpa using hck
  have RN:=lH (ownN_no (s:=s) (.inl hck))
  have q0:=B4.cell 0 _ rfl
  have q1:=B4.cell 1 _ rfl
  have q2:=B4.cell 2 _ rfl
  have z0:=B4.free 0
  have z1:=B4.free 1
  have z2:=B4.free 2
  clear hs hck B4
  go_wp2_with fail
  refine bodyPost_ret (v:=.tuple #[.agg #[.int .i64 0,.string ⟨#[]⟩,.int .u32 0],.bool false]) (by simp [results,Tryz.results76,go_sem, *]) rfl (NO.out RN.out _)
 have d1:(checkN l != 0)=false:=by simpa using hck
 have HC:=lH hck
 clear hck
 by_cases h0:n=0
 ·have RN:=lH (ownN_no (s:=s) (.inr (.inl (by rw [HL.out];exact h0))))
  have q0:=B4.cell 0 _ rfl
  have q1:=B4.cell 1 _ rfl
  have q2:=B4.cell 2 _ rfl
  have z0:=B4.free 0
  have z1:=B4.free 1
  have z2:=B4.free 2
  subst h0
  clear hs B4
  go_wp2_with fail
  refine bodyPost_ret (v:=.tuple #[.agg #[.int .i64 0,.string ⟨#[]⟩,.int .u32 0],.bool false]) (by simp [results,Tryz.results76,go_sem, *]) rfl (NO.out RN.out _)
 have hn0:¬ (n:Int)=0:=by omega
 go_wp2_with fail
 (with_reducible refine (vkey_p _ _).mono ?_)
 rintro e w2' ⟨rfl,rfl⟩
 by_cases hsz:(s.size:Int)≤64
 case neg =>
  have RN:=lH (ownN_no (l:=l) (s:=s) (.inr (.inr (by omega))))
  have q0:=B4.cell 0 _ rfl
  have q1:=B4.cell 1 _ rfl
  have q2:=B4.cell 2 _ rfl
  have z0:=B4.free 0
  have z1:=B4.free 1
  have z2:=B4.free 2
  rw [decide_eq_false hsz]
  clear hs hsz B4
  go_wp2_with fail
  refine bodyPost_ret (v:=.tuple #[.agg #[.int .i64 0,.string ⟨#[]⟩,.int .u32 0],.bool false]) (by simp [results,Tryz.results76,go_sem, *]) rfl (NO.out RN.out _)
 rw [decide_eq_true hsz]
 have RY:Hid (ownN l s=((sortN l).foldl (ownF s.toList) ((sortN l).head?.getD Nd.zero),true)):=lH (by
  unfold ownN
  rw [if_pos ⟨HC.out,by rw [HL.out];exact h0,by omega⟩])
 clear hsz NO KE
 go_wp2_with fail
 (with_reducible refine (sort_p _ _ _ _ _ hs hn).mono ?_)
 rintro e w3 ⟨v,S,rfl,OS,⟨hp,hsrt⟩,kk⟩
 replace EX:=EX.nx kk
 replace B4:=B4.nx kk
 have hSe:S=sortN l:=sortN_unique (check_keys HC.out) hp hsrt
 subst hSe
 obtain ⟨a5,c5,rfl,r5,hc5,hm5⟩:=OS.sl3 (fun _=>rfl)
 rw [sortN_length] at r5 hc5 ⊢
 rw [HL.out] at r5 hc5 ⊢
 obtain ⟨S,hS⟩:∃ S,S=sortN l:=⟨_,rfl⟩
 rw [← hS] at r5 RY
 have HSL:=lH r5.len
 clear kk hs hp hsrt OS hS
 obtain ⟨x1,o1,x0,rfl,hx1,hx0,hc0⟩:=r5.at (j:=0) (by omega)
 have e0:w3.cell? ⟨x1,o1,none⟩=some (.int .i64 x0.id):=by simpa using hc0 0 _ rfl
 have e1:w3.cell? ⟨x1,o1+1,none⟩=some (.string x0.key):=by simpa using hc0 1 _ rfl
 have e2:w3.cell? ⟨x1,o1+1+1,none⟩=some (.int .u32 x0.word):=by simpa [Nat.add_assoc] using hc0 2 _ rfl
 have hx:(S.head?.getD Nd.zero)=x0:=by rw [List.head?_eq_getElem?,hx0];rfl
 rw [hx] at RY
 have hn00:0<n:=by omega
 clear hc0 hx0 hx
 have hg4l:=B4.lt
 have B7:=Blk.new w3 [.int .i64 x0.id,.string x0.key,.int .u32 x0.word] 36
 have kk:=Ex.new w3 (.cells #[.int .i64 x0.id,.string x0.key,.int .u32 x0.word] 36)
 obtain ⟨w4,hw4⟩:∃ w4,w4=w3.alloc (.cells #[.int .i64 x0.id,.string x0.key,.int .u32 x0.word] 36):=⟨_,rfl⟩
 obtain ⟨g7,hg7⟩:∃ g7,g7=w3.heap.size:=⟨_,rfl⟩
 replace B7:Blk w4 g7 [.int .i64 x0.id,.string x0.key,.int .u32 x0.word] 36:=by rw [hw4,hg7];exact B7
 rw [← hw4] at kk
 have Hw4:=lH hw4
 have Hg7:=lH hg7
 replace B4:=B4.nx kk
 replace EX:=EX.nx kk
 have hg47:g4≠g7:=by omega
 have RS:=lH ((r5.slb (show w3.heap.size≤g7 by omega)).nxb (kk.b g7))
 have hwg7:w.heap.size≤g7:=by have:=HGW.out;omega
 clear kk hw4 hg7 r5 hg4l
 go_upto_region 5 with fail
 rw [← Hg7.out,← Hw4.out]
 clear Hg7 Hw4
 clear e0 e1 e2
 have B4:=lH B4
 have EX:=lH EX
 go_wp2_with fail
 go_loopw [31] (fun i wr=>OwRel s.toList S x0 g7 w4 i wr) (fun i _=>n-(intOf i).toNat)
 case atStart=>exact ⟨0,x0,by omega,rfl,rfl,B7,Exb.refl _ _⟩
 case round =>
  clear B7
  obtain ⟨k,z,hk,rfl,hz,B7,kw⟩:=hrel
  obtain ⟨wo,rfl⟩:∃ wo:World,wo=wr:=⟨_,rfl⟩
  rw [HSL.out] at hk
  have HZ:=lH hz
  clear hz
  by_cases hlt:k<n
  ·obtain ⟨x2,o2,y,hxo,hx2,hy,hc1⟩:=(RS.out.nxb kw).sl.at hlt
   cases hxo
   have f0:wo.cell? ⟨x1,o1+k*3,none⟩=some (.int .i64 y.id):=hc1 0 _ rfl
   have f1:wo.cell? ⟨x1,o1+k*3+1,none⟩=some (.string y.key):=hc1 1 _ rfl
   have f2:wo.cell? ⟨x1,o1+k*3+1+1,none⟩=some (.int .u32 y.word):=by simpa [Nat.add_assoc] using hc1 2 _ rfl
   have SN:=lH (ownF_snoc s.toList x0 S k y hy)
   have hg7w:=B7.lt
   have KW:=lH kw
   clear hc1 hy kw
   have B9:=Blk.new wo [.int .i64 y.id,.string y.key,.int .u32 y.word] 36
   have kk:=Ex.new wo (.cells #[.int .i64 y.id,.string y.key,.int .u32 y.word] 36)
   obtain ⟨w7,hw7⟩:∃ w7,w7=wo.alloc (.cells #[.int .i64 y.id,.string y.key,.int .u32 y.word] 36):=⟨_,rfl⟩
   obtain ⟨g9,hg9⟩:∃ g9,g9=wo.heap.size:=⟨_,rfl⟩
   replace B9:Blk w7 g9 [.int .i64 y.id,.string y.key,.int .u32 y.word] 36:=by rw [hw7,hg9];exact B9
   rw [← hw7] at kk
   have Hw7:=lH hw7
   have Hg9:=lH hg9
   replace B7:=B7.nx kk
   have KW:=lH (KW.out.nxb (kk.b g7))
   have hg97:¬ g9=g7:=by omega
   clear kk hw7 hg9
   go_upto_region 8 with fail
   rw [← Hg9.out,← Hw7.out]
   clear Hg9 Hw7
   have y0:=B9.cell 0 _ rfl
   have y1:=B9.cell 1 _ rfl
   have y2:=B9.cell 2 _ rfl
   have z0:=B7.cell 0 _ rfl
   have z1:=B7.cell 1 _ rfl
   have z2:=B7.cell 2 _ rfl
   have r0:=B7.free 0
   have r1:=B7.free 1
   have r2:=B7.free 2
   have LE:(Op.bytesLess y.key.toList s.toList||y.key.toList==s.toList) = !Op.bytesLess s.toList y.key.toList:=le_not _ _
   have HB:=lH B7
   clear f0 f1 f2 B7 B9
   cases hle:Op.bytesLess s.toList y.key.toList with
   | true =>
    have RR:=lH (show OwRel s.toList S x0 g7 w4 (.int .i64 ((k:Int)+1)) w7 from ⟨k+1,z,by rw [HSL.out];omega,by go_num,by rw [SN.out,← HZ.out];unfold ownF;rw [hle];rfl,HB.out,KW.out⟩)
    clear y0 y2 z0 z2 r0 r1 r2
    go_wp2_with fail
    exact ⟨RR.out,by simp [intOf];omega⟩
   | false =>
    have RR:=lH (show OwRel s.toList S x0 g7 w4 (.int .i64 ((k:Int)+1)) (((w7.setCell ⟨g7,0,none⟩ (.int .i64 y.id)).setCell ⟨g7,1,none⟩ (.string y.key)).setCell ⟨g7,2,none⟩ (.int .u32 y.word)) from
     ⟨k+1,y,by rw [HSL.out];omega,by go_num,by rw [SN.out];unfold ownF;rw [hle];rfl,((HB.out.set 0 _).set 1 _).set 2 _,((KW.out.setB (p:=⟨g7,0,none⟩) _ rfl).setB (p:=⟨g7,1,none⟩) _ rfl).setB (p:=⟨g7,2,none⟩) _ rfl⟩)
    go_wp2_with fail
    exact ⟨RR.out,by simp [intOf];omega⟩
  ·obtain rfl:k=n:=by omega
   have hzz:(z,true)=ownN l s:=by rw [RY.out,HZ.out,List.take_of_length_le (by rw [HSL.out];exact Nat.le_refl _)]
   have HZZ:=lH hzz
   have B4o:=B4.out.nxb hg47 kw
   have q0:=B4o.cell 0 _ rfl
   have q1:=B4o.cell 1 _ rfl
   have q2:=B4o.cell 2 _ rfl
   have z0:=B4o.free 0
   have z1:=B4o.free 1
   have z2:=B4o.free 2
   have y0:=B7.cell 0 _ rfl
   have y1:=B7.cell 1 _ rfl
   have y2:=B7.cell 2 _ rfl
   have EF:Ex w wo:=(Exl.nxb (b:=g7) (w:=w) ⟨EX.out,hwg7⟩ kw).1
   have KE:=lH (((EF.setNew (p:=⟨g4,0,none⟩) (.int .i64 z.id) HGW.out).setNew (p:=⟨g4,1,none⟩) (.string z.key) HGW.out).setNew (p:=⟨g4,2,none⟩) (.int .u32 z.word) HGW.out)
   have hne:¬ g7=g4:=fun h=>hg47 h.symm
   have hne2:¬ g4=g7:=hg47
   clear hk hlt kw hzz B4o B7 EF
   go_wp2_with fail
   refine bodyPost_ret (v:=.tuple #[.agg #[.int .i64 z.id,.string z.key,.int .u32 z.word],.bool true]) (by simp [results,Tryz.results76,go_sem, *]) rfl ⟨by rw [← HZZ.out],KE.out⟩
theorem owner_cut (key:List UInt8):∀ S:List Nd,S≠[]→AscS S→∃ A x B,S=A++x::B∧(A=[]∨Op.bytesLess key x.key.toList=false)∧∀ y∈B,Op.bytesLess key y.key.toList=true:=by
 have key1:∀ n,∀ S:List Nd,S.length=n→S≠[]→AscS S→∃ A x B,S=A++x::B∧(A=[]∨Op.bytesLess key x.key.toList=false)∧∀ y∈B,Op.bytesLess key y.key.toList=true:=by
  intro n
  induction n with
  | zero=>intro S h h0;exact absurd (List.eq_nil_of_length_eq_zero h) h0
  | succ n ih =>
   intro S hl h0 ha
   obtain ⟨S',z,rfl⟩:∃ S' z,S=S'++[z]:=by
    rcases List.eq_nil_or_concat S with rfl | ⟨S',z,rfl⟩
    ·exact absurd rfl h0
    ·exact ⟨S',z,List.concat_eq_append⟩
   by_cases hz:Op.bytesLess key z.key.toList=true
   ·by_cases hs:S'=[]
    ·subst hs
     exact ⟨[],z,[],rfl,.inl rfl,fun y hy=>by cases hy⟩
    ·obtain ⟨A,x,B,e,h1,h2⟩:=ih S' (by simpa using hl) hs (List.pairwise_append.1 ha).1
     refine ⟨A,x,B++[z],by rw [e];simp,h1,fun y hy=>?_⟩
     rcases List.mem_append.1 hy with hy | hy
     ·exact h2 y hy
     ·rw [List.mem_singleton.1 hy]
      exact hz
   ·exact ⟨S',z,[],rfl,.inr (by simpa using hz),fun y hy=>by cases hy⟩
 exact fun S=>key1 _ S rfl
def hasI (S:List Nd) (i:Nat) (key:List UInt8):Bool :=
 match S[i]?,S[i+1]? with
 | some x,none=>decide (i=0)||!Op.bytesLess key x.key.toList
 | some x,some y=>(decide (i=0)||!Op.bytesLess key x.key.toList)&&Op.bytesLess key y.key.toList
 | none,_=>false
theorem has_cut {A B:List Nd} {x:Nd} {key:List UInt8} (ha:AscS (A++x::B)) (h:hasI (A++x::B) A.length key=true):(A=[]∨Op.bytesLess key x.key.toList=false)∧∀ y∈B,Op.bytesLess key y.key.toList=true:=by
 have e1:(A++x::B)[A.length]?=some x:=by simp
 have e2:(A++x::B)[A.length+1]?=B[0]?:=by
  rw [List.getElem?_append_right (by omega)]
  simp
 unfold hasI at h
 rw [e1,e2] at h
 have hA:∀ u:Bool,(decide (A.length=0)||u)=true→A=[]∨u=true:=fun u hu=>by
  rcases Bool.or_eq_true_iff.1 hu with h | h
  ·exact .inl (List.eq_nil_of_length_eq_zero (of_decide_eq_true h))
  ·exact .inr h
 cases B with
 | nil =>
  simp only [List.getElem?_nil] at h
  exact ⟨(hA _ h).imp id (fun h=>by simpa using h),fun y hy=>by cases hy⟩
 | cons y0 B =>
  simp only [List.getElem?_cons_zero,Bool.and_eq_true] at h
  refine ⟨(hA _ h.1).imp id (fun h=>by simpa using h),fun y hy=>?_⟩
  rcases List.mem_cons.1 hy with rfl | hy
  ·exact h.2
  ·have h3:AscS (y0::B):=by
    have:=(List.pairwise_append.1 ha).2.1
    exact (List.pairwise_cons.1 this).2
   exact bl_trans h.2 ((List.pairwise_cons.1 h3).1 y hy).1
theorem cut_has {A B:List Nd} {x:Nd} {key:List UInt8} (h1:A=[]∨Op.bytesLess key x.key.toList=false) (h2:∀ y∈B,Op.bytesLess key y.key.toList=true):hasI (A++x::B) A.length key=true:=by
 have e1:(A++x::B)[A.length]?=some x:=by simp
 have e2:(A++x::B)[A.length+1]?=B[0]?:=by
  rw [List.getElem?_append_right (by omega)]
  simp
 have h0:(decide (A.length=0)||!Op.bytesLess key x.key.toList)=true:=by
  rcases h1 with rfl | h
  ·rfl
  ·rw [h];simp
 unfold hasI
 rw [e1,e2]
 cases B with
 | nil=>simpa using h0
 | cons y0 B=>simp only [List.getElem?_cons_zero,h0,h2 y0 (by simp),Bool.and_self]
theorem has_own {N:List Nd} (h0:checkN N=0) {i:Nat} {x:Nd} (hx:(sortN N)[i]?=some x) {k:ByteArray} (hk:k.size≤64):hasI (sortN N) i k.toList=decide (x.id=(ownN N k).1.id):=by
 have ha:=sortN_str h0
 have hl:N.length≠0:=by
  have:=(List.getElem?_eq_some_iff.1 hx).1
  rw [(sortN_perm N).length_eq] at this
  omega
 have split:∀ {i:Nat} {x:Nd},(sortN N)[i]?=some x→∃ A B,sortN N=A++x::B∧A.length=i:=fun {i x} h=>by
  obtain ⟨hi,e⟩:=List.getElem?_eq_some_iff.1 h
  refine ⟨(sortN N).take i,(sortN N).drop (i+1),?_,by rw [List.length_take];omega⟩
  rw [← e,List.getElem_cons_drop,List.take_append_drop]
 have own1:∀ {A B:List Nd} {x:Nd},sortN N=A++x::B→(A=[]∨Op.bytesLess k.toList x.key.toList=false)→(∀ y∈B,Op.bytesLess k.toList y.key.toList=true)→(ownN N k).1=x:=fun {A B x} e g1 g2=>by
  unfold ownN
  rw [if_pos ⟨h0,hl,hk⟩,e]
  exact own_at g1 g2
 obtain ⟨A0,x0,B0,e0,g1,g2⟩:=owner_cut k.toList (sortN N) (by intro h;rw [h] at hx;cases hx) ha
 have ho:(ownN N k).1=x0:=own1 e0 g1 g2
 rw [ho]
 by_cases hi:i=A0.length
 ·subst hi
  have hxx:x=x0:=by
   rw [e0] at hx
   simpa using hx.symm
  rw [hxx,e0,cut_has g1 g2]
  simp
 ·have hne:x.id≠x0.id:=by
   have hx0:(sortN N)[A0.length]?=some x0:=by rw [e0];simp
   rcases Nat.lt_or_gt_of_ne hi with h | h
   ·exact (asc_at ha hx hx0 h).2
   ·exact fun e=>(asc_at ha hx0 hx h).2 e.symm
  rw [decide_eq_false hne]
  cases hb:hasI (sortN N) i k.toList with
  | false=>rfl
  | true =>
   obtain ⟨A,B,e,hA⟩:=split hx
   rw [e,← hA] at hb
   rw [e] at ha
   obtain ⟨u1,u2⟩:=has_cut ha hb
   have:=own1 e u1 u2
   rw [ho] at this
   exact absurd (by rw [this]) hne
def loI (S:List Nd) (p:Nat):ByteArray:=if p=0 then ⟨#[]⟩ else (S[p]?.getD Nd.zero).key
def hiI (S:List Nd) (p:Nat):ByteArray×Bool:=match S[p+1]? with | none=>(⟨#[]⟩,true) | some y=>(y.key,false)
def hasV (lo hi:ByteArray) (top:Bool) (q:ByteArray):Bool:=!Op.bytesLess q.toList lo.toList&&(top||Op.bytesLess q.toList hi.toList)
theorem less_nil (q:List UInt8):Op.bytesLess q []=false:=by cases q<;>rfl
theorem has_val {S:List Nd} {p:Nat} {x:Nd} (hx:S[p]?=some x) (q:ByteArray):hasV (loI S p) (hiI S p).1 (hiI S p).2 q=hasI S p q.toList:=by
 have h0:(!Op.bytesLess q.toList (loI S p).toList)=(decide (p=0)||!Op.bytesLess q.toList x.key.toList):=by
  unfold loI
  rw [hx]
  by_cases hp:p=0
  ·rw [if_pos hp,decide_eq_true hp]
   have:(⟨#[]⟩:ByteArray).toList=[]:=by rw [ByteArray.toList_eq]
   rw [this,less_nil]
   rfl
  ·rw [if_neg hp,decide_eq_false hp]
   rfl
 unfold hasV hasI hiI
 rw [h0,hx]
 cases S[p+1]? with
 | none=>simp
 | some y=>simp
set_option maxHeartbeats 1000000 in
theorem contains_p (lo hi q:ByteArray) (top:Bool) (w:World):Calls Tryz.prog 18 #[.agg #[.string lo,.bool false,.string hi,.bool top],.string q] w fun e w'=>e=.returned (.bool (hasV lo hi top q))∧Ex w w':=by
 have B2:=Blk.new w [.string lo,.bool false,.string hi,.bool top] 45
 have kk:=Ex.new w (.cells #[.string lo,.bool false,.string hi,.bool top] 45)
 obtain ⟨w1,hw1⟩:∃ w1,w1=w.alloc (.cells #[.string lo,.bool false,.string hi,.bool top] 45):=⟨_,rfl⟩
 obtain ⟨g2,hg2⟩:∃ g2,g2=w.heap.size:=⟨_,rfl⟩
 replace B2:Blk w1 g2 [.string lo,.bool false,.string hi,.bool top] 45:=by rw [hw1,hg2];exact B2
 rw [← hw1] at kk
 have Hw1:=lH hw1
 have Hg2:=lH hg2
 have K1:=lH kk
 clear kk hw1 hg2
 go_enter Tryz.func18,Tryz.ntmps18
 go_upto_region 1 with fail
 rw [← Hg2.out,← Hw1.out]
 clear Hg2 Hw1
 have b0:=B2.cell 0 _ rfl
 have b1:=B2.cell 1 _ rfl
 have b2:=B2.cell 2 _ rfl
 have b3:=B2.cell 3 _ rfl
 clear B2
 rcases bl_tri lo.toList q.toList with ⟨h1,h2,h3⟩ | ⟨h1,h2,h3⟩ | ⟨h1,h2,h3⟩
 ·clear h3
  cases top with
  | true =>
   have HR:Hid (hasV lo hi true q=true):=lH (by unfold hasV;rw [h2];rfl)
   clear h2
   go_wp2_with fail
   go_ret
   exact ⟨by rw [HR.out];rfl,K1.out⟩
  | false =>
   have HR:Hid (hasV lo hi false q=Op.bytesLess q.toList hi.toList):=lH (by unfold hasV;rw [h2];rfl)
   clear h2
   go_wp2_with fail
   go_ret
   exact ⟨by rw [HR.out];rfl,K1.out⟩
 ·have hI:Op.bytesLess q.toList q.toList=false:=bytesLess_irrefl _
  clear h2
  cases top with
  | true =>
   have HR:Hid (hasV lo hi true q=true):=lH (by unfold hasV;rw [h3];rfl)
   clear h3
   go_wp2_with fail
   go_ret
   exact ⟨by rw [HR.out];rfl,K1.out⟩
  | false =>
   have HR:Hid (hasV lo hi false q=Op.bytesLess q.toList hi.toList):=lH (by unfold hasV;rw [h3];rfl)
   clear h3
   go_wp2_with fail
   go_ret
   exact ⟨by rw [HR.out];rfl,K1.out⟩
 ·have h4:(lo.toList==q.toList)=false:=by simpa using h3
  have HR:Hid (hasV lo hi top q=false):=lH (by unfold hasV;rw [h1];rfl)
  clear h1
  go_wp2_with fail
  go_ret
  exact ⟨by rw [HR.out];rfl,K1.out⟩
def IvPost (S:List Nd) (p:Nat) (w:World) (e:Ending) (w':World):Prop:=e=.returned (.tuple #[.agg #[.string (loI S p),.bool false,.string (hiI S p).1,.bool (hiI S p).2],.bool true])∧Ex w w'
set_option maxHeartbeats 4000000 in
theorem interval_p (a:Option Addr) (n c:Nat) (l:List Nd) (x:Nd) (p:Nat) (w:World) (hs:Sl 3 encN w a n l) (hn:n≤1000) (hc:n≤c) (hm:c≤maxLen) (h0:checkN l=0) (hx:(sortN l)[p]?=some x) :
  Calls Tryz.prog 17 #[.slice a n c,.int .i64 x.id] w (IvPost (sortN l) p w):=by
 have HL:=lH hs.len
 have C0:=lH h0
 have hpl:p<n:=by have h1:=(List.getElem?_eq_some_iff.1 hx).1;rw [sortN_length] at h1;have:=HL.out;omega
 have PI:Hid (placeI l x.id=p):=lH (by
  obtain ⟨hi,e⟩:=List.getElem?_eq_some_iff.1 hx
  have:=placeI_at h0 (A:=(sortN l).take p) (B:=(sortN l).drop (p+1)) (x:=x) (by rw [← e,List.getElem_cons_drop,List.take_append_drop])
  rw [this,List.length_take]
  omega)
 obtain ⟨S,hS⟩:∃ S,S=sortN l:=⟨_,rfl⟩
 rw [← hS] at hx ⊢
 have HX:=lH hx
 have HSE:=lH hS
 have hSn:S.length=n:=by rw [hS,sortN_length];exact HL.out
 have HSN:=lH hSn
 clear h0 hx hS hSn
 have B4:=Blk.new w [.string ⟨#[]⟩,.bool false,.string ⟨#[]⟩,.bool false] 45
 have kk:=Ex.new w (.cells #[.string ⟨#[]⟩,.bool false,.string ⟨#[]⟩,.bool false] 45)
 obtain ⟨w1,hw1⟩:∃ w1,w1=w.alloc (.cells #[.string ⟨#[]⟩,.bool false,.string ⟨#[]⟩,.bool false] 45):=⟨_,rfl⟩
 obtain ⟨g4,hg4⟩:∃ g4,g4=w.heap.size:=⟨_,rfl⟩
 replace B4:Blk w1 g4 [.string ⟨#[]⟩,.bool false,.string ⟨#[]⟩,.bool false] 45:=by rw [hw1,hg4];exact B4
 rw [← hw1] at kk
 have Hw1:=lH hw1
 have Hg4:=lH hg4
 replace hs:=hs.nx kk
 have K1:=lH kk
 have zg4:w.heap.size≤g4:=by omega
 clear kk hw1 hg4
 go_enter Tryz.func17,Tryz.ntmps17
 go_upto_region 1 with fail
 rw [← Hg4.out,← Hw1.out]
 clear Hg4 Hw1
 go_wp2_with fail
 (with_reducible refine (place_p _ _ _ l x.id _ hs hn hc hm).mono ?_)
 rintro e w2 ⟨v,S',rfl,OS,hS',kk⟩
 rw [PI.out]
 have hSe:=(hS' C0.out).trans HSE.out.symm
 subst hSe
 obtain ⟨aS,cS,rfl,r5,hcS,hmS⟩:=OS.sl3 (fun _=>rfl)
 rw [HSN.out] at r5 hcS ⊢
 have B4:=B4.nx kk
 have K2:=lH (K1.out.nx kk)
 have h4l:=B4.lt
 have hp0:¬ (p:Int)<0:=by omega
 have z2:=K2.out.size
 clear kk OS hS' hs
 have B8:=Blk.new w2 [.string ⟨#[]⟩,.bool false,.string ⟨#[]⟩,.bool true] 45
 have kk:=Ex.new w2 (.cells #[.string ⟨#[]⟩,.bool false,.string ⟨#[]⟩,.bool true] 45)
 obtain ⟨w3,hw3⟩:∃ w3,w3=w2.alloc (.cells #[.string ⟨#[]⟩,.bool false,.string ⟨#[]⟩,.bool true] 45):=⟨_,rfl⟩
 obtain ⟨g8,hg8⟩:∃ g8,g8=w2.heap.size:=⟨_,rfl⟩
 replace B8:Blk w3 g8 [.string ⟨#[]⟩,.bool false,.string ⟨#[]⟩,.bool true] 45:=by rw [hw3,hg8];exact B8
 rw [← hw3] at kk
 have Hw3:=lH hw3
 have Hg8:=lH hg8
 replace B4:=B4.nx kk
 have K3:=lH (K2.out.nx kk)
 have z8:w.heap.size≤g8:=by omega
 have h48:¬ g4=g8:=by omega
 have r5b:=(r5.slb (b:=g8) (by omega)).nxb (kk.b g8)
 have R5:=lH (fun wq (kq:Exb g8 w3 wq)=>(r5b.nxb kq).sl)
 have B4H:=lH (fun wq (kq:Exb g8 w3 wq)=>B4.nxb h48 kq)
 clear kk hw3 hg8 r5 r5b B4
 go_upto_region 5 with fail
 rw [← Hg8.out,← Hw3.out]
 clear Hg8 Hw3
 have wp1:IntKind.i64.wrap ((p:Int)+1)=(p:Int)+1:=IntWalk.i64_in _ (by omega)
 have B8H:=lH B8
 clear B8
 rcases (show (p>0∧p+1<n)∨(p>0∧¬ p+1<n)∨(¬ p>0∧p+1<n)∨(¬ p>0∧¬ p+1<n) by omega) with ⟨c1,c2⟩ | ⟨c1,c2⟩ | ⟨c1,c2⟩ | ⟨c1,c2⟩
 ·have d0:(p:Int)>0:=by omega
  obtain ⟨x5,o5,y,rfl,hx5,hy,hcc⟩:=(R5.out _ (Exb.refl _ _)).at hpl
  obtain rfl:y=x:=Option.some.inj (hy.symm.trans HX.out)
  have e1:w3.cell? ⟨x5,o5+p*3+1,none⟩=some (.string y.key):=hcc 1 _ rfl
  have f0:=B8H.out.free 0
  have r0:=B8H.out.cell 0 _ rfl
  have HLO:Hid (loI S' p=y.key):=lH (by unfold loI;rw [if_neg (by omega),HX.out];rfl)
  clear hcc hy
  go_upto_region 7 with fail
  obtain ⟨w4,hw4⟩:∃ w4,w4=w3.setCell ⟨g8,0,none⟩ (.string y.key):=⟨_,rfl⟩
  rw [← hw4]
  have KB:=lH (show Exb g8 w3 w4 from by rw [hw4];exact (Exb.refl g8 _).setB (p:=⟨g8,0,none⟩) _ rfl)
  have BX:=lH (show Blk w4 g8 [.string y.key,.bool false,.string ⟨#[]⟩,.bool true] 45 from by rw [hw4];exact B8H.out.set 0 _)
  have KX:=lH (show Ex w w4 from by rw [hw4];exact K3.out.setNew (p:=⟨g8,0,none⟩) _ z8)
  clear hw4 f0 r0 e1
  obtain ⟨x6,o6,z,hx6,hx7,hz,hcz⟩:=(R5.out _ KB.out).at (show p+1<n by omega)
  cases hx6
  have e2:w4.cell? ⟨x5,o5+(p+1)*3+1,none⟩=some (.string z.key):=hcz 1 _ rfl
  have d1:(p:Int)+1<(n:Int):=by omega
  have f2:=BX.out.free 2
  have f3:=BX.out.free 3
  have r2:=BX.out.cell 2 _ rfl
  have r3:=BX.out.cell 3 _ rfl
  have HHI:Hid (hiI S' p=(z.key,false)):=lH (by unfold hiI;rw [hz])
  clear hcz hz
  go_upto_region 9 with fail
  obtain ⟨w5,hw5⟩:∃ w5,w5=(w4.setCell ⟨g8,2,none⟩ (.string z.key)).setCell ⟨g8,3,none⟩ (.bool false):=⟨_,rfl⟩
  rw [← hw5]
  have KB5:=KB.out.nxb (show Exb g8 w4 w5 from by rw [hw5];exact ((Exb.refl g8 _).setB (p:=⟨g8,2,none⟩) _ rfl).setB (p:=⟨g8,3,none⟩) _ rfl)
  have BY:Blk w5 g8 [.string y.key,.bool false,.string z.key,.bool false] 45:=by rw [hw5];exact (BX.out.set 2 _).set 3 _
  have KY:=lH (show Ex w w5 from by rw [hw5];exact (KX.out.setNew (p:=⟨g8,2,none⟩) _ z8).setNew (p:=⟨g8,3,none⟩) _ z8)
  clear hw5 f2 f3 r2 r3 e2
  have B4Y:=B4H.out _ KB5
  have q0:=BY.cell 0 _ rfl
  have q1:=BY.cell 1 _ rfl
  have q2:=BY.cell 2 _ rfl
  have q3:=BY.cell 3 _ rfl
  have p0:=B4Y.cell 0 _ rfl
  have p1:=B4Y.cell 1 _ rfl
  have p2:=B4Y.cell 2 _ rfl
  have p3:=B4Y.cell 3 _ rfl
  have t0:=B4Y.free 0
  have t1:=B4Y.free 1
  have t2:=B4Y.free 2
  have t3:=B4Y.free 3
  have KE:Hid (∀ v0 v1 v2 v3,Ex w ((((w5.setCell ⟨g4,0,none⟩ v0).setCell ⟨g4,1,none⟩ v1).setCell ⟨g4,2,none⟩ v2).setCell ⟨g4,3,none⟩ v3)):=lH (fun v0 v1 v2 v3=>(((KY.out.setNew (p:=⟨g4,0,none⟩) _ zg4).setNew (p:=⟨g4,1,none⟩) _ zg4).setNew (p:=⟨g4,2,none⟩) _ zg4).setNew (p:=⟨g4,3,none⟩) _ zg4)
  have hlt4:=B4Y.lt
  clear KB5 BY B4Y
  go_wp2_with fail
  refine bodyPost_ret (v:=.tuple #[.agg #[.string y.key,.bool false,.string z.key,.bool false],.bool true]) (by simp [results,Tryz.results17,go_sem, *]) rfl ⟨by rw [HLO.out,HHI.out],KE.out _ _ _ _⟩
 ·have d0:(p:Int)>0:=by omega
  obtain ⟨x5,o5,y,rfl,hx5,hy,hcc⟩:=(R5.out _ (Exb.refl _ _)).at hpl
  obtain rfl:y=x:=Option.some.inj (hy.symm.trans HX.out)
  have e1:w3.cell? ⟨x5,o5+p*3+1,none⟩=some (.string y.key):=hcc 1 _ rfl
  have f0:=B8H.out.free 0
  have r0:=B8H.out.cell 0 _ rfl
  have HLO:Hid (loI S' p=y.key):=lH (by unfold loI;rw [if_neg (by omega),HX.out];rfl)
  clear hcc hy
  go_upto_region 7 with fail
  obtain ⟨w4,hw4⟩:∃ w4,w4=w3.setCell ⟨g8,0,none⟩ (.string y.key):=⟨_,rfl⟩
  rw [← hw4]
  have KB:=lH (show Exb g8 w3 w4 from by rw [hw4];exact (Exb.refl g8 _).setB (p:=⟨g8,0,none⟩) _ rfl)
  have BX:=lH (show Blk w4 g8 [.string y.key,.bool false,.string ⟨#[]⟩,.bool true] 45 from by rw [hw4];exact B8H.out.set 0 _)
  have KX:=lH (show Ex w w4 from by rw [hw4];exact K3.out.setNew (p:=⟨g8,0,none⟩) _ z8)
  clear hw4 f0 r0 e1
  have d1:¬ (p:Int)+1<(n:Int):=by omega
  have HHI:Hid (hiI S' p=(⟨#[]⟩,true)):=lH (by unfold hiI;rw [List.getElem?_eq_none (by rw [HSN.out];omega)])
  go_upto_region 9 with fail
  have KB5:=KB.out
  have BY:=BX.out
  have KY:=KX
  have B4Y:=B4H.out _ KB5
  have q0:=BY.cell 0 _ rfl
  have q1:=BY.cell 1 _ rfl
  have q2:=BY.cell 2 _ rfl
  have q3:=BY.cell 3 _ rfl
  have p0:=B4Y.cell 0 _ rfl
  have p1:=B4Y.cell 1 _ rfl
  have p2:=B4Y.cell 2 _ rfl
  have p3:=B4Y.cell 3 _ rfl
  have t0:=B4Y.free 0
  have t1:=B4Y.free 1
  have t2:=B4Y.free 2
  have t3:=B4Y.free 3
  have KE:Hid (∀ v0 v1 v2 v3,Ex w ((((w4.setCell ⟨g4,0,none⟩ v0).setCell ⟨g4,1,none⟩ v1).setCell ⟨g4,2,none⟩ v2).setCell ⟨g4,3,none⟩ v3)):=lH (fun v0 v1 v2 v3=>(((KY.out.setNew (p:=⟨g4,0,none⟩) _ zg4).setNew (p:=⟨g4,1,none⟩) _ zg4).setNew (p:=⟨g4,2,none⟩) _ zg4).setNew (p:=⟨g4,3,none⟩) _ zg4)
  have hlt4:=B4Y.lt
  clear KB5 BY B4Y
  go_wp2_with fail
  refine bodyPost_ret (v:=.tuple #[.agg #[.string y.key,.bool false,.string ⟨#[]⟩,.bool true],.bool true]) (by simp [results,Tryz.results17,go_sem, *]) rfl ⟨by rw [HLO.out,HHI.out],KE.out _ _ _ _⟩
 ·have d0:¬ (p:Int)>0:=by omega
  have HLO:Hid (loI S' p=⟨#[]⟩):=lH (by unfold loI;rw [if_pos (by omega)])
  go_upto_region 7 with fail
  have KB:=lH (Exb.refl g8 w3)
  have BX:=B8H
  have KX:=K3
  obtain ⟨x6,o6,z,hx6,hx7,hz,hcz⟩:=(R5.out _ KB.out).at (show p+1<n by omega)
  subst hx6
  have e2:w3.cell? ⟨x6,o6+(p+1)*3+1,none⟩=some (.string z.key):=hcz 1 _ rfl
  have d1:(p:Int)+1<(n:Int):=by omega
  have f2:=BX.out.free 2
  have f3:=BX.out.free 3
  have r2:=BX.out.cell 2 _ rfl
  have r3:=BX.out.cell 3 _ rfl
  have HHI:Hid (hiI S' p=(z.key,false)):=lH (by unfold hiI;rw [hz])
  clear hcz hz
  go_upto_region 9 with fail
  obtain ⟨w5,hw5⟩:∃ w5,w5=(w3.setCell ⟨g8,2,none⟩ (.string z.key)).setCell ⟨g8,3,none⟩ (.bool false):=⟨_,rfl⟩
  rw [← hw5]
  have KB5:=KB.out.nxb (show Exb g8 w3 w5 from by rw [hw5];exact ((Exb.refl g8 _).setB (p:=⟨g8,2,none⟩) _ rfl).setB (p:=⟨g8,3,none⟩) _ rfl)
  have BY:Blk w5 g8 [.string ⟨#[]⟩,.bool false,.string z.key,.bool false] 45:=by rw [hw5];exact (BX.out.set 2 _).set 3 _
  have KY:=lH (show Ex w w5 from by rw [hw5];exact (KX.out.setNew (p:=⟨g8,2,none⟩) _ z8).setNew (p:=⟨g8,3,none⟩) _ z8)
  clear hw5 f2 f3 r2 r3 e2
  have B4Y:=B4H.out _ KB5
  have q0:=BY.cell 0 _ rfl
  have q1:=BY.cell 1 _ rfl
  have q2:=BY.cell 2 _ rfl
  have q3:=BY.cell 3 _ rfl
  have p0:=B4Y.cell 0 _ rfl
  have p1:=B4Y.cell 1 _ rfl
  have p2:=B4Y.cell 2 _ rfl
  have p3:=B4Y.cell 3 _ rfl
  have t0:=B4Y.free 0
  have t1:=B4Y.free 1
  have t2:=B4Y.free 2
  have t3:=B4Y.free 3
  have KE:Hid (∀ v0 v1 v2 v3,Ex w ((((w5.setCell ⟨g4,0,none⟩ v0).setCell ⟨g4,1,none⟩ v1).setCell ⟨g4,2,none⟩ v2).setCell ⟨g4,3,none⟩ v3)):=lH (fun v0 v1 v2 v3=>(((KY.out.setNew (p:=⟨g4,0,none⟩) _ zg4).setNew (p:=⟨g4,1,none⟩) _ zg4).setNew (p:=⟨g4,2,none⟩) _ zg4).setNew (p:=⟨g4,3,none⟩) _ zg4)
  have hlt4:=B4Y.lt
  clear KB5 BY B4Y
  go_wp2_with fail
  refine bodyPost_ret (v:=.tuple #[.agg #[.string ⟨#[]⟩,.bool false,.string z.key,.bool false],.bool true]) (by simp [results,Tryz.results17,go_sem, *]) rfl ⟨by rw [HLO.out,HHI.out],KE.out _ _ _ _⟩
 ·have d0:¬ (p:Int)>0:=by omega
  have HLO:Hid (loI S' p=⟨#[]⟩):=lH (by unfold loI;rw [if_pos (by omega)])
  go_upto_region 7 with fail
  have KB:=lH (Exb.refl g8 w3)
  have BX:=B8H
  have KX:=K3
  have d1:¬ (p:Int)+1<(n:Int):=by omega
  have HHI:Hid (hiI S' p=(⟨#[]⟩,true)):=lH (by unfold hiI;rw [List.getElem?_eq_none (by rw [HSN.out];omega)])
  go_upto_region 9 with fail
  have KB5:=KB.out
  have BY:=BX.out
  have KY:=KX
  have B4Y:=B4H.out _ KB5
  have q0:=BY.cell 0 _ rfl
  have q1:=BY.cell 1 _ rfl
  have q2:=BY.cell 2 _ rfl
  have q3:=BY.cell 3 _ rfl
  have p0:=B4Y.cell 0 _ rfl
  have p1:=B4Y.cell 1 _ rfl
  have p2:=B4Y.cell 2 _ rfl
  have p3:=B4Y.cell 3 _ rfl
  have t0:=B4Y.free 0
  have t1:=B4Y.free 1
  have t2:=B4Y.free 2
  have t3:=B4Y.free 3
  have KE:Hid (∀ v0 v1 v2 v3,Ex w ((((w3.setCell ⟨g4,0,none⟩ v0).setCell ⟨g4,1,none⟩ v1).setCell ⟨g4,2,none⟩ v2).setCell ⟨g4,3,none⟩ v3)):=lH (fun v0 v1 v2 v3=>(((KY.out.setNew (p:=⟨g4,0,none⟩) _ zg4).setNew (p:=⟨g4,1,none⟩) _ zg4).setNew (p:=⟨g4,2,none⟩) _ zg4).setNew (p:=⟨g4,3,none⟩) _ zg4)
  have hlt4:=B4Y.lt
  clear KB5 BY B4Y
  go_wp2_with fail
  refine bodyPost_ret (v:=.tuple #[.agg #[.string ⟨#[]⟩,.bool false,.string ⟨#[]⟩,.bool true],.bool true]) (by simp [results,Tryz.results17,go_sem, *]) rfl ⟨by rw [HLO.out,HHI.out],KE.out _ _ _ _⟩
theorem rgT {w w':World} (h:Ex w.drew w'):Ex w w':=(Ex.refl w).drew.nx h
set_option maxRecDepth 100000 in
set_option maxHeartbeats 8000000 in
theorem reaches_t {b:Nat} (aX:Option Addr) (n cX:Nat) (L:List Nd) (a2:Option Addr) (n2 c2:Nat) (K:List Lkd) (m:Nat) (s:ByteArray) (w:World) (h:TK w b) (hs:Slb 3 encN b w aX n L) (hn:n≤100) (hcX:n≤cX) (hmX:cX≤maxLen) (h0:checkN L=0) (hm16:m≤16)
  (hK:K=(buildN L (m:Int)).1) (hLK:∀ wq,Exb b w wq→LkL wq a2 n2 K) (hn2:n2≤1000) (hL:LetG w) (hgl:¬ 0=b) :
  Calls Tryz.prog 19 #[.pointer (some ⟨b,0,none⟩),.slice aX n cX,.slice a2 n2 c2,.string s] w fun e w'=>e=.returned (.bool true)∧TK w' b∧Exb b w w':=by
 have RC:=lH h0
 have RL:Hid (L.length=n):=lH hs.len
 have HS:=lH (fun wq (kq:Exb b w wq)=>hs.nxb kq)
 have HK:=lH hK
 have LK:=lH hLK
 have BS:Hid (∀ c∈K,c.2.length≤17):=lH (by rw [hK];exact (buildN_small L (m:Int) (by have:=hs.len;omega)).2)
 clear h0 hs hK hLK
 go_enter Tryz.func19,Tryz.ntmps19
 go_wp2_with fail
 refine (key_t _ h hL hgl).mono ?_
 clear h
 rintro e w6 ⟨Q,rfl,_,T,kk⟩
 have K6:=lH kk
 clear kk hL
 have hnb:=T.lt
 have B19:=Blk.new w6 [.string Q,.string s] 9
 have kk:=Ex.new w6 (.cells #[.string Q,.string s] 9)
 obtain ⟨w7,hw7⟩:∃ w7,w7=w6.alloc (.cells #[.string Q,.string s] 9):=⟨_,rfl⟩
 obtain ⟨g19,hg19⟩:∃ g19,g19=w6.heap.size:=⟨_,rfl⟩
 replace B19:Blk w7 g19 [.string Q,.string s] 9:=by rw [hw7,hg19];exact B19
 rw [← hw7] at kk
 have Hw7:=lH hw7
 have Hg19:=lH hg19
 replace T:=T.nx kk
 have K7:=lH (K6.out.nxb (kk.b b))
 have hgb:¬ g19=b:=by omega
 clear kk hw7 hg19 K6
 go_upto_region 2 with fail
 rw [← Hg19.out,← Hw7.out]
 clear Hg19 Hw7
 have B19:=lH B19
 go_loopw [21] (fun i wr=>CtRel b 2 w7 i wr) (fun i _=>2-(intOf i).toNat)
 case atStart=>exact ⟨0,by omega,rfl,Exb.refl _ _,T⟩
 case round =>
  clear T
  obtain ⟨k,hk,rfl,kw,T⟩:=hrel
  obtain ⟨wo,rfl⟩:∃ wo:World,wo=wr:=⟨_,rfl⟩
  by_cases hlt:k<2
  case neg =>
   obtain rfl:k=2:=by omega
   have FIN:=lH (show TK wo b∧Exb b w wo from ⟨T,K7.out.nxb kw⟩)
   clear hk hlt kw T
   go_wp2_with fail
   go_ret
   exact ⟨rfl,FIN.out.1,FIN.out.2⟩
  have hbo:=T.lt
  obtain ⟨q,cq⟩:∃ q:ByteArray,wo.cell? ⟨g19,k,none⟩=some (.string q):=by
   have B:=B19.out.nxb hgb kw
   rcases (show k=0∨k=1 by omega) with h | h
   ·exact ⟨Q,by rw [h];exact B.cell 0 _ rfl⟩
   ·exact ⟨s,by rw [h];exact B.cell 1 _ rfl⟩
  by_cases hn0:n=0
  ·have d0:((n:Int)==0)=true:=by simp [hn0]
   have FIN:=lH (show TK wo b∧Exb b w wo from ⟨T,K7.out.nxb kw⟩)
   clear kw T hn0
   go_wp2_with fail
   go_ret
   exact ⟨rfl,FIN.out.1,FIN.out.2⟩
  have d0:((n:Int)==0)=false:=by simpa using hn0
  have hn1:(1:Int)≤(n:Int):=by omega
  clear hn0
  go_wp2_with fail
  refine (next_t (n:Int) _ T hn1 (by omega)).mono ?_
  clear T
  rintro e x2 ⟨r,rfl,r0,r1,T,kk⟩
  replace kw:=kw.nxb kk
  clear kk
  obtain ⟨j,rfl⟩:=Int.eq_ofNat_of_zero_le r0
  have hj:j<n:=by omega
  have S:=HS.out _ (K7.out.nxb kw)
  obtain ⟨x1,o1,y,rfl,hx1,hy,hc1⟩:=S.sl.at hj
  have e0:x2.cell? ⟨x1,o1+j*3,none⟩=some (.int .i64 y.id):=hc1 0 _ rfl
  have HYM:=lH (List.mem_of_getElem? hy)
  have TB:=lH T
  have KW:=lH kw
  have S:=S.sl
  have LK2:=LK.out _ (K7.out.nxb kw)
  have EX:=Ex.refl x2
  clear T kw hc1 hy cq r0 r1
  go_wp2_with fail
  (with_reducible refine (route_p _ _ _ _ _ _ _ K _ _ _ S (by omega) hcX hmX LK2 (by omega) (fun c hc=>Nat.le_trans (BS.out c hc) (by omega))).mono ?_)
  rintro e y1 ⟨v2,rfl,own,kk⟩
  replace S:=S.nx kk
  replace EX:=EX.nx kk
  clear kk
  obtain ⟨aH,cH,rfl,H,_,_,_⟩:=own.slf (fun _=>rfl)
  have H:=H.sl
  clear own e0 LK2
  go_wp2_with fail
  (with_reducible refine (owner_p _ _ _ _ _ _ S (by omega) hcX hmX).mono ?_)
  rintro e y2 ⟨rfl,kk⟩
  replace S:=S.nx kk
  replace EX:=EX.nx kk
  replace H:=H.nx kk
  clear kk
  obtain ⟨RT,hRT⟩:∃ RT,RT=routeN L K y.id q:=⟨_,rfl⟩
  rw [← hRT] at H ⊢
  have hRl:=route_small L K y.id q
  rw [← hRT] at hRl
  obtain ⟨ON,hON⟩:∃ ON,ON=ownN L q:=⟨_,rfl⟩
  rw [← hON]
  have HRT:=lH hRT
  have HON:=lH hON
  obtain ⟨o,ok⟩:=ON
  simp only
  clear hRT hON
  have B14:=Blk.new y2 [.int .i64 o.id,.string o.key,.int .u32 o.word] 36
  have kk:=Ex.new y2 (.cells #[.int .i64 o.id,.string o.key,.int .u32 o.word] 36)
  obtain ⟨y3,hy3⟩:∃ y3,y3=y2.alloc (.cells #[.int .i64 o.id,.string o.key,.int .u32 o.word] 36):=⟨_,rfl⟩
  obtain ⟨g14,hg14⟩:∃ g14,g14=y2.heap.size:=⟨_,rfl⟩
  replace B14:Blk y3 g14 [.int .i64 o.id,.string o.key,.int .u32 o.word] 36:=by rw [hy3,hg14];exact B14
  rw [← hy3] at kk
  have Hy3:=lH hy3
  have Hg14:=lH hg14
  replace EX:=EX.nx kk
  replace H:=H.nx kk
  clear kk hy3 hg14
  go_upto_region 9 with fail
  rw [← Hg14.out,← Hy3.out]
  clear Hg14 Hy3
  by_cases hq:q.size≤64
  ·have HE:=end_law (L:=(buildN L (m:Int)).1) RC.out HYM.out hq (by rw [(build_top RC.out hm16 HYM.out).1];omega) (fun x hx=>(build_top RC.out hm16 hx).2 0 (by omega))
   rw [← HK.out,← HRT.out,← HON.out] at HE
   obtain ⟨g1,g2,g3⟩:=HE
   simp only at g2 g3
   subst g3
   have b0:=B14.cell 0 _ rfl
   have B14h:=lH B14
   have E3:=lH EX
   clear hq b0 EX
   refine wp_region_held_drew (S:=Ex y3.drew) (by kernel_rfl) (Ex.refl _) (fun hHeld=>?_)
   refine tkH 0 (v:=?_) rfl (by kernel_rfl) (fun _ _ _ h=>h) (by rfl) ?hyr1x0 (by assumption) ?restr1x0
   case hyr1x0=>intro wq hSw;(go_simp);(try with_reducible rfl)
   try simp only [Act.put,sA,sB,sC]
   refine tkH 1 (v:=?_) rfl (by kernel_rfl) (fun _ _ _ h=>h) (by rfl) ?hyr1x1 (by assumption) ?restr1x1
   case hyr1x1=>intro wq hSw;(go_simp);(try with_reducible rfl)
   try simp only [Act.put,sA,sB,sC]
   refine tkH 2 (v:=?_) rfl (by kernel_rfl) (fun _ _ _ h=>h) (by rfl) ?hyr1x2 (by assumption) ?restr1x2
   case hyr1x2=>intro wq hSw;(go_simp);(try with_reducible rfl)
   try simp only [Act.put,sA,sB,sC]
   refine tkH 3 (v:=?_) rfl (by kernel_rfl) (fun _ _ _ h=>h) (by rfl) ?hyr1x3 (by assumption) ?restr1x3
   case hyr1x3=>intro wq hSw;(go_simp);(try with_reducible rfl)
   try simp only [Act.put,sA,sB,sC]
   refine tkH 4 (v:=?_) rfl (by kernel_rfl) (fun _ _ _ h=>h) (by rfl) ?hyr1x4 (by assumption) ?restr1x4
   case hyr1x4=>intro wq hSw;(go_simp);(try with_reducible rfl)
   try simp only [Act.put,sA,sB,sC]
   refine tkH 5 (v:=?_) rfl (by kernel_rfl) (fun _ _ _ h=>h) (by rfl) ?hyr1x5 (by assumption) ?restr1x5
   case hyr1x5=>intro wq hSw;(go_simp);(try with_reducible rfl)
   try simp only [Act.put,sA,sB,sC]
   refine tkH 6 (v:=?_) rfl (by kernel_rfl) (fun _ _ _ h=>h) (by rfl) ?hyr1x6 (by assumption) ?restr1x6
   case hyr1x6=>intro wq hSw;(go_simp);(try with_reducible rfl)
   try simp only [Act.put,sA,sB,sC]
   refine tkH 7 (v:=?_) rfl (by kernel_rfl) (fun _ _ _ h=>h) (by rfl) ?hyr1x7 (by assumption) ?restr1x7
   case hyr1x7=>intro wq hSw;(go_simp);(try with_reducible rfl)
   try simp only [Act.put,sA,sB,sC]
   refine tkH 8 (v:=?_) rfl (by kernel_rfl) (fun _ _ _ h=>h) (by rfl) ?hyr1x8 (by assumption) ?restr1x8
   case hyr1x8=>intro wq hSw;(go_simp);(try with_reducible rfl)
   try simp only [Act.put,sA,sB,sC]
   refine tkH 10 (v:=?_) rfl (by kernel_rfl) (fun _ _ _ h=>h) (by rfl) ?hyr1x10 (by assumption) ?restr1x10
   case hyr1x10=>intro wq hSw;(go_simp);(try with_reducible rfl)
   try simp only [Act.put,sA,sB,sC]
   refine tkH 11 (v:=?_) rfl (by kernel_rfl) (fun _ _ _ h=>h) (by rfl) ?hyr1x11 (by assumption) ?restr1x11
   case hyr1x11=>intro wq hSw;(have cq:=(B14h.out.nx (rgT hSw)).cell 0 _ rfl;go_simp);(try with_reducible rfl)
   try simp only [Act.put,sA,sB,sC]
   refine rH 9 (by kernel_rfl) rfl fun K hK=>?_
   go_simp
   (with_reducible refine (end_p _ _ _ _ _ _ (H.nx (Ex.refl y3).drew) (by omega)).mono ?_)
   rintro e y4 ⟨rfl,k4⟩
   replace k4:Ex y3.drew y4:=k4
   rw [g2]
   refine hK.out _ _ k4 (fun _=>?_)
   clear hK K
   try simp only [Act.put,sA,sB,sC]
   refine wpAnyH_switch (S':=Ex y4) (fun _ hSw=>Ex.nx k4 hSw) ?_
   clear hHeld
   have hHeld:=Ex.refl y4
   refine tkH 12 (v:=?_) rfl (by kernel_rfl) (fun _ _ _ h=>h) (by rfl) ?hyr1x12 (by assumption) ?restr1x12
   case hyr1x12=>intro wq hSw;(go_simp);(try with_reducible rfl)
   try simp only [Act.put,sA,sB,sC]
   refine tkH 13 (v:=?_) rfl (by kernel_rfl) (fun _ _ _ h=>h) (by rfl) ?hyr1x13 (by assumption) ?restr1x13
   case hyr1x13=>intro wq hSw;(go_simp);(try with_reducible rfl)
   try simp only [Act.put,sA,sB,sC]
   refine tkH 14 (v:=?_) rfl (by kernel_rfl) (fun _ _ _ h=>h) (by rfl) ?hyr1x14 (by assumption) ?restr1x14
   case hyr1x14=>intro wq hSw;(go_simp);(try with_reducible rfl)
   try simp only [Act.put,sA,sB,sC]
   refine wpAnyH_done (by kernel_rfl) ?_ _
   have FIN:Hid (CtRel b 2 w7 (.int .i64 ((k:Int)+1)) y4):=lH (by have kx:=E3.out.nx ((Ex.refl y3).drew.nx k4);exact ⟨k+1,by omega,by go_num,KW.out.nxb (kx.b b),TB.out.nx kx⟩)
   clear H S B14 k4
   go_wp2_with fail
   exact ⟨FIN.out,by simp [intOf];omega⟩
  ·have h1:RT=([],1):=by rw [HRT.out,route_bad (.inr (by omega))]
   have h2:(o,ok)=(Nd.zero,false):=by rw [HON.out,ownN_no (.inr (.inr (by omega)))]
   have hok:ok=false:=by cases h2;rfl
   have hR2:RT.2=1:=by rw [h1]
   have FIN:Hid (CtRel b 2 w7 (.int .i64 ((k:Int)+1)) y3.drew):=lH ⟨k+1,by omega,by go_num,KW.out.nxb (EX.drew.b b),TB.out.nx EX.drew⟩
   subst hok
   clear h1 h2 H S B14 hq
   refine wp_region_held_drew (S:=Ex y3.drew) (by kernel_rfl) (Ex.refl _) (fun hHeld=>?_)
   refine tkH 0 (v:=?_) rfl (by kernel_rfl) (fun _ _ _ h=>h) (by rfl) ?hyr2x0 (by assumption) ?restr2x0
   case hyr2x0=>intro wq hSw;(go_simp);(try with_reducible rfl)
   try simp only [Act.put,sA,sB,sC]
   refine tkH 1 (v:=?_) rfl (by kernel_rfl) (fun _ _ _ h=>h) (by rfl) ?hyr2x1 (by assumption) ?restr2x1
   case hyr2x1=>intro wq hSw;(go_simp);(try with_reducible rfl)
   try simp only [Act.put,sA,sB,sC]
   refine tkH 2 (v:=?_) rfl (by kernel_rfl) (fun _ _ _ h=>h) (by rfl) ?hyr2x2 (by assumption) ?restr2x2
   case hyr2x2=>intro wq hSw;(go_simp);(try with_reducible rfl)
   try simp only [Act.put,sA,sB,sC]
   refine tkH 3 (v:=?_) rfl (by kernel_rfl) (fun _ _ _ h=>h) (by rfl) ?hyr2x3 (by assumption) ?restr2x3
   case hyr2x3=>intro wq hSw;(go_simp);(try with_reducible rfl)
   try simp only [Act.put,sA,sB,sC]
   refine tkH 4 (v:=?_) rfl (by kernel_rfl) (fun _ _ _ h=>h) (by rfl) ?hyr2x4 (by assumption) ?restr2x4
   case hyr2x4=>intro wq hSw;(go_simp);(try with_reducible rfl)
   try simp only [Act.put,sA,sB,sC]
   refine tkH 5 (v:=?_) rfl (by kernel_rfl) (fun _ _ _ h=>h) (by rfl) ?hyr2x5 (by assumption) ?restr2x5
   case hyr2x5=>intro wq hSw;(go_simp);(try with_reducible rfl)
   try simp only [Act.put,sA,sB,sC]
   refine tkH 6 (v:=?_) rfl (by kernel_rfl) (fun _ _ _ h=>h) (by rfl) ?hyr2x6 (by assumption) ?restr2x6
   case hyr2x6=>intro wq hSw;(go_simp);(try with_reducible rfl)
   try simp only [Act.put,sA,sB,sC]
   refine wpAnyH_take (i:=7) (oi:=⟨_,_,_,_,_,_⟩) (v:=undef) rfl (by kernel_rfl) (by kernel_rfl) (by kernel_rfl) (fun _ _ _ h=>h) (Or.inr ⟨by rfl,rfl⟩) (by assumption) ?_
   try simp only [Act.put,sA,sB,sC]
   refine wpAnyH_take (i:=8) (oi:=⟨_,_,_,_,_,_⟩) (v:=undef) rfl (by kernel_rfl) (by kernel_rfl) (by kernel_rfl) (fun _ _ _ h=>h) (Or.inr ⟨by rfl,rfl⟩) (by assumption) ?_
   try simp only [Act.put,sA,sB,sC]
   refine wpAnyH_take (i:=9) (oi:=⟨_,_,_,_,_,_⟩) (v:=undef) rfl (by kernel_rfl) (by kernel_rfl) (by kernel_rfl) (fun _ _ _ h=>h) (Or.inr ⟨by rfl,rfl⟩) (by assumption) ?_
   try simp only [Act.put,sA,sB,sC]
   refine wpAnyH_take (i:=10) (oi:=⟨_,_,_,_,_,_⟩) (v:=undef) rfl (by kernel_rfl) (by kernel_rfl) (by kernel_rfl) (fun _ _ _ h=>h) (Or.inr ⟨by rfl,rfl⟩) (by assumption) ?_
   try simp only [Act.put,sA,sB,sC]
   refine wpAnyH_take (i:=11) (oi:=⟨_,_,_,_,_,_⟩) (v:=undef) rfl (by kernel_rfl) (by kernel_rfl) (by kernel_rfl) (fun _ _ _ h=>h) (Or.inr ⟨by rfl,rfl⟩) (by assumption) ?_
   try simp only [Act.put,sA,sB,sC]
   refine wpAnyH_take (i:=12) (oi:=⟨_,_,_,_,_,_⟩) (v:=undef) rfl (by kernel_rfl) (by kernel_rfl) (by kernel_rfl) (fun _ _ _ h=>h) (Or.inr ⟨by rfl,rfl⟩) (by assumption) ?_
   try simp only [Act.put,sA,sB,sC]
   refine tkH 13 (v:=?_) rfl (by kernel_rfl) (fun _ _ _ h=>h) (by rfl) ?hyr2x13 (by assumption) ?restr2x13
   case hyr2x13=>intro wq hSw;(go_simp);(try with_reducible rfl)
   try simp only [Act.put,sA,sB,sC]
   refine tkH 14 (v:=?_) rfl (by kernel_rfl) (fun _ _ _ h=>h) (by rfl) ?hyr2x14 (by assumption) ?restr2x14
   case hyr2x14=>intro wq hSw;(go_simp);(try with_reducible rfl)
   try simp only [Act.put,sA,sB,sC]
   refine wpAnyH_done (by kernel_rfl) ?_ _
   go_wp2_with fail
   exact ⟨FIN.out,by simp [intOf];omega⟩
end Go.Proofs.YthcholmhmcpooaaGreatDoor
