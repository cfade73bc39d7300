/- Texts for FlightReachesProof. -/
import Derived.Test.YthdkeibapcaclaaGreatDoorFmAll11
import Derived.Test.YthdkeibapcaclaaGreatDoorFmABC1
set_option linter.unusedSimpArgs false
set_option linter.unusedVariables false

namespace Go.Proofs.YthdkeibapcaclaaGreatDoor
open Go.RowKit
theorem bits_xor_u32n (a b:Nat) (ha:a<4294967296) (hb:b<4294967296):bits .xor .u32 (a:Int) (b:Int)=((a ^^^ b:Nat):Int) :=
 bits_u32 .xor (· ^^^ ·) (fun a b ha hb=>Nat.xor_lt_two_pow (n:=32) (by omega) (by omega)) (fun x y=>by
  show IntKind.u32.wrap ((BitVec.ofInt 32 x ^^^ BitVec.ofInt 32 y).toNat:Int)=_
  rw [BitVec.toNat_xor]) a b ha hb
theorem tz32_keyn (x a:Nat) (hx:x<4294967296) (hx0:x≠0) (hlow:x &&& (4294967296-x)=a) :
  bits BinOp.and IntKind.u32 (x:Int) (-(x:Int) % 4294967296)*125613361 % 4294967296 / 134217728=((a*125613361 % 4294967296 / 134217728:Nat):Int):=by
 have e1:-(x:Int) % 4294967296=((4294967296-x:Nat):Int):=by omega
 rw [e1,bits_and_u32n x _ hx (by omega),hlow]
 omega
theorem bitN_of (a i:Nat) (hi:i<16):bitN a i=a / 2 ^ i % 2:=by unfold bitN;rw [if_neg (by omega)];simp
theorem testBit_of (a i:Nat):a.testBit i=decide (a / 2 ^ i % 2=1):=by
 rw [Nat.testBit_eq_decide_div_mod_eq]
theorem bit_eq_iff (a b i:Nat):a.testBit i=b.testBit i↔a / 2 ^ i % 2=b / 2 ^ i % 2:=by
 rw [testBit_of,testBit_of]
 have h1:=Nat.mod_lt (a / 2 ^ i) (show 2>0 by omega)
 have h2:=Nat.mod_lt (b / 2 ^ i) (show 2>0 by omega)
 constructor
 ·intro h
  by_cases h3:a / 2 ^ i % 2=1
  ·have:b / 2 ^ i % 2=1:=by simpa [h3] using h.symm
   omega
  ·have:¬ b / 2 ^ i % 2=1:=by simpa [h3] using h.symm
   omega
 ·intro h;rw [h]
theorem bitN_lt (a:Nat) (i:Int):bitN a i<2:=by unfold bitN;split<;>omega
theorem wpAnyH_switch {P:Program} {md:Region.Mode} {ops:Array Oper} {Q:Exit→Act→World→Prop} {S S':World→Prop} (hS:∀ w,S' w→S w) :
  ∀ {fuel:Nat} {listed:Array Bool} {a:Act} {w:World},wpAnyH P md ops Q S' fuel listed a w→wpAnyH P md ops Q S fuel listed a w
 | 0,_,_,_,h=>h
 | fuel+1,_,_,_,h=>⟨h.1,fun i hi=>wpOp_mono (fun a' w' h'=>⟨hS w' h'.1,wpAnyH_switch hS h'.2⟩) (h.2 i hi)⟩
theorem Tryz.infoH:(Tryz.prog.info? 23).map (fun i=>(i.zero,i.size,i.bytes))=some (some (.slice none 0 0),1,24):=by kernel_rfl
section
variable {A β:Type} {encA:A→List Value} {s1 s2:Nat} {encB:β→List Value} {e1 e2:TypeId}
variable {base:Nat} {w w':World} {v v':Value} {qs:List (A×Hdr)} {L:List (A×List β)}
theorem OwnN.nl (hA:∀ y,(encP encA y).length=s1) (hB:∀ y,(encB y).length=s2) (h:OwnN encA s1 s2 encB e1 e2 base w v qs L) :
  ∃ a cap,v=.slice a L.length cap∧NL encA s1 s2 encB w a L.length L∧L.length≤cap∧cap≤maxLen∧(L≠[]→∃ g,a=some ⟨g,0,none⟩∧base≤g)∧(a=none→cap=0):=by
 obtain ⟨a,cap,e,r,c1,c2,c3,c4⟩:=h.1.rd hA
 rw [h.2.1] at e r c1
 refine ⟨a,cap,e,⟨qs,Rd.mono r (fun _ hk=>hk.2),rfl,fun j q c hq hc=>?_⟩,c1,c2,fun hL=>c3 (fun h0=>hL ?_),c4⟩
 ·obtain ⟨r1,r2⟩:=h.2.2.1 j q c hq hc
  refine ⟨r1,?_⟩
  obtain ⟨a',cap',e',r',_⟩:=r2.rd hB
  obtain ⟨x,q1,q2,q3⟩:=q
  simp only [Hdr.val,Value.slice.injEq] at e'
  obtain ⟨rfl,rfl,rfl⟩:=e'
  exact Rd.mono r' (fun _ hk=>hk.2)
 ·have:=h.2.1
  rw [h0] at this
  exact List.eq_nil_of_length_eq_zero this.symm
end
theorem idxC_of {C:List (List Nd)} {v:Nat} {h:Int} {k:Nat} {c:List Nd} (hc:C[k]?=some c) (hk:sameN (headW c) v h=true) (hlt:∀ j c,j<k→C[j]?=some c→sameN (headW c) v h=false):idxC C v h=k:=by
 have hkl:=(List.getElem?_eq_some_iff.1 hc).1
 have he:C[k]=c:=(List.getElem?_eq_some_iff.1 hc).2
 rw [idxC,List.findIdx_eq hkl]
 refine ⟨by rw [he];exact hk,fun j hj=>?_⟩
 exact hlt j _ hj (List.getElem?_eq_getElem (by omega))
theorem idxC_none {C:List (List Nd)} {v:Nat} {h:Int} (hlt:∀ j c,j<C.length→C[j]?=some c→sameN (headW c) v h=false):idxC C v h=C.length:=by
 rw [idxC,List.findIdx_eq_length]
 intro c hc
 obtain ⟨j,hj,he⟩:=List.mem_iff_getElem.1 hc
 have:=hlt j c hj (by rw [← he];simp)
 simpa using this
def idxV (C:List (List Nd)) (v:Nat) (h:Int):Int:=if idxC C v h<C.length then (idxC C v h:Int) else -1
def IdxRel (n:Nat) (C:List (List Nd)) (v:Nat) (h:Int) (w:World) (i:Value) (wr:World):Prop :=
 ∃ k:Nat,k≤n∧i=.int .i64 k∧Ex w wr∧∀ j c,j<k→C[j]?=some c→sameN (headW c) v h=false
def GoodC (C:List (List Nd)):Prop:=∀ c∈C,0<c.length∧c.length≤1000000∧∀ y∈c,y.word<4294967296
theorem OwnQ.pad {base:Nat} {w w':World} {v v':Value} {qs:List Hdr} {C:List (List Nd)} (h:OwnQ base w v qs C) (ho:OwnL 1 encH 23 base w' v' (qs++[((none,0,0):Hdr)]))
  (k:Chg (fun k=>k<w.heap.size∧¬ v.ownBlock=some k) w w'):OwnQ base w' v' (qs++[((none,0,0):Hdr)]) (C++[[]]):=by
 refine ⟨ho,by simp [h.2.1],fun j q c hq hc=>?_,fun i j qi qj g hi hj gi gj=>?_⟩
 ·rcases Nat.lt_or_ge j qs.length with hl | hl
  ·rw [List.getElem?_append_left hl] at hq
   rw [List.getElem?_append_left (by rw [← h.2.1];exact hl)] at hc
   exact (h.2.2.1 j q c hq hc).chg k (fun x hx hv=>⟨hx,h.ne hq hv⟩)
  ·obtain rfl:j=qs.length:=by have:=(List.getElem?_eq_some_iff.1 hq).1;simp at this;omega
   simp at hq
   rw [h.2.1] at hc
   simp at hc
   subst hq hc
   exact OwnL.nil _ _ _ _ _
 ·have hn:∀ (i:Nat) (q:Hdr),(qs++[((none,0,0):Hdr)])[i]?=some q→q.val.ownBlock=some g→qs[i]?=some q:=by
   intro i q hq hg
   rcases Nat.lt_or_ge i qs.length with hl | hl
   ·rw [List.getElem?_append_left hl] at hq;exact hq
   ·obtain rfl:i=qs.length:=by have:=(List.getElem?_eq_some_iff.1 hq).1;simp at this;omega
    simp at hq
    subst hq
    cases hg
  exact h.2.2.2 i j qi qj g (hn i qi hi gi) (hn j qj hj gj) gi gj
theorem OwnQ.ll {base:Nat} {w:World} {v:Value} {qs:List Hdr} {C:List (List Nd)} (h:OwnQ base w v qs C) :
  ∃ a cap,v=.slice a C.length cap∧LL w a C.length C∧C.length≤cap∧cap≤maxLen∧(C≠[]→∃ g,a=some ⟨g,0,none⟩∧base≤g):=by
 obtain ⟨a,cap,e,r,c1,c2,c3⟩:=h.1.rd (fun _=>rfl)
 rw [h.2.1] at e r c1
 refine ⟨a,cap,e,⟨qs,Rd.mono r (fun _ hk=>hk.2),rfl,fun j q c hq hc=>?_⟩,c1,c2,fun hC=>c3 (fun h0=>hC ?_)⟩
 ·obtain ⟨a',cap',e',r',_⟩:=(h.2.2.1 j q c hq hc).rd (fun _=>rfl)
  obtain ⟨q1,q2,q3⟩:=q
  simp only [Hdr.val,Value.slice.injEq] at e'
  obtain ⟨rfl,rfl,rfl⟩:=e'
  exact Rd.mono r' (fun _ hk=>hk.2)
 ·have:=h.2.1
  rw [h0] at this
  exact List.eq_nil_of_length_eq_zero this.symm
def classesN (l:List Nd) (h:Int):List (List Nd):=if 16<h then [] else l.foldl (stepC h) []
def foldC (h:Int) (l:List Nd):List (List Nd):=l.foldl (stepC h) []
theorem foldC_snoc (h:Int) (l:List Nd) (k:Nat) (y:Nd) (hy:l[k]?=some y):foldC h (l.take (k+1))=stepC h (foldC h (l.take k)) y:=by
 unfold foldC
 rw [take_snocN l k y hy,List.foldl_append]
 rfl
theorem padC_length (C:List (List Nd)) (k:Nat):C.length≤(padC C k).length∧(padC C k).length≤C.length+1:=by
 unfold padC
 split<;>simp
theorem stepC_length (h:Int) (C:List (List Nd)) (x:Nd):(stepC h C x).length≤C.length+1:=by
 unfold stepC
 rw [List.length_set]
 exact (padC_length _ _).2
theorem foldC_length (h:Int) (l:List Nd):(foldC h l).length≤l.length:=by
 have:∀ (l:List Nd) (C:List (List Nd)),(l.foldl (stepC h) C).length≤C.length+l.length:=by
  intro l
  induction l with
  | nil=>intro C;simp
  | cons x r ih=>intro C;have:=ih (stepC h C x);have:=stepC_length h C x;simp at *;omega
 have:=this l []
 simpa [foldC] using this
def Fine (n:Nat) (P:Nd→Prop) (C:List (List Nd)):Prop:=∀ c∈C,0<c.length∧c.length≤n∧∀ y∈c,P y
theorem stepC_fine {h:Int} {n:Nat} {P:Nd→Prop} {C:List (List Nd)} {x:Nd} (hC:Fine n P C) (hx:P x):Fine (n+1) P (stepC h C x):=by
 intro c hc
 unfold stepC at hc
 have hpad:∀ c,c∈padC C (idxC C x.word h)→c∈C∨c=[]:=by
  intro c hc
  unfold padC at hc
  split at hc
  ·rcases List.mem_append.1 hc with h | h
   ·exact .inl h
   ·exact .inr (List.mem_singleton.1 h)
  ·exact .inl hc
 rcases List.mem_or_eq_of_mem_set hc with hm | rfl
 ·by_cases hin:c∈C
  ·have:=hC c hin
   exact ⟨this.1,by omega,this.2.2⟩
  ·
   exfalso
   rcases hpad c hm with h1 | h1
   ·exact hin h1
   ·subst h1
    obtain ⟨j,hj,he⟩:=List.mem_iff_getElem.1 hc
    rw [List.getElem_set] at he
    split at he
    ·simp at he
    ·rename_i hne
     have hjl:j<(padC C (idxC C x.word h)).length:=by rw [List.length_set] at hj;exact hj
     by_cases hi:idxC C x.word h=C.length
     ·have hp:padC C (idxC C x.word h)=C++[[]]:=by unfold padC;rw [if_pos hi]
      have hjC:j<C.length:=by rw [hp] at hjl;simp at hjl;omega
      have:C[j]=[]:=by
       have h2:(padC C (idxC C x.word h))[j]?=some []:=by rw [List.getElem?_eq_getElem hjl,he]
       rw [hp,List.getElem?_append_left hjC,List.getElem?_eq_getElem hjC] at h2
       exact Option.some.inj h2
      exact hin (this▸List.getElem_mem hjC)
     ·have hp:padC C (idxC C x.word h)=C:=by unfold padC;rw [if_neg hi]
      rw [hp] at hm
      exact hin hm
 ·have hg:∀ o:Option (List Nd),(∀ c,o=some c→c∈C∨c=[])→(o.getD []).length≤n∧∀ y∈o.getD [],P y:=by
   intro o ho
   cases o with
   | none=>simp
   | some c =>
    rcases ho c rfl with h | h
    ·exact ⟨(hC c h).2.1,(hC c h).2.2⟩
    ·subst h;simp
  obtain ⟨g1,g2⟩:=hg _ (fun c hc=>hpad c (List.mem_of_getElem? hc))
  refine ⟨by simp,by simp;exact g1,fun y hy=>?_⟩
  rcases List.mem_append.1 hy with h | h
  ·exact g2 y h
  ·rw [List.mem_singleton.1 h];exact hx
theorem foldC_fine {h:Int} {P:Nd→Prop} (l:List Nd) (hP:∀ y∈l,P y):Fine l.length P (foldC h l):=by
 have:∀ (l:List Nd) (n:Nat) (C:List (List Nd)),(∀ y∈l,P y)→Fine n P C→Fine (n+l.length) P (l.foldl (stepC h) C):=by
  intro l
  induction l with
  | nil=>intro n C _ hC;exact hC
  | cons x r ih =>
   intro n C hl hC
   have:=ih (n+1) (stepC h C x) (fun y hy=>hl y (List.mem_cons_of_mem _ hy)) (stepC_fine hC (hl x (List.mem_cons_self ..)))
   rw [List.length_cons,show n+(r.length+1)=n+1+r.length by omega]
   exact this
 have:=this l 0 [] hP (by intro c hc;simp at hc)
 rw [Nat.zero_add] at this
 exact this
def ClPost (C:List (List Nd)) (w:World) (e:Ending) (w':World):Prop:=∃ (a:Option Addr) (cp:Nat),e=.returned (.slice a C.length cp)∧LL w' a C.length C∧Ex w w'
theorem OwnQ.cast {base:Nat} {w w':World} {v:Value} {qs:List Hdr} {C:List (List Nd)} (h:OwnQ base w v qs C) (e:w'=w):OwnQ base w' v qs C:=e▸h
def ClRel (l:List Nd) (h:Int) (n:Nat) (w1:World) (o i:Value) (wr:World):Prop :=
 ∃ (k:Nat) (qs:List Hdr),k≤n∧i=.int .i64 k∧OwnQ w1.heap.size wr o qs (foldC h (l.take k))∧Ex w1 wr
theorem classesN_big {l:List Nd} {h:Int} (hh:16<h):classesN l h=[]:=by unfold classesN;rw [if_pos hh]
theorem classesN_fold {l:List Nd} {h:Int} (hh:¬ 16<h):classesN l h=foldC h l:=by unfold classesN;rw [if_neg hh];rfl
set_option maxHeartbeats 1000000 in
theorem tz32_core (x k idx:Nat) (w:World) (hx0:((x:Int)==0)=false)
  (key:bits BinOp.and IntKind.u32 (x:Int) (-(x:Int) % 4294967296)*125613361 % 4294967296 / 134217728=(idx:Int))
  (hi:idx<32) (hcell:w.cell? ⟨1,idx,none⟩=some (.int .u8 k)) (_hk:k<32) :
  Calls Tryz.prog 198 #[.int .u32 x] w fun e w'=>e=.returned (.int .i64 k)∧w=w':=by
 go_enter Tryz.func198,Tryz.ntmps198
 go_wp2_with (simp only [key])
 go_ret
 exact ⟨rfl,rfl⟩
theorem tz32_zero (w:World):Calls Tryz.prog 198 #[.int .u32 0] w fun e w'=>e=.returned (.int .i64 32)∧w=w':=by
 go_enter Tryz.func198,Tryz.ntmps198
 go_wp2
 go_ret
 exact ⟨rfl,rfl⟩
theorem tz32 (x:Nat) (hx:x<4294967296) (w:World) (hT:TabG w) :
  Calls Tryz.prog 198 #[.int .u32 x] w fun e w'=>e=.returned (.int .i64 (Lib.ctz 32 x))∧w=w':=by
 by_cases hx0:x=0
 ·subst hx0
  exact tz32_zero w
 ·obtain ⟨hlow,hk⟩:=Lib.lowest_bit 32 x hx0 hx
  obtain ⟨hi,htab⟩:=Lib.deBruijn32_at _ hk
  have hcell:=hT _ hi
  rw [htab] at hcell
  exact tz32_core x _ _ w (by simp;omega) (tz32_keyn x _ hx hx0 hlow) hi hcell hk
set_option maxHeartbeats 1000000 in
theorem common_p (a b:Nat) (w:World) (ha:a<4294967296) (hb:b<4294967296) (hT:TabG w) :
  Calls Tryz.prog 178 #[.int .u32 a,.int .u32 b] w fun e w'=>e=.returned (.int .i64 (commonN a b))∧w=w':=by
 have hx:=bits_xor_u32n a b ha hb
 have HT:=lH hT
 clear hT
 by_cases h16:Lib.ctz 32 (a ^^^ b)≤16
 ·have HC:Hid (commonN a b=Lib.ctz 32 (a ^^^ b)):=Nat.min_eq_left h16
  generalize hk:Lib.ctz 32 (a ^^^ b)=k at *
  have HK:=lH hk
  clear hk
  go_enter Tryz.func178,Tryz.ntmps178
  go_wp2_with fail
  refine (tz32 _ (xor_lt ha hb) _ HT.out).mono ?_
  rintro e w1 ⟨rfl,rfl⟩
  rw [HK.out]
  go_wp2_with fail
  go_ret
  exact ⟨by rw [HC.out];first | rfl | exact congrArg (fun z=>Ending.returned (Value.int .i64 z)) (by omega:min (k:Int) 16=(k:Int)),rfl⟩
 ·have HC:Hid (commonN a b=16):=Nat.min_eq_right (by omega)
  generalize hk:Lib.ctz 32 (a ^^^ b)=k at *
  have HK:=lH hk
  clear hk
  go_enter Tryz.func178,Tryz.ntmps178
  go_wp2_with fail
  refine (tz32 _ (xor_lt ha hb) _ HT.out).mono ?_
  rintro e w1 ⟨rfl,rfl⟩
  rw [HK.out]
  go_wp2_with fail
  go_ret
  exact ⟨by rw [HC.out];first | rfl | exact congrArg (fun z=>Ending.returned (Value.int .i64 z)) (by omega:min (k:Int) 16=((16:Nat):Int)),rfl⟩
set_option maxHeartbeats 1000000 in
theorem same_p (a b:Nat) (h:Int) (w:World) (ha:a<4294967296) (hb:b<4294967296) (hT:TabG w) :
  Calls Tryz.prog 146 #[.int .u32 a,.int .u32 b,.int .i64 h] w fun e w'=>e=.returned (.bool (sameN a b h))∧w=w':=by
 have HT:=lH hT
 clear hT
 go_enter Tryz.func146,Tryz.ntmps146
 go_wp2_with fail
 refine (common_p _ _ _ ha hb HT.out).mono ?_
 rintro e w1 ⟨rfl,rfl⟩
 go_wp2_with fail
 go_ret
 exact ⟨rfl,rfl⟩
theorem same_pE (a b:Nat) (h:Int) (w:World) (ha:a<4294967296) (hb:b<4294967296) (hT:TabG w) :
  Calls Tryz.prog 146 #[.int .u32 a,.int .u32 b,.int .i64 h] w fun e w'=>e=.returned (.bool (sameN a b h))∧Ex w w' :=
 (same_p a b h w ha hb hT).mono fun _ _ h=>⟨h.1,by rw [← h.2];exact Ex.refl _⟩
set_option maxHeartbeats 1000000 in
theorem cls1_p (a:Option Addr) (n cp gx gh:Nat) (c:List Nd) (id:Int) (key:ByteArray) (v:Nat) (h:Int) (w:World) (hr:Sl 3 encN w a n c) (hc:0<n) (hn:n≤1000000) (hcw:∀ y∈c,y.word<4294967296) (hv:v<4294967296)
  (hx:Blk w gx [.int .i64 id,.string key,.int .u32 v] 60) (hh:Blk w gh [.int .i64 h] 3) (hT:TabG w) :
  Calls Tryz.prog 201 #[.slice a n cp,.pointer (some ⟨gx,0,none⟩),.pointer (some ⟨gh,0,none⟩)] w fun e w'=>e=.returned (.bool (sameN (headW c) v h))∧Ex w w':=by
 obtain ⟨x1,o1,y,rfl,hx1,hy,hc1⟩:=hr.at hc
 have e2:w.cell? ⟨x1,o1+2,none⟩=some (.int .u32 y.word):=by simpa using hc1 2 _ rfl
 have f2:=hx.cell 2 _ rfl
 have f0:=hh.cell 0 _ rfl
 have lx:=hx.lt
 have lh:=hh.lt
 have hyw:=hcw y (List.mem_of_getElem? hy)
 have hW:headW c=y.word:=by
  cases c with
  | nil=>simp at hy
  | cons z r=>simp at hy;subst hy;rfl
 have HT:=lH hT
 rw [hW]
 clear hW hc1 hy hr hcw hx hh hT
 go_enter Tryz.func201,Tryz.ntmps201
 go_wp2_with fail
 refine wp_region_held_drew (S:=Ex w.drew) (by kernel_rfl) (Ex.refl _) (fun hHeld=>?_)
 refine tkH 0 (v:=?_) rfl (by kernel_rfl) (fun _ _ _ h=>h) (by rfl) ?hyr1x0 (by assumption) ?restr1x0
 case hyr1x0=>intro wq hSw;(go_simp);(try with_reducible rfl)
 refine tkH 1 (v:=?_) rfl (by kernel_rfl) (fun _ _ _ h=>h) (by rfl) ?hyr1x1 (by assumption) ?restr1x1
 case hyr1x1=>intro wq hSw;(go_simp);(try with_reducible rfl)
 refine tkH 2 (v:=?_) rfl (by kernel_rfl) (fun _ _ _ h=>h) (by rfl) ?hyr1x2 (by assumption) ?restr1x2
 case hyr1x2=>intro wq hSw;(go_simp);(try with_reducible rfl)
 refine tkH 3 (v:=?_) rfl (by kernel_rfl) (fun _ _ _ h=>h) (by rfl) ?hyr1x3 (by assumption) ?restr1x3
 case hyr1x3=>intro wq hSw;(have cq:=Chg.cellv hSw e2 hx1;go_simp);(try with_reducible rfl)
 refine tkH 4 (v:=?_) rfl (by kernel_rfl) (fun _ _ _ h=>h) (by rfl) ?hyr1x4 (by assumption) ?restr1x4
 case hyr1x4=>intro wq hSw;(go_simp);(try with_reducible rfl)
 refine tkH 5 (v:=?_) rfl (by kernel_rfl) (fun _ _ _ h=>h) (by rfl) ?hyr1x5 (by assumption) ?restr1x5
 case hyr1x5=>intro wq hSw;(have cq:=Chg.cellv hSw f2 lx;go_simp);(try with_reducible rfl)
 refine tkH 6 (v:=?_) rfl (by kernel_rfl) (fun _ _ _ h=>h) (by rfl) ?hyr1x6 (by assumption) ?restr1x6
 case hyr1x6=>intro wq hSw;(have cq:=Chg.cellv hSw f0 lh;go_simp);(try with_reducible rfl)
 refine wpAnyH_ready (rs:=[7]) (by kernel_rfl) (by simp) ?_
 refine AllReadyH.cons (o:=⟨_,_,_,_,_,_⟩) rfl (fun K hK=>?_) AllReadyH.nil
 go_simp
 (with_reducible refine (same_pE _ _ _ _ hyw hv (HT.out.nx (Ex.refl w).drew)).mono ?_)
 rintro e v1 ⟨rfl,kk⟩
 refine hK.out _ _ kk (fun _=>?_)
 clear hK K
 refine wpAnyH_switch (S':=Ex v1) (fun _ hSw=>Ex.nx kk hSw) ?_
 clear hHeld
 have hHeld:=Ex.refl v1
 refine tkH 8 (v:=?_) rfl (by kernel_rfl) (fun _ _ _ h=>h) (by rfl) ?hyr1x8 (by assumption) ?restr1x8
 case hyr1x8=>intro wq hSw;(go_simp);(try with_reducible rfl)
 refine wpAnyH_done (by kernel_rfl) ?_ _
 go_wp2_with fail
 go_ret
 exact ⟨rfl,(Ex.refl w).drew.nx kk⟩
set_option maxHeartbeats 1000000 in
theorem idx_p (a:Option Addr) (n cp gx gh:Nat) (C:List (List Nd)) (id:Int) (key:ByteArray) (v:Nat) (h:Int) (w:World) (hr:LL w a n C) (hn:n≤1000000) (hC:GoodC C) (hv:v<4294967296)
  (hx:Blk w gx [.int .i64 id,.string key,.int .u32 v] 60) (hh:Blk w gh [.int .i64 h] 3) (hT:TabG w) :
  Calls Tryz.prog 200 #[.slice a n cp,.func (.func 201) #[] #[.pointer (some ⟨gx,0,none⟩),.pointer (some ⟨gh,0,none⟩)]] w
   fun e w'=>e=.returned (.int .i64 (idxV C v h))∧Ex w w':=by
 have HL:=lH hr.len
 have HC:=lH hC
 have HT:=lH hT
 have HX:=lH hx
 have HH:=lH hh
 clear hC hT hx hh
 go_enter Tryz.func200,Tryz.ntmps200
 go_wp2_with fail
 go_loopw [8] (fun i wr=>IdxRel n C v h w i wr) (fun i _=>n-(intOf i).toNat)
 case atStart=>exact ⟨0,by omega,rfl,Ex.refl _,by intro _ _ h;omega⟩
 case round =>
  obtain ⟨k,hk,rfl,kw,hno⟩:=hrel
  have HNO:=lH hno
  clear hno
  obtain ⟨wo,rfl⟩:∃ wo:World,wo=wr:=⟨_,rfl⟩
  by_cases hlt:k<n
  ·obtain ⟨x1,o1,b1,m1,d1,c,rfl,hx1,hy,hc1,r1⟩:=(hr.nx kw).at hlt
   obtain ⟨p1,p2,p3⟩:=HC.out c (List.mem_of_getElem? hy)
   rw [r1.len] at p1 p2
   have HY:=lH hy
   have P3:=lH p3
   clear hy hr hx1 p3
   go_wp2_with fail
   (with_reducible refine (cls1_p _ _ _ _ _ _ _ _ _ _ _ r1 p1 p2 P3.out hv (HX.out.nx kw) (HH.out.nx kw) (HT.out.nx kw)).mono ?_)
   rintro e w2 ⟨rfl,kk⟩
   replace kw:=kw.nx kk
   clear kk hc1 r1
   cases hs:sameN (headW c) v h with
   | true =>
    have HI:Hid (idxV C v h=k):=lH (by unfold idxV;rw [idxC_of HY.out hs HNO.out,if_pos (by rw [HL.out];exact hlt)])
    clear hs
    go_wp2_with fail
    go_ret
    exact ⟨by rw [HI.out];rfl,kw⟩
   | false =>
    have HS:=lH hs
    clear hs
    go_wp2_with fail
    refine ⟨⟨k+1,by omega,by go_num,kw,fun j c' hj hc'=>?_⟩,by simp [intOf];omega⟩
    rcases Nat.lt_or_ge j k with h | h
    ·exact HNO.out j c' h hc'
    ·obtain rfl:j=k:=by omega
     rw [Option.some.inj (hc'.symm.trans HY.out)]
     exact HS.out
  ·obtain rfl:k=n:=by omega
   have HI:Hid (idxV C v h = -1):=lH (by unfold idxV;rw [idxC_none (fun j c hj hc=>HNO.out j c (by rw [← HL.out];exact hj) hc),if_neg (by omega)])
   clear hr hk hlt
   go_wp2_with fail
   go_ret
   exact ⟨by rw [HI.out];rfl,kw⟩
set_option maxRecDepth 100000 in
set_option maxHeartbeats 4000000 in
theorem classes_p (a:Option Addr) (n cp:Nat) (l:List Nd) (h:Int) (w:World) (hs:Sl 3 encN w a n l) (hn:n≤1000) (hw:∀ x∈l,x.word<4294967296) (hT:TabG w) :
  Calls Tryz.prog 180 #[.slice a n cp,.int .i64 h] w (ClPost (classesN l h) w):=by
 have HL:=lH hs.len
 have hs:=lH hs
 have HW:=lH hw
 have HT:=lH hT
 have k1:=Ex.new w (.cells #[.int .i64 h] 3)
 have BH:=Blk.new w [.int .i64 h] 3
 obtain ⟨w1,hw1⟩:∃ w1,w1=w.alloc (.cells #[.int .i64 h] 3):=⟨_,rfl⟩
 obtain ⟨gh,hgh⟩:∃ gh,gh=w.heap.size:=⟨_,rfl⟩
 have BH:Blk w1 gh [.int .i64 h] 3:=by rw [hw1,hgh];exact BH
 rw [← hw1] at k1
 have HW1:=lH hw1
 have HGH:=lH hgh
 have HK1:=lH k1
 have c0:=BH.cell 0 _ rfl
 clear hw hT hw1 hgh k1
 go_enter Tryz.func180,Tryz.ntmps180
 go_upto_region 1 with fail
 rw [← HGH.out,← HW1.out]
 by_cases h16:16<h
 ·have HC:Hid (classesN l h=[]):=lH (classesN_big h16)
  clear BH
  go_wp2_with fail
  go_ret
  exact ⟨none,0,by rw [HC.out];rfl,by rw [HC.out];exact LL.nil _ _,HK1.out⟩
 have HF:=lH (classesN_fold (l:=l) h16)
 have BH:=lH BH
 go_wp2_with fail
 go_loopw [5,13] (fun o i wr=>ClRel l h n w1 o i wr) (fun _ i _=>n-(intOf i).toNat)
 case atStart=>exact ⟨0,[],by omega,rfl,OwnQ.nil _ _,Ex.refl _⟩
 case round =>
  obtain ⟨k,qs,hk,rfl,OQ,kx⟩:=hrel
  obtain ⟨wo,rfl⟩:∃ wo:World,wo=wr:=⟨_,rfl⟩
  by_cases hlt:k<n
  ·obtain ⟨x1,o1,y,rfl,hx1,hy,hc1⟩:=(hs.out.nx (HK1.out.nx kx)).at hlt
   have e0:wo.cell? ⟨x1,o1+k*3,none⟩=some (.int .i64 y.id):=hc1 0 _ rfl
   have e1:wo.cell? ⟨x1,o1+k*3+1,none⟩=some (.string y.key):=hc1 1 _ rfl
   have e2:wo.cell? ⟨x1,o1+k*3+1+1,none⟩=some (.int .u32 y.word):=by simpa [Nat.add_assoc] using hc1 2 _ rfl
   have e2':wo.cell? ⟨x1,o1+k*3+2,none⟩=some (.int .u32 y.word):=hc1 2 _ rfl
   have hyw:=HW.out y (List.mem_of_getElem? hy)
   have FSn:=lH (foldC_snoc h l k y hy)
   have hFL:(foldC h (l.take k)).length≤k:=Nat.le_trans (foldC_length h (l.take k)) (by rw [List.length_take];omega)
   have FF:Hid (Fine 100000 (fun y=>y.word<4294967296) (foldC h (l.take k))):=lH (fun c hc=>by
    have:=foldC_fine (h:=h) (l.take k) (P:=fun y=>y.word<4294967296) (fun y hy=>HW.out y (List.mem_of_mem_take hy)) c hc
    exact ⟨this.1,Nat.le_trans this.2.1 (by rw [List.length_take];omega),this.2.2⟩)
   generalize foldC h (l.take k)=C at OQ FSn hFL FF
   clear hc1 hy
   have B7:=Blk.new wo [.int .i64 y.id,.string y.key,.int .u32 y.word] 60
   have k2:=Ex.new wo (.cells #[.int .i64 y.id,.string y.key,.int .u32 y.word] 60)
   obtain ⟨w2,hw2⟩:∃ w2,w2=wo.alloc (.cells #[.int .i64 y.id,.string y.key,.int .u32 y.word] 60):=⟨_,rfl⟩
   obtain ⟨g7,hg7⟩:∃ g7,g7=wo.heap.size:=⟨_,rfl⟩
   have B7:Blk w2 g7 [.int .i64 y.id,.string y.key,.int .u32 y.word] 60:=by rw [hw2,hg7];exact B7
   rw [← hw2] at k2
   have HW2:=lH hw2
   have HG7:=lH hg7
   replace OQ:=OQ.nx k2
   replace kx:=kx.nx k2
   obtain ⟨a3,cap3,rfl,ll3,hc3,_,_⟩:=OQ.ll
   clear hw2 hg7 k2 c0
   go_upto_region 7 with fail
   rw [← HG7.out,← HW2.out]
   clear e0 e1 e2 e2'
   go_wp2_with fail
   have hGood:GoodC C:=fun c hc=>⟨(FF.out c hc).1,Nat.le_trans (FF.out c hc).2.1 (by omega),(FF.out c hc).2.2⟩
   (with_reducible refine (idx_p _ _ _ _ _ _ _ _ _ _ _ ll3 (by omega) hGood hyw B7 (BH.out.nx kx) (HT.out.nx (HK1.out.nx kx))).mono ?_)
   rintro e w3 ⟨rfl,kk⟩
   replace OQ:=OQ.nx kk
   replace kx:=kx.nx kk
   replace B7:=lH (B7.nx kk)
   obtain ⟨KX,hKX⟩:∃ KX,KX=idxC C y.word h:=⟨_,rfl⟩
   have KI:=lH hKX.symm
   have hKle:KX≤C.length:=by rw [hKX];exact idxC_le _ _ _
   clear kk ll3 hGood
   by_cases hKn:KX=C.length
   ·have IV:idxV C y.word h = -1:=by unfold idxV;rw [← hKX,if_neg (by omega)]
    rw [IV]
    have lq:qs.length≤1000000:=by rw [OQ.2.1];omega
    have zq:=kx.size
    clear hKX IV
    go_upto_region 11 with (at_builtin;(refine wpList_append_lit (enc:=encH) w3 rfl _ _ 205 rfl w1.heap.size 23 (.slice none 0 0) 1 24 Tryz.underlying205 Tryz.infoH rfl (by omega) (by omega) _ _ OQ.1 rfl ((none,0,0):Hdr) _ rfl rfl (by simp [encH,Hdr.val,Value.oneCell']) _ (by simp) rfl lq (by omega) _ ?_);intro vp wp ownp ch0 ch1 _)
    have B7:=lH (B7.out.chg ch0 ⟨B7.out.lt,OQ.ne_blk B7.out⟩)
    have OQ:=OQ.pad ownp ch0
    replace kx:Ex w1 wp:=Chg.trans kx ch1
    obtain ⟨C',hC'⟩:∃ C':List (List Nd),C'=C++[[]]:=⟨_,rfl⟩
    rw [← hC'] at OQ
    have CL:C'.length=C.length+1:=by rw [hC'];simp
    have EC:Hid (C'=padC C KX):=lH (by unfold padC;rw [if_pos (by omega),hC'])
    have CLEN:Hid (∀ c∈C',c.length≤1000000):=lH (fun c hc=>by
     rw [hC'] at hc
     rcases List.mem_append.1 hc with h1 | h1
     ·exact Nat.le_trans (FF.out c h1).2.1 (by omega)
     ·rw [List.mem_singleton.1 h1];simp)
    generalize (qs++[((none,0,0):Hdr)])=qs at OQ
    obtain ⟨wa,rfl⟩:∃ wa:World,wa=wp:=⟨_,rfl⟩
    have hKC:KX<C'.length:=by omega
    have NL:Hid (C'.length≤1000001):=lH (by omega)
    clear hC' CL ownp ch0 ch1
    rw [← hKn]
    clear hKn
    obtain ⟨a4,cap4,he4,ll4,_,_,some4⟩:=OQ.ll
    cases he4
    obtain ⟨g4,e4,hg4⟩:=some4 (by intro h0;rw [h0] at hKC;simp at hKC)
    first | subst e4 | (obtain rfl:g4=g3:=by cases e4;rfl)
    obtain ⟨c,hc⟩:∃ c,C'[KX]?=some c:=⟨C'[KX]'hKC,by simp⟩
    obtain ⟨⟨qa,qn,qc⟩,hq⟩:∃ q:Hdr,qs[KX]?=some q:=⟨qs[KX]'(by rw [OQ.2.1];exact hKC),by simp⟩
    have hcl:c.length≤1000000:=CLEN.out c (List.mem_of_getElem? hc)
    obtain ⟨cy,hcy⟩:∃ cy:List Nd,cy=c++[y]:=⟨_,rfl⟩
    have FIN:Hid (stepC h C y=C'.set KX cy):=lH (by unfold stepC;rw [KI.out,← EC.out,hc,hcy];rfl)
    have HCY:=lH hcy
    clear hcy
    have HQ:=lH hq
    have HCC:=lH hc
    have hn4:(KX:Int)<(C'.length:Int):=by omega
    have hn5:C'.length≤1000001:=NL.out
    clear hc hq ll4 some4
    go_wp2_with fail
    have OQ:=lH (OQ.nx (Ex.refl wa).drew)
    have kx:=kx.nx (Ex.refl wa).drew
    have SXF:∀ cur:World,Sl 3 encN (cur.alloc (.cells #[.int .i64 y.id,.string y.key,.int .u32 y.word] 60)) (some ⟨cur.heap.size,0,none⟩) 1 [y]:=fun cur=>Sl.lit _ rfl rfl (fun _=>rfl) rfl
    refine wp_region_held_drew (S:=fun _=>True) (by kernel_rfl) (trivial) (fun hHeld=>?_)
    refine tkH 0 (v:=?_) rfl (by kernel_rfl) (fun _ _ _ h=>h) (by rfl) ?y1x0q1 (by assumption) ?z1x0q1
    case y1x0q1=>intro wq hSw;(go_simp);(try with_reducible rfl)
    refine tkH 1 (v:=?_) rfl (by kernel_rfl) (fun _ _ _ h=>h) (by rfl) ?y1x1q4 (by assumption) ?z1x1q4
    case y1x1q4=>intro wq hSw;(go_simp);(try with_reducible rfl)
    refine tkH 2 (v:=?_) rfl (by kernel_rfl) (fun _ _ _ h=>h) (by rfl) ?y1x2q7 (by assumption) ?z1x2q7
    case y1x2q7=>intro wq hSw;(go_simp);(try with_reducible rfl)
    refine tkH 3 (v:=?_) rfl (by kernel_rfl) (fun _ _ _ h=>h) (by rfl) ?y1x3q10 (by assumption) ?z1x3q10
    case y1x3q10=>intro wq hSw;(go_simp);(try with_reducible rfl)
    refine tkH 4 (v:=?_) rfl (by kernel_rfl) (fun _ _ _ h=>h) (by rfl) ?y1x4q13 (by assumption) ?z1x4q13
    case y1x4q13=>intro wq hSw;(go_simp);(try with_reducible rfl)
    refine wpAnyH_ready (rs:=[5,6]) (by kernel_rfl) (by simp) ?_
    refine AllReadyH.cons (o:=⟨_,_,_,_,_,_⟩) rfl (fun K hK=>?_) ?_
    ·have cc:=(own_cellH OQ.out.1 HQ.out).1
     simp only [Hdr.val] at cc
     (try have cc2:(wa.alloc (.cells #[.int .i64 y.id,.string y.key,.int .u32 y.word] 60)).cell? ⟨g4,KX,none⟩=some (.slice qa qn qc):=cc)
     go_simp
     clear cc
     (try clear cc2)
     refine hK.out _ _ (trivial) (fun hHeld=>?_)
     clear hK K
     refine wpAnyH_ready (rs:=[6]) (by kernel_rfl) (by simp) ?_
     refine AllReadyH.cons (o:=⟨_,_,_,_,_,_⟩) rfl (fun K hK=>?_) AllReadyH.nil
     have b0:=B7.out.cell 0 _ rfl
     have b1:=B7.out.cell 1 _ rfl
     have b2:=B7.out.cell 2 _ rfl
     go_simp
     clear b0 b1 b2
     refine hK.out _ _ (trivial) (fun hHeld=>?_)
     clear hK K
     refine wpAnyH_ready (rs:=[7]) (by kernel_rfl) (by simp) ?_
     refine AllReadyH.cons (o:=⟨_,_,_,_,_,_⟩) rfl (fun K hK=>?_) AllReadyH.nil
     go_simp
     have SX:=SXF wa.drew
     have e7:=Ex.new wa.drew (.cells #[.int .i64 y.id,.string y.key,.int .u32 y.word] 60)
     replace OQ:=lH (OQ.out.nx e7)
     replace kx:=kx.nx e7
     clear e7
     refine hK.out _ _ (trivial) (fun hHeld=>?_)
     clear hK K
     refine wpAnyH_ready (rs:=[8]) (by kernel_rfl) (by simp) ?_
     refine AllReadyH.cons (o:=⟨_,_,_,_,_,_⟩) rfl (fun K hK=>?_) AllReadyH.nil
     rw [if_pos (by rfl)]
     have z0:=Ex.size kx
     have oi:=OQ.out.2.2.1 KX _ _ HQ.out HCC.out
     refine wp_append_rda (enc:=encN) _ (.tmp 32) (.tmp 34) 23 rfl w1.heap.size 60 (.agg #[.int .i64 0,.string ByteArray.empty,.int .u32 0]) 3 32 Tryz.underlying23 Tryz.infoN rfl (by omega) (by omega) _ c oi rfl _ _ 1 1 [y] SX (fun h=>by cases h) (fun _=>rfl) (by simp [encN,Value.oneCell']) rfl (by omega) (by omega) z0 ?_
     intro v8 w8 own8 ch0 ch1 hat
     rw [← HCY.out] at own8
     obtain ⟨a8,cap8,rfl,_,_,_,_⟩:=own8.rd (fun _=>rfl)
     obtain ⟨pc,pf,OQ2⟩:=OwnQ.put (q':=(a8,cy.length,cap8)) OQ.out HQ.out own8 ch0 hat
     replace kx:Ex w1 w8:=Chg.trans kx ch1
     replace OQ:=lH OQ2
     clear OQ2 own8 ch0 ch1 hat oi z0 SX
     refine hK.out _ _ (trivial) (fun hHeld=>?_)
     clear hK K
     refine tkH 9 (v:=?_) rfl (by kernel_rfl) (fun _ _ _ h=>h) (by rfl) ?y1x9q64 (by assumption) ?z1x9q64
     case y1x9q64=>intro wq hSw;(go_simp);(try with_reducible rfl)
     refine wpAnyH_ready (rs:=[10]) (by kernel_rfl) (by simp) ?_
     refine AllReadyH.cons (o:=⟨_,_,_,_,_,_⟩) rfl (fun K hK=>?_) AllReadyH.nil
     go_simp
     clear pc pf
     refine hK.out _ _ (trivial) (fun hHeld=>?_)
     clear hK K
     refine wpAnyH_done (by kernel_rfl) ?_ _
     replace kx:=kx.setNew (p:=⟨g4,KX,none⟩) (Hdr.val (a8,cy.length,cap8)) hg4
     obtain ⟨wz,hwz⟩:∃ wz,wz=w8.setCell ⟨g4,KX,none⟩ (.slice a8 cy.length cap8):=⟨_,rfl⟩
     have OQ:=lH (OwnQ.cast OQ.out (w':=wz) hwz)
     have kx:Ex w1 wz:=by rw [hwz];exact kx
     rw [← hwz]
     clear hwz SXF hHeld hn5 hcl
     go_wp2_with fail
     exact ⟨⟨k+1,_,by omega,by go_num,by rw [FSn.out,FIN.out];exact OQ.out,kx⟩,by simp [intOf];omega⟩
    refine AllReadyH.cons (o:=⟨_,_,_,_,_,_⟩) rfl (fun K hK=>?_) AllReadyH.nil
    ·have b0:=B7.out.cell 0 _ rfl
     have b1:=B7.out.cell 1 _ rfl
     have b2:=B7.out.cell 2 _ rfl
     go_simp
     clear b0 b1 b2
     refine hK.out _ _ (trivial) (fun hHeld=>?_)
     clear hK K
     refine wpAnyH_ready (rs:=[5,7]) (by kernel_rfl) (by simp) ?_
     refine AllReadyH.cons (o:=⟨_,_,_,_,_,_⟩) rfl (fun K hK=>?_) ?_
     ·have cc:=(own_cellH OQ.out.1 HQ.out).1
      simp only [Hdr.val] at cc
      (try have cc2:(wa.alloc (.cells #[.int .i64 y.id,.string y.key,.int .u32 y.word] 60)).cell? ⟨g4,KX,none⟩=some (.slice qa qn qc):=cc)
      go_simp
      clear cc
      (try clear cc2)
      refine hK.out _ _ (trivial) (fun hHeld=>?_)
      clear hK K
      refine wpAnyH_ready (rs:=[7]) (by kernel_rfl) (by simp) ?_
      refine AllReadyH.cons (o:=⟨_,_,_,_,_,_⟩) rfl (fun K hK=>?_) AllReadyH.nil
      go_simp
      have SX:=SXF wa.drew
      have e7:=Ex.new wa.drew (.cells #[.int .i64 y.id,.string y.key,.int .u32 y.word] 60)
      replace OQ:=lH (OQ.out.nx e7)
      replace kx:=kx.nx e7
      clear e7
      refine hK.out _ _ (trivial) (fun hHeld=>?_)
      clear hK K
      refine wpAnyH_ready (rs:=[8]) (by kernel_rfl) (by simp) ?_
      refine AllReadyH.cons (o:=⟨_,_,_,_,_,_⟩) rfl (fun K hK=>?_) AllReadyH.nil
      rw [if_pos (by rfl)]
      have z0:=Ex.size kx
      have oi:=OQ.out.2.2.1 KX _ _ HQ.out HCC.out
      refine wp_append_rda (enc:=encN) _ (.tmp 32) (.tmp 34) 23 rfl w1.heap.size 60 (.agg #[.int .i64 0,.string ByteArray.empty,.int .u32 0]) 3 32 Tryz.underlying23 Tryz.infoN rfl (by omega) (by omega) _ c oi rfl _ _ 1 1 [y] SX (fun h=>by cases h) (fun _=>rfl) (by simp [encN,Value.oneCell']) rfl (by omega) (by omega) z0 ?_
      intro v8 w8 own8 ch0 ch1 hat
      rw [← HCY.out] at own8
      obtain ⟨a8,cap8,rfl,_,_,_,_⟩:=own8.rd (fun _=>rfl)
      obtain ⟨pc,pf,OQ2⟩:=OwnQ.put (q':=(a8,cy.length,cap8)) OQ.out HQ.out own8 ch0 hat
      replace kx:Ex w1 w8:=Chg.trans kx ch1
      replace OQ:=lH OQ2
      clear OQ2 own8 ch0 ch1 hat oi z0 SX
      refine hK.out _ _ (trivial) (fun hHeld=>?_)
      clear hK K
      refine tkH 9 (v:=?_) rfl (by kernel_rfl) (fun _ _ _ h=>h) (by rfl) ?y1x9q123 (by assumption) ?z1x9q123
      case y1x9q123=>intro wq hSw;(go_simp);(try with_reducible rfl)
      refine wpAnyH_ready (rs:=[10]) (by kernel_rfl) (by simp) ?_
      refine AllReadyH.cons (o:=⟨_,_,_,_,_,_⟩) rfl (fun K hK=>?_) AllReadyH.nil
      go_simp
      clear pc pf
      refine hK.out _ _ (trivial) (fun hHeld=>?_)
      clear hK K
      refine wpAnyH_done (by kernel_rfl) ?_ _
      replace kx:=kx.setNew (p:=⟨g4,KX,none⟩) (Hdr.val (a8,cy.length,cap8)) hg4
      obtain ⟨wz,hwz⟩:∃ wz,wz=w8.setCell ⟨g4,KX,none⟩ (.slice a8 cy.length cap8):=⟨_,rfl⟩
      have OQ:=lH (OwnQ.cast OQ.out (w':=wz) hwz)
      have kx:Ex w1 wz:=by rw [hwz];exact kx
      rw [← hwz]
      clear hwz SXF hHeld hn5 hcl
      go_wp2_with fail
      exact ⟨⟨k+1,_,by omega,by go_num,by rw [FSn.out,FIN.out];exact OQ.out,kx⟩,by simp [intOf];omega⟩
     refine AllReadyH.cons (o:=⟨_,_,_,_,_,_⟩) rfl (fun K hK=>?_) AllReadyH.nil
     ·go_simp
      have SX:=SXF wa.drew
      have e7:=Ex.new wa.drew (.cells #[.int .i64 y.id,.string y.key,.int .u32 y.word] 60)
      replace OQ:=lH (OQ.out.nx e7)
      replace kx:=kx.nx e7
      clear e7
      refine hK.out _ _ (trivial) (fun hHeld=>?_)
      clear hK K
      refine wpAnyH_ready (rs:=[5]) (by kernel_rfl) (by simp) ?_
      refine AllReadyH.cons (o:=⟨_,_,_,_,_,_⟩) rfl (fun K hK=>?_) AllReadyH.nil
      have cc:=(own_cellH OQ.out.1 HQ.out).1
      simp only [Hdr.val] at cc
      (try have cc2:(wa.alloc (.cells #[.int .i64 y.id,.string y.key,.int .u32 y.word] 60)).cell? ⟨g4,KX,none⟩=some (.slice qa qn qc):=cc)
      go_simp
      clear cc
      (try clear cc2)
      refine hK.out _ _ (trivial) (fun hHeld=>?_)
      clear hK K
      refine wpAnyH_ready (rs:=[8]) (by kernel_rfl) (by simp) ?_
      refine AllReadyH.cons (o:=⟨_,_,_,_,_,_⟩) rfl (fun K hK=>?_) AllReadyH.nil
      rw [if_pos (by rfl)]
      have z0:=Ex.size kx
      have oi:=OQ.out.2.2.1 KX _ _ HQ.out HCC.out
      refine wp_append_rda (enc:=encN) _ (.tmp 32) (.tmp 34) 23 rfl w1.heap.size 60 (.agg #[.int .i64 0,.string ByteArray.empty,.int .u32 0]) 3 32 Tryz.underlying23 Tryz.infoN rfl (by omega) (by omega) _ c oi rfl _ _ 1 1 [y] SX (fun h=>by cases h) (fun _=>rfl) (by simp [encN,Value.oneCell']) rfl (by omega) (by omega) z0 ?_
      intro v8 w8 own8 ch0 ch1 hat
      rw [← HCY.out] at own8
      obtain ⟨a8,cap8,rfl,_,_,_,_⟩:=own8.rd (fun _=>rfl)
      obtain ⟨pc,pf,OQ2⟩:=OwnQ.put (q':=(a8,cy.length,cap8)) OQ.out HQ.out own8 ch0 hat
      replace kx:Ex w1 w8:=Chg.trans kx ch1
      replace OQ:=lH OQ2
      clear OQ2 own8 ch0 ch1 hat oi z0 SX
      refine hK.out _ _ (trivial) (fun hHeld=>?_)
      clear hK K
      refine tkH 9 (v:=?_) rfl (by kernel_rfl) (fun _ _ _ h=>h) (by rfl) ?y1x9q172 (by assumption) ?z1x9q172
      case y1x9q172=>intro wq hSw;(go_simp);(try with_reducible rfl)
      refine wpAnyH_ready (rs:=[10]) (by kernel_rfl) (by simp) ?_
      refine AllReadyH.cons (o:=⟨_,_,_,_,_,_⟩) rfl (fun K hK=>?_) AllReadyH.nil
      go_simp
      clear pc pf
      refine hK.out _ _ (trivial) (fun hHeld=>?_)
      clear hK K
      refine wpAnyH_done (by kernel_rfl) ?_ _
      replace kx:=kx.setNew (p:=⟨g4,KX,none⟩) (Hdr.val (a8,cy.length,cap8)) hg4
      obtain ⟨wz,hwz⟩:∃ wz,wz=w8.setCell ⟨g4,KX,none⟩ (.slice a8 cy.length cap8):=⟨_,rfl⟩
      have OQ:=lH (OwnQ.cast OQ.out (w':=wz) hwz)
      have kx:Ex w1 wz:=by rw [hwz];exact kx
      rw [← hwz]
      clear hwz SXF hHeld hn5 hcl
      go_wp2_with fail
      exact ⟨⟨k+1,_,by omega,by go_num,by rw [FSn.out,FIN.out];exact OQ.out,kx⟩,by simp [intOf];omega⟩
   ·have IV:idxV C y.word h=(KX:Int):=by unfold idxV;rw [← hKX,if_pos (by omega)]
    rw [IV]
    obtain ⟨wa,rfl⟩:∃ wa:World,wa=w3:=⟨_,rfl⟩
    have k0:(0:Int)≤(KX:Int):=by omega
    clear hKX IV
    have EC:Hid (C=padC C KX):=lH (by unfold padC;rw [if_neg (by omega)])
    have CLEN:Hid (∀ c∈C,c.length≤1000000):=lH (fun c hc=>Nat.le_trans (FF.out c hc).2.1 (by omega))
    have hKC:KX<C.length:=by omega
    have NL:Hid (C.length≤1000001):=lH (by omega)
    obtain ⟨a4,cap4,he4,ll4,_,_,some4⟩:=OQ.ll
    cases he4
    obtain ⟨g4,e4,hg4⟩:=some4 (by intro h0;rw [h0] at hKC;simp at hKC)
    first | subst e4 | (obtain rfl:g4=g3:=by cases e4;rfl)
    obtain ⟨c,hc⟩:∃ c,C[KX]?=some c:=⟨C[KX]'hKC,by simp⟩
    obtain ⟨⟨qa,qn,qc⟩,hq⟩:∃ q:Hdr,qs[KX]?=some q:=⟨qs[KX]'(by rw [OQ.2.1];exact hKC),by simp⟩
    have hcl:c.length≤1000000:=CLEN.out c (List.mem_of_getElem? hc)
    obtain ⟨cy,hcy⟩:∃ cy:List Nd,cy=c++[y]:=⟨_,rfl⟩
    have FIN:Hid (stepC h C y=C.set KX cy):=lH (by unfold stepC;rw [KI.out,← EC.out,hc,hcy];rfl)
    have HCY:=lH hcy
    clear hcy
    have HQ:=lH hq
    have HCC:=lH hc
    have hn4:(KX:Int)<(C.length:Int):=by omega
    have hn5:C.length≤1000001:=NL.out
    clear hc hq ll4 some4
    go_wp2_with fail
    have OQ:=lH (OQ.nx (Ex.refl wa).drew)
    have kx:=kx.nx (Ex.refl wa).drew
    have SXF:∀ cur:World,Sl 3 encN (cur.alloc (.cells #[.int .i64 y.id,.string y.key,.int .u32 y.word] 60)) (some ⟨cur.heap.size,0,none⟩) 1 [y]:=fun cur=>Sl.lit _ rfl rfl (fun _=>rfl) rfl
    refine wp_region_held_drew (S:=fun _=>True) (by kernel_rfl) (trivial) (fun hHeld=>?_)
    refine tkH 0 (v:=?_) rfl (by kernel_rfl) (fun _ _ _ h=>h) (by rfl) ?y2x0q1 (by assumption) ?z2x0q1
    case y2x0q1=>intro wq hSw;(go_simp);(try with_reducible rfl)
    refine tkH 1 (v:=?_) rfl (by kernel_rfl) (fun _ _ _ h=>h) (by rfl) ?y2x1q4 (by assumption) ?z2x1q4
    case y2x1q4=>intro wq hSw;(go_simp);(try with_reducible rfl)
    refine tkH 2 (v:=?_) rfl (by kernel_rfl) (fun _ _ _ h=>h) (by rfl) ?y2x2q7 (by assumption) ?z2x2q7
    case y2x2q7=>intro wq hSw;(go_simp);(try with_reducible rfl)
    refine tkH 3 (v:=?_) rfl (by kernel_rfl) (fun _ _ _ h=>h) (by rfl) ?y2x3q10 (by assumption) ?z2x3q10
    case y2x3q10=>intro wq hSw;(go_simp);(try with_reducible rfl)
    refine tkH 4 (v:=?_) rfl (by kernel_rfl) (fun _ _ _ h=>h) (by rfl) ?y2x4q13 (by assumption) ?z2x4q13
    case y2x4q13=>intro wq hSw;(go_simp);(try with_reducible rfl)
    refine wpAnyH_ready (rs:=[5,6]) (by kernel_rfl) (by simp) ?_
    refine AllReadyH.cons (o:=⟨_,_,_,_,_,_⟩) rfl (fun K hK=>?_) ?_
    ·have cc:=(own_cellH OQ.out.1 HQ.out).1
     simp only [Hdr.val] at cc
     (try have cc2:(wa.alloc (.cells #[.int .i64 y.id,.string y.key,.int .u32 y.word] 60)).cell? ⟨g4,KX,none⟩=some (.slice qa qn qc):=cc)
     go_simp
     clear cc
     (try clear cc2)
     refine hK.out _ _ (trivial) (fun hHeld=>?_)
     clear hK K
     refine wpAnyH_ready (rs:=[6]) (by kernel_rfl) (by simp) ?_
     refine AllReadyH.cons (o:=⟨_,_,_,_,_,_⟩) rfl (fun K hK=>?_) AllReadyH.nil
     have b0:=B7.out.cell 0 _ rfl
     have b1:=B7.out.cell 1 _ rfl
     have b2:=B7.out.cell 2 _ rfl
     go_simp
     clear b0 b1 b2
     refine hK.out _ _ (trivial) (fun hHeld=>?_)
     clear hK K
     refine wpAnyH_ready (rs:=[7]) (by kernel_rfl) (by simp) ?_
     refine AllReadyH.cons (o:=⟨_,_,_,_,_,_⟩) rfl (fun K hK=>?_) AllReadyH.nil
     go_simp
     have SX:=SXF wa.drew
     have e7:=Ex.new wa.drew (.cells #[.int .i64 y.id,.string y.key,.int .u32 y.word] 60)
     replace OQ:=lH (OQ.out.nx e7)
     replace kx:=kx.nx e7
     clear e7
     refine hK.out _ _ (trivial) (fun hHeld=>?_)
     clear hK K
     refine wpAnyH_ready (rs:=[8]) (by kernel_rfl) (by simp) ?_
     refine AllReadyH.cons (o:=⟨_,_,_,_,_,_⟩) rfl (fun K hK=>?_) AllReadyH.nil
     rw [if_pos (by rfl)]
     have z0:=Ex.size kx
     have oi:=OQ.out.2.2.1 KX _ _ HQ.out HCC.out
     refine wp_append_rda (enc:=encN) _ (.tmp 32) (.tmp 34) 23 rfl w1.heap.size 60 (.agg #[.int .i64 0,.string ByteArray.empty,.int .u32 0]) 3 32 Tryz.underlying23 Tryz.infoN rfl (by omega) (by omega) _ c oi rfl _ _ 1 1 [y] SX (fun h=>by cases h) (fun _=>rfl) (by simp [encN,Value.oneCell']) rfl (by omega) (by omega) z0 ?_
     intro v8 w8 own8 ch0 ch1 hat
     rw [← HCY.out] at own8
     obtain ⟨a8,cap8,rfl,_,_,_,_⟩:=own8.rd (fun _=>rfl)
     obtain ⟨pc,pf,OQ2⟩:=OwnQ.put (q':=(a8,cy.length,cap8)) OQ.out HQ.out own8 ch0 hat
     replace kx:Ex w1 w8:=Chg.trans kx ch1
     replace OQ:=lH OQ2
     clear OQ2 own8 ch0 ch1 hat oi z0 SX
     refine hK.out _ _ (trivial) (fun hHeld=>?_)
     clear hK K
     refine tkH 9 (v:=?_) rfl (by kernel_rfl) (fun _ _ _ h=>h) (by rfl) ?y2x9q64 (by assumption) ?z2x9q64
     case y2x9q64=>intro wq hSw;(go_simp);(try with_reducible rfl)
     refine wpAnyH_ready (rs:=[10]) (by kernel_rfl) (by simp) ?_
     refine AllReadyH.cons (o:=⟨_,_,_,_,_,_⟩) rfl (fun K hK=>?_) AllReadyH.nil
     go_simp
     clear pc pf
     refine hK.out _ _ (trivial) (fun hHeld=>?_)
     clear hK K
     refine wpAnyH_done (by kernel_rfl) ?_ _
     replace kx:=kx.setNew (p:=⟨g4,KX,none⟩) (Hdr.val (a8,cy.length,cap8)) hg4
     obtain ⟨wz,hwz⟩:∃ wz,wz=w8.setCell ⟨g4,KX,none⟩ (.slice a8 cy.length cap8):=⟨_,rfl⟩
     have OQ:=lH (OwnQ.cast OQ.out (w':=wz) hwz)
     have kx:Ex w1 wz:=by rw [hwz];exact kx
     rw [← hwz]
     clear hwz SXF hHeld hn5 hcl
     go_wp2_with fail
     exact ⟨⟨k+1,_,by omega,by go_num,by rw [FSn.out,FIN.out];exact OQ.out,kx⟩,by simp [intOf];omega⟩
    refine AllReadyH.cons (o:=⟨_,_,_,_,_,_⟩) rfl (fun K hK=>?_) AllReadyH.nil
    ·have b0:=B7.out.cell 0 _ rfl
     have b1:=B7.out.cell 1 _ rfl
     have b2:=B7.out.cell 2 _ rfl
     go_simp
     clear b0 b1 b2
     refine hK.out _ _ (trivial) (fun hHeld=>?_)
     clear hK K
     refine wpAnyH_ready (rs:=[5,7]) (by kernel_rfl) (by simp) ?_
     refine AllReadyH.cons (o:=⟨_,_,_,_,_,_⟩) rfl (fun K hK=>?_) ?_
     ·have cc:=(own_cellH OQ.out.1 HQ.out).1
      simp only [Hdr.val] at cc
      (try have cc2:(wa.alloc (.cells #[.int .i64 y.id,.string y.key,.int .u32 y.word] 60)).cell? ⟨g4,KX,none⟩=some (.slice qa qn qc):=cc)
      go_simp
      clear cc
      (try clear cc2)
      refine hK.out _ _ (trivial) (fun hHeld=>?_)
      clear hK K
      refine wpAnyH_ready (rs:=[7]) (by kernel_rfl) (by simp) ?_
      refine AllReadyH.cons (o:=⟨_,_,_,_,_,_⟩) rfl (fun K hK=>?_) AllReadyH.nil
      go_simp
      have SX:=SXF wa.drew
      have e7:=Ex.new wa.drew (.cells #[.int .i64 y.id,.string y.key,.int .u32 y.word] 60)
      replace OQ:=lH (OQ.out.nx e7)
      replace kx:=kx.nx e7
      clear e7
      refine hK.out _ _ (trivial) (fun hHeld=>?_)
      clear hK K
      refine wpAnyH_ready (rs:=[8]) (by kernel_rfl) (by simp) ?_
      refine AllReadyH.cons (o:=⟨_,_,_,_,_,_⟩) rfl (fun K hK=>?_) AllReadyH.nil
      rw [if_pos (by rfl)]
      have z0:=Ex.size kx
      have oi:=OQ.out.2.2.1 KX _ _ HQ.out HCC.out
      refine wp_append_rda (enc:=encN) _ (.tmp 32) (.tmp 34) 23 rfl w1.heap.size 60 (.agg #[.int .i64 0,.string ByteArray.empty,.int .u32 0]) 3 32 Tryz.underlying23 Tryz.infoN rfl (by omega) (by omega) _ c oi rfl _ _ 1 1 [y] SX (fun h=>by cases h) (fun _=>rfl) (by simp [encN,Value.oneCell']) rfl (by omega) (by omega) z0 ?_
      intro v8 w8 own8 ch0 ch1 hat
      rw [← HCY.out] at own8
      obtain ⟨a8,cap8,rfl,_,_,_,_⟩:=own8.rd (fun _=>rfl)
      obtain ⟨pc,pf,OQ2⟩:=OwnQ.put (q':=(a8,cy.length,cap8)) OQ.out HQ.out own8 ch0 hat
      replace kx:Ex w1 w8:=Chg.trans kx ch1
      replace OQ:=lH OQ2
      clear OQ2 own8 ch0 ch1 hat oi z0 SX
      refine hK.out _ _ (trivial) (fun hHeld=>?_)
      clear hK K
      refine tkH 9 (v:=?_) rfl (by kernel_rfl) (fun _ _ _ h=>h) (by rfl) ?y2x9q123 (by assumption) ?z2x9q123
      case y2x9q123=>intro wq hSw;(go_simp);(try with_reducible rfl)
      refine wpAnyH_ready (rs:=[10]) (by kernel_rfl) (by simp) ?_
      refine AllReadyH.cons (o:=⟨_,_,_,_,_,_⟩) rfl (fun K hK=>?_) AllReadyH.nil
      go_simp
      clear pc pf
      refine hK.out _ _ (trivial) (fun hHeld=>?_)
      clear hK K
      refine wpAnyH_done (by kernel_rfl) ?_ _
      replace kx:=kx.setNew (p:=⟨g4,KX,none⟩) (Hdr.val (a8,cy.length,cap8)) hg4
      obtain ⟨wz,hwz⟩:∃ wz,wz=w8.setCell ⟨g4,KX,none⟩ (.slice a8 cy.length cap8):=⟨_,rfl⟩
      have OQ:=lH (OwnQ.cast OQ.out (w':=wz) hwz)
      have kx:Ex w1 wz:=by rw [hwz];exact kx
      rw [← hwz]
      clear hwz SXF hHeld hn5 hcl
      go_wp2_with fail
      exact ⟨⟨k+1,_,by omega,by go_num,by rw [FSn.out,FIN.out];exact OQ.out,kx⟩,by simp [intOf];omega⟩
     refine AllReadyH.cons (o:=⟨_,_,_,_,_,_⟩) rfl (fun K hK=>?_) AllReadyH.nil
     ·go_simp
      have SX:=SXF wa.drew
      have e7:=Ex.new wa.drew (.cells #[.int .i64 y.id,.string y.key,.int .u32 y.word] 60)
      replace OQ:=lH (OQ.out.nx e7)
      replace kx:=kx.nx e7
      clear e7
      refine hK.out _ _ (trivial) (fun hHeld=>?_)
      clear hK K
      refine wpAnyH_ready (rs:=[5]) (by kernel_rfl) (by simp) ?_
      refine AllReadyH.cons (o:=⟨_,_,_,_,_,_⟩) rfl (fun K hK=>?_) AllReadyH.nil
      have cc:=(own_cellH OQ.out.1 HQ.out).1
      simp only [Hdr.val] at cc
      (try have cc2:(wa.alloc (.cells #[.int .i64 y.id,.string y.key,.int .u32 y.word] 60)).cell? ⟨g4,KX,none⟩=some (.slice qa qn qc):=cc)
      go_simp
      clear cc
      (try clear cc2)
      refine hK.out _ _ (trivial) (fun hHeld=>?_)
      clear hK K
      refine wpAnyH_ready (rs:=[8]) (by kernel_rfl) (by simp) ?_
      refine AllReadyH.cons (o:=⟨_,_,_,_,_,_⟩) rfl (fun K hK=>?_) AllReadyH.nil
      rw [if_pos (by rfl)]
      have z0:=Ex.size kx
      have oi:=OQ.out.2.2.1 KX _ _ HQ.out HCC.out
      refine wp_append_rda (enc:=encN) _ (.tmp 32) (.tmp 34) 23 rfl w1.heap.size 60 (.agg #[.int .i64 0,.string ByteArray.empty,.int .u32 0]) 3 32 Tryz.underlying23 Tryz.infoN rfl (by omega) (by omega) _ c oi rfl _ _ 1 1 [y] SX (fun h=>by cases h) (fun _=>rfl) (by simp [encN,Value.oneCell']) rfl (by omega) (by omega) z0 ?_
      intro v8 w8 own8 ch0 ch1 hat
      rw [← HCY.out] at own8
      obtain ⟨a8,cap8,rfl,_,_,_,_⟩:=own8.rd (fun _=>rfl)
      obtain ⟨pc,pf,OQ2⟩:=OwnQ.put (q':=(a8,cy.length,cap8)) OQ.out HQ.out own8 ch0 hat
      replace kx:Ex w1 w8:=Chg.trans kx ch1
      replace OQ:=lH OQ2
      clear OQ2 own8 ch0 ch1 hat oi z0 SX
      refine hK.out _ _ (trivial) (fun hHeld=>?_)
      clear hK K
      refine tkH 9 (v:=?_) rfl (by kernel_rfl) (fun _ _ _ h=>h) (by rfl) ?y2x9q172 (by assumption) ?z2x9q172
      case y2x9q172=>intro wq hSw;(go_simp);(try with_reducible rfl)
      refine wpAnyH_ready (rs:=[10]) (by kernel_rfl) (by simp) ?_
      refine AllReadyH.cons (o:=⟨_,_,_,_,_,_⟩) rfl (fun K hK=>?_) AllReadyH.nil
      go_simp
      clear pc pf
      refine hK.out _ _ (trivial) (fun hHeld=>?_)
      clear hK K
      refine wpAnyH_done (by kernel_rfl) ?_ _
      replace kx:=kx.setNew (p:=⟨g4,KX,none⟩) (Hdr.val (a8,cy.length,cap8)) hg4
      obtain ⟨wz,hwz⟩:∃ wz,wz=w8.setCell ⟨g4,KX,none⟩ (.slice a8 cy.length cap8):=⟨_,rfl⟩
      have OQ:=lH (OwnQ.cast OQ.out (w':=wz) hwz)
      have kx:Ex w1 wz:=by rw [hwz];exact kx
      rw [← hwz]
      clear hwz SXF hHeld hn5 hcl
      go_wp2_with fail
      exact ⟨⟨k+1,_,by omega,by go_num,by rw [FSn.out,FIN.out];exact OQ.out,kx⟩,by simp [intOf];omega⟩
  ·obtain rfl:k=n:=by omega
   rw [List.take_of_length_le (by rw [HL.out];exact Nat.le_refl _)] at OQ
   obtain ⟨a3,cap3,rfl,ll3,hc3,_,_⟩:=OQ.ll
   have LL3:=lH ll3
   clear OQ ll3 hk hlt
   go_wp2_with fail
   go_ret
   exact ⟨a3,cap3,by rw [HF.out];rfl,by rw [HF.out];exact LL3.out,HK1.out.nx kx⟩
theorem same_succ {a b m:Nat} (ha:a<4294967296) (hb:b<4294967296) (hm:m<16) :
  sameN a b ((m:Int)+1)=true↔sameN a b m=true∧bitN a m=bitN b m:=by
 have key:a.testBit m=b.testBit m↔bitN a m=bitN b m:=by
  rw [bitN_of a m hm,bitN_of b m hm];exact bit_eq_iff a b m
 unfold sameN
 simp only [decide_eq_true_eq]
 constructor
 ·intro h
  exact ⟨by omega,key.1 (common_lt ha hb (by omega))⟩
 ·rintro ⟨h1,h2⟩
  rcases Nat.lt_or_ge m (commonN a b) with h | h
  ·omega
  ·exfalso
   have he:commonN a b=m:=by omega
   have:=common_at ha hb (by omega)
   rw [he] at this
   exact this (key.2 h2)
theorem snoc_ind {α:Type} {P:List α→Prop} (h0:P []) (h1:∀ l x,P l→P (l++[x])) (l:List α):P l:=by
 have:∀ l:List α,P l.reverse:=by
  intro l
  induction l with
  | nil=>exact h0
  | cons x r ih=>rw [List.reverse_cons];exact h1 _ _ ih
 have:=this l.reverse
 rwa [List.reverse_reverse] at this
theorem foldC_append (h:Int) (l:List Nd) (x:Nd):foldC h (l++[x])=stepC h (foldC h l) x:=by unfold foldC;rw [List.foldl_append];rfl
open Classical in
noncomputable def cntN (h:Int):List Nd→Nat
 | []=>0
 | x::l=>cntN h l+if ∃ y∈l,sameN y.word x.word h=true then 0 else 1
open Classical in
theorem foldC_cnt {h:Int} (hh:h≤16) (l:List Nd) (hl:∀ y∈l,y.word<4294967296):Cls h l (foldC h l)∧(foldC h l).length=cntN h l.reverse:=by
 induction l using snoc_ind with
 | h0=>exact ⟨⟨by simp,by simp [foldC],by simp [foldC]⟩,rfl⟩
 | h1 l x ih =>
  have hl':∀ y∈l,y.word<4294967296:=fun y hy=>hl y (List.mem_append_left _ hy)
  have hx:x.word<4294967296:=hl x (by simp)
  obtain ⟨H1,H3⟩:=ih hl'
  rw [foldC_append]
  refine ⟨H1.step hh hl' hx,?_⟩
  rw [List.reverse_append,List.reverse_singleton,List.singleton_append]
  unfold cntN
  rw [← H3]
  generalize foldC h l=C at H1
  have hw1:∀ c∈C,headW c<4294967296:=fun c hc=>by
   obtain ⟨y,hy,he⟩:=headW_mem (H1.mem c hc).1
   rw [he];exact hl' y ((H1.mem c hc).2 y hy).1
  rcases stepC_cases h C x with ⟨hno,he⟩ | ⟨K,d,hd,hs,he⟩
  ·rw [he,if_neg]
   ·simp
   ·rintro ⟨y,hy,h1⟩
    obtain ⟨c,hc,hyc⟩:=H1.all y (List.mem_reverse.1 hy)
    have:=sameN_trans (hw1 c hc) (hl' y (List.mem_reverse.1 hy)) hx ((H1.mem c hc).2 y hyc).2 h1
    rw [hno c hc] at this
    cases this
  ·rw [he,if_pos]
   ·simp
   ·have hdC:=List.mem_of_getElem? hd
    obtain ⟨y,hy,hye⟩:=headW_mem (H1.mem d hdC).1
    refine ⟨y,List.mem_reverse.2 ((H1.mem d hdC).2 y hy).1,?_⟩
    rw [← hye];exact hs
theorem classes_le (l:List Nd) (h:Int):(classesN l h).length≤l.length:=by
 by_cases h16:16<h
 ·rw [classesN_big h16];simp
 ·rw [classesN_fold h16];exact foldC_length h l
def OrdPost (l:List Nd) (w:World) (e:Ending) (w':World):Prop :=
 ∃ (v:Value) (S:List Nd),e=.returned (.tuple #[v,.bool (checkN l==0)])∧OwnL 3 encN 60 w.heap.size w' v S∧(S.Perm l∧(checkN l=0→S=sortN l))∧Ex w w'
set_option maxHeartbeats 1000000 in
theorem ordered_p (a:Option Addr) (n c:Nat) (l:List Nd) (w:World) (h:Sl 3 encN w a n l) (hn:n≤1000) (hc:n≤c) (hm:c≤maxLen) :
  Calls Tryz.prog 145 #[.slice a n c] w (OrdPost l w):=by
 go_enter Tryz.func145,Tryz.ntmps145
 go_wp2_with fail
 (with_reducible refine (sort_p _ _ _ _ _ h hn).mono ?_)
 rintro e w1 ⟨v,S,rfl,own1,⟨hp,ha⟩,k1⟩
 have h1:=h.nx k1
 have O1:=lH own1
 have HP:=lH hp
 have HA:=lH ha
 have K1:=lH k1
 clear h own1 hp ha k1
 go_wp2_with fail
 (with_reducible refine (check_p _ _ _ _ _ h1 (by omega) hc hm).mono ?_)
 rintro e w2 ⟨rfl,k2⟩
 have O2:=lH (O1.out.nx k2)
 have K2:=lH (K1.out.nx k2)
 clear h1 k2
 go_wp2_with fail
 go_ret2
 exact ⟨v,S,rfl,O2.out,⟨HP.out,fun h0=>sortN_unique (check_keys h0) HP.out HA.out⟩,K2.out⟩
theorem Tryz.infoLk:(Tryz.prog.info? 100).map (fun i=>(i.zero,i.size,i.bytes))=some (some (.agg #[.int .i64 0,.int .i64 0]),2,16):=by kernel_rfl
theorem Tryz.infoLd:(Tryz.prog.info? 109).map (fun i=>(i.zero,i.size,i.bytes))=some (some (.agg #[.int .i64 0,.slice none 0 0]),2,32):=by kernel_rfl
def rowN (S:List Nd) (m:Nat) (x:Nd):Lkd:=(x.id,(List.range m).map fun (h:Nat)=>(neighN S x.id h).1)
def buildN (l:List Nd) (height:Int):List Lkd×Int :=
 if (checkN l==0)=false then ([],1) else if lvlN height=false then ([],2) else ((sortN l).map (rowN (sortN l) (height.toNat+1)),0)
abbrev OwnLk (base:Nat) (w:World) (v:Value) (qs:List (Int×Hdr)) (L:List Lkd):Prop:=OwnN encI 2 2 encS 109 100 base w v qs L
abbrev LkL (w:World) (a:Option Addr) (n:Nat) (L:List Lkd):Prop:=NL encI 2 2 encS w a n L
def LkPost (L:List Lkd) (e:Int) (w:World) (en:Ending) (w':World):Prop :=
 ∃ (v:Value) (qs:List (Int×Hdr)),en=.returned (.tuple #[v,.int .i64 e])∧OwnLk w.heap.size w' v qs L∧Ex w w'
theorem rowN_len (S:List Nd) (j:Nat) (x:Nd):(rowN S j x).2.length=j:=by unfold rowN;simp
theorem Tryz.infoIL:(Tryz.prog.info? 22).map (fun i=>(i.zero,i.size,i.bytes))=some (some (.slice none 0 0),1,24):=by kernel_rfl
abbrev OwnIL (base:Nat) (w:World) (v:Value) (qs:List (Unit×Hdr)) (M:List (List Int)):Prop:=OwnN enc0 1 1 encI 22 3 base w v qs (M.map pairU)
def IlPost (M:List (List Int)) (w:World) (e:Ending) (w':World):Prop :=
 ∃ (v:Value) (qs:List (Unit×Hdr)),e=.returned v∧OwnIL w.heap.size w' v qs M∧Ex w w'
def idsN (c:List Nd):List Int:=c.map Nd.id
theorem idsN_snoc (c:List Nd) (k:Nat) (y:Nd) (hy:c[k]?=some y):idsN (c.take (k+1))=idsN (c.take k)++[y.id]:=by
 unfold idsN;rw [take_snocN c k y hy,List.map_append];rfl
theorem idsC_snoc (C:List (List Nd)) (k:Nat) (c:List Nd) (hc:C[k]?=some c):(((C.take (k+1)).map idsN).map pairU)=(((C.take k).map idsN).map pairU)++[((),idsN c)]:=by
 rw [List.take_add_one,hc,List.map_append,List.map_append];rfl
def listsN (l:List Nd) (h:Int):List (List Int):=if (checkN l==0)=true∧lvlN h=true then (classesN (sortN l) h).map idsN else []
theorem classesN_sm (l:List Nd) (h:Int) (hl:l.length≤1000):(classesN l h).length≤1000∧∀ c∈classesN l h,c.length≤1000:=by
 refine ⟨Nat.le_trans (classes_le l h) hl,?_⟩
 intro c hc
 by_cases hh:16<h
 ·rw [classesN_big hh] at hc;cases hc
 ·rw [classesN_fold hh] at hc
  have:=foldC_fine (h:=h) (P:=fun _=>True) l (fun _ _=>trivial)
  exact Nat.le_trans (this c hc).2.1 hl
def IdqRel (c:List Nd) (n:Nat) (w:World) (o i:Value) (wr:World):Prop :=
 ∃ k:Nat,k≤n∧i=.int .i64 k∧OwnL 1 encI 3 w.heap.size wr o (idsN (c.take k))∧Ex w wr
def IlRel (C:List (List Nd)) (w:World) (o i:Value) (wr:World):Prop :=
 ∃ (k:Nat) (qs:List (Unit×Hdr)),k≤C.length∧i=.int .i64 k∧OwnIL w.heap.size wr o qs ((C.take k).map idsN)∧Ex w wr
set_option maxRecDepth 100000 in
set_option maxHeartbeats 2000000 in
theorem lists_p (a:Option Addr) (n c:Nat) (l:List Nd) (h:Int) (w:World) (hs:Sl 3 encN w a n l) (hn:n≤1000) (hc:n≤c) (hm:c≤maxLen) (hw:∀ x∈l,x.word<4294967296) (hT:TabG w) :
  Calls Tryz.prog 154 #[.slice a n c,.int .i64 h] w (IlPost (listsN l h) w):=by
 have HW:=lH hw
 have HL:=lH hs.len
 have HT:=lH hT
 clear hw hT
 go_enter Tryz.func154,Tryz.ntmps154
 go_wp2_with fail
 (with_reducible refine (ordered_p _ _ _ _ _ hs hn hc hm).mono ?_)
 rintro e w1 ⟨v,S,rfl,OS,⟨hp,hsrt⟩,k1⟩
 have SL:=lH hp.length_eq
 have SW:Hid (∀ x∈S,x.word<4294967296):=lH (fun x hx=>HW.out x (hp.mem_iff.1 hx))
 have HSR:=lH hsrt
 replace HT:=lH (HT.out.nx k1)
 clear hp hsrt hs
 by_cases hck:checkN l=0
 case neg =>
  have HNO:Hid (listsN l h=[]):=lH (by unfold listsN;rw [if_neg];rintro ⟨h1,_⟩;exact hck (by simpa using h1))
  have d1:(checkN l==0)=false:=by simpa using hck
  rw [d1]
  clear hck d1 OS
  go_wp2_with fail
  go_ret
  rw [HNO.out]
  exact ⟨_,[],rfl,OwnN.nil _ _ _ _ _ _ _ _,k1⟩
 have HCK:=lH hck
 have d1:(checkN l==0)=true:=by simpa using hck
 rw [d1]
 clear hck d1
 by_cases hlo:h<0
 ·have HNO:Hid (listsN l h=[]):=lH (by unfold listsN;rw [if_neg];rintro ⟨_,h1⟩;unfold lvlN at h1;simp at h1;omega)
  clear OS
  go_wp2_with fail
  go_ret
  rw [HNO.out]
  exact ⟨_,[],rfl,OwnN.nil _ _ _ _ _ _ _ _,k1⟩
 by_cases hhi:16<h
 ·have HNO:Hid (listsN l h=[]):=lH (by unfold listsN;rw [if_neg];rintro ⟨_,h1⟩;unfold lvlN at h1;simp at h1;omega)
  clear OS
  go_wp2_with fail
  go_ret
  rw [HNO.out]
  exact ⟨_,[],rfl,OwnN.nil _ _ _ _ _ _ _ _,k1⟩
 have HYES:Hid (listsN l h=(classesN S h).map idsN):=lH (by
  unfold listsN;rw [if_pos ⟨by rw [HCK.out];rfl,by unfold lvlN;simp;omega⟩,HSR.out HCK.out])
 have HSM:=lH (classesN_sm S h (by have:=HL.out;have:=SL.out;omega))
 obtain ⟨aS,cS,rfl,sS,_,_⟩:=OS.sl3 (fun _=>rfl)
 have hnS:S.length≤1000:=by have:=HL.out;have:=SL.out;omega
 clear OS
 go_wp2_with fail
 (with_reducible refine (classes_p _ _ _ _ _ _ sS hnS SW.out HT.out).mono ?_)
 rintro e w2 ⟨a2,c2,rfl,C2,k2⟩
 replace k1:=lH (k1.nx k2)
 have hsz:=k1.out.size
 generalize classesN S h=C at C2 HSM HYES ⊢
 have C2:=lH C2
 have hC:=HSM.out.1
 clear k2 sS
 go_wp2_with fail
 go_loopw [7,32] (fun o i wr=>IlRel C w2 o i wr) (fun _ i _=>C.length-(intOf i).toNat)
 case atStart=>exact ⟨0,[],by omega,rfl,OwnN.nil _ _ _ _ _ _ _ _,Ex.refl _⟩
 case round =>
  obtain ⟨k,qs,hk,rfl,OQ,kw⟩:=hrel
  obtain ⟨wo,rfl⟩:∃ wo:World,wo=wr:=⟨_,rfl⟩
  by_cases hlt:k<C.length
  ·obtain ⟨x1,o1,a',n',c',cc,rfl,hx1,hcc,hcell,hsl⟩:=(C2.out.nx kw).at hlt
   have HCC:=lH hcc
   have hnl:=hsl.len
   have hcl:cc.length≤1000:=HSM.out.2 cc (List.mem_of_getElem? hcc)
   subst hnl
   have OQ:=lH OQ
   have HSL:=lH hsl
   have hzo:=kw.size
   have KW:=lH kw
   clear hcc hsl kw
   go_wp2_with fail
   clear hcell
   go_loopw [10,38] (fun o i wr=>IdqRel cc cc.length wo o i wr) (fun _ i _=>cc.length-(intOf i).toNat)
   case atStart=>exact ⟨0,by omega,rfl,OwnL.nil _ _ _ _ _,Ex.refl _⟩
   case round =>
    obtain ⟨j,hj,rfl,own,ki⟩:=hrel
    obtain ⟨wi,rfl⟩:∃ wi:World,wi=wr:=⟨_,rfl⟩
    by_cases hjm:j<cc.length
    ·obtain ⟨x3,o3,y,rfl,hx3,hy,hc3⟩:=(HSL.out.nx ki).at hjm
     obtain ⟨yi,yk,yw⟩:=y
     have e0:wi.cell? ⟨x3,o3+j*3,none⟩=some (.int .i64 yi):=hc3 0 _ rfl
     have e1:wi.cell? ⟨x3,o3+j*3+1,none⟩=some (.string yk):=hc3 1 _ rfl
     have e2:wi.cell? ⟨x3,o3+j*3+2,none⟩=some (.int .u32 yw):=hc3 2 _ rfl
     have e2':wi.cell? ⟨x3,o3+j*3+1+1,none⟩=some (.int .u32 yw):=e2
     have SN:=lH (idsN_snoc cc j _ hy)
     have hrl:(idsN (cc.take j)).length=j:=by unfold idsN;rw [List.length_map,List.length_take];omega
     clear hy hc3
     have k7:=Ex.new wi (.cells #[.int .i64 yi,.string yk,.int .u32 yw] 60)
     have B4:=Blk.new wi [.int .i64 yi,.string yk,.int .u32 yw] 60
     obtain ⟨w7,hw7⟩:∃ w7,w7=wi.alloc (.cells #[.int .i64 yi,.string yk,.int .u32 yw] 60):=⟨_,rfl⟩
     obtain ⟨g4,hg4⟩:∃ g4,g4=wi.heap.size:=⟨_,rfl⟩
     have B4:Blk w7 g4 [.int .i64 yi,.string yk,.int .u32 yw] 60:=by rw [hw7,hg4];exact B4
     rw [← hw7] at k7
     have HW7:=lH hw7
     have HG4:=lH hg4
     replace own:=own.nx k7
     replace ki:=ki.nx k7
     generalize idsN (cc.take j)=row at own SN hrl
     clear hw7 hg4 k7
     go_upto_region 12 with fail
     rw [← HG4.out,← HW7.out]
     clear e0 e1 e2 e2'
     have y0:=B4.cell 0 _ rfl
     have zb:=ki.size
     go_wp2_with (at_builtin;(refine wpList_append_lit (enc:=encI) w7 rfl _ _ 22 rfl wo.heap.size 3 (.int .i64 0) 1 8 Tryz.underlying22 Tryz.infoI6 rfl (by omega) (by omega) _ _ own rfl (yi:Int) _ rfl rfl (by simp [encI,Value.oneCell']) _ (by simp) rfl (by omega) zb _ ?_);intro v6 w6 own6 _ ch1 _)
     refine ⟨⟨j+1,by omega,by go_num,by rw [SN.out];exact own6,Chg.trans ki ch1⟩,by simp [intOf];omega⟩
    ·obtain rfl:j=cc.length:=by omega
     rw [List.take_length] at own
     have OQ1:=OQ.out.nx ki
     obtain ⟨a6,c6,rfl,_,_,_,_⟩:=own.rd (fun _=>rfl)
     have hkq:qs.length=k:=by rw [OQ1.2.1,List.length_map,List.length_map,List.length_take];omega
     have hzi:w2.heap.size≤wi.heap.size:=by have:=ki.size;omega
     have FR:∀ (j:Nat) (r:Unit×Hdr) (g:Nat),qs[j]?=some r→r.2.val.ownBlock=some g→¬ (Value.slice a6 (idsN cc).length c6).ownBlock=some g:=by
      intro j r g hr hg hv
      have h1:=OQ.out.lt hr hg
      have h2:=(own.lt g hv).1
      omega
     clear hjm hj
     have k8:=Ex.new wi (.cells #[.slice a6 (idsN cc).length c6] 22)
     have SX:Sl 1 (encP enc0) (wi.alloc (.cells #[.slice a6 (idsN cc).length c6] 22)) (some ⟨wi.heap.size,0,none⟩) 1 [(((),(a6,(idsN cc).length,c6)):Unit×Hdr)]:=Sl.lit _ rfl rfl (fun _=>rfl) rfl
     have OQ2:=OQ1.nx k8
     have own2:=own.nx k8
     have ki8:=ki.nx k8
     have hql:qs.length≤1000000:=by omega
     go_wp2_with (at_builtin;(refine wpList_append_W (enc:=encP enc0) _ rfl _ _ 143 rfl w2.heap.size 22 (.slice none 0 0) 1 24 Tryz.underlying143 Tryz.infoIL rfl (by omega) (by omega) _ _ OQ2.1 rfl _ 1 1 [_] SX (fun _=>rfl) (by simp [encP,enc0,Hdr.val,Value.oneCell']) rfl hql (by omega) (by simp;omega) ?_);intro v7 w7 own7 ch0 ch1 _)
     have OQ7:=OQ2.push (by decide) own7 ch0 (own2.base (by omega)) FR
     have kw7:Ex w2 w7:=Chg.trans (KW.out.nx ki8) ch1
     exact ⟨⟨k+1,qs++[(((),(a6,(idsN cc).length,c6)):Unit×Hdr)],by omega,by go_num,by show OwnN enc0 1 1 encI _ _ _ _ _ _ (((C.take (k+1)).map idsN).map pairU);rw [idsC_snoc C k cc HCC.out];exact OQ7,kw7⟩,by simp [intOf];omega⟩
  ·obtain rfl:k=C.length:=by omega
   rw [List.take_length] at OQ
   have OQ:=lH OQ
   clear hk hlt
   go_wp2_with fail
   go_ret
   rw [HYES.out]
   exact ⟨_,qs,rfl,OwnN.base OQ.out hsz,k1.out.nx kw⟩
abbrev FnL:=Int→Nat→Int×Int
def updL (F:FnL) (id:Int) (j:Nat) (v:Int):FnL:=fun x h=>if x=id∧h=j then (v,(F x h).2) else F x h
def updR (F:FnL) (id:Int) (j:Nat) (v:Int):FnL:=fun x h=>if x=id∧h=j then ((F x h).1,v) else F x h
def atI (ids:List Int) (q:Nat):Int:=ids[q]?.getD 0
def procI (ids:List Int) (j:Nat) (F:FnL):Nat→FnL
 | 0=>F
 | n+1=>updR (updL (procI ids j F n) (atI ids (n+1)) j (atI ids n)) (atI ids n) j (atI ids (n+1))
def procL (j:Nat) (M:List (List Int)) (F:FnL):FnL:=M.foldl (fun F ids=>procI ids j F (ids.length-1)) F
def procB (S:List Nd):Nat→FnL
 | 0=>fun _ _=>(0,0)
 | j+1=>procL j (listsN S (j:Nat)) (procB S j)
def rowsF (S:List Nd) (m:Nat) (F:FnL):List Lkd:=S.map fun x=>(x.id,(List.range m).map fun j=>F x.id j)
theorem procL_snoc (j:Nat) (M:List (List Int)) (F:FnL) (k:Nat) (c:List Int) (hc:M[k]?=some c):procL j (M.take (k+1)) F=procI c j (procL j (M.take k) F) (c.length-1):=by
 unfold procL
 rw [List.take_add_one,hc,List.foldl_append]
 rfl
theorem procI_other (ids:List Int) (j:Nat) (F:FnL) (n:Nat) (x:Int) (h:Nat) (hx:h≠j∨∀ q,q≤n→x≠atI ids q):procI ids j F n x h=F x h:=by
 induction n with
 | zero=>rfl
 | succ n ih =>
  have ih:=ih (hx.imp id (fun g q hq=>g q (by omega)))
  show updR (updL (procI ids j F n) (atI ids (n+1)) j (atI ids n)) (atI ids n) j (atI ids (n+1)) x h=_
  unfold updR updL
  rcases hx with hx | hx
  ·rw [if_neg (fun e=>hx e.2),if_neg (fun e=>hx e.2),ih]
  ·rw [if_neg (fun e=>hx n (by omega) e.1),if_neg (fun e=>hx (n+1) (by omega) e.1),ih]
theorem atI_inj {ids:List Int} (hn:ids.Nodup) {p q:Nat} (hp:p<ids.length) (hq:q<ids.length) (e:atI ids p=atI ids q):p=q:=by
 unfold atI at e
 rw [List.getElem?_eq_getElem hp,List.getElem?_eq_getElem hq] at e
 have hw:=List.pairwise_iff_getElem.1 hn
 rcases Nat.lt_trichotomy p q with h | h | h
 ·exact absurd e (hw p q hp hq h)
 ·exact h
 ·exact absurd e.symm (hw q p hq hp h)
theorem procI_at {ids:List Int} (hn:ids.Nodup) (j:Nat) (F:FnL) {p:Nat} (hp:p<ids.length) :
  ∀ n,n<ids.length→procI ids j F n (atI ids p) j=(if 1≤p∧p≤n then atI ids (p-1) else (F (atI ids p) j).1,if p<n then atI ids (p+1) else (F (atI ids p) j).2):=by
 intro n
 induction n with
 | zero=>intro _;rw [if_neg (by omega),if_neg (by omega)];rfl
 | succ n ih =>
  intro hl
  have ih:=ih (by omega)
  have e1:(atI ids p=atI ids (n+1))↔p=n+1:=⟨fun e=>atI_inj hn hp hl e,fun e=>by rw [e]⟩
  have e2:(atI ids p=atI ids n)↔p=n:=⟨fun e=>atI_inj hn hp (by omega) e,fun e=>by rw [e]⟩
  show updR (updL (procI ids j F n) (atI ids (n+1)) j (atI ids n)) (atI ids n) j (atI ids (n+1)) (atI ids p) j=_
  unfold updR updL
  simp only [e1,e2,and_true]
  by_cases h1:p=n+1
  ·rw [if_neg (by omega),if_pos h1,ih,if_pos (by omega:1≤p∧p≤n+1),if_neg (by omega:¬ p<n+1)]
   simp only
   rw [if_neg (by omega:¬ p<n),h1]
   rfl
  ·by_cases h2:p=n
   ·rw [if_pos h2,if_neg h1,ih]
    simp only
    rw [if_pos (by omega:p<n+1),h2]
    by_cases h3:1≤n
    ·rw [if_pos ⟨h3,Nat.le_refl _⟩,if_pos ⟨h3,by omega⟩]
    ·rw [if_neg (by omega),if_neg (by omega)]
   ·rw [if_neg h2,if_neg h1,ih]
    congr 1
    ·by_cases h3:1≤p∧p≤n
     ·rw [if_pos h3,if_pos (by omega)]
     ·rw [if_neg h3,if_neg (by omega)]
    ·by_cases h3:p<n
     ·rw [if_pos h3,if_pos (by omega)]
     ·rw [if_neg h3,if_neg (by omega)]
theorem procL_level (j:Nat) (M:List (List Int)) (F:FnL) (x:Int) (h:Nat) (hh:h≠j):procL j M F x h=F x h:=by
 unfold procL
 induction M generalizing F with
 | nil=>rfl
 | cons c M ih=>rw [List.foldl_cons,ih,procI_other _ _ _ _ _ _ (.inl hh)]
theorem atI_mem {ids:List Int} {q:Nat} (hq:q<ids.length):atI ids q∈ids:=by
 unfold atI;rw [List.getElem?_eq_getElem hq];exact List.getElem_mem hq
theorem procI_mem (ids:List Int) (j:Nat) (F:FnL) (x:Int) (h:Nat) (hx:x∉ids):procI ids j F (ids.length-1) x h=F x h:=by
 by_cases h0:ids=[]
 ·subst h0;rfl
 ·have:0<ids.length:=List.length_pos_iff.2 h0
  exact procI_other _ _ _ _ _ _ (.inr fun q hq e=>hx (e▸atI_mem (by omega)))
theorem procL_not (j:Nat) (M:List (List Int)) (F:FnL) (x:Int) (h:Nat) (hx:∀ c∈M,x∉c):procL j M F x h=F x h:=by
 unfold procL
 induction M generalizing F with
 | nil=>rfl
 | cons c M ih=>rw [List.foldl_cons,ih _ (fun d hd=>hx d (by simp [hd])),procI_mem _ _ _ _ _ (hx c (by simp))]
theorem procL_at (j:Nat):∀ (M:List (List Int)) (F:FnL),M.Pairwise (fun c d=>∀ x∈c,x∉d)→(∀ c∈M,c.Nodup)→∀ c∈M,∀ p,p<c.length→F (atI c p) j=(0,0) →
  procL j M F (atI c p) j=(if 1≤p then atI c (p-1) else 0,if p+1<c.length then atI c (p+1) else 0)
 | [],_,_,_,c,hc,_,_,_=>by cases hc
 | d::M,F,hM,hN,c,hc,p,hp,hF=>by
  rw [List.pairwise_cons] at hM
  show procL j M (procI d j F (d.length-1)) (atI c p) j=_
  by_cases hcd:c∈M
  ·rw [procL_at j M _ hM.2 (fun c hc=>hN c (by simp [hc])) c hcd p hp]
   rw [procI_mem _ _ _ _ _ (fun hx=>hM.1 c hcd _ hx (atI_mem hp))]
   exact hF
  ·obtain rfl:c=d:=by rcases List.mem_cons.1 hc with e | e;exact e;exact absurd e hcd
   rw [procL_not _ _ _ _ _ (fun d hd hx=>hM.1 d hd _ (atI_mem hp) hx),procI_at (hN c (by simp)) j F hp (c.length-1) (by omega),hF]
   congr 1
   ·by_cases h3:1≤p
    ·rw [if_pos h3,if_pos (by omega)]
    ·rw [if_neg h3,if_neg (by omega)]
   ·by_cases h3:p<c.length-1
    ·rw [if_pos h3,if_pos (by omega)]
    ·rw [if_neg h3,if_neg (by omega)]
theorem Tryz.zeroI (w:World):(zeroValue 3).run Tryz.prog w=.ok (.int .i64 0) w:=by kernel_rfl
theorem MapI.look {w:World} {b n:Nat} {f:Int→Int} (h:MapI w b n f) {x:Int} (hx:-9223372036854775808≤x∧x≤9223372036854775807) :
  (Instr.lookup 177 (.map (some b)) (.int .i64 x) false).run Tryz.prog w=.ok (.int .i64 (f x)) w:=by
 obtain ⟨D,h1,h2⟩:=h
 obtain ⟨c,hrun,hat,_⟩:=h1.lookup_int (t:=177) Tryz.lawI Tryz.underlying177 Tryz.underlying3 (Tryz.zeroI w) (Go.Maps.keyOf_int_mk Tryz.underlying3 (wf_of hx))
 rw [h2 x] at hat
 cases hat
 exact hrun
theorem Exq.nxq {qs:List (Int×Hdr)} {w w1 w2:World} (h:Exq qs w w1) (k:Exq qs w1 w2):Exq qs w w2:=Chg.trans h (Chg.mono k (fun _ hk=>⟨Nat.lt_of_lt_of_le hk.1 h.size,hk.2⟩))
theorem Exq.of_ex {qs:List (Int×Hdr)} {w w':World} (k:Ex w w'):Exq qs w w':=Chg.mono k (fun _ hk=>hk.1)
theorem inQ_base {base:Nat} {w:World} {v:Value} {qs:List (Int×Hdr)} {L:List Lkd} (h:OwnLk base w v qs L) {k:Nat} (hk:InQ qs k):base≤k∧k<w.heap.size:=by
 obtain ⟨j,r,hr,hg⟩:=hk
 exact ⟨(OwnN.blk h hr hg).1,OwnN.lt h hr hg⟩
theorem inQ_ne {base:Nat} {w:World} {v:Value} {qs:List (Int×Hdr)} {L:List Lkd} (h:OwnLk base w v qs L) {k:Nat} (hk:v.ownBlock=some k):¬ InQ qs k:=by
 rintro ⟨j,r,hr,hg⟩
 exact OwnN.ne (by decide) h hr hg hk
theorem OwnIL.ilt {base:Nat} {w:World} {v:Value} {qs:List (Unit×Hdr)} {M:List (List Int)} (h:OwnIL base w v qs M) :
  ∃ a cap,v=.slice a M.length cap∧ILt (fun k=>base≤k∧k<w.heap.size) w a M.length M:=by
 obtain ⟨a,cap,e,r,c1,c2,c3,c4⟩:=h.1.rd (fun _=>rfl)
 have hl:=h.2.1
 rw [List.length_map] at hl
 rw [hl] at e r
 refine ⟨a,cap,e,qs,r,rfl,fun j q c hq hc=>?_⟩
 obtain ⟨r1,r2⟩:=h.2.2.1 j q (pairU c) hq (by rw [List.getElem?_map,hc];rfl)
 obtain ⟨a',cap',e',r',_⟩:=r2.rd (fun _=>rfl)
 obtain ⟨x,q1,q2,q3⟩:=q
 simp only [Hdr.val,Value.slice.injEq] at e'
 obtain ⟨rfl,rfl,rfl⟩:=e'
 exact r'
theorem mkLk0 (w:World):(Instr.makeSlice 107 (.int .i64 1) (.int .i64 1)).run Tryz.prog w=.ok (.slice (some ⟨w.heap.size,0,none⟩) 1 1) (w.alloc (.cells ((List.replicate 1 ((0,0):Int×Int)).flatMap encS).toArray 100)):=by kernel_rfl
theorem mkLk1 (w:World):(Instr.makeSlice 107 (.int .i64 2) (.int .i64 2)).run Tryz.prog w=.ok (.slice (some ⟨w.heap.size,0,none⟩) 2 2) (w.alloc (.cells ((List.replicate 2 ((0,0):Int×Int)).flatMap encS).toArray 100)):=by kernel_rfl
theorem mkLk2 (w:World):(Instr.makeSlice 107 (.int .i64 3) (.int .i64 3)).run Tryz.prog w=.ok (.slice (some ⟨w.heap.size,0,none⟩) 3 3) (w.alloc (.cells ((List.replicate 3 ((0,0):Int×Int)).flatMap encS).toArray 100)):=by kernel_rfl
theorem mkLk3 (w:World):(Instr.makeSlice 107 (.int .i64 4) (.int .i64 4)).run Tryz.prog w=.ok (.slice (some ⟨w.heap.size,0,none⟩) 4 4) (w.alloc (.cells ((List.replicate 4 ((0,0):Int×Int)).flatMap encS).toArray 100)):=by kernel_rfl
theorem mkLk4 (w:World):(Instr.makeSlice 107 (.int .i64 5) (.int .i64 5)).run Tryz.prog w=.ok (.slice (some ⟨w.heap.size,0,none⟩) 5 5) (w.alloc (.cells ((List.replicate 5 ((0,0):Int×Int)).flatMap encS).toArray 100)):=by kernel_rfl
theorem mkLk5 (w:World):(Instr.makeSlice 107 (.int .i64 6) (.int .i64 6)).run Tryz.prog w=.ok (.slice (some ⟨w.heap.size,0,none⟩) 6 6) (w.alloc (.cells ((List.replicate 6 ((0,0):Int×Int)).flatMap encS).toArray 100)):=by kernel_rfl
theorem mkLk6 (w:World):(Instr.makeSlice 107 (.int .i64 7) (.int .i64 7)).run Tryz.prog w=.ok (.slice (some ⟨w.heap.size,0,none⟩) 7 7) (w.alloc (.cells ((List.replicate 7 ((0,0):Int×Int)).flatMap encS).toArray 100)):=by kernel_rfl
theorem mkLk7 (w:World):(Instr.makeSlice 107 (.int .i64 8) (.int .i64 8)).run Tryz.prog w=.ok (.slice (some ⟨w.heap.size,0,none⟩) 8 8) (w.alloc (.cells ((List.replicate 8 ((0,0):Int×Int)).flatMap encS).toArray 100)):=by kernel_rfl
theorem mkLk8 (w:World):(Instr.makeSlice 107 (.int .i64 9) (.int .i64 9)).run Tryz.prog w=.ok (.slice (some ⟨w.heap.size,0,none⟩) 9 9) (w.alloc (.cells ((List.replicate 9 ((0,0):Int×Int)).flatMap encS).toArray 100)):=by kernel_rfl
theorem mkLk9 (w:World):(Instr.makeSlice 107 (.int .i64 10) (.int .i64 10)).run Tryz.prog w=.ok (.slice (some ⟨w.heap.size,0,none⟩) 10 10) (w.alloc (.cells ((List.replicate 10 ((0,0):Int×Int)).flatMap encS).toArray 100)):=by kernel_rfl
theorem mkLk10 (w:World):(Instr.makeSlice 107 (.int .i64 11) (.int .i64 11)).run Tryz.prog w=.ok (.slice (some ⟨w.heap.size,0,none⟩) 11 11) (w.alloc (.cells ((List.replicate 11 ((0,0):Int×Int)).flatMap encS).toArray 100)):=by kernel_rfl
theorem mkLk11 (w:World):(Instr.makeSlice 107 (.int .i64 12) (.int .i64 12)).run Tryz.prog w=.ok (.slice (some ⟨w.heap.size,0,none⟩) 12 12) (w.alloc (.cells ((List.replicate 12 ((0,0):Int×Int)).flatMap encS).toArray 100)):=by kernel_rfl
theorem mkLk12 (w:World):(Instr.makeSlice 107 (.int .i64 13) (.int .i64 13)).run Tryz.prog w=.ok (.slice (some ⟨w.heap.size,0,none⟩) 13 13) (w.alloc (.cells ((List.replicate 13 ((0,0):Int×Int)).flatMap encS).toArray 100)):=by kernel_rfl
theorem mkLk13 (w:World):(Instr.makeSlice 107 (.int .i64 14) (.int .i64 14)).run Tryz.prog w=.ok (.slice (some ⟨w.heap.size,0,none⟩) 14 14) (w.alloc (.cells ((List.replicate 14 ((0,0):Int×Int)).flatMap encS).toArray 100)):=by kernel_rfl
theorem mkLk14 (w:World):(Instr.makeSlice 107 (.int .i64 15) (.int .i64 15)).run Tryz.prog w=.ok (.slice (some ⟨w.heap.size,0,none⟩) 15 15) (w.alloc (.cells ((List.replicate 15 ((0,0):Int×Int)).flatMap encS).toArray 100)):=by kernel_rfl
theorem mkLk15 (w:World):(Instr.makeSlice 107 (.int .i64 16) (.int .i64 16)).run Tryz.prog w=.ok (.slice (some ⟨w.heap.size,0,none⟩) 16 16) (w.alloc (.cells ((List.replicate 16 ((0,0):Int×Int)).flatMap encS).toArray 100)):=by kernel_rfl
theorem mkLk16 (w:World):(Instr.makeSlice 107 (.int .i64 17) (.int .i64 17)).run Tryz.prog w=.ok (.slice (some ⟨w.heap.size,0,none⟩) 17 17) (w.alloc (.cells ((List.replicate 17 ((0,0):Int×Int)).flatMap encS).toArray 100)):=by kernel_rfl
theorem mkLk (m M1:Nat) (hm:m≤16) (h:M1=m+1) (w:World):(Instr.makeSlice 107 (.int .i64 ((m:Int)+1)) (.int .i64 ((m:Int)+1))).run Tryz.prog w =
  .ok (.slice (some ⟨w.heap.size,0,none⟩) M1 M1) (w.alloc (.cells ((List.replicate M1 ((0,0):Int×Int)).flatMap encS).toArray 100)):=by
 subst h
 match m,hm with
 | 0,_=>exact mkLk0 w
 | 1,_=>exact mkLk1 w
 | 2,_=>exact mkLk2 w
 | 3,_=>exact mkLk3 w
 | 4,_=>exact mkLk4 w
 | 5,_=>exact mkLk5 w
 | 6,_=>exact mkLk6 w
 | 7,_=>exact mkLk7 w
 | 8,_=>exact mkLk8 w
 | 9,_=>exact mkLk9 w
 | 10,_=>exact mkLk10 w
 | 11,_=>exact mkLk11 w
 | 12,_=>exact mkLk12 w
 | 13,_=>exact mkLk13 w
 | 14,_=>exact mkLk14 w
 | 15,_=>exact mkLk15 w
 | 16,_=>exact mkLk16 w
 | m+17,h=>exact absurd h (by omega)
theorem rows_set {S:List Nd} (hd:S.Pairwise fun x y=>x.id≠y.id) {m p j:Nat} {y:Nd} (hp:S[p]?=some y) (hj:j<m) (F G:FnL) (hG:∀ x h,(x≠y.id∨h≠j)→G x h=F x h) :
  rowsF S m G=(rowsF S m F).set p (y.id,((List.range m).map fun j=>F y.id j).set j (G y.id j)):=by
 obtain ⟨hpl,hpe⟩:=List.getElem?_eq_some_iff.1 hp
 apply List.ext_getElem?
 intro i
 unfold rowsF
 by_cases hi:i=p
 ·subst hi
  rw [List.getElem?_set_self (by simpa using hpl),List.getElem?_map,hp]
  simp only [Option.map_some,Option.some.injEq,Prod.mk.injEq,true_and]
  apply List.ext_getElem?
  intro h
  by_cases hh:h=j
  ·subst hh
   rw [List.getElem?_set_self (by simpa using hj),List.getElem?_map,List.getElem?_range hj]
   rfl
  ·rw [List.getElem?_set_ne (by omega)]
   simp only [List.getElem?_map]
   by_cases hm:h<m
   ·rw [List.getElem?_range hm]
    simp only [Option.map_some]
    rw [hG _ _ (.inr hh)]
   ·rw [List.getElem?_eq_none (by simpa using hm)];rfl
 ·rw [List.getElem?_set_ne (by omega)]
  simp only [List.getElem?_map]
  cases hx:S[i]? with
  | none=>rfl
  | some x =>
   simp only [Option.map_some]
   have hne:x.id≠y.id:=by
    obtain ⟨hil,hie⟩:=List.getElem?_eq_some_iff.1 hx
    have hw:=List.pairwise_iff_getElem.1 hd
    rcases Nat.lt_or_gt_of_ne hi with h | h
    ·have:=hw i p hil hpl h;rwa [hie,hpe] at this
    ·have:=hw p i hpl hil h;rw [hie,hpe] at this;exact fun e=>this e.symm
   congr 2
   apply List.map_congr_left
   intro h _
   exact hG _ _ (.inl hne)
theorem rows_at {base:Nat} {w:World} {v:Value} {qs:List (Int×Hdr)} {S:List Nd} {m:Nat} {F:FnL} (hd:S.Pairwise fun x y=>x.id≠y.id) (h:OwnLk base w v qs (rowsF S m F)) {p j:Nat} {y:Nd} (hp:S[p]?=some y) (hj:j<m) :
  ∃ g cap g' cap',v=.slice (some ⟨g,0,none⟩) S.length cap∧g<w.heap.size∧¬ InQ qs g∧w.cell? ⟨g,p*2+1,none⟩=some (.slice (some ⟨g',0,none⟩) m cap')∧InQ qs g' ∧
   (∃ u,w.cell? ⟨g',j*2,none⟩=some u)∧(∃ u,w.cell? ⟨g',j*2+1,none⟩=some u)∧w.frozen? ⟨g',j*2,none⟩=false∧w.frozen? ⟨g',j*2+1,none⟩=false ∧
   (∀ u:Int,OwnLk base (w.setCell ⟨g',j*2,none⟩ (.int .i64 u)) v qs (rowsF S m (updL F y.id j u))) ∧
   ∀ u:Int,OwnLk base (w.setCell ⟨g',j*2+1,none⟩ (.int .i64 u)) v qs (rowsF S m (updR F y.id j u)):=by
 have hpl:=(List.getElem?_eq_some_iff.1 hp).1
 have hL:(rowsF S m F)[p]?=some (y.id,(List.range m).map fun j=>F y.id j):=by unfold rowsF;rw [List.getElem?_map,hp];rfl
 obtain ⟨hd1,hq,ho⟩:=OwnN.get (p:=1) h hL
 obtain ⟨a,cap,e,r,c1,c2,c3,c4⟩:=h.1.rd (fun _=>rfl)
 have hlen:qs.length=S.length:=by rw [h.2.1];unfold rowsF;simp
 obtain ⟨g,hga,hgb⟩:=c3 (by intro h0;rw [h0] at hlen;simp at hlen;omega)
 cases hga
 subst e
 have hvb:(Value.slice (some ⟨g,0,none⟩) qs.length cap).ownBlock=some g:=rfl
 have hrow:((List.range m).map fun j=>F y.id j)[j]?=some (F y.id j):=by rw [List.getElem?_map,List.getElem?_range hj];rfl
 have hhd:∃ g' cap',hd1.val=.slice (some ⟨g',0,none⟩) m cap':=by
  rcases ho.2 with ⟨h1,h2⟩ | ⟨g',cap',cur,h1,_⟩
  ·exfalso;have h2':=h2;simp at h2';omega
  ·exact ⟨g',cap',by rw [h1];simp⟩
 obtain ⟨g',cap',hv'⟩:=hhd
 have hinq:InQ qs g':=⟨p,_,hq,by rw [hv'];rfl⟩
 have hcell:=(h.1.set1 (sz:=2) (enc:=encP encI) (c:=1) (fun _=>rfl) hq (by omega)).1
 rw [hv'] at ho
 obtain ⟨q0,f0,O0⟩:=own_set1 (sz:=2) (enc:=encS) (c:=0) (fun _=>rfl) ho hrow (by omega)
 obtain ⟨q1,f1,O1⟩:=own_set1 (sz:=2) (enc:=encS) (c:=1) (fun _=>rfl) ho hrow (by omega)
 have hgl:g<w.heap.size:=by obtain ⟨_,cur,hc⟩:=OwnW.blk h.1 hvb;exact heap_lt hc
 have key:∀ (c:Nat) (u:Value) (row':List (Int×Int)),OwnL 2 encS 100 base (w.setCell ⟨g',j*2+c,none⟩ u) hd1.val row'→OwnLk base (w.setCell ⟨g',j*2+c,none⟩ u) (.slice (some ⟨g,0,none⟩) qs.length cap) qs ((rowsF S m F).set p (y.id,row')):=by
  intro c u row' ho'
  exact OwnN.keep (by decide) h hq ho' ((Chg.refl _ w).setCell _ (fun x hx he=>hx.2 (by rw [hv',he];rfl)))
 refine ⟨g,cap,g',cap',by rw [hlen],hgl,inQ_ne h hvb,?_,hinq,⟨_,q0⟩,⟨_,q1⟩,f0,f1,fun u=>?_,fun u=>?_⟩
 ·rw [← hv']
  exact hcell
 ·rw [rows_set hd hp hj F (updL F y.id j u) (fun x h hx=>by unfold updL;rw [if_neg (fun e=>by rcases hx with hx | hx;exact hx e.1;exact hx e.2)])]
  have hu:updL F y.id j u y.id j=(u,(F y.id j).2):=by unfold updL;rw [if_pos ⟨rfl,rfl⟩]
  rw [hu]
  refine key 0 _ _ ?_
  rw [hv']
  exact O0 (u,(F y.id j).2) (.int .i64 u) rfl
 ·rw [rows_set hd hp hj F (updR F y.id j u) (fun x h hx=>by unfold updR;rw [if_neg (fun e=>by rcases hx with hx | hx;exact hx e.1;exact hx e.2)])]
  have hu:updR F y.id j u y.id j=((F y.id j).1,u):=by unfold updR;rw [if_pos ⟨rfl,rfl⟩]
  rw [hu]
  refine key 1 _ _ ?_
  rw [hv']
  exact O1 ((F y.id j).1,u) (.int .i64 u) rfl
end Go.Proofs.YthdkeibapcaclaaGreatDoor
