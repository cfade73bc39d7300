/- Texts for TopBalanceProof. -/
import Derived.Test.YthcholmhmcpooaaGreatDoorTopBalanceProofL24
set_option linter.unusedSimpArgs false
set_option linter.unusedVariables false

namespace Go.Proofs.YthcholmhmcpooaaGreatDoor
open Go.RowKit
theorem str_neR {x y:ByteArray} (h:¬ x=y):(x.toList==y.toList)=false:=by
 rw [ByteArray.toList_eq,ByteArray.toList_eq,beq_eq_false_iff_ne]
 intro he
 refine h ?_
 cases x
 cases y
 congr 1
 exact Array.ext' he
theorem str_eqR {x y:ByteArray} (h:x=y):(x.toList==y.toList)=true:=by subst h;simp
def ltR (x y:Rw):Bool:=Op.bytesLess x.1.toList y.1.toList
def insR (r:Rw):List Rw→List Rw
 | []=>[r]
 | x::l=>if ltR r x then r::x::l else x::insR r l
def delR (k:ByteArray) (l:List Rw):List Rw:=l.filter fun r=>!decide (r.1=k)
def stR (r:Rw) (s:List Rw×Bool) (x:Rw):List Rw×Bool:=if !s.2&&ltR r x then (s.1++[r]++[x],true) else (s.1++[x],s.2)
theorem insR_cons (r x:Rw) (l:List Rw):insR r (x::l)=if ltR r x then r::x::l else x::insR r l:=rfl
theorem stR_true (r:Rw):∀ (l:List Rw) (A:List Rw),l.foldl (stR r) (A,true)=(A++l,true)
 | [],A=>by simp
 | x::l,A=>by
  rw [List.foldl_cons,show stR r (A,true) x=(A++[x],true) from rfl,stR_true r l]
  simp
theorem stR_false (r:Rw):∀ (l:List Rw) (A:List Rw),(if (l.foldl (stR r) (A,false)).2 then (l.foldl (stR r) (A,false)).1 else (l.foldl (stR r) (A,false)).1++[r])=A++insR r l
 | [],A=>rfl
 | x::l,A=>by
  rw [List.foldl_cons]
  cases h:ltR r x with
  | true =>
   rw [show stR r (A,false) x=(A++[r]++[x],true) by unfold stR;simp [h],stR_true]
   unfold insR
   rw [if_pos h]
   simp
  | false =>
   rw [show stR r (A,false) x=(A++[x],false) by unfold stR;simp [h],stR_false r l]
   rw [insR_cons,h]
   simp
theorem mem_insR {r y:Rw}:∀ {l:List Rw},y∈insR r l→y=r∨y∈l
 | [],h=>by simp [insR] at h;exact .inl h
 | x::l,h=>by
  unfold insR at h
  split at h
  ·simpa using h
  ·rcases List.mem_cons.1 h with h | h
   ·exact .inr (by simp [h])
   ·rcases mem_insR h with h | h
    ·exact .inl h
    ·exact .inr (by simp [h])
theorem insR_len (r:Rw):∀ l:List Rw,(insR r l).length=l.length+1
 | []=>rfl
 | x::l=>by
  unfold insR
  split
  ·rfl
  ·rw [List.length_cons,insR_len r l,List.length_cons]
theorem insR_asc {r:Rw}:∀ {l:List Rw},l.Pairwise (fun x y=>ltB x.1 y.1)→(∀ x∈l,x.1≠r.1)→(insR r l).Pairwise (fun x y=>ltB x.1 y.1)
 | [],_,_=>by simp [insR]
 | x::l,h,hne=>by
  obtain ⟨h1,h2⟩:=List.pairwise_cons.1 h
  unfold insR
  split
  ·rename_i hl
   refine List.pairwise_cons.2 ⟨fun y hy=>?_,h⟩
   rcases List.mem_cons.1 hy with rfl | hy
   ·exact hl
   ·exact ltB.trans (show ltB r.1 x.1 from hl) (h1 y hy)
  ·rename_i hl
   refine List.pairwise_cons.2 ⟨fun y hy=>?_,insR_asc h2 (fun z hz=>hne z (by simp [hz]))⟩
   rcases mem_insR hy with rfl | hy
   ·rcases bl_tri x.1.toList y.1.toList with ⟨a,_,_⟩ | ⟨a,_,_⟩ | ⟨a,_,_⟩
    ·exact a
    ·exact absurd a (fun e=>by
      have h1:=str_neR (hne x (by simp))
      rw [e] at h1
      simp at h1)
    ·exact absurd a hl
   ·exact h1 y hy
theorem delR_len (k:ByteArray) (l:List Rw):(delR k l).length≤l.length:=List.length_filter_le _ _
theorem TblOk.put {l:List Rw} (h:TblOk l) {r:Rw} (h1:r.1.size≤64) (h2:r.2.size≤64) (hl:l.length≤1000):TblOk (insR r (delR r.1 l)):=by
 obtain ⟨a,b,c⟩:=h
 refine ⟨insR_asc (a.sublist List.filter_sublist) (fun x hx=>?_),fun x hx=>?_,?_⟩
 ·have:=(List.mem_filter.1 hx).2
  simpa using this
 ·rcases mem_insR hx with rfl | hx
  ·exact ⟨h1,h2⟩
  ·exact b x (List.mem_filter.1 hx).1
 ·rw [insR_len]
  have:=delR_len r.1 l
  omega
set_option maxRecDepth 100000 in
set_option maxHeartbeats 4000000 in
theorem tvalid_r (a:Option Addr) (n c:Nat) (l:List Rw) (w:World) (h:RowL w (a,n,c) l) (ht:TblOk l):Calls Tryz.prog 213 #[.slice a n c] w fun e w'=>e=.returned (.bool true)∧Ex w w':=by
 have hln:l.length=n:=h.len
 have HS:=lH h
 have HT:=lH ht
 have hn:n≤1024:=by have:=ht.2.2;omega
 clear h ht
 go_enter Tryz.func213,Tryz.ntmps213
 go_wp2_with fail
 go_loopw [10] (fun i wr=>TvRel n w i wr) (fun i _=>n-(intOf i).toNat)
 case atStart=>exact ⟨0,by omega,rfl,Ex.refl _⟩
 case round =>
  obtain ⟨k,hkl,rfl,kw⟩:=hrel
  obtain ⟨wi,rfl⟩:∃ wi:World,wi=wr:=⟨_,rfl⟩
  have KW:=lH kw
  by_cases hkn:k<n
  ·obtain ⟨x,oo,r,he,hx,hr,e0,e1⟩:=(RowL.nx HS.out kw).at (show k<l.length by omega)
   simp only at he
   subst he
   have hr64:=HT.out.2.1 r (List.mem_of_getElem? hr)
   have HRW:=lH hr
   have dv:decide ((r.1.size:Int)≤64)=true:=by simp;omega
   have dw:¬ (r.2.size:Int)>64:=by omega
   have dw2:decide ((64:Int)<(r.2.size:Int))=false:=by simp;omega
   clear kw hr
   have B4:=Blk.new wi [.string r.1,.string r.2] 199
   have kk:=Ex.new wi (.cells #[.string r.1,.string r.2] 199)
   obtain ⟨w1,hw1⟩:∃ w1,w1=wi.alloc (.cells #[.string r.1,.string r.2] 199):=⟨_,rfl⟩
   obtain ⟨g4,hg4⟩:∃ g4,g4=wi.heap.size:=⟨_,rfl⟩
   replace B4:Blk w1 g4 [.string r.1,.string r.2] 199:=by rw [hw1,hg4];exact B4
   rw [← hw1] at kk
   have Hw1:=lH hw1
   have Hg4:=lH hg4
   have K1:=lH kk
   have B4H:=lH B4
   clear kk hw1 hg4 B4
   go_upto_region 6 with fail
   rw [← Hg4.out,← Hw1.out]
   clear Hg4 Hw1
   clear e0 e1
   by_cases hk0:k=0
   ·have d0:¬ (k:Int)>0:=by omega
    subst hk0
    refine wp_region_held_drew (S:=Ex w1) (by kernel_rfl) ((Ex.refl w1).drew) (fun hHeld=>?_)
    obtain ⟨wd,hwdx⟩:∃ wd:World,wd=World.drew w1:=⟨_,rfl⟩
    rw [← hwdx] at hHeld ⊢
    have hDrew:Ex w1 wd:=by rw [hwdx];exact (Ex.refl w1).drew
    clear hwdx
    refine tkH 0 (v:=?_) rfl (by kernel_rfl) (fun _ _ _ h=>h) (by rfl) ?y5 hHeld ?_
    case y5=>intro wq hSw;go_simp<;>rfl
    try simp only [Act.put,sA,sB,sC]
    refine tkH 1 (v:=?_) rfl (by kernel_rfl) (fun _ _ _ h=>h) (by rfl) ?y8 hHeld ?_
    case y8=>intro wq hSw;(have c0:=(B4H.out.nx hSw).cell 0 _ rfl;go_simp)<;>rfl
    try simp only [Act.put,sA,sB,sC]
    refine rH 2 (by kernel_rfl) rfl fun K hK=>?_
    go_simp
    (with_reducible refine (vkey_r r.1 _).mono ?_)
    rintro e w2 ⟨rfl,rfl⟩
    rw [dv]
    refine hK.out _ _ (by assumption) (fun hHeld=>?_)
    clear hK K
    try simp only [Act.put,sA,sB,sC]
    refine tkH 3 (v:=?_) rfl (by kernel_rfl) (fun _ _ _ h=>h) (by rfl) ?y20 hHeld ?_
    case y20=>intro wq hSw;go_simp<;>rfl
    try simp only [Act.put,sA,sB,sC]
    refine tkH 4 (v:=?_) rfl (by kernel_rfl) (fun _ _ _ h=>h) (by rfl) ?y23 hHeld ?_
    case y23=>intro wq hSw;go_simp<;>rfl
    try simp only [Act.put,sA,sB,sC]
    refine tkH 5 (v:=?_) rfl (by kernel_rfl) (fun _ _ _ h=>h) (by rfl) ?y26 hHeld ?_
    case y26=>intro wq hSw;go_simp<;>rfl
    try simp only [Act.put,sA,sB,sC]
    refine tkH 6 (v:=?_) rfl (by kernel_rfl) (fun _ _ _ h=>h) (by rfl) ?y29 hHeld ?_
    case y29=>intro wq hSw;(have c1:=(B4H.out.nx hSw).cell 1 _ rfl;go_simp)<;>rfl
    try simp only [Act.put,sA,sB,sC]
    refine tkH 7 (v:=?_) rfl (by kernel_rfl) (fun _ _ _ h=>h) (by rfl) ?y32 hHeld ?_
    case y32=>intro wq hSw;go_simp<;>rfl
    try simp only [Act.put,sA,sB,sC]
    refine tkH 8 (v:=?_) rfl (by kernel_rfl) (fun _ _ _ h=>h) (by rfl) ?y35 hHeld ?_
    case y35=>intro wq hSw;go_simp<;>rfl
    try simp only [Act.put,sA,sB,sC]
    refine tkH 9 (v:=?_) rfl (by kernel_rfl) (fun _ _ _ h=>h) (by rfl) ?y38 hHeld ?_
    case y38=>intro wq hSw;go_simp<;>rfl
    try simp only [Act.put,sA,sB,sC]
    refine tkH 10 (v:=?_) rfl (by kernel_rfl) (fun _ _ _ h=>h) (by rfl) ?y41 hHeld ?_
    case y41=>intro wq hSw;go_simp<;>rfl
    try simp only [Act.put,sA,sB,sC]
    refine tkH 11 (v:=?_) rfl (by kernel_rfl) (fun _ _ _ h=>h) (by rfl) ?y44 hHeld ?_
    case y44=>intro wq hSw;go_simp<;>rfl
    try simp only [Act.put,sA,sB,sC]
    refine tkH 12 (v:=?_) rfl (by kernel_rfl) (fun _ _ _ h=>h) (by rfl) ?y47 hHeld ?_
    case y47=>intro wq hSw;go_simp<;>rfl
    try simp only [Act.put,sA,sB,sC]
    refine tkH 13 (v:=?_) rfl (by kernel_rfl) (fun _ _ _ h=>h) (by rfl) ?y50 hHeld ?_
    case y50=>intro wq hSw;go_simp<;>rfl
    try simp only [Act.put,sA,sB,sC]
    refine wpAnyH_take (i:=14) (oi:=⟨_,_,_,_,_,_⟩) (v:=undef) rfl (by kernel_rfl) (by kernel_rfl) (by kernel_rfl) (fun _ _ _ h=>h) (Or.inr ⟨by rfl,rfl⟩) (by assumption) ?_
    try simp only [Act.put,sA,sB,sC]
    refine wpAnyH_take (i:=15) (oi:=⟨_,_,_,_,_,_⟩) (v:=undef) rfl (by kernel_rfl) (by kernel_rfl) (by kernel_rfl) (fun _ _ _ h=>h) (Or.inr ⟨by rfl,rfl⟩) (by assumption) ?_
    try simp only [Act.put,sA,sB,sC]
    refine wpAnyH_take (i:=16) (oi:=⟨_,_,_,_,_,_⟩) (v:=undef) rfl (by kernel_rfl) (by kernel_rfl) (by kernel_rfl) (fun _ _ _ h=>h) (Or.inr ⟨by rfl,rfl⟩) (by assumption) ?_
    try simp only [Act.put,sA,sB,sC]
    refine wpAnyH_take (i:=17) (oi:=⟨_,_,_,_,_,_⟩) (v:=undef) rfl (by kernel_rfl) (by kernel_rfl) (by kernel_rfl) (fun _ _ _ h=>h) (Or.inr ⟨by rfl,rfl⟩) (by assumption) ?_
    try simp only [Act.put,sA,sB,sC]
    refine wpAnyH_take (i:=18) (oi:=⟨_,_,_,_,_,_⟩) (v:=undef) rfl (by kernel_rfl) (by kernel_rfl) (by kernel_rfl) (fun _ _ _ h=>h) (Or.inr ⟨by rfl,rfl⟩) (by assumption) ?_
    try simp only [Act.put,sA,sB,sC]
    refine wpAnyH_take (i:=19) (oi:=⟨_,_,_,_,_,_⟩) (v:=undef) rfl (by kernel_rfl) (by kernel_rfl) (by kernel_rfl) (fun _ _ _ h=>h) (Or.inr ⟨by rfl,rfl⟩) (by assumption) ?_
    try simp only [Act.put,sA,sB,sC]
    refine wpAnyH_take (i:=20) (oi:=⟨_,_,_,_,_,_⟩) (v:=undef) rfl (by kernel_rfl) (by kernel_rfl) (by kernel_rfl) (fun _ _ _ h=>h) (Or.inr ⟨by rfl,rfl⟩) (by assumption) ?_
    try simp only [Act.put,sA,sB,sC]
    refine wpAnyH_take (i:=21) (oi:=⟨_,_,_,_,_,_⟩) (v:=undef) rfl (by kernel_rfl) (by kernel_rfl) (by kernel_rfl) (fun _ _ _ h=>h) (Or.inr ⟨by rfl,rfl⟩) (by assumption) ?_
    try simp only [Act.put,sA,sB,sC]
    refine wpAnyH_take (i:=22) (oi:=⟨_,_,_,_,_,_⟩) (v:=undef) rfl (by kernel_rfl) (by kernel_rfl) (by kernel_rfl) (fun _ _ _ h=>h) (Or.inr ⟨by rfl,rfl⟩) (by assumption) ?_
    try simp only [Act.put,sA,sB,sC]
    refine tkH 23 (v:=?_) rfl (by kernel_rfl) (fun _ _ _ h=>h) (by rfl) ?y71 hHeld ?_
    case y71=>intro wq hSw;go_simp<;>rfl
    try simp only [Act.put,sA,sB,sC]
    refine tkH 24 (v:=?_) rfl (by kernel_rfl) (fun _ _ _ h=>h) (by rfl) ?y74 hHeld ?_
    case y74=>intro wq hSw;go_simp<;>rfl
    try simp only [Act.put,sA,sB,sC]
    refine wpAnyH_done (by kernel_rfl) ?_ _
    have RR:=lH (show TvRel n w (.int .i64 1) wd from ⟨1,by omega,rfl,KW.out.nx (K1.out.nx hDrew)⟩)
    clear hDrew hHeld
    go_wp2_with fail
    exact ⟨RR.out,by simp [intOf];omega⟩
   ·have d0:(k:Int)>0:=by omega
    have dq1:decide ((0:Int)<(k:Int))=true:=by simp;omega
    have dq2:decide (0<k)=true:=by simp;omega
    have hk1:k-1<l.length:=by omega
    obtain ⟨y,hy⟩:∃ y,l[k-1]?=some y:=⟨_,List.getElem?_eq_getElem hk1⟩
    have hlt:Op.bytesLess y.1.toList r.1.toList=true:=by
     have:=HT.out.1
     rw [List.pairwise_iff_getElem] at this
     have h1:=this (k-1) k hk1 (by omega) (by omega)
     rw [(List.getElem?_eq_some_iff.1 hy).2,(List.getElem?_eq_some_iff.1 HRW.out).2] at h1
     exact h1
    have PV:=lH (fun wq (kq:Ex w1 wq)=>show wq.cell? ⟨x,oo+(k-1)*2,none⟩=some (.string y.1) from by
     obtain ⟨x2,o2,y2,he2,_,hy2,q0,_⟩:=(RowL.nx HS.out (KW.out.nx (K1.out.nx kq))).at hk1
     simp only [Option.some.injEq,Addr.mk.injEq,and_true] at he2
     obtain ⟨rfl,rfl⟩:=he2
     rw [hy] at hy2
     cases hy2
     exact q0)
    obtain ⟨k1,hk1e⟩:∃ k1,k1=k-1:=⟨_,rfl⟩
    rw [← hk1e] at PV
    have wk1:IntKind.i64.wrap ((k:Int)-1)=(k1:Int):=by rw [IntWalk.i64_in _ (by omega)];omega
    have hk1n:(k1:Int)<(n:Int):=by omega
    clear hy hk1 hk1e hk0
    refine wp_region_held_drew (S:=Ex w1) (by kernel_rfl) ((Ex.refl w1).drew) (fun hHeld=>?_)
    obtain ⟨wd,hwdx⟩:∃ wd:World,wd=World.drew w1:=⟨_,rfl⟩
    rw [← hwdx] at hHeld ⊢
    have hDrew:Ex w1 wd:=by rw [hwdx];exact (Ex.refl w1).drew
    clear hwdx
    refine tkH 0 (v:=?_) rfl (by kernel_rfl) (fun _ _ _ h=>h) (by rfl) ?y5 hHeld ?_
    case y5=>intro wq hSw;go_simp<;>rfl
    try simp only [Act.put,sA,sB,sC]
    refine tkH 1 (v:=?_) rfl (by kernel_rfl) (fun _ _ _ h=>h) (by rfl) ?y8 hHeld ?_
    case y8=>intro wq hSw;(have c0:=(B4H.out.nx hSw).cell 0 _ rfl;go_simp)<;>rfl
    try simp only [Act.put,sA,sB,sC]
    refine rH 2 (by kernel_rfl) rfl fun K hK=>?_
    go_simp
    (with_reducible refine (vkey_r r.1 _).mono ?_)
    rintro e w2 ⟨rfl,rfl⟩
    rw [dv]
    refine hK.out _ _ (by assumption) (fun hHeld=>?_)
    clear hK K
    try simp only [Act.put,sA,sB,sC]
    refine tkH 3 (v:=?_) rfl (by kernel_rfl) (fun _ _ _ h=>h) (by rfl) ?y20 hHeld ?_
    case y20=>intro wq hSw;go_simp<;>rfl
    try simp only [Act.put,sA,sB,sC]
    refine tkH 4 (v:=?_) rfl (by kernel_rfl) (fun _ _ _ h=>h) (by rfl) ?y23 hHeld ?_
    case y23=>intro wq hSw;go_simp<;>rfl
    try simp only [Act.put,sA,sB,sC]
    refine tkH 5 (v:=?_) rfl (by kernel_rfl) (fun _ _ _ h=>h) (by rfl) ?y26 hHeld ?_
    case y26=>intro wq hSw;go_simp<;>rfl
    try simp only [Act.put,sA,sB,sC]
    refine tkH 6 (v:=?_) rfl (by kernel_rfl) (fun _ _ _ h=>h) (by rfl) ?y29 hHeld ?_
    case y29=>intro wq hSw;(have c1:=(B4H.out.nx hSw).cell 1 _ rfl;go_simp)<;>rfl
    try simp only [Act.put,sA,sB,sC]
    refine tkH 7 (v:=?_) rfl (by kernel_rfl) (fun _ _ _ h=>h) (by rfl) ?y32 hHeld ?_
    case y32=>intro wq hSw;go_simp<;>rfl
    try simp only [Act.put,sA,sB,sC]
    refine tkH 8 (v:=?_) rfl (by kernel_rfl) (fun _ _ _ h=>h) (by rfl) ?y35 hHeld ?_
    case y35=>intro wq hSw;go_simp<;>rfl
    try simp only [Act.put,sA,sB,sC]
    refine tkH 9 (v:=?_) rfl (by kernel_rfl) (fun _ _ _ h=>h) (by rfl) ?y38 hHeld ?_
    case y38=>intro wq hSw;go_simp<;>rfl
    try simp only [Act.put,sA,sB,sC]
    refine tkH 10 (v:=?_) rfl (by kernel_rfl) (fun _ _ _ h=>h) (by rfl) ?y41 hHeld ?_
    case y41=>intro wq hSw;go_simp<;>rfl
    try simp only [Act.put,sA,sB,sC]
    refine tkH 11 (v:=?_) rfl (by kernel_rfl) (fun _ _ _ h=>h) (by rfl) ?y44 hHeld ?_
    case y44=>intro wq hSw;go_simp<;>rfl
    try simp only [Act.put,sA,sB,sC]
    refine tkH 12 (v:=?_) rfl (by kernel_rfl) (fun _ _ _ h=>h) (by rfl) ?y47 hHeld ?_
    case y47=>intro wq hSw;go_simp<;>rfl
    try simp only [Act.put,sA,sB,sC]
    refine tkH 13 (v:=?_) rfl (by kernel_rfl) (fun _ _ _ h=>h) (by rfl) ?y50 hHeld ?_
    case y50=>intro wq hSw;go_simp<;>rfl
    try simp only [Act.put,sA,sB,sC]
    refine tkH 14 (v:=?_) rfl (by kernel_rfl) (fun _ _ _ h=>h) (by rfl) ?y53 hHeld ?_
    case y53=>intro wq hSw;go_simp<;>rfl
    try simp only [Act.put,sA,sB,sC]
    refine tkH 15 (v:=?_) rfl (by kernel_rfl) (fun _ _ _ h=>h) (by rfl) ?y56 hHeld ?_
    case y56=>intro wq hSw;go_simp<;>rfl
    try simp only [Act.put,sA,sB,sC]
    refine tkH 16 (v:=?_) rfl (by kernel_rfl) (fun _ _ _ h=>h) (by rfl) ?y59 hHeld ?_
    case y59=>intro wq hSw;go_simp<;>rfl
    try simp only [Act.put,sA,sB,sC]
    refine tkH 17 (v:=?_) rfl (by kernel_rfl) (fun _ _ _ h=>h) (by rfl) ?y62 hHeld ?_
    case y62=>intro wq hSw;go_simp<;>rfl
    try simp only [Act.put,sA,sB,sC]
    refine tkH 18 (v:=?_) rfl (by kernel_rfl) (fun _ _ _ h=>h) (by rfl) ?y65 hHeld ?_
    case y65=>intro wq hSw;go_simp<;>rfl
    try simp only [Act.put,sA,sB,sC]
    refine tkH 19 (v:=?_) rfl (by kernel_rfl) (fun _ _ _ h=>h) (by rfl) ?y68 hHeld ?_
    case y68=>intro wq hSw;(have cq:=PV.out _ hSw;go_simp)<;>rfl
    try simp only [Act.put,sA,sB,sC]
    refine tkH 20 (v:=?_) rfl (by kernel_rfl) (fun _ _ _ h=>h) (by rfl) ?y71 hHeld ?_
    case y71=>intro wq hSw;go_simp<;>rfl
    try simp only [Act.put,sA,sB,sC]
    refine tkH 21 (v:=?_) rfl (by kernel_rfl) (fun _ _ _ h=>h) (by rfl) ?y74 hHeld ?_
    case y74=>intro wq hSw;(have c0:=(B4H.out.nx hSw).cell 0 _ rfl;go_simp)<;>rfl
    try simp only [Act.put,sA,sB,sC]
    refine tkH 22 (v:=?_) rfl (by kernel_rfl) (fun _ _ _ h=>h) (by rfl) ?y77 hHeld ?_
    case y77=>intro wq hSw;go_simp<;>rfl
    try simp only [Act.put,sA,sB,sC]
    refine tkH 23 (v:=?_) rfl (by kernel_rfl) (fun _ _ _ h=>h) (by rfl) ?y80 hHeld ?_
    case y80=>intro wq hSw;go_simp<;>rfl
    try simp only [Act.put,sA,sB,sC]
    refine tkH 24 (v:=?_) rfl (by kernel_rfl) (fun _ _ _ h=>h) (by rfl) ?y83 hHeld ?_
    case y83=>intro wq hSw;go_simp<;>rfl
    try simp only [Act.put,sA,sB,sC]
    refine wpAnyH_done (by kernel_rfl) ?_ _
    have RR:=lH (show TvRel n w (.int .i64 ((k:Int)+1)) wd from ⟨k+1,by omega,by go_num,KW.out.nx (K1.out.nx hDrew)⟩)
    clear hDrew hHeld
    go_wp2_with fail
    exact ⟨RR.out,by simp [intOf];omega⟩
  ·obtain rfl:k=n:=by omega
   clear kw
   go_wp2_with fail
   go_ret
   exact ⟨rfl,KW.out⟩
def DelRel (key:ByteArray) (l:List Rw) (w:World) (o i:Value) (wr:World):Prop :=
 ∃ k:Nat,k≤l.length∧i=.int .i64 k∧OwnL 2 encR 199 w.heap.size wr o (delR key (l.take k))∧Ex w wr
theorem delR_app (key:ByteArray) (X:List Rw) (r:Rw):delR key (X++[r])=delR key X++(if r.1=key then [] else [r]):=by
 unfold delR
 rw [List.filter_append,List.filter_cons]
 by_cases h:r.1=key<;>simp [h]
set_option maxRecDepth 100000 in
set_option maxHeartbeats 4000000 in
theorem without_r (a:Option Addr) (n c:Nat) (l:List Rw) (key:ByteArray) (w:World) (h:RowL w (a,n,c) l) (hn:n≤10000) :
  Calls Tryz.prog 231 #[.slice a n c,.string key] w fun e w'=>∃ v,e=.returned v∧OwnL 2 encR 199 w.heap.size w' v (delR key l)∧Ex w w':=by
 have hln:l.length=n:=h.len
 have HS:=lH h
 clear h
 go_enter Tryz.func231,Tryz.ntmps231
 go_wp2_with fail
 go_loopw [5,10] (fun o i wr=>DelRel key l w o i wr) (fun _ i _=>n-(intOf i).toNat)
 case atStart=>exact ⟨0,by omega,rfl,OwnL.nil _ _ _ _ _,Ex.refl _⟩
 case round =>
  obtain ⟨k,hkl,rfl,own,kw⟩:=hrel
  obtain ⟨wi,rfl⟩:∃ wi:World,wi=wr:=⟨_,rfl⟩
  have KW:=lH kw
  have OWN:=lH own
  by_cases hkn:k<n
  ·obtain ⟨x,oo,r,he,hx,hr,e0,e1⟩:=(RowL.nx HS.out kw).at (show k<l.length by omega)
   simp only at he
   subst he
   have TK:=lH (take_snocR hr)
   have hfl:(delR key (l.take k)).length≤10000:=by
    have:=delR_len key (l.take k)
    rw [List.length_take] at this
    omega
   have zw:=kw.size
   clear hr own kw
   have B7:=Blk.new wi [.string r.1,.string r.2] 199
   have kk:=Ex.new wi (.cells #[.string r.1,.string r.2] 199)
   obtain ⟨w2,hw2⟩:∃ w2,w2=wi.alloc (.cells #[.string r.1,.string r.2] 199):=⟨_,rfl⟩
   obtain ⟨g7,hg7⟩:∃ g7,g7=wi.heap.size:=⟨_,rfl⟩
   replace B7:Blk w2 g7 [.string r.1,.string r.2] 199:=by rw [hw2,hg7];exact B7
   rw [← hw2] at kk
   have Hw2:=lH hw2
   have Hg7:=lH hg7
   have K2:=lH (KW.out.nx kk)
   have own3:=OWN.out.nx kk
   have z2:=kk.size
   clear kk hw2 hg7
   go_upto_region 5 with fail
   rw [← Hg7.out,← Hw2.out]
   clear Hg7 Hw2
   clear e0 e1
   have c0:=B7.cell 0 _ rfl
   have c1:=B7.cell 1 _ rfl
   have DA:=lH (delR_app key (l.take k) r)
   by_cases hv:r.1=key
   ·have RR:=lH (show DelRel key l w _ (.int .i64 ((k:Int)+1)) w2 from ⟨k+1,by omega,by go_num,by rw [TK.out,DA.out,if_pos hv,List.append_nil];exact own3,K2.out⟩)
    have hv2:=str_eqR hv
    clear own3 DA hv
    go_wp2_with fail
    exact ⟨RR.out,by simp [intOf];omega⟩
   ·have hv2:=str_neR hv
    have HV:=lH hv
    clear hv
    have k5:=Ex.new w2 (.cells #[.string r.1,.string r.2] 199)
    have SX:Sl 2 encR (w2.alloc (.cells #[.string r.1,.string r.2] 199)) (some ⟨w2.heap.size,0,none⟩) 1 [r]:=Sl.lit _ rfl rfl (fun _=>rfl) rfl
    have own5:=own3.nx k5
    have z5:=k5.size
    clear own3
    go_upto_region 7 with (at_builtin;(refine wpList_append_rd (enc:=encR) _ rfl _ _ 85 rfl w.heap.size 199 (.agg #[.string ByteArray.empty,.string ByteArray.empty]) 2 32 Tryz.underlying85 Tryz.infoRw rfl (by omega) (by omega) _ _ own5 rfl _ _ 1 1 [r] SX (fun h=>by cases h) (fun _=>rfl) (by simp [encR,Value.oneCell']) rfl (by omega) (by omega) (by omega) ?_);intro v7 w7 own7 ch0 ch1)
    have RR:=lH (show DelRel key l w v7 (.int .i64 ((k:Int)+1)) w7 from ⟨k+1,by omega,by go_num,by rw [TK.out,DA.out,if_neg HV.out];exact own7,Chg.trans (K2.out.nx k5) ch1⟩)
    clear own7 ch0 ch1 own5 SX k5 c0 c1
    go_wp2_with fail
    exact ⟨RR.out,by simp [intOf];omega⟩
  ·obtain rfl:k=n:=by omega
   rw [List.take_of_length_le (by omega)] at own
   have OW:=lH own
   clear own kw OWN
   go_wp2_with fail
   go_ret
   exact ⟨_,rfl,OW.out,KW.out⟩
def WithRel (r:Rw) (l:List Rw) (w:World) (o d i:Value) (wr:World):Prop :=
 ∃ (k:Nat) (A:List Rw) (D:Bool),k≤l.length∧i=.int .i64 k∧(l.take k).foldl (stR r) ([],false)=(A,D)∧A.length≤k+(if D then 1 else 0)∧d=.bool D∧OwnL 2 encR 199 w.heap.size wr o A∧Ex w wr
theorem gt_true {a b:ByteArray} (h:Op.bytesLess a.toList b.toList=true):Op.bytesLess b.toList a.toList=false∧(b.toList==a.toList)=false:=by
 refine ⟨bl_asymm h,?_⟩
 rw [beq_eq_false_iff_ne]
 intro e
 rw [e,bytesLess_irrefl] at h
 cases h
theorem gt_false {a b:ByteArray} (h:Op.bytesLess a.toList b.toList=false):(!Op.bytesLess b.toList a.toList&&!(b.toList==a.toList))=false:=by
 rcases bl_tri b.toList a.toList with ⟨h1,_,_⟩ | ⟨h1,_,_⟩ | ⟨h1,_,_⟩
 ·rw [h1];rfl
 ·rw [h1];simp
 ·rw [h1] at h;cases h
theorem foldl_snocR {r x:Rw} {l:List Rw} {k:Nat} {A:List Rw} {D:Bool} (h:l[k]?=some x) (e:(l.take k).foldl (stR r) ([],false)=(A,D)):(l.take (k+1)).foldl (stR r) ([],false)=stR r (A,D) x:=by
 rw [take_snocR h,List.foldl_append,e]
 rfl
set_option maxRecDepth 100000 in
set_option maxHeartbeats 8000000 in
theorem with_r (a:Option Addr) (n c:Nat) (l:List Rw) (r:Rw) (w:World) (h:RowL w (a,n,c) l) (hn:n≤10000) :
  Calls Tryz.prog 214 #[.slice a n c,.agg #[.string r.1,.string r.2]] w fun e w'=>∃ v,e=.returned v∧OwnL 2 encR 199 w.heap.size w' v (insR r (delR r.1 l))∧Ex w w':=by
 have hln:l.length=n:=h.len
 have HS:=lH h
 have B3:=Blk.new w [.string r.1,.string r.2] 199
 have kk:=Ex.new w (.cells #[.string r.1,.string r.2] 199)
 obtain ⟨w1,hw1⟩:∃ w1,w1=w.alloc (.cells #[.string r.1,.string r.2] 199):=⟨_,rfl⟩
 obtain ⟨g3,hg3⟩:∃ g3,g3=w.heap.size:=⟨_,rfl⟩
 replace B3:Blk w1 g3 [.string r.1,.string r.2] 199:=by rw [hw1,hg3];exact B3
 rw [← hw1] at kk
 have Hw1:=lH hw1
 have Hg3:=lH hg3
 have K1:=lH kk
 have B3H:=lH B3
 have z01:=kk.size
 have b0:=B3.cell 0 _ rfl
 clear kk hw1 hg3 B3 h
 go_enter Tryz.func214,Tryz.ntmps214
 go_upto_region 1 with fail
 rw [← Hg3.out,← Hw1.out]
 clear Hg3 Hw1
 go_wp2_with fail
 (with_reducible refine (without_r a n c l r.1 _ (RowL.nx HS.out K1.out) hn).mono ?_)
 rintro e w2 ⟨v,rfl,own,kk⟩
 have K2:=lH (K1.out.nx kk)
 have KB:=lH kk
 have z2:=kk.size
 obtain ⟨m,hm⟩:∃ m,m=delR r.1 l:=⟨_,rfl⟩
 rw [← hm] at own
 have HM:=lH hm
 have hml:m.length≤10000:=by rw [hm];have:=delR_len r.1 l;omega
 obtain ⟨aM,cM,rfl,rM⟩:=own.rowF
 have RM:=lH rM.l
 clear kk own rM hm b0
 go_wp2_with fail
 go_loopw [5,6,14] (fun o d i wr=>WithRel r m w2 o d i wr) (fun _ _ i _=>m.length-(intOf i).toNat)
 case atStart=>exact ⟨0,[],false,by omega,rfl,rfl,by simp,rfl,OwnL.nil _ _ _ _ _,Ex.refl _⟩
 case round =>
  obtain ⟨k,A,D,hk,rfl,hf,hAl,rfl,own,kw⟩:=hrel
  obtain ⟨wi,rfl⟩:∃ wi:World,wi=wr:=⟨_,rfl⟩
  have KW:=lH kw
  have OWN:=lH own
  have HF:=lH hf
  by_cases hkn:k<m.length
  ·obtain ⟨x,oo,y,he,hx,hr,e0,e1⟩:=(RowL.nx RM.out kw).at (show k<m.length by omega)
   simp only at he
   subst he
   have FSn:=lH (foldl_snocR hr hf)
   have zw:=kw.size
   clear hr own kw hf
   have B8:=Blk.new wi [.string y.1,.string y.2] 199
   have kk:=Ex.new wi (.cells #[.string y.1,.string y.2] 199)
   obtain ⟨w3,hw3⟩:∃ w3,w3=wi.alloc (.cells #[.string y.1,.string y.2] 199):=⟨_,rfl⟩
   obtain ⟨g8,hg8⟩:∃ g8,g8=wi.heap.size:=⟨_,rfl⟩
   replace B8:Blk w3 g8 [.string y.1,.string y.2] 199:=by rw [hw3,hg8];exact B8
   rw [← hw3] at kk
   have Hw3:=lH hw3
   have Hg8:=lH hg8
   have K3:=lH (KW.out.nx kk)
   have own3:=OWN.out.nx kk
   have z3:=kk.size
   have z8:wi.heap.size≤g8:=by omega
   have hAk:A.length≤k+1:=by revert hAl;cases D<;>simp<;>omega
   clear kk hw3 hg8
   go_upto_region 6 with fail
   rw [← Hg8.out,← Hw3.out]
   clear Hg8 Hw3
   clear e0 e1
   have B33:=B3H.out.nx (KB.out.nx K3.out)
   have c0:=B8.cell 0 _ rfl
   have c1:=B8.cell 1 _ rfl
   have b0:=B33.cell 0 _ rfl
   have b1:=B33.cell 1 _ rfl
   have HS2:=lH (show ∀ q:Bool,q=(!D&&Op.bytesLess r.1.toList y.1.toList)→stR r (A,D) y=if q then (A++[r]++[y],true) else (A++[y],D) from fun q hq=>by rw [hq];rfl)
   clear B8 B33
   cases hq:(!D&&Op.bytesLess r.1.toList y.1.toList) with
   | true =>
    have hq2:=hq
    rw [Bool.and_eq_true] at hq2
    obtain ⟨hD,hL0⟩:=hq2
    obtain ⟨hL,hL2⟩:=gt_true hL0
    have hD:D=false:=by simpa using hD
    subst hD
    have EQ:=lH (HS2.out true (by rw [hq]))
    have nb:=fun g h=>heap_lt (OwnL.blk OWN.out (g:=g) h).2.choose_spec
    have C0:=lH c0
    have C1:=lH c1
    have h8l:g8<w3.heap.size:=World.block_lt_of_cell? w3 _ c0
    clear hq hL0
    have k5:=Ex.new w3 (.cells #[.string r.1,.string r.2] 199)
    have SX:Sl 2 encR (w3.alloc (.cells #[.string r.1,.string r.2] 199)) (some ⟨w3.heap.size,0,none⟩) 1 [r]:=Sl.lit _ rfl rfl (fun _=>rfl) rfl
    have own5:=own3.nx k5
    have zk5:=k5.size
    clear own3
    go_upto_region 8 with (at_builtin;(refine wpList_append_rd (enc:=encR) _ rfl _ _ 85 rfl w2.heap.size 199 (.agg #[.string ByteArray.empty,.string ByteArray.empty]) 2 32 Tryz.underlying85 Tryz.infoRw rfl (by omega) (by omega) _ _ own5 rfl _ _ 1 1 [r] SX (fun h=>by cases h) (fun _=>rfl) (by simp [encR,Value.oneCell']) rfl (by omega) (by omega) (by omega) ?_);intro v7 w7 own7 ch0 ch1)
    have K7:=lH (show Ex w2 w7 from Chg.trans (K3.out.nx k5) ch1)
    have zk7:=K7.out.size
    have d0:=ch0.cellv (k5.cellv C0.out h8l) ⟨by show g8<_;omega,fun e=>by have:=nb g8 e;omega⟩
    have d1:=ch0.cellv (k5.cellv C1.out h8l) ⟨by show g8<_;omega,fun e=>by have:=nb g8 e;omega⟩
    have hA7:(A++[r]).length≤10001:=by rw [List.length_append];simp;omega
    obtain ⟨A7,hA7e⟩:∃ A7,A7=A++[r]:=⟨_,rfl⟩
    rw [← hA7e] at own7 hA7 EQ
    have hlA:A7.length≤k+1:=by simp at hAl;rw [hA7e,List.length_append];simp;omega
    clear SX own5 ch0 ch1 k5 zk5 hA7e nb b0 b1 c0 c1
    have k8:=Ex.new w7 (.cells #[.string y.1,.string y.2] 199)
    have SY:Sl 2 encR (w7.alloc (.cells #[.string y.1,.string y.2] 199)) (some ⟨w7.heap.size,0,none⟩) 1 [y]:=Sl.lit _ rfl rfl (fun _=>rfl) rfl
    have own8:=own7.nx k8
    have zk8:=k8.size
    clear own7
    go_upto_region 9 with (at_builtin;(refine wpList_append_rd (enc:=encR) _ rfl _ _ 85 rfl w2.heap.size 199 (.agg #[.string ByteArray.empty,.string ByteArray.empty]) 2 32 Tryz.underlying85 Tryz.infoRw rfl (by omega) (by omega) _ _ own8 rfl _ _ 1 1 [y] SY (fun h=>by cases h) (fun _=>rfl) (by simp [encR,Value.oneCell']) rfl (by omega) (by omega) (by omega) ?_);intro v9 w9 own9 ch0 ch1)
    have RR:=lH (show WithRel r m w2 v9 (.bool true) (.int .i64 ((k:Int)+1)) w9 from ⟨k+1,A7++[y],true,by omega,by go_num,by rw [FSn.out,EQ.out];rfl,by (try simp at hAl);rw [List.length_append];simp;omega,rfl,own9,Chg.trans (K7.out.nx k8) ch1⟩)
    clear own9 ch0 ch1 SY own8 k8 d0 d1
    go_wp2_with fail
    exact ⟨RR.out,by simp [intOf];omega⟩
   | false =>
    have EQ:=lH (HS2.out false (by rw [hq]))
    have dq:D=true∨(D=false∧(!Op.bytesLess y.1.toList r.1.toList&&!(y.1.toList==r.1.toList))=false):=by
     cases D with
     | true=>exact .inl rfl
     | false=>exact .inr ⟨rfl,gt_false (by simpa using hq)⟩
    clear hq
    rcases dq with rfl | ⟨rfl,hL⟩
    ·have k8:=Ex.new w3 (.cells #[.string y.1,.string y.2] 199)
     have SY:Sl 2 encR (w3.alloc (.cells #[.string y.1,.string y.2] 199)) (some ⟨w3.heap.size,0,none⟩) 1 [y]:=Sl.lit _ rfl rfl (fun _=>rfl) rfl
     have own8:=own3.nx k8
     have zk8:=k8.size
     clear own3
     go_upto_region 9 with (at_builtin;(refine wpList_append_rd (enc:=encR) _ rfl _ _ 85 rfl w2.heap.size 199 (.agg #[.string ByteArray.empty,.string ByteArray.empty]) 2 32 Tryz.underlying85 Tryz.infoRw rfl (by omega) (by omega) _ _ own8 rfl _ _ 1 1 [y] SY (fun h=>by cases h) (fun _=>rfl) (by simp [encR,Value.oneCell']) rfl (by omega) (by omega) (by omega) ?_);intro v9 w9 own9 ch0 ch1)
     have RR:=lH (show WithRel r m w2 v9 (.bool true) (.int .i64 ((k:Int)+1)) w9 from ⟨k+1,A++[y],true,by omega,by go_num,by rw [FSn.out,EQ.out];rfl,by (try simp at hAl);rw [List.length_append];simp;omega,rfl,own9,Chg.trans (K3.out.nx k8) ch1⟩)
     clear own9 ch0 ch1 SY own8 k8 c0 c1 b0 b1
     go_wp2_with fail
     exact ⟨RR.out,by simp [intOf];omega⟩
    ·have k8:=Ex.new w3 (.cells #[.string y.1,.string y.2] 199)
     have SY:Sl 2 encR (w3.alloc (.cells #[.string y.1,.string y.2] 199)) (some ⟨w3.heap.size,0,none⟩) 1 [y]:=Sl.lit _ rfl rfl (fun _=>rfl) rfl
     have own8:=own3.nx k8
     have zk8:=k8.size
     clear own3
     go_upto_region 9 with (at_builtin;(refine wpList_append_rd (enc:=encR) _ rfl _ _ 85 rfl w2.heap.size 199 (.agg #[.string ByteArray.empty,.string ByteArray.empty]) 2 32 Tryz.underlying85 Tryz.infoRw rfl (by omega) (by omega) _ _ own8 rfl _ _ 1 1 [y] SY (fun h=>by cases h) (fun _=>rfl) (by simp [encR,Value.oneCell']) rfl (by omega) (by omega) (by omega) ?_);intro v9 w9 own9 ch0 ch1)
     have RR:=lH (show WithRel r m w2 v9 (.bool false) (.int .i64 ((k:Int)+1)) w9 from ⟨k+1,A++[y],false,by omega,by go_num,by rw [FSn.out,EQ.out];rfl,by (try simp at hAl);rw [List.length_append];simp;omega,rfl,own9,Chg.trans (K3.out.nx k8) ch1⟩)
     clear own9 ch0 ch1 SY own8 k8 c0 c1 b0 b1
     go_wp2_with fail
     exact ⟨RR.out,by simp [intOf];omega⟩
  ·obtain rfl:k=m.length:=by omega
   rw [List.take_of_length_le (Nat.le_refl _)] at hf
   have HFE:=lH (stR_false r m [])
   rw [hf,List.nil_append] at HFE
   have z1:=KW.out.size
   have zb:w.heap.size≤w2.heap.size:=by omega
   have hAf:A.length≤10001:=by revert hAl;cases D<;>simp<;>omega
   have KE:=lH (K2.out.nx KW.out)
   cases D with
   | true =>
    have OW:=lH (own.base zb)
    have HE:Hid (A=insR r m):=HFE
    clear own kw OWN hf
    go_wp2_with fail
    go_ret
    exact ⟨_,rfl,by rw [← HM.out,← HE.out];exact OW.out,KE.out⟩
   | false =>
    have HE:Hid (A++[r]=insR r m):=HFE
    have B33:=B3H.out.nx (KB.out.nx KW.out)
    have b0:=B33.cell 0 _ rfl
    have b1:=B33.cell 1 _ rfl
    have k5:=Ex.new wi (.cells #[.string r.1,.string r.2] 199)
    have SX:Sl 2 encR (wi.alloc (.cells #[.string r.1,.string r.2] 199)) (some ⟨wi.heap.size,0,none⟩) 1 [r]:=Sl.lit _ rfl rfl (fun _=>rfl) rfl
    have own5:=own.nx k5
    have zk5:=k5.size
    clear own kw OWN hf B33
    go_upto_region 12 with (at_builtin;(refine wpList_append_rd (enc:=encR) _ rfl _ _ 85 rfl w2.heap.size 199 (.agg #[.string ByteArray.empty,.string ByteArray.empty]) 2 32 Tryz.underlying85 Tryz.infoRw rfl (by omega) (by omega) _ _ own5 rfl _ _ 1 1 [r] SX (fun h=>by cases h) (fun _=>rfl) (by simp [encR,Value.oneCell']) rfl (by omega) (by omega) (by omega) ?_);intro v7 w7 own7 ch0 ch1)
    have OW:=lH (own7.base zb)
    have K7:=lH (show Ex w w7 from (KE.out.nx k5).trans (ch1.mono (fun x hx=>by have hx':x<w.heap.size:=hx;show x<w2.heap.size;omega)))
    clear own7 ch0 ch1 own5 SX k5 b0 b1
    go_wp2_with fail
    go_ret
    exact ⟨_,rfl,by rw [← HM.out,← HE.out];exact OW.out,K7.out⟩
set_option maxHeartbeats 4000000 in
theorem put_r (a:Option Addr) (n c:Nat) (l:List Rw) (r:Rw) (w:World) (h:RowL w (a,n,c) l) (ht:TblOk l) (hl:l.length≤1000) (h1:r.1.size≤64) (h2:r.2.size≤64) :
  Calls Tryz.prog 177 #[.slice a n c,.agg #[.string r.1,.string r.2]] w fun e w'=>∃ v,e=.returned (.tuple #[v,.int .i64 0])∧OwnL 2 encR 199 w.heap.size w' v (insR r (delR r.1 l))∧Ex w w':=by
 have hln:l.length=n:=h.len
 have HS:=lH h
 have HT:=lH ht
 have OK1:Hid (TblOk [r]):=lH ⟨by simp,fun x hx=>by rw [List.mem_singleton.1 hx];exact ⟨h1,h2⟩,by simp⟩
 have hlen:(insR r (delR r.1 l)).length≤1024:=by rw [insR_len];have:=delR_len r.1 l;omega
 have B3:=Blk.new w [.string r.1,.string r.2] 199
 have kk:=Ex.new w (.cells #[.string r.1,.string r.2] 199)
 obtain ⟨w1,hw1⟩:∃ w1,w1=w.alloc (.cells #[.string r.1,.string r.2] 199):=⟨_,rfl⟩
 obtain ⟨g3,hg3⟩:∃ g3,g3=w.heap.size:=⟨_,rfl⟩
 replace B3:Blk w1 g3 [.string r.1,.string r.2] 199:=by rw [hw1,hg3];exact B3
 rw [← hw1] at kk
 have Hw1:=lH hw1
 have Hg3:=lH hg3
 have K1:=lH kk
 have z01:=kk.size
 clear kk hw1 hg3 h ht h1 h2
 go_enter Tryz.func177,Tryz.ntmps177
 go_upto_region 1 with fail
 rw [← Hg3.out,← Hw1.out]
 clear Hg3 Hw1
 go_wp2_with fail
 (with_reducible refine (tvalid_r a n c l _ (RowL.nx HS.out K1.out) HT.out).mono ?_)
 rintro e w2 ⟨rfl,kk⟩
 have K2:=lH (K1.out.nx kk)
 have B32:=B3.nx kk
 have c0:=B32.cell 0 _ rfl
 have c1:=B32.cell 1 _ rfl
 have LIT:=lH (show RowL (w2.alloc (.cells #[.string r.1,.string r.2] 199)) (some ⟨w2.heap.size,0,none⟩,1,1) [r] from ⟨Sl.lit [r] rfl rfl (fun _=>rfl) rfl,Nat.le_refl _,by show 1≤maxLen;unfold maxLen;omega,fun h=>by cases h⟩)
 have K3:=lH (Ex.new w2 (.cells #[.string r.1,.string r.2] 199))
 clear kk B3
 go_wp2_with fail
 (with_reducible refine (tvalid_r (some ⟨w2.heap.size,0,none⟩) 1 1 [r] _ LIT.out OK1.out).mono ?_)
 rintro e w4 ⟨rfl,kk⟩
 have K4:=lH (K2.out.nx (K3.out.nx kk))
 have B34:=B32.nx (K3.out.nx kk)
 clear kk c0 c1 B32
 have c0:=B34.cell 0 _ rfl
 have c1:=B34.cell 1 _ rfl
 go_wp2_with fail
 (with_reducible refine (with_r a n c l r _ (RowL.nx HS.out K4.out) (by omega)).mono ?_)
 rintro e w5 ⟨v,rfl,own,kk⟩
 obtain ⟨av,cv,rfl,_⟩:=own.rowF
 have zk:=K4.out.size
 have OW:=lH (own.base zk)
 have K5:=lH (K4.out.nx kk)
 have dl:¬ ((insR r (delR r.1 l)).length:Int)>1024:=by omega
 obtain ⟨LL,hLL⟩:∃ LL,LL=insR r (delR r.1 l):=⟨_,rfl⟩
 rw [← hLL] at OW dl hlen ⊢
 have HLL:=lH hLL
 clear kk own c0 c1 B34 hLL
 go_wp2_with fail
 refine bodyPost_ret (v:=.tuple #[.slice av LL.length cv,.int .i64 0]) (by simp [results,Tryz.results177,go_sem, *]) rfl ⟨_,rfl,by rw [← HLL.out];exact OW.out,K5.out⟩
set_option maxRecDepth 100000 in
set_option maxHeartbeats 4000000 in
theorem value_t {b:Nat} (w:World) (h:TK w b):Calls Tryz.prog 179 #[.pointer (some ⟨b,0,none⟩)] w (KeyPost 64 b w):=by
 go_enter Tryz.func179,Tryz.ntmps179
 go_wp2_with fail
 refine (next_t 9 _ h (by omega) (by omega)).mono ?_
 rintro e w1 ⟨r,rfl,r0,r1,T,k1⟩
 clear h
 by_cases h6:r=6
 ·subst h6
  go_wp2_with fail
  go_ret
  exact ⟨_,rfl,by simp [ByteArray.size],T,k1⟩
 ·have d6:(r==6)=false:=by simp [h6]
  by_cases h7:r=7
  ·subst h7
   clear h6
   go_wp2_with fail
   refine (long_x ⟨#[57]⟩ 64 _ (by simp [ByteArray.size]) (by omega)).mono ?_
   rintro e w3 ⟨⟨s,rfl,hr⟩,rfl⟩
   have HR:=lH hr
   clear hr
   go_wp2_with fail
   go_ret
   exact ⟨s,rfl,Nat.le_of_eq HR.out,T,k1⟩
  ·have d7:(r==7)=false:=by simp [h7]
   by_cases h8:r=8
   ·subst h8
    clear h6 h7
    go_wp2_with fail
    go_ret
    exact ⟨_,rfl,by simp [ByteArray.size],T,k1⟩
   ·have d8:(r==8)=false:=by simp [h8]
    clear h6 h7 h8
    go_wp2_with fail
    refine (next_t 6 _ T (by omega) (by omega)).mono ?_
    clear T
    rintro e w2 ⟨j,rfl,j0,j1,T,k2⟩
    have kk:=k1.nxb k2
    clear k1 k2
    rcases (show j=0∨j=1∨j=2∨j=3∨j=4∨j=5 by omega) with rfl | rfl | rfl | rfl | rfl | rfl
    ·have i0:∀ w,(Instr.index 133 (.agg #[.string ⟨#[49]⟩,.string ⟨#[45,55]⟩,.string ⟨#[]⟩,.string ⟨#[48]⟩,.string ⟨#[49,48,48,48,48,48,48,48,48,48,48,48,48]⟩,.string ⟨#[49,50]⟩]) (.int .i64 0)).run Tryz.prog w=.ok (.string ⟨#[49]⟩) w:=fun _=>by kernel_rfl
     go_wp2_with fail
     go_ret
     exact ⟨_,rfl,by simp [ByteArray.size],T,kk⟩
    ·have i0:∀ w,(Instr.index 133 (.agg #[.string ⟨#[49]⟩,.string ⟨#[45,55]⟩,.string ⟨#[]⟩,.string ⟨#[48]⟩,.string ⟨#[49,48,48,48,48,48,48,48,48,48,48,48,48]⟩,.string ⟨#[49,50]⟩]) (.int .i64 1)).run Tryz.prog w=.ok (.string ⟨#[45,55]⟩) w:=fun _=>by kernel_rfl
     go_wp2_with fail
     go_ret
     exact ⟨_,rfl,by simp [ByteArray.size],T,kk⟩
    ·have i0:∀ w,(Instr.index 133 (.agg #[.string ⟨#[49]⟩,.string ⟨#[45,55]⟩,.string ⟨#[]⟩,.string ⟨#[48]⟩,.string ⟨#[49,48,48,48,48,48,48,48,48,48,48,48,48]⟩,.string ⟨#[49,50]⟩]) (.int .i64 2)).run Tryz.prog w=.ok (.string ⟨#[]⟩) w:=fun _=>by kernel_rfl
     go_wp2_with fail
     go_ret
     exact ⟨_,rfl,by simp [ByteArray.size],T,kk⟩
    ·have i0:∀ w,(Instr.index 133 (.agg #[.string ⟨#[49]⟩,.string ⟨#[45,55]⟩,.string ⟨#[]⟩,.string ⟨#[48]⟩,.string ⟨#[49,48,48,48,48,48,48,48,48,48,48,48,48]⟩,.string ⟨#[49,50]⟩]) (.int .i64 3)).run Tryz.prog w=.ok (.string ⟨#[48]⟩) w:=fun _=>by kernel_rfl
     go_wp2_with fail
     go_ret
     exact ⟨_,rfl,by simp [ByteArray.size],T,kk⟩
    ·have i0:∀ w,(Instr.index 133 (.agg #[.string ⟨#[49]⟩,.string ⟨#[45,55]⟩,.string ⟨#[]⟩,.string ⟨#[48]⟩,.string ⟨#[49,48,48,48,48,48,48,48,48,48,48,48,48]⟩,.string ⟨#[49,50]⟩]) (.int .i64 4)).run Tryz.prog w=.ok (.string ⟨#[49,48,48,48,48,48,48,48,48,48,48,48,48]⟩) w:=fun _=>by kernel_rfl
     go_wp2_with fail
     go_ret
     exact ⟨_,rfl,by simp [ByteArray.size],T,kk⟩
    ·have i0:∀ w,(Instr.index 133 (.agg #[.string ⟨#[49]⟩,.string ⟨#[45,55]⟩,.string ⟨#[]⟩,.string ⟨#[48]⟩,.string ⟨#[49,48,48,48,48,48,48,48,48,48,48,48,48]⟩,.string ⟨#[49,50]⟩]) (.int .i64 5)).run Tryz.prog w=.ok (.string ⟨#[49,50]⟩) w:=fun _=>by kernel_rfl
     go_wp2_with fail
     go_ret
     exact ⟨_,rfl,by simp [ByteArray.size],T,kk⟩
theorem has_all (s:ByteArray):hasV ⟨#[]⟩ ⟨#[]⟩ true s=true:=by
 unfold hasV
 rw [show (⟨#[]⟩:ByteArray).toList=[] from by rw [ByteArray.toList_eq],less_nil]
 rfl
theorem rg_all:RgOk ⟨#[]⟩ ⟨#[]⟩ true:=⟨by simp [ByteArray.size],by simp [ByteArray.size],fun _=>rfl,fun h=>by cases h⟩
def KiRel (b:Nat) (w:World) (i:Value) (wr:World):Prop:=i=.int .i64 0∧TK wr b∧Exb b w wr
set_option maxHeartbeats 4000000 in
theorem keyin_t {b:Nat} (w:World) (h:TK w b) (hL:LetG w) (hgb:¬ 0=b) :
  Calls Tryz.prog 178 #[.pointer (some ⟨b,0,none⟩),.agg #[.string ⟨#[]⟩,.bool false,.string ⟨#[]⟩,.bool true]] w (KeyPost 64 b w):=by
 have hb:=h.lt
 have B3:=Blk.new w [.string ⟨#[]⟩,.bool false,.string ⟨#[]⟩,.bool true] 45
 have kk:=Ex.new w (.cells #[.string ⟨#[]⟩,.bool false,.string ⟨#[]⟩,.bool true] 45)
 obtain ⟨w1,hw1⟩:∃ w1,w1=w.alloc (.cells #[.string ⟨#[]⟩,.bool false,.string ⟨#[]⟩,.bool true] 45):=⟨_,rfl⟩
 obtain ⟨g3,hg3⟩:∃ g3,g3=w.heap.size:=⟨_,rfl⟩
 replace B3:Blk w1 g3 [.string ⟨#[]⟩,.bool false,.string ⟨#[]⟩,.bool true] 45:=by rw [hw1,hg3];exact B3
 rw [← hw1] at kk
 have Hw1:=lH hw1
 have Hg3:=lH hg3
 have K1:=lH (kk.b b)
 have h3b:¬ g3=b:=by omega
 have T:=lH (h.nx kk)
 have L1:=lH (hL.nx kk)
 have B3H:=lH B3
 clear kk hw1 hg3 h hL B3
 go_enter Tryz.func178,Tryz.ntmps178
 go_upto_region 1 with fail
 rw [← Hg3.out,← Hw1.out]
 clear Hg3 Hw1
 go_wp2_with fail
 go_loopw [5] (fun i wr=>KiRel b w1 i wr) (fun _ _=>0)
 case atStart=>exact ⟨rfl,T.out,Exb.refl _ _⟩
 case round =>
  obtain ⟨rfl,t,kw⟩:=hrel
  obtain ⟨wi,rfl⟩:∃ wi:World,wi=wr:=⟨_,rfl⟩
  have KW:=lH kw
  have l1:=L1.out.nxb hgb kw
  clear kw
  go_wp2_with fail
  refine (key_t _ t l1 hgb).mono ?_
  rintro e w2 ⟨s,rfl,hs,T2,kk⟩
  have K2:=lH (KW.out.nxb kk)
  have B:=B3H.out.nxb h3b K2.out
  have c0:=B.cell 0 _ rfl
  have c1:=B.cell 1 _ rfl
  have c2:=B.cell 2 _ rfl
  have c3:=B.cell 3 _ rfl
  clear kk t l1 B
  go_wp2_with fail
  (with_reducible refine (contains_r ⟨#[]⟩ ⟨#[]⟩ s true rg_all hs _).mono ?_)
  rintro e w3 ⟨rfl,kk⟩
  rw [has_all]
  have K3:=lH (K1.out.nxb (K2.out.nxb (kk.b b)))
  have T3:=lH (T2.nx kk)
  clear kk T2 c0 c1 c2 c3
  go_wp2_with fail
  go_ret
  exact ⟨s,rfl,hs,T3.out,K3.out⟩
set_option maxHeartbeats 1000000 in
theorem all_w (w:World):Calls Tryz.prog 115 #[] w fun e w'=>e=.returned (.agg #[.string ⟨#[]⟩,.bool false,.string ⟨#[]⟩,.bool true])∧Ex w w':=by
 have B0:=Blk.new w [.string ⟨#[]⟩,.bool false,.string ⟨#[]⟩,.bool true] 45
 have kk:=Ex.new w (.cells #[.string ⟨#[]⟩,.bool false,.string ⟨#[]⟩,.bool true] 45)
 have c0:=B0.cell 0 _ rfl
 have c1:=B0.cell 1 _ rfl
 have c2:=B0.cell 2 _ rfl
 have c3:=B0.cell 3 _ rfl
 have K:=lH kk
 clear kk B0
 go_enter Tryz.func115,Tryz.ntmps115
 go_wp2_with fail
 refine bodyPost_ret (v:=.agg #[.string ⟨#[]⟩,.bool false,.string ⟨#[]⟩,.bool true]) (by simp [results,Tryz.results115,go_sem, *]) rfl ⟨rfl,K.out⟩
abbrev RowB (b:Nat) (w:World) (hd:Hdr) (l:List Rw):Prop:=RowR (fun k=>k<w.heap.size∧k≠b) w hd l
theorem RowB.nxb {b:Nat} {w w':World} {hd:Hdr} {l:List Rw} (h:RowB b w hd l) (k:Exb b w w'):RowB b w' hd l:=RowR.mono (RowR.chg h k (fun _ hx=>hx)) (fun _ hx=>⟨Nat.lt_of_lt_of_le hx.1 k.size,hx.2⟩)
theorem RowB.l {b:Nat} {w:World} {hd:Hdr} {l:List Rw} (h:RowB b w hd l):RowL w hd l:=RowR.mono h (fun _ hx=>hx.1)
def RwiRel (b:Nat) (w:World) (o i:Value) (wr:World):Prop:=∃ (k n c:Nat) (a:Option Addr) (l:List Rw),i=.int .i64 k∧k+l.length≤20∧n=l.length∧o=.slice a n c∧RowB b wr (a,n,c) l∧TblOk l∧TK wr b∧Exb b w wr
def RowsPost (b:Nat) (w:World) (e:Ending) (w':World):Prop:=∃ (n c:Nat) (a:Option Addr) (l:List Rw),e=.returned (.slice a n c)∧l.length≤20∧n=l.length∧RowB b w' (a,n,c) l∧TblOk l∧TK w' b∧Exb b w w'
set_option maxHeartbeats 4000000 in
theorem rowsin_t {b:Nat} (w:World) (h:TK w b) (hL:LetG w) (hgb:¬ 0=b) :
  Calls Tryz.prog 114 #[.pointer (some ⟨b,0,none⟩),.agg #[.string ⟨#[]⟩,.bool false,.string ⟨#[]⟩,.bool true],.int .i64 20] w (RowsPost b w):=by
 have hb:=h.lt
 have B4:=Blk.new w [.string ⟨#[]⟩,.bool false,.string ⟨#[]⟩,.bool true] 45
 have kk:=Ex.new w (.cells #[.string ⟨#[]⟩,.bool false,.string ⟨#[]⟩,.bool true] 45)
 obtain ⟨w1,hw1⟩:∃ w1,w1=w.alloc (.cells #[.string ⟨#[]⟩,.bool false,.string ⟨#[]⟩,.bool true] 45):=⟨_,rfl⟩
 obtain ⟨g4,hg4⟩:∃ g4,g4=w.heap.size:=⟨_,rfl⟩
 replace B4:Blk w1 g4 [.string ⟨#[]⟩,.bool false,.string ⟨#[]⟩,.bool true] 45:=by rw [hw1,hg4];exact B4
 rw [← hw1] at kk
 have Hw1:=lH hw1
 have Hg4:=lH hg4
 have K1:=lH (kk.b b)
 have h4b:¬ g4=b:=by omega
 have T:=h.nx kk
 have L1:=lH (hL.nx kk)
 have B4H:=lH B4
 have c0:=B4.cell 0 _ rfl
 have c1:=B4.cell 1 _ rfl
 have c2:=B4.cell 2 _ rfl
 have c3:=B4.cell 3 _ rfl
 clear kk hw1 hg4 h hL
 go_enter Tryz.func114,Tryz.ntmps114
 go_upto_region 1 with fail
 rw [← Hg4.out,← Hw1.out]
 clear Hg4 Hw1
 clear B4
 go_wp2_with fail
 (with_reducible refine (empty_r ⟨#[]⟩ ⟨#[]⟩ true rg_all _).mono ?_)
 rintro e w2 ⟨rfl,kk⟩
 have T2:=T.nx kk
 have K2:=lH (kk.b b)
 clear kk T c0 c1 c2 c3
 go_wp2_with fail
 refine (next_t 21 _ T2 (by omega) (by omega)).mono ?_
 rintro e w3 ⟨m,rfl,m0,m1,T3,k3⟩
 obtain ⟨m,rfl⟩:=Int.eq_ofNat_of_zero_le m0
 have K3:=lH (K2.out.nxb k3)
 have TH:=lH T3
 have hm20:m≤20:=by omega
 clear k3 T2 T3 m0 m1
 go_wp2_with fail
 go_loopw [7,8] (fun o i wr=>RwiRel b w3 o i wr) (fun _ i _=>(intOf i).toNat)
 case atStart=>exact ⟨m,0,0,none,[],rfl,by simpa using hm20,rfl,rfl,⟨Rd.nil _ _ _ _ _,Nat.le_refl _,by show 0≤maxLen;omega,fun _=>rfl⟩,TblOk.nil,TH.out,Exb.refl _ _⟩
 case round =>
  obtain ⟨k,n,c,a,l,rfl,hkl,rfl,rfl,rb,ht,t,kw⟩:=hrel
  obtain ⟨wi,rfl⟩:∃ wi:World,wi=wr:=⟨_,rfl⟩
  have KW:=lH kw
  have RB:=lH rb
  have HT:=lH ht
  have l1:=L1.out.nxb hgb (K3.out.nxb kw)
  have l2:=lH l1
  by_cases hk0:0<k
  ·have dk:(k:Int)>0:=by omega
   have B:=B4H.out.nxb h4b (K3.out.nxb kw)
   have c0:=B.cell 0 _ rfl
   have c1:=B.cell 1 _ rfl
   have c2:=B.cell 2 _ rfl
   have c3:=B.cell 3 _ rfl
   clear rb ht kw B
   go_wp2_with fail
   refine (keyin_t _ t l1 hgb).mono ?_
   rintro e w4 ⟨s1,rfl,hs1,T4,k4⟩
   have K4:=lH (KW.out.nxb k4)
   have RB4:=lH (RB.out.nxb k4)
   clear k4 t l1 c0 c1 c2 c3
   go_wp2_with fail
   refine (value_t _ T4).mono ?_
   rintro e w5 ⟨s2,rfl,hs2,T5,k5⟩
   have K5:=lH (K4.out.nxb k5)
   have RB5:=lH (RB4.out.nxb k5)
   clear k5 T4
   go_wp2_with fail
   (with_reducible refine (put_r a l.length c l (s1,s2) _ RB5.out.l HT.out (by omega) hs1 hs2).mono ?_)
   rintro e w6 ⟨v,rfl,own,kk⟩
   obtain ⟨av,cv,rfl,rv⟩:=own.rowF
   have hb5:=T5.lt
   have hil:(insR (s1,s2) (delR s1 l)).length≤l.length+1:=by rw [insR_len];have:=delR_len s1 l;omega
   have RR:=lH (show RwiRel b w3 (.slice av (insR (s1,s2) (delR s1 l)).length cv) (.int .i64 ((k:Int)-1)) w6 from ⟨k-1,_,cv,av,insR (s1,s2) (delR s1 l),by congr 1;omega,by omega,rfl,rfl,RowR.mono rv (fun x hx=>⟨hx.2,by have:=hx.1;omega⟩),TblOk.put HT.out hs1 hs2 (by omega),T5.nx kk,K5.out.nxb (kk.b b)⟩)
   have hz:(insR (s1,s2) (delR s1 l)).length≤21:=by omega
   obtain ⟨LN,hLN⟩:∃ LN,LN=(insR (s1,s2) (delR s1 l)).length:=⟨_,rfl⟩
   rw [← hLN] at RR
   clear own kk rv T5 hil hz
   rw [← hLN]
   clear hLN
   go_wp2_with fail
   exact ⟨RR.out,by simp [intOf];omega⟩
  ·obtain rfl:k=0:=by omega
   have KE:=lH (K1.out.nxb (K3.out.nxb kw))
   clear rb ht kw l1
   go_wp2_with fail
   go_ret
   exact ⟨_,c,a,l,rfl,by omega,rfl,RB.out,HT.out,t,KE.out⟩
set_option maxHeartbeats 1000000 in
theorem rows_t {b:Nat} (w:World) (h:TK w b) (hL:LetG w) (hgb:¬ 0=b) :
  Calls Tryz.prog 44 #[.pointer (some ⟨b,0,none⟩),.int .i64 20] w (RowsPost b w):=by
 go_enter Tryz.func44,Tryz.ntmps44
 go_wp2_with fail
 (with_reducible refine (all_w _).mono ?_)
 rintro e w1 ⟨rfl,kk⟩
 have T:=h.nx kk
 have L:=hL.nx kk
 have K1:=lH (kk.b b)
 clear kk h hL
 go_wp2_with fail
 refine (rowsin_t _ T L hgb).mono ?_
 rintro e w2 ⟨_,c,a,l,rfl,h1,rfl,h3,h4,h5,k2⟩
 have K2:=lH (K1.out.nxb k2)
 have R:=lH h3
 have TT:=lH h4
 clear k2 T L h3 h4
 go_wp2_with fail
 go_ret
 exact ⟨_,c,a,l,rfl,h1,rfl,R.out,TT.out,h5,K2.out⟩
theorem tb_first {L:List Nd} {x0:Nd} {S:List Nd} (h0:checkN L=0) (hp:(x0::S).Perm L) (ha:AscN (x0::S)) (R:List Rw) (hR:TblOk R):InvB (L.map iwN) R (segF (({ x0 with key:=⟨#[]⟩ }:Nd)::S) R):=by
 have hc:=check_perm hp h0
 refine seg_inv (first_nodes hc ha) rfl hR ?_ (fun y hy=>?_)
 ·exact hp.map iwN
 ·rcases List.mem_cons.1 hy with rfl | hy
  ·show (⟨#[]⟩:ByteArray).size≤64
   simp [ByteArray.size]
  ·exact (roster_ok hc y (List.mem_cons_of_mem _ hy)).2.2.2.1
theorem tb_at {L N:List Nd} {R:List Rw} (h:InvB (L.map iwN) R (segF N R)) {i:Nat} {x:Nd} (hx:N[i]?=some x) :
  RgOk (loI N i) (hiI N i).1 (hiI N i).2∧(segF N R)[i]?=some (x,R.filter fun r=>hasV (loI N i) (hiI N i).1 (hiI N i).2 r.1):=by
 have hc:=seg_at N R i x hx
 have h1:=h.rg hc
 have h2:=lo_at h hc
 rw [seg_fst] at h1 h2
 refine ⟨h1,?_⟩
 rw [hc,h2]
theorem tb_bnd {L:List Nd} {R:List Rw} {H:List Hg} (h:InvB (L.map iwN) R H) (hR:TblOk R):∀ x∈loadsH H,x≤1024:=fun x hx=>by
 obtain ⟨c,hc,rfl⟩:=List.mem_map.1 hx
 exact (h.tbl hR hc).2.2
theorem tb_pot {L:List Nd} {R:List Rw} {H:List Hg} (h:InvB (L.map iwN) R H) (hr:R.length≤59):potB (loadsH H)≤3600:=by
 have h1:=pot_le (loadsH H)
 have h2:(loadsH H).sum=R.length:=by rw [loads_sum,h.cat]
 have h3:=Nat.mul_le_mul hr hr
 rw [h2] at h1
 omega
theorem OwnL.rowb {base b:Nat} {w:World} {v:Value} {l:List Rw} (h:OwnL 2 encR 199 base w v l) (hb:b<base):∃ a c,v=.slice a l.length c∧RowB b w (a,l.length,c) l:=by
 obtain ⟨a,c,e,r,h1,h2,h3,h4⟩:=h.toW.rd (fun _=>rfl)
 exact ⟨a,c,e,Rd.mono r (fun k hk=>⟨hk.2,by have:=hk.1;omega⟩),h1,h2,h4⟩
theorem OwnHg.hdb {base b:Nat} {w:World} {v:Value} {qs:List (Nd×Hdr)} {H:List Hg} (h:OwnHg base w v qs H) (hb:b<base):∃ a c,v=.slice a H.length c∧HdB b w (a,H.length,c) H:=by
 obtain ⟨h1,h2,h3,_⟩:=h
 obtain ⟨a,c,e,r,c1,c2,c3,c4⟩:=h1.rd (fun _=>rfl)
 rw [h2] at e r c1
 refine ⟨a,c,e,qs,Rd.mono r (fun k hk=>⟨hk.2,by have:=hk.1;omega⟩),⟨c1,c2,c4⟩,rfl,fun j q d hq hd=>⟨(h3 j q d hq hd).1,?_⟩⟩
 obtain ⟨a',c',e',rb⟩:=(h3 j q d hq hd).2.rowb hb
 obtain ⟨q1,a2,n2,c2'⟩:=q
 simp only [Hdr.val,Value.slice.injEq] at e'
 obtain ⟨rfl,rfl,rfl⟩:=e'
 exact rb
theorem take_snocP {α:Type} {H:List α} {k:Nat} {c:α} (h:H[k]?=some c):H.take (k+1)=H.take k++[c]:=by rw [List.take_add_one,h];rfl
set_option maxHeartbeats 4000000 in
theorem linksOf_p (a:Option Addr) (n c:Nat) (l:List Nd) (h:Int) (w:World) (hs:Sl 3 encN w a n l) (hn:n≤1000) (hc:n≤c) (hm:c≤maxLen) (hw:∀ x∈l,x.word<4294967296) (hT:TabG w) :
  Calls Tryz.prog 59 #[.slice a n c,.int .i64 h] w fun e w'=>∃ v qs,e=.returned v∧OwnLk w.heap.size w' v qs (buildN l h).1∧Ex w w':=by
 go_enter Tryz.func59,Tryz.ntmps59
 go_wp2_with fail
 (with_reducible refine (build_p _ _ _ l h _ hs hn hc hm hw hT).mono ?_)
 rintro e w1 ⟨v,qs,rfl,own,kk⟩
 go_wp2_with fail
 go_ret
 exact ⟨v,qs,rfl,own,kk⟩
end Go.Proofs.YthcholmhmcpooaaGreatDoor
