/- Shared texts. -/
import Derived.MapKept
import Derived.WalkMore
import Derived.Laws.BytesString
import Derived.Lib.AppendStr
import Derived.Test.YthcholmhmcpooaaGreatDoorWAll14
import Derived.Test.YthcholmhmcpooaaGreatDoorWAll15
set_option linter.unusedSimpArgs false
set_option linter.unusedVariables false

namespace Go.Proofs.YthcholmhmcpooaaGreatDoor
open Go.RowKit
def DirN (key:List UInt8) (right:Bool) (x y:Nd):Prop:=if right then Op.bytesLess x.key.toList y.key.toList=true∧Op.bytesLess key y.key.toList=false else Op.bytesLess y.key.toList x.key.toList=true∧Op.bytesLess key y.key.toList=true
def HopsOk (N:List Nd) (key:List UInt8) (right:Bool) (x':Nd):Nd→Nat→List Hop→Prop
 | x,_,[]=>x=x'
 | x,lev,h::hs=>∃ (y:Nd) (lev':Nat),y∈N∧h=(x.id,y.id,(lev':Int))∧lev'≤lev∧DirN key right x y∧HopsOk N key right x' y lev' hs
variable {N:List Nd} {L:List Lkd} {key:List UInt8} {right:Bool}
theorem HopsOk.mono {x':Nd}:∀ {hs:List Hop} {x:Nd} {lev lev2:Nat},HopsOk N key right x' x lev hs→lev≤lev2→HopsOk N key right x' x lev2 hs
 | [],_,_,_,h,_=>h
 | _::_,_,_,_,⟨y,l',h1,h2,h3,h4,h5⟩,hl=>⟨y,l',h1,h2,by omega,h4,h5⟩
theorem rtF_ok:∀ (f:Nat) (x:Nd) (lev:Nat) (out:List Hop),∃ hs,(rtF N L key right f x lev out).2=out++hs∧HopsOk N key right (rtF N L key right f x lev out).1 x (lev-1) hs
 | 0,x,lev,out=>⟨[],by simp [rtF],rfl⟩
 | f+1,x,0,out=>⟨[],by simp [rtF],rfl⟩
 | f+1,x,lev+1,out=>by
  have e:rtF N L key right (f+1) x (lev+1) out=(match hopN N L key right x lev with | some y=>rtF N L key right f y (lev+1) (out++[(x.id,y.id,(lev:Int))]) | none=>rtF N L key right f x lev out):=rfl
  cases hh:hopN N L key right x lev with
  | some y =>
   rw [hh] at e
   obtain ⟨hs,h1,h2⟩:=rtF_ok f y (lev+1) (out++[(x.id,y.id,(lev:Int))])
   rw [e]
   refine ⟨(x.id,y.id,(lev:Int))::hs,by rw [h1];simp,y,lev,(hop_mem hh).1,rfl,by omega,(hop_mem hh).2,h2⟩
  | none =>
   rw [hh] at e
   obtain ⟨hs,h1,h2⟩:=rtF_ok f x lev out
   rw [e]
   exact ⟨hs,h1,h2.mono (by omega)⟩
theorem HopsOk.len {x':Nd}:∀ {hs:List Hop} {x:Nd} {lev:Nat},HopsOk N key right x' x lev hs→hs.length+bey N right x'≤bey N right x
 | [],_,_,h=>by rw [← show _=x' from h];simp
 | _::hs,x,_,⟨y,l',h1,h2,h3,h4,h5⟩=>by
  have:=h5.len
  have hlt:bey N right y<bey N right x:=by
   unfold bey
   cases right with
   | true =>
    unfold DirN at h4
    rw [if_pos rfl] at h4
    refine count_lt h1 (fun z hz=>?_) ?_ ?_
    ·rw [if_pos rfl] at hz ⊢;exact bl_trans h4.1 hz
    ·rw [if_pos rfl];exact h4.1
    ·rw [if_pos rfl];exact bytesLess_irrefl _
   | false =>
    unfold DirN at h4
    rw [if_neg (by simp)] at h4
    refine count_lt h1 (fun z hz=>?_) ?_ ?_
    ·rw [if_neg (by simp)] at hz ⊢;exact bl_trans hz h4.1
    ·rw [if_neg (by simp)];exact h4.1
    ·rw [if_neg (by simp)];exact bytesLess_irrefl _
  simp only [List.length_cons]
  omega
theorem HopsOk.side {x':Nd}:∀ {hs:List Hop} {x:Nd} {lev:Nat},HopsOk N key right x' x lev hs→(if right then Op.bytesLess key x.key.toList=false else Op.bytesLess key x.key.toList=true)→(if right then Op.bytesLess key x'.key.toList=false else Op.bytesLess key x'.key.toList=true)
 | [],_,_,h,hk=>by rw [← show _=x' from h];exact hk
 | _::hs,x,_,⟨y,l',h1,h2,h3,h4,h5⟩,hk=>h5.side (by
   unfold DirN at h4
   cases right with
   | true=>rw [if_pos rfl] at h4 ⊢;exact h4.2
   | false=>rw [if_neg (by simp)] at h4 ⊢;exact h4.2)
theorem HopsOk.mem {x':Nd}:∀ {hs:List Hop} {x:Nd} {lev:Nat},HopsOk N key right x' x lev hs→x∈N→x'∈N
 | [],_,_,h,hx=>by rw [← show _=x' from h];exact hx
 | _::_,_,_,⟨_,_,h1,_,_,_,h5⟩,_=>h5.mem h1
theorem bey_self {x:Nd} (hx:x∈N):bey N right x<N.length:=by
 unfold bey
 have:N.countP (fun z=>if right then Op.bytesLess x.key.toList z.key.toList else Op.bytesLess z.key.toList x.key.toList)<N.countP (fun _=>true) :=
  count_lt hx (fun _ _=>rfl) rfl (by cases right<;>simp [bytesLess_irrefl])
 rwa [List.countP_true] at this
def RouteOk (N:List Nd) (key:List UInt8) (right:Bool):Nd→Nat→List Hop→Prop
 | _,_,[]=>True
 | x,lev,h::hs=>∃ (y:Nd) (lev':Nat),y∈N∧h=(x.id,y.id,(lev':Int))∧lev'≤lev ∧
   (DirN key right x y∨(right=false∧hs=[]∧lev'=0∧Op.bytesLess key y.key.toList=false∧Op.bytesLess y.key.toList x.key.toList=true))∧RouteOk N key right y lev' hs
theorem HopsOk.route {x':Nd}:∀ {hs:List Hop} {x:Nd} {lev:Nat},HopsOk N key right x' x lev hs→RouteOk N key right x lev hs
 | [],_,_,_=>trivial
 | _::_,_,_,⟨y,l',h1,h2,h3,h4,h5⟩=>⟨y,l',h1,h2,h3,.inl h4,h5.route⟩
theorem HopsOk.snoc {x' y:Nd} (hy:y∈N) (hr:right=false) (h1:Op.bytesLess key y.key.toList=false) (h2:Op.bytesLess y.key.toList x'.key.toList=true):∀ {hs:List Hop} {x:Nd} {lev:Nat},HopsOk N key right x' x lev hs→RouteOk N key right x lev (hs++[(x'.id,y.id,0)])
 | [],x,lev,h=>by
  have h:x=x':=h
  subst h
  exact ⟨y,0,hy,rfl,by omega,.inr ⟨hr,rfl,rfl,h1,h2⟩,trivial⟩
 | _::_,_,_,⟨z,l',g1,g2,g3,g4,g5⟩=>⟨z,l',g1,g2,g3,.inl g4,g5.snoc hy hr h1 h2⟩
theorem appr_law (h0:checkN N=0) {k:ByteArray} (hk:k.size≤64) {x:Nd} (hx:x∈N) :
  (routeN N L x.id k).2=0∧(routeN N L x.id k).1.length<N.length∧RouteOk N k.toList (!Op.bytesLess k.toList x.key.toList) x 16 (routeN N L x.id k).1:=by
 have hf:=find_in h0 hx
 unfold routeN
 rw [if_neg (by rintro (h | h);exact h h0;omega),hf,if_neg (by simp)]
 simp only
 generalize hr:(!Op.bytesLess k.toList x.key.toList)=right
 have htop:(topL L x.id+1).toNat≤17:=by
  unfold topL
  split<;>omega
 obtain ⟨hs,e1,e2⟩:=rtF_ok (N:=N) (L:=L) (key:=k.toList) (right:=right) (18*(N.length+1)) x (topL L x.id+1).toNat []
 rw [List.nil_append] at e1
 generalize rtF N L k.toList right (18*(N.length+1)) x (topL L x.id+1).toNat []=R at e1 e2
 obtain ⟨x',out⟩:=R
 simp only at e1 e2 ⊢
 subst e1
 have e2:=e2.mono (show _≤16 by omega)
 have hl:=e2.len
 have hbx:=bey_self (right:=right) hx
 split
 ·rename_i hc
  simp only [Bool.and_eq_true,Bool.not_eq_true'] at hc
  obtain ⟨⟨c1,c2⟩,c3⟩:=hc
  subst c2
  obtain ⟨m1,m2⟩:=findN_mem c1
  have hkx:=e2.side (by rw [if_neg (by simp)];simpa using hr)
  rw [if_neg (by simp)] at hkx
  have hyx:Op.bytesLess (findN N (atL L x'.id 0).1).1.key.toList x'.key.toList=true:=by
   rcases bl_tri (findN N (atL L x'.id 0).1).1.key.toList x'.key.toList with ⟨h,_⟩ | ⟨h,_⟩ | ⟨h,_⟩
   ·exact h
   ·rw [h,hkx] at c3;cases c3
   ·rw [bl_trans hkx h] at c3;cases c3
  refine ⟨rfl,?_,e2.snoc m1 rfl c3 hyx⟩
  have h1:0<bey N false x':=by
   unfold bey
   rw [List.countP_pos_iff]
   exact ⟨_,m1,by rw [if_neg (by simp)];exact hyx⟩
  simp only [List.length_append,List.length_singleton]
  omega
 ·exact ⟨rfl,by show out.length<_;omega,e2.route⟩
def ownF (key:List UInt8) (o:Nd) (x:Nd):Nd:=if Op.bytesLess key x.key.toList then o else x
def ownN (l:List Nd) (key:ByteArray):Nd×Bool:=if checkN l=0∧l.length≠0∧key.size≤64 then ((sortN l).foldl (ownF key.toList) ((sortN l).head?.getD Nd.zero),true) else (Nd.zero,false)
def dirL (right:Bool) (G:List Nd):List Nd:=if right then G else G.reverse
def dlt (right:Bool) (a b:Nd):Bool:=if right then Op.bytesLess a.key.toList b.key.toList else Op.bytesLess b.key.toList a.key.toList
def win (right:Bool) (key:List UInt8) (z:Nd):Bool:=if right then !Op.bytesLess key z.key.toList else Op.bytesLess key z.key.toList
theorem dlt_trans {right:Bool} {a b c:Nd} (h1:dlt right a b=true) (h2:dlt right b c=true):dlt right a c=true:=by
 cases right with
 | true=>exact bl_trans h1 h2
 | false=>exact bl_trans h2 h1
theorem dlt_irrefl {right:Bool} (a:Nd):dlt right a a=false:=by
 cases right<;>exact bytesLess_irrefl _
theorem win_down {right:Bool} {key:List UInt8} {a b:Nd} (h:dlt right a b=true) (hw:win right key b=true):win right key a=true:=by
 cases right with
 | true =>
  have h:Op.bytesLess a.key.toList b.key.toList=true:=h
  have hw:(!Op.bytesLess key b.key.toList)=true:=hw
  show (!Op.bytesLess key a.key.toList)=true
  cases hk:Op.bytesLess key a.key.toList with
  | false=>rfl
  | true=>rw [bl_trans hk h] at hw;cases hw
 | false =>
  have h:Op.bytesLess b.key.toList a.key.toList=true:=h
  have hw:Op.bytesLess key b.key.toList=true:=hw
  exact bl_trans hw h
theorem dir_asc {right:Bool} {G:List Nd} (h:AscS G):(dirL right G).Pairwise fun a b=>dlt right a b=true:=by
 cases right with
 | true=>exact List.Pairwise.imp (fun h=>h.1) h
 | false=>exact List.pairwise_reverse.2 (List.Pairwise.imp (fun h=>h.1) h)
theorem dir_mem {right:Bool} {G:List Nd} {y:Nd}:y∈dirL right G↔y∈G:=by cases right<;>simp [dirL]
section
variable {N:List Nd} {L:List Lkd} {key:List UInt8} {right:Bool}
def nextW (right:Bool) (key:List UInt8):List Nd→Option Nd
 | []=>none
 | y::_=>if win right key y=true then some y else none
theorem nextW_nil (right:Bool) (key:List UInt8):nextW right key []=none:=rfl
theorem nextW_cons (right:Bool) (key:List UInt8) (y:Nd) (B:List Nd):nextW right key (y::B)=if win right key y=true then some y else none:=rfl
theorem hop_exact (h0:checkN N=0) {x:Nd} {lev:Nat} (hl:lev≤16) (hx:x∈N) (hL:atL L x.id lev=(neighN N x.id lev).1) {A B:List Nd} (e:dirL right (grpS N lev x.word)=A++x::B) :
  hopN N L key right x lev=nextW right key B:=by
 have hlv:lvlN (lev:Int)=true:=by unfold lvlN;simp;omega
 have hm:∀ y∈A++x::B,y∈N:=fun y hy=>(grp_mem.1 (dir_mem.1 (by rw [e];exact hy))).1
 have ha:=dir_asc (right:=right) (grp_asc h0 (lev:Int) x.word)
 rw [e] at ha
 have hxB:=(List.pairwise_cons.1 (List.pairwise_append.1 ha).2.1).1
 cases right with
 | true =>
  have hn:=neigh_split h0 hx hlv (A:=A) (B:=B) e
  unfold hopN
  rw [if_pos rfl,hL,hn]
  cases B with
  | nil=>simp [headI,Nd.zero,find_zero h0,nextW_nil]
  | cons y B =>
   have hy:=find_in h0 (hm y (by simp))
   have h1:Op.bytesLess x.key.toList y.key.toList=true:=hxB y (by simp)
   simp only [headI,List.head?_cons,Option.getD_some,hy]
   simp [h1,win,nextW_cons]
 | false =>
  have e':grpS N lev x.word=B.reverse++x::A.reverse:=by
   have:=congrArg List.reverse (show (grpS N lev x.word).reverse=A++x::B from e)
   simpa using this
  have hn:=neigh_split h0 hx hlv e'
  unfold hopN
  rw [if_neg (by simp),hL,hn]
  cases B with
  | nil=>simp [lastI,Nd.zero,find_zero h0,nextW_nil]
  | cons y B =>
   have hy:=find_in h0 (hm y (by simp))
   have h1:Op.bytesLess y.key.toList x.key.toList=true:=hxB y (by simp)
   simp only [lastI,List.reverse_cons,List.getLast?_append,List.getLast?_singleton,Option.some_or,Option.getD_some,hy]
   simp [h1,win,nextW_cons]
def CntSt (N:List Nd) (key:List UInt8) (right:Bool) (frm:Nd) (lev:Nat) (x:Nd) (q:Nat):Prop :=
 ∃ P A Q B,dirL right (grpS N (lev:Int) frm.word)=P++x::B∧P++[x]=A++Q∧Q.length=q∧(∀ y∈Q,brkN frm lev y=false)∧(∀ y∈B,win right key y=true→brkN frm lev y=false)∧(x=frm∨dlt right frm x=true)
theorem run_dir (h0:checkN N=0) {frm:Nd} (hf:frm∈N) {lev:Nat} (hl:lev≤16) {A Q B:List Nd} (e:dirL right (grpS N (lev:Int) frm.word)=A++Q++B) (hQ:∀ y∈Q,brkN frm lev y=false):Q.length≤runN N frm.id lev:=by
 rw [runN_eq h0 hf hl]
 cases right with
 | true =>
  have e:grpS N (lev:Int) frm.word=A++Q++B:=e
  rw [e];exact run_seg A Q B hQ
 | false =>
  have e':grpS N (lev:Int) frm.word=B.reverse++Q.reverse++A.reverse:=by
   have:=congrArg List.reverse (show (grpS N lev frm.word).reverse=A++Q++B from e)
   simpa using this
  rw [e',← List.length_reverse];exact run_seg _ _ _ (fun y hy=>hQ y (by simpa using hy))
theorem CntSt.le (h0:checkN N=0) {frm:Nd} (hf:frm∈N) {lev:Nat} (hl:lev≤16) {x:Nd} {q:Nat} (h:CntSt N key right frm lev x q):q≤runN N frm.id lev:=by
 obtain ⟨P,A,Q,B,e1,e2,rfl,h3,_,_⟩:=h
 refine run_dir (right:=right) (A:=A) (B:=B) h0 hf hl ?_ h3
 rw [e1,← e2];simp
theorem CntSt.mem {frm:Nd} {lev:Nat} {x:Nd} {q:Nat} (h:CntSt N key right frm lev x q):x∈N∧sameN x.word frm.word lev=true:=by
 obtain ⟨P,A,Q,B,e1,_⟩:=h
 exact grp_mem.1 (dir_mem.1 (by rw [e1];simp))
theorem CntSt.own (hw:∀ x∈N,x.word<4294967296) {frm:Nd} (hf:frm∈N) {lev:Nat} {x:Nd} {q:Nat} (h:CntSt N key right frm lev x q):grpS N (lev:Int) x.word=grpS N (lev:Int) frm.word :=
 grp_eq hw (hw x h.mem.1) (hw frm hf) h.mem.2
theorem CntSt.step (h0:checkN N=0) (hw:∀ x∈N,x.word<4294967296) {frm:Nd} (hf:frm∈N) {lev:Nat} (hl:lev≤16) {x y:Nd} {q:Nat} (h:CntSt N key right frm lev x q) (hL:atL L x.id lev=(neighN N x.id lev).1) (hh:hopN N L key right x lev=some y) :
  CntSt N key right frm lev y (q+1):=by
 have ho:=h.own hw hf
 have hm:=h.mem
 obtain ⟨P,A,Q,B,e1,e2,rfl,h3,h4,h5⟩:=h
 rw [hop_exact h0 hl hm.1 hL (by rw [ho];exact e1)] at hh
 have ha:=dir_asc (right:=right) (grp_asc h0 (lev:Int) frm.word)
 rw [e1] at ha
 have hxB:=(List.pairwise_cons.1 (List.pairwise_append.1 ha).2.1).1
 cases B with
 | nil=>cases hh
 | cons z B =>
  rw [nextW_cons] at hh
  split at hh
  ·rename_i hwin
   cases hh
   refine ⟨P++[x],A,Q++[y],B,by rw [e1];simp,by rw [e2];simp,by simp,?_,fun z hz=>h4 z (by simp [hz]),?_⟩
   ·intro z hz
    rcases List.mem_append.1 hz with h | h
    ·exact h3 z h
    ·have:z=y:=by simpa using h
     rw [this]
     exact h4 y (by simp) hwin
   ·have hxy:=hxB y (by simp)
    rcases h5 with rfl | h5
    ·exact .inr hxy
    ·exact .inr (dlt_trans h5 hxy)
  ·cases hh
theorem sameN_le {a b:Nat} {h k:Int} (hs:sameN a b h=true) (hk:k≤h):sameN a b k=true:=by
 unfold sameN at *
 simp only [decide_eq_true_eq] at *
 omega
theorem CntSt.down (h0:checkN N=0) (hw:∀ x∈N,x.word<4294967296) {frm:Nd} (hf:frm∈N) {lev:Nat} (hl:lev+1≤16) {x:Nd} {q:Nat} (h:CntSt N key right frm (lev+1) x q) (hL:atL L x.id (lev+1:Nat)=(neighN N x.id (lev+1:Nat)).1) (hh:hopN N L key right x (lev+1)=none) :
  CntSt N key right frm lev x 0:=by
 have ho:=h.own hw hf
 have hm:=h.mem
 obtain ⟨P,A,Q,B,e1,e2,rfl,h3,h4,h5⟩:=h
 rw [hop_exact h0 hl hm.1 hL (by rw [ho];exact e1)] at hh
 have ha:=dir_asc (right:=right) (grp_asc h0 ((lev+1:Nat):Int) frm.word)
 rw [e1] at ha
 have ha2:=List.pairwise_append.1 ha
 have hxm:x∈dirL right (grpS N (lev:Int) frm.word):=dir_mem.2 (grp_mem.2 ⟨hm.1,sameN_le hm.2 (by omega)⟩)
 obtain ⟨P2,B2,f1⟩:=List.append_of_mem hxm
 have hb:=dir_asc (right:=right) (grp_asc h0 (lev:Int) frm.word)
 rw [f1] at hb
 have hb2:=(List.pairwise_cons.1 (List.pairwise_append.1 hb).2.1).1
 refine ⟨P2,P2++[x],[],B2,f1,by simp,rfl,by simp,fun z hz hwz=>?_,h5⟩
 have hxz:=hb2 z hz
 have hzN:z∈N:=(grp_mem.1 (dir_mem.1 (by rw [f1];simp [hz]))).1
 cases hbr:brkN frm lev z with
 | false=>rfl
 | true =>
  exfalso
  unfold brkN at hbr
  rcases Bool.or_eq_true_iff.1 hbr with h | h
  ·have hid:z.id=frm.id:=by simpa using h
   have hz2:z=frm:=ids_eq (check_keys h0) hzN hf hid
   rw [hz2] at hxz
   rcases h5 with rfl | h5
   ·rw [dlt_irrefl] at hxz;cases hxz
   ·have:=dlt_trans h5 hxz
    rw [dlt_irrefl] at this;cases this
  ·have hzG:z∈dirL right (grpS N ((lev+1:Nat):Int) frm.word):=dir_mem.2 (grp_mem.2 ⟨hzN,sameN_symm (by rw [show ((lev+1:Nat):Int)=(lev:Int)+1 by omega];exact h)⟩)
   rw [e1] at hzG
   have hzB:z∈B:=by
    rcases List.mem_append.1 hzG with h | h
    ·have:=ha2.2.2 z h x (by simp)
     have:=dlt_trans this hxz
     rw [dlt_irrefl] at this;cases this
    ·rcases List.mem_cons.1 h with h | h
     ·rw [h,dlt_irrefl] at hxz;cases hxz
     ·exact h
   cases B with
   | nil=>cases hzB
   | cons y B =>
    rw [nextW_cons] at hh
    split at hh
    ·cases hh
    ·rename_i hwn
     rcases List.mem_cons.1 hzB with h | h
     ·rw [h] at hwz;exact hwn hwz
     ·exact hwn (win_down ((List.pairwise_cons.1 (List.pairwise_cons.1 ha2.2.1).2).1 z h) hwz)
theorem rt_last:∀ (f:Nat) (x:Nd) (lev:Nat) (out:List Hop),measR N right x (lev+1)≤f→hopN N L key right (rtF N L key right f x (lev+1) out).1 0=none
 | 0,x,lev,out,h=>by
  unfold measR at h
  have:1*(N.length+1)≤(lev+1)*(N.length+1):=Nat.mul_le_mul_right _ (by omega)
  omega
 | f+1,x,lev,out,h=>by
  have e:rtF N L key right (f+1) x (lev+1) out=(match hopN N L key right x lev with | some y=>rtF N L key right f y (lev+1) (out++[(x.id,y.id,(lev:Int))]) | none=>rtF N L key right f x lev out):=rfl
  cases hh:hopN N L key right x lev with
  | some y =>
   rw [hh] at e
   rw [e]
   exact rt_last f y lev _ (by have:=meas_hop hh;omega)
  | none =>
   rw [hh] at e
   rw [e]
   cases lev with
   | zero =>
    have:rtF N L key right f x 0 out=(x,out):=by cases f<;>rfl
    simp only [this]
    exact hh
   | succ lev=>exact rt_last f x lev _ (by have:=meas_down (N:=N) (right:=right) x (lev+1);omega)
end
theorem HopsOk.ends {N:List Nd} {key:List UInt8} {right:Bool} {x':Nd}:∀ {hs:List Hop} {x:Nd} {lev:Nat},HopsOk N key right x' x lev hs→endN x.id hs=x'.id
 | [],x,_,h=>by rw [show x=x' from h];rfl
 | h::hs,x,_,⟨y,l',h1,h2,h3,h4,h5⟩=>by
  have:=h5.ends
  cases hs with
  | nil=>subst h2;exact this
  | cons g hs =>
   have e:endN x.id (h::g::hs)=endN y.id (g::hs):=by
    unfold endN
    rw [List.getLast?_cons_cons]
    cases hq:(g::hs).getLast? with
    | none=>simp at hq
    | some p=>rfl
   rw [e];exact this
theorem endN_snoc (frm:Int) (hs:List Hop) (p:Hop):endN frm (hs++[p])=p.2.1:=by unfold endN;simp
theorem own_at {key:List UInt8} {A B:List Nd} {x:Nd} (hx:A=[]∨Op.bytesLess key x.key.toList=false) (hB:∀ y∈B,Op.bytesLess key y.key.toList=true):(A++x::B).foldl (ownF key) ((A++x::B).head?.getD Nd.zero)=x:=by
 have hb:∀ (B:List Nd) (o:Nd),(∀ y∈B,Op.bytesLess key y.key.toList=true)→B.foldl (ownF key) o=o:=by
  intro B
  induction B with
  | nil=>intro o _;rfl
  | cons y B ih =>
   intro o h
   show B.foldl (ownF key) (ownF key o y)=o
   have:ownF key o y=o:=by unfold ownF;rw [h y (by simp)];rfl
   rw [this,ih o (fun z hz=>h z (by simp [hz]))]
 rw [List.foldl_append,List.foldl_cons,hb B _ hB]
 rcases hx with rfl | hx
 ·show ownF key x x=x
  unfold ownF;split<;>rfl
 ·unfold ownF;rw [hx];rfl
theorem end_law {N:List Nd} (h0:checkN N=0) {L:List Lkd} {x:Nd} (hx:x∈N) {k:ByteArray} (hk:k.size≤64) (ht:0≤topL L x.id) (hL:∀ x∈N,atL L x.id 0=(neighN N x.id (0:Nat)).1) :
  (routeN N L x.id k).2=0∧endN x.id (routeN N L x.id k).1=(ownN N k).1.id∧(ownN N k).2=true:=by
 have hf:=find_in h0 hx
 have hne:N.length≠0:=by intro h;rw [List.length_eq_zero_iff.1 h] at hx;cases hx
 unfold ownN routeN
 rw [if_pos (show checkN N=0∧N.length≠0∧k.size≤64 from ⟨h0,hne,hk⟩),if_neg (show ¬ (checkN N≠0∨64<k.size) by rintro (h | h);exact h h0;omega),hf,if_neg (show ¬ (true=false) by simp)]
 simp only
 generalize hr:(!Op.bytesLess k.toList x.key.toList)=right
 obtain ⟨lev,hlev⟩:∃ lev,(topL L x.id+1).toNat=lev+1:=⟨(topL L x.id).toNat,by omega⟩
 have hl16:lev≤16:=by
  have:topL L x.id≤16:=by unfold topL;split<;>omega
  omega
 rw [hlev]
 obtain ⟨hs,e1,e2⟩:=rtF_ok (N:=N) (L:=L) (key:=k.toList) (right:=right) (18*(N.length+1)) x (lev+1) []
 have hlast:=rt_last (N:=N) (L:=L) (key:=k.toList) (right:=right) (18*(N.length+1)) x lev [] (by
  unfold measR
  have:=bey_le (N:=N) (right:=right) x
  have:(lev+1)*(N.length+1)≤17*(N.length+1):=Nat.mul_le_mul_right _ (by omega)
  omega)
 rw [List.nil_append] at e1
 generalize rtF N L k.toList right (18*(N.length+1)) x (lev+1) []=R at e1 e2 hlast
 obtain ⟨x',out⟩:=R
 simp only at e1 e2 hlast ⊢
 subst e1
 have hx':=e2.mem hx
 have hside:=e2.side (by cases right<;>simpa using hr)
 have hend:=e2.ends
 have hg:grpS N ((0:Nat):Int) x'.word=sortN N:=by
  unfold grpS groupN
  rw [List.filter_eq_self]
  intro y _
  unfold sameN
  simp
 obtain ⟨A,B,eS⟩:=List.append_of_mem ((sortN_mem N x').2 hx')
 have hasc:=sortN_str h0
 rw [eS] at hasc
 have ha2:=List.pairwise_append.1 hasc
 have hn:=neigh_split h0 hx' (h:=((0:Nat):Int)) rfl (A:=A) (B:=B) (by rw [hg];exact eS)
 have hat:atL L x'.id 0=(lastI A,headI B):=by rw [hL x' hx',hn]
 have hmem:∀ y∈A++x'::B,y∈N:=fun y hy=>(sortN_mem N y).1 (by rw [eS];exact hy)
 rw [eS]
 cases right with
 | true =>
  rw [if_pos rfl] at hside
  rw [hop_exact (right:=true) h0 (by omega) hx' (by simpa using hL x' hx') (A:=A) (B:=B) (by rw [hg];exact eS)] at hlast
  rw [if_neg (by simp)]
  refine ⟨rfl,?_,by trivial⟩
  show endN x.id out=_
  rw [hend,own_at (.inr hside)]
  intro y hy
  cases B with
  | nil=>cases hy
  | cons z B =>
   rw [nextW_cons] at hlast
   split at hlast
   ·cases hlast
   ·rename_i hz
    have hz:Op.bytesLess k.toList z.key.toList=true:=by
     have:¬ (!Op.bytesLess k.toList z.key.toList)=true:=hz
     simpa using this
    rcases List.mem_cons.1 hy with h | h
    ·rw [h];exact hz
    ·exact bl_trans hz ((List.pairwise_cons.1 (List.pairwise_cons.1 ha2.2.1).2).1 y h).1
 | false =>
  rw [if_neg (by simp)] at hside
  rw [hop_exact (right:=false) h0 (by omega) hx' (by simpa using hL x' hx') (A:=B.reverse) (B:=A.reverse) (by rw [hg,eS];simp [dirL])] at hlast
  have hB:∀ y∈x'::B,Op.bytesLess k.toList y.key.toList=true:=fun y hy=>by
   rcases List.mem_cons.1 hy with h | h
   ·rw [h];exact hside
   ·exact bl_trans hside ((List.pairwise_cons.1 ha2.2.1).1 y h).1
  rcases List.eq_nil_or_concat A with hA | ⟨A',z,hA⟩
  ·subst hA
   have hz:(findN N (atL L x'.id 0).1).2=false:=by
    rw [hat]
    show (findN N (lastI [])).2=false
    have:lastI []=0:=rfl
    rw [this,find_zero h0]
   rw [if_neg (by rw [hz];simp)]
   refine ⟨rfl,?_,by trivial⟩
   show endN x.id out=_
   rw [hend,own_at (.inl rfl) (fun y hy=>hB y (by simp [hy]))]
  ·rw [List.concat_eq_append] at hA
   subst hA
   have hzN:z∈N:=hmem z (by simp)
   have hz:(findN N (atL L x'.id 0).1)=(z,true):=by
    rw [hat]
    show findN N (lastI (A'++[z]))=_
    have:lastI (A'++[z])=z.id:=by unfold lastI;simp
    rw [this,find_in h0 hzN]
   have hzk:Op.bytesLess k.toList z.key.toList=false:=by
    have hrev:(A'++[z]).reverse=z::A'.reverse:=by simp
    rw [hrev] at hlast
    rw [nextW_cons] at hlast
    split at hlast
    ·cases hlast
    ·rename_i hh
     have:¬ Op.bytesLess k.toList z.key.toList=true:=hh
     simpa using this
   rw [hz]
   rw [if_pos (by simp [hzk])]
   refine ⟨rfl,?_,by trivial⟩
   show endN x.id (out++[(x'.id,z.id,0)])=_
   rw [endN_snoc]
   have e3:A'++[z]++x'::B=A'++z::(x'::B):=by simp
   rw [e3,own_at (.inr hzk) hB]
theorem build_top {N:List Nd} (h0:checkN N=0) {h:Nat} (hh:h≤16) {x:Nd} (hx:x∈N):topL (buildN N (h:Int)).1 x.id=h∧∀ lev:Nat,lev≤h→atL (buildN N (h:Int)).1 x.id lev=(neighN N x.id lev).1:=by
 have h0s:checkN (sortN N)=0:=check_perm (sortN_perm N) h0
 have hfind:(buildN N (h:Int)).1.find? (fun c=>c.1==x.id)=some (rowN (sortN N) (h+1) x):=by
  unfold buildN
  rw [if_neg (by rw [h0];simp),if_neg (by unfold lvlN;simp;omega)]
  simp only
  rw [show ((h:Int)).toNat+1=h+1 by omega,List.find?_map]
  have:((fun (c:Lkd)=>c.1==x.id) ∘ rowN (sortN N) (h+1))=fun y:Nd=>y.id==x.id:=rfl
  rw [this]
  have hf:=find_in h0s ((sortN_mem N x).2 hx)
  unfold findN at hf
  split at hf
  ·rename_i y hy
   cases hf
   rw [hy];rfl
  ·cases hf
 have hnb:∀ lev:Nat,lev≤16→(neighN (sortN N) x.id lev)=neighN N x.id lev:=fun lev hl=>by
  have hlv:lvlN (lev:Int)=true:=by unfold lvlN;simp;omega
  obtain ⟨A,B,e⟩:=grp_at hx hlv
  have es:grpS (sortN N) lev x.word=A++x::B:=by
   unfold grpS at e ⊢
   rw [sort_perm (sortN_perm N) h0];exact e
  rw [neigh_split h0 hx hlv e,neigh_split h0s ((sortN_mem N x).2 hx) hlv es]
 refine ⟨?_,fun lev hl=>?_⟩
 ·unfold topL
  rw [hfind]
  simp only [rowN_len]
  omega
 ·unfold atL
  rw [hfind]
  simp only
  rw [if_neg (by omega)]
  unfold rowN
  simp only
  rw [show ((lev:Int)).toNat=lev by omega,List.getElem?_map,List.getElem?_range (by omega)]
  simp only [Option.map_some,Option.getD_some]
  rw [hnb lev (by omega)]
section
variable {N:List Nd}
def rRoundN (N:List Nd) (P:List Pr) (h:Int):List Pr:=if lvlN h=true then ((roundN N P).zip (bRoundN N P h)).map fun q=>{ q.1 with near:=q.2.near } else []
def rRunsN (N:List Nd) (P:List Pr) (h:Int):Nat→List Pr
 | 0=>P
 | t+1=>rRoundN N (rRunsN N P h t) h
end
set_option maxHeartbeats 1000000 in
theorem end_p (frm:Int) (a:Option Addr) (n c:Nat) (H:List Hop) (w:World) (h:Sl 3 encHp w a n H) (hn:n≤1000000) :
  Calls Tryz.prog 15 #[.int .i64 frm,.slice a n c] w fun e w'=>e=.returned (.int .i64 (endN frm H))∧Ex w w':=by
 have HL:=lH h.len
 go_enter Tryz.func15,Tryz.ntmps15
 by_cases h0:n=0
 ·subst h0
  have e:Hid (endN frm H=frm):=lH (by rw [List.length_eq_zero_iff.1 HL.out];rfl)
  rw [e.out]
  clear h
  go_wp2_with fail
  go_ret
  exact ⟨rfl,Ex.refl _⟩
 ·obtain ⟨m,rfl⟩:∃ m,n=m+1:=⟨n-1,by omega⟩
  obtain ⟨x1,o1,y,rfl,hx1,hy,hc1⟩:=h.at (j:=m) (by omega)
  have e1:w.cell? ⟨x1,o1+m*3+1,none⟩=some (.int .i64 y.2.1):=hc1 1 _ rfl
  have e:Hid (endN frm H=y.2.1):=lH (by unfold endN;rw [List.getLast?_eq_getElem?,HL.out,Nat.add_sub_cancel,hy])
  rw [e.out]
  clear h hc1 hy h0
  go_wp2_with fail
  go_ret
  exact ⟨rfl,Ex.refl _⟩
theorem route_small (N:List Nd) (L:List Lkd) (frm:Int) (s:ByteArray):(routeN N L frm s).1.length≤65:=by
 by_cases h:checkN N≠0∨64<s.size
 ·rw [route_bad h];simp
 ·cases hf:(findN N frm).2 with
  | false=>rw [route_unk h hf];simp
  | true =>
   obtain ⟨m1,m2⟩:=findN_mem hf
   have h0:checkN N=0:=by
    by_cases h0:checkN N=0
    ·exact h0
    ·exact absurd (.inl h0) h
   have:=(appr_law (L:=L) h0 (k:=s) (by by_cases hs:64<s.size;exact absurd (.inr hs) h;omega) m1).2.1
   have:=check_lenU h0
   rw [← m2]
   omega
end Go.Proofs.YthcholmhmcpooaaGreatDoor
