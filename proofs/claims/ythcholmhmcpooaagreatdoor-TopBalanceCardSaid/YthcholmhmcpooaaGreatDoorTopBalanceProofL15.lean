/- Texts for TopBalanceProof. -/
import Derived.Test.YthcholmhmcpooaaGreatDoorTopBalanceProofL13
set_option linter.unusedSimpArgs false
set_option linter.unusedVariables false

namespace Go.Proofs.YthcholmhmcpooaaGreatDoor
open Go.RowKit
def dirL (right:Bool) (G:List Nd):List Nd:=if right then G else G.reverse
def dlt (right:Bool) (a b:Nd):Bool:=if right then Op.bytesLess a.key.toList b.key.toList else Op.bytesLess b.key.toList a.key.toList
def win (right:Bool) (key:List UInt8) (z:Nd):Bool:=if right then !Op.bytesLess key z.key.toList else Op.bytesLess key z.key.toList
theorem dlt_trans {right:Bool} {a b c:Nd} (h1:dlt right a b=true) (h2:dlt right b c=true):dlt right a c=true:=by
 cases right with
 | true=>exact bl_trans h1 h2
 | false=>exact bl_trans h2 h1
theorem dlt_irrefl {right:Bool} (a:Nd):dlt right a a=false:=by
 cases right<;>exact bytesLess_irrefl _
theorem win_down {right:Bool} {key:List UInt8} {a b:Nd} (h:dlt right a b=true) (hw:win right key b=true):win right key a=true:=by
 cases right with
 | true =>
  have h:Op.bytesLess a.key.toList b.key.toList=true:=h
  have hw:(!Op.bytesLess key b.key.toList)=true:=hw
  show (!Op.bytesLess key a.key.toList)=true
  cases hk:Op.bytesLess key a.key.toList with
  | false=>rfl
  | true=>rw [bl_trans hk h] at hw;cases hw
 | false =>
  have h:Op.bytesLess b.key.toList a.key.toList=true:=h
  have hw:Op.bytesLess key b.key.toList=true:=hw
  exact bl_trans hw h
theorem dir_asc {right:Bool} {G:List Nd} (h:AscS G):(dirL right G).Pairwise fun a b=>dlt right a b=true:=by
 cases right with
 | true=>exact List.Pairwise.imp (fun h=>h.1) h
 | false=>exact List.pairwise_reverse.2 (List.Pairwise.imp (fun h=>h.1) h)
theorem dir_mem {right:Bool} {G:List Nd} {y:Nd}:y∈dirL right G↔y∈G:=by cases right<;>simp [dirL]
section
variable {N:List Nd} {L:List Lkd} {key:List UInt8} {right:Bool}
def nextW (right:Bool) (key:List UInt8):List Nd→Option Nd
 | []=>none
 | y::_=>if win right key y=true then some y else none
theorem nextW_nil (right:Bool) (key:List UInt8):nextW right key []=none:=rfl
theorem nextW_cons (right:Bool) (key:List UInt8) (y:Nd) (B:List Nd):nextW right key (y::B)=if win right key y=true then some y else none:=rfl
theorem hop_exact (h0:checkN N=0) {x:Nd} {lev:Nat} (hl:lev≤16) (hx:x∈N) (hL:atL L x.id lev=(neighN N x.id lev).1) {A B:List Nd} (e:dirL right (grpS N lev x.word)=A++x::B) :
  hopN N L key right x lev=nextW right key B:=by
 have hlv:lvlN (lev:Int)=true:=by unfold lvlN;simp;omega
 have hm:∀ y∈A++x::B,y∈N:=fun y hy=>(grp_mem.1 (dir_mem.1 (by rw [e];exact hy))).1
 have ha:=dir_asc (right:=right) (grp_asc h0 (lev:Int) x.word)
 rw [e] at ha
 have hxB:=(List.pairwise_cons.1 (List.pairwise_append.1 ha).2.1).1
 cases right with
 | true =>
  have hn:=neigh_split h0 hx hlv (A:=A) (B:=B) e
  unfold hopN
  rw [if_pos rfl,hL,hn]
  cases B with
  | nil=>simp [headI,Nd.zero,find_zero h0,nextW_nil]
  | cons y B =>
   have hy:=find_in h0 (hm y (by simp))
   have h1:Op.bytesLess x.key.toList y.key.toList=true:=hxB y (by simp)
   simp only [headI,List.head?_cons,Option.getD_some,hy]
   simp [h1,win,nextW_cons]
 | false =>
  have e':grpS N lev x.word=B.reverse++x::A.reverse:=by
   have:=congrArg List.reverse (show (grpS N lev x.word).reverse=A++x::B from e)
   simpa using this
  have hn:=neigh_split h0 hx hlv e'
  unfold hopN
  rw [if_neg (by simp),hL,hn]
  cases B with
  | nil=>simp [lastI,Nd.zero,find_zero h0,nextW_nil]
  | cons y B =>
   have hy:=find_in h0 (hm y (by simp))
   have h1:Op.bytesLess y.key.toList x.key.toList=true:=hxB y (by simp)
   simp only [lastI,List.reverse_cons,List.getLast?_append,List.getLast?_singleton,Option.some_or,Option.getD_some,hy]
   simp [h1,win,nextW_cons]
def CntSt (N:List Nd) (key:List UInt8) (right:Bool) (frm:Nd) (lev:Nat) (x:Nd) (q:Nat):Prop :=
 ∃ P A Q B,dirL right (grpS N (lev:Int) frm.word)=P++x::B∧P++[x]=A++Q∧Q.length=q∧(∀ y∈Q,brkN frm lev y=false)∧(∀ y∈B,win right key y=true→brkN frm lev y=false)∧(x=frm∨dlt right frm x=true)
theorem run_dir (h0:checkN N=0) {frm:Nd} (hf:frm∈N) {lev:Nat} (hl:lev≤16) {A Q B:List Nd} (e:dirL right (grpS N (lev:Int) frm.word)=A++Q++B) (hQ:∀ y∈Q,brkN frm lev y=false):Q.length≤runN N frm.id lev:=by
 rw [runN_eq h0 hf hl]
 cases right with
 | true =>
  have e:grpS N (lev:Int) frm.word=A++Q++B:=e
  rw [e];exact run_seg A Q B hQ
 | false =>
  have e':grpS N (lev:Int) frm.word=B.reverse++Q.reverse++A.reverse:=by
   have:=congrArg List.reverse (show (grpS N lev frm.word).reverse=A++Q++B from e)
   simpa using this
  rw [e',← List.length_reverse];exact run_seg _ _ _ (fun y hy=>hQ y (by simpa using hy))
theorem CntSt.le (h0:checkN N=0) {frm:Nd} (hf:frm∈N) {lev:Nat} (hl:lev≤16) {x:Nd} {q:Nat} (h:CntSt N key right frm lev x q):q≤runN N frm.id lev:=by
 obtain ⟨P,A,Q,B,e1,e2,rfl,h3,_,_⟩:=h
 refine run_dir (right:=right) (A:=A) (B:=B) h0 hf hl ?_ h3
 rw [e1,← e2];simp
theorem CntSt.mem {frm:Nd} {lev:Nat} {x:Nd} {q:Nat} (h:CntSt N key right frm lev x q):x∈N∧sameN x.word frm.word lev=true:=by
 obtain ⟨P,A,Q,B,e1,_⟩:=h
 exact grp_mem.1 (dir_mem.1 (by rw [e1];simp))
theorem CntSt.own (hw:∀ x∈N,x.word<4294967296) {frm:Nd} (hf:frm∈N) {lev:Nat} {x:Nd} {q:Nat} (h:CntSt N key right frm lev x q):grpS N (lev:Int) x.word=grpS N (lev:Int) frm.word :=
 grp_eq hw (hw x h.mem.1) (hw frm hf) h.mem.2
theorem CntSt.step (h0:checkN N=0) (hw:∀ x∈N,x.word<4294967296) {frm:Nd} (hf:frm∈N) {lev:Nat} (hl:lev≤16) {x y:Nd} {q:Nat} (h:CntSt N key right frm lev x q) (hL:atL L x.id lev=(neighN N x.id lev).1) (hh:hopN N L key right x lev=some y) :
  CntSt N key right frm lev y (q+1):=by
 have ho:=h.own hw hf
 have hm:=h.mem
 obtain ⟨P,A,Q,B,e1,e2,rfl,h3,h4,h5⟩:=h
 rw [hop_exact h0 hl hm.1 hL (by rw [ho];exact e1)] at hh
 have ha:=dir_asc (right:=right) (grp_asc h0 (lev:Int) frm.word)
 rw [e1] at ha
 have hxB:=(List.pairwise_cons.1 (List.pairwise_append.1 ha).2.1).1
 cases B with
 | nil=>cases hh
 | cons z B =>
  rw [nextW_cons] at hh
  split at hh
  ·rename_i hwin
   cases hh
   refine ⟨P++[x],A,Q++[y],B,by rw [e1];simp,by rw [e2];simp,by simp,?_,fun z hz=>h4 z (by simp [hz]),?_⟩
   ·intro z hz
    rcases List.mem_append.1 hz with h | h
    ·exact h3 z h
    ·have:z=y:=by simpa using h
     rw [this]
     exact h4 y (by simp) hwin
   ·have hxy:=hxB y (by simp)
    rcases h5 with rfl | h5
    ·exact .inr hxy
    ·exact .inr (dlt_trans h5 hxy)
  ·cases hh
theorem sameN_le {a b:Nat} {h k:Int} (hs:sameN a b h=true) (hk:k≤h):sameN a b k=true:=by
 unfold sameN at *
 simp only [decide_eq_true_eq] at *
 omega
theorem CntSt.down (h0:checkN N=0) (hw:∀ x∈N,x.word<4294967296) {frm:Nd} (hf:frm∈N) {lev:Nat} (hl:lev+1≤16) {x:Nd} {q:Nat} (h:CntSt N key right frm (lev+1) x q) (hL:atL L x.id (lev+1:Nat)=(neighN N x.id (lev+1:Nat)).1) (hh:hopN N L key right x (lev+1)=none) :
  CntSt N key right frm lev x 0:=by
 have ho:=h.own hw hf
 have hm:=h.mem
 obtain ⟨P,A,Q,B,e1,e2,rfl,h3,h4,h5⟩:=h
 rw [hop_exact h0 hl hm.1 hL (by rw [ho];exact e1)] at hh
 have ha:=dir_asc (right:=right) (grp_asc h0 ((lev+1:Nat):Int) frm.word)
 rw [e1] at ha
 have ha2:=List.pairwise_append.1 ha
 have hxm:x∈dirL right (grpS N (lev:Int) frm.word):=dir_mem.2 (grp_mem.2 ⟨hm.1,sameN_le hm.2 (by omega)⟩)
 obtain ⟨P2,B2,f1⟩:=List.append_of_mem hxm
 have hb:=dir_asc (right:=right) (grp_asc h0 (lev:Int) frm.word)
 rw [f1] at hb
 have hb2:=(List.pairwise_cons.1 (List.pairwise_append.1 hb).2.1).1
 refine ⟨P2,P2++[x],[],B2,f1,by simp,rfl,by simp,fun z hz hwz=>?_,h5⟩
 have hxz:=hb2 z hz
 have hzN:z∈N:=(grp_mem.1 (dir_mem.1 (by rw [f1];simp [hz]))).1
 cases hbr:brkN frm lev z with
 | false=>rfl
 | true =>
  exfalso
  unfold brkN at hbr
  rcases Bool.or_eq_true_iff.1 hbr with h | h
  ·have hid:z.id=frm.id:=by simpa using h
   have hz2:z=frm:=ids_eq (check_keys h0) hzN hf hid
   rw [hz2] at hxz
   rcases h5 with rfl | h5
   ·rw [dlt_irrefl] at hxz;cases hxz
   ·have:=dlt_trans h5 hxz
    rw [dlt_irrefl] at this;cases this
  ·have hzG:z∈dirL right (grpS N ((lev+1:Nat):Int) frm.word):=dir_mem.2 (grp_mem.2 ⟨hzN,sameN_symm (by rw [show ((lev+1:Nat):Int)=(lev:Int)+1 by omega];exact h)⟩)
   rw [e1] at hzG
   have hzB:z∈B:=by
    rcases List.mem_append.1 hzG with h | h
    ·have:=ha2.2.2 z h x (by simp)
     have:=dlt_trans this hxz
     rw [dlt_irrefl] at this;cases this
    ·rcases List.mem_cons.1 h with h | h
     ·rw [h,dlt_irrefl] at hxz;cases hxz
     ·exact h
   cases B with
   | nil=>cases hzB
   | cons y B =>
    rw [nextW_cons] at hh
    split at hh
    ·cases hh
    ·rename_i hwn
     rcases List.mem_cons.1 hzB with h | h
     ·rw [h] at hwz;exact hwn hwz
     ·exact hwn (win_down ((List.pairwise_cons.1 (List.pairwise_cons.1 ha2.2.1).2).1 z h) hwz)
end
end Go.Proofs.YthcholmhmcpooaaGreatDoor
