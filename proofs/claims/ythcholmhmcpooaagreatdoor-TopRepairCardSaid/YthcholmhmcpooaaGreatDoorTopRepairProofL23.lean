/- Texts for TopRepairProof. -/
import Derived.BigRegion
import Derived.Test.YthcholmhmcpooaaGreatDoorTopRepairProofL22
set_option linter.unusedSimpArgs false
set_option linter.unusedVariables false

namespace Go.Proofs.YthcholmhmcpooaaGreatDoor
open Go.RowKit
def ownF (key:List UInt8) (o:Nd) (x:Nd):Nd:=if Op.bytesLess key x.key.toList then o else x
def ownN (l:List Nd) (key:ByteArray):Nd×Bool:=if checkN l=0∧l.length≠0∧key.size≤64 then ((sortN l).foldl (ownF key.toList) ((sortN l).head?.getD Nd.zero),true) else (Nd.zero,false)
def dirL (right:Bool) (G:List Nd):List Nd:=if right then G else G.reverse
def dlt (right:Bool) (a b:Nd):Bool:=if right then Op.bytesLess a.key.toList b.key.toList else Op.bytesLess b.key.toList a.key.toList
def win (right:Bool) (key:List UInt8) (z:Nd):Bool:=if right then !Op.bytesLess key z.key.toList else Op.bytesLess key z.key.toList
theorem dlt_trans {right:Bool} {a b c:Nd} (h1:dlt right a b=true) (h2:dlt right b c=true):dlt right a c=true:=by
 cases right with
 | true=>exact bl_trans h1 h2
 | false=>exact bl_trans h2 h1
theorem dlt_irrefl {right:Bool} (a:Nd):dlt right a a=false:=by
 cases right<;>exact bytesLess_irrefl _
theorem win_down {right:Bool} {key:List UInt8} {a b:Nd} (h:dlt right a b=true) (hw:win right key b=true):win right key a=true:=by
 cases right with
 | true =>
  have h:Op.bytesLess a.key.toList b.key.toList=true:=h
  have hw:(!Op.bytesLess key b.key.toList)=true:=hw
  show (!Op.bytesLess key a.key.toList)=true
  cases hk:Op.bytesLess key a.key.toList with
  | false=>rfl
  | true=>rw [bl_trans hk h] at hw;cases hw
 | false =>
  have h:Op.bytesLess b.key.toList a.key.toList=true:=h
  have hw:Op.bytesLess key b.key.toList=true:=hw
  exact bl_trans hw h
theorem dir_asc {right:Bool} {G:List Nd} (h:AscS G):(dirL right G).Pairwise fun a b=>dlt right a b=true:=by
 cases right with
 | true=>exact List.Pairwise.imp (fun h=>h.1) h
 | false=>exact List.pairwise_reverse.2 (List.Pairwise.imp (fun h=>h.1) h)
theorem dir_mem {right:Bool} {G:List Nd} {y:Nd}:y∈dirL right G↔y∈G:=by cases right<;>simp [dirL]
section
variable {N:List Nd} {L:List Lkd} {key:List UInt8} {right:Bool}
def nextW (right:Bool) (key:List UInt8):List Nd→Option Nd
 | []=>none
 | y::_=>if win right key y=true then some y else none
theorem nextW_nil (right:Bool) (key:List UInt8):nextW right key []=none:=rfl
theorem nextW_cons (right:Bool) (key:List UInt8) (y:Nd) (B:List Nd):nextW right key (y::B)=if win right key y=true then some y else none:=rfl
theorem hop_exact (h0:checkN N=0) {x:Nd} {lev:Nat} (hl:lev≤16) (hx:x∈N) (hL:atL L x.id lev=(neighN N x.id lev).1) {A B:List Nd} (e:dirL right (grpS N lev x.word)=A++x::B) :
  hopN N L key right x lev=nextW right key B:=by
 have hlv:lvlN (lev:Int)=true:=by unfold lvlN;simp;omega
 have hm:∀ y∈A++x::B,y∈N:=fun y hy=>(grp_mem.1 (dir_mem.1 (by rw [e];exact hy))).1
 have ha:=dir_asc (right:=right) (grp_asc h0 (lev:Int) x.word)
 rw [e] at ha
 have hxB:=(List.pairwise_cons.1 (List.pairwise_append.1 ha).2.1).1
 cases right with
 | true =>
  have hn:=neigh_split h0 hx hlv (A:=A) (B:=B) e
  unfold hopN
  rw [if_pos rfl,hL,hn]
  cases B with
  | nil=>simp [headI,Nd.zero,find_zero h0,nextW_nil]
  | cons y B =>
   have hy:=find_in h0 (hm y (by simp))
   have h1:Op.bytesLess x.key.toList y.key.toList=true:=hxB y (by simp)
   simp only [headI,List.head?_cons,Option.getD_some,hy]
   simp [h1,win,nextW_cons]
 | false =>
  have e':grpS N lev x.word=B.reverse++x::A.reverse:=by
   have:=congrArg List.reverse (show (grpS N lev x.word).reverse=A++x::B from e)
   simpa using this
  have hn:=neigh_split h0 hx hlv e'
  unfold hopN
  rw [if_neg (by simp),hL,hn]
  cases B with
  | nil=>simp [lastI,Nd.zero,find_zero h0,nextW_nil]
  | cons y B =>
   have hy:=find_in h0 (hm y (by simp))
   have h1:Op.bytesLess y.key.toList x.key.toList=true:=hxB y (by simp)
   simp only [lastI,List.reverse_cons,List.getLast?_append,List.getLast?_singleton,Option.some_or,Option.getD_some,hy]
   simp [h1,win,nextW_cons]
def CntSt (N:List Nd) (key:List UInt8) (right:Bool) (frm:Nd) (lev:Nat) (x:Nd) (q:Nat):Prop :=
 ∃ P A Q B,dirL right (grpS N (lev:Int) frm.word)=P++x::B∧P++[x]=A++Q∧Q.length=q∧(∀ y∈Q,brkN frm lev y=false)∧(∀ y∈B,win right key y=true→brkN frm lev y=false)∧(x=frm∨dlt right frm x=true)
theorem run_dir (h0:checkN N=0) {frm:Nd} (hf:frm∈N) {lev:Nat} (hl:lev≤16) {A Q B:List Nd} (e:dirL right (grpS N (lev:Int) frm.word)=A++Q++B) (hQ:∀ y∈Q,brkN frm lev y=false):Q.length≤runN N frm.id lev:=by
 rw [runN_eq h0 hf hl]
 cases right with
 | true =>
  have e:grpS N (lev:Int) frm.word=A++Q++B:=e
  rw [e];exact run_seg A Q B hQ
 | false =>
  have e':grpS N (lev:Int) frm.word=B.reverse++Q.reverse++A.reverse:=by
   have:=congrArg List.reverse (show (grpS N lev frm.word).reverse=A++Q++B from e)
   simpa using this
  rw [e',← List.length_reverse];exact run_seg _ _ _ (fun y hy=>hQ y (by simpa using hy))
theorem CntSt.le (h0:checkN N=0) {frm:Nd} (hf:frm∈N) {lev:Nat} (hl:lev≤16) {x:Nd} {q:Nat} (h:CntSt N key right frm lev x q):q≤runN N frm.id lev:=by
 obtain ⟨P,A,Q,B,e1,e2,rfl,h3,_,_⟩:=h
 refine run_dir (right:=right) (A:=A) (B:=B) h0 hf hl ?_ h3
 rw [e1,← e2];simp
theorem CntSt.mem {frm:Nd} {lev:Nat} {x:Nd} {q:Nat} (h:CntSt N key right frm lev x q):x∈N∧sameN x.word frm.word lev=true:=by
 obtain ⟨P,A,Q,B,e1,_⟩:=h
 exact grp_mem.1 (dir_mem.1 (by rw [e1];simp))
theorem CntSt.own (hw:∀ x∈N,x.word<4294967296) {frm:Nd} (hf:frm∈N) {lev:Nat} {x:Nd} {q:Nat} (h:CntSt N key right frm lev x q):grpS N (lev:Int) x.word=grpS N (lev:Int) frm.word :=
 grp_eq hw (hw x h.mem.1) (hw frm hf) h.mem.2
theorem CntSt.step (h0:checkN N=0) (hw:∀ x∈N,x.word<4294967296) {frm:Nd} (hf:frm∈N) {lev:Nat} (hl:lev≤16) {x y:Nd} {q:Nat} (h:CntSt N key right frm lev x q) (hL:atL L x.id lev=(neighN N x.id lev).1) (hh:hopN N L key right x lev=some y) :
  CntSt N key right frm lev y (q+1):=by
 have ho:=h.own hw hf
 have hm:=h.mem
 obtain ⟨P,A,Q,B,e1,e2,rfl,h3,h4,h5⟩:=h
 rw [hop_exact h0 hl hm.1 hL (by rw [ho];exact e1)] at hh
 have ha:=dir_asc (right:=right) (grp_asc h0 (lev:Int) frm.word)
 rw [e1] at ha
 have hxB:=(List.pairwise_cons.1 (List.pairwise_append.1 ha).2.1).1
 cases B with
 | nil=>cases hh
 | cons z B =>
  rw [nextW_cons] at hh
  split at hh
  ·rename_i hwin
   cases hh
   refine ⟨P++[x],A,Q++[y],B,by rw [e1];simp,by rw [e2];simp,by simp,?_,fun z hz=>h4 z (by simp [hz]),?_⟩
   ·intro z hz
    rcases List.mem_append.1 hz with h | h
    ·exact h3 z h
    ·have:z=y:=by simpa using h
     rw [this]
     exact h4 y (by simp) hwin
   ·have hxy:=hxB y (by simp)
    rcases h5 with rfl | h5
    ·exact .inr hxy
    ·exact .inr (dlt_trans h5 hxy)
  ·cases hh
theorem sameN_le {a b:Nat} {h k:Int} (hs:sameN a b h=true) (hk:k≤h):sameN a b k=true:=by
 unfold sameN at *
 simp only [decide_eq_true_eq] at *
 omega
theorem CntSt.down (h0:checkN N=0) (hw:∀ x∈N,x.word<4294967296) {frm:Nd} (hf:frm∈N) {lev:Nat} (hl:lev+1≤16) {x:Nd} {q:Nat} (h:CntSt N key right frm (lev+1) x q) (hL:atL L x.id (lev+1:Nat)=(neighN N x.id (lev+1:Nat)).1) (hh:hopN N L key right x (lev+1)=none) :
  CntSt N key right frm lev x 0:=by
 have ho:=h.own hw hf
 have hm:=h.mem
 obtain ⟨P,A,Q,B,e1,e2,rfl,h3,h4,h5⟩:=h
 rw [hop_exact h0 hl hm.1 hL (by rw [ho];exact e1)] at hh
 have ha:=dir_asc (right:=right) (grp_asc h0 ((lev+1:Nat):Int) frm.word)
 rw [e1] at ha
 have ha2:=List.pairwise_append.1 ha
 have hxm:x∈dirL right (grpS N (lev:Int) frm.word):=dir_mem.2 (grp_mem.2 ⟨hm.1,sameN_le hm.2 (by omega)⟩)
 obtain ⟨P2,B2,f1⟩:=List.append_of_mem hxm
 have hb:=dir_asc (right:=right) (grp_asc h0 (lev:Int) frm.word)
 rw [f1] at hb
 have hb2:=(List.pairwise_cons.1 (List.pairwise_append.1 hb).2.1).1
 refine ⟨P2,P2++[x],[],B2,f1,by simp,rfl,by simp,fun z hz hwz=>?_,h5⟩
 have hxz:=hb2 z hz
 have hzN:z∈N:=(grp_mem.1 (dir_mem.1 (by rw [f1];simp [hz]))).1
 cases hbr:brkN frm lev z with
 | false=>rfl
 | true =>
  exfalso
  unfold brkN at hbr
  rcases Bool.or_eq_true_iff.1 hbr with h | h
  ·have hid:z.id=frm.id:=by simpa using h
   have hz2:z=frm:=ids_eq (check_keys h0) hzN hf hid
   rw [hz2] at hxz
   rcases h5 with rfl | h5
   ·rw [dlt_irrefl] at hxz;cases hxz
   ·have:=dlt_trans h5 hxz
    rw [dlt_irrefl] at this;cases this
  ·have hzG:z∈dirL right (grpS N ((lev+1:Nat):Int) frm.word):=dir_mem.2 (grp_mem.2 ⟨hzN,sameN_symm (by rw [show ((lev+1:Nat):Int)=(lev:Int)+1 by omega];exact h)⟩)
   rw [e1] at hzG
   have hzB:z∈B:=by
    rcases List.mem_append.1 hzG with h | h
    ·have:=ha2.2.2 z h x (by simp)
     have:=dlt_trans this hxz
     rw [dlt_irrefl] at this;cases this
    ·rcases List.mem_cons.1 h with h | h
     ·rw [h,dlt_irrefl] at hxz;cases hxz
     ·exact h
   cases B with
   | nil=>cases hzB
   | cons y B =>
    rw [nextW_cons] at hh
    split at hh
    ·cases hh
    ·rename_i hwn
     rcases List.mem_cons.1 hzB with h | h
     ·rw [h] at hwz;exact hwn hwz
     ·exact hwn (win_down ((List.pairwise_cons.1 (List.pairwise_cons.1 ha2.2.1).2).1 z h) hwz)
theorem rt_last:∀ (f:Nat) (x:Nd) (lev:Nat) (out:List Hop),measR N right x (lev+1)≤f→hopN N L key right (rtF N L key right f x (lev+1) out).1 0=none
 | 0,x,lev,out,h=>by
  unfold measR at h
  have:1*(N.length+1)≤(lev+1)*(N.length+1):=Nat.mul_le_mul_right _ (by omega)
  omega
 | f+1,x,lev,out,h=>by
  have e:rtF N L key right (f+1) x (lev+1) out=(match hopN N L key right x lev with | some y=>rtF N L key right f y (lev+1) (out++[(x.id,y.id,(lev:Int))]) | none=>rtF N L key right f x lev out):=rfl
  cases hh:hopN N L key right x lev with
  | some y =>
   rw [hh] at e
   rw [e]
   exact rt_last f y lev _ (by have:=meas_hop hh;omega)
  | none =>
   rw [hh] at e
   rw [e]
   cases lev with
   | zero =>
    have:rtF N L key right f x 0 out=(x,out):=by cases f<;>rfl
    simp only [this]
    exact hh
   | succ lev=>exact rt_last f x lev _ (by have:=meas_down (N:=N) (right:=right) x (lev+1);omega)
end
theorem HopsOk.ends {N:List Nd} {key:List UInt8} {right:Bool} {x':Nd}:∀ {hs:List Hop} {x:Nd} {lev:Nat},HopsOk N key right x' x lev hs→endN x.id hs=x'.id
 | [],x,_,h=>by rw [show x=x' from h];rfl
 | h::hs,x,_,⟨y,l',h1,h2,h3,h4,h5⟩=>by
  have:=h5.ends
  cases hs with
  | nil=>subst h2;exact this
  | cons g hs =>
   have e:endN x.id (h::g::hs)=endN y.id (g::hs):=by
    unfold endN
    rw [List.getLast?_cons_cons]
    cases hq:(g::hs).getLast? with
    | none=>simp at hq
    | some p=>rfl
   rw [e];exact this
theorem endN_snoc (frm:Int) (hs:List Hop) (p:Hop):endN frm (hs++[p])=p.2.1:=by unfold endN;simp
theorem own_at {key:List UInt8} {A B:List Nd} {x:Nd} (hx:A=[]∨Op.bytesLess key x.key.toList=false) (hB:∀ y∈B,Op.bytesLess key y.key.toList=true):(A++x::B).foldl (ownF key) ((A++x::B).head?.getD Nd.zero)=x:=by
 have hb:∀ (B:List Nd) (o:Nd),(∀ y∈B,Op.bytesLess key y.key.toList=true)→B.foldl (ownF key) o=o:=by
  intro B
  induction B with
  | nil=>intro o _;rfl
  | cons y B ih =>
   intro o h
   show B.foldl (ownF key) (ownF key o y)=o
   have:ownF key o y=o:=by unfold ownF;rw [h y (by simp)];rfl
   rw [this,ih o (fun z hz=>h z (by simp [hz]))]
 rw [List.foldl_append,List.foldl_cons,hb B _ hB]
 rcases hx with rfl | hx
 ·show ownF key x x=x
  unfold ownF;split<;>rfl
 ·unfold ownF;rw [hx];rfl
theorem end_law {N:List Nd} (h0:checkN N=0) {L:List Lkd} {x:Nd} (hx:x∈N) {k:ByteArray} (hk:k.size≤64) (ht:0≤topL L x.id) (hL:∀ x∈N,atL L x.id 0=(neighN N x.id (0:Nat)).1) :
  (routeN N L x.id k).2=0∧endN x.id (routeN N L x.id k).1=(ownN N k).1.id∧(ownN N k).2=true:=by
 have hf:=find_in h0 hx
 have hne:N.length≠0:=by intro h;rw [List.length_eq_zero_iff.1 h] at hx;cases hx
 unfold ownN routeN
 rw [if_pos (show checkN N=0∧N.length≠0∧k.size≤64 from ⟨h0,hne,hk⟩),if_neg (show ¬ (checkN N≠0∨64<k.size) by rintro (h | h);exact h h0;omega),hf,if_neg (show ¬ (true=false) by simp)]
 simp only
 generalize hr:(!Op.bytesLess k.toList x.key.toList)=right
 obtain ⟨lev,hlev⟩:∃ lev,(topL L x.id+1).toNat=lev+1:=⟨(topL L x.id).toNat,by omega⟩
 have hl16:lev≤16:=by
  have:topL L x.id≤16:=by unfold topL;split<;>omega
  omega
 rw [hlev]
 obtain ⟨hs,e1,e2⟩:=rtF_ok (N:=N) (L:=L) (key:=k.toList) (right:=right) (18*(N.length+1)) x (lev+1) []
 have hlast:=rt_last (N:=N) (L:=L) (key:=k.toList) (right:=right) (18*(N.length+1)) x lev [] (by
  unfold measR
  have:=bey_le (N:=N) (right:=right) x
  have:(lev+1)*(N.length+1)≤17*(N.length+1):=Nat.mul_le_mul_right _ (by omega)
  omega)
 rw [List.nil_append] at e1
 generalize rtF N L k.toList right (18*(N.length+1)) x (lev+1) []=R at e1 e2 hlast
 obtain ⟨x',out⟩:=R
 simp only at e1 e2 hlast ⊢
 subst e1
 have hx':=e2.mem hx
 have hside:=e2.side (by cases right<;>simpa using hr)
 have hend:=e2.ends
 have hg:grpS N ((0:Nat):Int) x'.word=sortN N:=by
  unfold grpS groupN
  rw [List.filter_eq_self]
  intro y _
  unfold sameN
  simp
 obtain ⟨A,B,eS⟩:=List.append_of_mem ((sortN_mem N x').2 hx')
 have hasc:=sortN_str h0
 rw [eS] at hasc
 have ha2:=List.pairwise_append.1 hasc
 have hn:=neigh_split h0 hx' (h:=((0:Nat):Int)) rfl (A:=A) (B:=B) (by rw [hg];exact eS)
 have hat:atL L x'.id 0=(lastI A,headI B):=by rw [hL x' hx',hn]
 have hmem:∀ y∈A++x'::B,y∈N:=fun y hy=>(sortN_mem N y).1 (by rw [eS];exact hy)
 rw [eS]
 cases right with
 | true =>
  rw [if_pos rfl] at hside
  rw [hop_exact (right:=true) h0 (by omega) hx' (by simpa using hL x' hx') (A:=A) (B:=B) (by rw [hg];exact eS)] at hlast
  rw [if_neg (by simp)]
  refine ⟨rfl,?_,by trivial⟩
  show endN x.id out=_
  rw [hend,own_at (.inr hside)]
  intro y hy
  cases B with
  | nil=>cases hy
  | cons z B =>
   rw [nextW_cons] at hlast
   split at hlast
   ·cases hlast
   ·rename_i hz
    have hz:Op.bytesLess k.toList z.key.toList=true:=by
     have:¬ (!Op.bytesLess k.toList z.key.toList)=true:=hz
     simpa using this
    rcases List.mem_cons.1 hy with h | h
    ·rw [h];exact hz
    ·exact bl_trans hz ((List.pairwise_cons.1 (List.pairwise_cons.1 ha2.2.1).2).1 y h).1
 | false =>
  rw [if_neg (by simp)] at hside
  rw [hop_exact (right:=false) h0 (by omega) hx' (by simpa using hL x' hx') (A:=B.reverse) (B:=A.reverse) (by rw [hg,eS];simp [dirL])] at hlast
  have hB:∀ y∈x'::B,Op.bytesLess k.toList y.key.toList=true:=fun y hy=>by
   rcases List.mem_cons.1 hy with h | h
   ·rw [h];exact hside
   ·exact bl_trans hside ((List.pairwise_cons.1 ha2.2.1).1 y h).1
  rcases List.eq_nil_or_concat A with hA | ⟨A',z,hA⟩
  ·subst hA
   have hz:(findN N (atL L x'.id 0).1).2=false:=by
    rw [hat]
    show (findN N (lastI [])).2=false
    have:lastI []=0:=rfl
    rw [this,find_zero h0]
   rw [if_neg (by rw [hz];simp)]
   refine ⟨rfl,?_,by trivial⟩
   show endN x.id out=_
   rw [hend,own_at (.inl rfl) (fun y hy=>hB y (by simp [hy]))]
  ·rw [List.concat_eq_append] at hA
   subst hA
   have hzN:z∈N:=hmem z (by simp)
   have hz:(findN N (atL L x'.id 0).1)=(z,true):=by
    rw [hat]
    show findN N (lastI (A'++[z]))=_
    have:lastI (A'++[z])=z.id:=by unfold lastI;simp
    rw [this,find_in h0 hzN]
   have hzk:Op.bytesLess k.toList z.key.toList=false:=by
    have hrev:(A'++[z]).reverse=z::A'.reverse:=by simp
    rw [hrev] at hlast
    rw [nextW_cons] at hlast
    split at hlast
    ·cases hlast
    ·rename_i hh
     have:¬ Op.bytesLess k.toList z.key.toList=true:=hh
     simpa using this
   rw [hz]
   rw [if_pos (by simp [hzk])]
   refine ⟨rfl,?_,by trivial⟩
   show endN x.id (out++[(x'.id,z.id,0)])=_
   rw [endN_snoc]
   have e3:A'++[z]++x'::B=A'++z::(x'::B):=by simp
   rw [e3,own_at (.inr hzk) hB]
theorem build_top {N:List Nd} (h0:checkN N=0) {h:Nat} (hh:h≤16) {x:Nd} (hx:x∈N):topL (buildN N (h:Int)).1 x.id=h∧∀ lev:Nat,lev≤h→atL (buildN N (h:Int)).1 x.id lev=(neighN N x.id lev).1:=by
 have h0s:checkN (sortN N)=0:=check_perm (sortN_perm N) h0
 have hfind:(buildN N (h:Int)).1.find? (fun c=>c.1==x.id)=some (rowN (sortN N) (h+1) x):=by
  unfold buildN
  rw [if_neg (by rw [h0];simp),if_neg (by unfold lvlN;simp;omega)]
  simp only
  rw [show ((h:Int)).toNat+1=h+1 by omega,List.find?_map]
  have:((fun (c:Lkd)=>c.1==x.id) ∘ rowN (sortN N) (h+1))=fun y:Nd=>y.id==x.id:=rfl
  rw [this]
  have hf:=find_in h0s ((sortN_mem N x).2 hx)
  unfold findN at hf
  split at hf
  ·rename_i y hy
   cases hf
   rw [hy];rfl
  ·cases hf
 have hnb:∀ lev:Nat,lev≤16→(neighN (sortN N) x.id lev)=neighN N x.id lev:=fun lev hl=>by
  have hlv:lvlN (lev:Int)=true:=by unfold lvlN;simp;omega
  obtain ⟨A,B,e⟩:=grp_at hx hlv
  have es:grpS (sortN N) lev x.word=A++x::B:=by
   unfold grpS at e ⊢
   rw [sort_perm (sortN_perm N) h0];exact e
  rw [neigh_split h0 hx hlv e,neigh_split h0s ((sortN_mem N x).2 hx) hlv es]
 refine ⟨?_,fun lev hl=>?_⟩
 ·unfold topL
  rw [hfind]
  simp only [rowN_len]
  omega
 ·unfold atL
  rw [hfind]
  simp only
  rw [if_neg (by omega)]
  unfold rowN
  simp only
  rw [show ((lev:Int)).toNat=lev by omega,List.getElem?_map,List.getElem?_range (by omega)]
  simp only [Option.map_some,Option.getD_some]
  rw [hnb lev (by omega)]
section
variable {N:List Nd}
theorem pair_congr {own nb:Int} {lev:Nat} {z1 o1 z2 o2:Int} (h:(findN N nb).2=true→z1=z2∧o1=o2):pairB N own nb lev z1 o1=pairB N own nb lev z2 o2:=by
 unfold pairB
 split
 ·rename_i hf
  rw [(h hf).1,(h hf).2]
 ·rfl
theorem step_congr {st st':Int→Pr} (h:∀ x∈N,st x.id=st' x.id) (p:Pr) (i:Nat):stepB N st p i=stepB N st' p i:=by
 have hf:∀ nb,(findN N nb).2=true→st nb=st' nb:=fun nb hb=>by
  obtain ⟨m1,m2⟩:=findN_mem hb
  have:=h _ m1
  rwa [m2] at this
 have e1:=pair_congr (N:=N) (own:=p.id) (nb:=(linkB N p i).1) (lev:=i) (z1:=(nearAt (st (linkB N p i).1) i).1) (o1:=(nearAt (st (linkB N p i).1) i).2.1) (z2:=(nearAt (st' (linkB N p i).1) i).1) (o2:=(nearAt (st' (linkB N p i).1) i).2.1)
  (fun hb=>by rw [hf _ hb];exact ⟨rfl,rfl⟩)
 have e2:=pair_congr (N:=N) (own:=p.id) (nb:=(linkB N p i).2) (lev:=i) (z1:=(nearAt (st (linkB N p i).2) i).2.2.1) (o1:=(nearAt (st (linkB N p i).2) i).2.2.2) (z2:=(nearAt (st' (linkB N p i).2) i).2.2.1) (o2:=(nearAt (st' (linkB N p i).2) i).2.2.2)
  (fun hb=>by rw [hf _ hb];exact ⟨rfl,rfl⟩)
 unfold stepB
 rw [e1,e2]
theorem next_congr {st st':Int→Pr} (h:∀ x∈N,st x.id=st' x.id) (p:Pr) (k:Nat):nextB N st p k=nextB N st' p k:=by
 unfold nextB
 exact List.map_congr_left fun i _=>step_congr h p i
theorem right_zero (h0:checkN N=0) {P:List Pr} (he:exactL N P):RightB N (peerN P) 0:=by
 intro x hx
 have hpid:=peer_id P x.id
 obtain ⟨A,B,e⟩:=grp_at hx (h:=((0:Nat):Int)) rfl
 obtain ⟨hA,hB⟩:=grp_parts h0 e
 have hn:=neigh_split h0 hx (h:=((0:Nat):Int)) rfl e
 have hx2:=he.2 x hx
 rw [hn] at hx2 ⊢
 simp only [Prod.mk.injEq] at hx2
 unfold linkB
 rw [hpid,find_in h0 hx,if_pos ⟨rfl,h0,rfl,by omega⟩,if_pos (show ((0:Nat):Int)=0 from rfl)]
 simp only
 rw [hx2.1,hx2.2,other_last h0 hA,other_head h0 hB]
theorem links_build (h0:checkN N=0) {h:Nat} (hh:h≤16) {P:List Pr} (hR:∀ i,i≤h→RightB N (peerN P) i):linksB N P (h:Int)=(buildN N (h:Int)).1:=by
 unfold linksB buildN normalN
 have hlv:lvlN (h:Int)=true:=by unfold lvlN;simp;omega
 rw [if_pos hlv,if_pos h0,if_neg (show ¬ (checkN N==0)=false by rw [h0];simp),if_neg (show ¬ lvlN (h:Int)=false by rw [hlv];simp),List.map_map]
 refine List.map_congr_left fun x hx=>?_
 have hxN:=(sortN_mem N x).1 hx
 have h0s:checkN (sortN N)=0:=check_perm (sortN_perm N) h0
 show ((peerN P x.id).id,_)=rowN (sortN N) _ x
 unfold rowN
 rw [peer_id,show ((h:Int)).toNat=h by omega]
 congr 1
 refine List.map_congr_left fun i hi=>?_
 have hi:i<h+1:=by simpa using hi
 rw [hR i (by omega) x hxN]
 have hlv:lvlN (i:Int)=true:=by unfold lvlN;simp;omega
 obtain ⟨A,B,e⟩:=grp_at hxN hlv
 have es:grpS (sortN N) i x.word=A++x::B:=by
  unfold grpS at e ⊢
  rw [sort_perm (sortN_perm N) h0];exact e
 rw [neigh_split h0 hxN hlv e,neigh_split h0s hx hlv es]
theorem exact_yes (h0:checkN N=0) {h:Nat} (hh:h≤16) {P:List Pr} (hR:∀ i,i≤h→RightB N (peerN P) i):exactB N P (h:Int)=true:=by
 unfold exactB
 rw [links_build h0 hh hR,(build_ok0 h0 hh).1]
 simp
theorem reach_lawA (hw:∀ x∈N,x.word<4294967296) {h:Nat} (hh:h≤16) {P:Nat→List Pr} (hc:ConnN N (P 0)) (hk:∀ t,∀ a∈N,∀ v∈(peerN (roundN N (P t)) a.id).known,v∈(peerN (P (t+1)) a.id).known)
  (hlr:∀ t,∀ a∈N,((peerN (P (t+1)) a.id).left,(peerN (P (t+1)) a.id).right)=keepN N (peerN (P t) a.id))
  (hnear:∀ t,∀ a∈N,∃ st:Int→Pr,(∀ y∈N,(st y.id).near=(peerN (P t) y.id).near∨(st y.id).near=(peerN (P (t+1)) y.id).near)∧(peerN (P (t+1)) a.id).near=nextB N st (peerN (P t) a.id) h) :
  ∀ t,N.length*(h+1)≤t→exactB N (P t) (h:Int)=true:=by
 intro t ht
 have h0:=hc.1
 refine exact_yes h0 hh fun i hi=>?_
 refine climbA h0 hw hh (S:=fun t=>peerN (P t)) (fun t id=>peer_id _ _) (fun t x hx=>hnear t x hx) (T:=N.length) (fun t ht=>right_zero h0 (sort_law hc hk hlr t ht)) i hi t ?_
 have h1:N.length*(i+1)≤N.length*(h+1):=Nat.mul_le_mul_left _ (by omega)
 rw [Nat.mul_add,Nat.mul_one,Nat.mul_comm] at h1
 omega
def rRoundN (N:List Nd) (P:List Pr) (h:Int):List Pr:=if lvlN h=true then ((roundN N P).zip (bRoundN N P h)).map fun q=>{ q.1 with near:=q.2.near } else []
def rRunsN (N:List Nd) (P:List Pr) (h:Int):Nat→List Pr
 | 0=>P
 | t+1=>rRoundN N (rRunsN N P h t) h
end
def IjRel (l:List Int) (v:Int) (n:Nat) (w:World) (i:Value) (wr:World):Prop :=
 ∃ k:Nat,k≤n∧i=.int .i64 k∧Ex w wr∧∀ j z,j<k→l[j]?=some z→z≠v
set_option maxHeartbeats 1000000 in
theorem index_i (a:Option Addr) (n c:Nat) (l:List Int) (v:Int) (w:World) (h:Sl 1 encI w a n l) (hn:n≤4000000000000000000) :
  Calls Tryz.prog 173 #[.slice a n c,.int .i64 v] w fun e w'=>∃ r:Int,e=.returned (.int .i64 r)∧decide (0≤r)=l.contains v∧Ex w w':=by
 have HL:=lH h.len
 have hs:=lH h
 clear h
 go_enter Tryz.func173,Tryz.ntmps173
 go_wp2
 go_loopw [8] (fun i wr=>IjRel l v n w i wr) (fun i _=>n-(intOf i).toNat)
 case atStart=>exact ⟨0,by omega,rfl,Ex.refl _,by intro j z h;omega⟩
 case round =>
  obtain ⟨k,hk,rfl,kw,hno⟩:=hrel
  have HNO:=lH hno
  clear hno
  obtain ⟨wo,rfl⟩:∃ wo:World,wo=wr:=⟨_,rfl⟩
  by_cases hlt:k<n
  ·obtain ⟨x1,o1,y,rfl,hx1,hy,hc1⟩:=(hs.out.nx kw).at hlt
   have e0:wo.cell? ⟨x1,o1+k,none⟩=some (.int .i64 y):=by simpa using hc1 0 _ rfl
   have HY:=lH hy
   have KW:=lH kw
   clear hc1 hy kw
   by_cases hv:y=v
   ·have HC:Hid (decide ((0:Int)≤(k:Int))=l.contains v):=lH (by
     have h1:l.contains v=true:=by rw [List.contains_iff_mem,← hv];exact List.mem_of_getElem? HY.out
     rw [h1];simp)
    have hb:(v==y)=true:=by rw [hv];simp
    clear hv
    go_wp2_with fail
    go_ret
    exact ⟨k,rfl,HC.out,KW.out⟩
   ·have HV:=lH hv
    have hb:(v==y)=false:=by rw [beq_eq_false_iff_ne];exact fun h=>hv h.symm
    clear hv
    go_wp2_with fail
    refine ⟨⟨k+1,by omega,by go_num,KW.out,fun j z hj hz=>?_⟩,by simp [intOf];omega⟩
    rcases Nat.lt_or_ge j k with h | h
    ·exact HNO.out j z h hz
    ·obtain rfl:j=k:=by omega
     rw [Option.some.inj (hz.symm.trans HY.out)]
     exact HV.out
  ·obtain rfl:k=n:=by omega
   have HC:Hid (decide ((0:Int)≤-1)=l.contains v):=lH (by
    have h1:l.contains v=false:=by
     cases hc:l.contains v with
     | false=>rfl
     | true =>
      rw [List.contains_iff_mem] at hc
      obtain ⟨j,hj⟩:=List.mem_iff_getElem?.1 hc
      exact absurd rfl (HNO.out j v (by rw [← HL.out];exact (List.getElem?_eq_some_iff.1 hj).1) hj)
    rw [h1];rfl)
   have KW:=lH kw
   clear kw hk hlt
   go_wp2_with fail
   go_ret
   exact ⟨-1,rfl,HC.out,KW.out⟩
theorem contains_i (a:Option Addr) (n c:Nat) (l:List Int) (v:Int) (w:World) (h:Sl 1 encI w a n l) (hn:n≤4000000000000000000) :
  Calls Tryz.prog 100 #[.slice a n c,.int .i64 v] w fun e w'=>e=.returned (.bool (l.contains v))∧Ex w w':=by
 go_enter Tryz.func100,Tryz.ntmps100
 go_wp2_with fail
 (with_reducible refine (index_i _ _ _ _ _ _ h hn).mono ?_)
 rintro e w1 ⟨r,rfl,hr,kk⟩
 have HR:=lH hr
 clear h hr
 go_wp2_with fail
 go_ret
 exact ⟨by rw [← HR.out];rfl,kk⟩
theorem ex_setcs {g:Nat} {w0:World} (hg:w0.heap.size≤g):∀ (vs:List Value) (w:World) (j:Nat),Ex w0 w→Ex w0 (w.setCells g j vs)
 | [],_,_,h=>h
 | v::vs,w,j,h=>ex_setcs hg vs _ (j+1) (h.setNew (p:=⟨g,j,none⟩) v hg)
section
variable {N:List Nd}
theorem chain_cl {R:Int→Int→Prop}:∀ (S:List Nd),(∀ A a b B,S=A++a::b::B→R a.id b.id)→∀ x∈S,∀ y∈S,Cl R x.id y.id
 | [],_,x,hx,_,_=>by cases hx
 | [a],_,x,hx,y,hy=>by
  simp only [List.mem_singleton] at hx hy
  subst hx hy
  exact .refl _
 | a::b::S,h,x,hx,y,hy=>by
  have ih:=chain_cl (b::S) (fun A u v B e=>h (a::A) u v B (by rw [e];rfl))
  have hab:Cl R a.id b.id:=Cl.one (.inl (h [] a b S rfl))
  have hb:∀ z∈a::b::S,Cl R b.id z.id:=by
   intro z hz
   rcases List.mem_cons.1 hz with rfl | hz
   ·exact hab.symm
   ·exact ih b (by simp) z hz
  exact (hb x hx).symm.trans (hb y hy)
end
def OiPost (l:List Int) (w:World) (e:Ending) (w':World):Prop:=∃ v,e=.returned v∧OwnL 1 encI 3 w.heap.size w' v l∧Ex w w'
def HasRel (l:List Int) (v:Int) (n:Nat) (w:World) (i:Value) (wr:World):Prop :=
 ∃ k:Nat,k≤n∧i=.int .i64 k∧Ex w wr∧∀ j z,j<k→l[j]?=some z→z≠v
set_option maxHeartbeats 1000000 in
theorem has_r (a:Option Addr) (n c:Nat) (l:List Int) (v:Int) (w:World) (h:Sl 1 encI w a n l) (hn:n≤4000000000000000000) :
  Calls Tryz.prog 39 #[.slice a n c,.int .i64 v] w fun e w'=>e=.returned (.bool (l.contains v))∧Ex w w':=by
 have HL:=lH h.len
 have hs:=lH h
 clear h
 go_enter Tryz.func39,Tryz.ntmps39
 go_wp2_with fail
 go_loopw [5] (fun i wr=>HasRel l v n w i wr) (fun i _=>n-(intOf i).toNat)
 case atStart=>exact ⟨0,by omega,rfl,Ex.refl _,by intro j z h;omega⟩
 case round =>
  obtain ⟨k,hk,rfl,kw,hno⟩:=hrel
  have HNO:=lH hno
  clear hno
  obtain ⟨wo,rfl⟩:∃ wo:World,wo=wr:=⟨_,rfl⟩
  by_cases hlt:k<n
  ·obtain ⟨x1,o1,y,rfl,hx1,hy,hc1⟩:=(hs.out.nx kw).at hlt
   have e0:wo.cell? ⟨x1,o1+k,none⟩=some (.int .i64 y):=by simpa using hc1 0 _ rfl
   have HY:=lH hy
   have KW:=lH kw
   clear hc1 hy kw
   by_cases hv:y=v
   ·have HC:Hid (l.contains v=true):=lH (by rw [List.contains_iff_mem,← hv];exact List.mem_of_getElem? HY.out)
    have hb:(y==v)=true:=by rw [hv];simp
    clear hv
    go_wp2_with fail
    go_ret
    exact ⟨by rw [HC.out];rfl,KW.out⟩
   ·have HV:=lH hv
    have hb:(y==v)=false:=by rw [beq_eq_false_iff_ne];exact hv
    clear hv
    go_wp2_with fail
    refine ⟨⟨k+1,by omega,by go_num,KW.out,fun j z hj hz=>?_⟩,by simp [intOf];omega⟩
    rcases Nat.lt_or_ge j k with h | h
    ·exact HNO.out j z h hz
    ·obtain rfl:j=k:=by omega
     rw [Option.some.inj (hz.symm.trans HY.out)]
     exact HV.out
  ·obtain rfl:k=n:=by omega
   have HC:Hid (l.contains v=false):=lH (by
    cases hc:l.contains v with
    | false=>rfl
    | true =>
     rw [List.contains_iff_mem] at hc
     obtain ⟨j,hj⟩:=List.mem_iff_getElem?.1 hc
     exact absurd rfl (HNO.out j v (by have:=(List.getElem?_eq_some_iff.1 hj).1;rw [← HL.out];exact this) hj))
   have KW:=lH kw
   clear hk hlt kw
   go_wp2_with fail
   go_ret
   exact ⟨by rw [HC.out];rfl,KW.out⟩
def ordP (l:List Int) (but:Int) (y:Nd):Bool:=!(y.id==but)&&l.contains y.id
def OrdRel (S:List Nd) (l:List Int) (but:Int) (w:World) (o i:Value) (wr:World):Prop :=
 ∃ j:Nat,j≤S.length∧i=.int .i64 j∧OwnL 1 encI 3 w.heap.size wr o (((S.take j).filter (ordP l but)).map Nd.id)∧Ex w wr
theorem ord_snoc {S:List Nd} {l:List Int} {but:Int} {j:Nat} {y:Nd} (hy:S[j]?=some y) :
  ((S.take (j+1)).filter (ordP l but)).map Nd.id=((S.take j).filter (ordP l but)).map Nd.id++(if ordP l but y=true then [y.id] else []):=by
 rw [List.take_add_one,hy,List.filter_append,List.map_append]
 congr 1
 by_cases hp:ordP l but y=true
 ·rw [if_pos hp];simp [hp]
 ·rw [if_neg hp];simp [hp]
set_option maxRecDepth 100000 in
set_option maxHeartbeats 2000000 in
theorem ordered_r (a:Option Addr) (n c:Nat) (N:List Nd) (a2:Option Addr) (n2 c2:Nat) (l:List Int) (but:Int) (w:World) (h:Sl 3 encN w a n N) (hn:n≤1000) (h2:Sl 1 encI w a2 n2 l) (hn2:n2≤4000000000000000000) :
  Calls Tryz.prog 227 #[.slice a n c,.slice a2 n2 c2,.int .i64 but] w (OiPost (ordN N l but) w):=by
 have hNn:N.length≤1000:=by have:=h.len;omega
 go_enter Tryz.func227,Tryz.ntmps227
 go_wp2_with fail
 (with_reducible refine (sort_r _ _ _ _ _ h hn).mono ?_)
 rintro e w1 ⟨a1,n1,c1,rfl,own1,kk⟩
 replace h2:=h2.nx kk
 have S1:Sl 3 encN w1 a1 n1 (sortN N):=Slf.sl own1
 have hn1:n1=(sortN N).length:=S1.len.symm
 subst hn1
 have hSl:(sortN N).length≤1000:=by rw [sortN_length];exact hNn
 have ES:Hid (ordN N l but=((sortN N).filter (ordP l but)).map Nd.id):=lH rfl
 generalize sortN N=S at S1 hSl ES own1 ⊢
 have S1:=lH S1
 have H2:=lH h2
 have K1:Hid (Ex w w1):=lH kk
 have hz1:=kk.size
 clear h own1 h2 kk hNn hn
 go_wp2_with fail
 go_loopw [7,9] (fun o i wr=>OrdRel S l but w1 o i wr) (fun _ i _=>S.length-(intOf i).toNat)
 case atStart=>exact ⟨0,by omega,rfl,OwnL.nil _ _ _ _ _,Ex.refl _⟩
 case round =>
  obtain ⟨j,hj,rfl,own,ki⟩:=hrel
  obtain ⟨wi,rfl⟩:∃ wi:World,wi=wr:=⟨_,rfl⟩
  by_cases hjm:j<S.length
  ·obtain ⟨x3,o3,y,rfl,hx3,hy,hc3⟩:=(S1.out.nx ki).at hjm
   have e0:wi.cell? ⟨x3,o3+j*3,none⟩=some (.int .i64 y.id):=hc3 0 _ rfl
   have SN:=lH (ord_snoc (l:=l) (but:=but) hy)
   have hrl:(((S.take j).filter (ordP l but)).map Nd.id).length≤1000:=by
    rw [List.length_map]
    have:=List.length_filter_le (ordP l but) (S.take j)
    rw [List.length_take] at this
    omega
   generalize ((S.take j).filter (ordP l but)).map Nd.id=row at own SN hrl
   have OWN:=lH own
   have KI:=lH ki
   have zb:=ki.size
   clear hy hc3 own ki
   by_cases hb:y.id=but
   ·have hq:(y.id != but)=false:=by simp [hb]
    have hq2:(y.id==but)=true:=by simp [hb]
    have PF:Hid (ordP l but y=false):=lH (by unfold ordP;rw [hq2];rfl)
    clear hb
    go_wp2_with fail
    exact ⟨⟨j+1,by omega,by go_num,by rw [SN.out,PF.out];simpa using OWN.out,KI.out⟩,by simp [intOf];omega⟩
   ·have hq:(y.id != but)=true:=by simpa using hb
    have hq2:(y.id==but)=false:=by simpa using hb
    clear hb
    go_wp2_with fail
    (with_reducible refine (has_r _ _ _ _ y.id _ (H2.out.nx KI.out) hn2).mono ?_)
    rintro e w5 ⟨rfl,kk⟩
    have K5:=lH kk
    have e5:w5.cell? ⟨x3,o3+j*3,none⟩=some (.int .i64 y.id):=Chg.cellv kk e0 hx3
    have own5:=OWN.out.nx kk
    have k5:=KI.out.nx kk
    have hx5:=Nat.lt_of_lt_of_le hx3 kk.size
    have zb5:=k5.size
    have PB:Hid (ordP l but y=l.contains y.id):=lH (by unfold ordP;rw [hq2];rfl)
    clear kk e0
    generalize l.contains y.id=inl at PB ⊢
    cases inl with
    | false =>
     have K5':=lH k5
     have O5':=lH own5
     clear k5 own5
     go_wp2_with fail
     exact ⟨⟨j+1,by omega,by go_num,by rw [SN.out,PB.out];simpa using O5'.out,K5'.out⟩,by simp [intOf];omega⟩
    | true =>
     generalize y.id=yi at SN e5 hq hq2 ⊢
     go_wp2_with (at_builtin;(refine wpList_append_lit (enc:=encI) w5 rfl _ _ 22 rfl w1.heap.size 3 (.int .i64 0) 1 8 Tryz.underlying22 Tryz.infoI6 rfl (by omega) (by omega) _ _ own5 rfl (yi:Int) _ rfl rfl (by simp [encI,Value.oneCell']) _ (by simp) rfl (by omega) zb5 _ ?_);intro v6 w6 own6 _ ch1 _)
     refine ⟨⟨j+1,by omega,by go_num,by rw [SN.out,PB.out];exact own6,Chg.trans k5 ch1⟩,by simp [intOf];omega⟩
  ·obtain rfl:j=S.length:=by omega
   rw [List.take_of_length_le (by omega)] at own
   have own:=lH (own.base hz1)
   have KE:=lH (K1.out.nx ki)
   clear hj hjm ki
   go_wp2_with fail
   go_ret
   exact ⟨_,rfl,by rw [ES.out];exact own.out,KE.out⟩
end Go.Proofs.YthcholmhmcpooaaGreatDoor
namespace Go.Proofs.YthcholmhmcpooaaGreatDoor
open Go.RowKit Go.Maps
theorem sorted_own {l:List Nd} {base:Nat} {w:World} {v:Value} (h0:checkN l=0) (own:OwnL 3 encN 36 base w v (sortN l)) :
  ∃ a c,v=.slice a l.length c∧Sl 3 encN w a l.length (sortN l)∧l.length≤c∧c≤maxLen:=by
 obtain ⟨a,c,e,r,h1,h2,_⟩:=own.rd (fun _=>rfl)
 rw [sortN_length] at e r h1
 exact ⟨a,c,e,r.mono (fun _ hk=>hk.2),h1,h2⟩
end Go.Proofs.YthcholmhmcpooaaGreatDoor
namespace Go.Proofs.YthcholmhmcpooaaGreatDoor
open Go.RowKit Go.Maps
theorem check_len {N:List Nd} (h0:checkN N=0):N.length≤64:=by
 unfold checkN at h0
 split at h0
 ·cases h0
 ·omega
theorem cont4 (y:Nr) (id:Int):(nums4 y).contains id=(y.1==id||y.2.1==id||y.2.2.1==id||y.2.2.2==id):=by
 unfold nums4
 rw [Bool.eq_iff_iff]
 simp only [List.contains_iff_mem,List.mem_cons,List.not_mem_nil,or_false,Bool.or_eq_true,beq_iff_eq]
 omega
set_option maxHeartbeats 1000000 in
theorem names1_p (gx:Nat) (id:Int) (y:Nr) (w:World) (hx:Blk w gx [.int .i64 id] 3) :
  Calls Tryz.prog 225 #[.agg #[.int .i64 y.1,.int .i64 y.2.1,.int .i64 y.2.2.1,.int .i64 y.2.2.2],.pointer (some ⟨gx,0,none⟩)] w fun e w'=>e=.returned (.bool ((nums4 y).contains id))∧Ex w w':=by
 have hg:=hx.lt
 have EX:=Ex.refl w
 have CN:=lH (cont4 y id)
 have B2:=Blk.new w [.int .i64 y.1,.int .i64 y.2.1,.int .i64 y.2.2.1,.int .i64 y.2.2.2] 158
 have kk:=Ex.new w (.cells #[.int .i64 y.1,.int .i64 y.2.1,.int .i64 y.2.2.1,.int .i64 y.2.2.2] 158)
 obtain ⟨w1,hw1⟩:∃ w1,w1=w.alloc (.cells #[.int .i64 y.1,.int .i64 y.2.1,.int .i64 y.2.2.1,.int .i64 y.2.2.2] 158):=⟨_,rfl⟩
 obtain ⟨g2,hg2⟩:∃ g2,g2=w.heap.size:=⟨_,rfl⟩
 replace B2:Blk w1 g2 [.int .i64 y.1,.int .i64 y.2.1,.int .i64 y.2.2.1,.int .i64 y.2.2.2] 158:=by rw [hw1,hg2];exact B2
 rw [← hw1] at kk
 have Hw1:=lH hw1
 have Hg2:=lH hg2
 replace hx:=hx.nx kk
 replace EX:=EX.nx kk
 clear kk hw1 hg2
 go_enter Tryz.func225,Tryz.ntmps225
 go_upto_region 1 with fail
 rw [← Hg2.out,← Hw1.out]
 clear Hg2 Hw1
 have q0:=hx.cell 0 _ rfl
 have p0:=B2.cell 0 _ rfl
 have p1:=B2.cell 1 _ rfl
 have p2:=B2.cell 2 _ rfl
 have p3:=B2.cell 3 _ rfl
 clear hx B2
 generalize hc1:(y.1==id)=c1 at CN
 generalize hc2:(y.2.1==id)=c2 at CN
 generalize hc3:(y.2.2.1==id)=c3 at CN
 generalize hc4:(y.2.2.2==id)=c4 at CN
 cases c1 with
 | true =>
  go_wp2_with fail
  go_ret
  exact ⟨by rw [CN.out];rfl,EX⟩
 | false =>
  cases c2 with
  | true =>
   go_wp2_with fail
   go_ret
   exact ⟨by rw [CN.out];rfl,EX⟩
  | false =>
   cases c3 with
   | true =>
    go_wp2_with fail
    go_ret
    exact ⟨by rw [CN.out];rfl,EX⟩
   | false =>
    go_wp2_with fail
    go_ret
    exact ⟨by rw [CN.out];rfl,EX⟩
def NmfRel (id:Int) (l:List Nr) (n:Nat) (w:World) (i:Value) (wr:World):Prop :=
 ∃ k:Nat,k≤n∧i=.int .i64 k∧Ex w wr∧∀ j z,j<k→l[j]?=some z→(nums4 z).contains id=false
set_option maxRecDepth 100000 in
set_option maxHeartbeats 2000000 in
theorem idxf_nr (gx:Nat) (id:Int) (a:Option Addr) (n c:Nat) (l:List Nr) (w:World) (h:Sl 4 encNr w a n l) (hn:n≤4000000000000000000) (hx:Blk w gx [.int .i64 id] 3) :
  Calls Tryz.prog 237 #[.slice a n c,.func (.func 225) #[] #[.pointer (some ⟨gx,0,none⟩)]] w fun e w'=>∃ r:Int,e=.returned (.int .i64 r)∧decide (0≤r)=(l.flatMap nums4).contains id∧Ex w w':=by
 have HL:=lH h.len
 have HX:=lH hx
 have hs:=lH h
 have eg:∀ args w,(callFunc 225 args).run Tryz.prog w=.ok (.enter 225 args) w:=enters_of Tryz.func225 (by kernel_rfl) rfl
 clear h hx
 go_enter Tryz.func237,Tryz.ntmps237
 go_wp2
 go_loopw [8] (fun i wr=>NmfRel id l n w i wr) (fun i _=>n-(intOf i).toNat)
 case atStart=>exact ⟨0,by omega,rfl,Ex.refl _,by intro j z h;omega⟩
 case round =>
  obtain ⟨k,hk,rfl,kw,hno⟩:=hrel
  have HNO:=lH hno
  clear hno
  obtain ⟨wo,rfl⟩:∃ wo:World,wo=wr:=⟨_,rfl⟩
  by_cases hlt:k<n
  ·obtain ⟨x1,o1,y,rfl,hx1,hy,hc1⟩:=(hs.out.nx kw).at hlt
   have e0:wo.cell? ⟨x1,o1+k*4,none⟩=some (.int .i64 y.1):=hc1 0 _ rfl
   have e1:wo.cell? ⟨x1,o1+k*4+1,none⟩=some (.int .i64 y.2.1):=hc1 1 _ rfl
   have e2:wo.cell? ⟨x1,o1+k*4+1+1,none⟩=some (.int .i64 y.2.2.1):=by simpa [Nat.add_assoc] using hc1 2 _ rfl
   have e3:wo.cell? ⟨x1,o1+k*4+1+1+1,none⟩=some (.int .i64 y.2.2.2):=by simpa [Nat.add_assoc] using hc1 3 _ rfl
   have HY:=lH hy
   have HB:=lH (HX.out.nx kw)
   have KW:=lH kw
   clear hc1 hy kw
   go_wp2_with fail
   (with_reducible refine (names1_p gx id y _ HB.out).mono ?_)
   rintro e w2 ⟨rfl,k2⟩
   have K2:=lH (KW.out.nx k2)
   clear k2 e0 e1 e2 e3
   cases hb:(nums4 y).contains id with
   | true =>
    have HI:Hid ((l.flatMap nums4).contains id=true):=lH (by
     rw [List.contains_iff_mem,List.mem_flatMap]
     exact ⟨y,List.mem_of_getElem? HY.out,List.contains_iff_mem.1 hb⟩)
    clear hb
    go_wp2_with fail
    go_ret
    exact ⟨_,rfl,by rw [HI.out];simp,K2.out⟩
   | false =>
    have HB:=lH hb
    clear hb
    go_wp2_with fail
    refine ⟨⟨k+1,by omega,by go_num,K2.out,fun j z hj hz=>?_⟩,by simp [intOf];omega⟩
    rcases Nat.lt_or_ge j k with h | h
    ·exact HNO.out j z h hz
    ·obtain rfl:j=k:=by omega
     rw [Option.some.inj (hz.symm.trans HY.out)]
     exact HB.out
  ·obtain rfl:k=n:=by omega
   have HI:Hid ((l.flatMap nums4).contains id=false):=lH (by
    rw [Bool.eq_false_iff]
    intro hc
    rw [List.contains_iff_mem,List.mem_flatMap] at hc
    obtain ⟨y,hy,hm⟩:=hc
    obtain ⟨j,hj⟩:=List.mem_iff_getElem?.1 hy
    have:=HNO.out j y (by rw [← HL.out];exact (List.getElem?_eq_some_iff.1 hj).1) hj
    rw [List.contains_iff_mem.2 hm] at this
    cases this)
   have KW:=lH kw
   clear kw hk hlt
   go_wp2_with fail
   go_ret
   exact ⟨-1,rfl,by rw [HI.out];rfl,KW.out⟩
theorem contf_nr (gx:Nat) (id:Int) (a:Option Addr) (n c:Nat) (l:List Nr) (w:World) (h:Sl 4 encNr w a n l) (hn:n≤4000000000000000000) (hx:Blk w gx [.int .i64 id] 3) :
  Calls Tryz.prog 226 #[.slice a n c,.func (.func 225) #[] #[.pointer (some ⟨gx,0,none⟩)]] w fun e w'=>e=.returned (.bool ((l.flatMap nums4).contains id))∧Ex w w':=by
 go_enter Tryz.func226,Tryz.ntmps226
 go_wp2_with fail
 (with_reducible refine (idxf_nr gx id _ _ _ _ _ h hn hx).mono ?_)
 rintro e w1 ⟨r,rfl,hr,kk⟩
 have HR:=lH hr
 clear h hx hr
 go_wp2_with fail
 go_ret
 exact ⟨by rw [← HR.out];rfl,kk⟩
theorem cont_nums (p:Pr) (id:Int):(numsP p).contains id=(p.left==id||p.right==id||p.known.contains id||(p.near.flatMap nums4).contains id):=by
 unfold numsP
 rw [Bool.eq_iff_iff]
 simp only [List.contains_iff_mem,List.mem_append,List.mem_cons,List.not_mem_nil,or_false,Bool.or_eq_true,beq_iff_eq]
 constructor
 ·rintro ((h | h | h) | h)
  ·exact .inl (.inr h)
  ·exact .inl (.inl (.inl h.symm))
  ·exact .inl (.inl (.inr h.symm))
  ·exact .inr h
 ·rintro (((h | h) | h) | h)
  ·exact .inl (.inr (.inl h.symm))
  ·exact .inl (.inr (.inr h.symm))
  ·exact .inl (.inl h)
  ·exact .inr h
set_option maxHeartbeats 2000000 in
theorem names_p (p:Pr) (a1:Option Addr) (n1 c1:Nat) (a2:Option Addr) (n2 c2:Nat) (id:Int) (w:World) (h1:Sl 1 encI w a1 n1 p.known) (h2:Sl 4 encNr w a2 n2 p.near) (hn1:n1≤4000000000000000000) (hn2:n2≤4000000000000000000) :
  Calls Tryz.prog 204 #[.agg #[.int .i64 p.id,.slice a1 n1 c1,.int .i64 p.left,.int .i64 p.right,.slice a2 n2 c2],.int .i64 id] w fun e w'=>e=.returned (.bool ((numsP p).contains id))∧Ex w w':=by
 have EX:=Ex.refl w
 have CN:=lH (cont_nums p id)
 obtain ⟨g2,hg2⟩:∃ g2,g2=w.heap.size:=⟨_,rfl⟩
 obtain ⟨g3,hg3⟩:∃ g3,g3=(w.heap.size+1):=⟨_,rfl⟩
 obtain ⟨w1,hw1⟩:∃ w1,w1=((w.alloc (.cells #[.int .i64 p.id,.slice a1 n1 c1,.int .i64 p.left,.int .i64 p.right,.slice a2 n2 c2] 150)).alloc (.cells #[.int .i64 id] 3)):=⟨_,rfl⟩
 have kk:Ex w w1:=by rw [hw1];exact (((Ex.refl w).alloc (.cells #[.int .i64 p.id,.slice a1 n1 c1,.int .i64 p.left,.int .i64 p.right,.slice a2 n2 c2] 150)).alloc (.cells #[.int .i64 id] 3))
 have B2:Blk w1 g2 [.int .i64 p.id,.slice a1 n1 c1,.int .i64 p.left,.int .i64 p.right,.slice a2 n2 c2] 150:=by rw [hw1];simp only [hg2,hg3];have hbk:=((Blk.new w [.int .i64 p.id,.slice a1 n1 c1,.int .i64 p.left,.int .i64 p.right,.slice a2 n2 c2] 150).nx (Ex.new _ (.cells #[.int .i64 id] 3)));simpa using hbk
 have B3:Blk w1 g3 [.int .i64 id] 3:=by rw [hw1];simp only [hg2,hg3];have hbk:=(Blk.new (w.alloc (.cells #[.int .i64 p.id,.slice a1 n1 c1,.int .i64 p.left,.int .i64 p.right,.slice a2 n2 c2] 150)) [.int .i64 id] 3);simpa using hbk
 have Hw1:=lH hw1
 have Hg2:=lH hg2
 have Hg3:=lH hg3
 replace h1:=h1.nx kk
 replace h2:=h2.nx kk
 replace EX:=EX.nx kk
 clear kk hw1 hg2 hg3
 go_enter Tryz.func204,Tryz.ntmps204
 go_upto_region 2 with fail
 rw [← Hw1.out,← Hg3.out,← Hg2.out]
 clear Hw1 Hg3 Hg2
 have p1:=B2.cell 1 _ rfl
 have p2:=B2.cell 2 _ rfl
 have p3:=B2.cell 3 _ rfl
 have p4:=B2.cell 4 _ rfl
 have q0:=B3.cell 0 _ rfl
 have S1:=lH h1
 have S2:=lH h2
 replace B2:=lH B2
 replace B3:=lH B3
 clear h1 h2
 generalize hc1:(p.left==id)=b1 at CN
 generalize hc2:(p.right==id)=b2 at CN
 cases b1 with
 | true =>
  go_wp2_with fail
  go_ret
  exact ⟨by rw [CN.out];rfl,EX⟩
 | false =>
  cases b2 with
  | true =>
   go_wp2_with fail
   go_ret
   exact ⟨by rw [CN.out];rfl,EX⟩
  | false =>
   go_wp2_with fail
   (with_reducible refine (contains_i _ _ _ _ id _ S1.out hn1).mono ?_)
   rintro e w2 ⟨rfl,kk⟩
   replace EX:=EX.nx kk
   generalize hc3:p.known.contains id=b3 at CN
   have p4:=(B2.out.nx kk).cell 4 _ rfl
   have S2:=lH (S2.out.nx kk)
   have B3:=lH (B3.out.nx kk)
   clear kk p1 p2 p3 q0
   cases b3 with
   | true =>
    go_wp2_with fail
    go_ret
    exact ⟨by rw [CN.out];rfl,EX⟩
   | false =>
    go_wp2_with fail
    (with_reducible refine (contf_nr g3 id _ _ _ _ _ S2.out hn2 B3.out).mono ?_)
    rintro e w3 ⟨rfl,kk⟩
    replace EX:=EX.nx kk
    clear kk
    generalize hc4:(p.near.flatMap nums4).contains id=b4 at CN
    have CN:Hid ((numsP p).contains id=b4):=lH (by rw [CN.out];rfl)
    clear p4
    go_wp2_with fail
    go_ret
    exact ⟨by rw [CN.out];rfl,EX⟩
set_option maxRecDepth 100000 in
set_option maxHeartbeats 4000000 in
theorem refs_p (a:Option Addr) (n c:Nat) (N:List Nd) (p:Pr) (a1:Option Addr) (n1 c1:Nat) (a2:Option Addr) (n2 c2:Nat) (w:World) (h:Sl 3 encN w a n N) (hn:n≤1000) (hc:n≤c) (hm:c≤maxLen) (h1:Sl 1 encI w a1 n1 p.known) (h2:Sl 4 encNr w a2 n2 p.near) (hn1:n1≤4000000000000000000) (hn2:n2≤4000000000000000000) :
  Calls Tryz.prog 154 #[.slice a n c,.agg #[.int .i64 p.id,.slice a1 n1 c1,.int .i64 p.left,.int .i64 p.right,.slice a2 n2 c2]] w (OiPost (refsN N p) w):=by
 have HL:=lH h.len
 have EX:=Ex.refl w
 have B3:=Blk.new w [.int .i64 p.id,.slice a1 n1 c1,.int .i64 p.left,.int .i64 p.right,.slice a2 n2 c2] 150
 have kk:=Ex.new w (.cells #[.int .i64 p.id,.slice a1 n1 c1,.int .i64 p.left,.int .i64 p.right,.slice a2 n2 c2] 150)
 obtain ⟨w1,hw1⟩:∃ w1,w1=w.alloc (.cells #[.int .i64 p.id,.slice a1 n1 c1,.int .i64 p.left,.int .i64 p.right,.slice a2 n2 c2] 150):=⟨_,rfl⟩
 obtain ⟨g3,hg3⟩:∃ g3,g3=w.heap.size:=⟨_,rfl⟩
 replace B3:Blk w1 g3 [.int .i64 p.id,.slice a1 n1 c1,.int .i64 p.left,.int .i64 p.right,.slice a2 n2 c2] 150:=by rw [hw1,hg3];exact B3
 rw [← hw1] at kk
 have Hw1:=lH hw1
 have Hg3:=lH hg3
 replace h:=h.nx kk
 replace h1:=h1.nx kk
 replace h2:=h2.nx kk
 replace EX:=EX.nx kk
 clear kk hw1 hg3
 go_enter Tryz.func154,Tryz.ntmps154
 go_upto_region 1 with fail
 rw [← Hg3.out,← Hw1.out]
 clear Hg3 Hw1
 go_wp2_with fail
 (with_reducible refine (check_p _ _ _ _ _ h (by omega) hc hm).mono ?_)
 rintro e w2 ⟨rfl,kk⟩
 replace h:=h.nx kk
 replace h1:=h1.nx kk
 replace h2:=h2.nx kk
 replace EX:=EX.nx kk
 replace B3:=B3.nx kk
 clear kk
 by_cases hck:checkN N=0
 case neg =>
  have d1:(checkN N != 0)=true:=by simpa using hck
  have E0:Hid (refsN N p=[]):=lH (by unfold refsN;rw [if_neg hck])
  clear h h1 h2 hck B3
  go_wp2_with fail
  go_ret
  exact ⟨_,rfl,by rw [E0.out];exact OwnL.nil _ _ _ _ _,EX⟩
 have d1:(checkN N != 0)=false:=by simpa using hck
 have HC:=lH hck
 clear hck
 go_wp2_with fail
 (with_reducible refine (sort_p _ _ _ _ _ h hn).mono ?_)
 rintro e w3 ⟨v,S,rfl,OS,⟨hp,hsrt⟩,kk⟩
 replace h1:=h1.nx kk
 replace h2:=h2.nx kk
 replace EX:=EX.nx kk
 replace B3:=B3.nx kk
 clear kk
 have hSe:S=sortN N:=sortN_unique (check_keys HC.out) hp hsrt
 subst hSe
 obtain ⟨a3,c3,rfl,S3,_,_⟩:=sorted_own HC.out OS
 rw [HL.out] at S3 ⊢
 have ES:Hid (refsN N p=((sortN N).filter (ordP (numsP p) p.id)).map Nd.id):=lH (by unfold refsN;rw [if_pos HC.out];rfl)
 generalize sortN N=S at S3 ES
 have HSL:=lH S3.len
 replace S3:=lH S3
 have S1:=lH h1
 have S2:=lH h2
 have K1:=lH EX
 have hz1:=EX.size
 replace B3:=lH B3
 clear h h1 h2 OS EX hp hsrt
 go_wp2_with fail
 go_loopw [5,14] (fun o i wr=>OrdRel S (numsP p) p.id w3 o i wr) (fun _ i _=>n-(intOf i).toNat)
 case atStart=>exact ⟨0,by omega,rfl,OwnL.nil _ _ _ _ _,Ex.refl _⟩
 case round =>
  obtain ⟨j,hj,rfl,own,ki⟩:=hrel
  obtain ⟨wi,rfl⟩:∃ wi:World,wi=wr:=⟨_,rfl⟩
  by_cases hjm:j<n
  ·obtain ⟨x3,o3,y,rfl,hx3,hy,hc3⟩:=(S3.out.nx ki).at hjm
   have e0:wi.cell? ⟨x3,o3+j*3,none⟩=some (.int .i64 y.id):=hc3 0 _ rfl
   have e1:wi.cell? ⟨x3,o3+j*3+1,none⟩=some (.string y.key):=hc3 1 _ rfl
   have e2:wi.cell? ⟨x3,o3+j*3+1+1,none⟩=some (.int .u32 y.word):=by simpa [Nat.add_assoc] using hc3 2 _ rfl
   have SN:=lH (ord_snoc (l:=numsP p) (but:=p.id) hy)
   have hrl:(((S.take j).filter (ordP (numsP p) p.id)).map Nd.id).length≤1000:=by
    rw [List.length_map]
    have:=List.length_filter_le (ordP (numsP p) p.id) (S.take j)
    rw [List.length_take] at this
    omega
   generalize ((S.take j).filter (ordP (numsP p) p.id)).map Nd.id=row at own SN hrl
   have KI:=lH ki
   clear hy hc3 ki
   have B7:=Blk.new wi [.int .i64 y.id,.string y.key,.int .u32 y.word] 36
   have kk:=Ex.new wi (.cells #[.int .i64 y.id,.string y.key,.int .u32 y.word] 36)
   obtain ⟨w7,hw7⟩:∃ w7,w7=wi.alloc (.cells #[.int .i64 y.id,.string y.key,.int .u32 y.word] 36):=⟨_,rfl⟩
   obtain ⟨g7,hg7⟩:∃ g7,g7=wi.heap.size:=⟨_,rfl⟩
   replace B7:Blk w7 g7 [.int .i64 y.id,.string y.key,.int .u32 y.word] 36:=by rw [hw7,hg7];exact B7
   rw [← hw7] at kk
   have Hw7:=lH hw7
   have Hg7:=lH hg7
   replace own:=own.nx kk
   have K7:=lH (KI.out.nx kk)
   clear kk hw7 hg7
   have Q3:=B3.out.nx K7.out
   go_upto_region 7 with fail
   rw [← Hg7.out,← Hw7.out]
   clear Hg7 Hw7
   have q0:=B7.cell 0 _ rfl
   have p0:=Q3.cell 0 _ rfl
   clear e0 e1 e2
   by_cases hb:y.id=p.id
   ·have hq:(y.id != p.id)=false:=by simp [hb]
    have hq2:(y.id==p.id)=true:=by simp [hb]
    have PF:Hid (ordP (numsP p) p.id y=false):=lH (by unfold ordP;rw [hq2];rfl)
    have OWN:=lH own
    clear hb own hq2 B7 Q3
    go_wp2_with fail
    exact ⟨⟨j+1,by rw [HSL.out];omega,by go_num,by rw [SN.out,PF.out];simpa using OWN.out,K7.out⟩,by simp [intOf];omega⟩
   ·have hq:(y.id != p.id)=true:=by simpa using hb
    have hq2:(y.id==p.id)=false:=by simpa using hb
    have PB:Hid (ordP (numsP p) p.id y=(numsP p).contains y.id):=lH (by unfold ordP;rw [hq2];rfl)
    have p1:=Q3.cell 1 _ rfl
    have p2:=Q3.cell 2 _ rfl
    have p3:=Q3.cell 3 _ rfl
    have p4:=Q3.cell 4 _ rfl
    clear hb hq2 Q3
    go_wp2_with fail
    (with_reducible refine (names_p p _ _ _ _ _ _ y.id _ (S1.out.nx K7.out) (S2.out.nx K7.out) hn1 hn2).mono ?_)
    rintro e w5 ⟨rfl,kk⟩
    replace own:=own.nx kk
    replace B7:=B7.nx kk
    have K5:=lH (K7.out.nx kk)
    have zb5:=K5.out.size
    have q0:=B7.cell 0 _ rfl
    have OWN:=lH own
    clear kk p0 p1 p2 p3 p4 own B7
    generalize (numsP p).contains y.id=inl at PB ⊢
    generalize y.id=yi at SN q0 hq
    cases inl with
    | false =>
     clear q0 hq
     go_wp2_with fail
     exact ⟨⟨j+1,by rw [HSL.out];omega,by go_num,by rw [SN.out,PB.out];simpa using OWN.out,K5.out⟩,by simp [intOf];omega⟩
    | true =>
     have own5:=OWN.out
     have hl7:row.length≤1000000:=by omega
     clear hq
     go_wp2_with (at_builtin;(refine wpList_append_lit (enc:=encI) w5 rfl _ _ 22 rfl w3.heap.size 3 (.int .i64 0) 1 8 Tryz.underlying22 Tryz.infoI6 rfl (by omega) (by omega) _ _ own5 rfl (yi:Int) _ rfl rfl (by simp [encI,Value.oneCell']) _ (by simp) rfl hl7 zb5 _ ?_);intro v6 w6 own6 _ ch1 _)
     refine ⟨⟨j+1,by rw [HSL.out];omega,by go_num,by rw [SN.out,PB.out];exact own6,Chg.trans K5.out ch1⟩,by simp [intOf];omega⟩
  ·obtain rfl:j=n:=by have:=HSL.out;omega
   rw [List.take_of_length_le (by rw [HSL.out];exact Nat.le_refl _)] at own
   have own:=lH (own.base hz1)
   have KE:=lH (K1.out.nx ki)
   clear hj hjm ki
   go_wp2_with fail
   go_ret
   exact ⟨_,rfl,by rw [ES.out];exact own.out,KE.out⟩
theorem lit2 {w u:World} (h:Ex w u) (x y:Int):∃ g v,g=u.heap.size∧v=u.alloc (.cells #[.int .i64 x,.int .i64 y] 3)∧Sl 1 encI v (some ⟨g,0,none⟩) 2 [x,y]∧Ex u v∧Ex w v :=
 ⟨_,_,rfl,rfl,Sl.lit [x,y] rfl rfl (fun _=>rfl) rfl,Ex.new _ _,h.nx (Ex.new _ _)⟩
theorem lit4 {w u:World} (h:Ex w u) (y:Nr):∃ g v,g=u.heap.size∧v=u.alloc (.cells #[.int .i64 y.1,.int .i64 y.2.1,.int .i64 y.2.2.1,.int .i64 y.2.2.2] 3)∧Sl 1 encI v (some ⟨g,0,none⟩) 4 (nums4 y)∧Ex u v∧Ex w v :=
 ⟨_,_,rfl,rfl,Sl.lit (nums4 y) rfl rfl (fun _=>rfl) rfl,Ex.new _ _,h.nx (Ex.new _ _)⟩
def NmCut (l:List Int) (w:World) (s:Value) (wx:World):Prop:=OwnL 1 encI 3 w.heap.size wx s l∧Ex w wx
def NmRel (l0:List Int) (nr:List Nr) (w:World) (o i:Value) (wr:World):Prop :=
 ∃ j:Nat,j≤nr.length∧i=.int .i64 j∧OwnL 1 encI 3 w.heap.size wr o (l0++(nr.take j).flatMap nums4)∧Ex w wr
theorem nm_snoc {l0:List Int} {nr:List Nr} {j:Nat} {y:Nr} (hy:nr[j]?=some y):l0++(nr.take (j+1)).flatMap nums4=(l0++(nr.take j).flatMap nums4)++nums4 y:=by
 rw [List.take_add_one,hy]
 simp
theorem nums_len (l:List Nr):(l.flatMap nums4).length=4*l.length:=by
 induction l with
 | nil=>rfl
 | cons x l ih=>rw [List.flatMap_cons,List.length_append,ih,List.length_cons,show (nums4 x).length=4 from rfl];omega
set_option maxRecDepth 100000 in
set_option maxHeartbeats 8000000 in
theorem numbers_r (p:Pr) (a1:Option Addr) (n1 c1:Nat) (a2:Option Addr) (n2 c2:Nat) (w:World) (h1:Sl 1 encI w a1 n1 p.known) (h2:Sl 4 encNr w a2 n2 p.near) (hn1:n1≤2000000) (hn2:n2≤2000000) (z1:a1=none→c1=0) :
  Calls Tryz.prog 228 #[.agg #[.int .i64 p.id,.slice a1 n1 c1,.int .i64 p.left,.int .i64 p.right,.slice a2 n2 c2]] w (OiPost (numsP p) w):=by
 obtain ⟨id,lf,rt,kn,nr⟩:=p
 have HN:Hid (numsP ⟨id,lf,rt,kn,nr⟩=(kn++[lf,rt])++nr.flatMap nums4):=lH rfl
 have hkl:kn.length≤2000000:=by have:kn.length=n1:=h1.len;omega
 have hnl:nr.length=n2:=h2.len
 have hw0:=Nat.le_refl w.heap.size
 simp only at h1 h2 ⊢
 have B1:=Blk.new w [.int .i64 id,.slice a1 n1 c1,.int .i64 lf,.int .i64 rt,.slice a2 n2 c2] 150
 have kk:=Ex.new w (.cells #[.int .i64 id,.slice a1 n1 c1,.int .i64 lf,.int .i64 rt,.slice a2 n2 c2] 150)
 obtain ⟨w1,hw1⟩:∃ w1,w1=w.alloc (.cells #[.int .i64 id,.slice a1 n1 c1,.int .i64 lf,.int .i64 rt,.slice a2 n2 c2] 150):=⟨_,rfl⟩
 obtain ⟨g,hg⟩:∃ g,g=w.heap.size:=⟨_,rfl⟩
 replace B1:Blk w1 g [.int .i64 id,.slice a1 n1 c1,.int .i64 lf,.int .i64 rt,.slice a2 n2 c2] 150:=by rw [hw1,hg];exact B1
 rw [← hw1] at kk
 have Hw1:=lH hw1
 have Hg:=lH hg
 replace h1:=h1.nx kk
 replace h2:=h2.nx kk
 have hz1:=kk.size
 have K1:=lH kk
 have S1:=lH h1
 have S2:=lH h2
 clear h1 h2 kk hw1 hg
 go_enter Tryz.func228,Tryz.ntmps228
 go_upto_region 1 with fail
 rw [← Hg.out,← Hw1.out]
 clear Hg Hw1
 have BH:=lH B1
 clear B1
 go_cut [3] from 5 to 14 (fun s3 wx=>NmCut (kn++[lf,rt]) w1 s3 wx)
 case first =>
  refine wp_region_held_drew (S:=Ex w1) (by kernel_rfl) ((Ex.refl w1).drew) (fun hHeld=>?_)
  refine tkH 0 (v:=?_) rfl (by kernel_rfl) (fun _ _ _ h=>h) (by rfl) ?y1 hHeld ?_
  case y1=>intro wq hSw;go_simp<;>rfl
  refine tkH 1 (v:=?_) rfl (by kernel_rfl) (fun _ _ _ h=>h) (by rfl) ?y4 hHeld ?_
  case y4=>intro wq hSw;(have cq:=(BH.out.nx hSw).cell 1 _ rfl;go_simp)<;>rfl
  refine tkH 3 (v:=?_) rfl (by kernel_rfl) (fun _ _ _ h=>h) (by rfl) ?y7 hHeld ?_
  case y7=>intro wq hSw;go_simp<;>rfl
  refine tkH 4 (v:=?_) rfl (by kernel_rfl) (fun _ _ _ h=>h) (by rfl) ?y10 hHeld ?_
  case y10=>intro wq hSw;(have cq:=(BH.out.nx hSw).cell 2 _ rfl;go_simp)<;>rfl
  refine tkH 5 (v:=?_) rfl (by kernel_rfl) (fun _ _ _ h=>h) (by rfl) ?y13 hHeld ?_
  case y13=>intro wq hSw;go_simp<;>rfl
  refine tkH 6 (v:=?_) rfl (by kernel_rfl) (fun _ _ _ h=>h) (by rfl) ?y16 hHeld ?_
  case y16=>intro wq hSw;(have cq:=(BH.out.nx hSw).cell 3 _ rfl;go_simp)<;>rfl
  refine wpAnyH_ready (rs:=[2,7]) (by kernel_rfl) (by simp) ?_
  refine AllReadyH.cons (o:=⟨_,_,_,_,_,_⟩) rfl (fun K hK=>?_) ?_
  ·rw [if_pos (by rfl)]
   have s0:=S1.out.nx hHeld
   have z0:=Ex.size hHeld
   refine wp_append_rd (enc:=encI) _ (.const (.slice none 0 0)) (.tmp 6) 22 rfl w1.heap.size 3 (.int .i64 0) 1 8 Tryz.underlying22 Tryz.infoI6 rfl (by omega) (by omega) _ [] (OwnL.nil _ _ _ _ _) rfl _ _ n1 c1 kn s0 z1 (fun _=>rfl) (by simp [encI,Value.oneCell']) rfl (by simp) (by omega) z0 ?_
   intro v7 w7 own7 ch0 ch1
   have k7:Ex _ w7:=ch0.mono (fun k hk=>⟨hk,by simp [Value.ownBlock]⟩)
   (try replace L8:=L8.nx k7)
   have j7:Ex w1 w7:=Chg.trans hHeld ch1
   rw [List.nil_append] at own7
   clear ch0 ch1 s0 z0 k7 hHeld
   have hHeld:=j7
   clear j7
   refine hK.out _ _ (hHeld) (fun hHeld=>?_)
   clear hK K
   refine rH 7 (by kernel_rfl) rfl fun K hK=>?_
   go_simp
   obtain ⟨g8,u8,hg8,hu8,L8,k8,j8⟩:=lit2 hHeld lf rt
   (try replace own7:=own7.nx k8)
   (first | rw [← hg8,← hu8] | (rw [show w1.drew.heap.size=w1.heap.size from rfl] at hg8;rw [← hg8,show ∀ o,(w1.alloc o).drew=w1.drew.alloc o from fun _=>rfl,← hu8]))
   clear hg8 hu8 k8 hHeld
   have hHeld:=j8
   clear j8
   refine hK.out _ _ (hHeld) (fun hHeld=>?_)
   clear hK K
   refine rH 8 (by kernel_rfl) rfl fun K hK=>?_
   rw [if_pos (by rfl)]
   have z0:=Ex.size hHeld
   refine wp_append_rd (enc:=encI) _ (.tmp 7) (.tmp 12) 22 rfl w1.heap.size 3 (.int .i64 0) 1 8 Tryz.underlying22 Tryz.infoI6 rfl (by omega) (by omega) _ kn own7 rfl _ _ 2 2 [lf,rt] L8 (fun h=>by cases h) (fun _=>rfl) (by simp [encI,Value.oneCell']) rfl (by omega) (by omega) z0 ?_
   intro v9 w9 own9 ch0 ch1
   have j9:Ex w1 w9:=Chg.trans hHeld ch1
   clear ch0 ch1 z0 own7 L8 hHeld
   have hHeld:=j9
   clear j9
   refine hK.out _ _ (hHeld) (fun hHeld=>?_)
   clear hK K
   refine tkH 9 (v:=?_) rfl (by kernel_rfl) (fun _ _ _ h=>h) (by rfl) ?y61 hHeld ?_
   case y61=>intro wq hSw;go_simp<;>rfl
   refine wpAnyH_done (by kernel_rfl) ?_ _
   go_wp2_with fail
   go_meet
   exact ⟨own9,hHeld⟩
  refine AllReadyH.cons (o:=⟨_,_,_,_,_,_⟩) rfl (fun K hK=>?_) AllReadyH.nil
  ·go_simp
   obtain ⟨g8,u8,hg8,hu8,L8,k8,j8⟩:=lit2 hHeld lf rt
   (try replace own7:=own7.nx k8)
   (first | rw [← hg8,← hu8] | (rw [show w1.drew.heap.size=w1.heap.size from rfl] at hg8;rw [← hg8,show ∀ o,(w1.alloc o).drew=w1.drew.alloc o from fun _=>rfl,← hu8]))
   clear hg8 hu8 k8 hHeld
   have hHeld:=j8
   clear j8
   refine hK.out _ _ (hHeld) (fun hHeld=>?_)
   clear hK K
   refine rH 2 (by kernel_rfl) rfl fun K hK=>?_
   rw [if_pos (by rfl)]
   have s0:=S1.out.nx hHeld
   have z0:=Ex.size hHeld
   refine wp_append_rd (enc:=encI) _ (.const (.slice none 0 0)) (.tmp 6) 22 rfl w1.heap.size 3 (.int .i64 0) 1 8 Tryz.underlying22 Tryz.infoI6 rfl (by omega) (by omega) _ [] (OwnL.nil _ _ _ _ _) rfl _ _ n1 c1 kn s0 z1 (fun _=>rfl) (by simp [encI,Value.oneCell']) rfl (by simp) (by omega) z0 ?_
   intro v7 w7 own7 ch0 ch1
   have k7:Ex _ w7:=ch0.mono (fun k hk=>⟨hk,by simp [Value.ownBlock]⟩)
   (try replace L8:=L8.nx k7)
   have j7:Ex w1 w7:=Chg.trans hHeld ch1
   rw [List.nil_append] at own7
   clear ch0 ch1 s0 z0 k7 hHeld
   have hHeld:=j7
   clear j7
   refine hK.out _ _ (hHeld) (fun hHeld=>?_)
   clear hK K
   refine rH 8 (by kernel_rfl) rfl fun K hK=>?_
   rw [if_pos (by rfl)]
   have z0:=Ex.size hHeld
   refine wp_append_rd (enc:=encI) _ (.tmp 7) (.tmp 12) 22 rfl w1.heap.size 3 (.int .i64 0) 1 8 Tryz.underlying22 Tryz.infoI6 rfl (by omega) (by omega) _ kn own7 rfl _ _ 2 2 [lf,rt] L8 (fun h=>by cases h) (fun _=>rfl) (by simp [encI,Value.oneCell']) rfl (by omega) (by omega) z0 ?_
   intro v9 w9 own9 ch0 ch1
   have j9:Ex w1 w9:=Chg.trans hHeld ch1
   clear ch0 ch1 z0 own7 L8 hHeld
   have hHeld:=j9
   clear j9
   refine hK.out _ _ (hHeld) (fun hHeld=>?_)
   clear hK K
   refine tkH 9 (v:=?_) rfl (by kernel_rfl) (fun _ _ _ h=>h) (by rfl) ?y107 hHeld ?_
   case y107=>intro wq hSw;go_simp<;>rfl
   refine wpAnyH_done (by kernel_rfl) ?_ _
   go_wp2_with fail
   go_meet
   exact ⟨own9,hHeld⟩
 case rest =>
  obtain ⟨own,kk⟩:=hcut
  have hl0:(kn++[lf,rt]).length≤2000002:=by simp;omega
  generalize kn++[lf,rt]=l0 at own HN hl0
  have OWN:=lH own
  have KC:=lH kk
  clear own kk
  go_wp2_with fail
  go_loopw [3,4] (fun o i wr=>NmRel l0 nr w1 o i wr) (fun _ i _=>nr.length-(intOf i).toNat)
  case atStart=>exact ⟨0,by omega,rfl,by simpa using OWN.out,KC.out⟩
  case round =>
   obtain ⟨j,hj,rfl,own,ki⟩:=hrel
   obtain ⟨wi,rfl⟩:∃ wi:World,wi=wr:=⟨_,rfl⟩
   have b4:=(BH.out.nx ki).cell 4 _ rfl
   by_cases hjm:j<n2
   ·obtain ⟨x3,o3,y,rfl,hx3,hy,hc3⟩:=S2.out.at hjm
    have e0:w1.cell? ⟨x3,o3+j*4,none⟩=some (.int .i64 y.1):=hc3 0 _ rfl
    have e1:w1.cell? ⟨x3,o3+j*4+1,none⟩=some (.int .i64 y.2.1):=hc3 1 _ rfl
    have e2:w1.cell? ⟨x3,o3+j*4+2,none⟩=some (.int .i64 y.2.2.1):=hc3 2 _ rfl
    have e3:w1.cell? ⟨x3,o3+j*4+3,none⟩=some (.int .i64 y.2.2.2):=hc3 3 _ rfl
    have SN:=lH (nm_snoc (l0:=l0) hy)
    have hrl:(l0++(nr.take j).flatMap nums4).length≤50000000:=by
     rw [List.length_append,nums_len,List.length_take]
     omega
    generalize l0++(nr.take j).flatMap nums4=row at own SN hrl
    have E:=lH (show ∀ wq,Ex w1 wq→wq.cell? ⟨x3,o3+j*4,none⟩=some (.int .i64 y.1)∧wq.cell? ⟨x3,o3+j*4+1,none⟩=some (.int .i64 y.2.1)∧wq.cell? ⟨x3,o3+j*4+2,none⟩=some (.int .i64 y.2.2.1)∧wq.cell? ⟨x3,o3+j*4+3,none⟩=some (.int .i64 y.2.2.2) from fun wq k=>⟨Chg.cellv k e0 hx3,Chg.cellv k e1 hx3,Chg.cellv k e2 hx3,Chg.cellv k e3 hx3⟩)
    have zb:=ki.size
    have KI:=lH ki
    have OWN:=lH (own.nx (Ex.drew (Ex.refl wi)))
    clear hy hc3 e0 e1 e2 e3 own ki
    go_upto_region 5 with fail
    clear b4
    refine wp_region_held_drew (S:=Ex w1) (by kernel_rfl) (KI.out.drew) (fun hHeld=>?_)
    refine tkH 0 (v:=?_) rfl (by kernel_rfl) (fun _ _ _ h=>h) (by rfl) ?y1 hHeld ?_
    case y1=>intro wq hSw;go_simp<;>rfl
    refine tkH 1 (v:=?_) rfl (by kernel_rfl) (fun _ _ _ h=>h) (by rfl) ?y4 hHeld ?_
    case y4=>intro wq hSw;go_simp<;>rfl
    refine tkH 2 (v:=?_) rfl (by kernel_rfl) (fun _ _ _ h=>h) (by rfl) ?y7 hHeld ?_
    case y7=>intro wq hSw;(have cq:=(BH.out.nx hSw).cell 4 _ rfl;go_simp)<;>rfl
    refine tkH 3 (v:=?_) rfl (by kernel_rfl) (fun _ _ _ h=>h) (by rfl) ?y10 hHeld ?_
    case y10=>intro wq hSw;go_simp<;>rfl
    refine tkH 4 (v:=?_) rfl (by kernel_rfl) (fun _ _ _ h=>h) (by rfl) ?y13 hHeld ?_
    case y13=>intro wq hSw;go_simp<;>rfl
    refine tkH 5 (v:=?_) rfl (by kernel_rfl) (fun _ _ _ h=>h) (by rfl) ?y16 hHeld ?_
    case y16=>intro wq hSw;go_simp<;>rfl
    refine tkH 6 (v:=?_) rfl (by kernel_rfl) (fun _ _ _ h=>h) (by rfl) ?y19 hHeld ?_
    case y19=>intro wq hSw;((obtain ⟨q0,q1,q2,q3⟩:=E.out _ hSw);go_simp)<;>rfl
    refine tkH 7 (v:=?_) rfl (by kernel_rfl) (fun _ _ _ h=>h) (by rfl) ?y22 hHeld ?_
    case y22=>intro wq hSw;go_simp<;>rfl
    refine tkH 8 (v:=?_) rfl (by kernel_rfl) (fun _ _ _ h=>h) (by rfl) ?y25 hHeld ?_
    case y25=>intro wq hSw;(have cq:=(BH.out.nx hSw).cell 4 _ rfl;go_simp)<;>rfl
    refine tkH 9 (v:=?_) rfl (by kernel_rfl) (fun _ _ _ h=>h) (by rfl) ?y28 hHeld ?_
    case y28=>intro wq hSw;go_simp<;>rfl
    refine tkH 10 (v:=?_) rfl (by kernel_rfl) (fun _ _ _ h=>h) (by rfl) ?y31 hHeld ?_
    case y31=>intro wq hSw;go_simp<;>rfl
    refine tkH 11 (v:=?_) rfl (by kernel_rfl) (fun _ _ _ h=>h) (by rfl) ?y34 hHeld ?_
    case y34=>intro wq hSw;go_simp<;>rfl
    refine tkH 12 (v:=?_) rfl (by kernel_rfl) (fun _ _ _ h=>h) (by rfl) ?y37 hHeld ?_
    case y37=>intro wq hSw;((obtain ⟨q0,q1,q2,q3⟩:=E.out _ hSw);go_simp)<;>rfl
    refine tkH 13 (v:=?_) rfl (by kernel_rfl) (fun _ _ _ h=>h) (by rfl) ?y40 hHeld ?_
    case y40=>intro wq hSw;go_simp<;>rfl
    refine tkH 14 (v:=?_) rfl (by kernel_rfl) (fun _ _ _ h=>h) (by rfl) ?y43 hHeld ?_
    case y43=>intro wq hSw;(have cq:=(BH.out.nx hSw).cell 4 _ rfl;go_simp)<;>rfl
    refine tkH 15 (v:=?_) rfl (by kernel_rfl) (fun _ _ _ h=>h) (by rfl) ?y46 hHeld ?_
    case y46=>intro wq hSw;go_simp<;>rfl
    refine tkH 16 (v:=?_) rfl (by kernel_rfl) (fun _ _ _ h=>h) (by rfl) ?y49 hHeld ?_
    case y49=>intro wq hSw;go_simp<;>rfl
    refine tkH 17 (v:=?_) rfl (by kernel_rfl) (fun _ _ _ h=>h) (by rfl) ?y52 hHeld ?_
    case y52=>intro wq hSw;go_simp<;>rfl
    refine tkH 18 (v:=?_) rfl (by kernel_rfl) (fun _ _ _ h=>h) (by rfl) ?y55 hHeld ?_
    case y55=>intro wq hSw;((obtain ⟨q0,q1,q2,q3⟩:=E.out _ hSw);go_simp)<;>rfl
    refine tkH 19 (v:=?_) rfl (by kernel_rfl) (fun _ _ _ h=>h) (by rfl) ?y58 hHeld ?_
    case y58=>intro wq hSw;go_simp<;>rfl
    refine tkH 20 (v:=?_) rfl (by kernel_rfl) (fun _ _ _ h=>h) (by rfl) ?y61 hHeld ?_
    case y61=>intro wq hSw;(have cq:=(BH.out.nx hSw).cell 4 _ rfl;go_simp)<;>rfl
    refine tkH 21 (v:=?_) rfl (by kernel_rfl) (fun _ _ _ h=>h) (by rfl) ?y64 hHeld ?_
    case y64=>intro wq hSw;go_simp<;>rfl
    refine tkH 22 (v:=?_) rfl (by kernel_rfl) (fun _ _ _ h=>h) (by rfl) ?y67 hHeld ?_
    case y67=>intro wq hSw;go_simp<;>rfl
    refine tkH 23 (v:=?_) rfl (by kernel_rfl) (fun _ _ _ h=>h) (by rfl) ?y70 hHeld ?_
    case y70=>intro wq hSw;go_simp<;>rfl
    refine tkH 24 (v:=?_) rfl (by kernel_rfl) (fun _ _ _ h=>h) (by rfl) ?y73 hHeld ?_
    case y73=>intro wq hSw;((obtain ⟨q0,q1,q2,q3⟩:=E.out _ hSw);go_simp)<;>rfl
    refine rH 25 (by kernel_rfl) rfl fun K hK=>?_
    go_simp
    obtain ⟨g8,u8,hg8,hu8,L8,k8,j8⟩:=lit4 hHeld y
    replace OWN:=lH (OWN.out.nx k8)
    (first | rw [← hg8,← hu8] | (rw [show wi.drew.heap.size=wi.heap.size from rfl] at hg8;rw [← hg8,show ∀ o,(wi.alloc o).drew=wi.drew.alloc o from fun _=>rfl,← hu8]))
    clear hg8 hu8 k8 hHeld
    have hHeld:=j8
    clear j8
    refine hK.out _ _ (hHeld) (fun hHeld=>?_)
    clear hK K
    refine rH 26 (by kernel_rfl) rfl fun K hK=>?_
    rw [if_pos (by rfl)]
    have z0:=Ex.size hHeld
    refine wp_append_rd (enc:=encI) _ (.tmp 21) (.tmp 46) 22 rfl w1.heap.size 3 (.int .i64 0) 1 8 Tryz.underlying22 Tryz.infoI6 rfl (by omega) (by omega) _ row OWN.out rfl _ _ 4 4 (nums4 y) L8 (fun h=>by cases h) (fun _=>rfl) (by simp [encI,Value.oneCell']) rfl (by omega) (by omega) z0 ?_
    intro v9 w9 own9 ch0 ch1
    have j9:Ex w1 w9:=Chg.trans hHeld ch1
    clear ch0 ch1 z0 L8 hHeld
    have hHeld:=j9
    clear j9
    refine hK.out _ _ (hHeld) (fun hHeld=>?_)
    clear hK K
    refine tkH 27 (v:=?_) rfl (by kernel_rfl) (fun _ _ _ h=>h) (by rfl) ?y101 hHeld ?_
    case y101=>intro wq hSw;go_simp<;>rfl
    refine wpAnyH_done (by kernel_rfl) ?_ _
    skip
    go_wp2_with fail
    exact ⟨⟨j+1,by omega,by go_num,by rw [SN.out];exact own9,hHeld⟩,by simp [intOf];omega⟩
   ·obtain rfl:j=n2:=by omega
    rw [List.take_of_length_le (by omega)] at own
    have own:=lH (own.base hz1)
    have KE:=lH (K1.out.nx ki)
    clear hj hjm ki
    go_wp2_with fail
    go_ret
    exact ⟨_,rfl,by rw [HN.out];exact own.out,KE.out⟩
theorem nums_len_p (p:Pr):(numsP p).length=p.known.length+2+4*p.near.length:=by
 unfold numsP
 rw [List.length_append,List.length_append,nums_len]
 rfl
set_option maxRecDepth 100000 in
set_option maxHeartbeats 4000000 in
theorem refs_r (a:Option Addr) (n c:Nat) (N:List Nd) (p:Pr) (a1:Option Addr) (n1 c1:Nat) (a2:Option Addr) (n2 c2:Nat) (w:World) (h:Sl 3 encN w a n N) (hn:n≤1000) (h1:Sl 1 encI w a1 n1 p.known) (h2:Sl 4 encNr w a2 n2 p.near) (hn1:n1≤2000000) (hn2:n2≤2000000) (z1:a1=none→c1=0) :
  Calls Tryz.prog 207 #[.slice a n c,.agg #[.int .i64 p.id,.slice a1 n1 c1,.int .i64 p.left,.int .i64 p.right,.slice a2 n2 c2]] w (OiPost (refsN N p) w):=by
 have EX:=Ex.refl w
 have Z1:=lH z1
 have hl1:p.known.length=n1:=h1.len
 have hl2:p.near.length=n2:=h2.len
 have HNL:=lH (nums_len_p p)
 clear z1
 have B3:=Blk.new w [.int .i64 p.id,.slice a1 n1 c1,.int .i64 p.left,.int .i64 p.right,.slice a2 n2 c2] 150
 have kk:=Ex.new w (.cells #[.int .i64 p.id,.slice a1 n1 c1,.int .i64 p.left,.int .i64 p.right,.slice a2 n2 c2] 150)
 obtain ⟨w1,hw1⟩:∃ w1,w1=w.alloc (.cells #[.int .i64 p.id,.slice a1 n1 c1,.int .i64 p.left,.int .i64 p.right,.slice a2 n2 c2] 150):=⟨_,rfl⟩
 obtain ⟨g3,hg3⟩:∃ g3,g3=w.heap.size:=⟨_,rfl⟩
 replace B3:Blk w1 g3 [.int .i64 p.id,.slice a1 n1 c1,.int .i64 p.left,.int .i64 p.right,.slice a2 n2 c2] 150:=by rw [hw1,hg3];exact B3
 rw [← hw1] at kk
 have Hw1:=lH hw1
 have Hg3:=lH hg3
 replace h:=h.nx kk
 replace h1:=h1.nx kk
 replace h2:=h2.nx kk
 replace EX:=EX.nx kk
 clear kk hw1 hg3
 go_enter Tryz.func207,Tryz.ntmps207
 go_upto_region 1 with fail
 rw [← Hg3.out,← Hw1.out]
 clear Hg3 Hw1
 go_wp2_with fail
 (with_reducible refine (is_r _ _ _ _ _ h (by omega)).mono ?_)
 rintro e w2 ⟨rfl,kk⟩
 replace h:=h.nx kk
 replace h1:=h1.nx kk
 replace h2:=h2.nx kk
 replace EX:=EX.nx kk
 replace B3:=B3.nx kk
 clear kk
 by_cases hck:checkN N=0
 case neg =>
  have d1:(checkN N==0)=false:=by simpa using hck
  have E0:Hid (refsN N p=[]):=lH (by unfold refsN;rw [if_neg hck])
  rw [d1]
  clear h h1 h2 hck B3
  go_wp2_with fail
  go_ret
  exact ⟨_,rfl,by rw [E0.out];exact OwnL.nil _ _ _ _ _,EX⟩
 have d1:(checkN N==0)=true:=by simpa using hck
 have E0:Hid (refsN N p=ordN N (numsP p) p.id):=lH (by unfold refsN;rw [if_pos hck])
 rw [d1]
 clear hck d1
 have HB:=lH B3
 have HN:=lH h
 have H1:=lH h1
 have H2:=lH h2
 have EXH:=lH EX
 clear B3 h h1 h2 EX
 go_upto_region 3 with fail
 refine wp_region_held_drew (S:=Ex w2) (by kernel_rfl) ((Ex.refl w2).drew) (fun hHeld=>?_)
 refine tkH 0 (v:=?_) rfl (by kernel_rfl) (fun _ _ _ h=>h) (by rfl) ?y1 hHeld ?_
 case y1=>intro wq hSw;go_simp<;>rfl
 refine tkH 1 (v:=?_) rfl (by kernel_rfl) (fun _ _ _ h=>h) (by rfl) ?y4 hHeld ?_
 case y4=>intro wq hSw;(have B:=HB.out.nx hSw;have c0:=B.cell 0 _ rfl;have c1:=B.cell 1 _ rfl;have c2:=B.cell 2 _ rfl;have c3:=B.cell 3 _ rfl;have c4:=B.cell 4 _ rfl;go_simp)<;>rfl
 refine tkH 3 (v:=?_) rfl (by kernel_rfl) (fun _ _ _ h=>h) (by rfl) ?y7 hHeld ?_
 case y7=>intro wq hSw;go_simp<;>rfl
 refine tkH 4 (v:=?_) rfl (by kernel_rfl) (fun _ _ _ h=>h) (by rfl) ?y10 hHeld ?_
 case y10=>intro wq hSw;(have c0:=(HB.out.nx hSw).cell 0 _ rfl;go_simp)<;>rfl
 refine rH 2 (by kernel_rfl) rfl fun K hK=>?_
 go_simp
 (with_reducible refine (numbers_r p _ _ _ _ _ _ _ (H1.out.nx hHeld) (H2.out.nx hHeld) hn1 hn2 Z1.out).mono ?_)
 rintro e w5 ⟨v5,rfl,own5,kk⟩
 obtain ⟨A5,C5,rfl,sl5,_,_,_⟩:=own5.slf (fun _=>rfl)
 have sl5:=lH sl5.sl
 replace hHeld:=hHeld.nx kk
 clear kk own5
 refine hK.out _ _ (hHeld) (fun hHeld=>?_)
 clear hK K
 refine rH 5 (by kernel_rfl) rfl fun K hK=>?_
 go_simp
 (with_reducible refine (ordered_r _ _ _ N _ _ _ (numsP p) p.id _ (HN.out.nx hHeld) hn sl5.out (by rw [HNL.out];omega)).mono ?_)
 rintro e w6 ⟨v6,rfl,own6,kk⟩
 have own6:=lH (own6.base (EXH.out.nx hHeld).size)
 replace hHeld:=hHeld.nx kk
 clear kk
 refine hK.out _ _ (hHeld) (fun hHeld=>?_)
 clear hK K
 refine tkH 6 (v:=?_) rfl (by kernel_rfl) (fun _ _ _ h=>h) (by rfl) ?y36 hHeld ?_
 case y36=>intro wq hSw;go_simp<;>rfl
 refine wpAnyH_done (by kernel_rfl) ?_ _
 have KE:=lH (EXH.out.nx hHeld)
 clear hHeld
 go_wp2_with fail
 go_ret
 exact ⟨_,rfl,by rw [E0.out];exact own6.out,KE.out⟩
def Acc (β lo hi:Nat) (w6 wr:World) (o:Value):Prop:=Chg (fun k=>k<hi∧(k<β∨lo≤k)) w6 wr∧hi≤wr.heap.size∧∀ g,o.ownBlock=some g→g<lo∨hi≤g
theorem Acc.start {β lo hi:Nat} {w:World} {o:Value} (hs:hi≤w.heap.size) (ho:∀ g,o.ownBlock=some g→g<lo∨hi≤g):Acc β lo hi w w o:=⟨Chg.refl _ _,hs,ho⟩
theorem Acc.step {β lo hi:Nat} {w6 wr w9:World} {o o':Value} (h:Acc β lo hi w6 wr o) (hb:∀ g,o.ownBlock=some g→β≤g) (k:Chg (fun k=>k<wr.heap.size∧¬ o.ownBlock=some k) wr w9) (ho:o'.ownBlock=o.ownBlock∨∀ g,o'.ownBlock=some g→wr.heap.size≤g):Acc β lo hi w6 w9 o':=by
 refine ⟨h.1.trans (k.mono fun x hx=>⟨Nat.lt_of_lt_of_le hx.1 h.2.1,fun hv=>?_⟩),Nat.le_trans h.2.1 k.size,fun g hg=>?_⟩
 ·have h1:=hb x hv
  have h2:=h.2.2 x hv
  have h3:=hx.2
  have h4:=hx.1
  omega
 ·rcases ho with h1 | h1
  ·exact h.2.2 g (by rw [← h1];exact hg)
  ·have:=h1 g hg;have:=h.2.1;omega
theorem Acc.nx {β lo hi:Nat} {w6 wr w9:World} {o:Value} (h:Acc β lo hi w6 wr o) (k:Ex wr w9):Acc β lo hi w6 w9 o :=
 ⟨h.1.trans (Chg.mono k fun x hx=>Nat.lt_of_lt_of_le hx.1 h.2.1),Nat.le_trans h.2.1 k.size,h.2.2⟩
theorem Acc.sl {α:Type} {sz n:Nat} {enc:α→List Value} {a:Option Addr} {l:List α} {β:Nat} {w5 w6 wr:World} {o:Value} (h:Acc β w5.heap.size w6.heap.size w6 wr o) (s:Slf sz enc w5 w6 a n l):Sl sz enc wr a n l :=
 (Rd.chg s h.1 (fun _ hk=>⟨hk.2,.inr hk.1⟩)).mono fun _ hk=>Nat.lt_of_lt_of_le hk.2 h.2.1
theorem Acc.ex {w2 w6 wr:World} {lo:Nat} {o:Value} (h:Acc w2.heap.size lo w6.heap.size w6 wr o) (k:Ex w2 w6):Ex w2 wr :=
 Chg.trans k (Chg.mono h.1 fun _ hk=>⟨Nat.lt_of_lt_of_le hk k.size,.inl hk⟩)
theorem OwnW.blk_lt {α:Type} {sz e base:Nat} {enc:α→List Value} {w:World} {v:Value} {l:List α} (h:OwnW sz enc e base w v l) {g:Nat} (hg:v.ownBlock=some g):g<w.heap.size:=by
 obtain ⟨_,cur,hh⟩:=h.blk hg
 exact heap_lt hh
structure Fl where
 peers:List Pr
 msgs:List (Int×Int)
def copF (N:List Nd) (f:Fl):Fl:=if checkN N=0 then ⟨normalN N f.peers,f.msgs⟩ else ⟨[],[]⟩
def tickP (N:List Nd) (st:Int→Pr) (x:Pr) (h:Nat):Pr:=⟨x.id,(keepN N x).1,(keepN N x).2,ordN N [(keepN N x).1,(keepN N x).2] x.id,nextB N st x h⟩
def tickF (N:List Nd) (f:Fl) (id h:Int):Fl :=
 if lvlN h=true∧(copF N f).peers.any (fun p=>p.id==id)=true then
  ⟨(copF N f).peers.map fun p=>if p.id=id then tickP N (peerN (copF N f).peers) p h.toNat else p,(copF N f).msgs++introsN N (peerN (copF N f).peers id)⟩
 else copF N f
def tellP (N:List Nd) (m:Int×Int) (p:Pr):Pr:=if p.id=m.1 then { p with known:=ordN N (p.known++[m.2]) p.id } else p
def delF (N:List Nd) (f:Fl) (k:Int):Fl :=
 if 0≤k then match (copF N f).msgs[k.toNat]? with
  | none=>copF N f
  | some m=>⟨if (findN N m.2).2=true∧m.1≠m.2 then (copF N f).peers.map (tellP N m) else (copF N f).peers,(copF N f).msgs.eraseIdx k.toNat⟩
 else copF N f
def dblF (f:Fl) (k:Int) (most:Nat):Fl :=
 if 0≤k∧f.msgs.length<most then match f.msgs[k.toNat]? with
  | none=>f
  | some m=>⟨f.peers,f.msgs++[m]⟩
 else f
def nodeB (N:List Nd) (v:Int):Prop:=∃ x∈N,x.id=v
def EdgeF (N:List Nd) (f:Fl) (u v:Int):Prop:=EdgeN N f.peers u v∨((u,v)∈f.msgs∧nodeB N u∧nodeB N v)
def ConnF (N:List Nd) (f:Fl):Prop:=checkN N=0∧∀ x∈N,∀ y∈N,Cl (EdgeF N f) x.id y.id
section
variable {N:List Nd} {f:Fl}
theorem cop_peer (h0:checkN N=0) {x:Nd} (hx:x∈N):peerN (copF N f).peers x.id=peerN f.peers x.id:=by
 unfold copF
 rw [if_pos h0]
 exact normal_peer h0 hx
theorem cop_msgs (h0:checkN N=0):(copF N f).msgs=f.msgs:=by unfold copF;rw [if_pos h0]
theorem cop_map (h0:checkN N=0):(copF N f).peers=(sortN N).map fun x=>peerN f.peers x.id:=by
 unfold copF normalN
 rw [if_pos h0,if_pos h0]
theorem peer_change (h0:checkN N=0) {P:List Pr} (g:Pr→Pr) (hg:∀ p,(g p).id=p.id) {x:Nd} (hx:x∈N):peerN (((sortN N).map fun x=>peerN P x.id).map g) x.id=g (peerN P x.id):=by
 rw [List.map_map]
 refine (peer_map (sort_ids h0) (fun y=>?_) ((sortN_mem N x).2 hx)).trans rfl
 show (g (peerN P y.id)).id=y.id
 rw [hg,peer_id]
theorem edge_same {P Q:List Pr} (h:∀ x∈N,peerN P x.id=peerN Q x.id) (u v:Int):EdgeN N P u v↔EdgeN N Q u v:=by
 unfold EdgeN
 constructor
 ·rintro ⟨⟨x,hx,rfl⟩,hv⟩
  exact ⟨⟨x,hx,rfl⟩,by rwa [← h x hx]⟩
 ·rintro ⟨⟨x,hx,rfl⟩,hv⟩
  exact ⟨⟨x,hx,rfl⟩,by rwa [h x hx]⟩
theorem chain_int {R:Int→Int→Prop}:∀ (l:List Int),(∀ A a b B,l=A++a::b::B→R a b∨R b a)→∀ x∈l,∀ y∈l,Cl R x y
 | [],_,x,hx,_,_=>by cases hx
 | [a],_,x,hx,y,hy=>by
  simp only [List.mem_singleton] at hx hy
  subst hx hy
  exact .refl _
 | a::b::l,h,x,hx,y,hy=>by
  have ih:=chain_int (b::l) (fun A u v B e=>h (a::A) u v B (by rw [e];rfl))
  have hab:Cl R a b:=Cl.one (h [] a b l rfl)
  have hb:∀ z∈a::b::l,Cl R b z:=by
   intro z hz
   rcases List.mem_cons.1 hz with rfl | hz
   ·exact hab.symm
   ·exact ih b (by simp) z hz
  exact (hb x hx).symm.trans (hb y hy)
theorem connF_of {g:Fl} (h:ConnF N f) (hr:∀ a b,EdgeF N f a b→Cl (EdgeF N g) a b):ConnF N g:=⟨h.1,fun x hx y hy=>(h.2 x hx y hy).mono hr⟩
theorem copF_conn (h:ConnF N f):ConnF N (copF N f):=by
 refine connF_of h fun a b e=>Cl.one (.inl ?_)
 rcases e with e | e
 ·exact .inl ((edge_same (fun x hx=>(cop_peer h.1 hx).symm) a b).1 e)
 ·exact .inr (by rw [cop_msgs h.1];exact e)
theorem row_cl (h0:checkN N=0) {p:Pr} {R:Int→Int→Prop} (hR:∀ u v,(u,v)∈introsN N p→nodeB N u→nodeB N v→R u v):∀ x∈arN N p,∀ y∈arN N p,Cl R x y:=by
 refine chain_int _ fun A a b B e=>?_
 have hn:=ar_nodup h0 (p:=p)
 have ha:=(ar_mem h0 (p:=p) (u:=a) (by rw [e];simp)).1
 have hb:=(ar_mem h0 (p:=p) (u:=b) (by rw [e];simp)).1
 have hab:a≠b:=by
  rw [e] at hn
  have:=(List.nodup_append.1 hn).2.1
  rw [List.nodup_cons] at this
  exact fun he=>this.1 (by rw [he];simp)
 have hm:=prs_mem (id:=p.id) (a:=a) (b:=b) (A:=A) (B:=B)
 rw [← e] at hm
 by_cases h:a=p.id
 ·exact .inr (hR b a (hm.2 (fun he=>hab (h.trans he.symm))) hb ha)
 ·exact .inl (hR a b (hm.1 h) ha hb)
theorem tick_yes (h0:checkN N=0) {x:Nd} (hx:x∈N) {h:Nat} (hh:h≤16):tickF N f x.id h =
  ⟨((sortN N).map fun x=>peerN f.peers x.id).map fun p=>if p.id=x.id then tickP N (peerN (copF N f).peers) p h else p,f.msgs++introsN N (peerN f.peers x.id)⟩:=by
 unfold tickF
 rw [if_pos,cop_msgs h0,cop_peer h0 hx,cop_map h0]
 ·rfl
 ·refine ⟨by unfold lvlN;simp;omega,?_⟩
  rw [cop_map h0,List.any_eq_true]
  exact ⟨peerN f.peers x.id,List.mem_map.2 ⟨x,(sortN_mem N x).2 hx,rfl⟩,by simp [peer_id]⟩
theorem tick_peer (h0:checkN N=0) {x y:Nd} (hx:x∈N) (hy:y∈N) {h:Nat} (hh:h≤16) :
  peerN (tickF N f x.id h).peers y.id=if y.id=x.id then tickP N (peerN f.peers) (peerN f.peers x.id) h else peerN f.peers y.id:=by
 rw [tick_yes h0 hx hh]
 refine (peer_change h0 _ (fun p=>?_) hy).trans ?_
 ·show (if p.id=x.id then tickP N (peerN (copF N f).peers) p h else p).id=p.id
  split<;>rfl
 ·rw [peer_id]
  by_cases he:y.id=x.id
  ·rw [if_pos he,if_pos he,he]
   unfold tickP
   rw [next_congr (fun z hz=>cop_peer h0 hz)]
  ·rw [if_neg he,if_neg he]
theorem tick_no {id:Int} {h:Int} (hn:¬ (lvlN h=true∧(copF N f).peers.any (fun p=>p.id==id)=true)):tickF N f id h=copF N f:=by unfold tickF;rw [if_neg hn]
theorem tick_conn (hc:ConnF N f) (id h:Int):ConnF N (tickF N f id h):=by
 have h0:=hc.1
 by_cases hy:lvlN h=true∧(copF N f).peers.any (fun p=>p.id==id)=true
 ·obtain ⟨k,rfl⟩:=Int.eq_ofNat_of_zero_le (show 0≤h by have:=hy.1;unfold lvlN at this;simp at this;exact this.1)
  have hk:k≤16:=by have:=hy.1;unfold lvlN at this;simp at this;omega
  obtain ⟨x,hx,rfl⟩:∃ x∈N,x.id=id:=by
   obtain ⟨p,hp,he⟩:=List.any_eq_true.1 hy.2
   rw [cop_map h0] at hp
   obtain ⟨x,hx,rfl⟩:=List.mem_map.1 hp
   exact ⟨x,(sortN_mem N x).1 hx,by simpa [peer_id] using he⟩
  have hm:(tickF N f x.id k).msgs=f.msgs++introsN N (peerN f.peers x.id):=by rw [tick_yes h0 hx hk]
  refine connF_of hc fun a b e=>?_
  rcases e with ⟨⟨y,hyN,rfl⟩,hv⟩ | ⟨hmm,hu,hv⟩
  ·by_cases he:y.id=x.id
   ·rw [he] at hv ⊢
    have hR:∀ u v,(u,v)∈introsN N (peerN f.peers x.id)→nodeB N u→nodeB N v→EdgeF N (tickF N f x.id k) u v:=fun u v hu h1 h2=>.inr ⟨by rw [hm];exact List.mem_append_right _ hu,h1,h2⟩
    have hin:∀ v,v=x.id∨v∈refsN N (peerN f.peers x.id)→v∈arN N (peerN f.peers x.id):=by
     intro v hv
     rw [ar_eq h0 hx (peer_id _ _).symm]
     have hvN:∃ z∈N,z.id=v:=by
      rcases hv with rfl | hv
      ·exact ⟨x,hx,rfl⟩
      ·exact ((mem_refs h0).1 hv).1
     obtain ⟨z,hz,rfl⟩:=hvN
     refine List.mem_map.2 ⟨z,List.mem_filter.2 ⟨(sortN_mem N z).2 hz,?_⟩,rfl⟩
     rw [peer_id,Bool.or_eq_true]
     rcases hv with hv | hv
     ·exact .inl (by simpa using hv)
     ·exact .inr (by rw [List.contains_iff_mem];exact ((mem_refs h0).1 hv).2.2)
    exact row_cl h0 hR x.id (hin _ (.inl rfl)) b (hin _ (.inr hv))
   ·refine Cl.one (.inl (.inl ⟨⟨y,hyN,rfl⟩,?_⟩))
    rw [tick_peer h0 hx hyN hk,if_neg he]
    exact hv
  ·exact Cl.one (.inl (.inr ⟨by rw [hm];exact List.mem_append_left _ hmm,hu,hv⟩))
 ·rw [tick_no hy]
  exact copF_conn hc
theorem mem_erase_or {α:Type}:∀ (l:List α) (k:Nat) (m x:α),l[k]?=some m→x∈l→x=m∨x∈l.eraseIdx k
 | a::l,0,m,x,hk,hx=>by
  simp at hk
  subst hk
  rcases List.mem_cons.1 hx with h | h
  ·exact .inl h
  ·exact .inr h
 | a::l,k+1,m,x,hk,hx=>by
  simp at hk
  rcases List.mem_cons.1 hx with h | h
  ·exact .inr (by rw [List.eraseIdx_cons_succ,h];simp)
  ·rcases mem_erase_or l k m x hk h with h | h
   ·exact .inl h
   ·exact .inr (by rw [List.eraseIdx_cons_succ];exact List.mem_cons_of_mem _ h)
theorem find_node (h0:checkN N=0) {v:Int}:(findN N v).2=true↔nodeB N v:=by
 constructor
 ·intro h
  unfold findN at h
  cases e:N.find? (fun x=>x.id==v) with
  | none=>rw [e] at h;cases h
  | some x=>exact ⟨x,List.mem_of_find?_eq_some e,by simpa using List.find?_some e⟩
 ·rintro ⟨x,hx,rfl⟩
  rw [find_in h0 hx]
theorem tell_id (m:Int×Int) (p:Pr):(tellP N m p).id=p.id:=by unfold tellP;split<;>rfl
theorem del_some (h0:checkN N=0) {k:Nat} {m:Int×Int} (hm:f.msgs[k]?=some m):delF N f k=⟨if (findN N m.2).2=true∧m.1≠m.2 then (copF N f).peers.map (tellP N m) else (copF N f).peers,f.msgs.eraseIdx k⟩:=by
 unfold delF
 rw [if_pos (by omega),cop_msgs h0,Int.toNat_natCast,hm]
theorem del_peer (h0:checkN N=0) {k:Nat} {m:Int×Int} (hm:f.msgs[k]?=some m) {y:Nd} (hy:y∈N):peerN (delF N f k).peers y.id=if (findN N m.2).2=true∧m.1≠m.2∧y.id=m.1 then { peerN f.peers y.id with known:=ordN N ((peerN f.peers y.id).known++[m.2]) y.id } else peerN f.peers y.id:=by
 rw [del_some h0 hm]
 by_cases hc:(findN N m.2).2=true∧m.1≠m.2
 ·simp only [if_pos hc]
  rw [cop_map h0,peer_change h0 _ (tell_id m) hy]
  unfold tellP
  rw [peer_id]
  by_cases he:y.id=m.1
  ·rw [if_pos he,if_pos ⟨hc.1,hc.2,he⟩]
  ·rw [if_neg he,if_neg (fun h=>he h.2.2)]
 ·simp only [if_neg hc]
  rw [cop_peer h0 hy,if_neg (fun h=>hc ⟨h.1,h.2.1⟩)]
theorem nums_more {p:Pr} {v b:Int} (hv:v∈refsN N p) (h0:checkN N=0):v∈refsN N { p with known:=ordN N (p.known++[b]) p.id }:=by
 obtain ⟨h1,h2,h3⟩:=(mem_refs h0).1 hv
 refine (mem_refs h0).2 ⟨h1,h2,?_⟩
 unfold numsP at h3 ⊢
 simp only [List.mem_append] at h3 ⊢
 rcases h3 with (h | h) | h
 ·exact .inl (.inl (mem_ord.2 ⟨h1,h2,by simp [h]⟩))
 ·exact .inl (.inr h)
 ·exact .inr h
theorem del_conn (hc:ConnF N f) (k:Int):ConnF N (delF N f k):=by
 have h0:=hc.1
 by_cases hk:0≤k
 ·obtain ⟨j,rfl⟩:=Int.eq_ofNat_of_zero_le hk
  cases hm:f.msgs[j]? with
  | none =>
   have:delF N f j=copF N f:=by unfold delF;rw [if_pos hk,cop_msgs h0,Int.toNat_natCast,hm]
   rw [this]
   exact copF_conn hc
  | some m =>
   have hms:(delF N f j).msgs=f.msgs.eraseIdx j:=by rw [del_some h0 hm]
   refine connF_of hc fun a b e=>?_
   rcases e with ⟨⟨y,hy,rfl⟩,hv⟩ | ⟨hmm,⟨y,hy,rfl⟩,hb⟩
   ·refine Cl.one (.inl (.inl ⟨⟨y,hy,rfl⟩,?_⟩))
    rw [del_peer h0 hm hy]
    split
    ·have:=nums_more (b:=m.2) hv h0
     rw [show (peerN f.peers y.id).id=y.id from peer_id _ _] at this
     show b∈refsN N ⟨(peerN f.peers y.id).id,(peerN f.peers y.id).left,(peerN f.peers y.id).right,ordN N ((peerN f.peers y.id).known++[m.2]) y.id,(peerN f.peers y.id).near⟩
     rw [show (peerN f.peers y.id).id=y.id from peer_id _ _]
     exact this
    ·exact hv
   ·rcases mem_erase_or _ _ _ _ hm hmm with h | h
    ·subst h
     by_cases he:y.id=b
     ·rw [← he];exact .refl _
     ·refine Cl.one (.inl (.inl ⟨⟨y,hy,rfl⟩,?_⟩))
      rw [del_peer h0 hm hy,if_pos ⟨(find_node h0).2 hb,he,rfl⟩]
      refine (mem_refs h0).2 ⟨hb,by show b≠(peerN f.peers y.id).id;rw [peer_id];exact fun h=>he h.symm,?_⟩
      unfold numsP
      exact List.mem_append_left _ (List.mem_append_left _ (mem_ord.2 ⟨hb,fun h=>he h.symm,by simp⟩))
    ·exact Cl.one (.inl (.inr ⟨by rw [hms];exact h,⟨y,hy,rfl⟩,hb⟩))
 ·have:delF N f k=copF N f:=by unfold delF;rw [if_neg hk]
  rw [this]
  exact copF_conn hc
theorem dbl_conn (hc:ConnF N f) (k:Int) (most:Nat):ConnF N (dblF f k most):=by
 unfold dblF
 split
 ·split
  ·exact hc
  ·refine connF_of hc fun a b e=>Cl.one (.inl ?_)
   rcases e with e | ⟨e,h1,h2⟩
   ·exact .inl e
   ·exact .inr ⟨List.mem_append_left _ e,h1,h2⟩
 ·exact hc
end
def pickN (l:List Int) (i n:Nat):Nat:=match l[i]? with
 | none=>0
 | some x=>(x % (n:Int)).toNat
theorem pick_lt (l:List Int) (i:Nat) {n:Nat} (hn:0<n):pickN l i n<n:=by
 unfold pickN
 split
 ·exact hn
 ·rename_i x _
  have:=Int.emod_lt_of_pos x (show (0:Int)<n by omega)
  have:=Int.emod_nonneg x (show (n:Int)≠0 by omega)
  omega
def delAllF (N:List Nd) (ms:List Int):Nat→Nat→Fl→Fl
 | 0,_,f=>f
 | n+1,i,f=>delAllF N ms n (i+1) (delF N f (pickN ms i (n+1):Nat))
def tickAllF (N:List Nd) (ts:List Int) (h:Int):Nat→Nat→List Int→Fl→Fl
 | 0,_,_,f=>f
 | n+1,i,left,f=>tickAllF N ts h n (i+1) (left.eraseIdx (pickN ts i (n+1))) (tickF N f (left[pickN ts i (n+1)]?.getD 0) h)
def roundF (N:List Nd) (f:Fl) (ms ts:List Int) (h:Int):Fl :=
 if lvlN h=true∧checkN N=0 then tickAllF N ts h N.length 0 ((sortN N).map Nd.id) (delAllF N ms (copF N f).msgs.length 0 (copF N f)) else ⟨[],[]⟩
section
variable {N:List Nd} {f g:Fl}
def DelTo (N:List Nd) (f g:Fl) (D:List (Int×Int)):Prop :=
 (∀ x∈N,(peerN g.peers x.id).left=(peerN f.peers x.id).left∧(peerN g.peers x.id).right=(peerN f.peers x.id).right∧(peerN g.peers x.id).near=(peerN f.peers x.id).near ∧
  ∀ v,nodeB N v→v≠x.id→(v∈(peerN g.peers x.id).known↔v∈(peerN f.peers x.id).known∨(x.id,v)∈D))∧∀ m,m∈f.msgs↔m∈g.msgs∨m∈D
theorem DelTo.refl (N:List Nd) (f:Fl):DelTo N f f []:=⟨fun x hx=>⟨rfl,rfl,rfl,fun v _ _=>by simp⟩,fun m=>by simp⟩
theorem erase_or {α:Type}:∀ (l:List α) (k:Nat) (m x:α),l[k]?=some m→(x∈l↔x∈l.eraseIdx k∨x=m)
 | a::l,0,m,x,hk=>by
  simp at hk
  subst hk
  simp [or_comm]
 | a::l,k+1,m,x,hk=>by
  simp at hk
  rw [List.eraseIdx_cons_succ,List.mem_cons,List.mem_cons,erase_or l k m x hk,or_assoc]
theorem del_step (h0:checkN N=0) {D:List (Int×Int)} (h:DelTo N f g D) {k:Nat} {m:Int×Int} (hm:g.msgs[k]?=some m):DelTo N f (delF N g k) (m::D):=by
 refine ⟨fun x hx=>?_,fun u=>?_⟩
 ·obtain ⟨h1,h2,h3,h4⟩:=h.1 x hx
  rw [del_peer h0 hm hx]
  by_cases hc:(findN N m.2).2=true∧m.1≠m.2∧x.id=m.1
  ·rw [if_pos hc]
   refine ⟨h1,h2,h3,fun v hv hne=>?_⟩
   show v∈ordN N ((peerN g.peers x.id).known++[m.2]) x.id↔_
   rw [mem_ord]
   simp only [List.mem_append,List.mem_cons,List.not_mem_nil,or_false,h4 v hv hne]
   constructor
   ·rintro ⟨_,_,(h | h) | h⟩
    ·exact .inl h
    ·exact .inr (.inr h)
    ·exact .inr (.inl (Prod.ext hc.2.2 h))
   ·rintro (h | (h | h))
    ·exact ⟨hv,hne,.inl (.inl h)⟩
    ·exact ⟨hv,hne,.inr (by rw [← h])⟩
    ·exact ⟨hv,hne,.inl (.inr h)⟩
  ·rw [if_neg hc]
   refine ⟨h1,h2,h3,fun v hv hne=>?_⟩
   rw [h4 v hv hne,List.mem_cons]
   constructor
   ·rintro (h | h)
    ·exact .inl h
    ·exact .inr (.inr h)
   ·rintro (h | (h | h))
    ·exact .inl h
    ·exact absurd ⟨(find_node h0).2 (by rw [← h];exact hv),by rw [← h];exact fun e=>hne e.symm,by rw [← h]⟩ hc
    ·exact .inr h
 ·rw [h.2,del_some h0 hm,List.mem_cons]
  show u∈g.msgs∨u∈D↔u∈g.msgs.eraseIdx k∨u=m∨u∈D
  rw [erase_or _ _ _ u hm,or_assoc]
theorem del_all (h0:checkN N=0) (ms:List Int):∀ (n i:Nat) (g:Fl) (D:List (Int×Int)),g.msgs.length=n→DelTo N f g D→∃ D',DelTo N f (delAllF N ms n i g) D'∧(delAllF N ms n i g).msgs=[]
 | 0,_,g,D,hl,h=>⟨D,h,List.length_eq_zero_iff.1 hl⟩
 | n+1,i,g,D,hl,h=>by
  have hk:=pick_lt ms i (show 0<n+1 by omega)
  obtain ⟨m,hm⟩:∃ m,g.msgs[pickN ms i (n+1)]?=some m:=⟨g.msgs[pickN ms i (n+1)]'(by omega),by simp⟩
  refine del_all h0 ms n (i+1) _ _ ?_ (del_step h0 h hm)
  rw [del_some h0 hm]
  show (g.msgs.eraseIdx _).length=n
  rw [List.length_eraseIdx,if_pos (by omega)]
  omega
def TickTo (N:List Nd) (q g:Fl) (h:Nat) (A:List Int):Prop :=
 (∀ x∈N,(x.id∉A→peerN g.peers x.id=peerN q.peers x.id)∧(x.id∈A→∃ st:Int→Pr,(∀ z∈N,(st z.id).near=(peerN q.peers z.id).near∨(z.id∈A∧(st z.id).near=(peerN g.peers z.id).near)) ∧
  peerN g.peers x.id=tickP N st (peerN q.peers x.id) h))∧∀ m,m∈g.msgs↔m∈q.msgs∨∃ x∈N,x.id∈A∧m∈introsN N (peerN q.peers x.id)
theorem tick_step (h0:checkN N=0) {q:Fl} {h:Nat} (hh:h≤16) {A:List Int} (ht:TickTo N q g h A) {x:Nd} (hx:x∈N) (hxA:x.id∉A):TickTo N q (tickF N g x.id h) h (x.id::A):=by
 have hq:=(ht.1 x hx).1 hxA
 refine ⟨fun y hy=>⟨fun hyA=>?_,fun hyA=>?_⟩,fun m=>?_⟩
 ·rw [List.mem_cons,not_or] at hyA
  rw [tick_peer h0 hx hy hh,if_neg hyA.1]
  exact (ht.1 y hy).1 hyA.2
 ·by_cases he:y.id=x.id
  ·refine ⟨peerN g.peers,fun z hz=>?_,?_⟩
   ·by_cases hzA:z.id∈A
    ·refine .inr ⟨List.mem_cons_of_mem _ hzA,?_⟩
     rw [tick_peer h0 hx hz hh,if_neg (fun e=>hxA (by rw [← e];exact hzA))]
    ·exact .inl (by rw [(ht.1 z hz).1 hzA])
   ·rw [tick_peer h0 hx hy hh,if_pos he,hq,he]
  ·have hyA:y.id∈A:=by
    rcases List.mem_cons.1 hyA with h | h
    ·exact absurd h he
    ·exact h
   obtain ⟨st,h1,h2⟩:=(ht.1 y hy).2 hyA
   refine ⟨st,fun z hz=>?_,?_⟩
   ·rcases h1 z hz with h | ⟨h,h'⟩
    ·exact .inl h
    ·refine .inr ⟨List.mem_cons_of_mem _ h,?_⟩
     rw [tick_peer h0 hx hz hh,if_neg (fun e=>hxA (by rw [← e];exact h))]
     exact h'
   ·rw [tick_peer h0 hx hy hh,if_neg he,h2]
 ·rw [tick_yes h0 hx hh]
  show m∈g.msgs++introsN N (peerN g.peers x.id)↔_
  rw [List.mem_append,ht.2,hq]
  constructor
  ·rintro ((h | ⟨y,hy,hyA,hm⟩) | h)
   ·exact .inl h
   ·exact .inr ⟨y,hy,List.mem_cons_of_mem _ hyA,hm⟩
   ·exact .inr ⟨x,hx,by simp,h⟩
  ·rintro (h | ⟨y,hy,hyA,hm⟩)
   ·exact .inl (.inl h)
   ·rcases List.mem_cons.1 hyA with h | h
    ·rw [h] at hm;exact .inr hm
    ·exact .inl (.inr ⟨y,hy,h,hm⟩)
theorem nodup_at {l:List Int} (h:l.Nodup) {i j:Nat} (hi:i<l.length) (hj:j<l.length) (e:l[i]=l[j]):i=j:=by
 have:=List.pairwise_iff_getElem.1 h
 rcases Nat.lt_trichotomy i j with h1 | h1 | h1
 ·exact absurd e (this i j hi hj h1)
 ·exact h1
 ·exact absurd e.symm (this j i hj hi h1)
theorem tick_all (h0:checkN N=0) {q:Fl} {h:Nat} (hh:h≤16) (ts:List Int):∀ (n i:Nat) (left A:List Int) (g:Fl),left.length=n→left.Nodup→(∀ v∈left,nodeB N v∧v∉A)→(∀ x∈N,x.id∈A∨x.id∈left)→TickTo N q g h A →
  ∃ A',TickTo N q (tickAllF N ts h n i left g) h A'∧∀ x∈N,x.id∈A'
 | 0,_,left,A,g,hl,_,_,hA,ht=>⟨A,ht,fun x hx=>by
   have:=hA x hx
   rw [List.length_eq_zero_iff.1 hl] at this
   simpa using this⟩
 | n+1,i,left,A,g,hl,hnd,hN,hA,ht=>by
  have hk:=pick_lt ts i (show 0<n+1 by omega)
  obtain ⟨m,hm⟩:∃ m,left[pickN ts i (n+1)]?=some m:=⟨left[pickN ts i (n+1)]'(by omega),by simp⟩
  obtain ⟨⟨x,hx,rfl⟩,hxA⟩:=hN m (List.mem_of_getElem? hm)
  unfold tickAllF
  rw [hm]
  have hnot:∀ v∈left.eraseIdx (pickN ts i (n+1)),v≠x.id:=by
   intro v hv he
   subst he
   obtain ⟨j,hj⟩:=List.mem_iff_getElem?.1 hv
   rw [List.getElem?_eraseIdx] at hj
   obtain ⟨h1,e1⟩:=List.getElem?_eq_some_iff.1 hm
   split at hj
   ·obtain ⟨h2,e2⟩:=List.getElem?_eq_some_iff.1 hj
    have:=nodup_at hnd h2 h1 (e2.trans e1.symm)
    omega
   ·obtain ⟨h2,e2⟩:=List.getElem?_eq_some_iff.1 hj
    have:=nodup_at hnd h2 h1 (e2.trans e1.symm)
    omega
  refine tick_all h0 hh ts n (i+1) _ (x.id::A) _ ?_ ?_ (fun v hv=>?_) (fun y hy=>?_) (tick_step h0 hh ht hx hxA)
  ·rw [List.length_eraseIdx,if_pos (by omega)];omega
  ·exact hnd.sublist (List.eraseIdx_sublist _ _)
  ·have hvl:v∈left:=(List.eraseIdx_sublist _ _).subset hv
   refine ⟨(hN v hvl).1,fun h=>?_⟩
   rcases List.mem_cons.1 h with h | h
   ·exact hnot v hv h
   ·exact (hN v hvl).2 h
  ·rcases hA y hy with h | h
   ·exact .inl (List.mem_cons_of_mem _ h)
   ·rcases (erase_or _ _ _ y.id hm).1 h with h | h
    ·exact .inr h
    ·exact .inl (by rw [h];simp)
def Between (N:List Nd) (f q g:Fl) (h:Nat):Prop :=
 (∀ x∈N,(peerN q.peers x.id).left=(peerN f.peers x.id).left∧(peerN q.peers x.id).right=(peerN f.peers x.id).right∧(peerN q.peers x.id).near=(peerN f.peers x.id).near ∧
  ∀ v,nodeB N v→v≠x.id→(v∈(peerN q.peers x.id).known↔v∈(peerN f.peers x.id).known∨(x.id,v)∈f.msgs)) ∧
 (∀ x∈N,∃ st:Int→Pr,(∀ z∈N,(st z.id).near=(peerN q.peers z.id).near∨(st z.id).near=(peerN g.peers z.id).near)∧peerN g.peers x.id=tickP N st (peerN q.peers x.id) h) ∧
 ∀ m,m∈g.msgs↔∃ x∈N,m∈introsN N (peerN q.peers x.id)
theorem round_law (h0:checkN N=0) {h:Nat} (hh:h≤16) (f:Fl) (ms ts:List Int):∃ q,Between N f q (roundF N f ms ts h) h:=by
 have hl:lvlN (h:Int)=true:=by unfold lvlN;simp;omega
 obtain ⟨D,hD,hD0⟩:=del_all h0 ms _ 0 (copF N f) [] rfl (DelTo.refl N (copF N f))
 obtain ⟨q,hq⟩:∃ q,q=delAllF N ms (copF N f).msgs.length 0 (copF N f):=⟨_,rfl⟩
 rw [← hq] at hD hD0
 have hst:TickTo N q q h []:=⟨fun x hx=>⟨fun _=>rfl,fun h=>by cases h⟩,fun m=>by simp⟩
 have hids:((sortN N).map Nd.id).Nodup:=List.Pairwise.map _ (fun a b h=>h) (sort_ids h0)
 obtain ⟨A,hA,hall⟩:=tick_all h0 hh ts N.length 0 ((sortN N).map Nd.id) [] q (by simp [sortN_length]) hids (fun v hv=>by
  obtain ⟨x,hx,rfl⟩:=List.mem_map.1 hv
  exact ⟨⟨x,(sortN_mem N x).1 hx,rfl⟩,by simp⟩) (fun x hx=>.inr (List.mem_map.2 ⟨x,(sortN_mem N x).2 hx,rfl⟩)) hst
 refine ⟨q,fun x hx=>?_,fun x hx=>?_,fun m=>?_⟩
 ·obtain ⟨h1,h2,h3,h4⟩:=hD.1 x hx
  rw [cop_peer h0 hx] at h1 h2 h3 h4
  refine ⟨h1,h2,h3,fun v hv hne=>?_⟩
  rw [h4 v hv hne]
  have:=hD.2 (x.id,v)
  rw [hD0,cop_msgs h0] at this
  simp only [List.not_mem_nil,false_or] at this
  rw [this]
 ·unfold roundF
  rw [if_pos ⟨hl,h0⟩,← hq]
  obtain ⟨st,h1,h2⟩:=(hA.1 x hx).2 (hall x hx)
  exact ⟨st,fun z hz=>(h1 z hz).imp id (fun h=>h.2),h2⟩
 ·unfold roundF
  rw [if_pos ⟨hl,h0⟩,← hq,hA.2,hD0]
  constructor
  ·rintro (h | ⟨x,hx,_,hm⟩)
   ·cases h
   ·exact ⟨x,hx,hm⟩
  ·rintro ⟨x,hx,hm⟩
   exact .inr ⟨x,hx,hall x hx,hm⟩
theorem next_known (h0:checkN N=0) {f q g q' g':Fl} {h:Nat} (b:Between N f q g h) (b':Between N g q' g' h) {x:Nd} (hx:x∈N) {v:Int} (hv:v∈(peerN (roundN N q.peers) x.id).known):v∈(peerN q'.peers x.id).known:=by
 obtain ⟨hvN,hne,hh⟩:=(known_iff h0 hx).1 hv
 rw [((b'.1 x hx).2.2.2 v hvN hne)]
 obtain ⟨st,_,hg⟩:=b.2.1 x hx
 rw [hg]
 have hord:∀ l:List Int,v∈l→v∈ordN N l (peerN q.peers x.id).id:=fun l hl=>mem_ord.2 ⟨hvN,by rw [peer_id];exact hne,hl⟩
 rcases hh with h | h | ⟨c,hc,hm⟩
 ·exact .inl (hord _ (by rw [h];simp))
 ·exact .inl (hord _ (by rw [h];simp))
 ·exact .inr ((b.2.2 _).2 ⟨c,hc,hm⟩)
theorem between_conn {f q g:Fl} {h:Nat} (b:Between N f q g h) (hc:ConnF N f):ConnN N q.peers:=by
 have h0:=hc.1
 refine ⟨h0,fun x hx y hy=>(hc.2 x hx y hy).mono fun a c e=>?_⟩
 have more:∀ z∈N,∀ v,nodeB N v→v≠z.id→v∈numsP (peerN f.peers z.id)∨(z.id,v)∈f.msgs→v∈refsN N (peerN q.peers z.id):=by
  intro z hz v hv hne hh
  obtain ⟨h1,h2,h3,h4⟩:=b.1 z hz
  refine (mem_refs h0).2 ⟨hv,by rw [peer_id];exact hne,?_⟩
  unfold numsP
  rw [h1,h2,h3,List.mem_append,List.mem_append,h4 v hv hne]
  rcases hh with h | h
  ·unfold numsP at h
   rw [List.mem_append,List.mem_append] at h
   rcases h with (h | h) | h
   ·exact .inl (.inl (.inl h))
   ·exact .inl (.inr h)
   ·exact .inr h
  ·exact .inl (.inl (.inr h))
 rcases e with ⟨⟨z,hz,rfl⟩,hv⟩ | ⟨hm,⟨z,hz,rfl⟩,hcN⟩
 ·obtain ⟨h1,h2,h3⟩:=(mem_refs h0).1 hv
  rw [peer_id] at h2
  exact Cl.one (.inl ⟨⟨z,hz,rfl⟩,more z hz _ h1 h2 (.inl h3)⟩)
 ·by_cases he:c=z.id
  ·rw [he];exact .refl _
  ·exact Cl.one (.inl ⟨⟨z,hz,rfl⟩,more z hz _ hcN he (.inr hm)⟩)
theorem exactB_congr {P Q:List Pr} {h:Nat} (hP:∀ x∈N,(peerN P x.id).left=(peerN Q x.id).left∧(peerN P x.id).right=(peerN Q x.id).right∧(peerN P x.id).near=(peerN Q x.id).near):exactB N P (h:Int)=exactB N Q (h:Int):=by
 have hl:linksB N P (h:Int)=linksB N Q (h:Int):=by
  unfold linksB
  split
  ·unfold normalN
   split
   ·rw [List.map_map,List.map_map]
    refine List.map_congr_left fun x hx=>?_
    obtain ⟨h1,h2,h3⟩:=hP x ((sortN_mem N x).1 hx)
    refine Prod.ext ?_ ?_
    ·show (peerN P x.id).id=(peerN Q x.id).id
     rw [peer_id,peer_id]
    ·refine List.map_congr_left fun i _=>?_
     unfold linkB nearAt
     rw [peer_id,peer_id,h1,h2,h3]
   ·rfl
  ·rfl
 unfold exactB
 rw [hl]
theorem flight_law (hw:∀ x∈N,x.word<4294967296) {h:Nat} (hh:h≤16) {F:Nat→Fl} (hc:ConnF N (F 0)) (hr:∀ t,∃ ms ts,F (t+1)=roundF N (F t) ms ts h) (t:Nat) (ht:N.length*(h+1)≤t):exactB N (F t).peers (h:Int)=true:=by
 have h0:=hc.1
 have hb:∀ t,∃ q,Between N (F t) q (F (t+1)) h:=fun t=>by
  obtain ⟨ms,ts,e⟩:=hr t
  rw [e]
  exact round_law h0 hh (F t) ms ts
 obtain ⟨Q,hQ⟩:∃ Q:Nat→Fl,∀ t,Between N (F t) (Q t) (F (t+1)) h:=⟨fun t=>(hb t).choose,fun t=>(hb t).choose_spec⟩
 have hcongr:exactB N (F t).peers (h:Int)=exactB N (Q t).peers (h:Int):=exactB_congr fun x hx=>by
  obtain ⟨h1,h2,h3,_⟩:=(hQ t).1 x hx
  exact ⟨h1.symm,h2.symm,h3.symm⟩
 rw [hcongr]
 refine reach_lawA hw hh (P:=fun t=>(Q t).peers) (between_conn (hQ 0) hc) (fun t a ha v hv=>next_known h0 (hQ t) (hQ (t+1)) ha hv) (fun t a ha=>?_) (fun t a ha=>?_) t ht
 ·obtain ⟨st,_,hg⟩:=(hQ t).2.1 a ha
  obtain ⟨h1,h2,_,_⟩:=(hQ (t+1)).1 a ha
  rw [h1,h2,hg]
  rfl
 ·obtain ⟨st,h1,hg⟩:=(hQ t).2.1 a ha
  obtain ⟨_,_,h3,_⟩:=(hQ (t+1)).1 a ha
  refine ⟨st,fun y hy=>?_,?_⟩
  ·rcases h1 y hy with h | h
   ·exact .inl h
   ·exact .inr (by rw [h,((hQ (t+1)).1 y hy).2.2.1])
  ·rw [h3,hg]
   rfl
end
end Go.Proofs.YthcholmhmcpooaaGreatDoor
namespace Go.Proofs.YthcholmhmcpooaaGreatDoor
open Go.RowKit Go.Shelf
theorem run_copy_cells2 {P:Program} (w:World) (dT sT ty elem:TypeId) (b o dLen dCap:Nat) (a:Addr) (sLen sCap:Nat) (cs:List Value)
  (hu:P.underlying dT=some (.slice elem)) (hs:(P.info? elem).map (·.size)=some 2) (k:Nat) (hk:k=Nat.min sLen dLen) (hn:cs.length=k*2)
  (hsrc:∀ j v,cs[j]?=some v→w.cell? (a.add j)=some v) (hc:∀ j,j<cs.length→(w.cell? ⟨b,o+j,none⟩).isSome=true) (hf:∀ j,j<cs.length→w.frozen? ⟨b,o+j,none⟩=false) (h1:∀ v∈cs,v.oneCell'=true) :
  (Builtin.copy_ #[dT,sT] ty #[.slice (some ⟨b,o,none⟩) dLen dCap,.slice (some a) sLen sCap]).run P w=.ok (goInt k) (w.setCells b o cs):=by
 have hl:=run_loadCells_list (P:=P) w a cs hsrc
 have hst:=run_storeCells_cells (P:=P) b o cs 0 w (by simpa using hc) (by simpa using hf) h1
 cases hq:P.info? elem with
 | none=>simp [hq] at hs
 | some i =>
  have hi:i.size=2:=by simpa [hq] using hs
  rw [hn] at hl
  simp [Builtin.copy_,run_underlying hu,Builtin.lenOf,Builtin.firstCells,sizeOf,typeInfo,hq,hi,← hk,hl,hst]
theorem chg_cells {g:Nat} {S:Nat→Prop} {w0:World} (hS:∀ x,S x→x≠g):∀ (vs:List Value) (w:World) (j:Nat),Chg S w0 w→Chg S w0 (w.setCells g j vs)
 | [],_,_,h=>h
 | v::vs,w,j,h=>chg_cells hS vs _ (j+1) (h.setCell (p:=⟨g,j,none⟩) v (fun k hk=>hS k hk))
end Go.Proofs.YthcholmhmcpooaaGreatDoor
