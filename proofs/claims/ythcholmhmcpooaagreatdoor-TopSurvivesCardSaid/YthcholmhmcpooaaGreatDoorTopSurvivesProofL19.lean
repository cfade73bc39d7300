/- Texts for TopSurvivesProof. -/
import Derived.Test.YthcholmhmcpooaaGreatDoorTopSurvivesProofL18
set_option linter.unusedSimpArgs false
set_option linter.unusedVariables false

namespace Go.Proofs.YthcholmhmcpooaaGreatDoor
open Go.RowKit
def otherN (N:List Nd) (id own:Int):Int:=if (findN N id).2=true∧id≠own then id else 0
def zNr:Nr:=(0,0,0,0)
def nearAt (p:Pr) (i:Nat):Nr:=p.near[i]?.getD zNr
def linkB (N:List Nd) (p:Pr) (lev:Int):Int×Int :=
 if (findN N p.id).2=true∧checkN N=0∧lvlN lev=true∧lev≤p.near.length then
  (let y:=if lev=0 then (p.left,p.right) else if bitN (findN N p.id).1.word (lev-1)=1 then ((nearAt p (lev-1).toNat).2.1,(nearAt p (lev-1).toNat).2.2.2) else ((nearAt p (lev-1).toNat).1,(nearAt p (lev-1).toNat).2.2.1)
   (otherN N y.1 p.id,otherN N y.2 p.id))
 else (0,0)
def pairB (N:List Nd) (own nb:Int) (lev:Nat) (zero one:Int):Int×Int :=
 if (findN N nb).2=true then (if bitN (findN N nb).1.word lev=0 then ((findN N nb).1.id,otherN N one own) else (otherN N zero own,(findN N nb).1.id)) else (0,0)
def stepB (N:List Nd) (st:Int→Pr) (p:Pr) (i:Nat):Nr :=
 ((pairB N p.id (linkB N p i).1 i (nearAt (st (linkB N p i).1) i).1 (nearAt (st (linkB N p i).1) i).2.1).1,(pairB N p.id (linkB N p i).1 i (nearAt (st (linkB N p i).1) i).1 (nearAt (st (linkB N p i).1) i).2.1).2,
  (pairB N p.id (linkB N p i).2 i (nearAt (st (linkB N p i).2) i).2.2.1 (nearAt (st (linkB N p i).2) i).2.2.2).1,(pairB N p.id (linkB N p i).2 i (nearAt (st (linkB N p i).2) i).2.2.1 (nearAt (st (linkB N p i).2) i).2.2.2).2)
def nextB (N:List Nd) (st:Int→Pr) (p:Pr) (h:Nat):List Nr:=(List.range h).map (stepB N st p)
def bRoundN (N:List Nd) (P:List Pr) (h:Int):List Pr:=if lvlN h=true then (normalN N P).map fun p=>{ p with near:=nextB N (peerN (normalN N P)) p h.toNat } else []
def linksB (N:List Nd) (P:List Pr) (h:Int):List Lkd:=if lvlN h=true then (normalN N P).map fun p=>(p.id,(List.range (h.toNat+1)).map fun (lev:Nat)=>linkB N p lev) else []
noncomputable def exactB (N:List Nd) (P:List Pr) (h:Int):Bool:=(buildN N h).2==0&&decide (linksB N P h=(buildN N h).1)
section
variable {N:List Nd}
def bitIs (i b:Nat) (y:Nd):Bool:=bitN y.word i==b
theorem other_node (h0:checkN N=0) {z:Nd} (hz:z∈N) {own:Int} (hne:z.id≠own):otherN N z.id own=z.id:=by
 unfold otherN
 rw [if_pos ⟨by rw [find_in h0 hz],hne⟩]
theorem other_zero (h0:checkN N=0) (own:Int):otherN N 0 own=0:=by
 unfold otherN
 rw [if_neg]
 rintro ⟨h,_⟩
 rw [find_zero h0] at h
 cases h
theorem other_last (h0:checkN N=0) {A:List Nd} {own:Int} (hA:∀ z∈A,z∈N∧z.id≠own):otherN N (lastI A) own=lastI A:=by
 rcases List.eq_nil_or_concat A with h | ⟨A0,z,h⟩
 ·subst h;exact other_zero h0 own
 ·rw [List.concat_eq_append] at h
  subst h
  have:lastI (A0++[z])=z.id:=by unfold lastI;simp
  rw [this]
  exact other_node h0 (hA z (by simp)).1 (hA z (by simp)).2
theorem other_head (h0:checkN N=0) {B:List Nd} {own:Int} (hB:∀ z∈B,z∈N∧z.id≠own):otherN N (headI B) own=headI B:=by
 cases B with
 | nil=>exact other_zero h0 own
 | cons z B =>
  show otherN N z.id own=z.id
  exact other_node h0 (hB z (by simp)).1 (hB z (by simp)).2
theorem grp_parts (h0:checkN N=0) {i:Int} {v:Nat} {A B:List Nd} {x:Nd} (e:grpS N i v=A++x::B):(∀ z∈A,z∈N∧z.id≠x.id)∧(∀ z∈B,z∈N∧z.id≠x.id):=by
 have ha:=grp_asc h0 i v
 rw [e] at ha
 have h1:=List.pairwise_append.1 ha
 have hm:∀ z∈A++x::B,z∈N:=fun z hz=>(grp_mem.1 (by rw [e];exact hz)).1
 exact ⟨fun z hz=>⟨hm z (by simp [hz]),(h1.2.2 z hz x (by simp)).2⟩,fun z hz=>⟨hm z (by simp [hz]),(((List.pairwise_cons.1 h1.2.1).1 z hz).2).symm⟩⟩
theorem step_left (h0:checkN N=0) {st:Int→Pr} {p:Pr} {x:Nd} {i:Nat} (hi:i≤16) (hx:x∈N) (hp:p.id=x.id) (hl:linkB N p i=(neighN N x.id i).1) {A B:List Nd} (e:grpS N i x.word=A++x::B)
  (hu:∀ A0 u,A=A0++[u]→(nearAt (st u.id) i).1=lastI (A0.filter (bitIs i 0))∧(nearAt (st u.id) i).2.1=lastI (A0.filter (bitIs i 1))) :
  (stepB N st p i).1=lastI (A.filter (bitIs i 0))∧(stepB N st p i).2.1=lastI (A.filter (bitIs i 1)):=by
 have hn:=neigh_split h0 hx (h:=(i:Int)) (by unfold lvlN;simp;omega) e
 obtain ⟨hA,_⟩:=grp_parts h0 e
 have hs:stepB N st p i=((pairB N x.id (lastI A) i (nearAt (st (lastI A)) i).1 (nearAt (st (lastI A)) i).2.1).1,(pairB N x.id (lastI A) i (nearAt (st (lastI A)) i).1 (nearAt (st (lastI A)) i).2.1).2,(stepB N st p i).2.2):=by
  unfold stepB
  rw [hl,hn,hp]
 rw [hs]
 simp only
 rcases List.eq_nil_or_concat A with h | ⟨A0,u,h⟩
 ·subst h
  have:pairB N x.id (lastI []) i (nearAt (st (lastI [])) i).1 (nearAt (st (lastI [])) i).2.1=(0,0):=by
   unfold pairB
   rw [if_neg]
   rw [show lastI []=0 from rfl,find_zero h0]
   simp
  rw [this]
  exact ⟨rfl,rfl⟩
 ·rw [List.concat_eq_append] at h
  subst h
  have hlu:lastI (A0++[u])=u.id:=by unfold lastI;simp
  obtain ⟨g0,g1⟩:=hu A0 u rfl
  have huN:=(hA u (by simp)).1
  have sub:∀ b,∀ z∈A0.filter (bitIs i b),z∈N∧z.id≠x.id:=fun b z hz=>hA z (by simp [(List.mem_filter.1 hz).1])
  rw [hlu,g0,g1]
  unfold pairB
  rw [find_in h0 huN,if_pos rfl]
  by_cases hb:bitN u.word i=0
  ·rw [if_pos hb,other_last h0 (sub 1),List.filter_append,List.filter_append]
   have e0:[u].filter (bitIs i 0)=[u]:=by simp [bitIs,hb]
   have e1:[u].filter (bitIs i 1)=[]:=by simp [bitIs,hb]
   rw [e0,e1,List.append_nil]
   exact ⟨by unfold lastI;simp,rfl⟩
  ·have hb1:bitN u.word i=1:=by have:=bitN_lt u.word (i:Int);omega
   rw [if_neg hb,other_last h0 (sub 0),List.filter_append,List.filter_append]
   have e0:[u].filter (bitIs i 0)=[]:=by simp [bitIs,hb1]
   have e1:[u].filter (bitIs i 1)=[u]:=by simp [bitIs,hb1]
   rw [e0,e1,List.append_nil]
   exact ⟨rfl,by unfold lastI;simp⟩
theorem step_right (h0:checkN N=0) {st:Int→Pr} {p:Pr} {x:Nd} {i:Nat} (hi:i≤16) (hx:x∈N) (hp:p.id=x.id) (hl:linkB N p i=(neighN N x.id i).1) {A B:List Nd} (e:grpS N i x.word=A++x::B)
  (hu:∀ u B0,B=u::B0→(nearAt (st u.id) i).2.2.1=headI (B0.filter (bitIs i 0))∧(nearAt (st u.id) i).2.2.2=headI (B0.filter (bitIs i 1))) :
  (stepB N st p i).2.2.1=headI (B.filter (bitIs i 0))∧(stepB N st p i).2.2.2=headI (B.filter (bitIs i 1)):=by
 have hn:=neigh_split h0 hx (h:=(i:Int)) (by unfold lvlN;simp;omega) e
 obtain ⟨_,hB⟩:=grp_parts h0 e
 have hs:(stepB N st p i).2.2=pairB N x.id (headI B) i (nearAt (st (headI B)) i).2.2.1 (nearAt (st (headI B)) i).2.2.2:=by
  unfold stepB
  rw [hl,hn,hp]
 rw [hs]
 cases B with
 | nil =>
  have:pairB N x.id (headI []) i (nearAt (st (headI [])) i).2.2.1 (nearAt (st (headI [])) i).2.2.2=(0,0):=by
   unfold pairB
   rw [if_neg]
   rw [show headI []=0 from rfl,find_zero h0]
   simp
  rw [this]
  exact ⟨rfl,rfl⟩
 | cons u B0 =>
  obtain ⟨g0,g1⟩:=hu u B0 rfl
  have huN:=(hB u (by simp)).1
  have sub:∀ b,∀ z∈B0.filter (bitIs i b),z∈N∧z.id≠x.id:=fun b z hz=>hB z (by simp [(List.mem_filter.1 hz).1])
  rw [show headI (u::B0)=u.id from rfl,g0,g1]
  unfold pairB
  rw [find_in h0 huN,if_pos rfl]
  by_cases hb:bitN u.word i=0
  ·rw [if_pos hb,other_head h0 (sub 1),List.filter_cons_of_pos (by simp [bitIs,hb]),List.filter_cons_of_neg (by simp [bitIs,hb])]
   exact ⟨rfl,rfl⟩
  ·have hb1:bitN u.word i=1:=by have:=bitN_lt u.word (i:Int);omega
   rw [if_neg hb,other_head h0 (sub 0),List.filter_cons_of_neg (by simp [bitIs,hb1]),List.filter_cons_of_pos (by simp [bitIs,hb1])]
   exact ⟨rfl,rfl⟩
theorem grp_next (hw:∀ x∈N,x.word<4294967296) {x:Nd} (hx:x∈N) {i:Nat} (hi:i<16):grpS N ((i+1:Nat):Int) x.word=(grpS N i x.word).filter (bitIs i (bitN x.word i)):=by
 unfold grpS groupN
 rw [List.filter_filter]
 refine List.filter_congr fun y hy=>?_
 have hy:=(sortN_mem N y).1 hy
 rw [Bool.eq_iff_iff,show ((i+1:Nat):Int)=(i:Int)+1 by omega,same_succ (hw y hy) (hw x hx) hi]
 unfold bitIs
 simp only [Bool.and_eq_true,beq_iff_eq]
 exact And.comm
theorem link_near (h0:checkN N=0) (hw:∀ x∈N,x.word<4294967296) {p:Pr} {x:Nd} {i:Nat} (hi:i<16) (hx:x∈N) (hp:p.id=x.id) (hlen:i+1≤p.near.length) {A B:List Nd} (e:grpS N i x.word=A++x::B)
  (hL:(nearAt p i).1=lastI (A.filter (bitIs i 0))∧(nearAt p i).2.1=lastI (A.filter (bitIs i 1))) (hR:(nearAt p i).2.2.1=headI (B.filter (bitIs i 0))∧(nearAt p i).2.2.2=headI (B.filter (bitIs i 1))) :
  linkB N p ((i+1:Nat):Int)=(neighN N x.id ((i+1:Nat):Int)).1:=by
 have hlv:lvlN ((i+1:Nat):Int)=true:=by unfold lvlN;simp;omega
 obtain ⟨hA,hB⟩:=grp_parts h0 e
 have e':grpS N ((i+1:Nat):Int) x.word=A.filter (bitIs i (bitN x.word i))++x::B.filter (bitIs i (bitN x.word i)):=by
  rw [grp_next hw hx hi,e,List.filter_append,List.filter_cons_of_pos (by simp [bitIs])]
 rw [neigh_split h0 hx hlv e']
 have subA:∀ b,∀ z∈A.filter (bitIs i b),z∈N∧z.id≠x.id:=fun b z hz=>hA z (List.mem_filter.1 hz).1
 have subB:∀ b,∀ z∈B.filter (bitIs i b),z∈N∧z.id≠x.id:=fun b z hz=>hB z (List.mem_filter.1 hz).1
 unfold linkB
 rw [hp,find_in h0 hx,if_pos ⟨rfl,h0,hlv,by omega⟩,if_neg (by omega),show (((i+1:Nat):Int)-1)=(i:Int) by omega,show ((i:Int)).toNat=i by omega,hL.1,hL.2,hR.1,hR.2]
 simp only
 by_cases hb:bitN x.word i=1
 ·rw [if_pos hb,hb]
  simp only
  rw [other_last h0 (subA 1),other_head h0 (subB 1)]
 ·have hb0:bitN x.word i=0:=by have:=bitN_lt x.word (i:Int);omega
  rw [if_neg hb,hb0]
  simp only
  rw [other_last h0 (subA 0),other_head h0 (subB 0)]
def RightB (N:List Nd) (st:Int→Pr) (i:Nat):Prop:=∀ x∈N,linkB N (st x.id) i=(neighN N x.id i).1
theorem near_next {st:Int→Pr} {p q:Pr} {h i:Nat} (hq:q.near=nextB N st p h) (hi:i<h):nearAt q i=stepB N st p i:=by
 unfold nearAt
 rw [hq]
 unfold nextB
 rw [List.getElem?_map,List.getElem?_range hi]
 rfl
theorem grp_same (hw:∀ x∈N,x.word<4294967296) {x u:Nd} {i:Nat} (hx:x∈N) (hu:u∈grpS N i x.word):grpS N i u.word=grpS N i x.word:=by
 obtain ⟨h1,h2⟩:=grp_mem.1 hu
 exact grp_eq hw (hw u h1) (hw x hx) h2
theorem near_of {p q:Pr} {i:Nat} (h:p.near=q.near):nearAt p i=nearAt q i:=by unfold nearAt;rw [h]
theorem climbA (h0:checkN N=0) (hw:∀ x∈N,x.word<4294967296) {h:Nat} (hh:h≤16) {S:Nat→Int→Pr} (hid:∀ t id,(S t id).id=id)
  (hnear:∀ t,∀ x∈N,∃ st:Int→Pr,(∀ y∈N,(st y.id).near=(S t y.id).near∨(st y.id).near=(S (t+1) y.id).near)∧(S (t+1) x.id).near=nextB N st (S t x.id) h) {T:Nat} (hR0:∀ t,T≤t→RightB N (S t) 0) :
  ∀ i,i≤h→∀ t,T+i*N.length≤t→RightB N (S t) i:=by
 intro i
 induction i with
 | zero=>intro _ t ht;exact hR0 t (by omega)
 | succ i ih =>
  intro hi t ht x hx
  have hR:=ih (by omega)
  have hne:1≤N.length:=by rcases N with _ | ⟨a,N⟩;cases hx;simp
  have hm:(i+1)*N.length=i*N.length+N.length:=by rw [Nat.add_mul,Nat.one_mul]
  -- by the number of nodes on the side
  have left:∀ r,∀ s,T+i*N.length+r+1≤s→∀ y∈N,∀ A B,grpS N i y.word=A++y::B→A.length≤r→(nearAt (S s y.id) i).1=lastI (A.filter (bitIs i 0))∧(nearAt (S s y.id) i).2.1=lastI (A.filter (bitIs i 1)):=by
   intro r
   induction r with
   | zero =>
    intro s hs y hy A B e hA
    obtain ⟨s',rfl⟩:∃ s',s=s'+1:=⟨s-1,by omega⟩
    obtain ⟨st,hst,hnx⟩:=hnear s' y hy
    rw [near_next hnx (by omega)]
    refine step_left h0 (by omega) hy (hid _ _) (hR s' (by omega) y hy) e fun A0 u he=>?_
    rw [he] at hA
    simp at hA
   | succ r ihr =>
    intro s hs y hy A B e hA
    obtain ⟨s',rfl⟩:∃ s',s=s'+1:=⟨s-1,by omega⟩
    obtain ⟨st,hst,hnx⟩:=hnear s' y hy
    rw [near_next hnx (by omega)]
    refine step_left h0 (by omega) hy (hid _ _) (hR s' (by omega) y hy) e fun A0 u he=>?_
    have hu:u∈grpS N i y.word:=by rw [e,he];simp
    have g1:grpS N i u.word=A0++u::(y::B):=by rw [grp_same hw hy hu,e,he];simp
    have g2:A0.length≤r:=by rw [he] at hA;simp at hA;omega
    rcases hst u (grp_mem.1 hu).1 with hn | hn
    ·rw [near_of hn];exact ihr s' (by omega) u (grp_mem.1 hu).1 A0 (y::B) g1 g2
    ·rw [near_of hn];exact ihr (s'+1) (by omega) u (grp_mem.1 hu).1 A0 (y::B) g1 g2
  have right:∀ r,∀ s,T+i*N.length+r+1≤s→∀ y∈N,∀ A B,grpS N i y.word=A++y::B→B.length≤r→(nearAt (S s y.id) i).2.2.1=headI (B.filter (bitIs i 0))∧(nearAt (S s y.id) i).2.2.2=headI (B.filter (bitIs i 1)):=by
   intro r
   induction r with
   | zero =>
    intro s hs y hy A B e hB
    obtain ⟨s',rfl⟩:∃ s',s=s'+1:=⟨s-1,by omega⟩
    obtain ⟨st,hst,hnx⟩:=hnear s' y hy
    rw [near_next hnx (by omega)]
    refine step_right h0 (by omega) hy (hid _ _) (hR s' (by omega) y hy) e fun u B0 he=>?_
    rw [he] at hB
    simp at hB
   | succ r ihr =>
    intro s hs y hy A B e hB
    obtain ⟨s',rfl⟩:∃ s',s=s'+1:=⟨s-1,by omega⟩
    obtain ⟨st,hst,hnx⟩:=hnear s' y hy
    rw [near_next hnx (by omega)]
    refine step_right h0 (by omega) hy (hid _ _) (hR s' (by omega) y hy) e fun u B0 he=>?_
    have hu:u∈grpS N i y.word:=by rw [e,he];simp
    have g1:grpS N i u.word=(A++[y])++u::B0:=by rw [grp_same hw hy hu,e,he];simp
    have g2:B0.length≤r:=by rw [he] at hB;simp at hB;omega
    rcases hst u (grp_mem.1 hu).1 with hn | hn
    ·rw [near_of hn];exact ihr s' (by omega) u (grp_mem.1 hu).1 (A++[y]) B0 g1 g2
    ·rw [near_of hn];exact ihr (s'+1) (by omega) u (grp_mem.1 hu).1 (A++[y]) B0 g1 g2
  obtain ⟨A,B,e⟩:=grp_at hx (h:=(i:Int)) (by unfold lvlN;simp;omega)
  have hlen:A.length+B.length+1≤N.length:=by
   have h1:(grpS N (i:Int) x.word).length≤(sortN N).length:=List.length_filter_le _ _
   rw [sortN_length,e] at h1
   simp at h1
   omega
  obtain ⟨s',rfl⟩:∃ s',t=s'+1:=⟨t-1,by omega⟩
  refine link_near h0 hw (by omega) hx (hid _ _) ?_ e (left (N.length-1) (s'+1) (by omega) x hx A B e (by omega)) (right (N.length-1) (s'+1) (by omega) x hx A B e (by omega))
  obtain ⟨st,_,hnx⟩:=hnear s' x hx
  rw [hnx]
  unfold nextB
  simp
  omega
end
end Go.Proofs.YthcholmhmcpooaaGreatDoor
