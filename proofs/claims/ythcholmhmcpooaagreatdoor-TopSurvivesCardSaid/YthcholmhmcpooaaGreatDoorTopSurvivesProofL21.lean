/- Texts for TopSurvivesProof. -/
import Derived.Test.YthcholmhmcpooaaGreatDoorTopSurvivesProofL19
import Derived.Test.YthcholmhmcpooaaGreatDoorTopSurvivesProofL20
set_option linter.unusedSimpArgs false
set_option linter.unusedVariables false

namespace Go.Proofs.YthcholmhmcpooaaGreatDoor
open Go.RowKit
section
variable {N:List Nd}
theorem pair_congr {own nb:Int} {lev:Nat} {z1 o1 z2 o2:Int} (h:(findN N nb).2=true→z1=z2∧o1=o2):pairB N own nb lev z1 o1=pairB N own nb lev z2 o2:=by
 unfold pairB
 split
 ·rename_i hf
  rw [(h hf).1,(h hf).2]
 ·rfl
theorem step_congr {st st':Int→Pr} (h:∀ x∈N,st x.id=st' x.id) (p:Pr) (i:Nat):stepB N st p i=stepB N st' p i:=by
 have hf:∀ nb,(findN N nb).2=true→st nb=st' nb:=fun nb hb=>by
  obtain ⟨m1,m2⟩:=findN_mem hb
  have:=h _ m1
  rwa [m2] at this
 have e1:=pair_congr (N:=N) (own:=p.id) (nb:=(linkB N p i).1) (lev:=i) (z1:=(nearAt (st (linkB N p i).1) i).1) (o1:=(nearAt (st (linkB N p i).1) i).2.1) (z2:=(nearAt (st' (linkB N p i).1) i).1) (o2:=(nearAt (st' (linkB N p i).1) i).2.1)
  (fun hb=>by rw [hf _ hb];exact ⟨rfl,rfl⟩)
 have e2:=pair_congr (N:=N) (own:=p.id) (nb:=(linkB N p i).2) (lev:=i) (z1:=(nearAt (st (linkB N p i).2) i).2.2.1) (o1:=(nearAt (st (linkB N p i).2) i).2.2.2) (z2:=(nearAt (st' (linkB N p i).2) i).2.2.1) (o2:=(nearAt (st' (linkB N p i).2) i).2.2.2)
  (fun hb=>by rw [hf _ hb];exact ⟨rfl,rfl⟩)
 unfold stepB
 rw [e1,e2]
theorem next_congr {st st':Int→Pr} (h:∀ x∈N,st x.id=st' x.id) (p:Pr) (k:Nat):nextB N st p k=nextB N st' p k:=by
 unfold nextB
 exact List.map_congr_left fun i _=>step_congr h p i
theorem right_zero (h0:checkN N=0) {P:List Pr} (he:exactL N P):RightB N (peerN P) 0:=by
 intro x hx
 have hpid:=peer_id P x.id
 obtain ⟨A,B,e⟩:=grp_at hx (h:=((0:Nat):Int)) rfl
 obtain ⟨hA,hB⟩:=grp_parts h0 e
 have hn:=neigh_split h0 hx (h:=((0:Nat):Int)) rfl e
 have hx2:=he.2 x hx
 rw [hn] at hx2 ⊢
 simp only [Prod.mk.injEq] at hx2
 unfold linkB
 rw [hpid,find_in h0 hx,if_pos ⟨rfl,h0,rfl,by omega⟩,if_pos (show ((0:Nat):Int)=0 from rfl)]
 simp only
 rw [hx2.1,hx2.2,other_last h0 hA,other_head h0 hB]
theorem links_build (h0:checkN N=0) {h:Nat} (hh:h≤16) {P:List Pr} (hR:∀ i,i≤h→RightB N (peerN P) i):linksB N P (h:Int)=(buildN N (h:Int)).1:=by
 unfold linksB buildN normalN
 have hlv:lvlN (h:Int)=true:=by unfold lvlN;simp;omega
 rw [if_pos hlv,if_pos h0,if_neg (show ¬ (checkN N==0)=false by rw [h0];simp),if_neg (show ¬ lvlN (h:Int)=false by rw [hlv];simp),List.map_map]
 refine List.map_congr_left fun x hx=>?_
 have hxN:=(sortN_mem N x).1 hx
 have h0s:checkN (sortN N)=0:=check_perm (sortN_perm N) h0
 show ((peerN P x.id).id,_)=rowN (sortN N) _ x
 unfold rowN
 rw [peer_id,show ((h:Int)).toNat=h by omega]
 congr 1
 refine List.map_congr_left fun i hi=>?_
 have hi:i<h+1:=by simpa using hi
 rw [hR i (by omega) x hxN]
 have hlv:lvlN (i:Int)=true:=by unfold lvlN;simp;omega
 obtain ⟨A,B,e⟩:=grp_at hxN hlv
 have es:grpS (sortN N) i x.word=A++x::B:=by
  unfold grpS at e ⊢
  rw [sort_perm (sortN_perm N) h0];exact e
 rw [neigh_split h0 hxN hlv e,neigh_split h0s hx hlv es]
theorem exact_yes (h0:checkN N=0) {h:Nat} (hh:h≤16) {P:List Pr} (hR:∀ i,i≤h→RightB N (peerN P) i):exactB N P (h:Int)=true:=by
 unfold exactB
 rw [links_build h0 hh hR,(build_ok0 h0 hh).1]
 simp
theorem reach_lawA (hw:∀ x∈N,x.word<4294967296) {h:Nat} (hh:h≤16) {P:Nat→List Pr} (hc:ConnN N (P 0)) (hk:∀ t,∀ a∈N,∀ v∈(peerN (roundN N (P t)) a.id).known,v∈(peerN (P (t+1)) a.id).known)
  (hlr:∀ t,∀ a∈N,((peerN (P (t+1)) a.id).left,(peerN (P (t+1)) a.id).right)=keepN N (peerN (P t) a.id))
  (hnear:∀ t,∀ a∈N,∃ st:Int→Pr,(∀ y∈N,(st y.id).near=(peerN (P t) y.id).near∨(st y.id).near=(peerN (P (t+1)) y.id).near)∧(peerN (P (t+1)) a.id).near=nextB N st (peerN (P t) a.id) h) :
  ∀ t,N.length*(h+1)≤t→exactB N (P t) (h:Int)=true:=by
 intro t ht
 have h0:=hc.1
 refine exact_yes h0 hh fun i hi=>?_
 refine climbA h0 hw hh (S:=fun t=>peerN (P t)) (fun t id=>peer_id _ _) (fun t x hx=>hnear t x hx) (T:=N.length) (fun t ht=>right_zero h0 (sort_law hc hk hlr t ht)) i hi t ?_
 have h1:N.length*(i+1)≤N.length*(h+1):=Nat.mul_le_mul_left _ (by omega)
 rw [Nat.mul_add,Nat.mul_one,Nat.mul_comm] at h1
 omega
def rRoundN (N:List Nd) (P:List Pr) (h:Int):List Pr:=if lvlN h=true then ((roundN N P).zip (bRoundN N P h)).map fun q=>{ q.1 with near:=q.2.near } else []
def rRunsN (N:List Nd) (P:List Pr) (h:Int):Nat→List Pr
 | 0=>P
 | t+1=>rRoundN N (rRunsN N P h t) h
def nearG (N:List Nd) (x:Nd) (i:Nat):Nr :=
 (lastI (((grpS N i x.word).takeWhile fun y=>!(y.id==x.id)).filter (bitIs i 0)),lastI (((grpS N i x.word).takeWhile fun y=>!(y.id==x.id)).filter (bitIs i 1)),
  headI ((((grpS N i x.word).dropWhile fun y=>!(y.id==x.id)).drop 1).filter (bitIs i 0)),headI ((((grpS N i x.word).dropWhile fun y=>!(y.id==x.id)).drop 1).filter (bitIs i 1)))
theorem nearG_at (h0:checkN N=0) {x:Nd} {i:Nat} {A B:List Nd} (e:grpS N i x.word=A++x::B):nearG N x i=(lastI (A.filter (bitIs i 0)),lastI (A.filter (bitIs i 1)),headI (B.filter (bitIs i 0)),headI (B.filter (bitIs i 1))):=by
 obtain ⟨hA,_⟩:=grp_parts h0 e
 have h1:(A++x::B).takeWhile (fun y=>!(y.id==x.id))=A:=by
  rw [List.takeWhile_append_of_pos (fun y hy=>by simpa using (hA y hy).2),List.takeWhile_cons_of_neg (by simp),List.append_nil]
 have h2:(A++x::B).dropWhile (fun y=>!(y.id==x.id))=x::B:=by
  rw [List.dropWhile_append_of_pos (fun y hy=>by simpa using (hA y hy).2),List.dropWhile_cons_of_neg (by simp)]
 unfold nearG
 rw [e,h1,h2]
 rfl
end
end Go.Proofs.YthcholmhmcpooaaGreatDoor
