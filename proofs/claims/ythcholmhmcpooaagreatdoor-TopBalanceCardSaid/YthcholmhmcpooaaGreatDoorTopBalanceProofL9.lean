/- Texts for TopBalanceProof. -/
import Derived.Test.YthcholmhmcpooaaGreatDoorTopBalanceProofL6
import Derived.Test.YthcholmhmcpooaaGreatDoorTopBalanceProofL7
set_option linter.unusedSimpArgs false
set_option linter.unusedVariables false

namespace Go.Proofs.YthcholmhmcpooaaGreatDoor
open Go.RowKit
def OrdPost (l:List Nd) (w:World) (e:Ending) (w':World):Prop :=
 ∃ (v:Value) (S:List Nd),e=.returned (.tuple #[v,.bool (checkN l==0)])∧OwnL 3 encN 36 w.heap.size w' v S∧(S.Perm l∧(checkN l=0→S=sortN l))∧Ex w w'
set_option maxHeartbeats 1000000 in
theorem ordered_p (a:Option Addr) (n c:Nat) (l:List Nd) (w:World) (h:Sl 3 encN w a n l) (hn:n≤1000) (hc:n≤c) (hm:c≤maxLen) :
  Calls Tryz.prog 108 #[.slice a n c] w (OrdPost l w):=by
 go_enter Tryz.func108,Tryz.ntmps108
 go_wp2_with fail
 (with_reducible refine (sort_p _ _ _ _ _ h hn).mono ?_)
 rintro e w1 ⟨v,S,rfl,own1,⟨hp,ha⟩,k1⟩
 have h1:=h.nx k1
 have O1:=lH own1
 have HP:=lH hp
 have HA:=lH ha
 have K1:=lH k1
 clear h own1 hp ha k1
 go_wp2_with fail
 (with_reducible refine (check_p _ _ _ _ _ h1 (by omega) hc hm).mono ?_)
 rintro e w2 ⟨rfl,k2⟩
 have O2:=lH (O1.out.nx k2)
 have K2:=lH (K1.out.nx k2)
 clear h1 k2
 go_wp2_with fail
 go_ret2
 exact ⟨v,S,rfl,O2.out,⟨HP.out,fun h0=>sortN_unique (check_keys h0) HP.out HA.out⟩,K2.out⟩
def nbStep (x:Nd) (s:Int×Int) (y:Nd):Int×Int :=
 (if Op.bytesLess y.key.toList x.key.toList then y.id else s.1,if !(Op.bytesLess y.key.toList x.key.toList||y.key.toList==x.key.toList)&&s.2==0 then y.id else s.2)
def nbFold (x:Nd) (G:List Nd):Int×Int:=G.foldl (nbStep x) (0,0)
theorem nbFold_snoc (x:Nd) (G:List Nd) (k:Nat) (y:Nd) (hy:G[k]?=some y):nbFold x (G.take (k+1))=nbStep x (nbFold x (G.take k)) y:=by
 unfold nbFold
 rw [take_snocN G k y hy,List.foldl_append]
 rfl
def AscS (l:List Nd):Prop:=l.Pairwise fun x y=>Op.bytesLess x.key.toList y.key.toList=true∧x.id≠y.id
theorem keys_pw {l:List Nd} (h:KeysN l):l.Pairwise fun x y=>x.key.toList≠y.key.toList∧x.id≠y.id:=by
 rw [List.pairwise_iff_getElem]
 intro i j hi hj hij
 have:=h j i l[j] l[i] hij (List.getElem?_eq_getElem hj) (List.getElem?_eq_getElem hi)
 refine ⟨fun he=>this.1 ?_,fun he=>this.2 he.symm⟩
 rw [ByteArray.toList_eq,ByteArray.toList_eq] at he
 exact (ByteArray.ext (Array.toList_inj.1 he)).symm
theorem sortN_str {l:List Nd} (h:checkN l=0):AscS (sortN l):=by
 have h1:(sortN l).Pairwise fun x y=>x.key.toList≠y.key.toList∧x.id≠y.id :=
  ((sortN_perm l).symm.pairwise_iff (fun {x y} hxy=>⟨fun he=>hxy.1 he.symm,fun he=>hxy.2 he.symm⟩)).1 (keys_pw (check_keys h))
 have h2:=sortN_asc l
 unfold AscN at h2
 unfold AscS
 refine (h1.and h2).imp ?_
 rintro x y ⟨⟨a,b⟩,c⟩
 rw [ltN_no] at c
 rcases c with c | ⟨c,_⟩
 ·exact ⟨c,b⟩
 ·exact absurd c.symm a
theorem asc_group {l:List Nd} (h:AscS l) (lev:Int) (v:Nat):AscS (groupN l lev v):=List.Pairwise.filter _ h
theorem asc_at {G:List Nd} (h:AscS G) {i j:Nat} {x y:Nd} (hx:G[i]?=some x) (hy:G[j]?=some y) (hij:i<j):Op.bytesLess x.key.toList y.key.toList=true∧x.id≠y.id:=by
 obtain ⟨hi,e1⟩:=List.getElem?_eq_some_iff.1 hx
 obtain ⟨hj,e2⟩:=List.getElem?_eq_some_iff.1 hy
 have:=List.pairwise_iff_getElem.1 h i j hi hj hij
 rwa [e1,e2] at this
theorem idxI_at {G:List Nd} (h:AscS G) {i:Nat} {x:Nd} (hx:G[i]?=some x):idxI G x.id=i:=by
 refine idxI_of hx rfl fun j z hj hz=>?_
 exact (asc_at h hz hx hj).2
theorem step_less {x y:Nd} {s:Int×Int} (h:Op.bytesLess y.key.toList x.key.toList=true):nbStep x s y=(y.id,s.2):=by unfold nbStep;rw [h];rfl
theorem step_same (x:Nd) (s:Int×Int):nbStep x s x=s:=by unfold nbStep;simp [bytesLess_irrefl]
theorem step_more {x y:Nd} {s:Int×Int} (h:Op.bytesLess x.key.toList y.key.toList=true):nbStep x s y=(s.1,if s.2=0 then y.id else s.2):=by
 have h1:=bl_asymm h
 have h2:(y.key.toList==x.key.toList)=false:=by
  rw [beq_eq_false_iff_ne]
  intro he
  rw [he,bytesLess_irrefl] at h
  cases h
 unfold nbStep
 rw [h1,h2]
 simp
theorem nbFold_a {G:List Nd} (h:AscS G) {i:Nat} {x:Nd} (hx:G[i]?=some x):∀ k,k≤i→nbFold x (G.take k)=(leftN G k,0):=by
 intro k
 induction k with
 | zero=>intro _;rfl
 | succ k ih =>
  intro hk
  have hl:=(List.getElem?_eq_some_iff.1 hx).1
  obtain ⟨y,hy⟩:∃ y,G[k]?=some y:=⟨G[k],List.getElem?_eq_getElem (by omega)⟩
  rw [nbFold_snoc x G k y hy,ih (by omega),step_less (asc_at h hy hx (by omega)).1]
  show ((y.id,0):Int×Int)=(leftN G (k+1),0)
  unfold leftN
  rw [if_neg (by omega),Nat.add_sub_cancel,hy]
  rfl
theorem nbFold_b {G:List Nd} (h:AscS G) {i:Nat} {x:Nd} (hx:G[i]?=some x):nbFold x (G.take (i+1))=(leftN G i,0):=by
 rw [nbFold_snoc x G i x hx,nbFold_a h hx i (Nat.le_refl _),step_same]
theorem nbFold_c {G:List Nd} (h:AscS G) (hid:∀ y∈G,1≤y.id) {i:Nat} {x:Nd} (hx:G[i]?=some x):∀ d,i+2+d≤G.length→nbFold x (G.take (i+2+d))=(leftN G i,rightN G i):=by
 intro d hd
 have hd0:i+1<G.length:=by omega
 obtain ⟨z,hz⟩:∃ z,G[i+1]?=some z:=⟨G[i+1],List.getElem?_eq_getElem hd0⟩
 have hz1:=hid z (List.mem_of_getElem? hz)
 have hr:rightN G i=z.id:=by unfold rightN;rw [hz];rfl
 induction d with
 | zero =>
  rw [Nat.add_zero,show i+2=i+1+1 from rfl,nbFold_snoc x G (i+1) z hz,nbFold_b h hx,step_more (asc_at h hx hz (by omega)).1,hr]
  rfl
 | succ d ih =>
  obtain ⟨y,hy⟩:∃ y,G[i+2+d]?=some y:=⟨G[i+2+d]'(by omega),List.getElem?_eq_getElem (by omega)⟩
  rw [← Nat.add_assoc,nbFold_snoc x G (i+2+d) y hy,ih (by omega),step_more (asc_at h hx hy (by omega)).1]
  show (leftN G i,if rightN G i=0 then y.id else rightN G i)=_
  rw [if_neg (by rw [hr];omega)]
theorem nbFold_all {G:List Nd} (h:AscS G) (hid:∀ y∈G,1≤y.id) {i:Nat} {x:Nd} (hx:G[i]?=some x):nbFold x G=(leftN G i,rightN G i):=by
 have hl:=(List.getElem?_eq_some_iff.1 hx).1
 rcases Nat.lt_or_ge (i+1) G.length with h1 | h1
 ·have:=nbFold_c h hid hx (G.length-(i+2)) (by omega)
  rwa [show i+2+(G.length-(i+2))=G.length by omega,List.take_length] at this
 ·have:=nbFold_b h hx
  rw [show i+1=G.length by omega,List.take_length] at this
  rw [this]
  have:rightN G i=0:=by unfold rightN;rw [List.getElem?_eq_none h1];rfl
  rw [this]
theorem neighN_no {l:List Nd} {id h:Int} (hno:checkN l≠0∨(findN l id).2=false∨lvlN h=false):neighN l id h=((0,0),false):=by
 have ht:throughN l id h=([],0,false):=by
  unfold throughN
  rw [if_neg]
  rintro ⟨h1,h2,h3,_⟩
  rcases hno with h | h | h
  ·exact h (by simpa using h2)
  ·rw [h1] at h;cases h
  ·rw [h3] at h;cases h
 unfold neighN
 rw [ht]
 rfl
theorem findN_mem {l:List Nd} {id:Int} (h:(findN l id).2=true):(findN l id).1∈l∧(findN l id).1.id=id:=by
 unfold findN at *
 cases e:l.find? (fun x=>x.id==id) with
 | none=>rw [e] at h;cases h
 | some x =>
  exact ⟨List.mem_of_find?_eq_some e,by simpa using List.find?_some e⟩
theorem neighN_yes {l:List Nd} {id h:Int} (h1:checkN l=0) (h2:(findN l id).2=true) (h3:lvlN h=true) :
  ∃ i,(thrG l id h)[i]?=some (findN l id).1∧throughN l id h=(thrG l id h,i,true)∧neighN l id h=((leftN (thrG l id h) i,rightN (thrG l id h) i),true):=by
 obtain ⟨m1,m2⟩:=findN_mem h2
 have hA:AscS (thrG l id h):=asc_group (sortN_str h1) h _
 have hm:(findN l id).1∈thrG l id h:=by
  unfold thrG groupN
  rw [List.mem_filter]
  exact ⟨(sortN_mem l _).2 m1,sameN_refl _ (by unfold lvlN at h3;simp at h3;exact h3.2)⟩
 obtain ⟨i,hi⟩:=List.mem_iff_getElem?.1 hm
 have hid:=idxI_at hA hi
 rw [m2] at hid
 have hlt:=(List.getElem?_eq_some_iff.1 hi).1
 have ht:throughN l id h=(thrG l id h,i,true):=by
  unfold throughN
  rw [if_pos ⟨h2,by rw [h1];rfl,h3,by rw [hid];exact hlt⟩,hid]
 refine ⟨i,hi,ht,?_⟩
 unfold neighN
 rw [ht]
 rfl
theorem nbFold_neigh {l:List Nd} {id h:Int} (h1:checkN l=0) (h2:(findN l id).2=true) (h3:lvlN h=true):neighN l id h=(nbFold (findN l id).1 (thrG l id h),true):=by
 obtain ⟨i,hi,_,hn⟩:=neighN_yes h1 h2 h3
 have hA:AscS (thrG l id h):=asc_group (sortN_str h1) h _
 have hid:∀ y∈thrG l id h,1≤y.id:=fun y hy=>by
  unfold thrG groupN at hy
  have:=(sortN_mem l y).1 (List.mem_filter.1 hy).1
  unfold checkN at h1
  split at h1
  ·omega
  ·split at h1
   ·omega
   ·rename_i hb
    have hb:badN y=false:=by
     cases hy2:badN y with
     | false=>rfl
     | true=>exact absurd (List.any_eq_true.2 ⟨y,this,hy2⟩) hb
    unfold badN at hb
    simp only [Bool.or_eq_false_iff,decide_eq_false_iff_not] at hb
    omega
 rw [hn,nbFold_all hA hid hi]
end Go.Proofs.YthcholmhmcpooaaGreatDoor
