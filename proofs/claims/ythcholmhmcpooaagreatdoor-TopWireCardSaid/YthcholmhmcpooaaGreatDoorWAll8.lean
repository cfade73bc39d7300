/- Shared texts. -/
import Derived.Shelf.GgSortFunc.SmallK
import Derived.Test.YthcholmhmcpooaaGreatDoorWAll3
import Derived.Test.YthcholmhmcpooaaGreatDoorWAll5
set_option linter.unusedSimpArgs false
set_option linter.unusedVariables false

namespace Go.Proofs.YthcholmhmcpooaaGreatDoor
open Go.RowKit
def AscS (l:List Nd):Prop:=l.Pairwise fun x y=>Op.bytesLess x.key.toList y.key.toList=true∧x.id≠y.id
theorem keys_pw {l:List Nd} (h:KeysN l):l.Pairwise fun x y=>x.key.toList≠y.key.toList∧x.id≠y.id:=by
 rw [List.pairwise_iff_getElem]
 intro i j hi hj hij
 have:=h j i l[j] l[i] hij (List.getElem?_eq_getElem hj) (List.getElem?_eq_getElem hi)
 refine ⟨fun he=>this.1 ?_,fun he=>this.2 he.symm⟩
 rw [ByteArray.toList_eq,ByteArray.toList_eq] at he
 exact (ByteArray.ext (Array.toList_inj.1 he)).symm
theorem sortN_str {l:List Nd} (h:checkN l=0):AscS (sortN l):=by
 have h1:(sortN l).Pairwise fun x y=>x.key.toList≠y.key.toList∧x.id≠y.id :=
  ((sortN_perm l).symm.pairwise_iff (fun {x y} hxy=>⟨fun he=>hxy.1 he.symm,fun he=>hxy.2 he.symm⟩)).1 (keys_pw (check_keys h))
 have h2:=sortN_asc l
 unfold AscN at h2
 unfold AscS
 refine (h1.and h2).imp ?_
 rintro x y ⟨⟨a,b⟩,c⟩
 rw [ltN_no] at c
 rcases c with c | ⟨c,_⟩
 ·exact ⟨c,b⟩
 ·exact absurd c.symm a
theorem asc_group {l:List Nd} (h:AscS l) (lev:Int) (v:Nat):AscS (groupN l lev v):=List.Pairwise.filter _ h
theorem asc_at {G:List Nd} (h:AscS G) {i j:Nat} {x y:Nd} (hx:G[i]?=some x) (hy:G[j]?=some y) (hij:i<j):Op.bytesLess x.key.toList y.key.toList=true∧x.id≠y.id:=by
 obtain ⟨hi,e1⟩:=List.getElem?_eq_some_iff.1 hx
 obtain ⟨hj,e2⟩:=List.getElem?_eq_some_iff.1 hy
 have:=List.pairwise_iff_getElem.1 h i j hi hj hij
 rwa [e1,e2] at this
theorem idxI_at {G:List Nd} (h:AscS G) {i:Nat} {x:Nd} (hx:G[i]?=some x):idxI G x.id=i:=by
 refine idxI_of hx rfl fun j z hj hz=>?_
 exact (asc_at h hz hx hj).2
theorem findN_mem {l:List Nd} {id:Int} (h:(findN l id).2=true):(findN l id).1∈l∧(findN l id).1.id=id:=by
 unfold findN at *
 cases e:l.find? (fun x=>x.id==id) with
 | none=>rw [e] at h;cases h
 | some x =>
  exact ⟨List.mem_of_find?_eq_some e,by simpa using List.find?_some e⟩
theorem neighN_yes {l:List Nd} {id h:Int} (h1:checkN l=0) (h2:(findN l id).2=true) (h3:lvlN h=true) :
  ∃ i,(thrG l id h)[i]?=some (findN l id).1∧throughN l id h=(thrG l id h,i,true)∧neighN l id h=((leftN (thrG l id h) i,rightN (thrG l id h) i),true):=by
 obtain ⟨m1,m2⟩:=findN_mem h2
 have hA:AscS (thrG l id h):=asc_group (sortN_str h1) h _
 have hm:(findN l id).1∈thrG l id h:=by
  unfold thrG groupN
  rw [List.mem_filter]
  exact ⟨(sortN_mem l _).2 m1,sameN_refl _ (by unfold lvlN at h3;simp at h3;exact h3.2)⟩
 obtain ⟨i,hi⟩:=List.mem_iff_getElem?.1 hm
 have hid:=idxI_at hA hi
 rw [m2] at hid
 have hlt:=(List.getElem?_eq_some_iff.1 hi).1
 have ht:throughN l id h=(thrG l id h,i,true):=by
  unfold throughN
  rw [if_pos ⟨h2,by rw [h1];rfl,h3,by rw [hid];exact hlt⟩,hid]
 refine ⟨i,hi,ht,?_⟩
 unfold neighN
 rw [ht]
 rfl
end Go.Proofs.YthcholmhmcpooaaGreatDoor
