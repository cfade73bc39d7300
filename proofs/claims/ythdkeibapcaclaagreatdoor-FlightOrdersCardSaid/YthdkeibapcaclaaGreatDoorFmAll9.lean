/- Shared texts. -/
import Derived.Test.YthdkeibapcaclaaGreatDoorFmAll3
set_option linter.unusedSimpArgs false
set_option linter.unusedVariables false

namespace Go.Proofs.YthdkeibapcaclaaGreatDoor
open Go.RowKit
def idxI (g:List Nd) (id:Int):Nat:=g.findIdx fun x=>x.id==id
theorem idxI_of {g:List Nd} {id:Int} {k:Nat} {y:Nd} (hy:g[k]?=some y) (he:y.id=id) (hno:∀ j z,j<k→g[j]?=some z→z.id≠id):idxI g id=k:=by
 have hk:=(List.getElem?_eq_some_iff.1 hy).1
 have hv:=(List.getElem?_eq_some_iff.1 hy).2
 rw [idxI,List.findIdx_eq hk]
 refine ⟨by rw [hv];simpa using he,fun j hj=>?_⟩
 have:=hno j _ hj (List.getElem?_eq_getElem (by omega))
 simpa using this
def thrG (l:List Nd) (id:Int) (h:Int):List Nd:=groupN (sortN l) h (findN l id).1.word
def throughN (l:List Nd) (id:Int) (h:Int):List Nd×Nat×Bool :=
 if (findN l id).2=true∧(checkN l==0)=true∧lvlN h=true∧idxI (thrG l id h) id<(thrG l id h).length then (thrG l id h,idxI (thrG l id h) id,true) else ([],0,false)
def leftN (g:List Nd) (i:Nat):Int:=if i=0 then 0 else (g[i-1]?.getD Nd.zero).id
def rightN (g:List Nd) (i:Nat):Int:=(g[i+1]?.getD Nd.zero).id
def neighN (l:List Nd) (id:Int) (h:Int):(Int×Int)×Bool :=
 if (throughN l id h).2.2 then ((leftN (throughN l id h).1 (throughN l id h).2.1,rightN (throughN l id h).1 (throughN l id h).2.1),true) else ((0,0),false)
abbrev Lkd:=Int×List (Int×Int)
theorem OwnN.base {A β:Type} {encA:A→List Value} {s1 s2:Nat} {encB:β→List Value} {e1 e2:TypeId} {base base':Nat} {w:World} {v:Value} {qs:List (A×Hdr)} {L:List (A×List β)}
  (h:OwnN encA s1 s2 encB e1 e2 base w v qs L) (hb:base'≤base):OwnN encA s1 s2 encB e1 e2 base' w v qs L :=
 ⟨h.1.lower hb,h.2.1,fun j q c hq hc=>⟨(h.2.2.1 j q c hq hc).1,(h.2.2.1 j q c hq hc).2.base hb⟩,h.2.2.2⟩
end Go.Proofs.YthdkeibapcaclaaGreatDoor
