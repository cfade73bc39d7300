/- Shared texts. -/
import Derived.Shelf.Spec.SlicesInsertGrow
import Derived.Lib.SliceRun
import Derived.Test.YtalmjklljofhbaaGreatDoorSxAll3
import Derived.Test.YtalmjklljofhbaaGreatDoorSxAll7
set_option linter.unusedSimpArgs false
set_option linter.unusedVariables false

namespace Go.Proofs.YtalmjklljofhbaaGreatDoor
open Go.RowKit Go.Shelf
def arrSet:Array Value→Nat→List Value→Array Value
 | a,_,[]=>a
 | a,o,v::vs=>arrSet (a.setIfInBounds o v) (o+1) vs
theorem arrSet_size:∀ (vs:List Value) (a:Array Value) (o:Nat),(arrSet a o vs).size=a.size
 | [],_,_=>rfl
 | v::vs,a,o=>by
  show (arrSet (a.setIfInBounds o v) (o+1) vs).size=a.size
  rw [arrSet_size vs];simp
theorem arrSet_list:∀ (vs:List Value) (a:Array Value) (o:Nat),o+vs.length≤a.size→(arrSet a o vs).toList=a.toList.take o++vs++a.toList.drop (o+vs.length)
 | [],a,o,_=>by simp [arrSet]
 | v::vs,a,o,h=>by
  show (arrSet (a.setIfInBounds o v) (o+1) vs).toList=_
  simp only [List.length_cons] at h
  rw [arrSet_list vs _ _ (by simp;omega),Array.toList_setIfInBounds,List.take_set,List.drop_set_of_lt (by omega),List.take_succ_eq_append_getElem (by simp;omega),
   List.set_append_right _ _ (by simp;omega)]
  have:(a.toList.take o).length=o:=by simp;omega
  rw [this,Nat.sub_self,List.set_cons_zero,List.length_cons,show o+1+vs.length=o+(vs.length+1) by omega]
  simp
theorem heap_setCells {g:Nat} {ty:TypeId}:∀ (vs:List Value) (w:World) (cur:Array Value) (o:Nat),w.heap[g]?=some (.cells cur ty (0,0))→(w.setCells g o vs).heap[g]?=some (.cells (arrSet cur o vs) ty (0,0))
 | [],_,_,_,h=>h
 | v::vs,w,cur,o,h=>heap_setCells vs (w.setCell ⟨g,o,none⟩ v) (cur.setIfInBounds o v) (o+1) (heap_set h o v)
end Go.Proofs.YtalmjklljofhbaaGreatDoor
