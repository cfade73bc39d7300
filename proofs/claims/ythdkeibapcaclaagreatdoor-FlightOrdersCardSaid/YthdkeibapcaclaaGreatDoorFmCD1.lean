/- Shared texts. -/
import Derived.Test.YthdkeibapcaclaaGreatDoorFmAll23
set_option linter.unusedSimpArgs false
set_option linter.unusedVariables false

namespace Go.Proofs.YthdkeibapcaclaaGreatDoor
open Go.RowKit
section
variable {N:List Nd} {f g:Fl}
theorem norm_at (h0:checkN N=0) (hn:NormF N f) {j:Nat} {x:Nd} (hx:(sortN N)[j]?=some x):f.peers[j]?=some (peerN f.peers x.id):=by
 have key:∀ i:Nat,(f.peers[i]?).map Pr.id=((sortN N)[i]?).map Nd.id:=fun i=>by
  rw [← List.getElem?_map,← List.getElem?_map,hn]
 have hj:=key j
 rw [hx] at hj
 cases hp:f.peers[j]? with
 | none=>rw [hp] at hj;simp at hj
 | some p =>
  rw [hp] at hj
  have hid:p.id=x.id:=by simpa using hj
  rw [← hid,peer_at hp]
  intro i q hi hq
  have hqi:=key i
  rw [hq] at hqi
  cases hy:(sortN N)[i]? with
  | none=>rw [hy] at hqi;simp at hqi
  | some y =>
   rw [hy] at hqi
   have hqy:q.id=y.id:=by simpa using hqi
   rw [hqy,hid]
   obtain ⟨h1,e1⟩:=List.getElem?_eq_some_iff.1 hy
   obtain ⟨h2,e2⟩:=List.getElem?_eq_some_iff.1 hx
   have:=List.pairwise_iff_getElem.1 (sort_ids h0) i j h1 h2 hi
   rwa [e1,e2] at this
theorem ord_weak {l l':List Int} {but:Int} (h:∀ v,nodeB N v→v≠but→(v∈l↔v∈l')):ordN N l but=ordN N l' but:=by
 unfold ordN
 refine congrArg (List.map Nd.id) (List.filter_congr fun x hx=>?_)
 by_cases hb:x.id=but
 ·simp [hb]
 ·have:=h x.id ⟨x,(sortN_mem N x).1 hx,rfl⟩ hb
  rw [Bool.eq_iff_iff]
  simp only [Bool.and_eq_true,List.contains_iff_mem,this]
theorem refs_weak {p q:Pr} (hid:p.id=q.id) (h:∀ v,nodeB N v→v≠p.id→(v∈numsP p↔v∈numsP q)):refsN N p=refsN N q:=by
 unfold refsN
 split
 ·rw [← hid];exact ord_weak h
 ·rfl
end
end Go.Proofs.YthdkeibapcaclaaGreatDoor
