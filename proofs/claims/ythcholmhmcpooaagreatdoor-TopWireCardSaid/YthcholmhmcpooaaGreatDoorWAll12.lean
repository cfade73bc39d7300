/- Shared texts. -/
import Derived.Test.YthcholmhmcpooaaGreatDoorWAll5
set_option linter.unusedSimpArgs false
set_option linter.unusedVariables false

namespace Go.Proofs.YthcholmhmcpooaaGreatDoor
open Go.RowKit
theorem flat_set1 {α:Type} {sz:Nat} {enc:α→List Value} (hsz:∀ y,(enc y).length=sz) {c:Nat} (hc:c<sz) {y':α} {v:Value} :
  ∀ (L:List α) (j:Nat) (y:α),L[j]?=some y→enc y'=(enc y).set c v→(L.set j y').flatMap enc=(L.flatMap enc).set (j*sz+c) v
 | [],j,y,h,_=>by simp at h
 | z::r,0,y,h,hv=>by
  simp at h;subst h
  rw [List.set_cons_zero,List.flatMap_cons,List.flatMap_cons,hv,Nat.zero_mul,Nat.zero_add,List.set_append_left _ _ (by rw [hsz];exact hc)]
 | z::r,j+1,y,h,hv=>by
  rw [List.set_cons_succ,List.flatMap_cons,List.flatMap_cons,flat_set1 hsz hc r j y (by simpa using h) hv,List.set_append_right _ _ (by rw [hsz,Nat.succ_mul];omega),hsz]
  congr 2
  rw [Nat.succ_mul];omega
theorem own_set1 {α:Type} {sz:Nat} {enc:α→List Value} (hsz:∀ y,(enc y).length=sz) {e:TypeId} {base:Nat} {w:World} {g n cap j c:Nat} {L:List α} {y:α} (h:OwnL sz enc e base w (.slice (some ⟨g,0,none⟩) n cap) L)
  (hy:L[j]?=some y) (hc:c<sz):w.cell? ⟨g,j*sz+c,none⟩=(enc y)[c]?∧w.frozen? ⟨g,j*sz+c,none⟩=false ∧
   ∀ (y':α) (v:Value),enc y'=(enc y).set c v→OwnL sz enc e base (w.setCell ⟨g,j*sz+c,none⟩ v) (.slice (some ⟨g,0,none⟩) n cap) (L.set j y'):=by
 rcases h.2 with ⟨h1,_⟩ | ⟨g',cap',cur,e1,e2,e3,e4,e5,e6,e7⟩
 ·cases h1
 ·obtain ⟨rfl,hLn,rfl⟩:g=g'∧n=L.length∧cap=cap':=by simpa using e1
  have hjl:=(List.getElem?_eq_some_iff.1 hy).1
  have hlt:j*sz+c<L.length*sz:=by
   have:(j+1)*sz≤L.length*sz:=Nat.mul_le_mul_right _ hjl
   rw [Nat.succ_mul] at this;omega
  refine ⟨?_,by simp [World.frozen?,e3],fun y' v hv=>⟨?_,.inr ⟨g,cap,_,by simp [hLn],e2,heap_set e3 _ v,by simpa using e4,e5,by simpa using e6,?_⟩⟩⟩
  ·have h2:(cur.toList.take (L.length*sz))[j*sz+c]?=(enc y)[c]?:=by
    rw [e7]
    have hcy:c<(enc y).length:=by rw [hsz];exact hc
    rw [List.getElem?_eq_getElem hcy]
    exact flat_at hsz L j y hy c _ (List.getElem?_eq_getElem hcy)
   rw [List.getElem?_take,if_pos hlt] at h2
   simpa [World.cell?,e3] using h2
  ·rw [flatN_len hsz]
  ·rw [flat_set1 hsz hc L j y hy hv,← e7,List.length_set]
   simp only [Array.toList_setIfInBounds,List.take_set]
def NOk (x:Nd):Prop:=I64 x.id∧x.word<4294967296∧x.key.size≤65
theorem roster_ok {l:List Nd} (h:checkN l=0):∀ x∈l,NOk x∧1≤x.id∧x.id≤2147483647∧x.key.size≤64∧x.word<65536:=by
 intro x hx
 have hb:badN x=false:=by
  cases hb:badN x with
  | false=>rfl
  | true =>
   exfalso
   unfold checkN at h
   have:l.any badN=true:=List.any_eq_true.2 ⟨x,hx,hb⟩
   rw [this] at h
   split at h<;>simp at h
 unfold badN validN at hb
 simp at hb
 obtain ⟨⟨⟨h1,h2⟩,h3⟩,h4⟩:=hb
 exact ⟨⟨⟨by omega,by omega⟩,by omega,by omega⟩,by omega,by omega,by omega,by omega⟩
end Go.Proofs.YthcholmhmcpooaaGreatDoor
