/- Texts for FlightStepsProof. -/
import Derived.Test.YtalmjklljofhbaaGreatDoorFlightStepsProofL14
import Derived.Test.YtalmjklljofhbaaGreatDoorFlightStepsProofL15
set_option linter.unusedSimpArgs false
set_option linter.unusedVariables false

namespace Go.Proofs.YtalmjklljofhbaaGreatDoor
open Go.RowKit
def DirN (key:List UInt8) (right:Bool) (x y:Nd):Prop:=if right then Op.bytesLess x.key.toList y.key.toList=true∧Op.bytesLess key y.key.toList=false else Op.bytesLess y.key.toList x.key.toList=true∧Op.bytesLess key y.key.toList=true
def HopsOk (N:List Nd) (key:List UInt8) (right:Bool) (x':Nd):Nd→Nat→List Hop→Prop
 | x,_,[]=>x=x'
 | x,lev,h::hs=>∃ (y:Nd) (lev':Nat),y∈N∧h=(x.id,y.id,(lev':Int))∧lev'≤lev∧DirN key right x y∧HopsOk N key right x' y lev' hs
variable {N:List Nd} {L:List Lkd} {key:List UInt8} {right:Bool}
theorem HopsOk.mono {x':Nd}:∀ {hs:List Hop} {x:Nd} {lev lev2:Nat},HopsOk N key right x' x lev hs→lev≤lev2→HopsOk N key right x' x lev2 hs
 | [],_,_,_,h,_=>h
 | _::_,_,_,_,⟨y,l',h1,h2,h3,h4,h5⟩,hl=>⟨y,l',h1,h2,by omega,h4,h5⟩
theorem HopsOk.len {x':Nd}:∀ {hs:List Hop} {x:Nd} {lev:Nat},HopsOk N key right x' x lev hs→hs.length+bey N right x'≤bey N right x
 | [],_,_,h=>by rw [← show _=x' from h];simp
 | _::hs,x,_,⟨y,l',h1,h2,h3,h4,h5⟩=>by
  have:=h5.len
  have hlt:bey N right y<bey N right x:=by
   unfold bey
   cases right with
   | true =>
    unfold DirN at h4
    rw [if_pos rfl] at h4
    refine count_lt h1 (fun z hz=>?_) ?_ ?_
    ·rw [if_pos rfl] at hz ⊢;exact bl_trans h4.1 hz
    ·rw [if_pos rfl];exact h4.1
    ·rw [if_pos rfl];exact bytesLess_irrefl _
   | false =>
    unfold DirN at h4
    rw [if_neg (by simp)] at h4
    refine count_lt h1 (fun z hz=>?_) ?_ ?_
    ·rw [if_neg (by simp)] at hz ⊢;exact bl_trans hz h4.1
    ·rw [if_neg (by simp)];exact h4.1
    ·rw [if_neg (by simp)];exact bytesLess_irrefl _
  simp only [List.length_cons]
  omega
theorem HopsOk.mem {x':Nd}:∀ {hs:List Hop} {x:Nd} {lev:Nat},HopsOk N key right x' x lev hs→x∈N→x'∈N
 | [],_,_,h,hx=>by rw [← show _=x' from h];exact hx
 | _::_,_,_,⟨_,_,h1,_,_,_,h5⟩,_=>h5.mem h1
def RouteOk (N:List Nd) (key:List UInt8) (right:Bool):Nd→Nat→List Hop→Prop
 | _,_,[]=>True
 | x,lev,h::hs=>∃ (y:Nd) (lev':Nat),y∈N∧h=(x.id,y.id,(lev':Int))∧lev'≤lev ∧
   (DirN key right x y∨(right=false∧hs=[]∧lev'=0∧Op.bytesLess key y.key.toList=false∧Op.bytesLess y.key.toList x.key.toList=true))∧RouteOk N key right y lev' hs
theorem HopsOk.snoc {x' y:Nd} (hy:y∈N) (hr:right=false) (h1:Op.bytesLess key y.key.toList=false) (h2:Op.bytesLess y.key.toList x'.key.toList=true):∀ {hs:List Hop} {x:Nd} {lev:Nat},HopsOk N key right x' x lev hs→RouteOk N key right x lev (hs++[(x'.id,y.id,0)])
 | [],x,lev,h=>by
  have h:x=x':=h
  subst h
  exact ⟨y,0,hy,rfl,by omega,.inr ⟨hr,rfl,rfl,h1,h2⟩,trivial⟩
 | _::_,_,_,⟨z,l',g1,g2,g3,g4,g5⟩=>⟨z,l',g1,g2,g3,.inl g4,g5.snoc hy hr h1 h2⟩
end Go.Proofs.YtalmjklljofhbaaGreatDoor
