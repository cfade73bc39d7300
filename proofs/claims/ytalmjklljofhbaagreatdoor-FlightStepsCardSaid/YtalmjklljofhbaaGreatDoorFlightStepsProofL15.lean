/- Texts for FlightStepsProof. -/
import Derived.Test.YtalmjklljofhbaaGreatDoorFlightStepsProofL9
import Derived.Test.YtalmjklljofhbaaGreatDoorFlightStepsProofL13
set_option linter.unusedSimpArgs false
set_option linter.unusedVariables false

namespace Go.Proofs.YtalmjklljofhbaaGreatDoor
open Go.RowKit
abbrev Hop:=Int×Int×Int
def atL (L:List Lkd) (id lev:Int):Int×Int:=match L.find? (fun c=>c.1==id) with | some c=>if lev<0 then (0,0) else c.2[lev.toNat]?.getD (0,0) | none=>(0,0)
def hopN (N:List Nd) (L:List Lkd) (key:List UInt8) (right:Bool) (x:Nd) (lev:Nat):Option Nd :=
 if right then (if (findN N (atL L x.id lev).2).2&&(Op.bytesLess x.key.toList (findN N (atL L x.id lev).2).1.key.toList&&!Op.bytesLess key (findN N (atL L x.id lev).2).1.key.toList) then some (findN N (atL L x.id lev).2).1 else none)
 else (if (findN N (atL L x.id lev).1).2&&(Op.bytesLess (findN N (atL L x.id lev).1).1.key.toList x.key.toList&&Op.bytesLess key (findN N (atL L x.id lev).1).1.key.toList) then some (findN N (atL L x.id lev).1).1 else none)
def rtF (N:List Nd) (L:List Lkd) (key:List UInt8) (right:Bool):Nat→Nd→Nat→List Hop→Nd×List Hop
 | 0,x,_,out=>(x,out)
 | _+1,x,0,out=>(x,out)
 | f+1,x,lev+1,out =>
  match hopN N L key right x lev with
  | some y=>rtF N L key right f y (lev+1) (out++[(x.id,y.id,(lev:Int))])
  | none=>rtF N L key right f x lev out
def bey (N:List Nd) (right:Bool) (x:Nd):Nat:=N.countP fun z=>if right then Op.bytesLess x.key.toList z.key.toList else Op.bytesLess z.key.toList x.key.toList
def measR (N:List Nd) (right:Bool) (x:Nd) (lev:Nat):Nat:=lev*(N.length+1)+bey N right x
variable {N:List Nd} {L:List Lkd} {key:List UInt8} {right:Bool}
theorem hop_mem {x y:Nd} {lev:Nat} (h:hopN N L key right x lev=some y):y∈N ∧
  (if right then Op.bytesLess x.key.toList y.key.toList=true∧Op.bytesLess key y.key.toList=false else Op.bytesLess y.key.toList x.key.toList=true∧Op.bytesLess key y.key.toList=true):=by
 unfold hopN at h
 cases right with
 | true =>
  rw [if_pos rfl] at h ⊢
  split at h
  ·rename_i hc
   cases h
   simp only [Bool.and_eq_true,Bool.not_eq_true'] at hc
   exact ⟨(findN_mem hc.1).1,hc.2.1,hc.2.2⟩
  ·cases h
 | false =>
  rw [if_neg (by simp)] at h ⊢
  split at h
  ·rename_i hc
   cases h
   simp only [Bool.and_eq_true] at hc
   exact ⟨(findN_mem hc.1).1,hc.2.1,hc.2.2⟩
  ·cases h
theorem count_lt {α:Type} {p q:α→Bool}:∀ {l:List α} {y:α},y∈l→(∀ z,p z=true→q z=true)→q y=true→p y=false→l.countP p<l.countP q
 | [],_,hy,_,_,_=>by cases hy
 | a::l,y,hy,h,h1,h2=>by
  rw [List.countP_cons,List.countP_cons]
  have hle:l.countP p≤l.countP q:=List.countP_mono_left (fun z _=>h z)
  rcases List.mem_cons.1 hy with rfl | hy
  ·rw [h1,h2];simp;omega
  ·have:=count_lt hy h h1 h2
   have h3:=h a
   cases hp:p a with
   | true=>rw [h3 hp];simp;omega
   | false =>
    generalize (if q a=true then 1 else 0)=z
    simp
    omega
theorem bey_lt {x y:Nd} {lev:Nat} (h:hopN N L key right x lev=some y):bey N right y<bey N right x:=by
 obtain ⟨hm,hc⟩:=hop_mem h
 unfold bey
 cases right with
 | true =>
  rw [if_pos rfl] at hc
  refine count_lt hm (fun z hz=>?_) ?_ ?_
  ·rw [if_pos rfl] at hz ⊢;exact bl_trans hc.1 hz
  ·rw [if_pos rfl];exact hc.1
  ·rw [if_pos rfl];exact bytesLess_irrefl _
 | false =>
  rw [if_neg (by simp)] at hc
  refine count_lt hm (fun z hz=>?_) ?_ ?_
  ·rw [if_neg (by simp)] at hz ⊢;exact bl_trans hz hc.1
  ·rw [if_neg (by simp)];exact hc.1
  ·rw [if_neg (by simp)];exact bytesLess_irrefl _
theorem bey_le (x:Nd):bey N right x≤N.length:=List.countP_le_length
theorem meas_hop {x y:Nd} {lev:Nat} (h:hopN N L key right x lev=some y):measR N right y (lev+1)<measR N right x (lev+1):=by
 have:=bey_lt h
 unfold measR
 omega
def RtSt (N:List Nd) (L:List Lkd) (key:List UInt8) (right:Bool) (R:Nd×List Hop) (x:Nd) (lev:Nat) (out:List Hop):Prop:=∃ f,measR N right x lev≤f∧rtF N L key right f x lev out=R
theorem RtSt.start {x:Nd} {lev:Nat} (hl:lev≤17):RtSt N L key right (rtF N L key right (18*(N.length+1)) x lev []) x lev []:=by
 refine ⟨_,?_,rfl⟩
 unfold measR
 have:=bey_le (N:=N) (right:=right) x
 have:lev*(N.length+1)≤17*(N.length+1):=Nat.mul_le_mul_right _ hl
 omega
theorem RtSt.hop {R:Nd×List Hop} {x y:Nd} {lev:Nat} {out:List Hop} (h:RtSt N L key right R x (lev+1) out) (hh:hopN N L key right x lev=some y):RtSt N L key right R y (lev+1) (out++[(x.id,y.id,(lev:Int))]):=by
 obtain ⟨f,h1,h2⟩:=h
 have hm:=meas_hop hh
 obtain ⟨f,rfl⟩:∃ g,f=g+1:=⟨f-1,by omega⟩
 refine ⟨f,by omega,?_⟩
 rw [← h2]
 show _=(match hopN N L key right x lev with | some y=>rtF N L key right f y (lev+1) (out++[(x.id,y.id,(lev:Int))]) | none=>rtF N L key right f x lev out)
 rw [hh]
theorem RtSt.done {R:Nd×List Hop} {x:Nd} {out:List Hop} (h:RtSt N L key right R x 0 out):R=(x,out):=by
 obtain ⟨f,h1,h2⟩:=h
 rw [← h2]
 cases f<;>rfl
end Go.Proofs.YtalmjklljofhbaaGreatDoor
