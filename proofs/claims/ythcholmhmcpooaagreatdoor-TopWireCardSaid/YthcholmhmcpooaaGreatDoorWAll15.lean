/- Shared texts. -/
import Derived.Test.YthcholmhmcpooaaGreatDoorWAll8
import Derived.Test.YthcholmhmcpooaaGreatDoorWAll13
set_option linter.unusedSimpArgs false
set_option linter.unusedVariables false

namespace Go.Proofs.YthcholmhmcpooaaGreatDoor
open Go.RowKit
abbrev Hop:=Int×Int×Int
def atL (L:List Lkd) (id lev:Int):Int×Int:=match L.find? (fun c=>c.1==id) with | some c=>if lev<0 then (0,0) else c.2[lev.toNat]?.getD (0,0) | none=>(0,0)
def topL (L:List Lkd) (id:Int):Int:=match L.find? (fun c=>c.1==id) with | some c=>min ((c.2.length:Int)-1) 16 | none=>-1
def hopN (N:List Nd) (L:List Lkd) (key:List UInt8) (right:Bool) (x:Nd) (lev:Nat):Option Nd :=
 if right then (if (findN N (atL L x.id lev).2).2&&(Op.bytesLess x.key.toList (findN N (atL L x.id lev).2).1.key.toList&&!Op.bytesLess key (findN N (atL L x.id lev).2).1.key.toList) then some (findN N (atL L x.id lev).2).1 else none)
 else (if (findN N (atL L x.id lev).1).2&&(Op.bytesLess (findN N (atL L x.id lev).1).1.key.toList x.key.toList&&Op.bytesLess key (findN N (atL L x.id lev).1).1.key.toList) then some (findN N (atL L x.id lev).1).1 else none)
def rtF (N:List Nd) (L:List Lkd) (key:List UInt8) (right:Bool):Nat→Nd→Nat→List Hop→Nd×List Hop
 | 0,x,_,out=>(x,out)
 | _+1,x,0,out=>(x,out)
 | f+1,x,lev+1,out =>
  match hopN N L key right x lev with
  | some y=>rtF N L key right f y (lev+1) (out++[(x.id,y.id,(lev:Int))])
  | none=>rtF N L key right f x lev out
def bey (N:List Nd) (right:Bool) (x:Nd):Nat:=N.countP fun z=>if right then Op.bytesLess x.key.toList z.key.toList else Op.bytesLess z.key.toList x.key.toList
def measR (N:List Nd) (right:Bool) (x:Nd) (lev:Nat):Nat:=lev*(N.length+1)+bey N right x
def routeN (N:List Nd) (L:List Lkd) (frm:Int) (key:ByteArray):List Hop×Int :=
 if checkN N≠0∨64<key.size then ([],1)
 else if (findN N frm).2=false then ([],6)
 else
  let right:=!Op.bytesLess key.toList (findN N frm).1.key.toList
  let r:=rtF N L key.toList right (18*(N.length+1)) (findN N frm).1 (topL L frm+1).toNat []
  if (findN N (atL L r.1.id 0).1).2&&!right&&!Op.bytesLess key.toList (findN N (atL L r.1.id 0).1).1.key.toList then (r.2++[(r.1.id,(findN N (atL L r.1.id 0).1).1.id,0)],0) else (r.2,0)
def endN (frm:Int) (h:List Hop):Int:=match h.getLast? with | some p=>p.2.1 | none=>frm
variable {N:List Nd} {L:List Lkd} {key:List UInt8} {right:Bool}
theorem hop_mem {x y:Nd} {lev:Nat} (h:hopN N L key right x lev=some y):y∈N ∧
  (if right then Op.bytesLess x.key.toList y.key.toList=true∧Op.bytesLess key y.key.toList=false else Op.bytesLess y.key.toList x.key.toList=true∧Op.bytesLess key y.key.toList=true):=by
 unfold hopN at h
 cases right with
 | true =>
  rw [if_pos rfl] at h ⊢
  split at h
  ·rename_i hc
   cases h
   simp only [Bool.and_eq_true,Bool.not_eq_true'] at hc
   exact ⟨(findN_mem hc.1).1,hc.2.1,hc.2.2⟩
  ·cases h
 | false =>
  rw [if_neg (by simp)] at h ⊢
  split at h
  ·rename_i hc
   cases h
   simp only [Bool.and_eq_true] at hc
   exact ⟨(findN_mem hc.1).1,hc.2.1,hc.2.2⟩
  ·cases h
theorem count_lt {α:Type} {p q:α→Bool}:∀ {l:List α} {y:α},y∈l→(∀ z,p z=true→q z=true)→q y=true→p y=false→l.countP p<l.countP q
 | [],_,hy,_,_,_=>by cases hy
 | a::l,y,hy,h,h1,h2=>by
  rw [List.countP_cons,List.countP_cons]
  have hle:l.countP p≤l.countP q:=List.countP_mono_left (fun z _=>h z)
  rcases List.mem_cons.1 hy with rfl | hy
  ·rw [h1,h2];simp;omega
  ·have:=count_lt hy h h1 h2
   have h3:=h a
   cases hp:p a with
   | true=>rw [h3 hp];simp;omega
   | false =>
    generalize (if q a=true then 1 else 0)=z
    simp
    omega
theorem bey_lt {x y:Nd} {lev:Nat} (h:hopN N L key right x lev=some y):bey N right y<bey N right x:=by
 obtain ⟨hm,hc⟩:=hop_mem h
 unfold bey
 cases right with
 | true =>
  rw [if_pos rfl] at hc
  refine count_lt hm (fun z hz=>?_) ?_ ?_
  ·rw [if_pos rfl] at hz ⊢;exact bl_trans hc.1 hz
  ·rw [if_pos rfl];exact hc.1
  ·rw [if_pos rfl];exact bytesLess_irrefl _
 | false =>
  rw [if_neg (by simp)] at hc
  refine count_lt hm (fun z hz=>?_) ?_ ?_
  ·rw [if_neg (by simp)] at hz ⊢;exact bl_trans hz hc.1
  ·rw [if_neg (by simp)];exact hc.1
  ·rw [if_neg (by simp)];exact bytesLess_irrefl _
theorem bey_le (x:Nd):bey N right x≤N.length:=List.countP_le_length
theorem meas_hop {x y:Nd} {lev:Nat} (h:hopN N L key right x lev=some y):measR N right y (lev+1)<measR N right x (lev+1):=by
 have:=bey_lt h
 unfold measR
 omega
theorem meas_down (x:Nd) (lev:Nat):measR N right x lev<measR N right x (lev+1):=by
 unfold measR
 rw [Nat.add_mul]
 omega
def RtSt (N:List Nd) (L:List Lkd) (key:List UInt8) (right:Bool) (R:Nd×List Hop) (x:Nd) (lev:Nat) (out:List Hop):Prop:=∃ f,measR N right x lev≤f∧rtF N L key right f x lev out=R
theorem RtSt.start {x:Nd} {lev:Nat} (hl:lev≤17):RtSt N L key right (rtF N L key right (18*(N.length+1)) x lev []) x lev []:=by
 refine ⟨_,?_,rfl⟩
 unfold measR
 have:=bey_le (N:=N) (right:=right) x
 have:lev*(N.length+1)≤17*(N.length+1):=Nat.mul_le_mul_right _ hl
 omega
theorem RtSt.hop {R:Nd×List Hop} {x y:Nd} {lev:Nat} {out:List Hop} (h:RtSt N L key right R x (lev+1) out) (hh:hopN N L key right x lev=some y):RtSt N L key right R y (lev+1) (out++[(x.id,y.id,(lev:Int))]):=by
 obtain ⟨f,h1,h2⟩:=h
 have hm:=meas_hop hh
 obtain ⟨f,rfl⟩:∃ g,f=g+1:=⟨f-1,by omega⟩
 refine ⟨f,by omega,?_⟩
 rw [← h2]
 show _=(match hopN N L key right x lev with | some y=>rtF N L key right f y (lev+1) (out++[(x.id,y.id,(lev:Int))]) | none=>rtF N L key right f x lev out)
 rw [hh]
theorem RtSt.down {R:Nd×List Hop} {x:Nd} {lev:Nat} {out:List Hop} (h:RtSt N L key right R x (lev+1) out) (hh:hopN N L key right x lev=none):RtSt N L key right R x lev out:=by
 obtain ⟨f,h1,h2⟩:=h
 have hm:=meas_down (N:=N) (right:=right) x lev
 obtain ⟨f,rfl⟩:∃ g,f=g+1:=⟨f-1,by omega⟩
 refine ⟨f,by omega,?_⟩
 rw [← h2]
 show _=(match hopN N L key right x lev with | some y=>rtF N L key right f y (lev+1) (out++[(x.id,y.id,(lev:Int))]) | none=>rtF N L key right f x lev out)
 rw [hh]
theorem RtSt.done {R:Nd×List Hop} {x:Nd} {out:List Hop} (h:RtSt N L key right R x 0 out):R=(x,out):=by
 obtain ⟨f,h1,h2⟩:=h
 rw [← h2]
 cases f<;>rfl
theorem Tryz.infoHp:(Tryz.prog.info? 74).map (fun i=>(i.zero,i.size,i.bytes))=some (some (.agg #[.int .i64 0,.int .i64 0,.int .i64 0]),3,24):=by kernel_rfl
def encHp (h:Hop):List Value:=[.int .i64 h.1,.int .i64 h.2.1,.int .i64 h.2.2]
def RtPost (r:List Hop×Int) (w:World) (e:Ending) (w':World):Prop:=∃ v:Value,e=.returned (.tuple #[v,.int .i64 r.2])∧OwnL 3 encHp 74 w.heap.size w' v r.1∧Ex w w'
def lenS:Value→Nat | .slice _ n _=>n | _=>0
theorem route_bad {N:List Nd} {L:List Lkd} {frm:Int} {s:ByteArray} (h:checkN N≠0∨64<s.size):routeN N L frm s=([],1):=by unfold routeN;rw [if_pos h]
theorem route_unk {N:List Nd} {L:List Lkd} {frm:Int} {s:ByteArray} (h:¬ (checkN N≠0∨64<s.size)) (hf:(findN N frm).2=false):routeN N L frm s=([],6):=by unfold routeN;rw [if_neg h,if_pos hf]
theorem lenS_own {base:Nat} {w:World} {v:Value} {out:List Hop} (h:OwnL 3 encHp 74 base w v out):lenS v=out.length:=by
 obtain ⟨a,cap,rfl,_⟩:=h.rd (fun _=>rfl)
 rfl
theorem check_lenU {l:List Nd} (h:checkN l=0):l.length≤64:=by
 unfold checkN at h
 split at h
 ·omega
 ·omega
theorem route_val {N:List Nd} {L:List Lkd} {frm:Int} {s:ByteArray} {x0:Nd} {right:Bool} {T:Int} {R:Nd×List Hop} {x:Nd} {out:List Hop} (h1:¬ (checkN N≠0∨64<s.size)) (hf:(x0,true)=findN N frm)
  (hr:right = !Op.bytesLess s.toList x0.key.toList) (hT:T=topL L frm) (hR:R=rtF N L s.toList right (18*(N.length+1)) x0 (T+1).toNat []) (hd:R=(x,out)) :
  routeN N L frm s=if ((findN N (atL L x.id 0).1).2&&!right&&!Op.bytesLess s.toList (findN N (atL L x.id 0).1).1.key.toList)=true then (out++[(x.id,(findN N (atL L x.id 0).1).1.id,0)],0) else (out,0):=by
 unfold routeN
 rw [if_neg h1,← hf,if_neg (by simp)]
 simp only
 rw [← hr,← hT,← hR,hd]
end Go.Proofs.YthcholmhmcpooaaGreatDoor
