/- Texts for TopBalanceProof. -/
import Derived.Test.YthcholmhmcpooaaGreatDoorTopBalanceProofL5
set_option linter.unusedSimpArgs false
set_option linter.unusedVariables false

namespace Go.Proofs.YthcholmhmcpooaaGreatDoor
open Go.RowKit
theorem TabG.nxb {b:Nat} {w w':World} (h:TabG w) (hb:¬ 1=b) (k:Exb b w w'):TabG w':=h.chg k ⟨h.lt,hb⟩
section
variable {P:Program} {ops:Array Oper} {Q:Exit→Act→World→Prop} {md:Region.Mode} {S:World→Prop} {late:List Nat}
def wpAnyL (P:Program) (md:Region.Mode) (ops:Array Oper) (Q:Exit→Act→World→Prop) (S:World→Prop) (late:List Nat):Nat→Array Bool→Act→World→Prop
 | 0,listed,a,w=>Region.ready md ops listed=[]∧Q .normal a w
 | fuel+1,listed,a,w =>
  (Region.ready md ops listed=[]→Q .normal a w) ∧
  ∀ i∈Region.ready md ops listed,wpOp P ops Q i (fun a' w'=>(late.contains i=false→S w→S w')∧wpAnyL P md ops Q S late fuel (listed.setIfInBounds i true) a' w') a w
theorem wpAny_of_late:∀ (fuel:Nat) (listed:Array Bool) (a:Act) (w:World),wpAnyL P md ops Q S late fuel listed a w→wpAny P md ops Q fuel listed a w
 | 0,_,_,_,h=>h
 | fuel+1,_,_,_,h=>⟨h.1,fun i hi=>wpOp_mono (fun a' w' h'=>wpAny_of_late fuel _ a' w' h'.2) (h.2 i hi)⟩
def reachO (md:Region.Mode) (ops:Array Oper) (i:Nat):Nat→Nat→Bool
 | 0,_=>false
 | f+1,j=>match ops[j]? with
  | some o=>o.after.any fun e=>Region.binds md e&&(e.on==i||reachO md ops i f e.on)
  | none=>false
def lateOk (md:Region.Mode) (ops:Array Oper) (late:List Nat) (i:Nat):Bool:=late.all fun j=>reachO md ops i ops.size j
def Clo (md:Region.Mode) (ops:Array Oper) (listed:Array Bool):Prop :=
 ∀ j o,ops[j]?=some o→listed.getD j false=true→∀ e∈o.after,Region.binds md e=true→listed.getD e.on false=true
def closedO (md:Region.Mode) (ops:Array Oper) (listed:Array Bool):Bool :=
 (List.range ops.size).all fun j=>match ops[j]? with
  | some o=>!(listed.getD j false)||o.after.all fun e=>!(Region.binds md e)||listed.getD e.on false
  | none=>true
theorem closedO_spec {listed:Array Bool} (h:closedO md ops listed=true):Clo md ops listed:=by
 intro j o hj hl e he hb
 have hjs:j<ops.size:=(Array.getElem?_eq_some_iff.1 hj).1
 have h1:=List.all_eq_true.1 h j (List.mem_range.2 hjs)
 simp only [hj,hl,Bool.not_true,Bool.false_or] at h1
 rw [Array.all_eq_true'] at h1
 have h2:=h1 e he
 simpa [hb] using h2
theorem reach_listed {i:Nat} {listed:Array Bool} (hc:Clo md ops listed):∀ (f j:Nat),(∀ o,ops[j]?=some o→∀ e∈o.after,Region.binds md e=true→listed.getD e.on false=true)→reachO md ops i f j=true→listed.getD i false=true
 | 0,_,_,h=>by cases h
 | f+1,j,hp,h=>by
  unfold reachO at h
  cases ho:ops[j]? with
  | none=>simp [ho] at h
  | some o =>
   simp only [ho] at h
   rw [Array.any_eq_true'] at h
   obtain ⟨e,he,h2⟩:=h
   rw [Bool.and_eq_true,Bool.or_eq_true,beq_iff_eq] at h2
   have hl:=hp o ho e he h2.1
   rcases h2.2 with h3 | h3
   ·rw [← h3];exact hl
   ·exact reach_listed hc f e.on (fun o' ho' e' he' hb'=>hc e.on o' ho' hl e' he' hb') h3
theorem getD_mono {listed:Array Bool} {j k:Nat} (h:listed.getD k false=true):(listed.setIfInBounds j true).getD k false=true:=by
 rw [Array.getD_eq_getD_getElem?] at h ⊢
 rw [Array.getElem?_setIfInBounds]
 split
 ·split
  ·rfl
  ·rename_i hk hs
   subst hk
   rw [Array.getElem?_eq_none (by omega)] at h
   exact h
 ·exact h
theorem getD_self {listed:Array Bool} {j k:Nat} (h:(listed.setIfInBounds j true).getD k false=true):k=j∨listed.getD k false=true:=by
 by_cases hk:k=j
 ·exact .inl hk
 ·right
  rw [Array.getD_eq_getD_getElem?] at h ⊢
  rwa [Array.getElem?_setIfInBounds,if_neg (fun e=>hk e.symm)] at h
theorem Clo.step {j:Nat} {oj:Oper} {listed:Array Bool} (hc:Clo md ops listed) (hoj:ops[j]?=some oj) (hall:∀ e∈oj.after,Region.binds md e=true→listed.getD e.on false=true):Clo md ops (listed.setIfInBounds j true):=by
 intro p o hp hl e he hb
 rcases getD_self hl with rfl | h1
 ·obtain rfl:oj=o:=Option.some.inj (hoj.symm.trans hp)
  exact getD_mono (hall e he hb)
 ·exact getD_mono (hc p o hp h1 e he hb)
theorem wpAnyL_first {i:Nat} {oi:Oper} {v:Value} (hi:ops[i]?=some oi) (hsel:∀ (j:Nat) (o:Oper) cs b,ops[j]?=some o→o.op≠.select cs b)
  (hQ:∀ c a w,Q (.panic c) (a.put oi.dst v) w→Q (.panic c) a w) (hl:lateOk md ops late i=true) :
  ∀ (fuel:Nat) (listed:Array Bool) (a:Act) (w:World),Clo md ops listed →
   (∀ j oj,ops[j]?=some oj→j≠i→listed.getD j true=false→(∀ e∈oj.after,Region.binds md e=true→e.on≠i)→oi.apart ops oj=true) →
   i∈Region.ready md ops listed→YieldsIf P ops S oi v a→S w →
   wpAnyL P md ops Q S late fuel (listed.setIfInBounds i true) (a.put oi.dst v) w→wpAnyL P md ops Q S late (fuel+1) listed a w:=by
 have hun:∀ listed:Array Bool,i∈Region.ready md ops listed→listed.getD i false=true→False:=fun listed hr h=>by
  have h0:=(mem_ready.1 hr).1
  rw [Array.getD_eq_getD_getElem?] at h h0
  cases h1:listed[i]? with
  | none=>rw [h1] at h;cases h
  | some b=>rw [h1] at h h0;simp only [Option.getD_some] at h h0;rw [h] at h0;cases h0
 have hearly:∀ (listed:Array Bool) j,Clo md ops listed→i∈Region.ready md ops listed→j∈Region.ready md ops listed→late.contains j=false:=fun listed j hc hr hj=>by
  rw [Bool.eq_false_iff]
  intro hcj
  have h1:=List.all_eq_true.1 hl j (List.contains_iff_mem.1 hcj)
  obtain ⟨_,oj,hoj,hall⟩:=mem_ready.1 hj
  exact hun listed hr (reach_listed hc _ j (fun o ho e he hb=>by
   obtain rfl:oj=o:=Option.some.inj (hoj.symm.trans ho)
   exact hall e he hb) h1)
 intro fuel
 induction fuel with
 | zero =>
  intro listed a w hcl _ hr hy hS H
  refine ⟨fun h=>(by rw [h] at hr;cases hr),fun j hj=>?_⟩
  by_cases hji:j=i
  ·subst hji;exact hy.wpOp hi hS ⟨fun _ _=>hS,H⟩
  ·have:=ready_mono hj hji
   rw [H.1] at this
   cases this
 | succ fuel ih =>
  intro listed a w hcl hfree hr hy hS H
  refine ⟨fun h=>(by rw [h] at hr;cases hr),fun j hj=>?_⟩
  by_cases hji:j=i
  ·subst hji;exact hy.wpOp hi hS ⟨fun _ _=>hS,H⟩
  ·have h1:=H.2 j (ready_mono hj hji)
   have hej:=hearly listed j hcl hr hj
   obtain ⟨hjun,oj,hoj,hall⟩:=mem_ready.1 hj
   have hnot:∀ e∈oj.after,Region.binds md e=true→e.on≠i:=fun e he hb heq=>hun listed hr (by rw [← heq];exact hall e he hb)
   have h2:=wpOp_putIf hoj (hfree j oj hoj hji hjun hnot) (fun cs b=>hsel i oi cs b hi) (fun cs b=>hsel j oj cs b hoj) hQ hy h1
   have hfree':∀ k ok,ops[k]?=some ok→k≠i→(listed.setIfInBounds j true).getD k true=false →
     (∀ e∈ok.after,Region.binds md e=true→e.on≠i)→oi.apart ops ok=true:=fun k ok hk hki hun hno=>by
    refine hfree k ok hk hki ?_ hno
    by_cases hjk:j=k
    ·subst hjk;exact hjun
    ·rw [getD_set_ne true hjk] at hun;exact hun
   refine wpOp_mono (fun a' w' h3=>⟨h3.2.1,ih (listed.setIfInBounds j true) a' w' (hcl.step hoj hall) hfree' (ready_mono hr (Ne.symm hji)) h3.1 (h3.2.1 hej hS) ?_⟩) h2
   rw [Array.setIfInBounds_comm _ _ hji]
   exact h3.2.2
theorem wpAnyL_firstP {i:Nat} {oi:Oper} {v:Value} (hi:ops[i]?=some oi) (hsel:∀ (j:Nat) (o:Oper) cs b,ops[j]?=some o→o.op≠.select cs b)
  (hQ:∀ c a w,Q (.panic c) (a.put oi.dst v) w→Q (.panic c) a w) :
  ∀ (fuel:Nat) (listed:Array Bool) (a:Act) (w:World),
   (∀ j oj,ops[j]?=some oj→j≠i→listed.getD j true=false→(∀ e∈oj.after,Region.binds md e=true→e.on≠i)→oi.apart ops oj=true) →
   i∈Region.ready md ops listed→YieldsIf P ops (fun _=>True) oi v a →
   wpAnyL P md ops Q S late fuel (listed.setIfInBounds i true) (a.put oi.dst v) w→wpAnyL P md ops Q S late (fuel+1) listed a w:=by
 have hun:∀ listed:Array Bool,i∈Region.ready md ops listed→listed.getD i false=true→False:=fun listed hr h=>by
  have h0:=(mem_ready.1 hr).1
  rw [Array.getD_eq_getD_getElem?] at h h0
  cases h1:listed[i]? with
  | none=>rw [h1] at h;cases h
  | some b=>rw [h1] at h h0;simp only [Option.getD_some] at h h0;rw [h] at h0;cases h0
 intro fuel
 induction fuel with
 | zero =>
  intro listed a w _ hr hy H
  refine ⟨fun h=>(by rw [h] at hr;cases hr),fun j hj=>?_⟩
  by_cases hji:j=i
  ·subst hji;exact hy.wpOp hi trivial ⟨fun _ h=>h,H⟩
  ·have:=ready_mono hj hji
   rw [H.1] at this
   cases this
 | succ fuel ih =>
  intro listed a w hfree hr hy H
  refine ⟨fun h=>(by rw [h] at hr;cases hr),fun j hj=>?_⟩
  by_cases hji:j=i
  ·subst hji;exact hy.wpOp hi trivial ⟨fun _ h=>h,H⟩
  ·have h1:=H.2 j (ready_mono hj hji)
   obtain ⟨hjun,oj,hoj,hall⟩:=mem_ready.1 hj
   have hnot:∀ e∈oj.after,Region.binds md e=true→e.on≠i:=fun e he hb heq=>hun listed hr (by rw [← heq];exact hall e he hb)
   have h2:=wpOp_putIf hoj (hfree j oj hoj hji hjun hnot) (fun cs b=>hsel i oi cs b hi) (fun cs b=>hsel j oj cs b hoj) hQ hy h1
   have hfree':∀ k ok,ops[k]?=some ok→k≠i→(listed.setIfInBounds j true).getD k true=false →
     (∀ e∈ok.after,Region.binds md e=true→e.on≠i)→oi.apart ops ok=true:=fun k ok hk hki hun hno=>by
    refine hfree k ok hk hki ?_ hno
    by_cases hjk:j=k
    ·subst hjk;exact hjun
    ·rw [getD_set_ne true hjk] at hun;exact hun
   refine wpOp_mono (fun a' w' h3=>⟨h3.2.1,ih (listed.setIfInBounds j true) a' w' hfree' (ready_mono hr (Ne.symm hji)) h3.1 ?_⟩) h2
   rw [Array.setIfInBounds_comm _ _ hji]
   exact h3.2.2
theorem wpAnyL_takeP {i:Nat} {oi:Oper} {v:Value} {fuel:Nat} {listed:Array Bool} {a:Act} {w:World} (hi:ops[i]?=some oi)
  (hs:Region.noSelect ops=true) (hf:Region.free md ops listed i=true) (hr:(Region.ready md ops listed).contains i=true)
  (hQ:∀ c a w,Q (.panic c) (a.put oi.dst v) w→Q (.panic c) a w) (hy:YieldsIf P ops (fun _=>True) oi v a)
  (h:wpAnyL P md ops Q S late fuel (listed.setIfInBounds i true) (a.put oi.dst v) w):wpAnyL P md ops Q S late (fuel+1) listed a w :=
 wpAnyL_firstP hi (Region.noSelect_spec hs) hQ fuel listed a w (Region.free_spec hi hf) (by simpa using hr) hy h
theorem wpAnyL_take {i:Nat} {oi:Oper} {v:Value} {fuel:Nat} {listed:Array Bool} {a:Act} {w:World} (hi:ops[i]?=some oi)
  (hs:Region.noSelect ops=true) (hf:Region.free md ops listed i=true) (hr:(Region.ready md ops listed).contains i=true)
  (hQ:∀ c a w,Q (.panic c) (a.put oi.dst v) w→Q (.panic c) a w) (hy:YieldsIf P ops S oi v a) (hl:lateOk md ops late i=true) (hc:closedO md ops listed=true) (hS:S w)
  (h:wpAnyL P md ops Q S late fuel (listed.setIfInBounds i true) (a.put oi.dst v) w):wpAnyL P md ops Q S late (fuel+1) listed a w :=
 wpAnyL_first hi (Region.noSelect_spec hs) hQ hl fuel listed a w (closedO_spec hc) (Region.free_spec hi hf) (by simpa using hr) hy hS h
def AllReadyL (P:Program) (md:Region.Mode) (ops:Array Oper) (Q:Exit→Act→World→Prop) (S:World→Prop) (late:List Nat) (fuel:Nat) (listed:Array Bool) (a:Act) (w:World) (rs:List Nat):Prop :=
 ∀ i∈rs,wpOp P ops Q i (fun a' w'=>(late.contains i=false→S w→S w')∧wpAnyL P md ops Q S late fuel (listed.setIfInBounds i true) a' w') a w
theorem AllReadyL.nil {fuel:Nat} {listed:Array Bool} {a:Act} {w:World}:AllReadyL P md ops Q S late fuel listed a w []:=fun _ h=>by cases h
theorem AllReadyL.cons {fuel:Nat} {listed:Array Bool} {a:Act} {w:World} {i:Nat} {o:Oper} {rs:List Nat} (ho:ops[i]?=some o)
  (h:∀ K':Act→World→Prop,Shut (∀ a w,S w→(S w→wpAnyL P md ops Q S late fuel (listed.setIfInBounds i true) a w)→K' a w)→if Region.wanted o (yielded ops a.tmps)=true then Oper.wp P o a w K' Q else K' (a.put o.dst undef) w)
  (hs:AllReadyL P md ops Q S late fuel listed a w rs):AllReadyL P md ops Q S late fuel listed a w (i::rs):=fun j hj=>by
 rcases List.mem_cons.1 hj with rfl | hj
 ·exact wpOp_step ho (fun K' hK=>h K' (fun a w hS hW=>hK a w ⟨fun _ _=>hS,hW hS⟩))
 ·exact hs j hj
theorem AllReadyL.consL {fuel:Nat} {listed:Array Bool} {a:Act} {w:World} {i:Nat} {o:Oper} {rs:List Nat} (ho:ops[i]?=some o) (hl:late.contains i=true)
  (h:∀ K':Act→World→Prop,Shut (∀ a w,wpAnyL P md ops Q S late fuel (listed.setIfInBounds i true) a w→K' a w)→if Region.wanted o (yielded ops a.tmps)=true then Oper.wp P o a w K' Q else K' (a.put o.dst undef) w)
  (hs:AllReadyL P md ops Q S late fuel listed a w rs):AllReadyL P md ops Q S late fuel listed a w (i::rs):=fun j hj=>by
 rcases List.mem_cons.1 hj with rfl | hj
 ·exact wpOp_step ho (fun K' hK=>h K' (fun a w hW=>hK a w ⟨fun h0=>(Bool.noConfusion (hl.symm.trans h0)),hW⟩))
 ·exact hs j hj
theorem wpAnyL_ready {rs:List Nat} {fuel:Nat} {listed:Array Bool} {a:Act} {w:World} (hr:Region.ready md ops listed=rs) (hne:rs≠[])
  (h:AllReadyL P md ops Q S late fuel listed a w rs):wpAnyL P md ops Q S late (fuel+1) listed a w:=by
 refine ⟨fun h0=>absurd (hr.symm.trans h0) hne,?_⟩
 rw [hr]
 exact h
theorem wpAnyL_done {listed:Array Bool} {a:Act} {w:World} (hr:Region.ready md ops listed=[]) (h:Q .normal a w):∀ fuel,wpAnyL P md ops Q S late fuel listed a w
 | 0=>⟨hr,h⟩
 | _+1=>⟨fun _=>h,by rw [hr];simp⟩
theorem wp_region_late_drew (late:List Nat) {id:Nat} {a:Act} {w:World} (hm:P.follows .mixedOrders=true) (hS:S w.drew)
  (h:S w.drew→wpAnyL P .any ops Q S late ops.size (Array.replicate ops.size false) a w.drew):(Code.region id ops true).wp P Q a w :=
 wp_region_any hm (wpAny_of_late _ _ _ _ (h hS))
end
theorem tkL {P:Program} {md:Region.Mode} {ops:Array Oper} {Q:Exit→Act→World→Prop} {S:World→Prop} {late:List Nat} (i:Nat) {v:Value} {fuel:Nat} {listed:Array Bool} {a:Act} {w:World} {d o t p f g} (hi:ops[i]?=some (⟨d,o,t,p,f,g⟩:Oper))
  (hb:(Region.noSelect ops&&(Region.free md ops listed i&&((Region.ready md ops listed).contains i&&(lateOk md ops late i&&closedO md ops listed))))=true) (hQ:∀ c a' w',Q (.panic c) (a'.put d v) w'→Q (.panic c) a' w')
  (hw:Region.wanted (⟨d,o,t,p,f,g⟩:Oper) (yielded ops a.tmps)=true) (hy:∀ w,S w→(execOp a.eval (⟨d,o,t,p,f,g⟩:Oper)).run P w=.ok (.value v) w) (hS:S w)
  (h:wpAnyL P md ops Q S late fuel (listed.setIfInBounds i true) (a.put d v) w):wpAnyL P md ops Q S late (fuel+1) listed a w:=by
 rw [Bool.and_eq_true,Bool.and_eq_true,Bool.and_eq_true,Bool.and_eq_true] at hb
 exact wpAnyL_take hi hb.1 hb.2.1 hb.2.2.1 hQ (Or.inl ⟨hw,hy⟩) hb.2.2.2.1 hb.2.2.2.2 hS h
theorem rL {P:Program} {md:Region.Mode} {ops:Array Oper} {Q:Exit→Act→World→Prop} {S:World→Prop} {late:List Nat} (i:Nat) {fuel:Nat} {listed:Array Bool} {a:Act} {w:World} {d o t p f g} (hr:Region.ready md ops listed=[i]) (ho:ops[i]?=some (⟨d,o,t,p,f,g⟩:Oper))
  (h:∀ K':Act→World→Prop,Shut (∀ a w,S w→(S w→wpAnyL P md ops Q S late fuel (listed.setIfInBounds i true) a w)→K' a w)→if Region.wanted (⟨d,o,t,p,f,g⟩:Oper) (yielded ops a.tmps)=true then Oper.wp P ⟨d,o,t,p,f,g⟩ a w K' Q else K' (a.put d undef) w):wpAnyL P md ops Q S late (fuel+1) listed a w :=
 wpAnyL_ready hr (by simp) (AllReadyL.cons ho h AllReadyL.nil)
theorem rLL {P:Program} {md:Region.Mode} {ops:Array Oper} {Q:Exit→Act→World→Prop} {S:World→Prop} {late:List Nat} (i:Nat) {fuel:Nat} {listed:Array Bool} {a:Act} {w:World} {d o t p f g} (hr:Region.ready md ops listed=[i]) (ho:ops[i]?=some (⟨d,o,t,p,f,g⟩:Oper)) (hl:late.contains i=true)
  (h:∀ K':Act→World→Prop,Shut (∀ a w,wpAnyL P md ops Q S late fuel (listed.setIfInBounds i true) a w→K' a w)→if Region.wanted (⟨d,o,t,p,f,g⟩:Oper) (yielded ops a.tmps)=true then Oper.wp P ⟨d,o,t,p,f,g⟩ a w K' Q else K' (a.put d undef) w):wpAnyL P md ops Q S late (fuel+1) listed a w :=
 wpAnyL_ready hr (by simp) (AllReadyL.consL ho hl h AllReadyL.nil)
end Go.Proofs.YthcholmhmcpooaaGreatDoor
