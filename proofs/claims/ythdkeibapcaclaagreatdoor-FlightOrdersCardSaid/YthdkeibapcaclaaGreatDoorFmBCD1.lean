/- Shared texts. -/
import Derived.Test.YthdkeibapcaclaaGreatDoorFmAll31
import Derived.Test.YthdkeibapcaclaaGreatDoorFmAll33
set_option linter.unusedSimpArgs false
set_option linter.unusedVariables false

namespace Go.Proofs.YthdkeibapcaclaaGreatDoor
open Go.RowKit
section
variable {N:List Nd} {f g:Fl}
theorem erase_or {α:Type}:∀ (l:List α) (k:Nat) (m x:α),l[k]?=some m→(x∈l↔x∈l.eraseIdx k∨x=m)
 | a::l,0,m,x,hk=>by
  simp at hk
  subst hk
  simp [or_comm]
 | a::l,k+1,m,x,hk=>by
  simp at hk
  rw [List.eraseIdx_cons_succ,List.mem_cons,List.mem_cons,erase_or l k m x hk,or_assoc]
theorem del_step (h0:checkN N=0) {D:List (Int×Int)} (h:DelTo N f g D) {k:Nat} {m:Int×Int} (hm:g.msgs[k]?=some m):DelTo N f (delF N g k) (m::D):=by
 refine ⟨fun x hx=>?_,fun u=>?_⟩
 ·obtain ⟨h1,h2,h3,h4⟩:=h.1 x hx
  rw [del_peer h0 hm hx]
  by_cases hc:(findN N m.2).2=true∧m.1≠m.2∧x.id=m.1
  ·rw [if_pos hc]
   refine ⟨h1,h2,h3,fun v hv hne=>?_⟩
   show v∈ordN N ((peerN g.peers x.id).known++[m.2]) x.id↔_
   rw [mem_ord]
   simp only [List.mem_append,List.mem_cons,List.not_mem_nil,or_false,h4 v hv hne]
   constructor
   ·rintro ⟨_,_,(h | h) | h⟩
    ·exact .inl h
    ·exact .inr (.inr h)
    ·exact .inr (.inl (Prod.ext hc.2.2 h))
   ·rintro (h | (h | h))
    ·exact ⟨hv,hne,.inl (.inl h)⟩
    ·exact ⟨hv,hne,.inr (by rw [← h])⟩
    ·exact ⟨hv,hne,.inl (.inr h)⟩
  ·rw [if_neg hc]
   refine ⟨h1,h2,h3,fun v hv hne=>?_⟩
   rw [h4 v hv hne,List.mem_cons]
   constructor
   ·rintro (h | h)
    ·exact .inl h
    ·exact .inr (.inr h)
   ·rintro (h | (h | h))
    ·exact .inl h
    ·exact absurd ⟨(find_node h0).2 (by rw [← h];exact hv),by rw [← h];exact fun e=>hne e.symm,by rw [← h]⟩ hc
    ·exact .inr h
 ·rw [h.2,del_some h0 hm,List.mem_cons]
  show u∈g.msgs∨u∈D↔u∈g.msgs.eraseIdx k∨u=m∨u∈D
  rw [erase_or _ _ _ u hm,or_assoc]
theorem del_all (h0:checkN N=0) (ms:List Int):∀ (n i:Nat) (g:Fl) (D:List (Int×Int)),g.msgs.length=n→DelTo N f g D→∃ D',DelTo N f (delAllF N ms n i g) D'∧(delAllF N ms n i g).msgs=[]
 | 0,_,g,D,hl,h=>⟨D,h,List.length_eq_zero_iff.1 hl⟩
 | n+1,i,g,D,hl,h=>by
  have hk:=pick_lt ms i (show 0<n+1 by omega)
  obtain ⟨m,hm⟩:∃ m,g.msgs[pickN ms i (n+1)]?=some m:=⟨g.msgs[pickN ms i (n+1)]'(by omega),by simp⟩
  refine del_all h0 ms n (i+1) _ _ ?_ (del_step h0 h hm)
  rw [del_some h0 hm]
  show (g.msgs.eraseIdx _).length=n
  rw [List.length_eraseIdx,if_pos (by omega)]
  omega
end
section
variable {N:List Nd} {f g:Fl}
theorem norm_delAll (h0:checkN N=0) (ms:List Int):∀ (n i:Nat) (g:Fl),NormF N g→NormF N (delAllF N ms n i g)
 | 0,_,_,h=>h
 | n+1,i,g,_=>norm_delAll h0 ms n (i+1) _ (norm_del h0 g _)
theorem norm_tickAll (h0:checkN N=0) (ts:List Int) (h:Int):∀ (n i:Nat) (left:List Int) (g:Fl),NormF N g→NormF N (tickAllF N ts h n i left g)
 | 0,_,_,_,hg=>hg
 | n+1,i,left,g,_=>norm_tickAll h0 ts h n (i+1) _ _ (norm_tick h0 g _ _)
theorem norm_round (h0:checkN N=0) {h:Nat} (hh:h≤16) (f:Fl) (ms ts:List Int):NormF N (roundF N f ms ts h):=by
 unfold roundF
 rw [if_pos ⟨by unfold lvlN;simp;omega,h0⟩]
 exact norm_tickAll h0 ts h _ _ _ _ (norm_delAll h0 ms _ _ _ (norm_cop h0 f))
end
theorem TK.put2 {b g:Nat} {w:World} {x y:Value} (t:TK w b) (hb:b<g):TK ((w.setCell ⟨g,0,none⟩ x).setCell ⟨g,1,none⟩ y) b:=(t.set (p:=⟨g,0,none⟩) _ (by show b<g;omega)).set (p:=⟨g,1,none⟩) _ (by show b<g;omega)
section
variable {N:List Nd} {f g:Fl}
theorem delAll_sm (hN:N.length≤1000) (ms:List Int):∀ (n i:Nat) (g:Fl),SmF g→SmF (delAllF N ms n i g)
 | 0,_,_,h=>h
 | n+1,i,g,h=>delAll_sm hN ms n (i+1) _ (del_sm hN h _)
theorem tickAll_sm (hN:N.length≤1000) (ts:List Int) (hh:Int):∀ (n i:Nat) (left:List Int) (g:Fl),SmF g→SmF (tickAllF N ts hh n i left g)
 | 0,_,_,_,h=>h
 | n+1,i,left,g,h=>tickAll_sm hN ts hh n (i+1) _ _ (tick_sm hN h _ _)
theorem tickAll_msgs (h0:checkN N=0) (ts:List Int) (hh:Int):∀ (n i:Nat) (left:List Int) (g:Fl),(tickAllF N ts hh n i left g).msgs.length≤g.msgs.length+n*(2*N.length)
 | 0,_,_,_=>by simp [tickAllF]
 | n+1,i,left,g=>by
  have h1:=tickAll_msgs h0 ts hh n (i+1) (left.eraseIdx (pickN ts i (n+1))) (tickF N g (left[pickN ts i (n+1)]?.getD 0) hh)
  have h2:=tick_len h0 (f:=g) (left[pickN ts i (n+1)]?.getD 0) hh
  unfold tickAllF
  rw [Nat.succ_mul]
  omega
theorem delAll_none (h0:checkN N=0) (ms:List Int) (g:Fl):(delAllF N ms g.msgs.length 0 g).msgs=[]:=by
 obtain ⟨D,_,h⟩:=del_all h0 ms g.msgs.length 0 g [] rfl (DelTo.refl N g)
 exact h
structure FliesR (N:List Nd) (f:Fl):Prop where
 sm:SmF f
 len:f.peers.length=N.length
 msgs:f.msgs.length≤100000
theorem Flies.r {B:Nat} (h:Flies N B f) (hB:B≤100000):FliesR N f:=⟨h.sm,h.len,by have:=h.msgs;omega⟩
theorem FliesR.sp (h:FliesR N f):SmallP f.peers:=by have:=h.sm;unfold SmF at this;exact this.1
theorem FliesR.round (h0:checkN N=0) (hN:N.length≤100) (hf:FliesR N f) {h:Nat} (hh:h≤16) (ms ts:List Int):FliesR N (roundF N f ms ts h):=by
 refine ⟨?_,norm_lenF (norm_round h0 hh f ms ts),?_⟩
 ·unfold roundF
  rw [if_pos ⟨by unfold lvlN;simp;omega,h0⟩]
  exact tickAll_sm (by omega) ts h _ _ _ _ (delAll_sm (by omega) ms _ _ _ (cop_sm hf.sm))
 ·unfold roundF
  rw [if_pos ⟨by unfold lvlN;simp;omega,h0⟩]
  have h1:=tickAll_msgs h0 ts h N.length 0 ((sortN N).map Nd.id) (delAllF N ms (copF N f).msgs.length 0 (copF N f))
  rw [delAll_none h0] at h1
  have h2:N.length*(2*N.length)≤100*200:=Nat.mul_le_mul (by omega) (by omega)
  simp only [List.length_nil] at h1
  omega
end
end Go.Proofs.YthdkeibapcaclaaGreatDoor
