/- Texts for TopBalanceProof. -/
import Derived.Test.YthcholmhmcpooaaGreatDoorTopBalanceProofL5
set_option linter.unusedSimpArgs false
set_option linter.unusedVariables false

namespace Go.Proofs.YthcholmhmcpooaaGreatDoor
open Go.RowKit
section
variable {A β:Type} {encA:A→List Value} {p s2:Nat} {encB:β→List Value} {e1 e2:TypeId} {base:Nat} {w w':World} {v v':Value} {qs:List (A×Hdr)} {L:List (A×List β)}
theorem OwnN.get (h:OwnN encA (p+1) s2 encB e1 e2 base w v qs L) {k:Nat} {c:A×List β} (hc:L[k]?=some c):∃ hd:Hdr,qs[k]?=some (c.1,hd)∧OwnL s2 encB e2 base w hd.val c.2:=by
 obtain ⟨q,hq⟩:∃ q,qs[k]?=some q:=⟨qs[k]'(by have:=(List.getElem?_eq_some_iff.1 hc).1;have:=h.2.1;omega),by simp⟩
 obtain ⟨r1,r2⟩:=h.2.2.1 k q c hq hc
 exact ⟨q.2,by rw [hq,← r1],r2⟩
theorem OwnN.mod (hne:e1≠e2) (h:OwnN encA (p+1) s2 encB e1 e2 base w v qs L) {k:Nat} {a:A} {hd hd':Hdr} {c':List β} (hq:qs[k]?=some (a,hd)) (ho:OwnL s2 encB e2 base w' hd'.val c')
  (kk:Chg (fun x=>x<w.heap.size∧¬ hd.val.ownBlock=some x) w w') (hat:hd'.val.ownBlock=hd.val.ownBlock∨∀ x,hd'.val.ownBlock=some x→w.heap.size≤x) :
  OwnW (p+1) (encP encA) e1 base w' v qs∧(∀ (j:Nat) (q:A×Hdr) (c:A×List β),j≠k→qs[j]?=some q→L[j]?=some c→q.1=c.1∧OwnL s2 encB e2 base w' q.2.val c.2) ∧
   (∀ x,hd'.val.ownBlock=some x→¬ v.ownBlock=some x)∧∀ (j:Nat) (q:A×Hdr) (x:Nat),j≠k→qs[j]?=some q→q.2.val.ownBlock=some x→¬ hd'.val.ownBlock=some x:=by
 have ho1:OwnW (p+1) (encP encA) e1 base w' v qs:=h.1.chg kk (fun x hx hv=>⟨hx,fun hh=>h.ne hne hq hh hv⟩)
 refine ⟨ho1,fun j q c hjk hr hc=>?_,fun x hx hv=>?_,fun j q x hjk hr hx hy=>?_⟩
 ·obtain ⟨r1,r2⟩:=h.2.2.1 j q c hr hc
  exact ⟨r1,r2.chg kk (fun x hx hv=>⟨hx,fun hh=>hjk (h.2.2.2 j k q (a,hd) x hr hq hv hh)⟩)⟩
 ·obtain ⟨_,cur,h1⟩:=ho.blk hx
  obtain ⟨_,cur',h2⟩:=ho1.blk hv
  rw [h1] at h2
  simp at h2
  exact hne h2.2.symm
 ·rcases hat with h1 | h1
  ·exact hjk (h.2.2.2 j k q (a,hd) x hr hq hx (h1▸hy))
  ·have:=h.lt hr hx
   have:=h1 x hy
   omega
theorem OwnN.put (hA:∀ y,(encA y).length=p) (hne:e1≠e2) {g n cap:Nat} (h:OwnN encA (p+1) s2 encB e1 e2 base w (.slice (some ⟨g,0,none⟩) n cap) qs L) {k:Nat} {a:A} {hd hd':Hdr} {c':List β} (hq:qs[k]?=some (a,hd))
  (ho:OwnL s2 encB e2 base w' hd'.val c') (kk:Chg (fun x=>x<w.heap.size∧¬ hd.val.ownBlock=some x) w w') (hat:hd'.val.ownBlock=hd.val.ownBlock∨∀ x,hd'.val.ownBlock=some x→w.heap.size≤x) :
  w'.cell? ⟨g,k*(p+1)+p,none⟩=some hd.val∧w'.frozen? ⟨g,k*(p+1)+p,none⟩=false ∧
   OwnN encA (p+1) s2 encB e1 e2 base (w'.setCell ⟨g,k*(p+1)+p,none⟩ hd'.val) (.slice (some ⟨g,0,none⟩) n cap) (qs.set k (a,hd')) (L.set k (a,c')):=by
 obtain ⟨o1,o2,o3,o4⟩:=h.mod hne hq ho kk hat
 have hsz:∀ y,(encP encA y).length=p+1:=fun y=>by unfold encP;simp [hA]
 obtain ⟨f1,f2,f3⟩:=o1.set1 hsz hq (c:=p) (by omega)
 have hkl:=(List.getElem?_eq_some_iff.1 hq).1
 have hset:Chg (·≠g) w' (w'.setCell ⟨g,k*(p+1)+p,none⟩ hd'.val):=(Chg.refl _ w').setCell _ (fun x hx=>hx)
 have hgb:(Value.slice (some ⟨g,0,none⟩) n cap).ownBlock=some g:=rfl
 refine ⟨?_,f2,f3 (a,hd') hd'.val ?_,by simp [h.2.1],fun j r c hr hc=>?_,fun i j qi qj x hi hj gi gj=>?_⟩
 ·rw [f1]
  unfold encP
  rw [List.getElem?_append_right (by rw [hA];exact Nat.le_refl _),hA,Nat.sub_self]
  rfl
 ·unfold encP
  rw [List.set_append_right _ _ (by rw [hA];exact Nat.le_refl _),hA,Nat.sub_self]
  rfl
 ·by_cases hjk:j=k
  ·subst hjk
   rw [List.getElem?_set_self hkl] at hr
   rw [List.getElem?_set_self (by rw [← h.2.1];exact hkl)] at hc
   cases hr
   cases hc
   exact ⟨rfl,ho.chg hset (fun x _ hv=>by intro he;subst he;exact o3 _ hv hgb)⟩
  ·rw [List.getElem?_set_ne (by omega)] at hr hc
   obtain ⟨r1,r2⟩:=o2 j r c hjk hr hc
   refine ⟨r1,r2.chg hset (fun x _ hv=>?_)⟩
   intro he
   subst he
   exact h.ne hne hr hv hgb
 ·by_cases hik:i=k
  ·by_cases hjk:j=k
   ·omega
   ·exfalso
    subst hik
    rw [List.getElem?_set_self hkl] at hi
    cases hi
    rw [List.getElem?_set_ne (by omega)] at hj
    exact o4 j qj x hjk hj gj gi
  ·rw [List.getElem?_set_ne (by omega)] at hi
   by_cases hjk:j=k
   ·exfalso
    subst hjk
    rw [List.getElem?_set_self hkl] at hj
    cases hj
    exact o4 i qi x hik hi gi gj
   ·rw [List.getElem?_set_ne (by omega)] at hj
    exact h.2.2.2 i j qi qj x hi hj gi gj
theorem OwnN.keep (hne:e1≠e2) (h:OwnN encA (p+1) s2 encB e1 e2 base w v qs L) {k:Nat} {a:A} {hd:Hdr} {c':List β} (hq:qs[k]?=some (a,hd)) (ho:OwnL s2 encB e2 base w' hd.val c')
  (kk:Chg (fun x=>x<w.heap.size∧¬ hd.val.ownBlock=some x) w w'):OwnN encA (p+1) s2 encB e1 e2 base w' v qs (L.set k (a,c')):=by
 obtain ⟨o1,o2,o3,o4⟩:=h.mod hne hq ho kk (.inl rfl)
 have hkl:=(List.getElem?_eq_some_iff.1 hq).1
 refine ⟨o1,by simp [h.2.1],fun j r c hr hc=>?_,h.2.2.2⟩
 by_cases hjk:j=k
 ·subst hjk
  rw [List.getElem?_set_self (by rw [← h.2.1];exact hkl)] at hc
  obtain rfl:(a,hd)=r:=Option.some.inj (hq.symm.trans hr)
  cases hc
  exact ⟨rfl,ho⟩
 ·rw [List.getElem?_set_ne (by omega)] at hc
  exact o2 j r c hjk hr hc
theorem get_erase {α:Type} (l:List α) (k i:Nat):(l.take k++l.drop (k+1))[i]?=if k≤l.length then (if i<k then l[i]? else l[i+1]?) else l[i]?:=by
 by_cases hk:k≤l.length
 ·rw [if_pos hk]
  by_cases hi:i<k
  ·rw [if_pos hi,List.getElem?_append_left (by rw [List.length_take];omega),List.getElem?_take,if_pos hi]
  ·rw [if_neg hi,List.getElem?_append_right (by rw [List.length_take];omega),List.length_take,List.getElem?_drop]
   congr 1
   omega
 ·rw [if_neg hk,List.take_of_length_le (by omega),List.drop_of_length_le (by omega),List.append_nil]
theorem OwnN.erase (hne:e1≠e2) (h:OwnN encA (p+1) s2 encB e1 e2 base w v qs L) {k:Nat} (hk:k<L.length) (ho:OwnW (p+1) (encP encA) e1 base w' v' (qs.take k++qs.drop (k+1)))
  (kk:Chg (fun x=>x<w.heap.size∧¬ v.ownBlock=some x) w w'):OwnN encA (p+1) s2 encB e1 e2 base w' v' (qs.take k++qs.drop (k+1)) (L.take k++L.drop (k+1)):=by
 have hl:=h.2.1
 refine ⟨ho,by simp;omega,fun j q c hq hc=>?_,fun i j qi qj x hi hj gi gj=>?_⟩
 ·rw [get_erase,if_pos (by omega)] at hq hc
  have key:∀ j,qs[j]?=some q→L[j]?=some c→q.1=c.1∧OwnL s2 encB e2 base w' q.2.val c.2:=fun j hq hc=>by
   obtain ⟨r1,r2⟩:=h.2.2.1 j q c hq hc
   exact ⟨r1,r2.chg kk (fun x hx hv=>⟨hx,h.ne hne hq hv⟩)⟩
  split at hq
  ·rename_i hj
   rw [if_pos hj] at hc
   exact key j hq hc
  ·rename_i hj
   rw [if_neg hj] at hc
   exact key (j+1) hq hc
 ·rw [get_erase,if_pos (by omega)] at hi hj
  split at hi<;>split at hj
  ·exact h.2.2.2 i j qi qj x hi hj gi gj
  ·have:=h.2.2.2 i (j+1) qi qj x hi hj gi gj;omega
  ·have:=h.2.2.2 (i+1) j qi qj x hi hj gi gj;omega
  ·have:=h.2.2.2 (i+1) (j+1) qi qj x hi hj gi gj;omega
theorem OwnL.lit {α:Type} {sz:Nat} {enc:α→List Value} {e:TypeId} {base:Nat} {w:World} (l:List α) (hsz:∀ y,(enc y).length=sz) (hb:base≤w.heap.size) (hl:l.length≤maxLen) {cs:Array Value} (hc:cs=(l.flatMap enc).toArray) :
  OwnL sz enc e base (w.alloc (.cells cs e)) (.slice (some ⟨w.heap.size,0,none⟩) l.length l.length) l:=by
 subst hc
 have hf:(l.flatMap enc).length=l.length*sz:=flatN_len hsz l
 exact ⟨hf,.inr ⟨w.heap.size,l.length,_,rfl,hb,heap_new w _,Nat.le_refl _,hl,by simp [hf],by simp only [← hf,List.toList_toArray];exact List.take_length⟩⟩
end
abbrev Nr:=Int×Int×Int×Int
structure Pr where
 id:Int
 left:Int
 right:Int
 known:List Int
 near:List Nr
def encNr (x:Nr):List Value:=[.int .i64 x.1,.int .i64 x.2.1,.int .i64 x.2.2.1,.int .i64 x.2.2.2]
abbrev PQ:=(Int×Int×Int)×Hdr×Hdr
def encQ (q:PQ):List Value:=[.int .i64 q.1.1,q.2.1.val,.int .i64 q.1.2.1,.int .i64 q.1.2.2,q.2.2.val]
def Pr.nums (p:Pr):Int×Int×Int:=(p.id,p.left,p.right)
def PrV (w:World) (q:PQ) (p:Pr):Prop:=q.1=p.nums∧Sl 1 encI w q.2.1.1 q.2.1.2.1 p.known∧Sl 4 encNr w q.2.2.1 q.2.2.2.1 p.near
def PL (w:World) (a:Option Addr) (n:Nat) (P:List Pr):Prop:=∃ qs:List PQ,Sl 5 encQ w a n qs∧P.length=n∧∀ (j:Nat) (q:PQ) (p:Pr),qs[j]?=some q→P[j]?=some p→PrV w q p
def PrVb (b:Nat) (w:World) (q:PQ) (p:Pr):Prop:=q.1=p.nums∧Slb 1 encI b w q.2.1.1 q.2.1.2.1 p.known∧Slb 4 encNr b w q.2.2.1 q.2.2.2.1 p.near
def PLb (b:Nat) (w:World) (a:Option Addr) (n:Nat) (P:List Pr):Prop:=∃ qs:List PQ,Slb 5 encQ b w a n qs∧P.length=n∧∀ (j:Nat) (q:PQ) (p:Pr),qs[j]?=some q→P[j]?=some p→PrVb b w q p
section
variable {w w':World} {a:Option Addr} {n b:Nat} {P:List Pr} {q:PQ} {p:Pr}
theorem PrV.nx (h:PrV w q p) (k:Ex w w'):PrV w' q p:=⟨h.1,h.2.1.nx k,h.2.2.nx k⟩
theorem PrVb.nxb (h:PrVb b w q p) (k:Exb b w w'):PrVb b w' q p:=⟨h.1,h.2.1.nxb k,h.2.2.nxb k⟩
theorem PrVb.v (h:PrVb b w q p):PrV w q p:=⟨h.1,h.2.1.sl,h.2.2.sl⟩
theorem PrV.vb (h:PrV w q p) (hb:w.heap.size≤b):PrVb b w q p:=⟨h.1,h.2.1.slb hb,h.2.2.slb hb⟩
theorem PL.nx (h:PL w a n P) (k:Ex w w'):PL w' a n P:=by
 obtain ⟨qs,h1,h2,h3⟩:=h
 exact ⟨qs,h1.nx k,h2,fun j q p hq hp=>(h3 j q p hq hp).nx k⟩
theorem PLb.nxb (h:PLb b w a n P) (k:Exb b w w'):PLb b w' a n P:=by
 obtain ⟨qs,h1,h2,h3⟩:=h
 exact ⟨qs,h1.nxb k,h2,fun j q p hq hp=>(h3 j q p hq hp).nxb k⟩
theorem PLb.pl (h:PLb b w a n P):PL w a n P:=by
 obtain ⟨qs,h1,h2,h3⟩:=h
 exact ⟨qs,h1.sl,h2,fun j q p hq hp=>(h3 j q p hq hp).v⟩
theorem PL.len (h:PL w a n P):P.length=n:=by obtain ⟨_,_,h2,_⟩:=h;exact h2
theorem PLb.len (h:PLb b w a n P):P.length=n:=by obtain ⟨_,_,h2,_⟩:=h;exact h2
theorem PL.nil (w:World) (a:Option Addr):PL w a 0 []:=⟨[],Sl.nil _ _ _ _,rfl,by intro j q p h;simp at h⟩
theorem PL.at (h:PL w a n P) {j:Nat} (hj:j<n) :
  ∃ (x o:Nat) (a1:Option Addr) (n1 c1:Nat) (a2:Option Addr) (n2 c2:Nat) (p:Pr),a=some ⟨x,o,none⟩∧x<w.heap.size∧P[j]?=some p ∧
   (∀ i u,(encQ (p.nums,(a1,n1,c1),(a2,n2,c2)))[i]?=some u→w.cell? ⟨x,o+j*5+i,none⟩=some u)∧Sl 1 encI w a1 n1 p.known∧Sl 4 encNr w a2 n2 p.near:=by
 obtain ⟨qs,h1,h2,h3⟩:=h
 obtain ⟨x,o,q,e,hx,hq,hc⟩:=h1.at hj
 obtain ⟨p,hp⟩:∃ p,P[j]?=some p:=⟨P[j]'(by omega),by simp⟩
 obtain ⟨r1,r2,r3⟩:=h3 j q p hq hp
 obtain ⟨q0,⟨a1,n1,c1⟩,a2,n2,c2⟩:=q
 simp only at r1 r2 r3
 subst r1
 exact ⟨x,o,a1,n1,c1,a2,n2,c2,p,e,hx,hp,hc,r2,r3⟩
end
def OwnP (eP eI eN:TypeId) (base:Nat) (w:World) (v:Value) (qs:List PQ) (P:List Pr):Prop :=
 OwnW 5 encQ eP base w v qs∧qs.length=P.length ∧
 (∀ (j:Nat) (q:PQ) (p:Pr),qs[j]?=some q→P[j]?=some p→q.1=p.nums∧OwnL 1 encI eI base w q.2.1.val p.known∧OwnL 4 encNr eN base w q.2.2.val p.near) ∧
 (∀ (i j:Nat) (qi qj:PQ) (g:Nat),qs[i]?=some qi→qs[j]?=some qj→qi.2.1.val.ownBlock=some g→qj.2.1.val.ownBlock=some g→i=j) ∧
 (∀ (i j:Nat) (qi qj:PQ) (g:Nat),qs[i]?=some qi→qs[j]?=some qj→qi.2.2.val.ownBlock=some g→qj.2.2.val.ownBlock=some g→i=j)
section
variable {eP eI eN:TypeId} {base:Nat} {w w':World} {v v':Value} {qs:List PQ} {P:List Pr}
theorem OwnP.nil (eP eI eN:TypeId) (base:Nat) (w:World):OwnP eP eI eN base w (.slice none 0 0) [] [] :=
 ⟨OwnW.nil _ _ _ _ _,rfl,by intro j q p h;simp at h,by intro i j qi qj g h;simp at h,by intro i j qi qj g h;simp at h⟩
theorem OwnP.nx (h:OwnP eP eI eN base w v qs P) (k:Ex w w'):OwnP eP eI eN base w' v qs P :=
 ⟨h.1.nx k,h.2.1,fun j q p hq hp=>⟨(h.2.2.1 j q p hq hp).1,(h.2.2.1 j q p hq hp).2.1.nx k,(h.2.2.1 j q p hq hp).2.2.nx k⟩,h.2.2.2⟩
theorem OwnP.nxb {b:Nat} (h:OwnP eP eI eN base w v qs P) (hb:b<base) (k:Exb b w w'):OwnP eP eI eN base w' v qs P :=
 ⟨h.1.nxb hb k,h.2.1,fun j q p hq hp=>⟨(h.2.2.1 j q p hq hp).1,(h.2.2.1 j q p hq hp).2.1.nxb hb k,(h.2.2.1 j q p hq hp).2.2.nxb hb k⟩,h.2.2.2⟩
theorem OwnP.lower {base':Nat} (h:OwnP eP eI eN base w v qs P) (hb:base'≤base):OwnP eP eI eN base' w v qs P :=
 ⟨h.1.lower hb,h.2.1,fun j q p hq hp=>⟨(h.2.2.1 j q p hq hp).1,(h.2.2.1 j q p hq hp).2.1.base hb,(h.2.2.1 j q p hq hp).2.2.base hb⟩,h.2.2.2⟩
theorem blk_kind {g:Nat} {c1 c2:Array Value} {e1 e2:TypeId} (hne:e1≠e2) (h1:w.heap[g]?=some (.cells c1 e1 (0,0))) (h2:w.heap[g]?=some (.cells c2 e2 (0,0))):False:=by
 rw [h1] at h2
 simp at h2
 exact hne h2.2
theorem OwnP.getp (h:OwnP eP eI eN base w v qs P) {j:Nat} {q:PQ} (hq:qs[j]?=some q):∃ p,P[j]?=some p∧q.1=p.nums∧OwnL 1 encI eI base w q.2.1.val p.known∧OwnL 4 encNr eN base w q.2.2.val p.near:=by
 obtain ⟨p,hp⟩:∃ p,P[j]?=some p:=⟨P[j]'(by have:=(List.getElem?_eq_some_iff.1 hq).1;have:=h.2.1;omega),by simp⟩
 exact ⟨p,hp,h.2.2.1 j q p hq hp⟩
theorem OwnP.get (h:OwnP eP eI eN base w v qs P) {j:Nat} {p:Pr} (hp:P[j]?=some p):∃ hk hn:Hdr,qs[j]?=some (p.nums,hk,hn)∧OwnL 1 encI eI base w hk.val p.known∧OwnL 4 encNr eN base w hn.val p.near:=by
 obtain ⟨q,hq⟩:∃ q,qs[j]?=some q:=⟨qs[j]'(by have:=(List.getElem?_eq_some_iff.1 hp).1;have:=h.2.1;omega),by simp⟩
 obtain ⟨r1,r2,r3⟩:=h.2.2.1 j q p hq hp
 obtain ⟨q0,hk,hn⟩:=q
 simp only at r1 r2 r3
 subst r1
 exact ⟨hk,hn,hq,r2,r3⟩
theorem OwnP.neI (hI:eP≠eI) (h:OwnP eP eI eN base w v qs P) {j g:Nat} {q:PQ} (hq:qs[j]?=some q) (hg:q.2.1.val.ownBlock=some g):¬ v.ownBlock=some g:=fun hv=>by
 obtain ⟨p,_,_,r2,_⟩:=h.getp hq
 obtain ⟨_,c1,h1⟩:=r2.blk hg
 obtain ⟨_,c2,h2⟩:=h.1.blk hv
 exact blk_kind hI h2 h1
theorem OwnP.neN (hN:eP≠eN) (h:OwnP eP eI eN base w v qs P) {j g:Nat} {q:PQ} (hq:qs[j]?=some q) (hg:q.2.2.val.ownBlock=some g):¬ v.ownBlock=some g:=fun hv=>by
 obtain ⟨p,_,_,_,r3⟩:=h.getp hq
 obtain ⟨_,c1,h1⟩:=r3.blk hg
 obtain ⟨_,c2,h2⟩:=h.1.blk hv
 exact blk_kind hN h2 h1
theorem OwnP.push (hI:eP≠eI) (hN:eP≠eN) (h:OwnP eP eI eN base w v qs P) {p:Pr} {hk hn:Hdr} (ho:OwnW 5 encQ eP base w' v' (qs++[(p.nums,hk,hn)]))
  (k:Chg (fun k=>k<w.heap.size∧¬ v.ownBlock=some k) w w') (ik:OwnL 1 encI eI base w hk.val p.known) (inr:OwnL 4 encNr eN base w hn.val p.near)
  (fk:∀ (j:Nat) (r:PQ) (g:Nat),qs[j]?=some r→r.2.1.val.ownBlock=some g→¬ hk.val.ownBlock=some g) (fn:∀ (j:Nat) (r:PQ) (g:Nat),qs[j]?=some r→r.2.2.val.ownBlock=some g→¬ hn.val.ownBlock=some g) :
  OwnP eP eI eN base w' v' (qs++[(p.nums,hk,hn)]) (P++[p]):=by
 have nk:∀ g,hk.val.ownBlock=some g→¬ v.ownBlock=some g:=fun g hg hv=>by
  obtain ⟨_,c1,h1⟩:=ik.blk hg
  obtain ⟨_,c2,h2⟩:=h.1.blk hv
  exact blk_kind hI h2 h1
 have nn:∀ g,hn.val.ownBlock=some g→¬ v.ownBlock=some g:=fun g hg hv=>by
  obtain ⟨_,c1,h1⟩:=inr.blk hg
  obtain ⟨_,c2,h2⟩:=h.1.blk hv
  exact blk_kind hN h2 h1
 have last:∀ (i:Nat) (r:PQ),(qs++[(p.nums,hk,hn)])[i]?=some r→(i<qs.length∧qs[i]?=some r)∨(i=qs.length∧r=(p.nums,hk,hn)):=by
  intro i r hr
  rcases Nat.lt_or_ge i qs.length with hl | hl
  ·rw [List.getElem?_append_left hl] at hr;exact .inl ⟨hl,hr⟩
  ·obtain rfl:i=qs.length:=by have:=(List.getElem?_eq_some_iff.1 hr).1;simp at this;omega
   simp at hr
   exact .inr ⟨rfl,hr.symm⟩
 refine ⟨ho,by simp [h.2.1],fun j r d hr hd=>?_,fun i j qi qj g hi hj gi gj=>?_,fun i j qi qj g hi hj gi gj=>?_⟩
 ·rcases last j r hr with ⟨h1,h2⟩ | ⟨h1,h2⟩
  ·rw [List.getElem?_append_left (by rw [← h.2.1];exact h1)] at hd
   obtain ⟨r1,r2,r3⟩:=h.2.2.1 j r d h2 hd
   exact ⟨r1,r2.chg k (fun x hx hv=>⟨hx,h.neI hI h2 hv⟩),r3.chg k (fun x hx hv=>⟨hx,h.neN hN h2 hv⟩)⟩
  ·subst h1 h2
   rw [h.2.1] at hd
   simp at hd
   subst hd
   exact ⟨rfl,ik.chg k (fun x hx hv=>⟨hx,nk x hv⟩),inr.chg k (fun x hx hv=>⟨hx,nn x hv⟩)⟩
 ·rcases last i qi hi with ⟨h1,h2⟩ | ⟨h1,h2⟩<;>rcases last j qj hj with ⟨h3,h4⟩ | ⟨h3,h4⟩
  ·exact h.2.2.2.1 i j qi qj g h2 h4 gi gj
  ·subst h4;exact absurd gj (fk i qi g h2 gi)
  ·subst h2;exact absurd gi (fk j qj g h4 gj)
  ·omega
 ·rcases last i qi hi with ⟨h1,h2⟩ | ⟨h1,h2⟩<;>rcases last j qj hj with ⟨h3,h4⟩ | ⟨h3,h4⟩
  ·exact h.2.2.2.2 i j qi qj g h2 h4 gi gj
  ·subst h4;exact absurd gj (fn i qi g h2 gi)
  ·subst h2;exact absurd gi (fn j qj g h4 gj)
  ·omega
theorem encQ_len (q:PQ):(encQ q).length=5:=rfl
theorem OwnP.pl (h:OwnP eP eI eN base w v qs P) :
  ∃ a cap,v=.slice a P.length cap∧PL w a P.length P∧P.length≤cap∧cap≤maxLen∧(P≠[]→∃ g,a=some ⟨g,0,none⟩∧base≤g)∧(a=none→cap=0):=by
 obtain ⟨a,cap,e,r,c1,c2,c3,c4⟩:=h.1.rd encQ_len
 rw [h.2.1] at e r c1
 refine ⟨a,cap,e,⟨qs,Rd.mono r (fun _ hk=>hk.2),rfl,fun j q p hq hp=>?_⟩,c1,c2,fun hL=>c3 (fun h0=>hL ?_),c4⟩
 ·obtain ⟨r1,r2,r3⟩:=h.2.2.1 j q p hq hp
  refine ⟨r1,?_,?_⟩
  ·obtain ⟨a',cap',e',r',_⟩:=r2.rd (fun _=>rfl)
   obtain ⟨q0,⟨x1,x2,x3⟩,hn⟩:=q
   simp only [Hdr.val,Value.slice.injEq] at e'
   obtain ⟨rfl,rfl,rfl⟩:=e'
   exact Rd.mono r' (fun _ hk=>hk.2)
  ·obtain ⟨a',cap',e',r',_⟩:=r3.rd (fun _=>rfl)
   obtain ⟨q0,hk,⟨x1,x2,x3⟩⟩:=q
   simp only [Hdr.val,Value.slice.injEq] at e'
   obtain ⟨rfl,rfl,rfl⟩:=e'
   exact Rd.mono r' (fun _ hk=>hk.2)
 ·have:=h.2.1
  rw [h0] at this
  exact List.eq_nil_of_length_eq_zero this.symm
end
end Go.Proofs.YthcholmhmcpooaaGreatDoor
