/- Shared texts. -/
import Derived.Test.YthcholmhmcpooaaGreatDoorWAll10
import Derived.Test.YthcholmhmcpooaaGreatDoorWAll12
set_option linter.unusedSimpArgs false
set_option linter.unusedVariables false

namespace Go.Proofs.YthcholmhmcpooaaGreatDoor
open Go.RowKit
def InQ (qs:List (Int×Hdr)) (k:Nat):Prop:=∃ (j:Nat) (r:Int×Hdr),qs[j]?=some r∧r.2.val.ownBlock=some k
def Exq (qs:List (Int×Hdr)) (w w':World):Prop:=Chg (fun k=>k<w.heap.size∧¬ InQ qs k) w w'
theorem Exq.refl (qs:List (Int×Hdr)) (w:World):Exq qs w w:=Chg.refl _ w
theorem Exq.size {qs:List (Int×Hdr)} {w w':World} (k:Exq qs w w'):w.heap.size≤w'.heap.size:=Chg.size k
theorem Exq.nxq {qs:List (Int×Hdr)} {w w1 w2:World} (h:Exq qs w w1) (k:Exq qs w1 w2):Exq qs w w2:=Chg.trans h (Chg.mono k (fun _ hk=>⟨Nat.lt_of_lt_of_le hk.1 h.size,hk.2⟩))
theorem Exq.nx {qs:List (Int×Hdr)} {w w1 w2:World} (h:Exq qs w w1) (k:Ex w1 w2):Exq qs w w2:=Chg.trans h (Chg.mono k (fun _ hk=>Nat.lt_of_lt_of_le hk.1 h.size))
theorem Exq.of_ex {qs:List (Int×Hdr)} {w w':World} (k:Ex w w'):Exq qs w w':=Chg.mono k (fun _ hk=>hk.1)
theorem Exq.set {qs:List (Int×Hdr)} {w w':World} (h:Exq qs w w') {p:Addr} (v:Value) (hp:InQ qs p.block):Exq qs w (w'.setCell p v):=Chg.setCell h v (fun k hk he=>hk.2 (he▸hp))
theorem inQ_base {base:Nat} {w:World} {v:Value} {qs:List (Int×Hdr)} {L:List Lkd} (h:OwnLk base w v qs L) {k:Nat} (hk:InQ qs k):base≤k∧k<w.heap.size:=by
 obtain ⟨j,r,hr,hg⟩:=hk
 exact ⟨(OwnN.blk h hr hg).1,OwnN.lt h hr hg⟩
theorem inQ_ne {base:Nat} {w:World} {v:Value} {qs:List (Int×Hdr)} {L:List Lkd} (h:OwnLk base w v qs L) {k:Nat} (hk:v.ownBlock=some k):¬ InQ qs k:=by
 rintro ⟨j,r,hr,hg⟩
 exact OwnN.ne (by decide) h hr hg hk
def ILt (T:Nat→Prop) (w:World) (a:Option Addr) (n:Nat) (M:List (List Int)):Prop :=
 ∃ hs:List (Unit×Hdr),Rd 1 (encP enc0) T w a n hs∧M.length=n∧∀ (j:Nat) (q:Unit×Hdr) (c:List Int),hs[j]?=some q→M[j]?=some c→Rd 1 encI T w q.2.1 q.2.2.1 c
theorem ILt.chg {T:Nat→Prop} {w w':World} {a:Option Addr} {n:Nat} {M:List (List Int)} (h:ILt T w a n M) (k:Chg T w w'):ILt T w' a n M:=by
 obtain ⟨hs,h1,h2,h3⟩:=h
 exact ⟨hs,Rd.chg h1 k (fun _ x=>x),h2,fun j q c hq hc=>Rd.chg (h3 j q c hq hc) k (fun _ x=>x)⟩
theorem ILt.at {T:Nat→Prop} {w:World} {a:Option Addr} {n:Nat} {M:List (List Int)} (h:ILt T w a n M) {j:Nat} (hj:j<n) :
  ∃ x o a' n' c' c,a=some ⟨x,o,none⟩∧T x∧M[j]?=some c∧w.cell? ⟨x,o+j,none⟩=some (.slice a' n' c')∧Rd 1 encI T w a' n' c:=by
 obtain ⟨hs,h1,h2,h3⟩:=h
 obtain ⟨x,o,q,e,hx,hq,hc⟩:=Rd.at h1 hj
 obtain ⟨c,hcc⟩:∃ c,M[j]?=some c:=⟨M[j]'(by omega),by simp⟩
 refine ⟨x,o,q.2.1,q.2.2.1,q.2.2.2,c,e,hx,hcc,?_,h3 j q c hq hcc⟩
 have:=hc 0 _ rfl
 rw [Nat.mul_one,Nat.add_zero] at this
 exact this
theorem OwnIL.ilt {base:Nat} {w:World} {v:Value} {qs:List (Unit×Hdr)} {M:List (List Int)} (h:OwnIL base w v qs M) :
  ∃ a cap,v=.slice a M.length cap∧ILt (fun k=>base≤k∧k<w.heap.size) w a M.length M:=by
 obtain ⟨a,cap,e,r,c1,c2,c3,c4⟩:=h.1.rd (fun _=>rfl)
 have hl:=h.2.1
 rw [List.length_map] at hl
 rw [hl] at e r
 refine ⟨a,cap,e,qs,r,rfl,fun j q c hq hc=>?_⟩
 obtain ⟨r1,r2⟩:=h.2.2.1 j q (pairU c) hq (by rw [List.getElem?_map,hc];rfl)
 obtain ⟨a',cap',e',r',_⟩:=r2.rd (fun _=>rfl)
 obtain ⟨x,q1,q2,q3⟩:=q
 simp only [Hdr.val,Value.slice.injEq] at e'
 obtain ⟨rfl,rfl,rfl⟩:=e'
 exact r'
theorem mkLk0 (w:World):(Instr.makeSlice 119 (.int .i64 1) (.int .i64 1)).run Tryz.prog w=.ok (.slice (some ⟨w.heap.size,0,none⟩) 1 1) (w.alloc (.cells ((List.replicate 1 ((0,0):Int×Int)).flatMap encS).toArray 128)):=by kernel_rfl
theorem mkLk1 (w:World):(Instr.makeSlice 119 (.int .i64 2) (.int .i64 2)).run Tryz.prog w=.ok (.slice (some ⟨w.heap.size,0,none⟩) 2 2) (w.alloc (.cells ((List.replicate 2 ((0,0):Int×Int)).flatMap encS).toArray 128)):=by kernel_rfl
theorem mkLk2 (w:World):(Instr.makeSlice 119 (.int .i64 3) (.int .i64 3)).run Tryz.prog w=.ok (.slice (some ⟨w.heap.size,0,none⟩) 3 3) (w.alloc (.cells ((List.replicate 3 ((0,0):Int×Int)).flatMap encS).toArray 128)):=by kernel_rfl
theorem mkLk3 (w:World):(Instr.makeSlice 119 (.int .i64 4) (.int .i64 4)).run Tryz.prog w=.ok (.slice (some ⟨w.heap.size,0,none⟩) 4 4) (w.alloc (.cells ((List.replicate 4 ((0,0):Int×Int)).flatMap encS).toArray 128)):=by kernel_rfl
theorem mkLk4 (w:World):(Instr.makeSlice 119 (.int .i64 5) (.int .i64 5)).run Tryz.prog w=.ok (.slice (some ⟨w.heap.size,0,none⟩) 5 5) (w.alloc (.cells ((List.replicate 5 ((0,0):Int×Int)).flatMap encS).toArray 128)):=by kernel_rfl
theorem mkLk5 (w:World):(Instr.makeSlice 119 (.int .i64 6) (.int .i64 6)).run Tryz.prog w=.ok (.slice (some ⟨w.heap.size,0,none⟩) 6 6) (w.alloc (.cells ((List.replicate 6 ((0,0):Int×Int)).flatMap encS).toArray 128)):=by kernel_rfl
theorem mkLk6 (w:World):(Instr.makeSlice 119 (.int .i64 7) (.int .i64 7)).run Tryz.prog w=.ok (.slice (some ⟨w.heap.size,0,none⟩) 7 7) (w.alloc (.cells ((List.replicate 7 ((0,0):Int×Int)).flatMap encS).toArray 128)):=by kernel_rfl
theorem mkLk7 (w:World):(Instr.makeSlice 119 (.int .i64 8) (.int .i64 8)).run Tryz.prog w=.ok (.slice (some ⟨w.heap.size,0,none⟩) 8 8) (w.alloc (.cells ((List.replicate 8 ((0,0):Int×Int)).flatMap encS).toArray 128)):=by kernel_rfl
theorem mkLk8 (w:World):(Instr.makeSlice 119 (.int .i64 9) (.int .i64 9)).run Tryz.prog w=.ok (.slice (some ⟨w.heap.size,0,none⟩) 9 9) (w.alloc (.cells ((List.replicate 9 ((0,0):Int×Int)).flatMap encS).toArray 128)):=by kernel_rfl
theorem mkLk9 (w:World):(Instr.makeSlice 119 (.int .i64 10) (.int .i64 10)).run Tryz.prog w=.ok (.slice (some ⟨w.heap.size,0,none⟩) 10 10) (w.alloc (.cells ((List.replicate 10 ((0,0):Int×Int)).flatMap encS).toArray 128)):=by kernel_rfl
theorem mkLk10 (w:World):(Instr.makeSlice 119 (.int .i64 11) (.int .i64 11)).run Tryz.prog w=.ok (.slice (some ⟨w.heap.size,0,none⟩) 11 11) (w.alloc (.cells ((List.replicate 11 ((0,0):Int×Int)).flatMap encS).toArray 128)):=by kernel_rfl
theorem mkLk11 (w:World):(Instr.makeSlice 119 (.int .i64 12) (.int .i64 12)).run Tryz.prog w=.ok (.slice (some ⟨w.heap.size,0,none⟩) 12 12) (w.alloc (.cells ((List.replicate 12 ((0,0):Int×Int)).flatMap encS).toArray 128)):=by kernel_rfl
theorem mkLk12 (w:World):(Instr.makeSlice 119 (.int .i64 13) (.int .i64 13)).run Tryz.prog w=.ok (.slice (some ⟨w.heap.size,0,none⟩) 13 13) (w.alloc (.cells ((List.replicate 13 ((0,0):Int×Int)).flatMap encS).toArray 128)):=by kernel_rfl
theorem mkLk13 (w:World):(Instr.makeSlice 119 (.int .i64 14) (.int .i64 14)).run Tryz.prog w=.ok (.slice (some ⟨w.heap.size,0,none⟩) 14 14) (w.alloc (.cells ((List.replicate 14 ((0,0):Int×Int)).flatMap encS).toArray 128)):=by kernel_rfl
theorem mkLk14 (w:World):(Instr.makeSlice 119 (.int .i64 15) (.int .i64 15)).run Tryz.prog w=.ok (.slice (some ⟨w.heap.size,0,none⟩) 15 15) (w.alloc (.cells ((List.replicate 15 ((0,0):Int×Int)).flatMap encS).toArray 128)):=by kernel_rfl
theorem mkLk15 (w:World):(Instr.makeSlice 119 (.int .i64 16) (.int .i64 16)).run Tryz.prog w=.ok (.slice (some ⟨w.heap.size,0,none⟩) 16 16) (w.alloc (.cells ((List.replicate 16 ((0,0):Int×Int)).flatMap encS).toArray 128)):=by kernel_rfl
theorem mkLk16 (w:World):(Instr.makeSlice 119 (.int .i64 17) (.int .i64 17)).run Tryz.prog w=.ok (.slice (some ⟨w.heap.size,0,none⟩) 17 17) (w.alloc (.cells ((List.replicate 17 ((0,0):Int×Int)).flatMap encS).toArray 128)):=by kernel_rfl
theorem mkLk (m M1:Nat) (hm:m≤16) (h:M1=m+1) (w:World):(Instr.makeSlice 119 (.int .i64 ((m:Int)+1)) (.int .i64 ((m:Int)+1))).run Tryz.prog w =
  .ok (.slice (some ⟨w.heap.size,0,none⟩) M1 M1) (w.alloc (.cells ((List.replicate M1 ((0,0):Int×Int)).flatMap encS).toArray 128)):=by
 subst h
 match m,hm with
 | 0,_=>exact mkLk0 w
 | 1,_=>exact mkLk1 w
 | 2,_=>exact mkLk2 w
 | 3,_=>exact mkLk3 w
 | 4,_=>exact mkLk4 w
 | 5,_=>exact mkLk5 w
 | 6,_=>exact mkLk6 w
 | 7,_=>exact mkLk7 w
 | 8,_=>exact mkLk8 w
 | 9,_=>exact mkLk9 w
 | 10,_=>exact mkLk10 w
 | 11,_=>exact mkLk11 w
 | 12,_=>exact mkLk12 w
 | 13,_=>exact mkLk13 w
 | 14,_=>exact mkLk14 w
 | 15,_=>exact mkLk15 w
 | 16,_=>exact mkLk16 w
 | m+17,h=>exact absurd h (by omega)
theorem rows_set {S:List Nd} (hd:S.Pairwise fun x y=>x.id≠y.id) {m p j:Nat} {y:Nd} (hp:S[p]?=some y) (hj:j<m) (F G:FnL) (hG:∀ x h,(x≠y.id∨h≠j)→G x h=F x h) :
  rowsF S m G=(rowsF S m F).set p (y.id,((List.range m).map fun j=>F y.id j).set j (G y.id j)):=by
 obtain ⟨hpl,hpe⟩:=List.getElem?_eq_some_iff.1 hp
 apply List.ext_getElem?
 intro i
 unfold rowsF
 by_cases hi:i=p
 ·subst hi
  rw [List.getElem?_set_self (by simpa using hpl),List.getElem?_map,hp]
  simp only [Option.map_some,Option.some.injEq,Prod.mk.injEq,true_and]
  apply List.ext_getElem?
  intro h
  by_cases hh:h=j
  ·subst hh
   rw [List.getElem?_set_self (by simpa using hj),List.getElem?_map,List.getElem?_range hj]
   rfl
  ·rw [List.getElem?_set_ne (by omega)]
   simp only [List.getElem?_map]
   by_cases hm:h<m
   ·rw [List.getElem?_range hm]
    simp only [Option.map_some]
    rw [hG _ _ (.inr hh)]
   ·rw [List.getElem?_eq_none (by simpa using hm)];rfl
 ·rw [List.getElem?_set_ne (by omega)]
  simp only [List.getElem?_map]
  cases hx:S[i]? with
  | none=>rfl
  | some x =>
   simp only [Option.map_some]
   have hne:x.id≠y.id:=by
    obtain ⟨hil,hie⟩:=List.getElem?_eq_some_iff.1 hx
    have hw:=List.pairwise_iff_getElem.1 hd
    rcases Nat.lt_or_gt_of_ne hi with h | h
    ·have:=hw i p hil hpl h;rwa [hie,hpe] at this
    ·have:=hw p i hpl hil h;rw [hie,hpe] at this;exact fun e=>this e.symm
   congr 2
   apply List.map_congr_left
   intro h _
   exact hG _ _ (.inl hne)
theorem rows_at {base:Nat} {w:World} {v:Value} {qs:List (Int×Hdr)} {S:List Nd} {m:Nat} {F:FnL} (hd:S.Pairwise fun x y=>x.id≠y.id) (h:OwnLk base w v qs (rowsF S m F)) {p j:Nat} {y:Nd} (hp:S[p]?=some y) (hj:j<m) :
  ∃ g cap g' cap',v=.slice (some ⟨g,0,none⟩) S.length cap∧g<w.heap.size∧¬ InQ qs g∧w.cell? ⟨g,p*2+1,none⟩=some (.slice (some ⟨g',0,none⟩) m cap')∧InQ qs g' ∧
   (∃ u,w.cell? ⟨g',j*2,none⟩=some u)∧(∃ u,w.cell? ⟨g',j*2+1,none⟩=some u)∧w.frozen? ⟨g',j*2,none⟩=false∧w.frozen? ⟨g',j*2+1,none⟩=false ∧
   (∀ u:Int,OwnLk base (w.setCell ⟨g',j*2,none⟩ (.int .i64 u)) v qs (rowsF S m (updL F y.id j u))) ∧
   ∀ u:Int,OwnLk base (w.setCell ⟨g',j*2+1,none⟩ (.int .i64 u)) v qs (rowsF S m (updR F y.id j u)):=by
 have hpl:=(List.getElem?_eq_some_iff.1 hp).1
 have hL:(rowsF S m F)[p]?=some (y.id,(List.range m).map fun j=>F y.id j):=by unfold rowsF;rw [List.getElem?_map,hp];rfl
 obtain ⟨hd1,hq,ho⟩:=OwnN.get (p:=1) h hL
 obtain ⟨a,cap,e,r,c1,c2,c3,c4⟩:=h.1.rd (fun _=>rfl)
 have hlen:qs.length=S.length:=by rw [h.2.1];unfold rowsF;simp
 obtain ⟨g,hga,hgb⟩:=c3 (by intro h0;rw [h0] at hlen;simp at hlen;omega)
 cases hga
 subst e
 have hvb:(Value.slice (some ⟨g,0,none⟩) qs.length cap).ownBlock=some g:=rfl
 have hrow:((List.range m).map fun j=>F y.id j)[j]?=some (F y.id j):=by rw [List.getElem?_map,List.getElem?_range hj];rfl
 have hhd:∃ g' cap',hd1.val=.slice (some ⟨g',0,none⟩) m cap':=by
  rcases ho.2 with ⟨h1,h2⟩ | ⟨g',cap',cur,h1,_⟩
  ·exfalso;have h2':=h2;simp at h2';omega
  ·exact ⟨g',cap',by rw [h1];simp⟩
 obtain ⟨g',cap',hv'⟩:=hhd
 have hinq:InQ qs g':=⟨p,_,hq,by rw [hv'];rfl⟩
 have hcell:=(h.1.set1 (sz:=2) (enc:=encP encI) (c:=1) (fun _=>rfl) hq (by omega)).1
 rw [hv'] at ho
 obtain ⟨q0,f0,O0⟩:=own_set1 (sz:=2) (enc:=encS) (c:=0) (fun _=>rfl) ho hrow (by omega)
 obtain ⟨q1,f1,O1⟩:=own_set1 (sz:=2) (enc:=encS) (c:=1) (fun _=>rfl) ho hrow (by omega)
 have hgl:g<w.heap.size:=by obtain ⟨_,cur,hc⟩:=OwnW.blk h.1 hvb;exact heap_lt hc
 have key:∀ (c:Nat) (u:Value) (row':List (Int×Int)),OwnL 2 encS 128 base (w.setCell ⟨g',j*2+c,none⟩ u) hd1.val row'→OwnLk base (w.setCell ⟨g',j*2+c,none⟩ u) (.slice (some ⟨g,0,none⟩) qs.length cap) qs ((rowsF S m F).set p (y.id,row')):=by
  intro c u row' ho'
  exact OwnN.keep (by decide) h hq ho' ((Chg.refl _ w).setCell _ (fun x hx he=>hx.2 (by rw [hv',he];rfl)))
 refine ⟨g,cap,g',cap',by rw [hlen],hgl,inQ_ne h hvb,?_,hinq,⟨_,q0⟩,⟨_,q1⟩,f0,f1,fun u=>?_,fun u=>?_⟩
 ·rw [← hv']
  exact hcell
 ·rw [rows_set hd hp hj F (updL F y.id j u) (fun x h hx=>by unfold updL;rw [if_neg (fun e=>by rcases hx with hx | hx;exact hx e.1;exact hx e.2)])]
  have hu:updL F y.id j u y.id j=(u,(F y.id j).2):=by unfold updL;rw [if_pos ⟨rfl,rfl⟩]
  rw [hu]
  refine key 0 _ _ ?_
  rw [hv']
  exact O0 (u,(F y.id j).2) (.int .i64 u) rfl
 ·rw [rows_set hd hp hj F (updR F y.id j u) (fun x h hx=>by unfold updR;rw [if_neg (fun e=>by rcases hx with hx | hx;exact hx e.1;exact hx e.2)])]
  have hu:updR F y.id j u y.id j=((F y.id j).1,u):=by unfold updR;rw [if_pos ⟨rfl,rfl⟩]
  rw [hu]
  refine key 1 _ _ ?_
  rw [hv']
  exact O1 ((F y.id j).1,u) (.int .i64 u) rfl
theorem le_not (a b:List UInt8):(Op.bytesLess a b||a==b) = !Op.bytesLess b a:=by
 rcases bl_tri a b with ⟨h1,h2,h3⟩ | ⟨h1,h2,h3⟩ | ⟨h1,h2,h3⟩
 ·rw [h1,h2];rfl
 ·rw [h1,bytesLess_irrefl];simp
 ·rw [h1,h2];simpa using h3
end Go.Proofs.YthcholmhmcpooaaGreatDoor
