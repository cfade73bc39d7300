/- Texts for TopBalanceProof. -/
import Derived.Test.YthcholmhmcpooaaGreatDoorTopBalanceProofL23
import Derived.Test.YthcholmhmcpooaaGreatDoorTopBalanceProofL30
set_option linter.unusedSimpArgs false
set_option linter.unusedVariables false

namespace Go.Proofs.YthcholmhmcpooaaGreatDoor
open Go.RowKit
theorem mkNr0 (w:World):(Instr.makeSlice 148 (.int .i64 0) (.int .i64 0)).run Tryz.prog w=.ok (.slice (some ⟨w.heap.size,0,none⟩) 0 0) (w.alloc (.cells ((List.replicate 0 ((0,0,0,0):Nr)).flatMap encNr).toArray 158)):=by kernel_rfl
theorem mkNr1 (w:World):(Instr.makeSlice 148 (.int .i64 1) (.int .i64 1)).run Tryz.prog w=.ok (.slice (some ⟨w.heap.size,0,none⟩) 1 1) (w.alloc (.cells ((List.replicate 1 ((0,0,0,0):Nr)).flatMap encNr).toArray 158)):=by kernel_rfl
theorem mkNr2 (w:World):(Instr.makeSlice 148 (.int .i64 2) (.int .i64 2)).run Tryz.prog w=.ok (.slice (some ⟨w.heap.size,0,none⟩) 2 2) (w.alloc (.cells ((List.replicate 2 ((0,0,0,0):Nr)).flatMap encNr).toArray 158)):=by kernel_rfl
theorem mkNr3 (w:World):(Instr.makeSlice 148 (.int .i64 3) (.int .i64 3)).run Tryz.prog w=.ok (.slice (some ⟨w.heap.size,0,none⟩) 3 3) (w.alloc (.cells ((List.replicate 3 ((0,0,0,0):Nr)).flatMap encNr).toArray 158)):=by kernel_rfl
theorem mkNr4 (w:World):(Instr.makeSlice 148 (.int .i64 4) (.int .i64 4)).run Tryz.prog w=.ok (.slice (some ⟨w.heap.size,0,none⟩) 4 4) (w.alloc (.cells ((List.replicate 4 ((0,0,0,0):Nr)).flatMap encNr).toArray 158)):=by kernel_rfl
theorem mkNr5 (w:World):(Instr.makeSlice 148 (.int .i64 5) (.int .i64 5)).run Tryz.prog w=.ok (.slice (some ⟨w.heap.size,0,none⟩) 5 5) (w.alloc (.cells ((List.replicate 5 ((0,0,0,0):Nr)).flatMap encNr).toArray 158)):=by kernel_rfl
theorem mkNr6 (w:World):(Instr.makeSlice 148 (.int .i64 6) (.int .i64 6)).run Tryz.prog w=.ok (.slice (some ⟨w.heap.size,0,none⟩) 6 6) (w.alloc (.cells ((List.replicate 6 ((0,0,0,0):Nr)).flatMap encNr).toArray 158)):=by kernel_rfl
theorem mkNr7 (w:World):(Instr.makeSlice 148 (.int .i64 7) (.int .i64 7)).run Tryz.prog w=.ok (.slice (some ⟨w.heap.size,0,none⟩) 7 7) (w.alloc (.cells ((List.replicate 7 ((0,0,0,0):Nr)).flatMap encNr).toArray 158)):=by kernel_rfl
theorem mkNr8 (w:World):(Instr.makeSlice 148 (.int .i64 8) (.int .i64 8)).run Tryz.prog w=.ok (.slice (some ⟨w.heap.size,0,none⟩) 8 8) (w.alloc (.cells ((List.replicate 8 ((0,0,0,0):Nr)).flatMap encNr).toArray 158)):=by kernel_rfl
theorem mkNr9 (w:World):(Instr.makeSlice 148 (.int .i64 9) (.int .i64 9)).run Tryz.prog w=.ok (.slice (some ⟨w.heap.size,0,none⟩) 9 9) (w.alloc (.cells ((List.replicate 9 ((0,0,0,0):Nr)).flatMap encNr).toArray 158)):=by kernel_rfl
theorem mkNr10 (w:World):(Instr.makeSlice 148 (.int .i64 10) (.int .i64 10)).run Tryz.prog w=.ok (.slice (some ⟨w.heap.size,0,none⟩) 10 10) (w.alloc (.cells ((List.replicate 10 ((0,0,0,0):Nr)).flatMap encNr).toArray 158)):=by kernel_rfl
theorem mkNr11 (w:World):(Instr.makeSlice 148 (.int .i64 11) (.int .i64 11)).run Tryz.prog w=.ok (.slice (some ⟨w.heap.size,0,none⟩) 11 11) (w.alloc (.cells ((List.replicate 11 ((0,0,0,0):Nr)).flatMap encNr).toArray 158)):=by kernel_rfl
theorem mkNr12 (w:World):(Instr.makeSlice 148 (.int .i64 12) (.int .i64 12)).run Tryz.prog w=.ok (.slice (some ⟨w.heap.size,0,none⟩) 12 12) (w.alloc (.cells ((List.replicate 12 ((0,0,0,0):Nr)).flatMap encNr).toArray 158)):=by kernel_rfl
theorem mkNr13 (w:World):(Instr.makeSlice 148 (.int .i64 13) (.int .i64 13)).run Tryz.prog w=.ok (.slice (some ⟨w.heap.size,0,none⟩) 13 13) (w.alloc (.cells ((List.replicate 13 ((0,0,0,0):Nr)).flatMap encNr).toArray 158)):=by kernel_rfl
theorem mkNr14 (w:World):(Instr.makeSlice 148 (.int .i64 14) (.int .i64 14)).run Tryz.prog w=.ok (.slice (some ⟨w.heap.size,0,none⟩) 14 14) (w.alloc (.cells ((List.replicate 14 ((0,0,0,0):Nr)).flatMap encNr).toArray 158)):=by kernel_rfl
theorem mkNr15 (w:World):(Instr.makeSlice 148 (.int .i64 15) (.int .i64 15)).run Tryz.prog w=.ok (.slice (some ⟨w.heap.size,0,none⟩) 15 15) (w.alloc (.cells ((List.replicate 15 ((0,0,0,0):Nr)).flatMap encNr).toArray 158)):=by kernel_rfl
theorem mkNr16 (w:World):(Instr.makeSlice 148 (.int .i64 16) (.int .i64 16)).run Tryz.prog w=.ok (.slice (some ⟨w.heap.size,0,none⟩) 16 16) (w.alloc (.cells ((List.replicate 16 ((0,0,0,0):Nr)).flatMap encNr).toArray 158)):=by kernel_rfl
theorem mkNr (m:Nat) (hm:m≤16) (w:World):(Instr.makeSlice 148 (.int .i64 m) (.int .i64 m)).run Tryz.prog w=.ok (.slice (some ⟨w.heap.size,0,none⟩) m m) (w.alloc (.cells ((List.replicate m ((0,0,0,0):Nr)).flatMap encNr).toArray 158)):=by
 match m,hm with
 | 0,_=>exact mkNr0 w
 | 1,_=>exact mkNr1 w
 | 2,_=>exact mkNr2 w
 | 3,_=>exact mkNr3 w
 | 4,_=>exact mkNr4 w
 | 5,_=>exact mkNr5 w
 | 6,_=>exact mkNr6 w
 | 7,_=>exact mkNr7 w
 | 8,_=>exact mkNr8 w
 | 9,_=>exact mkNr9 w
 | 10,_=>exact mkNr10 w
 | 11,_=>exact mkNr11 w
 | 12,_=>exact mkNr12 w
 | 13,_=>exact mkNr13 w
 | 14,_=>exact mkNr14 w
 | 15,_=>exact mkNr15 w
 | 16,_=>exact mkNr16 w
 | m+17,h=>exact absurd h (by omega)
theorem at_pE (a2:Option Addr) (n2 c2:Nat) (P:List Pr) (id:Int) (lev:Nat) (x:Nr) (hx:nearAt (peerN P id) lev=x) (w:World) (h2:PL w a2 n2 P) (hn2:n2≤4000000000000000000) (hP:∀ p∈P,p.near.length≤4000000000000000000) (hl:lev≤16) :
  Calls Tryz.prog 201 #[.slice a2 n2 c2,.int .i64 id,.int .i64 lev] w fun e w'=>e=.returned (.agg #[.int .i64 x.1,.int .i64 x.2.1,.int .i64 x.2.2.1,.int .i64 x.2.2.2])∧Ex w w':=by
 have:=at_p a2 n2 c2 P id lev w h2 hn2 hP hl
 rw [hx] at this
 exact this
theorem newNr {w0 u:World} (_:Ex w0 u):∃ g v,g=u.heap.size∧v=u.alloc (.cells #[.int .i64 0,.int .i64 0,.int .i64 0,.int .i64 0] 158)∧Blk v g [.int .i64 0,.int .i64 0,.int .i64 0,.int .i64 0] 158∧Ex u v :=
 ⟨_,_,rfl,rfl,Blk.new _ _ _,Ex.new _ _⟩
section
variable {e base g n cap j:Nat} {w:World} {L:List Nr} {y:Nr}
theorem near_setL (h:OwnL 4 encNr e base w (.slice (some ⟨g,0,none⟩) n cap) L) (hy:L[j]?=some y) (a b:Int) :
  (w.cell? ⟨g,j*4,none⟩=some (.int .i64 y.1)∧w.cell? ⟨g,j*4+1,none⟩=some (.int .i64 y.2.1))∧(w.frozen? ⟨g,j*4,none⟩=false∧w.frozen? ⟨g,j*4+1,none⟩=false) ∧
   OwnL 4 encNr e base ((w.setCell ⟨g,j*4,none⟩ (.int .i64 a)).setCell ⟨g,j*4+1,none⟩ (.int .i64 b)) (.slice (some ⟨g,0,none⟩) n cap) (L.set j (a,b,y.2.2.1,y.2.2.2)):=by
 have hj:=(List.getElem?_eq_some_iff.1 hy).1
 obtain ⟨s1,s2,s3⟩:=own_set1 (sz:=4) (enc:=encNr) (fun _=>rfl) h hy (c:=0) (by omega)
 obtain ⟨t1,t2,_⟩:=own_set1 (sz:=4) (enc:=encNr) (fun _=>rfl) h hy (c:=1) (by omega)
 have h4:=s3 (a,y.2) (.int .i64 a) rfl
 obtain ⟨_,_,u3⟩:=own_set1 (sz:=4) (enc:=encNr) (fun _=>rfl) h4 (List.getElem?_set_self hj) (c:=1) (by omega)
 have h5:=u3 (a,b,y.2.2.1,y.2.2.2) (.int .i64 b) rfl
 rw [List.set_set] at h5
 exact ⟨⟨s1,t1⟩,⟨s2,t2⟩,h5⟩
theorem near_setR (h:OwnL 4 encNr e base w (.slice (some ⟨g,0,none⟩) n cap) L) (hy:L[j]?=some y) (a b:Int) :
  (w.cell? ⟨g,j*4+2,none⟩=some (.int .i64 y.2.2.1)∧w.cell? ⟨g,j*4+3,none⟩=some (.int .i64 y.2.2.2))∧(w.frozen? ⟨g,j*4+2,none⟩=false∧w.frozen? ⟨g,j*4+3,none⟩=false) ∧
   OwnL 4 encNr e base ((w.setCell ⟨g,j*4+2,none⟩ (.int .i64 a)).setCell ⟨g,j*4+3,none⟩ (.int .i64 b)) (.slice (some ⟨g,0,none⟩) n cap) (L.set j (y.1,y.2.1,a,b)):=by
 have hj:=(List.getElem?_eq_some_iff.1 hy).1
 obtain ⟨s1,s2,s3⟩:=own_set1 (sz:=4) (enc:=encNr) (fun _=>rfl) h hy (c:=2) (by omega)
 obtain ⟨t1,t2,_⟩:=own_set1 (sz:=4) (enc:=encNr) (fun _=>rfl) h hy (c:=3) (by omega)
 have h4:=s3 (y.1,y.2.1,a,y.2.2.2) (.int .i64 a) rfl
 obtain ⟨_,_,u3⟩:=own_set1 (sz:=4) (enc:=encNr) (fun _=>rfl) h4 (List.getElem?_set_self hj) (c:=3) (by omega)
 have h5:=u3 (y.1,y.2.1,a,b) (.int .i64 b) rfl
 rw [List.set_set] at h5
 exact ⟨⟨s1,t1⟩,⟨s2,t2⟩,h5⟩
end
def rowB (F:Nat→Nr) (h j:Nat):List Nr:=(List.range j).map F++List.replicate (h-j) (0,0,0,0)
theorem rowB_at (F:Nat→Nr) {h j:Nat} (hj:j<h):(rowB F h j)[j]?=some (0,0,0,0):=by
 unfold rowB
 rw [List.getElem?_append_right (by simp),List.length_map,List.length_range,Nat.sub_self,List.getElem?_replicate,if_pos (by omega)]
theorem rowB_set (F:Nat→Nr) {h j:Nat} (hj:j<h):(rowB F h j).set j (F j)=rowB F h (j+1):=by
 unfold rowB
 rw [List.set_append_right _ _ (by simp),List.length_map,List.length_range,Nat.sub_self,show h-j=h-(j+1)+1 by omega,List.replicate_succ,List.set_cons_zero,List.range_succ,List.map_append,List.append_assoc]
 rfl
theorem rowB_end (F:Nat→Nr) (h:Nat):rowB F h h=(List.range h).map F:=by unfold rowB;rw [Nat.sub_self,List.replicate_zero,List.append_nil]
def NxPost (L:List Nr) (w:World) (en:Ending) (w':World):Prop:=∃ v,en=.returned v∧OwnL 4 encNr 158 w.heap.size w' v L∧Ex w w'
def NxRel (F:Nat→Nr) (h g β:Nat) (w2:World) (i:Value) (wr:World):Prop :=
 ∃ j:Nat,j≤h∧i=.int .i64 j∧OwnL 4 encNr 158 β wr (.slice (some ⟨g,0,none⟩) h h) (rowB F h j)∧Ex w2 wr
def NwCut (x y:Nr) (w6:World) (s12 s13:Value) (wx:World):Prop :=
 ∃ g12 g13,s12=.pointer (some ⟨g12,0,none⟩)∧s13=.pointer (some ⟨g13,0,none⟩)∧w6.heap.size≤g12∧w6.heap.size≤g13∧Blk wx g12 [.int .i64 x.1,.int .i64 x.2.1,.int .i64 x.2.2.1,.int .i64 x.2.2.2] 158 ∧
  Blk wx g13 [.int .i64 y.1,.int .i64 y.2.1,.int .i64 y.2.2.1,.int .i64 y.2.2.2] 158∧Ex w6 wx
theorem step_of (N:List Nd) (st:Int→Pr) (p:Pr) (j:Nat) {L:Int×Int} {x y:Nr} (hL:linkB N p j=L) (hx:nearAt (st L.1) j=x) (hy:nearAt (st L.2) j=y) :
  stepB N st p j=((pairB N p.id L.1 j x.1 x.2.1).1,(pairB N p.id L.1 j x.1 x.2.1).2,(pairB N p.id L.2 j y.2.2.1 y.2.2.2).1,(pairB N p.id L.2 j y.2.2.1 y.2.2.2).2):=by
 unfold stepB
 rw [hL,hx,hy]
set_option maxRecDepth 100000 in
set_option maxHeartbeats 8000000 in
theorem next_p (a:Option Addr) (n c:Nat) (N:List Nd) (a2:Option Addr) (n2 c2:Nat) (P:List Pr) (p:Pr) (a1:Option Addr) (n1 c1:Nat) (a3:Option Addr) (n3 c3 h:Nat) (w:World) (hs:Sl 3 encN w a n N) (hn:n≤1000) (hc:n≤c) (hm:c≤maxLen) (hw:∀ x∈N,x.word<4294967296)
  (h2:PL w a2 n2 P) (hn2:n2≤4000000000000000000) (hP:∀ p∈P,p.near.length≤4000000000000000000) (h3:Sl 4 encNr w a3 n3 p.near) (hn3:n3≤4000000000000000000) (hh:h≤16) :
  Calls Tryz.prog 151 #[.slice a n c,.slice a2 n2 c2,.agg #[.int .i64 p.id,.slice a1 n1 c1,.int .i64 p.left,.int .i64 p.right,.slice a3 n3 c3],.int .i64 h] w (NxPost (nextB N (peerN P) p h) w):=by
 have EX:=Ex.refl w
 have HW:=lH hw
 have HP:=lH hP
 have NB:Hid (nextB N (peerN P) p h=rowB (stepB N (peerN P) p) h h):=lH (rowB_end _ _).symm
 rw [NB.out]
 clear hw hP NB
 obtain ⟨g6,hg6⟩:∃ g6,g6=w.heap.size:=⟨_,rfl⟩
 obtain ⟨w2,hw2⟩:∃ w2,w2=(w.alloc (.cells #[.int .i64 p.id,.slice a1 n1 c1,.int .i64 p.left,.int .i64 p.right,.slice a3 n3 c3] 150)):=⟨_,rfl⟩
 have kk:Ex w w2:=by rw [hw2];exact ((Ex.refl w).alloc (.cells #[.int .i64 p.id,.slice a1 n1 c1,.int .i64 p.left,.int .i64 p.right,.slice a3 n3 c3] 150))
 have B6:Blk w2 g6 [.int .i64 p.id,.slice a1 n1 c1,.int .i64 p.left,.int .i64 p.right,.slice a3 n3 c3] 150:=by rw [hw2];simp only [hg6];have hbk:=(Blk.new w [.int .i64 p.id,.slice a1 n1 c1,.int .i64 p.left,.int .i64 p.right,.slice a3 n3 c3] 150);simpa using hbk
 have Hw2:=lH hw2
 have Hg6:=lH hg6
 replace hs:=hs.nx kk
 replace h2:=h2.nx kk
 replace h3:=h3.nx kk
 replace EX:=EX.nx kk
 clear kk hw2 hg6
 go_enter Tryz.func151,Tryz.ntmps151
 go_upto_region 1 with fail
 rw [← Hw2.out,← Hg6.out]
 clear Hw2 Hg6
 have z2:=EX.size
 have hrun:=mkNr h hh w2
 have OW0:OwnL 4 encNr 158 w2.heap.size (w2.alloc (.cells ((List.replicate h ((0,0,0,0):Nr)).flatMap encNr).toArray 158)) (.slice (some ⟨w2.heap.size,0,none⟩) h h) (rowB (stepB N (peerN P) p) h 0):=by
  have:=OwnL.lit (sz:=4) (enc:=encNr) (e:=158) (base:=w2.heap.size) (w:=w2) (List.replicate h ((0,0,0,0):Nr)) (fun _=>rfl) (Nat.le_refl _) (by rw [List.length_replicate];unfold maxLen;omega) rfl
  rw [List.length_replicate] at this
  exact this
 have k3:=Ex.new w2 (.cells ((List.replicate h ((0,0,0,0):Nr)).flatMap encNr).toArray 158)
 obtain ⟨w3,hw3⟩:∃ w3,w3=w2.alloc (.cells ((List.replicate h ((0,0,0,0):Nr)).flatMap encNr).toArray 158):=⟨_,rfl⟩
 obtain ⟨g9,hg9⟩:∃ g9,g9=w2.heap.size:=⟨_,rfl⟩
 rw [← hw3] at hrun OW0 k3
 have zg9:w2.heap.size≤g9:=by omega
 have OW0:OwnL 4 encNr 158 w2.heap.size w3 (.slice (some ⟨g9,0,none⟩) h h) (rowB (stepB N (peerN P) p) h 0):=by rw [hg9];exact OW0
 replace hrun:(Instr.makeSlice 148 (.int .i64 h) (.int .i64 h)).run Tryz.prog w2=.ok (.slice (some ⟨g9,0,none⟩) h h) w3:=by rw [hg9];exact hrun
 have H1:=lH hs
 have H2:=lH h2
 have H3:=lH h3
 have B6h:=lH B6
 have EX:=lH EX
 clear hw3 hg9 hs h2 h3 B6
 go_wp2_with fail
 clear hrun
 generalize hF:stepB N (peerN P) p=F at OW0 ⊢
 have FF:Hid (∀ j,stepB N (peerN P) p j=F j):=lH (fun j=>by rw [hF])
 clear hF
 go_loopw [18] (fun i wr=>NxRel F h g9 w2.heap.size w2 i wr) (fun i _=>h-(intOf i).toNat)
 case atStart=>exact ⟨0,by omega,rfl,OW0,k3⟩
 case round =>
  clear OW0 k3
  obtain ⟨j,hj,rfl,own,ki⟩:=hrel
  obtain ⟨wi,rfl⟩:∃ wi:World,wi=wr:=⟨_,rfl⟩
  by_cases hjm:j<h
  ·have q0:=(B6h.out.nx ki).cell 0 _ rfl
   have q1:=(B6h.out.nx ki).cell 1 _ rfl
   have q2:=(B6h.out.nx ki).cell 2 _ rfl
   have q3:=(B6h.out.nx ki).cell 3 _ rfl
   have q4:=(B6h.out.nx ki).cell 4 _ rfl
   have hj16:j≤16:=by omega
   obtain ⟨LK,hLK⟩:∃ LK,LK=linkB N p j:=⟨_,rfl⟩
   have KI:=lH ki
   have OWN:=lH own
   clear ki own
   go_wp2_with fail
   (with_reducible refine (link_p _ _ _ N p _ _ _ _ _ _ j _ (H1.out.nx KI.out) hn hc hm HW.out (H3.out.nx KI.out) hn3).mono ?_)
   rintro e w4 ⟨rfl,kk⟩
   replace OWN:=lH (OWN.out.nx kk)
   replace KI:=lH (KI.out.nx kk)
   clear kk q0 q1 q2 q3 q4
   rw [← hLK]
   obtain ⟨lkl,lkr⟩:=LK
   have zi:=KI.out.size
   have B11:=Blk.new w4 [.int .i64 lkl,.int .i64 lkr] 128
   have kk:=Ex.new w4 (.cells #[.int .i64 lkl,.int .i64 lkr] 128)
   obtain ⟨w6,hw6⟩:∃ w6,w6=w4.alloc (.cells #[.int .i64 lkl,.int .i64 lkr] 128):=⟨_,rfl⟩
   obtain ⟨g11,hg11⟩:∃ g11,g11=w4.heap.size:=⟨_,rfl⟩
   replace B11:Blk w6 g11 [.int .i64 lkl,.int .i64 lkr] 128:=by rw [hw6,hg11];exact B11
   rw [← hw6] at kk
   have Hw6:=lH hw6
   have Hg11:=lH hg11
   replace OWN:=lH (OWN.out.nx kk)
   have zg11:=lH (show w2.heap.size≤g11 by omega)
   replace KI:=lH (KI.out.nx kk)
   have ne911:¬ g11=g9:=fun hx=>OWN.out.ne_blk B11 (by decide) rfl hx.symm
   have l9:=(OWN.out.lt g9 rfl).2
   clear kk hw6 hg11
   go_upto_region 6 with fail
   rw [← Hg11.out,← Hw6.out]
   clear Hg11 Hw6
   obtain ⟨xlkl,hxlkl⟩:∃ x,nearAt (peerN P lkl) j=x:=⟨_,rfl⟩
   obtain ⟨xlkr,hxlkr⟩:∃ x,nearAt (peerN P lkr) j=x:=⟨_,rfl⟩
   have ST:=lH ((FF.out j).symm.trans (step_of N (peerN P) p j hLK.symm hxlkl hxlkr))
   have B11h:=lH B11
   have K6:=lH KI.out
   clear hLK B11
   go_cut [12,13] from 25 to 34 (fun s12 s13 wx=>NwCut xlkl xlkr w6 s12 s13 wx)
   case first =>
    refine wp_region_late_drew (S:=Ex w6) [12,13] (by kernel_rfl) ((Ex.refl w6).drew) (fun hHeld=>?_)
    obtain ⟨wd,hwdx⟩:∃ wd:World,wd=World.drew w6:=⟨_,rfl⟩
    rw [← hwdx] at hHeld ⊢
    have hDrew:Ex w6 wd:=by rw [hwdx];exact (Ex.refl w6).drew
    clear hwdx
    refine tkL 0 (v:=?_) rfl (by kernel_rfl) (fun _ _ _ h=>h) (by rfl) ?y5 hHeld ?_
    case y5=>intro wq hSw;go_simp<;>rfl
    refine tkL 1 (v:=?_) rfl (by kernel_rfl) (fun _ _ _ h=>h) (by rfl) ?y8 hHeld ?_
    case y8=>intro wq hSw;go_simp<;>rfl
    refine tkL 2 (v:=?_) rfl (by kernel_rfl) (fun _ _ _ h=>h) (by rfl) ?y11 hHeld ?_
    case y11=>intro wq hSw;(have cq:=(B11h.out.nx hSw).cell 0 _ rfl;go_simp)<;>rfl
    refine tkL 3 (v:=?_) rfl (by kernel_rfl) (fun _ _ _ h=>h) (by rfl) ?y14 hHeld ?_
    case y14=>intro wq hSw;go_simp<;>rfl
    refine tkL 5 (v:=?_) rfl (by kernel_rfl) (fun _ _ _ h=>h) (by rfl) ?y17 hHeld ?_
    case y17=>intro wq hSw;go_simp<;>rfl
    refine tkL 6 (v:=?_) rfl (by kernel_rfl) (fun _ _ _ h=>h) (by rfl) ?y20 hHeld ?_
    case y20=>intro wq hSw;go_simp<;>rfl
    refine tkL 7 (v:=?_) rfl (by kernel_rfl) (fun _ _ _ h=>h) (by rfl) ?y23 hHeld ?_
    case y23=>intro wq hSw;(have cq:=(B11h.out.nx hSw).cell 1 _ rfl;go_simp)<;>rfl
    refine tkL 8 (v:=?_) rfl (by kernel_rfl) (fun _ _ _ h=>h) (by rfl) ?y26 hHeld ?_
    case y26=>intro wq hSw;go_simp<;>rfl
    refine wpAnyL_ready (rs:=[4,10,11]) (by kernel_rfl) (by simp) ?_
    refine AllReadyL.cons (o:=⟨_,_,_,_,_,_⟩) rfl (fun K hK=>?_) ?_
    ·go_simp
     (with_reducible refine (at_pE _ _ _ P lkl j xlkl hxlkl _ (H2.out.nx (K6.out.nx hHeld)) hn2 HP.out hj16).mono ?_)
     rintro e wz ⟨rfl,kk⟩
     (try replace B12:=B12.nx kk)
     (try replace B13:=B13.nx kk)
     replace hHeld:=hHeld.nx kk
     clear kk
     refine hK.out _ _ (hHeld) (fun hHeld=>?_)
     clear hK K
     refine wpAnyL_ready (rs:=[9,10,11]) (by kernel_rfl) (by simp) ?_
     refine AllReadyL.cons (o:=⟨_,_,_,_,_,_⟩) rfl (fun K hK=>?_) ?_
     ·go_simp
      (with_reducible refine (at_pE _ _ _ P lkr j xlkr hxlkr _ (H2.out.nx (K6.out.nx hHeld)) hn2 HP.out hj16).mono ?_)
      rintro e wz ⟨rfl,kk⟩
      (try replace B12:=B12.nx kk)
      (try replace B13:=B13.nx kk)
      replace hHeld:=hHeld.nx kk
      clear kk
      refine hK.out _ _ (hHeld) (fun hHeld=>?_)
      clear hK K
      refine wpAnyL_ready (rs:=[10,11]) (by kernel_rfl) (by simp) ?_
      refine AllReadyL.cons (o:=⟨_,_,_,_,_,_⟩) rfl (fun K hK=>?_) ?_
      ·go_simp
       have z0:=hHeld.size
       obtain ⟨g12,wz,hg12,hwz,B12,kk⟩:=newNr hHeld
       rw [← hg12,← hwz]
       have zg12:w6.heap.size≤g12:=by omega
       (try have hne:g13<g12∨g12<g13:=.inl (by have:=B13.lt;omega))
       (try replace B13:=B13.nx kk)
       replace hHeld:=hHeld.nx kk
       clear hg12 hwz z0 kk
       refine hK.out _ _ (hHeld) (fun hHeld=>?_)
       clear hK K
       refine rL 11 (by kernel_rfl) rfl fun K hK=>?_
       go_simp
       have z0:=hHeld.size
       obtain ⟨g13,wz,hg13,hwz,B13,kk⟩:=newNr hHeld
       rw [← hg13,← hwz]
       have zg13:w6.heap.size≤g13:=by omega
       (try have hne:g12<g13∨g13<g12:=.inl (by have:=B12.lt;omega))
       (try replace B12:=B12.nx kk)
       replace hHeld:=hHeld.nx kk
       clear hg13 hwz z0 kk
       refine hK.out _ _ (hHeld) (fun hHeld=>?_)
       clear hK K
       refine rLL 12 (by kernel_rfl) rfl (by rfl) fun K hK=>?_
       have c0:=B12.cell 0 _ rfl
       have c1:=B12.cell 1 _ rfl
       have c2:=B12.cell 2 _ rfl
       have c3:=B12.cell 3 _ rfl
       have f0:=B12.free 0
       have f1:=B12.free 1
       have f2:=B12.free 2
       have f3:=B12.free 3
       go_simp
       clear c0 c1 c2 c3 f0 f1 f2 f3
       obtain ⟨wk,hwk⟩:∃ wk,wk=(((wz.setCell ⟨g12,0,none⟩ (.int .i64 xlkl.1)).setCell ⟨g12,1,none⟩ (.int .i64 xlkl.2.1)).setCell ⟨g12,2,none⟩ (.int .i64 xlkl.2.2.1)).setCell ⟨g12,3,none⟩ (.int .i64 xlkl.2.2.2):=⟨_,rfl⟩
       rw [← hwk]
       replace B12:Blk wk g12 [.int .i64 xlkl.1,.int .i64 xlkl.2.1,.int .i64 xlkl.2.2.1,.int .i64 xlkl.2.2.2] 158:=by rw [hwk];exact (((B12.set 0 _).set 1 _).set 2 _).set 3 _
       have KB:Exb g12 wz wk:=by rw [hwk];exact ((((Exb.refl g12 wz).setB (p:=⟨g12,0,none⟩) _ rfl).setB (p:=⟨g12,1,none⟩) _ rfl).setB (p:=⟨g12,2,none⟩) _ rfl).setB (p:=⟨g12,3,none⟩) _ rfl
       replace B13:=B13.nxb (by rcases hne with h | h<;>omega) KB
       replace hHeld:=(Exl.nxb (b:=g12) (w:=w6) ⟨hHeld,zg12⟩ KB).1
       clear KB hwk
       obtain ⟨wz,rfl⟩:∃ wz:World,wz=wk:=⟨_,rfl⟩
       refine hK.out _ _ ?_
       clear hK K
       refine rLL 13 (by kernel_rfl) rfl (by rfl) fun K hK=>?_
       have c0:=B13.cell 0 _ rfl
       have c1:=B13.cell 1 _ rfl
       have c2:=B13.cell 2 _ rfl
       have c3:=B13.cell 3 _ rfl
       have f0:=B13.free 0
       have f1:=B13.free 1
       have f2:=B13.free 2
       have f3:=B13.free 3
       go_simp
       clear c0 c1 c2 c3 f0 f1 f2 f3
       obtain ⟨wk,hwk⟩:∃ wk,wk=(((wz.setCell ⟨g13,0,none⟩ (.int .i64 xlkr.1)).setCell ⟨g13,1,none⟩ (.int .i64 xlkr.2.1)).setCell ⟨g13,2,none⟩ (.int .i64 xlkr.2.2.1)).setCell ⟨g13,3,none⟩ (.int .i64 xlkr.2.2.2):=⟨_,rfl⟩
       rw [← hwk]
       replace B13:Blk wk g13 [.int .i64 xlkr.1,.int .i64 xlkr.2.1,.int .i64 xlkr.2.2.1,.int .i64 xlkr.2.2.2] 158:=by rw [hwk];exact (((B13.set 0 _).set 1 _).set 2 _).set 3 _
       have KB:Exb g13 wz wk:=by rw [hwk];exact ((((Exb.refl g13 wz).setB (p:=⟨g13,0,none⟩) _ rfl).setB (p:=⟨g13,1,none⟩) _ rfl).setB (p:=⟨g13,2,none⟩) _ rfl).setB (p:=⟨g13,3,none⟩) _ rfl
       replace B12:=B12.nxb (by rcases hne with h | h<;>omega) KB
       replace hHeld:=(Exl.nxb (b:=g13) (w:=w6) ⟨hHeld,zg13⟩ KB).1
       clear KB hwk
       obtain ⟨wz,rfl⟩:∃ wz:World,wz=wk:=⟨_,rfl⟩
       refine hK.out _ _ ?_
       clear hK K
       refine wpAnyL_done (by kernel_rfl) ?_ _
       have CUT:=lH (show NwCut xlkl xlkr w6 (.pointer (some ⟨g12,0,none⟩)) (.pointer (some ⟨g13,0,none⟩)) wz from ⟨g12,g13,rfl,rfl,zg12,zg13,B12,B13,hHeld⟩)
       clear B12 B13 hHeld
       go_wp2_with fail
       go_meet
       exact CUT.out
      refine AllReadyL.cons (o:=⟨_,_,_,_,_,_⟩) rfl (fun K hK=>?_) AllReadyL.nil
      ·go_simp
       have z0:=hHeld.size
       obtain ⟨g13,wz,hg13,hwz,B13,kk⟩:=newNr hHeld
       rw [← hg13,← hwz]
       have zg13:w6.heap.size≤g13:=by omega
       (try have hne:g12<g13∨g13<g12:=.inl (by have:=B12.lt;omega))
       (try replace B12:=B12.nx kk)
       replace hHeld:=hHeld.nx kk
       clear hg13 hwz z0 kk
       refine hK.out _ _ (hHeld) (fun hHeld=>?_)
       clear hK K
       refine rL 10 (by kernel_rfl) rfl fun K hK=>?_
       go_simp
       have z0:=hHeld.size
       obtain ⟨g12,wz,hg12,hwz,B12,kk⟩:=newNr hHeld
       rw [← hg12,← hwz]
       have zg12:w6.heap.size≤g12:=by omega
       (try have hne:g13<g12∨g12<g13:=.inl (by have:=B13.lt;omega))
       (try replace B13:=B13.nx kk)
       replace hHeld:=hHeld.nx kk
       clear hg12 hwz z0 kk
       refine hK.out _ _ (hHeld) (fun hHeld=>?_)
       clear hK K
       refine rLL 12 (by kernel_rfl) rfl (by rfl) fun K hK=>?_
       have c0:=B12.cell 0 _ rfl
       have c1:=B12.cell 1 _ rfl
       have c2:=B12.cell 2 _ rfl
       have c3:=B12.cell 3 _ rfl
       have f0:=B12.free 0
       have f1:=B12.free 1
       have f2:=B12.free 2
       have f3:=B12.free 3
       go_simp
       clear c0 c1 c2 c3 f0 f1 f2 f3
       obtain ⟨wk,hwk⟩:∃ wk,wk=(((wz.setCell ⟨g12,0,none⟩ (.int .i64 xlkl.1)).setCell ⟨g12,1,none⟩ (.int .i64 xlkl.2.1)).setCell ⟨g12,2,none⟩ (.int .i64 xlkl.2.2.1)).setCell ⟨g12,3,none⟩ (.int .i64 xlkl.2.2.2):=⟨_,rfl⟩
       rw [← hwk]
       replace B12:Blk wk g12 [.int .i64 xlkl.1,.int .i64 xlkl.2.1,.int .i64 xlkl.2.2.1,.int .i64 xlkl.2.2.2] 158:=by rw [hwk];exact (((B12.set 0 _).set 1 _).set 2 _).set 3 _
       have KB:Exb g12 wz wk:=by rw [hwk];exact ((((Exb.refl g12 wz).setB (p:=⟨g12,0,none⟩) _ rfl).setB (p:=⟨g12,1,none⟩) _ rfl).setB (p:=⟨g12,2,none⟩) _ rfl).setB (p:=⟨g12,3,none⟩) _ rfl
       replace B13:=B13.nxb (by rcases hne with h | h<;>omega) KB
       replace hHeld:=(Exl.nxb (b:=g12) (w:=w6) ⟨hHeld,zg12⟩ KB).1
       clear KB hwk
       obtain ⟨wz,rfl⟩:∃ wz:World,wz=wk:=⟨_,rfl⟩
       refine hK.out _ _ ?_
       clear hK K
       refine rLL 13 (by kernel_rfl) rfl (by rfl) fun K hK=>?_
       have c0:=B13.cell 0 _ rfl
       have c1:=B13.cell 1 _ rfl
       have c2:=B13.cell 2 _ rfl
       have c3:=B13.cell 3 _ rfl
       have f0:=B13.free 0
       have f1:=B13.free 1
       have f2:=B13.free 2
       have f3:=B13.free 3
       go_simp
       clear c0 c1 c2 c3 f0 f1 f2 f3
       obtain ⟨wk,hwk⟩:∃ wk,wk=(((wz.setCell ⟨g13,0,none⟩ (.int .i64 xlkr.1)).setCell ⟨g13,1,none⟩ (.int .i64 xlkr.2.1)).setCell ⟨g13,2,none⟩ (.int .i64 xlkr.2.2.1)).setCell ⟨g13,3,none⟩ (.int .i64 xlkr.2.2.2):=⟨_,rfl⟩
       rw [← hwk]
       replace B13:Blk wk g13 [.int .i64 xlkr.1,.int .i64 xlkr.2.1,.int .i64 xlkr.2.2.1,.int .i64 xlkr.2.2.2] 158:=by rw [hwk];exact (((B13.set 0 _).set 1 _).set 2 _).set 3 _
       have KB:Exb g13 wz wk:=by rw [hwk];exact ((((Exb.refl g13 wz).setB (p:=⟨g13,0,none⟩) _ rfl).setB (p:=⟨g13,1,none⟩) _ rfl).setB (p:=⟨g13,2,none⟩) _ rfl).setB (p:=⟨g13,3,none⟩) _ rfl
       replace B12:=B12.nxb (by rcases hne with h | h<;>omega) KB
       replace hHeld:=(Exl.nxb (b:=g13) (w:=w6) ⟨hHeld,zg13⟩ KB).1
       clear KB hwk
       obtain ⟨wz,rfl⟩:∃ wz:World,wz=wk:=⟨_,rfl⟩
       refine hK.out _ _ ?_
       clear hK K
       refine wpAnyL_done (by kernel_rfl) ?_ _
       have CUT:=lH (show NwCut xlkl xlkr w6 (.pointer (some ⟨g12,0,none⟩)) (.pointer (some ⟨g13,0,none⟩)) wz from ⟨g12,g13,rfl,rfl,zg12,zg13,B12,B13,hHeld⟩)
       clear B12 B13 hHeld
       go_wp2_with fail
       go_meet
       exact CUT.out
     refine AllReadyL.cons (o:=⟨_,_,_,_,_,_⟩) rfl (fun K hK=>?_) ?_
     ·go_simp
      have z0:=hHeld.size
      obtain ⟨g12,wz,hg12,hwz,B12,kk⟩:=newNr hHeld
      rw [← hg12,← hwz]
      have zg12:w6.heap.size≤g12:=by omega
      (try have hne:g13<g12∨g12<g13:=.inl (by have:=B13.lt;omega))
      (try replace B13:=B13.nx kk)
      replace hHeld:=hHeld.nx kk
      clear hg12 hwz z0 kk
      refine hK.out _ _ (hHeld) (fun hHeld=>?_)
      clear hK K
      refine wpAnyL_ready (rs:=[9,11]) (by kernel_rfl) (by simp) ?_
      refine AllReadyL.cons (o:=⟨_,_,_,_,_,_⟩) rfl (fun K hK=>?_) ?_
      ·go_simp
       (with_reducible refine (at_pE _ _ _ P lkr j xlkr hxlkr _ (H2.out.nx (K6.out.nx hHeld)) hn2 HP.out hj16).mono ?_)
       rintro e wz ⟨rfl,kk⟩
       (try replace B12:=B12.nx kk)
       (try replace B13:=B13.nx kk)
       replace hHeld:=hHeld.nx kk
       clear kk
       refine hK.out _ _ (hHeld) (fun hHeld=>?_)
       clear hK K
       refine rL 11 (by kernel_rfl) rfl fun K hK=>?_
       go_simp
       have z0:=hHeld.size
       obtain ⟨g13,wz,hg13,hwz,B13,kk⟩:=newNr hHeld
       rw [← hg13,← hwz]
       have zg13:w6.heap.size≤g13:=by omega
       (try have hne:g12<g13∨g13<g12:=.inl (by have:=B12.lt;omega))
       (try replace B12:=B12.nx kk)
       replace hHeld:=hHeld.nx kk
       clear hg13 hwz z0 kk
       refine hK.out _ _ (hHeld) (fun hHeld=>?_)
       clear hK K
       refine rLL 12 (by kernel_rfl) rfl (by rfl) fun K hK=>?_
       have c0:=B12.cell 0 _ rfl
       have c1:=B12.cell 1 _ rfl
       have c2:=B12.cell 2 _ rfl
       have c3:=B12.cell 3 _ rfl
       have f0:=B12.free 0
       have f1:=B12.free 1
       have f2:=B12.free 2
       have f3:=B12.free 3
       go_simp
       clear c0 c1 c2 c3 f0 f1 f2 f3
       obtain ⟨wk,hwk⟩:∃ wk,wk=(((wz.setCell ⟨g12,0,none⟩ (.int .i64 xlkl.1)).setCell ⟨g12,1,none⟩ (.int .i64 xlkl.2.1)).setCell ⟨g12,2,none⟩ (.int .i64 xlkl.2.2.1)).setCell ⟨g12,3,none⟩ (.int .i64 xlkl.2.2.2):=⟨_,rfl⟩
       rw [← hwk]
       replace B12:Blk wk g12 [.int .i64 xlkl.1,.int .i64 xlkl.2.1,.int .i64 xlkl.2.2.1,.int .i64 xlkl.2.2.2] 158:=by rw [hwk];exact (((B12.set 0 _).set 1 _).set 2 _).set 3 _
       have KB:Exb g12 wz wk:=by rw [hwk];exact ((((Exb.refl g12 wz).setB (p:=⟨g12,0,none⟩) _ rfl).setB (p:=⟨g12,1,none⟩) _ rfl).setB (p:=⟨g12,2,none⟩) _ rfl).setB (p:=⟨g12,3,none⟩) _ rfl
       replace B13:=B13.nxb (by rcases hne with h | h<;>omega) KB
       replace hHeld:=(Exl.nxb (b:=g12) (w:=w6) ⟨hHeld,zg12⟩ KB).1
       clear KB hwk
       obtain ⟨wz,rfl⟩:∃ wz:World,wz=wk:=⟨_,rfl⟩
       refine hK.out _ _ ?_
       clear hK K
       refine rLL 13 (by kernel_rfl) rfl (by rfl) fun K hK=>?_
       have c0:=B13.cell 0 _ rfl
       have c1:=B13.cell 1 _ rfl
       have c2:=B13.cell 2 _ rfl
       have c3:=B13.cell 3 _ rfl
       have f0:=B13.free 0
       have f1:=B13.free 1
       have f2:=B13.free 2
       have f3:=B13.free 3
       go_simp
       clear c0 c1 c2 c3 f0 f1 f2 f3
       obtain ⟨wk,hwk⟩:∃ wk,wk=(((wz.setCell ⟨g13,0,none⟩ (.int .i64 xlkr.1)).setCell ⟨g13,1,none⟩ (.int .i64 xlkr.2.1)).setCell ⟨g13,2,none⟩ (.int .i64 xlkr.2.2.1)).setCell ⟨g13,3,none⟩ (.int .i64 xlkr.2.2.2):=⟨_,rfl⟩
       rw [← hwk]
       replace B13:Blk wk g13 [.int .i64 xlkr.1,.int .i64 xlkr.2.1,.int .i64 xlkr.2.2.1,.int .i64 xlkr.2.2.2] 158:=by rw [hwk];exact (((B13.set 0 _).set 1 _).set 2 _).set 3 _
       have KB:Exb g13 wz wk:=by rw [hwk];exact ((((Exb.refl g13 wz).setB (p:=⟨g13,0,none⟩) _ rfl).setB (p:=⟨g13,1,none⟩) _ rfl).setB (p:=⟨g13,2,none⟩) _ rfl).setB (p:=⟨g13,3,none⟩) _ rfl
       replace B12:=B12.nxb (by rcases hne with h | h<;>omega) KB
       replace hHeld:=(Exl.nxb (b:=g13) (w:=w6) ⟨hHeld,zg13⟩ KB).1
       clear KB hwk
       obtain ⟨wz,rfl⟩:∃ wz:World,wz=wk:=⟨_,rfl⟩
       refine hK.out _ _ ?_
       clear hK K
       refine wpAnyL_done (by kernel_rfl) ?_ _
       have CUT:=lH (show NwCut xlkl xlkr w6 (.pointer (some ⟨g12,0,none⟩)) (.pointer (some ⟨g13,0,none⟩)) wz from ⟨g12,g13,rfl,rfl,zg12,zg13,B12,B13,hHeld⟩)
       clear B12 B13 hHeld
       go_wp2_with fail
       go_meet
       exact CUT.out
      refine AllReadyL.cons (o:=⟨_,_,_,_,_,_⟩) rfl (fun K hK=>?_) AllReadyL.nil
      ·go_simp
       have z0:=hHeld.size
       obtain ⟨g13,wz,hg13,hwz,B13,kk⟩:=newNr hHeld
       rw [← hg13,← hwz]
       have zg13:w6.heap.size≤g13:=by omega
       (try have hne:g12<g13∨g13<g12:=.inl (by have:=B12.lt;omega))
       (try replace B12:=B12.nx kk)
       replace hHeld:=hHeld.nx kk
       clear hg13 hwz z0 kk
       refine hK.out _ _ (hHeld) (fun hHeld=>?_)
       clear hK K
       refine rL 9 (by kernel_rfl) rfl fun K hK=>?_
       go_simp
       (with_reducible refine (at_pE _ _ _ P lkr j xlkr hxlkr _ (H2.out.nx (K6.out.nx hHeld)) hn2 HP.out hj16).mono ?_)
       rintro e wz ⟨rfl,kk⟩
       (try replace B12:=B12.nx kk)
       (try replace B13:=B13.nx kk)
       replace hHeld:=hHeld.nx kk
       clear kk
       refine hK.out _ _ (hHeld) (fun hHeld=>?_)
       clear hK K
       refine rLL 12 (by kernel_rfl) rfl (by rfl) fun K hK=>?_
       have c0:=B12.cell 0 _ rfl
       have c1:=B12.cell 1 _ rfl
       have c2:=B12.cell 2 _ rfl
       have c3:=B12.cell 3 _ rfl
       have f0:=B12.free 0
       have f1:=B12.free 1
       have f2:=B12.free 2
       have f3:=B12.free 3
       go_simp
       clear c0 c1 c2 c3 f0 f1 f2 f3
       obtain ⟨wk,hwk⟩:∃ wk,wk=(((wz.setCell ⟨g12,0,none⟩ (.int .i64 xlkl.1)).setCell ⟨g12,1,none⟩ (.int .i64 xlkl.2.1)).setCell ⟨g12,2,none⟩ (.int .i64 xlkl.2.2.1)).setCell ⟨g12,3,none⟩ (.int .i64 xlkl.2.2.2):=⟨_,rfl⟩
       rw [← hwk]
       replace B12:Blk wk g12 [.int .i64 xlkl.1,.int .i64 xlkl.2.1,.int .i64 xlkl.2.2.1,.int .i64 xlkl.2.2.2] 158:=by rw [hwk];exact (((B12.set 0 _).set 1 _).set 2 _).set 3 _
       have KB:Exb g12 wz wk:=by rw [hwk];exact ((((Exb.refl g12 wz).setB (p:=⟨g12,0,none⟩) _ rfl).setB (p:=⟨g12,1,none⟩) _ rfl).setB (p:=⟨g12,2,none⟩) _ rfl).setB (p:=⟨g12,3,none⟩) _ rfl
       replace B13:=B13.nxb (by rcases hne with h | h<;>omega) KB
       replace hHeld:=(Exl.nxb (b:=g12) (w:=w6) ⟨hHeld,zg12⟩ KB).1
       clear KB hwk
       obtain ⟨wz,rfl⟩:∃ wz:World,wz=wk:=⟨_,rfl⟩
       refine hK.out _ _ ?_
       clear hK K
       refine rLL 13 (by kernel_rfl) rfl (by rfl) fun K hK=>?_
       have c0:=B13.cell 0 _ rfl
       have c1:=B13.cell 1 _ rfl
       have c2:=B13.cell 2 _ rfl
       have c3:=B13.cell 3 _ rfl
       have f0:=B13.free 0
       have f1:=B13.free 1
       have f2:=B13.free 2
       have f3:=B13.free 3
       go_simp
       clear c0 c1 c2 c3 f0 f1 f2 f3
       obtain ⟨wk,hwk⟩:∃ wk,wk=(((wz.setCell ⟨g13,0,none⟩ (.int .i64 xlkr.1)).setCell ⟨g13,1,none⟩ (.int .i64 xlkr.2.1)).setCell ⟨g13,2,none⟩ (.int .i64 xlkr.2.2.1)).setCell ⟨g13,3,none⟩ (.int .i64 xlkr.2.2.2):=⟨_,rfl⟩
       rw [← hwk]
       replace B13:Blk wk g13 [.int .i64 xlkr.1,.int .i64 xlkr.2.1,.int .i64 xlkr.2.2.1,.int .i64 xlkr.2.2.2] 158:=by rw [hwk];exact (((B13.set 0 _).set 1 _).set 2 _).set 3 _
       have KB:Exb g13 wz wk:=by rw [hwk];exact ((((Exb.refl g13 wz).setB (p:=⟨g13,0,none⟩) _ rfl).setB (p:=⟨g13,1,none⟩) _ rfl).setB (p:=⟨g13,2,none⟩) _ rfl).setB (p:=⟨g13,3,none⟩) _ rfl
       replace B12:=B12.nxb (by rcases hne with h | h<;>omega) KB
       replace hHeld:=(Exl.nxb (b:=g13) (w:=w6) ⟨hHeld,zg13⟩ KB).1
       clear KB hwk
       obtain ⟨wz,rfl⟩:∃ wz:World,wz=wk:=⟨_,rfl⟩
       refine hK.out _ _ ?_
       clear hK K
       refine wpAnyL_done (by kernel_rfl) ?_ _
       have CUT:=lH (show NwCut xlkl xlkr w6 (.pointer (some ⟨g12,0,none⟩)) (.pointer (some ⟨g13,0,none⟩)) wz from ⟨g12,g13,rfl,rfl,zg12,zg13,B12,B13,hHeld⟩)
       clear B12 B13 hHeld
       go_wp2_with fail
       go_meet
       exact CUT.out
     refine AllReadyL.cons (o:=⟨_,_,_,_,_,_⟩) rfl (fun K hK=>?_) AllReadyL.nil
     ·go_simp
      have z0:=hHeld.size
      obtain ⟨g13,wz,hg13,hwz,B13,kk⟩:=newNr hHeld
      rw [← hg13,← hwz]
      have zg13:w6.heap.size≤g13:=by omega
      (try have hne:g12<g13∨g13<g12:=.inl (by have:=B12.lt;omega))
      (try replace B12:=B12.nx kk)
      replace hHeld:=hHeld.nx kk
      clear hg13 hwz z0 kk
      refine hK.out _ _ (hHeld) (fun hHeld=>?_)
      clear hK K
      refine wpAnyL_ready (rs:=[9,10]) (by kernel_rfl) (by simp) ?_
      refine AllReadyL.cons (o:=⟨_,_,_,_,_,_⟩) rfl (fun K hK=>?_) ?_
      ·go_simp
       (with_reducible refine (at_pE _ _ _ P lkr j xlkr hxlkr _ (H2.out.nx (K6.out.nx hHeld)) hn2 HP.out hj16).mono ?_)
       rintro e wz ⟨rfl,kk⟩
       (try replace B12:=B12.nx kk)
       (try replace B13:=B13.nx kk)
       replace hHeld:=hHeld.nx kk
       clear kk
       refine hK.out _ _ (hHeld) (fun hHeld=>?_)
       clear hK K
       refine rL 10 (by kernel_rfl) rfl fun K hK=>?_
       go_simp
       have z0:=hHeld.size
       obtain ⟨g12,wz,hg12,hwz,B12,kk⟩:=newNr hHeld
       rw [← hg12,← hwz]
       have zg12:w6.heap.size≤g12:=by omega
       (try have hne:g13<g12∨g12<g13:=.inl (by have:=B13.lt;omega))
       (try replace B13:=B13.nx kk)
       replace hHeld:=hHeld.nx kk
       clear hg12 hwz z0 kk
       refine hK.out _ _ (hHeld) (fun hHeld=>?_)
       clear hK K
       refine rLL 12 (by kernel_rfl) rfl (by rfl) fun K hK=>?_
       have c0:=B12.cell 0 _ rfl
       have c1:=B12.cell 1 _ rfl
       have c2:=B12.cell 2 _ rfl
       have c3:=B12.cell 3 _ rfl
       have f0:=B12.free 0
       have f1:=B12.free 1
       have f2:=B12.free 2
       have f3:=B12.free 3
       go_simp
       clear c0 c1 c2 c3 f0 f1 f2 f3
       obtain ⟨wk,hwk⟩:∃ wk,wk=(((wz.setCell ⟨g12,0,none⟩ (.int .i64 xlkl.1)).setCell ⟨g12,1,none⟩ (.int .i64 xlkl.2.1)).setCell ⟨g12,2,none⟩ (.int .i64 xlkl.2.2.1)).setCell ⟨g12,3,none⟩ (.int .i64 xlkl.2.2.2):=⟨_,rfl⟩
       rw [← hwk]
       replace B12:Blk wk g12 [.int .i64 xlkl.1,.int .i64 xlkl.2.1,.int .i64 xlkl.2.2.1,.int .i64 xlkl.2.2.2] 158:=by rw [hwk];exact (((B12.set 0 _).set 1 _).set 2 _).set 3 _
       have KB:Exb g12 wz wk:=by rw [hwk];exact ((((Exb.refl g12 wz).setB (p:=⟨g12,0,none⟩) _ rfl).setB (p:=⟨g12,1,none⟩) _ rfl).setB (p:=⟨g12,2,none⟩) _ rfl).setB (p:=⟨g12,3,none⟩) _ rfl
       replace B13:=B13.nxb (by rcases hne with h | h<;>omega) KB
       replace hHeld:=(Exl.nxb (b:=g12) (w:=w6) ⟨hHeld,zg12⟩ KB).1
       clear KB hwk
       obtain ⟨wz,rfl⟩:∃ wz:World,wz=wk:=⟨_,rfl⟩
       refine hK.out _ _ ?_
       clear hK K
       refine rLL 13 (by kernel_rfl) rfl (by rfl) fun K hK=>?_
       have c0:=B13.cell 0 _ rfl
       have c1:=B13.cell 1 _ rfl
       have c2:=B13.cell 2 _ rfl
       have c3:=B13.cell 3 _ rfl
       have f0:=B13.free 0
       have f1:=B13.free 1
       have f2:=B13.free 2
       have f3:=B13.free 3
       go_simp
       clear c0 c1 c2 c3 f0 f1 f2 f3
       obtain ⟨wk,hwk⟩:∃ wk,wk=(((wz.setCell ⟨g13,0,none⟩ (.int .i64 xlkr.1)).setCell ⟨g13,1,none⟩ (.int .i64 xlkr.2.1)).setCell ⟨g13,2,none⟩ (.int .i64 xlkr.2.2.1)).setCell ⟨g13,3,none⟩ (.int .i64 xlkr.2.2.2):=⟨_,rfl⟩
       rw [← hwk]
       replace B13:Blk wk g13 [.int .i64 xlkr.1,.int .i64 xlkr.2.1,.int .i64 xlkr.2.2.1,.int .i64 xlkr.2.2.2] 158:=by rw [hwk];exact (((B13.set 0 _).set 1 _).set 2 _).set 3 _
       have KB:Exb g13 wz wk:=by rw [hwk];exact ((((Exb.refl g13 wz).setB (p:=⟨g13,0,none⟩) _ rfl).setB (p:=⟨g13,1,none⟩) _ rfl).setB (p:=⟨g13,2,none⟩) _ rfl).setB (p:=⟨g13,3,none⟩) _ rfl
       replace B12:=B12.nxb (by rcases hne with h | h<;>omega) KB
       replace hHeld:=(Exl.nxb (b:=g13) (w:=w6) ⟨hHeld,zg13⟩ KB).1
       clear KB hwk
       obtain ⟨wz,rfl⟩:∃ wz:World,wz=wk:=⟨_,rfl⟩
       refine hK.out _ _ ?_
       clear hK K
       refine wpAnyL_done (by kernel_rfl) ?_ _
       have CUT:=lH (show NwCut xlkl xlkr w6 (.pointer (some ⟨g12,0,none⟩)) (.pointer (some ⟨g13,0,none⟩)) wz from ⟨g12,g13,rfl,rfl,zg12,zg13,B12,B13,hHeld⟩)
       clear B12 B13 hHeld
       go_wp2_with fail
       go_meet
       exact CUT.out
      refine AllReadyL.cons (o:=⟨_,_,_,_,_,_⟩) rfl (fun K hK=>?_) AllReadyL.nil
      ·go_simp
       have z0:=hHeld.size
       obtain ⟨g12,wz,hg12,hwz,B12,kk⟩:=newNr hHeld
       rw [← hg12,← hwz]
       have zg12:w6.heap.size≤g12:=by omega
       (try have hne:g13<g12∨g12<g13:=.inl (by have:=B13.lt;omega))
       (try replace B13:=B13.nx kk)
       replace hHeld:=hHeld.nx kk
       clear hg12 hwz z0 kk
       refine hK.out _ _ (hHeld) (fun hHeld=>?_)
       clear hK K
       refine rL 9 (by kernel_rfl) rfl fun K hK=>?_
       go_simp
       (with_reducible refine (at_pE _ _ _ P lkr j xlkr hxlkr _ (H2.out.nx (K6.out.nx hHeld)) hn2 HP.out hj16).mono ?_)
       rintro e wz ⟨rfl,kk⟩
       (try replace B12:=B12.nx kk)
       (try replace B13:=B13.nx kk)
       replace hHeld:=hHeld.nx kk
       clear kk
       refine hK.out _ _ (hHeld) (fun hHeld=>?_)
       clear hK K
       refine rLL 12 (by kernel_rfl) rfl (by rfl) fun K hK=>?_
       have c0:=B12.cell 0 _ rfl
       have c1:=B12.cell 1 _ rfl
       have c2:=B12.cell 2 _ rfl
       have c3:=B12.cell 3 _ rfl
       have f0:=B12.free 0
       have f1:=B12.free 1
       have f2:=B12.free 2
       have f3:=B12.free 3
       go_simp
       clear c0 c1 c2 c3 f0 f1 f2 f3
       obtain ⟨wk,hwk⟩:∃ wk,wk=(((wz.setCell ⟨g12,0,none⟩ (.int .i64 xlkl.1)).setCell ⟨g12,1,none⟩ (.int .i64 xlkl.2.1)).setCell ⟨g12,2,none⟩ (.int .i64 xlkl.2.2.1)).setCell ⟨g12,3,none⟩ (.int .i64 xlkl.2.2.2):=⟨_,rfl⟩
       rw [← hwk]
       replace B12:Blk wk g12 [.int .i64 xlkl.1,.int .i64 xlkl.2.1,.int .i64 xlkl.2.2.1,.int .i64 xlkl.2.2.2] 158:=by rw [hwk];exact (((B12.set 0 _).set 1 _).set 2 _).set 3 _
       have KB:Exb g12 wz wk:=by rw [hwk];exact ((((Exb.refl g12 wz).setB (p:=⟨g12,0,none⟩) _ rfl).setB (p:=⟨g12,1,none⟩) _ rfl).setB (p:=⟨g12,2,none⟩) _ rfl).setB (p:=⟨g12,3,none⟩) _ rfl
       replace B13:=B13.nxb (by rcases hne with h | h<;>omega) KB
       replace hHeld:=(Exl.nxb (b:=g12) (w:=w6) ⟨hHeld,zg12⟩ KB).1
       clear KB hwk
       obtain ⟨wz,rfl⟩:∃ wz:World,wz=wk:=⟨_,rfl⟩
       refine hK.out _ _ ?_
       clear hK K
       refine rLL 13 (by kernel_rfl) rfl (by rfl) fun K hK=>?_
       have c0:=B13.cell 0 _ rfl
       have c1:=B13.cell 1 _ rfl
       have c2:=B13.cell 2 _ rfl
       have c3:=B13.cell 3 _ rfl
       have f0:=B13.free 0
       have f1:=B13.free 1
       have f2:=B13.free 2
       have f3:=B13.free 3
       go_simp
       clear c0 c1 c2 c3 f0 f1 f2 f3
       obtain ⟨wk,hwk⟩:∃ wk,wk=(((wz.setCell ⟨g13,0,none⟩ (.int .i64 xlkr.1)).setCell ⟨g13,1,none⟩ (.int .i64 xlkr.2.1)).setCell ⟨g13,2,none⟩ (.int .i64 xlkr.2.2.1)).setCell ⟨g13,3,none⟩ (.int .i64 xlkr.2.2.2):=⟨_,rfl⟩
       rw [← hwk]
       replace B13:Blk wk g13 [.int .i64 xlkr.1,.int .i64 xlkr.2.1,.int .i64 xlkr.2.2.1,.int .i64 xlkr.2.2.2] 158:=by rw [hwk];exact (((B13.set 0 _).set 1 _).set 2 _).set 3 _
       have KB:Exb g13 wz wk:=by rw [hwk];exact ((((Exb.refl g13 wz).setB (p:=⟨g13,0,none⟩) _ rfl).setB (p:=⟨g13,1,none⟩) _ rfl).setB (p:=⟨g13,2,none⟩) _ rfl).setB (p:=⟨g13,3,none⟩) _ rfl
       replace B12:=B12.nxb (by rcases hne with h | h<;>omega) KB
       replace hHeld:=(Exl.nxb (b:=g13) (w:=w6) ⟨hHeld,zg13⟩ KB).1
       clear KB hwk
       obtain ⟨wz,rfl⟩:∃ wz:World,wz=wk:=⟨_,rfl⟩
       refine hK.out _ _ ?_
       clear hK K
       refine wpAnyL_done (by kernel_rfl) ?_ _
       have CUT:=lH (show NwCut xlkl xlkr w6 (.pointer (some ⟨g12,0,none⟩)) (.pointer (some ⟨g13,0,none⟩)) wz from ⟨g12,g13,rfl,rfl,zg12,zg13,B12,B13,hHeld⟩)
       clear B12 B13 hHeld
       go_wp2_with fail
       go_meet
       exact CUT.out
    refine AllReadyL.cons (o:=⟨_,_,_,_,_,_⟩) rfl (fun K hK=>?_) ?_
    ·go_simp
     have z0:=hHeld.size
     obtain ⟨g12,wz,hg12,hwz,B12,kk⟩:=newNr hHeld
     rw [← hg12,← hwz]
     have zg12:w6.heap.size≤g12:=by omega
     (try have hne:g13<g12∨g12<g13:=.inl (by have:=B13.lt;omega))
     (try replace B13:=B13.nx kk)
     replace hHeld:=hHeld.nx kk
     clear hg12 hwz z0 kk
     refine hK.out _ _ (hHeld) (fun hHeld=>?_)
     clear hK K
     refine wpAnyL_ready (rs:=[4,11]) (by kernel_rfl) (by simp) ?_
     refine AllReadyL.cons (o:=⟨_,_,_,_,_,_⟩) rfl (fun K hK=>?_) ?_
     ·go_simp
      (with_reducible refine (at_pE _ _ _ P lkl j xlkl hxlkl _ (H2.out.nx (K6.out.nx hHeld)) hn2 HP.out hj16).mono ?_)
      rintro e wz ⟨rfl,kk⟩
      (try replace B12:=B12.nx kk)
      (try replace B13:=B13.nx kk)
      replace hHeld:=hHeld.nx kk
      clear kk
      refine hK.out _ _ (hHeld) (fun hHeld=>?_)
      clear hK K
      refine wpAnyL_ready (rs:=[9,11]) (by kernel_rfl) (by simp) ?_
      refine AllReadyL.cons (o:=⟨_,_,_,_,_,_⟩) rfl (fun K hK=>?_) ?_
      ·go_simp
       (with_reducible refine (at_pE _ _ _ P lkr j xlkr hxlkr _ (H2.out.nx (K6.out.nx hHeld)) hn2 HP.out hj16).mono ?_)
       rintro e wz ⟨rfl,kk⟩
       (try replace B12:=B12.nx kk)
       (try replace B13:=B13.nx kk)
       replace hHeld:=hHeld.nx kk
       clear kk
       refine hK.out _ _ (hHeld) (fun hHeld=>?_)
       clear hK K
       refine rL 11 (by kernel_rfl) rfl fun K hK=>?_
       go_simp
       have z0:=hHeld.size
       obtain ⟨g13,wz,hg13,hwz,B13,kk⟩:=newNr hHeld
       rw [← hg13,← hwz]
       have zg13:w6.heap.size≤g13:=by omega
       (try have hne:g12<g13∨g13<g12:=.inl (by have:=B12.lt;omega))
       (try replace B12:=B12.nx kk)
       replace hHeld:=hHeld.nx kk
       clear hg13 hwz z0 kk
       refine hK.out _ _ (hHeld) (fun hHeld=>?_)
       clear hK K
       refine rLL 12 (by kernel_rfl) rfl (by rfl) fun K hK=>?_
       have c0:=B12.cell 0 _ rfl
       have c1:=B12.cell 1 _ rfl
       have c2:=B12.cell 2 _ rfl
       have c3:=B12.cell 3 _ rfl
       have f0:=B12.free 0
       have f1:=B12.free 1
       have f2:=B12.free 2
       have f3:=B12.free 3
       go_simp
       clear c0 c1 c2 c3 f0 f1 f2 f3
       obtain ⟨wk,hwk⟩:∃ wk,wk=(((wz.setCell ⟨g12,0,none⟩ (.int .i64 xlkl.1)).setCell ⟨g12,1,none⟩ (.int .i64 xlkl.2.1)).setCell ⟨g12,2,none⟩ (.int .i64 xlkl.2.2.1)).setCell ⟨g12,3,none⟩ (.int .i64 xlkl.2.2.2):=⟨_,rfl⟩
       rw [← hwk]
       replace B12:Blk wk g12 [.int .i64 xlkl.1,.int .i64 xlkl.2.1,.int .i64 xlkl.2.2.1,.int .i64 xlkl.2.2.2] 158:=by rw [hwk];exact (((B12.set 0 _).set 1 _).set 2 _).set 3 _
       have KB:Exb g12 wz wk:=by rw [hwk];exact ((((Exb.refl g12 wz).setB (p:=⟨g12,0,none⟩) _ rfl).setB (p:=⟨g12,1,none⟩) _ rfl).setB (p:=⟨g12,2,none⟩) _ rfl).setB (p:=⟨g12,3,none⟩) _ rfl
       replace B13:=B13.nxb (by rcases hne with h | h<;>omega) KB
       replace hHeld:=(Exl.nxb (b:=g12) (w:=w6) ⟨hHeld,zg12⟩ KB).1
       clear KB hwk
       obtain ⟨wz,rfl⟩:∃ wz:World,wz=wk:=⟨_,rfl⟩
       refine hK.out _ _ ?_
       clear hK K
       refine rLL 13 (by kernel_rfl) rfl (by rfl) fun K hK=>?_
       have c0:=B13.cell 0 _ rfl
       have c1:=B13.cell 1 _ rfl
       have c2:=B13.cell 2 _ rfl
       have c3:=B13.cell 3 _ rfl
       have f0:=B13.free 0
       have f1:=B13.free 1
       have f2:=B13.free 2
       have f3:=B13.free 3
       go_simp
       clear c0 c1 c2 c3 f0 f1 f2 f3
       obtain ⟨wk,hwk⟩:∃ wk,wk=(((wz.setCell ⟨g13,0,none⟩ (.int .i64 xlkr.1)).setCell ⟨g13,1,none⟩ (.int .i64 xlkr.2.1)).setCell ⟨g13,2,none⟩ (.int .i64 xlkr.2.2.1)).setCell ⟨g13,3,none⟩ (.int .i64 xlkr.2.2.2):=⟨_,rfl⟩
       rw [← hwk]
       replace B13:Blk wk g13 [.int .i64 xlkr.1,.int .i64 xlkr.2.1,.int .i64 xlkr.2.2.1,.int .i64 xlkr.2.2.2] 158:=by rw [hwk];exact (((B13.set 0 _).set 1 _).set 2 _).set 3 _
       have KB:Exb g13 wz wk:=by rw [hwk];exact ((((Exb.refl g13 wz).setB (p:=⟨g13,0,none⟩) _ rfl).setB (p:=⟨g13,1,none⟩) _ rfl).setB (p:=⟨g13,2,none⟩) _ rfl).setB (p:=⟨g13,3,none⟩) _ rfl
       replace B12:=B12.nxb (by rcases hne with h | h<;>omega) KB
       replace hHeld:=(Exl.nxb (b:=g13) (w:=w6) ⟨hHeld,zg13⟩ KB).1
       clear KB hwk
       obtain ⟨wz,rfl⟩:∃ wz:World,wz=wk:=⟨_,rfl⟩
       refine hK.out _ _ ?_
       clear hK K
       refine wpAnyL_done (by kernel_rfl) ?_ _
       have CUT:=lH (show NwCut xlkl xlkr w6 (.pointer (some ⟨g12,0,none⟩)) (.pointer (some ⟨g13,0,none⟩)) wz from ⟨g12,g13,rfl,rfl,zg12,zg13,B12,B13,hHeld⟩)
       clear B12 B13 hHeld
       go_wp2_with fail
       go_meet
       exact CUT.out
      refine AllReadyL.cons (o:=⟨_,_,_,_,_,_⟩) rfl (fun K hK=>?_) AllReadyL.nil
      ·go_simp
       have z0:=hHeld.size
       obtain ⟨g13,wz,hg13,hwz,B13,kk⟩:=newNr hHeld
       rw [← hg13,← hwz]
       have zg13:w6.heap.size≤g13:=by omega
       (try have hne:g12<g13∨g13<g12:=.inl (by have:=B12.lt;omega))
       (try replace B12:=B12.nx kk)
       replace hHeld:=hHeld.nx kk
       clear hg13 hwz z0 kk
       refine hK.out _ _ (hHeld) (fun hHeld=>?_)
       clear hK K
       refine rL 9 (by kernel_rfl) rfl fun K hK=>?_
       go_simp
       (with_reducible refine (at_pE _ _ _ P lkr j xlkr hxlkr _ (H2.out.nx (K6.out.nx hHeld)) hn2 HP.out hj16).mono ?_)
       rintro e wz ⟨rfl,kk⟩
       (try replace B12:=B12.nx kk)
       (try replace B13:=B13.nx kk)
       replace hHeld:=hHeld.nx kk
       clear kk
       refine hK.out _ _ (hHeld) (fun hHeld=>?_)
       clear hK K
       refine rLL 12 (by kernel_rfl) rfl (by rfl) fun K hK=>?_
       have c0:=B12.cell 0 _ rfl
       have c1:=B12.cell 1 _ rfl
       have c2:=B12.cell 2 _ rfl
       have c3:=B12.cell 3 _ rfl
       have f0:=B12.free 0
       have f1:=B12.free 1
       have f2:=B12.free 2
       have f3:=B12.free 3
       go_simp
       clear c0 c1 c2 c3 f0 f1 f2 f3
       obtain ⟨wk,hwk⟩:∃ wk,wk=(((wz.setCell ⟨g12,0,none⟩ (.int .i64 xlkl.1)).setCell ⟨g12,1,none⟩ (.int .i64 xlkl.2.1)).setCell ⟨g12,2,none⟩ (.int .i64 xlkl.2.2.1)).setCell ⟨g12,3,none⟩ (.int .i64 xlkl.2.2.2):=⟨_,rfl⟩
       rw [← hwk]
       replace B12:Blk wk g12 [.int .i64 xlkl.1,.int .i64 xlkl.2.1,.int .i64 xlkl.2.2.1,.int .i64 xlkl.2.2.2] 158:=by rw [hwk];exact (((B12.set 0 _).set 1 _).set 2 _).set 3 _
       have KB:Exb g12 wz wk:=by rw [hwk];exact ((((Exb.refl g12 wz).setB (p:=⟨g12,0,none⟩) _ rfl).setB (p:=⟨g12,1,none⟩) _ rfl).setB (p:=⟨g12,2,none⟩) _ rfl).setB (p:=⟨g12,3,none⟩) _ rfl
       replace B13:=B13.nxb (by rcases hne with h | h<;>omega) KB
       replace hHeld:=(Exl.nxb (b:=g12) (w:=w6) ⟨hHeld,zg12⟩ KB).1
       clear KB hwk
       obtain ⟨wz,rfl⟩:∃ wz:World,wz=wk:=⟨_,rfl⟩
       refine hK.out _ _ ?_
       clear hK K
       refine rLL 13 (by kernel_rfl) rfl (by rfl) fun K hK=>?_
       have c0:=B13.cell 0 _ rfl
       have c1:=B13.cell 1 _ rfl
       have c2:=B13.cell 2 _ rfl
       have c3:=B13.cell 3 _ rfl
       have f0:=B13.free 0
       have f1:=B13.free 1
       have f2:=B13.free 2
       have f3:=B13.free 3
       go_simp
       clear c0 c1 c2 c3 f0 f1 f2 f3
       obtain ⟨wk,hwk⟩:∃ wk,wk=(((wz.setCell ⟨g13,0,none⟩ (.int .i64 xlkr.1)).setCell ⟨g13,1,none⟩ (.int .i64 xlkr.2.1)).setCell ⟨g13,2,none⟩ (.int .i64 xlkr.2.2.1)).setCell ⟨g13,3,none⟩ (.int .i64 xlkr.2.2.2):=⟨_,rfl⟩
       rw [← hwk]
       replace B13:Blk wk g13 [.int .i64 xlkr.1,.int .i64 xlkr.2.1,.int .i64 xlkr.2.2.1,.int .i64 xlkr.2.2.2] 158:=by rw [hwk];exact (((B13.set 0 _).set 1 _).set 2 _).set 3 _
       have KB:Exb g13 wz wk:=by rw [hwk];exact ((((Exb.refl g13 wz).setB (p:=⟨g13,0,none⟩) _ rfl).setB (p:=⟨g13,1,none⟩) _ rfl).setB (p:=⟨g13,2,none⟩) _ rfl).setB (p:=⟨g13,3,none⟩) _ rfl
       replace B12:=B12.nxb (by rcases hne with h | h<;>omega) KB
       replace hHeld:=(Exl.nxb (b:=g13) (w:=w6) ⟨hHeld,zg13⟩ KB).1
       clear KB hwk
       obtain ⟨wz,rfl⟩:∃ wz:World,wz=wk:=⟨_,rfl⟩
       refine hK.out _ _ ?_
       clear hK K
       refine wpAnyL_done (by kernel_rfl) ?_ _
       have CUT:=lH (show NwCut xlkl xlkr w6 (.pointer (some ⟨g12,0,none⟩)) (.pointer (some ⟨g13,0,none⟩)) wz from ⟨g12,g13,rfl,rfl,zg12,zg13,B12,B13,hHeld⟩)
       clear B12 B13 hHeld
       go_wp2_with fail
       go_meet
       exact CUT.out
     refine AllReadyL.cons (o:=⟨_,_,_,_,_,_⟩) rfl (fun K hK=>?_) AllReadyL.nil
     ·go_simp
      have z0:=hHeld.size
      obtain ⟨g13,wz,hg13,hwz,B13,kk⟩:=newNr hHeld
      rw [← hg13,← hwz]
      have zg13:w6.heap.size≤g13:=by omega
      (try have hne:g12<g13∨g13<g12:=.inl (by have:=B12.lt;omega))
      (try replace B12:=B12.nx kk)
      replace hHeld:=hHeld.nx kk
      clear hg13 hwz z0 kk
      refine hK.out _ _ (hHeld) (fun hHeld=>?_)
      clear hK K
      refine rL 4 (by kernel_rfl) rfl fun K hK=>?_
      go_simp
      (with_reducible refine (at_pE _ _ _ P lkl j xlkl hxlkl _ (H2.out.nx (K6.out.nx hHeld)) hn2 HP.out hj16).mono ?_)
      rintro e wz ⟨rfl,kk⟩
      (try replace B12:=B12.nx kk)
      (try replace B13:=B13.nx kk)
      replace hHeld:=hHeld.nx kk
      clear kk
      refine hK.out _ _ (hHeld) (fun hHeld=>?_)
      clear hK K
      refine rL 9 (by kernel_rfl) rfl fun K hK=>?_
      go_simp
      (with_reducible refine (at_pE _ _ _ P lkr j xlkr hxlkr _ (H2.out.nx (K6.out.nx hHeld)) hn2 HP.out hj16).mono ?_)
      rintro e wz ⟨rfl,kk⟩
      (try replace B12:=B12.nx kk)
      (try replace B13:=B13.nx kk)
      replace hHeld:=hHeld.nx kk
      clear kk
      refine hK.out _ _ (hHeld) (fun hHeld=>?_)
      clear hK K
      refine rLL 12 (by kernel_rfl) rfl (by rfl) fun K hK=>?_
      have c0:=B12.cell 0 _ rfl
      have c1:=B12.cell 1 _ rfl
      have c2:=B12.cell 2 _ rfl
      have c3:=B12.cell 3 _ rfl
      have f0:=B12.free 0
      have f1:=B12.free 1
      have f2:=B12.free 2
      have f3:=B12.free 3
      go_simp
      clear c0 c1 c2 c3 f0 f1 f2 f3
      obtain ⟨wk,hwk⟩:∃ wk,wk=(((wz.setCell ⟨g12,0,none⟩ (.int .i64 xlkl.1)).setCell ⟨g12,1,none⟩ (.int .i64 xlkl.2.1)).setCell ⟨g12,2,none⟩ (.int .i64 xlkl.2.2.1)).setCell ⟨g12,3,none⟩ (.int .i64 xlkl.2.2.2):=⟨_,rfl⟩
      rw [← hwk]
      replace B12:Blk wk g12 [.int .i64 xlkl.1,.int .i64 xlkl.2.1,.int .i64 xlkl.2.2.1,.int .i64 xlkl.2.2.2] 158:=by rw [hwk];exact (((B12.set 0 _).set 1 _).set 2 _).set 3 _
      have KB:Exb g12 wz wk:=by rw [hwk];exact ((((Exb.refl g12 wz).setB (p:=⟨g12,0,none⟩) _ rfl).setB (p:=⟨g12,1,none⟩) _ rfl).setB (p:=⟨g12,2,none⟩) _ rfl).setB (p:=⟨g12,3,none⟩) _ rfl
      replace B13:=B13.nxb (by rcases hne with h | h<;>omega) KB
      replace hHeld:=(Exl.nxb (b:=g12) (w:=w6) ⟨hHeld,zg12⟩ KB).1
      clear KB hwk
      obtain ⟨wz,rfl⟩:∃ wz:World,wz=wk:=⟨_,rfl⟩
      refine hK.out _ _ ?_
      clear hK K
      refine rLL 13 (by kernel_rfl) rfl (by rfl) fun K hK=>?_
      have c0:=B13.cell 0 _ rfl
      have c1:=B13.cell 1 _ rfl
      have c2:=B13.cell 2 _ rfl
      have c3:=B13.cell 3 _ rfl
      have f0:=B13.free 0
      have f1:=B13.free 1
      have f2:=B13.free 2
      have f3:=B13.free 3
      go_simp
      clear c0 c1 c2 c3 f0 f1 f2 f3
      obtain ⟨wk,hwk⟩:∃ wk,wk=(((wz.setCell ⟨g13,0,none⟩ (.int .i64 xlkr.1)).setCell ⟨g13,1,none⟩ (.int .i64 xlkr.2.1)).setCell ⟨g13,2,none⟩ (.int .i64 xlkr.2.2.1)).setCell ⟨g13,3,none⟩ (.int .i64 xlkr.2.2.2):=⟨_,rfl⟩
      rw [← hwk]
      replace B13:Blk wk g13 [.int .i64 xlkr.1,.int .i64 xlkr.2.1,.int .i64 xlkr.2.2.1,.int .i64 xlkr.2.2.2] 158:=by rw [hwk];exact (((B13.set 0 _).set 1 _).set 2 _).set 3 _
      have KB:Exb g13 wz wk:=by rw [hwk];exact ((((Exb.refl g13 wz).setB (p:=⟨g13,0,none⟩) _ rfl).setB (p:=⟨g13,1,none⟩) _ rfl).setB (p:=⟨g13,2,none⟩) _ rfl).setB (p:=⟨g13,3,none⟩) _ rfl
      replace B12:=B12.nxb (by rcases hne with h | h<;>omega) KB
      replace hHeld:=(Exl.nxb (b:=g13) (w:=w6) ⟨hHeld,zg13⟩ KB).1
      clear KB hwk
      obtain ⟨wz,rfl⟩:∃ wz:World,wz=wk:=⟨_,rfl⟩
      refine hK.out _ _ ?_
      clear hK K
      refine wpAnyL_done (by kernel_rfl) ?_ _
      have CUT:=lH (show NwCut xlkl xlkr w6 (.pointer (some ⟨g12,0,none⟩)) (.pointer (some ⟨g13,0,none⟩)) wz from ⟨g12,g13,rfl,rfl,zg12,zg13,B12,B13,hHeld⟩)
      clear B12 B13 hHeld
      go_wp2_with fail
      go_meet
      exact CUT.out
    refine AllReadyL.cons (o:=⟨_,_,_,_,_,_⟩) rfl (fun K hK=>?_) AllReadyL.nil
    ·go_simp
     have z0:=hHeld.size
     obtain ⟨g13,wz,hg13,hwz,B13,kk⟩:=newNr hHeld
     rw [← hg13,← hwz]
     have zg13:w6.heap.size≤g13:=by omega
     (try have hne:g12<g13∨g13<g12:=.inl (by have:=B12.lt;omega))
     (try replace B12:=B12.nx kk)
     replace hHeld:=hHeld.nx kk
     clear hg13 hwz z0 kk
     refine hK.out _ _ (hHeld) (fun hHeld=>?_)
     clear hK K
     refine wpAnyL_ready (rs:=[4,10]) (by kernel_rfl) (by simp) ?_
     refine AllReadyL.cons (o:=⟨_,_,_,_,_,_⟩) rfl (fun K hK=>?_) ?_
     ·go_simp
      (with_reducible refine (at_pE _ _ _ P lkl j xlkl hxlkl _ (H2.out.nx (K6.out.nx hHeld)) hn2 HP.out hj16).mono ?_)
      rintro e wz ⟨rfl,kk⟩
      (try replace B12:=B12.nx kk)
      (try replace B13:=B13.nx kk)
      replace hHeld:=hHeld.nx kk
      clear kk
      refine hK.out _ _ (hHeld) (fun hHeld=>?_)
      clear hK K
      refine wpAnyL_ready (rs:=[9,10]) (by kernel_rfl) (by simp) ?_
      refine AllReadyL.cons (o:=⟨_,_,_,_,_,_⟩) rfl (fun K hK=>?_) ?_
      ·go_simp
       (with_reducible refine (at_pE _ _ _ P lkr j xlkr hxlkr _ (H2.out.nx (K6.out.nx hHeld)) hn2 HP.out hj16).mono ?_)
       rintro e wz ⟨rfl,kk⟩
       (try replace B12:=B12.nx kk)
       (try replace B13:=B13.nx kk)
       replace hHeld:=hHeld.nx kk
       clear kk
       refine hK.out _ _ (hHeld) (fun hHeld=>?_)
       clear hK K
       refine rL 10 (by kernel_rfl) rfl fun K hK=>?_
       go_simp
       have z0:=hHeld.size
       obtain ⟨g12,wz,hg12,hwz,B12,kk⟩:=newNr hHeld
       rw [← hg12,← hwz]
       have zg12:w6.heap.size≤g12:=by omega
       (try have hne:g13<g12∨g12<g13:=.inl (by have:=B13.lt;omega))
       (try replace B13:=B13.nx kk)
       replace hHeld:=hHeld.nx kk
       clear hg12 hwz z0 kk
       refine hK.out _ _ (hHeld) (fun hHeld=>?_)
       clear hK K
       refine rLL 12 (by kernel_rfl) rfl (by rfl) fun K hK=>?_
       have c0:=B12.cell 0 _ rfl
       have c1:=B12.cell 1 _ rfl
       have c2:=B12.cell 2 _ rfl
       have c3:=B12.cell 3 _ rfl
       have f0:=B12.free 0
       have f1:=B12.free 1
       have f2:=B12.free 2
       have f3:=B12.free 3
       go_simp
       clear c0 c1 c2 c3 f0 f1 f2 f3
       obtain ⟨wk,hwk⟩:∃ wk,wk=(((wz.setCell ⟨g12,0,none⟩ (.int .i64 xlkl.1)).setCell ⟨g12,1,none⟩ (.int .i64 xlkl.2.1)).setCell ⟨g12,2,none⟩ (.int .i64 xlkl.2.2.1)).setCell ⟨g12,3,none⟩ (.int .i64 xlkl.2.2.2):=⟨_,rfl⟩
       rw [← hwk]
       replace B12:Blk wk g12 [.int .i64 xlkl.1,.int .i64 xlkl.2.1,.int .i64 xlkl.2.2.1,.int .i64 xlkl.2.2.2] 158:=by rw [hwk];exact (((B12.set 0 _).set 1 _).set 2 _).set 3 _
       have KB:Exb g12 wz wk:=by rw [hwk];exact ((((Exb.refl g12 wz).setB (p:=⟨g12,0,none⟩) _ rfl).setB (p:=⟨g12,1,none⟩) _ rfl).setB (p:=⟨g12,2,none⟩) _ rfl).setB (p:=⟨g12,3,none⟩) _ rfl
       replace B13:=B13.nxb (by rcases hne with h | h<;>omega) KB
       replace hHeld:=(Exl.nxb (b:=g12) (w:=w6) ⟨hHeld,zg12⟩ KB).1
       clear KB hwk
       obtain ⟨wz,rfl⟩:∃ wz:World,wz=wk:=⟨_,rfl⟩
       refine hK.out _ _ ?_
       clear hK K
       refine rLL 13 (by kernel_rfl) rfl (by rfl) fun K hK=>?_
       have c0:=B13.cell 0 _ rfl
       have c1:=B13.cell 1 _ rfl
       have c2:=B13.cell 2 _ rfl
       have c3:=B13.cell 3 _ rfl
       have f0:=B13.free 0
       have f1:=B13.free 1
       have f2:=B13.free 2
       have f3:=B13.free 3
       go_simp
       clear c0 c1 c2 c3 f0 f1 f2 f3
       obtain ⟨wk,hwk⟩:∃ wk,wk=(((wz.setCell ⟨g13,0,none⟩ (.int .i64 xlkr.1)).setCell ⟨g13,1,none⟩ (.int .i64 xlkr.2.1)).setCell ⟨g13,2,none⟩ (.int .i64 xlkr.2.2.1)).setCell ⟨g13,3,none⟩ (.int .i64 xlkr.2.2.2):=⟨_,rfl⟩
       rw [← hwk]
       replace B13:Blk wk g13 [.int .i64 xlkr.1,.int .i64 xlkr.2.1,.int .i64 xlkr.2.2.1,.int .i64 xlkr.2.2.2] 158:=by rw [hwk];exact (((B13.set 0 _).set 1 _).set 2 _).set 3 _
       have KB:Exb g13 wz wk:=by rw [hwk];exact ((((Exb.refl g13 wz).setB (p:=⟨g13,0,none⟩) _ rfl).setB (p:=⟨g13,1,none⟩) _ rfl).setB (p:=⟨g13,2,none⟩) _ rfl).setB (p:=⟨g13,3,none⟩) _ rfl
       replace B12:=B12.nxb (by rcases hne with h | h<;>omega) KB
       replace hHeld:=(Exl.nxb (b:=g13) (w:=w6) ⟨hHeld,zg13⟩ KB).1
       clear KB hwk
       obtain ⟨wz,rfl⟩:∃ wz:World,wz=wk:=⟨_,rfl⟩
       refine hK.out _ _ ?_
       clear hK K
       refine wpAnyL_done (by kernel_rfl) ?_ _
       have CUT:=lH (show NwCut xlkl xlkr w6 (.pointer (some ⟨g12,0,none⟩)) (.pointer (some ⟨g13,0,none⟩)) wz from ⟨g12,g13,rfl,rfl,zg12,zg13,B12,B13,hHeld⟩)
       clear B12 B13 hHeld
       go_wp2_with fail
       go_meet
       exact CUT.out
      refine AllReadyL.cons (o:=⟨_,_,_,_,_,_⟩) rfl (fun K hK=>?_) AllReadyL.nil
      ·go_simp
       have z0:=hHeld.size
       obtain ⟨g12,wz,hg12,hwz,B12,kk⟩:=newNr hHeld
       rw [← hg12,← hwz]
       have zg12:w6.heap.size≤g12:=by omega
       (try have hne:g13<g12∨g12<g13:=.inl (by have:=B13.lt;omega))
       (try replace B13:=B13.nx kk)
       replace hHeld:=hHeld.nx kk
       clear hg12 hwz z0 kk
       refine hK.out _ _ (hHeld) (fun hHeld=>?_)
       clear hK K
       refine rL 9 (by kernel_rfl) rfl fun K hK=>?_
       go_simp
       (with_reducible refine (at_pE _ _ _ P lkr j xlkr hxlkr _ (H2.out.nx (K6.out.nx hHeld)) hn2 HP.out hj16).mono ?_)
       rintro e wz ⟨rfl,kk⟩
       (try replace B12:=B12.nx kk)
       (try replace B13:=B13.nx kk)
       replace hHeld:=hHeld.nx kk
       clear kk
       refine hK.out _ _ (hHeld) (fun hHeld=>?_)
       clear hK K
       refine rLL 12 (by kernel_rfl) rfl (by rfl) fun K hK=>?_
       have c0:=B12.cell 0 _ rfl
       have c1:=B12.cell 1 _ rfl
       have c2:=B12.cell 2 _ rfl
       have c3:=B12.cell 3 _ rfl
       have f0:=B12.free 0
       have f1:=B12.free 1
       have f2:=B12.free 2
       have f3:=B12.free 3
       go_simp
       clear c0 c1 c2 c3 f0 f1 f2 f3
       obtain ⟨wk,hwk⟩:∃ wk,wk=(((wz.setCell ⟨g12,0,none⟩ (.int .i64 xlkl.1)).setCell ⟨g12,1,none⟩ (.int .i64 xlkl.2.1)).setCell ⟨g12,2,none⟩ (.int .i64 xlkl.2.2.1)).setCell ⟨g12,3,none⟩ (.int .i64 xlkl.2.2.2):=⟨_,rfl⟩
       rw [← hwk]
       replace B12:Blk wk g12 [.int .i64 xlkl.1,.int .i64 xlkl.2.1,.int .i64 xlkl.2.2.1,.int .i64 xlkl.2.2.2] 158:=by rw [hwk];exact (((B12.set 0 _).set 1 _).set 2 _).set 3 _
       have KB:Exb g12 wz wk:=by rw [hwk];exact ((((Exb.refl g12 wz).setB (p:=⟨g12,0,none⟩) _ rfl).setB (p:=⟨g12,1,none⟩) _ rfl).setB (p:=⟨g12,2,none⟩) _ rfl).setB (p:=⟨g12,3,none⟩) _ rfl
       replace B13:=B13.nxb (by rcases hne with h | h<;>omega) KB
       replace hHeld:=(Exl.nxb (b:=g12) (w:=w6) ⟨hHeld,zg12⟩ KB).1
       clear KB hwk
       obtain ⟨wz,rfl⟩:∃ wz:World,wz=wk:=⟨_,rfl⟩
       refine hK.out _ _ ?_
       clear hK K
       refine rLL 13 (by kernel_rfl) rfl (by rfl) fun K hK=>?_
       have c0:=B13.cell 0 _ rfl
       have c1:=B13.cell 1 _ rfl
       have c2:=B13.cell 2 _ rfl
       have c3:=B13.cell 3 _ rfl
       have f0:=B13.free 0
       have f1:=B13.free 1
       have f2:=B13.free 2
       have f3:=B13.free 3
       go_simp
       clear c0 c1 c2 c3 f0 f1 f2 f3
       obtain ⟨wk,hwk⟩:∃ wk,wk=(((wz.setCell ⟨g13,0,none⟩ (.int .i64 xlkr.1)).setCell ⟨g13,1,none⟩ (.int .i64 xlkr.2.1)).setCell ⟨g13,2,none⟩ (.int .i64 xlkr.2.2.1)).setCell ⟨g13,3,none⟩ (.int .i64 xlkr.2.2.2):=⟨_,rfl⟩
       rw [← hwk]
       replace B13:Blk wk g13 [.int .i64 xlkr.1,.int .i64 xlkr.2.1,.int .i64 xlkr.2.2.1,.int .i64 xlkr.2.2.2] 158:=by rw [hwk];exact (((B13.set 0 _).set 1 _).set 2 _).set 3 _
       have KB:Exb g13 wz wk:=by rw [hwk];exact ((((Exb.refl g13 wz).setB (p:=⟨g13,0,none⟩) _ rfl).setB (p:=⟨g13,1,none⟩) _ rfl).setB (p:=⟨g13,2,none⟩) _ rfl).setB (p:=⟨g13,3,none⟩) _ rfl
       replace B12:=B12.nxb (by rcases hne with h | h<;>omega) KB
       replace hHeld:=(Exl.nxb (b:=g13) (w:=w6) ⟨hHeld,zg13⟩ KB).1
       clear KB hwk
       obtain ⟨wz,rfl⟩:∃ wz:World,wz=wk:=⟨_,rfl⟩
       refine hK.out _ _ ?_
       clear hK K
       refine wpAnyL_done (by kernel_rfl) ?_ _
       have CUT:=lH (show NwCut xlkl xlkr w6 (.pointer (some ⟨g12,0,none⟩)) (.pointer (some ⟨g13,0,none⟩)) wz from ⟨g12,g13,rfl,rfl,zg12,zg13,B12,B13,hHeld⟩)
       clear B12 B13 hHeld
       go_wp2_with fail
       go_meet
       exact CUT.out
     refine AllReadyL.cons (o:=⟨_,_,_,_,_,_⟩) rfl (fun K hK=>?_) AllReadyL.nil
     ·go_simp
      have z0:=hHeld.size
      obtain ⟨g12,wz,hg12,hwz,B12,kk⟩:=newNr hHeld
      rw [← hg12,← hwz]
      have zg12:w6.heap.size≤g12:=by omega
      (try have hne:g13<g12∨g12<g13:=.inl (by have:=B13.lt;omega))
      (try replace B13:=B13.nx kk)
      replace hHeld:=hHeld.nx kk
      clear hg12 hwz z0 kk
      refine hK.out _ _ (hHeld) (fun hHeld=>?_)
      clear hK K
      refine rL 4 (by kernel_rfl) rfl fun K hK=>?_
      go_simp
      (with_reducible refine (at_pE _ _ _ P lkl j xlkl hxlkl _ (H2.out.nx (K6.out.nx hHeld)) hn2 HP.out hj16).mono ?_)
      rintro e wz ⟨rfl,kk⟩
      (try replace B12:=B12.nx kk)
      (try replace B13:=B13.nx kk)
      replace hHeld:=hHeld.nx kk
      clear kk
      refine hK.out _ _ (hHeld) (fun hHeld=>?_)
      clear hK K
      refine rL 9 (by kernel_rfl) rfl fun K hK=>?_
      go_simp
      (with_reducible refine (at_pE _ _ _ P lkr j xlkr hxlkr _ (H2.out.nx (K6.out.nx hHeld)) hn2 HP.out hj16).mono ?_)
      rintro e wz ⟨rfl,kk⟩
      (try replace B12:=B12.nx kk)
      (try replace B13:=B13.nx kk)
      replace hHeld:=hHeld.nx kk
      clear kk
      refine hK.out _ _ (hHeld) (fun hHeld=>?_)
      clear hK K
      refine rLL 12 (by kernel_rfl) rfl (by rfl) fun K hK=>?_
      have c0:=B12.cell 0 _ rfl
      have c1:=B12.cell 1 _ rfl
      have c2:=B12.cell 2 _ rfl
      have c3:=B12.cell 3 _ rfl
      have f0:=B12.free 0
      have f1:=B12.free 1
      have f2:=B12.free 2
      have f3:=B12.free 3
      go_simp
      clear c0 c1 c2 c3 f0 f1 f2 f3
      obtain ⟨wk,hwk⟩:∃ wk,wk=(((wz.setCell ⟨g12,0,none⟩ (.int .i64 xlkl.1)).setCell ⟨g12,1,none⟩ (.int .i64 xlkl.2.1)).setCell ⟨g12,2,none⟩ (.int .i64 xlkl.2.2.1)).setCell ⟨g12,3,none⟩ (.int .i64 xlkl.2.2.2):=⟨_,rfl⟩
      rw [← hwk]
      replace B12:Blk wk g12 [.int .i64 xlkl.1,.int .i64 xlkl.2.1,.int .i64 xlkl.2.2.1,.int .i64 xlkl.2.2.2] 158:=by rw [hwk];exact (((B12.set 0 _).set 1 _).set 2 _).set 3 _
      have KB:Exb g12 wz wk:=by rw [hwk];exact ((((Exb.refl g12 wz).setB (p:=⟨g12,0,none⟩) _ rfl).setB (p:=⟨g12,1,none⟩) _ rfl).setB (p:=⟨g12,2,none⟩) _ rfl).setB (p:=⟨g12,3,none⟩) _ rfl
      replace B13:=B13.nxb (by rcases hne with h | h<;>omega) KB
      replace hHeld:=(Exl.nxb (b:=g12) (w:=w6) ⟨hHeld,zg12⟩ KB).1
      clear KB hwk
      obtain ⟨wz,rfl⟩:∃ wz:World,wz=wk:=⟨_,rfl⟩
      refine hK.out _ _ ?_
      clear hK K
      refine rLL 13 (by kernel_rfl) rfl (by rfl) fun K hK=>?_
      have c0:=B13.cell 0 _ rfl
      have c1:=B13.cell 1 _ rfl
      have c2:=B13.cell 2 _ rfl
      have c3:=B13.cell 3 _ rfl
      have f0:=B13.free 0
      have f1:=B13.free 1
      have f2:=B13.free 2
      have f3:=B13.free 3
      go_simp
      clear c0 c1 c2 c3 f0 f1 f2 f3
      obtain ⟨wk,hwk⟩:∃ wk,wk=(((wz.setCell ⟨g13,0,none⟩ (.int .i64 xlkr.1)).setCell ⟨g13,1,none⟩ (.int .i64 xlkr.2.1)).setCell ⟨g13,2,none⟩ (.int .i64 xlkr.2.2.1)).setCell ⟨g13,3,none⟩ (.int .i64 xlkr.2.2.2):=⟨_,rfl⟩
      rw [← hwk]
      replace B13:Blk wk g13 [.int .i64 xlkr.1,.int .i64 xlkr.2.1,.int .i64 xlkr.2.2.1,.int .i64 xlkr.2.2.2] 158:=by rw [hwk];exact (((B13.set 0 _).set 1 _).set 2 _).set 3 _
      have KB:Exb g13 wz wk:=by rw [hwk];exact ((((Exb.refl g13 wz).setB (p:=⟨g13,0,none⟩) _ rfl).setB (p:=⟨g13,1,none⟩) _ rfl).setB (p:=⟨g13,2,none⟩) _ rfl).setB (p:=⟨g13,3,none⟩) _ rfl
      replace B12:=B12.nxb (by rcases hne with h | h<;>omega) KB
      replace hHeld:=(Exl.nxb (b:=g13) (w:=w6) ⟨hHeld,zg13⟩ KB).1
      clear KB hwk
      obtain ⟨wz,rfl⟩:∃ wz:World,wz=wk:=⟨_,rfl⟩
      refine hK.out _ _ ?_
      clear hK K
      refine wpAnyL_done (by kernel_rfl) ?_ _
      have CUT:=lH (show NwCut xlkl xlkr w6 (.pointer (some ⟨g12,0,none⟩)) (.pointer (some ⟨g13,0,none⟩)) wz from ⟨g12,g13,rfl,rfl,zg12,zg13,B12,B13,hHeld⟩)
      clear B12 B13 hHeld
      go_wp2_with fail
      go_meet
      exact CUT.out
   case rest =>
    obtain ⟨g12,g13,rfl,rfl,zg12,zg13,B12,B13,k6⟩:=hcut
    rename World=>wk
    have K:=lH (KI.out.nx k6)
    replace OWN:=lH (OWN.out.nx k6)
    have q0:=(B6h.out.nx K.out).cell 0 _ rfl
    have B11:=B11h.out.nx k6
    have u0:=B11.cell 0 _ rfl
    have v0:=B12.cell 0 _ rfl
    have v1:=B12.cell 1 _ rfl
    have hjz:(0:Int)≤(j:Int):=by omega
    have hjh:(j:Int)<(h:Int):=by omega
    have n12:¬ g12=g9:=by omega
    have n13:¬ g13=g9:=by omega
    have Y0:=lH (rowB_at F hjm)
    have SE:=lH (rowB_set F hjm)
    clear k6 hxlkl hxlkr
    obtain ⟨PA,hPA⟩:∃ x,pairB N p.id lkl j xlkl.1 xlkl.2.1=x:=⟨_,rfl⟩
    obtain ⟨PB,hPB⟩:∃ x,pairB N p.id lkr j xlkr.2.2.1 xlkr.2.2.2=x:=⟨_,rfl⟩
    replace ST:Hid (F j=(PA.1,PA.2,PB.1,PB.2)):=lH (by rw [ST.out];simp only;rw [hPA,hPB])
    go_wp2_with fail
    (with_reducible refine (pair_p _ _ _ N p.id lkl j xlkl.1 xlkl.2.1 _ (H1.out.nx K.out) hn HW.out hj16).mono ?_)
    rintro e w7 ⟨rfl,kk⟩
    rw [hPA]
    clear hPA q0 u0 v0 v1
    replace OWN:=lH (OWN.out.nx kk)
    replace K:=lH (K.out.nx kk)
    replace B11:=lH (B11.nx kk)
    replace B12:=B12.nx kk
    replace B13:=lH (B13.nx kk)
    clear kk B12
    have ⟨⟨s0,s1⟩,⟨f0,f1⟩,OW⟩:=near_setL OWN.out Y0.out PA.1 PA.2
    have KB:Exb g9 w7 ((w7.setCell ⟨g9,j*4,none⟩ (.int .i64 PA.1)).setCell ⟨g9,j*4+1,none⟩ (.int .i64 PA.2)):=((Exb.refl g9 w7).setB (p:=⟨g9,j*4,none⟩) _ rfl).setB (p:=⟨g9,j*4+1,none⟩) _ rfl
    have KS:Ex w2 ((w7.setCell ⟨g9,j*4,none⟩ (.int .i64 PA.1)).setCell ⟨g9,j*4+1,none⟩ (.int .i64 PA.2)):=(K.out.setNew (p:=⟨g9,j*4,none⟩) _ zg9).setNew (p:=⟨g9,j*4+1,none⟩) _ zg9
    replace OW:=lH OW
    replace KB:=lH KB
    replace KS:=lH KS
    go_upto_region 8 with fail
    obtain ⟨w8,hw8⟩:∃ w8,w8=(w7.setCell ⟨g9,j*4,none⟩ (.int .i64 PA.1)).setCell ⟨g9,j*4+1,none⟩ (.int .i64 PA.2):=⟨_,rfl⟩
    rw [← hw8] at OW KB KS ⊢
    clear hw8 s0 s1 f0 f1 OWN K
    have OWN:=OW
    have K:=KS
    replace B11:=B11.out.nxb ne911 KB.out
    replace B13:=B13.out.nxb n13 KB.out
    have q0:=(B6h.out.nx K.out).cell 0 _ rfl
    have u0:=B11.cell 1 _ rfl
    have v0:=B13.cell 2 _ rfl
    have v1:=B13.cell 3 _ rfl
    clear KB KS OW B11 B13
    have Y1:Hid (((rowB F h j).set j (PA.1,PA.2,0,0))[j]?=some (PA.1,PA.2,0,0)):=lH (List.getElem?_set_self (List.getElem?_eq_some_iff.1 Y0.out).1)
    go_wp2_with fail
    (with_reducible refine (pair_p _ _ _ N p.id lkr j xlkr.2.2.1 xlkr.2.2.2 _ (H1.out.nx K.out) hn HW.out hj16).mono ?_)
    rintro e w9 ⟨rfl,kk⟩
    rw [hPB]
    clear hPB q0 u0 v0 v1
    replace OWN:=lH (OWN.out.nx kk)
    replace K:=lH (K.out.nx kk)
    clear kk
    have ⟨⟨s0,s1⟩,⟨f0,f1⟩,OW⟩:=near_setR OWN.out Y1.out PB.1 PB.2
    have KB:Exb g9 w9 ((w9.setCell ⟨g9,j*4+2,none⟩ (.int .i64 PB.1)).setCell ⟨g9,j*4+3,none⟩ (.int .i64 PB.2)):=((Exb.refl g9 w9).setB (p:=⟨g9,j*4+2,none⟩) _ rfl).setB (p:=⟨g9,j*4+3,none⟩) _ rfl
    have KS:Ex w2 ((w9.setCell ⟨g9,j*4+2,none⟩ (.int .i64 PB.1)).setCell ⟨g9,j*4+3,none⟩ (.int .i64 PB.2)):=(K.out.setNew (p:=⟨g9,j*4+2,none⟩) _ zg9).setNew (p:=⟨g9,j*4+3,none⟩) _ zg9
    replace OW:=lH OW
    replace KB:=lH KB
    replace KS:=lH KS
    clear KB
    replace OW:Hid (OwnL 4 encNr 158 w2.heap.size ((w9.setCell ⟨g9,j*4+2,none⟩ (.int .i64 PB.1)).setCell ⟨g9,j*4+3,none⟩ (.int .i64 PB.2)) (.slice (some ⟨g9,0,none⟩) h h) (rowB F h (j+1))):=lH (by
     have:=OW.out
     rw [List.set_set] at this
     rw [← SE.out,ST.out]
     exact this)
    clear OWN K Y0 Y1 ST SE
    go_wp2_with fail
    exact ⟨⟨j+1,by omega,by go_num,OW.out,KS.out⟩,by simp [intOf];omega⟩
  ·obtain rfl:j=h:=by omega
   rw [show F=stepB N (peerN P) p from funext fun i=>(FF.out i).symm] at own
   have FO:=lH (own.base z2)
   have FE:=lH (EX.out.nx ki)
   clear own ki hj hjm
   go_wp2_with fail
   go_ret
   exact ⟨_,rfl,FO.out,FE.out⟩
end Go.Proofs.YthcholmhmcpooaaGreatDoor
