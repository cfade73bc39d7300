/- Texts for TopBalanceProof. -/
import Derived.Shelf.SlSortFuncK.ComposeK
import Derived.Test.YthcholmhmcpooaaGreatDoorTopBalanceProofL1
import Derived.Test.YthcholmhmcpooaaGreatDoorTopBalanceProofL2
set_option linter.unusedSimpArgs false
set_option linter.unusedVariables false

namespace Go.Proofs.YthcholmhmcpooaaGreatDoor
open Go.RowKit Go.Sort Go.Lib
abbrev dta (g:Nat) (lb:Array Value) (sf:Nat) (sb:Array Value):Value:=.agg #[.func (.func g) #[] lb,.func (.func sf) #[] sb]
abbrev dbx (g:Nat) (lb:Array Value) (sf:Nat) (sb:Array Value):Obj:=.cells #[.func (.func g) #[] lb,.func (.func sf) #[] sb] 230
section
variable {α:Type} [Inhabited α] {enc:α→List Value} {kk:Nat} {lt:α→α→Bool}
def SrtPost (enc:α→List Value) (kk:Nat) (w:World) (blk off:Nat) (P:Array α→Prop) (e:Ending) (w':World):Prop :=
 e=.returned (.tuple #[])∧∃ (m:Nat) (os:Array Obj) (d':Array α),P d'∧w'=sortWorldK enc kk w blk off m d' os
set_option maxHeartbeats 2000000 in
set_option maxRecDepth 100000 in
theorem swaprange_s (hk:∀ x,(enc x).length=kk) (g:Nat) (lb:Array Value) (sf:Nat) (sb:Array Value) (blk off a b n:Nat) (d:Array α) (w:World)
  (hswap:SwapSwapsK Tryz.prog sf sb enc kk blk off d.size) (hH:HoldsK enc kk w blk off d) (hblk:blk<w.heap.size) (hab:a+n≤b) (hb:b+n≤d.size) (hsz:d.size<4611686018427387904) :
  Calls Tryz.prog 234 #[dta g lb sf sb,.int .i64 a,.int .i64 b,.int .i64 n] w (SrtPost enc kk w blk off fun d'=>SwR d a b n d'∧PermIn a (b+n) d d'):=by
 have hH1:HoldsK enc kk (w.alloc (dbx g lb sf sb)) blk off d:=by rw [alloc_eq_grow];exact holdsK_grow enc kk w _ blk off d hblk hH
 go_enter Tryz.func234,Tryz.ntmps234
 go_wp2
 go_loopw [8] (fun vi wr=>∃ (i m:Nat) (dk:Array α),vi=.int .i64 i∧i≤n∧dk.size=d.size∧SwR d a b i dk∧PermIn a (b+n) d dk∧wr=putRowK enc kk (Sort.ahead (w.alloc (dbx g lb sf sb)) m) blk off dk) (fun vi _=>n-(intOf vi).toNat)
 case atStart=>exact ⟨0,0,d,rfl,by omega,rfl,swR_zero _ _ _,permIn_refl _ _ _,(putRowK_self _ _ _ _ _ _ hH1).symm⟩
 case round =>
  obtain ⟨i,m,dk,rfl,hin,hds,hsw,hpm,hwr⟩:=hrel
  have HSW:=lH hsw
  have HPM:=lH hpm
  by_cases hlt:i<n
  ·have hHk:HoldsK enc kk wr blk off dk:=by rw [hwr];exact holdsK_putRowK enc kk _ blk off d dk (holdsK_ahead enc kk _ m blk off d hH1) hds
   have c1:wr.cell? ⟨w.heap.size,1,none⟩=some (.func (.func sf) #[] sb):=by
    rw [hwr,cell?_putRowK_other enc kk _ blk off dk _ (by show w.heap.size≠blk;omega)];show (w.alloc (dbx g lb sf sb)).cell? _=_;simp
   have hs:=hswap wr dk hHk hds (a+i) (b+i) (by omega) (by omega)
   rw [show (((a+i:Nat):Int))=(a:Int)+i by omega,show (((b+i:Nat):Int))=(b:Int)+i by omega] at hs
   have A:=lH hwr
   clear hwr hHk hH hH1 hswap hsw hpm
   go_wp2
   go_roundw
   case rel =>
    refine ⟨i+1,m,swp dk (a+i) (b+i),by go_num,by omega,by rw [Sort.size_swp];exact hds,swR_step HSW.out (by omega) (by omega),permIn_trans _ _ _ _ _ HPM.out (swp_permIn _ _ _ _ _ (by omega) (by omega) (by omega) (by omega) (by omega)),?_⟩
    rw [A.out,← putRowK_swp enc kk hk _ blk off dk (a+i) (b+i) (by omega) (by omega)]
   case measure=>simp [intOf];omega
  ·obtain rfl:i=n:=by omega
   clear hsw hpm hswap
   go_wp2
   go_end0
   exact ⟨rfl,m,#[dbx g lb sf sb],dk,⟨HSW.out,HPM.out⟩,sortWorldK_of_alloc enc kk w _ blk off m dk hblk⟩
set_option maxHeartbeats 2000000 in
set_option maxRecDepth 100000 in
theorem rotate_s (hk:∀ x,(enc x).length=kk) (g:Nat) (lb:Array Value) (sf:Nat) (sb:Array Value) (blk off a m b:Nat) (d:Array α) (w:World)
  (hswap:SwapSwapsK Tryz.prog sf sb enc kk blk off d.size) (hH:HoldsK enc kk w blk off d) (hblk:blk<w.heap.size) (ham:a<m) (hmb:m<b) (hb:b≤d.size) (hsz:d.size<4611686018427387904) :
  Calls Tryz.prog 220 #[dta g lb sf sb,.int .i64 a,.int .i64 m,.int .i64 b] w (SrtPost enc kk w blk off fun d'=>Rot d a m b d'∧PermIn a b d d'):=by
 have hH1:HoldsK enc kk (w.alloc (dbx g lb sf sb)) blk off d:=by rw [alloc_eq_grow];exact holdsK_grow enc kk w _ blk off d hblk hH
 have hb1:blk<(w.alloc (dbx g lb sf sb)).heap.size:=by rw [alloc_eq_grow,size_grow];omega
 have hst:w.alloc (dbx g lb sf sb)=sortWorldK enc kk w blk off 0 d #[dbx g lb sf sb]:=by
  rw [← sortWorldK_of_alloc enc kk w _ blk off 0 d hblk];exact (putRowK_self enc kk _ blk off d hH1).symm
 have HST:=lH hst
 have HSWP:=lH hswap
 have HH:=lH hH
 clear hst hswap hH hH1
 go_enter Tryz.func220,Tryz.ntmps220
 go_wp2
 go_loopw [8,9] (fun vi vj wr=>∃ (i j n:Nat) (dk:Array α) (os:Array Obj),vi=.int .i64 i∧vj=.int .i64 j∧0<i∧0<j∧i≤m-a∧j≤b-m∧dk.size=d.size∧PermIn a b d dk∧(∀ r,Rot dk (m-i) m (m+j) r→Rot d a m b r) ∧
   wr=sortWorldK enc kk w blk off n dk os∧wr.cell? ⟨w.heap.size,0,none⟩=some (.func (.func g) #[] lb)∧wr.cell? ⟨w.heap.size,1,none⟩=some (.func (.func sf) #[] sb)) (fun vi vj _=>(intOf vi).toNat+(intOf vj).toNat)
 case atStart =>
  refine ⟨m-a,b-m,0,d,#[dbx g lb sf sb],by rw [Int.natCast_sub (by omega)],by rw [Int.natCast_sub (by omega)],by omega,by omega,by omega,by omega,rfl,permIn_refl _ _ _,?_,HST.out,by simp,by simp⟩
  intro r hr
  rwa [show m-(m-a)=a by omega,show m+(b-m)=b by omega] at hr
 case round =>
  obtain ⟨i,j,n,dk,os,rfl,rfl,hi0,hj0,him,hjb,hds,hpm,hrot,hwr,c0,c1⟩:=hrel
  have HROT:=lH hrot
  have HPM:=lH hpm
  have HWR:=lH hwr
  have hHk:HoldsK enc kk wr blk off dk:=by rw [hwr];exact holdsK_sortWorldK enc kk w blk off n d dk os hblk HH.out hds
  have hlt:blk<wr.heap.size:=by rw [hwr];exact lt_sortWorldK enc kk w blk off n dk os hblk
  have hg:w.heap.size≠blk:=by omega
  have hgw:w.heap.size<wr.heap.size:=World.block_lt_of_cell? wr _ c0
  -- a cell of the pair of functions behind a further piece of the sort
  have CC:Hid (∀ kx v,wr.cell? ⟨w.heap.size,kx,none⟩=some v→∀ n' (X:Array α) os',(sortWorldK enc kk wr blk off n' X os').cell? ⟨w.heap.size,kx,none⟩=some v):=lH (fun kx v hv n' X os'=>by
   unfold sortWorldK
   rw [cell?_grow _ _ _ (by rw [size_putRowK];exact hgw),cell?_putRowK_other enc kk _ blk off _ _ hg]
   exact hv)
  clear hrot hpm hwr hg hgw
  by_cases hij:i=j
  ·subst hij
   have hc:=swaprange_s hk g lb sf sb blk off (m-i) m i dk wr (by rw [hds];exact HSWP.out) hHk hlt (by omega) (by omega) (by omega)
   rw [show (((m-i:Nat):Int))=(m:Int)-i by omega] at hc
   have hb0:((i:Int) != (i:Int))=false:=by simp
   clear hHk
   go_wp2_with (refine hc.mono ?_;rintro e w1 ⟨rfl,n1,os1,d1,⟨s1,p1⟩,rfl⟩)
   go_end0
   refine ⟨rfl,n+n1,os++os1,d1,⟨HROT.out d1 (rot_eq (by omega) s1),permIn_trans _ _ _ _ _ HPM.out (permIn_mono _ _ _ _ _ _ (by omega) (by omega) (by omega) p1)⟩,?_⟩
   rw [HWR.out]
   exact sortWorldK_on enc kk w blk off n n1 dk d1 os os1 hblk p1.1
  ·have hb0:((i:Int) != (j:Int))=true:=by rw [bne_iff_ne];omega
   by_cases hgt:j<i
   ·have hc:=swaprange_s hk g lb sf sb blk off (m-i) m j dk wr (by rw [hds];exact HSWP.out) hHk hlt (by omega) (by omega) (by omega)
    rw [show (((m-i:Nat):Int))=(m:Int)-i by omega] at hc
    clear hHk
    go_wp2_with (refine hc.mono ?_;rintro e w1 ⟨rfl,n1,os1,d1,⟨s1,p1⟩,rfl⟩)
    go_roundw
    case rel =>
     refine ⟨i-j,j,n+n1,d1,os++os1,by rw [Int.natCast_sub (by omega)],rfl,by omega,by omega,by omega,by omega,by rw [p1.1];exact hds,permIn_trans _ _ _ _ _ HPM.out (permIn_mono _ _ _ _ _ _ (by omega) (by omega) (by omega) p1),fun r hr=>HROT.out r (rot_big hgt (by omega) s1 hr),?_,CC.out _ _ c0 _ _ _,CC.out _ _ c1 _ _ _⟩
     rw [HWR.out]
     exact sortWorldK_on enc kk w blk off n n1 dk d1 os os1 hblk p1.1
    case measure=>simp [intOf];omega
   ·have hlt2:¬ j<i:=hgt
    have hc:=swaprange_s hk g lb sf sb blk off (m-i) (m+j-i) i dk wr (by rw [hds];exact HSWP.out) hHk hlt (by omega) (by omega) (by omega)
    rw [show (((m-i:Nat):Int))=(m:Int)-i by omega,show (((m+j-i:Nat):Int))=(m:Int)+j-i by omega] at hc
    clear hHk
    go_wp2_with (refine hc.mono ?_;rintro e w1 ⟨rfl,n1,os1,d1,⟨s1,p1⟩,rfl⟩)
    go_roundw
    case rel =>
     refine ⟨i,j-i,n+n1,d1,os++os1,rfl,by rw [Int.natCast_sub (by omega)],by omega,by omega,by omega,by omega,by rw [p1.1];exact hds,permIn_trans _ _ _ _ _ HPM.out (permIn_mono _ _ _ _ _ _ (by omega) (by omega) (by omega) p1),fun r hr=>HROT.out r (rot_small (by omega) (by omega) s1 hr),?_,CC.out _ _ c0 _ _ _,CC.out _ _ c1 _ _ _⟩
     rw [HWR.out]
     exact sortWorldK_on enc kk w blk off n n1 dk d1 os os1 hblk p1.1
    case measure=>simp [intOf];omega
end
end Go.Proofs.YthcholmhmcpooaaGreatDoor
namespace Go.Proofs.YthcholmhmcpooaaGreatDoor
open Go.RowKit Go.Sort Go.Lib
section
variable {α:Type} [Inhabited α] {enc:α→List Value} {kk:Nat} {lt:α→α→Bool}
theorem drewN_grow (w:World) (os:Array Obj) (q:Nat):(Sort.grow w os).drewN q=Sort.grow (w.drewN q) os:=rfl
theorem sortWorldK_drewN (w:World) (blk off n q:Nat) (d:Array α) (os:Array Obj):(sortWorldK enc kk w blk off n d os).drewN q=sortWorldK enc kk w blk off (n+q) d os:=by
 unfold sortWorldK
 rw [drewN_grow,putRowK_drewN]
def LessG (P:Program) (g:Nat) (lb:Array Value) (enc:α→List Value) (k:Nat) (lt:α→α→Bool) (blk off size:Nat) (w:World):Prop :=
 ∀ (m:Nat) (os:Array Obj) (dk:Array α),dk.size=size→∀ i j:Nat,i<size→j<size →
  Calls P g (#[.int .i64 i,.int .i64 j]++lb) (sortWorldK enc k w blk off m dk os) fun e w'=>e=.returned (.bool (lt dk[i]! dk[j]!))∧∃ (q:Nat) (os':Array Obj),w'=sortWorldK enc k w blk off (m+q) dk (os++os')
theorem LessG.on {g:Nat} {lb:Array Value} {blk off size:Nat} {w:World} (h:LessG Tryz.prog g lb enc kk lt blk off size w) (hblk:blk<w.heap.size) (n:Nat) (dk:Array α) (os:Array Obj) (hs:dk.size=size) :
  LessG Tryz.prog g lb enc kk lt blk off size (sortWorldK enc kk w blk off n dk os):=fun m os' dk' hs' i j hi hj=>by
 rw [sortWorldK_on enc kk w blk off n m dk dk' os os' hblk (hs'.trans hs.symm)]
 refine (h _ _ dk' hs' i j hi hj).mono ?_
 rintro e w' ⟨rfl,q,os2,rfl⟩
 refine ⟨rfl,q,os2,?_⟩
 rw [sortWorldK_on enc kk w blk off n (m+q) dk dk' os (os'++os2) hblk (hs'.trans hs.symm),Array.append_assoc,Nat.add_assoc]
def InS (enc:α→List Value) (kk:Nat) (w:World) (blk off size B:Nat) (v0 v1:Value) (dk:Array α) (wr:World):Prop :=
 dk.size=size∧blk<w.heap.size∧B≠blk∧wr.cell? ⟨B,0,none⟩=some v0∧wr.cell? ⟨B,1,none⟩=some v1∧(∃ d0:Array α,HoldsK enc kk w blk off d0∧d0.size=size)∧∃ n os,wr=sortWorldK enc kk w blk off n dk os
variable {w wr w':World} {blk off size B:Nat} {v0 v1:Value} {dk d:Array α}
theorem InS.start {g:Nat} {lb:Array Value} {sf:Nat} {sb:Array Value} (hH:HoldsK enc kk w blk off d) (hblk:blk<w.heap.size):InS enc kk w blk off d.size w.heap.size (.func (.func g) #[] lb) (.func (.func sf) #[] sb) d (w.alloc (dbx g lb sf sb)):=by
 refine ⟨rfl,hblk,by omega,by simp,by simp,⟨d,hH,rfl⟩,0,#[dbx g lb sf sb],?_⟩
 have hH1:HoldsK enc kk (w.alloc (dbx g lb sf sb)) blk off d:=by rw [alloc_eq_grow];exact holdsK_grow enc kk w _ blk off d hblk hH
 rw [← sortWorldK_of_alloc enc kk w _ blk off 0 d hblk]
 exact (putRowK_self enc kk _ blk off d hH1).symm
theorem InS.sz (h:InS enc kk w blk off size B v0 v1 dk wr):dk.size=size:=h.1
theorem InS.c0 (h:InS enc kk w blk off size B v0 v1 dk wr):wr.cell? ⟨B,0,none⟩=some v0:=h.2.2.2.1
theorem InS.c1 (h:InS enc kk w blk off size B v0 v1 dk wr):wr.cell? ⟨B,1,none⟩=some v1:=h.2.2.2.2.1
theorem InS.holds (h:InS enc kk w blk off size B v0 v1 dk wr):HoldsK enc kk wr blk off dk:=by
 obtain ⟨h1,h2,h3,h4,h5,⟨d0,hd,hs⟩,n,os,rfl⟩:=h
 exact holdsK_sortWorldK enc kk w blk off n d0 dk os h2 hd (by omega)
theorem InS.hlt (h:InS enc kk w blk off size B v0 v1 dk wr):blk<wr.heap.size:=by
 obtain ⟨h1,h2,h3,h4,h5,⟨d0,hd,hs⟩,n,os,rfl⟩:=h
 exact lt_sortWorldK enc kk w blk off n dk os h2
theorem InS.drewN (h:InS enc kk w blk off size B v0 v1 dk wr) (q:Nat):InS enc kk w blk off size B v0 v1 dk (wr.drewN q):=by
 obtain ⟨h1,h2,h3,h4,h5,h6,n,os,rfl⟩:=h
 exact ⟨h1,h2,h3,h4,h5,h6,n+q,os,sortWorldK_drewN _ _ _ _ _ _ _⟩
theorem InS.on (h:InS enc kk w blk off size B v0 v1 dk wr) {n':Nat} {d':Array α} {os':Array Obj} (hs:d'.size=dk.size):InS enc kk w blk off size B v0 v1 d' (sortWorldK enc kk wr blk off n' d' os'):=by
 have hB:=World.block_lt_of_cell? wr _ h.c0
 have hB:B<wr.heap.size:=hB
 have hc:∀ kx v,wr.cell? ⟨B,kx,none⟩=some v→(sortWorldK enc kk wr blk off n' d' os').cell? ⟨B,kx,none⟩=some v:=fun kx v hv=>by
  unfold sortWorldK
  rw [cell?_grow _ _ _ (by rw [size_putRowK];exact hB),cell?_putRowK_other enc kk _ blk off _ _ h.2.2.1]
  exact hv
 refine ⟨hs.trans h.sz,h.2.1,h.2.2.1,hc _ _ h.c0,hc _ _ h.c1,h.2.2.2.2.2.1,?_⟩
 obtain ⟨h1,h2,h3,h4,h5,h6,n,os,rfl⟩:=h
 exact ⟨n+n',os++os',sortWorldK_on enc kk w blk off n n' dk d' os os' h2 hs⟩
theorem InS.post (h:InS enc kk w blk off size B v0 v1 dk wr) {P:Array α→Prop} (hp:P dk):SrtPost enc kk w blk off P (.returned (.tuple #[])) wr:=by
 obtain ⟨h1,h2,h3,h4,h5,h6,n,os,rfl⟩:=h
 exact ⟨rfl,n,os,dk,hp,rfl⟩
theorem InS.lessReads {g:Nat} {lb:Array Value} (h:InS enc kk w blk off size B v0 v1 dk wr) (hl:LessG Tryz.prog g lb enc kk lt blk off size w):LessG Tryz.prog g lb enc kk lt blk off dk.size wr:=by
 obtain ⟨h1,h2,h3,h4,h5,h6,n,os,rfl⟩:=h
 rw [h1]
 exact hl.on h2 n dk os h1
theorem InS.less {g:Nat} {lb:Array Value} (h:InS enc kk w blk off size B v0 v1 dk wr) (hl:LessG Tryz.prog g lb enc kk lt blk off size w) {i j:Nat} (hi:i<size) (hj:j<size) (b:Bool) (hb:lt dk[i]! dk[j]! = b) :
  Calls Tryz.prog g (#[.int .i64 i,.int .i64 j]++lb) wr fun e w'=>e=.returned (.bool b)∧InS enc kk w blk off size B v0 v1 dk w':=by
 have h0:=h
 obtain ⟨h1,h2,h3,h4,h5,h6,n,os,rfl⟩:=h
 refine (hl n os dk h1 i j hi hj).mono ?_
 rintro e w' ⟨rfl,q,os',rfl⟩
 have e1:sortWorldK enc kk w blk off (n+q) dk (os++os')=sortWorldK enc kk (sortWorldK enc kk w blk off n dk os) blk off q dk os':=(sortWorldK_on enc kk w blk off n q dk dk os os' h2 rfl).symm
 refine ⟨by rw [hb],?_⟩
 rw [e1]
 exact h0.on rfl
theorem InS.swap (hk:∀ x,(enc x).length=kk) {sf:Nat} {sb:Array Value} (h:InS enc kk w blk off size B v0 v1 dk wr) (hswap:SwapSwapsK Tryz.prog sf sb enc kk blk off size) {i j:Nat} (hi:i<size) (hj:j<size) :
  ∃ w',(callFunc sf (#[.int .i64 i,.int .i64 j]++sb)).run Tryz.prog wr=.ok (.value (.tuple #[])) w'∧InS enc kk w blk off size B v0 v1 (swp dk i j) w':=by
 refine ⟨_,hswap wr dk h.holds h.sz i j hi hj,?_⟩
 have hsz:=h.sz
 have e:((wr.setCells blk (off+i*kk) (enc dk[j]!)).setCells blk (off+j*kk) (enc dk[i]!))=sortWorldK enc kk wr blk off 0 (swp dk i j) #[]:=by
  unfold sortWorldK
  rw [grow_empty]
  have:=putRowK_swp enc kk hk wr blk off dk i j (by omega) (by omega)
  rw [putRowK_self enc kk wr blk off dk h.holds] at this
  exact this
 rw [e]
 exact h.on (Sort.size_swp _ _ _)
variable (hk:∀ x,(enc x).length=kk) (hS:SWO lt) (g:Nat) (lb:Array Value) (sf:Nat) (sb:Array Value)
set_option maxHeartbeats 2000000 in
set_option maxRecDepth 100000 in
include hk hS in
theorem insertion_s (eg:∀ args w,(callFunc g args).run Tryz.prog w=.ok (.enter g args) w) (blk off a b:Nat) (d:Array α) (w:World)
  (hless:LessG Tryz.prog g lb enc kk lt blk off d.size w) (hswap:SwapSwapsK Tryz.prog sf sb enc kk blk off d.size) (hH:HoldsK enc kk w blk off d) (hblk:blk<w.heap.size) (hab:a≤b) (hb:b≤d.size) (hsz:d.size<4611686018427387904) :
  Calls Tryz.prog 197 #[dta g lb sf sb,.int .i64 a,.int .i64 b] w (SrtPost enc kk w blk off fun d'=>PermIn a b d d'∧SortedIn lt a b d'):=by
 have H0:=lH (InS.start (g:=g) (lb:=lb) (sf:=sf) (sb:=sb) hH hblk)
 have HLESS:=lH hless
 have HSWP:=lH hswap
 have HEND:=lH (insertionSort_holds hS d a b hab hb)
 clear hless hswap hH
 go_enter Tryz.func197,Tryz.ntmps197
 go_wp2
 go_loopw [6] (fun vi wr=>∃ (i:Nat) (dk:Array α),vi=.int .i64 i∧a<i∧i≤b+1∧InS enc kk w blk off d.size w.heap.size (.func (.func g) #[] lb) (.func (.func sf) #[] sb) dk wr∧insOuter lt a b i dk=insOuter lt a b (a+1) d) (fun vi _=>b+1-(intOf vi).toNat)
 case atStart=>exact ⟨a+1,d,by go_num,by omega,by omega,H0.out,rfl⟩
 case round =>
  obtain ⟨i,dk,rfl,hai,hib,hI,hO⟩:=hrel
  have HO:=lH hO
  clear hO
  by_cases hlt:i<b
  ·have hlti:(i:Int)<(b:Int):=by omega
   go_wp2
   go_loopw [7] (fun vj wr2=>∃ (j:Nat) (dj:Array α),vj=.int .i64 j∧a≤j∧j≤i∧InS enc kk w blk off d.size w.heap.size (.func (.func g) #[] lb) (.func (.func sf) #[] sb) dj wr2∧insInner lt a j dj=insInner lt a i dk) (fun vj _=>(intOf vj).toNat)
   case atStart=>exact ⟨i,dk,rfl,by omega,Nat.le_refl _,hI,rfl⟩
   case round =>
    clear hI
    obtain ⟨j,dj,rfl,haj,hji,hI,hIn⟩:=hrel
    have HI:=lH hIn
    have HIS:=lH hI
    have c0:=hI.c0
    have hsj:=hI.sz
    clear hIn
    have OUT:Hid ((j≤a∨lt dj[j]! dj[j-1]! = false)→insOuter lt a b (i+1) dj=insOuter lt a b (a+1) d):=lH (fun hs=>by
     rw [← HO.out,insOuter_go _ _ _ _ _ hlt,← HI.out,insInner_stop _ _ _ _ hs])
    by_cases hja:a<j
    ·cases hlv:lt dj[j]! dj[j-1]! with
     | true =>
      have HLV:=lH hlv
      have hl:=hI.less HLESS.out (i:=j) (j:=j-1) (by omega) (by omega) true hlv
      rw [show (((j-1:Nat):Int))=(j:Int)-1 by omega] at hl
      clear hI hlv
      go_wp2_with fail
      refine hl.mono ?_
      rintro e w1 ⟨rfl,hI1⟩
      have c1:=hI1.c1
      obtain ⟨w2,hs,hI2⟩:=hI1.swap hk HSWP.out (i:=j) (j:=j-1) (by omega) (by omega)
      rw [show (((j-1:Nat):Int))=(j:Int)-1 by omega] at hs
      clear hl c0
      go_wp2
      go_roundw
      case rel =>
       refine ⟨j-1,swp dj j (j-1),by rw [show ((j-1:Nat):Int)=(j:Int)-1 by omega],by omega,by omega,hI2,?_⟩
       rw [← HI.out,insInner_go lt a j dj hja HLV.out]
      case measure=>simp [intOf];omega
     | false =>
      have HLV:=lH hlv
      have hl:=hI.less HLESS.out (i:=j) (j:=j-1) (by omega) (by omega) false hlv
      rw [show (((j-1:Nat):Int))=(j:Int)-1 by omega] at hl
      clear hI hlv
      go_wp2_with (go_at_fn g;refine hl.mono ?_;rintro e w1 ⟨rfl,hI1⟩)
      go_roundw
      case rel=>exact ⟨i+1,dj,by go_num,by omega,by omega,hI1,OUT.out (Or.inr HLV.out)⟩
      case measure=>simp [intOf];omega
    ·clear hI
     go_wp2
     go_roundw
     case rel=>exact ⟨i+1,dj,by go_num,by omega,by omega,HIS.out,OUT.out (Or.inl (by omega))⟩
     case measure=>simp [intOf];omega
  ·have hge:¬ (i:Int)<(b:Int):=by omega
   have HIS:=lH hI
   clear hI
   go_wp2
   go_end0
   refine HIS.out.post ?_
   have:=HEND.out
   unfold Sort.insertionSort at this
   rw [← HO.out,insOuter_stop _ _ _ _ _ hlt] at this
   exact this
end
end Go.Proofs.YthcholmhmcpooaaGreatDoor
namespace Go.Proofs.YthcholmhmcpooaaGreatDoor
open Go.RowKit Go.Sort Go.Lib
section
variable {α:Type} [Inhabited α] {enc:α→List Value} {kk:Nat} {lt:α→α→Bool}
variable (hk:∀ x,(enc x).length=kk) (hS:SWO lt) (g:Nat) (lb:Array Value) (sf:Nat) (sb:Array Value)
set_option maxHeartbeats 2000000 in
set_option maxRecDepth 100000 in
include hk hS in
theorem sym_left (eg:∀ args w,(callFunc g args).run Tryz.prog w=.ok (.enter g args) w) (blk off a m b:Nat) (d:Array α) (w:World)
  (hless:LessG Tryz.prog g lb enc kk lt blk off d.size w) (hswap:SwapSwapsK Tryz.prog sf sb enc kk blk off d.size) (hH:HoldsK enc kk w blk off d) (hblk:blk<w.heap.size) (ham:m=a+1) (hmb:m<b) (hb:b≤d.size) (hsz:d.size<4611686018427387904)
  (hr:SortedIn lt m b d) :
  Calls Tryz.prog 198 #[dta g lb sf sb,.int .i64 a,.int .i64 m,.int .i64 b] w (SrtPost enc kk w blk off fun d'=>PermIn a b d d'∧SortedIn lt a b d'):=by
 have H0:=lH (InS.start (g:=g) (lb:=lb) (sf:=sf) (sb:=sb) hH hblk)
 have HLESS:=lH hless
 have HSWP:=lH hswap
 have HR:=lH hr
 have HAM:=lH ham
 have t1:((m:Int)-(a:Int)==1)=true:=by rw [beq_iff_eq];omega
 have hma:a<m:=by omega
 have hma2:m≤a+1:=by omega
 clear hless hswap hH hr ham
 go_enter Tryz.func198,Tryz.ntmps198
 go_wp2
 go_loopw [8,9] (fun vi vj wr=>∃ (i j:Nat),vi=.int .i64 i∧vj=.int .i64 j∧m≤i∧i≤j∧j≤b∧(i=m∨lt d[i-1]! d[a]! = true)∧(j=b∨lt d[j]! d[a]! = false)∧InS enc kk w blk off d.size w.heap.size (.func (.func g) #[] lb) (.func (.func sf) #[] sb) d wr) (fun vi vj _=>(intOf vj).toNat-(intOf vi).toNat)
 case atStart=>exact ⟨m,b,rfl,rfl,Nat.le_refl _,by omega,Nat.le_refl _,.inl rfl,.inl rfl,H0.out⟩
 case round =>
  obtain ⟨i,j,rfl,rfl,hi,hij,hj,hI1,hJ1,hI⟩:=hrel
  have HI1:=lH hI1
  have HJ1:=lH hJ1
  have HIS:=lH hI
  have c0:=hI.c0
  clear hI1 hJ1
  by_cases hlt:i<j
  ·have hlti:(i:Int)<(j:Int):=by omega
   cases hlv:lt d[(i+j) / 2]! d[a]! with
   | true =>
    have HLV:=lH hlv
    have hl:=hI.less HLESS.out (i:=(i+j) / 2) (j:=a) (by omega) (by omega) true hlv
    rw [show ((((i+j) / 2:Nat):Int))=((i:Int)+(j:Int)) / 2 by omega] at hl
    clear hI hlv
    go_wp2_with (go_at_fn g;refine hl.mono ?_;rintro e w1 ⟨rfl,hI1⟩)
    go_roundw
    case rel=>exact ⟨(i+j) / 2+1,j,by rw [show ((i:Int)+(j:Int)) / 2+1=(((i+j) / 2+1:Nat):Int) by omega],rfl,by omega,by omega,hj,.inr (by rw [Nat.add_sub_cancel];exact HLV.out),HJ1.out,hI1⟩
    case measure=>simp [intOf];omega
   | false =>
    have HLV:=lH hlv
    have hl:=hI.less HLESS.out (i:=(i+j) / 2) (j:=a) (by omega) (by omega) false hlv
    rw [show ((((i+j) / 2:Nat):Int))=((i:Int)+(j:Int)) / 2 by omega] at hl
    clear hI hlv
    go_wp2_with (go_at_fn g;refine hl.mono ?_;rintro e w1 ⟨rfl,hI1⟩)
    go_roundw
    case rel=>exact ⟨i,(i+j) / 2,rfl,by rw [show ((i:Int)+(j:Int)) / 2=(((i+j) / 2:Nat):Int) by omega],hi,by omega,by omega,HI1.out,.inr HLV.out,hI1⟩
    case measure=>simp [intOf];omega
  ·have hge:¬ (i:Int)<(j:Int):=by omega
   have hij2:j≤i:=by omega
   clear hI c0 hlt
   go_wp2
   go_loopw [11] (fun vk wr2=>∃ (k:Nat) (dk:Array α),vk=.int .i64 k∧a≤k∧k+1≤i∧Rot d a (a+1) (k+1) dk∧PermIn a b d dk∧InS enc kk w blk off d.size w.heap.size (.func (.func g) #[] lb) (.func (.func sf) #[] sb) dk wr2) (fun vk _=>i-(intOf vk).toNat)
   case atStart=>exact ⟨a,d,rfl,Nat.le_refl _,by omega,rot_refl_r d a (a+1) (by omega),permIn_refl _ _ _,HIS.out⟩
   case round =>
    obtain ⟨k,dk,rfl,hak,hki,hrot,hpm,hI⟩:=hrel
    have HROT:=lH hrot
    have HPM:=lH hpm
    have c1:=hI.c1
    have hsk:=hI.sz
    clear hrot hpm
    by_cases hlt:k+1<i
    ·have hlti:(k:Int)<(i:Int)-1:=by omega
     obtain ⟨w2,hs,hI2⟩:=hI.swap hk HSWP.out (i:=k) (j:=k+1) (by omega) (by omega)
     rw [show (((k+1:Nat):Int))=(k:Int)+1 by omega] at hs
     clear hI
     go_wp2
     go_roundw
     case rel=>exact ⟨k+1,swp dk k (k+1),by go_num,by omega,by omega,rot_up HROT.out hak (by omega),permIn_trans _ _ _ _ _ HPM.out (swp_permIn _ _ _ _ _ (by omega) (by omega) (by omega) (by omega) (by omega)),hI2⟩
     case measure=>simp [intOf];omega
    ·have hge2:¬ (k:Int)<(i:Int)-1:=by omega
     have HI:=lH hI
     clear hI c1
     go_wp2
     go_end0
     refine HI.out.post ⟨HPM.out,?_⟩
     have hm:=HAM.out
     subst hm
     have e1:k+1=i:=by omega
     have e2:j=i:=by omega
     have h3:=HROT.out
     rw [e1] at h3
     have h4:=HJ1.out
     rw [e2] at h4
     exact one_left hS (by omega) (by omega) HR.out HI1.out h4 h3
set_option maxHeartbeats 2000000 in
set_option maxRecDepth 100000 in
include hk hS in
theorem sym_right (eg:∀ args w,(callFunc g args).run Tryz.prog w=.ok (.enter g args) w) (blk off a m b:Nat) (d:Array α) (w:World)
  (hless:LessG Tryz.prog g lb enc kk lt blk off d.size w) (hswap:SwapSwapsK Tryz.prog sf sb enc kk blk off d.size) (hH:HoldsK enc kk w blk off d) (hblk:blk<w.heap.size) (ham:a+1<m) (hmb:b=m+1) (hb:b≤d.size) (hsz:d.size<4611686018427387904)
  (hl:SortedIn lt a m d) :
  Calls Tryz.prog 198 #[dta g lb sf sb,.int .i64 a,.int .i64 m,.int .i64 b] w (SrtPost enc kk w blk off fun d'=>PermIn a b d d'∧SortedIn lt a b d'):=by
 have H0:=lH (InS.start (g:=g) (lb:=lb) (sf:=sf) (sb:=sb) hH hblk)
 have HLESS:=lH hless
 have HSWP:=lH hswap
 have HL:=lH hl
 have HMB:=lH hmb
 have t1:((m:Int)-(a:Int)==1)=false:=by rw [beq_eq_false_iff_ne];omega
 have t2:((b:Int)-(m:Int)==1)=true:=by rw [beq_iff_eq];omega
 have hmb2:m<b:=by omega
 have hmb3:b≤m+1:=by omega
 clear hless hswap hH hl hmb
 go_enter Tryz.func198,Tryz.ntmps198
 go_wp2
 go_loopw [12,13] (fun vi vj wr=>∃ (i j:Nat),vi=.int .i64 i∧vj=.int .i64 j∧a≤i∧i≤j∧j≤m∧(i=a∨lt d[m]! d[i-1]! = false)∧(j=m∨lt d[m]! d[j]! = true)∧InS enc kk w blk off d.size w.heap.size (.func (.func g) #[] lb) (.func (.func sf) #[] sb) d wr) (fun vi vj _=>(intOf vj).toNat-(intOf vi).toNat)
 case atStart=>exact ⟨a,m,rfl,rfl,Nat.le_refl _,by omega,Nat.le_refl _,.inl rfl,.inl rfl,H0.out⟩
 case round =>
  obtain ⟨i,j,rfl,rfl,hi,hij,hj,hI1,hJ1,hI⟩:=hrel
  have HI1:=lH hI1
  have HJ1:=lH hJ1
  have HIS:=lH hI
  have c0:=hI.c0
  clear hI1 hJ1
  by_cases hlt:i<j
  ·have hlti:(i:Int)<(j:Int):=by omega
   cases hlv:lt d[m]! d[(i+j) / 2]! with
   | false =>
    have HLV:=lH hlv
    have hl:=hI.less HLESS.out (i:=m) (j:=(i+j) / 2) (by omega) (by omega) false hlv
    rw [show ((((i+j) / 2:Nat):Int))=((i:Int)+(j:Int)) / 2 by omega] at hl
    clear hI hlv
    go_wp2_with (go_at_fn g;refine hl.mono ?_;rintro e w1 ⟨rfl,hI1⟩)
    go_roundw
    case rel=>exact ⟨(i+j) / 2+1,j,by rw [show ((i:Int)+(j:Int)) / 2+1=(((i+j) / 2+1:Nat):Int) by omega],rfl,by omega,by omega,hj,.inr (by rw [Nat.add_sub_cancel];exact HLV.out),HJ1.out,hI1⟩
    case measure=>simp [intOf];omega
   | true =>
    have HLV:=lH hlv
    have hl:=hI.less HLESS.out (i:=m) (j:=(i+j) / 2) (by omega) (by omega) true hlv
    rw [show ((((i+j) / 2:Nat):Int))=((i:Int)+(j:Int)) / 2 by omega] at hl
    clear hI hlv
    go_wp2_with (go_at_fn g;refine hl.mono ?_;rintro e w1 ⟨rfl,hI1⟩)
    go_roundw
    case rel=>exact ⟨i,(i+j) / 2,rfl,by rw [show ((i:Int)+(j:Int)) / 2=(((i+j) / 2:Nat):Int) by omega],hi,by omega,by omega,HI1.out,.inr HLV.out,hI1⟩
    case measure=>simp [intOf];omega
  ·have hge:¬ (i:Int)<(j:Int):=by omega
   have hij2:j≤i:=by omega
   clear hI c0 hlt
   go_wp2
   go_loopw [15] (fun vk wr2=>∃ (k:Nat) (dk:Array α),vk=.int .i64 k∧i≤k∧k≤m∧Rot d k m (m+1) dk∧PermIn a b d dk∧InS enc kk w blk off d.size w.heap.size (.func (.func g) #[] lb) (.func (.func sf) #[] sb) dk wr2) (fun vk _=>(intOf vk).toNat)
   case atStart=>exact ⟨m,d,rfl,by omega,Nat.le_refl _,rot_refl_l d m (m+1) (by omega),permIn_refl _ _ _,HIS.out⟩
   case round =>
    obtain ⟨k,dk,rfl,hik,hkm,hrot,hpm,hI⟩:=hrel
    have HROT:=lH hrot
    have HPM:=lH hpm
    have c1:=hI.c1
    have hsk:=hI.sz
    clear hrot hpm
    by_cases hlt:i<k
    ·have hlti:(i:Int)<(k:Int):=by omega
     obtain ⟨w2,hs,hI2⟩:=hI.swap hk HSWP.out (i:=k) (j:=k-1) (by omega) (by omega)
     rw [show (((k-1:Nat):Int))=(k:Int)-1 by omega] at hs
     clear hI
     go_wp2
     go_roundw
     case rel =>
      have hr:=HROT.out
      rw [show k=k-1+1 by omega] at hr
      have h5:=rot_down hr (by omega) (by omega)
      rw [show k-1+1=k by omega] at h5
      exact ⟨k-1,swp dk k (k-1),by rw [show ((k-1:Nat):Int)=(k:Int)-1 by omega],by omega,by omega,h5,permIn_trans _ _ _ _ _ HPM.out (swp_permIn _ _ _ _ _ (by omega) (by omega) (by omega) (by omega) (by omega)),hI2⟩
     case measure=>simp [intOf];omega
    ·have hge2:¬ (i:Int)<(k:Int):=by omega
     have HI:=lH hI
     clear hI c1
     go_wp2
     go_end0
     refine HI.out.post ⟨HPM.out,?_⟩
     have hm:=HMB.out
     subst hm
     have e1:k=i:=by omega
     have e2:j=i:=by omega
     have h3:=HROT.out
     rw [e1] at h3
     have h4:=HJ1.out
     rw [e2] at h4
     exact one_right hS (by omega) (by omega) HL.out HI1.out h4 h3
end
end Go.Proofs.YthcholmhmcpooaaGreatDoor
namespace Go.Proofs.YthcholmhmcpooaaGreatDoor
open Go.RowKit Go.Sort Go.Lib
section
variable {α:Type} [Inhabited α] {enc:α→List Value} {kk:Nat} {lt:α→α→Bool}
variable (hk:∀ x,(enc x).length=kk) (hS:SWO lt) (g:Nat) (lb:Array Value) (sf:Nat) (sb:Array Value)
set_option maxHeartbeats 8000000 in
set_option maxRecDepth 100000 in
include hk hS in
theorem sym_gt (eg:∀ args w,(callFunc g args).run Tryz.prog w=.ok (.enter g args) w) (blk off N a m b:Nat) (d:Array α) (w:World) (hN:b-a≤N+1) (hih:∀ (a m b:Nat) (d:Array α) (w:World),b-a≤N →
  LessG Tryz.prog g lb enc kk lt blk off d.size w→SwapSwapsK Tryz.prog sf sb enc kk blk off d.size→HoldsK enc kk w blk off d→blk<w.heap.size→a<m→m<b→b≤d.size→d.size<4611686018427387904 →
  SortedIn lt a m d→SortedIn lt m b d →
  Calls Tryz.prog 198 #[dta g lb sf sb,.int .i64 a,.int .i64 m,.int .i64 b] w (SrtPost enc kk w blk off fun d'=>PermIn a b d d'∧SortedIn lt a b d'))
  (hless:LessG Tryz.prog g lb enc kk lt blk off d.size w) (hswap:SwapSwapsK Tryz.prog sf sb enc kk blk off d.size) (hH:HoldsK enc kk w blk off d) (hblk:blk<w.heap.size) (ham:a+1<m) (hmb:m+1<b) (hb:b≤d.size) (hsz:d.size<4611686018427387904)
  (hl:SortedIn lt a m d) (hr:SortedIn lt m b d) (hgt:m>(a+b) / 2) :
  Calls Tryz.prog 198 #[dta g lb sf sb,.int .i64 a,.int .i64 m,.int .i64 b] w (SrtPost enc kk w blk off fun d'=>PermIn a b d d'∧SortedIn lt a b d'):=by
 have IH:=lH hih
 have H0:=lH (InS.start (g:=g) (lb:=lb) (sf:=sf) (sb:=sb) hH hblk)
 have HLESS:=lH hless
 have HSWP:=lH hswap
 have HL:=lH hl
 have HR:=lH hr
 have t1:((m:Int)-(a:Int)==1)=false:=by rw [beq_eq_false_iff_ne];omega
 have t2:((b:Int)-(m:Int)==1)=false:=by rw [beq_eq_false_iff_ne];omega
 obtain ⟨M,hM⟩:∃ M:Nat,M=(a+b) / 2:=⟨_,rfl⟩
 have HM:=lH hM
 have hME:((a:Int)+(b:Int)) / 2=(M:Int):=by omega
 have hM1:2*M≤a+b:=by omega
 have hM2:a+b≤2*M+1:=by omega
 have hbs:b<4611686018427387904:=by omega
 have hgt2:M<m:=by omega
 have hgtI:(M:Int)<(m:Int):=by omega
 clear hless hswap hH hl hr hM hih hgt
 have FIN:Hid (∀ s s0 r0,((m>M∧s0=M+m-b∧r0=M)∨(m≤M∧s0=a∧r0=m))→s0≤s→s≤r0→(s=s0∨lt d[M+m-1-(s-1)]! d[s-1]! = false)→(s=r0∨lt d[M+m-1-s]! d[s]! = true)→∀ r,Rot d s m (M+m-s) r →
  Cross lt a M b r∧SortedIn lt a s r∧SortedIn lt s M r∧SortedIn lt M (M+m-s) r∧SortedIn lt (M+m-s) b r):=lH (fun s s0 r0 h0 h1 h2 h3 h4 r h=>by
  have hM:=HM.out
  subst hM
  exact sym_cross hS (by omega) (by omega) HL.out HR.out h0 h1 h2 h3 h4 h)
 obtain ⟨s0,hs0⟩:∃ s0:Nat,s0=M+m-b:=⟨_,rfl⟩
 obtain ⟨r0,hr0⟩:∃ r0:Nat,r0=M:=⟨_,rfl⟩
 have h00:(m>M∧s0=M+m-b∧r0=M)∨(m≤M∧s0=a∧r0=m):=by omega
 have hsr:s0≤r0∧r0≤M∧r0≤m∧a≤s0∧M+m≤s0+b∧a<s0+1:=by omega
 obtain ⟨q1,q2,q3,q4,q5,_⟩:=hsr
 have HFIN:=lH (fun s=>FIN.out s s0 r0 h00)
 have E1:Hid (Value.int .i64 ((M:Int)+(m:Int)-(b:Int))=.int .i64 (s0:Int)):=lH (by rw [hs0,Int.natCast_sub (by omega),Int.natCast_add])
 have E2:Hid (Value.int .i64 (M:Int)=.int .i64 (r0:Int)):=lH (by rw [hr0])
 clear FIN h00 hs0 hr0
 go_enter Tryz.func198,Tryz.ntmps198
 go_wp2
 go_loopw [18,19] (fun vs vr wr=>∃ (s r:Nat),vs=.int .i64 s∧vr=.int .i64 r∧s0≤s∧s≤r∧r≤r0∧(s=s0∨lt d[M+m-1-(s-1)]! d[s-1]! = false)∧(r=r0∨lt d[M+m-1-r]! d[r]! = true)∧InS enc kk w blk off d.size w.heap.size (.func (.func g) #[] lb) (.func (.func sf) #[] sb) d wr) (fun vs vr _=>(intOf vr).toNat-(intOf vs).toNat)
 case atStart=>exact ⟨s0,r0,E1.out,E2.out,Nat.le_refl _,q1,Nat.le_refl _,.inl rfl,.inl rfl,H0.out⟩
 case round =>
  clear E1 E2
  obtain ⟨s,r,rfl,rfl,hs,hsr,hr,hP,hQ,hI⟩:=hrel
  have HP:=lH hP
  have HQ:=lH hQ
  have HIS:=lH hI
  have c0:=hI.c0
  have c1:=hI.c1
  clear hP hQ
  by_cases hlt:s<r
  ·have hlti:(s:Int)<(r:Int):=by omega
   cases hlv:lt d[M+m-1-(s+r) / 2]! d[(s+r) / 2]! with
   | false =>
    have HLV:=lH hlv
    have hl:=hI.less HLESS.out (i:=M+m-1-(s+r) / 2) (j:=(s+r) / 2) (by omega) (by omega) false hlv
    rw [show (((M+m-1-(s+r) / 2:Nat):Int))=(M:Int)+(m:Int)-1-((s:Int)+(r:Int)) / 2 by omega,show ((((s+r) / 2:Nat):Int))=((s:Int)+(r:Int)) / 2 by omega] at hl
    clear hI hlv
    go_wp2_with (go_at_fn g;refine hl.mono ?_;rintro e w1 ⟨rfl,hI1⟩)
    go_roundw
    case rel=>exact ⟨(s+r) / 2+1,r,by rw [show ((s:Int)+(r:Int)) / 2+1=(((s+r) / 2+1:Nat):Int) by omega],rfl,by omega,by omega,hr,.inr (by rw [Nat.add_sub_cancel];exact HLV.out),HQ.out,hI1⟩
    case measure=>simp [intOf];omega
   | true =>
    have HLV:=lH hlv
    have hl:=hI.less HLESS.out (i:=M+m-1-(s+r) / 2) (j:=(s+r) / 2) (by omega) (by omega) true hlv
    rw [show (((M+m-1-(s+r) / 2:Nat):Int))=(M:Int)+(m:Int)-1-((s:Int)+(r:Int)) / 2 by omega,show ((((s+r) / 2:Nat):Int))=((s:Int)+(r:Int)) / 2 by omega] at hl
    clear hI hlv
    go_wp2_with (go_at_fn g;refine hl.mono ?_;rintro e w1 ⟨rfl,hI1⟩)
    go_roundw
    case rel=>exact ⟨s,(s+r) / 2,rfl,by rw [show ((s:Int)+(r:Int)) / 2=(((s+r) / 2:Nat):Int) by omega],hs,by omega,by omega,HP.out,.inr HLV.out,hI1⟩
    case measure=>simp [intOf];omega
  ·have hge:¬ (s:Int)<(r:Int):=by omega
   obtain ⟨en,hen⟩:∃ en:Nat,en=M+m-s:=⟨_,rfl⟩
   have hEE:(M:Int)+(m:Int)-(s:Int)=(en:Int):=by omega
   have hES:s+en=M+m:=by omega
   have z1:s≤M:=by omega
   have z2:s≤m:=by omega
   have z3:m≤en:=by omega
   have z4:en≤b:=by omega
   have z5:a≤s:=by omega
   have z6:M≤en:=by omega
   have FIN:Hid (∀ x,Rot d s m en x→Cross lt a M b x∧SortedIn lt a s x∧SortedIn lt s M x∧SortedIn lt M en x∧SortedIn lt en b x):=lH (by
    rw [hen]
    exact HFIN.out s hs (by omega) HP.out (by have:=HQ.out;rwa [show r=s by omega] at this))
   have hM3:a<M:=by omega
   have hM4:M<b:=by omega
   clear hI hen HP HQ hr hsr
   have hc:(s<m∧m<en∧a<s∧en<b)∨(s<m∧m<en∧a<s∧¬ en<b)∨(s<m∧m<en∧¬ a<s∧en<b)∨(s<m∧m<en∧¬ a<s∧¬ en<b)∨(¬ s<m∧s<M)∨(¬ s<m∧¬ s<M)∨(s<m∧¬ m<en):=by omega
   rcases hc with ⟨v1,v2,v3,v4⟩ | ⟨v1,v2,v3,v4⟩ | ⟨v1,v2,v3,v4⟩ | ⟨v1,v2,v3,v4⟩ | ⟨v1,v2⟩ | ⟨v1,v2⟩ | ⟨v1,v2⟩
   ·have i1:(s:Int)<(m:Int):=by omega
    have i2:(m:Int)<(en:Int):=by omega
    have i3:(a:Int)<(s:Int):=by omega
    have i4:(s:Int)<(M:Int):=by omega
    have i5:(M:Int)<(en:Int):=by omega
    have i6:(en:Int)<(b:Int):=by omega
    have rc:=rotate_s hk g lb sf sb blk off s m en d wr HSWP.out HIS.out.holds HIS.out.hlt (by omega) (by omega) (by omega) hsz
    go_wp2_with fail
    refine rc.mono ?_
    rintro e w1 ⟨rfl,n1,os1,d1,⟨rot1,p1⟩,hw1⟩
    have hI1:InS enc kk w blk off d.size w.heap.size (.func (.func g) #[] lb) (.func (.func sf) #[] sb) d1 w1:=by rw [hw1];exact HIS.out.on p1.1
    have P1:Hid (PermIn a b d d1):=lH (permIn_mono _ _ _ _ _ _ (by omega) (by omega) hb p1)
    clear hw1 rc c0 c1 p1
    obtain ⟨X1,X2,X3,X4,X5⟩:=FIN.out d1 rot1
    have hz1:d1.size=d.size:=hI1.sz
    have c0:=hI1.c0
    have c1:=hI1.c1
    have H1:=lH hI1
    have X1:=lH X1
    have X2:=lH X2
    have X3:=lH X3
    have X4:=lH X4
    have X5:=lH X5
    have hb1:b≤d1.size:=by omega
    clear rot1 hI1 FIN
    have rc:=IH.out a s M d1 w1 (by omega) (H1.out.lessReads HLESS.out) (by rw [hz1];exact HSWP.out) H1.out.holds H1.out.hlt (by omega) (by omega) (by omega) (by omega) X2.out X3.out
    go_wp2_with fail
    refine rc.mono ?_
    rintro e w2 ⟨rfl,n2,os2,d2,⟨p2,s2⟩,hw2⟩
    have hI2:InS enc kk w blk off d.size w.heap.size (.func (.func g) #[] lb) (.func (.func sf) #[] sb) d2 w2:=by rw [hw2];exact H1.out.on p2.1
    clear hw2 rc c0 c1
    have hz2:d2.size=d.size:=hI2.sz
    have c0:=hI2.c0
    have c1:=hI2.c1
    have Y4:=lH (sorted_other X4.out p2 (Or.inr (Nat.le_refl _)))
    have Y5:=lH (sorted_other X5.out p2 (Or.inr z6))
    have H2:=lH hI2
    have S2:=lH s2
    have P2:=lH p2
    clear hI2 s2 p2 X2 X3 X4 X5
    have rc:=IH.out M en b d2 w2 (by omega) (H2.out.lessReads HLESS.out) (by rw [hz2];exact HSWP.out) H2.out.holds H2.out.hlt (by omega) (by omega) (by omega) (by omega) Y4.out Y5.out
    go_wp2_with fail
    refine rc.mono ?_
    rintro e w3 ⟨rfl,n3,os3,d3,⟨p3,s3⟩,hw3⟩
    have hI3:InS enc kk w blk off d.size w.heap.size (.func (.func g) #[] lb) (.func (.func sf) #[] sb) d3 w3:=by rw [hw3];exact H2.out.on p3.1
    have R:=lH (halves_done (by omega) (by omega) hb1 X1.out P2.out S2.out p3 s3)
    have H3:=lH hI3
    clear hw3 rc c0 c1 H2 hI3 p3 s3
    go_wp2
    go_end0
    exact H3.out.post ⟨permIn_trans _ _ _ _ _ P1.out R.out.2,R.out.1⟩
   ·have i1:(s:Int)<(m:Int):=by omega
    have i2:(m:Int)<(en:Int):=by omega
    have i3:(a:Int)<(s:Int):=by omega
    have i4:(s:Int)<(M:Int):=by omega
    have i5:(M:Int)<(en:Int):=by omega
    have i6:¬ (en:Int)<(b:Int):=by omega
    have rc:=rotate_s hk g lb sf sb blk off s m en d wr HSWP.out HIS.out.holds HIS.out.hlt (by omega) (by omega) (by omega) hsz
    go_wp2_with fail
    refine rc.mono ?_
    rintro e w1 ⟨rfl,n1,os1,d1,⟨rot1,p1⟩,hw1⟩
    have hI1:InS enc kk w blk off d.size w.heap.size (.func (.func g) #[] lb) (.func (.func sf) #[] sb) d1 w1:=by rw [hw1];exact HIS.out.on p1.1
    have P1:Hid (PermIn a b d d1):=lH (permIn_mono _ _ _ _ _ _ (by omega) (by omega) hb p1)
    clear hw1 rc c0 c1 p1
    obtain ⟨X1,X2,X3,X4,X5⟩:=FIN.out d1 rot1
    have hz1:d1.size=d.size:=hI1.sz
    have c0:=hI1.c0
    have c1:=hI1.c1
    have H1:=lH hI1
    have X1:=lH X1
    have X2:=lH X2
    have X3:=lH X3
    have X4:=lH X4
    have X5:=lH X5
    have hb1:b≤d1.size:=by omega
    clear rot1 hI1 FIN
    have rc:=IH.out a s M d1 w1 (by omega) (H1.out.lessReads HLESS.out) (by rw [hz1];exact HSWP.out) H1.out.holds H1.out.hlt (by omega) (by omega) (by omega) (by omega) X2.out X3.out
    go_wp2_with fail
    refine rc.mono ?_
    rintro e w2 ⟨rfl,n2,os2,d2,⟨p2,s2⟩,hw2⟩
    have hI2:InS enc kk w blk off d.size w.heap.size (.func (.func g) #[] lb) (.func (.func sf) #[] sb) d2 w2:=by rw [hw2];exact H1.out.on p2.1
    clear hw2 rc c0 c1
    have hz2:d2.size=d.size:=hI2.sz
    have c0:=hI2.c0
    have c1:=hI2.c1
    have Y4:=lH (sorted_other X4.out p2 (Or.inr (Nat.le_refl _)))
    have Y5:=lH (sorted_other X5.out p2 (Or.inr z6))
    have H2:=lH hI2
    have S2:=lH s2
    have P2:=lH p2
    clear hI2 s2 p2 X2 X3 X4 X5
    have s3:SortedIn lt M b d2:=by have:=Y4.out;rwa [show en=b by omega] at this
    have R:=lH (halves_done (by omega) (by omega) hb1 X1.out P2.out S2.out (permIn_refl d2 M b) s3)
    clear c0 c1 s3
    go_wp2
    go_end0
    exact H2.out.post ⟨permIn_trans _ _ _ _ _ P1.out R.out.2,R.out.1⟩
   ·have i1:(s:Int)<(m:Int):=by omega
    have i2:(m:Int)<(en:Int):=by omega
    have i3:¬ (a:Int)<(s:Int):=by omega
    have i5:(M:Int)<(en:Int):=by omega
    have i6:(en:Int)<(b:Int):=by omega
    have rc:=rotate_s hk g lb sf sb blk off s m en d wr HSWP.out HIS.out.holds HIS.out.hlt (by omega) (by omega) (by omega) hsz
    go_wp2_with fail
    refine rc.mono ?_
    rintro e w1 ⟨rfl,n1,os1,d1,⟨rot1,p1⟩,hw1⟩
    have hI1:InS enc kk w blk off d.size w.heap.size (.func (.func g) #[] lb) (.func (.func sf) #[] sb) d1 w1:=by rw [hw1];exact HIS.out.on p1.1
    have P1:Hid (PermIn a b d d1):=lH (permIn_mono _ _ _ _ _ _ (by omega) (by omega) hb p1)
    clear hw1 rc c0 c1 p1
    obtain ⟨X1,X2,X3,X4,X5⟩:=FIN.out d1 rot1
    have hz1:d1.size=d.size:=hI1.sz
    have c0:=hI1.c0
    have c1:=hI1.c1
    have H1:=lH hI1
    have X1:=lH X1
    have X2:=lH X2
    have X3:=lH X3
    have X4:=lH X4
    have X5:=lH X5
    have hb1:b≤d1.size:=by omega
    clear rot1 hI1 FIN
    obtain ⟨w2,rfl⟩:∃ w2,w2=w1:=⟨_,rfl⟩
    obtain ⟨d2,hd2⟩:∃ d2,d2=d1:=⟨_,rfl⟩
    have s2:SortedIn lt a M d2:=by rw [hd2];have:=X3.out;rwa [show s=a by omega] at this
    have p2:PermIn a M d1 d2:=by rw [hd2];exact permIn_refl _ _ _
    have hI2:InS enc kk w blk off d.size w.heap.size (.func (.func g) #[] lb) (.func (.func sf) #[] sb) d2 w2:=by rw [hd2];exact H1.out
    clear hd2 c0 c1
    have hz2:d2.size=d.size:=hI2.sz
    have c0:=hI2.c0
    have c1:=hI2.c1
    have Y4:=lH (sorted_other X4.out p2 (Or.inr (Nat.le_refl _)))
    have Y5:=lH (sorted_other X5.out p2 (Or.inr z6))
    have H2:=lH hI2
    have S2:=lH s2
    have P2:=lH p2
    clear hI2 s2 p2 X2 X3 X4 X5
    have rc:=IH.out M en b d2 w2 (by omega) (H2.out.lessReads HLESS.out) (by rw [hz2];exact HSWP.out) H2.out.holds H2.out.hlt (by omega) (by omega) (by omega) (by omega) Y4.out Y5.out
    go_wp2_with fail
    refine rc.mono ?_
    rintro e w3 ⟨rfl,n3,os3,d3,⟨p3,s3⟩,hw3⟩
    have hI3:InS enc kk w blk off d.size w.heap.size (.func (.func g) #[] lb) (.func (.func sf) #[] sb) d3 w3:=by rw [hw3];exact H2.out.on p3.1
    have R:=lH (halves_done (by omega) (by omega) hb1 X1.out P2.out S2.out p3 s3)
    have H3:=lH hI3
    clear hw3 rc c0 c1 H2 hI3 p3 s3
    go_wp2
    go_end0
    exact H3.out.post ⟨permIn_trans _ _ _ _ _ P1.out R.out.2,R.out.1⟩
   ·have i1:(s:Int)<(m:Int):=by omega
    have i2:(m:Int)<(en:Int):=by omega
    have i3:¬ (a:Int)<(s:Int):=by omega
    have i5:(M:Int)<(en:Int):=by omega
    have i6:¬ (en:Int)<(b:Int):=by omega
    have rc:=rotate_s hk g lb sf sb blk off s m en d wr HSWP.out HIS.out.holds HIS.out.hlt (by omega) (by omega) (by omega) hsz
    go_wp2_with fail
    refine rc.mono ?_
    rintro e w1 ⟨rfl,n1,os1,d1,⟨rot1,p1⟩,hw1⟩
    have hI1:InS enc kk w blk off d.size w.heap.size (.func (.func g) #[] lb) (.func (.func sf) #[] sb) d1 w1:=by rw [hw1];exact HIS.out.on p1.1
    have P1:Hid (PermIn a b d d1):=lH (permIn_mono _ _ _ _ _ _ (by omega) (by omega) hb p1)
    clear hw1 rc c0 c1 p1
    obtain ⟨X1,X2,X3,X4,X5⟩:=FIN.out d1 rot1
    have hz1:d1.size=d.size:=hI1.sz
    have c0:=hI1.c0
    have c1:=hI1.c1
    have H1:=lH hI1
    have X1:=lH X1
    have X2:=lH X2
    have X3:=lH X3
    have X4:=lH X4
    have X5:=lH X5
    have hb1:b≤d1.size:=by omega
    clear rot1 hI1 FIN
    obtain ⟨w2,rfl⟩:∃ w2,w2=w1:=⟨_,rfl⟩
    obtain ⟨d2,hd2⟩:∃ d2,d2=d1:=⟨_,rfl⟩
    have s2:SortedIn lt a M d2:=by rw [hd2];have:=X3.out;rwa [show s=a by omega] at this
    have p2:PermIn a M d1 d2:=by rw [hd2];exact permIn_refl _ _ _
    have hI2:InS enc kk w blk off d.size w.heap.size (.func (.func g) #[] lb) (.func (.func sf) #[] sb) d2 w2:=by rw [hd2];exact H1.out
    clear hd2 c0 c1
    have hz2:d2.size=d.size:=hI2.sz
    have c0:=hI2.c0
    have c1:=hI2.c1
    have Y4:=lH (sorted_other X4.out p2 (Or.inr (Nat.le_refl _)))
    have Y5:=lH (sorted_other X5.out p2 (Or.inr z6))
    have H2:=lH hI2
    have S2:=lH s2
    have P2:=lH p2
    clear hI2 s2 p2 X2 X3 X4 X5
    have s3:SortedIn lt M b d2:=by have:=Y4.out;rwa [show en=b by omega] at this
    have R:=lH (halves_done (by omega) (by omega) hb1 X1.out P2.out S2.out (permIn_refl d2 M b) s3)
    clear c0 c1 s3
    go_wp2
    go_end0
    exact H2.out.post ⟨permIn_trans _ _ _ _ _ P1.out R.out.2,R.out.1⟩
   ·exfalso;omega
   ·exfalso;omega
   ·have i1:(s:Int)<(m:Int):=by omega
    have i2:¬ (m:Int)<(en:Int):=by omega
    have i3:(a:Int)<(s:Int):=by omega
    have i4:¬ (s:Int)<(M:Int):=by omega
    have i5:(M:Int)<(en:Int):=by omega
    have i6:(en:Int)<(b:Int):=by omega
    obtain ⟨w1,rfl⟩:∃ w1,w1=wr:=⟨_,rfl⟩
    obtain ⟨d1,hd1⟩:∃ d1,d1=d:=⟨_,rfl⟩
    have rot1:Rot d s m en d1:=by rw [hd1];exact (by rw [show en=m by omega];exact rot_refl_r d s m z2)
    have P1:Hid (PermIn a b d d1):=lH (by rw [hd1];exact permIn_refl _ _ _)
    have hI1:InS enc kk w blk off d.size w.heap.size (.func (.func g) #[] lb) (.func (.func sf) #[] sb) d1 w1:=by rw [hd1];exact HIS.out
    clear hd1 c0 c1
    obtain ⟨X1,X2,X3,X4,X5⟩:=FIN.out d1 rot1
    have hz1:d1.size=d.size:=hI1.sz
    have c0:=hI1.c0
    have c1:=hI1.c1
    have H1:=lH hI1
    have X1:=lH X1
    have X2:=lH X2
    have X3:=lH X3
    have X4:=lH X4
    have X5:=lH X5
    have hb1:b≤d1.size:=by omega
    clear rot1 hI1 FIN
    obtain ⟨w2,rfl⟩:∃ w2,w2=w1:=⟨_,rfl⟩
    obtain ⟨d2,hd2⟩:∃ d2,d2=d1:=⟨_,rfl⟩
    have s2:SortedIn lt a M d2:=by rw [hd2];have:=X2.out;rwa [show s=M by omega] at this
    have p2:PermIn a M d1 d2:=by rw [hd2];exact permIn_refl _ _ _
    have hI2:InS enc kk w blk off d.size w.heap.size (.func (.func g) #[] lb) (.func (.func sf) #[] sb) d2 w2:=by rw [hd2];exact H1.out
    clear hd2 c0 c1
    have hz2:d2.size=d.size:=hI2.sz
    have c0:=hI2.c0
    have c1:=hI2.c1
    have Y4:=lH (sorted_other X4.out p2 (Or.inr (Nat.le_refl _)))
    have Y5:=lH (sorted_other X5.out p2 (Or.inr z6))
    have H2:=lH hI2
    have S2:=lH s2
    have P2:=lH p2
    clear hI2 s2 p2 X2 X3 X4 X5
    have rc:=IH.out M en b d2 w2 (by omega) (H2.out.lessReads HLESS.out) (by rw [hz2];exact HSWP.out) H2.out.holds H2.out.hlt (by omega) (by omega) (by omega) (by omega) Y4.out Y5.out
    go_wp2_with fail
    refine rc.mono ?_
    rintro e w3 ⟨rfl,n3,os3,d3,⟨p3,s3⟩,hw3⟩
    have hI3:InS enc kk w blk off d.size w.heap.size (.func (.func g) #[] lb) (.func (.func sf) #[] sb) d3 w3:=by rw [hw3];exact H2.out.on p3.1
    have R:=lH (halves_done (by omega) (by omega) hb1 X1.out P2.out S2.out p3 s3)
    have H3:=lH hI3
    clear hw3 rc c0 c1 H2 hI3 p3 s3
    go_wp2
    go_end0
    exact H3.out.post ⟨permIn_trans _ _ _ _ _ P1.out R.out.2,R.out.1⟩
end
end Go.Proofs.YthcholmhmcpooaaGreatDoor
namespace Go.Proofs.YthcholmhmcpooaaGreatDoor
open Go.RowKit Go.Sort Go.Lib
section
variable {α:Type} [Inhabited α] {enc:α→List Value} {kk:Nat} {lt:α→α→Bool}
variable (hk:∀ x,(enc x).length=kk) (hS:SWO lt) (g:Nat) (lb:Array Value) (sf:Nat) (sb:Array Value)
set_option maxHeartbeats 8000000 in
set_option maxRecDepth 100000 in
include hk hS in
theorem sym_le (eg:∀ args w,(callFunc g args).run Tryz.prog w=.ok (.enter g args) w) (blk off N a m b:Nat) (d:Array α) (w:World) (hN:b-a≤N+1) (hih:∀ (a m b:Nat) (d:Array α) (w:World),b-a≤N →
  LessG Tryz.prog g lb enc kk lt blk off d.size w→SwapSwapsK Tryz.prog sf sb enc kk blk off d.size→HoldsK enc kk w blk off d→blk<w.heap.size→a<m→m<b→b≤d.size→d.size<4611686018427387904 →
  SortedIn lt a m d→SortedIn lt m b d →
  Calls Tryz.prog 198 #[dta g lb sf sb,.int .i64 a,.int .i64 m,.int .i64 b] w (SrtPost enc kk w blk off fun d'=>PermIn a b d d'∧SortedIn lt a b d'))
  (hless:LessG Tryz.prog g lb enc kk lt blk off d.size w) (hswap:SwapSwapsK Tryz.prog sf sb enc kk blk off d.size) (hH:HoldsK enc kk w blk off d) (hblk:blk<w.heap.size) (ham:a+1<m) (hmb:m+1<b) (hb:b≤d.size) (hsz:d.size<4611686018427387904)
  (hl:SortedIn lt a m d) (hr:SortedIn lt m b d) (hgt:m≤(a+b) / 2) :
  Calls Tryz.prog 198 #[dta g lb sf sb,.int .i64 a,.int .i64 m,.int .i64 b] w (SrtPost enc kk w blk off fun d'=>PermIn a b d d'∧SortedIn lt a b d'):=by
 have IH:=lH hih
 have H0:=lH (InS.start (g:=g) (lb:=lb) (sf:=sf) (sb:=sb) hH hblk)
 have HLESS:=lH hless
 have HSWP:=lH hswap
 have HL:=lH hl
 have HR:=lH hr
 have t1:((m:Int)-(a:Int)==1)=false:=by rw [beq_eq_false_iff_ne];omega
 have t2:((b:Int)-(m:Int)==1)=false:=by rw [beq_eq_false_iff_ne];omega
 obtain ⟨M,hM⟩:∃ M:Nat,M=(a+b) / 2:=⟨_,rfl⟩
 have HM:=lH hM
 have hME:((a:Int)+(b:Int)) / 2=(M:Int):=by omega
 have hM1:2*M≤a+b:=by omega
 have hM2:a+b≤2*M+1:=by omega
 have hbs:b<4611686018427387904:=by omega
 have hgt2:m≤M:=by omega
 have hgtI:¬ (M:Int)<(m:Int):=by omega
 clear hless hswap hH hl hr hM hih hgt
 have FIN:Hid (∀ s s0 r0,((m>M∧s0=M+m-b∧r0=M)∨(m≤M∧s0=a∧r0=m))→s0≤s→s≤r0→(s=s0∨lt d[M+m-1-(s-1)]! d[s-1]! = false)→(s=r0∨lt d[M+m-1-s]! d[s]! = true)→∀ r,Rot d s m (M+m-s) r →
  Cross lt a M b r∧SortedIn lt a s r∧SortedIn lt s M r∧SortedIn lt M (M+m-s) r∧SortedIn lt (M+m-s) b r):=lH (fun s s0 r0 h0 h1 h2 h3 h4 r h=>by
  have hM:=HM.out
  subst hM
  exact sym_cross hS (by omega) (by omega) HL.out HR.out h0 h1 h2 h3 h4 h)
 obtain ⟨s0,hs0⟩:∃ s0:Nat,s0=a:=⟨_,rfl⟩
 obtain ⟨r0,hr0⟩:∃ r0:Nat,r0=m:=⟨_,rfl⟩
 have h00:(m>M∧s0=M+m-b∧r0=M)∨(m≤M∧s0=a∧r0=m):=by omega
 have hsr:s0≤r0∧r0≤M∧r0≤m∧a≤s0∧M+m≤s0+b:=by omega
 obtain ⟨q1,q2,q3,q4,q5⟩:=hsr
 have HFIN:=lH (fun s=>FIN.out s s0 r0 h00)
 have E1:Hid (Value.int .i64 ((a:Int))=.int .i64 (s0:Int)):=lH (by rw [hs0])
 have E2:Hid (Value.int .i64 (m:Int)=.int .i64 (r0:Int)):=lH (by rw [hr0])
 clear FIN h00 hs0 hr0
 go_enter Tryz.func198,Tryz.ntmps198
 go_wp2
 go_loopw [18,19] (fun vs vr wr=>∃ (s r:Nat),vs=.int .i64 s∧vr=.int .i64 r∧s0≤s∧s≤r∧r≤r0∧(s=s0∨lt d[M+m-1-(s-1)]! d[s-1]! = false)∧(r=r0∨lt d[M+m-1-r]! d[r]! = true)∧InS enc kk w blk off d.size w.heap.size (.func (.func g) #[] lb) (.func (.func sf) #[] sb) d wr) (fun vs vr _=>(intOf vr).toNat-(intOf vs).toNat)
 case atStart=>exact ⟨s0,r0,E1.out,E2.out,Nat.le_refl _,q1,Nat.le_refl _,.inl rfl,.inl rfl,H0.out⟩
 case round =>
  clear E1 E2
  obtain ⟨s,r,rfl,rfl,hs,hsr,hr,hP,hQ,hI⟩:=hrel
  have HP:=lH hP
  have HQ:=lH hQ
  have HIS:=lH hI
  have c0:=hI.c0
  have c1:=hI.c1
  clear hP hQ
  by_cases hlt:s<r
  ·have hlti:(s:Int)<(r:Int):=by omega
   cases hlv:lt d[M+m-1-(s+r) / 2]! d[(s+r) / 2]! with
   | false =>
    have HLV:=lH hlv
    have hl:=hI.less HLESS.out (i:=M+m-1-(s+r) / 2) (j:=(s+r) / 2) (by omega) (by omega) false hlv
    rw [show (((M+m-1-(s+r) / 2:Nat):Int))=(M:Int)+(m:Int)-1-((s:Int)+(r:Int)) / 2 by omega,show ((((s+r) / 2:Nat):Int))=((s:Int)+(r:Int)) / 2 by omega] at hl
    clear hI hlv
    go_wp2_with (go_at_fn g;refine hl.mono ?_;rintro e w1 ⟨rfl,hI1⟩)
    go_roundw
    case rel=>exact ⟨(s+r) / 2+1,r,by rw [show ((s:Int)+(r:Int)) / 2+1=(((s+r) / 2+1:Nat):Int) by omega],rfl,by omega,by omega,hr,.inr (by rw [Nat.add_sub_cancel];exact HLV.out),HQ.out,hI1⟩
    case measure=>simp [intOf];omega
   | true =>
    have HLV:=lH hlv
    have hl:=hI.less HLESS.out (i:=M+m-1-(s+r) / 2) (j:=(s+r) / 2) (by omega) (by omega) true hlv
    rw [show (((M+m-1-(s+r) / 2:Nat):Int))=(M:Int)+(m:Int)-1-((s:Int)+(r:Int)) / 2 by omega,show ((((s+r) / 2:Nat):Int))=((s:Int)+(r:Int)) / 2 by omega] at hl
    clear hI hlv
    go_wp2_with (go_at_fn g;refine hl.mono ?_;rintro e w1 ⟨rfl,hI1⟩)
    go_roundw
    case rel=>exact ⟨s,(s+r) / 2,rfl,by rw [show ((s:Int)+(r:Int)) / 2=(((s+r) / 2:Nat):Int) by omega],hs,by omega,by omega,HP.out,.inr HLV.out,hI1⟩
    case measure=>simp [intOf];omega
  ·have hge:¬ (s:Int)<(r:Int):=by omega
   obtain ⟨en,hen⟩:∃ en:Nat,en=M+m-s:=⟨_,rfl⟩
   have hEE:(M:Int)+(m:Int)-(s:Int)=(en:Int):=by omega
   have hES:s+en=M+m:=by omega
   have z1:s≤M:=by omega
   have z2:s≤m:=by omega
   have z3:m≤en:=by omega
   have z4:en≤b:=by omega
   have z5:a≤s:=by omega
   have z6:M≤en:=by omega
   have FIN:Hid (∀ x,Rot d s m en x→Cross lt a M b x∧SortedIn lt a s x∧SortedIn lt s M x∧SortedIn lt M en x∧SortedIn lt en b x):=lH (by
    rw [hen]
    exact HFIN.out s hs (by omega) HP.out (by have:=HQ.out;rwa [show r=s by omega] at this))
   have hM3:a<M:=by omega
   have hM4:M<b:=by omega
   clear hI hen HP HQ hr hsr
   have hc:(s<m∧m<en∧a<s∧en<b)∨(s<m∧m<en∧a<s∧¬ en<b)∨(s<m∧m<en∧¬ a<s∧en<b)∨(s<m∧m<en∧¬ a<s∧¬ en<b)∨(¬ s<m∧s<M)∨(¬ s<m∧¬ s<M)∨(s<m∧¬ m<en):=by omega
   rcases hc with ⟨v1,v2,v3,v4⟩ | ⟨v1,v2,v3,v4⟩ | ⟨v1,v2,v3,v4⟩ | ⟨v1,v2,v3,v4⟩ | ⟨v1,v2⟩ | ⟨v1,v2⟩ | ⟨v1,v2⟩
   ·have i1:(s:Int)<(m:Int):=by omega
    have i2:(m:Int)<(en:Int):=by omega
    have i3:(a:Int)<(s:Int):=by omega
    have i4:(s:Int)<(M:Int):=by omega
    have i5:(M:Int)<(en:Int):=by omega
    have i6:(en:Int)<(b:Int):=by omega
    have rc:=rotate_s hk g lb sf sb blk off s m en d wr HSWP.out HIS.out.holds HIS.out.hlt (by omega) (by omega) (by omega) hsz
    go_wp2_with fail
    refine rc.mono ?_
    rintro e w1 ⟨rfl,n1,os1,d1,⟨rot1,p1⟩,hw1⟩
    have hI1:InS enc kk w blk off d.size w.heap.size (.func (.func g) #[] lb) (.func (.func sf) #[] sb) d1 w1:=by rw [hw1];exact HIS.out.on p1.1
    have P1:Hid (PermIn a b d d1):=lH (permIn_mono _ _ _ _ _ _ (by omega) (by omega) hb p1)
    clear hw1 rc c0 c1 p1
    obtain ⟨X1,X2,X3,X4,X5⟩:=FIN.out d1 rot1
    have hz1:d1.size=d.size:=hI1.sz
    have c0:=hI1.c0
    have c1:=hI1.c1
    have H1:=lH hI1
    have X1:=lH X1
    have X2:=lH X2
    have X3:=lH X3
    have X4:=lH X4
    have X5:=lH X5
    have hb1:b≤d1.size:=by omega
    clear rot1 hI1 FIN
    have rc:=IH.out a s M d1 w1 (by omega) (H1.out.lessReads HLESS.out) (by rw [hz1];exact HSWP.out) H1.out.holds H1.out.hlt (by omega) (by omega) (by omega) (by omega) X2.out X3.out
    go_wp2_with fail
    refine rc.mono ?_
    rintro e w2 ⟨rfl,n2,os2,d2,⟨p2,s2⟩,hw2⟩
    have hI2:InS enc kk w blk off d.size w.heap.size (.func (.func g) #[] lb) (.func (.func sf) #[] sb) d2 w2:=by rw [hw2];exact H1.out.on p2.1
    clear hw2 rc c0 c1
    have hz2:d2.size=d.size:=hI2.sz
    have c0:=hI2.c0
    have c1:=hI2.c1
    have Y4:=lH (sorted_other X4.out p2 (Or.inr (Nat.le_refl _)))
    have Y5:=lH (sorted_other X5.out p2 (Or.inr z6))
    have H2:=lH hI2
    have S2:=lH s2
    have P2:=lH p2
    clear hI2 s2 p2 X2 X3 X4 X5
    have rc:=IH.out M en b d2 w2 (by omega) (H2.out.lessReads HLESS.out) (by rw [hz2];exact HSWP.out) H2.out.holds H2.out.hlt (by omega) (by omega) (by omega) (by omega) Y4.out Y5.out
    go_wp2_with fail
    refine rc.mono ?_
    rintro e w3 ⟨rfl,n3,os3,d3,⟨p3,s3⟩,hw3⟩
    have hI3:InS enc kk w blk off d.size w.heap.size (.func (.func g) #[] lb) (.func (.func sf) #[] sb) d3 w3:=by rw [hw3];exact H2.out.on p3.1
    have R:=lH (halves_done (by omega) (by omega) hb1 X1.out P2.out S2.out p3 s3)
    have H3:=lH hI3
    clear hw3 rc c0 c1 H2 hI3 p3 s3
    go_wp2
    go_end0
    exact H3.out.post ⟨permIn_trans _ _ _ _ _ P1.out R.out.2,R.out.1⟩
   ·have i1:(s:Int)<(m:Int):=by omega
    have i2:(m:Int)<(en:Int):=by omega
    have i3:(a:Int)<(s:Int):=by omega
    have i4:(s:Int)<(M:Int):=by omega
    have i5:(M:Int)<(en:Int):=by omega
    have i6:¬ (en:Int)<(b:Int):=by omega
    have rc:=rotate_s hk g lb sf sb blk off s m en d wr HSWP.out HIS.out.holds HIS.out.hlt (by omega) (by omega) (by omega) hsz
    go_wp2_with fail
    refine rc.mono ?_
    rintro e w1 ⟨rfl,n1,os1,d1,⟨rot1,p1⟩,hw1⟩
    have hI1:InS enc kk w blk off d.size w.heap.size (.func (.func g) #[] lb) (.func (.func sf) #[] sb) d1 w1:=by rw [hw1];exact HIS.out.on p1.1
    have P1:Hid (PermIn a b d d1):=lH (permIn_mono _ _ _ _ _ _ (by omega) (by omega) hb p1)
    clear hw1 rc c0 c1 p1
    obtain ⟨X1,X2,X3,X4,X5⟩:=FIN.out d1 rot1
    have hz1:d1.size=d.size:=hI1.sz
    have c0:=hI1.c0
    have c1:=hI1.c1
    have H1:=lH hI1
    have X1:=lH X1
    have X2:=lH X2
    have X3:=lH X3
    have X4:=lH X4
    have X5:=lH X5
    have hb1:b≤d1.size:=by omega
    clear rot1 hI1 FIN
    have rc:=IH.out a s M d1 w1 (by omega) (H1.out.lessReads HLESS.out) (by rw [hz1];exact HSWP.out) H1.out.holds H1.out.hlt (by omega) (by omega) (by omega) (by omega) X2.out X3.out
    go_wp2_with fail
    refine rc.mono ?_
    rintro e w2 ⟨rfl,n2,os2,d2,⟨p2,s2⟩,hw2⟩
    have hI2:InS enc kk w blk off d.size w.heap.size (.func (.func g) #[] lb) (.func (.func sf) #[] sb) d2 w2:=by rw [hw2];exact H1.out.on p2.1
    clear hw2 rc c0 c1
    have hz2:d2.size=d.size:=hI2.sz
    have c0:=hI2.c0
    have c1:=hI2.c1
    have Y4:=lH (sorted_other X4.out p2 (Or.inr (Nat.le_refl _)))
    have Y5:=lH (sorted_other X5.out p2 (Or.inr z6))
    have H2:=lH hI2
    have S2:=lH s2
    have P2:=lH p2
    clear hI2 s2 p2 X2 X3 X4 X5
    have s3:SortedIn lt M b d2:=by have:=Y4.out;rwa [show en=b by omega] at this
    have R:=lH (halves_done (by omega) (by omega) hb1 X1.out P2.out S2.out (permIn_refl d2 M b) s3)
    clear c0 c1 s3
    go_wp2
    go_end0
    exact H2.out.post ⟨permIn_trans _ _ _ _ _ P1.out R.out.2,R.out.1⟩
   ·have i1:(s:Int)<(m:Int):=by omega
    have i2:(m:Int)<(en:Int):=by omega
    have i3:¬ (a:Int)<(s:Int):=by omega
    have i5:(M:Int)<(en:Int):=by omega
    have i6:(en:Int)<(b:Int):=by omega
    have rc:=rotate_s hk g lb sf sb blk off s m en d wr HSWP.out HIS.out.holds HIS.out.hlt (by omega) (by omega) (by omega) hsz
    go_wp2_with fail
    refine rc.mono ?_
    rintro e w1 ⟨rfl,n1,os1,d1,⟨rot1,p1⟩,hw1⟩
    have hI1:InS enc kk w blk off d.size w.heap.size (.func (.func g) #[] lb) (.func (.func sf) #[] sb) d1 w1:=by rw [hw1];exact HIS.out.on p1.1
    have P1:Hid (PermIn a b d d1):=lH (permIn_mono _ _ _ _ _ _ (by omega) (by omega) hb p1)
    clear hw1 rc c0 c1 p1
    obtain ⟨X1,X2,X3,X4,X5⟩:=FIN.out d1 rot1
    have hz1:d1.size=d.size:=hI1.sz
    have c0:=hI1.c0
    have c1:=hI1.c1
    have H1:=lH hI1
    have X1:=lH X1
    have X2:=lH X2
    have X3:=lH X3
    have X4:=lH X4
    have X5:=lH X5
    have hb1:b≤d1.size:=by omega
    clear rot1 hI1 FIN
    obtain ⟨w2,rfl⟩:∃ w2,w2=w1:=⟨_,rfl⟩
    obtain ⟨d2,hd2⟩:∃ d2,d2=d1:=⟨_,rfl⟩
    have s2:SortedIn lt a M d2:=by rw [hd2];have:=X3.out;rwa [show s=a by omega] at this
    have p2:PermIn a M d1 d2:=by rw [hd2];exact permIn_refl _ _ _
    have hI2:InS enc kk w blk off d.size w.heap.size (.func (.func g) #[] lb) (.func (.func sf) #[] sb) d2 w2:=by rw [hd2];exact H1.out
    clear hd2 c0 c1
    have hz2:d2.size=d.size:=hI2.sz
    have c0:=hI2.c0
    have c1:=hI2.c1
    have Y4:=lH (sorted_other X4.out p2 (Or.inr (Nat.le_refl _)))
    have Y5:=lH (sorted_other X5.out p2 (Or.inr z6))
    have H2:=lH hI2
    have S2:=lH s2
    have P2:=lH p2
    clear hI2 s2 p2 X2 X3 X4 X5
    have rc:=IH.out M en b d2 w2 (by omega) (H2.out.lessReads HLESS.out) (by rw [hz2];exact HSWP.out) H2.out.holds H2.out.hlt (by omega) (by omega) (by omega) (by omega) Y4.out Y5.out
    go_wp2_with fail
    refine rc.mono ?_
    rintro e w3 ⟨rfl,n3,os3,d3,⟨p3,s3⟩,hw3⟩
    have hI3:InS enc kk w blk off d.size w.heap.size (.func (.func g) #[] lb) (.func (.func sf) #[] sb) d3 w3:=by rw [hw3];exact H2.out.on p3.1
    have R:=lH (halves_done (by omega) (by omega) hb1 X1.out P2.out S2.out p3 s3)
    have H3:=lH hI3
    clear hw3 rc c0 c1 H2 hI3 p3 s3
    go_wp2
    go_end0
    exact H3.out.post ⟨permIn_trans _ _ _ _ _ P1.out R.out.2,R.out.1⟩
   ·have i1:(s:Int)<(m:Int):=by omega
    have i2:(m:Int)<(en:Int):=by omega
    have i3:¬ (a:Int)<(s:Int):=by omega
    have i5:(M:Int)<(en:Int):=by omega
    have i6:¬ (en:Int)<(b:Int):=by omega
    have rc:=rotate_s hk g lb sf sb blk off s m en d wr HSWP.out HIS.out.holds HIS.out.hlt (by omega) (by omega) (by omega) hsz
    go_wp2_with fail
    refine rc.mono ?_
    rintro e w1 ⟨rfl,n1,os1,d1,⟨rot1,p1⟩,hw1⟩
    have hI1:InS enc kk w blk off d.size w.heap.size (.func (.func g) #[] lb) (.func (.func sf) #[] sb) d1 w1:=by rw [hw1];exact HIS.out.on p1.1
    have P1:Hid (PermIn a b d d1):=lH (permIn_mono _ _ _ _ _ _ (by omega) (by omega) hb p1)
    clear hw1 rc c0 c1 p1
    obtain ⟨X1,X2,X3,X4,X5⟩:=FIN.out d1 rot1
    have hz1:d1.size=d.size:=hI1.sz
    have c0:=hI1.c0
    have c1:=hI1.c1
    have H1:=lH hI1
    have X1:=lH X1
    have X2:=lH X2
    have X3:=lH X3
    have X4:=lH X4
    have X5:=lH X5
    have hb1:b≤d1.size:=by omega
    clear rot1 hI1 FIN
    obtain ⟨w2,rfl⟩:∃ w2,w2=w1:=⟨_,rfl⟩
    obtain ⟨d2,hd2⟩:∃ d2,d2=d1:=⟨_,rfl⟩
    have s2:SortedIn lt a M d2:=by rw [hd2];have:=X3.out;rwa [show s=a by omega] at this
    have p2:PermIn a M d1 d2:=by rw [hd2];exact permIn_refl _ _ _
    have hI2:InS enc kk w blk off d.size w.heap.size (.func (.func g) #[] lb) (.func (.func sf) #[] sb) d2 w2:=by rw [hd2];exact H1.out
    clear hd2 c0 c1
    have hz2:d2.size=d.size:=hI2.sz
    have c0:=hI2.c0
    have c1:=hI2.c1
    have Y4:=lH (sorted_other X4.out p2 (Or.inr (Nat.le_refl _)))
    have Y5:=lH (sorted_other X5.out p2 (Or.inr z6))
    have H2:=lH hI2
    have S2:=lH s2
    have P2:=lH p2
    clear hI2 s2 p2 X2 X3 X4 X5
    have s3:SortedIn lt M b d2:=by have:=Y4.out;rwa [show en=b by omega] at this
    have R:=lH (halves_done (by omega) (by omega) hb1 X1.out P2.out S2.out (permIn_refl d2 M b) s3)
    clear c0 c1 s3
    go_wp2
    go_end0
    exact H2.out.post ⟨permIn_trans _ _ _ _ _ P1.out R.out.2,R.out.1⟩
   ·have i1:¬ (s:Int)<(m:Int):=by omega
    have i3:(a:Int)<(s:Int):=by omega
    have i4:(s:Int)<(M:Int):=by omega
    have i5:¬ (M:Int)<(en:Int):=by omega
    obtain ⟨w1,rfl⟩:∃ w1,w1=wr:=⟨_,rfl⟩
    obtain ⟨d1,hd1⟩:∃ d1,d1=d:=⟨_,rfl⟩
    have rot1:Rot d s m en d1:=by rw [hd1];exact (by rw [show s=m by omega];exact rot_refl_l d m en z3)
    have P1:Hid (PermIn a b d d1):=lH (by rw [hd1];exact permIn_refl _ _ _)
    have hI1:InS enc kk w blk off d.size w.heap.size (.func (.func g) #[] lb) (.func (.func sf) #[] sb) d1 w1:=by rw [hd1];exact HIS.out
    clear hd1 c0 c1
    obtain ⟨X1,X2,X3,X4,X5⟩:=FIN.out d1 rot1
    have hz1:d1.size=d.size:=hI1.sz
    have c0:=hI1.c0
    have c1:=hI1.c1
    have H1:=lH hI1
    have X1:=lH X1
    have X2:=lH X2
    have X3:=lH X3
    have X4:=lH X4
    have X5:=lH X5
    have hb1:b≤d1.size:=by omega
    clear rot1 hI1 FIN
    have rc:=IH.out a s M d1 w1 (by omega) (H1.out.lessReads HLESS.out) (by rw [hz1];exact HSWP.out) H1.out.holds H1.out.hlt (by omega) (by omega) (by omega) (by omega) X2.out X3.out
    go_wp2_with fail
    refine rc.mono ?_
    rintro e w2 ⟨rfl,n2,os2,d2,⟨p2,s2⟩,hw2⟩
    have hI2:InS enc kk w blk off d.size w.heap.size (.func (.func g) #[] lb) (.func (.func sf) #[] sb) d2 w2:=by rw [hw2];exact H1.out.on p2.1
    clear hw2 rc c0 c1
    have hz2:d2.size=d.size:=hI2.sz
    have c0:=hI2.c0
    have c1:=hI2.c1
    have Y4:=lH (sorted_other X4.out p2 (Or.inr (Nat.le_refl _)))
    have Y5:=lH (sorted_other X5.out p2 (Or.inr z6))
    have H2:=lH hI2
    have S2:=lH s2
    have P2:=lH p2
    clear hI2 s2 p2 X2 X3 X4 X5
    have s3:SortedIn lt M b d2:=by have:=Y5.out;rwa [show en=M by omega] at this
    have R:=lH (halves_done (by omega) (by omega) hb1 X1.out P2.out S2.out (permIn_refl d2 M b) s3)
    clear c0 c1 s3
    go_wp2
    go_end0
    exact H2.out.post ⟨permIn_trans _ _ _ _ _ P1.out R.out.2,R.out.1⟩
   ·have i1:¬ (s:Int)<(m:Int):=by omega
    have i3:(a:Int)<(s:Int):=by omega
    have i4:¬ (s:Int)<(M:Int):=by omega
    have i5:¬ (M:Int)<(en:Int):=by omega
    obtain ⟨w1,rfl⟩:∃ w1,w1=wr:=⟨_,rfl⟩
    obtain ⟨d1,hd1⟩:∃ d1,d1=d:=⟨_,rfl⟩
    have rot1:Rot d s m en d1:=by rw [hd1];exact (by rw [show s=m by omega];exact rot_refl_l d m en z3)
    have P1:Hid (PermIn a b d d1):=lH (by rw [hd1];exact permIn_refl _ _ _)
    have hI1:InS enc kk w blk off d.size w.heap.size (.func (.func g) #[] lb) (.func (.func sf) #[] sb) d1 w1:=by rw [hd1];exact HIS.out
    clear hd1 c0 c1
    obtain ⟨X1,X2,X3,X4,X5⟩:=FIN.out d1 rot1
    have hz1:d1.size=d.size:=hI1.sz
    have c0:=hI1.c0
    have c1:=hI1.c1
    have H1:=lH hI1
    have X1:=lH X1
    have X2:=lH X2
    have X3:=lH X3
    have X4:=lH X4
    have X5:=lH X5
    have hb1:b≤d1.size:=by omega
    clear rot1 hI1 FIN
    obtain ⟨w2,rfl⟩:∃ w2,w2=w1:=⟨_,rfl⟩
    obtain ⟨d2,hd2⟩:∃ d2,d2=d1:=⟨_,rfl⟩
    have s2:SortedIn lt a M d2:=by rw [hd2];have:=X2.out;rwa [show s=M by omega] at this
    have p2:PermIn a M d1 d2:=by rw [hd2];exact permIn_refl _ _ _
    have hI2:InS enc kk w blk off d.size w.heap.size (.func (.func g) #[] lb) (.func (.func sf) #[] sb) d2 w2:=by rw [hd2];exact H1.out
    clear hd2 c0 c1
    have hz2:d2.size=d.size:=hI2.sz
    have c0:=hI2.c0
    have c1:=hI2.c1
    have Y4:=lH (sorted_other X4.out p2 (Or.inr (Nat.le_refl _)))
    have Y5:=lH (sorted_other X5.out p2 (Or.inr z6))
    have H2:=lH hI2
    have S2:=lH s2
    have P2:=lH p2
    clear hI2 s2 p2 X2 X3 X4 X5
    have s3:SortedIn lt M b d2:=by have:=Y5.out;rwa [show en=M by omega] at this
    have R:=lH (halves_done (by omega) (by omega) hb1 X1.out P2.out S2.out (permIn_refl d2 M b) s3)
    clear c0 c1 s3
    go_wp2
    go_end0
    exact H2.out.post ⟨permIn_trans _ _ _ _ _ P1.out R.out.2,R.out.1⟩
   ·have i1:(s:Int)<(m:Int):=by omega
    have i2:¬ (m:Int)<(en:Int):=by omega
    have i3:(a:Int)<(s:Int):=by omega
    have i4:¬ (s:Int)<(M:Int):=by omega
    have i5:(M:Int)<(en:Int):=by omega
    have i6:(en:Int)<(b:Int):=by omega
    obtain ⟨w1,rfl⟩:∃ w1,w1=wr:=⟨_,rfl⟩
    obtain ⟨d1,hd1⟩:∃ d1,d1=d:=⟨_,rfl⟩
    have rot1:Rot d s m en d1:=by rw [hd1];exact (by rw [show en=m by omega];exact rot_refl_r d s m z2)
    have P1:Hid (PermIn a b d d1):=lH (by rw [hd1];exact permIn_refl _ _ _)
    have hI1:InS enc kk w blk off d.size w.heap.size (.func (.func g) #[] lb) (.func (.func sf) #[] sb) d1 w1:=by rw [hd1];exact HIS.out
    clear hd1 c0 c1
    obtain ⟨X1,X2,X3,X4,X5⟩:=FIN.out d1 rot1
    have hz1:d1.size=d.size:=hI1.sz
    have c0:=hI1.c0
    have c1:=hI1.c1
    have H1:=lH hI1
    have X1:=lH X1
    have X2:=lH X2
    have X3:=lH X3
    have X4:=lH X4
    have X5:=lH X5
    have hb1:b≤d1.size:=by omega
    clear rot1 hI1 FIN
    obtain ⟨w2,rfl⟩:∃ w2,w2=w1:=⟨_,rfl⟩
    obtain ⟨d2,hd2⟩:∃ d2,d2=d1:=⟨_,rfl⟩
    have s2:SortedIn lt a M d2:=by rw [hd2];have:=X2.out;rwa [show s=M by omega] at this
    have p2:PermIn a M d1 d2:=by rw [hd2];exact permIn_refl _ _ _
    have hI2:InS enc kk w blk off d.size w.heap.size (.func (.func g) #[] lb) (.func (.func sf) #[] sb) d2 w2:=by rw [hd2];exact H1.out
    clear hd2 c0 c1
    have hz2:d2.size=d.size:=hI2.sz
    have c0:=hI2.c0
    have c1:=hI2.c1
    have Y4:=lH (sorted_other X4.out p2 (Or.inr (Nat.le_refl _)))
    have Y5:=lH (sorted_other X5.out p2 (Or.inr z6))
    have H2:=lH hI2
    have S2:=lH s2
    have P2:=lH p2
    clear hI2 s2 p2 X2 X3 X4 X5
    have rc:=IH.out M en b d2 w2 (by omega) (H2.out.lessReads HLESS.out) (by rw [hz2];exact HSWP.out) H2.out.holds H2.out.hlt (by omega) (by omega) (by omega) (by omega) Y4.out Y5.out
    go_wp2_with fail
    refine rc.mono ?_
    rintro e w3 ⟨rfl,n3,os3,d3,⟨p3,s3⟩,hw3⟩
    have hI3:InS enc kk w blk off d.size w.heap.size (.func (.func g) #[] lb) (.func (.func sf) #[] sb) d3 w3:=by rw [hw3];exact H2.out.on p3.1
    have R:=lH (halves_done (by omega) (by omega) hb1 X1.out P2.out S2.out p3 s3)
    have H3:=lH hI3
    clear hw3 rc c0 c1 H2 hI3 p3 s3
    go_wp2
    go_end0
    exact H3.out.post ⟨permIn_trans _ _ _ _ _ P1.out R.out.2,R.out.1⟩
end
end Go.Proofs.YthcholmhmcpooaaGreatDoor
namespace Go.Proofs.YthcholmhmcpooaaGreatDoor
open Go.RowKit Go.Sort Go.Lib
section
variable {α:Type} [Inhabited α] {enc:α→List Value} {kk:Nat} {lt:α→α→Bool}
variable (hk:∀ x,(enc x).length=kk) (hS:SWO lt) (g:Nat) (lb:Array Value) (sf:Nat) (sb:Array Value)
include hk hS in
theorem symmerge_s (eg:∀ args w,(callFunc g args).run Tryz.prog w=.ok (.enter g args) w) (blk off:Nat):∀ (N a m b:Nat) (d:Array α) (w:World),b-a≤N →
  LessG Tryz.prog g lb enc kk lt blk off d.size w→SwapSwapsK Tryz.prog sf sb enc kk blk off d.size→HoldsK enc kk w blk off d→blk<w.heap.size→a<m→m<b→b≤d.size→d.size<4611686018427387904 →
  SortedIn lt a m d→SortedIn lt m b d →
  Calls Tryz.prog 198 #[dta g lb sf sb,.int .i64 a,.int .i64 m,.int .i64 b] w (SrtPost enc kk w blk off fun d'=>PermIn a b d d'∧SortedIn lt a b d')
 | 0,a,m,b,d,w,hN,hless,hswap,hH,hblk,ham,hmb,hb,hsz,hl,hr=>by omega
 | N+1,a,m,b,d,w,hN,hless,hswap,hH,hblk,ham,hmb,hb,hsz,hl,hr=>by
  by_cases c1:m=a+1
  ·exact sym_left hk hS g lb sf sb eg blk off a m b d w hless hswap hH hblk c1 hmb hb hsz hr
  by_cases c2:b=m+1
  ·exact sym_right hk hS g lb sf sb eg blk off a m b d w hless hswap hH hblk (by omega) c2 hb hsz hl
  by_cases c3:m>(a+b) / 2
  ·exact sym_gt hk hS g lb sf sb eg blk off N a m b d w hN (symmerge_s eg blk off N) hless hswap hH hblk (by omega) (by omega) hb hsz hl hr c3
  ·exact sym_le hk hS g lb sf sb eg blk off N a m b d w hN (symmerge_s eg blk off N) hless hswap hH hblk (by omega) (by omega) hb hsz hl hr (by omega)
theorem mul_lt_step {p q C:Nat} (h:p<q):p*C+C≤q*C:=by
 have:(p+1)*C≤q*C:=Nat.mul_le_mul_right _ h
 rwa [Nat.succ_mul] at this
def HalfS (lt:α→α→Bool) (B n q:Nat) (d:Array α):Prop:=(∀ p,p<q→SortedIn lt (p*(2*B)) (p*(2*B)+2*B) d)∧∀ p,2*q≤p→p*B≤n→SortedIn lt (p*B) (min (p*B+B) n) d
theorem half_two {B q A:Nat} (hA:A=q*(2*B)):(2*q)*B=A∧(2*q+1)*B=A+B:=by
 have h:(2*q)*B=A:=by rw [hA,Nat.mul_comm 2 q,Nat.mul_assoc]
 exact ⟨h,by rw [Nat.succ_mul,h]⟩
theorem half_first {B n q A:Nat} {d:Array α} (h:HalfS lt B n q d) (hA:A=q*(2*B)) (hn:A+B≤n):SortedIn lt A (A+B) d:=by
 obtain ⟨e1,e2⟩:=half_two hA
 have:=h.2 (2*q) (Nat.le_refl _) (by omega)
 rwa [e1,Nat.min_eq_left hn] at this
theorem half_second {B n q A e:Nat} {d:Array α} (h:HalfS lt B n q d) (hA:A=q*(2*B)) (hn:A+B≤n) (he:e=min (A+B+B) n):SortedIn lt (A+B) e d:=by
 obtain ⟨e1,e2⟩:=half_two hA
 have:=h.2 (2*q+1) (by omega) (by omega)
 rwa [e2,← he] at this
theorem half_step {B n q A:Nat} {d d':Array α} (h:HalfS lt B n q d) (hA:A=q*(2*B)) (hp:PermIn A (A+2*B) d d') (hs:SortedIn lt A (A+2*B) d'):HalfS lt B n (q+1) d':=by
 obtain ⟨e1,e2⟩:=half_two hA
 refine ⟨fun p hpq=>?_,fun p hpq hpn=>?_⟩
 ·rcases Nat.lt_or_ge p q with hlt | hge
  ·exact sorted_other (h.1 p hlt) hp (Or.inl (by rw [hA];exact mul_lt_step hlt))
  ·obtain rfl:p=q:=by omega
   rw [← hA];exact hs
 ·refine sorted_other (h.2 p (by omega) hpn) hp (Or.inr ?_)
  have:(2*q+2)*B≤p*B:=Nat.mul_le_mul_right _ (by omega)
  rw [show 2*q+2=2*q+1+1 by omega,Nat.succ_mul,e2] at this
  omega
theorem half_done {B n q A:Nat} {d d':Array α} (h:HalfS lt B n q d) (hA:A=q*(2*B)) (hAn:A≤n) (hb:n<A+2*B) (hp:PermIn A n d d') (hs:SortedIn lt A n d'):∀ p,p*(B*2)≤n→SortedIn lt (p*(B*2)) (min (p*(B*2)+B*2) n) d':=by
 intro p hpn
 rw [Nat.mul_comm B 2] at *
 rcases Nat.lt_trichotomy p q with hlt | rfl | hlt
 ·have:=mul_lt_step (C:=2*B) hlt
  rw [Nat.min_eq_left (by omega)]
  exact sorted_other (h.1 p hlt) hp (Or.inl (by omega))
 ·rw [← hA,Nat.min_eq_right (by omega)];exact hs
 ·have:=mul_lt_step (C:=2*B) hlt
  omega
def BlkS (lt:α→α→Bool) (B n:Nat) (d:Array α):Prop:=∀ q,q*B≤n→SortedIn lt (q*B) (min (q*B+B) n) d
set_option maxHeartbeats 8000000 in
set_option maxRecDepth 100000 in
include hk hS in
theorem stable_s (eg:∀ args w,(callFunc g args).run Tryz.prog w=.ok (.enter g args) w) (blk off n:Nat) (d:Array α) (w:World) (hn:d.size=n)
  (hless:LessG Tryz.prog g lb enc kk lt blk off d.size w) (hswap:SwapSwapsK Tryz.prog sf sb enc kk blk off d.size) (hH:HoldsK enc kk w blk off d) (hblk:blk<w.heap.size) (hsz:n<1152921504606846976) :
  Calls Tryz.prog 145 #[dta g lb sf sb,.int .i64 n] w (SrtPost enc kk w blk off fun d'=>PermIn 0 n d d'∧SortedIn lt 0 n d'):=by
 have H0:=lH (InS.start (g:=g) (lb:=lb) (sf:=sf) (sb:=sb) hH hblk)
 have HLESS:=lH hless
 have HSWP:=lH hswap
 have HN:=lH hn
 have hdn:d.size≤n:=by omega
 have hdn2:n≤d.size:=by omega
 clear hless hswap hH hn
 go_enter Tryz.func145,Tryz.ntmps145
 go_wp2
 go_loopw [5,6] (fun va vb wr=>∃ (q:Nat) (dk:Array α),va=.int .i64 ((q*20:Nat):Int)∧vb=.int .i64 ((q*20+20:Nat):Int)∧q*20≤n∧InS enc kk w blk off d.size w.heap.size (.func (.func g) #[] lb) (.func (.func sf) #[] sb) dk wr∧PermIn 0 n d dk∧(∀ p,p<q→SortedIn lt (p*20) (p*20+20) dk)) (fun va _ _=>n-(intOf va).toNat)
 case atStart=>exact ⟨0,d,by simp,by simp,by omega,H0.out,permIn_refl _ _ _,by intro p hp;omega⟩
 case round =>
  obtain ⟨q,dk,rfl,rfl,hq,hI,hpm,hso⟩:=hrel
  have HI:=lH hI
  have HPM:=lH hpm
  have HSO:=lH hso
  have c0:=hI.c0
  have c1:=hI.c1
  have hsk:=hI.sz
  clear hI hpm hso
  obtain ⟨a,ha⟩:∃ a,a=q*20:=⟨_,rfl⟩
  rw [← ha]
  rw [← ha] at hq
  have HA:=lH ha
  clear ha
  by_cases hlt:a+20≤n
  ·have rc:=insertion_s hk hS g lb sf sb eg blk off a (a+20) dk wr (HI.out.lessReads HLESS.out) (by rw [hsk];exact HSWP.out) HI.out.holds HI.out.hlt (by omega) (by omega) (by omega)
   have hle:((a+20:Nat):Int)≤(n:Int):=by omega
   go_wp2_with fail
   refine rc.mono ?_
   rintro e w1 ⟨rfl,n1,os1,d1,⟨p1,s1⟩,hw1⟩
   have hI1:InS enc kk w blk off d.size w.heap.size (.func (.func g) #[] lb) (.func (.func sf) #[] sb) d1 w1:=by rw [hw1];exact HI.out.on p1.1
   have REL:Hid (∃ (q:Nat) (dk:Array α),Value.int .i64 ((a+20:Nat):Int)=.int .i64 ((q*20:Nat):Int)∧Value.int .i64 (((a+20:Nat):Int)+20)=.int .i64 ((q*20+20:Nat):Int)∧q*20≤n∧InS enc kk w blk off d.size w.heap.size (.func (.func g) #[] lb) (.func (.func sf) #[] sb) dk w1∧PermIn 0 n d dk∧(∀ p,p<q→SortedIn lt (p*20) (p*20+20) dk)):=lH (by
    have ha:=HA.out
    refine ⟨q+1,d1,by congr 2;omega,by congr 1;omega,by omega,hI1,permIn_trans _ _ _ _ _ HPM.out (permIn_mono _ _ _ _ _ _ (by omega) hlt (by omega) p1),fun p hp=>?_⟩
    rcases Nat.lt_or_ge p q with h | h
    ·exact sorted_other (HSO.out p h) p1 (Or.inl (by omega))
    ·obtain rfl:p=q:=by omega
     rw [← ha];exact s1)
   clear hw1 rc c0 c1 p1 s1 hI1
   go_wp2
   go_roundw
   case rel=>exact REL.out
   case measure=>simp [intOf];omega
  ·have rc:=insertion_s hk hS g lb sf sb eg blk off a n dk wr (HI.out.lessReads HLESS.out) (by rw [hsk];exact HSWP.out) HI.out.holds HI.out.hlt (by omega) (by omega) (by omega)
   have hle:¬ ((a+20:Nat):Int)≤(n:Int):=by omega
   go_wp2_with fail
   refine rc.mono ?_
   rintro e w1 ⟨rfl,n1,os1,d1,⟨p1,s1⟩,hw1⟩
   have hI1:InS enc kk w blk off d.size w.heap.size (.func (.func g) #[] lb) (.func (.func sf) #[] sb) d1 w1:=by rw [hw1];exact HI.out.on p1.1
   have ST:Hid (InS enc kk w blk off d.size w.heap.size (.func (.func g) #[] lb) (.func (.func sf) #[] sb) d1 w1∧PermIn 0 n d d1∧BlkS lt 20 n d1):=lH (by
    have ha:=HA.out
    refine ⟨hI1,permIn_trans _ _ _ _ _ HPM.out (permIn_mono _ _ _ _ _ _ (by omega) (by omega) (by omega) p1),fun p hp=>?_⟩
    rcases Nat.lt_or_ge p q with h | h
    ·rw [Nat.min_eq_left (by omega)]
     exact sorted_other (HSO.out p h) p1 (Or.inl (by omega))
    ·obtain rfl:p=q:=by omega
     rw [Nat.min_eq_right (by omega),← ha];exact s1)
   clear hw1 rc c0 c1 p1 s1 hI1 HI HPM HSO hsk
   go_wp2
   go_loopw [4] (fun vB wr=>∃ (B:Nat) (dk:Array α),vB=.int .i64 B∧20≤B∧B<2305843009213693952∧InS enc kk w blk off d.size w.heap.size (.func (.func g) #[] lb) (.func (.func sf) #[] sb) dk wr∧PermIn 0 n d dk∧BlkS lt B n dk) (fun vB _=>n-(intOf vB).toNat)
   case atStart=>exact ⟨20,d1,rfl,by omega,by omega,ST.out.1,ST.out.2.1,ST.out.2.2⟩
   case round =>
    clear ST
    obtain ⟨B,dk,rfl,hB,hB2,hI,hpm,hbs⟩:=hrel
    have HI:=lH hI
    have HPM:=lH hpm
    have HBS:=lH hbs
    clear hI hpm hbs
    by_cases hlt:B<n
    ·have hlti:(B:Int)<(n:Int):=by omega
     go_wp2
     go_loopw [5,6] (fun va vb wr=>∃ (q A:Nat) (dj:Array α),va=.int .i64 (A:Int)∧vb=.int .i64 ((A:Int)+2*(B:Int))∧A=q*(2*B)∧A≤n∧InS enc kk w blk off d.size w.heap.size (.func (.func g) #[] lb) (.func (.func sf) #[] sb) dj wr∧PermIn 0 n d dj∧HalfS lt B n q dj) (fun va _ _=>n-(intOf va).toNat)
     case atStart=>exact ⟨0,0,dk,rfl,by simp,by simp,by omega,HI.out,HPM.out,⟨by intro p hp;omega,fun p _ hp=>HBS.out p hp⟩⟩
     case round =>
      clear HI HPM HBS
      obtain ⟨q,A,dj,rfl,rfl,hA,hAn,hI,hpm,hhs⟩:=hrel
      have HI:=lH hI
      have HPM:=lH hpm
      have HHS:=lH hhs
      have HA:=lH hA
      have c0:=hI.c0
      have c1:=hI.c1
      have hsj:=hI.sz
      clear hI hpm hhs hA
      by_cases hle:A+2*B≤n
      ·have hlei:(A:Int)+2*(B:Int)≤(n:Int):=by omega
       have rc:=symmerge_s hk hS g lb sf sb eg blk off n A (A+B) (A+2*B) dj wr (by omega) (HI.out.lessReads HLESS.out) (by rw [hsj];exact HSWP.out) HI.out.holds HI.out.hlt (by omega) (by omega) (by omega) (by omega) (half_first HHS.out HA.out (by omega)) (half_second HHS.out HA.out (by omega) (by omega))
       rw [show ((A+B:Nat):Int)=(A:Int)+(B:Int) by omega,show ((A+2*B:Nat):Int)=(A:Int)+2*(B:Int) by omega] at rc
       go_wp2_with fail
       refine rc.mono ?_
       rintro e w1 ⟨rfl,n1,os1,d1,⟨p1,s1⟩,hw1⟩
       have hI1:InS enc kk w blk off d.size w.heap.size (.func (.func g) #[] lb) (.func (.func sf) #[] sb) d1 w1:=by rw [hw1];exact HI.out.on p1.1
       have REL:Hid (∃ (q A':Nat) (dj:Array α),Value.int .i64 ((A:Int)+2*(B:Int))=.int .i64 (A':Int)∧Value.int .i64 ((A:Int)+2*(B:Int)+2*(B:Int))=.int .i64 ((A':Int)+2*(B:Int))∧A'=q*(2*B)∧A'≤n∧InS enc kk w blk off d.size w.heap.size (.func (.func g) #[] lb) (.func (.func sf) #[] sb) dj w1∧PermIn 0 n d dj∧HalfS lt B n q dj):=lH
        ⟨q+1,A+2*B,d1,by congr 1,by congr 1,by rw [Nat.add_mul,Nat.one_mul,← HA.out],hle,hI1,permIn_trans _ _ _ _ _ HPM.out (permIn_mono _ _ _ _ _ _ (by omega) hle (by omega) p1),half_step HHS.out HA.out p1 s1⟩
       clear hw1 rc c0 c1 p1 s1 hI1
       go_wp2
       go_roundw
       case rel=>exact REL.out
       case measure=>simp [intOf];omega
      ·have hlei:¬ (A:Int)+2*(B:Int)≤(n:Int):=by omega
       by_cases hm:A+B<n
       ·have hmi:(A:Int)+(B:Int)<(n:Int):=by omega
        have rc:=symmerge_s hk hS g lb sf sb eg blk off n A (A+B) n dj wr (by omega) (HI.out.lessReads HLESS.out) (by rw [hsj];exact HSWP.out) HI.out.holds HI.out.hlt (by omega) (by omega) (by omega) (by omega) (half_first HHS.out HA.out (by omega)) (half_second HHS.out HA.out (by omega) (by omega))
        rw [show ((A+B:Nat):Int)=(A:Int)+(B:Int) by omega] at rc
        go_wp2_with fail
        refine rc.mono ?_
        rintro e w1 ⟨rfl,n1,os1,d1,⟨p1,s1⟩,hw1⟩
        have hI1:InS enc kk w blk off d.size w.heap.size (.func (.func g) #[] lb) (.func (.func sf) #[] sb) d1 w1:=by rw [hw1];exact HI.out.on p1.1
        have REL:Hid (∃ (B':Nat) (dk:Array α),Value.int .i64 ((B:Int)*2)=.int .i64 (B':Int)∧20≤B'∧B'<2305843009213693952∧InS enc kk w blk off d.size w.heap.size (.func (.func g) #[] lb) (.func (.func sf) #[] sb) dk w1∧PermIn 0 n d dk∧BlkS lt B' n dk):=lH
         ⟨B*2,d1,by congr 1,by omega,by omega,hI1,permIn_trans _ _ _ _ _ HPM.out (permIn_mono _ _ _ _ _ _ (by omega) (by omega) (by omega) p1),half_done HHS.out HA.out hAn (by omega) p1 s1⟩
        clear hw1 rc c0 c1 p1 s1 hI1
        go_wp2
        go_roundw
        case rel=>exact REL.out
        case measure=>simp [intOf];omega
       ·have hmi:¬ (A:Int)+(B:Int)<(n:Int):=by omega
        have REL:Hid (∃ (B':Nat) (dk:Array α),Value.int .i64 ((B:Int)*2)=.int .i64 (B':Int)∧20≤B'∧B'<2305843009213693952∧InS enc kk w blk off d.size w.heap.size (.func (.func g) #[] lb) (.func (.func sf) #[] sb) dk wr∧PermIn 0 n d dk∧BlkS lt B' n dk):=lH
         ⟨B*2,dj,by congr 1,by omega,by omega,HI.out,HPM.out,half_done HHS.out HA.out hAn (by omega) (permIn_refl _ _ _) (by
          obtain ⟨e1,e2⟩:=half_two HA.out
          have:=HHS.out.2 (2*q) (Nat.le_refl _) (by omega)
          rwa [e1,Nat.min_eq_right (by omega)] at this)⟩
        clear c0 c1
        go_wp2
        go_roundw
        case rel=>exact REL.out
        case measure=>simp [intOf];omega
    ·have hge:¬ (B:Int)<(n:Int):=by omega
     go_wp2
     go_end0
     refine HI.out.post ⟨HPM.out,?_⟩
     have:=HBS.out 0 (by omega)
     rwa [Nat.zero_mul,Nat.zero_add,Nat.min_eq_right (by omega)] at this
end
end Go.Proofs.YthcholmhmcpooaaGreatDoor
