/- Texts for TopBalanceProof. -/
import Derived.WalkKit
import Derived.WalkSpells
import Derived.WalkLawsBesides
import Derived.BigQuiet
import Derived.Lib.Hide
import Derived.Laws.AppendOwnNone
import Derived.Laws.CopyOwn
import Derived.Maps.AppendAt
import Derived.Deep.RegionHeld3
import Derived.Test.YthcholmhmcpooaaGreatDoorRows
import Derived.WalkArith
import Derived.Maps.OwnOps
import Derived.Maps.Views
import Derived.MapKept
import Derived.Maps.OwnSet
import Derived.WideKeyEntry
import Derived.Test.YthcholmhmcpooaaGreatDoorTie
import Derived.Test.YthcholmhmcpooaaGreatDoorCards
import Derived.Lib.LaidTab
import Derived.ChangeArms
import Derived.LaidMore
import Derived.Stop.Joined
import Derived.SevenTiedAt
import Derived.LaidSub
set_option linter.unusedSimpArgs false
set_option linter.unusedVariables false

namespace Go.Proofs.YthcholmhmcpooaaGreatDoor
open Go.RowKit
theorem lH {p:Prop} (h:p):Hid p:=Lib.hid h
theorem sA {α:Type _} (l:List α) (i:Nat) (a:α):l.toArray.setIfInBounds i a=(l.set i a).toArray:=List.setIfInBounds_toArray l i a
theorem sB {α:Type _} {x:α} {l:List α} {a:α}:(x::l).set 0 a=a::l:=List.set_cons_zero ..
theorem sC {α:Type _} {x:α} {l:List α} {n:Nat} {a:α}:(x::l).set (n+1) a=x::l.set n a:=List.set_cons_succ ..
structure Chg (S:Nat→Prop) (w w':World):Prop where
 os:w'.os=w.os
 tape:w'.tape=w.tape
 output:w'.output=w.output
 size:w.heap.size≤w'.heap.size
 block:∀ k,S k→w'.heap[k]?=w.heap[k]?
theorem Chg.refl (S:Nat→Prop) (w:World):Chg S w w:=⟨rfl,rfl,rfl,Nat.le_refl _,fun _ _=>rfl⟩
theorem Chg.trans {S:Nat→Prop} {w1 w2 w3:World} (h:Chg S w1 w2) (k:Chg S w2 w3):Chg S w1 w3 :=
 ⟨k.os.trans h.os,k.tape.trans h.tape,k.output.trans h.output,Nat.le_trans h.size k.size,fun i hi=>(k.block i hi).trans (h.block i hi)⟩
theorem Chg.mono {S S':Nat→Prop} {w w':World} (h:Chg S w w') (hs:∀ k,S' k→S k):Chg S' w w':=⟨h.os,h.tape,h.output,h.size,fun k hk=>h.block k (hs k hk)⟩
theorem Chg.below {S:Nat→Prop} {w w':World} (h:Chg S w w') {B:Nat} (hs:∀ k,k<B→S k):Below B w w':=⟨h.os,h.tape,h.output,h.size,fun k hk=>h.block k (hs k hk)⟩
theorem Chg.drewN {S:Nat→Prop} {w w':World} (h:Chg S w w') (n:Nat):Chg S w (w'.drewN n):=⟨h.os,h.tape,h.output,h.size,h.block⟩
theorem Chg.drew {S:Nat→Prop} {w w':World} (h:Chg S w w'):Chg S w (w'.drew):=⟨h.os,h.tape,h.output,h.size,h.block⟩
theorem Chg.setCell {S:Nat→Prop} {w w':World} (h:Chg S w w') {p:Addr} (v:Value) (hp:∀ k,S k→k≠p.block):Chg S w (w'.setCell p v) :=
 h.trans ⟨rfl,rfl,rfl,by simp [World.setCell],fun k hk=>Below.heap_setCell w' p v k (hp k hk)⟩
theorem Chg.alloc {S:Nat→Prop} {w w':World} (h:Chg S w w') (o:Obj) (hp:∀ k,S k→k<w'.heap.size):Chg S w (w'.alloc o) :=
 h.trans ⟨rfl,rfl,rfl,by simp,fun k hk=>Below.heap_alloc w' o k (hp k hk)⟩
theorem Chg.then {S S':Nat→Prop} {w w1 w2:World} (h:Chg S w w1) (k:Chg S' w1 w2) (hs:∀ k,S k→S' k):Chg S w w2:=h.trans (k.mono hs)
theorem Chg.next {w w1 w2:World} (h:Chg (· < w.heap.size) w w1) (k:Chg (· < w1.heap.size) w1 w2):Chg (· < w.heap.size) w w2 :=
 h.trans (k.mono (fun _ hk=>Nat.lt_of_lt_of_le hk h.size))
theorem Chg.cell {S:Nat→Prop} {w w':World} (h:Chg S w w') {p:Addr} (hp:S p.block):w'.cell? p=w.cell? p:=World.cell?_of_block (h.block _ hp)
theorem Chg.cellv {S:Nat→Prop} {w w':World} (h:Chg S w w') {p:Addr} {v:Value} (hv:w.cell? p=some v) (hp:S p.block):w'.cell? p=some v:=(h.cell hp).trans hv
theorem Chg.frozen {S:Nat→Prop} {w w':World} (h:Chg S w w') {p:Addr} (hp:S p.block):w'.frozen? p=w.frozen? p:=World.frozen?_of_block (h.block _ hp)
def TP (ty B:Nat) (w:World) (b:Nat):Prop :=
 ∃ (a:Option Addr) (cap i x o:Nat) (l:List Int),
  w.heap[b]?=some (.cells #[.slice a l.length cap,.int .i64 i] ty (0,0))∧b<B∧l.length≤600∧i≤l.length ∧
  (l=[]∨(a=some ⟨x,o,none⟩∧x≠b∧x<B∧∀ j,j<l.length→w.cell? ⟨x,o+j,none⟩=some (.int .i64 (l.getD j 0))))
theorem TP.chg {ty B:Nat} {w w':World} {b:Nat} (h:TP ty B w b) {S:Nat→Prop} (k:Chg S w w') (hs:∀ k,k<B→S k):TP ty B w' b:=by
 obtain ⟨a,cap,i,x,o,l,h1,h2,h3,h4,h5⟩:=h
 refine ⟨a,cap,i,x,o,l,?_,h2,h3,h4,?_⟩
 ·rw [k.block b (hs b h2)];exact h1
 ·rcases h5 with h5 | ⟨e1,e2,e3,e4⟩
  ·exact .inl h5
  ·exact .inr ⟨e1,e2,e3,fun j hj=>by rw [k.cell (p:=⟨x,o+j,none⟩) (hs x e3)];exact e4 j hj⟩
theorem TP.mono {ty B B':Nat} {w:World} {b:Nat} (h:TP ty B w b) (hB:B≤B'):TP ty B' w b:=by
 obtain ⟨a,cap,i,x,o,l,h1,h2,h3,h4,h5⟩:=h
 refine ⟨a,cap,i,x,o,l,h1,by omega,h3,h4,?_⟩
 rcases h5 with h5 | ⟨e1,e2,e3,e4⟩
 ·exact .inl h5
 ·exact .inr ⟨e1,e2,by omega,e4⟩
theorem TP.lt {ty B:Nat} {w:World} {b:Nat} (h:TP ty B w b):b<B:=by
 obtain ⟨a,cap,i,x,o,l,h1,h2,_⟩:=h
 exact h2
def Rd {α:Type} (sz:Nat) (enc:α→List Value) (S:Nat→Prop) (w:World) (a:Option Addr) (n:Nat) (l:List α):Prop :=
 l.length=n∧(n=0∨∃ x o,a=some ⟨x,o,none⟩∧S x∧∀ j y,l[j]?=some y→∀ c u,(enc y)[c]?=some u→w.cell? ⟨x,o+j*sz+c,none⟩=some u)
theorem Rd.chg {α:Type} {sz n:Nat} {S:Nat→Prop} {enc:α→List Value} {w w':World} {a:Option Addr} {l:List α} (h:Rd sz enc S w a n l) {S':Nat→Prop} (k:Chg S' w w') (hs:∀ k,S k→S' k):Rd sz enc S w' a n l:=by
 refine ⟨h.1,?_⟩
 rcases h.2 with h2 | ⟨x,o,e1,e2,e3⟩
 ·exact .inl h2
 ·exact .inr ⟨x,o,e1,e2,fun j y hj c u hu=>by rw [k.cell (p:=⟨x,_,none⟩) (hs x e2)];exact e3 j y hj c u hu⟩
theorem Rd.mono {α:Type} {sz n:Nat} {S S':Nat→Prop} {enc:α→List Value} {w:World} {a:Option Addr} {l:List α} (h:Rd sz enc S w a n l) (hS:∀ k,S k→S' k):Rd sz enc S' w a n l:=by
 refine ⟨h.1,?_⟩
 rcases h.2 with h2 | ⟨x,o,e1,e2,e3⟩
 ·exact .inl h2
 ·exact .inr ⟨x,o,e1,hS x e2,e3⟩
theorem Rd.nil {α:Type} (sz:Nat) (enc:α→List Value) (S:Nat→Prop) (w:World) (a:Option Addr):Rd sz enc S w a 0 []:=⟨rfl,.inl rfl⟩
theorem Rd.at {α:Type} {sz n:Nat} {S:Nat→Prop} {enc:α→List Value} {w:World} {a:Option Addr} {l:List α} (h:Rd sz enc S w a n l) {j:Nat} (hj:j<n) :
  ∃ x o y,a=some ⟨x,o,none⟩∧S x∧l[j]?=some y∧∀ c u,(enc y)[c]?=some u→w.cell? ⟨x,o+j*sz+c,none⟩=some u:=by
 obtain ⟨h1,h2⟩:=h
 rcases h2 with h2 | ⟨x,o,e1,e2,e3⟩
 ·omega
 ·exact ⟨x,o,l[j]'(by omega),e1,e2,by simp,e3 j _ (by simp)⟩
def encS (s:Int×Int):List Value:=[.int .i64 s.1,.int .i64 s.2]
theorem heap_set {w:World} {k:Nat} {cs:Array Value} {ty:TypeId} {fr:Nat×Nat} (h:w.heap[k]?=some (.cells cs ty fr)) (o:Nat) (v:Value) :
  (w.setCell ⟨k,o,none⟩ v).heap[k]?=some (.cells (cs.setIfInBounds o v) ty fr):=by simp [World.setCell,Array.getElem?_modify,h]
theorem heap_set_ne {w:World} {k:Nat} {p:Addr} {v:Value} {x:Option Obj} (h:w.heap[k]?=x) (hk:k≠p.block):(w.setCell p v).heap[k]?=x:=(Below.heap_setCell w p v k hk).trans h
theorem heap_new (w:World) (o:Obj):(w.alloc o).heap[w.heap.size]?=some o:=by show (w.heap.push o)[w.heap.size]?=_;simp
theorem heap_lt {w:World} {k:Nat} {x:Obj} (h:w.heap[k]?=some x):k<w.heap.size:=(Array.getElem?_eq_some_iff.1 h).1
theorem flat_at {α:Type} {sz:Nat} {enc:α→List Value} (hsz:∀ y,(enc y).length=sz):∀ (l:List α) (j:Nat) (y:α),l[j]?=some y→∀ c u,(enc y)[c]?=some u→(l.flatMap enc)[j*sz+c]?=some u
 | [],_,_,h,_,_,_=>by simp at h
 | x::r,0,y,h,c,u,hu=>by
  simp at h;subst h
  rw [List.flatMap_cons,Nat.zero_mul,Nat.zero_add,List.getElem?_append_left (List.getElem?_eq_some_iff.1 hu).1];exact hu
 | x::r,j+1,y,h,c,u,hu=>by
  have h':r[j]?=some y:=by simpa using h
  have:=flat_at hsz r j y h' c u hu
  rw [List.flatMap_cons,List.getElem?_append_right (by rw [hsz];rw [Nat.succ_mul];omega),hsz]
  rw [show (j+1)*sz+c-sz=j*sz+c by rw [Nat.succ_mul];omega]
  exact this
theorem Rd.block {α:Type} {sz k n:Nat} {enc:α→List Value} {w:World} {cs:Array Value} {ty:TypeId} {fr:Nat×Nat} (l:List α) (h:w.heap[k]?=some (.cells cs ty fr)) (hn:l.length=n) (hsz:∀ y,(enc y).length=sz)
  (hc:∀ (i:Nat) (u:Value),(l.flatMap enc)[i]?=some u→cs[i]?=some u):Rd sz enc (· = k) w (some ⟨k,0,none⟩) n l:=by
 refine ⟨hn,.inr ⟨k,0,rfl,rfl,fun j y hj c u hu=>?_⟩⟩
 have:=hc _ _ (flat_at hsz l j y hj c u hu)
 simp [World.cell?,h,this]
theorem Rd.lit {α:Type} {sz n s:Nat} {S:Nat→Prop} {enc:α→List Value} {w:World} {cs:Array Value} {ty:TypeId} (l:List α) (hs:s=w.heap.size) (hS:S w.heap.size) (hn:l.length=n) (hsz:∀ y,(enc y).length=sz) (hc:cs=(l.flatMap enc).toArray):Rd sz enc S (w.alloc (.cells cs ty)) (some ⟨s,0,none⟩) n l:=by
 subst hs hc
 exact (Rd.block l (heap_new w _) hn hsz (fun i u h=>by simpa using h)).mono (by intro k hk;subst hk;exact hS)
def encI (x:Int):List Value:=[.int .i64 x]
def OwnL {α:Type} (sz:Nat) (enc:α→List Value) (e:TypeId) (base:Nat) (w:World) (v:Value) (l:List α):Prop:=w.ownsRow base e sz v l.length (l.flatMap enc)
theorem OwnL.nil {α:Type} (sz:Nat) (enc:α→List Value) (e:TypeId) (base:Nat) (w:World):OwnL sz enc e base w (.slice none 0 0) []:=World.ownsRow_nil w base e sz
theorem OwnL.chg {α:Type} {sz e base:Nat} {enc:α→List Value} {w w':World} {v:Value} {l:List α} (h:OwnL sz enc e base w v l) {S:Nat→Prop} (k:Chg S w w') (hs:∀ k,k<w.heap.size→v.ownBlock=some k→S k):OwnL sz enc e base w' v l:=by
 refine ⟨h.1,?_⟩
 rcases h.2 with hn | ⟨g,cap,cur,rfl,hb,hg,rest⟩
 ·exact .inl hn
 ·exact .inr ⟨g,cap,cur,rfl,hb,(k.block g (hs g (heap_lt hg) rfl)).trans hg,rest⟩
theorem OwnL.alloc {α:Type} {sz e base:Nat} {enc:α→List Value} {w:World} {v:Value} {l:List α} (h:OwnL sz enc e base w v l) (o:Obj):OwnL sz enc e base (w.alloc o) v l :=
 h.chg ((Chg.refl (· < w.heap.size) w).alloc o (fun _ h=>h)) (fun _ h _=>h)
theorem OwnL.rd {α:Type} {sz e base:Nat} {enc:α→List Value} {w:World} {v:Value} {l:List α} (h:OwnL sz enc e base w v l) (hsz:∀ y,(enc y).length=sz) :
  ∃ a cap,v=.slice a l.length cap∧Rd sz enc (fun k=>base≤k∧k<w.heap.size) w a l.length l∧l.length≤cap∧cap≤maxLen∧(l≠[]→∃ g,a=some ⟨g,0,none⟩∧base≤g):=by
 rcases h.2 with ⟨rfl,hn⟩ | ⟨g,cap,cur,rfl,hb,hg,h1,h2,h3,h4⟩
 ·have:l=[]:=List.eq_nil_of_length_eq_zero hn
  subst this
  exact ⟨none,0,rfl,Rd.nil _ _ _ _ _,by simp,by unfold maxLen;omega,fun h=>absurd rfl h⟩
 ·refine ⟨_,cap,rfl,(Rd.block l hg rfl hsz (fun i u hu=>?_)).mono (fun k hk=>by subst hk;exact ⟨hb,heap_lt hg⟩),h1,h2,fun _=>⟨g,rfl,hb⟩⟩
  rw [← h4,List.getElem?_take] at hu
  split at hu
  ·simpa using hu
  ·cases hu
theorem wpList_append_lit {P:Program} {α:Type} {enc:α→List Value} {ops:Array Oper} {rest:List Oper} {o:Oper} {a:Act} {Q:Exit→Act→World→Prop} (w0:World) (hgd:o.guard=none) (s x:Operand) (t:TypeId)
  (ho:o.op=.call { callee:=.builtin .append,args:=#[s,x],argTypes:=#[t,t] })
  (base:Nat) (e:TypeId) (z:Value) (sz bytes:Nat) (ht:P.underlying t=some (.slice e)) (hi:(P.info? e).map (fun i=>(i.zero,i.size,i.bytes))=some (some z,sz,bytes))
  (hzs:z.cells.size=sz) (hsz:0<sz) (hby:bytes≤65536)
  (v:Value) (l:List α) (hown:OwnL sz enc e base w0 v l) (hs:a.eval s=v) (y:α) (A:Array Value) (hA:A=(enc y).toArray) (hlen:(enc y).length=sz) (h1:∀ u∈enc y,u.oneCell'=true)
  (k:Nat) (hk:k=w0.heap.size) (hx:a.eval x=.slice (some ⟨k,0,none⟩) 1 1) (hl:l.length≤1000000) (hbase:base≤w0.heap.size) (e':TypeId)
  (h:∀ v' w',OwnL sz enc e base w' v' (l++[y])→Chg (fun k=>k<w0.heap.size∧¬ v.ownBlock=some k) w0 w'→Chg (· < base) w0 w'→w0.heap.size<w'.heap.size→wpList P ops Q rest (a.put o.dst v') w') :
  wpList P ops Q (o::rest) a (w0.alloc (.cells A e')):=by
 subst hA hk
 obtain ⟨i,hi,hz0,hz1,hz2⟩:=info_parts hi
 have hmul:(l.length+1)*bytes≤1000001*65536:=Nat.mul_le_mul (by omega) hby
 refine wpList_append_own _ hgd s x t ho base e i z sz bytes ht hi hz0 hz1 hz2 hzs hsz v l.length (l.flatMap enc) hs (hown.alloc _) ⟨w0.heap.size,0,none⟩ 1 1 (enc y) hx (by simp [hlen]) ?_ h1 (by unfold maxLen;omega) (by omega) (by simp;omega) ?_
 ·intro j u hu
  rw [Addr.add_lit]
  simp only [Nat.zero_add]
  rw [World.cell?,heap_new]
  simpa using hu
 ·intro v' w' hown' hgrow hnil
  have hz':=hgrow.size
  simp at hz'
  have hch:Chg (fun k=>k<w0.heap.size∧¬ v.ownBlock=some k) w0 w':=⟨hgrow.os,hgrow.tape,hgrow.output,by omega,fun k hk=>by
   rw [hgrow.block k (by simp;omega) (fun h=>hk.2 h.symm)]
   exact Below.heap_alloc _ _ _ hk.1⟩
  refine h v' w' ?_ hch (hch.mono fun k hk=>⟨by omega,fun hv=>?_⟩) hz'
  ·unfold OwnL
   simpa [List.flatMap_append] using hown'
  ·have:=hown.lt k hv
   omega
theorem OwnL.empty {α:Type} {sz:Nat} {enc:α→List Value} {e:TypeId} {base s:Nat} {w:World} (hb:base≤w.heap.size) (hs:s=w.heap.size):OwnL sz enc e base (w.alloc (.cells #[] e)) (.slice (some ⟨s,0,none⟩) 0 0) ([]:List α):=by
 subst hs
 exact World.ownsRow_made w #[] 0 hb (by unfold maxLen;omega) (by simp)
theorem wpList_append_rd {P:Program} {α:Type} {enc:α→List Value} {ops:Array Oper} {rest:List Oper} {o:Oper} {a:Act} {Q:Exit→Act→World→Prop} (w0:World) (hgd:o.guard=none) (s x:Operand) (t:TypeId)
  (ho:o.op=.call { callee:=.builtin .append,args:=#[s,x],argTypes:=#[t,t] })
  (base:Nat) (e:TypeId) (z:Value) (sz bytes:Nat) (ht:P.underlying t=some (.slice e)) (hi:(P.info? e).map (fun i=>(i.zero,i.size,i.bytes))=some (some z,sz,bytes))
  (hzs:z.cells.size=sz) (hsz:0<sz) (hby:bytes≤65536)
  (v:Value) (l:List α) (hown:OwnL sz enc e base w0 v l) (hs:a.eval s=v) (S:Nat→Prop) (A:Option Addr) (n c:Nat) (news:List α) (hrd:Rd sz enc S w0 A n news) (hA:A=none→c=0) (hlen:∀ y,(enc y).length=sz) (h1:∀ y,∀ u∈enc y,u.oneCell'=true)
  (hx:a.eval x=.slice A n c) (hl:l.length≤1000000) (hn:n≤1000000) (hbase:base≤w0.heap.size)
  (h:∀ v' w',OwnL sz enc e base w' v' (l++news)→Chg (fun k=>k<w0.heap.size∧¬ v.ownBlock=some k) w0 w'→Chg (· < base) w0 w'→wpList P ops Q rest (a.put o.dst v') w') :
  wpList P ops Q (o::rest) a w0:=by
 obtain ⟨i,hi,hz0,hz1,hz2⟩:=info_parts hi
 have hmul:(l.length+n)*bytes≤2000000*65536:=Nat.mul_le_mul (by omega) hby
 have hnl:=hrd.1
 cases A with
 | none =>
  have hc:=hA rfl
  have hn0:n=0:=by
   rcases hrd.2 with h0 | ⟨x,o,e1,_⟩
   ·exact h0
   ·cases e1
  subst hn0 hc
  have hnews:news=[]:=List.eq_nil_of_length_eq_zero hnl
  subst hnews
  refine wpList_append_own_none hgd s x t ho base e i sz ht hi v l.length (l.flatMap enc) hs hown hx ?_
  exact h v w0 (by simpa using hown) (Chg.refl _ _) (Chg.refl _ _)
 | some ad =>
  refine wpList_append_own _ hgd s x t ho base e i z sz bytes ht hi hz0 hz1 hz2 hzs hsz v l.length (l.flatMap enc) hs hown ad n c (news.flatMap enc) hx ?_ ?_ ?_ (by unfold maxLen;omega) (by omega) hbase ?_
  ·have:∀ l:List α,(l.flatMap enc).length=l.length*sz:=by
    intro l
    induction l with
    | nil=>simp
    | cons y r ih=>rw [List.flatMap_cons,List.length_append,hlen,ih,List.length_cons,Nat.succ_mul];omega
   rw [this,hnl]
  ·intro j u hu
   have hj:=(List.getElem?_eq_some_iff.1 hu).1
   rcases hrd.2 with h0 | ⟨x,o,e1,_,e3⟩
   ·subst h0
    have:news=[]:=List.eq_nil_of_length_eq_zero hnl
    subst this
    simp at hj
   ·cases e1
    rw [Addr.add_lit]
    have hdiv:∃ y,news[j / sz]?=some y∧(enc y)[j % sz]?=some u:=by
     clear e3 hmul hown h hx hrd
     induction news generalizing j n with
     | nil=>simp at hu
     | cons y r ih =>
      rw [List.flatMap_cons] at hu
      by_cases hlt:j<sz
      ·rw [List.getElem?_append_left (by rw [hlen];exact hlt)] at hu
       exact ⟨y,by rw [Nat.div_eq_of_lt hlt];rfl,by rw [Nat.mod_eq_of_lt hlt];exact hu⟩
      ·rw [List.getElem?_append_right (by rw [hlen];omega),hlen] at hu
       obtain ⟨y',h1',h2'⟩:=ih (n:=n-1) (j:=j-sz) (by omega) (by simp at hnl;omega) hu (List.getElem?_eq_some_iff.1 hu).1
       have e1:j / sz=(j-sz) / sz+1:=by
        rw [Nat.div_eq_sub_div hsz (by omega)]
       have e2:j % sz=(j-sz) % sz:=by
        rw [Nat.mod_eq_sub_mod (by omega)]
       exact ⟨y',by rw [e1];simpa using h1',by rw [e2];exact h2'⟩
    obtain ⟨y,hy1,hy2⟩:=hdiv
    have:=e3 _ y hy1 _ u hy2
    rw [Nat.add_assoc,Nat.mul_comm,Nat.div_add_mod] at this
    exact this
  ·intro u hu
   obtain ⟨y,_,hy⟩:=List.mem_flatMap.1 hu
   exact h1 y u hy
  ·intro v' w' hown' hgrow hnil
   have hch:Chg (fun k=>k<w0.heap.size∧¬ v.ownBlock=some k) w0 w':=⟨hgrow.os,hgrow.tape,hgrow.output,hgrow.size,fun k hk=>hgrow.block k hk.1 (fun h=>hk.2 h.symm)⟩
   refine h v' w' ?_ hch (hch.mono fun k hk=>⟨by omega,fun hv=>?_⟩)
   ·unfold OwnL
    simpa [List.flatMap_append,hnl] using hown'
   ·have:=hown.lt k hv
    omega
theorem quiet_of_eq {P:Program} {f:FuncId} {args:Array Value} {w:World} {n:Nat} {v:Value}
  (h:Calls P f args (w.drewN n) fun e w'=>e=.returned v∧w.drewN n=w'):Calls P f args (w.drewN n) fun e w''=>e=.returned v∧∃ m,w''=w.drewN m :=
 h.mono fun _ _ ⟨he,hm⟩=>⟨he,n,hm.symm⟩
theorem tmod_bounds (v n:Int) (hn:1≤n):-n<v.tmod n∧v.tmod n<n:=by
 refine ⟨?_,Int.tmod_lt_of_pos v (by omega)⟩
 have:=Int.tmod_lt_of_pos (-v) (show 0<n by omega)
 rw [Int.neg_tmod] at this
 omega
theorem emod_of_tmod (v n:Int) (hn:1≤n):v % n=if v.tmod n<0 then v.tmod n+n else v.tmod n:=by
 obtain ⟨h1,h2⟩:=tmod_bounds v n hn
 have h3:=Int.tmod_eq_emod (a:=v) (b:=n)
 have h4:=Int.emod_nonneg v (show n≠0 by omega)
 have h5:=Int.emod_lt_of_pos v (show 0<n by omega)
 have h6:(n.natAbs:Int)=n:=by omega
 split at h3<;>split<;>omega
def SomeInt (lo hi:Int) (ty B b:Nat) (w:World) (e:Ending) (w':World):Prop :=
 ∃ r:Int,e=.returned (.int .i64 r)∧lo≤r∧r≤hi∧Chg (fun k=>k<w.heap.size∧k≠b) w w'∧TP ty B w' b
def Ex (w w':World):Prop:=Chg (· < w.heap.size) w w'
def Exb (b:Nat) (w w':World):Prop:=Chg (fun k=>k<w.heap.size∧k≠b) w w'
theorem Ex.refl (w:World):Ex w w:=Chg.refl _ w
theorem Exb.refl (b:Nat) (w:World):Exb b w w:=Chg.refl _ w
theorem Ex.size {w w':World} (k:Ex w w'):w.heap.size≤w'.heap.size:=Chg.size k
theorem Exb.size {b:Nat} {w w':World} (k:Exb b w w'):w.heap.size≤w'.heap.size:=Chg.size k
theorem Ex.nx {w w1 w2:World} (h:Ex w w1) (k:Ex w1 w2):Ex w w2:=Chg.next h k
theorem Exb.nxb {b:Nat} {w w1 w2:World} (h:Exb b w w1) (k:Exb b w1 w2):Exb b w w2 :=
 Chg.trans h (Chg.mono k (fun _ hk=>⟨Nat.lt_of_lt_of_le hk.1 h.size,hk.2⟩))
theorem Ex.b {w w':World} (k:Ex w w') (b:Nat):Exb b w w':=Chg.mono k (fun _ h=>h.1)
theorem Exb.b {b:Nat} {w w':World} (k:Exb b w w') (_:Nat):Exb b w w':=k
def Exl (b:Nat) (w w':World):Prop:=Ex w w'∧w.heap.size≤b
theorem Exl.nxb {b:Nat} {w w1 w2:World} (h:Exl b w w1) (k:Exb b w1 w2):Exl b w w2 :=
 ⟨Chg.trans h.1 (Chg.mono k (fun _ hk=>⟨Nat.lt_of_lt_of_le hk h.1.size,by have:=h.2;omega⟩)),h.2⟩
theorem Exl.nx {b:Nat} {w w1 w2:World} (h:Exl b w w1) (k:Ex w1 w2):Exl b w w2:=⟨h.1.nx k,h.2⟩
theorem Exl.size {b:Nat} {w w':World} (h:Exl b w w'):w.heap.size≤w'.heap.size:=h.1.size
theorem Ex.alloc {w w':World} (h:Ex w w') (o:Obj):Ex w (w'.alloc o):=Chg.alloc h o (fun _ hk=>Nat.lt_of_lt_of_le hk h.size)
theorem Exb.alloc {b:Nat} {w w':World} (h:Exb b w w') (o:Obj):Exb b w (w'.alloc o):=Chg.alloc h o (fun _ hk=>Nat.lt_of_lt_of_le hk.1 h.size)
theorem Ex.new (w:World) (o:Obj):Ex w (w.alloc o):=(Ex.refl w).alloc o
theorem Ex.drew {w w':World} (h:Ex w w'):Ex w w'.drew:=Chg.drew h
theorem Exb.drew {b:Nat} {w w':World} (h:Exb b w w'):Exb b w w'.drew:=Chg.drew h
theorem Ex.drewN {w w':World} (h:Ex w w') (n:Nat):Ex w (w'.drewN n):=Chg.drewN h n
theorem Ex.setNew {w w':World} (h:Ex w w') {p:Addr} (v:Value) (hp:w.heap.size≤p.block):Ex w (w'.setCell p v):=Chg.setCell h v (fun k (hk:k<w.heap.size)=>by omega)
theorem Exb.setNew {b:Nat} {w w':World} (h:Exb b w w') {p:Addr} (v:Value) (hp:w.heap.size≤p.block):Exb b w (w'.setCell p v):=Chg.setCell h v (fun k (hk:k<w.heap.size∧k≠b)=>by omega)
theorem Exb.setB {b:Nat} {w w':World} (h:Exb b w w') {p:Addr} (v:Value) (hp:p.block=b):Exb b w (w'.setCell p v):=Chg.setCell h v (fun k (hk:k<w.heap.size∧k≠b)=>by rw [hp];exact hk.2)
theorem Ex.of_exb {b:Nat} {w w':World} (h:Exb b w w') (hb:w.heap.size≤b):Ex w w':=Chg.mono h (fun k (hk:k<w.heap.size)=>⟨hk,by omega⟩)
def Sl {α:Type} (sz:Nat) (enc:α→List Value) (w:World) (a:Option Addr) (n:Nat) (l:List α):Prop:=Rd sz enc (· < w.heap.size) w a n l
def Slb {α:Type} (sz:Nat) (enc:α→List Value) (b:Nat) (w:World) (a:Option Addr) (n:Nat) (l:List α):Prop:=Rd sz enc (fun k=>k<w.heap.size∧k≠b) w a n l
def Slf {α:Type} (sz:Nat) (enc:α→List Value) (w0 w:World) (a:Option Addr) (n:Nat) (l:List α):Prop:=Rd sz enc (fun k=>w0.heap.size≤k∧k<w.heap.size) w a n l
section
variable {α:Type} {sz n b:Nat} {enc:α→List Value} {w w' w0:World} {a:Option Addr} {l:List α}
theorem Sl.nx (h:Sl sz enc w a n l) (k:Ex w w'):Sl sz enc w' a n l :=
 (Rd.chg h k (fun _ hk=>hk)).mono (fun _ hk=>Nat.lt_of_lt_of_le hk k.size)
theorem Slb.nxb (h:Slb sz enc b w a n l) (k:Exb b w w'):Slb sz enc b w' a n l :=
 (Rd.chg h k (fun _ hk=>hk)).mono (fun _ hk=>⟨Nat.lt_of_lt_of_le hk.1 k.size,hk.2⟩)
theorem Slf.nx (h:Slf sz enc w0 w a n l) (k:Ex w w'):Slf sz enc w0 w' a n l :=
 (Rd.chg h k (fun _ hk=>hk.2)).mono (fun _ hk=>⟨hk.1,Nat.lt_of_lt_of_le hk.2 k.size⟩)
theorem Slb.sl (h:Slb sz enc b w a n l):Sl sz enc w a n l:=Rd.mono h (fun _ hk=>hk.1)
theorem Slf.sl (h:Slf sz enc w0 w a n l):Sl sz enc w a n l:=Rd.mono h (fun _ hk=>hk.2)
theorem Slf.slb (h:Slf sz enc w0 w a n l) (hb:b<w0.heap.size):Slb sz enc b w a n l:=Rd.mono h (fun k hk=>⟨hk.2,by have:=hk.1;omega⟩)
theorem Sl.slb (h:Sl sz enc w a n l) (hb:w.heap.size≤b):Slb sz enc b w a n l:=Rd.mono h (fun k hk=>⟨hk,by have:k<w.heap.size:=hk;omega⟩)
theorem Slf.old (h:Slf sz enc w' w a n l) (hw:w0.heap.size≤w'.heap.size):Slf sz enc w0 w a n l:=Rd.mono h (fun k hk=>⟨Nat.le_trans hw hk.1,hk.2⟩)
theorem Sl.len (h:Sl sz enc w a n l):l.length=n:=h.1
theorem Slb.len (h:Slb sz enc b w a n l):l.length=n:=h.1
theorem Slf.len (h:Slf sz enc w0 w a n l):l.length=n:=h.1
theorem Sl.nil (sz:Nat) (enc:α→List Value) (w:World) (a:Option Addr):Sl sz enc w a 0 []:=Rd.nil _ _ _ _ _
theorem Slb.nil (sz:Nat) (enc:α→List Value) (b:Nat) (w:World) (a:Option Addr):Slb sz enc b w a 0 []:=Rd.nil _ _ _ _ _
theorem Slf.nil (sz:Nat) (enc:α→List Value) (w0 w:World) (a:Option Addr):Slf sz enc w0 w a 0 []:=Rd.nil _ _ _ _ _
theorem Sl.at (h:Sl sz enc w a n l) {j:Nat} (hj:j<n):∃ x o y,a=some ⟨x,o,none⟩∧x<w.heap.size∧l[j]?=some y∧∀ c u,(enc y)[c]?=some u→w.cell? ⟨x,o+j*sz+c,none⟩=some u:=Rd.at h hj
theorem Sl.lit {s:Nat} {cs:Array Value} {ty:TypeId} (l:List α) (hs:s=w.heap.size) (hn:l.length=n) (hsz:∀ y,(enc y).length=sz) (hc:cs=(l.flatMap enc).toArray):Sl sz enc (w.alloc (.cells cs ty)) (some ⟨s,0,none⟩) n l :=
 Rd.lit l hs (by simp) hn hsz hc
theorem Slf.lit {s:Nat} {cs:Array Value} {ty:TypeId} (l:List α) (hs:s=w.heap.size) (hw:w0.heap.size≤w.heap.size) (hn:l.length=n) (hsz:∀ y,(enc y).length=sz) (hc:cs=(l.flatMap enc).toArray):Slf sz enc w0 (w.alloc (.cells cs ty)) (some ⟨s,0,none⟩) n l :=
 Rd.lit l hs (by simp;exact hw) hn hsz hc
theorem Rd.take {S:Nat→Prop} {m:Nat} (h:Rd sz enc S w a n l) (hm:m≤n):Rd sz enc S w a m (l.take m):=by
 refine ⟨by have:=h.1;simp;omega,?_⟩
 rcases h.2 with h2 | ⟨x,o,e1,e2,e3⟩
 ·exact .inl (by omega)
 ·refine .inr ⟨x,o,e1,e2,fun j y hj c u hu=>e3 j y ?_ c u hu⟩
  rw [List.getElem?_take] at hj
  split at hj
  ·exact hj
  ·cases hj
theorem Sl.take {m:Nat} (h:Sl sz enc w a n l) (hm:m≤n):Sl sz enc w a m (l.take m):=Rd.take h hm
theorem Rd.drop {S:Nat→Prop} {x o m:Nat} (h:Rd sz enc S w (some ⟨x,o,none⟩) n l) (hm:m≤n):Rd sz enc S w (some ⟨x,o+m*sz,none⟩) (n-m) (l.drop m):=by
 refine ⟨by have:=h.1;simp;omega,?_⟩
 rcases h.2 with h2 | ⟨x',o',e1,e2,e3⟩
 ·exact .inl (by omega)
 ·cases e1
  refine .inr ⟨_,_,rfl,e2,fun j y hj c u hu=>?_⟩
  rw [List.getElem?_drop] at hj
  have:=e3 (m+j) y hj c u hu
  rw [Nat.add_mul] at this
  rw [← this];congr 2;omega
theorem Sl.drop {x o m:Nat} (h:Sl sz enc w (some ⟨x,o,none⟩) n l) (hm:m≤n):Sl sz enc w (some ⟨x,o+m*sz,none⟩) (n-m) (l.drop m):=Rd.drop h hm
end
theorem OwnL.nx {α:Type} {sz e base:Nat} {enc:α→List Value} {w w':World} {v:Value} {l:List α} (h:OwnL sz enc e base w v l) (k:Ex w w'):OwnL sz enc e base w' v l:=h.chg k (fun _ hk _=>hk)
theorem OwnL.nxb {α:Type} {sz e base b:Nat} {enc:α→List Value} {w w':World} {v:Value} {l:List α} (h:OwnL sz enc e base w v l) (hb:b<base) (k:Exb b w w'):OwnL sz enc e base w' v l:=h.chg k (fun x hx hv=>⟨hx,by have:=(h.lt x hv).1;omega⟩)
theorem OwnL.slf {α:Type} {sz e:Nat} {enc:α→List Value} {w0 w:World} {v:Value} {l:List α} (h:OwnL sz enc e w0.heap.size w v l) (hsz:∀ y,(enc y).length=sz) :
  ∃ a cap,v=.slice a l.length cap∧Slf sz enc w0 w a l.length l∧l.length≤cap∧cap≤maxLen∧(a=none→cap=0):=by
 have hd:∀ a n c,v=.slice a n c→a=none→c=0:=by
  intro a n c he hn
  rcases h.2 with ⟨h0,_⟩ | ⟨g,cap,cur,h0,_⟩
  ·rw [h0] at he;cases he;rfl
  ·rw [h0] at he;cases he;cases hn
 obtain ⟨a,cap,rfl,h1,h2,h3,_⟩:=h.rd hsz
 exact ⟨a,cap,rfl,h1,h2,h3,hd a _ _ rfl⟩
theorem OwnL.base {α:Type} {sz e base base':Nat} {enc:α→List Value} {w:World} {v:Value} {l:List α} (h:OwnL sz enc e base w v l) (hb:base'≤base):OwnL sz enc e base' w v l:=by
 refine ⟨h.1,?_⟩
 rcases h.2 with h2 | ⟨g,cap,cur,e1,e2,rest⟩
 ·exact .inl h2
 ·exact .inr ⟨g,cap,cur,e1,by omega,rest⟩
def TT (ty:Nat) (w:World) (b:Nat):Prop:=TP ty w.heap.size w b
theorem TT.nxb {ty b b':Nat} {w w':World} (h:TT ty w b) (k:Ex w w') (_:b'=b):TT ty w' b:=(TP.chg h k (fun _ hk=>hk)).mono k.size
theorem TT.nx {ty b:Nat} {w w':World} (h:TT ty w b) (k:Ex w w'):TT ty w' b:=(TP.chg h k (fun _ hk=>hk)).mono k.size
theorem TT.lt {ty b:Nat} {w:World} (h:TT ty w b):b<w.heap.size:=TP.lt h
def Blk (w:World) (k:Nat) (cs:List Value) (ty:TypeId):Prop:=w.heap[k]?=some (.cells cs.toArray ty (0,0))
theorem Blk.nx {w w':World} {g:Nat} {cs:List Value} {ty:TypeId} (h:Blk w g cs ty) (k:Ex w w'):Blk w' g cs ty:=(Chg.block k g (heap_lt h)).trans h
theorem Blk.nxb {w w':World} {b g:Nat} {cs:List Value} {ty:TypeId} (h:Blk w g cs ty) (hb:g≠b) (k:Exb b w w'):Blk w' g cs ty:=(Chg.block k g ⟨heap_lt h,hb⟩).trans h
theorem Blk.lt {w:World} {g:Nat} {cs:List Value} {ty:TypeId} (h:Blk w g cs ty):g<w.heap.size:=heap_lt h
theorem Blk.new (w:World) (cs:List Value) (ty:TypeId):Blk (w.alloc (.cells cs.toArray ty)) w.heap.size cs ty:=heap_new w _
theorem Blk.cell {w:World} {g:Nat} {cs:List Value} {ty:TypeId} (h:Blk w g cs ty) (j:Nat) (v:Value) (hv:cs[j]?=some v):w.cell? ⟨g,j,none⟩=some v:=by
 unfold Blk at h;simp [World.cell?,h,hv]
theorem Blk.free {w:World} {g:Nat} {cs:List Value} {ty:TypeId} (h:Blk w g cs ty) (j:Nat):w.frozen? ⟨g,j,none⟩=false:=by
 unfold Blk at h;simp [World.frozen?,h]
theorem Blk.set {w:World} {g:Nat} {cs:List Value} {ty:TypeId} (h:Blk w g cs ty) (j:Nat) (v:Value):Blk (w.setCell ⟨g,j,none⟩ v) g (cs.set j v) ty:=by
 have:=heap_set h j v
 unfold Blk
 rw [this];simp
theorem Blk.set_ne {w:World} {g g' j:Nat} {cs:List Value} {ty:TypeId} (h:Blk w g cs ty) (v:Value) (hne:g≠g'):Blk (w.setCell ⟨g',j,none⟩ v) g cs ty:=heap_set_ne h hne
section
variable {α:Type} {sz:Nat} {enc:α→List Value}
theorem flatN_len (hsz:∀ y,(enc y).length=sz) (l:List α):(l.flatMap enc).length=l.length*sz:=by
 induction l with
 | nil=>simp
 | cons y r ih=>rw [List.flatMap_cons,List.length_append,hsz,ih,List.length_cons,Nat.succ_mul];omega
theorem flatN_take (hsz:∀ y,(enc y).length=sz):∀ (l:List α) (m:Nat),(l.take m).flatMap enc=(l.flatMap enc).take (m*sz)
 | [],m=>by simp
 | y::r,0=>by simp
 | y::r,m+1=>by
  rw [List.take_succ_cons,List.flatMap_cons,List.flatMap_cons,flatN_take hsz r m,Nat.succ_mul,Nat.add_comm (m*sz),List.take_append,hsz,
   List.take_of_length_le (l:=enc y) (by rw [hsz];omega),Nat.add_sub_cancel_left]
theorem flatN_drop (hsz:∀ y,(enc y).length=sz):∀ (l:List α) (m:Nat),(l.drop m).flatMap enc=(l.flatMap enc).drop (m*sz)
 | [],m=>by simp
 | y::r,0=>by simp
 | y::r,m+1=>by
  rw [List.drop_succ_cons,List.flatMap_cons,flatN_drop hsz r m,Nat.succ_mul,Nat.add_comm (m*sz),List.drop_append,hsz,
   List.drop_of_length_le (l:=enc y) (by rw [hsz];omega),Nat.add_sub_cancel_left,List.nil_append]
end
theorem wp_append_none {P:Program} {w:World} {o:Oper} {a:Act} {K:Act→World→Prop} {Q:Exit→Act→World→Prop} (s x:Operand) (t:TypeId)
  (ho:o.op=.call { callee:=.builtin .append,args:=#[s,x],argTypes:=#[t,t] })
  (base:Nat) (e:TypeId) (i:TypeInfo) (size:Nat) (ht:P.underlying t=some (.slice e)) (hi:P.info? e=some i)
  (v:Value) (n:Nat) (xs:List Value) (hs:a.eval s=v) (hown:w.ownsRow base e size v n xs) (hx:a.eval x=.slice none 0 0)
  (h:K (a.put o.dst v) w):o.wp P a w K Q:=by
 have hrun:=run_append_owned_none (P:=P) (w:=w) base t o.type e i size ht hi v n xs hown
 unfold Oper.wp
 simp [execOp,ho,resolve,invoke,builtin,hs,hx,hrun,Result.andThen]
 exact h
theorem wp_append_rd {P:Program} {α:Type} {enc:α→List Value} {o:Oper} {a:Act} {K:Act→World→Prop} {Q:Exit→Act→World→Prop} (w0:World) (s x:Operand) (t:TypeId)
  (ho:o.op=.call { callee:=.builtin .append,args:=#[s,x],argTypes:=#[t,t] })
  (base:Nat) (e:TypeId) (z:Value) (sz bytes:Nat) (ht:P.underlying t=some (.slice e)) (hi:(P.info? e).map (fun i=>(i.zero,i.size,i.bytes))=some (some z,sz,bytes))
  (hzs:z.cells.size=sz) (hsz:0<sz) (hby:bytes≤65536)
  (v:Value) (l:List α) (hown:OwnL sz enc e base w0 v l) (hs:a.eval s=v) (S:Nat→Prop) (A:Option Addr) (n c:Nat) (news:List α) (hrd:Rd sz enc S w0 A n news) (hA:A=none→c=0) (hlen:∀ y,(enc y).length=sz) (h1:∀ y,∀ u∈enc y,u.oneCell'=true)
  (hx:a.eval x=.slice A n c) (hl:l.length≤100000000) (hn:n≤100000000) (hbase:base≤w0.heap.size)
  (h:∀ v' w',OwnL sz enc e base w' v' (l++news)→Chg (fun k=>k<w0.heap.size∧¬ v.ownBlock=some k) w0 w'→Chg (· < base) w0 w'→K (a.put o.dst v') w') :
  o.wp P a w0 K Q:=by
 obtain ⟨i,hi,hz0,hz1,hz2⟩:=info_parts hi
 have hmul:(l.length+n)*bytes≤200000000*65536:=Nat.mul_le_mul (by omega) hby
 have hnl:=hrd.1
 cases A with
 | none =>
  have hc:=hA rfl
  have hn0:n=0:=by
   rcases hrd.2 with h0 | ⟨x,o,e1,_⟩
   ·exact h0
   ·cases e1
  subst hn0 hc
  have hnews:news=[]:=List.eq_nil_of_length_eq_zero hnl
  subst hnews
  refine wp_append_none s x t ho base e i sz ht hi v l.length (l.flatMap enc) hs hown hx ?_
  exact h v w0 (by simpa using hown) (Chg.refl _ _) (Chg.refl _ _)
 | some ad =>
  refine wp_append_own _ s x t ho base e i z sz bytes ht hi hz0 hz1 hz2 hzs hsz v l.length (l.flatMap enc) hs hown ad n c (news.flatMap enc) hx ?_ ?_ ?_ (by unfold maxLen;omega) (by omega) hbase ?_
  ·have:∀ l:List α,(l.flatMap enc).length=l.length*sz:=by
    intro l
    induction l with
    | nil=>simp
    | cons y r ih=>rw [List.flatMap_cons,List.length_append,hlen,ih,List.length_cons,Nat.succ_mul];omega
   rw [this,hnl]
  ·intro j u hu
   have hj:=(List.getElem?_eq_some_iff.1 hu).1
   rcases hrd.2 with h0 | ⟨x,o,e1,_,e3⟩
   ·subst h0
    have:news=[]:=List.eq_nil_of_length_eq_zero hnl
    subst this
    simp at hj
   ·cases e1
    rw [Addr.add_lit]
    have hdiv:∃ y,news[j / sz]?=some y∧(enc y)[j % sz]?=some u:=by
     clear e3 hmul hown h hx hrd
     induction news generalizing j n with
     | nil=>simp at hu
     | cons y r ih =>
      rw [List.flatMap_cons] at hu
      by_cases hlt:j<sz
      ·rw [List.getElem?_append_left (by rw [hlen];exact hlt)] at hu
       exact ⟨y,by rw [Nat.div_eq_of_lt hlt];rfl,by rw [Nat.mod_eq_of_lt hlt];exact hu⟩
      ·rw [List.getElem?_append_right (by rw [hlen];omega),hlen] at hu
       obtain ⟨y',h1',h2'⟩:=ih (n:=n-1) (j:=j-sz) (by omega) (by simp at hnl;omega) hu (List.getElem?_eq_some_iff.1 hu).1
       have e1:j / sz=(j-sz) / sz+1:=by
        rw [Nat.div_eq_sub_div hsz (by omega)]
       have e2:j % sz=(j-sz) % sz:=by
        rw [Nat.mod_eq_sub_mod (by omega)]
       exact ⟨y',by rw [e1];simpa using h1',by rw [e2];exact h2'⟩
    obtain ⟨y,hy1,hy2⟩:=hdiv
    have:=e3 _ y hy1 _ u hy2
    rw [Nat.add_assoc,Nat.mul_comm,Nat.div_add_mod] at this
    exact this
  ·intro u hu
   obtain ⟨y,_,hy⟩:=List.mem_flatMap.1 hu
   exact h1 y u hy
  ·intro v' w' hown' hgrow hnil
   have hch:Chg (fun k=>k<w0.heap.size∧¬ v.ownBlock=some k) w0 w':=⟨hgrow.os,hgrow.tape,hgrow.output,hgrow.size,fun k hk=>hgrow.block k hk.1 (fun h=>hk.2 h.symm)⟩
   refine h v' w' ?_ hch (hch.mono fun k hk=>⟨by omega,fun hv=>?_⟩)
   ·unfold OwnL
    simpa [List.flatMap_append,hnl] using hown'
   ·have:=hown.lt k hv
    omega
theorem wp_append_own_at {P:Program} (w:World) {o:Oper} {a:Act} {K:Act→World→Prop} {Q:Exit→Act→World→Prop} (s x:Operand) (t:TypeId)
  (ho:o.op=.call { callee:=.builtin .append,args:=#[s,x],argTypes:=#[t,t] })
  (base:Nat) (e:TypeId) (i:TypeInfo) (z:Value) (size bytes:Nat) (ht:P.underlying t=some (.slice e)) (hi:P.info? e=some i) (hz:i.zero=some z)
  (hsize:i.size=size) (hby:i.bytes=bytes) (hzs:z.cells.size=size) (hsz:0<size)
  (v:Value) (n:Nat) (xs:List Value) (hs:a.eval s=v) (hown:w.ownsRow base e size v n xs)
  (ad:Addr) (m c:Nat) (news:List Value) (hx:a.eval x=.slice (some ad) m c) (hl:news.length=m*size) (hnews:∀ j u,news[j]?=some u→w.cell? (ad.add j)=some u) (h1:∀ u∈news,u.oneCell'=true)
  (h63:n+m≤maxLen) (hbytes:(n+m)*bytes≤140737488355328) (hbase:base≤w.heap.size)
  (h:∀ v' w',w'.ownsRow base e size v' (n+m) (xs++news)→w.grownBy w' v.ownBlock→(v'=.slice none 0 0↔v=.slice none 0 0∧m=0)→(v'.ownBlock=v.ownBlock∨v'.ownBlock=some w.heap.size)→K (a.put o.dst v') w'):o.wp P a w K Q:=by
 obtain ⟨v',w',hr,h2,h3,h4,h5⟩:=run_append_own_at (P:=P) w base t o.type e i z size bytes ht hi hz hsize hby hzs hsz v n xs hown ad m c news hl hnews h1 h63 hbytes hbase
 unfold Oper.wp execOp
 simp only [ho,resolve,invoke,builtin,Sem.run_bind,Sem.run_pure,Result.andThen_ok,List.map_toArray,List.map_cons,List.map_nil,hs,hx,hr]
 exact h v' w' h2 h3 h4 h5
theorem wp_append_rda {P:Program} {α:Type} {enc:α→List Value} {o:Oper} {a:Act} {K:Act→World→Prop} {Q:Exit→Act→World→Prop} (w0:World) (s x:Operand) (t:TypeId)
  (ho:o.op=.call { callee:=.builtin .append,args:=#[s,x],argTypes:=#[t,t] })
  (base:Nat) (e:TypeId) (z:Value) (sz bytes:Nat) (ht:P.underlying t=some (.slice e)) (hi:(P.info? e).map (fun i=>(i.zero,i.size,i.bytes))=some (some z,sz,bytes))
  (hzs:z.cells.size=sz) (hsz:0<sz) (hby:bytes≤65536)
  (v:Value) (l:List α) (hown:OwnL sz enc e base w0 v l) (hs:a.eval s=v) (S:Nat→Prop) (A:Option Addr) (n c:Nat) (news:List α) (hrd:Rd sz enc S w0 A n news) (hA:A=none→c=0) (hlen:∀ y,(enc y).length=sz) (h1:∀ y,∀ u∈enc y,u.oneCell'=true)
  (hx:a.eval x=.slice A n c) (hl:l.length≤100000000) (hn:n≤100000000) (hbase:base≤w0.heap.size)
  (h:∀ v' w',OwnL sz enc e base w' v' (l++news)→Chg (fun k=>k<w0.heap.size∧¬ v.ownBlock=some k) w0 w'→Chg (· < base) w0 w'→(v'.ownBlock=v.ownBlock∨v'.ownBlock=some w0.heap.size)→K (a.put o.dst v') w') :
  o.wp P a w0 K Q:=by
 obtain ⟨i,hi,hz0,hz1,hz2⟩:=info_parts hi
 have hmul:(l.length+n)*bytes≤200000000*65536:=Nat.mul_le_mul (by omega) hby
 have hnl:=hrd.1
 cases A with
 | none =>
  have hc:=hA rfl
  have hn0:n=0:=by
   rcases hrd.2 with h0 | ⟨x,o,e1,_⟩
   ·exact h0
   ·cases e1
  subst hn0 hc
  have hnews:news=[]:=List.eq_nil_of_length_eq_zero hnl
  subst hnews
  refine wp_append_none s x t ho base e i sz ht hi v l.length (l.flatMap enc) hs hown hx ?_
  exact h v w0 (by simpa using hown) (Chg.refl _ _) (Chg.refl _ _) (.inl rfl)
 | some ad =>
  refine wp_append_own_at _ s x t ho base e i z sz bytes ht hi hz0 hz1 hz2 hzs hsz v l.length (l.flatMap enc) hs hown ad n c (news.flatMap enc) hx ?_ ?_ ?_ (by unfold maxLen;omega) (by omega) hbase ?_
  ·have:∀ l:List α,(l.flatMap enc).length=l.length*sz:=by
    intro l
    induction l with
    | nil=>simp
    | cons y r ih=>rw [List.flatMap_cons,List.length_append,hlen,ih,List.length_cons,Nat.succ_mul];omega
   rw [this,hnl]
  ·intro j u hu
   have hj:=(List.getElem?_eq_some_iff.1 hu).1
   rcases hrd.2 with h0 | ⟨x,o,e1,_,e3⟩
   ·subst h0
    have:news=[]:=List.eq_nil_of_length_eq_zero hnl
    subst this
    simp at hj
   ·cases e1
    rw [Addr.add_lit]
    have hdiv:∃ y,news[j / sz]?=some y∧(enc y)[j % sz]?=some u:=by
     clear e3 hmul hown h hx hrd
     induction news generalizing j n with
     | nil=>simp at hu
     | cons y r ih =>
      rw [List.flatMap_cons] at hu
      by_cases hlt:j<sz
      ·rw [List.getElem?_append_left (by rw [hlen];exact hlt)] at hu
       exact ⟨y,by rw [Nat.div_eq_of_lt hlt];rfl,by rw [Nat.mod_eq_of_lt hlt];exact hu⟩
      ·rw [List.getElem?_append_right (by rw [hlen];omega),hlen] at hu
       obtain ⟨y',h1',h2'⟩:=ih (n:=n-1) (j:=j-sz) (by omega) (by simp at hnl;omega) hu (List.getElem?_eq_some_iff.1 hu).1
       have e1:j / sz=(j-sz) / sz+1:=by
        rw [Nat.div_eq_sub_div hsz (by omega)]
       have e2:j % sz=(j-sz) % sz:=by
        rw [Nat.mod_eq_sub_mod (by omega)]
       exact ⟨y',by rw [e1];simpa using h1',by rw [e2];exact h2'⟩
    obtain ⟨y,hy1,hy2⟩:=hdiv
    have:=e3 _ y hy1 _ u hy2
    rw [Nat.add_assoc,Nat.mul_comm,Nat.div_add_mod] at this
    exact this
  ·intro u hu
   obtain ⟨y,_,hy⟩:=List.mem_flatMap.1 hu
   exact h1 y u hy
  ·intro v' w' hown' hgrow hnil hat
   have hch:Chg (fun k=>k<w0.heap.size∧¬ v.ownBlock=some k) w0 w':=⟨hgrow.os,hgrow.tape,hgrow.output,hgrow.size,fun k hk=>hgrow.block k hk.1 (fun h=>hk.2 h.symm)⟩
   refine h v' w' ?_ hch (hch.mono fun k hk=>⟨by omega,fun hv=>?_⟩) hat
   ·unfold OwnL
    simpa [List.flatMap_append,hnl] using hown'
   ·have:=hown.lt k hv
    omega
theorem wpAnyH_switch {P:Program} {md:Region.Mode} {ops:Array Oper} {Q:Exit→Act→World→Prop} {S S':World→Prop} (hS:∀ w,S' w→S w) :
  ∀ {fuel:Nat} {listed:Array Bool} {a:Act} {w:World},wpAnyH P md ops Q S' fuel listed a w→wpAnyH P md ops Q S fuel listed a w
 | 0,_,_,_,h=>h
 | fuel+1,_,_,_,h=>⟨h.1,fun i hi=>wpOp_mono (fun a' w' h'=>⟨hS w' h'.1,wpAnyH_switch hS h'.2⟩) (h.2 i hi)⟩
theorem tkH {P:Program} {md:Region.Mode} {ops:Array Oper} {Q:Exit→Act→World→Prop} {S:World→Prop} (i:Nat) {v:Value} {fuel:Nat} {listed:Array Bool} {a:Act} {w:World} {d o t p f g} (hi:ops[i]?=some (⟨d,o,t,p,f,g⟩:Oper))
  (hb:(Region.noSelect ops&&(Region.free md ops listed i&&(Region.ready md ops listed).contains i))=true) (hQ:∀ c a' w',Q (.panic c) (a'.put d v) w'→Q (.panic c) a' w')
  (hw:Region.wanted (⟨d,o,t,p,f,g⟩:Oper) (yielded ops a.tmps)=true) (hy:∀ w,S w→(execOp a.eval (⟨d,o,t,p,f,g⟩:Oper)).run P w=.ok (.value v) w) (hS:S w)
  (h:wpAnyH P md ops Q S fuel (listed.setIfInBounds i true) (a.put d v) w):wpAnyH P md ops Q S (fuel+1) listed a w:=by
 rw [Bool.and_eq_true,Bool.and_eq_true] at hb
 exact wpAnyH_take hi hb.1 hb.2.1 hb.2.2 hQ (Or.inl ⟨hw,hy⟩) hS h
theorem rH {P:Program} {md:Region.Mode} {ops:Array Oper} {Q:Exit→Act→World→Prop} {S:World→Prop} (i:Nat) {fuel:Nat} {listed:Array Bool} {a:Act} {w:World} {d o t p f g} (hr:Region.ready md ops listed=[i]) (ho:ops[i]?=some (⟨d,o,t,p,f,g⟩:Oper))
  (h:∀ K':Act→World→Prop,Shut (∀ a w,S w→(S w→wpAnyH P md ops Q S fuel (listed.setIfInBounds i true) a w)→K' a w)→if Region.wanted (⟨d,o,t,p,f,g⟩:Oper) (yielded ops a.tmps)=true then Oper.wp P ⟨d,o,t,p,f,g⟩ a w K' Q else K' (a.put d undef) w):wpAnyH P md ops Q S (fuel+1) listed a w :=
 wpAnyH_ready hr (by simp) (AllReadyH.cons ho h AllReadyH.nil)
theorem Tryz.lawI:Go.Maps.Keyed Tryz.prog 3:=Go.Maps.int_keyed Tryz.underlying3
theorem Tryz.zeroI (w:World):(zeroValue 3).run Tryz.prog w=.ok (.int .i64 0) w:=by kernel_rfl
def MapI (w:World) (b n:Nat) (f:Int→Int):Prop :=
 ∃ D:DataW Unit,w.ownsMap Tryz.prog 3 (plainElem Tryz.prog 3) b n D∧∀ x:Int,D.atKey (.int .i64 x) (.lit (.int .i64 0))=.lit (.int .i64 (f x))
theorem MapI.made (w:World):MapI (w.alloc (.map #[] 0)) w.heap.size 0 (fun _=>0):=⟨.map [],World.ownsMap_made _ _ _ _,fun _=>rfl⟩
theorem wf_of {x:Int} (h:-9223372036854775808≤x∧x≤9223372036854775807):(Lit.int .i64 x).wf=true:=by
 exact WalkArith.wf_i64 h
theorem MapI.chg {w w':World} {b n:Nat} {f:Int→Int} {S:Nat→Prop} (h:MapI w b n f) (k:Chg S w w') (hb:S b):MapI w' b n f:=by
 obtain ⟨D,⟨es,clock,e1,F,e2,e3⟩,h2⟩:=h
 exact ⟨D,⟨es,clock,(k.block b hb).trans e1,F,e2,e3⟩,h2⟩
theorem MapI.lt {w:World} {b n:Nat} {f:Int→Int} (h:MapI w b n f):b<w.heap.size:=by
 obtain ⟨D,h1,h2⟩:=h
 exact h1.lt
theorem MapI.nx {w w':World} {b n:Nat} {f:Int→Int} (h:MapI w b n f) (k:Ex w w'):MapI w' b n f:=h.chg k h.lt
theorem MapI.look {w:World} {b n:Nat} {f:Int→Int} (h:MapI w b n f) {x:Int} (hx:-9223372036854775808≤x∧x≤9223372036854775807) :
  (Instr.lookup 191 (.map (some b)) (.int .i64 x) false).run Tryz.prog w=.ok (.int .i64 (f x)) w:=by
 obtain ⟨D,h1,h2⟩:=h
 obtain ⟨c,hrun,hat,_⟩:=h1.lookup_int (t:=191) Tryz.lawI Tryz.underlying191 Tryz.underlying3 (Tryz.zeroI w) (Go.Maps.keyOf_int_mk Tryz.underlying3 (wf_of hx))
 rw [h2 x] at hat
 cases hat
 exact hrun
theorem MapI.put {w:World} {b n:Nat} {f:Int→Int} (h:MapI w b n f) {x v:Int} (hx:-9223372036854775808≤x∧x≤9223372036854775807) (hv:-9223372036854775808≤v∧v≤9223372036854775807) (hn:n<maxLen) :
  ∃ w',(Instr.mapUpdate 191 (.map (some b)) (.int .i64 x) (.int .i64 v)).run Tryz.prog w=.ok () w'∧MapI w' b (n+1) (fun y=>if y=x then v else f y)∧Exb b w w':=by
 obtain ⟨D,h1,h2⟩:=h
 have hm:Go.Maps.IsMap D:=by obtain ⟨_,_,_,_,_,e⟩:=h1;exact ⟨_,e⟩
 obtain ⟨w',hrun,h3,h4⟩:=h1.update (t:=191) Tryz.lawI Tryz.underlying191 hn (Go.Maps.keyOf_int_mk Tryz.underlying3 (wf_of hx)) (plainElem_int Tryz.underlying3 (wf_of hv))
 refine ⟨w',hrun,⟨_,h3,fun y=>?_⟩,⟨h4.1,h4.2,h4.3,h4.4,fun i hi=>h4.5 i hi.1 (fun e=>hi.2 (Option.some.inj e))⟩⟩
 by_cases hy:y=x
 ·subst hy
  show _=DataW.lit (.int .i64 (if y=y then v else f y))
  rw [if_pos rfl]
  exact Go.Maps.atKey_put_same hm (show Go.WideAt.IsKeyLit (.int .i64 y) from trivial) _ _
 ·show _=DataW.lit (.int .i64 (if y=x then v else f y))
  rw [if_neg hy,Go.Maps.atKey_put_other (fun e=>hy (by cases e;rfl))]
  exact h2 y
set_option maxHeartbeats 400000 in
theorem mod_any (v n:Int) (w:World) (hn:1≤n) (hn2:n≤9223372036854775807) :
  Calls Tryz.prog 78 #[.int .i64 v,.int .i64 n] w fun e w'=>e=.returned (.int .i64 (v % n))∧w=w':=by
 obtain ⟨h1,h2⟩:=tmod_bounds v n hn
 have H3:=lH (emod_of_tmod v n hn)
 go_enter Tryz.func78,Tryz.ntmps78
 go_wp2
 ·go_ret
  exact ⟨by rw [H3.out,if_pos ‹_›];rfl,rfl⟩
 ·go_ret
  exact ⟨by rw [H3.out,if_neg (by omega)];rfl,rfl⟩
set_option maxHeartbeats 400000 in
theorem next_end (b len cap i:Nat) (n:Int) (a:Option Addr) (w:World) (hb:w.heap[b]?=some (.cells #[.slice a len cap,.int .i64 i] 113 (0,0))) (hi:len≤i) (hn:¬ n<1) :
  Calls Tryz.prog 21 #[.pointer (some ⟨b,0,none⟩),.int .i64 n] w fun e w'=>e=.returned (.int .i64 0)∧∃ m,w.drewN m=w':=by
 have c0:w.cell? ⟨b,0,none⟩=some (.slice a len cap):=by simp [World.cell?,hb]
 have c1:w.cell? ⟨b,1,none⟩=some (.int .i64 i):=by simp [World.cell?,hb]
 have d1:decide (n<1)=false:=by simp;omega
 clear hb
 go_enter Tryz.func21,Tryz.ntmps21
 go_wp2
 go_quiet (fail)
 go_wp2
 go_ret
 exact ⟨rfl,_,rfl⟩
set_option maxHeartbeats 400000 in
theorem next_small (b:Nat) (n:Int) (w:World) (hn:n<1) :
  Calls Tryz.prog 21 #[.pointer (some ⟨b,0,none⟩),.int .i64 n] w fun e w'=>e=.returned (.int .i64 0)∧∃ m,w.drewN m=w':=by
 have d1:decide (n<1)=true:=by simp;omega
 go_enter Tryz.func21,Tryz.ntmps21
 go_wp2
 go_quiet (fail)
 go_wp2
 go_ret
 exact ⟨rfl,_,rfl⟩
set_option maxHeartbeats 400000 in
theorem next_go (b len cap i x o:Nat) (n v:Int) (w:World) (hb:w.heap[b]?=some (.cells #[.slice (some ⟨x,o,none⟩) len cap,.int .i64 i] 113 (0,0))) (hi:i<len) (hl:len≤600) (hn:¬ n<1) (hn2:n≤9223372036854775807)
  (hx:x≠b) (hc:w.cell? ⟨x,o+i,none⟩=some (.int .i64 v)) :
  Calls Tryz.prog 21 #[.pointer (some ⟨b,0,none⟩),.int .i64 n] w fun e w'=>e=.returned (.int .i64 (v % n))∧∃ m k,((w.drewN k).setCell ⟨b,1,none⟩ (.int .i64 (i+1))).drewN m=w':=by
 have c0:w.cell? ⟨b,0,none⟩=some (.slice (some ⟨x,o,none⟩) len cap):=by simp [World.cell?,hb]
 have c1:w.cell? ⟨b,1,none⟩=some (.int .i64 i):=by simp [World.cell?,hb]
 have f1:w.frozen? ⟨b,1,none⟩=false:=by simp [World.frozen?,hb]
 have d1:decide (n<1)=false:=by simp;omega
 have e1:IntKind.i64.wrap (i:Int)=i:=IntWalk.i64_in _ (by omega)
 have e2:IntKind.i64.wrap ((i:Int)+1)=(i:Int)+1:=IntWalk.i64_in _ (by omega)
 clear hb
 go_enter Tryz.func21,Tryz.ntmps21
 go_wp2
 go_quiet (fail)
 go_wp2
 go_quiet ((go_at_call 78;exact quiet_of_eq (mod_any _ _ _ (by omega) (by omega))))
 go_wp2
 go_ret
 exact ⟨rfl,_,_,rfl⟩
theorem next_x {B b:Nat} (n:Int) (w:World) (h:TP 113 B w b) (hn2:n≤9223372036854775807) :
  Calls Tryz.prog 21 #[.pointer (some ⟨b,0,none⟩),.int .i64 n] w (SomeInt 0 (if n<1 then 0 else n-1) 113 B b w):=by
 by_cases hn:n<1
 ·refine (next_small b n w hn).mono ?_
  rintro e w' ⟨rfl,m,rfl⟩
  exact ⟨0,rfl,by omega,by rw [if_pos hn];omega,(Chg.refl _ _).drewN _,h⟩
 ·obtain ⟨a,cap,i,x,o,l,h1,h2,h3,h4,h5⟩:=id h
  by_cases hi:i<l.length
  ·rcases h5 with rfl | ⟨rfl,e2,e3,e4⟩
   ·simp at hi
   ·refine (next_go b _ cap i x o n _ w h1 hi h3 hn hn2 e2 (e4 i hi)).mono ?_
    rintro e w' ⟨rfl,m,k,rfl⟩
    refine ⟨_,rfl,Int.emod_nonneg _ (by omega),?_,?_,?_⟩
    ·rw [if_neg hn];have:=Int.emod_lt_of_pos (l.getD i 0) (show 0<n by omega);omega
    ·exact (((Chg.refl _ _).drewN _).setCell _ (fun k hk=>hk.2)).drewN _
    ·refine ⟨_,cap,i+1,x,o,l,?_,h2,h3,by omega,.inr ⟨rfl,e2,e3,fun j hj=>?_⟩⟩
     ·show (w.setCell ⟨b,1,none⟩ (.int .i64 (i+1))).heap[b]?=_
      simp [World.setCell,Array.getElem?_modify,h1]
     ·show (w.setCell ⟨b,1,none⟩ (.int .i64 (i+1))).cell? _=_
      rw [World.cell?_of_block (w:=w) (Below.heap_setCell w _ _ _ e2)]
      exact e4 j hj
  ·refine (next_end b _ cap i n a w h1 (by omega) hn).mono ?_
   rintro e w' ⟨rfl,m,rfl⟩
   exact ⟨0,rfl,by omega,by rw [if_neg hn];omega,(Chg.refl _ _).drewN _,h⟩
theorem pick_x {B b s so len:Nat} (lo hi:Int) (l:List Int) (w:World) (h:TP 113 B w b) (hB:B≤s) (hs:s<w.heap.size) (hl:l.length=len) (hl0:0<len) (hl2:len≤100)
  (hc:∀ j,j<len→w.cell? ⟨s,so+j,none⟩=some (.int .i64 (l.getD j 0))) (hr:∀ x∈l,lo≤x∧x≤hi) :
  Calls Tryz.prog 138 #[.pointer (some ⟨b,0,none⟩),.slice (some ⟨s,so,none⟩) len len] w (SomeInt lo hi 113 B b w):=by
 have hlt:=h.lt
 go_enter Tryz.func138,Tryz.ntmps138
 go_wp2_with fail
 refine (next_x _ w h (by omega)).mono ?_
 rintro e w1 ⟨r,rfl,r0,r1,k1,t1⟩
 rw [if_neg (by omega)] at r1
 obtain ⟨j,rfl⟩:=Int.eq_ofNat_of_zero_le r0
 have hj:j<len:=by omega
 have hc1:w1.cell? ⟨s,so+j,none⟩=some (.int .i64 (l.getD j 0)):=k1.cellv (hc j hj) ⟨hs,by simp;omega⟩
 have hm:l.getD j 0∈l:=by simp [List.getD,hl,hj]
 have hr1:=hr _ hm
 clear hc hr hl hm
 go_wp2
 go_ret
 exact ⟨_,rfl,hr1.1,hr1.2,k1,t1⟩
theorem pick_lit {B b n s:Nat} (lo hi:Int) (l:List Int) {A:Array Value} {W0:World} (h:TP 113 B W0 b) (hB:B≤W0.heap.size) (hs:s=W0.heap.size) (hA:A=(l.map (Value.int .i64)).toArray) (hl:l.length=n) (hl0:0<n) (hl2:n≤100)
  (hr:∀ x∈l,lo≤x∧x≤hi) :
  Calls Tryz.prog 138 #[.pointer (some ⟨b,0,none⟩),.slice (some ⟨s,0,none⟩) n n] (W0.alloc (.cells A 3)) (SomeInt lo hi 113 B b W0):=by
 subst hA hs
 have hc:=(Chg.refl (· < W0.heap.size) W0).alloc (.cells (l.map (Value.int .i64)).toArray 3) (fun k hk=>hk)
 refine (pick_x (s:=W0.heap.size) (so:=0) lo hi l _ (h.chg hc (by omega)) hB (by simp) hl hl0 hl2 ?_ hr).mono ?_
 ·intro j hj
  simp [List.getD,hl,hj]
 ·rintro e w' ⟨r,rfl,r0,r1,k1,t1⟩
  exact ⟨r,rfl,r0,r1,(hc.mono (fun k hk=>hk.1)).trans (k1.mono (by simp;intro k h1 h2;omega)),t1⟩
def NewTape (w:World) (e:Ending) (w':World):Prop :=
 e=.returned (.pointer (some ⟨w.heap.size,0,none⟩))∧TP 113 (w.heap.size+1) w' w.heap.size∧Chg (· < w.heap.size) w w'
theorem tape_made {S:Nat→Prop} {n cap m:Nat} {a:Option Addr} {l:List Int} {w:World} (h:Rd 1 encI S w a n l) (hS:∀ k,S k→k<w.heap.size) (hm:m≤n) (hm2:m≤600) :
  TP 113 (w.heap.size+1) (w.alloc (.cells #[.slice a m cap,.int .i64 0] 113)) w.heap.size:=by
 have hl:(l.take m).length=m:=by have:=h.1;simp;omega
 rcases Nat.eq_zero_or_pos m with h0 | h0
 ·subst h0
  exact ⟨a,cap,0,0,0,[],by simpa using heap_new w _,by omega,by simp,by simp,.inl rfl⟩
 ·obtain ⟨x,o,y,rfl,hx,_,_⟩:=h.at (j:=0) (by omega)
  have hx:=hS x hx
  refine ⟨_,cap,0,x,o,l.take m,by rw [hl];exact heap_new w _,by omega,by omega,by omega,.inr ⟨rfl,by omega,by omega,fun j hj=>?_⟩⟩
  have hj:j<m:=by omega
  obtain ⟨x',o',y',e1,_,e3,e4⟩:=h.at (j:=j) (by omega)
  cases e1
  have e5:=e4 0 _ rfl
  have e6:(l.take m).getD j 0=y':=by simp [List.getD,List.getElem?_take,hj,e3]
  rw [e6]
  rw [World.cell?_of_block (w:=w) (Below.heap_alloc w _ _ (by simp;omega))]
  simpa using e5
set_option maxHeartbeats 400000 in
theorem new_x {S:Nat→Prop} (a:Option Addr) (n cap:Nat) (l:List Int) (w:World) (h:Rd 1 encI S w a n l) (hS:∀ k,S k→k<w.heap.size) (hn:n≤cap) (hcap:cap≤maxLen) :
  Calls Tryz.prog 8 #[.slice a n cap] w (NewTape w):=by
 unfold maxLen at hcap
 by_cases h6:600<n
 ·have hm:=tape_made (cap:=cap) (m:=600) h hS (by omega) (by omega)
  go_enter Tryz.func8,Tryz.ntmps8
  go_wp2
  go_ret
  exact ⟨rfl,hm,(Chg.refl _ _).alloc _ (by simp)⟩
 ·have hm:=tape_made (cap:=cap) (m:=n) h hS (by omega) (by omega)
  go_enter Tryz.func8,Tryz.ntmps8
  go_wp2
  go_ret
  exact ⟨rfl,hm,(Chg.refl _ _).alloc _ (by simp)⟩
def TK (w:World) (b:Nat):Prop:=TP 113 (b+1) w b
theorem TK.lt {w:World} {b:Nat} (h:TK w b):b<w.heap.size:=by
 obtain ⟨_,_,_,_,_,_,h1,_⟩:=h
 exact heap_lt h1
theorem TK.nx {w w':World} {b:Nat} (h:TK w b) (k:Ex w w'):TK w' b:=TP.chg h k (fun x hx=>Nat.lt_of_lt_of_le hx h.lt)
theorem TK.set {w:World} {b:Nat} (h:TK w b) {p:Addr} (v:Value) (hp:b<p.block):TK (w.setCell p v) b :=
 TP.chg h ((Chg.refl (· < b+1) w).setCell v (fun k (hk:k<b+1)=>by omega)) (fun _ hk=>hk)
def NumPost (n:Int) (b:Nat) (w:World) (e:Ending) (w':World):Prop :=
 ∃ r:Int,e=.returned (.int .i64 r)∧0≤r∧r≤n∧TK w' b∧Exb b w w'
theorem next_t {b:Nat} (n:Int) (w:World) (h:TK w b) (h1:1≤n) (h2:n≤9223372036854775807) :
  Calls Tryz.prog 21 #[.pointer (some ⟨b,0,none⟩),.int .i64 n] w (NumPost (n-1) b w):=by
 refine (next_x n w h h2).mono ?_
 rintro e w' ⟨r,rfl,r0,r1,k,t⟩
 rw [if_neg (by omega)] at r1
 exact ⟨r,rfl,r0,r1,t,k⟩
theorem new_t (a:Option Addr) (n cap:Nat) (l:List Int) (w:World) (h:Sl 1 encI w a n l) (hn:n≤cap) (hcap:cap≤maxLen) :
  Calls Tryz.prog 8 #[.slice a n cap] w fun e w'=>e=.returned (.pointer (some ⟨w.heap.size,0,none⟩))∧TK w' w.heap.size∧Ex w w'∧w.heap.size<w'.heap.size:=by
 refine (new_x a n cap l w h (fun _ hk=>hk) hn hcap).mono ?_
 rintro e w' ⟨rfl,t,k⟩
 have hlt:w.heap.size<w'.heap.size:=by
  obtain ⟨_,_,_,_,_,_,h1,_⟩:=t
  exact heap_lt h1
 exact ⟨rfl,t,k,hlt⟩
def LetG (w:World):Prop:=∀ j,j<6→∃ s:ByteArray,s.size=1∧w.cell? ⟨0,j,none⟩=some (.string s)
theorem LetG.lt {w:World} (h:LetG w):0<w.heap.size:=by
 obtain ⟨s,_,h⟩:=h 0 (by omega)
 exact World.block_lt_of_cell? w _ h
theorem LetG.nx {w w':World} (h:LetG w) (k:Ex w w'):LetG w':=fun j hj=>by
 obtain ⟨s,h1,h2⟩:=h j hj
 exact ⟨s,h1,Chg.cellv k h2 (World.block_lt_of_cell? w _ h2)⟩
theorem LetG.nxb {b:Nat} {w w':World} (h:LetG w) (hb:¬ 0=b) (k:Exb b w w'):LetG w':=fun j hj=>by
 obtain ⟨s,h1,h2⟩:=h j hj
 exact ⟨s,h1,Chg.cellv k h2 ⟨World.block_lt_of_cell? w _ h2,hb⟩⟩
def LongRel (k0:Nat) (o i:Value):Prop:=∃ (k:Nat) (s:ByteArray),k≤k0∧i=.int .i64 k∧o=.string s∧s.size=k
set_option maxHeartbeats 400000 in
theorem long_x (s:ByteArray) (n:Nat) (w:World) (hs:s.size=1) (hn:n≤1000) :
  Calls Tryz.prog 69 #[.string s,.int .i64 n] w fun e w'=>(∃ r:ByteArray,e=.returned (.string r)∧r.size=n)∧w=w':=by
 have HS:=lH hs
 have hs1:s.size≤1:=Nat.le_of_eq hs
 clear hs
 go_enter Tryz.func69,Tryz.ntmps69
 go_wp2
 go_loop [5,6] (fun o i=>LongRel n o i) (fun _ i=>n-(intOf i).toNat)
 case atStart=>exact ⟨0,⟨#[]⟩,by omega,rfl,rfl,rfl⟩
 case round =>
  obtain ⟨k,o,hk,rfl,rfl,ho⟩:=hrel
  have HO:=lH ho
  have ho1:o.size≤1000:=by omega
  clear ho
  by_cases hlt:k<n
  ·go_wp2
   go_round
   case rel=>exact ⟨k+1,_,by omega,by go_num,rfl,by rw [ByteArray.size_append,HO.out,HS.out]⟩
   case measure=>simp [intOf];omega
  ·go_wp2
   go_ret
   exact ⟨⟨o,rfl,by rw [HO.out];omega⟩,rfl⟩
def KeyPost (m b:Nat) (w:World) (e:Ending) (w':World):Prop:=∃ s:ByteArray,e=.returned (.string s)∧s.size≤m∧TK w' b∧Exb b w w'
def KeyRel (b:Nat) (w:World) (o i:Value) (wr:World):Prop:=∃ (k:Nat) (s:ByteArray),k≤3∧i=.int .i64 k∧o=.string s∧s.size+k≤3∧TK wr b∧Exb b w wr
set_option maxHeartbeats 1000000 in
theorem key_t {b:Nat} (w:World) (h:TK w b) (hL:LetG w) (hgb:¬ 0=b):Calls Tryz.prog 13 #[.pointer (some ⟨b,0,none⟩)] w (KeyPost 64 b w):=by
 go_enter Tryz.func13,Tryz.ntmps13
 go_wp2_with fail
 refine (next_t 12 _ h (by omega) (by omega)).mono ?_
 rintro e w1 ⟨r,rfl,r0,r1,T,k1⟩
 have L1:=hL.nxb hgb k1
 clear h hL
 by_cases h10:r=10
 ·subst h10
  go_wp2_with fail
  refine (next_t 6 _ T (by omega) (by omega)).mono ?_
  clear T
  rintro e w2 ⟨j,rfl,j0,j1,T,k2⟩
  obtain ⟨j,rfl⟩:=Int.eq_ofNat_of_zero_le j0
  obtain ⟨s,hs,hc⟩:=(L1.nxb hgb k2) j (by omega)
  have kk:=k1.nxb k2
  have HS:=lH hs
  clear hs k1 k2 L1
  go_wp2_with fail
  refine (long_x s 64 _ HS.out (by omega)).mono ?_
  rintro e w3 ⟨⟨r,rfl,hr⟩,rfl⟩
  have HR:=lH hr
  clear hr
  go_wp2_with fail
  go_ret
  exact ⟨r,rfl,Nat.le_of_eq HR.out,T,kk⟩
 ·have d10:(r==10)=false:=by simp [h10]
  by_cases h11:r=11
  ·subst h11
   clear h10
   go_wp2_with fail
   go_ret
   exact ⟨⟨#[]⟩,rfl,by simp [ByteArray.size],T,k1⟩
  ·have d11:(r==11)=false:=by simp [h11]
   clear h10 h11
   go_wp2_with fail
   refine (next_t 3 _ T (by omega) (by omega)).mono ?_
   clear T
   rintro e w2 ⟨m,rfl,m0,m1,T,k2⟩
   obtain ⟨m,rfl⟩:=Int.eq_ofNat_of_zero_le m0
   have L2:=L1.nxb hgb k2
   have kk:=k1.nxb k2
   clear k1 k2 L1
   go_wp2_with fail
   go_loopw [3,4] (fun o i wr=>KeyRel b w2 o i wr) (fun _ i _=>(intOf i).toNat)
   case atStart=>exact ⟨m+1,⟨#[]⟩,by omega,congrArg (Value.int .i64) (by omega),rfl,by show 0+(m+1)≤3;omega,T,Exb.refl _ _⟩
   case round =>
    clear T
    obtain ⟨k,o,hk,rfl,rfl,ho,T,kw⟩:=hrel
    obtain ⟨wo,rfl⟩:∃ wo:World,wo=wr:=⟨_,rfl⟩
    have ho1:o.size≤3:=by omega
    by_cases hk0:0<k
    ·go_wp2_with fail
     refine (next_t 6 _ T (by omega) (by omega)).mono ?_
     clear T
     rintro e w4 ⟨j,rfl,j0,j1,T,k4⟩
     obtain ⟨j,rfl⟩:=Int.eq_ofNat_of_zero_le j0
     obtain ⟨s,hs,hc⟩:=((L2.nxb hgb kw).nxb hgb k4) j (by omega)
     replace kw:=kw.nxb k4
     have HS:=lH hs
     have hs1:s.size≤1:=Nat.le_of_eq hs
     clear hs k4 L2
     go_wp2_with fail
     refine ⟨⟨k-1,o++s,by omega,?_,rfl,by rw [ByteArray.size_append,HS.out];omega,T,kw⟩,by simp [intOf];omega⟩
     rw [show ((k-1:Nat):Int)=(k:Int)-1 by omega]
    ·clear L2
     go_wp2_with fail
     go_ret
     exact ⟨o,rfl,by omega,T,kk.nxb kw⟩
def SomeWord (ty B b:Nat) (w:World) (e:Ending) (w':World):Prop :=
 ∃ r:Nat,e=.returned (.int .u32 r)∧r<65536∧Chg (fun k=>k<w.heap.size∧k≠b) w w'∧TP ty B w' b
theorem conv_u32 (r:Int) (h0:0≤r) (h1:r<65536):∃ m:Nat,r=m∧m<65536∧IntKind.u32.wrap r=(m:Int):=by
 obtain ⟨m,rfl⟩:=Int.eq_ofNat_of_zero_le h0
 refine ⟨m,rfl,by omega,?_⟩
 simp [IntKind.wrap,IntKind.signed,IntKind.bits]
 omega
set_option maxHeartbeats 1000000 in
theorem word_x {B b:Nat} (w:World) (h:TP 113 B w b) (hB:B≤w.heap.size) :
  Calls Tryz.prog 61 #[.pointer (some ⟨b,0,none⟩)] w (SomeWord 113 B b w):=by
 go_enter Tryz.func61,Tryz.ntmps61
 go_wp2_with fail
 refine (next_x _ w h (by omega)).mono ?_
 rintro e w1 ⟨r,rfl,r0,r1,k1,t1⟩
 have z1:=k1.size
 by_cases e4:r=4
 ·subst e4
  go_wp2_with fail
  refine (next_x _ _ t1 (by omega)).mono ?_
  rintro e w2 ⟨s,rfl,s0,s1,k2,t2⟩
  rw [if_neg (by omega)] at s1
  obtain ⟨m,rfl,hm,hw⟩:=conv_u32 s s0 (by omega)
  go_wp2_with fail
  go_ret
  exact ⟨m,rfl,hm,k1.then k2 (by intro k hk;omega),t2⟩
 ·have d4:(r==4)=false:=by simp [e4]
  by_cases e5:r=5
  ·subst e5
   go_wp2_with fail
   refine (pick_lit 0 65535 [0,65535,32768] t1 (by omega) (by simp) (by rfl) (by rfl) (by omega) (by omega) (by simp)).mono ?_
   rintro e w2 ⟨s,rfl,s0,s1,k2,t2⟩
   obtain ⟨m,rfl,hm,hw⟩:=conv_u32 s s0 (by omega)
   go_wp2_with fail
   go_ret
   exact ⟨m,rfl,hm,k1.then k2 (by intro k hk;omega),t2⟩
  ·have d5:(r==5)=false:=by simp [e5]
   clear e4 e5
   go_wp2_with fail
   refine (next_x _ _ t1 (by omega)).mono ?_
   rintro e w2 ⟨s,rfl,s0,s1,k2,t2⟩
   rw [if_neg (by omega)] at s1
   obtain ⟨m,rfl,hm,hw⟩:=conv_u32 s s0 (by omega)
   go_wp2_with fail
   go_ret
   exact ⟨m,rfl,hm,k1.then k2 (by intro k hk;omega),t2⟩
set_option maxHeartbeats 400000 in
theorem bool_t {b:Nat} (n:Int) (w:World) (h:TK w b) (h1:1≤n) (h2:n≤1000000) :
  Calls Tryz.prog 43 #[.pointer (some ⟨b,0,none⟩),.int .i64 n] w fun e w'=>∃ r:Bool,e=.returned (.bool r)∧TK w' b∧Exb b w w':=by
 go_enter Tryz.func43,Tryz.ntmps43
 go_wp2_with fail
 refine (next_t n _ h h1 (by omega)).mono ?_
 rintro e w1 ⟨r,rfl,r0,r1,t1,k1⟩
 go_wp2_with fail
 go_ret
 exact ⟨_,rfl,t1,k1⟩
def atV (es:List MapEntry) (x:Int):Option Value:=(es.find? fun e=>match e.key with | .int .i64 k=>k==x | _=>false).map (·.val)
def KeysI (es:List MapEntry):Prop:=∀ e∈es,∃ k:Int,e.key=.int .i64 k
def MapV (w:World) (b:Nat) (f:Int→Option Value):Prop:=∃ (A:Array MapEntry) (clock:Nat),w.heap[b]?=some (.map A clock)∧KeysI A.toList∧∀ x,atV A.toList x=f x
theorem MapV.made (w:World):MapV (w.alloc (.map #[] 0)) w.heap.size (fun _=>none):=⟨#[],0,heap_new w _,by simp [KeysI],fun _=>rfl⟩
theorem MapV.chg {w w':World} {b:Nat} {f:Int→Option Value} {S:Nat→Prop} (h:MapV w b f) (k:Chg S w w') (hb:S b):MapV w' b f:=by
 obtain ⟨A,c,h1,h2⟩:=h
 exact ⟨A,c,(k.block b hb).trans h1,h2⟩
theorem MapV.lt {w:World} {b:Nat} {f:Int→Option Value} (h:MapV w b f):b<w.heap.size:=by
 obtain ⟨A,c,h1,_⟩:=h
 exact heap_lt h1
theorem MapV.nx {w w':World} {b:Nat} {f:Int→Option Value} (h:MapV w b f) (k:Ex w w'):MapV w' b f:=h.chg k h.lt
theorem MapV.nxb {w w':World} {b c:Nat} {f:Int→Option Value} (h:MapV w b f) (hb:b≠c) (k:Exb c w w'):MapV w' b f:=h.chg k ⟨h.lt,hb⟩
theorem findNow_i (kind:TypeDesc) (hk:∀ a b:Int,Instr.sameNow kind (.int .i64 a) (.int .i64 b)=some (a==b)) (x:Int):∀ (es:List MapEntry) (i:Nat),KeysI es →
  ∃ r,Instr.findNow kind (.int .i64 x) es i=some r∧r.map (·.2)=atV es x∧∀ p,r=some p→∃ j e,p=(i+j,e.val)∧es[j]?=some e∧e.key=.int .i64 x∧∀ j' e',j'<j→es[j']?=some e'→e'.key≠.int .i64 x
 | [],i,_=>⟨none,rfl,rfl,by intro p h;cases h⟩
 | e::es,i,h=>by
  obtain ⟨k,hke⟩:=h e (by simp)
  unfold Instr.findNow
  rw [hke,hk]
  by_cases hx:x=k
  ·subst hx
   refine ⟨some (i,e.val),by simp,?_,?_⟩
   ·unfold atV
    rw [List.find?_cons_of_pos (by rw [hke];simp)]
    rfl
   ·intro p hp
    cases hp
    exact ⟨0,e,rfl,rfl,hke,by intro j' e' hj;omega⟩
  ·obtain ⟨r,h1,h2,h3⟩:=findNow_i kind hk x es (i+1) (fun e he=>h e (by simp [he]))
   have hxb:(x==k)=false:=by simpa using hx
   refine ⟨r,by rw [hxb];exact h1,?_,?_⟩
   ·rw [h2]
    unfold atV
    rw [List.find?_cons_of_neg]
    rw [hke]
    simp
    exact fun h=>hx h.symm
   ·intro p hp
    obtain ⟨j,e',e1,e2,e3,e4⟩:=h3 p hp
    refine ⟨j+1,e',by rw [e1];congr 1;omega,e2,e3,?_⟩
    intro j' e'' hj he
    cases j' with
    | zero =>
     cases he
     rw [hke]
     intro h
     cases h
     exact hx rfl
    | succ j'=>exact e4 j' e'' (by omega) he
theorem same_i {n:TypeDesc} (h:n=.int .i64) (a b:Int):Instr.sameNow n (.int .i64 a) (.int .i64 b)=some (a==b):=by
 subst h
 simp [Instr.sameNow]
theorem chk_i {P:Program} {w:World} {kt:TypeId} (hk:P.underlying kt=some (.int .i64)) (x:Int) (e:Bool):(Instr.checkKey e 10000 kt (.int .i64 x)).run P w=.ok () w :=
 MapKept.run_checkKey (n:=9999) hk (by simp [MapKept.IsKey]) e
theorem fnd_i {P:Program} {w:World} {kt:TypeId} (hk:P.underlying kt=some (.int .i64)) (x:Int) (es:List MapEntry) {r:Option (Nat×Value)} (hr:Instr.findNow (.int .i64) (.int .i64 x) es 0=some r):(Instr.findKey kt (.int .i64 x) es).run P w=.ok r w:=by
 unfold Instr.findKey
 simp only [Sem.run_bind,run_underlying hk,Result.andThen,hr]
 rfl
theorem MapV.look {P:Program} {w:World} {b:Nat} {f:Int→Option Value} (h:MapV w b f) {mt kt et:TypeId} {z:Value} (hm:P.underlying mt=some (.map kt et)) (hk:P.underlying kt=some (.int .i64)) (hz:(zeroValue et).run P w=.ok z w) (x:Int) :
  (Instr.lookup mt (.map (some b)) (.int .i64 x) true).run P w=.ok (.tuple #[(f x).getD z,.bool (f x).isSome]) w:=by
 obtain ⟨A,c,h1,h2,h3⟩:=h
 obtain ⟨r,r1,r2,_⟩:=findNow_i (.int .i64) (same_i rfl) x A.toList 0 h2
 rw [h3 x] at r2
 cases r with
 | none =>
  have:f x=none:=by simpa using r2.symm
  simp [Instr.lookup,run_underlying hm,MapKept.run_getObj_map h1,chk_i hk,fnd_i hk x _ r1,hz,this,Result.andThen]
 | some p =>
  have:f x=some p.2:=by simpa using r2.symm
  simp [Instr.lookup,run_underlying hm,MapKept.run_getObj_map h1,chk_i hk,fnd_i hk x _ r1,this,Result.andThen]
theorem MapV.look1 {P:Program} {w:World} {b:Nat} {f:Int→Option Value} (h:MapV w b f) {mt kt et:TypeId} {z:Value} (hm:P.underlying mt=some (.map kt et)) (hk:P.underlying kt=some (.int .i64)) (hz:(zeroValue et).run P w=.ok z w) (x:Int) :
  (Instr.lookup mt (.map (some b)) (.int .i64 x) false).run P w=.ok ((f x).getD z) w:=by
 obtain ⟨A,c,h1,h2,h3⟩:=h
 obtain ⟨r,r1,r2,_⟩:=findNow_i (.int .i64) (same_i rfl) x A.toList 0 h2
 rw [h3 x] at r2
 cases r with
 | none =>
  have:f x=none:=by simpa using r2.symm
  simp [Instr.lookup,run_underlying hm,MapKept.run_getObj_map h1,chk_i hk,fnd_i hk x _ r1,hz,this,Result.andThen]
 | some p =>
  have:f x=some p.2:=by simpa using r2.symm
  simp [Instr.lookup,run_underlying hm,MapKept.run_getObj_map h1,chk_i hk,fnd_i hk x _ r1,this,Result.andThen]
theorem atV_push (es:List MapEntry) (x y:Int) (v:Value) (t:Nat) (h:atV es x=none):atV (es++[⟨.int .i64 x,v,t⟩]) y=if y=x then some v else atV es y:=by
 unfold atV at *
 rw [List.find?_append]
 by_cases hy:y=x
 ·subst hy
  rw [if_pos rfl]
  rw [Option.map_eq_none_iff] at h
  rw [h]
  simp
 ·rw [if_neg hy]
  cases he:es.find? (fun e=>match e.key with | .int .i64 k=>k==y | _=>false) with
  | some e=>rfl
  | none =>
   have:¬ x=y:=fun h=>hy h.symm
   simp [this]
theorem atV_set (x:Int) (v:Value) (g:MapEntry→MapEntry):∀ (es:List MapEntry) (j:Nat) (e:MapEntry),KeysI es→es[j]?=some e→e.key=.int .i64 x→(∀ j' e',j'<j→es[j']?=some e'→e'.key≠.int .i64 x) →
  (g e).key=.int .i64 x→(g e).val=v→∀ y,atV (es.modify j g) y=if y=x then some v else atV es y
 | [],j,e,_,he,_,_,_,_,_=>by simp at he
 | e0::es,0,e,hK,he,hk,_,g1,g2,y=>by
  cases he
  show atV (g e0::es) y=_
  unfold atV
  by_cases hy:y=x
  ·subst hy
   rw [if_pos rfl,List.find?_cons_of_pos (by rw [g1];simp)]
   rw [← g2];rfl
  ·rw [if_neg hy,List.find?_cons_of_neg (by rw [g1];simp;exact fun h=>hy h.symm),List.find?_cons_of_neg (by rw [hk];simp;exact fun h=>hy h.symm)]
 | e0::es,j+1,e,hK,he,hk,hno,g1,g2,y=>by
  have ih:=atV_set x v g es j e (fun e he=>hK e (by simp [he])) he hk (fun j' e' hj h=>hno (j'+1) e' (by omega) h) g1 g2 y
  show atV (e0::es.modify j g) y=_
  obtain ⟨k0,hk0⟩:=hK e0 (by simp)
  have hne:e0.key≠.int .i64 x:=hno 0 e0 (by omega) rfl
  unfold atV at *
  by_cases h0:k0=y
  ·have hyx:¬ y=x:=by intro h;apply hne;rw [hk0,h0,h]
   rw [if_neg hyx,List.find?_cons_of_pos (by rw [hk0];simp [h0]),List.find?_cons_of_pos (by rw [hk0];simp [h0])]
  ·rw [List.find?_cons_of_neg (by rw [hk0];simpa using h0),List.find?_cons_of_neg (by rw [hk0];simpa using h0)]
   exact ih
theorem MapV.put {P:Program} {w:World} {b:Nat} {f:Int→Option Value} (h:MapV w b f) {mt kt et:TypeId} (hm:P.underlying mt=some (.map kt et)) (hk:P.underlying kt=some (.int .i64)) (x:Int) (v:Value) :
  ∃ w',(Instr.mapUpdate mt (.map (some b)) (.int .i64 x) v).run P w=.ok () w'∧MapV w' b (fun y=>if y=x then some v else f y)∧Exb b w w':=by
 obtain ⟨A,c,h1,h2,h3⟩:=h
 obtain ⟨r,r1,r2,r3⟩:=findNow_i (.int .i64) (same_i rfl) x A.toList 0 h2
 have hlt:=heap_lt h1
 have hch:∀ o:Obj,Exb b w { w with heap:=w.heap.setIfInBounds b o }:=fun o =>
  ⟨rfl,rfl,rfl,by simp,fun k hk=>by simp only [];rw [Array.getElem?_setIfInBounds_ne (fun e=>hk.2 e.symm)]⟩
 cases r with
 | none =>
  have hf:atV A.toList x=none:=by simpa using r2.symm
  refine ⟨{ w with heap:=w.heap.setIfInBounds b (.map (A.push ⟨.int .i64 x,v,c⟩) (c+1)) },?_,⟨A.push ⟨.int .i64 x,v,c⟩,c+1,by simp [hlt],?_,fun y=>?_⟩,hch _⟩
  ·simp [Instr.mapUpdate,run_underlying hm,MapKept.run_getObj_map h1,chk_i hk,fnd_i hk x _ r1,MapKept.run_setObj_map _ h1,Result.andThen]
  ·intro e he
   rw [Array.toList_push] at he
   rcases List.mem_append.1 he with he | he
   ·exact h2 e he
   ·rw [List.mem_singleton.1 he];exact ⟨x,rfl⟩
  ·rw [Array.toList_push,atV_push _ _ _ _ _ hf,h3]
 | some p =>
  obtain ⟨j,e,e1,e2,e3,e4⟩:=r3 p rfl
  have hj:p.1=j:=by rw [e1];simp
  obtain ⟨q,u⟩:=p
  simp only at hj
  subst hj
  have hA:A[q]?=some e:=by rw [← Array.getElem?_toList];exact e2
  refine ⟨{ w with heap:=w.heap.setIfInBounds b (.map (A.modify q fun e=>{ e with key:=.int .i64 x,val:=v }) c) },?_,⟨A.modify q fun e=>{ e with key:=.int .i64 x,val:=v },c,by simp [hlt],?_,fun y=>?_⟩,hch _⟩
  ·simp [Instr.mapUpdate,run_underlying hm,MapKept.run_getObj_map h1,chk_i hk,fnd_i hk x _ r1,MapKept.run_setObj_map _ h1,hA,e3,Instr.keyThatStays,Instr.sameBits,Result.andThen]
  ·intro e' he
   rw [Array.toList_modify] at he
   obtain ⟨i,hi⟩:=List.mem_iff_getElem?.1 he
   rw [List.getElem?_modify] at hi
   cases ha:A.toList[i]? with
   | none=>rw [ha] at hi;cases hi
   | some e0 =>
    rw [ha] at hi
    have:=h2 e0 (List.mem_of_getElem? ha)
    simp only [Option.map_eq_map,Option.map_some,Option.some.injEq] at hi
    split at hi
    ·rw [← hi];exact ⟨x,rfl⟩
    ·rw [← hi];exact this
  ·rw [Array.toList_modify,atV_set x v _ A.toList q e h2 e2 e3 e4 rfl rfl y,h3]
namespace Lin
inductive Path (M:Nat→Nat→Prop) (lo hi:Nat):Nat→Nat→Prop
 | refl {a:Nat}:lo≤a→a≤hi→Path M lo hi a a
 | step {a c b:Nat}:lo≤a→a≤hi→M a c→Path M lo hi c b→Path M lo hi a b
theorem Path.head {M:Nat→Nat→Prop} {lo hi a b:Nat} (h:Path M lo hi a b):lo≤a∧a≤hi:=by cases h<;>exact ⟨by assumption,by assumption⟩
theorem Path.trans {M:Nat→Nat→Prop} {lo hi a b c:Nat} (h:Path M lo hi a b) (k:Path M lo hi b c):Path M lo hi a c:=by
 induction h with
 | refl _ _=>exact k
 | step h1 h2 h3 _ ih=>exact .step h1 h2 h3 (ih k)
theorem Path.mono {M M':Nat→Nat→Prop} {lo hi lo' hi' a b:Nat} (h:Path M lo hi a b) (hm:∀ x y,M x y→M' x y) (h1:lo'≤lo) (h2:hi≤hi'):Path M' lo' hi' a b:=by
 induction h with
 | refl g1 g2=>exact .refl (by omega) (by omega)
 | step g1 g2 g3 _ ih=>exact .step (by omega) (by omega) (hm _ _ g3) ih
theorem Path.one {M:Nat→Nat→Prop} {lo hi a b:Nat} (h1:lo≤a) (h2:a≤hi) (h3:lo≤b) (h4:b≤hi) (h:M a b):Path M lo hi a b:=.step h1 h2 h (.refl h3 h4)
theorem Path.symm {M:Nat→Nat→Prop} (hs:∀ x y,M x y→M y x) {lo hi a b:Nat} (h:Path M lo hi a b):Path M lo hi b a:=by
 induction h with
 | refl g1 g2=>exact .refl g1 g2
 | step g1 g2 g3 k ih=>exact ih.trans (.one k.head.1 k.head.2 g1 g2 (hs _ _ g3))
def Row (K:Nat→Nat→Prop) (p x:Nat):Prop:=x=p∨K p x
def Adj (K:Nat→Nat→Prop) (p x y:Nat):Prop:=Row K p x∧Row K p y∧x<y∧∀ r,Row K p r→¬ (x<r∧r<y)
def Sym (K:Nat→Nat→Prop) (x y:Nat):Prop:=K x y∧K y x
theorem Sym.symm {K:Nat→Nat→Prop} {x y:Nat} (h:Sym K x y):Sym K y x:=⟨h.2,h.1⟩
def Rnd (K K':Nat→Nat→Prop):Prop:=∀ p x y,Adj K p x y→Sym K' x y
section
variable {K K':Nat→Nat→Prop}
theorem chain (hR:Rnd K K') (p:Nat):∀ (d x y:Nat),y-x≤d→Row K p x→Row K p y→x<y→Path (Sym K') x y x y:=by
 intro d
 induction d with
 | zero=>intro x y h _ _ hl;omega
 | succ d ih =>
  intro x y h hx hy hl
  by_cases hb:∃ r,Row K p r∧x<r∧r<y
  ·obtain ⟨r,hr,h1,h2⟩:=hb
   have p1:=ih x r (by omega) hx hr h1
   have p2:=ih r y (by omega) hr hy h2
   exact (p1.mono (fun _ _ h=>h) (by omega) (by omega)).trans (p2.mono (fun _ _ h=>h) (by omega) (by omega))
  ·exact .one (by omega) (by omega) (by omega) (by omega) (hR p x y ⟨hx,hy,hl,fun r hr hh=>hb ⟨r,hr,hh⟩⟩)
theorem joined (hR:Rnd K K') {p x y lo hi:Nat} (hx:Row K p x) (hy:Row K p y) (h1:lo≤x) (h2:x≤hi) (h3:lo≤y) (h4:y≤hi):Path (Sym K') lo hi x y:=by
 rcases Nat.lt_trichotomy x y with h | h | h
 ·exact (chain hR p _ x y (Nat.le_refl _) hx hy h).mono (fun _ _ h=>h) h1 h4
 ·subst h;exact .refl h1 h2
 ·exact ((chain hR p _ y x (Nat.le_refl _) hy hx h).mono (fun _ _ h=>h) h3 h2).symm (fun _ _ h=>h.symm)
theorem edge (hR:Rnd K K') {a c lo hi:Nat} (h:K a c∨K c a) (h1:lo≤a) (h2:a≤hi) (h3:lo≤c) (h4:c≤hi):Path (Sym K') lo hi a c:=by
 rcases h with h | h
 ·exact joined hR (p:=a) (.inl rfl) (.inr h) h1 h2 h3 h4
 ·exact joined hR (p:=c) (.inr h) (.inl rfl) h1 h2 h3 h4
theorem keep (hR:Rnd K K') {lo hi a b:Nat} (h:Path (fun x y=>K x y∨K y x) lo hi a b):Path (Sym K') lo hi a b:=by
 induction h with
 | refl g1 g2=>exact .refl g1 g2
 | step g1 g2 g3 k ih=>exact (edge hR g3 g1 g2 k.head.1 k.head.2).trans ih
theorem lower (hR:Rnd K K') (hirr:∀ x,¬ K x x) {lo hi a b:Nat} (h:Path (Sym K) lo (hi+1) a b) (hb:b≤hi) :
  (a≤hi→Path (Sym K') lo hi a b)∧(a=hi+1→∀ e,K (hi+1) e→lo≤e→e≤hi→Path (Sym K') lo hi e b):=by
 induction h with
 | refl g1 g2=>exact ⟨fun h=>.refl g1 h,fun h=>by omega⟩
 | step g1 g2 g3 k ih =>
  rename_i a c b
  obtain ⟨i1,i2⟩:=ih hb
  refine ⟨fun ha=>?_,fun ha e he h1 h2=>?_⟩
  ·by_cases hc:c≤hi
   ·exact (edge hR (.inl g3.1) g1 ha k.head.1 hc).trans (i1 hc)
   ·have hc:c=hi+1:=by have:=k.head.2;omega
    subst hc
    exact i2 rfl a g3.2 g1 ha
  ·subst ha
   have hc:c≤hi:=by
    have:=k.head.2
    rcases Nat.lt_or_ge c (hi+1) with h | h
    ·omega
    ·have:c=hi+1:=by omega
     subst this
     exact absurd g3.1 (hirr _)
   exact (joined hR (p:=hi+1) (.inr he) (.inr g3.1) h1 h2 k.head.1 hc).trans (i1 hc)
end
theorem pair {M:Nat→Nat→Prop} {i b:Nat} (h:Path M i (i+1) i b) (hb:b=i+1) (hirr:∀ x,¬ M x x):M i (i+1):=by
 have gen:∀ a b,Path M i (i+1) a b→a=i→b=i+1→M i (i+1):=by
  intro a b h
  induction h with
  | refl _ _=>intro h1 h2;omega
  | step g1 g2 g3 k ih =>
   rename_i a c b
   intro h1 h2
   subst h1
   have:=k.head
   rcases (show c=a∨c=a+1 by omega) with h | h
   ·subst h;exact absurd g3 (hirr _)
   ·subst h;exact g3
 exact gen i b h rfl hb
section
variable {n:Nat} {K:Nat→Nat→Nat→Prop}
end
end Lin
def updF {α:Type} (T:α→α) (l:List α) (k:Nat):List α:=(l.take k).map T++l.drop k
section
variable {α:Type} {T:α→α} {l:List α} {k:Nat}
theorem updF_zero:updF T l 0=l:=by simp [updF]
theorem updF_len:(updF T l k).length=l.length:=by simp [updF];omega
theorem updF_all:updF T l l.length=l.map T:=by simp [updF]
theorem updF_get {y:α} (hy:l[k]?=some y):(updF T l k)[k]?=some y:=by
 have hk:k<l.length:=(List.getElem?_eq_some_iff.1 hy).1
 have hl:((l.take k).map T).length=k:=by simp;omega
 unfold updF
 rw [List.getElem?_append_right (by omega),hl,Nat.sub_self,List.getElem?_drop,Nat.add_zero]
 exact hy
theorem updF_succ {y:α} (hy:l[k]?=some y):updF T l (k+1)=(updF T l k).set k (T y):=by
 have hk:k<l.length:=(List.getElem?_eq_some_iff.1 hy).1
 have hl:((l.take k).map T).length=k:=by simp;omega
 have ht:l.take (k+1)=l.take k++[y]:=by rw [List.take_add_one,hy];rfl
 have hd:l.drop k=y::l.drop (k+1):=by
  rw [List.drop_eq_getElem_cons hk]
  have:l[k]=y:=by rw [List.getElem?_eq_getElem hk] at hy;exact Option.some.inj hy
  rw [this]
 unfold updF
 rw [ht,hd,List.map_append,List.append_assoc,List.set_append_right _ _ (by omega),hl,Nat.sub_self]
 rfl
theorem updF_same {y:α} (hy:l[k]?=some y) (ht:T y=y):updF T l (k+1)=updF T l k:=by
 rw [updF_succ hy,ht]
 obtain ⟨hk,e⟩:=List.getElem?_eq_some_iff.1 (updF_get (T:=T) hy)
 exact (congrArg _ e.symm).trans (List.set_getElem_self hk)
end
theorem mod_set {α:Type} {f:α→α} {l:List α} {i:Nat} {q:α} (h:l[i]?=some q):l.modify i f=l.set i (f q):=by
 apply List.ext_getElem?
 intro j
 rw [List.getElem?_modify,List.getElem?_set]
 by_cases hj:i=j
 ·subst hj
  obtain ⟨hl,he⟩:=List.getElem?_eq_some_iff.1 h
  simp [hl,he]
 ·simp [hj]
theorem OwnL.slv {α:Type} {sz e base:Nat} {enc:α→List Value} {w:World} {a:Option Addr} {n c:Nat} {l:List α} (h:OwnL sz enc e base w (.slice a n c) l) (hsz:∀ y,(enc y).length=sz):Sl sz enc w a n l:=by
 obtain ⟨a',c',e',r',_⟩:=h.rd hsz
 simp only [Value.slice.injEq] at e'
 obtain ⟨rfl,rfl,rfl⟩:=e'
 exact Rd.mono r' (fun _ hk=>hk.2)
end Go.Proofs.YthcholmhmcpooaaGreatDoor
namespace Go.Proofs.YthcholmhmcpooaaGreatDoor
open Go.RowKit Go.Maps
abbrev keyI (v:Int):Lit:=.int .i64 v
def SetM (P:Program) (k e:TypeId) (w:World) (b:Nat) (S:List Int):Prop :=
 w.ownsMap (H:=Unit) P k (plainElem P e) b S.length (setOf (.lit (.bool true)) (S.map keyI))
section
variable {P:Program} {k e t:TypeId} {w w':World} {b:Nat} {S:List Int}
theorem SetM.made (w:World) (P:Program) (k e:TypeId):SetM P k e (w.alloc (.map #[] 0)) w.heap.size []:=World.ownsMap_made _ _ _ _
theorem SetM.lt (h:SetM P k e w b S):b<w.heap.size:=World.ownsMap.lt h
theorem SetM.same (h:SetM P k e w b S) (hh:w'.heap[b]?=w.heap[b]?):SetM P k e w' b S:=by
 obtain ⟨es,clock,hb,r⟩:=h
 exact ⟨es,clock,hh.trans hb,r⟩
theorem SetM.nx (h:SetM P k e w b S) (kk:Ex w w'):SetM P k e w' b S:=h.same (kk.block b h.lt)
theorem SetM.nxb {c:Nat} (h:SetM P k e w b S) (hc:b≠c) (kk:Exb c w w'):SetM P k e w' b S:=h.same (kk.block b ⟨h.lt,hc⟩)
theorem key_lit (v:Int):WideAt.IsKeyLit (keyI v):=by
 unfold keyI WideAt.IsKeyLit
 trivial
theorem set_atKey (S:List Int) (v:Int):(setOf (H:=Unit) (.lit (.bool true)) (S.map keyI)).atKey (keyI v) (.lit (.bool false))=.lit (.bool (S.contains v)):=by
 have key:∀ n,∀ S:List Int,S.length=n→(setOf (H:=Unit) (.lit (.bool true)) (S.map keyI)).atKey (keyI v) (.lit (.bool false))=.lit (.bool (S.contains v)):=by
  intro n
  induction n with
  | zero =>
   intro S h
   rw [List.length_eq_zero_iff.1 h]
   rfl
  | succ n ih =>
   intro S h
   rcases List.eq_nil_or_concat S with rfl | ⟨S',x,rfl⟩
   ·cases h
   ·rw [List.concat_eq_append] at h ⊢
    have hi:=ih S' (by simpa using h)
    rw [List.map_append,List.map_singleton,setOf_snoc]
    by_cases hx:v=x
    ·subst hx
     rw [atKey_put_same (tidy_setOf _ _ (by intro y hy;obtain ⟨z,_,rfl⟩:=List.mem_map.1 hy;exact key_lit z)).isMap (key_lit v)]
     simp
    ·rw [atKey_put_other (by simpa [keyI] using hx),hi]
     congr 2
     rw [Bool.eq_iff_iff]
     simp [hx]
 exact key _ S rfl
theorem plainElem_bool_inv (he:P.underlying e=some .bool) {v:Value} {x:Bool} {ps:List MemPlace} (h:plainElem (H:=Unit) P e v=some (.lit (.bool x),ps)):v=.bool x:=by
 unfold plainElem at h
 rw [he] at h
 cases v<;>simp at h
 rw [h.1]
theorem SetM.get (h:SetM P k e w b S) (hk:P.underlying k=some (.int .i64)) (he:P.underlying e=some .bool) (ht:P.underlying t=some (.map k e)) (hz:(zeroValue e).run P w=.ok (.bool false) w) {v:Int} (hv:(Lit.int .i64 v).wf=true) :
  (Instr.lookup t (.map (some b)) (.int .i64 v) false).run P w=.ok (.bool (S.contains v)) w:=by
 obtain ⟨u,ps,hrun,hR⟩:=World.ownsMap.lookup (t:=t) (e:=e) h (int_keyed hk) ht hz (plainElem_bool he false) (keyOf_int_mk hk hv)
 rw [set_atKey] at hR
 rw [hrun,plainElem_bool_inv he hR]
theorem turned_exb (h:w.mapTurned w' b):Exb b w w':=by
 have g:=h.grown
 exact ⟨g.os,g.tape,g.output,g.size,fun k hk=>g.block k hk.1 (by simpa using hk.2)⟩
theorem SetM.put (h:SetM P k e w b S) (hk:P.underlying k=some (.int .i64)) (he:P.underlying e=some .bool) (ht:P.underlying t=some (.map k e)) (hS:S.length<1000000) {v:Int} (hv:(Lit.int .i64 v).wf=true) :
  ∃ w',(Instr.mapUpdate t (.map (some b)) (.int .i64 v) (.bool true)).run P w=.ok () w'∧SetM P k e w' b (S++[v])∧Exb b w w'∧w'.heap.size=w.heap.size:=by
 obtain ⟨w',hrun,ho,ht'⟩:=World.ownsMap.store (t:=t) (e:=e) h (int_keyed hk) ht (by unfold maxLen;omega) (keyOf_int_mk hk hv) (plainElem_bool he true)
 refine ⟨w',hrun,?_,turned_exb ht',?_⟩
 ·unfold SetM
  rw [List.map_append,List.map_singleton,setOf_snoc,List.length_append,List.length_singleton]
  exact ho
 ·obtain ⟨es,clock,es',clock',hb,rfl⟩:=ht'
  simp [Go.ChangeMaps.setBlock]
theorem set_size (hS:S.Nodup):size (setOf (H:=Unit) (.lit (.bool true)) (S.map keyI))=S.length:=by
 have key:∀ n,∀ S:List Int,S.length=n→S.Nodup→size (setOf (H:=Unit) (.lit (.bool true)) (S.map keyI))=S.length:=by
  intro n
  induction n with
  | zero =>
   intro S h _
   rw [List.length_eq_zero_iff.1 h]
   rfl
  | succ n ih =>
   intro S h hS
   rcases List.eq_nil_or_concat S with rfl | ⟨S',x,rfl⟩
   ·cases h
   ·rw [List.concat_eq_append] at h hS ⊢
    have hk:∀ y∈S'.map keyI,WideAt.IsKeyLit y:=by intro y hy;obtain ⟨z,_,rfl⟩:=List.mem_map.1 hy;exact key_lit z
    rw [List.map_append,List.map_singleton,setOf_snoc,size_put (tidy_setOf _ _ hk),has_setOf _ _ _ hk,ih S' (by simpa using h) (List.nodup_append.1 hS).1,if_neg]
    ·simp
    ·intro hc
     obtain ⟨y,hy,hyx⟩:=List.any_eq_true.1 hc
     obtain ⟨z,hz,rfl⟩:=List.mem_map.1 hy
     have:z=x:=by
      by_cases hzx:z=x
      ·exact hzx
      ·rw [sameKey_ne (by simpa [keyI] using hzx)] at hyx;cases hyx
     exact (List.nodup_append.1 hS).2.2 z hz x (by simp) this
 exact key _ S rfl hS
theorem SetM.len (h:SetM P k e w b S) (ht:P.underlying t=some (.map k e)) (hS:S.Nodup) (ty:TypeId):(Builtin.len_ #[t] ty #[.map (some b)]).run P w=.ok (.int .i64 S.length) w:=by
 rw [World.ownsMap.len h ht ty,set_size hS]
end
theorem wp_append_rdW {P:Program} {α:Type} {enc:α→List Value} {o:Oper} {a:Act} {K:Act→World→Prop} {Q:Exit→Act→World→Prop} (w0:World) (s x:Operand) (t:TypeId)
  (ho:o.op=.call { callee:=.builtin .append,args:=#[s,x],argTypes:=#[t,t] })
  (base:Nat) (e:TypeId) (z:Value) (sz bytes:Nat) (ht:P.underlying t=some (.slice e)) (hi:(P.info? e).map (fun i=>(i.zero,i.size,i.bytes))=some (some z,sz,bytes))
  (hzs:z.cells.size=sz) (hsz:0<sz) (hby:bytes≤65536)
  (v:Value) (l:List α) (hown:OwnL sz enc e base w0 v l) (hs:a.eval s=v) (S:Nat→Prop) (A:Option Addr) (n c:Nat) (news:List α) (hrd:Rd sz enc S w0 A n news) (hA:A=none→c=0) (hlen:∀ y,(enc y).length=sz) (h1:∀ y,∀ u∈enc y,u.oneCell'=true)
  (hx:a.eval x=.slice A n c) (hb1:0<bytes) (hmul:(l.length+n)*bytes≤140737488355328) (hbase:base≤w0.heap.size)
  (h:∀ v' w',OwnL sz enc e base w' v' (l++news)→Chg (fun k=>k<w0.heap.size∧¬ v.ownBlock=some k) w0 w'→Chg (· < base) w0 w'→K (a.put o.dst v') w') :
  o.wp P a w0 K Q:=by
 obtain ⟨i,hi,hz0,hz1,hz2⟩:=info_parts hi
 have hlen2:l.length+n≤(l.length+n)*bytes:=Nat.le_mul_of_pos_right _ hb1
 have hnl:=hrd.1
 cases A with
 | none =>
  have hc:=hA rfl
  have hn0:n=0:=by
   rcases hrd.2 with h0 | ⟨x,o,e1,_⟩
   ·exact h0
   ·cases e1
  subst hn0 hc
  have hnews:news=[]:=List.eq_nil_of_length_eq_zero hnl
  subst hnews
  refine wp_append_none s x t ho base e i sz ht hi v l.length (l.flatMap enc) hs hown hx ?_
  exact h v w0 (by simpa using hown) (Chg.refl _ _) (Chg.refl _ _)
 | some ad =>
  refine wp_append_own _ s x t ho base e i z sz bytes ht hi hz0 hz1 hz2 hzs hsz v l.length (l.flatMap enc) hs hown ad n c (news.flatMap enc) hx ?_ ?_ ?_ (by unfold maxLen;omega) (by omega) hbase ?_
  ·have:∀ l:List α,(l.flatMap enc).length=l.length*sz:=by
    intro l
    induction l with
    | nil=>simp
    | cons y r ih=>rw [List.flatMap_cons,List.length_append,hlen,ih,List.length_cons,Nat.succ_mul];omega
   rw [this,hnl]
  ·intro j u hu
   have hj:=(List.getElem?_eq_some_iff.1 hu).1
   rcases hrd.2 with h0 | ⟨x,o,e1,_,e3⟩
   ·subst h0
    have:news=[]:=List.eq_nil_of_length_eq_zero hnl
    subst this
    simp at hj
   ·cases e1
    rw [Addr.add_lit]
    have hdiv:∃ y,news[j / sz]?=some y∧(enc y)[j % sz]?=some u:=by
     clear e3 hmul hlen2 hown h hx hrd
     induction news generalizing j n with
     | nil=>simp at hu
     | cons y r ih =>
      rw [List.flatMap_cons] at hu
      by_cases hlt:j<sz
      ·rw [List.getElem?_append_left (by rw [hlen];exact hlt)] at hu
       exact ⟨y,by rw [Nat.div_eq_of_lt hlt];rfl,by rw [Nat.mod_eq_of_lt hlt];exact hu⟩
      ·rw [List.getElem?_append_right (by rw [hlen];omega),hlen] at hu
       obtain ⟨y',h1',h2'⟩:=ih (n:=n-1) (j:=j-sz) (by simp at hnl;omega) hu (List.getElem?_eq_some_iff.1 hu).1
       have e1:j / sz=(j-sz) / sz+1:=by
        rw [Nat.div_eq_sub_div hsz (by omega)]
       have e2:j % sz=(j-sz) % sz:=by
        rw [Nat.mod_eq_sub_mod (by omega)]
       exact ⟨y',by rw [e1];simpa using h1',by rw [e2];exact h2'⟩
    obtain ⟨y,hy1,hy2⟩:=hdiv
    have:=e3 _ y hy1 _ u hy2
    rw [Nat.add_assoc,Nat.mul_comm,Nat.div_add_mod] at this
    exact this
  ·intro u hu
   obtain ⟨y,_,hy⟩:=List.mem_flatMap.1 hu
   exact h1 y u hy
  ·intro v' w' hown' hgrow hnil
   have hch:Chg (fun k=>k<w0.heap.size∧¬ v.ownBlock=some k) w0 w':=⟨hgrow.os,hgrow.tape,hgrow.output,hgrow.size,fun k hk=>hgrow.block k hk.1 (fun h=>hk.2 h.symm)⟩
   refine h v' w' ?_ hch (hch.mono fun k hk=>⟨by omega,fun hv=>?_⟩)
   ·unfold OwnL
    simpa [List.flatMap_append,hnl] using hown'
   ·have:=hown.lt k hv
    omega
def gB (l:List Nat) (i:Nat):Nat:=l[i]?.getD 0
def bigB (a b:Nat):Bool:=decide (2*min a b+4<max a b)
def shiftI (l:List Nat):Option Nat:=(List.range (l.length-1)).find? fun i=>bigB (gB l i) (gB l (i+1))
def mostN (l:List Nat) (k:Nat):Nat:=(List.range k).foldl (fun m i=>if gB l m<gB l i then i else m) 0
def leastN (l:List Nat) (k:Nat):Nat:=(List.range k).foldl (fun m i=>if gB l i<gB l m then i else m) 0
def mostI (l:List Nat):Nat:=mostN l l.length
def leastI (l:List Nat):Nat:=leastN l l.length
def toI (l:List Nat):Nat:=if leastI l=0∨(leastI l+1<l.length∧gB l (leastI l+1)<gB l (leastI l-1)) then leastI l+1 else leastI l-1
def stepBl (l:List Nat):Option (Nat×Nat×Nat×Nat×Nat) :=
 match shiftI l with
 | some i=>some (1,if gB l i<gB l (i+1) then i+1 else i,if gB l i<gB l (i+1) then i else i+1,0,(max (gB l i) (gB l (i+1))-min (gB l i) (gB l (i+1))) / 2)
 | none=>if l.length<3 then none else if gB l (mostI l)≤4*(gB l (leastI l)+gB l (toI l))+8 then none else some (2,leastI l,toI l,mostI l,gB l (mostI l) / 2)
theorem mostN_succ (l:List Nat) (k:Nat):mostN l (k+1)=if gB l (mostN l k)<gB l k then k else mostN l k:=by
 unfold mostN
 rw [List.range_succ,List.foldl_append]
 rfl
theorem leastN_succ (l:List Nat) (k:Nat):leastN l (k+1)=if gB l k<gB l (leastN l k) then k else leastN l k:=by
 unfold leastN
 rw [List.range_succ,List.foldl_append]
 rfl
theorem mostN_lt (l:List Nat):∀ k,mostN l (k+1)≤k
 | 0=>by rw [mostN_succ];show (if _ then 0 else 0)≤0;split<;>omega
 | k+1=>by
  rw [mostN_succ]
  have:=mostN_lt l k
  split<;>omega
theorem leastN_lt (l:List Nat):∀ k,leastN l (k+1)≤k
 | 0=>by rw [leastN_succ];show (if _ then 0 else 0)≤0;split<;>omega
 | k+1=>by
  rw [leastN_succ]
  have:=leastN_lt l k
  split<;>omega
theorem shiftI_some {l:List Nat} {i:Nat} (h:shiftI l=some i):i+1<l.length∧2*min (gB l i) (gB l (i+1))+4<max (gB l i) (gB l (i+1)):=by
 unfold shiftI at h
 have h1:=List.mem_of_find?_eq_some h
 have h2:=List.find?_some h
 rw [List.mem_range] at h1
 unfold bigB at h2
 exact ⟨by omega,by simpa using h2⟩
theorem shiftI_none {l:List Nat} (h:∀ i,i+1<l.length→bigB (gB l i) (gB l (i+1))=false):shiftI l=none:=by
 unfold shiftI
 rw [List.find?_eq_none]
 intro i hi
 rw [List.mem_range] at hi
 rw [h i (by omega)]
 simp
theorem shiftI_first {l:List Nat} {k:Nat} (hk:k+1<l.length) (hb:bigB (gB l k) (gB l (k+1))=true) (h:∀ i,i<k→bigB (gB l i) (gB l (i+1))=false):shiftI l=some k:=by
 unfold shiftI
 rw [List.find?_range_eq_some]
 exact ⟨hb,by rw [List.mem_range];omega,fun j hj=>by rw [h j hj];simp⟩
theorem move_facts {l:List Nat} (h3:3≤l.length) (hm:¬ gB l (mostI l)≤4*(gB l (leastI l)+gB l (toI l))+8) :
  leastI l<l.length∧mostI l<l.length∧toI l<l.length∧(toI l=leastI l+1∨toI l+1=leastI l)∧mostI l≠leastI l∧mostI l≠toI l:=by
 obtain ⟨k,hk⟩:∃ k,l.length=k+1:=⟨l.length-1,by omega⟩
 have h1:leastI l<l.length:=by
  have:=leastN_lt l k
  unfold leastI
  rw [hk]
  omega
 have h2:mostI l<l.length:=by
  have:=mostN_lt l k
  unfold mostI
  rw [hk]
  omega
 have h4:toI l<l.length∧(toI l=leastI l+1∨toI l+1=leastI l):=by
  unfold toI
  split
  ·rename_i h
   rcases h with h | h
   ·exact ⟨by omega,.inl rfl⟩
   ·exact ⟨h.1,.inl rfl⟩
  ·rename_i h
   exact ⟨by omega,.inr (by omega)⟩
 refine ⟨h1,h2,h4.1,h4.2,fun e=>hm ?_,fun e=>hm ?_⟩
 ·rw [e];omega
 ·rw [e];omega
def potB (l:List Nat):Nat:=(l.map fun x=>x*x).sum
theorem pot_cons (x:Nat) (l:List Nat):potB (x::l)=x*x+potB l:=by unfold potB;rw [List.map_cons,List.sum_cons]
theorem pot_nil:potB []=0:=rfl
theorem pot_le:∀ l:List Nat,potB l≤l.sum*l.sum
 | []=>by simp [pot_nil]
 | x::l=>by
  rw [pot_cons,List.sum_cons]
  have:=pot_le l
  have e:(x+l.sum)*(x+l.sum)=x*x+2*(x*l.sum)+l.sum*l.sum:=by
   rw [Nat.add_mul,Nat.mul_add,Nat.mul_add,Nat.mul_comm l.sum x]
   omega
  omega
theorem pot_shift {a b c:Nat} (hc:c=(a-b) / 2) (h:b+5≤a):(a-c)*(a-c)+(b+c)*(b+c)+12≤a*a+b*b:=by
 obtain ⟨d,rfl⟩:∃ d,a=b+d:=⟨a-b,by omega⟩
 obtain ⟨e,rfl⟩:∃ e,d=c+e:=⟨d-c,by omega⟩
 have h1:2≤c:=by omega
 have h2:3≤e:=by omega
 have e1:b+(c+e)-c=b+e:=by omega
 rw [e1]
 have x1:(b+e)*(b+e)=b*b+2*(b*e)+e*e:=by rw [Nat.add_mul,Nat.mul_add,Nat.mul_add,Nat.mul_comm e b];omega
 have x2:(b+c)*(b+c)=b*b+2*(b*c)+c*c:=by rw [Nat.add_mul,Nat.mul_add,Nat.mul_add,Nat.mul_comm c b];omega
 have x3:(b+(c+e))*(b+(c+e))=b*b+2*(b*c)+2*(b*e)+(c*c+2*(c*e)+e*e):=by
  have y1:(c+e)*(c+e)=c*c+2*(c*e)+e*e:=by rw [Nat.add_mul,Nat.mul_add,Nat.mul_add,Nat.mul_comm e c];omega
  rw [Nat.add_mul,Nat.mul_add,Nat.mul_comm (c+e) (b+(c+e)),Nat.add_mul,y1,Nat.mul_add]
  omega
 have x4:6≤c*e:=by
  have:=Nat.mul_le_mul h1 h2
  omega
 omega
theorem pot_move {m t M c:Nat} (hc:c=M / 2) (h:4*(m+t)+8<M):(t+m)*(t+m)+(M-c)*(M-c)+c*c+12≤m*m+t*t+M*M:=by
 obtain ⟨e,rfl⟩:∃ e,M=c+e:=⟨M-c,by omega⟩
 have e1:c+e-c=e:=by omega
 rw [e1]
 have h1:2*(m+t)+4≤c:=by omega
 have h2:2*(m+t)+4≤e:=by omega
 have x1:(t+m)*(t+m)=t*t+2*(t*m)+m*m:=by rw [Nat.add_mul,Nat.mul_add,Nat.mul_add,Nat.mul_comm m t];omega
 have x2:(c+e)*(c+e)=c*c+2*(c*e)+e*e:=by rw [Nat.add_mul,Nat.mul_add,Nat.mul_add,Nat.mul_comm e c];omega
 have x3:(t+4)*(m+4)≤c*e:=Nat.mul_le_mul (by omega) (by omega)
 have x4:(t+4)*(m+4)=t*m+4*t+4*m+16:=by rw [Nat.add_mul,Nat.mul_add,Nat.mul_add];omega
 omega
end Go.Proofs.YthcholmhmcpooaaGreatDoor
namespace Go.Proofs.YthcholmhmcpooaaGreatDoor
open Go.RowKit Go.Maps
open Go.ChangeMaps Go.MapKept
open Go.WideElems (Fit findIdx_born findIdx_arr modify_last set_self)
def rawR (v:Value):Option (DataW Value×List MemPlace):=some (.held v,[])
abbrev nilS:Value:=.slice none 0 0
def RawM (P:Program) (k:TypeId) (w:World) (b n:Nat) (f:Int→Value):Prop :=
 ∃ D,w.ownsMap P k rawR b n D∧∀ v,D.atKey (keyI v) (.held nilS)=.held (f v)
def upd (f:Int→Value) (v:Int) (u:Value):Int→Value:=fun x=>if x=v then u else f x
section
variable {P:Program} {k e t:TypeId} {w w':World} {b n:Nat} {f:Int→Value}
theorem RawM.made (w:World) (P:Program) (k:TypeId):RawM P k (w.alloc (.map #[] 0)) w.heap.size 0 (fun _=>nilS):=⟨_,World.ownsMap_made _ _ _ _,fun _=>rfl⟩
theorem RawM.lt (h:RawM P k w b n f):b<w.heap.size:=by obtain ⟨D,h,_⟩:=h;exact World.ownsMap.lt h
theorem RawM.same (h:RawM P k w b n f) (hh:w'.heap[b]?=w.heap[b]?):RawM P k w' b n f:=by
 obtain ⟨D,⟨es,clock,hb,r⟩,hf⟩:=h
 exact ⟨D,⟨es,clock,hh.trans hb,r⟩,hf⟩
theorem RawM.nx (h:RawM P k w b n f) (kk:Ex w w'):RawM P k w' b n f:=h.same (kk.block b h.lt)
theorem RawM.nxb {c:Nat} (h:RawM P k w b n f) (hc:b≠c) (kk:Exb c w w'):RawM P k w' b n f:=h.same (kk.block b ⟨h.lt,hc⟩)
theorem RawM.get (h:RawM P k w b n f) (hk:P.underlying k=some (.int .i64)) (ht:P.underlying t=some (.map k e)) (hz:(zeroValue e).run P w=.ok nilS w) {v:Int} (hv:(Lit.int .i64 v).wf=true) :
  (Instr.lookup t (.map (some b)) (.int .i64 v) false).run P w=.ok (f v) w:=by
 obtain ⟨D,h,hf⟩:=h
 obtain ⟨u,ps,hrun,hR⟩:=World.ownsMap.lookup (t:=t) (e:=e) h (int_keyed hk) ht hz (zd:=.held nilS) (zp:=[]) rfl (keyOf_int_mk hk hv)
 rw [hf] at hR
 unfold rawR at hR
 simp only [Option.some.injEq,Prod.mk.injEq,DataW.held.injEq] at hR
 rw [hrun,hR.1]
theorem raw_put {D:DataW Value} (hD:IsMap D) (hf:∀ v,D.atKey (keyI v) (.held nilS)=.held (f v)) (v:Int) (u:Value):∀ x,(D.put (keyI v) (.held u)).atKey (keyI x) (.held nilS)=.held (upd f v u x):=by
 intro x
 unfold upd
 by_cases hx:x=v
 ·subst hx
  rw [atKey_put_same hD (key_lit x),if_pos rfl]
 ·rw [atKey_put_other (by simpa [keyI] using hx),hf,if_neg hx]
theorem RawM.put (h:RawM P k w b n f) (hk:P.underlying k=some (.int .i64)) (ht:P.underlying t=some (.map k e)) (hn:n<100000000) {v:Int} (hv:(Lit.int .i64 v).wf=true) (u:Value) :
  ∃ w',(Instr.mapUpdate t (.map (some b)) (.int .i64 v) u).run P w=.ok () w'∧RawM P k w' b (n+1) (upd f v u)∧Exb b w w'∧w'.heap.size=w.heap.size:=by
 obtain ⟨D,h,hf⟩:=h
 obtain ⟨w',hrun,ho,ht'⟩:=World.ownsMap.store (t:=t) (e:=e) (val:=u) (d:=.held u) (ps:=[]) h (int_keyed hk) ht (by unfold maxLen;omega) (keyOf_int_mk hk hv) rfl
 refine ⟨w',hrun,⟨_,ho,raw_put h.isMap hf v u⟩,turned_exb ht',?_⟩
 obtain ⟨es,clock,es',clock',hb,rfl⟩:=ht'
 simp [Go.ChangeMaps.setBlock]
end
theorem Tryz.gLet : Tryz.prog.globalNamed "skipgraph/skipgraphworld.letters" = some 0 := by kernel_rfl
theorem Tryz.tLet:(Tryz.prog.globals[0]?).map (·.type)=some 133:=by kernel_rfl
theorem Tryz.cells6:Tryz.prog.cellsOf 133=6:=by kernel_rfl
theorem Tryz.cellsStr:Tryz.prog.cellsOf 9=1:=by kernel_rfl
def letL:List (List UInt8):=[[97],[98],[99],[0],[255],[109]]
theorem cells_of_strs {H:Type} {enc:TypeId×Value→H} {P:Program} {w:World} {base:Nat} {sp:Nat→Bool} {held:Bool} {fuel:Nat} {t e:TypeId} {n:Nat} {cs:List Value} {zs:List (List UInt8)} {p:List MemPlace}
  (ht:P.underlying t=some (.array n e)) (he:P.underlying e=some .string) (hce:P.cellsOf e=1) (hct:P.cellsOf t=n)
  (h:DataW.trod enc P w base sp held fuel t cs=some (.agg (zs.map fun z=>.lit (.string z)),p)):∀ (i:Nat) (z:List UInt8),zs[i]?=some z→∃ s:ByteArray,s.data.toList=z∧cs[i]?=some (.string s):=by
 cases fuel with
 | zero=>simp [DataW.trod] at h
 | succ fuel =>
  simp only [DataW.trod,ht,hce,hct,Nat.mul_one] at h
  split at h
  ·rename_i hl
   obtain ⟨xs,hm,hx⟩:=Option.map_eq_some_iff.1 h
   have hxs:xs.map (·.1)=zs.map fun z=>(DataW.lit (.string z):DataW H):=by
    have:=congrArg Prod.fst hx
    simpa using this
   have hxl:xs.length=n:=by simpa using Lib.mapM_length hm
   have hzl:zs.length=n:=by
    have:=congrArg List.length hxs
    simp at this
    omega
   intro i z hz
   have hi:i<n:=by have:=(List.getElem?_eq_some_iff.1 hz).1;omega
   obtain ⟨b,hb,hf⟩:=Lib.mapM_at hm i i (by simp [hi])
   obtain ⟨s,hc,rfl,_⟩:=DataW.trod_string he hf
   have h1:cs[i]?=some (.string s):=by
    have:=congrArg (·[0]?) hc
    simpa [List.getElem?_take,List.getElem?_drop] using this
   have h2:(xs.map (·.1))[i]?=some (DataW.lit (.string s.data.toList):DataW H):=by simp [hb]
   rw [hxs] at h2
   simp only [List.getElem?_map,Option.map_eq_some_iff,DataW.lit.injEq,Lit.string.injEq] at h2
   obtain ⟨z',hz',hzz⟩:=h2
   have:z=z':=Option.some.inj (hz.symm.trans hz')
   exact ⟨s,by rw [this,hzz],h1⟩
  ·cases h
theorem laid_let {H:Type}:(Rows.laid_skipgraph_skipgraphworld_letters:DataW H)=.agg (letL.map fun z=>.lit (.string z)):=rfl
theorem letG_head {rest : List (String × DataW Unit)} {W : World} (h : laidMet Tryz.prog (("skipgraph/skipgraphworld.letters", .agg (letL.map fun z => .lit (.string z))) :: rest) W) : LetG W := by
 obtain ⟨ps,⟨g',t',cs,fuel,p,q,hg',ht',hvar,hd,_,_⟩,_⟩:=h
 obtain rfl:=Option.some.inj (Tryz.gLet.symm.trans hg')
 obtain rfl:=Option.some.inj (Tryz.tLet.symm.trans ht')
 intro j hj
 obtain ⟨z,hz⟩:∃ z,letL[j]?=some z:=⟨letL[j]'(by simp [letL];omega),by simp⟩
 obtain ⟨s,h1,h2⟩:=cells_of_strs Tryz.underlying133 Tryz.underlying9 Tryz.cellsStr Tryz.cells6 hd j z hz
 refine ⟨s,?_,?_⟩
 ·have hl:z.length=1:=by
   have:∀ j,j<6→(letL[j]?.getD []).length=1:=by decide
   have:=this j hj
   rw [hz] at this
   exact this
  have:s.data.toList.length=1:=by rw [h1];exact hl
  rw [Array.length_toList] at this
  exact this
 ·rw [World.var?_cell Tryz.gLet hvar j]
  simpa using h2
theorem letG_second {x : String × DataW Unit} {W : World} (h : laidMetH Tryz.prog [x, ("skipgraph/skipgraphworld.letters", Rows.laid_skipgraph_skipgraphworld_letters)] W)
  (hp : ([x, ("skipgraph/skipgraphworld.letters", Rows.laid_skipgraph_skipgraphworld_letters)].all fun x => x.2.handleName?.isNone) = true) (hx : decide (x.1 = "skipgraph/skipgraphworld.letters") = false) : LetG W := by
 rw [MakeChecks.laidMetH_plain _ _ _ hp,laid_let] at h
 have h2 := h.filter (fun y => decide (y.1 = "skipgraph/skipgraphworld.letters"))
 rw [List.filter_cons_of_neg (by rw [hx];simp),List.filter_cons_of_pos (by simp),List.filter_nil] at h2
 exact letG_head h2
end Go.Proofs.YthcholmhmcpooaaGreatDoor
