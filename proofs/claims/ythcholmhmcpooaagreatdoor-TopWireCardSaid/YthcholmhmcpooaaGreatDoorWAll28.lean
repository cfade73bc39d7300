/- Shared texts. -/
import Derived.Deep.LoopGhost
import Derived.Test.YthcholmhmcpooaaGreatDoorWAll22
import Derived.Test.YthcholmhmcpooaaGreatDoorWAll25
set_option linter.unusedSimpArgs false
set_option linter.unusedVariables false

namespace Go.Proofs.YthcholmhmcpooaaGreatDoor
open Go.RowKit Go.Maps
def AccM (β lo hi bm:Nat) (w6 wr:World) (f:Int→Value):Prop :=
 Chg (fun k=>k<hi∧k≠bm∧(k<β∨lo≤k)) w6 wr∧hi≤wr.heap.size∧∀ v g,(f v).ownBlock=some g→g<lo∨hi≤g
section
variable {β lo hi bm:Nat} {w6 wr w9:World} {f:Int→Value}
theorem AccM.sl {α:Type} {sz n:Nat} {enc:α→List Value} {a:Option Addr} {l:List α} {w5 w6 wr:World} (h:AccM β w5.heap.size w6.heap.size bm w6 wr f) (hb:bm<w5.heap.size) (s:Slf sz enc w5 w6 a n l):Sl sz enc wr a n l :=
 (Rd.chg s h.1 (fun _ hk=>⟨hk.2,by omega,.inr hk.1⟩)).mono fun _ hk=>Nat.lt_of_lt_of_le hk.2 h.2.1
theorem AccM.blk {g:Nat} {cs:List Value} {ty:TypeId} (h:AccM β lo w6.heap.size bm w6 wr f) (B:Blk w6 g cs ty) (hg:lo≤g) (hb:bm≠g):Blk wr g cs ty :=
 (Chg.block h.1 g ⟨B.lt,fun h=>hb h.symm,.inr hg⟩).trans B
theorem AccM.exb {w2:World} (h:AccM β lo w6.heap.size bm w6 wr f) (k:Exb bm w2 w6) (hβ:w2.heap.size≤β):Exb bm w2 wr :=
 Chg.trans k (Chg.mono h.1 fun x hx=>⟨Nat.lt_of_lt_of_le hx.1 k.size,hx.2,.inl (Nat.lt_of_lt_of_le hx.1 hβ)⟩)
end
theorem own_hist {va v:Value} {c s:Nat} (h:va.ownBlock=v.ownBlock∨va.ownBlock=some c) (hs:s≤c):∀ g,va.ownBlock=some g→v.ownBlock=some g∨s≤g:=fun g hg=>by
 rcases h with h | h
 ·exact .inl (by rw [← h];exact hg)
 ·rw [h] at hg;cases hg;exact .inr hs
theorem hold_ex {bm g7:Nat} {wp cur w':World} (h:Chg (fun k=>k=bm∨k=g7) wp cur) (hb:bm<wp.heap.size) (hg:g7<wp.heap.size) (k:Ex cur w'):Chg (fun k=>k=bm∨k=g7) wp w' :=
 Chg.trans h (Chg.mono k fun x hx=>by have:=h.size;show x<cur.heap.size;omega)
theorem hold_row {bm g7:Nat} {wp cur w':World} {v:Value} (h:Chg (fun k=>k=bm∨k=g7) wp cur) (hb:bm<wp.heap.size) (hg:g7<wp.heap.size) (n:¬ v.ownBlock=some bm∧¬ v.ownBlock=some g7) (k:Chg (fun k=>k<cur.heap.size∧¬ v.ownBlock=some k) cur w'):Chg (fun k=>k=bm∨k=g7) wp w' :=
 Chg.trans h (Chg.mono k fun x hx=>by
  have:=h.size
  rcases hx with rfl | rfl
  ·exact ⟨by omega,n.1⟩
  ·exact ⟨by omega,n.2⟩)
abbrev GpM (base:Nat) (w:World) (b n:Nat) (f:Int→Value) (J:Int→List Int):Prop:=GrpM Tryz.prog 3 3 base w b n f J
theorem Tryz.zeroS (w:World):(zeroValue 22).run Tryz.prog w=.ok nilS w:=by kernel_rfl
theorem litF {wp u:World} (hz:wp.heap.size≤u.heap.size) (x:Int):∃ g v,g=u.heap.size∧v=u.alloc (.cells #[.int .i64 x] 3)∧Slf 1 encI wp v (some ⟨g,0,none⟩) 1 [x]∧Ex u v :=
 ⟨_,_,rfl,rfl,Slf.lit [x] rfl hz rfl (fun _=>rfl) rfl,Ex.new _ _⟩
theorem Slf.row {α β:Type} {sz n sz' e base:Nat} {enc:α→List Value} {enc':β→List Value} {w0 w w':World} {a:Option Addr} {l:List α} {v:Value} {l':List β} (s:Slf sz enc w0 w a n l) (h:OwnL sz' enc' e base w0 v l') (k:Chg (fun k=>k<w.heap.size∧¬ v.ownBlock=some k) w w'):Slf sz enc w0 w' a n l :=
 (Rd.chg s k fun _ hk=>⟨hk.2,fun hv=>by have:=(h.lt _ hv).2;have:=hk.1;omega⟩).mono fun _ hk=>⟨hk.1,Nat.lt_of_lt_of_le hk.2 k.size⟩
theorem QuL.base {e:TypeId} {base base':Nat} {w:World} {v:Value} {l:List Int} (h:QuL e base w v l) (hb:base'≤base):QuL e base' w v l:=by
 rcases h with h | ⟨g,o,cap,cur,h1,h2,h3⟩
 ·exact .inl h
 ·exact .inr ⟨g,o,cap,cur,h1,Nat.le_trans hb h2,h3⟩
end Go.Proofs.YthcholmhmcpooaaGreatDoor
