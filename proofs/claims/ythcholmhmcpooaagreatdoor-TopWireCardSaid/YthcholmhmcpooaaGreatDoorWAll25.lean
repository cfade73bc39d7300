/- Shared texts. -/
import Derived.Test.YthcholmhmcpooaaGreatDoorWAll19
import Derived.Test.YthcholmhmcpooaaGreatDoorWAll20
set_option linter.unusedSimpArgs false
set_option linter.unusedVariables false

namespace Go.Proofs.YthcholmhmcpooaaGreatDoor
open Go.RowKit
theorem OwnL.ne_blk {α:Type} {sz e base g':Nat} {enc:α→List Value} {w:World} {v:Value} {l:List α} {cs:List Value} {ty:TypeId} (h:OwnL sz enc e base w v l) (B:Blk w g' cs ty) (hne:e≠ty) {g:Nat} (hg:v.ownBlock=some g):g≠g':=by
 rintro rfl
 obtain ⟨_,cur,hh⟩:=h.blk hg
 exact blk_kind hne hh B
theorem OwnL.put {α:Type} {sz e base g':Nat} {enc:α→List Value} {w w':World} {v:Value} {l:List α} {cs:List Value} {ty:TypeId} (h:OwnL sz enc e base w v l) (B:Blk w g' cs ty) (hne:e≠ty) (k:Exb g' w w'):OwnL sz enc e base w' v l :=
 h.chg k fun _ hx hv=>⟨hx,h.ne_blk B hne hv⟩
theorem Blk.low {w w':World} {g B:Nat} {cs:List Value} {ty:TypeId} (h:Blk w g cs ty) (hg:g<B) (k:Chg (· < B) w w'):Blk w' g cs ty:=(Chg.block k g hg).trans h
theorem Exb.nxb' {g:Nat} {wk wp wq wz:World} (h:Exb g wk wp) (k:Exb g wp wq) (c:Chg (· < wk.heap.size) wq wz):Exb g wk wz :=
 Chg.trans (h.nxb k) (Chg.mono c fun _ hk=>hk.1)
end Go.Proofs.YthcholmhmcpooaaGreatDoor
