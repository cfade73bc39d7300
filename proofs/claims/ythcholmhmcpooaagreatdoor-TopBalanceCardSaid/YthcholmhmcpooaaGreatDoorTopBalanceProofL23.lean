/- Texts for TopBalanceProof. -/
import Derived.Test.YthcholmhmcpooaaGreatDoorTopBalanceProofL18
import Derived.Test.YthcholmhmcpooaaGreatDoorTopBalanceProofL22
set_option linter.unusedSimpArgs false
set_option linter.unusedVariables false

namespace Go.Proofs.YthcholmhmcpooaaGreatDoor
open Go.RowKit
theorem clone_lv (a:Option Addr) (n c:Nat) (l:List (Int×Int)) (w:World) (h:Sl 2 encS w a n l) (hn:n≤8796093022208) :
  Calls Tryz.prog 175 #[.slice a n c] w fun e w'=>∃ v,e=.returned v∧OwnL 2 encS 128 w.heap.size w' v l∧Ex w w':=by
 have HL:=lH h.len
 cases a with
 | none =>
  have hn0:n=0:=by
   rcases h.2 with h0 | ⟨x,o,e,_⟩
   ·exact h0
   ·cases e
  have hl:l=[]:=List.eq_nil_of_length_eq_zero (HL.out.trans hn0)
  subst hn0 hl
  clear h HL
  have hq:∀ w:World,(binOp .eql 119 (.slice none 0 c) (.slice none 0 0)).run Tryz.prog w=.ok (.bool true) w:=fun w=>Lib.run_eql_slice_nil w 119 128 none 0 c 0 0 Tryz.underlying119
  go_enter Tryz.func175,Tryz.ntmps175
  go_wp2
  go_ret
  exact ⟨_,rfl,OwnL.nil _ _ _ _ _,Ex.refl _⟩
 | some A =>
  have q0:=Ex.new w (.cells #[] 128)
  have h0:=h.nx q0
  have own0:OwnL 2 encS 128 w.heap.size (w.alloc (.cells #[] 128)) (.slice (some ⟨w.heap.size,0,none⟩) 0 0) []:=OwnL.empty (Nat.le_refl _) rfl
  clear h
  have hq:∀ w:World,(binOp .eql 119 (.slice (some A) n c) (.slice none 0 0)).run Tryz.prog w=.ok (.bool false) w:=fun w=>Lib.run_eql_slice_nil w 119 128 (some A) n c 0 0 Tryz.underlying119
  go_enter Tryz.func175,Tryz.ntmps175
  go_wp2_with (at_builtin;(refine wpList_append_rqW (enc:=encS) _ rfl _ _ 119 rfl w.heap.size 128 (.agg #[.int .i64 0,.int .i64 0]) 2 16 Tryz.underlying119 Tryz.infoLk rfl (by omega) (by omega) _ [] own0 rfl (some A) n c l h0 (fun _=>rfl) (by simp [encS,Value.oneCell']) rfl (by omega) (by simp;omega) (by simp) ?_);intro v1 w1 own1 hch0 hch1)
  go_ret
  exact ⟨_,rfl,by simpa using own1,Chg.trans q0 hch1⟩
def CloRel (L:List Lkd) (n:Nat) (w:World) (o i:Value) (wr:World):Prop :=
 ∃ (k:Nat) (qs:List (Int×Hdr)),k≤n∧i=.int .i64 k∧OwnLk w.heap.size wr o qs (L.take k)∧Ex w wr
theorem litLd (u:World) (id:Int) (hd:Hdr):∃ g v,g=u.heap.size∧v=u.alloc (.cells #[.int .i64 id,hd.val] 121)∧Sl 2 (encP encI) v (some ⟨g,0,none⟩) 1 [(id,hd)]∧Ex u v :=
 ⟨_,_,rfl,rfl,Sl.lit [(id,hd)] rfl rfl (fun _=>rfl) rfl,Ex.new _ _⟩
set_option maxRecDepth 100000 in
set_option maxHeartbeats 4000000 in
theorem clo_p (a:Option Addr) (n c:Nat) (L:List Lkd) (w:World) (h:LkL w a n L) (hn:n≤1000) (hs:∀ c∈L,c.2.length≤1000000) :
  Calls Tryz.prog 111 #[.slice a n c] w fun e w'=>∃ v qs,e=.returned v∧OwnLk w.heap.size w' v qs L∧Ex w w':=by
 have HL:=lH h.len
 have HS:=lH h
 have HSS:=lH hs
 clear h hs
 go_enter Tryz.func111,Tryz.ntmps111
 go_wp2_with fail
 go_loopw [3,8] (fun o i wr=>CloRel L n w o i wr) (fun _ i _=>n-(intOf i).toNat)
 case atStart=>exact ⟨0,[],by omega,rfl,OwnN.nil _ _ _ _ _ _ _ _,Ex.refl _⟩
 case round =>
  obtain ⟨k,qs,hk,rfl,own,kw⟩:=hrel
  obtain ⟨wi,rfl⟩:∃ wi:World,wi=wr:=⟨_,rfl⟩
  have OWN:=lH own
  have KW:=lH kw
  by_cases hkn:k<n
  ·obtain ⟨x,o,a',n',c',d,rfl,hx,hd,hc,sr⟩:=(HS.out.nx kw).at hkn
   have e0:wi.cell? ⟨x,o+k*2,none⟩=some (.int .i64 d.1):=hc 0 _ rfl
   have e1:wi.cell? ⟨x,o+k*2+1,none⟩=some (.slice a' n' c'):=hc 1 _ rfl
   have hdl:=HSS.out d (List.mem_of_getElem? hd)
   have hn':n'≤8796093022208:=by have:=sr.len;omega
   have SR:=lH sr
   have TK:Hid (L.take (k+1)=L.take k++[d]):=lH (by rw [List.take_add_one,hd];rfl)
   have hql:qs.length=k:=by rw [own.2.1,List.length_take];have:=HL.out;omega
   have zw:=kw.size
   clear hc sr hd own kw
   have B5:=Blk.new wi [.int .i64 d.1,.slice a' n' c'] 121
   have kk:=Ex.new wi (.cells #[.int .i64 d.1,.slice a' n' c'] 121)
   obtain ⟨w1,hw1⟩:∃ w1,w1=wi.alloc (.cells #[.int .i64 d.1,.slice a' n' c'] 121):=⟨_,rfl⟩
   obtain ⟨g5,hg5⟩:∃ g5,g5=wi.heap.size:=⟨_,rfl⟩
   replace B5:Blk w1 g5 [.int .i64 d.1,.slice a' n' c'] 121:=by rw [hw1,hg5];exact B5
   rw [← hw1] at kk
   have Hw1:=lH hw1
   have Hg5:=lH hg5
   have K1:=lH kk
   have z1:=kk.size
   clear kk hw1 hg5
   go_upto_region 5 with fail
   rw [← Hg5.out,← Hw1.out]
   clear Hg5 Hw1
   clear e0 e1
   have B5H:=lH B5
   clear B5
   refine wp_region_late_drew (S:=Ex w1) [8] (by kernel_rfl) ((Ex.refl w1).drew) (fun hHeld=>?_)
   obtain ⟨wd,hwdx⟩:∃ wd:World,wd=World.drew w1:=⟨_,rfl⟩
   rw [← hwdx] at hHeld ⊢
   have hDrew:Ex w1 wd:=by rw [hwdx];exact (Ex.refl w1).drew
   clear hwdx
   refine tkL 0 (v:=?_) rfl (by kernel_rfl) (fun _ _ _ h=>h) (by rfl) ?y5 hHeld ?_
   case y5=>intro wq hSw;go_simp<;>rfl
   refine tkL 1 (v:=?_) rfl (by kernel_rfl) (fun _ _ _ h=>h) (by rfl) ?y8 hHeld ?_
   case y8=>intro wq hSw;go_simp<;>rfl
   refine tkL 2 (v:=?_) rfl (by kernel_rfl) (fun _ _ _ h=>h) (by rfl) ?y11 hHeld ?_
   case y11=>intro wq hSw;(have cq:=(B5H.out.nx hSw).cell 0 _ rfl;go_simp)<;>rfl
   refine tkL 3 (v:=?_) rfl (by kernel_rfl) (fun _ _ _ h=>h) (by rfl) ?y14 hHeld ?_
   case y14=>intro wq hSw;go_simp<;>rfl
   refine tkL 4 (v:=?_) rfl (by kernel_rfl) (fun _ _ _ h=>h) (by rfl) ?y17 hHeld ?_
   case y17=>intro wq hSw;(have cq:=(B5H.out.nx hSw).cell 1 _ rfl;go_simp)<;>rfl
   refine rL 5 (by kernel_rfl) rfl fun K hK=>?_
   go_simp
   (with_reducible refine (clone_lv _ _ _ d.2 _ ((SR.out.nx K1.out).nx hHeld) hn').mono ?_)
   rintro e wc ⟨v2,rfl,own2,kk⟩
   obtain ⟨a2,c2,rfl,_⟩:=own2.rd (fun _=>rfl)
   have zc:=hHeld.size
   replace hHeld:=hHeld.nx kk
   clear kk
   refine hK.out _ _ (hHeld) (fun hHeld=>?_)
   clear hK K
   refine tkL 6 (v:=?_) rfl (by kernel_rfl) (fun _ _ _ h=>h) (by rfl) ?y32 hHeld ?_
   case y32=>intro wq hSw;go_simp<;>rfl
   refine rL 7 (by kernel_rfl) rfl fun K hK=>?_
   go_simp
   obtain ⟨gx,wq,hgx,hwq,SX,kk⟩:=litLd wc d.1 (a2,d.2.length,c2)
   simp only [Hdr.val] at hwq
   rw [← hgx,← hwq]
   clear hgx hwq
   have own3:=own2.nx kk
   replace hHeld:=hHeld.nx kk
   clear kk
   refine hK.out _ _ (hHeld) (fun hHeld=>?_)
   clear hK K
   refine rLL 8 (by kernel_rfl) rfl (by rfl) fun K hK=>?_
   rw [if_pos (by rfl)]
   have OQ:=OWN.out.nx (K1.out.nx hHeld)
   have hz:w.heap.size≤wq.heap.size:=by have:=hHeld.size;omega
   refine wp_append_W (enc:=encP encI) _ (.tmp 12) (.tmp 19) 28 rfl w.heap.size 121 (.agg #[.int .i64 0,.slice none 0 0]) 2 32 Tryz.underlying28 Tryz.infoLd rfl (by omega) (by omega) _ qs OQ.1 rfl _ 1 1 [(d.1,(a2,d.2.length,c2))] SX enc2 enc2_one rfl (by omega) (by omega) hz ?_
   intro v7 w7 own7 ch0 ch1 _
   have FR:∀ (j:Nat) (r:Int×Hdr) (g:Nat),qs[j]?=some r→r.2.val.ownBlock=some g→¬ (Value.slice a2 d.2.length c2).ownBlock=some g:=(fun j r g hr hg hv=>by have h1:=OWN.out.lt hr hg;have h2:=(own2.lt g hv).1;omega)
   have OQ7:=OQ.push (by decide) own7 ch0 (own3.base (by omega)) FR
   have RR:=lH (show CloRel L n w v7 (.int .i64 ((k:Int)+1)) w7 from ⟨k+1,_,by omega,by go_num,by rw [TK.out];exact OQ7,Chg.trans (KW.out.nx (K1.out.nx hHeld)) ch1⟩)
   clear OQ own7 ch0 ch1 FR OQ7 own2 own3 SX hHeld
   refine hK.out _ _ ?_
   clear hK K
   refine wpAnyL_takeP (i:=9) (oi:=⟨_,_,_,_,_,_⟩) (v:=?_) rfl (by kernel_rfl) (by kernel_rfl) (by kernel_rfl) (fun _ _ _ h=>h) (Or.inl ⟨by rfl,?y62⟩) ?_
   case y62=>intro wq hSw;go_simp<;>rfl
   refine wpAnyL_done (by kernel_rfl) ?_ _
   clear hDrew
   go_wp2_with fail
   exact ⟨RR.out,by simp [intOf];omega⟩
  ·obtain rfl:k=n:=by omega
   rw [List.take_of_length_le (by have:=HL.out;omega)] at own
   have OW:=lH own
   clear own kw OWN
   go_wp2_with fail
   go_ret
   exact ⟨_,_,rfl,OW.out,KW.out⟩
set_option maxRecDepth 100000 in
set_option maxHeartbeats 2000000 in
theorem exact_p (a:Option Addr) (n c:Nat) (N:List Nd) (a2:Option Addr) (n2 c2:Nat) (L:List Lkd) (hh:Int) (w:World) (h:Sl 3 encN w a n N) (hn:n≤1000) (hc:n≤c) (hm:c≤maxLen) (hw:∀ x∈N,x.word<4294967296) (hT:TabG w)
  (h2:LkL w a2 n2 L) (hn2:n2≤1000000) (hs:∀ c∈L,c.2.length≤9223372036854775807) :
  Calls Tryz.prog 28 #[.slice a n c,.slice a2 n2 c2,.int .i64 hh] w fun e w'=>e=.returned (.bool (exactI N L hh))∧Ex w w':=by
 have HS:=lH hs
 go_enter Tryz.func28,Tryz.ntmps28
 go_wp2_with fail
 (with_reducible refine (build_p _ _ _ N hh _ h hn hc hm hw hT).mono ?_)
 rintro e w1 ⟨v,qs,rfl,own,kk⟩
 replace h2:=h2.nx kk
 have K1:=lH kk
 obtain ⟨a3,c3,rfl,NLX,_,_,_,_⟩:=OwnN.nl (encA:=encI) (s1:=2) (s2:=2) (encB:=encS) (fun _=>rfl) (fun _=>rfl) own
 obtain ⟨B,hB⟩:∃ B,B=buildN N hh:=⟨_,rfl⟩
 have EI:Hid (exactI N L hh=(B.2==0&&decide (L=B.1))):=lH (by rw [hB];rfl)
 rw [← hB] at own NLX ⊢
 have H2:=lH h2
 have NX:=lH NLX
 clear hB own h kk h2 NLX
 obtain ⟨BL,be⟩:=B
 by_cases hbe:be=0
 ·subst hbe
  go_wp2_with fail
  (with_reducible refine (same_lp _ _ _ _ _ _ L BL _ H2.out NX.out hn2 HS.out).mono ?_)
  rintro e w2 ⟨rfl,kk⟩
  have K2:=lH (K1.out.nx kk)
  clear kk
  go_wp2_with fail
  go_ret
  exact ⟨by rw [EI.out];simp,K2.out⟩
 ·have d1:(be==0)=false:=by simpa using hbe
  go_wp2_with fail
  go_ret
  exact ⟨by rw [EI.out,d1];simp,K1.out⟩
def Acc (β lo hi:Nat) (w6 wr:World) (o:Value):Prop:=Chg (fun k=>k<hi∧(k<β∨lo≤k)) w6 wr∧hi≤wr.heap.size∧∀ g,o.ownBlock=some g→g<lo∨hi≤g
theorem Acc.start {β lo hi:Nat} {w:World} {o:Value} (hs:hi≤w.heap.size) (ho:∀ g,o.ownBlock=some g→g<lo∨hi≤g):Acc β lo hi w w o:=⟨Chg.refl _ _,hs,ho⟩
theorem Acc.step {β lo hi:Nat} {w6 wr w9:World} {o o':Value} (h:Acc β lo hi w6 wr o) (hb:∀ g,o.ownBlock=some g→β≤g) (k:Chg (fun k=>k<wr.heap.size∧¬ o.ownBlock=some k) wr w9) (ho:o'.ownBlock=o.ownBlock∨∀ g,o'.ownBlock=some g→wr.heap.size≤g):Acc β lo hi w6 w9 o':=by
 refine ⟨h.1.trans (k.mono fun x hx=>⟨Nat.lt_of_lt_of_le hx.1 h.2.1,fun hv=>?_⟩),Nat.le_trans h.2.1 k.size,fun g hg=>?_⟩
 ·have h1:=hb x hv
  have h2:=h.2.2 x hv
  have h3:=hx.2
  have h4:=hx.1
  omega
 ·rcases ho with h1 | h1
  ·exact h.2.2 g (by rw [← h1];exact hg)
  ·have:=h1 g hg;have:=h.2.1;omega
theorem Acc.nx {β lo hi:Nat} {w6 wr w9:World} {o:Value} (h:Acc β lo hi w6 wr o) (k:Ex wr w9):Acc β lo hi w6 w9 o :=
 ⟨h.1.trans (Chg.mono k fun x hx=>Nat.lt_of_lt_of_le hx.1 h.2.1),Nat.le_trans h.2.1 k.size,h.2.2⟩
theorem Acc.sl {α:Type} {sz n:Nat} {enc:α→List Value} {a:Option Addr} {l:List α} {β:Nat} {w5 w6 wr:World} {o:Value} (h:Acc β w5.heap.size w6.heap.size w6 wr o) (s:Slf sz enc w5 w6 a n l):Sl sz enc wr a n l :=
 (Rd.chg s h.1 (fun _ hk=>⟨hk.2,.inr hk.1⟩)).mono fun _ hk=>Nat.lt_of_lt_of_le hk.2 h.2.1
theorem Acc.ex {w2 w6 wr:World} {lo:Nat} {o:Value} (h:Acc w2.heap.size lo w6.heap.size w6 wr o) (k:Ex w2 w6):Ex w2 wr :=
 Chg.trans k (Chg.mono h.1 fun _ hk=>⟨Nat.lt_of_lt_of_le hk k.size,.inl hk⟩)
theorem OwnW.blk_lt {α:Type} {sz e base:Nat} {enc:α→List Value} {w:World} {v:Value} {l:List α} (h:OwnW sz enc e base w v l) {g:Nat} (hg:v.ownBlock=some g):g<w.heap.size:=by
 obtain ⟨_,cur,hh⟩:=h.blk hg
 exact heap_lt hh
theorem OwnL.ne_blk {α:Type} {sz e base g':Nat} {enc:α→List Value} {w:World} {v:Value} {l:List α} {cs:List Value} {ty:TypeId} (h:OwnL sz enc e base w v l) (B:Blk w g' cs ty) (hne:e≠ty) {g:Nat} (hg:v.ownBlock=some g):g≠g':=by
 rintro rfl
 obtain ⟨_,cur,hh⟩:=h.blk hg
 exact blk_kind hne hh B
theorem OwnL.put {α:Type} {sz e base g':Nat} {enc:α→List Value} {w w':World} {v:Value} {l:List α} {cs:List Value} {ty:TypeId} (h:OwnL sz enc e base w v l) (B:Blk w g' cs ty) (hne:e≠ty) (k:Exb g' w w'):OwnL sz enc e base w' v l :=
 h.chg k fun _ hx hv=>⟨hx,h.ne_blk B hne hv⟩
theorem Blk.low {w w':World} {g B:Nat} {cs:List Value} {ty:TypeId} (h:Blk w g cs ty) (hg:g<B) (k:Chg (· < B) w w'):Blk w' g cs ty:=(Chg.block k g hg).trans h
theorem Exb.nxb' {g:Nat} {wk wp wq wz:World} (h:Exb g wk wp) (k:Exb g wp wq) (c:Chg (· < wk.heap.size) wq wz):Exb g wk wz :=
 Chg.trans (h.nxb k) (Chg.mono c fun _ hk=>hk.1)
end Go.Proofs.YthcholmhmcpooaaGreatDoor
