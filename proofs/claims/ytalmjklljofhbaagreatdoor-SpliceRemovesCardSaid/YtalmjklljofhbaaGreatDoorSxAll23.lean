/- Shared texts. -/
import Derived.Shelf.Spec.SlicesInsertGrow
import Derived.Test.YtalmjklljofhbaaGreatDoorSxAll18
import Derived.Test.YtalmjklljofhbaaGreatDoorSxAll19
set_option linter.unusedSimpArgs false
set_option linter.unusedVariables false

namespace Go.Proofs.YtalmjklljofhbaaGreatDoor
open Go.RowKit
section
variable {α:Type} {sz:Nat} {enc:α→List Value} {e:TypeId} {base:Nat} {w:World} {l:List α} {g n cap:Nat}
theorem OwnW.parts (h:OwnW sz enc e base w (.slice (some ⟨g,0,none⟩) n cap) l):∃ cur:Array Value,n=l.length∧base≤g∧w.heap[g]?=some (.cells cur e (0,0))∧n≤cap∧cap≤maxLen∧cap*sz≤cur.size∧cur.toList.take (n*sz)=l.flatMap enc∧(l.flatMap enc).length=n*sz:=by
 rcases h with ⟨h1,_⟩ | ⟨g',cap',cur,e1,e2,e3,e4,e5,e6,e7⟩
 ·cases h1
 ·obtain ⟨rfl,hLn,rfl⟩:g=g'∧n=l.length∧cap=cap':=by simpa using e1
  subst hLn
  exact ⟨cur,rfl,e2,e3,e4,e5,e6,e7,by have:=congrArg List.length e7;have hm:=Nat.mul_le_mul_right sz e4;have h0:cur.toList.length=cur.size:=Array.length_toList;rw [List.length_take,h0,Nat.min_eq_left (by omega)] at this;exact this.symm⟩
theorem OwnW.ofParts {cur:Array Value} (h1:n=l.length) (h2:base≤g) (h3:w.heap[g]?=some (.cells cur e (0,0))) (h4:n≤cap) (h5:cap≤maxLen) (h6:cap*sz≤cur.size) (h7:cur.toList.take (n*sz)=l.flatMap enc) (h8:(l.flatMap enc).length=n*sz) :
  OwnW sz enc e base w (.slice (some ⟨g,0,none⟩) n cap) l:=by
 subst h1
 exact .inr ⟨g,cap,cur,rfl,h2,h3,h4,h5,h6,h7⟩
theorem OwnW.setcD (h:OwnW sz enc e base w (.slice (some ⟨g,0,none⟩) n cap) l) (v:Value) {j:Nat} (hj:n*sz≤j) :
  OwnW sz enc e base (w.setCell ⟨g,j,none⟩ v) (.slice (some ⟨g,0,none⟩) n cap) l:=by
 obtain ⟨cur,a1,a2,a3,a4,a5,a6,a7,a8⟩:=h.parts
 exact OwnW.ofParts a1 a2 (heap_set a3 j v) a4 a5 (by simp [a6]) (by rw [← a7,Array.toList_setIfInBounds,List.take_set_of_le hj]) a8
theorem OwnW.setcsD:∀ (vs:List Value) (w:World) (j:Nat),n*sz≤j→OwnW sz enc e base w (.slice (some ⟨g,0,none⟩) n cap) l →
  OwnW sz enc e base (w.setCells g j vs) (.slice (some ⟨g,0,none⟩) n cap) l
 | [],_,_,_,h=>h
 | v::vs,w,j,hj,h=>OwnW.setcsD vs _ (j+1) (by omega) (h.setcD v hj)
theorem OwnW.cellC (h:OwnW sz enc e base w (.slice (some ⟨g,0,none⟩) n cap) l) {j:Nat} (hj:j<cap*sz):(w.cell? ⟨g,j,none⟩).isSome=true∧w.frozen? ⟨g,j,none⟩=false:=by
 obtain ⟨cur,a1,a2,a3,a4,a5,a6,a7,a8⟩:=h.parts
 have hsz:j<cur.size:=by omega
 exact ⟨by simp [World.cell?,a3,hsz],by simp [World.frozen?,a3]⟩
theorem run_clear_ownW {P:Program} (h:OwnW sz enc e base w (.slice (some ⟨g,0,none⟩) n cap) l) (m q:Nat) (hm:m+(q+1)≤cap) (z:Value) (zs:Array Value) (hz:(zeroValue e).run P w=.ok z w) (hzc:z.cells=zs) (hzs:zs.size=sz) (hsz:0<sz) (hz1:∀ i,i<sz→(zs[i]!).oneCell'=true)
  (ts ty:TypeId) (hu:P.underlying ts=some (.slice e)) (c':Nat) :
  ∃ vs,(Builtin.clear_ #[ts] ty #[.slice (some ⟨g,m*sz,none⟩) (q+1) c']).run P w=.ok (.tuple #[]) (w.setCells g (m*sz) vs):=by
 obtain ⟨vs,hvs⟩:∃ vs,vs=(Builtin.zeroCells (Value.cells z) (q+1)).toList:=⟨_,rfl⟩
 have hl:vs.length=(q+1)*sz:=by rw [hvs,hzc];simp [Builtin.zeroCells,hzs]
 have hmul:(m+(q+1))*sz≤cap*sz:=Nat.mul_le_mul_right _ hm
 rw [Nat.add_mul] at hmul
 have h1:∀ v∈vs,v.oneCell'=true:=by
  intro v hv
  rw [hvs,hzc] at hv
  simp only [Builtin.zeroCells,Array.toList_map,List.mem_map] at hv
  obtain ⟨i,_,rfl⟩:=hv
  rw [hzs]
  exact hz1 _ (Nat.mod_lt _ hsz)
 have hst:=run_storeCells_cells (P:=P) g (m*sz) vs 0 w (by intro j hj;rw [hl] at hj;exact (h.cellC (by omega)).1) (by intro j hj;rw [hl] at hj;exact (h.cellC (by omega)).2) h1
 simp only [Nat.add_zero] at hst
 refine ⟨vs,?_⟩
 simp [Builtin.clear_,run_underlying hu,hz,← hvs,hst]
theorem chg_setcsW {g:Nat} {w0:World}:∀ (vs:List Value) (w:World) (j:Nat),Chg (fun x=>x<w0.heap.size∧¬ x=g) w0 w→Chg (fun x=>x<w0.heap.size∧¬ x=g) w0 (w.setCells g j vs)
 | [],_,_,h=>h
 | v::vs,w,j,h=>chg_setcsW vs _ (j+1) (h.setCell (p:=⟨g,j,none⟩) v (fun k hk=>hk.2))
theorem wp_append_roomW {P:Program} {o:Oper} {a:Act} {K:Act→World→Prop} {Q:Exit→Act→World→Prop} (s x:Operand) (t:TypeId)
  (ho:o.op=.call { callee:=.builtin .append,args:=#[s,x],argTypes:=#[t,t] })
  (z:Value) (bytes:Nat) (ht:P.underlying t=some (.slice e)) (hi:(P.info? e).map (fun i=>(i.zero,i.size,i.bytes))=some (some z,sz,bytes))
  (hown:OwnW sz enc e base w (.slice (some ⟨g,0,none⟩) n cap) l) (k:Nat) (hk:k≤n) (hs:a.eval s=.slice (some ⟨g,0,none⟩) k cap) (A:Addr) (m c:Nat) (news:List α) (hrd:Sl sz enc w (some A) m news) (hlen:∀ y,(enc y).length=sz) (h1:∀ y,∀ u∈enc y,u.oneCell'=true) (hsz:0<sz)
  (hx:a.eval x=.slice (some A) m c) (hroom:k+m≤cap)
  (h:∀ w',OwnW sz enc e base w' (.slice (some ⟨g,0,none⟩) (k+m) cap) (l.take k++news)→Chg (fun x=>x<w.heap.size∧¬ x=g) w w'→K (a.put o.dst (.slice (some ⟨g,0,none⟩) (k+m) cap)) w'):o.wp P a w K Q:=by
 obtain ⟨i,hi,hz0,hz1,hz2⟩:=info_parts hi
 obtain ⟨cur,a1,a2,a3,a4,a5,a6,a7,a8⟩:=hown.parts
 have hnl:=hrd.len
 have hnew:∀ j u,(news.flatMap enc)[j]?=some u→w.cell? (A.add j)=some u:=by
  intro j u hu
  rcases hrd.2 with h0 | ⟨x,o,e1,_,_⟩
  ·have:news=[]:=List.eq_nil_of_length_eq_zero (hnl.trans h0)
   subst this
   simp at hu
  ·cases e1
   rw [Addr.add_lit]
   exact hrd.flatW hlen hsz j u hu
 have hnf:(news.flatMap enc).length=m*sz:=by rw [flatW_len hlen,hnl]
 have h1f:∀ u∈news.flatMap enc,u.oneCell'=true:=fun u hu=>by
  obtain ⟨y,_,hy⟩:=List.mem_flatMap.1 hu
  exact h1 y u hy
 have hmm:(k+m)*sz≤cap*sz:=Nat.mul_le_mul_right _ hroom
 rw [Nat.add_mul] at hmm
 have htk:cur.toList.take (k*sz)=(l.take k).flatMap enc:=by
  rw [flatN_take hlen,← a7,List.take_take,Nat.min_eq_left (Nat.mul_le_mul_right _ hk)]
 have hlk:(l.take k).length=k:=by rw [List.length_take];omega
 have hrun:=run_append_room (P:=P) w t o.type e i ht hi g k cap cur a3 A m c (news.flatMap enc) (by rw [hz1];exact hnf) hnew h1f hroom (by rw [hz1,hnf];omega)
 have close:∀ v' w',(Builtin.append_ #[t,t] o.type #[.slice (some ⟨g,0,none⟩) k cap,.slice (some A) m c]).run P w=.ok v' w'→K (a.put o.dst v') w'→o.wp P a w K Q:=by
  intro v' w' hr hK
  unfold Oper.wp
  simp [execOp,ho,resolve,invoke,builtin,hs,hx,hr,Result.andThen]
  exact hK
 refine close _ _ hrun (h _ (OwnW.ofParts (by rw [List.length_append,hlk,hnl]) a2 (setRow_heap w g cur _ e _ a3) hroom a5 ?_ ?_ ?_) ⟨rfl,rfl,rfl,by simp [World.setRow],fun k hk=>setRow_other w g k _ (fun he=>hk.2 he)⟩)
 ·simp only [List.size_toArray,List.length_append,List.length_take,List.length_drop,Array.length_toList,hz1,hnf]
  omega
 ·rw [hz1,htk,List.flatMap_append,Nat.add_mul]
  have:((l.take k).flatMap enc++news.flatMap enc).length=k*sz+m*sz:=by rw [List.length_append,flatW_len hlen,hlk,hnf]
  rw [← this]
  exact List.take_left
 ·rw [List.flatMap_append,List.length_append,flatW_len hlen,hlk,hnf,Nat.add_mul]
end
theorem Tryz.zero_delete_lk (w:World):(zeroValue 84).run Tryz.prog w=.ok (.agg #[.int .i64 0,.slice none 0 0]) w:=by kernel_rfl
set_option maxRecDepth 100000 in
set_option maxHeartbeats 4000000 in
theorem delete_lk (v:Value) (l:List (Int×Hdr)) (k:Nat) (w0 w:World) (h:OwnW 2 (encP encI) 84 w0.heap.size w v l) (hk:k<l.length) (hn:l.length≤1000000) (k0:Ex w0 w) :
  Calls Tryz.prog 69 #[v,.int .i64 k,.int .i64 ((k:Int)+1)] w fun e w'=>∃ v',e=.returned v'∧OwnW 2 (encP encI) 84 w0.heap.size w' v' (l.eraseIdx k)∧Ex w0 w'∧Chg (fun x=>x<w.heap.size∧¬ v.ownBlock=some x) w w':=by
 have h9:=h
 rcases h9 with ⟨_,h2⟩ | ⟨g,cap,cur,rfl,hb,_,hlc,hcm,_,_⟩
 ·rw [h2] at hk;simp at hk
 obtain ⟨m,hm⟩:∃ m,l.length=k+1+m:=⟨l.length-(k+1),by omega⟩
 rw [hm] at h hlc hn ⊢
 unfold maxLen at hcm
 have OWN:=lH h
 have HB:=lH hb
 have K0:=lH k0
 have EI:=lH (show l.eraseIdx k=l.take k++l.drop (k+1) from List.eraseIdx_eq_take_drop_succ l k)
 have SLW:=lH (show Sl 2 (encP encI) w (some ⟨g,0,none⟩) l.length l from by
  obtain ⟨a',c',e',r',_⟩:=h.rd (fun _=>rfl)
  have e2:some (⟨g,0,none⟩:Addr)=a'∧k+1+m=l.length∧cap=c':=by simpa using e'
  obtain ⟨rfl,_,rfl⟩:=e2
  exact Rd.mono r' (fun _ hk=>hk.2))
 have HM:=lH hm
 have w1:IntKind.i64.wrap ((k:Int)+1)=(k:Int)+1:=IntWalk.i64_in _ (by omega)
 have t1:((k:Int)+1).toNat=k+1:=by omega
 have b1:(0:Int)≤(k:Int)+1:=by omega
 have b2:(k:Int)≤(k:Int)+1:=by omega
 have b3:(k:Int)+1≤(k:Int)+1+(m:Int):=by omega
 have b4:(k:Int)+1+(m:Int)≤(cap:Int):=by omega
 have b8:(0:Int)≤(k:Int)+(m:Int):=by omega
 have b9:(k:Int)+(m:Int)≤(k:Int)+1+(m:Int):=by omega
 have t2:((k:Int)+(m:Int)).toNat=k+m:=by omega
 have t3:((k:Int)+1+(m:Int)).toNat=k+1+m:=by omega
 have t4:k+1+m-(k+1)=m:=by omega
 have t5:k+1+m-(k+m)=1:=by omega
 have b5:(k:Int)≤(cap:Int):=by omega
 have b6:(k:Int)+1≤(cap:Int):=by omega
 have b7:((k:Int)==(k:Int)+1)=false:=by rw [beq_eq_false_iff_ne];omega
 clear h hb k0 hm hk
 go_enter Tryz.func69,Tryz.ntmps69
 go_upto_region 5 with fail
 have FIN:∀ (wx:World),OwnW 2 (encP encI) 84 w0.heap.size wx (.slice (some ⟨g,0,none⟩) (k+m) cap) (l.eraseIdx k)→Ex w0 wx→Chg (fun x=>x<w.heap.size∧¬ x=g) w wx→∃ vs:List Value,
   (∀ ty c',(Builtin.clear_ #[50] ty #[.slice (some ⟨g,(k+m)*2,none⟩) 1 c']).run Tryz.prog wx=.ok (.tuple #[]) (wx.setCells g ((k+m)*2) vs))∧OwnW 2 (encP encI) 84 w0.heap.size (wx.setCells g ((k+m)*2) vs) (.slice (some ⟨g,0,none⟩) (k+m) cap) (l.eraseIdx k)∧Ex w0 (wx.setCells g ((k+m)*2) vs)∧Chg (fun x=>x<w.heap.size∧¬ (Value.slice (some ⟨g,0,none⟩) (k+1+m) cap).ownBlock=some x) w (wx.setCells g ((k+m)*2) vs):=fun wx O E C=>by
  have hz1:∀ i,i<2→((#[.int .i64 0,.slice none 0 0]:Array Value)[i]!).oneCell'=true:=fun i hi=>match i,hi with
  | 0,_=>rfl
  | 1,_=>rfl
  obtain ⟨vs,hvs⟩:=run_clear_ownW (P:=Tryz.prog) O (k+m) 0 (by omega) (.agg #[.int .i64 0,.slice none 0 0]) #[.int .i64 0,.slice none 0 0] (Tryz.zero_delete_lk wx) rfl rfl (by omega) hz1 50 0 Tryz.underlying50 0
  exact ⟨vs,fun _ _=>hvs,OwnW.setcsD vs wx _ (Nat.le_refl _) O,ex_setcs HB.out vs wx _ E,(chg_setcsW vs wx _ C).mono (fun x hx=>⟨hx.1,fun he=>hx.2 (by rw [he];rfl)⟩)⟩
 by_cases hcap:cap=k+1
 ·subst hcap
  have HRD:Sl 2 (encP encI) w (some ⟨g,0,none⟩) m (l.drop (k+1)):=by
   rw [show m=0 by omega,List.drop_of_length_le (by have:=HM.out;omega)]
   exact Sl.nil _ _ _ _
  have HR:=lH HRD
  clear HRD
  refine wp_region_held_drew (S:=Ex w0) (by kernel_rfl) (K0.out.drew) (fun hHeld=>?_)
  obtain ⟨wd,hwdx⟩:∃ wd:World,wd=World.drew w:=⟨_,rfl⟩
  rw [← hwdx] at hHeld ⊢
  have hDrew:Ex w wd:=by rw [hwdx];exact (Ex.refl w).drew
  clear hwdx
  refine tkH 0 (v:=?_) rfl (by kernel_rfl) (fun _ _ _ h=>h) (by rfl) ?y1x0q5 (by assumption) ?z1x0q5
  case y1x0q5=>intro wq hSw;(go_simp);(try with_reducible rfl)
  refine tkH 1 (v:=?_) rfl (by kernel_rfl) (fun _ _ _ h=>h) (by rfl) ?y1x1q8 (by assumption) ?z1x1q8
  case y1x1q8=>intro wq hSw;(go_simp);(try with_reducible rfl)
  refine tkH 2 (v:=?_) rfl (by kernel_rfl) (fun _ _ _ h=>h) (by rfl) ?y1x2q11 (by assumption) ?z1x2q11
  case y1x2q11=>intro wq hSw;(go_simp);(try with_reducible rfl)
  refine tkH 3 (v:=?_) rfl (by kernel_rfl) (fun _ _ _ h=>h) (by rfl) ?y1x3q14 (by assumption) ?z1x3q14
  case y1x3q14=>intro wq hSw;(go_simp);(try with_reducible rfl)
  refine tkH 4 (v:=?_) rfl (by kernel_rfl) (fun _ _ _ h=>h) (by rfl) ?y1x4q17 (by assumption) ?z1x4q17
  case y1x4q17=>intro wq hSw;(go_simp);(try with_reducible rfl)
  refine tkH 5 (v:=?_) rfl (by kernel_rfl) (fun _ _ _ h=>h) (by rfl) ?y1x5q20 (by assumption) ?z1x5q20
  case y1x5q20=>intro wq hSw;(go_simp);(try with_reducible rfl)
  refine wpAnyH_ready (rs:=[6]) (by kernel_rfl) (by simp) ?_
  refine AllReadyH.cons (o:=⟨_,_,_,_,_,_⟩) rfl (fun K hK=>?_) AllReadyH.nil
  rw [if_pos (by rfl)]
  refine wp_append_roomW (enc:=(encP encI)) (.tmp 22) (.tmp 25) 50 rfl (.agg #[.int .i64 0,.slice none 0 0]) 32 Tryz.underlying50 Tryz.infoLd (OWN.out.nx hDrew) k (by omega) rfl ⟨g,0,none⟩ m _ (l.drop (k+1)) (HR.out.nx hDrew) (fun _=>rfl) (by simp [encP,encI,Hdr.val,Value.oneCell']) (by omega) rfl (by omega) ?_
  intro w9 own9 ch0
  replace hHeld:Ex w0 w9:=Chg.trans hHeld (ch0.mono (fun x hx=>⟨Nat.lt_of_lt_of_le hx hHeld.size,fun he=>by have:=HB.out;omega⟩))
  have HC:Chg (fun x=>x<w.heap.size∧¬ x=g) w w9:=Chg.trans (Chg.mono hDrew (fun x hx=>hx.1)) (ch0.mono (fun x hx=>⟨Nat.lt_of_lt_of_le hx.1 hDrew.size,hx.2⟩))
  rw [← EI.out] at own9
  clear ch0
  refine hK.out _ _ (hHeld) (fun hHeld=>?_)
  clear hK K
  refine tkH 7 (v:=?_) rfl (by kernel_rfl) (fun _ _ _ h=>h) (by rfl) ?y1x7q35 (by assumption) ?z1x7q35
  case y1x7q35=>intro wq hSw;(go_simp);(try with_reducible rfl)
  refine wpAnyH_done (by kernel_rfl) ?_ _
  obtain ⟨vs,hcl,O9,E9,C9⟩:=FIN w9 own9 hHeld HC
  clear FIN own9 hHeld hDrew HC
  go_wp2_with (simp only [hcl])
  go_ret
  exact ⟨_,rfl,O9,E9,C9⟩
 ·have HRD:Sl 2 (encP encI) w (some ⟨g,(k+1)*2,none⟩) m (l.drop (k+1)):=by
   have:=Sl.drop SLW.out (m:=k+1) (by have:=HM.out;omega)
   rw [Nat.zero_add,show l.length-(k+1)=m by have:=HM.out;omega] at this
   exact this
  have hcap2:¬ k+1=cap:=fun h=>hcap h.symm
  have HR:=lH HRD
  clear HRD
  refine wp_region_held_drew (S:=Ex w0) (by kernel_rfl) (K0.out.drew) (fun hHeld=>?_)
  obtain ⟨wd,hwdx⟩:∃ wd:World,wd=World.drew w:=⟨_,rfl⟩
  rw [← hwdx] at hHeld ⊢
  have hDrew:Ex w wd:=by rw [hwdx];exact (Ex.refl w).drew
  clear hwdx
  refine tkH 0 (v:=?_) rfl (by kernel_rfl) (fun _ _ _ h=>h) (by rfl) ?y2x0q5 (by assumption) ?z2x0q5
  case y2x0q5=>intro wq hSw;(go_simp);(try with_reducible rfl)
  refine tkH 1 (v:=?_) rfl (by kernel_rfl) (fun _ _ _ h=>h) (by rfl) ?y2x1q8 (by assumption) ?z2x1q8
  case y2x1q8=>intro wq hSw;(go_simp);(try with_reducible rfl)
  refine tkH 2 (v:=?_) rfl (by kernel_rfl) (fun _ _ _ h=>h) (by rfl) ?y2x2q11 (by assumption) ?z2x2q11
  case y2x2q11=>intro wq hSw;(go_simp);(try with_reducible rfl)
  refine tkH 3 (v:=?_) rfl (by kernel_rfl) (fun _ _ _ h=>h) (by rfl) ?y2x3q14 (by assumption) ?z2x3q14
  case y2x3q14=>intro wq hSw;(go_simp);(try with_reducible rfl)
  refine tkH 4 (v:=?_) rfl (by kernel_rfl) (fun _ _ _ h=>h) (by rfl) ?y2x4q17 (by assumption) ?z2x4q17
  case y2x4q17=>intro wq hSw;(go_simp);(try with_reducible rfl)
  refine tkH 5 (v:=?_) rfl (by kernel_rfl) (fun _ _ _ h=>h) (by rfl) ?y2x5q20 (by assumption) ?z2x5q20
  case y2x5q20=>intro wq hSw;(go_simp);(try with_reducible rfl)
  refine wpAnyH_ready (rs:=[6]) (by kernel_rfl) (by simp) ?_
  refine AllReadyH.cons (o:=⟨_,_,_,_,_,_⟩) rfl (fun K hK=>?_) AllReadyH.nil
  rw [if_pos (by rfl)]
  refine wp_append_roomW (enc:=(encP encI)) (.tmp 22) (.tmp 25) 50 rfl (.agg #[.int .i64 0,.slice none 0 0]) 32 Tryz.underlying50 Tryz.infoLd (OWN.out.nx hDrew) k (by omega) rfl ⟨g,(k+1)*2,none⟩ m _ (l.drop (k+1)) (HR.out.nx hDrew) (fun _=>rfl) (by simp [encP,encI,Hdr.val,Value.oneCell']) (by omega) rfl (by omega) ?_
  intro w9 own9 ch0
  replace hHeld:Ex w0 w9:=Chg.trans hHeld (ch0.mono (fun x hx=>⟨Nat.lt_of_lt_of_le hx hHeld.size,fun he=>by have:=HB.out;omega⟩))
  have HC:Chg (fun x=>x<w.heap.size∧¬ x=g) w w9:=Chg.trans (Chg.mono hDrew (fun x hx=>hx.1)) (ch0.mono (fun x hx=>⟨Nat.lt_of_lt_of_le hx.1 hDrew.size,hx.2⟩))
  rw [← EI.out] at own9
  clear ch0
  refine hK.out _ _ (hHeld) (fun hHeld=>?_)
  clear hK K
  refine tkH 7 (v:=?_) rfl (by kernel_rfl) (fun _ _ _ h=>h) (by rfl) ?y2x7q35 (by assumption) ?z2x7q35
  case y2x7q35=>intro wq hSw;(go_simp);(try with_reducible rfl)
  refine wpAnyH_done (by kernel_rfl) ?_ _
  obtain ⟨vs,hcl,O9,E9,C9⟩:=FIN w9 own9 hHeld HC
  clear FIN own9 hHeld hDrew HC
  go_wp2_with (simp only [hcl])
  go_ret
  exact ⟨_,rfl,O9,E9,C9⟩
def atV (es:List MapEntry) (x:Int):Option Value:=(es.find? fun e=>match e.key with | .int .i64 k=>k==x | _=>false).map (·.val)
def KeysI (es:List MapEntry):Prop:=∀ e∈es,∃ k:Int,e.key=.int .i64 k
def MapV (w:World) (b:Nat) (f:Int→Option Value):Prop:=∃ (A:Array MapEntry) (clock:Nat),w.heap[b]?=some (.map A clock)∧KeysI A.toList∧∀ x,atV A.toList x=f x
theorem MapV.made (w:World):MapV (w.alloc (.map #[] 0)) w.heap.size (fun _=>none):=⟨#[],0,heap_new w _,by simp [KeysI],fun _=>rfl⟩
theorem MapV.chg {w w':World} {b:Nat} {f:Int→Option Value} {S:Nat→Prop} (h:MapV w b f) (k:Chg S w w') (hb:S b):MapV w' b f:=by
 obtain ⟨A,c,h1,h2⟩:=h
 exact ⟨A,c,(k.block b hb).trans h1,h2⟩
theorem MapV.lt {w:World} {b:Nat} {f:Int→Option Value} (h:MapV w b f):b<w.heap.size:=by
 obtain ⟨A,c,h1,_⟩:=h
 exact heap_lt h1
theorem MapV.nx {w w':World} {b:Nat} {f:Int→Option Value} (h:MapV w b f) (k:Ex w w'):MapV w' b f:=h.chg k h.lt
theorem MapV.nxb {w w':World} {b c:Nat} {f:Int→Option Value} (h:MapV w b f) (hb:b≠c) (k:Exb c w w'):MapV w' b f:=h.chg k ⟨h.lt,hb⟩
theorem findNow_i (kind:TypeDesc) (hk:∀ a b:Int,Instr.sameNow kind (.int .i64 a) (.int .i64 b)=some (a==b)) (x:Int):∀ (es:List MapEntry) (i:Nat),KeysI es →
  ∃ r,Instr.findNow kind (.int .i64 x) es i=some r∧r.map (·.2)=atV es x∧∀ p,r=some p→∃ j e,p=(i+j,e.val)∧es[j]?=some e∧e.key=.int .i64 x∧∀ j' e',j'<j→es[j']?=some e'→e'.key≠.int .i64 x
 | [],i,_=>⟨none,rfl,rfl,by intro p h;cases h⟩
 | e::es,i,h=>by
  obtain ⟨k,hke⟩:=h e (by simp)
  unfold Instr.findNow
  rw [hke,hk]
  by_cases hx:x=k
  ·subst hx
   refine ⟨some (i,e.val),by simp,?_,?_⟩
   ·unfold atV
    rw [List.find?_cons_of_pos (by rw [hke];simp)]
    rfl
   ·intro p hp
    cases hp
    exact ⟨0,e,rfl,rfl,hke,by intro j' e' hj;omega⟩
  ·obtain ⟨r,h1,h2,h3⟩:=findNow_i kind hk x es (i+1) (fun e he=>h e (by simp [he]))
   have hxb:(x==k)=false:=by simpa using hx
   refine ⟨r,by rw [hxb];exact h1,?_,?_⟩
   ·rw [h2]
    unfold atV
    rw [List.find?_cons_of_neg]
    rw [hke]
    simp
    exact fun h=>hx h.symm
   ·intro p hp
    obtain ⟨j,e',e1,e2,e3,e4⟩:=h3 p hp
    refine ⟨j+1,e',by rw [e1];congr 1;omega,e2,e3,?_⟩
    intro j' e'' hj he
    cases j' with
    | zero =>
     cases he
     rw [hke]
     intro h
     cases h
     exact hx rfl
    | succ j'=>exact e4 j' e'' (by omega) he
theorem same_i {n:TypeDesc} (h:n=.int .i64) (a b:Int):Instr.sameNow n (.int .i64 a) (.int .i64 b)=some (a==b):=by
 subst h
 simp [Instr.sameNow]
theorem chk_i {P:Program} {w:World} {kt:TypeId} (hk:P.underlying kt=some (.int .i64)) (x:Int) (e:Bool):(Instr.checkKey e 10000 kt (.int .i64 x)).run P w=.ok () w :=
 MapKept.run_checkKey (n:=9999) hk (by simp [MapKept.IsKey]) e
theorem fnd_i {P:Program} {w:World} {kt:TypeId} (hk:P.underlying kt=some (.int .i64)) (x:Int) (es:List MapEntry) {r:Option (Nat×Value)} (hr:Instr.findNow (.int .i64) (.int .i64 x) es 0=some r):(Instr.findKey kt (.int .i64 x) es).run P w=.ok r w:=by
 unfold Instr.findKey
 simp only [Sem.run_bind,run_underlying hk,Result.andThen,hr]
 rfl
theorem MapV.look {P:Program} {w:World} {b:Nat} {f:Int→Option Value} (h:MapV w b f) {mt kt et:TypeId} {z:Value} (hm:P.underlying mt=some (.map kt et)) (hk:P.underlying kt=some (.int .i64)) (hz:(zeroValue et).run P w=.ok z w) (x:Int) :
  (Instr.lookup mt (.map (some b)) (.int .i64 x) true).run P w=.ok (.tuple #[(f x).getD z,.bool (f x).isSome]) w:=by
 obtain ⟨A,c,h1,h2,h3⟩:=h
 obtain ⟨r,r1,r2,_⟩:=findNow_i (.int .i64) (same_i rfl) x A.toList 0 h2
 rw [h3 x] at r2
 cases r with
 | none =>
  have:f x=none:=by simpa using r2.symm
  simp [Instr.lookup,run_underlying hm,MapKept.run_getObj_map h1,chk_i hk,fnd_i hk x _ r1,hz,this,Result.andThen]
 | some p =>
  have:f x=some p.2:=by simpa using r2.symm
  simp [Instr.lookup,run_underlying hm,MapKept.run_getObj_map h1,chk_i hk,fnd_i hk x _ r1,this,Result.andThen]
theorem MapV.look1 {P:Program} {w:World} {b:Nat} {f:Int→Option Value} (h:MapV w b f) {mt kt et:TypeId} {z:Value} (hm:P.underlying mt=some (.map kt et)) (hk:P.underlying kt=some (.int .i64)) (hz:(zeroValue et).run P w=.ok z w) (x:Int) :
  (Instr.lookup mt (.map (some b)) (.int .i64 x) false).run P w=.ok ((f x).getD z) w:=by
 obtain ⟨A,c,h1,h2,h3⟩:=h
 obtain ⟨r,r1,r2,_⟩:=findNow_i (.int .i64) (same_i rfl) x A.toList 0 h2
 rw [h3 x] at r2
 cases r with
 | none =>
  have:f x=none:=by simpa using r2.symm
  simp [Instr.lookup,run_underlying hm,MapKept.run_getObj_map h1,chk_i hk,fnd_i hk x _ r1,hz,this,Result.andThen]
 | some p =>
  have:f x=some p.2:=by simpa using r2.symm
  simp [Instr.lookup,run_underlying hm,MapKept.run_getObj_map h1,chk_i hk,fnd_i hk x _ r1,this,Result.andThen]
theorem atV_push (es:List MapEntry) (x y:Int) (v:Value) (t:Nat) (h:atV es x=none):atV (es++[⟨.int .i64 x,v,t⟩]) y=if y=x then some v else atV es y:=by
 unfold atV at *
 rw [List.find?_append]
 by_cases hy:y=x
 ·subst hy
  rw [if_pos rfl]
  rw [Option.map_eq_none_iff] at h
  rw [h]
  simp
 ·rw [if_neg hy]
  cases he:es.find? (fun e=>match e.key with | .int .i64 k=>k==y | _=>false) with
  | some e=>rfl
  | none =>
   have:¬ x=y:=fun h=>hy h.symm
   simp [this]
theorem atV_set (x:Int) (v:Value) (g:MapEntry→MapEntry):∀ (es:List MapEntry) (j:Nat) (e:MapEntry),KeysI es→es[j]?=some e→e.key=.int .i64 x→(∀ j' e',j'<j→es[j']?=some e'→e'.key≠.int .i64 x) →
  (g e).key=.int .i64 x→(g e).val=v→∀ y,atV (es.modify j g) y=if y=x then some v else atV es y
 | [],j,e,_,he,_,_,_,_,_=>by simp at he
 | e0::es,0,e,hK,he,hk,_,g1,g2,y=>by
  cases he
  show atV (g e0::es) y=_
  unfold atV
  by_cases hy:y=x
  ·subst hy
   rw [if_pos rfl,List.find?_cons_of_pos (by rw [g1];simp)]
   rw [← g2];rfl
  ·rw [if_neg hy,List.find?_cons_of_neg (by rw [g1];simp;exact fun h=>hy h.symm),List.find?_cons_of_neg (by rw [hk];simp;exact fun h=>hy h.symm)]
 | e0::es,j+1,e,hK,he,hk,hno,g1,g2,y=>by
  have ih:=atV_set x v g es j e (fun e he=>hK e (by simp [he])) he hk (fun j' e' hj h=>hno (j'+1) e' (by omega) h) g1 g2 y
  show atV (e0::es.modify j g) y=_
  obtain ⟨k0,hk0⟩:=hK e0 (by simp)
  have hne:e0.key≠.int .i64 x:=hno 0 e0 (by omega) rfl
  unfold atV at *
  by_cases h0:k0=y
  ·have hyx:¬ y=x:=by intro h;apply hne;rw [hk0,h0,h]
   rw [if_neg hyx,List.find?_cons_of_pos (by rw [hk0];simp [h0]),List.find?_cons_of_pos (by rw [hk0];simp [h0])]
  ·rw [List.find?_cons_of_neg (by rw [hk0];simpa using h0),List.find?_cons_of_neg (by rw [hk0];simpa using h0)]
   exact ih
theorem MapV.put {P:Program} {w:World} {b:Nat} {f:Int→Option Value} (h:MapV w b f) {mt kt et:TypeId} (hm:P.underlying mt=some (.map kt et)) (hk:P.underlying kt=some (.int .i64)) (x:Int) (v:Value) :
  ∃ w',(Instr.mapUpdate mt (.map (some b)) (.int .i64 x) v).run P w=.ok () w'∧MapV w' b (fun y=>if y=x then some v else f y)∧Exb b w w':=by
 obtain ⟨A,c,h1,h2,h3⟩:=h
 obtain ⟨r,r1,r2,r3⟩:=findNow_i (.int .i64) (same_i rfl) x A.toList 0 h2
 have hlt:=heap_lt h1
 have hch:∀ o:Obj,Exb b w { w with heap:=w.heap.setIfInBounds b o }:=fun o =>
  ⟨rfl,rfl,rfl,by simp,fun k hk=>by simp only [];rw [Array.getElem?_setIfInBounds_ne (fun e=>hk.2 e.symm)]⟩
 cases r with
 | none =>
  have hf:atV A.toList x=none:=by simpa using r2.symm
  refine ⟨{ w with heap:=w.heap.setIfInBounds b (.map (A.push ⟨.int .i64 x,v,c⟩) (c+1)) },?_,⟨A.push ⟨.int .i64 x,v,c⟩,c+1,by simp [hlt],?_,fun y=>?_⟩,hch _⟩
  ·simp [Instr.mapUpdate,run_underlying hm,MapKept.run_getObj_map h1,chk_i hk,fnd_i hk x _ r1,MapKept.run_setObj_map _ h1,Result.andThen]
  ·intro e he
   rw [Array.toList_push] at he
   rcases List.mem_append.1 he with he | he
   ·exact h2 e he
   ·rw [List.mem_singleton.1 he];exact ⟨x,rfl⟩
  ·rw [Array.toList_push,atV_push _ _ _ _ _ hf,h3]
 | some p =>
  obtain ⟨j,e,e1,e2,e3,e4⟩:=r3 p rfl
  have hj:p.1=j:=by rw [e1];simp
  obtain ⟨q,u⟩:=p
  simp only at hj
  subst hj
  have hA:A[q]?=some e:=by rw [← Array.getElem?_toList];exact e2
  refine ⟨{ w with heap:=w.heap.setIfInBounds b (.map (A.modify q fun e=>{ e with key:=.int .i64 x,val:=v }) c) },?_,⟨A.modify q fun e=>{ e with key:=.int .i64 x,val:=v },c,by simp [hlt],?_,fun y=>?_⟩,hch _⟩
  ·simp [Instr.mapUpdate,run_underlying hm,MapKept.run_getObj_map h1,chk_i hk,fnd_i hk x _ r1,MapKept.run_setObj_map _ h1,hA,e3,Instr.keyThatStays,Instr.sameBits,Result.andThen]
  ·intro e' he
   rw [Array.toList_modify] at he
   obtain ⟨i,hi⟩:=List.mem_iff_getElem?.1 he
   rw [List.getElem?_modify] at hi
   cases ha:A.toList[i]? with
   | none=>rw [ha] at hi;cases hi
   | some e0 =>
    rw [ha] at hi
    have:=h2 e0 (List.mem_of_getElem? ha)
    simp only [Option.map_eq_map,Option.map_some,Option.some.injEq] at hi
    split at hi
    ·rw [← hi];exact ⟨x,rfl⟩
    ·rw [← hi];exact this
  ·rw [Array.toList_modify,atV_set x v _ A.toList q e h2 e2 e3 e4 rfl rfl y,h3]
theorem find_lk {L:List Lkd} {id:Int} {k:Nat} {d:Lkd} (hd:L[k]?=some d) (he:d.1=id) (hno:∀ j z,j<k→L[j]?=some z→z.1≠id):L.find? (fun c=>c.1==id)=some d:=by
 rw [List.find?_eq_some_iff_getElem]
 obtain ⟨hk,e⟩:=List.getElem?_eq_some_iff.1 hd
 refine ⟨by simp [he],k,hk,e,fun j hj=>?_⟩
 have:=hno j L[j] hj (List.getElem?_eq_getElem (by omega))
 simpa using this
theorem find_lk_none {L:List Lkd} {id:Int} (hno:∀ j z,j<L.length→L[j]?=some z→z.1≠id):L.find? (fun c=>c.1==id)=none:=by
 rw [List.find?_eq_none]
 intro c hc
 obtain ⟨j,hj⟩:=List.mem_iff_getElem?.1 hc
 have:=hno j c (List.getElem?_eq_some_iff.1 hj).1 hj
 simpa using this
def AtkRel (L:List Lkd) (id:Int) (n:Nat) (w:World) (i:Value) (wr:World):Prop:=∃ k:Nat,k≤n∧i=.int .i64 k∧Ex w wr∧∀ j z,j<k→L[j]?=some z→z.1≠id
def LkvPost (p:Int×Int) (w:World) (e:Ending) (w':World):Prop:=e=.returned (.agg #[.int .i64 p.1,.int .i64 p.2])∧Ex w w'
theorem blk2 {w:World} {g:Nat} {x y:Value} {ty:TypeId} (h:Blk w g [x,y] ty):w.cell? ⟨g,0,none⟩=some x∧w.cell? ⟨g,1,none⟩=some y∧w.frozen? ⟨g,0,none⟩=false∧w.frozen? ⟨g,1,none⟩=false∧g<w.heap.size:=⟨h.cell 0 _ rfl,h.cell 1 _ rfl,h.free 0,h.free 1,h.lt⟩
set_option maxRecDepth 100000 in
set_option maxHeartbeats 2000000 in
theorem at_r (a:Option Addr) (n c:Nat) (L:List Lkd) (id lev:Int) (w:World) (h:LkL w a n L) (hn:n≤1000000) (hlv:-9223372036854775808≤lev∧lev≤9223372036854775807) :
  Calls Tryz.prog 70 #[.slice a n c,.int .i64 id,.int .i64 lev] w (LkvPost (atL L id lev) w):=by
 have HL:=lH h.len
 have k1:=Ex.new w (.cells #[.int .i64 0,.int .i64 0] 81)
 have B1:=Blk.new w [.int .i64 0,.int .i64 0] 81
 obtain ⟨w1,hw1⟩:∃ w1,w1=w.alloc (.cells #[.int .i64 0,.int .i64 0] 81):=⟨_,rfl⟩
 obtain ⟨g,hg⟩:∃ g,g=w.heap.size:=⟨_,rfl⟩
 have B1:Blk w1 g [.int .i64 0,.int .i64 0] 81:=by rw [hw1,hg];exact B1
 rw [← hw1] at k1
 have hgw:w.heap.size≤g:=by omega
 have HW1:=lH hw1
 have HG:=lH hg
 have S1:=lH (h.nx k1)
 have KE:Hid (∀ (wr:World) (v0 v1:Value),Ex w1 wr→Ex w ((wr.setCell ⟨g,0,none⟩ v0).setCell ⟨g,1,none⟩ v1)):=lH (fun wr v0 v1 k=>((k1.nx k).setNew (p:=⟨g,0,none⟩) _ hgw).setNew (p:=⟨g,1,none⟩) _ hgw)
 clear h hw1 hg k1 hgw
 go_enter Tryz.func70,Tryz.ntmps70
 go_upto_region 1 with fail
 rw [← HG.out,← HW1.out]
 go_wp2_with fail
 go_loopw [7] (fun i wr=>AtkRel L id n w1 i wr) (fun i _=>n-(intOf i).toNat)
 case atStart=>exact ⟨0,by omega,rfl,Ex.refl _,by intro j z h;omega⟩
 case round =>
  obtain ⟨k,hk,rfl,kw,hno⟩:=hrel
  obtain ⟨wo,rfl⟩:∃ wo:World,wo=wr:=⟨_,rfl⟩
  have HNO:=lH hno
  obtain ⟨q0,q1,z0,z1,hgo⟩:=blk2 (B1.nx kw)
  have KO:=lH (fun v0 v1=>KE.out wo v0 v1 kw)
  clear hno
  by_cases hlt:k<n
  ·obtain ⟨x1,o1,a',n',c',d,rfl,hx1,hd,hc1,r1⟩:=NL.at (S1.out.nx kw) hlt
   have e0:wo.cell? ⟨x1,o1+k*2,none⟩=some (.int .i64 d.1):=hc1 0 _ rfl
   have e1:wo.cell? ⟨x1,o1+k*2+1,none⟩=some (.slice a' n' c'):=hc1 1 _ rfl
   have HD:=lH hd
   have hdl:=r1.len
   clear hc1 hd
   by_cases hid:d.1=id
   ·have hb:(d.1==id)=true:=by simpa using hid
    have FD:=find_lk HD.out hid HNO.out
    by_cases h0:lev<0
    ·have AT:Hid (atL L id lev=(0,0)):=lH (by unfold atL;rw [FD];simp only;rw [if_pos h0])
     clear FD r1 kw hid hdl
     go_wp2_with fail
     refine bodyPost_ret (v:=.agg #[.int .i64 0,.int .i64 0]) (by simp [results,Tryz.results70,go_sem, *]) rfl ⟨by rw [AT.out],KO.out _ _⟩
    ·by_cases h1:(n':Int)≤lev
     ·have AT:Hid (atL L id lev=(0,0)):=lH (by unfold atL;rw [FD];simp only;rw [if_neg h0,List.getElem?_eq_none (by omega)];rfl)
      clear FD r1 kw hid hdl
      go_wp2_with fail
      refine bodyPost_ret (v:=.agg #[.int .i64 0,.int .i64 0]) (by simp [results,Tryz.results70,go_sem, *]) rfl ⟨by rw [AT.out],KO.out _ _⟩
     ·obtain ⟨m,rfl⟩:=Int.eq_ofNat_of_zero_le (show 0≤lev by omega)
      obtain ⟨x2,o2,y,rfl,hx2,hy,hc2⟩:=r1.at (j:=m) (by omega)
      have f0:wo.cell? ⟨x2,o2+m*2,none⟩=some (.int .i64 y.1):=hc2 0 _ rfl
      have f1:wo.cell? ⟨x2,o2+m*2+1,none⟩=some (.int .i64 y.2):=hc2 1 _ rfl
      have AT:Hid (atL L id (m:Int)=y):=lH (by unfold atL;rw [FD];simp only;rw [if_neg h0];show d.2[m]?.getD (0,0)=y;rw [hy];rfl)
      have hgx:¬ g=x2∨True:=.inr trivial
      clear FD r1 kw hid hdl hc2 hy hgx
      go_wp2_with fail
      refine bodyPost_ret (v:=.agg #[.int .i64 y.1,.int .i64 y.2]) (by simp [results,Tryz.results70,go_sem, *]) rfl ⟨by rw [AT.out],KO.out _ _⟩
   ·have hb:(d.1==id)=false:=by simpa using hid
    have HI:=lH hid
    have KW:=lH kw
    clear r1 hdl kw hid
    go_wp2_with fail
    refine ⟨⟨k+1,by omega,by go_num,KW.out,fun j z hj hz=>?_⟩,by simp [intOf];omega⟩
    rcases Nat.lt_or_ge j k with h | h
    ·exact HNO.out j z h hz
    ·obtain rfl:j=k:=by omega
     rw [Option.some.inj (hz.symm.trans HD.out)]
     exact HI.out
  ·obtain rfl:k=n:=by omega
   have AT:Hid (atL L id lev=(0,0)):=lH (by unfold atL;rw [find_lk_none (fun j z hj hz=>HNO.out j z (by rw [← HL.out];exact hj) hz)])
   clear hk hlt kw
   go_wp2_with fail
   refine bodyPost_ret (v:=.agg #[.int .i64 0,.int .i64 0]) (by simp [results,Tryz.results70,go_sem, *]) rfl ⟨by rw [AT.out],KO.out _ _⟩
theorem le_not (a b:List UInt8):(Op.bytesLess a b||a==b) = !Op.bytesLess b a:=by
 rcases bl_tri a b with ⟨h1,h2,h3⟩ | ⟨h1,h2,h3⟩ | ⟨h1,h2,h3⟩
 ·rw [h1,h2];rfl
 ·rw [h1,bytesLess_irrefl];simp
 ·rw [h1,h2];simpa using h3
def fN (N:List Nd) (id:Int):Option Value:=(N.find? fun x=>x.id==id).map Nd.val
def fQ (qs:List (Int×Hdr)) (id:Int):Option Value:=(qs.find? fun q=>q.1==id).map fun q=>q.2.val
theorem fN_snoc {N:List Nd} (hd:N.Pairwise fun x y=>x.id≠y.id) {k:Nat} {y:Nd} (hy:N[k]?=some y):(fun z=>if z=y.id then some y.val else fN (N.take k) z)=fN (N.take (k+1)):=by
 funext z
 obtain ⟨hk,e⟩:=List.getElem?_eq_some_iff.1 hy
 unfold fN
 rw [take_snocN N k y hy,List.find?_append]
 by_cases hz:z=y.id
 ·have:(N.take k).find? (fun x=>x.id==z)=none:=by
   rw [List.find?_eq_none]
   intro x hx hxz
   obtain ⟨j,hj⟩:=List.mem_iff_getElem?.1 hx
   rw [List.getElem?_take] at hj
   split at hj
   ·rename_i hjk
    obtain ⟨h1,e1⟩:=List.getElem?_eq_some_iff.1 hj
    have:=List.pairwise_iff_getElem.1 hd j k h1 hk hjk
    rw [e1,e] at this
    exact this ((by simpa using hxz:x.id=z).trans hz)
   ·cases hj
  rw [this,if_pos hz,hz]
  simp
 ·rw [if_neg hz]
  have h1:(y.id==z)=false:=by rw [beq_eq_false_iff_ne];exact fun h=>hz h.symm
  cases h2:(N.take k).find? (fun x=>x.id==z) with
  | some x=>rfl
  | none=>simp [h1]
theorem fQ_snoc {qs:List (Int×Hdr)} {k:Nat} {q:Int×Hdr} (hq:qs[k]?=some q):fQ (qs.take (k+1))=if (fQ (qs.take k) q.1).isSome=true then fQ (qs.take k) else fun z=>if z=q.1 then some q.2.val else fQ (qs.take k) z:=by
 have e:qs.take (k+1)=qs.take k++[q]:=by rw [List.take_add_one,hq];rfl
 funext z
 unfold fQ
 rw [e,List.find?_append]
 by_cases hs:((qs.take k).find? fun r=>r.1==q.1).isSome=true
 ·have hs':(((qs.take k).find? fun r=>r.1==q.1).map fun q=>q.2.val).isSome=true:=by rw [Option.isSome_map];exact hs
  rw [if_pos hs']
  cases h2:(qs.take k).find? (fun r=>r.1==z) with
  | some x=>rfl
  | none =>
   by_cases hz:z=q.1
   ·rw [hz] at h2;rw [h2] at hs;cases hs
   ·have h1:(q.1==z)=false:=by rw [beq_eq_false_iff_ne];exact fun h=>hz h.symm
    simp [h1]
 ·have hs':¬ (((qs.take k).find? fun r=>r.1==q.1).map fun q=>q.2.val).isSome=true:=by rw [Option.isSome_map];exact hs
  rw [if_neg hs']
  have hn:(qs.take k).find? (fun r=>r.1==q.1)=none:=Option.not_isSome_iff_eq_none.1 hs
  by_cases hz:z=q.1
  ·rw [if_pos hz,hz,hn];simp
  ·have h1:(q.1==z)=false:=by rw [beq_eq_false_iff_ne];exact fun h=>hz h.symm
   rw [if_neg hz]
   cases h2:(qs.take k).find? (fun r=>r.1==z) with
   | some x=>rfl
   | none=>simp [h1]
theorem find_fN (N:List Nd) (id:Int):(fN N id).getD Nd.zero.val=(findN N id).1.val∧(fN N id).isSome=(findN N id).2:=by
 unfold fN findN
 cases N.find? (fun x=>x.id==id)<;>exact ⟨rfl,rfl⟩
def Net (β:Nat) (w:World) (b1 b2:Nat) (N:List Nd) (L:List Lkd):Prop :=
 ∃ qs:List (Int×Hdr),b1<β∧MapV w b1 (fN N)∧b2<β∧MapV w b2 (fQ qs)∧qs.length=L.length∧∀ (j:Nat) (q:Int×Hdr) (c:Lkd),qs[j]?=some q→L[j]?=some c→q.1=c.1∧Rd 2 encS (· < β) w q.2.1 q.2.2.1 c.2
theorem Net.chg {β:Nat} {w w':World} {b1 b2:Nat} {N:List Nd} {L:List Lkd} (h:Net β w b1 b2 N L) (k:Chg (· < β) w w'):Net β w' b1 b2 N L:=by
 obtain ⟨qs,h1,h2,h3,h4,h5,h6⟩:=h
 exact ⟨qs,h1,h2.chg k h1,h3,h4.chg k h3,h5,fun j q c hq hc=>⟨(h6 j q c hq hc).1,Rd.chg (h6 j q c hq hc).2 k (fun _ x=>x)⟩⟩
theorem Net.nx {β:Nat} {w w':World} {b1 b2:Nat} {N:List Nd} {L:List Lkd} (h:Net β w b1 b2 N L) (hb:β≤w.heap.size) (k:Ex w w'):Net β w' b1 b2 N L:=h.chg (Chg.mono k (fun _ hk=>Nat.lt_of_lt_of_le hk hb))
theorem Net.up {β β':Nat} {w:World} {b1 b2:Nat} {N:List Nd} {L:List Lkd} (h:Net β w b1 b2 N L) (hb:β≤β'):Net β' w b1 b2 N L:=by
 obtain ⟨qs,h1,h2,h3,h4,h5,h6⟩:=h
 exact ⟨qs,by omega,h2,by omega,h4,h5,fun j q c hq hc=>⟨(h6 j q c hq hc).1,Rd.mono (h6 j q c hq hc).2 (fun _ hk=>Nat.lt_of_lt_of_le hk hb)⟩⟩
theorem Net.row {β:Nat} {w:World} {b1 b2:Nat} {N:List Nd} {L:List Lkd} {qs:List (Int×Hdr)} (hl:qs.length=L.length) (h6:∀ (j:Nat) (q:Int×Hdr) (c:Lkd),qs[j]?=some q→L[j]?=some c→q.1=c.1∧Rd 2 encS (· < β) w q.2.1 q.2.2.1 c.2) (id:Int) :
  ∃ (a:Option Addr) (n c:Nat) (row:List (Int×Int)),(fQ qs id).getD (.slice none 0 0)=.slice a n c∧Rd 2 encS (· < β) w a n row∧topL L id=min ((n:Int)-1) 16∧(∀ lev:Nat,atL L id (lev:Int)=row[lev]?.getD (0,0))∧(row=[]∨∃ d∈L,row=d.2):=by
 have key:∀ (qs:List (Int×Hdr)) (L:List Lkd),qs.length=L.length→(∀ (j:Nat) (q:Int×Hdr) (c:Lkd),qs[j]?=some q→L[j]?=some c→q.1=c.1∧Rd 2 encS (· < β) w q.2.1 q.2.2.1 c.2) →
   (qs.find? (fun q=>q.1==id)=none∧L.find? (fun c=>c.1==id)=none)∨∃ q d,qs.find? (fun q=>q.1==id)=some q∧L.find? (fun c=>c.1==id)=some d∧d∈L∧Rd 2 encS (· < β) w q.2.1 q.2.2.1 d.2:=by
  intro qs
  induction qs with
  | nil=>intro L h _;cases L with
   | nil=>exact .inl ⟨rfl,rfl⟩
   | cons d L=>simp at h
  | cons q qs ih =>
   intro L h h6
   cases L with
   | nil=>simp at h
   | cons d L =>
    obtain ⟨e1,e2⟩:=h6 0 q d rfl rfl
    by_cases hq:q.1=id
    ·exact .inr ⟨q,d,by rw [List.find?_cons_of_pos (by simpa using hq)],by rw [List.find?_cons_of_pos (by rw [← e1];simpa using hq)],by simp,e2⟩
    ·rw [List.find?_cons_of_neg (by simpa using hq),List.find?_cons_of_neg (by rw [← e1];simpa using hq)]
     rcases ih L (by simpa using h) (fun j q c hq hc=>h6 (j+1) q c hq hc) with h | ⟨q',d',g1,g2,g3,g4⟩
     ·exact .inl h
     ·exact .inr ⟨q',d',g1,g2,by simp [g3],g4⟩
 rcases key qs L hl h6 with ⟨g1,g2⟩ | ⟨q,d,g1,g2,g3,g4⟩
 ·refine ⟨none,0,0,[],by unfold fQ;rw [g1];rfl,Rd.nil _ _ _ _ _,by unfold topL;rw [g2];rfl,fun lev=>by unfold atL;rw [g2];rfl,.inl rfl⟩
 ·refine ⟨q.2.1,q.2.2.1,q.2.2.2,d.2,by unfold fQ;rw [g1];rfl,g4,by unfold topL;rw [g2];simp only;rw [g4.1],fun lev=>?_,.inr ⟨d,g3,rfl⟩⟩
  unfold atL
  rw [g2]
  simp only
  rw [if_neg (by omega)]
  rfl
theorem Tryz.zeroNd (w:World):(zeroValue 49).run Tryz.prog w=.ok (.agg #[.int .i64 0,.string ⟨#[]⟩,.int .u32 0]) w:=by kernel_rfl
theorem Tryz.zeroLs (w:World):(zeroValue 82).run Tryz.prog w=.ok (.slice none 0 0) w:=by kernel_rfl
def sideN (side:Int) (p:Int×Int):Int:=if side=1 then p.2 else p.1
def LnPost (r:Nd×Bool) (w:World) (e:Ending) (w':World):Prop:=e=.returned (.tuple #[.agg #[.int .i64 r.1.id,.string r.1.key,.int .u32 r.1.word],.bool r.2])∧Ex w w'
set_option maxRecDepth 100000 in
set_option maxHeartbeats 4000000 in
theorem link_p (β b1 b2:Nat) (N:List Nd) (L:List Lkd) (id:Int) (lev:Nat) (side:Int) (w:World) (h:Net β w b1 b2 N L) (h0:checkN N=0) (hb:β≤w.heap.size) (hs:∀ c∈L,c.2.length≤9223372036854775807) (hl:lev≤1000) :
  Calls Tryz.prog 113 #[.agg #[.map (some b1),.map (some b2)],.int .i64 id,.int .i64 lev,.int .i64 side] w (LnPost (findN N (sideN side (atL L id lev))) w):=by
 obtain ⟨qs,h1,m1,h2,m2,h5,h6⟩:=h
 obtain ⟨a,n,c,row,r1,r2,_,r4,r5⟩:=Net.row (b1:=b1) (b2:=b2) (N:=N) h5 h6 id
 have hnb:n≤9223372036854775807:=by
  rw [← r2.1]
  rcases r5 with h | ⟨d,hd,h⟩
  ·rw [h];simp
  ·rw [h];exact hs d hd
 have B4:=Blk.new w [.map (some b1),.map (some b2)] 144
 have k1:=Ex.new w (.cells #[.map (some b1),.map (some b2)] 144)
 have B8:=Blk.new (w.alloc (.cells #[.map (some b1),.map (some b2)] 144)) [.int .i64 0,.string ⟨#[]⟩,.int .u32 0] 49
 have k2:=Ex.new (w.alloc (.cells #[.map (some b1),.map (some b2)] 144)) (.cells #[.int .i64 0,.string ⟨#[]⟩,.int .u32 0] 49)
 have B4:=B4.nx k2
 obtain ⟨w1,hw1⟩:∃ w1,w1=(w.alloc (.cells #[.map (some b1),.map (some b2)] 144)).alloc (.cells #[.int .i64 0,.string ⟨#[]⟩,.int .u32 0] 49):=⟨_,rfl⟩
 obtain ⟨g4,hg4⟩:∃ g4,g4=w.heap.size:=⟨_,rfl⟩
 obtain ⟨g8,hg8⟩:∃ g8,g8=w.heap.size+1:=⟨_,rfl⟩
 have B4:Blk w1 g4 [.map (some b1),.map (some b2)] 144:=by rw [hw1,hg4];exact B4
 have B8:Blk w1 g8 [.int .i64 0,.string ⟨#[]⟩,.int .u32 0] 49:=by rw [hw1,hg8];simpa using B8
 have k1:=k1.nx k2
 rw [← hw1] at k1
 have hgw:w.heap.size≤g8:=by omega
 have HW1:=lH hw1
 have HG4:=lH hg4
 have HG8:=lH hg8
 have M1:=m1.nx k1
 have M2:=m2.nx k1
 have RW:=lH (show Sl 2 encS w1 a n row from Sl.nx (Rd.mono r2 (fun _ hk=>Nat.lt_of_lt_of_le hk hb)) k1)
 have look:=M2.look1 (mt:=142) Tryz.underlying142 Tryz.underlying3 (Tryz.zeroLs w1) id
 rw [r1] at look
 have c0:=B4.cell 0 _ rfl
 have c1:=B4.cell 1 _ rfl
 have KE:=lH (fun (wr:World) (v0 v1 v2:Value) (k:Ex w1 wr)=>(((k1.nx k).setNew (p:=⟨g8,0,none⟩) v0 hgw).setNew (p:=⟨g8,1,none⟩) v1 hgw).setNew (p:=⟨g8,2,none⟩) v2 hgw)
 have R4:=lH r4
 have RL:=lH r2.1
 have HB:=lH (And.intro B4 B8)
 have hmm:b1<w1.heap.size:=M1.lt
 clear m1 m2 h5 h6 r1 r2 r4 r5 hw1 hg4 hg8 k1 k2 B4 B8 hs
 go_enter Tryz.func113,Tryz.ntmps113
 go_upto_region 1 with fail
 rw [← HG8.out,← HW1.out,← HG4.out]
 clear HG8 HW1 HG4
 by_cases hlv:n≤lev
 ·have hlv':(n:Int)≤(lev:Int):=by omega
  have AT:Hid (findN N (sideN side (atL L id (lev:Int)))=(Nd.zero,false)):=lH (by
   rw [R4.out lev,List.getElem?_eq_none (by rw [RL.out];exact hlv)]
   have:=find_zero h0
   unfold sideN
   split<;>exact this)
  have q0:=HB.out.2.cell 0 _ rfl
  have q1:=HB.out.2.cell 1 _ rfl
  have q2:=HB.out.2.cell 2 _ rfl
  have z0:=HB.out.2.free 0
  have z1:=HB.out.2.free 1
  have z2:=HB.out.2.free 2
  have KF:=KE.out w1 (.int .i64 0) (.string ⟨#[]⟩) (.int .u32 0) (Ex.refl w1)
  have KF:=lH KF
  clear M1 M2 hlv
  go_wp2_with fail
  refine bodyPost_ret (v:=.tuple #[.agg #[.int .i64 0,.string ⟨#[]⟩,.int .u32 0],.bool false]) (by simp [results,Tryz.results113,go_sem, *]) rfl ⟨by rw [AT.out];rfl,KF.out⟩
 ·have hlv':¬ (n:Int)≤(lev:Int):=by omega
  obtain ⟨x2,o2,y,rfl,hx2,hy,hc2⟩:=RW.out.at (j:=lev) (by omega)
  have f0:w1.cell? ⟨x2,o2+lev*2,none⟩=some (.int .i64 y.1):=hc2 0 _ rfl
  have f1:w1.cell? ⟨x2,o2+lev*2+1,none⟩=some (.int .i64 y.2):=hc2 1 _ rfl
  have AT:Hid (atL L id (lev:Int)=y):=lH (by rw [R4.out lev,hy];rfl)
  have B10:=Blk.new w1 [.int .i64 y.1,.int .i64 y.2] 81
  have k3:=Ex.new w1 (.cells #[.int .i64 y.1,.int .i64 y.2] 81)
  obtain ⟨w2,hw2⟩:∃ w2,w2=w1.alloc (.cells #[.int .i64 y.1,.int .i64 y.2] 81):=⟨_,rfl⟩
  obtain ⟨g10,hg10⟩:∃ g10,g10=w1.heap.size:=⟨_,rfl⟩
  have B10:Blk w2 g10 [.int .i64 y.1,.int .i64 y.2] 81:=by rw [hw2,hg10];exact B10
  rw [← hw2] at k3
  have HW2:=lH hw2
  have HG10:=lH hg10
  have M1b:=lH (M1.nx k3)
  have HBb:=lH (And.intro (HB.out.1.nx k3) (HB.out.2.nx k3))
  have K3:=lH k3
  clear hc2 hy hw2 hg10 k3 hlv M1 M2
  go_upto_region 4 with fail
  rw [← HG10.out,← HW2.out]
  clear HG10 HW2 look f0 f1 c0 c1
  have d0:=B10.cell 0 _ rfl
  have d1:=B10.cell 1 _ rfl
  have c0:=HBb.out.1.cell 0 _ rfl
  obtain ⟨T,hT⟩:∃ T,T=sideN side y:=⟨_,rfl⟩
  have ATT:Hid (sideN side (atL L id (lev:Int))=T):=lH (by rw [AT.out,hT])
  have lk:=M1b.out.look (mt:=141) Tryz.underlying141 Tryz.underlying3 (Tryz.zeroNd w2) T
  have ff:=find_fN N T
  have e1:(fN N T).getD (.agg #[.int .i64 0,.string ⟨#[]⟩,.int .u32 0])=(findN N T).1.val:=ff.1
  rw [e1,ff.2] at lk
  obtain ⟨E,hE⟩:∃ E,E=findN N T:=⟨_,rfl⟩
  rw [← hE] at lk
  have AE:Hid (findN N (sideN side (atL L id (lev:Int)))=E):=lH (by rw [ATT.out,hE])
  obtain ⟨E,eo⟩:=E
  unfold Nd.val at lk
  simp only at lk
  have q0:=HBb.out.2.cell 0 _ rfl
  have q1:=HBb.out.2.cell 1 _ rfl
  have q2:=HBb.out.2.cell 2 _ rfl
  have z0:=HBb.out.2.free 0
  have z1:=HBb.out.2.free 1
  have z2:=HBb.out.2.free 2
  have hg8l:=HBb.out.2.lt
  have hne:¬ g8=w2.heap.size:=by omega
  have hne2:¬ w2.heap.size=g8:=by omega
  have KF:=lH ((KE.out w2 (.int .i64 E.id) (.string E.key) (.int .u32 E.word) K3.out).alloc (.cells #[.int .i64 E.id,.string E.key,.int .u32 E.word] 49))
  clear ff e1 hE M1b B10 ATT
  by_cases hsd:side=1
  ·rw [show sideN side y=y.2 from if_pos hsd] at hT
   have sb:(side==1)=true:=by simpa using hsd
   subst hT
   clear hsd
   go_wp2_with fail
   refine bodyPost_ret (v:=.tuple #[.agg #[.int .i64 E.id,.string E.key,.int .u32 E.word],.bool eo]) (by simp [results,Tryz.results113,go_sem, *]) rfl ⟨by rw [AE.out],KF.out⟩
  ·rw [show sideN side y=y.1 from if_neg hsd] at hT
   have sb:(side==1)=false:=by simpa using hsd
   subst hT
   clear hsd
   go_wp2_with fail
   refine bodyPost_ret (v:=.tuple #[.agg #[.int .i64 E.id,.string E.key,.int .u32 E.word],.bool eo]) (by simp [results,Tryz.results113,go_sem, *]) rfl ⟨by rw [AE.out],KF.out⟩
def M1Rel (N:List Nd) (b:Nat) (w:World) (i:Value) (wr:World):Prop:=∃ k:Nat,k≤N.length∧i=.int .i64 k∧MapV wr b (fN (N.take k))∧Exb b w wr
def M2Rel (qs:List (Int×Hdr)) (b:Nat) (w:World) (i:Value) (wr:World):Prop:=∃ k:Nat,k≤qs.length∧i=.int .i64 k∧MapV wr b (fQ (qs.take k))∧Exb b w wr
def MdPost (N:List Nd) (L:List Lkd) (w:World) (e:Ending) (w':World):Prop:=∃ b1 b2:Nat,e=.returned (.agg #[.map (some b1),.map (some b2)])∧Net w'.heap.size w' b1 b2 N L∧Ex w w'
set_option maxRecDepth 100000 in
set_option maxHeartbeats 4000000 in
theorem made_p (a:Option Addr) (n c:Nat) (N:List Nd) (a2:Option Addr) (n2 c2:Nat) (L:List Lkd) (w:World) (h:Sl 3 encN w a n N) (hn:n≤1000) (h2:LkL w a2 n2 L) (hn2:n2≤1000000) (h0:checkN N=0) :
  Calls Tryz.prog 111 #[.slice a n c,.slice a2 n2 c2] w (MdPost N L w):=by
 have ID:Hid (N.Pairwise fun x y=>x.id≠y.id):=lH ((keys_pw (check_keys h0)).imp (fun h=>h.2))
 have HL:=lH h.len
 obtain ⟨qs,hq1,hq2,hq3⟩:=h2
 have HQL:=lH hq1.len
 have HQ2:=lH hq2
 have HQ3:=lH hq3
 have hmm:=@run_makeMap Tryz.prog
 obtain ⟨g4,hg4⟩:∃ g4,g4=w.heap.size:=⟨_,rfl⟩
 obtain ⟨b1,hb1⟩:∃ b1,b1=w.heap.size+1:=⟨_,rfl⟩
 obtain ⟨b2,hb2⟩:∃ b2,b2=w.heap.size+1+1:=⟨_,rfl⟩
 obtain ⟨g5,hg5⟩:∃ g5,g5=w.heap.size+1+1+1:=⟨_,rfl⟩
 obtain ⟨w4,hw4,k4,B4,M1,M2,B5⟩:∃ w4,w4=(((w.alloc (.cells #[.map none,.map none] 144)).alloc (.map #[] 0)).alloc (.map #[] 0)).alloc (.cells #[.map (some b1),.map (some b2)] 144)∧Ex w w4 ∧
   Blk w4 g4 [.map none,.map none] 144∧MapV w4 b1 (fun _=>none)∧MapV w4 b2 (fun _=>none)∧Blk w4 g5 [.map (some b1),.map (some b2)] 144:=by
  refine ⟨_,rfl,?_,?_,?_,?_,?_⟩
  ·exact (((Ex.new w _).alloc _).alloc _).alloc _
  ·rw [hg4];exact (((Blk.new w _ _).nx (Ex.new _ _)).nx (Ex.new _ _)).nx (Ex.new _ _)
  ·have:=((MapV.made (w.alloc (.cells #[.map none,.map none] 144))).nx (Ex.new _ (.map #[] 0))).nx (Ex.new _ (.cells #[.map (some b1),.map (some b2)] 144))
   rw [show (w.alloc (.cells #[.map none,.map none] 144)).heap.size=b1 by rw [hb1];simp] at this
   exact this
  ·have:=(MapV.made ((w.alloc (.cells #[.map none,.map none] 144)).alloc (.map #[] 0))).nx (Ex.new _ (.cells #[.map (some b1),.map (some b2)] 144))
   rw [show ((w.alloc (.cells #[.map none,.map none] 144)).alloc (.map #[] 0)).heap.size=b2 by rw [hb2];simp] at this
   exact this
  ·have:=Blk.new (((w.alloc (.cells #[.map none,.map none] 144)).alloc (.map #[] 0)).alloc (.map #[] 0)) [.map (some b1),.map (some b2)] 144
   rw [show (((w.alloc (.cells #[.map none,.map none] 144)).alloc (.map #[] 0)).alloc (.map #[] 0)).heap.size=g5 by rw [hg5];simp] at this
   exact this
 have hle1:w.heap.size≤b1:=by omega
 have hle2:w.heap.size≤b2:=by omega
 have hn12:b1≠b2:=by omega
 have hn41:g4≠b1:=by omega
 have hn42:g4≠b2:=by omega
 have hn51:g5≠b1:=by omega
 have hn52:g5≠b2:=by omega
 have hle4:w.heap.size≤g4:=by omega
 have SW:=lH ((h.slb hle1).nxb (k4.b b1))
 have SQ:=lH (hq1.nx k4)
 have HS4:=lH (show (∀ k,k<w.heap.size→k<w4.heap.size) from fun k hk=>Nat.lt_of_lt_of_le hk k4.size)
 have HW4:=lH hw4
 have HG4:=lH hg4
 have HB1:=lH hb1
 have HB2:=lH hb2
 have HG5:=lH hg5
 have K4:=lH k4
 have hq1n:=lH hq1
 clear h hq1 hq2 hq3 hw4 hg4 hb1 hb2 hg5 k4
 go_enter Tryz.func111,Tryz.ntmps111
 go_upto_region 2 with fail
 rw [← HG5.out,← HB2.out,← HB1.out,← HG4.out,← HW4.out]
 clear HG5 HB2 HB1 HG4 HW4 hmm
 go_wp2_with fail
 go_loopw [17] (fun i wr=>M1Rel N b1 w4 i wr) (fun i _=>n-(intOf i).toNat)
 case atStart=>exact ⟨0,by omega,rfl,M1,Exb.refl _ _⟩
 case round =>
  clear M1
  obtain ⟨k,hk,rfl,M1,kw⟩:=hrel
  obtain ⟨wo,rfl⟩:∃ wo:World,wo=wr:=⟨_,rfl⟩
  have B5w:=B5.nxb hn51 kw
  rw [HL.out] at hk
  by_cases hlt:k<n
  ·obtain ⟨x1,o1,y,rfl,hx1,hy,hc1⟩:=(SW.out.nxb kw).sl.at hlt
   have e0:wo.cell? ⟨x1,o1+k*3,none⟩=some (.int .i64 y.id):=hc1 0 _ rfl
   have e1:wo.cell? ⟨x1,o1+k*3+1,none⟩=some (.string y.key):=hc1 1 _ rfl
   have e2:wo.cell? ⟨x1,o1+k*3+1+1,none⟩=some (.int .u32 y.word):=by simpa [Nat.add_assoc] using hc1 2 _ rfl
   have FSn:=lH (fN_snoc ID.out hy)
   have B7:=Blk.new wo [.int .i64 y.id,.string y.key,.int .u32 y.word] 49
   have k7:=Ex.new wo (.cells #[.int .i64 y.id,.string y.key,.int .u32 y.word] 49)
   obtain ⟨w7,hw7⟩:∃ w7,w7=wo.alloc (.cells #[.int .i64 y.id,.string y.key,.int .u32 y.word] 49):=⟨_,rfl⟩
   obtain ⟨g7,hg7⟩:∃ g7,g7=wo.heap.size:=⟨_,rfl⟩
   have B7:Blk w7 g7 [.int .i64 y.id,.string y.key,.int .u32 y.word] 49:=by rw [hw7,hg7];exact B7
   rw [← hw7] at k7
   have HW7:=lH hw7
   have HG7:=lH hg7
   have M7:=M1.nx k7
   have kw7:=kw.nxb (k7.b b1)
   have c0:=(B5w.nx k7).cell 0 _ rfl
   have d0:=B7.cell 0 _ rfl
   have d1:=B7.cell 1 _ rfl
   have d2:=B7.cell 2 _ rfl
   obtain ⟨wm,hrun,MI2,km⟩:=MapV.put (P:=Tryz.prog) M7 (mt:=141) Tryz.underlying141 Tryz.underlying3 y.id (.agg #[.int .i64 y.id,.string y.key,.int .u32 y.word])
   have RR:=lH (show M1Rel N b1 w4 (.int .i64 ((k:Int)+1)) wm from ⟨k+1,by rw [HL.out];omega,by go_num,by rw [← FSn.out];exact MI2,kw7.nxb km⟩)
   clear hc1 hy hw7 hg7 k7 M1 kw B7 M7 MI2 km kw7 B5w
   go_upto_region 5 with fail
   rw [← HG7.out,← HW7.out]
   clear HG7 HW7 e0 e1 e2
   go_wp2_with fail
   exact ⟨RR.out,by simp [intOf];omega⟩
  ·obtain rfl:k=n:=by omega
   rw [List.take_of_length_le (by rw [HL.out];exact Nat.le_refl _)] at M1
   have M1L:=M1.lt
   have M2w:=M2.nxb (Ne.symm hn12) kw
   have KW:=lH (Exl.nxb (b:=b1) (w:=w) ⟨K4.out,hle1⟩ kw).1
   have B4w:=B4.nxb hn41 kw
   have SQ:=lH (show Slb 2 (encP encI) b2 wo a2 n2 qs from ((hq1n.out.slb hle2).nxb (KW.out.b b2)))
   clear hk hlt kw M2 B4 B5
   go_wp2_with fail
   go_loopw [29] (fun i wr=>M2Rel qs b2 wo i wr) (fun i _=>n2-(intOf i).toNat)
   case atStart=>exact ⟨0,by omega,rfl,M2w,Exb.refl _ _⟩
   case round =>
    clear M2w
    obtain ⟨j,hj,rfl,M2,kj⟩:=hrel
    obtain ⟨wi,rfl⟩:∃ wi:World,wi=wr:=⟨_,rfl⟩
    rw [HQL.out] at hj
    have B5i:=B5w.nxb hn52 kj
    by_cases hjl:j<n2
    ·obtain ⟨x1,o1,q,rfl,hx1,hq,hc1⟩:=(SQ.out.nxb kj).sl.at hjl
     obtain ⟨qi,qa,qn,qc⟩:=q
     have e0:wi.cell? ⟨x1,o1+j*2,none⟩=some (.int .i64 qi):=hc1 0 _ rfl
     have e1:wi.cell? ⟨x1,o1+j*2+1,none⟩=some (.slice qa qn qc):=hc1 1 _ rfl
     have FSn:=lH (fQ_snoc hq)
     have B9:=Blk.new wi [.int .i64 qi,.slice qa qn qc] 84
     have k9:=Ex.new wi (.cells #[.int .i64 qi,.slice qa qn qc] 84)
     obtain ⟨w9,hw9⟩:∃ w9,w9=wi.alloc (.cells #[.int .i64 qi,.slice qa qn qc] 84):=⟨_,rfl⟩
     obtain ⟨g9,hg9⟩:∃ g9,g9=wi.heap.size:=⟨_,rfl⟩
     have B9:Blk w9 g9 [.int .i64 qi,.slice qa qn qc] 84:=by rw [hw9,hg9];exact B9
     rw [← hw9] at k9
     have HW9:=lH hw9
     have HG9:=lH hg9
     have M9:=M2.nx k9
     have kj9:=kj.nxb (k9.b b2)
     have c1:=(B5i.nx k9).cell 1 _ rfl
     have d0:=B9.cell 0 _ rfl
     have d1:=B9.cell 1 _ rfl
     have lk:=M9.look (P:=Tryz.prog) (mt:=142) Tryz.underlying142 Tryz.underlying3 (Tryz.zeroLs w9) qi
     clear hc1 hq hw9 hg9 k9 M2 kj B9 B5i
     cases hsm:(fQ (qs.take j) qi).isSome with
     | true =>
      rw [hsm] at lk
      have RR:=lH (show M2Rel qs b2 wo (.int .i64 ((j:Int)+1)) w9 from ⟨j+1,by rw [HQL.out];omega,by go_num,by rw [FSn.out,if_pos hsm];exact M9,kj9⟩)
      generalize (fQ (qs.take j) qi).getD (Value.slice none 0 0)=vv at lk
      clear M9 kj9 hsm
      go_upto_region 10 with fail
      rw [← HG9.out,← HW9.out]
      clear HG9 HW9 e0 e1
      go_wp2_with fail
      exact ⟨RR.out,by simp [intOf];omega⟩
     | false =>
      rw [hsm] at lk
      obtain ⟨wm,hrun,MI2,km⟩:=MapV.put (P:=Tryz.prog) M9 (mt:=142) Tryz.underlying142 Tryz.underlying3 qi (.slice qa qn qc)
      have RR:=lH (show M2Rel qs b2 wo (.int .i64 ((j:Int)+1)) wm from ⟨j+1,by rw [HQL.out];omega,by go_num,by rw [FSn.out,if_neg (by rw [hsm];simp)];exact MI2,kj9.nxb km⟩)
      generalize (fQ (qs.take j) qi).getD (Value.slice none 0 0)=vv at lk
      clear M9 kj9 hsm MI2 km
      go_upto_region 10 with fail
      rw [← HG9.out,← HW9.out]
      clear HG9 HW9 e0 e1
      go_wp2_with fail
      exact ⟨RR.out,by simp [intOf];omega⟩
    ·obtain rfl:j=n2:=by omega
     rw [List.take_of_length_le (by rw [HQL.out];exact Nat.le_refl _)] at M2
     have M1i:=M1.nxb hn12 kj
     have c0:=B5i.cell 0 _ rfl
     have c1:=B5i.cell 1 _ rfl
     have B4i:=B4w.nxb hn42 kj
     have q0:=B4i.cell 0 _ rfl
     have q1:=B4i.cell 1 _ rfl
     have z0:=B4i.free 0
     have z1:=B4i.free 1
     have KI:Ex w wi:=(Exl.nxb (b:=b2) (w:=w) ⟨KW.out,hle2⟩ kj).1
     have KF:=(KI.setNew (p:=⟨g4,0,none⟩) (.map (some b1)) hle4).setNew (p:=⟨g4,1,none⟩) (.map (some b2)) hle4
     have kset:Exb g4 wi ((wi.setCell ⟨g4,0,none⟩ (.map (some b1))).setCell ⟨g4,1,none⟩ (.map (some b2))):=((Exb.refl g4 wi).setB (p:=⟨g4,0,none⟩) (.map (some b1)) rfl).setB (p:=⟨g4,1,none⟩) (.map (some b2)) rfl
     have FIN:=lH (show MdPost N L w (.returned (.agg #[.map (some b1),.map (some b2)])) ((wi.setCell ⟨g4,0,none⟩ (.map (some b1))).setCell ⟨g4,1,none⟩ (.map (some b2))) from
      ⟨b1,b2,rfl,⟨qs,(M1i.nxb (Ne.symm hn41) kset).lt,M1i.nxb (Ne.symm hn41) kset,(M2.nxb (Ne.symm hn42) kset).lt,M2.nxb (Ne.symm hn42) kset,by rw [HQL.out,HQ2.out],fun j q c hq hc=>⟨(HQ3.out j q c hq hc).1,(HQ3.out j q c hq hc).2.nx KF⟩⟩,KF⟩)
     clear hj hjl M2 M1i B5i B4i KI KF kset kj
     go_wp2_with fail
     refine bodyPost_ret (v:=.agg #[.map (some b1),.map (some b2)]) (by simp [results,Tryz.results111,go_sem, *]) rfl FIN.out
def HpPost (base go gx:Nat) (x y:Nd) (lev:Int) (out:List Hop) (w:World) (e:Ending) (w':World):Prop :=
 e=.returned (.tuple #[])∧∃ v:Value,Blk w' go [v] 88∧OwnL 3 encHp 147 base w' v (out++[(x.id,y.id,lev)])∧Blk w' gx [.int .i64 y.id,.string y.key,.int .u32 y.word] 49∧Chg (fun k=>k<base∧k≠go∧k≠gx) w w'
set_option maxRecDepth 100000 in
set_option maxHeartbeats 2000000 in
theorem hop_p (base go gx:Nat) (x y:Nd) (lev:Int) (v:Value) (out:List Hop) (w:World) (hgo:Blk w go [v] 88) (own:OwnL 3 encHp 147 base w v out) (hgx:Blk w gx [.int .i64 x.id,.string x.key,.int .u32 x.word] 49) (h1:go≠gx) (h2:go<base) (h3:gx<base) (hb:base≤w.heap.size) (ho:out.length≤1000) :
  Calls Tryz.prog 112 #[.agg #[.int .i64 y.id,.string y.key,.int .u32 y.word],.int .i64 lev,.pointer (some ⟨go,0,none⟩),.pointer (some ⟨gx,0,none⟩)] w (HpPost base go gx x y lev out w):=by
 have B4:=Blk.new w [.int .i64 y.id,.string y.key,.int .u32 y.word] 49
 have k1:=Ex.new w (.cells #[.int .i64 y.id,.string y.key,.int .u32 y.word] 49)
 obtain ⟨w1,hw1⟩:∃ w1,w1=w.alloc (.cells #[.int .i64 y.id,.string y.key,.int .u32 y.word] 49):=⟨_,rfl⟩
 obtain ⟨g4,hg4⟩:∃ g4,g4=w.heap.size:=⟨_,rfl⟩
 have B4:Blk w1 g4 [.int .i64 y.id,.string y.key,.int .u32 y.word] 49:=by rw [hw1,hg4];exact B4
 rw [← hw1] at k1
 have HW1:=lH hw1
 have HG4:=lH hg4
 have hno:¬ v.ownBlock=some g4:=fun he=>by
  obtain ⟨_,cur,h⟩:=OwnL.blk own he
  have:=heap_lt h
  omega
 have HNO:=lH hno
 have hg4b:base≤g4:=by omega
 have BO:=lH (hgo.nx k1)
 have BX:=lH (hgx.nx k1)
 have OWN:=lH (own.nx k1)
 have b0:=(hgo.nx k1).cell 0 _ rfl
 have x0:=(hgx.nx k1).cell 0 _ rfl
 have y0:=B4.cell 0 _ rfl
 have hz:base≤w1.heap.size:=Nat.le_trans hb k1.size
 have BB:=lH B4
 have hgl:=B4.lt
 have K1:=lH k1
 clear hgo own hgx hw1 hg4 hno k1 B4
 go_enter Tryz.func112,Tryz.ntmps112
 go_upto_region 1 with fail
 rw [← HG4.out,← HW1.out]
 clear HG4 HW1
 go_wp2_with (at_builtin;(refine wpList_append_lit (enc:=encHp) w1 rfl _ _ 88 rfl base 147 (.agg #[.int .i64 0,.int .i64 0,.int .i64 0]) 3 24 Tryz.underlying88 Tryz.infoHp rfl (by omega) (by omega) _ _ OWN.out rfl ((x.id,y.id,lev):Hop) _ rfl rfl (by simp [encHp,Value.oneCell']) _ (by simp) rfl (by omega) (by omega) _ ?_);intro v9 w9 own9 ch0 ch1 _;(obtain ⟨a9,n9,c9,rfl⟩:∃ a n c,v9=Value.slice a n c:=(by obtain ⟨a,c,h,_⟩:=OwnL.rd own9 (fun _=>rfl);exact ⟨a,_,c,h⟩));have BO9:=Blk.chg BO.out ch1 h2;have BX9:=Blk.chg BX.out ch1 h3;have BY9:=Blk.chg BB.out ch0 ⟨hgl,HNO.out⟩;have b0:=BO9.cell 0 _ rfl;have z3:=BO9.free 0;have x0:=BX9.cell 0 _ rfl;have x1:=BX9.cell 1 _ rfl;have x2:=BX9.cell 2 _ rfl;have z0:=BX9.free 0;have z1:=BX9.free 1;have z2:=BX9.free 2;have y0:=BY9.cell 0 _ rfl;have y1:=BY9.cell 1 _ rfl;have y2:=BY9.cell 2 _ rfl;have hne:=h1;have hgy:¬ g4=gx:=(by omega);have hgo:¬ g4=go:=(by omega);have OWN9:=lH own9;have CH1:=lH ch1;have HBO:=lH BO9;have HBX:=lH BX9;clear own9 ch0 ch1 BO9 BX9 BY9)
 go_end0
 obtain ⟨v9,hv9⟩:∃ v9,v9=Value.slice a9 n9 c9:=⟨_,rfl⟩
 rw [← hv9] at OWN9 ⊢
 have s0:Exb go w9 (w9.setCell ⟨go,0,none⟩ v9):=(Exb.refl go w9).setB (p:=⟨go,0,none⟩) v9 rfl
 have s1:Exb gx (w9.setCell ⟨go,0,none⟩ v9) ((((w9.setCell ⟨go,0,none⟩ v9).setCell ⟨gx,0,none⟩ (.int .i64 y.id)).setCell ⟨gx,1,none⟩ (.string y.key)).setCell ⟨gx,2,none⟩ (.int .u32 y.word)) :=
  (((Exb.refl gx _).setB (p:=⟨gx,0,none⟩) (.int .i64 y.id) rfl).setB (p:=⟨gx,1,none⟩) (.string y.key) rfl).setB (p:=⟨gx,2,none⟩) (.int .u32 y.word) rfl
 refine ⟨rfl,v9,(HBO.out.set 0 v9).nxb h1 s1,(OWN9.out.nxb h2 s0).nxb h3 s1,(((HBX.out.nxb (Ne.symm h1) s0).set 0 (.int .i64 y.id)).set 1 (.string y.key)).set 2 (.int .u32 y.word),?_⟩
 exact Chg.trans (Chg.trans (Chg.trans (Chg.mono K1.out (fun k hk=>by have:=hk.1;omega)) (Chg.mono CH1.out (fun k hk=>hk.1))) (Chg.mono s0 (fun k hk=>⟨by have:=hk.1;have:=CH1.out.size;omega,hk.2.1⟩))) (Chg.mono s1 (fun k hk=>⟨by have:=hk.1;have:=CH1.out.size;have:=s0.size;omega,hk.2.2⟩))
def lenAt (w:World) (g:Nat):Nat:=match w.cell? ⟨g,0,none⟩ with | some v=>lenS v | none=>0
def RoSt (N:List Nd) (L:List Lkd) (key:List UInt8) (right:Bool) (R:Nd×List Hop) (gx go base:Nat) (w0:World) (lev:Nat) (wr:World):Prop :=
 ∃ (x:Nd) (out:List Hop) (v:Value),Blk wr go [v] 88∧OwnL 3 encHp 147 base wr v out∧Blk wr gx [.int .i64 x.id,.string x.key,.int .u32 x.word] 49∧RtSt N L key right R x lev out∧x∈N∧out.length+bey N right x≤N.length∧Chg (· < gx) w0 wr
def RoRel (N:List Nd) (L:List Lkd) (key:List UInt8) (right:Bool) (R:Nd×List Hop) (gx go base:Nat) (w0:World) (l:Value) (wr:World):Prop :=
 ∃ lev:Nat,l=.int .i64 ((lev:Int)-1)∧lev≤17∧RoSt N L key right R gx go base w0 lev wr
def RiRel (N:List Nd) (L:List Lkd) (key:List UInt8) (right:Bool) (R:Nd×List Hop) (gx go base:Nat) (w0:World) (q:Nat) (wr:World):Prop :=
 RoSt N L key right R gx go base w0 (q+1) wr
theorem hop_none {N:List Nd} {L:List Lkd} {key:List UInt8} {right:Bool} {x:Nd} {q:Nat} {E:Nd×Bool} (hE:E=findN N (sideN (if right then 1 else 0) (atL L x.id q)))
  (h:E.2=false∨(if right then (!Op.bytesLess x.key.toList E.1.key.toList)||Op.bytesLess key E.1.key.toList else (!Op.bytesLess E.1.key.toList x.key.toList)||!Op.bytesLess key E.1.key.toList)=true):hopN N L key right x q=none:=by
 unfold hopN
 cases right with
 | true =>
  rw [if_pos rfl]
  have e:sideN (if true=true then 1 else 0) (atL L x.id q)=(atL L x.id q).2:=rfl
  rw [e] at hE
  rw [← hE]
  rw [if_neg]
  rcases h with h | h
  ·rw [h];simp
  ·intro hc
   simp only [Bool.and_eq_true,Bool.not_eq_true'] at hc
   rw [if_pos rfl,hc.2.1,hc.2.2] at h
   cases h
 | false =>
  rw [if_neg (by simp)]
  have e:sideN (if false=true then 1 else 0) (atL L x.id q)=(atL L x.id q).1:=rfl
  rw [e] at hE
  rw [← hE]
  rw [if_neg]
  rcases h with h | h
  ·rw [h];simp
  ·intro hc
   simp only [Bool.and_eq_true] at hc
   rw [if_neg (by simp),hc.2.1,hc.2.2] at h
   cases h
theorem hop_some {N:List Nd} {L:List Lkd} {key:List UInt8} {right:Bool} {x:Nd} {q:Nat} {E:Nd} (hE:(E,true)=findN N (sideN (if right then 1 else 0) (atL L x.id q)))
  (h:(if right then (!Op.bytesLess x.key.toList E.key.toList)||Op.bytesLess key E.key.toList else (!Op.bytesLess E.key.toList x.key.toList)||!Op.bytesLess key E.key.toList)=false):hopN N L key right x q=some E:=by
 unfold hopN
 cases right with
 | true =>
  rw [if_pos rfl]
  have e:sideN (if true=true then 1 else 0) (atL L x.id q)=(atL L x.id q).2:=rfl
  rw [e] at hE
  rw [← hE]
  rw [if_pos rfl] at h
  simp only [Bool.or_eq_false_iff,Bool.not_eq_false'] at h
  rw [if_pos (by simp [h.1,h.2])]
 | false =>
  rw [if_neg (by simp)]
  have e:sideN (if false=true then 1 else 0) (atL L x.id q)=(atL L x.id q).1:=rfl
  rw [e] at hE
  rw [← hE]
  rw [if_neg (by simp)] at h
  simp only [Bool.or_eq_false_iff,Bool.not_eq_false'] at h
  rw [if_pos (by simp [h.1,h.2])]
theorem link0_p (β b1 b2:Nat) (N:List Nd) (L:List Lkd) (id:Int) (w:World) (h:Net β w b1 b2 N L) (h0:checkN N=0) (hb:β≤w.heap.size) (hs:∀ c∈L,c.2.length≤9223372036854775807) :
  Calls Tryz.prog 113 #[.agg #[.map (some b1),.map (some b2)],.int .i64 id,.int .i64 0,.int .i64 0] w (LnPost (findN N (atL L id 0).1) w):=link_p β b1 b2 N L id 0 0 w h h0 hb hs (by omega)
theorem linkR_p (β b1 b2:Nat) (N:List Nd) (L:List Lkd) (id:Int) (lev:Nat) (w:World) (h:Net β w b1 b2 N L) (h0:checkN N=0) (hb:β≤w.heap.size) (hs:∀ c∈L,c.2.length≤9223372036854775807) (hl:lev≤1000) :
  Calls Tryz.prog 113 #[.agg #[.map (some b1),.map (some b2)],.int .i64 id,.int .i64 lev,.int .i64 1] w (LnPost (findN N (sideN 1 (atL L id lev))) w):=link_p β b1 b2 N L id lev 1 w h h0 hb hs hl
theorem linkL_p (β b1 b2:Nat) (N:List Nd) (L:List Lkd) (id:Int) (lev:Nat) (w:World) (h:Net β w b1 b2 N L) (h0:checkN N=0) (hb:β≤w.heap.size) (hs:∀ c∈L,c.2.length≤9223372036854775807) (hl:lev≤1000) :
  Calls Tryz.prog 113 #[.agg #[.map (some b1),.map (some b2)],.int .i64 id,.int .i64 lev,.int .i64 0] w (LnPost (findN N (sideN 0 (atL L id lev))) w):=link_p β b1 b2 N L id lev 0 w h h0 hb hs hl
theorem blk3 {w:World} {g:Nat} {x y z:Value} {ty:TypeId} (h:Blk w g [x,y,z] ty):w.cell? ⟨g,0,none⟩=some x∧w.cell? ⟨g,1,none⟩=some y∧w.cell? ⟨g,2,none⟩=some z:=⟨h.cell 0 _ rfl,h.cell 1 _ rfl,h.cell 2 _ rfl⟩
theorem Blk.nxg {w w':World} {g x:Nat} {cs:List Value} {ty:TypeId} (h:Blk w g cs ty) (k:Chg (· < x) w w') (hg:g<x):Blk w' g cs ty:=(Chg.block k g hg).trans h
theorem hop0_p (base go gx:Nat) (x y:Nd) (v:Value) (out:List Hop) (w:World) (hgo:Blk w go [v] 88) (own:OwnL 3 encHp 147 base w v out) (hgx:Blk w gx [.int .i64 x.id,.string x.key,.int .u32 x.word] 49) (h1:go≠gx) (h2:go<base) (h3:gx<base) (hb:base≤w.heap.size) (ho:out.length≤1000) :
  Calls Tryz.prog 112 #[.agg #[.int .i64 y.id,.string y.key,.int .u32 y.word],.int .i64 0,.pointer (some ⟨go,0,none⟩),.pointer (some ⟨gx,0,none⟩)] w (HpPost base go gx x y 0 out w):=hop_p base go gx x y 0 v out w hgo own hgx h1 h2 h3 hb ho
set_option maxRecDepth 100000 in
set_option maxHeartbeats 16000000 in
theorem route_p (a:Option Addr) (n c:Nat) (N:List Nd) (a2:Option Addr) (n2 c2:Nat) (L:List Lkd) (frm:Int) (s:ByteArray) (w:World) (h:Sl 3 encN w a n N) (hn:n≤1000) (hc:n≤c) (hm:c≤maxLen) (h2:LkL w a2 n2 L) (hn2:n2≤1000000)
  (hs:∀ c∈L,c.2.length≤9223372036854775807) :
  Calls Tryz.prog 51 #[.slice a n c,.slice a2 n2 c2,.int .i64 frm,.string s] w (RtPost (routeN N L frm s) w):=by
 have HS:=lH hs
 have HLN:=lH h.len
 clear hs
 go_enter Tryz.func51,Tryz.ntmps51
 have EX:=Ex.refl w
 go_wp2_with fail
 go_step3
 go_wp2_with fail
 (with_reducible refine (check_p _ _ _ _ _ h (by omega) hc hm).mono ?_)
 rintro e w1 ⟨rfl,kk⟩
 replace h:=h.nx kk
 replace h2:=lH (h2.nx kk)
 replace EX:=lH (EX.nx kk)
 clear kk
 by_cases hck:checkN N=0
 case neg =>
  have RN:=lH (route_bad (L:=L) (frm:=frm) (s:=s) (.inl hck))
  have d1:(checkN N != 0)=true:=by simpa using hck
  clear h hck
  go_wp2_with fail
  (try rw [Exit.noGoto_ret])
  go_ret2
  exact ⟨_,by rw [RN.out];rfl,by rw [RN.out];exact OwnL.nil _ _ _ _ _,EX.out⟩
 have HC:=lH hck
 have d1:(checkN N != 0)=false:=by simpa using hck
 clear hck
 go_wp2_with fail
 (with_reducible refine (vkey_p _ _).mono ?_)
 rintro e w1' ⟨rfl,rfl⟩
 by_cases hsz:(s.size:Int)≤64
 case neg =>
  have RN:=lH (route_bad (L:=L) (frm:=frm) (show checkN N≠0∨64<s.size from .inr (by omega)))
  rw [decide_eq_false hsz]
  clear h hsz
  go_wp2_with fail
  (try rw [Exit.noGoto_ret])
  go_ret2
  exact ⟨_,by rw [RN.out];rfl,by rw [RN.out];exact OwnL.nil _ _ _ _ _,EX.out⟩
 have NB:Hid (¬ (checkN N≠0∨64<s.size)):=lH (by rintro (h | h);exact h HC.out;omega)
 rw [decide_eq_true hsz]
 clear hsz d1
 have HCL:=lH (by have:=check_lenU HC.out;have:=HLN.out;omega:n≤64)
 go_wp2_with fail
 (with_reducible refine (made_p _ _ _ _ _ _ _ _ _ h (by omega) h2.out hn2 HC.out).mono ?_)
 rintro e w3 ⟨b1,b2,rfl,NT,kk⟩
 replace EX:=lH (EX.out.nx kk)
 have hzw3:=EX.out.size
 have hnb1:=NT
 have NT:=lH NT
 clear kk hnb1 h h2
 have B10:=Blk.new w3 [.map (some b1),.map (some b2)] 144
 have kk:=Ex.new w3 (.cells #[.map (some b1),.map (some b2)] 144)
 obtain ⟨w4,hw4⟩:∃ w4,w4=w3.alloc (.cells #[.map (some b1),.map (some b2)] 144):=⟨_,rfl⟩
 obtain ⟨g10,hg10⟩:∃ g10,g10=w3.heap.size:=⟨_,rfl⟩
 replace B10:Blk w4 g10 [.map (some b1),.map (some b2)] 144:=by rw [hw4,hg10];exact B10
 rw [← hw4] at kk
 have Hw4:=lH hw4
 have Hg10:=lH hg10
 replace EX:=lH (EX.out.nx kk)
 have NT:=lH (NT.out.nx (Nat.le_refl _) kk)
 have M1:MapV w4 b1 (fN N):=by obtain ⟨_,_,m,_⟩:=NT.out;exact m
 have hg10l:g10=w3.heap.size:=hg10
 have hz10:w.heap.size≤g10:=by omega
 have NT:=lH (NT.out.up (show w3.heap.size≤g10 by omega))
 clear kk hw4 hg10 hg10l
 go_upto_region 4 with fail
 rw [← Hg10.out,← Hw4.out]
 clear Hg10 Hw4
 have c0:=B10.cell 0 _ rfl
 have lk:=M1.look (mt:=141) Tryz.underlying141 Tryz.underlying3 (Tryz.zeroNd w4) frm
 have ff:=find_fN N frm
 have e1:(fN N frm).getD (.agg #[.int .i64 0,.string ⟨#[]⟩,.int .u32 0])=(findN N frm).1.val:=ff.1
 rw [e1,ff.2] at lk
 obtain ⟨FR,hFR⟩:∃ FR,FR=findN N frm:=⟨_,rfl⟩
 rw [← hFR] at lk
 have HFR:=lH hFR
 obtain ⟨x0,ok⟩:=FR
 unfold Nd.val at lk
 simp only at lk
 have NTL:=lH B10.lt
 clear hFR ff e1 M1
 have BX:=Blk.new w4 [.int .i64 x0.id,.string x0.key,.int .u32 x0.word] 49
 have kk:=Ex.new w4 (.cells #[.int .i64 x0.id,.string x0.key,.int .u32 x0.word] 49)
 obtain ⟨w5,hw5⟩:∃ w5,w5=w4.alloc (.cells #[.int .i64 x0.id,.string x0.key,.int .u32 x0.word] 49):=⟨_,rfl⟩
 obtain ⟨gx,hgx⟩:∃ gx,gx=w4.heap.size:=⟨_,rfl⟩
 replace BX:Blk w5 gx [.int .i64 x0.id,.string x0.key,.int .u32 x0.word] 49:=by rw [hw5,hgx];exact BX
 rw [← hw5] at kk
 have Hw5:=lH hw5
 have Hgx:=lH hgx
 replace B10:=B10.nx kk
 replace EX:=lH (EX.out.nx kk)
 have NT:=lH (NT.out.nx (Nat.le_of_lt NTL.out) kk)
 have hg10x:g10<gx:=by have:=NTL.out;omega
 have hwgx:w.heap.size≤gx:=by omega
 clear kk hw5 hgx
 go_upto_region 5 with fail
 rw [← Hgx.out,← Hw5.out]
 clear Hgx Hw5 lk c0
 have B10:=lH B10
 cases ok with
 | false =>
  have RN:=lH (route_unk (L:=L) NB.out (show (findN N frm).2=false by rw [← HFR.out]))
  clear BX
  go_wp2_with fail
  (try rw [Exit.noGoto_ret])
  go_ret2
  exact ⟨_,by rw [RN.out];rfl,by rw [RN.out];exact OwnL.nil _ _ _ _ _,EX.out⟩
 | true =>
  have HX0:=lH (show x0∈N by have:=(findN_mem (show (findN N frm).2=true by rw [← HFR.out])).1;rw [← HFR.out] at this;exact this)
  have hgx5:=BX.lt
  have BO:=Blk.new w5 [.slice none 0 0] 88
  have kk:=Ex.new w5 (.cells #[.slice none 0 0] 88)
  obtain ⟨w6,hw6⟩:∃ w6,w6=w5.alloc (.cells #[.slice none 0 0] 88):=⟨_,rfl⟩
  obtain ⟨go,hgo⟩:∃ go,go=w5.heap.size:=⟨_,rfl⟩
  replace BO:Blk w6 go [.slice none 0 0] 88:=by rw [hw6,hgo];exact BO
  rw [← hw6] at kk
  have Hw6:=lH hw6
  have Hgo:=lH hgo
  replace BX:=BX.nx kk
  replace EX:=lH (EX.out.nx kk)
  have NT:=lH (NT.out.nx (by omega) kk)
  have B10:=lH (B10.out.nx kk)
  have hgg:gx<go:=by omega
  have hgx6:=BX.lt
  clear kk hw6 hgo
  go_upto_region 8 with fail
  rw [← Hgo.out,← Hw6.out]
  clear Hgo Hw6
  obtain ⟨x0',x1',x2'⟩:=blk3 BX
  have BX:=lH BX
  have HCX:=lH (And.intro hgg hgx6)
  obtain ⟨qs,_,_,_,m2,q5,q6⟩:=NT.out
  obtain ⟨aR,nR,cR,row,r1,r2,r3,_,r5⟩:=Net.row (b1:=b1) (b2:=b2) (N:=N) q5 q6 frm
  have lk:=m2.look1 (mt:=142) Tryz.underlying142 Tryz.underlying3 (Tryz.zeroLs w6) frm
  rw [r1] at lk
  have hnR:nR≤9223372036854775807:=by
   rw [← r2.1]
   rcases r5 with h | ⟨d,hd,h⟩
   ·rw [h];simp
   ·rw [h];exact HS.out d hd
  have c1:=B10.out.cell 1 _ rfl
  obtain ⟨T,hT⟩:∃ T,T=topL L frm:=⟨_,rfl⟩
  have ht1:-1≤T∧T≤16:=by rw [hT,r3];omega
  have hTm:Hid (T=min ((nR:Int)-1) 16):=lH (hT.trans r3)
  have HT:=lH hT
  clear q5 q6 r1 r2 r3 r5 m2 hT x0' x2'
  cases hlt:Op.bytesLess s.toList x0.key.toList with
  | true =>
   have HR:Hid (false = !Op.bytesLess s.toList x0.key.toList):=lH (by rw [hlt];rfl)
   go_wp2_with fail
   go_step3
   go_wp2_with fail
   rw [← hTm.out]
   clear hlt lk c1 x1' hnR
   obtain ⟨R,hR⟩:∃ R,R=rtF N L s.toList false (18*(N.length+1)) x0 (T+1).toNat []:=⟨_,rfl⟩
   have HRR:=lH hR
   have ST:Hid (RoRel N L s.toList false R gx go (go+1) w6 (.int .i64 T) w6):=lH
    ⟨(T+1).toNat,by congr 1;omega,by omega,x0,[],.slice none 0 0,BO,OwnL.nil _ _ _ _ _,BX.out,by rw [hR];exact RtSt.start (by omega),HX0.out,by simpa using bey_le (N:=N) (right:=false) x0,Chg.refl _ _⟩
   clear hR BO BX
   go_loopw [16] (fun l wr=>RoRel N L s.toList false R gx go (go+1) w6 l wr) (fun l _=>(intOf l+1).toNat)
   case atStart=>exact ST.out
   case round =>
    clear ST
    obtain ⟨lev,rfl,hl17,HRS⟩:=hrel
    obtain ⟨wo,rfl⟩:∃ wo:World,wo=wr:=⟨_,rfl⟩
    cases lev with
    | zero =>
     obtain ⟨x,out,v,BO,OWN,BX,HST,HXN,HCNT,KW⟩:=HRS
     have RV:=lH (route_val NB.out HFR.out HR.out HT.out HRR.out (HST.done))
     have hol:out.length≤64:=by have h1:=HCL.out;have h2:=HLN.out;omega
     have NTo:=NT.out.chg (Chg.mono KW (fun k (hk:k<g10)=>Nat.lt_trans hk hg10x))
     have B10o:=Blk.nxg B10.out KW hg10x
     have c0:=B10o.cell 0 _ rfl
     have c1:=B10o.cell 1 _ rfl
     obtain ⟨x0',x1',x2'⟩:=blk3 BX
     have EW:Ex w wo:=Chg.trans EX.out (Chg.mono KW (fun k (hk:k<w.heap.size)=>Nat.lt_of_lt_of_le hk hwgx))
     have hwz:gx≤wo.heap.size:=Nat.le_trans (Nat.le_of_lt hgx6) KW.size
     have hgoz:=BO.lt
     have hgxz:=BX.lt
     have HB:=lH (And.intro BX BO)
     have OWN:=lH OWN
     have EW:=lH EW
     have KW:=lH KW
     have NTo:=lH NTo
     clear HST HXN HCNT BX BO B10o
     go_wp2_with fail
     (with_reducible refine (link0_p _ _ _ _ _ _ _ NTo.out HC.out (by omega) HS.out).mono ?_)
     rintro e w7 ⟨rfl,kk⟩
     replace OWN:=lH (OWN.out.nx kk)
     replace EW:=lH (EW.out.nx kk)
     obtain ⟨E,hE⟩:∃ E,E=findN N (atL L x.id 0).1:=⟨_,rfl⟩
     rw [← hE]
     rw [← hE] at RV
     have HB:=lH (And.intro (HB.out.1.nx kk) (HB.out.2.nx kk))
     have KW:=lH (Chg.trans KW.out (Chg.mono kk (fun k (hk:k<gx)=>show k<wo.heap.size by omega)))
     have hz7:=Ex.size kk
     obtain ⟨E,eo⟩:=E
     simp only at RV ⊢
     clear kk hE c0 c1 x0' x1' x2'
     have B19:=Blk.new w7 [.int .i64 E.id,.string E.key,.int .u32 E.word] 49
     have kk:=Ex.new w7 (.cells #[.int .i64 E.id,.string E.key,.int .u32 E.word] 49)
     obtain ⟨w8,hw8⟩:∃ w8,w8=w7.alloc (.cells #[.int .i64 E.id,.string E.key,.int .u32 E.word] 49):=⟨_,rfl⟩
     obtain ⟨g19,hg19⟩:∃ g19,g19=w7.heap.size:=⟨_,rfl⟩
     replace B19:Blk w8 g19 [.int .i64 E.id,.string E.key,.int .u32 E.word] 49:=by rw [hw8,hg19];exact B19
     rw [← hw8] at kk
     have Hw8:=lH hw8
     have Hg19:=lH hg19
     replace OWN:=lH (OWN.out.nx kk)
     replace EW:=lH (EW.out.nx kk)
     have HB:=lH (And.intro (HB.out.1.nx kk) (HB.out.2.nx kk))
     have hz8:=Ex.size kk
     have hl8:=B19.lt
     have hgge:go<g19:=by omega
     clear kk hw8 hg19
     go_upto_region 21 with fail
     rw [← Hg19.out,← Hw8.out]
     clear Hg19 Hw8
     have y1:=B19.cell 1 _ rfl
     obtain ⟨y0,_,y2⟩:=blk3 B19
     have o0:=HB.out.2.cell 0 _ rfl
     have LE:(Op.bytesLess E.key.toList s.toList||E.key.toList==s.toList) = !Op.bytesLess s.toList E.key.toList:=le_not _ _
     have FIN0:Hid (routeN N L frm s=(out,0)→RtPost (routeN N L frm s) w (.returned (.tuple #[v,.int .i64 0])) w8):=lH (fun h=>by rw [h];exact ⟨_,rfl,OwnL.base OWN.out (by omega),EW.out⟩)
     have BE:=lH B19
     clear B19
     cases eo with
     | false =>
      have RZ:=lH (RV.out.trans (if_neg (by simp)))
      clear RV
      go_wp2_with fail
      (try rw [Exit.noGoto_ret])
      go_ret2
      exact FIN0.out RZ.out
     | true =>
      cases hle:Op.bytesLess s.toList E.key.toList with
      | true =>
       have RZ:=lH (RV.out.trans (if_neg (by rw [hle];simp)))
       clear RV
       go_wp2_with fail
       (try rw [Exit.noGoto_ret])
       go_ret2
       exact FIN0.out RZ.out
      | false =>
       have RZ:=lH (RV.out.trans (if_pos (by rw [hle];simp)))
       clear RV FIN0
       go_wp2_with fail
       (with_reducible refine (hop0_p (go+1) go gx x E v out _ HB.out.2 OWN.out HB.out.1 (by omega) (by omega) (by omega) (by omega) (by omega)).mono ?_)
       rintro e w9 ⟨rfl,v9,bo9,own9,_,ch9⟩
       have o9:=bo9.cell 0 _ rfl
       have FIN:=lH (show RtPost (routeN N L frm s) w (.returned (.tuple #[v9,.int .i64 0])) w9 by rw [RZ.out];exact ⟨_,rfl,OwnL.base own9 (by omega),Chg.trans EW.out (Chg.mono ch9 (fun k (hk:k<w.heap.size)=>⟨by omega,by omega,by omega⟩))⟩)
       clear bo9 own9 ch9 o0 y0 y1 y2
       go_wp2_with fail
       (try rw [Exit.noGoto_ret])
       go_ret2
       exact FIN.out
    | succ q =>
     have HRS:=lH HRS
     obtain ⟨lq,hlq⟩:∃ lq:Int,lq=((q+1:Nat):Int)-1:=⟨_,rfl⟩
     rw [← hlq]
     obtain rfl:lq=(q:Int):=by omega
     clear hlq
     go_wp2_with fail
     go_loopw [] (fun wr=>RiRel N L s.toList false R gx go (go+1) w6 q wr) (fun wr=>n-lenAt wr go)
     case atStart=>exact HRS.out
     case round =>
      clear HRS
      obtain ⟨x,out,v,BO,OWN,BX,HST,HXN,HCNT,KW⟩:=hrel
      obtain ⟨wi,rfl⟩:∃ wi:World,wi=wr:=⟨_,rfl⟩
      have hol:out.length≤64:=by have h1:=HCL.out;have h2:=HLN.out;omega
      have NTo:=NT.out.chg (Chg.mono KW (fun k (hk:k<g10)=>Nat.lt_trans hk hg10x))
      have B10o:=Blk.nxg B10.out KW hg10x
      have c0:=B10o.cell 0 _ rfl
      have c1:=B10o.cell 1 _ rfl
      obtain ⟨x0',x1',x2'⟩:=blk3 BX
      have hwz:gx≤wi.heap.size:=Nat.le_trans (Nat.le_of_lt hgx6) KW.size
      have hgoz:=BO.lt
      have hgxz:=BX.lt
      have HLA:Hid (lenAt wi go=out.length):=lH (by unfold lenAt;rw [BO.cell 0 _ rfl];exact lenS_own OWN)
      replace HST:=lH HST
      replace HXN:=lH HXN
      replace HCNT:=lH HCNT
      replace KW:=lH KW
      replace OWN:=lH OWN
      have HB:=lH (And.intro BX BO)
      replace NTo:=lH NTo
      clear BX BO B10o
      go_wp2_with fail
      (with_reducible refine (linkL_p _ _ _ _ _ _ _ _ NTo.out HC.out (by omega) HS.out (by omega)).mono ?_)
      rintro e w7 ⟨rfl,kk⟩
      replace OWN:=lH (OWN.out.nx kk)
      obtain ⟨E,hE⟩:∃ E,E=findN N (sideN 0 (atL L x.id q)):=⟨_,rfl⟩
      rw [← hE]
      have HE:=lH hE
      have HB:=lH (And.intro (HB.out.1.nx kk) (HB.out.2.nx kk))
      have KW:=lH (Chg.trans KW.out (Chg.mono kk (fun k (hk:k<gx)=>show k<wi.heap.size by omega)))
      have hz7:=Ex.size kk
      obtain ⟨E,eo⟩:=E
      simp only
      clear kk hE c0 c1 x0' x1' x2'
      have B17:=Blk.new w7 [.int .i64 E.id,.string E.key,.int .u32 E.word] 49
      have kk:=Ex.new w7 (.cells #[.int .i64 E.id,.string E.key,.int .u32 E.word] 49)
      obtain ⟨w9,hw9⟩:∃ w9,w9=w7.alloc (.cells #[.int .i64 E.id,.string E.key,.int .u32 E.word] 49):=⟨_,rfl⟩
      obtain ⟨g17,hg17⟩:∃ g17,g17=w7.heap.size:=⟨_,rfl⟩
      replace B17:Blk w9 g17 [.int .i64 E.id,.string E.key,.int .u32 E.word] 49:=by rw [hw9,hg17];exact B17
      rw [← hw9] at kk
      have Hw9:=lH hw9
      have Hg17:=lH hg17
      replace OWN:=lH (OWN.out.nx kk)
      have HB:=lH (And.intro (HB.out.1.nx kk) (HB.out.2.nx kk))
      have KW:=lH (Chg.trans KW.out (Chg.mono kk (fun k (hk:k<gx)=>show k<w7.heap.size by omega)))
      have hz8:=Ex.size kk
      have hl8:=B17.lt
      have hgge:go<g17:=by omega
      clear kk hw9 hg17
      go_upto_region 16 with fail
      rw [← Hg17.out,← Hw9.out]
      clear Hg17 Hw9
      obtain ⟨y0,y1,y2⟩:=blk3 B17
      obtain ⟨x0',x1',x2'⟩:=blk3 HB.out.1
      have BE:=lH B17
      have LE:(Op.bytesLess x.key.toList E.key.toList||x.key.toList==E.key.toList) = !Op.bytesLess E.key.toList x.key.toList:=le_not _ _
      have LE2:(Op.bytesLess E.key.toList s.toList||E.key.toList==s.toList) = !Op.bytesLess s.toList E.key.toList:=le_not _ _
      clear B17
      cases eo with
      | false =>
       have HNO:=lH (hop_none (right:=false) (key:=s.toList) HE.out (.inl rfl))
       have RR:=lH (show RoRel N L s.toList false R gx go (go+1) w6 (.int .i64 ((q:Int)-1)) w9 from ⟨q,rfl,by omega,x,out,v,HB.out.2,OWN.out,HB.out.1,HST.out.down HNO.out,HXN.out,HCNT.out,KW.out⟩)
       clear x0' x1' x2' y0 y1 y2
       go_wp2_with fail
       exact ⟨RR.out,by simp [intOf]<;>omega⟩
      | true =>
       cases hA:Op.bytesLess E.key.toList x.key.toList with
       | false =>
        have HNO:=lH (hop_none (right:=false) (key:=s.toList) HE.out (.inr (by rw [if_neg (by simp),hA];rfl)))
        have RR:=lH (show RoRel N L s.toList false R gx go (go+1) w6 (.int .i64 ((q:Int)-1)) w9 from ⟨q,rfl,by omega,x,out,v,HB.out.2,OWN.out,HB.out.1,HST.out.down HNO.out,HXN.out,HCNT.out,KW.out⟩)
        clear x0' x2' y0 y2
        go_wp2_with fail
        exact ⟨RR.out,by simp [intOf]<;>omega⟩
       | true =>
        cases hK:Op.bytesLess s.toList E.key.toList with
        | false =>
         have HNO:=lH (hop_none (right:=false) (key:=s.toList) HE.out (.inr (by rw [if_neg (by simp),hA,hK];rfl)))
         have RR:=lH (show RoRel N L s.toList false R gx go (go+1) w6 (.int .i64 ((q:Int)-1)) w9 from ⟨q,rfl,by omega,x,out,v,HB.out.2,OWN.out,HB.out.1,HST.out.down HNO.out,HXN.out,HCNT.out,KW.out⟩)
         clear x0' x2' y0 y2
         go_wp2_with fail
         exact ⟨RR.out,by simp [intOf]<;>omega⟩
        | true =>
         have HH:=lH (hop_some (right:=false) (key:=s.toList) HE.out (by rw [if_neg (by simp),hA,hK];rfl))
         have hbl:=bey_lt HH.out
         clear x0' x2'
         go_wp2_with fail
         (with_reducible refine (hop_p (go+1) go gx x E (q:Int) v out _ HB.out.2 OWN.out HB.out.1 (by omega) (by omega) (by omega) (by omega) (by omega)).mono ?_)
         rintro e w10 ⟨rfl,v9,bo9,own9,bx9,ch9⟩
         have HLB:Hid (lenAt w10 go=out.length+1):=lH (by unfold lenAt;rw [bo9.cell 0 _ rfl];simp only;rw [lenS_own own9,List.length_append,List.length_singleton])
         have hcn:=HCNT.out
         have RR:=lH (show RiRel N L s.toList false R gx go (go+1) w6 q w10 from ⟨E,out++[(x.id,E.id,(q:Int))],v9,bo9,own9,bx9,HST.out.hop HH.out,(hop_mem HH.out).1,by rw [List.length_append,List.length_singleton];omega,Chg.trans KW.out (Chg.mono ch9 (fun k (hk:k<gx)=>⟨by omega,by omega,by omega⟩))⟩)
         clear bo9 own9 bx9 ch9 y0 y1 y2 x1' hA hK LE LE2
         go_wp2_with fail
         refine ⟨RR.out,?_⟩
         have h1:=HLA.out
         have h2:=HLB.out
         have h3:=HLN.out
         have h4:=HCNT.out
         show n-lenAt w10 go<n-lenAt wi go
         omega
  | false =>
   have HR:Hid (true = !Op.bytesLess s.toList x0.key.toList):=lH (by rw [hlt];rfl)
   go_wp2_with fail
   go_step3
   go_wp2_with fail
   rw [← hTm.out]
   clear hlt lk c1 x1' hnR
   obtain ⟨R,hR⟩:∃ R,R=rtF N L s.toList true (18*(N.length+1)) x0 (T+1).toNat []:=⟨_,rfl⟩
   have HRR:=lH hR
   have ST:Hid (RoRel N L s.toList true R gx go (go+1) w6 (.int .i64 T) w6):=lH
    ⟨(T+1).toNat,by congr 1;omega,by omega,x0,[],.slice none 0 0,BO,OwnL.nil _ _ _ _ _,BX.out,by rw [hR];exact RtSt.start (by omega),HX0.out,by simpa using bey_le (N:=N) (right:=true) x0,Chg.refl _ _⟩
   clear hR BO BX
   go_loopw [16] (fun l wr=>RoRel N L s.toList true R gx go (go+1) w6 l wr) (fun l _=>(intOf l+1).toNat)
   case atStart=>exact ST.out
   case round =>
    clear ST
    obtain ⟨lev,rfl,hl17,HRS⟩:=hrel
    obtain ⟨wo,rfl⟩:∃ wo:World,wo=wr:=⟨_,rfl⟩
    cases lev with
    | zero =>
     obtain ⟨x,out,v,BO,OWN,BX,HST,HXN,HCNT,KW⟩:=HRS
     have RV:=lH (route_val NB.out HFR.out HR.out HT.out HRR.out (HST.done))
     have hol:out.length≤64:=by have h1:=HCL.out;have h2:=HLN.out;omega
     have NTo:=NT.out.chg (Chg.mono KW (fun k (hk:k<g10)=>Nat.lt_trans hk hg10x))
     have B10o:=Blk.nxg B10.out KW hg10x
     have c0:=B10o.cell 0 _ rfl
     have c1:=B10o.cell 1 _ rfl
     obtain ⟨x0',x1',x2'⟩:=blk3 BX
     have EW:Ex w wo:=Chg.trans EX.out (Chg.mono KW (fun k (hk:k<w.heap.size)=>Nat.lt_of_lt_of_le hk hwgx))
     have hwz:gx≤wo.heap.size:=Nat.le_trans (Nat.le_of_lt hgx6) KW.size
     have hgoz:=BO.lt
     have hgxz:=BX.lt
     have HB:=lH (And.intro BX BO)
     have OWN:=lH OWN
     have EW:=lH EW
     have KW:=lH KW
     have NTo:=lH NTo
     clear HST HXN HCNT BX BO B10o
     go_wp2_with fail
     (with_reducible refine (link0_p _ _ _ _ _ _ _ NTo.out HC.out (by omega) HS.out).mono ?_)
     rintro e w7 ⟨rfl,kk⟩
     replace OWN:=lH (OWN.out.nx kk)
     replace EW:=lH (EW.out.nx kk)
     obtain ⟨E,hE⟩:∃ E,E=findN N (atL L x.id 0).1:=⟨_,rfl⟩
     rw [← hE]
     rw [← hE] at RV
     have HB:=lH (And.intro (HB.out.1.nx kk) (HB.out.2.nx kk))
     have KW:=lH (Chg.trans KW.out (Chg.mono kk (fun k (hk:k<gx)=>show k<wo.heap.size by omega)))
     have hz7:=Ex.size kk
     obtain ⟨E,eo⟩:=E
     simp only at RV ⊢
     clear kk hE c0 c1 x0' x1' x2'
     have B19:=Blk.new w7 [.int .i64 E.id,.string E.key,.int .u32 E.word] 49
     have kk:=Ex.new w7 (.cells #[.int .i64 E.id,.string E.key,.int .u32 E.word] 49)
     obtain ⟨w8,hw8⟩:∃ w8,w8=w7.alloc (.cells #[.int .i64 E.id,.string E.key,.int .u32 E.word] 49):=⟨_,rfl⟩
     obtain ⟨g19,hg19⟩:∃ g19,g19=w7.heap.size:=⟨_,rfl⟩
     replace B19:Blk w8 g19 [.int .i64 E.id,.string E.key,.int .u32 E.word] 49:=by rw [hw8,hg19];exact B19
     rw [← hw8] at kk
     have Hw8:=lH hw8
     have Hg19:=lH hg19
     replace OWN:=lH (OWN.out.nx kk)
     replace EW:=lH (EW.out.nx kk)
     have HB:=lH (And.intro (HB.out.1.nx kk) (HB.out.2.nx kk))
     have hz8:=Ex.size kk
     have hl8:=B19.lt
     have hgge:go<g19:=by omega
     clear kk hw8 hg19
     go_upto_region 21 with fail
     rw [← Hg19.out,← Hw8.out]
     clear Hg19 Hw8
     have y1:=B19.cell 1 _ rfl
     obtain ⟨y0,_,y2⟩:=blk3 B19
     have o0:=HB.out.2.cell 0 _ rfl
     have LE:(Op.bytesLess E.key.toList s.toList||E.key.toList==s.toList) = !Op.bytesLess s.toList E.key.toList:=le_not _ _
     have FIN0:Hid (routeN N L frm s=(out,0)→RtPost (routeN N L frm s) w (.returned (.tuple #[v,.int .i64 0])) w8):=lH (fun h=>by rw [h];exact ⟨_,rfl,OwnL.base OWN.out (by omega),EW.out⟩)
     have BE:=lH B19
     clear B19
     cases eo with
     | false =>
      have RZ:=lH (RV.out.trans (if_neg (by simp)))
      clear RV
      go_wp2_with fail
      (try rw [Exit.noGoto_ret])
      go_ret2
      exact FIN0.out RZ.out
     | true =>
      have RZ:=lH (RV.out.trans (if_neg (by simp)))
      clear RV
      go_wp2_with fail
      (try rw [Exit.noGoto_ret])
      go_ret2
      exact FIN0.out RZ.out
    | succ q =>
     have HRS:=lH HRS
     obtain ⟨lq,hlq⟩:∃ lq:Int,lq=((q+1:Nat):Int)-1:=⟨_,rfl⟩
     rw [← hlq]
     obtain rfl:lq=(q:Int):=by omega
     clear hlq
     go_wp2_with fail
     go_loopw [] (fun wr=>RiRel N L s.toList true R gx go (go+1) w6 q wr) (fun wr=>n-lenAt wr go)
     case atStart=>exact HRS.out
     case round =>
      clear HRS
      obtain ⟨x,out,v,BO,OWN,BX,HST,HXN,HCNT,KW⟩:=hrel
      obtain ⟨wi,rfl⟩:∃ wi:World,wi=wr:=⟨_,rfl⟩
      have hol:out.length≤64:=by have h1:=HCL.out;have h2:=HLN.out;omega
      have NTo:=NT.out.chg (Chg.mono KW (fun k (hk:k<g10)=>Nat.lt_trans hk hg10x))
      have B10o:=Blk.nxg B10.out KW hg10x
      have c0:=B10o.cell 0 _ rfl
      have c1:=B10o.cell 1 _ rfl
      obtain ⟨x0',x1',x2'⟩:=blk3 BX
      have hwz:gx≤wi.heap.size:=Nat.le_trans (Nat.le_of_lt hgx6) KW.size
      have hgoz:=BO.lt
      have hgxz:=BX.lt
      have HLA:Hid (lenAt wi go=out.length):=lH (by unfold lenAt;rw [BO.cell 0 _ rfl];exact lenS_own OWN)
      replace HST:=lH HST
      replace HXN:=lH HXN
      replace HCNT:=lH HCNT
      replace KW:=lH KW
      replace OWN:=lH OWN
      have HB:=lH (And.intro BX BO)
      replace NTo:=lH NTo
      clear BX BO B10o
      go_wp2_with fail
      (with_reducible refine (linkR_p _ _ _ _ _ _ _ _ NTo.out HC.out (by omega) HS.out (by omega)).mono ?_)
      rintro e w7 ⟨rfl,kk⟩
      replace OWN:=lH (OWN.out.nx kk)
      obtain ⟨E,hE⟩:∃ E,E=findN N (sideN 1 (atL L x.id q)):=⟨_,rfl⟩
      rw [← hE]
      have HE:=lH hE
      have HB:=lH (And.intro (HB.out.1.nx kk) (HB.out.2.nx kk))
      have KW:=lH (Chg.trans KW.out (Chg.mono kk (fun k (hk:k<gx)=>show k<wi.heap.size by omega)))
      have hz7:=Ex.size kk
      obtain ⟨E,eo⟩:=E
      simp only
      clear kk hE c0 c1 x0' x1' x2'
      have B17:=Blk.new w7 [.int .i64 E.id,.string E.key,.int .u32 E.word] 49
      have kk:=Ex.new w7 (.cells #[.int .i64 E.id,.string E.key,.int .u32 E.word] 49)
      obtain ⟨w9,hw9⟩:∃ w9,w9=w7.alloc (.cells #[.int .i64 E.id,.string E.key,.int .u32 E.word] 49):=⟨_,rfl⟩
      obtain ⟨g17,hg17⟩:∃ g17,g17=w7.heap.size:=⟨_,rfl⟩
      replace B17:Blk w9 g17 [.int .i64 E.id,.string E.key,.int .u32 E.word] 49:=by rw [hw9,hg17];exact B17
      rw [← hw9] at kk
      have Hw9:=lH hw9
      have Hg17:=lH hg17
      replace OWN:=lH (OWN.out.nx kk)
      have HB:=lH (And.intro (HB.out.1.nx kk) (HB.out.2.nx kk))
      have KW:=lH (Chg.trans KW.out (Chg.mono kk (fun k (hk:k<gx)=>show k<w7.heap.size by omega)))
      have hz8:=Ex.size kk
      have hl8:=B17.lt
      have hgge:go<g17:=by omega
      clear kk hw9 hg17
      go_upto_region 16 with fail
      rw [← Hg17.out,← Hw9.out]
      clear Hg17 Hw9
      obtain ⟨y0,y1,y2⟩:=blk3 B17
      obtain ⟨x0',x1',x2'⟩:=blk3 HB.out.1
      have BE:=lH B17
      have LE:(Op.bytesLess E.key.toList x.key.toList||E.key.toList==x.key.toList) = !Op.bytesLess x.key.toList E.key.toList:=le_not _ _
      have LE2:(Op.bytesLess E.key.toList s.toList||E.key.toList==s.toList) = !Op.bytesLess s.toList E.key.toList:=le_not _ _
      clear B17
      cases eo with
      | false =>
       have HNO:=lH (hop_none (right:=true) (key:=s.toList) HE.out (.inl rfl))
       have RR:=lH (show RoRel N L s.toList true R gx go (go+1) w6 (.int .i64 ((q:Int)-1)) w9 from ⟨q,rfl,by omega,x,out,v,HB.out.2,OWN.out,HB.out.1,HST.out.down HNO.out,HXN.out,HCNT.out,KW.out⟩)
       clear x0' x1' x2' y0 y1 y2
       go_wp2_with fail
       exact ⟨RR.out,by simp [intOf]<;>omega⟩
      | true =>
       cases hA:Op.bytesLess x.key.toList E.key.toList with
       | false =>
        have HNO:=lH (hop_none (right:=true) (key:=s.toList) HE.out (.inr (by rw [if_pos rfl,hA];rfl)))
        have RR:=lH (show RoRel N L s.toList true R gx go (go+1) w6 (.int .i64 ((q:Int)-1)) w9 from ⟨q,rfl,by omega,x,out,v,HB.out.2,OWN.out,HB.out.1,HST.out.down HNO.out,HXN.out,HCNT.out,KW.out⟩)
        clear x0' x2' y0 y2
        go_wp2_with fail
        exact ⟨RR.out,by simp [intOf]<;>omega⟩
       | true =>
        cases hK:Op.bytesLess s.toList E.key.toList with
        | true =>
         have HNO:=lH (hop_none (right:=true) (key:=s.toList) HE.out (.inr (by rw [if_pos rfl,hA,hK];rfl)))
         have RR:=lH (show RoRel N L s.toList true R gx go (go+1) w6 (.int .i64 ((q:Int)-1)) w9 from ⟨q,rfl,by omega,x,out,v,HB.out.2,OWN.out,HB.out.1,HST.out.down HNO.out,HXN.out,HCNT.out,KW.out⟩)
         clear x0' x2' y0 y2
         go_wp2_with fail
         exact ⟨RR.out,by simp [intOf]<;>omega⟩
        | false =>
         have HH:=lH (hop_some (right:=true) (key:=s.toList) HE.out (by rw [if_pos rfl,hA,hK];rfl))
         have hbl:=bey_lt HH.out
         clear x0' x2'
         go_wp2_with fail
         (with_reducible refine (hop_p (go+1) go gx x E (q:Int) v out _ HB.out.2 OWN.out HB.out.1 (by omega) (by omega) (by omega) (by omega) (by omega)).mono ?_)
         rintro e w10 ⟨rfl,v9,bo9,own9,bx9,ch9⟩
         have HLB:Hid (lenAt w10 go=out.length+1):=lH (by unfold lenAt;rw [bo9.cell 0 _ rfl];simp only;rw [lenS_own own9,List.length_append,List.length_singleton])
         have hcn:=HCNT.out
         have RR:=lH (show RiRel N L s.toList true R gx go (go+1) w6 q w10 from ⟨E,out++[(x.id,E.id,(q:Int))],v9,bo9,own9,bx9,HST.out.hop HH.out,(hop_mem HH.out).1,by rw [List.length_append,List.length_singleton];omega,Chg.trans KW.out (Chg.mono ch9 (fun k (hk:k<gx)=>⟨by omega,by omega,by omega⟩))⟩)
         clear bo9 own9 bx9 ch9 y0 y1 y2 x1' hA hK LE LE2
         go_wp2_with fail
         refine ⟨RR.out,?_⟩
         have h1:=HLA.out
         have h2:=HLB.out
         have h3:=HLN.out
         have h4:=HCNT.out
         show n-lenAt w10 go<n-lenAt wi go
         omega
theorem place1_p (gx:Nat) (id:Int) (w:World) (hx:Blk w gx [.int .i64 id] 3):PredG 153 #[.pointer (some ⟨gx,0,none⟩)] (fun x=>x.id==id) w:=by
 intro x w' k
 have b0:=(hx.nx k).cell 0 _ rfl
 have B3:=Blk.new w' [.int .i64 x.id,.string x.key,.int .u32 x.word] 49
 have kn:=Ex.new w' (.cells #[.int .i64 x.id,.string x.key,.int .u32 x.word] 49)
 obtain ⟨w3,hw3⟩:∃ w3,w3=w'.alloc (.cells #[.int .i64 x.id,.string x.key,.int .u32 x.word] 49):=⟨_,rfl⟩
 obtain ⟨g3,hg3⟩:∃ g3,g3=w'.heap.size:=⟨_,rfl⟩
 have B3:Blk w3 g3 [.int .i64 x.id,.string x.key,.int .u32 x.word] 49:=by rw [hw3,hg3];exact B3
 rw [← hw3] at kn
 have b0:=((hx.nx k).nx kn).cell 0 _ rfl
 have y0:=B3.cell 0 _ rfl
 have HW3:=lH hw3
 have HG3:=lH hg3
 clear hw3 hg3 hx k B3
 unfold Nd.val
 go_enter Tryz.func153,Tryz.ntmps153
 go_upto_region 1 with fail
 rw [← HG3.out,← HW3.out]
 go_wp2_with fail
 go_ret
 exact ⟨rfl,kn⟩
def PlPost (l:List Nd) (id:Int) (w:World) (e:Ending) (w':World):Prop :=
 ∃ (v:Value) (S:List Nd),e=.returned (.tuple #[v,.int .i64 (placeI l id)])∧OwnL 3 encN 49 w.heap.size w' v S∧(checkN l=0→S=sortN l)∧Ex w w'
set_option maxHeartbeats 1000000 in
theorem place_p (a:Option Addr) (n c:Nat) (l:List Nd) (id:Int) (w:World) (hs:Sl 3 encN w a n l) (hn:n≤1000) (hc:n≤c) (hm:c≤maxLen) :
  Calls Tryz.prog 114 #[.slice a n c,.int .i64 id] w (PlPost l id w):=by
 have HL:=lH hs.len
 have EX:=Ex.refl w
 have B:=Blk.new w [.int .i64 id] 3
 have kk:=Ex.new w (.cells #[.int .i64 id] 3)
 obtain ⟨w1,hw1⟩:∃ w1,w1=w.alloc (.cells #[.int .i64 id] 3):=⟨_,rfl⟩
 obtain ⟨g,hg⟩:∃ g,g=w.heap.size:=⟨_,rfl⟩
 replace B:Blk w1 g [.int .i64 id] 3:=by rw [hw1,hg];exact B
 rw [← hw1] at kk
 have Hw1:=lH hw1
 have Hg:=lH hg
 replace hs:=hs.nx kk
 replace EX:=EX.nx kk
 have hgw:w.heap.size≤g:=by omega
 have eg:∀ args w,(callFunc 153 args).run Tryz.prog w=.ok (.enter 153 args) w:=enters_of Tryz.func153 (by kernel_rfl) rfl
 have EG:=lH eg
 clear kk hw1 hg eg
 go_enter Tryz.func114,Tryz.ntmps114
 go_upto_region 1 with fail
 rw [← Hg.out,← Hw1.out]
 clear Hg Hw1
 go_wp2_with fail
 (with_reducible refine (check_p _ _ _ _ _ hs (by omega) hc hm).mono ?_)
 rintro e w2 ⟨rfl,kk⟩
 replace hs:=hs.nx kk
 replace EX:=EX.nx kk
 replace B:=B.nx kk
 clear kk
 by_cases hck:checkN l=0
 case neg =>
  have d1:(checkN l != 0)=true:=by simpa using hck
  have PL:Hid (placeI l id = -1):=lH (by unfold placeI;rw [if_neg hck])
  have HC:=lH hck
  clear hs hck B
  go_wp2_with fail
  go_ret2
  exact ⟨_,[],by rw [PL.out];rfl,OwnL.nil _ _ _ _ _,fun h=>absurd h HC.out,EX⟩
 have d1:(checkN l != 0)=false:=by simpa using hck
 have HC:=lH hck
 have PL:Hid (placeI l id=idxB (fun x=>x.id==id) (sortN l)):=lH (by unfold placeI;rw [if_pos hck])
 clear hck
 have hz2:w.heap.size≤w2.heap.size:=EX.size
 go_wp2_with fail
 (with_reducible refine (sort_p _ _ _ _ _ hs hn).mono ?_)
 rintro e w3 ⟨v,S,rfl,OS,⟨hp,hsrt⟩,kk⟩
 replace EX:=EX.nx kk
 replace B:=B.nx kk
 have hSe:S=sortN l:=sortN_unique (check_keys HC.out) hp hsrt
 subst hSe
 obtain ⟨a5,c5,rfl,r5,hc5,hm5⟩:=OS.sl3 (fun _=>rfl)
 have OS:=lH (OwnL.base OS hz2)
 rw [sortN_length] at r5 hc5 ⊢
 rw [HL.out] at r5 hc5 ⊢
 clear kk hs hp hsrt
 go_wp2_with fail
 (with_reducible refine (idxf_n 153 #[.pointer (some ⟨g,0,none⟩)] (fun x=>x.id==id) EG.out _ _ _ _ _ r5 (by omega) (place1_p g id w3 B)).mono ?_)
 rintro e w4 ⟨rfl,kk⟩
 have OS:=lH (OS.out.nx kk)
 replace EX:=EX.nx kk
 have HS:=lH (sortN_length l)
 clear kk r5 B hc5 hm5
 go_wp2_with fail
 go_ret2
 refine ⟨_,_,by rw [PL.out];rfl,?_,fun _=>rfl,EX⟩
 have:=OS.out
 rw [HS.out,HL.out] at this
 exact this
def rankN (l:List Nd) (id:Int):Int×Bool:=(max (placeI l id) 0,decide (0≤placeI l id))
theorem placeI_b (l:List Nd) (id:Int):-1≤placeI l id∧placeI l id≤l.length:=by
 unfold placeI idxB
 split
 ·split
  ·have:=sortN_length l;omega
  ·omega
 ·omega
set_option maxHeartbeats 1000000 in
theorem rank_p (a:Option Addr) (n c:Nat) (l:List Nd) (id:Int) (w:World) (hs:Sl 3 encN w a n l) (hn:n≤1000) (hc:n≤c) (hm:c≤maxLen) :
  Calls Tryz.prog 52 #[.slice a n c,.int .i64 id] w fun e w'=>e=.returned (.tuple #[.int .i64 (rankN l id).1,.bool (rankN l id).2])∧Ex w w':=by
 have HL:=lH hs.len
 go_enter Tryz.func52,Tryz.ntmps52
 go_wp2_with fail
 (with_reducible refine (place_p _ _ _ _ id _ hs hn hc hm).mono ?_)
 rintro e w1 ⟨v,S,rfl,_,_,kk⟩
 have hb:=placeI_b l id
 have RK:Hid (rankN l id=(max (placeI l id) 0,decide (0≤placeI l id))):=lH rfl
 have hl:=HL.out
 clear hs
 go_wp2_with fail
 go_ret2
 exact ⟨by rw [RK.out];rfl,kk⟩
theorem placeI_at {l:List Nd} (h0:checkN l=0) {A B:List Nd} {x:Nd} (e:sortN l=A++x::B):placeI l x.id=A.length:=by
 have hs:=sortN_str h0
 unfold placeI
 rw [if_pos h0,e]
 rw [e] at hs
 refine (idxB_of (y:=x) (k:=A.length) (by simp) (by simp) fun j z hj hz=>?_).1
 rw [List.getElem?_append_left hj] at hz
 have:=((List.pairwise_append.1 hs).2.2 z (List.mem_of_getElem? hz) x (by simp)).2
 simpa using this
end Go.Proofs.YtalmjklljofhbaaGreatDoor
