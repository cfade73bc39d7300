/- Texts for TopRepairProof. -/
import Derived.Test.YthcholmhmcpooaaGreatDoorTopRepairProofL25
set_option linter.unusedSimpArgs false
set_option linter.unusedVariables false

namespace Go.Proofs.YthcholmhmcpooaaGreatDoor
open Go.RowKit
section
variable {α:Type} {sz:Nat} {enc:α→List Value} {e:TypeId} {base:Nat} {w:World} {l:List α} {g n cap:Nat}
theorem OwnL.parts (h:OwnL sz enc e base w (.slice (some ⟨g,0,none⟩) n cap) l):∃ cur:Array Value,n=l.length∧base≤g∧w.heap[g]?=some (.cells cur e (0,0))∧n≤cap∧cap≤maxLen∧cur.size=cap*sz∧cur.toList.take (n*sz)=l.flatMap enc∧(l.flatMap enc).length=n*sz:=by
 rcases h.2 with ⟨h1,_⟩ | ⟨g',cap',cur,e1,e2,e3,e4,e5,e6,e7⟩
 ·cases h1
 ·obtain ⟨rfl,hLn,rfl⟩:g=g'∧n=l.length∧cap=cap':=by simpa using e1
  subst hLn
  exact ⟨cur,rfl,e2,e3,e4,e5,e6,e7,h.1⟩
theorem OwnL.ofParts {cur:Array Value} (h1:n=l.length) (h2:base≤g) (h3:w.heap[g]?=some (.cells cur e (0,0))) (h4:n≤cap) (h5:cap≤maxLen) (h6:cur.size=cap*sz) (h7:cur.toList.take (n*sz)=l.flatMap enc) (h8:(l.flatMap enc).length=n*sz) :
  OwnL sz enc e base w (.slice (some ⟨g,0,none⟩) n cap) l:=by
 subst h1
 exact ⟨h8,.inr ⟨g,cap,cur,rfl,h2,h3,h4,h5,h6,h7⟩⟩
theorem OwnL.setcD (h:OwnL sz enc e base w (.slice (some ⟨g,0,none⟩) n cap) l) (v:Value) {j:Nat} (hj:n*sz≤j) :
  OwnL sz enc e base (w.setCell ⟨g,j,none⟩ v) (.slice (some ⟨g,0,none⟩) n cap) l:=by
 obtain ⟨cur,a1,a2,a3,a4,a5,a6,a7,a8⟩:=h.parts
 exact OwnL.ofParts a1 a2 (heap_set a3 j v) a4 a5 (by simp [a6]) (by rw [← a7,Array.toList_setIfInBounds,List.take_set_of_le hj]) a8
theorem OwnL.setcsD:∀ (vs:List Value) (w:World) (j:Nat),n*sz≤j→OwnL sz enc e base w (.slice (some ⟨g,0,none⟩) n cap) l →
  OwnL sz enc e base (w.setCells g j vs) (.slice (some ⟨g,0,none⟩) n cap) l
 | [],_,_,_,h=>h
 | v::vs,w,j,hj,h=>OwnL.setcsD vs _ (j+1) (by omega) (h.setcD v hj)
theorem OwnL.cellC (h:OwnL sz enc e base w (.slice (some ⟨g,0,none⟩) n cap) l) {j:Nat} (hj:j<cap*sz):(w.cell? ⟨g,j,none⟩).isSome=true∧w.frozen? ⟨g,j,none⟩=false:=by
 obtain ⟨cur,a1,a2,a3,a4,a5,a6,a7,a8⟩:=h.parts
 have hsz:j<cur.size:=by rw [a6];exact hj
 exact ⟨by simp [World.cell?,a3,hsz],by simp [World.frozen?,a3]⟩
theorem run_clear_own {P:Program} (h:OwnL sz enc e base w (.slice (some ⟨g,0,none⟩) n cap) l) (m q:Nat) (hm:m+(q+1)≤cap) (z:Value) (zs:Array Value) (hz:(zeroValue e).run P w=.ok z w) (hzc:z.cells=zs) (hzs:zs.size=sz) (hsz:0<sz) (hz1:∀ i,i<sz→(zs[i]!).oneCell'=true)
  (ts ty:TypeId) (hu:P.underlying ts=some (.slice e)) (c':Nat) :
  ∃ vs,(Builtin.clear_ #[ts] ty #[.slice (some ⟨g,m*sz,none⟩) (q+1) c']).run P w=.ok (.tuple #[]) (w.setCells g (m*sz) vs):=by
 obtain ⟨vs,hvs⟩:∃ vs,vs=(Builtin.zeroCells (Value.cells z) (q+1)).toList:=⟨_,rfl⟩
 have hl:vs.length=(q+1)*sz:=by rw [hvs,hzc];simp [Builtin.zeroCells,hzs]
 have hmul:(m+(q+1))*sz≤cap*sz:=Nat.mul_le_mul_right _ hm
 rw [Nat.add_mul] at hmul
 have h1:∀ v∈vs,v.oneCell'=true:=by
  intro v hv
  rw [hvs,hzc] at hv
  simp only [Builtin.zeroCells,Array.toList_map,List.mem_map] at hv
  obtain ⟨i,_,rfl⟩:=hv
  rw [hzs]
  exact hz1 _ (Nat.mod_lt _ hsz)
 have hst:=run_storeCells_cells (P:=P) g (m*sz) vs 0 w (by intro j hj;rw [hl] at hj;exact (h.cellC (by omega)).1) (by intro j hj;rw [hl] at hj;exact (h.cellC (by omega)).2) h1
 simp only [Nat.add_zero] at hst
 refine ⟨vs,?_⟩
 simp [Builtin.clear_,run_underlying hu,hz,← hvs,hst]
theorem chg_setcs {g:Nat} {w0:World}:∀ (vs:List Value) (w:World) (j:Nat),Chg (fun x=>x<w0.heap.size∧¬ x=g) w0 w→Chg (fun x=>x<w0.heap.size∧¬ x=g) w0 (w.setCells g j vs)
 | [],_,_,h=>h
 | v::vs,w,j,h=>chg_setcs vs _ (j+1) (h.setCell (p:=⟨g,j,none⟩) v (fun k hk=>hk.2))
theorem wp_append_room {P:Program} {o:Oper} {a:Act} {K:Act→World→Prop} {Q:Exit→Act→World→Prop} (s x:Operand) (t:TypeId)
  (ho:o.op=.call { callee:=.builtin .append,args:=#[s,x],argTypes:=#[t,t] })
  (z:Value) (bytes:Nat) (ht:P.underlying t=some (.slice e)) (hi:(P.info? e).map (fun i=>(i.zero,i.size,i.bytes))=some (some z,sz,bytes))
  (hown:OwnL sz enc e base w (.slice (some ⟨g,0,none⟩) n cap) l) (k:Nat) (hk:k≤n) (hs:a.eval s=.slice (some ⟨g,0,none⟩) k cap) (A:Addr) (m c:Nat) (news:List α) (hrd:Sl sz enc w (some A) m news) (hlen:∀ y,(enc y).length=sz) (h1:∀ y,∀ u∈enc y,u.oneCell'=true) (hsz:0<sz)
  (hx:a.eval x=.slice (some A) m c) (hroom:k+m≤cap)
  (h:∀ w',OwnL sz enc e base w' (.slice (some ⟨g,0,none⟩) (k+m) cap) (l.take k++news)→Chg (fun x=>x<w.heap.size∧¬ x=g) w w'→K (a.put o.dst (.slice (some ⟨g,0,none⟩) (k+m) cap)) w'):o.wp P a w K Q:=by
 obtain ⟨i,hi,hz0,hz1,hz2⟩:=info_parts hi
 obtain ⟨cur,a1,a2,a3,a4,a5,a6,a7,a8⟩:=hown.parts
 have hnl:=hrd.len
 have hnew:∀ j u,(news.flatMap enc)[j]?=some u→w.cell? (A.add j)=some u:=by
  intro j u hu
  rcases hrd.2 with h0 | ⟨x,o,e1,_,_⟩
  ·have:news=[]:=List.eq_nil_of_length_eq_zero (hnl.trans h0)
   subst this
   simp at hu
  ·cases e1
   rw [Addr.add_lit]
   exact hrd.flatW hlen hsz j u hu
 have hnf:(news.flatMap enc).length=m*sz:=by rw [flatW_len hlen,hnl]
 have h1f:∀ u∈news.flatMap enc,u.oneCell'=true:=fun u hu=>by
  obtain ⟨y,_,hy⟩:=List.mem_flatMap.1 hu
  exact h1 y u hy
 have hmm:(k+m)*sz≤cap*sz:=Nat.mul_le_mul_right _ hroom
 rw [Nat.add_mul] at hmm
 have htk:cur.toList.take (k*sz)=(l.take k).flatMap enc:=by
  rw [flatN_take hlen,← a7,List.take_take,Nat.min_eq_left (Nat.mul_le_mul_right _ hk)]
 have hlk:(l.take k).length=k:=by rw [List.length_take];omega
 have hrun:=run_append_room (P:=P) w t o.type e i ht hi g k cap cur a3 A m c (news.flatMap enc) (by rw [hz1];exact hnf) hnew h1f hroom (by rw [hz1,hnf];omega)
 have close:∀ v' w',(Builtin.append_ #[t,t] o.type #[.slice (some ⟨g,0,none⟩) k cap,.slice (some A) m c]).run P w=.ok v' w'→K (a.put o.dst v') w'→o.wp P a w K Q:=by
  intro v' w' hr hK
  unfold Oper.wp
  simp [execOp,ho,resolve,invoke,builtin,hs,hx,hr,Result.andThen]
  exact hK
 refine close _ _ hrun (h _ (OwnL.ofParts (by rw [List.length_append,hlk,hnl]) a2 (setRow_heap w g cur _ e _ a3) hroom a5 ?_ ?_ ?_) ⟨rfl,rfl,rfl,by simp [World.setRow],fun k hk=>setRow_other w g k _ (fun he=>hk.2 he)⟩)
 ·simp only [List.size_toArray,List.length_append,List.length_take,List.length_drop,Array.length_toList,hz1,hnf]
  omega
 ·rw [hz1,htk,List.flatMap_append,Nat.add_mul]
  have:((l.take k).flatMap enc++news.flatMap enc).length=k*sz+m*sz:=by rw [List.length_append,flatW_len hlen,hlk,hnf]
  rw [← this]
  exact List.take_left
 ·rw [List.flatMap_append,List.length_append,flatW_len hlen,hlk,hnf,Nat.add_mul]
end
theorem Tryz.infoIoD:(Tryz.prog.info? 242).map (fun i=>(i.zero,i.size,i.bytes))=some (some (.agg #[.int .i64 0,.int .i64 0]),2,16):=by kernel_rfl
theorem Tryz.zero_delete_io (w:World):(zeroValue 242).run Tryz.prog w=.ok (.agg #[.int .i64 0,.int .i64 0]) w:=by kernel_rfl
set_option maxRecDepth 100000 in
set_option maxHeartbeats 4000000 in
theorem delete_io (v:Value) (l:List (Int×Int)) (k:Nat) (w0 w:World) (h:OwnL 2 encS 242 w0.heap.size w v l) (hk:k<l.length) (hn:l.length≤1000000) (k0:Ex w0 w) :
  Calls Tryz.prog 156 #[v,.int .i64 k,.int .i64 ((k:Int)+1)] w fun e w'=>∃ v',e=.returned v'∧OwnL 2 encS 242 w0.heap.size w' v' (l.eraseIdx k)∧Ex w0 w'∧Chg (fun x=>x<w.heap.size∧¬ v.ownBlock=some x) w w':=by
 rcases h.2 with ⟨_,h2⟩ | ⟨g,cap,cur,rfl,hb,_,hlc,hcm,_,_⟩
 ·omega
 obtain ⟨m,hm⟩:∃ m,l.length=k+1+m:=⟨l.length-(k+1),by omega⟩
 rw [hm] at h hlc hn ⊢
 unfold maxLen at hcm
 have OWN:=lH h
 have HB:=lH hb
 have K0:=lH k0
 have EI:=lH (show l.eraseIdx k=l.take k++l.drop (k+1) from List.eraseIdx_eq_take_drop_succ l k)
 have SLW:=lH (show Sl 2 encS w (some ⟨g,0,none⟩) l.length l from by
  obtain ⟨a',c',e',r',_⟩:=h.rd (fun _=>rfl)
  have e2:some (⟨g,0,none⟩:Addr)=a'∧k+1+m=l.length∧cap=c':=by simpa using e'
  obtain ⟨rfl,_,rfl⟩:=e2
  exact Rd.mono r' (fun _ hk=>hk.2))
 have HM:=lH hm
 have w1:IntKind.i64.wrap ((k:Int)+1)=(k:Int)+1:=IntWalk.i64_in _ (by omega)
 have t1:((k:Int)+1).toNat=k+1:=by omega
 have b1:(0:Int)≤(k:Int)+1:=by omega
 have b2:(k:Int)≤(k:Int)+1:=by omega
 have b3:(k:Int)+1≤(k:Int)+1+(m:Int):=by omega
 have b4:(k:Int)+1+(m:Int)≤(cap:Int):=by omega
 have b8:(0:Int)≤(k:Int)+(m:Int):=by omega
 have b9:(k:Int)+(m:Int)≤(k:Int)+1+(m:Int):=by omega
 have t2:((k:Int)+(m:Int)).toNat=k+m:=by omega
 have t3:((k:Int)+1+(m:Int)).toNat=k+1+m:=by omega
 have t4:k+1+m-(k+1)=m:=by omega
 have t5:k+1+m-(k+m)=1:=by omega
 have b5:(k:Int)≤(cap:Int):=by omega
 have b6:(k:Int)+1≤(cap:Int):=by omega
 have b7:((k:Int)==(k:Int)+1)=false:=by rw [beq_eq_false_iff_ne];omega
 clear h hb k0 hm hk
 go_enter Tryz.func156,Tryz.ntmps156
 go_upto_region 5 with fail
 have FIN:∀ (wx:World),OwnL 2 encS 242 w0.heap.size wx (.slice (some ⟨g,0,none⟩) (k+m) cap) (l.eraseIdx k)→Ex w0 wx→Chg (fun x=>x<w.heap.size∧¬ x=g) w wx→∃ vs:List Value,
   (∀ ty c',(Builtin.clear_ #[54] ty #[.slice (some ⟨g,(k+m)*2,none⟩) 1 c']).run Tryz.prog wx=.ok (.tuple #[]) (wx.setCells g ((k+m)*2) vs))∧OwnL 2 encS 242 w0.heap.size (wx.setCells g ((k+m)*2) vs) (.slice (some ⟨g,0,none⟩) (k+m) cap) (l.eraseIdx k)∧Ex w0 (wx.setCells g ((k+m)*2) vs)∧Chg (fun x=>x<w.heap.size∧¬ (Value.slice (some ⟨g,0,none⟩) (k+1+m) cap).ownBlock=some x) w (wx.setCells g ((k+m)*2) vs):=fun wx O E C=>by
  have hz1:∀ i,i<2→((#[.int .i64 0,.int .i64 0]:Array Value)[i]!).oneCell'=true:=fun i hi=>match i,hi with
  | 0,_=>rfl
  | 1,_=>rfl
  obtain ⟨vs,hvs⟩:=run_clear_own (P:=Tryz.prog) O (k+m) 0 (by omega) (.agg #[.int .i64 0,.int .i64 0]) #[.int .i64 0,.int .i64 0] (Tryz.zero_delete_io wx) rfl rfl (by omega) hz1 54 0 Tryz.underlying54 0
  exact ⟨vs,fun _ _=>hvs,OwnL.setcsD vs wx _ (Nat.le_refl _) O,ex_setcs HB.out vs wx _ E,(chg_setcs vs wx _ C).mono (fun x hx=>⟨hx.1,fun he=>hx.2 (by rw [he];rfl)⟩)⟩
 by_cases hcap:cap=k+1
 ·subst hcap
  have HRD:Sl 2 encS w (some ⟨g,0,none⟩) m (l.drop (k+1)):=by
   rw [show m=0 by omega,List.drop_of_length_le (by have:=HM.out;omega)]
   exact Sl.nil _ _ _ _
  have HR:=lH HRD
  clear HRD
  refine wp_region_held_drew (S:=Ex w0) (by kernel_rfl) (K0.out.drew) (fun hHeld=>?_)
  obtain ⟨wd,hwdx⟩:∃ wd:World,wd=World.drew w:=⟨_,rfl⟩
  rw [← hwdx] at hHeld ⊢
  have hDrew:Ex w wd:=by rw [hwdx];exact (Ex.refl w).drew
  clear hwdx
  refine tkH 0 (v:=?_) rfl (by kernel_rfl) (fun _ _ _ h=>h) (by rfl) ?y5 hHeld ?_
  case y5=>intro wq hSw;go_simp<;>rfl
  refine tkH 1 (v:=?_) rfl (by kernel_rfl) (fun _ _ _ h=>h) (by rfl) ?y8 hHeld ?_
  case y8=>intro wq hSw;go_simp<;>rfl
  refine tkH 2 (v:=?_) rfl (by kernel_rfl) (fun _ _ _ h=>h) (by rfl) ?y11 hHeld ?_
  case y11=>intro wq hSw;go_simp<;>rfl
  refine tkH 3 (v:=?_) rfl (by kernel_rfl) (fun _ _ _ h=>h) (by rfl) ?y14 hHeld ?_
  case y14=>intro wq hSw;go_simp<;>rfl
  refine tkH 4 (v:=?_) rfl (by kernel_rfl) (fun _ _ _ h=>h) (by rfl) ?y17 hHeld ?_
  case y17=>intro wq hSw;go_simp<;>rfl
  refine tkH 5 (v:=?_) rfl (by kernel_rfl) (fun _ _ _ h=>h) (by rfl) ?y20 hHeld ?_
  case y20=>intro wq hSw;go_simp<;>rfl
  refine rH 6 (by kernel_rfl) rfl fun K hK=>?_
  rw [if_pos (by rfl)]
  refine wp_append_room (enc:=encS) (.tmp 22) (.tmp 25) 54 rfl (.agg #[.int .i64 0,.int .i64 0]) 16 Tryz.underlying54 Tryz.infoIoD (OWN.out.nx hDrew) k (by omega) rfl ⟨g,0,none⟩ m _ (l.drop (k+1)) (HR.out.nx hDrew) (fun _=>rfl) (by simp [encS,Value.oneCell']) (by omega) rfl (by omega) ?_
  intro w9 own9 ch0
  replace hHeld:Ex w0 w9:=Chg.trans hHeld (ch0.mono (fun x hx=>⟨Nat.lt_of_lt_of_le hx hHeld.size,fun he=>by have:=HB.out;omega⟩))
  have HC:Chg (fun x=>x<w.heap.size∧¬ x=g) w w9:=Chg.trans (Chg.mono hDrew (fun x hx=>hx.1)) (ch0.mono (fun x hx=>⟨Nat.lt_of_lt_of_le hx.1 hDrew.size,hx.2⟩))
  rw [← EI.out] at own9
  clear ch0
  refine hK.out _ _ (hHeld) (fun hHeld=>?_)
  clear hK K
  refine tkH 7 (v:=?_) rfl (by kernel_rfl) (fun _ _ _ h=>h) (by rfl) ?y35 hHeld ?_
  case y35=>intro wq hSw;go_simp<;>rfl
  refine wpAnyH_done (by kernel_rfl) ?_ _
  obtain ⟨vs,hcl,O9,E9,C9⟩:=FIN w9 own9 hHeld HC
  clear FIN own9 hHeld hDrew HC
  go_wp2_with (simp only [hcl])
  go_ret
  exact ⟨_,rfl,O9,E9,C9⟩
 ·have HRD:Sl 2 encS w (some ⟨g,(k+1)*2,none⟩) m (l.drop (k+1)):=by
   have:=Sl.drop SLW.out (m:=k+1) (by have:=HM.out;omega)
   rw [Nat.zero_add,show l.length-(k+1)=m by have:=HM.out;omega] at this
   exact this
  have hcap2:¬ k+1=cap:=fun h=>hcap h.symm
  have HR:=lH HRD
  clear HRD
  refine wp_region_held_drew (S:=Ex w0) (by kernel_rfl) (K0.out.drew) (fun hHeld=>?_)
  obtain ⟨wd,hwdx⟩:∃ wd:World,wd=World.drew w:=⟨_,rfl⟩
  rw [← hwdx] at hHeld ⊢
  have hDrew:Ex w wd:=by rw [hwdx];exact (Ex.refl w).drew
  clear hwdx
  refine tkH 0 (v:=?_) rfl (by kernel_rfl) (fun _ _ _ h=>h) (by rfl) ?y5 hHeld ?_
  case y5=>intro wq hSw;go_simp<;>rfl
  refine tkH 1 (v:=?_) rfl (by kernel_rfl) (fun _ _ _ h=>h) (by rfl) ?y8 hHeld ?_
  case y8=>intro wq hSw;go_simp<;>rfl
  refine tkH 2 (v:=?_) rfl (by kernel_rfl) (fun _ _ _ h=>h) (by rfl) ?y11 hHeld ?_
  case y11=>intro wq hSw;go_simp<;>rfl
  refine tkH 3 (v:=?_) rfl (by kernel_rfl) (fun _ _ _ h=>h) (by rfl) ?y14 hHeld ?_
  case y14=>intro wq hSw;go_simp<;>rfl
  refine tkH 4 (v:=?_) rfl (by kernel_rfl) (fun _ _ _ h=>h) (by rfl) ?y17 hHeld ?_
  case y17=>intro wq hSw;go_simp<;>rfl
  refine tkH 5 (v:=?_) rfl (by kernel_rfl) (fun _ _ _ h=>h) (by rfl) ?y20 hHeld ?_
  case y20=>intro wq hSw;go_simp<;>rfl
  refine rH 6 (by kernel_rfl) rfl fun K hK=>?_
  rw [if_pos (by rfl)]
  refine wp_append_room (enc:=encS) (.tmp 22) (.tmp 25) 54 rfl (.agg #[.int .i64 0,.int .i64 0]) 16 Tryz.underlying54 Tryz.infoIoD (OWN.out.nx hDrew) k (by omega) rfl ⟨g,(k+1)*2,none⟩ m _ (l.drop (k+1)) (HR.out.nx hDrew) (fun _=>rfl) (by simp [encS,Value.oneCell']) (by omega) rfl (by omega) ?_
  intro w9 own9 ch0
  replace hHeld:Ex w0 w9:=Chg.trans hHeld (ch0.mono (fun x hx=>⟨Nat.lt_of_lt_of_le hx hHeld.size,fun he=>by have:=HB.out;omega⟩))
  have HC:Chg (fun x=>x<w.heap.size∧¬ x=g) w w9:=Chg.trans (Chg.mono hDrew (fun x hx=>hx.1)) (ch0.mono (fun x hx=>⟨Nat.lt_of_lt_of_le hx.1 hDrew.size,hx.2⟩))
  rw [← EI.out] at own9
  clear ch0
  refine hK.out _ _ (hHeld) (fun hHeld=>?_)
  clear hK K
  refine tkH 7 (v:=?_) rfl (by kernel_rfl) (fun _ _ _ h=>h) (by rfl) ?y35 hHeld ?_
  case y35=>intro wq hSw;go_simp<;>rfl
  refine wpAnyH_done (by kernel_rfl) ?_ _
  obtain ⟨vs,hcl,O9,E9,C9⟩:=FIN w9 own9 hHeld HC
  clear FIN own9 hHeld hDrew HC
  go_wp2_with (simp only [hcl])
  go_ret
  exact ⟨_,rfl,O9,E9,C9⟩
theorem Tryz.zero_delete_nd (w:World):(zeroValue 36).run Tryz.prog w=.ok (.agg #[.int .i64 0,.string ⟨#[]⟩,.int .u32 0]) w:=by kernel_rfl
set_option maxRecDepth 100000 in
set_option maxHeartbeats 4000000 in
theorem delete_nd (v:Value) (l:List Nd) (k:Nat) (w0 w:World) (h:OwnL 3 encN 36 w0.heap.size w v l) (hk:k<l.length) (hn:l.length≤1000000) (k0:Ex w0 w) :
  Calls Tryz.prog 162 #[v,.int .i64 k,.int .i64 ((k:Int)+1)] w fun e w'=>∃ v',e=.returned v'∧OwnL 3 encN 36 w0.heap.size w' v' (l.eraseIdx k)∧Ex w0 w'∧Chg (fun x=>x<w.heap.size∧¬ v.ownBlock=some x) w w':=by
 rcases h.2 with ⟨_,h2⟩ | ⟨g,cap,cur,rfl,hb,_,hlc,hcm,_,_⟩
 ·omega
 obtain ⟨m,hm⟩:∃ m,l.length=k+1+m:=⟨l.length-(k+1),by omega⟩
 rw [hm] at h hlc hn ⊢
 unfold maxLen at hcm
 have OWN:=lH h
 have HB:=lH hb
 have K0:=lH k0
 have EI:=lH (show l.eraseIdx k=l.take k++l.drop (k+1) from List.eraseIdx_eq_take_drop_succ l k)
 have SLW:=lH (show Sl 3 encN w (some ⟨g,0,none⟩) l.length l from by
  obtain ⟨a',c',e',r',_⟩:=h.rd (fun _=>rfl)
  have e2:some (⟨g,0,none⟩:Addr)=a'∧k+1+m=l.length∧cap=c':=by simpa using e'
  obtain ⟨rfl,_,rfl⟩:=e2
  exact Rd.mono r' (fun _ hk=>hk.2))
 have HM:=lH hm
 have w1:IntKind.i64.wrap ((k:Int)+1)=(k:Int)+1:=IntWalk.i64_in _ (by omega)
 have t1:((k:Int)+1).toNat=k+1:=by omega
 have b1:(0:Int)≤(k:Int)+1:=by omega
 have b2:(k:Int)≤(k:Int)+1:=by omega
 have b3:(k:Int)+1≤(k:Int)+1+(m:Int):=by omega
 have b4:(k:Int)+1+(m:Int)≤(cap:Int):=by omega
 have b8:(0:Int)≤(k:Int)+(m:Int):=by omega
 have b9:(k:Int)+(m:Int)≤(k:Int)+1+(m:Int):=by omega
 have t2:((k:Int)+(m:Int)).toNat=k+m:=by omega
 have t3:((k:Int)+1+(m:Int)).toNat=k+1+m:=by omega
 have t4:k+1+m-(k+1)=m:=by omega
 have t5:k+1+m-(k+m)=1:=by omega
 have b5:(k:Int)≤(cap:Int):=by omega
 have b6:(k:Int)+1≤(cap:Int):=by omega
 have b7:((k:Int)==(k:Int)+1)=false:=by rw [beq_eq_false_iff_ne];omega
 clear h hb k0 hm hk
 go_enter Tryz.func162,Tryz.ntmps162
 go_upto_region 5 with fail
 have FIN:∀ (wx:World),OwnL 3 encN 36 w0.heap.size wx (.slice (some ⟨g,0,none⟩) (k+m) cap) (l.eraseIdx k)→Ex w0 wx→Chg (fun x=>x<w.heap.size∧¬ x=g) w wx→∃ vs:List Value,
   (∀ ty c',(Builtin.clear_ #[25] ty #[.slice (some ⟨g,(k+m)*3,none⟩) 1 c']).run Tryz.prog wx=.ok (.tuple #[]) (wx.setCells g ((k+m)*3) vs))∧OwnL 3 encN 36 w0.heap.size (wx.setCells g ((k+m)*3) vs) (.slice (some ⟨g,0,none⟩) (k+m) cap) (l.eraseIdx k)∧Ex w0 (wx.setCells g ((k+m)*3) vs)∧Chg (fun x=>x<w.heap.size∧¬ (Value.slice (some ⟨g,0,none⟩) (k+1+m) cap).ownBlock=some x) w (wx.setCells g ((k+m)*3) vs):=fun wx O E C=>by
  have hz1:∀ i,i<3→((#[.int .i64 0,.string ⟨#[]⟩,.int .u32 0]:Array Value)[i]!).oneCell'=true:=fun i hi=>match i,hi with
  | 0,_=>rfl
  | 1,_=>rfl
  | 2,_=>rfl
  obtain ⟨vs,hvs⟩:=run_clear_own (P:=Tryz.prog) O (k+m) 0 (by omega) (.agg #[.int .i64 0,.string ⟨#[]⟩,.int .u32 0]) #[.int .i64 0,.string ⟨#[]⟩,.int .u32 0] (Tryz.zero_delete_nd wx) rfl rfl (by omega) hz1 25 0 Tryz.underlying25 0
  exact ⟨vs,fun _ _=>hvs,OwnL.setcsD vs wx _ (Nat.le_refl _) O,ex_setcs HB.out vs wx _ E,(chg_setcs vs wx _ C).mono (fun x hx=>⟨hx.1,fun he=>hx.2 (by rw [he];rfl)⟩)⟩
 by_cases hcap:cap=k+1
 ·subst hcap
  have HRD:Sl 3 encN w (some ⟨g,0,none⟩) m (l.drop (k+1)):=by
   rw [show m=0 by omega,List.drop_of_length_le (by have:=HM.out;omega)]
   exact Sl.nil _ _ _ _
  have HR:=lH HRD
  clear HRD
  refine wp_region_held_drew (S:=Ex w0) (by kernel_rfl) (K0.out.drew) (fun hHeld=>?_)
  obtain ⟨wd,hwdx⟩:∃ wd:World,wd=World.drew w:=⟨_,rfl⟩
  rw [← hwdx] at hHeld ⊢
  have hDrew:Ex w wd:=by rw [hwdx];exact (Ex.refl w).drew
  clear hwdx
  refine tkH 0 (v:=?_) rfl (by kernel_rfl) (fun _ _ _ h=>h) (by rfl) ?y5 hHeld ?_
  case y5=>intro wq hSw;go_simp<;>rfl
  refine tkH 1 (v:=?_) rfl (by kernel_rfl) (fun _ _ _ h=>h) (by rfl) ?y8 hHeld ?_
  case y8=>intro wq hSw;go_simp<;>rfl
  refine tkH 2 (v:=?_) rfl (by kernel_rfl) (fun _ _ _ h=>h) (by rfl) ?y11 hHeld ?_
  case y11=>intro wq hSw;go_simp<;>rfl
  refine tkH 3 (v:=?_) rfl (by kernel_rfl) (fun _ _ _ h=>h) (by rfl) ?y14 hHeld ?_
  case y14=>intro wq hSw;go_simp<;>rfl
  refine tkH 4 (v:=?_) rfl (by kernel_rfl) (fun _ _ _ h=>h) (by rfl) ?y17 hHeld ?_
  case y17=>intro wq hSw;go_simp<;>rfl
  refine tkH 5 (v:=?_) rfl (by kernel_rfl) (fun _ _ _ h=>h) (by rfl) ?y20 hHeld ?_
  case y20=>intro wq hSw;go_simp<;>rfl
  refine rH 6 (by kernel_rfl) rfl fun K hK=>?_
  rw [if_pos (by rfl)]
  refine wp_append_room (enc:=encN) (.tmp 22) (.tmp 25) 25 rfl (.agg #[.int .i64 0,.string ⟨#[]⟩,.int .u32 0]) 32 Tryz.underlying25 Tryz.infoN (OWN.out.nx hDrew) k (by omega) rfl ⟨g,0,none⟩ m _ (l.drop (k+1)) (HR.out.nx hDrew) (fun _=>rfl) (by simp [encN,Value.oneCell']) (by omega) rfl (by omega) ?_
  intro w9 own9 ch0
  replace hHeld:Ex w0 w9:=Chg.trans hHeld (ch0.mono (fun x hx=>⟨Nat.lt_of_lt_of_le hx hHeld.size,fun he=>by have:=HB.out;omega⟩))
  have HC:Chg (fun x=>x<w.heap.size∧¬ x=g) w w9:=Chg.trans (Chg.mono hDrew (fun x hx=>hx.1)) (ch0.mono (fun x hx=>⟨Nat.lt_of_lt_of_le hx.1 hDrew.size,hx.2⟩))
  rw [← EI.out] at own9
  clear ch0
  refine hK.out _ _ (hHeld) (fun hHeld=>?_)
  clear hK K
  refine tkH 7 (v:=?_) rfl (by kernel_rfl) (fun _ _ _ h=>h) (by rfl) ?y35 hHeld ?_
  case y35=>intro wq hSw;go_simp<;>rfl
  refine wpAnyH_done (by kernel_rfl) ?_ _
  obtain ⟨vs,hcl,O9,E9,C9⟩:=FIN w9 own9 hHeld HC
  clear FIN own9 hHeld hDrew HC
  go_wp2_with (simp only [hcl])
  go_ret
  exact ⟨_,rfl,O9,E9,C9⟩
 ·have HRD:Sl 3 encN w (some ⟨g,(k+1)*3,none⟩) m (l.drop (k+1)):=by
   have:=Sl.drop SLW.out (m:=k+1) (by have:=HM.out;omega)
   rw [Nat.zero_add,show l.length-(k+1)=m by have:=HM.out;omega] at this
   exact this
  have hcap2:¬ k+1=cap:=fun h=>hcap h.symm
  have HR:=lH HRD
  clear HRD
  refine wp_region_held_drew (S:=Ex w0) (by kernel_rfl) (K0.out.drew) (fun hHeld=>?_)
  obtain ⟨wd,hwdx⟩:∃ wd:World,wd=World.drew w:=⟨_,rfl⟩
  rw [← hwdx] at hHeld ⊢
  have hDrew:Ex w wd:=by rw [hwdx];exact (Ex.refl w).drew
  clear hwdx
  refine tkH 0 (v:=?_) rfl (by kernel_rfl) (fun _ _ _ h=>h) (by rfl) ?y5 hHeld ?_
  case y5=>intro wq hSw;go_simp<;>rfl
  refine tkH 1 (v:=?_) rfl (by kernel_rfl) (fun _ _ _ h=>h) (by rfl) ?y8 hHeld ?_
  case y8=>intro wq hSw;go_simp<;>rfl
  refine tkH 2 (v:=?_) rfl (by kernel_rfl) (fun _ _ _ h=>h) (by rfl) ?y11 hHeld ?_
  case y11=>intro wq hSw;go_simp<;>rfl
  refine tkH 3 (v:=?_) rfl (by kernel_rfl) (fun _ _ _ h=>h) (by rfl) ?y14 hHeld ?_
  case y14=>intro wq hSw;go_simp<;>rfl
  refine tkH 4 (v:=?_) rfl (by kernel_rfl) (fun _ _ _ h=>h) (by rfl) ?y17 hHeld ?_
  case y17=>intro wq hSw;go_simp<;>rfl
  refine tkH 5 (v:=?_) rfl (by kernel_rfl) (fun _ _ _ h=>h) (by rfl) ?y20 hHeld ?_
  case y20=>intro wq hSw;go_simp<;>rfl
  refine rH 6 (by kernel_rfl) rfl fun K hK=>?_
  rw [if_pos (by rfl)]
  refine wp_append_room (enc:=encN) (.tmp 22) (.tmp 25) 25 rfl (.agg #[.int .i64 0,.string ⟨#[]⟩,.int .u32 0]) 32 Tryz.underlying25 Tryz.infoN (OWN.out.nx hDrew) k (by omega) rfl ⟨g,(k+1)*3,none⟩ m _ (l.drop (k+1)) (HR.out.nx hDrew) (fun _=>rfl) (by simp [encN,Value.oneCell']) (by omega) rfl (by omega) ?_
  intro w9 own9 ch0
  replace hHeld:Ex w0 w9:=Chg.trans hHeld (ch0.mono (fun x hx=>⟨Nat.lt_of_lt_of_le hx hHeld.size,fun he=>by have:=HB.out;omega⟩))
  have HC:Chg (fun x=>x<w.heap.size∧¬ x=g) w w9:=Chg.trans (Chg.mono hDrew (fun x hx=>hx.1)) (ch0.mono (fun x hx=>⟨Nat.lt_of_lt_of_le hx.1 hDrew.size,hx.2⟩))
  rw [← EI.out] at own9
  clear ch0
  refine hK.out _ _ (hHeld) (fun hHeld=>?_)
  clear hK K
  refine tkH 7 (v:=?_) rfl (by kernel_rfl) (fun _ _ _ h=>h) (by rfl) ?y35 hHeld ?_
  case y35=>intro wq hSw;go_simp<;>rfl
  refine wpAnyH_done (by kernel_rfl) ?_ _
  obtain ⟨vs,hcl,O9,E9,C9⟩:=FIN w9 own9 hHeld HC
  clear FIN own9 hHeld hDrew HC
  go_wp2_with (simp only [hcl])
  go_ret
  exact ⟨_,rfl,O9,E9,C9⟩
structure InOf (n b:Nat) (w w':World) (v:Value) (l:List Int):Prop where
 own:OwnL 1 encI 3 w.heap.size w' v l
 len:l.length≤n
 tape:TK w' b
 k:Exb b w w'
set_option maxRecDepth 100000 in
set_option maxHeartbeats 2000000 in
theorem ints_t {b:Nat} (n:Nat) (most:Int) (w:World) (h:TK w b) (hn:n≤1000) (hm1:1≤most) (hm2:most≤1000000) :
  Calls Tryz.prog 89 #[.pointer (some ⟨b,0,none⟩),.int .i64 n,.int .i64 most] w fun e w'=>∃ v r,e=.returned v∧InOf n b w w' v r:=by
 have hbw:=h.lt
 go_enter Tryz.func89,Tryz.ntmps89
 go_wp2_with fail
 refine (next_t ((n:Int)+1) _ h (by omega) (by omega)).mono ?_
 rintro e w1 ⟨q,rfl,q0,q1,T,kk⟩
 obtain ⟨q,rfl⟩:=Int.eq_ofNat_of_zero_le q0
 clear h
 go_wp2_with fail
 go_loopw [7,8] (fun o i wr=>∃ (q:Nat) (L:List Int),L.length+q≤n∧i=.int .i64 q∧InOf n b w wr o L) (fun _ i _=>(intOf i).toNat)
 case atStart=>exact ⟨q,[],by simp;omega,rfl,OwnL.nil _ _ _ _ _,by simp,T,kk⟩
 case round =>
  clear T kk
  obtain ⟨q,L,hq,rfl,R⟩:=hrel
  obtain ⟨wo,rfl⟩:∃ wo:World,wo=wr:=⟨_,rfl⟩
  by_cases hq0:0<q
  ·have T:=R.tape
   have R:=lH R
   go_wp2_with fail
   refine (next_t most _ T hm1 (by omega)).mono ?_
   clear T
   rintro e w2 ⟨r,rfl,r0,r1,T,k2⟩
   have own:=R.out.own.nxb hbw k2
   have kk:=R.out.k.nxb k2
   have zz:=kk.size
   have hLl:L.length≤1000:=by omega
   clear k2 r0 r1
   go_wp2_with (at_builtin;(refine wpList_append_lit (enc:=encI) w2 rfl _ _ 22 rfl w.heap.size 3 (.int .i64 0) 1 8 Tryz.underlying22 Tryz.infoI6 rfl (by omega) (by omega) _ _ own rfl (r:Int) _ rfl rfl (by simp [encI,Value.oneCell']) _ (by simp) rfl (by omega) zz _ ?_);intro v6 w6 own6 _ ch1 _)
   refine ⟨⟨q-1,L++[r],by simp;omega,by rw [show ((q-1:Nat):Int)=(q:Int)-1 by omega],own6,by simp;omega,TP.chg T ch1 (fun x hx=>by omega),Chg.trans kk (ch1.mono (fun x hx=>hx.1))⟩,by simp [intOf];omega⟩
  ·have R:=lH R
   go_wp2_with fail
   go_ret
   exact ⟨_,L,rfl,R.out⟩
section
variable {α:Type} {sz:Nat} {enc:α→List Value} {e:TypeId} {base:Nat} {w:World} {l:List α} {g n cap:Nat}
theorem OwnW.parts (h:OwnW sz enc e base w (.slice (some ⟨g,0,none⟩) n cap) l):∃ cur:Array Value,n=l.length∧base≤g∧w.heap[g]?=some (.cells cur e (0,0))∧n≤cap∧cap≤maxLen∧cap*sz≤cur.size∧cur.toList.take (n*sz)=l.flatMap enc∧(l.flatMap enc).length=n*sz:=by
 rcases h with ⟨h1,_⟩ | ⟨g',cap',cur,e1,e2,e3,e4,e5,e6,e7⟩
 ·cases h1
 ·obtain ⟨rfl,hLn,rfl⟩:g=g'∧n=l.length∧cap=cap':=by simpa using e1
  subst hLn
  exact ⟨cur,rfl,e2,e3,e4,e5,e6,e7,by have:=congrArg List.length e7;have hm:=Nat.mul_le_mul_right sz e4;have h0:cur.toList.length=cur.size:=Array.length_toList;rw [List.length_take,h0,Nat.min_eq_left (by omega)] at this;exact this.symm⟩
theorem OwnW.ofParts {cur:Array Value} (h1:n=l.length) (h2:base≤g) (h3:w.heap[g]?=some (.cells cur e (0,0))) (h4:n≤cap) (h5:cap≤maxLen) (h6:cap*sz≤cur.size) (h7:cur.toList.take (n*sz)=l.flatMap enc) (h8:(l.flatMap enc).length=n*sz) :
  OwnW sz enc e base w (.slice (some ⟨g,0,none⟩) n cap) l:=by
 subst h1
 exact .inr ⟨g,cap,cur,rfl,h2,h3,h4,h5,h6,h7⟩
theorem OwnW.setcD (h:OwnW sz enc e base w (.slice (some ⟨g,0,none⟩) n cap) l) (v:Value) {j:Nat} (hj:n*sz≤j) :
  OwnW sz enc e base (w.setCell ⟨g,j,none⟩ v) (.slice (some ⟨g,0,none⟩) n cap) l:=by
 obtain ⟨cur,a1,a2,a3,a4,a5,a6,a7,a8⟩:=h.parts
 exact OwnW.ofParts a1 a2 (heap_set a3 j v) a4 a5 (by simp [a6]) (by rw [← a7,Array.toList_setIfInBounds,List.take_set_of_le hj]) a8
theorem OwnW.setcsD:∀ (vs:List Value) (w:World) (j:Nat),n*sz≤j→OwnW sz enc e base w (.slice (some ⟨g,0,none⟩) n cap) l →
  OwnW sz enc e base (w.setCells g j vs) (.slice (some ⟨g,0,none⟩) n cap) l
 | [],_,_,_,h=>h
 | v::vs,w,j,hj,h=>OwnW.setcsD vs _ (j+1) (by omega) (h.setcD v hj)
theorem OwnW.cellC (h:OwnW sz enc e base w (.slice (some ⟨g,0,none⟩) n cap) l) {j:Nat} (hj:j<cap*sz):(w.cell? ⟨g,j,none⟩).isSome=true∧w.frozen? ⟨g,j,none⟩=false:=by
 obtain ⟨cur,a1,a2,a3,a4,a5,a6,a7,a8⟩:=h.parts
 have hsz:j<cur.size:=by omega
 exact ⟨by simp [World.cell?,a3,hsz],by simp [World.frozen?,a3]⟩
end
set_option maxRecDepth 100000 in
set_option maxHeartbeats 2000000 in
theorem exact_p (a:Option Addr) (n c:Nat) (N:List Nd) (a2:Option Addr) (n2 c2:Nat) (L:List Lkd) (hh:Int) (w:World) (h:Sl 3 encN w a n N) (hn:n≤1000) (hc:n≤c) (hm:c≤maxLen) (hw:∀ x∈N,x.word<4294967296) (hT:TabG w)
  (h2:LkL w a2 n2 L) (hn2:n2≤1000000) (hs:∀ c∈L,c.2.length≤9223372036854775807) :
  Calls Tryz.prog 28 #[.slice a n c,.slice a2 n2 c2,.int .i64 hh] w fun e w'=>e=.returned (.bool (exactI N L hh))∧Ex w w':=by
 have HS:=lH hs
 go_enter Tryz.func28,Tryz.ntmps28
 go_wp2_with fail
 (with_reducible refine (build_p _ _ _ N hh _ h hn hc hm hw hT).mono ?_)
 rintro e w1 ⟨v,qs,rfl,own,kk⟩
 replace h2:=h2.nx kk
 have K1:=lH kk
 obtain ⟨a3,c3,rfl,NLX,_,_,_,_⟩:=OwnN.nl (encA:=encI) (s1:=2) (s2:=2) (encB:=encS) (fun _=>rfl) (fun _=>rfl) own
 obtain ⟨B,hB⟩:∃ B,B=buildN N hh:=⟨_,rfl⟩
 have EI:Hid (exactI N L hh=(B.2==0&&decide (L=B.1))):=lH (by rw [hB];rfl)
 rw [← hB] at own NLX ⊢
 have H2:=lH h2
 have NX:=lH NLX
 clear hB own h kk h2 NLX
 obtain ⟨BL,be⟩:=B
 by_cases hbe:be=0
 ·subst hbe
  go_wp2_with fail
  (with_reducible refine (same_lp _ _ _ _ _ _ L BL _ H2.out NX.out hn2 HS.out).mono ?_)
  rintro e w2 ⟨rfl,kk⟩
  have K2:=lH (K1.out.nx kk)
  clear kk
  go_wp2_with fail
  go_ret
  exact ⟨by rw [EI.out];simp,K2.out⟩
 ·have d1:(be==0)=false:=by simpa using hbe
  go_wp2_with fail
  go_ret
  exact ⟨by rw [EI.out,d1];simp,K1.out⟩
end Go.Proofs.YthcholmhmcpooaaGreatDoor
