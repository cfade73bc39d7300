/- Shared texts. -/
import Derived.Test.YtalmjklljofhbaaDoorSdAll15
import Derived.Test.YtalmjklljofhbaaDoorSdAll19
set_option linter.unusedSimpArgs false
set_option linter.unusedVariables false

namespace Go.Proofs.YtalmjklljofhbaaDoor
open Go.RowKit Go.Shelf
theorem run_copy_cells2 {P:Program} (w:World) (dT sT ty elem:TypeId) (b o dLen dCap:Nat) (a:Addr) (sLen sCap:Nat) (cs:List Value)
  (hu:P.underlying dT=some (.slice elem)) (hs:(P.info? elem).map (·.size)=some 2) (k:Nat) (hk:k=Nat.min sLen dLen) (hn:cs.length=k*2)
  (hsrc:∀ j v,cs[j]?=some v→w.cell? (a.add j)=some v) (hc:∀ j,j<cs.length→(w.cell? ⟨b,o+j,none⟩).isSome=true) (hf:∀ j,j<cs.length→w.frozen? ⟨b,o+j,none⟩=false) (h1:∀ v∈cs,v.oneCell'=true) :
  (Builtin.copy_ #[dT,sT] ty #[.slice (some ⟨b,o,none⟩) dLen dCap,.slice (some a) sLen sCap]).run P w=.ok (goInt k) (w.setCells b o cs):=by
 have hl:=run_loadCells_list (P:=P) w a cs hsrc
 have hst:=run_storeCells_cells (P:=P) b o cs 0 w (by simpa using hc) (by simpa using hf) h1
 cases hq:P.info? elem with
 | none=>simp [hq] at hs
 | some i =>
  have hi:i.size=2:=by simpa [hq] using hs
  rw [hn] at hl
  simp [Builtin.copy_,run_underlying hu,Builtin.lenOf,Builtin.firstCells,sizeOf,typeInfo,hq,hi,← hk,hl,hst]
def InwPost (qs:List (Int×Hdr)) (i:Nat) (q:Int×Hdr) (v:Value) (base:Nat) (w:World) (e:Ending) (w':World):Prop :=
 ∃ v',e=.returned v'∧OwnW 2 (encP encI) 56 base w' v' (qs.take i++q::qs.drop i)∧Chg (fun x=>x<w.heap.size∧¬ v.ownBlock=some x) w w'
theorem enc2 (y:Int×Hdr):(encP encI y).length=2:=rfl
theorem enc2_one (y:Int×Hdr):∀ u∈encP encI y,u.oneCell'=true:=by simp [encP,encI,Hdr.val,Value.oneCell']
theorem chg_cells {g:Nat} {S:Nat→Prop} {w0:World} (hS:∀ x,S x→x≠g):∀ (vs:List Value) (w:World) (j:Nat),Chg S w0 w→Chg S w0 (w.setCells g j vs)
 | [],_,_,h=>h
 | v::vs,w,j,h=>chg_cells hS vs _ (j+1) (h.setCell (p:=⟨g,j,none⟩) v (fun k hk=>hS k hk))
theorem ins_cells {qs:List (Int×Hdr)} {q:Int×Hdr} {i:Nat} {cur:Array Value} {a:Array Value} (hi:i≤qs.length) (ha:a.toList.take (i*2)=(qs.take i).flatMap (encP encI)) (hs:(qs.length+1)*2≤a.size) :
  (arrSet (arrSet a ((i+1)*2) ((qs.drop i).flatMap (encP encI))) (i*2) (encP encI q)).toList.take ((qs.length+1)*2)=(qs.take i++q::qs.drop i).flatMap (encP encI) ∧
  (arrSet (arrSet a (i*2) (encP encI q)) ((i+1)*2) ((qs.drop i).flatMap (encP encI))).toList.take ((qs.length+1)*2)=(qs.take i++q::qs.drop i).flatMap (encP encI):=by
 have hd:((qs.drop i).flatMap (encP encI)).length=(qs.length-i)*2:=by rw [flatW_len enc2,List.length_drop]
 have hq:(encP encI q).length=2:=rfl
 have hal:a.toList.length=a.size:=Array.length_toList
 have hlt:(a.toList.take (i*2)).length=i*2:=by rw [List.length_take];omega
 have e:(qs.take i++q::qs.drop i).flatMap (encP encI)=a.toList.take (i*2)++(encP encI q++(qs.drop i).flatMap (encP encI)):=by
  rw [ha,List.flatMap_append,List.flatMap_cons]
 have tot:(a.toList.take (i*2)++(encP encI q++(qs.drop i).flatMap (encP encI))).length=(qs.length+1)*2:=by
  rw [List.length_append,List.length_append,hlt,hd,hq];omega
 rw [e]
 constructor
 ·rw [arrSet_list _ _ _ (by rw [arrSet_size,hq];omega),arrSet_list _ _ _ (by rw [hd];omega)]
  have l1:(a.toList.take ((i+1)*2)).length=(i+1)*2:=by rw [List.length_take];omega
  have r1:(a.toList.take ((i+1)*2)++(qs.drop i).flatMap (encP encI)++a.toList.drop ((i+1)*2+((qs.drop i).flatMap (encP encI)).length)).take (i*2)=a.toList.take (i*2):=by
   rw [List.append_assoc,List.take_append_of_le_length (by omega),List.take_take,Nat.min_eq_left (by omega)]
  have r2:(a.toList.take ((i+1)*2)++(qs.drop i).flatMap (encP encI)++a.toList.drop ((i+1)*2+((qs.drop i).flatMap (encP encI)).length)).drop (i*2+(encP encI q).length)=(qs.drop i).flatMap (encP encI)++a.toList.drop ((i+1)*2+((qs.drop i).flatMap (encP encI)).length):=by
   rw [List.append_assoc,List.drop_append_of_le_length (by omega),List.drop_of_length_le (by omega),List.nil_append]
  rw [r1,r2,List.append_assoc,← List.append_assoc (encP encI q),← List.append_assoc]
  rw [← tot,List.take_left']
  rfl
 ·rw [arrSet_list _ _ _ (by rw [arrSet_size,hd];omega),arrSet_list _ _ _ (by rw [hq];omega)]
  have r1:(a.toList.take (i*2)++encP encI q++a.toList.drop (i*2+(encP encI q).length)).take ((i+1)*2)=a.toList.take (i*2)++encP encI q:=by
   have:(a.toList.take (i*2)++encP encI q).length=(i+1)*2:=by rw [List.length_append,hlt,hq];omega
   rw [← this,List.take_left']
   rfl
  rw [r1,List.append_assoc (a.toList.take (i*2)),← tot,List.take_left']
  rfl
theorem own_row {qs:List (Int×Hdr)} {base g cap:Nat} {w:World} {cur:Array Value} {n:Nat} (hn:qs.length=n) (hb:base≤g) (hg:w.heap[g]?=some (.cells cur 56 (0,0))) (h1:n≤cap) (h2:cap≤maxLen) (h3:cap*2≤cur.size)
  (h4:cur.toList.take (n*2)=qs.flatMap (encP encI)):OwnW 2 (encP encI) 56 base w (.slice (some ⟨g,0,none⟩) n cap) qs:=by
 subst hn
 exact .inr ⟨g,cap,cur,rfl,hb,hg,h1,h2,h3,h4⟩
theorem ins_length {qs:List (Int×Hdr)} {q:Int×Hdr} {i:Nat} (hi:i≤qs.length):(qs.take i++q::qs.drop i).length=qs.length+1:=by
 rw [List.length_append,List.length_take,List.length_cons,List.length_drop];omega
theorem Tryd.sizeLd (w:World):(sizeOf 56).run Tryd.prog w=.ok 2 w:=by kernel_rfl
theorem Tryd.szLd:(Tryd.prog.info? 56).map (·.size)=some 2:=by kernel_rfl
set_option maxRecDepth 100000 in
set_option maxHeartbeats 4000000 in
theorem insert_lk (v:Value) (qs:List (Int×Hdr)) (base i:Nat) (q:Int×Hdr) (g:Nat) (w:World) (own:OwnW 2 (encP encI) 56 base w v qs) (hb:base≤w.heap.size) (hl:qs.length≤1000) (hi:i≤qs.length)
  (B:Blk w g [.int .i64 q.1,q.2.val] 56) (hne:¬ v.ownBlock=some g) :
  Calls Tryd.prog 37 #[v,.int .i64 i,.slice (some ⟨g,0,none⟩) 1 1] w (InwPost qs i q v base w):=by
 have hgl:=B.lt
 have SQ:Sl 2 (encP encI) w (some ⟨g,0,none⟩) 1 [q]:=⟨rfl,.inr ⟨g,0,rfl,hgl,fun j y hj k u hk=>by
  obtain rfl:j=0:=by have:=(List.getElem?_eq_some_iff.1 hj).1;simpa using this
  cases hj
  have:=B.cell k u hk
  simpa using this⟩⟩
 by_cases hin:i=qs.length
 ·subst hin
  have EQ:Hid (qs.take qs.length++q::qs.drop qs.length=qs++[q]):=lH (by rw [List.take_length,List.drop_length])
  have OW:=lH own
  have HSQ:=lH SQ
  rcases own with ⟨rfl,rfl⟩ | ⟨g0,cap,cur,rfl,hb0,hg,h1,h2,h3,h4⟩
  ·clear B SQ hne
   go_enter Tryd.func37,Tryd.ntmps37
   go_wp2_with (at_builtin;(refine wpList_append_W (enc:=encP encI) _ rfl _ _ 29 rfl base 56 (.agg #[.int .i64 0,.slice none 0 0]) 2 32 Tryd.underlying29 Tryd.infoLd rfl (by omega) (by omega) _ [] OW.out rfl ⟨g,0,none⟩ 1 1 [q] HSQ.out enc2 enc2_one rfl (by simp) (by omega) hb ?_);intro v' w' own' ch0 ch1 _)
   go_ret
   exact ⟨_,rfl,by simpa using own',ch0⟩
  ·have hm63:cap≤9223372036854775807:=by unfold maxLen at h2;omega
   clear B SQ hne h3 h4 hg hb0
   go_enter Tryd.func37,Tryd.ntmps37
   go_wp2_with (at_builtin;(refine wpList_append_W (enc:=encP encI) _ rfl _ _ 29 rfl base 56 (.agg #[.int .i64 0,.slice none 0 0]) 2 32 Tryd.underlying29 Tryd.infoLd rfl (by omega) (by omega) _ qs OW.out rfl ⟨g,0,none⟩ 1 1 [q] HSQ.out enc2 enc2_one rfl (by omega) (by omega) hb ?_);intro v' w' own' ch0 ch1 _)
   all_goals (go_ret;exact ⟨_,rfl,by rw [EQ.out];exact own',ch0⟩)
 ·have hlt:i<qs.length:=by omega
  rcases own with ⟨_,rfl⟩ | ⟨g0,cap,cur,rfl,hb0,hg,h1,h2,h3,h4⟩
  ·exact absurd hlt (by simp)
  obtain ⟨n,hnq⟩:∃ n,n=qs.length:=⟨_,rfl⟩
  have HNQ:=lH hnq
  have INS:=lH (fun (a:Array Value) ha hs=>ins_cells (qs:=qs) (q:=q) (i:=i) (cur:=cur) (a:=a) hi ha hs)
  have ILEN:=lH (ins_length (q:=q) hi)
  have hfl:(qs.flatMap (encP encI)).length=n*2:=by rw [flatW_len enc2,hnq]
  have hdf:(qs.drop i).flatMap (encP encI)=(qs.flatMap (encP encI)).drop (i*2):=flatN_drop enc2 qs i
  have htf:(qs.take i).flatMap (encP encI)=(qs.flatMap (encP encI)).take (i*2):=flatN_take enc2 qs i
  rw [← hnq] at h1 h4 hlt hl hi hin ILEN INS ⊢
  have hm63:cap≤9223372036854775807:=by unfold maxLen at h2;omega
  have hne0:g≠g0:=fun h=>hne (by rw [h];rfl)
  have hcs:∀ (j:Nat) (x:Value),(qs.flatMap (encP encI))[j]?=some x→w.cell? ⟨g0,j,none⟩=some x:=fun j x hj=>by
   rw [World.cell?,hg]
   rw [← h4,List.getElem?_take] at hj
   split at hj
   ·simpa using hj
   ·cases hj
  have hfz:∀ j,w.frozen? ⟨g0,j,none⟩=false:=fun j=>by simp [World.frozen?,hg]
  have hsp:∀ j,j<cap*2→(w.cell? ⟨g0,j,none⟩).isSome=true:=fun j hj=>by
   have:j<cur.size:=by omega
   simp [World.cell?,hg,this]
  have hvs:∀ (j:Nat) (x:Value),(encP encI q)[j]?=some x→w.cell? ⟨g,j,none⟩=some x:=fun j x hj=>B.cell j x hj
  obtain ⟨dr,hdr⟩:∃ dr,dr=(qs.drop i).flatMap (encP encI):=⟨_,rfl⟩
  have hdl:dr.length=(n-i)*2:=by rw [hdr,flatW_len enc2,List.length_drop,hnq]
  have h1d:∀ x∈dr,x.oneCell'=true:=fun x hx=>by
   rw [hdr] at hx
   obtain ⟨y,_,hy⟩:=List.mem_flatMap.1 hx
   exact enc2_one y x hy
  have hds:∀ (j:Nat) (x:Value),dr[j]?=some x→w.cell? ⟨g0,i*2+j,none⟩=some x:=fun j x hj=>by
   rw [hdr,hdf,List.getElem?_drop] at hj
   exact hcs _ x hj
  have hz2:¬ ((i:Int)=(n:Int)):=by omega
  have hii:(i:Int)≤(n:Int):=by omega
  have hwi:IntKind.i64.wrap ((i:Int)+1)=(i:Int)+1:=IntWalk.i64_in _ (by omega)
  have hwn:IntKind.i64.wrap ((n:Int)+1)=(n:Int)+1:=IntWalk.i64_in _ (by omega)
  have hb1:(0:Int)≤(i:Int)+1:=by omega
  have htn:((i:Int)+1).toNat=i+1:=by omega
  have htn2:((n:Int)+1).toNat=n+1:=by omega
  have hb3:(i:Int)≤(n:Int)+1:=by omega
  have hb3b:(i:Int)+1≤(n:Int)+1:=by omega
  have hb4:¬ (cap=i):=by omega
  rw [← hdr] at INS
  have mixed:Tryd.prog.follows .mixedOrders=true:=by kernel_rfl
  by_cases hroom:n+1≤cap
  ·have hrI:¬ (n:Int)+1>(cap:Int):=by omega
   have hb2:¬ (cap=i+1):=by omega
   have hsa:w.shape? g=some (56,2):=by have:=B;unfold Blk at this;simp [World.shape?,this]
   have hsb:w.shape? g0=some (56,cur.size):=by simp [World.shape?,hg]
   have hov:∀ lb cb,(callFunc 65 #[.slice (some ⟨g,0,none⟩) 1 1,.slice (some ⟨g0,(i+1)*2,none⟩) lb cb]).run Tryd.prog w=.ok (.value (.bool false)) w:=fun lb cb=>by
    rw [run_callFunc_extern Tryd.func65 (by kernel_rfl) (by kernel_rfl) (by kernel_rfl) (e:=Extern.SlicesOverlaps.overlaps #[29,29] #[4]) (by kernel_rfl),
     Lib.run_overlaps_apart w 29 4 56 Tryd.underlying29 2 Tryd.sizeLd ⟨g,0,none⟩ ⟨g0,(i+1)*2,none⟩ 1 1 lb cb hne0 56 56 2 cur.size hsa hsb (by omega) (B.free 0) (B.free 2)]
    rfl
   have hcp1:∀ ty dc sc,(Builtin.copy_ #[29,29] ty #[.slice (some ⟨g0,(i+1)*2,none⟩) (n-i) dc,.slice (some ⟨g0,i*2,none⟩) (n+1-i) sc]).run Tryd.prog w.drew=.ok (goInt (n-i:Nat)) (w.drew.setCells g0 ((i+1)*2) dr):=fun ty dc sc =>
    run_copy_cells2 w.drew _ _ ty 56 g0 ((i+1)*2) (n-i) dc ⟨g0,i*2,none⟩ (n+1-i) sc dr Tryd.underlying29 Tryd.szLd (n-i) (by simp only [Nat.min_def];split<;>omega) hdl
     (fun j x hj=>by rw [Addr.add_lit];exact hds j x hj) (fun j hj=>hsp _ (by omega)) (fun j hj=>hfz _) h1d
   obtain ⟨W1,hW1⟩:∃ W1,W1=w.drew.setCells g0 ((i+1)*2) dr:=⟨_,rfl⟩
   have hsp1:∀ k,k<(n+1)*2→(W1.cell? ⟨g0,k,none⟩).isSome=true:=fun k hk=>by
    rw [hW1]
    exact isSome_setCells g0 dr ((i+1)*2) w.drew (fun j hj=>hsp _ (by omega)) _ (hsp k (by omega))
   have hcp2:∀ (W:World),(∀ x,W.cell? x=W1.cell? x)→(∀ x,W.frozen? x=W1.frozen? x)→∀ ty dc,(Builtin.copy_ #[29,29] ty #[.slice (some ⟨g0,i*2,none⟩) (n+1-i) dc,.slice (some ⟨g,0,none⟩) 1 1]).run Tryd.prog W=.ok (goInt (1:Nat)) (W.setCells g0 (i*2) (encP encI q)):=fun W hWc hWf ty dc =>
    run_copy_cells2 W _ _ ty 56 g0 (i*2) (n+1-i) dc ⟨g,0,none⟩ 1 1 (encP encI q) Tryd.underlying29 Tryd.szLd 1 (by simp only [Nat.min_def];split<;>omega) rfl
     (fun j x hj=>by
      rw [Addr.add_lit,hWc,hW1,World.cell?_setCells_out g0 _ _ _ _ (fun h _=>absurd h hne0),Nat.zero_add]
      exact hvs j x hj)
     (fun j hj=>by rw [hWc];exact hsp1 _ (by have:(encP encI q).length=2:=rfl;omega)) (fun j hj=>by rw [hWf,hW1,World.frozen?_setCells];exact hfz _) (enc2_one q)
   have FIN:=lH (show InwPost qs i q (.slice (some ⟨g0,0,none⟩) n cap) base w (.returned (.slice (some ⟨g0,0,none⟩) (n+1) cap)) (W1.setCells g0 (i*2) (encP encI q)) from by
    rw [hW1]
    have hh:=heap_setCells (encP encI q) _ _ (i*2) (heap_setCells dr w.drew cur ((i+1)*2) hg)
    refine ⟨_,rfl,own_row (by rw [ILEN.out]) hb0 hh (by omega) h2 (by rw [arrSet_size,arrSet_size];exact h3) (INS.out cur (by rw [htf,← h4,List.take_take,Nat.min_eq_left (by omega)]) (by omega)).1,?_⟩
    have hS:∀ x,(x<w.heap.size∧¬ (Value.slice (some ⟨g0,0,none⟩) n cap).ownBlock=some x)→x≠g0:=fun x hx he=>hx.2 (by rw [he];rfl)
    exact chg_cells hS _ _ _ (chg_cells hS _ _ _ (Chg.refl _ w).drew))
   rw [← hW1] at hcp1
   clear hcs hds hvs hsp hfz hsp1 B SQ hne hg h3 h4 hfl hdf htf hdl h1d hdr hsa hsb INS ILEN hnq hW1
   go_enter Tryd.func37,Tryd.ntmps37
   go_wp2_with (simp only [hov])
   go_region_law_o (refine step_copy_runI rfl _ _ 29 29 rfl _ _ (by simp [Act.eval,Act.put]) (by simp [Act.eval,Act.put]) (hcp1 _ _ _) ?_)
   go_wp2_with (at_builtin;refine wpList_copy_runI _ rfl _ _ 29 29 rfl _ _ rfl rfl (hcp2 _ (fun _=>rfl) (fun _=>rfl) _ _) ?_)
   go_ret
   exact FIN.out
  ·have hcap:cap=n:=by omega
   have hrI:(n:Int)+1>(cap:Int):=by omega
   subst hcap
   have hz3:(cap:Int)<(cap:Int)+1:=by omega
   obtain ⟨i0,hi0,hz0,hzs,hzb⟩:=info_parts Tryd.infoLd
   have hbw:g0<w.heap.size:=heap_lt hg
   have hkk:(cap:Int)+1-(i:Int)=((cap+1-i:Nat):Int):=by omega
   have hwk:IntKind.i64.wrap ((cap:Int)+1-(i:Int))=(cap:Int)+1-(i:Int):=IntWalk.i64_in _ (by omega)
   have hik:i+(cap+1-i)=cap+1:=by omega
   obtain ⟨tr,htr⟩:∃ tr,tr=(qs.take i).flatMap (encP encI):=⟨_,rfl⟩
   have htl:tr.length=i*2:=by rw [htr,flatW_len enc2,List.length_take];omega
   have hold:(Builtin.firstCells i0.size i (.slice (some ⟨g0,0,none⟩) i cap)).run Tryd.prog w.drew=.ok tr.toArray w.drew:=by
    rw [hzs]
    exact run_firstCells_some w.drew 2 i ⟨g0,0,none⟩ i cap tr htl (fun j x hj=>by
     rw [Addr.add_lit,Nat.zero_add]
     rw [htr,htf,List.getElem?_take] at hj
     split at hj
     ·exact hcs j x hj
     ·cases hj)
   have hrz:∀ ty,(Builtin.append_ #[29,3] ty #[.slice (some ⟨g0,0,none⟩) i cap,.int .i64 ((cap:Int)+1-(i:Int))]).run Tryd.prog w =
     .ok (.slice (some ⟨w.heap.size,0,none⟩) (cap+1) (grownCap w (cap+1) cap 56)) (w.drew.alloc (.cells (tr.toArray++Builtin.zeroCells (Value.agg #[.int .i64 0,.slice none 0 0]).cells (cap+1-i)++Builtin.zeroCells (Value.agg #[.int .i64 0,.slice none 0 0]).cells (grownCap w (cap+1) cap 56-(cap+1))) 56)):=fun ty=>by
    have h:=Lib.run_append_grow_zeros w 29 3 ty 56 i0 _ .i64 .i64 Tryd.underlying29 Tryd.underlying3 hi0 hz0 (some ⟨g0,0,none⟩) i cap tr hold (cap+1-i) (by omega) (by omega) (by omega) (by omega) (by rw [hzb];omega) (by rw [hzb,hik];exact growslice_fits (by omega) (by omega))
    rw [hik] at h
    rw [hkk]
    exact h
   obtain ⟨G,hG⟩:∃ G,G=grownCap w (cap+1) cap 56:=⟨_,rfl⟩
   obtain ⟨ROW,hROW⟩:∃ ROW:Array Value,ROW=tr.toArray++Builtin.zeroCells (Value.agg #[.int .i64 0,.slice none 0 0]).cells (cap+1-i)++Builtin.zeroCells (Value.agg #[.int .i64 0,.slice none 0 0]).cells (G-(cap+1)):=⟨_,rfl⟩
   rw [← hG] at hrz
   rw [← hROW] at hrz
   have hGn:cap+1≤G:=by rw [hG];exact grownCap_ge w _ _ _
   have hGm:G≤maxLen:=by rw [hG];exact grownCap_le_maxLen w (cap+1) cap 56 (by unfold maxLen;omega)
   have hzc:(Value.agg #[.int .i64 0,.slice none 0 0]).cells.size=2:=rfl
   have hRs:ROW.size=G*2:=by
    rw [hROW]
    simp only [Array.size_append,List.size_toArray,size_zeroCells,hzc,htl]
    omega
   have hRt:ROW.toList.take (i*2)=(qs.take i).flatMap (encP encI):=by
    rw [← htr,hROW]
    simp only [Array.toList_append,List.append_assoc]
    rw [← htl,List.take_left']
    rfl
   obtain ⟨W1,hW1⟩:∃ W1,W1=w.drew.alloc (.cells ROW 56):=⟨_,rfl⟩
   rw [← hW1] at hrz
   have hN:∀ j,j<(cap+1)*2→(W1.cell? ⟨w.heap.size,j,none⟩).isSome=true:=fun j hj=>by
    rw [hW1,World.cell?_alloc_at (w:=w.drew) ROW _ w.heap.size j rfl,Array.getElem?_eq_getElem (by omega)];rfl
   have hNf:∀ j,W1.frozen? ⟨w.heap.size,j,none⟩=false:=fun j=>by rw [hW1];exact World.frozen?_alloc_at (w:=w.drew) ROW _ w.heap.size j rfl
   have hOb:∀ j v,w.cell? ⟨g0,j,none⟩=some v→W1.cell? ⟨g0,j,none⟩=some v:=fun j v h=>by rw [hW1,World.cell?_alloc_past (w:=w.drew) _ g0 j hbw];exact h
   have hOv:∀ j v,w.cell? ⟨g,j,none⟩=some v→W1.cell? ⟨g,j,none⟩=some v:=fun j v h=>by rw [hW1,World.cell?_alloc_past (w:=w.drew) _ g j hgl];exact h
   have hql:(encP encI q).length=2:=rfl
   have hcpA:∀ (W:World),(∀ x,W.cell? x=W1.cell? x)→(∀ x,W.frozen? x=W1.frozen? x)→∀ ty dc,(Builtin.copy_ #[29,29] ty #[.slice (some ⟨w.heap.size,i*2,none⟩) (cap+1-i) dc,.slice (some ⟨g,0,none⟩) 1 1]).run Tryd.prog W=.ok (goInt (1:Nat)) (W.setCells w.heap.size (i*2) (encP encI q)):=fun W hWc hWf ty dc =>
    run_copy_cells2 W _ _ ty 56 w.heap.size (i*2) (cap+1-i) dc ⟨g,0,none⟩ 1 1 (encP encI q) Tryd.underlying29 Tryd.szLd 1 (by simp only [Nat.min_def];split<;>omega) rfl
     (fun j x hj=>by rw [Addr.add_lit,hWc,Nat.zero_add];exact hOv _ x (hvs j x hj))
     (fun j hj=>by rw [hWc];exact hN _ (by omega)) (fun j hj=>by rw [hWf];exact hNf _) (enc2_one q)
   have hGi:¬ (G=i):=by omega
   have hGim:¬ (G=i+1):=by omega
   have hbN:g0≠w.heap.size:=by omega
   have hcpB:∀ (W:World),(∀ x,W.cell? x=(W1.setCells w.heap.size (i*2) (encP encI q)).cell? x)→(∀ x,W.frozen? x=(W1.setCells w.heap.size (i*2) (encP encI q)).frozen? x)→∀ ty dc sc,(Builtin.copy_ #[29,29] ty #[.slice (some ⟨w.heap.size,(i+1)*2,none⟩) (cap-i) dc,.slice (some ⟨g0,i*2,none⟩) (cap-i) sc]).run Tryd.prog W=.ok (goInt (cap-i:Nat)) (W.setCells w.heap.size ((i+1)*2) dr):=fun W hWc hWf ty dc sc =>
    run_copy_cells2 W _ _ ty 56 w.heap.size ((i+1)*2) (cap-i) dc ⟨g0,i*2,none⟩ (cap-i) sc dr Tryd.underlying29 Tryd.szLd (cap-i) (by simp) hdl
     (fun j x hj=>by
      rw [Addr.add_lit,hWc,World.cell?_setCells_out _ _ _ _ _ (fun h _=>absurd h hbN)]
      exact hOb _ x (hds j x hj))
     (fun j hj=>by rw [hWc];exact isSome_setCells w.heap.size (encP encI q) (i*2) W1 (fun t ht=>hN _ (by omega)) _ (hN _ (by omega)))
     (fun j hj=>by rw [hWf,World.frozen?_setCells];exact hNf _) h1d
   have FIN:=lH (fun (W:World) (hW:W=((W1.setCells w.heap.size (i*2) (encP encI q)).drew.setCells w.heap.size ((i+1)*2) dr)∨W=((w.alloc (.cells ROW 56)).drew.setCells w.heap.size (i*2) (encP encI q)).drew.setCells w.heap.size ((i+1)*2) dr) =>
    show InwPost qs i q (.slice (some ⟨g0,0,none⟩) cap cap) base w (.returned (.slice (some ⟨w.heap.size,0,none⟩) (cap+1) G)) W from by
    have hS:∀ x,(x<w.heap.size∧¬ (Value.slice (some ⟨g0,0,none⟩) cap cap).ownBlock=some x)→x≠w.heap.size:=fun x hx he=>by omega
    have hA:(arrSet (arrSet ROW (i*2) (encP encI q)) ((i+1)*2) dr).size=G*2:=by rw [arrSet_size,arrSet_size];exact hRs
    have hw1:(w.alloc (.cells ROW 56)).drew.heap[w.heap.size]?=some (.cells ROW 56 (0,0)):=heap_new w _
    rcases hW with rfl | rfl
    ·have hw1':W1.heap[w.heap.size]?=some (.cells ROW 56 (0,0)):=by rw [hW1];exact hw1
     have hh:=heap_setCells dr (W1.setCells w.heap.size (i*2) (encP encI q)).drew _ ((i+1)*2) (heap_setCells (encP encI q) _ _ (i*2) hw1')
     refine ⟨_,rfl,own_row (by rw [ILEN.out]) hb hh (by omega) hGm (by rw [hA];exact Nat.le_refl _) (INS.out ROW hRt (by omega)).2,?_⟩
     refine chg_cells hS _ _ _ (Chg.drew (chg_cells hS _ _ _ ?_))
     rw [hW1]
     exact ((Chg.refl _ w).drew).alloc _ (fun k hk=>hk.1)
    ·have hh:=heap_setCells dr ((w.alloc (.cells ROW 56)).drew.setCells w.heap.size (i*2) (encP encI q)).drew _ ((i+1)*2) (heap_setCells (encP encI q) _ _ (i*2) hw1)
     refine ⟨_,rfl,own_row (by rw [ILEN.out]) hb hh (by omega) hGm (by rw [hA];exact Nat.le_refl _) (INS.out ROW hRt (by omega)).2,?_⟩
     refine chg_cells hS _ _ _ (Chg.drew (chg_cells hS _ _ _ ?_))
     exact ((Chg.refl _ w).alloc _ (fun k hk=>hk.1)).drew)
   clear hcs hds hvs hsp hfz B SQ hne hg h3 h4 hfl hdf htf hdl h1d hdr INS ILEN hnq hkk hik hold hROW hG hRs hRt htr htl hN hNf hOb hOv
   subst hW1
   have hE1:∀ x,((w.alloc (.cells ROW 56)).drew).cell? x=(w.drew.alloc (.cells ROW 56)).cell? x:=fun x=>rfl
   have hE2:∀ x,((w.alloc (.cells ROW 56)).drew).frozen? x=(w.drew.alloc (.cells ROW 56)).frozen? x:=fun x=>rfl
   have hF1:∀ x,(((w.alloc (.cells ROW 56)).drew.setCells w.heap.size (i*2) (encP encI q)).drew).cell? x=((w.drew.alloc (.cells ROW 56)).setCells w.heap.size (i*2) (encP encI q)).cell? x:=fun x=>rfl
   have hF2:∀ x,(((w.alloc (.cells ROW 56)).drew.setCells w.heap.size (i*2) (encP encI q)).drew).frozen? x=((w.drew.alloc (.cells ROW 56)).setCells w.heap.size (i*2) (encP encI q)).frozen? x:=fun x=>rfl
   go_enter Tryd.func37,Tryd.ntmps37
   go_wp2_with (first
    | (at_builtin;refine Lib.wpList_append_run _ rfl _ _ _ _ rfl _ _ rfl rfl _ _ (hrz _) ?_)
    | (at_builtin;refine wpList_copy_runI _ rfl _ _ 29 29 rfl _ _ rfl rfl (hcpA _ hE1 hE2 _ _) ?_)
    | (at_builtin;refine wpList_copy_runI _ rfl _ _ 29 29 rfl _ _ rfl rfl (hcpB _ (fun _=>rfl) (fun _=>rfl) _ _ _) ?_))
   go_region_law_o (refine step_copy_runI rfl _ _ 29 29 rfl (.slice (some ⟨w.heap.size,(i+1)*2,none⟩) (cap-i) (G-(i+1))) (.slice (some ⟨g0,i*2,none⟩) (cap-i) (cap-i)) (by simp [Act.eval,Act.put]) (by simp [Act.eval,Act.put]) (hcpB _ hF1 hF2 3 (G-(i+1)) (cap-i)) ?_)
   go_wp2
   go_ret
   first | exact FIN.out _ (.inl rfl) | exact FIN.out _ (.inr rfl)
end Go.Proofs.YtalmjklljofhbaaDoor
