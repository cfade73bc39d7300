/- Shared texts. -/
import Derived.Test.YtalmjklljofhbaaGreatDoorSxAll18
import Derived.Test.YtalmjklljofhbaaGreatDoorSxAll21
set_option linter.unusedSimpArgs false
set_option linter.unusedVariables false

namespace Go.Proofs.YtalmjklljofhbaaGreatDoor
open Go.RowKit Go.Shelf
theorem run_copy_cells2 {P:Program} (w:World) (dT sT ty elem:TypeId) (b o dLen dCap:Nat) (a:Addr) (sLen sCap:Nat) (cs:List Value)
  (hu:P.underlying dT=some (.slice elem)) (hs:(P.info? elem).map (·.size)=some 2) (k:Nat) (hk:k=Nat.min sLen dLen) (hn:cs.length=k*2)
  (hsrc:∀ j v,cs[j]?=some v→w.cell? (a.add j)=some v) (hc:∀ j,j<cs.length→(w.cell? ⟨b,o+j,none⟩).isSome=true) (hf:∀ j,j<cs.length→w.frozen? ⟨b,o+j,none⟩=false) (h1:∀ v∈cs,v.oneCell'=true) :
  (Builtin.copy_ #[dT,sT] ty #[.slice (some ⟨b,o,none⟩) dLen dCap,.slice (some a) sLen sCap]).run P w=.ok (goInt k) (w.setCells b o cs):=by
 have hl:=run_loadCells_list (P:=P) w a cs hsrc
 have hst:=run_storeCells_cells (P:=P) b o cs 0 w (by simpa using hc) (by simpa using hf) h1
 cases hq:P.info? elem with
 | none=>simp [hq] at hs
 | some i =>
  have hi:i.size=2:=by simpa [hq] using hs
  rw [hn] at hl
  simp [Builtin.copy_,run_underlying hu,Builtin.lenOf,Builtin.firstCells,sizeOf,typeInfo,hq,hi,← hk,hl,hst]
def InwPost (qs:List (Int×Hdr)) (i:Nat) (q:Int×Hdr) (v:Value) (base:Nat) (w:World) (e:Ending) (w':World):Prop :=
 ∃ v',e=.returned v'∧OwnW 2 (encP encI) 84 base w' v' (qs.take i++q::qs.drop i)∧Chg (fun x=>x<w.heap.size∧¬ v.ownBlock=some x) w w'
theorem enc2 (y:Int×Hdr):(encP encI y).length=2:=rfl
theorem enc2_one (y:Int×Hdr):∀ u∈encP encI y,u.oneCell'=true:=by simp [encP,encI,Hdr.val,Value.oneCell']
theorem chg_cells {g:Nat} {S:Nat→Prop} {w0:World} (hS:∀ x,S x→x≠g):∀ (vs:List Value) (w:World) (j:Nat),Chg S w0 w→Chg S w0 (w.setCells g j vs)
 | [],_,_,h=>h
 | v::vs,w,j,h=>chg_cells hS vs _ (j+1) (h.setCell (p:=⟨g,j,none⟩) v (fun k hk=>hS k hk))
theorem ins_cells {qs:List (Int×Hdr)} {q:Int×Hdr} {i:Nat} {cur:Array Value} {a:Array Value} (hi:i≤qs.length) (ha:a.toList.take (i*2)=(qs.take i).flatMap (encP encI)) (hs:(qs.length+1)*2≤a.size) :
  (arrSet (arrSet a ((i+1)*2) ((qs.drop i).flatMap (encP encI))) (i*2) (encP encI q)).toList.take ((qs.length+1)*2)=(qs.take i++q::qs.drop i).flatMap (encP encI) ∧
  (arrSet (arrSet a (i*2) (encP encI q)) ((i+1)*2) ((qs.drop i).flatMap (encP encI))).toList.take ((qs.length+1)*2)=(qs.take i++q::qs.drop i).flatMap (encP encI):=by
 have hd:((qs.drop i).flatMap (encP encI)).length=(qs.length-i)*2:=by rw [flatW_len enc2,List.length_drop]
 have hq:(encP encI q).length=2:=rfl
 have hal:a.toList.length=a.size:=Array.length_toList
 have hlt:(a.toList.take (i*2)).length=i*2:=by rw [List.length_take];omega
 have e:(qs.take i++q::qs.drop i).flatMap (encP encI)=a.toList.take (i*2)++(encP encI q++(qs.drop i).flatMap (encP encI)):=by
  rw [ha,List.flatMap_append,List.flatMap_cons]
 have tot:(a.toList.take (i*2)++(encP encI q++(qs.drop i).flatMap (encP encI))).length=(qs.length+1)*2:=by
  rw [List.length_append,List.length_append,hlt,hd,hq];omega
 rw [e]
 constructor
 ·rw [arrSet_list _ _ _ (by rw [arrSet_size,hq];omega),arrSet_list _ _ _ (by rw [hd];omega)]
  have l1:(a.toList.take ((i+1)*2)).length=(i+1)*2:=by rw [List.length_take];omega
  have r1:(a.toList.take ((i+1)*2)++(qs.drop i).flatMap (encP encI)++a.toList.drop ((i+1)*2+((qs.drop i).flatMap (encP encI)).length)).take (i*2)=a.toList.take (i*2):=by
   rw [List.append_assoc,List.take_append_of_le_length (by omega),List.take_take,Nat.min_eq_left (by omega)]
  have r2:(a.toList.take ((i+1)*2)++(qs.drop i).flatMap (encP encI)++a.toList.drop ((i+1)*2+((qs.drop i).flatMap (encP encI)).length)).drop (i*2+(encP encI q).length)=(qs.drop i).flatMap (encP encI)++a.toList.drop ((i+1)*2+((qs.drop i).flatMap (encP encI)).length):=by
   rw [List.append_assoc,List.drop_append_of_le_length (by omega),List.drop_of_length_le (by omega),List.nil_append]
  rw [r1,r2,List.append_assoc,← List.append_assoc (encP encI q),← List.append_assoc]
  rw [← tot,List.take_left']
  rfl
 ·rw [arrSet_list _ _ _ (by rw [arrSet_size,hd];omega),arrSet_list _ _ _ (by rw [hq];omega)]
  have r1:(a.toList.take (i*2)++encP encI q++a.toList.drop (i*2+(encP encI q).length)).take ((i+1)*2)=a.toList.take (i*2)++encP encI q:=by
   have:(a.toList.take (i*2)++encP encI q).length=(i+1)*2:=by rw [List.length_append,hlt,hq];omega
   rw [← this,List.take_left']
   rfl
  rw [r1,List.append_assoc (a.toList.take (i*2)),← tot,List.take_left']
  rfl
theorem own_row {qs:List (Int×Hdr)} {base g cap:Nat} {w:World} {cur:Array Value} {n:Nat} (hn:qs.length=n) (hb:base≤g) (hg:w.heap[g]?=some (.cells cur 84 (0,0))) (h1:n≤cap) (h2:cap≤maxLen) (h3:cap*2≤cur.size)
  (h4:cur.toList.take (n*2)=qs.flatMap (encP encI)):OwnW 2 (encP encI) 84 base w (.slice (some ⟨g,0,none⟩) n cap) qs:=by
 subst hn
 exact .inr ⟨g,cap,cur,rfl,hb,hg,h1,h2,h3,h4⟩
theorem ins_length {qs:List (Int×Hdr)} {q:Int×Hdr} {i:Nat} (hi:i≤qs.length):(qs.take i++q::qs.drop i).length=qs.length+1:=by
 rw [List.length_append,List.length_take,List.length_cons,List.length_drop];omega
theorem Tryz.sizeLd (w:World):(sizeOf 84).run Tryz.prog w=.ok 2 w:=by kernel_rfl
theorem Tryz.szLd:(Tryz.prog.info? 84).map (·.size)=some 2:=by kernel_rfl
set_option maxRecDepth 100000 in
set_option maxHeartbeats 4000000 in
theorem insert_lk (v:Value) (qs:List (Int×Hdr)) (base i:Nat) (q:Int×Hdr) (g:Nat) (w:World) (own:OwnW 2 (encP encI) 84 base w v qs) (hb:base≤w.heap.size) (hl:qs.length≤1000) (hi:i≤qs.length)
  (B:Blk w g [.int .i64 q.1,q.2.val] 84) (hne:¬ v.ownBlock=some g) :
  Calls Tryz.prog 53 #[v,.int .i64 i,.slice (some ⟨g,0,none⟩) 1 1] w (InwPost qs i q v base w):=by
 have hgl:=B.lt
 have SQ:Sl 2 (encP encI) w (some ⟨g,0,none⟩) 1 [q]:=⟨rfl,.inr ⟨g,0,rfl,hgl,fun j y hj k u hk=>by
  obtain rfl:j=0:=by have:=(List.getElem?_eq_some_iff.1 hj).1;simpa using this
  cases hj
  have:=B.cell k u hk
  simpa using this⟩⟩
 by_cases hin:i=qs.length
 ·subst hin
  have EQ:Hid (qs.take qs.length++q::qs.drop qs.length=qs++[q]):=lH (by rw [List.take_length,List.drop_length])
  have OW:=lH own
  have HSQ:=lH SQ
  rcases own with ⟨rfl,rfl⟩ | ⟨g0,cap,cur,rfl,hb0,hg,h1,h2,h3,h4⟩
  ·clear B SQ hne
   go_enter Tryz.func53,Tryz.ntmps53
   go_wp2_with (at_builtin;(refine wpList_append_W (enc:=encP encI) _ rfl _ _ 50 rfl base 84 (.agg #[.int .i64 0,.slice none 0 0]) 2 32 Tryz.underlying50 Tryz.infoLd rfl (by omega) (by omega) _ [] OW.out rfl ⟨g,0,none⟩ 1 1 [q] HSQ.out enc2 enc2_one rfl (by simp) (by omega) hb ?_);intro v' w' own' ch0 ch1 _)
   go_ret
   exact ⟨_,rfl,by simpa using own',ch0⟩
  ·have hm63:cap≤9223372036854775807:=by unfold maxLen at h2;omega
   clear B SQ hne h3 h4 hg hb0
   go_enter Tryz.func53,Tryz.ntmps53
   go_wp2_with (at_builtin;(refine wpList_append_W (enc:=encP encI) _ rfl _ _ 50 rfl base 84 (.agg #[.int .i64 0,.slice none 0 0]) 2 32 Tryz.underlying50 Tryz.infoLd rfl (by omega) (by omega) _ qs OW.out rfl ⟨g,0,none⟩ 1 1 [q] HSQ.out enc2 enc2_one rfl (by omega) (by omega) hb ?_);intro v' w' own' ch0 ch1 _)
   all_goals (go_ret;exact ⟨_,rfl,by rw [EQ.out];exact own',ch0⟩)
 ·have hlt:i<qs.length:=by omega
  rcases own with ⟨_,rfl⟩ | ⟨g0,cap,cur,rfl,hb0,hg,h1,h2,h3,h4⟩
  ·exact absurd hlt (by simp)
  obtain ⟨n,hnq⟩:∃ n,n=qs.length:=⟨_,rfl⟩
  have HNQ:=lH hnq
  have INS:=lH (fun (a:Array Value) ha hs=>ins_cells (qs:=qs) (q:=q) (i:=i) (cur:=cur) (a:=a) hi ha hs)
  have ILEN:=lH (ins_length (q:=q) hi)
  have hfl:(qs.flatMap (encP encI)).length=n*2:=by rw [flatW_len enc2,hnq]
  have hdf:(qs.drop i).flatMap (encP encI)=(qs.flatMap (encP encI)).drop (i*2):=flatN_drop enc2 qs i
  have htf:(qs.take i).flatMap (encP encI)=(qs.flatMap (encP encI)).take (i*2):=flatN_take enc2 qs i
  rw [← hnq] at h1 h4 hlt hl hi hin ILEN INS ⊢
  have hm63:cap≤9223372036854775807:=by unfold maxLen at h2;omega
  have hne0:g≠g0:=fun h=>hne (by rw [h];rfl)
  have hcs:∀ (j:Nat) (x:Value),(qs.flatMap (encP encI))[j]?=some x→w.cell? ⟨g0,j,none⟩=some x:=fun j x hj=>by
   rw [World.cell?,hg]
   rw [← h4,List.getElem?_take] at hj
   split at hj
   ·simpa using hj
   ·cases hj
  have hfz:∀ j,w.frozen? ⟨g0,j,none⟩=false:=fun j=>by simp [World.frozen?,hg]
  have hsp:∀ j,j<cap*2→(w.cell? ⟨g0,j,none⟩).isSome=true:=fun j hj=>by
   have:j<cur.size:=by omega
   simp [World.cell?,hg,this]
  have hvs:∀ (j:Nat) (x:Value),(encP encI q)[j]?=some x→w.cell? ⟨g,j,none⟩=some x:=fun j x hj=>B.cell j x hj
  obtain ⟨dr,hdr⟩:∃ dr,dr=(qs.drop i).flatMap (encP encI):=⟨_,rfl⟩
  have hdl:dr.length=(n-i)*2:=by rw [hdr,flatW_len enc2,List.length_drop,hnq]
  have h1d:∀ x∈dr,x.oneCell'=true:=fun x hx=>by
   rw [hdr] at hx
   obtain ⟨y,_,hy⟩:=List.mem_flatMap.1 hx
   exact enc2_one y x hy
  have hds:∀ (j:Nat) (x:Value),dr[j]?=some x→w.cell? ⟨g0,i*2+j,none⟩=some x:=fun j x hj=>by
   rw [hdr,hdf,List.getElem?_drop] at hj
   exact hcs _ x hj
  have hz2:¬ ((i:Int)=(n:Int)):=by omega
  have hii:(i:Int)≤(n:Int):=by omega
  have hwi:IntKind.i64.wrap ((i:Int)+1)=(i:Int)+1:=IntWalk.i64_in _ (by omega)
  have hwn:IntKind.i64.wrap ((n:Int)+1)=(n:Int)+1:=IntWalk.i64_in _ (by omega)
  have hb1:(0:Int)≤(i:Int)+1:=by omega
  have htn:((i:Int)+1).toNat=i+1:=by omega
  have htn2:((n:Int)+1).toNat=n+1:=by omega
  have hb3:(i:Int)≤(n:Int)+1:=by omega
  have hb3b:(i:Int)+1≤(n:Int)+1:=by omega
  have hb4:¬ (cap=i):=by omega
  rw [← hdr] at INS
  have mixed:Tryz.prog.follows .mixedOrders=true:=by kernel_rfl
  by_cases hroom:n+1≤cap
  ·have hrI:¬ (n:Int)+1>(cap:Int):=by omega
   have hb2:¬ (cap=i+1):=by omega
   have hsa:w.shape? g=some (84,2):=by have:=B;unfold Blk at this;simp [World.shape?,this]
   have hsb:w.shape? g0=some (84,cur.size):=by simp [World.shape?,hg]
   have hov:∀ lb cb,(callFunc 115 #[.slice (some ⟨g,0,none⟩) 1 1,.slice (some ⟨g0,(i+1)*2,none⟩) lb cb]).run Tryz.prog w=.ok (.value (.bool false)) w:=fun lb cb=>by
    rw [run_callFunc_extern Tryz.func115 (by kernel_rfl) (by kernel_rfl) (by kernel_rfl) (e:=Extern.SlicesOverlaps.overlaps #[50,50] #[4]) (by kernel_rfl),
     Lib.run_overlaps_apart w 50 4 84 Tryz.underlying50 2 Tryz.sizeLd ⟨g,0,none⟩ ⟨g0,(i+1)*2,none⟩ 1 1 lb cb hne0 84 84 2 cur.size hsa hsb (by omega) (B.free 0) (B.free 2)]
    rfl
   have hcp1:∀ ty dc sc,(Builtin.copy_ #[50,50] ty #[.slice (some ⟨g0,(i+1)*2,none⟩) (n-i) dc,.slice (some ⟨g0,i*2,none⟩) (n+1-i) sc]).run Tryz.prog w.drew=.ok (goInt (n-i:Nat)) (w.drew.setCells g0 ((i+1)*2) dr):=fun ty dc sc =>
    run_copy_cells2 w.drew _ _ ty 84 g0 ((i+1)*2) (n-i) dc ⟨g0,i*2,none⟩ (n+1-i) sc dr Tryz.underlying50 Tryz.szLd (n-i) (by simp only [Nat.min_def];split<;>omega) hdl
     (fun j x hj=>by rw [Addr.add_lit];exact hds j x hj) (fun j hj=>hsp _ (by omega)) (fun j hj=>hfz _) h1d
   obtain ⟨W1,hW1⟩:∃ W1,W1=w.drew.setCells g0 ((i+1)*2) dr:=⟨_,rfl⟩
   have hsp1:∀ k,k<(n+1)*2→(W1.cell? ⟨g0,k,none⟩).isSome=true:=fun k hk=>by
    rw [hW1]
    exact isSome_setCells g0 dr ((i+1)*2) w.drew (fun j hj=>hsp _ (by omega)) _ (hsp k (by omega))
   have hcp2:∀ (W:World),(∀ x,W.cell? x=W1.cell? x)→(∀ x,W.frozen? x=W1.frozen? x)→∀ ty dc,(Builtin.copy_ #[50,50] ty #[.slice (some ⟨g0,i*2,none⟩) (n+1-i) dc,.slice (some ⟨g,0,none⟩) 1 1]).run Tryz.prog W=.ok (goInt (1:Nat)) (W.setCells g0 (i*2) (encP encI q)):=fun W hWc hWf ty dc =>
    run_copy_cells2 W _ _ ty 84 g0 (i*2) (n+1-i) dc ⟨g,0,none⟩ 1 1 (encP encI q) Tryz.underlying50 Tryz.szLd 1 (by simp only [Nat.min_def];split<;>omega) rfl
     (fun j x hj=>by
      rw [Addr.add_lit,hWc,hW1,World.cell?_setCells_out g0 _ _ _ _ (fun h _=>absurd h hne0),Nat.zero_add]
      exact hvs j x hj)
     (fun j hj=>by rw [hWc];exact hsp1 _ (by have:(encP encI q).length=2:=rfl;omega)) (fun j hj=>by rw [hWf,hW1,World.frozen?_setCells];exact hfz _) (enc2_one q)
   have FIN:=lH (show InwPost qs i q (.slice (some ⟨g0,0,none⟩) n cap) base w (.returned (.slice (some ⟨g0,0,none⟩) (n+1) cap)) (W1.setCells g0 (i*2) (encP encI q)) from by
    rw [hW1]
    have hh:=heap_setCells (encP encI q) _ _ (i*2) (heap_setCells dr w.drew cur ((i+1)*2) hg)
    refine ⟨_,rfl,own_row (by rw [ILEN.out]) hb0 hh (by omega) h2 (by rw [arrSet_size,arrSet_size];exact h3) (INS.out cur (by rw [htf,← h4,List.take_take,Nat.min_eq_left (by omega)]) (by omega)).1,?_⟩
    have hS:∀ x,(x<w.heap.size∧¬ (Value.slice (some ⟨g0,0,none⟩) n cap).ownBlock=some x)→x≠g0:=fun x hx he=>hx.2 (by rw [he];rfl)
    exact chg_cells hS _ _ _ (chg_cells hS _ _ _ (Chg.refl _ w).drew))
   rw [← hW1] at hcp1
   clear hcs hds hvs hsp hfz hsp1 B SQ hne hg h3 h4 hfl hdf htf hdl h1d hdr hsa hsb INS ILEN hnq hW1
   go_enter Tryz.func53,Tryz.ntmps53
   go_wp2_with (simp only [hov])
   go_region_law_o (refine step_copy_runI rfl _ _ 50 50 rfl _ _ (by simp [Act.eval,Act.put]) (by simp [Act.eval,Act.put]) (hcp1 _ _ _) ?_)
   go_wp2_with (at_builtin;refine wpList_copy_runI _ rfl _ _ 50 50 rfl _ _ rfl rfl (hcp2 _ (fun _=>rfl) (fun _=>rfl) _ _) ?_)
   go_ret
   exact FIN.out
  ·have hcap:cap=n:=by omega
   have hrI:(n:Int)+1>(cap:Int):=by omega
   subst hcap
   have hz3:(cap:Int)<(cap:Int)+1:=by omega
   obtain ⟨i0,hi0,hz0,hzs,hzb⟩:=info_parts Tryz.infoLd
   have hbw:g0<w.heap.size:=heap_lt hg
   have hkk:(cap:Int)+1-(i:Int)=((cap+1-i:Nat):Int):=by omega
   have hwk:IntKind.i64.wrap ((cap:Int)+1-(i:Int))=(cap:Int)+1-(i:Int):=IntWalk.i64_in _ (by omega)
   have hik:i+(cap+1-i)=cap+1:=by omega
   obtain ⟨tr,htr⟩:∃ tr,tr=(qs.take i).flatMap (encP encI):=⟨_,rfl⟩
   have htl:tr.length=i*2:=by rw [htr,flatW_len enc2,List.length_take];omega
   have hold:(Builtin.firstCells i0.size i (.slice (some ⟨g0,0,none⟩) i cap)).run Tryz.prog w.drew=.ok tr.toArray w.drew:=by
    rw [hzs]
    exact run_firstCells_some w.drew 2 i ⟨g0,0,none⟩ i cap tr htl (fun j x hj=>by
     rw [Addr.add_lit,Nat.zero_add]
     rw [htr,htf,List.getElem?_take] at hj
     split at hj
     ·exact hcs j x hj
     ·cases hj)
   have hrz:∀ ty,(Builtin.append_ #[50,3] ty #[.slice (some ⟨g0,0,none⟩) i cap,.int .i64 ((cap:Int)+1-(i:Int))]).run Tryz.prog w =
     .ok (.slice (some ⟨w.heap.size,0,none⟩) (cap+1) (grownCap w (cap+1) cap 84)) (w.drew.alloc (.cells (tr.toArray++Builtin.zeroCells (Value.agg #[.int .i64 0,.slice none 0 0]).cells (cap+1-i)++Builtin.zeroCells (Value.agg #[.int .i64 0,.slice none 0 0]).cells (grownCap w (cap+1) cap 84-(cap+1))) 84)):=fun ty=>by
    have h:=Lib.run_append_grow_zeros w 50 3 ty 84 i0 _ .i64 .i64 Tryz.underlying50 Tryz.underlying3 hi0 hz0 (some ⟨g0,0,none⟩) i cap tr hold (cap+1-i) (by omega) (by omega) (by omega) (by omega) (by rw [hzb];omega) (by rw [hzb,hik];exact growslice_fits (by omega) (by omega))
    rw [hik] at h
    rw [hkk]
    exact h
   obtain ⟨G,hG⟩:∃ G,G=grownCap w (cap+1) cap 84:=⟨_,rfl⟩
   obtain ⟨ROW,hROW⟩:∃ ROW:Array Value,ROW=tr.toArray++Builtin.zeroCells (Value.agg #[.int .i64 0,.slice none 0 0]).cells (cap+1-i)++Builtin.zeroCells (Value.agg #[.int .i64 0,.slice none 0 0]).cells (G-(cap+1)):=⟨_,rfl⟩
   rw [← hG] at hrz
   rw [← hROW] at hrz
   have hGn:cap+1≤G:=by rw [hG];exact grownCap_ge w _ _ _
   have hGm:G≤maxLen:=by rw [hG];exact grownCap_le_maxLen w (cap+1) cap 84 (by unfold maxLen;omega)
   have hzc:(Value.agg #[.int .i64 0,.slice none 0 0]).cells.size=2:=rfl
   have hRs:ROW.size=G*2:=by
    rw [hROW]
    simp only [Array.size_append,List.size_toArray,size_zeroCells,hzc,htl]
    omega
   have hRt:ROW.toList.take (i*2)=(qs.take i).flatMap (encP encI):=by
    rw [← htr,hROW]
    simp only [Array.toList_append,List.append_assoc]
    rw [← htl,List.take_left']
    rfl
   obtain ⟨W1,hW1⟩:∃ W1,W1=w.drew.alloc (.cells ROW 84):=⟨_,rfl⟩
   rw [← hW1] at hrz
   have hN:∀ j,j<(cap+1)*2→(W1.cell? ⟨w.heap.size,j,none⟩).isSome=true:=fun j hj=>by
    rw [hW1,World.cell?_alloc_at (w:=w.drew) ROW _ w.heap.size j rfl,Array.getElem?_eq_getElem (by omega)];rfl
   have hNf:∀ j,W1.frozen? ⟨w.heap.size,j,none⟩=false:=fun j=>by rw [hW1];exact World.frozen?_alloc_at (w:=w.drew) ROW _ w.heap.size j rfl
   have hOb:∀ j v,w.cell? ⟨g0,j,none⟩=some v→W1.cell? ⟨g0,j,none⟩=some v:=fun j v h=>by rw [hW1,World.cell?_alloc_past (w:=w.drew) _ g0 j hbw];exact h
   have hOv:∀ j v,w.cell? ⟨g,j,none⟩=some v→W1.cell? ⟨g,j,none⟩=some v:=fun j v h=>by rw [hW1,World.cell?_alloc_past (w:=w.drew) _ g j hgl];exact h
   have hql:(encP encI q).length=2:=rfl
   have hcpA:∀ (W:World),(∀ x,W.cell? x=W1.cell? x)→(∀ x,W.frozen? x=W1.frozen? x)→∀ ty dc,(Builtin.copy_ #[50,50] ty #[.slice (some ⟨w.heap.size,i*2,none⟩) (cap+1-i) dc,.slice (some ⟨g,0,none⟩) 1 1]).run Tryz.prog W=.ok (goInt (1:Nat)) (W.setCells w.heap.size (i*2) (encP encI q)):=fun W hWc hWf ty dc =>
    run_copy_cells2 W _ _ ty 84 w.heap.size (i*2) (cap+1-i) dc ⟨g,0,none⟩ 1 1 (encP encI q) Tryz.underlying50 Tryz.szLd 1 (by simp only [Nat.min_def];split<;>omega) rfl
     (fun j x hj=>by rw [Addr.add_lit,hWc,Nat.zero_add];exact hOv _ x (hvs j x hj))
     (fun j hj=>by rw [hWc];exact hN _ (by omega)) (fun j hj=>by rw [hWf];exact hNf _) (enc2_one q)
   have hGi:¬ (G=i):=by omega
   have hGim:¬ (G=i+1):=by omega
   have hbN:g0≠w.heap.size:=by omega
   have hcpB:∀ (W:World),(∀ x,W.cell? x=(W1.setCells w.heap.size (i*2) (encP encI q)).cell? x)→(∀ x,W.frozen? x=(W1.setCells w.heap.size (i*2) (encP encI q)).frozen? x)→∀ ty dc sc,(Builtin.copy_ #[50,50] ty #[.slice (some ⟨w.heap.size,(i+1)*2,none⟩) (cap-i) dc,.slice (some ⟨g0,i*2,none⟩) (cap-i) sc]).run Tryz.prog W=.ok (goInt (cap-i:Nat)) (W.setCells w.heap.size ((i+1)*2) dr):=fun W hWc hWf ty dc sc =>
    run_copy_cells2 W _ _ ty 84 w.heap.size ((i+1)*2) (cap-i) dc ⟨g0,i*2,none⟩ (cap-i) sc dr Tryz.underlying50 Tryz.szLd (cap-i) (by simp) hdl
     (fun j x hj=>by
      rw [Addr.add_lit,hWc,World.cell?_setCells_out _ _ _ _ _ (fun h _=>absurd h hbN)]
      exact hOb _ x (hds j x hj))
     (fun j hj=>by rw [hWc];exact isSome_setCells w.heap.size (encP encI q) (i*2) W1 (fun t ht=>hN _ (by omega)) _ (hN _ (by omega)))
     (fun j hj=>by rw [hWf,World.frozen?_setCells];exact hNf _) h1d
   have FIN:=lH (fun (W:World) (hW:W=((W1.setCells w.heap.size (i*2) (encP encI q)).drew.setCells w.heap.size ((i+1)*2) dr)∨W=((w.alloc (.cells ROW 84)).drew.setCells w.heap.size (i*2) (encP encI q)).drew.setCells w.heap.size ((i+1)*2) dr) =>
    show InwPost qs i q (.slice (some ⟨g0,0,none⟩) cap cap) base w (.returned (.slice (some ⟨w.heap.size,0,none⟩) (cap+1) G)) W from by
    have hS:∀ x,(x<w.heap.size∧¬ (Value.slice (some ⟨g0,0,none⟩) cap cap).ownBlock=some x)→x≠w.heap.size:=fun x hx he=>by omega
    have hA:(arrSet (arrSet ROW (i*2) (encP encI q)) ((i+1)*2) dr).size=G*2:=by rw [arrSet_size,arrSet_size];exact hRs
    have hw1:(w.alloc (.cells ROW 84)).drew.heap[w.heap.size]?=some (.cells ROW 84 (0,0)):=heap_new w _
    rcases hW with rfl | rfl
    ·have hw1':W1.heap[w.heap.size]?=some (.cells ROW 84 (0,0)):=by rw [hW1];exact hw1
     have hh:=heap_setCells dr (W1.setCells w.heap.size (i*2) (encP encI q)).drew _ ((i+1)*2) (heap_setCells (encP encI q) _ _ (i*2) hw1')
     refine ⟨_,rfl,own_row (by rw [ILEN.out]) hb hh (by omega) hGm (by rw [hA];exact Nat.le_refl _) (INS.out ROW hRt (by omega)).2,?_⟩
     refine chg_cells hS _ _ _ (Chg.drew (chg_cells hS _ _ _ ?_))
     rw [hW1]
     exact ((Chg.refl _ w).drew).alloc _ (fun k hk=>hk.1)
    ·have hh:=heap_setCells dr ((w.alloc (.cells ROW 84)).drew.setCells w.heap.size (i*2) (encP encI q)).drew _ ((i+1)*2) (heap_setCells (encP encI q) _ _ (i*2) hw1)
     refine ⟨_,rfl,own_row (by rw [ILEN.out]) hb hh (by omega) hGm (by rw [hA];exact Nat.le_refl _) (INS.out ROW hRt (by omega)).2,?_⟩
     refine chg_cells hS _ _ _ (Chg.drew (chg_cells hS _ _ _ ?_))
     exact ((Chg.refl _ w).alloc _ (fun k hk=>hk.1)).drew)
   clear hcs hds hvs hsp hfz B SQ hne hg h3 h4 hfl hdf htf hdl h1d hdr INS ILEN hnq hkk hik hold hROW hG hRs hRt htr htl hN hNf hOb hOv
   subst hW1
   have hE1:∀ x,((w.alloc (.cells ROW 84)).drew).cell? x=(w.drew.alloc (.cells ROW 84)).cell? x:=fun x=>rfl
   have hE2:∀ x,((w.alloc (.cells ROW 84)).drew).frozen? x=(w.drew.alloc (.cells ROW 84)).frozen? x:=fun x=>rfl
   have hF1:∀ x,(((w.alloc (.cells ROW 84)).drew.setCells w.heap.size (i*2) (encP encI q)).drew).cell? x=((w.drew.alloc (.cells ROW 84)).setCells w.heap.size (i*2) (encP encI q)).cell? x:=fun x=>rfl
   have hF2:∀ x,(((w.alloc (.cells ROW 84)).drew.setCells w.heap.size (i*2) (encP encI q)).drew).frozen? x=((w.drew.alloc (.cells ROW 84)).setCells w.heap.size (i*2) (encP encI q)).frozen? x:=fun x=>rfl
   go_enter Tryz.func53,Tryz.ntmps53
   go_wp2_with (first
    | (at_builtin;refine Lib.wpList_append_run _ rfl _ _ _ _ rfl _ _ rfl rfl _ _ (hrz _) ?_)
    | (at_builtin;refine wpList_copy_runI _ rfl _ _ 50 50 rfl _ _ rfl rfl (hcpA _ hE1 hE2 _ _) ?_)
    | (at_builtin;refine wpList_copy_runI _ rfl _ _ 50 50 rfl _ _ rfl rfl (hcpB _ (fun _=>rfl) (fun _=>rfl) _ _ _) ?_))
   go_region_law_o (refine step_copy_runI rfl _ _ 50 50 rfl (.slice (some ⟨w.heap.size,(i+1)*2,none⟩) (cap-i) (G-(i+1))) (.slice (some ⟨g0,i*2,none⟩) (cap-i) (cap-i)) (by simp [Act.eval,Act.put]) (by simp [Act.eval,Act.put]) (hcpB _ hF1 hF2 3 (G-(i+1)) (cap-i)) ?_)
   go_wp2
   go_ret
   first | exact FIN.out _ (.inl rfl) | exact FIN.out _ (.inr rfl)
theorem clone_lv (a:Option Addr) (n c:Nat) (l:List (Int×Int)) (w:World) (h:Sl 2 encS w a n l) (hn:n≤8796093022208) :
  Calls Tryz.prog 117 #[.slice a n c] w fun e w'=>∃ v,e=.returned v∧OwnL 2 encS 81 w.heap.size w' v l∧Ex w w':=by
 have HL:=lH h.len
 cases a with
 | none =>
  have hn0:n=0:=by
   rcases h.2 with h0 | ⟨x,o,e,_⟩
   ·exact h0
   ·cases e
  have hl:l=[]:=List.eq_nil_of_length_eq_zero (HL.out.trans hn0)
  subst hn0 hl
  clear h HL
  have hq:∀ w:World,(binOp .eql 82 (.slice none 0 c) (.slice none 0 0)).run Tryz.prog w=.ok (.bool true) w:=fun w=>Lib.run_eql_slice_nil w 82 81 none 0 c 0 0 Tryz.underlying82
  go_enter Tryz.func117,Tryz.ntmps117
  go_wp2
  go_ret
  exact ⟨_,rfl,OwnL.nil _ _ _ _ _,Ex.refl _⟩
 | some A =>
  have q0:=Ex.new w (.cells #[] 81)
  have h0:=h.nx q0
  have own0:OwnL 2 encS 81 w.heap.size (w.alloc (.cells #[] 81)) (.slice (some ⟨w.heap.size,0,none⟩) 0 0) []:=OwnL.empty (Nat.le_refl _) rfl
  clear h
  have hq:∀ w:World,(binOp .eql 82 (.slice (some A) n c) (.slice none 0 0)).run Tryz.prog w=.ok (.bool false) w:=fun w=>Lib.run_eql_slice_nil w 82 81 (some A) n c 0 0 Tryz.underlying82
  go_enter Tryz.func117,Tryz.ntmps117
  go_wp2_with (at_builtin;(refine wpList_append_rqW (enc:=encS) _ rfl _ _ 82 rfl w.heap.size 81 (.agg #[.int .i64 0,.int .i64 0]) 2 16 Tryz.underlying82 Tryz.infoLk rfl (by omega) (by omega) _ [] own0 rfl (some A) n c l h0 (fun _=>rfl) (by simp [encS,Value.oneCell']) rfl (by omega) (by simp;omega) (by simp) ?_);intro v1 w1 own1 hch0 hch1)
  go_ret
  exact ⟨_,rfl,by simpa using own1,Chg.trans q0 hch1⟩
def CloRel (L:List Lkd) (n:Nat) (w:World) (o i:Value) (wr:World):Prop :=
 ∃ (k:Nat) (qs:List (Int×Hdr)),k≤n∧i=.int .i64 k∧OwnLk w.heap.size wr o qs (L.take k)∧Ex w wr
theorem litLd (u:World) (id:Int) (hd:Hdr):∃ g v,g=u.heap.size∧v=u.alloc (.cells #[.int .i64 id,hd.val] 84)∧Sl 2 (encP encI) v (some ⟨g,0,none⟩) 1 [(id,hd)]∧Ex u v :=
 ⟨_,_,rfl,rfl,Sl.lit [(id,hd)] rfl rfl (fun _=>rfl) rfl,Ex.new _ _⟩
set_option maxRecDepth 100000 in
set_option maxHeartbeats 4000000 in
theorem clo_p (a:Option Addr) (n c:Nat) (L:List Lkd) (w:World) (h:LkL w a n L) (hn:n≤1000) (hs:∀ c∈L,c.2.length≤1000000) :
  Calls Tryz.prog 54 #[.slice a n c] w fun e w'=>∃ v qs,e=.returned v∧OwnLk w.heap.size w' v qs L∧Ex w w':=by
 have HL:=lH h.len
 have HS:=lH h
 have HSS:=lH hs
 clear h hs
 go_enter Tryz.func54,Tryz.ntmps54
 go_wp2_with fail
 go_loopw [3,8] (fun o i wr=>CloRel L n w o i wr) (fun _ i _=>n-(intOf i).toNat)
 case atStart=>exact ⟨0,[],by omega,rfl,OwnN.nil _ _ _ _ _ _ _ _,Ex.refl _⟩
 case round =>
  obtain ⟨k,qs,hk,rfl,own,kw⟩:=hrel
  obtain ⟨wi,rfl⟩:∃ wi:World,wi=wr:=⟨_,rfl⟩
  have OWN:=lH own
  have KW:=lH kw
  by_cases hkn:k<n
  ·obtain ⟨x,o,a',n',c',d,rfl,hx,hd,hc,sr⟩:=(HS.out.nx kw).at hkn
   have e0:wi.cell? ⟨x,o+k*2,none⟩=some (.int .i64 d.1):=hc 0 _ rfl
   have e1:wi.cell? ⟨x,o+k*2+1,none⟩=some (.slice a' n' c'):=hc 1 _ rfl
   have hdl:=HSS.out d (List.mem_of_getElem? hd)
   have hn':n'≤8796093022208:=by have:=sr.len;omega
   have SR:=lH sr
   have TK:Hid (L.take (k+1)=L.take k++[d]):=lH (by rw [List.take_add_one,hd];rfl)
   have hql:qs.length=k:=by rw [own.2.1,List.length_take];have:=HL.out;omega
   have zw:=kw.size
   clear hc sr hd own kw
   have B5:=Blk.new wi [.int .i64 d.1,.slice a' n' c'] 84
   have kk:=Ex.new wi (.cells #[.int .i64 d.1,.slice a' n' c'] 84)
   obtain ⟨w1,hw1⟩:∃ w1,w1=wi.alloc (.cells #[.int .i64 d.1,.slice a' n' c'] 84):=⟨_,rfl⟩
   obtain ⟨g5,hg5⟩:∃ g5,g5=wi.heap.size:=⟨_,rfl⟩
   replace B5:Blk w1 g5 [.int .i64 d.1,.slice a' n' c'] 84:=by rw [hw1,hg5];exact B5
   rw [← hw1] at kk
   have Hw1:=lH hw1
   have Hg5:=lH hg5
   have K1:=lH kk
   have z1:=kk.size
   clear kk hw1 hg5
   go_upto_region 5 with fail
   rw [← Hg5.out,← Hw1.out]
   clear Hg5 Hw1
   clear e0 e1
   have B5H:=lH B5
   clear B5
   refine wp_region_late_drew (S:=Ex w1) [8] (by kernel_rfl) ((Ex.refl w1).drew) (fun hHeld=>?_)
   obtain ⟨wd,hwdx⟩:∃ wd:World,wd=World.drew w1:=⟨_,rfl⟩
   rw [← hwdx] at hHeld ⊢
   have hDrew:Ex w1 wd:=by rw [hwdx];exact (Ex.refl w1).drew
   clear hwdx
   refine tkL 0 (v:=?_) rfl (by kernel_rfl) (fun _ _ _ h=>h) (by rfl) ?y1x0q5 (by assumption) ?z1x0q5
   case y1x0q5=>intro wq hSw;(go_simp);(try with_reducible rfl)
   refine tkL 1 (v:=?_) rfl (by kernel_rfl) (fun _ _ _ h=>h) (by rfl) ?y1x1q8 (by assumption) ?z1x1q8
   case y1x1q8=>intro wq hSw;(go_simp);(try with_reducible rfl)
   refine tkL 2 (v:=?_) rfl (by kernel_rfl) (fun _ _ _ h=>h) (by rfl) ?y1x2q11 (by assumption) ?z1x2q11
   case y1x2q11=>intro wq hSw;(have cq:=(B5H.out.nx hSw).cell 0 _ rfl;go_simp);(try with_reducible rfl)
   refine tkL 3 (v:=?_) rfl (by kernel_rfl) (fun _ _ _ h=>h) (by rfl) ?y1x3q14 (by assumption) ?z1x3q14
   case y1x3q14=>intro wq hSw;(go_simp);(try with_reducible rfl)
   refine tkL 4 (v:=?_) rfl (by kernel_rfl) (fun _ _ _ h=>h) (by rfl) ?y1x4q17 (by assumption) ?z1x4q17
   case y1x4q17=>intro wq hSw;(have cq:=(B5H.out.nx hSw).cell 1 _ rfl;go_simp);(try with_reducible rfl)
   refine wpAnyL_ready (rs:=[5]) (by kernel_rfl) (by simp) ?_
   refine AllReadyL.cons (o:=⟨_,_,_,_,_,_⟩) rfl (fun K hK=>?_) AllReadyL.nil
   go_simp
   (with_reducible refine (clone_lv _ _ _ d.2 _ ((SR.out.nx K1.out).nx hHeld) hn').mono ?_)
   rintro e wc ⟨v2,rfl,own2,kk⟩
   obtain ⟨a2,c2,rfl,_⟩:=own2.rd (fun _=>rfl)
   have zc:=hHeld.size
   replace hHeld:=hHeld.nx kk
   clear kk
   refine hK.out _ _ (hHeld) (fun hHeld=>?_)
   clear hK K
   refine tkL 6 (v:=?_) rfl (by kernel_rfl) (fun _ _ _ h=>h) (by rfl) ?y1x6q32 (by assumption) ?z1x6q32
   case y1x6q32=>intro wq hSw;(go_simp);(try with_reducible rfl)
   refine wpAnyL_ready (rs:=[7]) (by kernel_rfl) (by simp) ?_
   refine AllReadyL.cons (o:=⟨_,_,_,_,_,_⟩) rfl (fun K hK=>?_) AllReadyL.nil
   go_simp
   obtain ⟨gx,wq,hgx,hwq,SX,kk⟩:=litLd wc d.1 (a2,d.2.length,c2)
   simp only [Hdr.val] at hwq
   rw [← hgx,← hwq]
   clear hgx hwq
   have own3:=own2.nx kk
   replace hHeld:=hHeld.nx kk
   clear kk
   refine hK.out _ _ (hHeld) (fun hHeld=>?_)
   clear hK K
   refine wpAnyL_ready (rs:=[8]) (by kernel_rfl) (by simp) ?_
   refine AllReadyL.consL (o:=⟨_,_,_,_,_,_⟩) rfl (by rfl) (fun K hK=>?_) AllReadyL.nil
   rw [if_pos (by rfl)]
   have OQ:=OWN.out.nx (K1.out.nx hHeld)
   have hz:w.heap.size≤wq.heap.size:=by have:=hHeld.size;omega
   refine wp_append_W (enc:=encP encI) _ (.tmp 12) (.tmp 19) 50 rfl w.heap.size 84 (.agg #[.int .i64 0,.slice none 0 0]) 2 32 Tryz.underlying50 Tryz.infoLd rfl (by omega) (by omega) _ qs OQ.1 rfl _ 1 1 [(d.1,(a2,d.2.length,c2))] SX enc2 enc2_one rfl (by omega) (by omega) hz ?_
   intro v7 w7 own7 ch0 ch1 _
   have FR:∀ (j:Nat) (r:Int×Hdr) (g:Nat),qs[j]?=some r→r.2.val.ownBlock=some g→¬ (Value.slice a2 d.2.length c2).ownBlock=some g:=(fun j r g hr hg hv=>by have h1:=OWN.out.lt hr hg;have h2:=(own2.lt g hv).1;omega)
   have OQ7:=OQ.push (by decide) own7 ch0 (own3.base (by omega)) FR
   have RR:=lH (show CloRel L n w v7 (.int .i64 ((k:Int)+1)) w7 from ⟨k+1,_,by omega,by go_num,by rw [TK.out];exact OQ7,Chg.trans (KW.out.nx (K1.out.nx hHeld)) ch1⟩)
   clear OQ own7 ch0 ch1 FR OQ7 own2 own3 SX hHeld
   refine hK.out _ _ ?_
   clear hK K
   refine wpAnyL_takeP (i:=9) (oi:=⟨_,_,_,_,_,_⟩) (v:=?_) rfl (by kernel_rfl) (by kernel_rfl) (by kernel_rfl) (fun _ _ _ h=>h) (Or.inl ⟨by rfl,?y1x9q62⟩) ?z1x9q62
   case y1x9q62=>intro wq hSw;(go_simp);(try with_reducible rfl)
   refine wpAnyL_done (by kernel_rfl) ?_ _
   clear hDrew
   go_wp2_with fail
   exact ⟨RR.out,by simp [intOf];omega⟩
  ·obtain rfl:k=n:=by omega
   rw [List.take_of_length_le (by have:=HL.out;omega)] at own
   have OW:=lH own
   clear own kw OWN
   go_wp2_with fail
   go_ret
   exact ⟨_,_,rfl,OW.out,KW.out⟩
set_option maxRecDepth 100000 in
set_option maxHeartbeats 2000000 in
theorem exact_p (a:Option Addr) (n c:Nat) (N:List Nd) (a2:Option Addr) (n2 c2:Nat) (L:List Lkd) (hh:Int) (w:World) (h:Sl 3 encN w a n N) (hn:n≤1000) (hc:n≤c) (hm:c≤maxLen) (hw:∀ x∈N,x.word<4294967296) (hT:TabG w)
  (h2:LkL w a2 n2 L) (hn2:n2≤1000000) (hs:∀ c∈L,c.2.length≤9223372036854775807) :
  Calls Tryz.prog 48 #[.slice a n c,.slice a2 n2 c2,.int .i64 hh] w fun e w'=>e=.returned (.bool (exactI N L hh))∧Ex w w':=by
 have HS:=lH hs
 go_enter Tryz.func48,Tryz.ntmps48
 go_wp2_with fail
 (with_reducible refine (build_p _ _ _ N hh _ h hn hc hm hw hT).mono ?_)
 rintro e w1 ⟨v,qs,rfl,own,kk⟩
 replace h2:=h2.nx kk
 have K1:=lH kk
 obtain ⟨a3,c3,rfl,NLX,_,_,_,_⟩:=OwnN.nl (encA:=encI) (s1:=2) (s2:=2) (encB:=encS) (fun _=>rfl) (fun _=>rfl) own
 obtain ⟨B,hB⟩:∃ B,B=buildN N hh:=⟨_,rfl⟩
 have EI:Hid (exactI N L hh=(B.2==0&&decide (L=B.1))):=lH (by rw [hB];rfl)
 rw [← hB] at own NLX ⊢
 have H2:=lH h2
 have NX:=lH NLX
 clear hB own h kk h2 NLX
 obtain ⟨BL,be⟩:=B
 by_cases hbe:be=0
 ·subst hbe
  go_wp2_with fail
  (with_reducible refine (same_lp _ _ _ _ _ _ L BL _ H2.out NX.out hn2 HS.out).mono ?_)
  rintro e w2 ⟨rfl,kk⟩
  have K2:=lH (K1.out.nx kk)
  clear kk
  go_wp2_with fail
  go_ret
  exact ⟨by rw [EI.out];simp,K2.out⟩
 ·have d1:(be==0)=false:=by simpa using hbe
  go_wp2_with fail
  go_ret
  exact ⟨by rw [EI.out,d1];simp,K1.out⟩
end Go.Proofs.YtalmjklljofhbaaGreatDoor
