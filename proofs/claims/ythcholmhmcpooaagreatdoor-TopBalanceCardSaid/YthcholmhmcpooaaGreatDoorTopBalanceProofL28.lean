/- Texts for TopBalanceProof. -/
import Derived.Laws.IdiomStrings
import Derived.Test.YthcholmhmcpooaaGreatDoorTopBalanceProofL25
import Derived.Test.YthcholmhmcpooaaGreatDoorTopBalanceProofL27
set_option linter.unusedSimpArgs false
set_option linter.unusedVariables false

namespace Go.Proofs.YthcholmhmcpooaaGreatDoor
open Go.RowKit
def SmtRel (n:Nat) (w:World) (i:Value) (wr:World):Prop:=∃ k:Nat,k≤n∧i=.int .i64 k∧Ex w wr
set_option maxHeartbeats 4000000 in
theorem same_r20 (a1 a2:Option Addr) (n c1 c2:Nat) (l:List Rw) (w:World) (h1:RowL w (a1,n,c1) l) (h2:RowL w (a2,n,c2) l) (hn:n≤100000) :
  Calls Tryz.prog 57 #[.slice a1 n c1,.slice a2 n c2] w fun e w'=>e=.returned (.bool true)∧Ex w w':=by
 have hln:l.length=n:=h1.len
 have R1:=lH h1
 have R2:=lH h2
 clear h1 h2
 go_enter Tryz.func57,Tryz.ntmps57
 go_wp2_with fail
 go_loopw [13] (fun i wr=>SmtRel n w i wr) (fun i _=>n-(intOf i).toNat)
 case atStart=>exact ⟨0,by omega,rfl,Ex.refl w⟩
 case round =>
  obtain ⟨j,hj,rfl,kv⟩:=hrel
  obtain ⟨wi,rfl⟩:∃ wi:World,wi=wr:=⟨_,rfl⟩
  by_cases hjl:j<n
  ·obtain ⟨x3,o3,y1,e3,hx3,hy1,u0,u1⟩:=(RowL.nx R1.out kv).at (show j<l.length by omega)
   obtain ⟨x4,o4,y2,e4,hx4,hy2,v0,v1⟩:=(RowL.nx R2.out kv).at (show j<l.length by omega)
   simp only at e3 e4
   subst e3 e4
   obtain rfl:y2=y1:=Option.some.inj (hy2.symm.trans hy1)
   have KV:=lH kv
   clear hy1 hy2 kv
   go_wp2_with fail
   go_quiet (fail)
   go_wp2_with fail
   exact ⟨⟨j+1,by omega,by go_num,KV.out.drewN _⟩,by simp [intOf];omega⟩
  ·obtain rfl:j=n:=by omega
   have KV:=lH kv
   clear kv hj hjl
   go_wp2_with fail
   go_ret
   exact ⟨rfl,KV.out⟩
theorem loads_map (H:List Hg):((loadsH H).map fun (n:Nat)=>(n:Int))=(loadsH H).map natI:=rfl
set_option maxRecDepth 100000 in
set_option maxHeartbeats 4000000 in
theorem rebalance_m (a:Option Addr) (n c:Nat) (H:List Hg) (N0:List Nd) (R:List Rw) (w:World) (h:HdL w (a,n,c) H) (hi:InvB (N0.map iwN) R H) (h0:checkN N0=0) (hR:TblOk R) (hs:stepBl (loadsH H)=none) :
  Calls Tryz.prog 54 #[.slice a n c] w fun e w'=>∃ a' c',e=.returned (.tuple #[.slice a' n c',.slice none 0 0,.int .i64 0])∧Ex w w':=by
 have hHn:H.length=n:=h.len
 have hn64:n≤64:=by
  have h1:=hi.len
  rw [List.length_map] at h1
  have:N0.length≤64:=by
   unfold checkN at h0
   split at h0
   ·omega
   ·omega
  omega
 have HS:=lH h
 have IV:=lH hi
 have C0:=lH h0
 have HR:=lH hR
 have HALL:=lH (fun c (hc:c∈H)=>(show c.2.length≤100000 from by have:=(hi.tbl hR hc).2.2;omega))
 have HB:=lH (show ∀ x∈loadsH H,x≤1024 from fun x hx=>by
  obtain ⟨c,hc,rfl⟩:=List.mem_map.1 hx
  exact (hi.tbl hR hc).2.2)
 have SV:Hid (stepV (loadsH H)=.tuple #[.agg #[.int .i64 0,.int .i64 0,.int .i64 0,.int .i64 0,.int .i64 0],.bool false]):=lH (by unfold stepV;rw [hs])
 clear h hi h0 hR hs
 go_enter Tryz.func54,Tryz.ntmps54
 go_wp2_with fail
 (with_reducible refine (mvalid_p a n c H N0 R _ HS.out IV.out C0.out HR.out).mono ?_)
 rintro e w1 ⟨rfl,kk⟩
 have K1:=lH kk
 clear kk
 go_wp2_with fail
 (with_reducible refine (copy_m a n c H _ (HS.out.nx K1.out) (by omega) HALL.out).mono ?_)
 rintro e w2 ⟨v,qs,rfl,OH,kk⟩
 have hqn:qs.length=n:=by rw [OH.2.1,hHn]
 obtain ⟨av,cv,rfl,rv,c1,c2,_,c4⟩:=OH.1.rd encHg_len
 rw [hqn] at rv c1 ⊢
 have H2:=lH (show HdL w2 (av,n,cv) H from ⟨qs,Rd.mono rv (fun _ hx=>hx.2),⟨c1,c2,c4⟩,hHn,fun j q d hq hd=>⟨(OH.2.2.1 j q d hq hd).1,by
  obtain ⟨a',c',e,r⟩:=(OH.2.2.1 j q d hq hd).2.rowF
  have e2:q.2=(a',d.2.length,c'):=by
   unfold Hdr.val at e
   injection e with x1 x2 x3
   exact Prod.ext x1 (Prod.ext x2 x3)
  rw [e2]
  exact r.l⟩⟩)
 have K2:=lH (K1.out.nx kk)
 clear kk OH hqn rv c1 c2 c4
 go_wp2_with fail
 go_loopw [5,6] (fun o s wr=>o=.slice av n cv∧s=.slice none 0 0∧Ex w2 wr) (fun _ _ _=>0)
 case atStart=>exact ⟨rfl,rfl,Ex.refl _⟩
 case round =>
  obtain ⟨rfl,rfl,kw⟩:=hrel
  obtain ⟨wi,rfl⟩:∃ wi:World,wi=wr:=⟨_,rfl⟩
  have KW:=lH kw
  clear kw
  go_wp2_with fail
  (with_reducible refine (loads_p av n cv H _ (HdL.nx H2.out KW.out) (by omega)).mono ?_)
  rintro e w3 ⟨v,rfl,own,kk⟩
  obtain ⟨al,cl,rfl,rl,hcl,hml,_⟩:=own.toW.rd (fun _=>rfl)
  have hll:((loadsH H).map fun (n:Nat)=>(n:Int)).length=n:=by rw [List.length_map];unfold loadsH;rw [List.length_map];exact hHn
  rw [hll] at rl ⊢
  have LS:=lH (show Sl 1 encI w3 al n ((loadsH H).map natI) from Rd.mono rl (fun _ hx=>hx.2))
  have K3:=lH (KW.out.nx kk)
  clear kk own rl hll hcl
  go_wp2_with fail
  (with_reducible refine (step_p al n cl (loadsH H) _ LS.out hn64 HB.out).mono ?_)
  rintro e w4 ⟨rfl,kk⟩
  rw [SV.out]
  have K4:=lH (K3.out.nx kk)
  clear kk
  have B7:=Blk.new w4 [.int .i64 0,.int .i64 0,.int .i64 0,.int .i64 0,.int .i64 0] 93
  have kk:=Ex.new w4 (.cells #[.int .i64 0,.int .i64 0,.int .i64 0,.int .i64 0,.int .i64 0] 93)
  obtain ⟨w5,hw5⟩:∃ w5,w5=w4.alloc (.cells #[.int .i64 0,.int .i64 0,.int .i64 0,.int .i64 0,.int .i64 0] 93):=⟨_,rfl⟩
  obtain ⟨g7,hg7⟩:∃ g7,g7=w4.heap.size:=⟨_,rfl⟩
  replace B7:Blk w5 g7 [.int .i64 0,.int .i64 0,.int .i64 0,.int .i64 0,.int .i64 0] 93:=by rw [hw5,hg7];exact B7
  rw [← hw5] at kk
  have Hw5:=lH hw5
  have Hg7:=lH hg7
  have K5:=lH (K2.out.nx (K4.out.nx kk))
  clear kk hw5 hg7 B7
  go_upto_region 6 with fail
  rw [← Hg7.out,← Hw5.out]
  clear Hg7 Hw5
  go_wp2_with fail
  refine bodyPost_ret (v:=.tuple #[.slice av n cv,.slice none 0 0,.int .i64 0]) (by simp [results,Tryz.results54,go_sem, *]) rfl ⟨av,cv,rfl,K5.out⟩
def mkR (i:Nat):Rw:=(⟨#[48,48,UInt8.ofNat (48+i / 10),UInt8.ofNat (48+i % 10)]⟩,⟨#[]⟩)
def MnRel (n:Nat) (w:World) (o i:Value) (wr:World):Prop:=∃ k:Nat,k≤n∧i=.int .i64 k∧OwnL 2 encR 199 w.heap.size wr o ((List.range k).map mkR)∧Ex w wr
set_option maxRecDepth 100000 in
set_option maxHeartbeats 4000000 in
theorem many_p (n:Nat) (hn:n<60) (w:World) :
  Calls Tryz.prog 42 #[.int .i64 n] w fun e w'=>∃ v,e=.returned v∧OwnL 2 encR 199 w.heap.size w' v ((List.range n).map mkR)∧Ex w w':=by
 go_enter Tryz.func42,Tryz.ntmps42
 go_wp2_with fail
 go_loopw [3,4] (fun o i wr=>MnRel n w o i wr) (fun _ i _=>n-(intOf i).toNat)
 case atStart=>exact ⟨0,by omega,rfl,OwnL.nil _ _ _ _ _,Ex.refl _⟩
 case round =>
  obtain ⟨k,hk,rfl,own,kw⟩:=hrel
  obtain ⟨wi,rfl⟩:∃ wi:World,wi=wr:=⟨_,rfl⟩
  have KW:=lH kw
  have OWN:=lH own
  by_cases hkn:k<n
  ·have q1:Int.tdiv (k:Int) 1000=0:=by rw [show (1000:Int)=((1000:Nat):Int) from rfl,← Int.ofNat_tdiv,Nat.div_eq_of_lt (by omega)];rfl
   have q2:Int.tdiv (k:Int) 100=0:=by rw [show (100:Int)=((100:Nat):Int) from rfl,← Int.ofNat_tdiv,Nat.div_eq_of_lt (by omega)];rfl
   have q3:Int.tdiv (k:Int) 10=((k / 10:Nat):Int):=by rw [show (10:Int)=((10:Nat):Int) from rfl,← Int.ofNat_tdiv]
   have q4:Int.tmod ((k / 10:Nat):Int) 10=((k / 10:Nat):Int):=by rw [show (10:Int)=((10:Nat):Int) from rfl,← Int.ofNat_tmod,Nat.mod_eq_of_lt (by omega)]
   have q5:Int.tmod (k:Int) 10=((k % 10:Nat):Int):=by rw [show (10:Int)=((10:Nat):Int) from rfl,← Int.ofNat_tmod]
   have w1:IntKind.i64.wrap ((k / 10:Nat):Int)=((k / 10:Nat):Int):=IntWalk.i64_in _ (by omega)
   have w2:IntKind.i64.wrap ((k % 10:Nat):Int)=((k % 10:Nat):Int):=IntWalk.i64_in _ (by omega)
   obtain ⟨key,hkey⟩:∃ key,key=(mkR k).1:=⟨_,rfl⟩
   have cells:=(Blk.new wi [.int .u8 48,.int .u8 48,.int .u8 (48+(k:Int) / 10 % 10),.int .u8 (48+(k:Int) % 10)] 5)
   have hcv:(convert 65 9 (.slice (some ⟨wi.heap.size,0,none⟩) 4 4)).run Tryz.prog (wi.alloc (.cells #[.int .u8 48,.int .u8 48,.int .u8 (48+(k:Int) / 10 % 10),.int .u8 (48+(k:Int) % 10)] 5))=.ok (.string key) (wi.alloc (.cells #[.int .u8 48,.int .u8 48,.int .u8 (48+(k:Int) / 10 % 10),.int .u8 (48+(k:Int) % 10)] 5)):=by
    rw [hkey]
    refine run_convert_bytes_back _ 65 9 5 ⟨wi.heap.size,0,none⟩ 4 [48,48,UInt8.ofNat (48+k / 10),UInt8.ofNat (48+k % 10)] Tryz.underlying65 Tryz.underlying5 Tryz.underlying9 (fun j hj=>?_)
    have e1:(UInt8.ofNat (48+k / 10)).toNat=48+k / 10:=by simp;omega
    have e2:(UInt8.ofNat (48+k % 10)).toNat=48+k % 10:=by simp;omega
    rcases (show j=0∨j=1∨j=2∨j=3 by simp at hj;omega) with rfl | rfl | rfl | rfl
    ·exact cells.cell 0 _ rfl
    ·exact cells.cell 1 _ rfl
    ·refine (cells.cell 2 _ rfl).trans ?_
     show some (Value.int .u8 (48+(k:Int) / 10 % 10))=some (Value.int .u8 ((UInt8.ofNat (48+k / 10)).toNat:Int))
     rw [e1]
     congr 2
     omega
    ·refine (cells.cell 3 _ rfl).trans ?_
     show some (Value.int .u8 (48+(k:Int) % 10))=some (Value.int .u8 ((UInt8.ofNat (48+k % 10)).toNat:Int))
     rw [e2]
     congr 2
   obtain ⟨wb,hwb⟩:∃ wb,wb=wi.alloc (.cells #[.int .u8 48,.int .u8 48,.int .u8 (48+(k:Int) / 10 % 10),.int .u8 (48+(k:Int) % 10)] 5):=⟨_,rfl⟩
   have k4:Ex wi wb:=by rw [hwb];exact Ex.new wi _
   have k5:Ex wb (wb.alloc (.cells #[.string key,.string ⟨#[]⟩] 199)):=Ex.new wb _
   have SX:Sl 2 encR (wb.alloc (.cells #[.string key,.string ⟨#[]⟩] 199)) (some ⟨wb.heap.size,0,none⟩) 1 [((key,⟨#[]⟩):Rw)]:=Sl.lit _ rfl rfl (fun _=>rfl) rfl
   have own5:=(own.nx k4).nx k5
   have z5:=k5.size
   have z4:=k4.size
   have zw:=kw.size
   have hlr:((List.range k).map mkR).length≤100:=by simp;omega
   rw [hwb] at SX own5 z5 z4
   rw [show (wi.alloc (.cells #[.int .u8 48,.int .u8 48,.int .u8 (48+(k:Int) / 10 % 10),.int .u8 (48+(k:Int) % 10)] 5)).heap.size=wi.heap.size+1 from by simp] at SX
   have HK:Hid (mkR k=(key,⟨#[]⟩)):=lH (by rw [hkey];rfl)
   clear own kw cells hkey
   go_upto_region 4 with (at_builtin;(refine wpList_append_rd (enc:=encR) _ rfl _ _ 85 rfl w.heap.size 199 (.agg #[.string ByteArray.empty,.string ByteArray.empty]) 2 32 Tryz.underlying85 Tryz.infoRw rfl (by omega) (by omega) _ _ own5 rfl _ _ 1 1 [((key,⟨#[]⟩):Rw)] SX (fun h=>by cases h) (fun _=>rfl) (by simp [encR,Value.oneCell']) rfl (by omega) (by omega) (by omega) ?_);intro v7 w7 own7 ch0 ch1)
   rw [← hwb] at ch1
   have RR:=lH (show MnRel n w v7 (.int .i64 ((k:Int)+1)) w7 from ⟨k+1,by omega,by go_num,by rw [List.range_succ,List.map_append];simp only [List.map_cons,List.map_nil,HK.out];exact own7,Chg.trans (KW.out.nx (k4.nx k5)) ch1⟩)
   clear own7 ch0 ch1 own5 SX k5 k4 hcv
   go_wp2_with fail
   exact ⟨RR.out,by simp [intOf];omega⟩
  ·obtain rfl:k=n:=by omega
   have OW:=lH own
   clear own kw OWN
   go_wp2_with fail
   go_ret
   exact ⟨_,rfl,OW.out,KW.out⟩
def QuL (e:TypeId) (base:Nat) (w:World) (v:Value) (l:List Int):Prop :=
 (v=.slice none 0 0∧l=[])∨∃ (g o cap:Nat) (cur:Array Value),v=.slice (some ⟨g,o,none⟩) l.length cap∧base≤g∧w.heap[g]?=some (.cells cur e (0,0))∧l.length≤cap∧cap≤maxLen∧o+cap≤cur.size∧(cur.toList.drop o).take l.length=l.flatMap encI
section
variable {e:TypeId} {base:Nat} {w w':World} {v:Value} {l:List Int}
theorem flatI_len (l:List Int):(l.flatMap encI).length=l.length:=by
 induction l with
 | nil=>rfl
 | cons x l ih=>rw [List.flatMap_cons,List.length_append,ih,List.length_cons,show (encI x).length=1 from rfl];omega
theorem flatI_map (l:List Int):l.flatMap encI=l.map (Value.int .i64):=by
 induction l with
 | nil=>rfl
 | cons y r ih=>rw [List.flatMap_cons,ih];rfl
theorem QuL.chg (h:QuL e base w v l) {S:Nat→Prop} (k:Chg S w w') (hs:∀ k,k<w.heap.size→v.ownBlock=some k→S k):QuL e base w' v l:=by
 rcases h with h | ⟨g,o,cap,cur,rfl,hb,hg,rest⟩
 ·exact .inl h
 ·exact .inr ⟨g,o,cap,cur,rfl,hb,(k.block g (hs g (heap_lt hg) rfl)).trans hg,rest⟩
theorem QuL.nx (h:QuL e base w v l) (k:Ex w w'):QuL e base w' v l:=h.chg k (fun _ hk _=>hk)
theorem QuL.lt (h:QuL e base w v l) {g:Nat} (hg:v.ownBlock=some g):base≤g∧g<w.heap.size:=by
 rcases h with ⟨rfl,_⟩ | ⟨g',o,cap,cur,rfl,hb,hh,_⟩
 ·cases hg
 ·cases hg
  exact ⟨hb,heap_lt hh⟩
theorem QuL.nxb {b:Nat} (h:QuL e base w v l) (hb:b<base) (k:Exb b w w'):QuL e base w' v l:=h.chg k (fun x hx hv=>⟨hx,by have:=(h.lt hv).1;omega⟩)
theorem QuL.append {P:Program} (h:QuL e base w v l) (t ty:TypeId) {z:Value} {bytes:Nat} (ht:P.underlying t=some (.slice e)) (hi:(P.info? e).map (fun i=>(i.zero,i.size,i.bytes))=some (some z,1,bytes)) (hzs:z.cells.size=1) (hby:bytes≤65536)
  {S:Nat→Prop} {A:Option Addr} {n c:Nat} {news:List Int} (hrd:Rd 1 encI S w A n news) (hA:A=none→c=0) (hl:l.length≤100000000) (hn:n≤100000000) (hbase:base≤w.heap.size) :
  ∃ v' w',(Builtin.append_ #[t,t] ty #[v,.slice A n c]).run P w=.ok v' w'∧QuL e base w' v' (l++news)∧Chg (fun k=>k<w.heap.size∧¬ v.ownBlock=some k) w w'∧Chg (· < base) w w'∧(v'.ownBlock=v.ownBlock∨v'.ownBlock=some w.heap.size):=by
 obtain ⟨i,hi,hz0,hz1,hz2⟩:=info_parts hi
 have hmul:(l.length+n)*bytes≤200000000*65536:=Nat.mul_le_mul (by omega) hby
 have hnl:=hrd.1
 have nothing:news=[]→(Builtin.append_ #[t,t] ty #[v,.slice A n c]).run P w=.ok v w→∃ v' w',(Builtin.append_ #[t,t] ty #[v,.slice A n c]).run P w=.ok v' w'∧QuL e base w' v' (l++news)∧Chg (fun k=>k<w.heap.size∧¬ v.ownBlock=some k) w w'∧Chg (· < base) w w'∧(v'.ownBlock=v.ownBlock∨v'.ownBlock=some w.heap.size) :=
  fun hnews hrun=>⟨v,w,hrun,by rw [hnews];simpa using h,Chg.refl _ _,Chg.refl _ _,.inl rfl⟩
 by_cases hn0:n=0
 ·subst hn0
  have hnews:news=[]:=List.eq_nil_of_length_eq_zero hnl
  refine nothing hnews ?_
  rcases h with ⟨rfl,_⟩ | ⟨g,o,cap,cur,rfl,_,_,hnc,_⟩
  ·cases A<;>simp [Builtin.append_,run_underlying ht,sizeOf,typeInfo,hi,Builtin.lenOf,Builtin.firstCells,loadCells,loadCellsFrom]
  ·cases A<;>simp [Builtin.append_,run_underlying ht,sizeOf,typeInfo,hi,Builtin.lenOf,Builtin.firstCells,hnc,storeCells,loadCells,loadCellsFrom]
 ·obtain ⟨ad,rfl,hcells⟩:∃ ad,A=some ad∧∀ j u,(news.flatMap encI)[j]?=some u→w.cell? (ad.add j)=some u:=by
   rcases hrd.2 with h0 | ⟨x,o,rfl,hx,hc⟩
   ·exact absurd h0 hn0
   ·refine ⟨_,rfl,fun j u hu=>?_⟩
    have hflat:=flatI_map news
    rw [hflat,List.getElem?_map] at hu
    cases hy:news[j]? with
    | none=>rw [hy] at hu;cases hu
    | some y =>
     rw [hy] at hu
     cases hu
     have:=hc j y hy 0 _ rfl
     have hadd:(⟨x,o,none⟩:Addr).add j=⟨x,o+j,none⟩:=by unfold Addr.add;split<;>simp_all
     rw [hadd]
     simpa using this
  have hfl:(news.flatMap encI).length=n*i.size:=by rw [flatI_len,hz1,hnl,Nat.mul_one]
  have h1f:∀ u∈news.flatMap encI,u.oneCell'=true:=by
   intro u hu
   obtain ⟨y,_,hy⟩:=List.mem_flatMap.1 hu
   simp only [encI,List.mem_singleton] at hy
   subst hy
   rfl
  have fresh:∀ (old:Nat),old<l.length+n →
    QuL e base (w.drew.alloc (.cells ((l.flatMap encI).toArray++(news.flatMap encI).toArray++Builtin.zeroCells z.cells (grownCap w (l.length+n) old e-(l.length+n))) e)) (.slice (some ⟨w.heap.size,0,none⟩) (l.length+n) (grownCap w (l.length+n) old e)) (l++news):=by
   intro old ho
   have hge:=grownCap_ge w (l.length+n) old e
   have hcm:grownCap w (l.length+n) old e≤maxLen:=grownCap_le_maxLen w (l.length+n) old e (by unfold maxLen;omega)
   refine .inr ⟨w.heap.size,0,_,_,by rw [List.length_append,hnl],hbase,heap_alloc_new w.drew _,by rw [List.length_append,hnl];exact hge,hcm,?_,?_⟩
   ·simp only [Array.size_append,List.size_toArray,size_zeroCells,hzs,flatI_len,hnl]
    omega
   ·simp only [Array.toList_append,List.append_assoc,List.drop_zero]
    rw [← List.append_assoc,← List.flatMap_append,← flatI_len (l++news)]
    exact List.take_left
  have hex:∀ o:Obj,Ex w (w.drew.alloc o):=fun o=>⟨rfl,rfl,rfl,by simp,fun k hk=>heap_alloc_old w.drew _ hk⟩
  rcases h with ⟨rfl,rfl⟩ | ⟨g,o,cap,cur,rfl,hb,hg,h1,h2,h3,h4⟩
  ·have hr:=run_append_nil (P:=P) w t ty e i z ht hi hz0 ad n c (news.flatMap encI) hfl hcells (by omega) (by omega) (by rw [hz2];simp only [List.length_nil,Nat.zero_add] at hmul;omega)
   have hf:=fresh 0 (by simp;omega)
   simp only [List.length_nil,Nat.zero_add,List.flatMap_nil,List.nil_append] at hf ⊢
   refine ⟨_,_,hr,by simpa using hf,(hex _).mono fun k hk=>hk.1,(hex _).mono fun k (hk:k<base)=>by show k<w.heap.size;omega,.inr rfl⟩
  ·by_cases hroom:l.length+n≤cap
   ·have hfc:=run_firstCells_some (P:=P) w i.size n ad n c (news.flatMap encI) hfl hcells
    have hst:=run_storeCells_at P g (o+l.length) e (news.flatMap encI) 0 cur w hg (by rw [flatI_len,hnl];omega) h1f
    simp only [Nat.add_zero] at hst
    have hadd:(⟨g,o,none⟩:Addr).add (l.length*i.size)=⟨g,o+l.length,none⟩:=by rw [hz1,Nat.mul_one];unfold Addr.add;split<;>simp_all
    refine ⟨.slice (some ⟨g,o,none⟩) (l.length+n) cap,w.setRow g (cur.toList.take (o+l.length)++news.flatMap encI++cur.toList.drop (o+l.length+(news.flatMap encI).length)).toArray,?_,.inr ⟨g,o,cap,_,by rw [List.length_append,hnl],hb,setRow_heap w g cur _ e _ hg,by rw [List.length_append,hnl];exact hroom,h2,?_,?_⟩,⟨rfl,rfl,rfl,by simp [World.setRow],fun k hk=>setRow_other w g k _ (fun he=>hk.2 (by rw [he];rfl))⟩,⟨rfl,rfl,rfl,by simp [World.setRow],fun k (hk:k<base)=>setRow_other w g k _ (by omega)⟩,.inl rfl⟩
    ·simp [Builtin.append_,run_underlying ht,sizeOf,typeInfo,hi,Builtin.lenOf,hroom,hfc,hadd,hst]
    ·simp only [List.size_toArray,List.length_append,List.length_take,List.length_drop,Array.length_toList,flatI_len,hnl]
     omega
    ·rw [List.flatMap_append,← h4,List.length_append,hnl]
     have hsz:o+l.length≤cur.toList.length:=by simp;omega
     simp only [List.append_assoc]
     rw [List.drop_append_of_le_length (by rw [List.length_take];omega),List.drop_take,show o+l.length-o=l.length by omega,← List.append_assoc]
     rw [List.take_append_of_le_length (by rw [List.length_append,List.length_take,List.length_drop,flatI_len,hnl];omega)]
     rw [List.take_of_length_le (by rw [List.length_append,List.length_take,List.length_drop,flatI_len,hnl];omega)]
   ·have holds:∀ j u,(l.flatMap encI)[j]?=some u→w.cell? ((⟨g,o,none⟩:Addr).add j)=some u:=by
     intro j u hu
     have hadd:(⟨g,o,none⟩:Addr).add j=⟨g,o+j,none⟩:=by unfold Addr.add;split<;>simp_all
     rw [hadd]
     rw [← h4,List.getElem?_take] at hu
     split at hu
     ·rw [List.getElem?_drop] at hu
      have:cur[o+j]?=some u:=by simpa using hu
      simp [World.cell?,hg,this]
     ·cases hu
    have hr:=run_append_grow (P:=P) w t ty e i z ht hi hz0 ⟨g,o,none⟩ l.length cap (l.flatMap encI) (by rw [flatI_len,hz1,Nat.mul_one]) holds ad n c (news.flatMap encI) hfl hcells (by omega) (by omega) (growslice_fits (by omega) (by rw [hz2];omega))
    exact ⟨_,_,hr,fresh cap (by omega),(hex _).mono fun k hk=>hk.1,(hex _).mono fun k (hk:k<base)=>by show k<w.heap.size;omega,.inr rfl⟩
end
def GrpM (P:Program) (k e:TypeId) (base:Nat) (w:World) (b n:Nat) (f:Int→Value) (J:Int→List Int):Prop :=
 RawM P k w b n f∧b<base∧base≤w.heap.size∧(∀ v,OwnL 1 encI e base w (f v) (J v))∧∀ v v' g,v≠v'→(f v).ownBlock=some g→¬ (f v').ownBlock=some g
section
variable {P:Program} {k e:TypeId} {base:Nat} {w w':World} {b n:Nat} {f:Int→Value} {J:Int→List Int}
theorem GrpM.made (w:World) (P:Program) (k e:TypeId):GrpM P k e (w.heap.size+1) (w.alloc (.map #[] 0)) w.heap.size 0 (fun _=>nilS) (fun _=>[]) :=
 ⟨RawM.made w P k,by omega,by simp,fun _=>OwnL.nil _ _ _ _ _,fun _ _ _ _ h=>by cases h⟩
theorem GrpM.nx (h:GrpM P k e base w b n f J) (kk:Ex w w'):GrpM P k e base w' b n f J :=
 ⟨h.1.nx kk,h.2.1,Nat.le_trans h.2.2.1 kk.size,fun v=>(h.2.2.2.1 v).nx kk,h.2.2.2.2⟩
theorem GrpM.nxb {c:Nat} (h:GrpM P k e base w b n f J) (hc:c<base) (hb:b≠c) (kk:Exb c w w'):GrpM P k e base w' b n f J :=
 ⟨h.1.nxb hb kk,h.2.1,Nat.le_trans h.2.2.1 kk.size,fun v=>(h.2.2.2.1 v).nxb hc kk,h.2.2.2.2⟩
theorem GrpM.row (h:GrpM P k e base w b n f J) (v:Int):OwnL 1 encI e base w (f v) (J v):=h.2.2.2.1 v
end
def grp1 (J:Int→List Int) (x y:Int):Int→List Int:=fun v=>if v=x then J x++[y] else J v
section
variable {P:Program} {k e:TypeId} {base:Nat} {w w':World} {b n:Nat} {f:Int→Value} {J:Int→List Int}
theorem GrpM.one (h:GrpM P k e base w b n f J) {x y:Int} {w1 w3:World} {a':Value} {n':Nat}
  (A:OwnL 1 encI e base w1 a' (J x++[y])) (k1:Chg (fun k=>k<w.heap.size∧¬ (f x).ownBlock=some k) w w1) (la:∀ g,a'.ownBlock=some g→(f x).ownBlock=some g∨w.heap.size≤g)
  (k3:Exb b w1 w3) (R:RawM P k w3 b n' (upd f x a')):GrpM P k e base w3 b n' (upd f x a') (grp1 J x y):=by
 obtain ⟨h1,hb,hs,hO,hd⟩:=h
 have s1:=k1.size
 have s3:=k3.size
 refine ⟨R,hb,by omega,fun v=>?_,fun v v' g hne hv hv'=>?_⟩
 ·unfold upd grp1
  by_cases hvx:v=x
  ·rw [if_pos hvx,if_pos hvx]
   exact A.nxb hb k3
  ·rw [if_neg hvx,if_neg hvx]
   have O1:OwnL 1 encI e base w1 (f v) (J v):=(hO v).chg k1 fun g hg hv=>⟨hg,hd v x g hvx hv⟩
   exact O1.nxb hb k3
 ·unfold upd at hv hv'
  have ov:∀ u g,u≠x→(f u).ownBlock=some g→¬ a'.ownBlock=some g:=by
   intro u g hux hu ha
   rcases la g ha with h2 | h2
   ·exact hd u x g hux hu h2
   ·have:=((hO u).lt g hu).2;omega
  by_cases hvx:v=x
  ·rw [if_pos hvx] at hv
   rw [if_neg (by omega)] at hv'
   exact ov v' g (by omega) hv' hv
  ·rw [if_neg hvx] at hv
   by_cases hvx':v'=x
   ·rw [if_pos hvx'] at hv';exact ov v g hvx hv hv'
   ·rw [if_neg hvx'] at hv';exact hd v v' g hne hv hv'
end
end Go.Proofs.YthcholmhmcpooaaGreatDoor
