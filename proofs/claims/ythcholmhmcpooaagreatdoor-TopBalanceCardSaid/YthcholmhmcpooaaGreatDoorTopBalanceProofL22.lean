/- Texts for TopBalanceProof. -/
import Derived.Test.YthcholmhmcpooaaGreatDoorTopBalanceProofL20
import Derived.Test.YthcholmhmcpooaaGreatDoorTopBalanceProofL21
set_option linter.unusedSimpArgs false
set_option linter.unusedVariables false

namespace Go.Proofs.YthcholmhmcpooaaGreatDoor
open Go.RowKit Go.Maps
set_option maxRecDepth 100000 in
set_option maxHeartbeats 2000000 in
theorem index_n (a:Option Addr) (n c:Nat) (l:List Nd) (x:Nd) (k0:Nat) (w:World) (h:Sl 3 encN w a n l) (hn:n≤1000) (hk0:l[k0]?=some x) (hno:∀ j z,j<k0→l[j]?=some z→z.id≠x.id) :
  Calls Tryz.prog 127 #[.slice a n c,.agg #[.int .i64 x.id,.string x.key,.int .u32 x.word]] w fun e w'=>e=.returned (.int .i64 k0)∧Ex w w':=by
 have HNO:=lH hno
 have HK0:=lH hk0
 have hk0n:k0<n:=by have:=(List.getElem?_eq_some_iff.1 hk0).1;have:=h.len;omega
 have EX:=Ex.refl w
 have B3:=Blk.new w [.int .i64 x.id,.string x.key,.int .u32 x.word] 36
 have kk:=Ex.new w (.cells #[.int .i64 x.id,.string x.key,.int .u32 x.word] 36)
 obtain ⟨w1,hw1⟩:∃ w1,w1=w.alloc (.cells #[.int .i64 x.id,.string x.key,.int .u32 x.word] 36):=⟨_,rfl⟩
 obtain ⟨g3,hg3⟩:∃ g3,g3=w.heap.size:=⟨_,rfl⟩
 replace B3:Blk w1 g3 [.int .i64 x.id,.string x.key,.int .u32 x.word] 36:=by rw [hw1,hg3];exact B3
 rw [← hw1] at kk
 have Hw1:=lH hw1
 have Hg3:=lH hg3
 replace h:=h.nx kk
 replace EX:=EX.nx kk
 clear kk hw1 hg3
 have HS:=lH h
 have EX:=lH EX
 clear hno hk0 h
 go_enter Tryz.func127,Tryz.ntmps127
 go_upto_region 1 with fail
 rw [← Hg3.out,← Hw1.out]
 clear Hg3 Hw1
 have HB:=lH B3
 clear B3
 go_wp2_with fail
 go_loopw [8] (fun i wr=>∃ j:Nat,j≤k0∧i=.int .i64 j∧Ex w1 wr) (fun i _=>n-(intOf i).toNat)
 case atStart=>exact ⟨0,by omega,rfl,Ex.refl _⟩
 case round =>
  obtain ⟨j,hj,rfl,kw⟩:=hrel
  obtain ⟨wo,rfl⟩:∃ wo:World,wo=wr:=⟨_,rfl⟩
  obtain ⟨x1,o1,y,rfl,hx1,hy,hc1⟩:=(HS.out.nx kw).at (j:=j) (by omega)
  have e0:wo.cell? ⟨x1,o1+j*3,none⟩=some (.int .i64 y.id):=hc1 0 _ rfl
  have e1:wo.cell? ⟨x1,o1+j*3+1,none⟩=some (.string y.key):=hc1 1 _ rfl
  have e2:wo.cell? ⟨x1,o1+j*3+1+1,none⟩=some (.int .u32 y.word):=by simpa [Nat.add_assoc] using hc1 2 _ rfl
  have B:=HB.out.nx kw
  have q0:=B.cell 0 _ rfl
  have q1:=B.cell 1 _ rfl
  have q2:=B.cell 2 _ rfl
  have KW:=lH (EX.out.nx kw)
  have KV:=lH kw
  by_cases hlt:j=k0
  ·subst hlt
   obtain rfl:y=x:=Option.some.inj (hy.symm.trans HK0.out)
   clear hc1 hy kw B
   go_wp2_with fail
   go_quiet (fail)
   go_wp2_with fail
   go_ret
   exact ⟨rfl,KW.out.drewN _⟩
  ·have hb:(x.id==y.id)=false:=by
    have:=HNO.out j y (by omega) hy
    rw [beq_eq_false_iff_ne]
    exact fun h=>this h.symm
   clear hc1 hy kw B
   go_wp2_with fail
   go_quiet (fail)
   go_wp2_with fail
   exact ⟨⟨j+1,by omega,by go_num,KV.out.drewN _⟩,by simp [intOf];omega⟩
theorem check_len {N:List Nd} (h0:checkN N=0):N.length≤64:=by
 unfold checkN at h0
 split at h0
 ·cases h0
 ·omega
theorem Tryz.infoNr:(Tryz.prog.info? 158).map (fun i=>(i.zero,i.size,i.bytes))=some (some (.agg #[.int .i64 0,.int .i64 0,.int .i64 0,.int .i64 0]),4,32):=by kernel_rfl
theorem Tryz.infoPr:(Tryz.prog.info? 150).map (fun i=>(i.zero,i.size,i.bytes))=some (some (.agg #[.int .i64 0,.slice none 0 0,.int .i64 0,.int .i64 0,.slice none 0 0]),5,72):=by kernel_rfl
theorem wp_append_rqW {P:Program} {α:Type} {enc:α→List Value} {o:Oper} {a:Act} {K:Act→World→Prop} {Q:Exit→Act→World→Prop} (w0:World) (s x:Operand) (t:TypeId)
  (ho:o.op=.call { callee:=.builtin .append,args:=#[s,x],argTypes:=#[t,t] })
  (base:Nat) (e:TypeId) (z:Value) (sz bytes:Nat) (ht:P.underlying t=some (.slice e)) (hi:(P.info? e).map (fun i=>(i.zero,i.size,i.bytes))=some (some z,sz,bytes))
  (hzs:z.cells.size=sz) (hsz:0<sz) (hby:bytes≤65536)
  (v:Value) (l:List α) (hown:OwnL sz enc e base w0 v l) (hs:a.eval s=v) (A:Option Addr) (n c:Nat) (news:List α) (hrd:Sl sz enc w0 A n news) (hlen:∀ y,(enc y).length=sz) (h1:∀ y,∀ u∈enc y,u.oneCell'=true)
  (hx:a.eval x=.slice A n c) (hb1:0<bytes) (hmul:(l.length+n)*bytes≤140737488355328) (hbase:base≤w0.heap.size)
  (h:∀ v' w',OwnL sz enc e base w' v' (l++news)→Chg (fun k=>k<w0.heap.size∧¬ v.ownBlock=some k) w0 w'→Chg (· < base) w0 w'→K (a.put o.dst v') w') :
  o.wp P a w0 K Q:=by
 by_cases hA:A=none→c=0
 ·exact wp_append_rdW w0 s x t ho base e z sz bytes ht hi hzs hsz hby v l hown hs (· < w0.heap.size) A n c news hrd hA hlen h1 hx hb1 hmul hbase h
 ·have hAn:A=none:=by
   cases A with
   | none=>rfl
   | some _=>exact absurd (fun h=>by cases h) hA
  subst hAn
  obtain ⟨i,hi,hz0,hz1,hz2⟩:=info_parts hi
  have hn0:n=0:=by
   rcases hrd.2 with h0 | ⟨x,o,e1,_⟩
   ·exact h0
   ·cases e1
  subst hn0
  have hnews:news=[]:=List.eq_nil_of_length_eq_zero hrd.1
  subst hnews
  have hrun:(Builtin.append_ #[t,t] o.type #[v,.slice none 0 c]).run P w0=.ok v w0:=by
   rcases hown.2 with ⟨rfl,_⟩ | ⟨g,cap,cur,rfl,_,_,hnc,_⟩
   ·simp [Builtin.append_,run_underlying ht,sizeOf,typeInfo,hi,Builtin.lenOf,Builtin.firstCells,loadCells,loadCellsFrom]
   ·simp [Builtin.append_,run_underlying ht,sizeOf,typeInfo,hi,Builtin.lenOf,Builtin.firstCells,hnc,storeCells,loadCells,loadCellsFrom]
  unfold Oper.wp execOp
  simp only [ho,resolve,invoke,builtin,Sem.run_bind,Sem.run_pure,Result.andThen_ok,List.map_toArray,List.map_cons,List.map_nil,hs,hx,hrun]
  exact h v w0 (by simpa using hown) (Chg.refl _ _) (Chg.refl _ _)
theorem wpList_append_rqW {P:Program} {α:Type} {enc:α→List Value} {ops:Array Oper} {rest:List Oper} {o:Oper} {a:Act} {Q:Exit→Act→World→Prop} (w0:World) (hgd:o.guard=none) (s x:Operand) (t:TypeId)
  (ho:o.op=.call { callee:=.builtin .append,args:=#[s,x],argTypes:=#[t,t] })
  (base:Nat) (e:TypeId) (z:Value) (sz bytes:Nat) (ht:P.underlying t=some (.slice e)) (hi:(P.info? e).map (fun i=>(i.zero,i.size,i.bytes))=some (some z,sz,bytes))
  (hzs:z.cells.size=sz) (hsz:0<sz) (hby:bytes≤65536)
  (v:Value) (l:List α) (hown:OwnL sz enc e base w0 v l) (hs:a.eval s=v) (A:Option Addr) (n c:Nat) (news:List α) (hrd:Sl sz enc w0 A n news) (hlen:∀ y,(enc y).length=sz) (h1:∀ y,∀ u∈enc y,u.oneCell'=true)
  (hx:a.eval x=.slice A n c) (hb1:0<bytes) (hmul:(l.length+n)*bytes≤140737488355328) (hbase:base≤w0.heap.size)
  (h:∀ v' w',OwnL sz enc e base w' v' (l++news)→Chg (fun k=>k<w0.heap.size∧¬ v.ownBlock=some k) w0 w'→Chg (· < base) w0 w'→wpList P ops Q rest (a.put o.dst v') w') :
  wpList P ops Q (o::rest) a w0 :=
 wpList_plain hgd fun _ hK=>wp_append_rqW w0 s x t ho base e z sz bytes ht hi hzs hsz hby v l hown hs A n c news hrd hlen h1 hx hb1 hmul hbase fun v' w' h2 h3 h4=>hK _ _ (h v' w' h2 h3 h4)
set_option maxRecDepth 100000 in
set_option maxHeartbeats 2000000 in
theorem clone_i (a:Option Addr) (n c:Nat) (l:List Int) (w:World) (h:Sl 1 encI w a n l) (hn:n≤17592186044416) :
  Calls Tryz.prog 106 #[.slice a n c] w fun e w'=>∃ v,e=.returned v∧OwnL 1 encI 3 w.heap.size w' v l∧Ex w w':=by
 have HL:=lH h.len
 cases a with
 | none =>
  have hn0:n=0:=by
   rcases h.2 with h0 | ⟨x,o,e,_⟩
   ·exact h0
   ·cases e
  have hl:l=[]:=List.eq_nil_of_length_eq_zero (HL.out.trans hn0)
  subst hn0 hl
  clear h HL
  have hq:∀ w:World,(binOp .eql 22 (.slice none 0 c) (.slice none 0 0)).run Tryz.prog w=.ok (.bool true) w:=fun w=>Lib.run_eql_slice_nil w 22 3 none 0 c 0 0 Tryz.underlying22
  go_enter Tryz.func106,Tryz.ntmps106
  go_wp2
  go_ret
  exact ⟨_,rfl,OwnL.nil _ _ _ _ _,Ex.refl _⟩
 | some A =>
  have q0:=Ex.new w (.cells #[] 3)
  have h0:=h.nx q0
  have own0:OwnL 1 encI 3 w.heap.size (w.alloc (.cells #[] 3)) (.slice (some ⟨w.heap.size,0,none⟩) 0 0) []:=OwnL.empty (Nat.le_refl _) rfl
  clear h
  have hq:∀ w:World,(binOp .eql 22 (.slice (some A) n c) (.slice none 0 0)).run Tryz.prog w=.ok (.bool false) w:=fun w=>Lib.run_eql_slice_nil w 22 3 (some A) n c 0 0 Tryz.underlying22
  go_enter Tryz.func106,Tryz.ntmps106
  go_wp2_with (at_builtin;(refine wpList_append_rqW (enc:=encI) _ rfl _ _ 22 rfl w.heap.size 3 (.int .i64 0) 1 8 Tryz.underlying22 Tryz.infoI6 rfl (by omega) (by omega) _ [] own0 rfl (some A) n c l h0 (fun _=>rfl) (by simp [encI,Value.oneCell']) rfl (by omega) (by simp;omega) (by simp) ?_);intro v1 w1 own1 hch0 hch1)
  go_ret
  exact ⟨_,rfl,by simpa using own1,Chg.trans q0 hch1⟩
set_option maxRecDepth 100000 in
set_option maxHeartbeats 2000000 in
theorem clone_nr (a:Option Addr) (n c:Nat) (l:List Nr) (w:World) (h:Sl 4 encNr w a n l) (hn:n≤4398046511104) :
  Calls Tryz.prog 107 #[.slice a n c] w fun e w'=>∃ v,e=.returned v∧OwnL 4 encNr 158 w.heap.size w' v l∧Ex w w':=by
 have HL:=lH h.len
 cases a with
 | none =>
  have hn0:n=0:=by
   rcases h.2 with h0 | ⟨x,o,e,_⟩
   ·exact h0
   ·cases e
  have hl:l=[]:=List.eq_nil_of_length_eq_zero (HL.out.trans hn0)
  subst hn0 hl
  clear h HL
  have hq:∀ w:World,(binOp .eql 148 (.slice none 0 c) (.slice none 0 0)).run Tryz.prog w=.ok (.bool true) w:=fun w=>Lib.run_eql_slice_nil w 148 158 none 0 c 0 0 Tryz.underlying148
  go_enter Tryz.func107,Tryz.ntmps107
  go_wp2
  go_ret
  exact ⟨_,rfl,OwnL.nil _ _ _ _ _,Ex.refl _⟩
 | some A =>
  have q0:=Ex.new w (.cells #[] 158)
  have h0:=h.nx q0
  have own0:OwnL 4 encNr 158 w.heap.size (w.alloc (.cells #[] 158)) (.slice (some ⟨w.heap.size,0,none⟩) 0 0) []:=OwnL.empty (Nat.le_refl _) rfl
  clear h
  have hq:∀ w:World,(binOp .eql 148 (.slice (some A) n c) (.slice none 0 0)).run Tryz.prog w=.ok (.bool false) w:=fun w=>Lib.run_eql_slice_nil w 148 158 (some A) n c 0 0 Tryz.underlying148
  go_enter Tryz.func107,Tryz.ntmps107
  go_wp2_with (at_builtin;(refine wpList_append_rqW (enc:=encNr) _ rfl _ _ 148 rfl w.heap.size 158 (.agg #[.int .i64 0,.int .i64 0,.int .i64 0,.int .i64 0]) 4 32 Tryz.underlying148 Tryz.infoNr rfl (by omega) (by omega) _ [] own0 rfl (some A) n c l h0 (fun _=>rfl) (by simp [encNr,Value.oneCell']) rfl (by omega) (by simp;omega) (by simp) ?_);intro v1 w1 own1 hch0 hch1)
  go_ret
  exact ⟨_,rfl,by simpa using own1,Chg.trans q0 hch1⟩
theorem sum_take_succ (l:List Nat) (k u:Nat) (h:l[k]?=some u):(l.take (k+1)).sum=(l.take k).sum+u:=by
 rw [List.take_add_one,h];simp
theorem sum_take_le (l:List Nat) (k:Nat):(l.take k).sum≤l.sum:=by
 conv=>rhs;rw [← List.take_append_drop k l]
 rw [List.sum_append];omega
theorem bit_pE (a:Nat) (i:Int) (w:World) (ha:a<4294967296) (hi1:-9223372036854775808≤i) (hi2:i≤9223372036854775807) :
  Calls Tryz.prog 129 #[.int .u32 a,.int .i64 i] w fun e w'=>e=.returned (.int .i64 (bitN a i))∧Ex w w' :=
 (bit_p a i w ha hi1 hi2).mono fun _ _ h=>⟨h.1,by rw [← h.2];exact Ex.refl _⟩
theorem lk_at {base:Nat} {w:World} {v:Value} {qs:List (Int×Hdr)} {L:List Lkd} (h:OwnLk base w v qs L) {p j:Nat} {c:Lkd} {q:Int×Int} (hp:L[p]?=some c) (hj:c.2[j]?=some q) :
  ∃ g cap g' cap',v=.slice (some ⟨g,0,none⟩) L.length cap∧g<w.heap.size∧base≤g∧¬ InQ qs g∧w.cell? ⟨g,p*2,none⟩=some (.int .i64 c.1)∧w.cell? ⟨g,p*2+1,none⟩=some (.slice (some ⟨g',0,none⟩) c.2.length cap')∧InQ qs g' ∧
   w.cell? ⟨g',j*2,none⟩=some (.int .i64 q.1)∧w.cell? ⟨g',j*2+1,none⟩=some (.int .i64 q.2)∧w.frozen? ⟨g',j*2,none⟩=false∧w.frozen? ⟨g',j*2+1,none⟩=false ∧
   (∀ u:Int,OwnLk base (w.setCell ⟨g',j*2,none⟩ (.int .i64 u)) v qs (L.set p (c.1,c.2.set j (u,q.2)))) ∧
   ∀ u:Int,OwnLk base (w.setCell ⟨g',j*2+1,none⟩ (.int .i64 u)) v qs (L.set p (c.1,c.2.set j (q.1,u))):=by
 have hpl:=(List.getElem?_eq_some_iff.1 hp).1
 have hjl:=(List.getElem?_eq_some_iff.1 hj).1
 obtain ⟨hd1,hq,ho⟩:=OwnN.get (p:=1) h hp
 obtain ⟨a,cap,e,r,c1,c2,c3,c4⟩:=h.1.rd (fun _=>rfl)
 have hlen:qs.length=L.length:=h.2.1
 obtain ⟨g,hga,hgb⟩:=c3 (by intro h0;rw [h0] at hlen;simp at hlen;omega)
 cases hga
 subst e
 have hvb:(Value.slice (some ⟨g,0,none⟩) qs.length cap).ownBlock=some g:=rfl
 have hhd:∃ g' cap',hd1.val=.slice (some ⟨g',0,none⟩) c.2.length cap':=by
  rcases ho.2 with ⟨h1,h2⟩ | ⟨g',cap',cur,h1,_⟩
  ·exfalso;omega
  ·exact ⟨g',cap',h1⟩
 obtain ⟨g',cap',hv'⟩:=hhd
 have hinq:InQ qs g':=⟨p,_,hq,by rw [hv'];rfl⟩
 have hcell0:=(h.1.set1 (sz:=2) (enc:=encP encI) (c:=0) (fun _=>rfl) hq (by omega)).1
 have hcell:=(h.1.set1 (sz:=2) (enc:=encP encI) (c:=1) (fun _=>rfl) hq (by omega)).1
 rw [hv'] at ho
 obtain ⟨q0,f0,O0⟩:=own_set1 (sz:=2) (enc:=encS) (c:=0) (fun _=>rfl) ho hj (by omega)
 obtain ⟨q1,f1,O1⟩:=own_set1 (sz:=2) (enc:=encS) (c:=1) (fun _=>rfl) ho hj (by omega)
 have hgl:g<w.heap.size:=by obtain ⟨_,cur,hc⟩:=OwnW.blk h.1 hvb;exact heap_lt hc
 have key:∀ (d:Nat) (u:Value) (row':List (Int×Int)),OwnL 2 encS 128 base (w.setCell ⟨g',j*2+d,none⟩ u) hd1.val row'→OwnLk base (w.setCell ⟨g',j*2+d,none⟩ u) (.slice (some ⟨g,0,none⟩) qs.length cap) qs (L.set p (c.1,row')):=by
  intro d u row' ho'
  exact OwnN.keep (by decide) h hq ho' ((Chg.refl _ w).setCell _ (fun x hx he=>hx.2 (by rw [hv',he];rfl)))
 refine ⟨g,cap,g',cap',by rw [hlen],hgl,hgb,inQ_ne h hvb,hcell0,?_,hinq,q0,q1,f0,f1,fun u=>?_,fun u=>?_⟩
 ·rw [← hv']
  exact hcell
 ·refine key 0 _ _ ?_
  rw [hv']
  exact O0 (u,q.2) (.int .i64 u) rfl
 ·refine key 1 _ _ ?_
  rw [hv']
  exact O1 (q.1,u) (.int .i64 u) rfl
def JnsRel (L:List Lkd) (left right:Int) (lev base:Nat) (v:Value) (qs:List (Int×Hdr)) (w:World) (i:Value) (wr:World):Prop :=
 ∃ k:Nat,k≤L.length∧i=.int .i64 k∧OwnLk base wr v qs (updF (setJ left right lev) L k)∧Exq qs w wr
theorem setJ_of {left right:Int} {lev:Nat} {c:Lkd} {q:Int×Int} (hq:c.2[lev]?=some q):setJ left right lev c=(c.1,c.2.set lev (if c.1=right then left else q.1,if c.1=left then right else q.2)):=by
 unfold setJ
 rw [mod_set hq]
 rfl
theorem setJ_no {left right:Int} {lev:Nat} {c:Lkd} {q:Int×Int} (hq:c.2[lev]?=some q) (h1:c.1≠left) (h2:c.1≠right):setJ left right lev c=c:=by
 rw [setJ_of hq,if_neg h1,if_neg h2]
 obtain ⟨hl,he⟩:=List.getElem?_eq_some_iff.1 hq
 have:c.2.set lev (q.1,q.2)=c.2:=by
  rw [← he]
  exact List.set_getElem_self hl
 rw [this]
set_option maxRecDepth 100000 in
set_option maxHeartbeats 4000000 in
theorem join_p (v:Value) (qs:List (Int×Hdr)) (L:List Lkd) (left right:Int) (lev base:Nat) (w:World) (h:OwnLk base w v qs L) (hn:L.length≤1000) (hl:∀ c∈L,lev<c.2.length) :
  Calls Tryz.prog 112 #[v,.int .i64 left,.int .i64 right,.int .i64 lev] w fun e w'=>e=.returned (.tuple #[])∧OwnLk base w' v qs (joinJ L left right lev)∧Exq qs w w':=by
 obtain ⟨a,cp,e,_,_,_,_⟩:=h.1.rd (fun _=>rfl)
 have hlen:qs.length=L.length:=h.2.1
 rw [hlen] at e
 have HV:=lH e
 have HLV:=lH hl
 have R0:=lH (show JnsRel L left right lev base v qs w (.int .i64 0) w from ⟨0,by omega,rfl,by rw [updF_zero];exact h,Exq.refl _ _⟩)
 subst e
 clear hl h hlen
 go_enter Tryz.func112,Tryz.ntmps112
 go_wp2_with fail
 go_loopw [11] (fun i wr=>JnsRel L left right lev base (.slice a L.length cp) qs w i wr) (fun i _=>L.length-(intOf i).toNat)
 case atStart=>exact R0.out
 case round =>
  clear R0
  obtain ⟨k,hk,rfl,own,kq⟩:=hrel
  obtain ⟨wi,rfl⟩:∃ wi:World,wi=wr:=⟨_,rfl⟩
  by_cases hkn:k<L.length
  ·obtain ⟨c,hc⟩:∃ c,L[k]?=some c:=⟨L[k]'hkn,by simp⟩
   have hcl:=HLV.out c (List.mem_of_getElem? hc)
   obtain ⟨q,hq⟩:∃ q,c.2[lev]?=some q:=⟨c.2[lev]'hcl,by simp⟩
   have hck:=updF_get (T:=setJ left right lev) hc
   obtain ⟨g,cap,g',cap',hv,hgl,hgb,hniq,e0,e1,hinq,q0,q1,f0,f1,O0,O1⟩:=lk_at own hck hq
   rw [updF_len] at hv
   have hv2:a=some ⟨g,0,none⟩∧cp=cap:=by simpa using hv
   obtain ⟨rfl,rfl⟩:=hv2
   have KQ:=lH kq
   have OW:=lH own
   have OH1:=lH O1
   have OH0:=lH O0
   have HC:=lH hc
   have HQ:=lH hq
   have HCK:=lH hck
   have SJ:=lH (setJ_of (left:=left) (right:=right) hq)
   have hgg:¬ g'=g:=fun he=>hniq (he▸hinq)
   have hgg2:¬ g=g':=fun he=>hgg he.symm
   have hkI:(k:Int)<(L.length:Int):=by omega
   have hlI:(lev:Int)<(c.2.length:Int):=by omega
   have HIQ:=lH hinq
   have HNI:=lH hniq
   clear own kq O0 O1 hc hq hck hv hinq hniq
   by_cases h1:c.1=left
   ·by_cases h2:c.1=right
    ·have RR:=lH (fun (wz:World) (own:OwnLk base wz (.slice (some ⟨g,0,none⟩) L.length cp) qs ((updF (setJ left right lev) L k).set k (c.1,c.2.set lev (left,right)))) (kz:Exq qs wi wz)=>show JnsRel L left right lev base (.slice (some ⟨g,0,none⟩) L.length cp) qs w (.int .i64 ((k:Int)+1)) wz from
      ⟨k+1,by omega,by go_num,by rw [updF_succ HC.out,SJ.out,if_pos h1,if_pos h2];exact own,KQ.out.nxq kz⟩)
     have d1:(c.1==left)=true:=by simpa using h1
     have d2:(c.1==right)=true:=by simpa using h2
     clear SJ KQ
     go_upto_region 5 with fail
     obtain ⟨w1,hw1⟩:∃ w1,w1=wi.setCell ⟨g',lev*2+1,none⟩ (.int .i64 right):=⟨_,rfl⟩
     rw [← hw1]
     have own1:=OH1.out right
     rw [← hw1] at own1
     have k1:Exq qs wi w1:=by rw [hw1];exact (Exq.refl qs wi).set (p:=⟨g',lev*2+1,none⟩) _ HIQ.out
     have hks:((updF (setJ left right lev) L k).set k (c.1,c.2.set lev (q.1,right)))[k]?=some (c.1,c.2.set lev (q.1,right)):=List.getElem?_set_self (by rw [updF_len];exact hkn)
     have hqs:(c.1,c.2.set lev (q.1,right)).2[lev]?=some (q.1,right):=List.getElem?_set_self hcl
     obtain ⟨g2,cap2,g2',cap2',hv,hgl2,hgb2,hniq2,e02,e12,hinq2,q02,q12,f02,f12,O02,O12⟩:=lk_at own1 hks hqs
     simp only [List.length_set,updF_len,List.set_set] at hv e02 e12 O02 O12
     have hv2:g=g2∧cp=cap2:=by simpa using hv
     obtain ⟨rfl,rfl⟩:=hv2
     have OH:=lH O02
     have HI2:=lH hinq2
     have K1:=lH k1
     clear hw1 own1 k1 hks hqs hv O02 O12 e0 e1 q0 q1 f0 f1 OH0 OH1 OW hinq2 hniq2
     go_wp2_with fail
     exact ⟨RR.out _ (OH.out left) (K1.out.nxq ((Exq.refl qs w1).set (p:=⟨g2',lev*2,none⟩) _ HI2.out)),by simp [intOf];omega⟩
    ·have RR:=lH (fun (wz:World) (own:OwnLk base wz (.slice (some ⟨g,0,none⟩) L.length cp) qs ((updF (setJ left right lev) L k).set k (c.1,c.2.set lev (q.1,right)))) (kz:Exq qs wi wz)=>show JnsRel L left right lev base (.slice (some ⟨g,0,none⟩) L.length cp) qs w (.int .i64 ((k:Int)+1)) wz from
      ⟨k+1,by omega,by go_num,by rw [updF_succ HC.out,SJ.out,if_pos h1,if_neg h2];exact own,KQ.out.nxq kz⟩)
     have d1:(c.1==left)=true:=by simpa using h1
     have d2:(c.1==right)=false:=by simpa using h2
     clear SJ KQ
     go_upto_region 5 with fail
     obtain ⟨w1,hw1⟩:∃ w1,w1=wi.setCell ⟨g',lev*2+1,none⟩ (.int .i64 right):=⟨_,rfl⟩
     rw [← hw1]
     have own1:=lH (OH1.out right)
     rw [← hw1] at own1
     have k1:Exq qs wi w1:=by rw [hw1];exact (Exq.refl qs wi).set (p:=⟨g',lev*2+1,none⟩) _ HIQ.out
     have K1:=lH k1
     have e02:w1.cell? ⟨g,k*2,none⟩=some (.int .i64 c.1):=Chg.cellv k1 e0 ⟨hgl,HNI.out⟩
     clear hw1 k1 e0 e1 q0 q1 f0 f1 OH0 OH1 OW
     go_wp2_with fail
     exact ⟨RR.out _ own1.out K1.out,by simp [intOf];omega⟩
   ·by_cases h2:c.1=right
    ·have RR:=lH (fun (wz:World) (own:OwnLk base wz (.slice (some ⟨g,0,none⟩) L.length cp) qs ((updF (setJ left right lev) L k).set k (c.1,c.2.set lev (left,q.2)))) (kz:Exq qs wi wz)=>show JnsRel L left right lev base (.slice (some ⟨g,0,none⟩) L.length cp) qs w (.int .i64 ((k:Int)+1)) wz from
      ⟨k+1,by omega,by go_num,by rw [updF_succ HC.out,SJ.out,if_neg h1,if_pos h2];exact own,KQ.out.nxq kz⟩)
     have d1:(c.1==left)=false:=by simpa using h1
     have d2:(c.1==right)=true:=by simpa using h2
     clear SJ KQ OH1 OW
     go_wp2_with fail
     exact ⟨RR.out _ (OH0.out left) ((Exq.refl qs wi).set (p:=⟨g',lev*2,none⟩) _ HIQ.out),by simp [intOf];omega⟩
    ·have RR:=lH (show JnsRel L left right lev base (.slice (some ⟨g,0,none⟩) L.length cp) qs w (.int .i64 ((k:Int)+1)) wi from
      ⟨k+1,by omega,by go_num,by rw [updF_same HC.out (setJ_no HQ.out h1 h2)];exact OW.out,KQ.out⟩)
     have d1:(c.1==left)=false:=by simpa using h1
     have d2:(c.1==right)=false:=by simpa using h2
     clear SJ KQ OH0 OH1 OW
     go_wp2_with fail
     exact ⟨RR.out,by simp [intOf];omega⟩
  ·obtain rfl:k=L.length:=by omega
   rw [updF_all] at own
   have OW:=lH own
   have KQ:=lH kq
   clear own kq
   go_wp2_with fail
   go_end0
   exact ⟨rfl,OW.out,KQ.out⟩
theorem unt_at {lev:Nat} {x:Nd} {l:List Nd} {k:Nat} {y:Nd} (hy:l[k]?=some y) (hb:bitN y.word lev=bitN x.word lev) (hno:∀ j z,j<k→l[j]?=some z→bitN z.word lev≠bitN x.word lev):untN lev x l=k+1:=by
 unfold untN
 have hk:=List.getElem?_eq_some_iff.1 hy
 have:l.findIdx? (fun y=>bitN y.word lev==bitN x.word lev)=some k:=by
  rw [List.findIdx?_eq_some_iff_getElem]
  have hk1:=hk.1
  refine ⟨hk.1,by rw [hk.2];simpa using hb,fun j hj=>?_⟩
  have:=hno j _ hj (List.getElem?_eq_getElem (by omega))
  simpa using this
 rw [this]
theorem unt_none {lev:Nat} {x:Nd} {l:List Nd} (hno:∀ j z,j<l.length→l[j]?=some z→bitN z.word lev≠bitN x.word lev):untN lev x l=l.length:=by
 unfold untN
 have:l.findIdx? (fun y=>bitN y.word lev==bitN x.word lev)=none:=by
  rw [List.findIdx?_eq_none_iff]
  intro y hy
  obtain ⟨j,hj⟩:=List.mem_iff_getElem?.1 hy
  simpa using hno j y (List.getElem?_eq_some_iff.1 hj).1 hj
 rw [this]
set_option maxRecDepth 100000 in
set_option maxHeartbeats 4000000 in
theorem until_p (a:Option Addr) (n c:Nat) (l:List Nd) (lev:Nat) (x:Nd) (w:World) (h:Sl 3 encN w a n l) (hn:n≤1000) (hw:∀ x∈l,x.word<4294967296) (hlev:lev≤1000) :
  Calls Tryz.prog 130 #[.slice a n c,.int .i64 lev,.int .i64 (bitN x.word lev)] w fun e w'=>e=.returned (.int .i64 (untN lev x l))∧Ex w w':=by
 have HL:=lH h.len
 have HW:=lH hw
 have HS:=lH h
 clear h hw
 go_enter Tryz.func130,Tryz.ntmps130
 go_wp2_with fail
 go_loopw [11] (fun i wr=>∃ k:Nat,k≤n∧i=.int .i64 k∧Ex w wr∧∀ j z,j<k→l[j]?=some z→bitN z.word lev≠bitN x.word lev) (fun i _=>n-(intOf i).toNat)
 case atStart=>exact ⟨0,by omega,rfl,Ex.refl _,fun j z h=>by omega⟩
 case round =>
  obtain ⟨k,hk,rfl,kw,hno⟩:=hrel
  obtain ⟨wi,rfl⟩:∃ wi:World,wi=wr:=⟨_,rfl⟩
  have HNO:=lH hno
  have KW:=lH kw
  by_cases hkn:k<n
  ·obtain ⟨x1,o1,y,rfl,hx1,hy,hc1⟩:=(HS.out.nx kw).at hkn
   have e0:wi.cell? ⟨x1,o1+k*3,none⟩=some (.int .i64 y.id):=hc1 0 _ rfl
   have e1:wi.cell? ⟨x1,o1+k*3+1,none⟩=some (.string y.key):=hc1 1 _ rfl
   have e2:wi.cell? ⟨x1,o1+k*3+1+1,none⟩=some (.int .u32 y.word):=by simpa [Nat.add_assoc] using hc1 2 _ rfl
   have HY:=lH hy
   have hyw:=HW.out y (List.mem_of_getElem? hy)
   clear hc1 hy kw hno
   have B8:=Blk.new wi [.int .i64 y.id,.string y.key,.int .u32 y.word] 36
   have kk:=Ex.new wi (.cells #[.int .i64 y.id,.string y.key,.int .u32 y.word] 36)
   obtain ⟨w2,hw2⟩:∃ w2,w2=wi.alloc (.cells #[.int .i64 y.id,.string y.key,.int .u32 y.word] 36):=⟨_,rfl⟩
   obtain ⟨g8,hg8⟩:∃ g8,g8=wi.heap.size:=⟨_,rfl⟩
   replace B8:Blk w2 g8 [.int .i64 y.id,.string y.key,.int .u32 y.word] 36:=by rw [hw2,hg8];exact B8
   rw [← hw2] at kk
   have Hw2:=lH hw2
   have Hg8:=lH hg8
   replace KW:=lH (KW.out.nx kk)
   clear kk hw2 hg8
   go_upto_region 4 with fail
   rw [← Hg8.out,← Hw2.out]
   clear Hg8 Hw2
   clear e0 e1 e2
   have p2:=B8.cell 2 _ rfl
   go_wp2_with fail
   (with_reducible refine (bit_pE y.word lev _ hyw (by omega) (by omega)).mono ?_)
   rintro e w3 ⟨rfl,kk⟩
   replace KW:=lH (KW.out.nx kk)
   clear kk p2 B8
   by_cases hb:bitN y.word lev=bitN x.word lev
   ·have E:=lH (unt_at HY.out hb HNO.out)
    have d1:(((bitN y.word lev:Nat):Int)==((bitN x.word lev:Nat):Int))=true:=by rw [beq_iff_eq];omega
    have hw1:IntKind.i64.wrap ((k:Int)+1)=(k:Int)+1:=IntWalk.i64_in _ (by omega)
    clear hb
    go_wp2_with fail
    go_ret
    exact ⟨by rw [E.out];go_num,KW.out⟩
   ·have d1:(((bitN y.word lev:Nat):Int)==((bitN x.word lev:Nat):Int))=false:=by rw [beq_eq_false_iff_ne];omega
    have RR:Hid (∀ j z,j<k+1→l[j]?=some z→bitN z.word lev≠bitN x.word lev):=lH (fun j z hj hz=>by
     by_cases hjk:j=k
     ·subst hjk
      rw [HY.out] at hz
      cases hz
      exact hb
     ·exact HNO.out j z (by omega) hz)
    clear hb
    go_wp2_with fail
    exact ⟨⟨k+1,by omega,by go_num,KW.out,RR.out⟩,by simp [intOf];omega⟩
  ·obtain rfl:k=n:=by omega
   have E:Hid (untN lev x l=k):=lH (by rw [unt_none (fun j z hj hz=>HNO.out j z (by have:=HL.out;omega) hz),HL.out])
   clear hno kw
   go_wp2_with fail
   go_ret
   exact ⟨by rw [E.out];rfl,KW.out⟩
abbrev OwnPr (base:Nat) (w:World) (v:Value) (qs:List PQ) (P:List Pr):Prop:=OwnP 150 3 158 base w v qs P
def PlPost (P:List Pr) (w:World) (e:Ending) (w':World):Prop:=∃ v qs,e=.returned v∧OwnPr w.heap.size w' v qs P∧Ex w w'
theorem OwnP.app {eP eI eN:TypeId} (hI:eP≠eI) (hN:eP≠eN) {base:Nat} {w0 w1 w2:World} {v v':Value} {qs:List PQ} {P:List Pr} {p:Pr} {hk hn:Hdr} (h:OwnP eP eI eN base w0 v qs P) (hb:base≤w0.heap.size) (kk:Ex w0 w1)
  (ik:OwnL 1 encI eI w0.heap.size w1 hk.val p.known) (inr:OwnL 4 encNr eN w0.heap.size w1 hn.val p.near)
  (ho:OwnW 5 encQ eP base w2 v' (qs++[(p.nums,hk,hn)])) (k:Chg (fun k=>k<w1.heap.size∧¬ v.ownBlock=some k) w1 w2):OwnP eP eI eN base w2 v' (qs++[(p.nums,hk,hn)]) (P++[p]):=by
 refine (h.nx kk).push hI hN ho k (ik.base hb) (inr.base hb) (fun j r g hr hg hv=>?_) (fun j r g hr hg hv=>?_)
 ·obtain ⟨q,_,_,r2,_⟩:=h.getp hr
  have h1:=(r2.lt g hg).2
  have h2:=(ik.lt g hv).1
  omega
 ·obtain ⟨q,_,_,_,r3⟩:=h.getp hr
  have h1:=(r3.lt g hg).2
  have h2:=(inr.lt g hv).1
  omega
theorem PL.rd {w:World} {a:Option Addr} {n:Nat} {P:List Pr} (h:PL w a n P) {j:Nat} (hj:j<n) :
  ∃ (x o:Nat) (a1:Option Addr) (n1 c1:Nat) (a2:Option Addr) (n2 c2:Nat) (p:Pr),a=some ⟨x,o,none⟩∧x<w.heap.size∧P[j]?=some p∧w.cell? ⟨x,o+j*5,none⟩=some (.int .i64 p.id)∧w.cell? ⟨x,o+j*5+1,none⟩=some (.slice a1 n1 c1) ∧
   w.cell? ⟨x,o+j*5+1+1,none⟩=some (.int .i64 p.left)∧w.cell? ⟨x,o+j*5+1+1+1,none⟩=some (.int .i64 p.right)∧w.cell? ⟨x,o+j*5+1+1+1+1,none⟩=some (.slice a2 n2 c2)∧Sl 1 encI w a1 n1 p.known∧Sl 4 encNr w a2 n2 p.near:=by
 obtain ⟨x,o,a1,n1,c1,a2,n2,c2,p,e1,e2,e3,e4,e5,e6⟩:=h.at hj
 exact ⟨x,o,a1,n1,c1,a2,n2,c2,p,e1,e2,e3,e4 0 _ rfl,e4 1 _ rfl,e4 2 _ rfl,e4 3 _ rfl,e4 4 _ rfl,e5,e6⟩
def SmallP (P:List Pr):Prop:=∀ p∈P,p.known.length≤17592186044416∧p.near.length≤4398046511104
theorem OwnP.row {eP eI eN:TypeId} {base:Nat} {w:World} {v:Value} {qs:List PQ} {P:List Pr} (h:OwnP eP eI eN base w v qs P):OwnW 5 encQ eP base w v qs:=h.1
theorem encQ_one (q:PQ):∀ u∈encQ q,u.oneCell'=true:=by
 intro u hu
 simp only [encQ,List.mem_cons,List.not_mem_nil,or_false] at hu
 rcases hu with rfl | rfl | rfl | rfl | rfl<;>rfl
def PeRel (P:List Pr) (id:Int) (n:Nat) (w:World) (i:Value) (wr:World):Prop :=
 ∃ k:Nat,k≤n∧i=.int .i64 k∧Ex w wr∧∀ j z,j<k→P[j]?=some z→z.id≠id
theorem peerN_at {P:List Pr} {id:Int} {k:Nat} {y:Pr} (hy:P[k]?=some y) (he:y.id=id) (hno:∀ j z,j<k→P[j]?=some z→z.id≠id):peerN P id=y:=by
 unfold peerN
 have hk:=(List.getElem?_eq_some_iff.1 hy)
 have hkl:=hk.1
 have:P.find? (fun p=>p.id==id)=some y:=by
  rw [List.find?_eq_some_iff_getElem]
  refine ⟨by simpa using he,k,hk.1,hk.2,fun j hj=>?_⟩
  have:=hno j _ hj (List.getElem?_eq_getElem (by omega))
  simpa using this
 rw [this]
 rfl
theorem peerN_none {P:List Pr} {id:Int} (hno:∀ j z,j<P.length→P[j]?=some z→z.id≠id):peerN P id=⟨id,0,0,[],[]⟩:=by
 unfold peerN
 have:P.find? (fun p=>p.id==id)=none:=by
  rw [List.find?_eq_none]
  intro x hx
  obtain ⟨j,hj⟩:=List.mem_iff_getElem?.1 hx
  simpa using hno j x (List.getElem?_eq_some_iff.1 hj).1 hj
 rw [this]
 rfl
section
variable {eP eI eN:TypeId} {base:Nat} {w w1:World} {v:Value} {qs:List PQ} {P:List Pr}
theorem OwnP.upd (h:OwnP eP eI eN base w v qs P) {a:Nat} {q':PQ} {p':Pr} {w2:World} (ha:a<qs.length) (row:OwnW 5 encQ eP base w2 v (qs.set a q')) (hq':q'.1=p'.nums)
  (oK:OwnL 1 encI eI base w2 q'.2.1.val p'.known) (oN:OwnL 4 encNr eN base w2 q'.2.2.val p'.near)
  (keep:∀ (j:Nat) (r:PQ) (d:Pr),j≠a→qs[j]?=some r→P[j]?=some d→OwnL 1 encI eI base w2 r.2.1.val d.known∧OwnL 4 encNr eN base w2 r.2.2.val d.near)
  (fk:∀ (j:Nat) (r:PQ) (g:Nat),j≠a→qs[j]?=some r→r.2.1.val.ownBlock=some g→¬ q'.2.1.val.ownBlock=some g)
  (fn:∀ (j:Nat) (r:PQ) (g:Nat),j≠a→qs[j]?=some r→r.2.2.val.ownBlock=some g→¬ q'.2.2.val.ownBlock=some g) :
  OwnP eP eI eN base w2 v (qs.set a q') (P.set a p'):=by
 have hl:=h.2.1
 refine ⟨row,by simp [hl],fun j r d hr hd=>?_,fun i j qi qj g hi hj gi gj=>?_,fun i j qi qj g hi hj gi gj=>?_⟩
 ·by_cases hja:j=a
  ·subst hja
   rw [List.getElem?_set_self ha] at hr
   rw [List.getElem?_set_self (by omega)] at hd
   cases hr
   cases hd
   exact ⟨hq',oK,oN⟩
  ·rw [List.getElem?_set_ne (fun h=>hja h.symm)] at hr hd
   exact ⟨(h.2.2.1 j r d hr hd).1,keep j r d hja hr hd⟩
 ·by_cases hia:i=a
  ·by_cases hja:j=a
   ·omega
   ·subst hia
    rw [List.getElem?_set_self ha] at hi
    rw [List.getElem?_set_ne (fun h=>hja h.symm)] at hj
    cases hi
    exact absurd gi (fk j qj g hja hj gj)
  ·rw [List.getElem?_set_ne (fun h=>hia h.symm)] at hi
   by_cases hja:j=a
   ·subst hja
    rw [List.getElem?_set_self ha] at hj
    cases hj
    exact absurd gj (fk i qi g hia hi gi)
   ·rw [List.getElem?_set_ne (fun h=>hja h.symm)] at hj
    exact h.2.2.2.1 i j qi qj g hi hj gi gj
 ·by_cases hia:i=a
  ·by_cases hja:j=a
   ·omega
   ·subst hia
    rw [List.getElem?_set_self ha] at hi
    rw [List.getElem?_set_ne (fun h=>hja h.symm)] at hj
    cases hi
    exact absurd gi (fn j qj g hja hj gj)
  ·rw [List.getElem?_set_ne (fun h=>hia h.symm)] at hi
   by_cases hja:j=a
   ·subst hja
    rw [List.getElem?_set_self ha] at hj
    cases hj
    exact absurd gj (fn i qi g hia hi gi)
   ·rw [List.getElem?_set_ne (fun h=>hja h.symm)] at hj
    exact h.2.2.2.2 i j qi qj g hi hj gi gj
theorem set_chg {g o:Nat} (w:World) (u:Value):Chg (fun k=>k<w.heap.size∧¬ k=g) w (w.setCell ⟨g,o,none⟩ u) :=
 (Chg.refl _ w).setCell (p:=⟨g,o,none⟩) u (fun k hk=>hk.2)
end
section
variable {eP eI eN:TypeId} {base:Nat} {w:World} {v:Value} {qs:List PQ} {P:List Pr}
theorem OwnP.swapN (hI:eP≠eI) (hN:eP≠eN) (hIN:eI≠eN) {g n cap:Nat} (h:OwnP eP eI eN base w (.slice (some ⟨g,0,none⟩) n cap) qs P) {a:Nat} {p:Pr} {hk hn hn':Hdr} {nr:List Nr} (hq:qs[a]?=some (p.nums,hk,hn)) (hp:P[a]?=some p)
  (A:OwnL 4 encNr eN base w hn'.val nr) (fn:∀ (j:Nat) (r:PQ) (g':Nat),j≠a→qs[j]?=some r→r.2.2.val.ownBlock=some g'→¬ hn'.val.ownBlock=some g') :
  w.cell? ⟨g,a*5+4,none⟩=some hn.val∧w.frozen? ⟨g,a*5+4,none⟩=false ∧
   OwnP eP eI eN base (w.setCell ⟨g,a*5+4,none⟩ hn'.val) (.slice (some ⟨g,0,none⟩) n cap) (qs.set a (p.nums,hk,hn')) (P.set a { p with near:=nr }):=by
 obtain ⟨s1,s2,s3⟩:=OwnW.set1 encQ_len h.1 hq (c:=4) (by omega)
 have ch:=set_chg (g:=g) (o:=a*5+4) w hn'.val
 have nN:∀ (j:Nat) (r:PQ) (d:Pr),qs[j]?=some r→P[j]?=some d→OwnL 4 encNr eN base (w.setCell ⟨g,a*5+4,none⟩ hn'.val) r.2.2.val d.near:=fun j r d hr hd =>
  (h.2.2.1 j r d hr hd).2.2.chg ch (fun x hx hv=>⟨hx,fun he=>by subst he;exact h.neN hN hr hv rfl⟩)
 have nK:∀ (j:Nat) (r:PQ) (d:Pr),qs[j]?=some r→P[j]?=some d→OwnL 1 encI eI base (w.setCell ⟨g,a*5+4,none⟩ hn'.val) r.2.1.val d.known:=fun j r d hr hd =>
  (h.2.2.1 j r d hr hd).2.1.chg ch (fun x hx hv=>⟨hx,fun he=>by subst he;exact h.neI hI hr hv rfl⟩)
 have A2:OwnL 4 encNr eN base (w.setCell ⟨g,a*5+4,none⟩ hn'.val) hn'.val nr:=A.chg ch (fun x hx hv=>⟨hx,fun he=>by
  subst he
  obtain ⟨_,c1,h1⟩:=A.blk hv
  obtain ⟨_,c2,h2⟩:=h.1.blk rfl
  exact blk_kind hN h2 h1⟩)
 refine ⟨s1,s2,h.upd (q':=(p.nums,hk,hn')) (p':={ p with near:=nr }) (List.getElem?_eq_some_iff.1 hq).1 (s3 _ _ rfl) rfl (show OwnL 1 encI eI base _ hk.val p.known from nK a (p.nums,hk,hn) p hq hp) A2 (fun j r d hj hr hd=>⟨nK j r d hr hd,nN j r d hr hd⟩) (fun j r g' hj hr hg hv=>?_) (fun j r g' hj hr hg hv=>fn j r g' hj hr hg hv)⟩
 exact hj (h.2.2.2.1 j a r _ g' hr hq hg hv)
end
def comb (p q:Pr):Pr:={ p with near:=q.near }
def mixP (P Q:List Pr) (j:Nat):List Pr:=(List.zipWith comb P Q).take j++P.drop j
theorem mixP_zero (P Q:List Pr):mixP P Q 0=P:=rfl
theorem mixP_len {P Q:List Pr} (h:P.length=Q.length) (j:Nat):(mixP P Q j).length=P.length:=by
 unfold mixP
 rw [List.length_append,List.length_take,List.length_zipWith,List.length_drop]
 omega
theorem mixP_all {P Q:List Pr} (h:P.length=Q.length):mixP P Q P.length=(P.zip Q).map fun q=>{ q.1 with near:=q.2.near }:=by
 unfold mixP
 rw [List.drop_length,List.append_nil,List.take_of_length_le (by rw [List.length_zipWith];omega),List.zip,List.map_zipWith]
 rfl
theorem mixP_at {P Q:List Pr} (h:P.length=Q.length) {j:Nat} {p:Pr} (hp:P[j]?=some p):(mixP P Q j)[j]?=some p:=by
 have hj:=(List.getElem?_eq_some_iff.1 hp).1
 unfold mixP
 rw [List.getElem?_append_right (by rw [List.length_take];omega),List.length_take,List.length_zipWith,show j-min j (min P.length Q.length)=0 by omega,List.getElem?_drop,Nat.add_zero]
 exact hp
theorem mixP_set {P Q:List Pr} (h:P.length=Q.length) {j:Nat} {p q:Pr} (hp:P[j]?=some p) (hq:Q[j]?=some q):(mixP P Q j).set j (comb p q)=mixP P Q (j+1):=by
 have hj:=(List.getElem?_eq_some_iff.1 hp).1
 apply List.ext_getElem?
 intro i
 unfold mixP
 by_cases hij:j=i
 ·subst hij
  rw [List.getElem?_set_self (by rw [List.length_append,List.length_take,List.length_zipWith,List.length_drop];omega),List.getElem?_append_left (by rw [List.length_take,List.length_zipWith];omega),List.getElem?_take,if_pos (by omega),List.getElem?_zipWith,hp,hq]
 ·rw [List.getElem?_set_ne hij]
  by_cases hl:i<j
  ·rw [List.getElem?_append_left (by rw [List.length_take,List.length_zipWith];omega),List.getElem?_append_left (by rw [List.length_take,List.length_zipWith];omega),List.getElem?_take,List.getElem?_take,if_pos hl,if_pos (by omega)]
  ·rw [List.getElem?_append_right (by rw [List.length_take,List.length_zipWith];omega),List.getElem?_append_right (by rw [List.length_take,List.length_zipWith];omega),List.getElem?_drop,List.getElem?_drop,List.length_take,List.length_take,List.length_zipWith]
   congr 1
   omega
def MixQ (S:Nat) (qs2:List PQ) (j:Nat) (qs:List PQ):Prop:=∀ (i:Nat) (q:PQ) (g:Nat),qs[i]?=some q→q.2.2.val.ownBlock=some g→g<S∨(i<j∧∃ q2,qs2[i]?=some q2∧q2.2.2=q.2.2)
theorem MixQ.start {eP eI eN:TypeId} {base S:Nat} {w:World} {v:Value} {qs qs2:List PQ} {P:List Pr} (h:OwnP eP eI eN base w v qs P) (hS:w.heap.size≤S):MixQ S qs2 0 qs:=fun i q g hq hg=>by
 obtain ⟨p,_,_,_,r3⟩:=h.getp hq
 exact .inl (Nat.lt_of_lt_of_le (r3.lt g hg).2 hS)
theorem MixQ.fn {eP eI eN:TypeId} {S:Nat} {w:World} {v:Value} {qs qs2:List PQ} {Q:List Pr} {j:Nat} {q2:PQ} (h:MixQ S qs2 j qs) (h2:OwnP eP eI eN S w v qs2 Q) (hq2:qs2[j]?=some q2) :
  ∀ (i:Nat) (r:PQ) (g':Nat),i≠j→qs[i]?=some r→r.2.2.val.ownBlock=some g'→¬ q2.2.2.val.ownBlock=some g':=fun i r g hij hr hg hv=>by
 obtain ⟨p,_,_,_,r3⟩:=h2.getp hq2
 have hS:=(r3.lt g hv).1
 rcases h i r g hr hg with h1 | ⟨_,q3,h3,h4⟩
 ·omega
 ·exact hij (h2.2.2.2.2 i j q3 q2 g h3 hq2 (by rw [h4];exact hg) hv)
theorem MixQ.step {S:Nat} {qs qs2:List PQ} {j:Nat} {q2 q':PQ} (h:MixQ S qs2 j qs) (hq2:qs2[j]?=some q2) (he:q2.2.2=q'.2.2):MixQ S qs2 (j+1) (qs.set j q'):=fun i q g hq hg=>by
 by_cases hij:j=i
 ·subst hij
  rw [List.getElem?_set] at hq
  simp at hq
  obtain ⟨_,rfl⟩:=hq
  exact .inr ⟨by omega,q2,hq2,he⟩
 ·rw [List.getElem?_set_ne hij] at hq
  rcases h i q g hq hg with h1 | ⟨h1,h2⟩
  ·exact .inl h1
  ·exact .inr ⟨by omega,h2⟩
end Go.Proofs.YthcholmhmcpooaaGreatDoor
