/- Shared texts. -/
import Derived.Test.YthdkeibapcaclaaGreatDoorFmAll20
set_option linter.unusedSimpArgs false
set_option linter.unusedVariables false

namespace Go.Proofs.YthdkeibapcaclaaGreatDoor
open Go.RowKit Go.Maps
theorem check_len {N:List Nd} (h0:checkN N=0):N.length≤64:=by
 unfold checkN at h0
 split at h0
 ·cases h0
 ·omega
theorem Tryz.infoNr:(Tryz.prog.info? 80).map (fun i=>(i.zero,i.size,i.bytes))=some (some (.agg #[.int .i64 0,.int .i64 0,.int .i64 0,.int .i64 0]),4,32):=by kernel_rfl
theorem Tryz.infoPr:(Tryz.prog.info? 36).map (fun i=>(i.zero,i.size,i.bytes))=some (some (.agg #[.int .i64 0,.slice none 0 0,.int .i64 0,.int .i64 0,.slice none 0 0]),5,72):=by kernel_rfl
theorem wp_append_rq {P:Program} {α:Type} {enc:α→List Value} {o:Oper} {a:Act} {K:Act→World→Prop} {Q:Exit→Act→World→Prop} (w0:World) (s x:Operand) (t:TypeId)
  (ho:o.op=.call { callee:=.builtin .append,args:=#[s,x],argTypes:=#[t,t] })
  (base:Nat) (e:TypeId) (z:Value) (sz bytes:Nat) (ht:P.underlying t=some (.slice e)) (hi:(P.info? e).map (fun i=>(i.zero,i.size,i.bytes))=some (some z,sz,bytes))
  (hzs:z.cells.size=sz) (hsz:0<sz) (hby:bytes≤65536)
  (v:Value) (l:List α) (hown:OwnL sz enc e base w0 v l) (hs:a.eval s=v) (A:Option Addr) (n c:Nat) (news:List α) (hrd:Sl sz enc w0 A n news) (hlen:∀ y,(enc y).length=sz) (h1:∀ y,∀ u∈enc y,u.oneCell'=true)
  (hx:a.eval x=.slice A n c) (hl:l.length≤100000000) (hn:n≤100000000) (hbase:base≤w0.heap.size)
  (h:∀ v' w',OwnL sz enc e base w' v' (l++news)→Chg (fun k=>k<w0.heap.size∧¬ v.ownBlock=some k) w0 w'→Chg (· < base) w0 w'→K (a.put o.dst v') w') :
  o.wp P a w0 K Q:=by
 by_cases hA:A=none→c=0
 ·exact wp_append_rd w0 s x t ho base e z sz bytes ht hi hzs hsz hby v l hown hs (· < w0.heap.size) A n c news hrd hA hlen h1 hx hl hn hbase h
 ·have hAn:A=none:=by
   cases A with
   | none=>rfl
   | some _=>exact absurd (fun h=>by cases h) hA
  subst hAn
  obtain ⟨i,hi,hz0,hz1,hz2⟩:=info_parts hi
  have hn0:n=0:=by
   rcases hrd.2 with h0 | ⟨x,o,e1,_⟩
   ·exact h0
   ·cases e1
  subst hn0
  have hnews:news=[]:=List.eq_nil_of_length_eq_zero hrd.1
  subst hnews
  have hrun:(Builtin.append_ #[t,t] o.type #[v,.slice none 0 c]).run P w0=.ok v w0:=by
   rcases hown.2 with ⟨rfl,_⟩ | ⟨g,cap,cur,rfl,_,_,hnc,_⟩
   ·simp [Builtin.append_,run_underlying ht,sizeOf,typeInfo,hi,Builtin.lenOf,Builtin.firstCells,loadCells,loadCellsFrom]
   ·simp [Builtin.append_,run_underlying ht,sizeOf,typeInfo,hi,Builtin.lenOf,Builtin.firstCells,hnc,storeCells,loadCells,loadCellsFrom]
  unfold Oper.wp execOp
  simp only [ho,resolve,invoke,builtin,Sem.run_bind,Sem.run_pure,Result.andThen_ok,List.map_toArray,List.map_cons,List.map_nil,hs,hx,hrun]
  exact h v w0 (by simpa using hown) (Chg.refl _ _) (Chg.refl _ _)
theorem wpList_append_rq {P:Program} {α:Type} {enc:α→List Value} {ops:Array Oper} {rest:List Oper} {o:Oper} {a:Act} {Q:Exit→Act→World→Prop} (w0:World) (hgd:o.guard=none) (s x:Operand) (t:TypeId)
  (ho:o.op=.call { callee:=.builtin .append,args:=#[s,x],argTypes:=#[t,t] })
  (base:Nat) (e:TypeId) (z:Value) (sz bytes:Nat) (ht:P.underlying t=some (.slice e)) (hi:(P.info? e).map (fun i=>(i.zero,i.size,i.bytes))=some (some z,sz,bytes))
  (hzs:z.cells.size=sz) (hsz:0<sz) (hby:bytes≤65536)
  (v:Value) (l:List α) (hown:OwnL sz enc e base w0 v l) (hs:a.eval s=v) (A:Option Addr) (n c:Nat) (news:List α) (hrd:Sl sz enc w0 A n news) (hlen:∀ y,(enc y).length=sz) (h1:∀ y,∀ u∈enc y,u.oneCell'=true)
  (hx:a.eval x=.slice A n c) (hl:l.length≤100000000) (hn:n≤100000000) (hbase:base≤w0.heap.size)
  (h:∀ v' w',OwnL sz enc e base w' v' (l++news)→Chg (fun k=>k<w0.heap.size∧¬ v.ownBlock=some k) w0 w'→Chg (· < base) w0 w'→wpList P ops Q rest (a.put o.dst v') w') :
  wpList P ops Q (o::rest) a w0 :=
 wpList_plain hgd fun _ hK=>wp_append_rq w0 s x t ho base e z sz bytes ht hi hzs hsz hby v l hown hs A n c news hrd hlen h1 hx hl hn hbase fun v' w' h2 h3 h4=>hK _ _ (h v' w' h2 h3 h4)
theorem wp_append_rqW {P:Program} {α:Type} {enc:α→List Value} {o:Oper} {a:Act} {K:Act→World→Prop} {Q:Exit→Act→World→Prop} (w0:World) (s x:Operand) (t:TypeId)
  (ho:o.op=.call { callee:=.builtin .append,args:=#[s,x],argTypes:=#[t,t] })
  (base:Nat) (e:TypeId) (z:Value) (sz bytes:Nat) (ht:P.underlying t=some (.slice e)) (hi:(P.info? e).map (fun i=>(i.zero,i.size,i.bytes))=some (some z,sz,bytes))
  (hzs:z.cells.size=sz) (hsz:0<sz) (hby:bytes≤65536)
  (v:Value) (l:List α) (hown:OwnL sz enc e base w0 v l) (hs:a.eval s=v) (A:Option Addr) (n c:Nat) (news:List α) (hrd:Sl sz enc w0 A n news) (hlen:∀ y,(enc y).length=sz) (h1:∀ y,∀ u∈enc y,u.oneCell'=true)
  (hx:a.eval x=.slice A n c) (hb1:0<bytes) (hmul:(l.length+n)*bytes≤140737488355328) (hbase:base≤w0.heap.size)
  (h:∀ v' w',OwnL sz enc e base w' v' (l++news)→Chg (fun k=>k<w0.heap.size∧¬ v.ownBlock=some k) w0 w'→Chg (· < base) w0 w'→K (a.put o.dst v') w') :
  o.wp P a w0 K Q:=by
 by_cases hA:A=none→c=0
 ·exact wp_append_rdW w0 s x t ho base e z sz bytes ht hi hzs hsz hby v l hown hs (· < w0.heap.size) A n c news hrd hA hlen h1 hx hb1 hmul hbase h
 ·have hAn:A=none:=by
   cases A with
   | none=>rfl
   | some _=>exact absurd (fun h=>by cases h) hA
  subst hAn
  obtain ⟨i,hi,hz0,hz1,hz2⟩:=info_parts hi
  have hn0:n=0:=by
   rcases hrd.2 with h0 | ⟨x,o,e1,_⟩
   ·exact h0
   ·cases e1
  subst hn0
  have hnews:news=[]:=List.eq_nil_of_length_eq_zero hrd.1
  subst hnews
  have hrun:(Builtin.append_ #[t,t] o.type #[v,.slice none 0 c]).run P w0=.ok v w0:=by
   rcases hown.2 with ⟨rfl,_⟩ | ⟨g,cap,cur,rfl,_,_,hnc,_⟩
   ·simp [Builtin.append_,run_underlying ht,sizeOf,typeInfo,hi,Builtin.lenOf,Builtin.firstCells,loadCells,loadCellsFrom]
   ·simp [Builtin.append_,run_underlying ht,sizeOf,typeInfo,hi,Builtin.lenOf,Builtin.firstCells,hnc,storeCells,loadCells,loadCellsFrom]
  unfold Oper.wp execOp
  simp only [ho,resolve,invoke,builtin,Sem.run_bind,Sem.run_pure,Result.andThen_ok,List.map_toArray,List.map_cons,List.map_nil,hs,hx,hrun]
  exact h v w0 (by simpa using hown) (Chg.refl _ _) (Chg.refl _ _)
theorem wpList_append_rqW {P:Program} {α:Type} {enc:α→List Value} {ops:Array Oper} {rest:List Oper} {o:Oper} {a:Act} {Q:Exit→Act→World→Prop} (w0:World) (hgd:o.guard=none) (s x:Operand) (t:TypeId)
  (ho:o.op=.call { callee:=.builtin .append,args:=#[s,x],argTypes:=#[t,t] })
  (base:Nat) (e:TypeId) (z:Value) (sz bytes:Nat) (ht:P.underlying t=some (.slice e)) (hi:(P.info? e).map (fun i=>(i.zero,i.size,i.bytes))=some (some z,sz,bytes))
  (hzs:z.cells.size=sz) (hsz:0<sz) (hby:bytes≤65536)
  (v:Value) (l:List α) (hown:OwnL sz enc e base w0 v l) (hs:a.eval s=v) (A:Option Addr) (n c:Nat) (news:List α) (hrd:Sl sz enc w0 A n news) (hlen:∀ y,(enc y).length=sz) (h1:∀ y,∀ u∈enc y,u.oneCell'=true)
  (hx:a.eval x=.slice A n c) (hb1:0<bytes) (hmul:(l.length+n)*bytes≤140737488355328) (hbase:base≤w0.heap.size)
  (h:∀ v' w',OwnL sz enc e base w' v' (l++news)→Chg (fun k=>k<w0.heap.size∧¬ v.ownBlock=some k) w0 w'→Chg (· < base) w0 w'→wpList P ops Q rest (a.put o.dst v') w') :
  wpList P ops Q (o::rest) a w0 :=
 wpList_plain hgd fun _ hK=>wp_append_rqW w0 s x t ho base e z sz bytes ht hi hzs hsz hby v l hown hs A n c news hrd hlen h1 hx hb1 hmul hbase fun v' w' h2 h3 h4=>hK _ _ (h v' w' h2 h3 h4)
set_option maxRecDepth 100000 in
set_option maxHeartbeats 2000000 in
theorem clone_i (a:Option Addr) (n c:Nat) (l:List Int) (w:World) (h:Sl 1 encI w a n l) (hn:n≤17592186044416) :
  Calls Tryz.prog 67 #[.slice a n c] w fun e w'=>∃ v,e=.returned v∧OwnL 1 encI 3 w.heap.size w' v l∧Ex w w':=by
 have HL:=lH h.len
 cases a with
 | none =>
  have hn0:n=0:=by
   rcases h.2 with h0 | ⟨x,o,e,_⟩
   ·exact h0
   ·cases e
  have hl:l=[]:=List.eq_nil_of_length_eq_zero (HL.out.trans hn0)
  subst hn0 hl
  clear h HL
  have hq:∀ w:World,(binOp .eql 22 (.slice none 0 c) (.slice none 0 0)).run Tryz.prog w=.ok (.bool true) w:=fun w=>Lib.run_eql_slice_nil w 22 3 none 0 c 0 0 Tryz.underlying22
  go_enter Tryz.func67,Tryz.ntmps67
  go_wp2
  go_ret
  exact ⟨_,rfl,OwnL.nil _ _ _ _ _,Ex.refl _⟩
 | some A =>
  have q0:=Ex.new w (.cells #[] 3)
  have h0:=h.nx q0
  have own0:OwnL 1 encI 3 w.heap.size (w.alloc (.cells #[] 3)) (.slice (some ⟨w.heap.size,0,none⟩) 0 0) []:=OwnL.empty (Nat.le_refl _) rfl
  clear h
  have hq:∀ w:World,(binOp .eql 22 (.slice (some A) n c) (.slice none 0 0)).run Tryz.prog w=.ok (.bool false) w:=fun w=>Lib.run_eql_slice_nil w 22 3 (some A) n c 0 0 Tryz.underlying22
  go_enter Tryz.func67,Tryz.ntmps67
  go_wp2_with (at_builtin;(refine wpList_append_rqW (enc:=encI) _ rfl _ _ 22 rfl w.heap.size 3 (.int .i64 0) 1 8 Tryz.underlying22 Tryz.infoI6 rfl (by omega) (by omega) _ [] own0 rfl (some A) n c l h0 (fun _=>rfl) (by simp [encI,Value.oneCell']) rfl (by omega) (by simp;omega) (by simp) ?_);intro v1 w1 own1 hch0 hch1)
  go_ret
  exact ⟨_,rfl,by simpa using own1,Chg.trans q0 hch1⟩
set_option maxRecDepth 100000 in
set_option maxHeartbeats 2000000 in
theorem clone_nr (a:Option Addr) (n c:Nat) (l:List Nr) (w:World) (h:Sl 4 encNr w a n l) (hn:n≤4398046511104) :
  Calls Tryz.prog 68 #[.slice a n c] w fun e w'=>∃ v,e=.returned v∧OwnL 4 encNr 80 w.heap.size w' v l∧Ex w w':=by
 have HL:=lH h.len
 cases a with
 | none =>
  have hn0:n=0:=by
   rcases h.2 with h0 | ⟨x,o,e,_⟩
   ·exact h0
   ·cases e
  have hl:l=[]:=List.eq_nil_of_length_eq_zero (HL.out.trans hn0)
  subst hn0 hl
  clear h HL
  have hq:∀ w:World,(binOp .eql 34 (.slice none 0 c) (.slice none 0 0)).run Tryz.prog w=.ok (.bool true) w:=fun w=>Lib.run_eql_slice_nil w 34 80 none 0 c 0 0 Tryz.underlying34
  go_enter Tryz.func68,Tryz.ntmps68
  go_wp2
  go_ret
  exact ⟨_,rfl,OwnL.nil _ _ _ _ _,Ex.refl _⟩
 | some A =>
  have q0:=Ex.new w (.cells #[] 80)
  have h0:=h.nx q0
  have own0:OwnL 4 encNr 80 w.heap.size (w.alloc (.cells #[] 80)) (.slice (some ⟨w.heap.size,0,none⟩) 0 0) []:=OwnL.empty (Nat.le_refl _) rfl
  clear h
  have hq:∀ w:World,(binOp .eql 34 (.slice (some A) n c) (.slice none 0 0)).run Tryz.prog w=.ok (.bool false) w:=fun w=>Lib.run_eql_slice_nil w 34 80 (some A) n c 0 0 Tryz.underlying34
  go_enter Tryz.func68,Tryz.ntmps68
  go_wp2_with (at_builtin;(refine wpList_append_rqW (enc:=encNr) _ rfl _ _ 34 rfl w.heap.size 80 (.agg #[.int .i64 0,.int .i64 0,.int .i64 0,.int .i64 0]) 4 32 Tryz.underlying34 Tryz.infoNr rfl (by omega) (by omega) _ [] own0 rfl (some A) n c l h0 (fun _=>rfl) (by simp [encNr,Value.oneCell']) rfl (by omega) (by simp;omega) (by simp) ?_);intro v1 w1 own1 hch0 hch1)
  go_ret
  exact ⟨_,rfl,by simpa using own1,Chg.trans q0 hch1⟩
def CpPost (p:Pr) (base:Nat) (w:World) (e:Ending) (w':World):Prop :=
 ∃ hk hn:Hdr,e=.returned (.agg #[.int .i64 p.id,hk.val,.int .i64 p.left,.int .i64 p.right,hn.val])∧OwnL 1 encI 3 base w' hk.val p.known∧OwnL 4 encNr 80 base w' hn.val p.near∧Ex w w'
set_option maxRecDepth 100000 in
set_option maxHeartbeats 2000000 in
theorem copypeer_r (p:Pr) (a1:Option Addr) (n1 c1:Nat) (a2:Option Addr) (n2 c2:Nat) (w:World) (h1:Sl 1 encI w a1 n1 p.known) (h2:Sl 4 encNr w a2 n2 p.near) (hn1:n1≤17592186044416) (hn2:n2≤4398046511104) :
  Calls Tryz.prog 115 #[.agg #[.int .i64 p.id,.slice a1 n1 c1,.int .i64 p.left,.int .i64 p.right,.slice a2 n2 c2]] w (CpPost p w.heap.size w):=by
 have EX:=Ex.refl w
 have S1:=lH h1
 have S2:=lH h2
 clear h1 h2
 obtain ⟨g1,hg1⟩:∃ g1,g1=w.heap.size:=⟨_,rfl⟩
 obtain ⟨g2,hg2⟩:∃ g2,g2=(w.heap.size+1):=⟨_,rfl⟩
 obtain ⟨w1,hw1⟩:∃ w1,w1=((w.alloc (.cells #[.int .i64 p.id,.slice a1 n1 c1,.int .i64 p.left,.int .i64 p.right,.slice a2 n2 c2] 36)).alloc (.cells #[.int .i64 0,.slice none 0 0,.int .i64 0,.int .i64 0,.slice none 0 0] 36)):=⟨_,rfl⟩
 have kk:Ex w w1:=by rw [hw1];exact (((Ex.refl w).alloc (.cells #[.int .i64 p.id,.slice a1 n1 c1,.int .i64 p.left,.int .i64 p.right,.slice a2 n2 c2] 36)).alloc (.cells #[.int .i64 0,.slice none 0 0,.int .i64 0,.int .i64 0,.slice none 0 0] 36))
 have B1:Blk w1 g1 [.int .i64 p.id,.slice a1 n1 c1,.int .i64 p.left,.int .i64 p.right,.slice a2 n2 c2] 36:=by rw [hw1];simp only [hg1,hg2];have hbk:=((Blk.new w [.int .i64 p.id,.slice a1 n1 c1,.int .i64 p.left,.int .i64 p.right,.slice a2 n2 c2] 36).nx (Ex.new _ (.cells #[.int .i64 0,.slice none 0 0,.int .i64 0,.int .i64 0,.slice none 0 0] 36)));simpa using hbk
 have B2:Blk w1 g2 [.int .i64 0,.slice none 0 0,.int .i64 0,.int .i64 0,.slice none 0 0] 36:=by rw [hw1];simp only [hg1,hg2];have hbk:=(Blk.new (w.alloc (.cells #[.int .i64 p.id,.slice a1 n1 c1,.int .i64 p.left,.int .i64 p.right,.slice a2 n2 c2] 36)) [.int .i64 0,.slice none 0 0,.int .i64 0,.int .i64 0,.slice none 0 0] 36);simpa using hbk
 have Hw1:=lH hw1
 have Hg1:=lH hg1
 have Hg2:=lH hg2
 replace EX:=EX.nx kk
 have hg1':w.heap.size≤g1:=by omega
 have hg2':w.heap.size≤g2:=by omega
 have h12:¬ g1=g2:=by omega
 have h21:¬ g2=g1:=by omega
 clear kk hw1 hg1 hg2
 go_enter Tryz.func115,Tryz.ntmps115
 go_upto_region 1 with fail
 rw [← Hw1.out,← Hg2.out,← Hg1.out]
 clear Hw1 Hg2 Hg1
 have hz1:=EX.size
 have q1:=B1.cell 1 _ rfl
 have h1:=S1.out.nx EX
 have own0:OwnL 1 encI 3 w1.heap.size w1 (.slice none 0 0) []:=OwnL.nil _ _ _ _ _
 go_upto_region 2 with (at_builtin;(refine wpList_append_rqW (enc:=encI) w1 rfl (.const (.slice none 0 0)) (.tmp 4) 22 rfl w1.heap.size 3 (.int .i64 0) 1 8 Tryz.underlying22 Tryz.infoI6 rfl (by omega) (by omega) _ [] own0 rfl a1 n1 c1 p.known h1 (fun _=>rfl) (by simp [encI,Value.oneCell']) rfl (by omega) (by simp;omega) (Nat.le_refl _) ?_);intro v1 w2 own1 ch0 ch1;rw [List.nil_append] at own1;obtain ⟨A1,C1,rfl,_,_,_,_⟩:=own1.slf (fun _=>rfl);have f1:=(B1.nx ch1).free 1;have r1:=(B1.nx ch1).cell 1 _ rfl;clear q1)
 have k2:Ex w1 w2:=ch1
 have L1:=B1.lt
 have L2:=B2.lt
 have k3:Ex w w2:=EX.nx k2
 obtain ⟨w3,hw3⟩:∃ w3,w3=w2.setCell ⟨g1,1,none⟩ (.slice A1 p.known.length C1):=⟨_,rfl⟩
 have k4:Ex w w3:=by rw [hw3];exact k3.setNew (p:=⟨g1,1,none⟩) _ hg1'
 have k5:Exb g1 w2 w3:=by rw [hw3];exact (Exb.refl g1 w2).setB (p:=⟨g1,1,none⟩) _ rfl
 replace B1:Blk w3 g1 [.int .i64 p.id,.slice A1 p.known.length C1,.int .i64 p.left,.int .i64 p.right,.slice a2 n2 c2] 36:=by rw [hw3];exact (B1.nx k2).set 1 _
 replace B2:=(B2.nx k2).nxb h21 k5
 replace own1:=own1.nxb L1 k5
 have z3:w1.heap.size≤w3.heap.size:=Nat.le_trans k2.size k5.size
 rw [← hw3]
 clear hw3 f1 r1 own0 h1 ch0 ch1 k2 k3 k5
 have q4:=B1.cell 4 _ rfl
 have h2:=S2.out.nx k4
 have own0:OwnL 4 encNr 80 w3.heap.size w3 (.slice none 0 0) []:=OwnL.nil _ _ _ _ _
 go_upto_region 3 with (at_builtin;(refine wpList_append_rqW (enc:=encNr) w3 rfl (.const (.slice none 0 0)) (.tmp 8) 34 rfl w3.heap.size 80 (.agg #[.int .i64 0,.int .i64 0,.int .i64 0,.int .i64 0]) 4 32 Tryz.underlying34 Tryz.infoNr rfl (by omega) (by omega) _ [] own0 rfl a2 n2 c2 p.near h2 (fun _=>rfl) (by simp [encNr,Value.oneCell']) rfl (by omega) (by simp;omega) (Nat.le_refl _) ?_);intro v4 w4 own4 ch0 ch1;rw [List.nil_append] at own4;obtain ⟨A4,C4,rfl,_,_,_,_⟩:=own4.slf (fun _=>rfl);have f1:=(B1.nx ch1).free 4;have r1:=(B1.nx ch1).cell 4 _ rfl;clear q4)
 have k2:Ex w3 w4:=ch1
 have L3:=B1.lt
 have k6:Ex w w4:=k4.nx k2
 replace own1:=own1.nx k2
 obtain ⟨w5,hw5⟩:∃ w5,w5=w4.setCell ⟨g1,4,none⟩ (.slice A4 p.near.length C4):=⟨_,rfl⟩
 have k7:Ex w w5:=by rw [hw5];exact k6.setNew (p:=⟨g1,4,none⟩) _ hg1'
 have k8:Exb g1 w4 w5:=by rw [hw5];exact (Exb.refl g1 w4).setB (p:=⟨g1,4,none⟩) _ rfl
 replace B1:Blk w5 g1 [.int .i64 p.id,.slice A1 p.known.length C1,.int .i64 p.left,.int .i64 p.right,.slice A4 p.near.length C4] 36:=by rw [hw5];exact (B1.nx k2).set 4 _
 replace B2:=(B2.nx k2).nxb h21 k8
 replace own1:=own1.nxb L1 k8
 replace own4:=own4.nxb L3 k8
 rw [← hw5]
 clear hw5 f1 r1 own0 h2 ch0 ch1 k2 k6 k8
 have p0:=B1.cell 0 _ rfl
 have p1:=B1.cell 1 _ rfl
 have p2:=B1.cell 2 _ rfl
 have p3:=B1.cell 3 _ rfl
 have p4:=B1.cell 4 _ rfl
 have q0:=B2.cell 0 _ rfl
 have q1:=B2.cell 1 _ rfl
 have q2:=B2.cell 2 _ rfl
 have q3:=B2.cell 3 _ rfl
 have q4:=B2.cell 4 _ rfl
 have f0:=B2.free 0
 have f1:=B2.free 1
 have f2:=B2.free 2
 have f3:=B2.free 3
 have f4:=B2.free 4
 have KE:=lH (((((k7.setNew (p:=⟨g2,0,none⟩) (.int .i64 p.id) hg2').setNew (p:=⟨g2,1,none⟩) (.slice A1 p.known.length C1) hg2').setNew (p:=⟨g2,2,none⟩) (.int .i64 p.left) hg2').setNew (p:=⟨g2,3,none⟩) (.int .i64 p.right) hg2').setNew (p:=⟨g2,4,none⟩) (.slice A4 p.near.length C4) hg2')
 have KB:Exb g2 w5 (((((w5.setCell ⟨g2,0,none⟩ (.int .i64 p.id)).setCell ⟨g2,1,none⟩ (.slice A1 p.known.length C1)).setCell ⟨g2,2,none⟩ (.int .i64 p.left)).setCell ⟨g2,3,none⟩ (.int .i64 p.right)).setCell ⟨g2,4,none⟩ (.slice A4 p.near.length C4)) :=
  (((((Exb.refl g2 w5).setB (p:=⟨g2,0,none⟩) _ rfl).setB (p:=⟨g2,1,none⟩) _ rfl).setB (p:=⟨g2,2,none⟩) _ rfl).setB (p:=⟨g2,3,none⟩) _ rfl).setB (p:=⟨g2,4,none⟩) _ rfl
 have O1:=lH ((own1.nxb L2 KB).base hz1)
 have O4:=lH ((own4.nxb (show g2<w3.heap.size by omega) KB).base (show w.heap.size≤w3.heap.size by omega))
 clear B1 B2 own1 own4 KB k4 k7 EX
 go_wp2_with fail
 refine bodyPost_ret (v:=.agg #[.int .i64 p.id,.slice A1 p.known.length C1,.int .i64 p.left,.int .i64 p.right,.slice A4 p.near.length C4]) (by simp [results,Tryz.results115,go_sem, *]) rfl ⟨(A1,p.known.length,C1),(A4,p.near.length,C4),rfl,O1.out,O4.out,KE.out⟩
def QuL (e:TypeId) (base:Nat) (w:World) (v:Value) (l:List Int):Prop :=
 (v=.slice none 0 0∧l=[])∨∃ (g o cap:Nat) (cur:Array Value),v=.slice (some ⟨g,o,none⟩) l.length cap∧base≤g∧w.heap[g]?=some (.cells cur e (0,0))∧l.length≤cap∧cap≤maxLen∧o+cap≤cur.size∧(cur.toList.drop o).take l.length=l.flatMap encI
section
variable {e:TypeId} {base:Nat} {w w':World} {v:Value} {l:List Int}
theorem flatI_len (l:List Int):(l.flatMap encI).length=l.length:=by
 induction l with
 | nil=>rfl
 | cons x l ih=>rw [List.flatMap_cons,List.length_append,ih,List.length_cons,show (encI x).length=1 from rfl];omega
theorem flatI_map (l:List Int):l.flatMap encI=l.map (Value.int .i64):=by
 induction l with
 | nil=>rfl
 | cons y r ih=>rw [List.flatMap_cons,ih];rfl
theorem QuL.ofL (h:OwnL 1 encI e base w v l):QuL e base w v l:=by
 rcases h.2 with ⟨h1,h2⟩ | ⟨g,cap,cur,h1,h2,h3,h4,h5,h6,h7⟩
 ·exact .inl ⟨h1,List.eq_nil_of_length_eq_zero h2⟩
 ·exact .inr ⟨g,0,cap,cur,h1,h2,h3,h4,h5,by omega,by simpa using h7⟩
theorem QuL.chg (h:QuL e base w v l) {S:Nat→Prop} (k:Chg S w w') (hs:∀ k,k<w.heap.size→v.ownBlock=some k→S k):QuL e base w' v l:=by
 rcases h with h | ⟨g,o,cap,cur,rfl,hb,hg,rest⟩
 ·exact .inl h
 ·exact .inr ⟨g,o,cap,cur,rfl,hb,(k.block g (hs g (heap_lt hg) rfl)).trans hg,rest⟩
theorem QuL.nx (h:QuL e base w v l) (k:Ex w w'):QuL e base w' v l:=h.chg k (fun _ hk _=>hk)
theorem QuL.lt (h:QuL e base w v l) {g:Nat} (hg:v.ownBlock=some g):base≤g∧g<w.heap.size:=by
 rcases h with ⟨rfl,_⟩ | ⟨g',o,cap,cur,rfl,hb,hh,_⟩
 ·cases hg
 ·cases hg
  exact ⟨hb,heap_lt hh⟩
theorem QuL.nxb {b:Nat} (h:QuL e base w v l) (hb:b<base) (k:Exb b w w'):QuL e base w' v l:=h.chg k (fun x hx hv=>⟨hx,by have:=(h.lt hv).1;omega⟩)
theorem QuL.front {x:Int} (h:QuL e base w v (x::l)):∃ g o cap,v=.slice (some ⟨g,o,none⟩) (l.length+1) cap∧g<w.heap.size∧base≤g∧1≤cap∧l.length+1≤cap∧w.cell? ⟨g,o,none⟩=some (.int .i64 x) ∧
  QuL e base w (.slice (some (if cap=1 then ⟨g,o,none⟩ else ⟨g,o+1,none⟩)) l.length (cap-1)) l:=by
 rcases h with ⟨_,h⟩ | ⟨g,o,cap,cur,rfl,hb,hg,h1,h2,h3,h4⟩
 ·cases h
 ·have h1':l.length+1≤cap:=by simpa using h1
  have hc:cur.toList[o]?=some (.int .i64 x):=by
   have:=congrArg (fun L:List Value=>L[0]?) h4
   simpa [List.getElem?_take,List.getElem?_drop,encI] using this
  refine ⟨g,o,cap,by simp,heap_lt hg,hb,by omega,h1',?_,?_⟩
  ·have:cur[o]?=some (.int .i64 x):=by simpa using hc
   simp [World.cell?,hg,this]
  ·have h5:(cur.toList.drop (o+1)).take l.length=l.flatMap encI:=by
    have hd:cur.toList.drop o=.int .i64 x::cur.toList.drop (o+1):=by
     obtain ⟨hlt,he⟩:=List.getElem?_eq_some_iff.1 hc
     rw [List.drop_eq_getElem_cons hlt,he]
    rw [hd,List.length_cons,List.take_succ_cons,List.flatMap_cons] at h4
    exact (List.cons.inj h4).2
   by_cases hcap:cap=1
   ·have hl0:l=[]:=List.eq_nil_of_length_eq_zero (by omega)
    subst hl0
    rw [if_pos hcap]
    exact .inr ⟨g,o,cap-1,cur,by simp,hb,hg,by simp,by omega,by omega,by simp⟩
   ·rw [if_neg hcap]
    exact .inr ⟨g,o+1,cap-1,cur,by simp,hb,hg,by omega,by omega,by omega,h5⟩
theorem QuL.append {P:Program} (h:QuL e base w v l) (t ty:TypeId) {z:Value} {bytes:Nat} (ht:P.underlying t=some (.slice e)) (hi:(P.info? e).map (fun i=>(i.zero,i.size,i.bytes))=some (some z,1,bytes)) (hzs:z.cells.size=1) (hby:bytes≤65536)
  {S:Nat→Prop} {A:Option Addr} {n c:Nat} {news:List Int} (hrd:Rd 1 encI S w A n news) (hA:A=none→c=0) (hl:l.length≤100000000) (hn:n≤100000000) (hbase:base≤w.heap.size) :
  ∃ v' w',(Builtin.append_ #[t,t] ty #[v,.slice A n c]).run P w=.ok v' w'∧QuL e base w' v' (l++news)∧Chg (fun k=>k<w.heap.size∧¬ v.ownBlock=some k) w w'∧Chg (· < base) w w'∧(v'.ownBlock=v.ownBlock∨v'.ownBlock=some w.heap.size):=by
 obtain ⟨i,hi,hz0,hz1,hz2⟩:=info_parts hi
 have hmul:(l.length+n)*bytes≤200000000*65536:=Nat.mul_le_mul (by omega) hby
 have hnl:=hrd.1
 have nothing:news=[]→(Builtin.append_ #[t,t] ty #[v,.slice A n c]).run P w=.ok v w→∃ v' w',(Builtin.append_ #[t,t] ty #[v,.slice A n c]).run P w=.ok v' w'∧QuL e base w' v' (l++news)∧Chg (fun k=>k<w.heap.size∧¬ v.ownBlock=some k) w w'∧Chg (· < base) w w'∧(v'.ownBlock=v.ownBlock∨v'.ownBlock=some w.heap.size) :=
  fun hnews hrun=>⟨v,w,hrun,by rw [hnews];simpa using h,Chg.refl _ _,Chg.refl _ _,.inl rfl⟩
 by_cases hn0:n=0
 ·subst hn0
  have hnews:news=[]:=List.eq_nil_of_length_eq_zero hnl
  refine nothing hnews ?_
  rcases h with ⟨rfl,_⟩ | ⟨g,o,cap,cur,rfl,_,_,hnc,_⟩
  ·cases A<;>simp [Builtin.append_,run_underlying ht,sizeOf,typeInfo,hi,Builtin.lenOf,Builtin.firstCells,loadCells,loadCellsFrom]
  ·cases A<;>simp [Builtin.append_,run_underlying ht,sizeOf,typeInfo,hi,Builtin.lenOf,Builtin.firstCells,hnc,storeCells,loadCells,loadCellsFrom]
 ·obtain ⟨ad,rfl,hcells⟩:∃ ad,A=some ad∧∀ j u,(news.flatMap encI)[j]?=some u→w.cell? (ad.add j)=some u:=by
   rcases hrd.2 with h0 | ⟨x,o,rfl,hx,hc⟩
   ·exact absurd h0 hn0
   ·refine ⟨_,rfl,fun j u hu=>?_⟩
    have hflat:=flatI_map news
    rw [hflat,List.getElem?_map] at hu
    cases hy:news[j]? with
    | none=>rw [hy] at hu;cases hu
    | some y =>
     rw [hy] at hu
     cases hu
     have:=hc j y hy 0 _ rfl
     have hadd:(⟨x,o,none⟩:Addr).add j=⟨x,o+j,none⟩:=by unfold Addr.add;split<;>simp_all
     rw [hadd]
     simpa using this
  have hfl:(news.flatMap encI).length=n*i.size:=by rw [flatI_len,hz1,hnl,Nat.mul_one]
  have h1f:∀ u∈news.flatMap encI,u.oneCell'=true:=by
   intro u hu
   obtain ⟨y,_,hy⟩:=List.mem_flatMap.1 hu
   simp only [encI,List.mem_singleton] at hy
   subst hy
   rfl
  have fresh:∀ (old:Nat),old<l.length+n →
    QuL e base (w.drew.alloc (.cells ((l.flatMap encI).toArray++(news.flatMap encI).toArray++Builtin.zeroCells z.cells (grownCap w (l.length+n) old e-(l.length+n))) e)) (.slice (some ⟨w.heap.size,0,none⟩) (l.length+n) (grownCap w (l.length+n) old e)) (l++news):=by
   intro old ho
   have hge:=grownCap_ge w (l.length+n) old e
   have hcm:grownCap w (l.length+n) old e≤maxLen:=grownCap_le_maxLen w (l.length+n) old e (by unfold maxLen;omega)
   refine .inr ⟨w.heap.size,0,_,_,by rw [List.length_append,hnl],hbase,heap_alloc_new w.drew _,by rw [List.length_append,hnl];exact hge,hcm,?_,?_⟩
   ·simp only [Array.size_append,List.size_toArray,size_zeroCells,hzs,flatI_len,hnl]
    omega
   ·simp only [Array.toList_append,List.append_assoc,List.drop_zero]
    rw [← List.append_assoc,← List.flatMap_append,← flatI_len (l++news)]
    exact List.take_left
  have hex:∀ o:Obj,Ex w (w.drew.alloc o):=fun o=>⟨rfl,rfl,rfl,by simp,fun k hk=>heap_alloc_old w.drew _ hk⟩
  rcases h with ⟨rfl,rfl⟩ | ⟨g,o,cap,cur,rfl,hb,hg,h1,h2,h3,h4⟩
  ·have hr:=run_append_nil (P:=P) w t ty e i z ht hi hz0 ad n c (news.flatMap encI) hfl hcells (by omega) (by omega) (by rw [hz2];simp only [List.length_nil,Nat.zero_add] at hmul;omega)
   have hf:=fresh 0 (by simp;omega)
   simp only [List.length_nil,Nat.zero_add,List.flatMap_nil,List.nil_append] at hf ⊢
   refine ⟨_,_,hr,by simpa using hf,(hex _).mono fun k hk=>hk.1,(hex _).mono fun k (hk:k<base)=>by show k<w.heap.size;omega,.inr rfl⟩
  ·by_cases hroom:l.length+n≤cap
   ·have hfc:=run_firstCells_some (P:=P) w i.size n ad n c (news.flatMap encI) hfl hcells
    have hst:=run_storeCells_at P g (o+l.length) e (news.flatMap encI) 0 cur w hg (by rw [flatI_len,hnl];omega) h1f
    simp only [Nat.add_zero] at hst
    have hadd:(⟨g,o,none⟩:Addr).add (l.length*i.size)=⟨g,o+l.length,none⟩:=by rw [hz1,Nat.mul_one];unfold Addr.add;split<;>simp_all
    refine ⟨.slice (some ⟨g,o,none⟩) (l.length+n) cap,w.setRow g (cur.toList.take (o+l.length)++news.flatMap encI++cur.toList.drop (o+l.length+(news.flatMap encI).length)).toArray,?_,.inr ⟨g,o,cap,_,by rw [List.length_append,hnl],hb,setRow_heap w g cur _ e _ hg,by rw [List.length_append,hnl];exact hroom,h2,?_,?_⟩,⟨rfl,rfl,rfl,by simp [World.setRow],fun k hk=>setRow_other w g k _ (fun he=>hk.2 (by rw [he];rfl))⟩,⟨rfl,rfl,rfl,by simp [World.setRow],fun k (hk:k<base)=>setRow_other w g k _ (by omega)⟩,.inl rfl⟩
    ·simp [Builtin.append_,run_underlying ht,sizeOf,typeInfo,hi,Builtin.lenOf,hroom,hfc,hadd,hst]
    ·simp only [List.size_toArray,List.length_append,List.length_take,List.length_drop,Array.length_toList,flatI_len,hnl]
     omega
    ·rw [List.flatMap_append,← h4,List.length_append,hnl]
     have hsz:o+l.length≤cur.toList.length:=by simp;omega
     simp only [List.append_assoc]
     rw [List.drop_append_of_le_length (by rw [List.length_take];omega),List.drop_take,show o+l.length-o=l.length by omega,← List.append_assoc]
     rw [List.take_append_of_le_length (by rw [List.length_append,List.length_take,List.length_drop,flatI_len,hnl];omega)]
     rw [List.take_of_length_le (by rw [List.length_append,List.length_take,List.length_drop,flatI_len,hnl];omega)]
   ·have holds:∀ j u,(l.flatMap encI)[j]?=some u→w.cell? ((⟨g,o,none⟩:Addr).add j)=some u:=by
     intro j u hu
     have hadd:(⟨g,o,none⟩:Addr).add j=⟨g,o+j,none⟩:=by unfold Addr.add;split<;>simp_all
     rw [hadd]
     rw [← h4,List.getElem?_take] at hu
     split at hu
     ·rw [List.getElem?_drop] at hu
      have:cur[o+j]?=some u:=by simpa using hu
      simp [World.cell?,hg,this]
     ·cases hu
    have hr:=run_append_grow (P:=P) w t ty e i z ht hi hz0 ⟨g,o,none⟩ l.length cap (l.flatMap encI) (by rw [flatI_len,hz1,Nat.mul_one]) holds ad n c (news.flatMap encI) hfl hcells (by omega) (by omega) (growslice_fits (by omega) (by rw [hz2];omega))
    exact ⟨_,_,hr,fresh cap (by omega),(hex _).mono fun k hk=>hk.1,(hex _).mono fun k (hk:k<base)=>by show k<w.heap.size;omega,.inr rfl⟩
end
def PeRel (P:List Pr) (id:Int) (n:Nat) (w:World) (i:Value) (wr:World):Prop :=
 ∃ k:Nat,k≤n∧i=.int .i64 k∧Ex w wr∧∀ j z,j<k→P[j]?=some z→z.id≠id
theorem peerN_at {P:List Pr} {id:Int} {k:Nat} {y:Pr} (hy:P[k]?=some y) (he:y.id=id) (hno:∀ j z,j<k→P[j]?=some z→z.id≠id):peerN P id=y:=by
 unfold peerN
 have hk:=(List.getElem?_eq_some_iff.1 hy)
 have hkl:=hk.1
 have:P.find? (fun p=>p.id==id)=some y:=by
  rw [List.find?_eq_some_iff_getElem]
  refine ⟨by simpa using he,k,hk.1,hk.2,fun j hj=>?_⟩
  have:=hno j _ hj (List.getElem?_eq_getElem (by omega))
  simpa using this
 rw [this]
 rfl
theorem peerN_none {P:List Pr} {id:Int} (hno:∀ j z,j<P.length→P[j]?=some z→z.id≠id):peerN P id=⟨id,0,0,[],[]⟩:=by
 unfold peerN
 have:P.find? (fun p=>p.id==id)=none:=by
  rw [List.find?_eq_none]
  intro x hx
  obtain ⟨j,hj⟩:=List.mem_iff_getElem?.1 hx
  simpa using hno j x (List.getElem?_eq_some_iff.1 hj).1 hj
 rw [this]
 rfl
set_option maxRecDepth 100000 in
set_option maxHeartbeats 8000000 in
theorem peer_r (a:Option Addr) (n c:Nat) (P:List Pr) (id:Int) (w:World) (h:PL w a n P) (hn:n≤1000000) (hP:SmallP P) :
  Calls Tryz.prog 159 #[.slice a n c,.int .i64 id] w (CpPost (peerN P id) w.heap.size w):=by
 have HL:=lH h.len
 have EX:=Ex.refl w
 have B4:=Blk.new w [.int .i64 0,.slice none 0 0,.int .i64 0,.int .i64 0,.slice none 0 0] 36
 have kk:=Ex.new w (.cells #[.int .i64 0,.slice none 0 0,.int .i64 0,.int .i64 0,.slice none 0 0] 36)
 obtain ⟨w1,hw1⟩:∃ w1,w1=w.alloc (.cells #[.int .i64 0,.slice none 0 0,.int .i64 0,.int .i64 0,.slice none 0 0] 36):=⟨_,rfl⟩
 obtain ⟨g4,hg4⟩:∃ g4,g4=w.heap.size:=⟨_,rfl⟩
 replace B4:Blk w1 g4 [.int .i64 0,.slice none 0 0,.int .i64 0,.int .i64 0,.slice none 0 0] 36:=by rw [hw1,hg4];exact B4
 rw [← hw1] at kk
 have Hw1:=lH hw1
 have Hg4:=lH hg4
 replace h:=h.nx kk
 replace EX:=EX.nx kk
 have hg4':w.heap.size≤g4:=by omega
 clear kk hw1 hg4
 have HS:=lH h
 have HP:=lH hP
 have HB:=lH B4
 have EX:=lH EX
 clear h hP
 go_enter Tryz.func159,Tryz.ntmps159
 go_upto_region 1 with fail
 rw [← Hg4.out,← Hw1.out]
 clear Hg4 Hw1
 have hg4l:=B4.lt
 clear B4
 go_wp2_with fail
 go_loopw [5] (fun i wr=>PeRel P id n w1 i wr) (fun i _=>n-(intOf i).toNat)
 case atStart=>exact ⟨0,by omega,rfl,Ex.refl _,by intro j z h;omega⟩
 case round =>
  obtain ⟨k,hk,rfl,kw,hno⟩:=hrel
  have HNO:=lH hno
  clear hno
  obtain ⟨wo,rfl⟩:∃ wo:World,wo=wr:=⟨_,rfl⟩
  by_cases hlt:k<n
  ·obtain ⟨x3,o3,b1,m1,d1,b4,m4,d4,y,rfl,hx3,hy,e0,e1,e2,e3,e4,s1,s4⟩:=(HS.out.nx kw).rd hlt
   have hyP:=HP.out y (List.mem_of_getElem? hy)
   have hl1:m1≤17592186044416:=by have:=s1.len;omega
   have hl4:m4≤4398046511104:=by have:=s4.len;omega
   have HY:=lH hy
   have KW:=lH kw
   clear hy kw hyP
   by_cases hv:y.id=id
   ·have hb:(y.id==id)=true:=by simp [hv]
    have HP:Hid (peerN P id=y):=lH (peerN_at HY.out hv HNO.out)
    have hz:=KW.out.size
    clear hv
    go_wp2_with fail
    (with_reducible refine (copypeer_r y _ _ _ _ _ _ _ s1 s4 hl1 hl4).mono ?_)
    rintro e w9 ⟨⟨A2,M2,C2⟩,⟨A5,M5,C5⟩,rfl,own2,own5,kk⟩
    simp only [Hdr.val] at own2 own5 ⊢
    have B4:=HB.out.nx (KW.out.nx kk)
    have q0:=B4.cell 0 _ rfl
    have q1:=B4.cell 1 _ rfl
    have q2:=B4.cell 2 _ rfl
    have q3:=B4.cell 3 _ rfl
    have q4:=B4.cell 4 _ rfl
    have f0:=B4.free 0
    have f1:=B4.free 1
    have f2:=B4.free 2
    have f3:=B4.free 3
    have f4:=B4.free 4
    have hgo:g4<wo.heap.size:=Nat.lt_of_lt_of_le hg4l hz
    have k7:Ex w w9:=EX.out.nx (KW.out.nx kk)
    have KE:=lH (((((k7.setNew (p:=⟨g4,0,none⟩) (.int .i64 y.id) hg4').setNew (p:=⟨g4,1,none⟩) (.slice A2 M2 C2) hg4').setNew (p:=⟨g4,2,none⟩) (.int .i64 y.left) hg4').setNew (p:=⟨g4,3,none⟩) (.int .i64 y.right) hg4').setNew (p:=⟨g4,4,none⟩) (.slice A5 M5 C5) hg4')
    have KB:Exb g4 w9 (((((w9.setCell ⟨g4,0,none⟩ (.int .i64 y.id)).setCell ⟨g4,1,none⟩ (.slice A2 M2 C2)).setCell ⟨g4,2,none⟩ (.int .i64 y.left)).setCell ⟨g4,3,none⟩ (.int .i64 y.right)).setCell ⟨g4,4,none⟩ (.slice A5 M5 C5)) :=
     (((((Exb.refl g4 w9).setB (p:=⟨g4,0,none⟩) _ rfl).setB (p:=⟨g4,1,none⟩) _ rfl).setB (p:=⟨g4,2,none⟩) _ rfl).setB (p:=⟨g4,3,none⟩) _ rfl).setB (p:=⟨g4,4,none⟩) _ rfl
    have hzw:w.heap.size≤wo.heap.size:=(EX.out.nx KW.out).size
    have O1:=lH ((own2.nxb hgo KB).base hzw)
    have O4:=lH ((own5.nxb hgo KB).base hzw)
    clear B4 own2 own5 KB k7 e0 e1 e2 e3 e4 s1 s4 kk
    go_wp2_with fail
    refine bodyPost_ret (v:=.agg #[.int .i64 y.id,.slice A2 M2 C2,.int .i64 y.left,.int .i64 y.right,.slice A5 M5 C5]) (by simp [results,Tryz.results159,go_sem, *]) rfl ?_
    rw [HP.out]
    exact ⟨(A2,M2,C2),(A5,M5,C5),rfl,O1.out,O4.out,KE.out⟩
   ·have HV:=lH hv
    have hb:(y.id==id)=false:=by simpa using hv
    clear hv e1 e2 e3 e4 s1 s4
    go_wp2_with fail
    refine ⟨⟨k+1,by omega,by go_num,KW.out,fun j z hj hz=>?_⟩,by simp [intOf];omega⟩
    rcases Nat.lt_or_ge j k with h | h
    ·exact HNO.out j z h hz
    ·obtain rfl:j=k:=by omega
     rw [Option.some.inj (hz.symm.trans HY.out)]
     exact HV.out
  ·obtain rfl:k=n:=by omega
   have HP:Hid (peerN P id=⟨id,0,0,[],[]⟩):=lH (peerN_none (fun j z hj hz=>HNO.out j z (by rw [← HL.out];exact hj) hz))
   have B4:=HB.out.nx kw
   have q0:=B4.cell 0 _ rfl
   have q1:=B4.cell 1 _ rfl
   have q2:=B4.cell 2 _ rfl
   have q3:=B4.cell 3 _ rfl
   have q4:=B4.cell 4 _ rfl
   have f0:=B4.free 0
   have f1:=B4.free 1
   have f2:=B4.free 2
   have f3:=B4.free 3
   have f4:=B4.free 4
   have k7:Ex w wo:=EX.out.nx kw
   have KE:=lH (((((k7.setNew (p:=⟨g4,0,none⟩) (.int .i64 id) hg4').setNew (p:=⟨g4,1,none⟩) (.slice none 0 0) hg4').setNew (p:=⟨g4,2,none⟩) (.int .i64 0) hg4').setNew (p:=⟨g4,3,none⟩) (.int .i64 0) hg4').setNew (p:=⟨g4,4,none⟩) (.slice none 0 0) hg4')
   clear B4 k7 kw hk hlt
   go_wp2_with fail
   refine bodyPost_ret (v:=.agg #[.int .i64 id,.slice none 0 0,.int .i64 0,.int .i64 0,.slice none 0 0]) (by simp [results,Tryz.results159,go_sem, *]) rfl ?_
   rw [HP.out]
   exact ⟨(none,0,0),(none,0,0),rfl,OwnL.nil _ _ _ _ _,OwnL.nil _ _ _ _ _,KE.out⟩
end Go.Proofs.YthdkeibapcaclaaGreatDoor
