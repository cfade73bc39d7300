/- Texts for TopRepairProof. -/
import Derived.BigRegion
import Derived.Test.YthcholmhmcpooaaGreatDoorTopRepairProofL22
set_option linter.unusedSimpArgs false
set_option linter.unusedVariables false

namespace Go.Proofs.YthcholmhmcpooaaGreatDoor
open Go.RowKit
theorem Tryz.infoNr:(Tryz.prog.info? 158).map (fun i=>(i.zero,i.size,i.bytes))=some (some (.agg #[.int .i64 0,.int .i64 0,.int .i64 0,.int .i64 0]),4,32):=by kernel_rfl
theorem Tryz.infoPr:(Tryz.prog.info? 150).map (fun i=>(i.zero,i.size,i.bytes))=some (some (.agg #[.int .i64 0,.slice none 0 0,.int .i64 0,.int .i64 0,.slice none 0 0]),5,72):=by kernel_rfl
theorem wp_append_rq {P:Program} {α:Type} {enc:α→List Value} {o:Oper} {a:Act} {K:Act→World→Prop} {Q:Exit→Act→World→Prop} (w0:World) (s x:Operand) (t:TypeId)
  (ho:o.op=.call { callee:=.builtin .append,args:=#[s,x],argTypes:=#[t,t] })
  (base:Nat) (e:TypeId) (z:Value) (sz bytes:Nat) (ht:P.underlying t=some (.slice e)) (hi:(P.info? e).map (fun i=>(i.zero,i.size,i.bytes))=some (some z,sz,bytes))
  (hzs:z.cells.size=sz) (hsz:0<sz) (hby:bytes≤65536)
  (v:Value) (l:List α) (hown:OwnL sz enc e base w0 v l) (hs:a.eval s=v) (A:Option Addr) (n c:Nat) (news:List α) (hrd:Sl sz enc w0 A n news) (hlen:∀ y,(enc y).length=sz) (h1:∀ y,∀ u∈enc y,u.oneCell'=true)
  (hx:a.eval x=.slice A n c) (hl:l.length≤100000000) (hn:n≤100000000) (hbase:base≤w0.heap.size)
  (h:∀ v' w',OwnL sz enc e base w' v' (l++news)→Chg (fun k=>k<w0.heap.size∧¬ v.ownBlock=some k) w0 w'→Chg (· < base) w0 w'→K (a.put o.dst v') w') :
  o.wp P a w0 K Q:=by
 by_cases hA:A=none→c=0
 ·exact wp_append_rd w0 s x t ho base e z sz bytes ht hi hzs hsz hby v l hown hs (· < w0.heap.size) A n c news hrd hA hlen h1 hx hl hn hbase h
 ·have hAn:A=none:=by
   cases A with
   | none=>rfl
   | some _=>exact absurd (fun h=>by cases h) hA
  subst hAn
  obtain ⟨i,hi,hz0,hz1,hz2⟩:=info_parts hi
  have hn0:n=0:=by
   rcases hrd.2 with h0 | ⟨x,o,e1,_⟩
   ·exact h0
   ·cases e1
  subst hn0
  have hnews:news=[]:=List.eq_nil_of_length_eq_zero hrd.1
  subst hnews
  have hrun:(Builtin.append_ #[t,t] o.type #[v,.slice none 0 c]).run P w0=.ok v w0:=by
   rcases hown.2 with ⟨rfl,_⟩ | ⟨g,cap,cur,rfl,_,_,hnc,_⟩
   ·simp [Builtin.append_,run_underlying ht,sizeOf,typeInfo,hi,Builtin.lenOf,Builtin.firstCells,loadCells,loadCellsFrom]
   ·simp [Builtin.append_,run_underlying ht,sizeOf,typeInfo,hi,Builtin.lenOf,Builtin.firstCells,hnc,storeCells,loadCells,loadCellsFrom]
  unfold Oper.wp execOp
  simp only [ho,resolve,invoke,builtin,Sem.run_bind,Sem.run_pure,Result.andThen_ok,List.map_toArray,List.map_cons,List.map_nil,hs,hx,hrun]
  exact h v w0 (by simpa using hown) (Chg.refl _ _) (Chg.refl _ _)
theorem wpList_append_rq {P:Program} {α:Type} {enc:α→List Value} {ops:Array Oper} {rest:List Oper} {o:Oper} {a:Act} {Q:Exit→Act→World→Prop} (w0:World) (hgd:o.guard=none) (s x:Operand) (t:TypeId)
  (ho:o.op=.call { callee:=.builtin .append,args:=#[s,x],argTypes:=#[t,t] })
  (base:Nat) (e:TypeId) (z:Value) (sz bytes:Nat) (ht:P.underlying t=some (.slice e)) (hi:(P.info? e).map (fun i=>(i.zero,i.size,i.bytes))=some (some z,sz,bytes))
  (hzs:z.cells.size=sz) (hsz:0<sz) (hby:bytes≤65536)
  (v:Value) (l:List α) (hown:OwnL sz enc e base w0 v l) (hs:a.eval s=v) (A:Option Addr) (n c:Nat) (news:List α) (hrd:Sl sz enc w0 A n news) (hlen:∀ y,(enc y).length=sz) (h1:∀ y,∀ u∈enc y,u.oneCell'=true)
  (hx:a.eval x=.slice A n c) (hl:l.length≤100000000) (hn:n≤100000000) (hbase:base≤w0.heap.size)
  (h:∀ v' w',OwnL sz enc e base w' v' (l++news)→Chg (fun k=>k<w0.heap.size∧¬ v.ownBlock=some k) w0 w'→Chg (· < base) w0 w'→wpList P ops Q rest (a.put o.dst v') w') :
  wpList P ops Q (o::rest) a w0 :=
 wpList_plain hgd fun _ hK=>wp_append_rq w0 s x t ho base e z sz bytes ht hi hzs hsz hby v l hown hs A n c news hrd hlen h1 hx hl hn hbase fun v' w' h2 h3 h4=>hK _ _ (h v' w' h2 h3 h4)
theorem wp_append_rqW {P:Program} {α:Type} {enc:α→List Value} {o:Oper} {a:Act} {K:Act→World→Prop} {Q:Exit→Act→World→Prop} (w0:World) (s x:Operand) (t:TypeId)
  (ho:o.op=.call { callee:=.builtin .append,args:=#[s,x],argTypes:=#[t,t] })
  (base:Nat) (e:TypeId) (z:Value) (sz bytes:Nat) (ht:P.underlying t=some (.slice e)) (hi:(P.info? e).map (fun i=>(i.zero,i.size,i.bytes))=some (some z,sz,bytes))
  (hzs:z.cells.size=sz) (hsz:0<sz) (hby:bytes≤65536)
  (v:Value) (l:List α) (hown:OwnL sz enc e base w0 v l) (hs:a.eval s=v) (A:Option Addr) (n c:Nat) (news:List α) (hrd:Sl sz enc w0 A n news) (hlen:∀ y,(enc y).length=sz) (h1:∀ y,∀ u∈enc y,u.oneCell'=true)
  (hx:a.eval x=.slice A n c) (hb1:0<bytes) (hmul:(l.length+n)*bytes≤140737488355328) (hbase:base≤w0.heap.size)
  (h:∀ v' w',OwnL sz enc e base w' v' (l++news)→Chg (fun k=>k<w0.heap.size∧¬ v.ownBlock=some k) w0 w'→Chg (· < base) w0 w'→K (a.put o.dst v') w') :
  o.wp P a w0 K Q:=by
 by_cases hA:A=none→c=0
 ·exact wp_append_rdW w0 s x t ho base e z sz bytes ht hi hzs hsz hby v l hown hs (· < w0.heap.size) A n c news hrd hA hlen h1 hx hb1 hmul hbase h
 ·have hAn:A=none:=by
   cases A with
   | none=>rfl
   | some _=>exact absurd (fun h=>by cases h) hA
  subst hAn
  obtain ⟨i,hi,hz0,hz1,hz2⟩:=info_parts hi
  have hn0:n=0:=by
   rcases hrd.2 with h0 | ⟨x,o,e1,_⟩
   ·exact h0
   ·cases e1
  subst hn0
  have hnews:news=[]:=List.eq_nil_of_length_eq_zero hrd.1
  subst hnews
  have hrun:(Builtin.append_ #[t,t] o.type #[v,.slice none 0 c]).run P w0=.ok v w0:=by
   rcases hown.2 with ⟨rfl,_⟩ | ⟨g,cap,cur,rfl,_,_,hnc,_⟩
   ·simp [Builtin.append_,run_underlying ht,sizeOf,typeInfo,hi,Builtin.lenOf,Builtin.firstCells,loadCells,loadCellsFrom]
   ·simp [Builtin.append_,run_underlying ht,sizeOf,typeInfo,hi,Builtin.lenOf,Builtin.firstCells,hnc,storeCells,loadCells,loadCellsFrom]
  unfold Oper.wp execOp
  simp only [ho,resolve,invoke,builtin,Sem.run_bind,Sem.run_pure,Result.andThen_ok,List.map_toArray,List.map_cons,List.map_nil,hs,hx,hrun]
  exact h v w0 (by simpa using hown) (Chg.refl _ _) (Chg.refl _ _)
theorem wpList_append_rqW {P:Program} {α:Type} {enc:α→List Value} {ops:Array Oper} {rest:List Oper} {o:Oper} {a:Act} {Q:Exit→Act→World→Prop} (w0:World) (hgd:o.guard=none) (s x:Operand) (t:TypeId)
  (ho:o.op=.call { callee:=.builtin .append,args:=#[s,x],argTypes:=#[t,t] })
  (base:Nat) (e:TypeId) (z:Value) (sz bytes:Nat) (ht:P.underlying t=some (.slice e)) (hi:(P.info? e).map (fun i=>(i.zero,i.size,i.bytes))=some (some z,sz,bytes))
  (hzs:z.cells.size=sz) (hsz:0<sz) (hby:bytes≤65536)
  (v:Value) (l:List α) (hown:OwnL sz enc e base w0 v l) (hs:a.eval s=v) (A:Option Addr) (n c:Nat) (news:List α) (hrd:Sl sz enc w0 A n news) (hlen:∀ y,(enc y).length=sz) (h1:∀ y,∀ u∈enc y,u.oneCell'=true)
  (hx:a.eval x=.slice A n c) (hb1:0<bytes) (hmul:(l.length+n)*bytes≤140737488355328) (hbase:base≤w0.heap.size)
  (h:∀ v' w',OwnL sz enc e base w' v' (l++news)→Chg (fun k=>k<w0.heap.size∧¬ v.ownBlock=some k) w0 w'→Chg (· < base) w0 w'→wpList P ops Q rest (a.put o.dst v') w') :
  wpList P ops Q (o::rest) a w0 :=
 wpList_plain hgd fun _ hK=>wp_append_rqW w0 s x t ho base e z sz bytes ht hi hzs hsz hby v l hown hs A n c news hrd hlen h1 hx hb1 hmul hbase fun v' w' h2 h3 h4=>hK _ _ (h v' w' h2 h3 h4)
set_option maxRecDepth 100000 in
set_option maxHeartbeats 2000000 in
theorem clone_i (a:Option Addr) (n c:Nat) (l:List Int) (w:World) (h:Sl 1 encI w a n l) (hn:n≤17592186044416) :
  Calls Tryz.prog 106 #[.slice a n c] w fun e w'=>∃ v,e=.returned v∧OwnL 1 encI 3 w.heap.size w' v l∧Ex w w':=by
 have HL:=lH h.len
 cases a with
 | none =>
  have hn0:n=0:=by
   rcases h.2 with h0 | ⟨x,o,e,_⟩
   ·exact h0
   ·cases e
  have hl:l=[]:=List.eq_nil_of_length_eq_zero (HL.out.trans hn0)
  subst hn0 hl
  clear h HL
  have hq:∀ w:World,(binOp .eql 22 (.slice none 0 c) (.slice none 0 0)).run Tryz.prog w=.ok (.bool true) w:=fun w=>Lib.run_eql_slice_nil w 22 3 none 0 c 0 0 Tryz.underlying22
  go_enter Tryz.func106,Tryz.ntmps106
  go_wp2
  go_ret
  exact ⟨_,rfl,OwnL.nil _ _ _ _ _,Ex.refl _⟩
 | some A =>
  have q0:=Ex.new w (.cells #[] 3)
  have h0:=h.nx q0
  have own0:OwnL 1 encI 3 w.heap.size (w.alloc (.cells #[] 3)) (.slice (some ⟨w.heap.size,0,none⟩) 0 0) []:=OwnL.empty (Nat.le_refl _) rfl
  clear h
  have hq:∀ w:World,(binOp .eql 22 (.slice (some A) n c) (.slice none 0 0)).run Tryz.prog w=.ok (.bool false) w:=fun w=>Lib.run_eql_slice_nil w 22 3 (some A) n c 0 0 Tryz.underlying22
  go_enter Tryz.func106,Tryz.ntmps106
  go_wp2_with (at_builtin;(refine wpList_append_rqW (enc:=encI) _ rfl _ _ 22 rfl w.heap.size 3 (.int .i64 0) 1 8 Tryz.underlying22 Tryz.infoI6 rfl (by omega) (by omega) _ [] own0 rfl (some A) n c l h0 (fun _=>rfl) (by simp [encI,Value.oneCell']) rfl (by omega) (by simp;omega) (by simp) ?_);intro v1 w1 own1 hch0 hch1)
  go_ret
  exact ⟨_,rfl,by simpa using own1,Chg.trans q0 hch1⟩
set_option maxRecDepth 100000 in
set_option maxHeartbeats 2000000 in
theorem clone_nr (a:Option Addr) (n c:Nat) (l:List Nr) (w:World) (h:Sl 4 encNr w a n l) (hn:n≤4398046511104) :
  Calls Tryz.prog 107 #[.slice a n c] w fun e w'=>∃ v,e=.returned v∧OwnL 4 encNr 158 w.heap.size w' v l∧Ex w w':=by
 have HL:=lH h.len
 cases a with
 | none =>
  have hn0:n=0:=by
   rcases h.2 with h0 | ⟨x,o,e,_⟩
   ·exact h0
   ·cases e
  have hl:l=[]:=List.eq_nil_of_length_eq_zero (HL.out.trans hn0)
  subst hn0 hl
  clear h HL
  have hq:∀ w:World,(binOp .eql 148 (.slice none 0 c) (.slice none 0 0)).run Tryz.prog w=.ok (.bool true) w:=fun w=>Lib.run_eql_slice_nil w 148 158 none 0 c 0 0 Tryz.underlying148
  go_enter Tryz.func107,Tryz.ntmps107
  go_wp2
  go_ret
  exact ⟨_,rfl,OwnL.nil _ _ _ _ _,Ex.refl _⟩
 | some A =>
  have q0:=Ex.new w (.cells #[] 158)
  have h0:=h.nx q0
  have own0:OwnL 4 encNr 158 w.heap.size (w.alloc (.cells #[] 158)) (.slice (some ⟨w.heap.size,0,none⟩) 0 0) []:=OwnL.empty (Nat.le_refl _) rfl
  clear h
  have hq:∀ w:World,(binOp .eql 148 (.slice (some A) n c) (.slice none 0 0)).run Tryz.prog w=.ok (.bool false) w:=fun w=>Lib.run_eql_slice_nil w 148 158 (some A) n c 0 0 Tryz.underlying148
  go_enter Tryz.func107,Tryz.ntmps107
  go_wp2_with (at_builtin;(refine wpList_append_rqW (enc:=encNr) _ rfl _ _ 148 rfl w.heap.size 158 (.agg #[.int .i64 0,.int .i64 0,.int .i64 0,.int .i64 0]) 4 32 Tryz.underlying148 Tryz.infoNr rfl (by omega) (by omega) _ [] own0 rfl (some A) n c l h0 (fun _=>rfl) (by simp [encNr,Value.oneCell']) rfl (by omega) (by simp;omega) (by simp) ?_);intro v1 w1 own1 hch0 hch1)
  go_ret
  exact ⟨_,rfl,by simpa using own1,Chg.trans q0 hch1⟩
def CpPost (p:Pr) (base:Nat) (w:World) (e:Ending) (w':World):Prop :=
 ∃ hk hn:Hdr,e=.returned (.agg #[.int .i64 p.id,hk.val,.int .i64 p.left,.int .i64 p.right,hn.val])∧OwnL 1 encI 3 base w' hk.val p.known∧OwnL 4 encNr 158 base w' hn.val p.near∧Ex w w'
set_option maxRecDepth 100000 in
set_option maxHeartbeats 2000000 in
theorem copypeer_r (p:Pr) (a1:Option Addr) (n1 c1:Nat) (a2:Option Addr) (n2 c2:Nat) (w:World) (h1:Sl 1 encI w a1 n1 p.known) (h2:Sl 4 encNr w a2 n2 p.near) (hn1:n1≤17592186044416) (hn2:n2≤4398046511104) :
  Calls Tryz.prog 229 #[.agg #[.int .i64 p.id,.slice a1 n1 c1,.int .i64 p.left,.int .i64 p.right,.slice a2 n2 c2]] w (CpPost p w.heap.size w):=by
 have EX:=Ex.refl w
 have S1:=lH h1
 have S2:=lH h2
 clear h1 h2
 obtain ⟨g1,hg1⟩:∃ g1,g1=w.heap.size:=⟨_,rfl⟩
 obtain ⟨g2,hg2⟩:∃ g2,g2=(w.heap.size+1):=⟨_,rfl⟩
 obtain ⟨w1,hw1⟩:∃ w1,w1=((w.alloc (.cells #[.int .i64 p.id,.slice a1 n1 c1,.int .i64 p.left,.int .i64 p.right,.slice a2 n2 c2] 150)).alloc (.cells #[.int .i64 0,.slice none 0 0,.int .i64 0,.int .i64 0,.slice none 0 0] 150)):=⟨_,rfl⟩
 have kk:Ex w w1:=by rw [hw1];exact (((Ex.refl w).alloc (.cells #[.int .i64 p.id,.slice a1 n1 c1,.int .i64 p.left,.int .i64 p.right,.slice a2 n2 c2] 150)).alloc (.cells #[.int .i64 0,.slice none 0 0,.int .i64 0,.int .i64 0,.slice none 0 0] 150))
 have B1:Blk w1 g1 [.int .i64 p.id,.slice a1 n1 c1,.int .i64 p.left,.int .i64 p.right,.slice a2 n2 c2] 150:=by rw [hw1];simp only [hg1,hg2];have hbk:=((Blk.new w [.int .i64 p.id,.slice a1 n1 c1,.int .i64 p.left,.int .i64 p.right,.slice a2 n2 c2] 150).nx (Ex.new _ (.cells #[.int .i64 0,.slice none 0 0,.int .i64 0,.int .i64 0,.slice none 0 0] 150)));simpa using hbk
 have B2:Blk w1 g2 [.int .i64 0,.slice none 0 0,.int .i64 0,.int .i64 0,.slice none 0 0] 150:=by rw [hw1];simp only [hg1,hg2];have hbk:=(Blk.new (w.alloc (.cells #[.int .i64 p.id,.slice a1 n1 c1,.int .i64 p.left,.int .i64 p.right,.slice a2 n2 c2] 150)) [.int .i64 0,.slice none 0 0,.int .i64 0,.int .i64 0,.slice none 0 0] 150);simpa using hbk
 have Hw1:=lH hw1
 have Hg1:=lH hg1
 have Hg2:=lH hg2
 replace EX:=EX.nx kk
 have hg1':w.heap.size≤g1:=by omega
 have hg2':w.heap.size≤g2:=by omega
 have h12:¬ g1=g2:=by omega
 have h21:¬ g2=g1:=by omega
 clear kk hw1 hg1 hg2
 go_enter Tryz.func229,Tryz.ntmps229
 go_upto_region 1 with fail
 rw [← Hw1.out,← Hg2.out,← Hg1.out]
 clear Hw1 Hg2 Hg1
 have hz1:=EX.size
 have q1:=B1.cell 1 _ rfl
 have h1:=S1.out.nx EX
 have own0:OwnL 1 encI 3 w1.heap.size w1 (.slice none 0 0) []:=OwnL.nil _ _ _ _ _
 go_upto_region 2 with (at_builtin;(refine wpList_append_rqW (enc:=encI) w1 rfl (.const (.slice none 0 0)) (.tmp 4) 22 rfl w1.heap.size 3 (.int .i64 0) 1 8 Tryz.underlying22 Tryz.infoI6 rfl (by omega) (by omega) _ [] own0 rfl a1 n1 c1 p.known h1 (fun _=>rfl) (by simp [encI,Value.oneCell']) rfl (by omega) (by simp;omega) (Nat.le_refl _) ?_);intro v1 w2 own1 ch0 ch1;rw [List.nil_append] at own1;obtain ⟨A1,C1,rfl,_,_,_,_⟩:=own1.slf (fun _=>rfl);have f1:=(B1.nx ch1).free 1;have r1:=(B1.nx ch1).cell 1 _ rfl;clear q1)
 have k2:Ex w1 w2:=ch1
 have L1:=B1.lt
 have L2:=B2.lt
 have k3:Ex w w2:=EX.nx k2
 obtain ⟨w3,hw3⟩:∃ w3,w3=w2.setCell ⟨g1,1,none⟩ (.slice A1 p.known.length C1):=⟨_,rfl⟩
 have k4:Ex w w3:=by rw [hw3];exact k3.setNew (p:=⟨g1,1,none⟩) _ hg1'
 have k5:Exb g1 w2 w3:=by rw [hw3];exact (Exb.refl g1 w2).setB (p:=⟨g1,1,none⟩) _ rfl
 replace B1:Blk w3 g1 [.int .i64 p.id,.slice A1 p.known.length C1,.int .i64 p.left,.int .i64 p.right,.slice a2 n2 c2] 150:=by rw [hw3];exact (B1.nx k2).set 1 _
 replace B2:=(B2.nx k2).nxb h21 k5
 replace own1:=own1.nxb L1 k5
 have z3:w1.heap.size≤w3.heap.size:=Nat.le_trans k2.size k5.size
 rw [← hw3]
 clear hw3 f1 r1 own0 h1 ch0 ch1 k2 k3 k5
 have q4:=B1.cell 4 _ rfl
 have h2:=S2.out.nx k4
 have own0:OwnL 4 encNr 158 w3.heap.size w3 (.slice none 0 0) []:=OwnL.nil _ _ _ _ _
 go_upto_region 3 with (at_builtin;(refine wpList_append_rqW (enc:=encNr) w3 rfl (.const (.slice none 0 0)) (.tmp 8) 148 rfl w3.heap.size 158 (.agg #[.int .i64 0,.int .i64 0,.int .i64 0,.int .i64 0]) 4 32 Tryz.underlying148 Tryz.infoNr rfl (by omega) (by omega) _ [] own0 rfl a2 n2 c2 p.near h2 (fun _=>rfl) (by simp [encNr,Value.oneCell']) rfl (by omega) (by simp;omega) (Nat.le_refl _) ?_);intro v4 w4 own4 ch0 ch1;rw [List.nil_append] at own4;obtain ⟨A4,C4,rfl,_,_,_,_⟩:=own4.slf (fun _=>rfl);have f1:=(B1.nx ch1).free 4;have r1:=(B1.nx ch1).cell 4 _ rfl;clear q4)
 have k2:Ex w3 w4:=ch1
 have L3:=B1.lt
 have k6:Ex w w4:=k4.nx k2
 replace own1:=own1.nx k2
 obtain ⟨w5,hw5⟩:∃ w5,w5=w4.setCell ⟨g1,4,none⟩ (.slice A4 p.near.length C4):=⟨_,rfl⟩
 have k7:Ex w w5:=by rw [hw5];exact k6.setNew (p:=⟨g1,4,none⟩) _ hg1'
 have k8:Exb g1 w4 w5:=by rw [hw5];exact (Exb.refl g1 w4).setB (p:=⟨g1,4,none⟩) _ rfl
 replace B1:Blk w5 g1 [.int .i64 p.id,.slice A1 p.known.length C1,.int .i64 p.left,.int .i64 p.right,.slice A4 p.near.length C4] 150:=by rw [hw5];exact (B1.nx k2).set 4 _
 replace B2:=(B2.nx k2).nxb h21 k8
 replace own1:=own1.nxb L1 k8
 replace own4:=own4.nxb L3 k8
 rw [← hw5]
 clear hw5 f1 r1 own0 h2 ch0 ch1 k2 k6 k8
 have p0:=B1.cell 0 _ rfl
 have p1:=B1.cell 1 _ rfl
 have p2:=B1.cell 2 _ rfl
 have p3:=B1.cell 3 _ rfl
 have p4:=B1.cell 4 _ rfl
 have q0:=B2.cell 0 _ rfl
 have q1:=B2.cell 1 _ rfl
 have q2:=B2.cell 2 _ rfl
 have q3:=B2.cell 3 _ rfl
 have q4:=B2.cell 4 _ rfl
 have f0:=B2.free 0
 have f1:=B2.free 1
 have f2:=B2.free 2
 have f3:=B2.free 3
 have f4:=B2.free 4
 have KE:=lH (((((k7.setNew (p:=⟨g2,0,none⟩) (.int .i64 p.id) hg2').setNew (p:=⟨g2,1,none⟩) (.slice A1 p.known.length C1) hg2').setNew (p:=⟨g2,2,none⟩) (.int .i64 p.left) hg2').setNew (p:=⟨g2,3,none⟩) (.int .i64 p.right) hg2').setNew (p:=⟨g2,4,none⟩) (.slice A4 p.near.length C4) hg2')
 have KB:Exb g2 w5 (((((w5.setCell ⟨g2,0,none⟩ (.int .i64 p.id)).setCell ⟨g2,1,none⟩ (.slice A1 p.known.length C1)).setCell ⟨g2,2,none⟩ (.int .i64 p.left)).setCell ⟨g2,3,none⟩ (.int .i64 p.right)).setCell ⟨g2,4,none⟩ (.slice A4 p.near.length C4)) :=
  (((((Exb.refl g2 w5).setB (p:=⟨g2,0,none⟩) _ rfl).setB (p:=⟨g2,1,none⟩) _ rfl).setB (p:=⟨g2,2,none⟩) _ rfl).setB (p:=⟨g2,3,none⟩) _ rfl).setB (p:=⟨g2,4,none⟩) _ rfl
 have O1:=lH ((own1.nxb L2 KB).base hz1)
 have O4:=lH ((own4.nxb (show g2<w3.heap.size by omega) KB).base (show w.heap.size≤w3.heap.size by omega))
 clear B1 B2 own1 own4 KB k4 k7 EX
 go_wp2_with fail
 refine bodyPost_ret (v:=.agg #[.int .i64 p.id,.slice A1 p.known.length C1,.int .i64 p.left,.int .i64 p.right,.slice A4 p.near.length C4]) (by simp [results,Tryz.results229,go_sem, *]) rfl ⟨(A1,p.known.length,C1),(A4,p.near.length,C4),rfl,O1.out,O4.out,KE.out⟩
end Go.Proofs.YthcholmhmcpooaaGreatDoor
