/- Shared texts. -/
import Derived.BigRegion
import Derived.Test.YthcholmhmcpooaaGreatDoorWAll17
set_option linter.unusedSimpArgs false
set_option linter.unusedVariables false

namespace Go.Proofs.YthcholmhmcpooaaGreatDoor
open Go.RowKit
theorem Tryz.infoNr:(Tryz.prog.info? 158).map (fun i=>(i.zero,i.size,i.bytes))=some (some (.agg #[.int .i64 0,.int .i64 0,.int .i64 0,.int .i64 0]),4,32):=by kernel_rfl
theorem Tryz.infoPr:(Tryz.prog.info? 150).map (fun i=>(i.zero,i.size,i.bytes))=some (some (.agg #[.int .i64 0,.slice none 0 0,.int .i64 0,.int .i64 0,.slice none 0 0]),5,72):=by kernel_rfl
theorem wp_append_rqW {P:Program} {α:Type} {enc:α→List Value} {o:Oper} {a:Act} {K:Act→World→Prop} {Q:Exit→Act→World→Prop} (w0:World) (s x:Operand) (t:TypeId)
  (ho:o.op=.call { callee:=.builtin .append,args:=#[s,x],argTypes:=#[t,t] })
  (base:Nat) (e:TypeId) (z:Value) (sz bytes:Nat) (ht:P.underlying t=some (.slice e)) (hi:(P.info? e).map (fun i=>(i.zero,i.size,i.bytes))=some (some z,sz,bytes))
  (hzs:z.cells.size=sz) (hsz:0<sz) (hby:bytes≤65536)
  (v:Value) (l:List α) (hown:OwnL sz enc e base w0 v l) (hs:a.eval s=v) (A:Option Addr) (n c:Nat) (news:List α) (hrd:Sl sz enc w0 A n news) (hlen:∀ y,(enc y).length=sz) (h1:∀ y,∀ u∈enc y,u.oneCell'=true)
  (hx:a.eval x=.slice A n c) (hb1:0<bytes) (hmul:(l.length+n)*bytes≤140737488355328) (hbase:base≤w0.heap.size)
  (h:∀ v' w',OwnL sz enc e base w' v' (l++news)→Chg (fun k=>k<w0.heap.size∧¬ v.ownBlock=some k) w0 w'→Chg (· < base) w0 w'→K (a.put o.dst v') w') :
  o.wp P a w0 K Q:=by
 by_cases hA:A=none→c=0
 ·exact wp_append_rdW w0 s x t ho base e z sz bytes ht hi hzs hsz hby v l hown hs (· < w0.heap.size) A n c news hrd hA hlen h1 hx hb1 hmul hbase h
 ·have hAn:A=none:=by
   cases A with
   | none=>rfl
   | some _=>exact absurd (fun h=>by cases h) hA
  subst hAn
  obtain ⟨i,hi,hz0,hz1,hz2⟩:=info_parts hi
  have hn0:n=0:=by
   rcases hrd.2 with h0 | ⟨x,o,e1,_⟩
   ·exact h0
   ·cases e1
  subst hn0
  have hnews:news=[]:=List.eq_nil_of_length_eq_zero hrd.1
  subst hnews
  have hrun:(Builtin.append_ #[t,t] o.type #[v,.slice none 0 c]).run P w0=.ok v w0:=by
   rcases hown.2 with ⟨rfl,_⟩ | ⟨g,cap,cur,rfl,_,_,hnc,_⟩
   ·simp [Builtin.append_,run_underlying ht,sizeOf,typeInfo,hi,Builtin.lenOf,Builtin.firstCells,loadCells,loadCellsFrom]
   ·simp [Builtin.append_,run_underlying ht,sizeOf,typeInfo,hi,Builtin.lenOf,Builtin.firstCells,hnc,storeCells,loadCells,loadCellsFrom]
  unfold Oper.wp execOp
  simp only [ho,resolve,invoke,builtin,Sem.run_bind,Sem.run_pure,Result.andThen_ok,List.map_toArray,List.map_cons,List.map_nil,hs,hx,hrun]
  exact h v w0 (by simpa using hown) (Chg.refl _ _) (Chg.refl _ _)
theorem wpList_append_rqW {P:Program} {α:Type} {enc:α→List Value} {ops:Array Oper} {rest:List Oper} {o:Oper} {a:Act} {Q:Exit→Act→World→Prop} (w0:World) (hgd:o.guard=none) (s x:Operand) (t:TypeId)
  (ho:o.op=.call { callee:=.builtin .append,args:=#[s,x],argTypes:=#[t,t] })
  (base:Nat) (e:TypeId) (z:Value) (sz bytes:Nat) (ht:P.underlying t=some (.slice e)) (hi:(P.info? e).map (fun i=>(i.zero,i.size,i.bytes))=some (some z,sz,bytes))
  (hzs:z.cells.size=sz) (hsz:0<sz) (hby:bytes≤65536)
  (v:Value) (l:List α) (hown:OwnL sz enc e base w0 v l) (hs:a.eval s=v) (A:Option Addr) (n c:Nat) (news:List α) (hrd:Sl sz enc w0 A n news) (hlen:∀ y,(enc y).length=sz) (h1:∀ y,∀ u∈enc y,u.oneCell'=true)
  (hx:a.eval x=.slice A n c) (hb1:0<bytes) (hmul:(l.length+n)*bytes≤140737488355328) (hbase:base≤w0.heap.size)
  (h:∀ v' w',OwnL sz enc e base w' v' (l++news)→Chg (fun k=>k<w0.heap.size∧¬ v.ownBlock=some k) w0 w'→Chg (· < base) w0 w'→wpList P ops Q rest (a.put o.dst v') w') :
  wpList P ops Q (o::rest) a w0 :=
 wpList_plain hgd fun _ hK=>wp_append_rqW w0 s x t ho base e z sz bytes ht hi hzs hsz hby v l hown hs A n c news hrd hlen h1 hx hb1 hmul hbase fun v' w' h2 h3 h4=>hK _ _ (h v' w' h2 h3 h4)
set_option maxRecDepth 100000 in
set_option maxHeartbeats 2000000 in
theorem clone_i (a:Option Addr) (n c:Nat) (l:List Int) (w:World) (h:Sl 1 encI w a n l) (hn:n≤17592186044416) :
  Calls Tryz.prog 106 #[.slice a n c] w fun e w'=>∃ v,e=.returned v∧OwnL 1 encI 3 w.heap.size w' v l∧Ex w w':=by
 have HL:=lH h.len
 cases a with
 | none =>
  have hn0:n=0:=by
   rcases h.2 with h0 | ⟨x,o,e,_⟩
   ·exact h0
   ·cases e
  have hl:l=[]:=List.eq_nil_of_length_eq_zero (HL.out.trans hn0)
  subst hn0 hl
  clear h HL
  have hq:∀ w:World,(binOp .eql 22 (.slice none 0 c) (.slice none 0 0)).run Tryz.prog w=.ok (.bool true) w:=fun w=>Lib.run_eql_slice_nil w 22 3 none 0 c 0 0 Tryz.underlying22
  go_enter Tryz.func106,Tryz.ntmps106
  go_wp2
  go_ret
  exact ⟨_,rfl,OwnL.nil _ _ _ _ _,Ex.refl _⟩
 | some A =>
  have q0:=Ex.new w (.cells #[] 3)
  have h0:=h.nx q0
  have own0:OwnL 1 encI 3 w.heap.size (w.alloc (.cells #[] 3)) (.slice (some ⟨w.heap.size,0,none⟩) 0 0) []:=OwnL.empty (Nat.le_refl _) rfl
  clear h
  have hq:∀ w:World,(binOp .eql 22 (.slice (some A) n c) (.slice none 0 0)).run Tryz.prog w=.ok (.bool false) w:=fun w=>Lib.run_eql_slice_nil w 22 3 (some A) n c 0 0 Tryz.underlying22
  go_enter Tryz.func106,Tryz.ntmps106
  go_wp2_with (at_builtin;(refine wpList_append_rqW (enc:=encI) _ rfl _ _ 22 rfl w.heap.size 3 (.int .i64 0) 1 8 Tryz.underlying22 Tryz.infoI6 rfl (by omega) (by omega) _ [] own0 rfl (some A) n c l h0 (fun _=>rfl) (by simp [encI,Value.oneCell']) rfl (by omega) (by simp;omega) (by simp) ?_);intro v1 w1 own1 hch0 hch1)
  go_ret
  exact ⟨_,rfl,by simpa using own1,Chg.trans q0 hch1⟩
set_option maxRecDepth 100000 in
set_option maxHeartbeats 2000000 in
theorem clone_nr (a:Option Addr) (n c:Nat) (l:List Nr) (w:World) (h:Sl 4 encNr w a n l) (hn:n≤4398046511104) :
  Calls Tryz.prog 107 #[.slice a n c] w fun e w'=>∃ v,e=.returned v∧OwnL 4 encNr 158 w.heap.size w' v l∧Ex w w':=by
 have HL:=lH h.len
 cases a with
 | none =>
  have hn0:n=0:=by
   rcases h.2 with h0 | ⟨x,o,e,_⟩
   ·exact h0
   ·cases e
  have hl:l=[]:=List.eq_nil_of_length_eq_zero (HL.out.trans hn0)
  subst hn0 hl
  clear h HL
  have hq:∀ w:World,(binOp .eql 148 (.slice none 0 c) (.slice none 0 0)).run Tryz.prog w=.ok (.bool true) w:=fun w=>Lib.run_eql_slice_nil w 148 158 none 0 c 0 0 Tryz.underlying148
  go_enter Tryz.func107,Tryz.ntmps107
  go_wp2
  go_ret
  exact ⟨_,rfl,OwnL.nil _ _ _ _ _,Ex.refl _⟩
 | some A =>
  have q0:=Ex.new w (.cells #[] 158)
  have h0:=h.nx q0
  have own0:OwnL 4 encNr 158 w.heap.size (w.alloc (.cells #[] 158)) (.slice (some ⟨w.heap.size,0,none⟩) 0 0) []:=OwnL.empty (Nat.le_refl _) rfl
  clear h
  have hq:∀ w:World,(binOp .eql 148 (.slice (some A) n c) (.slice none 0 0)).run Tryz.prog w=.ok (.bool false) w:=fun w=>Lib.run_eql_slice_nil w 148 158 (some A) n c 0 0 Tryz.underlying148
  go_enter Tryz.func107,Tryz.ntmps107
  go_wp2_with (at_builtin;(refine wpList_append_rqW (enc:=encNr) _ rfl _ _ 148 rfl w.heap.size 158 (.agg #[.int .i64 0,.int .i64 0,.int .i64 0,.int .i64 0]) 4 32 Tryz.underlying148 Tryz.infoNr rfl (by omega) (by omega) _ [] own0 rfl (some A) n c l h0 (fun _=>rfl) (by simp [encNr,Value.oneCell']) rfl (by omega) (by simp;omega) (by simp) ?_);intro v1 w1 own1 hch0 hch1)
  go_ret
  exact ⟨_,rfl,by simpa using own1,Chg.trans q0 hch1⟩
abbrev OwnPr (base:Nat) (w:World) (v:Value) (qs:List PQ) (P:List Pr):Prop:=OwnP 150 3 158 base w v qs P
def PlPost (P:List Pr) (w:World) (e:Ending) (w':World):Prop:=∃ v qs,e=.returned v∧OwnPr w.heap.size w' v qs P∧Ex w w'
theorem OwnP.app {eP eI eN:TypeId} (hI:eP≠eI) (hN:eP≠eN) {base:Nat} {w0 w1 w2:World} {v v':Value} {qs:List PQ} {P:List Pr} {p:Pr} {hk hn:Hdr} (h:OwnP eP eI eN base w0 v qs P) (hb:base≤w0.heap.size) (kk:Ex w0 w1)
  (ik:OwnL 1 encI eI w0.heap.size w1 hk.val p.known) (inr:OwnL 4 encNr eN w0.heap.size w1 hn.val p.near)
  (ho:OwnW 5 encQ eP base w2 v' (qs++[(p.nums,hk,hn)])) (k:Chg (fun k=>k<w1.heap.size∧¬ v.ownBlock=some k) w1 w2):OwnP eP eI eN base w2 v' (qs++[(p.nums,hk,hn)]) (P++[p]):=by
 refine (h.nx kk).push hI hN ho k (ik.base hb) (inr.base hb) (fun j r g hr hg hv=>?_) (fun j r g hr hg hv=>?_)
 ·obtain ⟨q,_,_,r2,_⟩:=h.getp hr
  have h1:=(r2.lt g hg).2
  have h2:=(ik.lt g hv).1
  omega
 ·obtain ⟨q,_,_,_,r3⟩:=h.getp hr
  have h1:=(r3.lt g hg).2
  have h2:=(inr.lt g hv).1
  omega
theorem PL.rd {w:World} {a:Option Addr} {n:Nat} {P:List Pr} (h:PL w a n P) {j:Nat} (hj:j<n) :
  ∃ (x o:Nat) (a1:Option Addr) (n1 c1:Nat) (a2:Option Addr) (n2 c2:Nat) (p:Pr),a=some ⟨x,o,none⟩∧x<w.heap.size∧P[j]?=some p∧w.cell? ⟨x,o+j*5,none⟩=some (.int .i64 p.id)∧w.cell? ⟨x,o+j*5+1,none⟩=some (.slice a1 n1 c1) ∧
   w.cell? ⟨x,o+j*5+1+1,none⟩=some (.int .i64 p.left)∧w.cell? ⟨x,o+j*5+1+1+1,none⟩=some (.int .i64 p.right)∧w.cell? ⟨x,o+j*5+1+1+1+1,none⟩=some (.slice a2 n2 c2)∧Sl 1 encI w a1 n1 p.known∧Sl 4 encNr w a2 n2 p.near:=by
 obtain ⟨x,o,a1,n1,c1,a2,n2,c2,p,e1,e2,e3,e4,e5,e6⟩:=h.at hj
 exact ⟨x,o,a1,n1,c1,a2,n2,c2,p,e1,e2,e3,e4 0 _ rfl,e4 1 _ rfl,e4 2 _ rfl,e4 3 _ rfl,e4 4 _ rfl,e5,e6⟩
def SmallP (P:List Pr):Prop:=∀ p∈P,p.known.length≤17592186044416∧p.near.length≤4398046511104
theorem OwnP.row {eP eI eN:TypeId} {base:Nat} {w:World} {v:Value} {qs:List PQ} {P:List Pr} (h:OwnP eP eI eN base w v qs P):OwnW 5 encQ eP base w v qs:=h.1
theorem encQ_one (q:PQ):∀ u∈encQ q,u.oneCell'=true:=by
 intro u hu
 simp only [encQ,List.mem_cons,List.not_mem_nil,or_false] at hu
 rcases hu with rfl | rfl | rfl | rfl | rfl<;>rfl
def PeRel (P:List Pr) (id:Int) (n:Nat) (w:World) (i:Value) (wr:World):Prop :=
 ∃ k:Nat,k≤n∧i=.int .i64 k∧Ex w wr∧∀ j z,j<k→P[j]?=some z→z.id≠id
theorem peerN_at {P:List Pr} {id:Int} {k:Nat} {y:Pr} (hy:P[k]?=some y) (he:y.id=id) (hno:∀ j z,j<k→P[j]?=some z→z.id≠id):peerN P id=y:=by
 unfold peerN
 have hk:=(List.getElem?_eq_some_iff.1 hy)
 have hkl:=hk.1
 have:P.find? (fun p=>p.id==id)=some y:=by
  rw [List.find?_eq_some_iff_getElem]
  refine ⟨by simpa using he,k,hk.1,hk.2,fun j hj=>?_⟩
  have:=hno j _ hj (List.getElem?_eq_getElem (by omega))
  simpa using this
 rw [this]
 rfl
theorem peerN_none {P:List Pr} {id:Int} (hno:∀ j z,j<P.length→P[j]?=some z→z.id≠id):peerN P id=⟨id,0,0,[],[]⟩:=by
 unfold peerN
 have:P.find? (fun p=>p.id==id)=none:=by
  rw [List.find?_eq_none]
  intro x hx
  obtain ⟨j,hj⟩:=List.mem_iff_getElem?.1 hx
  simpa using hno j x (List.getElem?_eq_some_iff.1 hj).1 hj
 rw [this]
 rfl
section
variable {eP eI eN:TypeId} {base:Nat} {w w1:World} {v:Value} {qs:List PQ} {P:List Pr}
theorem OwnP.upd (h:OwnP eP eI eN base w v qs P) {a:Nat} {q':PQ} {p':Pr} {w2:World} (ha:a<qs.length) (row:OwnW 5 encQ eP base w2 v (qs.set a q')) (hq':q'.1=p'.nums)
  (oK:OwnL 1 encI eI base w2 q'.2.1.val p'.known) (oN:OwnL 4 encNr eN base w2 q'.2.2.val p'.near)
  (keep:∀ (j:Nat) (r:PQ) (d:Pr),j≠a→qs[j]?=some r→P[j]?=some d→OwnL 1 encI eI base w2 r.2.1.val d.known∧OwnL 4 encNr eN base w2 r.2.2.val d.near)
  (fk:∀ (j:Nat) (r:PQ) (g:Nat),j≠a→qs[j]?=some r→r.2.1.val.ownBlock=some g→¬ q'.2.1.val.ownBlock=some g)
  (fn:∀ (j:Nat) (r:PQ) (g:Nat),j≠a→qs[j]?=some r→r.2.2.val.ownBlock=some g→¬ q'.2.2.val.ownBlock=some g) :
  OwnP eP eI eN base w2 v (qs.set a q') (P.set a p'):=by
 have hl:=h.2.1
 refine ⟨row,by simp [hl],fun j r d hr hd=>?_,fun i j qi qj g hi hj gi gj=>?_,fun i j qi qj g hi hj gi gj=>?_⟩
 ·by_cases hja:j=a
  ·subst hja
   rw [List.getElem?_set_self ha] at hr
   rw [List.getElem?_set_self (by omega)] at hd
   cases hr
   cases hd
   exact ⟨hq',oK,oN⟩
  ·rw [List.getElem?_set_ne (fun h=>hja h.symm)] at hr hd
   exact ⟨(h.2.2.1 j r d hr hd).1,keep j r d hja hr hd⟩
 ·by_cases hia:i=a
  ·by_cases hja:j=a
   ·omega
   ·subst hia
    rw [List.getElem?_set_self ha] at hi
    rw [List.getElem?_set_ne (fun h=>hja h.symm)] at hj
    cases hi
    exact absurd gi (fk j qj g hja hj gj)
  ·rw [List.getElem?_set_ne (fun h=>hia h.symm)] at hi
   by_cases hja:j=a
   ·subst hja
    rw [List.getElem?_set_self ha] at hj
    cases hj
    exact absurd gj (fk i qi g hia hi gi)
   ·rw [List.getElem?_set_ne (fun h=>hja h.symm)] at hj
    exact h.2.2.2.1 i j qi qj g hi hj gi gj
 ·by_cases hia:i=a
  ·by_cases hja:j=a
   ·omega
   ·subst hia
    rw [List.getElem?_set_self ha] at hi
    rw [List.getElem?_set_ne (fun h=>hja h.symm)] at hj
    cases hi
    exact absurd gi (fn j qj g hja hj gj)
  ·rw [List.getElem?_set_ne (fun h=>hia h.symm)] at hi
   by_cases hja:j=a
   ·subst hja
    rw [List.getElem?_set_self ha] at hj
    cases hj
    exact absurd gj (fn i qi g hia hi gi)
   ·rw [List.getElem?_set_ne (fun h=>hja h.symm)] at hj
    exact h.2.2.2.2 i j qi qj g hi hj gi gj
theorem set_chg {g o:Nat} (w:World) (u:Value):Chg (fun k=>k<w.heap.size∧¬ k=g) w (w.setCell ⟨g,o,none⟩ u) :=
 (Chg.refl _ w).setCell (p:=⟨g,o,none⟩) u (fun k hk=>hk.2)
end
section
variable {eP eI eN:TypeId} {base:Nat} {w:World} {v:Value} {qs:List PQ} {P:List Pr}
theorem OwnP.swapN (hI:eP≠eI) (hN:eP≠eN) (hIN:eI≠eN) {g n cap:Nat} (h:OwnP eP eI eN base w (.slice (some ⟨g,0,none⟩) n cap) qs P) {a:Nat} {p:Pr} {hk hn hn':Hdr} {nr:List Nr} (hq:qs[a]?=some (p.nums,hk,hn)) (hp:P[a]?=some p)
  (A:OwnL 4 encNr eN base w hn'.val nr) (fn:∀ (j:Nat) (r:PQ) (g':Nat),j≠a→qs[j]?=some r→r.2.2.val.ownBlock=some g'→¬ hn'.val.ownBlock=some g') :
  w.cell? ⟨g,a*5+4,none⟩=some hn.val∧w.frozen? ⟨g,a*5+4,none⟩=false ∧
   OwnP eP eI eN base (w.setCell ⟨g,a*5+4,none⟩ hn'.val) (.slice (some ⟨g,0,none⟩) n cap) (qs.set a (p.nums,hk,hn')) (P.set a { p with near:=nr }):=by
 obtain ⟨s1,s2,s3⟩:=OwnW.set1 encQ_len h.1 hq (c:=4) (by omega)
 have ch:=set_chg (g:=g) (o:=a*5+4) w hn'.val
 have nN:∀ (j:Nat) (r:PQ) (d:Pr),qs[j]?=some r→P[j]?=some d→OwnL 4 encNr eN base (w.setCell ⟨g,a*5+4,none⟩ hn'.val) r.2.2.val d.near:=fun j r d hr hd =>
  (h.2.2.1 j r d hr hd).2.2.chg ch (fun x hx hv=>⟨hx,fun he=>by subst he;exact h.neN hN hr hv rfl⟩)
 have nK:∀ (j:Nat) (r:PQ) (d:Pr),qs[j]?=some r→P[j]?=some d→OwnL 1 encI eI base (w.setCell ⟨g,a*5+4,none⟩ hn'.val) r.2.1.val d.known:=fun j r d hr hd =>
  (h.2.2.1 j r d hr hd).2.1.chg ch (fun x hx hv=>⟨hx,fun he=>by subst he;exact h.neI hI hr hv rfl⟩)
 have A2:OwnL 4 encNr eN base (w.setCell ⟨g,a*5+4,none⟩ hn'.val) hn'.val nr:=A.chg ch (fun x hx hv=>⟨hx,fun he=>by
  subst he
  obtain ⟨_,c1,h1⟩:=A.blk hv
  obtain ⟨_,c2,h2⟩:=h.1.blk rfl
  exact blk_kind hN h2 h1⟩)
 refine ⟨s1,s2,h.upd (q':=(p.nums,hk,hn')) (p':={ p with near:=nr }) (List.getElem?_eq_some_iff.1 hq).1 (s3 _ _ rfl) rfl (show OwnL 1 encI eI base _ hk.val p.known from nK a (p.nums,hk,hn) p hq hp) A2 (fun j r d hj hr hd=>⟨nK j r d hr hd,nN j r d hr hd⟩) (fun j r g' hj hr hg hv=>?_) (fun j r g' hj hr hg hv=>fn j r g' hj hr hg hv)⟩
 exact hj (h.2.2.2.1 j a r _ g' hr hq hg hv)
end
def comb (p q:Pr):Pr:={ p with near:=q.near }
def mixP (P Q:List Pr) (j:Nat):List Pr:=(List.zipWith comb P Q).take j++P.drop j
theorem mixP_zero (P Q:List Pr):mixP P Q 0=P:=rfl
theorem mixP_len {P Q:List Pr} (h:P.length=Q.length) (j:Nat):(mixP P Q j).length=P.length:=by
 unfold mixP
 rw [List.length_append,List.length_take,List.length_zipWith,List.length_drop]
 omega
theorem mixP_all {P Q:List Pr} (h:P.length=Q.length):mixP P Q P.length=(P.zip Q).map fun q=>{ q.1 with near:=q.2.near }:=by
 unfold mixP
 rw [List.drop_length,List.append_nil,List.take_of_length_le (by rw [List.length_zipWith];omega),List.zip,List.map_zipWith]
 rfl
theorem mixP_at {P Q:List Pr} (h:P.length=Q.length) {j:Nat} {p:Pr} (hp:P[j]?=some p):(mixP P Q j)[j]?=some p:=by
 have hj:=(List.getElem?_eq_some_iff.1 hp).1
 unfold mixP
 rw [List.getElem?_append_right (by rw [List.length_take];omega),List.length_take,List.length_zipWith,show j-min j (min P.length Q.length)=0 by omega,List.getElem?_drop,Nat.add_zero]
 exact hp
theorem mixP_set {P Q:List Pr} (h:P.length=Q.length) {j:Nat} {p q:Pr} (hp:P[j]?=some p) (hq:Q[j]?=some q):(mixP P Q j).set j (comb p q)=mixP P Q (j+1):=by
 have hj:=(List.getElem?_eq_some_iff.1 hp).1
 apply List.ext_getElem?
 intro i
 unfold mixP
 by_cases hij:j=i
 ·subst hij
  rw [List.getElem?_set_self (by rw [List.length_append,List.length_take,List.length_zipWith,List.length_drop];omega),List.getElem?_append_left (by rw [List.length_take,List.length_zipWith];omega),List.getElem?_take,if_pos (by omega),List.getElem?_zipWith,hp,hq]
 ·rw [List.getElem?_set_ne hij]
  by_cases hl:i<j
  ·rw [List.getElem?_append_left (by rw [List.length_take,List.length_zipWith];omega),List.getElem?_append_left (by rw [List.length_take,List.length_zipWith];omega),List.getElem?_take,List.getElem?_take,if_pos hl,if_pos (by omega)]
  ·rw [List.getElem?_append_right (by rw [List.length_take,List.length_zipWith];omega),List.getElem?_append_right (by rw [List.length_take,List.length_zipWith];omega),List.getElem?_drop,List.getElem?_drop,List.length_take,List.length_take,List.length_zipWith]
   congr 1
   omega
def MixQ (S:Nat) (qs2:List PQ) (j:Nat) (qs:List PQ):Prop:=∀ (i:Nat) (q:PQ) (g:Nat),qs[i]?=some q→q.2.2.val.ownBlock=some g→g<S∨(i<j∧∃ q2,qs2[i]?=some q2∧q2.2.2=q.2.2)
theorem MixQ.start {eP eI eN:TypeId} {base S:Nat} {w:World} {v:Value} {qs qs2:List PQ} {P:List Pr} (h:OwnP eP eI eN base w v qs P) (hS:w.heap.size≤S):MixQ S qs2 0 qs:=fun i q g hq hg=>by
 obtain ⟨p,_,_,_,r3⟩:=h.getp hq
 exact .inl (Nat.lt_of_lt_of_le (r3.lt g hg).2 hS)
theorem MixQ.fn {eP eI eN:TypeId} {S:Nat} {w:World} {v:Value} {qs qs2:List PQ} {Q:List Pr} {j:Nat} {q2:PQ} (h:MixQ S qs2 j qs) (h2:OwnP eP eI eN S w v qs2 Q) (hq2:qs2[j]?=some q2) :
  ∀ (i:Nat) (r:PQ) (g':Nat),i≠j→qs[i]?=some r→r.2.2.val.ownBlock=some g'→¬ q2.2.2.val.ownBlock=some g':=fun i r g hij hr hg hv=>by
 obtain ⟨p,_,_,_,r3⟩:=h2.getp hq2
 have hS:=(r3.lt g hv).1
 rcases h i r g hr hg with h1 | ⟨_,q3,h3,h4⟩
 ·omega
 ·exact hij (h2.2.2.2.2 i j q3 q2 g h3 hq2 (by rw [h4];exact hg) hv)
theorem MixQ.step {S:Nat} {qs qs2:List PQ} {j:Nat} {q2 q':PQ} (h:MixQ S qs2 j qs) (hq2:qs2[j]?=some q2) (he:q2.2.2=q'.2.2):MixQ S qs2 (j+1) (qs.set j q'):=fun i q g hq hg=>by
 by_cases hij:j=i
 ·subst hij
  rw [List.getElem?_set] at hq
  simp at hq
  obtain ⟨_,rfl⟩:=hq
  exact .inr ⟨by omega,q2,hq2,he⟩
 ·rw [List.getElem?_set_ne hij] at hq
  rcases h i q g hq hg with h1 | ⟨h1,h2⟩
  ·exact .inl h1
  ·exact .inr ⟨by omega,h2⟩
end Go.Proofs.YthcholmhmcpooaaGreatDoor
