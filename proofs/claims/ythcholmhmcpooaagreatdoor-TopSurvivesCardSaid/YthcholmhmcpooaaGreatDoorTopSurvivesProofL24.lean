/- Texts for TopSurvivesProof. -/
import Derived.BigRegion
import Derived.Test.YthcholmhmcpooaaGreatDoorTopSurvivesProofL20
import Derived.Test.YthcholmhmcpooaaGreatDoorTopSurvivesProofL22
set_option linter.unusedSimpArgs false
set_option linter.unusedVariables false

namespace Go.Proofs.YthcholmhmcpooaaGreatDoor
open Go.RowKit
theorem Tryz.infoNr:(Tryz.prog.info? 158).map (fun i=>(i.zero,i.size,i.bytes))=some (some (.agg #[.int .i64 0,.int .i64 0,.int .i64 0,.int .i64 0]),4,32):=by kernel_rfl
theorem Tryz.infoPr:(Tryz.prog.info? 150).map (fun i=>(i.zero,i.size,i.bytes))=some (some (.agg #[.int .i64 0,.slice none 0 0,.int .i64 0,.int .i64 0,.slice none 0 0]),5,72):=by kernel_rfl
theorem wp_append_rqW {P:Program} {α:Type} {enc:α→List Value} {o:Oper} {a:Act} {K:Act→World→Prop} {Q:Exit→Act→World→Prop} (w0:World) (s x:Operand) (t:TypeId)
  (ho:o.op=.call { callee:=.builtin .append,args:=#[s,x],argTypes:=#[t,t] })
  (base:Nat) (e:TypeId) (z:Value) (sz bytes:Nat) (ht:P.underlying t=some (.slice e)) (hi:(P.info? e).map (fun i=>(i.zero,i.size,i.bytes))=some (some z,sz,bytes))
  (hzs:z.cells.size=sz) (hsz:0<sz) (hby:bytes≤65536)
  (v:Value) (l:List α) (hown:OwnL sz enc e base w0 v l) (hs:a.eval s=v) (A:Option Addr) (n c:Nat) (news:List α) (hrd:Sl sz enc w0 A n news) (hlen:∀ y,(enc y).length=sz) (h1:∀ y,∀ u∈enc y,u.oneCell'=true)
  (hx:a.eval x=.slice A n c) (hb1:0<bytes) (hmul:(l.length+n)*bytes≤140737488355328) (hbase:base≤w0.heap.size)
  (h:∀ v' w',OwnL sz enc e base w' v' (l++news)→Chg (fun k=>k<w0.heap.size∧¬ v.ownBlock=some k) w0 w'→Chg (· < base) w0 w'→K (a.put o.dst v') w') :
  o.wp P a w0 K Q:=by
 by_cases hA:A=none→c=0
 ·exact wp_append_rdW w0 s x t ho base e z sz bytes ht hi hzs hsz hby v l hown hs (· < w0.heap.size) A n c news hrd hA hlen h1 hx hb1 hmul hbase h
 ·have hAn:A=none:=by
   cases A with
   | none=>rfl
   | some _=>exact absurd (fun h=>by cases h) hA
  subst hAn
  obtain ⟨i,hi,hz0,hz1,hz2⟩:=info_parts hi
  have hn0:n=0:=by
   rcases hrd.2 with h0 | ⟨x,o,e1,_⟩
   ·exact h0
   ·cases e1
  subst hn0
  have hnews:news=[]:=List.eq_nil_of_length_eq_zero hrd.1
  subst hnews
  have hrun:(Builtin.append_ #[t,t] o.type #[v,.slice none 0 c]).run P w0=.ok v w0:=by
   rcases hown.2 with ⟨rfl,_⟩ | ⟨g,cap,cur,rfl,_,_,hnc,_⟩
   ·simp [Builtin.append_,run_underlying ht,sizeOf,typeInfo,hi,Builtin.lenOf,Builtin.firstCells,loadCells,loadCellsFrom]
   ·simp [Builtin.append_,run_underlying ht,sizeOf,typeInfo,hi,Builtin.lenOf,Builtin.firstCells,hnc,storeCells,loadCells,loadCellsFrom]
  unfold Oper.wp execOp
  simp only [ho,resolve,invoke,builtin,Sem.run_bind,Sem.run_pure,Result.andThen_ok,List.map_toArray,List.map_cons,List.map_nil,hs,hx,hrun]
  exact h v w0 (by simpa using hown) (Chg.refl _ _) (Chg.refl _ _)
theorem wpList_append_rqW {P:Program} {α:Type} {enc:α→List Value} {ops:Array Oper} {rest:List Oper} {o:Oper} {a:Act} {Q:Exit→Act→World→Prop} (w0:World) (hgd:o.guard=none) (s x:Operand) (t:TypeId)
  (ho:o.op=.call { callee:=.builtin .append,args:=#[s,x],argTypes:=#[t,t] })
  (base:Nat) (e:TypeId) (z:Value) (sz bytes:Nat) (ht:P.underlying t=some (.slice e)) (hi:(P.info? e).map (fun i=>(i.zero,i.size,i.bytes))=some (some z,sz,bytes))
  (hzs:z.cells.size=sz) (hsz:0<sz) (hby:bytes≤65536)
  (v:Value) (l:List α) (hown:OwnL sz enc e base w0 v l) (hs:a.eval s=v) (A:Option Addr) (n c:Nat) (news:List α) (hrd:Sl sz enc w0 A n news) (hlen:∀ y,(enc y).length=sz) (h1:∀ y,∀ u∈enc y,u.oneCell'=true)
  (hx:a.eval x=.slice A n c) (hb1:0<bytes) (hmul:(l.length+n)*bytes≤140737488355328) (hbase:base≤w0.heap.size)
  (h:∀ v' w',OwnL sz enc e base w' v' (l++news)→Chg (fun k=>k<w0.heap.size∧¬ v.ownBlock=some k) w0 w'→Chg (· < base) w0 w'→wpList P ops Q rest (a.put o.dst v') w') :
  wpList P ops Q (o::rest) a w0 :=
 wpList_plain hgd fun _ hK=>wp_append_rqW w0 s x t ho base e z sz bytes ht hi hzs hsz hby v l hown hs A n c news hrd hlen h1 hx hb1 hmul hbase fun v' w' h2 h3 h4=>hK _ _ (h v' w' h2 h3 h4)
set_option maxRecDepth 100000 in
set_option maxHeartbeats 2000000 in
theorem clone_i (a:Option Addr) (n c:Nat) (l:List Int) (w:World) (h:Sl 1 encI w a n l) (hn:n≤17592186044416) :
  Calls Tryz.prog 106 #[.slice a n c] w fun e w'=>∃ v,e=.returned v∧OwnL 1 encI 3 w.heap.size w' v l∧Ex w w':=by
 have HL:=lH h.len
 cases a with
 | none =>
  have hn0:n=0:=by
   rcases h.2 with h0 | ⟨x,o,e,_⟩
   ·exact h0
   ·cases e
  have hl:l=[]:=List.eq_nil_of_length_eq_zero (HL.out.trans hn0)
  subst hn0 hl
  clear h HL
  have hq:∀ w:World,(binOp .eql 22 (.slice none 0 c) (.slice none 0 0)).run Tryz.prog w=.ok (.bool true) w:=fun w=>Lib.run_eql_slice_nil w 22 3 none 0 c 0 0 Tryz.underlying22
  go_enter Tryz.func106,Tryz.ntmps106
  go_wp2
  go_ret
  exact ⟨_,rfl,OwnL.nil _ _ _ _ _,Ex.refl _⟩
 | some A =>
  have q0:=Ex.new w (.cells #[] 3)
  have h0:=h.nx q0
  have own0:OwnL 1 encI 3 w.heap.size (w.alloc (.cells #[] 3)) (.slice (some ⟨w.heap.size,0,none⟩) 0 0) []:=OwnL.empty (Nat.le_refl _) rfl
  clear h
  have hq:∀ w:World,(binOp .eql 22 (.slice (some A) n c) (.slice none 0 0)).run Tryz.prog w=.ok (.bool false) w:=fun w=>Lib.run_eql_slice_nil w 22 3 (some A) n c 0 0 Tryz.underlying22
  go_enter Tryz.func106,Tryz.ntmps106
  go_wp2_with (at_builtin;(refine wpList_append_rqW (enc:=encI) _ rfl _ _ 22 rfl w.heap.size 3 (.int .i64 0) 1 8 Tryz.underlying22 Tryz.infoI6 rfl (by omega) (by omega) _ [] own0 rfl (some A) n c l h0 (fun _=>rfl) (by simp [encI,Value.oneCell']) rfl (by omega) (by simp;omega) (by simp) ?_);intro v1 w1 own1 hch0 hch1)
  go_ret
  exact ⟨_,rfl,by simpa using own1,Chg.trans q0 hch1⟩
set_option maxRecDepth 100000 in
set_option maxHeartbeats 2000000 in
theorem clone_nr (a:Option Addr) (n c:Nat) (l:List Nr) (w:World) (h:Sl 4 encNr w a n l) (hn:n≤4398046511104) :
  Calls Tryz.prog 107 #[.slice a n c] w fun e w'=>∃ v,e=.returned v∧OwnL 4 encNr 158 w.heap.size w' v l∧Ex w w':=by
 have HL:=lH h.len
 cases a with
 | none =>
  have hn0:n=0:=by
   rcases h.2 with h0 | ⟨x,o,e,_⟩
   ·exact h0
   ·cases e
  have hl:l=[]:=List.eq_nil_of_length_eq_zero (HL.out.trans hn0)
  subst hn0 hl
  clear h HL
  have hq:∀ w:World,(binOp .eql 148 (.slice none 0 c) (.slice none 0 0)).run Tryz.prog w=.ok (.bool true) w:=fun w=>Lib.run_eql_slice_nil w 148 158 none 0 c 0 0 Tryz.underlying148
  go_enter Tryz.func107,Tryz.ntmps107
  go_wp2
  go_ret
  exact ⟨_,rfl,OwnL.nil _ _ _ _ _,Ex.refl _⟩
 | some A =>
  have q0:=Ex.new w (.cells #[] 158)
  have h0:=h.nx q0
  have own0:OwnL 4 encNr 158 w.heap.size (w.alloc (.cells #[] 158)) (.slice (some ⟨w.heap.size,0,none⟩) 0 0) []:=OwnL.empty (Nat.le_refl _) rfl
  clear h
  have hq:∀ w:World,(binOp .eql 148 (.slice (some A) n c) (.slice none 0 0)).run Tryz.prog w=.ok (.bool false) w:=fun w=>Lib.run_eql_slice_nil w 148 158 (some A) n c 0 0 Tryz.underlying148
  go_enter Tryz.func107,Tryz.ntmps107
  go_wp2_with (at_builtin;(refine wpList_append_rqW (enc:=encNr) _ rfl _ _ 148 rfl w.heap.size 158 (.agg #[.int .i64 0,.int .i64 0,.int .i64 0,.int .i64 0]) 4 32 Tryz.underlying148 Tryz.infoNr rfl (by omega) (by omega) _ [] own0 rfl (some A) n c l h0 (fun _=>rfl) (by simp [encNr,Value.oneCell']) rfl (by omega) (by simp;omega) (by simp) ?_);intro v1 w1 own1 hch0 hch1)
  go_ret
  exact ⟨_,rfl,by simpa using own1,Chg.trans q0 hch1⟩
def gtP (N:List Nd) (own:Nd) (id:Int):Bool:=!(Op.bytesLess (findN N id).1.key.toList own.key.toList||((findN N id).1.key.toList==own.key.toList))
def insAt (l:List Int) (i:Nat) (v:Int):List Int:=l.take i++v::l.drop i
theorem findIdx_two {p:Int→Bool} {A B:List Int} (hA:∀ u∈A,p u=false) (hB:∀ u∈B,p u=true):(A++B).findIdx p=A.length:=by
 have h1:A.findIdx p=A.length:=List.findIdx_eq_length.2 (by simpa using hA)
 rw [List.findIdx_append,if_neg (by omega)]
 cases B with
 | nil=>simp
 | cons b B=>simp [List.findIdx_cons,hB b (by simp)]
section
variable {N:List Nd}
theorem row_law (h0:checkN N=0) {x:Nd} (hx:x∈N) {p:Pr} (hid:x.id=p.id):insAt (refsN N p) ((refsN N p).findIdx (gtP N x)) p.id=arN N p:=by
 obtain ⟨A,B,e⟩:=List.append_of_mem ((sortN_mem N x).2 hx)
 have hs:=sortN_str h0
 unfold AscS at hs
 rw [e] at hs
 have hA:∀ y∈A,Op.bytesLess y.key.toList x.key.toList=true∧y.id≠x.id:=fun y hy=>(List.pairwise_append.1 hs).2.2 y hy x (by simp)
 have hB:∀ y∈B,Op.bytesLess x.key.toList y.key.toList=true∧x.id≠y.id:=fun y hy=>(List.pairwise_cons.1 (List.pairwise_append.1 hs).2.1).1 y hy
 have mA:∀ y∈A,y∈N:=fun y hy=>(sortN_mem N y).1 (by rw [e];simp [hy])
 have mB:∀ y∈B,y∈N:=fun y hy=>(sortN_mem N y).1 (by rw [e];simp [hy])
 have hr:refsN N p=(A.filter fun y=>(numsP p).contains y.id).map Nd.id++(B.filter fun y=>(numsP p).contains y.id).map Nd.id:=by
  have fA:(A.filter fun y=>!(y.id==p.id)&&(numsP p).contains y.id)=A.filter fun y=>(numsP p).contains y.id:=List.filter_congr fun y hy=>by
   have h1:=(hA y hy).2
   rw [hid] at h1
   simp [h1]
  have fB:(B.filter fun y=>!(y.id==p.id)&&(numsP p).contains y.id)=B.filter fun y=>(numsP p).contains y.id:=List.filter_congr fun y hy=>by
   have h1:=(hB y hy).2
   rw [hid] at h1
   simp [Ne.symm h1]
  unfold refsN
  rw [if_pos h0]
  unfold ordN
  rw [e,List.filter_append,List.filter_cons_of_neg (by simp [hid]),fA,fB,List.map_append]
 have ha:arN N p=(A.filter fun y=>(numsP p).contains y.id).map Nd.id++p.id::(B.filter fun y=>(numsP p).contains y.id).map Nd.id:=by
  have fA:(A.filter fun y=>y.id==p.id||(numsP p).contains y.id)=A.filter fun y=>(numsP p).contains y.id:=List.filter_congr fun y hy=>by
   have h1:=(hA y hy).2
   rw [hid] at h1
   simp [h1]
  have fB:(B.filter fun y=>y.id==p.id||(numsP p).contains y.id)=B.filter fun y=>(numsP p).contains y.id:=List.filter_congr fun y hy=>by
   have h1:=(hB y hy).2
   rw [hid] at h1
   simp [Ne.symm h1]
  rw [ar_eq h0 hx hid,e,List.filter_append,List.filter_cons_of_pos (by simp [hid]),fA,fB,List.map_append,List.map_cons,hid]
 have hi:(refsN N p).findIdx (gtP N x)=((A.filter fun y=>(numsP p).contains y.id).map Nd.id).length:=by
  rw [hr]
  refine findIdx_two (fun u hu=>?_) (fun u hu=>?_)
  ·obtain ⟨y,hy,rfl⟩:=List.mem_map.1 hu
   have hy:=(List.mem_filter.1 hy).1
   unfold gtP
   rw [find_in h0 (mA y hy),(hA y hy).1]
   rfl
  ·obtain ⟨y,hy,rfl⟩:=List.mem_map.1 hu
   have hy:=(List.mem_filter.1 hy).1
   have h1:=(hB y hy).1
   have h2:=bl_asymm h1
   have h3:(y.key.toList==x.key.toList)=false:=by
    rw [beq_eq_false_iff_ne]
    intro he
    rw [he,bytesLess_irrefl] at h1
    cases h1
   unfold gtP
   rw [find_in h0 (mB y hy),h2,h3]
   rfl
 rw [hi,ha,hr]
 unfold insAt
 rw [List.take_left,List.drop_left]
theorem ord_congr {l l':List Int} {but:Int} (h:∀ v,v∈l↔v∈l'):ordN N l but=ordN N l' but:=by
 unfold ordN
 congr 1
 refine List.filter_congr fun y _=>?_
 rw [Bool.eq_iff_iff]
 simp only [Bool.and_eq_true,List.contains_iff_mem,h]
theorem known_eq (h0:checkN N=0) (id l r:Int) (T:List Int):refsN N ⟨id,l,r,T,[]⟩=ordN N ([l,r]++T) id:=by
 unfold refsN
 rw [if_pos h0]
 refine ord_congr fun v=>?_
 unfold numsP
 simp only [List.flatMap_nil,List.append_nil,List.mem_append,List.mem_cons,List.not_mem_nil,or_false]
 exact Or.comm
theorem ar_ids (p:Pr):∀ v∈arN N p,∃ x∈N,x.id=v:=by
 intro v hv
 unfold arN at hv
 split at hv
 ·exact (mem_ord.1 hv).1
 ·cases hv
theorem ord_len (l:List Int) (but:Int):(ordN N l but).length≤N.length:=by
 unfold ordN
 rw [List.length_map]
 exact Nat.le_trans (List.length_filter_le _ _) (Nat.le_of_eq (sortN_length N))
theorem ar_len (p:Pr):(arN N p).length≤N.length:=by
 unfold arN
 split
 ·exact ord_len _ _
 ·exact Nat.zero_le _
theorem ar_nodup' (p:Pr):(arN N p).Nodup:=by
 by_cases h0:checkN N=0
 ·exact ar_nodup h0
 ·unfold arN
  rw [if_neg (fun h=>h0 h.2)]
  exact List.Pairwise.nil
end
theorem zip_at {l:List Int} {j:Nat} {a b:Int} (ha:l[j]?=some a) (hb:l[j+1]?=some b):(l.zip l.tail)[j]?=some (a,b):=by
 rw [List.getElem?_zip_eq_some]
 exact ⟨ha,by rw [List.getElem?_tail];exact hb⟩
theorem prs_snoc {id:Int} {l:List Int} {j:Nat} {a b:Int} (ha:l[j]?=some a) (hb:l[j+1]?=some b) :
  ((l.zip l.tail).take (j+1)).flatMap (pr2 id)=((l.zip l.tail).take j).flatMap (pr2 id)++pr2 id (a,b):=by
 rw [List.take_add_one,zip_at ha hb,List.flatMap_append]
 simp
theorem prs_all {id:Int} {l:List Int} {j:Nat} (hj:l.length≤j+1):((l.zip l.tail).take j).flatMap (pr2 id)=prsN id l:=by
 unfold prsN
 rw [List.take_of_length_le (by rw [List.length_zip,List.length_tail];omega)]
theorem pr2_len (id:Int) (q:Int×Int):(pr2 id q).length≤2:=by
 unfold pr2
 rw [List.length_append]
 split<;>split<;>simp
theorem prs_take_len (id:Int) (L:List (Int×Int)):(L.flatMap (pr2 id)).length≤2*L.length:=by
 induction L with
 | nil=>simp
 | cons a L ih =>
  rw [List.flatMap_cons,List.length_append,List.length_cons]
  have:=pr2_len id a
  omega
theorem prs_len (id:Int) (l:List Int):(prsN id l).length≤2*l.length:=by
 unfold prsN
 have:=prs_take_len id (l.zip l.tail)
 rw [List.length_zip,List.length_tail] at this
 omega
theorem intros_len (N:List Nd) (p:Pr):(introsN N p).length≤2*N.length:=by
 have h1:=prs_len p.id (arN N p)
 have h2:=ar_len (N:=N) p
 unfold introsN
 omega
theorem prs_from {id:Int} {l:List Int} {q:Int×Int} (h:q∈prsN id l):q.1∈l∧q.2∈l:=by
 obtain ⟨_,A,B,e | e⟩:=prs_inv (u:=q.1) (v:=q.2) h<;>rw [e]<;>simp
theorem told_snoc (M:List (Int×Int)) (m:Int×Int) (id:Int):toldN (M++[m]) id=toldN M id++(if m.1=id then [m.2] else []):=by
 unfold toldN
 rw [List.filter_append,List.map_append]
 congr 1
 by_cases h:m.1=id
 ·rw [if_pos h];simp [h]
 ·rw [if_neg h];simp [h]
theorem told_len (M:List (Int×Int)) (id:Int):(toldN M id).length≤M.length:=by
 unfold toldN
 rw [List.length_map]
 exact List.length_filter_le _ _
theorem bes_nodup {id:Int} {l:List Int} (hd:l.Nodup) {i:Nat} (hi:l[i]?=some id):besN id l=((if i=0 then 0 else l[i-1]?.getD 0),l[i+1]?.getD 0):=by
 have hf:l.findIdx? (·==id)=some i:=by
  rw [List.findIdx?_eq_some_iff_getElem]
  obtain ⟨h1,h2⟩:=List.getElem?_eq_some_iff.1 hi
  refine ⟨h1,by simp [h2],fun j hj=>?_⟩
  have:=(List.pairwise_iff_getElem.1 hd) j i (by omega) h1 hj
  rw [h2] at this
  simpa using this
 unfold besN
 rw [hf]
theorem bes_none {id:Int} {l:List Int} (h:id∉l):besN id l=(0,0):=by
 have hf:l.findIdx? (·==id)=none:=by
  rw [List.findIdx?_eq_none_iff]
  intro x hx
  simp only [beq_eq_false_iff_ne]
  intro he
  exact h (he▸hx)
 unfold besN
 rw [hf]
end Go.Proofs.YthcholmhmcpooaaGreatDoor
