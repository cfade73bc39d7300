/- Shared texts. -/
import Derived.Test.YthcholmhmcpooaaGreatDoorWAll20
import Derived.Test.YthcholmhmcpooaaGreatDoorWAll22
set_option linter.unusedSimpArgs false
set_option linter.unusedVariables false

namespace Go.Proofs.YthcholmhmcpooaaGreatDoor
open Go.RowKit
theorem litLd (u:World) (id:Int) (hd:Hdr):∃ g v,g=u.heap.size∧v=u.alloc (.cells #[.int .i64 id,hd.val] 121)∧Sl 2 (encP encI) v (some ⟨g,0,none⟩) 1 [(id,hd)]∧Ex u v :=
 ⟨_,_,rfl,rfl,Sl.lit [(id,hd)] rfl rfl (fun _=>rfl) rfl,Ex.new _ _⟩
set_option maxRecDepth 100000 in
set_option maxHeartbeats 2000000 in
theorem exact_p (a:Option Addr) (n c:Nat) (N:List Nd) (a2:Option Addr) (n2 c2:Nat) (L:List Lkd) (hh:Int) (w:World) (h:Sl 3 encN w a n N) (hn:n≤1000) (hc:n≤c) (hm:c≤maxLen) (hw:∀ x∈N,x.word<4294967296) (hT:TabG w)
  (h2:LkL w a2 n2 L) (hn2:n2≤1000000) (hs:∀ c∈L,c.2.length≤9223372036854775807) :
  Calls Tryz.prog 28 #[.slice a n c,.slice a2 n2 c2,.int .i64 hh] w fun e w'=>e=.returned (.bool (exactI N L hh))∧Ex w w':=by
 have HS:=lH hs
 go_enter Tryz.func28,Tryz.ntmps28
 go_wp2_with fail
 (with_reducible refine (build_p _ _ _ N hh _ h hn hc hm hw hT).mono ?_)
 rintro e w1 ⟨v,qs,rfl,own,kk⟩
 replace h2:=h2.nx kk
 have K1:=lH kk
 obtain ⟨a3,c3,rfl,NLX,_,_,_,_⟩:=OwnN.nl (encA:=encI) (s1:=2) (s2:=2) (encB:=encS) (fun _=>rfl) (fun _=>rfl) own
 obtain ⟨B,hB⟩:∃ B,B=buildN N hh:=⟨_,rfl⟩
 have EI:Hid (exactI N L hh=(B.2==0&&decide (L=B.1))):=lH (by rw [hB];rfl)
 rw [← hB] at own NLX ⊢
 have H2:=lH h2
 have NX:=lH NLX
 clear hB own h kk h2 NLX
 obtain ⟨BL,be⟩:=B
 by_cases hbe:be=0
 ·subst hbe
  go_wp2_with fail
  (with_reducible refine (same_lp _ _ _ _ _ _ L BL _ H2.out NX.out hn2 HS.out).mono ?_)
  rintro e w2 ⟨rfl,kk⟩
  have K2:=lH (K1.out.nx kk)
  clear kk
  go_wp2_with fail
  go_ret
  exact ⟨by rw [EI.out];simp,K2.out⟩
 ·have d1:(be==0)=false:=by simpa using hbe
  go_wp2_with fail
  go_ret
  exact ⟨by rw [EI.out,d1];simp,K1.out⟩
def EqnRel (n:Nat) (w:World) (i:Value) (wr:World):Prop:=∃ k:Nat,k≤n∧i=.int .i64 k∧Ex w wr
set_option maxHeartbeats 4000000 in
theorem eqn_p (a1 a2:Option Addr) (n c1 c2:Nat) (S:List Nd) (w:World) (h1:Sl 3 encN w a1 n S) (h2:Sl 3 encN w a2 n S) (hn:n≤9223372036854775807) :
  Calls Tryz.prog 63 #[.slice a1 n c1,.slice a2 n c2] w fun e w'=>e=.returned (.bool true)∧Ex w w':=by
 have R1:=lH h1
 have R2:=lH h2
 clear h1 h2
 go_enter Tryz.func63,Tryz.ntmps63
 go_wp2_with fail
 go_loopw [13] (fun i wr=>EqnRel n w i wr) (fun i _=>n-(intOf i).toNat)
 case atStart=>exact ⟨0,by omega,rfl,Ex.refl w⟩
 case round =>
  obtain ⟨j,hj,rfl,kv⟩:=hrel
  obtain ⟨wi,rfl⟩:∃ wi:World,wi=wr:=⟨_,rfl⟩
  by_cases hjl:j<n
  ·obtain ⟨x3,o3,y1,rfl,hx3,hy1,hc3⟩:=(R1.out.nx kv).at hjl
   obtain ⟨x4,o4,y2,rfl,hx4,hy2,hc4⟩:=(R2.out.nx kv).at hjl
   obtain rfl:y2=y1:=Option.some.inj (hy2.symm.trans hy1)
   have u0:wi.cell? ⟨x3,o3+j*3,none⟩=some (.int .i64 y2.id):=hc3 0 _ rfl
   have u1:wi.cell? ⟨x3,o3+j*3+1,none⟩=some (.string y2.key):=hc3 1 _ rfl
   have u2:wi.cell? ⟨x3,o3+j*3+2,none⟩=some (.int .u32 y2.word):=hc3 2 _ rfl
   have u3:wi.cell? ⟨x3,o3+j*3+1+1,none⟩=some (.int .u32 y2.word):=u2
   have v0:wi.cell? ⟨x4,o4+j*3,none⟩=some (.int .i64 y2.id):=hc4 0 _ rfl
   have v1:wi.cell? ⟨x4,o4+j*3+1,none⟩=some (.string y2.key):=hc4 1 _ rfl
   have v2:wi.cell? ⟨x4,o4+j*3+2,none⟩=some (.int .u32 y2.word):=hc4 2 _ rfl
   have v3:wi.cell? ⟨x4,o4+j*3+1+1,none⟩=some (.int .u32 y2.word):=v2
   have KV:=lH kv
   clear hc3 hc4 hy1 hy2 kv
   go_wp2_with fail
   go_quiet (fail)
   go_wp2_with fail
   exact ⟨⟨j+1,by omega,by go_num,KV.out.drewN _⟩,by simp [intOf];omega⟩
  ·obtain rfl:j=n:=by omega
   have KV:=lH kv
   clear kv hj hjl
   go_wp2_with fail
   go_ret
   exact ⟨rfl,KV.out⟩
def atV (es:List MapEntry) (x:Int):Option Value:=(es.find? fun e=>match e.key with | .int .i64 k=>k==x | _=>false).map (·.val)
def KeysI (es:List MapEntry):Prop:=∀ e∈es,∃ k:Int,e.key=.int .i64 k
def MapV (w:World) (b:Nat) (f:Int→Option Value):Prop:=∃ (A:Array MapEntry) (clock:Nat),w.heap[b]?=some (.map A clock)∧KeysI A.toList∧∀ x,atV A.toList x=f x
theorem MapV.made (w:World):MapV (w.alloc (.map #[] 0)) w.heap.size (fun _=>none):=⟨#[],0,heap_new w _,by simp [KeysI],fun _=>rfl⟩
theorem MapV.chg {w w':World} {b:Nat} {f:Int→Option Value} {S:Nat→Prop} (h:MapV w b f) (k:Chg S w w') (hb:S b):MapV w' b f:=by
 obtain ⟨A,c,h1,h2⟩:=h
 exact ⟨A,c,(k.block b hb).trans h1,h2⟩
theorem MapV.lt {w:World} {b:Nat} {f:Int→Option Value} (h:MapV w b f):b<w.heap.size:=by
 obtain ⟨A,c,h1,_⟩:=h
 exact heap_lt h1
theorem MapV.nx {w w':World} {b:Nat} {f:Int→Option Value} (h:MapV w b f) (k:Ex w w'):MapV w' b f:=h.chg k h.lt
theorem MapV.nxb {w w':World} {b c:Nat} {f:Int→Option Value} (h:MapV w b f) (hb:b≠c) (k:Exb c w w'):MapV w' b f:=h.chg k ⟨h.lt,hb⟩
theorem findNow_i (kind:TypeDesc) (hk:∀ a b:Int,Instr.sameNow kind (.int .i64 a) (.int .i64 b)=some (a==b)) (x:Int):∀ (es:List MapEntry) (i:Nat),KeysI es →
  ∃ r,Instr.findNow kind (.int .i64 x) es i=some r∧r.map (·.2)=atV es x∧∀ p,r=some p→∃ j e,p=(i+j,e.val)∧es[j]?=some e∧e.key=.int .i64 x∧∀ j' e',j'<j→es[j']?=some e'→e'.key≠.int .i64 x
 | [],i,_=>⟨none,rfl,rfl,by intro p h;cases h⟩
 | e::es,i,h=>by
  obtain ⟨k,hke⟩:=h e (by simp)
  unfold Instr.findNow
  rw [hke,hk]
  by_cases hx:x=k
  ·subst hx
   refine ⟨some (i,e.val),by simp,?_,?_⟩
   ·unfold atV
    rw [List.find?_cons_of_pos (by rw [hke];simp)]
    rfl
   ·intro p hp
    cases hp
    exact ⟨0,e,rfl,rfl,hke,by intro j' e' hj;omega⟩
  ·obtain ⟨r,h1,h2,h3⟩:=findNow_i kind hk x es (i+1) (fun e he=>h e (by simp [he]))
   have hxb:(x==k)=false:=by simpa using hx
   refine ⟨r,by rw [hxb];exact h1,?_,?_⟩
   ·rw [h2]
    unfold atV
    rw [List.find?_cons_of_neg]
    rw [hke]
    simp
    exact fun h=>hx h.symm
   ·intro p hp
    obtain ⟨j,e',e1,e2,e3,e4⟩:=h3 p hp
    refine ⟨j+1,e',by rw [e1];congr 1;omega,e2,e3,?_⟩
    intro j' e'' hj he
    cases j' with
    | zero =>
     cases he
     rw [hke]
     intro h
     cases h
     exact hx rfl
    | succ j'=>exact e4 j' e'' (by omega) he
theorem same_i {n:TypeDesc} (h:n=.int .i64) (a b:Int):Instr.sameNow n (.int .i64 a) (.int .i64 b)=some (a==b):=by
 subst h
 simp [Instr.sameNow]
theorem chk_i {P:Program} {w:World} {kt:TypeId} (hk:P.underlying kt=some (.int .i64)) (x:Int) (e:Bool):(Instr.checkKey e 10000 kt (.int .i64 x)).run P w=.ok () w :=
 MapKept.run_checkKey (n:=9999) hk (by simp [MapKept.IsKey]) e
theorem fnd_i {P:Program} {w:World} {kt:TypeId} (hk:P.underlying kt=some (.int .i64)) (x:Int) (es:List MapEntry) {r:Option (Nat×Value)} (hr:Instr.findNow (.int .i64) (.int .i64 x) es 0=some r):(Instr.findKey kt (.int .i64 x) es).run P w=.ok r w:=by
 unfold Instr.findKey
 simp only [Sem.run_bind,run_underlying hk,Result.andThen,hr]
 rfl
theorem MapV.look {P:Program} {w:World} {b:Nat} {f:Int→Option Value} (h:MapV w b f) {mt kt et:TypeId} {z:Value} (hm:P.underlying mt=some (.map kt et)) (hk:P.underlying kt=some (.int .i64)) (hz:(zeroValue et).run P w=.ok z w) (x:Int) :
  (Instr.lookup mt (.map (some b)) (.int .i64 x) true).run P w=.ok (.tuple #[(f x).getD z,.bool (f x).isSome]) w:=by
 obtain ⟨A,c,h1,h2,h3⟩:=h
 obtain ⟨r,r1,r2,_⟩:=findNow_i (.int .i64) (same_i rfl) x A.toList 0 h2
 rw [h3 x] at r2
 cases r with
 | none =>
  have:f x=none:=by simpa using r2.symm
  simp [Instr.lookup,run_underlying hm,MapKept.run_getObj_map h1,chk_i hk,fnd_i hk x _ r1,hz,this,Result.andThen]
 | some p =>
  have:f x=some p.2:=by simpa using r2.symm
  simp [Instr.lookup,run_underlying hm,MapKept.run_getObj_map h1,chk_i hk,fnd_i hk x _ r1,this,Result.andThen]
theorem MapV.look1 {P:Program} {w:World} {b:Nat} {f:Int→Option Value} (h:MapV w b f) {mt kt et:TypeId} {z:Value} (hm:P.underlying mt=some (.map kt et)) (hk:P.underlying kt=some (.int .i64)) (hz:(zeroValue et).run P w=.ok z w) (x:Int) :
  (Instr.lookup mt (.map (some b)) (.int .i64 x) false).run P w=.ok ((f x).getD z) w:=by
 obtain ⟨A,c,h1,h2,h3⟩:=h
 obtain ⟨r,r1,r2,_⟩:=findNow_i (.int .i64) (same_i rfl) x A.toList 0 h2
 rw [h3 x] at r2
 cases r with
 | none =>
  have:f x=none:=by simpa using r2.symm
  simp [Instr.lookup,run_underlying hm,MapKept.run_getObj_map h1,chk_i hk,fnd_i hk x _ r1,hz,this,Result.andThen]
 | some p =>
  have:f x=some p.2:=by simpa using r2.symm
  simp [Instr.lookup,run_underlying hm,MapKept.run_getObj_map h1,chk_i hk,fnd_i hk x _ r1,this,Result.andThen]
theorem atV_push (es:List MapEntry) (x y:Int) (v:Value) (t:Nat) (h:atV es x=none):atV (es++[⟨.int .i64 x,v,t⟩]) y=if y=x then some v else atV es y:=by
 unfold atV at *
 rw [List.find?_append]
 by_cases hy:y=x
 ·subst hy
  rw [if_pos rfl]
  rw [Option.map_eq_none_iff] at h
  rw [h]
  simp
 ·rw [if_neg hy]
  cases he:es.find? (fun e=>match e.key with | .int .i64 k=>k==y | _=>false) with
  | some e=>rfl
  | none =>
   have:¬ x=y:=fun h=>hy h.symm
   simp [this]
theorem atV_set (x:Int) (v:Value) (g:MapEntry→MapEntry):∀ (es:List MapEntry) (j:Nat) (e:MapEntry),KeysI es→es[j]?=some e→e.key=.int .i64 x→(∀ j' e',j'<j→es[j']?=some e'→e'.key≠.int .i64 x) →
  (g e).key=.int .i64 x→(g e).val=v→∀ y,atV (es.modify j g) y=if y=x then some v else atV es y
 | [],j,e,_,he,_,_,_,_,_=>by simp at he
 | e0::es,0,e,hK,he,hk,_,g1,g2,y=>by
  cases he
  show atV (g e0::es) y=_
  unfold atV
  by_cases hy:y=x
  ·subst hy
   rw [if_pos rfl,List.find?_cons_of_pos (by rw [g1];simp)]
   rw [← g2];rfl
  ·rw [if_neg hy,List.find?_cons_of_neg (by rw [g1];simp;exact fun h=>hy h.symm),List.find?_cons_of_neg (by rw [hk];simp;exact fun h=>hy h.symm)]
 | e0::es,j+1,e,hK,he,hk,hno,g1,g2,y=>by
  have ih:=atV_set x v g es j e (fun e he=>hK e (by simp [he])) he hk (fun j' e' hj h=>hno (j'+1) e' (by omega) h) g1 g2 y
  show atV (e0::es.modify j g) y=_
  obtain ⟨k0,hk0⟩:=hK e0 (by simp)
  have hne:e0.key≠.int .i64 x:=hno 0 e0 (by omega) rfl
  unfold atV at *
  by_cases h0:k0=y
  ·have hyx:¬ y=x:=by intro h;apply hne;rw [hk0,h0,h]
   rw [if_neg hyx,List.find?_cons_of_pos (by rw [hk0];simp [h0]),List.find?_cons_of_pos (by rw [hk0];simp [h0])]
  ·rw [List.find?_cons_of_neg (by rw [hk0];simpa using h0),List.find?_cons_of_neg (by rw [hk0];simpa using h0)]
   exact ih
theorem MapV.put {P:Program} {w:World} {b:Nat} {f:Int→Option Value} (h:MapV w b f) {mt kt et:TypeId} (hm:P.underlying mt=some (.map kt et)) (hk:P.underlying kt=some (.int .i64)) (x:Int) (v:Value) :
  ∃ w',(Instr.mapUpdate mt (.map (some b)) (.int .i64 x) v).run P w=.ok () w'∧MapV w' b (fun y=>if y=x then some v else f y)∧Exb b w w':=by
 obtain ⟨A,c,h1,h2,h3⟩:=h
 obtain ⟨r,r1,r2,r3⟩:=findNow_i (.int .i64) (same_i rfl) x A.toList 0 h2
 have hlt:=heap_lt h1
 have hch:∀ o:Obj,Exb b w { w with heap:=w.heap.setIfInBounds b o }:=fun o =>
  ⟨rfl,rfl,rfl,by simp,fun k hk=>by simp only [];rw [Array.getElem?_setIfInBounds_ne (fun e=>hk.2 e.symm)]⟩
 cases r with
 | none =>
  have hf:atV A.toList x=none:=by simpa using r2.symm
  refine ⟨{ w with heap:=w.heap.setIfInBounds b (.map (A.push ⟨.int .i64 x,v,c⟩) (c+1)) },?_,⟨A.push ⟨.int .i64 x,v,c⟩,c+1,by simp [hlt],?_,fun y=>?_⟩,hch _⟩
  ·simp [Instr.mapUpdate,run_underlying hm,MapKept.run_getObj_map h1,chk_i hk,fnd_i hk x _ r1,MapKept.run_setObj_map _ h1,Result.andThen]
  ·intro e he
   rw [Array.toList_push] at he
   rcases List.mem_append.1 he with he | he
   ·exact h2 e he
   ·rw [List.mem_singleton.1 he];exact ⟨x,rfl⟩
  ·rw [Array.toList_push,atV_push _ _ _ _ _ hf,h3]
 | some p =>
  obtain ⟨j,e,e1,e2,e3,e4⟩:=r3 p rfl
  have hj:p.1=j:=by rw [e1];simp
  obtain ⟨q,u⟩:=p
  simp only at hj
  subst hj
  have hA:A[q]?=some e:=by rw [← Array.getElem?_toList];exact e2
  refine ⟨{ w with heap:=w.heap.setIfInBounds b (.map (A.modify q fun e=>{ e with key:=.int .i64 x,val:=v }) c) },?_,⟨A.modify q fun e=>{ e with key:=.int .i64 x,val:=v },c,by simp [hlt],?_,fun y=>?_⟩,hch _⟩
  ·simp [Instr.mapUpdate,run_underlying hm,MapKept.run_getObj_map h1,chk_i hk,fnd_i hk x _ r1,MapKept.run_setObj_map _ h1,hA,e3,Instr.keyThatStays,Instr.sameBits,Result.andThen]
  ·intro e' he
   rw [Array.toList_modify] at he
   obtain ⟨i,hi⟩:=List.mem_iff_getElem?.1 he
   rw [List.getElem?_modify] at hi
   cases ha:A.toList[i]? with
   | none=>rw [ha] at hi;cases hi
   | some e0 =>
    rw [ha] at hi
    have:=h2 e0 (List.mem_of_getElem? ha)
    simp only [Option.map_eq_map,Option.map_some,Option.some.injEq] at hi
    split at hi
    ·rw [← hi];exact ⟨x,rfl⟩
    ·rw [← hi];exact this
  ·rw [Array.toList_modify,atV_set x v _ A.toList q e h2 e2 e3 e4 rfl rfl y,h3]
def fN (N:List Nd) (id:Int):Option Value:=(N.find? fun x=>x.id==id).map Nd.val
def fQ (qs:List (Int×Hdr)) (id:Int):Option Value:=(qs.find? fun q=>q.1==id).map fun q=>q.2.val
theorem fN_snoc {N:List Nd} (hd:N.Pairwise fun x y=>x.id≠y.id) {k:Nat} {y:Nd} (hy:N[k]?=some y):(fun z=>if z=y.id then some y.val else fN (N.take k) z)=fN (N.take (k+1)):=by
 funext z
 obtain ⟨hk,e⟩:=List.getElem?_eq_some_iff.1 hy
 unfold fN
 rw [take_snocN N k y hy,List.find?_append]
 by_cases hz:z=y.id
 ·have:(N.take k).find? (fun x=>x.id==z)=none:=by
   rw [List.find?_eq_none]
   intro x hx hxz
   obtain ⟨j,hj⟩:=List.mem_iff_getElem?.1 hx
   rw [List.getElem?_take] at hj
   split at hj
   ·rename_i hjk
    obtain ⟨h1,e1⟩:=List.getElem?_eq_some_iff.1 hj
    have:=List.pairwise_iff_getElem.1 hd j k h1 hk hjk
    rw [e1,e] at this
    exact this ((by simpa using hxz:x.id=z).trans hz)
   ·cases hj
  rw [this,if_pos hz,hz]
  simp
 ·rw [if_neg hz]
  have h1:(y.id==z)=false:=by rw [beq_eq_false_iff_ne];exact fun h=>hz h.symm
  cases h2:(N.take k).find? (fun x=>x.id==z) with
  | some x=>rfl
  | none=>simp [h1]
theorem fQ_snoc {qs:List (Int×Hdr)} {k:Nat} {q:Int×Hdr} (hq:qs[k]?=some q):fQ (qs.take (k+1))=if (fQ (qs.take k) q.1).isSome=true then fQ (qs.take k) else fun z=>if z=q.1 then some q.2.val else fQ (qs.take k) z:=by
 have e:qs.take (k+1)=qs.take k++[q]:=by rw [List.take_add_one,hq];rfl
 funext z
 unfold fQ
 rw [e,List.find?_append]
 by_cases hs:((qs.take k).find? fun r=>r.1==q.1).isSome=true
 ·have hs':(((qs.take k).find? fun r=>r.1==q.1).map fun q=>q.2.val).isSome=true:=by rw [Option.isSome_map];exact hs
  rw [if_pos hs']
  cases h2:(qs.take k).find? (fun r=>r.1==z) with
  | some x=>rfl
  | none =>
   by_cases hz:z=q.1
   ·rw [hz] at h2;rw [h2] at hs;cases hs
   ·have h1:(q.1==z)=false:=by rw [beq_eq_false_iff_ne];exact fun h=>hz h.symm
    simp [h1]
 ·have hs':¬ (((qs.take k).find? fun r=>r.1==q.1).map fun q=>q.2.val).isSome=true:=by rw [Option.isSome_map];exact hs
  rw [if_neg hs']
  have hn:(qs.take k).find? (fun r=>r.1==q.1)=none:=Option.not_isSome_iff_eq_none.1 hs
  by_cases hz:z=q.1
  ·rw [if_pos hz,hz,hn];simp
  ·have h1:(q.1==z)=false:=by rw [beq_eq_false_iff_ne];exact fun h=>hz h.symm
   rw [if_neg hz]
   cases h2:(qs.take k).find? (fun r=>r.1==z) with
   | some x=>rfl
   | none=>simp [h1]
theorem find_fN (N:List Nd) (id:Int):(fN N id).getD Nd.zero.val=(findN N id).1.val∧(fN N id).isSome=(findN N id).2:=by
 unfold fN findN
 cases N.find? (fun x=>x.id==id)<;>exact ⟨rfl,rfl⟩
def Net (β:Nat) (w:World) (b1 b2:Nat) (N:List Nd) (L:List Lkd):Prop :=
 ∃ qs:List (Int×Hdr),b1<β∧MapV w b1 (fN N)∧b2<β∧MapV w b2 (fQ qs)∧qs.length=L.length∧∀ (j:Nat) (q:Int×Hdr) (c:Lkd),qs[j]?=some q→L[j]?=some c→q.1=c.1∧Rd 2 encS (· < β) w q.2.1 q.2.2.1 c.2
theorem Net.chg {β:Nat} {w w':World} {b1 b2:Nat} {N:List Nd} {L:List Lkd} (h:Net β w b1 b2 N L) (k:Chg (· < β) w w'):Net β w' b1 b2 N L:=by
 obtain ⟨qs,h1,h2,h3,h4,h5,h6⟩:=h
 exact ⟨qs,h1,h2.chg k h1,h3,h4.chg k h3,h5,fun j q c hq hc=>⟨(h6 j q c hq hc).1,Rd.chg (h6 j q c hq hc).2 k (fun _ x=>x)⟩⟩
theorem Net.nx {β:Nat} {w w':World} {b1 b2:Nat} {N:List Nd} {L:List Lkd} (h:Net β w b1 b2 N L) (hb:β≤w.heap.size) (k:Ex w w'):Net β w' b1 b2 N L:=h.chg (Chg.mono k (fun _ hk=>Nat.lt_of_lt_of_le hk hb))
theorem Net.up {β β':Nat} {w:World} {b1 b2:Nat} {N:List Nd} {L:List Lkd} (h:Net β w b1 b2 N L) (hb:β≤β'):Net β' w b1 b2 N L:=by
 obtain ⟨qs,h1,h2,h3,h4,h5,h6⟩:=h
 exact ⟨qs,by omega,h2,by omega,h4,h5,fun j q c hq hc=>⟨(h6 j q c hq hc).1,Rd.mono (h6 j q c hq hc).2 (fun _ hk=>Nat.lt_of_lt_of_le hk hb)⟩⟩
theorem Net.row {β:Nat} {w:World} {b1 b2:Nat} {N:List Nd} {L:List Lkd} {qs:List (Int×Hdr)} (hl:qs.length=L.length) (h6:∀ (j:Nat) (q:Int×Hdr) (c:Lkd),qs[j]?=some q→L[j]?=some c→q.1=c.1∧Rd 2 encS (· < β) w q.2.1 q.2.2.1 c.2) (id:Int) :
  ∃ (a:Option Addr) (n c:Nat) (row:List (Int×Int)),(fQ qs id).getD (.slice none 0 0)=.slice a n c∧Rd 2 encS (· < β) w a n row∧topL L id=min ((n:Int)-1) 16∧(∀ lev:Nat,atL L id (lev:Int)=row[lev]?.getD (0,0))∧(row=[]∨∃ d∈L,row=d.2):=by
 have key:∀ (qs:List (Int×Hdr)) (L:List Lkd),qs.length=L.length→(∀ (j:Nat) (q:Int×Hdr) (c:Lkd),qs[j]?=some q→L[j]?=some c→q.1=c.1∧Rd 2 encS (· < β) w q.2.1 q.2.2.1 c.2) →
   (qs.find? (fun q=>q.1==id)=none∧L.find? (fun c=>c.1==id)=none)∨∃ q d,qs.find? (fun q=>q.1==id)=some q∧L.find? (fun c=>c.1==id)=some d∧d∈L∧Rd 2 encS (· < β) w q.2.1 q.2.2.1 d.2:=by
  intro qs
  induction qs with
  | nil=>intro L h _;cases L with
   | nil=>exact .inl ⟨rfl,rfl⟩
   | cons d L=>simp at h
  | cons q qs ih =>
   intro L h h6
   cases L with
   | nil=>simp at h
   | cons d L =>
    obtain ⟨e1,e2⟩:=h6 0 q d rfl rfl
    by_cases hq:q.1=id
    ·exact .inr ⟨q,d,by rw [List.find?_cons_of_pos (by simpa using hq)],by rw [List.find?_cons_of_pos (by rw [← e1];simpa using hq)],by simp,e2⟩
    ·rw [List.find?_cons_of_neg (by simpa using hq),List.find?_cons_of_neg (by rw [← e1];simpa using hq)]
     rcases ih L (by simpa using h) (fun j q c hq hc=>h6 (j+1) q c hq hc) with h | ⟨q',d',g1,g2,g3,g4⟩
     ·exact .inl h
     ·exact .inr ⟨q',d',g1,g2,by simp [g3],g4⟩
 rcases key qs L hl h6 with ⟨g1,g2⟩ | ⟨q,d,g1,g2,g3,g4⟩
 ·refine ⟨none,0,0,[],by unfold fQ;rw [g1];rfl,Rd.nil _ _ _ _ _,by unfold topL;rw [g2];rfl,fun lev=>by unfold atL;rw [g2];rfl,.inl rfl⟩
 ·refine ⟨q.2.1,q.2.2.1,q.2.2.2,d.2,by unfold fQ;rw [g1];rfl,g4,by unfold topL;rw [g2];simp only;rw [g4.1],fun lev=>?_,.inr ⟨d,g3,rfl⟩⟩
  unfold atL
  rw [g2]
  simp only
  rw [if_neg (by omega)]
  rfl
theorem Tryz.zeroNd (w:World):(zeroValue 36).run Tryz.prog w=.ok (.agg #[.int .i64 0,.string ⟨#[]⟩,.int .u32 0]) w:=by kernel_rfl
theorem Tryz.zeroLs (w:World):(zeroValue 119).run Tryz.prog w=.ok (.slice none 0 0) w:=by kernel_rfl
def sideN (side:Int) (p:Int×Int):Int:=if side=1 then p.2 else p.1
def LnPost (r:Nd×Bool) (w:World) (e:Ending) (w':World):Prop:=e=.returned (.tuple #[.agg #[.int .i64 r.1.id,.string r.1.key,.int .u32 r.1.word],.bool r.2])∧Ex w w'
set_option maxRecDepth 100000 in
set_option maxHeartbeats 4000000 in
theorem linkr_p (β b1 b2:Nat) (N:List Nd) (L:List Lkd) (id:Int) (lev:Nat) (side:Int) (w:World) (h:Net β w b1 b2 N L) (h0:checkN N=0) (hb:β≤w.heap.size) (hs:∀ c∈L,c.2.length≤9223372036854775807) (hl:lev≤1000) :
  Calls Tryz.prog 73 #[.agg #[.map (some b1),.map (some b2)],.int .i64 id,.int .i64 lev,.int .i64 side] w (LnPost (findN N (sideN side (atL L id lev))) w):=by
 obtain ⟨qs,h1,m1,h2,m2,h5,h6⟩:=h
 obtain ⟨a,n,c,row,r1,r2,_,r4,r5⟩:=Net.row (b1:=b1) (b2:=b2) (N:=N) h5 h6 id
 have hnb:n≤9223372036854775807:=by
  rw [← r2.1]
  rcases r5 with h | ⟨d,hd,h⟩
  ·rw [h];simp
  ·rw [h];exact hs d hd
 have B4:=Blk.new w [.map (some b1),.map (some b2)] 138
 have k1:=Ex.new w (.cells #[.map (some b1),.map (some b2)] 138)
 have B8:=Blk.new (w.alloc (.cells #[.map (some b1),.map (some b2)] 138)) [.int .i64 0,.string ⟨#[]⟩,.int .u32 0] 36
 have k2:=Ex.new (w.alloc (.cells #[.map (some b1),.map (some b2)] 138)) (.cells #[.int .i64 0,.string ⟨#[]⟩,.int .u32 0] 36)
 have B4:=B4.nx k2
 obtain ⟨w1,hw1⟩:∃ w1,w1=(w.alloc (.cells #[.map (some b1),.map (some b2)] 138)).alloc (.cells #[.int .i64 0,.string ⟨#[]⟩,.int .u32 0] 36):=⟨_,rfl⟩
 obtain ⟨g4,hg4⟩:∃ g4,g4=w.heap.size:=⟨_,rfl⟩
 obtain ⟨g8,hg8⟩:∃ g8,g8=w.heap.size+1:=⟨_,rfl⟩
 have B4:Blk w1 g4 [.map (some b1),.map (some b2)] 138:=by rw [hw1,hg4];exact B4
 have B8:Blk w1 g8 [.int .i64 0,.string ⟨#[]⟩,.int .u32 0] 36:=by rw [hw1,hg8];simpa using B8
 have k1:=k1.nx k2
 rw [← hw1] at k1
 have hgw:w.heap.size≤g8:=by omega
 have HW1:=lH hw1
 have HG4:=lH hg4
 have HG8:=lH hg8
 have M1:=m1.nx k1
 have M2:=m2.nx k1
 have RW:=lH (show Sl 2 encS w1 a n row from Sl.nx (Rd.mono r2 (fun _ hk=>Nat.lt_of_lt_of_le hk hb)) k1)
 have look:=M2.look1 (mt:=136) Tryz.underlying136 Tryz.underlying3 (Tryz.zeroLs w1) id
 rw [r1] at look
 have c0:=B4.cell 0 _ rfl
 have c1:=B4.cell 1 _ rfl
 have KE:=lH (fun (wr:World) (v0 v1 v2:Value) (k:Ex w1 wr)=>(((k1.nx k).setNew (p:=⟨g8,0,none⟩) v0 hgw).setNew (p:=⟨g8,1,none⟩) v1 hgw).setNew (p:=⟨g8,2,none⟩) v2 hgw)
 have R4:=lH r4
 have RL:=lH r2.1
 have HB:=lH (And.intro B4 B8)
 have hmm:b1<w1.heap.size:=M1.lt
 clear m1 m2 h5 h6 r1 r2 r4 r5 hw1 hg4 hg8 k1 k2 B4 B8 hs
 go_enter Tryz.func73,Tryz.ntmps73
 go_upto_region 1 with fail
 rw [← HG8.out,← HW1.out,← HG4.out]
 clear HG8 HW1 HG4
 by_cases hlv:n≤lev
 ·have hlv':(n:Int)≤(lev:Int):=by omega
  have AT:Hid (findN N (sideN side (atL L id (lev:Int)))=(Nd.zero,false)):=lH (by
   rw [R4.out lev,List.getElem?_eq_none (by rw [RL.out];exact hlv)]
   have:=find_zero h0
   unfold sideN
   split<;>exact this)
  have q0:=HB.out.2.cell 0 _ rfl
  have q1:=HB.out.2.cell 1 _ rfl
  have q2:=HB.out.2.cell 2 _ rfl
  have z0:=HB.out.2.free 0
  have z1:=HB.out.2.free 1
  have z2:=HB.out.2.free 2
  have KF:=KE.out w1 (.int .i64 0) (.string ⟨#[]⟩) (.int .u32 0) (Ex.refl w1)
  have KF:=lH KF
  clear M1 M2 hlv
  go_wp2_with fail
  refine bodyPost_ret (v:=.tuple #[.agg #[.int .i64 0,.string ⟨#[]⟩,.int .u32 0],.bool false]) (by simp [results,Tryz.results73,go_sem, *]) rfl ⟨by rw [AT.out];rfl,KF.out⟩
 ·have hlv':¬ (n:Int)≤(lev:Int):=by omega
  obtain ⟨x2,o2,y,rfl,hx2,hy,hc2⟩:=RW.out.at (j:=lev) (by omega)
  have f0:w1.cell? ⟨x2,o2+lev*2,none⟩=some (.int .i64 y.1):=hc2 0 _ rfl
  have f1:w1.cell? ⟨x2,o2+lev*2+1,none⟩=some (.int .i64 y.2):=hc2 1 _ rfl
  have AT:Hid (atL L id (lev:Int)=y):=lH (by rw [R4.out lev,hy];rfl)
  have B10:=Blk.new w1 [.int .i64 y.1,.int .i64 y.2] 128
  have k3:=Ex.new w1 (.cells #[.int .i64 y.1,.int .i64 y.2] 128)
  obtain ⟨w2,hw2⟩:∃ w2,w2=w1.alloc (.cells #[.int .i64 y.1,.int .i64 y.2] 128):=⟨_,rfl⟩
  obtain ⟨g10,hg10⟩:∃ g10,g10=w1.heap.size:=⟨_,rfl⟩
  have B10:Blk w2 g10 [.int .i64 y.1,.int .i64 y.2] 128:=by rw [hw2,hg10];exact B10
  rw [← hw2] at k3
  have HW2:=lH hw2
  have HG10:=lH hg10
  have M1b:=lH (M1.nx k3)
  have HBb:=lH (And.intro (HB.out.1.nx k3) (HB.out.2.nx k3))
  have K3:=lH k3
  clear hc2 hy hw2 hg10 k3 hlv M1 M2
  go_upto_region 4 with fail
  rw [← HG10.out,← HW2.out]
  clear HG10 HW2 look f0 f1 c0 c1
  have d0:=B10.cell 0 _ rfl
  have d1:=B10.cell 1 _ rfl
  have c0:=HBb.out.1.cell 0 _ rfl
  obtain ⟨T,hT⟩:∃ T,T=sideN side y:=⟨_,rfl⟩
  have ATT:Hid (sideN side (atL L id (lev:Int))=T):=lH (by rw [AT.out,hT])
  have lk:=M1b.out.look (mt:=135) Tryz.underlying135 Tryz.underlying3 (Tryz.zeroNd w2) T
  have ff:=find_fN N T
  have e1:(fN N T).getD (.agg #[.int .i64 0,.string ⟨#[]⟩,.int .u32 0])=(findN N T).1.val:=ff.1
  rw [e1,ff.2] at lk
  obtain ⟨E,hE⟩:∃ E,E=findN N T:=⟨_,rfl⟩
  rw [← hE] at lk
  have AE:Hid (findN N (sideN side (atL L id (lev:Int)))=E):=lH (by rw [ATT.out,hE])
  obtain ⟨E,eo⟩:=E
  unfold Nd.val at lk
  simp only at lk
  have q0:=HBb.out.2.cell 0 _ rfl
  have q1:=HBb.out.2.cell 1 _ rfl
  have q2:=HBb.out.2.cell 2 _ rfl
  have z0:=HBb.out.2.free 0
  have z1:=HBb.out.2.free 1
  have z2:=HBb.out.2.free 2
  have hg8l:=HBb.out.2.lt
  have hne:¬ g8=w2.heap.size:=by omega
  have hne2:¬ w2.heap.size=g8:=by omega
  have KF:=lH ((KE.out w2 (.int .i64 E.id) (.string E.key) (.int .u32 E.word) K3.out).alloc (.cells #[.int .i64 E.id,.string E.key,.int .u32 E.word] 36))
  clear ff e1 hE M1b B10 ATT
  by_cases hsd:side=1
  ·rw [show sideN side y=y.2 from if_pos hsd] at hT
   have sb:(side==1)=true:=by simpa using hsd
   subst hT
   clear hsd
   go_wp2_with fail
   refine bodyPost_ret (v:=.tuple #[.agg #[.int .i64 E.id,.string E.key,.int .u32 E.word],.bool eo]) (by simp [results,Tryz.results73,go_sem, *]) rfl ⟨by rw [AE.out],KF.out⟩
  ·rw [show sideN side y=y.1 from if_neg hsd] at hT
   have sb:(side==1)=false:=by simpa using hsd
   subst hT
   clear hsd
   go_wp2_with fail
   refine bodyPost_ret (v:=.tuple #[.agg #[.int .i64 E.id,.string E.key,.int .u32 E.word],.bool eo]) (by simp [results,Tryz.results73,go_sem, *]) rfl ⟨by rw [AE.out],KF.out⟩
def M1Rel (N:List Nd) (b:Nat) (w:World) (i:Value) (wr:World):Prop:=∃ k:Nat,k≤N.length∧i=.int .i64 k∧MapV wr b (fN (N.take k))∧Exb b w wr
def M2Rel (qs:List (Int×Hdr)) (b:Nat) (w:World) (i:Value) (wr:World):Prop:=∃ k:Nat,k≤qs.length∧i=.int .i64 k∧MapV wr b (fQ (qs.take k))∧Exb b w wr
def MdrPost (N:List Nd) (L:List Lkd) (w:World) (e:Ending) (w':World):Prop:=∃ b1 b2:Nat,e=.returned (.agg #[.map (some b1),.map (some b2)])∧Net w'.heap.size w' b1 b2 N L∧Ex w w'
set_option maxRecDepth 100000 in
set_option maxHeartbeats 4000000 in
theorem made_p (a:Option Addr) (n c:Nat) (N:List Nd) (a2:Option Addr) (n2 c2:Nat) (L:List Lkd) (w:World) (h:Sl 3 encN w a n N) (hn:n≤1000) (h2:LkL w a2 n2 L) (hn2:n2≤1000000) (h0:checkN N=0) :
  Calls Tryz.prog 71 #[.slice a n c,.slice a2 n2 c2] w (MdrPost N L w):=by
 have ID:Hid (N.Pairwise fun x y=>x.id≠y.id):=lH ((keys_pw (check_keys h0)).imp (fun h=>h.2))
 have HL:=lH h.len
 obtain ⟨qs,hq1,hq2,hq3⟩:=h2
 have HQL:=lH hq1.len
 have HQ2:=lH hq2
 have HQ3:=lH hq3
 have hmm:=@run_makeMap Tryz.prog
 obtain ⟨g4,hg4⟩:∃ g4,g4=w.heap.size:=⟨_,rfl⟩
 obtain ⟨b1,hb1⟩:∃ b1,b1=w.heap.size+1:=⟨_,rfl⟩
 obtain ⟨b2,hb2⟩:∃ b2,b2=w.heap.size+1+1:=⟨_,rfl⟩
 obtain ⟨g5,hg5⟩:∃ g5,g5=w.heap.size+1+1+1:=⟨_,rfl⟩
 obtain ⟨w4,hw4,k4,B4,M1,M2,B5⟩:∃ w4,w4=(((w.alloc (.cells #[.map none,.map none] 138)).alloc (.map #[] 0)).alloc (.map #[] 0)).alloc (.cells #[.map (some b1),.map (some b2)] 138)∧Ex w w4 ∧
   Blk w4 g4 [.map none,.map none] 138∧MapV w4 b1 (fun _=>none)∧MapV w4 b2 (fun _=>none)∧Blk w4 g5 [.map (some b1),.map (some b2)] 138:=by
  refine ⟨_,rfl,?_,?_,?_,?_,?_⟩
  ·exact (((Ex.new w _).alloc _).alloc _).alloc _
  ·rw [hg4];exact (((Blk.new w _ _).nx (Ex.new _ _)).nx (Ex.new _ _)).nx (Ex.new _ _)
  ·have:=((MapV.made (w.alloc (.cells #[.map none,.map none] 138))).nx (Ex.new _ (.map #[] 0))).nx (Ex.new _ (.cells #[.map (some b1),.map (some b2)] 138))
   rw [show (w.alloc (.cells #[.map none,.map none] 138)).heap.size=b1 by rw [hb1];simp] at this
   exact this
  ·have:=(MapV.made ((w.alloc (.cells #[.map none,.map none] 138)).alloc (.map #[] 0))).nx (Ex.new _ (.cells #[.map (some b1),.map (some b2)] 138))
   rw [show ((w.alloc (.cells #[.map none,.map none] 138)).alloc (.map #[] 0)).heap.size=b2 by rw [hb2];simp] at this
   exact this
  ·have:=Blk.new (((w.alloc (.cells #[.map none,.map none] 138)).alloc (.map #[] 0)).alloc (.map #[] 0)) [.map (some b1),.map (some b2)] 138
   rw [show (((w.alloc (.cells #[.map none,.map none] 138)).alloc (.map #[] 0)).alloc (.map #[] 0)).heap.size=g5 by rw [hg5];simp] at this
   exact this
 have hle1:w.heap.size≤b1:=by omega
 have hle2:w.heap.size≤b2:=by omega
 have hn12:b1≠b2:=by omega
 have hn41:g4≠b1:=by omega
 have hn42:g4≠b2:=by omega
 have hn51:g5≠b1:=by omega
 have hn52:g5≠b2:=by omega
 have hle4:w.heap.size≤g4:=by omega
 have SW:=lH ((h.slb hle1).nxb (k4.b b1))
 have SQ:=lH (hq1.nx k4)
 have HS4:=lH (show (∀ k,k<w.heap.size→k<w4.heap.size) from fun k hk=>Nat.lt_of_lt_of_le hk k4.size)
 have HW4:=lH hw4
 have HG4:=lH hg4
 have HB1:=lH hb1
 have HB2:=lH hb2
 have HG5:=lH hg5
 have K4:=lH k4
 have hq1n:=lH hq1
 clear h hq1 hq2 hq3 hw4 hg4 hb1 hb2 hg5 k4
 go_enter Tryz.func71,Tryz.ntmps71
 go_upto_region 2 with fail
 rw [← HG5.out,← HB2.out,← HB1.out,← HG4.out,← HW4.out]
 clear HG5 HB2 HB1 HG4 HW4 hmm
 go_wp2_with fail
 go_loopw [17] (fun i wr=>M1Rel N b1 w4 i wr) (fun i _=>n-(intOf i).toNat)
 case atStart=>exact ⟨0,by omega,rfl,M1,Exb.refl _ _⟩
 case round =>
  clear M1
  obtain ⟨k,hk,rfl,M1,kw⟩:=hrel
  obtain ⟨wo,rfl⟩:∃ wo:World,wo=wr:=⟨_,rfl⟩
  have B5w:=B5.nxb hn51 kw
  rw [HL.out] at hk
  by_cases hlt:k<n
  ·obtain ⟨x1,o1,y,rfl,hx1,hy,hc1⟩:=(SW.out.nxb kw).sl.at hlt
   have e0:wo.cell? ⟨x1,o1+k*3,none⟩=some (.int .i64 y.id):=hc1 0 _ rfl
   have e1:wo.cell? ⟨x1,o1+k*3+1,none⟩=some (.string y.key):=hc1 1 _ rfl
   have e2:wo.cell? ⟨x1,o1+k*3+1+1,none⟩=some (.int .u32 y.word):=by simpa [Nat.add_assoc] using hc1 2 _ rfl
   have FSn:=lH (fN_snoc ID.out hy)
   have B7:=Blk.new wo [.int .i64 y.id,.string y.key,.int .u32 y.word] 36
   have k7:=Ex.new wo (.cells #[.int .i64 y.id,.string y.key,.int .u32 y.word] 36)
   obtain ⟨w7,hw7⟩:∃ w7,w7=wo.alloc (.cells #[.int .i64 y.id,.string y.key,.int .u32 y.word] 36):=⟨_,rfl⟩
   obtain ⟨g7,hg7⟩:∃ g7,g7=wo.heap.size:=⟨_,rfl⟩
   have B7:Blk w7 g7 [.int .i64 y.id,.string y.key,.int .u32 y.word] 36:=by rw [hw7,hg7];exact B7
   rw [← hw7] at k7
   have HW7:=lH hw7
   have HG7:=lH hg7
   have M7:=M1.nx k7
   have kw7:=kw.nxb (k7.b b1)
   have c0:=(B5w.nx k7).cell 0 _ rfl
   have d0:=B7.cell 0 _ rfl
   have d1:=B7.cell 1 _ rfl
   have d2:=B7.cell 2 _ rfl
   obtain ⟨wm,hrun,MI2,km⟩:=MapV.put (P:=Tryz.prog) M7 (mt:=135) Tryz.underlying135 Tryz.underlying3 y.id (.agg #[.int .i64 y.id,.string y.key,.int .u32 y.word])
   have RR:=lH (show M1Rel N b1 w4 (.int .i64 ((k:Int)+1)) wm from ⟨k+1,by rw [HL.out];omega,by go_num,by rw [← FSn.out];exact MI2,kw7.nxb km⟩)
   clear hc1 hy hw7 hg7 k7 M1 kw B7 M7 MI2 km kw7 B5w
   go_upto_region 5 with fail
   rw [← HG7.out,← HW7.out]
   clear HG7 HW7 e0 e1 e2
   go_wp2_with fail
   exact ⟨RR.out,by simp [intOf];omega⟩
  ·obtain rfl:k=n:=by omega
   rw [List.take_of_length_le (by rw [HL.out];exact Nat.le_refl _)] at M1
   have M1L:=M1.lt
   have M2w:=M2.nxb (Ne.symm hn12) kw
   have KW:=lH (Exl.nxb (b:=b1) (w:=w) ⟨K4.out,hle1⟩ kw).1
   have B4w:=B4.nxb hn41 kw
   have SQ:=lH (show Slb 2 (encP encI) b2 wo a2 n2 qs from ((hq1n.out.slb hle2).nxb (KW.out.b b2)))
   clear hk hlt kw M2 B4 B5
   go_wp2_with fail
   go_loopw [29] (fun i wr=>M2Rel qs b2 wo i wr) (fun i _=>n2-(intOf i).toNat)
   case atStart=>exact ⟨0,by omega,rfl,M2w,Exb.refl _ _⟩
   case round =>
    clear M2w
    obtain ⟨j,hj,rfl,M2,kj⟩:=hrel
    obtain ⟨wi,rfl⟩:∃ wi:World,wi=wr:=⟨_,rfl⟩
    rw [HQL.out] at hj
    have B5i:=B5w.nxb hn52 kj
    by_cases hjl:j<n2
    ·obtain ⟨x1,o1,q,rfl,hx1,hq,hc1⟩:=(SQ.out.nxb kj).sl.at hjl
     obtain ⟨qi,qa,qn,qc⟩:=q
     have e0:wi.cell? ⟨x1,o1+j*2,none⟩=some (.int .i64 qi):=hc1 0 _ rfl
     have e1:wi.cell? ⟨x1,o1+j*2+1,none⟩=some (.slice qa qn qc):=hc1 1 _ rfl
     have FSn:=lH (fQ_snoc hq)
     have B9:=Blk.new wi [.int .i64 qi,.slice qa qn qc] 121
     have k9:=Ex.new wi (.cells #[.int .i64 qi,.slice qa qn qc] 121)
     obtain ⟨w9,hw9⟩:∃ w9,w9=wi.alloc (.cells #[.int .i64 qi,.slice qa qn qc] 121):=⟨_,rfl⟩
     obtain ⟨g9,hg9⟩:∃ g9,g9=wi.heap.size:=⟨_,rfl⟩
     have B9:Blk w9 g9 [.int .i64 qi,.slice qa qn qc] 121:=by rw [hw9,hg9];exact B9
     rw [← hw9] at k9
     have HW9:=lH hw9
     have HG9:=lH hg9
     have M9:=M2.nx k9
     have kj9:=kj.nxb (k9.b b2)
     have c1:=(B5i.nx k9).cell 1 _ rfl
     have d0:=B9.cell 0 _ rfl
     have d1:=B9.cell 1 _ rfl
     have lk:=M9.look (P:=Tryz.prog) (mt:=136) Tryz.underlying136 Tryz.underlying3 (Tryz.zeroLs w9) qi
     clear hc1 hq hw9 hg9 k9 M2 kj B9 B5i
     cases hsm:(fQ (qs.take j) qi).isSome with
     | true =>
      rw [hsm] at lk
      have RR:=lH (show M2Rel qs b2 wo (.int .i64 ((j:Int)+1)) w9 from ⟨j+1,by rw [HQL.out];omega,by go_num,by rw [FSn.out,if_pos hsm];exact M9,kj9⟩)
      generalize (fQ (qs.take j) qi).getD (Value.slice none 0 0)=vv at lk
      clear M9 kj9 hsm
      go_upto_region 10 with fail
      rw [← HG9.out,← HW9.out]
      clear HG9 HW9 e0 e1
      go_wp2_with fail
      exact ⟨RR.out,by simp [intOf];omega⟩
     | false =>
      rw [hsm] at lk
      obtain ⟨wm,hrun,MI2,km⟩:=MapV.put (P:=Tryz.prog) M9 (mt:=136) Tryz.underlying136 Tryz.underlying3 qi (.slice qa qn qc)
      have RR:=lH (show M2Rel qs b2 wo (.int .i64 ((j:Int)+1)) wm from ⟨j+1,by rw [HQL.out];omega,by go_num,by rw [FSn.out,if_neg (by rw [hsm];simp)];exact MI2,kj9.nxb km⟩)
      generalize (fQ (qs.take j) qi).getD (Value.slice none 0 0)=vv at lk
      clear M9 kj9 hsm MI2 km
      go_upto_region 10 with fail
      rw [← HG9.out,← HW9.out]
      clear HG9 HW9 e0 e1
      go_wp2_with fail
      exact ⟨RR.out,by simp [intOf];omega⟩
    ·obtain rfl:j=n2:=by omega
     rw [List.take_of_length_le (by rw [HQL.out];exact Nat.le_refl _)] at M2
     have M1i:=M1.nxb hn12 kj
     have c0:=B5i.cell 0 _ rfl
     have c1:=B5i.cell 1 _ rfl
     have B4i:=B4w.nxb hn42 kj
     have q0:=B4i.cell 0 _ rfl
     have q1:=B4i.cell 1 _ rfl
     have z0:=B4i.free 0
     have z1:=B4i.free 1
     have KI:Ex w wi:=(Exl.nxb (b:=b2) (w:=w) ⟨KW.out,hle2⟩ kj).1
     have KF:=(KI.setNew (p:=⟨g4,0,none⟩) (.map (some b1)) hle4).setNew (p:=⟨g4,1,none⟩) (.map (some b2)) hle4
     have kset:Exb g4 wi ((wi.setCell ⟨g4,0,none⟩ (.map (some b1))).setCell ⟨g4,1,none⟩ (.map (some b2))):=((Exb.refl g4 wi).setB (p:=⟨g4,0,none⟩) (.map (some b1)) rfl).setB (p:=⟨g4,1,none⟩) (.map (some b2)) rfl
     have FIN:=lH (show MdrPost N L w (.returned (.agg #[.map (some b1),.map (some b2)])) ((wi.setCell ⟨g4,0,none⟩ (.map (some b1))).setCell ⟨g4,1,none⟩ (.map (some b2))) from
      ⟨b1,b2,rfl,⟨qs,(M1i.nxb (Ne.symm hn41) kset).lt,M1i.nxb (Ne.symm hn41) kset,(M2.nxb (Ne.symm hn42) kset).lt,M2.nxb (Ne.symm hn42) kset,by rw [HQL.out,HQ2.out],fun j q c hq hc=>⟨(HQ3.out j q c hq hc).1,(HQ3.out j q c hq hc).2.nx KF⟩⟩,KF⟩)
     clear hj hjl M2 M1i B5i B4i KI KF kset kj
     go_wp2_with fail
     refine bodyPost_ret (v:=.agg #[.map (some b1),.map (some b2)]) (by simp [results,Tryz.results71,go_sem, *]) rfl FIN.out
def HpPost (base go gx:Nat) (x y:Nd) (lev:Int) (out:List Hop) (w:World) (e:Ending) (w':World):Prop :=
 e=.returned (.tuple #[])∧∃ v:Value,Blk w' go [v] 37∧OwnL 3 encHp 74 base w' v (out++[(x.id,y.id,lev)])∧Blk w' gx [.int .i64 y.id,.string y.key,.int .u32 y.word] 36∧Chg (fun k=>k<base∧k≠go∧k≠gx) w w'
set_option maxRecDepth 100000 in
set_option maxHeartbeats 2000000 in
theorem hop_p (base go gx:Nat) (x y:Nd) (lev:Int) (v:Value) (out:List Hop) (w:World) (hgo:Blk w go [v] 37) (own:OwnL 3 encHp 74 base w v out) (hgx:Blk w gx [.int .i64 x.id,.string x.key,.int .u32 x.word] 36) (h1:go≠gx) (h2:go<base) (h3:gx<base) (hb:base≤w.heap.size) (ho:out.length≤1000) :
  Calls Tryz.prog 72 #[.agg #[.int .i64 y.id,.string y.key,.int .u32 y.word],.int .i64 lev,.pointer (some ⟨go,0,none⟩),.pointer (some ⟨gx,0,none⟩)] w (HpPost base go gx x y lev out w):=by
 have B4:=Blk.new w [.int .i64 y.id,.string y.key,.int .u32 y.word] 36
 have k1:=Ex.new w (.cells #[.int .i64 y.id,.string y.key,.int .u32 y.word] 36)
 obtain ⟨w1,hw1⟩:∃ w1,w1=w.alloc (.cells #[.int .i64 y.id,.string y.key,.int .u32 y.word] 36):=⟨_,rfl⟩
 obtain ⟨g4,hg4⟩:∃ g4,g4=w.heap.size:=⟨_,rfl⟩
 have B4:Blk w1 g4 [.int .i64 y.id,.string y.key,.int .u32 y.word] 36:=by rw [hw1,hg4];exact B4
 rw [← hw1] at k1
 have HW1:=lH hw1
 have HG4:=lH hg4
 have hno:¬ v.ownBlock=some g4:=fun he=>by
  obtain ⟨_,cur,h⟩:=OwnL.blk own he
  have:=heap_lt h
  omega
 have HNO:=lH hno
 have hg4b:base≤g4:=by omega
 have BO:=lH (hgo.nx k1)
 have BX:=lH (hgx.nx k1)
 have OWN:=lH (own.nx k1)
 have b0:=(hgo.nx k1).cell 0 _ rfl
 have x0:=(hgx.nx k1).cell 0 _ rfl
 have y0:=B4.cell 0 _ rfl
 have hz:base≤w1.heap.size:=Nat.le_trans hb k1.size
 have BB:=lH B4
 have hgl:=B4.lt
 have K1:=lH k1
 clear hgo own hgx hw1 hg4 hno k1 B4
 go_enter Tryz.func72,Tryz.ntmps72
 go_upto_region 1 with fail
 rw [← HG4.out,← HW1.out]
 clear HG4 HW1
 go_wp2_with (at_builtin;(refine wpList_append_lit (enc:=encHp) w1 rfl _ _ 37 rfl base 74 (.agg #[.int .i64 0,.int .i64 0,.int .i64 0]) 3 24 Tryz.underlying37 Tryz.infoHp rfl (by omega) (by omega) _ _ OWN.out rfl ((x.id,y.id,lev):Hop) _ rfl rfl (by simp [encHp,Value.oneCell']) _ (by simp) rfl (by omega) (by omega) _ ?_);intro v9 w9 own9 ch0 ch1 _;(obtain ⟨a9,n9,c9,rfl⟩:∃ a n c,v9=Value.slice a n c:=(by obtain ⟨a,c,h,_⟩:=OwnL.rd own9 (fun _=>rfl);exact ⟨a,_,c,h⟩));have BO9:=Blk.chg BO.out ch1 h2;have BX9:=Blk.chg BX.out ch1 h3;have BY9:=Blk.chg BB.out ch0 ⟨hgl,HNO.out⟩;have b0:=BO9.cell 0 _ rfl;have z3:=BO9.free 0;have x0:=BX9.cell 0 _ rfl;have x1:=BX9.cell 1 _ rfl;have x2:=BX9.cell 2 _ rfl;have z0:=BX9.free 0;have z1:=BX9.free 1;have z2:=BX9.free 2;have y0:=BY9.cell 0 _ rfl;have y1:=BY9.cell 1 _ rfl;have y2:=BY9.cell 2 _ rfl;have hne:=h1;have hgy:¬ g4=gx:=(by omega);have hgo:¬ g4=go:=(by omega);have OWN9:=lH own9;have CH1:=lH ch1;have HBO:=lH BO9;have HBX:=lH BX9;clear own9 ch0 ch1 BO9 BX9 BY9)
 go_end0
 obtain ⟨v9,hv9⟩:∃ v9,v9=Value.slice a9 n9 c9:=⟨_,rfl⟩
 rw [← hv9] at OWN9 ⊢
 have s0:Exb go w9 (w9.setCell ⟨go,0,none⟩ v9):=(Exb.refl go w9).setB (p:=⟨go,0,none⟩) v9 rfl
 have s1:Exb gx (w9.setCell ⟨go,0,none⟩ v9) ((((w9.setCell ⟨go,0,none⟩ v9).setCell ⟨gx,0,none⟩ (.int .i64 y.id)).setCell ⟨gx,1,none⟩ (.string y.key)).setCell ⟨gx,2,none⟩ (.int .u32 y.word)) :=
  (((Exb.refl gx _).setB (p:=⟨gx,0,none⟩) (.int .i64 y.id) rfl).setB (p:=⟨gx,1,none⟩) (.string y.key) rfl).setB (p:=⟨gx,2,none⟩) (.int .u32 y.word) rfl
 refine ⟨rfl,v9,(HBO.out.set 0 v9).nxb h1 s1,(OWN9.out.nxb h2 s0).nxb h3 s1,(((HBX.out.nxb (Ne.symm h1) s0).set 0 (.int .i64 y.id)).set 1 (.string y.key)).set 2 (.int .u32 y.word),?_⟩
 exact Chg.trans (Chg.trans (Chg.trans (Chg.mono K1.out (fun k hk=>by have:=hk.1;omega)) (Chg.mono CH1.out (fun k hk=>hk.1))) (Chg.mono s0 (fun k hk=>⟨by have:=hk.1;have:=CH1.out.size;omega,hk.2.1⟩))) (Chg.mono s1 (fun k hk=>⟨by have:=hk.1;have:=CH1.out.size;have:=s0.size;omega,hk.2.2⟩))
def lenAt (w:World) (g:Nat):Nat:=match w.cell? ⟨g,0,none⟩ with | some v=>lenS v | none=>0
def RoSt (N:List Nd) (L:List Lkd) (key:List UInt8) (right:Bool) (R:Nd×List Hop) (gx go base:Nat) (w0:World) (lev:Nat) (wr:World):Prop :=
 ∃ (x:Nd) (out:List Hop) (v:Value),Blk wr go [v] 37∧OwnL 3 encHp 74 base wr v out∧Blk wr gx [.int .i64 x.id,.string x.key,.int .u32 x.word] 36∧RtSt N L key right R x lev out∧x∈N∧out.length+bey N right x≤N.length∧Chg (· < gx) w0 wr
def RoRel (N:List Nd) (L:List Lkd) (key:List UInt8) (right:Bool) (R:Nd×List Hop) (gx go base:Nat) (w0:World) (l:Value) (wr:World):Prop :=
 ∃ lev:Nat,l=.int .i64 ((lev:Int)-1)∧lev≤17∧RoSt N L key right R gx go base w0 lev wr
def RiRel (N:List Nd) (L:List Lkd) (key:List UInt8) (right:Bool) (R:Nd×List Hop) (gx go base:Nat) (w0:World) (q:Nat) (wr:World):Prop :=
 RoSt N L key right R gx go base w0 (q+1) wr
theorem hop_none {N:List Nd} {L:List Lkd} {key:List UInt8} {right:Bool} {x:Nd} {q:Nat} {E:Nd×Bool} (hE:E=findN N (sideN (if right then 1 else 0) (atL L x.id q)))
  (h:E.2=false∨(if right then (!Op.bytesLess x.key.toList E.1.key.toList)||Op.bytesLess key E.1.key.toList else (!Op.bytesLess E.1.key.toList x.key.toList)||!Op.bytesLess key E.1.key.toList)=true):hopN N L key right x q=none:=by
 unfold hopN
 cases right with
 | true =>
  rw [if_pos rfl]
  have e:sideN (if true=true then 1 else 0) (atL L x.id q)=(atL L x.id q).2:=rfl
  rw [e] at hE
  rw [← hE]
  rw [if_neg]
  rcases h with h | h
  ·rw [h];simp
  ·intro hc
   simp only [Bool.and_eq_true,Bool.not_eq_true'] at hc
   rw [if_pos rfl,hc.2.1,hc.2.2] at h
   cases h
 | false =>
  rw [if_neg (by simp)]
  have e:sideN (if false=true then 1 else 0) (atL L x.id q)=(atL L x.id q).1:=rfl
  rw [e] at hE
  rw [← hE]
  rw [if_neg]
  rcases h with h | h
  ·rw [h];simp
  ·intro hc
   simp only [Bool.and_eq_true] at hc
   rw [if_neg (by simp),hc.2.1,hc.2.2] at h
   cases h
theorem hop_some {N:List Nd} {L:List Lkd} {key:List UInt8} {right:Bool} {x:Nd} {q:Nat} {E:Nd} (hE:(E,true)=findN N (sideN (if right then 1 else 0) (atL L x.id q)))
  (h:(if right then (!Op.bytesLess x.key.toList E.key.toList)||Op.bytesLess key E.key.toList else (!Op.bytesLess E.key.toList x.key.toList)||!Op.bytesLess key E.key.toList)=false):hopN N L key right x q=some E:=by
 unfold hopN
 cases right with
 | true =>
  rw [if_pos rfl]
  have e:sideN (if true=true then 1 else 0) (atL L x.id q)=(atL L x.id q).2:=rfl
  rw [e] at hE
  rw [← hE]
  rw [if_pos rfl] at h
  simp only [Bool.or_eq_false_iff,Bool.not_eq_false'] at h
  rw [if_pos (by simp [h.1,h.2])]
 | false =>
  rw [if_neg (by simp)]
  have e:sideN (if false=true then 1 else 0) (atL L x.id q)=(atL L x.id q).1:=rfl
  rw [e] at hE
  rw [← hE]
  rw [if_neg (by simp)] at h
  simp only [Bool.or_eq_false_iff,Bool.not_eq_false'] at h
  rw [if_pos (by simp [h.1,h.2])]
theorem link0_p (β b1 b2:Nat) (N:List Nd) (L:List Lkd) (id:Int) (w:World) (h:Net β w b1 b2 N L) (h0:checkN N=0) (hb:β≤w.heap.size) (hs:∀ c∈L,c.2.length≤9223372036854775807) :
  Calls Tryz.prog 73 #[.agg #[.map (some b1),.map (some b2)],.int .i64 id,.int .i64 0,.int .i64 0] w (LnPost (findN N (atL L id 0).1) w):=linkr_p β b1 b2 N L id 0 0 w h h0 hb hs (by omega)
theorem linkR_p (β b1 b2:Nat) (N:List Nd) (L:List Lkd) (id:Int) (lev:Nat) (w:World) (h:Net β w b1 b2 N L) (h0:checkN N=0) (hb:β≤w.heap.size) (hs:∀ c∈L,c.2.length≤9223372036854775807) (hl:lev≤1000) :
  Calls Tryz.prog 73 #[.agg #[.map (some b1),.map (some b2)],.int .i64 id,.int .i64 lev,.int .i64 1] w (LnPost (findN N (sideN 1 (atL L id lev))) w):=linkr_p β b1 b2 N L id lev 1 w h h0 hb hs hl
theorem linkL_p (β b1 b2:Nat) (N:List Nd) (L:List Lkd) (id:Int) (lev:Nat) (w:World) (h:Net β w b1 b2 N L) (h0:checkN N=0) (hb:β≤w.heap.size) (hs:∀ c∈L,c.2.length≤9223372036854775807) (hl:lev≤1000) :
  Calls Tryz.prog 73 #[.agg #[.map (some b1),.map (some b2)],.int .i64 id,.int .i64 lev,.int .i64 0] w (LnPost (findN N (sideN 0 (atL L id lev))) w):=linkr_p β b1 b2 N L id lev 0 w h h0 hb hs hl
theorem blk3 {w:World} {g:Nat} {x y z:Value} {ty:TypeId} (h:Blk w g [x,y,z] ty):w.cell? ⟨g,0,none⟩=some x∧w.cell? ⟨g,1,none⟩=some y∧w.cell? ⟨g,2,none⟩=some z:=⟨h.cell 0 _ rfl,h.cell 1 _ rfl,h.cell 2 _ rfl⟩
theorem Blk.nxg {w w':World} {g x:Nat} {cs:List Value} {ty:TypeId} (h:Blk w g cs ty) (k:Chg (· < x) w w') (hg:g<x):Blk w' g cs ty:=(Chg.block k g hg).trans h
theorem hop0_p (base go gx:Nat) (x y:Nd) (v:Value) (out:List Hop) (w:World) (hgo:Blk w go [v] 37) (own:OwnL 3 encHp 74 base w v out) (hgx:Blk w gx [.int .i64 x.id,.string x.key,.int .u32 x.word] 36) (h1:go≠gx) (h2:go<base) (h3:gx<base) (hb:base≤w.heap.size) (ho:out.length≤1000) :
  Calls Tryz.prog 72 #[.agg #[.int .i64 y.id,.string y.key,.int .u32 y.word],.int .i64 0,.pointer (some ⟨go,0,none⟩),.pointer (some ⟨gx,0,none⟩)] w (HpPost base go gx x y 0 out w):=hop_p base go gx x y 0 v out w hgo own hgx h1 h2 h3 hb ho
set_option maxRecDepth 100000 in
set_option maxHeartbeats 16000000 in
theorem route_p (a:Option Addr) (n c:Nat) (N:List Nd) (a2:Option Addr) (n2 c2:Nat) (L:List Lkd) (frm:Int) (s:ByteArray) (w:World) (h:Sl 3 encN w a n N) (hn:n≤1000) (hc:n≤c) (hm:c≤maxLen) (h2:LkL w a2 n2 L) (hn2:n2≤1000000)
  (hs:∀ c∈L,c.2.length≤9223372036854775807) :
  Calls Tryz.prog 14 #[.slice a n c,.slice a2 n2 c2,.int .i64 frm,.string s] w (RtPost (routeN N L frm s) w):=by
 have HS:=lH hs
 have HLN:=lH h.len
 clear hs
 go_enter Tryz.func14,Tryz.ntmps14
 have EX:=Ex.refl w
 go_wp2_with fail
 go_step3
 go_wp2_with fail
 (with_reducible refine (check_p _ _ _ _ _ h (by omega) hc hm).mono ?_)
 rintro e w1 ⟨rfl,kk⟩
 replace h:=h.nx kk
 replace h2:=lH (h2.nx kk)
 replace EX:=lH (EX.nx kk)
 clear kk
 by_cases hck:checkN N=0
 case neg =>
  have RN:=lH (route_bad (L:=L) (frm:=frm) (s:=s) (.inl hck))
  have d1:(checkN N != 0)=true:=by simpa using hck
  clear h hck
  go_wp2_with fail
  (try rw [Exit.noGoto_ret])
  go_ret2
  exact ⟨_,by rw [RN.out];rfl,by rw [RN.out];exact OwnL.nil _ _ _ _ _,EX.out⟩
 have HC:=lH hck
 have d1:(checkN N != 0)=false:=by simpa using hck
 clear hck
 go_wp2_with fail
 (with_reducible refine (vkey_p _ _).mono ?_)
 rintro e w1' ⟨rfl,rfl⟩
 by_cases hsz:(s.size:Int)≤64
 case neg =>
  have RN:=lH (route_bad (L:=L) (frm:=frm) (show checkN N≠0∨64<s.size from .inr (by omega)))
  rw [decide_eq_false hsz]
  clear h hsz
  go_wp2_with fail
  (try rw [Exit.noGoto_ret])
  go_ret2
  exact ⟨_,by rw [RN.out];rfl,by rw [RN.out];exact OwnL.nil _ _ _ _ _,EX.out⟩
 have NB:Hid (¬ (checkN N≠0∨64<s.size)):=lH (by rintro (h | h);exact h HC.out;omega)
 rw [decide_eq_true hsz]
 clear hsz d1
 have HCL:=lH (by have:=check_lenU HC.out;have:=HLN.out;omega:n≤64)
 go_wp2_with fail
 (with_reducible refine (made_p _ _ _ _ _ _ _ _ _ h (by omega) h2.out hn2 HC.out).mono ?_)
 rintro e w3 ⟨b1,b2,rfl,NT,kk⟩
 replace EX:=lH (EX.out.nx kk)
 have hzw3:=EX.out.size
 have hnb1:=NT
 have NT:=lH NT
 clear kk hnb1 h h2
 have B10:=Blk.new w3 [.map (some b1),.map (some b2)] 138
 have kk:=Ex.new w3 (.cells #[.map (some b1),.map (some b2)] 138)
 obtain ⟨w4,hw4⟩:∃ w4,w4=w3.alloc (.cells #[.map (some b1),.map (some b2)] 138):=⟨_,rfl⟩
 obtain ⟨g10,hg10⟩:∃ g10,g10=w3.heap.size:=⟨_,rfl⟩
 replace B10:Blk w4 g10 [.map (some b1),.map (some b2)] 138:=by rw [hw4,hg10];exact B10
 rw [← hw4] at kk
 have Hw4:=lH hw4
 have Hg10:=lH hg10
 replace EX:=lH (EX.out.nx kk)
 have NT:=lH (NT.out.nx (Nat.le_refl _) kk)
 have M1:MapV w4 b1 (fN N):=by obtain ⟨_,_,m,_⟩:=NT.out;exact m
 have hg10l:g10=w3.heap.size:=hg10
 have hz10:w.heap.size≤g10:=by omega
 have NT:=lH (NT.out.up (show w3.heap.size≤g10 by omega))
 clear kk hw4 hg10 hg10l
 go_upto_region 4 with fail
 rw [← Hg10.out,← Hw4.out]
 clear Hg10 Hw4
 have c0:=B10.cell 0 _ rfl
 have lk:=M1.look (mt:=135) Tryz.underlying135 Tryz.underlying3 (Tryz.zeroNd w4) frm
 have ff:=find_fN N frm
 have e1:(fN N frm).getD (.agg #[.int .i64 0,.string ⟨#[]⟩,.int .u32 0])=(findN N frm).1.val:=ff.1
 rw [e1,ff.2] at lk
 obtain ⟨FR,hFR⟩:∃ FR,FR=findN N frm:=⟨_,rfl⟩
 rw [← hFR] at lk
 have HFR:=lH hFR
 obtain ⟨x0,ok⟩:=FR
 unfold Nd.val at lk
 simp only at lk
 have NTL:=lH B10.lt
 clear hFR ff e1 M1
 have BX:=Blk.new w4 [.int .i64 x0.id,.string x0.key,.int .u32 x0.word] 36
 have kk:=Ex.new w4 (.cells #[.int .i64 x0.id,.string x0.key,.int .u32 x0.word] 36)
 obtain ⟨w5,hw5⟩:∃ w5,w5=w4.alloc (.cells #[.int .i64 x0.id,.string x0.key,.int .u32 x0.word] 36):=⟨_,rfl⟩
 obtain ⟨gx,hgx⟩:∃ gx,gx=w4.heap.size:=⟨_,rfl⟩
 replace BX:Blk w5 gx [.int .i64 x0.id,.string x0.key,.int .u32 x0.word] 36:=by rw [hw5,hgx];exact BX
 rw [← hw5] at kk
 have Hw5:=lH hw5
 have Hgx:=lH hgx
 replace B10:=B10.nx kk
 replace EX:=lH (EX.out.nx kk)
 have NT:=lH (NT.out.nx (Nat.le_of_lt NTL.out) kk)
 have hg10x:g10<gx:=by have:=NTL.out;omega
 have hwgx:w.heap.size≤gx:=by omega
 clear kk hw5 hgx
 go_upto_region 5 with fail
 rw [← Hgx.out,← Hw5.out]
 clear Hgx Hw5 lk c0
 have B10:=lH B10
 cases ok with
 | false =>
  have RN:=lH (route_unk (L:=L) NB.out (show (findN N frm).2=false by rw [← HFR.out]))
  clear BX
  go_wp2_with fail
  (try rw [Exit.noGoto_ret])
  go_ret2
  exact ⟨_,by rw [RN.out];rfl,by rw [RN.out];exact OwnL.nil _ _ _ _ _,EX.out⟩
 | true =>
  have HX0:=lH (show x0∈N by have:=(findN_mem (show (findN N frm).2=true by rw [← HFR.out])).1;rw [← HFR.out] at this;exact this)
  have hgx5:=BX.lt
  have BO:=Blk.new w5 [.slice none 0 0] 37
  have kk:=Ex.new w5 (.cells #[.slice none 0 0] 37)
  obtain ⟨w6,hw6⟩:∃ w6,w6=w5.alloc (.cells #[.slice none 0 0] 37):=⟨_,rfl⟩
  obtain ⟨go,hgo⟩:∃ go,go=w5.heap.size:=⟨_,rfl⟩
  replace BO:Blk w6 go [.slice none 0 0] 37:=by rw [hw6,hgo];exact BO
  rw [← hw6] at kk
  have Hw6:=lH hw6
  have Hgo:=lH hgo
  replace BX:=BX.nx kk
  replace EX:=lH (EX.out.nx kk)
  have NT:=lH (NT.out.nx (by omega) kk)
  have B10:=lH (B10.out.nx kk)
  have hgg:gx<go:=by omega
  have hgx6:=BX.lt
  clear kk hw6 hgo
  go_upto_region 8 with fail
  rw [← Hgo.out,← Hw6.out]
  clear Hgo Hw6
  obtain ⟨x0',x1',x2'⟩:=blk3 BX
  have BX:=lH BX
  have HCX:=lH (And.intro hgg hgx6)
  obtain ⟨qs,_,_,_,m2,q5,q6⟩:=NT.out
  obtain ⟨aR,nR,cR,row,r1,r2,r3,_,r5⟩:=Net.row (b1:=b1) (b2:=b2) (N:=N) q5 q6 frm
  have lk:=m2.look1 (mt:=136) Tryz.underlying136 Tryz.underlying3 (Tryz.zeroLs w6) frm
  rw [r1] at lk
  have hnR:nR≤9223372036854775807:=by
   rw [← r2.1]
   rcases r5 with h | ⟨d,hd,h⟩
   ·rw [h];simp
   ·rw [h];exact HS.out d hd
  have c1:=B10.out.cell 1 _ rfl
  obtain ⟨T,hT⟩:∃ T,T=topL L frm:=⟨_,rfl⟩
  have ht1:-1≤T∧T≤16:=by rw [hT,r3];omega
  have hTm:Hid (T=min ((nR:Int)-1) 16):=lH (hT.trans r3)
  have HT:=lH hT
  clear q5 q6 r1 r2 r3 r5 m2 hT x0' x2'
  cases hlt:Op.bytesLess s.toList x0.key.toList with
  | true =>
   have HR:Hid (false = !Op.bytesLess s.toList x0.key.toList):=lH (by rw [hlt];rfl)
   go_wp2_with fail
   go_step3
   go_wp2_with fail
   rw [← hTm.out]
   clear hlt lk c1 x1' hnR
   obtain ⟨R,hR⟩:∃ R,R=rtF N L s.toList false (18*(N.length+1)) x0 (T+1).toNat []:=⟨_,rfl⟩
   have HRR:=lH hR
   have ST:Hid (RoRel N L s.toList false R gx go (go+1) w6 (.int .i64 T) w6):=lH
    ⟨(T+1).toNat,by congr 1;omega,by omega,x0,[],.slice none 0 0,BO,OwnL.nil _ _ _ _ _,BX.out,by rw [hR];exact RtSt.start (by omega),HX0.out,by simpa using bey_le (N:=N) (right:=false) x0,Chg.refl _ _⟩
   clear hR BO BX
   go_loopw [16] (fun l wr=>RoRel N L s.toList false R gx go (go+1) w6 l wr) (fun l _=>(intOf l+1).toNat)
   case atStart=>exact ST.out
   case round =>
    clear ST
    obtain ⟨lev,rfl,hl17,HRS⟩:=hrel
    obtain ⟨wo,rfl⟩:∃ wo:World,wo=wr:=⟨_,rfl⟩
    cases lev with
    | zero =>
     obtain ⟨x,out,v,BO,OWN,BX,HST,HXN,HCNT,KW⟩:=HRS
     have RV:=lH (route_val NB.out HFR.out HR.out HT.out HRR.out (HST.done))
     have hol:out.length≤64:=by have h1:=HCL.out;have h2:=HLN.out;omega
     have NTo:=NT.out.chg (Chg.mono KW (fun k (hk:k<g10)=>Nat.lt_trans hk hg10x))
     have B10o:=Blk.nxg B10.out KW hg10x
     have c0:=B10o.cell 0 _ rfl
     have c1:=B10o.cell 1 _ rfl
     obtain ⟨x0',x1',x2'⟩:=blk3 BX
     have EW:Ex w wo:=Chg.trans EX.out (Chg.mono KW (fun k (hk:k<w.heap.size)=>Nat.lt_of_lt_of_le hk hwgx))
     have hwz:gx≤wo.heap.size:=Nat.le_trans (Nat.le_of_lt hgx6) KW.size
     have hgoz:=BO.lt
     have hgxz:=BX.lt
     have HB:=lH (And.intro BX BO)
     have OWN:=lH OWN
     have EW:=lH EW
     have KW:=lH KW
     have NTo:=lH NTo
     clear HST HXN HCNT BX BO B10o
     go_wp2_with fail
     (with_reducible refine (link0_p _ _ _ _ _ _ _ NTo.out HC.out (by omega) HS.out).mono ?_)
     rintro e w7 ⟨rfl,kk⟩
     replace OWN:=lH (OWN.out.nx kk)
     replace EW:=lH (EW.out.nx kk)
     obtain ⟨E,hE⟩:∃ E,E=findN N (atL L x.id 0).1:=⟨_,rfl⟩
     rw [← hE]
     rw [← hE] at RV
     have HB:=lH (And.intro (HB.out.1.nx kk) (HB.out.2.nx kk))
     have KW:=lH (Chg.trans KW.out (Chg.mono kk (fun k (hk:k<gx)=>show k<wo.heap.size by omega)))
     have hz7:=Ex.size kk
     obtain ⟨E,eo⟩:=E
     simp only at RV ⊢
     clear kk hE c0 c1 x0' x1' x2'
     have B19:=Blk.new w7 [.int .i64 E.id,.string E.key,.int .u32 E.word] 36
     have kk:=Ex.new w7 (.cells #[.int .i64 E.id,.string E.key,.int .u32 E.word] 36)
     obtain ⟨w8,hw8⟩:∃ w8,w8=w7.alloc (.cells #[.int .i64 E.id,.string E.key,.int .u32 E.word] 36):=⟨_,rfl⟩
     obtain ⟨g19,hg19⟩:∃ g19,g19=w7.heap.size:=⟨_,rfl⟩
     replace B19:Blk w8 g19 [.int .i64 E.id,.string E.key,.int .u32 E.word] 36:=by rw [hw8,hg19];exact B19
     rw [← hw8] at kk
     have Hw8:=lH hw8
     have Hg19:=lH hg19
     replace OWN:=lH (OWN.out.nx kk)
     replace EW:=lH (EW.out.nx kk)
     have HB:=lH (And.intro (HB.out.1.nx kk) (HB.out.2.nx kk))
     have hz8:=Ex.size kk
     have hl8:=B19.lt
     have hgge:go<g19:=by omega
     clear kk hw8 hg19
     go_upto_region 21 with fail
     rw [← Hg19.out,← Hw8.out]
     clear Hg19 Hw8
     have y1:=B19.cell 1 _ rfl
     obtain ⟨y0,_,y2⟩:=blk3 B19
     have o0:=HB.out.2.cell 0 _ rfl
     have LE:(Op.bytesLess E.key.toList s.toList||E.key.toList==s.toList) = !Op.bytesLess s.toList E.key.toList:=le_not _ _
     have FIN0:Hid (routeN N L frm s=(out,0)→RtPost (routeN N L frm s) w (.returned (.tuple #[v,.int .i64 0])) w8):=lH (fun h=>by rw [h];exact ⟨_,rfl,OwnL.base OWN.out (by omega),EW.out⟩)
     have BE:=lH B19
     clear B19
     cases eo with
     | false =>
      have RZ:=lH (RV.out.trans (if_neg (by simp)))
      clear RV
      go_wp2_with fail
      (try rw [Exit.noGoto_ret])
      go_ret2
      exact FIN0.out RZ.out
     | true =>
      cases hle:Op.bytesLess s.toList E.key.toList with
      | true =>
       have RZ:=lH (RV.out.trans (if_neg (by rw [hle];simp)))
       clear RV
       go_wp2_with fail
       (try rw [Exit.noGoto_ret])
       go_ret2
       exact FIN0.out RZ.out
      | false =>
       have RZ:=lH (RV.out.trans (if_pos (by rw [hle];simp)))
       clear RV FIN0
       go_wp2_with fail
       (with_reducible refine (hop0_p (go+1) go gx x E v out _ HB.out.2 OWN.out HB.out.1 (by omega) (by omega) (by omega) (by omega) (by omega)).mono ?_)
       rintro e w9 ⟨rfl,v9,bo9,own9,_,ch9⟩
       have o9:=bo9.cell 0 _ rfl
       have FIN:=lH (show RtPost (routeN N L frm s) w (.returned (.tuple #[v9,.int .i64 0])) w9 by rw [RZ.out];exact ⟨_,rfl,OwnL.base own9 (by omega),Chg.trans EW.out (Chg.mono ch9 (fun k (hk:k<w.heap.size)=>⟨by omega,by omega,by omega⟩))⟩)
       clear bo9 own9 ch9 o0 y0 y1 y2
       go_wp2_with fail
       (try rw [Exit.noGoto_ret])
       go_ret2
       exact FIN.out
    | succ q =>
     have HRS:=lH HRS
     obtain ⟨lq,hlq⟩:∃ lq:Int,lq=((q+1:Nat):Int)-1:=⟨_,rfl⟩
     rw [← hlq]
     obtain rfl:lq=(q:Int):=by omega
     clear hlq
     go_wp2_with fail
     go_loopw [] (fun wr=>RiRel N L s.toList false R gx go (go+1) w6 q wr) (fun wr=>n-lenAt wr go)
     case atStart=>exact HRS.out
     case round =>
      clear HRS
      obtain ⟨x,out,v,BO,OWN,BX,HST,HXN,HCNT,KW⟩:=hrel
      obtain ⟨wi,rfl⟩:∃ wi:World,wi=wr:=⟨_,rfl⟩
      have hol:out.length≤64:=by have h1:=HCL.out;have h2:=HLN.out;omega
      have NTo:=NT.out.chg (Chg.mono KW (fun k (hk:k<g10)=>Nat.lt_trans hk hg10x))
      have B10o:=Blk.nxg B10.out KW hg10x
      have c0:=B10o.cell 0 _ rfl
      have c1:=B10o.cell 1 _ rfl
      obtain ⟨x0',x1',x2'⟩:=blk3 BX
      have hwz:gx≤wi.heap.size:=Nat.le_trans (Nat.le_of_lt hgx6) KW.size
      have hgoz:=BO.lt
      have hgxz:=BX.lt
      have HLA:Hid (lenAt wi go=out.length):=lH (by unfold lenAt;rw [BO.cell 0 _ rfl];exact lenS_own OWN)
      replace HST:=lH HST
      replace HXN:=lH HXN
      replace HCNT:=lH HCNT
      replace KW:=lH KW
      replace OWN:=lH OWN
      have HB:=lH (And.intro BX BO)
      replace NTo:=lH NTo
      clear BX BO B10o
      go_wp2_with fail
      (with_reducible refine (linkL_p _ _ _ _ _ _ _ _ NTo.out HC.out (by omega) HS.out (by omega)).mono ?_)
      rintro e w7 ⟨rfl,kk⟩
      replace OWN:=lH (OWN.out.nx kk)
      obtain ⟨E,hE⟩:∃ E,E=findN N (sideN 0 (atL L x.id q)):=⟨_,rfl⟩
      rw [← hE]
      have HE:=lH hE
      have HB:=lH (And.intro (HB.out.1.nx kk) (HB.out.2.nx kk))
      have KW:=lH (Chg.trans KW.out (Chg.mono kk (fun k (hk:k<gx)=>show k<wi.heap.size by omega)))
      have hz7:=Ex.size kk
      obtain ⟨E,eo⟩:=E
      simp only
      clear kk hE c0 c1 x0' x1' x2'
      have B17:=Blk.new w7 [.int .i64 E.id,.string E.key,.int .u32 E.word] 36
      have kk:=Ex.new w7 (.cells #[.int .i64 E.id,.string E.key,.int .u32 E.word] 36)
      obtain ⟨w9,hw9⟩:∃ w9,w9=w7.alloc (.cells #[.int .i64 E.id,.string E.key,.int .u32 E.word] 36):=⟨_,rfl⟩
      obtain ⟨g17,hg17⟩:∃ g17,g17=w7.heap.size:=⟨_,rfl⟩
      replace B17:Blk w9 g17 [.int .i64 E.id,.string E.key,.int .u32 E.word] 36:=by rw [hw9,hg17];exact B17
      rw [← hw9] at kk
      have Hw9:=lH hw9
      have Hg17:=lH hg17
      replace OWN:=lH (OWN.out.nx kk)
      have HB:=lH (And.intro (HB.out.1.nx kk) (HB.out.2.nx kk))
      have KW:=lH (Chg.trans KW.out (Chg.mono kk (fun k (hk:k<gx)=>show k<w7.heap.size by omega)))
      have hz8:=Ex.size kk
      have hl8:=B17.lt
      have hgge:go<g17:=by omega
      clear kk hw9 hg17
      go_upto_region 16 with fail
      rw [← Hg17.out,← Hw9.out]
      clear Hg17 Hw9
      obtain ⟨y0,y1,y2⟩:=blk3 B17
      obtain ⟨x0',x1',x2'⟩:=blk3 HB.out.1
      have BE:=lH B17
      have LE:(Op.bytesLess x.key.toList E.key.toList||x.key.toList==E.key.toList) = !Op.bytesLess E.key.toList x.key.toList:=le_not _ _
      have LE2:(Op.bytesLess E.key.toList s.toList||E.key.toList==s.toList) = !Op.bytesLess s.toList E.key.toList:=le_not _ _
      clear B17
      cases eo with
      | false =>
       have HNO:=lH (hop_none (right:=false) (key:=s.toList) HE.out (.inl rfl))
       have RR:=lH (show RoRel N L s.toList false R gx go (go+1) w6 (.int .i64 ((q:Int)-1)) w9 from ⟨q,rfl,by omega,x,out,v,HB.out.2,OWN.out,HB.out.1,HST.out.down HNO.out,HXN.out,HCNT.out,KW.out⟩)
       clear x0' x1' x2' y0 y1 y2
       go_wp2_with fail
       exact ⟨RR.out,by simp [intOf]<;>omega⟩
      | true =>
       cases hA:Op.bytesLess E.key.toList x.key.toList with
       | false =>
        have HNO:=lH (hop_none (right:=false) (key:=s.toList) HE.out (.inr (by rw [if_neg (by simp),hA];rfl)))
        have RR:=lH (show RoRel N L s.toList false R gx go (go+1) w6 (.int .i64 ((q:Int)-1)) w9 from ⟨q,rfl,by omega,x,out,v,HB.out.2,OWN.out,HB.out.1,HST.out.down HNO.out,HXN.out,HCNT.out,KW.out⟩)
        clear x0' x2' y0 y2
        go_wp2_with fail
        exact ⟨RR.out,by simp [intOf]<;>omega⟩
       | true =>
        cases hK:Op.bytesLess s.toList E.key.toList with
        | false =>
         have HNO:=lH (hop_none (right:=false) (key:=s.toList) HE.out (.inr (by rw [if_neg (by simp),hA,hK];rfl)))
         have RR:=lH (show RoRel N L s.toList false R gx go (go+1) w6 (.int .i64 ((q:Int)-1)) w9 from ⟨q,rfl,by omega,x,out,v,HB.out.2,OWN.out,HB.out.1,HST.out.down HNO.out,HXN.out,HCNT.out,KW.out⟩)
         clear x0' x2' y0 y2
         go_wp2_with fail
         exact ⟨RR.out,by simp [intOf]<;>omega⟩
        | true =>
         have HH:=lH (hop_some (right:=false) (key:=s.toList) HE.out (by rw [if_neg (by simp),hA,hK];rfl))
         have hbl:=bey_lt HH.out
         clear x0' x2'
         go_wp2_with fail
         (with_reducible refine (hop_p (go+1) go gx x E (q:Int) v out _ HB.out.2 OWN.out HB.out.1 (by omega) (by omega) (by omega) (by omega) (by omega)).mono ?_)
         rintro e w10 ⟨rfl,v9,bo9,own9,bx9,ch9⟩
         have HLB:Hid (lenAt w10 go=out.length+1):=lH (by unfold lenAt;rw [bo9.cell 0 _ rfl];simp only;rw [lenS_own own9,List.length_append,List.length_singleton])
         have hcn:=HCNT.out
         have RR:=lH (show RiRel N L s.toList false R gx go (go+1) w6 q w10 from ⟨E,out++[(x.id,E.id,(q:Int))],v9,bo9,own9,bx9,HST.out.hop HH.out,(hop_mem HH.out).1,by rw [List.length_append,List.length_singleton];omega,Chg.trans KW.out (Chg.mono ch9 (fun k (hk:k<gx)=>⟨by omega,by omega,by omega⟩))⟩)
         clear bo9 own9 bx9 ch9 y0 y1 y2 x1' hA hK LE LE2
         go_wp2_with fail
         refine ⟨RR.out,?_⟩
         have h1:=HLA.out
         have h2:=HLB.out
         have h3:=HLN.out
         have h4:=HCNT.out
         show n-lenAt w10 go<n-lenAt wi go
         omega
  | false =>
   have HR:Hid (true = !Op.bytesLess s.toList x0.key.toList):=lH (by rw [hlt];rfl)
   go_wp2_with fail
   go_step3
   go_wp2_with fail
   rw [← hTm.out]
   clear hlt lk c1 x1' hnR
   obtain ⟨R,hR⟩:∃ R,R=rtF N L s.toList true (18*(N.length+1)) x0 (T+1).toNat []:=⟨_,rfl⟩
   have HRR:=lH hR
   have ST:Hid (RoRel N L s.toList true R gx go (go+1) w6 (.int .i64 T) w6):=lH
    ⟨(T+1).toNat,by congr 1;omega,by omega,x0,[],.slice none 0 0,BO,OwnL.nil _ _ _ _ _,BX.out,by rw [hR];exact RtSt.start (by omega),HX0.out,by simpa using bey_le (N:=N) (right:=true) x0,Chg.refl _ _⟩
   clear hR BO BX
   go_loopw [16] (fun l wr=>RoRel N L s.toList true R gx go (go+1) w6 l wr) (fun l _=>(intOf l+1).toNat)
   case atStart=>exact ST.out
   case round =>
    clear ST
    obtain ⟨lev,rfl,hl17,HRS⟩:=hrel
    obtain ⟨wo,rfl⟩:∃ wo:World,wo=wr:=⟨_,rfl⟩
    cases lev with
    | zero =>
     obtain ⟨x,out,v,BO,OWN,BX,HST,HXN,HCNT,KW⟩:=HRS
     have RV:=lH (route_val NB.out HFR.out HR.out HT.out HRR.out (HST.done))
     have hol:out.length≤64:=by have h1:=HCL.out;have h2:=HLN.out;omega
     have NTo:=NT.out.chg (Chg.mono KW (fun k (hk:k<g10)=>Nat.lt_trans hk hg10x))
     have B10o:=Blk.nxg B10.out KW hg10x
     have c0:=B10o.cell 0 _ rfl
     have c1:=B10o.cell 1 _ rfl
     obtain ⟨x0',x1',x2'⟩:=blk3 BX
     have EW:Ex w wo:=Chg.trans EX.out (Chg.mono KW (fun k (hk:k<w.heap.size)=>Nat.lt_of_lt_of_le hk hwgx))
     have hwz:gx≤wo.heap.size:=Nat.le_trans (Nat.le_of_lt hgx6) KW.size
     have hgoz:=BO.lt
     have hgxz:=BX.lt
     have HB:=lH (And.intro BX BO)
     have OWN:=lH OWN
     have EW:=lH EW
     have KW:=lH KW
     have NTo:=lH NTo
     clear HST HXN HCNT BX BO B10o
     go_wp2_with fail
     (with_reducible refine (link0_p _ _ _ _ _ _ _ NTo.out HC.out (by omega) HS.out).mono ?_)
     rintro e w7 ⟨rfl,kk⟩
     replace OWN:=lH (OWN.out.nx kk)
     replace EW:=lH (EW.out.nx kk)
     obtain ⟨E,hE⟩:∃ E,E=findN N (atL L x.id 0).1:=⟨_,rfl⟩
     rw [← hE]
     rw [← hE] at RV
     have HB:=lH (And.intro (HB.out.1.nx kk) (HB.out.2.nx kk))
     have KW:=lH (Chg.trans KW.out (Chg.mono kk (fun k (hk:k<gx)=>show k<wo.heap.size by omega)))
     have hz7:=Ex.size kk
     obtain ⟨E,eo⟩:=E
     simp only at RV ⊢
     clear kk hE c0 c1 x0' x1' x2'
     have B19:=Blk.new w7 [.int .i64 E.id,.string E.key,.int .u32 E.word] 36
     have kk:=Ex.new w7 (.cells #[.int .i64 E.id,.string E.key,.int .u32 E.word] 36)
     obtain ⟨w8,hw8⟩:∃ w8,w8=w7.alloc (.cells #[.int .i64 E.id,.string E.key,.int .u32 E.word] 36):=⟨_,rfl⟩
     obtain ⟨g19,hg19⟩:∃ g19,g19=w7.heap.size:=⟨_,rfl⟩
     replace B19:Blk w8 g19 [.int .i64 E.id,.string E.key,.int .u32 E.word] 36:=by rw [hw8,hg19];exact B19
     rw [← hw8] at kk
     have Hw8:=lH hw8
     have Hg19:=lH hg19
     replace OWN:=lH (OWN.out.nx kk)
     replace EW:=lH (EW.out.nx kk)
     have HB:=lH (And.intro (HB.out.1.nx kk) (HB.out.2.nx kk))
     have hz8:=Ex.size kk
     have hl8:=B19.lt
     have hgge:go<g19:=by omega
     clear kk hw8 hg19
     go_upto_region 21 with fail
     rw [← Hg19.out,← Hw8.out]
     clear Hg19 Hw8
     have y1:=B19.cell 1 _ rfl
     obtain ⟨y0,_,y2⟩:=blk3 B19
     have o0:=HB.out.2.cell 0 _ rfl
     have LE:(Op.bytesLess E.key.toList s.toList||E.key.toList==s.toList) = !Op.bytesLess s.toList E.key.toList:=le_not _ _
     have FIN0:Hid (routeN N L frm s=(out,0)→RtPost (routeN N L frm s) w (.returned (.tuple #[v,.int .i64 0])) w8):=lH (fun h=>by rw [h];exact ⟨_,rfl,OwnL.base OWN.out (by omega),EW.out⟩)
     have BE:=lH B19
     clear B19
     cases eo with
     | false =>
      have RZ:=lH (RV.out.trans (if_neg (by simp)))
      clear RV
      go_wp2_with fail
      (try rw [Exit.noGoto_ret])
      go_ret2
      exact FIN0.out RZ.out
     | true =>
      have RZ:=lH (RV.out.trans (if_neg (by simp)))
      clear RV
      go_wp2_with fail
      (try rw [Exit.noGoto_ret])
      go_ret2
      exact FIN0.out RZ.out
    | succ q =>
     have HRS:=lH HRS
     obtain ⟨lq,hlq⟩:∃ lq:Int,lq=((q+1:Nat):Int)-1:=⟨_,rfl⟩
     rw [← hlq]
     obtain rfl:lq=(q:Int):=by omega
     clear hlq
     go_wp2_with fail
     go_loopw [] (fun wr=>RiRel N L s.toList true R gx go (go+1) w6 q wr) (fun wr=>n-lenAt wr go)
     case atStart=>exact HRS.out
     case round =>
      clear HRS
      obtain ⟨x,out,v,BO,OWN,BX,HST,HXN,HCNT,KW⟩:=hrel
      obtain ⟨wi,rfl⟩:∃ wi:World,wi=wr:=⟨_,rfl⟩
      have hol:out.length≤64:=by have h1:=HCL.out;have h2:=HLN.out;omega
      have NTo:=NT.out.chg (Chg.mono KW (fun k (hk:k<g10)=>Nat.lt_trans hk hg10x))
      have B10o:=Blk.nxg B10.out KW hg10x
      have c0:=B10o.cell 0 _ rfl
      have c1:=B10o.cell 1 _ rfl
      obtain ⟨x0',x1',x2'⟩:=blk3 BX
      have hwz:gx≤wi.heap.size:=Nat.le_trans (Nat.le_of_lt hgx6) KW.size
      have hgoz:=BO.lt
      have hgxz:=BX.lt
      have HLA:Hid (lenAt wi go=out.length):=lH (by unfold lenAt;rw [BO.cell 0 _ rfl];exact lenS_own OWN)
      replace HST:=lH HST
      replace HXN:=lH HXN
      replace HCNT:=lH HCNT
      replace KW:=lH KW
      replace OWN:=lH OWN
      have HB:=lH (And.intro BX BO)
      replace NTo:=lH NTo
      clear BX BO B10o
      go_wp2_with fail
      (with_reducible refine (linkR_p _ _ _ _ _ _ _ _ NTo.out HC.out (by omega) HS.out (by omega)).mono ?_)
      rintro e w7 ⟨rfl,kk⟩
      replace OWN:=lH (OWN.out.nx kk)
      obtain ⟨E,hE⟩:∃ E,E=findN N (sideN 1 (atL L x.id q)):=⟨_,rfl⟩
      rw [← hE]
      have HE:=lH hE
      have HB:=lH (And.intro (HB.out.1.nx kk) (HB.out.2.nx kk))
      have KW:=lH (Chg.trans KW.out (Chg.mono kk (fun k (hk:k<gx)=>show k<wi.heap.size by omega)))
      have hz7:=Ex.size kk
      obtain ⟨E,eo⟩:=E
      simp only
      clear kk hE c0 c1 x0' x1' x2'
      have B17:=Blk.new w7 [.int .i64 E.id,.string E.key,.int .u32 E.word] 36
      have kk:=Ex.new w7 (.cells #[.int .i64 E.id,.string E.key,.int .u32 E.word] 36)
      obtain ⟨w9,hw9⟩:∃ w9,w9=w7.alloc (.cells #[.int .i64 E.id,.string E.key,.int .u32 E.word] 36):=⟨_,rfl⟩
      obtain ⟨g17,hg17⟩:∃ g17,g17=w7.heap.size:=⟨_,rfl⟩
      replace B17:Blk w9 g17 [.int .i64 E.id,.string E.key,.int .u32 E.word] 36:=by rw [hw9,hg17];exact B17
      rw [← hw9] at kk
      have Hw9:=lH hw9
      have Hg17:=lH hg17
      replace OWN:=lH (OWN.out.nx kk)
      have HB:=lH (And.intro (HB.out.1.nx kk) (HB.out.2.nx kk))
      have KW:=lH (Chg.trans KW.out (Chg.mono kk (fun k (hk:k<gx)=>show k<w7.heap.size by omega)))
      have hz8:=Ex.size kk
      have hl8:=B17.lt
      have hgge:go<g17:=by omega
      clear kk hw9 hg17
      go_upto_region 16 with fail
      rw [← Hg17.out,← Hw9.out]
      clear Hg17 Hw9
      obtain ⟨y0,y1,y2⟩:=blk3 B17
      obtain ⟨x0',x1',x2'⟩:=blk3 HB.out.1
      have BE:=lH B17
      have LE:(Op.bytesLess E.key.toList x.key.toList||E.key.toList==x.key.toList) = !Op.bytesLess x.key.toList E.key.toList:=le_not _ _
      have LE2:(Op.bytesLess E.key.toList s.toList||E.key.toList==s.toList) = !Op.bytesLess s.toList E.key.toList:=le_not _ _
      clear B17
      cases eo with
      | false =>
       have HNO:=lH (hop_none (right:=true) (key:=s.toList) HE.out (.inl rfl))
       have RR:=lH (show RoRel N L s.toList true R gx go (go+1) w6 (.int .i64 ((q:Int)-1)) w9 from ⟨q,rfl,by omega,x,out,v,HB.out.2,OWN.out,HB.out.1,HST.out.down HNO.out,HXN.out,HCNT.out,KW.out⟩)
       clear x0' x1' x2' y0 y1 y2
       go_wp2_with fail
       exact ⟨RR.out,by simp [intOf]<;>omega⟩
      | true =>
       cases hA:Op.bytesLess x.key.toList E.key.toList with
       | false =>
        have HNO:=lH (hop_none (right:=true) (key:=s.toList) HE.out (.inr (by rw [if_pos rfl,hA];rfl)))
        have RR:=lH (show RoRel N L s.toList true R gx go (go+1) w6 (.int .i64 ((q:Int)-1)) w9 from ⟨q,rfl,by omega,x,out,v,HB.out.2,OWN.out,HB.out.1,HST.out.down HNO.out,HXN.out,HCNT.out,KW.out⟩)
        clear x0' x2' y0 y2
        go_wp2_with fail
        exact ⟨RR.out,by simp [intOf]<;>omega⟩
       | true =>
        cases hK:Op.bytesLess s.toList E.key.toList with
        | true =>
         have HNO:=lH (hop_none (right:=true) (key:=s.toList) HE.out (.inr (by rw [if_pos rfl,hA,hK];rfl)))
         have RR:=lH (show RoRel N L s.toList true R gx go (go+1) w6 (.int .i64 ((q:Int)-1)) w9 from ⟨q,rfl,by omega,x,out,v,HB.out.2,OWN.out,HB.out.1,HST.out.down HNO.out,HXN.out,HCNT.out,KW.out⟩)
         clear x0' x2' y0 y2
         go_wp2_with fail
         exact ⟨RR.out,by simp [intOf]<;>omega⟩
        | false =>
         have HH:=lH (hop_some (right:=true) (key:=s.toList) HE.out (by rw [if_pos rfl,hA,hK];rfl))
         have hbl:=bey_lt HH.out
         clear x0' x2'
         go_wp2_with fail
         (with_reducible refine (hop_p (go+1) go gx x E (q:Int) v out _ HB.out.2 OWN.out HB.out.1 (by omega) (by omega) (by omega) (by omega) (by omega)).mono ?_)
         rintro e w10 ⟨rfl,v9,bo9,own9,bx9,ch9⟩
         have HLB:Hid (lenAt w10 go=out.length+1):=lH (by unfold lenAt;rw [bo9.cell 0 _ rfl];simp only;rw [lenS_own own9,List.length_append,List.length_singleton])
         have hcn:=HCNT.out
         have RR:=lH (show RiRel N L s.toList true R gx go (go+1) w6 q w10 from ⟨E,out++[(x.id,E.id,(q:Int))],v9,bo9,own9,bx9,HST.out.hop HH.out,(hop_mem HH.out).1,by rw [List.length_append,List.length_singleton];omega,Chg.trans KW.out (Chg.mono ch9 (fun k (hk:k<gx)=>⟨by omega,by omega,by omega⟩))⟩)
         clear bo9 own9 bx9 ch9 y0 y1 y2 x1' hA hK LE LE2
         go_wp2_with fail
         refine ⟨RR.out,?_⟩
         have h1:=HLA.out
         have h2:=HLB.out
         have h3:=HLN.out
         have h4:=HCNT.out
         show n-lenAt w10 go<n-lenAt wi go
         omega
section
variable {A β:Type} {encA:A→List Value} {p s2:Nat} {encB:β→List Value} {e1 e2:TypeId} {base:Nat} {w w':World} {v v':Value} {qs:List (A×Hdr)} {L:List (A×List β)}
end
def insJ (N:List Nd) (id:Int) (j:Nat) (L:List Lkd):List Lkd:=(List.range j).foldl (fun (L:List Lkd) (i:Nat)=>joinJ (joinJ L (neighN N id i).1.1 id i) id (neighN N id i).1.2 i) L
theorem insJ_succ (N:List Nd) (id:Int) (j:Nat) (L:List Lkd):insJ N id (j+1) L=joinJ (joinJ (insJ N id j L) (neighN N id j).1.1 id j) id (neighN N id j).1.2 j:=by
 unfold insJ
 rw [List.range_succ,List.foldl_append]
 rfl
theorem insJ_len (N:List Nd) (id:Int) (L:List Lkd):∀ j,(insJ N id j L).length=L.length
 | 0=>rfl
 | j+1=>by rw [insJ_succ,joinJ_len,joinJ_len,insJ_len N id L j]
section
variable {N:List Nd}
def newJ (L:List Lkd) (a:Nat) (id:Int) (m:Nat):List Lkd:=L.take a++(id,List.replicate m ((0:Int),(0:Int)))::L.drop a
theorem in_end {x:Nd} (h0:checkN (N++[x])=0) (hw:∀ y∈N++[x],y.word<4294967296) {m:Nat} (hm:m≤16) {A B:List Nd} (e:sortN (N++[x])=A++x::B) :
  insJ (N++[x]) x.id (m+1) (newJ (buildN N (m:Int)).1 A.length x.id (m+1))=(buildN (N++[x]) (m:Int)).1:=by
 have hi:idxI (sortN (N++[x])) x.id=A.length:=idxI_at (sortN_str h0) (by rw [e];simp)
 have h1:=ins_rows h0 hm rfl rfl
 rw [hi] at h1
 unfold newJ
 rw [h1]
 exact insert_law h0 hw hm (by simp)
end
theorem same_mod {a b j:Nat} (ha:a<4294967296) (hb:b<4294967296) (hj:j≤16):sameN a b (j:Int)=true↔a % 2 ^ j=b % 2 ^ j:=by
 unfold sameN
 rw [decide_eq_true_eq]
 constructor
 ·intro h
  apply Nat.eq_of_testBit_eq
  intro i
  rw [Nat.testBit_mod_two_pow,Nat.testBit_mod_two_pow]
  by_cases hi:i<j
  ·rw [common_lt ha hb (i:=i) (by omega)]
  ·simp [hi]
 ·intro h
  rcases Nat.lt_or_ge (commonN a b) j with h1 | h1
  ·refine absurd ?_ (common_at ha hb (by omega))
   have:=congrArg (fun x=>x.testBit (commonN a b)) h
   simp only [Nat.testBit_mod_two_pow] at this
   simpa [h1] using this
  ·omega
def LastI (P:List Nd) (j b:Nat):Option Nat→Prop
 | none=>∀ y∈P,y.word % 2 ^ j≠b
 | some k=>∃ A y B,P=A++y::B∧A.length=k∧y.word % 2 ^ j=b∧∀ z∈B,z.word % 2 ^ j≠b
section
variable {P:List Nd} {x:Nd} {j b:Nat} {o:Option Nat}
theorem LastI.nil (j b:Nat):LastI [] j b none:=fun y hy=>by cases hy
theorem LastI.hit (P:List Nd) (x:Nd) (j:Nat):LastI (P++[x]) j (x.word % 2 ^ j) (some P.length):=⟨P,x,[],rfl,rfl,rfl,fun z hz=>by cases hz⟩
theorem LastI.miss (h:LastI P j b o) (hb:x.word % 2 ^ j≠b):LastI (P++[x]) j b o:=by
 cases o with
 | none =>
  intro y hy
  rcases List.mem_append.1 hy with h1 | h1
  ·exact h y h1
  ·rw [List.mem_singleton.1 h1];exact hb
 | some k =>
  obtain ⟨A,y,B,rfl,hl,hy,hz⟩:=h
  refine ⟨A,y,B++[x],by simp,hl,hy,fun z hz'=>?_⟩
  rcases List.mem_append.1 hz' with h1 | h1
  ·exact hz z h1
  ·rw [List.mem_singleton.1 h1];exact hb
theorem LastI.lt {k:Nat} (h:LastI P j b (some k)):k<P.length:=by
 obtain ⟨A,y,B,rfl,hl,_⟩:=h
 simp
 omega
def idO (P:List Nd):Option Nat→Int
 | none=>0
 | some k=>(P[k]?.getD Nd.zero).id
theorem load_left (h0:checkN (P++[x])=0) (hw:∀ y∈P++[x],y.word<4294967296) (hs:sortN (P++[x])=P++[x]) (hj:j≤16) (hl:LastI P j (x.word % 2 ^ j) o):(neighN (P++[x]) x.id j).1=(idO P o,0):=by
 have hx:x∈P++[x]:=by simp
 have hp:∀ y∈P,(sameN y.word x.word (j:Int)=true↔y.word % 2 ^ j=x.word % 2 ^ j):=fun y hy=>same_mod (hw y (by simp [hy])) (hw x hx) hj
 have e:grpS (P++[x]) (j:Int) x.word=groupN P (j:Int) x.word++x::[]:=by
  unfold grpS groupN
  rw [hs,List.filter_append]
  congr 1
  exact List.filter_cons_of_pos (p:=fun z:Nd=>sameN z.word x.word (j:Int)) (sameN_refl x.word (by omega))
 rw [neigh_split h0 hx (lvl_nat hj) e]
 show (lastI (groupN P (j:Int) x.word),(0:Int))=_
 congr 1
 unfold groupN
 cases o with
 | none =>
  rw [List.filter_eq_nil_iff.2 (fun y hy hs=>hl y hy ((hp y hy).1 hs))]
  rfl
 | some k =>
  obtain ⟨A,y,B,rfl,hk,hy,hz⟩:=hl
  have e2:(A++y::B).filter (fun z=>sameN z.word x.word (j:Int))=A.filter (fun z=>sameN z.word x.word (j:Int))++[y]:=by
   rw [List.filter_append,List.filter_cons_of_pos (p:=fun z:Nd=>sameN z.word x.word (j:Int)) ((hp y (by simp)).2 hy),List.filter_eq_nil_iff.2 (fun z hz' hs=>hz z hz' ((hp z (by simp [hz'])).1 hs))]
  rw [e2]
  unfold lastI idO
  subst hk
  simp
theorem load_end (h0:checkN (P++[x])=0) (hw:∀ y∈P++[x],y.word<4294967296) (hs:sortN (P++[x])=P++[x]) {m:Nat} (hm:m≤16) (hP:checkN P=0) :
  insJ (P++[x]) x.id (m+1) ((buildN P (m:Int)).1++[(x.id,List.replicate (m+1) (0,0))])=(buildN (P++[x]) (m:Int)).1:=by
 have h:=in_end h0 hw hm (A:=P) (B:=[]) hs
 have hl:(buildN P (m:Int)).1.length=P.length:=by rw [build_row hP hm,List.length_map,sortN_length]
 unfold newJ at h
 rw [List.take_of_length_le (by omega),List.drop_of_length_le (by omega)] at h
 exact h
theorem sort_take {N:List Nd} (h0:checkN N=0) (i:Nat):sortN ((sortN N).take i)=(sortN N).take i:=by
 have h1:checkN (sortN N)=0:=sort_check h0
 have h2:=sortN_asc N
 exact (sortN_unique (check_keys (check_sub (List.take_sublist _ _) h1)) (List.Perm.refl _) (h2.sublist (List.take_sublist _ _))).symm
theorem take_check {N:List Nd} (h0:checkN N=0) (i:Nat):checkN ((sortN N).take i)=0:=check_sub (List.take_sublist _ _) (sort_check h0)
end
theorem join_get (L:List Lkd) (a b:Int) (i s:Nat):(joinJ L a b i)[s]?=(L[s]?).map (setJ a b i):=by unfold joinJ;rw [List.getElem?_map]
theorem setJ_same {a b:Int} {i:Nat} {c:Lkd} (h:∀ q,c.2[i]?=some q→jt a b c.1 q=q):setJ a b i c=c:=by
 unfold setJ
 refine Prod.ext rfl ?_
 show c.2.modify i (jt a b c.1)=c.2
 apply List.ext_getElem?
 intro k
 rw [List.getElem?_modify]
 by_cases hk:i=k
 ·subst hk
  cases hq:c.2[i]? with
  | none=>rfl
  | some q=>simp [h q hq]
 ·cases c.2[k]?<;>simp [hk]
section
variable {L:List Lkd} {id:Int} {i j:Nat} {R:List (Int×Int)}
theorem load_none (hd:∀ (s:Nat) (c:Lkd),L[s]?=some c→c.1=id→s=i) (hp:∀ c∈L,1≤c.1) (hi:L[i]?=some (id,R)) (hz:R[j]?=some (0,0)):joinJ (joinJ L 0 id j) id 0 j=L:=by
 have h1:1≤id:=hp _ (List.mem_of_getElem? hi)
 have e1:joinJ L 0 id j=L:=by
  apply List.ext_getElem?
  intro s
  rw [join_get]
  cases hs:L[s]? with
  | none=>rfl
  | some c =>
   have hc:=hp c (List.mem_of_getElem? hs)
   rw [Option.map_some,setJ_same]
   intro q hq
   unfold jt
   by_cases hci:c.1=id
   ·obtain rfl:=hd s c hs hci
    rw [hi] at hs
    cases hs
    rw [hz] at hq
    cases hq
    simp
   ·rw [if_neg hci,if_neg (by omega)]
 rw [e1]
 apply List.ext_getElem?
 intro s
 rw [join_get]
 cases hs:L[s]? with
 | none=>rfl
 | some c =>
  have hc:=hp c (List.mem_of_getElem? hs)
  rw [Option.map_some,setJ_same]
  intro q hq
  unfold jt
  by_cases hci:c.1=id
  ·obtain rfl:=hd s c hs hci
   rw [hi] at hs
   cases hs
   rw [hz] at hq
   cases hq
   simp
  ·rw [if_neg (by omega),if_neg hci]
theorem load_some (hd:∀ (s t:Nat) (c d:Lkd),L[s]?=some c→L[t]?=some d→c.1=d.1→s=t) (hp:∀ c∈L,1≤c.1) (hi:L[i]?=some (id,R)) (hz:R[j]?=some (0,0)) {k:Nat} {a:Int} {R':List (Int×Int)} {q:Int×Int} (hk:L[k]?=some (a,R')) (hq:R'[j]?=some q) (hki:k≠i) :
  joinJ (joinJ L a id j) id 0 j=(L.set i (id,R.set j (a,0))).set k (a,R'.set j (q.1,id)):=by
 have h1:1≤id:=hp _ (List.mem_of_getElem? hi)
 have h2:1≤a:=hp _ (List.mem_of_getElem? hk)
 have hil:=(List.getElem?_eq_some_iff.1 hi).1
 have hkl:=(List.getElem?_eq_some_iff.1 hk).1
 have hai:a≠id:=fun e=>hki (hd k i _ _ hk hi e)
 have hjR:=(List.getElem?_eq_some_iff.1 hz).1
 have hjQ:=(List.getElem?_eq_some_iff.1 hq).1
 apply List.ext_getElem?
 intro s
 rw [join_get,join_get,List.getElem?_set,List.length_set,List.getElem?_set]
 by_cases hsk:k=s
 ·subst hsk
  rw [if_pos rfl,if_pos hkl,hk]
  simp only [Option.map_some]
  rw [setJ_of (left:=a) (right:=id) (lev:=j) (c:=(a,R')) (q:=q) hq,if_neg hai,if_pos rfl]
  rw [setJ_same]
  intro q' hq'
  have:q'=(q.1,id):=by
   have h3:((R'.set j (q.1,id))[j]?)=some (q.1,id):=by rw [List.getElem?_set_self hjQ]
   exact Option.some.inj (hq'.symm.trans h3)
  subst this
  unfold jt
  show (if a=0 then _ else _,if a=id then _ else _)=_
  rw [if_neg (by omega),if_neg hai]
 ·rw [if_neg hsk]
  by_cases hsi:i=s
  ·subst hsi
   rw [if_pos rfl,if_pos hil,hi]
   simp only [Option.map_some]
   rw [setJ_of (left:=a) (right:=id) (lev:=j) (c:=(id,R)) (q:=(0,0)) hz,if_pos rfl,if_neg (fun e=>hai e.symm)]
   rw [setJ_same]
   intro q' hq'
   have:q'=(a,0):=by
    have h3:((R.set j (a,(0:Int)))[j]?)=some (a,0):=by rw [List.getElem?_set_self hjR]
    exact Option.some.inj (hq'.symm.trans h3)
   subst this
   unfold jt
   show (if id=0 then _ else _,if id=id then _ else _)=_
   rw [if_neg (by omega),if_pos rfl]
  ·rw [if_neg hsi]
   cases hs:L[s]? with
   | none=>rfl
   | some c =>
    have hc:=hp c (List.mem_of_getElem? hs)
    have n1:c.1≠id:=fun e=>hsi (hd i s _ c hi hs e.symm)
    have n2:c.1≠a:=fun e=>hsk (hd k s _ c hk hs e.symm)
    simp only [Option.map_some]
    rw [setJ_same (a:=a) (b:=id) (i:=j) (c:=c),setJ_same (a:=id) (b:=0) (i:=j) (c:=c)]
    ·intro q' _
     unfold jt
     rw [if_neg (by omega),if_neg n1]
    ·intro q' _
     unfold jt
     rw [if_neg n1,if_neg n2]
end
theorem setJ_keep (a b:Int) (i:Nat) (c:Lkd):(setJ a b i c).1=c.1∧(setJ a b i c).2.length=c.2.length∧∀ t,t≠i→(setJ a b i c).2[t]?=c.2[t]?:=by
 unfold setJ
 refine ⟨rfl,by simp,fun t ht=>?_⟩
 simp only [List.getElem?_modify]
 cases c.2[t]? with
 | none=>rfl
 | some q=>simp [show ¬ i=t from fun e=>ht e.symm]
theorem insJ_keep (N:List Nd) (id:Int) (B:List Lkd) {s:Nat} {c:Lkd} (hs:B[s]?=some c):∀ j,∃ R,(insJ N id j B)[s]?=some (c.1,R)∧R.length=c.2.length∧∀ t,j≤t→R[t]?=c.2[t]?
 | 0=>⟨c.2,hs,rfl,fun _ _=>rfl⟩
 | j+1=>by
  obtain ⟨R,h1,h2,h3⟩:=insJ_keep N id B hs j
  rw [insJ_succ,join_get,join_get,h1]
  simp only [Option.map_some]
  obtain ⟨k1,k2,k3⟩:=setJ_keep (neighN N id j).1.1 id j (c.1,R)
  generalize setJ (neighN N id j).1.1 id j (c.1,R)=c1 at k1 k2 k3 ⊢
  obtain ⟨m1,m2,m3⟩:=setJ_keep id (neighN N id j).1.2 j c1
  refine ⟨(setJ id (neighN N id j).1.2 j c1).2,?_,by rw [m2,k2,h2],fun t ht=>?_⟩
  ·exact congrArg some (Prod.ext (by rw [m1,k1]) rfl)
  ·rw [m3 t (by omega),k3 t (by omega),h3 t (by omega)]
section
variable {N:List Nd} {m k:Nat} {x:Nd}
def curN (S:List Nd) (m k j:Nat) (x:Nd):List Lkd:=insJ (S.take (k+1)) x.id j ((buildN (S.take k) (m:Int)).1++[(x.id,List.replicate (m+1) (0,0))])
theorem take_snocK {S:List Nd} (hx:S[k]?=some x):S.take (k+1)=S.take k++[x]:=by rw [List.take_add_one,hx];rfl
theorem cur_end (h0:checkN N=0) (hw:∀ y∈N,y.word<4294967296) (hm:m≤16) (hx:(sortN N)[k]?=some x):curN (sortN N) m k (m+1) x=(buildN ((sortN N).take (k+1)) (m:Int)).1:=by
 have e:=take_snocK hx
 have hc:=take_check h0 (k+1)
 have hs:=sort_take h0 (k+1)
 have hw':∀ y∈(sortN N).take (k+1),y.word<4294967296:=fun y hy=>hw y ((sortN_perm N).subset (List.mem_of_mem_take hy))
 unfold curN
 rw [e] at hc hs hw' ⊢
 exact load_end hc hw' hs hm (take_check h0 k)
theorem base_fst (h0:checkN N=0) (hm:m≤16) (hx:(sortN N)[k]?=some x):((buildN ((sortN N).take k) (m:Int)).1++[(x.id,List.replicate (m+1) ((0:Int),(0:Int)))]).map Prod.fst=((sortN N).take (k+1)).map Nd.id:=by
 rw [take_snocK hx,List.map_append,List.map_append,build_fst (take_check h0 k) hm,sort_take h0 k]
 rfl
theorem cur_at (h0:checkN N=0) (hm:m≤16) (hx:(sortN N)[k]?=some x) {s:Nat} {y:Nd} (hs:s≤k) (hy:(sortN N)[s]?=some y) (j:Nat) :
  ∃ R,(curN (sortN N) m k j x)[s]?=some (y.id,R)∧R.length=m+1∧(s=k→∀ t,j≤t→t≤m→R[t]?=some (0,0)):=by
 have hf:=base_fst h0 hm hx
 have h1:(((sortN N).take (k+1)).map Nd.id)[s]?=some y.id:=by
  rw [List.getElem?_map,List.getElem?_take]
  rw [if_pos (by omega),hy]
  rfl
 rw [← hf,List.getElem?_map] at h1
 cases hc:((buildN ((sortN N).take k) (m:Int)).1++[(x.id,List.replicate (m+1) ((0:Int),(0:Int)))])[s]? with
 | none=>rw [hc] at h1;cases h1
 | some c =>
  rw [hc] at h1
  have hcid:c.1=y.id:=by simpa using h1
  have hbl:(buildN ((sortN N).take k) (m:Int)).1.length=k:=by
   have:=congrArg List.length (build_fst (take_check h0 k) hm)
   rw [List.length_map,List.length_map,sort_take h0 k,List.length_take] at this
   have hkl:=(List.getElem?_eq_some_iff.1 hx).1
   omega
  obtain ⟨R,r1,r2,r3⟩:=insJ_keep ((sortN N).take (k+1)) x.id _ hc j
  rw [hcid] at r1
  refine ⟨R,r1,?_,fun e t ht htm=>?_⟩
  ·rw [r2]
   rcases List.mem_append.1 (List.mem_of_getElem? hc) with h | h
   ·exact build_lv (take_check h0 k) hm c h
   ·rw [List.mem_singleton.1 h]
    exact List.length_replicate
  ·subst e
   rw [List.getElem?_append_right (by omega),hbl,Nat.sub_self] at hc
   have:c=(x.id,List.replicate (m+1) (0,0)):=by simpa using hc.symm
   rw [r3 t ht,this]
   simp only [List.getElem?_replicate]
   rw [if_pos (by omega)]
theorem cur_len (h0:checkN N=0) (hm:m≤16) (hx:(sortN N)[k]?=some x) (j:Nat):(curN (sortN N) m k j x).length=k+1:=by
 have hkl:=(List.getElem?_eq_some_iff.1 hx).1
 have:=congrArg List.length (base_fst h0 hm hx)
 rw [List.length_map,List.length_map,List.length_take] at this
 unfold curN
 rw [insJ_len,this]
 omega
theorem cur_fst (h0:checkN N=0) (hm:m≤16) (hx:(sortN N)[k]?=some x) (j:Nat) {s:Nat} {c:Lkd} (hc:(curN (sortN N) m k j x)[s]?=some c):∃ y,(sortN N)[s]?=some y∧c.1=y.id∧s≤k:=by
 have hkl:=(List.getElem?_eq_some_iff.1 hx).1
 have hs:s<k+1:=by rw [← cur_len h0 hm hx j];exact (List.getElem?_eq_some_iff.1 hc).1
 have hy:=List.getElem?_eq_getElem (show s<(sortN N).length by omega)
 obtain ⟨R,h1,_,_⟩:=cur_at h0 hm hx (by omega) hy j
 rw [h1] at hc
 cases hc
 exact ⟨_,hy,rfl,by omega⟩
theorem cur_inj (h0:checkN N=0) (hm:m≤16) (hx:(sortN N)[k]?=some x) (j:Nat):∀ (s t:Nat) (c d:Lkd),(curN (sortN N) m k j x)[s]?=some c→(curN (sortN N) m k j x)[t]?=some d→c.1=d.1→s=t:=by
 intro s t c d hc hd e
 obtain ⟨y,hy,e1,_⟩:=cur_fst h0 hm hx j hc
 obtain ⟨z,hz,e2,_⟩:=cur_fst h0 hm hx j hd
 rcases Nat.lt_trichotomy s t with h | h | h
 ·exact absurd (by rw [← e1,← e2,e]) (asc_at (sortN_str h0) hy hz h).2
 ·exact h
 ·exact absurd (by rw [← e1,← e2,e]) (asc_at (sortN_str h0) hz hy h).2
theorem cur_pos (h0:checkN N=0) (hm:m≤16) (hx:(sortN N)[k]?=some x) (j:Nat):∀ c∈curN (sortN N) m k j x,1≤c.1:=by
 intro c hc
 obtain ⟨s,hs⟩:=List.mem_iff_getElem?.1 hc
 obtain ⟨y,hy,e1,_⟩:=cur_fst h0 hm hx j hs
 rw [e1]
 exact check_id h0 ((sortN_perm N).subset (List.mem_of_getElem? hy))
theorem cur_left (h0:checkN N=0) (hw:∀ y∈N,y.word<4294967296) (hx:(sortN N)[k]?=some x) {j:Nat} (hj:j≤16) {o:Option Nat} (ho:LastI ((sortN N).take k) j (x.word % 2 ^ j) o) :
  (neighN ((sortN N).take (k+1)) x.id j).1=(idO ((sortN N).take k) o,0):=by
 have e:=take_snocK hx
 have hc:=take_check h0 (k+1)
 have hs:=sort_take h0 (k+1)
 have hw':∀ y∈(sortN N).take (k+1),y.word<4294967296:=fun y hy=>hw y ((sortN_perm N).subset (List.mem_of_mem_take hy))
 rw [e] at hc hs hw' ⊢
 exact load_left hc hw' hs hj ho
theorem cur_none (h0:checkN N=0) (hw:∀ y∈N,y.word<4294967296) (hm:m≤16) (hx:(sortN N)[k]?=some x) {j:Nat} (hj:j≤m) (ho:LastI ((sortN N).take k) j (x.word % 2 ^ j) none):curN (sortN N) m k (j+1) x=curN (sortN N) m k j x:=by
 obtain ⟨R,r1,r2,r3⟩:=cur_at h0 hm hx (Nat.le_refl k) hx j
 have hl:=cur_left h0 hw hx (by omega) ho
 have e:curN (sortN N) m k (j+1) x=joinJ (joinJ (curN (sortN N) m k j x) 0 x.id j) x.id 0 j:=by
  unfold curN
  rw [insJ_succ,hl]
  rfl
 rw [e]
 exact load_none (fun s c hs hc=>cur_inj h0 hm hx j s k c (x.id,R) hs r1 hc) (cur_pos h0 hm hx j) r1 (r3 rfl j (Nat.le_refl j) hj)
theorem cur_some (h0:checkN N=0) (hw:∀ y∈N,y.word<4294967296) (hm:m≤16) (hx:(sortN N)[k]?=some x) {j:Nat} (hj:j≤m) {i:Nat} (ho:LastI ((sortN N).take k) j (x.word % 2 ^ j) (some i)) :
  i<k∧∃ (a:Int) (R R':List (Int×Int)) (q:Int×Int),(curN (sortN N) m k j x)[k]?=some (x.id,R)∧R[j]?=some (0,0)∧(curN (sortN N) m k j x)[i]?=some (a,R')∧R'[j]?=some q ∧
   curN (sortN N) m k (j+1) x=((curN (sortN N) m k j x).set k (x.id,R.set j (a,0))).set i (a,R'.set j (q.1,x.id)):=by
 have hik:i<k:=by
  have:=ho.lt
  rw [List.length_take] at this
  omega
 have hkl:=(List.getElem?_eq_some_iff.1 hx).1
 have hy:=List.getElem?_eq_getElem (show i<(sortN N).length by omega)
 obtain ⟨R,r1,r2,r3⟩:=cur_at h0 hm hx (Nat.le_refl k) hx j
 obtain ⟨R',u1,u2,_⟩:=cur_at h0 hm hx (Nat.le_of_lt hik) hy j
 have hq:=List.getElem?_eq_getElem (show j<R'.length by omega)
 have hl:=cur_left h0 hw hx (by omega) ho
 have hid:idO ((sortN N).take k) (some i)=((sortN N)[i]'(by omega)).id:=by
  show (((sortN N).take k)[i]?.getD Nd.zero).id=_
  rw [List.getElem?_take,if_pos hik,hy]
  rfl
 have e:curN (sortN N) m k (j+1) x=joinJ (joinJ (curN (sortN N) m k j x) ((sortN N)[i]'(by omega)).id x.id j) x.id 0 j:=by
  unfold curN
  rw [insJ_succ,hl,hid]
 refine ⟨hik,_,R,R',_,r1,r3 rfl j (Nat.le_refl j) hj,u1,hq,?_⟩
 rw [e]
 exact load_some (cur_inj h0 hm hx j) (cur_pos h0 hm hx j) r1 (r3 rfl j (Nat.le_refl j) hj) u1 hq (by omega)
def LastF (S:List Nd) (m k j:Nat) (f:Nat→Nat→Option Nat):Prop:=∀ lev b,lev≤m→LastI (S.take (if lev<j then k+1 else k)) lev b (f lev b)
theorem lastF_zero (S:List Nd) (m:Nat):LastF S m 0 0 (fun _ _=>none):=fun lev b _=>by
 rw [if_neg (by omega)]
 exact LastI.nil lev b
theorem lastF_next {S:List Nd} {f:Nat→Nat→Option Nat} (h:LastF S m k (m+1) f):LastF S m (k+1) 0 f:=fun lev b hl=>by
 have:=h lev b hl
 rw [if_pos (by omega)] at this
 rw [if_neg (by omega)]
 exact this
theorem lastF_step {S:List Nd} {f:Nat→Nat→Option Nat} {j:Nat} (hx:S[k]?=some x) (h:LastF S m k j f):LastF S m k (j+1) (fun l c=>if l=j∧c=x.word % 2 ^ j then some k else f l c):=fun lev b hl=>by
 have h1:=h lev b hl
 have hkl:=(List.getElem?_eq_some_iff.1 hx).1
 have hlen:(S.take k).length=k:=by rw [List.length_take];omega
 by_cases hlj:lev=j
 ·subst hlj
  rw [if_neg (by omega)] at h1
  rw [if_pos (by omega),take_snocK hx]
  by_cases hb:b=x.word % 2 ^ lev
  ·subst hb
   show LastI _ _ _ (if _ then _ else _)
   rw [if_pos ⟨rfl,rfl⟩]
   have:=LastI.hit (S.take k) x lev
   rw [hlen] at this
   exact this
  ·show LastI _ _ _ (if _ then _ else _)
   rw [if_neg (by rintro ⟨_,h⟩;exact hb h)]
   exact LastI.miss h1 (fun h=>hb h.symm)
 ·have e2:(if lev=j∧b=x.word % 2 ^ j then some k else f lev b)=f lev b:=if_neg (fun e=>hlj e.1)
  show LastI _ lev b (if lev=j∧b=x.word % 2 ^ j then some k else f lev b)
  rw [e2]
  by_cases h2:lev<j
  ·rw [if_pos h2] at h1
   rw [if_pos (by omega)]
   exact h1
  ·rw [if_neg h2] at h1
   rw [if_neg (by omega)]
   exact h1
theorem lastF_at {S:List Nd} {f:Nat→Nat→Option Nat} {j:Nat} (h:LastF S m k j f) (hj:j≤m) (b:Nat):LastI (S.take k) j b (f j b):=by
 have:=h j b hj
 rw [if_neg (by omega)] at this
 exact this
end
end Go.Proofs.YthcholmhmcpooaaGreatDoor
