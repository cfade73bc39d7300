/- Texts for FlightStepsProof. -/
import Derived.Shelf.Abstract
import Derived.Test.YtalmjklljofhbaaGreatDoorFlightStepsProofL3
set_option linter.unusedSimpArgs false
set_option linter.unusedVariables false

namespace Go.Proofs.YtalmjklljofhbaaGreatDoor
open Go.RowKit
def PredG (g:Nat) (lb:Array Value) (p:Nd→Bool) (w:World):Prop:=∀ (x:Nd) (w':World),Ex w w'→Calls Tryz.prog g (#[x.val]++lb) w' fun e w''=>e=.returned (.bool (p x))∧Ex w' w''
theorem PredG.nx {g:Nat} {lb:Array Value} {p:Nd→Bool} {w w':World} (h:PredG g lb p w) (k:Ex w w'):PredG g lb p w':=fun x w'' k2=>h x w'' (k.nx k2)
def idxB (p:Nd→Bool) (l:List Nd):Int:=if l.findIdx p<l.length then (l.findIdx p:Int) else -1
theorem idxB_of {p:Nd→Bool} {l:List Nd} {k:Nat} {y:Nd} (hy:l[k]?=some y) (hp:p y=true) (hno:∀ j z,j<k→l[j]?=some z→p z=false):idxB p l=k∧k<l.length:=by
 have hk:=(List.getElem?_eq_some_iff.1 hy)
 have hk1:=hk.1
 have:l.findIdx p=k:=by
  rw [List.findIdx_eq hk.1]
  refine ⟨by rw [hk.2];exact hp,fun j hj=>?_⟩
  exact hno j _ hj (List.getElem?_eq_getElem (by omega))
 unfold idxB
 rw [this,if_pos hk.1]
 exact ⟨rfl,hk.1⟩
theorem idxB_none {p:Nd→Bool} {l:List Nd} (hno:∀ j z,j<l.length→l[j]?=some z→p z=false):idxB p l = -1:=by
 unfold idxB
 rw [if_neg]
 rw [List.findIdx_lt_length]
 rintro ⟨x,hx,hp⟩
 obtain ⟨j,hj⟩:=List.mem_iff_getElem?.1 hx
 rw [hno j x (List.getElem?_eq_some_iff.1 hj).1 hj] at hp
 cases hp
theorem idxB_any (p:Nd→Bool) (l:List Nd):decide (0≤idxB p l)=l.any p:=by
 unfold idxB
 split
 ·rename_i h
  rw [List.findIdx_lt_length] at h
  have h1:l.any p=true:=List.any_eq_true.2 h
  rw [h1];simp
 ·rename_i h
  rw [List.findIdx_lt_length] at h
  have h1:l.any p=false:=by
   rw [List.any_eq_false]
   intro x hx hp
   exact h ⟨x,hx,hp⟩
  rw [h1];simp
def IdRel (p:Nd→Bool) (l:List Nd) (n:Nat) (w:World) (i:Value) (wr:World):Prop :=
 ∃ k:Nat,k≤n∧i=.int .i64 k∧Ex w wr∧∀ j z,j<k→l[j]?=some z→p z=false
set_option maxRecDepth 100000 in
set_option maxHeartbeats 2000000 in
theorem idxf_n (g:Nat) (lb:Array Value) (p:Nd→Bool) (eg:∀ args w,(callFunc g args).run Tryz.prog w=.ok (.enter g args) w) (a:Option Addr) (n c:Nat) (l:List Nd) (w:World) (h:Sl 3 encN w a n l) (hn:n≤1000000) (hp:PredG g lb p w) :
  Calls Tryz.prog 143 #[.slice a n c,.func (.func g) #[] lb] w fun e w'=>e=.returned (.int .i64 (idxB p l))∧Ex w w':=by
 have HL:=lH h.len
 have HP:=lH hp
 have hs:=lH h
 clear h hp
 go_enter Tryz.func143,Tryz.ntmps143
 go_wp2
 go_loopw [8] (fun i wr=>IdRel p l n w i wr) (fun i _=>n-(intOf i).toNat)
 case atStart=>exact ⟨0,by omega,rfl,Ex.refl _,by intro j z h;omega⟩
 case round =>
  obtain ⟨k,hk,rfl,kw,hno⟩:=hrel
  have HNO:=lH hno
  clear hno
  obtain ⟨wo,rfl⟩:∃ wo:World,wo=wr:=⟨_,rfl⟩
  by_cases hlt:k<n
  ·obtain ⟨x1,o1,y,rfl,hx1,hy,hc1⟩:=(hs.out.nx kw).at hlt
   have e0:wo.cell? ⟨x1,o1+k*3,none⟩=some (.int .i64 y.id):=hc1 0 _ rfl
   have e1:wo.cell? ⟨x1,o1+k*3+1,none⟩=some (.string y.key):=hc1 1 _ rfl
   have e2:wo.cell? ⟨x1,o1+k*3+1+1,none⟩=some (.int .u32 y.word):=by simpa [Nat.add_assoc] using hc1 2 _ rfl
   have e2':wo.cell? ⟨x1,o1+k*3+2,none⟩=some (.int .u32 y.word):=hc1 2 _ rfl
   have HY:=lH hy
   have hc:=HP.out y wo kw
   have KW:=lH kw
   clear hc1 hy kw
   unfold Nd.val at hc
   go_wp2_with fail
   refine hc.mono ?_
   rintro e w2 ⟨rfl,k2⟩
   have K2:=lH (KW.out.nx k2)
   clear hc k2 e0 e1 e2 e2'
   cases hb:p y with
   | true =>
    have HI:Hid (idxB p l=k):=lH (idxB_of HY.out hb HNO.out).1
    clear hb
    go_wp2_with fail
    go_ret
    exact ⟨by rw [HI.out];rfl,K2.out⟩
   | false =>
    have HB:=lH hb
    clear hb
    go_wp2_with fail
    refine ⟨⟨k+1,by omega,by go_num,K2.out,fun j z hj hz=>?_⟩,by simp [intOf];omega⟩
    rcases Nat.lt_or_ge j k with h | h
    ·exact HNO.out j z h hz
    ·obtain rfl:j=k:=by omega
     rw [Option.some.inj (hz.symm.trans HY.out)]
     exact HB.out
  ·obtain rfl:k=n:=by omega
   have HI:Hid (idxB p l = -1):=lH (idxB_none (fun j z hj hz=>HNO.out j z (by rw [← HL.out];exact hj) hz))
   have KW:=lH kw
   clear kw hk hlt
   go_wp2_with fail
   go_ret
   exact ⟨by rw [HI.out];rfl,KW.out⟩
theorem contf_n (g:Nat) (lb:Array Value) (p:Nd→Bool) (eg:∀ args w,(callFunc g args).run Tryz.prog w=.ok (.enter g args) w) (a:Option Addr) (n c:Nat) (l:List Nd) (w:World) (h:Sl 3 encN w a n l) (hn:n≤1000000) (hp:PredG g lb p w) :
  Calls Tryz.prog 109 #[.slice a n c,.func (.func g) #[] lb] w fun e w'=>e=.returned (.bool (l.any p))∧Ex w w':=by
 have HA:=lH (idxB_any p l)
 go_enter Tryz.func109,Tryz.ntmps109
 go_wp2_with fail
 (with_reducible refine (idxf_n g lb p eg _ _ _ _ _ h hn hp).mono ?_)
 rintro e w1 ⟨rfl,kk⟩
 clear h hp
 go_wp2_with fail
 go_ret
 exact ⟨by rw [← HA.out];rfl,kk⟩
theorem find1_p (gx:Nat) (id:Int) (w:World) (hx:Blk w gx [.int .i64 id] 3):PredG 144 #[.pointer (some ⟨gx,0,none⟩)] (fun x=>x.id==id) w:=by
 intro x w' kk
 have q0:=(hx.nx kk).cell 0 _ rfl
 have hg:=(hx.nx kk).lt
 have hne:¬ gx=w'.heap.size:=by omega
 unfold Nd.val
 clear hx kk
 go_enter Tryz.func144,Tryz.ntmps144
 go_wp2
 go_ret
 exact ⟨rfl,(Ex.refl _).alloc _⟩
theorem idxB_find (l:List Nd) (id:Int):(∃ (k:Nat) (y:Nd),idxB (fun x=>x.id==id) l=k∧k<l.length∧l[k]?=some y∧findN l id=(y,true))∨(idxB (fun x=>x.id==id) l = -1∧findN l id=(Nd.zero,false)):=by
 unfold findN idxB
 by_cases h:l.findIdx (fun x=>x.id==id)<l.length
 ·refine .inl ⟨l.findIdx (fun x=>x.id==id),l[l.findIdx (fun x=>x.id==id)],by rw [if_pos h],h,List.getElem?_eq_getElem h,?_⟩
  rw [List.find?_eq_getElem?_findIdx,List.getElem?_eq_getElem h]
 ·refine .inr ⟨by rw [if_neg h],?_⟩
  rw [List.find?_eq_getElem?_findIdx,List.getElem?_eq_none (by omega)]
def NbPost (r:Nd×Bool) (w:World) (e:Ending) (w':World):Prop:=e=.returned (.tuple #[r.1.val,.bool r.2])∧Ex w w'
set_option maxRecDepth 100000 in
set_option maxHeartbeats 2000000 in
theorem find_p (a:Option Addr) (n c:Nat) (l:List Nd) (id:Int) (w:World) (h:Sl 3 encN w a n l) (hn:n≤1000000) :
  Calls Tryz.prog 89 #[.slice a n c,.int .i64 id] w (NbPost (findN l id) w):=by
 have HL:=lH h.len
 have hs:=lH h
 have k1:=Ex.new w (.cells #[.int .i64 id] 3)
 have B1:=Blk.new w [.int .i64 id] 3
 have k2:=k1.alloc (.cells #[.int .i64 0,.string ⟨#[]⟩,.int .u32 0] 49)
 have B2:=Blk.new (w.alloc (.cells #[.int .i64 id] 3)) [.int .i64 0,.string ⟨#[]⟩,.int .u32 0] 49
 have B1:=B1.nx (Ex.new _ (.cells #[.int .i64 0,.string ⟨#[]⟩,.int .u32 0] 49))
 obtain ⟨w1,hw1⟩:∃ w1,w1=(w.alloc (.cells #[.int .i64 id] 3)).alloc (.cells #[.int .i64 0,.string ⟨#[]⟩,.int .u32 0] 49):=⟨_,rfl⟩
 obtain ⟨g,hg⟩:∃ g,g=w.heap.size+1:=⟨_,rfl⟩
 obtain ⟨gi,hgi⟩:∃ gi,gi=w.heap.size:=⟨_,rfl⟩
 have B2:Blk w1 g [.int .i64 0,.string ⟨#[]⟩,.int .u32 0] 49:=by rw [hw1,hg];simpa using B2
 have B1:Blk w1 gi [.int .i64 id] 3:=by rw [hw1,hgi];exact B1
 rw [← hw1] at k2
 have hgn:w.heap.size≤g:=by omega
 have eg:∀ args w,(callFunc 144 args).run Tryz.prog w=.ok (.enter 144 args) w:=enters_of Tryz.func144 (by kernel_rfl) rfl
 have HW1:=lH hw1
 have HG:=lH hg
 have HGI:=lH hgi
 have EG:=lH eg
 clear h hw1 hg hgi k1 eg
 go_enter Tryz.func89,Tryz.ntmps89
 go_upto_region 1 with fail
 rw [← HG.out,← HW1.out,← HGI.out]
 go_wp2_with fail
 (with_reducible refine (idxf_n 144 #[.pointer (some ⟨gi,0,none⟩)] (fun x=>x.id==id) EG.out _ _ _ _ _ (hs.out.nx k2) hn (find1_p gi id w1 B1)).mono ?_)
 rintro e w3 ⟨rfl,k3⟩
 have B3:=B2.nx k3
 have q0:=B3.cell 0 _ rfl
 have q1:=B3.cell 1 _ rfl
 have q2:=B3.cell 2 _ rfl
 have z0:=B3.free 0
 have z1:=B3.free 1
 have z2:=B3.free 2
 have kk:=k2.nx k3
 have KE:Hid (∀ v0 v1 v2,Ex w (((w3.setCell ⟨g,0,none⟩ v0).setCell ⟨g,1,none⟩ v1).setCell ⟨g,2,none⟩ v2)):=lH (fun v0 v1 v2=>((kk.setNew (p:=⟨g,0,none⟩) _ hgn).setNew (p:=⟨g,1,none⟩) _ hgn).setNew (p:=⟨g,2,none⟩) _ hgn)
 have hgw:=B3.lt
 rcases idxB_find l id with ⟨k,y,hi,hk,hy,hf⟩ | ⟨hi,hf⟩
 ·rw [hi]
  have HF:=lH hf
  obtain ⟨x1,o1,y',ha,hx1,hy',hc1⟩:=(hs.out.nx kk).at (j:=k) (by rw [← HL.out];exact hk)
  obtain rfl:y=y':=Option.some.inj (hy.symm.trans hy')
  subst ha
  have e0:w3.cell? ⟨x1,o1+k*3,none⟩=some (.int .i64 y.id):=hc1 0 _ rfl
  have e1:w3.cell? ⟨x1,o1+k*3+1,none⟩=some (.string y.key):=hc1 1 _ rfl
  have e2:w3.cell? ⟨x1,o1+k*3+1+1,none⟩=some (.int .u32 y.word):=by simpa [Nat.add_assoc] using hc1 2 _ rfl
  have hkn:(k:Int)<(n:Int):=by have:=HL.out;omega
  have hk0:¬ (k:Int)<0:=by omega
  clear hi hf hy hy' hc1 B1 B2 B3 k2 k3 kk hk
  go_wp2_with fail
  refine bodyPost_ret (v:=.tuple #[.agg #[.int .i64 y.id,.string y.key,.int .u32 y.word],.bool true]) (by simp [results,Tryz.results89,go_sem, *]) rfl ⟨by rw [HF.out];rfl,KE.out _ _ _⟩
 ·rw [hi]
  have HF:=lH hf
  clear hi hf B1 B2 B3 k2 k3 kk
  go_wp2_with fail
  refine bodyPost_ret (v:=.tuple #[.agg #[.int .i64 0,.string ⟨#[]⟩,.int .u32 0],.bool false]) (by simp [results,Tryz.results89,go_sem, *]) rfl ⟨by rw [HF.out];rfl,KE.out _ _ _⟩
theorem vkey_p (s:ByteArray) (w:World):Calls Tryz.prog 107 #[.string s] w fun e w'=>e=.returned (.bool (decide ((s.size:Int)≤64)))∧w=w':=by
 go_enter Tryz.func107,Tryz.ntmps107
 go_wp2
 go_ret
 exact ⟨rfl,rfl⟩
theorem eqN_symm (x y:Nd):eqN x y=eqN y x:=by
 unfold eqN
 rw [Bool.eq_iff_iff]
 simp only [Bool.or_eq_true,beq_iff_eq]
 exact ⟨fun h=>h.imp Eq.symm Eq.symm,fun h=>h.imp Eq.symm Eq.symm⟩
set_option maxRecDepth 100000 in
theorem check1_p (gx:Nat) (x:Nd) (w:World) (hx:Blk w gx [.int .i64 x.id,.string x.key,.int .u32 x.word] 49):PredG 110 #[.pointer (some ⟨gx,0,none⟩)] (fun y=>eqN y x) w:=by
 intro y w' kk
 have B:=hx.nx kk
 have q0:=B.cell 0 _ rfl
 have q1:=B.cell 1 _ rfl
 have hg:=B.lt
 have hne:¬ gx=w'.heap.size:=by omega
 unfold Nd.val
 clear hx kk B
 by_cases h1:y.id=x.id
 ·have d1:(y.id==x.id)=true:=by simpa using h1
  have HE:Hid (eqN y x=true):=lH (by unfold eqN;rw [d1];rfl)
  clear h1
  go_enter Tryz.func110,Tryz.ntmps110
  go_wp2
  go_ret
  exact ⟨by rw [HE.out];rfl,(Ex.refl _).alloc _⟩
 ·have d1:(y.id==x.id)=false:=by simpa using h1
  have HE:Hid (eqN y x=(y.key.toList==x.key.toList)):=lH (by unfold eqN;rw [d1];rfl)
  clear h1
  go_enter Tryz.func110,Tryz.ntmps110
  go_wp2
  go_ret
  exact ⟨by rw [HE.out];rfl,(Ex.refl _).alloc _⟩
def NdRel (n:Nat) (l:List Nd) (w:World) (i:Value) (wr:World):Prop :=
 ∃ k:Nat,k≤n∧i=.int .i64 k∧Ex w wr∧∀ i' x,i'<k→l[i']?=some x→(l.take i').any (fun y=>eqN y x)=false
set_option maxRecDepth 100000 in
set_option maxHeartbeats 4000000 in
theorem check_p (a:Option Addr) (n c:Nat) (l:List Nd) (w:World) (h:Sl 3 encN w a n l) (hn:n≤1000000) (hc:n≤c) (hm:c≤maxLen) :
  Calls Tryz.prog 50 #[.slice a n c] w fun e w'=>e=.returned (.int .i64 (checkN l))∧Ex w w':=by
 have hlen:=h.len
 unfold maxLen at hm
 have eg:∀ args w,(callFunc 110 args).run Tryz.prog w=.ok (.enter 110 args) w:=enters_of Tryz.func110 (by kernel_rfl) rfl
 have EG:=lH eg
 clear eg
 go_enter Tryz.func50,Tryz.ntmps50
 by_cases h64:64<n
 ·have HC:Hid (checkN l=3):=lH (by unfold checkN;rw [if_pos (by omega)])
  clear h hlen
  go_wp2_with fail
  go_ret
  exact ⟨by rw [HC.out];rfl,Ex.refl _⟩
 have HL:=lH hlen
 clear hlen
 go_wp2_with fail
 go_loopw [12] (fun i wr=>N1Rel n l w i wr) (fun i _=>n-(intOf i).toNat)
 case atStart=>exact ⟨0,by omega,rfl,Ex.refl _,by intro _ _ h;omega⟩
 case round =>
  obtain ⟨k,hk,rfl,kw,hgood⟩:=hrel
  have HG:=lH hgood
  clear hgood
  obtain ⟨wo,rfl⟩:∃ wo:World,wo=wr:=⟨_,rfl⟩
  by_cases hlt:k<n
  ·obtain ⟨x1,o1,y,rfl,hx1,hy,hc1⟩:=(h.nx kw).at hlt
   have e0:wo.cell? ⟨x1,o1+k*3,none⟩=some (.int .i64 y.id):=hc1 0 _ rfl
   have e1:wo.cell? ⟨x1,o1+k*3+1,none⟩=some (.string y.key):=hc1 1 _ rfl
   have e2:wo.cell? ⟨x1,o1+k*3+1+1,none⟩=some (.int .u32 y.word):=by simpa [Nat.add_assoc] using hc1 2 _ rfl
   have e2':wo.cell? ⟨x1,o1+k*3+2,none⟩=some (.int .u32 y.word):=hc1 2 _ rfl
   have HY:=lH hy
   have BAD:badN y=true→checkN l=1:=fun hb=>by
    unfold checkN
    rw [if_neg (by rw [HL.out];exact h64),if_pos (List.any_eq_true.2 ⟨y,List.mem_of_getElem? HY.out,hb⟩)]
   have KW:=lH (kw.alloc (.cells #[.int .i64 y.id,.string y.key,.int .u32 y.word] 49))
   clear hc1 hy h kw
   by_cases b1:y.id<1
   ·have HB:=lH (BAD (by unfold badN;simp [b1]))
    clear BAD
    go_wp2_with fail
    go_ret
    exact ⟨by rw [HB.out];rfl,KW.out⟩
   by_cases b2:2147483647<y.id
   ·have HB:=lH (BAD (by unfold badN;simp [b2]))
    clear BAD
    go_wp2_with fail
    go_ret
    exact ⟨by rw [HB.out];rfl,KW.out⟩
   have BAD:=lH BAD
   go_wp2_with fail
   refine (vkey_p _ _).mono ?_
   rintro e w2 ⟨rfl,rfl⟩
   by_cases b3:(y.key.size:Int)≤64
   ·have d3:decide ((y.key.size:Int)≤64)=true:=by simpa using b3
    rw [d3]
    clear d3
    go_wp2_with fail
    refine (wvalid_p _ _).mono ?_
    rintro e w2 ⟨rfl,rfl⟩
    cases b4:validN y.word with
    | true =>
     have BG:Hid (badN y=false):=lH (by unfold badN;simp [b1,b2,b3,b4])
     clear BAD b4 b3
     go_wp2_with fail
     refine ⟨⟨k+1,by omega,by go_num,KW.out,fun k' y' hk' hy'=>?_⟩,by simp [intOf];omega⟩
     rcases Nat.lt_or_ge k' k with h | h
     ·exact HG.out k' y' h hy'
     ·obtain rfl:k'=k:=by omega
      rw [Option.some.inj (hy'.symm.trans HY.out)]
      exact BG.out
    | false =>
     have HB:=lH (BAD.out (by unfold badN;simp [b4]))
     clear BAD b4
     go_wp2_with fail
     go_ret
     exact ⟨by rw [HB.out];rfl,KW.out⟩
   ·have d3:decide ((y.key.size:Int)≤64)=false:=by simpa using b3
    have HB:=lH (BAD.out (by unfold badN;simp [b3]))
    rw [d3]
    clear d3 BAD b3
    go_wp2_with fail
    go_ret
    exact ⟨by rw [HB.out];rfl,KW.out⟩
  ·obtain rfl:k=n:=by omega
   have HNB:Hid (l.any badN=false):=lH (by
    rw [List.any_eq_false]
    intro y hy
    obtain ⟨j,hj,he⟩:=List.mem_iff_getElem.1 hy
    rw [HG.out j y (by rw [← HL.out];exact hj) (by rw [← he];simp)]
    simp)
   clear HG hlt hk
   obtain ⟨w1,rfl⟩:∃ w1:World,w1=wo:=⟨_,rfl⟩
   have hs:=lH h
   clear h
   go_wp2_with fail
   go_loopw [39] (fun i wr=>NdRel k l w i wr) (fun i _=>k-(intOf i).toNat)
   case atStart=>exact ⟨0,by omega,rfl,kw,by intro _ _ h;omega⟩
   case round =>
    clear kw
    obtain ⟨m,hm2,rfl,kw,hgood⟩:=hrel
    have HG:=lH hgood
    clear hgood
    obtain ⟨wo,rfl⟩:∃ wo:World,wo=wr:=⟨_,rfl⟩
    by_cases hlt:m<k
    ·obtain ⟨x1,o1,x,rfl,hx1,hx,hc1⟩:=(hs.out.nx kw).at hlt
     have e0:wo.cell? ⟨x1,o1+m*3,none⟩=some (.int .i64 x.id):=hc1 0 _ rfl
     have e1:wo.cell? ⟨x1,o1+m*3+1,none⟩=some (.string x.key):=hc1 1 _ rfl
     have e2:wo.cell? ⟨x1,o1+m*3+1+1,none⟩=some (.int .u32 x.word):=by simpa [Nat.add_assoc] using hc1 2 _ rfl
     have e2':wo.cell? ⟨x1,o1+m*3+2,none⟩=some (.int .u32 x.word):=hc1 2 _ rfl
     have HX:=lH hx
     have k2:=Ex.new wo (.cells #[.int .i64 x.id,.string x.key,.int .u32 x.word] 49)
     have B2:=Blk.new wo [.int .i64 x.id,.string x.key,.int .u32 x.word] 49
     obtain ⟨w2,hw2⟩:∃ w2,w2=wo.alloc (.cells #[.int .i64 x.id,.string x.key,.int .u32 x.word] 49):=⟨_,rfl⟩
     obtain ⟨g,hg⟩:∃ g,g=wo.heap.size:=⟨_,rfl⟩
     have B2:Blk w2 g [.int .i64 x.id,.string x.key,.int .u32 x.word] 49:=by rw [hw2,hg];exact B2
     rw [← hw2] at k2
     have KW:=lH (kw.nx k2)
     have HW2:=lH hw2
     have HGG:=lH hg
     have hmc:(m:Int)≤(c:Int):=by omega
     have S2:=(hs.out.nx (kw.nx k2)).take (m:=m) (by omega)
     have PG:=check1_p g x w2 B2
     clear hc1 hx hx1 kw k2 hw2 hg B2
     go_upto_region 12 with fail
     rw [← HGG.out,← HW2.out]
     go_wp2_with fail
     (with_reducible refine (contf_n 110 #[.pointer (some ⟨g,0,none⟩)] (fun y=>eqN y x) EG.out _ _ _ _ _ S2 (by omega) PG).mono ?_)
     rintro e w3 ⟨rfl,k3⟩
     have K3:=lH (KW.out.nx k3)
     clear S2 PG k3 e0 e1 e2 e2'
     cases hb:(l.take m).any (fun y=>eqN y x) with
     | true =>
      have HC:Hid (checkN l=5):=lH (by
       unfold checkN
       rw [if_neg (by rw [HL.out];exact h64),HNB.out,if_neg (by simp),if_pos]
       obtain ⟨y,hy,he⟩:=List.any_eq_true.1 hb
       obtain ⟨q,hq⟩:=List.mem_iff_getElem?.1 hy
       rw [List.getElem?_take] at hq
       split at hq
       ·rename_i hqm
        exact (dupN_iff l).2 ⟨m,q,x,y,hqm,HX.out,hq,by rw [eqN_symm];exact he⟩
       ·cases hq)
      clear hb
      go_wp2_with fail
      go_ret
      exact ⟨by rw [HC.out];rfl,K3.out⟩
     | false =>
      have HB:=lH hb
      clear hb
      go_wp2_with fail
      refine ⟨⟨m+1,by omega,by go_num,K3.out,fun i' x' hi' hx'=>?_⟩,by simp [intOf];omega⟩
      rcases Nat.lt_or_ge i' m with h | h
      ·exact HG.out i' x' h hx'
      ·obtain rfl:i'=m:=by omega
       rw [Option.some.inj (hx'.symm.trans HX.out)]
       exact HB.out
    ·obtain rfl:m=k:=by omega
     have HC:Hid (checkN l=0):=lH (by
      unfold checkN
      rw [if_neg (by rw [HL.out];exact h64),HNB.out,if_neg (by simp),if_neg]
      intro hd
      obtain ⟨i,q,x,y,hq,hx,hy,he⟩:=(dupN_iff l).1 hd
      have hi:=HG.out i x (by have:=(List.getElem?_eq_some_iff.1 hx).1;have:=HL.out;omega) hx
      rw [List.any_eq_false] at hi
      refine hi y ?_ (by rw [eqN_symm];exact he)
      exact List.mem_iff_getElem?.2 ⟨q,by rw [List.getElem?_take,if_pos hq];exact hy⟩)
     have KW:=lH kw
     clear HG hlt hm2 HNB kw
     go_wp2_with fail
     go_ret
     exact ⟨by rw [HC.out];rfl,KW.out⟩
end Go.Proofs.YtalmjklljofhbaaGreatDoor
