/- Texts for TopRepairProof. -/
import Derived.Shelf.Abstract
import Derived.Test.YthcholmhmcpooaaGreatDoorTopRepairProofL3
set_option linter.unusedSimpArgs false
set_option linter.unusedVariables false

namespace Go.Proofs.YthcholmhmcpooaaGreatDoor
open Go.RowKit
def PredG (g:Nat) (lb:Array Value) (p:Nd→Bool) (w:World):Prop:=∀ (x:Nd) (w':World),Ex w w'→Calls Tryz.prog g (#[x.val]++lb) w' fun e w''=>e=.returned (.bool (p x))∧Ex w' w''
theorem PredG.nx {g:Nat} {lb:Array Value} {p:Nd→Bool} {w w':World} (h:PredG g lb p w) (k:Ex w w'):PredG g lb p w':=fun x w'' k2=>h x w'' (k.nx k2)
def idxB (p:Nd→Bool) (l:List Nd):Int:=if l.findIdx p<l.length then (l.findIdx p:Int) else -1
theorem idxB_of {p:Nd→Bool} {l:List Nd} {k:Nat} {y:Nd} (hy:l[k]?=some y) (hp:p y=true) (hno:∀ j z,j<k→l[j]?=some z→p z=false):idxB p l=k∧k<l.length:=by
 have hk:=(List.getElem?_eq_some_iff.1 hy)
 have hk1:=hk.1
 have:l.findIdx p=k:=by
  rw [List.findIdx_eq hk.1]
  refine ⟨by rw [hk.2];exact hp,fun j hj=>?_⟩
  exact hno j _ hj (List.getElem?_eq_getElem (by omega))
 unfold idxB
 rw [this,if_pos hk.1]
 exact ⟨rfl,hk.1⟩
theorem idxB_none {p:Nd→Bool} {l:List Nd} (hno:∀ j z,j<l.length→l[j]?=some z→p z=false):idxB p l = -1:=by
 unfold idxB
 rw [if_neg]
 rw [List.findIdx_lt_length]
 rintro ⟨x,hx,hp⟩
 obtain ⟨j,hj⟩:=List.mem_iff_getElem?.1 hx
 rw [hno j x (List.getElem?_eq_some_iff.1 hj).1 hj] at hp
 cases hp
theorem idxB_any (p:Nd→Bool) (l:List Nd):decide (0≤idxB p l)=l.any p:=by
 unfold idxB
 split
 ·rename_i h
  rw [List.findIdx_lt_length] at h
  have h1:l.any p=true:=List.any_eq_true.2 h
  rw [h1];simp
 ·rename_i h
  rw [List.findIdx_lt_length] at h
  have h1:l.any p=false:=by
   rw [List.any_eq_false]
   intro x hx hp
   exact h ⟨x,hx,hp⟩
  rw [h1];simp
def IdRel (p:Nd→Bool) (l:List Nd) (n:Nat) (w:World) (i:Value) (wr:World):Prop :=
 ∃ k:Nat,k≤n∧i=.int .i64 k∧Ex w wr∧∀ j z,j<k→l[j]?=some z→p z=false
set_option maxRecDepth 100000 in
set_option maxHeartbeats 2000000 in
theorem idxf_n (g:Nat) (lb:Array Value) (p:Nd→Bool) (eg:∀ args w,(callFunc g args).run Tryz.prog w=.ok (.enter g args) w) (a:Option Addr) (n c:Nat) (l:List Nd) (w:World) (h:Sl 3 encN w a n l) (hn:n≤1000000) (hp:PredG g lb p w) :
  Calls Tryz.prog 123 #[.slice a n c,.func (.func g) #[] lb] w fun e w'=>e=.returned (.int .i64 (idxB p l))∧Ex w w':=by
 have HL:=lH h.len
 have HP:=lH hp
 have hs:=lH h
 clear h hp
 go_enter Tryz.func123,Tryz.ntmps123
 go_wp2
 go_loopw [8] (fun i wr=>IdRel p l n w i wr) (fun i _=>n-(intOf i).toNat)
 case atStart=>exact ⟨0,by omega,rfl,Ex.refl _,by intro j z h;omega⟩
 case round =>
  obtain ⟨k,hk,rfl,kw,hno⟩:=hrel
  have HNO:=lH hno
  clear hno
  obtain ⟨wo,rfl⟩:∃ wo:World,wo=wr:=⟨_,rfl⟩
  by_cases hlt:k<n
  ·obtain ⟨x1,o1,y,rfl,hx1,hy,hc1⟩:=(hs.out.nx kw).at hlt
   have e0:wo.cell? ⟨x1,o1+k*3,none⟩=some (.int .i64 y.id):=hc1 0 _ rfl
   have e1:wo.cell? ⟨x1,o1+k*3+1,none⟩=some (.string y.key):=hc1 1 _ rfl
   have e2:wo.cell? ⟨x1,o1+k*3+1+1,none⟩=some (.int .u32 y.word):=by simpa [Nat.add_assoc] using hc1 2 _ rfl
   have e2':wo.cell? ⟨x1,o1+k*3+2,none⟩=some (.int .u32 y.word):=hc1 2 _ rfl
   have HY:=lH hy
   have hc:=HP.out y wo kw
   have KW:=lH kw
   clear hc1 hy kw
   unfold Nd.val at hc
   go_wp2_with fail
   refine hc.mono ?_
   rintro e w2 ⟨rfl,k2⟩
   have K2:=lH (KW.out.nx k2)
   clear hc k2 e0 e1 e2 e2'
   cases hb:p y with
   | true =>
    have HI:Hid (idxB p l=k):=lH (idxB_of HY.out hb HNO.out).1
    clear hb
    go_wp2_with fail
    go_ret
    exact ⟨by rw [HI.out];rfl,K2.out⟩
   | false =>
    have HB:=lH hb
    clear hb
    go_wp2_with fail
    refine ⟨⟨k+1,by omega,by go_num,K2.out,fun j z hj hz=>?_⟩,by simp [intOf];omega⟩
    rcases Nat.lt_or_ge j k with h | h
    ·exact HNO.out j z h hz
    ·obtain rfl:j=k:=by omega
     rw [Option.some.inj (hz.symm.trans HY.out)]
     exact HB.out
  ·obtain rfl:k=n:=by omega
   have HI:Hid (idxB p l = -1):=lH (idxB_none (fun j z hj hz=>HNO.out j z (by rw [← HL.out];exact hj) hz))
   have KW:=lH kw
   clear kw hk hlt
   go_wp2_with fail
   go_ret
   exact ⟨by rw [HI.out];rfl,KW.out⟩
theorem contf_n (g:Nat) (lb:Array Value) (p:Nd→Bool) (eg:∀ args w,(callFunc g args).run Tryz.prog w=.ok (.enter g args) w) (a:Option Addr) (n c:Nat) (l:List Nd) (w:World) (h:Sl 3 encN w a n l) (hn:n≤1000000) (hp:PredG g lb p w) :
  Calls Tryz.prog 132 #[.slice a n c,.func (.func g) #[] lb] w fun e w'=>e=.returned (.bool (l.any p))∧Ex w w':=by
 have HA:=lH (idxB_any p l)
 go_enter Tryz.func132,Tryz.ntmps132
 go_wp2_with fail
 (with_reducible refine (idxf_n g lb p eg _ _ _ _ _ h hn hp).mono ?_)
 rintro e w1 ⟨rfl,kk⟩
 clear h hp
 go_wp2_with fail
 go_ret
 exact ⟨by rw [← HA.out];rfl,kk⟩
theorem find1_p (gx:Nat) (id:Int) (w:World) (hx:Blk w gx [.int .i64 id] 3):PredG 124 #[.pointer (some ⟨gx,0,none⟩)] (fun x=>x.id==id) w:=by
 intro x w' kk
 have q0:=(hx.nx kk).cell 0 _ rfl
 have hg:=(hx.nx kk).lt
 have hne:¬ gx=w'.heap.size:=by omega
 unfold Nd.val
 clear hx kk
 go_enter Tryz.func124,Tryz.ntmps124
 go_wp2
 go_ret
 exact ⟨rfl,(Ex.refl _).alloc _⟩
theorem idxB_find (l:List Nd) (id:Int):(∃ (k:Nat) (y:Nd),idxB (fun x=>x.id==id) l=k∧k<l.length∧l[k]?=some y∧findN l id=(y,true))∨(idxB (fun x=>x.id==id) l = -1∧findN l id=(Nd.zero,false)):=by
 unfold findN idxB
 by_cases h:l.findIdx (fun x=>x.id==id)<l.length
 ·refine .inl ⟨l.findIdx (fun x=>x.id==id),l[l.findIdx (fun x=>x.id==id)],by rw [if_pos h],h,List.getElem?_eq_getElem h,?_⟩
  rw [List.find?_eq_getElem?_findIdx,List.getElem?_eq_getElem h]
 ·refine .inr ⟨by rw [if_neg h],?_⟩
  rw [List.find?_eq_getElem?_findIdx,List.getElem?_eq_none (by omega)]
def NbPost (r:Nd×Bool) (w:World) (e:Ending) (w':World):Prop:=e=.returned (.tuple #[r.1.val,.bool r.2])∧Ex w w'
set_option maxRecDepth 100000 in
set_option maxHeartbeats 2000000 in
theorem find_p (a:Option Addr) (n c:Nat) (l:List Nd) (id:Int) (w:World) (h:Sl 3 encN w a n l) (hn:n≤1000000) :
  Calls Tryz.prog 51 #[.slice a n c,.int .i64 id] w (NbPost (findN l id) w):=by
 have HL:=lH h.len
 have hs:=lH h
 have k1:=Ex.new w (.cells #[.int .i64 id] 3)
 have B1:=Blk.new w [.int .i64 id] 3
 have k2:=k1.alloc (.cells #[.int .i64 0,.string ⟨#[]⟩,.int .u32 0] 36)
 have B2:=Blk.new (w.alloc (.cells #[.int .i64 id] 3)) [.int .i64 0,.string ⟨#[]⟩,.int .u32 0] 36
 have B1:=B1.nx (Ex.new _ (.cells #[.int .i64 0,.string ⟨#[]⟩,.int .u32 0] 36))
 obtain ⟨w1,hw1⟩:∃ w1,w1=(w.alloc (.cells #[.int .i64 id] 3)).alloc (.cells #[.int .i64 0,.string ⟨#[]⟩,.int .u32 0] 36):=⟨_,rfl⟩
 obtain ⟨g,hg⟩:∃ g,g=w.heap.size+1:=⟨_,rfl⟩
 obtain ⟨gi,hgi⟩:∃ gi,gi=w.heap.size:=⟨_,rfl⟩
 have B2:Blk w1 g [.int .i64 0,.string ⟨#[]⟩,.int .u32 0] 36:=by rw [hw1,hg];simpa using B2
 have B1:Blk w1 gi [.int .i64 id] 3:=by rw [hw1,hgi];exact B1
 rw [← hw1] at k2
 have hgn:w.heap.size≤g:=by omega
 have eg:∀ args w,(callFunc 124 args).run Tryz.prog w=.ok (.enter 124 args) w:=enters_of Tryz.func124 (by kernel_rfl) rfl
 have HW1:=lH hw1
 have HG:=lH hg
 have HGI:=lH hgi
 have EG:=lH eg
 clear h hw1 hg hgi k1 eg
 go_enter Tryz.func51,Tryz.ntmps51
 go_upto_region 1 with fail
 rw [← HG.out,← HW1.out,← HGI.out]
 go_wp2_with fail
 (with_reducible refine (idxf_n 124 #[.pointer (some ⟨gi,0,none⟩)] (fun x=>x.id==id) EG.out _ _ _ _ _ (hs.out.nx k2) hn (find1_p gi id w1 B1)).mono ?_)
 rintro e w3 ⟨rfl,k3⟩
 have B3:=B2.nx k3
 have q0:=B3.cell 0 _ rfl
 have q1:=B3.cell 1 _ rfl
 have q2:=B3.cell 2 _ rfl
 have z0:=B3.free 0
 have z1:=B3.free 1
 have z2:=B3.free 2
 have kk:=k2.nx k3
 have KE:Hid (∀ v0 v1 v2,Ex w (((w3.setCell ⟨g,0,none⟩ v0).setCell ⟨g,1,none⟩ v1).setCell ⟨g,2,none⟩ v2)):=lH (fun v0 v1 v2=>((kk.setNew (p:=⟨g,0,none⟩) _ hgn).setNew (p:=⟨g,1,none⟩) _ hgn).setNew (p:=⟨g,2,none⟩) _ hgn)
 have hgw:=B3.lt
 rcases idxB_find l id with ⟨k,y,hi,hk,hy,hf⟩ | ⟨hi,hf⟩
 ·rw [hi]
  have HF:=lH hf
  obtain ⟨x1,o1,y',ha,hx1,hy',hc1⟩:=(hs.out.nx kk).at (j:=k) (by rw [← HL.out];exact hk)
  obtain rfl:y=y':=Option.some.inj (hy.symm.trans hy')
  subst ha
  have e0:w3.cell? ⟨x1,o1+k*3,none⟩=some (.int .i64 y.id):=hc1 0 _ rfl
  have e1:w3.cell? ⟨x1,o1+k*3+1,none⟩=some (.string y.key):=hc1 1 _ rfl
  have e2:w3.cell? ⟨x1,o1+k*3+1+1,none⟩=some (.int .u32 y.word):=by simpa [Nat.add_assoc] using hc1 2 _ rfl
  have hkn:(k:Int)<(n:Int):=by have:=HL.out;omega
  have hk0:¬ (k:Int)<0:=by omega
  clear hi hf hy hy' hc1 B1 B2 B3 k2 k3 kk hk
  go_wp2_with fail
  refine bodyPost_ret (v:=.tuple #[.agg #[.int .i64 y.id,.string y.key,.int .u32 y.word],.bool true]) (by simp [results,Tryz.results51,go_sem, *]) rfl ⟨by rw [HF.out];rfl,KE.out _ _ _⟩
 ·rw [hi]
  have HF:=lH hf
  clear hi hf B1 B2 B3 k2 k3 kk
  go_wp2_with fail
  refine bodyPost_ret (v:=.tuple #[.agg #[.int .i64 0,.string ⟨#[]⟩,.int .u32 0],.bool false]) (by simp [results,Tryz.results51,go_sem, *]) rfl ⟨by rw [HF.out];rfl,KE.out _ _ _⟩
end Go.Proofs.YthcholmhmcpooaaGreatDoor
