/- Shared texts. -/
import Derived.Test.YtalmjklljofhbaaDoorSdAll15
import Derived.Test.YtalmjklljofhbaaDoorSdAll22
set_option linter.unusedSimpArgs false
set_option linter.unusedVariables false

namespace Go.Proofs.YtalmjklljofhbaaDoor
open Go.RowKit
theorem build_ok0 {l:List Nd} (h0:checkN l=0) {h:Nat} (hh:h≤16):(buildN l (h:Int)).2=0∧(buildN l (h:Int)).1.length=l.length∧∀ c∈(buildN l (h:Int)).1,c.2.length=h+1:=by
 unfold buildN
 rw [if_neg (by rw [h0];simp),if_neg (by unfold lvlN;simp;omega)]
 refine ⟨rfl,by simp [sortN_length],?_⟩
 intro c hc
 obtain ⟨x,_,rfl⟩:=List.mem_map.1 hc
 rw [rowN_len]
 omega
theorem drop_len {l:List Nd} (h0:checkN l=0) {x:Nd} (hx:x∈l):(dropN l x.id).length+1=l.length:=by
 obtain ⟨A,B,rfl⟩:=List.append_of_mem hx
 have hk:=keys_pw (check_keys h0)
 rw [drop_app,drop_yes _ _ rfl,drop_none,drop_none]
 ·simp;omega
 ·intro y hy
  exact fun h=>((List.pairwise_cons.1 (List.pairwise_append.1 hk).2.1).1 y hy).2 h.symm
 ·intro y hy
  exact ((List.pairwise_append.1 hk).2.2 y hy x (by simp)).2
def IjRel (l:List Int) (v:Int) (n:Nat) (w:World) (i:Value) (wr:World):Prop :=
 ∃ k:Nat,k≤n∧i=.int .i64 k∧Ex w wr∧∀ j z,j<k→l[j]?=some z→z≠v
set_option maxHeartbeats 1000000 in
theorem index_i (a:Option Addr) (n c:Nat) (l:List Int) (v:Int) (w:World) (h:Sl 1 encI w a n l) (hn:n≤4000000000000000000) :
  Calls Tryd.prog 55 #[.slice a n c,.int .i64 v] w fun e w'=>∃ r:Int,e=.returned (.int .i64 r)∧decide (0≤r)=l.contains v∧Ex w w':=by
 have HL:=lH h.len
 have hs:=lH h
 clear h
 go_enter Tryd.func55,Tryd.ntmps55
 go_wp2
 go_loopw [8] (fun i wr=>IjRel l v n w i wr) (fun i _=>n-(intOf i).toNat)
 case atStart=>exact ⟨0,by omega,rfl,Ex.refl _,by intro j z h;omega⟩
 case round =>
  obtain ⟨k,hk,rfl,kw,hno⟩:=hrel
  have HNO:=lH hno
  clear hno
  obtain ⟨wo,rfl⟩:∃ wo:World,wo=wr:=⟨_,rfl⟩
  by_cases hlt:k<n
  ·obtain ⟨x1,o1,y,rfl,hx1,hy,hc1⟩:=(hs.out.nx kw).at hlt
   have e0:wo.cell? ⟨x1,o1+k,none⟩=some (.int .i64 y):=by simpa using hc1 0 _ rfl
   have HY:=lH hy
   have KW:=lH kw
   clear hc1 hy kw
   by_cases hv:y=v
   ·have HC:Hid (decide ((0:Int)≤(k:Int))=l.contains v):=lH (by
     have h1:l.contains v=true:=by rw [List.contains_iff_mem,← hv];exact List.mem_of_getElem? HY.out
     rw [h1];simp)
    have hb:(v==y)=true:=by rw [hv];simp
    clear hv
    go_wp2_with fail
    go_ret
    exact ⟨k,rfl,HC.out,KW.out⟩
   ·have HV:=lH hv
    have hb:(v==y)=false:=by rw [beq_eq_false_iff_ne];exact fun h=>hv h.symm
    clear hv
    go_wp2_with fail
    refine ⟨⟨k+1,by omega,by go_num,KW.out,fun j z hj hz=>?_⟩,by simp [intOf];omega⟩
    rcases Nat.lt_or_ge j k with h | h
    ·exact HNO.out j z h hz
    ·obtain rfl:j=k:=by omega
     rw [Option.some.inj (hz.symm.trans HY.out)]
     exact HV.out
  ·obtain rfl:k=n:=by omega
   have HC:Hid (decide ((0:Int)≤-1)=l.contains v):=lH (by
    have h1:l.contains v=false:=by
     cases hc:l.contains v with
     | false=>rfl
     | true =>
      rw [List.contains_iff_mem] at hc
      obtain ⟨j,hj⟩:=List.mem_iff_getElem?.1 hc
      exact absurd rfl (HNO.out j v (by rw [← HL.out];exact (List.getElem?_eq_some_iff.1 hj).1) hj)
    rw [h1];rfl)
   have KW:=lH kw
   clear kw hk hlt
   go_wp2_with fail
   go_ret
   exact ⟨-1,rfl,HC.out,KW.out⟩
theorem contains_i (a:Option Addr) (n c:Nat) (l:List Int) (v:Int) (w:World) (h:Sl 1 encI w a n l) (hn:n≤4000000000000000000) :
  Calls Tryd.prog 28 #[.slice a n c,.int .i64 v] w fun e w'=>e=.returned (.bool (l.contains v))∧Ex w w':=by
 go_enter Tryd.func28,Tryd.ntmps28
 go_wp2_with fail
 (with_reducible refine (index_i _ _ _ _ _ _ h hn).mono ?_)
 rintro e w1 ⟨r,rfl,hr,kk⟩
 have HR:=lH hr
 clear h hr
 go_wp2_with fail
 go_ret
 exact ⟨by rw [← HR.out];rfl,kk⟩
theorem wo1_p (gx:Nat) (a:Option Addr) (n c:Nat) (ids:List Int) (w:World) (hx:Blk w gx [.slice a n c] 22) (hs:Sl 1 encI w a n ids) (hn:n≤4000000000000000000) :
  PredG 27 #[.pointer (some ⟨gx,0,none⟩)] (fun x=>ids.contains x.id) w:=by
 intro x w' kk
 have hg:=(hx.nx kk).lt
 have hne:¬ gx=w'.heap.size:=by omega
 have k2:=Ex.new w' (.cells #[.int .i64 x.id,.string x.key,.int .u32 x.word] 38)
 have S2:=lH ((hs.nx kk).nx k2)
 have K2:=lH k2
 have q0:=(hx.nx kk).cell 0 _ rfl
 unfold Nd.val
 clear hx kk hs k2
 go_enter Tryd.func27,Tryd.ntmps27
 go_wp2_with fail
 (with_reducible refine (contains_i _ _ _ _ _ _ S2.out hn).mono ?_)
 rintro e w1 ⟨rfl,k3⟩
 have K3:=lH (K2.out.nx k3)
 clear k3
 go_wp2_with fail
 go_ret
 exact ⟨by simp,K3.out⟩
theorem own_setc {base:Nat} {w:World} {g m cap j:Nat} {L:List Nd} (h:OwnL 3 encN 38 base w (.slice (some ⟨g,0,none⟩) m cap) L) (v:Value) (hj:m*3≤j) :
  OwnL 3 encN 38 base (w.setCell ⟨g,j,none⟩ v) (.slice (some ⟨g,0,none⟩) m cap) L:=by
 rcases h.2 with ⟨h1,_⟩ | ⟨g',cap',cur,e1,e2,e3,e4,e5,e6,e7⟩
 ·cases h1
 ·obtain ⟨rfl,hLn,rfl⟩:g=g'∧m=L.length∧cap=cap':=by simpa using e1
  refine ⟨h.1,.inr ⟨g,cap,_,e1,e2,heap_set e3 j v,e4,e5,by simp [e6],?_⟩⟩
  rw [← e7,Array.toList_setIfInBounds,List.take_set_of_le (by rw [← hLn];exact hj)]
theorem own_setcs {base:Nat} {g m cap:Nat} {L:List Nd}:∀ (vs:List Value) (w:World) (j:Nat),m*3≤j→OwnL 3 encN 38 base w (.slice (some ⟨g,0,none⟩) m cap) L →
  OwnL 3 encN 38 base (w.setCells g j vs) (.slice (some ⟨g,0,none⟩) m cap) L
 | [],_,_,_,h=>h
 | v::vs,w,j,hj,h=>own_setcs vs _ (j+1) (by omega) (own_setc h v hj)
theorem own_cutn {base:Nat} {w:World} {g n m cap:Nat} {L:List Nd} (h:OwnL 3 encN 38 base w (.slice (some ⟨g,0,none⟩) n cap) L) (hm:m≤L.length) :
  OwnL 3 encN 38 base w (.slice (some ⟨g,0,none⟩) m cap) (L.take m):=by
 have hml:(L.take m).length=m:=by rw [List.length_take];omega
 rcases h.2 with ⟨h1,_⟩ | ⟨g',cap',cur,e1,e2,e3,e4,e5,e6,e7⟩
 ·cases h1
 ·obtain ⟨rfl,hLn,rfl⟩:g=g'∧n=L.length∧cap=cap':=by simpa using e1
  refine ⟨by rw [flatN_len (sz:=3) (fun _=>rfl)],.inr ⟨g,cap,cur,by simp [hml],e2,e3,by omega,e5,e6,?_⟩⟩
  rw [hml,flatN_take (sz:=3) (fun _=>rfl),← e7,List.take_take,Nat.min_eq_left (Nat.mul_le_mul_right _ hm)]
theorem own_cell {base:Nat} {w:World} {g n cap:Nat} {L:List Nd} (h:OwnL 3 encN 38 base w (.slice (some ⟨g,0,none⟩) n cap) L) (j:Nat) (hj:j<n*3):(w.cell? ⟨g,j,none⟩).isSome=true∧w.frozen? ⟨g,j,none⟩=false:=by
 rcases h.2 with ⟨h1,_⟩ | ⟨g',cap',cur,e1,e2,e3,e4,e5,e6,e7⟩
 ·cases h1
 ·obtain ⟨rfl,hLn,rfl⟩:g=g'∧n=L.length∧cap=cap':=by simpa using e1
  have hsz:j<cur.size:=by rw [e6];omega
  exact ⟨by simp [World.cell?,e3,hsz],by simp [World.frozen?,e3]⟩
theorem Tryd.zeroN (w:World):(zeroValue 38).run Tryd.prog w=.ok (.agg #[.int .i64 0,.string ⟨#[]⟩,.int .u32 0]) w:=by kernel_rfl
theorem run_clear_row {base:Nat} {w:World} {g n m cap c':Nat} {L:List Nd} (h:OwnL 3 encN 38 base w (.slice (some ⟨g,0,none⟩) n cap) L) (hm:m<n) (ty:TypeId) :
  ∃ vs,(Builtin.clear_ #[25] ty #[.slice (some ⟨g,m*3,none⟩) (n-m) c']).run Tryd.prog w=.ok (.tuple #[]) (w.setCells g (m*3) vs):=by
 obtain ⟨vs,hvs⟩:∃ vs,vs=(Builtin.zeroCells (Value.cells (.agg #[.int .i64 0,.string ⟨#[]⟩,.int .u32 0])) (n-m)).toList:=⟨_,rfl⟩
 have hcells:(Value.cells (.agg #[.int .i64 0,.string ⟨#[]⟩,.int .u32 0]))=#[.int .i64 0,.string ⟨#[]⟩,.int .u32 0]:=rfl
 have hl:vs.length=(n-m)*3:=by rw [hvs,hcells];simp [Builtin.zeroCells]
 have h1:∀ v∈vs,v.oneCell'=true:=by
  intro v hv
  rw [hvs,hcells] at hv
  simp only [Builtin.zeroCells,Array.toList_map,List.mem_map] at hv
  obtain ⟨i,_,rfl⟩:=hv
  have hi:i % 3<3:=Nat.mod_lt _ (by omega)
  show ((#[Value.int .i64 0,.string ⟨#[]⟩,.int .u32 0]:Array Value)[i % 3]!).oneCell'=true
  generalize i % 3=q at hi
  match q,hi with
  | 0,_=>rfl
  | 1,_=>rfl
  | 2,_=>rfl
 have hst:=run_storeCells_cells (P:=Tryd.prog) g (m*3) vs 0 w (by intro j hj;rw [hl] at hj;exact (own_cell h _ (by omega)).1) (by intro j hj;rw [hl] at hj;exact (own_cell h _ (by omega)).2) h1
 simp only [Nat.add_zero] at hst
 obtain ⟨q,hq⟩:∃ q,n-m=q+1:=⟨n-m-1,by omega⟩
 refine ⟨vs,?_⟩
 rw [hq] at hvs ⊢
 simp [Builtin.clear_,run_underlying Tryd.underlying25,Tryd.zeroN,← hvs,hst]
def DlRel (l:List Nd) (p:Nd→Bool) (g cap base n:Nat) (w:World) (i j:Value) (wr:World):Prop :=
 ∃ (k:Nat) (X:List Nd),k≤n∧j=.int .i64 k∧i=.int .i64 (((l.take k).filter fun x=>!p x).length:Nat)∧((l.take k).filter fun x=>!p x).length<k∧X.length=n ∧
  X.take ((l.take k).filter fun x=>!p x).length=(l.take k).filter (fun x=>!p x)∧X.drop k=l.drop k∧OwnL 3 encN 38 base wr (.slice (some ⟨g,0,none⟩) n cap) X∧Ex w wr
theorem filt_snoc (l:List Nd) (q:Nd→Bool) (k:Nat) (y:Nd) (hy:l[k]?=some y):(l.take (k+1)).filter q=(l.take k).filter q++(if q y=true then [y] else []):=by
 rw [List.take_add_one,hy,List.filter_append]
 congr 1
 simp only [Option.toList_some,List.filter_cons,List.filter_nil]
theorem set_mid {X:List Nd} {i k:Nat} {Y Z:List Nd} {y:Nd} (h1:X.take i=Y) (h2:X.drop k=Z) (hl:Y.length=i) (hi:i<k) (hk:k<X.length):(X.set i y).take (i+1)=Y++[y]∧(X.set i y).drop (k+1)=Z.drop 1:=by
 refine ⟨?_,?_⟩
 ·rw [List.take_set,List.take_succ_eq_append_getElem (by omega),h1,List.set_append_right _ _ (by omega),hl,Nat.sub_self]
  rfl
 ·rw [List.drop_set_of_lt (by omega),← h2,List.drop_drop]
theorem idx_filter {l:List Nd} {p:Nd→Bool} {k:Nat} (hno:∀ j z,j<k→l[j]?=some z→p z=false):(l.take k).filter (fun x=>!p x)=l.take k:=by
 rw [List.filter_eq_self]
 intro x hx
 obtain ⟨j,hj⟩:=List.mem_iff_getElem?.1 hx
 rw [List.getElem?_take] at hj
 split at hj
 ·rw [hno j x (by assumption) hj];rfl
 ·cases hj
theorem idxB_cases (l:List Nd) (p:Nd→Bool):(∃ (k:Nat) (y:Nd),idxB p l=k∧k<l.length∧l[k]?=some y∧p y=true∧(l.take k).filter (fun x=>!p x)=l.take k)∨(idxB p l = -1∧l.filter (fun x=>!p x)=l):=by
 unfold idxB
 by_cases h:l.findIdx p<l.length
 ·refine .inl ⟨l.findIdx p,l[l.findIdx p],by rw [if_pos h],h,List.getElem?_eq_getElem h,List.findIdx_getElem,idx_filter (fun j z hj hz=>?_)⟩
  have:=List.not_of_lt_findIdx hj
  rw [List.getElem?_eq_getElem (by omega)] at hz
  cases hz
  simpa using this
 ·refine .inr ⟨by rw [if_neg h],?_⟩
  rw [List.filter_eq_self]
  intro x hx
  cases hp:p x with
  | false=>rfl
  | true=>exact absurd (List.findIdx_lt_length.2 ⟨x,hx,hp⟩) h
def NdPost (l:List Nd) (base:Nat) (w:World) (e:Ending) (w':World):Prop:=∃ v:Value,e=.returned v∧OwnL 3 encN 38 base w' v l∧Ex w w'
set_option maxRecDepth 100000 in
set_option maxHeartbeats 4000000 in
theorem delete_n (gf:Nat) (lb:Array Value) (p:Nd→Bool) (eg:∀ args w,(callFunc gf args).run Tryd.prog w=.ok (.enter gf args) w) (v:Value) (l:List Nd) (w0 w:World) (h:OwnL 3 encN 38 w0.heap.size w v l) (hn:l.length≤1000) (k0:Ex w0 w) (hp:PredG gf lb p w0) :
  Calls Tryd.prog 25 #[v,.func (.func gf) #[] lb] w (NdPost (l.filter fun x=>!p x) w0.heap.size w0):=by
 obtain ⟨a,cap,rfl,S,hc,hm,_⟩:=h.slf (fun _=>rfl)
 have HP:=lH hp
 have EG:=lH eg
 have H:=lH h
 have S:=lH S.sl
 have K0:=lH k0
 obtain ⟨n,hnl⟩:∃ n,n=l.length:=⟨_,rfl⟩
 rw [← hnl] at H S hc hn ⊢
 have HN:=lH hnl
 clear h hp eg k0 hnl
 go_enter Tryd.func25,Tryd.ntmps25
 go_wp2_with fail
 (with_reducible refine (idxf_n gf lb p EG.out _ _ _ _ _ S.out (by omega) (HP.out.nx K0.out)).mono ?_)
 rintro e w1 ⟨rfl,kk⟩
 have K1:=lH (K0.out.nx kk)
 have H1:=lH (H.out.nx kk)
 clear kk H S K0
 rcases idxB_cases l p with ⟨q,y0,hq,hql,hy0,hpy,hf0⟩ | ⟨hq,hf⟩
 ·rw [hq]
  rw [← HN.out] at hql
  rcases H1.out.2 with ⟨he,_⟩ | ⟨g,cap',cur,e1,e2,_⟩
  ·simp only [Value.slice.injEq] at he
   omega
  ·obtain ⟨rfl,hx0,rfl⟩:a=some ⟨g,0,none⟩∧n=l.length∧cap=cap':=by simpa using e1
   clear hx0
   have hF:(l.take (q+1)).filter (fun x=>!p x)=l.take q:=by rw [filt_snoc _ _ _ _ hy0,hf0,hpy];simp
   have hFl:((l.take (q+1)).filter (fun x=>!p x)).length=q:=by rw [hF,List.length_take,← HN.out];omega
   have RR:=lH (show DlRel l p g cap w0.heap.size n w0 (.int .i64 q) (.int .i64 ((q:Int)+1)) w1 from
    ⟨q+1,l,by omega,by go_num,by rw [hFl],by rw [hFl];omega,HN.out.symm,by rw [hFl,hF],rfl,H1.out,K1.out⟩)
   have q0:¬ (q:Int) = -1:=by omega
   have q1:((q:Int)==-1)=false:=by rw [beq_eq_false_iff_ne];omega
   have HG:=lH e2
   clear hq hy0 hpy hf0 hF hFl e1 e2 H1 K1
   go_wp2_with fail
   go_loopw [5,6] (fun i j wr=>DlRel l p g cap w0.heap.size n w0 i j wr) (fun _ j _=>n-(intOf j).toNat)
   case atStart=>exact RR.out
   case round =>
    clear RR
    obtain ⟨k,X,hk,rfl,rfl,hik,hX,hXt,hXd,own,kw⟩:=hrel
    obtain ⟨wo,rfl⟩:∃ wo:World,wo=wr:=⟨_,rfl⟩
    obtain ⟨i,hi⟩:∃ i,i=((l.take k).filter fun x=>!p x).length:=⟨_,rfl⟩
    rw [← hi] at hik hXt ⊢
    have HI:=lH hi
    have KW:=lH kw
    by_cases hlt:k<n
    ·obtain ⟨y,hy⟩:∃ y,l[k]?=some y:=⟨l[k]'(by rw [← HN.out];exact hlt),by simp⟩
     have hXy:X[k]?=some y:=by
      have h1:=congrArg (·[0]?) hXd
      simpa [List.getElem?_drop,hy] using h1
     have hs:Sl 3 encN wo (some ⟨g,0,none⟩) n X:=by
      obtain ⟨_,_,e5,s5,_⟩:=own.slf (fun _=>rfl)
      rw [hX] at e5 s5
      cases e5
      exact s5.sl
     obtain ⟨x1,o1,y',he,hx1,hy',hc1⟩:=hs.at hlt
     cases he
     obtain rfl:y=y':=Option.some.inj (hXy.symm.trans hy')
     have e0:wo.cell? ⟨g,0+k*3,none⟩=some (.int .i64 y.id):=hc1 0 _ rfl
     have e1:wo.cell? ⟨g,0+k*3+1,none⟩=some (.string y.key):=hc1 1 _ rfl
     have e2:wo.cell? ⟨g,0+k*3+1+1,none⟩=some (.int .u32 y.word):=by simpa [Nat.add_assoc] using hc1 2 _ rfl
     rw [Nat.zero_add] at e0 e1 e2
     have k7:=Ex.new wo (.cells #[.int .i64 y.id,.string y.key,.int .u32 y.word] 38)
     have B7:=Blk.new wo [.int .i64 y.id,.string y.key,.int .u32 y.word] 38
     obtain ⟨w2,hw2⟩:∃ w2,w2=wo.alloc (.cells #[.int .i64 y.id,.string y.key,.int .u32 y.word] 38):=⟨_,rfl⟩
     obtain ⟨g7,hg7⟩:∃ g7,g7=wo.heap.size:=⟨_,rfl⟩
     have B7:Blk w2 g7 [.int .i64 y.id,.string y.key,.int .u32 y.word] 38:=by rw [hw2,hg7];exact B7
     rw [← hw2] at k7
     have hg7b:w0.heap.size≤g7:=by rw [hg7];exact kw.size
     have hne7:¬ g=g7:=by rw [hg7];omega
     have hc:=HP.out y w2 (kw.nx k7)
     unfold Nd.val at hc
     have own2:=own.nx k7
     have c0:=B7.cell 0 _ rfl
     have c1:=B7.cell 1 _ rfl
     have c2:=B7.cell 2 _ rfl
     have KW2:=lH (kw.nx k7)
     have HW2:=lH hw2
     have HG7:=lH hg7
     have FSn:=lH (filt_snoc l (fun x=>!p x) k y hy)
     have hXd1:l.drop (k+1)=(l.drop k).drop 1:=by rw [List.drop_drop]
     have HXT:=lH hXt
     have HXD:=lH hXd
     have HXD1:=lH hXd1
     have HX:=lH hX
     have OWN2:=lH own2
     have hilen:=lH hi.symm
     clear hi hs hc1 hy hXy hy' k7 hw2 hg7 own own2 kw hXt hXd hXd1 hX
     go_upto_region 8 with fail
     rw [← HG7.out,← HW2.out]
     have eg:=EG.out
     go_wp2_with fail
     refine hc.mono ?_
     rintro e w3 ⟨rfl,k3⟩
     have K3:=lH (KW2.out.nx k3)
     have own3:=OWN2.out.nx k3
     have B8:=B7.nx k3
     have c0:=B8.cell 0 _ rfl
     have c1:=B8.cell 1 _ rfl
     have c2:=B8.cell 2 _ rfl
     clear hc k3 e0 e1 e2 B7 OWN2 eg
     cases hb:p y with
     | true =>
      have F1:(l.take (k+1)).filter (fun x=>!p x)=(l.take k).filter (fun x=>!p x):=by rw [FSn.out];simp [hb]
      have RZ:=lH (show DlRel l p g cap w0.heap.size n w0 (.int .i64 (i:Nat)) (.int .i64 ((k:Int)+1)) w3 from
       ⟨k+1,X,by omega,by go_num,by rw [F1,HI.out],by rw [F1,← HI.out];omega,HX.out,by rw [F1,← HI.out];exact HXT.out,by rw [HXD1.out,← HXD.out,List.drop_drop],own3,K3.out⟩)
      clear F1 own3 hb B8 c0 c1 c2
      go_wp2_with fail
      exact ⟨RZ.out,by simp [intOf];omega⟩
     | false =>
      have F1:(l.take (k+1)).filter (fun x=>!p x)=(l.take k).filter (fun x=>!p x)++[y]:=by rw [FSn.out];simp [hb]
      have F1l:((l.take (k+1)).filter (fun x=>!p x)).length=i+1:=by rw [F1,List.length_append,← HI.out];rfl
      obtain ⟨⟨va,vb,vc,d0,d1,d2⟩,fz,OS⟩:=own_set3 own3 (j:=i) (by omega) y
      obtain ⟨s1,s2⟩:=set_mid (y:=y) HXT.out HXD.out hilen.out hik (by rw [HX.out];exact hlt)
      have hgw:w0.heap.size≤g:=HG.out
      have RZ:=lH (show DlRel l p g cap w0.heap.size n w0 (.int .i64 ((i:Int)+1)) (.int .i64 ((k:Int)+1)) (((w3.setCell ⟨g,i*3,none⟩ (.int .i64 y.id)).setCell ⟨g,i*3+1,none⟩ (.string y.key)).setCell ⟨g,i*3+2,none⟩ (.int .u32 y.word)) from
       ⟨k+1,X.set i y,by omega,by go_num,by rw [F1l];go_num,by rw [F1l];omega,by rw [List.length_set];exact HX.out,by rw [F1l,s1,F1],by rw [s2,HXD1.out],OS,
        ((K3.out.setNew (p:=⟨g,i*3,none⟩) _ hgw).setNew (p:=⟨g,i*3+1,none⟩) _ hgw).setNew (p:=⟨g,i*3+2,none⟩) _ hgw⟩)
      have z0:=fz (i*3)
      have z1:=fz (i*3+1)
      have z2:=fz (i*3+1+1)
      clear F1 F1l own3 hb B8 OS s1 s2 fz
      go_wp2_with fail
      exact ⟨RZ.out,by simp [intOf];omega⟩
    ·obtain rfl:k=n:=by omega
     have hfl:l.take k=l:=List.take_of_length_le (by rw [← HN.out];exact Nat.le_refl _)
     rw [hfl] at hXt HI
     obtain ⟨vs,hcl⟩:=run_clear_row (c':=cap-i) own hik 0
     have hcl:∀ ty,(Builtin.clear_ #[25] ty #[.slice (some ⟨g,i*3,none⟩) (k-i) (cap-i)]).run Tryd.prog wo=.ok (.tuple #[]) (wo.setCells g (i*3) vs):=fun _=>hcl
     have O9:=lH (own_setcs vs wo (i*3) (Nat.le_refl _) (own_cutn own (m:=i) (by rw [hX];omega)))
     rw [hXt] at O9
     have K9:=lH (ex_setcs HG.out vs wo (i*3) KW.out)
     have hic:¬ cap=i:=by omega
     clear own kw hXd hX hXt hfl hk hlt hi
     go_wp2_with (simp only [hcl])
     go_ret
     exact ⟨_,rfl,O9.out,K9.out⟩
 ·rw [hq]
  have HF:=lH hf
  clear hq hf
  go_wp2_with fail
  go_ret
  exact ⟨_,rfl,by rw [HF.out,HN.out];rw [← HN.out];exact H1.out,K1.out⟩
def withoutN (l:List Nd) (ids:List Int):List Nd:=l.filter fun x=>!(ids.contains x.id)
set_option maxHeartbeats 1000000 in
theorem without_p (a:Option Addr) (n c:Nat) (l:List Nd) (a2:Option Addr) (n2 c2:Nat) (ids:List Int) (w:World) (h:Sl 3 encN w a n l) (hn:n≤1000) (h2:Sl 1 encI w a2 n2 ids) (hn2:n2≤4000000000000000000) :
  Calls Tryd.prog 14 #[.slice a n c,.slice a2 n2 c2] w (NdPost (withoutN l ids) w.heap.size w):=by
 have HL:=lH h.len
 have k1:=Ex.new w (.cells #[.slice a2 n2 c2] 22)
 have B1:=Blk.new w [.slice a2 n2 c2] 22
 obtain ⟨w1,hw1⟩:∃ w1,w1=w.alloc (.cells #[.slice a2 n2 c2] 22):=⟨_,rfl⟩
 obtain ⟨g,hg⟩:∃ g,g=w.heap.size:=⟨_,rfl⟩
 have B1:Blk w1 g [.slice a2 n2 c2] 22:=by rw [hw1,hg];exact B1
 rw [← hw1] at k1
 have HW1:=lH hw1
 have HG:=lH hg
 have PG:=lH (wo1_p g a2 n2 c2 ids w1 B1 (h2.nx k1) hn2)
 have eg:∀ args w,(callFunc 27 args).run Tryd.prog w=.ok (.enter 27 args) w:=enters_of Tryd.func27 (by kernel_rfl) rfl
 have EG:=lH eg
 have S1:=h.nx k1
 have K1:=lH k1
 clear h h2 hw1 hg B1 k1 eg
 go_enter Tryd.func14,Tryd.ntmps14
 go_upto_region 1 with fail
 rw [← HG.out,← HW1.out]
 go_wp2_with fail
 (with_reducible refine (clone_n _ _ _ _ _ S1 hn).mono ?_)
 rintro e w2 ⟨v,rfl,own,k2⟩
 clear S1
 go_wp2_with fail
 (with_reducible refine (delete_n _ _ _ EG.out v l w1 w2 own (by rw [HL.out];exact hn) k2 PG.out).mono ?_)
 rintro e w3 ⟨v3,rfl,own3,k3⟩
 have O3:=lH (OwnL.base own3 K1.out.size)
 have K3:=lH (K1.out.nx k3)
 clear own own3 k2 k3
 go_wp2_with fail
 go_ret
 exact ⟨_,rfl,O3.out,K3.out⟩
section
variable {N:List Nd}
theorem with_drop (id:Int):withoutN N [id]=dropN N id:=by
 unfold withoutN dropN
 refine List.filter_congr fun x _=>?_
 by_cases h:x.id=id<;>simp [h]
end
section
variable {N:List Nd}
theorem drop_put (h0:checkN N=0) {x:Nd} (hx:x∈N):(dropN N x.id++[x]).Perm N:=by
 obtain ⟨A,B,rfl⟩:=List.append_of_mem hx
 have hp:(A++x::B).Pairwise fun a b=>a.id≠b.id:=(keys_pw (check_keys h0)).imp fun {a b} h=>h.2
 have hq:=List.pairwise_append.1 hp
 have e:dropN (A++x::B) x.id=A++B:=by
  rw [drop_app,drop_none (fun z hz=>hq.2.2 z hz x (by simp))]
  congr 1
  have:=drop_none (A:=B) (id:=x.id) (fun z hz=>((List.pairwise_cons.1 hq.2.1).1 z hz).symm)
  unfold dropN at this ⊢
  rw [List.filter_cons_of_neg (by simp)]
  exact this
 rw [e]
 exact (List.perm_append_singleton x (A++B)).trans List.perm_middle.symm
theorem put_check (h0:checkN N=0) {x:Nd} (hx:x∈N):checkN (dropN N x.id++[x])=0:=check_perm (drop_put h0 hx) h0
theorem put_build (h0:checkN N=0) {x:Nd} (hx:x∈N) (m:Int):buildN (dropN N x.id++[x]) m=buildN N m:=build_perm (drop_put h0 hx) h0 m
theorem drop_word (hw:∀ x∈N,x.word<4294967296) (id:Int):∀ x∈dropN N id,x.word<4294967296:=fun x hx=>hw x (List.mem_filter.1 hx).1
end
end Go.Proofs.YtalmjklljofhbaaDoor
