/- Shared texts. -/
import Derived.Laws.OwnMore
import Derived.Test.YthdkeibapcaclaaGreatDoorFmAll25
set_option linter.unusedSimpArgs false
set_option linter.unusedVariables false

namespace Go.Proofs.YthdkeibapcaclaaGreatDoor
open Go.RowKit
def pairU (m:List Int):Unit×List Int:=((),m)
abbrev IL (w:World) (a:Option Addr) (n:Nat) (M:List (List Int)):Prop:=NL enc0 1 1 encI w a n (M.map pairU)
section
variable {N:List Nd} {P:List Pr}
theorem prs_mem {id a b:Int} {A B:List Int}:(a≠id→(a,b)∈prsN id (A++a::b::B))∧(b≠id→(b,a)∈prsN id (A++a::b::B)):=by
 have hz:(a,b)∈(A++a::b::B).zip (A++a::b::B).tail:=by
  induction A with
  | nil=>simp
  | cons c A ih =>
   cases A with
   | nil=>simp
   | cons d A =>
    have:((c::d::A)++a::b::B).zip ((c::d::A)++a::b::B).tail=(c,d)::((d::A)++a::b::B).zip ((d::A)++a::b::B).tail:=by simp
    rw [this]
    exact List.mem_cons_of_mem _ ih
 refine ⟨fun h=>List.mem_flatMap.2 ⟨_,hz,?_⟩,fun h=>List.mem_flatMap.2 ⟨_,hz,?_⟩⟩
 ·unfold pr2;rw [if_neg h];simp
 ·unfold pr2;rw [if_neg (c:=b=id) h];simp
end
section
variable {N:List Nd}
theorem pair_congr {own nb:Int} {lev:Nat} {z1 o1 z2 o2:Int} (h:(findN N nb).2=true→z1=z2∧o1=o2):pairB N own nb lev z1 o1=pairB N own nb lev z2 o2:=by
 unfold pairB
 split
 ·rename_i hf
  rw [(h hf).1,(h hf).2]
 ·rfl
theorem step_congr {st st':Int→Pr} (h:∀ x∈N,st x.id=st' x.id) (p:Pr) (i:Nat):stepB N st p i=stepB N st' p i:=by
 have hf:∀ nb,(findN N nb).2=true→st nb=st' nb:=fun nb hb=>by
  obtain ⟨m1,m2⟩:=findN_mem hb
  have:=h _ m1
  rwa [m2] at this
 have e1:=pair_congr (N:=N) (own:=p.id) (nb:=(linkB N p i).1) (lev:=i) (z1:=(nearAt (st (linkB N p i).1) i).1) (o1:=(nearAt (st (linkB N p i).1) i).2.1) (z2:=(nearAt (st' (linkB N p i).1) i).1) (o2:=(nearAt (st' (linkB N p i).1) i).2.1)
  (fun hb=>by rw [hf _ hb];exact ⟨rfl,rfl⟩)
 have e2:=pair_congr (N:=N) (own:=p.id) (nb:=(linkB N p i).2) (lev:=i) (z1:=(nearAt (st (linkB N p i).2) i).2.2.1) (o1:=(nearAt (st (linkB N p i).2) i).2.2.2) (z2:=(nearAt (st' (linkB N p i).2) i).2.2.1) (o2:=(nearAt (st' (linkB N p i).2) i).2.2.2)
  (fun hb=>by rw [hf _ hb];exact ⟨rfl,rfl⟩)
 unfold stepB
 rw [e1,e2]
theorem next_congr {st st':Int→Pr} (h:∀ x∈N,st x.id=st' x.id) (p:Pr) (k:Nat):nextB N st p k=nextB N st' p k:=by
 unfold nextB
 exact List.map_congr_left fun i _=>step_congr h p i
end
section
variable {N:List Nd}
theorem chain_cl {R:Int→Int→Prop}:∀ (S:List Nd),(∀ A a b B,S=A++a::b::B→R a.id b.id)→∀ x∈S,∀ y∈S,Cl R x.id y.id
 | [],_,x,hx,_,_=>by cases hx
 | [a],_,x,hx,y,hy=>by
  simp only [List.mem_singleton] at hx hy
  subst hx hy
  exact .refl _
 | a::b::S,h,x,hx,y,hy=>by
  have ih:=chain_cl (b::S) (fun A u v B e=>h (a::A) u v B (by rw [e];rfl))
  have hab:Cl R a.id b.id:=Cl.one (.inl (h [] a b S rfl))
  have hb:∀ z∈a::b::S,Cl R b.id z.id:=by
   intro z hz
   rcases List.mem_cons.1 hz with rfl | hz
   ·exact hab.symm
   ·exact ih b (by simp) z hz
  exact (hb x hx).symm.trans (hb y hy)
end
def HasRel (l:List Int) (v:Int) (n:Nat) (w:World) (i:Value) (wr:World):Prop :=
 ∃ k:Nat,k≤n∧i=.int .i64 k∧Ex w wr∧∀ j z,j<k→l[j]?=some z→z≠v
set_option maxHeartbeats 1000000 in
theorem has_r (a:Option Addr) (n c:Nat) (l:List Int) (v:Int) (w:World) (h:Sl 1 encI w a n l) (hn:n≤4000000000000000000) :
  Calls Tryz.prog 153 #[.slice a n c,.int .i64 v] w fun e w'=>e=.returned (.bool (l.contains v))∧Ex w w':=by
 have HL:=lH h.len
 have hs:=lH h
 clear h
 go_enter Tryz.func153,Tryz.ntmps153
 go_wp2_with fail
 go_loopw [5] (fun i wr=>HasRel l v n w i wr) (fun i _=>n-(intOf i).toNat)
 case atStart=>exact ⟨0,by omega,rfl,Ex.refl _,by intro j z h;omega⟩
 case round =>
  obtain ⟨k,hk,rfl,kw,hno⟩:=hrel
  have HNO:=lH hno
  clear hno
  obtain ⟨wo,rfl⟩:∃ wo:World,wo=wr:=⟨_,rfl⟩
  by_cases hlt:k<n
  ·obtain ⟨x1,o1,y,rfl,hx1,hy,hc1⟩:=(hs.out.nx kw).at hlt
   have e0:wo.cell? ⟨x1,o1+k,none⟩=some (.int .i64 y):=by simpa using hc1 0 _ rfl
   have HY:=lH hy
   have KW:=lH kw
   clear hc1 hy kw
   by_cases hv:y=v
   ·have HC:Hid (l.contains v=true):=lH (by rw [List.contains_iff_mem,← hv];exact List.mem_of_getElem? HY.out)
    have hb:(y==v)=true:=by rw [hv];simp
    clear hv
    go_wp2_with fail
    go_ret
    exact ⟨by rw [HC.out];rfl,KW.out⟩
   ·have HV:=lH hv
    have hb:(y==v)=false:=by rw [beq_eq_false_iff_ne];exact hv
    clear hv
    go_wp2_with fail
    refine ⟨⟨k+1,by omega,by go_num,KW.out,fun j z hj hz=>?_⟩,by simp [intOf];omega⟩
    rcases Nat.lt_or_ge j k with h | h
    ·exact HNO.out j z h hz
    ·obtain rfl:j=k:=by omega
     rw [Option.some.inj (hz.symm.trans HY.out)]
     exact HV.out
  ·obtain rfl:k=n:=by omega
   have HC:Hid (l.contains v=false):=lH (by
    cases hc:l.contains v with
    | false=>rfl
    | true =>
     rw [List.contains_iff_mem] at hc
     obtain ⟨j,hj⟩:=List.mem_iff_getElem?.1 hc
     exact absurd rfl (HNO.out j v (by have:=(List.getElem?_eq_some_iff.1 hj).1;rw [← HL.out];exact this) hj))
   have KW:=lH kw
   clear hk hlt kw
   go_wp2_with fail
   go_ret
   exact ⟨by rw [HC.out];rfl,KW.out⟩
set_option maxRecDepth 100000 in
set_option maxHeartbeats 2000000 in
theorem ordered_r (a:Option Addr) (n c:Nat) (N:List Nd) (a2:Option Addr) (n2 c2:Nat) (l:List Int) (but:Int) (w:World) (h:Sl 3 encN w a n N) (hn:n≤1000) (h2:Sl 1 encI w a2 n2 l) (hn2:n2≤4000000000000000000) :
  Calls Tryz.prog 114 #[.slice a n c,.slice a2 n2 c2,.int .i64 but] w (OiPost (ordN N l but) w):=by
 have hNn:N.length≤1000:=by have:=h.len;omega
 go_enter Tryz.func114,Tryz.ntmps114
 go_wp2_with fail
 (with_reducible refine (sort_r _ _ _ _ _ h hn).mono ?_)
 rintro e w1 ⟨a1,n1,c1,rfl,own1,kk⟩
 replace h2:=h2.nx kk
 have S1:Sl 3 encN w1 a1 n1 (sortN N):=Slf.sl own1
 have hn1:n1=(sortN N).length:=S1.len.symm
 subst hn1
 have hSl:(sortN N).length≤1000:=by rw [sortN_length];exact hNn
 have ES:Hid (ordN N l but=((sortN N).filter (ordP l but)).map Nd.id):=lH rfl
 generalize sortN N=S at S1 hSl ES own1 ⊢
 have S1:=lH S1
 have H2:=lH h2
 have K1:Hid (Ex w w1):=lH kk
 have hz1:=kk.size
 clear h own1 h2 kk hNn hn
 go_wp2_with fail
 go_loopw [7,9] (fun o i wr=>OrdRel S l but w1 o i wr) (fun _ i _=>S.length-(intOf i).toNat)
 case atStart=>exact ⟨0,by omega,rfl,OwnL.nil _ _ _ _ _,Ex.refl _⟩
 case round =>
  obtain ⟨j,hj,rfl,own,ki⟩:=hrel
  obtain ⟨wi,rfl⟩:∃ wi:World,wi=wr:=⟨_,rfl⟩
  by_cases hjm:j<S.length
  ·obtain ⟨x3,o3,y,rfl,hx3,hy,hc3⟩:=(S1.out.nx ki).at hjm
   have e0:wi.cell? ⟨x3,o3+j*3,none⟩=some (.int .i64 y.id):=hc3 0 _ rfl
   have SN:=lH (ord_snoc (l:=l) (but:=but) hy)
   have hrl:(((S.take j).filter (ordP l but)).map Nd.id).length≤1000:=by
    rw [List.length_map]
    have:=List.length_filter_le (ordP l but) (S.take j)
    rw [List.length_take] at this
    omega
   generalize ((S.take j).filter (ordP l but)).map Nd.id=row at own SN hrl
   have OWN:=lH own
   have KI:=lH ki
   have zb:=ki.size
   clear hy hc3 own ki
   by_cases hb:y.id=but
   ·have hq:(y.id != but)=false:=by simp [hb]
    have hq2:(y.id==but)=true:=by simp [hb]
    have PF:Hid (ordP l but y=false):=lH (by unfold ordP;rw [hq2];rfl)
    clear hb
    go_wp2_with fail
    exact ⟨⟨j+1,by omega,by go_num,by rw [SN.out,PF.out];simpa using OWN.out,KI.out⟩,by simp [intOf];omega⟩
   ·have hq:(y.id != but)=true:=by simpa using hb
    have hq2:(y.id==but)=false:=by simpa using hb
    clear hb
    go_wp2_with fail
    (with_reducible refine (has_r _ _ _ _ y.id _ (H2.out.nx KI.out) hn2).mono ?_)
    rintro e w5 ⟨rfl,kk⟩
    have K5:=lH kk
    have e5:w5.cell? ⟨x3,o3+j*3,none⟩=some (.int .i64 y.id):=Chg.cellv kk e0 hx3
    have own5:=OWN.out.nx kk
    have k5:=KI.out.nx kk
    have hx5:=Nat.lt_of_lt_of_le hx3 kk.size
    have zb5:=k5.size
    have PB:Hid (ordP l but y=l.contains y.id):=lH (by unfold ordP;rw [hq2];rfl)
    clear kk e0
    generalize l.contains y.id=inl at PB ⊢
    cases inl with
    | false =>
     have K5':=lH k5
     have O5':=lH own5
     clear k5 own5
     go_wp2_with fail
     exact ⟨⟨j+1,by omega,by go_num,by rw [SN.out,PB.out];simpa using O5'.out,K5'.out⟩,by simp [intOf];omega⟩
    | true =>
     generalize y.id=yi at SN e5 hq hq2 ⊢
     go_wp2_with (at_builtin;(refine wpList_append_lit (enc:=encI) w5 rfl _ _ 22 rfl w1.heap.size 3 (.int .i64 0) 1 8 Tryz.underlying22 Tryz.infoI6 rfl (by omega) (by omega) _ _ own5 rfl (yi:Int) _ rfl rfl (by simp [encI,Value.oneCell']) _ (by simp) rfl (by omega) zb5 _ ?_);intro v6 w6 own6 _ ch1 _)
     refine ⟨⟨j+1,by omega,by go_num,by rw [SN.out,PB.out];exact own6,Chg.trans k5 ch1⟩,by simp [intOf];omega⟩
  ·obtain rfl:j=S.length:=by omega
   rw [List.take_of_length_le (by omega)] at own
   have own:=lH (own.base hz1)
   have KE:=lH (K1.out.nx ki)
   clear hj hjm ki
   go_wp2_with fail
   go_ret
   exact ⟨_,rfl,by rw [ES.out];exact own.out,KE.out⟩
theorem lit2 {w u:World} (h:Ex w u) (x y:Int):∃ g v,g=u.heap.size∧v=u.alloc (.cells #[.int .i64 x,.int .i64 y] 3)∧Sl 1 encI v (some ⟨g,0,none⟩) 2 [x,y]∧Ex u v∧Ex w v :=
 ⟨_,_,rfl,rfl,Sl.lit [x,y] rfl rfl (fun _=>rfl) rfl,Ex.new _ _,h.nx (Ex.new _ _)⟩
theorem lit4 {w u:World} (h:Ex w u) (y:Nr):∃ g v,g=u.heap.size∧v=u.alloc (.cells #[.int .i64 y.1,.int .i64 y.2.1,.int .i64 y.2.2.1,.int .i64 y.2.2.2] 3)∧Sl 1 encI v (some ⟨g,0,none⟩) 4 (nums4 y)∧Ex u v∧Ex w v :=
 ⟨_,_,rfl,rfl,Sl.lit (nums4 y) rfl rfl (fun _=>rfl) rfl,Ex.new _ _,h.nx (Ex.new _ _)⟩
def NmCut (l:List Int) (w:World) (s:Value) (wx:World):Prop:=OwnL 1 encI 3 w.heap.size wx s l∧Ex w wx
def NmRel (l0:List Int) (nr:List Nr) (w:World) (o i:Value) (wr:World):Prop :=
 ∃ j:Nat,j≤nr.length∧i=.int .i64 j∧OwnL 1 encI 3 w.heap.size wr o (l0++(nr.take j).flatMap nums4)∧Ex w wr
theorem nm_snoc {l0:List Int} {nr:List Nr} {j:Nat} {y:Nr} (hy:nr[j]?=some y):l0++(nr.take (j+1)).flatMap nums4=(l0++(nr.take j).flatMap nums4)++nums4 y:=by
 rw [List.take_add_one,hy]
 simp
theorem nums_len (l:List Nr):(l.flatMap nums4).length=4*l.length:=by
 induction l with
 | nil=>rfl
 | cons x l ih=>rw [List.flatMap_cons,List.length_append,ih,List.length_cons,show (nums4 x).length=4 from rfl];omega
set_option maxRecDepth 100000 in
set_option maxHeartbeats 8000000 in
theorem numbers_r (p:Pr) (a1:Option Addr) (n1 c1:Nat) (a2:Option Addr) (n2 c2:Nat) (w:World) (h1:Sl 1 encI w a1 n1 p.known) (h2:Sl 4 encNr w a2 n2 p.near) (hn1:n1≤2000000) (hn2:n2≤2000000) (z1:a1=none→c1=0) :
  Calls Tryz.prog 183 #[.agg #[.int .i64 p.id,.slice a1 n1 c1,.int .i64 p.left,.int .i64 p.right,.slice a2 n2 c2]] w (OiPost (numsP p) w):=by
 obtain ⟨id,lf,rt,kn,nr⟩:=p
 have HN:Hid (numsP ⟨id,lf,rt,kn,nr⟩=(kn++[lf,rt])++nr.flatMap nums4):=lH rfl
 have hkl:kn.length≤2000000:=by have:kn.length=n1:=h1.len;omega
 have hnl:nr.length=n2:=h2.len
 have hw0:=Nat.le_refl w.heap.size
 simp only at h1 h2 ⊢
 have B1:=Blk.new w [.int .i64 id,.slice a1 n1 c1,.int .i64 lf,.int .i64 rt,.slice a2 n2 c2] 36
 have kk:=Ex.new w (.cells #[.int .i64 id,.slice a1 n1 c1,.int .i64 lf,.int .i64 rt,.slice a2 n2 c2] 36)
 obtain ⟨w1,hw1⟩:∃ w1,w1=w.alloc (.cells #[.int .i64 id,.slice a1 n1 c1,.int .i64 lf,.int .i64 rt,.slice a2 n2 c2] 36):=⟨_,rfl⟩
 obtain ⟨g,hg⟩:∃ g,g=w.heap.size:=⟨_,rfl⟩
 replace B1:Blk w1 g [.int .i64 id,.slice a1 n1 c1,.int .i64 lf,.int .i64 rt,.slice a2 n2 c2] 36:=by rw [hw1,hg];exact B1
 rw [← hw1] at kk
 have Hw1:=lH hw1
 have Hg:=lH hg
 replace h1:=h1.nx kk
 replace h2:=h2.nx kk
 have hz1:=kk.size
 have K1:=lH kk
 have S1:=lH h1
 have S2:=lH h2
 clear h1 h2 kk hw1 hg
 go_enter Tryz.func183,Tryz.ntmps183
 go_upto_region 1 with fail
 rw [← Hg.out,← Hw1.out]
 clear Hg Hw1
 have BH:=lH B1
 clear B1
 go_cut [3] from 5 to 14 (fun s3 wx=>NmCut (kn++[lf,rt]) w1 s3 wx)
 case first =>
  refine wp_region_held_drew (S:=Ex w1) (by kernel_rfl) ((Ex.refl w1).drew) (fun hHeld=>?_)
  refine tkH 0 (v:=?_) rfl (by kernel_rfl) (fun _ _ _ h=>h) (by rfl) ?y1x0q1 (by assumption) ?z1x0q1
  case y1x0q1=>intro wq hSw;(go_simp);(try with_reducible rfl)
  refine tkH 1 (v:=?_) rfl (by kernel_rfl) (fun _ _ _ h=>h) (by rfl) ?y1x1q4 (by assumption) ?z1x1q4
  case y1x1q4=>intro wq hSw;(have cq:=(BH.out.nx hSw).cell 1 _ rfl;go_simp);(try with_reducible rfl)
  refine tkH 3 (v:=?_) rfl (by kernel_rfl) (fun _ _ _ h=>h) (by rfl) ?y1x3q7 (by assumption) ?z1x3q7
  case y1x3q7=>intro wq hSw;(go_simp);(try with_reducible rfl)
  refine tkH 4 (v:=?_) rfl (by kernel_rfl) (fun _ _ _ h=>h) (by rfl) ?y1x4q10 (by assumption) ?z1x4q10
  case y1x4q10=>intro wq hSw;(have cq:=(BH.out.nx hSw).cell 2 _ rfl;go_simp);(try with_reducible rfl)
  refine tkH 5 (v:=?_) rfl (by kernel_rfl) (fun _ _ _ h=>h) (by rfl) ?y1x5q13 (by assumption) ?z1x5q13
  case y1x5q13=>intro wq hSw;(go_simp);(try with_reducible rfl)
  refine tkH 6 (v:=?_) rfl (by kernel_rfl) (fun _ _ _ h=>h) (by rfl) ?y1x6q16 (by assumption) ?z1x6q16
  case y1x6q16=>intro wq hSw;(have cq:=(BH.out.nx hSw).cell 3 _ rfl;go_simp);(try with_reducible rfl)
  refine wpAnyH_ready (rs:=[2,7]) (by kernel_rfl) (by simp) ?_
  refine AllReadyH.cons (o:=⟨_,_,_,_,_,_⟩) rfl (fun K hK=>?_) ?_
  ·rw [if_pos (by rfl)]
   have s0:=S1.out.nx hHeld
   have z0:=Ex.size hHeld
   refine wp_append_rd (enc:=encI) _ (.const (.slice none 0 0)) (.tmp 6) 22 rfl w1.heap.size 3 (.int .i64 0) 1 8 Tryz.underlying22 Tryz.infoI6 rfl (by omega) (by omega) _ [] (OwnL.nil _ _ _ _ _) rfl _ _ n1 c1 kn s0 z1 (fun _=>rfl) (by simp [encI,Value.oneCell']) rfl (by simp) (by omega) z0 ?_
   intro v7 w7 own7 ch0 ch1
   have k7:Ex _ w7:=ch0.mono (fun k hk=>⟨hk,by simp [Value.ownBlock]⟩)
   (try replace L8:=L8.nx k7)
   have j7:Ex w1 w7:=Chg.trans hHeld ch1
   rw [List.nil_append] at own7
   clear ch0 ch1 s0 z0 k7 hHeld
   have hHeld:=j7
   clear j7
   refine hK.out _ _ (hHeld) (fun hHeld=>?_)
   clear hK K
   refine wpAnyH_ready (rs:=[7]) (by kernel_rfl) (by simp) ?_
   refine AllReadyH.cons (o:=⟨_,_,_,_,_,_⟩) rfl (fun K hK=>?_) AllReadyH.nil
   go_simp
   obtain ⟨g8,u8,hg8,hu8,L8,k8,j8⟩:=lit2 hHeld lf rt
   (try replace own7:=own7.nx k8)
   (first | rw [← hg8,← hu8] | (rw [show w1.drew.heap.size=w1.heap.size from rfl] at hg8;rw [← hg8,show ∀ o,(w1.alloc o).drew=w1.drew.alloc o from fun _=>rfl,← hu8]))
   clear hg8 hu8 k8 hHeld
   have hHeld:=j8
   clear j8
   refine hK.out _ _ (hHeld) (fun hHeld=>?_)
   clear hK K
   refine wpAnyH_ready (rs:=[8]) (by kernel_rfl) (by simp) ?_
   refine AllReadyH.cons (o:=⟨_,_,_,_,_,_⟩) rfl (fun K hK=>?_) AllReadyH.nil
   rw [if_pos (by rfl)]
   have z0:=Ex.size hHeld
   refine wp_append_rd (enc:=encI) _ (.tmp 7) (.tmp 12) 22 rfl w1.heap.size 3 (.int .i64 0) 1 8 Tryz.underlying22 Tryz.infoI6 rfl (by omega) (by omega) _ kn own7 rfl _ _ 2 2 [lf,rt] L8 (fun h=>by cases h) (fun _=>rfl) (by simp [encI,Value.oneCell']) rfl (by omega) (by omega) z0 ?_
   intro v9 w9 own9 ch0 ch1
   have j9:Ex w1 w9:=Chg.trans hHeld ch1
   clear ch0 ch1 z0 own7 L8 hHeld
   have hHeld:=j9
   clear j9
   refine hK.out _ _ (hHeld) (fun hHeld=>?_)
   clear hK K
   refine tkH 9 (v:=?_) rfl (by kernel_rfl) (fun _ _ _ h=>h) (by rfl) ?y1x9q61 (by assumption) ?z1x9q61
   case y1x9q61=>intro wq hSw;(go_simp);(try with_reducible rfl)
   refine wpAnyH_done (by kernel_rfl) ?_ _
   go_wp2_with fail
   go_meet
   exact ⟨own9,hHeld⟩
  refine AllReadyH.cons (o:=⟨_,_,_,_,_,_⟩) rfl (fun K hK=>?_) AllReadyH.nil
  ·go_simp
   obtain ⟨g8,u8,hg8,hu8,L8,k8,j8⟩:=lit2 hHeld lf rt
   (try replace own7:=own7.nx k8)
   (first | rw [← hg8,← hu8] | (rw [show w1.drew.heap.size=w1.heap.size from rfl] at hg8;rw [← hg8,show ∀ o,(w1.alloc o).drew=w1.drew.alloc o from fun _=>rfl,← hu8]))
   clear hg8 hu8 k8 hHeld
   have hHeld:=j8
   clear j8
   refine hK.out _ _ (hHeld) (fun hHeld=>?_)
   clear hK K
   refine wpAnyH_ready (rs:=[2]) (by kernel_rfl) (by simp) ?_
   refine AllReadyH.cons (o:=⟨_,_,_,_,_,_⟩) rfl (fun K hK=>?_) AllReadyH.nil
   rw [if_pos (by rfl)]
   have s0:=S1.out.nx hHeld
   have z0:=Ex.size hHeld
   refine wp_append_rd (enc:=encI) _ (.const (.slice none 0 0)) (.tmp 6) 22 rfl w1.heap.size 3 (.int .i64 0) 1 8 Tryz.underlying22 Tryz.infoI6 rfl (by omega) (by omega) _ [] (OwnL.nil _ _ _ _ _) rfl _ _ n1 c1 kn s0 z1 (fun _=>rfl) (by simp [encI,Value.oneCell']) rfl (by simp) (by omega) z0 ?_
   intro v7 w7 own7 ch0 ch1
   have k7:Ex _ w7:=ch0.mono (fun k hk=>⟨hk,by simp [Value.ownBlock]⟩)
   (try replace L8:=L8.nx k7)
   have j7:Ex w1 w7:=Chg.trans hHeld ch1
   rw [List.nil_append] at own7
   clear ch0 ch1 s0 z0 k7 hHeld
   have hHeld:=j7
   clear j7
   refine hK.out _ _ (hHeld) (fun hHeld=>?_)
   clear hK K
   refine wpAnyH_ready (rs:=[8]) (by kernel_rfl) (by simp) ?_
   refine AllReadyH.cons (o:=⟨_,_,_,_,_,_⟩) rfl (fun K hK=>?_) AllReadyH.nil
   rw [if_pos (by rfl)]
   have z0:=Ex.size hHeld
   refine wp_append_rd (enc:=encI) _ (.tmp 7) (.tmp 12) 22 rfl w1.heap.size 3 (.int .i64 0) 1 8 Tryz.underlying22 Tryz.infoI6 rfl (by omega) (by omega) _ kn own7 rfl _ _ 2 2 [lf,rt] L8 (fun h=>by cases h) (fun _=>rfl) (by simp [encI,Value.oneCell']) rfl (by omega) (by omega) z0 ?_
   intro v9 w9 own9 ch0 ch1
   have j9:Ex w1 w9:=Chg.trans hHeld ch1
   clear ch0 ch1 z0 own7 L8 hHeld
   have hHeld:=j9
   clear j9
   refine hK.out _ _ (hHeld) (fun hHeld=>?_)
   clear hK K
   refine tkH 9 (v:=?_) rfl (by kernel_rfl) (fun _ _ _ h=>h) (by rfl) ?y1x9q107 (by assumption) ?z1x9q107
   case y1x9q107=>intro wq hSw;(go_simp);(try with_reducible rfl)
   refine wpAnyH_done (by kernel_rfl) ?_ _
   go_wp2_with fail
   go_meet
   exact ⟨own9,hHeld⟩
 case rest =>
  obtain ⟨own,kk⟩:=hcut
  have hl0:(kn++[lf,rt]).length≤2000002:=by simp;omega
  generalize kn++[lf,rt]=l0 at own HN hl0
  have OWN:=lH own
  have KC:=lH kk
  clear own kk
  go_wp2_with fail
  go_loopw [3,4] (fun o i wr=>NmRel l0 nr w1 o i wr) (fun _ i _=>nr.length-(intOf i).toNat)
  case atStart=>exact ⟨0,by omega,rfl,by simpa using OWN.out,KC.out⟩
  case round =>
   obtain ⟨j,hj,rfl,own,ki⟩:=hrel
   obtain ⟨wi,rfl⟩:∃ wi:World,wi=wr:=⟨_,rfl⟩
   have b4:=(BH.out.nx ki).cell 4 _ rfl
   by_cases hjm:j<n2
   ·obtain ⟨x3,o3,y,rfl,hx3,hy,hc3⟩:=S2.out.at hjm
    have e0:w1.cell? ⟨x3,o3+j*4,none⟩=some (.int .i64 y.1):=hc3 0 _ rfl
    have e1:w1.cell? ⟨x3,o3+j*4+1,none⟩=some (.int .i64 y.2.1):=hc3 1 _ rfl
    have e2:w1.cell? ⟨x3,o3+j*4+2,none⟩=some (.int .i64 y.2.2.1):=hc3 2 _ rfl
    have e3:w1.cell? ⟨x3,o3+j*4+3,none⟩=some (.int .i64 y.2.2.2):=hc3 3 _ rfl
    have SN:=lH (nm_snoc (l0:=l0) hy)
    have hrl:(l0++(nr.take j).flatMap nums4).length≤50000000:=by
     rw [List.length_append,nums_len,List.length_take]
     omega
    generalize l0++(nr.take j).flatMap nums4=row at own SN hrl
    have E:=lH (show ∀ wq,Ex w1 wq→wq.cell? ⟨x3,o3+j*4,none⟩=some (.int .i64 y.1)∧wq.cell? ⟨x3,o3+j*4+1,none⟩=some (.int .i64 y.2.1)∧wq.cell? ⟨x3,o3+j*4+2,none⟩=some (.int .i64 y.2.2.1)∧wq.cell? ⟨x3,o3+j*4+3,none⟩=some (.int .i64 y.2.2.2) from fun wq k=>⟨Chg.cellv k e0 hx3,Chg.cellv k e1 hx3,Chg.cellv k e2 hx3,Chg.cellv k e3 hx3⟩)
    have zb:=ki.size
    have KI:=lH ki
    have OWN:=lH (own.nx (Ex.drew (Ex.refl wi)))
    clear hy hc3 e0 e1 e2 e3 own ki
    go_upto_region 5 with fail
    clear b4
    refine wp_region_held_drew (S:=Ex w1) (by kernel_rfl) (KI.out.drew) (fun hHeld=>?_)
    refine tkH 0 (v:=?_) rfl (by kernel_rfl) (fun _ _ _ h=>h) (by rfl) ?y2x0q1 (by assumption) ?z2x0q1
    case y2x0q1=>intro wq hSw;(go_simp);(try with_reducible rfl)
    refine tkH 1 (v:=?_) rfl (by kernel_rfl) (fun _ _ _ h=>h) (by rfl) ?y2x1q4 (by assumption) ?z2x1q4
    case y2x1q4=>intro wq hSw;(go_simp);(try with_reducible rfl)
    refine tkH 2 (v:=?_) rfl (by kernel_rfl) (fun _ _ _ h=>h) (by rfl) ?y2x2q7 (by assumption) ?z2x2q7
    case y2x2q7=>intro wq hSw;(have cq:=(BH.out.nx hSw).cell 4 _ rfl;go_simp);(try with_reducible rfl)
    refine tkH 3 (v:=?_) rfl (by kernel_rfl) (fun _ _ _ h=>h) (by rfl) ?y2x3q10 (by assumption) ?z2x3q10
    case y2x3q10=>intro wq hSw;(go_simp);(try with_reducible rfl)
    refine tkH 4 (v:=?_) rfl (by kernel_rfl) (fun _ _ _ h=>h) (by rfl) ?y2x4q13 (by assumption) ?z2x4q13
    case y2x4q13=>intro wq hSw;(go_simp);(try with_reducible rfl)
    refine tkH 5 (v:=?_) rfl (by kernel_rfl) (fun _ _ _ h=>h) (by rfl) ?y2x5q16 (by assumption) ?z2x5q16
    case y2x5q16=>intro wq hSw;(go_simp);(try with_reducible rfl)
    refine tkH 6 (v:=?_) rfl (by kernel_rfl) (fun _ _ _ h=>h) (by rfl) ?y2x6q19 (by assumption) ?z2x6q19
    case y2x6q19=>intro wq hSw;((obtain ⟨q0,q1,q2,q3⟩:=E.out _ hSw);go_simp);(try with_reducible rfl)
    refine tkH 7 (v:=?_) rfl (by kernel_rfl) (fun _ _ _ h=>h) (by rfl) ?y2x7q22 (by assumption) ?z2x7q22
    case y2x7q22=>intro wq hSw;(go_simp);(try with_reducible rfl)
    refine tkH 8 (v:=?_) rfl (by kernel_rfl) (fun _ _ _ h=>h) (by rfl) ?y2x8q25 (by assumption) ?z2x8q25
    case y2x8q25=>intro wq hSw;(have cq:=(BH.out.nx hSw).cell 4 _ rfl;go_simp);(try with_reducible rfl)
    refine tkH 9 (v:=?_) rfl (by kernel_rfl) (fun _ _ _ h=>h) (by rfl) ?y2x9q28 (by assumption) ?z2x9q28
    case y2x9q28=>intro wq hSw;(go_simp);(try with_reducible rfl)
    refine tkH 10 (v:=?_) rfl (by kernel_rfl) (fun _ _ _ h=>h) (by rfl) ?y2x10q31 (by assumption) ?z2x10q31
    case y2x10q31=>intro wq hSw;(go_simp);(try with_reducible rfl)
    refine tkH 11 (v:=?_) rfl (by kernel_rfl) (fun _ _ _ h=>h) (by rfl) ?y2x11q34 (by assumption) ?z2x11q34
    case y2x11q34=>intro wq hSw;(go_simp);(try with_reducible rfl)
    refine tkH 12 (v:=?_) rfl (by kernel_rfl) (fun _ _ _ h=>h) (by rfl) ?y2x12q37 (by assumption) ?z2x12q37
    case y2x12q37=>intro wq hSw;((obtain ⟨q0,q1,q2,q3⟩:=E.out _ hSw);go_simp);(try with_reducible rfl)
    refine tkH 13 (v:=?_) rfl (by kernel_rfl) (fun _ _ _ h=>h) (by rfl) ?y2x13q40 (by assumption) ?z2x13q40
    case y2x13q40=>intro wq hSw;(go_simp);(try with_reducible rfl)
    refine tkH 14 (v:=?_) rfl (by kernel_rfl) (fun _ _ _ h=>h) (by rfl) ?y2x14q43 (by assumption) ?z2x14q43
    case y2x14q43=>intro wq hSw;(have cq:=(BH.out.nx hSw).cell 4 _ rfl;go_simp);(try with_reducible rfl)
    refine tkH 15 (v:=?_) rfl (by kernel_rfl) (fun _ _ _ h=>h) (by rfl) ?y2x15q46 (by assumption) ?z2x15q46
    case y2x15q46=>intro wq hSw;(go_simp);(try with_reducible rfl)
    refine tkH 16 (v:=?_) rfl (by kernel_rfl) (fun _ _ _ h=>h) (by rfl) ?y2x16q49 (by assumption) ?z2x16q49
    case y2x16q49=>intro wq hSw;(go_simp);(try with_reducible rfl)
    refine tkH 17 (v:=?_) rfl (by kernel_rfl) (fun _ _ _ h=>h) (by rfl) ?y2x17q52 (by assumption) ?z2x17q52
    case y2x17q52=>intro wq hSw;(go_simp);(try with_reducible rfl)
    refine tkH 18 (v:=?_) rfl (by kernel_rfl) (fun _ _ _ h=>h) (by rfl) ?y2x18q55 (by assumption) ?z2x18q55
    case y2x18q55=>intro wq hSw;((obtain ⟨q0,q1,q2,q3⟩:=E.out _ hSw);go_simp);(try with_reducible rfl)
    refine tkH 19 (v:=?_) rfl (by kernel_rfl) (fun _ _ _ h=>h) (by rfl) ?y2x19q58 (by assumption) ?z2x19q58
    case y2x19q58=>intro wq hSw;(go_simp);(try with_reducible rfl)
    refine tkH 20 (v:=?_) rfl (by kernel_rfl) (fun _ _ _ h=>h) (by rfl) ?y2x20q61 (by assumption) ?z2x20q61
    case y2x20q61=>intro wq hSw;(have cq:=(BH.out.nx hSw).cell 4 _ rfl;go_simp);(try with_reducible rfl)
    refine tkH 21 (v:=?_) rfl (by kernel_rfl) (fun _ _ _ h=>h) (by rfl) ?y2x21q64 (by assumption) ?z2x21q64
    case y2x21q64=>intro wq hSw;(go_simp);(try with_reducible rfl)
    refine tkH 22 (v:=?_) rfl (by kernel_rfl) (fun _ _ _ h=>h) (by rfl) ?y2x22q67 (by assumption) ?z2x22q67
    case y2x22q67=>intro wq hSw;(go_simp);(try with_reducible rfl)
    refine tkH 23 (v:=?_) rfl (by kernel_rfl) (fun _ _ _ h=>h) (by rfl) ?y2x23q70 (by assumption) ?z2x23q70
    case y2x23q70=>intro wq hSw;(go_simp);(try with_reducible rfl)
    refine tkH 24 (v:=?_) rfl (by kernel_rfl) (fun _ _ _ h=>h) (by rfl) ?y2x24q73 (by assumption) ?z2x24q73
    case y2x24q73=>intro wq hSw;((obtain ⟨q0,q1,q2,q3⟩:=E.out _ hSw);go_simp);(try with_reducible rfl)
    refine wpAnyH_ready (rs:=[25]) (by kernel_rfl) (by simp) ?_
    refine AllReadyH.cons (o:=⟨_,_,_,_,_,_⟩) rfl (fun K hK=>?_) AllReadyH.nil
    go_simp
    obtain ⟨g8,u8,hg8,hu8,L8,k8,j8⟩:=lit4 hHeld y
    replace OWN:=lH (OWN.out.nx k8)
    (first | rw [← hg8,← hu8] | (rw [show wi.drew.heap.size=wi.heap.size from rfl] at hg8;rw [← hg8,show ∀ o,(wi.alloc o).drew=wi.drew.alloc o from fun _=>rfl,← hu8]))
    clear hg8 hu8 k8 hHeld
    have hHeld:=j8
    clear j8
    refine hK.out _ _ (hHeld) (fun hHeld=>?_)
    clear hK K
    refine wpAnyH_ready (rs:=[26]) (by kernel_rfl) (by simp) ?_
    refine AllReadyH.cons (o:=⟨_,_,_,_,_,_⟩) rfl (fun K hK=>?_) AllReadyH.nil
    rw [if_pos (by rfl)]
    have z0:=Ex.size hHeld
    refine wp_append_rd (enc:=encI) _ (.tmp 21) (.tmp 46) 22 rfl w1.heap.size 3 (.int .i64 0) 1 8 Tryz.underlying22 Tryz.infoI6 rfl (by omega) (by omega) _ row OWN.out rfl _ _ 4 4 (nums4 y) L8 (fun h=>by cases h) (fun _=>rfl) (by simp [encI,Value.oneCell']) rfl (by omega) (by omega) z0 ?_
    intro v9 w9 own9 ch0 ch1
    have j9:Ex w1 w9:=Chg.trans hHeld ch1
    clear ch0 ch1 z0 L8 hHeld
    have hHeld:=j9
    clear j9
    refine hK.out _ _ (hHeld) (fun hHeld=>?_)
    clear hK K
    refine tkH 27 (v:=?_) rfl (by kernel_rfl) (fun _ _ _ h=>h) (by rfl) ?y2x27q101 (by assumption) ?z2x27q101
    case y2x27q101=>intro wq hSw;(go_simp);(try with_reducible rfl)
    refine wpAnyH_done (by kernel_rfl) ?_ _
    skip
    go_wp2_with fail
    exact ⟨⟨j+1,by omega,by go_num,by rw [SN.out];exact own9,hHeld⟩,by simp [intOf];omega⟩
   ·obtain rfl:j=n2:=by omega
    rw [List.take_of_length_le (by omega)] at own
    have own:=lH (own.base hz1)
    have KE:=lH (K1.out.nx ki)
    clear hj hjm ki
    go_wp2_with fail
    go_ret
    exact ⟨_,rfl,by rw [HN.out];exact own.out,KE.out⟩
theorem nums_len_p (p:Pr):(numsP p).length=p.known.length+2+4*p.near.length:=by
 unfold numsP
 rw [List.length_append,List.length_append,nums_len]
 rfl
set_option maxRecDepth 100000 in
set_option maxHeartbeats 4000000 in
theorem refs_r (a:Option Addr) (n c:Nat) (N:List Nd) (p:Pr) (a1:Option Addr) (n1 c1:Nat) (a2:Option Addr) (n2 c2:Nat) (w:World) (h:Sl 3 encN w a n N) (hn:n≤1000) (h1:Sl 1 encI w a1 n1 p.known) (h2:Sl 4 encNr w a2 n2 p.near) (hn1:n1≤2000000) (hn2:n2≤2000000) (z1:a1=none→c1=0) :
  Calls Tryz.prog 166 #[.slice a n c,.agg #[.int .i64 p.id,.slice a1 n1 c1,.int .i64 p.left,.int .i64 p.right,.slice a2 n2 c2]] w (OiPost (refsN N p) w):=by
 have EX:=Ex.refl w
 have Z1:=lH z1
 have hl1:p.known.length=n1:=h1.len
 have hl2:p.near.length=n2:=h2.len
 have HNL:=lH (nums_len_p p)
 clear z1
 have B3:=Blk.new w [.int .i64 p.id,.slice a1 n1 c1,.int .i64 p.left,.int .i64 p.right,.slice a2 n2 c2] 36
 have kk:=Ex.new w (.cells #[.int .i64 p.id,.slice a1 n1 c1,.int .i64 p.left,.int .i64 p.right,.slice a2 n2 c2] 36)
 obtain ⟨w1,hw1⟩:∃ w1,w1=w.alloc (.cells #[.int .i64 p.id,.slice a1 n1 c1,.int .i64 p.left,.int .i64 p.right,.slice a2 n2 c2] 36):=⟨_,rfl⟩
 obtain ⟨g3,hg3⟩:∃ g3,g3=w.heap.size:=⟨_,rfl⟩
 replace B3:Blk w1 g3 [.int .i64 p.id,.slice a1 n1 c1,.int .i64 p.left,.int .i64 p.right,.slice a2 n2 c2] 36:=by rw [hw1,hg3];exact B3
 rw [← hw1] at kk
 have Hw1:=lH hw1
 have Hg3:=lH hg3
 replace h:=h.nx kk
 replace h1:=h1.nx kk
 replace h2:=h2.nx kk
 replace EX:=EX.nx kk
 clear kk hw1 hg3
 go_enter Tryz.func166,Tryz.ntmps166
 go_upto_region 1 with fail
 rw [← Hg3.out,← Hw1.out]
 clear Hg3 Hw1
 go_wp2_with fail
 (with_reducible refine (is_r _ _ _ _ _ h (by omega)).mono ?_)
 rintro e w2 ⟨rfl,kk⟩
 replace h:=h.nx kk
 replace h1:=h1.nx kk
 replace h2:=h2.nx kk
 replace EX:=EX.nx kk
 replace B3:=B3.nx kk
 clear kk
 by_cases hck:checkN N=0
 case neg =>
  have d1:(checkN N==0)=false:=by simpa using hck
  have E0:Hid (refsN N p=[]):=lH (by unfold refsN;rw [if_neg hck])
  rw [d1]
  clear h h1 h2 hck B3
  go_wp2_with fail
  go_ret
  exact ⟨_,rfl,by rw [E0.out];exact OwnL.nil _ _ _ _ _,EX⟩
 have d1:(checkN N==0)=true:=by simpa using hck
 have E0:Hid (refsN N p=ordN N (numsP p) p.id):=lH (by unfold refsN;rw [if_pos hck])
 rw [d1]
 clear hck d1
 have HB:=lH B3
 have HN:=lH h
 have H1:=lH h1
 have H2:=lH h2
 have EXH:=lH EX
 clear B3 h h1 h2 EX
 go_upto_region 3 with fail
 refine wp_region_held_drew (S:=Ex w2) (by kernel_rfl) ((Ex.refl w2).drew) (fun hHeld=>?_)
 refine tkH 0 (v:=?_) rfl (by kernel_rfl) (fun _ _ _ h=>h) (by rfl) ?y1x0q1 (by assumption) ?z1x0q1
 case y1x0q1=>intro wq hSw;(go_simp);(try with_reducible rfl)
 refine tkH 1 (v:=?_) rfl (by kernel_rfl) (fun _ _ _ h=>h) (by rfl) ?y1x1q4 (by assumption) ?z1x1q4
 case y1x1q4=>intro wq hSw;(have B:=HB.out.nx hSw;have c0:=B.cell 0 _ rfl;have c1:=B.cell 1 _ rfl;have c2:=B.cell 2 _ rfl;have c3:=B.cell 3 _ rfl;have c4:=B.cell 4 _ rfl;go_simp);(try with_reducible rfl)
 refine tkH 3 (v:=?_) rfl (by kernel_rfl) (fun _ _ _ h=>h) (by rfl) ?y1x3q7 (by assumption) ?z1x3q7
 case y1x3q7=>intro wq hSw;(go_simp);(try with_reducible rfl)
 refine tkH 4 (v:=?_) rfl (by kernel_rfl) (fun _ _ _ h=>h) (by rfl) ?y1x4q10 (by assumption) ?z1x4q10
 case y1x4q10=>intro wq hSw;(have c0:=(HB.out.nx hSw).cell 0 _ rfl;go_simp);(try with_reducible rfl)
 refine wpAnyH_ready (rs:=[2]) (by kernel_rfl) (by simp) ?_
 refine AllReadyH.cons (o:=⟨_,_,_,_,_,_⟩) rfl (fun K hK=>?_) AllReadyH.nil
 go_simp
 (with_reducible refine (numbers_r p _ _ _ _ _ _ _ (H1.out.nx hHeld) (H2.out.nx hHeld) hn1 hn2 Z1.out).mono ?_)
 rintro e w5 ⟨v5,rfl,own5,kk⟩
 obtain ⟨A5,C5,rfl,sl5,_,_,_⟩:=own5.slf (fun _=>rfl)
 have sl5:=lH sl5.sl
 replace hHeld:=hHeld.nx kk
 clear kk own5
 refine hK.out _ _ (hHeld) (fun hHeld=>?_)
 clear hK K
 refine wpAnyH_ready (rs:=[5]) (by kernel_rfl) (by simp) ?_
 refine AllReadyH.cons (o:=⟨_,_,_,_,_,_⟩) rfl (fun K hK=>?_) AllReadyH.nil
 go_simp
 (with_reducible refine (ordered_r _ _ _ N _ _ _ (numsP p) p.id _ (HN.out.nx hHeld) hn sl5.out (by rw [HNL.out];omega)).mono ?_)
 rintro e w6 ⟨v6,rfl,own6,kk⟩
 have own6:=lH (own6.base (EXH.out.nx hHeld).size)
 replace hHeld:=hHeld.nx kk
 clear kk
 refine hK.out _ _ (hHeld) (fun hHeld=>?_)
 clear hK K
 refine tkH 6 (v:=?_) rfl (by kernel_rfl) (fun _ _ _ h=>h) (by rfl) ?y1x6q36 (by assumption) ?z1x6q36
 case y1x6q36=>intro wq hSw;(go_simp);(try with_reducible rfl)
 refine wpAnyH_done (by kernel_rfl) ?_ _
 have KE:=lH (EXH.out.nx hHeld)
 clear hHeld
 go_wp2_with fail
 go_ret
 exact ⟨_,rfl,by rw [E0.out];exact own6.out,KE.out⟩
section
variable {N:List Nd} {f:Fl}
theorem tick_yes (h0:checkN N=0) {x:Nd} (hx:x∈N) {h:Nat} (hh:h≤16):tickF N f x.id h =
  ⟨((sortN N).map fun x=>peerN f.peers x.id).map fun p=>if p.id=x.id then tickP N (peerN (copF N f).peers) p h else p,f.msgs++introsN N (peerN f.peers x.id)⟩:=by
 unfold tickF
 rw [if_pos,cop_msgs h0,cop_peer h0 hx,cop_map h0]
 ·rfl
 ·refine ⟨by unfold lvlN;simp;omega,?_⟩
  rw [cop_map h0,List.any_eq_true]
  exact ⟨peerN f.peers x.id,List.mem_map.2 ⟨x,(sortN_mem N x).2 hx,rfl⟩,by simp [peer_id]⟩
theorem tick_peer (h0:checkN N=0) {x y:Nd} (hx:x∈N) (hy:y∈N) {h:Nat} (hh:h≤16) :
  peerN (tickF N f x.id h).peers y.id=if y.id=x.id then tickP N (peerN f.peers) (peerN f.peers x.id) h else peerN f.peers y.id:=by
 rw [tick_yes h0 hx hh]
 refine (peer_change h0 _ (fun p=>?_) hy).trans ?_
 ·show (if p.id=x.id then tickP N (peerN (copF N f).peers) p h else p).id=p.id
  split<;>rfl
 ·rw [peer_id]
  by_cases he:y.id=x.id
  ·rw [if_pos he,if_pos he,he]
   unfold tickP
   rw [next_congr (fun z hz=>cop_peer h0 hz)]
  ·rw [if_neg he,if_neg he]
end
section
variable {eP eI eN:TypeId} {base:Nat} {w w1:World} {v:Value} {qs:List PQ} {P:List Pr}
theorem OwnP.num (hI:eP≠eI) (hN:eP≠eN) {g n cap:Nat} (h:OwnP eP eI eN base w (.slice (some ⟨g,0,none⟩) n cap) qs P) {a:Nat} {p p':Pr} {hk hn:Hdr} {c:Nat} {x:Int} (hq:qs[a]?=some (p.nums,hk,hn)) (hp:P[a]?=some p) (hc:c<5)
  (he:encQ (p'.nums,hk,hn)=(encQ (p.nums,hk,hn)).set c (.int .i64 x)) (hkn:p'.known=p.known) (hnr:p'.near=p.near) :
  w.cell? ⟨g,a*5+c,none⟩=(encQ (p.nums,hk,hn))[c]?∧w.frozen? ⟨g,a*5+c,none⟩=false ∧
   OwnP eP eI eN base (w.setCell ⟨g,a*5+c,none⟩ (.int .i64 x)) (.slice (some ⟨g,0,none⟩) n cap) (qs.set a (p'.nums,hk,hn)) (P.set a p'):=by
 obtain ⟨s1,s2,s3⟩:=OwnW.set1 encQ_len h.1 hq hc
 have ch:=set_chg (g:=g) (o:=a*5+c) w (.int .i64 x)
 have kk:∀ (j:Nat) (r:PQ) (d:Pr),qs[j]?=some r→P[j]?=some d→OwnL 1 encI eI base (w.setCell ⟨g,a*5+c,none⟩ (.int .i64 x)) r.2.1.val d.known∧OwnL 4 encNr eN base (w.setCell ⟨g,a*5+c,none⟩ (.int .i64 x)) r.2.2.val d.near:=fun j r d hr hd=>by
  obtain ⟨_,r2,r3⟩:=h.2.2.1 j r d hr hd
  refine ⟨r2.chg ch (fun k hk hv=>⟨hk,fun he=>?_⟩),r3.chg ch (fun k hk hv=>⟨hk,fun he=>?_⟩)⟩
  ·subst he;exact h.neI hI hr hv rfl
  ·subst he;exact h.neN hN hr hv rfl
 obtain ⟨k1,k2⟩:=kk a _ p hq hp
 refine ⟨s1,s2,h.upd (List.getElem?_eq_some_iff.1 hq).1 (s3 _ _ he) rfl (by rw [hkn];exact k1) (by rw [hnr];exact k2) (fun j r d _ hr hd=>kk j r d hr hd) (fun j r g' hj hr hg hv=>?_) (fun j r g' hj hr hg hv=>?_)⟩
 ·exact hj (h.2.2.2.1 j a r _ g' hr hq hg hv)
 ·exact hj (h.2.2.2.2 j a r _ g' hr hq hg hv)
theorem OwnP.growN (hI:eP≠eI) (hN:eP≠eN) (hIN:eI≠eN) {g n cap:Nat} (h:OwnP eP eI eN base w (.slice (some ⟨g,0,none⟩) n cap) qs P) {a:Nat} {p:Pr} {hk hn hn':Hdr} {nr:List Nr} (hq:qs[a]?=some (p.nums,hk,hn)) (hp:P[a]?=some p)
  (A:OwnL 4 encNr eN base w1 hn'.val nr) (k1:Chg (fun k=>k<w.heap.size∧¬ hn.val.ownBlock=some k) w w1) (la:∀ g,hn'.val.ownBlock=some g→hn.val.ownBlock=some g∨w.heap.size≤g) :
  w1.cell? ⟨g,a*5+4,none⟩=some hn.val∧w1.frozen? ⟨g,a*5+4,none⟩=false ∧
   OwnP eP eI eN base (w1.setCell ⟨g,a*5+4,none⟩ hn'.val) (.slice (some ⟨g,0,none⟩) n cap) (qs.set a (p.nums,hk,hn')) (P.set a { p with near:=nr }):=by
 have row1:OwnW 5 encQ eP base w1 (.slice (some ⟨g,0,none⟩) n cap) qs:=h.1.chg k1 (fun x hx hv=>⟨hx,fun hh=>h.neN hN hq hh hv⟩)
 obtain ⟨s1,s2,s3⟩:=OwnW.set1 encQ_len row1 hq (c:=4) (by omega)
 have ch:=set_chg (g:=g) (o:=a*5+4) w1 hn'.val
 obtain ⟨_,r2a,r3a⟩:=h.2.2.1 a _ p hq hp
 have nN:∀ (j:Nat) (r:PQ) (d:Pr),j≠a→qs[j]?=some r→P[j]?=some d→OwnL 4 encNr eN base (w1.setCell ⟨g,a*5+4,none⟩ hn'.val) r.2.2.val d.near:=fun j r d hj hr hd=>by
  obtain ⟨_,_,r3⟩:=h.2.2.1 j r d hr hd
  refine (r3.chg k1 (fun x hx hv=>⟨hx,fun hh=>hj (h.2.2.2.2 j a r _ x hr hq hv hh)⟩)).chg ch (fun x hx hv=>⟨hx,fun he=>?_⟩)
  subst he;exact h.neN hN hr hv rfl
 have nK:∀ (j:Nat) (r:PQ) (d:Pr),qs[j]?=some r→P[j]?=some d→OwnL 1 encI eI base (w1.setCell ⟨g,a*5+4,none⟩ hn'.val) r.2.1.val d.known:=fun j r d hr hd=>by
  obtain ⟨_,r2,_⟩:=h.2.2.1 j r d hr hd
  refine (r2.chg k1 (fun x hx hv=>⟨hx,fun hh=>?_⟩)).chg ch (fun x hx hv=>⟨hx,fun he=>?_⟩)
  ·obtain ⟨_,c1,h1⟩:=r2.blk hv
   obtain ⟨_,c2,h2⟩:=r3a.blk hh
   exact blk_kind hIN h1 h2
  ·subst he;exact h.neI hI hr hv rfl
 have A2:OwnL 4 encNr eN base (w1.setCell ⟨g,a*5+4,none⟩ hn'.val) hn'.val nr:=A.chg ch (fun x hx hv=>⟨hx,fun he=>by
  subst he
  obtain ⟨_,c1,h1⟩:=A.blk hv
  obtain ⟨_,c2,h2⟩:=row1.blk rfl
  exact blk_kind hN h2 h1⟩)
 refine ⟨s1,s2,h.upd (q':=(p.nums,hk,hn')) (p':={ p with near:=nr }) (List.getElem?_eq_some_iff.1 hq).1 (s3 _ _ rfl) rfl (show OwnL 1 encI eI base _ hk.val p.known from nK a (p.nums,hk,hn) p hq hp) A2 (fun j r d hj hr hd=>⟨nK j r d hr hd,nN j r d hj hr hd⟩) (fun j r g' hj hr hg hv=>?_) (fun j r g' hj hr hg hv=>?_)⟩
 ·exact hj (h.2.2.2.1 j a r _ g' hr hq hg hv)
 ·rcases la g' hv with h1 | h1
  ·exact hj (h.2.2.2.2 j a r _ g' hr hq hg h1)
  ·obtain ⟨d,hd⟩:∃ d,P[j]?=some d:=⟨P[j]'(by have:=(List.getElem?_eq_some_iff.1 hr).1;have:=h.2.1;omega),by simp⟩
   have:=((h.2.2.1 j r d hr hd).2.2.lt g' hg).2
   omega
end
section
variable {N:List Nd} {P:List Pr}
theorem conn_line (h0:checkN N=0) (h:∀ A a b B,N=A++a::b::B→EdgeN N P a.id b.id∨EdgeN N P b.id a.id):ConnN N P:=by
 refine ⟨h0,fun x hx y hy=>?_⟩
 have:=chain_cl (R:=fun u v=>EdgeN N P u v∨EdgeN N P v u) N h x hx y hy
 refine Cl.mono (R:=fun u v=>EdgeN N P u v∨EdgeN N P v u) (fun a b hab=>?_) this
 exact Cl.one hab
theorem ids_ne (h0:checkN N=0) {i j:Nat} {a b:Nd} (ha:N[i]?=some a) (hb:N[j]?=some b) (hij:i≠j):a.id≠b.id:=by
 rcases Nat.lt_or_gt_of_ne hij with h | h
 ·exact ((check_keys h0 j i b a h hb ha).2).symm
 ·exact (check_keys h0 i j a b h ha hb).2
def SameIds (N:List Nd) (P:List Pr):Prop:=P.length=N.length∧∀ (i:Nat) (x:Nd) (p:Pr),N[i]?=some x→P[i]?=some p→p.id=x.id
theorem same_peer (h0:checkN N=0) (hs:SameIds N P) {i:Nat} {x:Nd} {p:Pr} (hx:N[i]?=some x) (hp:P[i]?=some p):peerN P x.id=p:=by
 rw [← hs.2 i x p hx hp]
 refine peer_at hp fun j q hj hq=>?_
 obtain ⟨y,hy⟩:∃ y,N[j]?=some y:=⟨N[j]'(by have:=(List.getElem?_eq_some_iff.1 hq).1;have:=hs.1;omega),by simp⟩
 rw [hs.2 i x p hx hp,hs.2 j y q hy hq]
 exact ids_ne h0 hy hx (by omega)
theorem back_conn (h0:checkN N=0) (hs:SameIds N P) (hk:∀ (i:Nat) (x:Nd) (p:Pr),N[i]?=some x→P[i+1]?=some p→x.id∈p.known):ConnN N P:=by
 refine conn_line h0 fun A a b B e=>.inr ?_
 have ha:N[A.length]?=some a:=by rw [e];simp
 have hb:N[A.length+1]?=some b:=by rw [e];simp
 obtain ⟨p,hp⟩:∃ p,P[A.length+1]?=some p:=⟨P[A.length+1]'(by have:=(List.getElem?_eq_some_iff.1 hb).1;have:=hs.1;omega),by simp⟩
 have h1:=hk _ a p ha hp
 refine ⟨⟨b,List.mem_of_getElem? hb,rfl⟩,?_⟩
 rw [same_peer h0 hs hb hp,mem_refs h0]
 refine ⟨⟨a,List.mem_of_getElem? ha,rfl⟩,?_,?_⟩
 ·rw [hs.2 _ b p hb hp]
  exact ids_ne h0 ha hb (by omega)
 ·unfold numsP
  simp [h1]
end
def encP2 (q:Int×Int):List Value:=[.int .i64 q.1,.int .i64 q.2]
theorem Tryz.infoP2:(Tryz.prog.info? 142).map (fun i=>(i.zero,i.size,i.bytes))=some (some (.agg #[.int .i64 0,.int .i64 0]),2,16):=by kernel_rfl
theorem encP2_one (q:Int×Int):∀ u∈encP2 q,u.oneCell'=true:=by
 intro u hu
 simp only [encP2,List.mem_cons,List.not_mem_nil,or_false] at hu
 rcases hu with rfl | rfl<;>rfl
theorem peerN_small {P:List Pr} {m:Nat} (h:∀ p∈P,p.known.length≤m∧p.near.length≤m) (id:Int):(peerN P id).known.length≤m∧(peerN P id).near.length≤m:=by
 unfold peerN
 cases hf:P.find? fun p=>p.id==id with
 | none=>exact ⟨Nat.zero_le _,Nat.zero_le _⟩
 | some p=>exact h p (List.mem_of_find?_eq_some hf)
def PqPost (E:List (Int×Int)) (w:World) (e:Ending) (w':World):Prop:=∃ v,e=.returned v∧OwnW 2 encP2 142 w.heap.size w' v E∧Ex w w'
def PaRel (N:List Nd) (P:List Pr) (w:World) (o i:Value) (wr:World):Prop :=
 ∃ j:Nat,j≤N.length∧i=.int .i64 j∧OwnW 2 encP2 142 w.heap.size wr o (prsU N P j)∧Ex w wr
def PbRel (x:Int) (l:List Int) (E:List (Int×Int)) (β lo:Nat) (w6:World) (o i:Value) (wr:World):Prop :=
 ∃ j:Nat,j≤l.length∧i=.int .i64 j∧OwnW 2 encP2 142 β wr o (E++(l.take j).map fun v=>(x,v))∧Acc β lo w6.heap.size w6 wr o
theorem litP2 {w0 u:World} (_:Ex w0 u) (x y:Int):∃ g v,g=u.heap.size∧v=u.alloc (.cells #[.int .i64 x,.int .i64 y] 142)∧Sl 2 encP2 v (some ⟨g,0,none⟩) 1 [(x,y)]∧Ex u v :=
 ⟨_,_,rfl,rfl,Sl.lit [(x,y)] rfl rfl (fun _=>rfl) rfl,Ex.new _ _⟩
set_option maxRecDepth 100000 in
set_option maxHeartbeats 16000000 in
theorem pairs_r (a:Option Addr) (n c:Nat) (N:List Nd) (a2:Option Addr) (n2 c2:Nat) (P:List Pr) (w:World) (h:Sl 3 encN w a n N) (hn:n≤1000) (h0:checkN N=0) (h2:PL w a2 n2 P) (hn2:n2≤1000000) (hP:∀ p∈P,p.known.length≤2000000∧p.near.length≤2000000) :
  Calls Tryz.prog 119 #[.slice a n c,.slice a2 n2 c2] w (PqPost (pairsN N P) w):=by
 have HL:=lH h.len
 have HC:=lH h0
 have hn64:n≤64:=by have:=check_len h0;have:=HL.out;omega
 have HS:=lH h
 have HPL:=lH h2
 have HP:=lH hP
 have HSP:Hid (SmallP P):=lH (fun p hp=>by have:=HP.out p hp;omega)
 clear h h0 h2 hP
 go_enter Tryz.func119,Tryz.ntmps119
 go_wp2_with fail
 go_loopw [5,6] (fun o i wr=>PaRel N P w o i wr) (fun _ i _=>n-(intOf i).toNat)
 case atStart=>exact ⟨0,Nat.zero_le _,rfl,OwnW.nil _ _ _ _ _,Ex.refl _⟩
 case round =>
  obtain ⟨j,hj,rfl,own,kw⟩:=hrel
  obtain ⟨wo,rfl⟩:∃ wo:World,wo=wr:=⟨_,rfl⟩
  by_cases hlt:j<n
  ·obtain ⟨x3,o3,x,rfl,hx3,hy,hc3⟩:=(HS.out.nx kw).at hlt
   have e0:wo.cell? ⟨x3,o3+j*3,none⟩=some (.int .i64 x.id):=hc3 0 _ rfl
   have HY:=lH hy
   have SN:=lH (prsU_snoc (P:=P) hy)
   have PE:=prsU_len HC.out P j
   have KW:=lH kw
   have hzo:=kw.size
   have BLO:=lH (fun g hg=>own.blk_lt (g:=g) hg)
   clear hc3 hy kw hj
   go_wp2_with fail
   (with_reducible refine (peer_r _ _ _ P x.id _ (HPL.out.nx KW.out) hn2 HSP.out).mono ?_)
   rintro e w6 ⟨hk,hq,rfl,ok1,ok2,kk⟩
   replace own:=own.nx kk
   have K6:=lH kk
   have hz6:=kk.size
   have hpl:=peerN_small HP.out x.id
   generalize peerN P x.id=p at ok1 ok2 hpl SN ⊢
   obtain ⟨A1,C1,E1,r1,z1⟩:=ok1.rdz (fun _=>rfl)
   obtain ⟨A2,C2,E2,r2,z2⟩:=ok2.rdz (fun _=>rfl)
   rw [E1,E2]
   have s1:Sl 1 encI w6 A1 p.known.length p.known:=r1.mono (fun _ hk=>hk.2)
   have s2:Sl 4 encNr w6 A2 p.near.length p.near:=r2.mono (fun _ hk=>hk.2)
   clear kk ok1 ok2 r1 r2 z2 E1 E2 e0
   go_wp2_with fail
   (with_reducible refine (refs_r _ _ _ N p _ _ _ _ _ _ _ (HS.out.nx (KW.out.nx K6.out)) hn s1 s2 hpl.1 hpl.2 z1).mono ?_)
   rintro e w7 ⟨v7,rfl,o7,kk⟩
   replace own:=own.nx kk
   obtain ⟨A7,C7,rfl,r7,_,_,_⟩:=o7.slf (fun _=>rfl)
   have R7:=lH r7
   have hlr:=refs_len HC.out p
   have K7:=lH (K6.out.nx kk)
   have hz7:=kk.size
   have A0:=lH (Acc.start (β:=w.heap.size) (lo:=w6.heap.size) (Nat.le_refl w7.heap.size) (fun g hg=>.inl (by have:=BLO.out g hg;omega)))
   generalize refsN N p=L at r7 R7 hlr SN ⊢
   have hLl:L.length≤64:=by have:=HL.out;omega
   generalize hE:prsU N P j=E at own PE SN
   clear o7 kk s1 s2 hpl z1 r7 hlr hE BLO
   go_wp2_with fail
   go_loopw [5,8] (fun o i wr=>PbRel x.id L E w.heap.size w6.heap.size w7 o i wr) (fun _ i _=>L.length-(intOf i).toNat)
   case atStart=>exact ⟨0,Nat.zero_le _,rfl,by simpa using own,A0.out⟩
   case round =>
    clear own A0
    obtain ⟨k,hk,rfl,own,ac⟩:=hrel
    obtain ⟨wp,rfl⟩:∃ wp:World,wp=wr:=⟨_,rfl⟩
    by_cases hkl:k<L.length
    ·obtain ⟨xr,or,id,rfl,hxr,hid,hcr⟩:=(ac.sl R7.out).at hkl
     have f0:wp.cell? ⟨xr,or+k,none⟩=some (.int .i64 id):=by simpa using hcr 0 _ rfl
     have F0:=lH (fun wq (k:Ex wp wq)=>Chg.cellv k f0 hxr)
     obtain ⟨x3',o3',x',he',hx3',hy',hc3'⟩:=(HS.out.nx (ac.ex (KW.out.nx K7.out))).at hlt
     cases he'
     obtain rfl:x=x':=Option.some.inj (HY.out.symm.trans hy')
     have e0:wp.cell? ⟨x3,o3+j*3,none⟩=some (.int .i64 x.id):=hc3' 0 _ rfl
     have X0:=lH (fun wq (k:Ex wp wq)=>Chg.cellv k e0 hx3')
     have LS:Hid ((L.take (k+1)).map (fun v=>(x.id,v))=(L.take k).map (fun v=>(x.id,v))++[(x.id,id)]):=lH (by rw [take_snocN L k id hid,List.map_append];rfl)
     have zb:=(ac.ex (KW.out.nx K7.out)).size
     have AC:=lH ac
     have OWN:=lH own
     have hl7:(E++(L.take k).map fun v=>(x.id,v)).length≤1000000:=by rw [List.length_append,List.length_map,List.length_take];omega
     clear hcr hid hxr f0 hy' hc3' hx3' e0 ac own
     generalize (L.take k).map (fun v=>(x.id,v))=R at OWN LS hl7
     go_upto_region 9 with fail
     refine wp_region_late_drew (S:=Ex wp) [12] (by kernel_rfl) ((Ex.refl wp).drew) (fun hHeld=>?_)
     obtain ⟨wd,hwdx⟩:∃ wd:World,wd=World.drew wp:=⟨_,rfl⟩
     rw [← hwdx] at hHeld ⊢
     have hDrew:Ex wp wd:=by rw [hwdx];exact (Ex.refl wp).drew
     clear hwdx
     refine tkL 0 (v:=?_) rfl (by kernel_rfl) (fun _ _ _ h=>h) (by rfl) ?y1x0q5 (by assumption) ?z1x0q5
     case y1x0q5=>intro wq hSw;(go_simp);(try with_reducible rfl)
     refine tkL 1 (v:=?_) rfl (by kernel_rfl) (fun _ _ _ h=>h) (by rfl) ?y1x1q8 (by assumption) ?z1x1q8
     case y1x1q8=>intro wq hSw;(go_simp);(try with_reducible rfl)
     refine tkL 2 (v:=?_) rfl (by kernel_rfl) (fun _ _ _ h=>h) (by rfl) ?y1x2q11 (by assumption) ?z1x2q11
     case y1x2q11=>intro wq hSw;(go_simp);(try with_reducible rfl)
     refine tkL 3 (v:=?_) rfl (by kernel_rfl) (fun _ _ _ h=>h) (by rfl) ?y1x3q14 (by assumption) ?z1x3q14
     case y1x3q14=>intro wq hSw;(go_simp);(try with_reducible rfl)
     refine tkL 4 (v:=?_) rfl (by kernel_rfl) (fun _ _ _ h=>h) (by rfl) ?y1x4q17 (by assumption) ?z1x4q17
     case y1x4q17=>intro wq hSw;(go_simp);(try with_reducible rfl)
     refine tkL 5 (v:=?_) rfl (by kernel_rfl) (fun _ _ _ h=>h) (by rfl) ?y1x5q20 (by assumption) ?z1x5q20
     case y1x5q20=>intro wq hSw;(have cq:=X0.out wq hSw;go_simp);(try with_reducible rfl)
     refine tkL 6 (v:=?_) rfl (by kernel_rfl) (fun _ _ _ h=>h) (by rfl) ?y1x6q23 (by assumption) ?z1x6q23
     case y1x6q23=>intro wq hSw;(go_simp);(try with_reducible rfl)
     refine tkL 7 (v:=?_) rfl (by kernel_rfl) (fun _ _ _ h=>h) (by rfl) ?y1x7q26 (by assumption) ?z1x7q26
     case y1x7q26=>intro wq hSw;(go_simp);(try with_reducible rfl)
     refine tkL 8 (v:=?_) rfl (by kernel_rfl) (fun _ _ _ h=>h) (by rfl) ?y1x8q29 (by assumption) ?z1x8q29
     case y1x8q29=>intro wq hSw;(go_simp);(try with_reducible rfl)
     refine tkL 9 (v:=?_) rfl (by kernel_rfl) (fun _ _ _ h=>h) (by rfl) ?y1x9q32 (by assumption) ?z1x9q32
     case y1x9q32=>intro wq hSw;(have cq:=F0.out wq hSw;go_simp);(try with_reducible rfl)
     refine tkL 10 (v:=?_) rfl (by kernel_rfl) (fun _ _ _ h=>h) (by rfl) ?y1x10q35 (by assumption) ?z1x10q35
     case y1x10q35=>intro wq hSw;(go_simp);(try with_reducible rfl)
     refine wpAnyL_ready (rs:=[11]) (by kernel_rfl) (by simp) ?_
     refine AllReadyL.cons (o:=⟨_,_,_,_,_,_⟩) rfl (fun K hK=>?_) AllReadyL.nil
     go_simp
     obtain ⟨g8,wz,hg8,hwz,SZ,kk⟩:=litP2 hHeld x.id id
     rw [← hg8,← hwz]
     clear hg8 hwz
     replace hHeld:=hHeld.nx kk
     clear kk
     refine hK.out _ _ (hHeld) (fun hHeld=>?_)
     clear hK K
     refine wpAnyL_ready (rs:=[12]) (by kernel_rfl) (by simp) ?_
     refine AllReadyL.consL (o:=⟨_,_,_,_,_,_⟩) rfl (by rfl) (fun K hK=>?_) AllReadyL.nil
     rw [if_pos (by rfl)]
     have own7:=OWN.out.nx hHeld
     have zc:=Nat.le_trans zb hHeld.size
     refine wp_append_W (enc:=encP2) _ (.tmp 30) (.tmp 41) 140 rfl w.heap.size 142 (.agg #[.int .i64 0,.int .i64 0]) 2 16 Tryz.underlying140 Tryz.infoP2 rfl (by omega) (by omega) _ _ own7 rfl _ 1 1 [(x.id,id)] SZ (fun _=>rfl) encP2_one rfl hl7 (by omega) zc ?_
     intro v6 w9 own9 ch0 ch1 hv
     have RR:=lH (show PbRel x.id L E w.heap.size w6.heap.size w7 v6 (.int .i64 ((k:Int)+1)) w9 from ⟨k+1,by omega,by go_num,by rw [LS.out,← List.append_assoc];exact own9,(AC.out.nx hHeld).step (fun g hg=>(own7.blk hg).1) ch0 hv⟩)
     clear own7 own9 ch0 hv SZ hHeld
     refine hK.out _ _ ?_
     clear hK K
     refine wpAnyL_takeP (i:=13) (oi:=⟨_,_,_,_,_,_⟩) (v:=?_) rfl (by kernel_rfl) (by kernel_rfl) (by kernel_rfl) (fun _ _ _ h=>h) (Or.inl ⟨by rfl,?y1x13q61⟩) ?z1x13q61
     case y1x13q61=>intro wq hSw;(go_simp);(try with_reducible rfl)
     refine wpAnyL_done (by kernel_rfl) ?_ _
     go_wp2_with fail
     exact ⟨RR.out,by simp [intOf];omega⟩
    ·obtain rfl:k=L.length:=by omega
     rw [List.take_of_length_le (Nat.le_refl _),← SN.out] at own
     have RR:=lH (show PaRel N P w u5 (.int .i64 ((j:Int)+1)) wp from ⟨j+1,by have:=HL.out;omega,by go_num,own,ac.ex (KW.out.nx K7.out)⟩)
     clear own ac
     go_wp2_with fail
     exact ⟨RR.out,by simp [intOf];omega⟩
  ·have hjN:j=N.length:=by have:=HL.out;omega
   have hjn:j=n:=by have:=HL.out;omega
   rw [hjN,prsU_all] at own
   have OW:=lH own
   have K1:=lH kw
   clear own kw hj hjN hjn
   go_wp2_with fail
   go_ret
   exact ⟨_,rfl,OW.out,K1.out⟩
def idxL (l:List Int) (v:Int):Int:=match l.findIdx? (·==v) with | some i=>i | none=>-1
def IxRel (l:List Int) (v:Int) (n:Nat) (w:World) (i:Value) (wr:World):Prop :=
 ∃ k:Nat,k≤n∧i=.int .i64 k∧Ex w wr∧∀ j z,j<k→l[j]?=some z→z≠v
theorem idxL_at {l:List Int} {v:Int} {k:Nat} (hk:l[k]?=some v) (hno:∀ j z,j<k→l[j]?=some z→z≠v):idxL l v=k:=by
 obtain ⟨hlt,he⟩:=List.getElem?_eq_some_iff.1 hk
 have:l.findIdx? (·==v)=some k:=by
  rw [List.findIdx?_eq_some_iff_getElem]
  refine ⟨hlt,by simp [he],fun j hj=>?_⟩
  have:=hno j (l[j]) hj (List.getElem?_eq_getElem (by omega))
  simpa using this
 unfold idxL
 rw [this]
theorem idxL_no {l:List Int} {v:Int} (hno:∀ j z,j<l.length→l[j]?=some z→z≠v):idxL l v = -1:=by
 have:l.findIdx? (·==v)=none:=by
  rw [List.findIdx?_eq_none_iff]
  intro x hx
  obtain ⟨j,hj,rfl⟩:=List.getElem_of_mem hx
  simpa using hno j _ hj (List.getElem?_eq_getElem hj)
 unfold idxL
 rw [this]
set_option maxHeartbeats 1000000 in
theorem index7_r (a:Option Addr) (n c:Nat) (l:List Int) (v:Int) (w:World) (h:Sl 1 encI w a n l) (hn:n≤1000000) :
  Calls Tryz.prog 167 #[.slice a n c,.int .i64 v] w fun e w'=>e=.returned (.int .i64 (idxL l v))∧Ex w w':=by
 have HL:=lH h.len
 have hs:=lH h
 clear h
 go_enter Tryz.func167,Tryz.ntmps167
 go_wp2_with fail
 go_loopw [5] (fun i wr=>IxRel l v n w i wr) (fun i _=>n-(intOf i).toNat)
 case atStart=>exact ⟨0,by omega,rfl,Ex.refl _,by omega⟩
 case round =>
  obtain ⟨k,hk,rfl,kw,hno⟩:=hrel
  obtain ⟨wo,rfl⟩:∃ wo:World,wo=wr:=⟨_,rfl⟩
  have HNO:=lH hno
  clear hno
  by_cases hlt:k<n
  ·obtain ⟨x1,o1,y,rfl,hx1,hy,hc1⟩:=(hs.out.nx kw).at hlt
   have e0:wo.cell? ⟨x1,o1+k,none⟩=some (.int .i64 y):=by simpa using hc1 0 _ rfl
   have HY:=lH hy
   clear hc1 hy
   by_cases hv:y=v
   ·have HR:Hid (idxL l v=k):=lH (idxL_at (hv▸HY.out) HNO.out)
    have d1:(y==v)=true:=by simpa using hv
    have K1:=lH kw
    clear hv kw
    go_wp2_with fail
    go_ret
    exact ⟨by rw [HR.out];rfl,K1.out⟩
   ·have d1:(y==v)=false:=by simpa using hv
    have RR:=lH (show IxRel l v n w (.int .i64 ((k:Int)+1)) wo from ⟨k+1,by omega,by go_num,kw,fun j z hj hz=>by
     by_cases hjk:j<k
     ·exact HNO.out j z hjk hz
     ·obtain rfl:j=k:=by omega
      have:=HY.out.symm.trans hz
      rw [← Option.some.inj this]
      exact hv⟩)
    clear hv kw
    go_wp2_with fail
    exact ⟨RR.out,by simp [intOf];omega⟩
  ·obtain rfl:k=n:=by omega
   have HR:Hid (idxL l v = -1):=lH (idxL_no (fun j z hj hz=>HNO.out j z (by have:=HL.out;omega) hz))
   have K1:=lH kw
   clear hk hlt kw
   go_wp2_with fail
   go_ret
   exact ⟨by rw [HR.out];rfl,K1.out⟩
def IsjRel (c:List Nd) (n:Nat) (w:World) (o i:Value) (wr:World):Prop :=
 ∃ k:Nat,k≤n∧i=.int .i64 k∧OwnL 1 encI 3 w.heap.size wr o ((c.take k).map Nd.id)∧Ex w wr
set_option maxRecDepth 100000 in
set_option maxHeartbeats 2000000 in
theorem idsj_r (a:Option Addr) (n c:Nat) (l:List Nd) (w:World) (hs:Sl 3 encN w a n l) (hn:n≤100000) :
  Calls Tryz.prog 117 #[.slice a n c] w (OiPost (l.map Nd.id) w):=by
 have HL:=lH hs.len
 have hll:=hs.len
 have HS:=lH hs
 clear hs
 go_enter Tryz.func117,Tryz.ntmps117
 go_wp2_with fail
 go_loopw [3,4] (fun o i wr=>IsjRel l n w o i wr) (fun _ i _=>n-(intOf i).toNat)
 case atStart=>exact ⟨0,by omega,rfl,OwnL.nil _ _ _ _ _,Ex.refl _⟩
 case round =>
  obtain ⟨j,hj,rfl,own,ki⟩:=hrel
  obtain ⟨wi,rfl⟩:∃ wi:World,wi=wr:=⟨_,rfl⟩
  by_cases hjm:j<n
  ·obtain ⟨x3,o3,y,rfl,hx3,hy,hc3⟩:=(HS.out.nx ki).at hjm
   have e0:wi.cell? ⟨x3,o3+j*3,none⟩=some (.int .i64 y.id):=hc3 0 _ rfl
   have SN:Hid ((l.take (j+1)).map Nd.id=(l.take j).map Nd.id++[y.id]):=lH (by rw [take_snocN l j y hy,List.map_append];rfl)
   have hrl:((l.take j).map Nd.id).length=j:=by rw [List.length_map,List.length_take];omega
   clear hy hc3
   have zb:=ki.size
   generalize (l.take j).map Nd.id=row at own SN hrl
   generalize y.id=yi at SN e0
   go_wp2_with (at_builtin;(refine wpList_append_lit (enc:=encI) wi rfl _ _ 22 rfl w.heap.size 3 (.int .i64 0) 1 8 Tryz.underlying22 Tryz.infoI6 rfl (by omega) (by omega) _ _ own rfl (yi:Int) _ rfl rfl (by simp [encI,Value.oneCell']) _ (by simp) rfl (by omega) (by omega) _ ?_);intro v5 w6 own6 ch0 ch1 hz6)
   refine ⟨⟨j+1,by omega,by go_num,by rw [SN.out];exact own6,Chg.trans ki ch1⟩,by simp [intOf];omega⟩
  ·obtain rfl:j=n:=by omega
   rw [List.take_of_length_le (by omega)] at own
   have own:=lH own
   clear hj hjm
   go_wp2_with fail
   go_ret
   exact ⟨_,rfl,own.out,ki⟩
def encV (v:Value):List Value:=[v]
def encNt (v:Nat):List Value:=[.int .i64 v]
theorem flatV (l:List Value):l.flatMap encV=l:=by
 induction l with
 | nil=>rfl
 | cons x l ih=>rw [List.flatMap_cons,ih];rfl
theorem flatNt (l:List Nat):l.flatMap encNt=l.map fun v:Nat=>Value.int .i64 (v:Int):=by
 induction l with
 | nil=>rfl
 | cons x l ih=>rw [List.flatMap_cons,ih];rfl
theorem labs_of {e base n:Nat} {w:World} {v:Value} {L:List Value} (h:OwnL 1 encV e base w v L) (hl:L.length=n) (hv:∀ i,i<n→L[i]?=some (.int .i64 i)):OwnL 1 encNt e base w v (List.range n):=by
 have:L=(List.range n).map fun i:Nat=>Value.int .i64 (i:Int):=by
  refine List.ext_getElem? fun i=>?_
  by_cases hi:i<n
  ·rw [hv i hi,List.getElem?_map,List.getElem?_range hi];rfl
  ·rw [List.getElem?_eq_none (by omega),List.getElem?_eq_none (by simp;omega)]
 unfold OwnL at h ⊢
 rw [flatV] at h
 rw [flatNt,List.length_range,← this,← hl]
 exact h
theorem make_row (w:World) (n:Nat) (hn:n≤1000):∃ w' L,(Instr.makeSlice 22 (.int .i64 n) (.int .i64 n)).run Tryz.prog w=.ok (.slice (some ⟨w.heap.size,0,none⟩) n n) w'∧OwnL 1 encV 3 w.heap.size w' (.slice (some ⟨w.heap.size,0,none⟩) n n) L∧L.length=n∧Ex w w':=by
 obtain ⟨i,hi,hz0,hz1,hz2⟩:=info_parts Tryz.infoI6
 obtain ⟨w',hrun,hr,hg⟩:=run_makeSlice_full (P:=Tryz.prog) (w:=w) w.heap.size 22 3 i (.int .i64 0) 1 Tryz.underlying22 hi hz0 hz1 .i64 .i64 n (by omega) (by rw [hz2];omega) (by unfold maxLen;omega) (Nat.le_refl _)
 have hl:(madeCells (Value.int .i64 0).cells (n*1)).toList.length=n:=by simp [size_madeCells]
 refine ⟨w',_,hrun,?_,hl,⟨hg.os,hg.tape,hg.output,hg.size,fun k hk=>hg.block k hk (by simp)⟩⟩
 unfold OwnL
 rw [flatV,hl]
 exact hr
def JPost (m:Nat) (w:World) (e:Ending) (w':World):Prop:=∃ a c,e=.returned (.slice a m c)∧Ex w w'
abbrev LabRow (base g n:Nat) (w:World) (L:List Nat):Prop:=OwnL 1 encNt 3 base w (.slice (some ⟨g,0,none⟩) n n) L
def JaRel (n g:Nat) (w:World) (i:Value) (wr:World):Prop :=
 ∃ (k:Nat) (L:List Value),k≤n∧i=.int .i64 k∧OwnL 1 encV 3 w.heap.size wr (.slice (some ⟨g,0,none⟩) n n) L∧L.length=n∧(∀ i,i<k→L[i]?=some (.int .i64 i))∧Ex w wr
def JbRel (ids:List Int) (E:List (Int×Int)) (g n:Nat) (w:World) (i:Value) (wr:World):Prop :=
 ∃ t:Nat,t≤n∧i=.int .i64 t∧LabRow w.heap.size g n wr (Lab.labsL ids E t)∧Ex w wr
def JcRel (ids:List Int) (E:List (Int×Int)) (lab:List Nat) (g n:Nat) (w:World) (i:Value) (wr:World):Prop :=
 ∃ j:Nat,j≤E.length∧i=.int .i64 j∧LabRow w.heap.size g n wr ((E.take j).foldl (Lab.stepL ids) lab)∧Ex w wr
theorem lab_cell {base g n i:Nat} {w:World} {cur:List Nat} (h:LabRow base g n w cur) (hi:i<cur.length):w.cell? ⟨g,i,none⟩=some (.int .i64 (cur.getD i 0:Nat))∧w.frozen? ⟨g,i,none⟩=false:=by
 obtain ⟨s1,s2,_⟩:=own_set1 (sz:=1) (enc:=encNt) (fun _=>rfl) h (List.getElem?_eq_getElem hi) (c:=0) (by omega)
 simp only [Nat.mul_one,Nat.add_zero] at s1 s2
 refine ⟨?_,s2⟩
 rw [s1,List.getD_eq_getElem?_getD,List.getElem?_eq_getElem hi]
 rfl
theorem lab_set {base g n i:Nat} {w:World} {cur:List Nat} (h:LabRow base g n w cur) (hi:i<cur.length) (m:Nat):LabRow base g n (w.setCell ⟨g,i,none⟩ (.int .i64 (m:Nat))) (cur.set i m):=by
 obtain ⟨_,_,s3⟩:=own_set1 (sz:=1) (enc:=encNt) (fun _=>rfl) h (List.getElem?_eq_getElem hi) (c:=0) (by omega)
 simp only [Nat.mul_one,Nat.add_zero] at s3
 exact s3 m _ rfl
theorem fold_len (ids:List Int) (F:List (Int×Int)) (lab:List Nat):(F.foldl (Lab.stepL ids) lab).length=lab.length:=by
 induction F generalizing lab with
 | nil=>rfl
 | cons q F ih =>
  rw [List.foldl_cons,ih]
  unfold Lab.stepL
  split
  ·exact Lab.join_len _ _ _
  ·rfl
theorem labs_len (ids:List Int) (E:List (Int×Int)) (t:Nat):(Lab.labsL ids E t).length=ids.length:=by
 induction t with
 | zero=>simp [Lab.labsL]
 | succ t ih=>exact (fold_len ids E _).trans ih
theorem idxL_some {l:List Int} {v:Int} {i:Nat} (h:l.findIdx? (·==v)=some i):idxL l v=i∧i<l.length:=by
 unfold idxL
 rw [h]
 exact ⟨rfl,(List.findIdx?_eq_some_iff_getElem.1 h).1⟩
theorem idxL_none {l:List Int} {v:Int} (h:l.findIdx? (·==v)=none):idxL l v = -1:=by unfold idxL;rw [h]
def encHd (h:Hdr):List Value:=[h.val]
theorem Tryz.infoSI:(Tryz.prog.info? 22).map (fun i=>(i.zero,i.size,i.bytes))=some (some (.slice none 0 0),1,24):=by kernel_rfl
def cntL (lab:List Nat) (i:Nat):Nat:=((List.range i).filter fun k=>lab.getD k 0==k).length
theorem cntL_succ (lab:List Nat) (i:Nat):cntL lab (i+1)=cntL lab i+if lab.getD i 0=i then 1 else 0:=by
 unfold cntL
 rw [List.range_succ,List.filter_append,List.length_append]
 by_cases h:lab.getD i 0=i
 ·have hb:(lab.getD i 0==i)=true:=by rw [beq_iff_eq];exact h
  rw [if_pos h]
  simp only [List.filter_cons,List.filter_nil,hb]
  rfl
 ·have hb:(lab.getD i 0==i)=false:=by rw [beq_eq_false_iff_ne];exact h
  rw [if_neg h]
  simp only [List.filter_cons,List.filter_nil,hb]
  rfl
theorem cntL_le (lab:List Nat) (i:Nat):cntL lab i≤i:=by
 unfold cntL
 have:=List.length_filter_le (fun k=>lab.getD k 0==k) (List.range i)
 simpa using this
def JdRel (lab:List Nat) (n:Nat) (w:World) (o i:Value) (wr:World):Prop :=
 ∃ (k:Nat) (qs:List Hdr),k≤n∧i=.int .i64 k∧OwnL 1 encHd 22 w.heap.size wr o qs∧qs.length=cntL lab k∧Ex w wr
def JeRel (b:Prop) (k n:Nat) (w:World) (o i:Value) (wr:World):Prop :=
 ∃ (j:Nat) (l:List Int),k≤j∧j≤n∧i=.int .i64 j∧OwnL 1 encI 3 w.heap.size wr o l∧l.length≤j∧(b→k<j→l≠[])∧(¬ b→l=[])∧Ex w wr
set_option maxRecDepth 100000 in
set_option maxHeartbeats 16000000 in
theorem joined_r (a:Option Addr) (n c:Nat) (N:List Nd) (a2:Option Addr) (n2 c2:Nat) (E:List (Int×Int)) (w:World) (h:Sl 3 encN w a n N) (hn:n≤1000) (h2:Sl 2 encP2 w a2 n2 E) (hn2:n2≤1000000) :
  Calls Tryz.prog 120 #[.slice a n c,.slice a2 n2 c2] w (JPost (Lab.partsL (N.map Nd.id) E) w):=by
 have HL:=lH h.len
 have HL2:=lH h2.len
 have EX:=Ex.refl w
 go_enter Tryz.func120,Tryz.ntmps120
 go_wp2_with fail
 (with_reducible refine (idsj_r _ _ _ N _ h (by omega)).mono ?_)
 rintro e w1 ⟨v1,rfl,own,kk⟩
 replace h2:=h2.nx kk
 replace EX:=EX.nx kk
 clear kk
 obtain ⟨aI,cI,rfl,IDS,_,_,_⟩:=own.slf (fun _=>rfl)
 have hIl:(N.map Nd.id).length=n:=by rw [List.length_map];exact HL.out
 rw [hIl] at IDS ⊢
 generalize hids:N.map Nd.id=ids at IDS hIl ⊢
 have HI:=lH hids
 clear hids
 have IL:=lH hIl
 have IDS:=lH IDS.sl
 have H2:=lH h2
 have EXH:=lH EX
 clear own h h2 EX hIl
 obtain ⟨w2,L0,hmk,row,hrl,k2⟩:=make_row w1 n hn
 obtain ⟨g,hg⟩:∃ g,g=w1.heap.size:=⟨_,rfl⟩
 rw [← hg] at hmk row
 have HG:=lH hg
 have zg:w1.heap.size≤g:=by omega
 have ROW:=lH row
 have K2:=lH k2
 have HR:=lH hrl
 clear hg row k2 hrl
 go_wp2_with fail
 clear hmk
 go_loopw [7] (fun i wr=>JaRel n g w1 i wr) (fun i _=>n-(intOf i).toNat)
 case atStart=>exact ⟨0,L0,Nat.zero_le _,rfl,by rw [HG.out];rw [HG.out] at ROW;exact ROW.out,HR.out,fun i hi=>absurd hi (Nat.not_lt_zero _),K2.out⟩
 case round =>
  clear ROW K2 HR
  obtain ⟨k,L,hk,rfl,row,hL,hLv,kw⟩:=hrel
  obtain ⟨wo,rfl⟩:∃ wo:World,wo=wr:=⟨_,rfl⟩
  have HLL:=lH hL
  have HLV:=lH hLv
  have KW:=lH kw
  clear hL hLv kw
  by_cases hlt:k<n
  ·have hy:L[k]?=some (L[k]'(by have:=HLL.out;omega)):=List.getElem?_eq_getElem _
   obtain ⟨s1,s2,s3⟩:=own_set1 (sz:=1) (enc:=encV) (fun _=>rfl) row hy (c:=0) (by omega)
   simp only [Nat.mul_one,Nat.add_zero] at s1 s2 s3
   generalize L[k]'(by have:=HLL.out;omega)=y at hy s1 s3
   have s1:wo.cell? ⟨g,k,none⟩=some y:=s1
   have RR:=lH (show JaRel n g w1 (.int .i64 ((k:Int)+1)) (wo.setCell ⟨g,k,none⟩ (.int .i64 k)) from ⟨k+1,L.set k (.int .i64 k),by omega,by go_num,s3 _ _ rfl,by rw [List.length_set];exact HLL.out,fun i hi=>by
    by_cases hik:i=k
    ·subst hik
     exact List.getElem?_set_self (by have:=HLL.out;omega)
    ·rw [List.getElem?_set_ne (fun h=>hik h.symm)]
     exact HLV.out i (by omega),KW.out.setNew _ zg⟩)
   clear row s3 hy
   go_wp2_with fail
   exact ⟨RR.out,by simp [intOf];omega⟩
  ·obtain rfl:n=k:=by omega
   have LR:=lH (labs_of row HLL.out (fun i hi=>HLV.out i hi))
   clear row hk hlt HLV HLL
   go_wp2_with fail
   go_loopw [8] (fun i wr=>JbRel ids E g n w1 i wr) (fun i _=>n-(intOf i).toNat)
   case atStart=>exact ⟨0,Nat.zero_le _,rfl,by show LabRow _ _ _ _ (List.range ids.length);rw [IL.out];exact LR.out,KW.out⟩
   case round =>
    clear LR KW
    obtain ⟨t,ht,rfl,row,kw⟩:=hrel
    obtain ⟨wt,rfl⟩:∃ wt:World,wt=wr:=⟨_,rfl⟩
    have KW:=lH kw
    clear kw
    by_cases htt:t<n
    ·have LL:=lH ((labs_len ids E t).trans IL.out)
     have LS:Hid (Lab.labsL ids E (t+1)=E.foldl (Lab.stepL ids) (Lab.labsL ids E t)):=lH rfl
     generalize Lab.labsL ids E t=lab at row LL LS
     have ROW:=lH row
     clear row
     go_wp2_with fail
     go_loopw [9] (fun i wr=>JcRel ids E lab g n w1 i wr) (fun i _=>E.length-(intOf i).toNat)
     case atStart=>exact ⟨0,Nat.zero_le _,rfl,ROW.out,KW.out⟩
     case round =>
      clear ROW KW
      obtain ⟨j,hj,rfl,row,kv⟩:=hrel
      obtain ⟨wp,rfl⟩:∃ wp:World,wp=wr:=⟨_,rfl⟩
      have KV:=lH kv
      have ROW:=lH row
      clear kv row
      by_cases hjl:j<n2
      ·obtain ⟨xe,oe,q,rfl,hxe,hq,hce⟩:=(H2.out.nx KV.out).at hjl
       have f0:wp.cell? ⟨xe,oe+j*2,none⟩=some (.int .i64 q.1):=by simpa using hce 0 _ rfl
       have f1:wp.cell? ⟨xe,oe+j*2+1,none⟩=some (.int .i64 q.2):=by simpa using hce 1 _ rfl
       have F0:=lH (fun wq (k:Ex wp wq)=>Chg.cellv k f0 hxe)
       have F1:=lH (fun wq (k:Ex wp wq)=>Chg.cellv k f1 hxe)
       have SN:Hid ((E.take (j+1)).foldl (Lab.stepL ids) lab=Lab.stepL ids ((E.take j).foldl (Lab.stepL ids) lab) q):=lH (by
        rw [List.take_add_one,hq,List.foldl_append];rfl)
       have CL:=lH ((fold_len ids (E.take j) lab).trans LL.out)
       have hjE:j+1≤E.length:=by have:=HL2.out;omega
       generalize (E.take j).foldl (Lab.stepL ids) lab=cur at ROW SN CL
       clear hce hq f0 f1 hxe
       go_upto_region 13 with fail
       refine wp_region_held_drew (S:=Ex wp) (by kernel_rfl) ((Ex.refl wp).drew) (fun hHeld=>?_)
       obtain ⟨wd,hwdx⟩:∃ wd:World,wd=World.drew wp:=⟨_,rfl⟩
       rw [← hwdx] at hHeld ⊢
       have hDrew:Ex wp wd:=by rw [hwdx];exact (Ex.refl wp).drew
       clear hwdx
       refine tkH 0 (v:=?_) rfl (by kernel_rfl) (fun _ _ _ h=>h) (by rfl) ?y1x0q5 (by assumption) ?z1x0q5
       case y1x0q5=>intro wq hSw;(go_simp);(try with_reducible rfl)
       refine tkH 1 (v:=?_) rfl (by kernel_rfl) (fun _ _ _ h=>h) (by rfl) ?y1x1q8 (by assumption) ?z1x1q8
       case y1x1q8=>intro wq hSw;(go_simp);(try with_reducible rfl)
       refine tkH 2 (v:=?_) rfl (by kernel_rfl) (fun _ _ _ h=>h) (by rfl) ?y1x2q11 (by assumption) ?z1x2q11
       case y1x2q11=>intro wq hSw;(go_simp);(try with_reducible rfl)
       refine tkH 3 (v:=?_) rfl (by kernel_rfl) (fun _ _ _ h=>h) (by rfl) ?y1x3q14 (by assumption) ?z1x3q14
       case y1x3q14=>intro wq hSw;(go_simp);(try with_reducible rfl)
       refine tkH 4 (v:=?_) rfl (by kernel_rfl) (fun _ _ _ h=>h) (by rfl) ?y1x4q17 (by assumption) ?z1x4q17
       case y1x4q17=>intro wq hSw;(go_simp);(try with_reducible rfl)
       refine tkH 5 (v:=?_) rfl (by kernel_rfl) (fun _ _ _ h=>h) (by rfl) ?y1x5q20 (by assumption) ?z1x5q20
       case y1x5q20=>intro wq hSw;(have cq:=F0.out wq hSw;go_simp);(try with_reducible rfl)
       refine tkH 7 (v:=?_) rfl (by kernel_rfl) (fun _ _ _ h=>h) (by rfl) ?y1x7q23 (by assumption) ?z1x7q23
       case y1x7q23=>intro wq hSw;(go_simp);(try with_reducible rfl)
       refine tkH 8 (v:=?_) rfl (by kernel_rfl) (fun _ _ _ h=>h) (by rfl) ?y1x8q26 (by assumption) ?z1x8q26
       case y1x8q26=>intro wq hSw;(go_simp);(try with_reducible rfl)
       refine tkH 9 (v:=?_) rfl (by kernel_rfl) (fun _ _ _ h=>h) (by rfl) ?y1x9q29 (by assumption) ?z1x9q29
       case y1x9q29=>intro wq hSw;(go_simp);(try with_reducible rfl)
       refine tkH 10 (v:=?_) rfl (by kernel_rfl) (fun _ _ _ h=>h) (by rfl) ?y1x10q32 (by assumption) ?z1x10q32
       case y1x10q32=>intro wq hSw;(go_simp);(try with_reducible rfl)
       refine tkH 11 (v:=?_) rfl (by kernel_rfl) (fun _ _ _ h=>h) (by rfl) ?y1x11q35 (by assumption) ?z1x11q35
       case y1x11q35=>intro wq hSw;(go_simp);(try with_reducible rfl)
       refine tkH 12 (v:=?_) rfl (by kernel_rfl) (fun _ _ _ h=>h) (by rfl) ?y1x12q38 (by assumption) ?z1x12q38
       case y1x12q38=>intro wq hSw;(have cq:=F1.out wq hSw;go_simp);(try with_reducible rfl)
       refine wpAnyH_ready (rs:=[6]) (by kernel_rfl) (by simp) ?_
       refine AllReadyH.cons (o:=⟨_,_,_,_,_,_⟩) rfl (fun K hK=>?_) AllReadyH.nil
       go_simp
       (with_reducible refine (index7_r _ _ _ ids q.1 _ (IDS.out.nx (KV.out.nx hHeld)) (by omega)).mono ?_)
       rintro e wb ⟨rfl,kk⟩
       replace hHeld:=hHeld.nx kk
       clear kk
       refine hK.out _ _ (hHeld) (fun hHeld=>?_)
       clear hK K
       refine wpAnyH_ready (rs:=[13]) (by kernel_rfl) (by simp) ?_
       refine AllReadyH.cons (o:=⟨_,_,_,_,_,_⟩) rfl (fun K hK=>?_) AllReadyH.nil
       go_simp
       (with_reducible refine (index7_r _ _ _ ids q.2 _ (IDS.out.nx (KV.out.nx hHeld)) (by omega)).mono ?_)
       rintro e wc ⟨rfl,kk⟩
       replace hHeld:=hHeld.nx kk
       clear kk
       refine hK.out _ _ (hHeld) (fun hHeld=>?_)
       clear hK K
       refine tkH 14 (v:=?_) rfl (by kernel_rfl) (fun _ _ _ h=>h) (by rfl) ?y1x14q61 (by assumption) ?z1x14q61
       case y1x14q61=>intro wq hSw;(go_simp);(try with_reducible rfl)
       refine tkH 15 (v:=?_) rfl (by kernel_rfl) (fun _ _ _ h=>h) (by rfl) ?y1x15q64 (by assumption) ?z1x15q64
       case y1x15q64=>intro wq hSw;(go_simp);(try with_reducible rfl)
       refine wpAnyH_done (by kernel_rfl) ?_ _
       have KC:=lH (KV.out.nx hHeld)
       have RC:=lH (ROW.out.nx hHeld)
       clear hHeld hDrew ROW
       cases e1:ids.findIdx? (·==q.1) with
       | none =>
        rw [idxL_none e1]
        have RR:=lH (show JcRel ids E lab g n w1 (.int .i64 ((j:Int)+1)) wc from ⟨j+1,hjE,by go_num,by rw [SN.out,show Lab.stepL ids cur q=cur by unfold Lab.stepL;rw [e1]];exact RC.out,KC.out⟩)
        clear e1
        go_wp2_with fail
        exact ⟨RR.out,by simp [intOf];omega⟩
       | some i1 =>
        obtain ⟨x1,hi1⟩:=idxL_some e1
        rw [x1]
        have hi1n:i1<n:=by have:=IL.out;omega
        cases e2:ids.findIdx? (·==q.2) with
        | none =>
         rw [idxL_none e2]
         have RR:=lH (show JcRel ids E lab g n w1 (.int .i64 ((j:Int)+1)) wc from ⟨j+1,hjE,by go_num,by rw [SN.out,show Lab.stepL ids cur q=cur by unfold Lab.stepL;rw [e1,e2]];exact RC.out,KC.out⟩)
         clear e1 e2 x1 hi1
         go_wp2_with fail
         exact ⟨RR.out,by simp [intOf];omega⟩
        | some i2 =>
         obtain ⟨x2,hi2⟩:=idxL_some e2
         rw [x2]
         have hi2n:i2<n:=by have:=IL.out;omega
         have ST:Hid (Lab.stepL ids cur q=Lab.joinL cur i1 i2):=lH (by unfold Lab.stepL;rw [e1,e2])
         have hc1:i1<cur.length:=by have:=CL.out;omega
         have hc2:i2<cur.length:=by have:=CL.out;omega
         obtain ⟨p1,r1⟩:=lab_cell RC.out hc1
         obtain ⟨p2,r2⟩:=lab_cell RC.out hc2
         have JJ:Hid (Lab.joinL cur i1 i2=(cur.set i1 (min (cur.getD i1 0) (cur.getD i2 0))).set i2 (min (cur.getD i1 0) (cur.getD i2 0))):=lH rfl
         generalize cur.getD i1 0=x at p1 JJ
         generalize cur.getD i2 0=y at p2 JJ
         have hmin:min (x:Int) (y:Int)=((min x y:Nat):Int):=by omega
         generalize min x y=m at hmin JJ
         have RR:=lH (fun d=>show JcRel ids E lab g n w1 (.int .i64 ((j:Int)+1)) (((wc.drewN d).setCell ⟨g,i1,none⟩ (.int .i64 (m:Nat))).setCell ⟨g,i2,none⟩ (.int .i64 (m:Nat))) from ⟨j+1,hjE,by go_num,by
          rw [SN.out,ST.out,JJ.out]
          exact lab_set (lab_set (OwnL.nx RC.out ((Ex.refl wc).drewN d)) hc1 m) (by rw [List.length_set];exact hc2) m,((KC.out.drewN d).setNew _ zg).setNew _ zg⟩)
         have q3:=fun d=>lab_cell (lab_set (OwnL.nx RC.out ((Ex.refl wc).drewN d)) hc1 m) (i:=i2) (by rw [List.length_set];exact hc2)
         have p3:=fun d=>(q3 d).1
         have r3:=fun d=>(q3 d).2
         clear e1 e2 x1 x2 hi1 hi2 hc1 hc2 ST SN RC JJ q3
         go_wp2_with fail
         go_quiet (fail)
         go_wp2_with fail
         exact ⟨RR.out _,by simp [intOf];omega⟩
      ·have hjE:j=E.length:=by have:=HL2.out;omega
       have RR:=lH (show JbRel ids E g n w1 (.int .i64 ((t:Int)+1)) wp from ⟨t+1,by omega,by go_num,by rw [LS.out];have h:=ROW.out;rw [hjE,List.take_of_length_le (Nat.le_refl _)] at h;exact h,KV.out⟩)
       clear hj hjE ROW
       go_wp2_with fail
       exact ⟨RR.out,by simp [intOf];omega⟩
    ·obtain rfl:n=t:=by omega
     have PT:Hid (Lab.partsL ids E=((List.range n).filter fun i=>(Lab.labsL ids E n).getD i 0==i).length):=lH (by unfold Lab.partsL;rw [IL.out])
     have LL:=lH ((labs_len ids E n).trans IL.out)
     generalize Lab.labsL ids E n=lab at row PT LL
     have ROW:=lH row
     clear row ht htt
     go_wp2_with fail
     go_loopw [13,14] (fun o i wr=>JdRel lab n wt o i wr) (fun _ i _=>n-(intOf i).toNat)
     case atStart=>exact ⟨0,[],Nat.zero_le _,rfl,OwnL.nil _ _ _ _ _,rfl,Ex.refl _⟩
     case round =>
      obtain ⟨k,qs,hk,rfl,own,hq,kv⟩:=hrel
      obtain ⟨wo,rfl⟩:∃ wo:World,wo=wr:=⟨_,rfl⟩
      have OWN:=lH own
      have HQ:=lH hq
      have KV:=lH kv
      have hql:qs.length≤1000:=by have:=cntL_le lab k;omega
      have hzv:=kv.size
      clear own hq kv
      by_cases hkn:k<n
      ·have CS:=lH (cntL_succ lab k)
       have hkl:k<lab.length:=by have:=LL.out;omega
       have RO:=lH (OwnL.nx ROW.out KV.out)
       go_wp2_with fail
       go_loopw [15,16] (fun o i wr=>JeRel (lab.getD k 0=k) k n wo o i wr) (fun _ i _=>n-(intOf i).toNat)
       case atStart=>exact ⟨k,[],Nat.le_refl _,hk,rfl,OwnL.nil _ _ _ _ _,Nat.zero_le _,fun _ h=>absurd h (Nat.lt_irrefl _),fun _=>rfl,Ex.refl _⟩
       case round =>
        obtain ⟨j,l,hkj,hjn,rfl,own,hll,hl1,hl2,kx⟩:=hrel
        obtain ⟨wp,rfl⟩:∃ wp:World,wp=wr:=⟨_,rfl⟩
        have RP:=lH (OwnL.nx RO.out kx)
        have OWL:=lH own
        have L1:=lH hl1
        have L2:=lH hl2
        have KX:=lH kx
        have zx:=kx.size
        obtain ⟨p1,r1⟩:=lab_cell RP.out hkl
        clear own hl1 hl2 kx
        by_cases hb:lab.getD k 0=k
        ·replace p1:wp.cell? ⟨g,k,none⟩=some (.int .i64 (k:Nat)):=by rw [hb] at p1;exact p1
         by_cases hjl:j<n
         ·obtain ⟨p2,r2⟩:=lab_cell RP.out (i:=j) (by have:=LL.out;omega)
          obtain ⟨xi,oi,v,rfl,hxi,hv,hci⟩:=(IDS.out.nx (KW.out.nx (KV.out.nx KX.out))).at hjl
          have f0:wp.cell? ⟨xi,oi+j,none⟩=some (.int .i64 v):=by simpa using hci 0 _ rfl
          clear hv hci
          have B0:=lH hb
          clear hb
          by_cases hx:lab.getD j 0=k
          ·replace p2:wp.cell? ⟨g,j,none⟩=some (.int .i64 (k:Nat)):=by rw [hx] at p2;exact p2
           have own:=OWL.out
           clear hx
           go_wp2_with (at_builtin;(refine wpList_append_lit (enc:=encI) wp rfl _ _ 22 rfl wo.heap.size 3 (.int .i64 0) 1 8 Tryz.underlying22 Tryz.infoI6 rfl (by omega) (by omega) _ _ own rfl (v:Int) _ rfl rfl (by simp [encI,Value.oneCell']) _ (by simp) rfl (by omega) (by omega) _ ?_);intro v5 w6 own6 ch0 ch1 hz6)
           refine ⟨⟨j+1,l++[v],by omega,by omega,by go_num,own6,by simp;omega,fun _ _=>by simp,fun h=>absurd B0.out h,Chg.trans KX.out ch1⟩,by simp [intOf];omega⟩
          ·have d2:(((lab.getD j 0:Nat):Int)==(k:Int))=false:=by rw [beq_eq_false_iff_ne];omega
           have hkj':k<j:=by
            rcases Nat.lt_or_ge k j with h | h
            ·exact h
            ·obtain rfl:k=j:=by omega
             exact absurd B0.out hx
           have RR:=lH (show JeRel (lab.getD k 0=k) k n wo u15 (.int .i64 ((j:Int)+1)) wp from ⟨j+1,l,by omega,by omega,by go_num,OWL.out,by omega,fun h _=>L1.out h hkj',L2.out,KX.out⟩)
           generalize lab.getD j 0=xj at p2 d2
           clear hx
           go_wp2_with fail
           exact ⟨RR.out,by simp [intOf];omega⟩
         ·obtain rfl:n=j:=by omega
          have hne:=L1.out hb hkn
          obtain ⟨A,C,rfl,_,_,_,_⟩:=OWL.out.slf (fun _=>rfl)
          have hpos:0<l.length:=List.length_pos_iff.2 hne
          have ownO:=OwnL.nx OWN.out KX.out
          have CS1:Hid (cntL lab (k+1)=cntL lab k+1):=lH (by rw [CS.out,if_pos hb])
          clear hb hne
          go_wp2_with (at_builtin;(refine wpList_append_lit (enc:=encHd) wp rfl _ _ 143 rfl wt.heap.size 22 (.slice none 0 0) 1 24 Tryz.underlying143 Tryz.infoSI rfl (by omega) (by omega) _ _ ownO rfl ((A,l.length,C):Hdr) _ rfl rfl (by simp [encHd,Hdr.val,Value.oneCell']) _ (by simp) rfl (by omega) (by omega) _ ?_);intro v5 w6 own6 ch0 ch1 hz6)
          refine ⟨⟨k+1,qs++[(A,l.length,C)],by omega,by go_num,own6,by rw [CS1.out,List.length_append,HQ.out];rfl,Chg.trans (KV.out.nx KX.out) ch1⟩,by simp [intOf];omega⟩
        ·have hl0:=L2.out hb
         have CS0:Hid (cntL lab (k+1)=cntL lab k):=lH (by rw [CS.out,if_neg hb];rfl)
         have RR:=lH (show JdRel lab n wt u13 (.int .i64 ((k:Int)+1)) wp from ⟨k+1,qs,by omega,by go_num,OwnL.nx OWN.out KX.out,by rw [CS0.out];exact HQ.out,KV.out.nx KX.out⟩)
         have d1:(((lab.getD k 0:Nat):Int)==(k:Int))=false:=by rw [beq_eq_false_iff_ne];omega
         subst hl0
         obtain ⟨A,C,rfl,_,_,_,_⟩:=OWL.out.slf (fun _=>rfl)
         generalize lab.getD k 0=xk at p1 d1
         clear hb
         by_cases hjl:j<n
         ·go_wp2_with fail
          exact ⟨RR.out,by simp [intOf];omega⟩
         ·obtain rfl:n=j:=by omega
          go_wp2_with fail
          exact ⟨RR.out,by simp [intOf];omega⟩
      ·obtain rfl:n=k:=by omega
       obtain ⟨A,C,rfl,_,_,_,_⟩:=OWN.out.slf (fun _=>rfl)
       have KE:=lH (EXH.out.nx (KW.out.nx KV.out))
       have HQ2:Hid (Lab.partsL ids E=qs.length):=lH (by rw [PT.out,HQ.out];rfl)
       clear hk hkn
       go_wp2_with fail
       go_ret
       exact ⟨_,_,by first | (rw [HQ2.out];rfl) | (rw [HI.out,HQ2.out];rfl),KE.out⟩
set_option maxRecDepth 100000 in
set_option maxHeartbeats 4000000 in
theorem connected_r (a:Option Addr) (n c:Nat) (N:List Nd) (a2:Option Addr) (n2 c2:Nat) (P:List Pr) (w:World) (h:Sl 3 encN w a n N) (hn:n≤1000) (h2:PL w a2 n2 P) (hn2:n2≤1000000) (hP:∀ p∈P,p.known.length≤2000000∧p.near.length≤2000000) :
  Calls Tryz.prog 59 #[.slice a n c,.slice a2 n2 c2] w fun e w'=>e=.returned (.bool (connB N P))∧Ex w w':=by
 have HL:=lH h.len
 have EX:=Ex.refl w
 go_enter Tryz.func59,Tryz.ntmps59
 go_wp2_with fail
 (with_reducible refine (is_r _ _ _ _ _ h (by omega)).mono ?_)
 rintro e w1 ⟨rfl,kk⟩
 replace h:=h.nx kk
 replace h2:=h2.nx kk
 replace EX:=EX.nx kk
 clear kk
 by_cases hck:checkN N=0
 case neg =>
  have d1:(checkN N==0)=false:=by simpa using hck
  have E0:Hid (connB N P=false):=lH (by unfold connB;rw [d1];rfl)
  have EH:=lH EX
  rw [d1]
  clear h h2 hck EX
  go_wp2_with fail
  go_ret
  exact ⟨by rw [E0.out];rfl,EH.out⟩
 have d1:(checkN N==0)=true:=by simpa using hck
 have E0:Hid (connB N P=decide (Lab.partsL (N.map Nd.id) (pairsN N P)≤1)):=lH (by unfold connB;rw [d1];rfl)
 rw [d1]
 have HC:=lH hck
 clear hck d1
 go_wp2_with fail
 (with_reducible refine (pairs_r _ _ _ N _ _ _ P _ h hn HC.out h2 hn2 hP).mono ?_)
 rintro e w2 ⟨v2,rfl,own,kk⟩
 replace h:=h.nx kk
 replace EX:=EX.nx kk
 clear kk
 obtain ⟨a3,c3,rfl,r3,_,_,_,_⟩:=own.rd (fun _=>rfl)
 have S3:Sl 2 encP2 w2 a3 (pairsN N P).length (pairsN N P):=Rd.mono r3 (fun _ hk=>hk.2)
 have hpl:(pairsN N P).length≤1000000:=by have:=prsU_len HC.out P N.length;rw [prsU_all] at this;omega
 clear own r3 h2
 go_wp2_with fail
 (with_reducible refine (joined_r _ _ _ N _ _ _ (pairsN N P) _ h hn S3 hpl).mono ?_)
 rintro e w3 ⟨aj,cj,rfl,kk⟩
 replace EX:=EX.nx kk
 clear kk
 generalize Lab.partsL (N.map Nd.id) (pairsN N P)=m at E0 ⊢
 have EH:=lH EX
 clear h S3 hpl EX
 have E1:Hid (connB N P=decide ((m:Int)≤1)):=lH (by rw [E0.out,decide_eq_decide];omega)
 clear E0
 go_wp2_with fail
 go_ret
 exact ⟨by rw [E1.out];rfl,EH.out⟩
end Go.Proofs.YthdkeibapcaclaaGreatDoor
