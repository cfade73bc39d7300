/- Texts for FlightConnectsProof. -/
import Derived.Test.YthdkeibapcaclaaGreatDoorFmAll12
import Derived.Test.YthdkeibapcaclaaGreatDoorFmACD1
import Derived.Test.YthdkeibapcaclaaGreatDoorFmABC2
import Derived.Test.YthdkeibapcaclaaGreatDoorFmAB1
set_option linter.unusedSimpArgs false
set_option linter.unusedVariables false

namespace Go.Proofs.YthdkeibapcaclaaGreatDoor
open Go.RowKit
section
variable {N:List Nd} {f g:Fl}
def addP (N:List Nd) (p:Pr) (m:Int×Int):Pr:=if (findN N m.2).2=true∧p.id=m.1 then { p with known:=p.known++[m.2] } else p
theorem addP_id (p:Pr) (m:Int×Int):(addP N p m).id=p.id:=by unfold addP;split<;>rfl
theorem addP_fold_id:∀ (M:List (Int×Int)) (p:Pr),(M.foldl (addP N) p).id=p.id
 | [],_=>rfl
 | m::M,p=>by rw [List.foldl_cons,addP_fold_id M,addP_id]
theorem addM_map (S:List Nd) (F:Nd→Pr) (m:Int×Int):addM N (S.map F) m=S.map fun x=>addP N (F x) m:=by
 unfold addM
 by_cases h:(findN N m.2).2=true
 ·rw [if_pos h,List.map_map]
  refine List.map_congr_left fun x _=>?_
  unfold addP
  simp only [Function.comp,h,true_and]
 ·rw [if_neg h]
  refine List.map_congr_left fun x _=>?_
  unfold addP
  rw [if_neg (fun hh=>h hh.1)]
theorem addM_fold (S:List Nd):∀ (M:List (Int×Int)) (F:Nd→Pr),M.foldl (addM N) (S.map F)=S.map fun x=>M.foldl (addP N) (F x)
 | [],_=>rfl
 | m::M,F=>by rw [List.foldl_cons,addM_map,addM_fold S M];rfl
theorem addP_more:∀ (M:List (Int×Int)) (p:Pr),(M.foldl (addP N) p).left=p.left∧(M.foldl (addP N) p).right=p.right∧(M.foldl (addP N) p).near=p.near∧∀ v∈p.known,v∈(M.foldl (addP N) p).known
 | [],p=>⟨rfl,rfl,rfl,fun _ h=>h⟩
 | m::M,p=>by
  obtain ⟨h1,h2,h3,h4⟩:=addP_more M (addP N p m)
  rw [List.foldl_cons,h1,h2,h3]
  have e:(addP N p m).left=p.left∧(addP N p m).right=p.right∧(addP N p m).near=p.near∧∀ v∈p.known,v∈(addP N p m).known:=by
   unfold addP
   split
   ·exact ⟨rfl,rfl,rfl,fun v hv=>List.mem_append_left _ hv⟩
   ·exact ⟨rfl,rfl,rfl,fun v hv=>hv⟩
  exact ⟨e.1,e.2.1,e.2.2.1,fun v hv=>h4 v (e.2.2.2 v hv)⟩
theorem addP_told:∀ (M:List (Int×Int)) (p:Pr) (v:Int),(p.id,v)∈M→(findN N v).2=true→v∈(M.foldl (addP N) p).known
 | [],_,_,h,_=>by cases h
 | m::M,p,v,h,hv=>by
  rw [List.foldl_cons]
  rcases List.mem_cons.1 h with h | h
  ·refine (addP_more M _).2.2.2 v ?_
   unfold addP
   rw [if_pos ⟨by rw [← h];exact hv,by rw [← h]⟩,← h]
   exact List.mem_append_right _ (by simp)
  ·exact addP_told M (addP N p m) v (by rw [addP_id];exact h) hv
theorem conn_true (h:ConnF N f):conF N f=true:=by
 have h0:=h.1
 unfold conF
 rw [if_pos h0,connB_iff]
 have hQ:f.msgs.foldl (addM N) (normalN N f.peers)=(sortN N).map fun x=>f.msgs.foldl (addP N) (peerN f.peers x.id):=by
  unfold normalN
  rw [if_pos h0]
  exact addM_fold (sortN N) f.msgs fun x=>peerN f.peers x.id
 rw [hQ]
 have hp:∀ x∈N,peerN ((sortN N).map fun x=>f.msgs.foldl (addP N) (peerN f.peers x.id)) x.id=f.msgs.foldl (addP N) (peerN f.peers x.id):=fun x hx =>
  peer_map (sort_ids h0) (f:=fun x=>f.msgs.foldl (addP N) (peerN f.peers x.id)) (fun y=>by show (f.msgs.foldl (addP N) (peerN f.peers y.id)).id=y.id;rw [addP_fold_id,peer_id]) ((sortN_mem N x).2 hx)
 refine ⟨h0,fun x hx y hy=>(h.2 x hx y hy).mono fun a c e=>?_⟩
 rcases e with ⟨⟨z,hz,rfl⟩,hv⟩ | ⟨hm,⟨z,hz,rfl⟩,hc⟩
 ·refine Cl.one (.inl ⟨⟨z,hz,rfl⟩,?_⟩)
  rw [hp z hz]
  obtain ⟨r1,r2,r3⟩:=(mem_refs h0).1 hv
  obtain ⟨q1,q2,q3,q4⟩:=addP_more (N:=N) f.msgs (peerN f.peers z.id)
  refine (mem_refs h0).2 ⟨r1,by rw [addP_fold_id];exact r2,?_⟩
  unfold numsP at r3 ⊢
  rw [q1,q2,q3]
  simp only [List.mem_append] at r3 ⊢
  rcases r3 with (r | r) | r
  ·exact .inl (.inl (q4 _ r))
  ·exact .inl (.inr r)
  ·exact .inr r
 ·by_cases he:c=z.id
  ·rw [he];exact .refl _
  ·refine Cl.one (.inl ⟨⟨z,hz,rfl⟩,?_⟩)
   rw [hp z hz]
   refine (mem_refs h0).2 ⟨hc,by rw [addP_fold_id,peer_id];exact he,?_⟩
   unfold numsP
   exact List.mem_append_left _ (List.mem_append_left _ (addP_told f.msgs _ c (by rw [peer_id];exact hm) ((find_node h0).2 hc)))
end
def FcnRel (b g6:Nat) (L:List Nd) (x1:World) (i:Value) (wr:World):Prop :=
 ∃ (k:Nat) (aQ:Option Addr) (cQ:Nat) (aR:Option Addr) (cR:Nat) (F:Fl),k≤8∧i=.int .i64 k∧Blk wr g6 [.slice aQ F.peers.length cQ,.slice aR F.msgs.length cR] 27∧FlX (X2 b g6) wr aQ aR F∧Flies L (4+100*k) F∧TK wr b∧Exb b x1 wr
theorem play_x5 {b:Nat} (a:Option Addr) (nN c:Nat) (N:List Nd) (a2:Option Addr) (c2:Nat) (a3:Option Addr) (c3:Nat) (F0:Fl) (hh:Int) (B:Nat) (X:Nat→Prop) (w:World) (hXb:X b) (hXl:∀ k,X k→k<w.heap.size) (h:TK w b) (hs:Slb 3 encN b w a nN N) (hn:nN≤10) (hc:nN≤c) (hm:c≤maxLen) (hi:∀ x∈N,I64 x.id) (hw:∀ x∈N,x.word<4294967296)
  (hF:FlX X w a2 a3 F0) (hfl:Flies N B F0) (hB:B≤90000) :
  Calls Tryz.prog 27 #[.pointer (some ⟨b,0,none⟩),.slice a nN c,.agg #[.slice a2 F0.peers.length c2,.slice a3 F0.msgs.length c3],.int .i64 hh,.int .i64 5] w (FyPost X b N (B+100) w) :=
 play_x a nN c N a2 c2 a3 c3 F0 hh 5 B X w hXb hXl h hs hn hc hm hi hw hF hfl (by omega)
set_option maxRecDepth 100000 in
set_option maxHeartbeats 16000000 in
theorem flightconnects_walk (a1:Option Addr) (n1 c1:Nat) (l1:List Int) (w:World) (h1:Sl 1 encI w a1 n1 l1) (hc1:n1≤c1) (hm1:c1≤maxLen) (hL:LetG w) :
  Calls Tryz.prog 4 #[.slice a1 n1 c1] w fun e w'=>e=.returned (.bool true)∧Ex w w':=by
 go_enter Tryz.func4,Tryz.ntmps4
 go_wp2_with fail
 refine (new_t _ _ _ l1 _ h1 hc1 hm1).mono ?_
 rintro e w1 ⟨rfl,T,kk,z1⟩
 obtain ⟨b,hb⟩:∃ b,b=w.heap.size:=⟨_,rfl⟩
 rw [← hb] at T ⊢
 have hgl:¬ 0=b:=by have:=hL.lt;omega
 have L1:Hid (LetG w1):=lH (hL.nx kk)
 have QL:Hid (Exl b w w1):=lH ⟨kk,by omega⟩
 clear h1 hL kk hb z1
 have hbo:=T.lt
 go_wp2_with fail
 refine (some_n 6 _ T L1.out hgl (by omega) (by omega)).mono ?_
 clear T
 rintro e x1 ⟨v1,L,rfl,R,hL1⟩
 have kw:=R.k
 have T:=R.tape
 have hb1:=T.lt
 obtain ⟨aX,cX,rfl,SX,hcX,hmX,_⟩:=R.own.slf (fun _=>rfl)
 have SX:=SX.slb hbo
 have RL:=R.len
 have H0:=lH R.ok
 have HW:Hid (∀ x∈L,x.word<4294967296):=lH (fun x hx=>by have:=R.word x hx;omega)
 have HI:Hid (∀ x∈L,I64 x.id):=lH (fun x hx=>(roster_ok R.ok x hx).1.1)
 have HS:=lH (fun wq (kq:Exb b x1 wq)=>SX.nxb kq)
 have KW:=lH kw
 clear R SX kw
 go_wp2_with fail
 refine (next_t 3 _ T (by omega) (by omega)).mono ?_
 clear T
 rintro e x2 ⟨hh,rfl,hh0,hh1,T,kk⟩
 have K1:=lH kk
 clear kk
 obtain ⟨ht,rfl⟩:∃ t:Nat,hh=t:=⟨hh.toNat,by omega⟩
 have ht16:ht≤16:=by omega
 have hb2:=T.lt
 go_wp2_with fail
 refine (joined_t ht _ _ _ L _ T (HS.out _ K1.out) (by omega) hcX hmX H0.out (by omega)).mono ?_
 clear T
 rintro e x3 ⟨vJ,qJ,P0,rfl,J⟩
 have T:=J.tape
 have HC:=lH J.conn
 have HF:Hid (FewQ 100 200 P0):=lH J.small
 have hPJ:P0.length≤10:=by have:=J.ids.1;omega
 obtain ⟨aJ,cJ,rfl,PJ⟩:=J.own.pls
 replace K1:=lH (K1.out.nxb J.k)
 have PJ:PLb b x3 aJ P0.length P0:=PJ.plb (fun x hx=>⟨hx.2,by omega⟩)
 have SM:=lH (few_smallF HF.out)
 clear J
 have hb3:=T.lt
 go_wp2_with fail
 refine (made_x _ _ _ L _ _ _ P0 _ T (HS.out _ K1.out) (by omega) HI.out PJ (by omega) (show SmallP P0 from by have:=SM.out;unfold SmF at this;exact this.1)).mono ?_
 clear T
 rintro e x4 ⟨vP,vM,qs,M,rfl,FO,hM4,T,kk⟩
 replace K1:=lH (K1.out.nxb kk)
 have FI:Flies L 4 ⟨normalN L P0,M⟩:=⟨conn_made HC.out M,few_smF HF.out M,norm_lenF (norm_normal H0.out P0 M),hM4⟩
 generalize (⟨normalN L P0,M⟩:Fl)=F0 at FO FI
 obtain ⟨aP,cP,aM,cM,rfl,rfl,FX⟩:=FO.flx (X:=fun k=>k=b) (fun k hk=>by have:k=b:=hk;omega)
 have FIH:=lH FI
 clear kk FO FI PJ
 have hx4:=T.lt
 have B6:=Blk.new x4 [.slice aP F0.peers.length cP,.slice aM F0.msgs.length cM] 27
 have kk:=Ex.new x4 (.cells #[.slice aP F0.peers.length cP,.slice aM F0.msgs.length cM] 27)
 obtain ⟨x5,hx5⟩:∃ x5,x5=x4.alloc (.cells #[.slice aP F0.peers.length cP,.slice aM F0.msgs.length cM] 27):=⟨_,rfl⟩
 obtain ⟨g6,hg6⟩:∃ g6,g6=x4.heap.size:=⟨_,rfl⟩
 replace B6:Blk x5 g6 [.slice aP F0.peers.length cP,.slice aM F0.msgs.length cM] 27:=by rw [hx5,hg6];exact B6
 rw [← hx5] at kk
 have Hx5:=lH hx5
 have Hg6:=lH hg6
 replace T:=T.nx kk
 have FX6:Hid (FlX (X2 b g6) x5 aP aM F0):=lH (FX.x2 (by omega) kk)
 have KX:=lH (K1.out.nxb (kk.b b))
 have zg6:x1.heap.size≤g6:=by have:=K1.out.size;omega
 have hb6:¬ g6=b:=by omega
 have hxb:X2 b g6 b:=.inl rfl
 have hx6:X2 b g6 g6:=.inr rfl
 clear kk hx5 hg6 FX K1
 have R0:=lH (show FcnRel b g6 L x1 (.int .i64 0) x5 from ⟨0,aP,cP,aM,cM,F0,by omega,rfl,B6,FX6.out,FIH.out,T,KX.out⟩)
 clear T FX6 FIH KX B6
 go_upto_region 5 with fail
 rw [← Hg6.out,← Hx5.out]
 clear Hg6 Hx5
 go_loopw [7] (fun i wr=>FcnRel b g6 L x1 i wr) (fun i _=>8-(intOf i).toNat)
 case atStart=>exact R0.out
 case round =>
  clear R0
  obtain ⟨k,aQ,cQ,aR,cR,F,hk,rfl,B6,FSn,FI,T,kx⟩:=hrel
  obtain ⟨wi,rfl⟩:∃ wi:World,wi=wr:=⟨_,rfl⟩
  have KX:=lH kx
  have FSH:=lH FSn
  have FIH:=lH FI
  have TH:=lH T
  have B6H:=lH B6
  have hl6:=B6.lt
  have hlb:=T.lt
  have ZP:=lH FI.len
  have zP:F.peers.length≤10:=by have:=FI.len;omega
  have zM:F.msgs.length≤10000:=by have:=FI.msgs;omega
  have zL:L.length≤6:=by omega
  clear kx FSn FI T B6
  by_cases hk8:k<8
  ·have q0:=B6H.out.cell 0 _ rfl
   have q1:=B6H.out.cell 1 _ rfl
   go_wp2_with fail
   (with_reducible refine (conn_f _ _ _ L _ _ _ F.peers _ _ _ F.msgs _ (HS.out _ KX.out).sl (by omega) hcX hmX FSH.out.pl (by omega) FIH.out.sm FSH.out.sl (by omega)).mono ?_)
   rintro e wj ⟨rfl,kk⟩
   rw [show conF L ⟨F.peers,F.msgs⟩=true from conn_true FIH.out.conn]
   replace KX:=lH (KX.out.nxb (kk.b b))
   replace FSH:=lH (FSH.out.nx kk)
   replace B6H:=lH (B6H.out.nx kk)
   have T:=TH.out.nx kk
   have hj:=kk.size
   clear q0 q1 kk TH
   have q0:=B6H.out.cell 0 _ rfl
   have q1:=B6H.out.cell 1 _ rfl
   have PL5:=play_x5 aX L.length cX L aQ cQ aR cR F ht (4+100*k) (X2 b g6) wj hxb (fun k hk=>by rcases hk with rfl | rfl<;>omega) T (HS.out _ KX.out) (by omega) hcX hmX HI.out HW.out FSH.out FIH.out (by omega)
   go_wp2_with fail
   (with_reducible refine PL5.mono ?_)
   clear T q0 q1
   rintro e wu ⟨aA,cA,aB,cB,G,rfl,FU,FG,T,kk⟩
   replace KX:=lH (KX.out.nxb kk)
   replace B6H:=lH (B6H.out.nxb hb6 kk)
   have FUH:=lH FU
   have FGH:=lH FG
   have TH:=lH T
   clear kk FU FG T PL5 FSH FIH
   have e0:=B6H.out.cell 0 _ rfl
   have e1:=B6H.out.cell 1 _ rfl
   have fe0:=B6H.out.free 0
   have fe1:=B6H.out.free 1
   go_wp2_with fail
   obtain ⟨wy,hwy⟩:∃ wy,wy=(wu.setCell ⟨g6,0,none⟩ (.slice aA G.peers.length cA)).setCell ⟨g6,1,none⟩ (.slice aB G.msgs.length cB):=⟨_,rfl⟩
   rw [← hwy]
   have RR:=lH (show FcnRel b g6 L x1 (.int .i64 ((k:Int)+1)) wy from ⟨k+1,aA,cA,aB,cB,G,by omega,by go_num,by rw [hwy];exact (B6H.out.set 0 _).set 1 _,by rw [hwy];exact (FUH.out.set (p:=⟨g6,0,none⟩) _ hx6).set (p:=⟨g6,1,none⟩) _ hx6,FGH.out.more (by omega),by rw [hwy];exact (TH.out.set (p:=⟨g6,0,none⟩) _ (by show b<g6;omega)).set (p:=⟨g6,1,none⟩) _ (by show b<g6;omega),by rw [hwy];exact (KX.out.setNew (p:=⟨g6,0,none⟩) _ zg6).setNew (p:=⟨g6,1,none⟩) _ zg6⟩)
   clear hwy e0 e1 fe0 fe1
   go_wp2_with fail
   exact ⟨RR.out,by simp [intOf];omega⟩
  ·have q0:=B6H.out.cell 0 _ rfl
   have QX:=lH (QL.out.nxb (KW.out.nxb KX.out)).1
   have d0:((F.peers.length:Int)==(L.length:Int))=true:=by rw [ZP.out];simp
   clear TH
   go_wp2_with fail
   (with_reducible refine (sane19_x _).mono ?_)
   rintro e y9 ⟨rfl,kk⟩
   have QE:=lH (QX.out.nx kk)
   clear kk
   go_wp2_with fail
   go_ret
   exact ⟨rfl,QE.out⟩
end Go.Proofs.YthdkeibapcaclaaGreatDoor
/-
 FlightConnects returns true for every list of numbers,and leaves its arguments as they were.
 Condition: the letters of the keys are as the program text lays them (tied by the card).
-/
namespace Go.Proofs.YthdkeibapcaclaaGreatDoor
open Go.ChangeShapes Go.WideShapes Go.ChangeAt Go.RowKit Go.Deep Go.Joins
open Go.ChangeMaps (open_string shut_string)
set_option linter.unusedVariables false
theorem Tryz.cellsInt:Tryz.prog.cellsOf 3=1:=by kernel_rfl
set_option maxRecDepth 100000 in
set_option maxHeartbeats 1000000 in
theorem flightConnects_lifted (os:Os) (started:os.Started) (H:Type) (enc:TypeId×Value→H) :
  ReturnsInHanded {} Tryz.checked os 4 .any (fun w args=>(Rows.flightConnectsSpec.pre enc Tryz.prog Tryz.f4 [] false w args∧laidMetH Tryz.prog Rows.flightConnectsRow.laid w)∧sizedMet enc Tryz.prog Tryz.f4 (OpenSpec.ofChange Rows.flightConnectsSpec) false w args)
   (Rows.flightConnectsSpec.post enc Tryz.prog Tryz.f4 false true false false):=by
 refine returnsInHanded_of_change_and (C:=Tryz.checked) (X:=fun w _=>laidMetH Tryz.prog Rows.flightConnectsRow.laid w) (fun _ _ _ hh h=>h.of_heap hh) own started (by kernel_rfl) Tryz.func4
  (ChangeSpec.witness_shaped (enc:=enc) (C:=Tryz.checked) (os:=os) (X:=fun w _=>laidMetH Tryz.prog Rows.flightConnectsRow.laid w) false (World.doorLaid Tryz.prog 400 os) #[.slice none 0 0] 8 rfl (World.shaped_of_RefB (by kernel_rfl) (by kernel_rfl)) (by kernel_rfl) (by kernel_rfl) (by kernel_rfl) (laidMetH_of_parts3 (fuel:=8) (laidMet_of_run' 8 (by kernel_rfl) (by kernel_rfl)) (by kernel_rfl) (by kernel_rfl))) ?_
 intro W base args ds gs before hval0 hW _ _ hL _
 have hval:∀ (j:Nat) t v,Tryz.f4.params[j]?=some t→args[j]?=some v→Value.okWide Tryz.prog W .any base t v:=hval0
 have hW':=hW
 obtain ⟨p,q,hA0,hV,rfl,hfz,hnd⟩:=hW
 have hA:DataW.TrodAll enc Tryz.prog W 0 (fun _=>true) true Tryz.f4.params.toList args.toList ds p:=hA0
 rw [Tryz.params4] at hA hval
 obtain ⟨v0,vs0,d0,ds0,p0,q0,hargs,rfl,rfl,h0,r0⟩:=trodAll_cons hA
 obtain ⟨rfl,rfl,rfl⟩:=trodAll_nil r0
 obtain rfl:args=#[v0]:=by cases args;simp_all
 obtain ⟨rfl,rfl⟩:=trodVars_none hV
 have k0:=h0
 have lt0:∀ x∈p0,x.block<W.heap.size:=by obtain ⟨m,hm⟩:=k0;exact DataW.trod_lt m _ _ _ hm
 obtain ⟨A0,n0,cap0,l0,rfl,rd0,hc0,hm0,wf0,nl0⟩:=rd_ints Tryz.underlying22 Tryz.underlying3 Tryz.cellsInt (hval 0 22 v0 rfl rfl) h0
 clear hA0 hval0
 have hL2:LetG W:=letG_of hL (by kernel_rfl)
 refine (flightconnects_walk A0 n0 cap0 l0 W rd0 hc0 hm0 hL2).mono fun e W' ⟨he,hch⟩=>?_
 have bel:Below W.heap.size W W':=hch.below (fun _ h=>h)
 subst he
 exact ⟨_,rfl,_,_,_,[],_,[],hW',trodAll_mk1 (shut_bool Tryz.underlying4 _),(trodAll_cons_mk (Below.trod laidOut (by kernel_rfl) (of_decide_eq_true (by kernel_rfl)) k0 bel lt0) trodAll_mk0),rfl,bel.frame _,fun h=>by cases h⟩
theorem flightConnects_over:Rows.flightConnectsRow.holds Tryz.pinned (OpenSpec.ofChange Rows.flightConnectsSpec) :=
 OpenClaim.holds_of_wide 4 Tryz.f4 rfl rfl rfl rfl rfl rfl rfl ⟨rfl,rfl,rfl,rfl,rfl⟩ rfl rfl rfl rfl rfl (by kernel_rfl) Tryz.func4 (by kernel_rfl)
  (of_decide_eq_true (by kernel_rfl)) (by unfold Func.isWrapper;first | (rw [if_pos (by decide +kernel)];kernel_rfl) | (rw [if_neg (by decide +kernel)];exact ⟨rfl,rfl⟩))
  (fun os started H enc _=>flightConnects_lifted os started H enc)
theorem FlightConnects_holds:Rows.FlightConnectsCardSaid :=
 Claim7.holds_tied_plain_at .later [] [.data] true (true, "3d63441a57d5e1a930916d297e9f5e4943b290743ffbe254b51174268e98bb03") false
  flightConnects_over (fun _ h=>by cases h) (by kernel_rfl) (fun _ h=>by cases h) flightConnects_row_tie rfl ⟨rfl,rfl⟩ (by kernel_rfl) rfl
  (fun f fn hf hfn=>by
   obtain rfl : f = 4 := Option.some.inj ((show Tryz.prog.funcNamed "skipgraph/skipgraphlaw19.FlightConnects" = some 4 by kernel_rfl).symm.trans hf) |>.symm
   obtain rfl:fn=Tryz.f4:=(Option.some.inj (Tryz.func4.symm.trans hfn)).symm
   exact ⟨by kernel_rfl,fun j t ht=>by
    rw [Tryz.params4] at ht
    have hm:t∈[22]:=by simpa using Array.mem_of_getElem? ht
    have hall:([22].all fun u=>!Tryz.prog.wantsStandIn u)=true:=by kernel_rfl
    exact (show Tryz.prog.wantsStandIn t=false by simpa using List.all_eq_true.1 hall t hm)⟩)
  (by kernel_rfl)
#print axioms FlightConnects_holds
end Go.Proofs.YthdkeibapcaclaaGreatDoor
