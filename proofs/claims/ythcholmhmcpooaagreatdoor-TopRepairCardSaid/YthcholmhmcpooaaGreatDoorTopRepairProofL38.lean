/- Texts for TopRepairProof. -/
import Derived.ChangeArms
import Derived.LaidSub
import Derived.ProofKit
import Derived.OpenShut
import Derived.ShutString
import Derived.ChangeOld
import Derived.Lib.SmallJoins
import Derived.Deep.Slices
import Derived.Deep.Fields
import Derived.ChangeSame
import Derived.Test.YthcholmhmcpooaaGreatDoorTopRepairProofL15
import Derived.Test.YthcholmhmcpooaaGreatDoorTopRepairProofL37
set_option linter.unusedSimpArgs false
set_option linter.unusedVariables false

namespace Go.Proofs.YthcholmhmcpooaaGreatDoor
open Go.RowKit
theorem disturb_20 {b:Nat} (a:Option Addr) (nN c:Nat) (N:List Nd) (a2:Option Addr) (c2:Nat) (a3:Option Addr) (c3:Nat) (F0:Fl) (hh:Int) (X:Nat→Prop) (w:World) (hXb:X b) (hXl:∀ k,X k→k<w.heap.size) (h:TK w b) (hs:Slb 3 encN b w a nN N) (hn:nN≤10) (hc:nN≤c) (hm:c≤maxLen) (hi:∀ x∈N,I64 x.id) (hw:∀ x∈N,x.word<4294967296)
  (hF:FlX X w a2 a3 F0) (hfl:Flies N 10 F0) :
  Calls Tryz.prog 22 #[.pointer (some ⟨b,0,none⟩),.slice a nN c,.agg #[.slice a2 F0.peers.length c2,.slice a3 F0.msgs.length c3],.int .i64 hh,.int .i64 20] w (FyPost X b N 410 w) :=
 disturb_x a nN c N a2 c2 a3 c3 F0 hh 20 10 X w hXb hXl h hs hn hc hm hi hw hF hfl (by omega)
set_option maxRecDepth 100000 in
set_option maxHeartbeats 16000000 in
theorem toprepair_walk (a1:Option Addr) (n1 c1:Nat) (l1:List Int) (s:ByteArray) (w:World) (h1:Sl 1 encI w a1 n1 l1) (hc1:n1≤c1) (hm1:c1≤maxLen) (hT:TabG w) (hL:LetG w) :
  Calls Tryz.prog 4 #[.slice a1 n1 c1,.string s] w fun e w'=>e=.returned (.bool true)∧Ex w w':=by
 go_enter Tryz.func4,Tryz.ntmps4
 go_wp2_with fail
 refine (new_t _ _ _ l1 _ h1 hc1 hm1).mono ?_
 rintro e w1 ⟨rfl,T,kk,z1⟩
 obtain ⟨b,hb⟩:∃ b,b=w.heap.size:=⟨_,rfl⟩
 rw [← hb] at T ⊢
 have hgt:¬ 1=b:=by have:=hT.lt;omega
 have hgl:¬ 0=b:=by have:=hL.lt;omega
 have T1:Hid (TabG w1):=lH (hT.nx kk)
 have L1:Hid (LetG w1):=lH (hL.nx kk)
 have QL:Hid (Exl b w w1):=lH ⟨kk,by omega⟩
 clear h1 hT hL kk hb z1
 have hbo:=T.lt
 go_wp2_with fail
 refine (some_n 6 _ T L1.out hgl (by omega) (by omega)).mono ?_
 clear T
 rintro e x1 ⟨v1,L,rfl,R,hL1⟩
 have kw:=R.k
 have T:=R.tape
 obtain ⟨aX,cX,rfl,SX,hcX,hmX,_⟩:=R.own.slf (fun _=>rfl)
 have SX:=SX.slb hbo
 have RL:=R.len
 have H0:=lH R.ok
 have HW:Hid (∀ x∈L,x.word<4294967296):=lH (fun x hx=>by have:=R.word x hx;omega)
 have HI:Hid (∀ x∈L,I64 x.id):=lH (fun x hx=>(roster_ok R.ok x hx).1.1)
 clear R
 have hb1:=T.lt
 have HS:=lH (fun wq (kq:Exb b x1 wq)=>SX.nxb kq)
 have KW:=lH kw
 clear SX kw
 go_wp2_with fail
 refine (next_t 4 _ T (by omega) (by omega)).mono ?_
 clear T
 rintro e x2 ⟨hh,rfl,hh0,hh1,T,kk⟩
 have KX:=lH kk
 clear kk
 obtain ⟨ht,rfl⟩:∃ t:Nat,hh=t:=⟨hh.toNat,by omega⟩
 have ht16:ht≤16:=by omega
 go_wp2_with fail
 refine (joined_t ht _ _ _ L _ T (HS.out _ KX.out) (by omega) hcX hmX H0.out (by omega)).mono ?_
 clear T
 rintro e x3 ⟨vJ,qJ,P0,rfl,J⟩
 have T:=J.tape
 have HC:=lH J.conn
 have HF:Hid (FewQ 100 200 P0):=lH J.small
 have hPJ:P0.length≤10:=by have:=J.ids.1;omega
 obtain ⟨aJ,cJ,rfl,PJ,_,_,_⟩:=J.own.pl
 replace KX:=lH (KX.out.nxb J.k)
 have FI:Flies L 10 ⟨normalN L P0,[]⟩:=⟨conn_made HC.out [],few_smF HF.out [],norm_lenF (norm_normal H0.out P0 []),by simp⟩
 obtain ⟨F0,hF0⟩:∃ F0:Fl,F0=⟨normalN L P0,[]⟩:=⟨_,rfl⟩
 rw [← hF0] at FI
 have HF0:=lH hF0
 have FIH:=lH FI
 have hb3:=T.lt
 clear J hF0 FI
 go_wp2_with fail
 (with_reducible refine (new_f _ _ _ L _ _ _ P0 _ (HS.out _ KX.out).sl (by omega) hcX hmX PJ (by omega) (few_smallR HF.out)).mono ?_)
 rintro e x4 ⟨vP,vM,qs,rfl,FO,kk⟩
 rw [← HF0.out] at FO
 obtain ⟨aA,cA,aB,cB,rfl,rfl,FX⟩:=FO.flx (X:=fun k=>k=b) (fun k hk=>by have:k=b:=hk;omega)
 replace KX:=lH (KX.out.nxb (kk.b b))
 replace T:=T.nx kk
 have hb4:=T.lt
 have PL20:=disturb_20 aX L.length cX L aA cA aB cB F0 ht (fun k=>k=b) x4 rfl (fun k hk=>by have:k=b:=hk;omega) T (HS.out _ KX.out) (by omega) hcX hmX HI.out HW.out FX FIH.out
 clear FO kk PJ FX T
 go_wp2_with fail
 (with_reducible refine PL20.mono ?_)
 rintro e x6 ⟨aP2,cP2,aM2,cM2,F1,rfl,FX1,FI1,T,kk⟩
 replace KX:=lH (KX.out.nxb kk)
 have FC1:=lH FI1.conn
 have FRH:=lH (FI1.r (by omega))
 clear kk PL20 FI1
 have hb6l:=T.lt
 have B9:=Blk.new x6 [.slice aP2 F1.peers.length cP2,.slice aM2 F1.msgs.length cM2] 56
 have kk:=Ex.new x6 (.cells #[.slice aP2 F1.peers.length cP2,.slice aM2 F1.msgs.length cM2] 56)
 obtain ⟨x7,hx7⟩:∃ x7,x7=x6.alloc (.cells #[.slice aP2 F1.peers.length cP2,.slice aM2 F1.msgs.length cM2] 56):=⟨_,rfl⟩
 obtain ⟨g9,hg9⟩:∃ g9,g9=x6.heap.size:=⟨_,rfl⟩
 replace B9:Blk x7 g9 [.slice aP2 F1.peers.length cP2,.slice aM2 F1.msgs.length cM2] 56:=by rw [hx7,hg9];exact B9
 rw [← hx7] at kk
 have Hx7:=lH hx7
 have Hg9:=lH hg9
 replace T:=T.nx kk
 have FX7:FlX (X2 b g9) x7 aP2 aM2 F1:=FX1.x2 (by omega) kk
 have z9:x1.heap.size≤g9:=by have:=KX.out.size;omega
 replace KX:=lH (KX.out.nxb (kk.b b))
 have hb9:b<g9:=by omega
 have hgb9:¬ g9=b:=by omega
 clear kk hx7 hg9 FX1
 go_upto_region 4 with fail
 rw [← Hg9.out,← Hx7.out]
 clear Hg9 Hx7
 have hlX:∀ k,X2 b g9 k→k<x7.heap.size:=fun k hk=>by
  rcases hk with rfl | rfl
  ·exact T.lt
  ·exact B9.lt
 have ST:=settle_x aX L.length cX L aP2 cP2 aM2 cM2 F1 ht (X2 b g9) x7 (.inl rfl) hlX T (HS.out _ KX.out) (by omega) hcX hmX HW.out H0.out FX7 FRH.out FC1.out (by omega)
 have q0:=B9.cell 0 _ rfl
 have q1:=B9.cell 1 _ rfl
 clear hlX T FX7
 go_wp2_with fail
 (with_reducible refine ST.mono ?_)
 rintro e x9 ⟨aQ,cQ,aN,cN,F2,rfl,FX2,FR2,hex,T9,kk⟩
 replace KX:=lH (KX.out.nxb kk)
 replace B9:=B9.nxb hgb9 kk
 have FRH:=lH FR2
 have HLB:Hid (linksB L F2.peers ht=(buildN L ht).1):=lH (by
  rw [exactB_eq (build_ok0 H0.out ht16).1] at hex
  exact of_decide_eq_true hex)
 have zP:F2.peers.length≤10:=by have:=FR2.len;omega
 have f0:=B9.free 0
 have f1:=B9.free 1
 have r0:=B9.cell 0 _ rfl
 have r1:=B9.cell 1 _ rfl
 clear ST kk hex FR2 q0 q1
 go_upto_region 5 with fail
 obtain ⟨y0,hy0⟩:∃ y0,y0=(x9.setCell ⟨g9,0,none⟩ (.slice aQ F2.peers.length cQ)).setCell ⟨g9,1,none⟩ (.slice aN F2.msgs.length cN):=⟨_,rfl⟩
 rw [← hy0]
 have KB:Exb g9 x9 y0:=by rw [hy0];exact ((Exb.refl g9 _).setB (p:=⟨g9,0,none⟩) _ rfl).setB (p:=⟨g9,1,none⟩) _ rfl
 have BY:Blk y0 g9 [.slice aQ F2.peers.length cQ,.slice aN F2.msgs.length cN] 56:=by rw [hy0];exact (B9.set 0 _).set 1 _
 have TY:=lH (show TK y0 b from by rw [hy0];exact T9.put2 hb9)
 replace KX:=lH (show Exb b x1 y0 from by rw [hy0];exact (KX.out.setNew (p:=⟨g9,0,none⟩) _ z9).setNew (p:=⟨g9,1,none⟩) _ z9)
 have FXY:=lH (FX2.nxb (.inr rfl) KB)
 have q0:=BY.cell 0 _ rfl
 clear hy0 KB BY B9 f0 f1 r0 r1 FX2 T9
 go_wp2_with fail
 (with_reducible refine (links_p _ _ _ L _ _ _ F2.peers ht _ (HS.out _ KX.out).sl (by omega) hcX hmX HW.out FXY.out.pl (by omega) FRH.out.sp).mono ?_)
 rintro e y1 ⟨v,qs,rfl,own,kk⟩
 rw [HLB.out] at own
 obtain ⟨LR,hLR⟩:∃ LR,LR=(buildN L ht).1:=⟨_,rfl⟩
 rw [← hLR] at own
 have BSR:Hid (∀ c∈LR,c.2.length≤17):=lH (by rw [hLR];exact (buildN_small L (ht:Int) (by omega)).2)
 have BLR:LR.length≤1000:=by rw [hLR];exact (buildN_small L (ht:Int) (by omega)).1
 have EXI:Hid (exactI L LR ht=true):=lH (by rw [hLR];exact exact_build H0.out ht16)
 have HLR:=lH hLR
 obtain ⟨aL,cL,rfl,LL⟩:=own.nlb (b:=b) TY.out.lt
 have LLH:=lH LL
 replace KX:=lH (KX.out.nxb (kk.b b))
 replace TY:=lH (TY.out.nx kk)
 have M:=lH (Ex.refl y1)
 clear own LL kk q0 FXY HLB hLR
 go_wp2_with fail
 (with_reducible refine (check_i _ _ _ L _ _ _ LR ht _ (HS.out _ KX.out).sl (by omega) hcX hmX H0.out ht16 HW.out (T1.out.nxb hgt (KW.out.nxb KX.out)) HLR.out (LLH.out _ (M.out.b b)) (by omega)).mono ?_)
 rintro e y2 ⟨rfl,kk⟩
 replace KX:=lH (KX.out.nxb (kk.b b))
 replace TY:=lH (TY.out.nx kk)
 replace M:=lH (M.out.nx kk)
 clear kk
 go_wp2_with fail
 (with_reducible refine (exact_p _ _ _ L _ _ _ LR ht _ (HS.out _ KX.out).sl (by omega) hcX hmX HW.out (T1.out.nxb hgt (KW.out.nxb KX.out)) (LLH.out _ (M.out.b b)) (by omega) (fun c hc=>Nat.le_trans (BSR.out c hc) (by omega))).mono ?_)
 rintro e y3 ⟨rfl,kk⟩
 rw [EXI.out]
 replace KX:=lH (KX.out.nxb (kk.b b))
 replace TY:=lH (TY.out.nx kk)
 replace M:=lH (M.out.nx kk)
 clear kk
 go_wp2_with fail
 (with_reducible refine (reaches_t aX L.length cX L aL LR.length cL LR ht s _ TY.out (HS.out _ KX.out) (by omega) hcX hmX H0.out ht16 HLR.out (fun wq kq=>LLH.out wq ((M.out.b b).nxb kq)) (by omega) (L1.out.nxb hgl (KW.out.nxb KX.out)) hgl).mono ?_)
 rintro e y4 ⟨rfl,_,kk⟩
 replace KX:=lH (KX.out.nxb kk)
 clear kk
 go_wp2_with fail
 (with_reducible refine (saneT_x _ (T1.out.nxb hgt (KW.out.nxb KX.out))).mono ?_)
 rintro e y5 ⟨rfl,kk⟩
 have QX:=lH ((QL.out.nxb (KW.out.nxb KX.out)).1.nx kk)
 clear kk
 go_wp2_with fail
 go_ret
 exact ⟨rfl,QX.out⟩
theorem Tryz.gLet : Tryz.prog.globalNamed "skipgraph/skipgraphworld.letters" = some 0 := by kernel_rfl
theorem Tryz.tLet:(Tryz.prog.globals[0]?).map (·.type)=some 133:=by kernel_rfl
theorem Tryz.cells6:Tryz.prog.cellsOf 133=6:=by kernel_rfl
theorem Tryz.cellsStr:Tryz.prog.cellsOf 9=1:=by kernel_rfl
def letL:List (List UInt8):=[[97],[98],[99],[0],[255],[109]]
theorem cells_of_strs {H:Type} {enc:TypeId×Value→H} {P:Program} {w:World} {base:Nat} {sp:Nat→Bool} {held:Bool} {fuel:Nat} {t e:TypeId} {n:Nat} {cs:List Value} {zs:List (List UInt8)} {p:List MemPlace}
  (ht:P.underlying t=some (.array n e)) (he:P.underlying e=some .string) (hce:P.cellsOf e=1) (hct:P.cellsOf t=n)
  (h:DataW.trod enc P w base sp held fuel t cs=some (.agg (zs.map fun z=>.lit (.string z)),p)):∀ (i:Nat) (z:List UInt8),zs[i]?=some z→∃ s:ByteArray,s.data.toList=z∧cs[i]?=some (.string s):=by
 cases fuel with
 | zero=>simp [DataW.trod] at h
 | succ fuel =>
  simp only [DataW.trod,ht,hce,hct,Nat.mul_one] at h
  split at h
  ·rename_i hl
   obtain ⟨xs,hm,hx⟩:=Option.map_eq_some_iff.1 h
   have hxs:xs.map (·.1)=zs.map fun z=>(DataW.lit (.string z):DataW H):=by
    have:=congrArg Prod.fst hx
    simpa using this
   have hxl:xs.length=n:=by simpa using Lib.mapM_length hm
   have hzl:zs.length=n:=by
    have:=congrArg List.length hxs
    simp at this
    omega
   intro i z hz
   have hi:i<n:=by have:=(List.getElem?_eq_some_iff.1 hz).1;omega
   obtain ⟨b,hb,hf⟩:=Lib.mapM_at hm i i (by simp [hi])
   obtain ⟨s,hc,rfl,_⟩:=DataW.trod_string he hf
   have h1:cs[i]?=some (.string s):=by
    have:=congrArg (·[0]?) hc
    simpa [List.getElem?_take,List.getElem?_drop] using this
   have h2:(xs.map (·.1))[i]?=some (DataW.lit (.string s.data.toList):DataW H):=by simp [hb]
   rw [hxs] at h2
   simp only [List.getElem?_map,Option.map_eq_some_iff,DataW.lit.injEq,Lit.string.injEq] at h2
   obtain ⟨z',hz',hzz⟩:=h2
   have:z=z':=Option.some.inj (hz.symm.trans hz')
   exact ⟨s,by rw [this,hzz],h1⟩
  ·cases h
theorem laid_let {H:Type}:(Rows.laid_skipgraph_skipgraphworld_letters:DataW H)=.agg (letL.map fun z=>.lit (.string z)):=rfl
theorem letG_head {rest : List (String × DataW Unit)} {W : World} (h : laidMet Tryz.prog (("skipgraph/skipgraphworld.letters", .agg (letL.map fun z => .lit (.string z))) :: rest) W) : LetG W := by
 obtain ⟨ps,⟨g',t',cs,fuel,p,q,hg',ht',hvar,hd,_,_⟩,_⟩:=h
 obtain rfl:=Option.some.inj (Tryz.gLet.symm.trans hg')
 obtain rfl:=Option.some.inj (Tryz.tLet.symm.trans ht')
 intro j hj
 obtain ⟨z,hz⟩:∃ z,letL[j]?=some z:=⟨letL[j]'(by simp [letL];omega),by simp⟩
 obtain ⟨s,h1,h2⟩:=cells_of_strs Tryz.underlying133 Tryz.underlying9 Tryz.cellsStr Tryz.cells6 hd j z hz
 refine ⟨s,?_,?_⟩
 ·have hl:z.length=1:=by
   have:∀ j,j<6→(letL[j]?.getD []).length=1:=by decide
   have:=this j hj
   rw [hz] at this
   exact this
  have:s.data.toList.length=1:=by rw [h1];exact hl
  rw [Array.length_toList] at this
  exact this
 ·rw [World.var?_cell Tryz.gLet hvar j]
  simpa using h2
theorem letG_second {x : String × DataW Unit} {W : World} (h : laidMetH Tryz.prog [x, ("skipgraph/skipgraphworld.letters", Rows.laid_skipgraph_skipgraphworld_letters)] W)
  (hp : ([x, ("skipgraph/skipgraphworld.letters", Rows.laid_skipgraph_skipgraphworld_letters)].all fun x => x.2.handleName?.isNone) = true) (hx : decide (x.1 = "skipgraph/skipgraphworld.letters") = false) : LetG W := by
 rw [MakeChecks.laidMetH_plain _ _ _ hp,laid_let] at h
 have h2 := h.filter (fun y => decide (y.1 = "skipgraph/skipgraphworld.letters"))
 rw [List.filter_cons_of_neg (by rw [hx];simp),List.filter_cons_of_pos (by simp),List.filter_nil] at h2
 exact letG_head h2
open Go.ChangeShapes Go.WideShapes Go.ChangeAt Go.RowKit Go.Deep Go.Joins
theorem own:ownKnob Tryz.prog.godebug=none:=by kernel_rfl
theorem laidOut:laidOutB Tryz.prog=true:=by kernel_rfl
section
variable {H:Type} {enc:TypeId×Value→H} {P:Program} {w:World} {base:Nat} {spare:Nat→Bool} {held:Bool}
theorem addr_lit {a:Addr} {v:Value} {w:World} (h:w.cell? (a.add 0)=some v):a=⟨a.block,a.off,none⟩:=by
 obtain ⟨b,o,s⟩:=a
 have:s=none:=by simpa [Addr.add] using World.cell?_spot h
 subst this;rfl
theorem rd_ints {t e:TypeId} {k:IntKind} {v:Value} {d:DataW H} {p:List MemPlace} {r:Reach} {b0:Nat} (ht:P.underlying t=some (.slice e)) (he:P.underlying e=some (.int k)) (hC:P.cellsOf e=1)
  (hv:Value.okWide P w r b0 t v) (h:DataW.Trod enc P w base spare held t v d p) :
  ∃ a n c l,v=.slice a n c∧Rd 1 (fun x:Int=>[Value.int k x]) (· < w.heap.size) w a n l∧n≤c∧c≤maxLen∧(∀ x∈l,(Lit.int k x).wf=true)∧(a=none→c=0):=by
 obtain ⟨a0,len0,cap0,rfl⟩:=okWide_slice ht hv
 obtain ⟨fuel,hf⟩:=h
 rcases open_ints ht he hC hf with ⟨hcs,_⟩ | ⟨x,l,c,zs,hcs,_,hl,hm,hz,_,hcell,hwz⟩
 ·simp [Value.cells] at hcs
  obtain ⟨rfl,rfl,rfl⟩:=hcs
  exact ⟨none,0,0,[],rfl,Rd.nil _ _ _ _ _,by omega,by unfold maxLen;omega,by simp,fun _=>rfl⟩
 ·simp [Value.cells] at hcs
  obtain ⟨rfl,rfl,rfl⟩:=hcs
  have hz':len0≤zs.length:=by rw [hz];split<;>omega
  refine ⟨_,len0,cap0,zs.take len0,rfl,⟨by simp;omega,?_⟩,hl,hm,fun y hy=>hwz y (List.mem_of_mem_take hy),fun h=>by cases h⟩
  rcases Nat.eq_zero_or_pos len0 with h0 | h0
  ·exact .inl h0
  ·have hx:=addr_lit (hcell 0 (by omega))
   refine .inr ⟨x.block,x.off,by rw [← hx],?_,fun j y hj c u hu=>?_⟩
   ·have:=World.block_lt_of_cell? w _ (hcell 0 (by omega))
    rw [hx] at this
    simpa [Addr.add] using this
   ·have hj':j<len0:=by
     have:=(List.getElem?_eq_some_iff.1 hj).1
     simp at this;omega
    have hy:zs.getD j 0=y:=by
     rw [List.getElem?_take,if_pos hj'] at hj
     simp [List.getD,hj]
    have hc:=hcell j (by omega)
    rw [hx,Addr.add_lit,hy] at hc
    rcases c with _ | c
    ·simp at hu;subst hu;simpa using hc
    ·simp at hu
end
end Go.Proofs.YthcholmhmcpooaaGreatDoor
/-
 TopRepair returns true for every list of numbers and every key,and leaves its arguments as they were.
 Condition: the table of math/bits and the letters of the keys are as the program text lays them (tied by the card).
-/
namespace Go.Proofs.YthcholmhmcpooaaGreatDoor
open Go.RowKit
open Go.ChangeShapes Go.WideShapes Go.ChangeAt Go.RowKit Go.Deep Go.Joins
open Go.ChangeMaps (open_string shut_string)
set_option linter.unusedVariables false
theorem Tryz.cellsInt:Tryz.prog.cellsOf 3=1:=by kernel_rfl
set_option maxRecDepth 100000 in
set_option maxHeartbeats 1000000 in
theorem topRepair_lifted (os:Os) (started:os.Started) (H:Type) (enc:TypeId×Value→H) :
  ReturnsInHanded {} Tryz.checked os 4 .any (fun w args=>(Rows.topRepairSpec.pre enc Tryz.prog Tryz.f4 [] false w args∧laidMetH Tryz.prog Rows.topRepairRow.laid w)∧sizedMet enc Tryz.prog Tryz.f4 (OpenSpec.ofChange Rows.topRepairSpec) false w args)
   (Rows.topRepairSpec.post enc Tryz.prog Tryz.f4 false true false false):=by
 refine returnsInHanded_of_change_and (C:=Tryz.checked) (X:=fun w _=>laidMetH Tryz.prog Rows.topRepairRow.laid w) (fun _ _ _ hh h=>h.of_heap hh) own started (by kernel_rfl) Tryz.func4
  (ChangeSpec.witness_shaped (enc:=enc) (C:=Tryz.checked) (os:=os) (X:=fun w _=>laidMetH Tryz.prog Rows.topRepairRow.laid w) false (World.doorLaid Tryz.prog 400 os) #[.slice none 0 0,.string ByteArray.empty] 8 rfl (World.shaped_of_RefB (by kernel_rfl) (by kernel_rfl)) (by kernel_rfl) (by kernel_rfl) (by kernel_rfl) (laidMetH_of_parts3 (fuel:=8) (laidMet_of_run' 8 (by kernel_rfl) (by kernel_rfl)) (by kernel_rfl) (by kernel_rfl))) ?_
 intro W base args ds gs before hval0 hW _ _ hL _
 have hval:∀ (j:Nat) t v,Tryz.f4.params[j]?=some t→args[j]?=some v→Value.okWide Tryz.prog W .any base t v:=hval0
 have hW':=hW
 obtain ⟨p,q,hA0,hV,rfl,hfz,hnd⟩:=hW
 have hA:DataW.TrodAll enc Tryz.prog W 0 (fun _=>true) true Tryz.f4.params.toList args.toList ds p:=hA0
 rw [Tryz.params4] at hA hval
 obtain ⟨v0,vs0,d0,ds0,p0,q0,hargs,rfl,rfl,h0,r0⟩:=trodAll_cons hA
 obtain ⟨v1,vs1,d1,ds1,p1,q1,rfl,rfl,rfl,h1,r1⟩:=trodAll_cons r0
 obtain ⟨rfl,rfl,rfl⟩:=trodAll_nil r1
 obtain rfl:args=#[v0,v1]:=by cases args;simp_all
 obtain ⟨rfl,rfl⟩:=trodVars_none hV
 have k0:=h0
 have lt0:∀ x∈p0,x.block<W.heap.size:=by obtain ⟨m,hm⟩:=k0;exact DataW.trod_lt m _ _ _ hm
 have k1:=h1
 have lt1:∀ x∈p1,x.block<W.heap.size:=by obtain ⟨m,hm⟩:=k1;exact DataW.trod_lt m _ _ _ hm
 obtain ⟨A0,n0,cap0,l0,rfl,rd0,hc0,hm0,wf0,nl0⟩:=rd_ints Tryz.underlying22 Tryz.underlying3 Tryz.cellsInt (hval 0 22 v0 rfl rfl) h0
 obtain ⟨s1,rfl,rfl,rfl,hs1⟩:=open_string Tryz.underlying9 (hval 1 9 v1 rfl rfl) h1
 clear hA0 hval0
 have hT:TabG W:=tabG_of hL (by kernel_rfl)
 have hL2:LetG W:=letG_second hL (by kernel_rfl) (by kernel_rfl)
 refine (toprepair_walk A0 n0 cap0 l0 s1 W rd0 hc0 hm0 hT hL2).mono fun e W' ⟨he,hch⟩=>?_
 have bel:Below W.heap.size W W':=hch.below (fun _ h=>h)
 subst he
 exact ⟨_,rfl,_,_,_,[],_,[],hW',trodAll_mk1 (shut_bool Tryz.underlying4 _),(trodAll_cons_mk (Below.trod laidOut (by kernel_rfl) (of_decide_eq_true (by kernel_rfl)) k0 bel lt0) (trodAll_cons_mk (Below.trod laidOut (by kernel_rfl) (of_decide_eq_true (by kernel_rfl)) k1 bel lt1) trodAll_mk0)),rfl,bel.frame _,fun h=>by cases h⟩
theorem topRepair_over:Rows.topRepairRow.holds Tryz.pinned (OpenSpec.ofChange Rows.topRepairSpec) :=
 OpenClaim.holds_of_wide 4 Tryz.f4 rfl rfl rfl rfl rfl rfl rfl ⟨rfl,rfl,rfl,rfl,rfl⟩ rfl rfl rfl rfl rfl (by kernel_rfl) Tryz.func4 (by kernel_rfl)
  (of_decide_eq_true (by kernel_rfl)) (by unfold Func.isWrapper;first | (rw [if_pos (by decide +kernel)];kernel_rfl) | (rw [if_neg (by decide +kernel)];exact ⟨rfl,rfl⟩))
  (fun os started H enc _=>topRepair_lifted os started H enc)
theorem TopRepair_holds:Rows.TopRepairCardSaid :=
 Claim7.holds_tied_plain_at .later [] [.data, .data] true (true, "bea4d03cc20eaf986630eb777e7bfa9e7601f9278fe4c67cc1bf42749c60bd93") false
  topRepair_over (fun _ h=>by cases h) (by kernel_rfl) (fun _ h=>by cases h) topRepair_row_tie rfl ⟨rfl,rfl⟩ (by kernel_rfl) rfl
  (fun f fn hf hfn=>by
   obtain rfl : f = 4 := Option.some.inj ((show Tryz.prog.funcNamed "skipgraph/skipgraphtop.TopRepair" = some 4 by kernel_rfl).symm.trans hf) |>.symm
   obtain rfl:fn=Tryz.f4:=(Option.some.inj (Tryz.func4.symm.trans hfn)).symm
   exact ⟨by kernel_rfl,fun j t ht=>by
    rw [Tryz.params4] at ht
    have hm:t∈[22,9]:=by simpa using Array.mem_of_getElem? ht
    have hall:([22,9].all fun u=>!Tryz.prog.wantsStandIn u)=true:=by kernel_rfl
    exact (show Tryz.prog.wantsStandIn t=false by simpa using List.all_eq_true.1 hall t hm)⟩)
  (by kernel_rfl)
#print axioms TopRepair_holds
end Go.Proofs.YthcholmhmcpooaaGreatDoor
