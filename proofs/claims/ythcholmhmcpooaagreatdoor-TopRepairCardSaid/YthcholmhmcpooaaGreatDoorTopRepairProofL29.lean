/- Texts for TopRepairProof. -/
import Derived.Test.YthcholmhmcpooaaGreatDoorTopRepairProofL27
import Derived.Test.YthcholmhmcpooaaGreatDoorTopRepairProofL28
set_option linter.unusedSimpArgs false
set_option linter.unusedVariables false

namespace Go.Proofs.YthcholmhmcpooaaGreatDoor
open Go.RowKit Go.Maps
theorem told_grp (M:List (Int×Int)) (m:Int×Int):toldN (M++[m])=grp1 (toldN M) m.1 m.2:=by
 funext id
 rw [told_snoc]
 unfold grp1
 by_cases h:id=m.1
 ·subst h;simp
 ·rw [if_neg (fun h2=>h h2.symm),if_neg h,List.append_nil]
theorem flat_len (N:List Nd) (Q:List Pr):(Q.flatMap (introsN N)).length≤Q.length*(2*N.length):=by
 induction Q with
 | nil=>simp
 | cons p Q ih =>
  rw [List.flatMap_cons,List.length_append,List.length_cons,Nat.succ_mul]
  have:=intros_len N p
  omega
theorem flat_snoc {N:List Nd} {Q:List Pr} {j:Nat} {p:Pr} (hp:Q[j]?=some p):(Q.take (j+1)).flatMap (introsN N)=(Q.take j).flatMap (introsN N)++introsN N p:=by
 rw [List.take_add_one,hp,List.flatMap_append]
 simp
theorem intros_ids {N:List Nd} {p:Pr} {q:Int×Int} (h:q∈introsN N p):∃ x∈N,x.id=q.1:=ar_ids p _ (prs_from h).1
theorem normal_le (N:List Nd) (P:List Pr):(normalN N P).length≤N.length∧(0<(normalN N P).length→checkN N=0):=by
 unfold normalN
 split
 ·rename_i h;exact ⟨by rw [List.length_map,sortN_length];exact Nat.le_refl _,fun _=>h⟩
 ·exact ⟨Nat.zero_le _,fun h=>by cases h⟩
theorem normal_small (N:List Nd) {P:List Pr} (h:SmallP P):SmallP (normalN N P):=by
 intro p hp
 unfold normalN at hp
 split at hp
 ·obtain ⟨x,_,rfl⟩:=List.mem_map.1 hp
  unfold peerN
  cases hf:P.find? fun p=>p.id==x.id with
  | none=>exact ⟨Nat.zero_le _,Nat.zero_le _⟩
  | some q=>exact h q (List.mem_of_find?_eq_some hf)
 ·cases hp
theorem normal_ids (N:List Nd) (P:List Pr):∀ p∈normalN N P,∃ x∈N,x.id=p.id:=by
 intro p hp
 unfold normalN at hp
 split at hp
 ·obtain ⟨x,hx,rfl⟩:=List.mem_map.1 hp
  exact ⟨x,(sortN_mem N x).1 hx,(peer_id P x.id).symm⟩
 ·cases hp
theorem AccM.one {β lo hi bm:Nat} {w6 wp w1 w3:World} {f:Int→Value} {x:Int} {va:Value} (h:AccM β lo hi bm w6 wp f) (hb:∀ v g,(f v).ownBlock=some g→β≤g)
  (k1:Chg (fun k=>k<wp.heap.size∧¬ (f x).ownBlock=some k) wp w1) (la:∀ g,va.ownBlock=some g→(f x).ownBlock=some g∨wp.heap.size≤g) (k3:Exb bm w1 w3):AccM β lo hi bm w6 w3 (upd f x va):=by
 have s1:=k1.size
 have s3:=k3.size
 have hs:=h.2.1
 have key:∀ v k,k<hi∧k≠bm∧(k<β∨lo≤k)→¬ (f v).ownBlock=some k:=fun v k hk hv=>by
  have h1:=hb v k hv
  have h2:=h.2.2 v k hv
  omega
 refine ⟨h.1.trans ((k1.mono fun k hk=>⟨by omega,key x k hk⟩).trans (Chg.mono k3 fun k hk=>⟨by omega,hk.2.1⟩)),by omega,fun v g hv=>?_⟩
 unfold upd at hv
 by_cases h3:v=x
 ·rw [if_pos h3] at hv
  rcases la g hv with h2 | h2
  ·exact h.2.2 x g h2
  ·omega
 ·rw [if_neg h3] at hv
  exact h.2.2 v g hv
theorem AccM.nxm {β lo hi bm:Nat} {w6 wr w9:World} {f:Int→Value} (h:AccM β lo hi bm w6 wr f) (k:Ex wr w9):AccM β lo hi bm w6 w9 f :=
 ⟨h.1.trans (Chg.mono k fun x hx=>Nat.lt_of_lt_of_le hx.1 h.2.1),Nat.le_trans h.2.1 k.size,h.2.2⟩
def LrRel (N:List Nd) (Q:List Pr) (bm:Nat) (w:World) (i:Value) (wr:World):Prop :=
 ∃ (j n:Nat) (f:Int→Value),j≤Q.length∧i=.int .i64 j∧GpM w.heap.size wr bm n f (toldN ((Q.take j).flatMap (introsN N)))∧n=((Q.take j).flatMap (introsN N)).length∧Exb bm w wr
def LmRel (E M:List (Int×Int)) (bm lo:Nat) (w w6:World) (i:Value) (wr:World):Prop :=
 ∃ (j n:Nat) (f:Int→Value),j≤M.length∧i=.int .i64 j∧GpM w.heap.size wr bm n f (toldN (E++M.take j))∧n=E.length+j∧AccM w.heap.size lo w6.heap.size bm w6 wr f
def LtRel (N:List Nd) (Q:List Pr) (M:List (Int×Int)) (qs:List PQ) (base:Nat) (w:World) (o i:Value) (wr:World):Prop :=
 ∃ (j:Nat) (qz:List PQ),j≤Q.length∧i=.int .i64 j∧OwnPr base wr o qz ((Q.take j).map (rndP N M))∧(∀ g,o.ownBlock=some g→w.heap.size≤g)∧(∀ (i:Nat) (q:PQ),qz[i]?=some q→∃ q0,qs[i]?=some q0∧q.2.2=q0.2.2)∧Ex w wr
set_option maxRecDepth 100000 in
set_option maxHeartbeats 16000000 in
theorem lround_p (a:Option Addr) (n c:Nat) (N:List Nd) (a2:Option Addr) (n2 c2:Nat) (P:List Pr) (w:World) (h:Sl 3 encN w a n N) (hn:n≤1000) (hc:n≤c) (hm:c≤maxLen) (h2:PL w a2 n2 P) (hn2:n2≤4000000000000000000) (hP:SmallP P) :
  Calls Tryz.prog 199 #[.slice a n c,.slice a2 n2 c2] w (PlPost (roundN N P) w):=by
 have HL:=lH h.len
 go_enter Tryz.func199,Tryz.ntmps199
 go_wp2_with fail
 (with_reducible refine (normal_p _ _ _ N _ _ _ P _ h hn hc hm h2 hn2 hP).mono ?_)
 rintro e w3 ⟨v3,qs,rfl,OQ,kk⟩
 replace h:=h.nx kk
 clear h2
 have K03:=lH kk
 obtain ⟨hQ1,hQ2⟩:=normal_le N P
 have HR:=lH (roundN_eq N P)
 have HQS:=lH (normal_small N hP)
 have HQI:=lH (normal_ids N P)
 generalize normalN N P=Q at OQ hQ1 hQ2 HR HQS HQI
 have HQ2:=lH hQ2
 obtain ⟨aQ,cQ,rfl,PQ0,_,_,_,_⟩:=OQ.pl
 have HPQ:=lH PQ0
 have HOQ:=lH OQ
 have hQn:Q.length≤n:=by have:=HL.out;omega
 have hz3:=kk.size
 clear OQ PQ0 kk hQ1 hQ2 hP
 have HS3:=lH h
 clear h
 have G4:=GrpM.made w3 Tryz.prog 3 3
 have kk:=Ex.new w3 (.map #[] 0)
 obtain ⟨w4,hw4⟩:∃ w4,w4=w3.alloc (.map #[] 0):=⟨_,rfl⟩
 obtain ⟨bm,hbm⟩:∃ bm,bm=w3.heap.size:=⟨_,rfl⟩
 have hsz4:w4.heap.size=bm+1:=by rw [hw4,hbm];simp
 replace G4:GpM w4.heap.size w4 bm 0 (fun _=>nilS) (fun _=>[]):=by rw [hsz4,hw4,hbm];exact G4
 rw [← hw4] at kk
 have Hw4:=lH hw4
 have Hbm:=lH hbm
 have QL:Hid (Exl bm w3 w4):=lH ⟨kk,by omega⟩
 clear kk hw4 hbm
 have hmm:=@run_makeMap Tryz.prog
 go_upto_region 3 with fail
 rw [← Hbm.out,← Hw4.out]
 clear Hbm Hw4
 clear hmm
 have hbm4:bm<w4.heap.size:=by omega
 replace hsz4:=lH hsz4
 go_wp2_with fail
 go_loopw [22] (fun i wr=>LrRel N Q bm w4 i wr) (fun i _=>Q.length-(intOf i).toNat)
 case atStart=>exact ⟨0,0,fun _=>nilS,by omega,rfl,G4,by simp,Exb.refl _ _⟩
 case round =>
  clear G4
  obtain ⟨j,nn,f,hj,rfl,GP,hnn,kw⟩:=hrel
  obtain ⟨wi,rfl⟩:∃ wi:World,wi=wr:=⟨_,rfl⟩
  have K3:=lH (QL.out.nxb kw).1
  have KW:=lH kw
  have hbi:bm<wi.heap.size:=Nat.lt_of_lt_of_le hbm4 kw.size
  have GW:=lH GP
  have HNN:=lH hnn
  clear kw GP hnn
  by_cases hjm:j<Q.length
  ·have HC:=lH (HQ2.out (by omega))
   have hN64:N.length≤64:=check_len HC.out
   have HI:Hid (∀ x∈N,I64 x.id):=lH (fun x hx=>(roster_ok HC.out x hx).1.1)
   obtain ⟨x3,o3,b1,m1,d1,b4,m4,d4,y,rfl,hx3,hy,e0,e1,e2,e3,e4,s1,s4⟩:=(HPQ.out.nx K3.out).rd hjm
   have FSn:=lH (flat_snoc (N:=N) hy)
   have hEl:((Q.take j).flatMap (introsN N)).length≤64*128:=by
    refine Nat.le_trans (flat_len N (Q.take j)) (Nat.mul_le_mul ?_ ?_)
    ·rw [List.length_take];have:=HL.out;omega
    ·omega
   have hyP:=HQS.out y (List.mem_of_getElem? hy)
   have hl1:m1≤4000000000000000000:=by have:=s1.len;omega
   have hl4:m4≤4000000000000000000:=by have:=s4.len;omega
   have S1:=lH s1
   have S4:=lH s4
   generalize (Q.take j).flatMap (introsN N)=E at GW HNN FSn hEl
   clear hy s1 s4 hyP
   have B8:=Blk.new wi [.int .i64 y.id,.slice b1 m1 d1,.int .i64 y.left,.int .i64 y.right,.slice b4 m4 d4] 150
   have kk:=Ex.new wi (.cells #[.int .i64 y.id,.slice b1 m1 d1,.int .i64 y.left,.int .i64 y.right,.slice b4 m4 d4] 150)
   obtain ⟨w5,hw5⟩:∃ w5,w5=wi.alloc (.cells #[.int .i64 y.id,.slice b1 m1 d1,.int .i64 y.left,.int .i64 y.right,.slice b4 m4 d4] 150):=⟨_,rfl⟩
   obtain ⟨g8,hg8⟩:∃ g8,g8=wi.heap.size:=⟨_,rfl⟩
   replace B8:Blk w5 g8 [.int .i64 y.id,.slice b1 m1 d1,.int .i64 y.left,.int .i64 y.right,.slice b4 m4 d4] 150:=by rw [hw5,hg8];exact B8
   rw [← hw5] at kk
   have Hw5:=lH hw5
   have Hg8:=lH hg8
   have K5:=lH kk
   clear kk hw5 hg8
   go_upto_region 6 with fail
   rw [← Hg8.out,← Hw5.out]
   clear Hg8 Hw5
   have q0:=B8.cell 0 _ rfl
   have q1:=B8.cell 1 _ rfl
   have q2:=B8.cell 2 _ rfl
   have q3:=B8.cell 3 _ rfl
   have q4:=B8.cell 4 _ rfl
   clear e0 e1 e2 e3 e4 B8
   go_wp2_with fail
   (with_reducible refine (intros_p _ _ _ N y _ _ _ _ _ _ _ (HS3.out.nx (K3.out.nx K5.out)) hn hc hm (S1.out.nx K5.out) (S4.out.nx K5.out) hl1 hl4).mono ?_)
   rintro e w9 ⟨v9,rfl,o9,kk⟩
   clear q0 q1 q2 q3 q4
   obtain ⟨A9,C9,rfl,r9,_,_,_,_⟩:=o9.rd (fun _=>rfl)
   have K9:=lH (K5.out.nx kk)
   have R9:Hid (Slf 2 encS wi w9 A9 (introsN N y).length (introsN N y)):=lH (Slf.old r9 K5.out.size)
   have hMl:=intros_len N y
   have HMI:Hid (∀ q∈introsN N y,I64 q.1):=lH (fun q hq=>by obtain ⟨x,hx,he⟩:=intros_ids hq;rw [← he];exact HI.out x hx)
   generalize introsN N y=M at R9 hMl HMI FSn r9 o9 ⊢
   have A0:Hid (AccM w4.heap.size wi.heap.size w9.heap.size bm w9 w9 f):=lH ⟨Chg.refl _ _,Nat.le_refl _,fun v g hg=>.inl ((GW.out.row v).lt g hg).2⟩
   have G9:=lH (GW.out.nx K9.out)
   clear r9 o9 kk
   go_wp2_with fail
   go_loopw [30] (fun i wr=>LmRel E M bm wi.heap.size w4 w9 i wr) (fun i _=>M.length-(intOf i).toNat)
   case atStart=>exact ⟨0,nn,f,by omega,rfl,by simpa using G9.out,by simpa using HNN.out,A0.out⟩
   case round =>
    clear A0 G9 GW
    obtain ⟨i,m,f2,hi,rfl,GP,hm2,ac⟩:=hrel
    obtain ⟨wp,rfl⟩:∃ wp:World,wp=wr:=⟨_,rfl⟩
    by_cases hil:i<M.length
    ·obtain ⟨xr,or,z,rfl,hxr,hz,hcr⟩:=(ac.sl hbi R9.out).at (j:=i) hil
     have f0:wp.cell? ⟨xr,or+i*2,none⟩=some (.int .i64 z.1):=by simpa using hcr 0 _ rfl
     have f1:wp.cell? ⟨xr,or+i*2+1,none⟩=some (.int .i64 z.2):=by simpa using hcr 1 _ rfl
     have LS:Hid (M.take (i+1)=M.take i++[z]):=lH (by rw [List.take_add_one,hz];rfl)
     have hzI:=HMI.out z (List.mem_of_getElem? hz)
     have wx1:=lH (wf_of hzI)
     have JX:=lH (told_len (E++M.take i) z.1)
     have hEM:(E++M.take i).length≤64*128+128:=by rw [List.length_append,List.length_take];omega
     generalize hJ:toldN (E++M.take i)=J at GP JX
     have HJ:=lH hJ
     have jlx:(J z.1).length≤10000:=Nat.le_trans JX.out (by omega)
     have GPH:=lH GP
     have AC:=lH ac
     have M2:=lH hm2
     have hm100:m<1000000:=by omega
     clear hcr hz hzI hJ GP ac hm2 JX hEM
     have B10:=Blk.new wp [.int .i64 z.1,.int .i64 z.2] 242
     have kk:=Ex.new wp (.cells #[.int .i64 z.1,.int .i64 z.2] 242)
     obtain ⟨w6,hw6⟩:∃ w6,w6=wp.alloc (.cells #[.int .i64 z.1,.int .i64 z.2] 242):=⟨_,rfl⟩
     obtain ⟨g10,hg10⟩:∃ g10,g10=wp.heap.size:=⟨_,rfl⟩
     replace B10:Blk w6 g10 [.int .i64 z.1,.int .i64 z.2] 242:=by rw [hw6,hg10];exact B10
     rw [← hw6] at kk
     have Hw6:=lH hw6
     have Hg10:=lH hg10
     have zg10:wp.heap.size≤g10:=by omega
     replace GPH:=lH (GPH.out.nx kk)
     replace AC:=lH (AC.out.nxm kk)
     clear kk hw6 hg10
     go_upto_region 9 with fail
     rw [← Hg10.out,← Hw6.out]
     clear Hg10 Hw6
     have BP:=lH B10
     have zbp:bm<w6.heap.size:=GPH.out.1.lt
     have zgp:g10<w6.heap.size:=B10.lt
     have NB:Hid (∀ v,¬ (f2 v).ownBlock=some bm∧¬ (f2 v).ownBlock=some g10):=lH (fun v=>⟨fun hv=>by have:=((GPH.out.row v).lt bm hv).1;omega,fun hv=>OwnL.ne_blk (GPH.out.row v) BP.out (by decide) hv rfl⟩)
     clear f0 f1 B10
     refine wp_region_late_drew (S:=Chg (fun k=>k=bm∨k=g10) w6) [11] (by kernel_rfl) ((Chg.refl _ w6).drew) (fun hHeld=>?_)
     obtain ⟨wd,hwdx⟩:∃ wd:World,wd=World.drew w6:=⟨_,rfl⟩
     rw [← hwdx] at hHeld ⊢
     have hDrew:Ex w6 wd:=by rw [hwdx];exact (Ex.refl w6).drew
     clear hwdx
     refine tkL 0 (v:=?_) rfl (by kernel_rfl) (fun _ _ _ h=>h) (by rfl) ?y5 hHeld ?_
     case y5=>intro wq hSw;go_simp<;>rfl
     refine tkL 1 (v:=?_) rfl (by kernel_rfl) (fun _ _ _ h=>h) (by rfl) ?y8 hHeld ?_
     case y8=>intro wq hSw;go_simp<;>rfl
     refine tkL 2 (v:=?_) rfl (by kernel_rfl) (fun _ _ _ h=>h) (by rfl) ?y11 hHeld ?_
     case y11=>intro wq hSw;(have cq:=((show Blk wq g10 _ _ from (hSw.block g10 (.inr rfl)).trans BP.out).cell 0 _ rfl);go_simp)<;>rfl
     refine tkL 3 (v:=?_) rfl (by kernel_rfl) (fun _ _ _ h=>h) (by rfl) ?y14 hHeld ?_
     case y14=>intro wq hSw;go_simp<;>rfl
     refine tkL 4 (v:=?_) rfl (by kernel_rfl) (fun _ _ _ h=>h) (by rfl) ?y17 hHeld ?_
     case y17=>intro wq hSw;go_simp<;>rfl
     refine tkL 5 (v:=?_) rfl (by kernel_rfl) (fun _ _ _ h=>h) (by rfl) ?y20 hHeld ?_
     case y20=>intro wq hSw;(have cq:=((show Blk wq g10 _ _ from (hSw.block g10 (.inr rfl)).trans BP.out).cell 0 _ rfl);go_simp)<;>rfl
     refine tkL 6 (v:=?_) rfl (by kernel_rfl) (fun _ _ _ h=>h) (by rfl) ?y23 hHeld ?_
     case y23=>intro wq hSw;(have lk:=(RawM.same GPH.out.1 (hSw.block bm (.inl rfl))).get (t:=290) Tryz.underlying3 Tryz.underlying290 (Tryz.zeroS _) wx1.out;go_simp)<;>rfl
     refine tkL 7 (v:=?_) rfl (by kernel_rfl) (fun _ _ _ h=>h) (by rfl) ?y26 hHeld ?_
     case y26=>intro wq hSw;go_simp<;>rfl
     refine tkL 8 (v:=?_) rfl (by kernel_rfl) (fun _ _ _ h=>h) (by rfl) ?y29 hHeld ?_
     case y29=>intro wq hSw;(have cq:=((show Blk wq g10 _ _ from (hSw.block g10 (.inr rfl)).trans BP.out).cell 1 _ rfl);go_simp)<;>rfl
     refine rL 9 (by kernel_rfl) rfl fun K hK=>?_
     go_simp
     obtain ⟨g8,wq,hg8,hwq,SX,kk⟩:=litF hHeld.size z.2
     rw [← hg8,← hwq]
     clear hg8 hwq
     replace hDrew:=hDrew.nx kk
     replace hHeld:=hold_ex hHeld zbp zgp kk
     clear kk
     refine hK.out _ _ (hHeld) (fun hHeld=>?_)
     clear hK K
     refine rL 10 (by kernel_rfl) rfl fun K hK=>?_
     rw [if_pos (by rfl)]
     have rx:=(GPH.out.row z.1).nx hDrew
     have zbase:=Nat.le_trans GPH.out.2.2.1 hDrew.size
     refine wp_append_rda (enc:=encI) _ (.tmp 40) (.tmp 43) 22 rfl w4.heap.size 3 (.int .i64 0) 1 8 Tryz.underlying22 Tryz.infoI6 rfl (by omega) (by omega) _ (J z.1) rx rfl _ _ 1 1 [z.2] SX (fun h=>by cases h) (fun _=>rfl) (by simp [encI,Value.oneCell']) rfl (by omega) (by omega) zbase ?_
     intro va w1 A ch0 ch1 hva
     have KA:Chg (fun k=>k<w6.heap.size∧¬ (f2 z.1).ownBlock=some k) w6 w1:=Chg.trans (Chg.mono hDrew (fun k hk=>hk.1)) (Chg.mono ch0 (fun k hk=>⟨Nat.lt_of_lt_of_le hk.1 hDrew.size,hk.2⟩))
     have la:=own_hist hva hDrew.size
     replace hHeld:=hold_row hHeld zbp zgp (NB.out z.1) ch0
     clear ch0 ch1 hva rx hDrew SX
     refine hK.out _ _ (hHeld) (fun hHeld=>?_)
     clear hK K
     refine rLL 11 (by kernel_rfl) rfl (by rfl) fun K hK=>?_
     have R2:=RawM.same GPH.out.1 (hHeld.block bm (.inl rfl))
     obtain ⟨wg,hrun,R3,k5,sz5⟩:=R2.put (t:=290) Tryz.underlying3 Tryz.underlying290 (by omega) wx1.out va
     go_simp
     clear hrun sz5 R2
     refine hK.out _ _ ?_
     clear hK K
     refine wpAnyL_done (by kernel_rfl) ?_ _
     have GN:=GPH.out.one (x:=z.1) (y:=z.2) A KA la k5 R3
     have AN:=AC.out.one (fun v g hg=>((GPH.out.row v).lt g hg).1) KA la k5
     have RR:=lH (show LmRel E M bm wi.heap.size w4 w9 (.int .i64 ((i:Int)+1)) wg from ⟨i+1,m+1,_,by omega,by go_num,by rw [LS.out,← List.append_assoc,told_grp,HJ.out];exact GN,by rw [M2.out];omega,AN⟩)
     clear GN AN A KA la R3 k5 hHeld
     go_wp2_with fail
     exact ⟨RR.out,by simp [intOf];omega⟩
    ·obtain rfl:i=M.length:=by omega
     rw [List.take_of_length_le (Nat.le_refl _),← FSn.out] at GP
     have RR:=lH (show LrRel N Q bm w4 (.int .i64 ((j:Int)+1)) wp from ⟨j+1,m,f2,by omega,by go_num,GP,by rw [FSn.out,List.length_append];exact hm2,(ac.exb (KW.out.nxb (K9.out.b bm)) (Nat.le_refl _))⟩)
     clear GP ac
     go_wp2_with fail
     exact ⟨RR.out,by simp [intOf];omega⟩
  ·obtain rfl:j=Q.length:=by omega
   have GP:=GW.out
   rw [List.take_of_length_le (Nat.le_refl _)] at GP
   have HFL:=flat_len N Q
   generalize Q.flatMap (introsN N)=M at GP HR HFL
   have GP:=lH GP
   clear GW HNN hj hjm
   go_wp2_with fail
   go_loopw [11,49] (fun o i wr=>LtRel N Q M qs w.heap.size wi o i wr) (fun _ i _=>Q.length-(intOf i).toNat)
   case atStart=>exact ⟨0,[],by omega,rfl,OwnP.nil _ _ _ _ _,(fun g hg=>by cases hg),(by intro i q h;simp at h),Ex.refl _⟩
   case round =>
    obtain ⟨j2,qz,hj2,rfl,own,hblk,hnear,ki⟩:=hrel
    obtain ⟨wk,rfl⟩:∃ wk:World,wk=wr:=⟨_,rfl⟩
    have HB:=lH hblk
    have HN:=lH hnear
    clear hblk hnear
    by_cases hjm:j2<Q.length
    ·have HC:=lH (HQ2.out (by omega))
     have hN64:N.length≤64:=check_len HC.out
     have own0:=HOQ.out.nx (K3.out.nx ki)
     obtain ⟨y,hy⟩:∃ y,Q[j2]?=some y:=⟨Q[j2],List.getElem?_eq_getElem hjm⟩
     obtain ⟨⟨A1,n1,c1⟩,⟨A4,n4,c4⟩,hq,okn,onr⟩:=own0.get hy
     obtain ⟨a',cap',e',r',_⟩:=own0.1.rd encQ_len
     have hql:qs.length=Q.length:=own0.2.1
     obtain ⟨x3,o3,q',ea,hx3,hq',hc3⟩:=Rd.at r' (j:=j2) (by omega)
     obtain rfl:(y.nums,(A1,n1,c1),(A4,n4,c4))=q':=Option.some.inj (hq.symm.trans hq')
     obtain rfl:aQ=some ⟨x3,o3,none⟩:=by injection e' with h1 h2 h3;rw [h1,ea]
     have e0:wk.cell? ⟨x3,o3+j2*5,none⟩=some (.int .i64 y.id):=hc3 0 _ rfl
     have e1:wk.cell? ⟨x3,o3+j2*5+1,none⟩=some (.slice A1 n1 c1):=hc3 1 _ rfl
     have e2:wk.cell? ⟨x3,o3+j2*5+1+1,none⟩=some (.int .i64 y.left):=hc3 2 _ rfl
     have e3:wk.cell? ⟨x3,o3+j2*5+1+1+1,none⟩=some (.int .i64 y.right):=hc3 3 _ rfl
     have e4:wk.cell? ⟨x3,o3+j2*5+1+1+1+1,none⟩=some (.slice A4 n4 c4):=hc3 4 _ rfl
     have S1:Hid (Sl 1 encI wk A1 n1 y.known):=lH (by obtain ⟨_,_,e,r,_⟩:=okn.rd (fun _=>rfl);injection e with h1 h2 h3;subst h1 h2 h3;exact r.mono (fun _ hk=>hk.2))
     have S4:Hid (Sl 4 encNr wk A4 n4 y.near):=lH (by obtain ⟨_,_,e,r,_⟩:=onr.rd (fun _=>rfl);injection e with h1 h2 h3;subst h1 h2 h3;exact r.mono (fun _ hk=>hk.2))
     have hyP:=HQS.out y (List.mem_of_getElem? hy)
     have hl1:n1≤4000000000000000000:=by have:=S1.out.len;omega
     have hl4:n4≤4000000000000000000:=by have:=S4.out.len;omega
     have ONR:=lH onr
     have FN:Hid (∀ (j:Nat) (r:PQ) (g:Nat),qz[j]?=some r→j<j2→r.2.2.val.ownBlock=some g→¬ (Value.slice A4 n4 c4).ownBlock=some g):=lH (fun i r g hr hi hg hv=>by
      obtain ⟨q0,h0,h1⟩:=HN.out i r hr
      rw [h1] at hg
      have:=own0.2.2.2.2 i j2 q0 _ g h0 hq hg hv
      omega)
     have HQJ:=lH hq
     have hqz:qz.length=j2:=by rw [own.2.1,List.length_map,List.length_take];omega
     have hxN:∃ x∈N,x.id=y.id:=HQI.out y (List.mem_of_getElem? hy)
     have wx1:Hid ((Lit.int .i64 y.id).wf=true):=lH (by obtain ⟨x,hx,he⟩:=hxN;rw [← he];exact wf_of (roster_ok HC.out x hx).1.1)
     have SN:Hid ((Q.take (j2+1)).map (rndP N M)=(Q.take j2).map (rndP N M)++[rndP N M y]):=lH (by rw [List.take_add_one,hy,List.map_append];rfl)
     have HRP:Hid (rndP N M y={ y with left:=(keepN N y).1,right:=(keepN N y).2,known:=ordN N ([(keepN N y).1,(keepN N y).2]++toldN M y.id) y.id }):=lH rfl
     have OWN:=lH own
     have KI:=lH ki
     have hwi:w.heap.size≤wk.heap.size:=(K03.out.nx (K3.out.nx ki)).size
     clear own0 hq okn onr e' r' hql hx3 hq' hc3 hyP hy own ki hxN
     have B13:=Blk.new wk [.int .i64 y.id,.slice A1 n1 c1,.int .i64 y.left,.int .i64 y.right,.slice A4 n4 c4] 150
     have kk:=Ex.new wk (.cells #[.int .i64 y.id,.slice A1 n1 c1,.int .i64 y.left,.int .i64 y.right,.slice A4 n4 c4] 150)
     obtain ⟨w11,hw11⟩:∃ w11,w11=wk.alloc (.cells #[.int .i64 y.id,.slice A1 n1 c1,.int .i64 y.left,.int .i64 y.right,.slice A4 n4 c4] 150):=⟨_,rfl⟩
     obtain ⟨g13,hg13⟩:∃ g13,g13=wk.heap.size:=⟨_,rfl⟩
     replace B13:Blk w11 g13 [.int .i64 y.id,.slice A1 n1 c1,.int .i64 y.left,.int .i64 y.right,.slice A4 n4 c4] 150:=by rw [hw11,hg13];exact B13
     rw [← hw11] at kk
     have Hw11:=lH hw11
     have Hg13:=lH hg13
     have K11:=lH kk
     clear kk hw11 hg13
     go_upto_region 16 with fail
     rw [← Hg13.out,← Hw11.out]
     clear Hg13 Hw11
     have q0:=B13.cell 0 _ rfl
     have q1:=B13.cell 1 _ rfl
     have q2:=B13.cell 2 _ rfl
     have q3:=B13.cell 3 _ rfl
     have q4:=B13.cell 4 _ rfl
     clear e0 e1 e2 e3 e4
     go_wp2_with fail
     (with_reducible refine (keep_p _ _ _ N y _ _ _ _ _ _ _ (HS3.out.nx (K3.out.nx (KI.out.nx K11.out))) hn hc hm (S1.out.nx K11.out) (S4.out.nx K11.out) hl1 hl4).mono ?_)
     rintro e w12 ⟨rfl,kk⟩
     replace B13:=B13.nx kk
     replace K11:=lH (K11.out.nx kk)
     clear q0 q1 q2 q3 q4 kk
     generalize keepN N y=kl at HRP ⊢
     obtain ⟨kl,kr⟩:=kl
     simp only at HRP ⊢
     have B14:=Blk.new w12 [.int .i64 kl,.int .i64 kr] 128
     have kk:=Ex.new w12 (.cells #[.int .i64 kl,.int .i64 kr] 128)
     obtain ⟨w13,hw13⟩:∃ w13,w13=w12.alloc (.cells #[.int .i64 kl,.int .i64 kr] 128):=⟨_,rfl⟩
     obtain ⟨g14,hg14⟩:∃ g14,g14=w12.heap.size:=⟨_,rfl⟩
     replace B14:Blk w13 g14 [.int .i64 kl,.int .i64 kr] 128:=by rw [hw13,hg14];exact B14
     rw [← hw13] at kk
     have Hw13:=lH hw13
     have Hg14:=lH hg14
     replace B13:=B13.nx kk
     replace K11:=lH (K11.out.nx kk)
     clear kk hw13 hg14
     go_upto_region 17 with fail
     rw [← Hg14.out,← Hw13.out]
     clear Hg14 Hw13
     have G13:=lH (GP.out.nx (KI.out.nx K11.out))
     have lk:=G13.out.1.get (t:=290) Tryz.underlying3 Tryz.underlying290 (Tryz.zeroS _) wx1.out
     obtain ⟨aT,cT,eT,rT,_,_,_⟩:=(G13.out.row y.id).rd (fun _=>rfl)
     have ST:Hid (Sl 1 encI w13 aT (toldN M y.id).length (toldN M y.id)):=lH (rT.mono (fun _ hk=>hk.2))
     have hlT:(toldN M y.id).length≤4000000000000000000:=by
      have h1:=told_len M y.id
      have h2:Q.length*(2*N.length)≤1000*128:=Nat.mul_le_mul (by omega) (by omega)
      omega
     rw [eT] at lk
     have q0:=B13.cell 0 _ rfl
     have q1:=B14.cell 0 _ rfl
     have q2:=B14.cell 1 _ rfl
     have KE:=lH (known_eq HC.out y.id kl kr (toldN M y.id))
     generalize toldN M y.id=T at HRP lk ST hlT KE
     clear eT rT
     go_wp2_with fail
     (with_reducible refine (refs_p _ _ _ N ⟨y.id,kl,kr,T,[]⟩ aT _ cT none 0 0 _ (HS3.out.nx (K3.out.nx (KI.out.nx K11.out))) (by omega) hc hm ST.out (Sl.nil _ _ _ _) hlT (by omega)).mono ?_)
     rintro e w14 ⟨vK,rfl,oK,kk⟩
     replace B13:=B13.nx kk
     replace B14:=B14.nx kk
     have hz13:=K11.out.size
     replace K11:=lH (K11.out.nx kk)
     rw [KE.out] at oK
     clear q0 q1 q2 lk ST kk
     have FK:=lH (fun (j:Nat) (r:PQ) (g:Nat) (hr:qz[j]?=some r) (hg:r.2.1.val.ownBlock=some g)=>(show g<wk.heap.size from by obtain ⟨_,_,_,r2,_⟩:=OWN.out.getp hr;exact (r2.lt g hg).2))
     obtain ⟨AK,CK,rfl,_,_,_,_⟩:=oK.slf (fun _=>rfl)
     have OKL:=lH (fun g hg=>(oK.lt g hg).1)
     replace oK:=lH (oK.base (Nat.le_trans hwi hz13))
     generalize hkn:ordN N ([kl,kr]++T) y.id=kn at HRP oK OKL
     clear hkn
     have q0:=B13.cell 0 _ rfl
     have q4:=B13.cell 4 _ rfl
     have q1:=B14.cell 0 _ rfl
     have q2:=B14.cell 1 _ rfl
     clear B13 B14
     have kl2:=Ex.new w14 (.cells #[.int .i64 y.id,.slice AK kn.length CK,.int .i64 kl,.int .i64 kr,.slice A4 n4 c4] 150)
     have OP:=OWN.out.nx (K11.out.nx kl2)
     have KN:=lH (K11.out.nx kl2)
     have zn:=Nat.le_trans hwi KN.out.size
     go_wp2_with (at_builtin;(refine wpList_append_W (enc:=encQ) _ rfl _ _ 53 rfl w.heap.size 150 (.agg #[.int .i64 0,.slice none 0 0,.int .i64 0,.int .i64 0,.slice none 0 0]) 5 72 Tryz.underlying53 Tryz.infoPr rfl (by omega) (by omega) _ qz OP.row rfl _ 1 1 [((y.id,kl,kr),(AK,kn.length,CK),(A4,n4,c4))] (Sl.lit _ rfl rfl encQ_len rfl) encQ_len encQ_one rfl (by omega) (by omega) zn ?_);intro v9 w9 own9 ch0 ch1 hv)
     have RR:=OP.push (p:=⟨y.id,kl,kr,kn,y.near⟩) (hk:=(AK,kn.length,CK)) (hn:=(A4,n4,c4)) (by decide) (by decide) own9 ch0 (oK.out.nx kl2) (ONR.out.nx KN.out)
      (fun j r g hr hg hv=>by have h1:=FK.out j r g hr hg;have h2:=OKL.out g hv;omega)
      (fun j r g hr hg hv=>FN.out j r g hr (by have:=(List.getElem?_eq_some_iff.1 hr).1;omega) hg hv)
     have KF:Ex wi w9:=Chg.trans (KI.out.nx KN.out) (ch0.mono (fun k (hk:k<wi.heap.size)=>⟨Nat.lt_of_lt_of_le hk (KI.out.nx KN.out).size,fun hg=>by have:=HB.out k hg;omega⟩))
     refine ⟨⟨j2+1,_,by omega,by go_num,by rw [SN.out,HRP.out];exact RR,fun g hg=>?_,fun i q hi=>?_,KF⟩,by simp [intOf];omega⟩
     ·rcases hv with h1 | h1
      ·exact HB.out g (by rw [← h1];exact hg)
      ·exact Nat.le_trans (KI.out.nx KN.out).size (h1 g hg)
     ·rcases Nat.lt_or_ge i qz.length with h1 | h1
      ·rw [List.getElem?_append_left h1] at hi
       exact HN.out i q hi
      ·have h2:=(List.getElem?_eq_some_iff.1 hi).1
       rw [List.length_append,List.length_singleton] at h2
       obtain rfl:i=j2:=by omega
       rw [List.getElem?_append_right (by omega),hqz,Nat.sub_self] at hi
       simp only [List.getElem?_cons_zero,Option.some.injEq] at hi
       subst hi
       exact ⟨_,HQJ.out,rfl⟩
    ·obtain rfl:j2=Q.length:=by omega
     rw [List.take_of_length_le (Nat.le_refl _)] at own
     have FO:=lH own
     have FE:=lH (K03.out.nx (K3.out.nx ki))
     clear own ki
     go_wp2_with fail
     go_ret
     exact ⟨_,qz,rfl,by rw [HR.out];exact FO.out,FE.out⟩
def lrow (N:List Nd) (h:Nat) (p:Pr):Lkd:=(p.id,(List.range (h+1)).map fun (lev:Nat)=>linkB N p lev)
theorem links_eq {N:List Nd} {P:List Pr} {h:Nat} (hh:h≤16):linksB N P h=(normalN N P).map (lrow N h):=by
 unfold linksB
 rw [if_pos (lvl_of (by omega) (by omega))]
 rfl
theorem links_no {N:List Nd} {P:List Pr} {h:Int} (hh:lvlN h=false):linksB N P h=[]:=by unfold linksB;rw [if_neg (by rw [hh];simp)]
theorem litLk {w0 u:World} (_:Ex w0 u) (y:Int×Int):∃ g v,g=u.heap.size∧v=u.alloc (.cells #[.int .i64 y.1,.int .i64 y.2] 128)∧Sl 2 encS v (some ⟨g,0,none⟩) 1 [y]∧Ex u v :=
 ⟨_,_,rfl,rfl,Sl.lit [y] rfl rfl (fun _=>rfl) rfl,Ex.new _ _⟩
def LsPost (L:List Lkd) (w:World) (en:Ending) (w':World):Prop:=∃ (v:Value) (qs:List (Int×Hdr)),en=.returned v∧OwnLk w.heap.size w' v qs L∧Ex w w'
def LoRel (N:List Nd) (Q:List Pr) (h:Nat) (w:World) (o i:Value) (wr:World):Prop :=
 ∃ (j:Nat) (qs:List (Int×Hdr)),j≤Q.length∧i=.int .i64 j∧OwnLk w.heap.size wr o qs ((Q.take j).map (lrow N h))∧Ex w wr
def LiRel (N:List Nd) (p:Pr) (h g:Nat) (w:World) (i:Value) (wr:World):Prop :=
 ∃ (lev:Nat) (A:Option Addr) (m c:Nat),lev≤h+1∧i=.int .i64 lev∧Blk wr g [.int .i64 p.id,.slice A m c] 121∧OwnL 2 encS 128 w.heap.size wr (.slice A m c) ((List.range lev).map fun (lev:Nat)=>linkB N p lev)∧Exb g w wr
set_option maxRecDepth 100000 in
set_option maxHeartbeats 8000000 in
theorem links_p (a:Option Addr) (n c:Nat) (N:List Nd) (a2:Option Addr) (n2 c2:Nat) (P:List Pr) (hh:Int) (w:World) (h:Sl 3 encN w a n N) (hn:n≤1000) (hc:n≤c) (hm:c≤maxLen) (hw:∀ x∈N,x.word<4294967296) (h2:PL w a2 n2 P) (hn2:n2≤4000000000000000000) (hP:SmallP P) :
  Calls Tryz.prog 26 #[.slice a n c,.slice a2 n2 c2,.int .i64 hh] w (LsPost (linksB N P hh) w):=by
 have HL:=lH h.len
 have HW:=lH hw
 clear hw
 have NO:Hid (lvlN hh=false→LsPost (linksB N P hh) w (.returned (.slice none 0 0)) w):=lH (fun h=>by
  rw [links_no h]
  exact ⟨_,[],rfl,OwnN.nil _ _ _ _ _ _ _ _,Ex.refl _⟩)
 by_cases h0:hh<0
 ·have FI:=lH (NO.out (by unfold lvlN;simp;omega))
  clear h h2 hP NO
  go_enter Tryz.func26,Tryz.ntmps26
  go_wp2_with fail
  go_ret
  exact FI.out
 by_cases h1:hh>16
 ·have FI:=lH (NO.out (by unfold lvlN;simp;omega))
  clear h h2 hP NO
  go_enter Tryz.func26,Tryz.ntmps26
  go_wp2_with fail
  go_ret
  exact FI.out
 obtain ⟨k,rfl⟩:=Int.eq_ofNat_of_zero_le (show 0≤hh by omega)
 have hk16:k≤16:=by omega
 have HR:=lH (links_eq (N:=N) (P:=P) hk16)
 clear NO
 go_enter Tryz.func26,Tryz.ntmps26
 go_wp2_with fail
 (with_reducible refine (normal_p _ _ _ N _ _ _ P _ h hn hc hm h2 hn2 hP).mono ?_)
 rintro e w3 ⟨v3,qs,rfl,OQ,kk⟩
 replace h:=h.nx kk
 clear h2
 have K03:=lH kk
 obtain ⟨hQ1,hQ2⟩:=normal_le N P
 have HQS:=lH (normal_small N hP)
 generalize normalN N P=Q at OQ hQ1 hQ2 HR HQS
 obtain ⟨aQ,cQ,rfl,PQ0,_,_,_,_⟩:=OQ.pl
 have HPQ:=lH PQ0
 have hQn:Q.length≤n:=by have:=HL.out;omega
 have hz3:=kk.size
 have HS:=lH h
 clear OQ PQ0 kk hQ1 hQ2 hP h
 go_wp2_with fail
 go_loopw [7,22] (fun o i wr=>LoRel N Q k w3 o i wr) (fun _ i _=>Q.length-(intOf i).toNat)
 case atStart=>exact ⟨0,[],by omega,rfl,OwnN.nil _ _ _ _ _ _ _ _,Ex.refl _⟩
 case round =>
  obtain ⟨j,qz,hj,rfl,own,ki⟩:=hrel
  obtain ⟨wi,rfl⟩:∃ wi:World,wi=wr:=⟨_,rfl⟩
  by_cases hjm:j<Q.length
  ·obtain ⟨x5,o5,b1,m1,d1,b4,m4,d4,y,rfl,hx5,hy,e0,e1,e2,e3,e4,s1,s4⟩:=(HPQ.out.nx ki).rd hjm
   have ET:Hid ((Q.take (j+1)).map (lrow N k)=(Q.take j).map (lrow N k)++[(y.id,(List.range (k+1)).map fun (lev:Nat)=>linkB N y lev)]):=lH (by rw [List.take_add_one,hy,List.map_append];rfl)
   have hyP:=HQS.out y (List.mem_of_getElem? hy)
   have hql:qz.length=j:=by rw [own.2.1,List.length_map,List.length_take];omega
   have hl4:m4≤4000000000000000000:=by have:=s4.len;omega
   have hwi:=ki.size
   have S4y:=lH s4
   have KI:=lH ki
   have OWN:=lH own
   clear hy own ki hyP s1 s4
   have B9:=Blk.new wi [.int .i64 y.id,.slice b1 m1 d1,.int .i64 y.left,.int .i64 y.right,.slice b4 m4 d4] 150
   have kk:=Ex.new wi (.cells #[.int .i64 y.id,.slice b1 m1 d1,.int .i64 y.left,.int .i64 y.right,.slice b4 m4 d4] 150)
   obtain ⟨w7,hw7⟩:∃ w7,w7=wi.alloc (.cells #[.int .i64 y.id,.slice b1 m1 d1,.int .i64 y.left,.int .i64 y.right,.slice b4 m4 d4] 150):=⟨_,rfl⟩
   obtain ⟨g9,hg9⟩:∃ g9,g9=wi.heap.size:=⟨_,rfl⟩
   replace B9:Blk w7 g9 [.int .i64 y.id,.slice b1 m1 d1,.int .i64 y.left,.int .i64 y.right,.slice b4 m4 d4] 150:=by rw [hw7,hg9];exact B9
   rw [← hw7] at kk
   have Hw7:=lH hw7
   have Hg9:=lH hg9
   have zg9:wi.heap.size≤g9:=by omega
   have K7:=lH kk
   clear kk hw7 hg9
   go_upto_region 7 with fail
   rw [← Hg9.out,← Hw7.out]
   clear Hg9 Hw7
   clear e0 e1 e2 e3 e4
   have p0:=B9.cell 0 _ rfl
   have hg9l:=B9.lt
   have B10:=Blk.new w7 [.int .i64 y.id,.slice none 0 0] 121
   have kk:=Ex.new w7 (.cells #[.int .i64 y.id,.slice none 0 0] 121)
   obtain ⟨w8,hw8⟩:∃ w8,w8=w7.alloc (.cells #[.int .i64 y.id,.slice none 0 0] 121):=⟨_,rfl⟩
   obtain ⟨g10,hg10⟩:∃ g10,g10=w7.heap.size:=⟨_,rfl⟩
   replace B10:Blk w8 g10 [.int .i64 y.id,.slice none 0 0] 121:=by rw [hw8,hg10];exact B10
   rw [← hw8] at kk
   have Hw8:=lH hw8
   have Hg10:=lH hg10
   replace B9:=B9.nx kk
   have zg10:w7.heap.size≤g10:=by omega
   have n910:¬ g9=g10:=by omega
   have zgi:wi.heap.size≤g10:=by have:=K7.out.size;omega
   have K8:=lH (K7.out.nx kk)
   clear kk hw8 hg10
   go_upto_region 8 with fail
   rw [← Hg10.out,← Hw8.out]
   clear Hg10 Hw8
   clear p0
   have B9s:=lH B9
   have hgk:=B10.lt
   have hwk:IntKind.i64.wrap ((k:Int)+1)=(k:Int)+1:=IntWalk.i64_in _ (by omega)
   clear B9
   go_wp2_with fail
   go_loopw [31] (fun i wr=>LiRel N y k g10 w8 i wr) (fun i _=>k+1-(intOf i).toNat)
   case atStart=>exact ⟨0,none,0,0,by omega,rfl,B10,OwnL.nil _ _ _ _ _,Exb.refl _ _⟩
   case round =>
    clear B10
    obtain ⟨lev,A,m,cc,hlev,rfl,BR,lrw,kv⟩:=hrel
    obtain ⟨wp,rfl⟩:∃ wp:World,wp=wr:=⟨_,rfl⟩
    have KV:=lH (Exl.nxb (b:=g10) (w:=wi) ⟨K8.out,zgi⟩ kv).1
    by_cases hl2:lev≤k
    ·have SP:=lH (HS.out.nx (KI.out.nx KV.out))
     have SN4:=lH (S4y.out.nx KV.out)
     have KVV:=lH kv
     have NSN:Hid (((List.range (lev+1)).map fun (lev:Nat)=>linkB N y lev)=((List.range lev).map fun (lev:Nat)=>linkB N y lev)++[linkB N y lev]):=lH (by rw [List.range_succ,List.map_append];rfl)
     have hrl:((List.range lev).map fun (lev:Nat)=>linkB N y lev).length=lev:=by simp
     generalize hyy:linkB N y lev=yy at NSN
     have HYY:=lH hyy
     generalize ((List.range lev).map fun (lev:Nat)=>linkB N y lev)=row at lrw NSN hrl
     have BPP:=lH BR
     have NROW:=lH lrw
     have zk:=kv.size
     clear hyy lrw kv BR
     have BN:=lH (B9s.out.nxb n910 KVV.out)
     have hlk:(lev:Int)<(k:Int)+1:=by omega
     go_upto_region 11 with fail
     refine wp_region_late_drew (S:=Ex wp) [7,8,9] (by kernel_rfl) ((Ex.refl wp).drew) (fun hHeld=>?_)
     obtain ⟨wd,hwdx⟩:∃ wd:World,wd=World.drew wp:=⟨_,rfl⟩
     rw [← hwdx] at hHeld ⊢
     have hDrew:Ex wp wd:=by rw [hwdx];exact (Ex.refl wp).drew
     clear hwdx
     refine tkL 0 (v:=?_) rfl (by kernel_rfl) (fun _ _ _ h=>h) (by rfl) ?y5 hHeld ?_
     case y5=>intro wq hSw;go_simp<;>rfl
     refine tkL 1 (v:=?_) rfl (by kernel_rfl) (fun _ _ _ h=>h) (by rfl) ?y8 hHeld ?_
     case y8=>intro wq hSw;(have cq:=(BPP.out.nx hSw).cell 1 _ rfl;go_simp)<;>rfl
     refine tkL 2 (v:=?_) rfl (by kernel_rfl) (fun _ _ _ h=>h) (by rfl) ?y11 hHeld ?_
     case y11=>intro wq hSw;go_simp<;>rfl
     refine tkL 3 (v:=?_) rfl (by kernel_rfl) (fun _ _ _ h=>h) (by rfl) ?y14 hHeld ?_
     case y14=>intro wq hSw;(have B:=BN.out.nx hSw;have c0:=B.cell 0 _ rfl;have c1:=B.cell 1 _ rfl;have c2:=B.cell 2 _ rfl;have c3:=B.cell 3 _ rfl;have c4:=B.cell 4 _ rfl;go_simp)<;>rfl
     refine tkL 4 (v:=?_) rfl (by kernel_rfl) (fun _ _ _ h=>h) (by rfl) ?y17 hHeld ?_
     case y17=>intro wq hSw;go_simp<;>rfl
     refine rL 5 (by kernel_rfl) rfl fun K hK=>?_
     go_simp
     (with_reducible refine (link_p _ _ _ N y _ _ _ _ _ _ (lev:Int) _ (SP.out.nx hHeld) hn hc hm HW.out (SN4.out.nx hHeld) hl4).mono ?_)
     rintro e wq ⟨rfl,kk⟩
     rw [HYY.out]
     replace hHeld:=hHeld.nx kk
     clear kk
     refine hK.out _ _ (hHeld) (fun hHeld=>?_)
     clear hK K
     refine rL 6 (by kernel_rfl) rfl fun K hK=>?_
     go_simp
     obtain ⟨g8,wq2,hg8,hwq2,SX,kk⟩:=litLk hHeld yy
     rw [← hg8,← hwq2]
     replace hHeld:=hHeld.nx kk
     clear hg8 hwq2 kk
     refine hK.out _ _ (hHeld) (fun hHeld=>?_)
     clear hK K
     refine rLL 7 (by kernel_rfl) rfl (by rfl) fun K hK=>?_
     rw [if_pos (by rfl)]
     have own4:=NROW.out.nx hHeld
     refine wp_append_rd (enc:=encS) _ (.tmp 35) (.tmp 40) 119 rfl w8.heap.size 128 (.agg #[.int .i64 0,.int .i64 0]) 2 16 Tryz.underlying119 Tryz.infoLk rfl (by omega) (by omega) _ row own4 rfl _ _ 1 1 [yy] SX (fun h=>by cases h) (fun _=>rfl) (by simp [encS,Value.oneCell']) rfl (by omega) (by omega) (Nat.le_trans zk hHeld.size) ?_
     intro v9 wz own9 ch0 ch1
     obtain ⟨A9,C9,e9,_⟩:=own9.rd (fun _=>rfl)
     rw [show (row++[yy]).length=lev+1 by rw [List.length_append,hrl];rfl] at e9
     subst e9
     have BZ:=(BPP.out.nx hHeld).low hgk ch1
     have KQ:Exb g10 w8 wz:=KVV.out.nxb' (hHeld.b g10) ch1
     refine hK.out _ _ ?_
     clear hK K
     refine rLL 8 (by kernel_rfl) rfl (by rfl) fun K hK=>?_
     go_simp
     refine hK.out _ _ ?_
     clear hK K
     refine rLL 9 (by kernel_rfl) rfl (by rfl) fun K hK=>?_
     have c4:=BZ.cell 1 _ rfl
     have f4:=BZ.free 1
     go_simp
     clear c4 f4
     refine hK.out _ _ ?_
     clear hK K
     refine wpAnyL_done (by kernel_rfl) ?_ _
     have BY:=BZ.set 1 (.slice A9 (lev+1) C9)
     have K9:Exb g10 w8 (wz.setCell ⟨g10,1,none⟩ (.slice A9 (lev+1) C9)):=KQ.setB (p:=⟨g10,1,none⟩) _ rfl
     have own8:=lH (own9.put BZ (by decide) ((Exb.refl g10 wz).setB (p:=⟨g10,1,none⟩) (.slice A9 (lev+1) C9) rfl))
     have RR:=lH (show LiRel N y k g10 w8 (.int .i64 ((lev:Int)+1)) (wz.setCell ⟨g10,1,none⟩ (.slice A9 (lev+1) C9)) from ⟨lev+1,A9,_,C9,by omega,by go_num,BY,by rw [NSN.out];exact own8.out,K9⟩)
     clear BY K9 own8 own9 BZ KQ ch0 ch1 hHeld own4 SX
     go_wp2_with fail
     exact ⟨RR.out,by simp [intOf];omega⟩
    ·obtain rfl:lev=k+1:=by omega
     have p0:=BR.cell 0 _ rfl
     have p1:=BR.cell 1 _ rfl
     obtain ⟨A,cc,e9,_⟩:=lrw.rd (fun _=>rfl)
     cases e9
     have OQ1:=OWN.out.nx KV.out
     have KW:Ex wi wp:=KV.out
     have hzi:w3.heap.size≤w8.heap.size:=by have:=K8.out.size;omega
     have hzp:w3.heap.size≤wp.heap.size:=Nat.le_trans hzi kv.size
     have hlk:¬ (((k+1:Nat):Int)<(k:Int)+1):=by omega
     have FR:∀ (j:Nat) (r:Int×Hdr) (g:Nat),qz[j]?=some r→r.2.val.ownBlock=some g→¬ (Value.slice A ((List.range (k+1)).map fun (lev:Nat)=>linkB N y lev).length cc).ownBlock=some g:=by
      intro j r g hr hg hv
      have h1:=OWN.out.lt hr hg
      have h2:=(lrw.lt g hv).1
      have h3:=K8.out.size
      omega
     generalize ((List.range (k+1)).map fun (lev:Nat)=>linkB N y lev)=row at lrw p1 FR ET
     have k8:=Ex.new wp (.cells #[.int .i64 y.id,.slice A row.length cc] 121)
     have SX:Sl 2 (encP encI) (wp.alloc (.cells #[.int .i64 y.id,.slice A row.length cc] 121)) (some ⟨wp.heap.size,0,none⟩) 1 [((y.id,(A,row.length,cc)):Int×Hdr)]:=Sl.lit _ rfl rfl (fun _=>rfl) rfl
     have OQ2:=OQ1.nx k8
     have own2:=lrw.nx k8
     have ki8:=(KI.out.nx KW).nx k8
     clear BR kv hlev hl2 lrw
     go_wp2_with (at_builtin;(refine wpList_append_W (enc:=encP encI) _ rfl _ _ 28 rfl w3.heap.size 121 (.agg #[.int .i64 0,.slice none 0 0]) 2 32 Tryz.underlying28 Tryz.infoLd rfl (by omega) (by omega) _ _ OQ2.1 rfl _ 1 1 [_] SX (fun _=>rfl) (by simp [encP,encI,Hdr.val,Value.oneCell']) rfl (by omega) (by omega) (by simp;omega) ?_);intro v7 w9 own7 ch0 ch1 _)
     have OQ7:=OQ2.push (by decide) own7 ch0 (own2.base (by omega)) FR
     exact ⟨⟨j+1,qz++[((y.id,(A,row.length,cc)):Int×Hdr)],by omega,by go_num,by rw [ET.out];exact OQ7,Chg.trans ki8 ch1⟩,by simp [intOf];omega⟩
  ·obtain rfl:j=Q.length:=by omega
   rw [List.take_length] at own
   have OWN:=lH (OwnN.base own hz3)
   have KI:=lH (K03.out.nx ki)
   clear own ki hj hjm
   go_wp2_with fail
   go_ret
   exact ⟨_,qz,rfl,by rw [HR.out];exact OWN.out,KI.out⟩
theorem OwnLk.nl' {base:Nat} {w:World} {v:Value} {qs:List (Int×Hdr)} {L:List Lkd} (h:OwnLk base w v qs L):∃ a cap,v=.slice a L.length cap∧LkL w a L.length L:=by
 obtain ⟨a,cap,e,r,_⟩:=OwnN.nl (encA:=encI) (s1:=2) (encB:=encS) (s2:=2) (fun _=>rfl) (fun _=>rfl) h
 exact ⟨a,cap,e,r⟩
theorem exactB_eq {N:List Nd} {P:List Pr} {h:Int} (he:(buildN N h).2=0):exactB N P h=decide (linksB N P h=(buildN N h).1):=by
 unfold exactB
 rw [he]
 rfl
theorem OwnLk.nlb {base b:Nat} {w:World} {v:Value} {qs:List (Int×Hdr)} {L:List Lkd} (h:OwnLk base w v qs L) (hb:b<base):∃ a cap,v=.slice a L.length cap∧∀ wq,Exb b w wq→LkL wq a L.length L:=by
 obtain ⟨a,cap,e,_⟩:=OwnLk.nl' h
 refine ⟨a,cap,e,fun wq kq=>?_⟩
 obtain ⟨a',cap',e',r⟩:=OwnLk.nl' (OwnN.nxb h hb kq)
 rw [e] at e'
 cases e'
 exact r
end Go.Proofs.YthcholmhmcpooaaGreatDoor
