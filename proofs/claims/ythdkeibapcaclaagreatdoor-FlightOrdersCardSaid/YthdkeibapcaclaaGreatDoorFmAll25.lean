/- Shared texts. -/
import Derived.Test.YthdkeibapcaclaaGreatDoorFmAll14
import Derived.Test.YthdkeibapcaclaaGreatDoorFmAll24
set_option linter.unusedSimpArgs false
set_option linter.unusedVariables false

namespace Go.Proofs.YthdkeibapcaclaaGreatDoor
open Go.RowKit Go.Maps
def AccM (β lo hi bm:Nat) (w6 wr:World) (f:Int→Value):Prop :=
 Chg (fun k=>k<hi∧k≠bm∧(k<β∨lo≤k)) w6 wr∧hi≤wr.heap.size∧∀ v g,(f v).ownBlock=some g→g<lo∨hi≤g
section
variable {β lo hi bm:Nat} {w6 wr w9:World} {f:Int→Value}
theorem AccM.sl {α:Type} {sz n:Nat} {enc:α→List Value} {a:Option Addr} {l:List α} {w5 w6 wr:World} (h:AccM β w5.heap.size w6.heap.size bm w6 wr f) (hb:bm<w5.heap.size) (s:Slf sz enc w5 w6 a n l):Sl sz enc wr a n l :=
 (Rd.chg s h.1 (fun _ hk=>⟨hk.2,by omega,.inr hk.1⟩)).mono fun _ hk=>Nat.lt_of_lt_of_le hk.2 h.2.1
theorem AccM.blk {g:Nat} {cs:List Value} {ty:TypeId} (h:AccM β lo w6.heap.size bm w6 wr f) (B:Blk w6 g cs ty) (hg:lo≤g) (hb:bm≠g):Blk wr g cs ty :=
 (Chg.block h.1 g ⟨B.lt,fun h=>hb h.symm,.inr hg⟩).trans B
theorem AccM.exb {w2:World} (h:AccM β lo w6.heap.size bm w6 wr f) (k:Exb bm w2 w6) (hβ:w2.heap.size≤β):Exb bm w2 wr :=
 Chg.trans k (Chg.mono h.1 fun x hx=>⟨Nat.lt_of_lt_of_le hx.1 k.size,hx.2,.inl (Nat.lt_of_lt_of_le hx.1 hβ)⟩)
end
theorem own_hist {va v:Value} {c s:Nat} (h:va.ownBlock=v.ownBlock∨va.ownBlock=some c) (hs:s≤c):∀ g,va.ownBlock=some g→v.ownBlock=some g∨s≤g:=fun g hg=>by
 rcases h with h | h
 ·exact .inl (by rw [← h];exact hg)
 ·rw [h] at hg;cases hg;exact .inr hs
theorem hold_ex {bm g7:Nat} {wp cur w':World} (h:Chg (fun k=>k=bm∨k=g7) wp cur) (hb:bm<wp.heap.size) (hg:g7<wp.heap.size) (k:Ex cur w'):Chg (fun k=>k=bm∨k=g7) wp w' :=
 Chg.trans h (Chg.mono k fun x hx=>by have:=h.size;show x<cur.heap.size;omega)
theorem hold_row {bm g7:Nat} {wp cur w':World} {v:Value} (h:Chg (fun k=>k=bm∨k=g7) wp cur) (hb:bm<wp.heap.size) (hg:g7<wp.heap.size) (n:¬ v.ownBlock=some bm∧¬ v.ownBlock=some g7) (k:Chg (fun k=>k<cur.heap.size∧¬ v.ownBlock=some k) cur w'):Chg (fun k=>k=bm∨k=g7) wp w' :=
 Chg.trans h (Chg.mono k fun x hx=>by
  have:=h.size
  rcases hx with rfl | rfl
  ·exact ⟨by omega,n.1⟩
  ·exact ⟨by omega,n.2⟩)
theorem AccM.two {β lo hi bm:Nat} {w6 wp w1 w2 w3:World} {f:Int→Value} {x y:Int} {va vc:Value} (h:AccM β lo hi bm w6 wp f) (hb:∀ v g,(f v).ownBlock=some g→β≤g)
  (k1:Chg (fun k=>k<wp.heap.size∧¬ (f x).ownBlock=some k) wp w1) (la:∀ g,va.ownBlock=some g→(f x).ownBlock=some g∨wp.heap.size≤g)
  (k2:Chg (fun k=>k<w1.heap.size∧¬ (f y).ownBlock=some k) w1 w2) (lc:∀ g,vc.ownBlock=some g→(f y).ownBlock=some g∨w1.heap.size≤g) (k3:Exb bm w2 w3):AccM β lo hi bm w6 w3 (upd (upd f x va) y vc):=by
 have s1:=k1.size
 have s2:=k2.size
 have s3:=k3.size
 have hs:=h.2.1
 have key:∀ v k,k<hi∧k≠bm∧(k<β∨lo≤k)→¬ (f v).ownBlock=some k:=fun v k hk hv=>by
  have h1:=hb v k hv
  have h2:=h.2.2 v k hv
  omega
 refine ⟨h.1.trans ((k1.mono fun k hk=>⟨by omega,key x k hk⟩).trans ((k2.mono fun k hk=>⟨by omega,key y k hk⟩).trans (Chg.mono k3 fun k hk=>⟨by omega,hk.2.1⟩))),by omega,fun v g hv=>?_⟩
 unfold upd at hv
 by_cases h1:v=y
 ·rw [if_pos h1] at hv
  rcases lc g hv with h2 | h2
  ·exact h.2.2 y g h2
  ·omega
 ·rw [if_neg h1] at hv
  by_cases h3:v=x
  ·rw [if_pos h3] at hv
   rcases la g hv with h2 | h2
   ·exact h.2.2 x g h2
   ·omega
  ·rw [if_neg h3] at hv
   exact h.2.2 v g hv
def prsU (N:List Nd) (P:List Pr) (j:Nat):List (Int×Int):=(N.take j).flatMap fun x=>(refsN N (peerN P x.id)).map fun v=>(x.id,v)
theorem prsU_snoc {N:List Nd} {P:List Pr} {j:Nat} {x:Nd} (hx:N[j]?=some x):prsU N P (j+1)=prsU N P j++(refsN N (peerN P x.id)).map fun v=>(x.id,v):=by
 unfold prsU
 rw [take_snocN N j x hx,List.flatMap_append]
 simp
theorem prsU_all (N:List Nd) (P:List Pr):prsU N P N.length=pairsN N P:=by
 unfold prsU pairsN
 rw [List.take_of_length_le (Nat.le_refl _)]
theorem prsU_len {N:List Nd} (h0:checkN N=0) (P:List Pr) (j:Nat):(prsU N P j).length≤64*64:=by
 have h1:=pairs_len (P:=P) h0 (N.take j)
 have h2:=check_len h0
 have h3:(N.take j).length≤64:=by rw [List.length_take];omega
 unfold prsU
 exact Nat.le_trans h1 (Nat.mul_le_mul h3 h2)
theorem refs_empty {N:List Nd} (h0:checkN N=0) (id:Int):refsN N ⟨id,0,0,[],[]⟩=[]:=by
 unfold refsN
 rw [if_pos h0]
 unfold ordN
 rw [List.map_eq_nil_iff,List.filter_eq_nil_iff]
 intro x hx
 have:=(roster_ok h0 x ((sortN_mem N x).1 hx)).2.1
 simp only [numsP,Bool.and_eq_true,List.contains_iff_mem,List.flatMap_nil,List.append_nil,List.nil_append,List.mem_cons,List.not_mem_nil,or_false]
 omega
abbrev GpM (base:Nat) (w:World) (b n:Nat) (f:Int→Value) (J:Int→List Int):Prop:=GrpM Tryz.prog 3 3 base w b n f J
def CnRel (N:List Nd) (P:List Pr) (bm:Nat) (w:World) (i:Value) (wr:World):Prop :=
 ∃ (j n:Nat) (f:Int→Value),j≤N.length∧i=.int .i64 j∧GpM w.heap.size wr bm n f (jOf (prsU N P j))∧n=2*(prsU N P j).length∧Exb bm w wr
def CmRel (x:Int) (l:List Int) (E:List (Int×Int)) (bm lo:Nat) (w w6:World) (i:Value) (wr:World):Prop :=
 ∃ (j n:Nat) (f:Int→Value),j≤l.length∧i=.int .i64 j∧GpM w.heap.size wr bm n f (jOf (E++(l.take j).map fun v=>(x,v)))∧n=2*(E.length+j)∧AccM w.heap.size lo w6.heap.size bm w6 wr f
theorem Tryz.zeroS (w:World):(zeroValue 22).run Tryz.prog w=.ok nilS w:=by kernel_rfl
theorem litF {wp u:World} (hz:wp.heap.size≤u.heap.size) (x:Int):∃ g v,g=u.heap.size∧v=u.alloc (.cells #[.int .i64 x] 3)∧Slf 1 encI wp v (some ⟨g,0,none⟩) 1 [x]∧Ex u v :=
 ⟨_,_,rfl,rfl,Slf.lit [x] rfl hz rfl (fun _=>rfl) rfl,Ex.new _ _⟩
theorem Slf.row2 {α:Type} {sz n:Nat} {enc:α→List Value} {w0 w w':World} {a:Option Addr} {l:List α} {v:Value} (s:Slf sz enc w0 w a n l) (h:∀ g,v.ownBlock=some g→g<w0.heap.size) (k:Chg (fun k=>k<w.heap.size∧¬ v.ownBlock=some k) w w'):Slf sz enc w0 w' a n l :=
 (Rd.chg s k fun _ hk=>⟨hk.2,fun hv=>by have:=h _ hv;have:=hk.1;omega⟩).mono fun _ hk=>⟨hk.1,Nat.lt_of_lt_of_le hk.2 k.size⟩
theorem Slf.row {α β:Type} {sz n sz' e base:Nat} {enc:α→List Value} {enc':β→List Value} {w0 w w':World} {a:Option Addr} {l:List α} {v:Value} {l':List β} (s:Slf sz enc w0 w a n l) (h:OwnL sz' enc' e base w0 v l') (k:Chg (fun k=>k<w.heap.size∧¬ v.ownBlock=some k) w w'):Slf sz enc w0 w' a n l :=
 (Rd.chg s k fun _ hk=>⟨hk.2,fun hv=>by have:=(h.lt _ hv).2;have:=hk.1;omega⟩).mono fun _ hk=>⟨hk.1,Nat.lt_of_lt_of_le hk.2 k.size⟩
theorem sumJ_le {J:Int→List Int} (hJ:∀ u,(J u).length≤10000) (L:List Nd):(L.map fun x=>(J x.id).length).sum≤L.length*10000:=by
 induction L with
 | nil=>simp
 | cons x L ih =>
  have:=hJ x.id
  rw [List.map_cons,List.sum_cons,List.length_cons]
  omega
theorem todo_le {N:List Nd} {J:Int→List Int} (hN:N.length≤64) (hJ:∀ u,(J u).length≤10000) (M T:List Int):todoN N J M T≤T.length+640000:=by
 have h1:=sumJ_le hJ (N.filter fun x=>!(M.contains x.id))
 have h2:=List.length_filter_le (fun x:Nd=>!(M.contains x.id)) N
 unfold todoN
 omega
theorem todo_len (N:List Nd) (J:Int→List Int) (M T:List Int):T.length≤todoN N J M T:=by unfold todoN;omega
theorem todo_old (N:List Nd) (J:Int→List Int) (M T:List Int) (v:Int):todoN N J M T+1=todoN N J M (v::T):=by unfold todoN;rw [List.length_cons];omega
theorem QuL.no {e:TypeId} {base:Nat} {w:World} {v:Value} (h:QuL e base w v []):∃ a c,v=.slice a 0 c:=by
 rcases h with ⟨rfl,_⟩ | ⟨g,o,cap,cur,rfl,_⟩
 ·exact ⟨none,0,rfl⟩
 ·exact ⟨_,cap,rfl⟩
theorem QuL.base {e:TypeId} {base base':Nat} {w:World} {v:Value} {l:List Int} (h:QuL e base w v l) (hb:base'≤base):QuL e base' w v l:=by
 rcases h with h | ⟨g,o,cap,cur,h1,h2,h3⟩
 ·exact .inl h
 ·exact .inr ⟨g,o,cap,cur,h1,Nat.le_trans hb h2,h3⟩
theorem OwnL.rdz {α:Type} {sz e base:Nat} {enc:α→List Value} {w:World} {v:Value} {l:List α} (h:OwnL sz enc e base w v l) (hsz:∀ y,(enc y).length=sz) :
  ∃ a cap,v=.slice a l.length cap∧Rd sz enc (fun k=>base≤k∧k<w.heap.size) w a l.length l∧(a=none→cap=0):=by
 obtain ⟨a,cap,e1,r,_⟩:=h.rd hsz
 refine ⟨a,cap,e1,r,fun h0=>?_⟩
 subst h0
 rcases h.2 with ⟨e2,hn⟩ | ⟨g,cap',cur,e2,_⟩
 ·rw [e1] at e2
  injection e2
 ·rw [e1] at e2
  simp at e2
theorem wpList_append_hap {P:Program} {ops:Array Oper} {rest:List Oper} {o:Oper} {a:Act} {Q:Exit→Act→World→Prop} {w:World} (hgd:o.guard=none) (s x:Operand) (t:TypeId)
  (ho:o.op=.call { callee:=.builtin .append,args:=#[s,x],argTypes:=#[t,t] }) {v v':Value} {A:Option Addr} {n c:Nat} {w':World} (hap:(Builtin.append_ #[t,t] o.type #[v,.slice A n c]).run P w=.ok v' w')
  (hs:a.eval s=v) (hx:a.eval x=.slice A n c) (h:wpList P ops Q rest (a.put o.dst v') w'):wpList P ops Q (o::rest) a w :=
 wpList_plain hgd fun K hK=>by
  unfold Oper.wp execOp
  simp only [ho,resolve,invoke,builtin,Sem.run_bind,Sem.run_pure,Result.andThen_ok,List.map_toArray,List.map_cons,List.map_nil,hs,hx,hap]
  exact hK _ _ h
abbrev SetB (w:World) (b:Nat) (S:List Int):Prop:=SetM Tryz.prog 3 4 w b S
def startN (N:List Nd):List Int:=match N with | []=>[] | s::_=>[s.id]
theorem startN_at {N:List Nd} {x:Nd} (h:N[0]?=some x):startN N=[x.id]:=by
 cases N with
 | nil=>cases h
 | cons y N=>simp at h;rw [h];rfl
theorem startN_bfs (N:List Nd) (P:List Pr) (J:Int→List Int):Bfs N P J [] (startN N):=bfs_start
theorem startN_len (N:List Nd):(startN N).length≤1:=by
 cases N with
 | nil=>exact Nat.zero_le _
 | cons y N=>exact Nat.le_refl _
def CqRel (N:List Nd) (bs:Nat) (w6:World) (o:Value) (wr:World):Prop :=
 QuL 3 (bs+1) wr o (startN N)∧Ex w6 wr
def CbRel (N:List Nd) (P:List Pr) (J:Int→List Int) (bs:Nat) (wi:World) (k:Nat) (o:Value) (wr:World):Prop :=
 ∃ M T,Bfs N P J M T∧SetB wr bs M∧QuL 3 (bs+1) wr o T∧Ex wi wr∧k=todoN N J M T∧k≤700000
set_option maxRecDepth 100000 in
set_option maxHeartbeats 16000000 in
theorem connected_p (a:Option Addr) (n c:Nat) (N:List Nd) (a2:Option Addr) (n2 c2:Nat) (P:List Pr) (w:World) (h:Sl 3 encN w a n N) (hn:n≤1000) (hc:n≤c) (hm:c≤maxLen) (h2:PL w a2 n2 P) (hn2:n2≤4000000000000000000) (hP:∀ p∈P,p.known.length≤4000000000000000000∧p.near.length≤4000000000000000000) :
  Calls Tryz.prog 35 #[.slice a n c,.slice a2 n2 c2] w fun e w'=>e=.returned (.bool (connB N P))∧Ex w w':=by
 have HL:=lH h.len
 have HP:=lH hP
 have H2:=lH h2
 have EX:=Ex.refl w
 clear hP h2
 go_enter Tryz.func35,Tryz.ntmps35
 go_wp2_with fail
 (with_reducible refine (check_p _ _ _ _ _ h (by omega) hc hm).mono ?_)
 rintro e w1 ⟨rfl,kk⟩
 replace h:=h.nx kk
 replace EX:=EX.nx kk
 clear kk
 by_cases hck:checkN N=0
 case neg =>
  have d1:(checkN N != 0)=true:=by simpa using hck
  have E0:Hid (connB N P=false):=lH (by unfold connB;rw [show (checkN N==0)=false by simpa using hck];rfl)
  clear h hck
  go_wp2_with fail
  go_ret
  exact ⟨by rw [E0.out];rfl,EX⟩
 have d1:(checkN N != 0)=false:=by simpa using hck
 have HC:=lH hck
 have hn64:n≤64:=by have:=check_len hck;have:=HL.out;omega
 have HI:Hid (∀ x∈N,I64 x.id):=lH (fun x hx=>(roster_ok HC.out x hx).1.1)
 clear hck
 have G4:=GrpM.made w1 Tryz.prog 3 3
 have kk:=Ex.new w1 (.map #[] 0)
 obtain ⟨w4,hw4⟩:∃ w4,w4=w1.alloc (.map #[] 0):=⟨_,rfl⟩
 obtain ⟨bm,hbm⟩:∃ bm,bm=w1.heap.size:=⟨_,rfl⟩
 have hsz4:w4.heap.size=bm+1:=by rw [hw4,hbm];simp
 replace G4:GpM w4.heap.size w4 bm 0 (fun _=>nilS) (fun _=>[]):=by rw [hsz4,hw4,hbm];exact G4
 rw [← hw4] at kk
 have Hw4:=lH hw4
 have Hbm:=lH hbm
 have hwb:w.heap.size≤bm:=by have:=EX.size;omega
 have HS:=lH (h.slb (show w1.heap.size≤bm by omega))
 replace HS:=lH (HS.out.nxb (kk.b bm))
 have EX1:=lH (EX.nx kk)
 have HPL:=lH ((H2.out.plb hwb).nxb (EX1.out.b bm))
 clear kk hw4 hbm h
 have hmm:=@run_makeMap Tryz.prog
 go_upto_region 4 with fail
 rw [← Hbm.out,← Hw4.out]
 clear Hbm Hw4
 clear hmm
 have hbm4:bm<w4.heap.size:=by omega
 replace hsz4:=lH hsz4
 clear EX
 go_wp2_with fail
 go_loopw [20] (fun i wr=>CnRel N P bm w4 i wr) (fun i _=>n-(intOf i).toNat)
 case atStart=>exact ⟨0,0,fun _=>nilS,by omega,rfl,G4,rfl,Exb.refl _ _⟩
 case round =>
  clear G4
  obtain ⟨j,nn,f,hj,rfl,GP,hnn,kw⟩:=hrel
  obtain ⟨wi,rfl⟩:∃ wi:World,wi=wr:=⟨_,rfl⟩
  have hjn:j≤n:=by have:=HL.out;omega
  have HNN:=lH hnn
  clear hnn hj
  by_cases hjm:j<n
  ·obtain ⟨x3,o3,x,rfl,hx3,hy,hc3⟩:=(HS.out.nxb kw).sl.at hjm
   have e0:wi.cell? ⟨x3,o3+j*3,none⟩=some (.int .i64 x.id):=hc3 0 _ rfl
   have e1:wi.cell? ⟨x3,o3+j*3+1,none⟩=some (.string x.key):=hc3 1 _ rfl
   have e2:wi.cell? ⟨x3,o3+j*3+1+1,none⟩=some (.int .u32 x.word):=by simpa [Nat.add_assoc] using hc3 2 _ rfl
   have SN:=lH (prsU_snoc (P:=P) hy)
   have hxI:=lH (HI.out x (List.mem_of_getElem? hy))
   have KW:=lH kw
   have GW:=lH GP
   have hbi:bm<wi.heap.size:=Nat.lt_of_lt_of_le hbm4 kw.size
   have PE:=prsU_len HC.out P j
   clear hc3 hy kw GP
   have B7:=Blk.new wi [.int .i64 x.id,.string x.key,.int .u32 x.word] 60
   have kk:=Ex.new wi (.cells #[.int .i64 x.id,.string x.key,.int .u32 x.word] 60)
   obtain ⟨w7,hw7⟩:∃ w7,w7=wi.alloc (.cells #[.int .i64 x.id,.string x.key,.int .u32 x.word] 60):=⟨_,rfl⟩
   obtain ⟨g7,hg7⟩:∃ g7,g7=wi.heap.size:=⟨_,rfl⟩
   replace B7:Blk w7 g7 [.int .i64 x.id,.string x.key,.int .u32 x.word] 60:=by rw [hw7,hg7];exact B7
   rw [← hw7] at kk
   have Hw7:=lH hw7
   have Hg7:=lH hg7
   have zg7:wi.heap.size≤g7:=by omega
   have n7b:bm≠g7:=by omega
   have K7:=lH kk
   clear kk hw7 hg7
   go_upto_region 7 with fail
   rw [← Hg7.out,← Hw7.out]
   clear Hg7 Hw7
   have eg:∀ args w,(callFunc 79 args).run Tryz.prog w=.ok (.enter 79 args) w:=enters_of Tryz.func79 (by kernel_rfl) rfl
   have EG:=lH eg
   have HB:=lH B7
   clear eg B7 e0 e1 e2
   have PLW:=lH (((HPL.out.nxb KW.out).nxb (K7.out.b bm)).pl)
   go_wp2_with fail
   (with_reducible refine (idxf_pr 79 #[.pointer (some ⟨g7,0,none⟩)] x.id EG.out _ _ _ P w7 PLW.out hn2 (conn1_p g7 x w7 HB.out)).mono ?_)
   rintro e w8 ⟨rfl,k8⟩
   replace K7:=lH (K7.out.nx k8)
   replace PLW:=lH (PLW.out.nx k8)
   replace HB:=lH (HB.out.nx k8)
   clear k8
   rcases idxQ_cases P x.id with ⟨k,y,hi,hk,hyk,hpe,hyid⟩ | ⟨hi,hpe⟩
   case inr =>
    rw [hi]
    have RR:=lH (show CnRel N P bm w4 (.int .i64 ((j:Int)+1)) w8 from ⟨j+1,nn,f,by have:=HL.out;omega,by go_num,by rw [SN.out,hpe,refs_empty HC.out];simpa using GW.out.nx K7.out,by rw [SN.out,hpe,refs_empty HC.out];simpa using HNN.out,KW.out.nxb (K7.out.b bm)⟩)
    clear hi hpe
    go_wp2_with fail
    exact ⟨RR.out,by simp [intOf];omega⟩
   replace hyid:=lH hyid
   rw [hi]
   have hk2:k<n2:=by have:=PLW.out.len;omega
   obtain ⟨xp,op,b1,m1,d1',b4,m4,d4,y',rfl,hxp,hyk',p0,p1,p2,p3,p4,s1,s4⟩:=PLW.out.rd hk2
   obtain rfl:y=y':=Option.some.inj (hyk.symm.trans hyk')
   have hyP:=HP.out y (List.mem_of_getElem? hyk)
   have hl1:m1≤4000000000000000000:=by have:=s1.len;omega
   have hl4:m4≤4000000000000000000:=by have:=s4.len;omega
   have hk0:¬ (k:Int)<0:=by omega
   have hkn:(k:Int)<(n2:Int):=by omega
   have hpe:=lH hpe
   have S1:=lH s1
   have S4:=lH s4
   clear hi hyk hyk' s1 s4 hyP hk
   go_wp2_with fail
   (with_reducible refine (refs_p _ _ _ N y _ _ _ _ _ _ _ ((HS.out.nxb KW.out).nxb (K7.out.b bm)).sl hn hc hm S1.out S4.out hl1 hl4).mono ?_)
   rintro e w9 ⟨v9,rfl,o9,kk⟩
   obtain ⟨A9,C9,rfl,r9,_,_,_⟩:=o9.slf (fun _=>rfl)
   replace r9:=lH (r9.old K7.out.size)
   have hlr:=refs_len HC.out y
   have HRI:Hid (∀ v∈refsN N y,I64 v∧v≠x.id):=lH (fun v hv=>by
    obtain ⟨⟨z,hz,rfl⟩,h2,_⟩:=(mem_refs HC.out).1 hv
    exact ⟨HI.out z hz,by rw [hyid.out] at h2;exact h2⟩)
   have hL9:=r9.out.len
   have SN:Hid (prsU N P (j+1)=prsU N P j++(refsN N y).map fun v=>(x.id,v)):=lH (by rw [SN.out,hpe.out])
   replace HB:=lH (HB.out.nx kk)
   have K9:=lH (K7.out.nx kk)
   have A0:Hid (AccM w4.heap.size wi.heap.size w9.heap.size bm w9 w9 f):=lH ⟨Chg.refl _ _,Nat.le_refl _,fun v g hg=>.inl ((GW.out.row v).lt g hg).2⟩
   have G9:=lH (GW.out.nx K9.out)
   generalize refsN N y=L at r9 hlr HRI hL9 SN ⊢
   have hLl:L.length≤64:=by have:=HL.out;omega
   have hz9:=K9.out.size
   clear o9 kk p0 p1 p2 p3 p4 hyid hlr
   go_wp2_with fail
   go_loopw [36] (fun i wr=>CmRel x.id L (prsU N P j) bm wi.heap.size w4 w9 i wr) (fun i _=>L.length-(intOf i).toNat)
   case atStart=>exact ⟨0,nn,f,by omega,rfl,by simpa using G9.out,by simpa using HNN.out,A0.out⟩
   case round =>
    clear A0 G9 GW
    obtain ⟨i,m,f2,hi,rfl,GP,hm2,ac⟩:=hrel
    obtain ⟨wp,rfl⟩:∃ wp:World,wp=wr:=⟨_,rfl⟩
    by_cases hil:i<L.length
    ·obtain ⟨xr,or,id,rfl,hxr,hid,hcr⟩:=(ac.sl hbi r9.out).at (j:=i) hil
     have f0:wp.cell? ⟨xr,or+i,none⟩=some (.int .i64 id):=by simpa using hcr 0 _ rfl
     have LS:Hid ((L.take (i+1)).map (fun v=>(x.id,v))=(L.take i).map (fun v=>(x.id,v))++[(x.id,id)]):=lH (by rw [take_snocN L i id hid,List.map_append];rfl)
     obtain ⟨hidI,hne⟩:=HRI.out id (List.mem_of_getElem? hid)
     have BP:=lH (ac.blk HB.out (by omega) n7b)
     have GPH:=lH GP
     have AC:=lH ac
     have M2:=lH hm2
     have hm100:m<1000000:=by omega
     have zbp:bm<wp.heap.size:=GP.1.lt
     have zgp:g7<wp.heap.size:=BP.out.lt
     have NB:Hid (∀ v,¬ (f2 v).ownBlock=some bm∧¬ (f2 v).ownBlock=some g7):=lH (fun v=>⟨fun hv=>by have:=((GPH.out.row v).lt bm hv).1;omega,fun hv=>OwnL.ne_blk (GPH.out.row v) BP.out (by decide) hv rfl⟩)
     have JX:=lH (show ∀ u,(jOf (prsU N P j++(L.take i).map fun v=>(x.id,v)) u).length≤100000 from fun u=>by
      have hne:∀ q∈prsU N P j++(L.take i).map (fun v=>(x.id,v)),q.1≠q.2:=fun q hq=>by
       rcases List.mem_append.1 hq with h1 | h1
       ·refine pairs_ne HC.out (P:=P) (q:=q) ?_
        unfold prsU at h1
        unfold pairsN
        obtain ⟨z,hz,h2⟩:=List.mem_flatMap.1 h1
        exact List.mem_flatMap.2 ⟨z,List.mem_of_mem_take hz,h2⟩
       ·obtain ⟨v,hv,rfl⟩:=List.mem_map.1 h1
        exact fun h=>(HRI.out v (List.mem_of_mem_take hv)).2 h.symm
      have h1:=((jOf_law _ _ rfl hne) u).1
      rw [List.length_append,List.length_map,List.length_take] at h1
      omega)
     generalize hJ:jOf (prsU N P j++(L.take i).map fun v=>(x.id,v))=J at GP GPH JX
     have HJ:=lH hJ
     have wx1:=lH (wf_of hxI.out)
     have wx2:=lH (wf_of hidI)
     have hne2:id≠x.id:=hne
     have jlx:=JX.out x.id
     have jly:=JX.out id
     clear hcr hid ac hm2 hJ GP JX
     go_upto_region 12 with fail
     refine wp_region_late_drew (S:=Chg (fun k=>k=bm∨k=g7) wp) [19,21,22] (by kernel_rfl) ((Chg.refl _ wp).drew) (fun hHeld=>?_)
     obtain ⟨wd,hwdx⟩:∃ wd:World,wd=World.drew wp:=⟨_,rfl⟩
     rw [← hwdx] at hHeld ⊢
     have hDrew:Ex wp wd:=by rw [hwdx];exact (Ex.refl wp).drew
     clear hwdx
     refine tkL 0 (v:=?_) rfl (by kernel_rfl) (fun _ _ _ h=>h) (by rfl) ?y1x0q5 (by assumption) ?z1x0q5
     case y1x0q5=>intro wq hSw;(go_simp);(try with_reducible rfl)
     refine tkL 1 (v:=?_) rfl (by kernel_rfl) (fun _ _ _ h=>h) (by rfl) ?y1x1q8 (by assumption) ?z1x1q8
     case y1x1q8=>intro wq hSw;(go_simp);(try with_reducible rfl)
     refine tkL 2 (v:=?_) rfl (by kernel_rfl) (fun _ _ _ h=>h) (by rfl) ?y1x2q11 (by assumption) ?z1x2q11
     case y1x2q11=>intro wq hSw;(have cq:=((show Blk wq g7 _ _ from (hSw.block g7 (.inr rfl)).trans BP.out).cell 0 _ rfl);go_simp);(try with_reducible rfl)
     refine wpAnyL_takeP (i:=3) (oi:=⟨_,_,_,_,_,_⟩) (v:=?_) rfl (by kernel_rfl) (by kernel_rfl) (by kernel_rfl) (fun _ _ _ h=>h) (Or.inl ⟨by rfl,?y1x3q14⟩) ?z1x3q14
     case y1x3q14=>intro wq hSw;(go_simp);(try with_reducible rfl)
     refine wpAnyL_takeP (i:=4) (oi:=⟨_,_,_,_,_,_⟩) (v:=?_) rfl (by kernel_rfl) (by kernel_rfl) (by kernel_rfl) (fun _ _ _ h=>h) (Or.inl ⟨by rfl,?y1x4q17⟩) ?z1x4q17
     case y1x4q17=>intro wq hSw;(go_simp);(try with_reducible rfl)
     refine tkL 5 (v:=?_) rfl (by kernel_rfl) (fun _ _ _ h=>h) (by rfl) ?y1x5q20 (by assumption) ?z1x5q20
     case y1x5q20=>intro wq hSw;(go_simp);(try with_reducible rfl)
     refine tkL 6 (v:=?_) rfl (by kernel_rfl) (fun _ _ _ h=>h) (by rfl) ?y1x6q23 (by assumption) ?z1x6q23
     case y1x6q23=>intro wq hSw;(go_simp);(try with_reducible rfl)
     refine tkL 7 (v:=?_) rfl (by kernel_rfl) (fun _ _ _ h=>h) (by rfl) ?y1x7q26 (by assumption) ?z1x7q26
     case y1x7q26=>intro wq hSw;(have cq:=((show Blk wq g7 _ _ from (hSw.block g7 (.inr rfl)).trans BP.out).cell 0 _ rfl);go_simp);(try with_reducible rfl)
     refine tkL 8 (v:=?_) rfl (by kernel_rfl) (fun _ _ _ h=>h) (by rfl) ?y1x8q29 (by assumption) ?z1x8q29
     case y1x8q29=>intro wq hSw;(have lk:=(RawM.same GPH.out.1 (hSw.block bm (.inl rfl))).get (t:=97) Tryz.underlying3 Tryz.underlying97 (Tryz.zeroS _) wx1.out;go_simp);(try with_reducible rfl)
     refine tkL 9 (v:=?_) rfl (by kernel_rfl) (fun _ _ _ h=>h) (by rfl) ?y1x9q32 (by assumption) ?z1x9q32
     case y1x9q32=>intro wq hSw;(go_simp);(try with_reducible rfl)
     refine tkL 12 (v:=?_) rfl (by kernel_rfl) (fun _ _ _ h=>h) (by rfl) ?y1x12q35 (by assumption) ?z1x12q35
     case y1x12q35=>intro wq hSw;(go_simp);(try with_reducible rfl)
     refine tkL 13 (v:=?_) rfl (by kernel_rfl) (fun _ _ _ h=>h) (by rfl) ?y1x13q38 (by assumption) ?z1x13q38
     case y1x13q38=>intro wq hSw;(go_simp);(try with_reducible rfl)
     refine tkL 14 (v:=?_) rfl (by kernel_rfl) (fun _ _ _ h=>h) (by rfl) ?y1x14q41 (by assumption) ?z1x14q41
     case y1x14q41=>intro wq hSw;(have lk:=(RawM.same GPH.out.1 (hSw.block bm (.inl rfl))).get (t:=97) Tryz.underlying3 Tryz.underlying97 (Tryz.zeroS _) wx2.out;go_simp);(try with_reducible rfl)
     refine tkL 15 (v:=?_) rfl (by kernel_rfl) (fun _ _ _ h=>h) (by rfl) ?y1x15q44 (by assumption) ?z1x15q44
     case y1x15q44=>intro wq hSw;(go_simp);(try with_reducible rfl)
     refine tkL 16 (v:=?_) rfl (by kernel_rfl) (fun _ _ _ h=>h) (by rfl) ?y1x16q47 (by assumption) ?z1x16q47
     case y1x16q47=>intro wq hSw;(have cq:=((show Blk wq g7 _ _ from (hSw.block g7 (.inr rfl)).trans BP.out).cell 0 _ rfl);go_simp);(try with_reducible rfl)
     refine wpAnyL_ready (rs:=[10,17]) (by kernel_rfl) (by simp) ?_
     refine AllReadyL.cons (o:=⟨_,_,_,_,_,_⟩) rfl (fun K hK=>?_) ?_
     ·go_simp
      obtain ⟨g8,wq,hg8,hwq,SX,kk⟩:=litF hHeld.size id
      rw [← hg8,← hwq]
      clear hg8 hwq
      (try replace SY:=SY.nx kk)
      replace hDrew:=hDrew.nx kk
      replace hHeld:=hold_ex hHeld zbp zgp kk
      clear kk
      refine hK.out _ _ (hHeld) (fun hHeld=>?_)
      clear hK K
      refine wpAnyL_ready (rs:=[11,17]) (by kernel_rfl) (by simp) ?_
      refine AllReadyL.cons (o:=⟨_,_,_,_,_,_⟩) rfl (fun K hK=>?_) ?_
      ·rw [if_pos (by rfl)]
       have rx:=(GPH.out.row x.id).nx hDrew
       have zbase:=Nat.le_trans GPH.out.2.2.1 hDrew.size
       refine wp_append_rda (enc:=encI) _ (.tmp 48) (.tmp 50) 22 rfl w4.heap.size 3 (.int .i64 0) 1 8 Tryz.underlying22 Tryz.infoI6 rfl (by omega) (by omega) _ (J x.id) rx rfl _ _ 1 1 [id] SX (fun h=>by cases h) (fun _=>rfl) (by simp [encI,Value.oneCell']) rfl (by omega) (by omega) zbase ?_
       intro va w1 A ch0 ch1 hva
       have KA:Chg (fun k=>k<wp.heap.size∧¬ (f2 x.id).ownBlock=some k) wp w1:=Chg.trans (Chg.mono hDrew (fun k hk=>hk.1)) (Chg.mono ch0 (fun k hk=>⟨Nat.lt_of_lt_of_le hk.1 hDrew.size,hk.2⟩))
       have la:=own_hist hva hDrew.size
       (try replace SY:=SY.row2 (fun g hg=>((GPH.out.row x.id).lt g hg).2) ch0)
       have KE:=Ex.refl w1
       replace hHeld:=hold_row hHeld zbp zgp (NB.out x.id) ch0
       have zb1:=Nat.le_trans zbase ch0.size
       clear ch0 ch1 hva rx hDrew SX
       refine hK.out _ _ (hHeld) (fun hHeld=>?_)
       clear hK K
       refine wpAnyL_ready (rs:=[17]) (by kernel_rfl) (by simp) ?_
       refine AllReadyL.cons (o:=⟨_,_,_,_,_,_⟩) rfl (fun K hK=>?_) AllReadyL.nil
       go_simp
       obtain ⟨g9,wq,hg9,hwq,SY,kk⟩:=litF hHeld.size x.id
       rw [← hg9,← hwq]
       clear hg9 hwq
       (try replace SX:=SX.nx kk)
       (first | replace hDrew:=hDrew.nx kk | replace KE:=KE.nx kk)
       replace hHeld:=hold_ex hHeld zbp zgp kk
       clear kk
       refine hK.out _ _ (hHeld) (fun hHeld=>?_)
       clear hK K
       refine wpAnyL_ready (rs:=[18]) (by kernel_rfl) (by simp) ?_
       refine AllReadyL.cons (o:=⟨_,_,_,_,_,_⟩) rfl (fun K hK=>?_) AllReadyL.nil
       rw [if_pos (by rfl)]
       have ry:=((GPH.out.row id).chg KA (fun g hg hv=>⟨hg,fun hx=>GPH.out.2.2.2.2 id x.id g hne2 hv hx⟩)).nx KE
       have zb2:=Nat.le_trans zb1 KE.size
       refine wp_append_rda (enc:=encI) _ (.tmp 54) (.tmp 57) 22 rfl w4.heap.size 3 (.int .i64 0) 1 8 Tryz.underlying22 Tryz.infoI6 rfl (by omega) (by omega) _ (J id) ry rfl _ _ 1 1 [x.id] SY (fun h=>by cases h) (fun _=>rfl) (by simp [encI,Value.oneCell']) rfl (by omega) (by omega) zb2 ?_
       intro vc w2 C ch0 ch1 hvc
       have KC:Chg (fun k=>k<w1.heap.size∧¬ (f2 id).ownBlock=some k) w1 w2:=Chg.trans (Chg.mono KE (fun k hk=>hk.1)) (Chg.mono ch0 (fun k hk=>⟨Nat.lt_of_lt_of_le hk.1 KE.size,hk.2⟩))
       have lc:=own_hist hvc KE.size
       replace hHeld:=hold_row hHeld zbp zgp (NB.out id) ch0
       clear ch0 ch1 hvc ry SY KE
       refine hK.out _ _ (hHeld) (fun hHeld=>?_)
       clear hK K
       refine wpAnyL_ready (rs:=[19]) (by kernel_rfl) (by simp) ?_
       refine AllReadyL.consL (o:=⟨_,_,_,_,_,_⟩) rfl (by rfl) (fun K hK=>?_) AllReadyL.nil
       have R2:=RawM.same GPH.out.1 (hHeld.block bm (.inl rfl))
       obtain ⟨v0,st,we,hrun,k3,sz3,back⟩:=R2.entry (t:=97) Tryz.underlying3 Tryz.underlying97 (fun u=>Tryz.zeroS u) (by omega) wx1.out
       go_simp
       clear hrun sz3 R2
       refine hK.out _ _ ?_
       clear hK K
       refine wpAnyL_takeP (i:=20) (oi:=⟨_,_,_,_,_,_⟩) (v:=?_) rfl (by kernel_rfl) (by kernel_rfl) (by kernel_rfl) (fun _ _ _ h=>h) (Or.inl ⟨by rfl,?y1x20q116⟩) ?z1x20q116
       case y1x20q116=>intro wq hSw;(go_simp);(try with_reducible rfl)
       refine wpAnyL_ready (rs:=[21]) (by kernel_rfl) (by simp) ?_
       refine AllReadyL.consL (o:=⟨_,_,_,_,_,_⟩) rfl (by rfl) (fun K hK=>?_) AllReadyL.nil
       obtain ⟨wf,hrun2,R3,k4,sz4⟩:=back we va rfl
       simp only [goInt] at hrun2
       go_simp
       clear hrun2 sz4 back
       refine hK.out _ _ ?_
       clear hK K
       refine wpAnyL_ready (rs:=[22]) (by kernel_rfl) (by simp) ?_
       refine AllReadyL.consL (o:=⟨_,_,_,_,_,_⟩) rfl (by rfl) (fun K hK=>?_) AllReadyL.nil
       obtain ⟨wg,hrun3,R4,k5,sz5⟩:=R3.put (t:=97) Tryz.underlying3 Tryz.underlying97 (by omega) wx2.out vc
       go_simp
       clear hrun3 sz5 R3
       refine hK.out _ _ ?_
       clear hK K
       refine wpAnyL_done (by kernel_rfl) ?_ _
       have KF:=k3.nxb (k4.nxb k5)
       have GN:=GPH.out.two (x:=x.id) (y:=id) (fun h=>hne2 h.symm) A KA la C KC lc KF R4
       have AN:=AC.out.two (fun v g hg=>((GPH.out.row v).lt g hg).1) KA la KC lc KF
       have RR:=lH (show CmRel x.id L (prsU N P j) bm wi.heap.size w4 w9 (.int .i64 ((i:Int)+1)) wg from ⟨i+1,m+1+1,_,by omega,by go_num,by rw [LS.out,← List.append_assoc,jOf_snoc,HJ.out];exact GN,by rw [M2.out];omega,AN⟩)
       clear GN AN KF A C KA KC la lc R4 k3 k4 k5 hHeld
       go_wp2_with fail
       exact ⟨RR.out,by simp [intOf];omega⟩
      refine AllReadyL.cons (o:=⟨_,_,_,_,_,_⟩) rfl (fun K hK=>?_) AllReadyL.nil
      ·go_simp
       obtain ⟨g9,wq,hg9,hwq,SY,kk⟩:=litF hHeld.size x.id
       rw [← hg9,← hwq]
       clear hg9 hwq
       (try replace SX:=SX.nx kk)
       (first | replace hDrew:=hDrew.nx kk | replace KE:=KE.nx kk)
       replace hHeld:=hold_ex hHeld zbp zgp kk
       clear kk
       refine hK.out _ _ (hHeld) (fun hHeld=>?_)
       clear hK K
       refine wpAnyL_ready (rs:=[11]) (by kernel_rfl) (by simp) ?_
       refine AllReadyL.cons (o:=⟨_,_,_,_,_,_⟩) rfl (fun K hK=>?_) AllReadyL.nil
       rw [if_pos (by rfl)]
       have rx:=(GPH.out.row x.id).nx hDrew
       have zbase:=Nat.le_trans GPH.out.2.2.1 hDrew.size
       refine wp_append_rda (enc:=encI) _ (.tmp 48) (.tmp 50) 22 rfl w4.heap.size 3 (.int .i64 0) 1 8 Tryz.underlying22 Tryz.infoI6 rfl (by omega) (by omega) _ (J x.id) rx rfl _ _ 1 1 [id] SX (fun h=>by cases h) (fun _=>rfl) (by simp [encI,Value.oneCell']) rfl (by omega) (by omega) zbase ?_
       intro va w1 A ch0 ch1 hva
       have KA:Chg (fun k=>k<wp.heap.size∧¬ (f2 x.id).ownBlock=some k) wp w1:=Chg.trans (Chg.mono hDrew (fun k hk=>hk.1)) (Chg.mono ch0 (fun k hk=>⟨Nat.lt_of_lt_of_le hk.1 hDrew.size,hk.2⟩))
       have la:=own_hist hva hDrew.size
       (try replace SY:=SY.row2 (fun g hg=>((GPH.out.row x.id).lt g hg).2) ch0)
       have KE:=Ex.refl w1
       replace hHeld:=hold_row hHeld zbp zgp (NB.out x.id) ch0
       have zb1:=Nat.le_trans zbase ch0.size
       clear ch0 ch1 hva rx hDrew SX
       refine hK.out _ _ (hHeld) (fun hHeld=>?_)
       clear hK K
       refine wpAnyL_ready (rs:=[18]) (by kernel_rfl) (by simp) ?_
       refine AllReadyL.cons (o:=⟨_,_,_,_,_,_⟩) rfl (fun K hK=>?_) AllReadyL.nil
       rw [if_pos (by rfl)]
       have ry:=((GPH.out.row id).chg KA (fun g hg hv=>⟨hg,fun hx=>GPH.out.2.2.2.2 id x.id g hne2 hv hx⟩)).nx KE
       have zb2:=Nat.le_trans zb1 KE.size
       refine wp_append_rda (enc:=encI) _ (.tmp 54) (.tmp 57) 22 rfl w4.heap.size 3 (.int .i64 0) 1 8 Tryz.underlying22 Tryz.infoI6 rfl (by omega) (by omega) _ (J id) ry rfl _ _ 1 1 [x.id] SY (fun h=>by cases h) (fun _=>rfl) (by simp [encI,Value.oneCell']) rfl (by omega) (by omega) zb2 ?_
       intro vc w2 C ch0 ch1 hvc
       have KC:Chg (fun k=>k<w1.heap.size∧¬ (f2 id).ownBlock=some k) w1 w2:=Chg.trans (Chg.mono KE (fun k hk=>hk.1)) (Chg.mono ch0 (fun k hk=>⟨Nat.lt_of_lt_of_le hk.1 KE.size,hk.2⟩))
       have lc:=own_hist hvc KE.size
       replace hHeld:=hold_row hHeld zbp zgp (NB.out id) ch0
       clear ch0 ch1 hvc ry SY KE
       refine hK.out _ _ (hHeld) (fun hHeld=>?_)
       clear hK K
       refine wpAnyL_ready (rs:=[19]) (by kernel_rfl) (by simp) ?_
       refine AllReadyL.consL (o:=⟨_,_,_,_,_,_⟩) rfl (by rfl) (fun K hK=>?_) AllReadyL.nil
       have R2:=RawM.same GPH.out.1 (hHeld.block bm (.inl rfl))
       obtain ⟨v0,st,we,hrun,k3,sz3,back⟩:=R2.entry (t:=97) Tryz.underlying3 Tryz.underlying97 (fun u=>Tryz.zeroS u) (by omega) wx1.out
       go_simp
       clear hrun sz3 R2
       refine hK.out _ _ ?_
       clear hK K
       refine wpAnyL_takeP (i:=20) (oi:=⟨_,_,_,_,_,_⟩) (v:=?_) rfl (by kernel_rfl) (by kernel_rfl) (by kernel_rfl) (fun _ _ _ h=>h) (Or.inl ⟨by rfl,?y1x20q190⟩) ?z1x20q190
       case y1x20q190=>intro wq hSw;(go_simp);(try with_reducible rfl)
       refine wpAnyL_ready (rs:=[21]) (by kernel_rfl) (by simp) ?_
       refine AllReadyL.consL (o:=⟨_,_,_,_,_,_⟩) rfl (by rfl) (fun K hK=>?_) AllReadyL.nil
       obtain ⟨wf,hrun2,R3,k4,sz4⟩:=back we va rfl
       simp only [goInt] at hrun2
       go_simp
       clear hrun2 sz4 back
       refine hK.out _ _ ?_
       clear hK K
       refine wpAnyL_ready (rs:=[22]) (by kernel_rfl) (by simp) ?_
       refine AllReadyL.consL (o:=⟨_,_,_,_,_,_⟩) rfl (by rfl) (fun K hK=>?_) AllReadyL.nil
       obtain ⟨wg,hrun3,R4,k5,sz5⟩:=R3.put (t:=97) Tryz.underlying3 Tryz.underlying97 (by omega) wx2.out vc
       go_simp
       clear hrun3 sz5 R3
       refine hK.out _ _ ?_
       clear hK K
       refine wpAnyL_done (by kernel_rfl) ?_ _
       have KF:=k3.nxb (k4.nxb k5)
       have GN:=GPH.out.two (x:=x.id) (y:=id) (fun h=>hne2 h.symm) A KA la C KC lc KF R4
       have AN:=AC.out.two (fun v g hg=>((GPH.out.row v).lt g hg).1) KA la KC lc KF
       have RR:=lH (show CmRel x.id L (prsU N P j) bm wi.heap.size w4 w9 (.int .i64 ((i:Int)+1)) wg from ⟨i+1,m+1+1,_,by omega,by go_num,by rw [LS.out,← List.append_assoc,jOf_snoc,HJ.out];exact GN,by rw [M2.out];omega,AN⟩)
       clear GN AN KF A C KA KC la lc R4 k3 k4 k5 hHeld
       go_wp2_with fail
       exact ⟨RR.out,by simp [intOf];omega⟩
     refine AllReadyL.cons (o:=⟨_,_,_,_,_,_⟩) rfl (fun K hK=>?_) AllReadyL.nil
     ·go_simp
      obtain ⟨g9,wq,hg9,hwq,SY,kk⟩:=litF hHeld.size x.id
      rw [← hg9,← hwq]
      clear hg9 hwq
      (try replace SX:=SX.nx kk)
      (first | replace hDrew:=hDrew.nx kk | replace KE:=KE.nx kk)
      replace hHeld:=hold_ex hHeld zbp zgp kk
      clear kk
      refine hK.out _ _ (hHeld) (fun hHeld=>?_)
      clear hK K
      refine wpAnyL_ready (rs:=[10]) (by kernel_rfl) (by simp) ?_
      refine AllReadyL.cons (o:=⟨_,_,_,_,_,_⟩) rfl (fun K hK=>?_) AllReadyL.nil
      go_simp
      obtain ⟨g8,wq,hg8,hwq,SX,kk⟩:=litF hHeld.size id
      rw [← hg8,← hwq]
      clear hg8 hwq
      (try replace SY:=SY.nx kk)
      replace hDrew:=hDrew.nx kk
      replace hHeld:=hold_ex hHeld zbp zgp kk
      clear kk
      refine hK.out _ _ (hHeld) (fun hHeld=>?_)
      clear hK K
      refine wpAnyL_ready (rs:=[11]) (by kernel_rfl) (by simp) ?_
      refine AllReadyL.cons (o:=⟨_,_,_,_,_,_⟩) rfl (fun K hK=>?_) AllReadyL.nil
      rw [if_pos (by rfl)]
      have rx:=(GPH.out.row x.id).nx hDrew
      have zbase:=Nat.le_trans GPH.out.2.2.1 hDrew.size
      refine wp_append_rda (enc:=encI) _ (.tmp 48) (.tmp 50) 22 rfl w4.heap.size 3 (.int .i64 0) 1 8 Tryz.underlying22 Tryz.infoI6 rfl (by omega) (by omega) _ (J x.id) rx rfl _ _ 1 1 [id] SX (fun h=>by cases h) (fun _=>rfl) (by simp [encI,Value.oneCell']) rfl (by omega) (by omega) zbase ?_
      intro va w1 A ch0 ch1 hva
      have KA:Chg (fun k=>k<wp.heap.size∧¬ (f2 x.id).ownBlock=some k) wp w1:=Chg.trans (Chg.mono hDrew (fun k hk=>hk.1)) (Chg.mono ch0 (fun k hk=>⟨Nat.lt_of_lt_of_le hk.1 hDrew.size,hk.2⟩))
      have la:=own_hist hva hDrew.size
      (try replace SY:=SY.row2 (fun g hg=>((GPH.out.row x.id).lt g hg).2) ch0)
      have KE:=Ex.refl w1
      replace hHeld:=hold_row hHeld zbp zgp (NB.out x.id) ch0
      have zb1:=Nat.le_trans zbase ch0.size
      clear ch0 ch1 hva rx hDrew SX
      refine hK.out _ _ (hHeld) (fun hHeld=>?_)
      clear hK K
      refine wpAnyL_ready (rs:=[18]) (by kernel_rfl) (by simp) ?_
      refine AllReadyL.cons (o:=⟨_,_,_,_,_,_⟩) rfl (fun K hK=>?_) AllReadyL.nil
      rw [if_pos (by rfl)]
      have ry:=((GPH.out.row id).chg KA (fun g hg hv=>⟨hg,fun hx=>GPH.out.2.2.2.2 id x.id g hne2 hv hx⟩)).nx KE
      have zb2:=Nat.le_trans zb1 KE.size
      refine wp_append_rda (enc:=encI) _ (.tmp 54) (.tmp 57) 22 rfl w4.heap.size 3 (.int .i64 0) 1 8 Tryz.underlying22 Tryz.infoI6 rfl (by omega) (by omega) _ (J id) ry rfl _ _ 1 1 [x.id] SY (fun h=>by cases h) (fun _=>rfl) (by simp [encI,Value.oneCell']) rfl (by omega) (by omega) zb2 ?_
      intro vc w2 C ch0 ch1 hvc
      have KC:Chg (fun k=>k<w1.heap.size∧¬ (f2 id).ownBlock=some k) w1 w2:=Chg.trans (Chg.mono KE (fun k hk=>hk.1)) (Chg.mono ch0 (fun k hk=>⟨Nat.lt_of_lt_of_le hk.1 KE.size,hk.2⟩))
      have lc:=own_hist hvc KE.size
      replace hHeld:=hold_row hHeld zbp zgp (NB.out id) ch0
      clear ch0 ch1 hvc ry SY KE
      refine hK.out _ _ (hHeld) (fun hHeld=>?_)
      clear hK K
      refine wpAnyL_ready (rs:=[19]) (by kernel_rfl) (by simp) ?_
      refine AllReadyL.consL (o:=⟨_,_,_,_,_,_⟩) rfl (by rfl) (fun K hK=>?_) AllReadyL.nil
      have R2:=RawM.same GPH.out.1 (hHeld.block bm (.inl rfl))
      obtain ⟨v0,st,we,hrun,k3,sz3,back⟩:=R2.entry (t:=97) Tryz.underlying3 Tryz.underlying97 (fun u=>Tryz.zeroS u) (by omega) wx1.out
      go_simp
      clear hrun sz3 R2
      refine hK.out _ _ ?_
      clear hK K
      refine wpAnyL_takeP (i:=20) (oi:=⟨_,_,_,_,_,_⟩) (v:=?_) rfl (by kernel_rfl) (by kernel_rfl) (by kernel_rfl) (fun _ _ _ h=>h) (Or.inl ⟨by rfl,?y1x20q277⟩) ?z1x20q277
      case y1x20q277=>intro wq hSw;(go_simp);(try with_reducible rfl)
      refine wpAnyL_ready (rs:=[21]) (by kernel_rfl) (by simp) ?_
      refine AllReadyL.consL (o:=⟨_,_,_,_,_,_⟩) rfl (by rfl) (fun K hK=>?_) AllReadyL.nil
      obtain ⟨wf,hrun2,R3,k4,sz4⟩:=back we va rfl
      simp only [goInt] at hrun2
      go_simp
      clear hrun2 sz4 back
      refine hK.out _ _ ?_
      clear hK K
      refine wpAnyL_ready (rs:=[22]) (by kernel_rfl) (by simp) ?_
      refine AllReadyL.consL (o:=⟨_,_,_,_,_,_⟩) rfl (by rfl) (fun K hK=>?_) AllReadyL.nil
      obtain ⟨wg,hrun3,R4,k5,sz5⟩:=R3.put (t:=97) Tryz.underlying3 Tryz.underlying97 (by omega) wx2.out vc
      go_simp
      clear hrun3 sz5 R3
      refine hK.out _ _ ?_
      clear hK K
      refine wpAnyL_done (by kernel_rfl) ?_ _
      have KF:=k3.nxb (k4.nxb k5)
      have GN:=GPH.out.two (x:=x.id) (y:=id) (fun h=>hne2 h.symm) A KA la C KC lc KF R4
      have AN:=AC.out.two (fun v g hg=>((GPH.out.row v).lt g hg).1) KA la KC lc KF
      have RR:=lH (show CmRel x.id L (prsU N P j) bm wi.heap.size w4 w9 (.int .i64 ((i:Int)+1)) wg from ⟨i+1,m+1+1,_,by omega,by go_num,by rw [LS.out,← List.append_assoc,jOf_snoc,HJ.out];exact GN,by rw [M2.out];omega,AN⟩)
      clear GN AN KF A C KA KC la lc R4 k3 k4 k5 hHeld
      go_wp2_with fail
      exact ⟨RR.out,by simp [intOf];omega⟩
    ·obtain rfl:i=L.length:=by omega
     rw [List.take_of_length_le (Nat.le_refl _),← SN.out] at GP
     have RR:=lH (show CnRel N P bm w4 (.int .i64 ((j:Int)+1)) wp from ⟨j+1,m,f2,by have:=HL.out;omega,by go_num,GP,by rw [SN.out,List.length_append,List.length_map];exact hm2,(ac.exb (KW.out.nxb (K9.out.b bm)) (Nat.le_refl _))⟩)
     clear GP ac
     go_wp2_with fail
     exact ⟨RR.out,by simp [intOf];omega⟩
  ·have hjN:j=N.length:=by have:=HL.out;omega
   have PE:=prsU_len HC.out P N.length
   rw [hjN] at GP
   rw [prsU_all] at GP PE
   clear hjN
   have HJ:Hid (∀ u v,v∈jOf (pairsN N P) u↔EdgeN N P u v∨EdgeN N P v u):=lH (fun u v=>joined_law HC.out)
   have JX:Hid (∀ u,(jOf (pairsN N P) u).length≤10000):=lH (fun u=>by
    have h1:=((jOf_law _ (pairsN N P) rfl (fun q hq=>pairs_ne HC.out hq)) u).1
    omega)
   generalize jOf (pairsN N P)=J at GP HJ JX
   have GW:=lH GP
   have KW:=lH kw
   clear GP kw PE
   have G6:=SetM.made wi Tryz.prog 3 4
   have kk:=Ex.new wi (.map #[] 0)
   obtain ⟨w6,hw6⟩:∃ w6,w6=wi.alloc (.map #[] 0):=⟨_,rfl⟩
   obtain ⟨bs,hbs⟩:∃ bs,bs=wi.heap.size:=⟨_,rfl⟩
   have hsz6:w6.heap.size=bs+1:=by rw [hw6,hbs];simp
   rw [← hbs,← hw6] at G6
   rw [← hw6] at kk
   have Hw6:=lH hw6
   have Hbs:=lH hbs
   have Hbs':=lH hbs
   have K6:=lH kk
   replace G6:=lH G6
   replace hsz6:=lH hsz6
   clear kk hw6 hbs
   have hmm:=@run_makeMap Tryz.prog
   go_upto_region 16 with fail
   rw [← Hbs.out,← Hw6.out]
   clear Hbs Hw6
   clear hmm hjm hjn
   go_upto_if 66 with fail
   go_cut [12] from 67 to 71 (fun q wk=>CqRel N bs w6 q wk)
   case first =>
    by_cases hn0:n=0
    ·have CUT:Hid (CqRel N bs w6 (.slice none 0 0) w6):=lH (by
      have:N=[]:=List.eq_nil_of_length_eq_zero (by have:=HL.out;omega)
      subst this
      exact ⟨.inl ⟨rfl,rfl⟩,Ex.refl _⟩)
     subst hn0
     go_wp2_with fail
     go_meet
     exact CUT.out
    ·have hn1:0<n:=by omega
     obtain ⟨x3,o3,x,rfl,hx3,hy,hc3⟩:=((HS.out.nxb KW.out).nxb (K6.out.b bm)).sl.at hn1
     have e0:w6.cell? ⟨x3,o3,none⟩=some (.int .i64 x.id):=by simpa using hc3 0 _ rfl
     have HX:=lH (startN_at hy)
     obtain ⟨g7,hg7⟩:∃ g7,g7=w6.heap.size:=⟨_,rfl⟩
     obtain ⟨w7,hw7⟩:∃ w7,w7=w6.alloc (.cells #[.int .i64 x.id] 3):=⟨_,rfl⟩
     have CUT:Hid (CqRel N bs w6 (.slice (some ⟨g7,0,none⟩) 1 1) w7):=lH (by
      unfold CqRel
      rw [HX.out,hg7,hw7]
      exact ⟨QuL.ofL (OwnL.lit [x.id] (fun _=>rfl) (by have:=hsz6.out;omega) (by simp [maxLen]) rfl),Ex.new _ _⟩)
     have Hg7:=lH hg7
     have Hw7:=lH hw7
     clear hc3 hy hg7 hw7
     go_upto_region 19 with fail
     rw [← Hg7.out,← Hw7.out]
     clear Hg7 Hw7
     go_wp2_with fail
     go_meet
     exact CUT.out
   case rest =>
    rename World=>wk
    obtain ⟨Q1,k7⟩:=hcut
    have C0:Hid (CbRel N P J bs wi (todoN N J [] (startN N)) u12 wk):=lH ⟨[],startN N,startN_bfs N P J,G6.out.nx k7,Q1,K6.out.nx k7,rfl,by have h1:=todo_le (N:=N) (by have:=HL.out;omega) JX.out [] (startN N);have h2:=startN_len N;omega⟩
    clear Q1 k7
    have hwb6:wi.heap.size=bs:=Hbs'.out.symm
    go_upto_region 19 with fail
    go_loopg [12] (todoN N J [] (startN N)) (fun k o wr=>CbRel N P J bs wi k o wr)
    case atStart=>exact C0.out
    case round =>
     clear C0
     obtain ⟨M,T,BF,SM,QT,kx,rfl,hk7⟩:=hrel
     obtain ⟨wp,rfl⟩:∃ wp:World,wp=wr:=⟨_,rfl⟩
     have HK7:=lH hk7
     have BL:=lH (Nat.le_trans (bfs_len HC.out BF) (show N.length≤64 by have:=HL.out;omega))
     have BFH:=lH BF
     have SMH:=lH SM
     have KX:=lH kx
     clear hk7 SM kx
     cases T with
     | nil =>
      obtain ⟨aq,cq,rfl⟩:=QT.no
      have RES:Hid (decide ((M.length:Int)=n)=connB N P):=lH (by rw [← HL.out];exact conn_bool HC.out HJ.out BFH.out)
      have hlen:=fun ty=>SMH.out.len (t:=104) Tryz.underlying104 BFH.out.1 ty
      have KE:=lH ((Exl.nxb (⟨EX1.out,hwb⟩:Exl bm w w4) KW.out).nx KX.out).1
      clear BF QT
      go_wp2_with fail
      go_ret
      exact ⟨by rw [← RES.out];rfl,KE.out⟩
     | cons v T =>
      obtain ⟨g,o,cap,rfl,hg,hbg,hc1,hcl,e0,Q2⟩:=QT.front
      obtain ⟨x,hx,hxv⟩:=bfs_node HC.out BFH.out (.inr (List.mem_cons_self ..))
      have hvI:=lH (hxv▸HI.out x hx)
      have wv:=lH (wf_of hvI.out)
      have TL:=lH (Nat.le_trans (todo_len N J M (v::T)) HK7.out)
      have lk:=fun hz=>SMH.out.get (t:=104) Tryz.underlying3 Tryz.underlying4 Tryz.underlying104 hz wv.out
      replace lk:=lk (Tryz.zeroB _)
      clear QT BF
      by_cases hcap:cap=1
      ·subst hcap
       obtain rfl:T=[]:=List.eq_nil_of_length_eq_zero (by omega)
       replace Q2:QuL 3 (bs+1) wp (.slice (some ⟨g,o,none⟩) 0 0) []:=by rw [if_pos rfl] at Q2;exact Q2
       by_cases hv:v∈M
       ·have d1:M.contains v=true:=by simpa using hv
        have RR:=lH (show CbRel N P J bs wi (todoN N J M []) (.slice (some ⟨g,o,none⟩) 0 0) wp from ⟨M,[],bfs_old BFH.out hv,SMH.out,Q2,KX.out,rfl,by have:=HK7.out;have:=todo_old N J M [] v;omega⟩)
        clear Q2
        go_wp2_with fail
        go_roundg (todoN N J M [])
        case measure=>have:=todo_old N J M [] v;omega
        case rel=>exact RR.out
       ·have d1:M.contains v=false:=by simpa using hv
        obtain ⟨wq,hput,SM2,kb,hzq⟩:=SMH.out.put (t:=104) Tryz.underlying3 Tryz.underlying4 Tryz.underlying104 (by have:=BL.out;omega) wv.out
        have kx2:=lH ((Exl.nxb (⟨KX.out,by omega⟩:Exl bs wi wp) kb).1)
        have GQ:=GW.out.nx kx2.out
        have lk2:=GQ.1.get (t:=97) Tryz.underlying3 Tryz.underlying97 (Tryz.zeroS _) wv.out
        obtain ⟨ar,cr,er,rr,hr0⟩:=(GQ.row v).rdz (fun _=>rfl)
        rw [er] at lk2
        have hq6:bs+1≤wq.heap.size:=by have:=SM2.lt;omega
        obtain ⟨v9,w9,hap,Q3,c1,c2,_⟩:=(Q2.nxb (by omega) kb).append (P:=Tryz.prog) 22 22 (z:=.int .i64 0) (bytes:=8) Tryz.underlying22 Tryz.infoI6 rfl (by omega) rr hr0 (by have:=TL.out;simp at this;omega) (by have:=JX.out v;omega) hq6
        have TN:Hid (todoN N J (M++[v]) ([]++J v)+1=todoN N J M (v::[])):=lH (by subst hxv;exact todo_new HC.out hx hv)
        have RR:=lH (show CbRel N P J bs wi (todoN N J (M++[v]) ([]++J v)) v9 w9 from ⟨M++[v],[]++J v,bfs_new (fun u v=>(HJ.out u v).1) BFH.out hv,SM2.same (c2.block bs (Nat.lt_succ_self _)),Q3,Chg.trans kx2.out (Chg.mono c2 fun k hk=>by show k<bs+1;omega),rfl,by have:=HK7.out;have:=TN.out;omega⟩)
        clear Q2 GQ er rr hr0 Q3 c1 c2 hx hxv SM2 kb
        go_wp2_with (at_builtin;go_loud (refine wpList_append_hap rfl _ _ 22 rfl hap rfl rfl ?_))
        go_roundg (todoN N J (M++[v]) ([]++J v))
        case measure=>have:=TN.out;omega
        case rel=>exact RR.out
      ·rw [if_neg hcap] at Q2
       by_cases hv:v∈M
       ·have d1:M.contains v=true:=by simpa using hv
        have RR:=lH (show CbRel N P J bs wi (todoN N J M T) (.slice (some ⟨g,o+1,none⟩) T.length (cap-1)) wp from ⟨M,T,bfs_old BFH.out hv,SMH.out,Q2,KX.out,rfl,by have:=HK7.out;have:=todo_old N J M T v;omega⟩)
        clear Q2
        go_wp2_with fail
        go_roundg (todoN N J M T)
        case measure=>have:=todo_old N J M T v;omega
        case rel=>exact RR.out
       ·have d1:M.contains v=false:=by simpa using hv
        obtain ⟨wq,hput,SM2,kb,hzq⟩:=SMH.out.put (t:=104) Tryz.underlying3 Tryz.underlying4 Tryz.underlying104 (by have:=BL.out;omega) wv.out
        have kx2:=lH ((Exl.nxb (⟨KX.out,by omega⟩:Exl bs wi wp) kb).1)
        have GQ:=GW.out.nx kx2.out
        have lk2:=GQ.1.get (t:=97) Tryz.underlying3 Tryz.underlying97 (Tryz.zeroS _) wv.out
        obtain ⟨ar,cr,er,rr,hr0⟩:=(GQ.row v).rdz (fun _=>rfl)
        rw [er] at lk2
        have hq6:bs+1≤wq.heap.size:=by have:=SM2.lt;omega
        obtain ⟨v9,w9,hap,Q3,c1,c2,_⟩:=(Q2.nxb (by omega) kb).append (P:=Tryz.prog) 22 22 (z:=.int .i64 0) (bytes:=8) Tryz.underlying22 Tryz.infoI6 rfl (by omega) rr hr0 (by have:=TL.out;simp at this;omega) (by have:=JX.out v;omega) hq6
        have TN:Hid (todoN N J (M++[v]) (T++J v)+1=todoN N J M (v::T)):=lH (by subst hxv;exact todo_new HC.out hx hv)
        have RR:=lH (show CbRel N P J bs wi (todoN N J (M++[v]) (T++J v)) v9 w9 from ⟨M++[v],T++J v,bfs_new (fun u v=>(HJ.out u v).1) BFH.out hv,SM2.same (c2.block bs (Nat.lt_succ_self _)),Q3,Chg.trans kx2.out (Chg.mono c2 fun k hk=>by show k<bs+1;omega),rfl,by have:=HK7.out;have:=TN.out;omega⟩)
        clear Q2 GQ er rr hr0 Q3 c1 c2 hx hxv SM2 kb
        go_wp2_with (at_builtin;go_loud (refine wpList_append_hap rfl _ _ 22 rfl hap rfl rfl ?_))
        go_roundg (todoN N J (M++[v]) (T++J v))
        case measure=>have:=TN.out;omega
        case rel=>exact RR.out
end Go.Proofs.YthdkeibapcaclaaGreatDoor
namespace Go.Proofs.YthdkeibapcaclaaGreatDoor
open Go.RowKit Go.Maps
theorem normal_le (N:List Nd) (P:List Pr):(normalN N P).length≤N.length∧(0<(normalN N P).length→checkN N=0):=by
 unfold normalN
 split
 ·rename_i h;exact ⟨by rw [List.length_map,sortN_length];exact Nat.le_refl _,fun _=>h⟩
 ·exact ⟨Nat.zero_le _,fun h=>by cases h⟩
theorem normal_small (N:List Nd) {P:List Pr} (h:SmallP P):SmallP (normalN N P):=by
 intro p hp
 unfold normalN at hp
 split at hp
 ·obtain ⟨x,_,rfl⟩:=List.mem_map.1 hp
  unfold peerN
  cases hf:P.find? fun p=>p.id==x.id with
  | none=>exact ⟨Nat.zero_le _,Nat.zero_le _⟩
  | some q=>exact h q (List.mem_of_find?_eq_some hf)
 ·cases hp
theorem AccM.one {β lo hi bm:Nat} {w6 wp w1 w3:World} {f:Int→Value} {x:Int} {va:Value} (h:AccM β lo hi bm w6 wp f) (hb:∀ v g,(f v).ownBlock=some g→β≤g)
  (k1:Chg (fun k=>k<wp.heap.size∧¬ (f x).ownBlock=some k) wp w1) (la:∀ g,va.ownBlock=some g→(f x).ownBlock=some g∨wp.heap.size≤g) (k3:Exb bm w1 w3):AccM β lo hi bm w6 w3 (upd f x va):=by
 have s1:=k1.size
 have s3:=k3.size
 have hs:=h.2.1
 have key:∀ v k,k<hi∧k≠bm∧(k<β∨lo≤k)→¬ (f v).ownBlock=some k:=fun v k hk hv=>by
  have h1:=hb v k hv
  have h2:=h.2.2 v k hv
  omega
 refine ⟨h.1.trans ((k1.mono fun k hk=>⟨by omega,key x k hk⟩).trans (Chg.mono k3 fun k hk=>⟨by omega,hk.2.1⟩)),by omega,fun v g hv=>?_⟩
 unfold upd at hv
 by_cases h3:v=x
 ·rw [if_pos h3] at hv
  rcases la g hv with h2 | h2
  ·exact h.2.2 x g h2
  ·omega
 ·rw [if_neg h3] at hv
  exact h.2.2 v g hv
theorem Tryz.infoIo:(Tryz.prog.info? 78).map (fun i=>(i.zero,i.size,i.bytes))=some (some (.agg #[.int .i64 0,.int .i64 0]),2,16):=by kernel_rfl
theorem clone_in (a:Option Addr) (n c:Nat) (l:List (Int×Int)) (w:World) (h:Sl 2 encS w a n l) (hn:n≤8796093022208) :
  Calls Tryz.prog 66 #[.slice a n c] w fun e w'=>∃ v,e=.returned v∧OwnL 2 encS 78 w.heap.size w' v l∧Ex w w':=by
 have HL:=lH h.len
 cases a with
 | none =>
  have hn0:n=0:=by
   rcases h.2 with h0 | ⟨x,o,e,_⟩
   ·exact h0
   ·cases e
  have hl:l=[]:=List.eq_nil_of_length_eq_zero (HL.out.trans hn0)
  subst hn0 hl
  clear h HL
  have hq:∀ w:World,(binOp .eql 25 (.slice none 0 c) (.slice none 0 0)).run Tryz.prog w=.ok (.bool true) w:=fun w=>Lib.run_eql_slice_nil w 25 78 none 0 c 0 0 Tryz.underlying25
  go_enter Tryz.func66,Tryz.ntmps66
  go_wp2
  go_ret
  exact ⟨_,rfl,OwnL.nil _ _ _ _ _,Ex.refl _⟩
 | some A =>
  have q0:=Ex.new w (.cells #[] 78)
  have h0:=h.nx q0
  have own0:OwnL 2 encS 78 w.heap.size (w.alloc (.cells #[] 78)) (.slice (some ⟨w.heap.size,0,none⟩) 0 0) []:=OwnL.empty (Nat.le_refl _) rfl
  clear h
  have hq:∀ w:World,(binOp .eql 25 (.slice (some A) n c) (.slice none 0 0)).run Tryz.prog w=.ok (.bool false) w:=fun w=>Lib.run_eql_slice_nil w 25 78 (some A) n c 0 0 Tryz.underlying25
  go_enter Tryz.func66,Tryz.ntmps66
  go_wp2_with (at_builtin;(refine wpList_append_rqW (enc:=encS) _ rfl _ _ 25 rfl w.heap.size 78 (.agg #[.int .i64 0,.int .i64 0]) 2 16 Tryz.underlying25 Tryz.infoIo rfl (by omega) (by omega) _ [] own0 rfl (some A) n c l h0 (fun _=>rfl) (by simp [encS,Value.oneCell']) rfl (by omega) (by simp;omega) (by simp) ?_);intro v1 w1 own1 hch0 hch1)
  go_ret
  exact ⟨_,rfl,by simpa using own1,Chg.trans q0 hch1⟩
def FlOwn (base:Nat) (w:World) (v m:Value) (qs:List PQ) (F:Fl):Prop:=OwnPr base w v qs F.peers∧OwnL 2 encS 78 base w m F.msgs
def FlPost (F:Fl) (w:World) (e:Ending) (w':World):Prop:=∃ (v m:Value) (qs:List PQ),e=.returned (.agg #[v,m])∧FlOwn w.heap.size w' v m qs F∧Ex w w'
theorem FlOwn.nx {base:Nat} {w w':World} {v m:Value} {qs:List PQ} {F:Fl} (h:FlOwn base w v m qs F) (k:Ex w w'):FlOwn base w' v m qs F:=⟨h.1.nx k,h.2.nx k⟩
theorem FlOwn.nxb {base b:Nat} {w w':World} {v m:Value} {qs:List PQ} {F:Fl} (h:FlOwn base w v m qs F) (hb:b<base) (k:Exb b w w'):FlOwn base w' v m qs F:=⟨h.1.nxb hb k,h.2.nxb hb k⟩
theorem FlOwn.lower {base base':Nat} {w:World} {v m:Value} {qs:List PQ} {F:Fl} (h:FlOwn base w v m qs F) (hb:base'≤base):FlOwn base' w v m qs F:=⟨h.1.lower hb,h.2.base hb⟩
theorem FlOwn.nil (base:Nat) (w:World):FlOwn base w (.slice none 0 0) (.slice none 0 0) [] ⟨[],[]⟩:=⟨OwnP.nil _ _ _ _ _,OwnL.nil _ _ _ _ _⟩
theorem cop_no {N:List Nd} {f:Fl} (h:¬ checkN N=0):copF N f=⟨[],[]⟩:=by unfold copF;rw [if_neg h]
theorem cop_yes {N:List Nd} {f:Fl} (h:checkN N=0):copF N f=⟨normalN N f.peers,f.msgs⟩:=by unfold copF;rw [if_pos h]
set_option maxRecDepth 100000 in
set_option maxHeartbeats 8000000 in
theorem normal_f (a:Option Addr) (n c:Nat) (N:List Nd) (a2:Option Addr) (n2 c2:Nat) (P:List Pr) (a3:Option Addr) (n3 c3:Nat) (M:List (Int×Int)) (w:World) (h:Sl 3 encN w a n N) (hn:n≤1000) (hc:n≤c) (hm:c≤maxLen) (h2:PL w a2 n2 P) (hn2:n2≤4000000000000000000) (hP:SmallP P)
  (h3:Sl 2 encS w a3 n3 M) (hn3:n3≤8796093022208) :
  Calls Tryz.prog 69 #[.slice a n c,.agg #[.slice a2 n2 c2,.slice a3 n3 c3]] w (FlPost (copF N ⟨P,M⟩) w):=by
 have SM:=lH hP
 have CY:=lH (fun hh=>cop_yes (N:=N) (f:=⟨P,M⟩) hh)
 have CN:=lH (fun hh=>cop_no (N:=N) (f:=⟨P,M⟩) hh)
 obtain ⟨g3,hg3⟩:∃ g3,g3=w.heap.size:=⟨_,rfl⟩
 obtain ⟨g4,hg4⟩:∃ g4,g4=(w.heap.size+1):=⟨_,rfl⟩
 obtain ⟨w1,hw1⟩:∃ w1,w1=((w.alloc (.cells #[.slice a2 n2 c2,.slice a3 n3 c3] 27)).alloc (.cells #[.slice none 0 0,.slice none 0 0] 27)):=⟨_,rfl⟩
 have kk:Ex w w1:=by rw [hw1];exact (((Ex.refl w).alloc (.cells #[.slice a2 n2 c2,.slice a3 n3 c3] 27)).alloc (.cells #[.slice none 0 0,.slice none 0 0] 27))
 have B3:Blk w1 g3 [.slice a2 n2 c2,.slice a3 n3 c3] 27:=by rw [hw1];simp only [hg3,hg4];have hbk:=((Blk.new w [.slice a2 n2 c2,.slice a3 n3 c3] 27).nx (Ex.new _ (.cells #[.slice none 0 0,.slice none 0 0] 27)));simpa using hbk
 have B4:Blk w1 g4 [.slice none 0 0,.slice none 0 0] 27:=by rw [hw1];simp only [hg3,hg4];have hbk:=(Blk.new (w.alloc (.cells #[.slice a2 n2 c2,.slice a3 n3 c3] 27)) [.slice none 0 0,.slice none 0 0] 27);simpa using hbk
 have Hw1:=lH hw1
 have Hg3:=lH hg3
 have Hg4:=lH hg4
 replace h:=h.nx kk
 replace h2:=h2.nx kk
 replace h3:=h3.nx kk
 have zg4:w.heap.size≤g4:=by omega
 have K1:=lH kk
 clear kk hw1 hg3 hg4 hP
 go_enter Tryz.func69,Tryz.ntmps69
 go_upto_region 1 with fail
 rw [← Hw1.out,← Hg4.out,← Hg3.out]
 clear Hw1 Hg4 Hg3
 go_wp2_with fail
 (with_reducible refine (check_p _ _ _ _ _ h (by omega) hc hm).mono ?_)
 rintro e w2 ⟨rfl,kk⟩
 replace h:=h.nx kk
 replace h2:=h2.nx kk
 replace h3:=h3.nx kk
 replace B3:=B3.nx kk
 replace B4:=B4.nx kk
 have K2:=lH (K1.out.nx kk)
 clear kk
 by_cases hck:checkN N=0
 case neg =>
  have d1:(checkN N != 0)=true:=by simpa using hck
  have E0:=lH (CN.out hck)
  have r0:=B4.cell 0 _ rfl
  have r1:=B4.cell 1 _ rfl
  have f0:=B4.free 0
  have f1:=B4.free 1
  have KE:=lH ((K2.out.setNew (p:=⟨g4,0,none⟩) (.slice none 0 0) zg4).setNew (p:=⟨g4,1,none⟩) (.slice none 0 0) zg4)
  clear h h2 h3 B3 B4 hck CY CN
  go_wp2_with fail
  refine bodyPost_ret (v:=.agg #[.slice none 0 0,.slice none 0 0]) (by simp [results,Tryz.results69,go_sem, *]) rfl ⟨_,_,[],rfl,by rw [E0.out];exact FlOwn.nil _ _,KE.out⟩
 have d1:(checkN N != 0)=false:=by simpa using hck
 have E0:=lH (CY.out hck)
 have HS:=lH h
 have H2:=lH h2
 have H3:=lH h3
 have BB3:=lH B3
 have BB4:=lH B4
 have hb4:=B4.lt
 have zw2:=K2.out.size
 clear h h2 h3 B3 B4 hck CY CN
 go_upto_region 3 with fail
 refine wp_region_late_drew (S:=Ex w2) [8] (by kernel_rfl) ((Ex.refl w2).drew) (fun hHeld=>?_)
 obtain ⟨wd,hwdx⟩:∃ wd:World,wd=World.drew w2:=⟨_,rfl⟩
 rw [← hwdx] at hHeld ⊢
 have hDrew:Ex w2 wd:=by rw [hwdx];exact (Ex.refl w2).drew
 clear hwdx
 refine tkL 0 (v:=?_) rfl (by kernel_rfl) (fun _ _ _ h=>h) (by rfl) ?y1x0q5 (by assumption) ?z1x0q5
 case y1x0q5=>intro wq hSw;(go_simp);(try with_reducible rfl)
 refine tkL 1 (v:=?_) rfl (by kernel_rfl) (fun _ _ _ h=>h) (by rfl) ?y1x1q8 (by assumption) ?z1x1q8
 case y1x1q8=>intro wq hSw;(go_simp);(try with_reducible rfl)
 refine tkL 2 (v:=?_) rfl (by kernel_rfl) (fun _ _ _ h=>h) (by rfl) ?y1x2q11 (by assumption) ?z1x2q11
 case y1x2q11=>intro wq hSw;(have cq:=(BB3.out.nx hSw).cell 0 _ rfl;go_simp);(try with_reducible rfl)
 refine tkL 4 (v:=?_) rfl (by kernel_rfl) (fun _ _ _ h=>h) (by rfl) ?y1x4q14 (by assumption) ?z1x4q14
 case y1x4q14=>intro wq hSw;(go_simp);(try with_reducible rfl)
 refine tkL 5 (v:=?_) rfl (by kernel_rfl) (fun _ _ _ h=>h) (by rfl) ?y1x5q17 (by assumption) ?z1x5q17
 case y1x5q17=>intro wq hSw;(have cq:=(BB3.out.nx hSw).cell 1 _ rfl;go_simp);(try with_reducible rfl)
 refine wpAnyL_ready (rs:=[3]) (by kernel_rfl) (by simp) ?_
 refine AllReadyL.cons (o:=⟨_,_,_,_,_,_⟩) rfl (fun K hK=>?_) AllReadyL.nil
 go_simp
 (with_reducible refine (normal_p _ _ _ N _ _ _ P _ (HS.out.nx hHeld) hn hc hm (H2.out.nx hHeld) hn2 SM.out).mono ?_)
 rintro e wc ⟨vP,qs,rfl,oP,kk⟩
 (try replace oM:=oM.nx kk)
 obtain ⟨aP,cP,rfl,_,_,_,_,_⟩:=oP.pl
 replace oP:=oP.lower hHeld.size
 replace hHeld:=hHeld.nx kk
 clear kk
 refine hK.out _ _ (hHeld) (fun hHeld=>?_)
 clear hK K
 refine wpAnyL_ready (rs:=[6]) (by kernel_rfl) (by simp) ?_
 refine AllReadyL.cons (o:=⟨_,_,_,_,_,_⟩) rfl (fun K hK=>?_) AllReadyL.nil
 go_simp
 (with_reducible refine (clone_in _ _ _ M _ (H3.out.nx hHeld) hn3).mono ?_)
 rintro e wc ⟨vM,rfl,oM,kk⟩
 (try replace oP:=oP.nx kk)
 obtain ⟨aM,cM,rfl,_⟩:=oM.rd (fun _=>rfl)
 replace oM:=oM.base hHeld.size
 replace hHeld:=hHeld.nx kk
 clear kk
 refine hK.out _ _ (hHeld) (fun hHeld=>?_)
 clear hK K
 refine tkL 7 (v:=?_) rfl (by kernel_rfl) (fun _ _ _ h=>h) (by rfl) ?y1x7q46 (by assumption) ?z1x7q46
 case y1x7q46=>intro wq hSw;(go_simp);(try with_reducible rfl)
 refine wpAnyL_ready (rs:=[8]) (by kernel_rfl) (by simp) ?_
 refine AllReadyL.consL (o:=⟨_,_,_,_,_,_⟩) rfl (by rfl) (fun K hK=>?_) AllReadyL.nil
 have BQ:=BB4.out.nx hHeld
 have r0:=BQ.cell 0 _ rfl
 have r1:=BQ.cell 1 _ rfl
 have f0:=BQ.free 0
 have f1:=BQ.free 1
 go_simp
 clear r0 r1 f0 f1
 refine hK.out _ _ ?_
 clear hK K
 refine wpAnyL_done (by kernel_rfl) ?_ _
 obtain ⟨wz,hwz⟩:∃ wz,wz=(wc.setCell ⟨g4,0,none⟩ (.slice aP (normalN N P).length cP)).setCell ⟨g4,1,none⟩ (.slice aM M.length cM):=⟨_,rfl⟩
 have BZ:Blk wz g4 [.slice aP (normalN N P).length cP,.slice aM M.length cM] 27:=by rw [hwz];exact (BQ.set 0 _).set 1 _
 have KB:Exb g4 wc wz:=by rw [hwz];exact ((Exb.refl g4 _).setB (p:=⟨g4,0,none⟩) _ rfl).setB (p:=⟨g4,1,none⟩) _ rfl
 have KE:Ex w wz:=by rw [hwz];exact ((K2.out.nx hHeld).setNew (p:=⟨g4,0,none⟩) _ zg4).setNew (p:=⟨g4,1,none⟩) _ zg4
 have FO:=lH (show FlOwn w.heap.size wz (.slice aP (normalN N P).length cP) (.slice aM M.length cM) qs ⟨normalN N P,M⟩ from ⟨(oP.nxb hb4 KB).lower zw2,(oM.nxb hb4 KB).base zw2⟩)
 rw [← hwz]
 have q0:=BZ.cell 0 _ rfl
 have q1:=BZ.cell 1 _ rfl
 have KEH:=lH KE
 clear hwz KB KE oP oM BQ BZ hHeld hDrew
 go_wp2_with fail
 refine bodyPost_ret (v:=.agg #[.slice aP (normalN N P).length cP,.slice aM M.length cM]) (by simp [results,Tryz.results69,go_sem, *]) rfl ⟨_,_,qs,rfl,by rw [E0.out];exact FO.out,KEH.out⟩
theorem tick1_p (gx:Nat) (id:Int) (w:World) (hx:Blk w gx [.int .i64 id] 3):PredI 108 #[.pointer (some ⟨gx,0,none⟩)] id w:=by
 intro p h1 h2 w' kk
 have q0:=(hx.nx kk).cell 0 _ rfl
 have hg:=(hx.nx kk).lt
 have hne:¬ gx=w'.heap.size:=by omega
 obtain ⟨a1,n1,c1⟩:=h1
 obtain ⟨a2,n2,c2⟩:=h2
 simp only [Hdr.val]
 clear hx kk
 go_enter Tryz.func108,Tryz.ntmps108
 go_wp2
 go_ret
 exact ⟨rfl,(Ex.refl _).alloc _⟩
theorem del1_p (gx:Nat) (m:Int×Int) (w:World) (hx:Blk w gx [.int .i64 m.1,.int .i64 m.2] 78):PredI 71 #[.pointer (some ⟨gx,0,none⟩)] m.1 w:=by
 intro p h1 h2 w' kk
 have q0:=(hx.nx kk).cell 0 _ rfl
 have hg:=(hx.nx kk).lt
 have hne:¬ gx=w'.heap.size:=by omega
 obtain ⟨a1,n1,c1⟩:=h1
 obtain ⟨a2,n2,c2⟩:=h2
 simp only [Hdr.val]
 clear hx kk
 go_enter Tryz.func71,Tryz.ntmps71
 go_wp2
 go_ret
 exact ⟨rfl,(Ex.refl _).alloc _⟩
theorem fcon1_p (gx:Nat) (m:Int×Int) (w:World) (hx:Blk w gx [.int .i64 m.1,.int .i64 m.2] 78):PredI 64 #[.pointer (some ⟨gx,0,none⟩)] m.1 w:=by
 intro p h1 h2 w' kk
 have q0:=(hx.nx kk).cell 0 _ rfl
 have hg:=(hx.nx kk).lt
 have hne:¬ gx=w'.heap.size:=by omega
 obtain ⟨a1,n1,c1⟩:=h1
 obtain ⟨a2,n2,c2⟩:=h2
 simp only [Hdr.val]
 clear hx kk
 go_enter Tryz.func64,Tryz.ntmps64
 go_wp2
 go_ret
 exact ⟨rfl,(Ex.refl _).alloc _⟩
theorem new_f (a:Option Addr) (n c:Nat) (N:List Nd) (a2:Option Addr) (n2 c2:Nat) (P:List Pr) (w:World) (h:Sl 3 encN w a n N) (hn:n≤1000) (hc:n≤c) (hm:c≤maxLen) (h2:PL w a2 n2 P) (hn2:n2≤4000000000000000000) (hP:SmallP P) :
  Calls Tryz.prog 32 #[.slice a n c,.slice a2 n2 c2] w (FlPost ⟨normalN N P,[]⟩ w):=by
 have SM:=lH hP
 have B4:=Blk.new w [.slice none 0 0,.slice none 0 0] 27
 have kk:=Ex.new w (.cells #[.slice none 0 0,.slice none 0 0] 27)
 obtain ⟨w1,hw1⟩:∃ w1,w1=w.alloc (.cells #[.slice none 0 0,.slice none 0 0] 27):=⟨_,rfl⟩
 obtain ⟨g4,hg4⟩:∃ g4,g4=w.heap.size:=⟨_,rfl⟩
 replace B4:Blk w1 g4 [.slice none 0 0,.slice none 0 0] 27:=by rw [hw1,hg4];exact B4
 rw [← hw1] at kk
 have Hw1:=lH hw1
 have Hg4:=lH hg4
 replace h:=h.nx kk
 replace h2:=h2.nx kk
 have zg4:w.heap.size≤g4:=by omega
 have hb4:=B4.lt
 have K1:=lH kk
 clear kk hw1 hg4 hP
 go_enter Tryz.func32,Tryz.ntmps32
 go_upto_region 1 with fail
 rw [← Hg4.out,← Hw1.out]
 clear Hg4 Hw1
 go_wp2_with fail
 (with_reducible refine (normal_p _ _ _ N _ _ _ P _ h hn hc hm h2 hn2 SM.out).mono ?_)
 rintro e w2 ⟨vP,qs,rfl,oP,kk⟩
 replace B4:=B4.nx kk
 obtain ⟨aP,cP,rfl,_,_,_,_,_⟩:=oP.pl
 have r0:=B4.cell 0 _ rfl
 have r1:=B4.cell 1 _ rfl
 have f0:=B4.free 0
 have f1:=B4.free 1
 have K2:=lH (K1.out.nx kk)
 have OP:=lH oP
 have B4H:=lH B4
 clear kk h h2 oP B4
 go_wp2_with fail
 obtain ⟨wz,hwz⟩:∃ wz,wz=(w2.setCell ⟨g4,0,none⟩ (.slice aP (normalN N P).length cP)).setCell ⟨g4,1,none⟩ (.slice none 0 0):=⟨_,rfl⟩
 have BZ:Blk wz g4 [.slice aP (normalN N P).length cP,.slice none 0 0] 27:=by rw [hwz];exact (B4H.out.set 0 _).set 1 _
 have KB:Exb g4 w2 wz:=by rw [hwz];exact ((Exb.refl g4 _).setB (p:=⟨g4,0,none⟩) _ rfl).setB (p:=⟨g4,1,none⟩) _ rfl
 have KE:Ex w wz:=by rw [hwz];exact (K2.out.setNew (p:=⟨g4,0,none⟩) _ zg4).setNew (p:=⟨g4,1,none⟩) _ zg4
 have FO:=lH (show FlOwn w.heap.size wz (.slice aP (normalN N P).length cP) (.slice none 0 0) qs ⟨normalN N P,[]⟩ from ⟨(OP.out.nxb hb4 KB).lower K1.out.size,OwnL.nil _ _ _ _ _⟩)
 rw [← hwz]
 have q0:=BZ.cell 0 _ rfl
 have q1:=BZ.cell 1 _ rfl
 clear r0 r1 f0 f1 hwz
 refine bodyPost_ret (v:=.agg #[.slice aP (normalN N P).length cP,.slice none 0 0]) (by simp [results,Tryz.results32,go_sem, *]) rfl ⟨_,_,qs,rfl,FO.out,KE⟩
def headP (l:List Int) (m:Nat):Nat:=match l with
 | []=>0
 | x::_=>(x % (m:Int)).toNat
theorem head_pick (l:List Int) (i m:Nat):pickN l i m=headP (l.drop i) m:=by
 unfold pickN headP
 by_cases h:i<l.length
 ·rw [List.drop_eq_getElem_cons h,List.getElem?_eq_getElem h]
 ·rw [List.drop_of_length_le (by omega),List.getElem?_eq_none (by omega)]
theorem head_lt (l:List Int) {m:Nat} (hm:0<m):headP l m<m:=by
 have:=pick_lt l 0 hm
 rw [head_pick] at this
 exact this
def TurnB (w0 w:World) (g:Nat) (l:List Int):Prop:=∃ (a:Option Addr) (n c:Nat),Blk w g [.slice a n c] 22∧Sl 1 encI w0 a n l∧n≤c∧c≤maxLen
theorem TurnB.nx {w0 w w':World} {g:Nat} {l:List Int} (h:TurnB w0 w g l) (k:Ex w w'):TurnB w0 w' g l:=by
 obtain ⟨a,n,c,h1,h2⟩:=h
 exact ⟨a,n,c,h1.nx k,h2⟩
theorem TurnB.nxb {w0 w w':World} {g b:Nat} {l:List Int} (h:TurnB w0 w g l) (hb:g≠b) (k:Exb b w w'):TurnB w0 w' g l:=by
 obtain ⟨a,n,c,h1,h2⟩:=h
 exact ⟨a,n,c,h1.nxb hb k,h2⟩
theorem TurnB.lt {w0 w:World} {g:Nat} {l:List Int} (h:TurnB w0 w g l):g<w.heap.size:=by
 obtain ⟨a,n,c,h1,h2⟩:=h
 exact h1.lt
theorem tmod_two {x n:Int} (hn:1≤n):(x.tmod n+n) % n=x % n:=by
 obtain ⟨h1,h2⟩:=tmod_bounds x n hn
 have h3:=emod_of_tmod x n hn
 have h4:=Int.emod_nonneg x (show n≠0 by omega)
 have h5:=Int.emod_lt_of_pos x (show 0<n by omega)
 have e:(x.tmod n+n) % n=x % n:=by
  rw [Int.add_emod_right]
  split at h3
  ·rw [show x.tmod n=x % n-n by omega,Int.sub_emod_right,Int.emod_emod_of_dvd x (Int.dvd_refl n)]
  ·rw [← h3,Int.emod_emod_of_dvd x (Int.dvd_refl n)]
 exact e
set_option maxHeartbeats 2000000 in
theorem turn_f (gT m:Nat) (l:List Int) (w0 w:World) (h:TurnB w0 w gT l) (k0:Ex w0 w) (hm:0<m) (hm2:m≤1000000000) (hg:w0.heap.size≤gT) :
  Calls Tryz.prog 136 #[.int .i64 m,.pointer (some ⟨gT,0,none⟩)] w fun e w'=>e=.returned (.int .i64 (headP l m:Nat))∧TurnB w0 w' gT l.tail∧Exb gT w w':=by
 obtain ⟨a,n,c,B,S,hc,hcm⟩:=h
 have q0:=B.cell 0 _ rfl
 have f0:=B.free 0
 have BH:=lH B
 have SH:=lH S
 clear B S
 unfold maxLen at hcm
 cases l with
 | nil =>
  obtain rfl:n=0:=by have:=SH.out.len;simpa using this.symm
  have R:=lH (show TurnB w0 w gT [] from ⟨a,0,c,BH.out,SH.out,by omega,by unfold maxLen;omega⟩)
  clear hc hcm
  go_enter Tryz.func136,Tryz.ntmps136
  go_wp2_with fail
  go_ret
  exact ⟨rfl,R.out,Exb.refl gT _⟩
 | cons x r =>
  obtain ⟨k,rfl⟩:∃ k,n=k+1:=⟨n-1,by have:=SH.out.len;simp at this;omega⟩
  obtain ⟨xb,o,y,rfl,hxb,hy,hcell⟩:=SH.out.at (show 0<k+1 by omega)
  simp only [List.getElem?_cons_zero,Option.some.injEq] at hy
  subst hy
  have e0:w0.cell? ⟨xb,o+0*1+0,none⟩=some (.int .i64 x):=hcell 0 _ rfl
  have e1:w.cell? ⟨xb,o,none⟩=some (.int .i64 x):=by
   have:=Chg.cellv k0 e0 hxb
   simpa using this
  obtain ⟨h1,h2⟩:=tmod_bounds x m (by omega)
  have jw:IntKind.i64.wrap (x.tmod (m:Int)+(m:Int))=x.tmod (m:Int)+(m:Int):=IntWalk.i64_in _ (by omega)
  have H3:=lH (tmod_two (x:=x) (n:=m) (by omega))
  have hk1:¬ ((k:Int)+1=0):=by omega
  have hk2:(1:Int)≤(k:Int)+1:=by omega
  have hk3:(0:Int)<(k:Int)+1:=by omega
  have hk4:((k:Int)+1==0)=false:=by rw [beq_eq_false_iff_ne];omega
  have hc2:(k:Int)+1≤(c:Int):=by omega
  have hne:¬ gT=xb:=by omega
  have hm0:¬ (m:Int)=0:=by omega
  have hm3:((m:Int)==0)=false:=by rw [beq_eq_false_iff_ne];omega
  have hp:((headP (x::r) m:Nat):Int)=x % (m:Int):=by
   have:=Int.emod_nonneg x (show (m:Int)≠0 by omega)
   show (((x % (m:Int)).toNat:Nat):Int)=_
   omega
  have HP:=lH hp
  have SD:Hid (Sl 1 encI w0 (if c=1 then some ⟨xb,o,none⟩ else some ⟨xb,o+1,none⟩) k r):=lH (by
   split
   ·have hk0:k=0:=by omega
    subst hk0
    have hr:=SH.out.len
    have hr:r=[]:=by simpa using hr
    subst hr
    exact ⟨rfl,.inl rfl⟩
   ·have:=Sl.drop SH.out (m:=1) (by simp)
    simpa using this)
  clear e0 hcell SH hp
  by_cases hc1:c=1
  ·subst hc1
   obtain rfl:k=0:=by omega
   have R:=lH (show TurnB w0 (w.setCell ⟨gT,0,none⟩ (.slice (some ⟨xb,o,none⟩) 0 (0))) gT r from ⟨_,0,0,BH.out.set 0 _,by have:=SD.out;rw [if_pos rfl] at this;exact this,by omega,by unfold maxLen;omega⟩)
   have KB:=lH (show Exb gT w (w.setCell ⟨gT,0,none⟩ (.slice (some ⟨xb,o,none⟩) 0 (0))) from (Exb.refl gT _).setB (p:=⟨gT,0,none⟩) _ rfl)
   clear SD
   go_enter Tryz.func136,Tryz.ntmps136
   go_wp2_with fail
   go_ret
   exact ⟨by rw [HP.out,H3.out];rfl,R.out,KB.out⟩
  ·have hc9:¬ 1=c:=fun h=>hc1 h.symm
   have R:=lH (show TurnB w0 (w.setCell ⟨gT,0,none⟩ (.slice (some ⟨xb,o+1,none⟩) k (c-1))) gT r from ⟨_,k,c-1,BH.out.set 0 _,by have:=SD.out;rw [if_neg hc1] at this;exact this,by omega,by unfold maxLen;omega⟩)
   have KB:=lH (show Exb gT w (w.setCell ⟨gT,0,none⟩ (.slice (some ⟨xb,o+1,none⟩) k (c-1))) from (Exb.refl gT _).setB (p:=⟨gT,0,none⟩) _ rfl)
   clear SD
   go_enter Tryz.func136,Tryz.ntmps136
   go_wp2_with fail
   go_ret
   exact ⟨by rw [HP.out,H3.out];rfl,R.out,KB.out⟩
theorem turns_f (a:Option Addr) (n c:Nat) (l:List Int) (w0 w:World) (h:Sl 1 encI w0 a n l) (hc:n≤c) (hm:c≤maxLen) :
  Calls Tryz.prog 77 #[.slice a n c] w fun e w'=>∃ g,e=.returned (.func (.func 136) #[] #[.pointer (some ⟨g,0,none⟩)])∧w.heap.size≤g∧Ex w w'∧TurnB w0 w' g l:=by
 have B1:=Blk.new w [.slice a n c] 22
 have kk:=Ex.new w (.cells #[.slice a n c] 22)
 obtain ⟨w1,hw1⟩:∃ w1,w1=w.alloc (.cells #[.slice a n c] 22):=⟨_,rfl⟩
 obtain ⟨g1,hg1⟩:∃ g1,g1=w.heap.size:=⟨_,rfl⟩
 replace B1:Blk w1 g1 [.slice a n c] 22:=by rw [hw1,hg1];exact B1
 rw [← hw1] at kk
 have Hw1:=lH hw1
 have Hg1:=lH hg1
 have R:=lH (show TurnB w0 w1 g1 l from ⟨a,n,c,B1,h,hc,hm⟩)
 have K1:=lH kk
 have zg:w.heap.size≤g1:=by omega
 clear kk hw1 hg1 B1 h
 go_enter Tryz.func77,Tryz.ntmps77
 go_upto_region 1 with fail
 rw [← Hg1.out,← Hw1.out]
 clear Hg1 Hw1
 go_wp2_with fail
 go_ret
 exact ⟨_,rfl,zg,K1.out,R.out⟩
def PrVS (S:Nat→Prop) (w:World) (q:PQ) (p:Pr):Prop:=q.1=p.nums∧Rd 1 encI S w q.2.1.1 q.2.1.2.1 p.known∧Rd 4 encNr S w q.2.2.1 q.2.2.2.1 p.near
def PLS (S:Nat→Prop) (w:World) (a:Option Addr) (n:Nat) (P:List Pr):Prop:=∃ qs:List PQ,Rd 5 encQ S w a n qs∧P.length=n∧∀ (j:Nat) (q:PQ) (p:Pr),qs[j]?=some q→P[j]?=some p→PrVS S w q p
section
variable {S S':Nat→Prop} {w w':World} {a:Option Addr} {n:Nat} {P:List Pr}
theorem PLS.chg (h:PLS S w a n P) (k:Chg S' w w') (hs:∀ x,S x→S' x):PLS S w' a n P:=by
 obtain ⟨qs,h1,h2,h3⟩:=h
 refine ⟨qs,Rd.chg h1 k hs,h2,fun j q p hq hp=>?_⟩
 obtain ⟨r1,r2,r3⟩:=h3 j q p hq hp
 exact ⟨r1,Rd.chg r2 k hs,Rd.chg r3 k hs⟩
theorem PLS.mono (h:PLS S w a n P) (hs:∀ x,S x→S' x):PLS S' w a n P:=by
 obtain ⟨qs,h1,h2,h3⟩:=h
 refine ⟨qs,Rd.mono h1 hs,h2,fun j q p hq hp=>?_⟩
 obtain ⟨r1,r2,r3⟩:=h3 j q p hq hp
 exact ⟨r1,Rd.mono r2 hs,Rd.mono r3 hs⟩
theorem PL.pls (h:PL w a n P):PLS (· < w.heap.size) w a n P:=h
theorem PLb.pls {b:Nat} (h:PLb b w a n P):PLS (fun k=>k<w.heap.size∧k≠b) w a n P:=h
theorem PLS.pl (h:PLS S w a n P) (hs:∀ x,S x→x<w.heap.size):PL w a n P:=h.mono hs
theorem PLS.plb {b:Nat} (h:PLS S w a n P) (hs:∀ x,S x→x<w.heap.size∧x≠b):PLb b w a n P:=h.mono hs
end
theorem OwnP.pls {eP eI eN:TypeId} {base:Nat} {w:World} {v:Value} {qs:List PQ} {P:List Pr} (h:OwnP eP eI eN base w v qs P) :
  ∃ a cap,v=.slice a P.length cap∧PLS (fun k=>base≤k∧k<w.heap.size) w a P.length P:=by
 obtain ⟨a,cap,e,r,c1,c2,c3,c4⟩:=h.1.rd encQ_len
 rw [h.2.1] at e r
 refine ⟨a,cap,e,qs,r,rfl,fun j q p hq hp=>?_⟩
 obtain ⟨r1,r2,r3⟩:=h.2.2.1 j q p hq hp
 refine ⟨r1,?_,?_⟩
 ·obtain ⟨a',cap',e',r',_⟩:=r2.rd (fun _=>rfl)
  obtain ⟨q0,⟨x1,x2,x3⟩,hn⟩:=q
  simp only [Hdr.val,Value.slice.injEq] at e'
  obtain ⟨rfl,rfl,rfl⟩:=e'
  exact r'
 ·obtain ⟨a',cap',e',r',_⟩:=r3.rd (fun _=>rfl)
  obtain ⟨q0,hk,⟨x1,x2,x3⟩⟩:=q
  simp only [Hdr.val,Value.slice.injEq] at e'
  obtain ⟨rfl,rfl,rfl⟩:=e'
  exact r'
def FlX (X:Nat→Prop) (w:World) (aP aM:Option Addr) (F:Fl):Prop :=
 PLS (fun k=>k<w.heap.size∧¬ X k) w aP F.peers.length F.peers∧Rd 2 encS (fun k=>k<w.heap.size∧¬ X k) w aM F.msgs.length F.msgs
section
variable {X X':Nat→Prop} {w w':World} {aP aM:Option Addr} {F:Fl}
theorem FlX.chg (h:FlX X w aP aM F) {S':Nat→Prop} (k:Chg S' w w') (hs:∀ x,x<w.heap.size∧¬ X x→S' x):FlX X w' aP aM F :=
 ⟨(PLS.chg h.1 k hs).mono (fun x hx=>⟨Nat.lt_of_lt_of_le hx.1 k.size,hx.2⟩),(Rd.chg h.2 k hs).mono (fun x hx=>⟨Nat.lt_of_lt_of_le hx.1 k.size,hx.2⟩)⟩
theorem FlX.nx (h:FlX X w aP aM F) (k:Ex w w'):FlX X w' aP aM F:=h.chg k (fun x hx=>hx.1)
theorem FlX.nxb {b:Nat} (h:FlX X w aP aM F) (hb:X b) (k:Exb b w w'):FlX X w' aP aM F:=h.chg k (fun x hx=>⟨hx.1,fun e=>hx.2 (e▸hb)⟩)
theorem FlX.set (h:FlX X w aP aM F) {p:Addr} (v:Value) (hp:X p.block):FlX X (w.setCell p v) aP aM F :=
 h.chg (S':=(·≠p.block)) ((Chg.refl (·≠p.block) w).setCell v (fun k hk=>hk)) (fun x hx e=>hx.2 (e▸hp))
theorem FlX.mono (h:FlX X w aP aM F) (hs:∀ k,k<w.heap.size→X' k→X k):FlX X' w aP aM F :=
 ⟨h.1.mono (fun x hx=>⟨hx.1,fun e=>hx.2 (hs x hx.1 e)⟩),Rd.mono h.2 (fun x hx=>⟨hx.1,fun e=>hx.2 (hs x hx.1 e)⟩)⟩
theorem FlX.pl (h:FlX X w aP aM F):PL w aP F.peers.length F.peers:=h.1.pl (fun _ hx=>hx.1)
theorem FlX.sl (h:FlX X w aP aM F):Sl 2 encS w aM F.msgs.length F.msgs:=Rd.mono h.2 (fun _ hx=>hx.1)
theorem FlOwn.flx {base:Nat} {v m:Value} {qs:List PQ} (h:FlOwn base w v m qs F) (hX:∀ k,X k→k<base):∃ aP cP aM cM,v=.slice aP F.peers.length cP∧m=.slice aM F.msgs.length cM∧FlX X w aP aM F:=by
 obtain ⟨aP,cP,e1,r1⟩:=h.1.pls
 obtain ⟨aM,cM,e2,r2,_⟩:=h.2.rd (fun _=>rfl)
 exact ⟨aP,cP,aM,cM,e1,e2,r1.mono (fun x hx=>⟨hx.2,fun e=>by have:=hX x e;have:=hx.1;omega⟩),r2.mono (fun x hx=>⟨hx.2,fun e=>by have:=hX x e;have:=hx.1;omega⟩)⟩
theorem FlX.of {b:Nat} (h1:PLb b w aP F.peers.length F.peers) (h2:Slb 2 encS b w aM F.msgs.length F.msgs):FlX (· = b) w aP aM F:=⟨h1.pls,h2⟩
end
end Go.Proofs.YthdkeibapcaclaaGreatDoor
