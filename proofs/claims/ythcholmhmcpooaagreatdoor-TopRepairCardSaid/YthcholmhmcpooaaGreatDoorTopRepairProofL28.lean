/- Texts for TopRepairProof. -/
import Derived.Laws.OwnMore
import Derived.Test.YthcholmhmcpooaaGreatDoorTopRepairProofL25
set_option linter.unusedSimpArgs false
set_option linter.unusedVariables false

namespace Go.Proofs.YthcholmhmcpooaaGreatDoor
open Go.RowKit Go.Maps
def AccM (β lo hi bm:Nat) (w6 wr:World) (f:Int→Value):Prop :=
 Chg (fun k=>k<hi∧k≠bm∧(k<β∨lo≤k)) w6 wr∧hi≤wr.heap.size∧∀ v g,(f v).ownBlock=some g→g<lo∨hi≤g
section
variable {β lo hi bm:Nat} {w6 wr w9:World} {f:Int→Value}
theorem AccM.sl {α:Type} {sz n:Nat} {enc:α→List Value} {a:Option Addr} {l:List α} {w5 w6 wr:World} (h:AccM β w5.heap.size w6.heap.size bm w6 wr f) (hb:bm<w5.heap.size) (s:Slf sz enc w5 w6 a n l):Sl sz enc wr a n l :=
 (Rd.chg s h.1 (fun _ hk=>⟨hk.2,by omega,.inr hk.1⟩)).mono fun _ hk=>Nat.lt_of_lt_of_le hk.2 h.2.1
theorem AccM.blk {g:Nat} {cs:List Value} {ty:TypeId} (h:AccM β lo w6.heap.size bm w6 wr f) (B:Blk w6 g cs ty) (hg:lo≤g) (hb:bm≠g):Blk wr g cs ty :=
 (Chg.block h.1 g ⟨B.lt,fun h=>hb h.symm,.inr hg⟩).trans B
theorem AccM.exb {w2:World} (h:AccM β lo w6.heap.size bm w6 wr f) (k:Exb bm w2 w6) (hβ:w2.heap.size≤β):Exb bm w2 wr :=
 Chg.trans k (Chg.mono h.1 fun x hx=>⟨Nat.lt_of_lt_of_le hx.1 k.size,hx.2,.inl (Nat.lt_of_lt_of_le hx.1 hβ)⟩)
end
theorem own_hist {va v:Value} {c s:Nat} (h:va.ownBlock=v.ownBlock∨va.ownBlock=some c) (hs:s≤c):∀ g,va.ownBlock=some g→v.ownBlock=some g∨s≤g:=fun g hg=>by
 rcases h with h | h
 ·exact .inl (by rw [← h];exact hg)
 ·rw [h] at hg;cases hg;exact .inr hs
theorem hold_ex {bm g7:Nat} {wp cur w':World} (h:Chg (fun k=>k=bm∨k=g7) wp cur) (hb:bm<wp.heap.size) (hg:g7<wp.heap.size) (k:Ex cur w'):Chg (fun k=>k=bm∨k=g7) wp w' :=
 Chg.trans h (Chg.mono k fun x hx=>by have:=h.size;show x<cur.heap.size;omega)
theorem hold_row {bm g7:Nat} {wp cur w':World} {v:Value} (h:Chg (fun k=>k=bm∨k=g7) wp cur) (hb:bm<wp.heap.size) (hg:g7<wp.heap.size) (n:¬ v.ownBlock=some bm∧¬ v.ownBlock=some g7) (k:Chg (fun k=>k<cur.heap.size∧¬ v.ownBlock=some k) cur w'):Chg (fun k=>k=bm∨k=g7) wp w' :=
 Chg.trans h (Chg.mono k fun x hx=>by
  have:=h.size
  rcases hx with rfl | rfl
  ·exact ⟨by omega,n.1⟩
  ·exact ⟨by omega,n.2⟩)
theorem AccM.two {β lo hi bm:Nat} {w6 wp w1 w2 w3:World} {f:Int→Value} {x y:Int} {va vc:Value} (h:AccM β lo hi bm w6 wp f) (hb:∀ v g,(f v).ownBlock=some g→β≤g)
  (k1:Chg (fun k=>k<wp.heap.size∧¬ (f x).ownBlock=some k) wp w1) (la:∀ g,va.ownBlock=some g→(f x).ownBlock=some g∨wp.heap.size≤g)
  (k2:Chg (fun k=>k<w1.heap.size∧¬ (f y).ownBlock=some k) w1 w2) (lc:∀ g,vc.ownBlock=some g→(f y).ownBlock=some g∨w1.heap.size≤g) (k3:Exb bm w2 w3):AccM β lo hi bm w6 w3 (upd (upd f x va) y vc):=by
 have s1:=k1.size
 have s2:=k2.size
 have s3:=k3.size
 have hs:=h.2.1
 have key:∀ v k,k<hi∧k≠bm∧(k<β∨lo≤k)→¬ (f v).ownBlock=some k:=fun v k hk hv=>by
  have h1:=hb v k hv
  have h2:=h.2.2 v k hv
  omega
 refine ⟨h.1.trans ((k1.mono fun k hk=>⟨by omega,key x k hk⟩).trans ((k2.mono fun k hk=>⟨by omega,key y k hk⟩).trans (Chg.mono k3 fun k hk=>⟨by omega,hk.2.1⟩))),by omega,fun v g hv=>?_⟩
 unfold upd at hv
 by_cases h1:v=y
 ·rw [if_pos h1] at hv
  rcases lc g hv with h2 | h2
  ·exact h.2.2 y g h2
  ·omega
 ·rw [if_neg h1] at hv
  by_cases h3:v=x
  ·rw [if_pos h3] at hv
   rcases la g hv with h2 | h2
   ·exact h.2.2 x g h2
   ·omega
  ·rw [if_neg h3] at hv
   exact h.2.2 v g hv
def prsU (N:List Nd) (P:List Pr) (j:Nat):List (Int×Int):=(N.take j).flatMap fun x=>(refsN N (peerN P x.id)).map fun v=>(x.id,v)
theorem prsU_snoc {N:List Nd} {P:List Pr} {j:Nat} {x:Nd} (hx:N[j]?=some x):prsU N P (j+1)=prsU N P j++(refsN N (peerN P x.id)).map fun v=>(x.id,v):=by
 unfold prsU
 rw [take_snocN N j x hx,List.flatMap_append]
 simp
theorem prsU_all (N:List Nd) (P:List Pr):prsU N P N.length=pairsN N P:=by
 unfold prsU pairsN
 rw [List.take_of_length_le (Nat.le_refl _)]
theorem prsU_len {N:List Nd} (h0:checkN N=0) (P:List Pr) (j:Nat):(prsU N P j).length≤64*64:=by
 have h1:=pairs_len (P:=P) h0 (N.take j)
 have h2:=check_len h0
 have h3:(N.take j).length≤64:=by rw [List.length_take];omega
 unfold prsU
 exact Nat.le_trans h1 (Nat.mul_le_mul h3 h2)
abbrev GpM (base:Nat) (w:World) (b n:Nat) (f:Int→Value) (J:Int→List Int):Prop:=GrpM Tryz.prog 3 3 base w b n f J
theorem Tryz.zeroS (w:World):(zeroValue 22).run Tryz.prog w=.ok nilS w:=by kernel_rfl
theorem litF {wp u:World} (hz:wp.heap.size≤u.heap.size) (x:Int):∃ g v,g=u.heap.size∧v=u.alloc (.cells #[.int .i64 x] 3)∧Slf 1 encI wp v (some ⟨g,0,none⟩) 1 [x]∧Ex u v :=
 ⟨_,_,rfl,rfl,Slf.lit [x] rfl hz rfl (fun _=>rfl) rfl,Ex.new _ _⟩
theorem Slf.row {α β:Type} {sz n sz' e base:Nat} {enc:α→List Value} {enc':β→List Value} {w0 w w':World} {a:Option Addr} {l:List α} {v:Value} {l':List β} (s:Slf sz enc w0 w a n l) (h:OwnL sz' enc' e base w0 v l') (k:Chg (fun k=>k<w.heap.size∧¬ v.ownBlock=some k) w w'):Slf sz enc w0 w' a n l :=
 (Rd.chg s k fun _ hk=>⟨hk.2,fun hv=>by have:=(h.lt _ hv).2;have:=hk.1;omega⟩).mono fun _ hk=>⟨hk.1,Nat.lt_of_lt_of_le hk.2 k.size⟩
theorem QuL.base {e:TypeId} {base base':Nat} {w:World} {v:Value} {l:List Int} (h:QuL e base w v l) (hb:base'≤base):QuL e base' w v l:=by
 rcases h with h | ⟨g,o,cap,cur,h1,h2,h3⟩
 ·exact .inl h
 ·exact .inr ⟨g,o,cap,cur,h1,Nat.le_trans hb h2,h3⟩
theorem OwnL.rdz {α:Type} {sz e base:Nat} {enc:α→List Value} {w:World} {v:Value} {l:List α} (h:OwnL sz enc e base w v l) (hsz:∀ y,(enc y).length=sz) :
  ∃ a cap,v=.slice a l.length cap∧Rd sz enc (fun k=>base≤k∧k<w.heap.size) w a l.length l∧(a=none→cap=0):=by
 obtain ⟨a,cap,e1,r,_⟩:=h.rd hsz
 refine ⟨a,cap,e1,r,fun h0=>?_⟩
 subst h0
 rcases h.2 with ⟨e2,hn⟩ | ⟨g,cap',cur,e2,_⟩
 ·rw [e1] at e2
  injection e2
 ·rw [e1] at e2
  simp at e2
def encP2 (q:Int×Int):List Value:=[.int .i64 q.1,.int .i64 q.2]
theorem Tryz.infoP2:(Tryz.prog.info? 164).map (fun i=>(i.zero,i.size,i.bytes))=some (some (.agg #[.int .i64 0,.int .i64 0]),2,16):=by kernel_rfl
theorem encP2_one (q:Int×Int):∀ u∈encP2 q,u.oneCell'=true:=by
 intro u hu
 simp only [encP2,List.mem_cons,List.not_mem_nil,or_false] at hu
 rcases hu with rfl | rfl<;>rfl
theorem peerN_small {P:List Pr} {m:Nat} (h:∀ p∈P,p.known.length≤m∧p.near.length≤m) (id:Int):(peerN P id).known.length≤m∧(peerN P id).near.length≤m:=by
 unfold peerN
 cases hf:P.find? fun p=>p.id==id with
 | none=>exact ⟨Nat.zero_le _,Nat.zero_le _⟩
 | some p=>exact h p (List.mem_of_find?_eq_some hf)
def PqPost (E:List (Int×Int)) (w:World) (e:Ending) (w':World):Prop:=∃ v,e=.returned v∧OwnW 2 encP2 164 w.heap.size w' v E∧Ex w w'
def PaRel (N:List Nd) (P:List Pr) (w:World) (o i:Value) (wr:World):Prop :=
 ∃ j:Nat,j≤N.length∧i=.int .i64 j∧OwnW 2 encP2 164 w.heap.size wr o (prsU N P j)∧Ex w wr
def PbRel (x:Int) (l:List Int) (E:List (Int×Int)) (β lo:Nat) (w6:World) (o i:Value) (wr:World):Prop :=
 ∃ j:Nat,j≤l.length∧i=.int .i64 j∧OwnW 2 encP2 164 β wr o (E++(l.take j).map fun v=>(x,v))∧Acc β lo w6.heap.size w6 wr o
theorem litP2 {w0 u:World} (_:Ex w0 u) (x y:Int):∃ g v,g=u.heap.size∧v=u.alloc (.cells #[.int .i64 x,.int .i64 y] 164)∧Sl 2 encP2 v (some ⟨g,0,none⟩) 1 [(x,y)]∧Ex u v :=
 ⟨_,_,rfl,rfl,Sl.lit [(x,y)] rfl rfl (fun _=>rfl) rfl,Ex.new _ _⟩
set_option maxRecDepth 100000 in
set_option maxHeartbeats 16000000 in
theorem pairs_r (a:Option Addr) (n c:Nat) (N:List Nd) (a2:Option Addr) (n2 c2:Nat) (P:List Pr) (w:World) (h:Sl 3 encN w a n N) (hn:n≤1000) (h0:checkN N=0) (h2:PL w a2 n2 P) (hn2:n2≤1000000) (hP:∀ p∈P,p.known.length≤2000000∧p.near.length≤2000000) :
  Calls Tryz.prog 160 #[.slice a n c,.slice a2 n2 c2] w (PqPost (pairsN N P) w):=by
 have HL:=lH h.len
 have HC:=lH h0
 have hn64:n≤64:=by have:=check_len h0;have:=HL.out;omega
 have HS:=lH h
 have HPL:=lH h2
 have HP:=lH hP
 have HSP:Hid (SmallP P):=lH (fun p hp=>by have:=HP.out p hp;omega)
 clear h h0 h2 hP
 go_enter Tryz.func160,Tryz.ntmps160
 go_wp2_with fail
 go_loopw [5,6] (fun o i wr=>PaRel N P w o i wr) (fun _ i _=>n-(intOf i).toNat)
 case atStart=>exact ⟨0,Nat.zero_le _,rfl,OwnW.nil _ _ _ _ _,Ex.refl _⟩
 case round =>
  obtain ⟨j,hj,rfl,own,kw⟩:=hrel
  obtain ⟨wo,rfl⟩:∃ wo:World,wo=wr:=⟨_,rfl⟩
  by_cases hlt:j<n
  ·obtain ⟨x3,o3,x,rfl,hx3,hy,hc3⟩:=(HS.out.nx kw).at hlt
   have e0:wo.cell? ⟨x3,o3+j*3,none⟩=some (.int .i64 x.id):=hc3 0 _ rfl
   have HY:=lH hy
   have SN:=lH (prsU_snoc (P:=P) hy)
   have PE:=prsU_len HC.out P j
   have KW:=lH kw
   have hzo:=kw.size
   have BLO:=lH (fun g hg=>own.blk_lt (g:=g) hg)
   clear hc3 hy kw hj
   go_wp2_with fail
   (with_reducible refine (peer_r _ _ _ P x.id _ (HPL.out.nx KW.out) hn2 HSP.out).mono ?_)
   rintro e w6 ⟨hk,hq,rfl,ok1,ok2,kk⟩
   replace own:=own.nx kk
   have K6:=lH kk
   have hz6:=kk.size
   have hpl:=peerN_small HP.out x.id
   generalize peerN P x.id=p at ok1 ok2 hpl SN ⊢
   obtain ⟨A1,C1,E1,r1,z1⟩:=ok1.rdz (fun _=>rfl)
   obtain ⟨A2,C2,E2,r2,z2⟩:=ok2.rdz (fun _=>rfl)
   rw [E1,E2]
   have s1:Sl 1 encI w6 A1 p.known.length p.known:=r1.mono (fun _ hk=>hk.2)
   have s2:Sl 4 encNr w6 A2 p.near.length p.near:=r2.mono (fun _ hk=>hk.2)
   clear kk ok1 ok2 r1 r2 z2 E1 E2 e0
   go_wp2_with fail
   (with_reducible refine (refs_r _ _ _ N p _ _ _ _ _ _ _ (HS.out.nx (KW.out.nx K6.out)) hn s1 s2 hpl.1 hpl.2 z1).mono ?_)
   rintro e w7 ⟨v7,rfl,o7,kk⟩
   replace own:=own.nx kk
   obtain ⟨A7,C7,rfl,r7,_,_,_⟩:=o7.slf (fun _=>rfl)
   have R7:=lH r7
   have hlr:=refs_len HC.out p
   have K7:=lH (K6.out.nx kk)
   have hz7:=kk.size
   have A0:=lH (Acc.start (β:=w.heap.size) (lo:=w6.heap.size) (Nat.le_refl w7.heap.size) (fun g hg=>.inl (by have:=BLO.out g hg;omega)))
   generalize refsN N p=L at r7 R7 hlr SN ⊢
   have hLl:L.length≤64:=by have:=HL.out;omega
   generalize hE:prsU N P j=E at own PE SN
   clear o7 kk s1 s2 hpl z1 r7 hlr hE BLO
   go_wp2_with fail
   go_loopw [5,8] (fun o i wr=>PbRel x.id L E w.heap.size w6.heap.size w7 o i wr) (fun _ i _=>L.length-(intOf i).toNat)
   case atStart=>exact ⟨0,Nat.zero_le _,rfl,by simpa using own,A0.out⟩
   case round =>
    clear own A0
    obtain ⟨k,hk,rfl,own,ac⟩:=hrel
    obtain ⟨wp,rfl⟩:∃ wp:World,wp=wr:=⟨_,rfl⟩
    by_cases hkl:k<L.length
    ·obtain ⟨xr,or,id,rfl,hxr,hid,hcr⟩:=(ac.sl R7.out).at hkl
     have f0:wp.cell? ⟨xr,or+k,none⟩=some (.int .i64 id):=by simpa using hcr 0 _ rfl
     have F0:=lH (fun wq (k:Ex wp wq)=>Chg.cellv k f0 hxr)
     obtain ⟨x3',o3',x',he',hx3',hy',hc3'⟩:=(HS.out.nx (ac.ex (KW.out.nx K7.out))).at hlt
     cases he'
     obtain rfl:x=x':=Option.some.inj (HY.out.symm.trans hy')
     have e0:wp.cell? ⟨x3,o3+j*3,none⟩=some (.int .i64 x.id):=hc3' 0 _ rfl
     have X0:=lH (fun wq (k:Ex wp wq)=>Chg.cellv k e0 hx3')
     have LS:Hid ((L.take (k+1)).map (fun v=>(x.id,v))=(L.take k).map (fun v=>(x.id,v))++[(x.id,id)]):=lH (by rw [take_snocN L k id hid,List.map_append];rfl)
     have zb:=(ac.ex (KW.out.nx K7.out)).size
     have AC:=lH ac
     have OWN:=lH own
     have hl7:(E++(L.take k).map fun v=>(x.id,v)).length≤1000000:=by rw [List.length_append,List.length_map,List.length_take];omega
     clear hcr hid hxr f0 hy' hc3' hx3' e0 ac own
     generalize (L.take k).map (fun v=>(x.id,v))=R at OWN LS hl7
     go_upto_region 9 with fail
     refine wp_region_late_drew (S:=Ex wp) [12] (by kernel_rfl) ((Ex.refl wp).drew) (fun hHeld=>?_)
     obtain ⟨wd,hwdx⟩:∃ wd:World,wd=World.drew wp:=⟨_,rfl⟩
     rw [← hwdx] at hHeld ⊢
     have hDrew:Ex wp wd:=by rw [hwdx];exact (Ex.refl wp).drew
     clear hwdx
     refine tkL 0 (v:=?_) rfl (by kernel_rfl) (fun _ _ _ h=>h) (by rfl) ?y5 hHeld ?_
     case y5=>intro wq hSw;go_simp<;>rfl
     refine tkL 1 (v:=?_) rfl (by kernel_rfl) (fun _ _ _ h=>h) (by rfl) ?y8 hHeld ?_
     case y8=>intro wq hSw;go_simp<;>rfl
     refine tkL 2 (v:=?_) rfl (by kernel_rfl) (fun _ _ _ h=>h) (by rfl) ?y11 hHeld ?_
     case y11=>intro wq hSw;go_simp<;>rfl
     refine tkL 3 (v:=?_) rfl (by kernel_rfl) (fun _ _ _ h=>h) (by rfl) ?y14 hHeld ?_
     case y14=>intro wq hSw;go_simp<;>rfl
     refine tkL 4 (v:=?_) rfl (by kernel_rfl) (fun _ _ _ h=>h) (by rfl) ?y17 hHeld ?_
     case y17=>intro wq hSw;go_simp<;>rfl
     refine tkL 5 (v:=?_) rfl (by kernel_rfl) (fun _ _ _ h=>h) (by rfl) ?y20 hHeld ?_
     case y20=>intro wq hSw;(have cq:=X0.out wq hSw;go_simp)<;>rfl
     refine tkL 6 (v:=?_) rfl (by kernel_rfl) (fun _ _ _ h=>h) (by rfl) ?y23 hHeld ?_
     case y23=>intro wq hSw;go_simp<;>rfl
     refine tkL 7 (v:=?_) rfl (by kernel_rfl) (fun _ _ _ h=>h) (by rfl) ?y26 hHeld ?_
     case y26=>intro wq hSw;go_simp<;>rfl
     refine tkL 8 (v:=?_) rfl (by kernel_rfl) (fun _ _ _ h=>h) (by rfl) ?y29 hHeld ?_
     case y29=>intro wq hSw;go_simp<;>rfl
     refine tkL 9 (v:=?_) rfl (by kernel_rfl) (fun _ _ _ h=>h) (by rfl) ?y32 hHeld ?_
     case y32=>intro wq hSw;(have cq:=F0.out wq hSw;go_simp)<;>rfl
     refine tkL 10 (v:=?_) rfl (by kernel_rfl) (fun _ _ _ h=>h) (by rfl) ?y35 hHeld ?_
     case y35=>intro wq hSw;go_simp<;>rfl
     refine rL 11 (by kernel_rfl) rfl fun K hK=>?_
     go_simp
     obtain ⟨g8,wz,hg8,hwz,SZ,kk⟩:=litP2 hHeld x.id id
     rw [← hg8,← hwz]
     clear hg8 hwz
     replace hHeld:=hHeld.nx kk
     clear kk
     refine hK.out _ _ (hHeld) (fun hHeld=>?_)
     clear hK K
     refine rLL 12 (by kernel_rfl) rfl (by rfl) fun K hK=>?_
     rw [if_pos (by rfl)]
     have own7:=OWN.out.nx hHeld
     have zc:=Nat.le_trans zb hHeld.size
     refine wp_append_W (enc:=encP2) _ (.tmp 30) (.tmp 41) 165 rfl w.heap.size 164 (.agg #[.int .i64 0,.int .i64 0]) 2 16 Tryz.underlying165 Tryz.infoP2 rfl (by omega) (by omega) _ _ own7 rfl _ 1 1 [(x.id,id)] SZ (fun _=>rfl) encP2_one rfl hl7 (by omega) zc ?_
     intro v6 w9 own9 ch0 ch1 hv
     have RR:=lH (show PbRel x.id L E w.heap.size w6.heap.size w7 v6 (.int .i64 ((k:Int)+1)) w9 from ⟨k+1,by omega,by go_num,by rw [LS.out,← List.append_assoc];exact own9,(AC.out.nx hHeld).step (fun g hg=>(own7.blk hg).1) ch0 hv⟩)
     clear own7 own9 ch0 hv SZ hHeld
     refine hK.out _ _ ?_
     clear hK K
     refine wpAnyL_takeP (i:=13) (oi:=⟨_,_,_,_,_,_⟩) (v:=?_) rfl (by kernel_rfl) (by kernel_rfl) (by kernel_rfl) (fun _ _ _ h=>h) (Or.inl ⟨by rfl,?y61⟩) ?_
     case y61=>intro wq hSw;go_simp<;>rfl
     refine wpAnyL_done (by kernel_rfl) ?_ _
     go_wp2_with fail
     exact ⟨RR.out,by simp [intOf];omega⟩
    ·obtain rfl:k=L.length:=by omega
     rw [List.take_of_length_le (Nat.le_refl _),← SN.out] at own
     have RR:=lH (show PaRel N P w u5 (.int .i64 ((j:Int)+1)) wp from ⟨j+1,by have:=HL.out;omega,by go_num,own,ac.ex (KW.out.nx K7.out)⟩)
     clear own ac
     go_wp2_with fail
     exact ⟨RR.out,by simp [intOf];omega⟩
  ·have hjN:j=N.length:=by have:=HL.out;omega
   have hjn:j=n:=by have:=HL.out;omega
   rw [hjN,prsU_all] at own
   have OW:=lH own
   have K1:=lH kw
   clear own kw hj hjN hjn
   go_wp2_with fail
   go_ret
   exact ⟨_,rfl,OW.out,K1.out⟩
def idxL (l:List Int) (v:Int):Int:=match l.findIdx? (·==v) with | some i=>i | none=>-1
def IxRel (l:List Int) (v:Int) (n:Nat) (w:World) (i:Value) (wr:World):Prop :=
 ∃ k:Nat,k≤n∧i=.int .i64 k∧Ex w wr∧∀ j z,j<k→l[j]?=some z→z≠v
theorem idxL_at {l:List Int} {v:Int} {k:Nat} (hk:l[k]?=some v) (hno:∀ j z,j<k→l[j]?=some z→z≠v):idxL l v=k:=by
 obtain ⟨hlt,he⟩:=List.getElem?_eq_some_iff.1 hk
 have:l.findIdx? (·==v)=some k:=by
  rw [List.findIdx?_eq_some_iff_getElem]
  refine ⟨hlt,by simp [he],fun j hj=>?_⟩
  have:=hno j (l[j]) hj (List.getElem?_eq_getElem (by omega))
  simpa using this
 unfold idxL
 rw [this]
theorem idxL_no {l:List Int} {v:Int} (hno:∀ j z,j<l.length→l[j]?=some z→z≠v):idxL l v = -1:=by
 have:l.findIdx? (·==v)=none:=by
  rw [List.findIdx?_eq_none_iff]
  intro x hx
  obtain ⟨j,hj,rfl⟩:=List.getElem_of_mem hx
  simpa using hno j _ hj (List.getElem?_eq_getElem hj)
 unfold idxL
 rw [this]
set_option maxHeartbeats 1000000 in
theorem index7_r (a:Option Addr) (n c:Nat) (l:List Int) (v:Int) (w:World) (h:Sl 1 encI w a n l) (hn:n≤1000000) :
  Calls Tryz.prog 206 #[.slice a n c,.int .i64 v] w fun e w'=>e=.returned (.int .i64 (idxL l v))∧Ex w w':=by
 have HL:=lH h.len
 have hs:=lH h
 clear h
 go_enter Tryz.func206,Tryz.ntmps206
 go_wp2_with fail
 go_loopw [5] (fun i wr=>IxRel l v n w i wr) (fun i _=>n-(intOf i).toNat)
 case atStart=>exact ⟨0,by omega,rfl,Ex.refl _,by omega⟩
 case round =>
  obtain ⟨k,hk,rfl,kw,hno⟩:=hrel
  obtain ⟨wo,rfl⟩:∃ wo:World,wo=wr:=⟨_,rfl⟩
  have HNO:=lH hno
  clear hno
  by_cases hlt:k<n
  ·obtain ⟨x1,o1,y,rfl,hx1,hy,hc1⟩:=(hs.out.nx kw).at hlt
   have e0:wo.cell? ⟨x1,o1+k,none⟩=some (.int .i64 y):=by simpa using hc1 0 _ rfl
   have HY:=lH hy
   clear hc1 hy
   by_cases hv:y=v
   ·have HR:Hid (idxL l v=k):=lH (idxL_at (hv▸HY.out) HNO.out)
    have d1:(y==v)=true:=by simpa using hv
    have K1:=lH kw
    clear hv kw
    go_wp2_with fail
    go_ret
    exact ⟨by rw [HR.out];rfl,K1.out⟩
   ·have d1:(y==v)=false:=by simpa using hv
    have RR:=lH (show IxRel l v n w (.int .i64 ((k:Int)+1)) wo from ⟨k+1,by omega,by go_num,kw,fun j z hj hz=>by
     by_cases hjk:j<k
     ·exact HNO.out j z hjk hz
     ·obtain rfl:j=k:=by omega
      have:=HY.out.symm.trans hz
      rw [← Option.some.inj this]
      exact hv⟩)
    clear hv kw
    go_wp2_with fail
    exact ⟨RR.out,by simp [intOf];omega⟩
  ·obtain rfl:k=n:=by omega
   have HR:Hid (idxL l v = -1):=lH (idxL_no (fun j z hj hz=>HNO.out j z (by have:=HL.out;omega) hz))
   have K1:=lH kw
   clear hk hlt kw
   go_wp2_with fail
   go_ret
   exact ⟨by rw [HR.out];rfl,K1.out⟩
def IsjRel (c:List Nd) (n:Nat) (w:World) (o i:Value) (wr:World):Prop :=
 ∃ k:Nat,k≤n∧i=.int .i64 k∧OwnL 1 encI 3 w.heap.size wr o ((c.take k).map Nd.id)∧Ex w wr
set_option maxRecDepth 100000 in
set_option maxHeartbeats 2000000 in
theorem idsj_r (a:Option Addr) (n c:Nat) (l:List Nd) (w:World) (hs:Sl 3 encN w a n l) (hn:n≤100000) :
  Calls Tryz.prog 205 #[.slice a n c] w (OiPost (l.map Nd.id) w):=by
 have HL:=lH hs.len
 have hll:=hs.len
 have HS:=lH hs
 clear hs
 go_enter Tryz.func205,Tryz.ntmps205
 go_wp2_with fail
 go_loopw [3,4] (fun o i wr=>IsjRel l n w o i wr) (fun _ i _=>n-(intOf i).toNat)
 case atStart=>exact ⟨0,by omega,rfl,OwnL.nil _ _ _ _ _,Ex.refl _⟩
 case round =>
  obtain ⟨j,hj,rfl,own,ki⟩:=hrel
  obtain ⟨wi,rfl⟩:∃ wi:World,wi=wr:=⟨_,rfl⟩
  by_cases hjm:j<n
  ·obtain ⟨x3,o3,y,rfl,hx3,hy,hc3⟩:=(HS.out.nx ki).at hjm
   have e0:wi.cell? ⟨x3,o3+j*3,none⟩=some (.int .i64 y.id):=hc3 0 _ rfl
   have SN:Hid ((l.take (j+1)).map Nd.id=(l.take j).map Nd.id++[y.id]):=lH (by rw [take_snocN l j y hy,List.map_append];rfl)
   have hrl:((l.take j).map Nd.id).length=j:=by rw [List.length_map,List.length_take];omega
   clear hy hc3
   have zb:=ki.size
   generalize (l.take j).map Nd.id=row at own SN hrl
   generalize y.id=yi at SN e0
   go_wp2_with (at_builtin;(refine wpList_append_lit (enc:=encI) wi rfl _ _ 22 rfl w.heap.size 3 (.int .i64 0) 1 8 Tryz.underlying22 Tryz.infoI6 rfl (by omega) (by omega) _ _ own rfl (yi:Int) _ rfl rfl (by simp [encI,Value.oneCell']) _ (by simp) rfl (by omega) (by omega) _ ?_);intro v5 w6 own6 ch0 ch1 hz6)
   refine ⟨⟨j+1,by omega,by go_num,by rw [SN.out];exact own6,Chg.trans ki ch1⟩,by simp [intOf];omega⟩
  ·obtain rfl:j=n:=by omega
   rw [List.take_of_length_le (by omega)] at own
   have own:=lH own
   clear hj hjm
   go_wp2_with fail
   go_ret
   exact ⟨_,rfl,own.out,ki⟩
def encV (v:Value):List Value:=[v]
def encNt (v:Nat):List Value:=[.int .i64 v]
theorem flatV (l:List Value):l.flatMap encV=l:=by
 induction l with
 | nil=>rfl
 | cons x l ih=>rw [List.flatMap_cons,ih];rfl
theorem flatNt (l:List Nat):l.flatMap encNt=l.map fun v:Nat=>Value.int .i64 (v:Int):=by
 induction l with
 | nil=>rfl
 | cons x l ih=>rw [List.flatMap_cons,ih];rfl
theorem labs_of {e base n:Nat} {w:World} {v:Value} {L:List Value} (h:OwnL 1 encV e base w v L) (hl:L.length=n) (hv:∀ i,i<n→L[i]?=some (.int .i64 i)):OwnL 1 encNt e base w v (List.range n):=by
 have:L=(List.range n).map fun i:Nat=>Value.int .i64 (i:Int):=by
  refine List.ext_getElem? fun i=>?_
  by_cases hi:i<n
  ·rw [hv i hi,List.getElem?_map,List.getElem?_range hi];rfl
  ·rw [List.getElem?_eq_none (by omega),List.getElem?_eq_none (by simp;omega)]
 unfold OwnL at h ⊢
 rw [flatV] at h
 rw [flatNt,List.length_range,← this,← hl]
 exact h
theorem make_row (w:World) (n:Nat) (hn:n≤1000):∃ w' L,(Instr.makeSlice 22 (.int .i64 n) (.int .i64 n)).run Tryz.prog w=.ok (.slice (some ⟨w.heap.size,0,none⟩) n n) w'∧OwnL 1 encV 3 w.heap.size w' (.slice (some ⟨w.heap.size,0,none⟩) n n) L∧L.length=n∧Ex w w':=by
 obtain ⟨i,hi,hz0,hz1,hz2⟩:=info_parts Tryz.infoI6
 obtain ⟨w',hrun,hr,hg⟩:=run_makeSlice_full (P:=Tryz.prog) (w:=w) w.heap.size 22 3 i (.int .i64 0) 1 Tryz.underlying22 hi hz0 hz1 .i64 .i64 n (by omega) (by rw [hz2];omega) (by unfold maxLen;omega) (Nat.le_refl _)
 have hl:(madeCells (Value.int .i64 0).cells (n*1)).toList.length=n:=by simp [size_madeCells]
 refine ⟨w',_,hrun,?_,hl,⟨hg.os,hg.tape,hg.output,hg.size,fun k hk=>hg.block k hk (by simp)⟩⟩
 unfold OwnL
 rw [flatV,hl]
 exact hr
def JPost (m:Nat) (w:World) (e:Ending) (w':World):Prop:=∃ a c,e=.returned (.slice a m c)∧Ex w w'
abbrev LabRow (base g n:Nat) (w:World) (L:List Nat):Prop:=OwnL 1 encNt 3 base w (.slice (some ⟨g,0,none⟩) n n) L
def JaRel (n g:Nat) (w:World) (i:Value) (wr:World):Prop :=
 ∃ (k:Nat) (L:List Value),k≤n∧i=.int .i64 k∧OwnL 1 encV 3 w.heap.size wr (.slice (some ⟨g,0,none⟩) n n) L∧L.length=n∧(∀ i,i<k→L[i]?=some (.int .i64 i))∧Ex w wr
def JbRel (ids:List Int) (E:List (Int×Int)) (g n:Nat) (w:World) (i:Value) (wr:World):Prop :=
 ∃ t:Nat,t≤n∧i=.int .i64 t∧LabRow w.heap.size g n wr (Lab.labsL ids E t)∧Ex w wr
def JcRel (ids:List Int) (E:List (Int×Int)) (lab:List Nat) (g n:Nat) (w:World) (i:Value) (wr:World):Prop :=
 ∃ j:Nat,j≤E.length∧i=.int .i64 j∧LabRow w.heap.size g n wr ((E.take j).foldl (Lab.stepL ids) lab)∧Ex w wr
theorem lab_cell {base g n i:Nat} {w:World} {cur:List Nat} (h:LabRow base g n w cur) (hi:i<cur.length):w.cell? ⟨g,i,none⟩=some (.int .i64 (cur.getD i 0:Nat))∧w.frozen? ⟨g,i,none⟩=false:=by
 obtain ⟨s1,s2,_⟩:=own_set1 (sz:=1) (enc:=encNt) (fun _=>rfl) h (List.getElem?_eq_getElem hi) (c:=0) (by omega)
 simp only [Nat.mul_one,Nat.add_zero] at s1 s2
 refine ⟨?_,s2⟩
 rw [s1,List.getD_eq_getElem?_getD,List.getElem?_eq_getElem hi]
 rfl
theorem lab_set {base g n i:Nat} {w:World} {cur:List Nat} (h:LabRow base g n w cur) (hi:i<cur.length) (m:Nat):LabRow base g n (w.setCell ⟨g,i,none⟩ (.int .i64 (m:Nat))) (cur.set i m):=by
 obtain ⟨_,_,s3⟩:=own_set1 (sz:=1) (enc:=encNt) (fun _=>rfl) h (List.getElem?_eq_getElem hi) (c:=0) (by omega)
 simp only [Nat.mul_one,Nat.add_zero] at s3
 exact s3 m _ rfl
theorem fold_len (ids:List Int) (F:List (Int×Int)) (lab:List Nat):(F.foldl (Lab.stepL ids) lab).length=lab.length:=by
 induction F generalizing lab with
 | nil=>rfl
 | cons q F ih =>
  rw [List.foldl_cons,ih]
  unfold Lab.stepL
  split
  ·exact Lab.join_len _ _ _
  ·rfl
theorem labs_len (ids:List Int) (E:List (Int×Int)) (t:Nat):(Lab.labsL ids E t).length=ids.length:=by
 induction t with
 | zero=>simp [Lab.labsL]
 | succ t ih=>exact (fold_len ids E _).trans ih
theorem idxL_some {l:List Int} {v:Int} {i:Nat} (h:l.findIdx? (·==v)=some i):idxL l v=i∧i<l.length:=by
 unfold idxL
 rw [h]
 exact ⟨rfl,(List.findIdx?_eq_some_iff_getElem.1 h).1⟩
theorem idxL_none {l:List Int} {v:Int} (h:l.findIdx? (·==v)=none):idxL l v = -1:=by unfold idxL;rw [h]
def encHd (h:Hdr):List Value:=[h.val]
theorem Tryz.infoSI:(Tryz.prog.info? 22).map (fun i=>(i.zero,i.size,i.bytes))=some (some (.slice none 0 0),1,24):=by kernel_rfl
def cntL (lab:List Nat) (i:Nat):Nat:=((List.range i).filter fun k=>lab.getD k 0==k).length
theorem cntL_succ (lab:List Nat) (i:Nat):cntL lab (i+1)=cntL lab i+if lab.getD i 0=i then 1 else 0:=by
 unfold cntL
 rw [List.range_succ,List.filter_append,List.length_append]
 by_cases h:lab.getD i 0=i
 ·have hb:(lab.getD i 0==i)=true:=by rw [beq_iff_eq];exact h
  rw [if_pos h]
  simp only [List.filter_cons,List.filter_nil,hb]
  rfl
 ·have hb:(lab.getD i 0==i)=false:=by rw [beq_eq_false_iff_ne];exact h
  rw [if_neg h]
  simp only [List.filter_cons,List.filter_nil,hb]
  rfl
theorem cntL_le (lab:List Nat) (i:Nat):cntL lab i≤i:=by
 unfold cntL
 have:=List.length_filter_le (fun k=>lab.getD k 0==k) (List.range i)
 simpa using this
def JdRel (lab:List Nat) (n:Nat) (w:World) (o i:Value) (wr:World):Prop :=
 ∃ (k:Nat) (qs:List Hdr),k≤n∧i=.int .i64 k∧OwnL 1 encHd 22 w.heap.size wr o qs∧qs.length=cntL lab k∧Ex w wr
def JeRel (b:Prop) (k n:Nat) (w:World) (o i:Value) (wr:World):Prop :=
 ∃ (j:Nat) (l:List Int),k≤j∧j≤n∧i=.int .i64 j∧OwnL 1 encI 3 w.heap.size wr o l∧l.length≤j∧(b→k<j→l≠[])∧(¬ b→l=[])∧Ex w wr
set_option maxRecDepth 100000 in
set_option maxHeartbeats 16000000 in
theorem joined_r (a:Option Addr) (n c:Nat) (N:List Nd) (a2:Option Addr) (n2 c2:Nat) (E:List (Int×Int)) (w:World) (h:Sl 3 encN w a n N) (hn:n≤1000) (h2:Sl 2 encP2 w a2 n2 E) (hn2:n2≤1000000) :
  Calls Tryz.prog 159 #[.slice a n c,.slice a2 n2 c2] w (JPost (Lab.partsL (N.map Nd.id) E) w):=by
 have HL:=lH h.len
 have HL2:=lH h2.len
 have EX:=Ex.refl w
 go_enter Tryz.func159,Tryz.ntmps159
 go_wp2_with fail
 (with_reducible refine (idsj_r _ _ _ N _ h (by omega)).mono ?_)
 rintro e w1 ⟨v1,rfl,own,kk⟩
 replace h2:=h2.nx kk
 replace EX:=EX.nx kk
 clear kk
 obtain ⟨aI,cI,rfl,IDS,_,_,_⟩:=own.slf (fun _=>rfl)
 have hIl:(N.map Nd.id).length=n:=by rw [List.length_map];exact HL.out
 rw [hIl] at IDS ⊢
 generalize hids:N.map Nd.id=ids at IDS hIl ⊢
 have HI:=lH hids
 clear hids
 have IL:=lH hIl
 have IDS:=lH IDS.sl
 have H2:=lH h2
 have EXH:=lH EX
 clear own h h2 EX hIl
 obtain ⟨w2,L0,hmk,row,hrl,k2⟩:=make_row w1 n hn
 obtain ⟨g,hg⟩:∃ g,g=w1.heap.size:=⟨_,rfl⟩
 rw [← hg] at hmk row
 have HG:=lH hg
 have zg:w1.heap.size≤g:=by omega
 have ROW:=lH row
 have K2:=lH k2
 have HR:=lH hrl
 clear hg row k2 hrl
 go_wp2_with fail
 clear hmk
 go_loopw [7] (fun i wr=>JaRel n g w1 i wr) (fun i _=>n-(intOf i).toNat)
 case atStart=>exact ⟨0,L0,Nat.zero_le _,rfl,by rw [HG.out];rw [HG.out] at ROW;exact ROW.out,HR.out,fun i hi=>absurd hi (Nat.not_lt_zero _),K2.out⟩
 case round =>
  clear ROW K2 HR
  obtain ⟨k,L,hk,rfl,row,hL,hLv,kw⟩:=hrel
  obtain ⟨wo,rfl⟩:∃ wo:World,wo=wr:=⟨_,rfl⟩
  have HLL:=lH hL
  have HLV:=lH hLv
  have KW:=lH kw
  clear hL hLv kw
  by_cases hlt:k<n
  ·have hy:L[k]?=some (L[k]'(by have:=HLL.out;omega)):=List.getElem?_eq_getElem _
   obtain ⟨s1,s2,s3⟩:=own_set1 (sz:=1) (enc:=encV) (fun _=>rfl) row hy (c:=0) (by omega)
   simp only [Nat.mul_one,Nat.add_zero] at s1 s2 s3
   generalize L[k]'(by have:=HLL.out;omega)=y at hy s1 s3
   have s1:wo.cell? ⟨g,k,none⟩=some y:=s1
   have RR:=lH (show JaRel n g w1 (.int .i64 ((k:Int)+1)) (wo.setCell ⟨g,k,none⟩ (.int .i64 k)) from ⟨k+1,L.set k (.int .i64 k),by omega,by go_num,s3 _ _ rfl,by rw [List.length_set];exact HLL.out,fun i hi=>by
    by_cases hik:i=k
    ·subst hik
     exact List.getElem?_set_self (by have:=HLL.out;omega)
    ·rw [List.getElem?_set_ne (fun h=>hik h.symm)]
     exact HLV.out i (by omega),KW.out.setNew _ zg⟩)
   clear row s3 hy
   go_wp2_with fail
   exact ⟨RR.out,by simp [intOf];omega⟩
  ·obtain rfl:n=k:=by omega
   have LR:=lH (labs_of row HLL.out (fun i hi=>HLV.out i hi))
   clear row hk hlt HLV HLL
   go_wp2_with fail
   go_loopw [8] (fun i wr=>JbRel ids E g n w1 i wr) (fun i _=>n-(intOf i).toNat)
   case atStart=>exact ⟨0,Nat.zero_le _,rfl,by show LabRow _ _ _ _ (List.range ids.length);rw [IL.out];exact LR.out,KW.out⟩
   case round =>
    clear LR KW
    obtain ⟨t,ht,rfl,row,kw⟩:=hrel
    obtain ⟨wt,rfl⟩:∃ wt:World,wt=wr:=⟨_,rfl⟩
    have KW:=lH kw
    clear kw
    by_cases htt:t<n
    ·have LL:=lH ((labs_len ids E t).trans IL.out)
     have LS:Hid (Lab.labsL ids E (t+1)=E.foldl (Lab.stepL ids) (Lab.labsL ids E t)):=lH rfl
     generalize Lab.labsL ids E t=lab at row LL LS
     have ROW:=lH row
     clear row
     go_wp2_with fail
     go_loopw [9] (fun i wr=>JcRel ids E lab g n w1 i wr) (fun i _=>E.length-(intOf i).toNat)
     case atStart=>exact ⟨0,Nat.zero_le _,rfl,ROW.out,KW.out⟩
     case round =>
      clear ROW KW
      obtain ⟨j,hj,rfl,row,kv⟩:=hrel
      obtain ⟨wp,rfl⟩:∃ wp:World,wp=wr:=⟨_,rfl⟩
      have KV:=lH kv
      have ROW:=lH row
      clear kv row
      by_cases hjl:j<n2
      ·obtain ⟨xe,oe,q,rfl,hxe,hq,hce⟩:=(H2.out.nx KV.out).at hjl
       have f0:wp.cell? ⟨xe,oe+j*2,none⟩=some (.int .i64 q.1):=by simpa using hce 0 _ rfl
       have f1:wp.cell? ⟨xe,oe+j*2+1,none⟩=some (.int .i64 q.2):=by simpa using hce 1 _ rfl
       have F0:=lH (fun wq (k:Ex wp wq)=>Chg.cellv k f0 hxe)
       have F1:=lH (fun wq (k:Ex wp wq)=>Chg.cellv k f1 hxe)
       have SN:Hid ((E.take (j+1)).foldl (Lab.stepL ids) lab=Lab.stepL ids ((E.take j).foldl (Lab.stepL ids) lab) q):=lH (by
        rw [List.take_add_one,hq,List.foldl_append];rfl)
       have CL:=lH ((fold_len ids (E.take j) lab).trans LL.out)
       have hjE:j+1≤E.length:=by have:=HL2.out;omega
       generalize (E.take j).foldl (Lab.stepL ids) lab=cur at ROW SN CL
       clear hce hq f0 f1 hxe
       go_upto_region 13 with fail
       refine wp_region_held_drew (S:=Ex wp) (by kernel_rfl) ((Ex.refl wp).drew) (fun hHeld=>?_)
       obtain ⟨wd,hwdx⟩:∃ wd:World,wd=World.drew wp:=⟨_,rfl⟩
       rw [← hwdx] at hHeld ⊢
       have hDrew:Ex wp wd:=by rw [hwdx];exact (Ex.refl wp).drew
       clear hwdx
       refine tkH 0 (v:=?_) rfl (by kernel_rfl) (fun _ _ _ h=>h) (by rfl) ?y5 hHeld ?_
       case y5=>intro wq hSw;go_simp<;>rfl
       refine tkH 1 (v:=?_) rfl (by kernel_rfl) (fun _ _ _ h=>h) (by rfl) ?y8 hHeld ?_
       case y8=>intro wq hSw;go_simp<;>rfl
       refine tkH 2 (v:=?_) rfl (by kernel_rfl) (fun _ _ _ h=>h) (by rfl) ?y11 hHeld ?_
       case y11=>intro wq hSw;go_simp<;>rfl
       refine tkH 3 (v:=?_) rfl (by kernel_rfl) (fun _ _ _ h=>h) (by rfl) ?y14 hHeld ?_
       case y14=>intro wq hSw;go_simp<;>rfl
       refine tkH 4 (v:=?_) rfl (by kernel_rfl) (fun _ _ _ h=>h) (by rfl) ?y17 hHeld ?_
       case y17=>intro wq hSw;go_simp<;>rfl
       refine tkH 5 (v:=?_) rfl (by kernel_rfl) (fun _ _ _ h=>h) (by rfl) ?y20 hHeld ?_
       case y20=>intro wq hSw;(have cq:=F0.out wq hSw;go_simp)<;>rfl
       refine tkH 7 (v:=?_) rfl (by kernel_rfl) (fun _ _ _ h=>h) (by rfl) ?y23 hHeld ?_
       case y23=>intro wq hSw;go_simp<;>rfl
       refine tkH 8 (v:=?_) rfl (by kernel_rfl) (fun _ _ _ h=>h) (by rfl) ?y26 hHeld ?_
       case y26=>intro wq hSw;go_simp<;>rfl
       refine tkH 9 (v:=?_) rfl (by kernel_rfl) (fun _ _ _ h=>h) (by rfl) ?y29 hHeld ?_
       case y29=>intro wq hSw;go_simp<;>rfl
       refine tkH 10 (v:=?_) rfl (by kernel_rfl) (fun _ _ _ h=>h) (by rfl) ?y32 hHeld ?_
       case y32=>intro wq hSw;go_simp<;>rfl
       refine tkH 11 (v:=?_) rfl (by kernel_rfl) (fun _ _ _ h=>h) (by rfl) ?y35 hHeld ?_
       case y35=>intro wq hSw;go_simp<;>rfl
       refine tkH 12 (v:=?_) rfl (by kernel_rfl) (fun _ _ _ h=>h) (by rfl) ?y38 hHeld ?_
       case y38=>intro wq hSw;(have cq:=F1.out wq hSw;go_simp)<;>rfl
       refine rH 6 (by kernel_rfl) rfl fun K hK=>?_
       go_simp
       (with_reducible refine (index7_r _ _ _ ids q.1 _ (IDS.out.nx (KV.out.nx hHeld)) (by omega)).mono ?_)
       rintro e wb ⟨rfl,kk⟩
       replace hHeld:=hHeld.nx kk
       clear kk
       refine hK.out _ _ (hHeld) (fun hHeld=>?_)
       clear hK K
       refine rH 13 (by kernel_rfl) rfl fun K hK=>?_
       go_simp
       (with_reducible refine (index7_r _ _ _ ids q.2 _ (IDS.out.nx (KV.out.nx hHeld)) (by omega)).mono ?_)
       rintro e wc ⟨rfl,kk⟩
       replace hHeld:=hHeld.nx kk
       clear kk
       refine hK.out _ _ (hHeld) (fun hHeld=>?_)
       clear hK K
       refine tkH 14 (v:=?_) rfl (by kernel_rfl) (fun _ _ _ h=>h) (by rfl) ?y61 hHeld ?_
       case y61=>intro wq hSw;go_simp<;>rfl
       refine tkH 15 (v:=?_) rfl (by kernel_rfl) (fun _ _ _ h=>h) (by rfl) ?y64 hHeld ?_
       case y64=>intro wq hSw;go_simp<;>rfl
       refine wpAnyH_done (by kernel_rfl) ?_ _
       have KC:=lH (KV.out.nx hHeld)
       have RC:=lH (ROW.out.nx hHeld)
       clear hHeld hDrew ROW
       cases e1:ids.findIdx? (·==q.1) with
       | none =>
        rw [idxL_none e1]
        have RR:=lH (show JcRel ids E lab g n w1 (.int .i64 ((j:Int)+1)) wc from ⟨j+1,hjE,by go_num,by rw [SN.out,show Lab.stepL ids cur q=cur by unfold Lab.stepL;rw [e1]];exact RC.out,KC.out⟩)
        clear e1
        go_wp2_with fail
        exact ⟨RR.out,by simp [intOf];omega⟩
       | some i1 =>
        obtain ⟨x1,hi1⟩:=idxL_some e1
        rw [x1]
        have hi1n:i1<n:=by have:=IL.out;omega
        cases e2:ids.findIdx? (·==q.2) with
        | none =>
         rw [idxL_none e2]
         have RR:=lH (show JcRel ids E lab g n w1 (.int .i64 ((j:Int)+1)) wc from ⟨j+1,hjE,by go_num,by rw [SN.out,show Lab.stepL ids cur q=cur by unfold Lab.stepL;rw [e1,e2]];exact RC.out,KC.out⟩)
         clear e1 e2 x1 hi1
         go_wp2_with fail
         exact ⟨RR.out,by simp [intOf];omega⟩
        | some i2 =>
         obtain ⟨x2,hi2⟩:=idxL_some e2
         rw [x2]
         have hi2n:i2<n:=by have:=IL.out;omega
         have ST:Hid (Lab.stepL ids cur q=Lab.joinL cur i1 i2):=lH (by unfold Lab.stepL;rw [e1,e2])
         have hc1:i1<cur.length:=by have:=CL.out;omega
         have hc2:i2<cur.length:=by have:=CL.out;omega
         obtain ⟨p1,r1⟩:=lab_cell RC.out hc1
         obtain ⟨p2,r2⟩:=lab_cell RC.out hc2
         have JJ:Hid (Lab.joinL cur i1 i2=(cur.set i1 (min (cur.getD i1 0) (cur.getD i2 0))).set i2 (min (cur.getD i1 0) (cur.getD i2 0))):=lH rfl
         generalize cur.getD i1 0=x at p1 JJ
         generalize cur.getD i2 0=y at p2 JJ
         have hmin:min (x:Int) (y:Int)=((min x y:Nat):Int):=by omega
         generalize min x y=m at hmin JJ
         have RR:=lH (fun d=>show JcRel ids E lab g n w1 (.int .i64 ((j:Int)+1)) (((wc.drewN d).setCell ⟨g,i1,none⟩ (.int .i64 (m:Nat))).setCell ⟨g,i2,none⟩ (.int .i64 (m:Nat))) from ⟨j+1,hjE,by go_num,by
          rw [SN.out,ST.out,JJ.out]
          exact lab_set (lab_set (OwnL.nx RC.out ((Ex.refl wc).drewN d)) hc1 m) (by rw [List.length_set];exact hc2) m,((KC.out.drewN d).setNew _ zg).setNew _ zg⟩)
         have q3:=fun d=>lab_cell (lab_set (OwnL.nx RC.out ((Ex.refl wc).drewN d)) hc1 m) (i:=i2) (by rw [List.length_set];exact hc2)
         have p3:=fun d=>(q3 d).1
         have r3:=fun d=>(q3 d).2
         clear e1 e2 x1 x2 hi1 hi2 hc1 hc2 ST SN RC JJ q3
         go_wp2_with fail
         go_quiet (fail)
         go_wp2_with fail
         exact ⟨RR.out _,by simp [intOf];omega⟩
      ·have hjE:j=E.length:=by have:=HL2.out;omega
       have RR:=lH (show JbRel ids E g n w1 (.int .i64 ((t:Int)+1)) wp from ⟨t+1,by omega,by go_num,by rw [LS.out];have h:=ROW.out;rw [hjE,List.take_of_length_le (Nat.le_refl _)] at h;exact h,KV.out⟩)
       clear hj hjE ROW
       go_wp2_with fail
       exact ⟨RR.out,by simp [intOf];omega⟩
    ·obtain rfl:n=t:=by omega
     have PT:Hid (Lab.partsL ids E=((List.range n).filter fun i=>(Lab.labsL ids E n).getD i 0==i).length):=lH (by unfold Lab.partsL;rw [IL.out])
     have LL:=lH ((labs_len ids E n).trans IL.out)
     generalize Lab.labsL ids E n=lab at row PT LL
     have ROW:=lH row
     clear row ht htt
     go_wp2_with fail
     go_loopw [13,14] (fun o i wr=>JdRel lab n wt o i wr) (fun _ i _=>n-(intOf i).toNat)
     case atStart=>exact ⟨0,[],Nat.zero_le _,rfl,OwnL.nil _ _ _ _ _,rfl,Ex.refl _⟩
     case round =>
      obtain ⟨k,qs,hk,rfl,own,hq,kv⟩:=hrel
      obtain ⟨wo,rfl⟩:∃ wo:World,wo=wr:=⟨_,rfl⟩
      have OWN:=lH own
      have HQ:=lH hq
      have KV:=lH kv
      have hql:qs.length≤1000:=by have:=cntL_le lab k;omega
      have hzv:=kv.size
      clear own hq kv
      by_cases hkn:k<n
      ·have CS:=lH (cntL_succ lab k)
       have hkl:k<lab.length:=by have:=LL.out;omega
       have RO:=lH (OwnL.nx ROW.out KV.out)
       go_wp2_with fail
       go_loopw [15,16] (fun o i wr=>JeRel (lab.getD k 0=k) k n wo o i wr) (fun _ i _=>n-(intOf i).toNat)
       case atStart=>exact ⟨k,[],Nat.le_refl _,hk,rfl,OwnL.nil _ _ _ _ _,Nat.zero_le _,fun _ h=>absurd h (Nat.lt_irrefl _),fun _=>rfl,Ex.refl _⟩
       case round =>
        obtain ⟨j,l,hkj,hjn,rfl,own,hll,hl1,hl2,kx⟩:=hrel
        obtain ⟨wp,rfl⟩:∃ wp:World,wp=wr:=⟨_,rfl⟩
        have RP:=lH (OwnL.nx RO.out kx)
        have OWL:=lH own
        have L1:=lH hl1
        have L2:=lH hl2
        have KX:=lH kx
        have zx:=kx.size
        obtain ⟨p1,r1⟩:=lab_cell RP.out hkl
        clear own hl1 hl2 kx
        by_cases hb:lab.getD k 0=k
        ·replace p1:wp.cell? ⟨g,k,none⟩=some (.int .i64 (k:Nat)):=by rw [hb] at p1;exact p1
         by_cases hjl:j<n
         ·obtain ⟨p2,r2⟩:=lab_cell RP.out (i:=j) (by have:=LL.out;omega)
          obtain ⟨xi,oi,v,rfl,hxi,hv,hci⟩:=(IDS.out.nx (KW.out.nx (KV.out.nx KX.out))).at hjl
          have f0:wp.cell? ⟨xi,oi+j,none⟩=some (.int .i64 v):=by simpa using hci 0 _ rfl
          clear hv hci
          have B0:=lH hb
          clear hb
          by_cases hx:lab.getD j 0=k
          ·replace p2:wp.cell? ⟨g,j,none⟩=some (.int .i64 (k:Nat)):=by rw [hx] at p2;exact p2
           have own:=OWL.out
           clear hx
           go_wp2_with (at_builtin;(refine wpList_append_lit (enc:=encI) wp rfl _ _ 22 rfl wo.heap.size 3 (.int .i64 0) 1 8 Tryz.underlying22 Tryz.infoI6 rfl (by omega) (by omega) _ _ own rfl (v:Int) _ rfl rfl (by simp [encI,Value.oneCell']) _ (by simp) rfl (by omega) (by omega) _ ?_);intro v5 w6 own6 ch0 ch1 hz6)
           refine ⟨⟨j+1,l++[v],by omega,by omega,by go_num,own6,by simp;omega,fun _ _=>by simp,fun h=>absurd B0.out h,Chg.trans KX.out ch1⟩,by simp [intOf];omega⟩
          ·have d2:(((lab.getD j 0:Nat):Int)==(k:Int))=false:=by rw [beq_eq_false_iff_ne];omega
           have hkj':k<j:=by
            rcases Nat.lt_or_ge k j with h | h
            ·exact h
            ·obtain rfl:k=j:=by omega
             exact absurd B0.out hx
           have RR:=lH (show JeRel (lab.getD k 0=k) k n wo u15 (.int .i64 ((j:Int)+1)) wp from ⟨j+1,l,by omega,by omega,by go_num,OWL.out,by omega,fun h _=>L1.out h hkj',L2.out,KX.out⟩)
           generalize lab.getD j 0=xj at p2 d2
           clear hx
           go_wp2_with fail
           exact ⟨RR.out,by simp [intOf];omega⟩
         ·obtain rfl:n=j:=by omega
          have hne:=L1.out hb hkn
          obtain ⟨A,C,rfl,_,_,_,_⟩:=OWL.out.slf (fun _=>rfl)
          have hpos:0<l.length:=List.length_pos_iff.2 hne
          have ownO:=OwnL.nx OWN.out KX.out
          have CS1:Hid (cntL lab (k+1)=cntL lab k+1):=lH (by rw [CS.out,if_pos hb])
          clear hb hne
          go_wp2_with (at_builtin;(refine wpList_append_lit (enc:=encHd) wp rfl _ _ 192 rfl wt.heap.size 22 (.slice none 0 0) 1 24 Tryz.underlying192 Tryz.infoSI rfl (by omega) (by omega) _ _ ownO rfl ((A,l.length,C):Hdr) _ rfl rfl (by simp [encHd,Hdr.val,Value.oneCell']) _ (by simp) rfl (by omega) (by omega) _ ?_);intro v5 w6 own6 ch0 ch1 hz6)
          refine ⟨⟨k+1,qs++[(A,l.length,C)],by omega,by go_num,own6,by rw [CS1.out,List.length_append,HQ.out];rfl,Chg.trans (KV.out.nx KX.out) ch1⟩,by simp [intOf];omega⟩
        ·have hl0:=L2.out hb
         have CS0:Hid (cntL lab (k+1)=cntL lab k):=lH (by rw [CS.out,if_neg hb];rfl)
         have RR:=lH (show JdRel lab n wt u13 (.int .i64 ((k:Int)+1)) wp from ⟨k+1,qs,by omega,by go_num,OwnL.nx OWN.out KX.out,by rw [CS0.out];exact HQ.out,KV.out.nx KX.out⟩)
         have d1:(((lab.getD k 0:Nat):Int)==(k:Int))=false:=by rw [beq_eq_false_iff_ne];omega
         subst hl0
         obtain ⟨A,C,rfl,_,_,_,_⟩:=OWL.out.slf (fun _=>rfl)
         generalize lab.getD k 0=xk at p1 d1
         clear hb
         by_cases hjl:j<n
         ·go_wp2_with fail
          exact ⟨RR.out,by simp [intOf];omega⟩
         ·obtain rfl:n=j:=by omega
          go_wp2_with fail
          exact ⟨RR.out,by simp [intOf];omega⟩
      ·obtain rfl:n=k:=by omega
       obtain ⟨A,C,rfl,_,_,_,_⟩:=OWN.out.slf (fun _=>rfl)
       have KE:=lH (EXH.out.nx (KW.out.nx KV.out))
       have HQ2:Hid (Lab.partsL ids E=qs.length):=lH (by rw [PT.out,HQ.out];rfl)
       clear hk hkn
       go_wp2_with fail
       go_ret
       exact ⟨_,_,by first | (rw [HQ2.out];rfl) | (rw [HI.out,HQ2.out];rfl),KE.out⟩
set_option maxRecDepth 100000 in
set_option maxHeartbeats 4000000 in
theorem connected_r (a:Option Addr) (n c:Nat) (N:List Nd) (a2:Option Addr) (n2 c2:Nat) (P:List Pr) (w:World) (h:Sl 3 encN w a n N) (hn:n≤1000) (h2:PL w a2 n2 P) (hn2:n2≤1000000) (hP:∀ p∈P,p.known.length≤2000000∧p.near.length≤2000000) :
  Calls Tryz.prog 86 #[.slice a n c,.slice a2 n2 c2] w fun e w'=>e=.returned (.bool (connB N P))∧Ex w w':=by
 have HL:=lH h.len
 have EX:=Ex.refl w
 go_enter Tryz.func86,Tryz.ntmps86
 go_wp2_with fail
 (with_reducible refine (is_r _ _ _ _ _ h (by omega)).mono ?_)
 rintro e w1 ⟨rfl,kk⟩
 replace h:=h.nx kk
 replace h2:=h2.nx kk
 replace EX:=EX.nx kk
 clear kk
 by_cases hck:checkN N=0
 case neg =>
  have d1:(checkN N==0)=false:=by simpa using hck
  have E0:Hid (connB N P=false):=lH (by unfold connB;rw [d1];rfl)
  have EH:=lH EX
  rw [d1]
  clear h h2 hck EX
  go_wp2_with fail
  go_ret
  exact ⟨by rw [E0.out];rfl,EH.out⟩
 have d1:(checkN N==0)=true:=by simpa using hck
 have E0:Hid (connB N P=decide (Lab.partsL (N.map Nd.id) (pairsN N P)≤1)):=lH (by unfold connB;rw [d1];rfl)
 rw [d1]
 have HC:=lH hck
 clear hck d1
 go_wp2_with fail
 (with_reducible refine (pairs_r _ _ _ N _ _ _ P _ h hn HC.out h2 hn2 hP).mono ?_)
 rintro e w2 ⟨v2,rfl,own,kk⟩
 replace h:=h.nx kk
 replace EX:=EX.nx kk
 clear kk
 obtain ⟨a3,c3,rfl,r3,_,_,_,_⟩:=own.rd (fun _=>rfl)
 have S3:Sl 2 encP2 w2 a3 (pairsN N P).length (pairsN N P):=Rd.mono r3 (fun _ hk=>hk.2)
 have hpl:(pairsN N P).length≤1000000:=by have:=prsU_len HC.out P N.length;rw [prsU_all] at this;omega
 clear own r3 h2
 go_wp2_with fail
 (with_reducible refine (joined_r _ _ _ N _ _ _ (pairsN N P) _ h hn S3 hpl).mono ?_)
 rintro e w3 ⟨aj,cj,rfl,kk⟩
 replace EX:=EX.nx kk
 clear kk
 generalize Lab.partsL (N.map Nd.id) (pairsN N P)=m at E0 ⊢
 have EH:=lH EX
 clear h S3 hpl EX
 have E1:Hid (connB N P=decide ((m:Int)≤1)):=lH (by rw [E0.out,decide_eq_decide];omega)
 clear E0
 go_wp2_with fail
 go_ret
 exact ⟨by rw [E1.out];rfl,EH.out⟩
theorem Tryz.infoIo:(Tryz.prog.info? 242).map (fun i=>(i.zero,i.size,i.bytes))=some (some (.agg #[.int .i64 0,.int .i64 0]),2,16):=by kernel_rfl
theorem clone_in (a:Option Addr) (n c:Nat) (l:List (Int×Int)) (w:World) (h:Sl 2 encS w a n l) (hn:n≤8796093022208) :
  Calls Tryz.prog 155 #[.slice a n c] w fun e w'=>∃ v,e=.returned v∧OwnL 2 encS 242 w.heap.size w' v l∧Ex w w':=by
 have HL:=lH h.len
 cases a with
 | none =>
  have hn0:n=0:=by
   rcases h.2 with h0 | ⟨x,o,e,_⟩
   ·exact h0
   ·cases e
  have hl:l=[]:=List.eq_nil_of_length_eq_zero (HL.out.trans hn0)
  subst hn0 hl
  clear h HL
  have hq:∀ w:World,(binOp .eql 54 (.slice none 0 c) (.slice none 0 0)).run Tryz.prog w=.ok (.bool true) w:=fun w=>Lib.run_eql_slice_nil w 54 242 none 0 c 0 0 Tryz.underlying54
  go_enter Tryz.func155,Tryz.ntmps155
  go_wp2
  go_ret
  exact ⟨_,rfl,OwnL.nil _ _ _ _ _,Ex.refl _⟩
 | some A =>
  have q0:=Ex.new w (.cells #[] 242)
  have h0:=h.nx q0
  have own0:OwnL 2 encS 242 w.heap.size (w.alloc (.cells #[] 242)) (.slice (some ⟨w.heap.size,0,none⟩) 0 0) []:=OwnL.empty (Nat.le_refl _) rfl
  clear h
  have hq:∀ w:World,(binOp .eql 54 (.slice (some A) n c) (.slice none 0 0)).run Tryz.prog w=.ok (.bool false) w:=fun w=>Lib.run_eql_slice_nil w 54 242 (some A) n c 0 0 Tryz.underlying54
  go_enter Tryz.func155,Tryz.ntmps155
  go_wp2_with (at_builtin;(refine wpList_append_rqW (enc:=encS) _ rfl _ _ 54 rfl w.heap.size 242 (.agg #[.int .i64 0,.int .i64 0]) 2 16 Tryz.underlying54 Tryz.infoIo rfl (by omega) (by omega) _ [] own0 rfl (some A) n c l h0 (fun _=>rfl) (by simp [encS,Value.oneCell']) rfl (by omega) (by simp;omega) (by simp) ?_);intro v1 w1 own1 hch0 hch1)
  go_ret
  exact ⟨_,rfl,by simpa using own1,Chg.trans q0 hch1⟩
def FlOwn (base:Nat) (w:World) (v m:Value) (qs:List PQ) (F:Fl):Prop:=OwnPr base w v qs F.peers∧OwnL 2 encS 242 base w m F.msgs
def FlPost (F:Fl) (w:World) (e:Ending) (w':World):Prop:=∃ (v m:Value) (qs:List PQ),e=.returned (.agg #[v,m])∧FlOwn w.heap.size w' v m qs F∧Ex w w'
theorem FlOwn.nx {base:Nat} {w w':World} {v m:Value} {qs:List PQ} {F:Fl} (h:FlOwn base w v m qs F) (k:Ex w w'):FlOwn base w' v m qs F:=⟨h.1.nx k,h.2.nx k⟩
theorem FlOwn.nxb {base b:Nat} {w w':World} {v m:Value} {qs:List PQ} {F:Fl} (h:FlOwn base w v m qs F) (hb:b<base) (k:Exb b w w'):FlOwn base w' v m qs F:=⟨h.1.nxb hb k,h.2.nxb hb k⟩
theorem FlOwn.lower {base base':Nat} {w:World} {v m:Value} {qs:List PQ} {F:Fl} (h:FlOwn base w v m qs F) (hb:base'≤base):FlOwn base' w v m qs F:=⟨h.1.lower hb,h.2.base hb⟩
theorem FlOwn.nil (base:Nat) (w:World):FlOwn base w (.slice none 0 0) (.slice none 0 0) [] ⟨[],[]⟩:=⟨OwnP.nil _ _ _ _ _,OwnL.nil _ _ _ _ _⟩
theorem cop_no {N:List Nd} {f:Fl} (h:¬ checkN N=0):copF N f=⟨[],[]⟩:=by unfold copF;rw [if_neg h]
theorem cop_yes {N:List Nd} {f:Fl} (h:checkN N=0):copF N f=⟨normalN N f.peers,f.msgs⟩:=by unfold copF;rw [if_pos h]
set_option maxRecDepth 100000 in
set_option maxHeartbeats 8000000 in
theorem normal_f (a:Option Addr) (n c:Nat) (N:List Nd) (a2:Option Addr) (n2 c2:Nat) (P:List Pr) (a3:Option Addr) (n3 c3:Nat) (M:List (Int×Int)) (w:World) (h:Sl 3 encN w a n N) (hn:n≤1000) (hc:n≤c) (hm:c≤maxLen) (h2:PL w a2 n2 P) (hn2:n2≤4000000000000000000) (hP:SmallP P)
  (h3:Sl 2 encS w a3 n3 M) (hn3:n3≤8796093022208) :
  Calls Tryz.prog 148 #[.slice a n c,.agg #[.slice a2 n2 c2,.slice a3 n3 c3]] w (FlPost (copF N ⟨P,M⟩) w):=by
 have SM:=lH hP
 have CY:=lH (fun hh=>cop_yes (N:=N) (f:=⟨P,M⟩) hh)
 have CN:=lH (fun hh=>cop_no (N:=N) (f:=⟨P,M⟩) hh)
 obtain ⟨g3,hg3⟩:∃ g3,g3=w.heap.size:=⟨_,rfl⟩
 obtain ⟨g4,hg4⟩:∃ g4,g4=(w.heap.size+1):=⟨_,rfl⟩
 obtain ⟨w1,hw1⟩:∃ w1,w1=((w.alloc (.cells #[.slice a2 n2 c2,.slice a3 n3 c3] 56)).alloc (.cells #[.slice none 0 0,.slice none 0 0] 56)):=⟨_,rfl⟩
 have kk:Ex w w1:=by rw [hw1];exact (((Ex.refl w).alloc (.cells #[.slice a2 n2 c2,.slice a3 n3 c3] 56)).alloc (.cells #[.slice none 0 0,.slice none 0 0] 56))
 have B3:Blk w1 g3 [.slice a2 n2 c2,.slice a3 n3 c3] 56:=by rw [hw1];simp only [hg3,hg4];have hbk:=((Blk.new w [.slice a2 n2 c2,.slice a3 n3 c3] 56).nx (Ex.new _ (.cells #[.slice none 0 0,.slice none 0 0] 56)));simpa using hbk
 have B4:Blk w1 g4 [.slice none 0 0,.slice none 0 0] 56:=by rw [hw1];simp only [hg3,hg4];have hbk:=(Blk.new (w.alloc (.cells #[.slice a2 n2 c2,.slice a3 n3 c3] 56)) [.slice none 0 0,.slice none 0 0] 56);simpa using hbk
 have Hw1:=lH hw1
 have Hg3:=lH hg3
 have Hg4:=lH hg4
 replace h:=h.nx kk
 replace h2:=h2.nx kk
 replace h3:=h3.nx kk
 have zg4:w.heap.size≤g4:=by omega
 have K1:=lH kk
 clear kk hw1 hg3 hg4 hP
 go_enter Tryz.func148,Tryz.ntmps148
 go_upto_region 1 with fail
 rw [← Hw1.out,← Hg4.out,← Hg3.out]
 clear Hw1 Hg4 Hg3
 go_wp2_with fail
 (with_reducible refine (check_p _ _ _ _ _ h (by omega) hc hm).mono ?_)
 rintro e w2 ⟨rfl,kk⟩
 replace h:=h.nx kk
 replace h2:=h2.nx kk
 replace h3:=h3.nx kk
 replace B3:=B3.nx kk
 replace B4:=B4.nx kk
 have K2:=lH (K1.out.nx kk)
 clear kk
 by_cases hck:checkN N=0
 case neg =>
  have d1:(checkN N != 0)=true:=by simpa using hck
  have E0:=lH (CN.out hck)
  have r0:=B4.cell 0 _ rfl
  have r1:=B4.cell 1 _ rfl
  have f0:=B4.free 0
  have f1:=B4.free 1
  have KE:=lH ((K2.out.setNew (p:=⟨g4,0,none⟩) (.slice none 0 0) zg4).setNew (p:=⟨g4,1,none⟩) (.slice none 0 0) zg4)
  clear h h2 h3 B3 B4 hck CY CN
  go_wp2_with fail
  refine bodyPost_ret (v:=.agg #[.slice none 0 0,.slice none 0 0]) (by simp [results,Tryz.results148,go_sem, *]) rfl ⟨_,_,[],rfl,by rw [E0.out];exact FlOwn.nil _ _,KE.out⟩
 have d1:(checkN N != 0)=false:=by simpa using hck
 have E0:=lH (CY.out hck)
 have HS:=lH h
 have H2:=lH h2
 have H3:=lH h3
 have BB3:=lH B3
 have BB4:=lH B4
 have hb4:=B4.lt
 have zw2:=K2.out.size
 clear h h2 h3 B3 B4 hck CY CN
 go_upto_region 3 with fail
 refine wp_region_late_drew (S:=Ex w2) [8] (by kernel_rfl) ((Ex.refl w2).drew) (fun hHeld=>?_)
 obtain ⟨wd,hwdx⟩:∃ wd:World,wd=World.drew w2:=⟨_,rfl⟩
 rw [← hwdx] at hHeld ⊢
 have hDrew:Ex w2 wd:=by rw [hwdx];exact (Ex.refl w2).drew
 clear hwdx
 refine tkL 0 (v:=?_) rfl (by kernel_rfl) (fun _ _ _ h=>h) (by rfl) ?y5 hHeld ?_
 case y5=>intro wq hSw;go_simp<;>rfl
 refine tkL 1 (v:=?_) rfl (by kernel_rfl) (fun _ _ _ h=>h) (by rfl) ?y8 hHeld ?_
 case y8=>intro wq hSw;go_simp<;>rfl
 refine tkL 2 (v:=?_) rfl (by kernel_rfl) (fun _ _ _ h=>h) (by rfl) ?y11 hHeld ?_
 case y11=>intro wq hSw;(have cq:=(BB3.out.nx hSw).cell 0 _ rfl;go_simp)<;>rfl
 refine tkL 4 (v:=?_) rfl (by kernel_rfl) (fun _ _ _ h=>h) (by rfl) ?y14 hHeld ?_
 case y14=>intro wq hSw;go_simp<;>rfl
 refine tkL 5 (v:=?_) rfl (by kernel_rfl) (fun _ _ _ h=>h) (by rfl) ?y17 hHeld ?_
 case y17=>intro wq hSw;(have cq:=(BB3.out.nx hSw).cell 1 _ rfl;go_simp)<;>rfl
 refine rL 3 (by kernel_rfl) rfl fun K hK=>?_
 go_simp
 (with_reducible refine (normal_p _ _ _ N _ _ _ P _ (HS.out.nx hHeld) hn hc hm (H2.out.nx hHeld) hn2 SM.out).mono ?_)
 rintro e wc ⟨vP,qs,rfl,oP,kk⟩
 (try replace oM:=oM.nx kk)
 obtain ⟨aP,cP,rfl,_,_,_,_,_⟩:=oP.pl
 replace oP:=oP.lower hHeld.size
 replace hHeld:=hHeld.nx kk
 clear kk
 refine hK.out _ _ (hHeld) (fun hHeld=>?_)
 clear hK K
 refine rL 6 (by kernel_rfl) rfl fun K hK=>?_
 go_simp
 (with_reducible refine (clone_in _ _ _ M _ (H3.out.nx hHeld) hn3).mono ?_)
 rintro e wc ⟨vM,rfl,oM,kk⟩
 (try replace oP:=oP.nx kk)
 obtain ⟨aM,cM,rfl,_⟩:=oM.rd (fun _=>rfl)
 replace oM:=oM.base hHeld.size
 replace hHeld:=hHeld.nx kk
 clear kk
 refine hK.out _ _ (hHeld) (fun hHeld=>?_)
 clear hK K
 refine tkL 7 (v:=?_) rfl (by kernel_rfl) (fun _ _ _ h=>h) (by rfl) ?y46 hHeld ?_
 case y46=>intro wq hSw;go_simp<;>rfl
 refine rLL 8 (by kernel_rfl) rfl (by rfl) fun K hK=>?_
 have BQ:=BB4.out.nx hHeld
 have r0:=BQ.cell 0 _ rfl
 have r1:=BQ.cell 1 _ rfl
 have f0:=BQ.free 0
 have f1:=BQ.free 1
 go_simp
 clear r0 r1 f0 f1
 refine hK.out _ _ ?_
 clear hK K
 refine wpAnyL_done (by kernel_rfl) ?_ _
 obtain ⟨wz,hwz⟩:∃ wz,wz=(wc.setCell ⟨g4,0,none⟩ (.slice aP (normalN N P).length cP)).setCell ⟨g4,1,none⟩ (.slice aM M.length cM):=⟨_,rfl⟩
 have BZ:Blk wz g4 [.slice aP (normalN N P).length cP,.slice aM M.length cM] 56:=by rw [hwz];exact (BQ.set 0 _).set 1 _
 have KB:Exb g4 wc wz:=by rw [hwz];exact ((Exb.refl g4 _).setB (p:=⟨g4,0,none⟩) _ rfl).setB (p:=⟨g4,1,none⟩) _ rfl
 have KE:Ex w wz:=by rw [hwz];exact ((K2.out.nx hHeld).setNew (p:=⟨g4,0,none⟩) _ zg4).setNew (p:=⟨g4,1,none⟩) _ zg4
 have FO:=lH (show FlOwn w.heap.size wz (.slice aP (normalN N P).length cP) (.slice aM M.length cM) qs ⟨normalN N P,M⟩ from ⟨(oP.nxb hb4 KB).lower zw2,(oM.nxb hb4 KB).base zw2⟩)
 rw [← hwz]
 have q0:=BZ.cell 0 _ rfl
 have q1:=BZ.cell 1 _ rfl
 have KEH:=lH KE
 clear hwz KB KE oP oM BQ BZ hHeld hDrew
 go_wp2_with fail
 refine bodyPost_ret (v:=.agg #[.slice aP (normalN N P).length cP,.slice aM M.length cM]) (by simp [results,Tryz.results148,go_sem, *]) rfl ⟨_,_,qs,rfl,by rw [E0.out];exact FO.out,KEH.out⟩
theorem tick1_p (gx:Nat) (id:Int) (w:World) (hx:Blk w gx [.int .i64 id] 3):PredI 150 #[.pointer (some ⟨gx,0,none⟩)] id w:=by
 intro p h1 h2 w' kk
 have q0:=(hx.nx kk).cell 0 _ rfl
 have hg:=(hx.nx kk).lt
 have hne:¬ gx=w'.heap.size:=by omega
 obtain ⟨a1,n1,c1⟩:=h1
 obtain ⟨a2,n2,c2⟩:=h2
 simp only [Hdr.val]
 clear hx kk
 go_enter Tryz.func150,Tryz.ntmps150
 go_wp2
 go_ret
 exact ⟨rfl,(Ex.refl _).alloc _⟩
theorem del1_p (gx:Nat) (m:Int×Int) (w:World) (hx:Blk w gx [.int .i64 m.1,.int .i64 m.2] 242):PredI 157 #[.pointer (some ⟨gx,0,none⟩)] m.1 w:=by
 intro p h1 h2 w' kk
 have q0:=(hx.nx kk).cell 0 _ rfl
 have hg:=(hx.nx kk).lt
 have hne:¬ gx=w'.heap.size:=by omega
 obtain ⟨a1,n1,c1⟩:=h1
 obtain ⟨a2,n2,c2⟩:=h2
 simp only [Hdr.val]
 clear hx kk
 go_enter Tryz.func157,Tryz.ntmps157
 go_wp2
 go_ret
 exact ⟨rfl,(Ex.refl _).alloc _⟩
theorem new_f (a:Option Addr) (n c:Nat) (N:List Nd) (a2:Option Addr) (n2 c2:Nat) (P:List Pr) (w:World) (h:Sl 3 encN w a n N) (hn:n≤1000) (hc:n≤c) (hm:c≤maxLen) (h2:PL w a2 n2 P) (hn2:n2≤4000000000000000000) (hP:SmallP P) :
  Calls Tryz.prog 23 #[.slice a n c,.slice a2 n2 c2] w (FlPost ⟨normalN N P,[]⟩ w):=by
 have SM:=lH hP
 have B4:=Blk.new w [.slice none 0 0,.slice none 0 0] 56
 have kk:=Ex.new w (.cells #[.slice none 0 0,.slice none 0 0] 56)
 obtain ⟨w1,hw1⟩:∃ w1,w1=w.alloc (.cells #[.slice none 0 0,.slice none 0 0] 56):=⟨_,rfl⟩
 obtain ⟨g4,hg4⟩:∃ g4,g4=w.heap.size:=⟨_,rfl⟩
 replace B4:Blk w1 g4 [.slice none 0 0,.slice none 0 0] 56:=by rw [hw1,hg4];exact B4
 rw [← hw1] at kk
 have Hw1:=lH hw1
 have Hg4:=lH hg4
 replace h:=h.nx kk
 replace h2:=h2.nx kk
 have zg4:w.heap.size≤g4:=by omega
 have hb4:=B4.lt
 have K1:=lH kk
 clear kk hw1 hg4 hP
 go_enter Tryz.func23,Tryz.ntmps23
 go_upto_region 1 with fail
 rw [← Hg4.out,← Hw1.out]
 clear Hg4 Hw1
 go_wp2_with fail
 (with_reducible refine (normal_p _ _ _ N _ _ _ P _ h hn hc hm h2 hn2 SM.out).mono ?_)
 rintro e w2 ⟨vP,qs,rfl,oP,kk⟩
 replace B4:=B4.nx kk
 obtain ⟨aP,cP,rfl,_,_,_,_,_⟩:=oP.pl
 have r0:=B4.cell 0 _ rfl
 have r1:=B4.cell 1 _ rfl
 have f0:=B4.free 0
 have f1:=B4.free 1
 have K2:=lH (K1.out.nx kk)
 have OP:=lH oP
 have B4H:=lH B4
 clear kk h h2 oP B4
 go_wp2_with fail
 obtain ⟨wz,hwz⟩:∃ wz,wz=(w2.setCell ⟨g4,0,none⟩ (.slice aP (normalN N P).length cP)).setCell ⟨g4,1,none⟩ (.slice none 0 0):=⟨_,rfl⟩
 have BZ:Blk wz g4 [.slice aP (normalN N P).length cP,.slice none 0 0] 56:=by rw [hwz];exact (B4H.out.set 0 _).set 1 _
 have KB:Exb g4 w2 wz:=by rw [hwz];exact ((Exb.refl g4 _).setB (p:=⟨g4,0,none⟩) _ rfl).setB (p:=⟨g4,1,none⟩) _ rfl
 have KE:Ex w wz:=by rw [hwz];exact (K2.out.setNew (p:=⟨g4,0,none⟩) _ zg4).setNew (p:=⟨g4,1,none⟩) _ zg4
 have FO:=lH (show FlOwn w.heap.size wz (.slice aP (normalN N P).length cP) (.slice none 0 0) qs ⟨normalN N P,[]⟩ from ⟨(OP.out.nxb hb4 KB).lower K1.out.size,OwnL.nil _ _ _ _ _⟩)
 rw [← hwz]
 have q0:=BZ.cell 0 _ rfl
 have q1:=BZ.cell 1 _ rfl
 clear r0 r1 f0 f1 hwz
 refine bodyPost_ret (v:=.agg #[.slice aP (normalN N P).length cP,.slice none 0 0]) (by simp [results,Tryz.results23,go_sem, *]) rfl ⟨_,_,qs,rfl,FO.out,KE⟩
def headP (l:List Int) (m:Nat):Nat:=match l with
 | []=>0
 | x::_=>(x % (m:Int)).toNat
theorem head_pick (l:List Int) (i m:Nat):pickN l i m=headP (l.drop i) m:=by
 unfold pickN headP
 by_cases h:i<l.length
 ·rw [List.drop_eq_getElem_cons h,List.getElem?_eq_getElem h]
 ·rw [List.drop_of_length_le (by omega),List.getElem?_eq_none (by omega)]
theorem head_lt (l:List Int) {m:Nat} (hm:0<m):headP l m<m:=by
 have:=pick_lt l 0 hm
 rw [head_pick] at this
 exact this
def TurnB (w0 w:World) (g:Nat) (l:List Int):Prop:=∃ (a:Option Addr) (n c:Nat),Blk w g [.slice a n c] 22∧Sl 1 encI w0 a n l∧n≤c∧c≤maxLen
theorem TurnB.nx {w0 w w':World} {g:Nat} {l:List Int} (h:TurnB w0 w g l) (k:Ex w w'):TurnB w0 w' g l:=by
 obtain ⟨a,n,c,h1,h2⟩:=h
 exact ⟨a,n,c,h1.nx k,h2⟩
theorem TurnB.nxb {w0 w w':World} {g b:Nat} {l:List Int} (h:TurnB w0 w g l) (hb:g≠b) (k:Exb b w w'):TurnB w0 w' g l:=by
 obtain ⟨a,n,c,h1,h2⟩:=h
 exact ⟨a,n,c,h1.nxb hb k,h2⟩
theorem TurnB.lt {w0 w:World} {g:Nat} {l:List Int} (h:TurnB w0 w g l):g<w.heap.size:=by
 obtain ⟨a,n,c,h1,h2⟩:=h
 exact h1.lt
theorem tmod_two {x n:Int} (hn:1≤n):(x.tmod n+n) % n=x % n:=by
 obtain ⟨h1,h2⟩:=tmod_bounds x n hn
 have h3:=emod_of_tmod x n hn
 have h4:=Int.emod_nonneg x (show n≠0 by omega)
 have h5:=Int.emod_lt_of_pos x (show 0<n by omega)
 have e:(x.tmod n+n) % n=x % n:=by
  rw [Int.add_emod_right]
  split at h3
  ·rw [show x.tmod n=x % n-n by omega,Int.sub_emod_right,Int.emod_emod_of_dvd x (Int.dvd_refl n)]
  ·rw [← h3,Int.emod_emod_of_dvd x (Int.dvd_refl n)]
 exact e
set_option maxHeartbeats 2000000 in
theorem turn_f (gT m:Nat) (l:List Int) (w0 w:World) (h:TurnB w0 w gT l) (k0:Ex w0 w) (hm:0<m) (hm2:m≤1000000000) (hg:w0.heap.size≤gT) :
  Calls Tryz.prog 209 #[.int .i64 m,.pointer (some ⟨gT,0,none⟩)] w fun e w'=>e=.returned (.int .i64 (headP l m:Nat))∧TurnB w0 w' gT l.tail∧Exb gT w w':=by
 obtain ⟨a,n,c,B,S,hc,hcm⟩:=h
 have q0:=B.cell 0 _ rfl
 have f0:=B.free 0
 have BH:=lH B
 have SH:=lH S
 clear B S
 unfold maxLen at hcm
 cases l with
 | nil =>
  obtain rfl:n=0:=by have:=SH.out.len;simpa using this.symm
  have R:=lH (show TurnB w0 w gT [] from ⟨a,0,c,BH.out,SH.out,by omega,by unfold maxLen;omega⟩)
  clear hc hcm
  go_enter Tryz.func209,Tryz.ntmps209
  go_wp2_with fail
  go_ret
  exact ⟨rfl,R.out,Exb.refl gT _⟩
 | cons x r =>
  obtain ⟨k,rfl⟩:∃ k,n=k+1:=⟨n-1,by have:=SH.out.len;simp at this;omega⟩
  obtain ⟨xb,o,y,rfl,hxb,hy,hcell⟩:=SH.out.at (show 0<k+1 by omega)
  simp only [List.getElem?_cons_zero,Option.some.injEq] at hy
  subst hy
  have e0:w0.cell? ⟨xb,o+0*1+0,none⟩=some (.int .i64 x):=hcell 0 _ rfl
  have e1:w.cell? ⟨xb,o,none⟩=some (.int .i64 x):=by
   have:=Chg.cellv k0 e0 hxb
   simpa using this
  obtain ⟨h1,h2⟩:=tmod_bounds x m (by omega)
  have jw:IntKind.i64.wrap (x.tmod (m:Int)+(m:Int))=x.tmod (m:Int)+(m:Int):=IntWalk.i64_in _ (by omega)
  have H3:=lH (tmod_two (x:=x) (n:=m) (by omega))
  have hk1:¬ ((k:Int)+1=0):=by omega
  have hk2:(1:Int)≤(k:Int)+1:=by omega
  have hk3:(0:Int)<(k:Int)+1:=by omega
  have hk4:((k:Int)+1==0)=false:=by rw [beq_eq_false_iff_ne];omega
  have hc2:(k:Int)+1≤(c:Int):=by omega
  have hne:¬ gT=xb:=by omega
  have hm0:¬ (m:Int)=0:=by omega
  have hm3:((m:Int)==0)=false:=by rw [beq_eq_false_iff_ne];omega
  have hp:((headP (x::r) m:Nat):Int)=x % (m:Int):=by
   have:=Int.emod_nonneg x (show (m:Int)≠0 by omega)
   show (((x % (m:Int)).toNat:Nat):Int)=_
   omega
  have HP:=lH hp
  have SD:Hid (Sl 1 encI w0 (if c=1 then some ⟨xb,o,none⟩ else some ⟨xb,o+1,none⟩) k r):=lH (by
   split
   ·have hk0:k=0:=by omega
    subst hk0
    have hr:=SH.out.len
    have hr:r=[]:=by simpa using hr
    subst hr
    exact ⟨rfl,.inl rfl⟩
   ·have:=Sl.drop SH.out (m:=1) (by simp)
    simpa using this)
  clear e0 hcell SH hp
  by_cases hc1:c=1
  ·subst hc1
   obtain rfl:k=0:=by omega
   have R:=lH (show TurnB w0 (w.setCell ⟨gT,0,none⟩ (.slice (some ⟨xb,o,none⟩) 0 (0))) gT r from ⟨_,0,0,BH.out.set 0 _,by have:=SD.out;rw [if_pos rfl] at this;exact this,by omega,by unfold maxLen;omega⟩)
   have KB:=lH (show Exb gT w (w.setCell ⟨gT,0,none⟩ (.slice (some ⟨xb,o,none⟩) 0 (0))) from (Exb.refl gT _).setB (p:=⟨gT,0,none⟩) _ rfl)
   clear SD
   go_enter Tryz.func209,Tryz.ntmps209
   go_wp2_with fail
   go_ret
   exact ⟨by rw [HP.out,H3.out];rfl,R.out,KB.out⟩
  ·have hc9:¬ 1=c:=fun h=>hc1 h.symm
   have R:=lH (show TurnB w0 (w.setCell ⟨gT,0,none⟩ (.slice (some ⟨xb,o+1,none⟩) k (c-1))) gT r from ⟨_,k,c-1,BH.out.set 0 _,by have:=SD.out;rw [if_neg hc1] at this;exact this,by omega,by unfold maxLen;omega⟩)
   have KB:=lH (show Exb gT w (w.setCell ⟨gT,0,none⟩ (.slice (some ⟨xb,o+1,none⟩) k (c-1))) from (Exb.refl gT _).setB (p:=⟨gT,0,none⟩) _ rfl)
   clear SD
   go_enter Tryz.func209,Tryz.ntmps209
   go_wp2_with fail
   go_ret
   exact ⟨by rw [HP.out,H3.out];rfl,R.out,KB.out⟩
theorem turns_f (a:Option Addr) (n c:Nat) (l:List Int) (w0 w:World) (h:Sl 1 encI w0 a n l) (hc:n≤c) (hm:c≤maxLen) :
  Calls Tryz.prog 161 #[.slice a n c] w fun e w'=>∃ g,e=.returned (.func (.func 209) #[] #[.pointer (some ⟨g,0,none⟩)])∧w.heap.size≤g∧Ex w w'∧TurnB w0 w' g l:=by
 have B1:=Blk.new w [.slice a n c] 22
 have kk:=Ex.new w (.cells #[.slice a n c] 22)
 obtain ⟨w1,hw1⟩:∃ w1,w1=w.alloc (.cells #[.slice a n c] 22):=⟨_,rfl⟩
 obtain ⟨g1,hg1⟩:∃ g1,g1=w.heap.size:=⟨_,rfl⟩
 replace B1:Blk w1 g1 [.slice a n c] 22:=by rw [hw1,hg1];exact B1
 rw [← hw1] at kk
 have Hw1:=lH hw1
 have Hg1:=lH hg1
 have R:=lH (show TurnB w0 w1 g1 l from ⟨a,n,c,B1,h,hc,hm⟩)
 have K1:=lH kk
 have zg:w.heap.size≤g1:=by omega
 clear kk hw1 hg1 B1 h
 go_enter Tryz.func161,Tryz.ntmps161
 go_upto_region 1 with fail
 rw [← Hg1.out,← Hw1.out]
 clear Hg1 Hw1
 go_wp2_with fail
 go_ret
 exact ⟨_,rfl,zg,K1.out,R.out⟩
def PrVS (S:Nat→Prop) (w:World) (q:PQ) (p:Pr):Prop:=q.1=p.nums∧Rd 1 encI S w q.2.1.1 q.2.1.2.1 p.known∧Rd 4 encNr S w q.2.2.1 q.2.2.2.1 p.near
def PLS (S:Nat→Prop) (w:World) (a:Option Addr) (n:Nat) (P:List Pr):Prop:=∃ qs:List PQ,Rd 5 encQ S w a n qs∧P.length=n∧∀ (j:Nat) (q:PQ) (p:Pr),qs[j]?=some q→P[j]?=some p→PrVS S w q p
section
variable {S S':Nat→Prop} {w w':World} {a:Option Addr} {n:Nat} {P:List Pr}
theorem PLS.chg (h:PLS S w a n P) (k:Chg S' w w') (hs:∀ x,S x→S' x):PLS S w' a n P:=by
 obtain ⟨qs,h1,h2,h3⟩:=h
 refine ⟨qs,Rd.chg h1 k hs,h2,fun j q p hq hp=>?_⟩
 obtain ⟨r1,r2,r3⟩:=h3 j q p hq hp
 exact ⟨r1,Rd.chg r2 k hs,Rd.chg r3 k hs⟩
theorem PLS.mono (h:PLS S w a n P) (hs:∀ x,S x→S' x):PLS S' w a n P:=by
 obtain ⟨qs,h1,h2,h3⟩:=h
 refine ⟨qs,Rd.mono h1 hs,h2,fun j q p hq hp=>?_⟩
 obtain ⟨r1,r2,r3⟩:=h3 j q p hq hp
 exact ⟨r1,Rd.mono r2 hs,Rd.mono r3 hs⟩
theorem PL.pls (h:PL w a n P):PLS (· < w.heap.size) w a n P:=h
theorem PLb.pls {b:Nat} (h:PLb b w a n P):PLS (fun k=>k<w.heap.size∧k≠b) w a n P:=h
theorem PLS.pl (h:PLS S w a n P) (hs:∀ x,S x→x<w.heap.size):PL w a n P:=h.mono hs
end
theorem OwnP.pls {eP eI eN:TypeId} {base:Nat} {w:World} {v:Value} {qs:List PQ} {P:List Pr} (h:OwnP eP eI eN base w v qs P) :
  ∃ a cap,v=.slice a P.length cap∧PLS (fun k=>base≤k∧k<w.heap.size) w a P.length P:=by
 obtain ⟨a,cap,e,r,c1,c2,c3,c4⟩:=h.1.rd encQ_len
 rw [h.2.1] at e r
 refine ⟨a,cap,e,qs,r,rfl,fun j q p hq hp=>?_⟩
 obtain ⟨r1,r2,r3⟩:=h.2.2.1 j q p hq hp
 refine ⟨r1,?_,?_⟩
 ·obtain ⟨a',cap',e',r',_⟩:=r2.rd (fun _=>rfl)
  obtain ⟨q0,⟨x1,x2,x3⟩,hn⟩:=q
  simp only [Hdr.val,Value.slice.injEq] at e'
  obtain ⟨rfl,rfl,rfl⟩:=e'
  exact r'
 ·obtain ⟨a',cap',e',r',_⟩:=r3.rd (fun _=>rfl)
  obtain ⟨q0,hk,⟨x1,x2,x3⟩⟩:=q
  simp only [Hdr.val,Value.slice.injEq] at e'
  obtain ⟨rfl,rfl,rfl⟩:=e'
  exact r'
def FlX (X:Nat→Prop) (w:World) (aP aM:Option Addr) (F:Fl):Prop :=
 PLS (fun k=>k<w.heap.size∧¬ X k) w aP F.peers.length F.peers∧Rd 2 encS (fun k=>k<w.heap.size∧¬ X k) w aM F.msgs.length F.msgs
section
variable {X X':Nat→Prop} {w w':World} {aP aM:Option Addr} {F:Fl}
theorem FlX.chg (h:FlX X w aP aM F) {S':Nat→Prop} (k:Chg S' w w') (hs:∀ x,x<w.heap.size∧¬ X x→S' x):FlX X w' aP aM F :=
 ⟨(PLS.chg h.1 k hs).mono (fun x hx=>⟨Nat.lt_of_lt_of_le hx.1 k.size,hx.2⟩),(Rd.chg h.2 k hs).mono (fun x hx=>⟨Nat.lt_of_lt_of_le hx.1 k.size,hx.2⟩)⟩
theorem FlX.nx (h:FlX X w aP aM F) (k:Ex w w'):FlX X w' aP aM F:=h.chg k (fun x hx=>hx.1)
theorem FlX.nxb {b:Nat} (h:FlX X w aP aM F) (hb:X b) (k:Exb b w w'):FlX X w' aP aM F:=h.chg k (fun x hx=>⟨hx.1,fun e=>hx.2 (e▸hb)⟩)
theorem FlX.set (h:FlX X w aP aM F) {p:Addr} (v:Value) (hp:X p.block):FlX X (w.setCell p v) aP aM F :=
 h.chg (S':=(·≠p.block)) ((Chg.refl (·≠p.block) w).setCell v (fun k hk=>hk)) (fun x hx e=>hx.2 (e▸hp))
theorem FlX.mono (h:FlX X w aP aM F) (hs:∀ k,k<w.heap.size→X' k→X k):FlX X' w aP aM F :=
 ⟨h.1.mono (fun x hx=>⟨hx.1,fun e=>hx.2 (hs x hx.1 e)⟩),Rd.mono h.2 (fun x hx=>⟨hx.1,fun e=>hx.2 (hs x hx.1 e)⟩)⟩
theorem FlX.pl (h:FlX X w aP aM F):PL w aP F.peers.length F.peers:=h.1.pl (fun _ hx=>hx.1)
theorem FlX.sl (h:FlX X w aP aM F):Sl 2 encS w aM F.msgs.length F.msgs:=Rd.mono h.2 (fun _ hx=>hx.1)
theorem FlOwn.flx {base:Nat} {v m:Value} {qs:List PQ} (h:FlOwn base w v m qs F) (hX:∀ k,X k→k<base):∃ aP cP aM cM,v=.slice aP F.peers.length cP∧m=.slice aM F.msgs.length cM∧FlX X w aP aM F:=by
 obtain ⟨aP,cP,e1,r1⟩:=h.1.pls
 obtain ⟨aM,cM,e2,r2,_⟩:=h.2.rd (fun _=>rfl)
 exact ⟨aP,cP,aM,cM,e1,e2,r1.mono (fun x hx=>⟨hx.2,fun e=>by have:=hX x e;have:=hx.1;omega⟩),r2.mono (fun x hx=>⟨hx.2,fun e=>by have:=hX x e;have:=hx.1;omega⟩)⟩
theorem FlX.of {b:Nat} (h1:PLb b w aP F.peers.length F.peers) (h2:Slb 2 encS b w aM F.msgs.length F.msgs):FlX (· = b) w aP aM F:=⟨h1.pls,h2⟩
end
theorem left_t {b:Nat} (w:World) (h:TK w b):Calls Tryz.prog 79 #[.pointer (some ⟨b,0,none⟩)] w fun e w'=>∃ r:Bool,e=.returned (.bool r)∧TK w' b∧Ex w w':=by
 have T:=h
 obtain ⟨a,cap,i,x,o,l,h1,h2,h3,h4,h5⟩:=h
 have q0:w.cell? ⟨b,0,none⟩=some (.slice a l.length cap):=(cells2 h1).1
 have q1:w.cell? ⟨b,1,none⟩=some (.int .i64 i):=(cells2 h1).2.1
 have hl:l.length≤600:=h3
 have TH:=lH T
 clear h1 h2 h3 h4 h5 T
 generalize l.length=n at q0 hl
 go_enter Tryz.func79,Tryz.ntmps79
 go_wp2_with fail
 go_quiet (fail)
 go_wp2_with fail
 go_ret
 exact ⟨_,rfl,TH.out.nx ((Ex.refl _).drewN _),(Ex.refl _).drewN _⟩
end Go.Proofs.YthcholmhmcpooaaGreatDoor
