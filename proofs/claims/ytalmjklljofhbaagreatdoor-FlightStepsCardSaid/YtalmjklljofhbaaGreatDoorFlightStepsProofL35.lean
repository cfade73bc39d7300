/- Texts for FlightStepsProof. -/
import Derived.Laws.OwnMore
import Derived.Test.YtalmjklljofhbaaGreatDoorFlightStepsProofL25
set_option linter.unusedSimpArgs false
set_option linter.unusedVariables false

namespace Go.Proofs.YtalmjklljofhbaaGreatDoor
open Go.RowKit
def IsjRel (c:List Nd) (n:Nat) (w:World) (o i:Value) (wr:World):Prop :=
 ∃ k:Nat,k≤n∧i=.int .i64 k∧OwnL 1 encI 3 w.heap.size wr o ((c.take k).map Nd.id)∧Ex w wr
set_option maxRecDepth 100000 in
set_option maxHeartbeats 2000000 in
theorem idsj_r (a:Option Addr) (n c:Nat) (l:List Nd) (w:World) (hs:Sl 3 encN w a n l) (hn:n≤100000) :
  Calls Tryz.prog 98 #[.slice a n c] w (OiPost (l.map Nd.id) w):=by
 have HL:=lH hs.len
 have hll:=hs.len
 have HS:=lH hs
 clear hs
 go_enter Tryz.func98,Tryz.ntmps98
 go_wp2_with fail
 go_loopw [3,4] (fun o i wr=>IsjRel l n w o i wr) (fun _ i _=>n-(intOf i).toNat)
 case atStart=>exact ⟨0,by omega,rfl,OwnL.nil _ _ _ _ _,Ex.refl _⟩
 case round =>
  obtain ⟨j,hj,rfl,own,ki⟩:=hrel
  obtain ⟨wi,rfl⟩:∃ wi:World,wi=wr:=⟨_,rfl⟩
  by_cases hjm:j<n
  ·obtain ⟨x3,o3,y,rfl,hx3,hy,hc3⟩:=(HS.out.nx ki).at hjm
   have e0:wi.cell? ⟨x3,o3+j*3,none⟩=some (.int .i64 y.id):=hc3 0 _ rfl
   have SN:Hid ((l.take (j+1)).map Nd.id=(l.take j).map Nd.id++[y.id]):=lH (by rw [take_snocN l j y hy,List.map_append];rfl)
   have hrl:((l.take j).map Nd.id).length=j:=by rw [List.length_map,List.length_take];omega
   clear hy hc3
   have zb:=ki.size
   generalize (l.take j).map Nd.id=row at own SN hrl
   generalize y.id=yi at SN e0
   go_wp2_with (at_builtin;(refine wpList_append_lit (enc:=encI) wi rfl _ _ 22 rfl w.heap.size 3 (.int .i64 0) 1 8 Tryz.underlying22 Tryz.infoI6 rfl (by omega) (by omega) _ _ own rfl (yi:Int) _ rfl rfl (by simp [encI,Value.oneCell']) _ (by simp) rfl (by omega) (by omega) _ ?_);intro v5 w6 own6 ch0 ch1 hz6)
   refine ⟨⟨j+1,by omega,by go_num,by rw [SN.out];exact own6,Chg.trans ki ch1⟩,by simp [intOf];omega⟩
  ·obtain rfl:j=n:=by omega
   rw [List.take_of_length_le (by omega)] at own
   have own:=lH own
   clear hj hjm
   go_wp2_with fail
   go_ret
   exact ⟨_,rfl,own.out,ki⟩
def encV (v:Value):List Value:=[v]
def encNt (v:Nat):List Value:=[.int .i64 v]
theorem flatV (l:List Value):l.flatMap encV=l:=by
 induction l with
 | nil=>rfl
 | cons x l ih=>rw [List.flatMap_cons,ih];rfl
theorem flatNt (l:List Nat):l.flatMap encNt=l.map fun v:Nat=>Value.int .i64 (v:Int):=by
 induction l with
 | nil=>rfl
 | cons x l ih=>rw [List.flatMap_cons,ih];rfl
theorem labs_of {e base n:Nat} {w:World} {v:Value} {L:List Value} (h:OwnL 1 encV e base w v L) (hl:L.length=n) (hv:∀ i,i<n→L[i]?=some (.int .i64 i)):OwnL 1 encNt e base w v (List.range n):=by
 have:L=(List.range n).map fun i:Nat=>Value.int .i64 (i:Int):=by
  refine List.ext_getElem? fun i=>?_
  by_cases hi:i<n
  ·rw [hv i hi,List.getElem?_map,List.getElem?_range hi];rfl
  ·rw [List.getElem?_eq_none (by omega),List.getElem?_eq_none (by simp;omega)]
 unfold OwnL at h ⊢
 rw [flatV] at h
 rw [flatNt,List.length_range,← this,← hl]
 exact h
theorem make_row (w:World) (n:Nat) (hn:n≤1000):∃ w' L,(Instr.makeSlice 22 (.int .i64 n) (.int .i64 n)).run Tryz.prog w=.ok (.slice (some ⟨w.heap.size,0,none⟩) n n) w'∧OwnL 1 encV 3 w.heap.size w' (.slice (some ⟨w.heap.size,0,none⟩) n n) L∧L.length=n∧Ex w w':=by
 obtain ⟨i,hi,hz0,hz1,hz2⟩:=info_parts Tryz.infoI6
 obtain ⟨w',hrun,hr,hg⟩:=run_makeSlice_full (P:=Tryz.prog) (w:=w) w.heap.size 22 3 i (.int .i64 0) 1 Tryz.underlying22 hi hz0 hz1 .i64 .i64 n (by omega) (by rw [hz2];omega) (by unfold maxLen;omega) (Nat.le_refl _)
 have hl:(madeCells (Value.int .i64 0).cells (n*1)).toList.length=n:=by simp [size_madeCells]
 refine ⟨w',_,hrun,?_,hl,⟨hg.os,hg.tape,hg.output,hg.size,fun k hk=>hg.block k hk (by simp)⟩⟩
 unfold OwnL
 rw [flatV,hl]
 exact hr
def JPost (m:Nat) (w:World) (e:Ending) (w':World):Prop:=∃ a c,e=.returned (.slice a m c)∧Ex w w'
abbrev LabRow (base g n:Nat) (w:World) (L:List Nat):Prop:=OwnL 1 encNt 3 base w (.slice (some ⟨g,0,none⟩) n n) L
def JaRel (n g:Nat) (w:World) (i:Value) (wr:World):Prop :=
 ∃ (k:Nat) (L:List Value),k≤n∧i=.int .i64 k∧OwnL 1 encV 3 w.heap.size wr (.slice (some ⟨g,0,none⟩) n n) L∧L.length=n∧(∀ i,i<k→L[i]?=some (.int .i64 i))∧Ex w wr
def JbRel (ids:List Int) (E:List (Int×Int)) (g n:Nat) (w:World) (i:Value) (wr:World):Prop :=
 ∃ t:Nat,t≤n∧i=.int .i64 t∧LabRow w.heap.size g n wr (Lab.labsL ids E t)∧Ex w wr
def JcRel (ids:List Int) (E:List (Int×Int)) (lab:List Nat) (g n:Nat) (w:World) (i:Value) (wr:World):Prop :=
 ∃ j:Nat,j≤E.length∧i=.int .i64 j∧LabRow w.heap.size g n wr ((E.take j).foldl (Lab.stepL ids) lab)∧Ex w wr
theorem lab_cell {base g n i:Nat} {w:World} {cur:List Nat} (h:LabRow base g n w cur) (hi:i<cur.length):w.cell? ⟨g,i,none⟩=some (.int .i64 (cur.getD i 0:Nat))∧w.frozen? ⟨g,i,none⟩=false:=by
 obtain ⟨s1,s2,_⟩:=own_set1 (sz:=1) (enc:=encNt) (fun _=>rfl) h (List.getElem?_eq_getElem hi) (c:=0) (by omega)
 simp only [Nat.mul_one,Nat.add_zero] at s1 s2
 refine ⟨?_,s2⟩
 rw [s1,List.getD_eq_getElem?_getD,List.getElem?_eq_getElem hi]
 rfl
theorem lab_set {base g n i:Nat} {w:World} {cur:List Nat} (h:LabRow base g n w cur) (hi:i<cur.length) (m:Nat):LabRow base g n (w.setCell ⟨g,i,none⟩ (.int .i64 (m:Nat))) (cur.set i m):=by
 obtain ⟨_,_,s3⟩:=own_set1 (sz:=1) (enc:=encNt) (fun _=>rfl) h (List.getElem?_eq_getElem hi) (c:=0) (by omega)
 simp only [Nat.mul_one,Nat.add_zero] at s3
 exact s3 m _ rfl
theorem fold_len (ids:List Int) (F:List (Int×Int)) (lab:List Nat):(F.foldl (Lab.stepL ids) lab).length=lab.length:=by
 induction F generalizing lab with
 | nil=>rfl
 | cons q F ih =>
  rw [List.foldl_cons,ih]
  unfold Lab.stepL
  split
  ·exact Lab.join_len _ _ _
  ·rfl
theorem labs_len (ids:List Int) (E:List (Int×Int)) (t:Nat):(Lab.labsL ids E t).length=ids.length:=by
 induction t with
 | zero=>simp [Lab.labsL]
 | succ t ih=>exact (fold_len ids E _).trans ih
theorem idxL_some {l:List Int} {v:Int} {i:Nat} (h:l.findIdx? (·==v)=some i):idxL l v=i∧i<l.length:=by
 unfold idxL
 rw [h]
 exact ⟨rfl,(List.findIdx?_eq_some_iff_getElem.1 h).1⟩
theorem idxL_none {l:List Int} {v:Int} (h:l.findIdx? (·==v)=none):idxL l v = -1:=by unfold idxL;rw [h]
def encHd (h:Hdr):List Value:=[h.val]
theorem Tryz.infoSI:(Tryz.prog.info? 22).map (fun i=>(i.zero,i.size,i.bytes))=some (some (.slice none 0 0),1,24):=by kernel_rfl
def cntL (lab:List Nat) (i:Nat):Nat:=((List.range i).filter fun k=>lab.getD k 0==k).length
theorem cntL_succ (lab:List Nat) (i:Nat):cntL lab (i+1)=cntL lab i+if lab.getD i 0=i then 1 else 0:=by
 unfold cntL
 rw [List.range_succ,List.filter_append,List.length_append]
 by_cases h:lab.getD i 0=i
 ·have hb:(lab.getD i 0==i)=true:=by rw [beq_iff_eq];exact h
  rw [if_pos h]
  simp only [List.filter_cons,List.filter_nil,hb]
  rfl
 ·have hb:(lab.getD i 0==i)=false:=by rw [beq_eq_false_iff_ne];exact h
  rw [if_neg h]
  simp only [List.filter_cons,List.filter_nil,hb]
  rfl
theorem cntL_le (lab:List Nat) (i:Nat):cntL lab i≤i:=by
 unfold cntL
 have:=List.length_filter_le (fun k=>lab.getD k 0==k) (List.range i)
 simpa using this
def JdRel (lab:List Nat) (n:Nat) (w:World) (o i:Value) (wr:World):Prop :=
 ∃ (k:Nat) (qs:List Hdr),k≤n∧i=.int .i64 k∧OwnL 1 encHd 22 w.heap.size wr o qs∧qs.length=cntL lab k∧Ex w wr
def JeRel (b:Prop) (k n:Nat) (w:World) (o i:Value) (wr:World):Prop :=
 ∃ (j:Nat) (l:List Int),k≤j∧j≤n∧i=.int .i64 j∧OwnL 1 encI 3 w.heap.size wr o l∧l.length≤j∧(b→k<j→l≠[])∧(¬ b→l=[])∧Ex w wr
set_option maxRecDepth 100000 in
set_option maxHeartbeats 16000000 in
theorem joined_r (a:Option Addr) (n c:Nat) (N:List Nd) (a2:Option Addr) (n2 c2:Nat) (E:List (Int×Int)) (w:World) (h:Sl 3 encN w a n N) (hn:n≤1000) (h2:Sl 2 encP2 w a2 n2 E) (hn2:n2≤1000000) :
  Calls Tryz.prog 103 #[.slice a n c,.slice a2 n2 c2] w (JPost (Lab.partsL (N.map Nd.id) E) w):=by
 have HL:=lH h.len
 have HL2:=lH h2.len
 have EX:=Ex.refl w
 go_enter Tryz.func103,Tryz.ntmps103
 go_wp2_with fail
 (with_reducible refine (idsj_r _ _ _ N _ h (by omega)).mono ?_)
 rintro e w1 ⟨v1,rfl,own,kk⟩
 replace h2:=h2.nx kk
 replace EX:=EX.nx kk
 clear kk
 obtain ⟨aI,cI,rfl,IDS,_,_,_⟩:=own.slf (fun _=>rfl)
 have hIl:(N.map Nd.id).length=n:=by rw [List.length_map];exact HL.out
 rw [hIl] at IDS ⊢
 generalize hids:N.map Nd.id=ids at IDS hIl ⊢
 have HI:=lH hids
 clear hids
 have IL:=lH hIl
 have IDS:=lH IDS.sl
 have H2:=lH h2
 have EXH:=lH EX
 clear own h h2 EX hIl
 obtain ⟨w2,L0,hmk,row,hrl,k2⟩:=make_row w1 n hn
 obtain ⟨g,hg⟩:∃ g,g=w1.heap.size:=⟨_,rfl⟩
 rw [← hg] at hmk row
 have HG:=lH hg
 have zg:w1.heap.size≤g:=by omega
 have ROW:=lH row
 have K2:=lH k2
 have HR:=lH hrl
 clear hg row k2 hrl
 go_wp2_with fail
 clear hmk
 go_loopw [7] (fun i wr=>JaRel n g w1 i wr) (fun i _=>n-(intOf i).toNat)
 case atStart=>exact ⟨0,L0,Nat.zero_le _,rfl,by rw [HG.out];rw [HG.out] at ROW;exact ROW.out,HR.out,fun i hi=>absurd hi (Nat.not_lt_zero _),K2.out⟩
 case round =>
  clear ROW K2 HR
  obtain ⟨k,L,hk,rfl,row,hL,hLv,kw⟩:=hrel
  obtain ⟨wo,rfl⟩:∃ wo:World,wo=wr:=⟨_,rfl⟩
  have HLL:=lH hL
  have HLV:=lH hLv
  have KW:=lH kw
  clear hL hLv kw
  by_cases hlt:k<n
  ·have hy:L[k]?=some (L[k]'(by have:=HLL.out;omega)):=List.getElem?_eq_getElem _
   obtain ⟨s1,s2,s3⟩:=own_set1 (sz:=1) (enc:=encV) (fun _=>rfl) row hy (c:=0) (by omega)
   simp only [Nat.mul_one,Nat.add_zero] at s1 s2 s3
   generalize L[k]'(by have:=HLL.out;omega)=y at hy s1 s3
   have s1:wo.cell? ⟨g,k,none⟩=some y:=s1
   have RR:=lH (show JaRel n g w1 (.int .i64 ((k:Int)+1)) (wo.setCell ⟨g,k,none⟩ (.int .i64 k)) from ⟨k+1,L.set k (.int .i64 k),by omega,by go_num,s3 _ _ rfl,by rw [List.length_set];exact HLL.out,fun i hi=>by
    by_cases hik:i=k
    ·subst hik
     exact List.getElem?_set_self (by have:=HLL.out;omega)
    ·rw [List.getElem?_set_ne (fun h=>hik h.symm)]
     exact HLV.out i (by omega),KW.out.setNew _ zg⟩)
   clear row s3 hy
   go_wp2_with fail
   exact ⟨RR.out,by simp [intOf];omega⟩
  ·obtain rfl:n=k:=by omega
   have LR:=lH (labs_of row HLL.out (fun i hi=>HLV.out i hi))
   clear row hk hlt HLV HLL
   go_wp2_with fail
   go_loopw [8] (fun i wr=>JbRel ids E g n w1 i wr) (fun i _=>n-(intOf i).toNat)
   case atStart=>exact ⟨0,Nat.zero_le _,rfl,by show LabRow _ _ _ _ (List.range ids.length);rw [IL.out];exact LR.out,KW.out⟩
   case round =>
    clear LR KW
    obtain ⟨t,ht,rfl,row,kw⟩:=hrel
    obtain ⟨wt,rfl⟩:∃ wt:World,wt=wr:=⟨_,rfl⟩
    have KW:=lH kw
    clear kw
    by_cases htt:t<n
    ·have LL:=lH ((labs_len ids E t).trans IL.out)
     have LS:Hid (Lab.labsL ids E (t+1)=E.foldl (Lab.stepL ids) (Lab.labsL ids E t)):=lH rfl
     generalize Lab.labsL ids E t=lab at row LL LS
     have ROW:=lH row
     clear row
     go_wp2_with fail
     go_loopw [9] (fun i wr=>JcRel ids E lab g n w1 i wr) (fun i _=>E.length-(intOf i).toNat)
     case atStart=>exact ⟨0,Nat.zero_le _,rfl,ROW.out,KW.out⟩
     case round =>
      clear ROW KW
      obtain ⟨j,hj,rfl,row,kv⟩:=hrel
      obtain ⟨wp,rfl⟩:∃ wp:World,wp=wr:=⟨_,rfl⟩
      have KV:=lH kv
      have ROW:=lH row
      clear kv row
      by_cases hjl:j<n2
      ·obtain ⟨xe,oe,q,rfl,hxe,hq,hce⟩:=(H2.out.nx KV.out).at hjl
       have f0:wp.cell? ⟨xe,oe+j*2,none⟩=some (.int .i64 q.1):=by simpa using hce 0 _ rfl
       have f1:wp.cell? ⟨xe,oe+j*2+1,none⟩=some (.int .i64 q.2):=by simpa using hce 1 _ rfl
       have F0:=lH (fun wq (k:Ex wp wq)=>Chg.cellv k f0 hxe)
       have F1:=lH (fun wq (k:Ex wp wq)=>Chg.cellv k f1 hxe)
       have SN:Hid ((E.take (j+1)).foldl (Lab.stepL ids) lab=Lab.stepL ids ((E.take j).foldl (Lab.stepL ids) lab) q):=lH (by
        rw [List.take_add_one,hq,List.foldl_append];rfl)
       have CL:=lH ((fold_len ids (E.take j) lab).trans LL.out)
       have hjE:j+1≤E.length:=by have:=HL2.out;omega
       generalize (E.take j).foldl (Lab.stepL ids) lab=cur at ROW SN CL
       clear hce hq f0 f1 hxe
       go_upto_region 13 with fail
       refine wp_region_held_drew (S:=Ex wp) (by kernel_rfl) ((Ex.refl wp).drew) (fun hHeld=>?_)
       obtain ⟨wd,hwdx⟩:∃ wd:World,wd=World.drew wp:=⟨_,rfl⟩
       rw [← hwdx] at hHeld ⊢
       have hDrew:Ex wp wd:=by rw [hwdx];exact (Ex.refl wp).drew
       clear hwdx
       refine tkH 0 (v:=?_) rfl (by kernel_rfl) (fun _ _ _ h=>h) (by rfl) ?y5 hHeld ?_
       case y5=>intro wq hSw;go_simp<;>rfl
       refine tkH 1 (v:=?_) rfl (by kernel_rfl) (fun _ _ _ h=>h) (by rfl) ?y8 hHeld ?_
       case y8=>intro wq hSw;go_simp<;>rfl
       refine tkH 2 (v:=?_) rfl (by kernel_rfl) (fun _ _ _ h=>h) (by rfl) ?y11 hHeld ?_
       case y11=>intro wq hSw;go_simp<;>rfl
       refine tkH 3 (v:=?_) rfl (by kernel_rfl) (fun _ _ _ h=>h) (by rfl) ?y14 hHeld ?_
       case y14=>intro wq hSw;go_simp<;>rfl
       refine tkH 4 (v:=?_) rfl (by kernel_rfl) (fun _ _ _ h=>h) (by rfl) ?y17 hHeld ?_
       case y17=>intro wq hSw;go_simp<;>rfl
       refine tkH 5 (v:=?_) rfl (by kernel_rfl) (fun _ _ _ h=>h) (by rfl) ?y20 hHeld ?_
       case y20=>intro wq hSw;(have cq:=F0.out wq hSw;go_simp)<;>rfl
       refine tkH 7 (v:=?_) rfl (by kernel_rfl) (fun _ _ _ h=>h) (by rfl) ?y23 hHeld ?_
       case y23=>intro wq hSw;go_simp<;>rfl
       refine tkH 8 (v:=?_) rfl (by kernel_rfl) (fun _ _ _ h=>h) (by rfl) ?y26 hHeld ?_
       case y26=>intro wq hSw;go_simp<;>rfl
       refine tkH 9 (v:=?_) rfl (by kernel_rfl) (fun _ _ _ h=>h) (by rfl) ?y29 hHeld ?_
       case y29=>intro wq hSw;go_simp<;>rfl
       refine tkH 10 (v:=?_) rfl (by kernel_rfl) (fun _ _ _ h=>h) (by rfl) ?y32 hHeld ?_
       case y32=>intro wq hSw;go_simp<;>rfl
       refine tkH 11 (v:=?_) rfl (by kernel_rfl) (fun _ _ _ h=>h) (by rfl) ?y35 hHeld ?_
       case y35=>intro wq hSw;go_simp<;>rfl
       refine tkH 12 (v:=?_) rfl (by kernel_rfl) (fun _ _ _ h=>h) (by rfl) ?y38 hHeld ?_
       case y38=>intro wq hSw;(have cq:=F1.out wq hSw;go_simp)<;>rfl
       refine rH 6 (by kernel_rfl) rfl fun K hK=>?_
       go_simp
       (with_reducible refine (index7_r _ _ _ ids q.1 _ (IDS.out.nx (KV.out.nx hHeld)) (by omega)).mono ?_)
       rintro e wb ⟨rfl,kk⟩
       replace hHeld:=hHeld.nx kk
       clear kk
       refine hK.out _ _ (hHeld) (fun hHeld=>?_)
       clear hK K
       refine rH 13 (by kernel_rfl) rfl fun K hK=>?_
       go_simp
       (with_reducible refine (index7_r _ _ _ ids q.2 _ (IDS.out.nx (KV.out.nx hHeld)) (by omega)).mono ?_)
       rintro e wc ⟨rfl,kk⟩
       replace hHeld:=hHeld.nx kk
       clear kk
       refine hK.out _ _ (hHeld) (fun hHeld=>?_)
       clear hK K
       refine tkH 14 (v:=?_) rfl (by kernel_rfl) (fun _ _ _ h=>h) (by rfl) ?y61 hHeld ?_
       case y61=>intro wq hSw;go_simp<;>rfl
       refine tkH 15 (v:=?_) rfl (by kernel_rfl) (fun _ _ _ h=>h) (by rfl) ?y64 hHeld ?_
       case y64=>intro wq hSw;go_simp<;>rfl
       refine wpAnyH_done (by kernel_rfl) ?_ _
       have KC:=lH (KV.out.nx hHeld)
       have RC:=lH (ROW.out.nx hHeld)
       clear hHeld hDrew ROW
       cases e1:ids.findIdx? (·==q.1) with
       | none =>
        rw [idxL_none e1]
        have RR:=lH (show JcRel ids E lab g n w1 (.int .i64 ((j:Int)+1)) wc from ⟨j+1,hjE,by go_num,by rw [SN.out,show Lab.stepL ids cur q=cur by unfold Lab.stepL;rw [e1]];exact RC.out,KC.out⟩)
        clear e1
        go_wp2_with fail
        exact ⟨RR.out,by simp [intOf];omega⟩
       | some i1 =>
        obtain ⟨x1,hi1⟩:=idxL_some e1
        rw [x1]
        have hi1n:i1<n:=by have:=IL.out;omega
        cases e2:ids.findIdx? (·==q.2) with
        | none =>
         rw [idxL_none e2]
         have RR:=lH (show JcRel ids E lab g n w1 (.int .i64 ((j:Int)+1)) wc from ⟨j+1,hjE,by go_num,by rw [SN.out,show Lab.stepL ids cur q=cur by unfold Lab.stepL;rw [e1,e2]];exact RC.out,KC.out⟩)
         clear e1 e2 x1 hi1
         go_wp2_with fail
         exact ⟨RR.out,by simp [intOf];omega⟩
        | some i2 =>
         obtain ⟨x2,hi2⟩:=idxL_some e2
         rw [x2]
         have hi2n:i2<n:=by have:=IL.out;omega
         have ST:Hid (Lab.stepL ids cur q=Lab.joinL cur i1 i2):=lH (by unfold Lab.stepL;rw [e1,e2])
         have hc1:i1<cur.length:=by have:=CL.out;omega
         have hc2:i2<cur.length:=by have:=CL.out;omega
         obtain ⟨p1,r1⟩:=lab_cell RC.out hc1
         obtain ⟨p2,r2⟩:=lab_cell RC.out hc2
         have JJ:Hid (Lab.joinL cur i1 i2=(cur.set i1 (min (cur.getD i1 0) (cur.getD i2 0))).set i2 (min (cur.getD i1 0) (cur.getD i2 0))):=lH rfl
         generalize cur.getD i1 0=x at p1 JJ
         generalize cur.getD i2 0=y at p2 JJ
         have hmin:min (x:Int) (y:Int)=((min x y:Nat):Int):=by omega
         generalize min x y=m at hmin JJ
         have RR:=lH (fun d=>show JcRel ids E lab g n w1 (.int .i64 ((j:Int)+1)) (((wc.drewN d).setCell ⟨g,i1,none⟩ (.int .i64 (m:Nat))).setCell ⟨g,i2,none⟩ (.int .i64 (m:Nat))) from ⟨j+1,hjE,by go_num,by
          rw [SN.out,ST.out,JJ.out]
          exact lab_set (lab_set (OwnL.nx RC.out ((Ex.refl wc).drewN d)) hc1 m) (by rw [List.length_set];exact hc2) m,((KC.out.drewN d).setNew _ zg).setNew _ zg⟩)
         have q3:=fun d=>lab_cell (lab_set (OwnL.nx RC.out ((Ex.refl wc).drewN d)) hc1 m) (i:=i2) (by rw [List.length_set];exact hc2)
         have p3:=fun d=>(q3 d).1
         have r3:=fun d=>(q3 d).2
         clear e1 e2 x1 x2 hi1 hi2 hc1 hc2 ST SN RC JJ q3
         go_wp2_with fail
         go_quiet (fail)
         go_wp2_with fail
         exact ⟨RR.out _,by simp [intOf];omega⟩
      ·have hjE:j=E.length:=by have:=HL2.out;omega
       have RR:=lH (show JbRel ids E g n w1 (.int .i64 ((t:Int)+1)) wp from ⟨t+1,by omega,by go_num,by rw [LS.out];have h:=ROW.out;rw [hjE,List.take_of_length_le (Nat.le_refl _)] at h;exact h,KV.out⟩)
       clear hj hjE ROW
       go_wp2_with fail
       exact ⟨RR.out,by simp [intOf];omega⟩
    ·obtain rfl:n=t:=by omega
     have PT:Hid (Lab.partsL ids E=((List.range n).filter fun i=>(Lab.labsL ids E n).getD i 0==i).length):=lH (by unfold Lab.partsL;rw [IL.out])
     have LL:=lH ((labs_len ids E n).trans IL.out)
     generalize Lab.labsL ids E n=lab at row PT LL
     have ROW:=lH row
     clear row ht htt
     go_wp2_with fail
     go_loopw [13,14] (fun o i wr=>JdRel lab n wt o i wr) (fun _ i _=>n-(intOf i).toNat)
     case atStart=>exact ⟨0,[],Nat.zero_le _,rfl,OwnL.nil _ _ _ _ _,rfl,Ex.refl _⟩
     case round =>
      obtain ⟨k,qs,hk,rfl,own,hq,kv⟩:=hrel
      obtain ⟨wo,rfl⟩:∃ wo:World,wo=wr:=⟨_,rfl⟩
      have OWN:=lH own
      have HQ:=lH hq
      have KV:=lH kv
      have hql:qs.length≤1000:=by have:=cntL_le lab k;omega
      have hzv:=kv.size
      clear own hq kv
      by_cases hkn:k<n
      ·have CS:=lH (cntL_succ lab k)
       have hkl:k<lab.length:=by have:=LL.out;omega
       have RO:=lH (OwnL.nx ROW.out KV.out)
       go_wp2_with fail
       go_loopw [15,16] (fun o i wr=>JeRel (lab.getD k 0=k) k n wo o i wr) (fun _ i _=>n-(intOf i).toNat)
       case atStart=>exact ⟨k,[],Nat.le_refl _,hk,rfl,OwnL.nil _ _ _ _ _,Nat.zero_le _,fun _ h=>absurd h (Nat.lt_irrefl _),fun _=>rfl,Ex.refl _⟩
       case round =>
        obtain ⟨j,l,hkj,hjn,rfl,own,hll,hl1,hl2,kx⟩:=hrel
        obtain ⟨wp,rfl⟩:∃ wp:World,wp=wr:=⟨_,rfl⟩
        have RP:=lH (OwnL.nx RO.out kx)
        have OWL:=lH own
        have L1:=lH hl1
        have L2:=lH hl2
        have KX:=lH kx
        have zx:=kx.size
        obtain ⟨p1,r1⟩:=lab_cell RP.out hkl
        clear own hl1 hl2 kx
        by_cases hb:lab.getD k 0=k
        ·replace p1:wp.cell? ⟨g,k,none⟩=some (.int .i64 (k:Nat)):=by rw [hb] at p1;exact p1
         by_cases hjl:j<n
         ·obtain ⟨p2,r2⟩:=lab_cell RP.out (i:=j) (by have:=LL.out;omega)
          obtain ⟨xi,oi,v,rfl,hxi,hv,hci⟩:=(IDS.out.nx (KW.out.nx (KV.out.nx KX.out))).at hjl
          have f0:wp.cell? ⟨xi,oi+j,none⟩=some (.int .i64 v):=by simpa using hci 0 _ rfl
          clear hv hci
          have B0:=lH hb
          clear hb
          by_cases hx:lab.getD j 0=k
          ·replace p2:wp.cell? ⟨g,j,none⟩=some (.int .i64 (k:Nat)):=by rw [hx] at p2;exact p2
           have own:=OWL.out
           clear hx
           go_wp2_with (at_builtin;(refine wpList_append_lit (enc:=encI) wp rfl _ _ 22 rfl wo.heap.size 3 (.int .i64 0) 1 8 Tryz.underlying22 Tryz.infoI6 rfl (by omega) (by omega) _ _ own rfl (v:Int) _ rfl rfl (by simp [encI,Value.oneCell']) _ (by simp) rfl (by omega) (by omega) _ ?_);intro v5 w6 own6 ch0 ch1 hz6)
           refine ⟨⟨j+1,l++[v],by omega,by omega,by go_num,own6,by simp;omega,fun _ _=>by simp,fun h=>absurd B0.out h,Chg.trans KX.out ch1⟩,by simp [intOf];omega⟩
          ·have d2:(((lab.getD j 0:Nat):Int)==(k:Int))=false:=by rw [beq_eq_false_iff_ne];omega
           have hkj':k<j:=by
            rcases Nat.lt_or_ge k j with h | h
            ·exact h
            ·obtain rfl:k=j:=by omega
             exact absurd B0.out hx
           have RR:=lH (show JeRel (lab.getD k 0=k) k n wo u15 (.int .i64 ((j:Int)+1)) wp from ⟨j+1,l,by omega,by omega,by go_num,OWL.out,by omega,fun h _=>L1.out h hkj',L2.out,KX.out⟩)
           generalize lab.getD j 0=xj at p2 d2
           clear hx
           go_wp2_with fail
           exact ⟨RR.out,by simp [intOf];omega⟩
         ·obtain rfl:n=j:=by omega
          have hne:=L1.out hb hkn
          obtain ⟨A,C,rfl,_,_,_,_⟩:=OWL.out.slf (fun _=>rfl)
          have hpos:0<l.length:=List.length_pos_iff.2 hne
          have ownO:=OwnL.nx OWN.out KX.out
          have CS1:Hid (cntL lab (k+1)=cntL lab k+1):=lH (by rw [CS.out,if_pos hb])
          clear hb hne
          go_wp2_with (at_builtin;(refine wpList_append_lit (enc:=encHd) wp rfl _ _ 135 rfl wt.heap.size 22 (.slice none 0 0) 1 24 Tryz.underlying135 Tryz.infoSI rfl (by omega) (by omega) _ _ ownO rfl ((A,l.length,C):Hdr) _ rfl rfl (by simp [encHd,Hdr.val,Value.oneCell']) _ (by simp) rfl (by omega) (by omega) _ ?_);intro v5 w6 own6 ch0 ch1 hz6)
          refine ⟨⟨k+1,qs++[(A,l.length,C)],by omega,by go_num,own6,by rw [CS1.out,List.length_append,HQ.out];rfl,Chg.trans (KV.out.nx KX.out) ch1⟩,by simp [intOf];omega⟩
        ·have hl0:=L2.out hb
         have CS0:Hid (cntL lab (k+1)=cntL lab k):=lH (by rw [CS.out,if_neg hb];rfl)
         have RR:=lH (show JdRel lab n wt u13 (.int .i64 ((k:Int)+1)) wp from ⟨k+1,qs,by omega,by go_num,OwnL.nx OWN.out KX.out,by rw [CS0.out];exact HQ.out,KV.out.nx KX.out⟩)
         have d1:(((lab.getD k 0:Nat):Int)==(k:Int))=false:=by rw [beq_eq_false_iff_ne];omega
         subst hl0
         obtain ⟨A,C,rfl,_,_,_,_⟩:=OWL.out.slf (fun _=>rfl)
         generalize lab.getD k 0=xk at p1 d1
         clear hb
         by_cases hjl:j<n
         ·go_wp2_with fail
          exact ⟨RR.out,by simp [intOf];omega⟩
         ·obtain rfl:n=j:=by omega
          go_wp2_with fail
          exact ⟨RR.out,by simp [intOf];omega⟩
      ·obtain rfl:n=k:=by omega
       obtain ⟨A,C,rfl,_,_,_,_⟩:=OWN.out.slf (fun _=>rfl)
       have KE:=lH (EXH.out.nx (KW.out.nx KV.out))
       have HQ2:Hid (Lab.partsL ids E=qs.length):=lH (by rw [PT.out,HQ.out];rfl)
       clear hk hkn
       go_wp2_with fail
       go_ret
       exact ⟨_,_,by first | (rw [HQ2.out];rfl) | (rw [HI.out,HQ2.out];rfl),KE.out⟩
def updF {α:Type} (T:α→α) (l:List α) (k:Nat):List α:=(l.take k).map T++l.drop k
section
variable {α:Type} {T:α→α} {l:List α} {k:Nat}
theorem updF_zero:updF T l 0=l:=by simp [updF]
theorem updF_all:updF T l l.length=l.map T:=by simp [updF]
theorem updF_get {y:α} (hy:l[k]?=some y):(updF T l k)[k]?=some y:=by
 have hk:k<l.length:=(List.getElem?_eq_some_iff.1 hy).1
 have hl:((l.take k).map T).length=k:=by simp;omega
 unfold updF
 rw [List.getElem?_append_right (by omega),hl,Nat.sub_self,List.getElem?_drop,Nat.add_zero]
 exact hy
theorem updF_succ {y:α} (hy:l[k]?=some y):updF T l (k+1)=(updF T l k).set k (T y):=by
 have hk:k<l.length:=(List.getElem?_eq_some_iff.1 hy).1
 have hl:((l.take k).map T).length=k:=by simp;omega
 have ht:l.take (k+1)=l.take k++[y]:=by rw [List.take_add_one,hy];rfl
 have hd:l.drop k=y::l.drop (k+1):=by
  rw [List.drop_eq_getElem_cons hk]
  have:l[k]=y:=by rw [List.getElem?_eq_getElem hk] at hy;exact Option.some.inj hy
  rw [this]
 unfold updF
 rw [ht,hd,List.map_append,List.append_assoc,List.set_append_right _ _ (by omega),hl,Nat.sub_self]
 rfl
theorem updF_same {y:α} (hy:l[k]?=some y) (ht:T y=y):updF T l (k+1)=updF T l k:=by
 rw [updF_succ hy,ht]
 obtain ⟨hk,e⟩:=List.getElem?_eq_some_iff.1 (updF_get (T:=T) hy)
 exact (congrArg _ e.symm).trans (List.set_getElem_self hk)
end
theorem OwnL.slv {α:Type} {sz e base:Nat} {enc:α→List Value} {w:World} {a:Option Addr} {n c:Nat} {l:List α} (h:OwnL sz enc e base w (.slice a n c) l) (hsz:∀ y,(enc y).length=sz):Sl sz enc w a n l:=by
 obtain ⟨a',c',e',r',_⟩:=h.rd hsz
 simp only [Value.slice.injEq] at e'
 obtain ⟨rfl,rfl,rfl⟩:=e'
 exact Rd.mono r' (fun _ hk=>hk.2)
end Go.Proofs.YtalmjklljofhbaaGreatDoor
