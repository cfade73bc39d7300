/- Texts for TopSurvivesProof. -/
import Derived.Test.YthcholmhmcpooaaGreatDoorTopSurvivesProofL27
import Derived.Test.YthcholmhmcpooaaGreatDoorTopSurvivesProofL28
set_option linter.unusedSimpArgs false
set_option linter.unusedVariables false

namespace Go.Proofs.YthcholmhmcpooaaGreatDoor
open Go.RowKit
theorem Tryz.infoIo:(Tryz.prog.info? 242).map (fun i=>(i.zero,i.size,i.bytes))=some (some (.agg #[.int .i64 0,.int .i64 0]),2,16):=by kernel_rfl
theorem clone_in (a:Option Addr) (n c:Nat) (l:List (Int×Int)) (w:World) (h:Sl 2 encS w a n l) (hn:n≤8796093022208) :
  Calls Tryz.prog 155 #[.slice a n c] w fun e w'=>∃ v,e=.returned v∧OwnL 2 encS 242 w.heap.size w' v l∧Ex w w':=by
 have HL:=lH h.len
 cases a with
 | none =>
  have hn0:n=0:=by
   rcases h.2 with h0 | ⟨x,o,e,_⟩
   ·exact h0
   ·cases e
  have hl:l=[]:=List.eq_nil_of_length_eq_zero (HL.out.trans hn0)
  subst hn0 hl
  clear h HL
  have hq:∀ w:World,(binOp .eql 54 (.slice none 0 c) (.slice none 0 0)).run Tryz.prog w=.ok (.bool true) w:=fun w=>Lib.run_eql_slice_nil w 54 242 none 0 c 0 0 Tryz.underlying54
  go_enter Tryz.func155,Tryz.ntmps155
  go_wp2
  go_ret
  exact ⟨_,rfl,OwnL.nil _ _ _ _ _,Ex.refl _⟩
 | some A =>
  have q0:=Ex.new w (.cells #[] 242)
  have h0:=h.nx q0
  have own0:OwnL 2 encS 242 w.heap.size (w.alloc (.cells #[] 242)) (.slice (some ⟨w.heap.size,0,none⟩) 0 0) []:=OwnL.empty (Nat.le_refl _) rfl
  clear h
  have hq:∀ w:World,(binOp .eql 54 (.slice (some A) n c) (.slice none 0 0)).run Tryz.prog w=.ok (.bool false) w:=fun w=>Lib.run_eql_slice_nil w 54 242 (some A) n c 0 0 Tryz.underlying54
  go_enter Tryz.func155,Tryz.ntmps155
  go_wp2_with (at_builtin;(refine wpList_append_rqW (enc:=encS) _ rfl _ _ 54 rfl w.heap.size 242 (.agg #[.int .i64 0,.int .i64 0]) 2 16 Tryz.underlying54 Tryz.infoIo rfl (by omega) (by omega) _ [] own0 rfl (some A) n c l h0 (fun _=>rfl) (by simp [encS,Value.oneCell']) rfl (by omega) (by simp;omega) (by simp) ?_);intro v1 w1 own1 hch0 hch1)
  go_ret
  exact ⟨_,rfl,by simpa using own1,Chg.trans q0 hch1⟩
def FlOwn (base:Nat) (w:World) (v m:Value) (qs:List PQ) (F:Fl):Prop:=OwnPr base w v qs F.peers∧OwnL 2 encS 242 base w m F.msgs
def FlPost (F:Fl) (w:World) (e:Ending) (w':World):Prop:=∃ (v m:Value) (qs:List PQ),e=.returned (.agg #[v,m])∧FlOwn w.heap.size w' v m qs F∧Ex w w'
theorem FlOwn.nx {base:Nat} {w w':World} {v m:Value} {qs:List PQ} {F:Fl} (h:FlOwn base w v m qs F) (k:Ex w w'):FlOwn base w' v m qs F:=⟨h.1.nx k,h.2.nx k⟩
theorem FlOwn.nxb {base b:Nat} {w w':World} {v m:Value} {qs:List PQ} {F:Fl} (h:FlOwn base w v m qs F) (hb:b<base) (k:Exb b w w'):FlOwn base w' v m qs F:=⟨h.1.nxb hb k,h.2.nxb hb k⟩
theorem FlOwn.lower {base base':Nat} {w:World} {v m:Value} {qs:List PQ} {F:Fl} (h:FlOwn base w v m qs F) (hb:base'≤base):FlOwn base' w v m qs F:=⟨h.1.lower hb,h.2.base hb⟩
theorem FlOwn.nil (base:Nat) (w:World):FlOwn base w (.slice none 0 0) (.slice none 0 0) [] ⟨[],[]⟩:=⟨OwnP.nil _ _ _ _ _,OwnL.nil _ _ _ _ _⟩
theorem cop_no {N:List Nd} {f:Fl} (h:¬ checkN N=0):copF N f=⟨[],[]⟩:=by unfold copF;rw [if_neg h]
theorem cop_yes {N:List Nd} {f:Fl} (h:checkN N=0):copF N f=⟨normalN N f.peers,f.msgs⟩:=by unfold copF;rw [if_pos h]
set_option maxRecDepth 100000 in
set_option maxHeartbeats 8000000 in
theorem normal_f (a:Option Addr) (n c:Nat) (N:List Nd) (a2:Option Addr) (n2 c2:Nat) (P:List Pr) (a3:Option Addr) (n3 c3:Nat) (M:List (Int×Int)) (w:World) (h:Sl 3 encN w a n N) (hn:n≤1000) (hc:n≤c) (hm:c≤maxLen) (h2:PL w a2 n2 P) (hn2:n2≤4000000000000000000) (hP:SmallP P)
  (h3:Sl 2 encS w a3 n3 M) (hn3:n3≤8796093022208) :
  Calls Tryz.prog 148 #[.slice a n c,.agg #[.slice a2 n2 c2,.slice a3 n3 c3]] w (FlPost (copF N ⟨P,M⟩) w):=by
 have SM:=lH hP
 have CY:=lH (fun hh=>cop_yes (N:=N) (f:=⟨P,M⟩) hh)
 have CN:=lH (fun hh=>cop_no (N:=N) (f:=⟨P,M⟩) hh)
 obtain ⟨g3,hg3⟩:∃ g3,g3=w.heap.size:=⟨_,rfl⟩
 obtain ⟨g4,hg4⟩:∃ g4,g4=(w.heap.size+1):=⟨_,rfl⟩
 obtain ⟨w1,hw1⟩:∃ w1,w1=((w.alloc (.cells #[.slice a2 n2 c2,.slice a3 n3 c3] 56)).alloc (.cells #[.slice none 0 0,.slice none 0 0] 56)):=⟨_,rfl⟩
 have kk:Ex w w1:=by rw [hw1];exact (((Ex.refl w).alloc (.cells #[.slice a2 n2 c2,.slice a3 n3 c3] 56)).alloc (.cells #[.slice none 0 0,.slice none 0 0] 56))
 have B3:Blk w1 g3 [.slice a2 n2 c2,.slice a3 n3 c3] 56:=by rw [hw1];simp only [hg3,hg4];have hbk:=((Blk.new w [.slice a2 n2 c2,.slice a3 n3 c3] 56).nx (Ex.new _ (.cells #[.slice none 0 0,.slice none 0 0] 56)));simpa using hbk
 have B4:Blk w1 g4 [.slice none 0 0,.slice none 0 0] 56:=by rw [hw1];simp only [hg3,hg4];have hbk:=(Blk.new (w.alloc (.cells #[.slice a2 n2 c2,.slice a3 n3 c3] 56)) [.slice none 0 0,.slice none 0 0] 56);simpa using hbk
 have Hw1:=lH hw1
 have Hg3:=lH hg3
 have Hg4:=lH hg4
 replace h:=h.nx kk
 replace h2:=h2.nx kk
 replace h3:=h3.nx kk
 have zg4:w.heap.size≤g4:=by omega
 have K1:=lH kk
 clear kk hw1 hg3 hg4 hP
 go_enter Tryz.func148,Tryz.ntmps148
 go_upto_region 1 with fail
 rw [← Hw1.out,← Hg4.out,← Hg3.out]
 clear Hw1 Hg4 Hg3
 go_wp2_with fail
 (with_reducible refine (check_p _ _ _ _ _ h (by omega) hc hm).mono ?_)
 rintro e w2 ⟨rfl,kk⟩
 replace h:=h.nx kk
 replace h2:=h2.nx kk
 replace h3:=h3.nx kk
 replace B3:=B3.nx kk
 replace B4:=B4.nx kk
 have K2:=lH (K1.out.nx kk)
 clear kk
 by_cases hck:checkN N=0
 case neg =>
  have d1:(checkN N != 0)=true:=by simpa using hck
  have E0:=lH (CN.out hck)
  have r0:=B4.cell 0 _ rfl
  have r1:=B4.cell 1 _ rfl
  have f0:=B4.free 0
  have f1:=B4.free 1
  have KE:=lH ((K2.out.setNew (p:=⟨g4,0,none⟩) (.slice none 0 0) zg4).setNew (p:=⟨g4,1,none⟩) (.slice none 0 0) zg4)
  clear h h2 h3 B3 B4 hck CY CN
  go_wp2_with fail
  refine bodyPost_ret (v:=.agg #[.slice none 0 0,.slice none 0 0]) (by simp [results,Tryz.results148,go_sem, *]) rfl ⟨_,_,[],rfl,by rw [E0.out];exact FlOwn.nil _ _,KE.out⟩
 have d1:(checkN N != 0)=false:=by simpa using hck
 have E0:=lH (CY.out hck)
 have HS:=lH h
 have H2:=lH h2
 have H3:=lH h3
 have BB3:=lH B3
 have BB4:=lH B4
 have hb4:=B4.lt
 have zw2:=K2.out.size
 clear h h2 h3 B3 B4 hck CY CN
 go_upto_region 3 with fail
 refine wp_region_late_drew (S:=Ex w2) [8] (by kernel_rfl) ((Ex.refl w2).drew) (fun hHeld=>?_)
 obtain ⟨wd,hwdx⟩:∃ wd:World,wd=World.drew w2:=⟨_,rfl⟩
 rw [← hwdx] at hHeld ⊢
 have hDrew:Ex w2 wd:=by rw [hwdx];exact (Ex.refl w2).drew
 clear hwdx
 refine tkL 0 (v:=?_) rfl (by kernel_rfl) (fun _ _ _ h=>h) (by rfl) ?y5 hHeld ?_
 case y5=>intro wq hSw;go_simp<;>rfl
 refine tkL 1 (v:=?_) rfl (by kernel_rfl) (fun _ _ _ h=>h) (by rfl) ?y8 hHeld ?_
 case y8=>intro wq hSw;go_simp<;>rfl
 refine tkL 2 (v:=?_) rfl (by kernel_rfl) (fun _ _ _ h=>h) (by rfl) ?y11 hHeld ?_
 case y11=>intro wq hSw;(have cq:=(BB3.out.nx hSw).cell 0 _ rfl;go_simp)<;>rfl
 refine tkL 4 (v:=?_) rfl (by kernel_rfl) (fun _ _ _ h=>h) (by rfl) ?y14 hHeld ?_
 case y14=>intro wq hSw;go_simp<;>rfl
 refine tkL 5 (v:=?_) rfl (by kernel_rfl) (fun _ _ _ h=>h) (by rfl) ?y17 hHeld ?_
 case y17=>intro wq hSw;(have cq:=(BB3.out.nx hSw).cell 1 _ rfl;go_simp)<;>rfl
 refine rL 3 (by kernel_rfl) rfl fun K hK=>?_
 go_simp
 (with_reducible refine (normal_p _ _ _ N _ _ _ P _ (HS.out.nx hHeld) hn hc hm (H2.out.nx hHeld) hn2 SM.out).mono ?_)
 rintro e wc ⟨vP,qs,rfl,oP,kk⟩
 (try replace oM:=oM.nx kk)
 obtain ⟨aP,cP,rfl,_,_,_,_,_⟩:=oP.pl
 replace oP:=oP.lower hHeld.size
 replace hHeld:=hHeld.nx kk
 clear kk
 refine hK.out _ _ (hHeld) (fun hHeld=>?_)
 clear hK K
 refine rL 6 (by kernel_rfl) rfl fun K hK=>?_
 go_simp
 (with_reducible refine (clone_in _ _ _ M _ (H3.out.nx hHeld) hn3).mono ?_)
 rintro e wc ⟨vM,rfl,oM,kk⟩
 (try replace oP:=oP.nx kk)
 obtain ⟨aM,cM,rfl,_⟩:=oM.rd (fun _=>rfl)
 replace oM:=oM.base hHeld.size
 replace hHeld:=hHeld.nx kk
 clear kk
 refine hK.out _ _ (hHeld) (fun hHeld=>?_)
 clear hK K
 refine tkL 7 (v:=?_) rfl (by kernel_rfl) (fun _ _ _ h=>h) (by rfl) ?y46 hHeld ?_
 case y46=>intro wq hSw;go_simp<;>rfl
 refine rLL 8 (by kernel_rfl) rfl (by rfl) fun K hK=>?_
 have BQ:=BB4.out.nx hHeld
 have r0:=BQ.cell 0 _ rfl
 have r1:=BQ.cell 1 _ rfl
 have f0:=BQ.free 0
 have f1:=BQ.free 1
 go_simp
 clear r0 r1 f0 f1
 refine hK.out _ _ ?_
 clear hK K
 refine wpAnyL_done (by kernel_rfl) ?_ _
 obtain ⟨wz,hwz⟩:∃ wz,wz=(wc.setCell ⟨g4,0,none⟩ (.slice aP (normalN N P).length cP)).setCell ⟨g4,1,none⟩ (.slice aM M.length cM):=⟨_,rfl⟩
 have BZ:Blk wz g4 [.slice aP (normalN N P).length cP,.slice aM M.length cM] 56:=by rw [hwz];exact (BQ.set 0 _).set 1 _
 have KB:Exb g4 wc wz:=by rw [hwz];exact ((Exb.refl g4 _).setB (p:=⟨g4,0,none⟩) _ rfl).setB (p:=⟨g4,1,none⟩) _ rfl
 have KE:Ex w wz:=by rw [hwz];exact ((K2.out.nx hHeld).setNew (p:=⟨g4,0,none⟩) _ zg4).setNew (p:=⟨g4,1,none⟩) _ zg4
 have FO:=lH (show FlOwn w.heap.size wz (.slice aP (normalN N P).length cP) (.slice aM M.length cM) qs ⟨normalN N P,M⟩ from ⟨(oP.nxb hb4 KB).lower zw2,(oM.nxb hb4 KB).base zw2⟩)
 rw [← hwz]
 have q0:=BZ.cell 0 _ rfl
 have q1:=BZ.cell 1 _ rfl
 have KEH:=lH KE
 clear hwz KB KE oP oM BQ BZ hHeld hDrew
 go_wp2_with fail
 refine bodyPost_ret (v:=.agg #[.slice aP (normalN N P).length cP,.slice aM M.length cM]) (by simp [results,Tryz.results148,go_sem, *]) rfl ⟨_,_,qs,rfl,by rw [E0.out];exact FO.out,KEH.out⟩
theorem tick1_p (gx:Nat) (id:Int) (w:World) (hx:Blk w gx [.int .i64 id] 3):PredI 150 #[.pointer (some ⟨gx,0,none⟩)] id w:=by
 intro p h1 h2 w' kk
 have q0:=(hx.nx kk).cell 0 _ rfl
 have hg:=(hx.nx kk).lt
 have hne:¬ gx=w'.heap.size:=by omega
 obtain ⟨a1,n1,c1⟩:=h1
 obtain ⟨a2,n2,c2⟩:=h2
 simp only [Hdr.val]
 clear hx kk
 go_enter Tryz.func150,Tryz.ntmps150
 go_wp2
 go_ret
 exact ⟨rfl,(Ex.refl _).alloc _⟩
theorem del1_p (gx:Nat) (m:Int×Int) (w:World) (hx:Blk w gx [.int .i64 m.1,.int .i64 m.2] 242):PredI 157 #[.pointer (some ⟨gx,0,none⟩)] m.1 w:=by
 intro p h1 h2 w' kk
 have q0:=(hx.nx kk).cell 0 _ rfl
 have hg:=(hx.nx kk).lt
 have hne:¬ gx=w'.heap.size:=by omega
 obtain ⟨a1,n1,c1⟩:=h1
 obtain ⟨a2,n2,c2⟩:=h2
 simp only [Hdr.val]
 clear hx kk
 go_enter Tryz.func157,Tryz.ntmps157
 go_wp2
 go_ret
 exact ⟨rfl,(Ex.refl _).alloc _⟩
theorem new_f (a:Option Addr) (n c:Nat) (N:List Nd) (a2:Option Addr) (n2 c2:Nat) (P:List Pr) (w:World) (h:Sl 3 encN w a n N) (hn:n≤1000) (hc:n≤c) (hm:c≤maxLen) (h2:PL w a2 n2 P) (hn2:n2≤4000000000000000000) (hP:SmallP P) :
  Calls Tryz.prog 23 #[.slice a n c,.slice a2 n2 c2] w (FlPost ⟨normalN N P,[]⟩ w):=by
 have SM:=lH hP
 have B4:=Blk.new w [.slice none 0 0,.slice none 0 0] 56
 have kk:=Ex.new w (.cells #[.slice none 0 0,.slice none 0 0] 56)
 obtain ⟨w1,hw1⟩:∃ w1,w1=w.alloc (.cells #[.slice none 0 0,.slice none 0 0] 56):=⟨_,rfl⟩
 obtain ⟨g4,hg4⟩:∃ g4,g4=w.heap.size:=⟨_,rfl⟩
 replace B4:Blk w1 g4 [.slice none 0 0,.slice none 0 0] 56:=by rw [hw1,hg4];exact B4
 rw [← hw1] at kk
 have Hw1:=lH hw1
 have Hg4:=lH hg4
 replace h:=h.nx kk
 replace h2:=h2.nx kk
 have zg4:w.heap.size≤g4:=by omega
 have hb4:=B4.lt
 have K1:=lH kk
 clear kk hw1 hg4 hP
 go_enter Tryz.func23,Tryz.ntmps23
 go_upto_region 1 with fail
 rw [← Hg4.out,← Hw1.out]
 clear Hg4 Hw1
 go_wp2_with fail
 (with_reducible refine (normal_p _ _ _ N _ _ _ P _ h hn hc hm h2 hn2 SM.out).mono ?_)
 rintro e w2 ⟨vP,qs,rfl,oP,kk⟩
 replace B4:=B4.nx kk
 obtain ⟨aP,cP,rfl,_,_,_,_,_⟩:=oP.pl
 have r0:=B4.cell 0 _ rfl
 have r1:=B4.cell 1 _ rfl
 have f0:=B4.free 0
 have f1:=B4.free 1
 have K2:=lH (K1.out.nx kk)
 have OP:=lH oP
 have B4H:=lH B4
 clear kk h h2 oP B4
 go_wp2_with fail
 obtain ⟨wz,hwz⟩:∃ wz,wz=(w2.setCell ⟨g4,0,none⟩ (.slice aP (normalN N P).length cP)).setCell ⟨g4,1,none⟩ (.slice none 0 0):=⟨_,rfl⟩
 have BZ:Blk wz g4 [.slice aP (normalN N P).length cP,.slice none 0 0] 56:=by rw [hwz];exact (B4H.out.set 0 _).set 1 _
 have KB:Exb g4 w2 wz:=by rw [hwz];exact ((Exb.refl g4 _).setB (p:=⟨g4,0,none⟩) _ rfl).setB (p:=⟨g4,1,none⟩) _ rfl
 have KE:Ex w wz:=by rw [hwz];exact (K2.out.setNew (p:=⟨g4,0,none⟩) _ zg4).setNew (p:=⟨g4,1,none⟩) _ zg4
 have FO:=lH (show FlOwn w.heap.size wz (.slice aP (normalN N P).length cP) (.slice none 0 0) qs ⟨normalN N P,[]⟩ from ⟨(OP.out.nxb hb4 KB).lower K1.out.size,OwnL.nil _ _ _ _ _⟩)
 rw [← hwz]
 have q0:=BZ.cell 0 _ rfl
 have q1:=BZ.cell 1 _ rfl
 clear r0 r1 f0 f1 hwz
 refine bodyPost_ret (v:=.agg #[.slice aP (normalN N P).length cP,.slice none 0 0]) (by simp [results,Tryz.results23,go_sem, *]) rfl ⟨_,_,qs,rfl,FO.out,KE⟩
def headP (l:List Int) (m:Nat):Nat:=match l with
 | []=>0
 | x::_=>(x % (m:Int)).toNat
theorem head_pick (l:List Int) (i m:Nat):pickN l i m=headP (l.drop i) m:=by
 unfold pickN headP
 by_cases h:i<l.length
 ·rw [List.drop_eq_getElem_cons h,List.getElem?_eq_getElem h]
 ·rw [List.drop_of_length_le (by omega),List.getElem?_eq_none (by omega)]
theorem head_lt (l:List Int) {m:Nat} (hm:0<m):headP l m<m:=by
 have:=pick_lt l 0 hm
 rw [head_pick] at this
 exact this
def TurnB (w0 w:World) (g:Nat) (l:List Int):Prop:=∃ (a:Option Addr) (n c:Nat),Blk w g [.slice a n c] 22∧Sl 1 encI w0 a n l∧n≤c∧c≤maxLen
theorem TurnB.nx {w0 w w':World} {g:Nat} {l:List Int} (h:TurnB w0 w g l) (k:Ex w w'):TurnB w0 w' g l:=by
 obtain ⟨a,n,c,h1,h2⟩:=h
 exact ⟨a,n,c,h1.nx k,h2⟩
theorem TurnB.nxb {w0 w w':World} {g b:Nat} {l:List Int} (h:TurnB w0 w g l) (hb:g≠b) (k:Exb b w w'):TurnB w0 w' g l:=by
 obtain ⟨a,n,c,h1,h2⟩:=h
 exact ⟨a,n,c,h1.nxb hb k,h2⟩
theorem TurnB.lt {w0 w:World} {g:Nat} {l:List Int} (h:TurnB w0 w g l):g<w.heap.size:=by
 obtain ⟨a,n,c,h1,h2⟩:=h
 exact h1.lt
theorem tmod_two {x n:Int} (hn:1≤n):(x.tmod n+n) % n=x % n:=by
 obtain ⟨h1,h2⟩:=tmod_bounds x n hn
 have h3:=emod_of_tmod x n hn
 have h4:=Int.emod_nonneg x (show n≠0 by omega)
 have h5:=Int.emod_lt_of_pos x (show 0<n by omega)
 have e:(x.tmod n+n) % n=x % n:=by
  rw [Int.add_emod_right]
  split at h3
  ·rw [show x.tmod n=x % n-n by omega,Int.sub_emod_right,Int.emod_emod_of_dvd x (Int.dvd_refl n)]
  ·rw [← h3,Int.emod_emod_of_dvd x (Int.dvd_refl n)]
 exact e
set_option maxHeartbeats 2000000 in
theorem turn_f (gT m:Nat) (l:List Int) (w0 w:World) (h:TurnB w0 w gT l) (k0:Ex w0 w) (hm:0<m) (hm2:m≤1000000000) (hg:w0.heap.size≤gT) :
  Calls Tryz.prog 209 #[.int .i64 m,.pointer (some ⟨gT,0,none⟩)] w fun e w'=>e=.returned (.int .i64 (headP l m:Nat))∧TurnB w0 w' gT l.tail∧Exb gT w w':=by
 obtain ⟨a,n,c,B,S,hc,hcm⟩:=h
 have q0:=B.cell 0 _ rfl
 have f0:=B.free 0
 have BH:=lH B
 have SH:=lH S
 clear B S
 unfold maxLen at hcm
 cases l with
 | nil =>
  obtain rfl:n=0:=by have:=SH.out.len;simpa using this.symm
  have R:=lH (show TurnB w0 w gT [] from ⟨a,0,c,BH.out,SH.out,by omega,by unfold maxLen;omega⟩)
  clear hc hcm
  go_enter Tryz.func209,Tryz.ntmps209
  go_wp2_with fail
  go_ret
  exact ⟨rfl,R.out,Exb.refl gT _⟩
 | cons x r =>
  obtain ⟨k,rfl⟩:∃ k,n=k+1:=⟨n-1,by have:=SH.out.len;simp at this;omega⟩
  obtain ⟨xb,o,y,rfl,hxb,hy,hcell⟩:=SH.out.at (show 0<k+1 by omega)
  simp only [List.getElem?_cons_zero,Option.some.injEq] at hy
  subst hy
  have e0:w0.cell? ⟨xb,o+0*1+0,none⟩=some (.int .i64 x):=hcell 0 _ rfl
  have e1:w.cell? ⟨xb,o,none⟩=some (.int .i64 x):=by
   have:=Chg.cellv k0 e0 hxb
   simpa using this
  obtain ⟨h1,h2⟩:=tmod_bounds x m (by omega)
  have jw:IntKind.i64.wrap (x.tmod (m:Int)+(m:Int))=x.tmod (m:Int)+(m:Int):=IntWalk.i64_in _ (by omega)
  have H3:=lH (tmod_two (x:=x) (n:=m) (by omega))
  have hk1:¬ ((k:Int)+1=0):=by omega
  have hk2:(1:Int)≤(k:Int)+1:=by omega
  have hk3:(0:Int)<(k:Int)+1:=by omega
  have hk4:((k:Int)+1==0)=false:=by rw [beq_eq_false_iff_ne];omega
  have hc2:(k:Int)+1≤(c:Int):=by omega
  have hne:¬ gT=xb:=by omega
  have hm0:¬ (m:Int)=0:=by omega
  have hm3:((m:Int)==0)=false:=by rw [beq_eq_false_iff_ne];omega
  have hp:((headP (x::r) m:Nat):Int)=x % (m:Int):=by
   have:=Int.emod_nonneg x (show (m:Int)≠0 by omega)
   show (((x % (m:Int)).toNat:Nat):Int)=_
   omega
  have HP:=lH hp
  have SD:Hid (Sl 1 encI w0 (if c=1 then some ⟨xb,o,none⟩ else some ⟨xb,o+1,none⟩) k r):=lH (by
   split
   ·have hk0:k=0:=by omega
    subst hk0
    have hr:=SH.out.len
    have hr:r=[]:=by simpa using hr
    subst hr
    exact ⟨rfl,.inl rfl⟩
   ·have:=Sl.drop SH.out (m:=1) (by simp)
    simpa using this)
  clear e0 hcell SH hp
  by_cases hc1:c=1
  ·subst hc1
   obtain rfl:k=0:=by omega
   have R:=lH (show TurnB w0 (w.setCell ⟨gT,0,none⟩ (.slice (some ⟨xb,o,none⟩) 0 (0))) gT r from ⟨_,0,0,BH.out.set 0 _,by have:=SD.out;rw [if_pos rfl] at this;exact this,by omega,by unfold maxLen;omega⟩)
   have KB:=lH (show Exb gT w (w.setCell ⟨gT,0,none⟩ (.slice (some ⟨xb,o,none⟩) 0 (0))) from (Exb.refl gT _).setB (p:=⟨gT,0,none⟩) _ rfl)
   clear SD
   go_enter Tryz.func209,Tryz.ntmps209
   go_wp2_with fail
   go_ret
   exact ⟨by rw [HP.out,H3.out];rfl,R.out,KB.out⟩
  ·have hc9:¬ 1=c:=fun h=>hc1 h.symm
   have R:=lH (show TurnB w0 (w.setCell ⟨gT,0,none⟩ (.slice (some ⟨xb,o+1,none⟩) k (c-1))) gT r from ⟨_,k,c-1,BH.out.set 0 _,by have:=SD.out;rw [if_neg hc1] at this;exact this,by omega,by unfold maxLen;omega⟩)
   have KB:=lH (show Exb gT w (w.setCell ⟨gT,0,none⟩ (.slice (some ⟨xb,o+1,none⟩) k (c-1))) from (Exb.refl gT _).setB (p:=⟨gT,0,none⟩) _ rfl)
   clear SD
   go_enter Tryz.func209,Tryz.ntmps209
   go_wp2_with fail
   go_ret
   exact ⟨by rw [HP.out,H3.out];rfl,R.out,KB.out⟩
theorem turns_f (a:Option Addr) (n c:Nat) (l:List Int) (w0 w:World) (h:Sl 1 encI w0 a n l) (hc:n≤c) (hm:c≤maxLen) :
  Calls Tryz.prog 161 #[.slice a n c] w fun e w'=>∃ g,e=.returned (.func (.func 209) #[] #[.pointer (some ⟨g,0,none⟩)])∧w.heap.size≤g∧Ex w w'∧TurnB w0 w' g l:=by
 have B1:=Blk.new w [.slice a n c] 22
 have kk:=Ex.new w (.cells #[.slice a n c] 22)
 obtain ⟨w1,hw1⟩:∃ w1,w1=w.alloc (.cells #[.slice a n c] 22):=⟨_,rfl⟩
 obtain ⟨g1,hg1⟩:∃ g1,g1=w.heap.size:=⟨_,rfl⟩
 replace B1:Blk w1 g1 [.slice a n c] 22:=by rw [hw1,hg1];exact B1
 rw [← hw1] at kk
 have Hw1:=lH hw1
 have Hg1:=lH hg1
 have R:=lH (show TurnB w0 w1 g1 l from ⟨a,n,c,B1,h,hc,hm⟩)
 have K1:=lH kk
 have zg:w.heap.size≤g1:=by omega
 clear kk hw1 hg1 B1 h
 go_enter Tryz.func161,Tryz.ntmps161
 go_upto_region 1 with fail
 rw [← Hg1.out,← Hw1.out]
 clear Hg1 Hw1
 go_wp2_with fail
 go_ret
 exact ⟨_,rfl,zg,K1.out,R.out⟩
def PrVS (S:Nat→Prop) (w:World) (q:PQ) (p:Pr):Prop:=q.1=p.nums∧Rd 1 encI S w q.2.1.1 q.2.1.2.1 p.known∧Rd 4 encNr S w q.2.2.1 q.2.2.2.1 p.near
def PLS (S:Nat→Prop) (w:World) (a:Option Addr) (n:Nat) (P:List Pr):Prop:=∃ qs:List PQ,Rd 5 encQ S w a n qs∧P.length=n∧∀ (j:Nat) (q:PQ) (p:Pr),qs[j]?=some q→P[j]?=some p→PrVS S w q p
section
variable {S S':Nat→Prop} {w w':World} {a:Option Addr} {n:Nat} {P:List Pr}
theorem PLS.chg (h:PLS S w a n P) (k:Chg S' w w') (hs:∀ x,S x→S' x):PLS S w' a n P:=by
 obtain ⟨qs,h1,h2,h3⟩:=h
 refine ⟨qs,Rd.chg h1 k hs,h2,fun j q p hq hp=>?_⟩
 obtain ⟨r1,r2,r3⟩:=h3 j q p hq hp
 exact ⟨r1,Rd.chg r2 k hs,Rd.chg r3 k hs⟩
theorem PLS.mono (h:PLS S w a n P) (hs:∀ x,S x→S' x):PLS S' w a n P:=by
 obtain ⟨qs,h1,h2,h3⟩:=h
 refine ⟨qs,Rd.mono h1 hs,h2,fun j q p hq hp=>?_⟩
 obtain ⟨r1,r2,r3⟩:=h3 j q p hq hp
 exact ⟨r1,Rd.mono r2 hs,Rd.mono r3 hs⟩
theorem PL.pls (h:PL w a n P):PLS (· < w.heap.size) w a n P:=h
theorem PLb.pls {b:Nat} (h:PLb b w a n P):PLS (fun k=>k<w.heap.size∧k≠b) w a n P:=h
theorem PLS.pl (h:PLS S w a n P) (hs:∀ x,S x→x<w.heap.size):PL w a n P:=h.mono hs
end
theorem OwnP.pls {eP eI eN:TypeId} {base:Nat} {w:World} {v:Value} {qs:List PQ} {P:List Pr} (h:OwnP eP eI eN base w v qs P) :
  ∃ a cap,v=.slice a P.length cap∧PLS (fun k=>base≤k∧k<w.heap.size) w a P.length P:=by
 obtain ⟨a,cap,e,r,c1,c2,c3,c4⟩:=h.1.rd encQ_len
 rw [h.2.1] at e r
 refine ⟨a,cap,e,qs,r,rfl,fun j q p hq hp=>?_⟩
 obtain ⟨r1,r2,r3⟩:=h.2.2.1 j q p hq hp
 refine ⟨r1,?_,?_⟩
 ·obtain ⟨a',cap',e',r',_⟩:=r2.rd (fun _=>rfl)
  obtain ⟨q0,⟨x1,x2,x3⟩,hn⟩:=q
  simp only [Hdr.val,Value.slice.injEq] at e'
  obtain ⟨rfl,rfl,rfl⟩:=e'
  exact r'
 ·obtain ⟨a',cap',e',r',_⟩:=r3.rd (fun _=>rfl)
  obtain ⟨q0,hk,⟨x1,x2,x3⟩⟩:=q
  simp only [Hdr.val,Value.slice.injEq] at e'
  obtain ⟨rfl,rfl,rfl⟩:=e'
  exact r'
def FlX (X:Nat→Prop) (w:World) (aP aM:Option Addr) (F:Fl):Prop :=
 PLS (fun k=>k<w.heap.size∧¬ X k) w aP F.peers.length F.peers∧Rd 2 encS (fun k=>k<w.heap.size∧¬ X k) w aM F.msgs.length F.msgs
section
variable {X X':Nat→Prop} {w w':World} {aP aM:Option Addr} {F:Fl}
theorem FlX.chg (h:FlX X w aP aM F) {S':Nat→Prop} (k:Chg S' w w') (hs:∀ x,x<w.heap.size∧¬ X x→S' x):FlX X w' aP aM F :=
 ⟨(PLS.chg h.1 k hs).mono (fun x hx=>⟨Nat.lt_of_lt_of_le hx.1 k.size,hx.2⟩),(Rd.chg h.2 k hs).mono (fun x hx=>⟨Nat.lt_of_lt_of_le hx.1 k.size,hx.2⟩)⟩
theorem FlX.nx (h:FlX X w aP aM F) (k:Ex w w'):FlX X w' aP aM F:=h.chg k (fun x hx=>hx.1)
theorem FlX.nxb {b:Nat} (h:FlX X w aP aM F) (hb:X b) (k:Exb b w w'):FlX X w' aP aM F:=h.chg k (fun x hx=>⟨hx.1,fun e=>hx.2 (e▸hb)⟩)
theorem FlX.set (h:FlX X w aP aM F) {p:Addr} (v:Value) (hp:X p.block):FlX X (w.setCell p v) aP aM F :=
 h.chg (S':=(·≠p.block)) ((Chg.refl (·≠p.block) w).setCell v (fun k hk=>hk)) (fun x hx e=>hx.2 (e▸hp))
theorem FlX.mono (h:FlX X w aP aM F) (hs:∀ k,k<w.heap.size→X' k→X k):FlX X' w aP aM F :=
 ⟨h.1.mono (fun x hx=>⟨hx.1,fun e=>hx.2 (hs x hx.1 e)⟩),Rd.mono h.2 (fun x hx=>⟨hx.1,fun e=>hx.2 (hs x hx.1 e)⟩)⟩
theorem FlX.pl (h:FlX X w aP aM F):PL w aP F.peers.length F.peers:=h.1.pl (fun _ hx=>hx.1)
theorem FlX.sl (h:FlX X w aP aM F):Sl 2 encS w aM F.msgs.length F.msgs:=Rd.mono h.2 (fun _ hx=>hx.1)
theorem FlOwn.flx {base:Nat} {v m:Value} {qs:List PQ} (h:FlOwn base w v m qs F) (hX:∀ k,X k→k<base):∃ aP cP aM cM,v=.slice aP F.peers.length cP∧m=.slice aM F.msgs.length cM∧FlX X w aP aM F:=by
 obtain ⟨aP,cP,e1,r1⟩:=h.1.pls
 obtain ⟨aM,cM,e2,r2,_⟩:=h.2.rd (fun _=>rfl)
 exact ⟨aP,cP,aM,cM,e1,e2,r1.mono (fun x hx=>⟨hx.2,fun e=>by have:=hX x e;have:=hx.1;omega⟩),r2.mono (fun x hx=>⟨hx.2,fun e=>by have:=hX x e;have:=hx.1;omega⟩)⟩
theorem FlX.of {b:Nat} (h1:PLb b w aP F.peers.length F.peers) (h2:Slb 2 encS b w aM F.msgs.length F.msgs):FlX (· = b) w aP aM F:=⟨h1.pls,h2⟩
end
theorem left_t {b:Nat} (w:World) (h:TK w b):Calls Tryz.prog 79 #[.pointer (some ⟨b,0,none⟩)] w fun e w'=>∃ r:Bool,e=.returned (.bool r)∧TK w' b∧Ex w w':=by
 have T:=h
 obtain ⟨a,cap,i,x,o,l,h1,h2,h3,h4,h5⟩:=h
 have q0:w.cell? ⟨b,0,none⟩=some (.slice a l.length cap):=(cells2 h1).1
 have q1:w.cell? ⟨b,1,none⟩=some (.int .i64 i):=(cells2 h1).2.1
 have hl:l.length≤600:=h3
 have TH:=lH T
 clear h1 h2 h3 h4 h5 T
 generalize l.length=n at q0 hl
 go_enter Tryz.func79,Tryz.ntmps79
 go_wp2_with fail
 go_quiet (fail)
 go_wp2_with fail
 go_ret
 exact ⟨_,rfl,TH.out.nx ((Ex.refl _).drewN _),(Ex.refl _).drewN _⟩
def exactI (N:List Nd) (L:List Lkd) (h:Int):Bool:=(buildN N h).2==0&&decide (L=(buildN N h).1)
def hasN (v:Int):Nat:=if v=0 then 0 else 1
def tieN (N:List Nd) (id:Int) (m:Nat):Nat:=((List.range m).map fun (i:Nat)=>hasN (neighN N id i).1.1+hasN (neighN N id i).1.2).sum
def removeN (N:List Nd) (L:List Lkd) (id h:Int):List Lkd×Nat×Int :=
 if lvlN h=false then ([],0,2)
 else if exactI N L h=false then ([],0,1)
 else if (findN N id).2=false then ([],0,6)
 else ((buildN (dropN N id) h).1,tieN N id (h.toNat+1),0)
section
variable {N:List Nd}
theorem tieN_succ (N:List Nd) (id:Int) (j:Nat):tieN N id (j+1)=tieN N id j+(hasN (neighN N id j).1.1+hasN (neighN N id j).1.2):=by unfold tieN;simp [List.range_succ]
theorem exactI_yes {L:List Lkd} {h:Int} (he:exactI N L h=true):checkN N=0∧lvlN h=true∧L=(buildN N h).1:=by
 unfold exactI at he
 rw [Bool.and_eq_true,beq_iff_eq,decide_eq_true_eq] at he
 obtain ⟨h1,h2⟩:=he
 unfold buildN at h1
 split at h1
 ·cases h1
 rename_i h3
 split at h1
 ·cases h1
 rename_i h4
 exact ⟨by simpa using h3,by simpa using h4,h2⟩
theorem with_drop (id:Int):withoutN N [id]=dropN N id:=by
 unfold withoutN dropN
 refine List.filter_congr fun x _=>?_
 by_cases h:x.id=id<;>simp [h]
theorem tie_small (N:List Nd) (id:Int):∀ m,tieN N id m≤2*m
 | 0=>by simp [tieN]
 | m+1=>by
  have:=tie_small N id m
  have h1:∀ v,hasN v≤1:=fun v=>by unfold hasN;split<;>omega
  have:=h1 (neighN N id m).1.1
  have:=h1 (neighN N id m).1.2
  rw [tieN_succ]
  omega
end
end Go.Proofs.YthcholmhmcpooaaGreatDoor
namespace Go.Proofs.YthcholmhmcpooaaGreatDoor
open Go.RowKit Go.Shelf
theorem enc2 (y:Int×Hdr):(encP encI y).length=2:=rfl
theorem enc2_one (y:Int×Hdr):∀ u∈encP encI y,u.oneCell'=true:=by simp [encP,encI,Hdr.val,Value.oneCell']
theorem clone_lv (a:Option Addr) (n c:Nat) (l:List (Int×Int)) (w:World) (h:Sl 2 encS w a n l) (hn:n≤8796093022208) :
  Calls Tryz.prog 175 #[.slice a n c] w fun e w'=>∃ v,e=.returned v∧OwnL 2 encS 128 w.heap.size w' v l∧Ex w w':=by
 have HL:=lH h.len
 cases a with
 | none =>
  have hn0:n=0:=by
   rcases h.2 with h0 | ⟨x,o,e,_⟩
   ·exact h0
   ·cases e
  have hl:l=[]:=List.eq_nil_of_length_eq_zero (HL.out.trans hn0)
  subst hn0 hl
  clear h HL
  have hq:∀ w:World,(binOp .eql 119 (.slice none 0 c) (.slice none 0 0)).run Tryz.prog w=.ok (.bool true) w:=fun w=>Lib.run_eql_slice_nil w 119 128 none 0 c 0 0 Tryz.underlying119
  go_enter Tryz.func175,Tryz.ntmps175
  go_wp2
  go_ret
  exact ⟨_,rfl,OwnL.nil _ _ _ _ _,Ex.refl _⟩
 | some A =>
  have q0:=Ex.new w (.cells #[] 128)
  have h0:=h.nx q0
  have own0:OwnL 2 encS 128 w.heap.size (w.alloc (.cells #[] 128)) (.slice (some ⟨w.heap.size,0,none⟩) 0 0) []:=OwnL.empty (Nat.le_refl _) rfl
  clear h
  have hq:∀ w:World,(binOp .eql 119 (.slice (some A) n c) (.slice none 0 0)).run Tryz.prog w=.ok (.bool false) w:=fun w=>Lib.run_eql_slice_nil w 119 128 (some A) n c 0 0 Tryz.underlying119
  go_enter Tryz.func175,Tryz.ntmps175
  go_wp2_with (at_builtin;(refine wpList_append_rqW (enc:=encS) _ rfl _ _ 119 rfl w.heap.size 128 (.agg #[.int .i64 0,.int .i64 0]) 2 16 Tryz.underlying119 Tryz.infoLk rfl (by omega) (by omega) _ [] own0 rfl (some A) n c l h0 (fun _=>rfl) (by simp [encS,Value.oneCell']) rfl (by omega) (by simp;omega) (by simp) ?_);intro v1 w1 own1 hch0 hch1)
  go_ret
  exact ⟨_,rfl,by simpa using own1,Chg.trans q0 hch1⟩
def CloRel (L:List Lkd) (n:Nat) (w:World) (o i:Value) (wr:World):Prop :=
 ∃ (k:Nat) (qs:List (Int×Hdr)),k≤n∧i=.int .i64 k∧OwnLk w.heap.size wr o qs (L.take k)∧Ex w wr
theorem litLd (u:World) (id:Int) (hd:Hdr):∃ g v,g=u.heap.size∧v=u.alloc (.cells #[.int .i64 id,hd.val] 121)∧Sl 2 (encP encI) v (some ⟨g,0,none⟩) 1 [(id,hd)]∧Ex u v :=
 ⟨_,_,rfl,rfl,Sl.lit [(id,hd)] rfl rfl (fun _=>rfl) rfl,Ex.new _ _⟩
set_option maxRecDepth 100000 in
set_option maxHeartbeats 4000000 in
theorem clo_p (a:Option Addr) (n c:Nat) (L:List Lkd) (w:World) (h:LkL w a n L) (hn:n≤1000) (hs:∀ c∈L,c.2.length≤1000000) :
  Calls Tryz.prog 111 #[.slice a n c] w fun e w'=>∃ v qs,e=.returned v∧OwnLk w.heap.size w' v qs L∧Ex w w':=by
 have HL:=lH h.len
 have HS:=lH h
 have HSS:=lH hs
 clear h hs
 go_enter Tryz.func111,Tryz.ntmps111
 go_wp2_with fail
 go_loopw [3,8] (fun o i wr=>CloRel L n w o i wr) (fun _ i _=>n-(intOf i).toNat)
 case atStart=>exact ⟨0,[],by omega,rfl,OwnN.nil _ _ _ _ _ _ _ _,Ex.refl _⟩
 case round =>
  obtain ⟨k,qs,hk,rfl,own,kw⟩:=hrel
  obtain ⟨wi,rfl⟩:∃ wi:World,wi=wr:=⟨_,rfl⟩
  have OWN:=lH own
  have KW:=lH kw
  by_cases hkn:k<n
  ·obtain ⟨x,o,a',n',c',d,rfl,hx,hd,hc,sr⟩:=(HS.out.nx kw).at hkn
   have e0:wi.cell? ⟨x,o+k*2,none⟩=some (.int .i64 d.1):=hc 0 _ rfl
   have e1:wi.cell? ⟨x,o+k*2+1,none⟩=some (.slice a' n' c'):=hc 1 _ rfl
   have hdl:=HSS.out d (List.mem_of_getElem? hd)
   have hn':n'≤8796093022208:=by have:=sr.len;omega
   have SR:=lH sr
   have TK:Hid (L.take (k+1)=L.take k++[d]):=lH (by rw [List.take_add_one,hd];rfl)
   have hql:qs.length=k:=by rw [own.2.1,List.length_take];have:=HL.out;omega
   have zw:=kw.size
   clear hc sr hd own kw
   have B5:=Blk.new wi [.int .i64 d.1,.slice a' n' c'] 121
   have kk:=Ex.new wi (.cells #[.int .i64 d.1,.slice a' n' c'] 121)
   obtain ⟨w1,hw1⟩:∃ w1,w1=wi.alloc (.cells #[.int .i64 d.1,.slice a' n' c'] 121):=⟨_,rfl⟩
   obtain ⟨g5,hg5⟩:∃ g5,g5=wi.heap.size:=⟨_,rfl⟩
   replace B5:Blk w1 g5 [.int .i64 d.1,.slice a' n' c'] 121:=by rw [hw1,hg5];exact B5
   rw [← hw1] at kk
   have Hw1:=lH hw1
   have Hg5:=lH hg5
   have K1:=lH kk
   have z1:=kk.size
   clear kk hw1 hg5
   go_upto_region 5 with fail
   rw [← Hg5.out,← Hw1.out]
   clear Hg5 Hw1
   clear e0 e1
   have B5H:=lH B5
   clear B5
   refine wp_region_late_drew (S:=Ex w1) [8] (by kernel_rfl) ((Ex.refl w1).drew) (fun hHeld=>?_)
   obtain ⟨wd,hwdx⟩:∃ wd:World,wd=World.drew w1:=⟨_,rfl⟩
   rw [← hwdx] at hHeld ⊢
   have hDrew:Ex w1 wd:=by rw [hwdx];exact (Ex.refl w1).drew
   clear hwdx
   refine tkL 0 (v:=?_) rfl (by kernel_rfl) (fun _ _ _ h=>h) (by rfl) ?y5 hHeld ?_
   case y5=>intro wq hSw;go_simp<;>rfl
   refine tkL 1 (v:=?_) rfl (by kernel_rfl) (fun _ _ _ h=>h) (by rfl) ?y8 hHeld ?_
   case y8=>intro wq hSw;go_simp<;>rfl
   refine tkL 2 (v:=?_) rfl (by kernel_rfl) (fun _ _ _ h=>h) (by rfl) ?y11 hHeld ?_
   case y11=>intro wq hSw;(have cq:=(B5H.out.nx hSw).cell 0 _ rfl;go_simp)<;>rfl
   refine tkL 3 (v:=?_) rfl (by kernel_rfl) (fun _ _ _ h=>h) (by rfl) ?y14 hHeld ?_
   case y14=>intro wq hSw;go_simp<;>rfl
   refine tkL 4 (v:=?_) rfl (by kernel_rfl) (fun _ _ _ h=>h) (by rfl) ?y17 hHeld ?_
   case y17=>intro wq hSw;(have cq:=(B5H.out.nx hSw).cell 1 _ rfl;go_simp)<;>rfl
   refine rL 5 (by kernel_rfl) rfl fun K hK=>?_
   go_simp
   (with_reducible refine (clone_lv _ _ _ d.2 _ ((SR.out.nx K1.out).nx hHeld) hn').mono ?_)
   rintro e wc ⟨v2,rfl,own2,kk⟩
   obtain ⟨a2,c2,rfl,_⟩:=own2.rd (fun _=>rfl)
   have zc:=hHeld.size
   replace hHeld:=hHeld.nx kk
   clear kk
   refine hK.out _ _ (hHeld) (fun hHeld=>?_)
   clear hK K
   refine tkL 6 (v:=?_) rfl (by kernel_rfl) (fun _ _ _ h=>h) (by rfl) ?y32 hHeld ?_
   case y32=>intro wq hSw;go_simp<;>rfl
   refine rL 7 (by kernel_rfl) rfl fun K hK=>?_
   go_simp
   obtain ⟨gx,wq,hgx,hwq,SX,kk⟩:=litLd wc d.1 (a2,d.2.length,c2)
   simp only [Hdr.val] at hwq
   rw [← hgx,← hwq]
   clear hgx hwq
   have own3:=own2.nx kk
   replace hHeld:=hHeld.nx kk
   clear kk
   refine hK.out _ _ (hHeld) (fun hHeld=>?_)
   clear hK K
   refine rLL 8 (by kernel_rfl) rfl (by rfl) fun K hK=>?_
   rw [if_pos (by rfl)]
   have OQ:=OWN.out.nx (K1.out.nx hHeld)
   have hz:w.heap.size≤wq.heap.size:=by have:=hHeld.size;omega
   refine wp_append_W (enc:=encP encI) _ (.tmp 12) (.tmp 19) 28 rfl w.heap.size 121 (.agg #[.int .i64 0,.slice none 0 0]) 2 32 Tryz.underlying28 Tryz.infoLd rfl (by omega) (by omega) _ qs OQ.1 rfl _ 1 1 [(d.1,(a2,d.2.length,c2))] SX enc2 enc2_one rfl (by omega) (by omega) hz ?_
   intro v7 w7 own7 ch0 ch1 _
   have FR:∀ (j:Nat) (r:Int×Hdr) (g:Nat),qs[j]?=some r→r.2.val.ownBlock=some g→¬ (Value.slice a2 d.2.length c2).ownBlock=some g:=(fun j r g hr hg hv=>by have h1:=OWN.out.lt hr hg;have h2:=(own2.lt g hv).1;omega)
   have OQ7:=OQ.push (by decide) own7 ch0 (own3.base (by omega)) FR
   have RR:=lH (show CloRel L n w v7 (.int .i64 ((k:Int)+1)) w7 from ⟨k+1,_,by omega,by go_num,by rw [TK.out];exact OQ7,Chg.trans (KW.out.nx (K1.out.nx hHeld)) ch1⟩)
   clear OQ own7 ch0 ch1 FR OQ7 own2 own3 SX hHeld
   refine hK.out _ _ ?_
   clear hK K
   refine wpAnyL_takeP (i:=9) (oi:=⟨_,_,_,_,_,_⟩) (v:=?_) rfl (by kernel_rfl) (by kernel_rfl) (by kernel_rfl) (fun _ _ _ h=>h) (Or.inl ⟨by rfl,?y62⟩) ?_
   case y62=>intro wq hSw;go_simp<;>rfl
   refine wpAnyL_done (by kernel_rfl) ?_ _
   clear hDrew
   go_wp2_with fail
   exact ⟨RR.out,by simp [intOf];omega⟩
  ·obtain rfl:k=n:=by omega
   rw [List.take_of_length_le (by have:=HL.out;omega)] at own
   have OW:=lH own
   clear own kw OWN
   go_wp2_with fail
   go_ret
   exact ⟨_,_,rfl,OW.out,KW.out⟩
set_option maxRecDepth 100000 in
set_option maxHeartbeats 2000000 in
theorem exact_p (a:Option Addr) (n c:Nat) (N:List Nd) (a2:Option Addr) (n2 c2:Nat) (L:List Lkd) (hh:Int) (w:World) (h:Sl 3 encN w a n N) (hn:n≤1000) (hc:n≤c) (hm:c≤maxLen) (hw:∀ x∈N,x.word<4294967296) (hT:TabG w)
  (h2:LkL w a2 n2 L) (hn2:n2≤1000000) (hs:∀ c∈L,c.2.length≤9223372036854775807) :
  Calls Tryz.prog 28 #[.slice a n c,.slice a2 n2 c2,.int .i64 hh] w fun e w'=>e=.returned (.bool (exactI N L hh))∧Ex w w':=by
 have HS:=lH hs
 go_enter Tryz.func28,Tryz.ntmps28
 go_wp2_with fail
 (with_reducible refine (build_p _ _ _ N hh _ h hn hc hm hw hT).mono ?_)
 rintro e w1 ⟨v,qs,rfl,own,kk⟩
 replace h2:=h2.nx kk
 have K1:=lH kk
 obtain ⟨a3,c3,rfl,NLX,_,_,_,_⟩:=OwnN.nl (encA:=encI) (s1:=2) (s2:=2) (encB:=encS) (fun _=>rfl) (fun _=>rfl) own
 obtain ⟨B,hB⟩:∃ B,B=buildN N hh:=⟨_,rfl⟩
 have EI:Hid (exactI N L hh=(B.2==0&&decide (L=B.1))):=lH (by rw [hB];rfl)
 rw [← hB] at own NLX ⊢
 have H2:=lH h2
 have NX:=lH NLX
 clear hB own h kk h2 NLX
 obtain ⟨BL,be⟩:=B
 by_cases hbe:be=0
 ·subst hbe
  go_wp2_with fail
  (with_reducible refine (same_lp _ _ _ _ _ _ L BL _ H2.out NX.out hn2 HS.out).mono ?_)
  rintro e w2 ⟨rfl,kk⟩
  have K2:=lH (K1.out.nx kk)
  clear kk
  go_wp2_with fail
  go_ret
  exact ⟨by rw [EI.out];simp,K2.out⟩
 ·have d1:(be==0)=false:=by simpa using hbe
  go_wp2_with fail
  go_ret
  exact ⟨by rw [EI.out,d1];simp,K1.out⟩
theorem check_sub {l l':List Nd} (hs:l'.Sublist l) (h0:checkN l=0):checkN l'=0:=by
 have hk:=keys_pw (check_keys h0)
 unfold checkN at h0 ⊢
 split at h0
 ·omega
 rename_i hlen
 split at h0
 ·omega
 rename_i hbad
 rw [if_neg (by have:=hs.length_le;omega),if_neg (by
  intro hb
  obtain ⟨x,hx,hxb⟩:=List.any_eq_true.1 hb
  exact hbad (List.any_eq_true.2 ⟨x,hs.subset hx,hxb⟩)),if_neg]
 intro hd
 obtain ⟨i,k,x,y,hki,hx,hy,he⟩:=(dupN_iff _).1 hd
 have h2:=hk.sublist hs
 obtain ⟨hi,e1⟩:=List.getElem?_eq_some_iff.1 hx
 obtain ⟨hk,e2⟩:=List.getElem?_eq_some_iff.1 hy
 have:=List.pairwise_iff_getElem.1 h2 k i hk hi hki
 rw [e1,e2] at this
 unfold eqN at he
 rcases Bool.or_eq_true_iff.1 he with h1 | h1
 ·exact this.2 (by simpa using (beq_iff_eq.1 h1).symm)
 ·exact this.1 (beq_iff_eq.1 h1).symm
section
variable {N:List Nd}
theorem lvl_nat {m:Nat} (hm:m≤16):lvlN (m:Int)=true:=by unfold lvlN;simp;omega
theorem build_two (h0:checkN N=0) {m:Nat} (hm:m≤16):(buildN N (m:Int)).2=0:=by
 unfold buildN
 rw [if_neg (by rw [h0];simp),if_neg (by rw [lvl_nat hm];simp)]
theorem exact_build (h0:checkN N=0) {m:Nat} (hm:m≤16):exactI N (buildN N (m:Int)).1 m=true:=by
 unfold exactI
 rw [build_two h0 hm]
 simp
theorem rem_ok (h0:checkN N=0) {m:Nat} (hm:m≤16) {x:Nd} (hx:x∈N):removeN N (buildN N (m:Int)).1 x.id m=((buildN (dropN N x.id) m).1,tieN N x.id (m+1),0):=by
 unfold removeN
 rw [if_neg (by rw [lvl_nat hm];simp),if_neg (by rw [exact_build h0 hm];simp),if_neg (by rw [find_in h0 hx];simp)]
 rfl
end
def goneN (N:List Nd) (D:List Int) (i:Nat):List Nd:=withoutN (N.take i) D++N.drop i
section
variable {N:List Nd} {D:List Int}
theorem gone_zero:goneN N D 0=N:=by unfold goneN withoutN;simp
theorem gone_all:goneN N D N.length=withoutN N D:=by unfold goneN;simp
theorem gone_sub (i:Nat):(goneN N D i).Sublist N:=by
 have h:(withoutN (N.take i) D++N.drop i).Sublist (N.take i++N.drop i):=List.Sublist.append List.filter_sublist (List.Sublist.refl _)
 rw [List.take_append_drop] at h
 exact h
theorem gone_check (h0:checkN N=0) (i:Nat):checkN (goneN N D i)=0:=check_sub (gone_sub i) h0
theorem gone_word (hw:∀ x∈N,x.word<4294967296) (i:Nat):∀ x∈goneN N D i,x.word<4294967296:=fun x hx=>hw x ((gone_sub i).subset hx)
theorem gone_len (i:Nat):(goneN N D i).length≤N.length:=(gone_sub i).length_le
theorem gone_split {i:Nat} {x:Nd} (hx:N[i]?=some x):goneN N D i=withoutN (N.take i) D++x::N.drop (i+1):=by
 obtain ⟨hi,e⟩:=List.getElem?_eq_some_iff.1 hx
 unfold goneN
 rw [List.drop_eq_getElem_cons hi,e]
theorem gone_mem {i:Nat} {x:Nd} (hx:N[i]?=some x):x∈goneN N D i:=by rw [gone_split hx];simp
theorem gone_next {i:Nat} {x:Nd} (hx:N[i]?=some x):goneN N D (i+1)=withoutN (N.take i) D++(if D.contains x.id then [] else [x])++N.drop (i+1):=by
 unfold goneN
 rw [take_snocN N i x hx]
 congr 1
 unfold withoutN
 rw [List.filter_append]
 congr 1
 cases h:D.contains x.id<;>simp at h<;>simp [h]
theorem gone_stay {i:Nat} {x:Nd} (hx:N[i]?=some x) (hd:D.contains x.id=false):goneN N D (i+1)=goneN N D i:=by
 rw [gone_next hx,gone_split hx,hd]
 simp
theorem drop_mid {A B:List Nd} {x:Nd} (h0:checkN (A++x::B)=0):dropN (A++x::B) x.id=A++B:=by
 have hp:(A++x::B).Pairwise fun a b=>a.id≠b.id:=(keys_pw (check_keys h0)).imp fun {a b} h=>h.2
 have hq:=List.pairwise_append.1 hp
 rw [drop_app,drop_none (fun z hz=>hq.2.2 z hz x (by simp))]
 congr 1
 have:=drop_none (A:=B) (id:=x.id) (fun z hz=>((List.pairwise_cons.1 hq.2.1).1 z hz).symm)
 unfold dropN at this ⊢
 rw [List.filter_cons_of_neg (by simp)]
 exact this
theorem gone_leave (h0:checkN N=0) {i:Nat} {x:Nd} (hx:N[i]?=some x) (hd:D.contains x.id=true):goneN N D (i+1)=dropN (goneN N D i) x.id:=by
 have h1:=gone_check (D:=D) h0 i
 rw [gone_split hx] at h1 ⊢
 rw [gone_next hx,hd,drop_mid h1]
 simp
end
end Go.Proofs.YthcholmhmcpooaaGreatDoor
