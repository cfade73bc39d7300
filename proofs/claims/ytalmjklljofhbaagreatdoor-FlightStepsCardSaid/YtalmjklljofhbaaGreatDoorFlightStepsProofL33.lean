/- Texts for FlightStepsProof. -/
import Derived.Test.YtalmjklljofhbaaGreatDoorFlightStepsProofL26
import Derived.Test.YtalmjklljofhbaaGreatDoorFlightStepsProofL31
set_option linter.unusedSimpArgs false
set_option linter.unusedVariables false

namespace Go.Proofs.YtalmjklljofhbaaGreatDoor
open Go.RowKit
theorem refs_leN (N:List Nd) (p:Pr):(refsN N p).length≤N.length:=by
 unfold refsN
 split
 ·exact ord_len _ _
 ·exact Nat.zero_le _
theorem ar_yes {N:List Nd} {p:Pr} (h:(findN N p.id).2=true∧checkN N=0):arN N p=ordN N (refsN N p++[p.id]) 0:=by unfold arN;rw [if_pos h]
theorem litIr {w0 u:World} (_:Ex w0 u) (x:Int):∃ g v,g=u.heap.size∧v=u.alloc (.cells #[.int .i64 x] 3)∧Sl 1 encI v (some ⟨g,0,none⟩) 1 [x]∧Ex u v :=
 ⟨_,_,rfl,rfl,Sl.lit [x] rfl rfl (fun _=>rfl) rfl,Ex.new _ _⟩
set_option maxRecDepth 100000 in
set_option maxHeartbeats 4000000 in
theorem around_r (a:Option Addr) (n c:Nat) (N:List Nd) (p:Pr) (a1:Option Addr) (n1 c1:Nat) (a2:Option Addr) (n2 c2:Nat) (w:World) (h:Sl 3 encN w a n N) (hn:n≤1000) (h1:Sl 1 encI w a1 n1 p.known) (h2:Sl 4 encNr w a2 n2 p.near) (hn1:n1≤2000000) (hn2:n2≤2000000) :
  Calls Tryz.prog 139 #[.slice a n c,.agg #[.int .i64 p.id,.slice a1 n1 c1,.int .i64 p.left,.int .i64 p.right,.slice a2 n2 c2]] w (OiPost (arN N p) w):=by
 have EX:=Ex.refl w
 have HL:=lH h.len
 have B3:=Blk.new w [.int .i64 p.id,.slice a1 n1 c1,.int .i64 p.left,.int .i64 p.right,.slice a2 n2 c2] 36
 have kk:=Ex.new w (.cells #[.int .i64 p.id,.slice a1 n1 c1,.int .i64 p.left,.int .i64 p.right,.slice a2 n2 c2] 36)
 obtain ⟨w1,hw1⟩:∃ w1,w1=w.alloc (.cells #[.int .i64 p.id,.slice a1 n1 c1,.int .i64 p.left,.int .i64 p.right,.slice a2 n2 c2] 36):=⟨_,rfl⟩
 obtain ⟨g3,hg3⟩:∃ g3,g3=w.heap.size:=⟨_,rfl⟩
 replace B3:Blk w1 g3 [.int .i64 p.id,.slice a1 n1 c1,.int .i64 p.left,.int .i64 p.right,.slice a2 n2 c2] 36:=by rw [hw1,hg3];exact B3
 rw [← hw1] at kk
 have Hw1:=lH hw1
 have Hg3:=lH hg3
 replace h:=h.nx kk
 replace h1:=h1.nx kk
 replace h2:=h2.nx kk
 replace EX:=EX.nx kk
 clear kk hw1 hg3
 go_enter Tryz.func139,Tryz.ntmps139
 go_upto_region 1 with fail
 rw [← Hg3.out,← Hw1.out]
 clear Hg3 Hw1
 have q0:=B3.cell 0 _ rfl
 go_wp2_with fail
 (with_reducible refine (find_r _ _ _ N p.id _ h (by omega)).mono ?_)
 rintro e w2 ⟨rfl,kk⟩
 replace h:=h.nx kk
 replace h1:=h1.nx kk
 replace h2:=h2.nx kk
 replace EX:=EX.nx kk
 replace B3:=B3.nx kk
 clear kk
 clear q0
 have HNO:=lH (ar_no (N:=N) (p:=p))
 have HYE:=lH (ar_yes (N:=N) (p:=p))
 obtain ⟨F,hF⟩:∃ F,F=findN N p.id:=⟨_,rfl⟩
 rw [← hF] at HNO HYE ⊢
 clear hF
 obtain ⟨⟨xi,xk,xw⟩,ok⟩:=F
 have B5:=Blk.new w2 [.int .i64 xi,.string xk,.int .u32 xw] 49
 have kk:=Ex.new w2 (.cells #[.int .i64 xi,.string xk,.int .u32 xw] 49)
 obtain ⟨w3,hw3⟩:∃ w3,w3=w2.alloc (.cells #[.int .i64 xi,.string xk,.int .u32 xw] 49):=⟨_,rfl⟩
 obtain ⟨g5,hg5⟩:∃ g5,g5=w2.heap.size:=⟨_,rfl⟩
 replace B5:Blk w3 g5 [.int .i64 xi,.string xk,.int .u32 xw] 49:=by rw [hw3,hg5];exact B5
 rw [← hw3] at kk
 have Hw3:=lH hw3
 have Hg5:=lH hg5
 replace h:=h.nx kk
 replace h1:=h1.nx kk
 replace h2:=h2.nx kk
 replace EX:=EX.nx kk
 replace B3:=B3.nx kk
 clear kk hw3 hg5
 simp only [Nd.val]
 go_upto_region 2 with fail
 rw [← Hg5.out,← Hw3.out]
 clear Hg5 Hw3
 clear B5
 cases ok with
 | false =>
  have E0:Hid (arN N p=[]):=lH (HNO.out (fun hh=>by cases hh.1))
  have EX:=lH EX
  clear h h1 h2 B3
  go_wp2_with fail
  go_ret
  exact ⟨_,rfl,by rw [E0.out];exact OwnL.nil _ _ _ _ _,EX.out⟩
 | true =>
  go_wp2_with fail
  (with_reducible refine (is_r _ _ _ N _ h (by omega)).mono ?_)
  rintro e w4 ⟨rfl,kk⟩
  replace h:=h.nx kk
  replace h1:=h1.nx kk
  replace h2:=h2.nx kk
  replace EX:=EX.nx kk
  replace B3:=B3.nx kk
  clear kk
  cases hck:(checkN N==0) with
  | false =>
   have E0:Hid (arN N p=[]):=lH (HNO.out (fun hh=>by rw [hh.2] at hck;cases hck))
   have EX:=lH EX
   clear h h1 h2 B3 hck
   go_wp2_with fail
   go_ret
   exact ⟨_,rfl,by rw [E0.out];exact OwnL.nil _ _ _ _ _,EX.out⟩
  | true =>
   have E0:Hid (arN N p=ordN N (refsN N p++[p.id]) 0):=lH (HYE.out ⟨trivial,by simpa using hck⟩)
   have HRL:Hid ((refsN N p).length≤1000):=lH (Nat.le_trans (refs_leN N p) (by have:=HL.out;omega))
   have HN:=lH h
   have H1:=lH h1
   have H2:=lH h2
   have HB:=lH B3
   have EXH:=lH EX
   have z4:=EX.size
   clear h h1 h2 B3 EX hck HNO HYE
   go_upto_region 4 with fail
   refine wp_region_held_drew (S:=Ex w4) (by kernel_rfl) ((Ex.refl w4).drew) (fun hHeld=>?_)
   obtain ⟨wd,hwdx⟩:∃ wd:World,wd=World.drew w4:=⟨_,rfl⟩
   rw [← hwdx] at hHeld ⊢
   have hDrew:Ex w4 wd:=by rw [hwdx];exact (Ex.refl w4).drew
   clear hwdx
   refine tkH 0 (v:=?_) rfl (by kernel_rfl) (fun _ _ _ h=>h) (by rfl) ?y5 hHeld ?_
   case y5=>intro wq hSw;go_simp<;>rfl
   refine tkH 1 (v:=?_) rfl (by kernel_rfl) (fun _ _ _ h=>h) (by rfl) ?y8 hHeld ?_
   case y8=>intro wq hSw;go_simp<;>rfl
   refine tkH 2 (v:=?_) rfl (by kernel_rfl) (fun _ _ _ h=>h) (by rfl) ?y11 hHeld ?_
   case y11=>intro wq hSw;(have B:=HB.out.nx hSw;have c0:=B.cell 0 _ rfl;have c1:=B.cell 1 _ rfl;have c2:=B.cell 2 _ rfl;have c3:=B.cell 3 _ rfl;have c4:=B.cell 4 _ rfl;go_simp)<;>rfl
   refine tkH 4 (v:=?_) rfl (by kernel_rfl) (fun _ _ _ h=>h) (by rfl) ?y14 hHeld ?_
   case y14=>intro wq hSw;go_simp<;>rfl
   refine tkH 5 (v:=?_) rfl (by kernel_rfl) (fun _ _ _ h=>h) (by rfl) ?y17 hHeld ?_
   case y17=>intro wq hSw;(have c0:=(HB.out.nx hSw).cell 0 _ rfl;go_simp)<;>rfl
   refine wpAnyH_ready (rs:=[3,6]) (by kernel_rfl) (by simp) ?_
   refine AllReadyH.cons (o:=⟨_,_,_,_,_,_⟩) rfl (fun K hK=>?_) ?_
   ·go_simp
    (with_reducible refine (refs_q _ _ _ N p _ _ _ _ _ _ _ (HN.out.nx hHeld) hn (H1.out.nx hHeld) (H2.out.nx hHeld) hn1 hn2).mono ?_)
    rintro e wz ⟨v5,rfl,own5,kk⟩
    replace own5:=own5.base hHeld.size
    (try replace SX:=SX.nx kk)
    replace hHeld:=hHeld.nx kk
    clear kk
    refine hK.out _ _ (hHeld) (fun hHeld=>?_)
    clear hK K
    refine rH 6 (by kernel_rfl) rfl fun K hK=>?_
    go_simp
    obtain ⟨g8,wz,hg8,hwz,SX,kk⟩:=litIr hHeld p.id
    rw [← hg8,← hwz]
    (try replace own5:=own5.nx kk)
    replace hHeld:=hHeld.nx kk
    clear hg8 hwz kk
    refine hK.out _ _ (hHeld) (fun hHeld=>?_)
    clear hK K
    refine rH 7 (by kernel_rfl) rfl fun K hK=>?_
    rw [if_pos (by rfl)]
    have zq:=hHeld.size
    have hrl:=HRL.out
    refine wp_append_rd (enc:=encI) _ (.tmp 24) (.tmp 27) 22 rfl w4.heap.size 3 (.int .i64 0) 1 8 Tryz.underlying22 Tryz.infoI6 rfl (by omega) (by omega) _ _ own5 rfl _ _ 1 1 [p.id] SX (fun h=>by cases h) (fun _=>rfl) (by simp [encI,Value.oneCell']) rfl (by omega) (by omega) zq ?_
    intro v9 wy own9 ch0 ch1
    replace hHeld:Ex w4 wy:=Chg.trans hHeld ch1
    obtain ⟨A9,C9,rfl,R9,_⟩:=own9.rd (fun _=>rfl)
    have S9:Sl 1 encI wy A9 ((refsN N p).length+1) (refsN N p++[p.id]):=by {have hx:=Rd.mono R9 (S':=fun k=>k<wy.heap.size) (fun _ hk=>hk.2);rw [List.length_append,List.length_singleton] at hx;exact hx}
    clear own9 R9 ch0 ch1 zq SX own5
    refine hK.out _ _ (hHeld) (fun hHeld=>?_)
    clear hK K
    refine rH 8 (by kernel_rfl) rfl fun K hK=>?_
    go_simp
    (with_reducible refine (ordered_r _ _ _ N _ _ _ (refsN N p++[p.id]) 0 _ (HN.out.nx hHeld) hn S9 (by have:=HRL.out;omega)).mono ?_)
    rintro e wx ⟨v6,rfl,own6,kk⟩
    replace own6:=own6.base (Nat.le_trans z4 hHeld.size)
    replace hHeld:=hHeld.nx kk
    clear kk S9
    refine hK.out _ _ (hHeld) (fun hHeld=>?_)
    clear hK K
    refine tkH 9 (v:=?_) rfl (by kernel_rfl) (fun _ _ _ h=>h) (by rfl) ?y68 hHeld ?_
    case y68=>intro wq hSw;go_simp<;>rfl
    refine wpAnyH_done (by kernel_rfl) ?_ _
    have KE:=lH (EXH.out.nx hHeld)
    have OW6:=lH own6
    clear hHeld own6
    go_wp2_with fail
    go_ret
    exact ⟨_,rfl,by rw [E0.out];exact OW6.out,KE.out⟩
   refine AllReadyH.cons (o:=⟨_,_,_,_,_,_⟩) rfl (fun K hK=>?_) AllReadyH.nil
   ·go_simp
    obtain ⟨g8,wz,hg8,hwz,SX,kk⟩:=litIr hHeld p.id
    rw [← hg8,← hwz]
    (try replace own5:=own5.nx kk)
    replace hHeld:=hHeld.nx kk
    clear hg8 hwz kk
    refine hK.out _ _ (hHeld) (fun hHeld=>?_)
    clear hK K
    refine rH 3 (by kernel_rfl) rfl fun K hK=>?_
    go_simp
    (with_reducible refine (refs_q _ _ _ N p _ _ _ _ _ _ _ (HN.out.nx hHeld) hn (H1.out.nx hHeld) (H2.out.nx hHeld) hn1 hn2).mono ?_)
    rintro e wz ⟨v5,rfl,own5,kk⟩
    replace own5:=own5.base hHeld.size
    (try replace SX:=SX.nx kk)
    replace hHeld:=hHeld.nx kk
    clear kk
    refine hK.out _ _ (hHeld) (fun hHeld=>?_)
    clear hK K
    refine rH 7 (by kernel_rfl) rfl fun K hK=>?_
    rw [if_pos (by rfl)]
    have zq:=hHeld.size
    have hrl:=HRL.out
    refine wp_append_rd (enc:=encI) _ (.tmp 24) (.tmp 27) 22 rfl w4.heap.size 3 (.int .i64 0) 1 8 Tryz.underlying22 Tryz.infoI6 rfl (by omega) (by omega) _ _ own5 rfl _ _ 1 1 [p.id] SX (fun h=>by cases h) (fun _=>rfl) (by simp [encI,Value.oneCell']) rfl (by omega) (by omega) zq ?_
    intro v9 wy own9 ch0 ch1
    replace hHeld:Ex w4 wy:=Chg.trans hHeld ch1
    obtain ⟨A9,C9,rfl,R9,_⟩:=own9.rd (fun _=>rfl)
    have S9:Sl 1 encI wy A9 ((refsN N p).length+1) (refsN N p++[p.id]):=by {have hx:=Rd.mono R9 (S':=fun k=>k<wy.heap.size) (fun _ hk=>hk.2);rw [List.length_append,List.length_singleton] at hx;exact hx}
    clear own9 R9 ch0 ch1 zq SX own5
    refine hK.out _ _ (hHeld) (fun hHeld=>?_)
    clear hK K
    refine rH 8 (by kernel_rfl) rfl fun K hK=>?_
    go_simp
    (with_reducible refine (ordered_r _ _ _ N _ _ _ (refsN N p++[p.id]) 0 _ (HN.out.nx hHeld) hn S9 (by have:=HRL.out;omega)).mono ?_)
    rintro e wx ⟨v6,rfl,own6,kk⟩
    replace own6:=own6.base (Nat.le_trans z4 hHeld.size)
    replace hHeld:=hHeld.nx kk
    clear kk S9
    refine hK.out _ _ (hHeld) (fun hHeld=>?_)
    clear hK K
    refine tkH 9 (v:=?_) rfl (by kernel_rfl) (fun _ _ _ h=>h) (by rfl) ?y120 hHeld ?_
    case y120=>intro wq hSw;go_simp<;>rfl
    refine wpAnyH_done (by kernel_rfl) ?_ _
    have KE:=lH (EXH.out.nx hHeld)
    have OW6:=lH own6
    clear hHeld own6
    go_wp2_with fail
    go_ret
    exact ⟨_,rfl,by rw [E0.out];exact OW6.out,KE.out⟩
def IrPost (M:List (Int×Int)) (w:World) (e:Ending) (w':World):Prop:=∃ v,e=.returned v∧OwnL 2 encS 67 w.heap.size w' v M∧Ex w w'
def IrRel (L:List Int) (id:Int) (w:World) (o i:Value) (wr:World):Prop :=
 ∃ k:Nat,1≤k∧k≤L.length+1∧i=.int .i64 k∧OwnL 2 encS 67 w.heap.size wr o (((L.zip L.tail).take (k-1)).flatMap (pr2 id))∧Ex w wr
theorem pr2_cases (id a b:Int):pr2 id (a,b)=(if a=id then [] else [(a,b)])++(if b=id then [] else [(b,a)]):=rfl
set_option maxRecDepth 100000 in
set_option maxHeartbeats 8000000 in
theorem intros_r (a:Option Addr) (n c:Nat) (N:List Nd) (p:Pr) (a1:Option Addr) (n1 c1:Nat) (a2:Option Addr) (n2 c2:Nat) (w:World) (h:Sl 3 encN w a n N) (hn:n≤1000) (h1:Sl 1 encI w a1 n1 p.known) (h2:Sl 4 encNr w a2 n2 p.near) (hn1:n1≤2000000) (hn2:n2≤2000000) :
  Calls Tryz.prog 84 #[.slice a n c,.agg #[.int .i64 p.id,.slice a1 n1 c1,.int .i64 p.left,.int .i64 p.right,.slice a2 n2 c2]] w (IrPost (introsN N p) w):=by
 have EX:=Ex.refl w
 have HL:=lH h.len
 have B3:=Blk.new w [.int .i64 p.id,.slice a1 n1 c1,.int .i64 p.left,.int .i64 p.right,.slice a2 n2 c2] 36
 have kk:=Ex.new w (.cells #[.int .i64 p.id,.slice a1 n1 c1,.int .i64 p.left,.int .i64 p.right,.slice a2 n2 c2] 36)
 obtain ⟨w1,hw1⟩:∃ w1,w1=w.alloc (.cells #[.int .i64 p.id,.slice a1 n1 c1,.int .i64 p.left,.int .i64 p.right,.slice a2 n2 c2] 36):=⟨_,rfl⟩
 obtain ⟨g3,hg3⟩:∃ g3,g3=w.heap.size:=⟨_,rfl⟩
 replace B3:Blk w1 g3 [.int .i64 p.id,.slice a1 n1 c1,.int .i64 p.left,.int .i64 p.right,.slice a2 n2 c2] 36:=by rw [hw1,hg3];exact B3
 rw [← hw1] at kk
 have Hw1:=lH hw1
 have Hg3:=lH hg3
 replace h:=h.nx kk
 replace h1:=h1.nx kk
 replace h2:=h2.nx kk
 replace EX:=EX.nx kk
 clear kk hw1 hg3
 go_enter Tryz.func84,Tryz.ntmps84
 go_upto_region 1 with fail
 rw [← Hg3.out,← Hw1.out]
 clear Hg3 Hw1
 have q0:=B3.cell 0 _ rfl
 have q1:=B3.cell 1 _ rfl
 have q2:=B3.cell 2 _ rfl
 have q3:=B3.cell 3 _ rfl
 have q4:=B3.cell 4 _ rfl
 go_wp2_with fail
 (with_reducible refine (around_r _ _ _ N p _ _ _ _ _ _ _ h hn h1 h2 hn1 hn2).mono ?_)
 rintro e w2 ⟨v,rfl,own,kk⟩
 replace EX:=EX.nx kk
 replace B3:=B3.nx kk
 clear kk
 clear q0 q1 q2 q3 q4 h h1 h2
 have hrl:(arN N p).length≤1000:=by
  have h1:=HL.out
  have h2:=ar_len (N:=N) p
  omega
 obtain ⟨aR,cR,rfl,R1,_,_,_⟩:=own.slf (fun _=>rfl)
 have S:=lH R1.sl
 have IN:Hid (∀ M,prsN p.id (arN N p)=M→introsN N p=M):=lH (fun r hr=>hr)
 generalize arN N p=R at own R1 S IN hrl ⊢
 have B3:=lH B3
 have z2:=EX.size
 have EX2:=lH EX
 clear own R1 EX
 go_wp2_with fail
 go_loopw [5,7] (fun o i wr=>IrRel R p.id w2 o i wr) (fun _ i _=>R.length+1-(intOf i).toNat)
 case atStart=>exact ⟨1,by omega,by omega,rfl,OwnL.nil _ _ _ _ _,Ex.refl _⟩
 case round =>
  obtain ⟨k,hk1,hk,rfl,own,ki⟩:=hrel
  obtain ⟨wi,rfl⟩:∃ wi:World,wi=wr:=⟨_,rfl⟩
  have hol:(((R.zip R.tail).take (k-1)).flatMap (pr2 p.id)).length≤2000:=by
   have h1:=prs_take_len p.id ((R.zip R.tail).take (k-1))
   rw [List.length_take,List.length_zip,List.length_tail] at h1
   omega
  by_cases hkm:k<R.length
  ·obtain ⟨xl,xo,yl,rfl,hxl,hyl,hcl⟩:=(S.out.nx ki).at (show k-1<R.length by omega)
   obtain ⟨xl',xo',yr,hee,hxr,hyr,hcr⟩:=(S.out.nx ki).at hkm
   cases hee
   have CL:Hid (∀ wq,Ex wi wq→wq.cell? ⟨xl,xo+(k-1),none⟩=some (.int .i64 yl)):=lH (fun wq kq=>Chg.cellv kq (by simpa using hcl 0 _ rfl) hxl)
   have CR:Hid (∀ wq,Ex wi wq→wq.cell? ⟨xl,xo+k,none⟩=some (.int .i64 yr)):=lH (fun wq kq=>Chg.cellv kq (by simpa using hcr 0 _ rfl) hxl)
   have SN:=lH ((prs_snoc (id:=p.id) hyl (by rw [show k-1+1=k by omega];exact hyr)).trans (by rw [pr2_cases]))
   rw [show k-1+1=k+1-1 by omega] at SN
   generalize ((R.zip R.tail).take (k-1)).flatMap (pr2 p.id)=O at own SN hol
   have hkp:(0:Int)<(k:Int):=by omega
   have hwk:IntKind.i64.wrap ((k:Int)-1)=(k:Int)-1:=IntWalk.i64_in _ (by omega)
   have h01:(1:Int)≤(k:Int):=by omega
   have h02:(k:Int)-1<(R.length:Int):=by omega
   have h03:(k:Int)<(R.length:Int):=by omega
   have zi:=ki.size
   have QI:Hid (∀ wq,Ex wi wq→wq.cell? ⟨g3,0,none⟩=some (.int .i64 p.id)):=lH (fun wq kq=>(B3.out.nx (ki.nx kq)).cell 0 _ rfl)
   have OWN:=lH own
   have KI:=lH ki
   clear hyl hyr hcl hcr own ki
   go_upto_region 6 with fail
   refine wp_region_held_drew (S:=Ex wi) (by kernel_rfl) ((Ex.refl wi).drew) (fun hHeld=>?_)
   obtain ⟨wd,hwdx⟩:∃ wd:World,wd=World.drew wi:=⟨_,rfl⟩
   rw [← hwdx] at hHeld ⊢
   have hDrew:Ex wi wd:=by rw [hwdx];exact (Ex.refl wi).drew
   clear hwdx
   refine tkH 0 (v:=?_) rfl (by kernel_rfl) (fun _ _ _ h=>h) (by rfl) ?y5 hHeld ?_
   case y5=>intro wq hSw;go_simp<;>rfl
   refine tkH 1 (v:=?_) rfl (by kernel_rfl) (fun _ _ _ h=>h) (by rfl) ?y8 hHeld ?_
   case y8=>intro wq hSw;go_simp<;>rfl
   refine tkH 2 (v:=?_) rfl (by kernel_rfl) (fun _ _ _ h=>h) (by rfl) ?y11 hHeld ?_
   case y11=>intro wq hSw;go_simp<;>rfl
   refine tkH 3 (v:=?_) rfl (by kernel_rfl) (fun _ _ _ h=>h) (by rfl) ?y14 hHeld ?_
   case y14=>intro wq hSw;go_simp<;>rfl
   refine tkH 4 (v:=?_) rfl (by kernel_rfl) (fun _ _ _ h=>h) (by rfl) ?y17 hHeld ?_
   case y17=>intro wq hSw;(have cq:=CL.out wq hSw;go_simp)<;>rfl
   refine tkH 5 (v:=?_) rfl (by kernel_rfl) (fun _ _ _ h=>h) (by rfl) ?y20 hHeld ?_
   case y20=>intro wq hSw;go_simp<;>rfl
   refine tkH 6 (v:=?_) rfl (by kernel_rfl) (fun _ _ _ h=>h) (by rfl) ?y23 hHeld ?_
   case y23=>intro wq hSw;go_simp<;>rfl
   refine tkH 7 (v:=?_) rfl (by kernel_rfl) (fun _ _ _ h=>h) (by rfl) ?y26 hHeld ?_
   case y26=>intro wq hSw;go_simp<;>rfl
   refine tkH 8 (v:=?_) rfl (by kernel_rfl) (fun _ _ _ h=>h) (by rfl) ?y29 hHeld ?_
   case y29=>intro wq hSw;(have cq:=CR.out wq hSw;go_simp)<;>rfl
   refine tkH 9 (v:=?_) rfl (by kernel_rfl) (fun _ _ _ h=>h) (by rfl) ?y32 hHeld ?_
   case y32=>intro wq hSw;go_simp<;>rfl
   refine tkH 10 (v:=?_) rfl (by kernel_rfl) (fun _ _ _ h=>h) (by rfl) ?y35 hHeld ?_
   case y35=>intro wq hSw;go_simp<;>rfl
   refine wpAnyH_done (by kernel_rfl) ?_ _
   have qd:=QI.out wd hHeld
   have KD:=lH (KI.out.nx hHeld)
   have OD:=OWN.out.nx hHeld
   have zd:=KD.out.size
   clear hHeld hDrew OWN
   by_cases ha:yl=p.id
   ·have da:(yl != p.id)=false:=by simpa using ha
    have SN1:=lH (SN.out.trans (show O++((if yl=p.id then [] else [(yl,yr)])++(if yr=p.id then [] else [(yr,yl)]))=O++(if yr=p.id then [] else [(yr,yl)]) by rw [if_pos ha,List.nil_append]))
    clear SN ha
    by_cases hb:yr=p.id
    ·have db:(yr != p.id)=false:=by simpa using hb
     have SN2:=lH (SN1.out.trans (show O++(if yr=p.id then [] else [(yr,yl)])=O by rw [if_pos hb,List.append_nil]))
     have OO:=lH OD
     clear SN1 hb OD
     go_wp2_with fail
     exact ⟨⟨k+1,by omega,by omega,by go_num,by rw [SN2.out];exact OO.out,KD.out⟩,by simp [intOf];omega⟩
    ·have db:(yr != p.id)=true:=by simpa using hb
     have SN2:=lH (SN1.out.trans (show O++(if yr=p.id then [] else [(yr,yl)])=O++[(yr,yl)] by rw [if_neg hb]))
     clear SN1 hb
     go_wp2_with (at_builtin;(refine wpList_append_lit (enc:=encS) wd rfl _ _ 25 rfl w2.heap.size 67 (.agg #[.int .i64 0,.int .i64 0]) 2 16 Tryz.underlying25 Tryz.infoIn rfl (by omega) (by omega) _ _ OD rfl ((yr,yl):Int×Int) _ rfl rfl (by simp [encS,Value.oneCell']) _ (by simp) rfl (by omega) zd _ ?_);intro v6 w6 own6 ch0 ch1 hz6)
     exact ⟨⟨k+1,by omega,by omega,by go_num,by rw [SN2.out];exact own6,Chg.trans KD.out ch1⟩,by simp [intOf];omega⟩
   ·have da:(yl != p.id)=true:=by simpa using ha
    have SN1:=lH (SN.out.trans (show O++((if yl=p.id then [] else [(yl,yr)])++(if yr=p.id then [] else [(yr,yl)]))=(O++[(yl,yr)])++(if yr=p.id then [] else [(yr,yl)]) by rw [if_neg ha,List.append_assoc]))
    have hol2:(O++[(yl,yr)]).length≤2001:=by rw [List.length_append,List.length_singleton];omega
    clear SN ha
    go_upto_region 9 with (at_builtin;(refine wpList_append_lit (enc:=encS) wd rfl _ _ 25 rfl w2.heap.size 67 (.agg #[.int .i64 0,.int .i64 0]) 2 16 Tryz.underlying25 Tryz.infoIn rfl (by omega) (by omega) _ _ OD rfl ((yl,yr):Int×Int) _ rfl rfl (by simp [encS,Value.oneCell']) _ (by simp) rfl (by omega) zd _ ?_);intro v6 w6 own6 ch0 ch1 hz6)
    have K6:=lH (Chg.trans KD.out ch1)
    have z6:=K6.out.size
    have qd6:=(B3.out.nx K6.out).cell 0 _ rfl
    clear qd OD ch0 ch1 hz6
    generalize O++[(yl,yr)]=O2 at own6 SN1 hol2
    by_cases hb:yr=p.id
    ·have db:(yr != p.id)=false:=by simpa using hb
     have SN2:=lH (SN1.out.trans (show O2++(if yr=p.id then [] else [(yr,yl)])=O2 by rw [if_pos hb,List.append_nil]))
     have OO:=lH own6
     clear SN1 hb own6
     go_wp2_with fail
     exact ⟨⟨k+1,by omega,by omega,by go_num,by rw [SN2.out];exact OO.out,K6.out⟩,by simp [intOf];omega⟩
    ·have db:(yr != p.id)=true:=by simpa using hb
     have SN2:=lH (SN1.out.trans (show O2++(if yr=p.id then [] else [(yr,yl)])=O2++[(yr,yl)] by rw [if_neg hb]))
     clear SN1 hb
     go_wp2_with (at_builtin;(refine wpList_append_lit (enc:=encS) w6 rfl _ _ 25 rfl w2.heap.size 67 (.agg #[.int .i64 0,.int .i64 0]) 2 16 Tryz.underlying25 Tryz.infoIn rfl (by omega) (by omega) _ _ own6 rfl ((yr,yl):Int×Int) _ rfl rfl (by simp [encS,Value.oneCell']) _ (by simp) rfl (by omega) z6 _ ?_);intro v7 w7 own7 ch0 ch1 hz7)
     exact ⟨⟨k+1,by omega,by omega,by go_num,by rw [SN2.out];exact own7,Chg.trans K6.out ch1⟩,by simp [intOf];omega⟩
  ·have h03:¬ (k:Int)<(R.length:Int):=by omega
   rw [prs_all (by omega)] at own
   have FO:=lH (OwnL.base own z2)
   have FE:=lH (EX2.out.nx ki)
   have HI:=lH (IN.out _ rfl)
   clear own ki hkm hk
   go_wp2_with fail
   go_ret
   exact ⟨_,rfl,by rw [HI.out];exact FO.out,FE.out⟩
def KrRel (R:List Int) (id:Int) (g:Nat) (w:World) (i:Value) (wr:World):Prop :=
 ∃ (k:Nat) (q:Int×Int),k≤R.length∧i=.int .i64 k∧Blk wr g [.int .i64 q.1,.int .i64 q.2] 81∧Ex w wr ∧
  (((∀ j z,j<k→R[j]?=some z→z≠id)∧q=(0,0))∨((∃ j,j<k∧R[j]?=some id)∧q=besN id R))
theorem nodup_atU {R:List Int} (h:R.Nodup) {i j:Nat} {v:Int} (hi:R[i]?=some v) (hj:R[j]?=some v):i=j:=by
 obtain ⟨h1,h2⟩:=List.getElem?_eq_some_iff.1 hi
 obtain ⟨h3,h4⟩:=List.getElem?_eq_some_iff.1 hj
 have key:=List.pairwise_iff_getElem.1 (show R.Pairwise (·≠·) from h)
 rcases Nat.lt_trichotomy i j with h5 | h5 | h5
 ·exact absurd (h2.trans h4.symm) (key i j h1 h3 h5)
 ·exact h5
 ·exact absurd (h4.trans h2.symm) (key j i h3 h1 h5)
set_option maxRecDepth 100000 in
set_option maxHeartbeats 8000000 in
theorem keep_r (a:Option Addr) (n c:Nat) (N:List Nd) (p:Pr) (a1:Option Addr) (n1 c1:Nat) (a2:Option Addr) (n2 c2:Nat) (w:World) (h:Sl 3 encN w a n N) (hn:n≤1000) (h1:Sl 1 encI w a1 n1 p.known) (h2:Sl 4 encNr w a2 n2 p.near) (hn1:n1≤2000000) (hn2:n2≤2000000) :
  Calls Tryz.prog 85 #[.slice a n c,.agg #[.int .i64 p.id,.slice a1 n1 c1,.int .i64 p.left,.int .i64 p.right,.slice a2 n2 c2]] w (KpPost N p w):=by
 have EX:=Ex.refl w
 have HL:=lH h.len
 obtain ⟨g3,hg3⟩:∃ g3,g3=w.heap.size:=⟨_,rfl⟩
 obtain ⟨g4,hg4⟩:∃ g4,g4=(w.heap.size+1):=⟨_,rfl⟩
 obtain ⟨w1,hw1⟩:∃ w1,w1=((w.alloc (.cells #[.int .i64 p.id,.slice a1 n1 c1,.int .i64 p.left,.int .i64 p.right,.slice a2 n2 c2] 36)).alloc (.cells #[.int .i64 0,.int .i64 0] 81)):=⟨_,rfl⟩
 have kk:Ex w w1:=by rw [hw1];exact (((Ex.refl w).alloc (.cells #[.int .i64 p.id,.slice a1 n1 c1,.int .i64 p.left,.int .i64 p.right,.slice a2 n2 c2] 36)).alloc (.cells #[.int .i64 0,.int .i64 0] 81))
 have B3:Blk w1 g3 [.int .i64 p.id,.slice a1 n1 c1,.int .i64 p.left,.int .i64 p.right,.slice a2 n2 c2] 36:=by rw [hw1];simp only [hg3,hg4];have hbk:=((Blk.new w [.int .i64 p.id,.slice a1 n1 c1,.int .i64 p.left,.int .i64 p.right,.slice a2 n2 c2] 36).nx (Ex.new _ (.cells #[.int .i64 0,.int .i64 0] 81)));simpa using hbk
 have B4:Blk w1 g4 [.int .i64 0,.int .i64 0] 81:=by rw [hw1];simp only [hg3,hg4];have hbk:=(Blk.new (w.alloc (.cells #[.int .i64 p.id,.slice a1 n1 c1,.int .i64 p.left,.int .i64 p.right,.slice a2 n2 c2] 36)) [.int .i64 0,.int .i64 0] 81);simpa using hbk
 have Hw1:=lH hw1
 have Hg3:=lH hg3
 have Hg4:=lH hg4
 replace h:=h.nx kk
 replace h1:=h1.nx kk
 replace h2:=h2.nx kk
 replace EX:=EX.nx kk
 have zg4:w.heap.size≤g4:=by omega
 clear kk hw1 hg3 hg4
 go_enter Tryz.func85,Tryz.ntmps85
 go_upto_region 1 with fail
 rw [← Hw1.out,← Hg4.out,← Hg3.out]
 clear Hw1 Hg4 Hg3
 have q0:=B3.cell 0 _ rfl
 have q1:=B3.cell 1 _ rfl
 have q2:=B3.cell 2 _ rfl
 have q3:=B3.cell 3 _ rfl
 have q4:=B3.cell 4 _ rfl
 go_wp2_with fail
 (with_reducible refine (around_r _ _ _ N p _ _ _ _ _ _ _ h hn h1 h2 hn1 hn2).mono ?_)
 rintro e w2 ⟨v,rfl,own,kk⟩
 replace EX:=EX.nx kk
 replace B3:=B3.nx kk
 replace B4:=B4.nx kk
 clear kk
 clear q0 q1 q2 q3 q4 h h1 h2
 have hrl:(arN N p).length≤1000:=by
  have h1:=HL.out
  have h2:=ar_len (N:=N) p
  omega
 obtain ⟨aR,cR,rfl,R1,_,_,_⟩:=own.slf (fun _=>rfl)
 have S:=lH R1.sl
 have KN:Hid (∀ r,besN p.id (arN N p)=r→keepN N p=r):=lH (fun r hr=>hr)
 have ND:=lH (ar_nodup' (N:=N) p)
 generalize arN N p=R at own R1 S KN ND hrl ⊢
 have B3:=lH B3
 have B4:=lH B4
 have EX2:=lH EX
 clear own R1
 have B6:=Blk.new w2 [.int .i64 0,.int .i64 0] 81
 have kk:=Ex.new w2 (.cells #[.int .i64 0,.int .i64 0] 81)
 obtain ⟨w4,hw4⟩:∃ w4,w4=w2.alloc (.cells #[.int .i64 0,.int .i64 0] 81):=⟨_,rfl⟩
 obtain ⟨g6,hg6⟩:∃ g6,g6=w2.heap.size:=⟨_,rfl⟩
 replace B6:Blk w4 g6 [.int .i64 0,.int .i64 0] 81:=by rw [hw4,hg6];exact B6
 rw [← hw4] at kk
 have Hw4:=lH hw4
 have Hg6:=lH hg6
 have zg6:w2.heap.size≤g6:=by omega
 have K4:=lH kk
 clear kk hw4 hg6 EX
 go_upto_region 3 with fail
 rw [← Hg6.out,← Hw4.out]
 clear Hg6 Hw4
 have B60:=lH B6
 clear B6
 go_wp2_with fail
 go_loopw [7] (fun i wr=>KrRel R p.id g6 w2 i wr) (fun i _=>R.length-(intOf i).toNat)
 case atStart=>exact ⟨0,(0,0),by omega,rfl,B60.out,K4.out,.inl ⟨fun j z h=>by omega,rfl⟩⟩
 case round =>
  obtain ⟨k,⟨qx,qy⟩,hk,rfl,B6,ki,hcase⟩:=hrel
  obtain ⟨wi,rfl⟩:∃ wi:World,wi=wr:=⟨_,rfl⟩
  simp only at B6
  by_cases hkm:k<R.length
  ·obtain ⟨xl,xo,y,rfl,hxl,hy,hcl⟩:=(S.out.nx ki).at hkm
   have CR:Hid (∀ wq,Ex wi wq→wq.cell? ⟨xl,xo+k,none⟩=some (.int .i64 y)):=lH (fun wq kq=>Chg.cellv kq (by simpa using hcl 0 _ rfl) hxl)
   have QI:Hid (∀ wq,Ex wi wq→wq.cell? ⟨g3,0,none⟩=some (.int .i64 p.id)):=lH (fun wq kq=>(B3.out.nx (ki.nx kq)).cell 0 _ rfl)
   have B6h:=lH B6
   have KI:=lH ki
   have HC:=lH hcase
   have HYK:=lH hy
   have h03:(k:Int)<(R.length:Int):=by omega
   have hk0:(0:Int)≤(k:Int):=by omega
   have hwk:IntKind.i64.wrap ((k:Int)-1)=(k:Int)-1:=IntWalk.i64_in _ (by omega)
   have hwp:IntKind.i64.wrap ((k:Int)+1)=(k:Int)+1:=IntWalk.i64_in _ (by omega)
   clear hcl hy B6 ki hcase hxl
   go_upto_region 6 with fail
   refine wp_region_held_drew (S:=Ex wi) (by kernel_rfl) ((Ex.refl wi).drew) (fun hHeld=>?_)
   obtain ⟨wd,hwdx⟩:∃ wd:World,wd=World.drew wi:=⟨_,rfl⟩
   rw [← hwdx] at hHeld ⊢
   have hDrew:Ex wi wd:=by rw [hwdx];exact (Ex.refl wi).drew
   clear hwdx
   refine tkH 0 (v:=?_) rfl (by kernel_rfl) (fun _ _ _ h=>h) (by rfl) ?y5 hHeld ?_
   case y5=>intro wq hSw;go_simp<;>rfl
   try simp only [Act.put,sA,sB,sC]
   refine tkH 1 (v:=?_) rfl (by kernel_rfl) (fun _ _ _ h=>h) (by rfl) ?y8 hHeld ?_
   case y8=>intro wq hSw;go_simp<;>rfl
   try simp only [Act.put,sA,sB,sC]
   refine tkH 2 (v:=?_) rfl (by kernel_rfl) (fun _ _ _ h=>h) (by rfl) ?y11 hHeld ?_
   case y11=>intro wq hSw;go_simp<;>rfl
   try simp only [Act.put,sA,sB,sC]
   refine tkH 3 (v:=?_) rfl (by kernel_rfl) (fun _ _ _ h=>h) (by rfl) ?y14 hHeld ?_
   case y14=>intro wq hSw;(have cq:=CR.out wq hSw;go_simp)<;>rfl
   try simp only [Act.put,sA,sB,sC]
   refine tkH 4 (v:=?_) rfl (by kernel_rfl) (fun _ _ _ h=>h) (by rfl) ?y17 hHeld ?_
   case y17=>intro wq hSw;go_simp<;>rfl
   try simp only [Act.put,sA,sB,sC]
   refine tkH 5 (v:=?_) rfl (by kernel_rfl) (fun _ _ _ h=>h) (by rfl) ?y20 hHeld ?_
   case y20=>intro wq hSw;(have cq:=QI.out wq hSw;go_simp)<;>rfl
   try simp only [Act.put,sA,sB,sC]
   refine tkH 6 (v:=?_) rfl (by kernel_rfl) (fun _ _ _ h=>h) (by rfl) ?y23 hHeld ?_
   case y23=>intro wq hSw;go_simp<;>rfl
   try simp only [Act.put,sA,sB,sC]
   refine wpAnyH_done (by kernel_rfl) ?_ _
   have B6:=B6h.out.nx hHeld
   have K:Ex w2 wd:=KI.out.nx hHeld
   clear hHeld hDrew B6h KI
   by_cases he:y=p.id
   ·have de:(y != p.id)=false:=by simpa using he
    subst he
    obtain ⟨hq1,hq2⟩:qx=0∧qy=0:=by
     rcases HC.out with ⟨_,h⟩ | ⟨⟨j,hj,hjv⟩,_⟩
     ·simpa using h
     ·have:=nodup_atU ND.out hjv HYK.out
      omega
    subst hq1 hq2
    have HB:=lH (bes_nodup ND.out HYK.out)
    by_cases hz:k=0
    ·have HB:Hid (besN p.id R=(0,R[k+1]?.getD 0)):=lH (by rw [HB.out,if_pos hz])
     have hzz:¬ (k:Int)>0:=by omega
     have hzz2:¬ (0:Int)<(k:Int):=by omega
     clear hz
     by_cases hr1:k+1<R.length
     ·obtain ⟨xr,xo',yr,hee2,hxr,hyr,hcr⟩:=(S.out.nx K).at hr1
      cases hee2
      have cr:wd.cell? ⟨xl,xo+(k+1),none⟩=some (.int .i64 yr):=by simpa using hcr 0 _ rfl
      have HB2:Hid (besN p.id R=(0,yr)):=lH (by rw [HB.out,hyr];rfl)
      have h04:(k:Int)+1<(R.length:Int):=by omega
      have h05:(0:Int)≤(k:Int)+1:=by omega
      have f1:=B6.free 1
      have c1:=B6.cell 1 _ rfl
      have BF:Hid (Blk (wd.setCell ⟨g6,1,none⟩ (.int .i64 yr)) g6 [.int .i64 0,.int .i64 yr] 81):=lH (B6.set 1 _)
      have KF:=lH (K.setNew (p:=⟨g6,1,none⟩) (.int .i64 yr) zg6)
      clear hyr hcr hxr B6 K HB
      go_wp2_with fail
      exact ⟨⟨k+1,(0,yr),by omega,by go_num,BF.out,KF.out,.inr ⟨⟨k,by omega,HYK.out⟩,HB2.out.symm⟩⟩,by simp [intOf];omega⟩
     ·have hn:R[k+1]?=none:=List.getElem?_eq_none (by omega)
      have HB2:Hid (besN p.id R=(0,0)):=lH (by rw [HB.out,hn];rfl)
      have h04:¬ (k:Int)+1<(R.length:Int):=by omega
      have BF:=lH B6
      have KF:=lH K
      clear hn B6 K HB
      go_wp2_with fail
      exact ⟨⟨k+1,(0,0),by omega,by go_num,BF.out,KF.out,.inr ⟨⟨k,by omega,HYK.out⟩,HB2.out.symm⟩⟩,by simp [intOf];omega⟩
    ·obtain ⟨xl',xo',yl,hee,hxl,hyl,hcl⟩:=(S.out.nx K).at (show k-1<R.length by omega)
     cases hee
     have cl:wd.cell? ⟨xl,xo+(k-1),none⟩=some (.int .i64 yl):=by simpa using hcl 0 _ rfl
     have HB:Hid (besN p.id R=(yl,R[k+1]?.getD 0)):=lH (by rw [HB.out,if_neg hz,hyl];rfl)
     have hkp:(0:Int)<(k:Int):=by omega
     have h01:(1:Int)≤(k:Int):=by omega
     have h02:(k:Int)-1<(R.length:Int):=by omega
     have f0:=B6.free 0
     have c0:=B6.cell 0 _ rfl
     have BL:=lH (B6.set 0 (.int .i64 yl))
     have KL:=lH (K.setNew (p:=⟨g6,0,none⟩) (.int .i64 yl) zg6)
     clear hcl hyl hxl B6 K
     go_upto_region 9 with fail
     obtain ⟨wl,hwl⟩:∃ wl,wl=wd.setCell ⟨g6,0,none⟩ (.int .i64 yl):=⟨_,rfl⟩
     rw [← hwl] at BL KL ⊢
     have B6:Blk wl g6 [.int .i64 yl,.int .i64 0] 81:=BL.out
     have K:=KL.out
     clear hwl BL KL f0 c0 cl
     by_cases hr1:k+1<R.length
     ·obtain ⟨xr,xo',yr,hee2,hxr,hyr,hcr⟩:=(S.out.nx K).at hr1
      cases hee2
      have cr:wl.cell? ⟨xl,xo+(k+1),none⟩=some (.int .i64 yr):=by simpa using hcr 0 _ rfl
      have HB2:Hid (besN p.id R=(yl,yr)):=lH (by rw [HB.out,hyr];rfl)
      have h04:(k:Int)+1<(R.length:Int):=by omega
      have h05:(0:Int)≤(k:Int)+1:=by omega
      have f1:=B6.free 1
      have c1:=B6.cell 1 _ rfl
      have BF:Hid (Blk (wl.setCell ⟨g6,1,none⟩ (.int .i64 yr)) g6 [.int .i64 yl,.int .i64 yr] 81):=lH (B6.set 1 _)
      have KF:=lH (K.setNew (p:=⟨g6,1,none⟩) (.int .i64 yr) zg6)
      clear hyr hcr hxr B6 K HB
      go_wp2_with fail
      exact ⟨⟨k+1,(yl,yr),by omega,by go_num,BF.out,KF.out,.inr ⟨⟨k,by omega,HYK.out⟩,HB2.out.symm⟩⟩,by simp [intOf];omega⟩
     ·have hn:R[k+1]?=none:=List.getElem?_eq_none (by omega)
      have HB2:Hid (besN p.id R=(yl,0)):=lH (by rw [HB.out,hn];rfl)
      have h04:¬ (k:Int)+1<(R.length:Int):=by omega
      have BF:=lH B6
      have KF:=lH K
      clear hn B6 K HB
      go_wp2_with fail
      exact ⟨⟨k+1,(yl,0),by omega,by go_num,BF.out,KF.out,.inr ⟨⟨k,by omega,HYK.out⟩,HB2.out.symm⟩⟩,by simp [intOf];omega⟩
   ·have de:(y != p.id)=true:=by simpa using he
    have FN:=lH (show KrRel R p.id g6 w2 (.int .i64 ((k:Int)+1)) wd from ⟨k+1,(qx,qy),by omega,by go_num,B6,K,by
     rcases HC.out with ⟨h1,h2⟩ | ⟨⟨j,hj,hjv⟩,h2⟩
     ·refine .inl ⟨fun j z hj hz=>?_,h2⟩
      rcases Nat.lt_or_ge j k with h3 | h3
      ·exact h1 j z h3 hz
      ·obtain rfl:j=k:=by omega
       rw [HYK.out] at hz
       cases hz
       exact he
     ·exact .inr ⟨⟨j,by omega,hjv⟩,h2⟩⟩)
    clear B6 K he
    go_wp2_with fail
    exact ⟨FN.out,by simp [intOf];omega⟩
  ·obtain rfl:k=R.length:=by omega
   have h03:¬ ((R.length:Nat):Int)<(R.length:Int):=by omega
   have hres:(qx,qy)=besN p.id R:=by
    rcases hcase with ⟨h1,h2⟩ | ⟨_,h2⟩
    ·rw [h2,bes_none (fun hm=>by
      obtain ⟨j,hj⟩:=List.mem_iff_getElem?.1 hm
      exact h1 j _ (List.getElem?_eq_some_iff.1 hj).1 hj rfl)]
    ·exact h2
   have KE:=lH (KN.out _ hres.symm)
   have B4j:=B4.out.nx ki
   have p0:=B6.cell 0 _ rfl
   have p1:=B6.cell 1 _ rfl
   have q0:=B4j.cell 0 _ rfl
   have q1:=B4j.cell 1 _ rfl
   have f0:=B4j.free 0
   have f1:=B4j.free 1
   have KF:=lH (((EX2.out.nx ki).setNew (p:=⟨g4,0,none⟩) (.int .i64 qx) zg4).setNew (p:=⟨g4,1,none⟩) (.int .i64 qy) zg4)
   clear B4j B6 hcase hres ki hkm hk
   go_wp2_with fail
   refine bodyPost_ret (v:=.agg #[.int .i64 qx,.int .i64 qy]) (by simp [results,Tryz.results85,go_sem, *]) rfl ⟨by rw [KE.out],KF.out⟩
end Go.Proofs.YtalmjklljofhbaaGreatDoor
