/- Texts for FlightStepsProof. -/
import Derived.Laws.OwnMore
import Derived.Test.YtalmjklljofhbaaGreatDoorFlightStepsProofL27
set_option linter.unusedSimpArgs false
set_option linter.unusedVariables false

namespace Go.Proofs.YtalmjklljofhbaaGreatDoor
open Go.RowKit
theorem nextB_len (N:List Nd) (st:Int→Pr) (p:Pr) (h:Nat):(nextB N st p h).length=h:=by unfold nextB;rw [List.length_map,List.length_range]
structure InOf (n b:Nat) (w w':World) (v:Value) (l:List Int):Prop where
 own:OwnL 1 encI 3 w.heap.size w' v l
 len:l.length≤n
 tape:TK w' b
 k:Exb b w w'
set_option maxRecDepth 100000 in
set_option maxHeartbeats 2000000 in
theorem ints_t {b:Nat} (n:Nat) (most:Int) (w:World) (h:TK w b) (hn:n≤1000) (hm1:1≤most) (hm2:most≤1000000) :
  Calls Tryz.prog 17 #[.pointer (some ⟨b,0,none⟩),.int .i64 n,.int .i64 most] w fun e w'=>∃ v r,e=.returned v∧InOf n b w w' v r:=by
 have hbw:=h.lt
 go_enter Tryz.func17,Tryz.ntmps17
 go_wp2_with fail
 refine (next_t ((n:Int)+1) _ h (by omega) (by omega)).mono ?_
 rintro e w1 ⟨q,rfl,q0,q1,T,kk⟩
 obtain ⟨q,rfl⟩:=Int.eq_ofNat_of_zero_le q0
 clear h
 go_wp2_with fail
 go_loopw [7,8] (fun o i wr=>∃ (q:Nat) (L:List Int),L.length+q≤n∧i=.int .i64 q∧InOf n b w wr o L) (fun _ i _=>(intOf i).toNat)
 case atStart=>exact ⟨q,[],by simp;omega,rfl,OwnL.nil _ _ _ _ _,by simp,T,kk⟩
 case round =>
  clear T kk
  obtain ⟨q,L,hq,rfl,R⟩:=hrel
  obtain ⟨wo,rfl⟩:∃ wo:World,wo=wr:=⟨_,rfl⟩
  by_cases hq0:0<q
  ·have T:=R.tape
   have R:=lH R
   go_wp2_with fail
   refine (next_t most _ T hm1 (by omega)).mono ?_
   clear T
   rintro e w2 ⟨r,rfl,r0,r1,T,k2⟩
   have own:=R.out.own.nxb hbw k2
   have kk:=R.out.k.nxb k2
   have zz:=kk.size
   have hLl:L.length≤1000:=by omega
   clear k2 r0 r1
   go_wp2_with (at_builtin;(refine wpList_append_lit (enc:=encI) w2 rfl _ _ 22 rfl w.heap.size 3 (.int .i64 0) 1 8 Tryz.underlying22 Tryz.infoI6 rfl (by omega) (by omega) _ _ own rfl (r:Int) _ rfl rfl (by simp [encI,Value.oneCell']) _ (by simp) rfl (by omega) zz _ ?_);intro v6 w6 own6 _ ch1 _)
   refine ⟨⟨q-1,L++[r],by simp;omega,by rw [show ((q-1:Nat):Int)=(q:Int)-1 by omega],own6,by simp;omega,TP.chg T ch1 (fun x hx=>by omega),Chg.trans kk (ch1.mono (fun x hx=>hx.1))⟩,by simp [intOf];omega⟩
  ·have R:=lH R
   go_wp2_with fail
   go_ret
   exact ⟨_,L,rfl,R.out⟩
set_option maxRecDepth 100000 in
set_option maxHeartbeats 8000000 in
theorem numbers_q (p:Pr) (a1:Option Addr) (n1 c1:Nat) (a2:Option Addr) (n2 c2:Nat) (w:World) (h1:Sl 1 encI w a1 n1 p.known) (h2:Sl 4 encNr w a2 n2 p.near) (hn1:n1≤2000000) (hn2:n2≤2000000) :
  Calls Tryz.prog 169 #[.agg #[.int .i64 p.id,.slice a1 n1 c1,.int .i64 p.left,.int .i64 p.right,.slice a2 n2 c2]] w (OiPost (numsP p) w):=by
 obtain ⟨id,lf,rt,kn,nr⟩:=p
 have HN:Hid (numsP ⟨id,lf,rt,kn,nr⟩=(kn++[lf,rt])++nr.flatMap nums4):=lH rfl
 have hkl:kn.length≤2000000:=by have:kn.length=n1:=h1.len;omega
 have hnl:nr.length=n2:=h2.len
 have hw0:=Nat.le_refl w.heap.size
 simp only at h1 h2 ⊢
 have B1:=Blk.new w [.int .i64 id,.slice a1 n1 c1,.int .i64 lf,.int .i64 rt,.slice a2 n2 c2] 36
 have kk:=Ex.new w (.cells #[.int .i64 id,.slice a1 n1 c1,.int .i64 lf,.int .i64 rt,.slice a2 n2 c2] 36)
 obtain ⟨w1,hw1⟩:∃ w1,w1=w.alloc (.cells #[.int .i64 id,.slice a1 n1 c1,.int .i64 lf,.int .i64 rt,.slice a2 n2 c2] 36):=⟨_,rfl⟩
 obtain ⟨g,hg⟩:∃ g,g=w.heap.size:=⟨_,rfl⟩
 replace B1:Blk w1 g [.int .i64 id,.slice a1 n1 c1,.int .i64 lf,.int .i64 rt,.slice a2 n2 c2] 36:=by rw [hw1,hg];exact B1
 rw [← hw1] at kk
 have Hw1:=lH hw1
 have Hg:=lH hg
 replace h1:=h1.nx kk
 replace h2:=h2.nx kk
 have hz1:=kk.size
 have K1:=lH kk
 have S1:=lH h1
 have S2:=lH h2
 clear h1 h2 kk hw1 hg
 go_enter Tryz.func169,Tryz.ntmps169
 go_upto_region 1 with fail
 rw [← Hg.out,← Hw1.out]
 clear Hg Hw1
 have BH:=lH B1
 clear B1
 go_cut [3] from 5 to 14 (fun s3 wx=>NmCut (kn++[lf,rt]) w1 s3 wx)
 case first =>
  refine wp_region_held_drew (S:=Ex w1) (by kernel_rfl) ((Ex.refl w1).drew) (fun hHeld=>?_)
  refine tkH 0 (v:=?_) rfl (by kernel_rfl) (fun _ _ _ h=>h) (by rfl) ?y1 hHeld ?_
  case y1=>intro wq hSw;go_simp<;>rfl
  refine tkH 1 (v:=?_) rfl (by kernel_rfl) (fun _ _ _ h=>h) (by rfl) ?y4 hHeld ?_
  case y4=>intro wq hSw;(have cq:=(BH.out.nx hSw).cell 1 _ rfl;go_simp)<;>rfl
  refine tkH 3 (v:=?_) rfl (by kernel_rfl) (fun _ _ _ h=>h) (by rfl) ?y7 hHeld ?_
  case y7=>intro wq hSw;go_simp<;>rfl
  refine tkH 4 (v:=?_) rfl (by kernel_rfl) (fun _ _ _ h=>h) (by rfl) ?y10 hHeld ?_
  case y10=>intro wq hSw;(have cq:=(BH.out.nx hSw).cell 2 _ rfl;go_simp)<;>rfl
  refine tkH 5 (v:=?_) rfl (by kernel_rfl) (fun _ _ _ h=>h) (by rfl) ?y13 hHeld ?_
  case y13=>intro wq hSw;go_simp<;>rfl
  refine tkH 6 (v:=?_) rfl (by kernel_rfl) (fun _ _ _ h=>h) (by rfl) ?y16 hHeld ?_
  case y16=>intro wq hSw;(have cq:=(BH.out.nx hSw).cell 3 _ rfl;go_simp)<;>rfl
  refine wpAnyH_ready (rs:=[2,7]) (by kernel_rfl) (by simp) ?_
  refine AllReadyH.cons (o:=⟨_,_,_,_,_,_⟩) rfl (fun K hK=>?_) ?_
  ·rw [if_pos (by rfl)]
   have s0:=S1.out.nx hHeld
   have z0:=Ex.size hHeld
   refine wp_append_rq (enc:=encI) _ (.const (.slice none 0 0)) (.tmp 6) 22 rfl w1.heap.size 3 (.int .i64 0) 1 8 Tryz.underlying22 Tryz.infoI6 rfl (by omega) (by omega) _ [] (OwnL.nil _ _ _ _ _) rfl _ n1 c1 kn s0 (fun _=>rfl) (by simp [encI,Value.oneCell']) rfl (by simp) (by omega) z0 ?_
   intro v7 w7 own7 ch0 ch1
   have k7:Ex _ w7:=ch0.mono (fun k hk=>⟨hk,by simp [Value.ownBlock]⟩)
   (try replace L8:=L8.nx k7)
   have j7:Ex w1 w7:=Chg.trans hHeld ch1
   rw [List.nil_append] at own7
   clear ch0 ch1 s0 z0 k7 hHeld
   have hHeld:=j7
   clear j7
   refine hK.out _ _ (hHeld) (fun hHeld=>?_)
   clear hK K
   refine rH 7 (by kernel_rfl) rfl fun K hK=>?_
   go_simp
   obtain ⟨g8,u8,hg8,hu8,L8,k8,j8⟩:=lit2 hHeld lf rt
   (try replace own7:=own7.nx k8)
   (first | rw [← hg8,← hu8] | (rw [show w1.drew.heap.size=w1.heap.size from rfl] at hg8;rw [← hg8,show ∀ o,(w1.alloc o).drew=w1.drew.alloc o from fun _=>rfl,← hu8]))
   clear hg8 hu8 k8 hHeld
   have hHeld:=j8
   clear j8
   refine hK.out _ _ (hHeld) (fun hHeld=>?_)
   clear hK K
   refine rH 8 (by kernel_rfl) rfl fun K hK=>?_
   rw [if_pos (by rfl)]
   have z0:=Ex.size hHeld
   refine wp_append_rd (enc:=encI) _ (.tmp 7) (.tmp 12) 22 rfl w1.heap.size 3 (.int .i64 0) 1 8 Tryz.underlying22 Tryz.infoI6 rfl (by omega) (by omega) _ kn own7 rfl _ _ 2 2 [lf,rt] L8 (fun h=>by cases h) (fun _=>rfl) (by simp [encI,Value.oneCell']) rfl (by omega) (by omega) z0 ?_
   intro v9 w9 own9 ch0 ch1
   have j9:Ex w1 w9:=Chg.trans hHeld ch1
   clear ch0 ch1 z0 own7 L8 hHeld
   have hHeld:=j9
   clear j9
   refine hK.out _ _ (hHeld) (fun hHeld=>?_)
   clear hK K
   refine tkH 9 (v:=?_) rfl (by kernel_rfl) (fun _ _ _ h=>h) (by rfl) ?y61 hHeld ?_
   case y61=>intro wq hSw;go_simp<;>rfl
   refine wpAnyH_done (by kernel_rfl) ?_ _
   go_wp2_with fail
   go_meet
   exact ⟨own9,hHeld⟩
  refine AllReadyH.cons (o:=⟨_,_,_,_,_,_⟩) rfl (fun K hK=>?_) AllReadyH.nil
  ·go_simp
   obtain ⟨g8,u8,hg8,hu8,L8,k8,j8⟩:=lit2 hHeld lf rt
   (try replace own7:=own7.nx k8)
   (first | rw [← hg8,← hu8] | (rw [show w1.drew.heap.size=w1.heap.size from rfl] at hg8;rw [← hg8,show ∀ o,(w1.alloc o).drew=w1.drew.alloc o from fun _=>rfl,← hu8]))
   clear hg8 hu8 k8 hHeld
   have hHeld:=j8
   clear j8
   refine hK.out _ _ (hHeld) (fun hHeld=>?_)
   clear hK K
   refine rH 2 (by kernel_rfl) rfl fun K hK=>?_
   rw [if_pos (by rfl)]
   have s0:=S1.out.nx hHeld
   have z0:=Ex.size hHeld
   refine wp_append_rq (enc:=encI) _ (.const (.slice none 0 0)) (.tmp 6) 22 rfl w1.heap.size 3 (.int .i64 0) 1 8 Tryz.underlying22 Tryz.infoI6 rfl (by omega) (by omega) _ [] (OwnL.nil _ _ _ _ _) rfl _ n1 c1 kn s0 (fun _=>rfl) (by simp [encI,Value.oneCell']) rfl (by simp) (by omega) z0 ?_
   intro v7 w7 own7 ch0 ch1
   have k7:Ex _ w7:=ch0.mono (fun k hk=>⟨hk,by simp [Value.ownBlock]⟩)
   (try replace L8:=L8.nx k7)
   have j7:Ex w1 w7:=Chg.trans hHeld ch1
   rw [List.nil_append] at own7
   clear ch0 ch1 s0 z0 k7 hHeld
   have hHeld:=j7
   clear j7
   refine hK.out _ _ (hHeld) (fun hHeld=>?_)
   clear hK K
   refine rH 8 (by kernel_rfl) rfl fun K hK=>?_
   rw [if_pos (by rfl)]
   have z0:=Ex.size hHeld
   refine wp_append_rd (enc:=encI) _ (.tmp 7) (.tmp 12) 22 rfl w1.heap.size 3 (.int .i64 0) 1 8 Tryz.underlying22 Tryz.infoI6 rfl (by omega) (by omega) _ kn own7 rfl _ _ 2 2 [lf,rt] L8 (fun h=>by cases h) (fun _=>rfl) (by simp [encI,Value.oneCell']) rfl (by omega) (by omega) z0 ?_
   intro v9 w9 own9 ch0 ch1
   have j9:Ex w1 w9:=Chg.trans hHeld ch1
   clear ch0 ch1 z0 own7 L8 hHeld
   have hHeld:=j9
   clear j9
   refine hK.out _ _ (hHeld) (fun hHeld=>?_)
   clear hK K
   refine tkH 9 (v:=?_) rfl (by kernel_rfl) (fun _ _ _ h=>h) (by rfl) ?y107 hHeld ?_
   case y107=>intro wq hSw;go_simp<;>rfl
   refine wpAnyH_done (by kernel_rfl) ?_ _
   go_wp2_with fail
   go_meet
   exact ⟨own9,hHeld⟩
 case rest =>
  obtain ⟨own,kk⟩:=hcut
  have hl0:(kn++[lf,rt]).length≤2000002:=by simp;omega
  generalize kn++[lf,rt]=l0 at own HN hl0
  have OWN:=lH own
  have KC:=lH kk
  clear own kk
  go_wp2_with fail
  go_loopw [3,4] (fun o i wr=>NmRel l0 nr w1 o i wr) (fun _ i _=>nr.length-(intOf i).toNat)
  case atStart=>exact ⟨0,by omega,rfl,by simpa using OWN.out,KC.out⟩
  case round =>
   obtain ⟨j,hj,rfl,own,ki⟩:=hrel
   obtain ⟨wi,rfl⟩:∃ wi:World,wi=wr:=⟨_,rfl⟩
   have b4:=(BH.out.nx ki).cell 4 _ rfl
   by_cases hjm:j<n2
   ·obtain ⟨x3,o3,y,rfl,hx3,hy,hc3⟩:=S2.out.at hjm
    have e0:w1.cell? ⟨x3,o3+j*4,none⟩=some (.int .i64 y.1):=hc3 0 _ rfl
    have e1:w1.cell? ⟨x3,o3+j*4+1,none⟩=some (.int .i64 y.2.1):=hc3 1 _ rfl
    have e2:w1.cell? ⟨x3,o3+j*4+2,none⟩=some (.int .i64 y.2.2.1):=hc3 2 _ rfl
    have e3:w1.cell? ⟨x3,o3+j*4+3,none⟩=some (.int .i64 y.2.2.2):=hc3 3 _ rfl
    have SN:=lH (nm_snoc (l0:=l0) hy)
    have hrl:(l0++(nr.take j).flatMap nums4).length≤50000000:=by
     rw [List.length_append,nums_len,List.length_take]
     omega
    generalize l0++(nr.take j).flatMap nums4=row at own SN hrl
    have E:=lH (show ∀ wq,Ex w1 wq→wq.cell? ⟨x3,o3+j*4,none⟩=some (.int .i64 y.1)∧wq.cell? ⟨x3,o3+j*4+1,none⟩=some (.int .i64 y.2.1)∧wq.cell? ⟨x3,o3+j*4+2,none⟩=some (.int .i64 y.2.2.1)∧wq.cell? ⟨x3,o3+j*4+3,none⟩=some (.int .i64 y.2.2.2) from fun wq k=>⟨Chg.cellv k e0 hx3,Chg.cellv k e1 hx3,Chg.cellv k e2 hx3,Chg.cellv k e3 hx3⟩)
    have zb:=ki.size
    have KI:=lH ki
    have OWN:=lH (own.nx (Ex.drew (Ex.refl wi)))
    clear hy hc3 e0 e1 e2 e3 own ki
    go_upto_region 5 with fail
    clear b4
    refine wp_region_held_drew (S:=Ex w1) (by kernel_rfl) (KI.out.drew) (fun hHeld=>?_)
    refine tkH 0 (v:=?_) rfl (by kernel_rfl) (fun _ _ _ h=>h) (by rfl) ?y1 hHeld ?_
    case y1=>intro wq hSw;go_simp<;>rfl
    refine tkH 1 (v:=?_) rfl (by kernel_rfl) (fun _ _ _ h=>h) (by rfl) ?y4 hHeld ?_
    case y4=>intro wq hSw;go_simp<;>rfl
    refine tkH 2 (v:=?_) rfl (by kernel_rfl) (fun _ _ _ h=>h) (by rfl) ?y7 hHeld ?_
    case y7=>intro wq hSw;(have cq:=(BH.out.nx hSw).cell 4 _ rfl;go_simp)<;>rfl
    refine tkH 3 (v:=?_) rfl (by kernel_rfl) (fun _ _ _ h=>h) (by rfl) ?y10 hHeld ?_
    case y10=>intro wq hSw;go_simp<;>rfl
    refine tkH 4 (v:=?_) rfl (by kernel_rfl) (fun _ _ _ h=>h) (by rfl) ?y13 hHeld ?_
    case y13=>intro wq hSw;go_simp<;>rfl
    refine tkH 5 (v:=?_) rfl (by kernel_rfl) (fun _ _ _ h=>h) (by rfl) ?y16 hHeld ?_
    case y16=>intro wq hSw;go_simp<;>rfl
    refine tkH 6 (v:=?_) rfl (by kernel_rfl) (fun _ _ _ h=>h) (by rfl) ?y19 hHeld ?_
    case y19=>intro wq hSw;((obtain ⟨q0,q1,q2,q3⟩:=E.out _ hSw);go_simp)<;>rfl
    refine tkH 7 (v:=?_) rfl (by kernel_rfl) (fun _ _ _ h=>h) (by rfl) ?y22 hHeld ?_
    case y22=>intro wq hSw;go_simp<;>rfl
    refine tkH 8 (v:=?_) rfl (by kernel_rfl) (fun _ _ _ h=>h) (by rfl) ?y25 hHeld ?_
    case y25=>intro wq hSw;(have cq:=(BH.out.nx hSw).cell 4 _ rfl;go_simp)<;>rfl
    refine tkH 9 (v:=?_) rfl (by kernel_rfl) (fun _ _ _ h=>h) (by rfl) ?y28 hHeld ?_
    case y28=>intro wq hSw;go_simp<;>rfl
    refine tkH 10 (v:=?_) rfl (by kernel_rfl) (fun _ _ _ h=>h) (by rfl) ?y31 hHeld ?_
    case y31=>intro wq hSw;go_simp<;>rfl
    refine tkH 11 (v:=?_) rfl (by kernel_rfl) (fun _ _ _ h=>h) (by rfl) ?y34 hHeld ?_
    case y34=>intro wq hSw;go_simp<;>rfl
    refine tkH 12 (v:=?_) rfl (by kernel_rfl) (fun _ _ _ h=>h) (by rfl) ?y37 hHeld ?_
    case y37=>intro wq hSw;((obtain ⟨q0,q1,q2,q3⟩:=E.out _ hSw);go_simp)<;>rfl
    refine tkH 13 (v:=?_) rfl (by kernel_rfl) (fun _ _ _ h=>h) (by rfl) ?y40 hHeld ?_
    case y40=>intro wq hSw;go_simp<;>rfl
    refine tkH 14 (v:=?_) rfl (by kernel_rfl) (fun _ _ _ h=>h) (by rfl) ?y43 hHeld ?_
    case y43=>intro wq hSw;(have cq:=(BH.out.nx hSw).cell 4 _ rfl;go_simp)<;>rfl
    refine tkH 15 (v:=?_) rfl (by kernel_rfl) (fun _ _ _ h=>h) (by rfl) ?y46 hHeld ?_
    case y46=>intro wq hSw;go_simp<;>rfl
    refine tkH 16 (v:=?_) rfl (by kernel_rfl) (fun _ _ _ h=>h) (by rfl) ?y49 hHeld ?_
    case y49=>intro wq hSw;go_simp<;>rfl
    refine tkH 17 (v:=?_) rfl (by kernel_rfl) (fun _ _ _ h=>h) (by rfl) ?y52 hHeld ?_
    case y52=>intro wq hSw;go_simp<;>rfl
    refine tkH 18 (v:=?_) rfl (by kernel_rfl) (fun _ _ _ h=>h) (by rfl) ?y55 hHeld ?_
    case y55=>intro wq hSw;((obtain ⟨q0,q1,q2,q3⟩:=E.out _ hSw);go_simp)<;>rfl
    refine tkH 19 (v:=?_) rfl (by kernel_rfl) (fun _ _ _ h=>h) (by rfl) ?y58 hHeld ?_
    case y58=>intro wq hSw;go_simp<;>rfl
    refine tkH 20 (v:=?_) rfl (by kernel_rfl) (fun _ _ _ h=>h) (by rfl) ?y61 hHeld ?_
    case y61=>intro wq hSw;(have cq:=(BH.out.nx hSw).cell 4 _ rfl;go_simp)<;>rfl
    refine tkH 21 (v:=?_) rfl (by kernel_rfl) (fun _ _ _ h=>h) (by rfl) ?y64 hHeld ?_
    case y64=>intro wq hSw;go_simp<;>rfl
    refine tkH 22 (v:=?_) rfl (by kernel_rfl) (fun _ _ _ h=>h) (by rfl) ?y67 hHeld ?_
    case y67=>intro wq hSw;go_simp<;>rfl
    refine tkH 23 (v:=?_) rfl (by kernel_rfl) (fun _ _ _ h=>h) (by rfl) ?y70 hHeld ?_
    case y70=>intro wq hSw;go_simp<;>rfl
    refine tkH 24 (v:=?_) rfl (by kernel_rfl) (fun _ _ _ h=>h) (by rfl) ?y73 hHeld ?_
    case y73=>intro wq hSw;((obtain ⟨q0,q1,q2,q3⟩:=E.out _ hSw);go_simp)<;>rfl
    refine rH 25 (by kernel_rfl) rfl fun K hK=>?_
    go_simp
    obtain ⟨g8,u8,hg8,hu8,L8,k8,j8⟩:=lit4 hHeld y
    replace OWN:=lH (OWN.out.nx k8)
    (first | rw [← hg8,← hu8] | (rw [show wi.drew.heap.size=wi.heap.size from rfl] at hg8;rw [← hg8,show ∀ o,(wi.alloc o).drew=wi.drew.alloc o from fun _=>rfl,← hu8]))
    clear hg8 hu8 k8 hHeld
    have hHeld:=j8
    clear j8
    refine hK.out _ _ (hHeld) (fun hHeld=>?_)
    clear hK K
    refine rH 26 (by kernel_rfl) rfl fun K hK=>?_
    rw [if_pos (by rfl)]
    have z0:=Ex.size hHeld
    refine wp_append_rd (enc:=encI) _ (.tmp 21) (.tmp 46) 22 rfl w1.heap.size 3 (.int .i64 0) 1 8 Tryz.underlying22 Tryz.infoI6 rfl (by omega) (by omega) _ row OWN.out rfl _ _ 4 4 (nums4 y) L8 (fun h=>by cases h) (fun _=>rfl) (by simp [encI,Value.oneCell']) rfl (by omega) (by omega) z0 ?_
    intro v9 w9 own9 ch0 ch1
    have j9:Ex w1 w9:=Chg.trans hHeld ch1
    clear ch0 ch1 z0 L8 hHeld
    have hHeld:=j9
    clear j9
    refine hK.out _ _ (hHeld) (fun hHeld=>?_)
    clear hK K
    refine tkH 27 (v:=?_) rfl (by kernel_rfl) (fun _ _ _ h=>h) (by rfl) ?y101 hHeld ?_
    case y101=>intro wq hSw;go_simp<;>rfl
    refine wpAnyH_done (by kernel_rfl) ?_ _
    skip
    go_wp2_with fail
    exact ⟨⟨j+1,by omega,by go_num,by rw [SN.out];exact own9,hHeld⟩,by simp [intOf];omega⟩
   ·obtain rfl:j=n2:=by omega
    rw [List.take_of_length_le (by omega)] at own
    have own:=lH (own.base hz1)
    have KE:=lH (K1.out.nx ki)
    clear hj hjm ki
    go_wp2_with fail
    go_ret
    exact ⟨_,rfl,by rw [HN.out];exact own.out,KE.out⟩
set_option maxRecDepth 100000 in
set_option maxHeartbeats 4000000 in
theorem refs_q (a:Option Addr) (n c:Nat) (N:List Nd) (p:Pr) (a1:Option Addr) (n1 c1:Nat) (a2:Option Addr) (n2 c2:Nat) (w:World) (h:Sl 3 encN w a n N) (hn:n≤1000) (h1:Sl 1 encI w a1 n1 p.known) (h2:Sl 4 encNr w a2 n2 p.near) (hn1:n1≤2000000) (hn2:n2≤2000000) :
  Calls Tryz.prog 147 #[.slice a n c,.agg #[.int .i64 p.id,.slice a1 n1 c1,.int .i64 p.left,.int .i64 p.right,.slice a2 n2 c2]] w (OiPost (refsN N p) w):=by
 have EX:=Ex.refl w
 have hl1:p.known.length=n1:=h1.len
 have hl2:p.near.length=n2:=h2.len
 have HNL:=lH (nums_len_p p)
 have B3:=Blk.new w [.int .i64 p.id,.slice a1 n1 c1,.int .i64 p.left,.int .i64 p.right,.slice a2 n2 c2] 36
 have kk:=Ex.new w (.cells #[.int .i64 p.id,.slice a1 n1 c1,.int .i64 p.left,.int .i64 p.right,.slice a2 n2 c2] 36)
 obtain ⟨w1,hw1⟩:∃ w1,w1=w.alloc (.cells #[.int .i64 p.id,.slice a1 n1 c1,.int .i64 p.left,.int .i64 p.right,.slice a2 n2 c2] 36):=⟨_,rfl⟩
 obtain ⟨g3,hg3⟩:∃ g3,g3=w.heap.size:=⟨_,rfl⟩
 replace B3:Blk w1 g3 [.int .i64 p.id,.slice a1 n1 c1,.int .i64 p.left,.int .i64 p.right,.slice a2 n2 c2] 36:=by rw [hw1,hg3];exact B3
 rw [← hw1] at kk
 have Hw1:=lH hw1
 have Hg3:=lH hg3
 replace h:=h.nx kk
 replace h1:=h1.nx kk
 replace h2:=h2.nx kk
 replace EX:=EX.nx kk
 clear kk hw1 hg3
 go_enter Tryz.func147,Tryz.ntmps147
 go_upto_region 1 with fail
 rw [← Hg3.out,← Hw1.out]
 clear Hg3 Hw1
 go_wp2_with fail
 (with_reducible refine (is_r _ _ _ _ _ h (by omega)).mono ?_)
 rintro e w2 ⟨rfl,kk⟩
 replace h:=h.nx kk
 replace h1:=h1.nx kk
 replace h2:=h2.nx kk
 replace EX:=EX.nx kk
 replace B3:=B3.nx kk
 clear kk
 by_cases hck:checkN N=0
 case neg =>
  have d1:(checkN N==0)=false:=by simpa using hck
  have E0:Hid (refsN N p=[]):=lH (by unfold refsN;rw [if_neg hck])
  rw [d1]
  clear h h1 h2 hck B3
  go_wp2_with fail
  go_ret
  exact ⟨_,rfl,by rw [E0.out];exact OwnL.nil _ _ _ _ _,EX⟩
 have d1:(checkN N==0)=true:=by simpa using hck
 have E0:Hid (refsN N p=ordN N (numsP p) p.id):=lH (by unfold refsN;rw [if_pos hck])
 rw [d1]
 clear hck d1
 have HB:=lH B3
 have HN:=lH h
 have H1:=lH h1
 have H2:=lH h2
 have EXH:=lH EX
 clear B3 h h1 h2 EX
 go_upto_region 3 with fail
 refine wp_region_held_drew (S:=Ex w2) (by kernel_rfl) ((Ex.refl w2).drew) (fun hHeld=>?_)
 refine tkH 0 (v:=?_) rfl (by kernel_rfl) (fun _ _ _ h=>h) (by rfl) ?y1 hHeld ?_
 case y1=>intro wq hSw;go_simp<;>rfl
 refine tkH 1 (v:=?_) rfl (by kernel_rfl) (fun _ _ _ h=>h) (by rfl) ?y4 hHeld ?_
 case y4=>intro wq hSw;(have B:=HB.out.nx hSw;have c0:=B.cell 0 _ rfl;have c1:=B.cell 1 _ rfl;have c2:=B.cell 2 _ rfl;have c3:=B.cell 3 _ rfl;have c4:=B.cell 4 _ rfl;go_simp)<;>rfl
 refine tkH 3 (v:=?_) rfl (by kernel_rfl) (fun _ _ _ h=>h) (by rfl) ?y7 hHeld ?_
 case y7=>intro wq hSw;go_simp<;>rfl
 refine tkH 4 (v:=?_) rfl (by kernel_rfl) (fun _ _ _ h=>h) (by rfl) ?y10 hHeld ?_
 case y10=>intro wq hSw;(have c0:=(HB.out.nx hSw).cell 0 _ rfl;go_simp)<;>rfl
 refine rH 2 (by kernel_rfl) rfl fun K hK=>?_
 go_simp
 (with_reducible refine (numbers_q p _ _ _ _ _ _ _ (H1.out.nx hHeld) (H2.out.nx hHeld) hn1 hn2).mono ?_)
 rintro e w5 ⟨v5,rfl,own5,kk⟩
 obtain ⟨A5,C5,rfl,sl5,_,_,_⟩:=own5.slf (fun _=>rfl)
 have sl5:=lH sl5.sl
 replace hHeld:=hHeld.nx kk
 clear kk own5
 refine hK.out _ _ (hHeld) (fun hHeld=>?_)
 clear hK K
 refine rH 5 (by kernel_rfl) rfl fun K hK=>?_
 go_simp
 (with_reducible refine (ordered_r _ _ _ N _ _ _ (numsP p) p.id _ (HN.out.nx hHeld) hn sl5.out (by rw [HNL.out];omega)).mono ?_)
 rintro e w6 ⟨v6,rfl,own6,kk⟩
 have own6:=lH (own6.base (EXH.out.nx hHeld).size)
 replace hHeld:=hHeld.nx kk
 clear kk
 refine hK.out _ _ (hHeld) (fun hHeld=>?_)
 clear hK K
 refine tkH 6 (v:=?_) rfl (by kernel_rfl) (fun _ _ _ h=>h) (by rfl) ?y36 hHeld ?_
 case y36=>intro wq hSw;go_simp<;>rfl
 refine wpAnyH_done (by kernel_rfl) ?_ _
 have KE:=lH (EXH.out.nx hHeld)
 clear hHeld
 go_wp2_with fail
 go_ret
 exact ⟨_,rfl,by rw [E0.out];exact own6.out,KE.out⟩
set_option maxHeartbeats 1000000 in
theorem other_r (a:Option Addr) (n c:Nat) (N:List Nd) (id own:Int) (w:World) (h:Sl 3 encN w a n N) (hn:n≤1000) :
  Calls Tryz.prog 142 #[.slice a n c,.int .i64 id,.int .i64 own] w fun e w'=>e=.returned (.int .i64 (otherN N id own))∧Ex w w':=by
 have EX:=Ex.refl w
 have E1:Hid (∀ o,o=(findN N id).2→otherN N id own=if o=true∧id≠own then id else 0):=lH (fun o ho=>by rw [ho];rfl)
 go_enter Tryz.func142,Tryz.ntmps142
 go_wp2_with fail
 (with_reducible refine (find_r _ _ _ _ id _ h (by omega)).mono ?_)
 rintro e w1 ⟨rfl,kk⟩
 replace EX:=EX.nx kk
 clear kk
 replace E1:=E1.out _ rfl
 obtain ⟨F,hF⟩:∃ F,F=findN N id:=⟨_,rfl⟩
 rw [← hF] at E1 ⊢
 clear hF h
 obtain ⟨⟨xi,xk,xw⟩,ok⟩:=F
 replace E1:=lH E1
 have B5:=Blk.new w1 [.int .i64 xi,.string xk,.int .u32 xw] 49
 have kk:=Ex.new w1 (.cells #[.int .i64 xi,.string xk,.int .u32 xw] 49)
 obtain ⟨w2,hw2⟩:∃ w2,w2=w1.alloc (.cells #[.int .i64 xi,.string xk,.int .u32 xw] 49):=⟨_,rfl⟩
 obtain ⟨g5,hg5⟩:∃ g5,g5=w1.heap.size:=⟨_,rfl⟩
 replace B5:Blk w2 g5 [.int .i64 xi,.string xk,.int .u32 xw] 49:=by rw [hw2,hg5];exact B5
 rw [← hw2] at kk
 have Hw2:=lH hw2
 have Hg5:=lH hg5
 replace EX:=EX.nx kk
 clear kk hw2 hg5
 simp only [Nd.val]
 go_upto_region 2 with fail
 rw [← Hg5.out,← Hw2.out]
 clear Hg5 Hw2
 clear B5
 cases ok with
 | false =>
  have EZ:Hid (otherN N id own=0):=lH (E1.out.trans (if_neg (by simp)))
  clear E1
  go_wp2_with fail
  go_ret
  exact ⟨by rw [EZ.out];rfl,EX⟩
 | true =>
  by_cases he:id=own
  ·have EZ:Hid (otherN N id own=0):=lH (E1.out.trans (if_neg (by simp [he])))
   have d1:(id==own)=true:=by simpa using he
   clear he E1
   go_wp2_with fail
   go_ret
   exact ⟨by rw [EZ.out];rfl,EX⟩
  ·have EZ:Hid (otherN N id own=id):=lH (E1.out.trans (if_pos ⟨rfl,he⟩))
   have d1:(id==own)=false:=by simpa using he
   clear he E1
   go_wp2_with fail
   go_ret
   exact ⟨by rw [EZ.out];rfl,EX⟩
theorem PL.one {w:World} {g:Nat} {y:Pr} {A1 A4:Option Addr} {m1 c1 m4 c4:Nat} (h1:Sl 1 encI w A1 m1 y.known) (h4:Sl 4 encNr w A4 m4 y.near) (g0:g=w.heap.size) :
  PL (w.alloc (.cells #[.int .i64 y.id,.slice A1 m1 c1,.int .i64 y.left,.int .i64 y.right,.slice A4 m4 c4] 36)) (some ⟨g,0,none⟩) 1 [y]:=by
 subst g0
 refine ⟨[(y.nums,(A1,m1,c1),(A4,m4,c4))],Sl.lit _ rfl rfl encQ_len rfl,rfl,fun i r p hr hp=>?_⟩
 rcases i with _ | i
 ·simp only [List.getElem?_cons_zero,Option.some.injEq] at hr hp
  subst hr hp
  exact ⟨rfl,h1.nx (Ex.new _ _),h4.nx (Ex.new _ _)⟩
 ·simp at hr
theorem other_z (N:List Nd) (own:Int):otherN N 0 own=0:=by unfold otherN;split<;>rfl
theorem other_link (N:List Nd) (p:Pr) (lev:Int):otherN N (linkB N p lev).1 p.id=(linkB N p lev).1∧otherN N (linkB N p lev).2 p.id=(linkB N p lev).2:=by
 have key:∀ z,otherN N (otherN N z p.id) p.id=otherN N z p.id:=fun z=>by
  by_cases h:(findN N z).2=true∧z≠p.id
  ·have e:otherN N z p.id=z:=by unfold otherN;rw [if_pos h]
   rw [e,e]
  ·have e:otherN N z p.id=0:=by unfold otherN;rw [if_neg h]
   rw [e,other_z]
 unfold linkB
 split
 ·exact ⟨key _,key _⟩
 ·exact ⟨other_z _ _,other_z _ _⟩
def sideR (N:List Nd) (nb:Int) (lev:Nat) (zero one:Int):Int×Int :=
 if (findN N nb).2=true then (if bitN (findN N nb).1.word lev=0 then ((findN N nb).1.id,one) else (zero,(findN N nb).1.id)) else (0,0)
theorem side_pair {N:List Nd} {own nb:Int} (h:otherN N nb own=nb) (lev:Nat) (zero one:Int) :
  (otherN N (sideR N nb lev zero one).1 own,otherN N (sideR N nb lev zero one).2 own)=pairB N own nb lev zero one:=by
 unfold sideR pairB
 by_cases hf:(findN N nb).2=true
 ·rw [if_pos hf,if_pos hf]
  have hid:(findN N nb).1.id=nb:=(findN_mem hf).2
  by_cases hb:bitN (findN N nb).1.word lev=0
  ·rw [if_pos hb,if_pos hb]
   simp only
   rw [hid,h]
  ·rw [if_neg hb,if_neg hb]
   simp only
   rw [hid,h]
 ·rw [if_neg hf,if_neg hf]
  simp only
  rw [other_z]
set_option maxRecDepth 100000 in
set_option maxHeartbeats 2000000 in
theorem near17_r (p:Pr) (a1:Option Addr) (n1 c1:Nat) (a2:Option Addr) (n2 c2:Nat) (lev:Nat) (x:Nr) (hx:nearAt p lev=x) (w:World) (h2:Sl 4 encNr w a2 n2 p.near) :
  Calls Tryz.prog 141 #[.agg #[.int .i64 p.id,.slice a1 n1 c1,.int .i64 p.left,.int .i64 p.right,.slice a2 n2 c2],.int .i64 lev] w fun e w'=>e=.returned (.agg #[.int .i64 x.1,.int .i64 x.2.1,.int .i64 x.2.2.1,.int .i64 x.2.2.2])∧Ex w w':=by
 have EX:=Ex.refl w
 obtain ⟨g2,hg2⟩:∃ g2,g2=w.heap.size:=⟨_,rfl⟩
 obtain ⟨g4,hg4⟩:∃ g4,g4=(w.heap.size+1):=⟨_,rfl⟩
 obtain ⟨w1,hw1⟩:∃ w1,w1=((w.alloc (.cells #[.int .i64 p.id,.slice a1 n1 c1,.int .i64 p.left,.int .i64 p.right,.slice a2 n2 c2] 36)).alloc (.cells #[.int .i64 0,.int .i64 0,.int .i64 0,.int .i64 0] 69)):=⟨_,rfl⟩
 have kk:Ex w w1:=by rw [hw1];exact (((Ex.refl w).alloc (.cells #[.int .i64 p.id,.slice a1 n1 c1,.int .i64 p.left,.int .i64 p.right,.slice a2 n2 c2] 36)).alloc (.cells #[.int .i64 0,.int .i64 0,.int .i64 0,.int .i64 0] 69))
 have B2:Blk w1 g2 [.int .i64 p.id,.slice a1 n1 c1,.int .i64 p.left,.int .i64 p.right,.slice a2 n2 c2] 36:=by rw [hw1];simp only [hg2,hg4];have hbk:=((Blk.new w [.int .i64 p.id,.slice a1 n1 c1,.int .i64 p.left,.int .i64 p.right,.slice a2 n2 c2] 36).nx (Ex.new _ (.cells #[.int .i64 0,.int .i64 0,.int .i64 0,.int .i64 0] 69)));simpa using hbk
 have B4:Blk w1 g4 [.int .i64 0,.int .i64 0,.int .i64 0,.int .i64 0] 69:=by rw [hw1];simp only [hg2,hg4];have hbk:=(Blk.new (w.alloc (.cells #[.int .i64 p.id,.slice a1 n1 c1,.int .i64 p.left,.int .i64 p.right,.slice a2 n2 c2] 36)) [.int .i64 0,.int .i64 0,.int .i64 0,.int .i64 0] 69);simpa using hbk
 have Hw1:=lH hw1
 have Hg2:=lH hg2
 have Hg4:=lH hg4
 replace h2:=h2.nx kk
 replace EX:=EX.nx kk
 have hz4:w.heap.size≤g4:=by omega
 clear kk hw1 hg2 hg4
 go_enter Tryz.func141,Tryz.ntmps141
 go_upto_region 1 with fail
 rw [← Hw1.out,← Hg4.out,← Hg2.out]
 clear Hw1 Hg4 Hg2
 have q4:=B2.cell 4 _ rfl
 have f0:=B4.free 0
 have f1:=B4.free 1
 have f2:=B4.free 2
 have f3:=B4.free 3
 have c0:=B4.cell 0 _ rfl
 have c1':=B4.cell 1 _ rfl
 have c2':=B4.cell 2 _ rfl
 have c3:=B4.cell 3 _ rfl
 have hml:=h2.len
 by_cases hlt:lev<n2
 ·obtain ⟨x6,o6,ny,rfl,hx6,hny,hc6⟩:=h2.at hlt
  obtain rfl:ny=x:=(near_at hny).symm.trans hx
  have r0:w1.cell? ⟨x6,o6+lev*4,none⟩=some (.int .i64 ny.1):=hc6 0 _ rfl
  have r1:w1.cell? ⟨x6,o6+lev*4+1,none⟩=some (.int .i64 ny.2.1):=hc6 1 _ rfl
  have r2:w1.cell? ⟨x6,o6+lev*4+1+1,none⟩=some (.int .i64 ny.2.2.1):=by simpa [Nat.add_assoc] using hc6 2 _ rfl
  have r3:w1.cell? ⟨x6,o6+lev*4+1+1+1,none⟩=some (.int .i64 ny.2.2.2):=by simpa [Nat.add_assoc] using hc6 3 _ rfl
  have hl1:(lev:Int)<(n2:Int):=by omega
  have KE:=lH ((((EX.setNew (p:=⟨g4,0,none⟩) (.int .i64 ny.1) hz4).setNew (p:=⟨g4,1,none⟩) (.int .i64 ny.2.1) hz4).setNew (p:=⟨g4,2,none⟩) (.int .i64 ny.2.2.1) hz4).setNew (p:=⟨g4,3,none⟩) (.int .i64 ny.2.2.2) hz4)
  clear h2 hc6 hny EX B2 B4 hx hml
  go_wp2_with fail
  refine bodyPost_ret (v:=.agg #[.int .i64 ny.1,.int .i64 ny.2.1,.int .i64 ny.2.2.1,.int .i64 ny.2.2.2]) (by simp [results,Tryz.results141,go_sem, *]) rfl ⟨rfl,KE.out⟩
 ·obtain rfl:x=(0,0,0,0):=hx.symm.trans (near_out (by omega))
  have hge:n2≤lev:=by omega
  have KE:=lH ((((EX.setNew (p:=⟨g4,0,none⟩) (.int .i64 0) hz4).setNew (p:=⟨g4,1,none⟩) (.int .i64 0) hz4).setNew (p:=⟨g4,2,none⟩) (.int .i64 0) hz4).setNew (p:=⟨g4,3,none⟩) (.int .i64 0) hz4)
  clear h2 EX B2 B4 hx hml hlt
  go_wp2_with fail
  refine bodyPost_ret (v:=.agg #[.int .i64 0,.int .i64 0,.int .i64 0,.int .i64 0]) (by simp [results,Tryz.results141,go_sem, *]) rfl ⟨rfl,KE.out⟩
end Go.Proofs.YtalmjklljofhbaaGreatDoor
