/- Texts for FlightStepsProof. -/
import Derived.Test.YtalmjklljofhbaaGreatDoorFlightStepsProofL19
set_option linter.unusedSimpArgs false
set_option linter.unusedVariables false

namespace Go.Proofs.YtalmjklljofhbaaGreatDoor
open Go.RowKit
def OiPost (l:List Int) (w:World) (e:Ending) (w':World):Prop:=∃ v,e=.returned v∧OwnL 1 encI 3 w.heap.size w' v l∧Ex w w'
def HasRel (l:List Int) (v:Int) (n:Nat) (w:World) (i:Value) (wr:World):Prop :=
 ∃ k:Nat,k≤n∧i=.int .i64 k∧Ex w wr∧∀ j z,j<k→l[j]?=some z→z≠v
set_option maxHeartbeats 1000000 in
theorem has_r (a:Option Addr) (n c:Nat) (l:List Int) (v:Int) (w:World) (h:Sl 1 encI w a n l) (hn:n≤4000000000000000000) :
  Calls Tryz.prog 129 #[.slice a n c,.int .i64 v] w fun e w'=>e=.returned (.bool (l.contains v))∧Ex w w':=by
 have HL:=lH h.len
 have hs:=lH h
 clear h
 go_enter Tryz.func129,Tryz.ntmps129
 go_wp2_with fail
 go_loopw [5] (fun i wr=>HasRel l v n w i wr) (fun i _=>n-(intOf i).toNat)
 case atStart=>exact ⟨0,by omega,rfl,Ex.refl _,by intro j z h;omega⟩
 case round =>
  obtain ⟨k,hk,rfl,kw,hno⟩:=hrel
  have HNO:=lH hno
  clear hno
  obtain ⟨wo,rfl⟩:∃ wo:World,wo=wr:=⟨_,rfl⟩
  by_cases hlt:k<n
  ·obtain ⟨x1,o1,y,rfl,hx1,hy,hc1⟩:=(hs.out.nx kw).at hlt
   have e0:wo.cell? ⟨x1,o1+k,none⟩=some (.int .i64 y):=by simpa using hc1 0 _ rfl
   have HY:=lH hy
   have KW:=lH kw
   clear hc1 hy kw
   by_cases hv:y=v
   ·have HC:Hid (l.contains v=true):=lH (by rw [List.contains_iff_mem,← hv];exact List.mem_of_getElem? HY.out)
    have hb:(y==v)=true:=by rw [hv];simp
    clear hv
    go_wp2_with fail
    go_ret
    exact ⟨by rw [HC.out];rfl,KW.out⟩
   ·have HV:=lH hv
    have hb:(y==v)=false:=by rw [beq_eq_false_iff_ne];exact hv
    clear hv
    go_wp2_with fail
    refine ⟨⟨k+1,by omega,by go_num,KW.out,fun j z hj hz=>?_⟩,by simp [intOf];omega⟩
    rcases Nat.lt_or_ge j k with h | h
    ·exact HNO.out j z h hz
    ·obtain rfl:j=k:=by omega
     rw [Option.some.inj (hz.symm.trans HY.out)]
     exact HV.out
  ·obtain rfl:k=n:=by omega
   have HC:Hid (l.contains v=false):=lH (by
    cases hc:l.contains v with
    | false=>rfl
    | true =>
     rw [List.contains_iff_mem] at hc
     obtain ⟨j,hj⟩:=List.mem_iff_getElem?.1 hc
     exact absurd rfl (HNO.out j v (by have:=(List.getElem?_eq_some_iff.1 hj).1;rw [← HL.out];exact this) hj))
   have KW:=lH kw
   clear hk hlt kw
   go_wp2_with fail
   go_ret
   exact ⟨by rw [HC.out];rfl,KW.out⟩
def ordP (l:List Int) (but:Int) (y:Nd):Bool:=!(y.id==but)&&l.contains y.id
def OrdRel (S:List Nd) (l:List Int) (but:Int) (w:World) (o i:Value) (wr:World):Prop :=
 ∃ j:Nat,j≤S.length∧i=.int .i64 j∧OwnL 1 encI 3 w.heap.size wr o (((S.take j).filter (ordP l but)).map Nd.id)∧Ex w wr
theorem ord_snoc {S:List Nd} {l:List Int} {but:Int} {j:Nat} {y:Nd} (hy:S[j]?=some y) :
  ((S.take (j+1)).filter (ordP l but)).map Nd.id=((S.take j).filter (ordP l but)).map Nd.id++(if ordP l but y=true then [y.id] else []):=by
 rw [List.take_add_one,hy,List.filter_append,List.map_append]
 congr 1
 by_cases hp:ordP l but y=true
 ·rw [if_pos hp];simp [hp]
 ·rw [if_neg hp];simp [hp]
set_option maxRecDepth 100000 in
set_option maxHeartbeats 2000000 in
theorem ordered_r (a:Option Addr) (n c:Nat) (N:List Nd) (a2:Option Addr) (n2 c2:Nat) (l:List Int) (but:Int) (w:World) (h:Sl 3 encN w a n N) (hn:n≤1000) (h2:Sl 1 encI w a2 n2 l) (hn2:n2≤4000000000000000000) :
  Calls Tryz.prog 87 #[.slice a n c,.slice a2 n2 c2,.int .i64 but] w (OiPost (ordN N l but) w):=by
 have hNn:N.length≤1000:=by have:=h.len;omega
 go_enter Tryz.func87,Tryz.ntmps87
 go_wp2_with fail
 (with_reducible refine (sort_r _ _ _ _ _ h hn).mono ?_)
 rintro e w1 ⟨a1,n1,c1,rfl,own1,kk⟩
 replace h2:=h2.nx kk
 have S1:Sl 3 encN w1 a1 n1 (sortN N):=Slf.sl own1
 have hn1:n1=(sortN N).length:=S1.len.symm
 subst hn1
 have hSl:(sortN N).length≤1000:=by rw [sortN_length];exact hNn
 have ES:Hid (ordN N l but=((sortN N).filter (ordP l but)).map Nd.id):=lH rfl
 generalize sortN N=S at S1 hSl ES own1 ⊢
 have S1:=lH S1
 have H2:=lH h2
 have K1:Hid (Ex w w1):=lH kk
 have hz1:=kk.size
 clear h own1 h2 kk hNn hn
 go_wp2_with fail
 go_loopw [7,9] (fun o i wr=>OrdRel S l but w1 o i wr) (fun _ i _=>S.length-(intOf i).toNat)
 case atStart=>exact ⟨0,by omega,rfl,OwnL.nil _ _ _ _ _,Ex.refl _⟩
 case round =>
  obtain ⟨j,hj,rfl,own,ki⟩:=hrel
  obtain ⟨wi,rfl⟩:∃ wi:World,wi=wr:=⟨_,rfl⟩
  by_cases hjm:j<S.length
  ·obtain ⟨x3,o3,y,rfl,hx3,hy,hc3⟩:=(S1.out.nx ki).at hjm
   have e0:wi.cell? ⟨x3,o3+j*3,none⟩=some (.int .i64 y.id):=hc3 0 _ rfl
   have SN:=lH (ord_snoc (l:=l) (but:=but) hy)
   have hrl:(((S.take j).filter (ordP l but)).map Nd.id).length≤1000:=by
    rw [List.length_map]
    have:=List.length_filter_le (ordP l but) (S.take j)
    rw [List.length_take] at this
    omega
   generalize ((S.take j).filter (ordP l but)).map Nd.id=row at own SN hrl
   have OWN:=lH own
   have KI:=lH ki
   have zb:=ki.size
   clear hy hc3 own ki
   by_cases hb:y.id=but
   ·have hq:(y.id != but)=false:=by simp [hb]
    have hq2:(y.id==but)=true:=by simp [hb]
    have PF:Hid (ordP l but y=false):=lH (by unfold ordP;rw [hq2];rfl)
    clear hb
    go_wp2_with fail
    exact ⟨⟨j+1,by omega,by go_num,by rw [SN.out,PF.out];simpa using OWN.out,KI.out⟩,by simp [intOf];omega⟩
   ·have hq:(y.id != but)=true:=by simpa using hb
    have hq2:(y.id==but)=false:=by simpa using hb
    clear hb
    go_wp2_with fail
    (with_reducible refine (has_r _ _ _ _ y.id _ (H2.out.nx KI.out) hn2).mono ?_)
    rintro e w5 ⟨rfl,kk⟩
    have K5:=lH kk
    have e5:w5.cell? ⟨x3,o3+j*3,none⟩=some (.int .i64 y.id):=Chg.cellv kk e0 hx3
    have own5:=OWN.out.nx kk
    have k5:=KI.out.nx kk
    have hx5:=Nat.lt_of_lt_of_le hx3 kk.size
    have zb5:=k5.size
    have PB:Hid (ordP l but y=l.contains y.id):=lH (by unfold ordP;rw [hq2];rfl)
    clear kk e0
    generalize l.contains y.id=inl at PB ⊢
    cases inl with
    | false =>
     have K5':=lH k5
     have O5':=lH own5
     clear k5 own5
     go_wp2_with fail
     exact ⟨⟨j+1,by omega,by go_num,by rw [SN.out,PB.out];simpa using O5'.out,K5'.out⟩,by simp [intOf];omega⟩
    | true =>
     generalize y.id=yi at SN e5 hq hq2 ⊢
     go_wp2_with (at_builtin;(refine wpList_append_lit (enc:=encI) w5 rfl _ _ 22 rfl w1.heap.size 3 (.int .i64 0) 1 8 Tryz.underlying22 Tryz.infoI6 rfl (by omega) (by omega) _ _ own5 rfl (yi:Int) _ rfl rfl (by simp [encI,Value.oneCell']) _ (by simp) rfl (by omega) zb5 _ ?_);intro v6 w6 own6 _ ch1 _)
     refine ⟨⟨j+1,by omega,by go_num,by rw [SN.out,PB.out];exact own6,Chg.trans k5 ch1⟩,by simp [intOf];omega⟩
  ·obtain rfl:j=S.length:=by omega
   rw [List.take_of_length_le (by omega)] at own
   have own:=lH (own.base hz1)
   have KE:=lH (K1.out.nx ki)
   clear hj hjm ki
   go_wp2_with fail
   go_ret
   exact ⟨_,rfl,by rw [ES.out];exact own.out,KE.out⟩
end Go.Proofs.YtalmjklljofhbaaGreatDoor
namespace Go.Proofs.YtalmjklljofhbaaGreatDoor
open Go.RowKit Go.Maps
theorem check_len {N:List Nd} (h0:checkN N=0):N.length≤64:=by
 unfold checkN at h0
 split at h0
 ·cases h0
 ·omega
theorem lit2 {w u:World} (h:Ex w u) (x y:Int):∃ g v,g=u.heap.size∧v=u.alloc (.cells #[.int .i64 x,.int .i64 y] 3)∧Sl 1 encI v (some ⟨g,0,none⟩) 2 [x,y]∧Ex u v∧Ex w v :=
 ⟨_,_,rfl,rfl,Sl.lit [x,y] rfl rfl (fun _=>rfl) rfl,Ex.new _ _,h.nx (Ex.new _ _)⟩
theorem lit4 {w u:World} (h:Ex w u) (y:Nr):∃ g v,g=u.heap.size∧v=u.alloc (.cells #[.int .i64 y.1,.int .i64 y.2.1,.int .i64 y.2.2.1,.int .i64 y.2.2.2] 3)∧Sl 1 encI v (some ⟨g,0,none⟩) 4 (nums4 y)∧Ex u v∧Ex w v :=
 ⟨_,_,rfl,rfl,Sl.lit (nums4 y) rfl rfl (fun _=>rfl) rfl,Ex.new _ _,h.nx (Ex.new _ _)⟩
def NmCut (l:List Int) (w:World) (s:Value) (wx:World):Prop:=OwnL 1 encI 3 w.heap.size wx s l∧Ex w wx
def NmRel (l0:List Int) (nr:List Nr) (w:World) (o i:Value) (wr:World):Prop :=
 ∃ j:Nat,j≤nr.length∧i=.int .i64 j∧OwnL 1 encI 3 w.heap.size wr o (l0++(nr.take j).flatMap nums4)∧Ex w wr
theorem nm_snoc {l0:List Int} {nr:List Nr} {j:Nat} {y:Nr} (hy:nr[j]?=some y):l0++(nr.take (j+1)).flatMap nums4=(l0++(nr.take j).flatMap nums4)++nums4 y:=by
 rw [List.take_add_one,hy]
 simp
theorem nums_len (l:List Nr):(l.flatMap nums4).length=4*l.length:=by
 induction l with
 | nil=>rfl
 | cons x l ih=>rw [List.flatMap_cons,List.length_append,ih,List.length_cons,show (nums4 x).length=4 from rfl];omega
set_option maxRecDepth 100000 in
set_option maxHeartbeats 8000000 in
theorem numbers_r (p:Pr) (a1:Option Addr) (n1 c1:Nat) (a2:Option Addr) (n2 c2:Nat) (w:World) (h1:Sl 1 encI w a1 n1 p.known) (h2:Sl 4 encNr w a2 n2 p.near) (hn1:n1≤2000000) (hn2:n2≤2000000) (z1:a1=none→c1=0) :
  Calls Tryz.prog 169 #[.agg #[.int .i64 p.id,.slice a1 n1 c1,.int .i64 p.left,.int .i64 p.right,.slice a2 n2 c2]] w (OiPost (numsP p) w):=by
 obtain ⟨id,lf,rt,kn,nr⟩:=p
 have HN:Hid (numsP ⟨id,lf,rt,kn,nr⟩=(kn++[lf,rt])++nr.flatMap nums4):=lH rfl
 have hkl:kn.length≤2000000:=by have:kn.length=n1:=h1.len;omega
 have hnl:nr.length=n2:=h2.len
 have hw0:=Nat.le_refl w.heap.size
 simp only at h1 h2 ⊢
 have B1:=Blk.new w [.int .i64 id,.slice a1 n1 c1,.int .i64 lf,.int .i64 rt,.slice a2 n2 c2] 36
 have kk:=Ex.new w (.cells #[.int .i64 id,.slice a1 n1 c1,.int .i64 lf,.int .i64 rt,.slice a2 n2 c2] 36)
 obtain ⟨w1,hw1⟩:∃ w1,w1=w.alloc (.cells #[.int .i64 id,.slice a1 n1 c1,.int .i64 lf,.int .i64 rt,.slice a2 n2 c2] 36):=⟨_,rfl⟩
 obtain ⟨g,hg⟩:∃ g,g=w.heap.size:=⟨_,rfl⟩
 replace B1:Blk w1 g [.int .i64 id,.slice a1 n1 c1,.int .i64 lf,.int .i64 rt,.slice a2 n2 c2] 36:=by rw [hw1,hg];exact B1
 rw [← hw1] at kk
 have Hw1:=lH hw1
 have Hg:=lH hg
 replace h1:=h1.nx kk
 replace h2:=h2.nx kk
 have hz1:=kk.size
 have K1:=lH kk
 have S1:=lH h1
 have S2:=lH h2
 clear h1 h2 kk hw1 hg
 go_enter Tryz.func169,Tryz.ntmps169
 go_upto_region 1 with fail
 rw [← Hg.out,← Hw1.out]
 clear Hg Hw1
 have BH:=lH B1
 clear B1
 go_cut [3] from 5 to 14 (fun s3 wx=>NmCut (kn++[lf,rt]) w1 s3 wx)
 case first =>
  refine wp_region_held_drew (S:=Ex w1) (by kernel_rfl) ((Ex.refl w1).drew) (fun hHeld=>?_)
  refine tkH 0 (v:=?_) rfl (by kernel_rfl) (fun _ _ _ h=>h) (by rfl) ?y1 hHeld ?_
  case y1=>intro wq hSw;go_simp<;>rfl
  refine tkH 1 (v:=?_) rfl (by kernel_rfl) (fun _ _ _ h=>h) (by rfl) ?y4 hHeld ?_
  case y4=>intro wq hSw;(have cq:=(BH.out.nx hSw).cell 1 _ rfl;go_simp)<;>rfl
  refine tkH 3 (v:=?_) rfl (by kernel_rfl) (fun _ _ _ h=>h) (by rfl) ?y7 hHeld ?_
  case y7=>intro wq hSw;go_simp<;>rfl
  refine tkH 4 (v:=?_) rfl (by kernel_rfl) (fun _ _ _ h=>h) (by rfl) ?y10 hHeld ?_
  case y10=>intro wq hSw;(have cq:=(BH.out.nx hSw).cell 2 _ rfl;go_simp)<;>rfl
  refine tkH 5 (v:=?_) rfl (by kernel_rfl) (fun _ _ _ h=>h) (by rfl) ?y13 hHeld ?_
  case y13=>intro wq hSw;go_simp<;>rfl
  refine tkH 6 (v:=?_) rfl (by kernel_rfl) (fun _ _ _ h=>h) (by rfl) ?y16 hHeld ?_
  case y16=>intro wq hSw;(have cq:=(BH.out.nx hSw).cell 3 _ rfl;go_simp)<;>rfl
  refine wpAnyH_ready (rs:=[2,7]) (by kernel_rfl) (by simp) ?_
  refine AllReadyH.cons (o:=⟨_,_,_,_,_,_⟩) rfl (fun K hK=>?_) ?_
  ·rw [if_pos (by rfl)]
   have s0:=S1.out.nx hHeld
   have z0:=Ex.size hHeld
   refine wp_append_rd (enc:=encI) _ (.const (.slice none 0 0)) (.tmp 6) 22 rfl w1.heap.size 3 (.int .i64 0) 1 8 Tryz.underlying22 Tryz.infoI6 rfl (by omega) (by omega) _ [] (OwnL.nil _ _ _ _ _) rfl _ _ n1 c1 kn s0 z1 (fun _=>rfl) (by simp [encI,Value.oneCell']) rfl (by simp) (by omega) z0 ?_
   intro v7 w7 own7 ch0 ch1
   have k7:Ex _ w7:=ch0.mono (fun k hk=>⟨hk,by simp [Value.ownBlock]⟩)
   (try replace L8:=L8.nx k7)
   have j7:Ex w1 w7:=Chg.trans hHeld ch1
   rw [List.nil_append] at own7
   clear ch0 ch1 s0 z0 k7 hHeld
   have hHeld:=j7
   clear j7
   refine hK.out _ _ (hHeld) (fun hHeld=>?_)
   clear hK K
   refine rH 7 (by kernel_rfl) rfl fun K hK=>?_
   go_simp
   obtain ⟨g8,u8,hg8,hu8,L8,k8,j8⟩:=lit2 hHeld lf rt
   (try replace own7:=own7.nx k8)
   (first | rw [← hg8,← hu8] | (rw [show w1.drew.heap.size=w1.heap.size from rfl] at hg8;rw [← hg8,show ∀ o,(w1.alloc o).drew=w1.drew.alloc o from fun _=>rfl,← hu8]))
   clear hg8 hu8 k8 hHeld
   have hHeld:=j8
   clear j8
   refine hK.out _ _ (hHeld) (fun hHeld=>?_)
   clear hK K
   refine rH 8 (by kernel_rfl) rfl fun K hK=>?_
   rw [if_pos (by rfl)]
   have z0:=Ex.size hHeld
   refine wp_append_rd (enc:=encI) _ (.tmp 7) (.tmp 12) 22 rfl w1.heap.size 3 (.int .i64 0) 1 8 Tryz.underlying22 Tryz.infoI6 rfl (by omega) (by omega) _ kn own7 rfl _ _ 2 2 [lf,rt] L8 (fun h=>by cases h) (fun _=>rfl) (by simp [encI,Value.oneCell']) rfl (by omega) (by omega) z0 ?_
   intro v9 w9 own9 ch0 ch1
   have j9:Ex w1 w9:=Chg.trans hHeld ch1
   clear ch0 ch1 z0 own7 L8 hHeld
   have hHeld:=j9
   clear j9
   refine hK.out _ _ (hHeld) (fun hHeld=>?_)
   clear hK K
   refine tkH 9 (v:=?_) rfl (by kernel_rfl) (fun _ _ _ h=>h) (by rfl) ?y61 hHeld ?_
   case y61=>intro wq hSw;go_simp<;>rfl
   refine wpAnyH_done (by kernel_rfl) ?_ _
   go_wp2_with fail
   go_meet
   exact ⟨own9,hHeld⟩
  refine AllReadyH.cons (o:=⟨_,_,_,_,_,_⟩) rfl (fun K hK=>?_) AllReadyH.nil
  ·go_simp
   obtain ⟨g8,u8,hg8,hu8,L8,k8,j8⟩:=lit2 hHeld lf rt
   (try replace own7:=own7.nx k8)
   (first | rw [← hg8,← hu8] | (rw [show w1.drew.heap.size=w1.heap.size from rfl] at hg8;rw [← hg8,show ∀ o,(w1.alloc o).drew=w1.drew.alloc o from fun _=>rfl,← hu8]))
   clear hg8 hu8 k8 hHeld
   have hHeld:=j8
   clear j8
   refine hK.out _ _ (hHeld) (fun hHeld=>?_)
   clear hK K
   refine rH 2 (by kernel_rfl) rfl fun K hK=>?_
   rw [if_pos (by rfl)]
   have s0:=S1.out.nx hHeld
   have z0:=Ex.size hHeld
   refine wp_append_rd (enc:=encI) _ (.const (.slice none 0 0)) (.tmp 6) 22 rfl w1.heap.size 3 (.int .i64 0) 1 8 Tryz.underlying22 Tryz.infoI6 rfl (by omega) (by omega) _ [] (OwnL.nil _ _ _ _ _) rfl _ _ n1 c1 kn s0 z1 (fun _=>rfl) (by simp [encI,Value.oneCell']) rfl (by simp) (by omega) z0 ?_
   intro v7 w7 own7 ch0 ch1
   have k7:Ex _ w7:=ch0.mono (fun k hk=>⟨hk,by simp [Value.ownBlock]⟩)
   (try replace L8:=L8.nx k7)
   have j7:Ex w1 w7:=Chg.trans hHeld ch1
   rw [List.nil_append] at own7
   clear ch0 ch1 s0 z0 k7 hHeld
   have hHeld:=j7
   clear j7
   refine hK.out _ _ (hHeld) (fun hHeld=>?_)
   clear hK K
   refine rH 8 (by kernel_rfl) rfl fun K hK=>?_
   rw [if_pos (by rfl)]
   have z0:=Ex.size hHeld
   refine wp_append_rd (enc:=encI) _ (.tmp 7) (.tmp 12) 22 rfl w1.heap.size 3 (.int .i64 0) 1 8 Tryz.underlying22 Tryz.infoI6 rfl (by omega) (by omega) _ kn own7 rfl _ _ 2 2 [lf,rt] L8 (fun h=>by cases h) (fun _=>rfl) (by simp [encI,Value.oneCell']) rfl (by omega) (by omega) z0 ?_
   intro v9 w9 own9 ch0 ch1
   have j9:Ex w1 w9:=Chg.trans hHeld ch1
   clear ch0 ch1 z0 own7 L8 hHeld
   have hHeld:=j9
   clear j9
   refine hK.out _ _ (hHeld) (fun hHeld=>?_)
   clear hK K
   refine tkH 9 (v:=?_) rfl (by kernel_rfl) (fun _ _ _ h=>h) (by rfl) ?y107 hHeld ?_
   case y107=>intro wq hSw;go_simp<;>rfl
   refine wpAnyH_done (by kernel_rfl) ?_ _
   go_wp2_with fail
   go_meet
   exact ⟨own9,hHeld⟩
 case rest =>
  obtain ⟨own,kk⟩:=hcut
  have hl0:(kn++[lf,rt]).length≤2000002:=by simp;omega
  generalize kn++[lf,rt]=l0 at own HN hl0
  have OWN:=lH own
  have KC:=lH kk
  clear own kk
  go_wp2_with fail
  go_loopw [3,4] (fun o i wr=>NmRel l0 nr w1 o i wr) (fun _ i _=>nr.length-(intOf i).toNat)
  case atStart=>exact ⟨0,by omega,rfl,by simpa using OWN.out,KC.out⟩
  case round =>
   obtain ⟨j,hj,rfl,own,ki⟩:=hrel
   obtain ⟨wi,rfl⟩:∃ wi:World,wi=wr:=⟨_,rfl⟩
   have b4:=(BH.out.nx ki).cell 4 _ rfl
   by_cases hjm:j<n2
   ·obtain ⟨x3,o3,y,rfl,hx3,hy,hc3⟩:=S2.out.at hjm
    have e0:w1.cell? ⟨x3,o3+j*4,none⟩=some (.int .i64 y.1):=hc3 0 _ rfl
    have e1:w1.cell? ⟨x3,o3+j*4+1,none⟩=some (.int .i64 y.2.1):=hc3 1 _ rfl
    have e2:w1.cell? ⟨x3,o3+j*4+2,none⟩=some (.int .i64 y.2.2.1):=hc3 2 _ rfl
    have e3:w1.cell? ⟨x3,o3+j*4+3,none⟩=some (.int .i64 y.2.2.2):=hc3 3 _ rfl
    have SN:=lH (nm_snoc (l0:=l0) hy)
    have hrl:(l0++(nr.take j).flatMap nums4).length≤50000000:=by
     rw [List.length_append,nums_len,List.length_take]
     omega
    generalize l0++(nr.take j).flatMap nums4=row at own SN hrl
    have E:=lH (show ∀ wq,Ex w1 wq→wq.cell? ⟨x3,o3+j*4,none⟩=some (.int .i64 y.1)∧wq.cell? ⟨x3,o3+j*4+1,none⟩=some (.int .i64 y.2.1)∧wq.cell? ⟨x3,o3+j*4+2,none⟩=some (.int .i64 y.2.2.1)∧wq.cell? ⟨x3,o3+j*4+3,none⟩=some (.int .i64 y.2.2.2) from fun wq k=>⟨Chg.cellv k e0 hx3,Chg.cellv k e1 hx3,Chg.cellv k e2 hx3,Chg.cellv k e3 hx3⟩)
    have zb:=ki.size
    have KI:=lH ki
    have OWN:=lH (own.nx (Ex.drew (Ex.refl wi)))
    clear hy hc3 e0 e1 e2 e3 own ki
    go_upto_region 5 with fail
    clear b4
    refine wp_region_held_drew (S:=Ex w1) (by kernel_rfl) (KI.out.drew) (fun hHeld=>?_)
    refine tkH 0 (v:=?_) rfl (by kernel_rfl) (fun _ _ _ h=>h) (by rfl) ?y1 hHeld ?_
    case y1=>intro wq hSw;go_simp<;>rfl
    refine tkH 1 (v:=?_) rfl (by kernel_rfl) (fun _ _ _ h=>h) (by rfl) ?y4 hHeld ?_
    case y4=>intro wq hSw;go_simp<;>rfl
    refine tkH 2 (v:=?_) rfl (by kernel_rfl) (fun _ _ _ h=>h) (by rfl) ?y7 hHeld ?_
    case y7=>intro wq hSw;(have cq:=(BH.out.nx hSw).cell 4 _ rfl;go_simp)<;>rfl
    refine tkH 3 (v:=?_) rfl (by kernel_rfl) (fun _ _ _ h=>h) (by rfl) ?y10 hHeld ?_
    case y10=>intro wq hSw;go_simp<;>rfl
    refine tkH 4 (v:=?_) rfl (by kernel_rfl) (fun _ _ _ h=>h) (by rfl) ?y13 hHeld ?_
    case y13=>intro wq hSw;go_simp<;>rfl
    refine tkH 5 (v:=?_) rfl (by kernel_rfl) (fun _ _ _ h=>h) (by rfl) ?y16 hHeld ?_
    case y16=>intro wq hSw;go_simp<;>rfl
    refine tkH 6 (v:=?_) rfl (by kernel_rfl) (fun _ _ _ h=>h) (by rfl) ?y19 hHeld ?_
    case y19=>intro wq hSw;((obtain ⟨q0,q1,q2,q3⟩:=E.out _ hSw);go_simp)<;>rfl
    refine tkH 7 (v:=?_) rfl (by kernel_rfl) (fun _ _ _ h=>h) (by rfl) ?y22 hHeld ?_
    case y22=>intro wq hSw;go_simp<;>rfl
    refine tkH 8 (v:=?_) rfl (by kernel_rfl) (fun _ _ _ h=>h) (by rfl) ?y25 hHeld ?_
    case y25=>intro wq hSw;(have cq:=(BH.out.nx hSw).cell 4 _ rfl;go_simp)<;>rfl
    refine tkH 9 (v:=?_) rfl (by kernel_rfl) (fun _ _ _ h=>h) (by rfl) ?y28 hHeld ?_
    case y28=>intro wq hSw;go_simp<;>rfl
    refine tkH 10 (v:=?_) rfl (by kernel_rfl) (fun _ _ _ h=>h) (by rfl) ?y31 hHeld ?_
    case y31=>intro wq hSw;go_simp<;>rfl
    refine tkH 11 (v:=?_) rfl (by kernel_rfl) (fun _ _ _ h=>h) (by rfl) ?y34 hHeld ?_
    case y34=>intro wq hSw;go_simp<;>rfl
    refine tkH 12 (v:=?_) rfl (by kernel_rfl) (fun _ _ _ h=>h) (by rfl) ?y37 hHeld ?_
    case y37=>intro wq hSw;((obtain ⟨q0,q1,q2,q3⟩:=E.out _ hSw);go_simp)<;>rfl
    refine tkH 13 (v:=?_) rfl (by kernel_rfl) (fun _ _ _ h=>h) (by rfl) ?y40 hHeld ?_
    case y40=>intro wq hSw;go_simp<;>rfl
    refine tkH 14 (v:=?_) rfl (by kernel_rfl) (fun _ _ _ h=>h) (by rfl) ?y43 hHeld ?_
    case y43=>intro wq hSw;(have cq:=(BH.out.nx hSw).cell 4 _ rfl;go_simp)<;>rfl
    refine tkH 15 (v:=?_) rfl (by kernel_rfl) (fun _ _ _ h=>h) (by rfl) ?y46 hHeld ?_
    case y46=>intro wq hSw;go_simp<;>rfl
    refine tkH 16 (v:=?_) rfl (by kernel_rfl) (fun _ _ _ h=>h) (by rfl) ?y49 hHeld ?_
    case y49=>intro wq hSw;go_simp<;>rfl
    refine tkH 17 (v:=?_) rfl (by kernel_rfl) (fun _ _ _ h=>h) (by rfl) ?y52 hHeld ?_
    case y52=>intro wq hSw;go_simp<;>rfl
    refine tkH 18 (v:=?_) rfl (by kernel_rfl) (fun _ _ _ h=>h) (by rfl) ?y55 hHeld ?_
    case y55=>intro wq hSw;((obtain ⟨q0,q1,q2,q3⟩:=E.out _ hSw);go_simp)<;>rfl
    refine tkH 19 (v:=?_) rfl (by kernel_rfl) (fun _ _ _ h=>h) (by rfl) ?y58 hHeld ?_
    case y58=>intro wq hSw;go_simp<;>rfl
    refine tkH 20 (v:=?_) rfl (by kernel_rfl) (fun _ _ _ h=>h) (by rfl) ?y61 hHeld ?_
    case y61=>intro wq hSw;(have cq:=(BH.out.nx hSw).cell 4 _ rfl;go_simp)<;>rfl
    refine tkH 21 (v:=?_) rfl (by kernel_rfl) (fun _ _ _ h=>h) (by rfl) ?y64 hHeld ?_
    case y64=>intro wq hSw;go_simp<;>rfl
    refine tkH 22 (v:=?_) rfl (by kernel_rfl) (fun _ _ _ h=>h) (by rfl) ?y67 hHeld ?_
    case y67=>intro wq hSw;go_simp<;>rfl
    refine tkH 23 (v:=?_) rfl (by kernel_rfl) (fun _ _ _ h=>h) (by rfl) ?y70 hHeld ?_
    case y70=>intro wq hSw;go_simp<;>rfl
    refine tkH 24 (v:=?_) rfl (by kernel_rfl) (fun _ _ _ h=>h) (by rfl) ?y73 hHeld ?_
    case y73=>intro wq hSw;((obtain ⟨q0,q1,q2,q3⟩:=E.out _ hSw);go_simp)<;>rfl
    refine rH 25 (by kernel_rfl) rfl fun K hK=>?_
    go_simp
    obtain ⟨g8,u8,hg8,hu8,L8,k8,j8⟩:=lit4 hHeld y
    replace OWN:=lH (OWN.out.nx k8)
    (first | rw [← hg8,← hu8] | (rw [show wi.drew.heap.size=wi.heap.size from rfl] at hg8;rw [← hg8,show ∀ o,(wi.alloc o).drew=wi.drew.alloc o from fun _=>rfl,← hu8]))
    clear hg8 hu8 k8 hHeld
    have hHeld:=j8
    clear j8
    refine hK.out _ _ (hHeld) (fun hHeld=>?_)
    clear hK K
    refine rH 26 (by kernel_rfl) rfl fun K hK=>?_
    rw [if_pos (by rfl)]
    have z0:=Ex.size hHeld
    refine wp_append_rd (enc:=encI) _ (.tmp 21) (.tmp 46) 22 rfl w1.heap.size 3 (.int .i64 0) 1 8 Tryz.underlying22 Tryz.infoI6 rfl (by omega) (by omega) _ row OWN.out rfl _ _ 4 4 (nums4 y) L8 (fun h=>by cases h) (fun _=>rfl) (by simp [encI,Value.oneCell']) rfl (by omega) (by omega) z0 ?_
    intro v9 w9 own9 ch0 ch1
    have j9:Ex w1 w9:=Chg.trans hHeld ch1
    clear ch0 ch1 z0 L8 hHeld
    have hHeld:=j9
    clear j9
    refine hK.out _ _ (hHeld) (fun hHeld=>?_)
    clear hK K
    refine tkH 27 (v:=?_) rfl (by kernel_rfl) (fun _ _ _ h=>h) (by rfl) ?y101 hHeld ?_
    case y101=>intro wq hSw;go_simp<;>rfl
    refine wpAnyH_done (by kernel_rfl) ?_ _
    skip
    go_wp2_with fail
    exact ⟨⟨j+1,by omega,by go_num,by rw [SN.out];exact own9,hHeld⟩,by simp [intOf];omega⟩
   ·obtain rfl:j=n2:=by omega
    rw [List.take_of_length_le (by omega)] at own
    have own:=lH (own.base hz1)
    have KE:=lH (K1.out.nx ki)
    clear hj hjm ki
    go_wp2_with fail
    go_ret
    exact ⟨_,rfl,by rw [HN.out];exact own.out,KE.out⟩
def QuL (e:TypeId) (base:Nat) (w:World) (v:Value) (l:List Int):Prop :=
 (v=.slice none 0 0∧l=[])∨∃ (g o cap:Nat) (cur:Array Value),v=.slice (some ⟨g,o,none⟩) l.length cap∧base≤g∧w.heap[g]?=some (.cells cur e (0,0))∧l.length≤cap∧cap≤maxLen∧o+cap≤cur.size∧(cur.toList.drop o).take l.length=l.flatMap encI
section
variable {e:TypeId} {base:Nat} {w w':World} {v:Value} {l:List Int}
theorem flatI_len (l:List Int):(l.flatMap encI).length=l.length:=by
 induction l with
 | nil=>rfl
 | cons x l ih=>rw [List.flatMap_cons,List.length_append,ih,List.length_cons,show (encI x).length=1 from rfl];omega
theorem flatI_map (l:List Int):l.flatMap encI=l.map (Value.int .i64):=by
 induction l with
 | nil=>rfl
 | cons y r ih=>rw [List.flatMap_cons,ih];rfl
theorem QuL.ofL (h:OwnL 1 encI e base w v l):QuL e base w v l:=by
 rcases h.2 with ⟨h1,h2⟩ | ⟨g,cap,cur,h1,h2,h3,h4,h5,h6,h7⟩
 ·exact .inl ⟨h1,List.eq_nil_of_length_eq_zero h2⟩
 ·exact .inr ⟨g,0,cap,cur,h1,h2,h3,h4,h5,by omega,by simpa using h7⟩
theorem QuL.chg (h:QuL e base w v l) {S:Nat→Prop} (k:Chg S w w') (hs:∀ k,k<w.heap.size→v.ownBlock=some k→S k):QuL e base w' v l:=by
 rcases h with h | ⟨g,o,cap,cur,rfl,hb,hg,rest⟩
 ·exact .inl h
 ·exact .inr ⟨g,o,cap,cur,rfl,hb,(k.block g (hs g (heap_lt hg) rfl)).trans hg,rest⟩
theorem QuL.nx (h:QuL e base w v l) (k:Ex w w'):QuL e base w' v l:=h.chg k (fun _ hk _=>hk)
theorem QuL.lt (h:QuL e base w v l) {g:Nat} (hg:v.ownBlock=some g):base≤g∧g<w.heap.size:=by
 rcases h with ⟨rfl,_⟩ | ⟨g',o,cap,cur,rfl,hb,hh,_⟩
 ·cases hg
 ·cases hg
  exact ⟨hb,heap_lt hh⟩
theorem QuL.nxb {b:Nat} (h:QuL e base w v l) (hb:b<base) (k:Exb b w w'):QuL e base w' v l:=h.chg k (fun x hx hv=>⟨hx,by have:=(h.lt hv).1;omega⟩)
theorem QuL.front {x:Int} (h:QuL e base w v (x::l)):∃ g o cap,v=.slice (some ⟨g,o,none⟩) (l.length+1) cap∧g<w.heap.size∧base≤g∧1≤cap∧l.length+1≤cap∧w.cell? ⟨g,o,none⟩=some (.int .i64 x) ∧
  QuL e base w (.slice (some (if cap=1 then ⟨g,o,none⟩ else ⟨g,o+1,none⟩)) l.length (cap-1)) l:=by
 rcases h with ⟨_,h⟩ | ⟨g,o,cap,cur,rfl,hb,hg,h1,h2,h3,h4⟩
 ·cases h
 ·have h1':l.length+1≤cap:=by simpa using h1
  have hc:cur.toList[o]?=some (.int .i64 x):=by
   have:=congrArg (fun L:List Value=>L[0]?) h4
   simpa [List.getElem?_take,List.getElem?_drop,encI] using this
  refine ⟨g,o,cap,by simp,heap_lt hg,hb,by omega,h1',?_,?_⟩
  ·have:cur[o]?=some (.int .i64 x):=by simpa using hc
   simp [World.cell?,hg,this]
  ·have h5:(cur.toList.drop (o+1)).take l.length=l.flatMap encI:=by
    have hd:cur.toList.drop o=.int .i64 x::cur.toList.drop (o+1):=by
     obtain ⟨hlt,he⟩:=List.getElem?_eq_some_iff.1 hc
     rw [List.drop_eq_getElem_cons hlt,he]
    rw [hd,List.length_cons,List.take_succ_cons,List.flatMap_cons] at h4
    exact (List.cons.inj h4).2
   by_cases hcap:cap=1
   ·have hl0:l=[]:=List.eq_nil_of_length_eq_zero (by omega)
    subst hl0
    rw [if_pos hcap]
    exact .inr ⟨g,o,cap-1,cur,by simp,hb,hg,by simp,by omega,by omega,by simp⟩
   ·rw [if_neg hcap]
    exact .inr ⟨g,o+1,cap-1,cur,by simp,hb,hg,by omega,by omega,by omega,h5⟩
theorem QuL.append {P:Program} (h:QuL e base w v l) (t ty:TypeId) {z:Value} {bytes:Nat} (ht:P.underlying t=some (.slice e)) (hi:(P.info? e).map (fun i=>(i.zero,i.size,i.bytes))=some (some z,1,bytes)) (hzs:z.cells.size=1) (hby:bytes≤65536)
  {S:Nat→Prop} {A:Option Addr} {n c:Nat} {news:List Int} (hrd:Rd 1 encI S w A n news) (hA:A=none→c=0) (hl:l.length≤100000000) (hn:n≤100000000) (hbase:base≤w.heap.size) :
  ∃ v' w',(Builtin.append_ #[t,t] ty #[v,.slice A n c]).run P w=.ok v' w'∧QuL e base w' v' (l++news)∧Chg (fun k=>k<w.heap.size∧¬ v.ownBlock=some k) w w'∧Chg (· < base) w w'∧(v'.ownBlock=v.ownBlock∨v'.ownBlock=some w.heap.size):=by
 obtain ⟨i,hi,hz0,hz1,hz2⟩:=info_parts hi
 have hmul:(l.length+n)*bytes≤200000000*65536:=Nat.mul_le_mul (by omega) hby
 have hnl:=hrd.1
 have nothing:news=[]→(Builtin.append_ #[t,t] ty #[v,.slice A n c]).run P w=.ok v w→∃ v' w',(Builtin.append_ #[t,t] ty #[v,.slice A n c]).run P w=.ok v' w'∧QuL e base w' v' (l++news)∧Chg (fun k=>k<w.heap.size∧¬ v.ownBlock=some k) w w'∧Chg (· < base) w w'∧(v'.ownBlock=v.ownBlock∨v'.ownBlock=some w.heap.size) :=
  fun hnews hrun=>⟨v,w,hrun,by rw [hnews];simpa using h,Chg.refl _ _,Chg.refl _ _,.inl rfl⟩
 by_cases hn0:n=0
 ·subst hn0
  have hnews:news=[]:=List.eq_nil_of_length_eq_zero hnl
  refine nothing hnews ?_
  rcases h with ⟨rfl,_⟩ | ⟨g,o,cap,cur,rfl,_,_,hnc,_⟩
  ·cases A<;>simp [Builtin.append_,run_underlying ht,sizeOf,typeInfo,hi,Builtin.lenOf,Builtin.firstCells,loadCells,loadCellsFrom]
  ·cases A<;>simp [Builtin.append_,run_underlying ht,sizeOf,typeInfo,hi,Builtin.lenOf,Builtin.firstCells,hnc,storeCells,loadCells,loadCellsFrom]
 ·obtain ⟨ad,rfl,hcells⟩:∃ ad,A=some ad∧∀ j u,(news.flatMap encI)[j]?=some u→w.cell? (ad.add j)=some u:=by
   rcases hrd.2 with h0 | ⟨x,o,rfl,hx,hc⟩
   ·exact absurd h0 hn0
   ·refine ⟨_,rfl,fun j u hu=>?_⟩
    have hflat:=flatI_map news
    rw [hflat,List.getElem?_map] at hu
    cases hy:news[j]? with
    | none=>rw [hy] at hu;cases hu
    | some y =>
     rw [hy] at hu
     cases hu
     have:=hc j y hy 0 _ rfl
     have hadd:(⟨x,o,none⟩:Addr).add j=⟨x,o+j,none⟩:=by unfold Addr.add;split<;>simp_all
     rw [hadd]
     simpa using this
  have hfl:(news.flatMap encI).length=n*i.size:=by rw [flatI_len,hz1,hnl,Nat.mul_one]
  have h1f:∀ u∈news.flatMap encI,u.oneCell'=true:=by
   intro u hu
   obtain ⟨y,_,hy⟩:=List.mem_flatMap.1 hu
   simp only [encI,List.mem_singleton] at hy
   subst hy
   rfl
  have fresh:∀ (old:Nat),old<l.length+n →
    QuL e base (w.drew.alloc (.cells ((l.flatMap encI).toArray++(news.flatMap encI).toArray++Builtin.zeroCells z.cells (grownCap w (l.length+n) old e-(l.length+n))) e)) (.slice (some ⟨w.heap.size,0,none⟩) (l.length+n) (grownCap w (l.length+n) old e)) (l++news):=by
   intro old ho
   have hge:=grownCap_ge w (l.length+n) old e
   have hcm:grownCap w (l.length+n) old e≤maxLen:=grownCap_le_maxLen w (l.length+n) old e (by unfold maxLen;omega)
   refine .inr ⟨w.heap.size,0,_,_,by rw [List.length_append,hnl],hbase,heap_alloc_new w.drew _,by rw [List.length_append,hnl];exact hge,hcm,?_,?_⟩
   ·simp only [Array.size_append,List.size_toArray,size_zeroCells,hzs,flatI_len,hnl]
    omega
   ·simp only [Array.toList_append,List.append_assoc,List.drop_zero]
    rw [← List.append_assoc,← List.flatMap_append,← flatI_len (l++news)]
    exact List.take_left
  have hex:∀ o:Obj,Ex w (w.drew.alloc o):=fun o=>⟨rfl,rfl,rfl,by simp,fun k hk=>heap_alloc_old w.drew _ hk⟩
  rcases h with ⟨rfl,rfl⟩ | ⟨g,o,cap,cur,rfl,hb,hg,h1,h2,h3,h4⟩
  ·have hr:=run_append_nil (P:=P) w t ty e i z ht hi hz0 ad n c (news.flatMap encI) hfl hcells (by omega) (by omega) (by rw [hz2];simp only [List.length_nil,Nat.zero_add] at hmul;omega)
   have hf:=fresh 0 (by simp;omega)
   simp only [List.length_nil,Nat.zero_add,List.flatMap_nil,List.nil_append] at hf ⊢
   refine ⟨_,_,hr,by simpa using hf,(hex _).mono fun k hk=>hk.1,(hex _).mono fun k (hk:k<base)=>by show k<w.heap.size;omega,.inr rfl⟩
  ·by_cases hroom:l.length+n≤cap
   ·have hfc:=run_firstCells_some (P:=P) w i.size n ad n c (news.flatMap encI) hfl hcells
    have hst:=run_storeCells_at P g (o+l.length) e (news.flatMap encI) 0 cur w hg (by rw [flatI_len,hnl];omega) h1f
    simp only [Nat.add_zero] at hst
    have hadd:(⟨g,o,none⟩:Addr).add (l.length*i.size)=⟨g,o+l.length,none⟩:=by rw [hz1,Nat.mul_one];unfold Addr.add;split<;>simp_all
    refine ⟨.slice (some ⟨g,o,none⟩) (l.length+n) cap,w.setRow g (cur.toList.take (o+l.length)++news.flatMap encI++cur.toList.drop (o+l.length+(news.flatMap encI).length)).toArray,?_,.inr ⟨g,o,cap,_,by rw [List.length_append,hnl],hb,setRow_heap w g cur _ e _ hg,by rw [List.length_append,hnl];exact hroom,h2,?_,?_⟩,⟨rfl,rfl,rfl,by simp [World.setRow],fun k hk=>setRow_other w g k _ (fun he=>hk.2 (by rw [he];rfl))⟩,⟨rfl,rfl,rfl,by simp [World.setRow],fun k (hk:k<base)=>setRow_other w g k _ (by omega)⟩,.inl rfl⟩
    ·simp [Builtin.append_,run_underlying ht,sizeOf,typeInfo,hi,Builtin.lenOf,hroom,hfc,hadd,hst]
    ·simp only [List.size_toArray,List.length_append,List.length_take,List.length_drop,Array.length_toList,flatI_len,hnl]
     omega
    ·rw [List.flatMap_append,← h4,List.length_append,hnl]
     have hsz:o+l.length≤cur.toList.length:=by simp;omega
     simp only [List.append_assoc]
     rw [List.drop_append_of_le_length (by rw [List.length_take];omega),List.drop_take,show o+l.length-o=l.length by omega,← List.append_assoc]
     rw [List.take_append_of_le_length (by rw [List.length_append,List.length_take,List.length_drop,flatI_len,hnl];omega)]
     rw [List.take_of_length_le (by rw [List.length_append,List.length_take,List.length_drop,flatI_len,hnl];omega)]
   ·have holds:∀ j u,(l.flatMap encI)[j]?=some u→w.cell? ((⟨g,o,none⟩:Addr).add j)=some u:=by
     intro j u hu
     have hadd:(⟨g,o,none⟩:Addr).add j=⟨g,o+j,none⟩:=by unfold Addr.add;split<;>simp_all
     rw [hadd]
     rw [← h4,List.getElem?_take] at hu
     split at hu
     ·rw [List.getElem?_drop] at hu
      have:cur[o+j]?=some u:=by simpa using hu
      simp [World.cell?,hg,this]
     ·cases hu
    have hr:=run_append_grow (P:=P) w t ty e i z ht hi hz0 ⟨g,o,none⟩ l.length cap (l.flatMap encI) (by rw [flatI_len,hz1,Nat.mul_one]) holds ad n c (news.flatMap encI) hfl hcells (by omega) (by omega) (growslice_fits (by omega) (by rw [hz2];omega))
    exact ⟨_,_,hr,fresh cap (by omega),(hex _).mono fun k hk=>hk.1,(hex _).mono fun k (hk:k<base)=>by show k<w.heap.size;omega,.inr rfl⟩
end
theorem nums_len_p (p:Pr):(numsP p).length=p.known.length+2+4*p.near.length:=by
 unfold numsP
 rw [List.length_append,List.length_append,nums_len]
 rfl
set_option maxRecDepth 100000 in
set_option maxHeartbeats 4000000 in
theorem refs_r (a:Option Addr) (n c:Nat) (N:List Nd) (p:Pr) (a1:Option Addr) (n1 c1:Nat) (a2:Option Addr) (n2 c2:Nat) (w:World) (h:Sl 3 encN w a n N) (hn:n≤1000) (h1:Sl 1 encI w a1 n1 p.known) (h2:Sl 4 encNr w a2 n2 p.near) (hn1:n1≤2000000) (hn2:n2≤2000000) (z1:a1=none→c1=0) :
  Calls Tryz.prog 147 #[.slice a n c,.agg #[.int .i64 p.id,.slice a1 n1 c1,.int .i64 p.left,.int .i64 p.right,.slice a2 n2 c2]] w (OiPost (refsN N p) w):=by
 have EX:=Ex.refl w
 have Z1:=lH z1
 have hl1:p.known.length=n1:=h1.len
 have hl2:p.near.length=n2:=h2.len
 have HNL:=lH (nums_len_p p)
 clear z1
 have B3:=Blk.new w [.int .i64 p.id,.slice a1 n1 c1,.int .i64 p.left,.int .i64 p.right,.slice a2 n2 c2] 36
 have kk:=Ex.new w (.cells #[.int .i64 p.id,.slice a1 n1 c1,.int .i64 p.left,.int .i64 p.right,.slice a2 n2 c2] 36)
 obtain ⟨w1,hw1⟩:∃ w1,w1=w.alloc (.cells #[.int .i64 p.id,.slice a1 n1 c1,.int .i64 p.left,.int .i64 p.right,.slice a2 n2 c2] 36):=⟨_,rfl⟩
 obtain ⟨g3,hg3⟩:∃ g3,g3=w.heap.size:=⟨_,rfl⟩
 replace B3:Blk w1 g3 [.int .i64 p.id,.slice a1 n1 c1,.int .i64 p.left,.int .i64 p.right,.slice a2 n2 c2] 36:=by rw [hw1,hg3];exact B3
 rw [← hw1] at kk
 have Hw1:=lH hw1
 have Hg3:=lH hg3
 replace h:=h.nx kk
 replace h1:=h1.nx kk
 replace h2:=h2.nx kk
 replace EX:=EX.nx kk
 clear kk hw1 hg3
 go_enter Tryz.func147,Tryz.ntmps147
 go_upto_region 1 with fail
 rw [← Hg3.out,← Hw1.out]
 clear Hg3 Hw1
 go_wp2_with fail
 (with_reducible refine (is_r _ _ _ _ _ h (by omega)).mono ?_)
 rintro e w2 ⟨rfl,kk⟩
 replace h:=h.nx kk
 replace h1:=h1.nx kk
 replace h2:=h2.nx kk
 replace EX:=EX.nx kk
 replace B3:=B3.nx kk
 clear kk
 by_cases hck:checkN N=0
 case neg =>
  have d1:(checkN N==0)=false:=by simpa using hck
  have E0:Hid (refsN N p=[]):=lH (by unfold refsN;rw [if_neg hck])
  rw [d1]
  clear h h1 h2 hck B3
  go_wp2_with fail
  go_ret
  exact ⟨_,rfl,by rw [E0.out];exact OwnL.nil _ _ _ _ _,EX⟩
 have d1:(checkN N==0)=true:=by simpa using hck
 have E0:Hid (refsN N p=ordN N (numsP p) p.id):=lH (by unfold refsN;rw [if_pos hck])
 rw [d1]
 clear hck d1
 have HB:=lH B3
 have HN:=lH h
 have H1:=lH h1
 have H2:=lH h2
 have EXH:=lH EX
 clear B3 h h1 h2 EX
 go_upto_region 3 with fail
 refine wp_region_held_drew (S:=Ex w2) (by kernel_rfl) ((Ex.refl w2).drew) (fun hHeld=>?_)
 refine tkH 0 (v:=?_) rfl (by kernel_rfl) (fun _ _ _ h=>h) (by rfl) ?y1 hHeld ?_
 case y1=>intro wq hSw;go_simp<;>rfl
 refine tkH 1 (v:=?_) rfl (by kernel_rfl) (fun _ _ _ h=>h) (by rfl) ?y4 hHeld ?_
 case y4=>intro wq hSw;(have B:=HB.out.nx hSw;have c0:=B.cell 0 _ rfl;have c1:=B.cell 1 _ rfl;have c2:=B.cell 2 _ rfl;have c3:=B.cell 3 _ rfl;have c4:=B.cell 4 _ rfl;go_simp)<;>rfl
 refine tkH 3 (v:=?_) rfl (by kernel_rfl) (fun _ _ _ h=>h) (by rfl) ?y7 hHeld ?_
 case y7=>intro wq hSw;go_simp<;>rfl
 refine tkH 4 (v:=?_) rfl (by kernel_rfl) (fun _ _ _ h=>h) (by rfl) ?y10 hHeld ?_
 case y10=>intro wq hSw;(have c0:=(HB.out.nx hSw).cell 0 _ rfl;go_simp)<;>rfl
 refine rH 2 (by kernel_rfl) rfl fun K hK=>?_
 go_simp
 (with_reducible refine (numbers_r p _ _ _ _ _ _ _ (H1.out.nx hHeld) (H2.out.nx hHeld) hn1 hn2 Z1.out).mono ?_)
 rintro e w5 ⟨v5,rfl,own5,kk⟩
 obtain ⟨A5,C5,rfl,sl5,_,_,_⟩:=own5.slf (fun _=>rfl)
 have sl5:=lH sl5.sl
 replace hHeld:=hHeld.nx kk
 clear kk own5
 refine hK.out _ _ (hHeld) (fun hHeld=>?_)
 clear hK K
 refine rH 5 (by kernel_rfl) rfl fun K hK=>?_
 go_simp
 (with_reducible refine (ordered_r _ _ _ N _ _ _ (numsP p) p.id _ (HN.out.nx hHeld) hn sl5.out (by rw [HNL.out];omega)).mono ?_)
 rintro e w6 ⟨v6,rfl,own6,kk⟩
 have own6:=lH (own6.base (EXH.out.nx hHeld).size)
 replace hHeld:=hHeld.nx kk
 clear kk
 refine hK.out _ _ (hHeld) (fun hHeld=>?_)
 clear hK K
 refine tkH 6 (v:=?_) rfl (by kernel_rfl) (fun _ _ _ h=>h) (by rfl) ?y36 hHeld ?_
 case y36=>intro wq hSw;go_simp<;>rfl
 refine wpAnyH_done (by kernel_rfl) ?_ _
 have KE:=lH (EXH.out.nx hHeld)
 clear hHeld
 go_wp2_with fail
 go_ret
 exact ⟨_,rfl,by rw [E0.out];exact own6.out,KE.out⟩
def Acc (β lo hi:Nat) (w6 wr:World) (o:Value):Prop:=Chg (fun k=>k<hi∧(k<β∨lo≤k)) w6 wr∧hi≤wr.heap.size∧∀ g,o.ownBlock=some g→g<lo∨hi≤g
theorem Acc.start {β lo hi:Nat} {w:World} {o:Value} (hs:hi≤w.heap.size) (ho:∀ g,o.ownBlock=some g→g<lo∨hi≤g):Acc β lo hi w w o:=⟨Chg.refl _ _,hs,ho⟩
theorem Acc.step {β lo hi:Nat} {w6 wr w9:World} {o o':Value} (h:Acc β lo hi w6 wr o) (hb:∀ g,o.ownBlock=some g→β≤g) (k:Chg (fun k=>k<wr.heap.size∧¬ o.ownBlock=some k) wr w9) (ho:o'.ownBlock=o.ownBlock∨∀ g,o'.ownBlock=some g→wr.heap.size≤g):Acc β lo hi w6 w9 o':=by
 refine ⟨h.1.trans (k.mono fun x hx=>⟨Nat.lt_of_lt_of_le hx.1 h.2.1,fun hv=>?_⟩),Nat.le_trans h.2.1 k.size,fun g hg=>?_⟩
 ·have h1:=hb x hv
  have h2:=h.2.2 x hv
  have h3:=hx.2
  have h4:=hx.1
  omega
 ·rcases ho with h1 | h1
  ·exact h.2.2 g (by rw [← h1];exact hg)
  ·have:=h1 g hg;have:=h.2.1;omega
theorem Acc.nx {β lo hi:Nat} {w6 wr w9:World} {o:Value} (h:Acc β lo hi w6 wr o) (k:Ex wr w9):Acc β lo hi w6 w9 o :=
 ⟨h.1.trans (Chg.mono k fun x hx=>Nat.lt_of_lt_of_le hx.1 h.2.1),Nat.le_trans h.2.1 k.size,h.2.2⟩
theorem Acc.sl {α:Type} {sz n:Nat} {enc:α→List Value} {a:Option Addr} {l:List α} {β:Nat} {w5 w6 wr:World} {o:Value} (h:Acc β w5.heap.size w6.heap.size w6 wr o) (s:Slf sz enc w5 w6 a n l):Sl sz enc wr a n l :=
 (Rd.chg s h.1 (fun _ hk=>⟨hk.2,.inr hk.1⟩)).mono fun _ hk=>Nat.lt_of_lt_of_le hk.2 h.2.1
theorem Acc.ex {w2 w6 wr:World} {lo:Nat} {o:Value} (h:Acc w2.heap.size lo w6.heap.size w6 wr o) (k:Ex w2 w6):Ex w2 wr :=
 Chg.trans k (Chg.mono h.1 fun _ hk=>⟨Nat.lt_of_lt_of_le hk k.size,.inl hk⟩)
theorem OwnW.blk_lt {α:Type} {sz e base:Nat} {enc:α→List Value} {w:World} {v:Value} {l:List α} (h:OwnW sz enc e base w v l) {g:Nat} (hg:v.ownBlock=some g):g<w.heap.size:=by
 obtain ⟨_,cur,hh⟩:=h.blk hg
 exact heap_lt hh
end Go.Proofs.YtalmjklljofhbaaGreatDoor
