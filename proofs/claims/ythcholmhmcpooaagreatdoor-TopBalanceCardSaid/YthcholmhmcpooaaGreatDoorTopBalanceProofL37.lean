/- Texts for TopBalanceProof. -/
import Derived.Test.YthcholmhmcpooaaGreatDoorTopBalanceProofL26
import Derived.Test.YthcholmhmcpooaaGreatDoorTopBalanceProofL29
import Derived.Test.YthcholmhmcpooaaGreatDoorTopBalanceProofL35
import Derived.Test.YthcholmhmcpooaaGreatDoorTopBalanceProofL36
set_option linter.unusedSimpArgs false
set_option linter.unusedVariables false

namespace Go.Proofs.YthcholmhmcpooaaGreatDoor
open Go.RowKit
def RowsCut (b:Nat) (w:World) (v:Value) (wx:World):Prop:=∃ (n c:Nat) (a:Option Addr) (R:List Rw),v=.slice a n c∧n=R.length∧R.length≤59∧RowB b wx (a,n,c) R∧TblOk R∧TK wx b∧Exb b w wx
def TblRel (N0:List Nd) (R:List Rw) (x:World) (l i:Value) (wr:World):Prop:=∃ (k:Nat) (qs:List (Nd×Hdr)),k≤N0.length∧i=.int .i64 k∧OwnHg x.heap.size wr l qs ((segF N0 R).take k)∧Ex x wr
def TbmRel (b:Nat) (x:World) (L:List Nd) (R:List Rw) (hh:Nat) (l lk e i:Value) (wr:World):Prop :=
 ∃ (k:Nat) (H:List Hg) (a:Option Addr) (c:Nat) (LR:List Lkd) (aL:Option Addr) (cL:Nat),l=.slice a L.length c∧lk=.slice aL LR.length cL∧e=.int .i64 0∧i=.int .i64 k ∧
  HdB b wr (a,L.length,c) H∧InvB (L.map iwN) R H∧LkX b wr aL LR.length LR∧LR=(buildN (H.map Prod.fst) (hh:Int)).1∧12*k+potB (loadsH H)≤3600∧TK wr b∧Exb b x wr
def TbrRel (q gR cR base bo:Nat) (A B:List Nd) (vO:Value) (qo:List (Int×Hdr)) (RB:List Lkd) (x:World) (i:Value) (wr:World):Prop :=
 ∃ k:Nat,k≤q∧i=.int .i64 k∧OwnW 3 encN 36 base wr (.slice (some ⟨gR,0,none⟩) q cR) (A.take k++B.drop k)∧OwnLk bo wr vO qo RB∧Ex x wr
theorem rgTB {w w':World} (h:Ex w.drew w'):Ex w w':=(Ex.refl w).drew.nx h
theorem stepV_some {l:List Nat} {k f t b c:Nat} (h:stepBl l=some (k,f,t,b,c)):stepV l=.tuple #[.agg #[.int .i64 k,.int .i64 f,.int .i64 t,.int .i64 b,.int .i64 c],.bool true]:=by unfold stepV;rw [h]
theorem stepV_none {l:List Nat} (h:stepBl l=none):stepV l=.tuple #[.agg #[.int .i64 0,.int .i64 0,.int .i64 0,.int .i64 0,.int .i64 0],.bool false]:=by unfold stepV;rw [h]
theorem step_kind {l:List Nat} {k f t b c:Nat} (h:stepBl l=some (k,f,t,b,c)):(k=1∨(k=2∧3≤l.length))∧f<l.length:=by
 rcases step_cases h with ⟨i,c,h1,e,_⟩ | ⟨i,c,h1,e,_⟩ | ⟨f',t',b',c',e,h1,h2,h3,h4,h5,h6,_⟩
 ·simp only [Prod.mk.injEq] at e
  omega
 ·simp only [Prod.mk.injEq] at e
  omega
 ·simp only [Prod.mk.injEq] at e
  omega
set_option maxRecDepth 100000 in
set_option maxHeartbeats 32000000 in
theorem topbalance_walk (a1:Option Addr) (n1 c1:Nat) (l1:List Int) (w:World) (h1:Sl 1 encI w a1 n1 l1) (hc1:n1≤c1) (hm1:c1≤maxLen) (hT:TabG w) (hL:LetG w) :
  Calls Tryz.prog 7 #[.slice a1 n1 c1] w fun e w'=>e=.returned (.bool true)∧Ex w w':=by
 go_enter Tryz.func7,Tryz.ntmps7
 go_wp2_with fail
 refine (new_t _ _ _ l1 _ h1 hc1 hm1).mono ?_
 rintro e w1 ⟨rfl,T,kk,z1⟩
 obtain ⟨b,hb⟩:∃ b,b=w.heap.size:=⟨_,rfl⟩
 rw [← hb] at T ⊢
 have hgt:¬ 1=b:=by have:=hT.lt;omega
 have hgl:¬ 0=b:=by have:=hL.lt;omega
 have T1:Hid (TabG w1):=lH (hT.nx kk)
 have L1:Hid (LetG w1):=lH (hL.nx kk)
 have QL:Hid (Exl b w w1):=lH ⟨kk,by omega⟩
 clear h1 hT hL kk hb z1
 have hbo:=T.lt
 go_wp2_with fail
 refine (some_n 6 _ T L1.out hgl (by omega) (by omega)).mono ?_
 clear T
 rintro e x1 ⟨v1,L,rfl,R,hL1⟩
 have kw:=R.k
 have T:=R.tape
 obtain ⟨aX,cX,rfl,SX,hcX,hmX,_⟩:=R.own.slf (fun _=>rfl)
 have RL:=R.len
 have H0:=lH R.ok
 have HW:Hid (∀ x∈L,x.word<4294967296):=lH (fun x hx=>by have:=R.word x hx;omega)
 have hb1:=T.lt
 have KW:=lH kw
 clear R kw
 go_wp2_with fail
 (with_reducible refine (sort_p _ _ _ L _ SX.sl (by omega)).mono ?_)
 rintro e x2 ⟨v,S,rfl,OS,⟨hp,hsrt⟩,kk⟩
 have HSL:Hid (S.length=L.length):=lH hp.length_eq
 have OW:=OS.toW
 obtain ⟨x0,S',rfl⟩:∃ x0 S',S=x0::S':=by
  cases S with
  | nil=>have:=HSL.out;simp at this;omega
  | cons x0 S'=>exact ⟨x0,S',rfl⟩
 have FI:=lH (tb_first H0.out hp hsrt)
 have PN:Hid ((({ x0 with key:=⟨#[]⟩ }:Nd)::S').length=L.length):=lH (by have:=HSL.out;simpa using this)
 obtain ⟨aS,cS,rfl,rS,hcS,hmS,hgS,_⟩:=OW.rd (fun _=>rfl)
 obtain ⟨gS,rfl,hgb⟩:=hgS (by simp)
 have hcS':L.length≤cS:=by rw [← HSL.out];exact hcS
 rw [HSL.out] at OW ⊢
 have OWH:=lH OW
 have TX:=T.nx kk
 have K2:=lH (KW.out.nxb (kk.b b))
 have K12:=lH kk
 have hL0:((L.length:Int)==0)=false:=by rw [beq_eq_false_iff_ne];omega
 clear OS hp hsrt kk rS hcS OW T SX
 go_wp2_with fail
 refine (next_t 3 _ TX (by omega) (by omega)).mono ?_
 rintro e x3 ⟨h,rfl,h0,h3,T3,k3⟩
 obtain ⟨hh,rfl⟩:=Int.eq_ofNat_of_zero_le h0
 have hh16:hh≤16:=by omega
 have OW3:=OWH.out.nxb hb1 k3
 obtain ⟨s1,s2,s3⟩:=OW3.set1 (sz:=3) (enc:=encN) (fun _=>rfl) (j:=0) (y:=x0) rfl (c:=1) (by omega)
 have s1:x3.cell? ⟨gS,1,none⟩=some (.string x0.key):=by simpa [encN] using s1
 have s2:x3.frozen? ⟨gS,1,none⟩=false:=by simpa using s2
 have OW4:=lH (s3 { x0 with key:=⟨#[]⟩ } (.string ⟨#[]⟩) rfl)
 have K3:=lH k3
 have zS:=K12.out.size
 clear TX OW3 s3 k3 h0 h3
 go_upto_region 6 with fail
 obtain ⟨x4,hx4⟩:∃ x4,x4=x3.setCell ⟨gS,1,none⟩ (.string { data:=#[] }):=⟨_,rfl⟩
 rw [← hx4]
 obtain ⟨N0,hN0⟩:∃ N0,N0=({ x0 with key:=⟨#[]⟩ }:Nd)::S':=⟨_,rfl⟩
 rw [← hN0] at FI PN
 have OW5:OwnW 3 encN 36 x1.heap.size x4 (.slice (some ⟨gS,0,none⟩) L.length cS) N0:=by rw [hx4,hN0];exact OW4.out
 have C4:Hid (Exb b x1 x4):=lH (by
  rw [hx4]
  exact Chg.setCell ((K12.out.b b).nxb K3.out) (p:=⟨gS,1,none⟩) _ (fun k hk=>by have:=hk.1;show k≠gS;omega))
 have T4:TK x4 b:=by
  rw [hx4]
  exact TP.chg T3 ((Chg.refl (·≠gS) x3).setCell (p:=⟨gS,1,none⟩) _ (fun _ hx=>hx)) (fun x hx=>by have:x<b+1:=hx;show x≠gS;omega)
 obtain ⟨aN,hN⟩:∃ aN:Option Addr,aN=some ⟨gS,0,none⟩:=⟨_,rfl⟩
 rw [← hN] at OW5 ⊢
 have SN:Slb 3 encN b x4 aN L.length N0:=by
  obtain ⟨a',c',e,r,_⟩:=OW5.rd (fun _=>rfl)
  simp only [Value.slice.injEq] at e
  obtain ⟨e1,e2,e3⟩:=e
  rw [← e1,← e2] at r
  exact Rd.mono r (fun k hk=>⟨hk.2,by have:=hk.1;omega⟩)
 have CN0:Hid (checkN N0=0):=lH (by have:=(FI.out [] TblOk.nil).check H0.out;rwa [seg_fst] at this)
 have SN0:Hid (sortN N0=N0):=lH (by have:=(FI.out [] TblOk.nil).sort H0.out;rwa [seg_fst] at this)
 have NW:Hid (∀ x∈N0,x.word<4294967296):=lH (by have:=(FI.out [] TblOk.nil).word HW.out;rwa [seg_fst] at this)
 have T14:=lH (T1.out.nxb hgt (KW.out.nxb C4.out))
 have L14:=lH (L1.out.nxb hgl (KW.out.nxb C4.out))
 have QL4:=lH (QL.out.nxb (KW.out.nxb C4.out))
 clear hN OW5 OW4 hx4 hN0 C4 K3 K12 K2 T1 L1 QL KW OWH s1 s2 T3 HSL hgb zS hL0 hgS
 have hb4:=T4.lt
 go_wp2_with fail
 refine (next_t 60 _ T4 (by omega) (by omega)).mono ?_
 rintro e x5 ⟨r,rfl,r0,r1,T5,k5⟩
 obtain ⟨m,rfl⟩:=Int.eq_ofNat_of_zero_le r0
 have hm60:m<60:=by omega
 clear T4 r0 r1
 go_wp2_with fail
 refine (many_p m hm60 _).mono ?_
 rintro e x6 ⟨v6,rfl,own6,k6⟩
 have T6:=T5.nx k6
 have hb5:=T5.lt
 clear T5
 go_wp2_with fail
 refine (bool_t 2 _ T6 (by omega) (by omega)).mono ?_
 rintro e x7 ⟨r2,rfl,T7,k7⟩
 have own7:=own6.nxb hb5 k7
 obtain ⟨aM,cM,rfl,RM⟩:=OwnL.rowb own7 hb5
 have hml:((List.range m).map mkR).length=m:=by simp
 rw [hml] at RM ⊢
 have K7:Exb b x4 x7:=(k5.nxb (k6.b b)).nxb k7
 have CUT0:=lH (show RowsCut b x7 (.slice aM m cM) x7 from ⟨m,cM,aM,_,rfl,hml.symm,by rw [hml];omega,RM,many_ok (by omega) (fun _=>rfl),T7,Exb.refl _ _⟩)
 have T17:=lH (T14.out.nxb hgt K7)
 have L17:=lH (L14.out.nxb hgl K7)
 have QL7:=lH (QL4.out.nxb K7)
 have SN7:=lH (SN.nxb K7)
 clear own6 own7 T6 hml RM K7 k5 k6 k7 T14 L14 QL4 SN
 go_upto_if 50 with fail
 go_cut [6] from 51 to 52 (fun v wx=>RowsCut b x7 v wx)
 case first =>
  cases r2 with
  | true =>
   go_wp2_with fail
   refine (rows_t _ T7 L17.out hgl).mono ?_
   rintro e x8 ⟨n,c,a,R,rfl,hR20,hRl,RB,tok,T8,k8⟩
   have CUT:=lH (show RowsCut b x7 (.slice a n c) x8 from ⟨n,c,a,R,rfl,hRl,by omega,RB,tok,T8,k8⟩)
   clear hR20 hRl RB tok T8 k8
   go_wp2_with fail
   go_meet
   exact CUT.out
  | false =>
   go_wp2_with fail
   go_meet
   exact CUT0.out
 case rest =>
  obtain ⟨nR,cR,aR,R,rfl,rfl,hR59,RB,tok,T8,k8⟩:=hcut
  rename World=>x8
  have HT8:=lH T8
  have hb8:=T8.lt
  have T18:=lH (T17.out.nxb hgt k8)
  have QL8:=lH (QL7.out.nxb k8)
  have L18:=lH (L17.out.nxb hgl k8)
  have SN8:=SN7.out.nxb k8
  have HSN:=lH (fun wq (kq:Exb b x8 wq)=>SN8.nxb kq)
  have HRB:=lH RB
  have IV0:=lH (FI.out R tok)
  have TOK:=lH tok
  have RKZ:Hid (∀ r∈R,r.1.size≤64):=lH (fun r hr=>(tok.2.1 r hr).1)
  have hNl:=PN.out
  have hsl:Hid ((segF N0 R).length=L.length):=lH (by rw [seg_len];exact hNl)
  have HNL:=lH hNl
  clear T7 CUT0 RB tok T8 SN7 k8 T17 QL7 L17 FI PN SN8 hNl
  go_wp2_with fail
  go_loopw [7,8] (fun l i wr=>TblRel N0 R x8 l i wr) (fun _ i _=>L.length-(intOf i).toNat)
  case atStart=>exact ⟨0,[],by omega,rfl,OwnN.nil _ _ _ _ _ _ _ _,Ex.refl _⟩
  case round =>
   obtain ⟨k,qs,hk,rfl,OQ,kw⟩:=hrel
   obtain ⟨wi,rfl⟩:∃ wi:World,wi=wr:=⟨_,rfl⟩
   have KW:=lH kw
   rw [HNL.out] at hk
   by_cases hkn:k<L.length
   ·obtain ⟨xo,oo,y,rfl,hxo,hy,hcc⟩:=(HSN.out _ (Exb.refl _ _)).sl.at hkn
    have hxo:xo<x8.heap.size:=hxo
    have c0:x8.cell? ⟨xo,oo+k*3,none⟩=some (.int .i64 y.id):=hcc 0 _ rfl
    have c1:x8.cell? ⟨xo,oo+k*3+1,none⟩=some (.string y.key):=hcc 1 _ rfl
    have c2:x8.cell? ⟨xo,oo+k*3+1+1,none⟩=some (.int .u32 y.word):=by simpa [Nat.add_assoc] using hcc 2 _ rfl
    have CX:=lH (And.intro c0 (And.intro c1 c2))
    have HXO:=lH hxo
    have NIDX:Hid ((sortN N0)[k]?=some y):=lH (by rw [SN0.out];exact hy)
    have AT:=tb_at IV0.out hy
    have e0:wi.cell? ⟨xo,oo+k*3,none⟩=some (.int .i64 y.id):=kw.cellv c0 hxo
    have OQH:=lH OQ
    clear hcc c0 c1 c2 hxo hy OQ
    go_wp2_with fail
    (with_reducible refine (interval_p _ _ _ N0 y k _ (HSN.out _ (kw.b b)).sl (by omega) hcS' hmS CN0.out NIDX.out).mono ?_)
    rintro e u1 ⟨rfl,ki⟩
    rw [SN0.out]
    obtain ⟨lo,hlo⟩:∃ lo,lo=loI N0 k:=⟨_,rfl⟩
    obtain ⟨⟨hi,top⟩,hhi⟩:∃ h,h=hiI N0 k:=⟨_,rfl⟩
    rw [← hlo,← hhi] at AT ⊢
    simp only at AT ⊢
    obtain ⟨FR,hFR⟩:∃ FR,FR=R.filter fun r=>hasV lo hi top r.1:=⟨_,rfl⟩
    rw [← hFR] at AT
    have RG:=lH AT.1
    have SG:=lH AT.2
    have HFR:=lH hFR
    have hFl:FR.length≤59:=by rw [hFR];exact Nat.le_trans (List.length_filter_le _ _) hR59
    clear AT hlo hhi hFR e0
    have B9:=Blk.new u1 [.string lo,.bool false,.string hi,.bool top] 45
    have kk:=Ex.new u1 (.cells #[.string lo,.bool false,.string hi,.bool top] 45)
    obtain ⟨u2,hu2⟩:∃ u2,u2=u1.alloc (.cells #[.string lo,.bool false,.string hi,.bool top] 45):=⟨_,rfl⟩
    obtain ⟨g9,hg9⟩:∃ g9,g9=u1.heap.size:=⟨_,rfl⟩
    replace B9:Blk u2 g9 [.string lo,.bool false,.string hi,.bool top] 45:=by rw [hu2,hg9];exact B9
    rw [← hu2] at kk
    have Hu2:=lH hu2
    have Hg9:=lH hg9
    have KU:=lH ((kw.nx ki).nx kk)
    have OQ2:=lH (OwnN.nx OQH.out (ki.nx kk))
    clear kk hu2 hg9 ki kw OQH
    go_upto_region 16 with fail
    rw [← Hg9.out,← Hu2.out]
    clear Hg9 Hu2
    have CN:=lH (fun wq (kq:Chg (fun z=>z<x8.heap.size∨z=g9) u2.drew wq)=>(⟨kq.cellv (KU.out.cellv CX.out.1 HXO.out) (.inl HXO.out),kq.cellv (KU.out.cellv CX.out.2.1 HXO.out) (.inl HXO.out),kq.cellv (KU.out.cellv CX.out.2.2 HXO.out) (.inl HXO.out)⟩ :
     wq.cell? ⟨xo,oo+k*3,none⟩=some (.int .i64 y.id)∧wq.cell? ⟨xo,oo+k*3+1,none⟩=some (.string y.key)∧wq.cell? ⟨xo,oo+k*3+1+1,none⟩=some (.int .u32 y.word)))
    have B9d:=lH (B9.nx (Ex.refl u2).drew)
    have B9H:=lH B9
    have RBu:=lH (HRB.out.nxb ((KU.out.drew).b b)).l
    have NB:=lH (blk_ne OQ2.out.1 B9 (by decide))
    have hkq:qs.length=k:=by rw [OQ2.out.2.1,List.length_take,hsl.out];omega
    have HKQ:=lH hkq
    have zz:=KU.out.size
    clear B9 hkq
    refine wp_region_held_drew (S:=Chg (fun z=>z<x8.heap.size∨z=g9) u2.drew) (by kernel_rfl) (Chg.refl _ _) (fun hHeld=>?_)
    refine tkH 0 (v:=?_) rfl (by kernel_rfl) (fun _ _ _ h=>h) (by rfl) ?y1 hHeld ?_
    case y1=>intro wq hSw;go_simp<;>rfl
    refine tkH 1 (v:=?_) rfl (by kernel_rfl) (fun _ _ _ h=>h) (by rfl) ?y4 hHeld ?_
    case y4=>intro wq hSw;go_simp<;>rfl
    refine tkH 2 (v:=?_) rfl (by kernel_rfl) (fun _ _ _ h=>h) (by rfl) ?y7 hHeld ?_
    case y7=>intro wq hSw;go_simp<;>rfl
    refine tkH 3 (v:=?_) rfl (by kernel_rfl) (fun _ _ _ h=>h) (by rfl) ?y10 hHeld ?_
    case y10=>intro wq hSw;go_simp<;>rfl
    refine tkH 4 (v:=?_) rfl (by kernel_rfl) (fun _ _ _ h=>h) (by rfl) ?y13 hHeld ?_
    case y13=>intro wq hSw;(obtain ⟨c0,c1,c2⟩:=CN.out _ hSw;go_simp)<;>rfl
    refine tkH 5 (v:=?_) rfl (by kernel_rfl) (fun _ _ _ h=>h) (by rfl) ?y16 hHeld ?_
    case y16=>intro wq hSw;go_simp<;>rfl
    refine tkH 6 (v:=?_) rfl (by kernel_rfl) (fun _ _ _ h=>h) (by rfl) ?y19 hHeld ?_
    case y19=>intro wq hSw;(have d0:=(B9d.out.chg hSw (.inr rfl)).cell 0 _ rfl;have d1:=(B9d.out.chg hSw (.inr rfl)).cell 1 _ rfl;have d2:=(B9d.out.chg hSw (.inr rfl)).cell 2 _ rfl;have d3:=(B9d.out.chg hSw (.inr rfl)).cell 3 _ rfl;go_simp)<;>rfl
    refine rH 7 (by kernel_rfl) rfl fun K hK=>?_
    go_simp
    (with_reducible refine (slice_r aR R.length cR R lo hi top _ RBu.out (by omega) RKZ.out RG.out).mono ?_)
    rintro e u3 ⟨v3,rfl,own3,k3⟩
    rw [← HFR.out] at own3
    obtain ⟨a3,c3,rfl,_⟩:=own3.toW.rd (fun _=>rfl)
    have C3:Hid (Chg (fun z=>z<x8.heap.size∨z=g9) u2.drew u3):=lH (Chg.mono k3 (fun z hz=>hz.elim (fun h=>Nat.lt_of_lt_of_le h zz) (fun h=>h▸B9d.out.lt)))
    have Z3:Hid (∀ z,(z<x8.heap.size∨z=g9)→z<u3.heap.size):=lH (fun z hz=>Nat.lt_of_lt_of_le (hz.elim (fun h=>Nat.lt_of_lt_of_le h zz) (fun h=>h▸B9H.out.lt)) k3.size)
    have OWN3:=lH own3
    have K3:=lH (rgTB k3)
    clear own3 k3
    refine hK.out _ _ (C3.out) (fun hHeld=>?_)
    clear hK K
    refine tkH 8 (v:=?_) rfl (by kernel_rfl) (fun _ _ _ h=>h) (by rfl) ?y37 hHeld ?_
    case y37=>intro wq hSw;go_simp<;>rfl
    refine rH 9 (by kernel_rfl) rfl fun K hK=>?_
    go_simp
    refine hK.out _ _ ((C3.out.alloc _ Z3.out)) (fun hHeld=>?_)
    clear hK K
    refine rH 10 (by kernel_rfl) rfl fun K hK=>?_
    rw [if_pos (by rfl)]
    have kz:Ex u3 (u3.alloc (.cells #[.int .i64 y.id,.string y.key,.int .u32 y.word,.slice a3 FR.length c3] 91)):=Ex.new u3 _
    have OQ4:=OwnN.nx (OwnN.nx OQ2.out K3.out) kz
    have hql:qs.length≤1000000:=by rw [HKQ.out];omega
    have SX:Sl 4 (encP encN) (u3.alloc (.cells #[.int .i64 y.id,.string y.key,.int .u32 y.word,.slice a3 FR.length c3] 91)) (some ⟨u3.heap.size,0,none⟩) 1 [((y,(a3,FR.length,c3)):Nd×Hdr)]:=Sl.lit _ rfl rfl (fun _=>rfl) rfl
    have z4:x8.heap.size≤(u3.alloc (.cells #[.int .i64 y.id,.string y.key,.int .u32 y.word,.slice a3 FR.length c3] 91)).heap.size:=Nat.le_trans (Nat.le_trans zz K3.out.size) kz.size
    refine wp_append_W (enc:=encP encN) _ (.tmp 71) (.tmp 80) 88 rfl x8.heap.size 91 (.agg #[.int .i64 0,.string ByteArray.empty,.int .u32 0,.slice none 0 0]) 4 56 Tryz.underlying88 Tryz.infoHg rfl (by omega) (by omega) _ qs OQ4.1 rfl _ 1 1 [((y,(a3,FR.length,c3)):Nd×Hdr)] SX (fun _=>rfl) (by simp [encP,encN,Hdr.val,Value.oneCell']) rfl hql (by omega) z4 ?_
    intro v9 w9 own9 ch0 ch1 _
    refine hK.out _ _ ((Chg.trans (C3.out.alloc _ Z3.out) (Chg.mono ch0 (fun z hz=>⟨Nat.lt_of_lt_of_le (Z3.out z hz) kz.size,fun hv=>hz.elim (fun h=>absurd (OQ4.1.blk hv).1 (Nat.not_le.2 h)) (fun h=>NB.out (h▸hv))⟩)))) (fun hHeld=>?_)
    clear hK K
    refine tkH 11 (v:=?_) rfl (by kernel_rfl) (fun _ _ _ h=>h) (by rfl) ?y59 hHeld ?_
    case y59=>intro wq hSw;go_simp<;>rfl
    refine wpAnyH_done (by kernel_rfl) ?_ _
    have OQ9:=OwnN.push (by decide) OQ4 own9 ch0 ((OWN3.out.base zz).nx kz) (fun j r g hr hg hv=>by have h1:=OwnN.lt OQ2.out hr hg;have h2:=(OWN3.out.blk hv).1;exact absurd h1 (Nat.not_lt.2 h2))
    have kw9:Ex x8 w9:=Chg.trans ((KU.out.nx K3.out).nx kz) ch1
    have NXT:=lH (show TblRel N0 R x8 v9 (.int .i64 ((k:Int)+1)) w9 from ⟨k+1,_,by rw [HNL.out];omega,by go_num,by rw [take_snocP SG.out];exact OQ9,kw9⟩)
    clear OQ4 own9 ch0 ch1 SX kz OQ9 kw9
    go_wp2_with fail
    exact ⟨NXT.out,by simp [intOf];omega⟩
   ·obtain rfl:k=L.length:=by omega
    have hk0:=hk
    rw [List.take_of_length_le (by rw [hsl.out];exact Nat.le_refl _)] at OQ
    obtain ⟨aH,cH,rfl,HD0⟩:=OwnHg.hdb OQ hb8
    rw [hsl.out] at HD0 ⊢
    have HDH:=lH HD0
    have T1i:=T18.out.nxb hgt (kw.b b)
    have hb9:b<wi.heap.size:=Nat.lt_of_lt_of_le hb8 kw.size
    clear OQ hk hkn HD0 hk0 kw
    go_wp2_with fail
    (with_reducible refine (build_p _ _ _ N0 (hh:Int) _ (HSN.out _ (KW.out.b b)).sl (by omega) hcS' hmS NW.out T1i).mono ?_)
    rintro e y0 ⟨v,q0,rfl,own,kk⟩
    rw [build_two CN0.out hh16]
    obtain ⟨LR0,hLR0⟩:∃ LR,LR=(buildN N0 (hh:Int)).1:=⟨_,rfl⟩
    rw [← hLR0] at own
    obtain ⟨aL0,cL0,rfl,LL0⟩:=own.nlb hb9
    have K0:=lH (KW.out.nx kk)
    have START:=lH (show TbmRel b y0 L R hh (.slice aH L.length cH) (.slice aL0 LR0.length cL0) (.int .i64 0) (.int .i64 0) y0 from
     ⟨0,segF N0 R,aH,cH,LR0,aL0,cL0,rfl,rfl,rfl,rfl,HDH.out.nxb (kk.b b),IV0.out,LL0,by rw [seg_fst];exact hLR0,by have:=tb_pot IV0.out hR59;omega,HT8.out.nx K0.out,Exb.refl _ _⟩)
    have T10:=lH (T18.out.nxb hgt (K0.out.b b))
    have L10:=lH (L18.out.nxb hgl (K0.out.b b))
    have QL0:=lH (QL8.out.nxb (K0.out.b b))
    have HRB0:=lH (HRB.out.nxb (K0.out.b b))
    clear own LL0 kk hLR0 T1i HDH KW K0 IV0 T18 L18 QL8 HRB HSN HT8 CN0 SN0 NW HNL hsl hb9
    go_wp2_with fail
    go_loopw [7,11,12,13] (fun l lk e i wr=>TbmRel b y0 L R hh l lk e i wr) (fun _ _ _ i _=>301-(intOf i).toNat)
    case atStart=>exact START.out
    case round =>
     clear START
     obtain ⟨k,H,a,c,LR,aL,cL,rfl,rfl,rfl,rfl,hd,iv,lk,hlr,hpot,T,kx⟩:=hrel
     obtain ⟨wj,rfl⟩:∃ wj:World,wj=wr:=⟨_,rfl⟩
     have hk300:k≤300:=by omega
     have IV:=lH iv
     have HHL:Hid (H.length=L.length):=lH (by have:=iv.len;rwa [List.length_map] at this)
     have BL:=buildN_small (H.map Prod.fst) (hh:Int) (by rw [List.length_map];have:=HHL.out;omega)
     rw [← hlr] at BL
     have BLR:=BL.1
     have BSR:=lH BL.2
     have hcL:L.length≤c:=hd.wf.1
     have hcM:c≤maxLen:=hd.wf.2.1
     have HD:=lH hd
     have LK:=lH (show LkX b wj aL LR.length LR from lk)
     have HLR:=lH hlr
     have HPOT:=lH hpot
     have TH:=lH T
     have hbj:=T.lt
     have KX:=lH kx
     have BND:=lH (tb_bnd iv TOK.out)
     have HML:Hid (((loadsH H).map natI).length=L.length):=lH (by rw [List.length_map,loads_len];exact HHL.out)
     clear hd iv lk hlr hpot T kx BL
     go_wp2_with fail
     (with_reducible refine (loads_p _ _ _ H _ HD.out.rd (by omega)).mono ?_)
     rintro e y1 ⟨v,rfl,own,kk⟩
     rw [loads_map] at own
     obtain ⟨av,cv,rfl,r1,_,_,_⟩:=own.slf (fun _=>rfl)
     rw [HML.out] at r1 ⊢
     have R1:=lH r1.sl
     have K1:=lH kk
     clear own r1 kk
     go_wp2_with fail
     (with_reducible refine (step_p _ _ _ (loadsH H) _ R1.out (by omega) BND.out).mono ?_)
     rintro e y2 ⟨rfl,kk⟩
     have K2:=lH (K1.out.nx kk)
     clear R1 K1 kk
     cases hs:stepBl (loadsH H) with
     | none =>
      rw [stepV_none hs]
      have HSN:=lH hs
      clear hs
      have B14:=Blk.new y2 [.int .i64 0,.int .i64 0,.int .i64 0,.int .i64 0,.int .i64 0] 93
      have kk:=Ex.new y2 (.cells #[.int .i64 0,.int .i64 0,.int .i64 0,.int .i64 0,.int .i64 0] 93)
      obtain ⟨y3,hy3⟩:∃ y3,y3=y2.alloc (.cells #[.int .i64 0,.int .i64 0,.int .i64 0,.int .i64 0,.int .i64 0] 93):=⟨_,rfl⟩
      obtain ⟨g14,hg14⟩:∃ g14,g14=y2.heap.size:=⟨_,rfl⟩
      replace B14:Blk y3 g14 [.int .i64 0,.int .i64 0,.int .i64 0,.int .i64 0,.int .i64 0] 93:=by rw [hy3,hg14];exact B14
      rw [← hy3] at kk
      have Hy3:=lH hy3
      have Hg14:=lH hg14
      have K3:=lH (K2.out.nx kk)
      clear kk hy3 hg14 K2 B14
      go_upto_region 50 with fail
      rw [← Hg14.out,← Hy3.out]
      clear Hg14 Hy3
      go_wp2_with fail
      (with_reducible refine (rebalance_m _ _ _ H L R _ (HD.out.nxb (K3.out.b b)).rd IV.out H0.out TOK.out HSN.out).mono ?_)
      rintro e z1 ⟨a2,c2,rfl,kk⟩
      replace K3:=lH (K3.out.nx kk)
      clear kk
      go_wp2_with fail
      (with_reducible refine (loads_p _ _ _ H _ (HD.out.nxb (K3.out.b b)).rd (by omega)).mono ?_)
      rintro e z2 ⟨v,rfl,own,kk⟩
      rw [loads_map] at own
      obtain ⟨av2,cv2,rfl,r1,_,_,_⟩:=own.slf (fun _=>rfl)
      rw [HML.out] at r1 ⊢
      have R1:=lH r1.sl
      replace K3:=lH (K3.out.nx kk)
      clear own r1 kk
      go_wp2_with fail
      (with_reducible refine (settled_p _ _ _ (loadsH H) _ R1.out (by omega) BND.out HSN.out).mono ?_)
      rintro e z3 ⟨rfl,kk⟩
      replace K3:=lH (K3.out.nx kk)
      clear kk R1
      go_wp2_with fail
      (with_reducible refine (mvalid_p _ _ _ H L R _ (HD.out.nxb (K3.out.b b)).rd IV.out H0.out TOK.out).mono ?_)
      rintro e z4 ⟨rfl,kk⟩
      replace K3:=lH (K3.out.nx kk)
      clear kk
      have CAT:Hid (H.flatMap Prod.snd=R):=lH IV.out.cat
      have hcl:(H.flatMap Prod.snd).length≤10000:=by rw [CAT.out];omega
      go_wp2_with fail
      (with_reducible refine (table_m _ _ _ H _ (HD.out.nxb (K3.out.b b)).rd (by omega) hcl).mono ?_)
      rintro e z5 ⟨v,rfl,own,kk⟩
      rw [CAT.out] at own
      have hb5:b<z4.heap.size:=Nat.lt_of_lt_of_le hbj K3.out.size
      obtain ⟨at5,ct5,rfl,RT⟩:=OwnL.rowb own hb5
      have RTH:=lH RT
      replace K3:=lH (K3.out.nx kk)
      clear kk own RT hcl
      go_wp2_with fail
      (with_reducible refine (same_r20 _ _ _ _ _ R _ RTH.out.l (HRB0.out.nxb (KX.out.nxb (K3.out.b b))).l (by omega)).mono ?_)
      rintro e z6 ⟨rfl,kk⟩
      replace K3:=lH (K3.out.nx kk)
      clear kk RTH
      go_wp2_with fail
      (with_reducible refine (nodesOf_p _ _ _ H _ (HD.out.nxb (K3.out.b b)).rd (by omega)).mono ?_)
      rintro e z7 ⟨v,rfl,own,kk⟩
      obtain ⟨a7,c7,rfl,r7,hc7,hm7,_⟩:=own.slf (fun _=>rfl)
      have hl7:(H.map Prod.fst).length=L.length:=by rw [List.length_map];exact HHL.out
      rw [hl7] at r7 hc7 ⊢
      have R7:=lH r7.sl
      replace K3:=lH (K3.out.nx kk)
      have WD:=lH (IV.out.word HW.out)
      clear own r7 kk hl7
      go_wp2_with fail
      (with_reducible refine (linksOf_p _ _ _ (H.map Prod.fst) (hh:Int) _ R7.out (by omega) hc7 hm7 WD.out (T10.out.nxb hgt (KX.out.nxb (K3.out.b b)))).mono ?_)
      rintro e z8 ⟨v,q8,rfl,own,kk⟩
      rw [← HLR.out] at own
      obtain ⟨a8,c8,rfl,LL⟩:=own.nlb (b:=b) (Nat.lt_of_lt_of_le hbj K3.out.size)
      have LL8:=lH (LL _ (Exb.refl _ _))
      replace K3:=lH (K3.out.nx kk)
      clear own LL kk R7
      go_wp2_with fail
      (with_reducible refine (samelk_r _ _ _ _ _ _ LR LR _ (LK.out.nxb (K3.out.b b)).rd LL8.out (by omega) (fun d hd=>Nat.le_trans (BSR.out d hd) (by omega))).mono ?_)
      rintro e z9 ⟨rfl,kk⟩
      rw [decide_eq_true (rfl:LR=LR)]
      replace K3:=lH (K3.out.nx kk)
      clear kk LL8
      go_wp2_with fail
      (with_reducible refine (saneT_x _ (T10.out.nxb hgt (KX.out.nxb (K3.out.b b)))).mono ?_)
      rintro e z10 ⟨rfl,kk⟩
      have QX:=lH (QL0.out.nxb ((KX.out.nxb (K3.out.b b)).nxb (kk.b b))).1
      clear kk
      go_wp2_with fail
      go_ret
      exact ⟨rfl,QX.out⟩
     | some s =>
      obtain ⟨kd,f,t,bs,cnt⟩:=s
      rw [stepV_some hs]
      obtain ⟨hkd,hfl⟩:=step_kind hs
      rw [loads_len,HHL.out] at hfl hkd
      have HS:=lH hs
      have hf0:¬ (f:Int)<0:=by omega
      have hfL:¬ (f:Int) ≥ (L.length:Int):=by omega
      have hk2:¬ (k:Int)>2000:=by omega
      have WD:=lH (IV.out.word HW.out)
      have hl7:Hid ((H.map Prod.fst).length=L.length):=lH (by rw [List.length_map];exact HHL.out)
      clear hs
      rcases hkd with rfl | ⟨rfl,h3⟩
      ·have e1:((1:Nat):Int)=1:=rfl
       rw [e1]
       clear e1
       have B14:=Blk.new y2 [.int .i64 1,.int .i64 f,.int .i64 t,.int .i64 bs,.int .i64 cnt] 93
       have kk:=Ex.new y2 (.cells #[.int .i64 1,.int .i64 f,.int .i64 t,.int .i64 bs,.int .i64 cnt] 93)
       obtain ⟨y3,hy3⟩:∃ y3,y3=y2.alloc (.cells #[.int .i64 1,.int .i64 f,.int .i64 t,.int .i64 bs,.int .i64 cnt] 93):=⟨_,rfl⟩
       obtain ⟨g14,hg14⟩:∃ g14,g14=y2.heap.size:=⟨_,rfl⟩
       replace B14:Blk y3 g14 [.int .i64 1,.int .i64 f,.int .i64 t,.int .i64 bs,.int .i64 cnt] 93:=by rw [hy3,hg14];exact B14
       rw [← hy3] at kk
       have Hy3:=lH hy3
       have Hg14:=lH hg14
       have K3:=lH (K2.out.nx kk)
       clear kk hy3 hg14 K2
       go_upto_region 23 with fail
       rw [← Hg14.out,← Hy3.out]
       clear Hg14 Hy3
       go_wp2_with fail
       (with_reducible refine (nodesOf_p _ _ _ H _ (HD.out.nxb (K3.out.b b)).rd (by omega)).mono ?_)
       rintro e y4 ⟨v4,rfl,_,kk⟩
       have K4:=lH (K3.out.nx kk)
       replace B14:=B14.nx kk
       clear kk K3
       have d0:=B14.cell 0 _ rfl
       have d1:=B14.cell 1 _ rfl
       have d2:=B14.cell 2 _ rfl
       have d4:=B14.cell 4 _ rfl
       go_wp2_with fail
       (with_reducible refine (shift_b _ _ _ H L R _ (HD.out.nxb (K4.out.b b)).rd IV.out H0.out TOK.out f t bs cnt HS.out).mono ?_)
       rintro e y5 ⟨g5,c5,res,rfl,hf,sb,kk⟩
       have K5:=lH (K4.out.nx kk)
       replace B14:=B14.nx kk
       have HF:=lH (hf.b (Nat.lt_of_lt_of_le hbj K4.out.size))
       have SB:=lH sb
       clear kk hf sb K4 d0 d1 d2 d4
       obtain ⟨a5,ha5⟩:∃ a5:Option Addr,a5=some ⟨g5,0,none⟩:=⟨_,rfl⟩
       rw [← ha5] at HF ⊢
       clear ha5
       have d0:=B14.cell 0 _ rfl
       have d1:=B14.cell 1 _ rfl
       go_wp2_with fail
       (with_reducible refine (nodesOf_p _ _ _ res _ HF.out.rd (by omega)).mono ?_)
       rintro e y6 ⟨v6,rfl,own,kk⟩
       obtain ⟨a6,c6,rfl,r6,hc6,hm6,_⟩:=own.slf (fun _=>rfl)
       have hl6:(res.map Prod.fst).length=L.length:=by rw [List.length_map];exact HF.out.len
       rw [hl6] at r6 hc6 ⊢
       have R6:=lH r6.sl
       have K6:=lH (K5.out.nx kk)
       replace HF:=lH (HF.out.nxb (kk.b b))
       replace B14:=B14.nx kk
       have EX:Hid (exactI (res.map Prod.fst) LR (hh:Int)=true):=lH (by rw [HLR.out,← shift_links IV.out SB.out.inv H0.out SB.out.iws hh16];exact exact_build (SB.out.inv.check H0.out) hh16)
       have WR:=lH (SB.out.inv.word HW.out)
       clear own r6 kk hl6 K5 d0 d1
       have d0:=B14.cell 0 _ rfl
       go_wp2_with fail
       (with_reducible refine (exact_p _ _ _ (res.map Prod.fst) _ _ _ LR (hh:Int) _ R6.out (by omega) hc6 hm6 WR.out (T10.out.nxb hgt (KX.out.nxb (K6.out.b b))) (LK.out.nxb (K6.out.b b)).rd (by omega) (fun d hd=>Nat.le_trans (BSR.out d hd) (by omega))).mono ?_)
       rintro e y7 ⟨rfl,kk⟩
       rw [EX.out]
       have K7:=lH (K6.out.nx kk)
       replace HF:=lH (HF.out.nxb (kk.b b))
       have R7:=lH (R6.out.nx kk)
       clear kk K6 R6 d0 B14
       go_wp2_with fail
       (with_reducible refine (check_p _ _ _ (res.map Prod.fst) _ R7.out (by omega) hc6 hm6).mono ?_)
       rintro e y8 ⟨rfl,kk⟩
       rw [SB.out.inv.check H0.out]
       have K8:=lH (K7.out.nx kk)
       have NXT:=lH (show TbmRel b y0 L R hh (.slice a5 L.length c5) (.slice aL LR.length cL) (.int .i64 0) (.int .i64 ((k:Int)+1)) y8 from
        ⟨k+1,res,a5,c5,LR,aL,cL,rfl,rfl,rfl,by go_num,HF.out.nxb (kk.b b),SB.out.inv,LK.out.nxb (K8.out.b b),by rw [shift_links IV.out SB.out.inv H0.out SB.out.iws hh16];exact HLR.out,by have h1:=SB.out.pot;have h2:=HPOT.out;omega,TH.out.nx K8.out,KX.out.nxb (K8.out.b b)⟩)
       clear kk R7
       go_wp2_with fail
       exact ⟨NXT.out,by simp [intOf];omega⟩
      ·have e1:((2:Nat):Int)=2:=rfl
       rw [e1]
       clear e1
       obtain ⟨xh,oh,_,_,_,F,he,hxh,hF,f0,_⟩:=HD.out.at (show f<H.length by rw [HHL.out];exact hfl)
       simp only at he
       subst he
       have FC:=lH f0
       have FX:Hid (xh<wj.heap.size):=lH hxh.1
       have HFm:=lH hF
       have MEM:=lH (List.mem_of_getElem? hF)
       clear f0 hxh hF
       have B14:=Blk.new y2 [.int .i64 2,.int .i64 f,.int .i64 t,.int .i64 bs,.int .i64 cnt] 93
       have kk:=Ex.new y2 (.cells #[.int .i64 2,.int .i64 f,.int .i64 t,.int .i64 bs,.int .i64 cnt] 93)
       obtain ⟨y3,hy3⟩:∃ y3,y3=y2.alloc (.cells #[.int .i64 2,.int .i64 f,.int .i64 t,.int .i64 bs,.int .i64 cnt] 93):=⟨_,rfl⟩
       obtain ⟨g14,hg14⟩:∃ g14,g14=y2.heap.size:=⟨_,rfl⟩
       replace B14:Blk y3 g14 [.int .i64 2,.int .i64 f,.int .i64 t,.int .i64 bs,.int .i64 cnt] 93:=by rw [hy3,hg14];exact B14
       rw [← hy3] at kk
       have Hy3:=lH hy3
       have Hg14:=lH hg14
       have K3:=lH (K2.out.nx kk)
       clear kk hy3 hg14 K2
       go_upto_region 23 with fail
       rw [← Hg14.out,← Hy3.out]
       clear Hg14 Hy3
       go_wp2_with fail
       (with_reducible refine (nodesOf_p _ _ _ H _ (HD.out.nxb (K3.out.b b)).rd (by omega)).mono ?_)
       rintro e y4 ⟨v4,rfl,own,kk⟩
       obtain ⟨a4,c4,rfl,r4,hc4,hm4,_⟩:=own.slf (fun _=>rfl)
       rw [hl7.out] at r4 hc4 ⊢
       have S4:=lH (r4.slb (Nat.lt_of_lt_of_le hbj K3.out.size))
       have K4:=lH (K3.out.nx kk)
       replace B14:=B14.nx kk
       clear own r4 kk K3
       have d0:=B14.cell 0 _ rfl
       have d1:=B14.cell 1 _ rfl
       have d2:=B14.cell 2 _ rfl
       have d3:=B14.cell 3 _ rfl
       have d4:=B14.cell 4 _ rfl
       go_wp2_with fail
       (with_reducible refine (move_b _ _ _ H L R _ (HD.out.nxb (K4.out.b b)).rd IV.out H0.out TOK.out f t bs cnt HS.out F HFm.out).mono ?_)
       rintro e y5 ⟨g5,c5,res,rfl,hf,mb,kk⟩
       have K5:=lH (K4.out.nx kk)
       replace B14:=B14.nx kk
       replace S4:=lH (S4.out.nxb (kk.b b))
       have HF:=lH (hf.b (Nat.lt_of_lt_of_le hbj K4.out.size))
       have MB:=lH mb
       clear kk hf mb K4 d0 d1 d2 d3 d4
       obtain ⟨a5,ha5⟩:∃ a5:Option Addr,a5=some ⟨g5,0,none⟩:=⟨_,rfl⟩
       rw [← ha5] at HF ⊢
       clear ha5
       have d0:=B14.cell 0 _ rfl
       have d1:=B14.cell 1 _ rfl
       go_wp2_with fail
       (with_reducible refine (nodesOf_p _ _ _ res _ HF.out.rd (by omega)).mono ?_)
       rintro e y6 ⟨v6,rfl,own,kk⟩
       obtain ⟨a6,c6,rfl,r6,hc6,hm6,_⟩:=own.slf (fun _=>rfl)
       have hl6:(res.map Prod.fst).length=L.length:=by rw [List.length_map];exact HF.out.len
       rw [hl6] at r6 hc6 ⊢
       have S6:=lH (r6.slb (Nat.lt_of_lt_of_le hbj K5.out.size))
       have K6:=lH (K5.out.nx kk)
       replace HF:=lH (HF.out.nxb (kk.b b))
       replace S4:=lH (S4.out.nxb (kk.b b))
       replace B14:=B14.nx kk
       have WR:=lH (MB.out.inv.word HW.out)
       obtain ⟨d,hd,hdi,hfd⟩:=mv_find IV.out MB.out.inv H0.out MEM.out
       have DM:=lH hd
       have DI:=lH hdi
       have FD:=lH hfd
       clear own r6 kk hl6 K5 d0 d1 hd hdi hfd
       have d0:=B14.cell 0 _ rfl
       have d1:=B14.cell 1 _ rfl
       have f0:=K6.out.cellv FC.out FX.out
       go_wp2_with fail
       (with_reducible refine (find_p _ _ _ (res.map Prod.fst) F.1.id _ S6.out.sl (by omega)).mono ?_)
       rintro e y7 ⟨rfl,kk⟩
       rw [FD.out]
       simp only [Nd.val]
       have K7:=lH (K6.out.nx kk)
       replace S6:=lH (S6.out.nxb (kk.b b))
       replace HF:=lH (HF.out.nxb (kk.b b))
       replace S4:=lH (S4.out.nxb (kk.b b))
       clear kk d0 d1 f0 B14 K6
       have B21:=Blk.new y7 [.int .i64 d.1.id,.string d.1.key,.int .u32 d.1.word] 36
       have kk:=Ex.new y7 (.cells #[.int .i64 d.1.id,.string d.1.key,.int .u32 d.1.word] 36)
       obtain ⟨y8,hy8⟩:∃ y8,y8=y7.alloc (.cells #[.int .i64 d.1.id,.string d.1.key,.int .u32 d.1.word] 36):=⟨_,rfl⟩
       obtain ⟨g21,hg21⟩:∃ g21,g21=y7.heap.size:=⟨_,rfl⟩
       replace B21:Blk y8 g21 [.int .i64 d.1.id,.string d.1.key,.int .u32 d.1.word] 36:=by rw [hy8,hg21];exact B21
       rw [← hy8] at kk
       have Hy8:=lH hy8
       have Hg21:=lH hg21
       have K8:=lH (K7.out.nx kk)
       replace S6:=lH (S6.out.nxb (kk.b b))
       replace HF:=lH (HF.out.nxb (kk.b b))
       replace S4:=lH (S4.out.nxb (kk.b b))
       have hg21b:g21≠b:=by have h1:=K7.out.size;omega
       clear kk hy8 hg21
       go_upto_region 35 with fail
       rw [← Hg21.out,← Hy8.out]
       clear Hg21 Hy8
       have kn:=Ex.new y8 (.cells #[.int .i64 F.1.id] 3)
       have SI:Sl 1 encI (y8.alloc (.cells #[.int .i64 F.1.id] 3)) (some ⟨y8.heap.size,0,none⟩) 1 [F.1.id]:=Sl.lit _ rfl rfl (fun _=>rfl) rfl
       have S8:=(S4.out.nxb (kn.b b)).sl
       go_wp2_with fail
       (with_reducible refine (without_p _ _ _ (H.map Prod.fst) _ _ _ [F.1.id] _ S8 (by omega) SI (by omega)).mono ?_)
       rintro e y9 ⟨v9,rfl,own,kk⟩
       rw [with_drop] at own
       have OWB:=OwnL.base own kn.size
       have K9:=lH (kn.nx kk)
       have hBl:=drop_len (IV.out.check H0.out) (List.mem_map.2 ⟨F,MEM.out,rfl⟩:F.1∈H.map Prod.fst)
       obtain ⟨tr,hrem⟩:=mv_rem IV.out H0.out MEM.out hh16
       have hAB:=rest_len MB.out.but
       have RAT:=lH (fun (i:Nat) (p:Nd) (hp:(dropN (H.map Prod.fst) F.1.id)[i]?=some p)=>rest_at MB.out.inv H0.out MB.out.but hp)
       have ACH:=lH (drop_check (MB.out.inv.check H0.out) F.1.id)
       have HINS:=lH (fun (frm:Int) (hf:(findN (dropN (res.map Prod.fst) F.1.id) frm).2=true)=>mv_ins IV.out MB.out.inv H0.out MB.out.but DM.out DI.out hh16 hf)
       have AWD:=lH (drop_word WR.out F.1.id)
       have DWD:=lH (WR.out d.1 (List.mem_map.2 ⟨d,DM.out,rfl⟩))
       rw [hl7.out] at hBl
       rw [← HLR.out] at hrem
       obtain ⟨B,hB⟩:∃ B,B=dropN (H.map Prod.fst) F.1.id:=⟨_,rfl⟩
       obtain ⟨A,hA⟩:∃ A,A=dropN (res.map Prod.fst) F.1.id:=⟨_,rfl⟩
       rw [← hB] at OWB hBl hrem hAB RAT HINS
       rw [← hA] at hAB RAT ACH HINS AWD
       obtain ⟨RB,hRB⟩:∃ RB,RB=(buildN B (hh:Int)).1:=⟨_,rfl⟩
       rw [← hRB] at hrem HINS
       have BSM:=buildN_small B (hh:Int) (by omega)
       rw [← hRB] at BSM
       have BLB:=BSM.1
       have BSB:=lH BSM.2
       obtain ⟨q,hq⟩:∃ q,q=B.length:=⟨_,rfl⟩
       have hq1:q+1=L.length:=by rw [hq];exact hBl
       have OWB:=OWB.toW
       obtain ⟨aR9,cR9,rfl,_,hcR,hmR,hgR,_⟩:=OWB.rd (fun _=>rfl)
       rw [← hq] at OWB hcR ⊢
       obtain ⟨gR,rfl,hgb⟩:=hgR (by intro h;rw [h] at hq;simp at hq;omega)
       have hg9:gR<y9.heap.size:=(OWB.at0).2.2.1
       have HREM:=lH hrem
       have HAB:=lH hAB
       have HQ:=lH hq
       have OWH:=lH OWB
       have S9:=lH (S4.out.nxb (K9.out.b b))
       clear own kk kn SI S8 hBl hAB hB hA hRB BSM hq OWB hrem S4 hgR
       go_wp2_with fail
       (with_reducible refine (remove_p _ _ _ (H.map Prod.fst) _ _ _ LR F.1.id (hh:Int) _ S9.out.sl (by omega) hc4 hm4 WD.out (T10.out.nxb hgt (KX.out.nxb ((K8.out.nx K9.out).b b))) (LK.out.nxb ((K8.out.nx K9.out).b b)).rd (by omega) (fun d hd=>Nat.le_trans (BSR.out d hd) (by omega))).mono ?_)
       rintro e y10 ⟨v10,q10,rfl,own10,kk⟩
       rw [HREM.out] at own10 ⊢
       have ST:=lH (show TbrRel q gR cR9 y8.heap.size y9.heap.size A B v10 q10 RB y8 (.int .i64 0) y10 from ⟨0,by omega,rfl,OWH.out.nx kk,own10,K9.out.nx kk⟩)
       have hq0:((q:Int)==0)=false:=by rw [beq_eq_false_iff_ne];omega
       clear own10 kk S9 OWH
       go_wp2_with fail
       go_loopw [27] (fun i wr=>TbrRel q gR cR9 y8.heap.size y9.heap.size A B v10 q10 RB y8 i wr) (fun i _=>q-(intOf i).toNat)
       case atStart=>exact ST.out
       case round =>
        clear ST
        obtain ⟨j,hj,rfl,OW,OL,kv⟩:=hrel
        obtain ⟨wt,rfl⟩:∃ wt:World,wt=wr:=⟨_,rfl⟩
        have OWH:=lH OW
        have OLH:=lH OL
        have KV:=lH kv
        by_cases hjq:j<q
        ·obtain ⟨p,hp⟩:∃ p,B[j]?=some p:=⟨_,List.getElem?_eq_getElem (by rw [← HQ.out];exact hjq)⟩
         obtain ⟨y,hy,hfy,hpy⟩:=RAT.out j p hp
         have hat:=mix_at HAB.out hp
         obtain ⟨t0,_,_⟩:=OW.set1 (sz:=3) (enc:=encN) (fun _=>rfl) hat (c:=0) (by omega)
         have t0:wt.cell? ⟨gR,j*3,none⟩=some (.int .i64 p.id):=t0
         have HFY:=lH hfy
         have HY:=lH hy
         have HAT:=lH hat
         have HPY:Hid (encN y=(encN p).set 1 (.string y.key)):=lH (by
          have h1:y.id=p.id:=by rw [← hpy]
          have h2:y.word=p.word:=by rw [← hpy]
          simp [encN,h1,h2])
         clear hp hy hfy hpy hat OW OL kv
         go_wp2_with fail
         (with_reducible refine (find_p _ _ _ (res.map Prod.fst) p.id _ (S6.out.nxb (KV.out.b b)).sl (by omega)).mono ?_)
         rintro e u1 ⟨rfl,kk⟩
         rw [HFY.out]
         simp only [Nd.val]
         have KU:=lH (KV.out.nx kk)
         have OW1:=lH (OWH.out.nx kk)
         have OL1:=lH (OwnN.nx OLH.out kk)
         clear kk t0 OWH OLH KV
         have B28:=Blk.new u1 [.int .i64 y.id,.string y.key,.int .u32 y.word] 36
         have kk:=Ex.new u1 (.cells #[.int .i64 y.id,.string y.key,.int .u32 y.word] 36)
         obtain ⟨u2,hu2⟩:∃ u2,u2=u1.alloc (.cells #[.int .i64 y.id,.string y.key,.int .u32 y.word] 36):=⟨_,rfl⟩
         obtain ⟨g28,hg28⟩:∃ g28,g28=u1.heap.size:=⟨_,rfl⟩
         replace B28:Blk u2 g28 [.int .i64 y.id,.string y.key,.int .u32 y.word] 36:=by rw [hu2,hg28];exact B28
         rw [← hu2] at kk
         have Hu2:=lH hu2
         have Hg28:=lH hg28
         replace KU:=lH (KU.out.nx kk)
         replace OW1:=lH (OW1.out.nx kk)
         replace OL1:=lH (OwnN.nx OL1.out kk)
         clear kk hu2 hg28
         go_upto_region 45 with fail
         rw [← Hg28.out,← Hu2.out]
         clear Hg28 Hu2
         obtain ⟨t1,fz,up⟩:=OW1.out.set1 (sz:=3) (enc:=encN) (fun _=>rfl) HAT.out (c:=1) (by omega)
         have NXT:=lH (show TbrRel q gR cR9 y8.heap.size y9.heap.size A B v10 q10 RB y8 (.int .i64 ((j:Int)+1)) (u2.setCell ⟨gR,j*3+1,none⟩ (.string y.key)) from
          ⟨j+1,by omega,by go_num,by rw [← mix_set HAB.out HY.out];exact up y _ HPY.out,OwnN.nxb OL1.out hg9 (Chg.setCell ((Ex.refl u2).b gR) (p:=⟨gR,j*3+1,none⟩) _ (fun x hx=>hx.2)),Chg.setCell KU.out (p:=⟨gR,j*3+1,none⟩) _ (fun x hx=>by have hx:x<y8.heap.size:=hx;show x≠gR;omega)⟩)
         have d1:=B28.cell 1 _ rfl
         clear up
         go_wp2_with fail
         exact ⟨NXT.out,by simp [intOf];omega⟩
        ·obtain rfl:q=j:=by omega
         have hAl:A.length=q:=by rw [HAB.out];exact HQ.out.symm
         rw [List.take_of_length_le (by omega),List.drop_of_length_le (by rw [← HQ.out];exact Nat.le_refl _),List.append_nil] at OW
         obtain ⟨aA,haA⟩:∃ aA:Option Addr,aA=some ⟨gR,0,none⟩:=⟨_,rfl⟩
         rw [← haA] at OW ⊢
         have hby8:b<y8.heap.size:=Nat.lt_of_lt_of_le hbj K8.out.size
         have SA:Slb 3 encN b wt aA q A:=by
          obtain ⟨a',c',e,r,_⟩:=OW.rd (fun _=>rfl)
          simp only [Value.slice.injEq] at e
          obtain ⟨e1,e2,e3⟩:=e
          rw [← e1,← e2] at r
          exact Rd.mono r (fun k hk=>⟨hk.2,by have:=hk.1;omega⟩)
         obtain ⟨aO,cO,rfl,LO⟩:=OL.nlb (b:=b) (Nat.lt_of_lt_of_le hby8 (by omega))
         have KT:=lH (K8.out.nx kv)
         have B21t:=lH (B21.nx kv)
         have TT:=lH (TH.out.nx KT.out)
         have HFt:=lH (HF.out.nxb (kv.b b))
         have S6t:=lH (S6.out.nxb (kv.b b))
         have SAH:=lH SA
         have LOH:=lH (show LkX b wt aO RB.length RB from LO)
         have HAL:=lH hAl
         have TGt:=lH (T10.out.nxb hgt (KX.out.nxb (KT.out.b b)))
         have hq1I:(1:Int)≤(q:Int):=by omega
         have BLn:=buildN_small (res.map Prod.fst) (hh:Int) (by rw [List.length_map];have:=HF.out.len;simp only at this;omega)
         have EX:=lH (exact_build (MB.out.inv.check H0.out) hh16)
         obtain ⟨LRN,hLRN⟩:∃ LRN,LRN=(buildN (res.map Prod.fst) (hh:Int)).1:=⟨_,rfl⟩
         rw [← hLRN] at HINS BLn EX
         have BLNl:=BLn.1
         have BSN:=lH BLn.2
         have HLRN:=lH hLRN
         clear OW OL kv haA hAl hj hjq SA LO S6 HF B21 BLn hLRN hq0
         go_upto_region 46 with fail
         refine wp_region_held_drew (S:=Exb b wt.drew) (by kernel_rfl) (Exb.refl b _) (fun hHeld=>?_)
         refine tkH 0 (v:=?_) rfl (by kernel_rfl) (fun _ _ _ h=>h) (by rfl) ?hyr2x0 (by assumption) ?restr2x0
         case hyr2x0=>intro wq hSw;(go_simp);(try with_reducible rfl)
         refine tkH 1 (v:=?_) rfl (by kernel_rfl) (fun _ _ _ h=>h) (by rfl) ?hyr2x1 (by assumption) ?restr2x1
         case hyr2x1=>intro wq hSw;(go_simp);(try with_reducible rfl)
         refine tkH 2 (v:=?_) rfl (by kernel_rfl) (fun _ _ _ h=>h) (by rfl) ?hyr2x2 (by assumption) ?restr2x2
         case hyr2x2=>intro wq hSw;(have d0:=((B21t.out.nx (Ex.refl wt).drew).nxb hg21b hSw).cell 0 _ rfl;have d1:=((B21t.out.nx (Ex.refl wt).drew).nxb hg21b hSw).cell 1 _ rfl;have d2:=((B21t.out.nx (Ex.refl wt).drew).nxb hg21b hSw).cell 2 _ rfl;go_simp);(try with_reducible rfl)
         refine tkH 3 (v:=?_) rfl (by kernel_rfl) (fun _ _ _ h=>h) (by rfl) ?hyr2x3 (by assumption) ?restr2x3
         case hyr2x3=>intro wq hSw;(go_simp);(try with_reducible rfl)
         refine tkH 4 (v:=?_) rfl (by kernel_rfl) (fun _ _ _ h=>h) (by rfl) ?hyr2x4 (by assumption) ?restr2x4
         case hyr2x4=>intro wq hSw;(go_simp);(try with_reducible rfl)
         refine tkH 5 (v:=?_) rfl (by kernel_rfl) (fun _ _ _ h=>h) (by rfl) ?hyr2x5 (by assumption) ?restr2x5
         case hyr2x5=>intro wq hSw;(go_simp);(try with_reducible rfl)
         refine tkH 6 (v:=?_) rfl (by kernel_rfl) (fun _ _ _ h=>h) (by rfl) ?hyr2x6 (by assumption) ?restr2x6
         case hyr2x6=>intro wq hSw;(go_simp);(try with_reducible rfl)
         refine tkH 11 (v:=?_) rfl (by kernel_rfl) (fun _ _ _ h=>h) (by rfl) ?hyr2x11 (by assumption) ?restr2x11
         case hyr2x11=>intro wq hSw;(go_simp);(try with_reducible rfl)
         refine rH 7 (by kernel_rfl) rfl fun K hK=>?_
         go_simp
         refine (next_t (q:Int) _ (TT.out.nx (Ex.refl wt).drew) hq1I (by omega)).mono ?_
         rintro e z1 ⟨r,rfl,r0,r1,T5,k5⟩
         obtain ⟨j,rfl⟩:=Int.eq_ofNat_of_zero_le r0
         have hjq:j<q:=by omega
         have KZ:=lH (((Ex.refl wt).drew.b b).nxb k5)
         obtain ⟨x5,o5,y,rfl,hx5,hy,hc5⟩:=Rd.at (SAH.out.nxb KZ.out) hjq
         have e0:z1.cell? ⟨x5,o5+j*3,none⟩=some (.int .i64 y.id):=hc5 0 _ rfl
         have YM:=lH (List.mem_of_getElem? hy)
         clear hc5 hy r0 r1
         refine hK.out _ _ k5 (fun _=>?_)
         clear hK K
         refine wpAnyH_switch (S':=Exb b z1) (fun _ hSw=>Exb.nxb k5 hSw) ?_
         clear hHeld
         have hHeld:=Exb.refl b z1
         refine tkH 8 (v:=?_) rfl (by kernel_rfl) (fun _ _ _ h=>h) (by rfl) ?hyr2x8 (by assumption) ?restr2x8
         case hyr2x8=>intro wq hSw;(go_simp);(try with_reducible rfl)
         refine tkH 9 (v:=?_) rfl (by kernel_rfl) (fun _ _ _ h=>h) (by rfl) ?hyr2x9 (by assumption) ?restr2x9
         case hyr2x9=>intro wq hSw;(go_simp);(try with_reducible rfl)
         refine tkH 10 (v:=?_) rfl (by kernel_rfl) (fun _ _ _ h=>h) (by rfl) ?hyr2x10 (by assumption) ?restr2x10
         case hyr2x10=>intro wq hSw;(have cq:=Chg.cellv hSw e0 hx5;go_simp);(try with_reducible rfl)
         refine rH 12 (by kernel_rfl) rfl fun K hK=>?_
         go_simp
         (with_reducible refine (insert_p _ _ _ A _ _ _ RB d.1 y.id (hh:Int) _ (SAH.out.nxb KZ.out).sl (by omega) hcR hmR AWD.out DWD.out (TGt.out.nxb hgt KZ.out) (LOH.out.nxb KZ.out).rd (by omega) (fun d hd=>Nat.le_trans (BSB.out d hd) (by omega))).mono ?_)
         rintro e z2 ⟨v11,q11,rfl,own11,k6⟩
         obtain ⟨ti,hins⟩:=HINS.out y.id (by rw [find_in ACH.out YM.out])
         rw [hins] at own11 ⊢
         refine hK.out _ _ (k6.b b) (fun _=>?_)
         clear hK K
         refine wpAnyH_switch (S':=Exb b z2) (fun _ hSw=>Exb.nxb (k6.b b) hSw) ?_
         clear hHeld
         have hHeld:=Exb.refl b z2
         refine tkH 13 (v:=?_) rfl (by kernel_rfl) (fun _ _ _ h=>h) (by rfl) ?hyr2x13 (by assumption) ?restr2x13
         case hyr2x13=>intro wq hSw;(go_simp);(try with_reducible rfl)
         refine tkH 14 (v:=?_) rfl (by kernel_rfl) (fun _ _ _ h=>h) (by rfl) ?hyr2x14 (by assumption) ?restr2x14
         case hyr2x14=>intro wq hSw;(go_simp);(try with_reducible rfl)
         refine tkH 15 (v:=?_) rfl (by kernel_rfl) (fun _ _ _ h=>h) (by rfl) ?hyr2x15 (by assumption) ?restr2x15
         case hyr2x15=>intro wq hSw;(go_simp);(try with_reducible rfl)
         refine tkH 16 (v:=?_) rfl (by kernel_rfl) (fun _ _ _ h=>h) (by rfl) ?hyr2x16 (by assumption) ?restr2x16
         case hyr2x16=>intro wq hSw;(go_simp);(try with_reducible rfl)
         refine tkH 17 (v:=?_) rfl (by kernel_rfl) (fun _ _ _ h=>h) (by rfl) ?hyr2x17 (by assumption) ?restr2x17
         case hyr2x17=>intro wq hSw;(go_simp);(try with_reducible rfl)
         refine tkH 18 (v:=?_) rfl (by kernel_rfl) (fun _ _ _ h=>h) (by rfl) ?hyr2x18 (by assumption) ?restr2x18
         case hyr2x18=>intro wq hSw;(go_simp);(try with_reducible rfl)
         refine wpAnyH_done (by kernel_rfl) ?_ _
         have KZ2:=lH (KZ.out.nxb (k6.b b))
         obtain ⟨aP,cP,rfl,LP⟩:=own11.nlb (b:=b) T5.lt
         have LPH:=lH (show LkX b z2 aP LRN.length LRN from LP)
         have T6:=lH (T5.nx k6)
         have KX2:=lH ((KX.out.nxb (KT.out.b b)).nxb KZ2.out)
         have S62:=lH (S6t.out.nxb KZ2.out)
         have HF2:=lH (HFt.out.nxb KZ2.out)
         clear T5 k5 k6 own11 LP hins e0 hx5 hjq
         go_wp2_with fail
         (with_reducible refine (exact_p _ _ _ (res.map Prod.fst) _ _ _ LRN (hh:Int) _ S62.out.sl (by omega) hc6 hm6 WR.out (T10.out.nxb hgt KX2.out) LPH.out.rd (by omega) (fun d hd=>Nat.le_trans (BSN.out d hd) (by omega))).mono ?_)
         rintro e z3 ⟨rfl,kk⟩
         rw [EX.out]
         have S63:=lH (S62.out.nxb (kk.b b))
         have K3:=lH kk
         clear kk
         go_wp2_with fail
         (with_reducible refine (check_p _ _ _ (res.map Prod.fst) _ S63.out.sl (by omega) hc6 hm6).mono ?_)
         rintro e z4 ⟨rfl,kk⟩
         rw [MB.out.inv.check H0.out]
         have K4:=lH (K3.out.nx kk)
         have NXT:=lH (show TbmRel b y0 L R hh (.slice a5 L.length c5) (.slice aP LRN.length cP) (.int .i64 0) (.int .i64 ((k:Int)+1)) z4 from
          ⟨k+1,res,a5,c5,LRN,aP,cP,rfl,rfl,rfl,by go_num,HF2.out.nxb (K4.out.b b),MB.out.inv,LPH.out.nxb (K4.out.b b),HLRN.out,by have h1:=MB.out.pot;have h2:=HPOT.out;omega,T6.out.nx K4.out,KX2.out.nxb (K4.out.b b)⟩)
         clear kk
         go_wp2_with fail
         exact ⟨NXT.out,by simp [intOf];omega⟩
end Go.Proofs.YthcholmhmcpooaaGreatDoor
/-
 TopBalance returns true for every list of numbers,and leaves its arguments as they were.
 Condition: the table of math/bits and the letters of the keys are as the program text lays them (tied by the card).
-/
namespace Go.Proofs.YthcholmhmcpooaaGreatDoor
open Go.RowKit
open Go.ChangeShapes Go.WideShapes Go.ChangeAt Go.RowKit Go.Deep Go.Joins
open Go.ChangeMaps (open_string shut_string)
set_option linter.unusedVariables false
theorem Tryz.cellsInt:Tryz.prog.cellsOf 3=1:=by kernel_rfl
set_option maxRecDepth 100000 in
set_option maxHeartbeats 1000000 in
theorem topBalance_lifted (os:Os) (started:os.Started) (H:Type) (enc:TypeId×Value→H) :
  ReturnsInHanded {} Tryz.checked os 7 .any (fun w args=>(Rows.topBalanceSpec.pre enc Tryz.prog Tryz.f7 [] false w args∧laidMetH Tryz.prog Rows.topBalanceRow.laid w)∧sizedMet enc Tryz.prog Tryz.f7 (OpenSpec.ofChange Rows.topBalanceSpec) false w args)
   (Rows.topBalanceSpec.post enc Tryz.prog Tryz.f7 false true false false):=by
 refine returnsInHanded_of_change_and (C:=Tryz.checked) (X:=fun w _=>laidMetH Tryz.prog Rows.topBalanceRow.laid w) (fun _ _ _ hh h=>h.of_heap hh) own started (by kernel_rfl) Tryz.func7
  (ChangeSpec.witness_shaped (enc:=enc) (C:=Tryz.checked) (os:=os) (X:=fun w _=>laidMetH Tryz.prog Rows.topBalanceRow.laid w) false (World.doorLaid Tryz.prog 400 os) #[.slice none 0 0] 8 rfl (World.shaped_of_RefB (by kernel_rfl) (by kernel_rfl)) (by kernel_rfl) (by kernel_rfl) (by kernel_rfl) (laidMetH_of_parts3 (fuel:=8) (laidMet_of_run' 8 (by kernel_rfl) (by kernel_rfl)) (by kernel_rfl) (by kernel_rfl))) ?_
 intro W base args ds gs before hval0 hW _ _ hL _
 have hval:∀ (j:Nat) t v,Tryz.f7.params[j]?=some t→args[j]?=some v→Value.okWide Tryz.prog W .any base t v:=hval0
 have hW':=hW
 obtain ⟨p,q,hA0,hV,rfl,hfz,hnd⟩:=hW
 have hA:DataW.TrodAll enc Tryz.prog W 0 (fun _=>true) true Tryz.f7.params.toList args.toList ds p:=hA0
 rw [Tryz.params7] at hA hval
 obtain ⟨v0,vs0,d0,ds0,p0,q0,hargs,rfl,rfl,h0,r0⟩:=trodAll_cons hA
 obtain ⟨rfl,rfl,rfl⟩:=trodAll_nil r0
 obtain rfl:args=#[v0]:=by cases args;simp_all
 obtain ⟨rfl,rfl⟩:=trodVars_none hV
 have k0:=h0
 have lt0:∀ x∈p0,x.block<W.heap.size:=by obtain ⟨m,hm⟩:=k0;exact DataW.trod_lt m _ _ _ hm
 obtain ⟨A0,n0,cap0,l0,rfl,rd0,hc0,hm0,wf0,nl0⟩:=rd_ints Tryz.underlying22 Tryz.underlying3 Tryz.cellsInt (hval 0 22 v0 rfl rfl) h0
 clear hA0 hval0
 have hT:TabG W:=tabG_of hL (by kernel_rfl)
 have hL2:LetG W:=letG_second hL (by kernel_rfl) (by kernel_rfl)
 refine (topbalance_walk A0 n0 cap0 l0 W rd0 hc0 hm0 hT hL2).mono fun e W' ⟨he,hch⟩=>?_
 have bel:Below W.heap.size W W':=hch.below (fun _ h=>h)
 subst he
 exact ⟨_,rfl,_,_,_,[],_,[],hW',trodAll_mk1 (shut_bool Tryz.underlying4 _),(trodAll_cons_mk (Below.trod laidOut (by kernel_rfl) (of_decide_eq_true (by kernel_rfl)) k0 bel lt0) trodAll_mk0),rfl,bel.frame _,fun h=>by cases h⟩
theorem topBalance_over:Rows.topBalanceRow.holds Tryz.pinned (OpenSpec.ofChange Rows.topBalanceSpec) :=
 OpenClaim.holds_of_wide 7 Tryz.f7 rfl rfl rfl rfl rfl rfl rfl ⟨rfl,rfl,rfl,rfl,rfl⟩ rfl rfl rfl rfl rfl (by kernel_rfl) Tryz.func7 (by kernel_rfl)
  (of_decide_eq_true (by kernel_rfl)) (by unfold Func.isWrapper;first | (rw [if_pos (by decide +kernel)];kernel_rfl) | (rw [if_neg (by decide +kernel)];exact ⟨rfl,rfl⟩))
  (fun os started H enc _=>topBalance_lifted os started H enc)
theorem TopBalance_holds:Rows.TopBalanceCardSaid :=
 Claim7.holds_tied_plain_at .later [] [.data, .data] true (true, "bea4d03cc20eaf986630eb777e7bfa9e7601f9278fe4c67cc1bf42749c60bd93") false
  topBalance_over (fun _ h=>by cases h) (by kernel_rfl) (fun _ h=>by cases h) topBalance_row_tie rfl ⟨rfl,rfl⟩ (by kernel_rfl) rfl
  (fun f fn hf hfn=>by
   obtain rfl : f = 7 := Option.some.inj ((show Tryz.prog.funcNamed "skipgraph/skipgraphtop.TopBalance" = some 7 by kernel_rfl).symm.trans hf) |>.symm
   obtain rfl:fn=Tryz.f7:=(Option.some.inj (Tryz.func7.symm.trans hfn)).symm
   exact ⟨by kernel_rfl,fun j t ht=>by
    rw [Tryz.params7] at ht
    have hm:t∈[22]:=by simpa using Array.mem_of_getElem? ht
    have hall:([22].all fun u=>!Tryz.prog.wantsStandIn u)=true:=by kernel_rfl
    exact (show Tryz.prog.wantsStandIn t=false by simpa using List.all_eq_true.1 hall t hm)⟩)
  (by kernel_rfl)
#print axioms TopBalance_holds
end Go.Proofs.YthcholmhmcpooaaGreatDoor
