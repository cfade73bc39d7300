/- Texts for TopBalanceProof. -/
import Derived.Test.YthcholmhmcpooaaGreatDoorTopBalanceProofL24
set_option linter.unusedSimpArgs false
set_option linter.unusedVariables false

namespace Go.Proofs.YthcholmhmcpooaaGreatDoor
open Go.RowKit
def MvRel (H:List Hg) (w:World) (al i:Value) (wr:World):Prop:=∃ k:Nat,k≤H.length∧al=.int .i64 ((loadsH (H.take k)).sum:Int)∧i=.int .i64 k∧Ex w wr
theorem rgM {w w':World} (h:Ex w.drew w'):Ex w w':=(Ex.refl w).drew.nx h
set_option maxRecDepth 100000 in
set_option maxHeartbeats 8000000 in
theorem mvalid_p (a:Option Addr) (n c:Nat) (H:List Hg) (N0:List Nd) (R:List Rw) (w:World) (h:HdL w (a,n,c) H) (hi:InvB (N0.map iwN) R H) (h0:checkN N0=0) (hR:TblOk R) :
  Calls Tryz.prog 56 #[.slice a n c] w fun e w'=>e=.returned (.bool true)∧Ex w w':=by
 have hHn:H.length=n:=h.len
 have hn64:n≤64:=by
  have h1:=hi.len
  rw [List.length_map] at h1
  have:N0.length≤64:=by
   unfold checkN at h0
   split at h0
   ·omega
   ·omega
  omega
 have HS:=lH h
 have INV:=lH hi
 have HR:=lH hR
 have C0:=lH (hi.check h0)
 have SO:=lH (hi.sort h0)
 have hRl:=hR.2.2
 have HSUM:=lH (fun k=>hi.sum k)
 clear h hi hR h0
 go_enter Tryz.func56,Tryz.ntmps56
 go_wp2_with fail
 (with_reducible refine (nodes_m _ _ _ H _ HS.out (by omega)).mono ?_)
 rintro e w1 ⟨v,rfl,own,kk⟩
 obtain ⟨aS,cS,rfl,rS,hcS,hmS⟩:=own.sl3 (fun _=>rfl)
 obtain ⟨S,hS⟩:∃ S,S=H.map Prod.fst:=⟨_,rfl⟩
 rw [← hS] at rS hcS C0 SO ⊢
 have hSn:S.length=n:=by rw [hS,List.length_map];exact hHn
 rw [hSn] at rS hcS ⊢
 have HSE:=lH hS
 have RS:=lH (fun wq (kq:Ex w1 wq)=>rS.nx kq)
 have K1:=lH kk
 clear own rS kk hS
 go_wp2_with fail
 (with_reducible refine (check_p _ _ _ S _ (RS.out _ (Ex.refl _)) (by omega) hcS hmS).mono ?_)
 rintro e w2 ⟨rfl,kk⟩
 rw [C0.out]
 have K2:=lH kk
 clear kk
 go_wp2_with fail
 go_loopw [4,16] (fun al i wr=>MvRel H w2 al i wr) (fun _ i _=>n-(intOf i).toNat)
 case atStart=>exact ⟨0,by omega,rfl,rfl,Ex.refl _⟩
 case round =>
  obtain ⟨k,hk,rfl,rfl,kw⟩:=hrel
  obtain ⟨wi,rfl⟩:∃ wi:World,wi=wr:=⟨_,rfl⟩
  have KW:=lH kw
  by_cases hkn:k<n
  ·obtain ⟨x,oo,a',n',c',d,he,hx,hd,e0,e1,e2,e3,hr⟩:=(HdL.nx HS.out (K1.out.nx (K2.out.nx kw))).at (show k<H.length by omega)
   simp only at he
   subst he
   have hn':d.2.length=n':=hr.len
   subst hn'
   have HD:=lH hd
   have HRW:=lH hr
   have TB:=lH (INV.out.tbl HR.out (List.mem_of_getElem? hd))
   have FL:=lH (INV.out.flt hd)
   have RG:=lH (INV.out.rg hd)
   obtain ⟨_,t2,hdl⟩:=TB.out
   have TKY:=lH (fun r hr=>(t2 r hr).1)
   clear t2
   have SK:Hid (S[k]?=some d.1):=lH (by rw [HSE.out,List.getElem?_map,hd];rfl)
   have hs1:=HSUM.out (k+1)
   have HTK:=lH (take_snocH hd)
   have hsk:(loadsH (H.take (k+1))).sum=(loadsH (H.take k)).sum+d.2.length:=by rw [HTK.out];unfold loadsH;rw [List.map_append,List.sum_append];simp
   have HSK:=lH hsk
   have hs2:(loadsH (H.take k)).sum+d.2.length≤1024:=by omega
   clear kw hr hd hs1 hsk
   have B6:=Blk.new wi [.int .i64 d.1.id,.string d.1.key,.int .u32 d.1.word,.slice a' d.2.length c'] 91
   have kk:=Ex.new wi (.cells #[.int .i64 d.1.id,.string d.1.key,.int .u32 d.1.word,.slice a' d.2.length c'] 91)
   obtain ⟨w3,hw3⟩:∃ w3,w3=wi.alloc (.cells #[.int .i64 d.1.id,.string d.1.key,.int .u32 d.1.word,.slice a' d.2.length c'] 91):=⟨_,rfl⟩
   obtain ⟨g6,hg6⟩:∃ g6,g6=wi.heap.size:=⟨_,rfl⟩
   replace B6:Blk w3 g6 [.int .i64 d.1.id,.string d.1.key,.int .u32 d.1.word,.slice a' d.2.length c'] 91:=by rw [hw3,hg6];exact B6
   rw [← hw3] at kk
   have Hw3:=lH hw3
   have Hg6:=lH hg6
   have K3:=lH kk
   have B6H:=lH B6
   have HRW3:=lH (RowL.nx HRW.out kk)
   clear kk hw3 hg6 B6
   go_upto_region 7 with fail
   rw [← Hg6.out,← Hw3.out]
   clear Hg6 Hw3
   clear e0 e1 e2 e3
   obtain ⟨sm,hsm⟩:∃ sm:Nat,sm=(loadsH (H.take k)).sum:=⟨_,rfl⟩
   rw [← hsm] at hs2 HSK ⊢
   have wsm:IntKind.i64.wrap ((sm:Int)+(d.2.length:Int))=((sm+d.2.length:Nat):Int):=by rw [IntWalk.i64_in _ (by omega)];push_cast;rfl
   have WSM:=lH wsm
   clear hsm wsm
   go_cut [34] from 21 to 67 (fun v wx=>v=.bool false∧Ex w3 wx)
   case first =>
    by_cases hk0:k=0
    ·have d0:¬ (k:Int)>0:=by omega
     subst hk0
     refine wp_region_held_drew (S:=Ex w3.drew) (by kernel_rfl) (Ex.refl _) (fun hHeld=>?_)
     refine tkH 0 (v:=?_) rfl (by kernel_rfl) (fun _ _ _ h=>h) (by rfl) ?hyr1x0 (by assumption) ?restr1x0
     case hyr1x0=>intro wq hSw;(go_simp);(try with_reducible rfl)
     try simp only [Act.put,sA,sB,sC]
     refine tkH 1 (v:=?_) rfl (by kernel_rfl) (fun _ _ _ h=>h) (by rfl) ?hyr1x1 (by assumption) ?restr1x1
     case hyr1x1=>intro wq hSw;(go_simp);(try with_reducible rfl)
     try simp only [Act.put,sA,sB,sC]
     refine tkH 2 (v:=?_) rfl (by kernel_rfl) (fun _ _ _ h=>h) (by rfl) ?hyr1x2 (by assumption) ?restr1x2
     case hyr1x2=>intro wq hSw;(go_simp);(try with_reducible rfl)
     try simp only [Act.put,sA,sB,sC]
     refine wpAnyH_take (i:=3) (oi:=⟨_,_,_,_,_,_⟩) (v:=undef) rfl (by kernel_rfl) (by kernel_rfl) (by kernel_rfl) (fun _ _ _ h=>h) (Or.inr ⟨by rfl,rfl⟩) (by assumption) ?_
     try simp only [Act.put,sA,sB,sC]
     refine wpAnyH_take (i:=4) (oi:=⟨_,_,_,_,_,_⟩) (v:=undef) rfl (by kernel_rfl) (by kernel_rfl) (by kernel_rfl) (fun _ _ _ h=>h) (Or.inr ⟨by rfl,rfl⟩) (by assumption) ?_
     try simp only [Act.put,sA,sB,sC]
     refine wpAnyH_take (i:=5) (oi:=⟨_,_,_,_,_,_⟩) (v:=undef) rfl (by kernel_rfl) (by kernel_rfl) (by kernel_rfl) (fun _ _ _ h=>h) (Or.inr ⟨by rfl,rfl⟩) (by assumption) ?_
     try simp only [Act.put,sA,sB,sC]
     refine wpAnyH_take (i:=6) (oi:=⟨_,_,_,_,_,_⟩) (v:=undef) rfl (by kernel_rfl) (by kernel_rfl) (by kernel_rfl) (fun _ _ _ h=>h) (Or.inr ⟨by rfl,rfl⟩) (by assumption) ?_
     try simp only [Act.put,sA,sB,sC]
     refine wpAnyH_take (i:=7) (oi:=⟨_,_,_,_,_,_⟩) (v:=undef) rfl (by kernel_rfl) (by kernel_rfl) (by kernel_rfl) (fun _ _ _ h=>h) (Or.inr ⟨by rfl,rfl⟩) (by assumption) ?_
     try simp only [Act.put,sA,sB,sC]
     refine wpAnyH_take (i:=8) (oi:=⟨_,_,_,_,_,_⟩) (v:=undef) rfl (by kernel_rfl) (by kernel_rfl) (by kernel_rfl) (fun _ _ _ h=>h) (Or.inr ⟨by rfl,rfl⟩) (by assumption) ?_
     try simp only [Act.put,sA,sB,sC]
     refine wpAnyH_take (i:=9) (oi:=⟨_,_,_,_,_,_⟩) (v:=undef) rfl (by kernel_rfl) (by kernel_rfl) (by kernel_rfl) (fun _ _ _ h=>h) (Or.inr ⟨by rfl,rfl⟩) (by assumption) ?_
     try simp only [Act.put,sA,sB,sC]
     refine wpAnyH_take (i:=10) (oi:=⟨_,_,_,_,_,_⟩) (v:=undef) rfl (by kernel_rfl) (by kernel_rfl) (by kernel_rfl) (fun _ _ _ h=>h) (Or.inr ⟨by rfl,rfl⟩) (by assumption) ?_
     try simp only [Act.put,sA,sB,sC]
     refine wpAnyH_take (i:=11) (oi:=⟨_,_,_,_,_,_⟩) (v:=undef) rfl (by kernel_rfl) (by kernel_rfl) (by kernel_rfl) (fun _ _ _ h=>h) (Or.inr ⟨by rfl,rfl⟩) (by assumption) ?_
     try simp only [Act.put,sA,sB,sC]
     refine wpAnyH_take (i:=12) (oi:=⟨_,_,_,_,_,_⟩) (v:=undef) rfl (by kernel_rfl) (by kernel_rfl) (by kernel_rfl) (fun _ _ _ h=>h) (Or.inr ⟨by rfl,rfl⟩) (by assumption) ?_
     try simp only [Act.put,sA,sB,sC]
     refine tkH 13 (v:=?_) rfl (by kernel_rfl) (fun _ _ _ h=>h) (by rfl) ?hyr1x13 (by assumption) ?restr1x13
     case hyr1x13=>intro wq hSw;(go_simp);(try with_reducible rfl)
     try simp only [Act.put,sA,sB,sC]
     refine wpAnyH_done (by kernel_rfl) ?_ _
     have CUT:=lH (show Ex w3 w3.drew from (Ex.refl w3).drew)
     go_wp2_with fail
     go_meet
     exact ⟨rfl,CUT.out⟩
    ·have d0:(k:Int)>0:=by omega
     have dq1:decide ((0:Int)<(k:Int))=true:=by simp;omega
     have dq2:decide (0<k)=true:=by simp;omega
     have hk1:k-1<H.length:=by omega
     obtain ⟨y,hy⟩:∃ y,H[k-1]?=some y:=⟨_,List.getElem?_eq_getElem hk1⟩
     have hlt:Op.bytesLess y.1.key.toList d.1.key.toList=true:=INV.out.next hy (by rw [show k-1+1=k by omega];exact HD.out)
     have hy1:S[k-1]?=some y.1:=by rw [HSE.out,List.getElem?_map,hy];rfl
     obtain ⟨xs,os,z,hse,hxs,hz,hcz⟩:=(RS.out _ (K2.out.nx (KW.out.nx K3.out))).at (show k-1<n by omega)
     rw [hy1] at hz
     cases hz
     have pc:w3.cell? ⟨xs,os+(k-1)*3+1,none⟩=some (.string y.1.key):=hcz 1 _ rfl
     have PC:=lH (fun wq (kq:Ex w3 wq)=>kq.cellv pc hxs)
     obtain ⟨k1,hk1e⟩:∃ k1,k1=k-1:=⟨_,rfl⟩
     rw [← hk1e] at PC
     subst hse
     have wk1:IntKind.i64.wrap ((k:Int)-1)=(k1:Int):=by rw [IntWalk.i64_in _ (by omega)];omega
     have hk1n:(k1:Int)<(n:Int):=by omega
     clear hy hk1 hk1e hk0 hy1 hcz pc hxs
     refine wp_region_held_drew (S:=Ex w3.drew) (by kernel_rfl) (Ex.refl _) (fun hHeld=>?_)
     refine tkH 0 (v:=?_) rfl (by kernel_rfl) (fun _ _ _ h=>h) (by rfl) ?hyr2x0 (by assumption) ?restr2x0
     case hyr2x0=>intro wq hSw;(go_simp);(try with_reducible rfl)
     try simp only [Act.put,sA,sB,sC]
     refine tkH 1 (v:=?_) rfl (by kernel_rfl) (fun _ _ _ h=>h) (by rfl) ?hyr2x1 (by assumption) ?restr2x1
     case hyr2x1=>intro wq hSw;(go_simp);(try with_reducible rfl)
     try simp only [Act.put,sA,sB,sC]
     refine tkH 2 (v:=?_) rfl (by kernel_rfl) (fun _ _ _ h=>h) (by rfl) ?hyr2x2 (by assumption) ?restr2x2
     case hyr2x2=>intro wq hSw;(go_simp);(try with_reducible rfl)
     try simp only [Act.put,sA,sB,sC]
     refine tkH 3 (v:=?_) rfl (by kernel_rfl) (fun _ _ _ h=>h) (by rfl) ?hyr2x3 (by assumption) ?restr2x3
     case hyr2x3=>intro wq hSw;(go_simp);(try with_reducible rfl)
     try simp only [Act.put,sA,sB,sC]
     refine tkH 4 (v:=?_) rfl (by kernel_rfl) (fun _ _ _ h=>h) (by rfl) ?hyr2x4 (by assumption) ?restr2x4
     case hyr2x4=>intro wq hSw;(go_simp);(try with_reducible rfl)
     try simp only [Act.put,sA,sB,sC]
     refine tkH 5 (v:=?_) rfl (by kernel_rfl) (fun _ _ _ h=>h) (by rfl) ?hyr2x5 (by assumption) ?restr2x5
     case hyr2x5=>intro wq hSw;(go_simp);(try with_reducible rfl)
     try simp only [Act.put,sA,sB,sC]
     refine tkH 6 (v:=?_) rfl (by kernel_rfl) (fun _ _ _ h=>h) (by rfl) ?hyr2x6 (by assumption) ?restr2x6
     case hyr2x6=>intro wq hSw;(go_simp);(try with_reducible rfl)
     try simp only [Act.put,sA,sB,sC]
     refine tkH 7 (v:=?_) rfl (by kernel_rfl) (fun _ _ _ h=>h) (by rfl) ?hyr2x7 (by assumption) ?restr2x7
     case hyr2x7=>intro wq hSw;(go_simp);(try with_reducible rfl)
     try simp only [Act.put,sA,sB,sC]
     refine tkH 8 (v:=?_) rfl (by kernel_rfl) (fun _ _ _ h=>h) (by rfl) ?hyr2x8 (by assumption) ?restr2x8
     case hyr2x8=>intro wq hSw;(have cq:=PC.out _ (rgM hSw);go_simp);(try with_reducible rfl)
     try simp only [Act.put,sA,sB,sC]
     refine tkH 9 (v:=?_) rfl (by kernel_rfl) (fun _ _ _ h=>h) (by rfl) ?hyr2x9 (by assumption) ?restr2x9
     case hyr2x9=>intro wq hSw;(go_simp);(try with_reducible rfl)
     try simp only [Act.put,sA,sB,sC]
     refine tkH 10 (v:=?_) rfl (by kernel_rfl) (fun _ _ _ h=>h) (by rfl) ?hyr2x10 (by assumption) ?restr2x10
     case hyr2x10=>intro wq hSw;(go_simp);(try with_reducible rfl)
     try simp only [Act.put,sA,sB,sC]
     refine tkH 11 (v:=?_) rfl (by kernel_rfl) (fun _ _ _ h=>h) (by rfl) ?hyr2x11 (by assumption) ?restr2x11
     case hyr2x11=>intro wq hSw;(have cq:=(B6H.out.nx (rgM hSw)).cell 1 _ rfl;go_simp);(try with_reducible rfl)
     try simp only [Act.put,sA,sB,sC]
     refine tkH 12 (v:=?_) rfl (by kernel_rfl) (fun _ _ _ h=>h) (by rfl) ?hyr2x12 (by assumption) ?restr2x12
     case hyr2x12=>intro wq hSw;(go_simp);(try with_reducible rfl)
     try simp only [Act.put,sA,sB,sC]
     refine tkH 13 (v:=?_) rfl (by kernel_rfl) (fun _ _ _ h=>h) (by rfl) ?hyr2x13 (by assumption) ?restr2x13
     case hyr2x13=>intro wq hSw;(go_simp);(try with_reducible rfl)
     try simp only [Act.put,sA,sB,sC]
     refine wpAnyH_done (by kernel_rfl) ?_ _
     have CUT:=lH (show Ex w3 w3.drew from (Ex.refl w3).drew)
     go_wp2_with fail
     go_meet
     exact ⟨rfl,CUT.out⟩
   case rest =>
    rename World=>w4
    obtain ⟨rfl,hcut⟩:=hcut
    have K4:=lH hcut
    clear hcut
    have q0:=(B6H.out.nx K4.out).cell 0 _ rfl
    go_wp2_with fail
    (with_reducible refine (interval_p aS n cS S d.1 k _ (RS.out _ (K2.out.nx (KW.out.nx (K3.out.nx K4.out)))) (by omega) hcS hmS C0.out (by rw [SO.out];exact SK.out)).mono ?_)
    rintro e w5 ⟨rfl,kk⟩
    rw [SO.out]
    rw [← HSE.out] at RG FL
    obtain ⟨lo,hlo⟩:∃ lo,lo=loI S k:=⟨_,rfl⟩
    obtain ⟨⟨hi,top⟩,hhi⟩:∃ h,h=hiI S k:=⟨_,rfl⟩
    rw [← hlo,← hhi] at RG FL ⊢
    have RG:Hid (RgOk lo hi top):=RG
    have FL:Hid ((d.2.filter fun r=>hasV lo hi top r.1)=d.2):=FL
    simp only
    have K5:=lH (K4.out.nx kk)
    clear kk q0 hlo hhi
    have B7:=Blk.new w5 [.string lo,.bool false,.string hi,.bool top] 45
    have kk:=Ex.new w5 (.cells #[.string lo,.bool false,.string hi,.bool top] 45)
    obtain ⟨w6,hw6⟩:∃ w6,w6=w5.alloc (.cells #[.string lo,.bool false,.string hi,.bool top] 45):=⟨_,rfl⟩
    obtain ⟨g7,hg7⟩:∃ g7,g7=w5.heap.size:=⟨_,rfl⟩
    replace B7:Blk w6 g7 [.string lo,.bool false,.string hi,.bool top] 45:=by rw [hw6,hg7];exact B7
    rw [← hw6] at kk
    have Hw6:=lH hw6
    have Hg7:=lH hg7
    have K6:=lH (K5.out.nx kk)
    have B7H:=lH B7
    clear kk hw6 hg7 B7
    go_upto_region 10 with fail
    rw [← Hg7.out,← Hw6.out]
    clear Hg7 Hw6
    refine wp_region_held_drew (S:=Ex w6) (by kernel_rfl) ((Ex.refl w6).drew) (fun hHeld=>?_)
    obtain ⟨wd,hwdx⟩:∃ wd:World,wd=World.drew w6:=⟨_,rfl⟩
    rw [← hwdx] at hHeld ⊢
    have hDrew:Ex w6 wd:=by rw [hwdx];exact (Ex.refl w6).drew
    clear hwdx
    refine tkH 0 (v:=?_) rfl (by kernel_rfl) (fun _ _ _ h=>h) (by rfl) ?y5 hHeld ?_
    case y5=>intro wq hSw;go_simp<;>rfl
    try simp only [Act.put,sA,sB,sC]
    refine tkH 1 (v:=?_) rfl (by kernel_rfl) (fun _ _ _ h=>h) (by rfl) ?y8 hHeld ?_
    case y8=>intro wq hSw;go_simp<;>rfl
    try simp only [Act.put,sA,sB,sC]
    refine tkH 2 (v:=?_) rfl (by kernel_rfl) (fun _ _ _ h=>h) (by rfl) ?y11 hHeld ?_
    case y11=>intro wq hSw;go_simp<;>rfl
    try simp only [Act.put,sA,sB,sC]
    refine tkH 3 (v:=?_) rfl (by kernel_rfl) (fun _ _ _ h=>h) (by rfl) ?y14 hHeld ?_
    case y14=>intro wq hSw;go_simp<;>rfl
    try simp only [Act.put,sA,sB,sC]
    refine tkH 4 (v:=?_) rfl (by kernel_rfl) (fun _ _ _ h=>h) (by rfl) ?y17 hHeld ?_
    case y17=>intro wq hSw;(have cq:=(B6H.out.nx (K6.out.nx hSw)).cell 3 _ rfl;go_simp)<;>rfl
    try simp only [Act.put,sA,sB,sC]
    refine rH 5 (by kernel_rfl) rfl fun K hK=>?_
    go_simp
    (with_reducible refine (tvalid_k a' d.2.length c' d.2 _ (RowL.nx HRW3.out (K6.out.nx hHeld)) TB.out).mono ?_)
    rintro e wa ⟨rfl,kk⟩
    replace hHeld:=hHeld.nx kk
    clear kk
    refine hK.out _ _ (hHeld) (fun hHeld=>?_)
    clear hK K
    try simp only [Act.put,sA,sB,sC]
    refine tkH 6 (v:=?_) rfl (by kernel_rfl) (fun _ _ _ h=>h) (by rfl) ?y30 hHeld ?_
    case y30=>intro wq hSw;go_simp<;>rfl
    try simp only [Act.put,sA,sB,sC]
    refine tkH 7 (v:=?_) rfl (by kernel_rfl) (fun _ _ _ h=>h) (by rfl) ?y33 hHeld ?_
    case y33=>intro wq hSw;go_simp<;>rfl
    try simp only [Act.put,sA,sB,sC]
    refine tkH 8 (v:=?_) rfl (by kernel_rfl) (fun _ _ _ h=>h) (by rfl) ?y36 hHeld ?_
    case y36=>intro wq hSw;go_simp<;>rfl
    try simp only [Act.put,sA,sB,sC]
    refine tkH 9 (v:=?_) rfl (by kernel_rfl) (fun _ _ _ h=>h) (by rfl) ?y39 hHeld ?_
    case y39=>intro wq hSw;go_simp<;>rfl
    try simp only [Act.put,sA,sB,sC]
    refine tkH 10 (v:=?_) rfl (by kernel_rfl) (fun _ _ _ h=>h) (by rfl) ?y42 hHeld ?_
    case y42=>intro wq hSw;(have cq:=(B6H.out.nx (K6.out.nx hSw)).cell 3 _ rfl;go_simp)<;>rfl
    try simp only [Act.put,sA,sB,sC]
    refine tkH 11 (v:=?_) rfl (by kernel_rfl) (fun _ _ _ h=>h) (by rfl) ?y45 hHeld ?_
    case y45=>intro wq hSw;(have c0:=(B7H.out.nx hSw).cell 0 _ rfl;have c1:=(B7H.out.nx hSw).cell 1 _ rfl;have c2:=(B7H.out.nx hSw).cell 2 _ rfl;have c3:=(B7H.out.nx hSw).cell 3 _ rfl;go_simp)<;>rfl
    try simp only [Act.put,sA,sB,sC]
    refine tkH 14 (v:=?_) rfl (by kernel_rfl) (fun _ _ _ h=>h) (by rfl) ?y48 hHeld ?_
    case y48=>intro wq hSw;go_simp<;>rfl
    try simp only [Act.put,sA,sB,sC]
    refine tkH 15 (v:=?_) rfl (by kernel_rfl) (fun _ _ _ h=>h) (by rfl) ?y51 hHeld ?_
    case y51=>intro wq hSw;(have cq:=(B6H.out.nx (K6.out.nx hSw)).cell 3 _ rfl;go_simp)<;>rfl
    try simp only [Act.put,sA,sB,sC]
    refine tkH 16 (v:=?_) rfl (by kernel_rfl) (fun _ _ _ h=>h) (by rfl) ?y54 hHeld ?_
    case y54=>intro wq hSw;go_simp<;>rfl
    try simp only [Act.put,sA,sB,sC]
    refine rH 12 (by kernel_rfl) rfl fun K hK=>?_
    go_simp
    (with_reducible refine (slice_k a' d.2.length c' d.2 lo hi top _ (RowL.nx HRW3.out (K6.out.nx hHeld)) (by omega) TKY.out RG.out).mono ?_)
    rintro e wb ⟨v,rfl,own,kk⟩
    rw [FL.out] at own
    obtain ⟨aV,cV,rfl,_⟩:=own.rowF
    replace hHeld:=hHeld.nx kk
    clear kk own
    refine hK.out _ _ (hHeld) (fun hHeld=>?_)
    clear hK K
    try simp only [Act.put,sA,sB,sC]
    refine tkH 13 (v:=?_) rfl (by kernel_rfl) (fun _ _ _ h=>h) (by rfl) ?y69 hHeld ?_
    case y69=>intro wq hSw;go_simp<;>rfl
    try simp only [Act.put,sA,sB,sC]
    refine tkH 17 (v:=?_) rfl (by kernel_rfl) (fun _ _ _ h=>h) (by rfl) ?y72 hHeld ?_
    case y72=>intro wq hSw;go_simp<;>rfl
    try simp only [Act.put,sA,sB,sC]
    refine tkH 18 (v:=?_) rfl (by kernel_rfl) (fun _ _ _ h=>h) (by rfl) ?y75 hHeld ?_
    case y75=>intro wq hSw;go_simp<;>rfl
    try simp only [Act.put,sA,sB,sC]
    refine wpAnyH_done (by kernel_rfl) ?_ _
    have K7:=lH (K6.out.nx hHeld)
    have q3:=(B6H.out.nx K7.out).cell 3 _ rfl
    have RR:=lH (show MvRel H w2 (.int .i64 ((sm+d.2.length:Nat):Int)) (.int .i64 ((k:Int)+1)) wb from ⟨k+1,by omega,by rw [HSK.out],by go_num,KW.out.nx (K3.out.nx K7.out)⟩)
    have wsm:=WSM.out
    clear hHeld hDrew
    go_wp2_with fail
    exact ⟨RR.out,by simp [intOf];omega⟩
  ·obtain rfl:k=n:=by omega
   have hs1:=HSUM.out k
   have KE:=lH (K1.out.nx (K2.out.nx kw))
   obtain ⟨sm,hsm⟩:∃ sm:Nat,sm=(loadsH (H.take k)).sum:=⟨_,rfl⟩
   rw [← hsm] at hs1 ⊢
   have hle:(sm:Int)≤1024:=by omega
   clear hsm kw hs1
   go_wp2_with fail
   go_ret
   exact ⟨rfl,KE.out⟩
theorem OwnW.hd0 {base:Nat} {w:World} {v:Value} {qs:List (Nd×Hdr)} (h:OwnW 4 (encP encN) 91 base w v qs) (hne:qs≠[]):∃ g c,v=.slice (some ⟨g,0,none⟩) qs.length c:=by
 rcases h with ⟨_,h⟩ | ⟨g,cap,cur,e,_⟩
 ·exact absurd h hne
 ·exact ⟨g,cap,e⟩
theorem RowR.mnx {base g:Nat} {w w':World} {hd:Hdr} {l:List Rw} (h:RowR (Mem base g w) w hd l) (k:Ex w w'):RowR (Mem base g w') w' hd l:=RowR.mono (RowR.chg h k (fun _ hx=>hx.2.1)) (fun _ hx=>Mem.ex k hx)
theorem RowR.mnb {base g:Nat} {w w':World} {hd:Hdr} {l:List Rw} (h:RowR (Mem base g w) w hd l) (k:Exb g w w'):RowR (Mem base g w') w' hd l:=RowR.mono (RowR.chg h k (fun _ hx=>⟨hx.2.1,hx.2.2.1⟩)) (fun _ hx=>⟨hx.1,Nat.lt_of_lt_of_le hx.2.1 k.size,hx.2.2.1,hx.2.2.2.chg k ⟨hx.2.1,hx.2.2.1⟩⟩)
theorem RowR.ml {base g:Nat} {w:World} {hd:Hdr} {l:List Rw} (h:RowR (Mem base g w) w hd l):RowL w hd l:=RowR.mono h (fun _ hx=>hx.2.1)
theorem RowR.cutm {S:Nat→Prop} {w:World} {x o n c m:Nat} {l:List Rw} (h:RowR S w (some ⟨x,o,none⟩,n,c) l) (hm:m≤n):RowR S w (some ⟨x,o,none⟩,m,m) (l.take m) :=
 ⟨Rd.take h.1 hm,Nat.le_refl _,by have h1:=h.2.1;have h2:=h.2.2.1;simp only at *;omega,fun e=>by cases e⟩
theorem RowR.fromm {S:Nat→Prop} {w:World} {x o n c m:Nat} {l:List Rw} (h:RowR S w (some ⟨x,o,none⟩,n,c) l) (hm:m≤n):RowR S w (some ⟨x,o+m*2,none⟩,n-m,c-m) (l.drop m) :=
 ⟨Rd.drop h.1 hm,by have h1:=h.2.1;simp only at *;omega,by have h2:=h.2.2.1;simp only at *;omega,fun e=>by cases e⟩
theorem MidX.rowM {base g n c:Nat} {w:World} {H:List Hg} (h:MidX base g n c w H) {hd:Hdr} {l:List Rw} (own:OwnL 2 encR 199 base w hd.val l):RowR (Mem base g w) w hd l:=by
 obtain ⟨ps,h1,_⟩:=h
 exact own.rowM h1 rfl
set_option maxRecDepth 100000 in
set_option maxHeartbeats 8000000 in
theorem shift_up (a:Option Addr) (n c:Nat) (H:List Hg) (N0:List Nd) (R:List Rw) (w:World) (h:HdL w (a,n,c) H) (hi:InvB (N0.map iwN) R H) (h0:checkN N0=0) (hR:TblOk R) (f cnt:Nat) (F T:Hg) (P Q:List Rw) (r:Rw)
  (hF:H[f]?=some F) (hT:H[f+1]?=some T) (hP:F.2=P++r::Q) (hP0:P≠[]) (hc:cnt=Q.length+1) :
  Calls Tryz.prog 49 #[.slice a n c,.int .i64 f,.int .i64 ((f:Int)+1),.int .i64 cnt] w fun e w'=>∃ g c',e=.returned (.tuple #[.slice (some ⟨g,0,none⟩) n c',.int .i64 0]) ∧
   HdF w w' (some ⟨g,0,none⟩,n,c') ((H.set f (F.1,P)).set (f+1) ({ T.1 with key:=r.1 },r::Q++T.2))∧Ex w w':=by
 have hHn:H.length=n:=h.len
 have hn64:n≤64:=by
  have h1:=hi.len
  rw [List.length_map] at h1
  have:N0.length≤64:=by
   unfold checkN at h0
   split at h0
   ·omega
   ·omega
  omega
 have hfn:=(List.getElem?_eq_some_iff.1 hT).1
 have TF:=hi.tbl hR (List.mem_of_getElem? hF)
 have TT:=hi.tbl hR (List.mem_of_getElem? hT)
 have hrs:r.1.size≤64:=(TF.2.1 r (by rw [hP];simp)).1
 have FIN:=lH (shift_upL hi hF hT hP hP0 hrs).inv.fst
 have hTl:=TT.2.2
 have hFl:=TF.2.2
 have HS:=lH h
 have IV:=lH hi
 have C0:=lH h0
 have HR:=lH hR
 have HALL:=lH (fun c (hc:c∈H)=>(show c.2.length≤100000 from by have:=(hi.tbl hR hc).2.2;omega))
 have HF:=lH hF
 have HT:=lH hT
 have HP:=lH hP
 have hpl:P.length+cnt=F.2.length:=by rw [hP,hc];simp
 have hcp:0<cnt:=by omega
 have HQ:Hid (Q.length+1=cnt):=lH hc.symm
 have hp0:0<P.length:=List.length_pos_iff.2 hP0
 clear h hi h0 hR TF TT hF hT hP hP0 hc
 go_enter Tryz.func49,Tryz.ntmps49
 go_wp2_with fail
 (with_reducible refine (mvalid_p a n c H N0 R _ HS.out IV.out C0.out HR.out).mono ?_)
 rintro e w1 ⟨rfl,kk⟩
 have K1:=lH kk
 clear kk
 go_wp2_with fail
 (with_reducible refine (copy_m a n c H _ (HS.out.nx K1.out) (by omega) HALL.out).mono ?_)
 rintro e w2 ⟨v,qs,rfl,OH,kk⟩
 have hqn:qs.length=n:=by rw [OH.2.1,hHn]
 obtain ⟨g,cg,rfl⟩:=OH.1.hd0 (by intro h;rw [h] at hqn;simp at hqn;omega)
 rw [hqn] at OH ⊢
 have MX:=MidX.of OH
 have K2:=lH kk
 have zg:=MX.fact.2.1
 obtain ⟨b0,hb0⟩:∃ b0,b0=w1.heap.size:=⟨_,rfl⟩
 rw [← hb0] at MX zg
 have ZB:Hid (w.heap.size≤b0):=lH (by rw [hb0];exact K1.out.size)
 have KK:=lH (K1.out.nx K2.out)
 have M2:=lH MX
 clear kk OH hqn MX hb0 K2
 go_wp2_with fail
 have h1n:f+1<n:=by omega
 have hfn':f<n:=by omega
 have D0:(cnt:Int)>0:=by omega
 have dk:decide ((0:Int)<(cnt:Int))=true:=by simp;omega
 have dk2:decide (0<cnt)=true:=by simp;omega
 have dneg:¬ (cnt:Int)<0:=by omega
 have dge:¬ (cnt:Int) ≥ (F.2.length:Int):=by omega
 have dkf:(f:Int)<(n:Int):=by omega
 have BS:=beside_p (some ⟨g,0,none⟩) n cg f (f+1) w2 (by omega) (by omega) (by omega) (.inl rfl)
 rw [show ((f+1:Nat):Int)=(f:Int)+1 from rfl] at BS
 (with_reducible refine BS.mono ?_)
 clear BS
 rintro e wa ⟨rfl,rfl⟩
 obtain ⟨hd',_,_,_,cq,⟨_,ff⟩,hd2,RF⟩:=M2.out.cells HF.out
 obtain ⟨aF,nF,cF⟩:=hd'
 simp only at hd2 RF cq
 subst hd2
 have hne:0<F.2.length:=by omega
 obtain ⟨x,o,_,e,_,_⟩:=RF.at hne
 simp only at e
 subst e
 have RFH:=lH RF
 have hcap:F.2.length≤cF:=RF.2.1
 have dup:(f:Int)+1>(f:Int):=by omega
 obtain ⟨p,hp⟩:∃ p,p=P.length:=⟨_,rfl⟩
 rw [← hp] at hpl hp0
 have hpw:IntKind.i64.wrap ((F.2.length:Int)-(cnt:Int))=(p:Int):=by rw [IntWalk.i64_in _ (by omega)];omega
 have HPE:=lH hp
 have hpF:p≤F.2.length:=by omega
 clear hp RF
 go_upto_region 12 with fail
 obtain ⟨w3,hw3⟩:∃ w3,w3=w2.setCell ⟨g,f*4+3,none⟩ (.slice (some ⟨x,o,none⟩) p p):=⟨_,rfl⟩
 rw [← hw3]
 obtain ⟨H1,hH1⟩:∃ H1,H1=H.set f (F.1,P):=⟨_,rfl⟩
 have PT:F.2.take p=P:=by rw [HP.out,HPE.out];simp
 have PD:F.2.drop p=r::Q:=by rw [HP.out,HPE.out];simp
 have PR:F.2[p]?=some r:=by rw [HP.out,HPE.out];simp
 have M3:=lH (show MidX b0 g n cg w3 H1 from by
  rw [hw3,hH1,← PT]
  exact M2.out.setRow HF.out (hdr:=(some ⟨x,o,none⟩,p,p)) (RFH.out.cutm hpF))
 have KB3:Exb g w2 w3:=by rw [hw3];exact (Exb.refl g w2).setB (p:=⟨g,f*4+3,none⟩) _ rfl
 have RF3:=lH (RFH.out.mnb KB3)
 have K3:=lH (show Ex w w3 from by rw [hw3];exact KK.out.setNew (p:=⟨g,f*4+3,none⟩) _ (by have:=ZB.out;show w.heap.size≤g;omega))
 have HT1:Hid (H1[f+1]?=some T):=lH (by rw [hH1,List.getElem?_set_ne (by omega)];exact HT.out)
 have PDH:=lH PD
 have PRH:=lH PR
 have FIN2:Hid (∃ d H',H1.set (f+1) ({ T.1 with key:=r.1 },r::Q++T.2)=d::H'∧d.1.key=⟨#[]⟩):=lH (by rw [hH1];exact FIN.out)
 have HH1:=lH hH1
 obtain ⟨hd',_,_,_,ct,_,hd2,RT⟩:=M3.out.cells HT1.out
 obtain ⟨aT,nT,cT⟩:=hd'
 simp only at hd2 RT ct
 subst hd2
 have RTH:=lH RT
 have zg3:g<w3.heap.size:=M3.out.fact.2.2.1
 have TC:=lH (fun wq (kq:Ex w3 wq)=>kq.cellv ct zg3)
 have hcF:F.2.length-p≤100000:=by omega
 have z3:b0≤w3.heap.size:=by omega
 clear hw3 hH1 KB3 PT PD PR ct RT cq ff dup hpw
 have dkt:(f:Int)+1<(n:Int):=by omega
 have dk0:(0:Int)≤(f:Int)+1:=by omega
 have hcFp:¬ cF=p:=by omega
 obtain ⟨LL,hLL⟩:∃ LL,LL=r::Q++T.2:=⟨_,rfl⟩
 have HLL:=lH hLL
 rw [← hLL] at FIN2
 clear hLL
 have RT3:Hid (RowR (Mem b0 g w3) w3 (aT,T.2.length,cT) T.2):=RTH
 refine wp_region_late_drew (S:=Ex w3) [11,14] (by kernel_rfl) ((Ex.refl w3).drew) (fun hHeld=>?_)
 obtain ⟨wd,hwdx⟩:∃ wd:World,wd=World.drew w3:=⟨_,rfl⟩
 rw [← hwdx] at hHeld ⊢
 have hDrew:Ex w3 wd:=by rw [hwdx];exact (Ex.refl w3).drew
 clear hwdx
 refine wpAnyL_takeP (i:=0) (oi:=⟨_,_,_,_,_,_⟩) (v:=?_) rfl (by kernel_rfl) (by kernel_rfl) (by kernel_rfl) (fun _ _ _ h=>h) (Or.inl ⟨by rfl,?y5⟩) ?_
 case y5=>intro wq hSw;go_simp<;>rfl
 try simp only [Act.put,sA,sB,sC]
 refine wpAnyL_takeP (i:=1) (oi:=⟨_,_,_,_,_,_⟩) (v:=?_) rfl (by kernel_rfl) (by kernel_rfl) (by kernel_rfl) (fun _ _ _ h=>h) (Or.inl ⟨by rfl,?y8⟩) ?_
 case y8=>intro wq hSw;go_simp<;>rfl
 try simp only [Act.put,sA,sB,sC]
 refine tkL 2 (v:=?_) rfl (by kernel_rfl) (fun _ _ _ h=>h) (by rfl) ?y11 hHeld ?_
 case y11=>intro wq hSw;go_simp<;>rfl
 try simp only [Act.put,sA,sB,sC]
 refine tkL 3 (v:=?_) rfl (by kernel_rfl) (fun _ _ _ h=>h) (by rfl) ?y14 hHeld ?_
 case y14=>intro wq hSw;go_simp<;>rfl
 try simp only [Act.put,sA,sB,sC]
 refine tkL 4 (v:=?_) rfl (by kernel_rfl) (fun _ _ _ h=>h) (by rfl) ?y17 hHeld ?_
 case y17=>intro wq hSw;go_simp<;>rfl
 try simp only [Act.put,sA,sB,sC]
 refine tkL 6 (v:=?_) rfl (by kernel_rfl) (fun _ _ _ h=>h) (by rfl) ?y20 hHeld ?_
 case y20=>intro wq hSw;go_simp<;>rfl
 try simp only [Act.put,sA,sB,sC]
 refine tkL 7 (v:=?_) rfl (by kernel_rfl) (fun _ _ _ h=>h) (by rfl) ?y23 hHeld ?_
 case y23=>intro wq hSw;go_simp<;>rfl
 try simp only [Act.put,sA,sB,sC]
 refine tkL 8 (v:=?_) rfl (by kernel_rfl) (fun _ _ _ h=>h) (by rfl) ?y26 hHeld ?_
 case y26=>intro wq hSw;go_simp<;>rfl
 try simp only [Act.put,sA,sB,sC]
 refine tkL 9 (v:=?_) rfl (by kernel_rfl) (fun _ _ _ h=>h) (by rfl) ?y29 hHeld ?_
 case y29=>intro wq hSw;go_simp<;>rfl
 try simp only [Act.put,sA,sB,sC]
 refine tkL 10 (v:=?_) rfl (by kernel_rfl) (fun _ _ _ h=>h) (by rfl) ?y32 hHeld ?_
 case y32=>intro wq hSw;(have cq:=TC.out _ hSw;go_simp)<;>rfl
 try simp only [Act.put,sA,sB,sC]
 refine rL 5 (by kernel_rfl) rfl fun K hK=>?_
 go_simp
 (with_reducible refine (cloneR_p (some ⟨x,o+p*2,none⟩) (F.2.length-p) (cF-p) (F.2.drop p) _ ((RF3.out.mnx hHeld).ml.fromm hpF) hcF).mono ?_)
 rintro e wa ⟨vc,rfl,ownC,kk⟩
 rw [PDH.out] at ownC
 have zd:=hHeld.size
 replace hHeld:=hHeld.nx kk
 have zk:=kk.size
 clear kk
 refine hK.out _ _ (hHeld) (fun hHeld=>?_)
 clear hK K
 try simp only [Act.put,sA,sB,sC]
 refine rLL 11 (by kernel_rfl) rfl (by rfl) fun K hK=>?_
 rw [if_pos (by rfl)]
 have RT4:=RT3.out.mnx hHeld
 obtain ⟨ac,cc,rfl,_⟩:=ownC.rowF
 refine wp_append_rda (enc:=encR) _ (.tmp 70) (.tmp 75) 85 rfl wd.heap.size 199 (.agg #[.string ByteArray.empty,.string ByteArray.empty]) 2 32 Tryz.underlying85 Tryz.infoRw rfl (by omega) (by omega) _ _ ownC rfl _ aT T.2.length cT T.2 RT4.1 RT4.2.2.2 (fun _=>rfl) (by simp [encR,Value.oneCell']) rfl (by simp;have:=HQ.out;omega) (by omega) (by omega) ?_
 intro v9 w9 own9 ch0 ch1 _
 rw [← HLL.out] at own9
 have K9:=lH (show Ex w3 w9 from Chg.trans hHeld (ch1.mono (fun x hx=>by have:x<w3.heap.size:=hx;omega)))
 have O9:=lH (own9.base (show b0≤wd.heap.size by omega))
 obtain ⟨a9,c9,rfl,_⟩:=own9.rowF
 obtain ⟨_,_,_,_,e9,⟨_,f9⟩,_,_⟩:=(M3.out.nx K9.out).cells HT1.out
 clear own9 ch0 ch1 RT4 ownC
 refine hK.out _ _ ?_
 clear hK K
 try simp only [Act.put,sA,sB,sC]
 refine wpAnyL_takeP (i:=12) (oi:=⟨_,_,_,_,_,_⟩) (v:=?_) rfl (by kernel_rfl) (by kernel_rfl) (by kernel_rfl) (fun _ _ _ h=>h) (Or.inl ⟨by rfl,?y64⟩) ?_
 case y64=>intro wq hSw;go_simp<;>rfl
 try simp only [Act.put,sA,sB,sC]
 refine wpAnyL_takeP (i:=13) (oi:=⟨_,_,_,_,_,_⟩) (v:=?_) rfl (by kernel_rfl) (by kernel_rfl) (by kernel_rfl) (fun _ _ _ h=>h) (Or.inl ⟨by rfl,?y67⟩) ?_
 case y67=>intro wq hSw;go_simp<;>rfl
 try simp only [Act.put,sA,sB,sC]
 refine rLL 14 (by kernel_rfl) rfl (by rfl) fun K hK=>?_
 go_simp
 refine hK.out _ _ ?_
 clear hK K
 try simp only [Act.put,sA,sB,sC]
 refine wpAnyL_done (by kernel_rfl) ?_ _
 clear hHeld hDrew e9 f9
 obtain ⟨wA,hwA⟩:∃ wA,wA=w9.setCell ⟨g,(f+1)*4+3,none⟩ (.slice a9 LL.length c9):=⟨_,rfl⟩
 rw [← hwA]
 have M9:=M3.out.nx K9.out
 have MA:=lH (show MidX b0 g n cg wA (H1.set (f+1) (T.1,LL)) from by
  rw [hwA]
  exact M9.setRow HT1.out (hdr:=(a9,LL.length,c9)) (M9.rowM O9.out))
 have RFA:=lH ((RF3.out.mnx K9.out).mnb (show Exb g w9 wA from by rw [hwA];exact (Exb.refl g w9).setB (p:=⟨g,(f+1)*4+3,none⟩) _ rfl))
 have hwg:w.heap.size≤g:=by have:=ZB.out;omega
 have KA:=lH (show Ex w wA from by rw [hwA];exact (K3.out.nx K9.out).setNew (p:=⟨g,(f+1)*4+3,none⟩) _ hwg)
 have HA:Hid ((H1.set (f+1) (T.1,LL))[f+1]?=some (T.1,LL)):=lH (by rw [List.getElem?_set_self (List.getElem?_eq_some_iff.1 HT1.out).1])
 obtain ⟨x',o',r',e,_,hr',er,_⟩:=RFA.out.at (show p<F.2.length by omega)
 simp only at e
 cases e
 obtain rfl:r'=r:=Option.some.inj (hr'.symm.trans PRH.out)
 obtain ⟨_,_,ek,_,_,⟨fk,_⟩,_,_⟩:=MA.out.cells HA.out
 have dpl:(p:Int)<(F.2.length:Int):=by omega
 clear hwA M9 hr'
 go_upto_region 17 with fail
 obtain ⟨wB,hwB⟩:∃ wB,wB=wA.setCell ⟨g,(f+1)*4+1,none⟩ (.string r'.1):=⟨_,rfl⟩
 rw [← hwB]
 obtain ⟨d,H',he,hk⟩:=FIN2.out
 have MB:=lH (show MidX b0 g n cg wB (d::H') from by
  rw [hwB,← he]
  have:=MA.out.setKey HA.out r'.1
  rw [List.set_set] at this
  exact this)
 have KB:=lH (show Ex w wB from by rw [hwB];exact KA.out.setNew (p:=⟨g,(f+1)*4+1,none⟩) _ hwg)
 have HE:=lH he
 clear hwB ek fk er he
 go_wp2_with fail
 (with_reducible refine (first_m b0 g n cg _ d H' MB.out hk).mono ?_)
 rintro e wC ⟨rfl,MC,kb,zc⟩
 rw [← HE.out,HH1.out,HLL.out] at MC
 have KC:Ex w wC:=Chg.trans KB.out (kb.mono (fun x hx=>⟨by have:=KB.out.size;omega,by omega⟩))
 have ZC:=lH (show HdF w wC (some ⟨g,0,none⟩,n,cg) ((H.set f (F.1,P)).set (f+1) ({ T.1 with key:=r'.1 },r'::Q++T.2)) from HdS.mono MC.hdS (fun x hx=>⟨Nat.le_trans ZB.out hx.1,hx.2⟩))
 have KCH:=lH KC
 clear MC kb zc KC
 go_wp2_with fail
 refine bodyPost_ret (v:=.tuple #[.slice (some ⟨g,0,none⟩) n cg,.int .i64 0]) (by simp [results,Tryz.results49,go_sem, *]) rfl ⟨g,cg,rfl,ZC.out,KCH.out⟩
set_option maxRecDepth 100000 in
set_option maxHeartbeats 8000000 in
theorem shift_dn (a:Option Addr) (n c:Nat) (H:List Hg) (N0:List Nd) (R:List Rw) (w:World) (h:HdL w (a,n,c) H) (hi:InvB (N0.map iwN) R H) (h0:checkN N0=0) (hR:TblOk R) (t cnt:Nat) (F T:Hg) (P Q:List Rw) (r:Rw)
  (hF:H[t+1]?=some F) (hT:H[t]?=some T) (hP:F.2=P++r::Q) (hP0:P≠[]) (hc:cnt=P.length) :
  Calls Tryz.prog 49 #[.slice a n c,.int .i64 ((t:Int)+1),.int .i64 t,.int .i64 cnt] w fun e w'=>∃ g c',e=.returned (.tuple #[.slice (some ⟨g,0,none⟩) n c',.int .i64 0]) ∧
   HdF w w' (some ⟨g,0,none⟩,n,c') ((H.set t (T.1,T.2++P)).set (t+1) ({ F.1 with key:=r.1 },r::Q))∧Ex w w':=by
 have hHn:H.length=n:=h.len
 have hn64:n≤64:=by
  have h1:=hi.len
  rw [List.length_map] at h1
  have:N0.length≤64:=by
   unfold checkN at h0
   split at h0
   ·omega
   ·omega
  omega
 have hfn:=(List.getElem?_eq_some_iff.1 hF).1
 have TF:=hi.tbl hR (List.mem_of_getElem? hF)
 have TT:=hi.tbl hR (List.mem_of_getElem? hT)
 have hrs:r.1.size≤64:=(TF.2.1 r (by rw [hP];simp)).1
 have FIN:=lH (shift_dnL hi hF hT hP hP0 hrs).inv.fst
 have hTl:=TT.2.2
 have hFl:=TF.2.2
 have HS:=lH h
 have IV:=lH hi
 have C0:=lH h0
 have HR:=lH hR
 have HALL:=lH (fun c (hc:c∈H)=>(show c.2.length≤100000 from by have:=(hi.tbl hR hc).2.2;omega))
 have HF:=lH hF
 have HT:=lH hT
 have HP:=lH hP
 have hpl:cnt<F.2.length:=by rw [hP,hc];simp
 have hcp:0<cnt:=by rw [hc];exact List.length_pos_iff.2 hP0
 have HQ:Hid (P.length=cnt):=lH hc.symm
 clear h hi h0 hR TF TT hF hT hP hP0 hc
 go_enter Tryz.func49,Tryz.ntmps49
 go_wp2_with fail
 (with_reducible refine (mvalid_p a n c H N0 R _ HS.out IV.out C0.out HR.out).mono ?_)
 rintro e w1 ⟨rfl,kk⟩
 have K1:=lH kk
 clear kk
 go_wp2_with fail
 (with_reducible refine (copy_m a n c H _ (HS.out.nx K1.out) (by omega) HALL.out).mono ?_)
 rintro e w2 ⟨v,qs,rfl,OH,kk⟩
 have hqn:qs.length=n:=by rw [OH.2.1,hHn]
 obtain ⟨g,cg,rfl⟩:=OH.1.hd0 (by intro h;rw [h] at hqn;simp at hqn;omega)
 rw [hqn] at OH ⊢
 have MX:=MidX.of OH
 have K2:=lH kk
 have zg:=MX.fact.2.1
 obtain ⟨b0,hb0⟩:∃ b0,b0=w1.heap.size:=⟨_,rfl⟩
 rw [← hb0] at MX zg
 have ZB:Hid (w.heap.size≤b0):=lH (by rw [hb0];exact K1.out.size)
 have KK:=lH (K1.out.nx K2.out)
 rw [← hb0] at OH
 have M2:=lH MX
 have OHH:=lH OH
 have hqsn:=hqn
 clear kk OH hqn MX hb0 K2
 go_wp2_with fail
 have h1n:t+1<n:=by omega
 have htn:t<n:=by omega
 have D0:(cnt:Int)>0:=by omega
 have dk:decide ((0:Int)<(cnt:Int))=true:=by simp;omega
 have dk2:decide (0<cnt)=true:=by simp;omega
 have dneg:¬ (cnt:Int)<0:=by omega
 have dge:¬ (cnt:Int) ≥ (F.2.length:Int):=by omega
 have dkt:(t:Int)+1<(n:Int):=by omega
 have dk0:(0:Int)≤(t:Int)+1:=by omega
 have dtn:(t:Int)<(n:Int):=by omega
 have BS:=beside_p (some ⟨g,0,none⟩) n cg (t+1) t w2 (by omega) (by omega) (by omega) (.inr rfl)
 rw [show ((t+1:Nat):Int)=(t:Int)+1 from rfl] at BS
 (with_reducible refine BS.mono ?_)
 clear BS
 rintro e wa ⟨rfl,rfl⟩
 obtain ⟨qF,hqF⟩:∃ q,qs[t+1]?=some q:=⟨_,List.getElem?_eq_getElem (by omega)⟩
 obtain ⟨qT,hqT⟩:∃ q,qs[t]?=some q:=⟨_,List.getElem?_eq_getElem (by omega)⟩
 have oF:=(OHH.out.2.2.1 _ _ _ hqF HF.out).2
 have oT:=(OHH.out.2.2.1 _ _ _ hqT HT.out).2
 obtain ⟨aF,cF,eF,rF⟩:=oF.rowF
 obtain ⟨aT,cT,eT,rT⟩:=oT.rowF
 have cq:w2.cell? ⟨g,(t+1)*4+3,none⟩=some (.slice aF F.2.length cF):=by rw [← eF];exact (OHH.out.1.set1 encHg_len hqF (c:=3) (by omega)).1
 have ct:w2.cell? ⟨g,t*4+3,none⟩=some (.slice aT T.2.length cT):=by rw [← eT];exact (OHH.out.1.set1 encHg_len hqT (c:=3) (by omega)).1
 have hne:0<F.2.length:=by omega
 obtain ⟨x,o,_,e,_,_⟩:=RowR.at rF hne
 simp only at e
 subst e
 have RFH:=lH rF
 have hcap:F.2.length≤cF:=rF.2.1
 have hcFp:¬ cF=cnt:=by omega
 have hcle:cnt≤cF:=by omega
 have dup:¬ (t:Int)>(t:Int)+1:=by omega
 have hpF:cnt≤F.2.length:=by omega
 have OTH:=lH (show OwnL 2 encR 199 b0 w2 (.slice aT T.2.length cT) T.2 from by rw [← eT];exact oT)
 have zg2:g<w2.heap.size:=M2.out.fact.2.2.1
 have TC:=lH (fun wq (kq:Ex w2 wq)=>kq.cellv ct zg2)
 have ET:=lH eT
 have EF:=lH eF
 have HQF:=lH hqF
 have HQT:=lH hqT
 have zb2:b0≤w2.heap.size:=by omega
 have PT:Hid (F.2.take cnt=P):=lH (by rw [HP.out,← HQ.out];simp)
 have PDH:Hid (F.2.drop cnt=r::Q):=lH (by rw [HP.out,← HQ.out];simp)
 have PRH:Hid (F.2[cnt]?=some r):=lH (by rw [HP.out,← HQ.out];simp)
 obtain ⟨LL,hLL⟩:∃ LL,LL=T.2++P:=⟨_,rfl⟩
 have HLL:=lH hLL
 rw [← hLL] at FIN
 have FH:=lH FIN.out
 clear eT eF oF oT rT rF ct hqF hqT hLL hqsn
 go_upto_region 14 with fail
 clear cq
 refine wp_region_late_drew (S:=Ex w2) [10,13] (by kernel_rfl) ((Ex.refl w2).drew) (fun hHeld=>?_)
 obtain ⟨wd,hwdx⟩:∃ wd:World,wd=World.drew w2:=⟨_,rfl⟩
 rw [← hwdx] at hHeld ⊢
 have hDrew:Ex w2 wd:=by rw [hwdx];exact (Ex.refl w2).drew
 clear hwdx
 refine wpAnyL_takeP (i:=0) (oi:=⟨_,_,_,_,_,_⟩) (v:=?_) rfl (by kernel_rfl) (by kernel_rfl) (by kernel_rfl) (fun _ _ _ h=>h) (Or.inl ⟨by rfl,?y5⟩) ?_
 case y5=>intro wq hSw;go_simp<;>rfl
 try simp only [Act.put,sA,sB,sC]
 refine wpAnyL_takeP (i:=1) (oi:=⟨_,_,_,_,_,_⟩) (v:=?_) rfl (by kernel_rfl) (by kernel_rfl) (by kernel_rfl) (fun _ _ _ h=>h) (Or.inl ⟨by rfl,?y8⟩) ?_
 case y8=>intro wq hSw;go_simp<;>rfl
 try simp only [Act.put,sA,sB,sC]
 refine tkL 2 (v:=?_) rfl (by kernel_rfl) (fun _ _ _ h=>h) (by rfl) ?y11 hHeld ?_
 case y11=>intro wq hSw;go_simp<;>rfl
 try simp only [Act.put,sA,sB,sC]
 refine tkL 3 (v:=?_) rfl (by kernel_rfl) (fun _ _ _ h=>h) (by rfl) ?y14 hHeld ?_
 case y14=>intro wq hSw;go_simp<;>rfl
 try simp only [Act.put,sA,sB,sC]
 refine tkL 4 (v:=?_) rfl (by kernel_rfl) (fun _ _ _ h=>h) (by rfl) ?y17 hHeld ?_
 case y17=>intro wq hSw;go_simp<;>rfl
 try simp only [Act.put,sA,sB,sC]
 refine tkL 5 (v:=?_) rfl (by kernel_rfl) (fun _ _ _ h=>h) (by rfl) ?y20 hHeld ?_
 case y20=>intro wq hSw;go_simp<;>rfl
 try simp only [Act.put,sA,sB,sC]
 refine tkL 6 (v:=?_) rfl (by kernel_rfl) (fun _ _ _ h=>h) (by rfl) ?y23 hHeld ?_
 case y23=>intro wq hSw;(have cq:=TC.out _ hSw;go_simp)<;>rfl
 try simp only [Act.put,sA,sB,sC]
 refine tkL 7 (v:=?_) rfl (by kernel_rfl) (fun _ _ _ h=>h) (by rfl) ?y26 hHeld ?_
 case y26=>intro wq hSw;go_simp<;>rfl
 try simp only [Act.put,sA,sB,sC]
 refine tkL 8 (v:=?_) rfl (by kernel_rfl) (fun _ _ _ h=>h) (by rfl) ?y29 hHeld ?_
 case y29=>intro wq hSw;go_simp<;>rfl
 try simp only [Act.put,sA,sB,sC]
 refine tkL 9 (v:=?_) rfl (by kernel_rfl) (fun _ _ _ h=>h) (by rfl) ?y32 hHeld ?_
 case y32=>intro wq hSw;go_simp<;>rfl
 try simp only [Act.put,sA,sB,sC]
 refine rLL 10 (by kernel_rfl) rfl (by rfl) fun K hK=>?_
 rw [if_pos (by rfl)]
 have RF4:=RowR.mono (RowR.chg RFH.out hHeld (fun _ hx=>hx.2)) (fun _ hx=>(And.intro hx.1 (Nat.lt_of_lt_of_le hx.2 hHeld.size):_∧_))
 have RF5:=Rd.take RF4.1 hpF
 rw [PT.out] at RF5
 have OT4:=OTH.out.nx hHeld
 have zd:=hHeld.size
 refine wp_append_rda (enc:=encR) _ (.tmp 95) (.tmp 98) 85 rfl b0 199 (.agg #[.string ByteArray.empty,.string ByteArray.empty]) 2 32 Tryz.underlying85 Tryz.infoRw rfl (by omega) (by omega) _ _ OT4 rfl _ (some ⟨x,o,none⟩) cnt cF P RF5 (fun h=>by cases h) (fun _=>rfl) (by simp [encR,Value.oneCell']) rfl (by omega) (by omega) (by omega) ?_
 intro v9 w9 own9 ch0 ch1 _
 rw [← HLL.out] at own9
 obtain ⟨a9,c9,rfl,_⟩:=own9.rowF
 have OW4:=OHH.out.nx hHeld
 have ch2:=ch0
 rw [← ET.out] at ch2
 have MA:=lH (MidX.app OW4 HQT.out HT.out (hdr:=(a9,LL.length,c9)) own9 ch2)
 have RO:=MidX.oth OW4 HQF.out HQT.out HF.out (by omega) (by omega) ch2
 have row9:=OW4.1.chg ch2 (fun y hy hv=>⟨hy,by obtain rfl:g=y:=(by simpa [Value.ownBlock] using hv);intro e9;exact own_ty (OW4.2.2.1 _ _ _ HQT.out HT.out).2 OW4.1 (by decide) e9 rfl⟩)
 have f9:=(row9.set1 encHg_len HQT.out (c:=3) (by omega)).2.1
 have e9:=(row9.set1 encHg_len HQT.out (c:=3) (by omega)).1
 rw [show (encP encN qT)[3]?=some qT.2.val from rfl] at e9
 have K9:=lH (show Ex w w9 from Chg.trans KK.out (Chg.trans (hHeld.mono (fun y hy=>by have hy':y<w.heap.size:=hy;have:=KK.out.size;show y<w2.heap.size;omega)) (ch1.mono (fun y hy=>by have hy':y<w.heap.size:=hy;have:=ZB.out;show y<b0;omega))))
 have RO:=lH RO
 clear own9 ch0 ch1 ch2 RF4 RF5 OT4 OW4 row9 zd
 refine hK.out _ _ ?_
 clear hK K
 try simp only [Act.put,sA,sB,sC]
 refine wpAnyL_takeP (i:=11) (oi:=⟨_,_,_,_,_,_⟩) (v:=?_) rfl (by kernel_rfl) (by kernel_rfl) (by kernel_rfl) (fun _ _ _ h=>h) (Or.inl ⟨by rfl,?y62⟩) ?_
 case y62=>intro wq hSw;go_simp<;>rfl
 try simp only [Act.put,sA,sB,sC]
 refine wpAnyL_takeP (i:=12) (oi:=⟨_,_,_,_,_,_⟩) (v:=?_) rfl (by kernel_rfl) (by kernel_rfl) (by kernel_rfl) (fun _ _ _ h=>h) (Or.inl ⟨by rfl,?y65⟩) ?_
 case y65=>intro wq hSw;go_simp<;>rfl
 try simp only [Act.put,sA,sB,sC]
 refine rLL 13 (by kernel_rfl) rfl (by rfl) fun K hK=>?_
 go_simp
 refine hK.out _ _ ?_
 clear hK K
 try simp only [Act.put,sA,sB,sC]
 refine wpAnyL_done (by kernel_rfl) ?_ _
 clear hHeld hDrew e9 f9
 obtain ⟨wA,hwA⟩:∃ wA,wA=w9.setCell ⟨g,t*4+3,none⟩ (.slice a9 LL.length c9):=⟨_,rfl⟩
 have MA:Hid (MidX b0 g n cg (w9.setCell ⟨g,t*4+3,none⟩ (.slice a9 LL.length c9)) (H.set t (T.1,LL))):=MA
 rw [← hwA] at MA ⊢
 have hwg:w.heap.size≤g:=by have:=ZB.out;omega
 have KA:=lH (show Ex w wA from by rw [hwA];exact K9.out.setNew (p:=⟨g,t*4+3,none⟩) _ hwg)
 have RFA:=lH (show RowR (Mem b0 g wA) wA (some ⟨x,o,none⟩,F.2.length,cF) F.2 from by
  have h1:=RO.out
  have h2:qF.2=(some ⟨x,o,none⟩,F.2.length,cF):=by
   have:=EF.out
   unfold Hdr.val at this
   injection this with e1 e2 e3
   exact Prod.ext e1 (Prod.ext e2 e3)
  rw [h2] at h1
  exact h1.mnb (show Exb g w9 wA from by rw [hwA];exact (Exb.refl g w9).setB (p:=⟨g,t*4+3,none⟩) _ rfl))
 obtain ⟨H1,hH1⟩:∃ H1,H1=H.set t (T.1,LL):=⟨_,rfl⟩
 rw [← hH1] at MA FH
 have HF1:Hid (H1[t+1]?=some F):=lH (by rw [hH1,List.getElem?_set_ne (by omega)];exact HF.out)
 obtain ⟨_,_,_,_,e3,⟨_,f3⟩,_,_⟩:=MA.out.cells HF1.out
 have HH1:=lH hH1
 clear hwA hH1
 go_upto_region 16 with fail
 obtain ⟨wB,hwB⟩:∃ wB,wB=wA.setCell ⟨g,(t+1)*4+3,none⟩ (.slice (some ⟨x,o+cnt*2,none⟩) (F.2.length-cnt) (cF-cnt)):=⟨_,rfl⟩
 rw [← hwB]
 have MB:=lH (show MidX b0 g n cg wB (H1.set (t+1) (F.1,r::Q)) from by
  rw [hwB,← PDH.out]
  exact MA.out.setRow HF1.out (hdr:=(some ⟨x,o+cnt*2,none⟩,F.2.length-cnt,cF-cnt)) (RFA.out.fromm hpF))
 have RFB:=lH (RFA.out.mnb (show Exb g wA wB from by rw [hwB];exact (Exb.refl g wA).setB (p:=⟨g,(t+1)*4+3,none⟩) _ rfl))
 have KB:=lH (show Ex w wB from by rw [hwB];exact KA.out.setNew (p:=⟨g,(t+1)*4+3,none⟩) _ hwg)
 have HB:Hid ((H1.set (t+1) (F.1,r::Q))[t+1]?=some (F.1,r::Q)):=lH (by rw [List.getElem?_set_self (List.getElem?_eq_some_iff.1 HF1.out).1])
 obtain ⟨x',o',r',e,_,hr',er,_⟩:=RFB.out.at (show cnt<F.2.length by omega)
 simp only at e
 cases e
 obtain rfl:r'=r:=Option.some.inj (hr'.symm.trans PRH.out)
 obtain ⟨_,_,ek,_,_,⟨fk,_⟩,_,_⟩:=MB.out.cells HB.out
 have dpl:(cnt:Int)<(F.2.length:Int):=by omega
 clear hwB hr' e3 f3
 go_upto_region 17 with fail
 obtain ⟨wC,hwC⟩:∃ wC,wC=wB.setCell ⟨g,(t+1)*4+1,none⟩ (.string r'.1):=⟨_,rfl⟩
 rw [← hwC]
 obtain ⟨d,H',he,hk⟩:=FH.out
 have MC:=lH (show MidX b0 g n cg wC (d::H') from by
  rw [hwC,← he]
  have:=MB.out.setKey HB.out r'.1
  rw [List.set_set] at this
  exact this)
 have KC:=lH (show Ex w wC from by rw [hwC];exact KB.out.setNew (p:=⟨g,(t+1)*4+1,none⟩) _ hwg)
 have HE:=lH he
 clear hwC ek fk er he
 go_wp2_with fail
 (with_reducible refine (first_m b0 g n cg _ d H' MC.out hk).mono ?_)
 rintro e wD ⟨rfl,MD,kb,zc⟩
 rw [← HE.out,HH1.out,HLL.out] at MD
 have KD:Ex w wD:=Chg.trans KC.out (kb.mono (fun x hx=>⟨by have:=KC.out.size;omega,by omega⟩))
 have ZC:=lH (show HdF w wD (some ⟨g,0,none⟩,n,cg) ((H.set t (T.1,T.2++P)).set (t+1) ({ F.1 with key:=r'.1 },r'::Q)) from HdS.mono MD.hdS (fun x hx=>⟨Nat.le_trans ZB.out hx.1,hx.2⟩))
 have KCH:=lH KD
 clear MD kb zc KD
 go_wp2_with fail
 refine bodyPost_ret (v:=.tuple #[.slice (some ⟨g,0,none⟩) n cg,.int .i64 0]) (by simp [results,Tryz.results49,go_sem, *]) rfl ⟨g,cg,rfl,ZC.out,KCH.out⟩
def MemL (b0:Nat) (wL:World):Nat→Prop:=fun x=>b0≤x∧x<wL.heap.size∧IsRow wL x
def RowsAt (b0:Nat) (wL wr:World) (qs:List (Nd×Hdr)) (L:List Hg):Prop:=qs.length=L.length∧∀ (j:Nat) (q:Nd×Hdr) (d:Hg),qs[j]?=some q→L[j]?=some d→q.1=d.1∧RowR (MemL b0 wL) wr q.2 d.2
def OutRel (b0:Nat) (wL:World) (f b:Nat) (nd:Hg) (H:List Hg) (out i:Value) (wr:World):Prop :=
 ∃ (k:Nat) (qs:List (Nd×Hdr)),k≤H.length∧i=.int .i64 k∧OwnL 4 (encP encN) 91 wL.heap.size wr out qs∧RowsAt b0 wL wr qs (outF f b nd (H.take k) 0)∧Ex wL wr
theorem RowsAt.nx {b0:Nat} {wL wr w':World} {qs:List (Nd×Hdr)} {L:List Hg} (h:RowsAt b0 wL wr qs L) {S:Nat→Prop} (k:Chg S wr w') (hs:∀ x,x<wL.heap.size→S x):RowsAt b0 wL w' qs L :=
 ⟨h.1,fun j q d hq hd=>⟨(h.2 j q d hq hd).1,RowR.chg (h.2 j q d hq hd).2 k (fun x hx=>hs x hx.2.1)⟩⟩
theorem RowsAt.snoc {b0:Nat} {wL wr:World} {qs:List (Nd×Hdr)} {L:List Hg} (h:RowsAt b0 wL wr qs L) {q:Nd×Hdr} {d:Hg} (hq:q.1=d.1) (hr:RowR (MemL b0 wL) wr q.2 d.2):RowsAt b0 wL wr (qs++[q]) (L++[d]):=by
 refine ⟨by rw [List.length_append,List.length_append,h.1];rfl,fun j p c hp hc=>?_⟩
 rcases Nat.lt_or_ge j qs.length with h1 | h1
 ·rw [List.getElem?_append_left h1] at hp
  rw [List.getElem?_append_left (by rw [← h.1];exact h1)] at hc
  exact h.2 j p c hp hc
 ·have h2:=(List.getElem?_eq_some_iff.1 hp).1
  rw [List.length_append,List.length_singleton] at h2
  obtain rfl:j=qs.length:=by omega
  rw [List.getElem?_append_right (Nat.le_refl _)] at hp
  rw [h.1,List.getElem?_append_right (Nat.le_refl _)] at hc
  simp at hp hc
  subst hp hc
  exact ⟨hq,hr⟩
theorem own_ty2 {base g:Nat} {w:World} {v:Value} {l:List Rw} {cs:List Value} (h:OwnL 2 encR 199 base w v l) (B:Blk w g cs 91) (e:v.ownBlock=some g):False:=by
 obtain ⟨_,cur,e1⟩:=OwnL.blk h e
 have e2:w.heap[g]?=_:=B
 rw [e1] at e2
 simp at e2
theorem outF_len (f b:Nat) (nd:Hg):∀ (l:List Hg) (i:Nat),(outF f b nd l i).length≤2*l.length
 | [],_=>by simp [outF]
 | c::l,i=>by
  have:=outF_len f b nd l (i+1)
  rw [outF_cons,List.length_append,List.length_append,List.length_cons]
  split<;>split<;>simp<;>omega
theorem RowsAt.mid {b0:Nat} {wL wr:World} {g n c:Nat} {qs:List (Nd×Hdr)} {L:List Hg} (own:OwnL 4 (encP encN) 91 wL.heap.size wr (.slice (some ⟨g,0,none⟩) n c) qs) (h:RowsAt b0 wL wr qs L) (k:Ex wL wr) (hb:b0≤wL.heap.size):MidX b0 g n c wr L:=by
 have hg:=own.toW.at0.2.1
 exact ⟨qs,own.toW.lower hb,h.1,fun j q d hq hd=>⟨(h.2 j q d hq hd).1,RowR.mono (h.2 j q d hq hd).2 (fun x hx=>⟨hx.1,Nat.lt_of_lt_of_le hx.2.1 k.size,by have:=hx.2.1;omega,hx.2.2.chg k hx.2.1⟩)⟩⟩
set_option maxRecDepth 100000 in
set_option maxHeartbeats 16000000 in
theorem move_m (a:Option Addr) (n c:Nat) (H:List Hg) (N0:List Nd) (R:List Rw) (w:World) (h:HdL w (a,n,c) H) (hi:InvB (N0.map iwN) R H) (h0:checkN N0=0) (hR:TblOk R) (f t b cnt:Nat) (F T B:Hg) (T':Hg) (P Q:List Rw) (r:Rw)
  (hF:H[f]?=some F) (hT:H[t]?=some T) (hB:H[b]?=some B) (hft:(f+1=t∧T'=({ T.1 with key:=F.1.key },F.2++T.2))∨(t+1=f∧T'=(T.1,T.2++F.2))) (hbf:b≠f) (hbt:b≠t) (hP:B.2=P++r::Q) (hP0:P≠[]) (hc:cnt=Q.length+1)
  (hfst:∃ d H',outF f b ({ F.1 with key:=r.1 },r::Q) ((H.set t T').set b (B.1,P)) 0=d::H'∧d.1.key=⟨#[]⟩) (hlen:(outF f b ({ F.1 with key:=r.1 },r::Q) ((H.set t T').set b (B.1,P)) 0).length=n) :
  Calls Tryz.prog 50 #[.slice a n c,.int .i64 f,.int .i64 t,.int .i64 b,.int .i64 cnt] w fun e w'=>∃ g c',e=.returned (.tuple #[.slice (some ⟨g,0,none⟩) n c',.int .i64 0]) ∧
   HdF w w' (some ⟨g,0,none⟩,n,c') (outF f b ({ F.1 with key:=r.1 },r::Q) ((H.set t T').set b (B.1,P)) 0)∧Ex w w':=by
 have hHn:H.length=n:=h.len
 have hn64:n≤64:=by
  have h1:=hi.len
  rw [List.length_map] at h1
  have:N0.length≤64:=by
   unfold checkN at h0
   split at h0
   ·omega
   ·omega
  omega
 have hfn:f<n:=by rw [← hHn];exact (List.getElem?_eq_some_iff.1 hF).1
 have htn:t<n:=by rw [← hHn];exact (List.getElem?_eq_some_iff.1 hT).1
 have hbn:b<n:=by rw [← hHn];exact (List.getElem?_eq_some_iff.1 hB).1
 have hFl:=(hi.tbl hR (List.mem_of_getElem? hF)).2.2
 have hTl:=(hi.tbl hR (List.mem_of_getElem? hT)).2.2
 have hBl:=(hi.tbl hR (List.mem_of_getElem? hB)).2.2
 have HS:=lH h
 have IV:=lH hi
 have C0:=lH h0
 have HR:=lH hR
 have HALL:=lH (fun c (hc:c∈H)=>(show c.2.length≤100000 from by have:=(hi.tbl hR hc).2.2;omega))
 have HF:=lH hF
 have HT:=lH hT
 have HB:=lH hB
 have HP:=lH hP
 have FIN:=lH hfst
 have LEN:=lH hlen
 have hcB:cnt<B.2.length:=by rw [hP,hc];have:=List.length_pos_iff.2 hP0;simp;omega
 have hcp:0<cnt:=by omega
 have HQ:Hid (Q.length+1=cnt):=lH hc.symm
 have HFT:=lH hft
 have hfT:f+1=t∨t+1=f:=by rcases hft with h | h;exact .inl h.1;exact .inr h.1
 clear h hi h0 hR hF hT hB hft hP hP0 hc hfst hlen
 have dbf:¬ (b:Int)=(f:Int):=by omega
 have dbe:((b:Int)==(f:Int))=false:=by simp;omega
 go_enter Tryz.func50,Tryz.ntmps50
 go_wp2_with fail
 (with_reducible refine (mvalid_p a n c H N0 R _ HS.out IV.out C0.out HR.out).mono ?_)
 rintro e w1 ⟨rfl,kk⟩
 have K1:=lH kk
 clear kk
 go_wp2_with fail
 (with_reducible refine (copy_m a n c H _ (HS.out.nx K1.out) (by omega) HALL.out).mono ?_)
 rintro e w2 ⟨v,qs,rfl,OH,kk⟩
 have hqn:qs.length=n:=by rw [OH.2.1,hHn]
 obtain ⟨g,cg,rfl⟩:=OH.1.hd0 (by intro h;rw [h] at hqn;simp at hqn;omega)
 rw [hqn] at OH ⊢
 have MX:=MidX.of OH
 have zg:=MX.fact.2.1
 obtain ⟨b0,hb0⟩:∃ b0,b0=w1.heap.size:=⟨_,rfl⟩
 rw [← hb0] at MX zg OH
 have ZB:Hid (w.heap.size≤b0):=lH (by rw [hb0];exact K1.out.size)
 have KK:=lH (K1.out.nx kk)
 have M2:=lH MX
 have OHH:=lH OH
 have hqsn:=hqn
 have zb2:b0≤w2.heap.size:=by have:=kk.size;omega
 have zg2:g<w2.heap.size:=MX.fact.2.2.1
 clear kk OH hqn MX hb0
 go_wp2_with fail
 (with_reducible refine (beside_p (some ⟨g,0,none⟩) n cg f t w2 hfn htn (by omega) hfT).mono ?_)
 rintro e wa ⟨rfl,rfl⟩
 go_wp2_with fail
 (with_reducible refine (mplace_p (some ⟨g,0,none⟩) n cg (b:Int) w2 (by omega) (by omega)).mono ?_)
 rintro e wa ⟨rfl,rfl⟩
 have dfn:(f:Int)<(n:Int):=by omega
 have dtn:(t:Int)<(n:Int):=by omega
 have dbn:(b:Int)<(n:Int):=by omega
 obtain ⟨qF,hqF⟩:∃ q,qs[f]?=some q:=⟨_,List.getElem?_eq_getElem (by omega)⟩
 obtain ⟨qT,hqT⟩:∃ q,qs[t]?=some q:=⟨_,List.getElem?_eq_getElem (by omega)⟩
 have oF:=(OHH.out.2.2.1 _ _ _ hqF HF.out).2
 have oT:=(OHH.out.2.2.1 _ _ _ hqT HT.out).2
 have eF1:=(OHH.out.2.2.1 _ _ _ hqF HF.out).1
 obtain ⟨aF,cF,eF,rF⟩:=oF.rowF
 obtain ⟨aT,cT,eT,rT⟩:=oT.rowF
 have u0:w2.cell? ⟨g,f*4,none⟩=some (.int .i64 F.1.id):=by rw [← eF1];exact (OHH.out.1.set1 encHg_len hqF (c:=0) (by omega)).1
 have u1:w2.cell? ⟨g,f*4+1,none⟩=some (.string F.1.key):=by rw [← eF1];exact (OHH.out.1.set1 encHg_len hqF (c:=1) (by omega)).1
 have u2:w2.cell? ⟨g,f*4+2,none⟩=some (.int .u32 F.1.word):=by rw [← eF1];exact (OHH.out.1.set1 encHg_len hqF (c:=2) (by omega)).1
 have u3:w2.cell? ⟨g,f*4+3,none⟩=some (.slice aF F.2.length cF):=by rw [← eF];exact (OHH.out.1.set1 encHg_len hqF (c:=3) (by omega)).1
 have ct:w2.cell? ⟨g,t*4+3,none⟩=some (.slice aT T.2.length cT):=by rw [← eT];exact (OHH.out.1.set1 encHg_len hqT (c:=3) (by omega)).1
 have N:=Blk.new w2 [.int .i64 F.1.id,.string F.1.key,.int .u32 F.1.word,.slice aF F.2.length cF] 91
 have kk:=Ex.new w2 (.cells #[.int .i64 F.1.id,.string F.1.key,.int .u32 F.1.word,.slice aF F.2.length cF] 91)
 obtain ⟨w3,hw3⟩:∃ w3,w3=w2.alloc (.cells #[.int .i64 F.1.id,.string F.1.key,.int .u32 F.1.word,.slice aF F.2.length cF] 91):=⟨_,rfl⟩
 obtain ⟨g13,hg13⟩:∃ g13,g13=w2.heap.size:=⟨_,rfl⟩
 replace N:Blk w3 g13 [.int .i64 F.1.id,.string F.1.key,.int .u32 F.1.word,.slice aF F.2.length cF] 91:=by rw [hw3,hg13];exact N
 rw [← hw3] at kk
 have Hw3:=lH hw3
 have Hg13:=lH hg13
 have K3:=lH kk
 have z13:w2.heap.size≤g13:=by omega
 clear kk hw3 hg13
 go_upto_region 7 with fail
 rw [← Hg13.out,← Hw3.out]
 clear Hg13 Hw3
 have hg13g:¬ g=g13:=by omega
 have N3:=lH N
 have OH3:=lH (OHH.out.nx K3.out)
 have M3:=lH (M2.out.nx K3.out)
 have RFH:=lH (RowR.mono (RowR.chg rF K3.out (fun _ hx=>hx.2)) (fun _ hx=>(And.intro hx.1 (Nat.lt_of_lt_of_le hx.2 K3.out.size):b0≤_∧_<w3.heap.size)))
 have OTH:=lH (show OwnL 2 encR 199 b0 w3 (.slice aT T.2.length cT) T.2 from by rw [← eT];exact oT.nx K3.out)
 have RTH:=lH (RowR.mono (RowR.chg rT K3.out (fun _ hx=>hx.2)) (fun _ hx=>(And.intro hx.1 (Nat.lt_of_lt_of_le hx.2 K3.out.size):b0≤_∧_<w3.heap.size)))
 have TC:=lH (fun wq (kq:Ex w3 wq)=>kq.cellv (K3.out.cellv ct zg2) (show g<w3.heap.size from Nat.lt_of_lt_of_le zg2 K3.out.size))
 obtain ⟨qB,hqB⟩:∃ q,qs[b]?=some q:=⟨_,List.getElem?_eq_getElem (by omega)⟩
 have oB:=(OHH.out.2.2.1 _ _ _ hqB HB.out).2
 obtain ⟨aB,cB,eB,rB⟩:=oB.rowF
 obtain ⟨x,o,_,exB,hxB,_⟩:=RowR.at rB (show 0<B.2.length by omega)
 simp only at exB
 subst exB
 have hx2:x<w2.heap.size:=hxB.2
 have cB2:w2.cell? ⟨g,b*4+3,none⟩=some (.slice (some ⟨x,o,none⟩) B.2.length cB):=by rw [← eB];exact (OHH.out.1.set1 encHg_len hqB (c:=3) (by omega)).1
 have BC:=lH (fun wq (kq:Ex w3 wq)=>kq.cellv (K3.out.cellv cB2 zg2) (show g<w3.heap.size from Nat.lt_of_lt_of_le zg2 K3.out.size))
 clear cB2 eB rB oB hqB hxB
 have ET:=lH eT
 have HQT:=lH hqT
 have zg3:g<w3.heap.size:=Nat.lt_of_lt_of_le zg2 K3.out.size
 have z133:g13<w3.heap.size:=N.lt
 have zb3:b0≤w3.heap.size:=by omega
 have hwg:w.heap.size≤g:=by have:=ZB.out;omega
 have hw13:w.heap.size≤g13:=by have:=KK.out.size;omega
 have hb13:b0≤g13:=by omega
 have KW3:=lH (KK.out.nx K3.out)
 clear eT eF oF oT rF rT ct hqF hqT u0 u1 u2 u3 N eF1 hqsn
 obtain ⟨H1,hH1⟩:∃ H1,H1=H.set t T':=⟨_,rfl⟩
 rw [← hH1] at FIN LEN
 have HH1:=lH hH1
 have hH1n:H1.length=n:=by rw [hH1,List.length_set];exact hHn
 have HB1:Hid (H1[b]?=some B):=lH (by rw [hH1,List.getElem?_set_ne (by omega)];exact HB.out)
 clear hH1
 go_upto_if 46 with fail
 go_cut [46] from 47 to 79 (fun v wx=>MidX b0 g n cg wx H1∧Blk wx g13 [.int .i64 F.1.id,.string F.1.key,.int .u32 F.1.word,.slice aF F.2.length cF] 91∧Ex w wx∧v=v∧wx.cell? ⟨g,b*4+3,none⟩=some (.slice (some ⟨x,o,none⟩) B.2.length cB))
 case first =>
  rcases HFT.out with ⟨h1,hT'⟩ | ⟨h1,hT'⟩
  ·have dup:(t:Int)>(f:Int):=by omega
   obtain ⟨LL,hLL⟩:∃ LL,LL=F.2++T.2:=⟨_,rfl⟩
   have HLL:=lH hLL
   have HT':Hid (T'=({ T.1 with key:=F.1.key },LL)):=lH (by rw [hT',hLL])
   clear hLL hT' h1
   go_upto_region 8 with fail
   refine wp_region_late_drew (S:=Ex w3) [10,13] (by kernel_rfl) ((Ex.refl w3).drew) (fun hHeld=>?_)
   obtain ⟨wd,hwdx⟩:∃ wd:World,wd=World.drew w3:=⟨_,rfl⟩
   rw [← hwdx] at hHeld ⊢
   have hDrew:Ex w3 wd:=by rw [hwdx];exact (Ex.refl w3).drew
   clear hwdx
   refine wpAnyL_takeP (i:=0) (oi:=⟨_,_,_,_,_,_⟩) (v:=?_) rfl (by kernel_rfl) (by kernel_rfl) (by kernel_rfl) (fun _ _ _ h=>h) (Or.inl ⟨by rfl,?y5⟩) ?_
   case y5=>intro wq hSw;go_simp<;>rfl
   try simp only [Act.put,sA,sB,sC]
   refine wpAnyL_takeP (i:=1) (oi:=⟨_,_,_,_,_,_⟩) (v:=?_) rfl (by kernel_rfl) (by kernel_rfl) (by kernel_rfl) (fun _ _ _ h=>h) (Or.inl ⟨by rfl,?y8⟩) ?_
   case y8=>intro wq hSw;go_simp<;>rfl
   try simp only [Act.put,sA,sB,sC]
   refine tkL 2 (v:=?_) rfl (by kernel_rfl) (fun _ _ _ h=>h) (by rfl) ?y11 hHeld ?_
   case y11=>intro wq hSw;go_simp<;>rfl
   try simp only [Act.put,sA,sB,sC]
   refine tkL 3 (v:=?_) rfl (by kernel_rfl) (fun _ _ _ h=>h) (by rfl) ?y14 hHeld ?_
   case y14=>intro wq hSw;(have cq:=(N3.out.nx hSw).cell 3 _ rfl;go_simp)<;>rfl
   try simp only [Act.put,sA,sB,sC]
   refine tkL 5 (v:=?_) rfl (by kernel_rfl) (fun _ _ _ h=>h) (by rfl) ?y17 hHeld ?_
   case y17=>intro wq hSw;go_simp<;>rfl
   try simp only [Act.put,sA,sB,sC]
   refine tkL 6 (v:=?_) rfl (by kernel_rfl) (fun _ _ _ h=>h) (by rfl) ?y20 hHeld ?_
   case y20=>intro wq hSw;go_simp<;>rfl
   try simp only [Act.put,sA,sB,sC]
   refine tkL 7 (v:=?_) rfl (by kernel_rfl) (fun _ _ _ h=>h) (by rfl) ?y23 hHeld ?_
   case y23=>intro wq hSw;go_simp<;>rfl
   try simp only [Act.put,sA,sB,sC]
   refine tkL 8 (v:=?_) rfl (by kernel_rfl) (fun _ _ _ h=>h) (by rfl) ?y26 hHeld ?_
   case y26=>intro wq hSw;go_simp<;>rfl
   try simp only [Act.put,sA,sB,sC]
   refine tkL 9 (v:=?_) rfl (by kernel_rfl) (fun _ _ _ h=>h) (by rfl) ?y29 hHeld ?_
   case y29=>intro wq hSw;(have cq:=TC.out _ hSw;go_simp)<;>rfl
   try simp only [Act.put,sA,sB,sC]
   refine rL 4 (by kernel_rfl) rfl fun K hK=>?_
   go_simp
   (with_reducible refine (cloneR_p aF F.2.length cF F.2 _ (RowL.nx (RowR.l RFH.out) hHeld) (by omega)).mono ?_)
   rintro e wa ⟨vc,rfl,ownC,kk⟩
   have zd:=hHeld.size
   replace hHeld:=hHeld.nx kk
   have zk:=kk.size
   clear kk
   refine hK.out _ _ (hHeld) (fun hHeld=>?_)
   clear hK K
   try simp only [Act.put,sA,sB,sC]
   refine rLL 10 (by kernel_rfl) rfl (by rfl) fun K hK=>?_
   rw [if_pos (by rfl)]
   have RT4:=RowL.nx (RowR.l RTH.out) hHeld
   obtain ⟨ac,cc,rfl,_⟩:=ownC.rowF
   refine wp_append_rda (enc:=encR) _ (.tmp 51) (.tmp 56) 85 rfl wd.heap.size 199 (.agg #[.string ByteArray.empty,.string ByteArray.empty]) 2 32 Tryz.underlying85 Tryz.infoRw rfl (by omega) (by omega) _ _ ownC rfl _ aT T.2.length cT T.2 RT4.1 RT4.2.2.2 (fun _=>rfl) (by simp [encR,Value.oneCell']) rfl (by omega) (by omega) (by omega) ?_
   intro v9 w9 own9 ch0 ch1 _
   rw [← HLL.out] at own9
   have K9:=lH (show Ex w3 w9 from Chg.trans hHeld (ch1.mono (fun x hx=>by have:x<w3.heap.size:=hx;omega)))
   have O9:=lH (own9.base (show b0≤wd.heap.size by omega))
   obtain ⟨a9,c9,rfl,_⟩:=own9.rowF
   obtain ⟨_,_,_,_,e9,⟨_,f9⟩,_,_⟩:=(M3.out.nx K9.out).cells HT.out
   clear own9 ch0 ch1 RT4 ownC
   refine hK.out _ _ ?_
   clear hK K
   try simp only [Act.put,sA,sB,sC]
   refine wpAnyL_takeP (i:=11) (oi:=⟨_,_,_,_,_,_⟩) (v:=?_) rfl (by kernel_rfl) (by kernel_rfl) (by kernel_rfl) (fun _ _ _ h=>h) (Or.inl ⟨by rfl,?y60⟩) ?_
   case y60=>intro wq hSw;go_simp<;>rfl
   try simp only [Act.put,sA,sB,sC]
   refine wpAnyL_takeP (i:=12) (oi:=⟨_,_,_,_,_,_⟩) (v:=?_) rfl (by kernel_rfl) (by kernel_rfl) (by kernel_rfl) (fun _ _ _ h=>h) (Or.inl ⟨by rfl,?y63⟩) ?_
   case y63=>intro wq hSw;go_simp<;>rfl
   try simp only [Act.put,sA,sB,sC]
   refine rLL 13 (by kernel_rfl) rfl (by rfl) fun K hK=>?_
   go_simp
   refine hK.out _ _ ?_
   clear hK K
   try simp only [Act.put,sA,sB,sC]
   refine wpAnyL_done (by kernel_rfl) ?_ _
   clear hHeld hDrew e9 f9
   obtain ⟨wA,hwA⟩:∃ wA,wA=w9.setCell ⟨g,t*4+3,none⟩ (.slice a9 LL.length c9):=⟨_,rfl⟩
   rw [← hwA]
   have M9:=M3.out.nx K9.out
   have MA:=lH (show MidX b0 g n cg wA (H.set t (T.1,LL)) from by
    rw [hwA]
    exact M9.setRow HT.out (hdr:=(a9,LL.length,c9)) (M9.rowM O9.out))
   have NA:=lH (show Blk wA g13 [.int .i64 F.1.id,.string F.1.key,.int .u32 F.1.word,.slice aF F.2.length cF] 91 from by
    rw [hwA]
    exact (N3.out.nx K9.out).chg ((Chg.refl (·≠g) _).setCell (p:=⟨g,t*4+3,none⟩) _ (fun _ hx=>hx)) (fun e=>hg13g e.symm))
   have KA:=lH (show Ex w wA from by rw [hwA];exact (KW3.out.nx K9.out).setNew (p:=⟨g,t*4+3,none⟩) _ hwg)
   have HA:Hid ((H.set t (T.1,LL))[t]?=some (T.1,LL)):=lH (by rw [List.getElem?_set_self (by omega)])
   obtain ⟨_,_,ek,_,_,⟨fk,_⟩,_,_⟩:=MA.out.cells HA.out
   have nk:=NA.out.cell 1 _ rfl
   have RES:=lH (show MidX b0 g n cg (wA.setCell ⟨g,t*4+1,none⟩ (.string F.1.key)) H1 from by
    have:=MA.out.setKey HA.out F.1.key
    rw [List.set_set] at this
    rw [HH1.out,HT'.out]
    exact this)
   have RN:=lH (NA.out.chg ((Chg.refl (·≠g) wA).setCell (p:=⟨g,t*4+1,none⟩) (.string F.1.key) (fun _ hx=>hx)) (fun e=>hg13g e.symm))
   have RK:=lH (KA.out.setNew (p:=⟨g,t*4+1,none⟩) (.string F.1.key) hwg)
   have RC:=lH (show (wA.setCell ⟨g,t*4+1,none⟩ (.string F.1.key)).cell? ⟨g,b*4+3,none⟩=some (.slice (some ⟨x,o,none⟩) B.2.length cB) from by
    refine (World.cell?_setCell_other _ _ _ _ (by intro e;injection e with _ e2 _;omega)).trans ?_
    rw [hwA]
    exact (World.cell?_setCell_other _ _ _ _ (by intro e;injection e with _ e2 _;omega)).trans (BC.out _ K9.out))
   clear hwA M9
   go_wp2_with fail
   go_meet
   exact ⟨RES.out,RN.out,RK.out,trivial,RC.out⟩
  ·have dup:¬ (t:Int)>(f:Int):=by omega
   obtain ⟨LL,hLL⟩:∃ LL,LL=T.2++F.2:=⟨_,rfl⟩
   have HLL:=lH hLL
   have HT':Hid (T'=(T.1,LL)):=lH (by rw [hT',hLL])
   clear hLL hT' h1
   go_upto_region 10 with fail
   refine wp_region_late_drew (S:=Ex w3) [9,12] (by kernel_rfl) ((Ex.refl w3).drew) (fun hHeld=>?_)
   obtain ⟨wd,hwdx⟩:∃ wd:World,wd=World.drew w3:=⟨_,rfl⟩
   rw [← hwdx] at hHeld ⊢
   have hDrew:Ex w3 wd:=by rw [hwdx];exact (Ex.refl w3).drew
   clear hwdx
   refine wpAnyL_takeP (i:=0) (oi:=⟨_,_,_,_,_,_⟩) (v:=?_) rfl (by kernel_rfl) (by kernel_rfl) (by kernel_rfl) (fun _ _ _ h=>h) (Or.inl ⟨by rfl,?y5⟩) ?_
   case y5=>intro wq hSw;go_simp<;>rfl
   try simp only [Act.put,sA,sB,sC]
   refine wpAnyL_takeP (i:=1) (oi:=⟨_,_,_,_,_,_⟩) (v:=?_) rfl (by kernel_rfl) (by kernel_rfl) (by kernel_rfl) (fun _ _ _ h=>h) (Or.inl ⟨by rfl,?y8⟩) ?_
   case y8=>intro wq hSw;go_simp<;>rfl
   try simp only [Act.put,sA,sB,sC]
   refine tkL 2 (v:=?_) rfl (by kernel_rfl) (fun _ _ _ h=>h) (by rfl) ?y11 hHeld ?_
   case y11=>intro wq hSw;go_simp<;>rfl
   try simp only [Act.put,sA,sB,sC]
   refine tkL 3 (v:=?_) rfl (by kernel_rfl) (fun _ _ _ h=>h) (by rfl) ?y14 hHeld ?_
   case y14=>intro wq hSw;go_simp<;>rfl
   try simp only [Act.put,sA,sB,sC]
   refine tkL 4 (v:=?_) rfl (by kernel_rfl) (fun _ _ _ h=>h) (by rfl) ?y17 hHeld ?_
   case y17=>intro wq hSw;go_simp<;>rfl
   try simp only [Act.put,sA,sB,sC]
   refine tkL 5 (v:=?_) rfl (by kernel_rfl) (fun _ _ _ h=>h) (by rfl) ?y20 hHeld ?_
   case y20=>intro wq hSw;go_simp<;>rfl
   try simp only [Act.put,sA,sB,sC]
   refine tkL 6 (v:=?_) rfl (by kernel_rfl) (fun _ _ _ h=>h) (by rfl) ?y23 hHeld ?_
   case y23=>intro wq hSw;(have cq:=TC.out _ hSw;go_simp)<;>rfl
   try simp only [Act.put,sA,sB,sC]
   refine tkL 7 (v:=?_) rfl (by kernel_rfl) (fun _ _ _ h=>h) (by rfl) ?y26 hHeld ?_
   case y26=>intro wq hSw;go_simp<;>rfl
   try simp only [Act.put,sA,sB,sC]
   refine tkL 8 (v:=?_) rfl (by kernel_rfl) (fun _ _ _ h=>h) (by rfl) ?y29 hHeld ?_
   case y29=>intro wq hSw;(have cq:=(N3.out.nx hSw).cell 3 _ rfl;go_simp)<;>rfl
   try simp only [Act.put,sA,sB,sC]
   refine rLL 9 (by kernel_rfl) rfl (by rfl) fun K hK=>?_
   rw [if_pos (by rfl)]
   have RF4:=RowL.nx (RowR.l RFH.out) hHeld
   have OT4:=OTH.out.nx hHeld
   have zd:=hHeld.size
   refine wp_append_rda (enc:=encR) _ (.tmp 74) (.tmp 76) 85 rfl b0 199 (.agg #[.string ByteArray.empty,.string ByteArray.empty]) 2 32 Tryz.underlying85 Tryz.infoRw rfl (by omega) (by omega) _ _ OT4 rfl _ aF F.2.length cF F.2 RF4.1 RF4.2.2.2 (fun _=>rfl) (by simp [encR,Value.oneCell']) rfl (by omega) (by omega) (by omega) ?_
   intro v9 w9 own9 ch0 ch1 _
   rw [← HLL.out] at own9
   obtain ⟨a9,c9,rfl,_⟩:=own9.rowF
   have OW4:=OH3.out.nx hHeld
   have ch2:=ch0
   rw [← ET.out] at ch2
   have MA:=lH (MidX.app OW4 HQT.out HT.out (hdr:=(a9,LL.length,c9)) own9 ch2)
   have N9:=(N3.out.nx hHeld).chg ch0 (And.intro (N3.out.nx hHeld).lt (fun e=>own_ty2 OT4 (N3.out.nx hHeld) e))
   have row9:=OW4.1.chg ch2 (fun y hy hv=>⟨hy,by obtain rfl:g=y:=(by simpa [Value.ownBlock] using hv);intro e9;exact own_ty (OW4.2.2.1 _ _ _ HQT.out HT.out).2 OW4.1 (by decide) e9 rfl⟩)
   have f9:=(row9.set1 encHg_len HQT.out (c:=3) (by omega)).2.1
   have e9:=(row9.set1 encHg_len HQT.out (c:=3) (by omega)).1
   rw [show (encP encN qT)[3]?=some qT.2.val from rfl] at e9
   have K9:=lH (show Ex w w9 from Chg.trans KW3.out (Chg.trans (hHeld.mono (fun y hy=>by have hy':y<w.heap.size:=hy;have:=KW3.out.size;show y<w3.heap.size;omega)) (ch1.mono (fun y hy=>by have hy':y<w.heap.size:=hy;have:=ZB.out;show y<b0;omega))))
   have N9:=lH N9
   have B9:=lH (ch0.cellv (BC.out _ hHeld) (And.intro (Nat.lt_of_lt_of_le zg3 hHeld.size) (fun e10=>own_ty OT4 OW4.1 (by decide) e10 rfl)))
   clear own9 ch0 ch1 ch2 RF4 OT4 OW4 row9 zd
   refine hK.out _ _ ?_
   clear hK K
   try simp only [Act.put,sA,sB,sC]
   refine wpAnyL_takeP (i:=10) (oi:=⟨_,_,_,_,_,_⟩) (v:=?_) rfl (by kernel_rfl) (by kernel_rfl) (by kernel_rfl) (fun _ _ _ h=>h) (Or.inl ⟨by rfl,?y58⟩) ?_
   case y58=>intro wq hSw;go_simp<;>rfl
   try simp only [Act.put,sA,sB,sC]
   refine wpAnyL_takeP (i:=11) (oi:=⟨_,_,_,_,_,_⟩) (v:=?_) rfl (by kernel_rfl) (by kernel_rfl) (by kernel_rfl) (fun _ _ _ h=>h) (Or.inl ⟨by rfl,?y61⟩) ?_
   case y61=>intro wq hSw;go_simp<;>rfl
   try simp only [Act.put,sA,sB,sC]
   refine rLL 12 (by kernel_rfl) rfl (by rfl) fun K hK=>?_
   go_simp
   refine hK.out _ _ ?_
   clear hK K
   try simp only [Act.put,sA,sB,sC]
   refine wpAnyL_done (by kernel_rfl) ?_ _
   clear hHeld hDrew e9 f9
   have RES:=lH (show MidX b0 g n cg (w9.setCell ⟨g,t*4+3,none⟩ (.slice a9 LL.length c9)) H1 from by
    rw [HH1.out,HT'.out]
    exact MA.out)
   have RN:=lH (N9.out.chg ((Chg.refl (·≠g) w9).setCell (p:=⟨g,t*4+3,none⟩) (.slice a9 LL.length c9) (fun _ hx=>hx)) (fun e=>hg13g e.symm))
   have RK:=lH (K9.out.setNew (p:=⟨g,t*4+3,none⟩) (.slice a9 LL.length c9) hwg)
   have RC:=lH (show (w9.setCell ⟨g,t*4+3,none⟩ (.slice a9 LL.length c9)).cell? ⟨g,b*4+3,none⟩=some (.slice (some ⟨x,o,none⟩) B.2.length cB) from by
    exact (World.cell?_setCell_other _ _ _ _ (by intro e;injection e with _ e2 _;omega)).trans B9.out)
   go_wp2_with fail
   go_meet
   exact ⟨RES.out,RN.out,RK.out,trivial,RC.out⟩
 case rest =>
  rename World=>w4
  obtain ⟨mh,bh,kh,_,cq⟩:=hcut
  have M4:=lH mh
  have N4:=lH bh
  have K4:=lH kh
  clear mh bh kh M3 N3 OH3 RFH OTH RTH TC M2 OHH KW3 BC
  obtain ⟨hd',_,_,_,cq',⟨_,ff⟩,hd2,RB⟩:=M4.out.cells HB1.out
  obtain ⟨aB',nB',cB'⟩:=hd'
  simp only at hd2 RB cq'
  rw [cq] at cq'
  simp only [Option.some.injEq,Value.slice.injEq] at cq'
  obtain ⟨e1,_,e3⟩:=cq'
  subst e1 e3
  clear hd2
  have RBH:=lH RB
  have hcap:B.2.length≤cB:=RB.2.1
  obtain ⟨p,hp⟩:∃ p,p=P.length:=⟨_,rfl⟩
  have hpl:p+cnt=B.2.length:=by rw [HP.out,← HQ.out,hp];simp
  have hp1:0<p:=by omega
  have hpw:IntKind.i64.wrap ((B.2.length:Int)-(cnt:Int))=(p:Int):=by rw [IntWalk.i64_in _ (by omega)];omega
  have PT:Hid (B.2.take p=P):=lH (by rw [HP.out,hp];simp)
  have PDH:Hid (B.2.drop p=r::Q):=lH (by rw [HP.out,hp];simp)
  have PRH:Hid (B.2[p]?=some r):=lH (by rw [HP.out,hp];simp)
  have hpB:p≤B.2.length:=by omega
  have hcBp:¬ cB=p:=by omega
  have d1:¬ (cnt:Int)<1:=by omega
  have d2:¬ (p:Int)<1:=by omega
  have dd1:decide ((cnt:Int)<1)=false:=by simp;omega
  have zn4:=N4.out.lt
  have zg4:=M4.out.fact.2.2.1
  clear hp RB
  go_upto_region 16 with fail
  obtain ⟨w5,hw5⟩:∃ w5,w5=w4.setCell ⟨g,b*4+3,none⟩ (.slice (some ⟨x,o,none⟩) p p):=⟨_,rfl⟩
  rw [← hw5]
  obtain ⟨H2,hH2⟩:∃ H2,H2=H1.set b (B.1,P):=⟨_,rfl⟩
  rw [← hH2] at FIN LEN
  have HH2:=lH hH2
  have M5:=lH (show MidX b0 g n cg w5 H2 from by
   rw [hw5,hH2,← PT.out]
   exact M4.out.setRow HB1.out (hdr:=(some ⟨x,o,none⟩,p,p)) (RBH.out.cutm hpB))
  have N5:=lH (show Blk w5 g13 [.int .i64 F.1.id,.string F.1.key,.int .u32 F.1.word,.slice aF F.2.length cF] 91 from by
   rw [hw5]
   exact N4.out.chg ((Chg.refl (·≠g) _).setCell (p:=⟨g,b*4+3,none⟩) _ (fun _ hx=>hx)) (fun e=>hg13g e.symm))
  have K5:=lH (show Ex w w5 from by rw [hw5];exact K4.out.setNew (p:=⟨g,b*4+3,none⟩) _ hwg)
  have RB5:=lH (RBH.out.mnb (show Exb g w4 w5 from by rw [hw5];exact (Exb.refl g w4).setB (p:=⟨g,b*4+3,none⟩) _ rfl))
  have hH2n:H2.length=n:=by rw [hH2,List.length_set];exact hH1n
  have hcF:B.2.length-p≤100000:=by omega
  have z5:b0≤w5.heap.size:=by have:=M5.out.fact;omega
  obtain ⟨LL,hLL⟩:∃ LL,LL=r::Q:=⟨_,rfl⟩
  rw [← hLL] at FIN LEN PDH
  have HLL:=lH hLL
  have dpl:(p:Int)<(B.2.length:Int):=by omega
  have KEY:Hid (∀ wq,Exb g13 w5 wq→wq.cell? ⟨x,o+p*2,none⟩=some (.string r.1)):=lH (by
   obtain ⟨x',o',r',e',_,hr',er,_⟩:=RB5.out.at (show p<B.2.length by omega)
   simp only at e'
   cases e'
   obtain rfl:r'=r:=Option.some.inj (hr'.symm.trans PRH.out)
   have:=N5.out.lt
   intro wq kq
   exact kq.cellv er ⟨by show x<w5.heap.size;omega,by show x≠g13;omega⟩)
  clear hw5 hH2 hLL cq ff hpw M4 N4 K4 RBH
  refine wp_region_held_drew (S:=Exb g13 w5) (by kernel_rfl) ((Exb.refl g13 w5).drew) (fun hHeld=>?_)
  obtain ⟨wd,hwdx⟩:∃ wd:World,wd=World.drew w5:=⟨_,rfl⟩
  rw [← hwdx] at hHeld ⊢
  have hDrew:Ex w5 wd:=by rw [hwdx];exact (Ex.refl w5).drew
  clear hwdx
  refine tkH 0 (v:=?_) rfl (by kernel_rfl) (fun _ _ _ h=>h) (by rfl) ?y5 hHeld ?_
  case y5=>intro wq hSw;go_simp<;>rfl
  try simp only [Act.put,sA,sB,sC]
  refine tkH 1 (v:=?_) rfl (by kernel_rfl) (fun _ _ _ h=>h) (by rfl) ?y8 hHeld ?_
  case y8=>intro wq hSw;go_simp<;>rfl
  try simp only [Act.put,sA,sB,sC]
  refine tkH 2 (v:=?_) rfl (by kernel_rfl) (fun _ _ _ h=>h) (by rfl) ?y11 hHeld ?_
  case y11=>intro wq hSw;go_simp<;>rfl
  try simp only [Act.put,sA,sB,sC]
  refine tkH 4 (v:=?_) rfl (by kernel_rfl) (fun _ _ _ h=>h) (by rfl) ?y14 hHeld ?_
  case y14=>intro wq hSw;go_simp<;>rfl
  try simp only [Act.put,sA,sB,sC]
  refine tkH 5 (v:=?_) rfl (by kernel_rfl) (fun _ _ _ h=>h) (by rfl) ?y17 hHeld ?_
  case y17=>intro wq hSw;go_simp<;>rfl
  try simp only [Act.put,sA,sB,sC]
  refine tkH 6 (v:=?_) rfl (by kernel_rfl) (fun _ _ _ h=>h) (by rfl) ?y20 hHeld ?_
  case y20=>intro wq hSw;go_simp<;>rfl
  try simp only [Act.put,sA,sB,sC]
  refine tkH 7 (v:=?_) rfl (by kernel_rfl) (fun _ _ _ h=>h) (by rfl) ?y23 hHeld ?_
  case y23=>intro wq hSw;go_simp<;>rfl
  try simp only [Act.put,sA,sB,sC]
  refine tkH 8 (v:=?_) rfl (by kernel_rfl) (fun _ _ _ h=>h) (by rfl) ?y26 hHeld ?_
  case y26=>intro wq hSw;(have cq:=KEY.out _ hSw;go_simp)<;>rfl
  try simp only [Act.put,sA,sB,sC]
  refine rH 3 (by kernel_rfl) rfl fun K hK=>?_
  go_simp
  (with_reducible refine (cloneR_p (some ⟨x,o+p*2,none⟩) (B.2.length-p) (cB-p) (B.2.drop p) _ (RowL.nx (RB5.out.ml.fromm hpB) hDrew) hcF).mono ?_)
  rintro e wa ⟨vc,rfl,ownC,kk⟩
  rw [PDH.out] at ownC
  have zd:=hHeld.size
  replace hHeld:=hHeld.nxb (kk.b g13)
  have own9:=ownC.base (show b0≤wd.heap.size by omega)
  obtain ⟨ac,cc,rfl,_⟩:=own9.rowF
  have NA:=N5.out.nx (hDrew.nx kk)
  have NB:=NA.set 3 (.slice ac LL.length cc)
  have r3:=NA.cell 3 _ rfl
  have f3:=NA.free 3
  have r1:=NB.cell 1 _ rfl
  have f1:=NB.free 1
  have O9:=lH own9
  have KWA:=lH (K5.out.nx (hDrew.nx kk))
  have MWA:=lH (M5.out.nx (hDrew.nx kk))
  have NBH:=lH NB
  have N5A:=lH NA
  clear kk NA NB ownC own9
  refine hK.out _ _ (hHeld) (fun hHeld=>?_)
  clear hK K
  try simp only [Act.put,sA,sB,sC]
  refine tkH 9 (v:=?_) rfl (by kernel_rfl) (fun _ _ _ h=>h) (by rfl) ?y54 hHeld ?_
  case y54=>intro wq hSw;go_simp<;>rfl
  try simp only [Act.put,sA,sB,sC]
  refine rH 10 (by kernel_rfl) rfl fun K hK=>?_
  go_simp
  refine hK.out _ _ (hHeld.setB (p:=⟨g13,3,none⟩) _ rfl) (fun hHeld=>?_)
  clear hK K
  try simp only [Act.put,sA,sB,sC]
  refine tkH 11 (v:=?_) rfl (by kernel_rfl) (fun _ _ _ h=>h) (by rfl) ?y63 hHeld ?_
  case y63=>intro wq hSw;go_simp<;>rfl
  try simp only [Act.put,sA,sB,sC]
  refine tkH 12 (v:=?_) rfl (by kernel_rfl) (fun _ _ _ h=>h) (by rfl) ?y66 hHeld ?_
  case y66=>intro wq hSw;go_simp<;>rfl
  try simp only [Act.put,sA,sB,sC]
  refine rH 13 (by kernel_rfl) rfl fun K hK=>?_
  go_simp
  refine hK.out _ _ (hHeld.setB (p:=⟨g13,1,none⟩) _ rfl) (fun hHeld=>?_)
  clear hK K
  try simp only [Act.put,sA,sB,sC]
  refine wpAnyH_done (by kernel_rfl) ?_ _
  obtain ⟨w6,hw6⟩:∃ w6,w6=(wa.setCell ⟨g13,3,none⟩ (.slice ac LL.length cc)).setCell ⟨g13,1,none⟩ (.string r.1):=⟨_,rfl⟩
  rw [← hw6]
  have C1:Chg (·≠g13) wa w6:=by rw [hw6];exact ((Chg.refl (·≠g13) wa).setCell (p:=⟨g13,3,none⟩) _ (fun _ hx=>hx)).setCell (p:=⟨g13,1,none⟩) _ (fun _ hx=>hx)
  have N6:=lH (show Blk w6 g13 [.int .i64 F.1.id,.string r.1,.int .u32 F.1.word,.slice ac LL.length cc] 91 from by rw [hw6];exact NBH.out.set 1 _)
  have M6:=lH (show MidX b0 g n cg w6 H2 from MWA.out.far (N5A.out) hg13g C1)
  have K6:=lH (show Ex w w6 from by rw [hw6];exact (KWA.out.setNew (p:=⟨g13,3,none⟩) _ hw13).setNew (p:=⟨g13,1,none⟩) _ hw13)
  have RO6:=lH (show RowR (MemL b0 w6) w6 (ac,LL.length,cc) LL from by
   have hw:=O9.out.rowM MWA.out.choose_spec.1 (hd:=(ac,LL.length,cc)) rfl
   have nr:∀ y,IsRow wa y→y≠g13:=fun y hy e=>by
    obtain ⟨cur,fr,e1⟩:=hy
    have e2:wa.heap[g13]?=_:=N5A.out
    rw [e,e2] at e1
    simp at e1
   exact RowR.mono (RowR.chg hw C1 (fun y hy=>nr y hy.2.2.2)) (fun y hy=>⟨hy.1,Nat.lt_of_lt_of_le hy.2.1 C1.size,hy.2.2.2.chg C1 (nr y hy.2.2.2)⟩))
  obtain ⟨nd,hnd⟩:∃ nd:Hg,nd=({ F.1 with key:=r.1 },LL):=⟨_,rfl⟩
  rw [← hnd] at FIN LEN
  have HND:=lH hnd
  have z6:b0≤w6.heap.size:=by have:=M6.out.fact;omega
  have hQn:LL.length≤1024:=by rw [HLL.out];simp;have:=HQ.out;omega
  clear hw6 C1 hnd hHeld hDrew r3 f3 r1 f1 M5 N5 RB5 KEY K5 NBH KWA MWA O9 N5A
  go_wp2_with fail
  go_loopw [16,117] (fun out i wr=>OutRel b0 w6 f b nd H2 out i wr) (fun _ i _=>n-(intOf i).toNat)
  case atStart=>exact ⟨0,[],by omega,rfl,OwnL.nil _ _ _ _ _,⟨rfl,by intro j q d h;simp at h⟩,Ex.refl _⟩
  case round =>
   obtain ⟨k,qz,hk,rfl,own,ra,kw⟩:=hrel
   obtain ⟨wi,rfl⟩:∃ wi:World,wi=wr:=⟨_,rfl⟩
   have KW:=lH kw
   have OWN:=lH own
   have RA:=lH ra
   by_cases hkn:k<n
   ·obtain ⟨d,hd⟩:∃ d,H2[k]?=some d:=⟨_,List.getElem?_eq_getElem (by omega)⟩
    obtain ⟨hd',e0,e1,e2,e3,_,hd2,RD⟩:=M6.out.cells hd
    obtain ⟨aD,nD,cD⟩:=hd'
    simp only at hd2 RD e3
    subst hd2
    have zg6:g<w6.heap.size:=M6.out.fact.2.2.1
    have RDH:=lH (show RowR (MemL b0 w6) w6 (aD,d.2.length,cD) d.2 from RowR.mono RD (fun y hy=>⟨hy.1,hy.2.1,hy.2.2.2⟩))
    replace e0:=kw.cellv e0 zg6
    replace e1:=kw.cellv e1 zg6
    replace e2:=kw.cellv e2 zg6
    replace e3:=kw.cellv e3 zg6
    have TK:=lH (outF_take (f:=f) (b:=b) (nd:=nd) hd)
    have hol:qz.length≤1000:=by rw [ra.1];have:=outF_len f b nd (H2.take k) 0;rw [List.length_take] at this;omega
    have zw:=kw.size
    have hknI:(k:Int)<(n:Int):=by omega
    clear hd own ra kw RD
    have B18:=Blk.new wi [.int .i64 d.1.id,.string d.1.key,.int .u32 d.1.word,.slice aD d.2.length cD] 91
    have kk:=Ex.new wi (.cells #[.int .i64 d.1.id,.string d.1.key,.int .u32 d.1.word,.slice aD d.2.length cD] 91)
    obtain ⟨wj,hwj⟩:∃ wj,wj=wi.alloc (.cells #[.int .i64 d.1.id,.string d.1.key,.int .u32 d.1.word,.slice aD d.2.length cD] 91):=⟨_,rfl⟩
    obtain ⟨g18,hg18⟩:∃ g18,g18=wi.heap.size:=⟨_,rfl⟩
    replace B18:Blk wj g18 [.int .i64 d.1.id,.string d.1.key,.int .u32 d.1.word,.slice aD d.2.length cD] 91:=by rw [hwj,hg18];exact B18
    rw [← hwj] at kk
    have Hwj:=lH hwj
    have Hg18:=lH hg18
    have KJ:=lH (KW.out.nx kk)
    have own1:=OWN.out.nx kk
    have RA1:=lH (RA.out.nx kk (fun y hy=>Nat.lt_of_lt_of_le hy (by omega)))
    have z1:=kk.size
    clear kk hwj hg18
    go_upto_region 21 with fail
    rw [← Hg18.out,← Hwj.out]
    clear Hg18 Hwj
    clear e0 e1 e2 e3
    by_cases hkf:k=f
    ·have df:((k:Int)==(f:Int))=true:=by simp;omega
     have df2:(k:Int)=(f:Int):=by omega
     have db2:¬ (k:Int)=(b:Int):=by omega
     have RR:=lH (show OutRel b0 w6 f b nd H2 u16 (.int .i64 ((k:Int)+1)) wj from ⟨k+1,qz,by omega,by go_num,own1,by rw [TK.out,if_pos hkf,if_neg (by omega)];simpa using RA1.out,KJ.out⟩)
     subst hkf
     clear own1 B18
     go_wp2_with fail
     exact ⟨RR.out,by simp [intOf];omega⟩
    ·have df2:¬ (k:Int)=(f:Int):=by omega
     have dfe:((k:Int)==(f:Int))=false:=by simp;omega
     have c0:=B18.cell 0 _ rfl
     have c1:=B18.cell 1 _ rfl
     have c2:=B18.cell 2 _ rfl
     have c3:=B18.cell 3 _ rfl
     obtain ⟨ws,hws⟩:∃ ws,ws=wj.alloc (.cells #[.int .i64 d.1.id,.string d.1.key,.int .u32 d.1.word,.slice aD d.2.length cD] 91):=⟨_,rfl⟩
     have k5:Ex wj ws:=by rw [hws];exact Ex.new wj _
     have SX:Sl 4 (encP encN) ws (some ⟨wj.heap.size,0,none⟩) 1 [(d.1,(aD,d.2.length,cD))]:=by rw [hws];exact Sl.lit _ rfl rfl (fun _=>rfl) rfl
     have own5:=own1.nx k5
     have z5:=k5.size
     have RA5:=lH (RA1.out.nx k5 (fun y hy=>Nat.lt_of_lt_of_le hy (by have:=KJ.out.size;omega)))
     have KS:=lH (KJ.out.nx k5)
     have B18S:=lH (B18.nx k5)
     rw [hws] at SX own5 z5
     clear own1 B18 k5 RA1
     go_upto_region 23 with (at_builtin;(refine wpList_append_rd (enc:=encP encN) _ rfl _ _ 202 rfl w6.heap.size 91 (.agg #[.int .i64 0,.string ByteArray.empty,.int .u32 0,.slice none 0 0]) 4 56 Tryz.underlying202 Tryz.infoHg rfl (by omega) (by omega) _ _ own5 rfl _ _ 1 1 [(d.1,(aD,d.2.length,cD))] SX (fun h=>by cases h) encHg_len encHg_one rfl (by omega) (by omega) (by omega) ?_);intro v7 w7 own7 ch0 ch1)
     rw [← hws] at ch0 ch1
     have RA7:=lH ((RA5.out.nx ch1 (fun y hy=>hy)).snoc (q:=(d.1,(aD,d.2.length,cD))) (d:=d) rfl (RowR.chg (RowR.chg RDH.out KS.out (fun y hy=>hy.2.1)) ch1 (fun y hy=>hy.2.1)))
     have K7:=lH (show Ex w6 w7 from KS.out.trans ch1)
     have OW7:=lH own7
     have hol7:(qz++[(d.1,(aD,d.2.length,cD))]).length≤1001:=by rw [List.length_append];simp;omega
     obtain ⟨q7,hq7⟩:∃ q7,q7=qz++[(d.1,(aD,d.2.length,cD))]:=⟨_,rfl⟩
     rw [← hq7] at RA7 OW7 hol7
     clear own7 ch0 ch1 SX own5 hws RA5 KS B18S c0 c1 c2 c3 hq7
     by_cases hkb:k=b
     ·have db2:(k:Int)=(b:Int):=by omega
      have dbe2:((k:Int)==(b:Int))=true:=by simp;omega
      have N7:=N6.out.nx K7.out
      have c0:=N7.cell 0 _ rfl
      have c1:=N7.cell 1 _ rfl
      have c2:=N7.cell 2 _ rfl
      have c3:=N7.cell 3 _ rfl
      have z7:=K7.out.size
      obtain ⟨wt,hwt⟩:∃ wt,wt=w7.alloc (.cells #[.int .i64 F.1.id,.string r.1,.int .u32 F.1.word,.slice ac LL.length cc] 91):=⟨_,rfl⟩
      have k8:Ex w7 wt:=by rw [hwt];exact Ex.new w7 _
      have SY:Sl 4 (encP encN) wt (some ⟨w7.heap.size,0,none⟩) 1 [(({ F.1 with key:=r.1 }:Nd),(ac,LL.length,cc))]:=by rw [hwt];exact Sl.lit _ rfl rfl (fun _=>rfl) rfl
      have own8:=OW7.out.nx k8
      have z8:=k8.size
      have RA8:=lH (RA7.out.nx k8 (fun y hy=>Nat.lt_of_lt_of_le hy (by omega)))
      have KT:=lH (K7.out.nx k8)
      rw [hwt] at SY own8 z8
      clear k8 RA7 OW7 N7
      go_upto_region 25 with (at_builtin;(refine wpList_append_rd (enc:=encP encN) _ rfl _ _ 202 rfl w6.heap.size 91 (.agg #[.int .i64 0,.string ByteArray.empty,.int .u32 0,.slice none 0 0]) 4 56 Tryz.underlying202 Tryz.infoHg rfl (by omega) (by omega) _ _ own8 rfl _ _ 1 1 [(({ F.1 with key:=r.1 }:Nd),(ac,LL.length,cc))] SY (fun h=>by cases h) encHg_len encHg_one rfl (by omega) (by omega) (by omega) ?_);intro v9 w9 own9 ch0 ch1)
      rw [← hwt] at ch0 ch1
      have RA9:=lH ((RA8.out.nx ch1 (fun y hy=>hy)).snoc (q:=(({ F.1 with key:=r.1 }:Nd),(ac,LL.length,cc))) (d:=nd) (by rw [HND.out]) (by rw [HND.out];exact RowR.chg (RowR.chg RO6.out KT.out (fun y hy=>hy.2.1)) ch1 (fun y hy=>hy.2.1)))
      have K9:=lH (show Ex w6 w9 from KT.out.trans ch1)
      have RR:=lH (show OutRel b0 w6 f b nd H2 v9 (.int .i64 ((k:Int)+1)) w9 from ⟨k+1,_,by omega,by go_num,own9,by rw [TK.out,if_neg hkf,if_pos hkb,← List.append_assoc];exact RA9.out,K9.out⟩)
      clear own9 ch0 ch1 SY own8 hwt RA8 KT c0 c1 c2 c3
      go_wp2_with fail
      exact ⟨by have h:=RR.out;rw [db2] at h;exact h,by simp [intOf];omega⟩
     ·have db2:¬ (k:Int)=(b:Int):=by omega
      have dbe2:((k:Int)==(b:Int))=false:=by simp;omega
      have RR:=lH (show OutRel b0 w6 f b nd H2 v7 (.int .i64 ((k:Int)+1)) w7 from ⟨k+1,q7,by omega,by go_num,OW7.out,by rw [TK.out,if_neg hkf,if_neg hkb,List.append_nil];exact RA7.out,K7.out⟩)
      clear OW7 RA7 K7
      go_wp2_with fail
      exact ⟨RR.out,by simp [intOf];omega⟩
   ·obtain rfl:k=n:=by omega
    rw [List.take_of_length_le (by omega)] at ra
    have hln:qz.length=k:=by rw [ra.1];exact LEN.out
    obtain ⟨g',cg',e⟩:=own.toW.hd0 (by intro h;rw [h] at hln;simp at hln;omega)
    rw [hln] at e
    subst e
    obtain ⟨dd,H',he,hk0⟩:=FIN.out
    have MZ:=ra.mid own kw z6
    have zg':=own.toW.at0.2.1
    rw [he] at MZ
    have MZH:=lH MZ
    have HE:=lH he
    have KZ:=lH (K6.out.nx kw)
    have zw6:=K6.out.size
    clear MZ he own ra kw OWN RA
    go_wp2_with fail
    (with_reducible refine (first_m b0 g' k cg' _ dd H' MZH.out hk0).mono ?_)
    rintro e wC ⟨rfl,MC,kb,zc⟩
    rw [← HE.out,HH2.out,HH1.out,HND.out,HLL.out] at MC
    have KC:Ex w wC:=Chg.trans KZ.out (kb.mono (fun y hy=>⟨by have:=KZ.out.size;omega,by have hy':y<w.heap.size:=hy;omega⟩))
    have ZC:=lH (HdS.mono MC.hdS (S':=fun x=>w.heap.size≤x∧x<wC.heap.size) (fun x hx=>⟨Nat.le_trans ZB.out hx.1,hx.2⟩))
    have KCH:=lH KC
    clear MC kb zc KC
    go_wp2_with fail
    refine bodyPost_ret (v:=.tuple #[.slice (some ⟨g',0,none⟩) k cg',.int .i64 0]) (by simp [results,Tryz.results50,go_sem, *]) rfl ⟨g',cg',rfl,ZC.out,KCH.out⟩
structure ShB (I0:List (Int×Nat)) (R:List Rw) (H res:List Hg):Prop where
 inv:InvB I0 R res
 iws:res.map iwH=H.map iwH
 pot:potB (loadsH res)+12≤potB (loadsH H)
structure MvdB (I0:List (Int×Nat)) (R:List Rw) (H res:List Hg) (id:Int):Prop where
 inv:InvB I0 R res
 but:SameBut id H res
 pot:potB (loadsH res)+12≤potB (loadsH H)
theorem shift_b (a:Option Addr) (n c:Nat) (H:List Hg) (N0:List Nd) (R:List Rw) (w:World) (h:HdL w (a,n,c) H) (hi:InvB (N0.map iwN) R H) (h0:checkN N0=0) (hR:TblOk R) (f t b cnt:Nat) (hs:stepBl (loadsH H)=some (1,f,t,b,cnt)) :
  Calls Tryz.prog 49 #[.slice a n c,.int .i64 f,.int .i64 t,.int .i64 cnt] w fun e w'=>∃ g c' res,e=.returned (.tuple #[.slice (some ⟨g,0,none⟩) n c',.int .i64 0]) ∧
   HdF w w' (some ⟨g,0,none⟩,n,c') res∧ShB (N0.map iwN) R H res∧Ex w w':=by
 have hl:=loads_len H
 rcases step_cases hs with ⟨i,k,hi1,e,h5,hk⟩ | ⟨i,k,hi1,e,h5,hk⟩ | ⟨_,_,_,_,e,_⟩
 ·simp only [Prod.mk.injEq,true_and] at e
  obtain ⟨rfl,rfl,_,rfl⟩:=e
  have hF:=List.getElem?_eq_getElem (show f<H.length by omega)
  have hT:=List.getElem?_eq_getElem (show f+1<H.length by omega)
  generalize H[f]'(by omega)=F at hF
  generalize H[f+1]'(by omega)=T at hT
  rw [gB_ld hF,gB_ld hT] at h5 hk
  obtain ⟨P,Q,r,hP,hP0,hPl,hQl⟩:=cut_rows (A:=F.2) (p:=F.2.length-cnt) (by omega) (by omega)
  have S:=shift_upL hi hF hT hP hP0 (hi.rsz hR (List.mem_of_getElem? hF) hP)
  have hpt:=pot_shift hk h5
  have hcq:cnt=Q.length+1:=by omega
  refine (shift_up a n c H N0 R w h hi h0 hR f cnt F T P Q r hF hT hP hP0 hcq).mono ?_
  rintro e w' ⟨g,c',h1,h2,h3⟩
  refine ⟨g,c',_,h1,h2,⟨S.inv,S.iws,?_⟩,h3⟩
  have hp:=S.pot
  unfold sqL at hp
  rw [hPl,← hcq] at hp
  omega
 ·simp only [Prod.mk.injEq,true_and] at e
  obtain ⟨rfl,rfl,_,rfl⟩:=e
  have hF:=List.getElem?_eq_getElem (show t+1<H.length by omega)
  have hT:=List.getElem?_eq_getElem (show t<H.length by omega)
  generalize H[t+1]'(by omega)=F at hF
  generalize H[t]'(by omega)=T at hT
  rw [gB_ld hF,gB_ld hT] at h5 hk
  obtain ⟨P,Q,r,hP,hP0,hPl,hQl⟩:=cut_rows (A:=F.2) (p:=cnt) (by omega) (by omega)
  have S:=shift_dnL hi hF hT hP hP0 (hi.rsz hR (List.mem_of_getElem? hF) hP)
  have hpt:=pot_shift hk h5
  refine (shift_dn a n c H N0 R w h hi h0 hR t cnt F T P Q r hF hT hP hP0 hPl.symm).mono ?_
  rintro e w' ⟨g,c',h1,h2,h3⟩
  refine ⟨g,c',_,h1,h2,⟨S.inv,S.iws,?_⟩,h3⟩
  have hp:=S.pot
  unfold sqL at hp
  rw [hPl,hQl] at hp
  omega
 ·simp at e
theorem move_b (a:Option Addr) (n c:Nat) (H:List Hg) (N0:List Nd) (R:List Rw) (w:World) (h:HdL w (a,n,c) H) (hi:InvB (N0.map iwN) R H) (h0:checkN N0=0) (hR:TblOk R) (f t b cnt:Nat) (hs:stepBl (loadsH H)=some (2,f,t,b,cnt)) (F:Hg) (hF:H[f]?=some F) :
  Calls Tryz.prog 50 #[.slice a n c,.int .i64 f,.int .i64 t,.int .i64 b,.int .i64 cnt] w fun e w'=>∃ g c' res,e=.returned (.tuple #[.slice (some ⟨g,0,none⟩) n c',.int .i64 0]) ∧
   HdF w w' (some ⟨g,0,none⟩,n,c') res∧MvdB (N0.map iwN) R H res F.1.id∧Ex w w':=by
 have hl:=loads_len H
 have hHn:H.length=n:=h.len
 rcases step_cases hs with ⟨i,k,hi1,e,_⟩ | ⟨i,k,hi1,e,_⟩ | ⟨f',t',b',k,e,h1,h2,h3,h4,hbf,hbt,hk,h5⟩
 ·simp at e
 ·simp at e
 ·simp only [Prod.mk.injEq,true_and] at e
  obtain ⟨rfl,rfl,rfl,rfl⟩:=e
  have hT:=List.getElem?_eq_getElem (show t<H.length by omega)
  have hB:=List.getElem?_eq_getElem (show b<H.length by omega)
  generalize H[t]'(by omega)=T at hT
  generalize H[b]'(by omega)=B at hB
  rw [gB_ld hB] at hk
  rw [gB_ld hF,gB_ld hT,gB_ld hB] at h5
  obtain ⟨P,Q,r,hP,hP0,hPl,hQl⟩:=cut_rows (A:=B.2) (p:=B.2.length-cnt) (by omega) (by omega)
  have hcq:cnt=Q.length+1:=by omega
  have hpt:=pot_move hk h5
  have hr:=hi.rsz hR (List.mem_of_getElem? hB) hP
  rcases h4 with rfl | rfl
  ·have S:=move_up hi hF hT hB hbf hbt hP hP0 hr
   refine (move_m a n c H N0 R w h hi h0 hR f (f+1) b cnt F T B _ P Q r hF hT hB (.inl ⟨rfl,rfl⟩) hbf hbt hP hP0 hcq S.inv.fst (by rw [S.len];exact hHn)).mono ?_
   rintro e w' ⟨g,c',h1,h2,h3⟩
   refine ⟨g,c',_,h1,h2,⟨S.inv,S.but,?_⟩,h3⟩
   have hp:=S.pot
   unfold sqL at hp
   rw [hPl,← hcq] at hp
   omega
  ·have S:=move_dn hi hF hT hB hbf hbt hP hP0 hr
   refine (move_m a n c H N0 R w h hi h0 hR (t+1) t b cnt F T B _ P Q r hF hT hB (.inr ⟨rfl,rfl⟩) hbf hbt hP hP0 hcq S.inv.fst (by rw [S.len];exact hHn)).mono ?_
   rintro e w' ⟨g,c',h1,h2,h3⟩
   refine ⟨g,c',_,h1,h2,⟨S.inv,S.but,?_⟩,h3⟩
   have hp:=S.pot
   unfold sqL at hp
   rw [hPl,← hcq] at hp
   omega
def LkX (b:Nat) (w:World) (a:Option Addr) (n:Nat) (LR:List Lkd):Prop:=∀ wq,Exb b w wq→LkL wq a n LR
theorem LkX.nxb {b:Nat} {w w':World} {a:Option Addr} {n:Nat} {LR:List Lkd} (h:LkX b w a n LR) (k:Exb b w w'):LkX b w' a n LR:=fun wq kq=>h wq (k.nxb kq)
theorem LkX.rd {b:Nat} {w:World} {a:Option Addr} {n:Nat} {LR:List Lkd} (h:LkX b w a n LR):LkL w a n LR:=h w (Exb.refl _ _)
end Go.Proofs.YthcholmhmcpooaaGreatDoor
