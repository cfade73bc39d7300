/- Texts for TopWireProof. -/
import Derived.Test.YthcholmhmcpooaaGreatDoorTopWireProofL2
set_option linter.unusedSimpArgs false
set_option linter.unusedVariables false

namespace Go.Proofs.YthcholmhmcpooaaGreatDoor
open Go.RowKit
set_option maxRecDepth 100000 in
set_option maxHeartbeats 4000000 in
theorem rstr_p (a:Option Addr) (n c:Nat) (R:List UInt8) (ok:Bool) (lim:Nat) (w:World) (h:Sl 1 encB w a n R) (hn:n≤9223372036854775807) (hc:n≤c) (hm:c≤maxLen) (hf:Form a c) (hlim:lim≤1000) :
  Calls Tryz.prog 99 #[.agg #[.slice a n c,.bool ok],.int .i64 lim] w (RdPost (.string (strN R lim).1) (R.drop (strN R lim).2.1) (ok&&((strN R lim).2.2==0)) a w):=by
 have hlen:=h.len
 have hk:(strN R lim).2.1≤R.length:=strN_take R lim
 rw [hlen] at hk
 have k1:=Ex.new w (.cells #[.slice a n c,.bool ok] 174)
 have B1:=Blk.new w [.slice a n c,.bool ok] 174
 obtain ⟨w1,hw1⟩:∃ w1,w1=w.alloc (.cells #[.slice a n c,.bool ok] 174):=⟨_,rfl⟩
 obtain ⟨g1,hg1⟩:∃ g1,g1=w.heap.size:=⟨_,rfl⟩
 have B1:Blk w1 g1 [.slice a n c,.bool ok] 174:=by rw [hw1,hg1];exact B1
 rw [← hw1] at k1
 have k2:=Ex.new w1 (.cells #[.slice none 0 0,.bool false] 174)
 have B2:=Blk.new w1 [.slice none 0 0,.bool false] 174
 obtain ⟨w2,hw2⟩:∃ w2,w2=w1.alloc (.cells #[.slice none 0 0,.bool false] 174):=⟨_,rfl⟩
 have hz1:w1.heap.size=w.heap.size+1:=by rw [hw1];simp
 obtain ⟨g2,hg2⟩:∃ g2,g2=w.heap.size+1:=⟨_,rfl⟩
 have B2:Blk w2 g2 [.slice none 0 0,.bool false] 174:=by rw [hw2,hg2,← hz1];exact B2
 rw [← hw2] at k2
 have hgg:g1≠g2:=by omega
 have hgw:w.heap.size≤g2:=by omega
 replace B1:=B1.nx k2
 have kk:=k1.nx k2
 have H2:=h.nx kk
 have HW1:=lH hw1
 have HG1:=lH hg1
 have HW2:=lH hw2
 have HG2:=lH hg2
 have HF:=lH hf
 have HS:=lH h
 clear hw1 hg1 hw2 hg2 k1 k2 h hf hlen hz1
 have p0:=B1.cell 0 _ rfl
 have p1:=B1.cell 1 _ rfl
 have q0:=B2.cell 0 _ rfl
 have q1:=B2.cell 1 _ rfl
 have z0:=B2.free 0
 have z1:=B2.free 1
 have hgg1:¬ g1=g2:=hgg
 go_enter Tryz.func99,Tryz.ntmps99
 go_upto_region 1 with fail
 rw [← HG2.out,← HG1.out,← HW1.out,← HW2.out]
 go_wp2_with fail
 (with_reducible refine (str_pN _ _ _ _ lim _ H2 hn hc hm (by omega)).mono ?_)
 rintro e w3 ⟨rfl,rfl⟩
 obtain ⟨⟨N,K,E⟩,hT⟩:∃ T,T=strN R lim:=⟨_,rfl⟩
 rw [← hT] at hk ⊢
 have HT:=lH hT
 simp only at hk ⊢
 clear hT
 have hkI:(K:Int)≤(n:Int):=by omega
 have K0:(0:Int)≤(K:Int):=by omega
 have hkc:(K:Int)≤(c:Int):=by omega
 rcases HF.out with ⟨rfl,rfl⟩ | ⟨x,o,rfl⟩
 ·obtain rfl:n=0:=by omega
  obtain rfl:K=0:=by omega
  cases ok with
  | false =>
   have HB:Hid ((false&&(E==0))=false):=lH (by simp [*])
   go_wp2_with fail
   refine wp_region_held_drew (S:=Chg (·≠g2) w2) (by kernel_rfl) ((Chg.refl _ w2).drew) (fun hHeld=>?_)
   refine tkH 0 (v:=?_) rfl (by kernel_rfl) (fun _ _ _ h=>h) (by rfl) ?y1 hHeld ?_
   case y1=>intro wq hSw;go_simp<;>rfl
   try simp only [Act.put,sA,sB,sC]
   refine tkH 1 (v:=?_) rfl (by kernel_rfl) (fun _ _ _ h=>h) (by rfl) ?y4 hHeld ?_
   case y4=>intro wq hSw;go_simp<;>rfl
   try simp only [Act.put,sA,sB,sC]
   refine tkH 2 (v:=?_) rfl (by kernel_rfl) (fun _ _ _ h=>h) (by rfl) ?y7 hHeld ?_
   case y7=>intro wq hSw;(have cq:=Chg.cellv hSw p0 hgg;go_simp)<;>rfl
   try simp only [Act.put,sA,sB,sC]
   refine tkH 3 (v:=?_) rfl (by kernel_rfl) (fun _ _ _ h=>h) (by rfl) ?y10 hHeld ?_
   case y10=>intro wq hSw;go_simp<;>rfl
   try simp only [Act.put,sA,sB,sC]
   refine tkH 4 (v:=?_) rfl (by kernel_rfl) (fun _ _ _ h=>h) (by rfl) ?y13 hHeld ?_
   case y13=>intro wq hSw;go_simp<;>rfl
   try simp only [Act.put,sA,sB,sC]
   refine tkH 5 (v:=?_) rfl (by kernel_rfl) (fun _ _ _ h=>h) (by rfl) ?y16 hHeld ?_
   case y16=>intro wq hSw;go_simp<;>rfl
   try simp only [Act.put,sA,sB,sC]
   refine tkH 6 (v:=?_) rfl (by kernel_rfl) (fun _ _ _ h=>h) (by rfl) ?y19 hHeld ?_
   case y19=>intro wq hSw;(have cq:=Chg.cellv hSw p1 hgg;go_simp)<;>rfl
   try simp only [Act.put,sA,sB,sC]
   refine tkH 7 (v:=?_) rfl (by kernel_rfl) (fun _ _ _ h=>h) (by rfl) ?y22 hHeld ?_
   case y22=>intro wq hSw;go_simp<;>rfl
   try simp only [Act.put,sA,sB,sC]
   refine wpAnyH_take (i:=8) (oi:=⟨_,_,_,_,_,_⟩) (v:=undef) rfl (by kernel_rfl) (by kernel_rfl) (by kernel_rfl) (fun _ _ _ h=>h) (Or.inr ⟨by rfl,rfl⟩) (by assumption) ?_
   try simp only [Act.put,sA,sB,sC]
   refine wpAnyH_take (i:=9) (oi:=⟨_,_,_,_,_,_⟩) (v:=undef) rfl (by kernel_rfl) (by kernel_rfl) (by kernel_rfl) (fun _ _ _ h=>h) (Or.inr ⟨by rfl,rfl⟩) (by assumption) ?_
   try simp only [Act.put,sA,sB,sC]
   refine tkH 10 (v:=?_) rfl (by kernel_rfl) (fun _ _ _ h=>h) (by rfl) ?y29 hHeld ?_
   case y29=>intro wq hSw;go_simp<;>rfl
   try simp only [Act.put,sA,sB,sC]
   refine tkH 11 (v:=?_) rfl (by kernel_rfl) (fun _ _ _ h=>h) (by rfl) ?y32 hHeld ?_
   case y32=>intro wq hSw;go_simp<;>rfl
   try simp only [Act.put,sA,sB,sC]
   refine tkH 12 (v:=?_) rfl (by kernel_rfl) (fun _ _ _ h=>h) (by rfl) ?y35 hHeld ?_
   case y35=>intro wq hSw;go_simp<;>rfl
   try simp only [Act.put,sA,sB,sC]
   refine rH 13 (by kernel_rfl) rfl fun K hK=>?_
   go_simp
   refine hK.out _ _ ((Chg.setCell (Chg.setCell hHeld _ (fun x hx=>hx)) _ (fun x hx=>hx))) (fun hHeld=>?_)
   clear hK K
   try simp only [Act.put,sA,sB,sC]
   refine wpAnyH_done (by kernel_rfl) ?_ _
   go_wp2_with fail
   refine bodyPost_ret (v:=.tuple #[.string N,.agg #[.slice none (0) (0),.bool false]]) (by simp [results,Tryz.results99,go_sem, *]) rfl ?_
   rw [← HT.out]
   simp only []
   rw [HB.out]
   have k9:=((kk.setNew (p:=⟨g2,0,none⟩) (.slice none (0) (0)) hgw).setNew (p:=⟨g2,1,none⟩) (.bool false) hgw).drew
   exact rd_done (by rw [List.drop_zero];exact HS.out.nx k9) (by omega) (by omega) (.inl ⟨rfl,rfl⟩) (fun x' o' hx'=>by cases hx'<;>exact ⟨_,rfl⟩) k9
  | true =>
   by_cases hE:E=0
   ·subst hE
    have HB:Hid ((true&&((0:Nat)==0))=true):=lH (by simp [*])
    go_wp2_with fail
    refine wp_region_held_drew (S:=Chg (·≠g2) w2) (by kernel_rfl) ((Chg.refl _ w2).drew) (fun hHeld=>?_)
    refine tkH 0 (v:=?_) rfl (by kernel_rfl) (fun _ _ _ h=>h) (by rfl) ?y1 hHeld ?_
    case y1=>intro wq hSw;go_simp<;>rfl
    try simp only [Act.put,sA,sB,sC]
    refine tkH 1 (v:=?_) rfl (by kernel_rfl) (fun _ _ _ h=>h) (by rfl) ?y4 hHeld ?_
    case y4=>intro wq hSw;go_simp<;>rfl
    try simp only [Act.put,sA,sB,sC]
    refine tkH 2 (v:=?_) rfl (by kernel_rfl) (fun _ _ _ h=>h) (by rfl) ?y7 hHeld ?_
    case y7=>intro wq hSw;(have cq:=Chg.cellv hSw p0 hgg;go_simp)<;>rfl
    try simp only [Act.put,sA,sB,sC]
    refine tkH 3 (v:=?_) rfl (by kernel_rfl) (fun _ _ _ h=>h) (by rfl) ?y10 hHeld ?_
    case y10=>intro wq hSw;go_simp<;>rfl
    try simp only [Act.put,sA,sB,sC]
    refine tkH 4 (v:=?_) rfl (by kernel_rfl) (fun _ _ _ h=>h) (by rfl) ?y13 hHeld ?_
    case y13=>intro wq hSw;go_simp<;>rfl
    try simp only [Act.put,sA,sB,sC]
    refine tkH 5 (v:=?_) rfl (by kernel_rfl) (fun _ _ _ h=>h) (by rfl) ?y16 hHeld ?_
    case y16=>intro wq hSw;go_simp<;>rfl
    try simp only [Act.put,sA,sB,sC]
    refine tkH 6 (v:=?_) rfl (by kernel_rfl) (fun _ _ _ h=>h) (by rfl) ?y19 hHeld ?_
    case y19=>intro wq hSw;(have cq:=Chg.cellv hSw p1 hgg;go_simp)<;>rfl
    try simp only [Act.put,sA,sB,sC]
    refine tkH 7 (v:=?_) rfl (by kernel_rfl) (fun _ _ _ h=>h) (by rfl) ?y22 hHeld ?_
    case y22=>intro wq hSw;go_simp<;>rfl
    try simp only [Act.put,sA,sB,sC]
    refine tkH 8 (v:=?_) rfl (by kernel_rfl) (fun _ _ _ h=>h) (by rfl) ?y25 hHeld ?_
    case y25=>intro wq hSw;go_simp<;>rfl
    try simp only [Act.put,sA,sB,sC]
    refine tkH 9 (v:=?_) rfl (by kernel_rfl) (fun _ _ _ h=>h) (by rfl) ?y28 hHeld ?_
    case y28=>intro wq hSw;go_simp<;>rfl
    try simp only [Act.put,sA,sB,sC]
    refine tkH 10 (v:=?_) rfl (by kernel_rfl) (fun _ _ _ h=>h) (by rfl) ?y31 hHeld ?_
    case y31=>intro wq hSw;go_simp<;>rfl
    try simp only [Act.put,sA,sB,sC]
    refine tkH 11 (v:=?_) rfl (by kernel_rfl) (fun _ _ _ h=>h) (by rfl) ?y34 hHeld ?_
    case y34=>intro wq hSw;go_simp<;>rfl
    try simp only [Act.put,sA,sB,sC]
    refine tkH 12 (v:=?_) rfl (by kernel_rfl) (fun _ _ _ h=>h) (by rfl) ?y37 hHeld ?_
    case y37=>intro wq hSw;go_simp<;>rfl
    try simp only [Act.put,sA,sB,sC]
    refine rH 13 (by kernel_rfl) rfl fun K hK=>?_
    go_simp
    refine hK.out _ _ ((Chg.setCell (Chg.setCell hHeld _ (fun x hx=>hx)) _ (fun x hx=>hx))) (fun hHeld=>?_)
    clear hK K
    try simp only [Act.put,sA,sB,sC]
    refine wpAnyH_done (by kernel_rfl) ?_ _
    go_wp2_with fail
    refine bodyPost_ret (v:=.tuple #[.string N,.agg #[.slice none (0) (0),.bool true]]) (by simp [results,Tryz.results99,go_sem, *]) rfl ?_
    rw [← HT.out]
    simp only []
    rw [HB.out]
    have k9:=((kk.setNew (p:=⟨g2,0,none⟩) (.slice none (0) (0)) hgw).setNew (p:=⟨g2,1,none⟩) (.bool true) hgw).drew
    exact rd_done (by rw [List.drop_zero];exact HS.out.nx k9) (by omega) (by omega) (.inl ⟨rfl,rfl⟩) (fun x' o' hx'=>by cases hx'<;>exact ⟨_,rfl⟩) k9
   ·have hEI:((E:Int)==0)=false:=beq_eq_false_iff_ne.2 (by omega)
    have HB:Hid ((true&&(E==0))=false):=lH (by simp [*])
    go_wp2_with fail
    refine wp_region_held_drew (S:=Chg (·≠g2) w2) (by kernel_rfl) ((Chg.refl _ w2).drew) (fun hHeld=>?_)
    refine tkH 0 (v:=?_) rfl (by kernel_rfl) (fun _ _ _ h=>h) (by rfl) ?y1 hHeld ?_
    case y1=>intro wq hSw;go_simp<;>rfl
    try simp only [Act.put,sA,sB,sC]
    refine tkH 1 (v:=?_) rfl (by kernel_rfl) (fun _ _ _ h=>h) (by rfl) ?y4 hHeld ?_
    case y4=>intro wq hSw;go_simp<;>rfl
    try simp only [Act.put,sA,sB,sC]
    refine tkH 2 (v:=?_) rfl (by kernel_rfl) (fun _ _ _ h=>h) (by rfl) ?y7 hHeld ?_
    case y7=>intro wq hSw;(have cq:=Chg.cellv hSw p0 hgg;go_simp)<;>rfl
    try simp only [Act.put,sA,sB,sC]
    refine tkH 3 (v:=?_) rfl (by kernel_rfl) (fun _ _ _ h=>h) (by rfl) ?y10 hHeld ?_
    case y10=>intro wq hSw;go_simp<;>rfl
    try simp only [Act.put,sA,sB,sC]
    refine tkH 4 (v:=?_) rfl (by kernel_rfl) (fun _ _ _ h=>h) (by rfl) ?y13 hHeld ?_
    case y13=>intro wq hSw;go_simp<;>rfl
    try simp only [Act.put,sA,sB,sC]
    refine tkH 5 (v:=?_) rfl (by kernel_rfl) (fun _ _ _ h=>h) (by rfl) ?y16 hHeld ?_
    case y16=>intro wq hSw;go_simp<;>rfl
    try simp only [Act.put,sA,sB,sC]
    refine tkH 6 (v:=?_) rfl (by kernel_rfl) (fun _ _ _ h=>h) (by rfl) ?y19 hHeld ?_
    case y19=>intro wq hSw;(have cq:=Chg.cellv hSw p1 hgg;go_simp)<;>rfl
    try simp only [Act.put,sA,sB,sC]
    refine tkH 7 (v:=?_) rfl (by kernel_rfl) (fun _ _ _ h=>h) (by rfl) ?y22 hHeld ?_
    case y22=>intro wq hSw;go_simp<;>rfl
    try simp only [Act.put,sA,sB,sC]
    refine tkH 8 (v:=?_) rfl (by kernel_rfl) (fun _ _ _ h=>h) (by rfl) ?y25 hHeld ?_
    case y25=>intro wq hSw;go_simp<;>rfl
    try simp only [Act.put,sA,sB,sC]
    refine tkH 9 (v:=?_) rfl (by kernel_rfl) (fun _ _ _ h=>h) (by rfl) ?y28 hHeld ?_
    case y28=>intro wq hSw;go_simp<;>rfl
    try simp only [Act.put,sA,sB,sC]
    refine tkH 10 (v:=?_) rfl (by kernel_rfl) (fun _ _ _ h=>h) (by rfl) ?y31 hHeld ?_
    case y31=>intro wq hSw;go_simp<;>rfl
    try simp only [Act.put,sA,sB,sC]
    refine tkH 11 (v:=?_) rfl (by kernel_rfl) (fun _ _ _ h=>h) (by rfl) ?y34 hHeld ?_
    case y34=>intro wq hSw;go_simp<;>rfl
    try simp only [Act.put,sA,sB,sC]
    refine tkH 12 (v:=?_) rfl (by kernel_rfl) (fun _ _ _ h=>h) (by rfl) ?y37 hHeld ?_
    case y37=>intro wq hSw;go_simp<;>rfl
    try simp only [Act.put,sA,sB,sC]
    refine rH 13 (by kernel_rfl) rfl fun K hK=>?_
    go_simp
    refine hK.out _ _ ((Chg.setCell (Chg.setCell hHeld _ (fun x hx=>hx)) _ (fun x hx=>hx))) (fun hHeld=>?_)
    clear hK K
    try simp only [Act.put,sA,sB,sC]
    refine wpAnyH_done (by kernel_rfl) ?_ _
    go_wp2_with fail
    refine bodyPost_ret (v:=.tuple #[.string N,.agg #[.slice none (0) (0),.bool false]]) (by simp [results,Tryz.results99,go_sem, *]) rfl ?_
    rw [← HT.out]
    simp only []
    rw [HB.out]
    have k9:=((kk.setNew (p:=⟨g2,0,none⟩) (.slice none (0) (0)) hgw).setNew (p:=⟨g2,1,none⟩) (.bool false) hgw).drew
    exact rd_done (by rw [List.drop_zero];exact HS.out.nx k9) (by omega) (by omega) (.inl ⟨rfl,rfl⟩) (fun x' o' hx'=>by cases hx'<;>exact ⟨_,rfl⟩) k9
 ·by_cases hcK:c=K
  ·obtain rfl:n=K:=by omega
   obtain rfl:c=n:=by omega
   cases ok with
   | false =>
    have HB:Hid ((false&&(E==0))=false):=lH (by simp [*])
    go_wp2_with fail
    refine wp_region_held_drew (S:=Chg (·≠g2) w2) (by kernel_rfl) ((Chg.refl _ w2).drew) (fun hHeld=>?_)
    refine tkH 0 (v:=?_) rfl (by kernel_rfl) (fun _ _ _ h=>h) (by rfl) ?y1 hHeld ?_
    case y1=>intro wq hSw;go_simp<;>rfl
    try simp only [Act.put,sA,sB,sC]
    refine tkH 1 (v:=?_) rfl (by kernel_rfl) (fun _ _ _ h=>h) (by rfl) ?y4 hHeld ?_
    case y4=>intro wq hSw;go_simp<;>rfl
    try simp only [Act.put,sA,sB,sC]
    refine tkH 2 (v:=?_) rfl (by kernel_rfl) (fun _ _ _ h=>h) (by rfl) ?y7 hHeld ?_
    case y7=>intro wq hSw;(have cq:=Chg.cellv hSw p0 hgg;go_simp)<;>rfl
    try simp only [Act.put,sA,sB,sC]
    refine tkH 3 (v:=?_) rfl (by kernel_rfl) (fun _ _ _ h=>h) (by rfl) ?y10 hHeld ?_
    case y10=>intro wq hSw;go_simp<;>rfl
    try simp only [Act.put,sA,sB,sC]
    refine tkH 4 (v:=?_) rfl (by kernel_rfl) (fun _ _ _ h=>h) (by rfl) ?y13 hHeld ?_
    case y13=>intro wq hSw;go_simp<;>rfl
    try simp only [Act.put,sA,sB,sC]
    refine tkH 5 (v:=?_) rfl (by kernel_rfl) (fun _ _ _ h=>h) (by rfl) ?y16 hHeld ?_
    case y16=>intro wq hSw;go_simp<;>rfl
    try simp only [Act.put,sA,sB,sC]
    refine tkH 6 (v:=?_) rfl (by kernel_rfl) (fun _ _ _ h=>h) (by rfl) ?y19 hHeld ?_
    case y19=>intro wq hSw;(have cq:=Chg.cellv hSw p1 hgg;go_simp)<;>rfl
    try simp only [Act.put,sA,sB,sC]
    refine tkH 7 (v:=?_) rfl (by kernel_rfl) (fun _ _ _ h=>h) (by rfl) ?y22 hHeld ?_
    case y22=>intro wq hSw;go_simp<;>rfl
    try simp only [Act.put,sA,sB,sC]
    refine wpAnyH_take (i:=8) (oi:=⟨_,_,_,_,_,_⟩) (v:=undef) rfl (by kernel_rfl) (by kernel_rfl) (by kernel_rfl) (fun _ _ _ h=>h) (Or.inr ⟨by rfl,rfl⟩) (by assumption) ?_
    try simp only [Act.put,sA,sB,sC]
    refine wpAnyH_take (i:=9) (oi:=⟨_,_,_,_,_,_⟩) (v:=undef) rfl (by kernel_rfl) (by kernel_rfl) (by kernel_rfl) (fun _ _ _ h=>h) (Or.inr ⟨by rfl,rfl⟩) (by assumption) ?_
    try simp only [Act.put,sA,sB,sC]
    refine tkH 10 (v:=?_) rfl (by kernel_rfl) (fun _ _ _ h=>h) (by rfl) ?y29 hHeld ?_
    case y29=>intro wq hSw;go_simp<;>rfl
    try simp only [Act.put,sA,sB,sC]
    refine tkH 11 (v:=?_) rfl (by kernel_rfl) (fun _ _ _ h=>h) (by rfl) ?y32 hHeld ?_
    case y32=>intro wq hSw;go_simp<;>rfl
    try simp only [Act.put,sA,sB,sC]
    refine tkH 12 (v:=?_) rfl (by kernel_rfl) (fun _ _ _ h=>h) (by rfl) ?y35 hHeld ?_
    case y35=>intro wq hSw;go_simp<;>rfl
    try simp only [Act.put,sA,sB,sC]
    refine rH 13 (by kernel_rfl) rfl fun K hK=>?_
    go_simp
    refine hK.out _ _ ((Chg.setCell (Chg.setCell hHeld _ (fun x hx=>hx)) _ (fun x hx=>hx))) (fun hHeld=>?_)
    clear hK K
    try simp only [Act.put,sA,sB,sC]
    refine wpAnyH_done (by kernel_rfl) ?_ _
    go_wp2_with fail
    refine bodyPost_ret (v:=.tuple #[.string N,.agg #[.slice (some ⟨x,o,none⟩) (0) (0),.bool false]]) (by simp [results,Tryz.results99,go_sem, *]) rfl ?_
    rw [← HT.out]
    simp only []
    rw [HB.out]
    have k9:=((kk.setNew (p:=⟨g2,0,none⟩) (.slice (some ⟨x,o,none⟩) (0) (0)) hgw).setNew (p:=⟨g2,1,none⟩) (.bool false) hgw).drew
    exact rd_done (sl_end (HS.out.nx k9) (Nat.le_refl _)) (by omega) (by omega) (.inr ⟨_,_,rfl⟩) (fun x' o' hx'=>by cases hx'<;>exact ⟨_,rfl⟩) k9
   | true =>
    by_cases hE:E=0
    ·subst hE
     have HB:Hid ((true&&((0:Nat)==0))=true):=lH (by simp [*])
     go_wp2_with fail
     refine wp_region_held_drew (S:=Chg (·≠g2) w2) (by kernel_rfl) ((Chg.refl _ w2).drew) (fun hHeld=>?_)
     refine tkH 0 (v:=?_) rfl (by kernel_rfl) (fun _ _ _ h=>h) (by rfl) ?y1 hHeld ?_
     case y1=>intro wq hSw;go_simp<;>rfl
     try simp only [Act.put,sA,sB,sC]
     refine tkH 1 (v:=?_) rfl (by kernel_rfl) (fun _ _ _ h=>h) (by rfl) ?y4 hHeld ?_
     case y4=>intro wq hSw;go_simp<;>rfl
     try simp only [Act.put,sA,sB,sC]
     refine tkH 2 (v:=?_) rfl (by kernel_rfl) (fun _ _ _ h=>h) (by rfl) ?y7 hHeld ?_
     case y7=>intro wq hSw;(have cq:=Chg.cellv hSw p0 hgg;go_simp)<;>rfl
     try simp only [Act.put,sA,sB,sC]
     refine tkH 3 (v:=?_) rfl (by kernel_rfl) (fun _ _ _ h=>h) (by rfl) ?y10 hHeld ?_
     case y10=>intro wq hSw;go_simp<;>rfl
     try simp only [Act.put,sA,sB,sC]
     refine tkH 4 (v:=?_) rfl (by kernel_rfl) (fun _ _ _ h=>h) (by rfl) ?y13 hHeld ?_
     case y13=>intro wq hSw;go_simp<;>rfl
     try simp only [Act.put,sA,sB,sC]
     refine tkH 5 (v:=?_) rfl (by kernel_rfl) (fun _ _ _ h=>h) (by rfl) ?y16 hHeld ?_
     case y16=>intro wq hSw;go_simp<;>rfl
     try simp only [Act.put,sA,sB,sC]
     refine tkH 6 (v:=?_) rfl (by kernel_rfl) (fun _ _ _ h=>h) (by rfl) ?y19 hHeld ?_
     case y19=>intro wq hSw;(have cq:=Chg.cellv hSw p1 hgg;go_simp)<;>rfl
     try simp only [Act.put,sA,sB,sC]
     refine tkH 7 (v:=?_) rfl (by kernel_rfl) (fun _ _ _ h=>h) (by rfl) ?y22 hHeld ?_
     case y22=>intro wq hSw;go_simp<;>rfl
     try simp only [Act.put,sA,sB,sC]
     refine tkH 8 (v:=?_) rfl (by kernel_rfl) (fun _ _ _ h=>h) (by rfl) ?y25 hHeld ?_
     case y25=>intro wq hSw;go_simp<;>rfl
     try simp only [Act.put,sA,sB,sC]
     refine tkH 9 (v:=?_) rfl (by kernel_rfl) (fun _ _ _ h=>h) (by rfl) ?y28 hHeld ?_
     case y28=>intro wq hSw;go_simp<;>rfl
     try simp only [Act.put,sA,sB,sC]
     refine tkH 10 (v:=?_) rfl (by kernel_rfl) (fun _ _ _ h=>h) (by rfl) ?y31 hHeld ?_
     case y31=>intro wq hSw;go_simp<;>rfl
     try simp only [Act.put,sA,sB,sC]
     refine tkH 11 (v:=?_) rfl (by kernel_rfl) (fun _ _ _ h=>h) (by rfl) ?y34 hHeld ?_
     case y34=>intro wq hSw;go_simp<;>rfl
     try simp only [Act.put,sA,sB,sC]
     refine tkH 12 (v:=?_) rfl (by kernel_rfl) (fun _ _ _ h=>h) (by rfl) ?y37 hHeld ?_
     case y37=>intro wq hSw;go_simp<;>rfl
     try simp only [Act.put,sA,sB,sC]
     refine rH 13 (by kernel_rfl) rfl fun K hK=>?_
     go_simp
     refine hK.out _ _ ((Chg.setCell (Chg.setCell hHeld _ (fun x hx=>hx)) _ (fun x hx=>hx))) (fun hHeld=>?_)
     clear hK K
     try simp only [Act.put,sA,sB,sC]
     refine wpAnyH_done (by kernel_rfl) ?_ _
     go_wp2_with fail
     refine bodyPost_ret (v:=.tuple #[.string N,.agg #[.slice (some ⟨x,o,none⟩) (0) (0),.bool true]]) (by simp [results,Tryz.results99,go_sem, *]) rfl ?_
     rw [← HT.out]
     simp only []
     rw [HB.out]
     have k9:=((kk.setNew (p:=⟨g2,0,none⟩) (.slice (some ⟨x,o,none⟩) (0) (0)) hgw).setNew (p:=⟨g2,1,none⟩) (.bool true) hgw).drew
     exact rd_done (sl_end (HS.out.nx k9) (Nat.le_refl _)) (by omega) (by omega) (.inr ⟨_,_,rfl⟩) (fun x' o' hx'=>by cases hx'<;>exact ⟨_,rfl⟩) k9
    ·have hEI:((E:Int)==0)=false:=beq_eq_false_iff_ne.2 (by omega)
     have HB:Hid ((true&&(E==0))=false):=lH (by simp [*])
     go_wp2_with fail
     refine wp_region_held_drew (S:=Chg (·≠g2) w2) (by kernel_rfl) ((Chg.refl _ w2).drew) (fun hHeld=>?_)
     refine tkH 0 (v:=?_) rfl (by kernel_rfl) (fun _ _ _ h=>h) (by rfl) ?y1 hHeld ?_
     case y1=>intro wq hSw;go_simp<;>rfl
     try simp only [Act.put,sA,sB,sC]
     refine tkH 1 (v:=?_) rfl (by kernel_rfl) (fun _ _ _ h=>h) (by rfl) ?y4 hHeld ?_
     case y4=>intro wq hSw;go_simp<;>rfl
     try simp only [Act.put,sA,sB,sC]
     refine tkH 2 (v:=?_) rfl (by kernel_rfl) (fun _ _ _ h=>h) (by rfl) ?y7 hHeld ?_
     case y7=>intro wq hSw;(have cq:=Chg.cellv hSw p0 hgg;go_simp)<;>rfl
     try simp only [Act.put,sA,sB,sC]
     refine tkH 3 (v:=?_) rfl (by kernel_rfl) (fun _ _ _ h=>h) (by rfl) ?y10 hHeld ?_
     case y10=>intro wq hSw;go_simp<;>rfl
     try simp only [Act.put,sA,sB,sC]
     refine tkH 4 (v:=?_) rfl (by kernel_rfl) (fun _ _ _ h=>h) (by rfl) ?y13 hHeld ?_
     case y13=>intro wq hSw;go_simp<;>rfl
     try simp only [Act.put,sA,sB,sC]
     refine tkH 5 (v:=?_) rfl (by kernel_rfl) (fun _ _ _ h=>h) (by rfl) ?y16 hHeld ?_
     case y16=>intro wq hSw;go_simp<;>rfl
     try simp only [Act.put,sA,sB,sC]
     refine tkH 6 (v:=?_) rfl (by kernel_rfl) (fun _ _ _ h=>h) (by rfl) ?y19 hHeld ?_
     case y19=>intro wq hSw;(have cq:=Chg.cellv hSw p1 hgg;go_simp)<;>rfl
     try simp only [Act.put,sA,sB,sC]
     refine tkH 7 (v:=?_) rfl (by kernel_rfl) (fun _ _ _ h=>h) (by rfl) ?y22 hHeld ?_
     case y22=>intro wq hSw;go_simp<;>rfl
     try simp only [Act.put,sA,sB,sC]
     refine tkH 8 (v:=?_) rfl (by kernel_rfl) (fun _ _ _ h=>h) (by rfl) ?y25 hHeld ?_
     case y25=>intro wq hSw;go_simp<;>rfl
     try simp only [Act.put,sA,sB,sC]
     refine tkH 9 (v:=?_) rfl (by kernel_rfl) (fun _ _ _ h=>h) (by rfl) ?y28 hHeld ?_
     case y28=>intro wq hSw;go_simp<;>rfl
     try simp only [Act.put,sA,sB,sC]
     refine tkH 10 (v:=?_) rfl (by kernel_rfl) (fun _ _ _ h=>h) (by rfl) ?y31 hHeld ?_
     case y31=>intro wq hSw;go_simp<;>rfl
     try simp only [Act.put,sA,sB,sC]
     refine tkH 11 (v:=?_) rfl (by kernel_rfl) (fun _ _ _ h=>h) (by rfl) ?y34 hHeld ?_
     case y34=>intro wq hSw;go_simp<;>rfl
     try simp only [Act.put,sA,sB,sC]
     refine tkH 12 (v:=?_) rfl (by kernel_rfl) (fun _ _ _ h=>h) (by rfl) ?y37 hHeld ?_
     case y37=>intro wq hSw;go_simp<;>rfl
     try simp only [Act.put,sA,sB,sC]
     refine rH 13 (by kernel_rfl) rfl fun K hK=>?_
     go_simp
     refine hK.out _ _ ((Chg.setCell (Chg.setCell hHeld _ (fun x hx=>hx)) _ (fun x hx=>hx))) (fun hHeld=>?_)
     clear hK K
     try simp only [Act.put,sA,sB,sC]
     refine wpAnyH_done (by kernel_rfl) ?_ _
     go_wp2_with fail
     refine bodyPost_ret (v:=.tuple #[.string N,.agg #[.slice (some ⟨x,o,none⟩) (0) (0),.bool false]]) (by simp [results,Tryz.results99,go_sem, *]) rfl ?_
     rw [← HT.out]
     simp only []
     rw [HB.out]
     have k9:=((kk.setNew (p:=⟨g2,0,none⟩) (.slice (some ⟨x,o,none⟩) (0) (0)) hgw).setNew (p:=⟨g2,1,none⟩) (.bool false) hgw).drew
     exact rd_done (sl_end (HS.out.nx k9) (Nat.le_refl _)) (by omega) (by omega) (.inr ⟨_,_,rfl⟩) (fun x' o' hx'=>by cases hx'<;>exact ⟨_,rfl⟩) k9
  ·have hcK':¬ c=K:=hcK
   cases ok with
   | false =>
    have HB:Hid ((false&&(E==0))=false):=lH (by simp [*])
    go_wp2_with fail
    refine wp_region_held_drew (S:=Chg (·≠g2) w2) (by kernel_rfl) ((Chg.refl _ w2).drew) (fun hHeld=>?_)
    refine tkH 0 (v:=?_) rfl (by kernel_rfl) (fun _ _ _ h=>h) (by rfl) ?y1 hHeld ?_
    case y1=>intro wq hSw;go_simp<;>rfl
    try simp only [Act.put,sA,sB,sC]
    refine tkH 1 (v:=?_) rfl (by kernel_rfl) (fun _ _ _ h=>h) (by rfl) ?y4 hHeld ?_
    case y4=>intro wq hSw;go_simp<;>rfl
    try simp only [Act.put,sA,sB,sC]
    refine tkH 2 (v:=?_) rfl (by kernel_rfl) (fun _ _ _ h=>h) (by rfl) ?y7 hHeld ?_
    case y7=>intro wq hSw;(have cq:=Chg.cellv hSw p0 hgg;go_simp)<;>rfl
    try simp only [Act.put,sA,sB,sC]
    refine tkH 3 (v:=?_) rfl (by kernel_rfl) (fun _ _ _ h=>h) (by rfl) ?y10 hHeld ?_
    case y10=>intro wq hSw;go_simp<;>rfl
    try simp only [Act.put,sA,sB,sC]
    refine tkH 4 (v:=?_) rfl (by kernel_rfl) (fun _ _ _ h=>h) (by rfl) ?y13 hHeld ?_
    case y13=>intro wq hSw;go_simp<;>rfl
    try simp only [Act.put,sA,sB,sC]
    refine tkH 5 (v:=?_) rfl (by kernel_rfl) (fun _ _ _ h=>h) (by rfl) ?y16 hHeld ?_
    case y16=>intro wq hSw;go_simp<;>rfl
    try simp only [Act.put,sA,sB,sC]
    refine tkH 6 (v:=?_) rfl (by kernel_rfl) (fun _ _ _ h=>h) (by rfl) ?y19 hHeld ?_
    case y19=>intro wq hSw;(have cq:=Chg.cellv hSw p1 hgg;go_simp)<;>rfl
    try simp only [Act.put,sA,sB,sC]
    refine tkH 7 (v:=?_) rfl (by kernel_rfl) (fun _ _ _ h=>h) (by rfl) ?y22 hHeld ?_
    case y22=>intro wq hSw;go_simp<;>rfl
    try simp only [Act.put,sA,sB,sC]
    refine wpAnyH_take (i:=8) (oi:=⟨_,_,_,_,_,_⟩) (v:=undef) rfl (by kernel_rfl) (by kernel_rfl) (by kernel_rfl) (fun _ _ _ h=>h) (Or.inr ⟨by rfl,rfl⟩) (by assumption) ?_
    try simp only [Act.put,sA,sB,sC]
    refine wpAnyH_take (i:=9) (oi:=⟨_,_,_,_,_,_⟩) (v:=undef) rfl (by kernel_rfl) (by kernel_rfl) (by kernel_rfl) (fun _ _ _ h=>h) (Or.inr ⟨by rfl,rfl⟩) (by assumption) ?_
    try simp only [Act.put,sA,sB,sC]
    refine tkH 10 (v:=?_) rfl (by kernel_rfl) (fun _ _ _ h=>h) (by rfl) ?y29 hHeld ?_
    case y29=>intro wq hSw;go_simp<;>rfl
    try simp only [Act.put,sA,sB,sC]
    refine tkH 11 (v:=?_) rfl (by kernel_rfl) (fun _ _ _ h=>h) (by rfl) ?y32 hHeld ?_
    case y32=>intro wq hSw;go_simp<;>rfl
    try simp only [Act.put,sA,sB,sC]
    refine tkH 12 (v:=?_) rfl (by kernel_rfl) (fun _ _ _ h=>h) (by rfl) ?y35 hHeld ?_
    case y35=>intro wq hSw;go_simp<;>rfl
    try simp only [Act.put,sA,sB,sC]
    refine rH 13 (by kernel_rfl) rfl fun K hK=>?_
    go_simp
    refine hK.out _ _ ((Chg.setCell (Chg.setCell hHeld _ (fun x hx=>hx)) _ (fun x hx=>hx))) (fun hHeld=>?_)
    clear hK K
    try simp only [Act.put,sA,sB,sC]
    refine wpAnyH_done (by kernel_rfl) ?_ _
    go_wp2_with fail
    refine bodyPost_ret (v:=.tuple #[.string N,.agg #[.slice (some ⟨x,o+K,none⟩) (n-K) (c-K),.bool false]]) (by simp [results,Tryz.results99,go_sem, *]) rfl ?_
    rw [← HT.out]
    simp only []
    rw [HB.out]
    have k9:=((kk.setNew (p:=⟨g2,0,none⟩) (.slice (some ⟨x,o+K,none⟩) (n-K) (c-K)) hgw).setNew (p:=⟨g2,1,none⟩) (.bool false) hgw).drew
    exact rd_done (sl_from (HS.out.nx k9) hk) (by omega) (by omega) (.inr ⟨_,_,rfl⟩) (fun x' o' hx'=>by cases hx'<;>exact ⟨_,rfl⟩) k9
   | true =>
    by_cases hE:E=0
    ·subst hE
     have HB:Hid ((true&&((0:Nat)==0))=true):=lH (by simp [*])
     go_wp2_with fail
     refine wp_region_held_drew (S:=Chg (·≠g2) w2) (by kernel_rfl) ((Chg.refl _ w2).drew) (fun hHeld=>?_)
     refine tkH 0 (v:=?_) rfl (by kernel_rfl) (fun _ _ _ h=>h) (by rfl) ?y1 hHeld ?_
     case y1=>intro wq hSw;go_simp<;>rfl
     try simp only [Act.put,sA,sB,sC]
     refine tkH 1 (v:=?_) rfl (by kernel_rfl) (fun _ _ _ h=>h) (by rfl) ?y4 hHeld ?_
     case y4=>intro wq hSw;go_simp<;>rfl
     try simp only [Act.put,sA,sB,sC]
     refine tkH 2 (v:=?_) rfl (by kernel_rfl) (fun _ _ _ h=>h) (by rfl) ?y7 hHeld ?_
     case y7=>intro wq hSw;(have cq:=Chg.cellv hSw p0 hgg;go_simp)<;>rfl
     try simp only [Act.put,sA,sB,sC]
     refine tkH 3 (v:=?_) rfl (by kernel_rfl) (fun _ _ _ h=>h) (by rfl) ?y10 hHeld ?_
     case y10=>intro wq hSw;go_simp<;>rfl
     try simp only [Act.put,sA,sB,sC]
     refine tkH 4 (v:=?_) rfl (by kernel_rfl) (fun _ _ _ h=>h) (by rfl) ?y13 hHeld ?_
     case y13=>intro wq hSw;go_simp<;>rfl
     try simp only [Act.put,sA,sB,sC]
     refine tkH 5 (v:=?_) rfl (by kernel_rfl) (fun _ _ _ h=>h) (by rfl) ?y16 hHeld ?_
     case y16=>intro wq hSw;go_simp<;>rfl
     try simp only [Act.put,sA,sB,sC]
     refine tkH 6 (v:=?_) rfl (by kernel_rfl) (fun _ _ _ h=>h) (by rfl) ?y19 hHeld ?_
     case y19=>intro wq hSw;(have cq:=Chg.cellv hSw p1 hgg;go_simp)<;>rfl
     try simp only [Act.put,sA,sB,sC]
     refine tkH 7 (v:=?_) rfl (by kernel_rfl) (fun _ _ _ h=>h) (by rfl) ?y22 hHeld ?_
     case y22=>intro wq hSw;go_simp<;>rfl
     try simp only [Act.put,sA,sB,sC]
     refine tkH 8 (v:=?_) rfl (by kernel_rfl) (fun _ _ _ h=>h) (by rfl) ?y25 hHeld ?_
     case y25=>intro wq hSw;go_simp<;>rfl
     try simp only [Act.put,sA,sB,sC]
     refine tkH 9 (v:=?_) rfl (by kernel_rfl) (fun _ _ _ h=>h) (by rfl) ?y28 hHeld ?_
     case y28=>intro wq hSw;go_simp<;>rfl
     try simp only [Act.put,sA,sB,sC]
     refine tkH 10 (v:=?_) rfl (by kernel_rfl) (fun _ _ _ h=>h) (by rfl) ?y31 hHeld ?_
     case y31=>intro wq hSw;go_simp<;>rfl
     try simp only [Act.put,sA,sB,sC]
     refine tkH 11 (v:=?_) rfl (by kernel_rfl) (fun _ _ _ h=>h) (by rfl) ?y34 hHeld ?_
     case y34=>intro wq hSw;go_simp<;>rfl
     try simp only [Act.put,sA,sB,sC]
     refine tkH 12 (v:=?_) rfl (by kernel_rfl) (fun _ _ _ h=>h) (by rfl) ?y37 hHeld ?_
     case y37=>intro wq hSw;go_simp<;>rfl
     try simp only [Act.put,sA,sB,sC]
     refine rH 13 (by kernel_rfl) rfl fun K hK=>?_
     go_simp
     refine hK.out _ _ ((Chg.setCell (Chg.setCell hHeld _ (fun x hx=>hx)) _ (fun x hx=>hx))) (fun hHeld=>?_)
     clear hK K
     try simp only [Act.put,sA,sB,sC]
     refine wpAnyH_done (by kernel_rfl) ?_ _
     go_wp2_with fail
     refine bodyPost_ret (v:=.tuple #[.string N,.agg #[.slice (some ⟨x,o+K,none⟩) (n-K) (c-K),.bool true]]) (by simp [results,Tryz.results99,go_sem, *]) rfl ?_
     rw [← HT.out]
     simp only []
     rw [HB.out]
     have k9:=((kk.setNew (p:=⟨g2,0,none⟩) (.slice (some ⟨x,o+K,none⟩) (n-K) (c-K)) hgw).setNew (p:=⟨g2,1,none⟩) (.bool true) hgw).drew
     exact rd_done (sl_from (HS.out.nx k9) hk) (by omega) (by omega) (.inr ⟨_,_,rfl⟩) (fun x' o' hx'=>by cases hx'<;>exact ⟨_,rfl⟩) k9
    ·have hEI:((E:Int)==0)=false:=beq_eq_false_iff_ne.2 (by omega)
     have HB:Hid ((true&&(E==0))=false):=lH (by simp [*])
     go_wp2_with fail
     refine wp_region_held_drew (S:=Chg (·≠g2) w2) (by kernel_rfl) ((Chg.refl _ w2).drew) (fun hHeld=>?_)
     refine tkH 0 (v:=?_) rfl (by kernel_rfl) (fun _ _ _ h=>h) (by rfl) ?y1 hHeld ?_
     case y1=>intro wq hSw;go_simp<;>rfl
     try simp only [Act.put,sA,sB,sC]
     refine tkH 1 (v:=?_) rfl (by kernel_rfl) (fun _ _ _ h=>h) (by rfl) ?y4 hHeld ?_
     case y4=>intro wq hSw;go_simp<;>rfl
     try simp only [Act.put,sA,sB,sC]
     refine tkH 2 (v:=?_) rfl (by kernel_rfl) (fun _ _ _ h=>h) (by rfl) ?y7 hHeld ?_
     case y7=>intro wq hSw;(have cq:=Chg.cellv hSw p0 hgg;go_simp)<;>rfl
     try simp only [Act.put,sA,sB,sC]
     refine tkH 3 (v:=?_) rfl (by kernel_rfl) (fun _ _ _ h=>h) (by rfl) ?y10 hHeld ?_
     case y10=>intro wq hSw;go_simp<;>rfl
     try simp only [Act.put,sA,sB,sC]
     refine tkH 4 (v:=?_) rfl (by kernel_rfl) (fun _ _ _ h=>h) (by rfl) ?y13 hHeld ?_
     case y13=>intro wq hSw;go_simp<;>rfl
     try simp only [Act.put,sA,sB,sC]
     refine tkH 5 (v:=?_) rfl (by kernel_rfl) (fun _ _ _ h=>h) (by rfl) ?y16 hHeld ?_
     case y16=>intro wq hSw;go_simp<;>rfl
     try simp only [Act.put,sA,sB,sC]
     refine tkH 6 (v:=?_) rfl (by kernel_rfl) (fun _ _ _ h=>h) (by rfl) ?y19 hHeld ?_
     case y19=>intro wq hSw;(have cq:=Chg.cellv hSw p1 hgg;go_simp)<;>rfl
     try simp only [Act.put,sA,sB,sC]
     refine tkH 7 (v:=?_) rfl (by kernel_rfl) (fun _ _ _ h=>h) (by rfl) ?y22 hHeld ?_
     case y22=>intro wq hSw;go_simp<;>rfl
     try simp only [Act.put,sA,sB,sC]
     refine tkH 8 (v:=?_) rfl (by kernel_rfl) (fun _ _ _ h=>h) (by rfl) ?y25 hHeld ?_
     case y25=>intro wq hSw;go_simp<;>rfl
     try simp only [Act.put,sA,sB,sC]
     refine tkH 9 (v:=?_) rfl (by kernel_rfl) (fun _ _ _ h=>h) (by rfl) ?y28 hHeld ?_
     case y28=>intro wq hSw;go_simp<;>rfl
     try simp only [Act.put,sA,sB,sC]
     refine tkH 10 (v:=?_) rfl (by kernel_rfl) (fun _ _ _ h=>h) (by rfl) ?y31 hHeld ?_
     case y31=>intro wq hSw;go_simp<;>rfl
     try simp only [Act.put,sA,sB,sC]
     refine tkH 11 (v:=?_) rfl (by kernel_rfl) (fun _ _ _ h=>h) (by rfl) ?y34 hHeld ?_
     case y34=>intro wq hSw;go_simp<;>rfl
     try simp only [Act.put,sA,sB,sC]
     refine tkH 12 (v:=?_) rfl (by kernel_rfl) (fun _ _ _ h=>h) (by rfl) ?y37 hHeld ?_
     case y37=>intro wq hSw;go_simp<;>rfl
     try simp only [Act.put,sA,sB,sC]
     refine rH 13 (by kernel_rfl) rfl fun K hK=>?_
     go_simp
     refine hK.out _ _ ((Chg.setCell (Chg.setCell hHeld _ (fun x hx=>hx)) _ (fun x hx=>hx))) (fun hHeld=>?_)
     clear hK K
     try simp only [Act.put,sA,sB,sC]
     refine wpAnyH_done (by kernel_rfl) ?_ _
     go_wp2_with fail
     refine bodyPost_ret (v:=.tuple #[.string N,.agg #[.slice (some ⟨x,o+K,none⟩) (n-K) (c-K),.bool false]]) (by simp [results,Tryz.results99,go_sem, *]) rfl ?_
     rw [← HT.out]
     simp only []
     rw [HB.out]
     have k9:=((kk.setNew (p:=⟨g2,0,none⟩) (.slice (some ⟨x,o+K,none⟩) (n-K) (c-K)) hgw).setNew (p:=⟨g2,1,none⟩) (.bool false) hgw).drew
     exact rd_done (sl_from (HS.out.nx k9) hk) (by omega) (by omega) (.inr ⟨_,_,rfl⟩) (fun x' o' hx'=>by cases hx'<;>exact ⟨_,rfl⟩) k9
theorem ruint64_p (a:Option Addr) (n c:Nat) (R:List UInt8) (ok:Bool) (w:World) (h:Sl 1 encB w a n R) (hn:n≤9223372036854775807) (hc:n≤c) (hm:c≤maxLen) (hf:Form a c) :
  Calls Tryz.prog 97 #[.agg #[.slice a n c,.bool ok],.int .u64 64] w (RdPost (.int .u64 (decR R).1) (R.drop (decR R).2.1) (ok&&((decR R).2.2==0)&&decide ((decR R).1≤64)) a w):=ruint_p a n c R ok 64 w h hn hc hm hf (by omega)
theorem ruint32_p (a:Option Addr) (n c:Nat) (R:List UInt8) (ok:Bool) (w:World) (h:Sl 1 encB w a n R) (hn:n≤9223372036854775807) (hc:n≤c) (hm:c≤maxLen) (hf:Form a c) :
  Calls Tryz.prog 97 #[.agg #[.slice a n c,.bool ok],.int .u64 4294967295] w (RdPost (.int .u64 (decR R).1) (R.drop (decR R).2.1) (ok&&((decR R).2.2==0)&&decide ((decR R).1≤4294967295)) a w):=ruint_p a n c R ok 4294967295 w h hn hc hm hf (by omega)
theorem ruint17_p (a:Option Addr) (n c:Nat) (R:List UInt8) (ok:Bool) (w:World) (h:Sl 1 encB w a n R) (hn:n≤9223372036854775807) (hc:n≤c) (hm:c≤maxLen) (hf:Form a c) :
  Calls Tryz.prog 97 #[.agg #[.slice a n c,.bool ok],.int .u64 17] w (RdPost (.int .u64 (decR R).1) (R.drop (decR R).2.1) (ok&&((decR R).2.2==0)&&decide ((decR R).1≤17)) a w):=ruint_p a n c R ok 17 w h hn hc hm hf (by omega)
theorem rstr64_p (a:Option Addr) (n c:Nat) (R:List UInt8) (ok:Bool) (w:World) (h:Sl 1 encB w a n R) (hn:n≤9223372036854775807) (hc:n≤c) (hm:c≤maxLen) (hf:Form a c) :
  Calls Tryz.prog 99 #[.agg #[.slice a n c,.bool ok],.int .i64 64] w (RdPost (.string (strN R 64).1) (R.drop (strN R 64).2.1) (ok&&((strN R 64).2.2==0)) a w):=rstr_p a n c R ok 64 w h hn hc hm hf (by omega)
def pU (lim:Nat) (R:List UInt8):Option (Nat×List UInt8):=if (decR R).2.2=0∧(decR R).1≤lim then some ((decR R).1,R.drop (decR R).2.1) else none
def pI (R:List UInt8):Option (Int×List UInt8):=if (intR R).2.2=0 then some ((intR R).1,R.drop (intR R).2.1) else none
def pS (R:List UInt8):Option (ByteArray×List UInt8):=if (strN R 64).2.2=0 then some ((strN R 64).1,R.drop (strN R 64).2.1) else none
def contN:Nat→List Nd→List UInt8→Option (List Nd)
 | 0,out,R=>if R.length=0 then some out else none
 | m+1,out,R=>(pI R).bind fun r1=>(pS r1.2).bind fun r2=>(pU 4294967295 r2.2).bind fun r3=>contN m (out++[⟨r1.1,r2.1,r3.1⟩]) r3.2
def decN (R:List UInt8):Option (List Nd):=(pU 64 R).bind fun r=>contN r.1 [] r.2
def decNd (R:List UInt8):List Nd×Int:=match decN R with | some l=>(l,0) | none=>([],4)
def DcPost (r:List Nd×Int) (w:World) (e:Ending) (w':World):Prop:=∃ v,e=.returned (.tuple #[v,.int .i64 r.2])∧OwnL 3 encN 36 w.heap.size w' v r.1∧Ex w w'
theorem contN_step (m:Nat) (out:List Nd) (R:List UInt8) (ok1 ok2 ok3:Bool) (h1:ok1=((intR R).2.2==0)) (h2:ok2=(ok1&&((strN (R.drop (intR R).2.1) 64).2.2==0)))
  (h3:ok3=(ok2&&((decR ((R.drop (intR R).2.1).drop (strN (R.drop (intR R).2.1) 64).2.1)).2.2==0)&&decide ((decR ((R.drop (intR R).2.1).drop (strN (R.drop (intR R).2.1) 64).2.1)).1≤4294967295))) :
  contN (m+1) out R=if ok3 then contN m (out++[⟨(intR R).1,(strN (R.drop (intR R).2.1) 64).1,(decR ((R.drop (intR R).2.1).drop (strN (R.drop (intR R).2.1) 64).2.1)).1 % 4294967296⟩])
   (((R.drop (intR R).2.1).drop (strN (R.drop (intR R).2.1) 64).2.1).drop (decR ((R.drop (intR R).2.1).drop (strN (R.drop (intR R).2.1) 64).2.1)).2.1) else none:=by
 show (pI R).bind _=_
 by_cases e1:(intR R).2.2=0
 ·have d1:ok1=true:=by rw [h1];simpa using e1
  rw [show pI R=some ((intR R).1,R.drop (intR R).2.1) from if_pos e1]
  simp only [Option.bind_some]
  by_cases e2:(strN (R.drop (intR R).2.1) 64).2.2=0
  ·have d2:ok2=true:=by rw [h2,d1];simpa using e2
   rw [show pS (R.drop (intR R).2.1)=some ((strN (R.drop (intR R).2.1) 64).1,(R.drop (intR R).2.1).drop (strN (R.drop (intR R).2.1) 64).2.1) from if_pos e2]
   simp only [Option.bind_some]
   generalize (R.drop (intR R).2.1).drop (strN (R.drop (intR R).2.1) 64).2.1=R2 at h3 ⊢
   by_cases e3:(decR R2).2.2=0∧(decR R2).1≤4294967295
   ·have d3:ok3=true:=by rw [h3,d2];simpa using e3
    rw [show pU 4294967295 R2=some ((decR R2).1,R2.drop (decR R2).2.1) from if_pos e3,d3]
    simp only [Option.bind_some,if_true]
    rw [Nat.mod_eq_of_lt (by omega)]
   ·have d3:ok3=false:=by
     rw [h3,d2]
     simp only [Bool.true_and,Bool.and_eq_false_iff,beq_eq_false_iff_ne,decide_eq_false_iff_not]
     by_cases e4:(decR R2).2.2=0
     ·exact .inr (fun h=>e3 ⟨e4,h⟩)
     ·exact .inl e4
    rw [show pU 4294967295 R2=none from if_neg e3,d3]
    simp
  ·have d2:ok2=false:=by rw [h2,d1];simpa using e2
   rw [show pS (R.drop (intR R).2.1)=none from if_neg e2,h3,d2]
   simp
 ·have d1:ok1=false:=by rw [h1];simpa using e1
  rw [show pI R=none from if_neg e1,h3,h2,d1]
  simp
theorem sl_setF {w:World} {a:Option Addr} {n:Nat} {R:List UInt8} (s:Sl 1 encB w a n R) {p:Addr} (v:Value) (hne:∀ x o,a=some ⟨x,o,none⟩→0<n→x≠p.block):Sl 1 encB (w.setCell p v) a n R:=by
 have k:Chg (·≠p.block) w (w.setCell p v):=Chg.setCell (Chg.refl _ w) _ (fun x hx=>hx)
 refine ⟨s.1,?_⟩
 rcases s.2 with h0 | ⟨x,o,e1,e2,e3⟩
 ·exact .inl h0
 ·rcases Nat.eq_zero_or_pos n with h0 | h0
  ·exact .inl h0
  ·exact .inr ⟨x,o,e1,Nat.lt_of_lt_of_le e2 k.size,fun j y hj c u hu=>by rw [k.cell (p:=⟨x,_,none⟩) (hne x o e1 h0)];exact e3 j y hj c u hu⟩
def okB {β:Type} (bad:Bool) (r:Option β):Option β:=if bad then none else r
structure Rdr (w:World) (g:Nat) (R:List UInt8) (ok:Bool) (a:Option Addr) (n c:Nat):Prop where
 blk:Blk w g [.slice a n c,.bool ok] 174
 sl:Sl 1 encB w a n R
 n2:n≤9223372036854775807
 nc:n≤c
 cm:c≤maxLen
 form:Form a c
theorem Rdr.nx {w w':World} {g:Nat} {R:List UInt8} {ok:Bool} {a:Option Addr} {n c:Nat} (h:Rdr w g R ok a n c) (k:Ex w w'):Rdr w' g R ok a n c:=⟨h.blk.nx k,h.sl.nx k,h.n2,h.nc,h.cm,h.form⟩
theorem Rdr.put {w:World} {g:Nat} {cs:List Value} (B:Blk w g cs 174) (hcs:cs.length=2) {R:List UInt8} {ok:Bool} {a:Option Addr} {n c:Nat} (s:Sl 1 encB w a n R) (h1:n≤9223372036854775807) (h2:n≤c) (h3:c≤maxLen) (h4:Form a c)
  (hne:∀ x o,a=some ⟨x,o,none⟩→0<n→x≠g):Rdr ((w.setCell ⟨g,0,none⟩ (.slice a n c)).setCell ⟨g,1,none⟩ (.bool ok)) g R ok a n c:=by
 refine ⟨?_,?_,h1,h2,h3,h4⟩
 ·match cs,hcs with
  | [x,y],_=>exact (B.set 0 (.slice a n c)).set 1 (.bool ok)
 ·have k0:Chg (·≠g) w (w.setCell ⟨g,0,none⟩ (.slice a n c)):=Chg.setCell (p:=⟨g,0,none⟩) (Chg.refl _ w) _ (fun x hx=>hx)
  have k:Chg (·≠g) w ((w.setCell ⟨g,0,none⟩ (.slice a n c)).setCell ⟨g,1,none⟩ (.bool ok)):=Chg.setCell (p:=⟨g,1,none⟩) k0 _ (fun x hx=>hx)
  refine ⟨s.1,?_⟩
  rcases s.2 with h0 | ⟨x,o,e1,e2,e3⟩
  ·exact .inl h0
  ·rcases Nat.eq_zero_or_pos n with h0 | h0
   ·exact .inl h0
   ·exact .inr ⟨x,o,e1,Nat.lt_of_lt_of_le e2 k.size,fun j y hj c u hu=>by rw [k.cell (p:=⟨x,_,none⟩) (hne x o e1 h0)];exact e3 j y hj c u hu⟩
theorem sl_set {w:World} {a:Option Addr} {n:Nat} {R:List UInt8} (s:Sl 1 encB w a n R) {p:Addr} (v:Value) (hne:∀ x o,a=some ⟨x,o,none⟩→0<n→x≠p.block):Sl 1 encB (w.setCell p v) a n R:=by
 have k:Chg (·≠p.block) w (w.setCell p v):=Chg.setCell (Chg.refl _ w) _ (fun x hx=>hx)
 refine ⟨s.1,?_⟩
 rcases s.2 with h0 | ⟨x,o,e1,e2,e3⟩
 ·exact .inl h0
 ·rcases Nat.eq_zero_or_pos n with h0 | h0
  ·exact .inl h0
  ·exact .inr ⟨x,o,e1,Nat.lt_of_lt_of_le e2 k.size,fun j y hj c u hu=>by rw [k.cell (p:=⟨x,_,none⟩) (hne x o e1 h0)];exact e3 j y hj c u hu⟩
theorem own_ne {e:TypeId} {base:Nat} {w:World} {v:Value} {l:List Nd} {g:Nat} {cs:List Value} {ty:TypeId} (h:OwnL 3 encN e base w v l) (B:Blk w g cs ty) (hne:ty≠e):∀ x,v.ownBlock=some x→x≠g:=by
 intro x hx he
 subst he
 obtain ⟨_,cur,e1⟩:=h.blk hx
 unfold Blk at B
 rw [B] at e1
 simp at e1
 exact hne e1.2
def DnRel (B:List UInt8) (base g b0:Nat) (w:World) (nv o:Value) (wr:World):Prop :=
 ∃ (N:Nat) (out:List Nd) (R:List UInt8) (ok:Bool) (a:Option Addr) (n c:Nat),nv=.int .u64 N∧OwnL 3 encN 36 base wr o out∧Rdr wr g R ok a n c∧(∀ x oo,a=some ⟨x,oo,none⟩→0<n→x<b0)∧Exb g w wr ∧
  (ok=true→decN B=contN N out R∧N+out.length≤64)∧(ok=false→decN B=none)
set_option maxRecDepth 100000 in
set_option maxHeartbeats 4000000 in
theorem decn_p (a:Option Addr) (n c:Nat) (B:List UInt8) (w:World) (h:Sl 1 encB w a n B) (hn:n≤9223372036854775807) (hc:n≤c) (hm:c≤maxLen) (hf:Form a c) :
  Calls Tryz.prog 31 #[.slice a n c] w (DcPost (decNd B) w):=by
 go_enter Tryz.func31,Tryz.ntmps31
 go_wp2_with fail
 (with_reducible refine (ruint64_p _ _ _ _ true _ h hn hc hm hf).mono ?_)
 rintro e w1 ⟨a1,n1,c1,rfl,s1,nc1,cm1,f1,x1,k1⟩
 have hl0:=h.len
 have hn1:n1≤n:=by rw [← s1.len,← h.len,List.length_drop];omega
 have HX:∀ x oo,a1=some ⟨x,oo,none⟩→0<n1→x<w.heap.size:=by
  intro x oo he h0
  obtain ⟨o',ho⟩:=x1 x oo he
  rcases h.2 with h2 | ⟨y,o2,e1,e2,_⟩
  ·omega
  ·rw [ho] at e1;cases e1;exact e2
 have HD:Hid (decN B=if (true&&((decR B).2.2==0)&&decide ((decR B).1≤64)) then contN (decR B).1 [] (B.drop (decR B).2.1) else none):=lH (by
  unfold decN pU
  by_cases e3:(decR B).2.2=0∧(decR B).1≤64
  ·rw [if_pos e3]
   simp [e3.1,e3.2]
  ·rw [if_neg e3]
   by_cases e4:(decR B).2.2=0
   ·have:¬ (decR B).1≤64:=fun h=>e3 ⟨e4,h⟩
    simp [e4,this]
   ·simp [e4])
 have hN:=decR_lt B
 have h64:(true&&((decR B).2.2==0)&&decide ((decR B).1≤64))=true→(decR B).1≤64:=by intro h;simp at h;exact h.2
 generalize (true&&((decR B).2.2==0)&&decide ((decR B).1≤64))=ok at HD h64 ⊢
 generalize B.drop (decR B).2.1=R at s1 HD
 generalize (decR B).1=N at HD hN h64 ⊢
 have H64:=lH h64
 have k2:=Ex.new w1 (.cells #[.slice a1 n1 c1,.bool ok] 174)
 have B2:=Blk.new w1 [.slice a1 n1 c1,.bool ok] 174
 obtain ⟨w2,hw2⟩:∃ w2,w2=w1.alloc (.cells #[.slice a1 n1 c1,.bool ok] 174):=⟨_,rfl⟩
 obtain ⟨g5,hg5⟩:∃ g5,g5=w1.heap.size:=⟨_,rfl⟩
 have B2:Blk w2 g5 [.slice a1 n1 c1,.bool ok] 174:=by rw [hw2,hg5];exact B2
 rw [← hw2] at k2
 have RD:Rdr w2 g5 R ok a1 n1 c1:=⟨B2,s1.nx k2,by omega,nc1,cm1,f1⟩
 have hgb:w.heap.size≤g5:=by have:=k1.size;omega
 have kk:=k1.nx k2
 have KK:=lH kk
 have HW2:=lH hw2
 have HG5:=lH hg5
 have zz:=kk.size
 clear h hf f1 x1 s1 hw2 hg5 k1 k2 B2 h64 nc1 cm1 hn1 hl0 kk
 go_upto_region 2 with fail
 rw [← HG5.out,← HW2.out]
 go_wp2_with fail
 go_loopw [4,6] (fun nv o wr=>DnRel B w2.heap.size g5 w.heap.size w2 nv o wr) (fun nv _ _=>(intOf nv).toNat)
 case atStart =>
  refine ⟨N,[],R,ok,a1,n1,c1,rfl,OwnL.nil _ _ _ _ _,RD,HX,Exb.refl _ _,fun ho=>?_,fun ho=>?_⟩
  ·rw [HD.out,if_pos ho];exact ⟨rfl,by have:=H64.out ho;simp;omega⟩
  ·rw [HD.out,ho];rfl
 case round =>
  clear RD HX HD H64 hN
  obtain ⟨N,out,R,ok,a,n,c,rfl,own,RD,HX,kw,HT,HF⟩:=hrel
  obtain ⟨wo,rfl⟩:∃ wo:World,wo=wr:=⟨_,rfl⟩
  have q0:=RD.blk.cell 0 _ rfl
  have q1:=RD.blk.cell 1 _ rfl
  have HT:=lH HT
  have HF:=lH HF
  have HX:=lH HX
  have ke:Ex w wo:=Ex.of_exb ((KK.out.b g5).nxb kw) hgb
  obtain ⟨a6,c6,rfl,s6,o6,m6,nil6⟩:=own.slf (fun _=>rfl)
  cases ok with
  | false =>
   have HE:Hid (decNd B=([],4)):=lH (by unfold decNd;rw [HF.out rfl])
   clear RD own s6 nil6
   by_cases hN0:(0:Int)<(N:Int)
   ·go_wp2_with fail
    go_ret2
    rw [HE.out]
    exact ⟨_,rfl,OwnL.nil _ _ _ _ _,ke⟩
   ·go_wp2_with fail
    go_ret2
    rw [HE.out]
    exact ⟨_,rfl,OwnL.nil _ _ _ _ _,ke⟩
  | true =>
   obtain ⟨hD,hNo⟩:=HT.out rfl
   by_cases hN0:N=0
   ·subst hN0
    have hRl:=RD.sl.len
    by_cases hn0:n=0
    ·have HE:Hid (decNd B=(out,0)):=lH (by unfold decNd;rw [hD];unfold contN;rw [if_pos (by omega)])
     have dn:¬ (0:Int)<(n:Int):=by omega
     clear RD s6 nil6 hD hRl hn0
     have own:=lH own
     go_wp2_with fail
     go_ret2
     rw [HE.out]
     exact ⟨_,rfl,own.out.base zz,ke⟩
    ·have HE:Hid (decNd B=([],4)):=lH (by unfold decNd;rw [hD];unfold contN;rw [if_neg (by omega)])
     have dn:(0:Int)<(n:Int):=by omega
     clear RD own s6 nil6 hD hRl hn0
     go_wp2_with fail
     go_ret2
     rw [HE.out]
     exact ⟨_,rfl,OwnL.nil _ _ _ _ _,ke⟩
   ·obtain ⟨m,rfl⟩:∃ m,N=m+1:=⟨N-1,by omega⟩
    have hNp:(0:Int)<((m+1:Nat):Int):=by omega
    have hol:out.length≤63:=by omega
    have HD:=lH hD
    have OWN:=lH own
    have RDH:=lH RD
    have hne5:∀ x,(Value.slice a6 out.length c6).ownBlock=some x→x≠g5:=own_ne own RD.blk (by decide)
    have h5o:=RD.blk.lt
    have hlt6:∀ x,(Value.slice a6 out.length c6).ownBlock=some x→x<wo.heap.size:=fun x hx=>(own.lt x hx).2
    have NE6:=lH hne5
    have LT6:=lH hlt6
    have HR0:=lH RD.sl.len
    have B7:=Blk.new wo [.int .i64 0,.string ⟨#[]⟩,.int .u32 0] 36
    have k3:=Ex.new wo (.cells #[.int .i64 0,.string ⟨#[]⟩,.int .u32 0] 36)
    obtain ⟨w3,hw3⟩:∃ w3,w3=wo.alloc (.cells #[.int .i64 0,.string ⟨#[]⟩,.int .u32 0] 36):=⟨_,rfl⟩
    obtain ⟨g7,hg7⟩:∃ g7,g7=wo.heap.size:=⟨_,rfl⟩
    have B7:Blk w3 g7 [.int .i64 0,.string ⟨#[]⟩,.int .u32 0] 36:=by rw [hw3,hg7];exact B7
    rw [← hw3] at k3
    have h57:g5≠g7:=by omega
    have h7o:wo.heap.size≤g7:=by omega
    have hwo:w.heap.size≤wo.heap.size:=ke.size
    have RD3:=RD.nx k3
    have kx:=k3.b g5
    have HW3:=lH hw3
    have HG7:=lH hg7
    have KW:=lH kw
    clear hN0 own s6 nil6 hD RD hw3 hg7 k3 hne5 hlt6 kw
    go_upto_region 6 with fail
    rw [← HG7.out,← HW3.out]
    clear q0 q1
    have HXP:=HX.out
    have g55:¬ g5=g7:=h57
    have g75:¬ g7=g5:=fun h=>h57 h.symm
    have q0:=RD3.blk.cell 0 _ rfl
    have q1:=RD3.blk.cell 1 _ rfl
    have y0:=RD3.blk.free 0
    have y1:=RD3.blk.free 1
    have p0:=B7.cell 0 _ rfl
    have p1:=B7.cell 1 _ rfl
    have p2:=B7.cell 2 _ rfl
    have z0:=B7.free 0
    have z1:=B7.free 1
    have z2:=B7.free 2
    go_wp2_with fail
    have RD3_n:n≤9223372036854775807:=RD3.n2
    (with_reducible refine (rint_p _ _ _ _ true _ RD3.sl RD3.n2 RD3.nc RD3.cm RD3.form).mono ?_)
    rintro e w4b ⟨a4,n4,c4,rfl,s4,nc4,cm4,f4,x4,k4⟩
    have hnn:n4≤n:=by have h1:=s4.len;have h2:=RD3.sl.len;rw [List.length_drop] at h1;omega
    have hn4:n4≤9223372036854775807:=Nat.le_trans hnn RD3.n2
    have HX4:∀ x oo,a4=some ⟨x,oo,none⟩→0<n4→x<w.heap.size:=by
     intro x oo he h0
     obtain ⟨o',ho⟩:=x4 x oo he
     exact HXP x o' ho (by omega)
    replace B7:=B7.nx k4
    have B5:=RD3.blk.nx k4
    replace kx:=kx.nxb (k4.b g5)
    have ne57:∀ x oo,a4=some ⟨x,oo,none⟩→0<n4→x≠g7:=fun x oo he h0=>by have:=HX4 x oo he h0;omega
    have ne55:∀ x oo,a4=some ⟨x,oo,none⟩→0<n4→x≠g5:=fun x oo he h0=>by have:=HX4 x oo he h0;omega
    obtain ⟨ok4,hok4⟩:∃ b:Bool,b=(true&&((intR R).2.2==0)):=⟨_,rfl⟩
    obtain ⟨v4,hv4⟩:∃ u:Int,u=(intR R).1:=⟨_,rfl⟩
    rw [← hok4,← hv4]
    have HOK4:=lH hok4
    have HV4:=lH hv4
    clear q0 q1 y0 y1 p0 p1 p2 z0 z1 z2
    have q0:=B5.cell 0 _ rfl
    have q1:=B5.cell 1 _ rfl
    have y0:=B5.free 0
    have y1:=B5.free 1
    have p0:=B7.cell 0 _ rfl
    have p1:=B7.cell 1 _ rfl
    have p2:=B7.cell 2 _ rfl
    have z0:=B7.free 0
    have z1:=B7.free 1
    have z2:=B7.free 2
    have B5:=B5.set_ne (j:=0) (.int .i64 v4) h57
    have s4:=sl_set s4 (p:=⟨g7,0,none⟩) (.int .i64 v4) ne57
    replace B7:=B7.set 0 (.int .i64 v4)
    have kx:=kx.setNew (p:=⟨g7,0,none⟩) (.int .i64 v4) h7o
    have RD4:Rdr _ g5 _ ok4 a4 n4 c4:=Rdr.put B5 rfl s4 hn4 nc4 cm4 f4 ne55
    replace B7:=(B7.set_ne (j:=0) (.slice a4 n4 c4) (fun h=>h57 h.symm)).set_ne (j:=1) (.bool ok4) (fun h=>h57 h.symm)
    replace kx:=(kx.setB (p:=⟨g5,0,none⟩) (.slice a4 n4 c4) rfl).setB (p:=⟨g5,1,none⟩) (.bool ok4) rfl
    have kxh:=lH kx
    clear hok4 hv4 kx
    go_upto_region 8 with fail
    clear q0 q1 y0 y1 p0 p1 p2 z0 z1 z2
    obtain ⟨w4c,hw4c⟩:∃ w4c,w4c=(((w4b.setCell ⟨g7,0,none⟩ (.int .i64 v4)).setCell ⟨g5,0,none⟩ (.slice a4 n4 c4)).setCell ⟨g5,1,none⟩ (.bool ok4)):=⟨_,rfl⟩
    have RD4:Rdr w4c g5 (R.drop (intR R).2.1) ok4 a4 n4 c4:=by rw [hw4c];exact RD4
    have B7:Blk w4c g7 [.int .i64 v4,.string ⟨#[]⟩,.int .u32 0] 36:=by rw [hw4c];exact B7
    have kx:Exb g5 wo w4c:=by rw [hw4c];exact kxh.out
    rw [← hw4c]
    have HXP:=HX4
    clear hw4c kxh ne57 ne55 s4 f4 x4 k4 nc4 cm4 B5
    have q0:=RD4.blk.cell 0 _ rfl
    have q1:=RD4.blk.cell 1 _ rfl
    have y0:=RD4.blk.free 0
    have y1:=RD4.blk.free 1
    have p0:=B7.cell 0 _ rfl
    have p1:=B7.cell 1 _ rfl
    have p2:=B7.cell 2 _ rfl
    have z0:=B7.free 0
    have z1:=B7.free 1
    have z2:=B7.free 2
    go_wp2_with fail
    (with_reducible refine (rstr64_p _ _ _ _ _ _ RD4.sl RD4.n2 RD4.nc RD4.cm RD4.form).mono ?_)
    rintro e w6b ⟨a6,n6,c6,rfl,s6,nc6,cm6,f6,x6,k6⟩
    have hnn:n6≤n4:=by have h1:=s6.len;have h2:=RD4.sl.len;rw [List.length_drop] at h1;omega
    have hn6:n6≤9223372036854775807:=Nat.le_trans hnn RD4.n2
    have HX6:∀ x oo,a6=some ⟨x,oo,none⟩→0<n6→x<w.heap.size:=by
     intro x oo he h0
     obtain ⟨o',ho⟩:=x6 x oo he
     exact HXP x o' ho (by omega)
    replace B7:=B7.nx k6
    have B5:=RD4.blk.nx k6
    replace kx:=kx.nxb (k6.b g5)
    have ne57:∀ x oo,a6=some ⟨x,oo,none⟩→0<n6→x≠g7:=fun x oo he h0=>by have:=HX6 x oo he h0;omega
    have ne55:∀ x oo,a6=some ⟨x,oo,none⟩→0<n6→x≠g5:=fun x oo he h0=>by have:=HX6 x oo he h0;omega
    obtain ⟨ok6,hok6⟩:∃ b:Bool,b=(ok4&&((strN (R.drop (intR R).2.1) 64).2.2==0)):=⟨_,rfl⟩
    obtain ⟨v6,hv6⟩:∃ u:ByteArray,u=(strN (R.drop (intR R).2.1) 64).1:=⟨_,rfl⟩
    rw [← hok6,← hv6]
    have HOK6:=lH hok6
    have HV6:=lH hv6
    clear q0 q1 y0 y1 p0 p1 p2 z0 z1 z2
    have q0:=B5.cell 0 _ rfl
    have q1:=B5.cell 1 _ rfl
    have y0:=B5.free 0
    have y1:=B5.free 1
    have p0:=B7.cell 0 _ rfl
    have p1:=B7.cell 1 _ rfl
    have p2:=B7.cell 2 _ rfl
    have z0:=B7.free 0
    have z1:=B7.free 1
    have z2:=B7.free 2
    have B5:=B5.set_ne (j:=1) (.string v6) h57
    have s6:=sl_set s6 (p:=⟨g7,1,none⟩) (.string v6) ne57
    replace B7:=B7.set 1 (.string v6)
    have kx:=kx.setNew (p:=⟨g7,1,none⟩) (.string v6) h7o
    have RD6:Rdr _ g5 _ ok6 a6 n6 c6:=Rdr.put B5 rfl s6 hn6 nc6 cm6 f6 ne55
    replace B7:=(B7.set_ne (j:=0) (.slice a6 n6 c6) (fun h=>h57 h.symm)).set_ne (j:=1) (.bool ok6) (fun h=>h57 h.symm)
    replace kx:=(kx.setB (p:=⟨g5,0,none⟩) (.slice a6 n6 c6) rfl).setB (p:=⟨g5,1,none⟩) (.bool ok6) rfl
    have kxh:=lH kx
    clear hok6 hv6 kx
    go_upto_region 9 with fail
    clear q0 q1 y0 y1 p0 p1 p2 z0 z1 z2
    obtain ⟨w6c,hw6c⟩:∃ w6c,w6c=(((w6b.setCell ⟨g7,1,none⟩ (.string v6)).setCell ⟨g5,0,none⟩ (.slice a6 n6 c6)).setCell ⟨g5,1,none⟩ (.bool ok6)):=⟨_,rfl⟩
    have RD6:Rdr w6c g5 ((R.drop (intR R).2.1).drop (strN (R.drop (intR R).2.1) 64).2.1) ok6 a6 n6 c6:=by rw [hw6c];exact RD6
    have B7:Blk w6c g7 [.int .i64 v4,.string v6,.int .u32 0] 36:=by rw [hw6c];exact B7
    have kx:Exb g5 wo w6c:=by rw [hw6c];exact kxh.out
    rw [← hw6c]
    have HXP:=HX6
    clear hw6c kxh ne57 ne55 s6 f6 x6 k6 nc6 cm6 B5
    have q0:=RD6.blk.cell 0 _ rfl
    have q1:=RD6.blk.cell 1 _ rfl
    have y0:=RD6.blk.free 0
    have y1:=RD6.blk.free 1
    have p0:=B7.cell 0 _ rfl
    have p1:=B7.cell 1 _ rfl
    have p2:=B7.cell 2 _ rfl
    have z0:=B7.free 0
    have z1:=B7.free 1
    have z2:=B7.free 2
    go_wp2_with fail
    obtain ⟨R2,hR2⟩:∃ R2,R2=(R.drop (intR R).2.1).drop (strN (R.drop (intR R).2.1) 64).2.1:=⟨_,rfl⟩
    rw [← hR2] at RD6
    have HR2:=lH hR2
    clear hR2
    (with_reducible refine (ruint32_p _ _ _ _ _ _ RD6.sl RD6.n2 RD6.nc RD6.cm RD6.form).mono ?_)
    rintro e w8b ⟨a8,n8,c8,rfl,s8,nc8,cm8,f8,x8,k8⟩
    have hnn:n8≤n6:=by have h1:=s8.len;have h2:=RD6.sl.len;rw [List.length_drop] at h1;omega
    have hn8:n8≤9223372036854775807:=Nat.le_trans hnn RD6.n2
    have HX8:∀ x oo,a8=some ⟨x,oo,none⟩→0<n8→x<w.heap.size:=by
     intro x oo he h0
     obtain ⟨o',ho⟩:=x8 x oo he
     exact HXP x o' ho (by omega)
    replace B7:=B7.nx k8
    have B5:=RD6.blk.nx k8
    replace kx:=kx.nxb (k8.b g5)
    have ne57:∀ x oo,a8=some ⟨x,oo,none⟩→0<n8→x≠g7:=fun x oo he h0=>by have:=HX8 x oo he h0;omega
    have ne55:∀ x oo,a8=some ⟨x,oo,none⟩→0<n8→x≠g5:=fun x oo he h0=>by have:=HX8 x oo he h0;omega
    obtain ⟨ok8,hok8⟩:∃ b:Bool,b=(ok6&&((decR R2).2.2==0)&&decide ((decR R2).1≤4294967295)):=⟨_,rfl⟩
    obtain ⟨v8,hv8⟩:∃ u:Nat,u=(decR R2).1:=⟨_,rfl⟩
    rw [← hok8,← hv8]
    have HOK8:=lH hok8
    have HV8:=lH hv8
    clear q0 q1 y0 y1 p0 p1 p2 z0 z1 z2
    have q0:=B5.cell 0 _ rfl
    have q1:=B5.cell 1 _ rfl
    have y0:=B5.free 0
    have y1:=B5.free 1
    have p0:=B7.cell 0 _ rfl
    have p1:=B7.cell 1 _ rfl
    have p2:=B7.cell 2 _ rfl
    have z0:=B7.free 0
    have z1:=B7.free 1
    have z2:=B7.free 2
    have RD8:Rdr _ g5 _ ok8 a8 n8 c8:=Rdr.put B5 rfl s8 hn8 nc8 cm8 f8 ne55
    replace B7:=(B7.set_ne (j:=0) (.slice a8 n8 c8) (fun h=>h57 h.symm)).set_ne (j:=1) (.bool ok8) (fun h=>h57 h.symm)
    replace kx:=(kx.setB (p:=⟨g5,0,none⟩) (.slice a8 n8 c8) rfl).setB (p:=⟨g5,1,none⟩) (.bool ok8) rfl
    have kxh:=lH kx
    clear hok8 hv8 kx
    go_upto_region 10 with fail
    clear q0 q1 y0 y1 p0 p1 p2 z0 z1 z2
    obtain ⟨w8c,hw8c⟩:∃ w8c,w8c=((w8b.setCell ⟨g5,0,none⟩ (.slice a8 n8 c8)).setCell ⟨g5,1,none⟩ (.bool ok8)):=⟨_,rfl⟩
    have RD8:Rdr w8c g5 (R2.drop (decR R2).2.1) ok8 a8 n8 c8:=by rw [hw8c];exact RD8
    have B7:Blk w8c g7 [.int .i64 v4,.string v6,.int .u32 0] 36:=by rw [hw8c];exact B7
    have kx:Exb g5 wo w8c:=by rw [hw8c];exact kxh.out
    rw [← hw8c]
    have HXP:=HX8
    clear hw8c kxh ne57 ne55 s8 f8 x8 k8 nc8 cm8 B5
    have q0:=RD8.blk.cell 0 _ rfl
    have q1:=RD8.blk.cell 1 _ rfl
    have y0:=RD8.blk.free 0
    have y1:=RD8.blk.free 1
    have p0:=B7.cell 0 _ rfl
    have p1:=B7.cell 1 _ rfl
    have p2:=B7.cell 2 _ rfl
    have z0:=B7.free 0
    have z1:=B7.free 1
    have z2:=B7.free 2
    have hww:IntKind.u32.wrap (v8:Int)=((v8 % 4294967296:Nat):Int):=by rw [wrap_u32n];omega
    have B5:=RD8.blk
    have B7w:=B7.set 2 (.int .u32 ((v8 % 4294967296:Nat):Int))
    have kxw:=lH (kx.setNew (p:=⟨g7,2,none⟩) (.int .u32 ((v8 % 4294967296:Nat):Int)) h7o)
    have B5w:=B5.set_ne (j:=2) (.int .u32 ((v8 % 4294967296:Nat):Int)) h57
    have SW:=sl_set RD8.sl (p:=⟨g7,2,none⟩) (.int .u32 ((v8 % 4294967296:Nat):Int)) (fun x oo he h0=>by have:=HX8 x oo he h0;show x≠g7;omega)
    go_upto_region 11 with fail
    obtain ⟨w9,hw9⟩:∃ w9,w9=w8c.setCell ⟨g7,2,none⟩ (.int .u32 ((v8 % 4294967296:Nat):Int)):=⟨_,rfl⟩
    clear q0 q1 y0 y1 p0 p1 p2 z0 z1 z2 B7 B5 kx
    have B7:Blk w9 g7 [.int .i64 v4,.string v6,.int .u32 ((v8 % 4294967296:Nat):Int)] 36:=by rw [hw9];exact B7w
    have B5:Blk w9 g5 [.slice a8 n8 c8,.bool ok8] 174:=by rw [hw9];exact B5w
    have kx:Exb g5 wo w9:=by rw [hw9];exact kxw.out
    have S9:Sl 1 encB w9 a8 n8 (R2.drop (decR R2).2.1):=by rw [hw9];exact SW
    rw [show ((v8:Int) % 4294967296)=((v8 % 4294967296:Nat):Int) from by omega]
    rw [← hw9]
    have p0:=B7.cell 0 _ rfl
    have p1:=B7.cell 1 _ rfl
    have p2:=B7.cell 2 _ rfl
    have own9:=OWN.out.chg kx (fun x hx hv=>⟨hx,NE6.out x hv⟩)
    have kw9:=KW.out.nxb kx
    have zz9:=kw9.size
    have RD8n:=RD8.nc
    have RD8c:=RD8.cm
    have RD8f:=lH RD8.form
    have RD82:=RD8.n2
    obtain ⟨wd,hwd⟩:∃ wd,wd=v8 % 4294967296:=⟨_,rfl⟩
    rw [← hwd] at p2 ⊢
    have HWD:=lH hwd
    have NEQ:=NE6.out
    clear hw9 B7w B5w kxw SW RD8 B7 KW kx hwd hww
    go_wp2_with (at_builtin;(refine wpList_append_lit (enc:=encN) w9 rfl _ _ 25 rfl w2.heap.size 36 (.agg #[.int .i64 0,.string ByteArray.empty,.int .u32 0]) 3 32 Tryz.underlying25 Tryz.infoN rfl (by omega) (by omega) _ _ own9 rfl (⟨v4,v6,wd⟩:Nd) _ rfl rfl (by simp [encN,Value.oneCell']) _ (by simp) rfl (by omega) zz9 _ ?_);intro v10 w10 own10 ch0 ch1 _;have B5:Blk w10 g5 _ _:=(ch0.block g5 ⟨B5.lt,fun hv=>NEQ g5 hv rfl⟩).trans B5;have q1:=B5.cell 1 _ rfl)
    have B5':Blk w10 g5 [.slice a8 n8 c8,.bool ok8] 174:=B5
    have S10:Sl 1 encB w10 a8 n8 (R2.drop (decR R2).2.1):=by
     refine ⟨S9.1,?_⟩
     rcases S9.2 with h0 | ⟨x,o,e1,e2,e3⟩
     ·exact .inl h0
     ·rcases Nat.eq_zero_or_pos n8 with h0 | h0
      ·exact .inl h0
      ·exact .inr ⟨x,o,e1,Nat.lt_of_lt_of_le e2 ch0.size,fun j y hj c u hu=>by rw [ch1.cell (p:=⟨x,_,none⟩) (by have:=HX8 x o e1 h0;show x<w2.heap.size;omega)];exact e3 j y hj c u hu⟩
    have kw10:Exb g5 w2 w10:=Chg.trans kw9 (ch1.mono (fun x hx=>hx.1))
    have ST:=contN_step m out R ok4 ok6 ok8 (by rw [HOK4.out,Bool.true_and]) HOK6.out (by rw [HOK8.out,HR2.out])
    rw [← HR2.out,← HV4.out,← HV6.out,← HV8.out,← HWD.out] at ST
    refine ⟨⟨m,out++[⟨v4,v6,wd⟩],R2.drop (decR R2).2.1,ok8,a8,n8,c8,by go_num,own10,⟨B5',S10,RD82,RD8n,RD8c,RD8f.out⟩,HX8,kw10,fun ho=>?_,fun ho=>?_⟩,by simp [intOf];try omega⟩
    ·rw [HD.out,ST,if_pos ho]
     exact ⟨rfl,by simp;omega⟩
    ·rw [HD.out,ST,ho]
     rfl
theorem pU_le {l:Nat} {B R:List UInt8} {N:Nat} (h:pU l B=some (N,R)):N≤l:=by
 unfold pU at h
 split at h
 ·rename_i hc;cases h;exact hc.2
 ·cases h
def contV:Nat→List (Int×Int)→List UInt8→Option (List (Int×Int)×List UInt8)
 | 0,row,R=>some (row,R)
 | m+1,row,R=>(pI R).bind fun r1=>(pI r1.2).bind fun r2=>contV m (row++[(r1.1,r2.1)]) r2.2
def contK:Nat→List Lkd→List UInt8→Option (List Lkd)
 | 0,out,R=>if R.length=0 then some out else none
 | m+1,out,R=>(pI R).bind fun r1=>(pU 17 r1.2).bind fun r2=>(contV r2.1 [] r2.2).bind fun r3=>contK m (out++[(r1.1,r3.1)]) r3.2
def decL (R:List UInt8):Option (List Lkd):=(pU 64 R).bind fun r=>contK r.1 [] r.2
def decLd (R:List UInt8):List Lkd×Int:=match decL R with | some l=>(l,0) | none=>([],4)
theorem decL_ok {B:List UInt8} {R:List UInt8} {N:Nat} (h:okB false (pU 64 B)=some (N,R)):decL B=contK N [] R∧N≤64:=by
 have h':pU 64 B=some (N,R):=h
 exact ⟨by unfold decL;rw [h'];rfl,pU_le h'⟩
theorem decL_no {B:List UInt8} (h:okB false (pU 64 B)=none):decL B=none:=by
 have h':pU 64 B=none:=h
 unfold decL;rw [h'];rfl
def contVK (m:Nat) (out:List Lkd) (v:Int) (N:Nat) (row:List (Int×Int)) (R:List UInt8):Option (List Lkd):=(contV N row R).bind fun r3=>contK m (out++[(v,r3.1)]) r3.2
theorem contK_ok {m:Nat} {out:List Lkd} {R R1 R2:List UInt8} {v:Int} {u:Nat} (h1:okB false (pI R)=some (v,R1)) (h2:okB false (pU 17 R1)=some (u,R2)):contK (m+1) out R=contVK m out v u [] R2∧u≤17:=by
 have h1:pI R=some (v,R1):=h1
 have h2:pU 17 R1=some (u,R2):=h2
 refine ⟨?_,pU_le h2⟩
 show (pI R).bind _=_
 rw [h1,Option.bind_some,h2,Option.bind_some]
 rfl
theorem contK_no {m:Nat} {out:List Lkd} {R R1:List UInt8} {v:Int} {b1:Bool} (k1:b1=false→okB false (pI R)=some (v,R1)) (n1:b1=true→okB false (pI R)=none) (h2:okB b1 (pU 17 R1)=none):contK (m+1) out R=none:=by
 show (pI R).bind _=_
 cases b1 with
 | true =>
  have h1:pI R=none:=n1 rfl
  rw [h1];rfl
 | false =>
  have h1:pI R=some (v,R1):=k1 rfl
  have h2:pU 17 R1=none:=h2
  rw [h1,Option.bind_some,h2];rfl
theorem contVK_ok {m j:Nat} {out:List Lkd} {i:Int} {row:List (Int×Int)} {R R1 R2:List UInt8} {v u:Int} (h1:okB false (pI R)=some (v,R1)) (h2:okB false (pI R1)=some (u,R2)):contVK m out i (j+1) row R=contVK m out i j (row++[(v,u)]) R2:=by
 have h1:pI R=some (v,R1):=h1
 have h2:pI R1=some (u,R2):=h2
 show ((pI R).bind _).bind _=_
 rw [h1,Option.bind_some,h2,Option.bind_some]
 rfl
theorem contVK_no {m j:Nat} {out:List Lkd} {i:Int} {row:List (Int×Int)} {R R1:List UInt8} {v:Int} {b1:Bool} (k1:b1=false→okB false (pI R)=some (v,R1)) (n1:b1=true→okB false (pI R)=none) (h2:okB b1 (pI R1)=none):contVK m out i (j+1) row R=none:=by
 show ((pI R).bind _).bind _=_
 cases b1 with
 | true =>
  have h1:pI R=none:=n1 rfl
  rw [h1];rfl
 | false =>
  have h1:pI R=some (v,R1):=k1 rfl
  have h2:pI R1=none:=h2
  rw [h1,Option.bind_some,h2];rfl
theorem pU_enc {lim N:Nat} (R':List UInt8) (h1:N≤lim) (h2:N<18446744073709551616):pU lim (encU N++R')=some (N,R'):=by
 have e:decR (encU N++R')=(N,(encU N).length,0):=by unfold decR;rw [decU_encU N R' h2];rfl
 unfold pU
 rw [e,if_pos ⟨rfl,h1⟩,List.drop_left]
theorem pI_enc {v:Int} (R':List UInt8) (h:I64 v):pI (encU (zig v)++R')=some (v,R'):=by
 unfold pI intR
 rw [decU_encU _ R' (zig_lt h.1 h.2)]
 simp only [if_true,unzig_zig,List.drop_left]
theorem pS_enc {s:ByteArray} (R':List UInt8) (h:s.size≤64):pS (encStr s++R')=some (s,R'):=by
 have hb:=bytesOf_length s
 unfold pS strN strR encStr
 rw [List.append_assoc,decU_encU _ _ (by omega)]
 have h1:¬ (((64:Nat):Int)<0∨((64:Nat):Int)<(s.size:Int)):=by omega
 have h2:¬ (encU s.size++(bytesOf s++R')).length-(encU s.size).length<s.size:=by
  rw [List.length_append,List.length_append];omega
 simp only [if_neg h1,if_neg h2]
 have e2:(((encU s.size).length:Int)+s.size).toNat=(encU s.size).length+s.size:=by omega
 simp only [Int.toNat_zero,if_true,e2,List.drop_left,Option.some.injEq,Prod.mk.injEq]
 refine ⟨?_,?_⟩
 ·rw [← hb,List.take_left,strB_bytes]
 ·rw [← List.drop_drop,List.drop_left,← hb,List.drop_left]
def NRt (x:Nd):Prop:=I64 x.id∧x.word≤4294967295∧x.key.size≤64
theorem contN_enc:∀ (l out:List Nd),(∀ x∈l,NRt x)→contN l.length out (l.flatMap encNd)=some (out++l)
 | [],out,_=>by simp [contN]
 | x::l,out,h=>by
  obtain ⟨h1,h2,h3⟩:=h x (by simp)
  show (pI _).bind _=_
  rw [List.flatMap_cons]
  rw [show encNd x=encU (zig x.id)++encStr x.key++encU x.word from rfl,List.append_assoc,List.append_assoc,pI_enc _ h1,Option.bind_some,pS_enc _ h3,Option.bind_some,pU_enc _ h2 (by omega),Option.bind_some]
  rw [contN_enc l _ (fun y hy=>h y (by simp [hy]))]
  simp
theorem dec_enc_nodes {l:List Nd} (h:∀ x∈l,NRt x) (hl:l.length≤64):(encNds l).2=0∧decNd (encNds l).1=(l,0):=by
 have ha:l.any (fun x=>decide (64<x.key.size))=false:=by
  rw [List.any_eq_false]
  intro x hx
  have:=(h x hx).2.2
  simp;omega
 have e:encNds l=(encU l.length++l.flatMap encNd,0):=by
  unfold encNds
  rw [if_neg (by omega),ha]
  rfl
 rw [e]
 refine ⟨rfl,?_⟩
 have hd:decN (encU l.length++l.flatMap encNd)=some l:=by
  unfold decN
  rw [pU_enc _ hl (by omega),Option.bind_some]
  rw [contN_enc l [] h]
  simp
 unfold decNd
 rw [hd]
def LRt (c:Lkd):Prop:=I64 c.1∧c.2.length≤17∧∀ y∈c.2,I64 y.1∧I64 y.2
theorem contV_enc:∀ (l row:List (Int×Int)) (R:List UInt8),(∀ y∈l,I64 y.1∧I64 y.2)→contV l.length row (l.flatMap encLv++R)=some (row++l,R)
 | [],row,R,_=>by simp [contV]
 | y::l,row,R,h=>by
  obtain ⟨h1,h2⟩:=h y (by simp)
  show (pI _).bind _=_
  rw [List.flatMap_cons]
  rw [show encLv y=encU (zig y.1)++encU (zig y.2) from rfl,List.append_assoc,List.append_assoc,pI_enc _ h1,Option.bind_some,pI_enc _ h2,Option.bind_some]
  rw [contV_enc l (row++[(y.1,y.2)]) R (fun z hz=>h z (by simp [hz]))]
  simp
theorem contK_enc:∀ (l out:List Lkd),(∀ x∈l,LRt x)→contK l.length out (l.flatMap encLk)=some (out++l)
 | [],out,_=>by simp [contK]
 | x::l,out,h=>by
  obtain ⟨h1,h2,h3⟩:=h x (by simp)
  show (pI _).bind _=_
  rw [List.flatMap_cons]
  rw [show encLk x=encU (zig x.1)++encU x.2.length++x.2.flatMap encLv from rfl,List.append_assoc,List.append_assoc,pI_enc _ h1,Option.bind_some,pU_enc _ h2 (by omega),Option.bind_some]
  rw [contV_enc x.2 [] _ h3,Option.bind_some]
  rw [List.nil_append,contK_enc l (out++[(x.1,x.2)]) (fun y hy=>h y (by simp [hy]))]
  simp
theorem dec_enc_links {l:List Lkd} (h:∀ x∈l,I64 x.1∧∀ y∈x.2,I64 y.1∧I64 y.2) (h0:(encLks l).2=0):decLd (encLks l).1=(l,0):=by
 unfold encLks at *
 split at h0
 ·cases h0
 ·rename_i hl
  split at h0
  ·cases h0
  ·rename_i ha
   have hr:∀ x∈l,LRt x:=fun x hx=>⟨(h x hx).1,by
    by_cases h17:17<x.2.length
    ·exact absurd (List.any_eq_true.2 ⟨x,hx,by simpa using h17⟩) ha
    ·omega,(h x hx).2⟩
   rw [if_neg hl,if_neg ha]
   have hd:decL (encU l.length++l.flatMap encLk)=some l:=by
    unfold decL
    rw [pU_enc _ (by omega) (by omega),Option.bind_some]
    rw [contK_enc l [] hr]
    simp
   unfold decLd
   rw [hd]
structure RdW (w:World) (g b0:Nat) (R:List UInt8) (ok:Bool) (a:Option Addr) (n c:Nat):Prop where
 blk:Blk w g [.slice a n c,.bool ok] 174
 sl:Sl 1 encB w a n R
 n2:n≤9223372036854775807
 nc:n≤c
 cm:c≤maxLen
 form:Form a c
 lt:∀ x o,a=some ⟨x,o,none⟩→0<n→x<b0
 lo:b0≤g
theorem RdW.nx {w w':World} {g b0:Nat} {R:List UInt8} {ok:Bool} {a:Option Addr} {n c:Nat} (h:RdW w g b0 R ok a n c) (k:Ex w w'):RdW w' g b0 R ok a n c:=⟨h.blk.nx k,h.sl.nx k,h.n2,h.nc,h.cm,h.form,h.lt,h.lo⟩
theorem RdW.chg {w w':World} {g b0 s:Nat} {R:List UInt8} {ok:Bool} {a:Option Addr} {n c:Nat} (h:RdW w g b0 R ok a n c) (k:Chg (fun x=>x<s) w w') (hs:g<s) (hz:w.heap.size≤w'.heap.size):RdW w' g b0 R ok a n c:=by
 refine ⟨(k.block g hs).trans h.blk,⟨h.sl.1,?_⟩,h.n2,h.nc,h.cm,h.form,h.lt,h.lo⟩
 rcases h.sl.2 with h0 | ⟨x,o,e1,e2,e3⟩
 ·exact .inl h0
 ·rcases Nat.eq_zero_or_pos n with h0 | h0
  ·exact .inl h0
  ·exact .inr ⟨x,o,e1,Nat.lt_of_lt_of_le e2 hz,fun j y hj c u hu=>by rw [k.cell (p:=⟨x,_,none⟩) (by have:=h.lt x o e1 h0;have:=h.lo;show x<s;omega)];exact e3 j y hj c u hu⟩
theorem RdW.set {w:World} {g b0:Nat} {R:List UInt8} {ok:Bool} {a:Option Addr} {n c:Nat} (h:RdW w g b0 R ok a n c) {p:Addr} (v:Value) (hp:b0≤p.block) (hg:g≠p.block):RdW (w.setCell p v) g b0 R ok a n c :=
 ⟨(Chg.block (S:=(·≠p.block)) (Chg.setCell (Chg.refl _ w) _ (fun _ hx=>hx)) g hg).trans h.blk,sl_setF h.sl v (fun x o e h0=>by have:=h.lt x o e h0;omega),h.n2,h.nc,h.cm,h.form,h.lt,h.lo⟩
structure RdO (w':World) (b0 n:Nat) (R':List UInt8) (a':Option Addr) (n' c':Nat):Prop where
 sl:Sl 1 encB w' a' n' R'
 le:n'≤n
 n2:n'≤9223372036854775807
 nc:n'≤c'
 cm:c'≤maxLen
 form:Form a' c'
 lt:∀ x o,a'=some ⟨x,o,none⟩→0<n'→x<b0
theorem RdO.set {w:World} {b0 n:Nat} {R:List UInt8} {a:Option Addr} {n' c:Nat} (h:RdO w b0 n R a n' c) {p:Addr} (v:Value) (hp:b0≤p.block):RdO (w.setCell p v) b0 n R a n' c :=
 ⟨sl_setF h.sl v (fun x o e h0=>by have:=h.lt x o e h0;omega),h.le,h.n2,h.nc,h.cm,h.form,h.lt⟩
theorem RdO.put {w:World} {g b0 n:Nat} {cs:List Value} (B:Blk w g cs 174) (hcs:cs.length=2) {R:List UInt8} (ok:Bool) {a:Option Addr} {n' c:Nat} (h:RdO w b0 n R a n' c) (hb:b0≤g):RdW ((w.setCell ⟨g,0,none⟩ (.slice a n' c)).setCell ⟨g,1,none⟩ (.bool ok)) g b0 R ok a n' c:=by
 have h2:=(h.set (p:=⟨g,0,none⟩) (.slice a n' c) hb).set (p:=⟨g,1,none⟩) (.bool ok) hb
 refine ⟨?_,h2.sl,h2.n2,h2.nc,h2.cm,h2.form,h2.lt,hb⟩
 match cs,hcs with
 | [x,y],_=>exact (B.set 0 (.slice a n' c)).set 1 (.bool ok)
def RWPost {α:Type} (val:α→Value) (r:Option (α×List UInt8)) (b0 n:Nat) (w:World) (e:Ending) (w':World):Prop :=
 ∃ (v:α) (R':List UInt8) (ok':Bool) (a':Option Addr) (n' c':Nat),e=.returned (.tuple #[val v,.agg #[.slice a' n' c',.bool ok']])∧RdO w' b0 n R' a' n' c'∧Ex w w'∧(ok'=true→r=some (v,R'))∧(ok'=false→r=none)
theorem rw_of {α:Type} {val:α→Value} {r:Option (α×List UInt8)} {b0:Nat} {w:World} {v:α} {k:Nat} {R:List UInt8} {ok':Bool} {a:Option Addr} {n:Nat} (hn:n≤9223372036854775807) (hl:R.length=n) (hlt:∀ x o,a=some ⟨x,o,none⟩→0<n→x<b0)
  (h1:ok'=true→r=some (v,R.drop k)) (h2:ok'=false→r=none) {e:Ending} {w':World} (h:RdPost (val v) (R.drop k) ok' a w e w'):RWPost val r b0 n w e w':=by
 obtain ⟨a',n',c',rfl,s,nc,cm,f,x,kk⟩:=h
 have hn':n'≤n:=by have h3:=s.len;rw [List.length_drop] at h3;omega
 exact ⟨v,R.drop k,ok',a',n',c',rfl,⟨s,hn',Nat.le_trans hn' hn,nc,cm,f,fun x' o he h0=>by obtain ⟨o',ho⟩:=x x' o he;exact hlt x' o' ho (by omega)⟩,kk,h1,h2⟩
theorem pw17 (g b0:Nat) (R:List UInt8) (ok:Bool) (a:Option Addr) (n c:Nat) (w:World) (h:RdW w g b0 R ok a n c) :
  Calls Tryz.prog 97 #[.agg #[.slice a n c,.bool ok],.int .u64 17] w (RWPost (fun N:Nat=>.int .u64 (N:Int)) (okB (!ok) (pU 17 R)) b0 n w):=by
 refine (ruint17_p a n c R ok w h.sl h.n2 h.nc h.cm h.form).mono ?_
 intro e w' hp
 refine rw_of (α:=Nat) (v:=(decR R).1) (k:=(decR R).2.1) h.n2 h.sl.len h.lt (fun ho=>?_) (fun ho=>?_) hp
 ·cases ok with
  | false=>simp at ho
  | true =>
   show pU 17 R=_
   unfold pU
   rw [if_pos (by simpa using ho)]
 ·cases ok with
  | false=>rfl
  | true =>
   show pU 17 R=_
   unfold pU
   rw [if_neg (fun hh=>by simp [hh.1] at ho;exact absurd hh.2 (by omega))]
theorem pwi (g b0:Nat) (R:List UInt8) (ok:Bool) (a:Option Addr) (n c:Nat) (w:World) (h:RdW w g b0 R ok a n c) :
  Calls Tryz.prog 98 #[.agg #[.slice a n c,.bool ok]] w (RWPost (fun N:Int=>.int .i64 N) (okB (!ok) (pI R)) b0 n w):=by
 refine (rint_p a n c R ok w h.sl h.n2 h.nc h.cm h.form).mono ?_
 intro e w' hp
 refine rw_of (α:=Int) (v:=(intR R).1) (k:=(intR R).2.1) h.n2 h.sl.len h.lt (fun ho=>?_) (fun ho=>?_) hp
 ·cases ok with
  | false=>simp at ho
  | true =>
   show pI R=_
   unfold pI
   rw [if_pos (by simpa using ho)]
 ·cases ok with
  | false=>rfl
  | true =>
   show pI R=_
   unfold pI
   rw [if_neg (fun hh=>by simp [hh] at ho)]
def DxRel (B:List UInt8) (base g b0:Nat) (w:World) (nv o:Value) (wr:World):Prop :=
 ∃ (N:Nat) (out:List Lkd) (qs:List (Int×Hdr)) (R:List UInt8) (ok:Bool) (a:Option Addr) (n c:Nat),nv=.int .u64 N∧OwnLk base wr o qs out∧RdW wr g b0 R ok a n c∧Exb g w wr ∧
  (ok=true→decL B=contK N out R∧N+out.length≤64)∧(ok=false→decL B=none)
def DyRel (B:List UInt8) (m:Nat) (out:List Lkd) (id:Int) (g b0 g9 base:Nat) (w:World) (nv:Value) (wr:World):Prop :=
 ∃ (N:Nat) (row:List (Int×Int)) (R:List UInt8) (ok:Bool) (a:Option Addr) (n c:Nat) (vv:Value),nv=.int .u64 N∧Blk wr g9 [.int .i64 id,vv] 121∧OwnL 2 encS 128 base wr vv row∧RdW wr g b0 R ok a n c∧Exb g w wr∧base≤wr.heap.size∧row.length≤17 ∧
  (ok=true→decL B=contVK m out id N row R∧N+row.length≤17)∧(ok=false→decL B=none)
set_option maxRecDepth 100000 in
set_option maxHeartbeats 4000000 in
theorem decl_p (a:Option Addr) (n c:Nat) (B:List UInt8) (w:World) (h:Sl 1 encB w a n B) (hn:n≤9223372036854775807) (hc:n≤c) (hm:c≤maxLen) (hf:Form a c) :
  Calls Tryz.prog 32 #[.slice a n c] w (LkPost (decLd B).1 (decLd B).2 w):=by
 have HLT:Hid (∀ x o,a=some ⟨x,o,none⟩→0<n→x<w.heap.size):=lH (fun x o e h0=>by
  rcases h.2 with h2 | ⟨y,o2,e1,e2,_⟩
  ·omega
  ·rw [e] at e1;cases e1;exact e2)
 go_enter Tryz.func32,Tryz.ntmps32
 go_wp2_with fail
 (with_reducible refine (ruint64_p _ _ _ _ true _ h hn hc hm hf).mono ?_)
 intro e w1 hp
 have hp:RWPost (fun N:Nat=>.int .u64 (N:Int)) (okB (!true) (pU 64 B)) w.heap.size n w e w1 :=
  rw_of (α:=Nat) (v:=(decR B).1) (k:=(decR B).2.1) hn h.len HLT.out (fun ho=>by
   show pU 64 B=_
   unfold pU
   rw [if_pos (by simpa using ho)]) (fun ho=>by
   show pU 64 B=_
   unfold pU
   rw [if_neg (fun hh=>by simp [hh.1] at ho;exact absurd hh.2 (by omega))]) hp
 obtain ⟨N,R,ok,a1,n1,c1,rfl,RO,k1,HP,HQ⟩:=hp
 have HP:=lH HP
 have HQ:=lH HQ
 have k2:=Ex.new w1 (.cells #[.slice a1 n1 c1,.bool ok] 174)
 have B2:=Blk.new w1 [.slice a1 n1 c1,.bool ok] 174
 obtain ⟨w2,hw2⟩:∃ w2,w2=w1.alloc (.cells #[.slice a1 n1 c1,.bool ok] 174):=⟨_,rfl⟩
 obtain ⟨g5,hg5⟩:∃ g5,g5=w1.heap.size:=⟨_,rfl⟩
 have B2:Blk w2 g5 [.slice a1 n1 c1,.bool ok] 174:=by rw [hw2,hg5];exact B2
 rw [← hw2] at k2
 have hgb:w.heap.size≤g5:=by have:=k1.size;omega
 have RD:RdW w2 g5 w.heap.size R ok a1 n1 c1:=⟨B2,RO.sl.nx k2,RO.n2,RO.nc,RO.cm,RO.form,RO.lt,hgb⟩
 have KK:=lH (k1.nx k2)
 have HW2:=lH hw2
 have HG5:=lH hg5
 have zz:=KK.out.size
 have h5b:g5<w2.heap.size:=B2.lt
 clear h hf hw2 hg5 k1 k2 B2 RO hn hc hm
 go_upto_region 2 with fail
 rw [← HG5.out,← HW2.out]
 go_wp2_with fail
 go_loopw [4,6] (fun nv o wr=>DxRel B w2.heap.size g5 w.heap.size w2 nv o wr) (fun nv _ _=>(intOf nv).toNat)
 case atStart =>
  refine ⟨N,[],[],R,ok,a1,n1,c1,rfl,OwnN.nil _ _ _ _ _ _ _ _,RD,Exb.refl _ _,fun ho=>?_,fun ho=>?_⟩
  ·have:=decL_ok (HP.out ho);exact ⟨this.1,by have:=this.2;simp;omega⟩
  ·exact decL_no (HQ.out ho)
 case round =>
  clear RD HP HQ
  obtain ⟨N,out,qs,R,ok,a,n,c,rfl,own,RD,kw,HT,HF⟩:=hrel
  obtain ⟨wo,rfl⟩:∃ wo:World,wo=wr:=⟨_,rfl⟩
  have q0:=RD.blk.cell 0 _ rfl
  have q1:=RD.blk.cell 1 _ rfl
  have HT:=lH HT
  have HF:=lH HF
  have ke:Ex w wo:=Ex.of_exb ((KK.out.b g5).nxb kw) hgb
  have OQ:=lH own
  cases ok with
  | false =>
   have HE:Hid (decLd B=([],4)):=lH (by unfold decLd;rw [HF.out rfl])
   clear RD own
   by_cases hN0:(0:Int)<(N:Int)
   ·go_wp2_with fail
    go_ret2
    rw [HE.out]
    exact ⟨_,[],rfl,OwnN.nil _ _ _ _ _ _ _ _,ke⟩
   ·go_wp2_with fail
    go_ret2
    rw [HE.out]
    exact ⟨_,[],rfl,OwnN.nil _ _ _ _ _ _ _ _,ke⟩
  | true =>
   obtain ⟨hD,hNo⟩:=HT.out rfl
   by_cases hN0:N=0
   ·subst hN0
    have hRl:=RD.sl.len
    by_cases hn0:n=0
    ·have HE:Hid (decLd B=(out,0)):=lH (by unfold decLd;rw [hD];unfold contK;rw [if_pos (by omega)])
     have dn:¬ (0:Int)<(n:Int):=by omega
     clear RD hD hRl hn0 own
     go_wp2_with fail
     go_ret2
     rw [HE.out]
     exact ⟨_,qs,rfl,OQ.out.base zz,ke⟩
    ·have HE:Hid (decLd B=([],4)):=lH (by unfold decLd;rw [hD];unfold contK;rw [if_neg (by omega)])
     have dn:(0:Int)<(n:Int):=by omega
     clear RD own hD hRl hn0
     go_wp2_with fail
     go_ret2
     rw [HE.out]
     exact ⟨_,[],rfl,OwnN.nil _ _ _ _ _ _ _ _,ke⟩
   ·obtain ⟨m,rfl⟩:∃ m,N=m+1:=⟨N-1,by omega⟩
    have hNp:(0:Int)<((m+1:Nat):Int):=by omega
    have hol:out.length≤63:=by omega
    have hmb:m≤63:=by omega
    have HOL:=lH hNo
    have HD:=lH hD
    have hwo:w.heap.size≤wo.heap.size:=ke.size
    have h5o:=RD.blk.lt
    have hww2:=kw.size
    have KW:=lH kw
    clear hN0 own hD kw hNo q0 q1
    have B7:=Blk.new wo [.int .i64 0,.slice none 0 0] 121
    have k3:=Ex.new wo (.cells #[.int .i64 0,.slice none 0 0] 121)
    obtain ⟨w3,hw3⟩:∃ w3,w3=wo.alloc (.cells #[.int .i64 0,.slice none 0 0] 121):=⟨_,rfl⟩
    obtain ⟨g7,hg7⟩:∃ g7,g7=wo.heap.size:=⟨_,rfl⟩
    have B7:Blk w3 g7 [.int .i64 0,.slice none 0 0] 121:=by rw [hw3,hg7];exact B7
    rw [← hw3] at k3
    have h57:g5≠g7:=by omega
    have h75:g7≠g5:=fun h=>h57 h.symm
    have g55:¬ g5=g7:=h57
    have g75:¬ g7=g5:=h75
    have h7o:wo.heap.size≤g7:=by omega
    have h7b:w.heap.size≤g7:=by omega
    have h7l:=B7.lt
    have h5l3:g5<w3.heap.size:=by have:=k3.size;omega
    have RD0:=lH RD
    replace RD:=RD.nx k3
    have kx:=k3.b g5
    have HW3:=lH hw3
    have HG7:=lH hg7
    have y0:=RD0.out.blk.cell 0 _ rfl
    have y1:=RD0.out.blk.cell 1 _ rfl
    clear hw3 hg7 k3
    go_upto_region 6 with fail
    rw [← HG7.out,← HW3.out]
    clear y0 y1
    have q0:=RD.blk.cell 0 _ rfl
    have q1:=RD.blk.cell 1 _ rfl
    go_wp2_with fail
    (with_reducible refine (pwi _ _ _ _ _ _ _ _ RD).mono ?_)
    rintro e w4b ⟨v4,Rb4,b4,ab4,nb4,cb4,rfl,RO,k4,HPb4,HQb4⟩
    have HPb4:=lH HPb4
    have HQb4:=lH HQb4
    have z4:=k4.size
    have B5:=RD.blk.nx k4
    replace kx:=kx.nxb (k4.b g5)
    clear q0 q1
    replace B7:=B7.nx k4
    clear RD k4
    have q0:=B5.cell 0 _ rfl
    have q1:=B5.cell 1 _ rfl
    have f0:=B5.free 0
    have f1:=B5.free 1
    have p0:=B7.cell 0 _ rfl
    have p1:=B7.cell 1 _ rfl
    have z0:=B7.free 0
    have z1:=B7.free 1
    replace B5:=B5.set_ne (j:=0) (.int .i64 v4) h57
    replace RO:=RO.set (p:=⟨g7,0,none⟩) (.int .i64 v4) h7b
    replace B7:=B7.set 0 (.int .i64 v4)
    replace kx:=kx.setNew (p:=⟨g7,0,none⟩) (.int .i64 v4) h7o
    replace B7:=(B7.set_ne (j:=0) (.slice ab4 nb4 cb4) h75).set_ne (j:=1) (.bool b4) h75
    have RD:=RO.put B5 rfl b4 hgb
    replace kx:=(kx.setB (p:=⟨g5,0,none⟩) (.slice ab4 nb4 cb4) rfl).setB (p:=⟨g5,1,none⟩) (.bool b4) rfl
    have KX:=lH kx
    have RDH:=lH RD
    clear kx RD RO B5
    go_upto_region 8 with fail
    clear q0 q1 f0 f1 p0 p1 z0 z1
    obtain ⟨w4,hwx⟩:∃ w4,w4=(((w4b.setCell ⟨g7,0,none⟩ (.int .i64 v4)).setCell ⟨g5,0,none⟩ (.slice ab4 nb4 cb4)).setCell ⟨g5,1,none⟩ (.bool b4)):=⟨_,rfl⟩
    have B7:Blk w4 g7 [.int .i64 v4,.slice none 0 0] 121:=by rw [hwx];exact B7
    have RD:RdW w4 g5 w.heap.size Rb4 b4 ab4 nb4 cb4:=by rw [hwx];exact RDH.out
    have kx:Exb g5 wo w4:=by rw [hwx];exact KX.out
    have hzw4:w3.heap.size≤w4.heap.size:=by rw [hwx];simp;omega
    rw [← hwx]
    clear hwx KX RDH z4
    have q0:=RD.blk.cell 0 _ rfl
    have q1:=RD.blk.cell 1 _ rfl
    go_wp2_with fail
    (with_reducible refine (pw17 _ _ _ _ _ _ _ _ RD).mono ?_)
    rintro e w5b ⟨v5,Rb5,b5,ab5,nb5,cb5,rfl,RO,k4,HPb5,HQb5⟩
    have HPb5:=lH HPb5
    have HQb5:=lH HQb5
    have z4:=k4.size
    have B5:=RD.blk.nx k4
    replace kx:=kx.nxb (k4.b g5)
    clear q0 q1
    replace B7:=B7.nx k4
    clear RD k4
    have q0:=B5.cell 0 _ rfl
    have q1:=B5.cell 1 _ rfl
    have f0:=B5.free 0
    have f1:=B5.free 1
    have RD:=RO.put B5 rfl b5 hgb
    replace kx:=(kx.setB (p:=⟨g5,0,none⟩) (.slice ab5 nb5 cb5) rfl).setB (p:=⟨g5,1,none⟩) (.bool b5) rfl
    replace B7:=(B7.set_ne (j:=0) (.slice ab5 nb5 cb5) h75).set_ne (j:=1) (.bool b5) h75
    have KX:=lH kx
    have RDH:=lH RD
    clear kx RD RO B5
    go_upto_region 9 with fail
    clear q0 q1 f0 f1
    obtain ⟨w5,hwx⟩:∃ w5,w5=((w5b.setCell ⟨g5,0,none⟩ (.slice ab5 nb5 cb5)).setCell ⟨g5,1,none⟩ (.bool b5)):=⟨_,rfl⟩
    have B7:Blk w5 g7 [.int .i64 v4,.slice none 0 0] 121:=by rw [hwx];exact B7
    have RD:RdW w5 g5 w.heap.size Rb5 b5 ab5 nb5 cb5:=by rw [hwx];exact RDH.out
    have kx:Exb g5 wo w5:=by rw [hwx];exact KX.out
    have hzw5:w4.heap.size≤w5.heap.size:=by rw [hwx];simp;omega
    rw [← hwx]
    clear hwx KX RDH z4
    have hz5:w3.heap.size≤w5.heap.size:=by omega
    go_wp2_with fail
    go_loopw [8] (fun nv wr=>DyRel B m out v4 g5 w.heap.size g7 w3.heap.size wo nv wr) (fun nv _=>(intOf nv).toNat)
    case atStart =>
     refine ⟨v5,[],_,b5,_,_,_,_,rfl,B7,OwnL.nil _ _ _ _ _,RD,kx,hz5,by simp,fun ho=>?_,fun ho=>?_⟩
     ·subst ho
      have e2:=HPb5.out rfl
      cases b4 with
      | false=>cases e2
      | true =>
       have:=contK_ok (m:=m) (out:=out) (HPb4.out rfl) e2
       rw [HD.out]
       exact ⟨this.1,by have:=this.2;simp;omega⟩
     ·rw [HD.out]
      exact contK_no (b1:=!b4) (fun h=>HPb4.out (by simpa using h)) (fun h=>HQb4.out (by simpa using h)) (HQb5.out ho)
    case round =>
     clear RD B7 HPb4 HQb4 HPb5 HQb5 kx hz5 hzw4 hzw5
     obtain ⟨N,row,R,ok,a,n,c,vv,rfl,B7,orow,RD,kv,hzr,hrl,HT2,HF2⟩:=hrel
     obtain ⟨wi,rfl⟩:∃ wi:World,wi=wr:=⟨_,rfl⟩
     have HT2:=lH HT2
     have HF2:=lH HF2
     by_cases hgo:ok=true∧0<N
     ·obtain ⟨rfl,hNp2⟩:=hgo
      obtain ⟨j,rfl⟩:∃ j,N=j+1:=⟨N-1,by omega⟩
      obtain ⟨hD2,hjr⟩:=HT2.out rfl
      have HD2:=lH hD2
      have LTV:=lH (fun x hx=>(orow.lt x hx).2)
      have hNp3:(0:Int)<((j+1:Nat):Int):=by omega
      have hzi:=kv.size
      clear hD2 HT2 HF2
      have B9:=Blk.new wi [.int .i64 0,.int .i64 0] 128
      have k7:=Ex.new wi (.cells #[.int .i64 0,.int .i64 0] 128)
      obtain ⟨w7,hw7⟩:∃ w7,w7=wi.alloc (.cells #[.int .i64 0,.int .i64 0] 128):=⟨_,rfl⟩
      obtain ⟨g9,hg9⟩:∃ g9,g9=wi.heap.size:=⟨_,rfl⟩
      have B9:Blk w7 g9 [.int .i64 0,.int .i64 0] 128:=by rw [hw7,hg9];exact B9
      rw [← hw7] at k7
      have hz7:=k7.size
      have h95:g9≠g5:=by omega
      have h59:g5≠g9:=fun h=>h95 h.symm
      have g95:¬ g9=g5:=h95
      have g59:¬ g5=g9:=h59
      have h9o:wo.heap.size≤g9:=by omega
      have h9b:w.heap.size≤g9:=by omega
      have h93:w3.heap.size≤g9:=by omega
      have h97:g9≠g7:=by omega
      have h79:g7≠g9:=fun h=>h97 h.symm
      have g97:¬ g9=g7:=h97
      have g79:¬ g7=g9:=h79
      have y0:=RD.blk.cell 0 _ rfl
      have y1:=RD.blk.cell 1 _ rfl
      have RD0:=lH RD
      replace B7:=B7.nx k7
      replace orow:=orow.nx k7
      have kx:=kv.nxb (k7.b g5)
      have R9:∀ x,vv.ownBlock=some x→x≠g9:=fun x hx=>by have:=LTV.out x hx;omega
      have HW7:=lH hw7
      have HG9:=lH hg9
      have HR:=lH R9
      have HB7:=lH B7
      clear hw7 hg9 kv R9 RD B7 LTV
      go_upto_region 12 with fail
      rw [← HG9.out,← HW7.out]
      have RD:=RD0.out.nx k7
      have B7:=HB7.out
      clear y0 y1 RD0 HB7 k7
      have q0:=RD.blk.cell 0 _ rfl
      have q1:=RD.blk.cell 1 _ rfl
      go_wp2_with fail
      (with_reducible refine (pwi _ _ _ _ _ _ _ _ RD).mono ?_)
      rintro e w8b ⟨v6,Rb6,b6,ab6,nb6,cb6,rfl,RO,k4,HPb6,HQb6⟩
      have HPb6:=lH HPb6
      have HQb6:=lH HQb6
      have z4:=k4.size
      have B5:=RD.blk.nx k4
      replace kx:=kx.nxb (k4.b g5)
      clear q0 q1
      replace B9:=B9.nx k4
      replace B7:=B7.nx k4
      replace orow:=orow.nx k4
      clear RD k4
      have q0:=B5.cell 0 _ rfl
      have q1:=B5.cell 1 _ rfl
      have f0:=B5.free 0
      have f1:=B5.free 1
      have p0:=B9.cell 0 _ rfl
      have p1:=B9.cell 1 _ rfl
      have z0:=B9.free 0
      have z1:=B9.free 1
      replace B5:=B5.set_ne (j:=0) (.int .i64 v6) h59
      replace RO:=RO.set (p:=⟨g9,0,none⟩) (.int .i64 v6) h9b
      replace B9:=B9.set 0 (.int .i64 v6)
      replace kx:=kx.setNew (p:=⟨g9,0,none⟩) (.int .i64 v6) h9o
      replace B9:=(B9.set_ne (j:=0) (.slice ab6 nb6 cb6) h95).set_ne (j:=1) (.bool b6) h95
      have RD:=RO.put B5 rfl b6 hgb
      replace kx:=(kx.setB (p:=⟨g5,0,none⟩) (.slice ab6 nb6 cb6) rfl).setB (p:=⟨g5,1,none⟩) (.bool b6) rfl
      replace B7:=((B7.set_ne (j:=0) (.int .i64 v6) h79).set_ne (j:=0) (.slice ab6 nb6 cb6) h75).set_ne (j:=1) (.bool b6) h75
      replace orow:=orow.chg ((Chg.refl (·≠g9) _).setCell (p:=⟨g9,0,none⟩) (.int .i64 v6) (fun x hx=>hx)) (fun x _ hv=>HR.out x hv)
      replace orow:=orow.chg ((Chg.refl (·≠g5) _).setCell (p:=⟨g5,0,none⟩) (.slice ab6 nb6 cb6) (fun x hx=>hx)) (fun x _ hv=>(by have:=(orow.lt x hv).1;omega))
      replace orow:=orow.chg ((Chg.refl (·≠g5) _).setCell (p:=⟨g5,1,none⟩) (.bool b6) (fun x hx=>hx)) (fun x _ hv=>(by have:=(orow.lt x hv).1;omega))
      have KX:=lH kx
      have RDH:=lH RD
      clear kx RD RO B5
      go_upto_region 13 with fail
      clear q0 q1 f0 f1 p0 p1 z0 z1
      obtain ⟨w8,hwx⟩:∃ w8,w8=(((w8b.setCell ⟨g9,0,none⟩ (.int .i64 v6)).setCell ⟨g5,0,none⟩ (.slice ab6 nb6 cb6)).setCell ⟨g5,1,none⟩ (.bool b6)):=⟨_,rfl⟩
      have B9:Blk w8 g9 [.int .i64 v6,.int .i64 0] 128:=by rw [hwx];exact B9
      have B7:Blk w8 g7 [.int .i64 v4,vv] 121:=by rw [hwx];exact B7
      have RD:RdW w8 g5 w.heap.size Rb6 b6 ab6 nb6 cb6:=by rw [hwx];exact RDH.out
      have kx:Exb g5 wo w8:=by rw [hwx];exact KX.out
      have hzw8:w7.heap.size≤w8.heap.size:=by rw [hwx];simp;omega
      have orow:OwnL 2 encS 128 w3.heap.size w8 vv row:=by rw [hwx];exact orow
      rw [← hwx]
      clear hwx KX RDH z4
      have q0:=RD.blk.cell 0 _ rfl
      have q1:=RD.blk.cell 1 _ rfl
      go_wp2_with fail
      (with_reducible refine (pwi _ _ _ _ _ _ _ _ RD).mono ?_)
      rintro e w9b ⟨v8,Rb8,b8,ab8,nb8,cb8,rfl,RO,k4,HPb8,HQb8⟩
      have HPb8:=lH HPb8
      have HQb8:=lH HQb8
      have z4:=k4.size
      have B5:=RD.blk.nx k4
      replace kx:=kx.nxb (k4.b g5)
      clear q0 q1
      replace B9:=B9.nx k4
      replace B7:=B7.nx k4
      replace orow:=orow.nx k4
      clear RD k4
      have q0:=B5.cell 0 _ rfl
      have q1:=B5.cell 1 _ rfl
      have f0:=B5.free 0
      have f1:=B5.free 1
      have p0:=B9.cell 0 _ rfl
      have p1:=B9.cell 1 _ rfl
      have z0:=B9.free 0
      have z1:=B9.free 1
      replace B5:=B5.set_ne (j:=1) (.int .i64 v8) h59
      replace RO:=RO.set (p:=⟨g9,1,none⟩) (.int .i64 v8) h9b
      replace B9:=B9.set 1 (.int .i64 v8)
      replace kx:=kx.setNew (p:=⟨g9,1,none⟩) (.int .i64 v8) h9o
      replace B9:=(B9.set_ne (j:=0) (.slice ab8 nb8 cb8) h95).set_ne (j:=1) (.bool b8) h95
      have RD:=RO.put B5 rfl b8 hgb
      replace kx:=(kx.setB (p:=⟨g5,0,none⟩) (.slice ab8 nb8 cb8) rfl).setB (p:=⟨g5,1,none⟩) (.bool b8) rfl
      replace B7:=((B7.set_ne (j:=1) (.int .i64 v8) h79).set_ne (j:=0) (.slice ab8 nb8 cb8) h75).set_ne (j:=1) (.bool b8) h75
      replace orow:=orow.chg ((Chg.refl (·≠g9) _).setCell (p:=⟨g9,1,none⟩) (.int .i64 v8) (fun x hx=>hx)) (fun x _ hv=>HR.out x hv)
      replace orow:=orow.chg ((Chg.refl (·≠g5) _).setCell (p:=⟨g5,0,none⟩) (.slice ab8 nb8 cb8) (fun x hx=>hx)) (fun x _ hv=>(by have:=(orow.lt x hv).1;omega))
      replace orow:=orow.chg ((Chg.refl (·≠g5) _).setCell (p:=⟨g5,1,none⟩) (.bool b8) (fun x hx=>hx)) (fun x _ hv=>(by have:=(orow.lt x hv).1;omega))
      have KX:=lH kx
      have RDH:=lH RD
      clear kx RD RO B5
      go_upto_region 14 with fail
      clear q0 q1 f0 f1 p0 p1 z0 z1
      obtain ⟨w9,hwx⟩:∃ w9,w9=(((w9b.setCell ⟨g9,1,none⟩ (.int .i64 v8)).setCell ⟨g5,0,none⟩ (.slice ab8 nb8 cb8)).setCell ⟨g5,1,none⟩ (.bool b8)):=⟨_,rfl⟩
      have B9:Blk w9 g9 [.int .i64 v6,.int .i64 v8] 128:=by rw [hwx];exact B9
      have B7:Blk w9 g7 [.int .i64 v4,vv] 121:=by rw [hwx];exact B7
      have RD:RdW w9 g5 w.heap.size Rb8 b8 ab8 nb8 cb8:=by rw [hwx];exact RDH.out
      have kx:Exb g5 wo w9:=by rw [hwx];exact KX.out
      have hzw9:w8.heap.size≤w9.heap.size:=by rw [hwx];simp;omega
      have orow:OwnL 2 encS 128 w3.heap.size w9 vv row:=by rw [hwx];exact orow
      rw [← hwx]
      clear hwx KX RDH z4
      have q0:=B9.cell 0 _ rfl
      have q1:=B9.cell 1 _ rfl
      have p0:=B7.cell 0 _ rfl
      have p1:=B7.cell 1 _ rfl
      have zb:w3.heap.size≤w9.heap.size:=by omega
      go_wp2_with (at_builtin;(refine wpList_append_lit (enc:=encS) w9 rfl _ _ 119 rfl w3.heap.size 128 (.agg #[.int .i64 0,.int .i64 0]) 2 16 Tryz.underlying119 Tryz.infoLk rfl (by omega) (by omega) _ _ orow rfl ((v6,v8):Int×Int) _ rfl rfl (by simp [encS,Value.oneCell']) _ (by simp) rfl (by omega) zb _ ?_);intro v10 w10 own10 _ ch1 _;obtain ⟨a10,c10,rfl,_,_,_,_⟩:=own10.rd (fun _=>rfl);have B10:Blk w10 g7 _ _:=(ch1.block g7 h7l).trans B7;have z10:=B10.free 1;have p10:=B10.cell 1 _ rfl)
      have hll:(row++[(v6,v8)]).length=row.length+1:=by simp
      have hz10:=ch1.size
      have own11:OwnL 2 encS 128 w3.heap.size (w10.setCell ⟨g7,1,none⟩ (.slice a10 (row++[(v6,v8)]).length c10)) (.slice a10 (row++[(v6,v8)]).length c10) (row++[(v6,v8)]) :=
       own10.chg ((Chg.refl (·≠g7) w10).setCell _ (fun x hx=>hx)) (fun x _ hv=>by have:=(own10.lt x hv).1;omega)
      have kv11:Exb g5 wo (w10.setCell ⟨g7,1,none⟩ (.slice a10 (row++[(v6,v8)]).length c10)):=(show Exb g5 wo w10 from Chg.trans kx (ch1.mono (fun x hx=>by have:=hx.1;show x<w3.heap.size;omega))).setNew _ h7o
      have RD11:=(RD.chg (ch1.mono (fun x hx=>hx)) h5l3 hz10).set (p:=⟨g7,1,none⟩) (.slice a10 (row++[(v6,v8)]).length c10) h7b h57
      have B11:=B10.set 1 (.slice a10 (row++[(v6,v8)]).length c10)
      rw [hll] at own11 kv11 B11 RD11
      refine ⟨⟨j,row++[(v6,v8)],_,b8,_,_,_,_,by go_num,B11,own11,RD11,kv11,by simp;omega,by rw [hll];omega,fun ho=>?_,fun ho=>?_⟩,by simp [intOf];try omega⟩
      ·subst ho
       have e2:=HPb8.out rfl
       cases b6 with
       | false=>cases e2
       | true =>
        rw [HD2.out,contVK_ok (HPb6.out rfl) e2,hll]
        exact ⟨rfl,by omega⟩
      ·rw [HD2.out]
       exact contVK_no (b1:=!b6) (fun h=>HPb6.out (by simpa using h)) (fun h=>HQb6.out (by simpa using h)) (HQb8.out ho)
     ·have q0:=B7.cell 0 _ rfl
      have q1:=B7.cell 1 _ rfl
      have y1:=RD.blk.cell 1 _ rfl
      obtain ⟨a6,c6,rfl,_,_,_,_⟩:=orow.rd (fun _=>rfl)
      have hzi:=kv.size
      have OQ1:=OQ.out.nxb h5b kv
      have hkq:qs.length=out.length:=OQ1.2.1
      have FR:∀ (j:Nat) (r:Int×Hdr) (g:Nat),qs[j]?=some r→r.2.val.ownBlock=some g→¬ (Value.slice a6 row.length c6).ownBlock=some g:=by
       intro j r g hr hg hv
       have h1:=OQ.out.lt hr hg
       have h2:=(orow.lt g hv).1
       omega
      have HEX:Hid ((ok=true→decL B=contK m (out++[(v4,row)]) R∧m+(out++[(v4,row)]).length≤64)∧(ok=false→decL B=none)):=lH ⟨fun ho=>by
       subst ho
       obtain rfl:N=0:=by
        rcases Nat.eq_zero_or_pos N with h | h
        ·exact h
        ·exact absurd ⟨rfl,h⟩ hgo
       exact ⟨(HT2.out rfl).1,by have:=HOL.out;simp;omega⟩,HF2.out⟩
      have hgo':(¬ (0:Int)<(N:Int))∨((0:Int)<(N:Int)∧ok=false):=by
       rcases Nat.eq_zero_or_pos N with h | h
       ·exact .inl (by omega)
       ·exact .inr ⟨by omega,by cases ok with | false=>rfl | true=>exact absurd ⟨rfl,h⟩ hgo⟩
      have k8:=Ex.new wi (.cells #[.int .i64 v4,.slice a6 row.length c6] 121)
      have SX:Sl 2 (encP encI) (wi.alloc (.cells #[.int .i64 v4,.slice a6 row.length c6] 121)) (some ⟨wi.heap.size,0,none⟩) 1 [((v4,(a6,row.length,c6)):Int×Hdr)]:=Sl.lit _ rfl rfl (fun _=>rfl) rfl
      have OQ2:=OQ1.nx k8
      have own2:=orow.nx k8
      have RD8:=RD.nx k8
      have KV8:=lH (kv.nxb (k8.b g5))
      have HGO:=hgo'
      clear hgo hgo' HT2 HF2
      rcases HGO with hx | ⟨hx,rfl⟩
      ·go_wp2_with (at_builtin;(refine wpList_append_W (enc:=encP encI) _ rfl _ _ 28 rfl w2.heap.size 121 (.agg #[.int .i64 0,.slice none 0 0]) 2 32 Tryz.underlying28 Tryz.infoLd rfl (by omega) (by omega) _ _ OQ2.1 rfl _ 1 1 [_] SX (fun _=>rfl) (by simp [encP,encI,Hdr.val,Value.oneCell']) rfl (by omega) (by omega) (by simp;omega) ?_);intro v7 w7 own7 ch0 ch1 _)
       have OQ7:=OQ2.push (by decide) own7 ch0 (own2.base (by omega)) FR
       have kw7:Exb g5 w2 w7:=Chg.trans (KW.out.nxb KV8.out) (ch1.mono (fun x hx=>hx.1))
       have RD9:=RD8.chg (ch1.mono (fun x hx=>hx)) h5b ch0.size
       exact ⟨⟨m,out++[(v4,row)],_,R,_,a,n,c,by go_num,OQ7,RD9,kw7,HEX.out.1,HEX.out.2⟩,by simp [intOf];try omega⟩
      ·go_wp2_with (at_builtin;(refine wpList_append_W (enc:=encP encI) _ rfl _ _ 28 rfl w2.heap.size 121 (.agg #[.int .i64 0,.slice none 0 0]) 2 32 Tryz.underlying28 Tryz.infoLd rfl (by omega) (by omega) _ _ OQ2.1 rfl _ 1 1 [_] SX (fun _=>rfl) (by simp [encP,encI,Hdr.val,Value.oneCell']) rfl (by omega) (by omega) (by simp;omega) ?_);intro v7 w7 own7 ch0 ch1 _)
       have OQ7:=OQ2.push (by decide) own7 ch0 (own2.base (by omega)) FR
       have kw7:Exb g5 w2 w7:=Chg.trans (KW.out.nxb KV8.out) (ch1.mono (fun x hx=>hx.1))
       have RD9:=RD8.chg (ch1.mono (fun x hx=>hx)) h5b ch0.size
       exact ⟨⟨m,out++[(v4,row)],_,R,_,a,n,c,by go_num,OQ7,RD9,kw7,HEX.out.1,HEX.out.2⟩,by simp [intOf];try omega⟩
def BytesAt (w:World) (v:Value) (m:Nat):Prop:=∃ (a:Option Addr) (n c:Nat) (B:List UInt8),v=.slice a n c∧Sl 1 encB w a n B∧n≤m∧n≤c∧c≤maxLen∧Form a c
theorem BytesAt.nx {w w':World} {v:Value} {m:Nat} (h:BytesAt w v m) (k:Ex w w'):BytesAt w' v m:=by
 obtain ⟨a,n,c,B,e,s,r⟩:=h
 exact ⟨a,n,c,B,e,s.nx k,r⟩
def BytesAb (b:Nat) (w:World) (v:Value) (m:Nat):Prop:=∃ (a:Option Addr) (n c:Nat) (B:List UInt8),v=.slice a n c∧Slb 1 encB b w a n B∧n≤m∧n≤c∧c≤maxLen∧Form a c
theorem BytesAb.nxb {b:Nat} {w w':World} {v:Value} {m:Nat} (h:BytesAb b w v m) (k:Exb b w w'):BytesAb b w' v m:=by
 obtain ⟨a,n,c,B,e,s,r⟩:=h
 exact ⟨a,n,c,B,e,s.nxb k,r⟩
theorem BytesAb.at {b:Nat} {w:World} {v:Value} {m:Nat} (h:BytesAb b w v m):BytesAt w v m:=by
 obtain ⟨a,n,c,B,e,s,r⟩:=h
 exact ⟨a,n,c,B,e,s.sl,r⟩
theorem own_form {e:TypeId} {base:Nat} {w:World} {a:Option Addr} {n c:Nat} {l:List UInt8} (h:OwnL 1 encB e base w (.slice a n c) l):Form a c:=by
 rcases h.2 with ⟨h1,_⟩ | ⟨g',cap,cur,e1,_⟩
 ·cases h1;exact .inl ⟨rfl,rfl⟩
 ·cases e1;exact .inr ⟨_,_,rfl⟩
end Go.Proofs.YthcholmhmcpooaaGreatDoor
