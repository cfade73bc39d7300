/- Texts for TopWireProof. -/
import Derived.Test.YthcholmhmcpooaaGreatDoorTopWireProofL1
set_option linter.unusedSimpArgs false
set_option linter.unusedVariables false

namespace Go.Proofs.YthcholmhmcpooaaGreatDoor
open Go.RowKit
def Form (a:Option Addr) (c:Nat):Prop:=(a=none∧c=0)∨∃ x o,a=some ⟨x,o,none⟩
def RdPost (v:Value) (R:List UInt8) (ok:Bool) (a:Option Addr) (w:World) (e:Ending) (w':World):Prop :=
 ∃ (a':Option Addr) (n' c':Nat),e=.returned (.tuple #[v,.agg #[.slice a' n' c',.bool ok]])∧Sl 1 encB w' a' n' R∧n'≤c'∧c'≤maxLen∧Form a' c'∧(∀ x o,a'=some ⟨x,o,none⟩→∃ o',a=some ⟨x,o',none⟩)∧Ex w w'
theorem decR_take (R:List UInt8):(decR R).2.1≤R.length:=by
 unfold decR numR
 cases h:decU R with
 | none=>simp
 | some r=>obtain ⟨n,k⟩:=r;exact (decU_take h).2
theorem decR_lt (R:List UInt8):(decR R).1<18446744073709551616:=by
 unfold decR numR
 cases h:decU R with
 | none=>simp
 | some r=>obtain ⟨n,k⟩:=r;exact (decU_lt h).1
theorem intR_take (R:List UInt8):(intR R).2.1≤R.length:=by
 unfold intR
 cases h:decU R with
 | none=>simp
 | some r=>obtain ⟨n,k⟩:=r;exact (decU_take h).2
def strN (R:List UInt8) (lim:Nat):ByteArray×Nat×Nat:=((strR R lim).1,(strR R lim).2.1.toNat,(strR R lim).2.2.toNat)
theorem strN_take (R:List UInt8) (lim:Nat):(strN R lim).2.1≤R.length:=by
 unfold strN strR
 cases h:decU R with
 | none=>simp
 | some r =>
  obtain ⟨n,k⟩:=r
  have:=(decU_take h).2
  simp only
  split
  ·simp
  ·split
   ·simp
   ·simp;omega
theorem strR_nat (R:List UInt8) (lim:Nat):(strR R lim).2.1=((strN R lim).2.1:Int)∧(strR R lim).2.2=((strN R lim).2.2:Int):=by
 unfold strN strR
 cases h:decU R with
 | none=>simp
 | some r =>
  obtain ⟨n,k⟩:=r
  simp only
  split
  ·simp
  ·split
   ·simp
   ·simp;omega
theorem str_pN (a:Option Addr) (n cap:Nat) (b:List UInt8) (lim:Nat) (w:World) (h:Sl 1 encB w a n b) (hn:n≤9223372036854775807) (hcap:n≤cap) (hcap2:cap≤maxLen) (hl1:lim≤1000) :
  Calls Tryz.prog 172 #[.slice a n cap,.int .i64 lim] w fun e w'=>e=.returned (.tuple #[.string (strN b lim).1,.int .i64 (strN b lim).2.1,.int .i64 (strN b lim).2.2])∧w=w':=by
 have:=string_p a n cap b lim w h hn hcap hcap2 (by omega)
 rw [(strR_nat b lim).1,(strR_nat b lim).2] at this
 exact this
theorem sl_from {w:World} {x o n k:Nat} {R:List UInt8} (h:Sl 1 encB w (some ⟨x,o,none⟩) n R) (hk:k≤n):Sl 1 encB w (some ⟨x,o+k,none⟩) (n-k) (R.drop k):=by
 have:=Sl.drop h hk
 rwa [Nat.mul_one] at this
theorem sl_end {w:World} {a a':Option Addr} {n k:Nat} {R:List UInt8} (h:Sl 1 encB w a n R) (hk:n≤k):Sl 1 encB w a' 0 (R.drop k):=by
 rw [List.drop_of_length_le (by have:=h.len;omega)];exact Sl.nil _ _ _ _
theorem rd_done {v:Value} {R:List UInt8} {ok:Bool} {w w':World} {a a0:Option Addr} {n c:Nat} (h:Sl 1 encB w' a n R) (h1:n≤c) (h2:c≤maxLen) (hf:Form a c) (hx:∀ x o,a=some ⟨x,o,none⟩→∃ o',a0=some ⟨x,o',none⟩) (k:Ex w w') :
  RdPost v R ok a0 w (.returned (.tuple #[v,.agg #[.slice a n c,.bool ok]])) w':=⟨a,n,c,rfl,h,h1,h2,hf,hx,k⟩
set_option maxRecDepth 100000 in
set_option maxHeartbeats 4000000 in
theorem ruint_p (a:Option Addr) (n c:Nat) (R:List UInt8) (ok:Bool) (lim:Nat) (w:World) (h:Sl 1 encB w a n R) (hn:n≤9223372036854775807) (hc:n≤c) (hm:c≤maxLen) (hf:Form a c) (hlim:lim<18446744073709551616) :
  Calls Tryz.prog 97 #[.agg #[.slice a n c,.bool ok],.int .u64 lim] w (RdPost (.int .u64 (decR R).1) (R.drop (decR R).2.1) (ok&&((decR R).2.2==0)&&decide ((decR R).1≤lim)) a w):=by
 have hlen:=h.len
 have hk:(decR R).2.1≤R.length:=decR_take R
 rw [hlen] at hk
 have k1:=Ex.new w (.cells #[.slice a n c,.bool ok] 174)
 have B1:=Blk.new w [.slice a n c,.bool ok] 174
 obtain ⟨w1,hw1⟩:∃ w1,w1=w.alloc (.cells #[.slice a n c,.bool ok] 174):=⟨_,rfl⟩
 obtain ⟨g1,hg1⟩:∃ g1,g1=w.heap.size:=⟨_,rfl⟩
 have B1:Blk w1 g1 [.slice a n c,.bool ok] 174:=by rw [hw1,hg1];exact B1
 rw [← hw1] at k1
 have k2:=Ex.new w1 (.cells #[.slice none 0 0,.bool false] 174)
 have B2:=Blk.new w1 [.slice none 0 0,.bool false] 174
 obtain ⟨w2,hw2⟩:∃ w2,w2=w1.alloc (.cells #[.slice none 0 0,.bool false] 174):=⟨_,rfl⟩
 have hz1:w1.heap.size=w.heap.size+1:=by rw [hw1];simp
 obtain ⟨g2,hg2⟩:∃ g2,g2=w.heap.size+1:=⟨_,rfl⟩
 have B2:Blk w2 g2 [.slice none 0 0,.bool false] 174:=by rw [hw2,hg2,← hz1];exact B2
 rw [← hw2] at k2
 have hgg:g1≠g2:=by omega
 have hgw:w.heap.size≤g2:=by omega
 replace B1:=B1.nx k2
 have kk:=k1.nx k2
 have H2:=h.nx kk
 have HW1:=lH hw1
 have HG1:=lH hg1
 have HW2:=lH hw2
 have HG2:=lH hg2
 have HF:=lH hf
 have HS:=lH h
 clear hw1 hg1 hw2 hg2 k1 k2 h hf hlen hz1
 have p0:=B1.cell 0 _ rfl
 have p1:=B1.cell 1 _ rfl
 have q0:=B2.cell 0 _ rfl
 have q1:=B2.cell 1 _ rfl
 have z0:=B2.free 0
 have z1:=B2.free 1
 have hgg1:¬ g1=g2:=hgg
 go_enter Tryz.func97,Tryz.ntmps97
 go_upto_region 1 with fail
 rw [← HG2.out,← HG1.out,← HW1.out,← HW2.out]
 go_wp2_with fail
 (with_reducible refine (uint_p _ _ _ _ _ H2 hn).mono ?_)
 rintro e w3 ⟨rfl,rfl⟩
 obtain ⟨⟨N,K,E⟩,hT⟩:∃ T,T=decR R:=⟨_,rfl⟩
 rw [← hT] at hk ⊢
 have HT:=lH hT
 simp only at hk ⊢
 clear hT
 have hkI:(K:Int)≤(n:Int):=by omega
 have K0:(0:Int)≤(K:Int):=by omega
 have hkc:(K:Int)≤(c:Int):=by omega
 rcases HF.out with ⟨rfl,rfl⟩ | ⟨x,o,rfl⟩
 ·obtain rfl:n=0:=by omega
  obtain rfl:K=0:=by omega
  cases ok with
  | false =>
   have HB:Hid ((false&&(E==0)&&decide (N≤lim))=false):=lH (by simp [*])
   go_wp2_with fail
   refine wp_region_held_drew (S:=Chg (·≠g2) w2) (by kernel_rfl) ((Chg.refl _ w2).drew) (fun hHeld=>?_)
   refine tkH 0 (v:=?_) rfl (by kernel_rfl) (fun _ _ _ h=>h) (by rfl) ?y1 hHeld ?_
   case y1=>intro wq hSw;go_simp<;>rfl
   try simp only [Act.put,sA,sB,sC]
   refine tkH 1 (v:=?_) rfl (by kernel_rfl) (fun _ _ _ h=>h) (by rfl) ?y4 hHeld ?_
   case y4=>intro wq hSw;go_simp<;>rfl
   try simp only [Act.put,sA,sB,sC]
   refine tkH 2 (v:=?_) rfl (by kernel_rfl) (fun _ _ _ h=>h) (by rfl) ?y7 hHeld ?_
   case y7=>intro wq hSw;(have cq:=Chg.cellv hSw p0 hgg;go_simp)<;>rfl
   try simp only [Act.put,sA,sB,sC]
   refine tkH 3 (v:=?_) rfl (by kernel_rfl) (fun _ _ _ h=>h) (by rfl) ?y10 hHeld ?_
   case y10=>intro wq hSw;go_simp<;>rfl
   try simp only [Act.put,sA,sB,sC]
   refine tkH 4 (v:=?_) rfl (by kernel_rfl) (fun _ _ _ h=>h) (by rfl) ?y13 hHeld ?_
   case y13=>intro wq hSw;go_simp<;>rfl
   try simp only [Act.put,sA,sB,sC]
   refine tkH 5 (v:=?_) rfl (by kernel_rfl) (fun _ _ _ h=>h) (by rfl) ?y16 hHeld ?_
   case y16=>intro wq hSw;go_simp<;>rfl
   try simp only [Act.put,sA,sB,sC]
   refine tkH 6 (v:=?_) rfl (by kernel_rfl) (fun _ _ _ h=>h) (by rfl) ?y19 hHeld ?_
   case y19=>intro wq hSw;(have cq:=Chg.cellv hSw p1 hgg;go_simp)<;>rfl
   try simp only [Act.put,sA,sB,sC]
   refine tkH 7 (v:=?_) rfl (by kernel_rfl) (fun _ _ _ h=>h) (by rfl) ?y22 hHeld ?_
   case y22=>intro wq hSw;go_simp<;>rfl
   try simp only [Act.put,sA,sB,sC]
   refine wpAnyH_take (i:=8) (oi:=⟨_,_,_,_,_,_⟩) (v:=undef) rfl (by kernel_rfl) (by kernel_rfl) (by kernel_rfl) (fun _ _ _ h=>h) (Or.inr ⟨by rfl,rfl⟩) (by assumption) ?_
   try simp only [Act.put,sA,sB,sC]
   refine wpAnyH_take (i:=9) (oi:=⟨_,_,_,_,_,_⟩) (v:=undef) rfl (by kernel_rfl) (by kernel_rfl) (by kernel_rfl) (fun _ _ _ h=>h) (Or.inr ⟨by rfl,rfl⟩) (by assumption) ?_
   try simp only [Act.put,sA,sB,sC]
   refine tkH 10 (v:=?_) rfl (by kernel_rfl) (fun _ _ _ h=>h) (by rfl) ?y29 hHeld ?_
   case y29=>intro wq hSw;go_simp<;>rfl
   try simp only [Act.put,sA,sB,sC]
   refine tkH 11 (v:=?_) rfl (by kernel_rfl) (fun _ _ _ h=>h) (by rfl) ?y32 hHeld ?_
   case y32=>intro wq hSw;go_simp<;>rfl
   try simp only [Act.put,sA,sB,sC]
   refine wpAnyH_take (i:=12) (oi:=⟨_,_,_,_,_,_⟩) (v:=undef) rfl (by kernel_rfl) (by kernel_rfl) (by kernel_rfl) (fun _ _ _ h=>h) (Or.inr ⟨by rfl,rfl⟩) (by assumption) ?_
   try simp only [Act.put,sA,sB,sC]
   refine wpAnyH_take (i:=13) (oi:=⟨_,_,_,_,_,_⟩) (v:=undef) rfl (by kernel_rfl) (by kernel_rfl) (by kernel_rfl) (fun _ _ _ h=>h) (Or.inr ⟨by rfl,rfl⟩) (by assumption) ?_
   try simp only [Act.put,sA,sB,sC]
   refine wpAnyH_take (i:=14) (oi:=⟨_,_,_,_,_,_⟩) (v:=undef) rfl (by kernel_rfl) (by kernel_rfl) (by kernel_rfl) (fun _ _ _ h=>h) (Or.inr ⟨by rfl,rfl⟩) (by assumption) ?_
   try simp only [Act.put,sA,sB,sC]
   refine tkH 15 (v:=?_) rfl (by kernel_rfl) (fun _ _ _ h=>h) (by rfl) ?y41 hHeld ?_
   case y41=>intro wq hSw;go_simp<;>rfl
   try simp only [Act.put,sA,sB,sC]
   refine tkH 16 (v:=?_) rfl (by kernel_rfl) (fun _ _ _ h=>h) (by rfl) ?y44 hHeld ?_
   case y44=>intro wq hSw;go_simp<;>rfl
   try simp only [Act.put,sA,sB,sC]
   refine tkH 17 (v:=?_) rfl (by kernel_rfl) (fun _ _ _ h=>h) (by rfl) ?y47 hHeld ?_
   case y47=>intro wq hSw;go_simp<;>rfl
   try simp only [Act.put,sA,sB,sC]
   refine rH 18 (by kernel_rfl) rfl fun K hK=>?_
   go_simp
   refine hK.out _ _ ((Chg.setCell (Chg.setCell hHeld _ (fun x hx=>hx)) _ (fun x hx=>hx))) (fun hHeld=>?_)
   clear hK K
   try simp only [Act.put,sA,sB,sC]
   refine wpAnyH_done (by kernel_rfl) ?_ _
   go_wp2_with fail
   refine bodyPost_ret (v:=.tuple #[.int .u64 N,.agg #[.slice none (0) (0),.bool false]]) (by simp [results,Tryz.results97,go_sem, *]) rfl ?_
   rw [← HT.out]
   simp only []
   rw [HB.out]
   have k9:=((kk.setNew (p:=⟨g2,0,none⟩) (.slice none (0) (0)) hgw).setNew (p:=⟨g2,1,none⟩) (.bool false) hgw).drew
   exact rd_done (by rw [List.drop_zero];exact HS.out.nx k9) (by omega) (by omega) (.inl ⟨rfl,rfl⟩) (fun x' o' hx'=>by cases hx'<;>exact ⟨_,rfl⟩) k9
  | true =>
   by_cases hE:E=0
   ·subst hE
    by_cases hl:N≤lim
    ·have hlI:(N:Int)≤(lim:Int):=by omega
     have HB:Hid ((true&&((0:Nat)==0)&&decide (N≤lim))=true):=lH (by simp [*])
     go_wp2_with fail
     refine wp_region_held_drew (S:=Chg (·≠g2) w2) (by kernel_rfl) ((Chg.refl _ w2).drew) (fun hHeld=>?_)
     refine tkH 0 (v:=?_) rfl (by kernel_rfl) (fun _ _ _ h=>h) (by rfl) ?y1 hHeld ?_
     case y1=>intro wq hSw;go_simp<;>rfl
     try simp only [Act.put,sA,sB,sC]
     refine tkH 1 (v:=?_) rfl (by kernel_rfl) (fun _ _ _ h=>h) (by rfl) ?y4 hHeld ?_
     case y4=>intro wq hSw;go_simp<;>rfl
     try simp only [Act.put,sA,sB,sC]
     refine tkH 2 (v:=?_) rfl (by kernel_rfl) (fun _ _ _ h=>h) (by rfl) ?y7 hHeld ?_
     case y7=>intro wq hSw;(have cq:=Chg.cellv hSw p0 hgg;go_simp)<;>rfl
     try simp only [Act.put,sA,sB,sC]
     refine tkH 3 (v:=?_) rfl (by kernel_rfl) (fun _ _ _ h=>h) (by rfl) ?y10 hHeld ?_
     case y10=>intro wq hSw;go_simp<;>rfl
     try simp only [Act.put,sA,sB,sC]
     refine tkH 4 (v:=?_) rfl (by kernel_rfl) (fun _ _ _ h=>h) (by rfl) ?y13 hHeld ?_
     case y13=>intro wq hSw;go_simp<;>rfl
     try simp only [Act.put,sA,sB,sC]
     refine tkH 5 (v:=?_) rfl (by kernel_rfl) (fun _ _ _ h=>h) (by rfl) ?y16 hHeld ?_
     case y16=>intro wq hSw;go_simp<;>rfl
     try simp only [Act.put,sA,sB,sC]
     refine tkH 6 (v:=?_) rfl (by kernel_rfl) (fun _ _ _ h=>h) (by rfl) ?y19 hHeld ?_
     case y19=>intro wq hSw;(have cq:=Chg.cellv hSw p1 hgg;go_simp)<;>rfl
     try simp only [Act.put,sA,sB,sC]
     refine tkH 7 (v:=?_) rfl (by kernel_rfl) (fun _ _ _ h=>h) (by rfl) ?y22 hHeld ?_
     case y22=>intro wq hSw;go_simp<;>rfl
     try simp only [Act.put,sA,sB,sC]
     refine tkH 8 (v:=?_) rfl (by kernel_rfl) (fun _ _ _ h=>h) (by rfl) ?y25 hHeld ?_
     case y25=>intro wq hSw;go_simp<;>rfl
     try simp only [Act.put,sA,sB,sC]
     refine tkH 9 (v:=?_) rfl (by kernel_rfl) (fun _ _ _ h=>h) (by rfl) ?y28 hHeld ?_
     case y28=>intro wq hSw;go_simp<;>rfl
     try simp only [Act.put,sA,sB,sC]
     refine tkH 10 (v:=?_) rfl (by kernel_rfl) (fun _ _ _ h=>h) (by rfl) ?y31 hHeld ?_
     case y31=>intro wq hSw;go_simp<;>rfl
     try simp only [Act.put,sA,sB,sC]
     refine tkH 11 (v:=?_) rfl (by kernel_rfl) (fun _ _ _ h=>h) (by rfl) ?y34 hHeld ?_
     case y34=>intro wq hSw;go_simp<;>rfl
     try simp only [Act.put,sA,sB,sC]
     refine tkH 12 (v:=?_) rfl (by kernel_rfl) (fun _ _ _ h=>h) (by rfl) ?y37 hHeld ?_
     case y37=>intro wq hSw;go_simp<;>rfl
     try simp only [Act.put,sA,sB,sC]
     refine tkH 13 (v:=?_) rfl (by kernel_rfl) (fun _ _ _ h=>h) (by rfl) ?y40 hHeld ?_
     case y40=>intro wq hSw;go_simp<;>rfl
     try simp only [Act.put,sA,sB,sC]
     refine tkH 14 (v:=?_) rfl (by kernel_rfl) (fun _ _ _ h=>h) (by rfl) ?y43 hHeld ?_
     case y43=>intro wq hSw;go_simp<;>rfl
     try simp only [Act.put,sA,sB,sC]
     refine tkH 15 (v:=?_) rfl (by kernel_rfl) (fun _ _ _ h=>h) (by rfl) ?y46 hHeld ?_
     case y46=>intro wq hSw;go_simp<;>rfl
     try simp only [Act.put,sA,sB,sC]
     refine tkH 16 (v:=?_) rfl (by kernel_rfl) (fun _ _ _ h=>h) (by rfl) ?y49 hHeld ?_
     case y49=>intro wq hSw;go_simp<;>rfl
     try simp only [Act.put,sA,sB,sC]
     refine tkH 17 (v:=?_) rfl (by kernel_rfl) (fun _ _ _ h=>h) (by rfl) ?y52 hHeld ?_
     case y52=>intro wq hSw;go_simp<;>rfl
     try simp only [Act.put,sA,sB,sC]
     refine rH 18 (by kernel_rfl) rfl fun K hK=>?_
     go_simp
     refine hK.out _ _ ((Chg.setCell (Chg.setCell hHeld _ (fun x hx=>hx)) _ (fun x hx=>hx))) (fun hHeld=>?_)
     clear hK K
     try simp only [Act.put,sA,sB,sC]
     refine wpAnyH_done (by kernel_rfl) ?_ _
     go_wp2_with fail
     refine bodyPost_ret (v:=.tuple #[.int .u64 N,.agg #[.slice none (0) (0),.bool true]]) (by simp [results,Tryz.results97,go_sem, *]) rfl ?_
     rw [← HT.out]
     simp only []
     rw [HB.out]
     have k9:=((kk.setNew (p:=⟨g2,0,none⟩) (.slice none (0) (0)) hgw).setNew (p:=⟨g2,1,none⟩) (.bool true) hgw).drew
     exact rd_done (by rw [List.drop_zero];exact HS.out.nx k9) (by omega) (by omega) (.inl ⟨rfl,rfl⟩) (fun x' o' hx'=>by cases hx'<;>exact ⟨_,rfl⟩) k9
    ·have hlI:¬ (N:Int)≤(lim:Int):=by omega
     have HB:Hid ((true&&((0:Nat)==0)&&decide (N≤lim))=false):=lH (by simp [*])
     go_wp2_with fail
     refine wp_region_held_drew (S:=Chg (·≠g2) w2) (by kernel_rfl) ((Chg.refl _ w2).drew) (fun hHeld=>?_)
     refine tkH 0 (v:=?_) rfl (by kernel_rfl) (fun _ _ _ h=>h) (by rfl) ?y1 hHeld ?_
     case y1=>intro wq hSw;go_simp<;>rfl
     try simp only [Act.put,sA,sB,sC]
     refine tkH 1 (v:=?_) rfl (by kernel_rfl) (fun _ _ _ h=>h) (by rfl) ?y4 hHeld ?_
     case y4=>intro wq hSw;go_simp<;>rfl
     try simp only [Act.put,sA,sB,sC]
     refine tkH 2 (v:=?_) rfl (by kernel_rfl) (fun _ _ _ h=>h) (by rfl) ?y7 hHeld ?_
     case y7=>intro wq hSw;(have cq:=Chg.cellv hSw p0 hgg;go_simp)<;>rfl
     try simp only [Act.put,sA,sB,sC]
     refine tkH 3 (v:=?_) rfl (by kernel_rfl) (fun _ _ _ h=>h) (by rfl) ?y10 hHeld ?_
     case y10=>intro wq hSw;go_simp<;>rfl
     try simp only [Act.put,sA,sB,sC]
     refine tkH 4 (v:=?_) rfl (by kernel_rfl) (fun _ _ _ h=>h) (by rfl) ?y13 hHeld ?_
     case y13=>intro wq hSw;go_simp<;>rfl
     try simp only [Act.put,sA,sB,sC]
     refine tkH 5 (v:=?_) rfl (by kernel_rfl) (fun _ _ _ h=>h) (by rfl) ?y16 hHeld ?_
     case y16=>intro wq hSw;go_simp<;>rfl
     try simp only [Act.put,sA,sB,sC]
     refine tkH 6 (v:=?_) rfl (by kernel_rfl) (fun _ _ _ h=>h) (by rfl) ?y19 hHeld ?_
     case y19=>intro wq hSw;(have cq:=Chg.cellv hSw p1 hgg;go_simp)<;>rfl
     try simp only [Act.put,sA,sB,sC]
     refine tkH 7 (v:=?_) rfl (by kernel_rfl) (fun _ _ _ h=>h) (by rfl) ?y22 hHeld ?_
     case y22=>intro wq hSw;go_simp<;>rfl
     try simp only [Act.put,sA,sB,sC]
     refine tkH 8 (v:=?_) rfl (by kernel_rfl) (fun _ _ _ h=>h) (by rfl) ?y25 hHeld ?_
     case y25=>intro wq hSw;go_simp<;>rfl
     try simp only [Act.put,sA,sB,sC]
     refine tkH 9 (v:=?_) rfl (by kernel_rfl) (fun _ _ _ h=>h) (by rfl) ?y28 hHeld ?_
     case y28=>intro wq hSw;go_simp<;>rfl
     try simp only [Act.put,sA,sB,sC]
     refine tkH 10 (v:=?_) rfl (by kernel_rfl) (fun _ _ _ h=>h) (by rfl) ?y31 hHeld ?_
     case y31=>intro wq hSw;go_simp<;>rfl
     try simp only [Act.put,sA,sB,sC]
     refine tkH 11 (v:=?_) rfl (by kernel_rfl) (fun _ _ _ h=>h) (by rfl) ?y34 hHeld ?_
     case y34=>intro wq hSw;go_simp<;>rfl
     try simp only [Act.put,sA,sB,sC]
     refine tkH 12 (v:=?_) rfl (by kernel_rfl) (fun _ _ _ h=>h) (by rfl) ?y37 hHeld ?_
     case y37=>intro wq hSw;go_simp<;>rfl
     try simp only [Act.put,sA,sB,sC]
     refine tkH 13 (v:=?_) rfl (by kernel_rfl) (fun _ _ _ h=>h) (by rfl) ?y40 hHeld ?_
     case y40=>intro wq hSw;go_simp<;>rfl
     try simp only [Act.put,sA,sB,sC]
     refine tkH 14 (v:=?_) rfl (by kernel_rfl) (fun _ _ _ h=>h) (by rfl) ?y43 hHeld ?_
     case y43=>intro wq hSw;go_simp<;>rfl
     try simp only [Act.put,sA,sB,sC]
     refine tkH 15 (v:=?_) rfl (by kernel_rfl) (fun _ _ _ h=>h) (by rfl) ?y46 hHeld ?_
     case y46=>intro wq hSw;go_simp<;>rfl
     try simp only [Act.put,sA,sB,sC]
     refine tkH 16 (v:=?_) rfl (by kernel_rfl) (fun _ _ _ h=>h) (by rfl) ?y49 hHeld ?_
     case y49=>intro wq hSw;go_simp<;>rfl
     try simp only [Act.put,sA,sB,sC]
     refine tkH 17 (v:=?_) rfl (by kernel_rfl) (fun _ _ _ h=>h) (by rfl) ?y52 hHeld ?_
     case y52=>intro wq hSw;go_simp<;>rfl
     try simp only [Act.put,sA,sB,sC]
     refine rH 18 (by kernel_rfl) rfl fun K hK=>?_
     go_simp
     refine hK.out _ _ ((Chg.setCell (Chg.setCell hHeld _ (fun x hx=>hx)) _ (fun x hx=>hx))) (fun hHeld=>?_)
     clear hK K
     try simp only [Act.put,sA,sB,sC]
     refine wpAnyH_done (by kernel_rfl) ?_ _
     go_wp2_with fail
     refine bodyPost_ret (v:=.tuple #[.int .u64 N,.agg #[.slice none (0) (0),.bool false]]) (by simp [results,Tryz.results97,go_sem, *]) rfl ?_
     rw [← HT.out]
     simp only []
     rw [HB.out]
     have k9:=((kk.setNew (p:=⟨g2,0,none⟩) (.slice none (0) (0)) hgw).setNew (p:=⟨g2,1,none⟩) (.bool false) hgw).drew
     exact rd_done (by rw [List.drop_zero];exact HS.out.nx k9) (by omega) (by omega) (.inl ⟨rfl,rfl⟩) (fun x' o' hx'=>by cases hx'<;>exact ⟨_,rfl⟩) k9
   ·have hEI:((E:Int)==0)=false:=beq_eq_false_iff_ne.2 (by omega)
    have HB:Hid ((true&&(E==0)&&decide (N≤lim))=false):=lH (by simp [*])
    go_wp2_with fail
    refine wp_region_held_drew (S:=Chg (·≠g2) w2) (by kernel_rfl) ((Chg.refl _ w2).drew) (fun hHeld=>?_)
    refine tkH 0 (v:=?_) rfl (by kernel_rfl) (fun _ _ _ h=>h) (by rfl) ?y1 hHeld ?_
    case y1=>intro wq hSw;go_simp<;>rfl
    try simp only [Act.put,sA,sB,sC]
    refine tkH 1 (v:=?_) rfl (by kernel_rfl) (fun _ _ _ h=>h) (by rfl) ?y4 hHeld ?_
    case y4=>intro wq hSw;go_simp<;>rfl
    try simp only [Act.put,sA,sB,sC]
    refine tkH 2 (v:=?_) rfl (by kernel_rfl) (fun _ _ _ h=>h) (by rfl) ?y7 hHeld ?_
    case y7=>intro wq hSw;(have cq:=Chg.cellv hSw p0 hgg;go_simp)<;>rfl
    try simp only [Act.put,sA,sB,sC]
    refine tkH 3 (v:=?_) rfl (by kernel_rfl) (fun _ _ _ h=>h) (by rfl) ?y10 hHeld ?_
    case y10=>intro wq hSw;go_simp<;>rfl
    try simp only [Act.put,sA,sB,sC]
    refine tkH 4 (v:=?_) rfl (by kernel_rfl) (fun _ _ _ h=>h) (by rfl) ?y13 hHeld ?_
    case y13=>intro wq hSw;go_simp<;>rfl
    try simp only [Act.put,sA,sB,sC]
    refine tkH 5 (v:=?_) rfl (by kernel_rfl) (fun _ _ _ h=>h) (by rfl) ?y16 hHeld ?_
    case y16=>intro wq hSw;go_simp<;>rfl
    try simp only [Act.put,sA,sB,sC]
    refine tkH 6 (v:=?_) rfl (by kernel_rfl) (fun _ _ _ h=>h) (by rfl) ?y19 hHeld ?_
    case y19=>intro wq hSw;(have cq:=Chg.cellv hSw p1 hgg;go_simp)<;>rfl
    try simp only [Act.put,sA,sB,sC]
    refine tkH 7 (v:=?_) rfl (by kernel_rfl) (fun _ _ _ h=>h) (by rfl) ?y22 hHeld ?_
    case y22=>intro wq hSw;go_simp<;>rfl
    try simp only [Act.put,sA,sB,sC]
    refine tkH 8 (v:=?_) rfl (by kernel_rfl) (fun _ _ _ h=>h) (by rfl) ?y25 hHeld ?_
    case y25=>intro wq hSw;go_simp<;>rfl
    try simp only [Act.put,sA,sB,sC]
    refine tkH 9 (v:=?_) rfl (by kernel_rfl) (fun _ _ _ h=>h) (by rfl) ?y28 hHeld ?_
    case y28=>intro wq hSw;go_simp<;>rfl
    try simp only [Act.put,sA,sB,sC]
    refine tkH 10 (v:=?_) rfl (by kernel_rfl) (fun _ _ _ h=>h) (by rfl) ?y31 hHeld ?_
    case y31=>intro wq hSw;go_simp<;>rfl
    try simp only [Act.put,sA,sB,sC]
    refine tkH 11 (v:=?_) rfl (by kernel_rfl) (fun _ _ _ h=>h) (by rfl) ?y34 hHeld ?_
    case y34=>intro wq hSw;go_simp<;>rfl
    try simp only [Act.put,sA,sB,sC]
    refine wpAnyH_take (i:=12) (oi:=⟨_,_,_,_,_,_⟩) (v:=undef) rfl (by kernel_rfl) (by kernel_rfl) (by kernel_rfl) (fun _ _ _ h=>h) (Or.inr ⟨by rfl,rfl⟩) (by assumption) ?_
    try simp only [Act.put,sA,sB,sC]
    refine wpAnyH_take (i:=13) (oi:=⟨_,_,_,_,_,_⟩) (v:=undef) rfl (by kernel_rfl) (by kernel_rfl) (by kernel_rfl) (fun _ _ _ h=>h) (Or.inr ⟨by rfl,rfl⟩) (by assumption) ?_
    try simp only [Act.put,sA,sB,sC]
    refine wpAnyH_take (i:=14) (oi:=⟨_,_,_,_,_,_⟩) (v:=undef) rfl (by kernel_rfl) (by kernel_rfl) (by kernel_rfl) (fun _ _ _ h=>h) (Or.inr ⟨by rfl,rfl⟩) (by assumption) ?_
    try simp only [Act.put,sA,sB,sC]
    refine tkH 15 (v:=?_) rfl (by kernel_rfl) (fun _ _ _ h=>h) (by rfl) ?y43 hHeld ?_
    case y43=>intro wq hSw;go_simp<;>rfl
    try simp only [Act.put,sA,sB,sC]
    refine tkH 16 (v:=?_) rfl (by kernel_rfl) (fun _ _ _ h=>h) (by rfl) ?y46 hHeld ?_
    case y46=>intro wq hSw;go_simp<;>rfl
    try simp only [Act.put,sA,sB,sC]
    refine tkH 17 (v:=?_) rfl (by kernel_rfl) (fun _ _ _ h=>h) (by rfl) ?y49 hHeld ?_
    case y49=>intro wq hSw;go_simp<;>rfl
    try simp only [Act.put,sA,sB,sC]
    refine rH 18 (by kernel_rfl) rfl fun K hK=>?_
    go_simp
    refine hK.out _ _ ((Chg.setCell (Chg.setCell hHeld _ (fun x hx=>hx)) _ (fun x hx=>hx))) (fun hHeld=>?_)
    clear hK K
    try simp only [Act.put,sA,sB,sC]
    refine wpAnyH_done (by kernel_rfl) ?_ _
    go_wp2_with fail
    refine bodyPost_ret (v:=.tuple #[.int .u64 N,.agg #[.slice none (0) (0),.bool false]]) (by simp [results,Tryz.results97,go_sem, *]) rfl ?_
    rw [← HT.out]
    simp only []
    rw [HB.out]
    have k9:=((kk.setNew (p:=⟨g2,0,none⟩) (.slice none (0) (0)) hgw).setNew (p:=⟨g2,1,none⟩) (.bool false) hgw).drew
    exact rd_done (by rw [List.drop_zero];exact HS.out.nx k9) (by omega) (by omega) (.inl ⟨rfl,rfl⟩) (fun x' o' hx'=>by cases hx'<;>exact ⟨_,rfl⟩) k9
 ·by_cases hcK:c=K
  ·obtain rfl:n=K:=by omega
   obtain rfl:c=n:=by omega
   cases ok with
   | false =>
    have HB:Hid ((false&&(E==0)&&decide (N≤lim))=false):=lH (by simp [*])
    go_wp2_with fail
    refine wp_region_held_drew (S:=Chg (·≠g2) w2) (by kernel_rfl) ((Chg.refl _ w2).drew) (fun hHeld=>?_)
    refine tkH 0 (v:=?_) rfl (by kernel_rfl) (fun _ _ _ h=>h) (by rfl) ?y1 hHeld ?_
    case y1=>intro wq hSw;go_simp<;>rfl
    try simp only [Act.put,sA,sB,sC]
    refine tkH 1 (v:=?_) rfl (by kernel_rfl) (fun _ _ _ h=>h) (by rfl) ?y4 hHeld ?_
    case y4=>intro wq hSw;go_simp<;>rfl
    try simp only [Act.put,sA,sB,sC]
    refine tkH 2 (v:=?_) rfl (by kernel_rfl) (fun _ _ _ h=>h) (by rfl) ?y7 hHeld ?_
    case y7=>intro wq hSw;(have cq:=Chg.cellv hSw p0 hgg;go_simp)<;>rfl
    try simp only [Act.put,sA,sB,sC]
    refine tkH 3 (v:=?_) rfl (by kernel_rfl) (fun _ _ _ h=>h) (by rfl) ?y10 hHeld ?_
    case y10=>intro wq hSw;go_simp<;>rfl
    try simp only [Act.put,sA,sB,sC]
    refine tkH 4 (v:=?_) rfl (by kernel_rfl) (fun _ _ _ h=>h) (by rfl) ?y13 hHeld ?_
    case y13=>intro wq hSw;go_simp<;>rfl
    try simp only [Act.put,sA,sB,sC]
    refine tkH 5 (v:=?_) rfl (by kernel_rfl) (fun _ _ _ h=>h) (by rfl) ?y16 hHeld ?_
    case y16=>intro wq hSw;go_simp<;>rfl
    try simp only [Act.put,sA,sB,sC]
    refine tkH 6 (v:=?_) rfl (by kernel_rfl) (fun _ _ _ h=>h) (by rfl) ?y19 hHeld ?_
    case y19=>intro wq hSw;(have cq:=Chg.cellv hSw p1 hgg;go_simp)<;>rfl
    try simp only [Act.put,sA,sB,sC]
    refine tkH 7 (v:=?_) rfl (by kernel_rfl) (fun _ _ _ h=>h) (by rfl) ?y22 hHeld ?_
    case y22=>intro wq hSw;go_simp<;>rfl
    try simp only [Act.put,sA,sB,sC]
    refine wpAnyH_take (i:=8) (oi:=⟨_,_,_,_,_,_⟩) (v:=undef) rfl (by kernel_rfl) (by kernel_rfl) (by kernel_rfl) (fun _ _ _ h=>h) (Or.inr ⟨by rfl,rfl⟩) (by assumption) ?_
    try simp only [Act.put,sA,sB,sC]
    refine wpAnyH_take (i:=9) (oi:=⟨_,_,_,_,_,_⟩) (v:=undef) rfl (by kernel_rfl) (by kernel_rfl) (by kernel_rfl) (fun _ _ _ h=>h) (Or.inr ⟨by rfl,rfl⟩) (by assumption) ?_
    try simp only [Act.put,sA,sB,sC]
    refine tkH 10 (v:=?_) rfl (by kernel_rfl) (fun _ _ _ h=>h) (by rfl) ?y29 hHeld ?_
    case y29=>intro wq hSw;go_simp<;>rfl
    try simp only [Act.put,sA,sB,sC]
    refine tkH 11 (v:=?_) rfl (by kernel_rfl) (fun _ _ _ h=>h) (by rfl) ?y32 hHeld ?_
    case y32=>intro wq hSw;go_simp<;>rfl
    try simp only [Act.put,sA,sB,sC]
    refine wpAnyH_take (i:=12) (oi:=⟨_,_,_,_,_,_⟩) (v:=undef) rfl (by kernel_rfl) (by kernel_rfl) (by kernel_rfl) (fun _ _ _ h=>h) (Or.inr ⟨by rfl,rfl⟩) (by assumption) ?_
    try simp only [Act.put,sA,sB,sC]
    refine wpAnyH_take (i:=13) (oi:=⟨_,_,_,_,_,_⟩) (v:=undef) rfl (by kernel_rfl) (by kernel_rfl) (by kernel_rfl) (fun _ _ _ h=>h) (Or.inr ⟨by rfl,rfl⟩) (by assumption) ?_
    try simp only [Act.put,sA,sB,sC]
    refine wpAnyH_take (i:=14) (oi:=⟨_,_,_,_,_,_⟩) (v:=undef) rfl (by kernel_rfl) (by kernel_rfl) (by kernel_rfl) (fun _ _ _ h=>h) (Or.inr ⟨by rfl,rfl⟩) (by assumption) ?_
    try simp only [Act.put,sA,sB,sC]
    refine tkH 15 (v:=?_) rfl (by kernel_rfl) (fun _ _ _ h=>h) (by rfl) ?y41 hHeld ?_
    case y41=>intro wq hSw;go_simp<;>rfl
    try simp only [Act.put,sA,sB,sC]
    refine tkH 16 (v:=?_) rfl (by kernel_rfl) (fun _ _ _ h=>h) (by rfl) ?y44 hHeld ?_
    case y44=>intro wq hSw;go_simp<;>rfl
    try simp only [Act.put,sA,sB,sC]
    refine tkH 17 (v:=?_) rfl (by kernel_rfl) (fun _ _ _ h=>h) (by rfl) ?y47 hHeld ?_
    case y47=>intro wq hSw;go_simp<;>rfl
    try simp only [Act.put,sA,sB,sC]
    refine rH 18 (by kernel_rfl) rfl fun K hK=>?_
    go_simp
    refine hK.out _ _ ((Chg.setCell (Chg.setCell hHeld _ (fun x hx=>hx)) _ (fun x hx=>hx))) (fun hHeld=>?_)
    clear hK K
    try simp only [Act.put,sA,sB,sC]
    refine wpAnyH_done (by kernel_rfl) ?_ _
    go_wp2_with fail
    refine bodyPost_ret (v:=.tuple #[.int .u64 N,.agg #[.slice (some ⟨x,o,none⟩) (0) (0),.bool false]]) (by simp [results,Tryz.results97,go_sem, *]) rfl ?_
    rw [← HT.out]
    simp only []
    rw [HB.out]
    have k9:=((kk.setNew (p:=⟨g2,0,none⟩) (.slice (some ⟨x,o,none⟩) (0) (0)) hgw).setNew (p:=⟨g2,1,none⟩) (.bool false) hgw).drew
    exact rd_done (sl_end (HS.out.nx k9) (Nat.le_refl _)) (by omega) (by omega) (.inr ⟨_,_,rfl⟩) (fun x' o' hx'=>by cases hx'<;>exact ⟨_,rfl⟩) k9
   | true =>
    by_cases hE:E=0
    ·subst hE
     by_cases hl:N≤lim
     ·have hlI:(N:Int)≤(lim:Int):=by omega
      have HB:Hid ((true&&((0:Nat)==0)&&decide (N≤lim))=true):=lH (by simp [*])
      go_wp2_with fail
      refine wp_region_held_drew (S:=Chg (·≠g2) w2) (by kernel_rfl) ((Chg.refl _ w2).drew) (fun hHeld=>?_)
      refine tkH 0 (v:=?_) rfl (by kernel_rfl) (fun _ _ _ h=>h) (by rfl) ?y1 hHeld ?_
      case y1=>intro wq hSw;go_simp<;>rfl
      try simp only [Act.put,sA,sB,sC]
      refine tkH 1 (v:=?_) rfl (by kernel_rfl) (fun _ _ _ h=>h) (by rfl) ?y4 hHeld ?_
      case y4=>intro wq hSw;go_simp<;>rfl
      try simp only [Act.put,sA,sB,sC]
      refine tkH 2 (v:=?_) rfl (by kernel_rfl) (fun _ _ _ h=>h) (by rfl) ?y7 hHeld ?_
      case y7=>intro wq hSw;(have cq:=Chg.cellv hSw p0 hgg;go_simp)<;>rfl
      try simp only [Act.put,sA,sB,sC]
      refine tkH 3 (v:=?_) rfl (by kernel_rfl) (fun _ _ _ h=>h) (by rfl) ?y10 hHeld ?_
      case y10=>intro wq hSw;go_simp<;>rfl
      try simp only [Act.put,sA,sB,sC]
      refine tkH 4 (v:=?_) rfl (by kernel_rfl) (fun _ _ _ h=>h) (by rfl) ?y13 hHeld ?_
      case y13=>intro wq hSw;go_simp<;>rfl
      try simp only [Act.put,sA,sB,sC]
      refine tkH 5 (v:=?_) rfl (by kernel_rfl) (fun _ _ _ h=>h) (by rfl) ?y16 hHeld ?_
      case y16=>intro wq hSw;go_simp<;>rfl
      try simp only [Act.put,sA,sB,sC]
      refine tkH 6 (v:=?_) rfl (by kernel_rfl) (fun _ _ _ h=>h) (by rfl) ?y19 hHeld ?_
      case y19=>intro wq hSw;(have cq:=Chg.cellv hSw p1 hgg;go_simp)<;>rfl
      try simp only [Act.put,sA,sB,sC]
      refine tkH 7 (v:=?_) rfl (by kernel_rfl) (fun _ _ _ h=>h) (by rfl) ?y22 hHeld ?_
      case y22=>intro wq hSw;go_simp<;>rfl
      try simp only [Act.put,sA,sB,sC]
      refine tkH 8 (v:=?_) rfl (by kernel_rfl) (fun _ _ _ h=>h) (by rfl) ?y25 hHeld ?_
      case y25=>intro wq hSw;go_simp<;>rfl
      try simp only [Act.put,sA,sB,sC]
      refine tkH 9 (v:=?_) rfl (by kernel_rfl) (fun _ _ _ h=>h) (by rfl) ?y28 hHeld ?_
      case y28=>intro wq hSw;go_simp<;>rfl
      try simp only [Act.put,sA,sB,sC]
      refine tkH 10 (v:=?_) rfl (by kernel_rfl) (fun _ _ _ h=>h) (by rfl) ?y31 hHeld ?_
      case y31=>intro wq hSw;go_simp<;>rfl
      try simp only [Act.put,sA,sB,sC]
      refine tkH 11 (v:=?_) rfl (by kernel_rfl) (fun _ _ _ h=>h) (by rfl) ?y34 hHeld ?_
      case y34=>intro wq hSw;go_simp<;>rfl
      try simp only [Act.put,sA,sB,sC]
      refine tkH 12 (v:=?_) rfl (by kernel_rfl) (fun _ _ _ h=>h) (by rfl) ?y37 hHeld ?_
      case y37=>intro wq hSw;go_simp<;>rfl
      try simp only [Act.put,sA,sB,sC]
      refine tkH 13 (v:=?_) rfl (by kernel_rfl) (fun _ _ _ h=>h) (by rfl) ?y40 hHeld ?_
      case y40=>intro wq hSw;go_simp<;>rfl
      try simp only [Act.put,sA,sB,sC]
      refine tkH 14 (v:=?_) rfl (by kernel_rfl) (fun _ _ _ h=>h) (by rfl) ?y43 hHeld ?_
      case y43=>intro wq hSw;go_simp<;>rfl
      try simp only [Act.put,sA,sB,sC]
      refine tkH 15 (v:=?_) rfl (by kernel_rfl) (fun _ _ _ h=>h) (by rfl) ?y46 hHeld ?_
      case y46=>intro wq hSw;go_simp<;>rfl
      try simp only [Act.put,sA,sB,sC]
      refine tkH 16 (v:=?_) rfl (by kernel_rfl) (fun _ _ _ h=>h) (by rfl) ?y49 hHeld ?_
      case y49=>intro wq hSw;go_simp<;>rfl
      try simp only [Act.put,sA,sB,sC]
      refine tkH 17 (v:=?_) rfl (by kernel_rfl) (fun _ _ _ h=>h) (by rfl) ?y52 hHeld ?_
      case y52=>intro wq hSw;go_simp<;>rfl
      try simp only [Act.put,sA,sB,sC]
      refine rH 18 (by kernel_rfl) rfl fun K hK=>?_
      go_simp
      refine hK.out _ _ ((Chg.setCell (Chg.setCell hHeld _ (fun x hx=>hx)) _ (fun x hx=>hx))) (fun hHeld=>?_)
      clear hK K
      try simp only [Act.put,sA,sB,sC]
      refine wpAnyH_done (by kernel_rfl) ?_ _
      go_wp2_with fail
      refine bodyPost_ret (v:=.tuple #[.int .u64 N,.agg #[.slice (some ⟨x,o,none⟩) (0) (0),.bool true]]) (by simp [results,Tryz.results97,go_sem, *]) rfl ?_
      rw [← HT.out]
      simp only []
      rw [HB.out]
      have k9:=((kk.setNew (p:=⟨g2,0,none⟩) (.slice (some ⟨x,o,none⟩) (0) (0)) hgw).setNew (p:=⟨g2,1,none⟩) (.bool true) hgw).drew
      exact rd_done (sl_end (HS.out.nx k9) (Nat.le_refl _)) (by omega) (by omega) (.inr ⟨_,_,rfl⟩) (fun x' o' hx'=>by cases hx'<;>exact ⟨_,rfl⟩) k9
     ·have hlI:¬ (N:Int)≤(lim:Int):=by omega
      have HB:Hid ((true&&((0:Nat)==0)&&decide (N≤lim))=false):=lH (by simp [*])
      go_wp2_with fail
      refine wp_region_held_drew (S:=Chg (·≠g2) w2) (by kernel_rfl) ((Chg.refl _ w2).drew) (fun hHeld=>?_)
      refine tkH 0 (v:=?_) rfl (by kernel_rfl) (fun _ _ _ h=>h) (by rfl) ?y1 hHeld ?_
      case y1=>intro wq hSw;go_simp<;>rfl
      try simp only [Act.put,sA,sB,sC]
      refine tkH 1 (v:=?_) rfl (by kernel_rfl) (fun _ _ _ h=>h) (by rfl) ?y4 hHeld ?_
      case y4=>intro wq hSw;go_simp<;>rfl
      try simp only [Act.put,sA,sB,sC]
      refine tkH 2 (v:=?_) rfl (by kernel_rfl) (fun _ _ _ h=>h) (by rfl) ?y7 hHeld ?_
      case y7=>intro wq hSw;(have cq:=Chg.cellv hSw p0 hgg;go_simp)<;>rfl
      try simp only [Act.put,sA,sB,sC]
      refine tkH 3 (v:=?_) rfl (by kernel_rfl) (fun _ _ _ h=>h) (by rfl) ?y10 hHeld ?_
      case y10=>intro wq hSw;go_simp<;>rfl
      try simp only [Act.put,sA,sB,sC]
      refine tkH 4 (v:=?_) rfl (by kernel_rfl) (fun _ _ _ h=>h) (by rfl) ?y13 hHeld ?_
      case y13=>intro wq hSw;go_simp<;>rfl
      try simp only [Act.put,sA,sB,sC]
      refine tkH 5 (v:=?_) rfl (by kernel_rfl) (fun _ _ _ h=>h) (by rfl) ?y16 hHeld ?_
      case y16=>intro wq hSw;go_simp<;>rfl
      try simp only [Act.put,sA,sB,sC]
      refine tkH 6 (v:=?_) rfl (by kernel_rfl) (fun _ _ _ h=>h) (by rfl) ?y19 hHeld ?_
      case y19=>intro wq hSw;(have cq:=Chg.cellv hSw p1 hgg;go_simp)<;>rfl
      try simp only [Act.put,sA,sB,sC]
      refine tkH 7 (v:=?_) rfl (by kernel_rfl) (fun _ _ _ h=>h) (by rfl) ?y22 hHeld ?_
      case y22=>intro wq hSw;go_simp<;>rfl
      try simp only [Act.put,sA,sB,sC]
      refine tkH 8 (v:=?_) rfl (by kernel_rfl) (fun _ _ _ h=>h) (by rfl) ?y25 hHeld ?_
      case y25=>intro wq hSw;go_simp<;>rfl
      try simp only [Act.put,sA,sB,sC]
      refine tkH 9 (v:=?_) rfl (by kernel_rfl) (fun _ _ _ h=>h) (by rfl) ?y28 hHeld ?_
      case y28=>intro wq hSw;go_simp<;>rfl
      try simp only [Act.put,sA,sB,sC]
      refine tkH 10 (v:=?_) rfl (by kernel_rfl) (fun _ _ _ h=>h) (by rfl) ?y31 hHeld ?_
      case y31=>intro wq hSw;go_simp<;>rfl
      try simp only [Act.put,sA,sB,sC]
      refine tkH 11 (v:=?_) rfl (by kernel_rfl) (fun _ _ _ h=>h) (by rfl) ?y34 hHeld ?_
      case y34=>intro wq hSw;go_simp<;>rfl
      try simp only [Act.put,sA,sB,sC]
      refine tkH 12 (v:=?_) rfl (by kernel_rfl) (fun _ _ _ h=>h) (by rfl) ?y37 hHeld ?_
      case y37=>intro wq hSw;go_simp<;>rfl
      try simp only [Act.put,sA,sB,sC]
      refine tkH 13 (v:=?_) rfl (by kernel_rfl) (fun _ _ _ h=>h) (by rfl) ?y40 hHeld ?_
      case y40=>intro wq hSw;go_simp<;>rfl
      try simp only [Act.put,sA,sB,sC]
      refine tkH 14 (v:=?_) rfl (by kernel_rfl) (fun _ _ _ h=>h) (by rfl) ?y43 hHeld ?_
      case y43=>intro wq hSw;go_simp<;>rfl
      try simp only [Act.put,sA,sB,sC]
      refine tkH 15 (v:=?_) rfl (by kernel_rfl) (fun _ _ _ h=>h) (by rfl) ?y46 hHeld ?_
      case y46=>intro wq hSw;go_simp<;>rfl
      try simp only [Act.put,sA,sB,sC]
      refine tkH 16 (v:=?_) rfl (by kernel_rfl) (fun _ _ _ h=>h) (by rfl) ?y49 hHeld ?_
      case y49=>intro wq hSw;go_simp<;>rfl
      try simp only [Act.put,sA,sB,sC]
      refine tkH 17 (v:=?_) rfl (by kernel_rfl) (fun _ _ _ h=>h) (by rfl) ?y52 hHeld ?_
      case y52=>intro wq hSw;go_simp<;>rfl
      try simp only [Act.put,sA,sB,sC]
      refine rH 18 (by kernel_rfl) rfl fun K hK=>?_
      go_simp
      refine hK.out _ _ ((Chg.setCell (Chg.setCell hHeld _ (fun x hx=>hx)) _ (fun x hx=>hx))) (fun hHeld=>?_)
      clear hK K
      try simp only [Act.put,sA,sB,sC]
      refine wpAnyH_done (by kernel_rfl) ?_ _
      go_wp2_with fail
      refine bodyPost_ret (v:=.tuple #[.int .u64 N,.agg #[.slice (some ⟨x,o,none⟩) (0) (0),.bool false]]) (by simp [results,Tryz.results97,go_sem, *]) rfl ?_
      rw [← HT.out]
      simp only []
      rw [HB.out]
      have k9:=((kk.setNew (p:=⟨g2,0,none⟩) (.slice (some ⟨x,o,none⟩) (0) (0)) hgw).setNew (p:=⟨g2,1,none⟩) (.bool false) hgw).drew
      exact rd_done (sl_end (HS.out.nx k9) (Nat.le_refl _)) (by omega) (by omega) (.inr ⟨_,_,rfl⟩) (fun x' o' hx'=>by cases hx'<;>exact ⟨_,rfl⟩) k9
    ·have hEI:((E:Int)==0)=false:=beq_eq_false_iff_ne.2 (by omega)
     have HB:Hid ((true&&(E==0)&&decide (N≤lim))=false):=lH (by simp [*])
     go_wp2_with fail
     refine wp_region_held_drew (S:=Chg (·≠g2) w2) (by kernel_rfl) ((Chg.refl _ w2).drew) (fun hHeld=>?_)
     refine tkH 0 (v:=?_) rfl (by kernel_rfl) (fun _ _ _ h=>h) (by rfl) ?y1 hHeld ?_
     case y1=>intro wq hSw;go_simp<;>rfl
     try simp only [Act.put,sA,sB,sC]
     refine tkH 1 (v:=?_) rfl (by kernel_rfl) (fun _ _ _ h=>h) (by rfl) ?y4 hHeld ?_
     case y4=>intro wq hSw;go_simp<;>rfl
     try simp only [Act.put,sA,sB,sC]
     refine tkH 2 (v:=?_) rfl (by kernel_rfl) (fun _ _ _ h=>h) (by rfl) ?y7 hHeld ?_
     case y7=>intro wq hSw;(have cq:=Chg.cellv hSw p0 hgg;go_simp)<;>rfl
     try simp only [Act.put,sA,sB,sC]
     refine tkH 3 (v:=?_) rfl (by kernel_rfl) (fun _ _ _ h=>h) (by rfl) ?y10 hHeld ?_
     case y10=>intro wq hSw;go_simp<;>rfl
     try simp only [Act.put,sA,sB,sC]
     refine tkH 4 (v:=?_) rfl (by kernel_rfl) (fun _ _ _ h=>h) (by rfl) ?y13 hHeld ?_
     case y13=>intro wq hSw;go_simp<;>rfl
     try simp only [Act.put,sA,sB,sC]
     refine tkH 5 (v:=?_) rfl (by kernel_rfl) (fun _ _ _ h=>h) (by rfl) ?y16 hHeld ?_
     case y16=>intro wq hSw;go_simp<;>rfl
     try simp only [Act.put,sA,sB,sC]
     refine tkH 6 (v:=?_) rfl (by kernel_rfl) (fun _ _ _ h=>h) (by rfl) ?y19 hHeld ?_
     case y19=>intro wq hSw;(have cq:=Chg.cellv hSw p1 hgg;go_simp)<;>rfl
     try simp only [Act.put,sA,sB,sC]
     refine tkH 7 (v:=?_) rfl (by kernel_rfl) (fun _ _ _ h=>h) (by rfl) ?y22 hHeld ?_
     case y22=>intro wq hSw;go_simp<;>rfl
     try simp only [Act.put,sA,sB,sC]
     refine tkH 8 (v:=?_) rfl (by kernel_rfl) (fun _ _ _ h=>h) (by rfl) ?y25 hHeld ?_
     case y25=>intro wq hSw;go_simp<;>rfl
     try simp only [Act.put,sA,sB,sC]
     refine tkH 9 (v:=?_) rfl (by kernel_rfl) (fun _ _ _ h=>h) (by rfl) ?y28 hHeld ?_
     case y28=>intro wq hSw;go_simp<;>rfl
     try simp only [Act.put,sA,sB,sC]
     refine tkH 10 (v:=?_) rfl (by kernel_rfl) (fun _ _ _ h=>h) (by rfl) ?y31 hHeld ?_
     case y31=>intro wq hSw;go_simp<;>rfl
     try simp only [Act.put,sA,sB,sC]
     refine tkH 11 (v:=?_) rfl (by kernel_rfl) (fun _ _ _ h=>h) (by rfl) ?y34 hHeld ?_
     case y34=>intro wq hSw;go_simp<;>rfl
     try simp only [Act.put,sA,sB,sC]
     refine wpAnyH_take (i:=12) (oi:=⟨_,_,_,_,_,_⟩) (v:=undef) rfl (by kernel_rfl) (by kernel_rfl) (by kernel_rfl) (fun _ _ _ h=>h) (Or.inr ⟨by rfl,rfl⟩) (by assumption) ?_
     try simp only [Act.put,sA,sB,sC]
     refine wpAnyH_take (i:=13) (oi:=⟨_,_,_,_,_,_⟩) (v:=undef) rfl (by kernel_rfl) (by kernel_rfl) (by kernel_rfl) (fun _ _ _ h=>h) (Or.inr ⟨by rfl,rfl⟩) (by assumption) ?_
     try simp only [Act.put,sA,sB,sC]
     refine wpAnyH_take (i:=14) (oi:=⟨_,_,_,_,_,_⟩) (v:=undef) rfl (by kernel_rfl) (by kernel_rfl) (by kernel_rfl) (fun _ _ _ h=>h) (Or.inr ⟨by rfl,rfl⟩) (by assumption) ?_
     try simp only [Act.put,sA,sB,sC]
     refine tkH 15 (v:=?_) rfl (by kernel_rfl) (fun _ _ _ h=>h) (by rfl) ?y43 hHeld ?_
     case y43=>intro wq hSw;go_simp<;>rfl
     try simp only [Act.put,sA,sB,sC]
     refine tkH 16 (v:=?_) rfl (by kernel_rfl) (fun _ _ _ h=>h) (by rfl) ?y46 hHeld ?_
     case y46=>intro wq hSw;go_simp<;>rfl
     try simp only [Act.put,sA,sB,sC]
     refine tkH 17 (v:=?_) rfl (by kernel_rfl) (fun _ _ _ h=>h) (by rfl) ?y49 hHeld ?_
     case y49=>intro wq hSw;go_simp<;>rfl
     try simp only [Act.put,sA,sB,sC]
     refine rH 18 (by kernel_rfl) rfl fun K hK=>?_
     go_simp
     refine hK.out _ _ ((Chg.setCell (Chg.setCell hHeld _ (fun x hx=>hx)) _ (fun x hx=>hx))) (fun hHeld=>?_)
     clear hK K
     try simp only [Act.put,sA,sB,sC]
     refine wpAnyH_done (by kernel_rfl) ?_ _
     go_wp2_with fail
     refine bodyPost_ret (v:=.tuple #[.int .u64 N,.agg #[.slice (some ⟨x,o,none⟩) (0) (0),.bool false]]) (by simp [results,Tryz.results97,go_sem, *]) rfl ?_
     rw [← HT.out]
     simp only []
     rw [HB.out]
     have k9:=((kk.setNew (p:=⟨g2,0,none⟩) (.slice (some ⟨x,o,none⟩) (0) (0)) hgw).setNew (p:=⟨g2,1,none⟩) (.bool false) hgw).drew
     exact rd_done (sl_end (HS.out.nx k9) (Nat.le_refl _)) (by omega) (by omega) (.inr ⟨_,_,rfl⟩) (fun x' o' hx'=>by cases hx'<;>exact ⟨_,rfl⟩) k9
  ·have hcK':¬ c=K:=hcK
   cases ok with
   | false =>
    have HB:Hid ((false&&(E==0)&&decide (N≤lim))=false):=lH (by simp [*])
    go_wp2_with fail
    refine wp_region_held_drew (S:=Chg (·≠g2) w2) (by kernel_rfl) ((Chg.refl _ w2).drew) (fun hHeld=>?_)
    refine tkH 0 (v:=?_) rfl (by kernel_rfl) (fun _ _ _ h=>h) (by rfl) ?y1 hHeld ?_
    case y1=>intro wq hSw;go_simp<;>rfl
    try simp only [Act.put,sA,sB,sC]
    refine tkH 1 (v:=?_) rfl (by kernel_rfl) (fun _ _ _ h=>h) (by rfl) ?y4 hHeld ?_
    case y4=>intro wq hSw;go_simp<;>rfl
    try simp only [Act.put,sA,sB,sC]
    refine tkH 2 (v:=?_) rfl (by kernel_rfl) (fun _ _ _ h=>h) (by rfl) ?y7 hHeld ?_
    case y7=>intro wq hSw;(have cq:=Chg.cellv hSw p0 hgg;go_simp)<;>rfl
    try simp only [Act.put,sA,sB,sC]
    refine tkH 3 (v:=?_) rfl (by kernel_rfl) (fun _ _ _ h=>h) (by rfl) ?y10 hHeld ?_
    case y10=>intro wq hSw;go_simp<;>rfl
    try simp only [Act.put,sA,sB,sC]
    refine tkH 4 (v:=?_) rfl (by kernel_rfl) (fun _ _ _ h=>h) (by rfl) ?y13 hHeld ?_
    case y13=>intro wq hSw;go_simp<;>rfl
    try simp only [Act.put,sA,sB,sC]
    refine tkH 5 (v:=?_) rfl (by kernel_rfl) (fun _ _ _ h=>h) (by rfl) ?y16 hHeld ?_
    case y16=>intro wq hSw;go_simp<;>rfl
    try simp only [Act.put,sA,sB,sC]
    refine tkH 6 (v:=?_) rfl (by kernel_rfl) (fun _ _ _ h=>h) (by rfl) ?y19 hHeld ?_
    case y19=>intro wq hSw;(have cq:=Chg.cellv hSw p1 hgg;go_simp)<;>rfl
    try simp only [Act.put,sA,sB,sC]
    refine tkH 7 (v:=?_) rfl (by kernel_rfl) (fun _ _ _ h=>h) (by rfl) ?y22 hHeld ?_
    case y22=>intro wq hSw;go_simp<;>rfl
    try simp only [Act.put,sA,sB,sC]
    refine wpAnyH_take (i:=8) (oi:=⟨_,_,_,_,_,_⟩) (v:=undef) rfl (by kernel_rfl) (by kernel_rfl) (by kernel_rfl) (fun _ _ _ h=>h) (Or.inr ⟨by rfl,rfl⟩) (by assumption) ?_
    try simp only [Act.put,sA,sB,sC]
    refine wpAnyH_take (i:=9) (oi:=⟨_,_,_,_,_,_⟩) (v:=undef) rfl (by kernel_rfl) (by kernel_rfl) (by kernel_rfl) (fun _ _ _ h=>h) (Or.inr ⟨by rfl,rfl⟩) (by assumption) ?_
    try simp only [Act.put,sA,sB,sC]
    refine tkH 10 (v:=?_) rfl (by kernel_rfl) (fun _ _ _ h=>h) (by rfl) ?y29 hHeld ?_
    case y29=>intro wq hSw;go_simp<;>rfl
    try simp only [Act.put,sA,sB,sC]
    refine tkH 11 (v:=?_) rfl (by kernel_rfl) (fun _ _ _ h=>h) (by rfl) ?y32 hHeld ?_
    case y32=>intro wq hSw;go_simp<;>rfl
    try simp only [Act.put,sA,sB,sC]
    refine wpAnyH_take (i:=12) (oi:=⟨_,_,_,_,_,_⟩) (v:=undef) rfl (by kernel_rfl) (by kernel_rfl) (by kernel_rfl) (fun _ _ _ h=>h) (Or.inr ⟨by rfl,rfl⟩) (by assumption) ?_
    try simp only [Act.put,sA,sB,sC]
    refine wpAnyH_take (i:=13) (oi:=⟨_,_,_,_,_,_⟩) (v:=undef) rfl (by kernel_rfl) (by kernel_rfl) (by kernel_rfl) (fun _ _ _ h=>h) (Or.inr ⟨by rfl,rfl⟩) (by assumption) ?_
    try simp only [Act.put,sA,sB,sC]
    refine wpAnyH_take (i:=14) (oi:=⟨_,_,_,_,_,_⟩) (v:=undef) rfl (by kernel_rfl) (by kernel_rfl) (by kernel_rfl) (fun _ _ _ h=>h) (Or.inr ⟨by rfl,rfl⟩) (by assumption) ?_
    try simp only [Act.put,sA,sB,sC]
    refine tkH 15 (v:=?_) rfl (by kernel_rfl) (fun _ _ _ h=>h) (by rfl) ?y41 hHeld ?_
    case y41=>intro wq hSw;go_simp<;>rfl
    try simp only [Act.put,sA,sB,sC]
    refine tkH 16 (v:=?_) rfl (by kernel_rfl) (fun _ _ _ h=>h) (by rfl) ?y44 hHeld ?_
    case y44=>intro wq hSw;go_simp<;>rfl
    try simp only [Act.put,sA,sB,sC]
    refine tkH 17 (v:=?_) rfl (by kernel_rfl) (fun _ _ _ h=>h) (by rfl) ?y47 hHeld ?_
    case y47=>intro wq hSw;go_simp<;>rfl
    try simp only [Act.put,sA,sB,sC]
    refine rH 18 (by kernel_rfl) rfl fun K hK=>?_
    go_simp
    refine hK.out _ _ ((Chg.setCell (Chg.setCell hHeld _ (fun x hx=>hx)) _ (fun x hx=>hx))) (fun hHeld=>?_)
    clear hK K
    try simp only [Act.put,sA,sB,sC]
    refine wpAnyH_done (by kernel_rfl) ?_ _
    go_wp2_with fail
    refine bodyPost_ret (v:=.tuple #[.int .u64 N,.agg #[.slice (some ⟨x,o+K,none⟩) (n-K) (c-K),.bool false]]) (by simp [results,Tryz.results97,go_sem, *]) rfl ?_
    rw [← HT.out]
    simp only []
    rw [HB.out]
    have k9:=((kk.setNew (p:=⟨g2,0,none⟩) (.slice (some ⟨x,o+K,none⟩) (n-K) (c-K)) hgw).setNew (p:=⟨g2,1,none⟩) (.bool false) hgw).drew
    exact rd_done (sl_from (HS.out.nx k9) hk) (by omega) (by omega) (.inr ⟨_,_,rfl⟩) (fun x' o' hx'=>by cases hx'<;>exact ⟨_,rfl⟩) k9
   | true =>
    by_cases hE:E=0
    ·subst hE
     by_cases hl:N≤lim
     ·have hlI:(N:Int)≤(lim:Int):=by omega
      have HB:Hid ((true&&((0:Nat)==0)&&decide (N≤lim))=true):=lH (by simp [*])
      go_wp2_with fail
      refine wp_region_held_drew (S:=Chg (·≠g2) w2) (by kernel_rfl) ((Chg.refl _ w2).drew) (fun hHeld=>?_)
      refine tkH 0 (v:=?_) rfl (by kernel_rfl) (fun _ _ _ h=>h) (by rfl) ?y1 hHeld ?_
      case y1=>intro wq hSw;go_simp<;>rfl
      try simp only [Act.put,sA,sB,sC]
      refine tkH 1 (v:=?_) rfl (by kernel_rfl) (fun _ _ _ h=>h) (by rfl) ?y4 hHeld ?_
      case y4=>intro wq hSw;go_simp<;>rfl
      try simp only [Act.put,sA,sB,sC]
      refine tkH 2 (v:=?_) rfl (by kernel_rfl) (fun _ _ _ h=>h) (by rfl) ?y7 hHeld ?_
      case y7=>intro wq hSw;(have cq:=Chg.cellv hSw p0 hgg;go_simp)<;>rfl
      try simp only [Act.put,sA,sB,sC]
      refine tkH 3 (v:=?_) rfl (by kernel_rfl) (fun _ _ _ h=>h) (by rfl) ?y10 hHeld ?_
      case y10=>intro wq hSw;go_simp<;>rfl
      try simp only [Act.put,sA,sB,sC]
      refine tkH 4 (v:=?_) rfl (by kernel_rfl) (fun _ _ _ h=>h) (by rfl) ?y13 hHeld ?_
      case y13=>intro wq hSw;go_simp<;>rfl
      try simp only [Act.put,sA,sB,sC]
      refine tkH 5 (v:=?_) rfl (by kernel_rfl) (fun _ _ _ h=>h) (by rfl) ?y16 hHeld ?_
      case y16=>intro wq hSw;go_simp<;>rfl
      try simp only [Act.put,sA,sB,sC]
      refine tkH 6 (v:=?_) rfl (by kernel_rfl) (fun _ _ _ h=>h) (by rfl) ?y19 hHeld ?_
      case y19=>intro wq hSw;(have cq:=Chg.cellv hSw p1 hgg;go_simp)<;>rfl
      try simp only [Act.put,sA,sB,sC]
      refine tkH 7 (v:=?_) rfl (by kernel_rfl) (fun _ _ _ h=>h) (by rfl) ?y22 hHeld ?_
      case y22=>intro wq hSw;go_simp<;>rfl
      try simp only [Act.put,sA,sB,sC]
      refine tkH 8 (v:=?_) rfl (by kernel_rfl) (fun _ _ _ h=>h) (by rfl) ?y25 hHeld ?_
      case y25=>intro wq hSw;go_simp<;>rfl
      try simp only [Act.put,sA,sB,sC]
      refine tkH 9 (v:=?_) rfl (by kernel_rfl) (fun _ _ _ h=>h) (by rfl) ?y28 hHeld ?_
      case y28=>intro wq hSw;go_simp<;>rfl
      try simp only [Act.put,sA,sB,sC]
      refine tkH 10 (v:=?_) rfl (by kernel_rfl) (fun _ _ _ h=>h) (by rfl) ?y31 hHeld ?_
      case y31=>intro wq hSw;go_simp<;>rfl
      try simp only [Act.put,sA,sB,sC]
      refine tkH 11 (v:=?_) rfl (by kernel_rfl) (fun _ _ _ h=>h) (by rfl) ?y34 hHeld ?_
      case y34=>intro wq hSw;go_simp<;>rfl
      try simp only [Act.put,sA,sB,sC]
      refine tkH 12 (v:=?_) rfl (by kernel_rfl) (fun _ _ _ h=>h) (by rfl) ?y37 hHeld ?_
      case y37=>intro wq hSw;go_simp<;>rfl
      try simp only [Act.put,sA,sB,sC]
      refine tkH 13 (v:=?_) rfl (by kernel_rfl) (fun _ _ _ h=>h) (by rfl) ?y40 hHeld ?_
      case y40=>intro wq hSw;go_simp<;>rfl
      try simp only [Act.put,sA,sB,sC]
      refine tkH 14 (v:=?_) rfl (by kernel_rfl) (fun _ _ _ h=>h) (by rfl) ?y43 hHeld ?_
      case y43=>intro wq hSw;go_simp<;>rfl
      try simp only [Act.put,sA,sB,sC]
      refine tkH 15 (v:=?_) rfl (by kernel_rfl) (fun _ _ _ h=>h) (by rfl) ?y46 hHeld ?_
      case y46=>intro wq hSw;go_simp<;>rfl
      try simp only [Act.put,sA,sB,sC]
      refine tkH 16 (v:=?_) rfl (by kernel_rfl) (fun _ _ _ h=>h) (by rfl) ?y49 hHeld ?_
      case y49=>intro wq hSw;go_simp<;>rfl
      try simp only [Act.put,sA,sB,sC]
      refine tkH 17 (v:=?_) rfl (by kernel_rfl) (fun _ _ _ h=>h) (by rfl) ?y52 hHeld ?_
      case y52=>intro wq hSw;go_simp<;>rfl
      try simp only [Act.put,sA,sB,sC]
      refine rH 18 (by kernel_rfl) rfl fun K hK=>?_
      go_simp
      refine hK.out _ _ ((Chg.setCell (Chg.setCell hHeld _ (fun x hx=>hx)) _ (fun x hx=>hx))) (fun hHeld=>?_)
      clear hK K
      try simp only [Act.put,sA,sB,sC]
      refine wpAnyH_done (by kernel_rfl) ?_ _
      go_wp2_with fail
      refine bodyPost_ret (v:=.tuple #[.int .u64 N,.agg #[.slice (some ⟨x,o+K,none⟩) (n-K) (c-K),.bool true]]) (by simp [results,Tryz.results97,go_sem, *]) rfl ?_
      rw [← HT.out]
      simp only []
      rw [HB.out]
      have k9:=((kk.setNew (p:=⟨g2,0,none⟩) (.slice (some ⟨x,o+K,none⟩) (n-K) (c-K)) hgw).setNew (p:=⟨g2,1,none⟩) (.bool true) hgw).drew
      exact rd_done (sl_from (HS.out.nx k9) hk) (by omega) (by omega) (.inr ⟨_,_,rfl⟩) (fun x' o' hx'=>by cases hx'<;>exact ⟨_,rfl⟩) k9
     ·have hlI:¬ (N:Int)≤(lim:Int):=by omega
      have HB:Hid ((true&&((0:Nat)==0)&&decide (N≤lim))=false):=lH (by simp [*])
      go_wp2_with fail
      refine wp_region_held_drew (S:=Chg (·≠g2) w2) (by kernel_rfl) ((Chg.refl _ w2).drew) (fun hHeld=>?_)
      refine tkH 0 (v:=?_) rfl (by kernel_rfl) (fun _ _ _ h=>h) (by rfl) ?y1 hHeld ?_
      case y1=>intro wq hSw;go_simp<;>rfl
      try simp only [Act.put,sA,sB,sC]
      refine tkH 1 (v:=?_) rfl (by kernel_rfl) (fun _ _ _ h=>h) (by rfl) ?y4 hHeld ?_
      case y4=>intro wq hSw;go_simp<;>rfl
      try simp only [Act.put,sA,sB,sC]
      refine tkH 2 (v:=?_) rfl (by kernel_rfl) (fun _ _ _ h=>h) (by rfl) ?y7 hHeld ?_
      case y7=>intro wq hSw;(have cq:=Chg.cellv hSw p0 hgg;go_simp)<;>rfl
      try simp only [Act.put,sA,sB,sC]
      refine tkH 3 (v:=?_) rfl (by kernel_rfl) (fun _ _ _ h=>h) (by rfl) ?y10 hHeld ?_
      case y10=>intro wq hSw;go_simp<;>rfl
      try simp only [Act.put,sA,sB,sC]
      refine tkH 4 (v:=?_) rfl (by kernel_rfl) (fun _ _ _ h=>h) (by rfl) ?y13 hHeld ?_
      case y13=>intro wq hSw;go_simp<;>rfl
      try simp only [Act.put,sA,sB,sC]
      refine tkH 5 (v:=?_) rfl (by kernel_rfl) (fun _ _ _ h=>h) (by rfl) ?y16 hHeld ?_
      case y16=>intro wq hSw;go_simp<;>rfl
      try simp only [Act.put,sA,sB,sC]
      refine tkH 6 (v:=?_) rfl (by kernel_rfl) (fun _ _ _ h=>h) (by rfl) ?y19 hHeld ?_
      case y19=>intro wq hSw;(have cq:=Chg.cellv hSw p1 hgg;go_simp)<;>rfl
      try simp only [Act.put,sA,sB,sC]
      refine tkH 7 (v:=?_) rfl (by kernel_rfl) (fun _ _ _ h=>h) (by rfl) ?y22 hHeld ?_
      case y22=>intro wq hSw;go_simp<;>rfl
      try simp only [Act.put,sA,sB,sC]
      refine tkH 8 (v:=?_) rfl (by kernel_rfl) (fun _ _ _ h=>h) (by rfl) ?y25 hHeld ?_
      case y25=>intro wq hSw;go_simp<;>rfl
      try simp only [Act.put,sA,sB,sC]
      refine tkH 9 (v:=?_) rfl (by kernel_rfl) (fun _ _ _ h=>h) (by rfl) ?y28 hHeld ?_
      case y28=>intro wq hSw;go_simp<;>rfl
      try simp only [Act.put,sA,sB,sC]
      refine tkH 10 (v:=?_) rfl (by kernel_rfl) (fun _ _ _ h=>h) (by rfl) ?y31 hHeld ?_
      case y31=>intro wq hSw;go_simp<;>rfl
      try simp only [Act.put,sA,sB,sC]
      refine tkH 11 (v:=?_) rfl (by kernel_rfl) (fun _ _ _ h=>h) (by rfl) ?y34 hHeld ?_
      case y34=>intro wq hSw;go_simp<;>rfl
      try simp only [Act.put,sA,sB,sC]
      refine tkH 12 (v:=?_) rfl (by kernel_rfl) (fun _ _ _ h=>h) (by rfl) ?y37 hHeld ?_
      case y37=>intro wq hSw;go_simp<;>rfl
      try simp only [Act.put,sA,sB,sC]
      refine tkH 13 (v:=?_) rfl (by kernel_rfl) (fun _ _ _ h=>h) (by rfl) ?y40 hHeld ?_
      case y40=>intro wq hSw;go_simp<;>rfl
      try simp only [Act.put,sA,sB,sC]
      refine tkH 14 (v:=?_) rfl (by kernel_rfl) (fun _ _ _ h=>h) (by rfl) ?y43 hHeld ?_
      case y43=>intro wq hSw;go_simp<;>rfl
      try simp only [Act.put,sA,sB,sC]
      refine tkH 15 (v:=?_) rfl (by kernel_rfl) (fun _ _ _ h=>h) (by rfl) ?y46 hHeld ?_
      case y46=>intro wq hSw;go_simp<;>rfl
      try simp only [Act.put,sA,sB,sC]
      refine tkH 16 (v:=?_) rfl (by kernel_rfl) (fun _ _ _ h=>h) (by rfl) ?y49 hHeld ?_
      case y49=>intro wq hSw;go_simp<;>rfl
      try simp only [Act.put,sA,sB,sC]
      refine tkH 17 (v:=?_) rfl (by kernel_rfl) (fun _ _ _ h=>h) (by rfl) ?y52 hHeld ?_
      case y52=>intro wq hSw;go_simp<;>rfl
      try simp only [Act.put,sA,sB,sC]
      refine rH 18 (by kernel_rfl) rfl fun K hK=>?_
      go_simp
      refine hK.out _ _ ((Chg.setCell (Chg.setCell hHeld _ (fun x hx=>hx)) _ (fun x hx=>hx))) (fun hHeld=>?_)
      clear hK K
      try simp only [Act.put,sA,sB,sC]
      refine wpAnyH_done (by kernel_rfl) ?_ _
      go_wp2_with fail
      refine bodyPost_ret (v:=.tuple #[.int .u64 N,.agg #[.slice (some ⟨x,o+K,none⟩) (n-K) (c-K),.bool false]]) (by simp [results,Tryz.results97,go_sem, *]) rfl ?_
      rw [← HT.out]
      simp only []
      rw [HB.out]
      have k9:=((kk.setNew (p:=⟨g2,0,none⟩) (.slice (some ⟨x,o+K,none⟩) (n-K) (c-K)) hgw).setNew (p:=⟨g2,1,none⟩) (.bool false) hgw).drew
      exact rd_done (sl_from (HS.out.nx k9) hk) (by omega) (by omega) (.inr ⟨_,_,rfl⟩) (fun x' o' hx'=>by cases hx'<;>exact ⟨_,rfl⟩) k9
    ·have hEI:((E:Int)==0)=false:=beq_eq_false_iff_ne.2 (by omega)
     have HB:Hid ((true&&(E==0)&&decide (N≤lim))=false):=lH (by simp [*])
     go_wp2_with fail
     refine wp_region_held_drew (S:=Chg (·≠g2) w2) (by kernel_rfl) ((Chg.refl _ w2).drew) (fun hHeld=>?_)
     refine tkH 0 (v:=?_) rfl (by kernel_rfl) (fun _ _ _ h=>h) (by rfl) ?y1 hHeld ?_
     case y1=>intro wq hSw;go_simp<;>rfl
     try simp only [Act.put,sA,sB,sC]
     refine tkH 1 (v:=?_) rfl (by kernel_rfl) (fun _ _ _ h=>h) (by rfl) ?y4 hHeld ?_
     case y4=>intro wq hSw;go_simp<;>rfl
     try simp only [Act.put,sA,sB,sC]
     refine tkH 2 (v:=?_) rfl (by kernel_rfl) (fun _ _ _ h=>h) (by rfl) ?y7 hHeld ?_
     case y7=>intro wq hSw;(have cq:=Chg.cellv hSw p0 hgg;go_simp)<;>rfl
     try simp only [Act.put,sA,sB,sC]
     refine tkH 3 (v:=?_) rfl (by kernel_rfl) (fun _ _ _ h=>h) (by rfl) ?y10 hHeld ?_
     case y10=>intro wq hSw;go_simp<;>rfl
     try simp only [Act.put,sA,sB,sC]
     refine tkH 4 (v:=?_) rfl (by kernel_rfl) (fun _ _ _ h=>h) (by rfl) ?y13 hHeld ?_
     case y13=>intro wq hSw;go_simp<;>rfl
     try simp only [Act.put,sA,sB,sC]
     refine tkH 5 (v:=?_) rfl (by kernel_rfl) (fun _ _ _ h=>h) (by rfl) ?y16 hHeld ?_
     case y16=>intro wq hSw;go_simp<;>rfl
     try simp only [Act.put,sA,sB,sC]
     refine tkH 6 (v:=?_) rfl (by kernel_rfl) (fun _ _ _ h=>h) (by rfl) ?y19 hHeld ?_
     case y19=>intro wq hSw;(have cq:=Chg.cellv hSw p1 hgg;go_simp)<;>rfl
     try simp only [Act.put,sA,sB,sC]
     refine tkH 7 (v:=?_) rfl (by kernel_rfl) (fun _ _ _ h=>h) (by rfl) ?y22 hHeld ?_
     case y22=>intro wq hSw;go_simp<;>rfl
     try simp only [Act.put,sA,sB,sC]
     refine tkH 8 (v:=?_) rfl (by kernel_rfl) (fun _ _ _ h=>h) (by rfl) ?y25 hHeld ?_
     case y25=>intro wq hSw;go_simp<;>rfl
     try simp only [Act.put,sA,sB,sC]
     refine tkH 9 (v:=?_) rfl (by kernel_rfl) (fun _ _ _ h=>h) (by rfl) ?y28 hHeld ?_
     case y28=>intro wq hSw;go_simp<;>rfl
     try simp only [Act.put,sA,sB,sC]
     refine tkH 10 (v:=?_) rfl (by kernel_rfl) (fun _ _ _ h=>h) (by rfl) ?y31 hHeld ?_
     case y31=>intro wq hSw;go_simp<;>rfl
     try simp only [Act.put,sA,sB,sC]
     refine tkH 11 (v:=?_) rfl (by kernel_rfl) (fun _ _ _ h=>h) (by rfl) ?y34 hHeld ?_
     case y34=>intro wq hSw;go_simp<;>rfl
     try simp only [Act.put,sA,sB,sC]
     refine wpAnyH_take (i:=12) (oi:=⟨_,_,_,_,_,_⟩) (v:=undef) rfl (by kernel_rfl) (by kernel_rfl) (by kernel_rfl) (fun _ _ _ h=>h) (Or.inr ⟨by rfl,rfl⟩) (by assumption) ?_
     try simp only [Act.put,sA,sB,sC]
     refine wpAnyH_take (i:=13) (oi:=⟨_,_,_,_,_,_⟩) (v:=undef) rfl (by kernel_rfl) (by kernel_rfl) (by kernel_rfl) (fun _ _ _ h=>h) (Or.inr ⟨by rfl,rfl⟩) (by assumption) ?_
     try simp only [Act.put,sA,sB,sC]
     refine wpAnyH_take (i:=14) (oi:=⟨_,_,_,_,_,_⟩) (v:=undef) rfl (by kernel_rfl) (by kernel_rfl) (by kernel_rfl) (fun _ _ _ h=>h) (Or.inr ⟨by rfl,rfl⟩) (by assumption) ?_
     try simp only [Act.put,sA,sB,sC]
     refine tkH 15 (v:=?_) rfl (by kernel_rfl) (fun _ _ _ h=>h) (by rfl) ?y43 hHeld ?_
     case y43=>intro wq hSw;go_simp<;>rfl
     try simp only [Act.put,sA,sB,sC]
     refine tkH 16 (v:=?_) rfl (by kernel_rfl) (fun _ _ _ h=>h) (by rfl) ?y46 hHeld ?_
     case y46=>intro wq hSw;go_simp<;>rfl
     try simp only [Act.put,sA,sB,sC]
     refine tkH 17 (v:=?_) rfl (by kernel_rfl) (fun _ _ _ h=>h) (by rfl) ?y49 hHeld ?_
     case y49=>intro wq hSw;go_simp<;>rfl
     try simp only [Act.put,sA,sB,sC]
     refine rH 18 (by kernel_rfl) rfl fun K hK=>?_
     go_simp
     refine hK.out _ _ ((Chg.setCell (Chg.setCell hHeld _ (fun x hx=>hx)) _ (fun x hx=>hx))) (fun hHeld=>?_)
     clear hK K
     try simp only [Act.put,sA,sB,sC]
     refine wpAnyH_done (by kernel_rfl) ?_ _
     go_wp2_with fail
     refine bodyPost_ret (v:=.tuple #[.int .u64 N,.agg #[.slice (some ⟨x,o+K,none⟩) (n-K) (c-K),.bool false]]) (by simp [results,Tryz.results97,go_sem, *]) rfl ?_
     rw [← HT.out]
     simp only []
     rw [HB.out]
     have k9:=((kk.setNew (p:=⟨g2,0,none⟩) (.slice (some ⟨x,o+K,none⟩) (n-K) (c-K)) hgw).setNew (p:=⟨g2,1,none⟩) (.bool false) hgw).drew
     exact rd_done (sl_from (HS.out.nx k9) hk) (by omega) (by omega) (.inr ⟨_,_,rfl⟩) (fun x' o' hx'=>by cases hx'<;>exact ⟨_,rfl⟩) k9
set_option maxRecDepth 100000 in
set_option maxHeartbeats 4000000 in
theorem rint_p (a:Option Addr) (n c:Nat) (R:List UInt8) (ok:Bool) (w:World) (h:Sl 1 encB w a n R) (hn:n≤9223372036854775807) (hc:n≤c) (hm:c≤maxLen) (hf:Form a c) :
  Calls Tryz.prog 98 #[.agg #[.slice a n c,.bool ok]] w (RdPost (.int .i64 (intR R).1) (R.drop (intR R).2.1) (ok&&((intR R).2.2==0)) a w):=by
 have hlen:=h.len
 have hk:(intR R).2.1≤R.length:=intR_take R
 rw [hlen] at hk
 have k1:=Ex.new w (.cells #[.slice a n c,.bool ok] 174)
 have B1:=Blk.new w [.slice a n c,.bool ok] 174
 obtain ⟨w1,hw1⟩:∃ w1,w1=w.alloc (.cells #[.slice a n c,.bool ok] 174):=⟨_,rfl⟩
 obtain ⟨g1,hg1⟩:∃ g1,g1=w.heap.size:=⟨_,rfl⟩
 have B1:Blk w1 g1 [.slice a n c,.bool ok] 174:=by rw [hw1,hg1];exact B1
 rw [← hw1] at k1
 have k2:=Ex.new w1 (.cells #[.slice none 0 0,.bool false] 174)
 have B2:=Blk.new w1 [.slice none 0 0,.bool false] 174
 obtain ⟨w2,hw2⟩:∃ w2,w2=w1.alloc (.cells #[.slice none 0 0,.bool false] 174):=⟨_,rfl⟩
 have hz1:w1.heap.size=w.heap.size+1:=by rw [hw1];simp
 obtain ⟨g2,hg2⟩:∃ g2,g2=w.heap.size+1:=⟨_,rfl⟩
 have B2:Blk w2 g2 [.slice none 0 0,.bool false] 174:=by rw [hw2,hg2,← hz1];exact B2
 rw [← hw2] at k2
 have hgg:g1≠g2:=by omega
 have hgw:w.heap.size≤g2:=by omega
 replace B1:=B1.nx k2
 have kk:=k1.nx k2
 have H2:=h.nx kk
 have HW1:=lH hw1
 have HG1:=lH hg1
 have HW2:=lH hw2
 have HG2:=lH hg2
 have HF:=lH hf
 have HS:=lH h
 clear hw1 hg1 hw2 hg2 k1 k2 h hf hlen hz1
 have p0:=B1.cell 0 _ rfl
 have p1:=B1.cell 1 _ rfl
 have q0:=B2.cell 0 _ rfl
 have q1:=B2.cell 1 _ rfl
 have z0:=B2.free 0
 have z1:=B2.free 1
 have hgg1:¬ g1=g2:=hgg
 go_enter Tryz.func98,Tryz.ntmps98
 go_upto_region 1 with fail
 rw [← HG2.out,← HG1.out,← HW1.out,← HW2.out]
 go_wp2_with fail
 (with_reducible refine (int_p _ _ _ _ _ H2 hn).mono ?_)
 rintro e w3 ⟨rfl,rfl⟩
 obtain ⟨⟨N,K,E⟩,hT⟩:∃ T,T=intR R:=⟨_,rfl⟩
 rw [← hT] at hk ⊢
 have HT:=lH hT
 simp only at hk ⊢
 clear hT
 have hkI:(K:Int)≤(n:Int):=by omega
 have K0:(0:Int)≤(K:Int):=by omega
 have hkc:(K:Int)≤(c:Int):=by omega
 rcases HF.out with ⟨rfl,rfl⟩ | ⟨x,o,rfl⟩
 ·obtain rfl:n=0:=by omega
  obtain rfl:K=0:=by omega
  cases ok with
  | false =>
   have HB:Hid ((false&&(E==0))=false):=lH (by simp [*])
   go_wp2_with fail
   refine wp_region_held_drew (S:=Chg (·≠g2) w2) (by kernel_rfl) ((Chg.refl _ w2).drew) (fun hHeld=>?_)
   refine tkH 0 (v:=?_) rfl (by kernel_rfl) (fun _ _ _ h=>h) (by rfl) ?y1 hHeld ?_
   case y1=>intro wq hSw;go_simp<;>rfl
   try simp only [Act.put,sA,sB,sC]
   refine tkH 1 (v:=?_) rfl (by kernel_rfl) (fun _ _ _ h=>h) (by rfl) ?y4 hHeld ?_
   case y4=>intro wq hSw;go_simp<;>rfl
   try simp only [Act.put,sA,sB,sC]
   refine tkH 2 (v:=?_) rfl (by kernel_rfl) (fun _ _ _ h=>h) (by rfl) ?y7 hHeld ?_
   case y7=>intro wq hSw;(have cq:=Chg.cellv hSw p0 hgg;go_simp)<;>rfl
   try simp only [Act.put,sA,sB,sC]
   refine tkH 3 (v:=?_) rfl (by kernel_rfl) (fun _ _ _ h=>h) (by rfl) ?y10 hHeld ?_
   case y10=>intro wq hSw;go_simp<;>rfl
   try simp only [Act.put,sA,sB,sC]
   refine tkH 4 (v:=?_) rfl (by kernel_rfl) (fun _ _ _ h=>h) (by rfl) ?y13 hHeld ?_
   case y13=>intro wq hSw;go_simp<;>rfl
   try simp only [Act.put,sA,sB,sC]
   refine tkH 5 (v:=?_) rfl (by kernel_rfl) (fun _ _ _ h=>h) (by rfl) ?y16 hHeld ?_
   case y16=>intro wq hSw;go_simp<;>rfl
   try simp only [Act.put,sA,sB,sC]
   refine tkH 6 (v:=?_) rfl (by kernel_rfl) (fun _ _ _ h=>h) (by rfl) ?y19 hHeld ?_
   case y19=>intro wq hSw;(have cq:=Chg.cellv hSw p1 hgg;go_simp)<;>rfl
   try simp only [Act.put,sA,sB,sC]
   refine tkH 7 (v:=?_) rfl (by kernel_rfl) (fun _ _ _ h=>h) (by rfl) ?y22 hHeld ?_
   case y22=>intro wq hSw;go_simp<;>rfl
   try simp only [Act.put,sA,sB,sC]
   refine wpAnyH_take (i:=8) (oi:=⟨_,_,_,_,_,_⟩) (v:=undef) rfl (by kernel_rfl) (by kernel_rfl) (by kernel_rfl) (fun _ _ _ h=>h) (Or.inr ⟨by rfl,rfl⟩) (by assumption) ?_
   try simp only [Act.put,sA,sB,sC]
   refine wpAnyH_take (i:=9) (oi:=⟨_,_,_,_,_,_⟩) (v:=undef) rfl (by kernel_rfl) (by kernel_rfl) (by kernel_rfl) (fun _ _ _ h=>h) (Or.inr ⟨by rfl,rfl⟩) (by assumption) ?_
   try simp only [Act.put,sA,sB,sC]
   refine tkH 10 (v:=?_) rfl (by kernel_rfl) (fun _ _ _ h=>h) (by rfl) ?y29 hHeld ?_
   case y29=>intro wq hSw;go_simp<;>rfl
   try simp only [Act.put,sA,sB,sC]
   refine tkH 11 (v:=?_) rfl (by kernel_rfl) (fun _ _ _ h=>h) (by rfl) ?y32 hHeld ?_
   case y32=>intro wq hSw;go_simp<;>rfl
   try simp only [Act.put,sA,sB,sC]
   refine tkH 12 (v:=?_) rfl (by kernel_rfl) (fun _ _ _ h=>h) (by rfl) ?y35 hHeld ?_
   case y35=>intro wq hSw;go_simp<;>rfl
   try simp only [Act.put,sA,sB,sC]
   refine rH 13 (by kernel_rfl) rfl fun K hK=>?_
   go_simp
   refine hK.out _ _ ((Chg.setCell (Chg.setCell hHeld _ (fun x hx=>hx)) _ (fun x hx=>hx))) (fun hHeld=>?_)
   clear hK K
   try simp only [Act.put,sA,sB,sC]
   refine wpAnyH_done (by kernel_rfl) ?_ _
   go_wp2_with fail
   refine bodyPost_ret (v:=.tuple #[.int .i64 N,.agg #[.slice none (0) (0),.bool false]]) (by simp [results,Tryz.results98,go_sem, *]) rfl ?_
   rw [← HT.out]
   simp only []
   rw [HB.out]
   have k9:=((kk.setNew (p:=⟨g2,0,none⟩) (.slice none (0) (0)) hgw).setNew (p:=⟨g2,1,none⟩) (.bool false) hgw).drew
   exact rd_done (by rw [List.drop_zero];exact HS.out.nx k9) (by omega) (by omega) (.inl ⟨rfl,rfl⟩) (fun x' o' hx'=>by cases hx'<;>exact ⟨_,rfl⟩) k9
  | true =>
   by_cases hE:E=0
   ·subst hE
    have HB:Hid ((true&&((0:Nat)==0))=true):=lH (by simp [*])
    go_wp2_with fail
    refine wp_region_held_drew (S:=Chg (·≠g2) w2) (by kernel_rfl) ((Chg.refl _ w2).drew) (fun hHeld=>?_)
    refine tkH 0 (v:=?_) rfl (by kernel_rfl) (fun _ _ _ h=>h) (by rfl) ?y1 hHeld ?_
    case y1=>intro wq hSw;go_simp<;>rfl
    try simp only [Act.put,sA,sB,sC]
    refine tkH 1 (v:=?_) rfl (by kernel_rfl) (fun _ _ _ h=>h) (by rfl) ?y4 hHeld ?_
    case y4=>intro wq hSw;go_simp<;>rfl
    try simp only [Act.put,sA,sB,sC]
    refine tkH 2 (v:=?_) rfl (by kernel_rfl) (fun _ _ _ h=>h) (by rfl) ?y7 hHeld ?_
    case y7=>intro wq hSw;(have cq:=Chg.cellv hSw p0 hgg;go_simp)<;>rfl
    try simp only [Act.put,sA,sB,sC]
    refine tkH 3 (v:=?_) rfl (by kernel_rfl) (fun _ _ _ h=>h) (by rfl) ?y10 hHeld ?_
    case y10=>intro wq hSw;go_simp<;>rfl
    try simp only [Act.put,sA,sB,sC]
    refine tkH 4 (v:=?_) rfl (by kernel_rfl) (fun _ _ _ h=>h) (by rfl) ?y13 hHeld ?_
    case y13=>intro wq hSw;go_simp<;>rfl
    try simp only [Act.put,sA,sB,sC]
    refine tkH 5 (v:=?_) rfl (by kernel_rfl) (fun _ _ _ h=>h) (by rfl) ?y16 hHeld ?_
    case y16=>intro wq hSw;go_simp<;>rfl
    try simp only [Act.put,sA,sB,sC]
    refine tkH 6 (v:=?_) rfl (by kernel_rfl) (fun _ _ _ h=>h) (by rfl) ?y19 hHeld ?_
    case y19=>intro wq hSw;(have cq:=Chg.cellv hSw p1 hgg;go_simp)<;>rfl
    try simp only [Act.put,sA,sB,sC]
    refine tkH 7 (v:=?_) rfl (by kernel_rfl) (fun _ _ _ h=>h) (by rfl) ?y22 hHeld ?_
    case y22=>intro wq hSw;go_simp<;>rfl
    try simp only [Act.put,sA,sB,sC]
    refine tkH 8 (v:=?_) rfl (by kernel_rfl) (fun _ _ _ h=>h) (by rfl) ?y25 hHeld ?_
    case y25=>intro wq hSw;go_simp<;>rfl
    try simp only [Act.put,sA,sB,sC]
    refine tkH 9 (v:=?_) rfl (by kernel_rfl) (fun _ _ _ h=>h) (by rfl) ?y28 hHeld ?_
    case y28=>intro wq hSw;go_simp<;>rfl
    try simp only [Act.put,sA,sB,sC]
    refine tkH 10 (v:=?_) rfl (by kernel_rfl) (fun _ _ _ h=>h) (by rfl) ?y31 hHeld ?_
    case y31=>intro wq hSw;go_simp<;>rfl
    try simp only [Act.put,sA,sB,sC]
    refine tkH 11 (v:=?_) rfl (by kernel_rfl) (fun _ _ _ h=>h) (by rfl) ?y34 hHeld ?_
    case y34=>intro wq hSw;go_simp<;>rfl
    try simp only [Act.put,sA,sB,sC]
    refine tkH 12 (v:=?_) rfl (by kernel_rfl) (fun _ _ _ h=>h) (by rfl) ?y37 hHeld ?_
    case y37=>intro wq hSw;go_simp<;>rfl
    try simp only [Act.put,sA,sB,sC]
    refine rH 13 (by kernel_rfl) rfl fun K hK=>?_
    go_simp
    refine hK.out _ _ ((Chg.setCell (Chg.setCell hHeld _ (fun x hx=>hx)) _ (fun x hx=>hx))) (fun hHeld=>?_)
    clear hK K
    try simp only [Act.put,sA,sB,sC]
    refine wpAnyH_done (by kernel_rfl) ?_ _
    go_wp2_with fail
    refine bodyPost_ret (v:=.tuple #[.int .i64 N,.agg #[.slice none (0) (0),.bool true]]) (by simp [results,Tryz.results98,go_sem, *]) rfl ?_
    rw [← HT.out]
    simp only []
    rw [HB.out]
    have k9:=((kk.setNew (p:=⟨g2,0,none⟩) (.slice none (0) (0)) hgw).setNew (p:=⟨g2,1,none⟩) (.bool true) hgw).drew
    exact rd_done (by rw [List.drop_zero];exact HS.out.nx k9) (by omega) (by omega) (.inl ⟨rfl,rfl⟩) (fun x' o' hx'=>by cases hx'<;>exact ⟨_,rfl⟩) k9
   ·have hEI:((E:Int)==0)=false:=beq_eq_false_iff_ne.2 (by omega)
    have HB:Hid ((true&&(E==0))=false):=lH (by simp [*])
    go_wp2_with fail
    refine wp_region_held_drew (S:=Chg (·≠g2) w2) (by kernel_rfl) ((Chg.refl _ w2).drew) (fun hHeld=>?_)
    refine tkH 0 (v:=?_) rfl (by kernel_rfl) (fun _ _ _ h=>h) (by rfl) ?y1 hHeld ?_
    case y1=>intro wq hSw;go_simp<;>rfl
    try simp only [Act.put,sA,sB,sC]
    refine tkH 1 (v:=?_) rfl (by kernel_rfl) (fun _ _ _ h=>h) (by rfl) ?y4 hHeld ?_
    case y4=>intro wq hSw;go_simp<;>rfl
    try simp only [Act.put,sA,sB,sC]
    refine tkH 2 (v:=?_) rfl (by kernel_rfl) (fun _ _ _ h=>h) (by rfl) ?y7 hHeld ?_
    case y7=>intro wq hSw;(have cq:=Chg.cellv hSw p0 hgg;go_simp)<;>rfl
    try simp only [Act.put,sA,sB,sC]
    refine tkH 3 (v:=?_) rfl (by kernel_rfl) (fun _ _ _ h=>h) (by rfl) ?y10 hHeld ?_
    case y10=>intro wq hSw;go_simp<;>rfl
    try simp only [Act.put,sA,sB,sC]
    refine tkH 4 (v:=?_) rfl (by kernel_rfl) (fun _ _ _ h=>h) (by rfl) ?y13 hHeld ?_
    case y13=>intro wq hSw;go_simp<;>rfl
    try simp only [Act.put,sA,sB,sC]
    refine tkH 5 (v:=?_) rfl (by kernel_rfl) (fun _ _ _ h=>h) (by rfl) ?y16 hHeld ?_
    case y16=>intro wq hSw;go_simp<;>rfl
    try simp only [Act.put,sA,sB,sC]
    refine tkH 6 (v:=?_) rfl (by kernel_rfl) (fun _ _ _ h=>h) (by rfl) ?y19 hHeld ?_
    case y19=>intro wq hSw;(have cq:=Chg.cellv hSw p1 hgg;go_simp)<;>rfl
    try simp only [Act.put,sA,sB,sC]
    refine tkH 7 (v:=?_) rfl (by kernel_rfl) (fun _ _ _ h=>h) (by rfl) ?y22 hHeld ?_
    case y22=>intro wq hSw;go_simp<;>rfl
    try simp only [Act.put,sA,sB,sC]
    refine tkH 8 (v:=?_) rfl (by kernel_rfl) (fun _ _ _ h=>h) (by rfl) ?y25 hHeld ?_
    case y25=>intro wq hSw;go_simp<;>rfl
    try simp only [Act.put,sA,sB,sC]
    refine tkH 9 (v:=?_) rfl (by kernel_rfl) (fun _ _ _ h=>h) (by rfl) ?y28 hHeld ?_
    case y28=>intro wq hSw;go_simp<;>rfl
    try simp only [Act.put,sA,sB,sC]
    refine tkH 10 (v:=?_) rfl (by kernel_rfl) (fun _ _ _ h=>h) (by rfl) ?y31 hHeld ?_
    case y31=>intro wq hSw;go_simp<;>rfl
    try simp only [Act.put,sA,sB,sC]
    refine tkH 11 (v:=?_) rfl (by kernel_rfl) (fun _ _ _ h=>h) (by rfl) ?y34 hHeld ?_
    case y34=>intro wq hSw;go_simp<;>rfl
    try simp only [Act.put,sA,sB,sC]
    refine tkH 12 (v:=?_) rfl (by kernel_rfl) (fun _ _ _ h=>h) (by rfl) ?y37 hHeld ?_
    case y37=>intro wq hSw;go_simp<;>rfl
    try simp only [Act.put,sA,sB,sC]
    refine rH 13 (by kernel_rfl) rfl fun K hK=>?_
    go_simp
    refine hK.out _ _ ((Chg.setCell (Chg.setCell hHeld _ (fun x hx=>hx)) _ (fun x hx=>hx))) (fun hHeld=>?_)
    clear hK K
    try simp only [Act.put,sA,sB,sC]
    refine wpAnyH_done (by kernel_rfl) ?_ _
    go_wp2_with fail
    refine bodyPost_ret (v:=.tuple #[.int .i64 N,.agg #[.slice none (0) (0),.bool false]]) (by simp [results,Tryz.results98,go_sem, *]) rfl ?_
    rw [← HT.out]
    simp only []
    rw [HB.out]
    have k9:=((kk.setNew (p:=⟨g2,0,none⟩) (.slice none (0) (0)) hgw).setNew (p:=⟨g2,1,none⟩) (.bool false) hgw).drew
    exact rd_done (by rw [List.drop_zero];exact HS.out.nx k9) (by omega) (by omega) (.inl ⟨rfl,rfl⟩) (fun x' o' hx'=>by cases hx'<;>exact ⟨_,rfl⟩) k9
 ·by_cases hcK:c=K
  ·obtain rfl:n=K:=by omega
   obtain rfl:c=n:=by omega
   cases ok with
   | false =>
    have HB:Hid ((false&&(E==0))=false):=lH (by simp [*])
    go_wp2_with fail
    refine wp_region_held_drew (S:=Chg (·≠g2) w2) (by kernel_rfl) ((Chg.refl _ w2).drew) (fun hHeld=>?_)
    refine tkH 0 (v:=?_) rfl (by kernel_rfl) (fun _ _ _ h=>h) (by rfl) ?y1 hHeld ?_
    case y1=>intro wq hSw;go_simp<;>rfl
    try simp only [Act.put,sA,sB,sC]
    refine tkH 1 (v:=?_) rfl (by kernel_rfl) (fun _ _ _ h=>h) (by rfl) ?y4 hHeld ?_
    case y4=>intro wq hSw;go_simp<;>rfl
    try simp only [Act.put,sA,sB,sC]
    refine tkH 2 (v:=?_) rfl (by kernel_rfl) (fun _ _ _ h=>h) (by rfl) ?y7 hHeld ?_
    case y7=>intro wq hSw;(have cq:=Chg.cellv hSw p0 hgg;go_simp)<;>rfl
    try simp only [Act.put,sA,sB,sC]
    refine tkH 3 (v:=?_) rfl (by kernel_rfl) (fun _ _ _ h=>h) (by rfl) ?y10 hHeld ?_
    case y10=>intro wq hSw;go_simp<;>rfl
    try simp only [Act.put,sA,sB,sC]
    refine tkH 4 (v:=?_) rfl (by kernel_rfl) (fun _ _ _ h=>h) (by rfl) ?y13 hHeld ?_
    case y13=>intro wq hSw;go_simp<;>rfl
    try simp only [Act.put,sA,sB,sC]
    refine tkH 5 (v:=?_) rfl (by kernel_rfl) (fun _ _ _ h=>h) (by rfl) ?y16 hHeld ?_
    case y16=>intro wq hSw;go_simp<;>rfl
    try simp only [Act.put,sA,sB,sC]
    refine tkH 6 (v:=?_) rfl (by kernel_rfl) (fun _ _ _ h=>h) (by rfl) ?y19 hHeld ?_
    case y19=>intro wq hSw;(have cq:=Chg.cellv hSw p1 hgg;go_simp)<;>rfl
    try simp only [Act.put,sA,sB,sC]
    refine tkH 7 (v:=?_) rfl (by kernel_rfl) (fun _ _ _ h=>h) (by rfl) ?y22 hHeld ?_
    case y22=>intro wq hSw;go_simp<;>rfl
    try simp only [Act.put,sA,sB,sC]
    refine wpAnyH_take (i:=8) (oi:=⟨_,_,_,_,_,_⟩) (v:=undef) rfl (by kernel_rfl) (by kernel_rfl) (by kernel_rfl) (fun _ _ _ h=>h) (Or.inr ⟨by rfl,rfl⟩) (by assumption) ?_
    try simp only [Act.put,sA,sB,sC]
    refine wpAnyH_take (i:=9) (oi:=⟨_,_,_,_,_,_⟩) (v:=undef) rfl (by kernel_rfl) (by kernel_rfl) (by kernel_rfl) (fun _ _ _ h=>h) (Or.inr ⟨by rfl,rfl⟩) (by assumption) ?_
    try simp only [Act.put,sA,sB,sC]
    refine tkH 10 (v:=?_) rfl (by kernel_rfl) (fun _ _ _ h=>h) (by rfl) ?y29 hHeld ?_
    case y29=>intro wq hSw;go_simp<;>rfl
    try simp only [Act.put,sA,sB,sC]
    refine tkH 11 (v:=?_) rfl (by kernel_rfl) (fun _ _ _ h=>h) (by rfl) ?y32 hHeld ?_
    case y32=>intro wq hSw;go_simp<;>rfl
    try simp only [Act.put,sA,sB,sC]
    refine tkH 12 (v:=?_) rfl (by kernel_rfl) (fun _ _ _ h=>h) (by rfl) ?y35 hHeld ?_
    case y35=>intro wq hSw;go_simp<;>rfl
    try simp only [Act.put,sA,sB,sC]
    refine rH 13 (by kernel_rfl) rfl fun K hK=>?_
    go_simp
    refine hK.out _ _ ((Chg.setCell (Chg.setCell hHeld _ (fun x hx=>hx)) _ (fun x hx=>hx))) (fun hHeld=>?_)
    clear hK K
    try simp only [Act.put,sA,sB,sC]
    refine wpAnyH_done (by kernel_rfl) ?_ _
    go_wp2_with fail
    refine bodyPost_ret (v:=.tuple #[.int .i64 N,.agg #[.slice (some ⟨x,o,none⟩) (0) (0),.bool false]]) (by simp [results,Tryz.results98,go_sem, *]) rfl ?_
    rw [← HT.out]
    simp only []
    rw [HB.out]
    have k9:=((kk.setNew (p:=⟨g2,0,none⟩) (.slice (some ⟨x,o,none⟩) (0) (0)) hgw).setNew (p:=⟨g2,1,none⟩) (.bool false) hgw).drew
    exact rd_done (sl_end (HS.out.nx k9) (Nat.le_refl _)) (by omega) (by omega) (.inr ⟨_,_,rfl⟩) (fun x' o' hx'=>by cases hx'<;>exact ⟨_,rfl⟩) k9
   | true =>
    by_cases hE:E=0
    ·subst hE
     have HB:Hid ((true&&((0:Nat)==0))=true):=lH (by simp [*])
     go_wp2_with fail
     refine wp_region_held_drew (S:=Chg (·≠g2) w2) (by kernel_rfl) ((Chg.refl _ w2).drew) (fun hHeld=>?_)
     refine tkH 0 (v:=?_) rfl (by kernel_rfl) (fun _ _ _ h=>h) (by rfl) ?y1 hHeld ?_
     case y1=>intro wq hSw;go_simp<;>rfl
     try simp only [Act.put,sA,sB,sC]
     refine tkH 1 (v:=?_) rfl (by kernel_rfl) (fun _ _ _ h=>h) (by rfl) ?y4 hHeld ?_
     case y4=>intro wq hSw;go_simp<;>rfl
     try simp only [Act.put,sA,sB,sC]
     refine tkH 2 (v:=?_) rfl (by kernel_rfl) (fun _ _ _ h=>h) (by rfl) ?y7 hHeld ?_
     case y7=>intro wq hSw;(have cq:=Chg.cellv hSw p0 hgg;go_simp)<;>rfl
     try simp only [Act.put,sA,sB,sC]
     refine tkH 3 (v:=?_) rfl (by kernel_rfl) (fun _ _ _ h=>h) (by rfl) ?y10 hHeld ?_
     case y10=>intro wq hSw;go_simp<;>rfl
     try simp only [Act.put,sA,sB,sC]
     refine tkH 4 (v:=?_) rfl (by kernel_rfl) (fun _ _ _ h=>h) (by rfl) ?y13 hHeld ?_
     case y13=>intro wq hSw;go_simp<;>rfl
     try simp only [Act.put,sA,sB,sC]
     refine tkH 5 (v:=?_) rfl (by kernel_rfl) (fun _ _ _ h=>h) (by rfl) ?y16 hHeld ?_
     case y16=>intro wq hSw;go_simp<;>rfl
     try simp only [Act.put,sA,sB,sC]
     refine tkH 6 (v:=?_) rfl (by kernel_rfl) (fun _ _ _ h=>h) (by rfl) ?y19 hHeld ?_
     case y19=>intro wq hSw;(have cq:=Chg.cellv hSw p1 hgg;go_simp)<;>rfl
     try simp only [Act.put,sA,sB,sC]
     refine tkH 7 (v:=?_) rfl (by kernel_rfl) (fun _ _ _ h=>h) (by rfl) ?y22 hHeld ?_
     case y22=>intro wq hSw;go_simp<;>rfl
     try simp only [Act.put,sA,sB,sC]
     refine tkH 8 (v:=?_) rfl (by kernel_rfl) (fun _ _ _ h=>h) (by rfl) ?y25 hHeld ?_
     case y25=>intro wq hSw;go_simp<;>rfl
     try simp only [Act.put,sA,sB,sC]
     refine tkH 9 (v:=?_) rfl (by kernel_rfl) (fun _ _ _ h=>h) (by rfl) ?y28 hHeld ?_
     case y28=>intro wq hSw;go_simp<;>rfl
     try simp only [Act.put,sA,sB,sC]
     refine tkH 10 (v:=?_) rfl (by kernel_rfl) (fun _ _ _ h=>h) (by rfl) ?y31 hHeld ?_
     case y31=>intro wq hSw;go_simp<;>rfl
     try simp only [Act.put,sA,sB,sC]
     refine tkH 11 (v:=?_) rfl (by kernel_rfl) (fun _ _ _ h=>h) (by rfl) ?y34 hHeld ?_
     case y34=>intro wq hSw;go_simp<;>rfl
     try simp only [Act.put,sA,sB,sC]
     refine tkH 12 (v:=?_) rfl (by kernel_rfl) (fun _ _ _ h=>h) (by rfl) ?y37 hHeld ?_
     case y37=>intro wq hSw;go_simp<;>rfl
     try simp only [Act.put,sA,sB,sC]
     refine rH 13 (by kernel_rfl) rfl fun K hK=>?_
     go_simp
     refine hK.out _ _ ((Chg.setCell (Chg.setCell hHeld _ (fun x hx=>hx)) _ (fun x hx=>hx))) (fun hHeld=>?_)
     clear hK K
     try simp only [Act.put,sA,sB,sC]
     refine wpAnyH_done (by kernel_rfl) ?_ _
     go_wp2_with fail
     refine bodyPost_ret (v:=.tuple #[.int .i64 N,.agg #[.slice (some ⟨x,o,none⟩) (0) (0),.bool true]]) (by simp [results,Tryz.results98,go_sem, *]) rfl ?_
     rw [← HT.out]
     simp only []
     rw [HB.out]
     have k9:=((kk.setNew (p:=⟨g2,0,none⟩) (.slice (some ⟨x,o,none⟩) (0) (0)) hgw).setNew (p:=⟨g2,1,none⟩) (.bool true) hgw).drew
     exact rd_done (sl_end (HS.out.nx k9) (Nat.le_refl _)) (by omega) (by omega) (.inr ⟨_,_,rfl⟩) (fun x' o' hx'=>by cases hx'<;>exact ⟨_,rfl⟩) k9
    ·have hEI:((E:Int)==0)=false:=beq_eq_false_iff_ne.2 (by omega)
     have HB:Hid ((true&&(E==0))=false):=lH (by simp [*])
     go_wp2_with fail
     refine wp_region_held_drew (S:=Chg (·≠g2) w2) (by kernel_rfl) ((Chg.refl _ w2).drew) (fun hHeld=>?_)
     refine tkH 0 (v:=?_) rfl (by kernel_rfl) (fun _ _ _ h=>h) (by rfl) ?y1 hHeld ?_
     case y1=>intro wq hSw;go_simp<;>rfl
     try simp only [Act.put,sA,sB,sC]
     refine tkH 1 (v:=?_) rfl (by kernel_rfl) (fun _ _ _ h=>h) (by rfl) ?y4 hHeld ?_
     case y4=>intro wq hSw;go_simp<;>rfl
     try simp only [Act.put,sA,sB,sC]
     refine tkH 2 (v:=?_) rfl (by kernel_rfl) (fun _ _ _ h=>h) (by rfl) ?y7 hHeld ?_
     case y7=>intro wq hSw;(have cq:=Chg.cellv hSw p0 hgg;go_simp)<;>rfl
     try simp only [Act.put,sA,sB,sC]
     refine tkH 3 (v:=?_) rfl (by kernel_rfl) (fun _ _ _ h=>h) (by rfl) ?y10 hHeld ?_
     case y10=>intro wq hSw;go_simp<;>rfl
     try simp only [Act.put,sA,sB,sC]
     refine tkH 4 (v:=?_) rfl (by kernel_rfl) (fun _ _ _ h=>h) (by rfl) ?y13 hHeld ?_
     case y13=>intro wq hSw;go_simp<;>rfl
     try simp only [Act.put,sA,sB,sC]
     refine tkH 5 (v:=?_) rfl (by kernel_rfl) (fun _ _ _ h=>h) (by rfl) ?y16 hHeld ?_
     case y16=>intro wq hSw;go_simp<;>rfl
     try simp only [Act.put,sA,sB,sC]
     refine tkH 6 (v:=?_) rfl (by kernel_rfl) (fun _ _ _ h=>h) (by rfl) ?y19 hHeld ?_
     case y19=>intro wq hSw;(have cq:=Chg.cellv hSw p1 hgg;go_simp)<;>rfl
     try simp only [Act.put,sA,sB,sC]
     refine tkH 7 (v:=?_) rfl (by kernel_rfl) (fun _ _ _ h=>h) (by rfl) ?y22 hHeld ?_
     case y22=>intro wq hSw;go_simp<;>rfl
     try simp only [Act.put,sA,sB,sC]
     refine tkH 8 (v:=?_) rfl (by kernel_rfl) (fun _ _ _ h=>h) (by rfl) ?y25 hHeld ?_
     case y25=>intro wq hSw;go_simp<;>rfl
     try simp only [Act.put,sA,sB,sC]
     refine tkH 9 (v:=?_) rfl (by kernel_rfl) (fun _ _ _ h=>h) (by rfl) ?y28 hHeld ?_
     case y28=>intro wq hSw;go_simp<;>rfl
     try simp only [Act.put,sA,sB,sC]
     refine tkH 10 (v:=?_) rfl (by kernel_rfl) (fun _ _ _ h=>h) (by rfl) ?y31 hHeld ?_
     case y31=>intro wq hSw;go_simp<;>rfl
     try simp only [Act.put,sA,sB,sC]
     refine tkH 11 (v:=?_) rfl (by kernel_rfl) (fun _ _ _ h=>h) (by rfl) ?y34 hHeld ?_
     case y34=>intro wq hSw;go_simp<;>rfl
     try simp only [Act.put,sA,sB,sC]
     refine tkH 12 (v:=?_) rfl (by kernel_rfl) (fun _ _ _ h=>h) (by rfl) ?y37 hHeld ?_
     case y37=>intro wq hSw;go_simp<;>rfl
     try simp only [Act.put,sA,sB,sC]
     refine rH 13 (by kernel_rfl) rfl fun K hK=>?_
     go_simp
     refine hK.out _ _ ((Chg.setCell (Chg.setCell hHeld _ (fun x hx=>hx)) _ (fun x hx=>hx))) (fun hHeld=>?_)
     clear hK K
     try simp only [Act.put,sA,sB,sC]
     refine wpAnyH_done (by kernel_rfl) ?_ _
     go_wp2_with fail
     refine bodyPost_ret (v:=.tuple #[.int .i64 N,.agg #[.slice (some ⟨x,o,none⟩) (0) (0),.bool false]]) (by simp [results,Tryz.results98,go_sem, *]) rfl ?_
     rw [← HT.out]
     simp only []
     rw [HB.out]
     have k9:=((kk.setNew (p:=⟨g2,0,none⟩) (.slice (some ⟨x,o,none⟩) (0) (0)) hgw).setNew (p:=⟨g2,1,none⟩) (.bool false) hgw).drew
     exact rd_done (sl_end (HS.out.nx k9) (Nat.le_refl _)) (by omega) (by omega) (.inr ⟨_,_,rfl⟩) (fun x' o' hx'=>by cases hx'<;>exact ⟨_,rfl⟩) k9
  ·have hcK':¬ c=K:=hcK
   cases ok with
   | false =>
    have HB:Hid ((false&&(E==0))=false):=lH (by simp [*])
    go_wp2_with fail
    refine wp_region_held_drew (S:=Chg (·≠g2) w2) (by kernel_rfl) ((Chg.refl _ w2).drew) (fun hHeld=>?_)
    refine tkH 0 (v:=?_) rfl (by kernel_rfl) (fun _ _ _ h=>h) (by rfl) ?y1 hHeld ?_
    case y1=>intro wq hSw;go_simp<;>rfl
    try simp only [Act.put,sA,sB,sC]
    refine tkH 1 (v:=?_) rfl (by kernel_rfl) (fun _ _ _ h=>h) (by rfl) ?y4 hHeld ?_
    case y4=>intro wq hSw;go_simp<;>rfl
    try simp only [Act.put,sA,sB,sC]
    refine tkH 2 (v:=?_) rfl (by kernel_rfl) (fun _ _ _ h=>h) (by rfl) ?y7 hHeld ?_
    case y7=>intro wq hSw;(have cq:=Chg.cellv hSw p0 hgg;go_simp)<;>rfl
    try simp only [Act.put,sA,sB,sC]
    refine tkH 3 (v:=?_) rfl (by kernel_rfl) (fun _ _ _ h=>h) (by rfl) ?y10 hHeld ?_
    case y10=>intro wq hSw;go_simp<;>rfl
    try simp only [Act.put,sA,sB,sC]
    refine tkH 4 (v:=?_) rfl (by kernel_rfl) (fun _ _ _ h=>h) (by rfl) ?y13 hHeld ?_
    case y13=>intro wq hSw;go_simp<;>rfl
    try simp only [Act.put,sA,sB,sC]
    refine tkH 5 (v:=?_) rfl (by kernel_rfl) (fun _ _ _ h=>h) (by rfl) ?y16 hHeld ?_
    case y16=>intro wq hSw;go_simp<;>rfl
    try simp only [Act.put,sA,sB,sC]
    refine tkH 6 (v:=?_) rfl (by kernel_rfl) (fun _ _ _ h=>h) (by rfl) ?y19 hHeld ?_
    case y19=>intro wq hSw;(have cq:=Chg.cellv hSw p1 hgg;go_simp)<;>rfl
    try simp only [Act.put,sA,sB,sC]
    refine tkH 7 (v:=?_) rfl (by kernel_rfl) (fun _ _ _ h=>h) (by rfl) ?y22 hHeld ?_
    case y22=>intro wq hSw;go_simp<;>rfl
    try simp only [Act.put,sA,sB,sC]
    refine wpAnyH_take (i:=8) (oi:=⟨_,_,_,_,_,_⟩) (v:=undef) rfl (by kernel_rfl) (by kernel_rfl) (by kernel_rfl) (fun _ _ _ h=>h) (Or.inr ⟨by rfl,rfl⟩) (by assumption) ?_
    try simp only [Act.put,sA,sB,sC]
    refine wpAnyH_take (i:=9) (oi:=⟨_,_,_,_,_,_⟩) (v:=undef) rfl (by kernel_rfl) (by kernel_rfl) (by kernel_rfl) (fun _ _ _ h=>h) (Or.inr ⟨by rfl,rfl⟩) (by assumption) ?_
    try simp only [Act.put,sA,sB,sC]
    refine tkH 10 (v:=?_) rfl (by kernel_rfl) (fun _ _ _ h=>h) (by rfl) ?y29 hHeld ?_
    case y29=>intro wq hSw;go_simp<;>rfl
    try simp only [Act.put,sA,sB,sC]
    refine tkH 11 (v:=?_) rfl (by kernel_rfl) (fun _ _ _ h=>h) (by rfl) ?y32 hHeld ?_
    case y32=>intro wq hSw;go_simp<;>rfl
    try simp only [Act.put,sA,sB,sC]
    refine tkH 12 (v:=?_) rfl (by kernel_rfl) (fun _ _ _ h=>h) (by rfl) ?y35 hHeld ?_
    case y35=>intro wq hSw;go_simp<;>rfl
    try simp only [Act.put,sA,sB,sC]
    refine rH 13 (by kernel_rfl) rfl fun K hK=>?_
    go_simp
    refine hK.out _ _ ((Chg.setCell (Chg.setCell hHeld _ (fun x hx=>hx)) _ (fun x hx=>hx))) (fun hHeld=>?_)
    clear hK K
    try simp only [Act.put,sA,sB,sC]
    refine wpAnyH_done (by kernel_rfl) ?_ _
    go_wp2_with fail
    refine bodyPost_ret (v:=.tuple #[.int .i64 N,.agg #[.slice (some ⟨x,o+K,none⟩) (n-K) (c-K),.bool false]]) (by simp [results,Tryz.results98,go_sem, *]) rfl ?_
    rw [← HT.out]
    simp only []
    rw [HB.out]
    have k9:=((kk.setNew (p:=⟨g2,0,none⟩) (.slice (some ⟨x,o+K,none⟩) (n-K) (c-K)) hgw).setNew (p:=⟨g2,1,none⟩) (.bool false) hgw).drew
    exact rd_done (sl_from (HS.out.nx k9) hk) (by omega) (by omega) (.inr ⟨_,_,rfl⟩) (fun x' o' hx'=>by cases hx'<;>exact ⟨_,rfl⟩) k9
   | true =>
    by_cases hE:E=0
    ·subst hE
     have HB:Hid ((true&&((0:Nat)==0))=true):=lH (by simp [*])
     go_wp2_with fail
     refine wp_region_held_drew (S:=Chg (·≠g2) w2) (by kernel_rfl) ((Chg.refl _ w2).drew) (fun hHeld=>?_)
     refine tkH 0 (v:=?_) rfl (by kernel_rfl) (fun _ _ _ h=>h) (by rfl) ?y1 hHeld ?_
     case y1=>intro wq hSw;go_simp<;>rfl
     try simp only [Act.put,sA,sB,sC]
     refine tkH 1 (v:=?_) rfl (by kernel_rfl) (fun _ _ _ h=>h) (by rfl) ?y4 hHeld ?_
     case y4=>intro wq hSw;go_simp<;>rfl
     try simp only [Act.put,sA,sB,sC]
     refine tkH 2 (v:=?_) rfl (by kernel_rfl) (fun _ _ _ h=>h) (by rfl) ?y7 hHeld ?_
     case y7=>intro wq hSw;(have cq:=Chg.cellv hSw p0 hgg;go_simp)<;>rfl
     try simp only [Act.put,sA,sB,sC]
     refine tkH 3 (v:=?_) rfl (by kernel_rfl) (fun _ _ _ h=>h) (by rfl) ?y10 hHeld ?_
     case y10=>intro wq hSw;go_simp<;>rfl
     try simp only [Act.put,sA,sB,sC]
     refine tkH 4 (v:=?_) rfl (by kernel_rfl) (fun _ _ _ h=>h) (by rfl) ?y13 hHeld ?_
     case y13=>intro wq hSw;go_simp<;>rfl
     try simp only [Act.put,sA,sB,sC]
     refine tkH 5 (v:=?_) rfl (by kernel_rfl) (fun _ _ _ h=>h) (by rfl) ?y16 hHeld ?_
     case y16=>intro wq hSw;go_simp<;>rfl
     try simp only [Act.put,sA,sB,sC]
     refine tkH 6 (v:=?_) rfl (by kernel_rfl) (fun _ _ _ h=>h) (by rfl) ?y19 hHeld ?_
     case y19=>intro wq hSw;(have cq:=Chg.cellv hSw p1 hgg;go_simp)<;>rfl
     try simp only [Act.put,sA,sB,sC]
     refine tkH 7 (v:=?_) rfl (by kernel_rfl) (fun _ _ _ h=>h) (by rfl) ?y22 hHeld ?_
     case y22=>intro wq hSw;go_simp<;>rfl
     try simp only [Act.put,sA,sB,sC]
     refine tkH 8 (v:=?_) rfl (by kernel_rfl) (fun _ _ _ h=>h) (by rfl) ?y25 hHeld ?_
     case y25=>intro wq hSw;go_simp<;>rfl
     try simp only [Act.put,sA,sB,sC]
     refine tkH 9 (v:=?_) rfl (by kernel_rfl) (fun _ _ _ h=>h) (by rfl) ?y28 hHeld ?_
     case y28=>intro wq hSw;go_simp<;>rfl
     try simp only [Act.put,sA,sB,sC]
     refine tkH 10 (v:=?_) rfl (by kernel_rfl) (fun _ _ _ h=>h) (by rfl) ?y31 hHeld ?_
     case y31=>intro wq hSw;go_simp<;>rfl
     try simp only [Act.put,sA,sB,sC]
     refine tkH 11 (v:=?_) rfl (by kernel_rfl) (fun _ _ _ h=>h) (by rfl) ?y34 hHeld ?_
     case y34=>intro wq hSw;go_simp<;>rfl
     try simp only [Act.put,sA,sB,sC]
     refine tkH 12 (v:=?_) rfl (by kernel_rfl) (fun _ _ _ h=>h) (by rfl) ?y37 hHeld ?_
     case y37=>intro wq hSw;go_simp<;>rfl
     try simp only [Act.put,sA,sB,sC]
     refine rH 13 (by kernel_rfl) rfl fun K hK=>?_
     go_simp
     refine hK.out _ _ ((Chg.setCell (Chg.setCell hHeld _ (fun x hx=>hx)) _ (fun x hx=>hx))) (fun hHeld=>?_)
     clear hK K
     try simp only [Act.put,sA,sB,sC]
     refine wpAnyH_done (by kernel_rfl) ?_ _
     go_wp2_with fail
     refine bodyPost_ret (v:=.tuple #[.int .i64 N,.agg #[.slice (some ⟨x,o+K,none⟩) (n-K) (c-K),.bool true]]) (by simp [results,Tryz.results98,go_sem, *]) rfl ?_
     rw [← HT.out]
     simp only []
     rw [HB.out]
     have k9:=((kk.setNew (p:=⟨g2,0,none⟩) (.slice (some ⟨x,o+K,none⟩) (n-K) (c-K)) hgw).setNew (p:=⟨g2,1,none⟩) (.bool true) hgw).drew
     exact rd_done (sl_from (HS.out.nx k9) hk) (by omega) (by omega) (.inr ⟨_,_,rfl⟩) (fun x' o' hx'=>by cases hx'<;>exact ⟨_,rfl⟩) k9
    ·have hEI:((E:Int)==0)=false:=beq_eq_false_iff_ne.2 (by omega)
     have HB:Hid ((true&&(E==0))=false):=lH (by simp [*])
     go_wp2_with fail
     refine wp_region_held_drew (S:=Chg (·≠g2) w2) (by kernel_rfl) ((Chg.refl _ w2).drew) (fun hHeld=>?_)
     refine tkH 0 (v:=?_) rfl (by kernel_rfl) (fun _ _ _ h=>h) (by rfl) ?y1 hHeld ?_
     case y1=>intro wq hSw;go_simp<;>rfl
     try simp only [Act.put,sA,sB,sC]
     refine tkH 1 (v:=?_) rfl (by kernel_rfl) (fun _ _ _ h=>h) (by rfl) ?y4 hHeld ?_
     case y4=>intro wq hSw;go_simp<;>rfl
     try simp only [Act.put,sA,sB,sC]
     refine tkH 2 (v:=?_) rfl (by kernel_rfl) (fun _ _ _ h=>h) (by rfl) ?y7 hHeld ?_
     case y7=>intro wq hSw;(have cq:=Chg.cellv hSw p0 hgg;go_simp)<;>rfl
     try simp only [Act.put,sA,sB,sC]
     refine tkH 3 (v:=?_) rfl (by kernel_rfl) (fun _ _ _ h=>h) (by rfl) ?y10 hHeld ?_
     case y10=>intro wq hSw;go_simp<;>rfl
     try simp only [Act.put,sA,sB,sC]
     refine tkH 4 (v:=?_) rfl (by kernel_rfl) (fun _ _ _ h=>h) (by rfl) ?y13 hHeld ?_
     case y13=>intro wq hSw;go_simp<;>rfl
     try simp only [Act.put,sA,sB,sC]
     refine tkH 5 (v:=?_) rfl (by kernel_rfl) (fun _ _ _ h=>h) (by rfl) ?y16 hHeld ?_
     case y16=>intro wq hSw;go_simp<;>rfl
     try simp only [Act.put,sA,sB,sC]
     refine tkH 6 (v:=?_) rfl (by kernel_rfl) (fun _ _ _ h=>h) (by rfl) ?y19 hHeld ?_
     case y19=>intro wq hSw;(have cq:=Chg.cellv hSw p1 hgg;go_simp)<;>rfl
     try simp only [Act.put,sA,sB,sC]
     refine tkH 7 (v:=?_) rfl (by kernel_rfl) (fun _ _ _ h=>h) (by rfl) ?y22 hHeld ?_
     case y22=>intro wq hSw;go_simp<;>rfl
     try simp only [Act.put,sA,sB,sC]
     refine tkH 8 (v:=?_) rfl (by kernel_rfl) (fun _ _ _ h=>h) (by rfl) ?y25 hHeld ?_
     case y25=>intro wq hSw;go_simp<;>rfl
     try simp only [Act.put,sA,sB,sC]
     refine tkH 9 (v:=?_) rfl (by kernel_rfl) (fun _ _ _ h=>h) (by rfl) ?y28 hHeld ?_
     case y28=>intro wq hSw;go_simp<;>rfl
     try simp only [Act.put,sA,sB,sC]
     refine tkH 10 (v:=?_) rfl (by kernel_rfl) (fun _ _ _ h=>h) (by rfl) ?y31 hHeld ?_
     case y31=>intro wq hSw;go_simp<;>rfl
     try simp only [Act.put,sA,sB,sC]
     refine tkH 11 (v:=?_) rfl (by kernel_rfl) (fun _ _ _ h=>h) (by rfl) ?y34 hHeld ?_
     case y34=>intro wq hSw;go_simp<;>rfl
     try simp only [Act.put,sA,sB,sC]
     refine tkH 12 (v:=?_) rfl (by kernel_rfl) (fun _ _ _ h=>h) (by rfl) ?y37 hHeld ?_
     case y37=>intro wq hSw;go_simp<;>rfl
     try simp only [Act.put,sA,sB,sC]
     refine rH 13 (by kernel_rfl) rfl fun K hK=>?_
     go_simp
     refine hK.out _ _ ((Chg.setCell (Chg.setCell hHeld _ (fun x hx=>hx)) _ (fun x hx=>hx))) (fun hHeld=>?_)
     clear hK K
     try simp only [Act.put,sA,sB,sC]
     refine wpAnyH_done (by kernel_rfl) ?_ _
     go_wp2_with fail
     refine bodyPost_ret (v:=.tuple #[.int .i64 N,.agg #[.slice (some ⟨x,o+K,none⟩) (n-K) (c-K),.bool false]]) (by simp [results,Tryz.results98,go_sem, *]) rfl ?_
     rw [← HT.out]
     simp only []
     rw [HB.out]
     have k9:=((kk.setNew (p:=⟨g2,0,none⟩) (.slice (some ⟨x,o+K,none⟩) (n-K) (c-K)) hgw).setNew (p:=⟨g2,1,none⟩) (.bool false) hgw).drew
     exact rd_done (sl_from (HS.out.nx k9) hk) (by omega) (by omega) (.inr ⟨_,_,rfl⟩) (fun x' o' hx'=>by cases hx'<;>exact ⟨_,rfl⟩) k9
end Go.Proofs.YthcholmhmcpooaaGreatDoor
