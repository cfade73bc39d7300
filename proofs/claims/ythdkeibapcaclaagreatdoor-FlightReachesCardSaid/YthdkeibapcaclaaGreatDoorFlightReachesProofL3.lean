/- Texts for FlightReachesProof. -/
import Derived.Lib.LaidU8
import Derived.LaidSub
import Derived.Test.YthdkeibapcaclaaGreatDoorFmAll12
import Derived.Test.YthdkeibapcaclaaGreatDoorFmABC2
import Derived.Test.YthdkeibapcaclaaGreatDoorFlightReachesProofL2
set_option linter.unusedSimpArgs false
set_option linter.unusedVariables false

namespace Go.Proofs.YthdkeibapcaclaaGreatDoor
open Go.RowKit
set_option maxHeartbeats 4000000 in
theorem eql_p (a1 a2:Option Addr) (n m c1 c2:Nat) (r s:List (Int×Int)) (w:World) (h1:Sl 2 encS w a1 n r) (h2:Sl 2 encS w a2 m s) (hn:n≤9223372036854775807) :
  Calls Tryz.prog 157 #[.slice a1 n c1,.slice a2 m c2] w fun e w'=>e=.returned (.bool (decide (r=s)))∧Ex w w':=by
 have L1:=lH h1.len
 have L2:=lH h2.len
 have R1:=lH h1
 have R2:=lH h2
 clear h1 h2
 go_enter Tryz.func157,Tryz.ntmps157
 by_cases hnm:n=m
 ·subst hnm
  go_wp2_with fail
  go_loopw [13] (fun i wr=>SvRel r s n w i wr) (fun i _=>n-(intOf i).toNat)
  case atStart=>exact ⟨0,by omega,rfl,Ex.refl w,rfl⟩
  case round =>
   obtain ⟨j,hj,rfl,kv,hT2⟩:=hrel
   obtain ⟨wi,rfl⟩:∃ wi:World,wi=wr:=⟨_,rfl⟩
   have HT2:=lH hT2
   clear hT2
   by_cases hjl:j<n
   ·obtain ⟨x3,o3,y1,rfl,hx3,hy1,hc3⟩:=(R1.out.nx kv).at hjl
    obtain ⟨x4,o4,y2,rfl,hx4,hy2,hc4⟩:=(R2.out.nx kv).at hjl
    have u0:wi.cell? ⟨x3,o3+j*2,none⟩=some (.int .i64 y1.1):=hc3 0 _ rfl
    have u1:wi.cell? ⟨x3,o3+j*2+1,none⟩=some (.int .i64 y1.2):=hc3 1 _ rfl
    have v0:wi.cell? ⟨x4,o4+j*2,none⟩=some (.int .i64 y2.1):=hc4 0 _ rfl
    have v1:wi.cell? ⟨x4,o4+j*2+1,none⟩=some (.int .i64 y2.2):=hc4 1 _ rfl
    have HZ1:=lH hy1
    have HZ2:=lH hy2
    have KV:=lH kv
    clear hc3 hc4 hy1 hy2 kv
    by_cases hy:y1=y2
    ·subst hy
     go_wp2_with fail
     go_quiet (fail)
     go_wp2_with fail
     exact ⟨⟨j+1,by omega,by go_num,KV.out.drewN _,take_snoc_eq HT2.out HZ1.out HZ2.out rfl⟩,by simp [intOf];omega⟩
    ·have ND:Hid (decide (r=s)=false):=lH (decide_eq_false (ne_at HZ1.out HZ2.out hy))
     obtain ⟨p1,r1⟩:=y1
     obtain ⟨p2,r2⟩:=y2
     simp only at u0 u1 v0 v1
     by_cases hp:p1=p2
     ·subst hp
      have hr:¬ r1=r2:=fun h=>hy (by rw [h])
      have hb:(r1==r2)=false:=by simpa using hr
      clear hy HZ1 HZ2
      go_wp2_with fail
      go_quiet (fail)
      go_wp2_with fail
      go_ret
      exact ⟨by rw [ND.out];rfl,KV.out.drewN _⟩
     ·have hb:(p1==p2)=false:=by simpa using hp
      clear hy HZ1 HZ2
      go_wp2_with fail
      go_quiet (fail)
      go_wp2_with fail
      go_ret
      exact ⟨by rw [ND.out];rfl,KV.out.drewN _⟩
   ·obtain rfl:j=n:=by omega
    have ED:Hid (decide (r=s)=true):=lH (decide_eq_true (by
     have h3:=HT2.out
     rwa [List.take_of_length_le (by rw [L1.out];exact Nat.le_refl _),List.take_of_length_le (by rw [L2.out];exact Nat.le_refl _)] at h3))
    have KV:=lH kv
    clear kv hj hjl
    go_wp2_with fail
    go_ret
    exact ⟨by rw [ED.out];rfl,KV.out⟩
 ·have hnm':¬ (n:Int)=(m:Int):=by omega
  have ND:Hid (decide (r=s)=false):=lH (decide_eq_false (fun h=>hnm (by rw [← L1.out,← L2.out,h])))
  go_wp2_with fail
  go_ret
  exact ⟨by rw [ND.out];rfl,Ex.refl _⟩
set_option maxHeartbeats 1000000 in
theorem same1_p (i1 i2:Int) (a1 a2:Option Addr) (n m c1 c2:Nat) (r s:List (Int×Int)) (w:World) (h1:Sl 2 encS w a1 n r) (h2:Sl 2 encS w a2 m s) (hn:n≤9223372036854775807) :
  Calls Tryz.prog 156 #[.agg #[.int .i64 i1,.slice a1 n c1],.agg #[.int .i64 i2,.slice a2 m c2]] w fun e w'=>e=.returned (.bool (decide ((i1,r)=(i2,s))))∧Ex w w':=by
 go_enter Tryz.func156,Tryz.ntmps156
 by_cases hi:i1=i2
 ·subst hi
  have k1:=Ex.new w (.cells #[.int .i64 i1,.slice a1 n c1] 109)
  have k2:=k1.alloc (.cells #[.int .i64 i1,.slice a2 m c2] 109)
  have R1:=h1.nx k2
  have R2:=h2.nx k2
  have DD:Hid (decide ((i1,r)=(i1,s))=decide (r=s)):=lH (by rw [decide_eq_decide];simp)
  have K2:=lH k2
  clear h1 h2 k1 k2
  go_wp2_with fail
  (with_reducible refine (eql_p _ _ _ _ _ _ _ _ _ R1 R2 hn).mono ?_)
  rintro e w1 ⟨rfl,kk⟩
  clear R1 R2
  go_wp2_with fail
  go_ret
  exact ⟨by rw [DD.out];rfl,K2.out.nx kk⟩
 ·have d1:(i1==i2)=false:=by simpa using hi
  have ND:Hid (decide ((i1,r)=(i2,s))=false):=lH (decide_eq_false (fun h=>hi (by cases h;rfl)))
  clear h1 h2
  go_wp2_with fail
  go_ret
  exact ⟨by rw [ND.out];rfl,((Ex.refl w).alloc _).alloc _⟩
set_option maxRecDepth 100000 in
set_option maxHeartbeats 4000000 in
theorem eqf_p (a1 a2:Option Addr) (n m c1 c2:Nat) (L M:List Lkd) (w:World) (h1:LkL w a1 n L) (h2:LkL w a2 m M) (hn:n≤1000000) (hs:∀ c∈L,c.2.length≤9223372036854775807) :
  Calls Tryz.prog 155 #[.slice a1 n c1,.slice a2 m c2,.func (.func 156) #[] #[]] w fun e w'=>e=.returned (.bool (decide (L=M)))∧Ex w w':=by
 have HL:=lH h1.len
 have HM:=lH h2.len
 have HS:=lH hs
 have H1:=lH h1
 have H2:=lH h2
 clear hs h1 h2
 go_enter Tryz.func155,Tryz.ntmps155
 by_cases hnm:n=m
 ·subst hnm
  go_wp2_with fail
  go_loopw [17] (fun i wr=>SmRel L M n w i wr) (fun i _=>n-(intOf i).toNat)
  case atStart=>exact ⟨0,by omega,rfl,Ex.refl _,rfl⟩
  case round =>
   obtain ⟨k,hk,rfl,kw,hT⟩:=hrel
   obtain ⟨wo,rfl⟩:∃ wo:World,wo=wr:=⟨_,rfl⟩
   have HT:=lH hT
   clear hT
   by_cases hlt:k<n
   ·obtain ⟨x1,o1,a1',n1',c1',d1,rfl,hx1,hy1,hc1,r1⟩:=(H1.out.nx kw).at hlt
    obtain ⟨x2,o2,a2',n2',c2',d2,rfl,hx2,hy2,hc2,r2⟩:=(H2.out.nx kw).at hlt
    have e0:wo.cell? ⟨x1,o1+k*2,none⟩=some (.int .i64 d1.1):=hc1 0 _ rfl
    have e1:wo.cell? ⟨x1,o1+k*2+1,none⟩=some (.slice a1' n1' c1'):=hc1 1 _ rfl
    have f0:wo.cell? ⟨x2,o2+k*2,none⟩=some (.int .i64 d2.1):=hc2 0 _ rfl
    have f1:wo.cell? ⟨x2,o2+k*2+1,none⟩=some (.slice a2' n2' c2'):=hc2 1 _ rfl
    have hne1:¬ x1=wo.heap.size:=by omega
    have hne2:¬ x2=wo.heap.size:=by omega
    have HY1:=lH hy1
    have HY2:=lH hy2
    have hb1:n1'≤9223372036854775807:=by rw [← r1.len];exact HS.out _ (List.mem_of_getElem? hy1)
    have k1:=Ex.new wo (.cells #[.int .i64 d1.1,.slice a1' n1' c1'] 109)
    have k2:=k1.alloc (.cells #[.int .i64 d2.1,.slice a2' n2' c2'] 109)
    have R1:=lH (fun (cur:World) (k:Ex wo cur)=>r1.nx k)
    have R2:=lH (fun (cur:World) (k:Ex wo cur)=>r2.nx k)
    have K2:=lH k2
    have KW:=lH kw
    clear hc1 hc2 hy1 hy2 r1 r2 k1 k2 kw
    go_wp2_with fail
    (with_reducible refine (same1_p _ _ _ _ _ _ _ _ _ _ _ (R1.out _ K2.out) (R2.out _ K2.out) hb1).mono ?_)
    rintro e w1 ⟨rfl,kk⟩
    have KZ:=lH (KW.out.nx (K2.out.nx kk))
    clear kk K2 R1 R2 e0 e1 f0 f1
    by_cases hd:(d1.1,d1.2)=(d2.1,d2.2)
    ·rw [decide_eq_true hd]
     have ED:Hid (d1=d2):=lH hd
     clear hd
     go_wp2_with fail
     exact ⟨⟨k+1,by omega,by go_num,KZ.out,take_snoc_eq HT.out HY1.out HY2.out ED.out⟩,by simp [intOf];omega⟩
    ·rw [decide_eq_false hd]
     have ND:Hid (decide (L=M)=false):=lH (decide_eq_false (ne_at HY1.out HY2.out hd))
     clear hd
     go_wp2_with fail
     go_ret
     exact ⟨by rw [ND.out];rfl,KZ.out⟩
   ·obtain rfl:k=n:=by omega
    have ED:Hid (decide (L=M)=true):=lH (decide_eq_true (by
     have h3:=HT.out
     rwa [List.take_of_length_le (by rw [HL.out];exact Nat.le_refl _),List.take_of_length_le (by rw [HM.out];exact Nat.le_refl _)] at h3))
    clear hk hlt
    go_wp2_with fail
    go_ret
    exact ⟨by rw [ED.out];rfl,kw⟩
 ·have hnm':¬ (n:Int)=(m:Int):=by omega
  have ND:Hid (decide (L=M)=false):=lH (decide_eq_false (fun h=>hnm (by rw [← HL.out,← HM.out,h])))
  go_wp2_with fail
  go_ret
  exact ⟨by rw [ND.out];rfl,Ex.refl _⟩
theorem same_lp (a1 a2:Option Addr) (n m c1 c2:Nat) (L M:List Lkd) (w:World) (h1:LkL w a1 n L) (h2:LkL w a2 m M) (hn:n≤1000000) (hs:∀ c∈L,c.2.length≤9223372036854775807) :
  Calls Tryz.prog 104 #[.slice a1 n c1,.slice a2 m c2] w fun e w'=>e=.returned (.bool (decide (L=M)))∧Ex w w':=by
 go_enter Tryz.func104,Tryz.ntmps104
 go_wp2_with fail
 (with_reducible refine (eqf_p _ _ _ _ _ _ _ _ _ h1 h2 hn hs).mono ?_)
 rintro e w1 ⟨rfl,kk⟩
 clear h1 h2
 go_wp2_with fail
 go_ret
 exact ⟨rfl,kk⟩
theorem OwnLk.nl' {base:Nat} {w:World} {v:Value} {qs:List (Int×Hdr)} {L:List Lkd} (h:OwnLk base w v qs L):∃ a cap,v=.slice a L.length cap∧LkL w a L.length L:=by
 obtain ⟨a,cap,e,r,_⟩:=OwnN.nl (encA:=encI) (s1:=2) (encB:=encS) (s2:=2) (fun _=>rfl) (fun _=>rfl) h
 exact ⟨a,cap,e,r⟩
theorem links_rows (N:List Nd) (P:List Pr) (h:Int):∀ c∈linksB N P h,c.2.length≤17:=by
 intro c hc
 unfold linksB at hc
 split at hc
 ·rename_i hl
  obtain ⟨p,_,rfl⟩:=List.mem_map.1 hc
  unfold lvlN at hl
  simp at hl
  simp
  omega
 ·cases hc
theorem links_len (N:List Nd) (P:List Pr) (h:Int):(linksB N P h).length≤N.length:=by
 unfold linksB
 split
 ·rw [List.length_map];exact (normal_le N P).1
 ·exact Nat.zero_le _
theorem exactB_no {N:List Nd} {P:List Pr} {h:Int} (he:¬ (buildN N h).2=0):exactB N P h=false:=by
 unfold exactB
 rw [show ((buildN N h).2==0)=false by simpa using he,Bool.false_and]
theorem exactB_eq {N:List Nd} {P:List Pr} {h:Int} (he:(buildN N h).2=0):exactB N P h=decide (linksB N P h=(buildN N h).1):=by
 unfold exactB
 rw [he]
 rfl
set_option maxHeartbeats 2000000 in
theorem bexact_p (a:Option Addr) (n c:Nat) (N:List Nd) (a2:Option Addr) (n2 c2:Nat) (P:List Pr) (hh:Int) (w:World) (h:Sl 3 encN w a n N) (hn:n≤1000) (hc:n≤c) (hm:c≤maxLen) (hw:∀ x∈N,x.word<4294967296) (hT:TabG w) (h2:PL w a2 n2 P) (hn2:n2≤4000000000000000000) (hP:SmallP P) :
  Calls Tryz.prog 44 #[.slice a n c,.slice a2 n2 c2,.int .i64 hh] w fun e w'=>e=.returned (.bool (exactB N P hh))∧Ex w w':=by
 have HL:=lH h.len
 have HW:=lH hw
 have EX:=Ex.refl w
 clear hw
 have HP:=lH hP
 clear hP
 go_enter Tryz.func44,Tryz.ntmps44
 go_wp2_with fail
 (with_reducible refine (build_p _ _ _ N hh _ h hn hc hm HW.out hT).mono ?_)
 rintro e w1 ⟨v,qs,rfl,own,kk⟩
 replace h:=h.nx kk
 replace h2:=h2.nx kk
 replace EX:=EX.nx kk
 clear kk
 obtain ⟨aB,cB,rfl,LB⟩:=OwnLk.nl' own
 clear own hT
 have LB:=lH LB
 by_cases he:(buildN N hh).2=0
 ·have E0:=lH (exactB_eq (P:=P) he)
  have d1:((buildN N hh).2==0)=true:=by rw [he];rfl
  clear he
  have hll:=links_len N P hh
  have hlr:=lH (links_rows N P hh)
  go_wp2_with fail
  (with_reducible refine (links_p _ _ _ N _ _ _ P hh _ h hn hc hm HW.out h2 hn2 HP.out).mono ?_)
  rintro e w2 ⟨v,qs,rfl,own,kk⟩
  replace EX:=EX.nx kk
  obtain ⟨aL,cL,rfl,LL⟩:=OwnLk.nl' own
  replace LB:=lH (LB.out.nx kk)
  clear h h2 kk own
  have hl:(linksB N P hh).length≤1000000:=by have:=HL.out;omega
  go_wp2_with fail
  (with_reducible refine (same_lp _ _ _ _ _ _ _ _ _ LL LB.out hl (fun c hc=>Nat.le_trans (hlr.out c hc) (by omega))).mono ?_)
  rintro e w3 ⟨rfl,kk⟩
  rw [← E0.out]
  replace EX:=lH (EX.nx kk)
  clear LL kk
  go_wp2_with fail
  go_ret
  exact ⟨rfl,EX.out⟩
 ·have E0:=lH (exactB_no (P:=P) he)
  have d1:((buildN N hh).2==0)=false:=by simpa using he
  have EX:=lH EX
  clear he h h2
  go_wp2_with fail
  go_ret
  exact ⟨by rw [E0.out];rfl,EX.out⟩
section
variable {N:List Nd} {P Q:List Pr}
def rndsR (n h:Int):Int:=if 0≤n∧n≤64∧0≤h∧h≤16 then n*(h+1) else 0
end
theorem rounds18_p (n h:Int) (w:World):Calls Tryz.prog 43 #[.int .i64 n,.int .i64 h] w fun e w'=>e=.returned (.int .i64 (rndsR n h))∧w=w':=by
 by_cases hb:0≤n∧n≤64∧0≤h∧h≤16
 ·have E:Hid (rndsR n h=n*(h+1)):=lH (if_pos hb)
  obtain ⟨h1,h2,h3,h4⟩:=hb
  have hw1:IntKind.i64.wrap (h+1)=h+1:=IntWalk.i64_in _ (by omega)
  have hwr:IntKind.i64.wrap (n*(h+1))=n*(h+1):=IntWalk.i64_in _ (by
   have a1:0≤n*(h+1):=Int.mul_nonneg h1 (by omega)
   have a2:n*(h+1)≤64*17:=Int.le_trans (Int.mul_le_mul_of_nonneg_right h2 (by omega)) (Int.mul_le_mul_of_nonneg_left (by omega) (by omega))
   omega)
  have d1:decide (n<0)=false:=by simp;omega
  have d2:decide (n>64)=false:=by simp;omega
  have d3:decide (h<0)=false:=by simp;omega
  have d4:decide (h>16)=false:=by simp;omega
  clear h1 h2 h3 h4
  go_enter Tryz.func43,Tryz.ntmps43
  go_wp2_with fail
  go_ret
  exact ⟨by rw [E.out];rfl,rfl⟩
 ·have E:Hid (rndsR n h=0):=lH (if_neg hb)
  have hb2:n<0∨n>64∨h<0∨h>16:=by omega
  clear hb
  rcases hb2 with hb | hb | hb | hb
  ·have d1:decide (n<0)=true:=by simpa using hb
   clear hb
   go_enter Tryz.func43,Tryz.ntmps43
   go_wp2_with fail
   go_ret
   exact ⟨by rw [E.out];rfl,rfl⟩
  ·have d1:decide (n<0)=false:=by simp;omega
   have d2:decide (n>64)=true:=by simpa using hb
   clear hb
   go_enter Tryz.func43,Tryz.ntmps43
   go_wp2_with fail
   go_ret
   exact ⟨by rw [E.out];rfl,rfl⟩
  ·by_cases h1:n<0
   ·clear hb
    go_enter Tryz.func43,Tryz.ntmps43
    go_wp2_with fail
    go_ret
    exact ⟨by rw [E.out];rfl,rfl⟩
   by_cases h2:n>64
   ·clear hb
    go_enter Tryz.func43,Tryz.ntmps43
    go_wp2_with fail
    go_ret
    exact ⟨by rw [E.out];rfl,rfl⟩
   go_enter Tryz.func43,Tryz.ntmps43
   go_wp2_with fail
   go_ret
   exact ⟨by rw [E.out];rfl,rfl⟩
  ·have h3:¬ h<0:=by omega
   by_cases h1:n<0
   ·clear hb
    go_enter Tryz.func43,Tryz.ntmps43
    go_wp2_with fail
    go_ret
    exact ⟨by rw [E.out];rfl,rfl⟩
   by_cases h2:n>64
   ·clear hb
    go_enter Tryz.func43,Tryz.ntmps43
    go_wp2_with fail
    go_ret
    exact ⟨by rw [E.out];rfl,rfl⟩
   go_enter Tryz.func43,Tryz.ntmps43
   go_wp2_with fail
   go_ret
   exact ⟨by rw [E.out];rfl,rfl⟩
theorem play_x20 {b:Nat} (a:Option Addr) (nN c:Nat) (N:List Nd) (a2:Option Addr) (c2:Nat) (a3:Option Addr) (c3:Nat) (F0:Fl) (hh:Int) (B:Nat) (X:Nat→Prop) (w:World) (hXb:X b) (hXl:∀ k,X k→k<w.heap.size) (h:TK w b) (hs:Slb 3 encN b w a nN N) (hn:nN≤10) (hc:nN≤c) (hm:c≤maxLen) (hi:∀ x∈N,I64 x.id) (hw:∀ x∈N,x.word<4294967296)
  (hF:FlX X w a2 a3 F0) (hfl:Flies N B F0) (hB:B≤90000) :
  Calls Tryz.prog 27 #[.pointer (some ⟨b,0,none⟩),.slice a nN c,.agg #[.slice a2 F0.peers.length c2,.slice a3 F0.msgs.length c3],.int .i64 hh,.int .i64 20] w (FyPost X b N (B+400) w) :=
 play_x a nN c N a2 c2 a3 c3 F0 hh 20 B X w hXb hXl h hs hn hc hm hi hw hF hfl (by omega)
def FrRel (b g6 m:Nat) (L:List Nd) (ht:Nat) (F0:Fl) (x1:World) (i:Value) (wr:World):Prop :=
 ∃ (k:Nat) (aQ:Option Addr) (cQ:Nat) (aR:Option Addr) (cR:Nat) (F:Fl),k≤m∧i=.int .i64 k∧Blk wr g6 [.slice aQ F.peers.length cQ,.slice aR F.msgs.length cR] 27∧FlX (X2 b g6) wr aQ aR F∧FliesR L F∧RunsF L ht F0 k F∧TK wr b∧Exb b x1 wr
set_option maxRecDepth 100000 in
set_option maxHeartbeats 4000000 in
theorem flightreaches_walk (a1:Option Addr) (n1 c1:Nat) (l1:List Int) (w:World) (h1:Sl 1 encI w a1 n1 l1) (hc1:n1≤c1) (hm1:c1≤maxLen) (hT:TabG w) (hL:LetG w) :
  Calls Tryz.prog 9 #[.slice a1 n1 c1] w fun e w'=>e=.returned (.bool true)∧Ex w w':=by
 go_enter Tryz.func9,Tryz.ntmps9
 go_wp2_with fail
 refine (new_t _ _ _ l1 _ h1 hc1 hm1).mono ?_
 rintro e w1 ⟨rfl,T,kk,z1⟩
 obtain ⟨b,hb⟩:∃ b,b=w.heap.size:=⟨_,rfl⟩
 rw [← hb] at T ⊢
 have hgt:¬ 1=b:=by have:=hT.lt;omega
 have hgl:¬ 0=b:=by have:=hL.lt;omega
 have T1:Hid (TabG w1):=lH (hT.nx kk)
 have L1:Hid (LetG w1):=lH (hL.nx kk)
 have QL:Hid (Exl b w w1):=lH ⟨kk,by omega⟩
 clear h1 hT hL kk hb z1
 have hbo:=T.lt
 go_wp2_with fail
 refine (some_n 6 _ T L1.out hgl (by omega) (by omega)).mono ?_
 clear T
 rintro e x1 ⟨v1,L,rfl,R,hL1⟩
 have kw:=R.k
 have T:=R.tape
 have hb1:=T.lt
 obtain ⟨aX,cX,rfl,SX,hcX,hmX,_⟩:=R.own.slf (fun _=>rfl)
 have SX:=SX.slb hbo
 have RL:=R.len
 have H0:=lH R.ok
 have HW:Hid (∀ x∈L,x.word<4294967296):=lH (fun x hx=>by have:=R.word x hx;omega)
 have HI:Hid (∀ x∈L,I64 x.id):=lH (fun x hx=>(roster_ok R.ok x hx).1.1)
 have HS:=lH (fun wq (kq:Exb b x1 wq)=>SX.nxb kq)
 have KW:=lH kw
 clear R SX kw
 go_wp2_with fail
 refine (next_t 3 _ T (by omega) (by omega)).mono ?_
 clear T
 rintro e x2 ⟨hh,rfl,hh0,hh1,T,kk⟩
 have K1:=lH kk
 clear kk
 obtain ⟨ht,rfl⟩:∃ t:Nat,hh=t:=⟨hh.toNat,by omega⟩
 have ht16:ht≤16:=by omega
 have hb2:=T.lt
 go_wp2_with fail
 refine (joined_t ht _ _ _ L _ T (HS.out _ K1.out) (by omega) hcX hmX H0.out (by omega)).mono ?_
 clear T
 rintro e x3 ⟨vJ,qJ,P0,rfl,J⟩
 have T:=J.tape
 have HC:=lH J.conn
 have HF:Hid (FewQ 100 200 P0):=lH J.small
 have hPJ:P0.length≤10:=by have:=J.ids.1;omega
 obtain ⟨aJ,cJ,rfl,PJ⟩:=J.own.pls
 replace K1:=lH (K1.out.nxb J.k)
 have PJ:PLb b x3 aJ P0.length P0:=PJ.plb (fun x hx=>⟨hx.2,by omega⟩)
 have SM:=lH (few_smallF HF.out)
 clear J
 have hb3:=T.lt
 go_wp2_with fail
 refine (made_x _ _ _ L _ _ _ P0 _ T (HS.out _ K1.out) (by omega) HI.out PJ (by omega) (show SmallP P0 from by have:=SM.out;unfold SmF at this;exact this.1)).mono ?_
 clear T
 rintro e x4 ⟨vP,vM,qs,M,rfl,FO,hM4,T,kk⟩
 replace K1:=lH (K1.out.nxb kk)
 have FI:Flies L 4 ⟨normalN L P0,M⟩:=⟨conn_made HC.out M,few_smF HF.out M,norm_lenF (norm_normal H0.out P0 M),hM4⟩
 generalize (⟨normalN L P0,M⟩:Fl)=F0 at FO FI
 obtain ⟨aP,cP,aM,cM,rfl,rfl,FX⟩:=FO.flx (X:=fun k=>k=b) (fun k hk=>by have:k=b:=hk;omega)
 have FIH:=lH FI
 clear kk FO FI PJ
 have hb4:=T.lt
 have PL20:=play_x20 aX L.length cX L aP cP aM cM F0 ht 4 (fun k=>k=b) x4 rfl (fun k hk=>by have:k=b:=hk;omega) T (HS.out _ K1.out) (by omega) hcX hmX HI.out HW.out FX FIH.out (by omega)
 go_wp2_with fail
 (with_reducible refine PL20.mono ?_)
 clear T
 rintro e x6 ⟨aP2,cP2,aM2,cM2,F1,rfl,FX1,FI1,T,kk⟩
 replace K1:=lH (K1.out.nxb kk)
 have FC1:=lH FI1.conn
 have FRH:=lH (FI1.r (by omega))
 clear kk FX FIH PL20 FI1
 have hb6l:=T.lt
 have B6:=Blk.new x6 [.slice aP2 F1.peers.length cP2,.slice aM2 F1.msgs.length cM2] 27
 have kk:=Ex.new x6 (.cells #[.slice aP2 F1.peers.length cP2,.slice aM2 F1.msgs.length cM2] 27)
 obtain ⟨x5,hx5⟩:∃ x5,x5=x6.alloc (.cells #[.slice aP2 F1.peers.length cP2,.slice aM2 F1.msgs.length cM2] 27):=⟨_,rfl⟩
 obtain ⟨g6,hg6⟩:∃ g6,g6=x6.heap.size:=⟨_,rfl⟩
 replace B6:Blk x5 g6 [.slice aP2 F1.peers.length cP2,.slice aM2 F1.msgs.length cM2] 27:=by rw [hx5,hg6];exact B6
 rw [← hx5] at kk
 have Hx5:=lH hx5
 have Hg6:=lH hg6
 replace T:=T.nx kk
 have FX6:Hid (FlX (X2 b g6) x5 aP2 aM2 F1):=lH (FX1.x2 (by omega) kk)
 have KX:=lH (K1.out.nxb (kk.b b))
 have zg6:x1.heap.size≤g6:=by have:=K1.out.size;omega
 have hb6:¬ g6=b:=by omega
 have hbg6:b<g6:=by omega
 have hxb:X2 b g6 b:=.inl rfl
 have hx6:X2 b g6 g6:=.inr rfl
 have R0:=lH (show FrRel b g6 (L.length*(ht+1)) L ht F1 x1 (.int .i64 0) x5 from ⟨0,aP2,cP2,aM2,cM2,F1,by omega,rfl,B6,FX6.out,FRH.out,.zero,T,KX.out⟩)
 clear kk hx5 hg6 FX1 K1 T FX6 FRH KX B6
 obtain ⟨m,hm⟩:∃ m:Nat,m=L.length*(ht+1):=⟨_,rfl⟩
 have hm1:m≤200:=by
  have:L.length*(ht+1)≤20*5:=Nat.mul_le_mul (by omega) (by omega)
  omega
 have hmi:(L.length:Int)*((ht:Int)+1)=(m:Int):=by rw [hm];push_cast;rfl
 have hrn:rndsR (L.length:Int) (ht:Int)=(m:Int):=by unfold rndsR;rw [if_pos (by omega),hmi]
 have hwh:IntKind.i64.wrap ((ht:Int)+1)=(ht:Int)+1:=IntWalk.i64_in _ (by omega)
 have hwm:IntKind.i64.wrap ((L.length:Int)*((ht:Int)+1))=(m:Int):=by rw [hmi];exact IntWalk.i64_in _ (by omega)
 have HM:=lH hm
 clear hm hmi
 rw [← HM.out] at R0
 go_upto_region 4 with fail
 rw [← Hg6.out,← Hx5.out]
 clear Hg6 Hx5
 go_wp2_with fail
 (with_reducible refine (rounds18_p (L.length:Int) (ht:Int) _).mono ?_)
 rintro e w7 ⟨rfl,hw7⟩
 subst hw7
 rw [hrn]
 clear hrn
 go_wp2_with fail
 go_loopw [8] (fun i wr=>FrRel b g6 m L ht F1 x1 i wr) (fun i _=>m-(intOf i).toNat)
 case atStart=>exact R0.out
 case round =>
  clear R0
  obtain ⟨k,aQ,cQ,aR,cR,F,hk,rfl,B6,FSn,FR,RU,T,kx⟩:=hrel
  obtain ⟨wj,rfl⟩:∃ wj:World,wj=wr:=⟨_,rfl⟩
  have KX:=lH kx
  have FSH:=lH FSn
  have FRH:=lH FR
  have RUN:=lH RU
  have TH:=lH T
  have B6H:=lH B6
  have hl6:=B6.lt
  have hlb:=T.lt
  have zP:F.peers.length≤10:=by have:=FR.len;omega
  have zM:F.msgs.length≤100000:=FR.msgs
  have zL:L.length≤6:=by omega
  clear kx FSn FR RU T B6
  by_cases hkm:k<m
  ·have d0:(k:Int)<(m:Int):=by omega
   go_upto_region 8 with fail
   refine wp_region_late_drew (S:=(fun x=>Exb b wj x∧TK x b)) [8] (by kernel_rfl) (And.intro (Exb.refl b wj).drew (TH.out.nx (Ex.refl wj).drew)) (fun hHeld=>?_)
   obtain ⟨wd,hwdx⟩:∃ wd:World,wd=World.drew wj:=⟨_,rfl⟩
   rw [← hwdx] at hHeld ⊢
   have hDrew:Ex wj wd:=by rw [hwdx];exact (Ex.refl wj).drew
   clear hwdx
   refine tkL 0 (v:=?_) rfl (by kernel_rfl) (fun _ _ _ h=>h) (by rfl) ?y1x0q5 (by assumption) ?z1x0q5
   case y1x0q5=>intro wq hSw;(go_simp);(try with_reducible rfl)
   refine tkL 1 (v:=?_) rfl (by kernel_rfl) (fun _ _ _ h=>h) (by rfl) ?y1x1q8 (by assumption) ?z1x1q8
   case y1x1q8=>intro wq hSw;(have cq0:=(B6H.out.nxb hb6 hSw.1).cell 0 _ rfl;have cq1:=(B6H.out.nxb hb6 hSw.1).cell 1 _ rfl;go_simp);(try with_reducible rfl)
   refine tkL 2 (v:=?_) rfl (by kernel_rfl) (fun _ _ _ h=>h) (by rfl) ?y1x2q11 (by assumption) ?z1x2q11
   case y1x2q11=>intro wq hSw;(go_simp);(try with_reducible rfl)
   refine tkL 4 (v:=?_) rfl (by kernel_rfl) (fun _ _ _ h=>h) (by rfl) ?y1x4q14 (by assumption) ?z1x4q14
   case y1x4q14=>intro wq hSw;(go_simp);(try with_reducible rfl)
   refine tkL 6 (v:=?_) rfl (by kernel_rfl) (fun _ _ _ h=>h) (by rfl) ?y1x6q17 (by assumption) ?z1x6q17
   case y1x6q17=>intro wq hSw;(go_simp);(try with_reducible rfl)
   refine wpAnyL_ready (rs:=[3]) (by kernel_rfl) (by simp) ?_
   refine AllReadyL.cons (o:=⟨_,_,_,_,_,_⟩) rfl (fun K hK=>?_) AllReadyL.nil
   go_simp
   refine (ints_8 _ hHeld.2).mono ?_
   rintro e wa ⟨v3,m3,rfl,R3⟩
   obtain ⟨a3,c3,rfl,S3,hc3,hm3,_⟩:=R3.own.slf (fun _=>rfl)
   have S3:=S3.slb (b:=b) hHeld.2.lt
   (try replace B9:=B9.nxb hb9 R3.k)
   replace hHeld:=And.intro (hHeld.1.nxb R3.k) R3.tape
   clear R3
   refine hK.out _ _ (hHeld) (fun hHeld=>?_)
   clear hK K
   refine wpAnyL_ready (rs:=[5]) (by kernel_rfl) (by simp) ?_
   refine AllReadyL.cons (o:=⟨_,_,_,_,_,_⟩) rfl (fun K hK=>?_) AllReadyL.nil
   go_simp
   refine (ints_6 _ hHeld.2).mono ?_
   rintro e wc ⟨v5,m5,rfl,R5⟩
   obtain ⟨a5,c5,rfl,S5,hc5,hm5,_⟩:=R5.own.slf (fun _=>rfl)
   have S5:=S5.slb (b:=b) hHeld.2.lt
   replace S3:=S3.nxb R5.k
   (try replace B9:=B9.nxb hb9 R5.k)
   replace hHeld:=And.intro (hHeld.1.nxb R5.k) R5.tape
   clear R5
   refine hK.out _ _ (hHeld) (fun hHeld=>?_)
   clear hK K
   refine wpAnyL_ready (rs:=[7]) (by kernel_rfl) (by simp) ?_
   refine AllReadyL.cons (o:=⟨_,_,_,_,_,_⟩) rfl (fun K hK=>?_) AllReadyL.nil
   go_simp
   (with_reducible refine (round_f _ _ _ L _ _ _ F.peers _ _ _ F.msgs _ _ _ m3 _ _ _ m5 ht _ (HS.out _ (KX.out.nxb hHeld.1)).sl (by omega) hcX hmX HW.out (FSH.out.nxb hxb hHeld.1).pl (by omega) FRH.out.sm (FSH.out.nxb hxb hHeld.1).sl (by omega) S3.sl hc3 hm3 S5.sl hc5 hm5).mono ?_)
   rintro e wu ⟨vP,vM,qs,rfl,FO,kk⟩
   obtain ⟨G,hG⟩:∃ G,G=roundF L F m3 m5 ht:=⟨_,rfl⟩
   have HG:=lH hG
   replace FO:=(show FlOwn wj.heap.size wu vP vM qs G from by rw [hG];exact FlOwn.lower FO hHeld.1.size)
   (try replace B9:=B9.nx kk)
   obtain ⟨aA,cA,aB,cB,rfl,rfl,_,_⟩:=FO.two
   replace hHeld:=And.intro (hHeld.1.nxb (kk.b b)) (hHeld.2.nx kk)
   clear kk hG S3 S5
   refine hK.out _ _ (hHeld) (fun hHeld=>?_)
   clear hK K
   refine wpAnyL_ready (rs:=[8]) (by kernel_rfl) (by simp) ?_
   refine AllReadyL.consL (o:=⟨_,_,_,_,_,_⟩) rfl (by rfl) (fun K hK=>?_) AllReadyL.nil
   have B6U:=B6H.out.nxb hb6 hHeld.1
   have r0:=B6U.cell 0 _ rfl
   have r1:=B6U.cell 1 _ rfl
   have f0:=B6U.free 0
   have f1:=B6U.free 1
   go_simp
   clear r0 r1 f0 f1
   refine hK.out _ _ ?_
   clear hK K
   refine wpAnyL_done (by kernel_rfl) ?_ _
   obtain ⟨wy,hwy⟩:∃ wy,wy=(wu.setCell ⟨g6,0,none⟩ (.slice aA G.peers.length cA)).setCell ⟨g6,1,none⟩ (.slice aB G.msgs.length cB):=⟨_,rfl⟩
   rw [← hwy]
   have KY:=lH (show Exb b x1 wy from by rw [hwy];exact ((KX.out.nxb hHeld.1).setNew (p:=⟨g6,0,none⟩) _ zg6).setNew (p:=⟨g6,1,none⟩) _ zg6)
   have TY:=lH (show TK wy b from by rw [hwy];exact hHeld.2.put2 hbg6)
   have BY:=lH (show Blk wy g6 [.slice aA G.peers.length cA,.slice aB G.msgs.length cB] 27 from by rw [hwy];exact (B6U.set 0 _).set 1 _)
   have FOY:=lH (show FlOwn wj.heap.size wy (.slice aA G.peers.length cA) (.slice aB G.msgs.length cB) qs G from FO.putB B6U (by decide) (by decide) (by decide) (by decide) (by rw [hwy];exact ((Exb.refl g6 _).setB (p:=⟨g6,0,none⟩) _ rfl).setB (p:=⟨g6,1,none⟩) _ rfl))
   have FXY:=lH (show FlX (X2 b g6) wy aA aB G from by obtain ⟨_,_,_,_,e1,e2,hx⟩:=FOY.out.flx (X:=X2 b g6) (fun k hk=>by rcases hk with rfl | rfl<;>omega);cases e1;cases e2;exact hx)
   have RR:=lH (show FrRel b g6 m L ht F1 x1 (.int .i64 ((k:Int)+1)) wy from ⟨k+1,aA,cA,aB,cB,G,by omega,by go_num,BY.out,FXY.out,by rw [HG.out];exact FRH.out.round H0.out (by omega) ht16 _ _,by rw [HG.out];exact .step _ _ RUN.out,TY.out,KY.out⟩)
   clear hwy FO B6U hHeld hDrew
   go_wp2_with fail
   exact ⟨RR.out,by simp [intOf];omega⟩
  ·obtain rfl:k=m:=by omega
   have TG:=lH (fun wq (kq:Exb b wj wq)=>T1.out.nxb hgt ((KW.out.nxb KX.out).nxb kq))
   have E1:=lH (runs_exact HW.out ht16 FC1.out RUN.out (by rw [HM.out];exact Nat.le_refl _))
   go_upto_region 9 with fail
   refine wp_region_late_drew (S:=(fun x=>Exb b wj x∧TK x b)) [9] (by kernel_rfl) (And.intro (Exb.refl b wj).drew (TH.out.nx (Ex.refl wj).drew)) (fun hHeld=>?_)
   obtain ⟨wd,hwdx⟩:∃ wd:World,wd=World.drew wj:=⟨_,rfl⟩
   rw [← hwdx] at hHeld ⊢
   have hDrew:Ex wj wd:=by rw [hwdx];exact (Ex.refl wj).drew
   clear hwdx
   refine tkL 0 (v:=?_) rfl (by kernel_rfl) (fun _ _ _ h=>h) (by rfl) ?y2x0q5 (by assumption) ?z2x0q5
   case y2x0q5=>intro wq hSw;(go_simp);(try with_reducible rfl)
   refine tkL 1 (v:=?_) rfl (by kernel_rfl) (fun _ _ _ h=>h) (by rfl) ?y2x1q8 (by assumption) ?z2x1q8
   case y2x1q8=>intro wq hSw;(have cq0:=(B6H.out.nxb hb6 hSw.1).cell 0 _ rfl;have cq1:=(B6H.out.nxb hb6 hSw.1).cell 1 _ rfl;go_simp);(try with_reducible rfl)
   refine tkL 2 (v:=?_) rfl (by kernel_rfl) (fun _ _ _ h=>h) (by rfl) ?y2x2q11 (by assumption) ?z2x2q11
   case y2x2q11=>intro wq hSw;(go_simp);(try with_reducible rfl)
   refine tkL 4 (v:=?_) rfl (by kernel_rfl) (fun _ _ _ h=>h) (by rfl) ?y2x4q14 (by assumption) ?z2x4q14
   case y2x4q14=>intro wq hSw;(go_simp);(try with_reducible rfl)
   refine tkL 6 (v:=?_) rfl (by kernel_rfl) (fun _ _ _ h=>h) (by rfl) ?y2x6q17 (by assumption) ?z2x6q17
   case y2x6q17=>intro wq hSw;(go_simp);(try with_reducible rfl)
   refine wpAnyL_ready (rs:=[3,8]) (by kernel_rfl) (by simp) ?_
   refine AllReadyL.cons (o:=⟨_,_,_,_,_,_⟩) rfl (fun K hK=>?_) ?_
   ·go_simp
    refine (ints_8 _ hHeld.2).mono ?_
    rintro e wa ⟨v3,m3,rfl,R3⟩
    obtain ⟨a3,c3,rfl,S3,hc3,hm3,_⟩:=R3.own.slf (fun _=>rfl)
    have S3:=S3.slb (b:=b) hHeld.2.lt
    (try replace B9:=B9.nxb hb9 R3.k)
    replace hHeld:=And.intro (hHeld.1.nxb R3.k) R3.tape
    clear R3
    refine hK.out _ _ (hHeld) (fun hHeld=>?_)
    clear hK K
    refine wpAnyL_ready (rs:=[5,8]) (by kernel_rfl) (by simp) ?_
    refine AllReadyL.cons (o:=⟨_,_,_,_,_,_⟩) rfl (fun K hK=>?_) ?_
    ·go_simp
     refine (ints_6 _ hHeld.2).mono ?_
     rintro e wc ⟨v5,m5,rfl,R5⟩
     obtain ⟨a5,c5,rfl,S5,hc5,hm5,_⟩:=R5.own.slf (fun _=>rfl)
     have S5:=S5.slb (b:=b) hHeld.2.lt
     replace S3:=S3.nxb R5.k
     (try replace B9:=B9.nxb hb9 R5.k)
     replace hHeld:=And.intro (hHeld.1.nxb R5.k) R5.tape
     clear R5
     refine hK.out _ _ (hHeld) (fun hHeld=>?_)
     clear hK K
     refine wpAnyL_ready (rs:=[7,8]) (by kernel_rfl) (by simp) ?_
     refine AllReadyL.cons (o:=⟨_,_,_,_,_,_⟩) rfl (fun K hK=>?_) ?_
     ·go_simp
      (with_reducible refine (round_f _ _ _ L _ _ _ F.peers _ _ _ F.msgs _ _ _ m3 _ _ _ m5 ht _ (HS.out _ (KX.out.nxb hHeld.1)).sl (by omega) hcX hmX HW.out (FSH.out.nxb hxb hHeld.1).pl (by omega) FRH.out.sm (FSH.out.nxb hxb hHeld.1).sl (by omega) S3.sl hc3 hm3 S5.sl hc5 hm5).mono ?_)
      rintro e wu ⟨vP,vM,qs,rfl,FO,kk⟩
      obtain ⟨G,hG⟩:∃ G,G=roundF L F m3 m5 ht:=⟨_,rfl⟩
      have HG:=lH hG
      replace FO:=(show FlOwn wj.heap.size wu vP vM qs G from by rw [hG];exact FlOwn.lower FO hHeld.1.size)
      (try replace B9:=B9.nx kk)
      obtain ⟨aA,cA,aB,cB,rfl,rfl,_,_⟩:=FO.two
      replace hHeld:=And.intro (hHeld.1.nxb (kk.b b)) (hHeld.2.nx kk)
      clear kk hG S3 S5
      refine hK.out _ _ (hHeld) (fun hHeld=>?_)
      clear hK K
      refine wpAnyL_ready (rs:=[8]) (by kernel_rfl) (by simp) ?_
      refine AllReadyL.cons (o:=⟨_,_,_,_,_,_⟩) rfl (fun K hK=>?_) AllReadyL.nil
      go_simp
      obtain ⟨g9,wq,hg9,hwq,B9,kk,zg9,hb9⟩:=allocFb hHeld.1 hHeld.2
      rw [← hg9,← hwq]
      clear hg9 hwq
      (try replace S3:=S3.nxb (kk.b b))
      (try replace S5:=S5.nxb (kk.b b))
      (try replace FO:=FO.nx kk)
      replace hHeld:=And.intro (hHeld.1.nxb (kk.b b)) (hHeld.2.nx kk)
      clear kk
      refine hK.out _ _ (hHeld) (fun hHeld=>?_)
      clear hK K
      refine wpAnyL_ready (rs:=[9]) (by kernel_rfl) (by simp) ?_
      refine AllReadyL.consL (o:=⟨_,_,_,_,_,_⟩) rfl (by rfl) (fun K hK=>?_) AllReadyL.nil
      have r0:=B9.cell 0 _ rfl
      have r1:=B9.cell 1 _ rfl
      have f0:=B9.free 0
      have f1:=B9.free 1
      go_simp
      clear r0 r1 f0 f1
      refine hK.out _ _ ?_
      clear hK K
      refine wpAnyL_done (by kernel_rfl) ?_ _
      obtain ⟨wz,hwz,BZ,KB,KZ⟩:=storeFb B9 hHeld.1 zg9 (.slice aA G.peers.length cA) (.slice aB G.msgs.length cB)
      rw [← hwz]
      have FOZ:=FO.putB B9 (by decide) (by decide) (by decide) (by decide) KB
      obtain ⟨_,_,_,_,ex,ey,PG,_⟩:=FOZ.two
      cases ex
      cases ey
      have PGH:=lH PG
      have E2:=lH (runs_exact HW.out ht16 FC1.out (.step m3 m5 RUN.out) (by rw [← HM.out];omega))
      rw [← HG.out] at E2
      have SPG:Hid (SmallP G.peers):=lH (by rw [HG.out];exact (FRH.out.round H0.out (by omega) ht16 _ _).sp)
      have LPG:G.peers.length≤10:=by have:=(FRH.out.round H0.out (by omega) ht16 m3 m5).len;rw [← HG.out] at this;omega
      have HSZ:=lH (HS.out _ (KX.out.nxb KZ)).sl
      have TGZ:=lH (TG.out _ KZ)
      have FSZ:=lH (FSH.out.nxb hxb KZ)
      have QX:=lH (QL.out.nxb ((KW.out.nxb KX.out).nxb KZ)).1
      have BZH:=lH BZ
      have B6Z:=lH (B6H.out.nxb hb6 KZ)
      clear hwz BZ KB KZ FOZ FO PG B9 hHeld hDrew
      have q0:=B6Z.out.cell 0 _ rfl
      go_wp2_with fail
      (with_reducible refine (bexact_p _ _ _ L _ _ _ F.peers ht _ HSZ.out (by omega) hcX hmX HW.out TGZ.out FSZ.out.pl (by omega) FRH.out.sp).mono ?_)
      rintro e y1 ⟨rfl,kk⟩
      rw [E1.out]
      have HS1:=lH (HSZ.out.nx kk)
      have TG1:=lH (TGZ.out.nx kk)
      have PG1:=lH (PGH.out.nx kk)
      have Q1:=lH (QX.out.nx kk)
      have q9:=(BZH.out.nx kk).cell 0 _ rfl
      clear kk q0 QX
      go_wp2_with fail
      (with_reducible refine (bexact_p _ _ _ L _ _ _ G.peers ht _ HS1.out (by omega) hcX hmX HW.out TG1.out PG1.out (by omega) SPG.out).mono ?_)
      rintro e y2 ⟨rfl,kk⟩
      rw [E2.out]
      have QX:=lH (Q1.out.nx kk)
      clear kk q9
      go_wp2_with fail
      (with_reducible refine (sane19_x _).mono ?_)
      rintro e y9 ⟨rfl,kk⟩
      have QE:=lH (QX.out.nx kk)
      clear kk
      go_wp2_with fail
      go_ret
      exact ⟨rfl,QE.out⟩
     refine AllReadyL.cons (o:=⟨_,_,_,_,_,_⟩) rfl (fun K hK=>?_) AllReadyL.nil
     ·go_simp
      obtain ⟨g9,wq,hg9,hwq,B9,kk,zg9,hb9⟩:=allocFb hHeld.1 hHeld.2
      rw [← hg9,← hwq]
      clear hg9 hwq
      (try replace S3:=S3.nxb (kk.b b))
      (try replace S5:=S5.nxb (kk.b b))
      (try replace FO:=FO.nx kk)
      replace hHeld:=And.intro (hHeld.1.nxb (kk.b b)) (hHeld.2.nx kk)
      clear kk
      refine hK.out _ _ (hHeld) (fun hHeld=>?_)
      clear hK K
      refine wpAnyL_ready (rs:=[7]) (by kernel_rfl) (by simp) ?_
      refine AllReadyL.cons (o:=⟨_,_,_,_,_,_⟩) rfl (fun K hK=>?_) AllReadyL.nil
      go_simp
      (with_reducible refine (round_f _ _ _ L _ _ _ F.peers _ _ _ F.msgs _ _ _ m3 _ _ _ m5 ht _ (HS.out _ (KX.out.nxb hHeld.1)).sl (by omega) hcX hmX HW.out (FSH.out.nxb hxb hHeld.1).pl (by omega) FRH.out.sm (FSH.out.nxb hxb hHeld.1).sl (by omega) S3.sl hc3 hm3 S5.sl hc5 hm5).mono ?_)
      rintro e wu ⟨vP,vM,qs,rfl,FO,kk⟩
      obtain ⟨G,hG⟩:∃ G,G=roundF L F m3 m5 ht:=⟨_,rfl⟩
      have HG:=lH hG
      replace FO:=(show FlOwn wj.heap.size wu vP vM qs G from by rw [hG];exact FlOwn.lower FO hHeld.1.size)
      (try replace B9:=B9.nx kk)
      obtain ⟨aA,cA,aB,cB,rfl,rfl,_,_⟩:=FO.two
      replace hHeld:=And.intro (hHeld.1.nxb (kk.b b)) (hHeld.2.nx kk)
      clear kk hG S3 S5
      refine hK.out _ _ (hHeld) (fun hHeld=>?_)
      clear hK K
      refine wpAnyL_ready (rs:=[9]) (by kernel_rfl) (by simp) ?_
      refine AllReadyL.consL (o:=⟨_,_,_,_,_,_⟩) rfl (by rfl) (fun K hK=>?_) AllReadyL.nil
      have r0:=B9.cell 0 _ rfl
      have r1:=B9.cell 1 _ rfl
      have f0:=B9.free 0
      have f1:=B9.free 1
      go_simp
      clear r0 r1 f0 f1
      refine hK.out _ _ ?_
      clear hK K
      refine wpAnyL_done (by kernel_rfl) ?_ _
      obtain ⟨wz,hwz,BZ,KB,KZ⟩:=storeFb B9 hHeld.1 zg9 (.slice aA G.peers.length cA) (.slice aB G.msgs.length cB)
      rw [← hwz]
      have FOZ:=FO.putB B9 (by decide) (by decide) (by decide) (by decide) KB
      obtain ⟨_,_,_,_,ex,ey,PG,_⟩:=FOZ.two
      cases ex
      cases ey
      have PGH:=lH PG
      have E2:=lH (runs_exact HW.out ht16 FC1.out (.step m3 m5 RUN.out) (by rw [← HM.out];omega))
      rw [← HG.out] at E2
      have SPG:Hid (SmallP G.peers):=lH (by rw [HG.out];exact (FRH.out.round H0.out (by omega) ht16 _ _).sp)
      have LPG:G.peers.length≤10:=by have:=(FRH.out.round H0.out (by omega) ht16 m3 m5).len;rw [← HG.out] at this;omega
      have HSZ:=lH (HS.out _ (KX.out.nxb KZ)).sl
      have TGZ:=lH (TG.out _ KZ)
      have FSZ:=lH (FSH.out.nxb hxb KZ)
      have QX:=lH (QL.out.nxb ((KW.out.nxb KX.out).nxb KZ)).1
      have BZH:=lH BZ
      have B6Z:=lH (B6H.out.nxb hb6 KZ)
      clear hwz BZ KB KZ FOZ FO PG B9 hHeld hDrew
      have q0:=B6Z.out.cell 0 _ rfl
      go_wp2_with fail
      (with_reducible refine (bexact_p _ _ _ L _ _ _ F.peers ht _ HSZ.out (by omega) hcX hmX HW.out TGZ.out FSZ.out.pl (by omega) FRH.out.sp).mono ?_)
      rintro e y1 ⟨rfl,kk⟩
      rw [E1.out]
      have HS1:=lH (HSZ.out.nx kk)
      have TG1:=lH (TGZ.out.nx kk)
      have PG1:=lH (PGH.out.nx kk)
      have Q1:=lH (QX.out.nx kk)
      have q9:=(BZH.out.nx kk).cell 0 _ rfl
      clear kk q0 QX
      go_wp2_with fail
      (with_reducible refine (bexact_p _ _ _ L _ _ _ G.peers ht _ HS1.out (by omega) hcX hmX HW.out TG1.out PG1.out (by omega) SPG.out).mono ?_)
      rintro e y2 ⟨rfl,kk⟩
      rw [E2.out]
      have QX:=lH (Q1.out.nx kk)
      clear kk q9
      go_wp2_with fail
      (with_reducible refine (sane19_x _).mono ?_)
      rintro e y9 ⟨rfl,kk⟩
      have QE:=lH (QX.out.nx kk)
      clear kk
      go_wp2_with fail
      go_ret
      exact ⟨rfl,QE.out⟩
    refine AllReadyL.cons (o:=⟨_,_,_,_,_,_⟩) rfl (fun K hK=>?_) AllReadyL.nil
    ·go_simp
     obtain ⟨g9,wq,hg9,hwq,B9,kk,zg9,hb9⟩:=allocFb hHeld.1 hHeld.2
     rw [← hg9,← hwq]
     clear hg9 hwq
     (try replace S3:=S3.nxb (kk.b b))
     (try replace S5:=S5.nxb (kk.b b))
     (try replace FO:=FO.nx kk)
     replace hHeld:=And.intro (hHeld.1.nxb (kk.b b)) (hHeld.2.nx kk)
     clear kk
     refine hK.out _ _ (hHeld) (fun hHeld=>?_)
     clear hK K
     refine wpAnyL_ready (rs:=[5]) (by kernel_rfl) (by simp) ?_
     refine AllReadyL.cons (o:=⟨_,_,_,_,_,_⟩) rfl (fun K hK=>?_) AllReadyL.nil
     go_simp
     refine (ints_6 _ hHeld.2).mono ?_
     rintro e wc ⟨v5,m5,rfl,R5⟩
     obtain ⟨a5,c5,rfl,S5,hc5,hm5,_⟩:=R5.own.slf (fun _=>rfl)
     have S5:=S5.slb (b:=b) hHeld.2.lt
     replace S3:=S3.nxb R5.k
     (try replace B9:=B9.nxb hb9 R5.k)
     replace hHeld:=And.intro (hHeld.1.nxb R5.k) R5.tape
     clear R5
     refine hK.out _ _ (hHeld) (fun hHeld=>?_)
     clear hK K
     refine wpAnyL_ready (rs:=[7]) (by kernel_rfl) (by simp) ?_
     refine AllReadyL.cons (o:=⟨_,_,_,_,_,_⟩) rfl (fun K hK=>?_) AllReadyL.nil
     go_simp
     (with_reducible refine (round_f _ _ _ L _ _ _ F.peers _ _ _ F.msgs _ _ _ m3 _ _ _ m5 ht _ (HS.out _ (KX.out.nxb hHeld.1)).sl (by omega) hcX hmX HW.out (FSH.out.nxb hxb hHeld.1).pl (by omega) FRH.out.sm (FSH.out.nxb hxb hHeld.1).sl (by omega) S3.sl hc3 hm3 S5.sl hc5 hm5).mono ?_)
     rintro e wu ⟨vP,vM,qs,rfl,FO,kk⟩
     obtain ⟨G,hG⟩:∃ G,G=roundF L F m3 m5 ht:=⟨_,rfl⟩
     have HG:=lH hG
     replace FO:=(show FlOwn wj.heap.size wu vP vM qs G from by rw [hG];exact FlOwn.lower FO hHeld.1.size)
     (try replace B9:=B9.nx kk)
     obtain ⟨aA,cA,aB,cB,rfl,rfl,_,_⟩:=FO.two
     replace hHeld:=And.intro (hHeld.1.nxb (kk.b b)) (hHeld.2.nx kk)
     clear kk hG S3 S5
     refine hK.out _ _ (hHeld) (fun hHeld=>?_)
     clear hK K
     refine wpAnyL_ready (rs:=[9]) (by kernel_rfl) (by simp) ?_
     refine AllReadyL.consL (o:=⟨_,_,_,_,_,_⟩) rfl (by rfl) (fun K hK=>?_) AllReadyL.nil
     have r0:=B9.cell 0 _ rfl
     have r1:=B9.cell 1 _ rfl
     have f0:=B9.free 0
     have f1:=B9.free 1
     go_simp
     clear r0 r1 f0 f1
     refine hK.out _ _ ?_
     clear hK K
     refine wpAnyL_done (by kernel_rfl) ?_ _
     obtain ⟨wz,hwz,BZ,KB,KZ⟩:=storeFb B9 hHeld.1 zg9 (.slice aA G.peers.length cA) (.slice aB G.msgs.length cB)
     rw [← hwz]
     have FOZ:=FO.putB B9 (by decide) (by decide) (by decide) (by decide) KB
     obtain ⟨_,_,_,_,ex,ey,PG,_⟩:=FOZ.two
     cases ex
     cases ey
     have PGH:=lH PG
     have E2:=lH (runs_exact HW.out ht16 FC1.out (.step m3 m5 RUN.out) (by rw [← HM.out];omega))
     rw [← HG.out] at E2
     have SPG:Hid (SmallP G.peers):=lH (by rw [HG.out];exact (FRH.out.round H0.out (by omega) ht16 _ _).sp)
     have LPG:G.peers.length≤10:=by have:=(FRH.out.round H0.out (by omega) ht16 m3 m5).len;rw [← HG.out] at this;omega
     have HSZ:=lH (HS.out _ (KX.out.nxb KZ)).sl
     have TGZ:=lH (TG.out _ KZ)
     have FSZ:=lH (FSH.out.nxb hxb KZ)
     have QX:=lH (QL.out.nxb ((KW.out.nxb KX.out).nxb KZ)).1
     have BZH:=lH BZ
     have B6Z:=lH (B6H.out.nxb hb6 KZ)
     clear hwz BZ KB KZ FOZ FO PG B9 hHeld hDrew
     have q0:=B6Z.out.cell 0 _ rfl
     go_wp2_with fail
     (with_reducible refine (bexact_p _ _ _ L _ _ _ F.peers ht _ HSZ.out (by omega) hcX hmX HW.out TGZ.out FSZ.out.pl (by omega) FRH.out.sp).mono ?_)
     rintro e y1 ⟨rfl,kk⟩
     rw [E1.out]
     have HS1:=lH (HSZ.out.nx kk)
     have TG1:=lH (TGZ.out.nx kk)
     have PG1:=lH (PGH.out.nx kk)
     have Q1:=lH (QX.out.nx kk)
     have q9:=(BZH.out.nx kk).cell 0 _ rfl
     clear kk q0 QX
     go_wp2_with fail
     (with_reducible refine (bexact_p _ _ _ L _ _ _ G.peers ht _ HS1.out (by omega) hcX hmX HW.out TG1.out PG1.out (by omega) SPG.out).mono ?_)
     rintro e y2 ⟨rfl,kk⟩
     rw [E2.out]
     have QX:=lH (Q1.out.nx kk)
     clear kk q9
     go_wp2_with fail
     (with_reducible refine (sane19_x _).mono ?_)
     rintro e y9 ⟨rfl,kk⟩
     have QE:=lH (QX.out.nx kk)
     clear kk
     go_wp2_with fail
     go_ret
     exact ⟨rfl,QE.out⟩
   refine AllReadyL.cons (o:=⟨_,_,_,_,_,_⟩) rfl (fun K hK=>?_) AllReadyL.nil
   ·go_simp
    obtain ⟨g9,wq,hg9,hwq,B9,kk,zg9,hb9⟩:=allocFb hHeld.1 hHeld.2
    rw [← hg9,← hwq]
    clear hg9 hwq
    (try replace S3:=S3.nxb (kk.b b))
    (try replace S5:=S5.nxb (kk.b b))
    (try replace FO:=FO.nx kk)
    replace hHeld:=And.intro (hHeld.1.nxb (kk.b b)) (hHeld.2.nx kk)
    clear kk
    refine hK.out _ _ (hHeld) (fun hHeld=>?_)
    clear hK K
    refine wpAnyL_ready (rs:=[3]) (by kernel_rfl) (by simp) ?_
    refine AllReadyL.cons (o:=⟨_,_,_,_,_,_⟩) rfl (fun K hK=>?_) AllReadyL.nil
    go_simp
    refine (ints_8 _ hHeld.2).mono ?_
    rintro e wa ⟨v3,m3,rfl,R3⟩
    obtain ⟨a3,c3,rfl,S3,hc3,hm3,_⟩:=R3.own.slf (fun _=>rfl)
    have S3:=S3.slb (b:=b) hHeld.2.lt
    (try replace B9:=B9.nxb hb9 R3.k)
    replace hHeld:=And.intro (hHeld.1.nxb R3.k) R3.tape
    clear R3
    refine hK.out _ _ (hHeld) (fun hHeld=>?_)
    clear hK K
    refine wpAnyL_ready (rs:=[5]) (by kernel_rfl) (by simp) ?_
    refine AllReadyL.cons (o:=⟨_,_,_,_,_,_⟩) rfl (fun K hK=>?_) AllReadyL.nil
    go_simp
    refine (ints_6 _ hHeld.2).mono ?_
    rintro e wc ⟨v5,m5,rfl,R5⟩
    obtain ⟨a5,c5,rfl,S5,hc5,hm5,_⟩:=R5.own.slf (fun _=>rfl)
    have S5:=S5.slb (b:=b) hHeld.2.lt
    replace S3:=S3.nxb R5.k
    (try replace B9:=B9.nxb hb9 R5.k)
    replace hHeld:=And.intro (hHeld.1.nxb R5.k) R5.tape
    clear R5
    refine hK.out _ _ (hHeld) (fun hHeld=>?_)
    clear hK K
    refine wpAnyL_ready (rs:=[7]) (by kernel_rfl) (by simp) ?_
    refine AllReadyL.cons (o:=⟨_,_,_,_,_,_⟩) rfl (fun K hK=>?_) AllReadyL.nil
    go_simp
    (with_reducible refine (round_f _ _ _ L _ _ _ F.peers _ _ _ F.msgs _ _ _ m3 _ _ _ m5 ht _ (HS.out _ (KX.out.nxb hHeld.1)).sl (by omega) hcX hmX HW.out (FSH.out.nxb hxb hHeld.1).pl (by omega) FRH.out.sm (FSH.out.nxb hxb hHeld.1).sl (by omega) S3.sl hc3 hm3 S5.sl hc5 hm5).mono ?_)
    rintro e wu ⟨vP,vM,qs,rfl,FO,kk⟩
    obtain ⟨G,hG⟩:∃ G,G=roundF L F m3 m5 ht:=⟨_,rfl⟩
    have HG:=lH hG
    replace FO:=(show FlOwn wj.heap.size wu vP vM qs G from by rw [hG];exact FlOwn.lower FO hHeld.1.size)
    (try replace B9:=B9.nx kk)
    obtain ⟨aA,cA,aB,cB,rfl,rfl,_,_⟩:=FO.two
    replace hHeld:=And.intro (hHeld.1.nxb (kk.b b)) (hHeld.2.nx kk)
    clear kk hG S3 S5
    refine hK.out _ _ (hHeld) (fun hHeld=>?_)
    clear hK K
    refine wpAnyL_ready (rs:=[9]) (by kernel_rfl) (by simp) ?_
    refine AllReadyL.consL (o:=⟨_,_,_,_,_,_⟩) rfl (by rfl) (fun K hK=>?_) AllReadyL.nil
    have r0:=B9.cell 0 _ rfl
    have r1:=B9.cell 1 _ rfl
    have f0:=B9.free 0
    have f1:=B9.free 1
    go_simp
    clear r0 r1 f0 f1
    refine hK.out _ _ ?_
    clear hK K
    refine wpAnyL_done (by kernel_rfl) ?_ _
    obtain ⟨wz,hwz,BZ,KB,KZ⟩:=storeFb B9 hHeld.1 zg9 (.slice aA G.peers.length cA) (.slice aB G.msgs.length cB)
    rw [← hwz]
    have FOZ:=FO.putB B9 (by decide) (by decide) (by decide) (by decide) KB
    obtain ⟨_,_,_,_,ex,ey,PG,_⟩:=FOZ.two
    cases ex
    cases ey
    have PGH:=lH PG
    have E2:=lH (runs_exact HW.out ht16 FC1.out (.step m3 m5 RUN.out) (by rw [← HM.out];omega))
    rw [← HG.out] at E2
    have SPG:Hid (SmallP G.peers):=lH (by rw [HG.out];exact (FRH.out.round H0.out (by omega) ht16 _ _).sp)
    have LPG:G.peers.length≤10:=by have:=(FRH.out.round H0.out (by omega) ht16 m3 m5).len;rw [← HG.out] at this;omega
    have HSZ:=lH (HS.out _ (KX.out.nxb KZ)).sl
    have TGZ:=lH (TG.out _ KZ)
    have FSZ:=lH (FSH.out.nxb hxb KZ)
    have QX:=lH (QL.out.nxb ((KW.out.nxb KX.out).nxb KZ)).1
    have BZH:=lH BZ
    have B6Z:=lH (B6H.out.nxb hb6 KZ)
    clear hwz BZ KB KZ FOZ FO PG B9 hHeld hDrew
    have q0:=B6Z.out.cell 0 _ rfl
    go_wp2_with fail
    (with_reducible refine (bexact_p _ _ _ L _ _ _ F.peers ht _ HSZ.out (by omega) hcX hmX HW.out TGZ.out FSZ.out.pl (by omega) FRH.out.sp).mono ?_)
    rintro e y1 ⟨rfl,kk⟩
    rw [E1.out]
    have HS1:=lH (HSZ.out.nx kk)
    have TG1:=lH (TGZ.out.nx kk)
    have PG1:=lH (PGH.out.nx kk)
    have Q1:=lH (QX.out.nx kk)
    have q9:=(BZH.out.nx kk).cell 0 _ rfl
    clear kk q0 QX
    go_wp2_with fail
    (with_reducible refine (bexact_p _ _ _ L _ _ _ G.peers ht _ HS1.out (by omega) hcX hmX HW.out TG1.out PG1.out (by omega) SPG.out).mono ?_)
    rintro e y2 ⟨rfl,kk⟩
    rw [E2.out]
    have QX:=lH (Q1.out.nx kk)
    clear kk q9
    go_wp2_with fail
    (with_reducible refine (sane19_x _).mono ?_)
    rintro e y9 ⟨rfl,kk⟩
    have QE:=lH (QX.out.nx kk)
    clear kk
    go_wp2_with fail
    go_ret
    exact ⟨rfl,QE.out⟩
theorem Tryz.gTab : Tryz.prog.globalNamed "math/bits.deBruijn32tab" = some 1 := by kernel_rfl
theorem Tryz.tTab:(Tryz.prog.globals[1]?).map (·.type)=some 217:=by kernel_rfl
theorem Tryz.cells32:Tryz.prog.cellsOf 217=32:=by kernel_rfl
theorem Tryz.cellsU8:Tryz.prog.cellsOf 5=1:=by kernel_rfl
theorem laid_tab {H:Type}:(Rows.laid_math_bits_deBruijn32tab:DataW H)=Lib.tabData .u8 (Lib.deBruijn32tab.map fun (n:Nat)=>(n:Int)):=rfl
theorem tabG_of {rest : List (String × DataW Unit)} {W : World} (h : laidMetH Tryz.prog (("math/bits.deBruijn32tab", Rows.laid_math_bits_deBruijn32tab) :: rest) W)
  (hp : ((("math/bits.deBruijn32tab", Rows.laid_math_bits_deBruijn32tab) :: rest).all fun x => x.2.handleName?.isNone) = true) : TabG W := by
 rw [MakeChecks.laidMetH_plain _ _ _ hp,laid_tab] at h
 have ht:=Lib.tabIs_of_head Tryz.gTab Tryz.tTab Tryz.underlying217 Tryz.underlying5 Tryz.cellsU8 Tryz.cells32 h
 intro j hj
 have:=ht.cell Tryz.gTab j (by simp [Lib.deBruijn32tab];omega)
 rw [this]
 congr 2
 simp [List.getD,List.getElem?_map]
 cases h:Lib.deBruijn32tab[j]?<;>simp
theorem letG_second {x : String × DataW Unit} {W : World} (h : laidMetH Tryz.prog [x, ("skipgraph/skipgraphworld.letters", Rows.laid_skipgraph_skipgraphworld_letters)] W)
  (hp : ([x, ("skipgraph/skipgraphworld.letters", Rows.laid_skipgraph_skipgraphworld_letters)].all fun x => x.2.handleName?.isNone) = true) (hx : decide (x.1 = "skipgraph/skipgraphworld.letters") = false) : LetG W := by
 rw [MakeChecks.laidMetH_plain _ _ _ hp,laid_let] at h
 have h2 := h.filter (fun y => decide (y.1 = "skipgraph/skipgraphworld.letters"))
 rw [List.filter_cons_of_neg (by rw [hx];simp),List.filter_cons_of_pos (by simp),List.filter_nil] at h2
 exact letG_head h2
end Go.Proofs.YthdkeibapcaclaaGreatDoor
/-
 FlightReaches returns true for every list of numbers,and leaves its arguments as they were.
 Condition: the table of math/bits and the letters of the keys are as the program text lays them (tied by the card).
-/
namespace Go.Proofs.YthdkeibapcaclaaGreatDoor
open Go.ChangeShapes Go.WideShapes Go.ChangeAt Go.RowKit Go.Deep Go.Joins
open Go.ChangeMaps (open_string shut_string)
set_option linter.unusedVariables false
theorem Tryz.cellsInt:Tryz.prog.cellsOf 3=1:=by kernel_rfl
set_option maxRecDepth 100000 in
set_option maxHeartbeats 1000000 in
theorem flightReaches_lifted (os:Os) (started:os.Started) (H:Type) (enc:TypeId×Value→H) :
  ReturnsInHanded {} Tryz.checked os 9 .any (fun w args=>(Rows.flightReachesSpec.pre enc Tryz.prog Tryz.f9 [] false w args∧laidMetH Tryz.prog Rows.flightReachesRow.laid w)∧sizedMet enc Tryz.prog Tryz.f9 (OpenSpec.ofChange Rows.flightReachesSpec) false w args)
   (Rows.flightReachesSpec.post enc Tryz.prog Tryz.f9 false true false false):=by
 refine returnsInHanded_of_change_and (C:=Tryz.checked) (X:=fun w _=>laidMetH Tryz.prog Rows.flightReachesRow.laid w) (fun _ _ _ hh h=>h.of_heap hh) own started (by kernel_rfl) Tryz.func9
  (ChangeSpec.witness_shaped (enc:=enc) (C:=Tryz.checked) (os:=os) (X:=fun w _=>laidMetH Tryz.prog Rows.flightReachesRow.laid w) false (World.doorLaid Tryz.prog 400 os) #[.slice none 0 0] 8 rfl (World.shaped_of_RefB (by kernel_rfl) (by kernel_rfl)) (by kernel_rfl) (by kernel_rfl) (by kernel_rfl) (laidMetH_of_parts3 (fuel:=8) (laidMet_of_run' 8 (by kernel_rfl) (by kernel_rfl)) (by kernel_rfl) (by kernel_rfl))) ?_
 intro W base args ds gs before hval0 hW _ _ hL _
 have hval:∀ (j:Nat) t v,Tryz.f9.params[j]?=some t→args[j]?=some v→Value.okWide Tryz.prog W .any base t v:=hval0
 have hW':=hW
 obtain ⟨p,q,hA0,hV,rfl,hfz,hnd⟩:=hW
 have hA:DataW.TrodAll enc Tryz.prog W 0 (fun _=>true) true Tryz.f9.params.toList args.toList ds p:=hA0
 rw [Tryz.params9] at hA hval
 obtain ⟨v0,vs0,d0,ds0,p0,q0,hargs,rfl,rfl,h0,r0⟩:=trodAll_cons hA
 obtain ⟨rfl,rfl,rfl⟩:=trodAll_nil r0
 obtain rfl:args=#[v0]:=by cases args;simp_all
 obtain ⟨rfl,rfl⟩:=trodVars_none hV
 have k0:=h0
 have lt0:∀ x∈p0,x.block<W.heap.size:=by obtain ⟨m,hm⟩:=k0;exact DataW.trod_lt m _ _ _ hm
 obtain ⟨A0,n0,cap0,l0,rfl,rd0,hc0,hm0,wf0,nl0⟩:=rd_ints Tryz.underlying22 Tryz.underlying3 Tryz.cellsInt (hval 0 22 v0 rfl rfl) h0
 clear hA0 hval0
 have hT:TabG W:=tabG_of hL (by kernel_rfl)
 have hL2:LetG W:=letG_second hL (by kernel_rfl) (by kernel_rfl)
 refine (flightreaches_walk A0 n0 cap0 l0 W rd0 hc0 hm0 hT hL2).mono fun e W' ⟨he,hch⟩=>?_
 have bel:Below W.heap.size W W':=hch.below (fun _ h=>h)
 subst he
 exact ⟨_,rfl,_,_,_,[],_,[],hW',trodAll_mk1 (shut_bool Tryz.underlying4 _),(trodAll_cons_mk (Below.trod laidOut (by kernel_rfl) (of_decide_eq_true (by kernel_rfl)) k0 bel lt0) trodAll_mk0),rfl,bel.frame _,fun h=>by cases h⟩
theorem flightReaches_over:Rows.flightReachesRow.holds Tryz.pinned (OpenSpec.ofChange Rows.flightReachesSpec) :=
 OpenClaim.holds_of_wide 9 Tryz.f9 rfl rfl rfl rfl rfl rfl rfl ⟨rfl,rfl,rfl,rfl,rfl⟩ rfl rfl rfl rfl rfl (by kernel_rfl) Tryz.func9 (by kernel_rfl)
  (of_decide_eq_true (by kernel_rfl)) (by unfold Func.isWrapper;first | (rw [if_pos (by decide +kernel)];kernel_rfl) | (rw [if_neg (by decide +kernel)];exact ⟨rfl,rfl⟩))
  (fun os started H enc _=>flightReaches_lifted os started H enc)
theorem FlightReaches_holds:Rows.FlightReachesCardSaid :=
 Claim7.holds_tied_plain_at .later [] [.data, .data] true (true, "3d63441a57d5e1a930916d297e9f5e4943b290743ffbe254b51174268e98bb03") false
  flightReaches_over (fun _ h=>by cases h) (by kernel_rfl) (fun _ h=>by cases h) flightReaches_row_tie rfl ⟨rfl,rfl⟩ (by kernel_rfl) rfl
  (fun f fn hf hfn=>by
   obtain rfl : f = 9 := Option.some.inj ((show Tryz.prog.funcNamed "skipgraph/skipgraphlaw19.FlightReaches" = some 9 by kernel_rfl).symm.trans hf) |>.symm
   obtain rfl:fn=Tryz.f9:=(Option.some.inj (Tryz.func9.symm.trans hfn)).symm
   exact ⟨by kernel_rfl,fun j t ht=>by
    rw [Tryz.params9] at ht
    have hm:t∈[22]:=by simpa using Array.mem_of_getElem? ht
    have hall:([22].all fun u=>!Tryz.prog.wantsStandIn u)=true:=by kernel_rfl
    exact (show Tryz.prog.wantsStandIn t=false by simpa using List.all_eq_true.1 hall t hm)⟩)
  (by kernel_rfl)
#print axioms FlightReaches_holds
end Go.Proofs.YthdkeibapcaclaaGreatDoor
