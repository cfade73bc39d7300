/- Texts for TopBalanceProof. -/
import Derived.Test.YthcholmhmcpooaaGreatDoorTopBalanceProofL5
set_option linter.unusedSimpArgs false
set_option linter.unusedVariables false

namespace Go.Proofs.YthcholmhmcpooaaGreatDoor
open Go.RowKit
theorem Tryz.infoLk:(Tryz.prog.info? 128).map (fun i=>(i.zero,i.size,i.bytes))=some (some (.agg #[.int .i64 0,.int .i64 0]),2,16):=by kernel_rfl
theorem Tryz.infoLd:(Tryz.prog.info? 121).map (fun i=>(i.zero,i.size,i.bytes))=some (some (.agg #[.int .i64 0,.slice none 0 0]),2,32):=by kernel_rfl
abbrev Lkd:=Int×List (Int×Int)
def rowN (S:List Nd) (m:Nat) (x:Nd):Lkd:=(x.id,(List.range m).map fun (h:Nat)=>(neighN S x.id h).1)
def buildN (l:List Nd) (height:Int):List Lkd×Int :=
 if (checkN l==0)=false then ([],1) else if lvlN height=false then ([],2) else ((sortN l).map (rowN (sortN l) (height.toNat+1)),0)
abbrev OwnLk (base:Nat) (w:World) (v:Value) (qs:List (Int×Hdr)) (L:List Lkd):Prop:=OwnN encI 2 2 encS 121 128 base w v qs L
abbrev LkL (w:World) (a:Option Addr) (n:Nat) (L:List Lkd):Prop:=NL encI 2 2 encS w a n L
def LkPost (L:List Lkd) (e:Int) (w:World) (en:Ending) (w':World):Prop :=
 ∃ (v:Value) (qs:List (Int×Hdr)),en=.returned (.tuple #[v,.int .i64 e])∧OwnLk w.heap.size w' v qs L∧Ex w w'
theorem OwnN.base {A β:Type} {encA:A→List Value} {s1 s2:Nat} {encB:β→List Value} {e1 e2:TypeId} {base base':Nat} {w:World} {v:Value} {qs:List (A×Hdr)} {L:List (A×List β)}
  (h:OwnN encA s1 s2 encB e1 e2 base w v qs L) (hb:base'≤base):OwnN encA s1 s2 encB e1 e2 base' w v qs L :=
 ⟨h.1.lower hb,h.2.1,fun j q c hq hc=>⟨(h.2.2.1 j q c hq hc).1,(h.2.2.1 j q c hq hc).2.base hb⟩,h.2.2.2⟩
theorem rowN_len (S:List Nd) (j:Nat) (x:Nd):(rowN S j x).2.length=j:=by unfold rowN;simp
theorem flat_set1 {α:Type} {sz:Nat} {enc:α→List Value} (hsz:∀ y,(enc y).length=sz) {c:Nat} (hc:c<sz) {y':α} {v:Value} :
  ∀ (L:List α) (j:Nat) (y:α),L[j]?=some y→enc y'=(enc y).set c v→(L.set j y').flatMap enc=(L.flatMap enc).set (j*sz+c) v
 | [],j,y,h,_=>by simp at h
 | z::r,0,y,h,hv=>by
  simp at h;subst h
  rw [List.set_cons_zero,List.flatMap_cons,List.flatMap_cons,hv,Nat.zero_mul,Nat.zero_add,List.set_append_left _ _ (by rw [hsz];exact hc)]
 | z::r,j+1,y,h,hv=>by
  rw [List.set_cons_succ,List.flatMap_cons,List.flatMap_cons,flat_set1 hsz hc r j y (by simpa using h) hv,List.set_append_right _ _ (by rw [hsz,Nat.succ_mul];omega),hsz]
  congr 2
  rw [Nat.succ_mul];omega
theorem own_set1 {α:Type} {sz:Nat} {enc:α→List Value} (hsz:∀ y,(enc y).length=sz) {e:TypeId} {base:Nat} {w:World} {g n cap j c:Nat} {L:List α} {y:α} (h:OwnL sz enc e base w (.slice (some ⟨g,0,none⟩) n cap) L)
  (hy:L[j]?=some y) (hc:c<sz):w.cell? ⟨g,j*sz+c,none⟩=(enc y)[c]?∧w.frozen? ⟨g,j*sz+c,none⟩=false ∧
   ∀ (y':α) (v:Value),enc y'=(enc y).set c v→OwnL sz enc e base (w.setCell ⟨g,j*sz+c,none⟩ v) (.slice (some ⟨g,0,none⟩) n cap) (L.set j y'):=by
 rcases h.2 with ⟨h1,_⟩ | ⟨g',cap',cur,e1,e2,e3,e4,e5,e6,e7⟩
 ·cases h1
 ·obtain ⟨rfl,hLn,rfl⟩:g=g'∧n=L.length∧cap=cap':=by simpa using e1
  have hjl:=(List.getElem?_eq_some_iff.1 hy).1
  have hlt:j*sz+c<L.length*sz:=by
   have:(j+1)*sz≤L.length*sz:=Nat.mul_le_mul_right _ hjl
   rw [Nat.succ_mul] at this;omega
  refine ⟨?_,by simp [World.frozen?,e3],fun y' v hv=>⟨?_,.inr ⟨g,cap,_,by simp [hLn],e2,heap_set e3 _ v,by simpa using e4,e5,by simpa using e6,?_⟩⟩⟩
  ·have h2:(cur.toList.take (L.length*sz))[j*sz+c]?=(enc y)[c]?:=by
    rw [e7]
    have hcy:c<(enc y).length:=by rw [hsz];exact hc
    rw [List.getElem?_eq_getElem hcy]
    exact flat_at hsz L j y hy c _ (List.getElem?_eq_getElem hcy)
   rw [List.getElem?_take,if_pos hlt] at h2
   simpa [World.cell?,e3] using h2
  ·rw [flatN_len hsz]
  ·rw [flat_set1 hsz hc L j y hy hv,← e7,List.length_set]
   simp only [Array.toList_setIfInBounds,List.take_set]
def NOk (x:Nd):Prop:=I64 x.id∧x.word<4294967296∧x.key.size≤65
theorem roster_ok {l:List Nd} (h:checkN l=0):∀ x∈l,NOk x∧1≤x.id∧x.id≤2147483647∧x.key.size≤64∧x.word<65536:=by
 intro x hx
 have hb:badN x=false:=by
  cases hb:badN x with
  | false=>rfl
  | true =>
   exfalso
   unfold checkN at h
   have:l.any badN=true:=List.any_eq_true.2 ⟨x,hx,hb⟩
   rw [this] at h
   split at h<;>simp at h
 unfold badN validN at hb
 simp at hb
 obtain ⟨⟨⟨h1,h2⟩,h3⟩,h4⟩:=hb
 exact ⟨⟨⟨by omega,by omega⟩,by omega,by omega⟩,by omega,by omega,by omega,by omega⟩
def LkB (b:Nat) (w:World) (a:Option Addr) (n:Nat) (L:List Lkd):Prop :=
 ∃ qs:List (Int×Hdr),Slb 2 (encP encI) b w a n qs∧L.length=n∧∀ (j:Nat) (q:Int×Hdr) (c:Lkd),qs[j]?=some q→L[j]?=some c→q.1=c.1∧Slb 2 encS b w q.2.1 q.2.2.1 c.2
theorem LkB.nxb {b:Nat} {w w':World} {a:Option Addr} {n:Nat} {L:List Lkd} (h:LkB b w a n L) (k:Exb b w w'):LkB b w' a n L:=by
 obtain ⟨qs,h1,h2,h3⟩:=h
 exact ⟨qs,h1.nxb k,h2,fun j q c hq hc=>⟨(h3 j q c hq hc).1,(h3 j q c hq hc).2.nxb k⟩⟩
theorem LkB.nl {b:Nat} {w:World} {a:Option Addr} {n:Nat} {L:List Lkd} (h:LkB b w a n L):LkL w a n L:=by
 obtain ⟨qs,h1,h2,h3⟩:=h
 exact ⟨qs,h1.sl,h2,fun j q c hq hc=>⟨(h3 j q c hq hc).1,(h3 j q c hq hc).2.sl⟩⟩
def SmRel (L M:List Lkd) (n:Nat) (w:World) (i:Value) (wr:World):Prop:=∃ k:Nat,k≤n∧i=.int .i64 k∧Ex w wr∧L.take k=M.take k
def SvRel (r s:List (Int×Int)) (n:Nat) (w:World) (i:Value) (wr:World):Prop:=∃ k:Nat,k≤n∧i=.int .i64 k∧Ex w wr∧r.take k=s.take k
theorem take_snoc_eq {α:Type} {L M:List α} {k:Nat} {c d:α} (h:L.take k=M.take k) (hc:L[k]?=some c) (hd:M[k]?=some d) (he:c=d):L.take (k+1)=M.take (k+1):=by
 rw [List.take_add_one,List.take_add_one,h,hc,hd,he]
theorem ne_at {α:Type} {L M:List α} {k:Nat} {c d:α} (hc:L[k]?=some c) (hd:M[k]?=some d) (he:c≠d):¬ L=M:=by
 intro h
 rw [h,hd] at hc
 exact he (Option.some.inj hc).symm
set_option maxHeartbeats 4000000 in
theorem samelk_g (a1 a2:Option Addr) (n m c1 c2:Nat) (L M:List Lkd) (w:World) (h1:LkL w a1 n L) (h2:LkL w a2 m M) (hn:n≤1000000) (hs:∀ c∈L,c.2.length≤9223372036854775807) :
  Calls Tryz.prog 41 #[.slice a1 n c1,.slice a2 m c2] w fun e w'=>e=.returned (.bool (decide (L=M)))∧Ex w w':=by
 have HL:=lH h1.len
 have HM:=lH h2.len
 have HS:=lH hs
 clear hs
 go_enter Tryz.func41,Tryz.ntmps41
 by_cases hnm:n=m
 ·subst hnm
  go_wp2_with fail
  go_loopw [5] (fun i wr=>SmRel L M n w i wr) (fun i _=>n-(intOf i).toNat)
  case atStart=>exact ⟨0,by omega,rfl,Ex.refl _,rfl⟩
  case round =>
   obtain ⟨k,hk,rfl,kw,hT⟩:=hrel
   obtain ⟨wo,rfl⟩:∃ wo:World,wo=wr:=⟨_,rfl⟩
   have HT:=lH hT
   clear hT
   by_cases hlt:k<n
   ·obtain ⟨x1,o1,a1',n1',c1',d1,rfl,hx1,hy1,hc1,r1⟩:=(h1.nx kw).at hlt
    obtain ⟨x2,o2,a2',n2',c2',d2,rfl,hx2,hy2,hc2,r2⟩:=(h2.nx kw).at hlt
    have e0:wo.cell? ⟨x1,o1+k*2,none⟩=some (.int .i64 d1.1):=hc1 0 _ rfl
    have e1:wo.cell? ⟨x1,o1+k*2+1,none⟩=some (.slice a1' n1' c1'):=hc1 1 _ rfl
    have f0:wo.cell? ⟨x2,o2+k*2,none⟩=some (.int .i64 d2.1):=hc2 0 _ rfl
    have f1:wo.cell? ⟨x2,o2+k*2+1,none⟩=some (.slice a2' n2' c2'):=hc2 1 _ rfl
    have HY1:=lH hy1
    have HY2:=lH hy2
    have L1:=lH r1.len
    have L2:=lH r2.len
    have R1:=lH r1
    have R2:=lH r2
    have H1:=lH h1
    have H2:=lH h2
    have hb1:n1'≤9223372036854775807:=by rw [← r1.len];exact HS.out _ (List.mem_of_getElem? hy1)
    have KW:=lH kw
    clear hc1 hc2 hy1 hy2 r1 r2 h1 h2 kw
    by_cases hid:d1.1=d2.1
    ·by_cases hln:n1'=n2'
     ·subst hln
      have g1:decide (d1.1=d2.1)=true:=by simpa using hid
      go_wp2_with fail
      go_quiet (fail)
      go_wp2_with fail
      have KQ:=KW.out.drewN 0
      go_loopw [6] (fun i wr=>SvRel d1.2 d2.2 n1' wo i wr) (fun i _=>n1'-(intOf i).toNat)
      case atStart=>exact ⟨0,by omega,rfl,(Ex.refl wo).drewN _,rfl⟩
      case round =>
       obtain ⟨j,hj,rfl,kv,hT2⟩:=hrel
       obtain ⟨wi,rfl⟩:∃ wi:World,wi=wr:=⟨_,rfl⟩
       have HT2:=lH hT2
       clear hT2
       have e1:=Chg.cellv kv e1 hx1
       have f1:=Chg.cellv kv f1 hx2
       by_cases hjl:j<n1'
       ·obtain ⟨x3,o3,y1,rfl,hx3,hy1,hc3⟩:=(R1.out.nx kv).at hjl
        obtain ⟨x4,o4,y2,rfl,hx4,hy2,hc4⟩:=(R2.out.nx kv).at hjl
        have u0:wi.cell? ⟨x3,o3+j*2,none⟩=some (.int .i64 y1.1):=hc3 0 _ rfl
        have u1:wi.cell? ⟨x3,o3+j*2+1,none⟩=some (.int .i64 y1.2):=hc3 1 _ rfl
        have v0:wi.cell? ⟨x4,o4+j*2,none⟩=some (.int .i64 y2.1):=hc4 0 _ rfl
        have v1:wi.cell? ⟨x4,o4+j*2+1,none⟩=some (.int .i64 y2.2):=hc4 1 _ rfl
        have HZ1:=lH hy1
        have HZ2:=lH hy2
        have KV:=lH kv
        clear hc3 hc4 hy1 hy2 kv e0 f0
        by_cases hy:y1=y2
        ·subst hy
         go_wp2_with fail
         go_quiet (fail)
         go_wp2_with fail
         exact ⟨⟨j+1,by omega,by go_num,KV.out.drewN _,take_snoc_eq HT2.out HZ1.out HZ2.out rfl⟩,by simp [intOf];omega⟩
        ·have ND:Hid (decide (L=M)=false):=lH (decide_eq_false (ne_at HY1.out HY2.out (fun h=>ne_at HZ1.out HZ2.out hy (by rw [h]))))
         obtain ⟨p1,r1⟩:=y1
         obtain ⟨p2,r2⟩:=y2
         simp only at u0 u1 v0 v1
         by_cases hp:p1=p2
         ·subst hp
          have hr:¬ r1=r2:=fun h=>hy (by rw [h])
          have hb:(r1==r2)=false:=by simpa using hr
          clear hy HZ1 HZ2
          go_wp2_with fail
          go_quiet (fail)
          go_wp2_with fail
          go_ret
          exact ⟨by rw [ND.out];rfl,(KW.out.nx KV.out).drewN _⟩
         ·have hb:(p1==p2)=false:=by simpa using hp
          clear hy HZ1 HZ2
          go_wp2_with fail
          go_quiet (fail)
          go_wp2_with fail
          go_ret
          exact ⟨by rw [ND.out];rfl,(KW.out.nx KV.out).drewN _⟩
       ·obtain rfl:j=n1':=by omega
        have ED:d1=d2:=Prod.ext hid (by
         have h3:=HT2.out
         rwa [List.take_of_length_le (by rw [L1.out];exact Nat.le_refl _),List.take_of_length_le (by rw [L2.out];exact Nat.le_refl _)] at h3)
        have ED:=lH ED
        have KV:=lH kv
        clear kv hj hjl e0 f0
        go_wp2_with fail
        exact ⟨⟨k+1,by omega,by go_num,KW.out.nx KV.out,take_snoc_eq HT.out HY1.out HY2.out ED.out⟩,by simp [intOf];omega⟩
     ·have g1:decide (d1.1=d2.1)=true:=by simpa using hid
      have g2:¬ (n1':Int)=(n2':Int):=by omega
      have ND:Hid (decide (L=M)=false):=lH (decide_eq_false (ne_at HY1.out HY2.out (fun h=>hln (by rw [← L1.out,← L2.out,h]))))
      go_wp2_with fail
      go_quiet (fail)
      go_wp2_with fail
      go_ret
      exact ⟨by rw [ND.out];rfl,KW.out.drewN _⟩
    ·have g1:decide (d1.1=d2.1)=false:=by simpa using hid
     have ND:Hid (decide (L=M)=false):=lH (decide_eq_false (ne_at HY1.out HY2.out (fun h=>hid (by rw [h]))))
     go_wp2_with fail
     go_quiet (fail)
     go_wp2_with fail
     go_ret
     exact ⟨by rw [ND.out];rfl,KW.out.drewN _⟩
   ·obtain rfl:k=n:=by omega
    have ED:Hid (decide (L=M)=true):=lH (decide_eq_true (by
     have h3:=HT.out
     rwa [List.take_of_length_le (by rw [HL.out];exact Nat.le_refl _),List.take_of_length_le (by rw [HM.out];exact Nat.le_refl _)] at h3))
    clear h1 h2 hk hlt
    go_wp2_with fail
    go_ret
    exact ⟨by rw [ED.out];rfl,kw⟩
 ·have hnm':¬ (n:Int)=(m:Int):=by omega
  have ND:Hid (decide (L=M)=false):=lH (decide_eq_false (fun h=>hnm (by rw [← HL.out,← HM.out,h])))
  clear h1 h2
  go_wp2_with fail
  go_ret
  exact ⟨by rw [ND.out];rfl,Ex.refl _⟩
theorem samelk_r (a1 a2:Option Addr) (n m c1 c2:Nat) (L M:List Lkd) (w:World) (h1:LkL w a1 n L) (h2:LkL w a2 m M) (hn:n≤1000000) (hs:∀ c∈L,c.2.length≤1000000) :
  Calls Tryz.prog 41 #[.slice a1 n c1,.slice a2 m c2] w fun e w'=>e=.returned (.bool (decide (L=M)))∧Ex w w' :=
 samelk_g a1 a2 n m c1 c2 L M w h1 h2 hn (fun c hc=>Nat.le_trans (hs c hc) (by omega))
set_option maxHeartbeats 4000000 in
theorem eql_p (a1 a2:Option Addr) (n m c1 c2:Nat) (r s:List (Int×Int)) (w:World) (h1:Sl 2 encS w a1 n r) (h2:Sl 2 encS w a2 m s) (hn:n≤9223372036854775807) :
  Calls Tryz.prog 168 #[.slice a1 n c1,.slice a2 m c2] w fun e w'=>e=.returned (.bool (decide (r=s)))∧Ex w w':=by
 have L1:=lH h1.len
 have L2:=lH h2.len
 have R1:=lH h1
 have R2:=lH h2
 clear h1 h2
 go_enter Tryz.func168,Tryz.ntmps168
 by_cases hnm:n=m
 ·subst hnm
  go_wp2_with fail
  go_loopw [13] (fun i wr=>SvRel r s n w i wr) (fun i _=>n-(intOf i).toNat)
  case atStart=>exact ⟨0,by omega,rfl,Ex.refl w,rfl⟩
  case round =>
   obtain ⟨j,hj,rfl,kv,hT2⟩:=hrel
   obtain ⟨wi,rfl⟩:∃ wi:World,wi=wr:=⟨_,rfl⟩
   have HT2:=lH hT2
   clear hT2
   by_cases hjl:j<n
   ·obtain ⟨x3,o3,y1,rfl,hx3,hy1,hc3⟩:=(R1.out.nx kv).at hjl
    obtain ⟨x4,o4,y2,rfl,hx4,hy2,hc4⟩:=(R2.out.nx kv).at hjl
    have u0:wi.cell? ⟨x3,o3+j*2,none⟩=some (.int .i64 y1.1):=hc3 0 _ rfl
    have u1:wi.cell? ⟨x3,o3+j*2+1,none⟩=some (.int .i64 y1.2):=hc3 1 _ rfl
    have v0:wi.cell? ⟨x4,o4+j*2,none⟩=some (.int .i64 y2.1):=hc4 0 _ rfl
    have v1:wi.cell? ⟨x4,o4+j*2+1,none⟩=some (.int .i64 y2.2):=hc4 1 _ rfl
    have HZ1:=lH hy1
    have HZ2:=lH hy2
    have KV:=lH kv
    clear hc3 hc4 hy1 hy2 kv
    by_cases hy:y1=y2
    ·subst hy
     go_wp2_with fail
     go_quiet (fail)
     go_wp2_with fail
     exact ⟨⟨j+1,by omega,by go_num,KV.out.drewN _,take_snoc_eq HT2.out HZ1.out HZ2.out rfl⟩,by simp [intOf];omega⟩
    ·have ND:Hid (decide (r=s)=false):=lH (decide_eq_false (ne_at HZ1.out HZ2.out hy))
     obtain ⟨p1,r1⟩:=y1
     obtain ⟨p2,r2⟩:=y2
     simp only at u0 u1 v0 v1
     by_cases hp:p1=p2
     ·subst hp
      have hr:¬ r1=r2:=fun h=>hy (by rw [h])
      have hb:(r1==r2)=false:=by simpa using hr
      clear hy HZ1 HZ2
      go_wp2_with fail
      go_quiet (fail)
      go_wp2_with fail
      go_ret
      exact ⟨by rw [ND.out];rfl,KV.out.drewN _⟩
     ·have hb:(p1==p2)=false:=by simpa using hp
      clear hy HZ1 HZ2
      go_wp2_with fail
      go_quiet (fail)
      go_wp2_with fail
      go_ret
      exact ⟨by rw [ND.out];rfl,KV.out.drewN _⟩
   ·obtain rfl:j=n:=by omega
    have ED:Hid (decide (r=s)=true):=lH (decide_eq_true (by
     have h3:=HT2.out
     rwa [List.take_of_length_le (by rw [L1.out];exact Nat.le_refl _),List.take_of_length_le (by rw [L2.out];exact Nat.le_refl _)] at h3))
    have KV:=lH kv
    clear kv hj hjl
    go_wp2_with fail
    go_ret
    exact ⟨by rw [ED.out];rfl,KV.out⟩
 ·have hnm':¬ (n:Int)=(m:Int):=by omega
  have ND:Hid (decide (r=s)=false):=lH (decide_eq_false (fun h=>hnm (by rw [← L1.out,← L2.out,h])))
  go_wp2_with fail
  go_ret
  exact ⟨by rw [ND.out];rfl,Ex.refl _⟩
set_option maxHeartbeats 1000000 in
theorem same1_p (i1 i2:Int) (a1 a2:Option Addr) (n m c1 c2:Nat) (r s:List (Int×Int)) (w:World) (h1:Sl 2 encS w a1 n r) (h2:Sl 2 encS w a2 m s) (hn:n≤9223372036854775807) :
  Calls Tryz.prog 167 #[.agg #[.int .i64 i1,.slice a1 n c1],.agg #[.int .i64 i2,.slice a2 m c2]] w fun e w'=>e=.returned (.bool (decide ((i1,r)=(i2,s))))∧Ex w w':=by
 go_enter Tryz.func167,Tryz.ntmps167
 by_cases hi:i1=i2
 ·subst hi
  have k1:=Ex.new w (.cells #[.int .i64 i1,.slice a1 n c1] 121)
  have k2:=k1.alloc (.cells #[.int .i64 i1,.slice a2 m c2] 121)
  have R1:=h1.nx k2
  have R2:=h2.nx k2
  have DD:Hid (decide ((i1,r)=(i1,s))=decide (r=s)):=lH (by rw [decide_eq_decide];simp)
  have K2:=lH k2
  clear h1 h2 k1 k2
  go_wp2_with fail
  (with_reducible refine (eql_p _ _ _ _ _ _ _ _ _ R1 R2 hn).mono ?_)
  rintro e w1 ⟨rfl,kk⟩
  clear R1 R2
  go_wp2_with fail
  go_ret
  exact ⟨by rw [DD.out];rfl,K2.out.nx kk⟩
 ·have d1:(i1==i2)=false:=by simpa using hi
  have ND:Hid (decide ((i1,r)=(i2,s))=false):=lH (decide_eq_false (fun h=>hi (by cases h;rfl)))
  clear h1 h2
  go_wp2_with fail
  go_ret
  exact ⟨by rw [ND.out];rfl,((Ex.refl w).alloc _).alloc _⟩
set_option maxRecDepth 100000 in
set_option maxHeartbeats 4000000 in
theorem eqf_p (a1 a2:Option Addr) (n m c1 c2:Nat) (L M:List Lkd) (w:World) (h1:LkL w a1 n L) (h2:LkL w a2 m M) (hn:n≤1000000) (hs:∀ c∈L,c.2.length≤9223372036854775807) :
  Calls Tryz.prog 166 #[.slice a1 n c1,.slice a2 m c2,.func (.func 167) #[] #[]] w fun e w'=>e=.returned (.bool (decide (L=M)))∧Ex w w':=by
 have HL:=lH h1.len
 have HM:=lH h2.len
 have HS:=lH hs
 have H1:=lH h1
 have H2:=lH h2
 clear hs h1 h2
 go_enter Tryz.func166,Tryz.ntmps166
 by_cases hnm:n=m
 ·subst hnm
  go_wp2_with fail
  go_loopw [17] (fun i wr=>SmRel L M n w i wr) (fun i _=>n-(intOf i).toNat)
  case atStart=>exact ⟨0,by omega,rfl,Ex.refl _,rfl⟩
  case round =>
   obtain ⟨k,hk,rfl,kw,hT⟩:=hrel
   obtain ⟨wo,rfl⟩:∃ wo:World,wo=wr:=⟨_,rfl⟩
   have HT:=lH hT
   clear hT
   by_cases hlt:k<n
   ·obtain ⟨x1,o1,a1',n1',c1',d1,rfl,hx1,hy1,hc1,r1⟩:=(H1.out.nx kw).at hlt
    obtain ⟨x2,o2,a2',n2',c2',d2,rfl,hx2,hy2,hc2,r2⟩:=(H2.out.nx kw).at hlt
    have e0:wo.cell? ⟨x1,o1+k*2,none⟩=some (.int .i64 d1.1):=hc1 0 _ rfl
    have e1:wo.cell? ⟨x1,o1+k*2+1,none⟩=some (.slice a1' n1' c1'):=hc1 1 _ rfl
    have f0:wo.cell? ⟨x2,o2+k*2,none⟩=some (.int .i64 d2.1):=hc2 0 _ rfl
    have f1:wo.cell? ⟨x2,o2+k*2+1,none⟩=some (.slice a2' n2' c2'):=hc2 1 _ rfl
    have hne1:¬ x1=wo.heap.size:=by omega
    have hne2:¬ x2=wo.heap.size:=by omega
    have HY1:=lH hy1
    have HY2:=lH hy2
    have hb1:n1'≤9223372036854775807:=by rw [← r1.len];exact HS.out _ (List.mem_of_getElem? hy1)
    have k1:=Ex.new wo (.cells #[.int .i64 d1.1,.slice a1' n1' c1'] 121)
    have k2:=k1.alloc (.cells #[.int .i64 d2.1,.slice a2' n2' c2'] 121)
    have R1:=lH (fun (cur:World) (k:Ex wo cur)=>r1.nx k)
    have R2:=lH (fun (cur:World) (k:Ex wo cur)=>r2.nx k)
    have K2:=lH k2
    have KW:=lH kw
    clear hc1 hc2 hy1 hy2 r1 r2 k1 k2 kw
    go_wp2_with fail
    (with_reducible refine (same1_p _ _ _ _ _ _ _ _ _ _ _ (R1.out _ K2.out) (R2.out _ K2.out) hb1).mono ?_)
    rintro e w1 ⟨rfl,kk⟩
    have KZ:=lH (KW.out.nx (K2.out.nx kk))
    clear kk K2 R1 R2 e0 e1 f0 f1
    by_cases hd:(d1.1,d1.2)=(d2.1,d2.2)
    ·rw [decide_eq_true hd]
     have ED:Hid (d1=d2):=lH hd
     clear hd
     go_wp2_with fail
     exact ⟨⟨k+1,by omega,by go_num,KZ.out,take_snoc_eq HT.out HY1.out HY2.out ED.out⟩,by simp [intOf];omega⟩
    ·rw [decide_eq_false hd]
     have ND:Hid (decide (L=M)=false):=lH (decide_eq_false (ne_at HY1.out HY2.out hd))
     clear hd
     go_wp2_with fail
     go_ret
     exact ⟨by rw [ND.out];rfl,KZ.out⟩
   ·obtain rfl:k=n:=by omega
    have ED:Hid (decide (L=M)=true):=lH (decide_eq_true (by
     have h3:=HT.out
     rwa [List.take_of_length_le (by rw [HL.out];exact Nat.le_refl _),List.take_of_length_le (by rw [HM.out];exact Nat.le_refl _)] at h3))
    clear hk hlt
    go_wp2_with fail
    go_ret
    exact ⟨by rw [ED.out];rfl,kw⟩
 ·have hnm':¬ (n:Int)=(m:Int):=by omega
  have ND:Hid (decide (L=M)=false):=lH (decide_eq_false (fun h=>hnm (by rw [← HL.out,← HM.out,h])))
  go_wp2_with fail
  go_ret
  exact ⟨by rw [ND.out];rfl,Ex.refl _⟩
theorem same_lp (a1 a2:Option Addr) (n m c1 c2:Nat) (L M:List Lkd) (w:World) (h1:LkL w a1 n L) (h2:LkL w a2 m M) (hn:n≤1000000) (hs:∀ c∈L,c.2.length≤9223372036854775807) :
  Calls Tryz.prog 93 #[.slice a1 n c1,.slice a2 m c2] w fun e w'=>e=.returned (.bool (decide (L=M)))∧Ex w w':=by
 go_enter Tryz.func93,Tryz.ntmps93
 go_wp2_with fail
 (with_reducible refine (eqf_p _ _ _ _ _ _ _ _ _ h1 h2 hn hs).mono ?_)
 rintro e w1 ⟨rfl,kk⟩
 clear h1 h2
 go_wp2_with fail
 go_ret
 exact ⟨rfl,kk⟩
end Go.Proofs.YthcholmhmcpooaaGreatDoor
