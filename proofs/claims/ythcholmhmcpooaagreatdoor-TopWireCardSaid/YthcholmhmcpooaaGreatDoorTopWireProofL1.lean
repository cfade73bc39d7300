/- Texts for TopWireProof. -/
import Derived.Test.YthcholmhmcpooaaGreatDoorWAll30
set_option linter.unusedSimpArgs false
set_option linter.unusedVariables false

namespace Go.Proofs.YthcholmhmcpooaaGreatDoor
open Go.RowKit
theorem build_ok0 {l:List Nd} (h0:checkN l=0) {h:Nat} (hh:h≤16):(buildN l (h:Int)).2=0∧(buildN l (h:Int)).1.length=l.length∧∀ c∈(buildN l (h:Int)).1,c.2.length=h+1:=by
 unfold buildN
 rw [if_neg (by rw [h0];simp),if_neg (by unfold lvlN;simp;omega)]
 refine ⟨rfl,by simp [sortN_length],?_⟩
 intro c hc
 obtain ⟨x,_,rfl⟩:=List.mem_map.1 hc
 rw [rowN_len]
 omega
end Go.Proofs.YthcholmhmcpooaaGreatDoor
namespace Go.Proofs.YthcholmhmcpooaaGreatDoor
open Go.RowKit Go.Shelf
theorem run_copy_cells2 {P:Program} (w:World) (dT sT ty elem:TypeId) (b o dLen dCap:Nat) (a:Addr) (sLen sCap:Nat) (cs:List Value)
  (hu:P.underlying dT=some (.slice elem)) (hs:(P.info? elem).map (·.size)=some 2) (k:Nat) (hk:k=Nat.min sLen dLen) (hn:cs.length=k*2)
  (hsrc:∀ j v,cs[j]?=some v→w.cell? (a.add j)=some v) (hc:∀ j,j<cs.length→(w.cell? ⟨b,o+j,none⟩).isSome=true) (hf:∀ j,j<cs.length→w.frozen? ⟨b,o+j,none⟩=false) (h1:∀ v∈cs,v.oneCell'=true) :
  (Builtin.copy_ #[dT,sT] ty #[.slice (some ⟨b,o,none⟩) dLen dCap,.slice (some a) sLen sCap]).run P w=.ok (goInt k) (w.setCells b o cs):=by
 have hl:=run_loadCells_list (P:=P) w a cs hsrc
 have hst:=run_storeCells_cells (P:=P) b o cs 0 w (by simpa using hc) (by simpa using hf) h1
 cases hq:P.info? elem with
 | none=>simp [hq] at hs
 | some i =>
  have hi:i.size=2:=by simpa [hq] using hs
  rw [hn] at hl
  simp [Builtin.copy_,run_underlying hu,Builtin.lenOf,Builtin.firstCells,sizeOf,typeInfo,hq,hi,← hk,hl,hst]
theorem chg_cells {g:Nat} {S:Nat→Prop} {w0:World} (hS:∀ x,S x→x≠g):∀ (vs:List Value) (w:World) (j:Nat),Chg S w0 w→Chg S w0 (w.setCells g j vs)
 | [],_,_,h=>h
 | v::vs,w,j,h=>chg_cells hS vs _ (j+1) (h.setCell (p:=⟨g,j,none⟩) v (fun k hk=>hS k hk))
section
variable {α:Type} {sz:Nat} {enc:α→List Value} {e:TypeId} {base:Nat} {w:World} {l:List α} {g n cap:Nat}
theorem OwnW.parts (h:OwnW sz enc e base w (.slice (some ⟨g,0,none⟩) n cap) l):∃ cur:Array Value,n=l.length∧base≤g∧w.heap[g]?=some (.cells cur e (0,0))∧n≤cap∧cap≤maxLen∧cap*sz≤cur.size∧cur.toList.take (n*sz)=l.flatMap enc∧(l.flatMap enc).length=n*sz:=by
 rcases h with ⟨h1,_⟩ | ⟨g',cap',cur,e1,e2,e3,e4,e5,e6,e7⟩
 ·cases h1
 ·obtain ⟨rfl,hLn,rfl⟩:g=g'∧n=l.length∧cap=cap':=by simpa using e1
  subst hLn
  exact ⟨cur,rfl,e2,e3,e4,e5,e6,e7,by have:=congrArg List.length e7;have hm:=Nat.mul_le_mul_right sz e4;have h0:cur.toList.length=cur.size:=Array.length_toList;rw [List.length_take,h0,Nat.min_eq_left (by omega)] at this;exact this.symm⟩
theorem OwnW.cellC (h:OwnW sz enc e base w (.slice (some ⟨g,0,none⟩) n cap) l) {j:Nat} (hj:j<cap*sz):(w.cell? ⟨g,j,none⟩).isSome=true∧w.frozen? ⟨g,j,none⟩=false:=by
 obtain ⟨cur,a1,a2,a3,a4,a5,a6,a7,a8⟩:=h.parts
 have hsz:j<cur.size:=by omega
 exact ⟨by simp [World.cell?,a3,hsz],by simp [World.frozen?,a3]⟩
end
section
variable {N:List Nd}
theorem build_two (h0:checkN N=0) {m:Nat} (hm:m≤16):(buildN N (m:Int)).2=0:=by
 unfold buildN
 rw [if_neg (by rw [h0];simp),if_neg (by rw [lvl_nat hm];simp)]
theorem exact_build (h0:checkN N=0) {m:Nat} (hm:m≤16):exactI N (buildN N (m:Int)).1 m=true:=by
 unfold exactI
 rw [build_two h0 hm]
 simp
end
def byt (n:Nat):UInt8:=UInt8.ofNat n
theorem byt_toNat (n:Nat):(byt n).toNat=n % 256:=by simp [byt]
def encF:Nat→Nat→List UInt8
 | 0,n=>[byt n]
 | f+1,n=>if n<128 then [byt n] else byt (n % 128+128)::encF f (n / 128)
def encU (n:Nat):List UInt8:=encF 9 n
theorem encF_lt (f n:Nat) (h:n<128):encF f n=[byt n]:=by cases f<;>simp [encF,h]
theorem encF_length:∀ f n,(encF f n).length≤f+1
 | 0,n=>by simp [encF]
 | f+1,n=>by
  unfold encF
  split
  ·simp
  ·have:=encF_length f (n / 128);simp;omega
theorem encU_length (n:Nat):(encU n).length≤10:=encF_length 9 n
theorem wrap_u8n (n:Int):IntKind.u8.wrap n=n % 256:=by simp [IntKind.wrap,IntKind.signed,IntKind.bits]
theorem wrap_u64n (n:Int):IntKind.u64.wrap n=n % 18446744073709551616:=by rw [IntKind.wrap_u64]
theorem byte_or (n:Nat):bits BinOp.or IntKind.u8 ((n:Int) % 256) 128=((byt (n % 128+128)).toNat:Int):=by
 have h0:(n:Int) % 256=((n % 256:Nat):Int):=by omega
 rw [h0]
 have h1:(BitVec.ofInt 8 ((n % 256:Nat):Int)).toNat=n % 256:=by
  rw [BitVec.ofInt_natCast,BitVec.toNat_ofNat];omega
 have h2:(BitVec.ofInt 8 (128:Int)).toNat=128:=by decide
 show IntKind.u8.wrap ((BitVec.ofInt 8 ((n % 256:Nat):Int) ||| BitVec.ofInt 8 (128:Int)).toNat:Int)=_
 rw [BitVec.toNat_or,h1,h2,wrap_u8n,byt_toNat]
 have key:∀ m,m<256→m ||| 128=m % 128+128:=by decide +kernel
 rw [key (n % 256) (by omega)]
 omega
theorem byte_last (n:Nat) (h:n<128):IntKind.u8.wrap (n:Int)=((byt n).toNat:Int):=by rw [wrap_u8n,byt_toNat];omega
def decA:List UInt8→Nat→Nat→Option (Nat×Nat)
 | [],_,_=>none
 | c::r,i,n =>
  if (i=9∧1<c.toNat)∨(0<i∧c.toNat=0) then none
  else if c.toNat<128 then some (n+c.toNat*2 ^ (7*i),i+1)
  else decA r (i+1) (n+c.toNat % 128*2 ^ (7*i))
def decU (b:List UInt8):Option (Nat×Nat):=decA b 0 0
theorem pow_lt64 {c i:Nat} (h:c<128) (hi:i≤9) (h9:i=9→c≤1):c*2 ^ (7*i)<18446744073709551616:=by
 rcases Nat.lt_or_ge i 9 with h8 | h8
 ·have:2 ^ (7*i)≤2 ^ 56:=Nat.pow_le_pow_right (by omega) (by omega)
  have:c*2 ^ (7*i)≤127*2 ^ 56:=Nat.mul_le_mul (by omega) this
  omega
 ·have:i=9:=by omega
  subst this
  have:=h9 rfl
  have:c*2 ^ (7*9)≤1*2 ^ 63:=Nat.mul_le_mul this (by omega)
  omega
theorem or_add {n c i:Nat} (h:n<2 ^ (7*i)):n ||| c*2 ^ (7*i)=n+c*2 ^ (7*i):=by
 have:=Nat.two_pow_add_eq_or_of_lt h c
 rw [Nat.or_comm,Nat.mul_comm c,← this,Nat.add_comm]
theorem next_lt {n c i:Nat} (h:n<2 ^ (7*i)) (hc:c<128):n+c*2 ^ (7*i)<2 ^ (7*(i+1)):=by
 have:2 ^ (7*(i+1))=128*2 ^ (7*i):=by rw [show 7*(i+1)=7*i+7 by omega,Nat.pow_add];omega
 rw [this]
 have:c*2 ^ (7*i)≤127*2 ^ (7*i):=Nat.mul_le_mul (by omega) (Nat.le_refl _)
 omega
theorem decA_take {b:List UInt8} {i n N K:Nat} (h:decA b i n=some (N,K)):i<K∧K≤i+b.length:=by
 induction b generalizing i n with
 | nil=>simp [decA] at h
 | cons c r ih =>
  unfold decA at h
  split at h
  ·cases h
  ·split at h
   ·cases h;simp
   ·have:=ih h;simp;omega
theorem decU_take {b:List UInt8} {N K:Nat} (h:decU b=some (N,K)):0<K∧K≤b.length:=by
 have:=decA_take h;omega
theorem decA_lt {b:List UInt8} {i n N K:Nat} (h:decA b i n=some (N,K)) (hi:i≤9) (hn:n<2 ^ (7*i)):N<18446744073709551616∧K≤10:=by
 induction b generalizing i n with
 | nil=>simp [decA] at h
 | cons c r ih =>
  unfold decA at h
  split at h
  ·cases h
  ·rename_i hg
   split at h
   ·rename_i hc
    cases h
    refine ⟨?_,by omega⟩
    rcases Nat.lt_or_ge i 9 with h8 | h8
    ·have:=next_lt hn hc
     have:2 ^ (7*(i+1))≤2 ^ 63:=Nat.pow_le_pow_right (by omega) (by omega)
     omega
    ·have:i=9:=by omega
     subst this
     have hc1:c.toNat≤1:=by omega
     have:c.toNat*2 ^ (7*9)≤1*2 ^ 63:=Nat.mul_le_mul hc1 (by omega)
     omega
   ·rename_i hc
    have hi9:i≠9:=by omega
    exact ih h (by omega) (next_lt hn (by omega))
theorem decU_lt {b:List UInt8} {N K:Nat} (h:decU b=some (N,K)):N<18446744073709551616∧K≤10:=decA_lt h (by omega) (by simp)
theorem decA_encF:∀ (f m i n:Nat) (r:List UInt8),m<128*128 ^ f→f+i=9→(0<i→0<m)→(i=9→m≤1)→(f=9-i→m*2 ^ (7*i)<18446744073709551616)→decA (encF f m++r) i n=some (n+m*2 ^ (7*i),i+(encF f m).length)
 | 0,m,i,n,r,hm,hfi,h0,h9,hb=>by
  have hm1:m≤1:=h9 (by omega)
  simp only [encF,List.cons_append,List.nil_append,decA]
  rw [byt_toNat,Nat.mod_eq_of_lt (by omega),if_neg (by omega),if_pos (by omega)]
  simp
 | f+1,m,i,n,r,hm,hfi,h0,h9,hb=>by
  unfold encF
  by_cases h:m<128
  ·rw [if_pos h]
   simp only [List.cons_append,List.nil_append,decA]
   rw [byt_toNat,Nat.mod_eq_of_lt (by omega),if_neg (by omega),if_pos (by omega)]
   simp
  ·rw [if_neg h]
   simp only [List.cons_append,decA]
   rw [byt_toNat,Nat.mod_eq_of_lt (by omega),if_neg (by omega),if_neg (by omega)]
   have e1:2 ^ (7*(i+1))=128*2 ^ (7*i):=by rw [show 7*(i+1)=7*i+7 by omega,Nat.pow_add];omega
   have hsum:m / 128*2 ^ (7*(i+1))+m % 128*2 ^ (7*i)=m*2 ^ (7*i):=by
    rw [e1,← Nat.mul_assoc,← Nat.add_mul]
    congr 1
    omega
   have hb':m / 128*2 ^ (7*(i+1))<18446744073709551616:=by
    have:=hb (by omega)
    omega
   rw [decA_encF f (m / 128) (i+1) _ r (by rw [Nat.pow_succ] at hm;omega) (by omega) (by omega) ?_ (fun _=>hb')]
   ·rw [List.length_cons]
    have:(m % 128+128) % 128=m % 128:=by omega
    rw [this]
    congr 2
    ·omega
    ·omega
   ·intro h9'
    rw [show (7*(i+1))=63 by omega] at hb'
    omega
theorem decU_encU (n:Nat) (r:List UInt8) (h:n<18446744073709551616):decU (encU n++r)=some (n,(encU n).length):=by
 unfold decU encU
 rw [decA_encF 9 n 0 0 r (by omega) (by omega) (by omega) (by omega) (by intro _;simpa using h)]
 simp
theorem Tryz.infoB:(Tryz.prog.info? 5).map (fun i=>(i.zero,i.size,i.bytes))=some (some (.int .u8 0),1,1):=by kernel_rfl
def BytesPost (l:List UInt8) (w:World) (e:Ending) (w':World):Prop :=
 ∃ v,e=.returned v∧OwnL 1 encB 5 w.heap.size w' v l∧Ex w w'
def AppRel (b:List UInt8) (N:Nat) (w:World) (nv o:Value) (wr:World):Prop :=
 ∃ (pre:List UInt8) (m f:Nat),nv=.int .u64 m∧m<128*128 ^ f∧m<18446744073709551616∧f≤9∧encU N=pre++encF f m∧OwnL 1 encB 5 w.heap.size wr o (b++pre)∧Ex w wr
theorem app_next {pre:List UInt8} {N f m:Nat} (h:encU N=pre++encF f m) (hm:128≤m) (hf:m<128*128 ^ f):∃ f',f=f'+1∧m / 128<128*128 ^ f'∧encU N=(pre++[byt (m % 128+128)])++encF f' (m / 128):=by
 cases f with
 | zero=>omega
 | succ f =>
  refine ⟨f,rfl,by rw [Nat.pow_succ] at hf;omega,?_⟩
  rw [h,List.append_assoc]
  congr 1
  simp only [encF]
  rw [if_neg (by omega)]
  rfl
set_option maxRecDepth 100000 in
set_option maxHeartbeats 1000000 in
theorem appuint_p (a:Option Addr) (n cap:Nat) (b:List UInt8) (N:Nat) (w:World) (h:Sl 1 encB w a n b) (hn:n≤200000) (hnil:a=none→cap=0) (hN:N<18446744073709551616) :
  Calls Tryz.prog 94 #[.slice a n cap,.int .u64 N] w (BytesPost (b++encU N) w):=by
 have HBL:=lH h.len
 have q0:=Ex.new w (.cells #[] 5)
 have h0:=h.nx q0
 have own0:OwnL 1 encB 5 w.heap.size (w.alloc (.cells #[] 5)) (.slice (some ⟨w.heap.size,0,none⟩) 0 0) []:=OwnL.empty (Nat.le_refl _) rfl
 go_enter Tryz.func94,Tryz.ntmps94
 go_wp2_with (at_builtin;go_loud (refine wpList_append_rd (enc:=encB) _ rfl _ _ 65 rfl w.heap.size 5 (.int .u8 0) 1 1 Tryz.underlying65 Tryz.infoB rfl (by omega) (by omega) _ [] own0 rfl _ a n cap b h0 hnil (fun _=>rfl) (by simp [encB,Value.oneCell']) rfl (by simp) (by omega) (by simp) ?_);intro v1 w1 own1 hch0 hch1)
 go_loopw [1,5] (fun nv o wr=>AppRel b N w nv o wr) (fun nv _ _=>(intOf nv).toNat)
 case atStart=>exact ⟨[],N,9,rfl,by omega,hN,by omega,rfl,by simpa using own1,Chg.trans q0 hch1⟩
 case round =>
  obtain ⟨pre,m,f,rfl,hm,hm2,hf,henc,hown,hc⟩:=hrel
  obtain ⟨wo,rfl⟩:∃ wo:World,wo=wr:=⟨_,rfl⟩
  have hz:=hc.size
  have hpl:(b++pre).length≤200010:=by
   have:=encU_length N
   rw [henc] at this
   have:=HBL.out
   simp at *;omega
  have HE:=lH henc
  have HM2:=lH hm2
  have HM3:Hid (m / 128<18446744073709551616):=lH (by omega)
  clear hm2 hN henc own1 hch1 hch0 own0 h h0 q0
  by_cases hlt:128≤m
  ·obtain ⟨f',rfl,hf2,HE2⟩:=app_next HE.out hlt hm
   have HE2:=lH HE2
   have hb:=byte_or m
   have HF:=lH hf2
   clear hm hf2
   go_wp2_with (at_builtin;go_loud (refine wpList_append_lit (enc:=encB) wo rfl _ _ 65 rfl w.heap.size 5 (.int .u8 0) 1 1 Tryz.underlying65 Tryz.infoB rfl (by omega) (by omega) _ _ hown rfl (byt (m % 128+128)) _ rfl rfl (by simp [encB,Value.oneCell']) _ (by simp) rfl (by omega) (by omega) _ ?_);intro v' w3 hown3 _ hch3 hz3)
   go_roundw
   case rel=>exact ⟨pre++[byt (m % 128+128)],m / 128,f',congrArg (Value.int .u64) (by omega),HF.out,HM3.out,by omega,HE2.out,by rw [← List.append_assoc];exact hown3,Chg.trans hc hch3⟩
   case measure=>simp [intOf];omega
  ·have HE2:=lH (show encU N=pre++[byt m] by rw [HE.out,encF_lt _ _ (by omega)])
   have hb:=byte_last m (by omega)
   clear hm
   go_wp2_with (at_builtin;go_loud (refine wpList_append_lit (enc:=encB) wo rfl _ _ 65 rfl w.heap.size 5 (.int .u8 0) 1 1 Tryz.underlying65 Tryz.infoB rfl (by omega) (by omega) _ _ hown rfl (byt m) _ rfl rfl (by simp [encB,Value.oneCell']) _ (by simp) rfl (by omega) (by omega) _ ?_);intro v' w3 hown3 _ hch3 hz3)
   go_ret
   exact ⟨_,rfl,by rw [HE2.out,← List.append_assoc];exact hown3,Chg.trans hc hch3⟩
def numR (r:Option (Nat×Nat)):Nat×Nat×Nat:=match r with | some (n,k)=>(n,k,0) | none=>(0,0,4)
def decR (b:List UInt8):Nat×Nat×Nat:=numR (decU b)
def DecRel (b:List UInt8) (nv iv:Value):Prop :=
 ∃ (i m:Nat),nv=.int .u64 m∧iv=.int .i64 i∧i≤b.length∧i≤9∧m<2 ^ (7*i)∧decU b=decA (b.drop i) i m
theorem dec_bad {b r:List UInt8} {c:UInt8} {i m:Nat} (hd:decU b=decA (c::r) i m) (h:(i=9∧1<c.toNat)∨(0<i∧c.toNat=0)):decR b=(0,0,4):=by
 unfold decR;rw [hd];unfold decA;rw [if_pos h];rfl
theorem dec_end {b r:List UInt8} {c:UInt8} {i m:Nat} (hd:decU b=decA (c::r) i m) (h:¬ ((i=9∧1<c.toNat)∨(0<i∧c.toNat=0))) (hc:c.toNat<128):decR b=(m+c.toNat % 128*2 ^ (7*i),i+1,0):=by
 unfold decR;rw [hd];unfold decA;rw [if_neg h,if_pos hc,Nat.mod_eq_of_lt hc];rfl
theorem dec_on {b r:List UInt8} {c:UInt8} {i m:Nat} (hd:decU b=decA (c::r) i m) (h:¬ ((i=9∧1<c.toNat)∨(0<i∧c.toNat=0))) (hc:¬ c.toNat<128):decU b=decA r (i+1) (m+c.toNat % 128*2 ^ (7*i)):=by
 rw [hd];conv=>lhs;unfold decA
 rw [if_neg h,if_neg hc]
theorem bits_or_u64n (a b:Nat) (ha:a<18446744073709551616) (hb:b<18446744073709551616):bits .or .u64 (a:Int) (b:Int)=((a ||| b:Nat):Int):=by
 have h1:∀ a:Nat,a<18446744073709551616→(BitVec.ofInt 64 (a:Int)).toNat=a:=fun a ha=>by
  rw [BitVec.ofInt_natCast,BitVec.toNat_ofNat];exact Nat.mod_eq_of_lt (by omega)
 have h2:=Nat.or_lt_two_pow (n:=64) (x:=a) (y:=b) (by omega) (by omega)
 show IntKind.u64.wrap ((BitVec.ofInt 64 (a:Int) ||| BitVec.ofInt 64 (b:Int)).toNat:Int)=_
 rw [BitVec.toNat_or,h1 a ha,h1 b hb,wrap_u64n]
 omega
theorem bits_and127 (c:Nat) (hc:c<256):bits BinOp.and IntKind.u8 (c:Int) 127=((c % 128:Nat):Int):=by
 have h1:(BitVec.ofInt 8 (c:Int)).toNat=c:=by
  rw [BitVec.ofInt_natCast,BitVec.toNat_ofNat];omega
 have h2:(BitVec.ofInt 8 (127:Int)).toNat=127:=by decide
 show IntKind.u8.wrap ((BitVec.ofInt 8 (c:Int) &&& BitVec.ofInt 8 (127:Int)).toNat:Int)=_
 rw [BitVec.toNat_and,h1,h2,wrap_u8n]
 rw [show (127:Nat)=2 ^ 7-1 from rfl,Nat.and_two_pow_sub_one_eq_mod]
 omega
theorem or_key {c i m:Nat} (hi:i≤9) (h9:i=9→c % 128≤1) (hm:m<2 ^ (7*i)):bits BinOp.or IntKind.u64 (m:Int) (IntKind.u64.wrap ((c % 128:Nat)*2 ^ (7*i)))=((m+c % 128*2 ^ (7*i):Nat):Int):=by
 have h1:=pow_lt64 (c:=c % 128) (i:=i) (by omega) hi (by omega)
 have h2:2 ^ (7*i)≤2 ^ 63:=Nat.pow_le_pow_right (by omega) (by omega)
 have h3:((c % 128:Nat):Int)*2 ^ (7*i)=((c % 128*2 ^ (7*i):Nat):Int):=by simp
 have h4:IntKind.u64.wrap (((c % 128*2 ^ (7*i):Nat):Int))=((c % 128*2 ^ (7*i):Nat):Int):=by rw [wrap_u64n];omega
 rw [h3,h4,bits_or_u64n _ _ (by omega) h1,or_add hm]
theorem or_key_p {c i m m':Nat} (hi:i≤9) (hc:c<256) (h9:i=9→c≤1) (hm:m<2 ^ (7*i)) (hm':m'=m+c % 128*2 ^ (7*i)) :
  bits BinOp.or IntKind.u64 (m:Int) (IntKind.u64.wrap (IntKind.u64.wrap (bits BinOp.and IntKind.u8 (c:Int) 127)*2 ^ (7*i)))=(m':Int):=by
 rw [bits_and127 c hc,show IntKind.u64.wrap ((c % 128:Nat):Int)=((c % 128:Nat):Int) by rw [wrap_u64n];omega,or_key hi (fun h=>by have:=h9 h;omega) hm,hm']
set_option maxRecDepth 100000 in
set_option maxHeartbeats 1000000 in
theorem uint_p (a:Option Addr) (n cap:Nat) (b:List UInt8) (w:World) (h:Sl 1 encB w a n b) (hn:n≤9223372036854775807) :
  Calls Tryz.prog 170 #[.slice a n cap] w fun e w'=>e=.returned (.tuple #[.int .u64 (decR b).1,.int .i64 (decR b).2.1,.int .i64 (decR b).2.2])∧w=w':=by
 have HBL:=lH h.len
 go_enter Tryz.func170,Tryz.ntmps170
 go_wp2
 go_loop [5,10] (fun nv iv=>DecRel b nv iv) (fun _ i=>n-(intOf i).toNat)
 case atStart=>exact ⟨0,0,rfl,rfl,by omega,by omega,by simp,rfl⟩
 case round =>
  obtain ⟨i,m,rfl,rfl,hi,hi9,hm,hd⟩:=hrel
  have hbl:=HBL.out
  by_cases hlt:i<n
  ·obtain ⟨x,o,c,rfl,hx,hy,hcell⟩:=h.at hlt
   have e0:w.cell? ⟨x,o+i,none⟩=some (.int .u8 c.toNat):=by simpa using hcell 0 _ rfl
   have hdr:b.drop i=c::b.drop (i+1):=by
    rw [List.drop_eq_getElem_cons (by omega)]
    congr 1
    rw [List.getElem?_eq_getElem (by omega)] at hy
    exact Option.some.inj hy
   rw [hdr] at hd
   have hc:=c.toNat_lt
   by_cases hbad:(i=9∧1<c.toNat)∨(0<i∧c.toNat=0)
   ·have HR:=lH (dec_bad hd hbad)
    clear h hcell hy hdr hd hm hbl
    generalize c.toNat=c' at *
    rcases hbad with ⟨h9,h1⟩ | ⟨h0,h1⟩
    ·have d9:((i:Int)==9)=true:=by simp;omega
     clear h9
     have d1:decide (1<(c':Int))=true:=by simp;omega
     go_wp2
     go_ret3
     exact ⟨by rw [HR.out];rfl,rfl⟩
    ·subst h1
     have d1:decide (0<i)=true:=by simp;omega
     go_wp2
     all_goals go_ret3
     all_goals exact ⟨by rw [HR.out];rfl,rfl⟩
   obtain ⟨m',hm'⟩:∃ m',m'=m+c.toNat % 128*2 ^ (7*i):=⟨_,rfl⟩
   have HE:=lH (dec_end hd hbad)
   have HO:=lH (dec_on hd hbad)
   have hk:=or_key_p hi9 hc (by omega) hm hm'
   have HML:=lH (next_lt (c:=c.toNat % 128) hm (by omega))
   rw [← hm'] at HE HO HML
   clear h hcell hy hdr hd hm hbl hm'
   generalize c.toNat=c' at *
   by_cases h9:i=9
   ·have d9:((i:Int)==9)=true:=by simp;omega
    have d1:decide (1<(c':Int))=false:=by simp;omega
    have d2:c'<128:=by omega
    have d0:decide (0<i)=true:=by simp;omega
    have dc:((c':Int)==0)=false:=by simp;omega
    have z0:0<i:=by omega
    clear hbad h9
    go_wp2
    go_ret3
    exact ⟨by rw [HE.out (by omega)];rfl,rfl⟩
   ·have d9:((i:Int)==9)=false:=by simp;omega
    have z9:i<9:=by omega
    by_cases h0:i=0
    ·have d0:decide (0<i)=false:=by simp;omega
     have z0:i≤0:=by omega
     clear hbad h9 h0
     go_wp2
     ·go_ret3
      exact ⟨by rw [HE.out (by omega)];rfl,rfl⟩
     ·go_round
      case rel=>exact ⟨i+1,m',rfl,by go_num,by have:=HBL.out;omega,by omega,HML.out,HO.out (by omega)⟩
      case measure=>simp [intOf];omega
    ·have d0:decide (0<i)=true:=by simp;omega
     have dc:((c':Int)==0)=false:=by simp;omega
     have z0:0<i:=by omega
     clear hbad h9 h0
     go_wp2
     ·go_ret3
      exact ⟨by rw [HE.out (by omega)];rfl,rfl⟩
     ·go_round
      case rel=>exact ⟨i+1,m',rfl,by go_num,by have:=HBL.out;omega,by omega,HML.out,HO.out (by omega)⟩
      case measure=>simp [intOf];omega
  ·have HR:Hid (decR b=(0,0,4)):=by
    show decR b=_
    unfold decR
    rw [hd,List.drop_of_length_le (by omega)]
    rfl
   clear h hd hm hbl
   go_wp2
   go_ret3
   exact ⟨by rw [HR.out];rfl,rfl⟩
def zig (n:Int):Nat:=if n<0 then (-(n+1)).toNat*2+1 else n.toNat*2
def unzig (N:Nat):Int:=if N % 2=1 then -((N / 2:Nat):Int)-1 else ((N / 2:Nat):Int)
theorem unzig_zig (n:Int):unzig (zig n)=n:=by unfold zig unzig;split<;>(split<;>omega)
theorem zig_lt {n:Int} (h1:-9223372036854775808≤n) (h2:n≤9223372036854775807):zig n<18446744073709551616:=by unfold zig;split<;>omega
def intR (b:List UInt8):Int×Nat×Nat:=match decU b with | some (n,k)=>(unzig n,k,0) | none=>(0,0,4)
theorem bits_xor_u64n (a b:Nat) (ha:a<18446744073709551616) (hb:b<18446744073709551616):bits .xor .u64 (a:Int) (b:Int)=((a ^^^ b:Nat):Int):=by
 have h1:∀ a:Nat,a<18446744073709551616→(BitVec.ofInt 64 (a:Int)).toNat=a:=fun a ha=>by
  rw [BitVec.ofInt_natCast,BitVec.toNat_ofNat];exact Nat.mod_eq_of_lt (by omega)
 have h2:=Nat.xor_lt_two_pow (n:=64) (x:=a) (y:=b) (by omega) (by omega)
 show IntKind.u64.wrap ((BitVec.ofInt 64 (a:Int) ^^^ BitVec.ofInt 64 (b:Int)).toNat:Int)=_
 rw [BitVec.toNat_xor,h1 a ha,h1 b hb,wrap_u64n]
 omega
theorem xor_ones (x:Int) (h0:0≤x) (h1:x<18446744073709551616):bits .xor .u64 x 18446744073709551615=18446744073709551615-x:=by
 obtain ⟨x,rfl⟩:=Int.eq_ofNat_of_zero_le h0
 have e1:(BitVec.ofInt 64 (x:Int)).toNat=x:=by
  rw [BitVec.ofInt_natCast,BitVec.toNat_ofNat];exact Nat.mod_eq_of_lt (by omega)
 have e2:BitVec.ofInt 64 (18446744073709551615:Int)=BitVec.allOnes 64:=by decide
 show IntKind.u64.wrap ((BitVec.ofInt 64 (x:Int) ^^^ BitVec.ofInt 64 (18446744073709551615:Int)).toNat:Int)=_
 rw [e2,BitVec.xor_allOnes,BitVec.toNat_not,e1,wrap_u64n]
 omega
theorem xor_zero (x:Int) (h0:0≤x) (h1:x<18446744073709551616):bits .xor .u64 x 0=x:=by
 obtain ⟨x,rfl⟩:=Int.eq_ofNat_of_zero_le h0
 have:=bits_xor_u64n x 0 (by omega) (by omega)
 rw [Nat.xor_zero] at this
 exact this
theorem sign_key (n:Int) (h1:-9223372036854775808≤n) (h2:n≤9223372036854775807) :
  bits BinOp.xor IntKind.u64 (IntKind.u64.wrap (IntKind.u64.wrap n*2)) (IntKind.u64.wrap (n / 9223372036854775808))=(zig n:Int):=by
 unfold zig
 rcases Int.lt_or_le n 0 with h | h
 ·have e1:n / 9223372036854775808 = -1:=by omega
  have e2:IntKind.u64.wrap (IntKind.u64.wrap n*2)=2*n+18446744073709551616:=by rw [wrap_u64n,wrap_u64n];omega
  have e3:IntKind.u64.wrap (-1)=18446744073709551615:=by rw [wrap_u64n];omega
  rw [e1,e2,e3,xor_ones _ (by omega) (by omega),if_pos h]
  omega
 ·have e1:n / 9223372036854775808=0:=by omega
  have e2:IntKind.u64.wrap (IntKind.u64.wrap n*2)=2*n:=by rw [wrap_u64n,wrap_u64n];omega
  have e3:IntKind.u64.wrap 0=0:=by rw [wrap_u64n];omega
  rw [e1,e2,e3,xor_zero _ (by omega) (by omega),if_neg (by omega)]
  omega
set_option maxRecDepth 100000 in
set_option maxHeartbeats 1000000 in
theorem signless_p (n:Int) (w:World) (h1:-9223372036854775808≤n) (h2:n≤9223372036854775807) :
  Calls Tryz.prog 169 #[.int .i64 n] w fun e w'=>e=.returned (.int .u64 (zig n))∧w=w':=by
 go_enter Tryz.func169,Tryz.ntmps169
 go_wp2
 go_ret
 exact ⟨by rw [← sign_key n h1 h2];rfl,rfl⟩
set_option maxRecDepth 100000 in
set_option maxHeartbeats 1000000 in
theorem appint_p (a:Option Addr) (n cap:Nat) (b:List UInt8) (N:Int) (w:World) (h:Sl 1 encB w a n b) (hn:n≤200000) (hnil:a=none→cap=0) (h1:-9223372036854775808≤N) (h2:N≤9223372036854775807) :
  Calls Tryz.prog 96 #[.slice a n cap,.int .i64 N] w (BytesPost (b++encU (zig N)) w):=by
 have HZ:=lH (zig_lt h1 h2)
 have HS:=lH (signless_p N w h1 h2)
 clear h1 h2
 go_enter Tryz.func96,Tryz.ntmps96
 go_wp2_with fail
 refine HS.out.mono ?_
 rintro e w1 ⟨rfl,rfl⟩
 go_wp2_with fail
 refine (appuint_p _ _ _ _ _ _ h hn hnil HZ.out).mono ?_
 rintro e w1 ⟨v,rfl,hown,hc⟩
 go_wp2_with fail
 go_ret
 exact ⟨_,rfl,hown,hc⟩
theorem wrap_i64n (n:Int):IntKind.i64.wrap n=wrap64 n:=by rw [IntKind.wrap_i64];unfold wrap64;rfl
theorem xor_ones_i (x:Int) (h0:0≤x) (h1:x<9223372036854775808):bits .xor .i64 x (-1) = -x-1:=by
 obtain ⟨x,rfl⟩:=Int.eq_ofNat_of_zero_le h0
 have e1:(BitVec.ofInt 64 (x:Int)).toNat=x:=by
  rw [BitVec.ofInt_natCast,BitVec.toNat_ofNat];exact Nat.mod_eq_of_lt (by omega)
 have e2:BitVec.ofInt 64 (-1:Int)=BitVec.allOnes 64:=by decide
 show IntKind.i64.wrap ((BitVec.ofInt 64 (x:Int) ^^^ BitVec.ofInt 64 (-1:Int)).toNat:Int)=_
 rw [e2,BitVec.xor_allOnes,BitVec.toNat_not,e1,wrap_i64n]
 unfold wrap64
 omega
theorem xor_zero_i (x:Int) (h0:0≤x) (h1:x<9223372036854775808):bits .xor .i64 x 0=x:=by
 obtain ⟨x,rfl⟩:=Int.eq_ofNat_of_zero_le h0
 have e1:(BitVec.ofInt 64 (x:Int)).toNat=x:=by
  rw [BitVec.ofInt_natCast,BitVec.toNat_ofNat];exact Nat.mod_eq_of_lt (by omega)
 show IntKind.i64.wrap ((BitVec.ofInt 64 (x:Int) ^^^ BitVec.ofInt 64 (0:Int)).toNat:Int)=_
 rw [show BitVec.ofInt 64 (0:Int)=0#64 by decide,BitVec.xor_zero,e1,wrap_i64n]
 unfold wrap64
 omega
theorem bits_and1 (N:Nat) (h:N<18446744073709551616):bits BinOp.and IntKind.u64 (N:Int) 1=((N % 2:Nat):Int):=by
 have h1:(BitVec.ofInt 64 (N:Int)).toNat=N:=by
  rw [BitVec.ofInt_natCast,BitVec.toNat_ofNat];exact Nat.mod_eq_of_lt (by omega)
 have h2:(BitVec.ofInt 64 (1:Int)).toNat=1:=by decide
 show IntKind.u64.wrap ((BitVec.ofInt 64 (N:Int) &&& BitVec.ofInt 64 (1:Int)).toNat:Int)=_
 rw [BitVec.toNat_and,h1,h2,wrap_u64n,Nat.and_one_is_mod]
 omega
theorem int_key (N:Nat) (h:N<18446744073709551616):bits BinOp.xor IntKind.i64 (wrap64 ((N:Int) / 2)) (wrap64 (-wrap64 (bits BinOp.and IntKind.u64 (N:Int) 1)))=unzig N:=by
 rw [bits_and1 N h]
 have e1:wrap64 ((N:Int) / 2)=((N / 2:Nat):Int):=by unfold wrap64;omega
 rw [e1]
 unfold unzig
 by_cases hz:N % 2=1
 ·rw [if_pos hz,hz,show wrap64 (-wrap64 ((1:Nat):Int)) = -1 by unfold wrap64;omega,xor_ones_i _ (by omega) (by omega)]
 ·rw [if_neg hz,show N % 2=0 by omega,show wrap64 (-wrap64 ((0:Nat):Int))=0 by unfold wrap64;omega,xor_zero_i _ (by omega) (by omega)]
theorem int_of_dec (b:List UInt8):bits BinOp.xor IntKind.i64 (wrap64 (((decR b).1:Int) / 2)) (wrap64 (-wrap64 (bits BinOp.and IntKind.u64 ((decR b).1:Int) 1)))=(intR b).1∧(intR b).2=(decR b).2:=by
 unfold decR intR
 cases hd:decU b with
 | none=>exact ⟨int_key 0 (by omega),rfl⟩
 | some r =>
  obtain ⟨N,K⟩:=r
  obtain ⟨l1,l2⟩:=decU_lt hd
  exact ⟨int_key N l1,rfl⟩
set_option maxRecDepth 100000 in
set_option maxHeartbeats 1000000 in
theorem int_p (a:Option Addr) (n cap:Nat) (b:List UInt8) (w:World) (h:Sl 1 encB w a n b) (hn:n≤9223372036854775807) :
  Calls Tryz.prog 171 #[.slice a n cap] w fun e w'=>e=.returned (.tuple #[.int .i64 (intR b).1,.int .i64 (intR b).2.1,.int .i64 (intR b).2.2])∧w=w':=by
 go_enter Tryz.func171,Tryz.ntmps171
 go_wp2_with fail
 refine (uint_p _ _ _ _ _ h hn).mono ?_
 rintro e w1 ⟨rfl,rfl⟩
 go_wp2_with fail
 go_ret3
 obtain ⟨k1,k2⟩:=int_of_dec b
 exact ⟨by rw [← k1,k2];rfl,rfl⟩
def strB (l:List UInt8):ByteArray:=⟨l.toArray⟩
theorem foldl_push:∀ (l:List Int) (ns:List UInt8) (s:ByteArray),l=ns.map (fun c=>(c.toNat:Int))→l.foldl (fun r n=>r.push (UInt8.ofNat n.toNat)) s=⟨s.data++ns.toArray⟩
 | [],[],s,_=>by simp
 | x::l,c::ns,s,h=>by
  simp only [List.map_cons,List.cons.injEq] at h
  obtain ⟨rfl,h⟩:=h
  rw [List.foldl_cons,foldl_push l ns _ h]
  simp [ByteArray.push]
 | [],c::ns,s,h=>by simp at h
 | x::l,[],s,h=>by simp at h
theorem run_str {P:Program} {src dst e:TypeId} (hs:P.underlying src=some (.slice e)) (he:P.underlying e=some (.int .u8)) (hd:P.underlying dst=some .string)
  {w:World} {a:Option Addr} {n cap:Nat} {b:List UInt8} (h:Sl 1 encB w a n b):(convert src dst (.slice a n cap)).run P w=.ok (.string (strB b)) w:=by
 rw [run_convert_bytes_string w src dst e a n cap hs he hd]
 cases a with
 | none =>
  have hn:n=0:=by
   rcases h.2 with h0 | ⟨x,o,e1,_⟩
   ·exact h0
   ·cases e1
  have hb:b=[]:=List.eq_nil_of_length_eq_zero (h.1.trans hn)
  subst hb
  simp [Conv.bytesToString,strB,Sem.run_pure]
  rfl
 | some ad =>
  have hl:(loadCells ad n).run P w=.ok ((b.map (fun x=>(x.toNat:Int))).map (Value.int .u8)).toArray w:=by
   have:=run_loadCells_list (P:=P) w ad ((b.map (fun x=>(x.toNat:Int))).map (Value.int .u8)) (fun j v hv=>by
    rcases h.2 with h0 | ⟨x,o,e1,_,e3⟩
    ·have hb:b=[]:=List.eq_nil_of_length_eq_zero (h.1.trans h0)
     subst hb
     simp at hv
    ·cases e1
     rw [List.getElem?_map,List.getElem?_map] at hv
     cases hb:b[j]? with
     | none=>rw [hb] at hv;simp at hv
     | some y =>
      rw [hb] at hv
      simp at hv
      subst hv
      rw [Addr.add_lit]
      simpa using e3 j y hb 0 _ rfl)
   simp only [List.length_map] at this
   rw [h.1] at this
   exact this
  rw [run_bytesToString w ad n cap (b.map (fun x=>(x.toNat:Int))) hl,foldl_push _ b _ rfl]
  simp [strB]
def bytesOf (s:ByteArray):List UInt8:=s.data.toList
theorem strB_bytes (s:ByteArray):strB (bytesOf s)=s:=by simp [strB,bytesOf]
theorem bytesOf_length (s:ByteArray):(bytesOf s).length=s.size:=by unfold bytesOf;rw [Array.length_toList];rfl
theorem strCells_eq (s:ByteArray):Lib.strCells s=(bytesOf s).flatMap encB:=by
 unfold Lib.strCells bytesOf
 induction s.data.toList with
 | nil=>rfl
 | cons c r ih=>rw [List.map_cons,List.flatMap_cons,ih];rfl
theorem wpList_append_string {P:Program} {ops:Array Oper} {rest:List Oper} {o:Oper} {a:Act} {Q:Exit→Act→World→Prop} (w0:World) (hgd:o.guard=none) (s x:Operand) (t u:TypeId)
  (ho:o.op=.call { callee:=.builtin .append,args:=#[s,x],argTypes:=#[t,u] })
  (base:Nat) (e:TypeId) (ht:P.underlying t=some (.slice e)) (hu:P.underlying u=some .string) (hi:(P.info? e).map (fun i=>(i.zero,i.size,i.bytes))=some (some (.int .u8 0),1,1))
  (v:Value) (l:List UInt8) (hown:OwnL 1 encB e base w0 v l) (hs:a.eval s=v) (str:ByteArray)
  (hx:a.eval x=.string str) (hl:l.length≤1000000) (hn:str.size≤1000000) (hbase:base≤w0.heap.size)
  (h:∀ v' w',OwnL 1 encB e base w' v' (l++bytesOf str)→Chg (fun k=>k<w0.heap.size∧¬ v.ownBlock=some k) w0 w'→Chg (· < base) w0 w'→wpList P ops Q rest (a.put o.dst v') w') :
  wpList P ops Q (o::rest) a w0:=by
 obtain ⟨i,hi,hz0,hz1,hz2⟩:=info_parts hi
 refine Lib.wpList_append_own_string w0 hgd s x t u ho base e i ht hu hi hz0 hz1 hz2 v l.length (l.flatMap encB) hs hown str hx (by unfold maxLen;omega) (by omega) hbase ?_
 intro v' w' hown' hgrow _
 have hch:Chg (fun k=>k<w0.heap.size∧¬ v.ownBlock=some k) w0 w':=⟨hgrow.os,hgrow.tape,hgrow.output,hgrow.size,fun k hk=>hgrow.block k hk.1 (fun h=>hk.2 h.symm)⟩
 refine h v' w' ?_ hch (hch.mono fun k hk=>⟨by omega,fun hv=>?_⟩)
 ·unfold OwnL
  rw [strCells_eq] at hown'
  simpa [List.flatMap_append,bytesOf_length] using hown'
 ·have:=hown.lt k hv
  omega
def encStr (s:ByteArray):List UInt8:=encU s.size++bytesOf s
theorem encStr_length (s:ByteArray):(encStr s).length=(encU s.size).length+s.size:=by unfold encStr;rw [List.length_append,bytesOf_length]
set_option maxRecDepth 100000 in
set_option maxHeartbeats 1000000 in
theorem appstr_p (a:Option Addr) (n cap:Nat) (b:List UInt8) (s:ByteArray) (w:World) (h:Sl 1 encB w a n b) (hn:n≤200000) (hnil:a=none→cap=0) (hs:s.size≤200000) :
  Calls Tryz.prog 95 #[.slice a n cap,.string s] w (BytesPost (b++encStr s) w):=by
 have HBL:=lH h.len
 have e1:IntKind.u64.wrap (s.size:Int)=(s.size:Int):=by rw [wrap_u64n];omega
 have hN:s.size<18446744073709551616:=by omega
 have HN:=lH hN
 clear hN
 go_enter Tryz.func95,Tryz.ntmps95
 go_wp2_with fail
 refine (appuint_p _ _ _ _ _ _ h hn hnil HN.out).mono ?_
 rintro e w1 ⟨v,rfl,hown,hc⟩
 have hz:=hc.size
 have hl:(b++encU s.size).length≤200010:=by
  have:=encU_length s.size
  have:=HBL.out
  simp;omega
 clear h
 go_wp2_with (at_builtin;go_loud (refine wpList_append_string w1 rfl _ _ 65 9 rfl w.heap.size 5 Tryz.underlying65 Tryz.underlying9 Tryz.infoB _ _ hown rfl s rfl (by omega) (by omega) (by omega) ?_);intro v' w3 hown3 _ hch3)
 go_ret
 exact ⟨_,rfl,by unfold encStr;rw [← List.append_assoc];exact hown3,Chg.trans hc hch3⟩
def strR (b:List UInt8) (lim:Int):ByteArray×Int×Int :=
 match decU b with
 | none=>(ByteArray.empty,0,4)
 | some (N,K)=>if lim<0∨lim<(N:Int) then (ByteArray.empty,0,3) else if b.length-K<N then (ByteArray.empty,0,4) else (strB ((b.drop K).take N),(K:Int)+N,0)
set_option maxRecDepth 100000 in
set_option maxHeartbeats 1000000 in
theorem string_p (a:Option Addr) (n cap:Nat) (b:List UInt8) (lim:Int) (w:World) (h:Sl 1 encB w a n b) (hn:n≤9223372036854775807) (hcap:n≤cap) (hcap2:cap≤maxLen) (hl1:lim≤9223372036854775807) :
  Calls Tryz.prog 172 #[.slice a n cap,.int .i64 lim] w fun e w'=>e=.returned (.tuple #[.string (strR b lim).1,.int .i64 (strR b lim).2.1,.int .i64 (strR b lim).2.2])∧w=w':=by
 unfold maxLen at hcap2
 have HBL:=lH h.len
 go_enter Tryz.func172,Tryz.ntmps172
 go_wp2_with fail
 refine (uint_p _ _ _ _ _ h hn).mono ?_
 rintro e w1 ⟨rfl,rfl⟩
 cases hd:decU b with
 | none =>
  have h1:Hid (strR b lim=(ByteArray.empty,0,4)):=by show strR b lim=_;unfold strR;rw [hd]
  have h2:decR b=(0,0,4):=by unfold decR;rw [hd];rfl
  rw [h2]
  clear hd h2 h
  go_wp2_with fail
  go_ret3
  exact ⟨by rw [h1.out];rfl,rfl⟩
 | some r =>
  obtain ⟨N,K⟩:=r
  have l3:=decU_take hd
  obtain ⟨l1,l2⟩:=decU_lt hd
  have h2:decR b=(N,K,0):=by unfold decR;rw [hd];rfl
  rw [h2]
  have hbl:=HBL.out
  by_cases hb1:lim<0∨lim<(N:Int)
  ·have h1:Hid (strR b lim=(ByteArray.empty,0,3)):=by show strR b lim=_;unfold strR;rw [hd];simp only [];rw [if_pos hb1]
   clear hd h2 h hbl
   by_cases hl:lim<0
   ·have d1:decide (lim<0)=true:=by simp;omega
    clear hb1 l1
    go_wp2_with fail
    go_ret3
    exact ⟨by rw [h1.out];rfl,rfl⟩
   ·have d1:decide (lim<0)=false:=by simp;omega
    have e1:IntKind.u64.wrap lim=lim:=by rw [wrap_u64n];omega
    have d2:decide (lim<(N:Int))=true:=by simp;omega
    clear hb1 hl l1
    go_wp2_with fail
    go_ret3
    exact ⟨by rw [h1.out];rfl,rfl⟩
  ·have d1:decide (lim<0)=false:=by simp;omega
   have e1:IntKind.u64.wrap lim=lim:=by rw [wrap_u64n];omega
   have d2:decide (lim<(N:Int))=false:=by simp;omega
   have e2:IntKind.u64.wrap ((n:Int)-(K:Int))=(n:Int)-(K:Int):=by rw [wrap_u64n];omega
   have k1:(K:Int)≤(n:Int):=by omega
   by_cases hb2:b.length-K<N
   ·have h1:Hid (strR b lim=(ByteArray.empty,0,4)):=by show strR b lim=_;unfold strR;rw [hd];simp only [];rw [if_neg hb1,if_pos hb2]
    have d3:decide ((n:Int)-(K:Int)<(N:Int))=true:=by simp;omega
    clear hd h2 h hbl hb1 hb2 l1
    go_wp2_with fail
    go_ret3
    exact ⟨by rw [h1.out];rfl,rfl⟩
   ·have h1:Hid (strR b lim=(strB ((b.drop K).take N),(K:Int)+N,0)):=by show strR b lim=_;unfold strR;rw [hd];simp only [];rw [if_neg hb1,if_neg hb2]
    have d3:decide ((n:Int)-(K:Int)<(N:Int))=false:=by simp;omega
    have k2:N≤9223372036854775807:=by omega
    have k3:K+N≤n:=by omega
    have e3:wrap64 (N:Int)=(N:Int):=by unfold wrap64;omega
    obtain ⟨x,o,y,rfl,_⟩:=h.at (j:=0) (by omega)
    have hs2:Sl 1 encB w (some ⟨x,o+K,none⟩) N ((b.drop K).take N):=by
     have:=(h.drop (m:=K) (by omega)).take (m:=N) (by omega)
     simpa using this
    by_cases hcK:cap=K
    ·have hs3:Sl 1 encB w (some ⟨x,o,none⟩) N ((b.drop K).take N):=⟨hs2.1,.inl (by omega)⟩
     have hr:=run_str (P:=Tryz.prog) (cap:=0) Tryz.underlying65 Tryz.underlying5 Tryz.underlying9 hs3
     subst hcK
     clear hd h2 h hbl hb1 hb2 l1 hs2 hs3
     go_wp2_with fail
     go_ret3
     exact ⟨by rw [h1.out];rfl,rfl⟩
    ·have hr:=run_str (P:=Tryz.prog) (cap:=cap-K) Tryz.underlying65 Tryz.underlying5 Tryz.underlying9 hs2
     clear hd h2 h hbl hb1 hb2 l1 hs2
     go_wp2_with fail
     go_ret3
     exact ⟨by rw [h1.out];rfl,rfl⟩
def NOkE (x:Nd):Prop:=-9223372036854775808≤x.id∧x.id≤9223372036854775807∧x.word<4294967296∧x.key.size≤9223372036854775807
def encNd (x:Nd):List UInt8:=encU (zig x.id)++encStr x.key++encU x.word
def encNds (l:List Nd):List UInt8×Int:=if 64<l.length then ([],3) else if l.any (fun x=>decide (64<x.key.size)) then ([],3) else (encU l.length++l.flatMap encNd,0)
def EncP (r:List UInt8×Int) (w:World) (e:Ending) (w':World):Prop:=∃ v,e=.returned (.tuple #[v,.int .i64 r.2])∧OwnL 1 encB 5 w.heap.size w' v r.1∧Ex w w'
def EncRel (l:List Nd) (n:Nat) (w:World) (o i:Value) (wr:World):Prop :=
 ∃ k:Nat,k≤n∧i=.int .i64 k∧OwnL 1 encB 5 w.heap.size wr o (encU n++(l.take k).flatMap encNd)∧Ex w wr∧∀ j z,j<k→l[j]?=some z→z.key.size≤64
theorem encNd_len {x:Nd} (h:x.key.size≤64):(encNd x).length≤100:=by
 unfold encNd
 have h1:=encU_length (zig x.id)
 have h2:=encU_length x.word
 have h3:=encU_length x.key.size
 have h4:=encStr_length x.key
 rw [List.length_append,List.length_append];omega
theorem enc_take_le (l:List Nd) (k:Nat) (h:∀ j z,j<k→l[j]?=some z→z.key.size≤64):((l.take k).flatMap encNd).length≤100*k:=by
 induction k with
 | zero=>simp
 | succ k ih =>
  have ih:=ih (fun j z hj hz=>h j z (by omega) hz)
  cases hy:l[k]? with
  | none =>
   have hl:=List.getElem?_eq_none_iff.1 hy
   rw [List.take_of_length_le (by omega)]
   rw [List.take_of_length_le (by omega)] at ih
   omega
  | some y =>
   rw [List.take_add_one,hy]
   have:=encNd_len (h k y (by omega) hy)
   simp at *
   omega
theorem flatE_snoc {α:Type} (f:α→List UInt8) (l:List α) (k:Nat) (y:α) (h:l[k]?=some y):(l.take (k+1)).flatMap f=(l.take k).flatMap f++f y:=by
 rw [List.take_add_one,h];simp
set_option maxRecDepth 100000 in
set_option maxHeartbeats 2000000 in
theorem encn_p (a:Option Addr) (n cp:Nat) (l:List Nd) (w:World) (hs:Sl 3 encN w a n l) (hn:n≤1000) (hok:∀ x∈l,NOkE x) :
  Calls Tryz.prog 29 #[.slice a n cp] w (EncP (encNds l) w):=by
 have OK:=lH hok
 have HL:=lH hs.len
 clear hok
 go_enter Tryz.func29,Tryz.ntmps29
 by_cases h64:64<n
 ·have HE:Hid (encNds l=([],3)):=lH (by unfold encNds;rw [if_pos (by rw [HL.out];exact h64)])
  clear hs
  go_wp2_with fail
  go_ret2
  rw [HE.out]
  exact ⟨_,rfl,OwnL.nil _ _ _ _ _,Ex.refl _⟩
 have hs:=lH hs
 have hwn:IntKind.u64.wrap (n:Int)=(n:Int):=by rw [wrap_u64n];omega
 go_wp2_with fail
 (with_reducible refine (appuint_p _ _ _ [] n _ (Sl.nil _ _ _ _) (by omega) (fun _=>rfl) (by omega)).mono ?_)
 rintro e w1 ⟨v1,rfl,own,kk⟩
 rw [List.nil_append] at own
 have own:OwnL 1 encB 5 w.heap.size w1 v1 (encU n++(l.take 0).flatMap encNd):=by simpa using own
 go_wp2_with fail
 go_loopw [4,16] (fun o i wr=>EncRel l n w o i wr) (fun _ i _=>n-(intOf i).toNat)
 case atStart=>exact ⟨0,by omega,rfl,own,kk,by intro _ _ h;omega⟩
 case round =>
  clear own kk
  obtain ⟨k,hk,rfl,own,kw,hsh⟩:=hrel
  have HSH:=lH hsh
  obtain ⟨wo,rfl⟩:∃ wo:World,wo=wr:=⟨_,rfl⟩
  clear hsh
  by_cases hlt:k<n
  ·obtain ⟨x1,o1,y,rfl,hx1,hy,hc1⟩:=(hs.out.nx kw).at hlt
   have e0:wo.cell? ⟨x1,o1+k*3,none⟩=some (.int .i64 y.id):=hc1 0 _ rfl
   have e1:wo.cell? ⟨x1,o1+k*3+1,none⟩=some (.string y.key):=hc1 1 _ rfl
   have e2:wo.cell? ⟨x1,o1+k*3+1+1,none⟩=some (.int .u32 y.word):=by simpa [Nat.add_assoc] using hc1 2 _ rfl
   have e2':wo.cell? ⟨x1,o1+k*3+2,none⟩=some (.int .u32 y.word):=hc1 2 _ rfl
   obtain ⟨i1,i2,i3,i4⟩:=OK.out y (List.mem_of_getElem? hy)
   have HY:=lH hy
   have FSn:=lH (flatE_snoc encNd l k y hy)
   have hbl:=enc_take_le l k HSH.out
   clear hc1 hy
   have B7:=Blk.new wo [.int .i64 y.id,.string y.key,.int .u32 y.word] 36
   have k2:=Ex.new wo (.cells #[.int .i64 y.id,.string y.key,.int .u32 y.word] 36)
   obtain ⟨w2,hw2⟩:∃ w2,w2=wo.alloc (.cells #[.int .i64 y.id,.string y.key,.int .u32 y.word] 36):=⟨_,rfl⟩
   obtain ⟨g7,hg7⟩:∃ g7,g7=wo.heap.size:=⟨_,rfl⟩
   have B7:Blk w2 g7 [.int .i64 y.id,.string y.key,.int .u32 y.word] 36:=by rw [hw2,hg7];exact B7
   rw [← hw2] at k2
   have HW2:=lH hw2
   have HG7:=lH hg7
   replace own:=own.nx k2
   replace kw:=kw.nx k2
   clear hw2 hg7 k2
   go_upto_region 7 with fail
   rw [← HG7.out,← HW2.out]
   clear e0 e1 e2 e2'
   have e0:=B7.cell 0 _ rfl
   have e1:=B7.cell 1 _ rfl
   have e2:=B7.cell 2 _ rfl
   have hx1:=B7.lt
   by_cases hkey:64<y.key.size
   ·have HE:Hid (encNds l=([],3)):=lH (by
     unfold encNds
     rw [if_neg (by rw [HL.out];exact h64),if_pos (List.any_eq_true.2 ⟨y,List.mem_of_getElem? HY.out,by simpa using hkey⟩)])
    have dk:(64:Int)<(y.key.size:Int):=by omega
    clear own FSn hbl
    go_wp2_with fail
    go_ret2
    rw [HE.out]
    exact ⟨_,rfl,OwnL.nil _ _ _ _ _,kw⟩
   ·have dk:¬ (64:Int)<(y.key.size:Int):=by omega
    have hkey':y.key.size≤64:=by omega
    obtain ⟨a3,c3,rfl,s3,o3,m3,nil3⟩:=own.slf (fun _=>rfl)
    have hnb:=encU_length n
    have hlen3:(encU n++(l.take k).flatMap encNd).length≤10+100*k:=by rw [List.length_append];omega
    have hk64:k≤64:=by omega
    obtain ⟨bs,hbs⟩:∃ bs,bs=encU n++(l.take k).flatMap encNd:=⟨_,rfl⟩
    rw [← hbs] at own s3 o3 hlen3 ⊢
    have HBS:=lH hbs
    clear hbs
    have s3:=lH s3.sl
    have NIL3:=lH nil3
    have hww:IntKind.u64.wrap (y.word:Int)=(y.word:Int):=by rw [wrap_u64n];omega
    have l1:=encU_length (zig y.id)
    have l2:=encStr_length y.key
    have l3:=encU_length y.key.size
    clear nil3 hkey own hbl hnb
    go_wp2_with fail
    have KW:=lH kw
    refine wp_region_held_drew (S:=Ex w2.drew) (by kernel_rfl) (Ex.refl _) (fun hHeld=>?_)
    refine tkH 0 (v:=?_) rfl (by kernel_rfl) (fun _ _ _ h=>h) (by rfl) ?hyr1x0 (by assumption) ?restr1x0
    case hyr1x0=>intro wq hSw;(go_simp);(try with_reducible rfl)
    try simp only [Act.put,sA,sB,sC]
    refine tkH 1 (v:=?_) rfl (by kernel_rfl) (fun _ _ _ h=>h) (by rfl) ?hyr1x1 (by assumption) ?restr1x1
    case hyr1x1=>intro wq hSw;(go_simp);(try with_reducible rfl)
    try simp only [Act.put,sA,sB,sC]
    refine tkH 2 (v:=?_) rfl (by kernel_rfl) (fun _ _ _ h=>h) (by rfl) ?hyr1x2 (by assumption) ?restr1x2
    case hyr1x2=>intro wq hSw;(have cq:=Chg.cellv hSw e0 hx1;go_simp);(try with_reducible rfl)
    try simp only [Act.put,sA,sB,sC]
    refine tkH 4 (v:=?_) rfl (by kernel_rfl) (fun _ _ _ h=>h) (by rfl) ?hyr1x4 (by assumption) ?restr1x4
    case hyr1x4=>intro wq hSw;(go_simp);(try with_reducible rfl)
    try simp only [Act.put,sA,sB,sC]
    refine tkH 5 (v:=?_) rfl (by kernel_rfl) (fun _ _ _ h=>h) (by rfl) ?hyr1x5 (by assumption) ?restr1x5
    case hyr1x5=>intro wq hSw;(have cq:=Chg.cellv hSw e1 hx1;go_simp);(try with_reducible rfl)
    try simp only [Act.put,sA,sB,sC]
    refine tkH 7 (v:=?_) rfl (by kernel_rfl) (fun _ _ _ h=>h) (by rfl) ?hyr1x7 (by assumption) ?restr1x7
    case hyr1x7=>intro wq hSw;(go_simp);(try with_reducible rfl)
    try simp only [Act.put,sA,sB,sC]
    refine tkH 8 (v:=?_) rfl (by kernel_rfl) (fun _ _ _ h=>h) (by rfl) ?hyr1x8 (by assumption) ?restr1x8
    case hyr1x8=>intro wq hSw;(have cq:=Chg.cellv hSw e2 hx1;go_simp);(try with_reducible rfl)
    try simp only [Act.put,sA,sB,sC]
    refine tkH 9 (v:=?_) rfl (by kernel_rfl) (fun _ _ _ h=>h) (by rfl) ?hyr1x9 (by assumption) ?restr1x9
    case hyr1x9=>intro wq hSw;(go_simp);(try with_reducible rfl)
    try simp only [Act.put,sA,sB,sC]
    refine rH 3 (by kernel_rfl) rfl fun K hK=>?_
    go_simp
    (with_reducible refine (appint_p _ _ _ bs _ _ (s3.out.nx (Ex.refl w2).drew) (by omega) NIL3.out i1 i2).mono ?_)
    rintro e w4 ⟨v4,rfl,own4,k4⟩
    obtain ⟨b4,hb4⟩:∃ b4,b4=bs++encU (zig y.id):=⟨_,rfl⟩
    rw [← hb4] at own4
    have n4:b4.length≤200000:=by rw [hb4,List.length_append];omega
    have HB4:=lH hb4
    have n4':b4.length≤7000:=by rw [hb4,List.length_append];omega
    clear hb4
    obtain ⟨a4,c4,rfl,s4,_,_,nil4⟩:=own4.slf (fun _=>rfl)
    have e1:=Chg.cellv k4 e1 hx1
    have e2:=Chg.cellv k4 e2 hx1
    have hx4:g7<w4.heap.size:=Nat.lt_of_lt_of_le hx1 k4.size
    have s4:=lH s4.sl
    have NIL4:=lH nil4
    clear own4 nil4
    refine hK.out _ _ k4 (fun _=>?_)
    clear hK K
    try simp only [Act.put,sA,sB,sC]
    refine wpAnyH_switch (S':=Ex w4) (fun _ hSw=>Ex.nx k4 hSw) ?_
    clear hHeld
    have hHeld:=Ex.refl w4
    refine rH 6 (by kernel_rfl) rfl fun K hK=>?_
    go_simp
    (with_reducible refine (appstr_p _ _ _ _ y.key _ s4.out n4 NIL4.out (by omega)).mono ?_)
    rintro e w5 ⟨v5,rfl,own5,k5⟩
    obtain ⟨b5,hb5⟩:∃ b5,b5=b4++encStr y.key:=⟨_,rfl⟩
    rw [← hb5] at own5
    have n5:b5.length≤200000:=by rw [hb5,List.length_append];omega
    have HB5:=lH hb5
    clear hb5
    obtain ⟨a5,c5,rfl,s5,_,_,nil5⟩:=own5.slf (fun _=>rfl)
    have e2:=Chg.cellv k5 e2 hx4
    have hx5:g7<w5.heap.size:=Nat.lt_of_lt_of_le hx4 k5.size
    have s5:=lH s5.sl
    have NIL5:=lH nil5
    clear own5 nil5
    refine hK.out _ _ k5 (fun _=>?_)
    clear hK K
    try simp only [Act.put,sA,sB,sC]
    refine wpAnyH_switch (S':=Ex w5) (fun _ hSw=>Ex.nx k5 hSw) ?_
    clear hHeld
    have hHeld:=Ex.refl w5
    refine rH 10 (by kernel_rfl) rfl fun K hK=>?_
    go_simp
    (with_reducible refine (appuint_p _ _ _ _ y.word _ s5.out n5 NIL5.out (by omega)).mono ?_)
    rintro e w6 ⟨v6,rfl,own6,k6⟩
    refine hK.out _ _ k6 (fun _=>?_)
    clear hK K
    try simp only [Act.put,sA,sB,sC]
    refine wpAnyH_switch (S':=Ex w6) (fun _ hSw=>Ex.nx k6 hSw) ?_
    clear hHeld
    have hHeld:=Ex.refl w6
    refine tkH 11 (v:=?_) rfl (by kernel_rfl) (fun _ _ _ h=>h) (by rfl) ?hyr1x11 (by assumption) ?restr1x11
    case hyr1x11=>intro wq hSw;(go_simp);(try with_reducible rfl)
    try simp only [Act.put,sA,sB,sC]
    refine wpAnyH_done (by kernel_rfl) ?_ _
    have kw6:=(((KW.out.nx (Ex.refl w2).drew).nx k4).nx k5).nx k6
    have z5:w.heap.size≤w5.heap.size:=(((KW.out.nx (Ex.refl w2).drew).nx k4).nx k5).size
    clear k4 k5 k6 s3 s4 s5 NIL3 NIL4 NIL5 n4 n5 e0 e1 e2
    go_wp2_with fail
    refine ⟨⟨k+1,by omega,by go_num,?_,kw6,fun j z hj hz=>?_⟩,by simp [intOf];omega⟩
    ·rw [FSn.out,← List.append_assoc,← HBS.out]
     unfold encNd
     rw [← List.append_assoc,← List.append_assoc,← HB4.out,← HB5.out]
     exact own6.base z5
    ·rcases Nat.lt_or_ge j k with h | h
     ·exact HSH.out j z h hz
     ·obtain rfl:j=k:=by omega
      rw [Option.some.inj (hz.symm.trans HY.out)]
      exact hkey'
  ·obtain rfl:k=n:=by omega
   rw [List.take_of_length_le (by rw [HL.out];exact Nat.le_refl _)] at own
   have HE:Hid (encNds l=(encU k++l.flatMap encNd,0)):=lH (by
    unfold encNds
    rw [if_neg (by rw [HL.out];exact h64),if_neg,HL.out]
    rw [List.any_eq_true]
    rintro ⟨z,hz,hk⟩
    obtain ⟨j,hj,he⟩:=List.mem_iff_getElem.1 hz
    have:=HSH.out j z (by rw [← HL.out];exact hj) (by rw [← he];simp)
    simp at hk
    omega)
   obtain ⟨a3,c3,rfl,_⟩:=own.slf (fun _=>rfl)
   clear hk hlt
   go_wp2_with fail
   go_ret2
   rw [HE.out]
   exact ⟨_,rfl,own,kw⟩
def LkOk (B1 B2:Nat) (L:List Lkd):Prop:=L.length≤B1∧∀ c∈L,I64 c.1∧c.2.length≤B2∧∀ y∈c.2,I64 y.1∧I64 y.2
theorem i64_zero:I64 0:=⟨by omega,by omega⟩
theorem neigh_ok {l:List Nd} (h:∀ x∈l,I64 x.id) (id lev:Int):I64 (neighN l id lev).1.1∧I64 (neighN l id lev).1.2:=by
 have hg:∀ x∈(throughN l id lev).1,I64 x.id:=by
  intro x hx
  unfold throughN at hx
  split at hx
  ·unfold thrG groupN at hx
   exact h x ((sortN_mem l x).1 (List.mem_filter.1 hx).1)
  ·simp at hx
 have hd:∀ (o:Option Nd),(∀ x,o=some x→I64 x.id)→I64 (o.getD Nd.zero).id:=by
  intro o ho
  cases o with
  | none=>exact i64_zero
  | some x=>exact ho x rfl
 unfold neighN
 split
 ·refine ⟨?_,?_⟩
  ·show I64 (leftN _ _)
   unfold leftN
   split
   ·exact i64_zero
   ·exact hd _ (fun x hx=>hg x (List.mem_of_getElem? hx))
  ·exact hd _ (fun x hx=>hg x (List.mem_of_getElem? hx))
 ·exact ⟨i64_zero,i64_zero⟩
theorem build_ok {l:List Nd} (h:∀ x∈l,I64 x.id) (lev:Int):LkOk l.length 17 (buildN l lev).1:=by
 unfold buildN
 split
 ·exact ⟨by simp,by simp⟩
 ·split
  ·exact ⟨by simp,by simp⟩
  ·rename_i hl
   have hlv:0≤lev∧lev≤16:=by
    have:lvlN lev=true:=by simpa using hl
    unfold lvlN at this
    simpa using this
   refine ⟨by simp [sortN_length],fun c hc=>?_⟩
   obtain ⟨x,hx,rfl⟩:=List.mem_map.1 hc
   have hs:∀ x∈sortN l,I64 x.id:=fun x hx=>h x ((sortN_mem l x).1 hx)
   refine ⟨hs x hx,by rw [rowN_len];omega,fun y hy=>?_⟩
   unfold rowN at hy
   obtain ⟨j,_,rfl⟩:=List.mem_map.1 hy
   exact neigh_ok hs _ _
def LOkE (c:Lkd):Prop:=I64 c.1∧c.2.length≤9223372036854775807∧∀ y∈c.2,I64 y.1∧I64 y.2
def encLv (y:Int×Int):List UInt8:=encU (zig y.1)++encU (zig y.2)
def encLk (c:Lkd):List UInt8:=encU (zig c.1)++encU c.2.length++c.2.flatMap encLv
def encLks (L:List Lkd):List UInt8×Int:=if 64<L.length then ([],3) else if L.any (fun c=>decide (17<c.2.length)) then ([],3) else (encU L.length++L.flatMap encLk,0)
def EncLRel (L:List Lkd) (n:Nat) (w:World) (o i:Value) (wr:World):Prop :=
 ∃ k:Nat,k≤n∧i=.int .i64 k∧OwnL 1 encB 5 w.heap.size wr o (encU n++(L.take k).flatMap encLk)∧Ex w wr∧∀ j z,j<k→L[j]?=some z→z.2.length≤17
def EncVRel (c:List (Int×Int)) (b:List UInt8) (n base:Nat) (w:World) (o i:Value) (wr:World):Prop :=
 ∃ k:Nat,k≤n∧i=.int .i64 k∧OwnL 1 encB 5 base wr o (b++(c.take k).flatMap encLv)∧Ex w wr
theorem flat_le {α β:Type} {f:α→List β} {m:Nat}:∀ (l:List α),(∀ y∈l,(f y).length≤m)→(l.flatMap f).length≤m*l.length
 | [],_=>by simp
 | y::r,h=>by
  have h1:=h y (by simp)
  have h2:=flat_le r (fun z hz=>h z (List.mem_cons_of_mem _ hz))
  rw [List.flatMap_cons,List.length_append,List.length_cons,Nat.mul_succ];omega
theorem encLv_le (y:Int×Int):(encLv y).length≤20:=by
 unfold encLv
 have:=encU_length (zig y.1);have:=encU_length (zig y.2)
 rw [List.length_append];omega
theorem enclv_take_le (c:List (Int×Int)) (k:Nat):((c.take k).flatMap encLv).length≤20*k:=by
 have:=flat_le (f:=encLv) (m:=20) (c.take k) (fun y _=>encLv_le y)
 have h2:(c.take k).length≤k:=by rw [List.length_take];omega
 have:=Nat.mul_le_mul_left 20 h2
 omega
theorem encl_take_le (L:List Lkd) (k:Nat) (h:∀ j z,j<k→L[j]?=some z→z.2.length≤17):((L.take k).flatMap encLk).length≤400*k:=by
 have:=flat_le (f:=encLk) (m:=400) (L.take k) (fun c hc=>by
  obtain ⟨j,hj,he⟩:=List.mem_iff_getElem.1 hc
  have hjk:j<k:=by rw [List.length_take] at hj;omega
  have h17:=h j c hjk (by rw [List.getElem_take] at he;rw [← he];simp)
  have h1:=encU_length (zig c.1)
  have h2:=encU_length c.2.length
  have h3:=flat_le (f:=encLv) (m:=20) c.2 (fun y _=>encLv_le y)
  unfold encLk
  rw [List.length_append,List.length_append];omega)
 have h2:(L.take k).length≤k:=by rw [List.length_take];omega
 have:=Nat.mul_le_mul_left 400 h2
 omega
set_option maxRecDepth 100000 in
set_option maxHeartbeats 4000000 in
theorem encl_p (a:Option Addr) (n cp:Nat) (L:List Lkd) (w:World) (hs:LkL w a n L) (hn:n≤1000) (hok:∀ c∈L,LOkE c) :
  Calls Tryz.prog 30 #[.slice a n cp] w (EncP (encLks L) w):=by
 have OK:=lH hok
 have HL:=lH hs.len
 clear hok
 go_enter Tryz.func30,Tryz.ntmps30
 by_cases h64:64<n
 ·have HE:Hid (encLks L=([],3)):=lH (by unfold encLks;rw [if_pos (by rw [HL.out];exact h64)])
  clear hs
  go_wp2_with fail
  go_ret2
  rw [HE.out]
  exact ⟨_,rfl,OwnL.nil _ _ _ _ _,Ex.refl _⟩
 have hs:=lH hs
 have hwn:IntKind.u64.wrap (n:Int)=(n:Int):=by rw [wrap_u64n];omega
 go_wp2_with fail
 (with_reducible refine (appuint_p _ _ _ [] n _ (Sl.nil _ _ _ _) (by omega) (fun _=>rfl) (by omega)).mono ?_)
 rintro e w1 ⟨v1,rfl,own,kk⟩
 rw [List.nil_append] at own
 have own:OwnL 1 encB 5 w.heap.size w1 v1 (encU n++(L.take 0).flatMap encLk):=by simpa using own
 go_wp2_with fail
 go_loopw [4,18] (fun o i wr=>EncLRel L n w o i wr) (fun _ i _=>n-(intOf i).toNat)
 case atStart=>exact ⟨0,by omega,rfl,own,kk,by intro _ _ h;omega⟩
 case round =>
  clear own kk
  obtain ⟨k,hk,rfl,own,kw,hsh⟩:=hrel
  have HSH:=lH hsh
  obtain ⟨wo,rfl⟩:∃ wo:World,wo=wr:=⟨_,rfl⟩
  clear hsh
  by_cases hlt:k<n
  ·obtain ⟨x1,o1,a',n',c',c,rfl,hx1,hy,hc1,r1⟩:=(hs.out.nx kw).at hlt
   have e0:wo.cell? ⟨x1,o1+k*2,none⟩=some (.int .i64 c.1):=hc1 0 _ rfl
   have e1:wo.cell? ⟨x1,o1+k*2+1,none⟩=some (.slice a' n' c'):=hc1 1 _ rfl
   obtain ⟨⟨i1,i1x⟩,i3,i2⟩:=OK.out c (List.mem_of_getElem? hy)
   have HY:=lH hy
   have FSn:=lH (flatE_snoc encLk L k c hy)
   have hbl:=encl_take_le L k HSH.out
   have hcn:=lH r1.len
   have hn2:n'≤9223372036854775807:=by rw [← r1.len];exact i3
   clear hc1 hy i3
   have B7:=Blk.new wo [.int .i64 c.1,.slice a' n' c'] 121
   have k2:=Ex.new wo (.cells #[.int .i64 c.1,.slice a' n' c'] 121)
   obtain ⟨w2,hw2⟩:∃ w2,w2=wo.alloc (.cells #[.int .i64 c.1,.slice a' n' c'] 121):=⟨_,rfl⟩
   obtain ⟨g7,hg7⟩:∃ g7,g7=wo.heap.size:=⟨_,rfl⟩
   have B7:Blk w2 g7 [.int .i64 c.1,.slice a' n' c'] 121:=by rw [hw2,hg7];exact B7
   rw [← hw2] at k2
   have HW2:=lH hw2
   have HG7:=lH hg7
   replace own:=own.nx k2
   replace kw:=kw.nx k2
   replace r1:=r1.nx k2
   clear hw2 hg7 k2
   go_upto_region 7 with fail
   rw [← HG7.out,← HW2.out]
   clear e0 e1
   have e0:=B7.cell 0 _ rfl
   have e1:=B7.cell 1 _ rfl
   have hx1:=B7.lt
   by_cases hkey:17<n'
   ·have HE:Hid (encLks L=([],3)):=lH (by
     unfold encLks
     rw [if_neg (by rw [HL.out];exact h64),if_pos (List.any_eq_true.2 ⟨c,List.mem_of_getElem? HY.out,by rw [hcn.out];simpa using hkey⟩)])
    have dk:(17:Int)<(n':Int):=by omega
    clear own FSn hbl r1
    go_wp2_with fail
    go_ret2
    rw [HE.out]
    exact ⟨_,rfl,OwnL.nil _ _ _ _ _,kw⟩
   ·have dk:¬ (17:Int)<(n':Int):=by omega
    have hkey':n'≤17:=by omega
    obtain ⟨a3,c3,rfl,s3,o3,m3,nil3⟩:=own.slf (fun _=>rfl)
    have hnb:=encU_length n
    have hlen3:(encU n++(L.take k).flatMap encLk).length≤10+400*k:=by rw [List.length_append];omega
    have hk64:k≤64:=by omega
    obtain ⟨bs,hbs⟩:∃ bs,bs=encU n++(L.take k).flatMap encLk:=⟨_,rfl⟩
    rw [← hbs] at own s3 o3 hlen3 ⊢
    have HBS:=lH hbs
    have s3:=lH s3.sl
    have NIL3:=lH nil3
    have hww:IntKind.u64.wrap (n':Int)=(n':Int):=by rw [wrap_u64n];omega
    have l1:=encU_length (zig c.1)
    have l3:=encU_length n'
    have R1:=lH r1
    have I2:=lH i2
    clear nil3 hkey own hbl hnb hbs r1 i2
    go_wp2_with fail
    have KW:=lH kw
    refine wp_region_held_drew (S:=Ex w2.drew) (by kernel_rfl) (Ex.refl _) (fun hHeld=>?_)
    refine tkH 0 (v:=?_) rfl (by kernel_rfl) (fun _ _ _ h=>h) (by rfl) ?hyr1x0 (by assumption) ?restr1x0
    case hyr1x0=>intro wq hSw;(go_simp);(try with_reducible rfl)
    try simp only [Act.put,sA,sB,sC]
    refine tkH 1 (v:=?_) rfl (by kernel_rfl) (fun _ _ _ h=>h) (by rfl) ?hyr1x1 (by assumption) ?restr1x1
    case hyr1x1=>intro wq hSw;(go_simp);(try with_reducible rfl)
    try simp only [Act.put,sA,sB,sC]
    refine tkH 2 (v:=?_) rfl (by kernel_rfl) (fun _ _ _ h=>h) (by rfl) ?hyr1x2 (by assumption) ?restr1x2
    case hyr1x2=>intro wq hSw;(have cq:=Chg.cellv hSw e0 hx1;go_simp);(try with_reducible rfl)
    try simp only [Act.put,sA,sB,sC]
    refine tkH 4 (v:=?_) rfl (by kernel_rfl) (fun _ _ _ h=>h) (by rfl) ?hyr1x4 (by assumption) ?restr1x4
    case hyr1x4=>intro wq hSw;(go_simp);(try with_reducible rfl)
    try simp only [Act.put,sA,sB,sC]
    refine tkH 5 (v:=?_) rfl (by kernel_rfl) (fun _ _ _ h=>h) (by rfl) ?hyr1x5 (by assumption) ?restr1x5
    case hyr1x5=>intro wq hSw;(have cq:=Chg.cellv hSw e1 hx1;go_simp);(try with_reducible rfl)
    try simp only [Act.put,sA,sB,sC]
    refine tkH 6 (v:=?_) rfl (by kernel_rfl) (fun _ _ _ h=>h) (by rfl) ?hyr1x6 (by assumption) ?restr1x6
    case hyr1x6=>intro wq hSw;(go_simp);(try with_reducible rfl)
    try simp only [Act.put,sA,sB,sC]
    refine tkH 7 (v:=?_) rfl (by kernel_rfl) (fun _ _ _ h=>h) (by rfl) ?hyr1x7 (by assumption) ?restr1x7
    case hyr1x7=>intro wq hSw;(go_simp);(try with_reducible rfl)
    try simp only [Act.put,sA,sB,sC]
    refine rH 3 (by kernel_rfl) rfl fun K hK=>?_
    go_simp
    (with_reducible refine (appint_p _ _ _ bs _ _ (s3.out.nx (Ex.refl w2).drew) (by omega) NIL3.out i1 i1x).mono ?_)
    rintro e w4 ⟨v4,rfl,own4,k4⟩
    obtain ⟨b4,hb4⟩:∃ b4,b4=bs++encU (zig c.1):=⟨_,rfl⟩
    rw [← hb4] at own4
    have n4:b4.length≤100000:=by rw [hb4,List.length_append];omega
    have n4':b4.length≤20+400*k:=by rw [hb4,List.length_append];omega
    have HB4:=lH hb4
    clear hb4
    obtain ⟨a4,c4,rfl,s4,_,_,nil4⟩:=own4.slf (fun _=>rfl)
    have e1:=Chg.cellv k4 e1 hx1
    have hx4:g7<w4.heap.size:=Nat.lt_of_lt_of_le hx1 k4.size
    have s4:=lH s4.sl
    have NIL4:=lH nil4
    clear own4 nil4
    refine hK.out _ _ k4 (fun _=>?_)
    clear hK K
    try simp only [Act.put,sA,sB,sC]
    refine wpAnyH_switch (S':=Ex w4) (fun _ hSw=>Ex.nx k4 hSw) ?_
    clear hHeld
    have hHeld:=Ex.refl w4
    refine rH 8 (by kernel_rfl) rfl fun K hK=>?_
    go_simp
    (with_reducible refine (appuint_p _ _ _ _ n' _ s4.out (by omega) NIL4.out (by omega)).mono ?_)
    rintro e w3 ⟨v6,rfl,own6,k6⟩
    obtain ⟨b6,hb6⟩:∃ b6,b6=b4++encU n':=⟨_,rfl⟩
    rw [← hb6] at own6
    have n6:b6.length≤30+400*k:=by rw [hb6,List.length_append];omega
    have HB6:=lH hb6
    clear hb6
    have e1:=Chg.cellv k6 e1 hx4
    refine hK.out _ _ k6 (fun _=>?_)
    clear hK K
    try simp only [Act.put,sA,sB,sC]
    refine wpAnyH_switch (S':=Ex w3) (fun _ hSw=>Ex.nx k6 hSw) ?_
    clear hHeld
    have hHeld:=Ex.refl w3
    refine tkH 9 (v:=?_) rfl (by kernel_rfl) (fun _ _ _ h=>h) (by rfl) ?hyr1x9 (by assumption) ?restr1x9
    case hyr1x9=>intro wq hSw;(go_simp);(try with_reducible rfl)
    try simp only [Act.put,sA,sB,sC]
    refine wpAnyH_done (by kernel_rfl) ?_ _
    have kw3:=((KW.out.nx (Ex.refl w2).drew).nx k4).nx k6
    have hx1:g7<w3.heap.size:=Nat.lt_of_lt_of_le hx4 k6.size
    have R3:=lH (((R1.out.nx (Ex.refl w2).drew).nx k4).nx k6)
    have z5:w.heap.size≤w4.heap.size:=((KW.out.nx (Ex.refl w2).drew).nx k4).size
    have own6:OwnL 1 encB 5 w.heap.size w3 v6 (b6++(c.2.take 0).flatMap encLv):=by simpa using own6.base z5
    have KW3:=lH kw3
    have z3:=kw3.size
    clear k4 k6 s3 s4 NIL3 NIL4 n4 n4' e0 z5 kw kw3
    go_wp2_with fail
    go_loopw [4,38] (fun o i wr=>EncVRel c.2 b6 n' w.heap.size w3 o i wr) (fun _ i _=>n'-(intOf i).toNat)
    case atStart=>exact ⟨0,by omega,rfl,own6,Ex.refl _⟩
    case round =>
     clear own6
     obtain ⟨j,hj,rfl,own,kv⟩:=hrel
     obtain ⟨wi,rfl⟩:∃ wi:World,wi=wr:=⟨_,rfl⟩
     by_cases hjl:j<n'
     ·obtain ⟨x5,o5,y,rfl,hx5,hy,hc5⟩:=(R3.out.nx kv).at hjl
      have f0:wi.cell? ⟨x5,o5+j*2,none⟩=some (.int .i64 y.1):=hc5 0 _ rfl
      have f1:wi.cell? ⟨x5,o5+j*2+1,none⟩=some (.int .i64 y.2):=hc5 1 _ rfl
      obtain ⟨⟨j1,j2⟩,j3,j4⟩:=I2.out y (List.mem_of_getElem? hy)
      have FV:=lH (flatE_snoc encLv c.2 j y hy)
      have hvl:=enclv_take_le c.2 j
      have hj17:j≤17:=by omega
      clear hc5 hy
      have k5:=Ex.new wi (.cells #[.int .i64 y.1,.int .i64 y.2] 128)
      have B5:=Blk.new wi [.int .i64 y.1,.int .i64 y.2] 128
      obtain ⟨w5,hw5⟩:∃ w5,w5=wi.alloc (.cells #[.int .i64 y.1,.int .i64 y.2] 128):=⟨_,rfl⟩
      obtain ⟨g5,hg5⟩:∃ g5,g5=wi.heap.size:=⟨_,rfl⟩
      have B5:Blk w5 g5 [.int .i64 y.1,.int .i64 y.2] 128:=by rw [hw5,hg5];exact B5
      rw [← hw5] at k5
      have HW5:=lH hw5
      have HG5:=lH hg5
      replace own:=own.nx k5
      replace kv:=kv.nx k5
      clear hw5 hg5 k5
      go_upto_region 13 with fail
      rw [← HG5.out,← HW5.out]
      clear f0 f1
      have f0:=B5.cell 0 _ rfl
      have f1:=B5.cell 1 _ rfl
      have hx5:=B5.lt
      obtain ⟨a3,c3,rfl,s3,_,_,nil3⟩:=own.slf (fun _=>rfl)
      obtain ⟨bs3,hbs3⟩:∃ bs3,bs3=b6++(c.2.take j).flatMap encLv:=⟨_,rfl⟩
      have hl3:bs3.length≤100000:=by rw [hbs3,List.length_append];omega
      rw [← hbs3] at own s3 ⊢
      have HBS3:=lH hbs3
      have s3:=lH s3.sl
      have NIL3:=lH nil3
      have l1:=encU_length (zig y.1)
      have KV:=lH kv
      clear own hbs3 nil3 hvl kv
      go_wp2_with fail
      refine wp_region_held_drew (S:=Ex w5.drew) (by kernel_rfl) (Ex.refl _) (fun hHeld=>?_)
      refine tkH 0 (v:=?_) rfl (by kernel_rfl) (fun _ _ _ h=>h) (by rfl) ?hyr2x0 (by assumption) ?restr2x0
      case hyr2x0=>intro wq hSw;(go_simp);(try with_reducible rfl)
      try simp only [Act.put,sA,sB,sC]
      refine tkH 1 (v:=?_) rfl (by kernel_rfl) (fun _ _ _ h=>h) (by rfl) ?hyr2x1 (by assumption) ?restr2x1
      case hyr2x1=>intro wq hSw;(go_simp);(try with_reducible rfl)
      try simp only [Act.put,sA,sB,sC]
      refine tkH 2 (v:=?_) rfl (by kernel_rfl) (fun _ _ _ h=>h) (by rfl) ?hyr2x2 (by assumption) ?restr2x2
      case hyr2x2=>intro wq hSw;(have cq:=Chg.cellv hSw f0 hx5;go_simp);(try with_reducible rfl)
      try simp only [Act.put,sA,sB,sC]
      refine tkH 4 (v:=?_) rfl (by kernel_rfl) (fun _ _ _ h=>h) (by rfl) ?hyr2x4 (by assumption) ?restr2x4
      case hyr2x4=>intro wq hSw;(go_simp);(try with_reducible rfl)
      try simp only [Act.put,sA,sB,sC]
      refine tkH 5 (v:=?_) rfl (by kernel_rfl) (fun _ _ _ h=>h) (by rfl) ?hyr2x5 (by assumption) ?restr2x5
      case hyr2x5=>intro wq hSw;(have cq:=Chg.cellv hSw f1 hx5;go_simp);(try with_reducible rfl)
      try simp only [Act.put,sA,sB,sC]
      refine rH 3 (by kernel_rfl) rfl fun K hK=>?_
      go_simp
      (with_reducible refine (appint_p _ _ _ bs3 _ _ (s3.out.nx (Ex.refl w5).drew) (by omega) NIL3.out j1 j2).mono ?_)
      rintro e w6 ⟨v4,rfl,own4,k6⟩
      obtain ⟨b7,hb7⟩:∃ b7,b7=bs3++encU (zig y.1):=⟨_,rfl⟩
      rw [← hb7] at own4
      have n7:b7.length≤200000:=by rw [hb7,List.length_append];omega
      have HB7:=lH hb7
      clear hb7
      obtain ⟨a4,c4,rfl,s4,_,_,nil4⟩:=own4.slf (fun _=>rfl)
      have f1:=Chg.cellv k6 f1 hx5
      have hx5:g5<w6.heap.size:=Nat.lt_of_lt_of_le hx5 k6.size
      have s4:=lH s4.sl
      have NIL4:=lH nil4
      clear own4 nil4
      refine hK.out _ _ k6 (fun _=>?_)
      clear hK K
      try simp only [Act.put,sA,sB,sC]
      refine wpAnyH_switch (S':=Ex w6) (fun _ hSw=>Ex.nx k6 hSw) ?_
      clear hHeld
      have hHeld:=Ex.refl w6
      refine rH 6 (by kernel_rfl) rfl fun K hK=>?_
      go_simp
      (with_reducible refine (appint_p _ _ _ _ _ _ s4.out n7 NIL4.out j3 j4).mono ?_)
      rintro e w7 ⟨v7,rfl,own7,k7⟩
      refine hK.out _ _ k7 (fun _=>?_)
      clear hK K
      try simp only [Act.put,sA,sB,sC]
      refine wpAnyH_switch (S':=Ex w7) (fun _ hSw=>Ex.nx k7 hSw) ?_
      clear hHeld
      have hHeld:=Ex.refl w7
      refine tkH 7 (v:=?_) rfl (by kernel_rfl) (fun _ _ _ h=>h) (by rfl) ?hyr2x7 (by assumption) ?restr2x7
      case hyr2x7=>intro wq hSw;(go_simp);(try with_reducible rfl)
      try simp only [Act.put,sA,sB,sC]
      refine wpAnyH_done (by kernel_rfl) ?_ _
      have kv7:=((KV.out.nx (Ex.refl w5).drew).nx k6).nx k7
      have z6:w.heap.size≤w6.heap.size:=Nat.le_trans z3 ((KV.out.nx (Ex.refl w5).drew).nx k6).size
      clear k6 k7 s3 s4 NIL3 NIL4 n7 f0 f1
      go_wp2_with fail
      refine ⟨⟨j+1,by omega,by go_num,?_,kv7⟩,by simp [intOf];omega⟩
      rw [FV.out,← List.append_assoc,← HBS3.out]
      unfold encLv
      rw [← List.append_assoc,← HB7.out]
      exact own7.base z6
     ·obtain rfl:j=n':=by omega
      rw [List.take_of_length_le (by rw [hcn.out];exact Nat.le_refl _)] at own
      have kw7:=KW3.out.nx kv
      obtain ⟨a3,c3,rfl,_⟩:=own.slf (fun _=>rfl)
      clear hj hjl kv
      go_wp2_with fail
      refine ⟨⟨k+1,by omega,by go_num,?_,kw7,fun j z hj hz=>?_⟩,by simp [intOf];omega⟩
      ·rw [FSn.out,← List.append_assoc,← HBS.out]
       unfold encLk
       rw [hcn.out,← List.append_assoc,← List.append_assoc,← HB4.out,← HB6.out]
       exact own
      ·rcases Nat.lt_or_ge j k with h | h
       ·exact HSH.out j z h hz
       ·obtain rfl:j=k:=by omega
        rw [Option.some.inj (hz.symm.trans HY.out),hcn.out]
        exact hkey'
  ·obtain rfl:k=n:=by omega
   rw [List.take_of_length_le (by rw [HL.out];exact Nat.le_refl _)] at own
   have HE:Hid (encLks L=(encU k++L.flatMap encLk,0)):=lH (by
    unfold encLks
    rw [if_neg (by rw [HL.out];exact h64),if_neg,HL.out]
    rw [List.any_eq_true]
    rintro ⟨z,hz,hk⟩
    obtain ⟨j,hj,he⟩:=List.mem_iff_getElem.1 hz
    have:=HSH.out j z (by rw [← HL.out];exact hj) (by rw [← he];simp)
    simp at hk
    omega)
   obtain ⟨a3,c3,rfl,_⟩:=own.slf (fun _=>rfl)
   clear hk hlt
   go_wp2_with fail
   go_ret2
   rw [HE.out]
   exact ⟨_,rfl,own,kw⟩
end Go.Proofs.YthcholmhmcpooaaGreatDoor
