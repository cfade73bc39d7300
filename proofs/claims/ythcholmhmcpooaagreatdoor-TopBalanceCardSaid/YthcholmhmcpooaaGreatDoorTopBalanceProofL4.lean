/- Texts for TopBalanceProof. -/
import Derived.WalkKit
import Derived.Lib.TrailingZeros
set_option linter.unusedSimpArgs false
set_option linter.unusedVariables false

namespace Go.Proofs.YthcholmhmcpooaaGreatDoor
open Go.RowKit
theorem wrap_u32n (n:Int):IntKind.u32.wrap n=n % 4294967296:=by simp [IntKind.wrap,IntKind.signed,IntKind.bits]
theorem bits_u32 (op:BinOp) (f:Nat→Nat→Nat) (hf:∀ a b:Nat,a<4294967296→b<4294967296→f a b<4294967296)
  (hop:∀ x y:Int,bits op .u32 x y=IntKind.u32.wrap ((f (BitVec.ofInt 32 x).toNat (BitVec.ofInt 32 y).toNat:Nat):Int)) (a b:Nat) (ha:a<4294967296) (hb:b<4294967296):bits op .u32 (a:Int) (b:Int)=((f a b:Nat):Int):=by
 have h1:(BitVec.ofInt 32 (a:Int)).toNat=a:=by
  rw [BitVec.ofInt_natCast,BitVec.toNat_ofNat];exact Nat.mod_eq_of_lt (by omega)
 have h2:(BitVec.ofInt 32 (b:Int)).toNat=b:=by
  rw [BitVec.ofInt_natCast,BitVec.toNat_ofNat];exact Nat.mod_eq_of_lt (by omega)
 have:=hf a b ha hb
 rw [hop,h1,h2,wrap_u32n]
 omega
theorem bits_and_u32n (a b:Nat) (ha:a<4294967296) (hb:b<4294967296):bits .and .u32 (a:Int) (b:Int)=((a &&& b:Nat):Int) :=
 bits_u32 .and (· &&& ·) (fun a b ha _=>Nat.and_lt_two_pow (n:=32) _ (by omega)) (fun x y=>by
  show IntKind.u32.wrap ((BitVec.ofInt 32 x &&& BitVec.ofInt 32 y).toNat:Int)=_
  rw [BitVec.toNat_and]) a b ha hb
theorem bits_xor_u32n (a b:Nat) (ha:a<4294967296) (hb:b<4294967296):bits .xor .u32 (a:Int) (b:Int)=((a ^^^ b:Nat):Int) :=
 bits_u32 .xor (· ^^^ ·) (fun a b ha hb=>Nat.xor_lt_two_pow (n:=32) (by omega) (by omega)) (fun x y=>by
  show IntKind.u32.wrap ((BitVec.ofInt 32 x ^^^ BitVec.ofInt 32 y).toNat:Int)=_
  rw [BitVec.toNat_xor]) a b ha hb
theorem tz32_keyn (x a:Nat) (hx:x<4294967296) (hx0:x≠0) (hlow:x &&& (4294967296-x)=a) :
  bits BinOp.and IntKind.u32 (x:Int) (-(x:Int) % 4294967296)*125613361 % 4294967296 / 134217728=((a*125613361 % 4294967296 / 134217728:Nat):Int):=by
 have e1:-(x:Int) % 4294967296=((4294967296-x:Nat):Int):=by omega
 rw [e1,bits_and_u32n x _ hx (by omega),hlow]
 omega
def commonN (a b:Nat):Nat:=min (Lib.ctz 32 (a ^^^ b)) 16
theorem commonN_le (a b:Nat):commonN a b≤16:=Nat.min_le_right _ _
theorem commonN_comm (a b:Nat):commonN a b=commonN b a:=by unfold commonN;rw [Nat.xor_comm]
theorem xor_lt {a b:Nat} (ha:a<4294967296) (hb:b<4294967296):a ^^^ b<4294967296:=Nat.xor_lt_two_pow (n:=32) (by omega) (by omega)
theorem testBit_pow_mul (k m i:Nat):(2 ^ k*(2*m+1)).testBit i=(decide (k≤i)&&(2*m+1).testBit (i-k)):=by
 rw [Nat.testBit_two_pow_mul]
theorem common_lt {a b i:Nat} (ha:a<4294967296) (hb:b<4294967296) (hi:i<commonN a b):a.testBit i=b.testBit i:=by
 have hx:=xor_lt ha hb
 by_cases h0:a ^^^ b=0
 ·have:(a ^^^ b).testBit i=false:=by rw [h0];simp
  rw [Nat.testBit_xor] at this
  simpa using this
 ·obtain ⟨m,hm,hk⟩:=Lib.ctzFrom_spec 32 (a ^^^ b) (by omega) hx
  have hc:Lib.ctz 32 (a ^^^ b)=Lib.ctzFrom 32 (a ^^^ b):=by unfold Lib.ctz;rw [if_neg h0]
  have hi':i<Lib.ctzFrom 32 (a ^^^ b):=by rw [← hc];exact Nat.lt_of_lt_of_le hi (Nat.min_le_left _ _)
  have ht:(a ^^^ b).testBit i=false:=by
   rw [hm,testBit_pow_mul];simp;omega
  rw [Nat.testBit_xor] at ht
  simpa using ht
theorem common_at {a b:Nat} (ha:a<4294967296) (hb:b<4294967296) (hi:commonN a b<16):a.testBit (commonN a b)≠b.testBit (commonN a b):=by
 have hx:=xor_lt ha hb
 by_cases h0:a ^^^ b=0
 ·unfold commonN Lib.ctz at hi
  rw [if_pos h0] at hi
  omega
 ·obtain ⟨m,hm,hk⟩:=Lib.ctzFrom_spec 32 (a ^^^ b) (by omega) hx
  have hc:Lib.ctz 32 (a ^^^ b)=Lib.ctzFrom 32 (a ^^^ b):=by unfold Lib.ctz;rw [if_neg h0]
  have hcc:commonN a b=Lib.ctzFrom 32 (a ^^^ b):=by
   unfold commonN at hi ⊢
   omega
  have ht:(a ^^^ b).testBit (commonN a b)=true:=by
   rw [hcc]
   conv=>lhs;arg 1;rw [hm]
   rw [testBit_pow_mul];simp
  rw [Nat.testBit_xor] at ht
  intro he
  rw [he] at ht
  simp at ht
theorem common_self (a:Nat):commonN a a=16:=by unfold commonN;simp [Lib.ctz]
theorem common_min {a b c:Nat} (ha:a<4294967296) (hb:b<4294967296) (hc:c<4294967296):min (commonN a b) (commonN b c)≤commonN a c:=by
 rcases Nat.lt_or_ge (commonN a c) (min (commonN a b) (commonN b c)) with h | h
 ·have h1:=common_lt ha hb (i:=commonN a c) (by omega)
  have h2:=common_lt hb hc (i:=commonN a c) (by omega)
  exact absurd (h1.trans h2) (common_at ha hc (by have:=commonN_le a b;omega))
 ·exact h
def bitN (a:Nat) (i:Int):Nat:=if i<0∨16≤i then 0 else a / 2 ^ i.toNat % 2
theorem bit_key (a:Nat) (i:Int) (ha:a<4294967296) (h0:0≤i) (h1:i<16):wrap64 (bits BinOp.and IntKind.u32 ((a:Int) / 2 ^ i.toNat) 1)=(bitN a i:Int):=by
 have e1:((a:Int) / 2 ^ i.toNat)=((a / 2 ^ i.toNat:Nat):Int):=by simp
 have hle:a / 2 ^ i.toNat≤a:=Nat.div_le_self _ _
 have:=bits_and_u32n (a / 2 ^ i.toNat) 1 (by omega) (by omega)
 rw [e1]
 rw [show ((1:Nat):Int)=1 from rfl] at this
 rw [this,Nat.and_one_is_mod]
 unfold bitN
 rw [if_neg (by omega)]
 have:=Nat.mod_lt (a / 2 ^ i.toNat) (show 2>0 by omega)
 generalize a / 2 ^ i.toNat % 2=m at *
 unfold wrap64
 omega
theorem bit_zero (a:Nat) (i:Int) (h:i<0∨16≤i):(bitN a i:Int)=0:=by unfold bitN;rw [if_pos h];rfl
end Go.Proofs.YthcholmhmcpooaaGreatDoor
