/- Texts for FlightStepsProof. -/
import Derived.Test.YtalmjklljofhbaaGreatDoorFlightStepsProofL10
import Derived.Test.YtalmjklljofhbaaGreatDoorFlightStepsProofL12
set_option linter.unusedSimpArgs false
set_option linter.unusedVariables false

namespace Go.Proofs.YtalmjklljofhbaaGreatDoor
open Go.RowKit
def InQ (qs:List (Int×Hdr)) (k:Nat):Prop:=∃ (j:Nat) (r:Int×Hdr),qs[j]?=some r∧r.2.val.ownBlock=some k
def Exq (qs:List (Int×Hdr)) (w w':World):Prop:=Chg (fun k=>k<w.heap.size∧¬ InQ qs k) w w'
theorem Exq.refl (qs:List (Int×Hdr)) (w:World):Exq qs w w:=Chg.refl _ w
theorem Exq.size {qs:List (Int×Hdr)} {w w':World} (k:Exq qs w w'):w.heap.size≤w'.heap.size:=Chg.size k
theorem Exq.nx {qs:List (Int×Hdr)} {w w1 w2:World} (h:Exq qs w w1) (k:Ex w1 w2):Exq qs w w2:=Chg.trans h (Chg.mono k (fun _ hk=>Nat.lt_of_lt_of_le hk.1 h.size))
theorem Exq.set {qs:List (Int×Hdr)} {w w':World} (h:Exq qs w w') {p:Addr} (v:Value) (hp:InQ qs p.block):Exq qs w (w'.setCell p v):=Chg.setCell h v (fun k hk he=>hk.2 (he▸hp))
def ILt (T:Nat→Prop) (w:World) (a:Option Addr) (n:Nat) (M:List (List Int)):Prop :=
 ∃ hs:List (Unit×Hdr),Rd 1 (encP enc0) T w a n hs∧M.length=n∧∀ (j:Nat) (q:Unit×Hdr) (c:List Int),hs[j]?=some q→M[j]?=some c→Rd 1 encI T w q.2.1 q.2.2.1 c
theorem ILt.chg {T:Nat→Prop} {w w':World} {a:Option Addr} {n:Nat} {M:List (List Int)} (h:ILt T w a n M) (k:Chg T w w'):ILt T w' a n M:=by
 obtain ⟨hs,h1,h2,h3⟩:=h
 exact ⟨hs,Rd.chg h1 k (fun _ x=>x),h2,fun j q c hq hc=>Rd.chg (h3 j q c hq hc) k (fun _ x=>x)⟩
theorem ILt.at {T:Nat→Prop} {w:World} {a:Option Addr} {n:Nat} {M:List (List Int)} (h:ILt T w a n M) {j:Nat} (hj:j<n) :
  ∃ x o a' n' c' c,a=some ⟨x,o,none⟩∧T x∧M[j]?=some c∧w.cell? ⟨x,o+j,none⟩=some (.slice a' n' c')∧Rd 1 encI T w a' n' c:=by
 obtain ⟨hs,h1,h2,h3⟩:=h
 obtain ⟨x,o,q,e,hx,hq,hc⟩:=Rd.at h1 hj
 obtain ⟨c,hcc⟩:∃ c,M[j]?=some c:=⟨M[j]'(by omega),by simp⟩
 refine ⟨x,o,q.2.1,q.2.2.1,q.2.2.2,c,e,hx,hcc,?_,h3 j q c hq hcc⟩
 have:=hc 0 _ rfl
 rw [Nat.mul_one,Nat.add_zero] at this
 exact this
end Go.Proofs.YtalmjklljofhbaaGreatDoor
