/- Texts for RepairReachesProof, RepairCrashesProof, RepairJoinsProof, RepairCleansProof, RepairRejoinsProof. -/
import Derived.Test.YtofmcalfbpjoeaaGreatDoorRpAll1
import Derived.Test.YtofmcalfbpjoeaaGreatDoorRpAll19
import Derived.Test.YtofmcalfbpjoeaaGreatDoorRpAll21

namespace Go.Proofs.YtofmcalfbpjoeaaGreatDoor
open Go.RowKit
def GrpM (P : Program) (k e : TypeId) (base : Nat) (w : World) (b n : Nat) (f : Int → Value) (J : Int → List Int) : Prop :=
 RawM P k w b n f ∧ b < base ∧ base ≤ w.heap.size ∧ (∀ v, OwnL 1 encI e base w (f v) (J v)) ∧ ∀ v v' g, v ≠ v' → (f v).ownBlock = some g → ¬ (f v').ownBlock = some g
section
variable {P : Program} {k e : TypeId} {base : Nat} {w w' : World} {b n : Nat} {f : Int → Value} {J : Int → List Int}
theorem GrpM.made (w : World) (P : Program) (k e : TypeId) : GrpM P k e (w.heap.size + 1) (w.alloc (.map #[] 0)) w.heap.size 0 (fun _ => nilS) (fun _ => []) :=
 ⟨RawM.made w P k, by omega, by simp, fun _ => OwnL.nil _ _ _ _ _, fun _ _ _ _ h => by cases h⟩
theorem GrpM.nx (h : GrpM P k e base w b n f J) (kk : Ex w w') : GrpM P k e base w' b n f J :=
 ⟨h.1.nx kk, h.2.1, Nat.le_trans h.2.2.1 kk.size, fun v => (h.2.2.2.1 v).nx kk, h.2.2.2.2⟩
theorem GrpM.nxb {c : Nat} (h : GrpM P k e base w b n f J) (hc : c < base) (hb : b ≠ c) (kk : Exb c w w') : GrpM P k e base w' b n f J :=
 ⟨h.1.nxb hb kk, h.2.1, Nat.le_trans h.2.2.1 kk.size, fun v => (h.2.2.2.1 v).nxb hc kk, h.2.2.2.2⟩
theorem GrpM.row (h : GrpM P k e base w b n f J) (v : Int) : OwnL 1 encI e base w (f v) (J v) := h.2.2.2.1 v
end
def grp1 (J : Int → List Int) (x y : Int) : Int → List Int := fun v => if v = x then J x ++ [y] else J v
section
variable {P : Program} {k e : TypeId} {base : Nat} {w w' : World} {b n : Nat} {f : Int → Value} {J : Int → List Int}
theorem GrpM.one (h : GrpM P k e base w b n f J) {x y : Int} {w1 w3 : World} {a' : Value} {n' : Nat}
  (A : OwnL 1 encI e base w1 a' (J x ++ [y])) (k1 : Chg (fun k => k < w.heap.size ∧ ¬ (f x).ownBlock = some k) w w1) (la : ∀ g, a'.ownBlock = some g → (f x).ownBlock = some g ∨ w.heap.size ≤ g)
  (k3 : Exb b w1 w3) (R : RawM P k w3 b n' (upd f x a')) : GrpM P k e base w3 b n' (upd f x a') (grp1 J x y) := by
 obtain ⟨h1, hb, hs, hO, hd⟩ := h
 have s1 := k1.size
 have s3 := k3.size
 refine ⟨R, hb, by omega, fun v => ?_, fun v v' g hne hv hv' => ?_⟩
 ·unfold upd grp1
  by_cases hvx : v = x
  ·rw [if_pos hvx, if_pos hvx]
   exact A.nxb hb k3
  ·rw [if_neg hvx, if_neg hvx]
   have O1 : OwnL 1 encI e base w1 (f v) (J v) := (hO v).chg k1 fun g hg hv => ⟨hg, hd v x g hvx hv⟩
   exact O1.nxb hb k3
 ·unfold upd at hv hv'
  have ov : ∀ u g, u ≠ x → (f u).ownBlock = some g → ¬ a'.ownBlock = some g := by
   intro u g hux hu ha
   rcases la g ha with h2 | h2
   ·exact hd u x g hux hu h2
   ·have := ((hO u).lt g hu).2; omega
  by_cases hvx : v = x
  ·rw [if_pos hvx] at hv
   rw [if_neg (by omega)] at hv'
   exact ov v' g (by omega) hv' hv
  ·rw [if_neg hvx] at hv
   by_cases hvx' : v' = x
   ·rw [if_pos hvx'] at hv'; exact ov v g hvx hv hv'
   ·rw [if_neg hvx'] at hv'; exact hd v v' g hne hv hv'
end
end Go.Proofs.YtofmcalfbpjoeaaGreatDoor
