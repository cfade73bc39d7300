/- Texts for RepairReachesProof, RepairRejoinsProof. -/
import Derived.Test.YtofmcalfbpjoeaaGreatDoorRpAll1
import Derived.Test.YtofmcalfbpjoeaaGreatDoorRpAll3
import Derived.Test.YtofmcalfbpjoeaaGreatDoorRpAll6
import Derived.Test.YtofmcalfbpjoeaaGreatDoorRpAll12
import Derived.Test.YtofmcalfbpjoeaaGreatDoorRpAll16
import Derived.Test.YtofmcalfbpjoeaaGreatDoorRpAll20
import Derived.Test.YtofmcalfbpjoeaaGreatDoorRpAll22
import Derived.Test.YtofmcalfbpjoeaaGreatDoorRpAll24

namespace Go.Proofs.YtofmcalfbpjoeaaGreatDoor
open Go.RowKit
section
variable {eP eI eN : TypeId} {base : Nat} {w w1 : World} {v : Value} {qs : List PQ} {P : List Pr}
theorem OwnP.growK (hI : eP ≠ eI) (hN : eP ≠ eN) (hIN : eI ≠ eN) {g n cap : Nat} (h : OwnP eP eI eN base w (.slice (some ⟨g, 0, none⟩) n cap) qs P) {a : Nat} {p : Pr} {hk hn hk' : Hdr} {kn : List Int} (hq : qs[a]? = some (p.nums, hk, hn)) (hp : P[a]? = some p)
  (A : OwnL 1 encI eI base w1 hk'.val kn) (k1 : Chg (fun k => k < w.heap.size ∧ ¬ hk.val.ownBlock = some k) w w1) (la : ∀ g, hk'.val.ownBlock = some g → hk.val.ownBlock = some g ∨ w.heap.size ≤ g) :
  w1.cell? ⟨g, a * 5 + 1, none⟩ = some hk.val ∧ w1.frozen? ⟨g, a * 5 + 1, none⟩ = false ∧
   OwnP eP eI eN base (w1.setCell ⟨g, a * 5 + 1, none⟩ hk'.val) (.slice (some ⟨g, 0, none⟩) n cap) (qs.set a (p.nums, hk', hn)) (P.set a { p with known := kn }) := by
 have row1 : OwnW 5 encQ eP base w1 (.slice (some ⟨g, 0, none⟩) n cap) qs := h.1.chg k1 (fun x hx hv => ⟨hx, fun hh => h.neI hI hq hh hv⟩)
 obtain ⟨s1, s2, s3⟩ := OwnW.set1 encQ_len row1 hq (c := 1) (by omega)
 have ch := set_chg (g := g) (o := a * 5 + 1) w1 hk'.val
 obtain ⟨_, r2a, r3a⟩ := h.2.2.1 a _ p hq hp
 have nK : ∀ (j : Nat) (r : PQ) (d : Pr), j ≠ a → qs[j]? = some r → P[j]? = some d → OwnL 1 encI eI base (w1.setCell ⟨g, a * 5 + 1, none⟩ hk'.val) r.2.1.val d.known := fun j r d hj hr hd => by
  obtain ⟨_, r2, _⟩ := h.2.2.1 j r d hr hd
  refine (r2.chg k1 (fun x hx hv => ⟨hx, fun hh => hj (h.2.2.2.1 j a r _ x hr hq hv hh)⟩)).chg ch (fun x hx hv => ⟨hx, fun he => ?_⟩)
  subst he; exact h.neI hI hr hv rfl
 have nN : ∀ (j : Nat) (r : PQ) (d : Pr), qs[j]? = some r → P[j]? = some d → OwnL 4 encNr eN base (w1.setCell ⟨g, a * 5 + 1, none⟩ hk'.val) r.2.2.val d.near := fun j r d hr hd => by
  obtain ⟨_, _, r3⟩ := h.2.2.1 j r d hr hd
  refine (r3.chg k1 (fun x hx hv => ⟨hx, fun hh => ?_⟩)).chg ch (fun x hx hv => ⟨hx, fun he => ?_⟩)
  ·obtain ⟨_, c1, h1⟩ := r3.blk hv
   obtain ⟨_, c2, h2⟩ := r2a.blk hh
   exact blk_kind (fun e => hIN e.symm) h1 h2
  ·subst he; exact h.neN hN hr hv rfl
 have A2 : OwnL 1 encI eI base (w1.setCell ⟨g, a * 5 + 1, none⟩ hk'.val) hk'.val kn := A.chg ch (fun x hx hv => ⟨hx, fun he => by
  subst he
  obtain ⟨_, c1, h1⟩ := A.blk hv
  obtain ⟨_, c2, h2⟩ := row1.blk rfl
  exact blk_kind hI h2 h1⟩)
 refine ⟨s1, s2, h.upd (q' := (p.nums, hk', hn)) (p' := { p with known := kn }) (List.getElem?_eq_some_iff.1 hq).1 (s3 _ _ rfl) rfl A2 (show OwnL 4 encNr eN base _ hn.val p.near from nN a (p.nums, hk, hn) p hq hp) (fun j r d hj hr hd => ⟨nK j r d hj hr hd, nN j r d hr hd⟩) (fun j r g' hj hr hg hv => ?_) (fun j r g' hj hr hg hv => ?_)⟩
 ·rcases la g' hv with h1 | h1
  ·exact hj (h.2.2.2.1 j a r _ g' hr hq hg h1)
  ·obtain ⟨d, hd⟩ : ∃ d, P[j]? = some d := ⟨P[j]'(by have := (List.getElem?_eq_some_iff.1 hr).1; have := h.2.1; omega), by simp⟩
   have := ((h.2.2.1 j r d hr hd).2.1.lt g' hg).2
   omega
 ·exact hj (h.2.2.2.2 j a r _ g' hr hq hg hv)
end
end Go.Proofs.YtofmcalfbpjoeaaGreatDoor
