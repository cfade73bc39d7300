/- Texts for RepairReachesProof, RepairCleansProof. -/
import Derived.Test.YtofmcalfbpjoeaaGreatDoorRpAll1
import Derived.Test.YtofmcalfbpjoeaaGreatDoorRpAll3
import Derived.Test.YtofmcalfbpjoeaaGreatDoorRpAll6
import Derived.Test.YtofmcalfbpjoeaaGreatDoorRpAll8
import Derived.Test.YtofmcalfbpjoeaaGreatDoorRpAll16
import Derived.Test.YtofmcalfbpjoeaaGreatDoorRpAll18
import Derived.Test.YtofmcalfbpjoeaaGreatDoorRpAll19
import Derived.Test.YtofmcalfbpjoeaaGreatDoorRpAll20
import Derived.Test.YtofmcalfbpjoeaaGreatDoorRpAll21
import Derived.Test.YtofmcalfbpjoeaaGreatDoorRpAll22
import Derived.Test.YtofmcalfbpjoeaaGreatDoorRpAll23
import Derived.Test.YtofmcalfbpjoeaaGreatDoorRpAll24
import Derived.Test.YtofmcalfbpjoeaaGreatDoorRpAll29
import Derived.Test.YtofmcalfbpjoeaaGreatDoorRpAll32

namespace Go.Proofs.YtofmcalfbpjoeaaGreatDoor
open Go.RowKit
variable {N : List Nd} {L : List Lkd} {key : List UInt8} {right : Bool}
def RouteOk (N : List Nd) (key : List UInt8) (right : Bool) : Nd → Nat → List Hop → Prop
 | _, _, [] => True
 | x, lev, h :: hs => ∃ (y : Nd) (lev' : Nat), y ∈ N ∧ h = (x.id, y.id, (lev' : Int)) ∧ lev' ≤ lev ∧
   (DirN key right x y ∨ (right = false ∧ hs = [] ∧ lev' = 0 ∧ Op.bytesLess key y.key.toList = false ∧ Op.bytesLess y.key.toList x.key.toList = true)) ∧ RouteOk N key right y lev' hs
theorem HopsOk.snoc {x' y : Nd} (hy : y ∈ N) (hr : right = false) (h1 : Op.bytesLess key y.key.toList = false) (h2 : Op.bytesLess y.key.toList x'.key.toList = true) : ∀ {hs : List Hop} {x : Nd} {lev : Nat}, HopsOk N key right x' x lev hs → RouteOk N key right x lev (hs ++ [(x'.id, y.id, 0)])
 | [], x, lev, h => by
  have h : x = x' := h
  subst h
  exact ⟨y, 0, hy, rfl, by omega, .inr ⟨hr, rfl, rfl, h1, h2⟩, trivial⟩
 | _ :: _, _, _, ⟨z, l', g1, g2, g3, g4, g5⟩ => ⟨z, l', g1, g2, g3, .inl g4, g5.snoc hy hr h1 h2⟩
theorem wp_append_rq {P : Program} {α : Type} {enc : α → List Value} {o : Oper} {a : Act} {K : Act → World → Prop} {Q : Exit → Act → World → Prop} (w0 : World) (s x : Operand) (t : TypeId)
  (ho : o.op = .call { callee := .builtin .append, args := #[s, x], argTypes := #[t, t] })
  (base : Nat) (e : TypeId) (z : Value) (sz bytes : Nat) (ht : P.underlying t = some (.slice e)) (hi : (P.info? e).map (fun i => (i.zero, i.size, i.bytes)) = some (some z, sz, bytes))
  (hzs : z.cells.size = sz) (hsz : 0 < sz) (hby : bytes ≤ 65536)
  (v : Value) (l : List α) (hown : OwnL sz enc e base w0 v l) (hs : a.eval s = v) (A : Option Addr) (n c : Nat) (news : List α) (hrd : Sl sz enc w0 A n news) (hlen : ∀ y, (enc y).length = sz) (h1 : ∀ y, ∀ u ∈ enc y, u.oneCell' = true)
  (hx : a.eval x = .slice A n c) (hl : l.length ≤ 100000000) (hn : n ≤ 100000000) (hbase : base ≤ w0.heap.size)
  (h : ∀ v' w', OwnL sz enc e base w' v' (l ++ news) → Chg (fun k => k < w0.heap.size ∧ ¬ v.ownBlock = some k) w0 w' → Chg (· < base) w0 w' → K (a.put o.dst v') w') :
  o.wp P a w0 K Q := by
 by_cases hA : A = none → c = 0
 ·exact wp_append_rd w0 s x t ho base e z sz bytes ht hi hzs hsz hby v l hown hs (· < w0.heap.size) A n c news hrd hA hlen h1 hx hl hn hbase h
 ·have hAn : A = none := by
   cases A with
   | none => rfl
   | some _ => exact absurd (fun h => by cases h) hA
  subst hAn
  obtain ⟨i, hi, hz0, hz1, hz2⟩ := info_parts hi
  have hn0 : n = 0 := by
   rcases hrd.2 with h0 | ⟨x, o, e1, _⟩
   ·exact h0
   ·cases e1
  subst hn0
  have hnews : news = [] := List.eq_nil_of_length_eq_zero hrd.1
  subst hnews
  have hrun : (Builtin.append_ #[t, t] o.type #[v, .slice none 0 c]).run P w0 = .ok v w0 := by
   rcases hown.2 with ⟨rfl, _⟩ | ⟨g, cap, cur, rfl, _, _, hnc, _⟩
   ·simp [Builtin.append_, run_underlying ht, sizeOf, typeInfo, hi, Builtin.lenOf, Builtin.firstCells, loadCells, loadCellsFrom]
   ·simp [Builtin.append_, run_underlying ht, sizeOf, typeInfo, hi, Builtin.lenOf, Builtin.firstCells, hnc, storeCells, loadCells, loadCellsFrom]
  unfold Oper.wp execOp
  simp only [ho, resolve, invoke, builtin, Sem.run_bind, Sem.run_pure, Result.andThen_ok, List.map_toArray, List.map_cons, List.map_nil, hs, hx, hrun]
  exact h v w0 (by simpa using hown) (Chg.refl _ _) (Chg.refl _ _)
theorem wpList_append_rq {P : Program} {α : Type} {enc : α → List Value} {ops : Array Oper} {rest : List Oper} {o : Oper} {a : Act} {Q : Exit → Act → World → Prop} (w0 : World) (hgd : o.guard = none) (s x : Operand) (t : TypeId)
  (ho : o.op = .call { callee := .builtin .append, args := #[s, x], argTypes := #[t, t] })
  (base : Nat) (e : TypeId) (z : Value) (sz bytes : Nat) (ht : P.underlying t = some (.slice e)) (hi : (P.info? e).map (fun i => (i.zero, i.size, i.bytes)) = some (some z, sz, bytes))
  (hzs : z.cells.size = sz) (hsz : 0 < sz) (hby : bytes ≤ 65536)
  (v : Value) (l : List α) (hown : OwnL sz enc e base w0 v l) (hs : a.eval s = v) (A : Option Addr) (n c : Nat) (news : List α) (hrd : Sl sz enc w0 A n news) (hlen : ∀ y, (enc y).length = sz) (h1 : ∀ y, ∀ u ∈ enc y, u.oneCell' = true)
  (hx : a.eval x = .slice A n c) (hl : l.length ≤ 100000000) (hn : n ≤ 100000000) (hbase : base ≤ w0.heap.size)
  (h : ∀ v' w', OwnL sz enc e base w' v' (l ++ news) → Chg (fun k => k < w0.heap.size ∧ ¬ v.ownBlock = some k) w0 w' → Chg (· < base) w0 w' → wpList P ops Q rest (a.put o.dst v') w') :
  wpList P ops Q (o :: rest) a w0 :=
 wpList_plain hgd fun _ hK => wp_append_rq w0 s x t ho base e z sz bytes ht hi hzs hsz hby v l hown hs A n c news hrd hlen h1 hx hl hn hbase fun v' w' h2 h3 h4 => hK _ _ (h v' w' h2 h3 h4)
section
variable {N : List Nd} {P Q : List Pr}
theorem rruns_add (N : List Nd) (P : List Pr) (k : Int) (a : Nat) : ∀ b, rRunsN N (rRunsN N P k a) k b = rRunsN N P k (a + b)
 | 0 => rfl
 | b + 1 => by
  show rRoundN N (rRunsN N (rRunsN N P k a) k b) k = rRoundN N (rRunsN N P k (a + b)) k
  rw [rruns_add N P k a b]
end
end Go.Proofs.YtofmcalfbpjoeaaGreatDoor
