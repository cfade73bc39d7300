/- Shared texts. -/
import Derived.Test.YtlgdjigocopglaaGreatDoorRqAll3
set_option linter.unusedSimpArgs false
set_option linter.unusedVariables false

namespace Go.Proofs.YtlgdjigocopglaaGreatDoor
open Go.RowKit
theorem testBit_of (a i : Nat) : a.testBit i = decide (a / 2 ^ i % 2 = 1) := by
 rw [Nat.testBit_eq_decide_div_mod_eq]
theorem bit_eq_iff (a b i : Nat) : a.testBit i = b.testBit i ↔ a / 2 ^ i % 2 = b / 2 ^ i % 2 := by
 rw [testBit_of, testBit_of]
 have h1 := Nat.mod_lt (a / 2 ^ i) (show 2 > 0 by omega)
 have h2 := Nat.mod_lt (b / 2 ^ i) (show 2 > 0 by omega)
 constructor
 ·intro h
  by_cases h3 : a / 2 ^ i % 2 = 1
  ·have : b / 2 ^ i % 2 = 1 := by simpa [h3] using h.symm
   omega
  ·have : ¬ b / 2 ^ i % 2 = 1 := by simpa [h3] using h.symm
   omega
 ·intro h; rw [h]
def NodesPost (l : List Nd) (w : World) (e : Ending) (w' : World) : Prop :=
 ∃ (a : Option Addr) (n cap : Nat), e = .returned (.slice a n cap) ∧ Rd 3 encN (fun k => w.heap.size ≤ k ∧ k < w'.heap.size) w' a n l ∧ Chg (· < w.heap.size) w w'
theorem groupN_snoc (l : List Nd) (h : Int) (v : Nat) (k : Nat) (y : Nd) (hy : l[k]? = some y) : groupN (l.take (k + 1)) h v = if sameN y.word v h then groupN (l.take k) h v ++ [y] else groupN (l.take k) h v := by
 unfold groupN
 rw [take_snocN l k y hy, List.filter_append]
 cases hs : sameN y.word v h <;> simp [hs]
theorem groupN_length (l : List Nd) (h : Int) (v : Nat) : (groupN l h v).length ≤ l.length := List.length_filter_le _ _
def GroupRel (l : List Nd) (h : Int) (v : Nat) (w : World) (o i : Value) (wr : World) : Prop :=
 ∃ k : Nat, k ≤ l.length ∧ i = .int .i64 k ∧ OwnL 3 encN 56 w.heap.size wr o (groupN (l.take k) h v) ∧ Chg (· < w.heap.size) w wr
theorem sort_word {l : List Nd} (hw : ∀ x ∈ l, x.word < 4294967296) : ∀ x ∈ sortN l, x.word < 4294967296 := fun x hx => hw x ((sortN_mem l x).1 hx)
theorem findN_word {l : List Nd} (hw : ∀ x ∈ l, x.word < 4294967296) (id : Int) : (findN l id).1.word < 4294967296 := by
 unfold findN
 split
 ·rename_i x hx
  exact hw x (List.mem_of_find?_eq_some hx)
 ·show 0 < _; omega
def NgPost (r : (Int × Int) × Bool) (w : World) (e : Ending) (w' : World) : Prop :=
 e = .returned (.tuple #[.agg #[.int .i64 r.1.1, .int .i64 r.1.2], .bool r.2]) ∧ Ex w w'
theorem rowN_len (S : List Nd) (j : Nat) (x : Nd) : (rowN S j x).2.length = j := by unfold rowN; simp
end Go.Proofs.YtlgdjigocopglaaGreatDoor
