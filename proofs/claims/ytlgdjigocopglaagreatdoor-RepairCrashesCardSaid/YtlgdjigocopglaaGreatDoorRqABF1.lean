/- Shared texts. -/
import Derived.Test.YtlgdjigocopglaaGreatDoorRqAll3
set_option linter.unusedSimpArgs false
set_option linter.unusedVariables false

namespace Go.Proofs.YtlgdjigocopglaaGreatDoor
open Go.RowKit
section
variable {α : Type} {sz : Nat} {enc : α → List Value}
theorem flatN_take (hsz : ∀ y, (enc y).length = sz) : ∀ (l : List α) (m : Nat), (l.take m).flatMap enc = (l.flatMap enc).take (m * sz)
 | [], m => by simp
 | y :: r, 0 => by simp
 | y :: r, m + 1 => by
  rw [List.take_succ_cons, List.flatMap_cons, List.flatMap_cons, flatN_take hsz r m, Nat.succ_mul, Nat.add_comm (m * sz), List.take_append, hsz,
   List.take_of_length_le (l := enc y) (by rw [hsz]; omega), Nat.add_sub_cancel_left]
end
theorem flat_set3 (x : Nd) : ∀ (L : List Nd) (j : Nat), j < L.length → (L.set j x).flatMap encN = (((L.flatMap encN).set (j * 3) (.int .i64 x.id)).set (j * 3 + 1) (.string x.key)).set (j * 3 + 2) (.int .u32 x.word)
 | [], j, h => by simp at h
 | y :: r, 0, _ => rfl
 | y :: r, j + 1, h => by
  have ih := flat_set3 x r j (by simpa using h)
  rw [List.set_cons_succ, List.flatMap_cons, List.flatMap_cons, ih]
  have e : (j + 1) * 3 = j * 3 + 3 := by omega
  rw [e]
  show encN y ++ _ = ((([Value.int .i64 y.id, .string y.key, .int .u32 y.word] ++ r.flatMap encN).set (j * 3 + 3) _).set (j * 3 + 3 + 1) _).set (j * 3 + 3 + 2) _
  rw [List.set_append_right _ _ (by simp), List.set_append_right _ _ (by simp [Nat.add_assoc]), List.set_append_right _ _ (by simp [Nat.add_assoc])]
  simp only [List.length_cons, List.length_nil]
  rw [show j * 3 + 3 - (0 + 1 + 1 + 1) = j * 3 by omega, show j * 3 + 3 + 1 - (0 + 1 + 1 + 1) = j * 3 + 1 by omega, show j * 3 + 3 + 2 - (0 + 1 + 1 + 1) = j * 3 + 2 by omega]
  rfl
theorem own_set3 {e : TypeId} {base : Nat} {w : World} {g n cap j : Nat} {L : List Nd} (h : OwnL 3 encN e base w (.slice (some ⟨g, 0, none⟩) n cap) L) (hj : j < n) (y : Nd) :
  (∃ a b c, w.cell? ⟨g, j * 3, none⟩ = some a ∧ w.cell? ⟨g, j * 3 + 1, none⟩ = some b ∧ w.cell? ⟨g, j * 3 + 1 + 1, none⟩ = some c) ∧ (∀ o, w.frozen? ⟨g, o, none⟩ = false) ∧
  OwnL 3 encN e base (((w.setCell ⟨g, j * 3, none⟩ (.int .i64 y.id)).setCell ⟨g, j * 3 + 1, none⟩ (.string y.key)).setCell ⟨g, j * 3 + 2, none⟩ (.int .u32 y.word)) (.slice (some ⟨g, 0, none⟩) n cap) (L.set j y) := by
 rcases h.2 with ⟨h1, _⟩ | ⟨g', cap', cur, e1, e2, e3, e4, e5, e6, e7⟩
 ·cases h1
 ·obtain ⟨rfl, hLn, rfl⟩ : g = g' ∧ n = L.length ∧ cap = cap' := by simpa using e1
  have hsz : j * 3 + 2 < cur.size := by rw [e6]; omega
  have s1 := heap_set e3 (j * 3) (.int .i64 y.id)
  have s2 := heap_set s1 (j * 3 + 1) (.string y.key)
  have s3 := heap_set s2 (j * 3 + 2) (.int .u32 y.word)
  refine ⟨⟨cur[j * 3], cur[j * 3 + 1], cur[j * 3 + 1 + 1], by simp [World.cell?, e3], by simp [World.cell?, e3], by simp [World.cell?, e3]⟩, fun o => by simp [World.frozen?, e3], ?_, .inr ⟨g, cap, _, by simp [hLn], e2, s3, ?_, e5, by simp [e6], ?_⟩⟩
  ·rw [flatN_len (sz := 3) (fun _ => rfl)]
  ·rw [List.length_set, ← hLn]; omega
  ·rw [flat_set3 y L j (by omega), ← e7, List.length_set]
   simp only [Array.toList_setIfInBounds, List.take_set]
end Go.Proofs.YtlgdjigocopglaaGreatDoor
