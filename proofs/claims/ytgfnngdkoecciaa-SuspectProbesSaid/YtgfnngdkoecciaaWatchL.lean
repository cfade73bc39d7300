/- Lists of states and of ticks, in plain Lean. -/
import Derived.Test.YtgfnngdkoecciaaWatchV
namespace Go.Proofs.Ytgfnngdkoecciaa
open Go.RowKit

def stepW (w : Int × Int × Int) (x : Int) : Int × Int × Int := (nextW w.1 w.2.1 w.2.2 x).1
def foldW (w : Int × Int × Int) (l : List Int) : Int × Int × Int := l.foldl stepW w
def statesW (w : Int × Int × Int) (l : List Int) : List Int := (List.range l.length).map fun k => (foldW w (l.take (k + 1))).1
theorem foldW_snoc (w : Int × Int × Int) (l : List Int) (x : Int) : foldW w (l ++ [x]) = stepW (foldW w l) x := by unfold foldW; rw [List.foldl_append]; rfl
theorem statesW_snoc (w : Int × Int × Int) (l : List Int) (x : Int) : statesW w (l ++ [x]) = statesW w l ++ [(stepW (foldW w l) x).1] := by
  unfold statesW
  rw [List.length_append, List.length_singleton, List.range_succ, List.map_append]
  congr 1
  · apply List.map_congr_left
    intro k hk
    have : k < l.length := List.mem_range.1 hk
    rw [List.take_append_of_le_length (by omega)]
  · simp only [List.map_cons, List.map_nil]
    rw [List.take_of_length_le (by simp), foldW_snoc]
theorem statesW_length (w : Int × Int × Int) (l : List Int) : (statesW w l).length = l.length := by simp [statesW]
theorem take_snocI (l : List Int) (k : Nat) (y : Int) (h : l[k]? = some y) : l.take (k + 1) = l.take k ++ [y] := by
  rw [List.take_add_one, h]; rfl
def playW (n : Int) (l : List Int) : List Int × Int := if 1 ≤ n ∧ n ≤ 64 then (if 4096 < l.length then ([], 3) else (statesW (1, 0, n) l, 0)) else ([], 2)
def tickW (n x : Int) : Int := if x = 1 then n + 1 else if x = 2 then 0 else n
def silentW (l : List Int) : Int := l.foldl tickW 0
theorem silentW_snoc (l : List Int) (x : Int) : silentW (l ++ [x]) = tickW (silentW l) x := by unfold silentW; rw [List.foldl_append]; rfl
theorem silentW_bd (l : List Int) : 0 ≤ silentW l ∧ silentW l ≤ l.length := by
  have : ∀ (l : List Int) (n : Int), 0 ≤ n → 0 ≤ l.foldl tickW n ∧ l.foldl tickW n ≤ n + l.length := by
    intro l
    induction l with
    | nil => intro n h; simp [h]
    | cons x r ih =>
      intro n h
      have h1 : 0 ≤ tickW n x ∧ tickW n x ≤ n + 1 := by unfold tickW; split <;> (try split) <;> omega
      have := ih (tickW n x) h1.1
      simp only [List.foldl_cons, List.length_cons]
      omega
  have := this l 0 (by omega)
  unfold silentW; omega
end Go.Proofs.Ytgfnngdkoecciaa
