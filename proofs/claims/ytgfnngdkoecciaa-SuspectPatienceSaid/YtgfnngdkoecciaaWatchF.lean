/- What a watch holds after some events, in plain Lean. -/
import Derived.Test.YtgfnngdkoecciaaWatchL
namespace Go.Proofs.Ytgfnngdkoecciaa
open Go.RowKit

def bouncedW (l : List Int) : Bool := l.any (fun x => x == 3)
theorem bouncedW_snoc (l : List Int) (x : Int) : bouncedW (l ++ [x]) = (bouncedW l || x == 3) := by simp [bouncedW]
def afterW (n : Int) (l : List Int) : Int × Int × Int :=
  if bouncedW l then (3, 0, n) else if n < silentW l then (2, n, n) else (1, silentW l, n)

theorem fold_after (n : Int) (h1 : 1 ≤ n) (h2 : n ≤ 64) (l : List Int) : foldW (1, 0, n) l = afterW n l := by
  have : ∀ (k : Nat), foldW (1, 0, n) (l.take k) = afterW n (l.take k) := by
    intro k
    induction k with
    | zero =>
      have h0 : ¬ n < 0 := by omega
      simp [foldW, afterW, bouncedW, silentW, h0]
    | succ k ih =>
      rcases Nat.lt_or_ge k l.length with hk | hk
      · rw [take_snocI l k l[k] (by simp [hk]), foldW_snoc, ih]
        have hb := silentW_bd (l.take k)
        unfold afterW
        rw [bouncedW_snoc, silentW_snoc]
        generalize l[k] = x
        generalize silentW (l.take k) = s at *
        cases hbo : bouncedW (l.take k) with
        | true =>
          have hv : validW 3 0 n = true := by simp [validW]; omega
          simp [stepW, nextW, hv]
        | false =>
          simp only [Bool.false_or, if_neg (show ¬ (false = true) by simp)]
          by_cases hs : n < s
          · have hv : validW 2 n n = true := by simp [validW]; omega
            simp only [if_pos hs, stepW, nextW, hv, if_true]
            unfold tickW
            by_cases x1 : x = 1
            · subst x1; simp; omega
            · by_cases x2 : x = 2
              · subst x2; simp; omega
              · by_cases x3 : x = 3
                · subst x3; simp
                · simp [x1, x2, x3]; omega
          · have hv : validW 1 s n = true := by simp [validW]; omega
            simp only [if_neg hs, stepW, nextW, hv, if_true]
            unfold tickW
            by_cases x1 : x = 1
            · subst x1
              by_cases hsn : s < n
              · simp [hsn]; omega
              · have : s = n := by omega
                subst this
                simp; omega
            · by_cases x2 : x = 2
              · subst x2; simp; omega
              · by_cases x3 : x = 3
                · subst x3; simp
                · simp [x1, x2, x3]; omega
      · rw [List.take_of_length_le (show l.length ≤ k + 1 by omega)]
        rw [List.take_of_length_le hk] at ih
        exact ih
  have := this l.length
  rwa [List.take_of_length_le (Nat.le_refl _)] at this

theorem statesW_get (w : Int × Int × Int) (l : List Int) (k : Nat) (h : k < l.length) : (statesW w l)[k]? = some (foldW w (l.take (k + 1))).1 := by
  unfold statesW
  simp [h]
end Go.Proofs.Ytgfnngdkoecciaa
