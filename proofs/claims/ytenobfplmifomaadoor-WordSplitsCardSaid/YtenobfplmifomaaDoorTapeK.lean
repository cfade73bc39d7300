/- The tape, in the standard forms. -/
import Derived.Test.YtenobfplmifomaaDoorTape
import Derived.Test.YtenobfplmifomaaDoorK
namespace Go.Proofs.YtenobfplmifomaaDoor
open Go.RowKit

/-- a tape at b -/
def TK (w : World) (b : Nat) : Prop := TP 51 (b + 1) w b
theorem TK.lt {w : World} {b : Nat} (h : TK w b) : b < w.heap.size := by
  obtain ⟨_, _, _, _, _, _, h1, _⟩ := h
  exact heap_lt h1
theorem TK.nx {w w' : World} {b : Nat} (h : TK w b) (k : Ex w w') : TK w' b := TP.chg h k (fun x hx => Nat.lt_of_lt_of_le hx h.lt)
/-- a store behind the tape -/
theorem TK.set {w : World} {b : Nat} (h : TK w b) {p : Addr} (v : Value) (hp : b < p.block) : TK (w.setCell p v) b :=
  TP.chg h ((Chg.refl (· < b + 1) w).setCell v (fun k (hk : k < b + 1) => by omega)) (fun _ hk => hk)
/-- a number below n (0 if there is none) -/
def NumPost (n : Int) (b : Nat) (w : World) (e : Ending) (w' : World) : Prop :=
  ∃ r : Int, e = .returned (.int .i64 r) ∧ 0 ≤ r ∧ r ≤ n ∧ TK w' b ∧ Exb b w w'
theorem next_t {b : Nat} (n : Int) (w : World) (h : TK w b) (h1 : 1 ≤ n) (h2 : n ≤ 9223372036854775807) :
    Calls Tryd.prog 10 #[.pointer (some ⟨b, 0, none⟩), .int .i64 n] w (NumPost (n - 1) b w) := by
  refine (next_x n w h h2).mono ?_
  rintro e w' ⟨r, rfl, r0, r1, k, t⟩
  rw [if_neg (by omega)] at r1
  exact ⟨r, rfl, r0, r1, t, k⟩
theorem next_t0 {b : Nat} (n : Int) (w : World) (h : TK w b) (h2 : n ≤ 9223372036854775807) :
    Calls Tryd.prog 10 #[.pointer (some ⟨b, 0, none⟩), .int .i64 n] w (NumPost (if n < 1 then 0 else n - 1) b w) := by
  refine (next_x n w h h2).mono ?_
  rintro e w' ⟨r, rfl, r0, r1, k, t⟩
  exact ⟨r, rfl, r0, r1, t, k⟩
/-- one of some numbers that were just written out -/
theorem pick_t {b n s : Nat} (lo hi : Int) (l : List Int) {A : Array Value} {w : World} (h : TK w b) (hs : s = w.heap.size) (hA : A = (l.map (Value.int .i64)).toArray) (hl : l.length = n) (hl0 : 0 < n) (hl2 : n ≤ 100)
    (hr : ∀ x ∈ l, lo ≤ x ∧ x ≤ hi) :
    Calls Tryd.prog 30 #[.pointer (some ⟨b, 0, none⟩), .slice (some ⟨s, 0, none⟩) n n] (w.alloc (.cells A 3)) fun e w' =>
      ∃ r : Int, e = .returned (.int .i64 r) ∧ lo ≤ r ∧ r ≤ hi ∧ TK w' b ∧ Exb b w w' := by
  refine (pick_lit lo hi l h h.lt hs hA hl hl0 hl2 hr).mono ?_
  rintro e w' ⟨r, rfl, r0, r1, k, t⟩
  exact ⟨r, rfl, r0, r1, t, k⟩
theorem new_t (a : Option Addr) (n cap : Nat) (l : List Int) (w : World) (h : Sl 1 encI w a n l) (hn : n ≤ cap) (hcap : cap ≤ maxLen) :
    Calls Tryd.prog 8 #[.slice a n cap] w fun e w' => e = .returned (.pointer (some ⟨w.heap.size, 0, none⟩)) ∧ TK w' w.heap.size ∧ Ex w w' ∧ w.heap.size < w'.heap.size := by
  refine (new_x a n cap l w h (fun _ hk => hk) hn hcap).mono ?_
  rintro e w' ⟨rfl, t, k⟩
  have hlt : w.heap.size < w'.heap.size := by
    obtain ⟨_, _, _, _, _, _, h1, _⟩ := t
    exact heap_lt h1
  exact ⟨rfl, t, k, hlt⟩
end Go.Proofs.YtenobfplmifomaaDoor
