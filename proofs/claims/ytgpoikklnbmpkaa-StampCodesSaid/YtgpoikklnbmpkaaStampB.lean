/- Bytes as strings, for the statements on stamps. -/
import Derived.Test.YtgpoikklnbmpkaaStampE
import Derived.Laws.BytesString
namespace Go.Proofs.Ytgpoikklnbmpkaa
open Go.RowKit

/-- some bytes as a string -/
def strB (l : List UInt8) : ByteArray := ⟨l.toArray⟩
theorem foldl_push : ∀ (l : List Int) (ns : List UInt8) (s : ByteArray), l = ns.map (fun c => (c.toNat : Int)) → l.foldl (fun r n => r.push (UInt8.ofNat n.toNat)) s = ⟨s.data ++ ns.toArray⟩
  | [], [], s, _ => by simp
  | x :: l, c :: ns, s, h => by
    simp only [List.map_cons, List.cons.injEq] at h
    obtain ⟨rfl, h⟩ := h
    rw [List.foldl_cons, foldl_push l ns _ h]
    simp [ByteArray.push]
  | [], c :: ns, s, h => by simp at h
  | x :: l, [], s, h => by simp at h
theorem run_str {P : Program} {src dst e : TypeId} (hs : P.underlying src = some (.slice e)) (he : P.underlying e = some (.int .u8)) (hd : P.underlying dst = some .string)
    {w : World} {a : Option Addr} {n cap : Nat} {b : List UInt8} (h : Sl 1 encB w a n b) : (convert src dst (.slice a n cap)).run P w = .ok (.string (strB b)) w := by
  rw [run_convert_bytes_string w src dst e a n cap hs he hd]
  cases a with
  | none =>
    have hn : n = 0 := by
      rcases h.2 with h0 | ⟨x, o, e1, _⟩
      · exact h0
      · cases e1
    have hb : b = [] := List.eq_nil_of_length_eq_zero (h.1.trans hn)
    subst hb
    simp [Conv.bytesToString, strB, Sem.run_pure]
    rfl
  | some ad =>
    have hl : (loadCells ad n).run P w = .ok ((b.map (fun x => (x.toNat : Int))).map (Value.int .u8)).toArray w := by
      have := run_loadCells_list (P := P) w ad ((b.map (fun x => (x.toNat : Int))).map (Value.int .u8)) (fun j v hv => by
        rcases h.2 with h0 | ⟨x, o, e1, _, e3⟩
        · have hb : b = [] := List.eq_nil_of_length_eq_zero (h.1.trans h0)
          subst hb
          simp at hv
        · cases e1
          rw [List.getElem?_map, List.getElem?_map] at hv
          cases hb : b[j]? with
          | none => rw [hb] at hv; simp at hv
          | some y =>
            rw [hb] at hv
            simp at hv
            subst hv
            rw [Addr.add_lit]
            simpa using e3 j y hb 0 _ rfl)
      simp only [List.length_map] at this
      rw [h.1] at this
      exact this
    rw [run_bytesToString w ad n cap (b.map (fun x => (x.toNat : Int))) hl, foldl_push _ b _ rfl]
    simp [strB]

theorem run_own {w0 w : World} {v : Value} {l : List UInt8} (h : OwnL 1 encB 5 w0.heap.size w v l) :
    ∃ a n cap, v = .slice a n cap ∧ Slf 1 encB w0 w a n l ∧ (convert 46 9 (.slice a n cap)).run Try.prog w = .ok (.string (strB l)) w := by
  obtain ⟨a, cap, rfl, h1, _⟩ := h.slf (fun _ => rfl)
  exact ⟨a, _, cap, rfl, h1, run_str Try.underlying46 Try.underlying5 Try.underlying9 h1.sl⟩
theorem run_later {w0 w w' : World} {a : Option Addr} {n cap : Nat} {l : List UInt8} (h : Slf 1 encB w0 w a n l) (k : Ex w w') :
    (convert 46 9 (.slice a n cap)).run Try.prog w' = .ok (.string (strB l)) w' :=
  run_str Try.underlying46 Try.underlying5 Try.underlying9 (h.nx k).sl

/-- the same with what a later append wants -/
theorem run_own2 {w0 w : World} {v : Value} {l : List UInt8} (h : OwnL 1 encB 5 w0.heap.size w v l) :
    ∃ a n cap, v = .slice a n cap ∧ Slf 1 encB w0 w a n l ∧ (convert 46 9 (.slice a n cap)).run Try.prog w = .ok (.string (strB l)) w ∧ n ≤ cap ∧ cap ≤ maxLen ∧ (a = none → cap = 0) ∧ n = l.length := by
  obtain ⟨a, cap, rfl, h1, h2, h3, h4⟩ := h.slf (fun _ => rfl)
  exact ⟨a, _, cap, rfl, h1, run_str Try.underlying46 Try.underlying5 Try.underlying9 h1.sl, h2, h3, h4, rfl⟩
theorem flat_len {α : Type} {sz : Nat} {enc : α → List Value} (h : ∀ y, (enc y).length = sz) (l : List α) : (l.flatMap enc).length = l.length * sz := by
  induction l with
  | nil => simp
  | cons y r ih => rw [List.flatMap_cons, List.length_append, h, ih, List.length_cons, Nat.succ_mul]; omega
theorem own_some {e : TypeId} {base : Nat} {w : World} {v : Value} {l : List UInt8} (h : OwnL 1 encB e base w v l) (hl : 0 < l.length) : ∃ g cap, v = .slice (some ⟨g, 0, none⟩) l.length cap ∧ base ≤ g ∧ g < w.heap.size ∧ l.length ≤ cap ∧ cap ≤ maxLen := by
  rcases h.2 with ⟨_, h2⟩ | ⟨g, cap, cur, e1, e2, e3, e4, e5, _⟩
  · omega
  · exact ⟨g, cap, e1, e2, heap_lt e3, e4, e5⟩
theorem own_cell {e : TypeId} {base : Nat} {w : World} {g n cap j : Nat} {l : List UInt8} (h : OwnL 1 encB e base w (.slice (some ⟨g, 0, none⟩) n cap) l) (hj : j < n) :
    w.cell? ⟨g, j, none⟩ = some (.int .u8 (l[j]?.getD 0).toNat) ∧ w.frozen? ⟨g, j, none⟩ = false ∧ ∀ y : UInt8, OwnL 1 encB e base (w.setCell ⟨g, j, none⟩ (.int .u8 y.toNat)) (.slice (some ⟨g, 0, none⟩) n cap) (l.set j y) := by
  rcases h.2 with ⟨h1, _⟩ | ⟨g', cap', cur, e1, e2, e3, e4, e5, e6, e7⟩
  · cases h1
  · cases e1
    have hflat : ∀ l : List UInt8, l.flatMap encB = l.map fun c => Value.int .u8 c.toNat := by
      intro l
      induction l with
      | nil => rfl
      | cons c r ih => rw [List.flatMap_cons, ih]; rfl
    have hjc : j < cur.size := by omega
    rw [hflat] at e7
    refine ⟨?_, ?_, fun y => ⟨?_, .inr ⟨g, cap, cur.setIfInBounds j (.int .u8 y.toNat), by simp, e2, heap_set e3 j _, by simpa using e4, e5, by simpa using e6, ?_⟩⟩⟩
    · have hx : (cur.toList.take (l.length * 1))[j]? = some (.int .u8 (l[j]?.getD 0).toNat) := by
        rw [e7]
        simp [hj]
      rw [List.getElem?_take, if_pos (by omega)] at hx
      simpa [World.cell?, e3] using hx
    · simp [World.frozen?, e3]
    · rw [flat_len (enc := encB) (sz := 1) (fun _ => rfl)]
    · rw [hflat, List.length_set, Array.toList_setIfInBounds, List.take_set, e7, List.map_set]

theorem xor_byte (x y : Int) : ∃ z : UInt8, bits BinOp.xor IntKind.u8 x y = (z.toNat : Int) := by
  refine ⟨byt ((BitVec.ofInt 8 x ^^^ BitVec.ofInt 8 y).toNat), ?_⟩
  have h := (BitVec.ofInt 8 x ^^^ BitVec.ofInt 8 y).isLt
  show IntKind.u8.wrap ((BitVec.ofInt 8 x ^^^ BitVec.ofInt 8 y).toNat : Int) = _
  rw [byt_toNat, wrap_u8n]
  omega
theorem encST_len (a b : Int) : (encST a b).1.length ≤ 20 := by
  unfold encST
  split
  · rw [List.length_append]; exact Nat.add_le_add (encU_length _) (encU_length _)
  · exact Nat.zero_le _
end Go.Proofs.Ytgpoikklnbmpkaa
