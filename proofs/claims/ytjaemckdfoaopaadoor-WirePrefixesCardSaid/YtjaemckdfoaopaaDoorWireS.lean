/- Walks over the strings of the package wire. -/
import Derived.Test.YtjaemckdfoaopaaDoorWireI
import Derived.Laws.BytesString
import Derived.Lib.AppendStr
namespace Go.Proofs.YtjaemckdfoaopaaDoor
open Go.RowKit

/-- some bytes as a string -/
def strB (l : List UInt8) : ByteArray := ⟨l.toArray⟩
theorem foldl_push : ∀ (l : List Int) (ns : List UInt8) (s : ByteArray), l = ns.map (fun c => (c.toNat : Int)) → l.foldl (fun r n => r.push (UInt8.ofNat n.toNat)) s = ⟨s.data ++ ns.toArray⟩
  | [], [], s, _ => by simp
  | x :: l, c :: ns, s, h => by
    simp only [List.map_cons, List.cons.injEq] at h
    obtain ⟨rfl, h⟩ := h
    rw [List.foldl_cons, foldl_push l ns _ h]
    simp [ByteArray.push]
  | [], c :: ns, s, h => by simp at h
  | x :: l, [], s, h => by simp at h
theorem run_str {P : Program} {src dst e : TypeId} (hs : P.underlying src = some (.slice e)) (he : P.underlying e = some (.int .u8)) (hd : P.underlying dst = some .string)
    {w : World} {a : Option Addr} {n cap : Nat} {b : List UInt8} (h : Sl 1 encB w a n b) : (convert src dst (.slice a n cap)).run P w = .ok (.string (strB b)) w := by
  rw [run_convert_bytes_string w src dst e a n cap hs he hd]
  cases a with
  | none =>
    have hn : n = 0 := by
      rcases h.2 with h0 | ⟨x, o, e1, _⟩
      · exact h0
      · cases e1
    have hb : b = [] := List.eq_nil_of_length_eq_zero (h.1.trans hn)
    subst hb
    simp [Conv.bytesToString, strB, Sem.run_pure]
    rfl
  | some ad =>
    have hl : (loadCells ad n).run P w = .ok ((b.map (fun x => (x.toNat : Int))).map (Value.int .u8)).toArray w := by
      have := run_loadCells_list (P := P) w ad ((b.map (fun x => (x.toNat : Int))).map (Value.int .u8)) (fun j v hv => by
        rcases h.2 with h0 | ⟨x, o, e1, _, e3⟩
        · have hb : b = [] := List.eq_nil_of_length_eq_zero (h.1.trans h0)
          subst hb
          simp at hv
        · cases e1
          rw [List.getElem?_map, List.getElem?_map] at hv
          cases hb : b[j]? with
          | none => rw [hb] at hv; simp at hv
          | some y =>
            rw [hb] at hv
            simp at hv
            subst hv
            rw [Addr.add_lit]
            simpa using e3 j y hb 0 _ rfl)
      simp only [List.length_map] at this
      rw [h.1] at this
      exact this
    rw [run_bytesToString w ad n cap (b.map (fun x => (x.toNat : Int))) hl, foldl_push _ b _ rfl]
    simp [strB]

def bytesOf (s : ByteArray) : List UInt8 := s.data.toList
theorem strB_bytes (s : ByteArray) : strB (bytesOf s) = s := by simp [strB, bytesOf]
theorem bytes_str (l : List UInt8) : bytesOf (strB l) = l := rfl
theorem bytesOf_length (s : ByteArray) : (bytesOf s).length = s.size := by unfold bytesOf; rw [Array.length_toList]; rfl
theorem strCells_eq (s : ByteArray) : Lib.strCells s = (bytesOf s).flatMap encB := by
  unfold Lib.strCells bytesOf
  induction s.data.toList with
  | nil => rfl
  | cons c r ih => rw [List.map_cons, List.flatMap_cons, ih]; rfl

/-- append of a string -/
theorem wpList_append_string {P : Program} {ops : Array Oper} {rest : List Oper} {o : Oper} {a : Act} {Q : Exit → Act → World → Prop} (w0 : World) (hgd : o.guard = none) (s x : Operand) (t u : TypeId)
    (ho : o.op = .call { callee := .builtin .append, args := #[s, x], argTypes := #[t, u] })
    (base : Nat) (e : TypeId) (ht : P.underlying t = some (.slice e)) (hu : P.underlying u = some .string) (hi : (P.info? e).map (fun i => (i.zero, i.size, i.bytes)) = some (some (.int .u8 0), 1, 1))
    (v : Value) (l : List UInt8) (hown : OwnL 1 encB e base w0 v l) (hs : a.eval s = v) (str : ByteArray)
    (hx : a.eval x = .string str) (hl : l.length ≤ 1000000) (hn : str.size ≤ 1000000) (hbase : base ≤ w0.heap.size)
    (h : ∀ v' w', OwnL 1 encB e base w' v' (l ++ bytesOf str) → Chg (fun k => k < w0.heap.size ∧ ¬ v.ownBlock = some k) w0 w' → Chg (· < base) w0 w' → wpList P ops Q rest (a.put o.dst v') w') :
    wpList P ops Q (o :: rest) a w0 := by
  obtain ⟨i, hi, hz0, hz1, hz2⟩ := info_parts hi
  refine Lib.wpList_append_own_string w0 hgd s x t u ho base e i ht hu hi hz0 hz1 hz2 v l.length (l.flatMap encB) hs hown str hx (by unfold maxLen; omega) (by omega) hbase ?_
  intro v' w' hown' hgrow _
  have hch : Chg (fun k => k < w0.heap.size ∧ ¬ v.ownBlock = some k) w0 w' := ⟨hgrow.os, hgrow.tape, hgrow.output, hgrow.size, fun k hk => hgrow.block k hk.1 (fun h => hk.2 h.symm)⟩
  refine h v' w' ?_ hch (hch.mono fun k hk => ⟨by omega, fun hv => ?_⟩)
  · unfold OwnL
    rw [strCells_eq] at hown'
    simpa [List.flatMap_append, bytesOf_length] using hown'
  · have := hown.lt k hv
    omega

def encStr (s : ByteArray) : List UInt8 := encU s.size ++ bytesOf s
theorem encStr_length (s : ByteArray) : (encStr s).length = (encU s.size).length + s.size := by unfold encStr; rw [List.length_append, bytesOf_length]
theorem wrap64_bd (n : Nat) : -9223372036854775808 ≤ wrap64 (n : Int) ∧ wrap64 (n : Int) ≤ 9223372036854775807 := by unfold wrap64; omega
set_option maxRecDepth 100000 in
set_option maxHeartbeats 1000000 in
theorem appstr_p (a : Option Addr) (n cap : Nat) (b : List UInt8) (s : ByteArray) (w : World) (h : Sl 1 encB w a n b) (hn : n ≤ 200000) (hnil : a = none → cap = 0) (hs : s.size ≤ 200000) :
    Calls Tryd.prog 15 #[.slice a n cap, .string s] w (BytesPost (b ++ encStr s) w) := by
  have HBL := Lib.hid h.len
  have e1 : IntKind.u64.wrap (s.size : Int) = (s.size : Int) := by rw [wrap_u64n]; omega
  have hN : s.size < 18446744073709551616 := by omega
  have HN := Lib.hid hN
  clear hN
  go_enter Tryd.func15, Tryd.ntmps15
  go_wp2_with fail
  refine (appuint_p _ _ _ _ _ _ h hn hnil HN.out).mono ?_
  rintro e w1 ⟨v, rfl, hown, hc⟩
  have hz := hc.size
  have hl : (b ++ encU s.size).length ≤ 200010 := by
    have := encU_length s.size
    have := HBL.out
    simp; omega
  clear h
  go_wp2_with (at_builtin; go_loud (refine wpList_append_string w1 rfl _ _ 23 9 rfl w.heap.size 5 Tryd.underlying23 Tryd.underlying9 Tryd.infoB _ _ hown rfl s rfl (by omega) (by omega) (by omega) ?_); intro v' w3 hown3 _ hch3)
  go_ret
  exact ⟨_, rfl, by unfold encStr; rw [← List.append_assoc]; exact hown3, Chg.trans hc hch3⟩

def strR (b : List UInt8) (lim : Int) : ByteArray × Int × Int :=
  match decU b with
  | none => (ByteArray.empty, 0, 4)
  | some (N, K) => if lim < 0 ∨ lim < (N : Int) then (ByteArray.empty, 0, 3) else if b.length - K < N then (ByteArray.empty, 0, 4) else (strB ((b.drop K).take N), (K : Int) + N, 0)

set_option maxRecDepth 100000 in
set_option maxHeartbeats 1000000 in
theorem string_p (a : Option Addr) (n cap : Nat) (b : List UInt8) (lim : Int) (w : World) (h : Sl 1 encB w a n b) (hn : n ≤ 200000) (hcap : n ≤ cap) (hcap2 : cap ≤ maxLen) (hl1 : lim ≤ 9223372036854775807) :
    Calls Tryd.prog 13 #[.slice a n cap, .int .i64 lim] w fun e w' => e = .returned (.tuple #[.string (strR b lim).1, .int .i64 (strR b lim).2.1, .int .i64 (strR b lim).2.2]) ∧ w = w' := by
  unfold maxLen at hcap2
  have HBL := Lib.hid h.len
  go_enter Tryd.func13, Tryd.ntmps13
  go_wp2_with fail
  refine (uint_p _ _ _ _ _ h hn).mono ?_
  rintro e w1 ⟨rfl, rfl⟩
  cases hd : decU b with
  | none =>
    have h1 : Hid (strR b lim = (ByteArray.empty, 0, 4)) := by show strR b lim = _; unfold strR; rw [hd]
    have h2 : decR b = (0, 0, 4) := by unfold decR; rw [hd]; rfl
    rw [h2]
    clear hd h2 h
    go_wp2_with fail
    go_ret3
    exact ⟨by rw [h1.out]; rfl, rfl⟩
  | some r =>
    obtain ⟨N, K⟩ := r
    have l3 := decU_take hd
    obtain ⟨l1, l2⟩ := decU_lt hd
    have h2 : decR b = (N, K, 0) := by unfold decR; rw [hd]; rfl
    rw [h2]
    have hbl := HBL.out
    by_cases hb1 : lim < 0 ∨ lim < (N : Int)
    · have h1 : Hid (strR b lim = (ByteArray.empty, 0, 3)) := by show strR b lim = _; unfold strR; rw [hd]; simp only []; rw [if_pos hb1]
      clear hd h2 h hbl
      by_cases hl : lim < 0
      · have d1 : decide (lim < 0) = true := by simp; omega
        clear hb1 l1
        go_wp2_with fail
        go_ret3
        exact ⟨by rw [h1.out]; rfl, rfl⟩
      · have d1 : decide (lim < 0) = false := by simp; omega
        have e1 : IntKind.u64.wrap lim = lim := by rw [wrap_u64n]; omega
        have d2 : decide (lim < (N : Int)) = true := by simp; omega
        clear hb1 hl l1
        go_wp2_with fail
        go_ret3
        exact ⟨by rw [h1.out]; rfl, rfl⟩
    · have d1 : decide (lim < 0) = false := by simp; omega
      have e1 : IntKind.u64.wrap lim = lim := by rw [wrap_u64n]; omega
      have d2 : decide (lim < (N : Int)) = false := by simp; omega
      have e2 : IntKind.u64.wrap ((n : Int) - (K : Int)) = (n : Int) - (K : Int) := by rw [wrap_u64n]; omega
      have k1 : (K : Int) ≤ (n : Int) := by omega
      by_cases hb2 : b.length - K < N
      · have h1 : Hid (strR b lim = (ByteArray.empty, 0, 4)) := by show strR b lim = _; unfold strR; rw [hd]; simp only []; rw [if_neg hb1, if_pos hb2]
        have d3 : decide ((n : Int) - (K : Int) < (N : Int)) = true := by simp; omega
        clear hd h2 h hbl hb1 hb2 l1
        go_wp2_with fail
        go_ret3
        exact ⟨by rw [h1.out]; rfl, rfl⟩
      · have h1 : Hid (strR b lim = (strB ((b.drop K).take N), (K : Int) + N, 0)) := by show strR b lim = _; unfold strR; rw [hd]; simp only []; rw [if_neg hb1, if_neg hb2]
        have d3 : decide ((n : Int) - (K : Int) < (N : Int)) = false := by simp; omega
        have k2 : N ≤ 200000 := by omega
        have k3 : K + N ≤ n := by omega
        have e3 : wrap64 (N : Int) = (N : Int) := by unfold wrap64; omega
        obtain ⟨x, o, y, rfl, _⟩ := h.at (j := 0) (by omega)
        have hs2 : Sl 1 encB w (some ⟨x, o + K, none⟩) N ((b.drop K).take N) := by
          have := (h.drop (m := K) (by omega)).take (m := N) (by omega)
          simpa using this
        by_cases hcK : cap = K
        · have hs3 : Sl 1 encB w (some ⟨x, o, none⟩) N ((b.drop K).take N) := ⟨hs2.1, .inl (by omega)⟩
          have hr := run_str (P := Tryd.prog) (cap := 0) Tryd.underlying23 Tryd.underlying5 Tryd.underlying9 hs3
          subst hcK
          clear hd h2 h hbl hb1 hb2 l1 hs2 hs3
          go_wp2_with fail
          go_ret3
          exact ⟨by rw [h1.out]; rfl, rfl⟩
        · have hr := run_str (P := Tryd.prog) (cap := cap - K) Tryd.underlying23 Tryd.underlying5 Tryd.underlying9 hs2
          clear hd h2 h hbl hb1 hb2 l1 hs2
          go_wp2_with fail
          go_ret3
          exact ⟨by rw [h1.out]; rfl, rfl⟩
end Go.Proofs.YtjaemckdfoaopaaDoor
