/- Texts for the statement SearchAgreesProof, part 8 of 11: WireI, WireS, WireT, WireO, EncN, Lnk, EncL, SrRt, TSome. -/
import Derived.Laws.BytesString
import Derived.Lib.AppendStr
import Derived.Deep.RegionHeld3
import Derived.Test.YtkjlhcfocefhpaaDoorSearchAgreesProofPk2
import Derived.Test.YtkjlhcfocefhpaaDoorSearchAgreesProofPk4
import Derived.Test.YtkjlhcfocefhpaaDoorSearchAgreesProofPk7

/- Walks over the signed numbers of the package wire and of its reference. -/
namespace Go.Proofs.YtkjlhcfocefhpaaDoor
open Go.RowKit

def zig (n : Int) : Nat := if n < 0 then (-(n + 1)).toNat * 2 + 1 else n.toNat * 2
def unzig (N : Nat) : Int := if N % 2 = 1 then -((N / 2 : Nat) : Int) - 1 else ((N / 2 : Nat) : Int)
theorem unzig_zig (n : Int) : unzig (zig n) = n := by unfold zig unzig; split <;> (split <;> omega)
theorem zig_lt {n : Int} (h1 : -9223372036854775808 ≤ n) (h2 : n ≤ 9223372036854775807) : zig n < 18446744073709551616 := by unfold zig; split <;> omega
def intR (b : List UInt8) : Int × Nat × Nat := match decU b with | some (n, k) => (unzig n, k, 0) | none => (0, 0, 4)

theorem bits_xor_u64n (a b : Nat) (ha : a < 18446744073709551616) (hb : b < 18446744073709551616) : bits .xor .u64 (a : Int) (b : Int) = ((a ^^^ b : Nat) : Int) := by
  have h1 : ∀ a : Nat, a < 18446744073709551616 → (BitVec.ofInt 64 (a : Int)).toNat = a := fun a ha => by
    rw [BitVec.ofInt_natCast, BitVec.toNat_ofNat]; exact Nat.mod_eq_of_lt (by omega)
  have h2 := Nat.xor_lt_two_pow (n := 64) (x := a) (y := b) (by omega) (by omega)
  show IntKind.u64.wrap ((BitVec.ofInt 64 (a : Int) ^^^ BitVec.ofInt 64 (b : Int)).toNat : Int) = _
  rw [BitVec.toNat_xor, h1 a ha, h1 b hb, wrap_u64n]
  omega

theorem xor_ones (x : Int) (h0 : 0 ≤ x) (h1 : x < 18446744073709551616) : bits .xor .u64 x 18446744073709551615 = 18446744073709551615 - x := by
  obtain ⟨x, rfl⟩ := Int.eq_ofNat_of_zero_le h0
  have e1 : (BitVec.ofInt 64 (x : Int)).toNat = x := by
    rw [BitVec.ofInt_natCast, BitVec.toNat_ofNat]; exact Nat.mod_eq_of_lt (by omega)
  have e2 : BitVec.ofInt 64 (18446744073709551615 : Int) = BitVec.allOnes 64 := by decide
  show IntKind.u64.wrap ((BitVec.ofInt 64 (x : Int) ^^^ BitVec.ofInt 64 (18446744073709551615 : Int)).toNat : Int) = _
  rw [e2, BitVec.xor_allOnes, BitVec.toNat_not, e1, wrap_u64n]
  omega
theorem xor_zero (x : Int) (h0 : 0 ≤ x) (h1 : x < 18446744073709551616) : bits .xor .u64 x 0 = x := by
  obtain ⟨x, rfl⟩ := Int.eq_ofNat_of_zero_le h0
  have := bits_xor_u64n x 0 (by omega) (by omega)
  rw [Nat.xor_zero] at this
  exact this
theorem sign_key (n : Int) (h1 : -9223372036854775808 ≤ n) (h2 : n ≤ 9223372036854775807) :
    bits BinOp.xor IntKind.u64 (IntKind.u64.wrap (IntKind.u64.wrap n * 2)) (IntKind.u64.wrap (n / 9223372036854775808)) = (zig n : Int) := by
  unfold zig
  rcases Int.lt_or_le n 0 with h | h
  · have e1 : n / 9223372036854775808 = -1 := by omega
    have e2 : IntKind.u64.wrap (IntKind.u64.wrap n * 2) = 2 * n + 18446744073709551616 := by rw [wrap_u64n, wrap_u64n]; omega
    have e3 : IntKind.u64.wrap (-1) = 18446744073709551615 := by rw [wrap_u64n]; omega
    rw [e1, e2, e3, xor_ones _ (by omega) (by omega), if_pos h]
    omega
  · have e1 : n / 9223372036854775808 = 0 := by omega
    have e2 : IntKind.u64.wrap (IntKind.u64.wrap n * 2) = 2 * n := by rw [wrap_u64n, wrap_u64n]; omega
    have e3 : IntKind.u64.wrap 0 = 0 := by rw [wrap_u64n]; omega
    rw [e1, e2, e3, xor_zero _ (by omega) (by omega), if_neg (by omega)]
    omega

theorem wrap_i64n (n : Int) : IntKind.i64.wrap n = wrap64 n := by rw [IntKind.wrap_i64]; unfold wrap64; rfl
theorem xor_ones_i (x : Int) (h0 : 0 ≤ x) (h1 : x < 9223372036854775808) : bits .xor .i64 x (-1) = -x - 1 := by
  obtain ⟨x, rfl⟩ := Int.eq_ofNat_of_zero_le h0
  have e1 : (BitVec.ofInt 64 (x : Int)).toNat = x := by
    rw [BitVec.ofInt_natCast, BitVec.toNat_ofNat]; exact Nat.mod_eq_of_lt (by omega)
  have e2 : BitVec.ofInt 64 (-1 : Int) = BitVec.allOnes 64 := by decide
  show IntKind.i64.wrap ((BitVec.ofInt 64 (x : Int) ^^^ BitVec.ofInt 64 (-1 : Int)).toNat : Int) = _
  rw [e2, BitVec.xor_allOnes, BitVec.toNat_not, e1, wrap_i64n]
  unfold wrap64
  omega
theorem xor_zero_i (x : Int) (h0 : 0 ≤ x) (h1 : x < 9223372036854775808) : bits .xor .i64 x 0 = x := by
  obtain ⟨x, rfl⟩ := Int.eq_ofNat_of_zero_le h0
  have e1 : (BitVec.ofInt 64 (x : Int)).toNat = x := by
    rw [BitVec.ofInt_natCast, BitVec.toNat_ofNat]; exact Nat.mod_eq_of_lt (by omega)
  show IntKind.i64.wrap ((BitVec.ofInt 64 (x : Int) ^^^ BitVec.ofInt 64 (0 : Int)).toNat : Int) = _
  rw [show BitVec.ofInt 64 (0 : Int) = 0#64 by decide, BitVec.xor_zero, e1, wrap_i64n]
  unfold wrap64
  omega
theorem bits_and1 (N : Nat) (h : N < 18446744073709551616) : bits BinOp.and IntKind.u64 (N : Int) 1 = ((N % 2 : Nat) : Int) := by
  have h1 : (BitVec.ofInt 64 (N : Int)).toNat = N := by
    rw [BitVec.ofInt_natCast, BitVec.toNat_ofNat]; exact Nat.mod_eq_of_lt (by omega)
  have h2 : (BitVec.ofInt 64 (1 : Int)).toNat = 1 := by decide
  show IntKind.u64.wrap ((BitVec.ofInt 64 (N : Int) &&& BitVec.ofInt 64 (1 : Int)).toNat : Int) = _
  rw [BitVec.toNat_and, h1, h2, wrap_u64n, Nat.and_one_is_mod]
  omega
theorem int_key (N : Nat) (h : N < 18446744073709551616) : bits BinOp.xor IntKind.i64 (wrap64 ((N : Int) / 2)) (wrap64 (-wrap64 (bits BinOp.and IntKind.u64 (N : Int) 1))) = unzig N := by
  rw [bits_and1 N h]
  have e1 : wrap64 ((N : Int) / 2) = ((N / 2 : Nat) : Int) := by unfold wrap64; omega
  rw [e1]
  unfold unzig
  by_cases hz : N % 2 = 1
  · rw [if_pos hz, hz, show wrap64 (-wrap64 ((1 : Nat) : Int)) = -1 by unfold wrap64; omega, xor_ones_i _ (by omega) (by omega)]
  · rw [if_neg hz, show N % 2 = 0 by omega, show wrap64 (-wrap64 ((0 : Nat) : Int)) = 0 by unfold wrap64; omega, xor_zero_i _ (by omega) (by omega)]
theorem int_of_dec (b : List UInt8) : bits BinOp.xor IntKind.i64 (wrap64 (((decR b).1 : Int) / 2)) (wrap64 (-wrap64 (bits BinOp.and IntKind.u64 ((decR b).1 : Int) 1))) = (intR b).1 ∧ (intR b).2 = (decR b).2 := by
  unfold decR intR
  cases hd : decU b with
  | none => exact ⟨int_key 0 (by omega), rfl⟩
  | some r =>
    obtain ⟨N, K⟩ := r
    obtain ⟨l1, l2⟩ := decU_lt hd
    exact ⟨int_key N l1, rfl⟩

end Go.Proofs.YtkjlhcfocefhpaaDoor

/- Walks over the strings of the package wire. -/
namespace Go.Proofs.YtkjlhcfocefhpaaDoor
open Go.RowKit

/-- some bytes as a string -/
def strB (l : List UInt8) : ByteArray := ⟨l.toArray⟩
theorem foldl_push : ∀ (l : List Int) (ns : List UInt8) (s : ByteArray), l = ns.map (fun c => (c.toNat : Int)) → l.foldl (fun r n => r.push (UInt8.ofNat n.toNat)) s = ⟨s.data ++ ns.toArray⟩
  | [], [], s, _ => by simp
  | x :: l, c :: ns, s, h => by
    simp only [List.map_cons, List.cons.injEq] at h
    obtain ⟨rfl, h⟩ := h
    rw [List.foldl_cons, foldl_push l ns _ h]
    simp [ByteArray.push]
  | [], c :: ns, s, h => by simp at h
  | x :: l, [], s, h => by simp at h
theorem run_str {P : Program} {src dst e : TypeId} (hs : P.underlying src = some (.slice e)) (he : P.underlying e = some (.int .u8)) (hd : P.underlying dst = some .string)
    {w : World} {a : Option Addr} {n cap : Nat} {b : List UInt8} (h : Sl 1 encB w a n b) : (convert src dst (.slice a n cap)).run P w = .ok (.string (strB b)) w := by
  rw [run_convert_bytes_string w src dst e a n cap hs he hd]
  cases a with
  | none =>
    have hn : n = 0 := by
      rcases h.2 with h0 | ⟨x, o, e1, _⟩
      · exact h0
      · cases e1
    have hb : b = [] := List.eq_nil_of_length_eq_zero (h.1.trans hn)
    subst hb
    simp [Conv.bytesToString, strB, Sem.run_pure]
    rfl
  | some ad =>
    have hl : (loadCells ad n).run P w = .ok ((b.map (fun x => (x.toNat : Int))).map (Value.int .u8)).toArray w := by
      have := run_loadCells_list (P := P) w ad ((b.map (fun x => (x.toNat : Int))).map (Value.int .u8)) (fun j v hv => by
        rcases h.2 with h0 | ⟨x, o, e1, _, e3⟩
        · have hb : b = [] := List.eq_nil_of_length_eq_zero (h.1.trans h0)
          subst hb
          simp at hv
        · cases e1
          rw [List.getElem?_map, List.getElem?_map] at hv
          cases hb : b[j]? with
          | none => rw [hb] at hv; simp at hv
          | some y =>
            rw [hb] at hv
            simp at hv
            subst hv
            rw [Addr.add_lit]
            simpa using e3 j y hb 0 _ rfl)
      simp only [List.length_map] at this
      rw [h.1] at this
      exact this
    rw [run_bytesToString w ad n cap (b.map (fun x => (x.toNat : Int))) hl, foldl_push _ b _ rfl]
    simp [strB]

def bytesOf (s : ByteArray) : List UInt8 := s.data.toList
theorem strB_bytes (s : ByteArray) : strB (bytesOf s) = s := by simp [strB, bytesOf]
theorem bytes_str (l : List UInt8) : bytesOf (strB l) = l := rfl
theorem bytesOf_length (s : ByteArray) : (bytesOf s).length = s.size := by unfold bytesOf; rw [Array.length_toList]; rfl
theorem strCells_eq (s : ByteArray) : Lib.strCells s = (bytesOf s).flatMap encB := by
  unfold Lib.strCells bytesOf
  induction s.data.toList with
  | nil => rfl
  | cons c r ih => rw [List.map_cons, List.flatMap_cons, ih]; rfl

/-- append of a string -/
theorem wpList_append_string {P : Program} {ops : Array Oper} {rest : List Oper} {o : Oper} {a : Act} {Q : Exit → Act → World → Prop} (w0 : World) (hgd : o.guard = none) (s x : Operand) (t u : TypeId)
    (ho : o.op = .call { callee := .builtin .append, args := #[s, x], argTypes := #[t, u] })
    (base : Nat) (e : TypeId) (ht : P.underlying t = some (.slice e)) (hu : P.underlying u = some .string) (hi : (P.info? e).map (fun i => (i.zero, i.size, i.bytes)) = some (some (.int .u8 0), 1, 1))
    (v : Value) (l : List UInt8) (hown : OwnL 1 encB e base w0 v l) (hs : a.eval s = v) (str : ByteArray)
    (hx : a.eval x = .string str) (hl : l.length ≤ 1000000) (hn : str.size ≤ 1000000) (hbase : base ≤ w0.heap.size)
    (h : ∀ v' w', OwnL 1 encB e base w' v' (l ++ bytesOf str) → Chg (fun k => k < w0.heap.size ∧ ¬ v.ownBlock = some k) w0 w' → Chg (· < base) w0 w' → wpList P ops Q rest (a.put o.dst v') w') :
    wpList P ops Q (o :: rest) a w0 := by
  obtain ⟨i, hi, hz0, hz1, hz2⟩ := info_parts hi
  refine Lib.wpList_append_own_string w0 hgd s x t u ho base e i ht hu hi hz0 hz1 hz2 v l.length (l.flatMap encB) hs hown str hx (by unfold maxLen; omega) (by omega) hbase ?_
  intro v' w' hown' hgrow _
  have hch : Chg (fun k => k < w0.heap.size ∧ ¬ v.ownBlock = some k) w0 w' := ⟨hgrow.os, hgrow.tape, hgrow.output, hgrow.size, fun k hk => hgrow.block k hk.1 (fun h => hk.2 h.symm)⟩
  refine h v' w' ?_ hch (hch.mono fun k hk => ⟨by omega, fun hv => ?_⟩)
  · unfold OwnL
    rw [strCells_eq] at hown'
    simpa [List.flatMap_append, bytesOf_length] using hown'
  · have := hown.lt k hv
    omega

def encStr (s : ByteArray) : List UInt8 := encU s.size ++ bytesOf s
theorem encStr_length (s : ByteArray) : (encStr s).length = (encU s.size).length + s.size := by unfold encStr; rw [List.length_append, bytesOf_length]
theorem wrap64_bd (n : Nat) : -9223372036854775808 ≤ wrap64 (n : Int) ∧ wrap64 (n : Int) ≤ 9223372036854775807 := by unfold wrap64; omega
def strR (b : List UInt8) (lim : Int) : ByteArray × Int × Int :=
  match decU b with
  | none => (ByteArray.empty, 0, 4)
  | some (N, K) => if lim < 0 ∨ lim < (N : Int) then (ByteArray.empty, 0, 3) else if b.length - K < N then (ByteArray.empty, 0, 4) else (strB ((b.drop K).take N), (K : Int) + N, 0)

end Go.Proofs.YtkjlhcfocefhpaaDoor

/- Walks over the strings of the reference of the package wire. -/
namespace Go.Proofs.YtkjlhcfocefhpaaDoor
open Go.RowKit

end Go.Proofs.YtkjlhcfocefhpaaDoor

/- Bytes of the call's own as strings; a condition that is laid anew in a region that draws its order. -/
namespace Go.Proofs.YtkjlhcfocefhpaaDoor
open Go.RowKit

end Go.Proofs.YtkjlhcfocefhpaaDoor

/- EncodeNodes of the package wire and of its reference. -/
namespace Go.Proofs.YtkjlhcfocefhpaaDoor
open Go.RowKit

/-- what the encoding asks of a node -/
def NOkE (x : Nd) : Prop := -9223372036854775808 ≤ x.id ∧ x.id ≤ 9223372036854775807 ∧ x.word < 4294967296 ∧ x.key.size ≤ 9223372036854775807
def encNd (x : Nd) : List UInt8 := encU (zig x.id) ++ encStr x.key ++ encU x.word
def encNds (l : List Nd) : List UInt8 × Int := if 64 < l.length then ([], 3) else if l.any (fun x => decide (64 < x.key.size)) then ([], 3) else (encU l.length ++ l.flatMap encNd, 0)
def EncP (r : List UInt8 × Int) (w : World) (e : Ending) (w' : World) : Prop := ∃ v, e = .returned (.tuple #[v, .int .i64 r.2]) ∧ OwnL 1 encB 5 w.heap.size w' v r.1 ∧ Ex w w'
def EncRel (l : List Nd) (n : Nat) (w : World) (o i : Value) (wr : World) : Prop :=
  ∃ k : Nat, k ≤ n ∧ i = .int .i64 k ∧ OwnL 1 encB 5 w.heap.size wr o (encU n ++ (l.take k).flatMap encNd) ∧ Ex w wr ∧ ∀ j z, j < k → l[j]? = some z → z.key.size ≤ 64
theorem encNd_len {x : Nd} (h : x.key.size ≤ 64) : (encNd x).length ≤ 100 := by
  unfold encNd
  have h1 := encU_length (zig x.id)
  have h2 := encU_length x.word
  have h3 := encU_length x.key.size
  have h4 := encStr_length x.key
  rw [List.length_append, List.length_append]; omega
theorem enc_take_le (l : List Nd) (k : Nat) (h : ∀ j z, j < k → l[j]? = some z → z.key.size ≤ 64) : ((l.take k).flatMap encNd).length ≤ 100 * k := by
  induction k with
  | zero => simp
  | succ k ih =>
    have ih := ih (fun j z hj hz => h j z (by omega) hz)
    cases hy : l[k]? with
    | none =>
      have hl := List.getElem?_eq_none_iff.1 hy
      rw [List.take_of_length_le (by omega)]
      rw [List.take_of_length_le (by omega)] at ih
      omega
    | some y =>
      rw [List.take_add_one, hy]
      have := encNd_len (h k y (by omega) hy)
      simp at *
      omega
theorem flat_snoc {α : Type} (f : α → List UInt8) (l : List α) (k : Nat) (y : α) (h : l[k]? = some y) : (l.take (k + 1)).flatMap f = (l.take k).flatMap f ++ f y := by
  rw [List.take_add_one, h]; simp

end Go.Proofs.YtkjlhcfocefhpaaDoor

/- Links of the tape. -/
namespace Go.Proofs.YtkjlhcfocefhpaaDoor
open Go.RowKit

def LkOk (B1 B2 : Nat) (L : List Lkd) : Prop := L.length ≤ B1 ∧ ∀ c ∈ L, I64 c.1 ∧ c.2.length ≤ B2 ∧ ∀ y ∈ c.2, I64 y.1 ∧ I64 y.2
theorem i64_zero : I64 0 := ⟨by omega, by omega⟩
theorem neigh_ok {l : List Nd} (h : ∀ x ∈ l, I64 x.id) (id lev : Int) : I64 (neighN l id lev).1.1 ∧ I64 (neighN l id lev).1.2 := by
  have hg : ∀ x ∈ (throughN l id lev).1, I64 x.id := by
    intro x hx
    unfold throughN at hx
    split at hx
    · unfold thrG groupN at hx
      exact h x ((sortN_mem l x).1 (List.mem_filter.1 hx).1)
    · simp at hx
  have hd : ∀ (o : Option Nd), (∀ x, o = some x → I64 x.id) → I64 (o.getD Nd.zero).id := by
    intro o ho
    cases o with
    | none => exact i64_zero
    | some x => exact ho x rfl
  unfold neighN
  split
  · refine ⟨?_, ?_⟩
    · show I64 (leftN _ _)
      unfold leftN
      split
      · exact i64_zero
      · exact hd _ (fun x hx => hg x (List.mem_of_getElem? hx))
    · exact hd _ (fun x hx => hg x (List.mem_of_getElem? hx))
  · exact ⟨i64_zero, i64_zero⟩
theorem build_ok {l : List Nd} (h : ∀ x ∈ l, I64 x.id) (lev : Int) : LkOk l.length 17 (buildN l lev).1 := by
  unfold buildN
  split
  · exact ⟨by simp, by simp⟩
  · split
    · exact ⟨by simp, by simp⟩
    · rename_i hl
      have hlv : 0 ≤ lev ∧ lev ≤ 16 := by
        have : lvlN lev = true := by simpa using hl
        unfold lvlN at this
        simpa using this
      refine ⟨by simp [sortN_length], fun c hc => ?_⟩
      obtain ⟨x, hx, rfl⟩ := List.mem_map.1 hc
      have hs : ∀ x ∈ sortN l, I64 x.id := fun x hx => h x ((sortN_mem l x).1 hx)
      refine ⟨hs x hx, by rw [rowN_len]; omega, fun y hy => ?_⟩
      unfold rowN at hy
      obtain ⟨j, _, rfl⟩ := List.mem_map.1 hy
      exact neigh_ok hs _ _
def LsRel (n ch b : Nat) (w : World) (o i : Value) (wr : World) : Prop :=
  ∃ (k : Nat) (qs : List (Int × Hdr)) (L : List Lkd), k ≤ ch ∧ i = .int .i64 k ∧ OwnLk w.heap.size wr o qs L ∧ LkOk (n + (ch - k)) (17 + (ch - k)) L ∧ TK wr b ∧ Exb b w wr
theorem lk_mono {B1 B2 B1' B2' : Nat} {L : List Lkd} (h : LkOk B1 B2 L) (h1 : B1 ≤ B1') (h2 : B2 ≤ B2') : LkOk B1' B2' L :=
  ⟨by have := h.1; omega, fun c hc => ⟨(h.2 c hc).1, by have := (h.2 c hc).2.1; omega, (h.2 c hc).2.2⟩⟩
theorem lk_erase {B1 B2 : Nat} {L : List Lkd} (h : LkOk B1 B2 L) (j : Nat) : LkOk B1 B2 (L.take j ++ L.drop (j + 1)) := by
  refine ⟨by have := h.1; simp; omega, fun c hc => h.2 c ?_⟩
  rcases List.mem_append.1 hc with h1 | h1
  · exact List.mem_of_mem_take h1
  · exact List.mem_of_mem_drop h1
theorem lk_push {B1 B2 : Nat} {L : List Lkd} (h : LkOk B1 B2 L) {c : Lkd} (hc : I64 c.1 ∧ c.2.length ≤ B2 ∧ ∀ y ∈ c.2, I64 y.1 ∧ I64 y.2) : LkOk (B1 + 1) B2 (L ++ [c]) := by
  refine ⟨by have := h.1; simp; omega, fun d hd => ?_⟩
  rcases List.mem_append.1 hd with h1 | h1
  · exact h.2 d h1
  · rw [List.mem_singleton.1 h1]; exact hc
theorem lk_set {B1 B2 : Nat} {L : List Lkd} (h : LkOk B1 B2 L) (j : Nat) {c : Lkd} (hc : I64 c.1 ∧ c.2.length ≤ B2 ∧ ∀ y ∈ c.2, I64 y.1 ∧ I64 y.2) : LkOk B1 B2 (L.set j c) := by
  refine ⟨by have := h.1; simp; omega, fun d hd => ?_⟩
  rcases List.mem_or_eq_of_mem_set hd with h1 | rfl
  · exact h.2 d h1
  · exact hc

theorem own_cut_blk (a : Option Addr) (n m c : Nat) : (Hdr.val (a, m, c)).ownBlock = (Hdr.val (a, n, c)).ownBlock := by cases a <;> rfl
theorem own_cut {e : TypeId} {base : Nat} {w : World} {a : Option Addr} {n m c : Nat} {l : List (Int × Int)} (h : OwnL 2 encS e base w (Hdr.val (a, n, c)) l) (hm : m ≤ l.length) : OwnL 2 encS e base w (Hdr.val (a, m, c)) (l.take m) := by
  have hml : (l.take m).length = m := by rw [List.length_take]; omega
  rcases h.2 with ⟨h1, h2⟩ | ⟨g, cap, cur, e1, e2, e3, e4, e5, e6, e7⟩
  · have h1' : a = none ∧ n = 0 ∧ c = 0 := by simpa [Hdr.val] using h1
    obtain ⟨rfl, rfl, rfl⟩ := h1'
    have hl0 : l = [] := List.eq_nil_of_length_eq_zero h2
    subst hl0
    obtain rfl : m = 0 := by simp at hm; omega
    exact h
  · have h1' : a = some ⟨g, 0, none⟩ ∧ n = l.length ∧ c = cap := by simpa [Hdr.val] using e1
    obtain ⟨rfl, rfl, rfl⟩ := h1'
    refine ⟨by rw [flatN_len (sz := 2) (fun _ => rfl)], .inr ⟨g, c, cur, by simp [Hdr.val, hml], e2, e3, by omega, e5, e6, ?_⟩⟩
    rw [hml, flatN_take (sz := 2) (fun _ => rfl), ← e7, List.take_take, Nat.min_eq_left (Nat.mul_le_mul_right _ hm)]
def LinksPost (n ch b : Nat) (w : World) (e : Ending) (w' : World) : Prop := ∃ (v : Value) (qs : List (Int × Hdr)) (L : List Lkd), e = .returned v ∧ OwnLk w.heap.size w' v qs L ∧ LkOk (n + ch) (17 + ch) L ∧ TK w' b ∧ Exb b w w'
set_option maxRecDepth 100000 in
set_option maxHeartbeats 8000000 in
theorem links_t {b : Nat} (a : Option Addr) (n cp : Nat) (l : List Nd) (lev : Int) (ch : Nat) (w : World) (h : TK w b) (hs : Slb 3 encN b w a n l) (hn : n ≤ 100) (hch : ch ≤ 10) (hw : ∀ x ∈ l, x.word < 4294967296) (hi : ∀ x ∈ l, I64 x.id) :
    Calls Tryd.prog 16 #[.pointer (some ⟨b, 0, none⟩), .slice a n cp, .int .i64 lev, .int .i64 ch] w (LinksPost n ch b w) := by
  have HI := Lib.hid hi
  have HS := Lib.hid hs
  have hbw := h.lt
  have BO := build_ok hi lev
  rw [hs.len] at BO
  clear hi
  go_enter Tryd.func16, Tryd.ntmps16
  go_wp2_with fail
  (with_reducible refine (build_r _ _ _ _ _ _ hs.sl (by omega) hw).mono ?_)
  rintro e w1 ⟨v1, q1, rfl, OQ, k1⟩
  have T := h.nx k1
  have kk := k1.b b
  generalize (buildN l lev).1 = L0 at OQ BO
  generalize (buildN l lev).2 = er
  clear h hs hw k1
  go_wp2_with fail
  refine (next_t ((ch : Int) + 1) _ T (by omega) (by omega)).mono ?_
  clear T
  rintro e w2 ⟨k, rfl, k0, k1, T, k2⟩
  obtain ⟨k, rfl⟩ := Int.eq_ofNat_of_zero_le k0
  replace OQ := OQ.nxb hbw k2
  replace kk := kk.nxb k2
  have BO := Lib.hid (lk_mono BO (show n ≤ n + (ch - k) by omega) (show 17 ≤ 17 + (ch - k) by omega))
  have hkc : k ≤ ch := by omega
  clear k2 k0 k1
  go_wp2_with fail
  go_loopw [9, 11] (fun o i wr => LsRel n ch b w o i wr) (fun _ i _ => (intOf i).toNat)
  case atStart => exact ⟨k, q1, L0, hkc, rfl, OQ, BO.out, T, kk⟩
  case round =>
    clear OQ BO T kk hkc
    obtain ⟨q, qs, L, hq, rfl, OQ, LO, T, kk⟩ := hrel
    have LO := Lib.hid LO
    obtain ⟨wo, rfl⟩ : ∃ wo : World, wo = wr := ⟨_, rfl⟩
    obtain ⟨a3, cap3, rfl, NL3, hc3, hm3, some3, _⟩ := OwnN.nl (encA := encI) (encB := encS) (s1 := 2) (s2 := 2) (fun _ => rfl) (fun _ => rfl) OQ
    have hL1 := LO.out.1
    by_cases hq0 : 0 < q
    · by_cases hL0 : L.length = 0
      · have d0 : ¬ (0 : Int) < (L.length : Int) := by omega
        have HL0 := Lib.hid hL0
        have OQ := Lib.hid OQ
        clear hL0 NL3 some3
        go_wp2_with fail
        go_ret
        exact ⟨_, qs, L, rfl, OQ.out, lk_mono LO.out (by omega) (by omega), T, kk⟩
      · obtain ⟨g, rfl, hg⟩ := some3 (fun h0 => hL0 (by rw [h0]; rfl))
        have hLp : (0 : Int) < (L.length : Int) := by omega
        have hgb : ¬ g = b := by omega
        clear some3 NL3 hL0
        go_wp2_with fail
        refine (next_t (L.length : Int) _ T (by omega) (by omega)).mono ?_
        clear T
        rintro e w3 ⟨j, rfl, j0, j1, T, k2⟩
        obtain ⟨j, rfl⟩ := Int.eq_ofNat_of_zero_le j0
        have hjl : j < L.length := by omega
        have hjl' : (j : Int) < (L.length : Int) := by omega
        replace OQ := OQ.nxb hbw k2
        replace kk := kk.nxb k2
        clear k2 j0 j1
        go_wp2_with fail
        refine (next_t 7 _ T (by omega) (by omega)).mono ?_
        clear T
        rintro e w4 ⟨r, rfl, r0, r1, T, k2⟩
        replace OQ := OQ.nxb hbw k2
        replace kk := kk.nxb k2
        clear k2
        obtain ⟨c, hc⟩ : ∃ c, L[j]? = some c := ⟨L[j], by simp⟩
        obtain ⟨⟨ha, hn3, hcp⟩, hqj, own⟩ := OwnN.get (p := 1) OQ hc
        have cok := Lib.hid (LO.out.2 c (List.mem_of_getElem? hc))
        have hqm : ((q : Int) - 1) = ((q - 1 : Nat) : Int) := by omega
        have hqsl : qs.length = L.length := OQ.2.1
        by_cases r00 : r = 0
        · subst r00
          clear cok own hqj
          go_wp2_with fail
          have OQ := OQ.nx (Ex.refl w4).drew
          have T : TK w4.drew b := T
          have kk := kk.drew
          have z0 := kk.size
          have hjc : (j : Int) ≤ (cap3 : Int) := by omega
          have hj1 : (j : Int) + 1 ≤ (L.length : Int) := by omega
          have jw : IntKind.i64.wrap ((j : Int) + 1) = (j : Int) + 1 := IntWalk.i64_in _ (by omega)
          have jt : ((j : Int) + 1).toNat = j + 1 := by omega
          have j0' : (0 : Int) ≤ (j : Int) + 1 := by omega
          have jle : j ≤ qs.length := by omega
          have hjj : (j : Int) ≤ (j : Int) + 1 := by omega
          by_cases hcap : cap3 = j + 1
          · have HRD : Sl 2 (encP encI) w4.drew (some ⟨g, 0, none⟩) (L.length - (j + 1)) (qs.drop (j + 1)) := by
              rw [show L.length - (j + 1) = 0 by omega, List.drop_of_length_le (by omega)]
              exact Sl.nil _ _ _ _
            refine wp_region_held_drew (S := fun _ => True) (by kernel_rfl) (trivial) (fun hHeld => ?_)
            refine wpAnyH_take (i := 0) (oi := ⟨some 73, .move (.tmp 9), 24, "tape.go:199", #[], none⟩) (v := ?_) rfl (by kernel_rfl) (by kernel_rfl) (by kernel_rfl) (fun _ _ _ h => h) (Or.inl ⟨by rfl, ?hyr1x0q1⟩) (by assumption) ?restr1x0q1
            case hyr1x0q1 => intro wq hSw; (go_simp); (try with_reducible rfl)
            try simp only [Act.put, List.setIfInBounds_toArray, List.set_cons_zero, List.set_cons_succ]
            refine wpAnyH_take (i := 1) (oi := ⟨some 74, .move (.tmp 12), 3, "tape.go:199", #[], none⟩) (v := ?_) rfl (by kernel_rfl) (by kernel_rfl) (by kernel_rfl) (fun _ _ _ h => h) (Or.inl ⟨by rfl, ?hyr1x1q4⟩) (by assumption) ?restr1x1q4
            case hyr1x1q4 => intro wq hSw; (go_simp); (try with_reducible rfl)
            try simp only [Act.put, List.setIfInBounds_toArray, List.set_cons_zero, List.set_cons_succ]
            refine wpAnyH_take (i := 2) (oi := ⟨some 75, .move (.tmp 12), 3, "tape.go:199", #[], none⟩) (v := ?_) rfl (by kernel_rfl) (by kernel_rfl) (by kernel_rfl) (fun _ _ _ h => h) (Or.inl ⟨by rfl, ?hyr1x2q7⟩) (by assumption) ?restr1x2q7
            case hyr1x2q7 => intro wq hSw; (go_simp); (try with_reducible rfl)
            try simp only [Act.put, List.setIfInBounds_toArray, List.set_cons_zero, List.set_cons_succ]
            refine wpAnyH_take (i := 3) (oi := ⟨some 76, .slice 24 (.tmp 73) none (some (.tmp 74)) (some (.tmp 75)), 24, "tape.go:199", #[⟨0, .data⟩, ⟨1, .data⟩, ⟨2, .data⟩], none⟩) (v := ?_) rfl (by kernel_rfl) (by kernel_rfl) (by kernel_rfl) (fun _ _ _ h => h) (Or.inl ⟨by rfl, ?hyr1x3q10⟩) (by assumption) ?restr1x3q10
            case hyr1x3q10 => intro wq hSw; (go_simp); (try with_reducible rfl)
            try simp only [Act.put, List.setIfInBounds_toArray, List.set_cons_zero, List.set_cons_succ]
            refine wpAnyH_take (i := 4) (oi := ⟨some 77, .move (.tmp 9), 24, "tape.go:199", #[], none⟩) (v := ?_) rfl (by kernel_rfl) (by kernel_rfl) (by kernel_rfl) (fun _ _ _ h => h) (Or.inl ⟨by rfl, ?hyr1x4q13⟩) (by assumption) ?restr1x4q13
            case hyr1x4q13 => intro wq hSw; (go_simp); (try with_reducible rfl)
            try simp only [Act.put, List.setIfInBounds_toArray, List.set_cons_zero, List.set_cons_succ]
            refine wpAnyH_take (i := 5) (oi := ⟨some 78, .move (.tmp 12), 3, "tape.go:199", #[], none⟩) (v := ?_) rfl (by kernel_rfl) (by kernel_rfl) (by kernel_rfl) (fun _ _ _ h => h) (Or.inl ⟨by rfl, ?hyr1x5q16⟩) (by assumption) ?restr1x5q16
            case hyr1x5q16 => intro wq hSw; (go_simp); (try with_reducible rfl)
            try simp only [Act.put, List.setIfInBounds_toArray, List.set_cons_zero, List.set_cons_succ]
            refine wpAnyH_take (i := 6) (oi := ⟨some 79, .binOp .add 3 (.tmp 78) (.const (.int .i64 1)) 3, 3, "tape.go:199", #[⟨5, .data⟩], none⟩) (v := ?_) rfl (by kernel_rfl) (by kernel_rfl) (by kernel_rfl) (fun _ _ _ h => h) (Or.inl ⟨by rfl, ?hyr1x6q19⟩) (by assumption) ?restr1x6q19
            case hyr1x6q19 => intro wq hSw; (go_simp); (try with_reducible rfl)
            try simp only [Act.put, List.setIfInBounds_toArray, List.set_cons_zero, List.set_cons_succ]
            refine wpAnyH_take (i := 7) (oi := ⟨some 80, .slice 24 (.tmp 77) (some (.tmp 79)) none none, 24, "tape.go:199", #[⟨4, .data⟩, ⟨6, .data⟩], none⟩) (v := ?_) rfl (by kernel_rfl) (by kernel_rfl) (by kernel_rfl) (fun _ _ _ h => h) (Or.inl ⟨by rfl, ?hyr1x7q22⟩) (by assumption) ?restr1x7q22
            case hyr1x7q22 => intro wq hSw; (go_simp); (try with_reducible rfl)
            try simp only [Act.put, List.setIfInBounds_toArray, List.set_cons_zero, List.set_cons_succ]
            refine wpAnyH_ready (rs := [8]) (by kernel_rfl) (by simp) ?_
            refine AllReadyH.cons (o := ⟨some 81, .call { callee := .builtin .append, args := #[.tmp 76, .tmp 80], argTypes := #[24, 24] }, 24, "tape.go:199", #[⟨3, .data⟩, ⟨7, .data⟩], none⟩) rfl (fun K hK => ?_) AllReadyH.nil
            rw [if_pos (by rfl)]
            refine wp_append_W (enc := encP encI) _ (.tmp 76) (.tmp 80) 24 rfl w.heap.size 90 (.agg #[.int .i64 0, .slice none 0 0]) 2 32 Tryd.underlying24 Tryd.infoLd rfl (by omega) (by omega) _ (qs.take j) (OwnW.cut (sz := 2) (enc := encP encI) (fun _ => rfl) OQ.1 (by omega)) rfl ⟨g, 0, none⟩ (L.length - (j + 1)) _ (qs.drop (j + 1)) HRD (fun _ => rfl) (by simp [encP, encI, Hdr.val, Value.oneCell']) rfl (by simp; omega) (by omega) z0 ?_
            intro v9 w9 own9 ch0 ch1 _
            refine hK.out _ _ (trivial) (fun hHeld => ?_)
            clear hK K
            try simp only [Act.put, List.setIfInBounds_toArray, List.set_cons_zero, List.set_cons_succ]
            refine wpAnyH_take (i := 9) (oi := ⟨some 9, .assign (.tmp 81), 24, "tape.go:199", #[⟨8, .data⟩, ⟨8, .chain⟩, ⟨0, .phase⟩, ⟨1, .phase⟩, ⟨2, .phase⟩, ⟨3, .phase⟩, ⟨4, .phase⟩, ⟨5, .phase⟩, ⟨6, .phase⟩, ⟨7, .phase⟩, ⟨8, .phase⟩], none⟩) (v := ?_) rfl (by kernel_rfl) (by kernel_rfl) (by kernel_rfl) (fun _ _ _ h => h) (Or.inl ⟨by rfl, ?hyr1x9q33⟩) (by assumption) ?restr1x9q33
            case hyr1x9q33 => intro wq hSw; (go_simp); (try with_reducible rfl)
            try simp only [Act.put, List.setIfInBounds_toArray, List.set_cons_zero, List.set_cons_succ]
            refine wpAnyH_done (by kernel_rfl) ?_ _
            replace OQ := OQ.erase (by decide) hjl own9 ch0
            replace T := TP.chg T ch1 (fun x hx => by omega)
            replace kk : Exb b w w9 := Chg.trans kk (ch1.mono (fun x hx => hx.1))
            clear HRD own9 ch0 ch1
            go_wp2_with fail
            exact ⟨⟨q - 1, _, _, by omega, by first | rfl | rw [hqm], OQ, lk_mono (lk_erase LO.out j) (by omega) (by omega), T, kk⟩, by simp [intOf]; omega⟩
          · have HRD : Sl 2 (encP encI) w4.drew (some ⟨g, (j + 1) * 2, none⟩) (L.length - (j + 1)) (qs.drop (j + 1)) := by
              obtain ⟨a', c', e', r', _⟩ := OQ.1.rd (fun _ => rfl)
              have e2 : some (⟨g, 0, none⟩ : Addr) = a' ∧ L.length = qs.length ∧ cap3 = c' := by simpa using e'
              obtain ⟨rfl, hLq, rfl⟩ := e2
              have r2 : Sl 2 (encP encI) w4.drew (some ⟨g, 0, none⟩) qs.length qs := Rd.mono r' (fun _ hk => hk.2)
              have := Sl.drop r2 (m := j + 1) (by omega)
              rw [Nat.zero_add, ← hLq] at this
              exact this
            refine wp_region_held_drew (S := fun _ => True) (by kernel_rfl) (trivial) (fun hHeld => ?_)
            refine wpAnyH_take (i := 0) (oi := ⟨some 73, .move (.tmp 9), 24, "tape.go:199", #[], none⟩) (v := ?_) rfl (by kernel_rfl) (by kernel_rfl) (by kernel_rfl) (fun _ _ _ h => h) (Or.inl ⟨by rfl, ?hyr2x0q1⟩) (by assumption) ?restr2x0q1
            case hyr2x0q1 => intro wq hSw; (go_simp); (try with_reducible rfl)
            try simp only [Act.put, List.setIfInBounds_toArray, List.set_cons_zero, List.set_cons_succ]
            refine wpAnyH_take (i := 1) (oi := ⟨some 74, .move (.tmp 12), 3, "tape.go:199", #[], none⟩) (v := ?_) rfl (by kernel_rfl) (by kernel_rfl) (by kernel_rfl) (fun _ _ _ h => h) (Or.inl ⟨by rfl, ?hyr2x1q4⟩) (by assumption) ?restr2x1q4
            case hyr2x1q4 => intro wq hSw; (go_simp); (try with_reducible rfl)
            try simp only [Act.put, List.setIfInBounds_toArray, List.set_cons_zero, List.set_cons_succ]
            refine wpAnyH_take (i := 2) (oi := ⟨some 75, .move (.tmp 12), 3, "tape.go:199", #[], none⟩) (v := ?_) rfl (by kernel_rfl) (by kernel_rfl) (by kernel_rfl) (fun _ _ _ h => h) (Or.inl ⟨by rfl, ?hyr2x2q7⟩) (by assumption) ?restr2x2q7
            case hyr2x2q7 => intro wq hSw; (go_simp); (try with_reducible rfl)
            try simp only [Act.put, List.setIfInBounds_toArray, List.set_cons_zero, List.set_cons_succ]
            refine wpAnyH_take (i := 3) (oi := ⟨some 76, .slice 24 (.tmp 73) none (some (.tmp 74)) (some (.tmp 75)), 24, "tape.go:199", #[⟨0, .data⟩, ⟨1, .data⟩, ⟨2, .data⟩], none⟩) (v := ?_) rfl (by kernel_rfl) (by kernel_rfl) (by kernel_rfl) (fun _ _ _ h => h) (Or.inl ⟨by rfl, ?hyr2x3q10⟩) (by assumption) ?restr2x3q10
            case hyr2x3q10 => intro wq hSw; (go_simp); (try with_reducible rfl)
            try simp only [Act.put, List.setIfInBounds_toArray, List.set_cons_zero, List.set_cons_succ]
            refine wpAnyH_take (i := 4) (oi := ⟨some 77, .move (.tmp 9), 24, "tape.go:199", #[], none⟩) (v := ?_) rfl (by kernel_rfl) (by kernel_rfl) (by kernel_rfl) (fun _ _ _ h => h) (Or.inl ⟨by rfl, ?hyr2x4q13⟩) (by assumption) ?restr2x4q13
            case hyr2x4q13 => intro wq hSw; (go_simp); (try with_reducible rfl)
            try simp only [Act.put, List.setIfInBounds_toArray, List.set_cons_zero, List.set_cons_succ]
            refine wpAnyH_take (i := 5) (oi := ⟨some 78, .move (.tmp 12), 3, "tape.go:199", #[], none⟩) (v := ?_) rfl (by kernel_rfl) (by kernel_rfl) (by kernel_rfl) (fun _ _ _ h => h) (Or.inl ⟨by rfl, ?hyr2x5q16⟩) (by assumption) ?restr2x5q16
            case hyr2x5q16 => intro wq hSw; (go_simp); (try with_reducible rfl)
            try simp only [Act.put, List.setIfInBounds_toArray, List.set_cons_zero, List.set_cons_succ]
            refine wpAnyH_take (i := 6) (oi := ⟨some 79, .binOp .add 3 (.tmp 78) (.const (.int .i64 1)) 3, 3, "tape.go:199", #[⟨5, .data⟩], none⟩) (v := ?_) rfl (by kernel_rfl) (by kernel_rfl) (by kernel_rfl) (fun _ _ _ h => h) (Or.inl ⟨by rfl, ?hyr2x6q19⟩) (by assumption) ?restr2x6q19
            case hyr2x6q19 => intro wq hSw; (go_simp); (try with_reducible rfl)
            try simp only [Act.put, List.setIfInBounds_toArray, List.set_cons_zero, List.set_cons_succ]
            refine wpAnyH_take (i := 7) (oi := ⟨some 80, .slice 24 (.tmp 77) (some (.tmp 79)) none none, 24, "tape.go:199", #[⟨4, .data⟩, ⟨6, .data⟩], none⟩) (v := ?_) rfl (by kernel_rfl) (by kernel_rfl) (by kernel_rfl) (fun _ _ _ h => h) (Or.inl ⟨by rfl, ?hyr2x7q22⟩) (by assumption) ?restr2x7q22
            case hyr2x7q22 => intro wq hSw; (go_simp); (try with_reducible rfl)
            try simp only [Act.put, List.setIfInBounds_toArray, List.set_cons_zero, List.set_cons_succ]
            refine wpAnyH_ready (rs := [8]) (by kernel_rfl) (by simp) ?_
            refine AllReadyH.cons (o := ⟨some 81, .call { callee := .builtin .append, args := #[.tmp 76, .tmp 80], argTypes := #[24, 24] }, 24, "tape.go:199", #[⟨3, .data⟩, ⟨7, .data⟩], none⟩) rfl (fun K hK => ?_) AllReadyH.nil
            rw [if_pos (by rfl)]
            refine wp_append_W (enc := encP encI) _ (.tmp 76) (.tmp 80) 24 rfl w.heap.size 90 (.agg #[.int .i64 0, .slice none 0 0]) 2 32 Tryd.underlying24 Tryd.infoLd rfl (by omega) (by omega) _ (qs.take j) (OwnW.cut (sz := 2) (enc := encP encI) (fun _ => rfl) OQ.1 (by omega)) rfl ⟨g, (j + 1) * 2, none⟩ (L.length - (j + 1)) _ (qs.drop (j + 1)) HRD (fun _ => rfl) (by simp [encP, encI, Hdr.val, Value.oneCell']) rfl (by simp; omega) (by omega) z0 ?_
            intro v9 w9 own9 ch0 ch1 _
            refine hK.out _ _ (trivial) (fun hHeld => ?_)
            clear hK K
            try simp only [Act.put, List.setIfInBounds_toArray, List.set_cons_zero, List.set_cons_succ]
            refine wpAnyH_take (i := 9) (oi := ⟨some 9, .assign (.tmp 81), 24, "tape.go:199", #[⟨8, .data⟩, ⟨8, .chain⟩, ⟨0, .phase⟩, ⟨1, .phase⟩, ⟨2, .phase⟩, ⟨3, .phase⟩, ⟨4, .phase⟩, ⟨5, .phase⟩, ⟨6, .phase⟩, ⟨7, .phase⟩, ⟨8, .phase⟩], none⟩) (v := ?_) rfl (by kernel_rfl) (by kernel_rfl) (by kernel_rfl) (fun _ _ _ h => h) (Or.inl ⟨by rfl, ?hyr2x9q33⟩) (by assumption) ?restr2x9q33
            case hyr2x9q33 => intro wq hSw; (go_simp); (try with_reducible rfl)
            try simp only [Act.put, List.setIfInBounds_toArray, List.set_cons_zero, List.set_cons_succ]
            refine wpAnyH_done (by kernel_rfl) ?_ _
            replace OQ := OQ.erase (by decide) hjl own9 ch0
            replace T := TP.chg T ch1 (fun x hx => by omega)
            replace kk : Exb b w w9 := Chg.trans kk (ch1.mono (fun x hx => hx.1))
            clear HRD own9 ch0 ch1
            go_wp2_with fail
            exact ⟨⟨q - 1, _, _, by omega, by first | rfl | rw [hqm], OQ, lk_mono (lk_erase LO.out j) (by omega) (by omega), T, kk⟩, by simp [intOf]; omega⟩
        by_cases r01 : r = 1
        · subst r01
          clear r00 cok own hqj
          go_wp2_with fail
          refine (id_t _ _ _ _ _ T (HS.out.nxb kk) (by omega) HI.out).mono ?_
          clear T
          rintro e w5 ⟨i1, rfl, I1, T, k2⟩
          replace OQ := OQ.nxb hbw k2
          replace kk := kk.nxb k2
          clear k2
          go_wp2_with fail
          refine (id_t _ _ _ _ _ T (HS.out.nxb kk) (by omega) HI.out).mono ?_
          clear T
          rintro e w6 ⟨i2, rfl, I2, T, k2⟩
          replace OQ := OQ.nxb hbw k2
          replace kk := kk.nxb k2
          clear k2
          go_wp2_with fail
          refine (id_t _ _ _ _ _ T (HS.out.nxb kk) (by omega) HI.out).mono ?_
          clear T
          rintro e w7 ⟨i3, rfl, I3, T, k2⟩
          replace OQ := OQ.nxb hbw k2
          replace kk := kk.nxb k2
          clear k2
          have zz := kk.size
          have kA := Ex.new w7 (.cells #[.int .i64 i2, .int .i64 i3] 74)
          have ownI : OwnL 2 encS 74 w.heap.size (w7.alloc (.cells #[.int .i64 i2, .int .i64 i3] 74)) (.slice (some ⟨w7.heap.size, 0, none⟩) 1 1) [(i2, i3)] := OwnL.lit [(i2, i3)] (fun _ => rfl) zz (by unfold maxLen; simp) rfl
          have kB := Ex.new (w7.alloc (.cells #[.int .i64 i2, .int .i64 i3] 74)) (.cells #[.int .i64 i1, .slice (some ⟨w7.heap.size, 0, none⟩) 1 1] 90)
          have SX : Sl 2 (encP encI) ((w7.alloc (.cells #[.int .i64 i2, .int .i64 i3] 74)).alloc (.cells #[.int .i64 i1, .slice (some ⟨w7.heap.size, 0, none⟩) 1 1] 90)) (some ⟨(w7.alloc (.cells #[.int .i64 i2, .int .i64 i3] 74)).heap.size, 0, none⟩) 1 [((i1, (some ⟨w7.heap.size, 0, none⟩, 1, 1)) : Int × Hdr)] := Sl.lit _ rfl rfl (fun _ => rfl) rfl
          have FR : ∀ (j : Nat) (r : Int × Hdr) (x : Nat), qs[j]? = some r → r.2.val.ownBlock = some x → ¬ (Value.slice (some ⟨w7.heap.size, 0, none⟩) 1 1).ownBlock = some x := by
            intro j r x hr hx hv
            have h1 := OQ.lt hr hx
            simp [Value.ownBlock] at hv
            omega
          have OQ2 := (OQ.nx kA).nx kB
          have ownI2 := ownI.nx kB
          have T2 := (T.nx kA).nx kB
          have kk2 := (kk.nxb (kA.b b)).nxb (kB.b b)
          have zz2 := kk2.size
          have HSX : (w7.alloc (.cells #[.int .i64 i2, .int .i64 i3] 74)).heap.size = w7.heap.size + 1 := by simp
          rw [HSX] at SX
          clear ownI OQ T kk kA kB HSX
          go_wp2_with (at_builtin; (refine wpList_append_W (enc := encP encI) _ rfl _ _ 24 rfl w.heap.size 90 (.agg #[.int .i64 0, .slice none 0 0]) 2 32 Tryd.underlying24 Tryd.infoLd rfl (by omega) (by omega) _ qs OQ2.1 rfl _ 1 1 [_] SX (fun _ => rfl) (by simp [encP, encI, Hdr.val, Value.oneCell']) rfl (by omega) (by omega) zz2 ?_); intro v9 w9 own9 ch0 ch1 _)
          have OQ := OQ2.push (by decide) own9 ch0 ownI2 FR
          have T := TP.chg T2 ch1 (fun x hx => by omega)
          have kk : Exb b w w9 := Chg.trans kk2 (ch1.mono (fun x hx => hx.1))
          exact ⟨⟨q - 1, _, _, by omega, by first | rfl | rw [hqm], OQ, lk_mono (lk_push LO.out ⟨I1, by show 1 ≤ _; omega, fun y hy => by rw [List.mem_singleton.1 hy]; exact ⟨I2, I3⟩⟩) (by omega) (by omega), T, kk⟩, by simp [intOf]; omega⟩
        by_cases r02 : r = 2
        · subst r02
          clear r00 r01
          obtain ⟨a6, c6, e6, r6, hc6, _, some6⟩ := own.rd (fun _ => rfl)
          obtain ⟨rfl, hn3e, rfl⟩ : ha = a6 ∧ hn3 = c.2.length ∧ hcp = c6 := by simpa [Hdr.val] using e6
          have HN3 := Lib.hid hn3e
          have hcl : hn3 ≤ 17 + (ch - q) := by rw [hn3e]; exact cok.out.2.1
          rw [← hn3e] at hc6
          have jw3 : IntKind.i64.wrap ((hn3 : Int) + 1) = (hn3 : Int) + 1 := IntWalk.i64_in _ (by omega)
          clear hn3e
          clear e6 r6 some6
          have OQ := OQ.nx (Ex.refl w4).drew
          have own := own.nx (Ex.refl w4).drew
          have T : TK w4.drew b := T
          have kk := kk.drew
          have CE : ∀ cur : World, OwnLk w.heap.size cur (.slice (some ⟨g, 0, none⟩) L.length cap3) qs L → cur.cell? ⟨g, j * 2 + 1, none⟩ = some (.slice ha hn3 hcp) := fun cur h => by
            have := (OwnW.set1 (sz := 2) (enc := encP encI) (c := 1) (fun _ => rfl) h.1 hqj (by omega)).1
            exact this
          go_wp2_with fail
          refine wp_region_held_drew (S := fun _ => True) (by kernel_rfl) (trivial) (fun hHeld => ?_)
          refine wpAnyH_take (i := 0) (oi := ⟨some 101, .move (.tmp 9), 24, "tape.go:203", #[], none⟩) (v := ?_) rfl (by kernel_rfl) (by kernel_rfl) (by kernel_rfl) (fun _ _ _ h => h) (Or.inl ⟨by rfl, ?hyr3x0q1⟩) (by assumption) ?restr3x0q1
          case hyr3x0q1 => intro wq hSw; (go_simp); (try with_reducible rfl)
          try simp only [Act.put, List.setIfInBounds_toArray, List.set_cons_zero, List.set_cons_succ]
          refine wpAnyH_take (i := 1) (oi := ⟨some 102, .move (.tmp 12), 3, "tape.go:203", #[], none⟩) (v := ?_) rfl (by kernel_rfl) (by kernel_rfl) (by kernel_rfl) (fun _ _ _ h => h) (Or.inl ⟨by rfl, ?hyr3x1q4⟩) (by assumption) ?restr3x1q4
          case hyr3x1q4 => intro wq hSw; (go_simp); (try with_reducible rfl)
          try simp only [Act.put, List.setIfInBounds_toArray, List.set_cons_zero, List.set_cons_succ]
          refine wpAnyH_take (i := 2) (oi := ⟨some 103, .move (.tmp 9), 24, "tape.go:203", #[], none⟩) (v := ?_) rfl (by kernel_rfl) (by kernel_rfl) (by kernel_rfl) (fun _ _ _ h => h) (Or.inl ⟨by rfl, ?hyr3x2q7⟩) (by assumption) ?restr3x2q7
          case hyr3x2q7 => intro wq hSw; (go_simp); (try with_reducible rfl)
          try simp only [Act.put, List.setIfInBounds_toArray, List.set_cons_zero, List.set_cons_succ]
          refine wpAnyH_take (i := 3) (oi := ⟨some 104, .move (.tmp 12), 3, "tape.go:203", #[], none⟩) (v := ?_) rfl (by kernel_rfl) (by kernel_rfl) (by kernel_rfl) (fun _ _ _ h => h) (Or.inl ⟨by rfl, ?hyr3x3q10⟩) (by assumption) ?restr3x3q10
          case hyr3x3q10 => intro wq hSw; (go_simp); (try with_reducible rfl)
          try simp only [Act.put, List.setIfInBounds_toArray, List.set_cons_zero, List.set_cons_succ]
          refine wpAnyH_take (i := 4) (oi := ⟨some 105, .indexAddr 24 (.tmp 103) (.tmp 104), 0, "tape.go:203", #[⟨2, .data⟩, ⟨3, .data⟩], none⟩) (v := ?_) rfl (by kernel_rfl) (by kernel_rfl) (by kernel_rfl) (fun _ _ _ h => h) (Or.inl ⟨by rfl, ?hyr3x4q13⟩) (by assumption) ?restr3x4q13
          case hyr3x4q13 => intro wq hSw; (go_simp); (try with_reducible rfl)
          try simp only [Act.put, List.setIfInBounds_toArray, List.set_cons_zero, List.set_cons_succ]
          refine wpAnyH_take (i := 5) (oi := ⟨some 106, .fieldAddr 90 (.tmp 105) 1, 0, "tape.go:203", #[⟨4, .data⟩], none⟩) (v := ?_) rfl (by kernel_rfl) (by kernel_rfl) (by kernel_rfl) (fun _ _ _ h => h) (Or.inl ⟨by rfl, ?hyr3x5q16⟩) (by assumption) ?restr3x5q16
          case hyr3x5q16 => intro wq hSw; (go_simp); (try with_reducible rfl)
          try simp only [Act.put, List.setIfInBounds_toArray, List.set_cons_zero, List.set_cons_succ]
          refine wpAnyH_take (i := 7) (oi := ⟨some 108, .move (.tmp 0), 25, "tape.go:203", #[], none⟩) (v := ?_) rfl (by kernel_rfl) (by kernel_rfl) (by kernel_rfl) (fun _ _ _ h => h) (Or.inl ⟨by rfl, ?hyr3x7q19⟩) (by assumption) ?restr3x7q19
          case hyr3x7q19 => intro wq hSw; (go_simp); (try with_reducible rfl)
          try simp only [Act.put, List.setIfInBounds_toArray, List.set_cons_zero, List.set_cons_succ]
          refine wpAnyH_take (i := 8) (oi := ⟨some 109, .move (.tmp 9), 24, "tape.go:203", #[], none⟩) (v := ?_) rfl (by kernel_rfl) (by kernel_rfl) (by kernel_rfl) (fun _ _ _ h => h) (Or.inl ⟨by rfl, ?hyr3x8q22⟩) (by assumption) ?restr3x8q22
          case hyr3x8q22 => intro wq hSw; (go_simp); (try with_reducible rfl)
          try simp only [Act.put, List.setIfInBounds_toArray, List.set_cons_zero, List.set_cons_succ]
          refine wpAnyH_take (i := 9) (oi := ⟨some 110, .move (.tmp 12), 3, "tape.go:203", #[], none⟩) (v := ?_) rfl (by kernel_rfl) (by kernel_rfl) (by kernel_rfl) (fun _ _ _ h => h) (Or.inl ⟨by rfl, ?hyr3x9q25⟩) (by assumption) ?restr3x9q25
          case hyr3x9q25 => intro wq hSw; (go_simp); (try with_reducible rfl)
          try simp only [Act.put, List.setIfInBounds_toArray, List.set_cons_zero, List.set_cons_succ]
          refine wpAnyH_take (i := 10) (oi := ⟨some 111, .indexAddr 24 (.tmp 109) (.tmp 110), 0, "tape.go:203", #[⟨8, .data⟩, ⟨9, .data⟩], none⟩) (v := ?_) rfl (by kernel_rfl) (by kernel_rfl) (by kernel_rfl) (fun _ _ _ h => h) (Or.inl ⟨by rfl, ?hyr3x10q28⟩) (by assumption) ?restr3x10q28
          case hyr3x10q28 => intro wq hSw; (go_simp); (try with_reducible rfl)
          try simp only [Act.put, List.setIfInBounds_toArray, List.set_cons_zero, List.set_cons_succ]
          refine wpAnyH_take (i := 11) (oi := ⟨some 112, .fieldAddr 90 (.tmp 111) 1, 0, "tape.go:203", #[⟨10, .data⟩], none⟩) (v := ?_) rfl (by kernel_rfl) (by kernel_rfl) (by kernel_rfl) (fun _ _ _ h => h) (Or.inl ⟨by rfl, ?hyr3x11q31⟩) (by assumption) ?restr3x11q31
          case hyr3x11q31 => intro wq hSw; (go_simp); (try with_reducible rfl)
          try simp only [Act.put, List.setIfInBounds_toArray, List.set_cons_zero, List.set_cons_succ]
          refine wpAnyH_ready (rs := [6, 12]) (by kernel_rfl) (by simp) ?_
          refine AllReadyH.cons (o := ⟨some 107, .load 88 (.tmp 106), 88, "tape.go:203", #[⟨5, .data⟩], none⟩) rfl (fun K hK => ?_) ?_
          · have cq := CE _ OQ
            go_simp
            clear cq
            refine hK.out _ _ (trivial) (fun hHeld => ?_)
            clear hK K
            try simp only [Act.put, List.setIfInBounds_toArray, List.set_cons_zero, List.set_cons_succ]
            refine wpAnyH_ready (rs := [12]) (by kernel_rfl) (by simp) ?_
            refine AllReadyH.cons (o := ⟨some 113, .load 88 (.tmp 112), 88, "tape.go:203", #[⟨11, .data⟩], none⟩) rfl (fun K hK => ?_) AllReadyH.nil
            have cq := CE _ OQ
            go_simp
            clear cq
            refine hK.out _ _ (trivial) (fun hHeld => ?_)
            clear hK K
            try simp only [Act.put, List.setIfInBounds_toArray, List.set_cons_zero, List.set_cons_succ]
            refine wpAnyH_take (i := 13) (oi := ⟨some 114, .call { callee := .builtin .len, args := #[.tmp 113], argTypes := #[88] }, 3, "tape.go:203", #[⟨12, .data⟩], none⟩) (v := ?_) rfl (by kernel_rfl) (by kernel_rfl) (by kernel_rfl) (fun _ _ _ h => h) (Or.inl ⟨by rfl, ?hyr3x13q50⟩) (by assumption) ?restr3x13q50
            case hyr3x13q50 => intro wq hSw; (go_simp); (try with_reducible rfl)
            try simp only [Act.put, List.setIfInBounds_toArray, List.set_cons_zero, List.set_cons_succ]
            refine wpAnyH_take (i := 14) (oi := ⟨some 115, .binOp .add 3 (.tmp 114) (.const (.int .i64 1)) 3, 3, "tape.go:203", #[⟨13, .data⟩], none⟩) (v := ?_) rfl (by kernel_rfl) (by kernel_rfl) (by kernel_rfl) (fun _ _ _ h => h) (Or.inl ⟨by rfl, ?hyr3x14q53⟩) (by assumption) ?restr3x14q53
            case hyr3x14q53 => intro wq hSw; (go_simp); (try with_reducible rfl)
            try simp only [Act.put, List.setIfInBounds_toArray, List.set_cons_zero, List.set_cons_succ]
            refine wpAnyH_ready (rs := [15]) (by kernel_rfl) (by simp) ?_
            refine AllReadyH.cons (o := ⟨some 116, .call { callee := .value (.func 17), args := #[.tmp 108, .tmp 115], argTypes := #[25, 3] }, 3, "tape.go:203", #[⟨7, .data⟩, ⟨14, .data⟩], none⟩) rfl (fun K hK => ?_) AllReadyH.nil
            go_simp
            ((with_reducible refine (next_t ((hn3 : Int) + 1) _ T (by omega) (by omega)).mono ?_))
            clear T
            rintro e w5 ⟨m, rfl, m0, m1, T, k2⟩
            obtain ⟨m, rfl⟩ := Int.eq_ofNat_of_zero_le m0
            replace OQ := OQ.nxb hbw k2
            replace own := own.nxb hbw k2
            replace kk := kk.nxb k2
            clear k2
            have hmc : (m : Int) ≤ (hcp : Int) := by omega
            have hml : m ≤ c.2.length := by rw [← HN3.out]; omega
            refine hK.out _ _ (trivial) (fun hHeld => ?_)
            clear hK K
            try simp only [Act.put, List.setIfInBounds_toArray, List.set_cons_zero, List.set_cons_succ]
            refine wpAnyH_take (i := 16) (oi := ⟨some 117, .slice 88 (.tmp 107) none (some (.tmp 116)) none, 88, "tape.go:203", #[⟨6, .data⟩, ⟨15, .data⟩], none⟩) (v := ?_) rfl (by kernel_rfl) (by kernel_rfl) (by kernel_rfl) (fun _ _ _ h => h) (Or.inl ⟨by rfl, ?hyr3x16q72⟩) (by assumption) ?restr3x16q72
            case hyr3x16q72 => intro wq hSw; (go_simp); (try with_reducible rfl)
            try simp only [Act.put, List.setIfInBounds_toArray, List.set_cons_zero, List.set_cons_succ]
            refine wpAnyH_take (i := 17) (oi := ⟨some 118, .indexAddr 24 (.tmp 101) (.tmp 102), 0, "tape.go:203", #[⟨0, .data⟩, ⟨1, .data⟩, ⟨0, .phase⟩, ⟨1, .phase⟩, ⟨2, .phase⟩, ⟨3, .phase⟩, ⟨4, .phase⟩, ⟨5, .phase⟩, ⟨6, .phase⟩, ⟨7, .phase⟩, ⟨8, .phase⟩, ⟨9, .phase⟩, ⟨10, .phase⟩, ⟨11, .phase⟩, ⟨12, .phase⟩, ⟨13, .phase⟩, ⟨14, .phase⟩, ⟨15, .phase⟩, ⟨16, .phase⟩], none⟩) (v := ?_) rfl (by kernel_rfl) (by kernel_rfl) (by kernel_rfl) (fun _ _ _ h => h) (Or.inl ⟨by rfl, ?hyr3x17q75⟩) (by assumption) ?restr3x17q75
            case hyr3x17q75 => intro wq hSw; (go_simp); (try with_reducible rfl)
            try simp only [Act.put, List.setIfInBounds_toArray, List.set_cons_zero, List.set_cons_succ]
            refine wpAnyH_take (i := 18) (oi := ⟨some 119, .fieldAddr 90 (.tmp 118) 1, 0, "tape.go:203", #[⟨17, .data⟩, ⟨0, .phase⟩, ⟨1, .phase⟩, ⟨2, .phase⟩, ⟨3, .phase⟩, ⟨4, .phase⟩, ⟨5, .phase⟩, ⟨6, .phase⟩, ⟨7, .phase⟩, ⟨8, .phase⟩, ⟨9, .phase⟩, ⟨10, .phase⟩, ⟨11, .phase⟩, ⟨12, .phase⟩, ⟨13, .phase⟩, ⟨14, .phase⟩, ⟨15, .phase⟩, ⟨16, .phase⟩], none⟩) (v := ?_) rfl (by kernel_rfl) (by kernel_rfl) (by kernel_rfl) (fun _ _ _ h => h) (Or.inl ⟨by rfl, ?hyr3x18q78⟩) (by assumption) ?restr3x18q78
            case hyr3x18q78 => intro wq hSw; (go_simp); (try with_reducible rfl)
            try simp only [Act.put, List.setIfInBounds_toArray, List.set_cons_zero, List.set_cons_succ]
            refine wpAnyH_ready (rs := [19]) (by kernel_rfl) (by simp) ?_
            refine AllReadyH.cons (o := ⟨none, .store 88 (.tmp 119) (.tmp 117), 0, "tape.go:203", #[⟨18, .data⟩, ⟨16, .data⟩, ⟨15, .chain⟩, ⟨0, .phase⟩, ⟨1, .phase⟩, ⟨2, .phase⟩, ⟨3, .phase⟩, ⟨4, .phase⟩, ⟨5, .phase⟩, ⟨6, .phase⟩, ⟨7, .phase⟩, ⟨8, .phase⟩, ⟨9, .phase⟩, ⟨10, .phase⟩, ⟨11, .phase⟩, ⟨12, .phase⟩, ⟨13, .phase⟩, ⟨14, .phase⟩, ⟨15, .phase⟩, ⟨16, .phase⟩], none⟩) rfl (fun K hK => ?_) AllReadyH.nil
            obtain ⟨pc, pf, OQ2⟩ := OwnN.put (p := 1) (fun _ => rfl) (by decide) OQ hqj (hd' := (ha, m, hcp)) (c' := c.2.take m) (own_cut own hml) (Chg.refl _ _) (.inl (own_cut_blk ha hn3 m hcp))
            go_simp
            clear pc pf OQ
            refine hK.out _ _ (trivial) (fun hHeld => ?_)
            clear hK K
            try simp only [Act.put, List.setIfInBounds_toArray, List.set_cons_zero, List.set_cons_succ]
            refine wpAnyH_done (by kernel_rfl) ?_ _
            have T := T.set (p := ⟨g, j * 2 + 1, none⟩) (Hdr.val (ha, m, hcp)) (by show b < g; omega)
            have kk := kk.setNew (p := ⟨g, j * 2 + 1, none⟩) (Hdr.val (ha, m, hcp)) hg
            have OQ := OQ2
            clear OQ2 own
            go_wp2_with fail
            exact ⟨⟨q - 1, _, _, by omega, by first | rfl | rw [hqm], OQ, lk_mono (lk_set LO.out j ⟨cok.out.1, by show (c.2.take m).length ≤ _; rw [List.length_take, ← HN3.out]; omega, fun y hy => cok.out.2.2 y (List.mem_of_mem_take hy)⟩) (by omega) (by omega), T, kk⟩, by simp [intOf]; omega⟩
          refine AllReadyH.cons (o := ⟨some 113, .load 88 (.tmp 112), 88, "tape.go:203", #[⟨11, .data⟩], none⟩) rfl (fun K hK => ?_) AllReadyH.nil
          · have cq := CE _ OQ
            go_simp
            clear cq
            refine hK.out _ _ (trivial) (fun hHeld => ?_)
            clear hK K
            try simp only [Act.put, List.setIfInBounds_toArray, List.set_cons_zero, List.set_cons_succ]
            refine wpAnyH_take (i := 13) (oi := ⟨some 114, .call { callee := .builtin .len, args := #[.tmp 113], argTypes := #[88] }, 3, "tape.go:203", #[⟨12, .data⟩], none⟩) (v := ?_) rfl (by kernel_rfl) (by kernel_rfl) (by kernel_rfl) (fun _ _ _ h => h) (Or.inl ⟨by rfl, ?hyr3x13q98⟩) (by assumption) ?restr3x13q98
            case hyr3x13q98 => intro wq hSw; (go_simp); (try with_reducible rfl)
            try simp only [Act.put, List.setIfInBounds_toArray, List.set_cons_zero, List.set_cons_succ]
            refine wpAnyH_take (i := 14) (oi := ⟨some 115, .binOp .add 3 (.tmp 114) (.const (.int .i64 1)) 3, 3, "tape.go:203", #[⟨13, .data⟩], none⟩) (v := ?_) rfl (by kernel_rfl) (by kernel_rfl) (by kernel_rfl) (fun _ _ _ h => h) (Or.inl ⟨by rfl, ?hyr3x14q101⟩) (by assumption) ?restr3x14q101
            case hyr3x14q101 => intro wq hSw; (go_simp); (try with_reducible rfl)
            try simp only [Act.put, List.setIfInBounds_toArray, List.set_cons_zero, List.set_cons_succ]
            refine wpAnyH_ready (rs := [6, 15]) (by kernel_rfl) (by simp) ?_
            refine AllReadyH.cons (o := ⟨some 107, .load 88 (.tmp 106), 88, "tape.go:203", #[⟨5, .data⟩], none⟩) rfl (fun K hK => ?_) ?_
            · have cq := CE _ OQ
              go_simp
              clear cq
              refine hK.out _ _ (trivial) (fun hHeld => ?_)
              clear hK K
              try simp only [Act.put, List.setIfInBounds_toArray, List.set_cons_zero, List.set_cons_succ]
              refine wpAnyH_ready (rs := [15]) (by kernel_rfl) (by simp) ?_
              refine AllReadyH.cons (o := ⟨some 116, .call { callee := .value (.func 17), args := #[.tmp 108, .tmp 115], argTypes := #[25, 3] }, 3, "tape.go:203", #[⟨7, .data⟩, ⟨14, .data⟩], none⟩) rfl (fun K hK => ?_) AllReadyH.nil
              go_simp
              ((with_reducible refine (next_t ((hn3 : Int) + 1) _ T (by omega) (by omega)).mono ?_))
              clear T
              rintro e w5 ⟨m, rfl, m0, m1, T, k2⟩
              obtain ⟨m, rfl⟩ := Int.eq_ofNat_of_zero_le m0
              replace OQ := OQ.nxb hbw k2
              replace own := own.nxb hbw k2
              replace kk := kk.nxb k2
              clear k2
              have hmc : (m : Int) ≤ (hcp : Int) := by omega
              have hml : m ≤ c.2.length := by rw [← HN3.out]; omega
              refine hK.out _ _ (trivial) (fun hHeld => ?_)
              clear hK K
              try simp only [Act.put, List.setIfInBounds_toArray, List.set_cons_zero, List.set_cons_succ]
              refine wpAnyH_take (i := 16) (oi := ⟨some 117, .slice 88 (.tmp 107) none (some (.tmp 116)) none, 88, "tape.go:203", #[⟨6, .data⟩, ⟨15, .data⟩], none⟩) (v := ?_) rfl (by kernel_rfl) (by kernel_rfl) (by kernel_rfl) (fun _ _ _ h => h) (Or.inl ⟨by rfl, ?hyr3x16q128⟩) (by assumption) ?restr3x16q128
              case hyr3x16q128 => intro wq hSw; (go_simp); (try with_reducible rfl)
              try simp only [Act.put, List.setIfInBounds_toArray, List.set_cons_zero, List.set_cons_succ]
              refine wpAnyH_take (i := 17) (oi := ⟨some 118, .indexAddr 24 (.tmp 101) (.tmp 102), 0, "tape.go:203", #[⟨0, .data⟩, ⟨1, .data⟩, ⟨0, .phase⟩, ⟨1, .phase⟩, ⟨2, .phase⟩, ⟨3, .phase⟩, ⟨4, .phase⟩, ⟨5, .phase⟩, ⟨6, .phase⟩, ⟨7, .phase⟩, ⟨8, .phase⟩, ⟨9, .phase⟩, ⟨10, .phase⟩, ⟨11, .phase⟩, ⟨12, .phase⟩, ⟨13, .phase⟩, ⟨14, .phase⟩, ⟨15, .phase⟩, ⟨16, .phase⟩], none⟩) (v := ?_) rfl (by kernel_rfl) (by kernel_rfl) (by kernel_rfl) (fun _ _ _ h => h) (Or.inl ⟨by rfl, ?hyr3x17q131⟩) (by assumption) ?restr3x17q131
              case hyr3x17q131 => intro wq hSw; (go_simp); (try with_reducible rfl)
              try simp only [Act.put, List.setIfInBounds_toArray, List.set_cons_zero, List.set_cons_succ]
              refine wpAnyH_take (i := 18) (oi := ⟨some 119, .fieldAddr 90 (.tmp 118) 1, 0, "tape.go:203", #[⟨17, .data⟩, ⟨0, .phase⟩, ⟨1, .phase⟩, ⟨2, .phase⟩, ⟨3, .phase⟩, ⟨4, .phase⟩, ⟨5, .phase⟩, ⟨6, .phase⟩, ⟨7, .phase⟩, ⟨8, .phase⟩, ⟨9, .phase⟩, ⟨10, .phase⟩, ⟨11, .phase⟩, ⟨12, .phase⟩, ⟨13, .phase⟩, ⟨14, .phase⟩, ⟨15, .phase⟩, ⟨16, .phase⟩], none⟩) (v := ?_) rfl (by kernel_rfl) (by kernel_rfl) (by kernel_rfl) (fun _ _ _ h => h) (Or.inl ⟨by rfl, ?hyr3x18q134⟩) (by assumption) ?restr3x18q134
              case hyr3x18q134 => intro wq hSw; (go_simp); (try with_reducible rfl)
              try simp only [Act.put, List.setIfInBounds_toArray, List.set_cons_zero, List.set_cons_succ]
              refine wpAnyH_ready (rs := [19]) (by kernel_rfl) (by simp) ?_
              refine AllReadyH.cons (o := ⟨none, .store 88 (.tmp 119) (.tmp 117), 0, "tape.go:203", #[⟨18, .data⟩, ⟨16, .data⟩, ⟨15, .chain⟩, ⟨0, .phase⟩, ⟨1, .phase⟩, ⟨2, .phase⟩, ⟨3, .phase⟩, ⟨4, .phase⟩, ⟨5, .phase⟩, ⟨6, .phase⟩, ⟨7, .phase⟩, ⟨8, .phase⟩, ⟨9, .phase⟩, ⟨10, .phase⟩, ⟨11, .phase⟩, ⟨12, .phase⟩, ⟨13, .phase⟩, ⟨14, .phase⟩, ⟨15, .phase⟩, ⟨16, .phase⟩], none⟩) rfl (fun K hK => ?_) AllReadyH.nil
              obtain ⟨pc, pf, OQ2⟩ := OwnN.put (p := 1) (fun _ => rfl) (by decide) OQ hqj (hd' := (ha, m, hcp)) (c' := c.2.take m) (own_cut own hml) (Chg.refl _ _) (.inl (own_cut_blk ha hn3 m hcp))
              go_simp
              clear pc pf OQ
              refine hK.out _ _ (trivial) (fun hHeld => ?_)
              clear hK K
              try simp only [Act.put, List.setIfInBounds_toArray, List.set_cons_zero, List.set_cons_succ]
              refine wpAnyH_done (by kernel_rfl) ?_ _
              have T := T.set (p := ⟨g, j * 2 + 1, none⟩) (Hdr.val (ha, m, hcp)) (by show b < g; omega)
              have kk := kk.setNew (p := ⟨g, j * 2 + 1, none⟩) (Hdr.val (ha, m, hcp)) hg
              have OQ := OQ2
              clear OQ2 own
              go_wp2_with fail
              exact ⟨⟨q - 1, _, _, by omega, by first | rfl | rw [hqm], OQ, lk_mono (lk_set LO.out j ⟨cok.out.1, by show (c.2.take m).length ≤ _; rw [List.length_take, ← HN3.out]; omega, fun y hy => cok.out.2.2 y (List.mem_of_mem_take hy)⟩) (by omega) (by omega), T, kk⟩, by simp [intOf]; omega⟩
            refine AllReadyH.cons (o := ⟨some 116, .call { callee := .value (.func 17), args := #[.tmp 108, .tmp 115], argTypes := #[25, 3] }, 3, "tape.go:203", #[⟨7, .data⟩, ⟨14, .data⟩], none⟩) rfl (fun K hK => ?_) AllReadyH.nil
            · go_simp
              ((with_reducible refine (next_t ((hn3 : Int) + 1) _ T (by omega) (by omega)).mono ?_))
              clear T
              rintro e w5 ⟨m, rfl, m0, m1, T, k2⟩
              obtain ⟨m, rfl⟩ := Int.eq_ofNat_of_zero_le m0
              replace OQ := OQ.nxb hbw k2
              replace own := own.nxb hbw k2
              replace kk := kk.nxb k2
              clear k2
              have hmc : (m : Int) ≤ (hcp : Int) := by omega
              have hml : m ≤ c.2.length := by rw [← HN3.out]; omega
              refine hK.out _ _ (trivial) (fun hHeld => ?_)
              clear hK K
              try simp only [Act.put, List.setIfInBounds_toArray, List.set_cons_zero, List.set_cons_succ]
              refine wpAnyH_ready (rs := [6]) (by kernel_rfl) (by simp) ?_
              refine AllReadyH.cons (o := ⟨some 107, .load 88 (.tmp 106), 88, "tape.go:203", #[⟨5, .data⟩], none⟩) rfl (fun K hK => ?_) AllReadyH.nil
              have cq := CE _ OQ
              go_simp
              clear cq
              refine hK.out _ _ (trivial) (fun hHeld => ?_)
              clear hK K
              try simp only [Act.put, List.setIfInBounds_toArray, List.set_cons_zero, List.set_cons_succ]
              refine wpAnyH_take (i := 16) (oi := ⟨some 117, .slice 88 (.tmp 107) none (some (.tmp 116)) none, 88, "tape.go:203", #[⟨6, .data⟩, ⟨15, .data⟩], none⟩) (v := ?_) rfl (by kernel_rfl) (by kernel_rfl) (by kernel_rfl) (fun _ _ _ h => h) (Or.inl ⟨by rfl, ?hyr3x16q170⟩) (by assumption) ?restr3x16q170
              case hyr3x16q170 => intro wq hSw; (go_simp); (try with_reducible rfl)
              try simp only [Act.put, List.setIfInBounds_toArray, List.set_cons_zero, List.set_cons_succ]
              refine wpAnyH_take (i := 17) (oi := ⟨some 118, .indexAddr 24 (.tmp 101) (.tmp 102), 0, "tape.go:203", #[⟨0, .data⟩, ⟨1, .data⟩, ⟨0, .phase⟩, ⟨1, .phase⟩, ⟨2, .phase⟩, ⟨3, .phase⟩, ⟨4, .phase⟩, ⟨5, .phase⟩, ⟨6, .phase⟩, ⟨7, .phase⟩, ⟨8, .phase⟩, ⟨9, .phase⟩, ⟨10, .phase⟩, ⟨11, .phase⟩, ⟨12, .phase⟩, ⟨13, .phase⟩, ⟨14, .phase⟩, ⟨15, .phase⟩, ⟨16, .phase⟩], none⟩) (v := ?_) rfl (by kernel_rfl) (by kernel_rfl) (by kernel_rfl) (fun _ _ _ h => h) (Or.inl ⟨by rfl, ?hyr3x17q173⟩) (by assumption) ?restr3x17q173
              case hyr3x17q173 => intro wq hSw; (go_simp); (try with_reducible rfl)
              try simp only [Act.put, List.setIfInBounds_toArray, List.set_cons_zero, List.set_cons_succ]
              refine wpAnyH_take (i := 18) (oi := ⟨some 119, .fieldAddr 90 (.tmp 118) 1, 0, "tape.go:203", #[⟨17, .data⟩, ⟨0, .phase⟩, ⟨1, .phase⟩, ⟨2, .phase⟩, ⟨3, .phase⟩, ⟨4, .phase⟩, ⟨5, .phase⟩, ⟨6, .phase⟩, ⟨7, .phase⟩, ⟨8, .phase⟩, ⟨9, .phase⟩, ⟨10, .phase⟩, ⟨11, .phase⟩, ⟨12, .phase⟩, ⟨13, .phase⟩, ⟨14, .phase⟩, ⟨15, .phase⟩, ⟨16, .phase⟩], none⟩) (v := ?_) rfl (by kernel_rfl) (by kernel_rfl) (by kernel_rfl) (fun _ _ _ h => h) (Or.inl ⟨by rfl, ?hyr3x18q176⟩) (by assumption) ?restr3x18q176
              case hyr3x18q176 => intro wq hSw; (go_simp); (try with_reducible rfl)
              try simp only [Act.put, List.setIfInBounds_toArray, List.set_cons_zero, List.set_cons_succ]
              refine wpAnyH_ready (rs := [19]) (by kernel_rfl) (by simp) ?_
              refine AllReadyH.cons (o := ⟨none, .store 88 (.tmp 119) (.tmp 117), 0, "tape.go:203", #[⟨18, .data⟩, ⟨16, .data⟩, ⟨15, .chain⟩, ⟨0, .phase⟩, ⟨1, .phase⟩, ⟨2, .phase⟩, ⟨3, .phase⟩, ⟨4, .phase⟩, ⟨5, .phase⟩, ⟨6, .phase⟩, ⟨7, .phase⟩, ⟨8, .phase⟩, ⟨9, .phase⟩, ⟨10, .phase⟩, ⟨11, .phase⟩, ⟨12, .phase⟩, ⟨13, .phase⟩, ⟨14, .phase⟩, ⟨15, .phase⟩, ⟨16, .phase⟩], none⟩) rfl (fun K hK => ?_) AllReadyH.nil
              obtain ⟨pc, pf, OQ2⟩ := OwnN.put (p := 1) (fun _ => rfl) (by decide) OQ hqj (hd' := (ha, m, hcp)) (c' := c.2.take m) (own_cut own hml) (Chg.refl _ _) (.inl (own_cut_blk ha hn3 m hcp))
              go_simp
              clear pc pf OQ
              refine hK.out _ _ (trivial) (fun hHeld => ?_)
              clear hK K
              try simp only [Act.put, List.setIfInBounds_toArray, List.set_cons_zero, List.set_cons_succ]
              refine wpAnyH_done (by kernel_rfl) ?_ _
              have T := T.set (p := ⟨g, j * 2 + 1, none⟩) (Hdr.val (ha, m, hcp)) (by show b < g; omega)
              have kk := kk.setNew (p := ⟨g, j * 2 + 1, none⟩) (Hdr.val (ha, m, hcp)) hg
              have OQ := OQ2
              clear OQ2 own
              go_wp2_with fail
              exact ⟨⟨q - 1, _, _, by omega, by first | rfl | rw [hqm], OQ, lk_mono (lk_set LO.out j ⟨cok.out.1, by show (c.2.take m).length ≤ _; rw [List.length_take, ← HN3.out]; omega, fun y hy => cok.out.2.2 y (List.mem_of_mem_take hy)⟩) (by omega) (by omega), T, kk⟩, by simp [intOf]; omega⟩
        by_cases r03 : r = 3
        · subst r03
          clear r00 r01 r02
          obtain ⟨a6, c6, e6, r6, hc6, _, some6⟩ := own.rd (fun _ => rfl)
          obtain ⟨rfl, hn3e, rfl⟩ : ha = a6 ∧ hn3 = c.2.length ∧ hcp = c6 := by simpa [Hdr.val] using e6
          have HN3 := Lib.hid hn3e
          have hcl : hn3 ≤ 17 + (ch - q) := by rw [hn3e]; exact cok.out.2.1
          rw [← hn3e] at hc6
          have jw3 : IntKind.i64.wrap ((hn3 : Int) + 1) = (hn3 : Int) + 1 := IntWalk.i64_in _ (by omega)
          clear hn3e
          clear e6 r6 some6
          have OQ := OQ.nx (Ex.refl w4).drew
          have own := own.nx (Ex.refl w4).drew
          have T : TK w4.drew b := T
          have kk := kk.drew
          have CE : ∀ cur : World, OwnLk w.heap.size cur (.slice (some ⟨g, 0, none⟩) L.length cap3) qs L → cur.cell? ⟨g, j * 2 + 1, none⟩ = some (.slice ha hn3 hcp) := fun cur h => by
            have := (OwnW.set1 (sz := 2) (enc := encP encI) (c := 1) (fun _ => rfl) h.1 hqj (by omega)).1
            exact this
          go_wp2_with fail
          refine wp_region_held_drew (S := fun _ => True) (by kernel_rfl) (trivial) (fun hHeld => ?_)
          refine wpAnyH_take (i := 0) (oi := ⟨some 122, .move (.tmp 9), 24, "tape.go:205", #[], none⟩) (v := ?_) rfl (by kernel_rfl) (by kernel_rfl) (by kernel_rfl) (fun _ _ _ h => h) (Or.inl ⟨by rfl, ?hyr4x0q1⟩) (by assumption) ?restr4x0q1
          case hyr4x0q1 => intro wq hSw; (go_simp); (try with_reducible rfl)
          try simp only [Act.put, List.setIfInBounds_toArray, List.set_cons_zero, List.set_cons_succ]
          refine wpAnyH_take (i := 1) (oi := ⟨some 123, .move (.tmp 12), 3, "tape.go:205", #[], none⟩) (v := ?_) rfl (by kernel_rfl) (by kernel_rfl) (by kernel_rfl) (fun _ _ _ h => h) (Or.inl ⟨by rfl, ?hyr4x1q4⟩) (by assumption) ?restr4x1q4
          case hyr4x1q4 => intro wq hSw; (go_simp); (try with_reducible rfl)
          try simp only [Act.put, List.setIfInBounds_toArray, List.set_cons_zero, List.set_cons_succ]
          refine wpAnyH_take (i := 2) (oi := ⟨some 124, .move (.tmp 9), 24, "tape.go:205", #[], none⟩) (v := ?_) rfl (by kernel_rfl) (by kernel_rfl) (by kernel_rfl) (fun _ _ _ h => h) (Or.inl ⟨by rfl, ?hyr4x2q7⟩) (by assumption) ?restr4x2q7
          case hyr4x2q7 => intro wq hSw; (go_simp); (try with_reducible rfl)
          try simp only [Act.put, List.setIfInBounds_toArray, List.set_cons_zero, List.set_cons_succ]
          refine wpAnyH_take (i := 3) (oi := ⟨some 125, .move (.tmp 12), 3, "tape.go:205", #[], none⟩) (v := ?_) rfl (by kernel_rfl) (by kernel_rfl) (by kernel_rfl) (fun _ _ _ h => h) (Or.inl ⟨by rfl, ?hyr4x3q10⟩) (by assumption) ?restr4x3q10
          case hyr4x3q10 => intro wq hSw; (go_simp); (try with_reducible rfl)
          try simp only [Act.put, List.setIfInBounds_toArray, List.set_cons_zero, List.set_cons_succ]
          refine wpAnyH_take (i := 4) (oi := ⟨some 126, .indexAddr 24 (.tmp 124) (.tmp 125), 0, "tape.go:205", #[⟨2, .data⟩, ⟨3, .data⟩], none⟩) (v := ?_) rfl (by kernel_rfl) (by kernel_rfl) (by kernel_rfl) (fun _ _ _ h => h) (Or.inl ⟨by rfl, ?hyr4x4q13⟩) (by assumption) ?restr4x4q13
          case hyr4x4q13 => intro wq hSw; (go_simp); (try with_reducible rfl)
          try simp only [Act.put, List.setIfInBounds_toArray, List.set_cons_zero, List.set_cons_succ]
          refine wpAnyH_take (i := 5) (oi := ⟨some 127, .fieldAddr 90 (.tmp 126) 1, 0, "tape.go:205", #[⟨4, .data⟩], none⟩) (v := ?_) rfl (by kernel_rfl) (by kernel_rfl) (by kernel_rfl) (fun _ _ _ h => h) (Or.inl ⟨by rfl, ?hyr4x5q16⟩) (by assumption) ?restr4x5q16
          case hyr4x5q16 => intro wq hSw; (go_simp); (try with_reducible rfl)
          try simp only [Act.put, List.setIfInBounds_toArray, List.set_cons_zero, List.set_cons_succ]
          refine wpAnyH_take (i := 7) (oi := ⟨some 129, .move (.tmp 0), 25, "tape.go:205", #[], none⟩) (v := ?_) rfl (by kernel_rfl) (by kernel_rfl) (by kernel_rfl) (fun _ _ _ h => h) (Or.inl ⟨by rfl, ?hyr4x7q19⟩) (by assumption) ?restr4x7q19
          case hyr4x7q19 => intro wq hSw; (go_simp); (try with_reducible rfl)
          try simp only [Act.put, List.setIfInBounds_toArray, List.set_cons_zero, List.set_cons_succ]
          refine wpAnyH_take (i := 8) (oi := ⟨some 130, .move (.tmp 1), 23, "tape.go:205", #[], none⟩) (v := ?_) rfl (by kernel_rfl) (by kernel_rfl) (by kernel_rfl) (fun _ _ _ h => h) (Or.inl ⟨by rfl, ?hyr4x8q22⟩) (by assumption) ?restr4x8q22
          case hyr4x8q22 => intro wq hSw; (go_simp); (try with_reducible rfl)
          try simp only [Act.put, List.setIfInBounds_toArray, List.set_cons_zero, List.set_cons_succ]
          refine wpAnyH_take (i := 10) (oi := ⟨some 132, .move (.tmp 0), 25, "tape.go:205", #[], none⟩) (v := ?_) rfl (by kernel_rfl) (by kernel_rfl) (by kernel_rfl) (fun _ _ _ h => h) (Or.inl ⟨by rfl, ?hyr4x10q25⟩) (by assumption) ?restr4x10q25
          case hyr4x10q25 => intro wq hSw; (go_simp); (try with_reducible rfl)
          try simp only [Act.put, List.setIfInBounds_toArray, List.set_cons_zero, List.set_cons_succ]
          refine wpAnyH_take (i := 11) (oi := ⟨some 133, .move (.tmp 1), 23, "tape.go:205", #[], none⟩) (v := ?_) rfl (by kernel_rfl) (by kernel_rfl) (by kernel_rfl) (fun _ _ _ h => h) (Or.inl ⟨by rfl, ?hyr4x11q28⟩) (by assumption) ?restr4x11q28
          case hyr4x11q28 => intro wq hSw; (go_simp); (try with_reducible rfl)
          try simp only [Act.put, List.setIfInBounds_toArray, List.set_cons_zero, List.set_cons_succ]
          refine wpAnyH_ready (rs := [6, 9]) (by kernel_rfl) (by simp) ?_
          refine AllReadyH.cons (o := ⟨some 128, .load 88 (.tmp 127), 88, "tape.go:205", #[⟨5, .data⟩], none⟩) rfl (fun K hK => ?_) ?_
          · have cq := CE _ OQ
            go_simp
            clear cq
            refine hK.out _ _ (trivial) (fun hHeld => ?_)
            clear hK K
            try simp only [Act.put, List.setIfInBounds_toArray, List.set_cons_zero, List.set_cons_succ]
            refine wpAnyH_ready (rs := [9]) (by kernel_rfl) (by simp) ?_
            refine AllReadyH.cons (o := ⟨some 131, .call { callee := .value (.func 20), args := #[.tmp 129, .tmp 130], argTypes := #[25, 23] }, 3, "tape.go:205", #[⟨7, .data⟩, ⟨8, .data⟩], none⟩) rfl (fun K hK => ?_) AllReadyH.nil
            go_simp
            (refine (id_t _ _ _ _ _ T (HS.out.nxb kk) (by omega) HI.out).mono ?_)
            clear T
            rintro e w5 ⟨i2, rfl, I2, T, k2⟩
            replace OQ := OQ.nxb hbw k2
            replace own := own.nxb hbw k2
            replace kk := kk.nxb k2
            clear k2
            refine hK.out _ _ (trivial) (fun hHeld => ?_)
            clear hK K
            try simp only [Act.put, List.setIfInBounds_toArray, List.set_cons_zero, List.set_cons_succ]
            refine wpAnyH_ready (rs := [12]) (by kernel_rfl) (by simp) ?_
            refine AllReadyH.cons (o := ⟨some 134, .call { callee := .value (.func 20), args := #[.tmp 132, .tmp 133], argTypes := #[25, 23] }, 3, "tape.go:205", #[⟨10, .data⟩, ⟨11, .data⟩, ⟨9, .chain⟩], none⟩) rfl (fun K hK => ?_) AllReadyH.nil
            go_simp
            (refine (id_t _ _ _ _ _ T (HS.out.nxb kk) (by omega) HI.out).mono ?_)
            clear T
            rintro e w6 ⟨i3, rfl, I3, T, k2⟩
            replace OQ := OQ.nxb hbw k2
            replace own := own.nxb hbw k2
            replace kk := kk.nxb k2
            clear k2
            refine hK.out _ _ (trivial) (fun hHeld => ?_)
            clear hK K
            try simp only [Act.put, List.setIfInBounds_toArray, List.set_cons_zero, List.set_cons_succ]
            refine wpAnyH_take (i := 13) (oi := ⟨some 135, .build 74 #[(0, .tmp 131), (1, .tmp 134)], 74, "tape.go:205", #[⟨9, .data⟩, ⟨12, .data⟩], none⟩) (v := ?_) rfl (by kernel_rfl) (by kernel_rfl) (by kernel_rfl) (fun _ _ _ h => h) (Or.inl ⟨by rfl, ?hyr4x13q65⟩) (by assumption) ?restr4x13q65
            case hyr4x13q65 => intro wq hSw; (go_simp); (try with_reducible rfl)
            try simp only [Act.put, List.setIfInBounds_toArray, List.set_cons_zero, List.set_cons_succ]
            refine wpAnyH_ready (rs := [14]) (by kernel_rfl) (by simp) ?_
            refine AllReadyH.cons (o := ⟨some 136, .buildSlice 88 1 #[(0, .tmp 135)], 88, "tape.go:205", #[⟨13, .data⟩], none⟩) rfl (fun K hK => ?_) AllReadyH.nil
            have SX : Sl 2 encS (w6.alloc (.cells #[.int .i64 i2, .int .i64 i3] 74)) (some ⟨w6.heap.size, 0, none⟩) 1 [(i2, i3)] := Sl.lit _ rfl rfl (fun _ => rfl) rfl
            go_simp
            have k8 := Ex.new w6 (.cells #[.int .i64 i2, .int .i64 i3] 74)
            replace OQ := OQ.nx k8
            replace own := own.nx k8
            replace kk := kk.nxb (k8.b b)
            replace T := T.nx k8
            clear k8
            refine hK.out _ _ (trivial) (fun hHeld => ?_)
            clear hK K
            try simp only [Act.put, List.setIfInBounds_toArray, List.set_cons_zero, List.set_cons_succ]
            refine wpAnyH_ready (rs := [15]) (by kernel_rfl) (by simp) ?_
            refine AllReadyH.cons (o := ⟨some 137, .call { callee := .builtin .append, args := #[.tmp 128, .tmp 136], argTypes := #[88, 88] }, 88, "tape.go:205", #[⟨6, .data⟩, ⟨14, .data⟩, ⟨12, .chain⟩], none⟩) rfl (fun K hK => ?_) AllReadyH.nil
            rw [if_pos (by rfl)]
            have z6 := kk.size
            refine wp_append_rda (enc := encS) _ (.tmp 128) (.tmp 136) 88 rfl w.heap.size 74 (.agg #[.int .i64 0, .int .i64 0]) 2 16 Tryd.underlying88 Tryd.infoLk rfl (by omega) (by omega) _ c.2 own rfl _ _ 1 1 [_] SX (fun h => by cases h) (fun _ => rfl) (by simp [encS, Value.oneCell']) rfl (by rw [← HN3.out]; omega) (by omega) z6 ?_
            intro v9 w9 own9 ch0 ch1 hat
            obtain ⟨a9, c9, rfl, _, _, _, _⟩ := own9.rd (fun _ => rfl)
            obtain ⟨pc, pf, OQ2⟩ := OwnN.put (p := 1) (fun _ => rfl) (by decide) OQ hqj (hd' := (a9, (c.2 ++ [(i2, i3)]).length, c9)) (c' := c.2 ++ [(i2, i3)]) own9 ch0 (hat.imp id (fun h x hx => by have h2 := h.symm.trans hx; cases h2; exact Nat.le_refl _))
            have hll : (c.2 ++ [(i2, i3)]).length = hn3 + 1 := by rw [HN3.out]; simp
            simp only [Hdr.val, hll] at OQ2
            have kk : Exb b w w9 := Chg.trans kk (ch1.mono (fun x hx => hx.1))
            have T := TP.chg T ch1 (fun x hx => by omega)
            clear own9 ch0 ch1 hat
            refine hK.out _ _ (trivial) (fun hHeld => ?_)
            clear hK K
            try simp only [Act.put, List.setIfInBounds_toArray, List.set_cons_zero, List.set_cons_succ]
            refine wpAnyH_take (i := 16) (oi := ⟨some 138, .indexAddr 24 (.tmp 122) (.tmp 123), 0, "tape.go:205", #[⟨0, .data⟩, ⟨1, .data⟩, ⟨0, .phase⟩, ⟨1, .phase⟩, ⟨2, .phase⟩, ⟨3, .phase⟩, ⟨4, .phase⟩, ⟨5, .phase⟩, ⟨6, .phase⟩, ⟨7, .phase⟩, ⟨8, .phase⟩, ⟨9, .phase⟩, ⟨10, .phase⟩, ⟨11, .phase⟩, ⟨12, .phase⟩, ⟨13, .phase⟩, ⟨14, .phase⟩, ⟨15, .phase⟩], none⟩) (v := ?_) rfl (by kernel_rfl) (by kernel_rfl) (by kernel_rfl) (fun _ _ _ h => h) (Or.inl ⟨by rfl, ?hyr4x16q97⟩) (by assumption) ?restr4x16q97
            case hyr4x16q97 => intro wq hSw; (go_simp); (try with_reducible rfl)
            try simp only [Act.put, List.setIfInBounds_toArray, List.set_cons_zero, List.set_cons_succ]
            refine wpAnyH_take (i := 17) (oi := ⟨some 139, .fieldAddr 90 (.tmp 138) 1, 0, "tape.go:205", #[⟨16, .data⟩, ⟨0, .phase⟩, ⟨1, .phase⟩, ⟨2, .phase⟩, ⟨3, .phase⟩, ⟨4, .phase⟩, ⟨5, .phase⟩, ⟨6, .phase⟩, ⟨7, .phase⟩, ⟨8, .phase⟩, ⟨9, .phase⟩, ⟨10, .phase⟩, ⟨11, .phase⟩, ⟨12, .phase⟩, ⟨13, .phase⟩, ⟨14, .phase⟩, ⟨15, .phase⟩], none⟩) (v := ?_) rfl (by kernel_rfl) (by kernel_rfl) (by kernel_rfl) (fun _ _ _ h => h) (Or.inl ⟨by rfl, ?hyr4x17q100⟩) (by assumption) ?restr4x17q100
            case hyr4x17q100 => intro wq hSw; (go_simp); (try with_reducible rfl)
            try simp only [Act.put, List.setIfInBounds_toArray, List.set_cons_zero, List.set_cons_succ]
            refine wpAnyH_ready (rs := [18]) (by kernel_rfl) (by simp) ?_
            refine AllReadyH.cons (o := ⟨none, .store 88 (.tmp 139) (.tmp 137), 0, "tape.go:205", #[⟨17, .data⟩, ⟨15, .data⟩, ⟨15, .chain⟩, ⟨0, .phase⟩, ⟨1, .phase⟩, ⟨2, .phase⟩, ⟨3, .phase⟩, ⟨4, .phase⟩, ⟨5, .phase⟩, ⟨6, .phase⟩, ⟨7, .phase⟩, ⟨8, .phase⟩, ⟨9, .phase⟩, ⟨10, .phase⟩, ⟨11, .phase⟩, ⟨12, .phase⟩, ⟨13, .phase⟩, ⟨14, .phase⟩, ⟨15, .phase⟩], none⟩) rfl (fun K hK => ?_) AllReadyH.nil
            go_simp
            clear pc pf OQ
            refine hK.out _ _ (trivial) (fun hHeld => ?_)
            clear hK K
            try simp only [Act.put, List.setIfInBounds_toArray, List.set_cons_zero, List.set_cons_succ]
            refine wpAnyH_done (by kernel_rfl) ?_ _
            have T : TK (w9.setCell ⟨g, j * 2 + 1, none⟩ (.slice a9 (hn3 + 1) c9)) b := TK.set T (p := ⟨g, j * 2 + 1, none⟩) _ (by show b < g; omega)
            have kk := kk.setNew (p := ⟨g, j * 2 + 1, none⟩) (.slice a9 (hn3 + 1) c9) hg
            have OQ := OQ2
            clear OQ2 own SX
            go_wp2_with fail
            exact ⟨⟨q - 1, _, _, by omega, by first | rfl | rw [hqm], OQ, lk_mono (lk_set (B2 := 17 + (ch - q) + 1) (lk_mono LO.out (Nat.le_refl _) (by omega)) j ⟨cok.out.1, by show (c.2 ++ [(i2, i3)]).length ≤ _; rw [hll]; omega, fun y hy => by rcases List.mem_append.1 hy with h1 | h1; exact cok.out.2.2 y h1; rw [List.mem_singleton.1 h1]; exact ⟨I2, I3⟩⟩) (by omega) (by omega), T, kk⟩, by simp [intOf]; omega⟩
          refine AllReadyH.cons (o := ⟨some 131, .call { callee := .value (.func 20), args := #[.tmp 129, .tmp 130], argTypes := #[25, 23] }, 3, "tape.go:205", #[⟨7, .data⟩, ⟨8, .data⟩], none⟩) rfl (fun K hK => ?_) AllReadyH.nil
          · go_simp
            (refine (id_t _ _ _ _ _ T (HS.out.nxb kk) (by omega) HI.out).mono ?_)
            clear T
            rintro e w5 ⟨i2, rfl, I2, T, k2⟩
            replace OQ := OQ.nxb hbw k2
            replace own := own.nxb hbw k2
            replace kk := kk.nxb k2
            clear k2
            refine hK.out _ _ (trivial) (fun hHeld => ?_)
            clear hK K
            try simp only [Act.put, List.setIfInBounds_toArray, List.set_cons_zero, List.set_cons_succ]
            refine wpAnyH_ready (rs := [6, 12]) (by kernel_rfl) (by simp) ?_
            refine AllReadyH.cons (o := ⟨some 128, .load 88 (.tmp 127), 88, "tape.go:205", #[⟨5, .data⟩], none⟩) rfl (fun K hK => ?_) ?_
            · have cq := CE _ OQ
              go_simp
              clear cq
              refine hK.out _ _ (trivial) (fun hHeld => ?_)
              clear hK K
              try simp only [Act.put, List.setIfInBounds_toArray, List.set_cons_zero, List.set_cons_succ]
              refine wpAnyH_ready (rs := [12]) (by kernel_rfl) (by simp) ?_
              refine AllReadyH.cons (o := ⟨some 134, .call { callee := .value (.func 20), args := #[.tmp 132, .tmp 133], argTypes := #[25, 23] }, 3, "tape.go:205", #[⟨10, .data⟩, ⟨11, .data⟩, ⟨9, .chain⟩], none⟩) rfl (fun K hK => ?_) AllReadyH.nil
              go_simp
              (refine (id_t _ _ _ _ _ T (HS.out.nxb kk) (by omega) HI.out).mono ?_)
              clear T
              rintro e w6 ⟨i3, rfl, I3, T, k2⟩
              replace OQ := OQ.nxb hbw k2
              replace own := own.nxb hbw k2
              replace kk := kk.nxb k2
              clear k2
              refine hK.out _ _ (trivial) (fun hHeld => ?_)
              clear hK K
              try simp only [Act.put, List.setIfInBounds_toArray, List.set_cons_zero, List.set_cons_succ]
              refine wpAnyH_take (i := 13) (oi := ⟨some 135, .build 74 #[(0, .tmp 131), (1, .tmp 134)], 74, "tape.go:205", #[⟨9, .data⟩, ⟨12, .data⟩], none⟩) (v := ?_) rfl (by kernel_rfl) (by kernel_rfl) (by kernel_rfl) (fun _ _ _ h => h) (Or.inl ⟨by rfl, ?hyr4x13q145⟩) (by assumption) ?restr4x13q145
              case hyr4x13q145 => intro wq hSw; (go_simp); (try with_reducible rfl)
              try simp only [Act.put, List.setIfInBounds_toArray, List.set_cons_zero, List.set_cons_succ]
              refine wpAnyH_ready (rs := [14]) (by kernel_rfl) (by simp) ?_
              refine AllReadyH.cons (o := ⟨some 136, .buildSlice 88 1 #[(0, .tmp 135)], 88, "tape.go:205", #[⟨13, .data⟩], none⟩) rfl (fun K hK => ?_) AllReadyH.nil
              have SX : Sl 2 encS (w6.alloc (.cells #[.int .i64 i2, .int .i64 i3] 74)) (some ⟨w6.heap.size, 0, none⟩) 1 [(i2, i3)] := Sl.lit _ rfl rfl (fun _ => rfl) rfl
              go_simp
              have k8 := Ex.new w6 (.cells #[.int .i64 i2, .int .i64 i3] 74)
              replace OQ := OQ.nx k8
              replace own := own.nx k8
              replace kk := kk.nxb (k8.b b)
              replace T := T.nx k8
              clear k8
              refine hK.out _ _ (trivial) (fun hHeld => ?_)
              clear hK K
              try simp only [Act.put, List.setIfInBounds_toArray, List.set_cons_zero, List.set_cons_succ]
              refine wpAnyH_ready (rs := [15]) (by kernel_rfl) (by simp) ?_
              refine AllReadyH.cons (o := ⟨some 137, .call { callee := .builtin .append, args := #[.tmp 128, .tmp 136], argTypes := #[88, 88] }, 88, "tape.go:205", #[⟨6, .data⟩, ⟨14, .data⟩, ⟨12, .chain⟩], none⟩) rfl (fun K hK => ?_) AllReadyH.nil
              rw [if_pos (by rfl)]
              have z6 := kk.size
              refine wp_append_rda (enc := encS) _ (.tmp 128) (.tmp 136) 88 rfl w.heap.size 74 (.agg #[.int .i64 0, .int .i64 0]) 2 16 Tryd.underlying88 Tryd.infoLk rfl (by omega) (by omega) _ c.2 own rfl _ _ 1 1 [_] SX (fun h => by cases h) (fun _ => rfl) (by simp [encS, Value.oneCell']) rfl (by rw [← HN3.out]; omega) (by omega) z6 ?_
              intro v9 w9 own9 ch0 ch1 hat
              obtain ⟨a9, c9, rfl, _, _, _, _⟩ := own9.rd (fun _ => rfl)
              obtain ⟨pc, pf, OQ2⟩ := OwnN.put (p := 1) (fun _ => rfl) (by decide) OQ hqj (hd' := (a9, (c.2 ++ [(i2, i3)]).length, c9)) (c' := c.2 ++ [(i2, i3)]) own9 ch0 (hat.imp id (fun h x hx => by have h2 := h.symm.trans hx; cases h2; exact Nat.le_refl _))
              have hll : (c.2 ++ [(i2, i3)]).length = hn3 + 1 := by rw [HN3.out]; simp
              simp only [Hdr.val, hll] at OQ2
              have kk : Exb b w w9 := Chg.trans kk (ch1.mono (fun x hx => hx.1))
              have T := TP.chg T ch1 (fun x hx => by omega)
              clear own9 ch0 ch1 hat
              refine hK.out _ _ (trivial) (fun hHeld => ?_)
              clear hK K
              try simp only [Act.put, List.setIfInBounds_toArray, List.set_cons_zero, List.set_cons_succ]
              refine wpAnyH_take (i := 16) (oi := ⟨some 138, .indexAddr 24 (.tmp 122) (.tmp 123), 0, "tape.go:205", #[⟨0, .data⟩, ⟨1, .data⟩, ⟨0, .phase⟩, ⟨1, .phase⟩, ⟨2, .phase⟩, ⟨3, .phase⟩, ⟨4, .phase⟩, ⟨5, .phase⟩, ⟨6, .phase⟩, ⟨7, .phase⟩, ⟨8, .phase⟩, ⟨9, .phase⟩, ⟨10, .phase⟩, ⟨11, .phase⟩, ⟨12, .phase⟩, ⟨13, .phase⟩, ⟨14, .phase⟩, ⟨15, .phase⟩], none⟩) (v := ?_) rfl (by kernel_rfl) (by kernel_rfl) (by kernel_rfl) (fun _ _ _ h => h) (Or.inl ⟨by rfl, ?hyr4x16q177⟩) (by assumption) ?restr4x16q177
              case hyr4x16q177 => intro wq hSw; (go_simp); (try with_reducible rfl)
              try simp only [Act.put, List.setIfInBounds_toArray, List.set_cons_zero, List.set_cons_succ]
              refine wpAnyH_take (i := 17) (oi := ⟨some 139, .fieldAddr 90 (.tmp 138) 1, 0, "tape.go:205", #[⟨16, .data⟩, ⟨0, .phase⟩, ⟨1, .phase⟩, ⟨2, .phase⟩, ⟨3, .phase⟩, ⟨4, .phase⟩, ⟨5, .phase⟩, ⟨6, .phase⟩, ⟨7, .phase⟩, ⟨8, .phase⟩, ⟨9, .phase⟩, ⟨10, .phase⟩, ⟨11, .phase⟩, ⟨12, .phase⟩, ⟨13, .phase⟩, ⟨14, .phase⟩, ⟨15, .phase⟩], none⟩) (v := ?_) rfl (by kernel_rfl) (by kernel_rfl) (by kernel_rfl) (fun _ _ _ h => h) (Or.inl ⟨by rfl, ?hyr4x17q180⟩) (by assumption) ?restr4x17q180
              case hyr4x17q180 => intro wq hSw; (go_simp); (try with_reducible rfl)
              try simp only [Act.put, List.setIfInBounds_toArray, List.set_cons_zero, List.set_cons_succ]
              refine wpAnyH_ready (rs := [18]) (by kernel_rfl) (by simp) ?_
              refine AllReadyH.cons (o := ⟨none, .store 88 (.tmp 139) (.tmp 137), 0, "tape.go:205", #[⟨17, .data⟩, ⟨15, .data⟩, ⟨15, .chain⟩, ⟨0, .phase⟩, ⟨1, .phase⟩, ⟨2, .phase⟩, ⟨3, .phase⟩, ⟨4, .phase⟩, ⟨5, .phase⟩, ⟨6, .phase⟩, ⟨7, .phase⟩, ⟨8, .phase⟩, ⟨9, .phase⟩, ⟨10, .phase⟩, ⟨11, .phase⟩, ⟨12, .phase⟩, ⟨13, .phase⟩, ⟨14, .phase⟩, ⟨15, .phase⟩], none⟩) rfl (fun K hK => ?_) AllReadyH.nil
              go_simp
              clear pc pf OQ
              refine hK.out _ _ (trivial) (fun hHeld => ?_)
              clear hK K
              try simp only [Act.put, List.setIfInBounds_toArray, List.set_cons_zero, List.set_cons_succ]
              refine wpAnyH_done (by kernel_rfl) ?_ _
              have T : TK (w9.setCell ⟨g, j * 2 + 1, none⟩ (.slice a9 (hn3 + 1) c9)) b := TK.set T (p := ⟨g, j * 2 + 1, none⟩) _ (by show b < g; omega)
              have kk := kk.setNew (p := ⟨g, j * 2 + 1, none⟩) (.slice a9 (hn3 + 1) c9) hg
              have OQ := OQ2
              clear OQ2 own SX
              go_wp2_with fail
              exact ⟨⟨q - 1, _, _, by omega, by first | rfl | rw [hqm], OQ, lk_mono (lk_set (B2 := 17 + (ch - q) + 1) (lk_mono LO.out (Nat.le_refl _) (by omega)) j ⟨cok.out.1, by show (c.2 ++ [(i2, i3)]).length ≤ _; rw [hll]; omega, fun y hy => by rcases List.mem_append.1 hy with h1 | h1; exact cok.out.2.2 y h1; rw [List.mem_singleton.1 h1]; exact ⟨I2, I3⟩⟩) (by omega) (by omega), T, kk⟩, by simp [intOf]; omega⟩
            refine AllReadyH.cons (o := ⟨some 134, .call { callee := .value (.func 20), args := #[.tmp 132, .tmp 133], argTypes := #[25, 23] }, 3, "tape.go:205", #[⟨10, .data⟩, ⟨11, .data⟩, ⟨9, .chain⟩], none⟩) rfl (fun K hK => ?_) AllReadyH.nil
            · go_simp
              (refine (id_t _ _ _ _ _ T (HS.out.nxb kk) (by omega) HI.out).mono ?_)
              clear T
              rintro e w6 ⟨i3, rfl, I3, T, k2⟩
              replace OQ := OQ.nxb hbw k2
              replace own := own.nxb hbw k2
              replace kk := kk.nxb k2
              clear k2
              refine hK.out _ _ (trivial) (fun hHeld => ?_)
              clear hK K
              try simp only [Act.put, List.setIfInBounds_toArray, List.set_cons_zero, List.set_cons_succ]
              refine wpAnyH_take (i := 13) (oi := ⟨some 135, .build 74 #[(0, .tmp 131), (1, .tmp 134)], 74, "tape.go:205", #[⟨9, .data⟩, ⟨12, .data⟩], none⟩) (v := ?_) rfl (by kernel_rfl) (by kernel_rfl) (by kernel_rfl) (fun _ _ _ h => h) (Or.inl ⟨by rfl, ?hyr4x13q204⟩) (by assumption) ?restr4x13q204
              case hyr4x13q204 => intro wq hSw; (go_simp); (try with_reducible rfl)
              try simp only [Act.put, List.setIfInBounds_toArray, List.set_cons_zero, List.set_cons_succ]
              refine wpAnyH_ready (rs := [6, 14]) (by kernel_rfl) (by simp) ?_
              refine AllReadyH.cons (o := ⟨some 128, .load 88 (.tmp 127), 88, "tape.go:205", #[⟨5, .data⟩], none⟩) rfl (fun K hK => ?_) ?_
              · have cq := CE _ OQ
                go_simp
                clear cq
                refine hK.out _ _ (trivial) (fun hHeld => ?_)
                clear hK K
                try simp only [Act.put, List.setIfInBounds_toArray, List.set_cons_zero, List.set_cons_succ]
                refine wpAnyH_ready (rs := [14]) (by kernel_rfl) (by simp) ?_
                refine AllReadyH.cons (o := ⟨some 136, .buildSlice 88 1 #[(0, .tmp 135)], 88, "tape.go:205", #[⟨13, .data⟩], none⟩) rfl (fun K hK => ?_) AllReadyH.nil
                have SX : Sl 2 encS (w6.alloc (.cells #[.int .i64 i2, .int .i64 i3] 74)) (some ⟨w6.heap.size, 0, none⟩) 1 [(i2, i3)] := Sl.lit _ rfl rfl (fun _ => rfl) rfl
                go_simp
                have k8 := Ex.new w6 (.cells #[.int .i64 i2, .int .i64 i3] 74)
                replace OQ := OQ.nx k8
                replace own := own.nx k8
                replace kk := kk.nxb (k8.b b)
                replace T := T.nx k8
                clear k8
                refine hK.out _ _ (trivial) (fun hHeld => ?_)
                clear hK K
                try simp only [Act.put, List.setIfInBounds_toArray, List.set_cons_zero, List.set_cons_succ]
                refine wpAnyH_ready (rs := [15]) (by kernel_rfl) (by simp) ?_
                refine AllReadyH.cons (o := ⟨some 137, .call { callee := .builtin .append, args := #[.tmp 128, .tmp 136], argTypes := #[88, 88] }, 88, "tape.go:205", #[⟨6, .data⟩, ⟨14, .data⟩, ⟨12, .chain⟩], none⟩) rfl (fun K hK => ?_) AllReadyH.nil
                rw [if_pos (by rfl)]
                have z6 := kk.size
                refine wp_append_rda (enc := encS) _ (.tmp 128) (.tmp 136) 88 rfl w.heap.size 74 (.agg #[.int .i64 0, .int .i64 0]) 2 16 Tryd.underlying88 Tryd.infoLk rfl (by omega) (by omega) _ c.2 own rfl _ _ 1 1 [_] SX (fun h => by cases h) (fun _ => rfl) (by simp [encS, Value.oneCell']) rfl (by rw [← HN3.out]; omega) (by omega) z6 ?_
                intro v9 w9 own9 ch0 ch1 hat
                obtain ⟨a9, c9, rfl, _, _, _, _⟩ := own9.rd (fun _ => rfl)
                obtain ⟨pc, pf, OQ2⟩ := OwnN.put (p := 1) (fun _ => rfl) (by decide) OQ hqj (hd' := (a9, (c.2 ++ [(i2, i3)]).length, c9)) (c' := c.2 ++ [(i2, i3)]) own9 ch0 (hat.imp id (fun h x hx => by have h2 := h.symm.trans hx; cases h2; exact Nat.le_refl _))
                have hll : (c.2 ++ [(i2, i3)]).length = hn3 + 1 := by rw [HN3.out]; simp
                simp only [Hdr.val, hll] at OQ2
                have kk : Exb b w w9 := Chg.trans kk (ch1.mono (fun x hx => hx.1))
                have T := TP.chg T ch1 (fun x hx => by omega)
                clear own9 ch0 ch1 hat
                refine hK.out _ _ (trivial) (fun hHeld => ?_)
                clear hK K
                try simp only [Act.put, List.setIfInBounds_toArray, List.set_cons_zero, List.set_cons_succ]
                refine wpAnyH_take (i := 16) (oi := ⟨some 138, .indexAddr 24 (.tmp 122) (.tmp 123), 0, "tape.go:205", #[⟨0, .data⟩, ⟨1, .data⟩, ⟨0, .phase⟩, ⟨1, .phase⟩, ⟨2, .phase⟩, ⟨3, .phase⟩, ⟨4, .phase⟩, ⟨5, .phase⟩, ⟨6, .phase⟩, ⟨7, .phase⟩, ⟨8, .phase⟩, ⟨9, .phase⟩, ⟨10, .phase⟩, ⟨11, .phase⟩, ⟨12, .phase⟩, ⟨13, .phase⟩, ⟨14, .phase⟩, ⟨15, .phase⟩], none⟩) (v := ?_) rfl (by kernel_rfl) (by kernel_rfl) (by kernel_rfl) (fun _ _ _ h => h) (Or.inl ⟨by rfl, ?hyr4x16q244⟩) (by assumption) ?restr4x16q244
                case hyr4x16q244 => intro wq hSw; (go_simp); (try with_reducible rfl)
                try simp only [Act.put, List.setIfInBounds_toArray, List.set_cons_zero, List.set_cons_succ]
                refine wpAnyH_take (i := 17) (oi := ⟨some 139, .fieldAddr 90 (.tmp 138) 1, 0, "tape.go:205", #[⟨16, .data⟩, ⟨0, .phase⟩, ⟨1, .phase⟩, ⟨2, .phase⟩, ⟨3, .phase⟩, ⟨4, .phase⟩, ⟨5, .phase⟩, ⟨6, .phase⟩, ⟨7, .phase⟩, ⟨8, .phase⟩, ⟨9, .phase⟩, ⟨10, .phase⟩, ⟨11, .phase⟩, ⟨12, .phase⟩, ⟨13, .phase⟩, ⟨14, .phase⟩, ⟨15, .phase⟩], none⟩) (v := ?_) rfl (by kernel_rfl) (by kernel_rfl) (by kernel_rfl) (fun _ _ _ h => h) (Or.inl ⟨by rfl, ?hyr4x17q247⟩) (by assumption) ?restr4x17q247
                case hyr4x17q247 => intro wq hSw; (go_simp); (try with_reducible rfl)
                try simp only [Act.put, List.setIfInBounds_toArray, List.set_cons_zero, List.set_cons_succ]
                refine wpAnyH_ready (rs := [18]) (by kernel_rfl) (by simp) ?_
                refine AllReadyH.cons (o := ⟨none, .store 88 (.tmp 139) (.tmp 137), 0, "tape.go:205", #[⟨17, .data⟩, ⟨15, .data⟩, ⟨15, .chain⟩, ⟨0, .phase⟩, ⟨1, .phase⟩, ⟨2, .phase⟩, ⟨3, .phase⟩, ⟨4, .phase⟩, ⟨5, .phase⟩, ⟨6, .phase⟩, ⟨7, .phase⟩, ⟨8, .phase⟩, ⟨9, .phase⟩, ⟨10, .phase⟩, ⟨11, .phase⟩, ⟨12, .phase⟩, ⟨13, .phase⟩, ⟨14, .phase⟩, ⟨15, .phase⟩], none⟩) rfl (fun K hK => ?_) AllReadyH.nil
                go_simp
                clear pc pf OQ
                refine hK.out _ _ (trivial) (fun hHeld => ?_)
                clear hK K
                try simp only [Act.put, List.setIfInBounds_toArray, List.set_cons_zero, List.set_cons_succ]
                refine wpAnyH_done (by kernel_rfl) ?_ _
                have T : TK (w9.setCell ⟨g, j * 2 + 1, none⟩ (.slice a9 (hn3 + 1) c9)) b := TK.set T (p := ⟨g, j * 2 + 1, none⟩) _ (by show b < g; omega)
                have kk := kk.setNew (p := ⟨g, j * 2 + 1, none⟩) (.slice a9 (hn3 + 1) c9) hg
                have OQ := OQ2
                clear OQ2 own SX
                go_wp2_with fail
                exact ⟨⟨q - 1, _, _, by omega, by first | rfl | rw [hqm], OQ, lk_mono (lk_set (B2 := 17 + (ch - q) + 1) (lk_mono LO.out (Nat.le_refl _) (by omega)) j ⟨cok.out.1, by show (c.2 ++ [(i2, i3)]).length ≤ _; rw [hll]; omega, fun y hy => by rcases List.mem_append.1 hy with h1 | h1; exact cok.out.2.2 y h1; rw [List.mem_singleton.1 h1]; exact ⟨I2, I3⟩⟩) (by omega) (by omega), T, kk⟩, by simp [intOf]; omega⟩
              refine AllReadyH.cons (o := ⟨some 136, .buildSlice 88 1 #[(0, .tmp 135)], 88, "tape.go:205", #[⟨13, .data⟩], none⟩) rfl (fun K hK => ?_) AllReadyH.nil
              · have SX : Sl 2 encS (w6.alloc (.cells #[.int .i64 i2, .int .i64 i3] 74)) (some ⟨w6.heap.size, 0, none⟩) 1 [(i2, i3)] := Sl.lit _ rfl rfl (fun _ => rfl) rfl
                go_simp
                have k8 := Ex.new w6 (.cells #[.int .i64 i2, .int .i64 i3] 74)
                replace OQ := OQ.nx k8
                replace own := own.nx k8
                replace kk := kk.nxb (k8.b b)
                replace T := T.nx k8
                clear k8
                refine hK.out _ _ (trivial) (fun hHeld => ?_)
                clear hK K
                try simp only [Act.put, List.setIfInBounds_toArray, List.set_cons_zero, List.set_cons_succ]
                refine wpAnyH_ready (rs := [6]) (by kernel_rfl) (by simp) ?_
                refine AllReadyH.cons (o := ⟨some 128, .load 88 (.tmp 127), 88, "tape.go:205", #[⟨5, .data⟩], none⟩) rfl (fun K hK => ?_) AllReadyH.nil
                have cq := CE _ OQ
                go_simp
                clear cq
                refine hK.out _ _ (trivial) (fun hHeld => ?_)
                clear hK K
                try simp only [Act.put, List.setIfInBounds_toArray, List.set_cons_zero, List.set_cons_succ]
                refine wpAnyH_ready (rs := [15]) (by kernel_rfl) (by simp) ?_
                refine AllReadyH.cons (o := ⟨some 137, .call { callee := .builtin .append, args := #[.tmp 128, .tmp 136], argTypes := #[88, 88] }, 88, "tape.go:205", #[⟨6, .data⟩, ⟨14, .data⟩, ⟨12, .chain⟩], none⟩) rfl (fun K hK => ?_) AllReadyH.nil
                rw [if_pos (by rfl)]
                have z6 := kk.size
                refine wp_append_rda (enc := encS) _ (.tmp 128) (.tmp 136) 88 rfl w.heap.size 74 (.agg #[.int .i64 0, .int .i64 0]) 2 16 Tryd.underlying88 Tryd.infoLk rfl (by omega) (by omega) _ c.2 own rfl _ _ 1 1 [_] SX (fun h => by cases h) (fun _ => rfl) (by simp [encS, Value.oneCell']) rfl (by rw [← HN3.out]; omega) (by omega) z6 ?_
                intro v9 w9 own9 ch0 ch1 hat
                obtain ⟨a9, c9, rfl, _, _, _, _⟩ := own9.rd (fun _ => rfl)
                obtain ⟨pc, pf, OQ2⟩ := OwnN.put (p := 1) (fun _ => rfl) (by decide) OQ hqj (hd' := (a9, (c.2 ++ [(i2, i3)]).length, c9)) (c' := c.2 ++ [(i2, i3)]) own9 ch0 (hat.imp id (fun h x hx => by have h2 := h.symm.trans hx; cases h2; exact Nat.le_refl _))
                have hll : (c.2 ++ [(i2, i3)]).length = hn3 + 1 := by rw [HN3.out]; simp
                simp only [Hdr.val, hll] at OQ2
                have kk : Exb b w w9 := Chg.trans kk (ch1.mono (fun x hx => hx.1))
                have T := TP.chg T ch1 (fun x hx => by omega)
                clear own9 ch0 ch1 hat
                refine hK.out _ _ (trivial) (fun hHeld => ?_)
                clear hK K
                try simp only [Act.put, List.setIfInBounds_toArray, List.set_cons_zero, List.set_cons_succ]
                refine wpAnyH_take (i := 16) (oi := ⟨some 138, .indexAddr 24 (.tmp 122) (.tmp 123), 0, "tape.go:205", #[⟨0, .data⟩, ⟨1, .data⟩, ⟨0, .phase⟩, ⟨1, .phase⟩, ⟨2, .phase⟩, ⟨3, .phase⟩, ⟨4, .phase⟩, ⟨5, .phase⟩, ⟨6, .phase⟩, ⟨7, .phase⟩, ⟨8, .phase⟩, ⟨9, .phase⟩, ⟨10, .phase⟩, ⟨11, .phase⟩, ⟨12, .phase⟩, ⟨13, .phase⟩, ⟨14, .phase⟩, ⟨15, .phase⟩], none⟩) (v := ?_) rfl (by kernel_rfl) (by kernel_rfl) (by kernel_rfl) (fun _ _ _ h => h) (Or.inl ⟨by rfl, ?hyr4x16q295⟩) (by assumption) ?restr4x16q295
                case hyr4x16q295 => intro wq hSw; (go_simp); (try with_reducible rfl)
                try simp only [Act.put, List.setIfInBounds_toArray, List.set_cons_zero, List.set_cons_succ]
                refine wpAnyH_take (i := 17) (oi := ⟨some 139, .fieldAddr 90 (.tmp 138) 1, 0, "tape.go:205", #[⟨16, .data⟩, ⟨0, .phase⟩, ⟨1, .phase⟩, ⟨2, .phase⟩, ⟨3, .phase⟩, ⟨4, .phase⟩, ⟨5, .phase⟩, ⟨6, .phase⟩, ⟨7, .phase⟩, ⟨8, .phase⟩, ⟨9, .phase⟩, ⟨10, .phase⟩, ⟨11, .phase⟩, ⟨12, .phase⟩, ⟨13, .phase⟩, ⟨14, .phase⟩, ⟨15, .phase⟩], none⟩) (v := ?_) rfl (by kernel_rfl) (by kernel_rfl) (by kernel_rfl) (fun _ _ _ h => h) (Or.inl ⟨by rfl, ?hyr4x17q298⟩) (by assumption) ?restr4x17q298
                case hyr4x17q298 => intro wq hSw; (go_simp); (try with_reducible rfl)
                try simp only [Act.put, List.setIfInBounds_toArray, List.set_cons_zero, List.set_cons_succ]
                refine wpAnyH_ready (rs := [18]) (by kernel_rfl) (by simp) ?_
                refine AllReadyH.cons (o := ⟨none, .store 88 (.tmp 139) (.tmp 137), 0, "tape.go:205", #[⟨17, .data⟩, ⟨15, .data⟩, ⟨15, .chain⟩, ⟨0, .phase⟩, ⟨1, .phase⟩, ⟨2, .phase⟩, ⟨3, .phase⟩, ⟨4, .phase⟩, ⟨5, .phase⟩, ⟨6, .phase⟩, ⟨7, .phase⟩, ⟨8, .phase⟩, ⟨9, .phase⟩, ⟨10, .phase⟩, ⟨11, .phase⟩, ⟨12, .phase⟩, ⟨13, .phase⟩, ⟨14, .phase⟩, ⟨15, .phase⟩], none⟩) rfl (fun K hK => ?_) AllReadyH.nil
                go_simp
                clear pc pf OQ
                refine hK.out _ _ (trivial) (fun hHeld => ?_)
                clear hK K
                try simp only [Act.put, List.setIfInBounds_toArray, List.set_cons_zero, List.set_cons_succ]
                refine wpAnyH_done (by kernel_rfl) ?_ _
                have T : TK (w9.setCell ⟨g, j * 2 + 1, none⟩ (.slice a9 (hn3 + 1) c9)) b := TK.set T (p := ⟨g, j * 2 + 1, none⟩) _ (by show b < g; omega)
                have kk := kk.setNew (p := ⟨g, j * 2 + 1, none⟩) (.slice a9 (hn3 + 1) c9) hg
                have OQ := OQ2
                clear OQ2 own SX
                go_wp2_with fail
                exact ⟨⟨q - 1, _, _, by omega, by first | rfl | rw [hqm], OQ, lk_mono (lk_set (B2 := 17 + (ch - q) + 1) (lk_mono LO.out (Nat.le_refl _) (by omega)) j ⟨cok.out.1, by show (c.2 ++ [(i2, i3)]).length ≤ _; rw [hll]; omega, fun y hy => by rcases List.mem_append.1 hy with h1 | h1; exact cok.out.2.2 y h1; rw [List.mem_singleton.1 h1]; exact ⟨I2, I3⟩⟩) (by omega) (by omega), T, kk⟩, by simp [intOf]; omega⟩
        · have d0 : (r == 0) = false := by simpa using r00
          have d1 : (r == 1) = false := by simpa using r01
          have d2 : (r == 2) = false := by simpa using r02
          have d3 : (r == 3) = false := by simpa using r03
          clear r00 r01 r02 r03 r0 r1
          obtain ⟨a6, c6, e6, r6, hc6, _, some6⟩ := own.rd (fun _ => rfl)
          obtain ⟨rfl, hn3e, rfl⟩ : ha = a6 ∧ hn3 = c.2.length ∧ hcp = c6 := by simpa [Hdr.val] using e6
          have HN3 := Lib.hid hn3e
          have hcl : hn3 ≤ 17 + (ch - q) := by rw [hn3e]; exact cok.out.2.1
          rw [← hn3e] at hc6
          have jw3 : IntKind.i64.wrap ((hn3 : Int) + 1) = (hn3 : Int) + 1 := IntWalk.i64_in _ (by omega)
          clear hn3e
          have SOME6 := Lib.hid some6
          clear e6 r6 some6 jw3
          have CE : ∀ cur : World, OwnLk w.heap.size cur (.slice (some ⟨g, 0, none⟩) L.length cap3) qs L → cur.cell? ⟨g, j * 2 + 1, none⟩ = some (.slice ha hn3 hcp) := fun cur h => by
            have := (OwnW.set1 (sz := 2) (enc := encP encI) (c := 1) (fun _ => rfl) h.1 hqj (by omega)).1
            exact this
          have cq := CE _ OQ
          by_cases hn0 : hn3 = 0
          · have dn : ¬ (0 : Int) < (hn3 : Int) := by omega
            have HN0 := Lib.hid hn0
            clear own hqj hn0
            go_wp2_with fail
            exact ⟨⟨q - 1, qs, L, by omega, by first | rfl | rw [hqm], OQ, lk_mono LO.out (by omega) (by omega), T, kk⟩, by simp [intOf]; omega⟩
          · have dn : (0 : Int) < (hn3 : Int) := by omega
            obtain ⟨gi, rfl, hgi⟩ := SOME6.out (fun h0 => hn0 (by rw [HN3.out, h0]; rfl))
            clear hn0
            go_wp2_with fail
            clear cq
            replace OQ := OQ.nx (Ex.refl w4).drew
            replace own := own.nx (Ex.refl w4).drew
            replace T : TK w4.drew b := T
            replace kk := kk.drew
            refine wp_region_held_drew (S := fun _ => True) (by kernel_rfl) (trivial) (fun hHeld => ?_)
            refine wpAnyH_take (i := 0) (oi := ⟨some 48, .move (.tmp 9), 24, "tape.go:208", #[], none⟩) (v := ?_) rfl (by kernel_rfl) (by kernel_rfl) (by kernel_rfl) (fun _ _ _ h => h) (Or.inl ⟨by rfl, ?hyr5x0q1⟩) (by assumption) ?restr5x0q1
            case hyr5x0q1 => intro wq hSw; (go_simp); (try with_reducible rfl)
            try simp only [Act.put, List.setIfInBounds_toArray, List.set_cons_zero, List.set_cons_succ]
            refine wpAnyH_take (i := 1) (oi := ⟨some 49, .move (.tmp 12), 3, "tape.go:208", #[], none⟩) (v := ?_) rfl (by kernel_rfl) (by kernel_rfl) (by kernel_rfl) (fun _ _ _ h => h) (Or.inl ⟨by rfl, ?hyr5x1q4⟩) (by assumption) ?restr5x1q4
            case hyr5x1q4 => intro wq hSw; (go_simp); (try with_reducible rfl)
            try simp only [Act.put, List.setIfInBounds_toArray, List.set_cons_zero, List.set_cons_succ]
            refine wpAnyH_take (i := 2) (oi := ⟨some 50, .indexAddr 24 (.tmp 48) (.tmp 49), 0, "tape.go:208", #[⟨0, .data⟩, ⟨1, .data⟩], none⟩) (v := ?_) rfl (by kernel_rfl) (by kernel_rfl) (by kernel_rfl) (fun _ _ _ h => h) (Or.inl ⟨by rfl, ?hyr5x2q7⟩) (by assumption) ?restr5x2q7
            case hyr5x2q7 => intro wq hSw; (go_simp); (try with_reducible rfl)
            try simp only [Act.put, List.setIfInBounds_toArray, List.set_cons_zero, List.set_cons_succ]
            refine wpAnyH_take (i := 3) (oi := ⟨some 51, .fieldAddr 90 (.tmp 50) 1, 0, "tape.go:208", #[⟨2, .data⟩], none⟩) (v := ?_) rfl (by kernel_rfl) (by kernel_rfl) (by kernel_rfl) (fun _ _ _ h => h) (Or.inl ⟨by rfl, ?hyr5x3q10⟩) (by assumption) ?restr5x3q10
            case hyr5x3q10 => intro wq hSw; (go_simp); (try with_reducible rfl)
            try simp only [Act.put, List.setIfInBounds_toArray, List.set_cons_zero, List.set_cons_succ]
            refine wpAnyH_take (i := 5) (oi := ⟨some 53, .move (.tmp 0), 25, "tape.go:208", #[], none⟩) (v := ?_) rfl (by kernel_rfl) (by kernel_rfl) (by kernel_rfl) (fun _ _ _ h => h) (Or.inl ⟨by rfl, ?hyr5x5q13⟩) (by assumption) ?restr5x5q13
            case hyr5x5q13 => intro wq hSw; (go_simp); (try with_reducible rfl)
            try simp only [Act.put, List.setIfInBounds_toArray, List.set_cons_zero, List.set_cons_succ]
            refine wpAnyH_take (i := 6) (oi := ⟨some 54, .move (.tmp 13), 3, "tape.go:208", #[], none⟩) (v := ?_) rfl (by kernel_rfl) (by kernel_rfl) (by kernel_rfl) (fun _ _ _ h => h) (Or.inl ⟨by rfl, ?hyr5x6q16⟩) (by assumption) ?restr5x6q16
            case hyr5x6q16 => intro wq hSw; (go_simp); (try with_reducible rfl)
            try simp only [Act.put, List.setIfInBounds_toArray, List.set_cons_zero, List.set_cons_succ]
            refine wpAnyH_ready (rs := [4, 7]) (by kernel_rfl) (by simp) ?_
            refine AllReadyH.cons (o := ⟨some 52, .load 88 (.tmp 51), 88, "tape.go:208", #[⟨3, .data⟩], none⟩) rfl (fun K hK => ?_) ?_
            · have cq := CE _ OQ
              go_simp
              clear cq
              refine hK.out _ _ (trivial) (fun hHeld => ?_)
              clear hK K
              try simp only [Act.put, List.setIfInBounds_toArray, List.set_cons_zero, List.set_cons_succ]
              refine wpAnyH_ready (rs := [7]) (by kernel_rfl) (by simp) ?_
              refine AllReadyH.cons (o := ⟨some 55, .call { callee := .value (.func 17), args := #[.tmp 53, .tmp 54], argTypes := #[25, 3] }, 3, "tape.go:208", #[⟨5, .data⟩, ⟨6, .data⟩], none⟩) rfl (fun K hK => ?_) AllReadyH.nil
              go_simp
              ((with_reducible refine (next_t (hn3 : Int) _ T (by omega) (by omega)).mono ?_))
              clear T
              rintro e w5 ⟨m, rfl, m0, m1, T, k2⟩
              obtain ⟨m, rfl⟩ := Int.eq_ofNat_of_zero_le m0
              replace OQ := OQ.nxb hbw k2
              replace own := own.nxb hbw k2
              replace kk := kk.nxb k2
              clear k2
              have hmc : (m : Int) < (hn3 : Int) := by omega
              refine hK.out _ _ (trivial) (fun hHeld => ?_)
              clear hK K
              try simp only [Act.put, List.setIfInBounds_toArray, List.set_cons_zero, List.set_cons_succ]
              refine wpAnyH_take (i := 8) (oi := ⟨some 56, .indexAddr 88 (.tmp 52) (.tmp 55), 0, "tape.go:208", #[⟨4, .data⟩, ⟨7, .data⟩], none⟩) (v := ?_) rfl (by kernel_rfl) (by kernel_rfl) (by kernel_rfl) (fun _ _ _ h => h) (Or.inl ⟨by rfl, ?hyr5x8q42⟩) (by assumption) ?restr5x8q42
              case hyr5x8q42 => intro wq hSw; (go_simp); (try with_reducible rfl)
              try simp only [Act.put, List.setIfInBounds_toArray, List.set_cons_zero, List.set_cons_succ]
              refine wpAnyH_take (i := 9) (oi := ⟨some 14, .assign (.tmp 56), 91, "tape.go:208", #[⟨8, .data⟩, ⟨7, .chain⟩, ⟨0, .phase⟩, ⟨1, .phase⟩, ⟨2, .phase⟩, ⟨3, .phase⟩, ⟨4, .phase⟩, ⟨5, .phase⟩, ⟨6, .phase⟩, ⟨7, .phase⟩, ⟨8, .phase⟩], none⟩) (v := ?_) rfl (by kernel_rfl) (by kernel_rfl) (by kernel_rfl) (fun _ _ _ h => h) (Or.inl ⟨by rfl, ?hyr5x9q45⟩) (by assumption) ?restr5x9q45
              case hyr5x9q45 => intro wq hSw; (go_simp); (try with_reducible rfl)
              try simp only [Act.put, List.setIfInBounds_toArray, List.set_cons_zero, List.set_cons_succ]
              refine wpAnyH_done (by kernel_rfl) ?_ _
              have hml : m < c.2.length := by rw [← HN3.out]; omega
              obtain ⟨yy, hyy⟩ : ∃ yy, c.2[m]? = some yy := ⟨c.2[m], by simp⟩
              have HYY := Lib.hid hyy
              have yok := Lib.hid (cok.out.2.2 yy (List.mem_of_getElem? hyy))
              clear hyy
              go_wp2_with fail
              refine (bool_t 2 _ T (by omega) (by omega)).mono ?_
              clear T
              rintro e w6 ⟨rr, rfl, T, k2⟩
              replace OQ := OQ.nxb hbw k2
              replace own := own.nxb hbw k2
              replace kk := kk.nxb k2
              clear k2
              cases rr with
              | true =>
                go_wp2_with fail
                refine (id_t _ _ _ _ _ T (HS.out.nxb kk) (by omega) HI.out).mono ?_
                clear T
                rintro e w7 ⟨i2, rfl, I2, T, k2⟩
                replace OQ := OQ.nxb hbw k2
                replace own := own.nxb hbw k2
                replace kk := kk.nxb k2
                obtain ⟨pc, pf, OS⟩ := own_set1 (sz := 2) (enc := encS) (c := 0) (fun _ => rfl) own HYY.out (by omega)
                have OS := Lib.hid (OS (i2, yy.2) (.int .i64 i2) rfl)
                have pc : w7.cell? ⟨gi, m * 2, none⟩ = some (.int .i64 yy.1) := pc
                have pf : w7.frozen? ⟨gi, m * 2, none⟩ = false := pf
                clear k2
                go_wp2_with fail
                have OQ := OwnN.keep (p := 1) (by decide) OQ hqj (c' := c.2.set m (i2, yy.2)) OS.out ((Chg.refl _ w7).setCell _ (fun x hx he => hx.2 (by rw [he]; rfl)))
                have T : TK _ b := TK.set T (p := ⟨gi, m * 2, none⟩) (.int .i64 i2) (by show b < gi; omega)
                have kk := kk.setNew (p := ⟨gi, m * 2, none⟩) (.int .i64 i2) hgi
                exact ⟨⟨q - 1, _, _, by omega, by first | rfl | rw [hqm], OQ, lk_mono (lk_set LO.out j ⟨cok.out.1, by show (c.2.set m (i2, yy.2)).length ≤ _; rw [List.length_set, ← HN3.out]; omega, fun y hy => by rcases List.mem_or_eq_of_mem_set hy with h1 | h1; exact cok.out.2.2 y h1; rw [h1]; exact ⟨I2, yok.out.2⟩⟩) (by omega) (by omega), T, kk⟩, by simp [intOf]; omega⟩
              | false =>
                go_wp2_with fail
                refine (id_t _ _ _ _ _ T (HS.out.nxb kk) (by omega) HI.out).mono ?_
                clear T
                rintro e w7 ⟨i2, rfl, I2, T, k2⟩
                replace OQ := OQ.nxb hbw k2
                replace own := own.nxb hbw k2
                replace kk := kk.nxb k2
                obtain ⟨pc, pf, OS⟩ := own_set1 (sz := 2) (enc := encS) (c := 1) (fun _ => rfl) own HYY.out (by omega)
                have OS := Lib.hid (OS (yy.1, i2) (.int .i64 i2) rfl)
                have pc : w7.cell? ⟨gi, m * 2 + 1, none⟩ = some (.int .i64 yy.2) := pc
                have pf : w7.frozen? ⟨gi, m * 2 + 1, none⟩ = false := pf
                clear k2
                go_wp2_with fail
                have OQ := OwnN.keep (p := 1) (by decide) OQ hqj (c' := c.2.set m (yy.1, i2)) OS.out ((Chg.refl _ w7).setCell _ (fun x hx he => hx.2 (by rw [he]; rfl)))
                have T : TK _ b := TK.set T (p := ⟨gi, m * 2 + 1, none⟩) (.int .i64 i2) (by show b < gi; omega)
                have kk := kk.setNew (p := ⟨gi, m * 2 + 1, none⟩) (.int .i64 i2) hgi
                exact ⟨⟨q - 1, _, _, by omega, by first | rfl | rw [hqm], OQ, lk_mono (lk_set LO.out j ⟨cok.out.1, by show (c.2.set m (yy.1, i2)).length ≤ _; rw [List.length_set, ← HN3.out]; omega, fun y hy => by rcases List.mem_or_eq_of_mem_set hy with h1 | h1; exact cok.out.2.2 y h1; rw [h1]; exact ⟨yok.out.1, I2⟩⟩) (by omega) (by omega), T, kk⟩, by simp [intOf]; omega⟩
            refine AllReadyH.cons (o := ⟨some 55, .call { callee := .value (.func 17), args := #[.tmp 53, .tmp 54], argTypes := #[25, 3] }, 3, "tape.go:208", #[⟨5, .data⟩, ⟨6, .data⟩], none⟩) rfl (fun K hK => ?_) AllReadyH.nil
            · go_simp
              ((with_reducible refine (next_t (hn3 : Int) _ T (by omega) (by omega)).mono ?_))
              clear T
              rintro e w5 ⟨m, rfl, m0, m1, T, k2⟩
              obtain ⟨m, rfl⟩ := Int.eq_ofNat_of_zero_le m0
              replace OQ := OQ.nxb hbw k2
              replace own := own.nxb hbw k2
              replace kk := kk.nxb k2
              clear k2
              have hmc : (m : Int) < (hn3 : Int) := by omega
              refine hK.out _ _ (trivial) (fun hHeld => ?_)
              clear hK K
              try simp only [Act.put, List.setIfInBounds_toArray, List.set_cons_zero, List.set_cons_succ]
              refine wpAnyH_ready (rs := [4]) (by kernel_rfl) (by simp) ?_
              refine AllReadyH.cons (o := ⟨some 52, .load 88 (.tmp 51), 88, "tape.go:208", #[⟨3, .data⟩], none⟩) rfl (fun K hK => ?_) AllReadyH.nil
              have cq := CE _ OQ
              go_simp
              clear cq
              refine hK.out _ _ (trivial) (fun hHeld => ?_)
              clear hK K
              try simp only [Act.put, List.setIfInBounds_toArray, List.set_cons_zero, List.set_cons_succ]
              refine wpAnyH_take (i := 8) (oi := ⟨some 56, .indexAddr 88 (.tmp 52) (.tmp 55), 0, "tape.go:208", #[⟨4, .data⟩, ⟨7, .data⟩], none⟩) (v := ?_) rfl (by kernel_rfl) (by kernel_rfl) (by kernel_rfl) (fun _ _ _ h => h) (Or.inl ⟨by rfl, ?hyr5x8q72⟩) (by assumption) ?restr5x8q72
              case hyr5x8q72 => intro wq hSw; (go_simp); (try with_reducible rfl)
              try simp only [Act.put, List.setIfInBounds_toArray, List.set_cons_zero, List.set_cons_succ]
              refine wpAnyH_take (i := 9) (oi := ⟨some 14, .assign (.tmp 56), 91, "tape.go:208", #[⟨8, .data⟩, ⟨7, .chain⟩, ⟨0, .phase⟩, ⟨1, .phase⟩, ⟨2, .phase⟩, ⟨3, .phase⟩, ⟨4, .phase⟩, ⟨5, .phase⟩, ⟨6, .phase⟩, ⟨7, .phase⟩, ⟨8, .phase⟩], none⟩) (v := ?_) rfl (by kernel_rfl) (by kernel_rfl) (by kernel_rfl) (fun _ _ _ h => h) (Or.inl ⟨by rfl, ?hyr5x9q75⟩) (by assumption) ?restr5x9q75
              case hyr5x9q75 => intro wq hSw; (go_simp); (try with_reducible rfl)
              try simp only [Act.put, List.setIfInBounds_toArray, List.set_cons_zero, List.set_cons_succ]
              refine wpAnyH_done (by kernel_rfl) ?_ _
              have hml : m < c.2.length := by rw [← HN3.out]; omega
              obtain ⟨yy, hyy⟩ : ∃ yy, c.2[m]? = some yy := ⟨c.2[m], by simp⟩
              have HYY := Lib.hid hyy
              have yok := Lib.hid (cok.out.2.2 yy (List.mem_of_getElem? hyy))
              clear hyy
              go_wp2_with fail
              refine (bool_t 2 _ T (by omega) (by omega)).mono ?_
              clear T
              rintro e w6 ⟨rr, rfl, T, k2⟩
              replace OQ := OQ.nxb hbw k2
              replace own := own.nxb hbw k2
              replace kk := kk.nxb k2
              clear k2
              cases rr with
              | true =>
                go_wp2_with fail
                refine (id_t _ _ _ _ _ T (HS.out.nxb kk) (by omega) HI.out).mono ?_
                clear T
                rintro e w7 ⟨i2, rfl, I2, T, k2⟩
                replace OQ := OQ.nxb hbw k2
                replace own := own.nxb hbw k2
                replace kk := kk.nxb k2
                obtain ⟨pc, pf, OS⟩ := own_set1 (sz := 2) (enc := encS) (c := 0) (fun _ => rfl) own HYY.out (by omega)
                have OS := Lib.hid (OS (i2, yy.2) (.int .i64 i2) rfl)
                have pc : w7.cell? ⟨gi, m * 2, none⟩ = some (.int .i64 yy.1) := pc
                have pf : w7.frozen? ⟨gi, m * 2, none⟩ = false := pf
                clear k2
                go_wp2_with fail
                have OQ := OwnN.keep (p := 1) (by decide) OQ hqj (c' := c.2.set m (i2, yy.2)) OS.out ((Chg.refl _ w7).setCell _ (fun x hx he => hx.2 (by rw [he]; rfl)))
                have T : TK _ b := TK.set T (p := ⟨gi, m * 2, none⟩) (.int .i64 i2) (by show b < gi; omega)
                have kk := kk.setNew (p := ⟨gi, m * 2, none⟩) (.int .i64 i2) hgi
                exact ⟨⟨q - 1, _, _, by omega, by first | rfl | rw [hqm], OQ, lk_mono (lk_set LO.out j ⟨cok.out.1, by show (c.2.set m (i2, yy.2)).length ≤ _; rw [List.length_set, ← HN3.out]; omega, fun y hy => by rcases List.mem_or_eq_of_mem_set hy with h1 | h1; exact cok.out.2.2 y h1; rw [h1]; exact ⟨I2, yok.out.2⟩⟩) (by omega) (by omega), T, kk⟩, by simp [intOf]; omega⟩
              | false =>
                go_wp2_with fail
                refine (id_t _ _ _ _ _ T (HS.out.nxb kk) (by omega) HI.out).mono ?_
                clear T
                rintro e w7 ⟨i2, rfl, I2, T, k2⟩
                replace OQ := OQ.nxb hbw k2
                replace own := own.nxb hbw k2
                replace kk := kk.nxb k2
                obtain ⟨pc, pf, OS⟩ := own_set1 (sz := 2) (enc := encS) (c := 1) (fun _ => rfl) own HYY.out (by omega)
                have OS := Lib.hid (OS (yy.1, i2) (.int .i64 i2) rfl)
                have pc : w7.cell? ⟨gi, m * 2 + 1, none⟩ = some (.int .i64 yy.2) := pc
                have pf : w7.frozen? ⟨gi, m * 2 + 1, none⟩ = false := pf
                clear k2
                go_wp2_with fail
                have OQ := OwnN.keep (p := 1) (by decide) OQ hqj (c' := c.2.set m (yy.1, i2)) OS.out ((Chg.refl _ w7).setCell _ (fun x hx he => hx.2 (by rw [he]; rfl)))
                have T : TK _ b := TK.set T (p := ⟨gi, m * 2 + 1, none⟩) (.int .i64 i2) (by show b < gi; omega)
                have kk := kk.setNew (p := ⟨gi, m * 2 + 1, none⟩) (.int .i64 i2) hgi
                exact ⟨⟨q - 1, _, _, by omega, by first | rfl | rw [hqm], OQ, lk_mono (lk_set LO.out j ⟨cok.out.1, by show (c.2.set m (yy.1, i2)).length ≤ _; rw [List.length_set, ← HN3.out]; omega, fun y hy => by rcases List.mem_or_eq_of_mem_set hy with h1 | h1; exact cok.out.2.2 y h1; rw [h1]; exact ⟨yok.out.1, I2⟩⟩) (by omega) (by omega), T, kk⟩, by simp [intOf]; omega⟩
    · have OQ := Lib.hid OQ
      clear NL3 some3
      go_wp2_with fail
      go_ret
      exact ⟨_, qs, L, rfl, OQ.out, lk_mono LO.out (by omega) (by omega), T, kk⟩
end Go.Proofs.YtkjlhcfocefhpaaDoor

/- EncodeLinks of the package wire and of its reference. -/
namespace Go.Proofs.YtkjlhcfocefhpaaDoor
open Go.RowKit

/-- what the encoding asks of the links of a node -/
def LOkE (c : Lkd) : Prop := I64 c.1 ∧ c.2.length ≤ 9223372036854775807 ∧ ∀ y ∈ c.2, I64 y.1 ∧ I64 y.2
def encLv (y : Int × Int) : List UInt8 := encU (zig y.1) ++ encU (zig y.2)
def encLk (c : Lkd) : List UInt8 := encU (zig c.1) ++ encU c.2.length ++ c.2.flatMap encLv
def encLks (L : List Lkd) : List UInt8 × Int := if 64 < L.length then ([], 3) else if L.any (fun c => decide (17 < c.2.length)) then ([], 3) else (encU L.length ++ L.flatMap encLk, 0)
def EncLRel (L : List Lkd) (n : Nat) (w : World) (o i : Value) (wr : World) : Prop :=
  ∃ k : Nat, k ≤ n ∧ i = .int .i64 k ∧ OwnL 1 encB 5 w.heap.size wr o (encU n ++ (L.take k).flatMap encLk) ∧ Ex w wr ∧ ∀ j z, j < k → L[j]? = some z → z.2.length ≤ 17
def EncVRel (c : List (Int × Int)) (b : List UInt8) (n base : Nat) (w : World) (o i : Value) (wr : World) : Prop :=
  ∃ k : Nat, k ≤ n ∧ i = .int .i64 k ∧ OwnL 1 encB 5 base wr o (b ++ (c.take k).flatMap encLv) ∧ Ex w wr
theorem flat_le {α β : Type} {f : α → List β} {m : Nat} : ∀ (l : List α), (∀ y ∈ l, (f y).length ≤ m) → (l.flatMap f).length ≤ m * l.length
  | [], _ => by simp
  | y :: r, h => by
    have h1 := h y (by simp)
    have h2 := flat_le r (fun z hz => h z (List.mem_cons_of_mem _ hz))
    rw [List.flatMap_cons, List.length_append, List.length_cons, Nat.mul_succ]; omega
theorem encLv_le (y : Int × Int) : (encLv y).length ≤ 20 := by
  unfold encLv
  have := encU_length (zig y.1); have := encU_length (zig y.2)
  rw [List.length_append]; omega
theorem enclv_take_le (c : List (Int × Int)) (k : Nat) : ((c.take k).flatMap encLv).length ≤ 20 * k := by
  have := flat_le (f := encLv) (m := 20) (c.take k) (fun y _ => encLv_le y)
  have h2 : (c.take k).length ≤ k := by rw [List.length_take]; omega
  have := Nat.mul_le_mul_left 20 h2
  omega
theorem encl_take_le (L : List Lkd) (k : Nat) (h : ∀ j z, j < k → L[j]? = some z → z.2.length ≤ 17) : ((L.take k).flatMap encLk).length ≤ 400 * k := by
  have := flat_le (f := encLk) (m := 400) (L.take k) (fun c hc => by
    obtain ⟨j, hj, he⟩ := List.mem_iff_getElem.1 hc
    have hjk : j < k := by rw [List.length_take] at hj; omega
    have h17 := h j c hjk (by rw [List.getElem_take] at he; rw [← he]; simp)
    have h1 := encU_length (zig c.1)
    have h2 := encU_length c.2.length
    have h3 := flat_le (f := encLv) (m := 20) c.2 (fun y _ => encLv_le y)
    unfold encLk
    rw [List.length_append, List.length_append]; omega)
  have h2 : (L.take k).length ≤ k := by rw [List.length_take]; omega
  have := Nat.mul_le_mul_left 400 h2
  omega

end Go.Proofs.YtkjlhcfocefhpaaDoor

/- The walk over SearchRoutes (printed by gen_l8.py). -/
namespace Go.Proofs.YtkjlhcfocefhpaaDoor
open Go.RowKit

theorem links4_t {b : Nat} (a : Option Addr) (n cp : Nat) (l : List Nd) (lev : Int) (w : World) (h : TK w b) (hs : Slb 3 encN b w a n l) (hn : n ≤ 100) (hw : ∀ x ∈ l, x.word < 4294967296) (hi : ∀ x ∈ l, I64 x.id) :
    Calls Tryd.prog 16 #[.pointer (some ⟨b, 0, none⟩), .slice a n cp, .int .i64 lev, .int .i64 4] w (LinksPost n 4 b w) := links_t a n cp l lev 4 w h hs hn (by omega) hw hi
theorem route_small (N : List Nd) (L : List Lkd) (frm : Int) (s : ByteArray) : (routeN N L frm s).1.length ≤ 65 := by
  by_cases h : checkN N ≠ 0 ∨ 64 < s.size
  · rw [route_bad h]; simp
  · cases hf : (findN N frm).2 with
    | false => rw [route_unk h hf]; simp
    | true =>
      obtain ⟨m1, m2⟩ := findN_mem hf
      have h0 : checkN N = 0 := by
        by_cases h0 : checkN N = 0
        · exact h0
        · exact absurd (.inl h0) h
      have := (appr_law (L := L) h0 (k := s) (by by_cases hs : 64 < s.size; exact absurd (.inr hs) h; omega) m1).2.1
      have := check_len h0
      rw [← m2]
      omega
set_option maxRecDepth 100000 in
set_option maxHeartbeats 16000000 in
theorem searchroutes_walk (a1 : Option Addr) (n1 c1 : Nat) (l1 : List Int) (a2 : Option Addr) (n2 c2 : Nat) (l2 : List Nd) (a3 : Option Addr) (n3 c3 : Nat) (L3 : List Lkd) (id : Int) (s : ByteArray) (w : World) (h1 : Sl 1 encI w a1 n1 l1) (hc1 : n1 ≤ c1) (hm1 : c1 ≤ maxLen)
    (h2 : Sl 3 encN w a2 n2 l2) (hc2 : n2 ≤ c2) (hm2 : c2 ≤ maxLen) (hw : ∀ x ∈ l2, x.word < 4294967296) (h3 : LkL w a3 n3 L3) (wl : ∀ c ∈ L3, LOkE c) (hT : TabG w) (hL : LetG w) :
    Calls Tryd.prog 3 #[.slice a1 n1 c1, .slice a2 n2 c2, .slice a3 n3 c3, .int .i64 id, .string s] w fun e w' => e = .returned (.bool true) ∧ Ex w w' := by
  have HS3 : Hid (∀ c ∈ L3, c.2.length ≤ 9223372036854775807) := Lib.hid (fun c hc => (wl c hc).2.1)
  clear hw wl
  go_enter Tryd.func3, Tryd.ntmps3
  go_wp2_with fail
  refine (new_t _ _ _ l1 _ h1 hc1 hm1).mono ?_
  rintro e w1 ⟨rfl, T, kk, z1⟩
  obtain ⟨b, hb⟩ : ∃ b, b = w.heap.size := ⟨_, rfl⟩
  rw [← hb] at T ⊢
  have hgt : ¬ 1 = b := by have := hT.lt; omega
  have hgl : ¬ 0 = b := by have := hL.lt; omega
  have T1 : Hid (TabG w1) := Lib.hid (hT.nx kk)
  have L1 : Hid (LetG w1) := Lib.hid (hL.nx kk)
  have QL : Hid (Exl b w w1) := Lib.hid ⟨kk, by omega⟩
  have S1 : Hid (Slb 3 encN b w1 a2 n2 l2) := Lib.hid ((h2.slb (by omega)).nxb (kk.b b))
  have K1 : Hid (LkB b w1 a3 n3 L3) := Lib.hid ((NL.lkb h3 (by omega)).nxb (kk.b b))
  clear h1 h2 h3 hT hL kk hb z1
  go_wp2_with fail
  go_loopw [12] (fun i wr => CtRel b 4 w1 i wr) (fun i _ => 4 - (intOf i).toNat)
  case atStart => exact ⟨0, by omega, rfl, Exb.refl _ _, T⟩
  case round =>
    clear T
    obtain ⟨k, hk, rfl, kw, T⟩ := hrel
    obtain ⟨wo, rfl⟩ : ∃ wo : World, wo = wr := ⟨_, rfl⟩
    by_cases hlt : k < 4
    case neg =>
      obtain rfl : k = 4 := by omega
      have TG := T1.out.nxb hgt kw
      have QX := Lib.hid (QL.out.nxb kw).1
      clear hk hlt kw T
      go_wp2_with fail
      (with_reducible refine (sane8_x _ TG).mono ?_)
      rintro e w9 ⟨rfl, kk⟩
      go_wp2_with fail
      go_ret
      exact ⟨rfl, QX.out.nx kk⟩
    have hbo := T.lt
    go_wp2_with fail
    refine (roster_t 7 _ T (L1.out.nxb hgl kw) hgl (by omega) (by omega)).mono ?_
    clear T
    rintro e x1 ⟨v1, LX, rfl, R⟩
    replace kw := kw.nxb R.k
    have T := R.tape
    obtain ⟨aX, cX, rfl, SX, hcX, hmX, hnX⟩ := R.own.slf (fun _ => rfl)
    have SX := SX.slb hbo
    have RL := R.len
    have RN := Lib.hid (roster_ok R.ok)
    have XW := Lib.hid (fun x hx => (RN.out x hx).1.2.1)
    clear R
    go_wp2_with fail
    refine (next_t 4 _ T (by omega) (by omega)).mono ?_
    clear T
    rintro e x2 ⟨r, rfl, r0, r1, T, kk⟩
    replace kw := kw.nxb kk
    replace SX := SX.nxb kk
    clear kk
    have hb3 := T.lt
    go_wp2_with fail
    refine (links4_t _ _ _ _ r _ T SX (by omega) XW.out (fun x hx => (RN.out x hx).1.1)).mono ?_
    clear T
    rintro e x3 ⟨vL, qs, X, rfl, ownX, okX, T, kk⟩
    replace kw := kw.nxb kk
    replace SX := SX.nxb kk
    clear kk
    have PX := okX.1
    have PX2 : Hid (∀ c ∈ X, c.2.length ≤ 9223372036854775807) := Lib.hid (fun c hc => Nat.le_trans (okX.2 c hc).2.1 (by omega))
    have hnX7 : LX.length ≤ 1000 := by omega
    clear okX r0 r1
    by_cases h2 : k = 2
    · have d0 : ((k : Int) == 2) = true := by simp; omega
      have d1 : ((k : Int) == 3) = false := by simp; omega
      clear h2
      go_wp2_with fail
      refine (bool_t 3 _ T (by omega) (by omega)).mono ?_
      clear T
      rintro e x4 ⟨rB, rfl, T, kk⟩
      replace kw := kw.nxb kk
      replace SX := SX.nxb kk
      replace ownX := ownX.nxb hb3 kk
      clear kk
      cases rB with
      | true =>
        have hb4 := T.lt
        go_wp2_with fail
        refine (oddroster_t _ _ _ _ _ T SX hnX (by omega) (fun x hx => (RN.out x hx).1) (L1.out.nxb hgl kw) hgl).mono ?_
        clear T
        rintro e x5 ⟨vO, LO, rfl, R⟩
        replace kw := kw.nxb R.k
        replace SX := SX.nxb R.k
        replace ownX := ownX.nxb hb3 R.k
        have T := R.tape
        obtain ⟨aO, cO, rfl, SO, hcZ, hmZ, _⟩ := R.own.slf (fun _ => rfl)
        replace SX := SO.slb hb4
        have RO := R.len
        have ZN : Hid (∀ x ∈ LO, NOk x) := Lib.hid R.ok
        have hnZ : LO.length ≤ 1000 := by omega
        clear R SO
        go_wp2_with fail
        refine (id_t _ _ _ _ _ T SX hnZ (fun x hx => (ZN.out x hx).1)).mono ?_
        clear T
        rintro e x6 ⟨rI, rfl, hrI, T, kk⟩
        replace kw := kw.nxb kk
        replace SX := SX.nxb kk
        replace ownX := ownX.nxb hb3 kk
        clear kk
        go_wp2_with fail
        refine (oddkey_t _ T (L1.out.nxb hgl kw) hgl).mono ?_
        clear T
        rintro e x7 ⟨sK, rfl, hsK, T, kk⟩
        replace kw := kw.nxb kk
        replace SX := SX.nxb kk
        replace ownX := ownX.nxb hb3 kk
        clear kk
        have TB := Lib.hid T
        have KW := Lib.hid kw
        have EX := Ex.refl x7
        have TG := T1.out.nxb hgt kw
        have S := SX.sl
        obtain ⟨aP, cP, rfl, LK, _, _, _, _⟩ := OwnN.nl (encA := encI) (encB := encS) (s1 := 2) (s2 := 2) (fun _ => rfl) (fun _ => rfl) ownX
        replace LK := Lib.hid LK
        clear SX ownX T kw
        go_wp2_with fail
        (with_reducible refine (route_p _ _ _ _ _ _ _ _ _ _ _ S hnZ hcZ hmZ LK.out (by omega) PX2.out).mono ?_)
        rintro e y1 ⟨v1, rfl, own, kk⟩
        replace S := S.nx kk
        replace LK := Lib.hid (LK.out.nx kk)
        replace EX := EX.nx kk
        replace TG := TG.nx kk
        clear kk
        obtain ⟨aH, cH, rfl, H, _, _, _⟩ := own.slf (fun _ => rfl)
        have H := H.sl
        clear own
        go_wp2_with fail
        (with_reducible refine (route_r _ _ _ _ _ _ _ _ _ _ _ S hnZ LK.out (by omega) PX2.out).mono ?_)
        rintro e y2 ⟨v2, rfl, own, kk⟩
        replace S := S.nx kk
        replace LK := Lib.hid (LK.out.nx kk)
        replace EX := EX.nx kk
        replace TG := TG.nx kk
        replace H := H.nx kk
        clear kk
        obtain ⟨aJ, cJ, rfl, J, _, _, _⟩ := own.slf (fun _ => rfl)
        have J := J.sl
        obtain ⟨R, hR⟩ : ∃ R, R = routeN LO X rI sK := ⟨_, rfl⟩
        rw [← hR] at H J ⊢
        have hRl := route_small LO X rI sK
        rw [← hR] at hRl
        clear own hR
        clear S LK
        go_wp2_with fail
        (with_reducible refine (sameh_r _ _ _ _ _ _ _ _ _ H J (by omega)).mono ?_)
        rintro e y3 ⟨rfl, kk⟩
        replace EX := EX.nx kk
        replace TG := TG.nx kk
        replace H := H.nx kk
        replace J := J.nx kk
        clear kk
        rw [decide_eq_true (rfl : R.1 = R.1)]
        go_wp2_with fail
        (with_reducible refine (end_p _ _ _ _ _ _ J (by omega)).mono ?_)
        rintro e y4 ⟨rfl, kk⟩
        replace EX := EX.nx kk
        replace TG := TG.nx kk
        replace H := H.nx kk
        replace J := J.nx kk
        clear kk
        go_wp2_with fail
        (with_reducible refine (end_r _ _ _ _ _ _ J (by omega)).mono ?_)
        rintro e y5 ⟨rfl, kk⟩
        replace EX := EX.nx kk
        replace TG := TG.nx kk
        replace H := H.nx kk
        replace J := J.nx kk
        clear kk
        have FIN : Hid (CtRel b 4 w1 (.int .i64 ((k : Int) + 1)) y5) := Lib.hid ⟨k + 1, by omega, by go_num, KW.out.nxb (EX.b b), TB.out.nx EX⟩
        clear H J EX TG
        generalize endN _ _ = eN
        go_wp2_with fail
        exact ⟨FIN.out, by simp [intOf]; omega⟩
      | false =>
        have ZN : Hid (∀ x ∈ LX, NOk x) := Lib.hid (fun x hx => (RN.out x hx).1)
        have hnZ := hnX7
        have hcZ := hcX
        have hmZ := hmX
        go_wp2_with fail
        refine (id_t _ _ _ _ _ T SX hnZ (fun x hx => (ZN.out x hx).1)).mono ?_
        clear T
        rintro e x6 ⟨rI, rfl, hrI, T, kk⟩
        replace kw := kw.nxb kk
        replace SX := SX.nxb kk
        replace ownX := ownX.nxb hb3 kk
        clear kk
        go_wp2_with fail
        refine (oddkey_t _ T (L1.out.nxb hgl kw) hgl).mono ?_
        clear T
        rintro e x7 ⟨sK, rfl, hsK, T, kk⟩
        replace kw := kw.nxb kk
        replace SX := SX.nxb kk
        replace ownX := ownX.nxb hb3 kk
        clear kk
        have TB := Lib.hid T
        have KW := Lib.hid kw
        have EX := Ex.refl x7
        have TG := T1.out.nxb hgt kw
        have S := SX.sl
        obtain ⟨aP, cP, rfl, LK, _, _, _, _⟩ := OwnN.nl (encA := encI) (encB := encS) (s1 := 2) (s2 := 2) (fun _ => rfl) (fun _ => rfl) ownX
        replace LK := Lib.hid LK
        clear SX ownX T kw
        go_wp2_with fail
        (with_reducible refine (route_p _ _ _ _ _ _ _ _ _ _ _ S hnZ hcZ hmZ LK.out (by omega) PX2.out).mono ?_)
        rintro e y1 ⟨v1, rfl, own, kk⟩
        replace S := S.nx kk
        replace LK := Lib.hid (LK.out.nx kk)
        replace EX := EX.nx kk
        replace TG := TG.nx kk
        clear kk
        obtain ⟨aH, cH, rfl, H, _, _, _⟩ := own.slf (fun _ => rfl)
        have H := H.sl
        clear own
        go_wp2_with fail
        (with_reducible refine (route_r _ _ _ _ _ _ _ _ _ _ _ S hnZ LK.out (by omega) PX2.out).mono ?_)
        rintro e y2 ⟨v2, rfl, own, kk⟩
        replace S := S.nx kk
        replace LK := Lib.hid (LK.out.nx kk)
        replace EX := EX.nx kk
        replace TG := TG.nx kk
        replace H := H.nx kk
        clear kk
        obtain ⟨aJ, cJ, rfl, J, _, _, _⟩ := own.slf (fun _ => rfl)
        have J := J.sl
        obtain ⟨R, hR⟩ : ∃ R, R = routeN LX X rI sK := ⟨_, rfl⟩
        rw [← hR] at H J ⊢
        have hRl := route_small LX X rI sK
        rw [← hR] at hRl
        clear own hR
        clear S LK
        go_wp2_with fail
        (with_reducible refine (sameh_r _ _ _ _ _ _ _ _ _ H J (by omega)).mono ?_)
        rintro e y3 ⟨rfl, kk⟩
        replace EX := EX.nx kk
        replace TG := TG.nx kk
        replace H := H.nx kk
        replace J := J.nx kk
        clear kk
        rw [decide_eq_true (rfl : R.1 = R.1)]
        go_wp2_with fail
        (with_reducible refine (end_p _ _ _ _ _ _ J (by omega)).mono ?_)
        rintro e y4 ⟨rfl, kk⟩
        replace EX := EX.nx kk
        replace TG := TG.nx kk
        replace H := H.nx kk
        replace J := J.nx kk
        clear kk
        go_wp2_with fail
        (with_reducible refine (end_r _ _ _ _ _ _ J (by omega)).mono ?_)
        rintro e y5 ⟨rfl, kk⟩
        replace EX := EX.nx kk
        replace TG := TG.nx kk
        replace H := H.nx kk
        replace J := J.nx kk
        clear kk
        have FIN : Hid (CtRel b 4 w1 (.int .i64 ((k : Int) + 1)) y5) := Lib.hid ⟨k + 1, by omega, by go_num, KW.out.nxb (EX.b b), TB.out.nx EX⟩
        clear H J EX TG
        generalize endN _ _ = eN
        go_wp2_with fail
        exact ⟨FIN.out, by simp [intOf]; omega⟩
    · have d0 : ((k : Int) == 2) = false := by simp; omega
      have ZN : Hid (∀ x ∈ LX, NOk x) := Lib.hid (fun x hx => (RN.out x hx).1)
      have hnZ := hnX7
      have hcZ := hcX
      have hmZ := hmX
      go_wp2_with fail
      refine (id_t _ _ _ _ _ T SX hnZ (fun x hx => (ZN.out x hx).1)).mono ?_
      clear T
      rintro e x6 ⟨rI, rfl, hrI, T, kk⟩
      replace kw := kw.nxb kk
      replace SX := SX.nxb kk
      replace ownX := ownX.nxb hb3 kk
      clear kk
      go_wp2_with fail
      refine (oddkey_t _ T (L1.out.nxb hgl kw) hgl).mono ?_
      clear T
      rintro e x7 ⟨sK, rfl, hsK, T, kk⟩
      replace kw := kw.nxb kk
      replace SX := SX.nxb kk
      replace ownX := ownX.nxb hb3 kk
      clear kk
      have TB := Lib.hid T
      have KW := Lib.hid kw
      have EX := Ex.refl x7
      have TG := T1.out.nxb hgt kw
      by_cases h3 : k = 3 ∧ n2 ≤ 20 ∧ n3 ≤ 100
      · have d1 : ((k : Int) == 3) = true := by simp; omega
        have d2 : (n2 : Int) ≤ 20 := by omega
        have d3 : (n3 : Int) ≤ 100 := by omega
        have S := (S1.out.nxb KW.out).sl
        have LK := Lib.hid (K1.out.nxb KW.out).nl
        clear SX ownX T kw h3
        go_wp2_with fail
        (with_reducible refine (route_p _ _ _ _ _ _ _ _ _ _ _ S (by omega) hc2 hm2 LK.out (by omega) HS3.out).mono ?_)
        rintro e y1 ⟨v1, rfl, own, kk⟩
        replace S := S.nx kk
        replace LK := Lib.hid (LK.out.nx kk)
        replace EX := EX.nx kk
        replace TG := TG.nx kk
        clear kk
        obtain ⟨aH, cH, rfl, H, _, _, _⟩ := own.slf (fun _ => rfl)
        have H := H.sl
        clear own
        go_wp2_with fail
        (with_reducible refine (route_r _ _ _ _ _ _ _ _ _ _ _ S (by omega) LK.out (by omega) HS3.out).mono ?_)
        rintro e y2 ⟨v2, rfl, own, kk⟩
        replace S := S.nx kk
        replace LK := Lib.hid (LK.out.nx kk)
        replace EX := EX.nx kk
        replace TG := TG.nx kk
        replace H := H.nx kk
        clear kk
        obtain ⟨aJ, cJ, rfl, J, _, _, _⟩ := own.slf (fun _ => rfl)
        have J := J.sl
        obtain ⟨R, hR⟩ : ∃ R, R = routeN l2 L3 id s := ⟨_, rfl⟩
        rw [← hR] at H J ⊢
        have hRl := route_small l2 L3 id s
        rw [← hR] at hRl
        clear own hR
        clear S LK
        go_wp2_with fail
        (with_reducible refine (sameh_r _ _ _ _ _ _ _ _ _ H J (by omega)).mono ?_)
        rintro e y3 ⟨rfl, kk⟩
        replace EX := EX.nx kk
        replace TG := TG.nx kk
        replace H := H.nx kk
        replace J := J.nx kk
        clear kk
        rw [decide_eq_true (rfl : R.1 = R.1)]
        go_wp2_with fail
        (with_reducible refine (end_p _ _ _ _ _ _ J (by omega)).mono ?_)
        rintro e y4 ⟨rfl, kk⟩
        replace EX := EX.nx kk
        replace TG := TG.nx kk
        replace H := H.nx kk
        replace J := J.nx kk
        clear kk
        go_wp2_with fail
        (with_reducible refine (end_r _ _ _ _ _ _ J (by omega)).mono ?_)
        rintro e y5 ⟨rfl, kk⟩
        replace EX := EX.nx kk
        replace TG := TG.nx kk
        replace H := H.nx kk
        replace J := J.nx kk
        clear kk
        have FIN : Hid (CtRel b 4 w1 (.int .i64 ((k : Int) + 1)) y5) := Lib.hid ⟨k + 1, by omega, by go_num, KW.out.nxb (EX.b b), TB.out.nx EX⟩
        clear H J EX TG
        generalize endN _ _ = eN
        go_wp2_with fail
        exact ⟨FIN.out, by simp [intOf]; omega⟩
      · have HC : Hid (¬ (k = 3 ∧ n2 ≤ 20 ∧ n3 ≤ 100)) := Lib.hid h3
        have S := SX.sl
        obtain ⟨aP, cP, rfl, LK, _, _, _, _⟩ := OwnN.nl (encA := encI) (encB := encS) (s1 := 2) (s2 := 2) (fun _ => rfl) (fun _ => rfl) ownX
        replace LK := Lib.hid LK
        clear SX ownX T kw h3
        by_cases e3 : k = 3
        · have d1 : ((k : Int) == 3) = true := by simp; omega
          replace e3 := Lib.hid e3
          by_cases e2 : n2 ≤ 20
          · have d2 : (n2 : Int) ≤ 20 := by omega
            have d3 : ¬ (n3 : Int) ≤ 100 := by have := HC.out; have := e3.out; omega
            go_wp2_with fail
            (with_reducible refine (route_p _ _ _ _ _ _ _ _ _ _ _ S hnZ hcZ hmZ LK.out (by omega) PX2.out).mono ?_)
            rintro e y1 ⟨v1, rfl, own, kk⟩
            replace S := S.nx kk
            replace LK := Lib.hid (LK.out.nx kk)
            replace EX := EX.nx kk
            replace TG := TG.nx kk
            clear kk
            obtain ⟨aH, cH, rfl, H, _, _, _⟩ := own.slf (fun _ => rfl)
            have H := H.sl
            clear own
            go_wp2_with fail
            (with_reducible refine (route_r _ _ _ _ _ _ _ _ _ _ _ S hnZ LK.out (by omega) PX2.out).mono ?_)
            rintro e y2 ⟨v2, rfl, own, kk⟩
            replace S := S.nx kk
            replace LK := Lib.hid (LK.out.nx kk)
            replace EX := EX.nx kk
            replace TG := TG.nx kk
            replace H := H.nx kk
            clear kk
            obtain ⟨aJ, cJ, rfl, J, _, _, _⟩ := own.slf (fun _ => rfl)
            have J := J.sl
            obtain ⟨R, hR⟩ : ∃ R, R = routeN LX X rI sK := ⟨_, rfl⟩
            rw [← hR] at H J ⊢
            have hRl := route_small LX X rI sK
            rw [← hR] at hRl
            clear own hR
            clear S LK
            go_wp2_with fail
            (with_reducible refine (sameh_r _ _ _ _ _ _ _ _ _ H J (by omega)).mono ?_)
            rintro e y3 ⟨rfl, kk⟩
            replace EX := EX.nx kk
            replace TG := TG.nx kk
            replace H := H.nx kk
            replace J := J.nx kk
            clear kk
            rw [decide_eq_true (rfl : R.1 = R.1)]
            go_wp2_with fail
            (with_reducible refine (end_p _ _ _ _ _ _ J (by omega)).mono ?_)
            rintro e y4 ⟨rfl, kk⟩
            replace EX := EX.nx kk
            replace TG := TG.nx kk
            replace H := H.nx kk
            replace J := J.nx kk
            clear kk
            go_wp2_with fail
            (with_reducible refine (end_r _ _ _ _ _ _ J (by omega)).mono ?_)
            rintro e y5 ⟨rfl, kk⟩
            replace EX := EX.nx kk
            replace TG := TG.nx kk
            replace H := H.nx kk
            replace J := J.nx kk
            clear kk
            have FIN : Hid (CtRel b 4 w1 (.int .i64 ((k : Int) + 1)) y5) := Lib.hid ⟨k + 1, by omega, by go_num, KW.out.nxb (EX.b b), TB.out.nx EX⟩
            clear H J EX TG
            generalize endN _ _ = eN
            go_wp2_with fail
            exact ⟨FIN.out, by simp [intOf]; omega⟩
          · have d2 : ¬ (n2 : Int) ≤ 20 := by omega
            go_wp2_with fail
            (with_reducible refine (route_p _ _ _ _ _ _ _ _ _ _ _ S hnZ hcZ hmZ LK.out (by omega) PX2.out).mono ?_)
            rintro e y1 ⟨v1, rfl, own, kk⟩
            replace S := S.nx kk
            replace LK := Lib.hid (LK.out.nx kk)
            replace EX := EX.nx kk
            replace TG := TG.nx kk
            clear kk
            obtain ⟨aH, cH, rfl, H, _, _, _⟩ := own.slf (fun _ => rfl)
            have H := H.sl
            clear own
            go_wp2_with fail
            (with_reducible refine (route_r _ _ _ _ _ _ _ _ _ _ _ S hnZ LK.out (by omega) PX2.out).mono ?_)
            rintro e y2 ⟨v2, rfl, own, kk⟩
            replace S := S.nx kk
            replace LK := Lib.hid (LK.out.nx kk)
            replace EX := EX.nx kk
            replace TG := TG.nx kk
            replace H := H.nx kk
            clear kk
            obtain ⟨aJ, cJ, rfl, J, _, _, _⟩ := own.slf (fun _ => rfl)
            have J := J.sl
            obtain ⟨R, hR⟩ : ∃ R, R = routeN LX X rI sK := ⟨_, rfl⟩
            rw [← hR] at H J ⊢
            have hRl := route_small LX X rI sK
            rw [← hR] at hRl
            clear own hR
            clear S LK
            go_wp2_with fail
            (with_reducible refine (sameh_r _ _ _ _ _ _ _ _ _ H J (by omega)).mono ?_)
            rintro e y3 ⟨rfl, kk⟩
            replace EX := EX.nx kk
            replace TG := TG.nx kk
            replace H := H.nx kk
            replace J := J.nx kk
            clear kk
            rw [decide_eq_true (rfl : R.1 = R.1)]
            go_wp2_with fail
            (with_reducible refine (end_p _ _ _ _ _ _ J (by omega)).mono ?_)
            rintro e y4 ⟨rfl, kk⟩
            replace EX := EX.nx kk
            replace TG := TG.nx kk
            replace H := H.nx kk
            replace J := J.nx kk
            clear kk
            go_wp2_with fail
            (with_reducible refine (end_r _ _ _ _ _ _ J (by omega)).mono ?_)
            rintro e y5 ⟨rfl, kk⟩
            replace EX := EX.nx kk
            replace TG := TG.nx kk
            replace H := H.nx kk
            replace J := J.nx kk
            clear kk
            have FIN : Hid (CtRel b 4 w1 (.int .i64 ((k : Int) + 1)) y5) := Lib.hid ⟨k + 1, by omega, by go_num, KW.out.nxb (EX.b b), TB.out.nx EX⟩
            clear H J EX TG
            generalize endN _ _ = eN
            go_wp2_with fail
            exact ⟨FIN.out, by simp [intOf]; omega⟩
        · have d1 : ((k : Int) == 3) = false := by simp; omega
          go_wp2_with fail
          (with_reducible refine (route_p _ _ _ _ _ _ _ _ _ _ _ S hnZ hcZ hmZ LK.out (by omega) PX2.out).mono ?_)
          rintro e y1 ⟨v1, rfl, own, kk⟩
          replace S := S.nx kk
          replace LK := Lib.hid (LK.out.nx kk)
          replace EX := EX.nx kk
          replace TG := TG.nx kk
          clear kk
          obtain ⟨aH, cH, rfl, H, _, _, _⟩ := own.slf (fun _ => rfl)
          have H := H.sl
          clear own
          go_wp2_with fail
          (with_reducible refine (route_r _ _ _ _ _ _ _ _ _ _ _ S hnZ LK.out (by omega) PX2.out).mono ?_)
          rintro e y2 ⟨v2, rfl, own, kk⟩
          replace S := S.nx kk
          replace LK := Lib.hid (LK.out.nx kk)
          replace EX := EX.nx kk
          replace TG := TG.nx kk
          replace H := H.nx kk
          clear kk
          obtain ⟨aJ, cJ, rfl, J, _, _, _⟩ := own.slf (fun _ => rfl)
          have J := J.sl
          obtain ⟨R, hR⟩ : ∃ R, R = routeN LX X rI sK := ⟨_, rfl⟩
          rw [← hR] at H J ⊢
          have hRl := route_small LX X rI sK
          rw [← hR] at hRl
          clear own hR
          clear S LK
          go_wp2_with fail
          (with_reducible refine (sameh_r _ _ _ _ _ _ _ _ _ H J (by omega)).mono ?_)
          rintro e y3 ⟨rfl, kk⟩
          replace EX := EX.nx kk
          replace TG := TG.nx kk
          replace H := H.nx kk
          replace J := J.nx kk
          clear kk
          rw [decide_eq_true (rfl : R.1 = R.1)]
          go_wp2_with fail
          (with_reducible refine (end_p _ _ _ _ _ _ J (by omega)).mono ?_)
          rintro e y4 ⟨rfl, kk⟩
          replace EX := EX.nx kk
          replace TG := TG.nx kk
          replace H := H.nx kk
          replace J := J.nx kk
          clear kk
          go_wp2_with fail
          (with_reducible refine (end_r _ _ _ _ _ _ J (by omega)).mono ?_)
          rintro e y5 ⟨rfl, kk⟩
          replace EX := EX.nx kk
          replace TG := TG.nx kk
          replace H := H.nx kk
          replace J := J.nx kk
          clear kk
          have FIN : Hid (CtRel b 4 w1 (.int .i64 ((k : Int) + 1)) y5) := Lib.hid ⟨k + 1, by omega, by go_num, KW.out.nxb (EX.b b), TB.out.nx EX⟩
          clear H J EX TG
          generalize endN _ _ = eN
          go_wp2_with fail
          exact ⟨FIN.out, by simp [intOf]; omega⟩
end Go.Proofs.YtkjlhcfocefhpaaDoor

/- Rosters of at least one node, from the tape. -/
namespace Go.Proofs.YtkjlhcfocefhpaaDoor
open Go.RowKit

theorem check_one {x : Nd} (h1 : 1 ≤ x.id) (h2 : x.id ≤ 2147483647) (h3 : x.key.size ≤ 64) (h4 : x.word < 65536) : checkN [x] = 0 := by
  have hb : badN x = false := by
    unfold badN validN
    simp
    omega
  have hd : dupN [x] = false := by
    cases h : dupN [x] with
    | false => rfl
    | true =>
      obtain ⟨i, k, _, _, hki, hi, _⟩ := (dupN_iff _).1 h
      have := (List.getElem?_eq_some_iff.1 hi).1
      simp at this
      omega
  unfold checkN
  simp [hb, hd]
/-- a roster of at least one node -/
def SomeOf (n b : Nat) (w w' : World) (v : Value) (L : List Nd) : Prop := RosterOf n b w w' v L ∧ 1 ≤ L.length
set_option maxRecDepth 100000 in
set_option maxHeartbeats 1000000 in
theorem some_n {b : Nat} (n : Nat) (w : World) (h : TK w b) (hL : LetG w) (hgb : ¬ 0 = b) (hn0 : 1 ≤ n) (hn : n ≤ 60) :
    Calls Tryd.prog 33 #[.pointer (some ⟨b, 0, none⟩), .int .i64 n] w fun e w' => ∃ v L, e = .returned v ∧ SomeOf n b w w' v L := by
  have hbw := h.lt
  go_enter Tryd.func33, Tryd.ntmps33
  go_wp2_with fail
  refine (roster_t n _ h hL hgb hn0 hn).mono ?_
  rintro e w1 ⟨v1, L, rfl, R⟩
  obtain ⟨A1, C1, rfl, _, _, _, _⟩ := R.own.slf (fun _ => rfl)
  have T := R.tape
  have L1 := hL.nxb hgb R.k
  clear h hL
  by_cases h0 : L.length = 0
  · have d0 : ((L.length : Int) == 0) = true := by rw [h0]; rfl
    have kk := R.k
    clear R
    go_wp2_with fail
    refine (next_t (3 * (n : Int)) _ T (by omega) (by omega)).mono ?_
    clear T
    rintro e w2 ⟨d, rfl, r0, r1, T, k2⟩
    replace L1 := L1.nxb hgb k2
    replace kk := kk.nxb k2
    clear k2
    go_wp2_with fail
    refine (key_t _ T L1 hgb).mono ?_
    clear T
    rintro e w3 ⟨s, rfl, hs, T, k2⟩
    replace kk := kk.nxb k2
    clear k2 L1
    go_wp2_with fail
    refine (word_t _ T).mono ?_
    clear T
    rintro e w4 ⟨m, rfl, hm, T, k2⟩
    replace kk := kk.nxb k2
    clear k2
    have kz := kk.size
    go_wp2_with fail
    go_ret
    refine ⟨_, [⟨1 + d, s, m⟩], rfl, ⟨OwnL.lit [⟨1 + d, s, m⟩] (fun _ => rfl) kz (by unfold maxLen; simp) rfl, by simp; omega, check_one (by simp; omega) (by simp; omega) hs hm, by simpa using hm, T.nx (Ex.new _ _), kk.nxb ((Ex.new _ _).b b)⟩, by simp⟩
  · have d0 : ((L.length : Int) == 0) = false := by rw [beq_eq_false_iff_ne]; omega
    have R := Lib.hid R
    go_wp2_with fail
    go_ret
    exact ⟨_, L, rfl, R.out, by omega⟩
end Go.Proofs.YtkjlhcfocefhpaaDoor
