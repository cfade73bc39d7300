/- Texts for the statement WireRoundTripProof, part 6 of 8: Rdr. -/
import Derived.Test.YtjaemckdfoaopabDoorWireRoundTripProofPk5

/- The readers of the package wire. -/
namespace Go.Proofs.YtjaemckdfoaopabDoor
open Go.RowKit

/-- where a slice may lie -/
def Form (a : Option Addr) (c : Nat) : Prop := (a = none ∧ c = 0) ∨ ∃ x o, a = some ⟨x, o, none⟩
/-- what a reader leaves: the bytes from k on -/
def RdPost (v : Value) (R : List UInt8) (ok : Bool) (a : Option Addr) (w : World) (e : Ending) (w' : World) : Prop :=
  ∃ (a' : Option Addr) (n' c' : Nat), e = .returned (.tuple #[v, .agg #[.slice a' n' c', .bool ok]]) ∧ Sl 1 encB w' a' n' R ∧ n' ≤ c' ∧ c' ≤ maxLen ∧ Form a' c' ∧ (∀ x o, a' = some ⟨x, o, none⟩ → ∃ o', a = some ⟨x, o', none⟩) ∧ Ex w w'
theorem decR_take (R : List UInt8) : (decR R).2.1 ≤ R.length := by
  unfold decR numR
  cases h : decU R with
  | none => simp
  | some r => obtain ⟨n, k⟩ := r; exact (decU_take h).2
theorem decR_lt (R : List UInt8) : (decR R).1 < 18446744073709551616 := by
  unfold decR numR
  cases h : decU R with
  | none => simp
  | some r => obtain ⟨n, k⟩ := r; exact (decU_lt h).1
theorem intR_take (R : List UInt8) : (intR R).2.1 ≤ R.length := by
  unfold intR
  cases h : decU R with
  | none => simp
  | some r => obtain ⟨n, k⟩ := r; exact (decU_take h).2
/-- what a string is read to, with natural numbers -/
def strN (R : List UInt8) (lim : Nat) : ByteArray × Nat × Nat := ((strR R lim).1, (strR R lim).2.1.toNat, (strR R lim).2.2.toNat)
theorem strN_take (R : List UInt8) (lim : Nat) : (strN R lim).2.1 ≤ R.length := by
  unfold strN strR
  cases h : decU R with
  | none => simp
  | some r =>
    obtain ⟨n, k⟩ := r
    have := (decU_take h).2
    simp only
    split
    · simp
    · split
      · simp
      · simp; omega
theorem strR_nat (R : List UInt8) (lim : Nat) : (strR R lim).2.1 = ((strN R lim).2.1 : Int) ∧ (strR R lim).2.2 = ((strN R lim).2.2 : Int) := by
  unfold strN strR
  cases h : decU R with
  | none => simp
  | some r =>
    obtain ⟨n, k⟩ := r
    simp only
    split
    · simp
    · split
      · simp
      · simp; omega
theorem str_pN (a : Option Addr) (n cap : Nat) (b : List UInt8) (lim : Nat) (w : World) (h : Sl 1 encB w a n b) (hn : n ≤ 9223372036854775807) (hcap : n ≤ cap) (hcap2 : cap ≤ maxLen) (hl1 : lim ≤ 1000) :
    Calls Tryd.prog 32 #[.slice a n cap, .int .i64 lim] w fun e w' => e = .returned (.tuple #[.string (strN b lim).1, .int .i64 (strN b lim).2.1, .int .i64 (strN b lim).2.2]) ∧ w = w' := by
  have := string_p a n cap b lim w h hn hcap hcap2 (by omega)
  rw [(strR_nat b lim).1, (strR_nat b lim).2] at this
  exact this
/-- a slice from k on -/
theorem sl_from {w : World} {x o n k : Nat} {R : List UInt8} (h : Sl 1 encB w (some ⟨x, o, none⟩) n R) (hk : k ≤ n) : Sl 1 encB w (some ⟨x, o + k, none⟩) (n - k) (R.drop k) := by
  have := Sl.drop h hk
  rwa [Nat.mul_one] at this
theorem sl_end {w : World} {a a' : Option Addr} {n k : Nat} {R : List UInt8} (h : Sl 1 encB w a n R) (hk : n ≤ k) : Sl 1 encB w a' 0 (R.drop k) := by
  rw [List.drop_of_length_le (by have := h.len; omega)]; exact Sl.nil _ _ _ _
theorem rd_done {v : Value} {R : List UInt8} {ok : Bool} {w w' : World} {a a0 : Option Addr} {n c : Nat} (h : Sl 1 encB w' a n R) (h1 : n ≤ c) (h2 : c ≤ maxLen) (hf : Form a c) (hx : ∀ x o, a = some ⟨x, o, none⟩ → ∃ o', a0 = some ⟨x, o', none⟩) (k : Ex w w') :
    RdPost v R ok a0 w (.returned (.tuple #[v, .agg #[.slice a n c, .bool ok]])) w' := ⟨a, n, c, rfl, h, h1, h2, hf, hx, k⟩

set_option maxRecDepth 100000 in
set_option maxHeartbeats 4000000 in
theorem ruint_p (a : Option Addr) (n c : Nat) (R : List UInt8) (ok : Bool) (lim : Nat) (w : World) (h : Sl 1 encB w a n R) (hn : n ≤ 9223372036854775807) (hc : n ≤ c) (hm : c ≤ maxLen) (hf : Form a c) (hlim : lim < 18446744073709551616) :
    Calls Tryd.prog 27 #[.agg #[.slice a n c, .bool ok], .int .u64 lim] w (RdPost (.int .u64 (decR R).1) (R.drop (decR R).2.1) (ok && ((decR R).2.2 == 0) && decide ((decR R).1 ≤ lim)) a w) := by
  have hlen := h.len
  have hk : (decR R).2.1 ≤ R.length := decR_take R
  rw [hlen] at hk
  have k1 := Ex.new w (.cells #[.slice a n c, .bool ok] 67)
  have B1 := Blk.new w [.slice a n c, .bool ok] 67
  obtain ⟨w1, hw1⟩ : ∃ w1, w1 = w.alloc (.cells #[.slice a n c, .bool ok] 67) := ⟨_, rfl⟩
  obtain ⟨g1, hg1⟩ : ∃ g1, g1 = w.heap.size := ⟨_, rfl⟩
  have B1 : Blk w1 g1 [.slice a n c, .bool ok] 67 := by rw [hw1, hg1]; exact B1
  rw [← hw1] at k1
  have k2 := Ex.new w1 (.cells #[.slice none 0 0, .bool false] 67)
  have B2 := Blk.new w1 [.slice none 0 0, .bool false] 67
  obtain ⟨w2, hw2⟩ : ∃ w2, w2 = w1.alloc (.cells #[.slice none 0 0, .bool false] 67) := ⟨_, rfl⟩
  have hz1 : w1.heap.size = w.heap.size + 1 := by rw [hw1]; simp
  obtain ⟨g2, hg2⟩ : ∃ g2, g2 = w.heap.size + 1 := ⟨_, rfl⟩
  have B2 : Blk w2 g2 [.slice none 0 0, .bool false] 67 := by rw [hw2, hg2, ← hz1]; exact B2
  rw [← hw2] at k2
  have hgg : g1 ≠ g2 := by omega
  have hgw : w.heap.size ≤ g2 := by omega
  replace B1 := B1.nx k2
  have kk := k1.nx k2
  have H2 := h.nx kk
  have HW1 := Lib.hid hw1
  have HG1 := Lib.hid hg1
  have HW2 := Lib.hid hw2
  have HG2 := Lib.hid hg2
  have HF := Lib.hid hf
  have HS := Lib.hid h
  clear hw1 hg1 hw2 hg2 k1 k2 h hf hlen hz1
  have p0 := B1.cell 0 _ rfl
  have p1 := B1.cell 1 _ rfl
  have q0 := B2.cell 0 _ rfl
  have q1 := B2.cell 1 _ rfl
  have z0 := B2.free 0
  have z1 := B2.free 1
  have hgg1 : ¬ g1 = g2 := hgg
  go_enter Tryd.func27, Tryd.ntmps27
  go_upto_region 1 with fail
  rw [← HG2.out, ← HG1.out, ← HW1.out, ← HW2.out]
  go_wp2_with fail
  (with_reducible refine (uint_p _ _ _ _ _ H2 hn).mono ?_)
  rintro e w3 ⟨rfl, rfl⟩
  obtain ⟨⟨N, K, E⟩, hT⟩ : ∃ T, T = decR R := ⟨_, rfl⟩
  rw [← hT] at hk ⊢
  have HT := Lib.hid hT
  simp only at hk ⊢
  clear hT
  have hkI : (K : Int) ≤ (n : Int) := by omega
  have K0 : (0 : Int) ≤ (K : Int) := by omega
  have hkc : (K : Int) ≤ (c : Int) := by omega
  rcases HF.out with ⟨rfl, rfl⟩ | ⟨x, o, rfl⟩
  · obtain rfl : n = 0 := by omega
    obtain rfl : K = 0 := by omega
    cases ok with
    | false =>
      have HB : Hid ((false && (E == 0) && decide (N ≤ lim)) = false) := Lib.hid (by simp [*])
      go_wp2_with fail
      refine wp_region_held_drew (S := Chg (· ≠ g2) w2) (by kernel_rfl) ((Chg.refl _ w2).drew) (fun hHeld => ?_)
      refine wpAnyH_take (i := 0) (oi := { dst := some 16, op := Op.move (Operand.tmp 6), type := 63, pos := "wire.go:70", after := #[], guard := none }) (v := ?_) rfl (by kernel_rfl) (by kernel_rfl) (by kernel_rfl) (fun _ _ _ h => h) (Or.inl ⟨by rfl, ?hyr1x0q1⟩) (by assumption) ?restr1x0q1
      case hyr1x0q1 => intro wq hSw; (go_simp); (try with_reducible rfl)
      try simp only [Act.put, List.setIfInBounds_toArray, List.set_cons_zero, List.set_cons_succ]
      refine wpAnyH_take (i := 1) (oi := { dst := some 17, op := Op.fieldAddr 67 (Operand.tmp 2) 0, type := 0, pos := "wire.go:70", after := #[], guard := none }) (v := ?_) rfl (by kernel_rfl) (by kernel_rfl) (by kernel_rfl) (fun _ _ _ h => h) (Or.inl ⟨by rfl, ?hyr1x1q4⟩) (by assumption) ?restr1x1q4
      case hyr1x1q4 => intro wq hSw; (go_simp); (try with_reducible rfl)
      try simp only [Act.put, List.setIfInBounds_toArray, List.set_cons_zero, List.set_cons_succ]
      refine wpAnyH_take (i := 2) (oi := { dst := some 18, op := Op.load 23 (Operand.tmp 17), type := 23, pos := "wire.go:70", after := #[{ on := 1, ground := Ground.data }], guard := none }) (v := ?_) rfl (by kernel_rfl) (by kernel_rfl) (by kernel_rfl) (fun _ _ _ h => h) (Or.inl ⟨by rfl, ?hyr1x2q7⟩) (by assumption) ?restr1x2q7
      case hyr1x2q7 => intro wq hSw; (have cq := Chg.cellv hSw p0 hgg; go_simp); (try with_reducible rfl)
      try simp only [Act.put, List.setIfInBounds_toArray, List.set_cons_zero, List.set_cons_succ]
      refine wpAnyH_take (i := 3) (oi := { dst := some 19, op := Op.move (Operand.tmp 7), type := 3, pos := "wire.go:70", after := #[], guard := none }) (v := ?_) rfl (by kernel_rfl) (by kernel_rfl) (by kernel_rfl) (fun _ _ _ h => h) (Or.inl ⟨by rfl, ?hyr1x3q10⟩) (by assumption) ?restr1x3q10
      case hyr1x3q10 => intro wq hSw; (go_simp); (try with_reducible rfl)
      try simp only [Act.put, List.setIfInBounds_toArray, List.set_cons_zero, List.set_cons_succ]
      refine wpAnyH_take (i := 4) (oi := { dst := some 20, op := Op.slice 23 (Operand.tmp 18) (some (Operand.tmp 19)) none none, type := 23, pos := "wire.go:70", after := #[{ on := 2, ground := Ground.data }, { on := 3, ground := Ground.data }], guard := none }) (v := ?_) rfl (by kernel_rfl) (by kernel_rfl) (by kernel_rfl) (fun _ _ _ h => h) (Or.inl ⟨by rfl, ?hyr1x4q13⟩) (by assumption) ?restr1x4q13
      case hyr1x4q13 => intro wq hSw; (go_simp); (try with_reducible rfl)
      try simp only [Act.put, List.setIfInBounds_toArray, List.set_cons_zero, List.set_cons_succ]
      refine wpAnyH_take (i := 5) (oi := { dst := some 21, op := Op.fieldAddr 67 (Operand.tmp 2) 1, type := 0, pos := "wire.go:70", after := #[], guard := none }) (v := ?_) rfl (by kernel_rfl) (by kernel_rfl) (by kernel_rfl) (fun _ _ _ h => h) (Or.inl ⟨by rfl, ?hyr1x5q16⟩) (by assumption) ?restr1x5q16
      case hyr1x5q16 => intro wq hSw; (go_simp); (try with_reducible rfl)
      try simp only [Act.put, List.setIfInBounds_toArray, List.set_cons_zero, List.set_cons_succ]
      refine wpAnyH_take (i := 6) (oi := { dst := some 22, op := Op.load 4 (Operand.tmp 21), type := 4, pos := "wire.go:70", after := #[{ on := 5, ground := Ground.data }], guard := none }) (v := ?_) rfl (by kernel_rfl) (by kernel_rfl) (by kernel_rfl) (fun _ _ _ h => h) (Or.inl ⟨by rfl, ?hyr1x6q19⟩) (by assumption) ?restr1x6q19
      case hyr1x6q19 => intro wq hSw; (have cq := Chg.cellv hSw p1 hgg; go_simp); (try with_reducible rfl)
      try simp only [Act.put, List.setIfInBounds_toArray, List.set_cons_zero, List.set_cons_succ]
      refine wpAnyH_take (i := 7) (oi := { dst := some 23, op := Op.move (Operand.tmp 22), type := 4, pos := "wire.go:70", after := #[{ on := 6, ground := Ground.data }], guard := none }) (v := ?_) rfl (by kernel_rfl) (by kernel_rfl) (by kernel_rfl) (fun _ _ _ h => h) (Or.inl ⟨by rfl, ?hyr1x7q22⟩) (by assumption) ?restr1x7q22
      case hyr1x7q22 => intro wq hSw; (go_simp); (try with_reducible rfl)
      try simp only [Act.put, List.setIfInBounds_toArray, List.set_cons_zero, List.set_cons_succ]
      refine wpAnyH_take (i := 8) (oi := { dst := some 24, op := Op.move (Operand.tmp 8), type := 31, pos := "wire.go:70", after := #[{ on := 7, ground := Ground.guard }], guard := some (7, true) }) (v := undef) rfl (by kernel_rfl) (by kernel_rfl) (by kernel_rfl) (fun _ _ _ h => h) (Or.inr ⟨by rfl, rfl⟩) (by assumption) ?_
      try simp only [Act.put, List.setIfInBounds_toArray, List.set_cons_zero, List.set_cons_succ]
      refine wpAnyH_take (i := 9) (oi := { dst := some 25, op := Op.binOp BinOp.eql 31 (Operand.tmp 24) (Operand.const (Value.int IntKind.i64 0)) 31, type := 4, pos := "wire.go:70", after := #[{ on := 8, ground := Ground.data }, { on := 7, ground := Ground.guard }], guard := some (7, true) }) (v := undef) rfl (by kernel_rfl) (by kernel_rfl) (by kernel_rfl) (fun _ _ _ h => h) (Or.inr ⟨by rfl, rfl⟩) (by assumption) ?_
      try simp only [Act.put, List.setIfInBounds_toArray, List.set_cons_zero, List.set_cons_succ]
      refine wpAnyH_take (i := 10) (oi := { dst := some 26, op := Op.pick (Operand.tmp 23) (Operand.tmp 25) (Operand.const (Value.bool false)), type := 4, pos := "wire.go:70", after := #[{ on := 7, ground := Ground.data }, { on := 9, ground := Ground.data }], guard := none }) (v := ?_) rfl (by kernel_rfl) (by kernel_rfl) (by kernel_rfl) (fun _ _ _ h => h) (Or.inl ⟨by rfl, ?hyr1x10q29⟩) (by assumption) ?restr1x10q29
      case hyr1x10q29 => intro wq hSw; (go_simp); (try with_reducible rfl)
      try simp only [Act.put, List.setIfInBounds_toArray, List.set_cons_zero, List.set_cons_succ]
      refine wpAnyH_take (i := 11) (oi := { dst := some 27, op := Op.move (Operand.tmp 26), type := 4, pos := "wire.go:70", after := #[{ on := 10, ground := Ground.data }, { on := 7, ground := Ground.chain }], guard := none }) (v := ?_) rfl (by kernel_rfl) (by kernel_rfl) (by kernel_rfl) (fun _ _ _ h => h) (Or.inl ⟨by rfl, ?hyr1x11q32⟩) (by assumption) ?restr1x11q32
      case hyr1x11q32 => intro wq hSw; (go_simp); (try with_reducible rfl)
      try simp only [Act.put, List.setIfInBounds_toArray, List.set_cons_zero, List.set_cons_succ]
      refine wpAnyH_take (i := 12) (oi := { dst := some 28, op := Op.move (Operand.tmp 6), type := 63, pos := "wire.go:70", after := #[{ on := 11, ground := Ground.guard }, { on := 17, ground := Ground.gcOnly Departure.lateStores }], guard := some (11, true) }) (v := undef) rfl (by kernel_rfl) (by kernel_rfl) (by kernel_rfl) (fun _ _ _ h => h) (Or.inr ⟨by rfl, rfl⟩) (by assumption) ?_
      try simp only [Act.put, List.setIfInBounds_toArray, List.set_cons_zero, List.set_cons_succ]
      refine wpAnyH_take (i := 13) (oi := { dst := some 29, op := Op.move (Operand.tmp 1), type := 63, pos := "wire.go:70", after := #[{ on := 11, ground := Ground.guard }, { on := 17, ground := Ground.gcOnly Departure.lateStores }], guard := some (11, true) }) (v := undef) rfl (by kernel_rfl) (by kernel_rfl) (by kernel_rfl) (fun _ _ _ h => h) (Or.inr ⟨by rfl, rfl⟩) (by assumption) ?_
      try simp only [Act.put, List.setIfInBounds_toArray, List.set_cons_zero, List.set_cons_succ]
      refine wpAnyH_take (i := 14) (oi := { dst := some 30, op := Op.binOp BinOp.leq 63 (Operand.tmp 28) (Operand.tmp 29) 63, type := 4, pos := "wire.go:70", after := #[{ on := 12, ground := Ground.data }, { on := 13, ground := Ground.data }, { on := 11, ground := Ground.guard }, { on := 17, ground := Ground.gcOnly Departure.lateStores }], guard := some (11, true) }) (v := undef) rfl (by kernel_rfl) (by kernel_rfl) (by kernel_rfl) (fun _ _ _ h => h) (Or.inr ⟨by rfl, rfl⟩) (by assumption) ?_
      try simp only [Act.put, List.setIfInBounds_toArray, List.set_cons_zero, List.set_cons_succ]
      refine wpAnyH_take (i := 15) (oi := { dst := some 31, op := Op.pick (Operand.tmp 27) (Operand.tmp 30) (Operand.const (Value.bool false)), type := 4, pos := "wire.go:70", after := #[{ on := 11, ground := Ground.data }, { on := 14, ground := Ground.data }, { on := 17, ground := Ground.gcOnly Departure.lateStores }], guard := none }) (v := ?_) rfl (by kernel_rfl) (by kernel_rfl) (by kernel_rfl) (fun _ _ _ h => h) (Or.inl ⟨by rfl, ?hyr1x15q41⟩) (by assumption) ?restr1x15q41
      case hyr1x15q41 => intro wq hSw; (go_simp); (try with_reducible rfl)
      try simp only [Act.put, List.setIfInBounds_toArray, List.set_cons_zero, List.set_cons_succ]
      refine wpAnyH_take (i := 16) (oi := { dst := some 32, op := Op.build 67 #[(0, Operand.tmp 20), (1, Operand.tmp 31)], type := 67, pos := "wire.go:70", after := #[{ on := 4, ground := Ground.data }, { on := 15, ground := Ground.data }, { on := 17, ground := Ground.gcOnly Departure.lateStores }], guard := none }) (v := ?_) rfl (by kernel_rfl) (by kernel_rfl) (by kernel_rfl) (fun _ _ _ h => h) (Or.inl ⟨by rfl, ?hyr1x16q44⟩) (by assumption) ?restr1x16q44
      case hyr1x16q44 => intro wq hSw; (go_simp); (try with_reducible rfl)
      try simp only [Act.put, List.setIfInBounds_toArray, List.set_cons_zero, List.set_cons_succ]
      refine wpAnyH_take (i := 17) (oi := { dst := some 4, op := Op.assign (Operand.tmp 16), type := 63, pos := "wire.go:70", after := #[{ on := 0, ground := Ground.data }, { on := 11, ground := Ground.chain }, { on := 0, ground := Ground.phase }, { on := 1, ground := Ground.textOnly Departure.lateStores }, { on := 2, ground := Ground.textOnly Departure.lateStores }, { on := 3, ground := Ground.textOnly Departure.lateStores }, { on := 4, ground := Ground.textOnly Departure.lateStoresUnsure }, { on := 5, ground := Ground.textOnly Departure.lateStores }, { on := 6, ground := Ground.textOnly Departure.lateStores }, { on := 7, ground := Ground.textOnly Departure.lateStores }, { on := 8, ground := Ground.textOnly Departure.lateStores }, { on := 9, ground := Ground.textOnly Departure.lateStores }, { on := 10, ground := Ground.textOnly Departure.lateStores }, { on := 11, ground := Ground.textOnly Departure.lateStores }, { on := 12, ground := Ground.textOnly Departure.lateStores }, { on := 13, ground := Ground.textOnly Departure.lateStores }, { on := 14, ground := Ground.textOnly Departure.lateStores }, { on := 15, ground := Ground.textOnly Departure.lateStores }, { on := 16, ground := Ground.textOnly Departure.lateStores }], guard := none }) (v := ?_) rfl (by kernel_rfl) (by kernel_rfl) (by kernel_rfl) (fun _ _ _ h => h) (Or.inl ⟨by rfl, ?hyr1x17q47⟩) (by assumption) ?restr1x17q47
      case hyr1x17q47 => intro wq hSw; (go_simp); (try with_reducible rfl)
      try simp only [Act.put, List.setIfInBounds_toArray, List.set_cons_zero, List.set_cons_succ]
      refine wpAnyH_ready (rs := [18]) (by kernel_rfl) (by simp) ?_
      refine AllReadyH.cons (o := { dst := none, op := Op.store 67 (Operand.tmp 5) (Operand.tmp 32), type := 0, pos := "wire.go:70", after := #[{ on := 16, ground := Ground.data }, { on := 17, ground := Ground.chain }, { on := 0, ground := Ground.phase }, { on := 1, ground := Ground.phase }, { on := 2, ground := Ground.phase }, { on := 3, ground := Ground.phase }, { on := 4, ground := Ground.phase }, { on := 5, ground := Ground.phase }, { on := 6, ground := Ground.phase }, { on := 7, ground := Ground.phase }, { on := 8, ground := Ground.phase }, { on := 9, ground := Ground.phase }, { on := 10, ground := Ground.phase }, { on := 11, ground := Ground.phase }, { on := 12, ground := Ground.phase }, { on := 13, ground := Ground.phase }, { on := 14, ground := Ground.phase }, { on := 15, ground := Ground.phase }, { on := 16, ground := Ground.phase }, { on := 17, ground := Ground.phase }], guard := none }) rfl (fun K hK => ?_) AllReadyH.nil
      go_simp
      refine hK.out _ _ ((Chg.setCell (Chg.setCell hHeld _ (fun x hx => hx)) _ (fun x hx => hx))) (fun hHeld => ?_)
      clear hK K
      try simp only [Act.put, List.setIfInBounds_toArray, List.set_cons_zero, List.set_cons_succ]
      refine wpAnyH_done (by kernel_rfl) ?_ _
      go_wp2_with fail
      refine bodyPost_ret (v := .tuple #[.int .u64 N, .agg #[.slice none (0) (0), .bool false]]) (by simp [results, Tryd.results27, go_sem, *]) rfl ?_
      rw [← HT.out]
      simp only []
      rw [HB.out]
      have k9 := ((kk.setNew (p := ⟨g2, 0, none⟩) (.slice none (0) (0)) hgw).setNew (p := ⟨g2, 1, none⟩) (.bool false) hgw).drew
      exact rd_done (by rw [List.drop_zero]; exact HS.out.nx k9) (by omega) (by omega) (.inl ⟨rfl, rfl⟩) (fun x' o' hx' => by cases hx' <;> exact ⟨_, rfl⟩) k9
    | true =>
      by_cases hE : E = 0
      · subst hE
        by_cases hl : N ≤ lim
        · have hlI : (N : Int) ≤ (lim : Int) := by omega
          have HB : Hid ((true && ((0 : Nat) == 0) && decide (N ≤ lim)) = true) := Lib.hid (by simp [*])
          go_wp2_with fail
          refine wp_region_held_drew (S := Chg (· ≠ g2) w2) (by kernel_rfl) ((Chg.refl _ w2).drew) (fun hHeld => ?_)
          refine wpAnyH_take (i := 0) (oi := { dst := some 16, op := Op.move (Operand.tmp 6), type := 63, pos := "wire.go:70", after := #[], guard := none }) (v := ?_) rfl (by kernel_rfl) (by kernel_rfl) (by kernel_rfl) (fun _ _ _ h => h) (Or.inl ⟨by rfl, ?hyr2x0q1⟩) (by assumption) ?restr2x0q1
          case hyr2x0q1 => intro wq hSw; (go_simp); (try with_reducible rfl)
          try simp only [Act.put, List.setIfInBounds_toArray, List.set_cons_zero, List.set_cons_succ]
          refine wpAnyH_take (i := 1) (oi := { dst := some 17, op := Op.fieldAddr 67 (Operand.tmp 2) 0, type := 0, pos := "wire.go:70", after := #[], guard := none }) (v := ?_) rfl (by kernel_rfl) (by kernel_rfl) (by kernel_rfl) (fun _ _ _ h => h) (Or.inl ⟨by rfl, ?hyr2x1q4⟩) (by assumption) ?restr2x1q4
          case hyr2x1q4 => intro wq hSw; (go_simp); (try with_reducible rfl)
          try simp only [Act.put, List.setIfInBounds_toArray, List.set_cons_zero, List.set_cons_succ]
          refine wpAnyH_take (i := 2) (oi := { dst := some 18, op := Op.load 23 (Operand.tmp 17), type := 23, pos := "wire.go:70", after := #[{ on := 1, ground := Ground.data }], guard := none }) (v := ?_) rfl (by kernel_rfl) (by kernel_rfl) (by kernel_rfl) (fun _ _ _ h => h) (Or.inl ⟨by rfl, ?hyr2x2q7⟩) (by assumption) ?restr2x2q7
          case hyr2x2q7 => intro wq hSw; (have cq := Chg.cellv hSw p0 hgg; go_simp); (try with_reducible rfl)
          try simp only [Act.put, List.setIfInBounds_toArray, List.set_cons_zero, List.set_cons_succ]
          refine wpAnyH_take (i := 3) (oi := { dst := some 19, op := Op.move (Operand.tmp 7), type := 3, pos := "wire.go:70", after := #[], guard := none }) (v := ?_) rfl (by kernel_rfl) (by kernel_rfl) (by kernel_rfl) (fun _ _ _ h => h) (Or.inl ⟨by rfl, ?hyr2x3q10⟩) (by assumption) ?restr2x3q10
          case hyr2x3q10 => intro wq hSw; (go_simp); (try with_reducible rfl)
          try simp only [Act.put, List.setIfInBounds_toArray, List.set_cons_zero, List.set_cons_succ]
          refine wpAnyH_take (i := 4) (oi := { dst := some 20, op := Op.slice 23 (Operand.tmp 18) (some (Operand.tmp 19)) none none, type := 23, pos := "wire.go:70", after := #[{ on := 2, ground := Ground.data }, { on := 3, ground := Ground.data }], guard := none }) (v := ?_) rfl (by kernel_rfl) (by kernel_rfl) (by kernel_rfl) (fun _ _ _ h => h) (Or.inl ⟨by rfl, ?hyr2x4q13⟩) (by assumption) ?restr2x4q13
          case hyr2x4q13 => intro wq hSw; (go_simp); (try with_reducible rfl)
          try simp only [Act.put, List.setIfInBounds_toArray, List.set_cons_zero, List.set_cons_succ]
          refine wpAnyH_take (i := 5) (oi := { dst := some 21, op := Op.fieldAddr 67 (Operand.tmp 2) 1, type := 0, pos := "wire.go:70", after := #[], guard := none }) (v := ?_) rfl (by kernel_rfl) (by kernel_rfl) (by kernel_rfl) (fun _ _ _ h => h) (Or.inl ⟨by rfl, ?hyr2x5q16⟩) (by assumption) ?restr2x5q16
          case hyr2x5q16 => intro wq hSw; (go_simp); (try with_reducible rfl)
          try simp only [Act.put, List.setIfInBounds_toArray, List.set_cons_zero, List.set_cons_succ]
          refine wpAnyH_take (i := 6) (oi := { dst := some 22, op := Op.load 4 (Operand.tmp 21), type := 4, pos := "wire.go:70", after := #[{ on := 5, ground := Ground.data }], guard := none }) (v := ?_) rfl (by kernel_rfl) (by kernel_rfl) (by kernel_rfl) (fun _ _ _ h => h) (Or.inl ⟨by rfl, ?hyr2x6q19⟩) (by assumption) ?restr2x6q19
          case hyr2x6q19 => intro wq hSw; (have cq := Chg.cellv hSw p1 hgg; go_simp); (try with_reducible rfl)
          try simp only [Act.put, List.setIfInBounds_toArray, List.set_cons_zero, List.set_cons_succ]
          refine wpAnyH_take (i := 7) (oi := { dst := some 23, op := Op.move (Operand.tmp 22), type := 4, pos := "wire.go:70", after := #[{ on := 6, ground := Ground.data }], guard := none }) (v := ?_) rfl (by kernel_rfl) (by kernel_rfl) (by kernel_rfl) (fun _ _ _ h => h) (Or.inl ⟨by rfl, ?hyr2x7q22⟩) (by assumption) ?restr2x7q22
          case hyr2x7q22 => intro wq hSw; (go_simp); (try with_reducible rfl)
          try simp only [Act.put, List.setIfInBounds_toArray, List.set_cons_zero, List.set_cons_succ]
          refine wpAnyH_take (i := 8) (oi := { dst := some 24, op := Op.move (Operand.tmp 8), type := 31, pos := "wire.go:70", after := #[{ on := 7, ground := Ground.guard }], guard := some (7, true) }) (v := ?_) rfl (by kernel_rfl) (by kernel_rfl) (by kernel_rfl) (fun _ _ _ h => h) (Or.inl ⟨by rfl, ?hyr2x8q25⟩) (by assumption) ?restr2x8q25
          case hyr2x8q25 => intro wq hSw; (go_simp); (try with_reducible rfl)
          try simp only [Act.put, List.setIfInBounds_toArray, List.set_cons_zero, List.set_cons_succ]
          refine wpAnyH_take (i := 9) (oi := { dst := some 25, op := Op.binOp BinOp.eql 31 (Operand.tmp 24) (Operand.const (Value.int IntKind.i64 0)) 31, type := 4, pos := "wire.go:70", after := #[{ on := 8, ground := Ground.data }, { on := 7, ground := Ground.guard }], guard := some (7, true) }) (v := ?_) rfl (by kernel_rfl) (by kernel_rfl) (by kernel_rfl) (fun _ _ _ h => h) (Or.inl ⟨by rfl, ?hyr2x9q28⟩) (by assumption) ?restr2x9q28
          case hyr2x9q28 => intro wq hSw; (go_simp); (try with_reducible rfl)
          try simp only [Act.put, List.setIfInBounds_toArray, List.set_cons_zero, List.set_cons_succ]
          refine wpAnyH_take (i := 10) (oi := { dst := some 26, op := Op.pick (Operand.tmp 23) (Operand.tmp 25) (Operand.const (Value.bool false)), type := 4, pos := "wire.go:70", after := #[{ on := 7, ground := Ground.data }, { on := 9, ground := Ground.data }], guard := none }) (v := ?_) rfl (by kernel_rfl) (by kernel_rfl) (by kernel_rfl) (fun _ _ _ h => h) (Or.inl ⟨by rfl, ?hyr2x10q31⟩) (by assumption) ?restr2x10q31
          case hyr2x10q31 => intro wq hSw; (go_simp); (try with_reducible rfl)
          try simp only [Act.put, List.setIfInBounds_toArray, List.set_cons_zero, List.set_cons_succ]
          refine wpAnyH_take (i := 11) (oi := { dst := some 27, op := Op.move (Operand.tmp 26), type := 4, pos := "wire.go:70", after := #[{ on := 10, ground := Ground.data }, { on := 7, ground := Ground.chain }], guard := none }) (v := ?_) rfl (by kernel_rfl) (by kernel_rfl) (by kernel_rfl) (fun _ _ _ h => h) (Or.inl ⟨by rfl, ?hyr2x11q34⟩) (by assumption) ?restr2x11q34
          case hyr2x11q34 => intro wq hSw; (go_simp); (try with_reducible rfl)
          try simp only [Act.put, List.setIfInBounds_toArray, List.set_cons_zero, List.set_cons_succ]
          refine wpAnyH_take (i := 12) (oi := { dst := some 28, op := Op.move (Operand.tmp 6), type := 63, pos := "wire.go:70", after := #[{ on := 11, ground := Ground.guard }, { on := 17, ground := Ground.gcOnly Departure.lateStores }], guard := some (11, true) }) (v := ?_) rfl (by kernel_rfl) (by kernel_rfl) (by kernel_rfl) (fun _ _ _ h => h) (Or.inl ⟨by rfl, ?hyr2x12q37⟩) (by assumption) ?restr2x12q37
          case hyr2x12q37 => intro wq hSw; (go_simp); (try with_reducible rfl)
          try simp only [Act.put, List.setIfInBounds_toArray, List.set_cons_zero, List.set_cons_succ]
          refine wpAnyH_take (i := 13) (oi := { dst := some 29, op := Op.move (Operand.tmp 1), type := 63, pos := "wire.go:70", after := #[{ on := 11, ground := Ground.guard }, { on := 17, ground := Ground.gcOnly Departure.lateStores }], guard := some (11, true) }) (v := ?_) rfl (by kernel_rfl) (by kernel_rfl) (by kernel_rfl) (fun _ _ _ h => h) (Or.inl ⟨by rfl, ?hyr2x13q40⟩) (by assumption) ?restr2x13q40
          case hyr2x13q40 => intro wq hSw; (go_simp); (try with_reducible rfl)
          try simp only [Act.put, List.setIfInBounds_toArray, List.set_cons_zero, List.set_cons_succ]
          refine wpAnyH_take (i := 14) (oi := { dst := some 30, op := Op.binOp BinOp.leq 63 (Operand.tmp 28) (Operand.tmp 29) 63, type := 4, pos := "wire.go:70", after := #[{ on := 12, ground := Ground.data }, { on := 13, ground := Ground.data }, { on := 11, ground := Ground.guard }, { on := 17, ground := Ground.gcOnly Departure.lateStores }], guard := some (11, true) }) (v := ?_) rfl (by kernel_rfl) (by kernel_rfl) (by kernel_rfl) (fun _ _ _ h => h) (Or.inl ⟨by rfl, ?hyr2x14q43⟩) (by assumption) ?restr2x14q43
          case hyr2x14q43 => intro wq hSw; (go_simp); (try with_reducible rfl)
          try simp only [Act.put, List.setIfInBounds_toArray, List.set_cons_zero, List.set_cons_succ]
          refine wpAnyH_take (i := 15) (oi := { dst := some 31, op := Op.pick (Operand.tmp 27) (Operand.tmp 30) (Operand.const (Value.bool false)), type := 4, pos := "wire.go:70", after := #[{ on := 11, ground := Ground.data }, { on := 14, ground := Ground.data }, { on := 17, ground := Ground.gcOnly Departure.lateStores }], guard := none }) (v := ?_) rfl (by kernel_rfl) (by kernel_rfl) (by kernel_rfl) (fun _ _ _ h => h) (Or.inl ⟨by rfl, ?hyr2x15q46⟩) (by assumption) ?restr2x15q46
          case hyr2x15q46 => intro wq hSw; (go_simp); (try with_reducible rfl)
          try simp only [Act.put, List.setIfInBounds_toArray, List.set_cons_zero, List.set_cons_succ]
          refine wpAnyH_take (i := 16) (oi := { dst := some 32, op := Op.build 67 #[(0, Operand.tmp 20), (1, Operand.tmp 31)], type := 67, pos := "wire.go:70", after := #[{ on := 4, ground := Ground.data }, { on := 15, ground := Ground.data }, { on := 17, ground := Ground.gcOnly Departure.lateStores }], guard := none }) (v := ?_) rfl (by kernel_rfl) (by kernel_rfl) (by kernel_rfl) (fun _ _ _ h => h) (Or.inl ⟨by rfl, ?hyr2x16q49⟩) (by assumption) ?restr2x16q49
          case hyr2x16q49 => intro wq hSw; (go_simp); (try with_reducible rfl)
          try simp only [Act.put, List.setIfInBounds_toArray, List.set_cons_zero, List.set_cons_succ]
          refine wpAnyH_take (i := 17) (oi := { dst := some 4, op := Op.assign (Operand.tmp 16), type := 63, pos := "wire.go:70", after := #[{ on := 0, ground := Ground.data }, { on := 11, ground := Ground.chain }, { on := 0, ground := Ground.phase }, { on := 1, ground := Ground.textOnly Departure.lateStores }, { on := 2, ground := Ground.textOnly Departure.lateStores }, { on := 3, ground := Ground.textOnly Departure.lateStores }, { on := 4, ground := Ground.textOnly Departure.lateStoresUnsure }, { on := 5, ground := Ground.textOnly Departure.lateStores }, { on := 6, ground := Ground.textOnly Departure.lateStores }, { on := 7, ground := Ground.textOnly Departure.lateStores }, { on := 8, ground := Ground.textOnly Departure.lateStores }, { on := 9, ground := Ground.textOnly Departure.lateStores }, { on := 10, ground := Ground.textOnly Departure.lateStores }, { on := 11, ground := Ground.textOnly Departure.lateStores }, { on := 12, ground := Ground.textOnly Departure.lateStores }, { on := 13, ground := Ground.textOnly Departure.lateStores }, { on := 14, ground := Ground.textOnly Departure.lateStores }, { on := 15, ground := Ground.textOnly Departure.lateStores }, { on := 16, ground := Ground.textOnly Departure.lateStores }], guard := none }) (v := ?_) rfl (by kernel_rfl) (by kernel_rfl) (by kernel_rfl) (fun _ _ _ h => h) (Or.inl ⟨by rfl, ?hyr2x17q52⟩) (by assumption) ?restr2x17q52
          case hyr2x17q52 => intro wq hSw; (go_simp); (try with_reducible rfl)
          try simp only [Act.put, List.setIfInBounds_toArray, List.set_cons_zero, List.set_cons_succ]
          refine wpAnyH_ready (rs := [18]) (by kernel_rfl) (by simp) ?_
          refine AllReadyH.cons (o := { dst := none, op := Op.store 67 (Operand.tmp 5) (Operand.tmp 32), type := 0, pos := "wire.go:70", after := #[{ on := 16, ground := Ground.data }, { on := 17, ground := Ground.chain }, { on := 0, ground := Ground.phase }, { on := 1, ground := Ground.phase }, { on := 2, ground := Ground.phase }, { on := 3, ground := Ground.phase }, { on := 4, ground := Ground.phase }, { on := 5, ground := Ground.phase }, { on := 6, ground := Ground.phase }, { on := 7, ground := Ground.phase }, { on := 8, ground := Ground.phase }, { on := 9, ground := Ground.phase }, { on := 10, ground := Ground.phase }, { on := 11, ground := Ground.phase }, { on := 12, ground := Ground.phase }, { on := 13, ground := Ground.phase }, { on := 14, ground := Ground.phase }, { on := 15, ground := Ground.phase }, { on := 16, ground := Ground.phase }, { on := 17, ground := Ground.phase }], guard := none }) rfl (fun K hK => ?_) AllReadyH.nil
          go_simp
          refine hK.out _ _ ((Chg.setCell (Chg.setCell hHeld _ (fun x hx => hx)) _ (fun x hx => hx))) (fun hHeld => ?_)
          clear hK K
          try simp only [Act.put, List.setIfInBounds_toArray, List.set_cons_zero, List.set_cons_succ]
          refine wpAnyH_done (by kernel_rfl) ?_ _
          go_wp2_with fail
          refine bodyPost_ret (v := .tuple #[.int .u64 N, .agg #[.slice none (0) (0), .bool true]]) (by simp [results, Tryd.results27, go_sem, *]) rfl ?_
          rw [← HT.out]
          simp only []
          rw [HB.out]
          have k9 := ((kk.setNew (p := ⟨g2, 0, none⟩) (.slice none (0) (0)) hgw).setNew (p := ⟨g2, 1, none⟩) (.bool true) hgw).drew
          exact rd_done (by rw [List.drop_zero]; exact HS.out.nx k9) (by omega) (by omega) (.inl ⟨rfl, rfl⟩) (fun x' o' hx' => by cases hx' <;> exact ⟨_, rfl⟩) k9
        · have hlI : ¬ (N : Int) ≤ (lim : Int) := by omega
          have HB : Hid ((true && ((0 : Nat) == 0) && decide (N ≤ lim)) = false) := Lib.hid (by simp [*])
          go_wp2_with fail
          refine wp_region_held_drew (S := Chg (· ≠ g2) w2) (by kernel_rfl) ((Chg.refl _ w2).drew) (fun hHeld => ?_)
          refine wpAnyH_take (i := 0) (oi := { dst := some 16, op := Op.move (Operand.tmp 6), type := 63, pos := "wire.go:70", after := #[], guard := none }) (v := ?_) rfl (by kernel_rfl) (by kernel_rfl) (by kernel_rfl) (fun _ _ _ h => h) (Or.inl ⟨by rfl, ?hyr3x0q1⟩) (by assumption) ?restr3x0q1
          case hyr3x0q1 => intro wq hSw; (go_simp); (try with_reducible rfl)
          try simp only [Act.put, List.setIfInBounds_toArray, List.set_cons_zero, List.set_cons_succ]
          refine wpAnyH_take (i := 1) (oi := { dst := some 17, op := Op.fieldAddr 67 (Operand.tmp 2) 0, type := 0, pos := "wire.go:70", after := #[], guard := none }) (v := ?_) rfl (by kernel_rfl) (by kernel_rfl) (by kernel_rfl) (fun _ _ _ h => h) (Or.inl ⟨by rfl, ?hyr3x1q4⟩) (by assumption) ?restr3x1q4
          case hyr3x1q4 => intro wq hSw; (go_simp); (try with_reducible rfl)
          try simp only [Act.put, List.setIfInBounds_toArray, List.set_cons_zero, List.set_cons_succ]
          refine wpAnyH_take (i := 2) (oi := { dst := some 18, op := Op.load 23 (Operand.tmp 17), type := 23, pos := "wire.go:70", after := #[{ on := 1, ground := Ground.data }], guard := none }) (v := ?_) rfl (by kernel_rfl) (by kernel_rfl) (by kernel_rfl) (fun _ _ _ h => h) (Or.inl ⟨by rfl, ?hyr3x2q7⟩) (by assumption) ?restr3x2q7
          case hyr3x2q7 => intro wq hSw; (have cq := Chg.cellv hSw p0 hgg; go_simp); (try with_reducible rfl)
          try simp only [Act.put, List.setIfInBounds_toArray, List.set_cons_zero, List.set_cons_succ]
          refine wpAnyH_take (i := 3) (oi := { dst := some 19, op := Op.move (Operand.tmp 7), type := 3, pos := "wire.go:70", after := #[], guard := none }) (v := ?_) rfl (by kernel_rfl) (by kernel_rfl) (by kernel_rfl) (fun _ _ _ h => h) (Or.inl ⟨by rfl, ?hyr3x3q10⟩) (by assumption) ?restr3x3q10
          case hyr3x3q10 => intro wq hSw; (go_simp); (try with_reducible rfl)
          try simp only [Act.put, List.setIfInBounds_toArray, List.set_cons_zero, List.set_cons_succ]
          refine wpAnyH_take (i := 4) (oi := { dst := some 20, op := Op.slice 23 (Operand.tmp 18) (some (Operand.tmp 19)) none none, type := 23, pos := "wire.go:70", after := #[{ on := 2, ground := Ground.data }, { on := 3, ground := Ground.data }], guard := none }) (v := ?_) rfl (by kernel_rfl) (by kernel_rfl) (by kernel_rfl) (fun _ _ _ h => h) (Or.inl ⟨by rfl, ?hyr3x4q13⟩) (by assumption) ?restr3x4q13
          case hyr3x4q13 => intro wq hSw; (go_simp); (try with_reducible rfl)
          try simp only [Act.put, List.setIfInBounds_toArray, List.set_cons_zero, List.set_cons_succ]
          refine wpAnyH_take (i := 5) (oi := { dst := some 21, op := Op.fieldAddr 67 (Operand.tmp 2) 1, type := 0, pos := "wire.go:70", after := #[], guard := none }) (v := ?_) rfl (by kernel_rfl) (by kernel_rfl) (by kernel_rfl) (fun _ _ _ h => h) (Or.inl ⟨by rfl, ?hyr3x5q16⟩) (by assumption) ?restr3x5q16
          case hyr3x5q16 => intro wq hSw; (go_simp); (try with_reducible rfl)
          try simp only [Act.put, List.setIfInBounds_toArray, List.set_cons_zero, List.set_cons_succ]
          refine wpAnyH_take (i := 6) (oi := { dst := some 22, op := Op.load 4 (Operand.tmp 21), type := 4, pos := "wire.go:70", after := #[{ on := 5, ground := Ground.data }], guard := none }) (v := ?_) rfl (by kernel_rfl) (by kernel_rfl) (by kernel_rfl) (fun _ _ _ h => h) (Or.inl ⟨by rfl, ?hyr3x6q19⟩) (by assumption) ?restr3x6q19
          case hyr3x6q19 => intro wq hSw; (have cq := Chg.cellv hSw p1 hgg; go_simp); (try with_reducible rfl)
          try simp only [Act.put, List.setIfInBounds_toArray, List.set_cons_zero, List.set_cons_succ]
          refine wpAnyH_take (i := 7) (oi := { dst := some 23, op := Op.move (Operand.tmp 22), type := 4, pos := "wire.go:70", after := #[{ on := 6, ground := Ground.data }], guard := none }) (v := ?_) rfl (by kernel_rfl) (by kernel_rfl) (by kernel_rfl) (fun _ _ _ h => h) (Or.inl ⟨by rfl, ?hyr3x7q22⟩) (by assumption) ?restr3x7q22
          case hyr3x7q22 => intro wq hSw; (go_simp); (try with_reducible rfl)
          try simp only [Act.put, List.setIfInBounds_toArray, List.set_cons_zero, List.set_cons_succ]
          refine wpAnyH_take (i := 8) (oi := { dst := some 24, op := Op.move (Operand.tmp 8), type := 31, pos := "wire.go:70", after := #[{ on := 7, ground := Ground.guard }], guard := some (7, true) }) (v := ?_) rfl (by kernel_rfl) (by kernel_rfl) (by kernel_rfl) (fun _ _ _ h => h) (Or.inl ⟨by rfl, ?hyr3x8q25⟩) (by assumption) ?restr3x8q25
          case hyr3x8q25 => intro wq hSw; (go_simp); (try with_reducible rfl)
          try simp only [Act.put, List.setIfInBounds_toArray, List.set_cons_zero, List.set_cons_succ]
          refine wpAnyH_take (i := 9) (oi := { dst := some 25, op := Op.binOp BinOp.eql 31 (Operand.tmp 24) (Operand.const (Value.int IntKind.i64 0)) 31, type := 4, pos := "wire.go:70", after := #[{ on := 8, ground := Ground.data }, { on := 7, ground := Ground.guard }], guard := some (7, true) }) (v := ?_) rfl (by kernel_rfl) (by kernel_rfl) (by kernel_rfl) (fun _ _ _ h => h) (Or.inl ⟨by rfl, ?hyr3x9q28⟩) (by assumption) ?restr3x9q28
          case hyr3x9q28 => intro wq hSw; (go_simp); (try with_reducible rfl)
          try simp only [Act.put, List.setIfInBounds_toArray, List.set_cons_zero, List.set_cons_succ]
          refine wpAnyH_take (i := 10) (oi := { dst := some 26, op := Op.pick (Operand.tmp 23) (Operand.tmp 25) (Operand.const (Value.bool false)), type := 4, pos := "wire.go:70", after := #[{ on := 7, ground := Ground.data }, { on := 9, ground := Ground.data }], guard := none }) (v := ?_) rfl (by kernel_rfl) (by kernel_rfl) (by kernel_rfl) (fun _ _ _ h => h) (Or.inl ⟨by rfl, ?hyr3x10q31⟩) (by assumption) ?restr3x10q31
          case hyr3x10q31 => intro wq hSw; (go_simp); (try with_reducible rfl)
          try simp only [Act.put, List.setIfInBounds_toArray, List.set_cons_zero, List.set_cons_succ]
          refine wpAnyH_take (i := 11) (oi := { dst := some 27, op := Op.move (Operand.tmp 26), type := 4, pos := "wire.go:70", after := #[{ on := 10, ground := Ground.data }, { on := 7, ground := Ground.chain }], guard := none }) (v := ?_) rfl (by kernel_rfl) (by kernel_rfl) (by kernel_rfl) (fun _ _ _ h => h) (Or.inl ⟨by rfl, ?hyr3x11q34⟩) (by assumption) ?restr3x11q34
          case hyr3x11q34 => intro wq hSw; (go_simp); (try with_reducible rfl)
          try simp only [Act.put, List.setIfInBounds_toArray, List.set_cons_zero, List.set_cons_succ]
          refine wpAnyH_take (i := 12) (oi := { dst := some 28, op := Op.move (Operand.tmp 6), type := 63, pos := "wire.go:70", after := #[{ on := 11, ground := Ground.guard }, { on := 17, ground := Ground.gcOnly Departure.lateStores }], guard := some (11, true) }) (v := ?_) rfl (by kernel_rfl) (by kernel_rfl) (by kernel_rfl) (fun _ _ _ h => h) (Or.inl ⟨by rfl, ?hyr3x12q37⟩) (by assumption) ?restr3x12q37
          case hyr3x12q37 => intro wq hSw; (go_simp); (try with_reducible rfl)
          try simp only [Act.put, List.setIfInBounds_toArray, List.set_cons_zero, List.set_cons_succ]
          refine wpAnyH_take (i := 13) (oi := { dst := some 29, op := Op.move (Operand.tmp 1), type := 63, pos := "wire.go:70", after := #[{ on := 11, ground := Ground.guard }, { on := 17, ground := Ground.gcOnly Departure.lateStores }], guard := some (11, true) }) (v := ?_) rfl (by kernel_rfl) (by kernel_rfl) (by kernel_rfl) (fun _ _ _ h => h) (Or.inl ⟨by rfl, ?hyr3x13q40⟩) (by assumption) ?restr3x13q40
          case hyr3x13q40 => intro wq hSw; (go_simp); (try with_reducible rfl)
          try simp only [Act.put, List.setIfInBounds_toArray, List.set_cons_zero, List.set_cons_succ]
          refine wpAnyH_take (i := 14) (oi := { dst := some 30, op := Op.binOp BinOp.leq 63 (Operand.tmp 28) (Operand.tmp 29) 63, type := 4, pos := "wire.go:70", after := #[{ on := 12, ground := Ground.data }, { on := 13, ground := Ground.data }, { on := 11, ground := Ground.guard }, { on := 17, ground := Ground.gcOnly Departure.lateStores }], guard := some (11, true) }) (v := ?_) rfl (by kernel_rfl) (by kernel_rfl) (by kernel_rfl) (fun _ _ _ h => h) (Or.inl ⟨by rfl, ?hyr3x14q43⟩) (by assumption) ?restr3x14q43
          case hyr3x14q43 => intro wq hSw; (go_simp); (try with_reducible rfl)
          try simp only [Act.put, List.setIfInBounds_toArray, List.set_cons_zero, List.set_cons_succ]
          refine wpAnyH_take (i := 15) (oi := { dst := some 31, op := Op.pick (Operand.tmp 27) (Operand.tmp 30) (Operand.const (Value.bool false)), type := 4, pos := "wire.go:70", after := #[{ on := 11, ground := Ground.data }, { on := 14, ground := Ground.data }, { on := 17, ground := Ground.gcOnly Departure.lateStores }], guard := none }) (v := ?_) rfl (by kernel_rfl) (by kernel_rfl) (by kernel_rfl) (fun _ _ _ h => h) (Or.inl ⟨by rfl, ?hyr3x15q46⟩) (by assumption) ?restr3x15q46
          case hyr3x15q46 => intro wq hSw; (go_simp); (try with_reducible rfl)
          try simp only [Act.put, List.setIfInBounds_toArray, List.set_cons_zero, List.set_cons_succ]
          refine wpAnyH_take (i := 16) (oi := { dst := some 32, op := Op.build 67 #[(0, Operand.tmp 20), (1, Operand.tmp 31)], type := 67, pos := "wire.go:70", after := #[{ on := 4, ground := Ground.data }, { on := 15, ground := Ground.data }, { on := 17, ground := Ground.gcOnly Departure.lateStores }], guard := none }) (v := ?_) rfl (by kernel_rfl) (by kernel_rfl) (by kernel_rfl) (fun _ _ _ h => h) (Or.inl ⟨by rfl, ?hyr3x16q49⟩) (by assumption) ?restr3x16q49
          case hyr3x16q49 => intro wq hSw; (go_simp); (try with_reducible rfl)
          try simp only [Act.put, List.setIfInBounds_toArray, List.set_cons_zero, List.set_cons_succ]
          refine wpAnyH_take (i := 17) (oi := { dst := some 4, op := Op.assign (Operand.tmp 16), type := 63, pos := "wire.go:70", after := #[{ on := 0, ground := Ground.data }, { on := 11, ground := Ground.chain }, { on := 0, ground := Ground.phase }, { on := 1, ground := Ground.textOnly Departure.lateStores }, { on := 2, ground := Ground.textOnly Departure.lateStores }, { on := 3, ground := Ground.textOnly Departure.lateStores }, { on := 4, ground := Ground.textOnly Departure.lateStoresUnsure }, { on := 5, ground := Ground.textOnly Departure.lateStores }, { on := 6, ground := Ground.textOnly Departure.lateStores }, { on := 7, ground := Ground.textOnly Departure.lateStores }, { on := 8, ground := Ground.textOnly Departure.lateStores }, { on := 9, ground := Ground.textOnly Departure.lateStores }, { on := 10, ground := Ground.textOnly Departure.lateStores }, { on := 11, ground := Ground.textOnly Departure.lateStores }, { on := 12, ground := Ground.textOnly Departure.lateStores }, { on := 13, ground := Ground.textOnly Departure.lateStores }, { on := 14, ground := Ground.textOnly Departure.lateStores }, { on := 15, ground := Ground.textOnly Departure.lateStores }, { on := 16, ground := Ground.textOnly Departure.lateStores }], guard := none }) (v := ?_) rfl (by kernel_rfl) (by kernel_rfl) (by kernel_rfl) (fun _ _ _ h => h) (Or.inl ⟨by rfl, ?hyr3x17q52⟩) (by assumption) ?restr3x17q52
          case hyr3x17q52 => intro wq hSw; (go_simp); (try with_reducible rfl)
          try simp only [Act.put, List.setIfInBounds_toArray, List.set_cons_zero, List.set_cons_succ]
          refine wpAnyH_ready (rs := [18]) (by kernel_rfl) (by simp) ?_
          refine AllReadyH.cons (o := { dst := none, op := Op.store 67 (Operand.tmp 5) (Operand.tmp 32), type := 0, pos := "wire.go:70", after := #[{ on := 16, ground := Ground.data }, { on := 17, ground := Ground.chain }, { on := 0, ground := Ground.phase }, { on := 1, ground := Ground.phase }, { on := 2, ground := Ground.phase }, { on := 3, ground := Ground.phase }, { on := 4, ground := Ground.phase }, { on := 5, ground := Ground.phase }, { on := 6, ground := Ground.phase }, { on := 7, ground := Ground.phase }, { on := 8, ground := Ground.phase }, { on := 9, ground := Ground.phase }, { on := 10, ground := Ground.phase }, { on := 11, ground := Ground.phase }, { on := 12, ground := Ground.phase }, { on := 13, ground := Ground.phase }, { on := 14, ground := Ground.phase }, { on := 15, ground := Ground.phase }, { on := 16, ground := Ground.phase }, { on := 17, ground := Ground.phase }], guard := none }) rfl (fun K hK => ?_) AllReadyH.nil
          go_simp
          refine hK.out _ _ ((Chg.setCell (Chg.setCell hHeld _ (fun x hx => hx)) _ (fun x hx => hx))) (fun hHeld => ?_)
          clear hK K
          try simp only [Act.put, List.setIfInBounds_toArray, List.set_cons_zero, List.set_cons_succ]
          refine wpAnyH_done (by kernel_rfl) ?_ _
          go_wp2_with fail
          refine bodyPost_ret (v := .tuple #[.int .u64 N, .agg #[.slice none (0) (0), .bool false]]) (by simp [results, Tryd.results27, go_sem, *]) rfl ?_
          rw [← HT.out]
          simp only []
          rw [HB.out]
          have k9 := ((kk.setNew (p := ⟨g2, 0, none⟩) (.slice none (0) (0)) hgw).setNew (p := ⟨g2, 1, none⟩) (.bool false) hgw).drew
          exact rd_done (by rw [List.drop_zero]; exact HS.out.nx k9) (by omega) (by omega) (.inl ⟨rfl, rfl⟩) (fun x' o' hx' => by cases hx' <;> exact ⟨_, rfl⟩) k9
      · have hEI : ((E : Int) == 0) = false := beq_eq_false_iff_ne.2 (by omega)
        have HB : Hid ((true && (E == 0) && decide (N ≤ lim)) = false) := Lib.hid (by simp [*])
        go_wp2_with fail
        refine wp_region_held_drew (S := Chg (· ≠ g2) w2) (by kernel_rfl) ((Chg.refl _ w2).drew) (fun hHeld => ?_)
        refine wpAnyH_take (i := 0) (oi := { dst := some 16, op := Op.move (Operand.tmp 6), type := 63, pos := "wire.go:70", after := #[], guard := none }) (v := ?_) rfl (by kernel_rfl) (by kernel_rfl) (by kernel_rfl) (fun _ _ _ h => h) (Or.inl ⟨by rfl, ?hyr4x0q1⟩) (by assumption) ?restr4x0q1
        case hyr4x0q1 => intro wq hSw; (go_simp); (try with_reducible rfl)
        try simp only [Act.put, List.setIfInBounds_toArray, List.set_cons_zero, List.set_cons_succ]
        refine wpAnyH_take (i := 1) (oi := { dst := some 17, op := Op.fieldAddr 67 (Operand.tmp 2) 0, type := 0, pos := "wire.go:70", after := #[], guard := none }) (v := ?_) rfl (by kernel_rfl) (by kernel_rfl) (by kernel_rfl) (fun _ _ _ h => h) (Or.inl ⟨by rfl, ?hyr4x1q4⟩) (by assumption) ?restr4x1q4
        case hyr4x1q4 => intro wq hSw; (go_simp); (try with_reducible rfl)
        try simp only [Act.put, List.setIfInBounds_toArray, List.set_cons_zero, List.set_cons_succ]
        refine wpAnyH_take (i := 2) (oi := { dst := some 18, op := Op.load 23 (Operand.tmp 17), type := 23, pos := "wire.go:70", after := #[{ on := 1, ground := Ground.data }], guard := none }) (v := ?_) rfl (by kernel_rfl) (by kernel_rfl) (by kernel_rfl) (fun _ _ _ h => h) (Or.inl ⟨by rfl, ?hyr4x2q7⟩) (by assumption) ?restr4x2q7
        case hyr4x2q7 => intro wq hSw; (have cq := Chg.cellv hSw p0 hgg; go_simp); (try with_reducible rfl)
        try simp only [Act.put, List.setIfInBounds_toArray, List.set_cons_zero, List.set_cons_succ]
        refine wpAnyH_take (i := 3) (oi := { dst := some 19, op := Op.move (Operand.tmp 7), type := 3, pos := "wire.go:70", after := #[], guard := none }) (v := ?_) rfl (by kernel_rfl) (by kernel_rfl) (by kernel_rfl) (fun _ _ _ h => h) (Or.inl ⟨by rfl, ?hyr4x3q10⟩) (by assumption) ?restr4x3q10
        case hyr4x3q10 => intro wq hSw; (go_simp); (try with_reducible rfl)
        try simp only [Act.put, List.setIfInBounds_toArray, List.set_cons_zero, List.set_cons_succ]
        refine wpAnyH_take (i := 4) (oi := { dst := some 20, op := Op.slice 23 (Operand.tmp 18) (some (Operand.tmp 19)) none none, type := 23, pos := "wire.go:70", after := #[{ on := 2, ground := Ground.data }, { on := 3, ground := Ground.data }], guard := none }) (v := ?_) rfl (by kernel_rfl) (by kernel_rfl) (by kernel_rfl) (fun _ _ _ h => h) (Or.inl ⟨by rfl, ?hyr4x4q13⟩) (by assumption) ?restr4x4q13
        case hyr4x4q13 => intro wq hSw; (go_simp); (try with_reducible rfl)
        try simp only [Act.put, List.setIfInBounds_toArray, List.set_cons_zero, List.set_cons_succ]
        refine wpAnyH_take (i := 5) (oi := { dst := some 21, op := Op.fieldAddr 67 (Operand.tmp 2) 1, type := 0, pos := "wire.go:70", after := #[], guard := none }) (v := ?_) rfl (by kernel_rfl) (by kernel_rfl) (by kernel_rfl) (fun _ _ _ h => h) (Or.inl ⟨by rfl, ?hyr4x5q16⟩) (by assumption) ?restr4x5q16
        case hyr4x5q16 => intro wq hSw; (go_simp); (try with_reducible rfl)
        try simp only [Act.put, List.setIfInBounds_toArray, List.set_cons_zero, List.set_cons_succ]
        refine wpAnyH_take (i := 6) (oi := { dst := some 22, op := Op.load 4 (Operand.tmp 21), type := 4, pos := "wire.go:70", after := #[{ on := 5, ground := Ground.data }], guard := none }) (v := ?_) rfl (by kernel_rfl) (by kernel_rfl) (by kernel_rfl) (fun _ _ _ h => h) (Or.inl ⟨by rfl, ?hyr4x6q19⟩) (by assumption) ?restr4x6q19
        case hyr4x6q19 => intro wq hSw; (have cq := Chg.cellv hSw p1 hgg; go_simp); (try with_reducible rfl)
        try simp only [Act.put, List.setIfInBounds_toArray, List.set_cons_zero, List.set_cons_succ]
        refine wpAnyH_take (i := 7) (oi := { dst := some 23, op := Op.move (Operand.tmp 22), type := 4, pos := "wire.go:70", after := #[{ on := 6, ground := Ground.data }], guard := none }) (v := ?_) rfl (by kernel_rfl) (by kernel_rfl) (by kernel_rfl) (fun _ _ _ h => h) (Or.inl ⟨by rfl, ?hyr4x7q22⟩) (by assumption) ?restr4x7q22
        case hyr4x7q22 => intro wq hSw; (go_simp); (try with_reducible rfl)
        try simp only [Act.put, List.setIfInBounds_toArray, List.set_cons_zero, List.set_cons_succ]
        refine wpAnyH_take (i := 8) (oi := { dst := some 24, op := Op.move (Operand.tmp 8), type := 31, pos := "wire.go:70", after := #[{ on := 7, ground := Ground.guard }], guard := some (7, true) }) (v := ?_) rfl (by kernel_rfl) (by kernel_rfl) (by kernel_rfl) (fun _ _ _ h => h) (Or.inl ⟨by rfl, ?hyr4x8q25⟩) (by assumption) ?restr4x8q25
        case hyr4x8q25 => intro wq hSw; (go_simp); (try with_reducible rfl)
        try simp only [Act.put, List.setIfInBounds_toArray, List.set_cons_zero, List.set_cons_succ]
        refine wpAnyH_take (i := 9) (oi := { dst := some 25, op := Op.binOp BinOp.eql 31 (Operand.tmp 24) (Operand.const (Value.int IntKind.i64 0)) 31, type := 4, pos := "wire.go:70", after := #[{ on := 8, ground := Ground.data }, { on := 7, ground := Ground.guard }], guard := some (7, true) }) (v := ?_) rfl (by kernel_rfl) (by kernel_rfl) (by kernel_rfl) (fun _ _ _ h => h) (Or.inl ⟨by rfl, ?hyr4x9q28⟩) (by assumption) ?restr4x9q28
        case hyr4x9q28 => intro wq hSw; (go_simp); (try with_reducible rfl)
        try simp only [Act.put, List.setIfInBounds_toArray, List.set_cons_zero, List.set_cons_succ]
        refine wpAnyH_take (i := 10) (oi := { dst := some 26, op := Op.pick (Operand.tmp 23) (Operand.tmp 25) (Operand.const (Value.bool false)), type := 4, pos := "wire.go:70", after := #[{ on := 7, ground := Ground.data }, { on := 9, ground := Ground.data }], guard := none }) (v := ?_) rfl (by kernel_rfl) (by kernel_rfl) (by kernel_rfl) (fun _ _ _ h => h) (Or.inl ⟨by rfl, ?hyr4x10q31⟩) (by assumption) ?restr4x10q31
        case hyr4x10q31 => intro wq hSw; (go_simp); (try with_reducible rfl)
        try simp only [Act.put, List.setIfInBounds_toArray, List.set_cons_zero, List.set_cons_succ]
        refine wpAnyH_take (i := 11) (oi := { dst := some 27, op := Op.move (Operand.tmp 26), type := 4, pos := "wire.go:70", after := #[{ on := 10, ground := Ground.data }, { on := 7, ground := Ground.chain }], guard := none }) (v := ?_) rfl (by kernel_rfl) (by kernel_rfl) (by kernel_rfl) (fun _ _ _ h => h) (Or.inl ⟨by rfl, ?hyr4x11q34⟩) (by assumption) ?restr4x11q34
        case hyr4x11q34 => intro wq hSw; (go_simp); (try with_reducible rfl)
        try simp only [Act.put, List.setIfInBounds_toArray, List.set_cons_zero, List.set_cons_succ]
        refine wpAnyH_take (i := 12) (oi := { dst := some 28, op := Op.move (Operand.tmp 6), type := 63, pos := "wire.go:70", after := #[{ on := 11, ground := Ground.guard }, { on := 17, ground := Ground.gcOnly Departure.lateStores }], guard := some (11, true) }) (v := undef) rfl (by kernel_rfl) (by kernel_rfl) (by kernel_rfl) (fun _ _ _ h => h) (Or.inr ⟨by rfl, rfl⟩) (by assumption) ?_
        try simp only [Act.put, List.setIfInBounds_toArray, List.set_cons_zero, List.set_cons_succ]
        refine wpAnyH_take (i := 13) (oi := { dst := some 29, op := Op.move (Operand.tmp 1), type := 63, pos := "wire.go:70", after := #[{ on := 11, ground := Ground.guard }, { on := 17, ground := Ground.gcOnly Departure.lateStores }], guard := some (11, true) }) (v := undef) rfl (by kernel_rfl) (by kernel_rfl) (by kernel_rfl) (fun _ _ _ h => h) (Or.inr ⟨by rfl, rfl⟩) (by assumption) ?_
        try simp only [Act.put, List.setIfInBounds_toArray, List.set_cons_zero, List.set_cons_succ]
        refine wpAnyH_take (i := 14) (oi := { dst := some 30, op := Op.binOp BinOp.leq 63 (Operand.tmp 28) (Operand.tmp 29) 63, type := 4, pos := "wire.go:70", after := #[{ on := 12, ground := Ground.data }, { on := 13, ground := Ground.data }, { on := 11, ground := Ground.guard }, { on := 17, ground := Ground.gcOnly Departure.lateStores }], guard := some (11, true) }) (v := undef) rfl (by kernel_rfl) (by kernel_rfl) (by kernel_rfl) (fun _ _ _ h => h) (Or.inr ⟨by rfl, rfl⟩) (by assumption) ?_
        try simp only [Act.put, List.setIfInBounds_toArray, List.set_cons_zero, List.set_cons_succ]
        refine wpAnyH_take (i := 15) (oi := { dst := some 31, op := Op.pick (Operand.tmp 27) (Operand.tmp 30) (Operand.const (Value.bool false)), type := 4, pos := "wire.go:70", after := #[{ on := 11, ground := Ground.data }, { on := 14, ground := Ground.data }, { on := 17, ground := Ground.gcOnly Departure.lateStores }], guard := none }) (v := ?_) rfl (by kernel_rfl) (by kernel_rfl) (by kernel_rfl) (fun _ _ _ h => h) (Or.inl ⟨by rfl, ?hyr4x15q43⟩) (by assumption) ?restr4x15q43
        case hyr4x15q43 => intro wq hSw; (go_simp); (try with_reducible rfl)
        try simp only [Act.put, List.setIfInBounds_toArray, List.set_cons_zero, List.set_cons_succ]
        refine wpAnyH_take (i := 16) (oi := { dst := some 32, op := Op.build 67 #[(0, Operand.tmp 20), (1, Operand.tmp 31)], type := 67, pos := "wire.go:70", after := #[{ on := 4, ground := Ground.data }, { on := 15, ground := Ground.data }, { on := 17, ground := Ground.gcOnly Departure.lateStores }], guard := none }) (v := ?_) rfl (by kernel_rfl) (by kernel_rfl) (by kernel_rfl) (fun _ _ _ h => h) (Or.inl ⟨by rfl, ?hyr4x16q46⟩) (by assumption) ?restr4x16q46
        case hyr4x16q46 => intro wq hSw; (go_simp); (try with_reducible rfl)
        try simp only [Act.put, List.setIfInBounds_toArray, List.set_cons_zero, List.set_cons_succ]
        refine wpAnyH_take (i := 17) (oi := { dst := some 4, op := Op.assign (Operand.tmp 16), type := 63, pos := "wire.go:70", after := #[{ on := 0, ground := Ground.data }, { on := 11, ground := Ground.chain }, { on := 0, ground := Ground.phase }, { on := 1, ground := Ground.textOnly Departure.lateStores }, { on := 2, ground := Ground.textOnly Departure.lateStores }, { on := 3, ground := Ground.textOnly Departure.lateStores }, { on := 4, ground := Ground.textOnly Departure.lateStoresUnsure }, { on := 5, ground := Ground.textOnly Departure.lateStores }, { on := 6, ground := Ground.textOnly Departure.lateStores }, { on := 7, ground := Ground.textOnly Departure.lateStores }, { on := 8, ground := Ground.textOnly Departure.lateStores }, { on := 9, ground := Ground.textOnly Departure.lateStores }, { on := 10, ground := Ground.textOnly Departure.lateStores }, { on := 11, ground := Ground.textOnly Departure.lateStores }, { on := 12, ground := Ground.textOnly Departure.lateStores }, { on := 13, ground := Ground.textOnly Departure.lateStores }, { on := 14, ground := Ground.textOnly Departure.lateStores }, { on := 15, ground := Ground.textOnly Departure.lateStores }, { on := 16, ground := Ground.textOnly Departure.lateStores }], guard := none }) (v := ?_) rfl (by kernel_rfl) (by kernel_rfl) (by kernel_rfl) (fun _ _ _ h => h) (Or.inl ⟨by rfl, ?hyr4x17q49⟩) (by assumption) ?restr4x17q49
        case hyr4x17q49 => intro wq hSw; (go_simp); (try with_reducible rfl)
        try simp only [Act.put, List.setIfInBounds_toArray, List.set_cons_zero, List.set_cons_succ]
        refine wpAnyH_ready (rs := [18]) (by kernel_rfl) (by simp) ?_
        refine AllReadyH.cons (o := { dst := none, op := Op.store 67 (Operand.tmp 5) (Operand.tmp 32), type := 0, pos := "wire.go:70", after := #[{ on := 16, ground := Ground.data }, { on := 17, ground := Ground.chain }, { on := 0, ground := Ground.phase }, { on := 1, ground := Ground.phase }, { on := 2, ground := Ground.phase }, { on := 3, ground := Ground.phase }, { on := 4, ground := Ground.phase }, { on := 5, ground := Ground.phase }, { on := 6, ground := Ground.phase }, { on := 7, ground := Ground.phase }, { on := 8, ground := Ground.phase }, { on := 9, ground := Ground.phase }, { on := 10, ground := Ground.phase }, { on := 11, ground := Ground.phase }, { on := 12, ground := Ground.phase }, { on := 13, ground := Ground.phase }, { on := 14, ground := Ground.phase }, { on := 15, ground := Ground.phase }, { on := 16, ground := Ground.phase }, { on := 17, ground := Ground.phase }], guard := none }) rfl (fun K hK => ?_) AllReadyH.nil
        go_simp
        refine hK.out _ _ ((Chg.setCell (Chg.setCell hHeld _ (fun x hx => hx)) _ (fun x hx => hx))) (fun hHeld => ?_)
        clear hK K
        try simp only [Act.put, List.setIfInBounds_toArray, List.set_cons_zero, List.set_cons_succ]
        refine wpAnyH_done (by kernel_rfl) ?_ _
        go_wp2_with fail
        refine bodyPost_ret (v := .tuple #[.int .u64 N, .agg #[.slice none (0) (0), .bool false]]) (by simp [results, Tryd.results27, go_sem, *]) rfl ?_
        rw [← HT.out]
        simp only []
        rw [HB.out]
        have k9 := ((kk.setNew (p := ⟨g2, 0, none⟩) (.slice none (0) (0)) hgw).setNew (p := ⟨g2, 1, none⟩) (.bool false) hgw).drew
        exact rd_done (by rw [List.drop_zero]; exact HS.out.nx k9) (by omega) (by omega) (.inl ⟨rfl, rfl⟩) (fun x' o' hx' => by cases hx' <;> exact ⟨_, rfl⟩) k9
  · by_cases hcK : c = K
    · obtain rfl : n = K := by omega
      obtain rfl : c = n := by omega
      cases ok with
      | false =>
        have HB : Hid ((false && (E == 0) && decide (N ≤ lim)) = false) := Lib.hid (by simp [*])
        go_wp2_with fail
        refine wp_region_held_drew (S := Chg (· ≠ g2) w2) (by kernel_rfl) ((Chg.refl _ w2).drew) (fun hHeld => ?_)
        refine wpAnyH_take (i := 0) (oi := { dst := some 16, op := Op.move (Operand.tmp 6), type := 63, pos := "wire.go:70", after := #[], guard := none }) (v := ?_) rfl (by kernel_rfl) (by kernel_rfl) (by kernel_rfl) (fun _ _ _ h => h) (Or.inl ⟨by rfl, ?hyr5x0q1⟩) (by assumption) ?restr5x0q1
        case hyr5x0q1 => intro wq hSw; (go_simp); (try with_reducible rfl)
        try simp only [Act.put, List.setIfInBounds_toArray, List.set_cons_zero, List.set_cons_succ]
        refine wpAnyH_take (i := 1) (oi := { dst := some 17, op := Op.fieldAddr 67 (Operand.tmp 2) 0, type := 0, pos := "wire.go:70", after := #[], guard := none }) (v := ?_) rfl (by kernel_rfl) (by kernel_rfl) (by kernel_rfl) (fun _ _ _ h => h) (Or.inl ⟨by rfl, ?hyr5x1q4⟩) (by assumption) ?restr5x1q4
        case hyr5x1q4 => intro wq hSw; (go_simp); (try with_reducible rfl)
        try simp only [Act.put, List.setIfInBounds_toArray, List.set_cons_zero, List.set_cons_succ]
        refine wpAnyH_take (i := 2) (oi := { dst := some 18, op := Op.load 23 (Operand.tmp 17), type := 23, pos := "wire.go:70", after := #[{ on := 1, ground := Ground.data }], guard := none }) (v := ?_) rfl (by kernel_rfl) (by kernel_rfl) (by kernel_rfl) (fun _ _ _ h => h) (Or.inl ⟨by rfl, ?hyr5x2q7⟩) (by assumption) ?restr5x2q7
        case hyr5x2q7 => intro wq hSw; (have cq := Chg.cellv hSw p0 hgg; go_simp); (try with_reducible rfl)
        try simp only [Act.put, List.setIfInBounds_toArray, List.set_cons_zero, List.set_cons_succ]
        refine wpAnyH_take (i := 3) (oi := { dst := some 19, op := Op.move (Operand.tmp 7), type := 3, pos := "wire.go:70", after := #[], guard := none }) (v := ?_) rfl (by kernel_rfl) (by kernel_rfl) (by kernel_rfl) (fun _ _ _ h => h) (Or.inl ⟨by rfl, ?hyr5x3q10⟩) (by assumption) ?restr5x3q10
        case hyr5x3q10 => intro wq hSw; (go_simp); (try with_reducible rfl)
        try simp only [Act.put, List.setIfInBounds_toArray, List.set_cons_zero, List.set_cons_succ]
        refine wpAnyH_take (i := 4) (oi := { dst := some 20, op := Op.slice 23 (Operand.tmp 18) (some (Operand.tmp 19)) none none, type := 23, pos := "wire.go:70", after := #[{ on := 2, ground := Ground.data }, { on := 3, ground := Ground.data }], guard := none }) (v := ?_) rfl (by kernel_rfl) (by kernel_rfl) (by kernel_rfl) (fun _ _ _ h => h) (Or.inl ⟨by rfl, ?hyr5x4q13⟩) (by assumption) ?restr5x4q13
        case hyr5x4q13 => intro wq hSw; (go_simp); (try with_reducible rfl)
        try simp only [Act.put, List.setIfInBounds_toArray, List.set_cons_zero, List.set_cons_succ]
        refine wpAnyH_take (i := 5) (oi := { dst := some 21, op := Op.fieldAddr 67 (Operand.tmp 2) 1, type := 0, pos := "wire.go:70", after := #[], guard := none }) (v := ?_) rfl (by kernel_rfl) (by kernel_rfl) (by kernel_rfl) (fun _ _ _ h => h) (Or.inl ⟨by rfl, ?hyr5x5q16⟩) (by assumption) ?restr5x5q16
        case hyr5x5q16 => intro wq hSw; (go_simp); (try with_reducible rfl)
        try simp only [Act.put, List.setIfInBounds_toArray, List.set_cons_zero, List.set_cons_succ]
        refine wpAnyH_take (i := 6) (oi := { dst := some 22, op := Op.load 4 (Operand.tmp 21), type := 4, pos := "wire.go:70", after := #[{ on := 5, ground := Ground.data }], guard := none }) (v := ?_) rfl (by kernel_rfl) (by kernel_rfl) (by kernel_rfl) (fun _ _ _ h => h) (Or.inl ⟨by rfl, ?hyr5x6q19⟩) (by assumption) ?restr5x6q19
        case hyr5x6q19 => intro wq hSw; (have cq := Chg.cellv hSw p1 hgg; go_simp); (try with_reducible rfl)
        try simp only [Act.put, List.setIfInBounds_toArray, List.set_cons_zero, List.set_cons_succ]
        refine wpAnyH_take (i := 7) (oi := { dst := some 23, op := Op.move (Operand.tmp 22), type := 4, pos := "wire.go:70", after := #[{ on := 6, ground := Ground.data }], guard := none }) (v := ?_) rfl (by kernel_rfl) (by kernel_rfl) (by kernel_rfl) (fun _ _ _ h => h) (Or.inl ⟨by rfl, ?hyr5x7q22⟩) (by assumption) ?restr5x7q22
        case hyr5x7q22 => intro wq hSw; (go_simp); (try with_reducible rfl)
        try simp only [Act.put, List.setIfInBounds_toArray, List.set_cons_zero, List.set_cons_succ]
        refine wpAnyH_take (i := 8) (oi := { dst := some 24, op := Op.move (Operand.tmp 8), type := 31, pos := "wire.go:70", after := #[{ on := 7, ground := Ground.guard }], guard := some (7, true) }) (v := undef) rfl (by kernel_rfl) (by kernel_rfl) (by kernel_rfl) (fun _ _ _ h => h) (Or.inr ⟨by rfl, rfl⟩) (by assumption) ?_
        try simp only [Act.put, List.setIfInBounds_toArray, List.set_cons_zero, List.set_cons_succ]
        refine wpAnyH_take (i := 9) (oi := { dst := some 25, op := Op.binOp BinOp.eql 31 (Operand.tmp 24) (Operand.const (Value.int IntKind.i64 0)) 31, type := 4, pos := "wire.go:70", after := #[{ on := 8, ground := Ground.data }, { on := 7, ground := Ground.guard }], guard := some (7, true) }) (v := undef) rfl (by kernel_rfl) (by kernel_rfl) (by kernel_rfl) (fun _ _ _ h => h) (Or.inr ⟨by rfl, rfl⟩) (by assumption) ?_
        try simp only [Act.put, List.setIfInBounds_toArray, List.set_cons_zero, List.set_cons_succ]
        refine wpAnyH_take (i := 10) (oi := { dst := some 26, op := Op.pick (Operand.tmp 23) (Operand.tmp 25) (Operand.const (Value.bool false)), type := 4, pos := "wire.go:70", after := #[{ on := 7, ground := Ground.data }, { on := 9, ground := Ground.data }], guard := none }) (v := ?_) rfl (by kernel_rfl) (by kernel_rfl) (by kernel_rfl) (fun _ _ _ h => h) (Or.inl ⟨by rfl, ?hyr5x10q29⟩) (by assumption) ?restr5x10q29
        case hyr5x10q29 => intro wq hSw; (go_simp); (try with_reducible rfl)
        try simp only [Act.put, List.setIfInBounds_toArray, List.set_cons_zero, List.set_cons_succ]
        refine wpAnyH_take (i := 11) (oi := { dst := some 27, op := Op.move (Operand.tmp 26), type := 4, pos := "wire.go:70", after := #[{ on := 10, ground := Ground.data }, { on := 7, ground := Ground.chain }], guard := none }) (v := ?_) rfl (by kernel_rfl) (by kernel_rfl) (by kernel_rfl) (fun _ _ _ h => h) (Or.inl ⟨by rfl, ?hyr5x11q32⟩) (by assumption) ?restr5x11q32
        case hyr5x11q32 => intro wq hSw; (go_simp); (try with_reducible rfl)
        try simp only [Act.put, List.setIfInBounds_toArray, List.set_cons_zero, List.set_cons_succ]
        refine wpAnyH_take (i := 12) (oi := { dst := some 28, op := Op.move (Operand.tmp 6), type := 63, pos := "wire.go:70", after := #[{ on := 11, ground := Ground.guard }, { on := 17, ground := Ground.gcOnly Departure.lateStores }], guard := some (11, true) }) (v := undef) rfl (by kernel_rfl) (by kernel_rfl) (by kernel_rfl) (fun _ _ _ h => h) (Or.inr ⟨by rfl, rfl⟩) (by assumption) ?_
        try simp only [Act.put, List.setIfInBounds_toArray, List.set_cons_zero, List.set_cons_succ]
        refine wpAnyH_take (i := 13) (oi := { dst := some 29, op := Op.move (Operand.tmp 1), type := 63, pos := "wire.go:70", after := #[{ on := 11, ground := Ground.guard }, { on := 17, ground := Ground.gcOnly Departure.lateStores }], guard := some (11, true) }) (v := undef) rfl (by kernel_rfl) (by kernel_rfl) (by kernel_rfl) (fun _ _ _ h => h) (Or.inr ⟨by rfl, rfl⟩) (by assumption) ?_
        try simp only [Act.put, List.setIfInBounds_toArray, List.set_cons_zero, List.set_cons_succ]
        refine wpAnyH_take (i := 14) (oi := { dst := some 30, op := Op.binOp BinOp.leq 63 (Operand.tmp 28) (Operand.tmp 29) 63, type := 4, pos := "wire.go:70", after := #[{ on := 12, ground := Ground.data }, { on := 13, ground := Ground.data }, { on := 11, ground := Ground.guard }, { on := 17, ground := Ground.gcOnly Departure.lateStores }], guard := some (11, true) }) (v := undef) rfl (by kernel_rfl) (by kernel_rfl) (by kernel_rfl) (fun _ _ _ h => h) (Or.inr ⟨by rfl, rfl⟩) (by assumption) ?_
        try simp only [Act.put, List.setIfInBounds_toArray, List.set_cons_zero, List.set_cons_succ]
        refine wpAnyH_take (i := 15) (oi := { dst := some 31, op := Op.pick (Operand.tmp 27) (Operand.tmp 30) (Operand.const (Value.bool false)), type := 4, pos := "wire.go:70", after := #[{ on := 11, ground := Ground.data }, { on := 14, ground := Ground.data }, { on := 17, ground := Ground.gcOnly Departure.lateStores }], guard := none }) (v := ?_) rfl (by kernel_rfl) (by kernel_rfl) (by kernel_rfl) (fun _ _ _ h => h) (Or.inl ⟨by rfl, ?hyr5x15q41⟩) (by assumption) ?restr5x15q41
        case hyr5x15q41 => intro wq hSw; (go_simp); (try with_reducible rfl)
        try simp only [Act.put, List.setIfInBounds_toArray, List.set_cons_zero, List.set_cons_succ]
        refine wpAnyH_take (i := 16) (oi := { dst := some 32, op := Op.build 67 #[(0, Operand.tmp 20), (1, Operand.tmp 31)], type := 67, pos := "wire.go:70", after := #[{ on := 4, ground := Ground.data }, { on := 15, ground := Ground.data }, { on := 17, ground := Ground.gcOnly Departure.lateStores }], guard := none }) (v := ?_) rfl (by kernel_rfl) (by kernel_rfl) (by kernel_rfl) (fun _ _ _ h => h) (Or.inl ⟨by rfl, ?hyr5x16q44⟩) (by assumption) ?restr5x16q44
        case hyr5x16q44 => intro wq hSw; (go_simp); (try with_reducible rfl)
        try simp only [Act.put, List.setIfInBounds_toArray, List.set_cons_zero, List.set_cons_succ]
        refine wpAnyH_take (i := 17) (oi := { dst := some 4, op := Op.assign (Operand.tmp 16), type := 63, pos := "wire.go:70", after := #[{ on := 0, ground := Ground.data }, { on := 11, ground := Ground.chain }, { on := 0, ground := Ground.phase }, { on := 1, ground := Ground.textOnly Departure.lateStores }, { on := 2, ground := Ground.textOnly Departure.lateStores }, { on := 3, ground := Ground.textOnly Departure.lateStores }, { on := 4, ground := Ground.textOnly Departure.lateStoresUnsure }, { on := 5, ground := Ground.textOnly Departure.lateStores }, { on := 6, ground := Ground.textOnly Departure.lateStores }, { on := 7, ground := Ground.textOnly Departure.lateStores }, { on := 8, ground := Ground.textOnly Departure.lateStores }, { on := 9, ground := Ground.textOnly Departure.lateStores }, { on := 10, ground := Ground.textOnly Departure.lateStores }, { on := 11, ground := Ground.textOnly Departure.lateStores }, { on := 12, ground := Ground.textOnly Departure.lateStores }, { on := 13, ground := Ground.textOnly Departure.lateStores }, { on := 14, ground := Ground.textOnly Departure.lateStores }, { on := 15, ground := Ground.textOnly Departure.lateStores }, { on := 16, ground := Ground.textOnly Departure.lateStores }], guard := none }) (v := ?_) rfl (by kernel_rfl) (by kernel_rfl) (by kernel_rfl) (fun _ _ _ h => h) (Or.inl ⟨by rfl, ?hyr5x17q47⟩) (by assumption) ?restr5x17q47
        case hyr5x17q47 => intro wq hSw; (go_simp); (try with_reducible rfl)
        try simp only [Act.put, List.setIfInBounds_toArray, List.set_cons_zero, List.set_cons_succ]
        refine wpAnyH_ready (rs := [18]) (by kernel_rfl) (by simp) ?_
        refine AllReadyH.cons (o := { dst := none, op := Op.store 67 (Operand.tmp 5) (Operand.tmp 32), type := 0, pos := "wire.go:70", after := #[{ on := 16, ground := Ground.data }, { on := 17, ground := Ground.chain }, { on := 0, ground := Ground.phase }, { on := 1, ground := Ground.phase }, { on := 2, ground := Ground.phase }, { on := 3, ground := Ground.phase }, { on := 4, ground := Ground.phase }, { on := 5, ground := Ground.phase }, { on := 6, ground := Ground.phase }, { on := 7, ground := Ground.phase }, { on := 8, ground := Ground.phase }, { on := 9, ground := Ground.phase }, { on := 10, ground := Ground.phase }, { on := 11, ground := Ground.phase }, { on := 12, ground := Ground.phase }, { on := 13, ground := Ground.phase }, { on := 14, ground := Ground.phase }, { on := 15, ground := Ground.phase }, { on := 16, ground := Ground.phase }, { on := 17, ground := Ground.phase }], guard := none }) rfl (fun K hK => ?_) AllReadyH.nil
        go_simp
        refine hK.out _ _ ((Chg.setCell (Chg.setCell hHeld _ (fun x hx => hx)) _ (fun x hx => hx))) (fun hHeld => ?_)
        clear hK K
        try simp only [Act.put, List.setIfInBounds_toArray, List.set_cons_zero, List.set_cons_succ]
        refine wpAnyH_done (by kernel_rfl) ?_ _
        go_wp2_with fail
        refine bodyPost_ret (v := .tuple #[.int .u64 N, .agg #[.slice (some ⟨x, o, none⟩) (0) (0), .bool false]]) (by simp [results, Tryd.results27, go_sem, *]) rfl ?_
        rw [← HT.out]
        simp only []
        rw [HB.out]
        have k9 := ((kk.setNew (p := ⟨g2, 0, none⟩) (.slice (some ⟨x, o, none⟩) (0) (0)) hgw).setNew (p := ⟨g2, 1, none⟩) (.bool false) hgw).drew
        exact rd_done (sl_end (HS.out.nx k9) (Nat.le_refl _)) (by omega) (by omega) (.inr ⟨_, _, rfl⟩) (fun x' o' hx' => by cases hx' <;> exact ⟨_, rfl⟩) k9
      | true =>
        by_cases hE : E = 0
        · subst hE
          by_cases hl : N ≤ lim
          · have hlI : (N : Int) ≤ (lim : Int) := by omega
            have HB : Hid ((true && ((0 : Nat) == 0) && decide (N ≤ lim)) = true) := Lib.hid (by simp [*])
            go_wp2_with fail
            refine wp_region_held_drew (S := Chg (· ≠ g2) w2) (by kernel_rfl) ((Chg.refl _ w2).drew) (fun hHeld => ?_)
            refine wpAnyH_take (i := 0) (oi := { dst := some 16, op := Op.move (Operand.tmp 6), type := 63, pos := "wire.go:70", after := #[], guard := none }) (v := ?_) rfl (by kernel_rfl) (by kernel_rfl) (by kernel_rfl) (fun _ _ _ h => h) (Or.inl ⟨by rfl, ?hyr6x0q1⟩) (by assumption) ?restr6x0q1
            case hyr6x0q1 => intro wq hSw; (go_simp); (try with_reducible rfl)
            try simp only [Act.put, List.setIfInBounds_toArray, List.set_cons_zero, List.set_cons_succ]
            refine wpAnyH_take (i := 1) (oi := { dst := some 17, op := Op.fieldAddr 67 (Operand.tmp 2) 0, type := 0, pos := "wire.go:70", after := #[], guard := none }) (v := ?_) rfl (by kernel_rfl) (by kernel_rfl) (by kernel_rfl) (fun _ _ _ h => h) (Or.inl ⟨by rfl, ?hyr6x1q4⟩) (by assumption) ?restr6x1q4
            case hyr6x1q4 => intro wq hSw; (go_simp); (try with_reducible rfl)
            try simp only [Act.put, List.setIfInBounds_toArray, List.set_cons_zero, List.set_cons_succ]
            refine wpAnyH_take (i := 2) (oi := { dst := some 18, op := Op.load 23 (Operand.tmp 17), type := 23, pos := "wire.go:70", after := #[{ on := 1, ground := Ground.data }], guard := none }) (v := ?_) rfl (by kernel_rfl) (by kernel_rfl) (by kernel_rfl) (fun _ _ _ h => h) (Or.inl ⟨by rfl, ?hyr6x2q7⟩) (by assumption) ?restr6x2q7
            case hyr6x2q7 => intro wq hSw; (have cq := Chg.cellv hSw p0 hgg; go_simp); (try with_reducible rfl)
            try simp only [Act.put, List.setIfInBounds_toArray, List.set_cons_zero, List.set_cons_succ]
            refine wpAnyH_take (i := 3) (oi := { dst := some 19, op := Op.move (Operand.tmp 7), type := 3, pos := "wire.go:70", after := #[], guard := none }) (v := ?_) rfl (by kernel_rfl) (by kernel_rfl) (by kernel_rfl) (fun _ _ _ h => h) (Or.inl ⟨by rfl, ?hyr6x3q10⟩) (by assumption) ?restr6x3q10
            case hyr6x3q10 => intro wq hSw; (go_simp); (try with_reducible rfl)
            try simp only [Act.put, List.setIfInBounds_toArray, List.set_cons_zero, List.set_cons_succ]
            refine wpAnyH_take (i := 4) (oi := { dst := some 20, op := Op.slice 23 (Operand.tmp 18) (some (Operand.tmp 19)) none none, type := 23, pos := "wire.go:70", after := #[{ on := 2, ground := Ground.data }, { on := 3, ground := Ground.data }], guard := none }) (v := ?_) rfl (by kernel_rfl) (by kernel_rfl) (by kernel_rfl) (fun _ _ _ h => h) (Or.inl ⟨by rfl, ?hyr6x4q13⟩) (by assumption) ?restr6x4q13
            case hyr6x4q13 => intro wq hSw; (go_simp); (try with_reducible rfl)
            try simp only [Act.put, List.setIfInBounds_toArray, List.set_cons_zero, List.set_cons_succ]
            refine wpAnyH_take (i := 5) (oi := { dst := some 21, op := Op.fieldAddr 67 (Operand.tmp 2) 1, type := 0, pos := "wire.go:70", after := #[], guard := none }) (v := ?_) rfl (by kernel_rfl) (by kernel_rfl) (by kernel_rfl) (fun _ _ _ h => h) (Or.inl ⟨by rfl, ?hyr6x5q16⟩) (by assumption) ?restr6x5q16
            case hyr6x5q16 => intro wq hSw; (go_simp); (try with_reducible rfl)
            try simp only [Act.put, List.setIfInBounds_toArray, List.set_cons_zero, List.set_cons_succ]
            refine wpAnyH_take (i := 6) (oi := { dst := some 22, op := Op.load 4 (Operand.tmp 21), type := 4, pos := "wire.go:70", after := #[{ on := 5, ground := Ground.data }], guard := none }) (v := ?_) rfl (by kernel_rfl) (by kernel_rfl) (by kernel_rfl) (fun _ _ _ h => h) (Or.inl ⟨by rfl, ?hyr6x6q19⟩) (by assumption) ?restr6x6q19
            case hyr6x6q19 => intro wq hSw; (have cq := Chg.cellv hSw p1 hgg; go_simp); (try with_reducible rfl)
            try simp only [Act.put, List.setIfInBounds_toArray, List.set_cons_zero, List.set_cons_succ]
            refine wpAnyH_take (i := 7) (oi := { dst := some 23, op := Op.move (Operand.tmp 22), type := 4, pos := "wire.go:70", after := #[{ on := 6, ground := Ground.data }], guard := none }) (v := ?_) rfl (by kernel_rfl) (by kernel_rfl) (by kernel_rfl) (fun _ _ _ h => h) (Or.inl ⟨by rfl, ?hyr6x7q22⟩) (by assumption) ?restr6x7q22
            case hyr6x7q22 => intro wq hSw; (go_simp); (try with_reducible rfl)
            try simp only [Act.put, List.setIfInBounds_toArray, List.set_cons_zero, List.set_cons_succ]
            refine wpAnyH_take (i := 8) (oi := { dst := some 24, op := Op.move (Operand.tmp 8), type := 31, pos := "wire.go:70", after := #[{ on := 7, ground := Ground.guard }], guard := some (7, true) }) (v := ?_) rfl (by kernel_rfl) (by kernel_rfl) (by kernel_rfl) (fun _ _ _ h => h) (Or.inl ⟨by rfl, ?hyr6x8q25⟩) (by assumption) ?restr6x8q25
            case hyr6x8q25 => intro wq hSw; (go_simp); (try with_reducible rfl)
            try simp only [Act.put, List.setIfInBounds_toArray, List.set_cons_zero, List.set_cons_succ]
            refine wpAnyH_take (i := 9) (oi := { dst := some 25, op := Op.binOp BinOp.eql 31 (Operand.tmp 24) (Operand.const (Value.int IntKind.i64 0)) 31, type := 4, pos := "wire.go:70", after := #[{ on := 8, ground := Ground.data }, { on := 7, ground := Ground.guard }], guard := some (7, true) }) (v := ?_) rfl (by kernel_rfl) (by kernel_rfl) (by kernel_rfl) (fun _ _ _ h => h) (Or.inl ⟨by rfl, ?hyr6x9q28⟩) (by assumption) ?restr6x9q28
            case hyr6x9q28 => intro wq hSw; (go_simp); (try with_reducible rfl)
            try simp only [Act.put, List.setIfInBounds_toArray, List.set_cons_zero, List.set_cons_succ]
            refine wpAnyH_take (i := 10) (oi := { dst := some 26, op := Op.pick (Operand.tmp 23) (Operand.tmp 25) (Operand.const (Value.bool false)), type := 4, pos := "wire.go:70", after := #[{ on := 7, ground := Ground.data }, { on := 9, ground := Ground.data }], guard := none }) (v := ?_) rfl (by kernel_rfl) (by kernel_rfl) (by kernel_rfl) (fun _ _ _ h => h) (Or.inl ⟨by rfl, ?hyr6x10q31⟩) (by assumption) ?restr6x10q31
            case hyr6x10q31 => intro wq hSw; (go_simp); (try with_reducible rfl)
            try simp only [Act.put, List.setIfInBounds_toArray, List.set_cons_zero, List.set_cons_succ]
            refine wpAnyH_take (i := 11) (oi := { dst := some 27, op := Op.move (Operand.tmp 26), type := 4, pos := "wire.go:70", after := #[{ on := 10, ground := Ground.data }, { on := 7, ground := Ground.chain }], guard := none }) (v := ?_) rfl (by kernel_rfl) (by kernel_rfl) (by kernel_rfl) (fun _ _ _ h => h) (Or.inl ⟨by rfl, ?hyr6x11q34⟩) (by assumption) ?restr6x11q34
            case hyr6x11q34 => intro wq hSw; (go_simp); (try with_reducible rfl)
            try simp only [Act.put, List.setIfInBounds_toArray, List.set_cons_zero, List.set_cons_succ]
            refine wpAnyH_take (i := 12) (oi := { dst := some 28, op := Op.move (Operand.tmp 6), type := 63, pos := "wire.go:70", after := #[{ on := 11, ground := Ground.guard }, { on := 17, ground := Ground.gcOnly Departure.lateStores }], guard := some (11, true) }) (v := ?_) rfl (by kernel_rfl) (by kernel_rfl) (by kernel_rfl) (fun _ _ _ h => h) (Or.inl ⟨by rfl, ?hyr6x12q37⟩) (by assumption) ?restr6x12q37
            case hyr6x12q37 => intro wq hSw; (go_simp); (try with_reducible rfl)
            try simp only [Act.put, List.setIfInBounds_toArray, List.set_cons_zero, List.set_cons_succ]
            refine wpAnyH_take (i := 13) (oi := { dst := some 29, op := Op.move (Operand.tmp 1), type := 63, pos := "wire.go:70", after := #[{ on := 11, ground := Ground.guard }, { on := 17, ground := Ground.gcOnly Departure.lateStores }], guard := some (11, true) }) (v := ?_) rfl (by kernel_rfl) (by kernel_rfl) (by kernel_rfl) (fun _ _ _ h => h) (Or.inl ⟨by rfl, ?hyr6x13q40⟩) (by assumption) ?restr6x13q40
            case hyr6x13q40 => intro wq hSw; (go_simp); (try with_reducible rfl)
            try simp only [Act.put, List.setIfInBounds_toArray, List.set_cons_zero, List.set_cons_succ]
            refine wpAnyH_take (i := 14) (oi := { dst := some 30, op := Op.binOp BinOp.leq 63 (Operand.tmp 28) (Operand.tmp 29) 63, type := 4, pos := "wire.go:70", after := #[{ on := 12, ground := Ground.data }, { on := 13, ground := Ground.data }, { on := 11, ground := Ground.guard }, { on := 17, ground := Ground.gcOnly Departure.lateStores }], guard := some (11, true) }) (v := ?_) rfl (by kernel_rfl) (by kernel_rfl) (by kernel_rfl) (fun _ _ _ h => h) (Or.inl ⟨by rfl, ?hyr6x14q43⟩) (by assumption) ?restr6x14q43
            case hyr6x14q43 => intro wq hSw; (go_simp); (try with_reducible rfl)
            try simp only [Act.put, List.setIfInBounds_toArray, List.set_cons_zero, List.set_cons_succ]
            refine wpAnyH_take (i := 15) (oi := { dst := some 31, op := Op.pick (Operand.tmp 27) (Operand.tmp 30) (Operand.const (Value.bool false)), type := 4, pos := "wire.go:70", after := #[{ on := 11, ground := Ground.data }, { on := 14, ground := Ground.data }, { on := 17, ground := Ground.gcOnly Departure.lateStores }], guard := none }) (v := ?_) rfl (by kernel_rfl) (by kernel_rfl) (by kernel_rfl) (fun _ _ _ h => h) (Or.inl ⟨by rfl, ?hyr6x15q46⟩) (by assumption) ?restr6x15q46
            case hyr6x15q46 => intro wq hSw; (go_simp); (try with_reducible rfl)
            try simp only [Act.put, List.setIfInBounds_toArray, List.set_cons_zero, List.set_cons_succ]
            refine wpAnyH_take (i := 16) (oi := { dst := some 32, op := Op.build 67 #[(0, Operand.tmp 20), (1, Operand.tmp 31)], type := 67, pos := "wire.go:70", after := #[{ on := 4, ground := Ground.data }, { on := 15, ground := Ground.data }, { on := 17, ground := Ground.gcOnly Departure.lateStores }], guard := none }) (v := ?_) rfl (by kernel_rfl) (by kernel_rfl) (by kernel_rfl) (fun _ _ _ h => h) (Or.inl ⟨by rfl, ?hyr6x16q49⟩) (by assumption) ?restr6x16q49
            case hyr6x16q49 => intro wq hSw; (go_simp); (try with_reducible rfl)
            try simp only [Act.put, List.setIfInBounds_toArray, List.set_cons_zero, List.set_cons_succ]
            refine wpAnyH_take (i := 17) (oi := { dst := some 4, op := Op.assign (Operand.tmp 16), type := 63, pos := "wire.go:70", after := #[{ on := 0, ground := Ground.data }, { on := 11, ground := Ground.chain }, { on := 0, ground := Ground.phase }, { on := 1, ground := Ground.textOnly Departure.lateStores }, { on := 2, ground := Ground.textOnly Departure.lateStores }, { on := 3, ground := Ground.textOnly Departure.lateStores }, { on := 4, ground := Ground.textOnly Departure.lateStoresUnsure }, { on := 5, ground := Ground.textOnly Departure.lateStores }, { on := 6, ground := Ground.textOnly Departure.lateStores }, { on := 7, ground := Ground.textOnly Departure.lateStores }, { on := 8, ground := Ground.textOnly Departure.lateStores }, { on := 9, ground := Ground.textOnly Departure.lateStores }, { on := 10, ground := Ground.textOnly Departure.lateStores }, { on := 11, ground := Ground.textOnly Departure.lateStores }, { on := 12, ground := Ground.textOnly Departure.lateStores }, { on := 13, ground := Ground.textOnly Departure.lateStores }, { on := 14, ground := Ground.textOnly Departure.lateStores }, { on := 15, ground := Ground.textOnly Departure.lateStores }, { on := 16, ground := Ground.textOnly Departure.lateStores }], guard := none }) (v := ?_) rfl (by kernel_rfl) (by kernel_rfl) (by kernel_rfl) (fun _ _ _ h => h) (Or.inl ⟨by rfl, ?hyr6x17q52⟩) (by assumption) ?restr6x17q52
            case hyr6x17q52 => intro wq hSw; (go_simp); (try with_reducible rfl)
            try simp only [Act.put, List.setIfInBounds_toArray, List.set_cons_zero, List.set_cons_succ]
            refine wpAnyH_ready (rs := [18]) (by kernel_rfl) (by simp) ?_
            refine AllReadyH.cons (o := { dst := none, op := Op.store 67 (Operand.tmp 5) (Operand.tmp 32), type := 0, pos := "wire.go:70", after := #[{ on := 16, ground := Ground.data }, { on := 17, ground := Ground.chain }, { on := 0, ground := Ground.phase }, { on := 1, ground := Ground.phase }, { on := 2, ground := Ground.phase }, { on := 3, ground := Ground.phase }, { on := 4, ground := Ground.phase }, { on := 5, ground := Ground.phase }, { on := 6, ground := Ground.phase }, { on := 7, ground := Ground.phase }, { on := 8, ground := Ground.phase }, { on := 9, ground := Ground.phase }, { on := 10, ground := Ground.phase }, { on := 11, ground := Ground.phase }, { on := 12, ground := Ground.phase }, { on := 13, ground := Ground.phase }, { on := 14, ground := Ground.phase }, { on := 15, ground := Ground.phase }, { on := 16, ground := Ground.phase }, { on := 17, ground := Ground.phase }], guard := none }) rfl (fun K hK => ?_) AllReadyH.nil
            go_simp
            refine hK.out _ _ ((Chg.setCell (Chg.setCell hHeld _ (fun x hx => hx)) _ (fun x hx => hx))) (fun hHeld => ?_)
            clear hK K
            try simp only [Act.put, List.setIfInBounds_toArray, List.set_cons_zero, List.set_cons_succ]
            refine wpAnyH_done (by kernel_rfl) ?_ _
            go_wp2_with fail
            refine bodyPost_ret (v := .tuple #[.int .u64 N, .agg #[.slice (some ⟨x, o, none⟩) (0) (0), .bool true]]) (by simp [results, Tryd.results27, go_sem, *]) rfl ?_
            rw [← HT.out]
            simp only []
            rw [HB.out]
            have k9 := ((kk.setNew (p := ⟨g2, 0, none⟩) (.slice (some ⟨x, o, none⟩) (0) (0)) hgw).setNew (p := ⟨g2, 1, none⟩) (.bool true) hgw).drew
            exact rd_done (sl_end (HS.out.nx k9) (Nat.le_refl _)) (by omega) (by omega) (.inr ⟨_, _, rfl⟩) (fun x' o' hx' => by cases hx' <;> exact ⟨_, rfl⟩) k9
          · have hlI : ¬ (N : Int) ≤ (lim : Int) := by omega
            have HB : Hid ((true && ((0 : Nat) == 0) && decide (N ≤ lim)) = false) := Lib.hid (by simp [*])
            go_wp2_with fail
            refine wp_region_held_drew (S := Chg (· ≠ g2) w2) (by kernel_rfl) ((Chg.refl _ w2).drew) (fun hHeld => ?_)
            refine wpAnyH_take (i := 0) (oi := { dst := some 16, op := Op.move (Operand.tmp 6), type := 63, pos := "wire.go:70", after := #[], guard := none }) (v := ?_) rfl (by kernel_rfl) (by kernel_rfl) (by kernel_rfl) (fun _ _ _ h => h) (Or.inl ⟨by rfl, ?hyr7x0q1⟩) (by assumption) ?restr7x0q1
            case hyr7x0q1 => intro wq hSw; (go_simp); (try with_reducible rfl)
            try simp only [Act.put, List.setIfInBounds_toArray, List.set_cons_zero, List.set_cons_succ]
            refine wpAnyH_take (i := 1) (oi := { dst := some 17, op := Op.fieldAddr 67 (Operand.tmp 2) 0, type := 0, pos := "wire.go:70", after := #[], guard := none }) (v := ?_) rfl (by kernel_rfl) (by kernel_rfl) (by kernel_rfl) (fun _ _ _ h => h) (Or.inl ⟨by rfl, ?hyr7x1q4⟩) (by assumption) ?restr7x1q4
            case hyr7x1q4 => intro wq hSw; (go_simp); (try with_reducible rfl)
            try simp only [Act.put, List.setIfInBounds_toArray, List.set_cons_zero, List.set_cons_succ]
            refine wpAnyH_take (i := 2) (oi := { dst := some 18, op := Op.load 23 (Operand.tmp 17), type := 23, pos := "wire.go:70", after := #[{ on := 1, ground := Ground.data }], guard := none }) (v := ?_) rfl (by kernel_rfl) (by kernel_rfl) (by kernel_rfl) (fun _ _ _ h => h) (Or.inl ⟨by rfl, ?hyr7x2q7⟩) (by assumption) ?restr7x2q7
            case hyr7x2q7 => intro wq hSw; (have cq := Chg.cellv hSw p0 hgg; go_simp); (try with_reducible rfl)
            try simp only [Act.put, List.setIfInBounds_toArray, List.set_cons_zero, List.set_cons_succ]
            refine wpAnyH_take (i := 3) (oi := { dst := some 19, op := Op.move (Operand.tmp 7), type := 3, pos := "wire.go:70", after := #[], guard := none }) (v := ?_) rfl (by kernel_rfl) (by kernel_rfl) (by kernel_rfl) (fun _ _ _ h => h) (Or.inl ⟨by rfl, ?hyr7x3q10⟩) (by assumption) ?restr7x3q10
            case hyr7x3q10 => intro wq hSw; (go_simp); (try with_reducible rfl)
            try simp only [Act.put, List.setIfInBounds_toArray, List.set_cons_zero, List.set_cons_succ]
            refine wpAnyH_take (i := 4) (oi := { dst := some 20, op := Op.slice 23 (Operand.tmp 18) (some (Operand.tmp 19)) none none, type := 23, pos := "wire.go:70", after := #[{ on := 2, ground := Ground.data }, { on := 3, ground := Ground.data }], guard := none }) (v := ?_) rfl (by kernel_rfl) (by kernel_rfl) (by kernel_rfl) (fun _ _ _ h => h) (Or.inl ⟨by rfl, ?hyr7x4q13⟩) (by assumption) ?restr7x4q13
            case hyr7x4q13 => intro wq hSw; (go_simp); (try with_reducible rfl)
            try simp only [Act.put, List.setIfInBounds_toArray, List.set_cons_zero, List.set_cons_succ]
            refine wpAnyH_take (i := 5) (oi := { dst := some 21, op := Op.fieldAddr 67 (Operand.tmp 2) 1, type := 0, pos := "wire.go:70", after := #[], guard := none }) (v := ?_) rfl (by kernel_rfl) (by kernel_rfl) (by kernel_rfl) (fun _ _ _ h => h) (Or.inl ⟨by rfl, ?hyr7x5q16⟩) (by assumption) ?restr7x5q16
            case hyr7x5q16 => intro wq hSw; (go_simp); (try with_reducible rfl)
            try simp only [Act.put, List.setIfInBounds_toArray, List.set_cons_zero, List.set_cons_succ]
            refine wpAnyH_take (i := 6) (oi := { dst := some 22, op := Op.load 4 (Operand.tmp 21), type := 4, pos := "wire.go:70", after := #[{ on := 5, ground := Ground.data }], guard := none }) (v := ?_) rfl (by kernel_rfl) (by kernel_rfl) (by kernel_rfl) (fun _ _ _ h => h) (Or.inl ⟨by rfl, ?hyr7x6q19⟩) (by assumption) ?restr7x6q19
            case hyr7x6q19 => intro wq hSw; (have cq := Chg.cellv hSw p1 hgg; go_simp); (try with_reducible rfl)
            try simp only [Act.put, List.setIfInBounds_toArray, List.set_cons_zero, List.set_cons_succ]
            refine wpAnyH_take (i := 7) (oi := { dst := some 23, op := Op.move (Operand.tmp 22), type := 4, pos := "wire.go:70", after := #[{ on := 6, ground := Ground.data }], guard := none }) (v := ?_) rfl (by kernel_rfl) (by kernel_rfl) (by kernel_rfl) (fun _ _ _ h => h) (Or.inl ⟨by rfl, ?hyr7x7q22⟩) (by assumption) ?restr7x7q22
            case hyr7x7q22 => intro wq hSw; (go_simp); (try with_reducible rfl)
            try simp only [Act.put, List.setIfInBounds_toArray, List.set_cons_zero, List.set_cons_succ]
            refine wpAnyH_take (i := 8) (oi := { dst := some 24, op := Op.move (Operand.tmp 8), type := 31, pos := "wire.go:70", after := #[{ on := 7, ground := Ground.guard }], guard := some (7, true) }) (v := ?_) rfl (by kernel_rfl) (by kernel_rfl) (by kernel_rfl) (fun _ _ _ h => h) (Or.inl ⟨by rfl, ?hyr7x8q25⟩) (by assumption) ?restr7x8q25
            case hyr7x8q25 => intro wq hSw; (go_simp); (try with_reducible rfl)
            try simp only [Act.put, List.setIfInBounds_toArray, List.set_cons_zero, List.set_cons_succ]
            refine wpAnyH_take (i := 9) (oi := { dst := some 25, op := Op.binOp BinOp.eql 31 (Operand.tmp 24) (Operand.const (Value.int IntKind.i64 0)) 31, type := 4, pos := "wire.go:70", after := #[{ on := 8, ground := Ground.data }, { on := 7, ground := Ground.guard }], guard := some (7, true) }) (v := ?_) rfl (by kernel_rfl) (by kernel_rfl) (by kernel_rfl) (fun _ _ _ h => h) (Or.inl ⟨by rfl, ?hyr7x9q28⟩) (by assumption) ?restr7x9q28
            case hyr7x9q28 => intro wq hSw; (go_simp); (try with_reducible rfl)
            try simp only [Act.put, List.setIfInBounds_toArray, List.set_cons_zero, List.set_cons_succ]
            refine wpAnyH_take (i := 10) (oi := { dst := some 26, op := Op.pick (Operand.tmp 23) (Operand.tmp 25) (Operand.const (Value.bool false)), type := 4, pos := "wire.go:70", after := #[{ on := 7, ground := Ground.data }, { on := 9, ground := Ground.data }], guard := none }) (v := ?_) rfl (by kernel_rfl) (by kernel_rfl) (by kernel_rfl) (fun _ _ _ h => h) (Or.inl ⟨by rfl, ?hyr7x10q31⟩) (by assumption) ?restr7x10q31
            case hyr7x10q31 => intro wq hSw; (go_simp); (try with_reducible rfl)
            try simp only [Act.put, List.setIfInBounds_toArray, List.set_cons_zero, List.set_cons_succ]
            refine wpAnyH_take (i := 11) (oi := { dst := some 27, op := Op.move (Operand.tmp 26), type := 4, pos := "wire.go:70", after := #[{ on := 10, ground := Ground.data }, { on := 7, ground := Ground.chain }], guard := none }) (v := ?_) rfl (by kernel_rfl) (by kernel_rfl) (by kernel_rfl) (fun _ _ _ h => h) (Or.inl ⟨by rfl, ?hyr7x11q34⟩) (by assumption) ?restr7x11q34
            case hyr7x11q34 => intro wq hSw; (go_simp); (try with_reducible rfl)
            try simp only [Act.put, List.setIfInBounds_toArray, List.set_cons_zero, List.set_cons_succ]
            refine wpAnyH_take (i := 12) (oi := { dst := some 28, op := Op.move (Operand.tmp 6), type := 63, pos := "wire.go:70", after := #[{ on := 11, ground := Ground.guard }, { on := 17, ground := Ground.gcOnly Departure.lateStores }], guard := some (11, true) }) (v := ?_) rfl (by kernel_rfl) (by kernel_rfl) (by kernel_rfl) (fun _ _ _ h => h) (Or.inl ⟨by rfl, ?hyr7x12q37⟩) (by assumption) ?restr7x12q37
            case hyr7x12q37 => intro wq hSw; (go_simp); (try with_reducible rfl)
            try simp only [Act.put, List.setIfInBounds_toArray, List.set_cons_zero, List.set_cons_succ]
            refine wpAnyH_take (i := 13) (oi := { dst := some 29, op := Op.move (Operand.tmp 1), type := 63, pos := "wire.go:70", after := #[{ on := 11, ground := Ground.guard }, { on := 17, ground := Ground.gcOnly Departure.lateStores }], guard := some (11, true) }) (v := ?_) rfl (by kernel_rfl) (by kernel_rfl) (by kernel_rfl) (fun _ _ _ h => h) (Or.inl ⟨by rfl, ?hyr7x13q40⟩) (by assumption) ?restr7x13q40
            case hyr7x13q40 => intro wq hSw; (go_simp); (try with_reducible rfl)
            try simp only [Act.put, List.setIfInBounds_toArray, List.set_cons_zero, List.set_cons_succ]
            refine wpAnyH_take (i := 14) (oi := { dst := some 30, op := Op.binOp BinOp.leq 63 (Operand.tmp 28) (Operand.tmp 29) 63, type := 4, pos := "wire.go:70", after := #[{ on := 12, ground := Ground.data }, { on := 13, ground := Ground.data }, { on := 11, ground := Ground.guard }, { on := 17, ground := Ground.gcOnly Departure.lateStores }], guard := some (11, true) }) (v := ?_) rfl (by kernel_rfl) (by kernel_rfl) (by kernel_rfl) (fun _ _ _ h => h) (Or.inl ⟨by rfl, ?hyr7x14q43⟩) (by assumption) ?restr7x14q43
            case hyr7x14q43 => intro wq hSw; (go_simp); (try with_reducible rfl)
            try simp only [Act.put, List.setIfInBounds_toArray, List.set_cons_zero, List.set_cons_succ]
            refine wpAnyH_take (i := 15) (oi := { dst := some 31, op := Op.pick (Operand.tmp 27) (Operand.tmp 30) (Operand.const (Value.bool false)), type := 4, pos := "wire.go:70", after := #[{ on := 11, ground := Ground.data }, { on := 14, ground := Ground.data }, { on := 17, ground := Ground.gcOnly Departure.lateStores }], guard := none }) (v := ?_) rfl (by kernel_rfl) (by kernel_rfl) (by kernel_rfl) (fun _ _ _ h => h) (Or.inl ⟨by rfl, ?hyr7x15q46⟩) (by assumption) ?restr7x15q46
            case hyr7x15q46 => intro wq hSw; (go_simp); (try with_reducible rfl)
            try simp only [Act.put, List.setIfInBounds_toArray, List.set_cons_zero, List.set_cons_succ]
            refine wpAnyH_take (i := 16) (oi := { dst := some 32, op := Op.build 67 #[(0, Operand.tmp 20), (1, Operand.tmp 31)], type := 67, pos := "wire.go:70", after := #[{ on := 4, ground := Ground.data }, { on := 15, ground := Ground.data }, { on := 17, ground := Ground.gcOnly Departure.lateStores }], guard := none }) (v := ?_) rfl (by kernel_rfl) (by kernel_rfl) (by kernel_rfl) (fun _ _ _ h => h) (Or.inl ⟨by rfl, ?hyr7x16q49⟩) (by assumption) ?restr7x16q49
            case hyr7x16q49 => intro wq hSw; (go_simp); (try with_reducible rfl)
            try simp only [Act.put, List.setIfInBounds_toArray, List.set_cons_zero, List.set_cons_succ]
            refine wpAnyH_take (i := 17) (oi := { dst := some 4, op := Op.assign (Operand.tmp 16), type := 63, pos := "wire.go:70", after := #[{ on := 0, ground := Ground.data }, { on := 11, ground := Ground.chain }, { on := 0, ground := Ground.phase }, { on := 1, ground := Ground.textOnly Departure.lateStores }, { on := 2, ground := Ground.textOnly Departure.lateStores }, { on := 3, ground := Ground.textOnly Departure.lateStores }, { on := 4, ground := Ground.textOnly Departure.lateStoresUnsure }, { on := 5, ground := Ground.textOnly Departure.lateStores }, { on := 6, ground := Ground.textOnly Departure.lateStores }, { on := 7, ground := Ground.textOnly Departure.lateStores }, { on := 8, ground := Ground.textOnly Departure.lateStores }, { on := 9, ground := Ground.textOnly Departure.lateStores }, { on := 10, ground := Ground.textOnly Departure.lateStores }, { on := 11, ground := Ground.textOnly Departure.lateStores }, { on := 12, ground := Ground.textOnly Departure.lateStores }, { on := 13, ground := Ground.textOnly Departure.lateStores }, { on := 14, ground := Ground.textOnly Departure.lateStores }, { on := 15, ground := Ground.textOnly Departure.lateStores }, { on := 16, ground := Ground.textOnly Departure.lateStores }], guard := none }) (v := ?_) rfl (by kernel_rfl) (by kernel_rfl) (by kernel_rfl) (fun _ _ _ h => h) (Or.inl ⟨by rfl, ?hyr7x17q52⟩) (by assumption) ?restr7x17q52
            case hyr7x17q52 => intro wq hSw; (go_simp); (try with_reducible rfl)
            try simp only [Act.put, List.setIfInBounds_toArray, List.set_cons_zero, List.set_cons_succ]
            refine wpAnyH_ready (rs := [18]) (by kernel_rfl) (by simp) ?_
            refine AllReadyH.cons (o := { dst := none, op := Op.store 67 (Operand.tmp 5) (Operand.tmp 32), type := 0, pos := "wire.go:70", after := #[{ on := 16, ground := Ground.data }, { on := 17, ground := Ground.chain }, { on := 0, ground := Ground.phase }, { on := 1, ground := Ground.phase }, { on := 2, ground := Ground.phase }, { on := 3, ground := Ground.phase }, { on := 4, ground := Ground.phase }, { on := 5, ground := Ground.phase }, { on := 6, ground := Ground.phase }, { on := 7, ground := Ground.phase }, { on := 8, ground := Ground.phase }, { on := 9, ground := Ground.phase }, { on := 10, ground := Ground.phase }, { on := 11, ground := Ground.phase }, { on := 12, ground := Ground.phase }, { on := 13, ground := Ground.phase }, { on := 14, ground := Ground.phase }, { on := 15, ground := Ground.phase }, { on := 16, ground := Ground.phase }, { on := 17, ground := Ground.phase }], guard := none }) rfl (fun K hK => ?_) AllReadyH.nil
            go_simp
            refine hK.out _ _ ((Chg.setCell (Chg.setCell hHeld _ (fun x hx => hx)) _ (fun x hx => hx))) (fun hHeld => ?_)
            clear hK K
            try simp only [Act.put, List.setIfInBounds_toArray, List.set_cons_zero, List.set_cons_succ]
            refine wpAnyH_done (by kernel_rfl) ?_ _
            go_wp2_with fail
            refine bodyPost_ret (v := .tuple #[.int .u64 N, .agg #[.slice (some ⟨x, o, none⟩) (0) (0), .bool false]]) (by simp [results, Tryd.results27, go_sem, *]) rfl ?_
            rw [← HT.out]
            simp only []
            rw [HB.out]
            have k9 := ((kk.setNew (p := ⟨g2, 0, none⟩) (.slice (some ⟨x, o, none⟩) (0) (0)) hgw).setNew (p := ⟨g2, 1, none⟩) (.bool false) hgw).drew
            exact rd_done (sl_end (HS.out.nx k9) (Nat.le_refl _)) (by omega) (by omega) (.inr ⟨_, _, rfl⟩) (fun x' o' hx' => by cases hx' <;> exact ⟨_, rfl⟩) k9
        · have hEI : ((E : Int) == 0) = false := beq_eq_false_iff_ne.2 (by omega)
          have HB : Hid ((true && (E == 0) && decide (N ≤ lim)) = false) := Lib.hid (by simp [*])
          go_wp2_with fail
          refine wp_region_held_drew (S := Chg (· ≠ g2) w2) (by kernel_rfl) ((Chg.refl _ w2).drew) (fun hHeld => ?_)
          refine wpAnyH_take (i := 0) (oi := { dst := some 16, op := Op.move (Operand.tmp 6), type := 63, pos := "wire.go:70", after := #[], guard := none }) (v := ?_) rfl (by kernel_rfl) (by kernel_rfl) (by kernel_rfl) (fun _ _ _ h => h) (Or.inl ⟨by rfl, ?hyr8x0q1⟩) (by assumption) ?restr8x0q1
          case hyr8x0q1 => intro wq hSw; (go_simp); (try with_reducible rfl)
          try simp only [Act.put, List.setIfInBounds_toArray, List.set_cons_zero, List.set_cons_succ]
          refine wpAnyH_take (i := 1) (oi := { dst := some 17, op := Op.fieldAddr 67 (Operand.tmp 2) 0, type := 0, pos := "wire.go:70", after := #[], guard := none }) (v := ?_) rfl (by kernel_rfl) (by kernel_rfl) (by kernel_rfl) (fun _ _ _ h => h) (Or.inl ⟨by rfl, ?hyr8x1q4⟩) (by assumption) ?restr8x1q4
          case hyr8x1q4 => intro wq hSw; (go_simp); (try with_reducible rfl)
          try simp only [Act.put, List.setIfInBounds_toArray, List.set_cons_zero, List.set_cons_succ]
          refine wpAnyH_take (i := 2) (oi := { dst := some 18, op := Op.load 23 (Operand.tmp 17), type := 23, pos := "wire.go:70", after := #[{ on := 1, ground := Ground.data }], guard := none }) (v := ?_) rfl (by kernel_rfl) (by kernel_rfl) (by kernel_rfl) (fun _ _ _ h => h) (Or.inl ⟨by rfl, ?hyr8x2q7⟩) (by assumption) ?restr8x2q7
          case hyr8x2q7 => intro wq hSw; (have cq := Chg.cellv hSw p0 hgg; go_simp); (try with_reducible rfl)
          try simp only [Act.put, List.setIfInBounds_toArray, List.set_cons_zero, List.set_cons_succ]
          refine wpAnyH_take (i := 3) (oi := { dst := some 19, op := Op.move (Operand.tmp 7), type := 3, pos := "wire.go:70", after := #[], guard := none }) (v := ?_) rfl (by kernel_rfl) (by kernel_rfl) (by kernel_rfl) (fun _ _ _ h => h) (Or.inl ⟨by rfl, ?hyr8x3q10⟩) (by assumption) ?restr8x3q10
          case hyr8x3q10 => intro wq hSw; (go_simp); (try with_reducible rfl)
          try simp only [Act.put, List.setIfInBounds_toArray, List.set_cons_zero, List.set_cons_succ]
          refine wpAnyH_take (i := 4) (oi := { dst := some 20, op := Op.slice 23 (Operand.tmp 18) (some (Operand.tmp 19)) none none, type := 23, pos := "wire.go:70", after := #[{ on := 2, ground := Ground.data }, { on := 3, ground := Ground.data }], guard := none }) (v := ?_) rfl (by kernel_rfl) (by kernel_rfl) (by kernel_rfl) (fun _ _ _ h => h) (Or.inl ⟨by rfl, ?hyr8x4q13⟩) (by assumption) ?restr8x4q13
          case hyr8x4q13 => intro wq hSw; (go_simp); (try with_reducible rfl)
          try simp only [Act.put, List.setIfInBounds_toArray, List.set_cons_zero, List.set_cons_succ]
          refine wpAnyH_take (i := 5) (oi := { dst := some 21, op := Op.fieldAddr 67 (Operand.tmp 2) 1, type := 0, pos := "wire.go:70", after := #[], guard := none }) (v := ?_) rfl (by kernel_rfl) (by kernel_rfl) (by kernel_rfl) (fun _ _ _ h => h) (Or.inl ⟨by rfl, ?hyr8x5q16⟩) (by assumption) ?restr8x5q16
          case hyr8x5q16 => intro wq hSw; (go_simp); (try with_reducible rfl)
          try simp only [Act.put, List.setIfInBounds_toArray, List.set_cons_zero, List.set_cons_succ]
          refine wpAnyH_take (i := 6) (oi := { dst := some 22, op := Op.load 4 (Operand.tmp 21), type := 4, pos := "wire.go:70", after := #[{ on := 5, ground := Ground.data }], guard := none }) (v := ?_) rfl (by kernel_rfl) (by kernel_rfl) (by kernel_rfl) (fun _ _ _ h => h) (Or.inl ⟨by rfl, ?hyr8x6q19⟩) (by assumption) ?restr8x6q19
          case hyr8x6q19 => intro wq hSw; (have cq := Chg.cellv hSw p1 hgg; go_simp); (try with_reducible rfl)
          try simp only [Act.put, List.setIfInBounds_toArray, List.set_cons_zero, List.set_cons_succ]
          refine wpAnyH_take (i := 7) (oi := { dst := some 23, op := Op.move (Operand.tmp 22), type := 4, pos := "wire.go:70", after := #[{ on := 6, ground := Ground.data }], guard := none }) (v := ?_) rfl (by kernel_rfl) (by kernel_rfl) (by kernel_rfl) (fun _ _ _ h => h) (Or.inl ⟨by rfl, ?hyr8x7q22⟩) (by assumption) ?restr8x7q22
          case hyr8x7q22 => intro wq hSw; (go_simp); (try with_reducible rfl)
          try simp only [Act.put, List.setIfInBounds_toArray, List.set_cons_zero, List.set_cons_succ]
          refine wpAnyH_take (i := 8) (oi := { dst := some 24, op := Op.move (Operand.tmp 8), type := 31, pos := "wire.go:70", after := #[{ on := 7, ground := Ground.guard }], guard := some (7, true) }) (v := ?_) rfl (by kernel_rfl) (by kernel_rfl) (by kernel_rfl) (fun _ _ _ h => h) (Or.inl ⟨by rfl, ?hyr8x8q25⟩) (by assumption) ?restr8x8q25
          case hyr8x8q25 => intro wq hSw; (go_simp); (try with_reducible rfl)
          try simp only [Act.put, List.setIfInBounds_toArray, List.set_cons_zero, List.set_cons_succ]
          refine wpAnyH_take (i := 9) (oi := { dst := some 25, op := Op.binOp BinOp.eql 31 (Operand.tmp 24) (Operand.const (Value.int IntKind.i64 0)) 31, type := 4, pos := "wire.go:70", after := #[{ on := 8, ground := Ground.data }, { on := 7, ground := Ground.guard }], guard := some (7, true) }) (v := ?_) rfl (by kernel_rfl) (by kernel_rfl) (by kernel_rfl) (fun _ _ _ h => h) (Or.inl ⟨by rfl, ?hyr8x9q28⟩) (by assumption) ?restr8x9q28
          case hyr8x9q28 => intro wq hSw; (go_simp); (try with_reducible rfl)
          try simp only [Act.put, List.setIfInBounds_toArray, List.set_cons_zero, List.set_cons_succ]
          refine wpAnyH_take (i := 10) (oi := { dst := some 26, op := Op.pick (Operand.tmp 23) (Operand.tmp 25) (Operand.const (Value.bool false)), type := 4, pos := "wire.go:70", after := #[{ on := 7, ground := Ground.data }, { on := 9, ground := Ground.data }], guard := none }) (v := ?_) rfl (by kernel_rfl) (by kernel_rfl) (by kernel_rfl) (fun _ _ _ h => h) (Or.inl ⟨by rfl, ?hyr8x10q31⟩) (by assumption) ?restr8x10q31
          case hyr8x10q31 => intro wq hSw; (go_simp); (try with_reducible rfl)
          try simp only [Act.put, List.setIfInBounds_toArray, List.set_cons_zero, List.set_cons_succ]
          refine wpAnyH_take (i := 11) (oi := { dst := some 27, op := Op.move (Operand.tmp 26), type := 4, pos := "wire.go:70", after := #[{ on := 10, ground := Ground.data }, { on := 7, ground := Ground.chain }], guard := none }) (v := ?_) rfl (by kernel_rfl) (by kernel_rfl) (by kernel_rfl) (fun _ _ _ h => h) (Or.inl ⟨by rfl, ?hyr8x11q34⟩) (by assumption) ?restr8x11q34
          case hyr8x11q34 => intro wq hSw; (go_simp); (try with_reducible rfl)
          try simp only [Act.put, List.setIfInBounds_toArray, List.set_cons_zero, List.set_cons_succ]
          refine wpAnyH_take (i := 12) (oi := { dst := some 28, op := Op.move (Operand.tmp 6), type := 63, pos := "wire.go:70", after := #[{ on := 11, ground := Ground.guard }, { on := 17, ground := Ground.gcOnly Departure.lateStores }], guard := some (11, true) }) (v := undef) rfl (by kernel_rfl) (by kernel_rfl) (by kernel_rfl) (fun _ _ _ h => h) (Or.inr ⟨by rfl, rfl⟩) (by assumption) ?_
          try simp only [Act.put, List.setIfInBounds_toArray, List.set_cons_zero, List.set_cons_succ]
          refine wpAnyH_take (i := 13) (oi := { dst := some 29, op := Op.move (Operand.tmp 1), type := 63, pos := "wire.go:70", after := #[{ on := 11, ground := Ground.guard }, { on := 17, ground := Ground.gcOnly Departure.lateStores }], guard := some (11, true) }) (v := undef) rfl (by kernel_rfl) (by kernel_rfl) (by kernel_rfl) (fun _ _ _ h => h) (Or.inr ⟨by rfl, rfl⟩) (by assumption) ?_
          try simp only [Act.put, List.setIfInBounds_toArray, List.set_cons_zero, List.set_cons_succ]
          refine wpAnyH_take (i := 14) (oi := { dst := some 30, op := Op.binOp BinOp.leq 63 (Operand.tmp 28) (Operand.tmp 29) 63, type := 4, pos := "wire.go:70", after := #[{ on := 12, ground := Ground.data }, { on := 13, ground := Ground.data }, { on := 11, ground := Ground.guard }, { on := 17, ground := Ground.gcOnly Departure.lateStores }], guard := some (11, true) }) (v := undef) rfl (by kernel_rfl) (by kernel_rfl) (by kernel_rfl) (fun _ _ _ h => h) (Or.inr ⟨by rfl, rfl⟩) (by assumption) ?_
          try simp only [Act.put, List.setIfInBounds_toArray, List.set_cons_zero, List.set_cons_succ]
          refine wpAnyH_take (i := 15) (oi := { dst := some 31, op := Op.pick (Operand.tmp 27) (Operand.tmp 30) (Operand.const (Value.bool false)), type := 4, pos := "wire.go:70", after := #[{ on := 11, ground := Ground.data }, { on := 14, ground := Ground.data }, { on := 17, ground := Ground.gcOnly Departure.lateStores }], guard := none }) (v := ?_) rfl (by kernel_rfl) (by kernel_rfl) (by kernel_rfl) (fun _ _ _ h => h) (Or.inl ⟨by rfl, ?hyr8x15q43⟩) (by assumption) ?restr8x15q43
          case hyr8x15q43 => intro wq hSw; (go_simp); (try with_reducible rfl)
          try simp only [Act.put, List.setIfInBounds_toArray, List.set_cons_zero, List.set_cons_succ]
          refine wpAnyH_take (i := 16) (oi := { dst := some 32, op := Op.build 67 #[(0, Operand.tmp 20), (1, Operand.tmp 31)], type := 67, pos := "wire.go:70", after := #[{ on := 4, ground := Ground.data }, { on := 15, ground := Ground.data }, { on := 17, ground := Ground.gcOnly Departure.lateStores }], guard := none }) (v := ?_) rfl (by kernel_rfl) (by kernel_rfl) (by kernel_rfl) (fun _ _ _ h => h) (Or.inl ⟨by rfl, ?hyr8x16q46⟩) (by assumption) ?restr8x16q46
          case hyr8x16q46 => intro wq hSw; (go_simp); (try with_reducible rfl)
          try simp only [Act.put, List.setIfInBounds_toArray, List.set_cons_zero, List.set_cons_succ]
          refine wpAnyH_take (i := 17) (oi := { dst := some 4, op := Op.assign (Operand.tmp 16), type := 63, pos := "wire.go:70", after := #[{ on := 0, ground := Ground.data }, { on := 11, ground := Ground.chain }, { on := 0, ground := Ground.phase }, { on := 1, ground := Ground.textOnly Departure.lateStores }, { on := 2, ground := Ground.textOnly Departure.lateStores }, { on := 3, ground := Ground.textOnly Departure.lateStores }, { on := 4, ground := Ground.textOnly Departure.lateStoresUnsure }, { on := 5, ground := Ground.textOnly Departure.lateStores }, { on := 6, ground := Ground.textOnly Departure.lateStores }, { on := 7, ground := Ground.textOnly Departure.lateStores }, { on := 8, ground := Ground.textOnly Departure.lateStores }, { on := 9, ground := Ground.textOnly Departure.lateStores }, { on := 10, ground := Ground.textOnly Departure.lateStores }, { on := 11, ground := Ground.textOnly Departure.lateStores }, { on := 12, ground := Ground.textOnly Departure.lateStores }, { on := 13, ground := Ground.textOnly Departure.lateStores }, { on := 14, ground := Ground.textOnly Departure.lateStores }, { on := 15, ground := Ground.textOnly Departure.lateStores }, { on := 16, ground := Ground.textOnly Departure.lateStores }], guard := none }) (v := ?_) rfl (by kernel_rfl) (by kernel_rfl) (by kernel_rfl) (fun _ _ _ h => h) (Or.inl ⟨by rfl, ?hyr8x17q49⟩) (by assumption) ?restr8x17q49
          case hyr8x17q49 => intro wq hSw; (go_simp); (try with_reducible rfl)
          try simp only [Act.put, List.setIfInBounds_toArray, List.set_cons_zero, List.set_cons_succ]
          refine wpAnyH_ready (rs := [18]) (by kernel_rfl) (by simp) ?_
          refine AllReadyH.cons (o := { dst := none, op := Op.store 67 (Operand.tmp 5) (Operand.tmp 32), type := 0, pos := "wire.go:70", after := #[{ on := 16, ground := Ground.data }, { on := 17, ground := Ground.chain }, { on := 0, ground := Ground.phase }, { on := 1, ground := Ground.phase }, { on := 2, ground := Ground.phase }, { on := 3, ground := Ground.phase }, { on := 4, ground := Ground.phase }, { on := 5, ground := Ground.phase }, { on := 6, ground := Ground.phase }, { on := 7, ground := Ground.phase }, { on := 8, ground := Ground.phase }, { on := 9, ground := Ground.phase }, { on := 10, ground := Ground.phase }, { on := 11, ground := Ground.phase }, { on := 12, ground := Ground.phase }, { on := 13, ground := Ground.phase }, { on := 14, ground := Ground.phase }, { on := 15, ground := Ground.phase }, { on := 16, ground := Ground.phase }, { on := 17, ground := Ground.phase }], guard := none }) rfl (fun K hK => ?_) AllReadyH.nil
          go_simp
          refine hK.out _ _ ((Chg.setCell (Chg.setCell hHeld _ (fun x hx => hx)) _ (fun x hx => hx))) (fun hHeld => ?_)
          clear hK K
          try simp only [Act.put, List.setIfInBounds_toArray, List.set_cons_zero, List.set_cons_succ]
          refine wpAnyH_done (by kernel_rfl) ?_ _
          go_wp2_with fail
          refine bodyPost_ret (v := .tuple #[.int .u64 N, .agg #[.slice (some ⟨x, o, none⟩) (0) (0), .bool false]]) (by simp [results, Tryd.results27, go_sem, *]) rfl ?_
          rw [← HT.out]
          simp only []
          rw [HB.out]
          have k9 := ((kk.setNew (p := ⟨g2, 0, none⟩) (.slice (some ⟨x, o, none⟩) (0) (0)) hgw).setNew (p := ⟨g2, 1, none⟩) (.bool false) hgw).drew
          exact rd_done (sl_end (HS.out.nx k9) (Nat.le_refl _)) (by omega) (by omega) (.inr ⟨_, _, rfl⟩) (fun x' o' hx' => by cases hx' <;> exact ⟨_, rfl⟩) k9
    · have hcK' : ¬ c = K := hcK
      cases ok with
      | false =>
        have HB : Hid ((false && (E == 0) && decide (N ≤ lim)) = false) := Lib.hid (by simp [*])
        go_wp2_with fail
        refine wp_region_held_drew (S := Chg (· ≠ g2) w2) (by kernel_rfl) ((Chg.refl _ w2).drew) (fun hHeld => ?_)
        refine wpAnyH_take (i := 0) (oi := { dst := some 16, op := Op.move (Operand.tmp 6), type := 63, pos := "wire.go:70", after := #[], guard := none }) (v := ?_) rfl (by kernel_rfl) (by kernel_rfl) (by kernel_rfl) (fun _ _ _ h => h) (Or.inl ⟨by rfl, ?hyr9x0q1⟩) (by assumption) ?restr9x0q1
        case hyr9x0q1 => intro wq hSw; (go_simp); (try with_reducible rfl)
        try simp only [Act.put, List.setIfInBounds_toArray, List.set_cons_zero, List.set_cons_succ]
        refine wpAnyH_take (i := 1) (oi := { dst := some 17, op := Op.fieldAddr 67 (Operand.tmp 2) 0, type := 0, pos := "wire.go:70", after := #[], guard := none }) (v := ?_) rfl (by kernel_rfl) (by kernel_rfl) (by kernel_rfl) (fun _ _ _ h => h) (Or.inl ⟨by rfl, ?hyr9x1q4⟩) (by assumption) ?restr9x1q4
        case hyr9x1q4 => intro wq hSw; (go_simp); (try with_reducible rfl)
        try simp only [Act.put, List.setIfInBounds_toArray, List.set_cons_zero, List.set_cons_succ]
        refine wpAnyH_take (i := 2) (oi := { dst := some 18, op := Op.load 23 (Operand.tmp 17), type := 23, pos := "wire.go:70", after := #[{ on := 1, ground := Ground.data }], guard := none }) (v := ?_) rfl (by kernel_rfl) (by kernel_rfl) (by kernel_rfl) (fun _ _ _ h => h) (Or.inl ⟨by rfl, ?hyr9x2q7⟩) (by assumption) ?restr9x2q7
        case hyr9x2q7 => intro wq hSw; (have cq := Chg.cellv hSw p0 hgg; go_simp); (try with_reducible rfl)
        try simp only [Act.put, List.setIfInBounds_toArray, List.set_cons_zero, List.set_cons_succ]
        refine wpAnyH_take (i := 3) (oi := { dst := some 19, op := Op.move (Operand.tmp 7), type := 3, pos := "wire.go:70", after := #[], guard := none }) (v := ?_) rfl (by kernel_rfl) (by kernel_rfl) (by kernel_rfl) (fun _ _ _ h => h) (Or.inl ⟨by rfl, ?hyr9x3q10⟩) (by assumption) ?restr9x3q10
        case hyr9x3q10 => intro wq hSw; (go_simp); (try with_reducible rfl)
        try simp only [Act.put, List.setIfInBounds_toArray, List.set_cons_zero, List.set_cons_succ]
        refine wpAnyH_take (i := 4) (oi := { dst := some 20, op := Op.slice 23 (Operand.tmp 18) (some (Operand.tmp 19)) none none, type := 23, pos := "wire.go:70", after := #[{ on := 2, ground := Ground.data }, { on := 3, ground := Ground.data }], guard := none }) (v := ?_) rfl (by kernel_rfl) (by kernel_rfl) (by kernel_rfl) (fun _ _ _ h => h) (Or.inl ⟨by rfl, ?hyr9x4q13⟩) (by assumption) ?restr9x4q13
        case hyr9x4q13 => intro wq hSw; (go_simp); (try with_reducible rfl)
        try simp only [Act.put, List.setIfInBounds_toArray, List.set_cons_zero, List.set_cons_succ]
        refine wpAnyH_take (i := 5) (oi := { dst := some 21, op := Op.fieldAddr 67 (Operand.tmp 2) 1, type := 0, pos := "wire.go:70", after := #[], guard := none }) (v := ?_) rfl (by kernel_rfl) (by kernel_rfl) (by kernel_rfl) (fun _ _ _ h => h) (Or.inl ⟨by rfl, ?hyr9x5q16⟩) (by assumption) ?restr9x5q16
        case hyr9x5q16 => intro wq hSw; (go_simp); (try with_reducible rfl)
        try simp only [Act.put, List.setIfInBounds_toArray, List.set_cons_zero, List.set_cons_succ]
        refine wpAnyH_take (i := 6) (oi := { dst := some 22, op := Op.load 4 (Operand.tmp 21), type := 4, pos := "wire.go:70", after := #[{ on := 5, ground := Ground.data }], guard := none }) (v := ?_) rfl (by kernel_rfl) (by kernel_rfl) (by kernel_rfl) (fun _ _ _ h => h) (Or.inl ⟨by rfl, ?hyr9x6q19⟩) (by assumption) ?restr9x6q19
        case hyr9x6q19 => intro wq hSw; (have cq := Chg.cellv hSw p1 hgg; go_simp); (try with_reducible rfl)
        try simp only [Act.put, List.setIfInBounds_toArray, List.set_cons_zero, List.set_cons_succ]
        refine wpAnyH_take (i := 7) (oi := { dst := some 23, op := Op.move (Operand.tmp 22), type := 4, pos := "wire.go:70", after := #[{ on := 6, ground := Ground.data }], guard := none }) (v := ?_) rfl (by kernel_rfl) (by kernel_rfl) (by kernel_rfl) (fun _ _ _ h => h) (Or.inl ⟨by rfl, ?hyr9x7q22⟩) (by assumption) ?restr9x7q22
        case hyr9x7q22 => intro wq hSw; (go_simp); (try with_reducible rfl)
        try simp only [Act.put, List.setIfInBounds_toArray, List.set_cons_zero, List.set_cons_succ]
        refine wpAnyH_take (i := 8) (oi := { dst := some 24, op := Op.move (Operand.tmp 8), type := 31, pos := "wire.go:70", after := #[{ on := 7, ground := Ground.guard }], guard := some (7, true) }) (v := undef) rfl (by kernel_rfl) (by kernel_rfl) (by kernel_rfl) (fun _ _ _ h => h) (Or.inr ⟨by rfl, rfl⟩) (by assumption) ?_
        try simp only [Act.put, List.setIfInBounds_toArray, List.set_cons_zero, List.set_cons_succ]
        refine wpAnyH_take (i := 9) (oi := { dst := some 25, op := Op.binOp BinOp.eql 31 (Operand.tmp 24) (Operand.const (Value.int IntKind.i64 0)) 31, type := 4, pos := "wire.go:70", after := #[{ on := 8, ground := Ground.data }, { on := 7, ground := Ground.guard }], guard := some (7, true) }) (v := undef) rfl (by kernel_rfl) (by kernel_rfl) (by kernel_rfl) (fun _ _ _ h => h) (Or.inr ⟨by rfl, rfl⟩) (by assumption) ?_
        try simp only [Act.put, List.setIfInBounds_toArray, List.set_cons_zero, List.set_cons_succ]
        refine wpAnyH_take (i := 10) (oi := { dst := some 26, op := Op.pick (Operand.tmp 23) (Operand.tmp 25) (Operand.const (Value.bool false)), type := 4, pos := "wire.go:70", after := #[{ on := 7, ground := Ground.data }, { on := 9, ground := Ground.data }], guard := none }) (v := ?_) rfl (by kernel_rfl) (by kernel_rfl) (by kernel_rfl) (fun _ _ _ h => h) (Or.inl ⟨by rfl, ?hyr9x10q29⟩) (by assumption) ?restr9x10q29
        case hyr9x10q29 => intro wq hSw; (go_simp); (try with_reducible rfl)
        try simp only [Act.put, List.setIfInBounds_toArray, List.set_cons_zero, List.set_cons_succ]
        refine wpAnyH_take (i := 11) (oi := { dst := some 27, op := Op.move (Operand.tmp 26), type := 4, pos := "wire.go:70", after := #[{ on := 10, ground := Ground.data }, { on := 7, ground := Ground.chain }], guard := none }) (v := ?_) rfl (by kernel_rfl) (by kernel_rfl) (by kernel_rfl) (fun _ _ _ h => h) (Or.inl ⟨by rfl, ?hyr9x11q32⟩) (by assumption) ?restr9x11q32
        case hyr9x11q32 => intro wq hSw; (go_simp); (try with_reducible rfl)
        try simp only [Act.put, List.setIfInBounds_toArray, List.set_cons_zero, List.set_cons_succ]
        refine wpAnyH_take (i := 12) (oi := { dst := some 28, op := Op.move (Operand.tmp 6), type := 63, pos := "wire.go:70", after := #[{ on := 11, ground := Ground.guard }, { on := 17, ground := Ground.gcOnly Departure.lateStores }], guard := some (11, true) }) (v := undef) rfl (by kernel_rfl) (by kernel_rfl) (by kernel_rfl) (fun _ _ _ h => h) (Or.inr ⟨by rfl, rfl⟩) (by assumption) ?_
        try simp only [Act.put, List.setIfInBounds_toArray, List.set_cons_zero, List.set_cons_succ]
        refine wpAnyH_take (i := 13) (oi := { dst := some 29, op := Op.move (Operand.tmp 1), type := 63, pos := "wire.go:70", after := #[{ on := 11, ground := Ground.guard }, { on := 17, ground := Ground.gcOnly Departure.lateStores }], guard := some (11, true) }) (v := undef) rfl (by kernel_rfl) (by kernel_rfl) (by kernel_rfl) (fun _ _ _ h => h) (Or.inr ⟨by rfl, rfl⟩) (by assumption) ?_
        try simp only [Act.put, List.setIfInBounds_toArray, List.set_cons_zero, List.set_cons_succ]
        refine wpAnyH_take (i := 14) (oi := { dst := some 30, op := Op.binOp BinOp.leq 63 (Operand.tmp 28) (Operand.tmp 29) 63, type := 4, pos := "wire.go:70", after := #[{ on := 12, ground := Ground.data }, { on := 13, ground := Ground.data }, { on := 11, ground := Ground.guard }, { on := 17, ground := Ground.gcOnly Departure.lateStores }], guard := some (11, true) }) (v := undef) rfl (by kernel_rfl) (by kernel_rfl) (by kernel_rfl) (fun _ _ _ h => h) (Or.inr ⟨by rfl, rfl⟩) (by assumption) ?_
        try simp only [Act.put, List.setIfInBounds_toArray, List.set_cons_zero, List.set_cons_succ]
        refine wpAnyH_take (i := 15) (oi := { dst := some 31, op := Op.pick (Operand.tmp 27) (Operand.tmp 30) (Operand.const (Value.bool false)), type := 4, pos := "wire.go:70", after := #[{ on := 11, ground := Ground.data }, { on := 14, ground := Ground.data }, { on := 17, ground := Ground.gcOnly Departure.lateStores }], guard := none }) (v := ?_) rfl (by kernel_rfl) (by kernel_rfl) (by kernel_rfl) (fun _ _ _ h => h) (Or.inl ⟨by rfl, ?hyr9x15q41⟩) (by assumption) ?restr9x15q41
        case hyr9x15q41 => intro wq hSw; (go_simp); (try with_reducible rfl)
        try simp only [Act.put, List.setIfInBounds_toArray, List.set_cons_zero, List.set_cons_succ]
        refine wpAnyH_take (i := 16) (oi := { dst := some 32, op := Op.build 67 #[(0, Operand.tmp 20), (1, Operand.tmp 31)], type := 67, pos := "wire.go:70", after := #[{ on := 4, ground := Ground.data }, { on := 15, ground := Ground.data }, { on := 17, ground := Ground.gcOnly Departure.lateStores }], guard := none }) (v := ?_) rfl (by kernel_rfl) (by kernel_rfl) (by kernel_rfl) (fun _ _ _ h => h) (Or.inl ⟨by rfl, ?hyr9x16q44⟩) (by assumption) ?restr9x16q44
        case hyr9x16q44 => intro wq hSw; (go_simp); (try with_reducible rfl)
        try simp only [Act.put, List.setIfInBounds_toArray, List.set_cons_zero, List.set_cons_succ]
        refine wpAnyH_take (i := 17) (oi := { dst := some 4, op := Op.assign (Operand.tmp 16), type := 63, pos := "wire.go:70", after := #[{ on := 0, ground := Ground.data }, { on := 11, ground := Ground.chain }, { on := 0, ground := Ground.phase }, { on := 1, ground := Ground.textOnly Departure.lateStores }, { on := 2, ground := Ground.textOnly Departure.lateStores }, { on := 3, ground := Ground.textOnly Departure.lateStores }, { on := 4, ground := Ground.textOnly Departure.lateStoresUnsure }, { on := 5, ground := Ground.textOnly Departure.lateStores }, { on := 6, ground := Ground.textOnly Departure.lateStores }, { on := 7, ground := Ground.textOnly Departure.lateStores }, { on := 8, ground := Ground.textOnly Departure.lateStores }, { on := 9, ground := Ground.textOnly Departure.lateStores }, { on := 10, ground := Ground.textOnly Departure.lateStores }, { on := 11, ground := Ground.textOnly Departure.lateStores }, { on := 12, ground := Ground.textOnly Departure.lateStores }, { on := 13, ground := Ground.textOnly Departure.lateStores }, { on := 14, ground := Ground.textOnly Departure.lateStores }, { on := 15, ground := Ground.textOnly Departure.lateStores }, { on := 16, ground := Ground.textOnly Departure.lateStores }], guard := none }) (v := ?_) rfl (by kernel_rfl) (by kernel_rfl) (by kernel_rfl) (fun _ _ _ h => h) (Or.inl ⟨by rfl, ?hyr9x17q47⟩) (by assumption) ?restr9x17q47
        case hyr9x17q47 => intro wq hSw; (go_simp); (try with_reducible rfl)
        try simp only [Act.put, List.setIfInBounds_toArray, List.set_cons_zero, List.set_cons_succ]
        refine wpAnyH_ready (rs := [18]) (by kernel_rfl) (by simp) ?_
        refine AllReadyH.cons (o := { dst := none, op := Op.store 67 (Operand.tmp 5) (Operand.tmp 32), type := 0, pos := "wire.go:70", after := #[{ on := 16, ground := Ground.data }, { on := 17, ground := Ground.chain }, { on := 0, ground := Ground.phase }, { on := 1, ground := Ground.phase }, { on := 2, ground := Ground.phase }, { on := 3, ground := Ground.phase }, { on := 4, ground := Ground.phase }, { on := 5, ground := Ground.phase }, { on := 6, ground := Ground.phase }, { on := 7, ground := Ground.phase }, { on := 8, ground := Ground.phase }, { on := 9, ground := Ground.phase }, { on := 10, ground := Ground.phase }, { on := 11, ground := Ground.phase }, { on := 12, ground := Ground.phase }, { on := 13, ground := Ground.phase }, { on := 14, ground := Ground.phase }, { on := 15, ground := Ground.phase }, { on := 16, ground := Ground.phase }, { on := 17, ground := Ground.phase }], guard := none }) rfl (fun K hK => ?_) AllReadyH.nil
        go_simp
        refine hK.out _ _ ((Chg.setCell (Chg.setCell hHeld _ (fun x hx => hx)) _ (fun x hx => hx))) (fun hHeld => ?_)
        clear hK K
        try simp only [Act.put, List.setIfInBounds_toArray, List.set_cons_zero, List.set_cons_succ]
        refine wpAnyH_done (by kernel_rfl) ?_ _
        go_wp2_with fail
        refine bodyPost_ret (v := .tuple #[.int .u64 N, .agg #[.slice (some ⟨x, o + K, none⟩) (n - K) (c - K), .bool false]]) (by simp [results, Tryd.results27, go_sem, *]) rfl ?_
        rw [← HT.out]
        simp only []
        rw [HB.out]
        have k9 := ((kk.setNew (p := ⟨g2, 0, none⟩) (.slice (some ⟨x, o + K, none⟩) (n - K) (c - K)) hgw).setNew (p := ⟨g2, 1, none⟩) (.bool false) hgw).drew
        exact rd_done (sl_from (HS.out.nx k9) hk) (by omega) (by omega) (.inr ⟨_, _, rfl⟩) (fun x' o' hx' => by cases hx' <;> exact ⟨_, rfl⟩) k9
      | true =>
        by_cases hE : E = 0
        · subst hE
          by_cases hl : N ≤ lim
          · have hlI : (N : Int) ≤ (lim : Int) := by omega
            have HB : Hid ((true && ((0 : Nat) == 0) && decide (N ≤ lim)) = true) := Lib.hid (by simp [*])
            go_wp2_with fail
            refine wp_region_held_drew (S := Chg (· ≠ g2) w2) (by kernel_rfl) ((Chg.refl _ w2).drew) (fun hHeld => ?_)
            refine wpAnyH_take (i := 0) (oi := { dst := some 16, op := Op.move (Operand.tmp 6), type := 63, pos := "wire.go:70", after := #[], guard := none }) (v := ?_) rfl (by kernel_rfl) (by kernel_rfl) (by kernel_rfl) (fun _ _ _ h => h) (Or.inl ⟨by rfl, ?hyr10x0q1⟩) (by assumption) ?restr10x0q1
            case hyr10x0q1 => intro wq hSw; (go_simp); (try with_reducible rfl)
            try simp only [Act.put, List.setIfInBounds_toArray, List.set_cons_zero, List.set_cons_succ]
            refine wpAnyH_take (i := 1) (oi := { dst := some 17, op := Op.fieldAddr 67 (Operand.tmp 2) 0, type := 0, pos := "wire.go:70", after := #[], guard := none }) (v := ?_) rfl (by kernel_rfl) (by kernel_rfl) (by kernel_rfl) (fun _ _ _ h => h) (Or.inl ⟨by rfl, ?hyr10x1q4⟩) (by assumption) ?restr10x1q4
            case hyr10x1q4 => intro wq hSw; (go_simp); (try with_reducible rfl)
            try simp only [Act.put, List.setIfInBounds_toArray, List.set_cons_zero, List.set_cons_succ]
            refine wpAnyH_take (i := 2) (oi := { dst := some 18, op := Op.load 23 (Operand.tmp 17), type := 23, pos := "wire.go:70", after := #[{ on := 1, ground := Ground.data }], guard := none }) (v := ?_) rfl (by kernel_rfl) (by kernel_rfl) (by kernel_rfl) (fun _ _ _ h => h) (Or.inl ⟨by rfl, ?hyr10x2q7⟩) (by assumption) ?restr10x2q7
            case hyr10x2q7 => intro wq hSw; (have cq := Chg.cellv hSw p0 hgg; go_simp); (try with_reducible rfl)
            try simp only [Act.put, List.setIfInBounds_toArray, List.set_cons_zero, List.set_cons_succ]
            refine wpAnyH_take (i := 3) (oi := { dst := some 19, op := Op.move (Operand.tmp 7), type := 3, pos := "wire.go:70", after := #[], guard := none }) (v := ?_) rfl (by kernel_rfl) (by kernel_rfl) (by kernel_rfl) (fun _ _ _ h => h) (Or.inl ⟨by rfl, ?hyr10x3q10⟩) (by assumption) ?restr10x3q10
            case hyr10x3q10 => intro wq hSw; (go_simp); (try with_reducible rfl)
            try simp only [Act.put, List.setIfInBounds_toArray, List.set_cons_zero, List.set_cons_succ]
            refine wpAnyH_take (i := 4) (oi := { dst := some 20, op := Op.slice 23 (Operand.tmp 18) (some (Operand.tmp 19)) none none, type := 23, pos := "wire.go:70", after := #[{ on := 2, ground := Ground.data }, { on := 3, ground := Ground.data }], guard := none }) (v := ?_) rfl (by kernel_rfl) (by kernel_rfl) (by kernel_rfl) (fun _ _ _ h => h) (Or.inl ⟨by rfl, ?hyr10x4q13⟩) (by assumption) ?restr10x4q13
            case hyr10x4q13 => intro wq hSw; (go_simp); (try with_reducible rfl)
            try simp only [Act.put, List.setIfInBounds_toArray, List.set_cons_zero, List.set_cons_succ]
            refine wpAnyH_take (i := 5) (oi := { dst := some 21, op := Op.fieldAddr 67 (Operand.tmp 2) 1, type := 0, pos := "wire.go:70", after := #[], guard := none }) (v := ?_) rfl (by kernel_rfl) (by kernel_rfl) (by kernel_rfl) (fun _ _ _ h => h) (Or.inl ⟨by rfl, ?hyr10x5q16⟩) (by assumption) ?restr10x5q16
            case hyr10x5q16 => intro wq hSw; (go_simp); (try with_reducible rfl)
            try simp only [Act.put, List.setIfInBounds_toArray, List.set_cons_zero, List.set_cons_succ]
            refine wpAnyH_take (i := 6) (oi := { dst := some 22, op := Op.load 4 (Operand.tmp 21), type := 4, pos := "wire.go:70", after := #[{ on := 5, ground := Ground.data }], guard := none }) (v := ?_) rfl (by kernel_rfl) (by kernel_rfl) (by kernel_rfl) (fun _ _ _ h => h) (Or.inl ⟨by rfl, ?hyr10x6q19⟩) (by assumption) ?restr10x6q19
            case hyr10x6q19 => intro wq hSw; (have cq := Chg.cellv hSw p1 hgg; go_simp); (try with_reducible rfl)
            try simp only [Act.put, List.setIfInBounds_toArray, List.set_cons_zero, List.set_cons_succ]
            refine wpAnyH_take (i := 7) (oi := { dst := some 23, op := Op.move (Operand.tmp 22), type := 4, pos := "wire.go:70", after := #[{ on := 6, ground := Ground.data }], guard := none }) (v := ?_) rfl (by kernel_rfl) (by kernel_rfl) (by kernel_rfl) (fun _ _ _ h => h) (Or.inl ⟨by rfl, ?hyr10x7q22⟩) (by assumption) ?restr10x7q22
            case hyr10x7q22 => intro wq hSw; (go_simp); (try with_reducible rfl)
            try simp only [Act.put, List.setIfInBounds_toArray, List.set_cons_zero, List.set_cons_succ]
            refine wpAnyH_take (i := 8) (oi := { dst := some 24, op := Op.move (Operand.tmp 8), type := 31, pos := "wire.go:70", after := #[{ on := 7, ground := Ground.guard }], guard := some (7, true) }) (v := ?_) rfl (by kernel_rfl) (by kernel_rfl) (by kernel_rfl) (fun _ _ _ h => h) (Or.inl ⟨by rfl, ?hyr10x8q25⟩) (by assumption) ?restr10x8q25
            case hyr10x8q25 => intro wq hSw; (go_simp); (try with_reducible rfl)
            try simp only [Act.put, List.setIfInBounds_toArray, List.set_cons_zero, List.set_cons_succ]
            refine wpAnyH_take (i := 9) (oi := { dst := some 25, op := Op.binOp BinOp.eql 31 (Operand.tmp 24) (Operand.const (Value.int IntKind.i64 0)) 31, type := 4, pos := "wire.go:70", after := #[{ on := 8, ground := Ground.data }, { on := 7, ground := Ground.guard }], guard := some (7, true) }) (v := ?_) rfl (by kernel_rfl) (by kernel_rfl) (by kernel_rfl) (fun _ _ _ h => h) (Or.inl ⟨by rfl, ?hyr10x9q28⟩) (by assumption) ?restr10x9q28
            case hyr10x9q28 => intro wq hSw; (go_simp); (try with_reducible rfl)
            try simp only [Act.put, List.setIfInBounds_toArray, List.set_cons_zero, List.set_cons_succ]
            refine wpAnyH_take (i := 10) (oi := { dst := some 26, op := Op.pick (Operand.tmp 23) (Operand.tmp 25) (Operand.const (Value.bool false)), type := 4, pos := "wire.go:70", after := #[{ on := 7, ground := Ground.data }, { on := 9, ground := Ground.data }], guard := none }) (v := ?_) rfl (by kernel_rfl) (by kernel_rfl) (by kernel_rfl) (fun _ _ _ h => h) (Or.inl ⟨by rfl, ?hyr10x10q31⟩) (by assumption) ?restr10x10q31
            case hyr10x10q31 => intro wq hSw; (go_simp); (try with_reducible rfl)
            try simp only [Act.put, List.setIfInBounds_toArray, List.set_cons_zero, List.set_cons_succ]
            refine wpAnyH_take (i := 11) (oi := { dst := some 27, op := Op.move (Operand.tmp 26), type := 4, pos := "wire.go:70", after := #[{ on := 10, ground := Ground.data }, { on := 7, ground := Ground.chain }], guard := none }) (v := ?_) rfl (by kernel_rfl) (by kernel_rfl) (by kernel_rfl) (fun _ _ _ h => h) (Or.inl ⟨by rfl, ?hyr10x11q34⟩) (by assumption) ?restr10x11q34
            case hyr10x11q34 => intro wq hSw; (go_simp); (try with_reducible rfl)
            try simp only [Act.put, List.setIfInBounds_toArray, List.set_cons_zero, List.set_cons_succ]
            refine wpAnyH_take (i := 12) (oi := { dst := some 28, op := Op.move (Operand.tmp 6), type := 63, pos := "wire.go:70", after := #[{ on := 11, ground := Ground.guard }, { on := 17, ground := Ground.gcOnly Departure.lateStores }], guard := some (11, true) }) (v := ?_) rfl (by kernel_rfl) (by kernel_rfl) (by kernel_rfl) (fun _ _ _ h => h) (Or.inl ⟨by rfl, ?hyr10x12q37⟩) (by assumption) ?restr10x12q37
            case hyr10x12q37 => intro wq hSw; (go_simp); (try with_reducible rfl)
            try simp only [Act.put, List.setIfInBounds_toArray, List.set_cons_zero, List.set_cons_succ]
            refine wpAnyH_take (i := 13) (oi := { dst := some 29, op := Op.move (Operand.tmp 1), type := 63, pos := "wire.go:70", after := #[{ on := 11, ground := Ground.guard }, { on := 17, ground := Ground.gcOnly Departure.lateStores }], guard := some (11, true) }) (v := ?_) rfl (by kernel_rfl) (by kernel_rfl) (by kernel_rfl) (fun _ _ _ h => h) (Or.inl ⟨by rfl, ?hyr10x13q40⟩) (by assumption) ?restr10x13q40
            case hyr10x13q40 => intro wq hSw; (go_simp); (try with_reducible rfl)
            try simp only [Act.put, List.setIfInBounds_toArray, List.set_cons_zero, List.set_cons_succ]
            refine wpAnyH_take (i := 14) (oi := { dst := some 30, op := Op.binOp BinOp.leq 63 (Operand.tmp 28) (Operand.tmp 29) 63, type := 4, pos := "wire.go:70", after := #[{ on := 12, ground := Ground.data }, { on := 13, ground := Ground.data }, { on := 11, ground := Ground.guard }, { on := 17, ground := Ground.gcOnly Departure.lateStores }], guard := some (11, true) }) (v := ?_) rfl (by kernel_rfl) (by kernel_rfl) (by kernel_rfl) (fun _ _ _ h => h) (Or.inl ⟨by rfl, ?hyr10x14q43⟩) (by assumption) ?restr10x14q43
            case hyr10x14q43 => intro wq hSw; (go_simp); (try with_reducible rfl)
            try simp only [Act.put, List.setIfInBounds_toArray, List.set_cons_zero, List.set_cons_succ]
            refine wpAnyH_take (i := 15) (oi := { dst := some 31, op := Op.pick (Operand.tmp 27) (Operand.tmp 30) (Operand.const (Value.bool false)), type := 4, pos := "wire.go:70", after := #[{ on := 11, ground := Ground.data }, { on := 14, ground := Ground.data }, { on := 17, ground := Ground.gcOnly Departure.lateStores }], guard := none }) (v := ?_) rfl (by kernel_rfl) (by kernel_rfl) (by kernel_rfl) (fun _ _ _ h => h) (Or.inl ⟨by rfl, ?hyr10x15q46⟩) (by assumption) ?restr10x15q46
            case hyr10x15q46 => intro wq hSw; (go_simp); (try with_reducible rfl)
            try simp only [Act.put, List.setIfInBounds_toArray, List.set_cons_zero, List.set_cons_succ]
            refine wpAnyH_take (i := 16) (oi := { dst := some 32, op := Op.build 67 #[(0, Operand.tmp 20), (1, Operand.tmp 31)], type := 67, pos := "wire.go:70", after := #[{ on := 4, ground := Ground.data }, { on := 15, ground := Ground.data }, { on := 17, ground := Ground.gcOnly Departure.lateStores }], guard := none }) (v := ?_) rfl (by kernel_rfl) (by kernel_rfl) (by kernel_rfl) (fun _ _ _ h => h) (Or.inl ⟨by rfl, ?hyr10x16q49⟩) (by assumption) ?restr10x16q49
            case hyr10x16q49 => intro wq hSw; (go_simp); (try with_reducible rfl)
            try simp only [Act.put, List.setIfInBounds_toArray, List.set_cons_zero, List.set_cons_succ]
            refine wpAnyH_take (i := 17) (oi := { dst := some 4, op := Op.assign (Operand.tmp 16), type := 63, pos := "wire.go:70", after := #[{ on := 0, ground := Ground.data }, { on := 11, ground := Ground.chain }, { on := 0, ground := Ground.phase }, { on := 1, ground := Ground.textOnly Departure.lateStores }, { on := 2, ground := Ground.textOnly Departure.lateStores }, { on := 3, ground := Ground.textOnly Departure.lateStores }, { on := 4, ground := Ground.textOnly Departure.lateStoresUnsure }, { on := 5, ground := Ground.textOnly Departure.lateStores }, { on := 6, ground := Ground.textOnly Departure.lateStores }, { on := 7, ground := Ground.textOnly Departure.lateStores }, { on := 8, ground := Ground.textOnly Departure.lateStores }, { on := 9, ground := Ground.textOnly Departure.lateStores }, { on := 10, ground := Ground.textOnly Departure.lateStores }, { on := 11, ground := Ground.textOnly Departure.lateStores }, { on := 12, ground := Ground.textOnly Departure.lateStores }, { on := 13, ground := Ground.textOnly Departure.lateStores }, { on := 14, ground := Ground.textOnly Departure.lateStores }, { on := 15, ground := Ground.textOnly Departure.lateStores }, { on := 16, ground := Ground.textOnly Departure.lateStores }], guard := none }) (v := ?_) rfl (by kernel_rfl) (by kernel_rfl) (by kernel_rfl) (fun _ _ _ h => h) (Or.inl ⟨by rfl, ?hyr10x17q52⟩) (by assumption) ?restr10x17q52
            case hyr10x17q52 => intro wq hSw; (go_simp); (try with_reducible rfl)
            try simp only [Act.put, List.setIfInBounds_toArray, List.set_cons_zero, List.set_cons_succ]
            refine wpAnyH_ready (rs := [18]) (by kernel_rfl) (by simp) ?_
            refine AllReadyH.cons (o := { dst := none, op := Op.store 67 (Operand.tmp 5) (Operand.tmp 32), type := 0, pos := "wire.go:70", after := #[{ on := 16, ground := Ground.data }, { on := 17, ground := Ground.chain }, { on := 0, ground := Ground.phase }, { on := 1, ground := Ground.phase }, { on := 2, ground := Ground.phase }, { on := 3, ground := Ground.phase }, { on := 4, ground := Ground.phase }, { on := 5, ground := Ground.phase }, { on := 6, ground := Ground.phase }, { on := 7, ground := Ground.phase }, { on := 8, ground := Ground.phase }, { on := 9, ground := Ground.phase }, { on := 10, ground := Ground.phase }, { on := 11, ground := Ground.phase }, { on := 12, ground := Ground.phase }, { on := 13, ground := Ground.phase }, { on := 14, ground := Ground.phase }, { on := 15, ground := Ground.phase }, { on := 16, ground := Ground.phase }, { on := 17, ground := Ground.phase }], guard := none }) rfl (fun K hK => ?_) AllReadyH.nil
            go_simp
            refine hK.out _ _ ((Chg.setCell (Chg.setCell hHeld _ (fun x hx => hx)) _ (fun x hx => hx))) (fun hHeld => ?_)
            clear hK K
            try simp only [Act.put, List.setIfInBounds_toArray, List.set_cons_zero, List.set_cons_succ]
            refine wpAnyH_done (by kernel_rfl) ?_ _
            go_wp2_with fail
            refine bodyPost_ret (v := .tuple #[.int .u64 N, .agg #[.slice (some ⟨x, o + K, none⟩) (n - K) (c - K), .bool true]]) (by simp [results, Tryd.results27, go_sem, *]) rfl ?_
            rw [← HT.out]
            simp only []
            rw [HB.out]
            have k9 := ((kk.setNew (p := ⟨g2, 0, none⟩) (.slice (some ⟨x, o + K, none⟩) (n - K) (c - K)) hgw).setNew (p := ⟨g2, 1, none⟩) (.bool true) hgw).drew
            exact rd_done (sl_from (HS.out.nx k9) hk) (by omega) (by omega) (.inr ⟨_, _, rfl⟩) (fun x' o' hx' => by cases hx' <;> exact ⟨_, rfl⟩) k9
          · have hlI : ¬ (N : Int) ≤ (lim : Int) := by omega
            have HB : Hid ((true && ((0 : Nat) == 0) && decide (N ≤ lim)) = false) := Lib.hid (by simp [*])
            go_wp2_with fail
            refine wp_region_held_drew (S := Chg (· ≠ g2) w2) (by kernel_rfl) ((Chg.refl _ w2).drew) (fun hHeld => ?_)
            refine wpAnyH_take (i := 0) (oi := { dst := some 16, op := Op.move (Operand.tmp 6), type := 63, pos := "wire.go:70", after := #[], guard := none }) (v := ?_) rfl (by kernel_rfl) (by kernel_rfl) (by kernel_rfl) (fun _ _ _ h => h) (Or.inl ⟨by rfl, ?hyr11x0q1⟩) (by assumption) ?restr11x0q1
            case hyr11x0q1 => intro wq hSw; (go_simp); (try with_reducible rfl)
            try simp only [Act.put, List.setIfInBounds_toArray, List.set_cons_zero, List.set_cons_succ]
            refine wpAnyH_take (i := 1) (oi := { dst := some 17, op := Op.fieldAddr 67 (Operand.tmp 2) 0, type := 0, pos := "wire.go:70", after := #[], guard := none }) (v := ?_) rfl (by kernel_rfl) (by kernel_rfl) (by kernel_rfl) (fun _ _ _ h => h) (Or.inl ⟨by rfl, ?hyr11x1q4⟩) (by assumption) ?restr11x1q4
            case hyr11x1q4 => intro wq hSw; (go_simp); (try with_reducible rfl)
            try simp only [Act.put, List.setIfInBounds_toArray, List.set_cons_zero, List.set_cons_succ]
            refine wpAnyH_take (i := 2) (oi := { dst := some 18, op := Op.load 23 (Operand.tmp 17), type := 23, pos := "wire.go:70", after := #[{ on := 1, ground := Ground.data }], guard := none }) (v := ?_) rfl (by kernel_rfl) (by kernel_rfl) (by kernel_rfl) (fun _ _ _ h => h) (Or.inl ⟨by rfl, ?hyr11x2q7⟩) (by assumption) ?restr11x2q7
            case hyr11x2q7 => intro wq hSw; (have cq := Chg.cellv hSw p0 hgg; go_simp); (try with_reducible rfl)
            try simp only [Act.put, List.setIfInBounds_toArray, List.set_cons_zero, List.set_cons_succ]
            refine wpAnyH_take (i := 3) (oi := { dst := some 19, op := Op.move (Operand.tmp 7), type := 3, pos := "wire.go:70", after := #[], guard := none }) (v := ?_) rfl (by kernel_rfl) (by kernel_rfl) (by kernel_rfl) (fun _ _ _ h => h) (Or.inl ⟨by rfl, ?hyr11x3q10⟩) (by assumption) ?restr11x3q10
            case hyr11x3q10 => intro wq hSw; (go_simp); (try with_reducible rfl)
            try simp only [Act.put, List.setIfInBounds_toArray, List.set_cons_zero, List.set_cons_succ]
            refine wpAnyH_take (i := 4) (oi := { dst := some 20, op := Op.slice 23 (Operand.tmp 18) (some (Operand.tmp 19)) none none, type := 23, pos := "wire.go:70", after := #[{ on := 2, ground := Ground.data }, { on := 3, ground := Ground.data }], guard := none }) (v := ?_) rfl (by kernel_rfl) (by kernel_rfl) (by kernel_rfl) (fun _ _ _ h => h) (Or.inl ⟨by rfl, ?hyr11x4q13⟩) (by assumption) ?restr11x4q13
            case hyr11x4q13 => intro wq hSw; (go_simp); (try with_reducible rfl)
            try simp only [Act.put, List.setIfInBounds_toArray, List.set_cons_zero, List.set_cons_succ]
            refine wpAnyH_take (i := 5) (oi := { dst := some 21, op := Op.fieldAddr 67 (Operand.tmp 2) 1, type := 0, pos := "wire.go:70", after := #[], guard := none }) (v := ?_) rfl (by kernel_rfl) (by kernel_rfl) (by kernel_rfl) (fun _ _ _ h => h) (Or.inl ⟨by rfl, ?hyr11x5q16⟩) (by assumption) ?restr11x5q16
            case hyr11x5q16 => intro wq hSw; (go_simp); (try with_reducible rfl)
            try simp only [Act.put, List.setIfInBounds_toArray, List.set_cons_zero, List.set_cons_succ]
            refine wpAnyH_take (i := 6) (oi := { dst := some 22, op := Op.load 4 (Operand.tmp 21), type := 4, pos := "wire.go:70", after := #[{ on := 5, ground := Ground.data }], guard := none }) (v := ?_) rfl (by kernel_rfl) (by kernel_rfl) (by kernel_rfl) (fun _ _ _ h => h) (Or.inl ⟨by rfl, ?hyr11x6q19⟩) (by assumption) ?restr11x6q19
            case hyr11x6q19 => intro wq hSw; (have cq := Chg.cellv hSw p1 hgg; go_simp); (try with_reducible rfl)
            try simp only [Act.put, List.setIfInBounds_toArray, List.set_cons_zero, List.set_cons_succ]
            refine wpAnyH_take (i := 7) (oi := { dst := some 23, op := Op.move (Operand.tmp 22), type := 4, pos := "wire.go:70", after := #[{ on := 6, ground := Ground.data }], guard := none }) (v := ?_) rfl (by kernel_rfl) (by kernel_rfl) (by kernel_rfl) (fun _ _ _ h => h) (Or.inl ⟨by rfl, ?hyr11x7q22⟩) (by assumption) ?restr11x7q22
            case hyr11x7q22 => intro wq hSw; (go_simp); (try with_reducible rfl)
            try simp only [Act.put, List.setIfInBounds_toArray, List.set_cons_zero, List.set_cons_succ]
            refine wpAnyH_take (i := 8) (oi := { dst := some 24, op := Op.move (Operand.tmp 8), type := 31, pos := "wire.go:70", after := #[{ on := 7, ground := Ground.guard }], guard := some (7, true) }) (v := ?_) rfl (by kernel_rfl) (by kernel_rfl) (by kernel_rfl) (fun _ _ _ h => h) (Or.inl ⟨by rfl, ?hyr11x8q25⟩) (by assumption) ?restr11x8q25
            case hyr11x8q25 => intro wq hSw; (go_simp); (try with_reducible rfl)
            try simp only [Act.put, List.setIfInBounds_toArray, List.set_cons_zero, List.set_cons_succ]
            refine wpAnyH_take (i := 9) (oi := { dst := some 25, op := Op.binOp BinOp.eql 31 (Operand.tmp 24) (Operand.const (Value.int IntKind.i64 0)) 31, type := 4, pos := "wire.go:70", after := #[{ on := 8, ground := Ground.data }, { on := 7, ground := Ground.guard }], guard := some (7, true) }) (v := ?_) rfl (by kernel_rfl) (by kernel_rfl) (by kernel_rfl) (fun _ _ _ h => h) (Or.inl ⟨by rfl, ?hyr11x9q28⟩) (by assumption) ?restr11x9q28
            case hyr11x9q28 => intro wq hSw; (go_simp); (try with_reducible rfl)
            try simp only [Act.put, List.setIfInBounds_toArray, List.set_cons_zero, List.set_cons_succ]
            refine wpAnyH_take (i := 10) (oi := { dst := some 26, op := Op.pick (Operand.tmp 23) (Operand.tmp 25) (Operand.const (Value.bool false)), type := 4, pos := "wire.go:70", after := #[{ on := 7, ground := Ground.data }, { on := 9, ground := Ground.data }], guard := none }) (v := ?_) rfl (by kernel_rfl) (by kernel_rfl) (by kernel_rfl) (fun _ _ _ h => h) (Or.inl ⟨by rfl, ?hyr11x10q31⟩) (by assumption) ?restr11x10q31
            case hyr11x10q31 => intro wq hSw; (go_simp); (try with_reducible rfl)
            try simp only [Act.put, List.setIfInBounds_toArray, List.set_cons_zero, List.set_cons_succ]
            refine wpAnyH_take (i := 11) (oi := { dst := some 27, op := Op.move (Operand.tmp 26), type := 4, pos := "wire.go:70", after := #[{ on := 10, ground := Ground.data }, { on := 7, ground := Ground.chain }], guard := none }) (v := ?_) rfl (by kernel_rfl) (by kernel_rfl) (by kernel_rfl) (fun _ _ _ h => h) (Or.inl ⟨by rfl, ?hyr11x11q34⟩) (by assumption) ?restr11x11q34
            case hyr11x11q34 => intro wq hSw; (go_simp); (try with_reducible rfl)
            try simp only [Act.put, List.setIfInBounds_toArray, List.set_cons_zero, List.set_cons_succ]
            refine wpAnyH_take (i := 12) (oi := { dst := some 28, op := Op.move (Operand.tmp 6), type := 63, pos := "wire.go:70", after := #[{ on := 11, ground := Ground.guard }, { on := 17, ground := Ground.gcOnly Departure.lateStores }], guard := some (11, true) }) (v := ?_) rfl (by kernel_rfl) (by kernel_rfl) (by kernel_rfl) (fun _ _ _ h => h) (Or.inl ⟨by rfl, ?hyr11x12q37⟩) (by assumption) ?restr11x12q37
            case hyr11x12q37 => intro wq hSw; (go_simp); (try with_reducible rfl)
            try simp only [Act.put, List.setIfInBounds_toArray, List.set_cons_zero, List.set_cons_succ]
            refine wpAnyH_take (i := 13) (oi := { dst := some 29, op := Op.move (Operand.tmp 1), type := 63, pos := "wire.go:70", after := #[{ on := 11, ground := Ground.guard }, { on := 17, ground := Ground.gcOnly Departure.lateStores }], guard := some (11, true) }) (v := ?_) rfl (by kernel_rfl) (by kernel_rfl) (by kernel_rfl) (fun _ _ _ h => h) (Or.inl ⟨by rfl, ?hyr11x13q40⟩) (by assumption) ?restr11x13q40
            case hyr11x13q40 => intro wq hSw; (go_simp); (try with_reducible rfl)
            try simp only [Act.put, List.setIfInBounds_toArray, List.set_cons_zero, List.set_cons_succ]
            refine wpAnyH_take (i := 14) (oi := { dst := some 30, op := Op.binOp BinOp.leq 63 (Operand.tmp 28) (Operand.tmp 29) 63, type := 4, pos := "wire.go:70", after := #[{ on := 12, ground := Ground.data }, { on := 13, ground := Ground.data }, { on := 11, ground := Ground.guard }, { on := 17, ground := Ground.gcOnly Departure.lateStores }], guard := some (11, true) }) (v := ?_) rfl (by kernel_rfl) (by kernel_rfl) (by kernel_rfl) (fun _ _ _ h => h) (Or.inl ⟨by rfl, ?hyr11x14q43⟩) (by assumption) ?restr11x14q43
            case hyr11x14q43 => intro wq hSw; (go_simp); (try with_reducible rfl)
            try simp only [Act.put, List.setIfInBounds_toArray, List.set_cons_zero, List.set_cons_succ]
            refine wpAnyH_take (i := 15) (oi := { dst := some 31, op := Op.pick (Operand.tmp 27) (Operand.tmp 30) (Operand.const (Value.bool false)), type := 4, pos := "wire.go:70", after := #[{ on := 11, ground := Ground.data }, { on := 14, ground := Ground.data }, { on := 17, ground := Ground.gcOnly Departure.lateStores }], guard := none }) (v := ?_) rfl (by kernel_rfl) (by kernel_rfl) (by kernel_rfl) (fun _ _ _ h => h) (Or.inl ⟨by rfl, ?hyr11x15q46⟩) (by assumption) ?restr11x15q46
            case hyr11x15q46 => intro wq hSw; (go_simp); (try with_reducible rfl)
            try simp only [Act.put, List.setIfInBounds_toArray, List.set_cons_zero, List.set_cons_succ]
            refine wpAnyH_take (i := 16) (oi := { dst := some 32, op := Op.build 67 #[(0, Operand.tmp 20), (1, Operand.tmp 31)], type := 67, pos := "wire.go:70", after := #[{ on := 4, ground := Ground.data }, { on := 15, ground := Ground.data }, { on := 17, ground := Ground.gcOnly Departure.lateStores }], guard := none }) (v := ?_) rfl (by kernel_rfl) (by kernel_rfl) (by kernel_rfl) (fun _ _ _ h => h) (Or.inl ⟨by rfl, ?hyr11x16q49⟩) (by assumption) ?restr11x16q49
            case hyr11x16q49 => intro wq hSw; (go_simp); (try with_reducible rfl)
            try simp only [Act.put, List.setIfInBounds_toArray, List.set_cons_zero, List.set_cons_succ]
            refine wpAnyH_take (i := 17) (oi := { dst := some 4, op := Op.assign (Operand.tmp 16), type := 63, pos := "wire.go:70", after := #[{ on := 0, ground := Ground.data }, { on := 11, ground := Ground.chain }, { on := 0, ground := Ground.phase }, { on := 1, ground := Ground.textOnly Departure.lateStores }, { on := 2, ground := Ground.textOnly Departure.lateStores }, { on := 3, ground := Ground.textOnly Departure.lateStores }, { on := 4, ground := Ground.textOnly Departure.lateStoresUnsure }, { on := 5, ground := Ground.textOnly Departure.lateStores }, { on := 6, ground := Ground.textOnly Departure.lateStores }, { on := 7, ground := Ground.textOnly Departure.lateStores }, { on := 8, ground := Ground.textOnly Departure.lateStores }, { on := 9, ground := Ground.textOnly Departure.lateStores }, { on := 10, ground := Ground.textOnly Departure.lateStores }, { on := 11, ground := Ground.textOnly Departure.lateStores }, { on := 12, ground := Ground.textOnly Departure.lateStores }, { on := 13, ground := Ground.textOnly Departure.lateStores }, { on := 14, ground := Ground.textOnly Departure.lateStores }, { on := 15, ground := Ground.textOnly Departure.lateStores }, { on := 16, ground := Ground.textOnly Departure.lateStores }], guard := none }) (v := ?_) rfl (by kernel_rfl) (by kernel_rfl) (by kernel_rfl) (fun _ _ _ h => h) (Or.inl ⟨by rfl, ?hyr11x17q52⟩) (by assumption) ?restr11x17q52
            case hyr11x17q52 => intro wq hSw; (go_simp); (try with_reducible rfl)
            try simp only [Act.put, List.setIfInBounds_toArray, List.set_cons_zero, List.set_cons_succ]
            refine wpAnyH_ready (rs := [18]) (by kernel_rfl) (by simp) ?_
            refine AllReadyH.cons (o := { dst := none, op := Op.store 67 (Operand.tmp 5) (Operand.tmp 32), type := 0, pos := "wire.go:70", after := #[{ on := 16, ground := Ground.data }, { on := 17, ground := Ground.chain }, { on := 0, ground := Ground.phase }, { on := 1, ground := Ground.phase }, { on := 2, ground := Ground.phase }, { on := 3, ground := Ground.phase }, { on := 4, ground := Ground.phase }, { on := 5, ground := Ground.phase }, { on := 6, ground := Ground.phase }, { on := 7, ground := Ground.phase }, { on := 8, ground := Ground.phase }, { on := 9, ground := Ground.phase }, { on := 10, ground := Ground.phase }, { on := 11, ground := Ground.phase }, { on := 12, ground := Ground.phase }, { on := 13, ground := Ground.phase }, { on := 14, ground := Ground.phase }, { on := 15, ground := Ground.phase }, { on := 16, ground := Ground.phase }, { on := 17, ground := Ground.phase }], guard := none }) rfl (fun K hK => ?_) AllReadyH.nil
            go_simp
            refine hK.out _ _ ((Chg.setCell (Chg.setCell hHeld _ (fun x hx => hx)) _ (fun x hx => hx))) (fun hHeld => ?_)
            clear hK K
            try simp only [Act.put, List.setIfInBounds_toArray, List.set_cons_zero, List.set_cons_succ]
            refine wpAnyH_done (by kernel_rfl) ?_ _
            go_wp2_with fail
            refine bodyPost_ret (v := .tuple #[.int .u64 N, .agg #[.slice (some ⟨x, o + K, none⟩) (n - K) (c - K), .bool false]]) (by simp [results, Tryd.results27, go_sem, *]) rfl ?_
            rw [← HT.out]
            simp only []
            rw [HB.out]
            have k9 := ((kk.setNew (p := ⟨g2, 0, none⟩) (.slice (some ⟨x, o + K, none⟩) (n - K) (c - K)) hgw).setNew (p := ⟨g2, 1, none⟩) (.bool false) hgw).drew
            exact rd_done (sl_from (HS.out.nx k9) hk) (by omega) (by omega) (.inr ⟨_, _, rfl⟩) (fun x' o' hx' => by cases hx' <;> exact ⟨_, rfl⟩) k9
        · have hEI : ((E : Int) == 0) = false := beq_eq_false_iff_ne.2 (by omega)
          have HB : Hid ((true && (E == 0) && decide (N ≤ lim)) = false) := Lib.hid (by simp [*])
          go_wp2_with fail
          refine wp_region_held_drew (S := Chg (· ≠ g2) w2) (by kernel_rfl) ((Chg.refl _ w2).drew) (fun hHeld => ?_)
          refine wpAnyH_take (i := 0) (oi := { dst := some 16, op := Op.move (Operand.tmp 6), type := 63, pos := "wire.go:70", after := #[], guard := none }) (v := ?_) rfl (by kernel_rfl) (by kernel_rfl) (by kernel_rfl) (fun _ _ _ h => h) (Or.inl ⟨by rfl, ?hyr12x0q1⟩) (by assumption) ?restr12x0q1
          case hyr12x0q1 => intro wq hSw; (go_simp); (try with_reducible rfl)
          try simp only [Act.put, List.setIfInBounds_toArray, List.set_cons_zero, List.set_cons_succ]
          refine wpAnyH_take (i := 1) (oi := { dst := some 17, op := Op.fieldAddr 67 (Operand.tmp 2) 0, type := 0, pos := "wire.go:70", after := #[], guard := none }) (v := ?_) rfl (by kernel_rfl) (by kernel_rfl) (by kernel_rfl) (fun _ _ _ h => h) (Or.inl ⟨by rfl, ?hyr12x1q4⟩) (by assumption) ?restr12x1q4
          case hyr12x1q4 => intro wq hSw; (go_simp); (try with_reducible rfl)
          try simp only [Act.put, List.setIfInBounds_toArray, List.set_cons_zero, List.set_cons_succ]
          refine wpAnyH_take (i := 2) (oi := { dst := some 18, op := Op.load 23 (Operand.tmp 17), type := 23, pos := "wire.go:70", after := #[{ on := 1, ground := Ground.data }], guard := none }) (v := ?_) rfl (by kernel_rfl) (by kernel_rfl) (by kernel_rfl) (fun _ _ _ h => h) (Or.inl ⟨by rfl, ?hyr12x2q7⟩) (by assumption) ?restr12x2q7
          case hyr12x2q7 => intro wq hSw; (have cq := Chg.cellv hSw p0 hgg; go_simp); (try with_reducible rfl)
          try simp only [Act.put, List.setIfInBounds_toArray, List.set_cons_zero, List.set_cons_succ]
          refine wpAnyH_take (i := 3) (oi := { dst := some 19, op := Op.move (Operand.tmp 7), type := 3, pos := "wire.go:70", after := #[], guard := none }) (v := ?_) rfl (by kernel_rfl) (by kernel_rfl) (by kernel_rfl) (fun _ _ _ h => h) (Or.inl ⟨by rfl, ?hyr12x3q10⟩) (by assumption) ?restr12x3q10
          case hyr12x3q10 => intro wq hSw; (go_simp); (try with_reducible rfl)
          try simp only [Act.put, List.setIfInBounds_toArray, List.set_cons_zero, List.set_cons_succ]
          refine wpAnyH_take (i := 4) (oi := { dst := some 20, op := Op.slice 23 (Operand.tmp 18) (some (Operand.tmp 19)) none none, type := 23, pos := "wire.go:70", after := #[{ on := 2, ground := Ground.data }, { on := 3, ground := Ground.data }], guard := none }) (v := ?_) rfl (by kernel_rfl) (by kernel_rfl) (by kernel_rfl) (fun _ _ _ h => h) (Or.inl ⟨by rfl, ?hyr12x4q13⟩) (by assumption) ?restr12x4q13
          case hyr12x4q13 => intro wq hSw; (go_simp); (try with_reducible rfl)
          try simp only [Act.put, List.setIfInBounds_toArray, List.set_cons_zero, List.set_cons_succ]
          refine wpAnyH_take (i := 5) (oi := { dst := some 21, op := Op.fieldAddr 67 (Operand.tmp 2) 1, type := 0, pos := "wire.go:70", after := #[], guard := none }) (v := ?_) rfl (by kernel_rfl) (by kernel_rfl) (by kernel_rfl) (fun _ _ _ h => h) (Or.inl ⟨by rfl, ?hyr12x5q16⟩) (by assumption) ?restr12x5q16
          case hyr12x5q16 => intro wq hSw; (go_simp); (try with_reducible rfl)
          try simp only [Act.put, List.setIfInBounds_toArray, List.set_cons_zero, List.set_cons_succ]
          refine wpAnyH_take (i := 6) (oi := { dst := some 22, op := Op.load 4 (Operand.tmp 21), type := 4, pos := "wire.go:70", after := #[{ on := 5, ground := Ground.data }], guard := none }) (v := ?_) rfl (by kernel_rfl) (by kernel_rfl) (by kernel_rfl) (fun _ _ _ h => h) (Or.inl ⟨by rfl, ?hyr12x6q19⟩) (by assumption) ?restr12x6q19
          case hyr12x6q19 => intro wq hSw; (have cq := Chg.cellv hSw p1 hgg; go_simp); (try with_reducible rfl)
          try simp only [Act.put, List.setIfInBounds_toArray, List.set_cons_zero, List.set_cons_succ]
          refine wpAnyH_take (i := 7) (oi := { dst := some 23, op := Op.move (Operand.tmp 22), type := 4, pos := "wire.go:70", after := #[{ on := 6, ground := Ground.data }], guard := none }) (v := ?_) rfl (by kernel_rfl) (by kernel_rfl) (by kernel_rfl) (fun _ _ _ h => h) (Or.inl ⟨by rfl, ?hyr12x7q22⟩) (by assumption) ?restr12x7q22
          case hyr12x7q22 => intro wq hSw; (go_simp); (try with_reducible rfl)
          try simp only [Act.put, List.setIfInBounds_toArray, List.set_cons_zero, List.set_cons_succ]
          refine wpAnyH_take (i := 8) (oi := { dst := some 24, op := Op.move (Operand.tmp 8), type := 31, pos := "wire.go:70", after := #[{ on := 7, ground := Ground.guard }], guard := some (7, true) }) (v := ?_) rfl (by kernel_rfl) (by kernel_rfl) (by kernel_rfl) (fun _ _ _ h => h) (Or.inl ⟨by rfl, ?hyr12x8q25⟩) (by assumption) ?restr12x8q25
          case hyr12x8q25 => intro wq hSw; (go_simp); (try with_reducible rfl)
          try simp only [Act.put, List.setIfInBounds_toArray, List.set_cons_zero, List.set_cons_succ]
          refine wpAnyH_take (i := 9) (oi := { dst := some 25, op := Op.binOp BinOp.eql 31 (Operand.tmp 24) (Operand.const (Value.int IntKind.i64 0)) 31, type := 4, pos := "wire.go:70", after := #[{ on := 8, ground := Ground.data }, { on := 7, ground := Ground.guard }], guard := some (7, true) }) (v := ?_) rfl (by kernel_rfl) (by kernel_rfl) (by kernel_rfl) (fun _ _ _ h => h) (Or.inl ⟨by rfl, ?hyr12x9q28⟩) (by assumption) ?restr12x9q28
          case hyr12x9q28 => intro wq hSw; (go_simp); (try with_reducible rfl)
          try simp only [Act.put, List.setIfInBounds_toArray, List.set_cons_zero, List.set_cons_succ]
          refine wpAnyH_take (i := 10) (oi := { dst := some 26, op := Op.pick (Operand.tmp 23) (Operand.tmp 25) (Operand.const (Value.bool false)), type := 4, pos := "wire.go:70", after := #[{ on := 7, ground := Ground.data }, { on := 9, ground := Ground.data }], guard := none }) (v := ?_) rfl (by kernel_rfl) (by kernel_rfl) (by kernel_rfl) (fun _ _ _ h => h) (Or.inl ⟨by rfl, ?hyr12x10q31⟩) (by assumption) ?restr12x10q31
          case hyr12x10q31 => intro wq hSw; (go_simp); (try with_reducible rfl)
          try simp only [Act.put, List.setIfInBounds_toArray, List.set_cons_zero, List.set_cons_succ]
          refine wpAnyH_take (i := 11) (oi := { dst := some 27, op := Op.move (Operand.tmp 26), type := 4, pos := "wire.go:70", after := #[{ on := 10, ground := Ground.data }, { on := 7, ground := Ground.chain }], guard := none }) (v := ?_) rfl (by kernel_rfl) (by kernel_rfl) (by kernel_rfl) (fun _ _ _ h => h) (Or.inl ⟨by rfl, ?hyr12x11q34⟩) (by assumption) ?restr12x11q34
          case hyr12x11q34 => intro wq hSw; (go_simp); (try with_reducible rfl)
          try simp only [Act.put, List.setIfInBounds_toArray, List.set_cons_zero, List.set_cons_succ]
          refine wpAnyH_take (i := 12) (oi := { dst := some 28, op := Op.move (Operand.tmp 6), type := 63, pos := "wire.go:70", after := #[{ on := 11, ground := Ground.guard }, { on := 17, ground := Ground.gcOnly Departure.lateStores }], guard := some (11, true) }) (v := undef) rfl (by kernel_rfl) (by kernel_rfl) (by kernel_rfl) (fun _ _ _ h => h) (Or.inr ⟨by rfl, rfl⟩) (by assumption) ?_
          try simp only [Act.put, List.setIfInBounds_toArray, List.set_cons_zero, List.set_cons_succ]
          refine wpAnyH_take (i := 13) (oi := { dst := some 29, op := Op.move (Operand.tmp 1), type := 63, pos := "wire.go:70", after := #[{ on := 11, ground := Ground.guard }, { on := 17, ground := Ground.gcOnly Departure.lateStores }], guard := some (11, true) }) (v := undef) rfl (by kernel_rfl) (by kernel_rfl) (by kernel_rfl) (fun _ _ _ h => h) (Or.inr ⟨by rfl, rfl⟩) (by assumption) ?_
          try simp only [Act.put, List.setIfInBounds_toArray, List.set_cons_zero, List.set_cons_succ]
          refine wpAnyH_take (i := 14) (oi := { dst := some 30, op := Op.binOp BinOp.leq 63 (Operand.tmp 28) (Operand.tmp 29) 63, type := 4, pos := "wire.go:70", after := #[{ on := 12, ground := Ground.data }, { on := 13, ground := Ground.data }, { on := 11, ground := Ground.guard }, { on := 17, ground := Ground.gcOnly Departure.lateStores }], guard := some (11, true) }) (v := undef) rfl (by kernel_rfl) (by kernel_rfl) (by kernel_rfl) (fun _ _ _ h => h) (Or.inr ⟨by rfl, rfl⟩) (by assumption) ?_
          try simp only [Act.put, List.setIfInBounds_toArray, List.set_cons_zero, List.set_cons_succ]
          refine wpAnyH_take (i := 15) (oi := { dst := some 31, op := Op.pick (Operand.tmp 27) (Operand.tmp 30) (Operand.const (Value.bool false)), type := 4, pos := "wire.go:70", after := #[{ on := 11, ground := Ground.data }, { on := 14, ground := Ground.data }, { on := 17, ground := Ground.gcOnly Departure.lateStores }], guard := none }) (v := ?_) rfl (by kernel_rfl) (by kernel_rfl) (by kernel_rfl) (fun _ _ _ h => h) (Or.inl ⟨by rfl, ?hyr12x15q43⟩) (by assumption) ?restr12x15q43
          case hyr12x15q43 => intro wq hSw; (go_simp); (try with_reducible rfl)
          try simp only [Act.put, List.setIfInBounds_toArray, List.set_cons_zero, List.set_cons_succ]
          refine wpAnyH_take (i := 16) (oi := { dst := some 32, op := Op.build 67 #[(0, Operand.tmp 20), (1, Operand.tmp 31)], type := 67, pos := "wire.go:70", after := #[{ on := 4, ground := Ground.data }, { on := 15, ground := Ground.data }, { on := 17, ground := Ground.gcOnly Departure.lateStores }], guard := none }) (v := ?_) rfl (by kernel_rfl) (by kernel_rfl) (by kernel_rfl) (fun _ _ _ h => h) (Or.inl ⟨by rfl, ?hyr12x16q46⟩) (by assumption) ?restr12x16q46
          case hyr12x16q46 => intro wq hSw; (go_simp); (try with_reducible rfl)
          try simp only [Act.put, List.setIfInBounds_toArray, List.set_cons_zero, List.set_cons_succ]
          refine wpAnyH_take (i := 17) (oi := { dst := some 4, op := Op.assign (Operand.tmp 16), type := 63, pos := "wire.go:70", after := #[{ on := 0, ground := Ground.data }, { on := 11, ground := Ground.chain }, { on := 0, ground := Ground.phase }, { on := 1, ground := Ground.textOnly Departure.lateStores }, { on := 2, ground := Ground.textOnly Departure.lateStores }, { on := 3, ground := Ground.textOnly Departure.lateStores }, { on := 4, ground := Ground.textOnly Departure.lateStoresUnsure }, { on := 5, ground := Ground.textOnly Departure.lateStores }, { on := 6, ground := Ground.textOnly Departure.lateStores }, { on := 7, ground := Ground.textOnly Departure.lateStores }, { on := 8, ground := Ground.textOnly Departure.lateStores }, { on := 9, ground := Ground.textOnly Departure.lateStores }, { on := 10, ground := Ground.textOnly Departure.lateStores }, { on := 11, ground := Ground.textOnly Departure.lateStores }, { on := 12, ground := Ground.textOnly Departure.lateStores }, { on := 13, ground := Ground.textOnly Departure.lateStores }, { on := 14, ground := Ground.textOnly Departure.lateStores }, { on := 15, ground := Ground.textOnly Departure.lateStores }, { on := 16, ground := Ground.textOnly Departure.lateStores }], guard := none }) (v := ?_) rfl (by kernel_rfl) (by kernel_rfl) (by kernel_rfl) (fun _ _ _ h => h) (Or.inl ⟨by rfl, ?hyr12x17q49⟩) (by assumption) ?restr12x17q49
          case hyr12x17q49 => intro wq hSw; (go_simp); (try with_reducible rfl)
          try simp only [Act.put, List.setIfInBounds_toArray, List.set_cons_zero, List.set_cons_succ]
          refine wpAnyH_ready (rs := [18]) (by kernel_rfl) (by simp) ?_
          refine AllReadyH.cons (o := { dst := none, op := Op.store 67 (Operand.tmp 5) (Operand.tmp 32), type := 0, pos := "wire.go:70", after := #[{ on := 16, ground := Ground.data }, { on := 17, ground := Ground.chain }, { on := 0, ground := Ground.phase }, { on := 1, ground := Ground.phase }, { on := 2, ground := Ground.phase }, { on := 3, ground := Ground.phase }, { on := 4, ground := Ground.phase }, { on := 5, ground := Ground.phase }, { on := 6, ground := Ground.phase }, { on := 7, ground := Ground.phase }, { on := 8, ground := Ground.phase }, { on := 9, ground := Ground.phase }, { on := 10, ground := Ground.phase }, { on := 11, ground := Ground.phase }, { on := 12, ground := Ground.phase }, { on := 13, ground := Ground.phase }, { on := 14, ground := Ground.phase }, { on := 15, ground := Ground.phase }, { on := 16, ground := Ground.phase }, { on := 17, ground := Ground.phase }], guard := none }) rfl (fun K hK => ?_) AllReadyH.nil
          go_simp
          refine hK.out _ _ ((Chg.setCell (Chg.setCell hHeld _ (fun x hx => hx)) _ (fun x hx => hx))) (fun hHeld => ?_)
          clear hK K
          try simp only [Act.put, List.setIfInBounds_toArray, List.set_cons_zero, List.set_cons_succ]
          refine wpAnyH_done (by kernel_rfl) ?_ _
          go_wp2_with fail
          refine bodyPost_ret (v := .tuple #[.int .u64 N, .agg #[.slice (some ⟨x, o + K, none⟩) (n - K) (c - K), .bool false]]) (by simp [results, Tryd.results27, go_sem, *]) rfl ?_
          rw [← HT.out]
          simp only []
          rw [HB.out]
          have k9 := ((kk.setNew (p := ⟨g2, 0, none⟩) (.slice (some ⟨x, o + K, none⟩) (n - K) (c - K)) hgw).setNew (p := ⟨g2, 1, none⟩) (.bool false) hgw).drew
          exact rd_done (sl_from (HS.out.nx k9) hk) (by omega) (by omega) (.inr ⟨_, _, rfl⟩) (fun x' o' hx' => by cases hx' <;> exact ⟨_, rfl⟩) k9

set_option maxRecDepth 100000 in
set_option maxHeartbeats 4000000 in
theorem rint_p (a : Option Addr) (n c : Nat) (R : List UInt8) (ok : Bool) (w : World) (h : Sl 1 encB w a n R) (hn : n ≤ 9223372036854775807) (hc : n ≤ c) (hm : c ≤ maxLen) (hf : Form a c) :
    Calls Tryd.prog 28 #[.agg #[.slice a n c, .bool ok]] w (RdPost (.int .i64 (intR R).1) (R.drop (intR R).2.1) (ok && ((intR R).2.2 == 0)) a w) := by
  have hlen := h.len
  have hk : (intR R).2.1 ≤ R.length := intR_take R
  rw [hlen] at hk
  have k1 := Ex.new w (.cells #[.slice a n c, .bool ok] 67)
  have B1 := Blk.new w [.slice a n c, .bool ok] 67
  obtain ⟨w1, hw1⟩ : ∃ w1, w1 = w.alloc (.cells #[.slice a n c, .bool ok] 67) := ⟨_, rfl⟩
  obtain ⟨g1, hg1⟩ : ∃ g1, g1 = w.heap.size := ⟨_, rfl⟩
  have B1 : Blk w1 g1 [.slice a n c, .bool ok] 67 := by rw [hw1, hg1]; exact B1
  rw [← hw1] at k1
  have k2 := Ex.new w1 (.cells #[.slice none 0 0, .bool false] 67)
  have B2 := Blk.new w1 [.slice none 0 0, .bool false] 67
  obtain ⟨w2, hw2⟩ : ∃ w2, w2 = w1.alloc (.cells #[.slice none 0 0, .bool false] 67) := ⟨_, rfl⟩
  have hz1 : w1.heap.size = w.heap.size + 1 := by rw [hw1]; simp
  obtain ⟨g2, hg2⟩ : ∃ g2, g2 = w.heap.size + 1 := ⟨_, rfl⟩
  have B2 : Blk w2 g2 [.slice none 0 0, .bool false] 67 := by rw [hw2, hg2, ← hz1]; exact B2
  rw [← hw2] at k2
  have hgg : g1 ≠ g2 := by omega
  have hgw : w.heap.size ≤ g2 := by omega
  replace B1 := B1.nx k2
  have kk := k1.nx k2
  have H2 := h.nx kk
  have HW1 := Lib.hid hw1
  have HG1 := Lib.hid hg1
  have HW2 := Lib.hid hw2
  have HG2 := Lib.hid hg2
  have HF := Lib.hid hf
  have HS := Lib.hid h
  clear hw1 hg1 hw2 hg2 k1 k2 h hf hlen hz1
  have p0 := B1.cell 0 _ rfl
  have p1 := B1.cell 1 _ rfl
  have q0 := B2.cell 0 _ rfl
  have q1 := B2.cell 1 _ rfl
  have z0 := B2.free 0
  have z1 := B2.free 1
  have hgg1 : ¬ g1 = g2 := hgg
  go_enter Tryd.func28, Tryd.ntmps28
  go_upto_region 1 with fail
  rw [← HG2.out, ← HG1.out, ← HW1.out, ← HW2.out]
  go_wp2_with fail
  (with_reducible refine (int_p _ _ _ _ _ H2 hn).mono ?_)
  rintro e w3 ⟨rfl, rfl⟩
  obtain ⟨⟨N, K, E⟩, hT⟩ : ∃ T, T = intR R := ⟨_, rfl⟩
  rw [← hT] at hk ⊢
  have HT := Lib.hid hT
  simp only at hk ⊢
  clear hT
  have hkI : (K : Int) ≤ (n : Int) := by omega
  have K0 : (0 : Int) ≤ (K : Int) := by omega
  have hkc : (K : Int) ≤ (c : Int) := by omega
  rcases HF.out with ⟨rfl, rfl⟩ | ⟨x, o, rfl⟩
  · obtain rfl : n = 0 := by omega
    obtain rfl : K = 0 := by omega
    cases ok with
    | false =>
      have HB : Hid ((false && (E == 0)) = false) := Lib.hid (by simp [*])
      go_wp2_with fail
      refine wp_region_held_drew (S := Chg (· ≠ g2) w2) (by kernel_rfl) ((Chg.refl _ w2).drew) (fun hHeld => ?_)
      refine wpAnyH_take (i := 0) (oi := { dst := some 14, op := Op.move (Operand.tmp 4), type := 2, pos := "wire.go:76", after := #[], guard := none }) (v := ?_) rfl (by kernel_rfl) (by kernel_rfl) (by kernel_rfl) (fun _ _ _ h => h) (Or.inl ⟨by rfl, ?hyr13x0q1⟩) (by assumption) ?restr13x0q1
      case hyr13x0q1 => intro wq hSw; (go_simp); (try with_reducible rfl)
      try simp only [Act.put, List.setIfInBounds_toArray, List.set_cons_zero, List.set_cons_succ]
      refine wpAnyH_take (i := 1) (oi := { dst := some 15, op := Op.fieldAddr 67 (Operand.tmp 1) 0, type := 0, pos := "wire.go:76", after := #[], guard := none }) (v := ?_) rfl (by kernel_rfl) (by kernel_rfl) (by kernel_rfl) (fun _ _ _ h => h) (Or.inl ⟨by rfl, ?hyr13x1q4⟩) (by assumption) ?restr13x1q4
      case hyr13x1q4 => intro wq hSw; (go_simp); (try with_reducible rfl)
      try simp only [Act.put, List.setIfInBounds_toArray, List.set_cons_zero, List.set_cons_succ]
      refine wpAnyH_take (i := 2) (oi := { dst := some 16, op := Op.load 23 (Operand.tmp 15), type := 23, pos := "wire.go:76", after := #[{ on := 1, ground := Ground.data }], guard := none }) (v := ?_) rfl (by kernel_rfl) (by kernel_rfl) (by kernel_rfl) (fun _ _ _ h => h) (Or.inl ⟨by rfl, ?hyr13x2q7⟩) (by assumption) ?restr13x2q7
      case hyr13x2q7 => intro wq hSw; (have cq := Chg.cellv hSw p0 hgg; go_simp); (try with_reducible rfl)
      try simp only [Act.put, List.setIfInBounds_toArray, List.set_cons_zero, List.set_cons_succ]
      refine wpAnyH_take (i := 3) (oi := { dst := some 17, op := Op.move (Operand.tmp 5), type := 3, pos := "wire.go:76", after := #[], guard := none }) (v := ?_) rfl (by kernel_rfl) (by kernel_rfl) (by kernel_rfl) (fun _ _ _ h => h) (Or.inl ⟨by rfl, ?hyr13x3q10⟩) (by assumption) ?restr13x3q10
      case hyr13x3q10 => intro wq hSw; (go_simp); (try with_reducible rfl)
      try simp only [Act.put, List.setIfInBounds_toArray, List.set_cons_zero, List.set_cons_succ]
      refine wpAnyH_take (i := 4) (oi := { dst := some 18, op := Op.slice 23 (Operand.tmp 16) (some (Operand.tmp 17)) none none, type := 23, pos := "wire.go:76", after := #[{ on := 2, ground := Ground.data }, { on := 3, ground := Ground.data }], guard := none }) (v := ?_) rfl (by kernel_rfl) (by kernel_rfl) (by kernel_rfl) (fun _ _ _ h => h) (Or.inl ⟨by rfl, ?hyr13x4q13⟩) (by assumption) ?restr13x4q13
      case hyr13x4q13 => intro wq hSw; (go_simp); (try with_reducible rfl)
      try simp only [Act.put, List.setIfInBounds_toArray, List.set_cons_zero, List.set_cons_succ]
      refine wpAnyH_take (i := 5) (oi := { dst := some 19, op := Op.fieldAddr 67 (Operand.tmp 1) 1, type := 0, pos := "wire.go:76", after := #[], guard := none }) (v := ?_) rfl (by kernel_rfl) (by kernel_rfl) (by kernel_rfl) (fun _ _ _ h => h) (Or.inl ⟨by rfl, ?hyr13x5q16⟩) (by assumption) ?restr13x5q16
      case hyr13x5q16 => intro wq hSw; (go_simp); (try with_reducible rfl)
      try simp only [Act.put, List.setIfInBounds_toArray, List.set_cons_zero, List.set_cons_succ]
      refine wpAnyH_take (i := 6) (oi := { dst := some 20, op := Op.load 4 (Operand.tmp 19), type := 4, pos := "wire.go:76", after := #[{ on := 5, ground := Ground.data }], guard := none }) (v := ?_) rfl (by kernel_rfl) (by kernel_rfl) (by kernel_rfl) (fun _ _ _ h => h) (Or.inl ⟨by rfl, ?hyr13x6q19⟩) (by assumption) ?restr13x6q19
      case hyr13x6q19 => intro wq hSw; (have cq := Chg.cellv hSw p1 hgg; go_simp); (try with_reducible rfl)
      try simp only [Act.put, List.setIfInBounds_toArray, List.set_cons_zero, List.set_cons_succ]
      refine wpAnyH_take (i := 7) (oi := { dst := some 21, op := Op.move (Operand.tmp 20), type := 4, pos := "wire.go:76", after := #[{ on := 6, ground := Ground.data }], guard := none }) (v := ?_) rfl (by kernel_rfl) (by kernel_rfl) (by kernel_rfl) (fun _ _ _ h => h) (Or.inl ⟨by rfl, ?hyr13x7q22⟩) (by assumption) ?restr13x7q22
      case hyr13x7q22 => intro wq hSw; (go_simp); (try with_reducible rfl)
      try simp only [Act.put, List.setIfInBounds_toArray, List.set_cons_zero, List.set_cons_succ]
      refine wpAnyH_take (i := 8) (oi := { dst := some 22, op := Op.move (Operand.tmp 6), type := 31, pos := "wire.go:76", after := #[{ on := 7, ground := Ground.guard }, { on := 12, ground := Ground.gcOnly Departure.lateStores }], guard := some (7, true) }) (v := undef) rfl (by kernel_rfl) (by kernel_rfl) (by kernel_rfl) (fun _ _ _ h => h) (Or.inr ⟨by rfl, rfl⟩) (by assumption) ?_
      try simp only [Act.put, List.setIfInBounds_toArray, List.set_cons_zero, List.set_cons_succ]
      refine wpAnyH_take (i := 9) (oi := { dst := some 23, op := Op.binOp BinOp.eql 31 (Operand.tmp 22) (Operand.const (Value.int IntKind.i64 0)) 31, type := 4, pos := "wire.go:76", after := #[{ on := 8, ground := Ground.data }, { on := 7, ground := Ground.guard }, { on := 12, ground := Ground.gcOnly Departure.lateStores }], guard := some (7, true) }) (v := undef) rfl (by kernel_rfl) (by kernel_rfl) (by kernel_rfl) (fun _ _ _ h => h) (Or.inr ⟨by rfl, rfl⟩) (by assumption) ?_
      try simp only [Act.put, List.setIfInBounds_toArray, List.set_cons_zero, List.set_cons_succ]
      refine wpAnyH_take (i := 10) (oi := { dst := some 24, op := Op.pick (Operand.tmp 21) (Operand.tmp 23) (Operand.const (Value.bool false)), type := 4, pos := "wire.go:76", after := #[{ on := 7, ground := Ground.data }, { on := 9, ground := Ground.data }, { on := 12, ground := Ground.gcOnly Departure.lateStores }], guard := none }) (v := ?_) rfl (by kernel_rfl) (by kernel_rfl) (by kernel_rfl) (fun _ _ _ h => h) (Or.inl ⟨by rfl, ?hyr13x10q29⟩) (by assumption) ?restr13x10q29
      case hyr13x10q29 => intro wq hSw; (go_simp); (try with_reducible rfl)
      try simp only [Act.put, List.setIfInBounds_toArray, List.set_cons_zero, List.set_cons_succ]
      refine wpAnyH_take (i := 11) (oi := { dst := some 25, op := Op.build 67 #[(0, Operand.tmp 18), (1, Operand.tmp 24)], type := 67, pos := "wire.go:76", after := #[{ on := 4, ground := Ground.data }, { on := 10, ground := Ground.data }, { on := 12, ground := Ground.gcOnly Departure.lateStores }], guard := none }) (v := ?_) rfl (by kernel_rfl) (by kernel_rfl) (by kernel_rfl) (fun _ _ _ h => h) (Or.inl ⟨by rfl, ?hyr13x11q32⟩) (by assumption) ?restr13x11q32
      case hyr13x11q32 => intro wq hSw; (go_simp); (try with_reducible rfl)
      try simp only [Act.put, List.setIfInBounds_toArray, List.set_cons_zero, List.set_cons_succ]
      refine wpAnyH_take (i := 12) (oi := { dst := some 2, op := Op.assign (Operand.tmp 14), type := 3, pos := "wire.go:76", after := #[{ on := 0, ground := Ground.data }, { on := 7, ground := Ground.chain }, { on := 0, ground := Ground.phase }, { on := 1, ground := Ground.textOnly Departure.lateStores }, { on := 2, ground := Ground.textOnly Departure.lateStores }, { on := 3, ground := Ground.textOnly Departure.lateStores }, { on := 4, ground := Ground.textOnly Departure.lateStoresUnsure }, { on := 5, ground := Ground.textOnly Departure.lateStores }, { on := 6, ground := Ground.textOnly Departure.lateStores }, { on := 7, ground := Ground.textOnly Departure.lateStores }, { on := 8, ground := Ground.textOnly Departure.lateStores }, { on := 9, ground := Ground.textOnly Departure.lateStores }, { on := 10, ground := Ground.textOnly Departure.lateStores }, { on := 11, ground := Ground.textOnly Departure.lateStores }], guard := none }) (v := ?_) rfl (by kernel_rfl) (by kernel_rfl) (by kernel_rfl) (fun _ _ _ h => h) (Or.inl ⟨by rfl, ?hyr13x12q35⟩) (by assumption) ?restr13x12q35
      case hyr13x12q35 => intro wq hSw; (go_simp); (try with_reducible rfl)
      try simp only [Act.put, List.setIfInBounds_toArray, List.set_cons_zero, List.set_cons_succ]
      refine wpAnyH_ready (rs := [13]) (by kernel_rfl) (by simp) ?_
      refine AllReadyH.cons (o := { dst := none, op := Op.store 67 (Operand.tmp 3) (Operand.tmp 25), type := 0, pos := "wire.go:76", after := #[{ on := 11, ground := Ground.data }, { on := 12, ground := Ground.chain }, { on := 0, ground := Ground.phase }, { on := 1, ground := Ground.phase }, { on := 2, ground := Ground.phase }, { on := 3, ground := Ground.phase }, { on := 4, ground := Ground.phase }, { on := 5, ground := Ground.phase }, { on := 6, ground := Ground.phase }, { on := 7, ground := Ground.phase }, { on := 8, ground := Ground.phase }, { on := 9, ground := Ground.phase }, { on := 10, ground := Ground.phase }, { on := 11, ground := Ground.phase }, { on := 12, ground := Ground.phase }], guard := none }) rfl (fun K hK => ?_) AllReadyH.nil
      go_simp
      refine hK.out _ _ ((Chg.setCell (Chg.setCell hHeld _ (fun x hx => hx)) _ (fun x hx => hx))) (fun hHeld => ?_)
      clear hK K
      try simp only [Act.put, List.setIfInBounds_toArray, List.set_cons_zero, List.set_cons_succ]
      refine wpAnyH_done (by kernel_rfl) ?_ _
      go_wp2_with fail
      refine bodyPost_ret (v := .tuple #[.int .i64 N, .agg #[.slice none (0) (0), .bool false]]) (by simp [results, Tryd.results28, go_sem, *]) rfl ?_
      rw [← HT.out]
      simp only []
      rw [HB.out]
      have k9 := ((kk.setNew (p := ⟨g2, 0, none⟩) (.slice none (0) (0)) hgw).setNew (p := ⟨g2, 1, none⟩) (.bool false) hgw).drew
      exact rd_done (by rw [List.drop_zero]; exact HS.out.nx k9) (by omega) (by omega) (.inl ⟨rfl, rfl⟩) (fun x' o' hx' => by cases hx' <;> exact ⟨_, rfl⟩) k9
    | true =>
      by_cases hE : E = 0
      · subst hE
        have HB : Hid ((true && ((0 : Nat) == 0)) = true) := Lib.hid (by simp [*])
        go_wp2_with fail
        refine wp_region_held_drew (S := Chg (· ≠ g2) w2) (by kernel_rfl) ((Chg.refl _ w2).drew) (fun hHeld => ?_)
        refine wpAnyH_take (i := 0) (oi := { dst := some 14, op := Op.move (Operand.tmp 4), type := 2, pos := "wire.go:76", after := #[], guard := none }) (v := ?_) rfl (by kernel_rfl) (by kernel_rfl) (by kernel_rfl) (fun _ _ _ h => h) (Or.inl ⟨by rfl, ?hyr14x0q1⟩) (by assumption) ?restr14x0q1
        case hyr14x0q1 => intro wq hSw; (go_simp); (try with_reducible rfl)
        try simp only [Act.put, List.setIfInBounds_toArray, List.set_cons_zero, List.set_cons_succ]
        refine wpAnyH_take (i := 1) (oi := { dst := some 15, op := Op.fieldAddr 67 (Operand.tmp 1) 0, type := 0, pos := "wire.go:76", after := #[], guard := none }) (v := ?_) rfl (by kernel_rfl) (by kernel_rfl) (by kernel_rfl) (fun _ _ _ h => h) (Or.inl ⟨by rfl, ?hyr14x1q4⟩) (by assumption) ?restr14x1q4
        case hyr14x1q4 => intro wq hSw; (go_simp); (try with_reducible rfl)
        try simp only [Act.put, List.setIfInBounds_toArray, List.set_cons_zero, List.set_cons_succ]
        refine wpAnyH_take (i := 2) (oi := { dst := some 16, op := Op.load 23 (Operand.tmp 15), type := 23, pos := "wire.go:76", after := #[{ on := 1, ground := Ground.data }], guard := none }) (v := ?_) rfl (by kernel_rfl) (by kernel_rfl) (by kernel_rfl) (fun _ _ _ h => h) (Or.inl ⟨by rfl, ?hyr14x2q7⟩) (by assumption) ?restr14x2q7
        case hyr14x2q7 => intro wq hSw; (have cq := Chg.cellv hSw p0 hgg; go_simp); (try with_reducible rfl)
        try simp only [Act.put, List.setIfInBounds_toArray, List.set_cons_zero, List.set_cons_succ]
        refine wpAnyH_take (i := 3) (oi := { dst := some 17, op := Op.move (Operand.tmp 5), type := 3, pos := "wire.go:76", after := #[], guard := none }) (v := ?_) rfl (by kernel_rfl) (by kernel_rfl) (by kernel_rfl) (fun _ _ _ h => h) (Or.inl ⟨by rfl, ?hyr14x3q10⟩) (by assumption) ?restr14x3q10
        case hyr14x3q10 => intro wq hSw; (go_simp); (try with_reducible rfl)
        try simp only [Act.put, List.setIfInBounds_toArray, List.set_cons_zero, List.set_cons_succ]
        refine wpAnyH_take (i := 4) (oi := { dst := some 18, op := Op.slice 23 (Operand.tmp 16) (some (Operand.tmp 17)) none none, type := 23, pos := "wire.go:76", after := #[{ on := 2, ground := Ground.data }, { on := 3, ground := Ground.data }], guard := none }) (v := ?_) rfl (by kernel_rfl) (by kernel_rfl) (by kernel_rfl) (fun _ _ _ h => h) (Or.inl ⟨by rfl, ?hyr14x4q13⟩) (by assumption) ?restr14x4q13
        case hyr14x4q13 => intro wq hSw; (go_simp); (try with_reducible rfl)
        try simp only [Act.put, List.setIfInBounds_toArray, List.set_cons_zero, List.set_cons_succ]
        refine wpAnyH_take (i := 5) (oi := { dst := some 19, op := Op.fieldAddr 67 (Operand.tmp 1) 1, type := 0, pos := "wire.go:76", after := #[], guard := none }) (v := ?_) rfl (by kernel_rfl) (by kernel_rfl) (by kernel_rfl) (fun _ _ _ h => h) (Or.inl ⟨by rfl, ?hyr14x5q16⟩) (by assumption) ?restr14x5q16
        case hyr14x5q16 => intro wq hSw; (go_simp); (try with_reducible rfl)
        try simp only [Act.put, List.setIfInBounds_toArray, List.set_cons_zero, List.set_cons_succ]
        refine wpAnyH_take (i := 6) (oi := { dst := some 20, op := Op.load 4 (Operand.tmp 19), type := 4, pos := "wire.go:76", after := #[{ on := 5, ground := Ground.data }], guard := none }) (v := ?_) rfl (by kernel_rfl) (by kernel_rfl) (by kernel_rfl) (fun _ _ _ h => h) (Or.inl ⟨by rfl, ?hyr14x6q19⟩) (by assumption) ?restr14x6q19
        case hyr14x6q19 => intro wq hSw; (have cq := Chg.cellv hSw p1 hgg; go_simp); (try with_reducible rfl)
        try simp only [Act.put, List.setIfInBounds_toArray, List.set_cons_zero, List.set_cons_succ]
        refine wpAnyH_take (i := 7) (oi := { dst := some 21, op := Op.move (Operand.tmp 20), type := 4, pos := "wire.go:76", after := #[{ on := 6, ground := Ground.data }], guard := none }) (v := ?_) rfl (by kernel_rfl) (by kernel_rfl) (by kernel_rfl) (fun _ _ _ h => h) (Or.inl ⟨by rfl, ?hyr14x7q22⟩) (by assumption) ?restr14x7q22
        case hyr14x7q22 => intro wq hSw; (go_simp); (try with_reducible rfl)
        try simp only [Act.put, List.setIfInBounds_toArray, List.set_cons_zero, List.set_cons_succ]
        refine wpAnyH_take (i := 8) (oi := { dst := some 22, op := Op.move (Operand.tmp 6), type := 31, pos := "wire.go:76", after := #[{ on := 7, ground := Ground.guard }, { on := 12, ground := Ground.gcOnly Departure.lateStores }], guard := some (7, true) }) (v := ?_) rfl (by kernel_rfl) (by kernel_rfl) (by kernel_rfl) (fun _ _ _ h => h) (Or.inl ⟨by rfl, ?hyr14x8q25⟩) (by assumption) ?restr14x8q25
        case hyr14x8q25 => intro wq hSw; (go_simp); (try with_reducible rfl)
        try simp only [Act.put, List.setIfInBounds_toArray, List.set_cons_zero, List.set_cons_succ]
        refine wpAnyH_take (i := 9) (oi := { dst := some 23, op := Op.binOp BinOp.eql 31 (Operand.tmp 22) (Operand.const (Value.int IntKind.i64 0)) 31, type := 4, pos := "wire.go:76", after := #[{ on := 8, ground := Ground.data }, { on := 7, ground := Ground.guard }, { on := 12, ground := Ground.gcOnly Departure.lateStores }], guard := some (7, true) }) (v := ?_) rfl (by kernel_rfl) (by kernel_rfl) (by kernel_rfl) (fun _ _ _ h => h) (Or.inl ⟨by rfl, ?hyr14x9q28⟩) (by assumption) ?restr14x9q28
        case hyr14x9q28 => intro wq hSw; (go_simp); (try with_reducible rfl)
        try simp only [Act.put, List.setIfInBounds_toArray, List.set_cons_zero, List.set_cons_succ]
        refine wpAnyH_take (i := 10) (oi := { dst := some 24, op := Op.pick (Operand.tmp 21) (Operand.tmp 23) (Operand.const (Value.bool false)), type := 4, pos := "wire.go:76", after := #[{ on := 7, ground := Ground.data }, { on := 9, ground := Ground.data }, { on := 12, ground := Ground.gcOnly Departure.lateStores }], guard := none }) (v := ?_) rfl (by kernel_rfl) (by kernel_rfl) (by kernel_rfl) (fun _ _ _ h => h) (Or.inl ⟨by rfl, ?hyr14x10q31⟩) (by assumption) ?restr14x10q31
        case hyr14x10q31 => intro wq hSw; (go_simp); (try with_reducible rfl)
        try simp only [Act.put, List.setIfInBounds_toArray, List.set_cons_zero, List.set_cons_succ]
        refine wpAnyH_take (i := 11) (oi := { dst := some 25, op := Op.build 67 #[(0, Operand.tmp 18), (1, Operand.tmp 24)], type := 67, pos := "wire.go:76", after := #[{ on := 4, ground := Ground.data }, { on := 10, ground := Ground.data }, { on := 12, ground := Ground.gcOnly Departure.lateStores }], guard := none }) (v := ?_) rfl (by kernel_rfl) (by kernel_rfl) (by kernel_rfl) (fun _ _ _ h => h) (Or.inl ⟨by rfl, ?hyr14x11q34⟩) (by assumption) ?restr14x11q34
        case hyr14x11q34 => intro wq hSw; (go_simp); (try with_reducible rfl)
        try simp only [Act.put, List.setIfInBounds_toArray, List.set_cons_zero, List.set_cons_succ]
        refine wpAnyH_take (i := 12) (oi := { dst := some 2, op := Op.assign (Operand.tmp 14), type := 3, pos := "wire.go:76", after := #[{ on := 0, ground := Ground.data }, { on := 7, ground := Ground.chain }, { on := 0, ground := Ground.phase }, { on := 1, ground := Ground.textOnly Departure.lateStores }, { on := 2, ground := Ground.textOnly Departure.lateStores }, { on := 3, ground := Ground.textOnly Departure.lateStores }, { on := 4, ground := Ground.textOnly Departure.lateStoresUnsure }, { on := 5, ground := Ground.textOnly Departure.lateStores }, { on := 6, ground := Ground.textOnly Departure.lateStores }, { on := 7, ground := Ground.textOnly Departure.lateStores }, { on := 8, ground := Ground.textOnly Departure.lateStores }, { on := 9, ground := Ground.textOnly Departure.lateStores }, { on := 10, ground := Ground.textOnly Departure.lateStores }, { on := 11, ground := Ground.textOnly Departure.lateStores }], guard := none }) (v := ?_) rfl (by kernel_rfl) (by kernel_rfl) (by kernel_rfl) (fun _ _ _ h => h) (Or.inl ⟨by rfl, ?hyr14x12q37⟩) (by assumption) ?restr14x12q37
        case hyr14x12q37 => intro wq hSw; (go_simp); (try with_reducible rfl)
        try simp only [Act.put, List.setIfInBounds_toArray, List.set_cons_zero, List.set_cons_succ]
        refine wpAnyH_ready (rs := [13]) (by kernel_rfl) (by simp) ?_
        refine AllReadyH.cons (o := { dst := none, op := Op.store 67 (Operand.tmp 3) (Operand.tmp 25), type := 0, pos := "wire.go:76", after := #[{ on := 11, ground := Ground.data }, { on := 12, ground := Ground.chain }, { on := 0, ground := Ground.phase }, { on := 1, ground := Ground.phase }, { on := 2, ground := Ground.phase }, { on := 3, ground := Ground.phase }, { on := 4, ground := Ground.phase }, { on := 5, ground := Ground.phase }, { on := 6, ground := Ground.phase }, { on := 7, ground := Ground.phase }, { on := 8, ground := Ground.phase }, { on := 9, ground := Ground.phase }, { on := 10, ground := Ground.phase }, { on := 11, ground := Ground.phase }, { on := 12, ground := Ground.phase }], guard := none }) rfl (fun K hK => ?_) AllReadyH.nil
        go_simp
        refine hK.out _ _ ((Chg.setCell (Chg.setCell hHeld _ (fun x hx => hx)) _ (fun x hx => hx))) (fun hHeld => ?_)
        clear hK K
        try simp only [Act.put, List.setIfInBounds_toArray, List.set_cons_zero, List.set_cons_succ]
        refine wpAnyH_done (by kernel_rfl) ?_ _
        go_wp2_with fail
        refine bodyPost_ret (v := .tuple #[.int .i64 N, .agg #[.slice none (0) (0), .bool true]]) (by simp [results, Tryd.results28, go_sem, *]) rfl ?_
        rw [← HT.out]
        simp only []
        rw [HB.out]
        have k9 := ((kk.setNew (p := ⟨g2, 0, none⟩) (.slice none (0) (0)) hgw).setNew (p := ⟨g2, 1, none⟩) (.bool true) hgw).drew
        exact rd_done (by rw [List.drop_zero]; exact HS.out.nx k9) (by omega) (by omega) (.inl ⟨rfl, rfl⟩) (fun x' o' hx' => by cases hx' <;> exact ⟨_, rfl⟩) k9
      · have hEI : ((E : Int) == 0) = false := beq_eq_false_iff_ne.2 (by omega)
        have HB : Hid ((true && (E == 0)) = false) := Lib.hid (by simp [*])
        go_wp2_with fail
        refine wp_region_held_drew (S := Chg (· ≠ g2) w2) (by kernel_rfl) ((Chg.refl _ w2).drew) (fun hHeld => ?_)
        refine wpAnyH_take (i := 0) (oi := { dst := some 14, op := Op.move (Operand.tmp 4), type := 2, pos := "wire.go:76", after := #[], guard := none }) (v := ?_) rfl (by kernel_rfl) (by kernel_rfl) (by kernel_rfl) (fun _ _ _ h => h) (Or.inl ⟨by rfl, ?hyr15x0q1⟩) (by assumption) ?restr15x0q1
        case hyr15x0q1 => intro wq hSw; (go_simp); (try with_reducible rfl)
        try simp only [Act.put, List.setIfInBounds_toArray, List.set_cons_zero, List.set_cons_succ]
        refine wpAnyH_take (i := 1) (oi := { dst := some 15, op := Op.fieldAddr 67 (Operand.tmp 1) 0, type := 0, pos := "wire.go:76", after := #[], guard := none }) (v := ?_) rfl (by kernel_rfl) (by kernel_rfl) (by kernel_rfl) (fun _ _ _ h => h) (Or.inl ⟨by rfl, ?hyr15x1q4⟩) (by assumption) ?restr15x1q4
        case hyr15x1q4 => intro wq hSw; (go_simp); (try with_reducible rfl)
        try simp only [Act.put, List.setIfInBounds_toArray, List.set_cons_zero, List.set_cons_succ]
        refine wpAnyH_take (i := 2) (oi := { dst := some 16, op := Op.load 23 (Operand.tmp 15), type := 23, pos := "wire.go:76", after := #[{ on := 1, ground := Ground.data }], guard := none }) (v := ?_) rfl (by kernel_rfl) (by kernel_rfl) (by kernel_rfl) (fun _ _ _ h => h) (Or.inl ⟨by rfl, ?hyr15x2q7⟩) (by assumption) ?restr15x2q7
        case hyr15x2q7 => intro wq hSw; (have cq := Chg.cellv hSw p0 hgg; go_simp); (try with_reducible rfl)
        try simp only [Act.put, List.setIfInBounds_toArray, List.set_cons_zero, List.set_cons_succ]
        refine wpAnyH_take (i := 3) (oi := { dst := some 17, op := Op.move (Operand.tmp 5), type := 3, pos := "wire.go:76", after := #[], guard := none }) (v := ?_) rfl (by kernel_rfl) (by kernel_rfl) (by kernel_rfl) (fun _ _ _ h => h) (Or.inl ⟨by rfl, ?hyr15x3q10⟩) (by assumption) ?restr15x3q10
        case hyr15x3q10 => intro wq hSw; (go_simp); (try with_reducible rfl)
        try simp only [Act.put, List.setIfInBounds_toArray, List.set_cons_zero, List.set_cons_succ]
        refine wpAnyH_take (i := 4) (oi := { dst := some 18, op := Op.slice 23 (Operand.tmp 16) (some (Operand.tmp 17)) none none, type := 23, pos := "wire.go:76", after := #[{ on := 2, ground := Ground.data }, { on := 3, ground := Ground.data }], guard := none }) (v := ?_) rfl (by kernel_rfl) (by kernel_rfl) (by kernel_rfl) (fun _ _ _ h => h) (Or.inl ⟨by rfl, ?hyr15x4q13⟩) (by assumption) ?restr15x4q13
        case hyr15x4q13 => intro wq hSw; (go_simp); (try with_reducible rfl)
        try simp only [Act.put, List.setIfInBounds_toArray, List.set_cons_zero, List.set_cons_succ]
        refine wpAnyH_take (i := 5) (oi := { dst := some 19, op := Op.fieldAddr 67 (Operand.tmp 1) 1, type := 0, pos := "wire.go:76", after := #[], guard := none }) (v := ?_) rfl (by kernel_rfl) (by kernel_rfl) (by kernel_rfl) (fun _ _ _ h => h) (Or.inl ⟨by rfl, ?hyr15x5q16⟩) (by assumption) ?restr15x5q16
        case hyr15x5q16 => intro wq hSw; (go_simp); (try with_reducible rfl)
        try simp only [Act.put, List.setIfInBounds_toArray, List.set_cons_zero, List.set_cons_succ]
        refine wpAnyH_take (i := 6) (oi := { dst := some 20, op := Op.load 4 (Operand.tmp 19), type := 4, pos := "wire.go:76", after := #[{ on := 5, ground := Ground.data }], guard := none }) (v := ?_) rfl (by kernel_rfl) (by kernel_rfl) (by kernel_rfl) (fun _ _ _ h => h) (Or.inl ⟨by rfl, ?hyr15x6q19⟩) (by assumption) ?restr15x6q19
        case hyr15x6q19 => intro wq hSw; (have cq := Chg.cellv hSw p1 hgg; go_simp); (try with_reducible rfl)
        try simp only [Act.put, List.setIfInBounds_toArray, List.set_cons_zero, List.set_cons_succ]
        refine wpAnyH_take (i := 7) (oi := { dst := some 21, op := Op.move (Operand.tmp 20), type := 4, pos := "wire.go:76", after := #[{ on := 6, ground := Ground.data }], guard := none }) (v := ?_) rfl (by kernel_rfl) (by kernel_rfl) (by kernel_rfl) (fun _ _ _ h => h) (Or.inl ⟨by rfl, ?hyr15x7q22⟩) (by assumption) ?restr15x7q22
        case hyr15x7q22 => intro wq hSw; (go_simp); (try with_reducible rfl)
        try simp only [Act.put, List.setIfInBounds_toArray, List.set_cons_zero, List.set_cons_succ]
        refine wpAnyH_take (i := 8) (oi := { dst := some 22, op := Op.move (Operand.tmp 6), type := 31, pos := "wire.go:76", after := #[{ on := 7, ground := Ground.guard }, { on := 12, ground := Ground.gcOnly Departure.lateStores }], guard := some (7, true) }) (v := ?_) rfl (by kernel_rfl) (by kernel_rfl) (by kernel_rfl) (fun _ _ _ h => h) (Or.inl ⟨by rfl, ?hyr15x8q25⟩) (by assumption) ?restr15x8q25
        case hyr15x8q25 => intro wq hSw; (go_simp); (try with_reducible rfl)
        try simp only [Act.put, List.setIfInBounds_toArray, List.set_cons_zero, List.set_cons_succ]
        refine wpAnyH_take (i := 9) (oi := { dst := some 23, op := Op.binOp BinOp.eql 31 (Operand.tmp 22) (Operand.const (Value.int IntKind.i64 0)) 31, type := 4, pos := "wire.go:76", after := #[{ on := 8, ground := Ground.data }, { on := 7, ground := Ground.guard }, { on := 12, ground := Ground.gcOnly Departure.lateStores }], guard := some (7, true) }) (v := ?_) rfl (by kernel_rfl) (by kernel_rfl) (by kernel_rfl) (fun _ _ _ h => h) (Or.inl ⟨by rfl, ?hyr15x9q28⟩) (by assumption) ?restr15x9q28
        case hyr15x9q28 => intro wq hSw; (go_simp); (try with_reducible rfl)
        try simp only [Act.put, List.setIfInBounds_toArray, List.set_cons_zero, List.set_cons_succ]
        refine wpAnyH_take (i := 10) (oi := { dst := some 24, op := Op.pick (Operand.tmp 21) (Operand.tmp 23) (Operand.const (Value.bool false)), type := 4, pos := "wire.go:76", after := #[{ on := 7, ground := Ground.data }, { on := 9, ground := Ground.data }, { on := 12, ground := Ground.gcOnly Departure.lateStores }], guard := none }) (v := ?_) rfl (by kernel_rfl) (by kernel_rfl) (by kernel_rfl) (fun _ _ _ h => h) (Or.inl ⟨by rfl, ?hyr15x10q31⟩) (by assumption) ?restr15x10q31
        case hyr15x10q31 => intro wq hSw; (go_simp); (try with_reducible rfl)
        try simp only [Act.put, List.setIfInBounds_toArray, List.set_cons_zero, List.set_cons_succ]
        refine wpAnyH_take (i := 11) (oi := { dst := some 25, op := Op.build 67 #[(0, Operand.tmp 18), (1, Operand.tmp 24)], type := 67, pos := "wire.go:76", after := #[{ on := 4, ground := Ground.data }, { on := 10, ground := Ground.data }, { on := 12, ground := Ground.gcOnly Departure.lateStores }], guard := none }) (v := ?_) rfl (by kernel_rfl) (by kernel_rfl) (by kernel_rfl) (fun _ _ _ h => h) (Or.inl ⟨by rfl, ?hyr15x11q34⟩) (by assumption) ?restr15x11q34
        case hyr15x11q34 => intro wq hSw; (go_simp); (try with_reducible rfl)
        try simp only [Act.put, List.setIfInBounds_toArray, List.set_cons_zero, List.set_cons_succ]
        refine wpAnyH_take (i := 12) (oi := { dst := some 2, op := Op.assign (Operand.tmp 14), type := 3, pos := "wire.go:76", after := #[{ on := 0, ground := Ground.data }, { on := 7, ground := Ground.chain }, { on := 0, ground := Ground.phase }, { on := 1, ground := Ground.textOnly Departure.lateStores }, { on := 2, ground := Ground.textOnly Departure.lateStores }, { on := 3, ground := Ground.textOnly Departure.lateStores }, { on := 4, ground := Ground.textOnly Departure.lateStoresUnsure }, { on := 5, ground := Ground.textOnly Departure.lateStores }, { on := 6, ground := Ground.textOnly Departure.lateStores }, { on := 7, ground := Ground.textOnly Departure.lateStores }, { on := 8, ground := Ground.textOnly Departure.lateStores }, { on := 9, ground := Ground.textOnly Departure.lateStores }, { on := 10, ground := Ground.textOnly Departure.lateStores }, { on := 11, ground := Ground.textOnly Departure.lateStores }], guard := none }) (v := ?_) rfl (by kernel_rfl) (by kernel_rfl) (by kernel_rfl) (fun _ _ _ h => h) (Or.inl ⟨by rfl, ?hyr15x12q37⟩) (by assumption) ?restr15x12q37
        case hyr15x12q37 => intro wq hSw; (go_simp); (try with_reducible rfl)
        try simp only [Act.put, List.setIfInBounds_toArray, List.set_cons_zero, List.set_cons_succ]
        refine wpAnyH_ready (rs := [13]) (by kernel_rfl) (by simp) ?_
        refine AllReadyH.cons (o := { dst := none, op := Op.store 67 (Operand.tmp 3) (Operand.tmp 25), type := 0, pos := "wire.go:76", after := #[{ on := 11, ground := Ground.data }, { on := 12, ground := Ground.chain }, { on := 0, ground := Ground.phase }, { on := 1, ground := Ground.phase }, { on := 2, ground := Ground.phase }, { on := 3, ground := Ground.phase }, { on := 4, ground := Ground.phase }, { on := 5, ground := Ground.phase }, { on := 6, ground := Ground.phase }, { on := 7, ground := Ground.phase }, { on := 8, ground := Ground.phase }, { on := 9, ground := Ground.phase }, { on := 10, ground := Ground.phase }, { on := 11, ground := Ground.phase }, { on := 12, ground := Ground.phase }], guard := none }) rfl (fun K hK => ?_) AllReadyH.nil
        go_simp
        refine hK.out _ _ ((Chg.setCell (Chg.setCell hHeld _ (fun x hx => hx)) _ (fun x hx => hx))) (fun hHeld => ?_)
        clear hK K
        try simp only [Act.put, List.setIfInBounds_toArray, List.set_cons_zero, List.set_cons_succ]
        refine wpAnyH_done (by kernel_rfl) ?_ _
        go_wp2_with fail
        refine bodyPost_ret (v := .tuple #[.int .i64 N, .agg #[.slice none (0) (0), .bool false]]) (by simp [results, Tryd.results28, go_sem, *]) rfl ?_
        rw [← HT.out]
        simp only []
        rw [HB.out]
        have k9 := ((kk.setNew (p := ⟨g2, 0, none⟩) (.slice none (0) (0)) hgw).setNew (p := ⟨g2, 1, none⟩) (.bool false) hgw).drew
        exact rd_done (by rw [List.drop_zero]; exact HS.out.nx k9) (by omega) (by omega) (.inl ⟨rfl, rfl⟩) (fun x' o' hx' => by cases hx' <;> exact ⟨_, rfl⟩) k9
  · by_cases hcK : c = K
    · obtain rfl : n = K := by omega
      obtain rfl : c = n := by omega
      cases ok with
      | false =>
        have HB : Hid ((false && (E == 0)) = false) := Lib.hid (by simp [*])
        go_wp2_with fail
        refine wp_region_held_drew (S := Chg (· ≠ g2) w2) (by kernel_rfl) ((Chg.refl _ w2).drew) (fun hHeld => ?_)
        refine wpAnyH_take (i := 0) (oi := { dst := some 14, op := Op.move (Operand.tmp 4), type := 2, pos := "wire.go:76", after := #[], guard := none }) (v := ?_) rfl (by kernel_rfl) (by kernel_rfl) (by kernel_rfl) (fun _ _ _ h => h) (Or.inl ⟨by rfl, ?hyr16x0q1⟩) (by assumption) ?restr16x0q1
        case hyr16x0q1 => intro wq hSw; (go_simp); (try with_reducible rfl)
        try simp only [Act.put, List.setIfInBounds_toArray, List.set_cons_zero, List.set_cons_succ]
        refine wpAnyH_take (i := 1) (oi := { dst := some 15, op := Op.fieldAddr 67 (Operand.tmp 1) 0, type := 0, pos := "wire.go:76", after := #[], guard := none }) (v := ?_) rfl (by kernel_rfl) (by kernel_rfl) (by kernel_rfl) (fun _ _ _ h => h) (Or.inl ⟨by rfl, ?hyr16x1q4⟩) (by assumption) ?restr16x1q4
        case hyr16x1q4 => intro wq hSw; (go_simp); (try with_reducible rfl)
        try simp only [Act.put, List.setIfInBounds_toArray, List.set_cons_zero, List.set_cons_succ]
        refine wpAnyH_take (i := 2) (oi := { dst := some 16, op := Op.load 23 (Operand.tmp 15), type := 23, pos := "wire.go:76", after := #[{ on := 1, ground := Ground.data }], guard := none }) (v := ?_) rfl (by kernel_rfl) (by kernel_rfl) (by kernel_rfl) (fun _ _ _ h => h) (Or.inl ⟨by rfl, ?hyr16x2q7⟩) (by assumption) ?restr16x2q7
        case hyr16x2q7 => intro wq hSw; (have cq := Chg.cellv hSw p0 hgg; go_simp); (try with_reducible rfl)
        try simp only [Act.put, List.setIfInBounds_toArray, List.set_cons_zero, List.set_cons_succ]
        refine wpAnyH_take (i := 3) (oi := { dst := some 17, op := Op.move (Operand.tmp 5), type := 3, pos := "wire.go:76", after := #[], guard := none }) (v := ?_) rfl (by kernel_rfl) (by kernel_rfl) (by kernel_rfl) (fun _ _ _ h => h) (Or.inl ⟨by rfl, ?hyr16x3q10⟩) (by assumption) ?restr16x3q10
        case hyr16x3q10 => intro wq hSw; (go_simp); (try with_reducible rfl)
        try simp only [Act.put, List.setIfInBounds_toArray, List.set_cons_zero, List.set_cons_succ]
        refine wpAnyH_take (i := 4) (oi := { dst := some 18, op := Op.slice 23 (Operand.tmp 16) (some (Operand.tmp 17)) none none, type := 23, pos := "wire.go:76", after := #[{ on := 2, ground := Ground.data }, { on := 3, ground := Ground.data }], guard := none }) (v := ?_) rfl (by kernel_rfl) (by kernel_rfl) (by kernel_rfl) (fun _ _ _ h => h) (Or.inl ⟨by rfl, ?hyr16x4q13⟩) (by assumption) ?restr16x4q13
        case hyr16x4q13 => intro wq hSw; (go_simp); (try with_reducible rfl)
        try simp only [Act.put, List.setIfInBounds_toArray, List.set_cons_zero, List.set_cons_succ]
        refine wpAnyH_take (i := 5) (oi := { dst := some 19, op := Op.fieldAddr 67 (Operand.tmp 1) 1, type := 0, pos := "wire.go:76", after := #[], guard := none }) (v := ?_) rfl (by kernel_rfl) (by kernel_rfl) (by kernel_rfl) (fun _ _ _ h => h) (Or.inl ⟨by rfl, ?hyr16x5q16⟩) (by assumption) ?restr16x5q16
        case hyr16x5q16 => intro wq hSw; (go_simp); (try with_reducible rfl)
        try simp only [Act.put, List.setIfInBounds_toArray, List.set_cons_zero, List.set_cons_succ]
        refine wpAnyH_take (i := 6) (oi := { dst := some 20, op := Op.load 4 (Operand.tmp 19), type := 4, pos := "wire.go:76", after := #[{ on := 5, ground := Ground.data }], guard := none }) (v := ?_) rfl (by kernel_rfl) (by kernel_rfl) (by kernel_rfl) (fun _ _ _ h => h) (Or.inl ⟨by rfl, ?hyr16x6q19⟩) (by assumption) ?restr16x6q19
        case hyr16x6q19 => intro wq hSw; (have cq := Chg.cellv hSw p1 hgg; go_simp); (try with_reducible rfl)
        try simp only [Act.put, List.setIfInBounds_toArray, List.set_cons_zero, List.set_cons_succ]
        refine wpAnyH_take (i := 7) (oi := { dst := some 21, op := Op.move (Operand.tmp 20), type := 4, pos := "wire.go:76", after := #[{ on := 6, ground := Ground.data }], guard := none }) (v := ?_) rfl (by kernel_rfl) (by kernel_rfl) (by kernel_rfl) (fun _ _ _ h => h) (Or.inl ⟨by rfl, ?hyr16x7q22⟩) (by assumption) ?restr16x7q22
        case hyr16x7q22 => intro wq hSw; (go_simp); (try with_reducible rfl)
        try simp only [Act.put, List.setIfInBounds_toArray, List.set_cons_zero, List.set_cons_succ]
        refine wpAnyH_take (i := 8) (oi := { dst := some 22, op := Op.move (Operand.tmp 6), type := 31, pos := "wire.go:76", after := #[{ on := 7, ground := Ground.guard }, { on := 12, ground := Ground.gcOnly Departure.lateStores }], guard := some (7, true) }) (v := undef) rfl (by kernel_rfl) (by kernel_rfl) (by kernel_rfl) (fun _ _ _ h => h) (Or.inr ⟨by rfl, rfl⟩) (by assumption) ?_
        try simp only [Act.put, List.setIfInBounds_toArray, List.set_cons_zero, List.set_cons_succ]
        refine wpAnyH_take (i := 9) (oi := { dst := some 23, op := Op.binOp BinOp.eql 31 (Operand.tmp 22) (Operand.const (Value.int IntKind.i64 0)) 31, type := 4, pos := "wire.go:76", after := #[{ on := 8, ground := Ground.data }, { on := 7, ground := Ground.guard }, { on := 12, ground := Ground.gcOnly Departure.lateStores }], guard := some (7, true) }) (v := undef) rfl (by kernel_rfl) (by kernel_rfl) (by kernel_rfl) (fun _ _ _ h => h) (Or.inr ⟨by rfl, rfl⟩) (by assumption) ?_
        try simp only [Act.put, List.setIfInBounds_toArray, List.set_cons_zero, List.set_cons_succ]
        refine wpAnyH_take (i := 10) (oi := { dst := some 24, op := Op.pick (Operand.tmp 21) (Operand.tmp 23) (Operand.const (Value.bool false)), type := 4, pos := "wire.go:76", after := #[{ on := 7, ground := Ground.data }, { on := 9, ground := Ground.data }, { on := 12, ground := Ground.gcOnly Departure.lateStores }], guard := none }) (v := ?_) rfl (by kernel_rfl) (by kernel_rfl) (by kernel_rfl) (fun _ _ _ h => h) (Or.inl ⟨by rfl, ?hyr16x10q29⟩) (by assumption) ?restr16x10q29
        case hyr16x10q29 => intro wq hSw; (go_simp); (try with_reducible rfl)
        try simp only [Act.put, List.setIfInBounds_toArray, List.set_cons_zero, List.set_cons_succ]
        refine wpAnyH_take (i := 11) (oi := { dst := some 25, op := Op.build 67 #[(0, Operand.tmp 18), (1, Operand.tmp 24)], type := 67, pos := "wire.go:76", after := #[{ on := 4, ground := Ground.data }, { on := 10, ground := Ground.data }, { on := 12, ground := Ground.gcOnly Departure.lateStores }], guard := none }) (v := ?_) rfl (by kernel_rfl) (by kernel_rfl) (by kernel_rfl) (fun _ _ _ h => h) (Or.inl ⟨by rfl, ?hyr16x11q32⟩) (by assumption) ?restr16x11q32
        case hyr16x11q32 => intro wq hSw; (go_simp); (try with_reducible rfl)
        try simp only [Act.put, List.setIfInBounds_toArray, List.set_cons_zero, List.set_cons_succ]
        refine wpAnyH_take (i := 12) (oi := { dst := some 2, op := Op.assign (Operand.tmp 14), type := 3, pos := "wire.go:76", after := #[{ on := 0, ground := Ground.data }, { on := 7, ground := Ground.chain }, { on := 0, ground := Ground.phase }, { on := 1, ground := Ground.textOnly Departure.lateStores }, { on := 2, ground := Ground.textOnly Departure.lateStores }, { on := 3, ground := Ground.textOnly Departure.lateStores }, { on := 4, ground := Ground.textOnly Departure.lateStoresUnsure }, { on := 5, ground := Ground.textOnly Departure.lateStores }, { on := 6, ground := Ground.textOnly Departure.lateStores }, { on := 7, ground := Ground.textOnly Departure.lateStores }, { on := 8, ground := Ground.textOnly Departure.lateStores }, { on := 9, ground := Ground.textOnly Departure.lateStores }, { on := 10, ground := Ground.textOnly Departure.lateStores }, { on := 11, ground := Ground.textOnly Departure.lateStores }], guard := none }) (v := ?_) rfl (by kernel_rfl) (by kernel_rfl) (by kernel_rfl) (fun _ _ _ h => h) (Or.inl ⟨by rfl, ?hyr16x12q35⟩) (by assumption) ?restr16x12q35
        case hyr16x12q35 => intro wq hSw; (go_simp); (try with_reducible rfl)
        try simp only [Act.put, List.setIfInBounds_toArray, List.set_cons_zero, List.set_cons_succ]
        refine wpAnyH_ready (rs := [13]) (by kernel_rfl) (by simp) ?_
        refine AllReadyH.cons (o := { dst := none, op := Op.store 67 (Operand.tmp 3) (Operand.tmp 25), type := 0, pos := "wire.go:76", after := #[{ on := 11, ground := Ground.data }, { on := 12, ground := Ground.chain }, { on := 0, ground := Ground.phase }, { on := 1, ground := Ground.phase }, { on := 2, ground := Ground.phase }, { on := 3, ground := Ground.phase }, { on := 4, ground := Ground.phase }, { on := 5, ground := Ground.phase }, { on := 6, ground := Ground.phase }, { on := 7, ground := Ground.phase }, { on := 8, ground := Ground.phase }, { on := 9, ground := Ground.phase }, { on := 10, ground := Ground.phase }, { on := 11, ground := Ground.phase }, { on := 12, ground := Ground.phase }], guard := none }) rfl (fun K hK => ?_) AllReadyH.nil
        go_simp
        refine hK.out _ _ ((Chg.setCell (Chg.setCell hHeld _ (fun x hx => hx)) _ (fun x hx => hx))) (fun hHeld => ?_)
        clear hK K
        try simp only [Act.put, List.setIfInBounds_toArray, List.set_cons_zero, List.set_cons_succ]
        refine wpAnyH_done (by kernel_rfl) ?_ _
        go_wp2_with fail
        refine bodyPost_ret (v := .tuple #[.int .i64 N, .agg #[.slice (some ⟨x, o, none⟩) (0) (0), .bool false]]) (by simp [results, Tryd.results28, go_sem, *]) rfl ?_
        rw [← HT.out]
        simp only []
        rw [HB.out]
        have k9 := ((kk.setNew (p := ⟨g2, 0, none⟩) (.slice (some ⟨x, o, none⟩) (0) (0)) hgw).setNew (p := ⟨g2, 1, none⟩) (.bool false) hgw).drew
        exact rd_done (sl_end (HS.out.nx k9) (Nat.le_refl _)) (by omega) (by omega) (.inr ⟨_, _, rfl⟩) (fun x' o' hx' => by cases hx' <;> exact ⟨_, rfl⟩) k9
      | true =>
        by_cases hE : E = 0
        · subst hE
          have HB : Hid ((true && ((0 : Nat) == 0)) = true) := Lib.hid (by simp [*])
          go_wp2_with fail
          refine wp_region_held_drew (S := Chg (· ≠ g2) w2) (by kernel_rfl) ((Chg.refl _ w2).drew) (fun hHeld => ?_)
          refine wpAnyH_take (i := 0) (oi := { dst := some 14, op := Op.move (Operand.tmp 4), type := 2, pos := "wire.go:76", after := #[], guard := none }) (v := ?_) rfl (by kernel_rfl) (by kernel_rfl) (by kernel_rfl) (fun _ _ _ h => h) (Or.inl ⟨by rfl, ?hyr17x0q1⟩) (by assumption) ?restr17x0q1
          case hyr17x0q1 => intro wq hSw; (go_simp); (try with_reducible rfl)
          try simp only [Act.put, List.setIfInBounds_toArray, List.set_cons_zero, List.set_cons_succ]
          refine wpAnyH_take (i := 1) (oi := { dst := some 15, op := Op.fieldAddr 67 (Operand.tmp 1) 0, type := 0, pos := "wire.go:76", after := #[], guard := none }) (v := ?_) rfl (by kernel_rfl) (by kernel_rfl) (by kernel_rfl) (fun _ _ _ h => h) (Or.inl ⟨by rfl, ?hyr17x1q4⟩) (by assumption) ?restr17x1q4
          case hyr17x1q4 => intro wq hSw; (go_simp); (try with_reducible rfl)
          try simp only [Act.put, List.setIfInBounds_toArray, List.set_cons_zero, List.set_cons_succ]
          refine wpAnyH_take (i := 2) (oi := { dst := some 16, op := Op.load 23 (Operand.tmp 15), type := 23, pos := "wire.go:76", after := #[{ on := 1, ground := Ground.data }], guard := none }) (v := ?_) rfl (by kernel_rfl) (by kernel_rfl) (by kernel_rfl) (fun _ _ _ h => h) (Or.inl ⟨by rfl, ?hyr17x2q7⟩) (by assumption) ?restr17x2q7
          case hyr17x2q7 => intro wq hSw; (have cq := Chg.cellv hSw p0 hgg; go_simp); (try with_reducible rfl)
          try simp only [Act.put, List.setIfInBounds_toArray, List.set_cons_zero, List.set_cons_succ]
          refine wpAnyH_take (i := 3) (oi := { dst := some 17, op := Op.move (Operand.tmp 5), type := 3, pos := "wire.go:76", after := #[], guard := none }) (v := ?_) rfl (by kernel_rfl) (by kernel_rfl) (by kernel_rfl) (fun _ _ _ h => h) (Or.inl ⟨by rfl, ?hyr17x3q10⟩) (by assumption) ?restr17x3q10
          case hyr17x3q10 => intro wq hSw; (go_simp); (try with_reducible rfl)
          try simp only [Act.put, List.setIfInBounds_toArray, List.set_cons_zero, List.set_cons_succ]
          refine wpAnyH_take (i := 4) (oi := { dst := some 18, op := Op.slice 23 (Operand.tmp 16) (some (Operand.tmp 17)) none none, type := 23, pos := "wire.go:76", after := #[{ on := 2, ground := Ground.data }, { on := 3, ground := Ground.data }], guard := none }) (v := ?_) rfl (by kernel_rfl) (by kernel_rfl) (by kernel_rfl) (fun _ _ _ h => h) (Or.inl ⟨by rfl, ?hyr17x4q13⟩) (by assumption) ?restr17x4q13
          case hyr17x4q13 => intro wq hSw; (go_simp); (try with_reducible rfl)
          try simp only [Act.put, List.setIfInBounds_toArray, List.set_cons_zero, List.set_cons_succ]
          refine wpAnyH_take (i := 5) (oi := { dst := some 19, op := Op.fieldAddr 67 (Operand.tmp 1) 1, type := 0, pos := "wire.go:76", after := #[], guard := none }) (v := ?_) rfl (by kernel_rfl) (by kernel_rfl) (by kernel_rfl) (fun _ _ _ h => h) (Or.inl ⟨by rfl, ?hyr17x5q16⟩) (by assumption) ?restr17x5q16
          case hyr17x5q16 => intro wq hSw; (go_simp); (try with_reducible rfl)
          try simp only [Act.put, List.setIfInBounds_toArray, List.set_cons_zero, List.set_cons_succ]
          refine wpAnyH_take (i := 6) (oi := { dst := some 20, op := Op.load 4 (Operand.tmp 19), type := 4, pos := "wire.go:76", after := #[{ on := 5, ground := Ground.data }], guard := none }) (v := ?_) rfl (by kernel_rfl) (by kernel_rfl) (by kernel_rfl) (fun _ _ _ h => h) (Or.inl ⟨by rfl, ?hyr17x6q19⟩) (by assumption) ?restr17x6q19
          case hyr17x6q19 => intro wq hSw; (have cq := Chg.cellv hSw p1 hgg; go_simp); (try with_reducible rfl)
          try simp only [Act.put, List.setIfInBounds_toArray, List.set_cons_zero, List.set_cons_succ]
          refine wpAnyH_take (i := 7) (oi := { dst := some 21, op := Op.move (Operand.tmp 20), type := 4, pos := "wire.go:76", after := #[{ on := 6, ground := Ground.data }], guard := none }) (v := ?_) rfl (by kernel_rfl) (by kernel_rfl) (by kernel_rfl) (fun _ _ _ h => h) (Or.inl ⟨by rfl, ?hyr17x7q22⟩) (by assumption) ?restr17x7q22
          case hyr17x7q22 => intro wq hSw; (go_simp); (try with_reducible rfl)
          try simp only [Act.put, List.setIfInBounds_toArray, List.set_cons_zero, List.set_cons_succ]
          refine wpAnyH_take (i := 8) (oi := { dst := some 22, op := Op.move (Operand.tmp 6), type := 31, pos := "wire.go:76", after := #[{ on := 7, ground := Ground.guard }, { on := 12, ground := Ground.gcOnly Departure.lateStores }], guard := some (7, true) }) (v := ?_) rfl (by kernel_rfl) (by kernel_rfl) (by kernel_rfl) (fun _ _ _ h => h) (Or.inl ⟨by rfl, ?hyr17x8q25⟩) (by assumption) ?restr17x8q25
          case hyr17x8q25 => intro wq hSw; (go_simp); (try with_reducible rfl)
          try simp only [Act.put, List.setIfInBounds_toArray, List.set_cons_zero, List.set_cons_succ]
          refine wpAnyH_take (i := 9) (oi := { dst := some 23, op := Op.binOp BinOp.eql 31 (Operand.tmp 22) (Operand.const (Value.int IntKind.i64 0)) 31, type := 4, pos := "wire.go:76", after := #[{ on := 8, ground := Ground.data }, { on := 7, ground := Ground.guard }, { on := 12, ground := Ground.gcOnly Departure.lateStores }], guard := some (7, true) }) (v := ?_) rfl (by kernel_rfl) (by kernel_rfl) (by kernel_rfl) (fun _ _ _ h => h) (Or.inl ⟨by rfl, ?hyr17x9q28⟩) (by assumption) ?restr17x9q28
          case hyr17x9q28 => intro wq hSw; (go_simp); (try with_reducible rfl)
          try simp only [Act.put, List.setIfInBounds_toArray, List.set_cons_zero, List.set_cons_succ]
          refine wpAnyH_take (i := 10) (oi := { dst := some 24, op := Op.pick (Operand.tmp 21) (Operand.tmp 23) (Operand.const (Value.bool false)), type := 4, pos := "wire.go:76", after := #[{ on := 7, ground := Ground.data }, { on := 9, ground := Ground.data }, { on := 12, ground := Ground.gcOnly Departure.lateStores }], guard := none }) (v := ?_) rfl (by kernel_rfl) (by kernel_rfl) (by kernel_rfl) (fun _ _ _ h => h) (Or.inl ⟨by rfl, ?hyr17x10q31⟩) (by assumption) ?restr17x10q31
          case hyr17x10q31 => intro wq hSw; (go_simp); (try with_reducible rfl)
          try simp only [Act.put, List.setIfInBounds_toArray, List.set_cons_zero, List.set_cons_succ]
          refine wpAnyH_take (i := 11) (oi := { dst := some 25, op := Op.build 67 #[(0, Operand.tmp 18), (1, Operand.tmp 24)], type := 67, pos := "wire.go:76", after := #[{ on := 4, ground := Ground.data }, { on := 10, ground := Ground.data }, { on := 12, ground := Ground.gcOnly Departure.lateStores }], guard := none }) (v := ?_) rfl (by kernel_rfl) (by kernel_rfl) (by kernel_rfl) (fun _ _ _ h => h) (Or.inl ⟨by rfl, ?hyr17x11q34⟩) (by assumption) ?restr17x11q34
          case hyr17x11q34 => intro wq hSw; (go_simp); (try with_reducible rfl)
          try simp only [Act.put, List.setIfInBounds_toArray, List.set_cons_zero, List.set_cons_succ]
          refine wpAnyH_take (i := 12) (oi := { dst := some 2, op := Op.assign (Operand.tmp 14), type := 3, pos := "wire.go:76", after := #[{ on := 0, ground := Ground.data }, { on := 7, ground := Ground.chain }, { on := 0, ground := Ground.phase }, { on := 1, ground := Ground.textOnly Departure.lateStores }, { on := 2, ground := Ground.textOnly Departure.lateStores }, { on := 3, ground := Ground.textOnly Departure.lateStores }, { on := 4, ground := Ground.textOnly Departure.lateStoresUnsure }, { on := 5, ground := Ground.textOnly Departure.lateStores }, { on := 6, ground := Ground.textOnly Departure.lateStores }, { on := 7, ground := Ground.textOnly Departure.lateStores }, { on := 8, ground := Ground.textOnly Departure.lateStores }, { on := 9, ground := Ground.textOnly Departure.lateStores }, { on := 10, ground := Ground.textOnly Departure.lateStores }, { on := 11, ground := Ground.textOnly Departure.lateStores }], guard := none }) (v := ?_) rfl (by kernel_rfl) (by kernel_rfl) (by kernel_rfl) (fun _ _ _ h => h) (Or.inl ⟨by rfl, ?hyr17x12q37⟩) (by assumption) ?restr17x12q37
          case hyr17x12q37 => intro wq hSw; (go_simp); (try with_reducible rfl)
          try simp only [Act.put, List.setIfInBounds_toArray, List.set_cons_zero, List.set_cons_succ]
          refine wpAnyH_ready (rs := [13]) (by kernel_rfl) (by simp) ?_
          refine AllReadyH.cons (o := { dst := none, op := Op.store 67 (Operand.tmp 3) (Operand.tmp 25), type := 0, pos := "wire.go:76", after := #[{ on := 11, ground := Ground.data }, { on := 12, ground := Ground.chain }, { on := 0, ground := Ground.phase }, { on := 1, ground := Ground.phase }, { on := 2, ground := Ground.phase }, { on := 3, ground := Ground.phase }, { on := 4, ground := Ground.phase }, { on := 5, ground := Ground.phase }, { on := 6, ground := Ground.phase }, { on := 7, ground := Ground.phase }, { on := 8, ground := Ground.phase }, { on := 9, ground := Ground.phase }, { on := 10, ground := Ground.phase }, { on := 11, ground := Ground.phase }, { on := 12, ground := Ground.phase }], guard := none }) rfl (fun K hK => ?_) AllReadyH.nil
          go_simp
          refine hK.out _ _ ((Chg.setCell (Chg.setCell hHeld _ (fun x hx => hx)) _ (fun x hx => hx))) (fun hHeld => ?_)
          clear hK K
          try simp only [Act.put, List.setIfInBounds_toArray, List.set_cons_zero, List.set_cons_succ]
          refine wpAnyH_done (by kernel_rfl) ?_ _
          go_wp2_with fail
          refine bodyPost_ret (v := .tuple #[.int .i64 N, .agg #[.slice (some ⟨x, o, none⟩) (0) (0), .bool true]]) (by simp [results, Tryd.results28, go_sem, *]) rfl ?_
          rw [← HT.out]
          simp only []
          rw [HB.out]
          have k9 := ((kk.setNew (p := ⟨g2, 0, none⟩) (.slice (some ⟨x, o, none⟩) (0) (0)) hgw).setNew (p := ⟨g2, 1, none⟩) (.bool true) hgw).drew
          exact rd_done (sl_end (HS.out.nx k9) (Nat.le_refl _)) (by omega) (by omega) (.inr ⟨_, _, rfl⟩) (fun x' o' hx' => by cases hx' <;> exact ⟨_, rfl⟩) k9
        · have hEI : ((E : Int) == 0) = false := beq_eq_false_iff_ne.2 (by omega)
          have HB : Hid ((true && (E == 0)) = false) := Lib.hid (by simp [*])
          go_wp2_with fail
          refine wp_region_held_drew (S := Chg (· ≠ g2) w2) (by kernel_rfl) ((Chg.refl _ w2).drew) (fun hHeld => ?_)
          refine wpAnyH_take (i := 0) (oi := { dst := some 14, op := Op.move (Operand.tmp 4), type := 2, pos := "wire.go:76", after := #[], guard := none }) (v := ?_) rfl (by kernel_rfl) (by kernel_rfl) (by kernel_rfl) (fun _ _ _ h => h) (Or.inl ⟨by rfl, ?hyr18x0q1⟩) (by assumption) ?restr18x0q1
          case hyr18x0q1 => intro wq hSw; (go_simp); (try with_reducible rfl)
          try simp only [Act.put, List.setIfInBounds_toArray, List.set_cons_zero, List.set_cons_succ]
          refine wpAnyH_take (i := 1) (oi := { dst := some 15, op := Op.fieldAddr 67 (Operand.tmp 1) 0, type := 0, pos := "wire.go:76", after := #[], guard := none }) (v := ?_) rfl (by kernel_rfl) (by kernel_rfl) (by kernel_rfl) (fun _ _ _ h => h) (Or.inl ⟨by rfl, ?hyr18x1q4⟩) (by assumption) ?restr18x1q4
          case hyr18x1q4 => intro wq hSw; (go_simp); (try with_reducible rfl)
          try simp only [Act.put, List.setIfInBounds_toArray, List.set_cons_zero, List.set_cons_succ]
          refine wpAnyH_take (i := 2) (oi := { dst := some 16, op := Op.load 23 (Operand.tmp 15), type := 23, pos := "wire.go:76", after := #[{ on := 1, ground := Ground.data }], guard := none }) (v := ?_) rfl (by kernel_rfl) (by kernel_rfl) (by kernel_rfl) (fun _ _ _ h => h) (Or.inl ⟨by rfl, ?hyr18x2q7⟩) (by assumption) ?restr18x2q7
          case hyr18x2q7 => intro wq hSw; (have cq := Chg.cellv hSw p0 hgg; go_simp); (try with_reducible rfl)
          try simp only [Act.put, List.setIfInBounds_toArray, List.set_cons_zero, List.set_cons_succ]
          refine wpAnyH_take (i := 3) (oi := { dst := some 17, op := Op.move (Operand.tmp 5), type := 3, pos := "wire.go:76", after := #[], guard := none }) (v := ?_) rfl (by kernel_rfl) (by kernel_rfl) (by kernel_rfl) (fun _ _ _ h => h) (Or.inl ⟨by rfl, ?hyr18x3q10⟩) (by assumption) ?restr18x3q10
          case hyr18x3q10 => intro wq hSw; (go_simp); (try with_reducible rfl)
          try simp only [Act.put, List.setIfInBounds_toArray, List.set_cons_zero, List.set_cons_succ]
          refine wpAnyH_take (i := 4) (oi := { dst := some 18, op := Op.slice 23 (Operand.tmp 16) (some (Operand.tmp 17)) none none, type := 23, pos := "wire.go:76", after := #[{ on := 2, ground := Ground.data }, { on := 3, ground := Ground.data }], guard := none }) (v := ?_) rfl (by kernel_rfl) (by kernel_rfl) (by kernel_rfl) (fun _ _ _ h => h) (Or.inl ⟨by rfl, ?hyr18x4q13⟩) (by assumption) ?restr18x4q13
          case hyr18x4q13 => intro wq hSw; (go_simp); (try with_reducible rfl)
          try simp only [Act.put, List.setIfInBounds_toArray, List.set_cons_zero, List.set_cons_succ]
          refine wpAnyH_take (i := 5) (oi := { dst := some 19, op := Op.fieldAddr 67 (Operand.tmp 1) 1, type := 0, pos := "wire.go:76", after := #[], guard := none }) (v := ?_) rfl (by kernel_rfl) (by kernel_rfl) (by kernel_rfl) (fun _ _ _ h => h) (Or.inl ⟨by rfl, ?hyr18x5q16⟩) (by assumption) ?restr18x5q16
          case hyr18x5q16 => intro wq hSw; (go_simp); (try with_reducible rfl)
          try simp only [Act.put, List.setIfInBounds_toArray, List.set_cons_zero, List.set_cons_succ]
          refine wpAnyH_take (i := 6) (oi := { dst := some 20, op := Op.load 4 (Operand.tmp 19), type := 4, pos := "wire.go:76", after := #[{ on := 5, ground := Ground.data }], guard := none }) (v := ?_) rfl (by kernel_rfl) (by kernel_rfl) (by kernel_rfl) (fun _ _ _ h => h) (Or.inl ⟨by rfl, ?hyr18x6q19⟩) (by assumption) ?restr18x6q19
          case hyr18x6q19 => intro wq hSw; (have cq := Chg.cellv hSw p1 hgg; go_simp); (try with_reducible rfl)
          try simp only [Act.put, List.setIfInBounds_toArray, List.set_cons_zero, List.set_cons_succ]
          refine wpAnyH_take (i := 7) (oi := { dst := some 21, op := Op.move (Operand.tmp 20), type := 4, pos := "wire.go:76", after := #[{ on := 6, ground := Ground.data }], guard := none }) (v := ?_) rfl (by kernel_rfl) (by kernel_rfl) (by kernel_rfl) (fun _ _ _ h => h) (Or.inl ⟨by rfl, ?hyr18x7q22⟩) (by assumption) ?restr18x7q22
          case hyr18x7q22 => intro wq hSw; (go_simp); (try with_reducible rfl)
          try simp only [Act.put, List.setIfInBounds_toArray, List.set_cons_zero, List.set_cons_succ]
          refine wpAnyH_take (i := 8) (oi := { dst := some 22, op := Op.move (Operand.tmp 6), type := 31, pos := "wire.go:76", after := #[{ on := 7, ground := Ground.guard }, { on := 12, ground := Ground.gcOnly Departure.lateStores }], guard := some (7, true) }) (v := ?_) rfl (by kernel_rfl) (by kernel_rfl) (by kernel_rfl) (fun _ _ _ h => h) (Or.inl ⟨by rfl, ?hyr18x8q25⟩) (by assumption) ?restr18x8q25
          case hyr18x8q25 => intro wq hSw; (go_simp); (try with_reducible rfl)
          try simp only [Act.put, List.setIfInBounds_toArray, List.set_cons_zero, List.set_cons_succ]
          refine wpAnyH_take (i := 9) (oi := { dst := some 23, op := Op.binOp BinOp.eql 31 (Operand.tmp 22) (Operand.const (Value.int IntKind.i64 0)) 31, type := 4, pos := "wire.go:76", after := #[{ on := 8, ground := Ground.data }, { on := 7, ground := Ground.guard }, { on := 12, ground := Ground.gcOnly Departure.lateStores }], guard := some (7, true) }) (v := ?_) rfl (by kernel_rfl) (by kernel_rfl) (by kernel_rfl) (fun _ _ _ h => h) (Or.inl ⟨by rfl, ?hyr18x9q28⟩) (by assumption) ?restr18x9q28
          case hyr18x9q28 => intro wq hSw; (go_simp); (try with_reducible rfl)
          try simp only [Act.put, List.setIfInBounds_toArray, List.set_cons_zero, List.set_cons_succ]
          refine wpAnyH_take (i := 10) (oi := { dst := some 24, op := Op.pick (Operand.tmp 21) (Operand.tmp 23) (Operand.const (Value.bool false)), type := 4, pos := "wire.go:76", after := #[{ on := 7, ground := Ground.data }, { on := 9, ground := Ground.data }, { on := 12, ground := Ground.gcOnly Departure.lateStores }], guard := none }) (v := ?_) rfl (by kernel_rfl) (by kernel_rfl) (by kernel_rfl) (fun _ _ _ h => h) (Or.inl ⟨by rfl, ?hyr18x10q31⟩) (by assumption) ?restr18x10q31
          case hyr18x10q31 => intro wq hSw; (go_simp); (try with_reducible rfl)
          try simp only [Act.put, List.setIfInBounds_toArray, List.set_cons_zero, List.set_cons_succ]
          refine wpAnyH_take (i := 11) (oi := { dst := some 25, op := Op.build 67 #[(0, Operand.tmp 18), (1, Operand.tmp 24)], type := 67, pos := "wire.go:76", after := #[{ on := 4, ground := Ground.data }, { on := 10, ground := Ground.data }, { on := 12, ground := Ground.gcOnly Departure.lateStores }], guard := none }) (v := ?_) rfl (by kernel_rfl) (by kernel_rfl) (by kernel_rfl) (fun _ _ _ h => h) (Or.inl ⟨by rfl, ?hyr18x11q34⟩) (by assumption) ?restr18x11q34
          case hyr18x11q34 => intro wq hSw; (go_simp); (try with_reducible rfl)
          try simp only [Act.put, List.setIfInBounds_toArray, List.set_cons_zero, List.set_cons_succ]
          refine wpAnyH_take (i := 12) (oi := { dst := some 2, op := Op.assign (Operand.tmp 14), type := 3, pos := "wire.go:76", after := #[{ on := 0, ground := Ground.data }, { on := 7, ground := Ground.chain }, { on := 0, ground := Ground.phase }, { on := 1, ground := Ground.textOnly Departure.lateStores }, { on := 2, ground := Ground.textOnly Departure.lateStores }, { on := 3, ground := Ground.textOnly Departure.lateStores }, { on := 4, ground := Ground.textOnly Departure.lateStoresUnsure }, { on := 5, ground := Ground.textOnly Departure.lateStores }, { on := 6, ground := Ground.textOnly Departure.lateStores }, { on := 7, ground := Ground.textOnly Departure.lateStores }, { on := 8, ground := Ground.textOnly Departure.lateStores }, { on := 9, ground := Ground.textOnly Departure.lateStores }, { on := 10, ground := Ground.textOnly Departure.lateStores }, { on := 11, ground := Ground.textOnly Departure.lateStores }], guard := none }) (v := ?_) rfl (by kernel_rfl) (by kernel_rfl) (by kernel_rfl) (fun _ _ _ h => h) (Or.inl ⟨by rfl, ?hyr18x12q37⟩) (by assumption) ?restr18x12q37
          case hyr18x12q37 => intro wq hSw; (go_simp); (try with_reducible rfl)
          try simp only [Act.put, List.setIfInBounds_toArray, List.set_cons_zero, List.set_cons_succ]
          refine wpAnyH_ready (rs := [13]) (by kernel_rfl) (by simp) ?_
          refine AllReadyH.cons (o := { dst := none, op := Op.store 67 (Operand.tmp 3) (Operand.tmp 25), type := 0, pos := "wire.go:76", after := #[{ on := 11, ground := Ground.data }, { on := 12, ground := Ground.chain }, { on := 0, ground := Ground.phase }, { on := 1, ground := Ground.phase }, { on := 2, ground := Ground.phase }, { on := 3, ground := Ground.phase }, { on := 4, ground := Ground.phase }, { on := 5, ground := Ground.phase }, { on := 6, ground := Ground.phase }, { on := 7, ground := Ground.phase }, { on := 8, ground := Ground.phase }, { on := 9, ground := Ground.phase }, { on := 10, ground := Ground.phase }, { on := 11, ground := Ground.phase }, { on := 12, ground := Ground.phase }], guard := none }) rfl (fun K hK => ?_) AllReadyH.nil
          go_simp
          refine hK.out _ _ ((Chg.setCell (Chg.setCell hHeld _ (fun x hx => hx)) _ (fun x hx => hx))) (fun hHeld => ?_)
          clear hK K
          try simp only [Act.put, List.setIfInBounds_toArray, List.set_cons_zero, List.set_cons_succ]
          refine wpAnyH_done (by kernel_rfl) ?_ _
          go_wp2_with fail
          refine bodyPost_ret (v := .tuple #[.int .i64 N, .agg #[.slice (some ⟨x, o, none⟩) (0) (0), .bool false]]) (by simp [results, Tryd.results28, go_sem, *]) rfl ?_
          rw [← HT.out]
          simp only []
          rw [HB.out]
          have k9 := ((kk.setNew (p := ⟨g2, 0, none⟩) (.slice (some ⟨x, o, none⟩) (0) (0)) hgw).setNew (p := ⟨g2, 1, none⟩) (.bool false) hgw).drew
          exact rd_done (sl_end (HS.out.nx k9) (Nat.le_refl _)) (by omega) (by omega) (.inr ⟨_, _, rfl⟩) (fun x' o' hx' => by cases hx' <;> exact ⟨_, rfl⟩) k9
    · have hcK' : ¬ c = K := hcK
      cases ok with
      | false =>
        have HB : Hid ((false && (E == 0)) = false) := Lib.hid (by simp [*])
        go_wp2_with fail
        refine wp_region_held_drew (S := Chg (· ≠ g2) w2) (by kernel_rfl) ((Chg.refl _ w2).drew) (fun hHeld => ?_)
        refine wpAnyH_take (i := 0) (oi := { dst := some 14, op := Op.move (Operand.tmp 4), type := 2, pos := "wire.go:76", after := #[], guard := none }) (v := ?_) rfl (by kernel_rfl) (by kernel_rfl) (by kernel_rfl) (fun _ _ _ h => h) (Or.inl ⟨by rfl, ?hyr19x0q1⟩) (by assumption) ?restr19x0q1
        case hyr19x0q1 => intro wq hSw; (go_simp); (try with_reducible rfl)
        try simp only [Act.put, List.setIfInBounds_toArray, List.set_cons_zero, List.set_cons_succ]
        refine wpAnyH_take (i := 1) (oi := { dst := some 15, op := Op.fieldAddr 67 (Operand.tmp 1) 0, type := 0, pos := "wire.go:76", after := #[], guard := none }) (v := ?_) rfl (by kernel_rfl) (by kernel_rfl) (by kernel_rfl) (fun _ _ _ h => h) (Or.inl ⟨by rfl, ?hyr19x1q4⟩) (by assumption) ?restr19x1q4
        case hyr19x1q4 => intro wq hSw; (go_simp); (try with_reducible rfl)
        try simp only [Act.put, List.setIfInBounds_toArray, List.set_cons_zero, List.set_cons_succ]
        refine wpAnyH_take (i := 2) (oi := { dst := some 16, op := Op.load 23 (Operand.tmp 15), type := 23, pos := "wire.go:76", after := #[{ on := 1, ground := Ground.data }], guard := none }) (v := ?_) rfl (by kernel_rfl) (by kernel_rfl) (by kernel_rfl) (fun _ _ _ h => h) (Or.inl ⟨by rfl, ?hyr19x2q7⟩) (by assumption) ?restr19x2q7
        case hyr19x2q7 => intro wq hSw; (have cq := Chg.cellv hSw p0 hgg; go_simp); (try with_reducible rfl)
        try simp only [Act.put, List.setIfInBounds_toArray, List.set_cons_zero, List.set_cons_succ]
        refine wpAnyH_take (i := 3) (oi := { dst := some 17, op := Op.move (Operand.tmp 5), type := 3, pos := "wire.go:76", after := #[], guard := none }) (v := ?_) rfl (by kernel_rfl) (by kernel_rfl) (by kernel_rfl) (fun _ _ _ h => h) (Or.inl ⟨by rfl, ?hyr19x3q10⟩) (by assumption) ?restr19x3q10
        case hyr19x3q10 => intro wq hSw; (go_simp); (try with_reducible rfl)
        try simp only [Act.put, List.setIfInBounds_toArray, List.set_cons_zero, List.set_cons_succ]
        refine wpAnyH_take (i := 4) (oi := { dst := some 18, op := Op.slice 23 (Operand.tmp 16) (some (Operand.tmp 17)) none none, type := 23, pos := "wire.go:76", after := #[{ on := 2, ground := Ground.data }, { on := 3, ground := Ground.data }], guard := none }) (v := ?_) rfl (by kernel_rfl) (by kernel_rfl) (by kernel_rfl) (fun _ _ _ h => h) (Or.inl ⟨by rfl, ?hyr19x4q13⟩) (by assumption) ?restr19x4q13
        case hyr19x4q13 => intro wq hSw; (go_simp); (try with_reducible rfl)
        try simp only [Act.put, List.setIfInBounds_toArray, List.set_cons_zero, List.set_cons_succ]
        refine wpAnyH_take (i := 5) (oi := { dst := some 19, op := Op.fieldAddr 67 (Operand.tmp 1) 1, type := 0, pos := "wire.go:76", after := #[], guard := none }) (v := ?_) rfl (by kernel_rfl) (by kernel_rfl) (by kernel_rfl) (fun _ _ _ h => h) (Or.inl ⟨by rfl, ?hyr19x5q16⟩) (by assumption) ?restr19x5q16
        case hyr19x5q16 => intro wq hSw; (go_simp); (try with_reducible rfl)
        try simp only [Act.put, List.setIfInBounds_toArray, List.set_cons_zero, List.set_cons_succ]
        refine wpAnyH_take (i := 6) (oi := { dst := some 20, op := Op.load 4 (Operand.tmp 19), type := 4, pos := "wire.go:76", after := #[{ on := 5, ground := Ground.data }], guard := none }) (v := ?_) rfl (by kernel_rfl) (by kernel_rfl) (by kernel_rfl) (fun _ _ _ h => h) (Or.inl ⟨by rfl, ?hyr19x6q19⟩) (by assumption) ?restr19x6q19
        case hyr19x6q19 => intro wq hSw; (have cq := Chg.cellv hSw p1 hgg; go_simp); (try with_reducible rfl)
        try simp only [Act.put, List.setIfInBounds_toArray, List.set_cons_zero, List.set_cons_succ]
        refine wpAnyH_take (i := 7) (oi := { dst := some 21, op := Op.move (Operand.tmp 20), type := 4, pos := "wire.go:76", after := #[{ on := 6, ground := Ground.data }], guard := none }) (v := ?_) rfl (by kernel_rfl) (by kernel_rfl) (by kernel_rfl) (fun _ _ _ h => h) (Or.inl ⟨by rfl, ?hyr19x7q22⟩) (by assumption) ?restr19x7q22
        case hyr19x7q22 => intro wq hSw; (go_simp); (try with_reducible rfl)
        try simp only [Act.put, List.setIfInBounds_toArray, List.set_cons_zero, List.set_cons_succ]
        refine wpAnyH_take (i := 8) (oi := { dst := some 22, op := Op.move (Operand.tmp 6), type := 31, pos := "wire.go:76", after := #[{ on := 7, ground := Ground.guard }, { on := 12, ground := Ground.gcOnly Departure.lateStores }], guard := some (7, true) }) (v := undef) rfl (by kernel_rfl) (by kernel_rfl) (by kernel_rfl) (fun _ _ _ h => h) (Or.inr ⟨by rfl, rfl⟩) (by assumption) ?_
        try simp only [Act.put, List.setIfInBounds_toArray, List.set_cons_zero, List.set_cons_succ]
        refine wpAnyH_take (i := 9) (oi := { dst := some 23, op := Op.binOp BinOp.eql 31 (Operand.tmp 22) (Operand.const (Value.int IntKind.i64 0)) 31, type := 4, pos := "wire.go:76", after := #[{ on := 8, ground := Ground.data }, { on := 7, ground := Ground.guard }, { on := 12, ground := Ground.gcOnly Departure.lateStores }], guard := some (7, true) }) (v := undef) rfl (by kernel_rfl) (by kernel_rfl) (by kernel_rfl) (fun _ _ _ h => h) (Or.inr ⟨by rfl, rfl⟩) (by assumption) ?_
        try simp only [Act.put, List.setIfInBounds_toArray, List.set_cons_zero, List.set_cons_succ]
        refine wpAnyH_take (i := 10) (oi := { dst := some 24, op := Op.pick (Operand.tmp 21) (Operand.tmp 23) (Operand.const (Value.bool false)), type := 4, pos := "wire.go:76", after := #[{ on := 7, ground := Ground.data }, { on := 9, ground := Ground.data }, { on := 12, ground := Ground.gcOnly Departure.lateStores }], guard := none }) (v := ?_) rfl (by kernel_rfl) (by kernel_rfl) (by kernel_rfl) (fun _ _ _ h => h) (Or.inl ⟨by rfl, ?hyr19x10q29⟩) (by assumption) ?restr19x10q29
        case hyr19x10q29 => intro wq hSw; (go_simp); (try with_reducible rfl)
        try simp only [Act.put, List.setIfInBounds_toArray, List.set_cons_zero, List.set_cons_succ]
        refine wpAnyH_take (i := 11) (oi := { dst := some 25, op := Op.build 67 #[(0, Operand.tmp 18), (1, Operand.tmp 24)], type := 67, pos := "wire.go:76", after := #[{ on := 4, ground := Ground.data }, { on := 10, ground := Ground.data }, { on := 12, ground := Ground.gcOnly Departure.lateStores }], guard := none }) (v := ?_) rfl (by kernel_rfl) (by kernel_rfl) (by kernel_rfl) (fun _ _ _ h => h) (Or.inl ⟨by rfl, ?hyr19x11q32⟩) (by assumption) ?restr19x11q32
        case hyr19x11q32 => intro wq hSw; (go_simp); (try with_reducible rfl)
        try simp only [Act.put, List.setIfInBounds_toArray, List.set_cons_zero, List.set_cons_succ]
        refine wpAnyH_take (i := 12) (oi := { dst := some 2, op := Op.assign (Operand.tmp 14), type := 3, pos := "wire.go:76", after := #[{ on := 0, ground := Ground.data }, { on := 7, ground := Ground.chain }, { on := 0, ground := Ground.phase }, { on := 1, ground := Ground.textOnly Departure.lateStores }, { on := 2, ground := Ground.textOnly Departure.lateStores }, { on := 3, ground := Ground.textOnly Departure.lateStores }, { on := 4, ground := Ground.textOnly Departure.lateStoresUnsure }, { on := 5, ground := Ground.textOnly Departure.lateStores }, { on := 6, ground := Ground.textOnly Departure.lateStores }, { on := 7, ground := Ground.textOnly Departure.lateStores }, { on := 8, ground := Ground.textOnly Departure.lateStores }, { on := 9, ground := Ground.textOnly Departure.lateStores }, { on := 10, ground := Ground.textOnly Departure.lateStores }, { on := 11, ground := Ground.textOnly Departure.lateStores }], guard := none }) (v := ?_) rfl (by kernel_rfl) (by kernel_rfl) (by kernel_rfl) (fun _ _ _ h => h) (Or.inl ⟨by rfl, ?hyr19x12q35⟩) (by assumption) ?restr19x12q35
        case hyr19x12q35 => intro wq hSw; (go_simp); (try with_reducible rfl)
        try simp only [Act.put, List.setIfInBounds_toArray, List.set_cons_zero, List.set_cons_succ]
        refine wpAnyH_ready (rs := [13]) (by kernel_rfl) (by simp) ?_
        refine AllReadyH.cons (o := { dst := none, op := Op.store 67 (Operand.tmp 3) (Operand.tmp 25), type := 0, pos := "wire.go:76", after := #[{ on := 11, ground := Ground.data }, { on := 12, ground := Ground.chain }, { on := 0, ground := Ground.phase }, { on := 1, ground := Ground.phase }, { on := 2, ground := Ground.phase }, { on := 3, ground := Ground.phase }, { on := 4, ground := Ground.phase }, { on := 5, ground := Ground.phase }, { on := 6, ground := Ground.phase }, { on := 7, ground := Ground.phase }, { on := 8, ground := Ground.phase }, { on := 9, ground := Ground.phase }, { on := 10, ground := Ground.phase }, { on := 11, ground := Ground.phase }, { on := 12, ground := Ground.phase }], guard := none }) rfl (fun K hK => ?_) AllReadyH.nil
        go_simp
        refine hK.out _ _ ((Chg.setCell (Chg.setCell hHeld _ (fun x hx => hx)) _ (fun x hx => hx))) (fun hHeld => ?_)
        clear hK K
        try simp only [Act.put, List.setIfInBounds_toArray, List.set_cons_zero, List.set_cons_succ]
        refine wpAnyH_done (by kernel_rfl) ?_ _
        go_wp2_with fail
        refine bodyPost_ret (v := .tuple #[.int .i64 N, .agg #[.slice (some ⟨x, o + K, none⟩) (n - K) (c - K), .bool false]]) (by simp [results, Tryd.results28, go_sem, *]) rfl ?_
        rw [← HT.out]
        simp only []
        rw [HB.out]
        have k9 := ((kk.setNew (p := ⟨g2, 0, none⟩) (.slice (some ⟨x, o + K, none⟩) (n - K) (c - K)) hgw).setNew (p := ⟨g2, 1, none⟩) (.bool false) hgw).drew
        exact rd_done (sl_from (HS.out.nx k9) hk) (by omega) (by omega) (.inr ⟨_, _, rfl⟩) (fun x' o' hx' => by cases hx' <;> exact ⟨_, rfl⟩) k9
      | true =>
        by_cases hE : E = 0
        · subst hE
          have HB : Hid ((true && ((0 : Nat) == 0)) = true) := Lib.hid (by simp [*])
          go_wp2_with fail
          refine wp_region_held_drew (S := Chg (· ≠ g2) w2) (by kernel_rfl) ((Chg.refl _ w2).drew) (fun hHeld => ?_)
          refine wpAnyH_take (i := 0) (oi := { dst := some 14, op := Op.move (Operand.tmp 4), type := 2, pos := "wire.go:76", after := #[], guard := none }) (v := ?_) rfl (by kernel_rfl) (by kernel_rfl) (by kernel_rfl) (fun _ _ _ h => h) (Or.inl ⟨by rfl, ?hyr20x0q1⟩) (by assumption) ?restr20x0q1
          case hyr20x0q1 => intro wq hSw; (go_simp); (try with_reducible rfl)
          try simp only [Act.put, List.setIfInBounds_toArray, List.set_cons_zero, List.set_cons_succ]
          refine wpAnyH_take (i := 1) (oi := { dst := some 15, op := Op.fieldAddr 67 (Operand.tmp 1) 0, type := 0, pos := "wire.go:76", after := #[], guard := none }) (v := ?_) rfl (by kernel_rfl) (by kernel_rfl) (by kernel_rfl) (fun _ _ _ h => h) (Or.inl ⟨by rfl, ?hyr20x1q4⟩) (by assumption) ?restr20x1q4
          case hyr20x1q4 => intro wq hSw; (go_simp); (try with_reducible rfl)
          try simp only [Act.put, List.setIfInBounds_toArray, List.set_cons_zero, List.set_cons_succ]
          refine wpAnyH_take (i := 2) (oi := { dst := some 16, op := Op.load 23 (Operand.tmp 15), type := 23, pos := "wire.go:76", after := #[{ on := 1, ground := Ground.data }], guard := none }) (v := ?_) rfl (by kernel_rfl) (by kernel_rfl) (by kernel_rfl) (fun _ _ _ h => h) (Or.inl ⟨by rfl, ?hyr20x2q7⟩) (by assumption) ?restr20x2q7
          case hyr20x2q7 => intro wq hSw; (have cq := Chg.cellv hSw p0 hgg; go_simp); (try with_reducible rfl)
          try simp only [Act.put, List.setIfInBounds_toArray, List.set_cons_zero, List.set_cons_succ]
          refine wpAnyH_take (i := 3) (oi := { dst := some 17, op := Op.move (Operand.tmp 5), type := 3, pos := "wire.go:76", after := #[], guard := none }) (v := ?_) rfl (by kernel_rfl) (by kernel_rfl) (by kernel_rfl) (fun _ _ _ h => h) (Or.inl ⟨by rfl, ?hyr20x3q10⟩) (by assumption) ?restr20x3q10
          case hyr20x3q10 => intro wq hSw; (go_simp); (try with_reducible rfl)
          try simp only [Act.put, List.setIfInBounds_toArray, List.set_cons_zero, List.set_cons_succ]
          refine wpAnyH_take (i := 4) (oi := { dst := some 18, op := Op.slice 23 (Operand.tmp 16) (some (Operand.tmp 17)) none none, type := 23, pos := "wire.go:76", after := #[{ on := 2, ground := Ground.data }, { on := 3, ground := Ground.data }], guard := none }) (v := ?_) rfl (by kernel_rfl) (by kernel_rfl) (by kernel_rfl) (fun _ _ _ h => h) (Or.inl ⟨by rfl, ?hyr20x4q13⟩) (by assumption) ?restr20x4q13
          case hyr20x4q13 => intro wq hSw; (go_simp); (try with_reducible rfl)
          try simp only [Act.put, List.setIfInBounds_toArray, List.set_cons_zero, List.set_cons_succ]
          refine wpAnyH_take (i := 5) (oi := { dst := some 19, op := Op.fieldAddr 67 (Operand.tmp 1) 1, type := 0, pos := "wire.go:76", after := #[], guard := none }) (v := ?_) rfl (by kernel_rfl) (by kernel_rfl) (by kernel_rfl) (fun _ _ _ h => h) (Or.inl ⟨by rfl, ?hyr20x5q16⟩) (by assumption) ?restr20x5q16
          case hyr20x5q16 => intro wq hSw; (go_simp); (try with_reducible rfl)
          try simp only [Act.put, List.setIfInBounds_toArray, List.set_cons_zero, List.set_cons_succ]
          refine wpAnyH_take (i := 6) (oi := { dst := some 20, op := Op.load 4 (Operand.tmp 19), type := 4, pos := "wire.go:76", after := #[{ on := 5, ground := Ground.data }], guard := none }) (v := ?_) rfl (by kernel_rfl) (by kernel_rfl) (by kernel_rfl) (fun _ _ _ h => h) (Or.inl ⟨by rfl, ?hyr20x6q19⟩) (by assumption) ?restr20x6q19
          case hyr20x6q19 => intro wq hSw; (have cq := Chg.cellv hSw p1 hgg; go_simp); (try with_reducible rfl)
          try simp only [Act.put, List.setIfInBounds_toArray, List.set_cons_zero, List.set_cons_succ]
          refine wpAnyH_take (i := 7) (oi := { dst := some 21, op := Op.move (Operand.tmp 20), type := 4, pos := "wire.go:76", after := #[{ on := 6, ground := Ground.data }], guard := none }) (v := ?_) rfl (by kernel_rfl) (by kernel_rfl) (by kernel_rfl) (fun _ _ _ h => h) (Or.inl ⟨by rfl, ?hyr20x7q22⟩) (by assumption) ?restr20x7q22
          case hyr20x7q22 => intro wq hSw; (go_simp); (try with_reducible rfl)
          try simp only [Act.put, List.setIfInBounds_toArray, List.set_cons_zero, List.set_cons_succ]
          refine wpAnyH_take (i := 8) (oi := { dst := some 22, op := Op.move (Operand.tmp 6), type := 31, pos := "wire.go:76", after := #[{ on := 7, ground := Ground.guard }, { on := 12, ground := Ground.gcOnly Departure.lateStores }], guard := some (7, true) }) (v := ?_) rfl (by kernel_rfl) (by kernel_rfl) (by kernel_rfl) (fun _ _ _ h => h) (Or.inl ⟨by rfl, ?hyr20x8q25⟩) (by assumption) ?restr20x8q25
          case hyr20x8q25 => intro wq hSw; (go_simp); (try with_reducible rfl)
          try simp only [Act.put, List.setIfInBounds_toArray, List.set_cons_zero, List.set_cons_succ]
          refine wpAnyH_take (i := 9) (oi := { dst := some 23, op := Op.binOp BinOp.eql 31 (Operand.tmp 22) (Operand.const (Value.int IntKind.i64 0)) 31, type := 4, pos := "wire.go:76", after := #[{ on := 8, ground := Ground.data }, { on := 7, ground := Ground.guard }, { on := 12, ground := Ground.gcOnly Departure.lateStores }], guard := some (7, true) }) (v := ?_) rfl (by kernel_rfl) (by kernel_rfl) (by kernel_rfl) (fun _ _ _ h => h) (Or.inl ⟨by rfl, ?hyr20x9q28⟩) (by assumption) ?restr20x9q28
          case hyr20x9q28 => intro wq hSw; (go_simp); (try with_reducible rfl)
          try simp only [Act.put, List.setIfInBounds_toArray, List.set_cons_zero, List.set_cons_succ]
          refine wpAnyH_take (i := 10) (oi := { dst := some 24, op := Op.pick (Operand.tmp 21) (Operand.tmp 23) (Operand.const (Value.bool false)), type := 4, pos := "wire.go:76", after := #[{ on := 7, ground := Ground.data }, { on := 9, ground := Ground.data }, { on := 12, ground := Ground.gcOnly Departure.lateStores }], guard := none }) (v := ?_) rfl (by kernel_rfl) (by kernel_rfl) (by kernel_rfl) (fun _ _ _ h => h) (Or.inl ⟨by rfl, ?hyr20x10q31⟩) (by assumption) ?restr20x10q31
          case hyr20x10q31 => intro wq hSw; (go_simp); (try with_reducible rfl)
          try simp only [Act.put, List.setIfInBounds_toArray, List.set_cons_zero, List.set_cons_succ]
          refine wpAnyH_take (i := 11) (oi := { dst := some 25, op := Op.build 67 #[(0, Operand.tmp 18), (1, Operand.tmp 24)], type := 67, pos := "wire.go:76", after := #[{ on := 4, ground := Ground.data }, { on := 10, ground := Ground.data }, { on := 12, ground := Ground.gcOnly Departure.lateStores }], guard := none }) (v := ?_) rfl (by kernel_rfl) (by kernel_rfl) (by kernel_rfl) (fun _ _ _ h => h) (Or.inl ⟨by rfl, ?hyr20x11q34⟩) (by assumption) ?restr20x11q34
          case hyr20x11q34 => intro wq hSw; (go_simp); (try with_reducible rfl)
          try simp only [Act.put, List.setIfInBounds_toArray, List.set_cons_zero, List.set_cons_succ]
          refine wpAnyH_take (i := 12) (oi := { dst := some 2, op := Op.assign (Operand.tmp 14), type := 3, pos := "wire.go:76", after := #[{ on := 0, ground := Ground.data }, { on := 7, ground := Ground.chain }, { on := 0, ground := Ground.phase }, { on := 1, ground := Ground.textOnly Departure.lateStores }, { on := 2, ground := Ground.textOnly Departure.lateStores }, { on := 3, ground := Ground.textOnly Departure.lateStores }, { on := 4, ground := Ground.textOnly Departure.lateStoresUnsure }, { on := 5, ground := Ground.textOnly Departure.lateStores }, { on := 6, ground := Ground.textOnly Departure.lateStores }, { on := 7, ground := Ground.textOnly Departure.lateStores }, { on := 8, ground := Ground.textOnly Departure.lateStores }, { on := 9, ground := Ground.textOnly Departure.lateStores }, { on := 10, ground := Ground.textOnly Departure.lateStores }, { on := 11, ground := Ground.textOnly Departure.lateStores }], guard := none }) (v := ?_) rfl (by kernel_rfl) (by kernel_rfl) (by kernel_rfl) (fun _ _ _ h => h) (Or.inl ⟨by rfl, ?hyr20x12q37⟩) (by assumption) ?restr20x12q37
          case hyr20x12q37 => intro wq hSw; (go_simp); (try with_reducible rfl)
          try simp only [Act.put, List.setIfInBounds_toArray, List.set_cons_zero, List.set_cons_succ]
          refine wpAnyH_ready (rs := [13]) (by kernel_rfl) (by simp) ?_
          refine AllReadyH.cons (o := { dst := none, op := Op.store 67 (Operand.tmp 3) (Operand.tmp 25), type := 0, pos := "wire.go:76", after := #[{ on := 11, ground := Ground.data }, { on := 12, ground := Ground.chain }, { on := 0, ground := Ground.phase }, { on := 1, ground := Ground.phase }, { on := 2, ground := Ground.phase }, { on := 3, ground := Ground.phase }, { on := 4, ground := Ground.phase }, { on := 5, ground := Ground.phase }, { on := 6, ground := Ground.phase }, { on := 7, ground := Ground.phase }, { on := 8, ground := Ground.phase }, { on := 9, ground := Ground.phase }, { on := 10, ground := Ground.phase }, { on := 11, ground := Ground.phase }, { on := 12, ground := Ground.phase }], guard := none }) rfl (fun K hK => ?_) AllReadyH.nil
          go_simp
          refine hK.out _ _ ((Chg.setCell (Chg.setCell hHeld _ (fun x hx => hx)) _ (fun x hx => hx))) (fun hHeld => ?_)
          clear hK K
          try simp only [Act.put, List.setIfInBounds_toArray, List.set_cons_zero, List.set_cons_succ]
          refine wpAnyH_done (by kernel_rfl) ?_ _
          go_wp2_with fail
          refine bodyPost_ret (v := .tuple #[.int .i64 N, .agg #[.slice (some ⟨x, o + K, none⟩) (n - K) (c - K), .bool true]]) (by simp [results, Tryd.results28, go_sem, *]) rfl ?_
          rw [← HT.out]
          simp only []
          rw [HB.out]
          have k9 := ((kk.setNew (p := ⟨g2, 0, none⟩) (.slice (some ⟨x, o + K, none⟩) (n - K) (c - K)) hgw).setNew (p := ⟨g2, 1, none⟩) (.bool true) hgw).drew
          exact rd_done (sl_from (HS.out.nx k9) hk) (by omega) (by omega) (.inr ⟨_, _, rfl⟩) (fun x' o' hx' => by cases hx' <;> exact ⟨_, rfl⟩) k9
        · have hEI : ((E : Int) == 0) = false := beq_eq_false_iff_ne.2 (by omega)
          have HB : Hid ((true && (E == 0)) = false) := Lib.hid (by simp [*])
          go_wp2_with fail
          refine wp_region_held_drew (S := Chg (· ≠ g2) w2) (by kernel_rfl) ((Chg.refl _ w2).drew) (fun hHeld => ?_)
          refine wpAnyH_take (i := 0) (oi := { dst := some 14, op := Op.move (Operand.tmp 4), type := 2, pos := "wire.go:76", after := #[], guard := none }) (v := ?_) rfl (by kernel_rfl) (by kernel_rfl) (by kernel_rfl) (fun _ _ _ h => h) (Or.inl ⟨by rfl, ?hyr21x0q1⟩) (by assumption) ?restr21x0q1
          case hyr21x0q1 => intro wq hSw; (go_simp); (try with_reducible rfl)
          try simp only [Act.put, List.setIfInBounds_toArray, List.set_cons_zero, List.set_cons_succ]
          refine wpAnyH_take (i := 1) (oi := { dst := some 15, op := Op.fieldAddr 67 (Operand.tmp 1) 0, type := 0, pos := "wire.go:76", after := #[], guard := none }) (v := ?_) rfl (by kernel_rfl) (by kernel_rfl) (by kernel_rfl) (fun _ _ _ h => h) (Or.inl ⟨by rfl, ?hyr21x1q4⟩) (by assumption) ?restr21x1q4
          case hyr21x1q4 => intro wq hSw; (go_simp); (try with_reducible rfl)
          try simp only [Act.put, List.setIfInBounds_toArray, List.set_cons_zero, List.set_cons_succ]
          refine wpAnyH_take (i := 2) (oi := { dst := some 16, op := Op.load 23 (Operand.tmp 15), type := 23, pos := "wire.go:76", after := #[{ on := 1, ground := Ground.data }], guard := none }) (v := ?_) rfl (by kernel_rfl) (by kernel_rfl) (by kernel_rfl) (fun _ _ _ h => h) (Or.inl ⟨by rfl, ?hyr21x2q7⟩) (by assumption) ?restr21x2q7
          case hyr21x2q7 => intro wq hSw; (have cq := Chg.cellv hSw p0 hgg; go_simp); (try with_reducible rfl)
          try simp only [Act.put, List.setIfInBounds_toArray, List.set_cons_zero, List.set_cons_succ]
          refine wpAnyH_take (i := 3) (oi := { dst := some 17, op := Op.move (Operand.tmp 5), type := 3, pos := "wire.go:76", after := #[], guard := none }) (v := ?_) rfl (by kernel_rfl) (by kernel_rfl) (by kernel_rfl) (fun _ _ _ h => h) (Or.inl ⟨by rfl, ?hyr21x3q10⟩) (by assumption) ?restr21x3q10
          case hyr21x3q10 => intro wq hSw; (go_simp); (try with_reducible rfl)
          try simp only [Act.put, List.setIfInBounds_toArray, List.set_cons_zero, List.set_cons_succ]
          refine wpAnyH_take (i := 4) (oi := { dst := some 18, op := Op.slice 23 (Operand.tmp 16) (some (Operand.tmp 17)) none none, type := 23, pos := "wire.go:76", after := #[{ on := 2, ground := Ground.data }, { on := 3, ground := Ground.data }], guard := none }) (v := ?_) rfl (by kernel_rfl) (by kernel_rfl) (by kernel_rfl) (fun _ _ _ h => h) (Or.inl ⟨by rfl, ?hyr21x4q13⟩) (by assumption) ?restr21x4q13
          case hyr21x4q13 => intro wq hSw; (go_simp); (try with_reducible rfl)
          try simp only [Act.put, List.setIfInBounds_toArray, List.set_cons_zero, List.set_cons_succ]
          refine wpAnyH_take (i := 5) (oi := { dst := some 19, op := Op.fieldAddr 67 (Operand.tmp 1) 1, type := 0, pos := "wire.go:76", after := #[], guard := none }) (v := ?_) rfl (by kernel_rfl) (by kernel_rfl) (by kernel_rfl) (fun _ _ _ h => h) (Or.inl ⟨by rfl, ?hyr21x5q16⟩) (by assumption) ?restr21x5q16
          case hyr21x5q16 => intro wq hSw; (go_simp); (try with_reducible rfl)
          try simp only [Act.put, List.setIfInBounds_toArray, List.set_cons_zero, List.set_cons_succ]
          refine wpAnyH_take (i := 6) (oi := { dst := some 20, op := Op.load 4 (Operand.tmp 19), type := 4, pos := "wire.go:76", after := #[{ on := 5, ground := Ground.data }], guard := none }) (v := ?_) rfl (by kernel_rfl) (by kernel_rfl) (by kernel_rfl) (fun _ _ _ h => h) (Or.inl ⟨by rfl, ?hyr21x6q19⟩) (by assumption) ?restr21x6q19
          case hyr21x6q19 => intro wq hSw; (have cq := Chg.cellv hSw p1 hgg; go_simp); (try with_reducible rfl)
          try simp only [Act.put, List.setIfInBounds_toArray, List.set_cons_zero, List.set_cons_succ]
          refine wpAnyH_take (i := 7) (oi := { dst := some 21, op := Op.move (Operand.tmp 20), type := 4, pos := "wire.go:76", after := #[{ on := 6, ground := Ground.data }], guard := none }) (v := ?_) rfl (by kernel_rfl) (by kernel_rfl) (by kernel_rfl) (fun _ _ _ h => h) (Or.inl ⟨by rfl, ?hyr21x7q22⟩) (by assumption) ?restr21x7q22
          case hyr21x7q22 => intro wq hSw; (go_simp); (try with_reducible rfl)
          try simp only [Act.put, List.setIfInBounds_toArray, List.set_cons_zero, List.set_cons_succ]
          refine wpAnyH_take (i := 8) (oi := { dst := some 22, op := Op.move (Operand.tmp 6), type := 31, pos := "wire.go:76", after := #[{ on := 7, ground := Ground.guard }, { on := 12, ground := Ground.gcOnly Departure.lateStores }], guard := some (7, true) }) (v := ?_) rfl (by kernel_rfl) (by kernel_rfl) (by kernel_rfl) (fun _ _ _ h => h) (Or.inl ⟨by rfl, ?hyr21x8q25⟩) (by assumption) ?restr21x8q25
          case hyr21x8q25 => intro wq hSw; (go_simp); (try with_reducible rfl)
          try simp only [Act.put, List.setIfInBounds_toArray, List.set_cons_zero, List.set_cons_succ]
          refine wpAnyH_take (i := 9) (oi := { dst := some 23, op := Op.binOp BinOp.eql 31 (Operand.tmp 22) (Operand.const (Value.int IntKind.i64 0)) 31, type := 4, pos := "wire.go:76", after := #[{ on := 8, ground := Ground.data }, { on := 7, ground := Ground.guard }, { on := 12, ground := Ground.gcOnly Departure.lateStores }], guard := some (7, true) }) (v := ?_) rfl (by kernel_rfl) (by kernel_rfl) (by kernel_rfl) (fun _ _ _ h => h) (Or.inl ⟨by rfl, ?hyr21x9q28⟩) (by assumption) ?restr21x9q28
          case hyr21x9q28 => intro wq hSw; (go_simp); (try with_reducible rfl)
          try simp only [Act.put, List.setIfInBounds_toArray, List.set_cons_zero, List.set_cons_succ]
          refine wpAnyH_take (i := 10) (oi := { dst := some 24, op := Op.pick (Operand.tmp 21) (Operand.tmp 23) (Operand.const (Value.bool false)), type := 4, pos := "wire.go:76", after := #[{ on := 7, ground := Ground.data }, { on := 9, ground := Ground.data }, { on := 12, ground := Ground.gcOnly Departure.lateStores }], guard := none }) (v := ?_) rfl (by kernel_rfl) (by kernel_rfl) (by kernel_rfl) (fun _ _ _ h => h) (Or.inl ⟨by rfl, ?hyr21x10q31⟩) (by assumption) ?restr21x10q31
          case hyr21x10q31 => intro wq hSw; (go_simp); (try with_reducible rfl)
          try simp only [Act.put, List.setIfInBounds_toArray, List.set_cons_zero, List.set_cons_succ]
          refine wpAnyH_take (i := 11) (oi := { dst := some 25, op := Op.build 67 #[(0, Operand.tmp 18), (1, Operand.tmp 24)], type := 67, pos := "wire.go:76", after := #[{ on := 4, ground := Ground.data }, { on := 10, ground := Ground.data }, { on := 12, ground := Ground.gcOnly Departure.lateStores }], guard := none }) (v := ?_) rfl (by kernel_rfl) (by kernel_rfl) (by kernel_rfl) (fun _ _ _ h => h) (Or.inl ⟨by rfl, ?hyr21x11q34⟩) (by assumption) ?restr21x11q34
          case hyr21x11q34 => intro wq hSw; (go_simp); (try with_reducible rfl)
          try simp only [Act.put, List.setIfInBounds_toArray, List.set_cons_zero, List.set_cons_succ]
          refine wpAnyH_take (i := 12) (oi := { dst := some 2, op := Op.assign (Operand.tmp 14), type := 3, pos := "wire.go:76", after := #[{ on := 0, ground := Ground.data }, { on := 7, ground := Ground.chain }, { on := 0, ground := Ground.phase }, { on := 1, ground := Ground.textOnly Departure.lateStores }, { on := 2, ground := Ground.textOnly Departure.lateStores }, { on := 3, ground := Ground.textOnly Departure.lateStores }, { on := 4, ground := Ground.textOnly Departure.lateStoresUnsure }, { on := 5, ground := Ground.textOnly Departure.lateStores }, { on := 6, ground := Ground.textOnly Departure.lateStores }, { on := 7, ground := Ground.textOnly Departure.lateStores }, { on := 8, ground := Ground.textOnly Departure.lateStores }, { on := 9, ground := Ground.textOnly Departure.lateStores }, { on := 10, ground := Ground.textOnly Departure.lateStores }, { on := 11, ground := Ground.textOnly Departure.lateStores }], guard := none }) (v := ?_) rfl (by kernel_rfl) (by kernel_rfl) (by kernel_rfl) (fun _ _ _ h => h) (Or.inl ⟨by rfl, ?hyr21x12q37⟩) (by assumption) ?restr21x12q37
          case hyr21x12q37 => intro wq hSw; (go_simp); (try with_reducible rfl)
          try simp only [Act.put, List.setIfInBounds_toArray, List.set_cons_zero, List.set_cons_succ]
          refine wpAnyH_ready (rs := [13]) (by kernel_rfl) (by simp) ?_
          refine AllReadyH.cons (o := { dst := none, op := Op.store 67 (Operand.tmp 3) (Operand.tmp 25), type := 0, pos := "wire.go:76", after := #[{ on := 11, ground := Ground.data }, { on := 12, ground := Ground.chain }, { on := 0, ground := Ground.phase }, { on := 1, ground := Ground.phase }, { on := 2, ground := Ground.phase }, { on := 3, ground := Ground.phase }, { on := 4, ground := Ground.phase }, { on := 5, ground := Ground.phase }, { on := 6, ground := Ground.phase }, { on := 7, ground := Ground.phase }, { on := 8, ground := Ground.phase }, { on := 9, ground := Ground.phase }, { on := 10, ground := Ground.phase }, { on := 11, ground := Ground.phase }, { on := 12, ground := Ground.phase }], guard := none }) rfl (fun K hK => ?_) AllReadyH.nil
          go_simp
          refine hK.out _ _ ((Chg.setCell (Chg.setCell hHeld _ (fun x hx => hx)) _ (fun x hx => hx))) (fun hHeld => ?_)
          clear hK K
          try simp only [Act.put, List.setIfInBounds_toArray, List.set_cons_zero, List.set_cons_succ]
          refine wpAnyH_done (by kernel_rfl) ?_ _
          go_wp2_with fail
          refine bodyPost_ret (v := .tuple #[.int .i64 N, .agg #[.slice (some ⟨x, o + K, none⟩) (n - K) (c - K), .bool false]]) (by simp [results, Tryd.results28, go_sem, *]) rfl ?_
          rw [← HT.out]
          simp only []
          rw [HB.out]
          have k9 := ((kk.setNew (p := ⟨g2, 0, none⟩) (.slice (some ⟨x, o + K, none⟩) (n - K) (c - K)) hgw).setNew (p := ⟨g2, 1, none⟩) (.bool false) hgw).drew
          exact rd_done (sl_from (HS.out.nx k9) hk) (by omega) (by omega) (.inr ⟨_, _, rfl⟩) (fun x' o' hx' => by cases hx' <;> exact ⟨_, rfl⟩) k9
end Go.Proofs.YtjaemckdfoaopabDoor
