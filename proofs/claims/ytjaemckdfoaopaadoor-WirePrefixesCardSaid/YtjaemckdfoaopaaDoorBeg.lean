/- The walk over the statements' own test on beginnings. -/
import Derived.Test.YtjaemckdfoaopaaDoorWireT
import Derived.Test.YtjaemckdfoaopaaDoorWireO
namespace Go.Proofs.YtjaemckdfoaopaaDoor
open Go.RowKit

def begB (a b : List UInt8) : Bool := decide (b.length ≤ a.length ∧ a.take b.length = b)
theorem beg_self (a : List UInt8) : begB a a = true := by unfold begB; simp
theorem beg_encU {p q : Nat} (hp : p < 18446744073709551616) (hq : q < 18446744073709551616) : begB (encU p) (encU q) = decide (p = q) := by
  by_cases h : p = q
  · subst h; rw [beg_self]; simp
  · have : begB (encU p) (encU q) = false := by
      unfold begB
      rw [decide_eq_false_iff_not]
      rintro ⟨_, h2⟩
      have e1 : encU p = encU q ++ (encU p).drop (encU q).length := by
        conv => lhs; rw [← List.take_append_drop (encU q).length (encU p), h2]
      have d1 := decU_encU p [] hp
      have d2 := decU_encU q ((encU p).drop (encU q).length) hq
      rw [List.append_nil] at d1
      rw [← e1, d1] at d2
      exact h (by simpa using congrArg Prod.fst (Option.some.inj d2))
    rw [this]; simp [h]
theorem zig_inj {a b : Int} (h : zig a = zig b) : a = b := by rw [← unzig_zig a, h, unzig_zig]
theorem beg_encI {p q : Nat} (hp : p < 18446744073709551616) (hq : q < 18446744073709551616) : begB (encU (zig (wrap64 (p : Int)))) (encU (zig (wrap64 (q : Int)))) = decide (p = q) := by
  have h1 := wrap64_bd p
  have h2 := wrap64_bd q
  rw [beg_encU (zig_lt h1.1 h1.2) (zig_lt h2.1 h2.2)]
  rw [decide_eq_decide]
  constructor
  · intro h
    have := zig_inj h
    unfold wrap64 at this
    omega
  · intro h; rw [h]
theorem encStr_inj {s x : ByteArray} (hs : s.size ≤ 200000) (hx : x.size ≤ 200000) {r : List UInt8} (h : encStr s = encStr x ++ r) : s = x := by
  unfold encStr at h
  rw [List.append_assoc] at h
  have d1 := decU_encU s.size (bytesOf s) (by omega)
  have d2 := decU_encU x.size (bytesOf x ++ r) (by omega)
  rw [h, d2] at d1
  have hsz : x.size = s.size := by simpa using congrArg Prod.fst (Option.some.inj d1)
  rw [hsz] at h
  have h3 := List.append_cancel_left h
  have h4 : (bytesOf s).length = (bytesOf x).length := by rw [bytesOf_length, bytesOf_length, hsz]
  have h5 : bytesOf s = bytesOf x := by
    have := congrArg (List.take (bytesOf x).length) h3
    rw [List.take_left, ← h4, List.take_length] at this
    exact this
  rw [← strB_bytes s, h5, strB_bytes]
theorem beg_encS {s x : ByteArray} (hs : s.size ≤ 200000) (hx : x.size ≤ 200000) : begB (encStr s) (encStr x) = decide (s = x) := by
  by_cases h : s = x
  · subst h; rw [beg_self]; simp
  · have : begB (encStr s) (encStr x) = false := by
      unfold begB
      rw [decide_eq_false_iff_not]
      rintro ⟨_, h2⟩
      refine h (encStr_inj hs hx (r := (encStr s).drop (encStr x).length) ?_)
      conv => lhs; rw [← List.take_append_drop (encStr x).length (encStr s), h2]
    rw [this]; simp [h]

theorem str_ne {x y : ByteArray} (h : ¬ x = y) : (x.toList == y.toList) = false := by
  rw [ByteArray.toList_eq, ByteArray.toList_eq, beq_eq_false_iff_ne]
  intro he
  refine h ?_
  rw [← strB_bytes x, ← strB_bytes y]
  unfold bytesOf
  rw [he]
theorem str_eq {x y : ByteArray} (h : x = y) : (x.toList == y.toList) = true := by subst h; simp
set_option maxRecDepth 100000 in
set_option maxHeartbeats 4000000 in
theorem begins_x (a1 a2 : Option Addr) (n1 c1 n2 c2 : Nat) (l1 l2 : List UInt8) (w : World) (h1 : Sl 1 encB w a1 n1 l1) (h2 : Sl 1 encB w a2 n2 l2) (hc1 : n1 ≤ c1) (hn1 : c1 ≤ maxLen) (hn2 : n2 ≤ 300000) :
    Calls Tryd.prog 16 #[.slice a1 n1 c1, .slice a2 n2 c2] w fun e w' => e = .returned (.bool (begB l1 l2)) ∧ Ex w w' := by
  unfold maxLen at hn1
  have HL1 := Lib.hid h1.len
  have HL2 := Lib.hid h2.len
  by_cases hlt : n1 < n2
  · have HB : Hid (begB l1 l2 = false) := by
      show begB l1 l2 = false
      unfold begB
      rw [decide_eq_false_iff_not]
      rintro ⟨h, _⟩
      have := HL1.out; have := HL2.out
      omega
    have d1 : decide ((n2 : Int) ≤ (n1 : Int)) = false := by simp; omega
    have d2 : decide (n2 ≤ n1) = false := by simp; omega
    clear h1 h2
    go_enter Tryd.func16, Tryd.ntmps16
    go_wp2_with fail
    refine wp_region_held_drew (S := Ex w.drew) (by kernel_rfl) (Ex.refl _) (fun hHeld => ?_)
    refine wpAnyH_take (i := 0) (oi := { dst := some 5, op := Op.move (Operand.tmp 0), type := 23, pos := "law.go:213", after := #[], guard := none }) (v := ?_) rfl (by kernel_rfl) (by kernel_rfl) (by kernel_rfl) (fun _ _ _ h => h) (Or.inl ⟨by rfl, ?hyr1x0⟩) (by assumption) ?restr1x0
    case hyr1x0 => intro wq hSw; (go_simp); (try with_reducible rfl)
    try simp only [Act.put, List.setIfInBounds_toArray, List.set_cons_zero, List.set_cons_succ]
    refine wpAnyH_take (i := 1) (oi := { dst := some 6, op := Op.call { callee := Callee.builtin Builtin.len, args := #[Operand.tmp 5], argTypes := #[23] }, type := 3, pos := "law.go:213", after := #[{ on := 0, ground := Ground.data }], guard := none }) (v := ?_) rfl (by kernel_rfl) (by kernel_rfl) (by kernel_rfl) (fun _ _ _ h => h) (Or.inl ⟨by rfl, ?hyr1x1⟩) (by assumption) ?restr1x1
    case hyr1x1 => intro wq hSw; (go_simp); (try with_reducible rfl)
    try simp only [Act.put, List.setIfInBounds_toArray, List.set_cons_zero, List.set_cons_succ]
    refine wpAnyH_take (i := 2) (oi := { dst := some 7, op := Op.move (Operand.tmp 1), type := 23, pos := "law.go:213", after := #[], guard := none }) (v := ?_) rfl (by kernel_rfl) (by kernel_rfl) (by kernel_rfl) (fun _ _ _ h => h) (Or.inl ⟨by rfl, ?hyr1x2⟩) (by assumption) ?restr1x2
    case hyr1x2 => intro wq hSw; (go_simp); (try with_reducible rfl)
    try simp only [Act.put, List.setIfInBounds_toArray, List.set_cons_zero, List.set_cons_succ]
    refine wpAnyH_take (i := 3) (oi := { dst := some 8, op := Op.call { callee := Callee.builtin Builtin.len, args := #[Operand.tmp 7], argTypes := #[23] }, type := 3, pos := "law.go:213", after := #[{ on := 2, ground := Ground.data }], guard := none }) (v := ?_) rfl (by kernel_rfl) (by kernel_rfl) (by kernel_rfl) (fun _ _ _ h => h) (Or.inl ⟨by rfl, ?hyr1x3⟩) (by assumption) ?restr1x3
    case hyr1x3 => intro wq hSw; (go_simp); (try with_reducible rfl)
    try simp only [Act.put, List.setIfInBounds_toArray, List.set_cons_zero, List.set_cons_succ]
    refine wpAnyH_take (i := 4) (oi := { dst := some 9, op := Op.binOp BinOp.geq 3 (Operand.tmp 6) (Operand.tmp 8) 3, type := 4, pos := "law.go:213", after := #[{ on := 1, ground := Ground.data }, { on := 3, ground := Ground.data }], guard := none }) (v := ?_) rfl (by kernel_rfl) (by kernel_rfl) (by kernel_rfl) (fun _ _ _ h => h) (Or.inl ⟨by rfl, ?hyr1x4⟩) (by assumption) ?restr1x4
    case hyr1x4 => intro wq hSw; (go_simp); (try with_reducible rfl)
    try simp only [Act.put, List.setIfInBounds_toArray, List.set_cons_zero, List.set_cons_succ]
    refine wpAnyH_take (i := 5) (oi := { dst := some 10, op := Op.move (Operand.tmp 9), type := 4, pos := "law.go:213", after := #[{ on := 4, ground := Ground.data }], guard := none }) (v := ?_) rfl (by kernel_rfl) (by kernel_rfl) (by kernel_rfl) (fun _ _ _ h => h) (Or.inl ⟨by rfl, ?hyr1x5⟩) (by assumption) ?restr1x5
    case hyr1x5 => intro wq hSw; (go_simp); (try with_reducible rfl)
    try simp only [Act.put, List.setIfInBounds_toArray, List.set_cons_zero, List.set_cons_succ]
    refine wpAnyH_take (i := 6) (oi := { dst := some 11, op := Op.move (Operand.tmp 0), type := 23, pos := "law.go:213", after := #[{ on := 5, ground := Ground.guard }], guard := some (5, true) }) (v := undef) rfl (by kernel_rfl) (by kernel_rfl) (by kernel_rfl) (fun _ _ _ h => h) (Or.inr ⟨by rfl, rfl⟩) (by assumption) ?_
    try simp only [Act.put, List.setIfInBounds_toArray, List.set_cons_zero, List.set_cons_succ]
    refine wpAnyH_take (i := 7) (oi := { dst := some 12, op := Op.move (Operand.tmp 1), type := 23, pos := "law.go:213", after := #[{ on := 5, ground := Ground.guard }], guard := some (5, true) }) (v := undef) rfl (by kernel_rfl) (by kernel_rfl) (by kernel_rfl) (fun _ _ _ h => h) (Or.inr ⟨by rfl, rfl⟩) (by assumption) ?_
    try simp only [Act.put, List.setIfInBounds_toArray, List.set_cons_zero, List.set_cons_succ]
    refine wpAnyH_take (i := 8) (oi := { dst := some 13, op := Op.call { callee := Callee.builtin Builtin.len, args := #[Operand.tmp 12], argTypes := #[23] }, type := 3, pos := "law.go:213", after := #[{ on := 7, ground := Ground.data }, { on := 5, ground := Ground.guard }], guard := some (5, true) }) (v := undef) rfl (by kernel_rfl) (by kernel_rfl) (by kernel_rfl) (fun _ _ _ h => h) (Or.inr ⟨by rfl, rfl⟩) (by assumption) ?_
    try simp only [Act.put, List.setIfInBounds_toArray, List.set_cons_zero, List.set_cons_succ]
    refine wpAnyH_take (i := 9) (oi := { dst := some 14, op := Op.slice 23 (Operand.tmp 11) none (some (Operand.tmp 13)) none, type := 23, pos := "law.go:213", after := #[{ on := 6, ground := Ground.data }, { on := 8, ground := Ground.data }, { on := 5, ground := Ground.guard }], guard := some (5, true) }) (v := undef) rfl (by kernel_rfl) (by kernel_rfl) (by kernel_rfl) (fun _ _ _ h => h) (Or.inr ⟨by rfl, rfl⟩) (by assumption) ?_
    try simp only [Act.put, List.setIfInBounds_toArray, List.set_cons_zero, List.set_cons_succ]
    refine wpAnyH_take (i := 10) (oi := { dst := some 15, op := Op.convert 23 9 (Operand.tmp 14), type := 9, pos := "law.go:213", after := #[{ on := 9, ground := Ground.data }, { on := 5, ground := Ground.guard }], guard := some (5, true) }) (v := undef) rfl (by kernel_rfl) (by kernel_rfl) (by kernel_rfl) (fun _ _ _ h => h) (Or.inr ⟨by rfl, rfl⟩) (by assumption) ?_
    try simp only [Act.put, List.setIfInBounds_toArray, List.set_cons_zero, List.set_cons_succ]
    refine wpAnyH_take (i := 11) (oi := { dst := some 16, op := Op.move (Operand.tmp 1), type := 23, pos := "law.go:213", after := #[{ on := 5, ground := Ground.guard }], guard := some (5, true) }) (v := undef) rfl (by kernel_rfl) (by kernel_rfl) (by kernel_rfl) (fun _ _ _ h => h) (Or.inr ⟨by rfl, rfl⟩) (by assumption) ?_
    try simp only [Act.put, List.setIfInBounds_toArray, List.set_cons_zero, List.set_cons_succ]
    refine wpAnyH_take (i := 12) (oi := { dst := some 17, op := Op.convert 23 9 (Operand.tmp 16), type := 9, pos := "law.go:213", after := #[{ on := 11, ground := Ground.data }, { on := 5, ground := Ground.guard }], guard := some (5, true) }) (v := undef) rfl (by kernel_rfl) (by kernel_rfl) (by kernel_rfl) (fun _ _ _ h => h) (Or.inr ⟨by rfl, rfl⟩) (by assumption) ?_
    try simp only [Act.put, List.setIfInBounds_toArray, List.set_cons_zero, List.set_cons_succ]
    refine wpAnyH_take (i := 13) (oi := { dst := some 18, op := Op.binOp BinOp.eql 9 (Operand.tmp 15) (Operand.tmp 17) 9, type := 4, pos := "law.go:213", after := #[{ on := 10, ground := Ground.data }, { on := 12, ground := Ground.data }, { on := 5, ground := Ground.guard }], guard := some (5, true) }) (v := undef) rfl (by kernel_rfl) (by kernel_rfl) (by kernel_rfl) (fun _ _ _ h => h) (Or.inr ⟨by rfl, rfl⟩) (by assumption) ?_
    try simp only [Act.put, List.setIfInBounds_toArray, List.set_cons_zero, List.set_cons_succ]
    refine wpAnyH_take (i := 14) (oi := { dst := some 19, op := Op.pick (Operand.tmp 10) (Operand.tmp 18) (Operand.const (Value.bool false)), type := 4, pos := "law.go:213", after := #[{ on := 5, ground := Ground.data }, { on := 13, ground := Ground.data }], guard := none }) (v := ?_) rfl (by kernel_rfl) (by kernel_rfl) (by kernel_rfl) (fun _ _ _ h => h) (Or.inl ⟨by rfl, ?hyr1x14⟩) (by assumption) ?restr1x14
    case hyr1x14 => intro wq hSw; (go_simp); (try with_reducible rfl)
    try simp only [Act.put, List.setIfInBounds_toArray, List.set_cons_zero, List.set_cons_succ]
    refine wpAnyH_take (i := 15) (oi := { dst := some 4, op := Op.assign (Operand.tmp 19), type := 4, pos := "law.go:213", after := #[{ on := 14, ground := Ground.data }, { on := 5, ground := Ground.chain }, { on := 0, ground := Ground.phase }, { on := 1, ground := Ground.phase }, { on := 2, ground := Ground.phase }, { on := 3, ground := Ground.phase }, { on := 4, ground := Ground.phase }, { on := 5, ground := Ground.phase }, { on := 6, ground := Ground.phase }, { on := 7, ground := Ground.phase }, { on := 8, ground := Ground.phase }, { on := 9, ground := Ground.phase }, { on := 10, ground := Ground.phase }, { on := 11, ground := Ground.phase }, { on := 12, ground := Ground.phase }, { on := 13, ground := Ground.phase }, { on := 14, ground := Ground.phase }], guard := none }) (v := ?_) rfl (by kernel_rfl) (by kernel_rfl) (by kernel_rfl) (fun _ _ _ h => h) (Or.inl ⟨by rfl, ?hyr1x15⟩) (by assumption) ?restr1x15
    case hyr1x15 => intro wq hSw; (go_simp); (try with_reducible rfl)
    try simp only [Act.put, List.setIfInBounds_toArray, List.set_cons_zero, List.set_cons_succ]
    refine wpAnyH_done (by kernel_rfl) ?_ _
    go_wp2
    go_ret
    exact ⟨by rw [HB.out]; rfl, (Ex.refl w).drew⟩
  · have d1 : decide ((n2 : Int) ≤ (n1 : Int)) = true := by simp; omega
    have d2 : decide (n2 ≤ n1) = true := by simp; omega
    have s1 := (h1.take (m := n2) (by omega)).nx (Ex.refl w).drew
    have s2 := h2.nx (Ex.refl w).drew
    have t0 : (0 : Int) ≤ (n2 : Int) := by omega
    have t1 : (n2 : Int) ≤ (c1 : Int) := by omega
    have t2 : n2 ≤ c1 := by omega
    by_cases he : l1.take n2 = l2
    · have HB : Hid (begB l1 l2 = true) := by
        show begB l1 l2 = true
        unfold begB
        rw [decide_eq_true_iff, HL1.out, HL2.out]
        exact ⟨by omega, he⟩
      rw [he] at s1
      clear h1 h2 he hlt
      go_enter Tryd.func16, Tryd.ntmps16
      go_wp2_with fail
      refine wp_region_held_drew (S := Ex w.drew) (by kernel_rfl) (Ex.refl _) (fun hHeld => ?_)
      refine wpAnyH_take (i := 0) (oi := { dst := some 5, op := Op.move (Operand.tmp 0), type := 23, pos := "law.go:213", after := #[], guard := none }) (v := ?_) rfl (by kernel_rfl) (by kernel_rfl) (by kernel_rfl) (fun _ _ _ h => h) (Or.inl ⟨by rfl, ?hyr2x0⟩) (by assumption) ?restr2x0
      case hyr2x0 => intro wq hSw; (go_simp); (try with_reducible rfl)
      try simp only [Act.put, List.setIfInBounds_toArray, List.set_cons_zero, List.set_cons_succ]
      refine wpAnyH_take (i := 1) (oi := { dst := some 6, op := Op.call { callee := Callee.builtin Builtin.len, args := #[Operand.tmp 5], argTypes := #[23] }, type := 3, pos := "law.go:213", after := #[{ on := 0, ground := Ground.data }], guard := none }) (v := ?_) rfl (by kernel_rfl) (by kernel_rfl) (by kernel_rfl) (fun _ _ _ h => h) (Or.inl ⟨by rfl, ?hyr2x1⟩) (by assumption) ?restr2x1
      case hyr2x1 => intro wq hSw; (go_simp); (try with_reducible rfl)
      try simp only [Act.put, List.setIfInBounds_toArray, List.set_cons_zero, List.set_cons_succ]
      refine wpAnyH_take (i := 2) (oi := { dst := some 7, op := Op.move (Operand.tmp 1), type := 23, pos := "law.go:213", after := #[], guard := none }) (v := ?_) rfl (by kernel_rfl) (by kernel_rfl) (by kernel_rfl) (fun _ _ _ h => h) (Or.inl ⟨by rfl, ?hyr2x2⟩) (by assumption) ?restr2x2
      case hyr2x2 => intro wq hSw; (go_simp); (try with_reducible rfl)
      try simp only [Act.put, List.setIfInBounds_toArray, List.set_cons_zero, List.set_cons_succ]
      refine wpAnyH_take (i := 3) (oi := { dst := some 8, op := Op.call { callee := Callee.builtin Builtin.len, args := #[Operand.tmp 7], argTypes := #[23] }, type := 3, pos := "law.go:213", after := #[{ on := 2, ground := Ground.data }], guard := none }) (v := ?_) rfl (by kernel_rfl) (by kernel_rfl) (by kernel_rfl) (fun _ _ _ h => h) (Or.inl ⟨by rfl, ?hyr2x3⟩) (by assumption) ?restr2x3
      case hyr2x3 => intro wq hSw; (go_simp); (try with_reducible rfl)
      try simp only [Act.put, List.setIfInBounds_toArray, List.set_cons_zero, List.set_cons_succ]
      refine wpAnyH_take (i := 4) (oi := { dst := some 9, op := Op.binOp BinOp.geq 3 (Operand.tmp 6) (Operand.tmp 8) 3, type := 4, pos := "law.go:213", after := #[{ on := 1, ground := Ground.data }, { on := 3, ground := Ground.data }], guard := none }) (v := ?_) rfl (by kernel_rfl) (by kernel_rfl) (by kernel_rfl) (fun _ _ _ h => h) (Or.inl ⟨by rfl, ?hyr2x4⟩) (by assumption) ?restr2x4
      case hyr2x4 => intro wq hSw; (go_simp); (try with_reducible rfl)
      try simp only [Act.put, List.setIfInBounds_toArray, List.set_cons_zero, List.set_cons_succ]
      refine wpAnyH_take (i := 5) (oi := { dst := some 10, op := Op.move (Operand.tmp 9), type := 4, pos := "law.go:213", after := #[{ on := 4, ground := Ground.data }], guard := none }) (v := ?_) rfl (by kernel_rfl) (by kernel_rfl) (by kernel_rfl) (fun _ _ _ h => h) (Or.inl ⟨by rfl, ?hyr2x5⟩) (by assumption) ?restr2x5
      case hyr2x5 => intro wq hSw; (go_simp); (try with_reducible rfl)
      try simp only [Act.put, List.setIfInBounds_toArray, List.set_cons_zero, List.set_cons_succ]
      refine wpAnyH_take (i := 6) (oi := { dst := some 11, op := Op.move (Operand.tmp 0), type := 23, pos := "law.go:213", after := #[{ on := 5, ground := Ground.guard }], guard := some (5, true) }) (v := ?_) rfl (by kernel_rfl) (by kernel_rfl) (by kernel_rfl) (fun _ _ _ h => h) (Or.inl ⟨by rfl, ?hyr2x6⟩) (by assumption) ?restr2x6
      case hyr2x6 => intro wq hSw; (go_simp); (try with_reducible rfl)
      try simp only [Act.put, List.setIfInBounds_toArray, List.set_cons_zero, List.set_cons_succ]
      refine wpAnyH_take (i := 7) (oi := { dst := some 12, op := Op.move (Operand.tmp 1), type := 23, pos := "law.go:213", after := #[{ on := 5, ground := Ground.guard }], guard := some (5, true) }) (v := ?_) rfl (by kernel_rfl) (by kernel_rfl) (by kernel_rfl) (fun _ _ _ h => h) (Or.inl ⟨by rfl, ?hyr2x7⟩) (by assumption) ?restr2x7
      case hyr2x7 => intro wq hSw; (go_simp); (try with_reducible rfl)
      try simp only [Act.put, List.setIfInBounds_toArray, List.set_cons_zero, List.set_cons_succ]
      refine wpAnyH_take (i := 8) (oi := { dst := some 13, op := Op.call { callee := Callee.builtin Builtin.len, args := #[Operand.tmp 12], argTypes := #[23] }, type := 3, pos := "law.go:213", after := #[{ on := 7, ground := Ground.data }, { on := 5, ground := Ground.guard }], guard := some (5, true) }) (v := ?_) rfl (by kernel_rfl) (by kernel_rfl) (by kernel_rfl) (fun _ _ _ h => h) (Or.inl ⟨by rfl, ?hyr2x8⟩) (by assumption) ?restr2x8
      case hyr2x8 => intro wq hSw; (go_simp); (try with_reducible rfl)
      try simp only [Act.put, List.setIfInBounds_toArray, List.set_cons_zero, List.set_cons_succ]
      refine wpAnyH_take (i := 9) (oi := { dst := some 14, op := Op.slice 23 (Operand.tmp 11) none (some (Operand.tmp 13)) none, type := 23, pos := "law.go:213", after := #[{ on := 6, ground := Ground.data }, { on := 8, ground := Ground.data }, { on := 5, ground := Ground.guard }], guard := some (5, true) }) (v := ?_) rfl (by kernel_rfl) (by kernel_rfl) (by kernel_rfl) (fun _ _ _ h => h) (Or.inl ⟨by rfl, ?hyr2x9⟩) (by assumption) ?restr2x9
      case hyr2x9 => intro wq hSw; (go_simp); (try with_reducible rfl)
      try simp only [Act.put, List.setIfInBounds_toArray, List.set_cons_zero, List.set_cons_succ]
      refine wpAnyH_take (i := 10) (oi := { dst := some 15, op := Op.convert 23 9 (Operand.tmp 14), type := 9, pos := "law.go:213", after := #[{ on := 9, ground := Ground.data }, { on := 5, ground := Ground.guard }], guard := some (5, true) }) (v := ?_) rfl (by kernel_rfl) (by kernel_rfl) (by kernel_rfl) (fun _ _ _ h => h) (Or.inl ⟨by rfl, ?hyr2x10⟩) (by assumption) ?restr2x10
      case hyr2x10 => intro wq hSw; (have rq := run_str (P := Tryd.prog) (cap := c1) Tryd.underlying23 Tryd.underlying5 Tryd.underlying9 (s1.nx hSw); go_simp); (try with_reducible rfl)
      try simp only [Act.put, List.setIfInBounds_toArray, List.set_cons_zero, List.set_cons_succ]
      refine wpAnyH_take (i := 11) (oi := { dst := some 16, op := Op.move (Operand.tmp 1), type := 23, pos := "law.go:213", after := #[{ on := 5, ground := Ground.guard }], guard := some (5, true) }) (v := ?_) rfl (by kernel_rfl) (by kernel_rfl) (by kernel_rfl) (fun _ _ _ h => h) (Or.inl ⟨by rfl, ?hyr2x11⟩) (by assumption) ?restr2x11
      case hyr2x11 => intro wq hSw; (go_simp); (try with_reducible rfl)
      try simp only [Act.put, List.setIfInBounds_toArray, List.set_cons_zero, List.set_cons_succ]
      refine wpAnyH_take (i := 12) (oi := { dst := some 17, op := Op.convert 23 9 (Operand.tmp 16), type := 9, pos := "law.go:213", after := #[{ on := 11, ground := Ground.data }, { on := 5, ground := Ground.guard }], guard := some (5, true) }) (v := ?_) rfl (by kernel_rfl) (by kernel_rfl) (by kernel_rfl) (fun _ _ _ h => h) (Or.inl ⟨by rfl, ?hyr2x12⟩) (by assumption) ?restr2x12
      case hyr2x12 => intro wq hSw; (have rq := run_str (P := Tryd.prog) (cap := c2) Tryd.underlying23 Tryd.underlying5 Tryd.underlying9 (s2.nx hSw); go_simp); (try with_reducible rfl)
      try simp only [Act.put, List.setIfInBounds_toArray, List.set_cons_zero, List.set_cons_succ]
      refine wpAnyH_take (i := 13) (oi := { dst := some 18, op := Op.binOp BinOp.eql 9 (Operand.tmp 15) (Operand.tmp 17) 9, type := 4, pos := "law.go:213", after := #[{ on := 10, ground := Ground.data }, { on := 12, ground := Ground.data }, { on := 5, ground := Ground.guard }], guard := some (5, true) }) (v := ?_) rfl (by kernel_rfl) (by kernel_rfl) (by kernel_rfl) (fun _ _ _ h => h) (Or.inl ⟨by rfl, ?hyr2x13⟩) (by assumption) ?restr2x13
      case hyr2x13 => intro wq hSw; (go_simp); (try with_reducible rfl)
      try simp only [Act.put, List.setIfInBounds_toArray, List.set_cons_zero, List.set_cons_succ]
      refine wpAnyH_take (i := 14) (oi := { dst := some 19, op := Op.pick (Operand.tmp 10) (Operand.tmp 18) (Operand.const (Value.bool false)), type := 4, pos := "law.go:213", after := #[{ on := 5, ground := Ground.data }, { on := 13, ground := Ground.data }], guard := none }) (v := ?_) rfl (by kernel_rfl) (by kernel_rfl) (by kernel_rfl) (fun _ _ _ h => h) (Or.inl ⟨by rfl, ?hyr2x14⟩) (by assumption) ?restr2x14
      case hyr2x14 => intro wq hSw; (go_simp); (try with_reducible rfl)
      try simp only [Act.put, List.setIfInBounds_toArray, List.set_cons_zero, List.set_cons_succ]
      refine wpAnyH_take (i := 15) (oi := { dst := some 4, op := Op.assign (Operand.tmp 19), type := 4, pos := "law.go:213", after := #[{ on := 14, ground := Ground.data }, { on := 5, ground := Ground.chain }, { on := 0, ground := Ground.phase }, { on := 1, ground := Ground.phase }, { on := 2, ground := Ground.phase }, { on := 3, ground := Ground.phase }, { on := 4, ground := Ground.phase }, { on := 5, ground := Ground.phase }, { on := 6, ground := Ground.phase }, { on := 7, ground := Ground.phase }, { on := 8, ground := Ground.phase }, { on := 9, ground := Ground.phase }, { on := 10, ground := Ground.phase }, { on := 11, ground := Ground.phase }, { on := 12, ground := Ground.phase }, { on := 13, ground := Ground.phase }, { on := 14, ground := Ground.phase }], guard := none }) (v := ?_) rfl (by kernel_rfl) (by kernel_rfl) (by kernel_rfl) (fun _ _ _ h => h) (Or.inl ⟨by rfl, ?hyr2x15⟩) (by assumption) ?restr2x15
      case hyr2x15 => intro wq hSw; (go_simp); (try with_reducible rfl)
      try simp only [Act.put, List.setIfInBounds_toArray, List.set_cons_zero, List.set_cons_succ]
      refine wpAnyH_done (by kernel_rfl) ?_ _
      go_wp2
      go_ret
      exact ⟨by rw [HB.out]; rfl, (Ex.refl w).drew⟩
    · have HB : Hid (begB l1 l2 = false) := by
        show begB l1 l2 = false
        unfold begB
        rw [decide_eq_false_iff_not, HL1.out, HL2.out]
        exact fun h => he h.2
      obtain ⟨x, hx⟩ : ∃ x, x = strB (l1.take n2) := ⟨_, rfl⟩
      obtain ⟨y, hy⟩ : ∃ y, y = strB l2 := ⟨_, rfl⟩
      have hxy : ¬ x = y := by
        rw [hx, hy]
        intro h
        exact he (by rw [← bytes_str (l1.take n2), h, bytes_str])
      have d3 := str_ne hxy
      have R1 : ∀ wq, Ex w.drew wq → (convert 23 9 (.slice a1 n2 c1)).run Tryd.prog wq = .ok (.string x) wq := fun wq k => by
        rw [hx]; exact run_str Tryd.underlying23 Tryd.underlying5 Tryd.underlying9 (s1.nx k)
      have R2 : ∀ wq, Ex w.drew wq → (convert 23 9 (.slice a2 n2 c2)).run Tryd.prog wq = .ok (.string y) wq := fun wq k => by
        rw [hy]; exact run_str Tryd.underlying23 Tryd.underlying5 Tryd.underlying9 (s2.nx k)
      have R1 := Lib.hid R1
      have R2 := Lib.hid R2
      clear h1 h2 he hlt hx hy s1 s2 hxy
      go_enter Tryd.func16, Tryd.ntmps16
      go_wp2_with fail
      refine wp_region_held_drew (S := Ex w.drew) (by kernel_rfl) (Ex.refl _) (fun hHeld => ?_)
      refine wpAnyH_take (i := 0) (oi := { dst := some 5, op := Op.move (Operand.tmp 0), type := 23, pos := "law.go:213", after := #[], guard := none }) (v := ?_) rfl (by kernel_rfl) (by kernel_rfl) (by kernel_rfl) (fun _ _ _ h => h) (Or.inl ⟨by rfl, ?hyr3x0⟩) (by assumption) ?restr3x0
      case hyr3x0 => intro wq hSw; (go_simp); (try with_reducible rfl)
      try simp only [Act.put, List.setIfInBounds_toArray, List.set_cons_zero, List.set_cons_succ]
      refine wpAnyH_take (i := 1) (oi := { dst := some 6, op := Op.call { callee := Callee.builtin Builtin.len, args := #[Operand.tmp 5], argTypes := #[23] }, type := 3, pos := "law.go:213", after := #[{ on := 0, ground := Ground.data }], guard := none }) (v := ?_) rfl (by kernel_rfl) (by kernel_rfl) (by kernel_rfl) (fun _ _ _ h => h) (Or.inl ⟨by rfl, ?hyr3x1⟩) (by assumption) ?restr3x1
      case hyr3x1 => intro wq hSw; (go_simp); (try with_reducible rfl)
      try simp only [Act.put, List.setIfInBounds_toArray, List.set_cons_zero, List.set_cons_succ]
      refine wpAnyH_take (i := 2) (oi := { dst := some 7, op := Op.move (Operand.tmp 1), type := 23, pos := "law.go:213", after := #[], guard := none }) (v := ?_) rfl (by kernel_rfl) (by kernel_rfl) (by kernel_rfl) (fun _ _ _ h => h) (Or.inl ⟨by rfl, ?hyr3x2⟩) (by assumption) ?restr3x2
      case hyr3x2 => intro wq hSw; (go_simp); (try with_reducible rfl)
      try simp only [Act.put, List.setIfInBounds_toArray, List.set_cons_zero, List.set_cons_succ]
      refine wpAnyH_take (i := 3) (oi := { dst := some 8, op := Op.call { callee := Callee.builtin Builtin.len, args := #[Operand.tmp 7], argTypes := #[23] }, type := 3, pos := "law.go:213", after := #[{ on := 2, ground := Ground.data }], guard := none }) (v := ?_) rfl (by kernel_rfl) (by kernel_rfl) (by kernel_rfl) (fun _ _ _ h => h) (Or.inl ⟨by rfl, ?hyr3x3⟩) (by assumption) ?restr3x3
      case hyr3x3 => intro wq hSw; (go_simp); (try with_reducible rfl)
      try simp only [Act.put, List.setIfInBounds_toArray, List.set_cons_zero, List.set_cons_succ]
      refine wpAnyH_take (i := 4) (oi := { dst := some 9, op := Op.binOp BinOp.geq 3 (Operand.tmp 6) (Operand.tmp 8) 3, type := 4, pos := "law.go:213", after := #[{ on := 1, ground := Ground.data }, { on := 3, ground := Ground.data }], guard := none }) (v := ?_) rfl (by kernel_rfl) (by kernel_rfl) (by kernel_rfl) (fun _ _ _ h => h) (Or.inl ⟨by rfl, ?hyr3x4⟩) (by assumption) ?restr3x4
      case hyr3x4 => intro wq hSw; (go_simp); (try with_reducible rfl)
      try simp only [Act.put, List.setIfInBounds_toArray, List.set_cons_zero, List.set_cons_succ]
      refine wpAnyH_take (i := 5) (oi := { dst := some 10, op := Op.move (Operand.tmp 9), type := 4, pos := "law.go:213", after := #[{ on := 4, ground := Ground.data }], guard := none }) (v := ?_) rfl (by kernel_rfl) (by kernel_rfl) (by kernel_rfl) (fun _ _ _ h => h) (Or.inl ⟨by rfl, ?hyr3x5⟩) (by assumption) ?restr3x5
      case hyr3x5 => intro wq hSw; (go_simp); (try with_reducible rfl)
      try simp only [Act.put, List.setIfInBounds_toArray, List.set_cons_zero, List.set_cons_succ]
      refine wpAnyH_take (i := 6) (oi := { dst := some 11, op := Op.move (Operand.tmp 0), type := 23, pos := "law.go:213", after := #[{ on := 5, ground := Ground.guard }], guard := some (5, true) }) (v := ?_) rfl (by kernel_rfl) (by kernel_rfl) (by kernel_rfl) (fun _ _ _ h => h) (Or.inl ⟨by rfl, ?hyr3x6⟩) (by assumption) ?restr3x6
      case hyr3x6 => intro wq hSw; (go_simp); (try with_reducible rfl)
      try simp only [Act.put, List.setIfInBounds_toArray, List.set_cons_zero, List.set_cons_succ]
      refine wpAnyH_take (i := 7) (oi := { dst := some 12, op := Op.move (Operand.tmp 1), type := 23, pos := "law.go:213", after := #[{ on := 5, ground := Ground.guard }], guard := some (5, true) }) (v := ?_) rfl (by kernel_rfl) (by kernel_rfl) (by kernel_rfl) (fun _ _ _ h => h) (Or.inl ⟨by rfl, ?hyr3x7⟩) (by assumption) ?restr3x7
      case hyr3x7 => intro wq hSw; (go_simp); (try with_reducible rfl)
      try simp only [Act.put, List.setIfInBounds_toArray, List.set_cons_zero, List.set_cons_succ]
      refine wpAnyH_take (i := 8) (oi := { dst := some 13, op := Op.call { callee := Callee.builtin Builtin.len, args := #[Operand.tmp 12], argTypes := #[23] }, type := 3, pos := "law.go:213", after := #[{ on := 7, ground := Ground.data }, { on := 5, ground := Ground.guard }], guard := some (5, true) }) (v := ?_) rfl (by kernel_rfl) (by kernel_rfl) (by kernel_rfl) (fun _ _ _ h => h) (Or.inl ⟨by rfl, ?hyr3x8⟩) (by assumption) ?restr3x8
      case hyr3x8 => intro wq hSw; (go_simp); (try with_reducible rfl)
      try simp only [Act.put, List.setIfInBounds_toArray, List.set_cons_zero, List.set_cons_succ]
      refine wpAnyH_take (i := 9) (oi := { dst := some 14, op := Op.slice 23 (Operand.tmp 11) none (some (Operand.tmp 13)) none, type := 23, pos := "law.go:213", after := #[{ on := 6, ground := Ground.data }, { on := 8, ground := Ground.data }, { on := 5, ground := Ground.guard }], guard := some (5, true) }) (v := ?_) rfl (by kernel_rfl) (by kernel_rfl) (by kernel_rfl) (fun _ _ _ h => h) (Or.inl ⟨by rfl, ?hyr3x9⟩) (by assumption) ?restr3x9
      case hyr3x9 => intro wq hSw; (go_simp); (try with_reducible rfl)
      try simp only [Act.put, List.setIfInBounds_toArray, List.set_cons_zero, List.set_cons_succ]
      refine wpAnyH_take (i := 10) (oi := { dst := some 15, op := Op.convert 23 9 (Operand.tmp 14), type := 9, pos := "law.go:213", after := #[{ on := 9, ground := Ground.data }, { on := 5, ground := Ground.guard }], guard := some (5, true) }) (v := ?_) rfl (by kernel_rfl) (by kernel_rfl) (by kernel_rfl) (fun _ _ _ h => h) (Or.inl ⟨by rfl, ?hyr3x10⟩) (by assumption) ?restr3x10
      case hyr3x10 => intro wq hSw; (have rq := R1.out wq hSw; go_simp); (try with_reducible rfl)
      try simp only [Act.put, List.setIfInBounds_toArray, List.set_cons_zero, List.set_cons_succ]
      refine wpAnyH_take (i := 11) (oi := { dst := some 16, op := Op.move (Operand.tmp 1), type := 23, pos := "law.go:213", after := #[{ on := 5, ground := Ground.guard }], guard := some (5, true) }) (v := ?_) rfl (by kernel_rfl) (by kernel_rfl) (by kernel_rfl) (fun _ _ _ h => h) (Or.inl ⟨by rfl, ?hyr3x11⟩) (by assumption) ?restr3x11
      case hyr3x11 => intro wq hSw; (go_simp); (try with_reducible rfl)
      try simp only [Act.put, List.setIfInBounds_toArray, List.set_cons_zero, List.set_cons_succ]
      refine wpAnyH_take (i := 12) (oi := { dst := some 17, op := Op.convert 23 9 (Operand.tmp 16), type := 9, pos := "law.go:213", after := #[{ on := 11, ground := Ground.data }, { on := 5, ground := Ground.guard }], guard := some (5, true) }) (v := ?_) rfl (by kernel_rfl) (by kernel_rfl) (by kernel_rfl) (fun _ _ _ h => h) (Or.inl ⟨by rfl, ?hyr3x12⟩) (by assumption) ?restr3x12
      case hyr3x12 => intro wq hSw; (have rq := R2.out wq hSw; go_simp); (try with_reducible rfl)
      try simp only [Act.put, List.setIfInBounds_toArray, List.set_cons_zero, List.set_cons_succ]
      refine wpAnyH_take (i := 13) (oi := { dst := some 18, op := Op.binOp BinOp.eql 9 (Operand.tmp 15) (Operand.tmp 17) 9, type := 4, pos := "law.go:213", after := #[{ on := 10, ground := Ground.data }, { on := 12, ground := Ground.data }, { on := 5, ground := Ground.guard }], guard := some (5, true) }) (v := ?_) rfl (by kernel_rfl) (by kernel_rfl) (by kernel_rfl) (fun _ _ _ h => h) (Or.inl ⟨by rfl, ?hyr3x13⟩) (by assumption) ?restr3x13
      case hyr3x13 => intro wq hSw; (go_simp); (try with_reducible rfl)
      try simp only [Act.put, List.setIfInBounds_toArray, List.set_cons_zero, List.set_cons_succ]
      refine wpAnyH_take (i := 14) (oi := { dst := some 19, op := Op.pick (Operand.tmp 10) (Operand.tmp 18) (Operand.const (Value.bool false)), type := 4, pos := "law.go:213", after := #[{ on := 5, ground := Ground.data }, { on := 13, ground := Ground.data }], guard := none }) (v := ?_) rfl (by kernel_rfl) (by kernel_rfl) (by kernel_rfl) (fun _ _ _ h => h) (Or.inl ⟨by rfl, ?hyr3x14⟩) (by assumption) ?restr3x14
      case hyr3x14 => intro wq hSw; (go_simp); (try with_reducible rfl)
      try simp only [Act.put, List.setIfInBounds_toArray, List.set_cons_zero, List.set_cons_succ]
      refine wpAnyH_take (i := 15) (oi := { dst := some 4, op := Op.assign (Operand.tmp 19), type := 4, pos := "law.go:213", after := #[{ on := 14, ground := Ground.data }, { on := 5, ground := Ground.chain }, { on := 0, ground := Ground.phase }, { on := 1, ground := Ground.phase }, { on := 2, ground := Ground.phase }, { on := 3, ground := Ground.phase }, { on := 4, ground := Ground.phase }, { on := 5, ground := Ground.phase }, { on := 6, ground := Ground.phase }, { on := 7, ground := Ground.phase }, { on := 8, ground := Ground.phase }, { on := 9, ground := Ground.phase }, { on := 10, ground := Ground.phase }, { on := 11, ground := Ground.phase }, { on := 12, ground := Ground.phase }, { on := 13, ground := Ground.phase }, { on := 14, ground := Ground.phase }], guard := none }) (v := ?_) rfl (by kernel_rfl) (by kernel_rfl) (by kernel_rfl) (fun _ _ _ h => h) (Or.inl ⟨by rfl, ?hyr3x15⟩) (by assumption) ?restr3x15
      case hyr3x15 => intro wq hSw; (go_simp); (try with_reducible rfl)
      try simp only [Act.put, List.setIfInBounds_toArray, List.set_cons_zero, List.set_cons_succ]
      refine wpAnyH_done (by kernel_rfl) ?_ _
      go_wp2
      go_ret
      exact ⟨by rw [HB.out]; rfl, (Ex.refl w).drew⟩
end Go.Proofs.YtjaemckdfoaopaaDoor
