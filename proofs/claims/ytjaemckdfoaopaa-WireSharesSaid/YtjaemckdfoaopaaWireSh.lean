/- The walk over WireShares. -/
import Derived.Test.YtjaemckdfoaopaaWireNum
namespace Go.Proofs.Ytjaemckdfoaopaa
open Go.RowKit

def firstI (l : List Int) : Int := l.headD 0
set_option maxHeartbeats 400000 in
theorem first_x (a : Option Addr) (n cap : Nat) (l : List Int) (w : World) (h : Sl 1 encI w a n l) (hn : n ≤ 9223372036854775807) :
    Calls Try.prog 12 #[.slice a n cap] w fun e w' => e = .returned (.int .i64 (firstI l)) ∧ w = w' := by
  by_cases h0 : n = 0
  · have hl : Hid (firstI l = 0) := by
      have : l = [] := List.eq_nil_of_length_eq_zero (h.len.trans h0)
      subst this; rfl
    subst h0
    clear h
    go_enter Try.func12, Try.ntmps12
    go_wp2
    go_ret
    exact ⟨by rw [hl.out]; rfl, rfl⟩
  · obtain ⟨x, o, y, rfl, hx, hy, hcell⟩ := h.at (j := 0) (by omega)
    have e0 : w.cell? ⟨x, o, none⟩ = some (.int .i64 y) := by simpa using hcell 0 _ rfl
    have hl : Hid (firstI l = y) := by
      cases l with
      | nil => cases hy
      | cons c r => exact Option.some.inj hy
    have hp : 0 < n := by omega
    have d0 : ((n : Int) == 0) = false := by simp; omega
    clear h hcell hy h0
    go_enter Try.func12, Try.ntmps12
    go_wp2
    go_ret
    exact ⟨by rw [hl.out]; rfl, rfl⟩

/-- a new tape, and what lies in it -/
def NewTape2 (a : Option Addr) (m cap : Nat) (w : World) (e : Ending) (w' : World) : Prop :=
  e = .returned (.pointer (some ⟨w.heap.size, 0, none⟩)) ∧ Blk w' w.heap.size [.slice a m cap, .int .i64 0] 50 ∧ Ex w w'
set_option maxHeartbeats 400000 in
theorem new_t2 (a : Option Addr) (n cap : Nat) (w : World) (hn : n ≤ cap) (hcap : cap ≤ maxLen) :
    Calls Try.prog 6 #[.slice a n cap] w (NewTape2 a (min n 600) cap w) := by
  unfold maxLen at hcap
  have hb := fun m => Blk.new w [.slice a m cap, .int .i64 0] 50
  have HB := Lib.hid hb
  clear hb
  by_cases h6 : 600 < n
  · have hm : min n 600 = 600 := by omega
    rw [hm]
    clear hm
    go_enter Try.func6, Try.ntmps6
    go_wp2
    go_ret
    exact ⟨rfl, HB.out 600, Ex.new _ _⟩
  · have hm : min n 600 = n := by omega
    rw [hm]
    clear hm
    go_enter Try.func6, Try.ntmps6
    go_wp2
    go_ret
    exact ⟨rfl, HB.out n, Ex.new _ _⟩

/-- the first number of a tape -/
theorem next_first {b n cap : Nat} {a : Option Addr} {l : List Int} (w : World) (hb : Blk w b [.slice a (min n 600) cap, .int .i64 0] 50) (h : Slb 1 encI b w a n l) :
    Calls Try.prog 7 #[.pointer (some ⟨b, 0, none⟩), .int .i64 256] w fun e w' => e = .returned (.int .i64 (firstI l % 256)) ∧ Exb b w w' := by
  by_cases h0 : n = 0
  · subst h0
    have : l = [] := List.eq_nil_of_length_eq_zero h.len
    subst this
    refine (next_end b (min 0 600) cap 0 256 a w hb (by omega) (by omega)).mono ?_
    rintro e w' ⟨rfl, m, rfl⟩
    exact ⟨rfl, Chg.drewN (Exb.refl b w) m⟩
  · obtain ⟨x, o, y, rfl, hx, hy, hcell⟩ := Rd.at h (j := 0) (by omega)
    have e0 : w.cell? ⟨x, o + 0, none⟩ = some (.int .i64 y) := by simpa using hcell 0 _ rfl
    refine (next_go b (min n 600) cap 0 x o 256 y w hb (by omega) (by omega) (by omega) (by omega) hx.2 e0).mono ?_
    rintro e w' ⟨rfl, m, k, rfl⟩
    have hl : firstI l = y := by
      cases l with
      | nil => cases hy
      | cons c r => exact Option.some.inj hy
    refine ⟨by rw [hl], Chg.drewN (Exb.setB (Chg.drewN (Exb.refl b w) k) _ rfl) m⟩

theorem pos2 (y : UInt8) (N : Nat) : 0 < ([y, 7] ++ encU N).length := by rw [List.length_append]; exact Nat.lt_of_lt_of_le (show 0 < 2 by omega) (Nat.le_add_right 2 _)
theorem len2 (y : UInt8) (N : Nat) : 3 ≤ ([y, 7] ++ encU N).length ∧ ([y, 7] ++ encU N).length ≤ 12 := by
  have h1 := encU_pos N
  have h2 := encU_length N
  rw [List.length_append, List.length_cons, List.length_cons, List.length_nil]
  omega
theorem len4 (y : UInt8) : ([y, 7] ++ encStr ⟨#[115]⟩).length = 4 := by
  rw [List.length_append, encStr_length]
  have : (encU (ByteArray.size ⟨#[115]⟩)).length = 1 := by decide +kernel
  rw [this]; rfl
def Z40 : List Value := List.replicate 40 (.int .u8 0)
theorem mk40 (w : World) : (Instr.makeSlice 26 (.int .i64 2) (.int .i64 40)).run Try.prog w = .ok (.slice (some ⟨w.heap.size, 0, none⟩) 2 40) (w.alloc (.cells Z40.toArray 5)) := by kernel_rfl
theorem slb_of {w w1 : World} {b n : Nat} {a : Option Addr} {l : List Int} (h : Sl 1 encI w a n l) (k : Ex w w1) (hb : w.heap.size ≤ b) : Slb 1 encI b w1 a n l :=
  (Rd.chg h k (fun _ hk => hk)).mono (fun x (hx : x < w.heap.size) => ⟨Nat.lt_of_lt_of_le hx k.size, by omega⟩)

set_option maxRecDepth 100000 in
set_option maxHeartbeats 4000000 in
theorem wireshares_walk (a1 : Option Addr) (n1 c1 : Nat) (l1 : List Int) (N : Nat) (w : World)
    (h1 : Sl 1 encI w a1 n1 l1) (hc1 : n1 ≤ c1) (hm1 : c1 ≤ maxLen) (hN : N < 18446744073709551616) :
    Calls Try.prog 3 #[.slice a1 n1 c1, .int .u64 N] w fun e w' => e = .returned (.bool true) ∧ Ex w w' := by
  have HN := Lib.hid hN
  clear hN
  obtain ⟨b, hb⟩ : ∃ b, b = w.heap.size := ⟨_, rfl⟩
  go_enter Try.func3, Try.ntmps3
  go_wp2_with fail
  refine (new_t2 _ _ _ _ hc1 hm1).mono ?_
  rintro e w1 ⟨rfl, B1, k1⟩
  rw [← hb] at B1 ⊢
  have q : Exl b w w1 := ⟨k1, by omega⟩
  have s1 : Slb 1 encI b w1 a1 n1 l1 := slb_of h1 k1 (by omega)
  have hbb : b < w1.heap.size := B1.lt
  have S0 := Lib.hid h1
  clear h1 hb k1
  have hmk := mk40 w1
  have BG := Blk.new w1 Z40 5
  have kk := Ex.new w1 (.cells Z40.toArray 5)
  obtain ⟨g, hg⟩ : ∃ g, g = w1.heap.size := ⟨_, rfl⟩
  have zz : (w1.alloc (.cells Z40.toArray 5)).heap.size = g + 1 := by rw [hg]; simp
  obtain ⟨w2, hw2⟩ : ∃ w2, w2 = w1.alloc (.cells Z40.toArray 5) := ⟨_, rfl⟩
  rw [← hw2] at hmk BG kk zz
  rw [← hg] at hmk BG
  have hbg : b < g := by omega
  replace q := q.nx kk
  have B2 := B1.nx kk
  have s2 := s1.nxb (kk.b b)
  have z2 : g < w2.heap.size := by omega
  clear kk B1 s1 hg hw2 zz
  go_wp2_with fail
  clear hmk
  refine (next_first _ B2 s2).mono ?_
  rintro e w3 ⟨rfl, kk⟩
  replace q := q.nxb kk
  replace BG := BG.nxb (by omega) kk
  have zz := kk.size
  have z3 : g < w3.heap.size := by omega
  have m0 := Int.emod_nonneg (firstI l1) (show (256 : Int) ≠ 0 by omega)
  have m1 := Int.emod_lt_of_pos (firstI l1) (show (0 : Int) < 256 by omega)
  obtain ⟨y, hy⟩ := byte_nat m0 (by omega)
  have HY := Lib.hid hy
  rw [hy]
  have hyl := y.toNat_lt
  have c0 := BG.cell 0 _ rfl
  have c1 := BG.cell 1 _ rfl
  have f0 := BG.free 0
  have f1 := BG.free 1
  have B4 := (BG.set 0 (.int .u8 y.toNat)).set 1 (.int .u8 7)
  have q4 : Exl b w ((w3.setCell ⟨g, 0, none⟩ (.int .u8 y.toNat)).setCell ⟨g, 1, none⟩ (.int .u8 7)) :=
    ⟨Chg.setCell (Chg.setCell q.1 _ (fun x (hx : x < w.heap.size) => by have := q.2; simp only []; omega)) _ (fun x (hx : x < w.heap.size) => by have := q.2; simp only []; omega), q.2⟩
  obtain ⟨w4, hw4⟩ : ∃ w4, w4 = (w3.setCell ⟨g, 0, none⟩ (.int .u8 y.toNat)).setCell ⟨g, 1, none⟩ (.int .u8 7) := ⟨_, rfl⟩
  rw [← hw4] at B4 q4
  have H4 := Lib.hid hw4
  clear kk zz B2 s2 BG q hy m0 m1 hw4
  have sb4 : Sl 1 encB w4 (some ⟨g, 0, none⟩) 2 [y, 7] := (Rd.block (sz := 1) (enc := encB) [y, 7] B4 rfl (fun _ => rfl) (fun i u h => by
    rcases i with _ | _ | i
    · simp [encB] at h; subst h; rfl
    · simp [encB] at h; subst h; rfl
    · simp [encB] at h)).mono (fun k hk => by subst hk; exact B4.lt)
  have l4 : g < w4.heap.size := B4.lt
  have HB4 := Lib.hid B4
  clear B4
  go_wp2_with fail
  rw [← H4.out]
  clear c0 c1 f0 f1 H4
  (with_reducible refine (appuint_p _ _ _ _ _ _ sb4 (by omega) (fun h => by cases h) HN.out).mono ?_)
  rintro e w5 ⟨v5, rfl, own5, kk⟩
  replace q4 := q4.nx kk
  replace sb4 := sb4.nx kk
  replace HB4 := Lib.hid (HB4.out.nx kk)
  have z5 := kk.size
  have hpos := pos2 y N
  have hlen := len2 y N
  generalize [y, 7] ++ encU N = L5 at own5 hpos hlen ⊢
  have OS := own_some own5 hpos
  clear hpos
  obtain ⟨gx, cx, he, x1, x2, x3, x4⟩ := OS
  subst he
  obtain ⟨mx, hmx⟩ : ∃ m, m = L5.length := ⟨_, rfl⟩
  rw [← hmx] at own5 hlen x3 ⊢
  obtain ⟨zx, zx2⟩ := hlen
  unfold maxLen at x4
  have X4 := Lib.hid x4
  clear x4
  clear kk hmx
  go_wp2_with fail
  (with_reducible refine (appint_p _ _ _ _ _ _ sb4 (by omega) (fun h => by cases h) (wrap64_bd N).1 (wrap64_bd N).2).mono ?_)
  rintro e w6 ⟨v6, rfl, own6, kk⟩
  generalize zig (wrap64 (N : Int)) = Z at own6
  replace q4 := q4.nx kk
  replace sb4 := sb4.nx kk
  replace HB4 := Lib.hid (HB4.out.nx kk)
  replace own5 := own5.nx kk
  have z6 := kk.size
  have hpos := pos2 y Z
  have hlen := len2 y Z
  generalize [y, 7] ++ encU Z = L6 at own6 hpos hlen ⊢
  have OS := own_some own6 hpos
  clear hpos
  obtain ⟨gy, cy, he, y1, y2, y3, y4⟩ := OS
  subst he
  obtain ⟨my, hmy⟩ : ∃ m, m = L6.length := ⟨_, rfl⟩
  rw [← hmy] at own6 hlen y3 ⊢
  obtain ⟨zy, zy2⟩ := hlen
  unfold maxLen at y4
  have Y4 := Lib.hid y4
  clear y4
  clear kk hmy
  go_wp2_with fail
  (with_reducible refine (appstr_p _ _ _ _ _ _ sb4 (by omega) (fun h => by cases h) (by decide)).mono ?_)
  rintro e w7 ⟨v7, rfl, own7, kk⟩
  replace q4 := q4.nx kk
  replace HB4 := Lib.hid (HB4.out.nx kk)
  replace own5 := own5.nx kk
  replace own6 := own6.nx kk
  have z7 := kk.size
  have n7 := len4 y
  generalize [y, 7] ++ encStr ⟨#[115]⟩ = L7 at own7 n7 ⊢
  obtain ⟨gz, cz, rfl, a1', a2', a3', a4'⟩ := own_some own7 (by rw [n7]; omega)
  rw [n7] at own7 a3' ⊢
  unfold maxLen at a4'
  obtain ⟨cx0, fx0, _⟩ := own_cell own5 (j := 0) (by omega)
  obtain ⟨cy0, fy0, _⟩ := own_cell own6 (j := 0) (by omega)
  obtain ⟨cz0, fz0, _⟩ := own_cell own7 (j := 0) (by omega)
  have x4 := X4.out
  have y4 := Y4.out
  have ne1 : ¬ gx = gy := by omega
  have ne2 : ¬ gx = gz := by omega
  have ne3 : ¬ gy = gz := by omega
  have ne4 : ¬ g = gx := by omega
  have ne5 : ¬ g = gy := by omega
  have ne6 : ¬ g = gz := by omega
  have B8 := Lib.hid (((HB4.out.set_ne (g' := gx) (j := 0) (.int .u8 1) ne4).set_ne (g' := gy) (j := 0) (.int .u8 2) ne5).set_ne (g' := gz) (j := 0) (.int .u8 3) ne6)
  have q8 : Exl b w (((w7.setCell ⟨gx, 0, none⟩ (.int .u8 1)).setCell ⟨gy, 0, none⟩ (.int .u8 2)).setCell ⟨gz, 0, none⟩ (.int .u8 3)) :=
    ⟨Chg.setCell (Chg.setCell (Chg.setCell q4.1 _ (fun x (hx : x < w.heap.size) => by have := q4.2; simp only []; omega)) _ (fun x (hx : x < w.heap.size) => by have := q4.2; simp only []; omega)) _ (fun x (hx : x < w.heap.size) => by have := q4.2; simp only []; omega), q4.2⟩
  have Q8 := Lib.hid q8
  clear kk own5 own6 own7 q4 HB4 sb4 n7 q8
  go_wp2_with fail
  obtain ⟨w8, hw8⟩ : ∃ w8, w8 = ((w7.setCell ⟨gx, 0, none⟩ (.int .u8 1)).setCell ⟨gy, 0, none⟩ (.int .u8 2)).setCell ⟨gz, 0, none⟩ (.int .u8 3) := ⟨_, rfl⟩
  rw [← hw8] at B8 Q8 ⊢
  clear hw8 cx0 fx0 cy0 fy0 cz0 fz0
  have C0 := B8.out.cell 0 (.int .u8 y.toNat) rfl
  have C2 := B8.out.cell 2 (.int .u8 0) rfl
  have S8 := S0.out.nx (Q8.out.1)
  have L8 := B8.out.lt
  have K0 : Ex w8 w8.drew := (Ex.refl w8).drew
  have D0 : w8.drew.cell? ⟨g, 0, none⟩ = some (.int .u8 y.toNat) := C0
  have D2 : w8.drew.cell? ⟨g, 2, none⟩ = some (.int .u8 0) := C2
  have SD : Sl 1 encI w8.drew a1 n1 l1 := S8.nx K0
  have LD : g < w8.drew.heap.size := L8
  have hy1 : IntKind.u8.wrap (y.toNat : Int) = (y.toNat : Int) := by rw [wrap_u8n]; omega
  unfold maxLen at hm1
  clear C0 C2 S8 L8 K0 B8
  refine wp_region_held_drew (S := Ex w8.drew) (by kernel_rfl) (Ex.refl _) (fun hHeld => ?_)
  refine wpAnyH_take (i := 0) (oi := { dst := some 51, op := Op.move (Operand.tmp 6), type := 26, pos := "law.go:201", after := #[], guard := none }) (v := ?_) rfl (by kernel_rfl) (by kernel_rfl) (by kernel_rfl) (fun _ _ _ h => h) (Or.inl ⟨by rfl, ?hy0⟩) (by assumption) ?rest0
  case hy0 => intro wq hSw; (go_simp); (try with_reducible rfl)
  try simp only [Act.put, List.setIfInBounds_toArray, List.set_cons_zero, List.set_cons_succ]
  refine wpAnyH_take (i := 1) (oi := { dst := some 52, op := Op.indexAddr 26 (Operand.tmp 51) (Operand.const (Value.int IntKind.i64 0)), type := 0, pos := "law.go:201", after := #[{ on := 0, ground := Ground.data }], guard := none }) (v := ?_) rfl (by kernel_rfl) (by kernel_rfl) (by kernel_rfl) (fun _ _ _ h => h) (Or.inl ⟨by rfl, ?hy1⟩) (by assumption) ?rest1
  case hy1 => intro wq hSw; (go_simp); (try with_reducible rfl)
  try simp only [Act.put, List.setIfInBounds_toArray, List.set_cons_zero, List.set_cons_succ]
  refine wpAnyH_take (i := 2) (oi := { dst := some 53, op := Op.load 5 (Operand.tmp 52), type := 5, pos := "law.go:201", after := #[{ on := 1, ground := Ground.data }], guard := none }) (v := ?_) rfl (by kernel_rfl) (by kernel_rfl) (by kernel_rfl) (fun _ _ _ h => h) (Or.inl ⟨by rfl, ?hy2⟩) (by assumption) ?rest2
  case hy2 => intro wq hSw; (have cq := Chg.cellv hSw D0 LD; go_simp); (try with_reducible rfl)
  try simp only [Act.put, List.setIfInBounds_toArray, List.set_cons_zero, List.set_cons_succ]
  refine wpAnyH_take (i := 3) (oi := { dst := some 54, op := Op.move (Operand.tmp 0), type := 22, pos := "law.go:201", after := #[], guard := none }) (v := ?_) rfl (by kernel_rfl) (by kernel_rfl) (by kernel_rfl) (fun _ _ _ h => h) (Or.inl ⟨by rfl, ?hy3⟩) (by assumption) ?rest3
  case hy3 => intro wq hSw; (go_simp); (try with_reducible rfl)
  try simp only [Act.put, List.setIfInBounds_toArray, List.set_cons_zero, List.set_cons_succ]
  refine wpAnyH_ready (rs := [4]) (by kernel_rfl) (by simp) ?_
  refine AllReadyH.cons (o := { dst := some 55, op := Op.call { callee := Callee.value (Operand.func 12), args := #[Operand.tmp 54], argTypes := #[22] }, type := 3, pos := "law.go:201", after := #[{ on := 3, ground := Ground.data }], guard := none }) rfl (fun K hK => ?_) AllReadyH.nil
  go_simp
  refine (first_x _ _ _ _ _ SD (by omega)).mono ?_
  rintro e v1 ⟨rfl, rfl⟩
  refine hK.out _ _ (Ex.refl _) (fun _ => ?_)
  clear hK K
  try simp only [Act.put, List.setIfInBounds_toArray, List.set_cons_zero, List.set_cons_succ]
  refine wpAnyH_switch (S' := Ex w8.drew) (fun _ hSw => Ex.nx (Ex.refl _) hSw) ?_
  clear hHeld
  have hHeld := Ex.refl w8.drew
  refine wpAnyH_ready (rs := [5]) (by kernel_rfl) (by simp) ?_
  refine AllReadyH.cons (o := { dst := some 56, op := Op.call { callee := Callee.value (Operand.func 11), args := #[Operand.tmp 55, Operand.const (Value.int IntKind.i64 256)], argTypes := #[3, 3] }, type := 3, pos := "law.go:201", after := #[{ on := 4, ground := Ground.data }, { on := 4, ground := Ground.chain }], guard := none }) rfl (fun K hK => ?_) AllReadyH.nil
  go_simp
  refine (mod_any _ 256 _ (by omega) (by omega)).mono ?_
  rintro e v1 ⟨rfl, rfl⟩
  rw [HY.out]
  refine hK.out _ _ (Ex.refl _) (fun _ => ?_)
  clear hK K
  try simp only [Act.put, List.setIfInBounds_toArray, List.set_cons_zero, List.set_cons_succ]
  refine wpAnyH_switch (S' := Ex w8.drew) (fun _ hSw => Ex.nx (Ex.refl _) hSw) ?_
  clear hHeld
  have hHeld := Ex.refl w8.drew
  refine wpAnyH_take (i := 6) (oi := { dst := some 57, op := Op.convert 3 5 (Operand.tmp 56), type := 5, pos := "law.go:201", after := #[{ on := 5, ground := Ground.data }], guard := none }) (v := ?_) rfl (by kernel_rfl) (by kernel_rfl) (by kernel_rfl) (fun _ _ _ h => h) (Or.inl ⟨by rfl, ?hy6⟩) (by assumption) ?rest6
  case hy6 => intro wq hSw; (go_simp); (try with_reducible rfl)
  try simp only [Act.put, List.setIfInBounds_toArray, List.set_cons_zero, List.set_cons_succ]
  refine wpAnyH_take (i := 7) (oi := { dst := some 58, op := Op.binOp BinOp.eql 5 (Operand.tmp 53) (Operand.tmp 57) 5, type := 4, pos := "law.go:201", after := #[{ on := 2, ground := Ground.data }, { on := 6, ground := Ground.data }], guard := none }) (v := ?_) rfl (by kernel_rfl) (by kernel_rfl) (by kernel_rfl) (fun _ _ _ h => h) (Or.inl ⟨by rfl, ?hy7⟩) (by assumption) ?rest7
  case hy7 => intro wq hSw; (go_simp); (try with_reducible rfl)
  try simp only [Act.put, List.setIfInBounds_toArray, List.set_cons_zero, List.set_cons_succ]
  refine wpAnyH_take (i := 8) (oi := { dst := some 59, op := Op.move (Operand.tmp 58), type := 4, pos := "law.go:201", after := #[{ on := 7, ground := Ground.data }, { on := 5, ground := Ground.chain }], guard := none }) (v := ?_) rfl (by kernel_rfl) (by kernel_rfl) (by kernel_rfl) (fun _ _ _ h => h) (Or.inl ⟨by rfl, ?hy8⟩) (by assumption) ?rest8
  case hy8 => intro wq hSw; (go_simp); (try with_reducible rfl)
  try simp only [Act.put, List.setIfInBounds_toArray, List.set_cons_zero, List.set_cons_succ]
  refine wpAnyH_take (i := 9) (oi := { dst := some 60, op := Op.move (Operand.tmp 10), type := 26, pos := "law.go:201", after := #[{ on := 8, ground := Ground.guard }], guard := some (8, true) }) (v := ?_) rfl (by kernel_rfl) (by kernel_rfl) (by kernel_rfl) (fun _ _ _ h => h) (Or.inl ⟨by rfl, ?hy9⟩) (by assumption) ?rest9
  case hy9 => intro wq hSw; (go_simp); (try with_reducible rfl)
  try simp only [Act.put, List.setIfInBounds_toArray, List.set_cons_zero, List.set_cons_succ]
  refine wpAnyH_take (i := 10) (oi := { dst := some 61, op := Op.indexAddr 26 (Operand.tmp 60) (Operand.const (Value.int IntKind.i64 2)), type := 0, pos := "law.go:201", after := #[{ on := 9, ground := Ground.data }, { on := 8, ground := Ground.guard }], guard := some (8, true) }) (v := ?_) rfl (by kernel_rfl) (by kernel_rfl) (by kernel_rfl) (fun _ _ _ h => h) (Or.inl ⟨by rfl, ?hy10⟩) (by assumption) ?rest10
  case hy10 => intro wq hSw; (go_simp); (try with_reducible rfl)
  try simp only [Act.put, List.setIfInBounds_toArray, List.set_cons_zero, List.set_cons_succ]
  refine wpAnyH_take (i := 11) (oi := { dst := some 62, op := Op.load 5 (Operand.tmp 61), type := 5, pos := "law.go:201", after := #[{ on := 10, ground := Ground.data }, { on := 8, ground := Ground.guard }], guard := some (8, true) }) (v := ?_) rfl (by kernel_rfl) (by kernel_rfl) (by kernel_rfl) (fun _ _ _ h => h) (Or.inl ⟨by rfl, ?hy11⟩) (by assumption) ?rest11
  case hy11 => intro wq hSw; (have cq := Chg.cellv hSw D2 LD; go_simp); (try with_reducible rfl)
  try simp only [Act.put, List.setIfInBounds_toArray, List.set_cons_zero, List.set_cons_succ]
  refine wpAnyH_take (i := 12) (oi := { dst := some 63, op := Op.binOp BinOp.eql 5 (Operand.tmp 62) (Operand.const (Value.int IntKind.u8 0)) 5, type := 4, pos := "law.go:201", after := #[{ on := 11, ground := Ground.data }, { on := 8, ground := Ground.guard }], guard := some (8, true) }) (v := ?_) rfl (by kernel_rfl) (by kernel_rfl) (by kernel_rfl) (fun _ _ _ h => h) (Or.inl ⟨by rfl, ?hy12⟩) (by assumption) ?rest12
  case hy12 => intro wq hSw; (go_simp); (try with_reducible rfl)
  try simp only [Act.put, List.setIfInBounds_toArray, List.set_cons_zero, List.set_cons_succ]
  refine wpAnyH_take (i := 13) (oi := { dst := some 64, op := Op.pick (Operand.tmp 59) (Operand.tmp 63) (Operand.const (Value.bool false)), type := 4, pos := "law.go:201", after := #[{ on := 8, ground := Ground.data }, { on := 12, ground := Ground.data }], guard := none }) (v := ?_) rfl (by kernel_rfl) (by kernel_rfl) (by kernel_rfl) (fun _ _ _ h => h) (Or.inl ⟨by rfl, ?hy13⟩) (by assumption) ?rest13
  case hy13 => intro wq hSw; (go_simp); (try with_reducible rfl)
  try simp only [Act.put, List.setIfInBounds_toArray, List.set_cons_zero, List.set_cons_succ]
  refine wpAnyH_take (i := 14) (oi := { dst := some 65, op := Op.move (Operand.tmp 64), type := 4, pos := "law.go:201", after := #[{ on := 13, ground := Ground.data }, { on := 8, ground := Ground.chain }], guard := none }) (v := ?_) rfl (by kernel_rfl) (by kernel_rfl) (by kernel_rfl) (fun _ _ _ h => h) (Or.inl ⟨by rfl, ?hy14⟩) (by assumption) ?rest14
  case hy14 => intro wq hSw; (go_simp); (try with_reducible rfl)
  try simp only [Act.put, List.setIfInBounds_toArray, List.set_cons_zero, List.set_cons_succ]
  refine wpAnyH_ready (rs := [15]) (by kernel_rfl) (by simp) ?_
  refine AllReadyH.cons (o := { dst := some 66, op := Op.call { callee := Callee.value (Operand.func 13), args := #[], argTypes := #[] }, type := 4, pos := "law.go:201", after := #[{ on := 14, ground := Ground.chain }, { on := 14, ground := Ground.guard }], guard := some (14, true) }) rfl (fun K hK => ?_) AllReadyH.nil
  go_simp
  refine (sane3_x _).mono ?_
  rintro e v2 ⟨rfl, kk⟩
  refine hK.out _ _ kk (fun _ => ?_)
  clear hK K
  try simp only [Act.put, List.setIfInBounds_toArray, List.set_cons_zero, List.set_cons_succ]
  refine wpAnyH_switch (S' := Ex v2) (fun _ hSw => Ex.nx kk hSw) ?_
  clear hHeld
  have hHeld := Ex.refl v2
  refine wpAnyH_take (i := 16) (oi := { dst := some 67, op := Op.pick (Operand.tmp 65) (Operand.tmp 66) (Operand.const (Value.bool false)), type := 4, pos := "law.go:201", after := #[{ on := 14, ground := Ground.data }, { on := 15, ground := Ground.data }], guard := none }) (v := ?_) rfl (by kernel_rfl) (by kernel_rfl) (by kernel_rfl) (fun _ _ _ h => h) (Or.inl ⟨by rfl, ?hy16⟩) (by assumption) ?rest16
  case hy16 => intro wq hSw; (go_simp); (try with_reducible rfl)
  try simp only [Act.put, List.setIfInBounds_toArray, List.set_cons_zero, List.set_cons_succ]
  refine wpAnyH_take (i := 17) (oi := { dst := some 4, op := Op.assign (Operand.tmp 67), type := 4, pos := "law.go:201", after := #[{ on := 16, ground := Ground.data }, { on := 15, ground := Ground.chain }, { on := 0, ground := Ground.phase }, { on := 1, ground := Ground.phase }, { on := 2, ground := Ground.phase }, { on := 3, ground := Ground.phase }, { on := 4, ground := Ground.phase }, { on := 5, ground := Ground.phase }, { on := 6, ground := Ground.phase }, { on := 7, ground := Ground.phase }, { on := 8, ground := Ground.phase }, { on := 9, ground := Ground.phase }, { on := 10, ground := Ground.phase }, { on := 11, ground := Ground.phase }, { on := 12, ground := Ground.phase }, { on := 13, ground := Ground.phase }, { on := 14, ground := Ground.phase }, { on := 15, ground := Ground.phase }, { on := 16, ground := Ground.phase }], guard := none }) (v := ?_) rfl (by kernel_rfl) (by kernel_rfl) (by kernel_rfl) (fun _ _ _ h => h) (Or.inl ⟨by rfl, ?hy17⟩) (by assumption) ?rest17
  case hy17 => intro wq hSw; (go_simp); (try with_reducible rfl)
  try simp only [Act.put, List.setIfInBounds_toArray, List.set_cons_zero, List.set_cons_succ]
  refine wpAnyH_done (by kernel_rfl) ?_ _
  go_wp2
  go_ret
  exact ⟨rfl, (Q8.out.1.drew).nx kk⟩
end Go.Proofs.Ytjaemckdfoaopaa
