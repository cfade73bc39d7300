/- The walk over WirePrefixes. -/
import Derived.Test.YtjaemckdfoaopaaDoorBeg
import Derived.Test.YtjaemckdfoaopaaDoorWireSane
import Derived.Test.YtjaemckdfoaopaaDoorKey
namespace Go.Proofs.YtjaemckdfoaopaaDoor
open Go.RowKit

def encP (p : Nat × Nat) : List Value := [.int .u64 p.1, .int .u64 p.2]
def encT (s : ByteArray) : List Value := [.string s]
def PreRel (m : Nat) (w : World) (i : Value) (wr : World) : Prop := ∃ k : Nat, k ≤ m ∧ i = .int .i64 k ∧ Ex w wr

theorem own_sl {w0 w : World} {v : Value} {l : List UInt8} (h : OwnL 1 encB 5 w0.heap.size w v l) (hl : l.length ≤ 300000) :
    ∃ a n cap, v = .slice a n cap ∧ Slf 1 encB w0 w a n l ∧ n ≤ cap ∧ cap ≤ maxLen ∧ n ≤ 300000 := by
  obtain ⟨a, cap, rfl, h1, h2, h3, _⟩ := h.slf (fun _ => rfl)
  exact ⟨a, _, cap, rfl, h1, h2, h3, hl⟩
theorem encU_bd2 (n : Nat) : ([] ++ encU n).length ≤ 300000 := by
  rw [List.nil_append]; exact Nat.le_trans (encU_length n) (by decide)
theorem encStr_bd2 (s : ByteArray) (h : s.size ≤ 6000) : ([] ++ encStr s).length ≤ 300000 := by
  rw [List.nil_append, encStr_length]
  exact Nat.le_trans (Nat.add_le_add (encU_length s.size) h) (by decide)
theorem beg_encI' {p q : Nat} (hp : p < 18446744073709551616) (hq : q < 18446744073709551616) : begB ([] ++ encU (zig (IntKind.i64.wrap (p : Int)))) ([] ++ encU (zig (IntKind.i64.wrap (q : Int)))) = decide (p = q) := by
  rw [List.nil_append, List.nil_append, wrap_i64n, wrap_i64n]; exact beg_encI hp hq
theorem beg_encU' {p q : Nat} (hp : p < 18446744073709551616) (hq : q < 18446744073709551616) : begB ([] ++ encU p) ([] ++ encU q) = decide (p = q) := by
  rw [List.nil_append, List.nil_append]; exact beg_encU hp hq
theorem beg_encS' {s x : ByteArray} (hs : s.size ≤ 200000) (hx : x.size ≤ 200000) : begB ([] ++ encStr s) ([] ++ encStr x) = decide (s = x) := by
  rw [List.nil_append, List.nil_append]; exact beg_encS hs hx
theorem i64_bd (X : Int) : -9223372036854775808 ≤ IntKind.i64.wrap X ∧ IntKind.i64.wrap X ≤ 9223372036854775807 := by rw [wrap_i64n]; unfold wrap64; omega

set_option maxRecDepth 100000 in
set_option maxHeartbeats 8000000 in
theorem wirepre_walk (a1 : Option Addr) (n1 c1 : Nat) (l1 : List Int) (A B : Nat) (s : ByteArray) (w : World)
    (h1 : Sl 1 encI w a1 n1 l1) (hc1 : n1 ≤ c1) (hm1 : c1 ≤ maxLen) (hA : A < 18446744073709551616) (hB : B < 18446744073709551616) (hL : LetG w) :
    Calls Tryd.prog 4 #[.slice a1 n1 c1, .int .u64 A, .int .u64 B, .string s] w fun e w' => e = .returned (.bool true) ∧ Ex w w' := by
  have HA := Lib.hid hA
  have HB := Lib.hid hB
  clear hA hB
  have hgl := hL.lt
  obtain ⟨b, hb⟩ : ∃ b, b = w.heap.size := ⟨_, rfl⟩
  have hgb : ¬ 0 = b := by omega
  go_enter Tryd.func4, Tryd.ntmps4
  go_wp2_with fail
  refine (new_t _ _ _ l1 _ h1 hc1 hm1).mono ?_
  rintro e w1 ⟨rfl, T, k1, z1⟩
  rw [← hb] at T ⊢
  have q : Exl b w w1 := ⟨k1, by omega⟩
  clear h1 hb k1
  by_cases hbig : 5000 < s.size
  · go_wp2_with fail
    refine (sane3_x _).mono ?_
    rintro e w2 ⟨rfl, kk⟩
    replace q := q.nx kk
    go_wp2_with fail
    go_ret
    exact ⟨rfl, q.1⟩
  have hs5 : s.size ≤ 5000 := by omega
  clear hbig
  go_wp2_with fail
  refine (edges_t _ T).mono ?_
  clear T
  rintro e w2 ⟨N1, rfl, hN1, T, kk⟩
  replace q := q.nxb kk
  have HN1 := Lib.hid hN1
  clear hN1 kk
  go_wp2_with fail
  refine (edges_t _ T).mono ?_
  clear T
  rintro e w3 ⟨N2, rfl, hN2, T, kk⟩
  replace q := q.nxb kk
  have HN2 := Lib.hid hN2
  have hbb := T.lt
  clear hN2 kk
  have kk := Ex.new w3 (.cells #[.int .u64 A, .int .u64 B, .int .u64 N1, .int .u64 N2, .int .u64 A, .int .u64 A] 37)
  have S : Sl 2 encP (w3.alloc (.cells #[.int .u64 A, .int .u64 B, .int .u64 N1, .int .u64 N2, .int .u64 A, .int .u64 A] 37)) (some ⟨w3.heap.size, 0, none⟩) 3 [(A, B), (N1, N2), (A, A)] := Sl.lit _ rfl rfl (fun _ => rfl) rfl
  have hall : ∀ p ∈ [(A, B), (N1, N2), (A, A)], p.1 < 18446744073709551616 ∧ p.2 < 18446744073709551616 := by
    intro p hp
    simp only [List.mem_cons, List.not_mem_nil, or_false] at hp
    rcases hp with rfl | rfl | rfl
    · exact ⟨HA.out, HB.out⟩
    · exact ⟨HN1.out, HN2.out⟩
    · exact ⟨HA.out, HA.out⟩
  obtain ⟨L, hLL⟩ : ∃ L, L = [(A, B), (N1, N2), (A, A)] := ⟨_, rfl⟩
  rw [← hLL] at S hall
  have HALL := Lib.hid hall
  replace q := q.nx kk
  replace T := T.nx kk
  obtain ⟨w4, hw4⟩ : ∃ w4, w4 = w3.alloc (.cells #[.int .u64 A, .int .u64 B, .int .u64 N1, .int .u64 N2, .int .u64 A, .int .u64 A] 37) := ⟨_, rfl⟩
  rw [← hw4] at S q T
  have HW4 := Lib.hid hw4
  obtain ⟨g, hg⟩ : ∃ g, g = w3.heap.size := ⟨_, rfl⟩
  rw [← hg] at S
  have HG := Lib.hid hg
  clear kk hall hLL hw4 hg
  go_wp2_with fail
  rw [← HG.out, ← HW4.out]
  go_loopw [33] (fun i wr => PreRel 3 w4 i wr) (fun i _ => 3 - (intOf i).toNat)
  case atStart => exact ⟨0, by omega, rfl, Ex.refl _⟩
  case round =>
    obtain ⟨k, hk, rfl, kw⟩ := hrel
    obtain ⟨wo, rfl⟩ : ∃ wo : World, wo = wr := ⟨_, rfl⟩
    by_cases hlt : k < 3
    · obtain ⟨x, o, ⟨P, Q⟩, hxo, hx, hy, hcell⟩ := (S.nx kw).at hlt
      cases hxo
      have c0 : wo.cell? ⟨g, k * 2, none⟩ = some (.int .u64 P) := by simpa using hcell 0 _ rfl
      have c1 : wo.cell? ⟨g, k * 2 + 1, none⟩ = some (.int .u64 Q) := by simpa using hcell 1 _ rfl
      have hPQ := HALL.out (P, Q) (List.mem_of_getElem? hy)
      have HP := Lib.hid hPQ.1
      have HQ := Lib.hid hPQ.2
      obtain ⟨v, hv⟩ : ∃ v, v = decide (P = Q) := ⟨_, rfl⟩
      have HB1 : Hid (begB ([] ++ encU P) ([] ++ encU Q) = v) := Lib.hid ((beg_encU' hPQ.1 hPQ.2).trans hv.symm)
      have HB2 := Lib.hid ((beg_encI' hPQ.1 hPQ.2).trans hv.symm)
      have dv : ((P : Int) == (Q : Int)) = v := by rw [hv]; simp [Bool.beq_eq_decide_eq]; omega
      have BP := Blk.new wo [.int .u64 P, .int .u64 Q] 37
      have kn := kw.alloc (.cells #[.int .u64 P, .int .u64 Q] 37)
      obtain ⟨gp, hgp⟩ : ∃ gp, gp = wo.heap.size := ⟨_, rfl⟩
      obtain ⟨w5, hw5⟩ : ∃ w5, w5 = wo.alloc (.cells #[.int .u64 P, .int .u64 Q] 37) := ⟨_, rfl⟩
      have BP : Blk w5 gp [.int .u64 P, .int .u64 Q] 37 := by rw [hw5, hgp]; exact BP
      rw [← hw5] at kn
      have HW5 := Lib.hid hw5
      have HGP := Lib.hid hgp
      clear hcell hy hPQ hv hw5 hgp S kw
      go_wp2_with fail
      rw [← HGP.out, ← HW5.out]
      clear c0 c1
      have BD : Blk w5.drew gp [.int .u64 P, .int .u64 Q] 37 := BP
      clear BP
      refine wp_region_held_drew (S := Ex w5.drew) (by kernel_rfl) (Ex.refl _) (fun hHeld => ?_)
      refine wpAnyH_take (i := 0) (oi := { dst := some 37, op := Op.indexAddr 37 (Operand.tmp 11) (Operand.const (Value.int IntKind.i64 0)), type := 0, pos := "law.go:222", after := #[], guard := none }) (v := ?_) rfl (by kernel_rfl) (by kernel_rfl) (by kernel_rfl) (fun _ _ _ h => h) (Or.inl ⟨by rfl, ?hyr1x0⟩) (by assumption) ?restr1x0
      case hyr1x0 => intro wq hSw; (go_simp); (try with_reducible rfl)
      try simp only [Act.put, List.setIfInBounds_toArray, List.set_cons_zero, List.set_cons_succ]
      refine wpAnyH_take (i := 1) (oi := { dst := some 38, op := Op.load 31 (Operand.tmp 37), type := 31, pos := "law.go:222", after := #[{ on := 0, ground := Ground.data }], guard := none }) (v := ?_) rfl (by kernel_rfl) (by kernel_rfl) (by kernel_rfl) (fun _ _ _ h => h) (Or.inl ⟨by rfl, ?hyr1x1⟩) (by assumption) ?restr1x1
      case hyr1x1 => intro wq hSw; (have cq := (BD.nx hSw).cell 0 _ rfl; go_simp); (try with_reducible rfl)
      try simp only [Act.put, List.setIfInBounds_toArray, List.set_cons_zero, List.set_cons_succ]
      refine wpAnyH_take (i := 3) (oi := { dst := some 40, op := Op.indexAddr 37 (Operand.tmp 11) (Operand.const (Value.int IntKind.i64 1)), type := 0, pos := "law.go:222", after := #[], guard := none }) (v := ?_) rfl (by kernel_rfl) (by kernel_rfl) (by kernel_rfl) (fun _ _ _ h => h) (Or.inl ⟨by rfl, ?hyr1x3⟩) (by assumption) ?restr1x3
      case hyr1x3 => intro wq hSw; (go_simp); (try with_reducible rfl)
      try simp only [Act.put, List.setIfInBounds_toArray, List.set_cons_zero, List.set_cons_succ]
      refine wpAnyH_take (i := 4) (oi := { dst := some 41, op := Op.load 31 (Operand.tmp 40), type := 31, pos := "law.go:222", after := #[{ on := 3, ground := Ground.data }], guard := none }) (v := ?_) rfl (by kernel_rfl) (by kernel_rfl) (by kernel_rfl) (fun _ _ _ h => h) (Or.inl ⟨by rfl, ?hyr1x4⟩) (by assumption) ?restr1x4
      case hyr1x4 => intro wq hSw; (have cq := (BD.nx hSw).cell 1 _ rfl; go_simp); (try with_reducible rfl)
      try simp only [Act.put, List.setIfInBounds_toArray, List.set_cons_zero, List.set_cons_succ]
      refine wpAnyH_take (i := 7) (oi := { dst := some 44, op := Op.indexAddr 37 (Operand.tmp 11) (Operand.const (Value.int IntKind.i64 0)), type := 0, pos := "law.go:222", after := #[], guard := none }) (v := ?_) rfl (by kernel_rfl) (by kernel_rfl) (by kernel_rfl) (fun _ _ _ h => h) (Or.inl ⟨by rfl, ?hyr1x7⟩) (by assumption) ?restr1x7
      case hyr1x7 => intro wq hSw; (go_simp); (try with_reducible rfl)
      try simp only [Act.put, List.setIfInBounds_toArray, List.set_cons_zero, List.set_cons_succ]
      refine wpAnyH_take (i := 8) (oi := { dst := some 45, op := Op.load 31 (Operand.tmp 44), type := 31, pos := "law.go:222", after := #[{ on := 7, ground := Ground.data }], guard := none }) (v := ?_) rfl (by kernel_rfl) (by kernel_rfl) (by kernel_rfl) (fun _ _ _ h => h) (Or.inl ⟨by rfl, ?hyr1x8⟩) (by assumption) ?restr1x8
      case hyr1x8 => intro wq hSw; (have cq := (BD.nx hSw).cell 0 _ rfl; go_simp); (try with_reducible rfl)
      try simp only [Act.put, List.setIfInBounds_toArray, List.set_cons_zero, List.set_cons_succ]
      refine wpAnyH_take (i := 9) (oi := { dst := some 46, op := Op.indexAddr 37 (Operand.tmp 11) (Operand.const (Value.int IntKind.i64 1)), type := 0, pos := "law.go:222", after := #[], guard := none }) (v := ?_) rfl (by kernel_rfl) (by kernel_rfl) (by kernel_rfl) (fun _ _ _ h => h) (Or.inl ⟨by rfl, ?hyr1x9⟩) (by assumption) ?restr1x9
      case hyr1x9 => intro wq hSw; (go_simp); (try with_reducible rfl)
      try simp only [Act.put, List.setIfInBounds_toArray, List.set_cons_zero, List.set_cons_succ]
      refine wpAnyH_take (i := 10) (oi := { dst := some 47, op := Op.load 31 (Operand.tmp 46), type := 31, pos := "law.go:222", after := #[{ on := 9, ground := Ground.data }], guard := none }) (v := ?_) rfl (by kernel_rfl) (by kernel_rfl) (by kernel_rfl) (fun _ _ _ h => h) (Or.inl ⟨by rfl, ?hyr1x10⟩) (by assumption) ?restr1x10
      case hyr1x10 => intro wq hSw; (have cq := (BD.nx hSw).cell 1 _ rfl; go_simp); (try with_reducible rfl)
      try simp only [Act.put, List.setIfInBounds_toArray, List.set_cons_zero, List.set_cons_succ]
      refine wpAnyH_take (i := 11) (oi := { dst := some 48, op := Op.binOp BinOp.eql 31 (Operand.tmp 45) (Operand.tmp 47) 31, type := 4, pos := "law.go:222", after := #[{ on := 8, ground := Ground.data }, { on := 10, ground := Ground.data }], guard := none }) (v := ?_) rfl (by kernel_rfl) (by kernel_rfl) (by kernel_rfl) (fun _ _ _ h => h) (Or.inl ⟨by rfl, ?hyr1x11⟩) (by assumption) ?restr1x11
      case hyr1x11 => intro wq hSw; (go_simp); (try with_reducible rfl)
      try simp only [Act.put, List.setIfInBounds_toArray, List.set_cons_zero, List.set_cons_succ]
      refine wpAnyH_ready (rs := [2]) (by kernel_rfl) (by simp) ?_
      refine AllReadyH.cons (o := { dst := some 39, op := Op.call { callee := Callee.value (Operand.func 17), args := #[Operand.const (Value.slice none 0 0), Operand.tmp 38], argTypes := #[23, 31] }, type := 23, pos := "law.go:222", after := #[{ on := 1, ground := Ground.data }], guard := none }) rfl (fun K hK => ?_) AllReadyH.nil
      go_simp
      (with_reducible refine (appuint_p none 0 0 [] P _ (Sl.nil _ _ _ _) (by omega) (fun _ => rfl) HP.out).mono ?_)
      rintro e v1 ⟨v', rfl, own1, j1⟩
      obtain ⟨A1, N1', C1, rfl, s1, o1, p1, m1⟩ := own_sl own1 (encU_bd2 _)
      replace BD := BD.nx j1
      clear own1
      refine hK.out _ _ j1 (fun _ => ?_)
      clear hK K
      try simp only [Act.put, List.setIfInBounds_toArray, List.set_cons_zero, List.set_cons_succ]
      refine wpAnyH_switch (S' := Ex v1) (fun _ hSw => Ex.nx j1 hSw) ?_
      clear hHeld
      have hHeld := Ex.refl v1
      refine wpAnyH_ready (rs := [5]) (by kernel_rfl) (by simp) ?_
      refine AllReadyH.cons (o := { dst := some 42, op := Op.call { callee := Callee.value (Operand.func 17), args := #[Operand.const (Value.slice none 0 0), Operand.tmp 41], argTypes := #[23, 31] }, type := 23, pos := "law.go:222", after := #[{ on := 4, ground := Ground.data }, { on := 2, ground := Ground.chain }], guard := none }) rfl (fun K hK => ?_) AllReadyH.nil
      go_simp
      (with_reducible refine (appuint_p none 0 0 [] Q _ (Sl.nil _ _ _ _) (by omega) (fun _ => rfl) HQ.out).mono ?_)
      rintro e v2 ⟨v', rfl, own2, j2⟩
      obtain ⟨A2, N2', C2, rfl, s2, o2, p2, m2⟩ := own_sl own2 (encU_bd2 _)
      replace BD := BD.nx j2
      replace s1 := s1.nx j2
      clear own2
      refine hK.out _ _ j2 (fun _ => ?_)
      clear hK K
      try simp only [Act.put, List.setIfInBounds_toArray, List.set_cons_zero, List.set_cons_succ]
      refine wpAnyH_switch (S' := Ex v2) (fun _ hSw => Ex.nx j2 hSw) ?_
      clear hHeld
      have hHeld := Ex.refl v2
      refine wpAnyH_ready (rs := [6]) (by kernel_rfl) (by simp) ?_
      refine AllReadyH.cons (o := { dst := some 43, op := Op.call { callee := Callee.value (Operand.func 16), args := #[Operand.tmp 39, Operand.tmp 42], argTypes := #[23, 23] }, type := 4, pos := "law.go:222", after := #[{ on := 2, ground := Ground.data }, { on := 5, ground := Ground.data }, { on := 5, ground := Ground.chain }], guard := none }) rfl (fun K hK => ?_) AllReadyH.nil
      go_simp
      (with_reducible refine (begins_x _ _ _ _ _ _ _ _ _ s1.sl s2.sl o1 p1 m2).mono ?_)
      rintro e v3 ⟨rfl, j3⟩
      rw [HB1.out]
      replace BD := BD.nx j3
      refine hK.out _ _ j3 (fun _ => ?_)
      clear hK K
      try simp only [Act.put, List.setIfInBounds_toArray, List.set_cons_zero, List.set_cons_succ]
      refine wpAnyH_switch (S' := Ex v3) (fun _ hSw => Ex.nx j3 hSw) ?_
      clear hHeld
      have hHeld := Ex.refl v3
      refine wpAnyH_take (i := 12) (oi := { dst := some 49, op := Op.binOp BinOp.neq 4 (Operand.tmp 43) (Operand.tmp 48) 4, type := 4, pos := "law.go:222", after := #[{ on := 6, ground := Ground.data }, { on := 11, ground := Ground.data }], guard := none }) (v := ?_) rfl (by kernel_rfl) (by kernel_rfl) (by kernel_rfl) (fun _ _ _ h => h) (Or.inl ⟨by rfl, ?hyr1x12⟩) (by assumption) ?restr1x12
      case hyr1x12 => intro wq hSw; (go_simp); (try with_reducible rfl)
      try simp only [Act.put, List.setIfInBounds_toArray, List.set_cons_zero, List.set_cons_succ]
      refine wpAnyH_take (i := 13) (oi := { dst := some 50, op := Op.move (Operand.tmp 49), type := 4, pos := "law.go:222", after := #[{ on := 12, ground := Ground.data }, { on := 6, ground := Ground.chain }], guard := none }) (v := ?_) rfl (by kernel_rfl) (by kernel_rfl) (by kernel_rfl) (fun _ _ _ h => h) (Or.inl ⟨by rfl, ?hyr1x13⟩) (by assumption) ?restr1x13
      case hyr1x13 => intro wq hSw; (go_simp); (try with_reducible rfl)
      try simp only [Act.put, List.setIfInBounds_toArray, List.set_cons_zero, List.set_cons_succ]
      refine wpAnyH_take (i := 14) (oi := { dst := some 51, op := Op.indexAddr 37 (Operand.tmp 11) (Operand.const (Value.int IntKind.i64 0)), type := 0, pos := "law.go:222", after := #[{ on := 13, ground := Ground.guard }], guard := some (13, false) }) (v := ?_) rfl (by kernel_rfl) (by kernel_rfl) (by kernel_rfl) (fun _ _ _ h => h) (Or.inl ⟨by rfl, ?hyr1x14⟩) (by assumption) ?restr1x14
      case hyr1x14 => intro wq hSw; (go_simp); (try with_reducible rfl)
      try simp only [Act.put, List.setIfInBounds_toArray, List.set_cons_zero, List.set_cons_succ]
      refine wpAnyH_take (i := 15) (oi := { dst := some 52, op := Op.load 31 (Operand.tmp 51), type := 31, pos := "law.go:222", after := #[{ on := 14, ground := Ground.data }, { on := 13, ground := Ground.guard }], guard := some (13, false) }) (v := ?_) rfl (by kernel_rfl) (by kernel_rfl) (by kernel_rfl) (fun _ _ _ h => h) (Or.inl ⟨by rfl, ?hyr1x15⟩) (by assumption) ?restr1x15
      case hyr1x15 => intro wq hSw; (have cq := (BD.nx hSw).cell 0 _ rfl; go_simp); (try with_reducible rfl)
      try simp only [Act.put, List.setIfInBounds_toArray, List.set_cons_zero, List.set_cons_succ]
      refine wpAnyH_take (i := 16) (oi := { dst := some 53, op := Op.convert 31 2 (Operand.tmp 52), type := 2, pos := "law.go:222", after := #[{ on := 15, ground := Ground.data }, { on := 13, ground := Ground.guard }], guard := some (13, false) }) (v := ?_) rfl (by kernel_rfl) (by kernel_rfl) (by kernel_rfl) (fun _ _ _ h => h) (Or.inl ⟨by rfl, ?hyr1x16⟩) (by assumption) ?restr1x16
      case hyr1x16 => intro wq hSw; (go_simp); (try with_reducible rfl)
      try simp only [Act.put, List.setIfInBounds_toArray, List.set_cons_zero, List.set_cons_succ]
      refine wpAnyH_take (i := 18) (oi := { dst := some 55, op := Op.indexAddr 37 (Operand.tmp 11) (Operand.const (Value.int IntKind.i64 1)), type := 0, pos := "law.go:222", after := #[{ on := 13, ground := Ground.guard }], guard := some (13, false) }) (v := ?_) rfl (by kernel_rfl) (by kernel_rfl) (by kernel_rfl) (fun _ _ _ h => h) (Or.inl ⟨by rfl, ?hyr1x18⟩) (by assumption) ?restr1x18
      case hyr1x18 => intro wq hSw; (go_simp); (try with_reducible rfl)
      try simp only [Act.put, List.setIfInBounds_toArray, List.set_cons_zero, List.set_cons_succ]
      refine wpAnyH_take (i := 19) (oi := { dst := some 56, op := Op.load 31 (Operand.tmp 55), type := 31, pos := "law.go:222", after := #[{ on := 18, ground := Ground.data }, { on := 13, ground := Ground.guard }], guard := some (13, false) }) (v := ?_) rfl (by kernel_rfl) (by kernel_rfl) (by kernel_rfl) (fun _ _ _ h => h) (Or.inl ⟨by rfl, ?hyr1x19⟩) (by assumption) ?restr1x19
      case hyr1x19 => intro wq hSw; (have cq := (BD.nx hSw).cell 1 _ rfl; go_simp); (try with_reducible rfl)
      try simp only [Act.put, List.setIfInBounds_toArray, List.set_cons_zero, List.set_cons_succ]
      refine wpAnyH_take (i := 20) (oi := { dst := some 57, op := Op.convert 31 2 (Operand.tmp 56), type := 2, pos := "law.go:222", after := #[{ on := 19, ground := Ground.data }, { on := 13, ground := Ground.guard }], guard := some (13, false) }) (v := ?_) rfl (by kernel_rfl) (by kernel_rfl) (by kernel_rfl) (fun _ _ _ h => h) (Or.inl ⟨by rfl, ?hyr1x20⟩) (by assumption) ?restr1x20
      case hyr1x20 => intro wq hSw; (go_simp); (try with_reducible rfl)
      try simp only [Act.put, List.setIfInBounds_toArray, List.set_cons_zero, List.set_cons_succ]
      refine wpAnyH_take (i := 23) (oi := { dst := some 60, op := Op.indexAddr 37 (Operand.tmp 11) (Operand.const (Value.int IntKind.i64 0)), type := 0, pos := "law.go:222", after := #[{ on := 13, ground := Ground.guard }], guard := some (13, false) }) (v := ?_) rfl (by kernel_rfl) (by kernel_rfl) (by kernel_rfl) (fun _ _ _ h => h) (Or.inl ⟨by rfl, ?hyr1x23⟩) (by assumption) ?restr1x23
      case hyr1x23 => intro wq hSw; (go_simp); (try with_reducible rfl)
      try simp only [Act.put, List.setIfInBounds_toArray, List.set_cons_zero, List.set_cons_succ]
      refine wpAnyH_take (i := 24) (oi := { dst := some 61, op := Op.load 31 (Operand.tmp 60), type := 31, pos := "law.go:222", after := #[{ on := 23, ground := Ground.data }, { on := 13, ground := Ground.guard }], guard := some (13, false) }) (v := ?_) rfl (by kernel_rfl) (by kernel_rfl) (by kernel_rfl) (fun _ _ _ h => h) (Or.inl ⟨by rfl, ?hyr1x24⟩) (by assumption) ?restr1x24
      case hyr1x24 => intro wq hSw; (have cq := (BD.nx hSw).cell 0 _ rfl; go_simp); (try with_reducible rfl)
      try simp only [Act.put, List.setIfInBounds_toArray, List.set_cons_zero, List.set_cons_succ]
      refine wpAnyH_take (i := 25) (oi := { dst := some 62, op := Op.indexAddr 37 (Operand.tmp 11) (Operand.const (Value.int IntKind.i64 1)), type := 0, pos := "law.go:222", after := #[{ on := 13, ground := Ground.guard }], guard := some (13, false) }) (v := ?_) rfl (by kernel_rfl) (by kernel_rfl) (by kernel_rfl) (fun _ _ _ h => h) (Or.inl ⟨by rfl, ?hyr1x25⟩) (by assumption) ?restr1x25
      case hyr1x25 => intro wq hSw; (go_simp); (try with_reducible rfl)
      try simp only [Act.put, List.setIfInBounds_toArray, List.set_cons_zero, List.set_cons_succ]
      refine wpAnyH_take (i := 26) (oi := { dst := some 63, op := Op.load 31 (Operand.tmp 62), type := 31, pos := "law.go:222", after := #[{ on := 25, ground := Ground.data }, { on := 13, ground := Ground.guard }], guard := some (13, false) }) (v := ?_) rfl (by kernel_rfl) (by kernel_rfl) (by kernel_rfl) (fun _ _ _ h => h) (Or.inl ⟨by rfl, ?hyr1x26⟩) (by assumption) ?restr1x26
      case hyr1x26 => intro wq hSw; (have cq := (BD.nx hSw).cell 1 _ rfl; go_simp); (try with_reducible rfl)
      try simp only [Act.put, List.setIfInBounds_toArray, List.set_cons_zero, List.set_cons_succ]
      refine wpAnyH_take (i := 27) (oi := { dst := some 64, op := Op.binOp BinOp.eql 31 (Operand.tmp 61) (Operand.tmp 63) 31, type := 4, pos := "law.go:222", after := #[{ on := 24, ground := Ground.data }, { on := 26, ground := Ground.data }, { on := 13, ground := Ground.guard }], guard := some (13, false) }) (v := ?_) rfl (by kernel_rfl) (by kernel_rfl) (by kernel_rfl) (fun _ _ _ h => h) (Or.inl ⟨by rfl, ?hyr1x27⟩) (by assumption) ?restr1x27
      case hyr1x27 => intro wq hSw; (go_simp); (try with_reducible rfl)
      try simp only [Act.put, List.setIfInBounds_toArray, List.set_cons_zero, List.set_cons_succ]
      refine wpAnyH_ready (rs := [17]) (by kernel_rfl) (by simp) ?_
      refine AllReadyH.cons (o := { dst := some 54, op := Op.call { callee := Callee.value (Operand.func 18), args := #[Operand.const (Value.slice none 0 0), Operand.tmp 53], argTypes := #[23, 2] }, type := 23, pos := "law.go:222", after := #[{ on := 16, ground := Ground.data }, { on := 13, ground := Ground.chain }, { on := 13, ground := Ground.guard }], guard := some (13, false) }) rfl (fun K hK => ?_) AllReadyH.nil
      go_simp
      (with_reducible refine (appint_p none 0 0 [] _ _ (Sl.nil _ _ _ _) (by omega) (fun _ => rfl) (i64_bd _).1 (i64_bd _).2).mono ?_)
      rintro e v4 ⟨v', rfl, own4, j4⟩
      obtain ⟨A4, N4', C4, rfl, s4, o4, p4, m4⟩ := own_sl own4 (encU_bd2 _)
      replace BD := BD.nx j4
      clear own4
      refine hK.out _ _ j4 (fun _ => ?_)
      clear hK K
      try simp only [Act.put, List.setIfInBounds_toArray, List.set_cons_zero, List.set_cons_succ]
      refine wpAnyH_switch (S' := Ex v4) (fun _ hSw => Ex.nx j4 hSw) ?_
      clear hHeld
      have hHeld := Ex.refl v4
      refine wpAnyH_ready (rs := [21]) (by kernel_rfl) (by simp) ?_
      refine AllReadyH.cons (o := { dst := some 58, op := Op.call { callee := Callee.value (Operand.func 18), args := #[Operand.const (Value.slice none 0 0), Operand.tmp 57], argTypes := #[23, 2] }, type := 23, pos := "law.go:222", after := #[{ on := 20, ground := Ground.data }, { on := 17, ground := Ground.chain }, { on := 13, ground := Ground.guard }], guard := some (13, false) }) rfl (fun K hK => ?_) AllReadyH.nil
      go_simp
      (with_reducible refine (appint_p none 0 0 [] _ _ (Sl.nil _ _ _ _) (by omega) (fun _ => rfl) (i64_bd _).1 (i64_bd _).2).mono ?_)
      rintro e v5 ⟨v', rfl, own5, j5⟩
      obtain ⟨A5, N5', C5, rfl, s5, o5, p5, m5⟩ := own_sl own5 (encU_bd2 _)
      replace BD := BD.nx j5
      replace s4 := s4.nx j5
      clear own5
      refine hK.out _ _ j5 (fun _ => ?_)
      clear hK K
      try simp only [Act.put, List.setIfInBounds_toArray, List.set_cons_zero, List.set_cons_succ]
      refine wpAnyH_switch (S' := Ex v5) (fun _ hSw => Ex.nx j5 hSw) ?_
      clear hHeld
      have hHeld := Ex.refl v5
      refine wpAnyH_ready (rs := [22]) (by kernel_rfl) (by simp) ?_
      refine AllReadyH.cons (o := { dst := some 59, op := Op.call { callee := Callee.value (Operand.func 16), args := #[Operand.tmp 54, Operand.tmp 58], argTypes := #[23, 23] }, type := 4, pos := "law.go:222", after := #[{ on := 17, ground := Ground.data }, { on := 21, ground := Ground.data }, { on := 21, ground := Ground.chain }, { on := 13, ground := Ground.guard }], guard := some (13, false) }) rfl (fun K hK => ?_) AllReadyH.nil
      go_simp
      (with_reducible refine (begins_x _ _ _ _ _ _ _ _ _ s4.sl s5.sl o4 p4 m5).mono ?_)
      rintro e v6 ⟨rfl, j6⟩
      rw [HB2.out]
      replace BD := BD.nx j6
      refine hK.out _ _ j6 (fun _ => ?_)
      clear hK K
      try simp only [Act.put, List.setIfInBounds_toArray, List.set_cons_zero, List.set_cons_succ]
      refine wpAnyH_switch (S' := Ex v6) (fun _ hSw => Ex.nx j6 hSw) ?_
      clear hHeld
      have hHeld := Ex.refl v6
      refine wpAnyH_take (i := 28) (oi := { dst := some 65, op := Op.binOp BinOp.neq 4 (Operand.tmp 59) (Operand.tmp 64) 4, type := 4, pos := "law.go:222", after := #[{ on := 22, ground := Ground.data }, { on := 27, ground := Ground.data }, { on := 13, ground := Ground.guard }], guard := some (13, false) }) (v := ?_) rfl (by kernel_rfl) (by kernel_rfl) (by kernel_rfl) (fun _ _ _ h => h) (Or.inl ⟨by rfl, ?hyr1x28⟩) (by assumption) ?restr1x28
      case hyr1x28 => intro wq hSw; (go_simp); (try with_reducible rfl)
      try simp only [Act.put, List.setIfInBounds_toArray, List.set_cons_zero, List.set_cons_succ]
      refine wpAnyH_take (i := 29) (oi := { dst := some 66, op := Op.pick (Operand.tmp 50) (Operand.const (Value.bool true)) (Operand.tmp 65), type := 4, pos := "law.go:222", after := #[{ on := 13, ground := Ground.data }, { on := 28, ground := Ground.data }], guard := none }) (v := ?_) rfl (by kernel_rfl) (by kernel_rfl) (by kernel_rfl) (fun _ _ _ h => h) (Or.inl ⟨by rfl, ?hyr1x29⟩) (by assumption) ?restr1x29
      case hyr1x29 => intro wq hSw; (go_simp); (try with_reducible rfl)
      try simp only [Act.put, List.setIfInBounds_toArray, List.set_cons_zero, List.set_cons_succ]
      refine wpAnyH_done (by kernel_rfl) ?_ _
      have kf := Lib.hid ((((((kn.drew.nx j1).nx j2).nx j3).nx j4).nx j5).nx j6)
      clear kn j1 j2 j3 j4 j5 j6 BD s1 s2 s4 s5
      go_wp2_with fail
      exact ⟨⟨k + 1, by omega, by go_num, kf.out⟩, by simp [intOf]; try omega⟩
    · have T2 := T.nx kw
      have q2 := q.nx kw
      have L2 := hL.nx q2.1
      clear S T q hL kw
      go_wp2_with fail
      refine (key_t _ T2 L2 hgb).mono ?_
      clear T2 L2
      rintro e w6 ⟨key, rfl, hkey, T, kk⟩
      have q := q2.nxb kk
      have kn := Ex.new w6 (.cells #[.string key, .string s, .string (s ++ ⟨#[97]⟩), .string ⟨#[]⟩] 9)
      have S2 : Sl 1 encT (w6.alloc (.cells #[.string key, .string s, .string (s ++ ⟨#[97]⟩), .string ⟨#[]⟩] 9)) (some ⟨w6.heap.size, 0, none⟩) 4 [key, s, s ++ ⟨#[97]⟩, ⟨#[]⟩] := Sl.lit _ rfl rfl (fun _ => rfl) rfl
      have hall : ∀ x ∈ [key, s, s ++ ⟨#[97]⟩, ⟨#[]⟩], x.size ≤ 5001 := by
        intro x hx
        simp only [List.mem_cons, List.not_mem_nil, or_false] at hx
        rcases hx with rfl | rfl | rfl | rfl
        · omega
        · omega
        · rw [ByteArray.size_append]; exact Nat.add_le_add hs5 (Nat.le_refl 1)
        · exact Nat.zero_le _
      have HALL2 := Lib.hid hall
      have HQ := Lib.hid (q.nx kn)
      obtain ⟨X, hX⟩ : ∃ X, X = [key, s, s ++ ⟨#[97]⟩, ⟨#[]⟩] := ⟨_, rfl⟩
      rw [← hX] at S2 HALL2
      obtain ⟨w7, hw7⟩ : ∃ w7, w7 = w6.alloc (.cells #[.string key, .string s, .string (s ++ ⟨#[97]⟩), .string ⟨#[]⟩] 9) := ⟨_, rfl⟩
      rw [← hw7] at S2 HQ
      have HW7 := Lib.hid hw7
      obtain ⟨g2, hg2⟩ : ∃ g2, g2 = w6.heap.size := ⟨_, rfl⟩
      rw [← hg2] at S2
      have HG2 := Lib.hid hg2
      clear hall hX hw7 hg2 q q2 kn kk T
      go_wp2_with fail
      rw [← HG2.out, ← HW7.out]
      go_loopw [75] (fun i wr => PreRel 4 w7 i wr) (fun i _ => 4 - (intOf i).toNat)
      case atStart => exact ⟨0, by omega, rfl, Ex.refl _⟩
      case round =>
        obtain ⟨j, hj, rfl, kw⟩ := hrel
        obtain ⟨wo', rfl⟩ : ∃ wo' : World, wo' = wr := ⟨_, rfl⟩
        by_cases hlt2 : j < 4
        · obtain ⟨x, o, y, hxo, hx, hy, hcell⟩ := (S2.nx kw).at hlt2
          cases hxo
          have c0 : wo'.cell? ⟨g2, j, none⟩ = some (.string y) := by simpa using hcell 0 _ rfl
          have hys := HALL2.out y (List.mem_of_getElem? hy)
          obtain ⟨v, hv⟩ : ∃ v, v = decide (s = y) := ⟨_, rfl⟩
          have HB1 : Hid (begB ([] ++ encStr s) ([] ++ encStr y) = v) := Lib.hid ((beg_encS' (by omega) (by omega)).trans hv.symm)
          have dv : (s.toList == y.toList) = v := by
            by_cases h : s = y
            · rw [hv, str_eq h]; simp [h]
            · rw [hv, str_ne h]; simp [h]
          clear hcell hy hv S2
          go_wp2_with fail
          (with_reducible refine (appstr_p none 0 0 [] s _ (Sl.nil _ _ _ _) (by omega) (fun _ => rfl) (by omega)).mono ?_)
          rintro e v1 ⟨v', rfl, own1, j1⟩
          obtain ⟨A1, M1, C1, rfl, s1, o1, p1, m1⟩ := own_sl own1 (encStr_bd2 _ (by omega))
          clear own1 c0
          go_wp2_with fail
          (with_reducible refine (appstr_p none 0 0 [] y _ (Sl.nil _ _ _ _) (by omega) (fun _ => rfl) (by omega)).mono ?_)
          rintro e v2 ⟨v', rfl, own2, j2⟩
          obtain ⟨A2, M2, C2, rfl, s2, o2, p2, m2⟩ := own_sl own2 (encStr_bd2 _ (by omega))
          replace s1 := s1.nx j2
          clear own2
          go_wp2_with fail
          (with_reducible refine (begins_x _ _ _ _ _ _ _ _ _ s1.sl s2.sl o1 p1 m2).mono ?_)
          rintro e v3 ⟨rfl, j3⟩
          rw [HB1.out]
          have kf := Lib.hid (((kw.nx j1).nx j2).nx j3)
          clear kw j1 j2 j3 s1 s2
          go_wp2_with fail
          exact ⟨⟨j + 1, by omega, by go_num, kf.out⟩, by simp [intOf]; try omega⟩
        · clear S2
          have HQ2 := Lib.hid (HQ.out.nx kw)
          clear kw
          go_wp2_with fail
          refine (sane3_x _).mono ?_
          rintro e w9 ⟨rfl, kk⟩
          go_wp2_with fail
          go_ret
          exact ⟨rfl, (HQ2.out.nx kk).1⟩
end Go.Proofs.YtjaemckdfoaopaaDoor
