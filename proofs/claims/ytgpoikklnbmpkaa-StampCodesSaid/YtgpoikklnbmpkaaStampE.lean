/- Walks over the encoding of stamps. -/
import Derived.Test.YtgpoikklnbmpkaaStamp
import Derived.Test.YtgpoikklnbmpkaaWireU
import Derived.Deep.RegionHeld3
namespace Go.Proofs.Ytgpoikklnbmpkaa
open Go.RowKit

/-- one may go on under a condition that gives the first one -/
theorem wpAnyH_switch {P : Program} {md : Region.Mode} {ops : Array Oper} {Q : Exit → Act → World → Prop} {S S' : World → Prop} (hS : ∀ w, S' w → S w) :
    ∀ {fuel : Nat} {listed : Array Bool} {a : Act} {w : World}, wpAnyH P md ops Q S' fuel listed a w → wpAnyH P md ops Q S fuel listed a w
  | 0, _, _, _, h => h
  | fuel + 1, _, _, _, h => ⟨h.1, fun i hi => wpOp_mono (fun a' w' h' => ⟨hS w' h'.1, wpAnyH_switch hS h'.2⟩) (h.2 i hi)⟩
def encST (a b : Int) : List UInt8 × Int := if validS a b then (encU a.toNat ++ encU b.toNat, 0) else ([], 1)
def EncPost (r : List UInt8 × Int) (w : World) (e : Ending) (w' : World) : Prop :=
  ∃ v, e = .returned (.tuple #[v, .int .i64 r.2]) ∧ OwnL 1 encB 5 w.heap.size w' v r.1 ∧ Ex w w'
theorem encF_len0 (n : Nat) : [] ++ encU n = encU n := List.nil_append _

set_option maxRecDepth 100000 in
set_option maxHeartbeats 1000000 in
theorem enc_p_bad (a b : Int) (w : World) (hv : validS a b = false) :
    Calls Try.prog 24 #[.agg #[.int .i64 a, .int .i64 b]] w (EncPost (encST a b) w) := by
  have HR : Hid (encST a b = ([], 1)) := by show encST a b = _; unfold encST; rw [hv]; rfl
  go_enter Try.func24, Try.ntmps24
  go_wp2_with fail
  refine (valid_p _ _ _).mono ?_
  rintro e w1 ⟨rfl, k1⟩
  rw [hv]
  go_wp2_with fail
  go_ret2
  exact ⟨.slice none 0 0, by rw [HR.out]; rfl, by rw [HR.out]; exact OwnL.nil _ _ _ _ _, (Ex.new w _).nx k1⟩

set_option maxRecDepth 100000 in
set_option maxHeartbeats 1000000 in
theorem enc_p_ok (A B : Nat) (w : World) (hA : A ≤ 1099511627776) (hB : B ≤ 1099511627776) :
    Calls Try.prog 24 #[.agg #[.int .i64 A, .int .i64 B]] w (EncPost (encST A B) w) := by
  have hv : validS A B = true := (validS_iff _ _).2 (by omega)
  have HR : Hid (encST A B = (encU A ++ encU B, 0)) := by show encST A B = _; unfold encST; rw [hv]; rfl
  have HV := Lib.hid hv
  have HA := Lib.hid (show A < 18446744073709551616 by omega)
  have HB := Lib.hid (show B < 18446744073709551616 by omega)
  have e1 : IntKind.u64.wrap (A : Int) = A := by rw [wrap_u64n]; omega
  have e2 : IntKind.u64.wrap (B : Int) = B := by rw [wrap_u64n]; omega
  have B0 := Blk.new w [.int .i64 A, .int .i64 B] 23
  have q0 := Ex.new w (.cells #[.int .i64 A, .int .i64 B] 23)
  clear hv
  go_enter Try.func24, Try.ntmps24
  go_wp2_with fail
  refine (valid_p _ _ _).mono ?_
  rintro e w1 ⟨rfl, k1⟩
  rw [HV.out]
  have B1 : Blk w1.drew w.heap.size [.int .i64 A, .int .i64 B] 23 := B0.nx (Chg.drew k1)
  have q1 := q0.nx k1
  clear B0 q0 k1
  go_wp2_with fail
  refine wp_region_held_drew (S := Ex w1.drew) (by kernel_rfl) (Ex.refl _) (fun hHeld => ?_)
  refine wpAnyH_take (i := 0) (oi := { dst := some 7, op := Op.fieldAddr 23 (Operand.tmp 1) 0, type := 0, pos := "stamp.go:73", after := #[], guard := none }) (v := ?_) rfl (by kernel_rfl) (by kernel_rfl) (by kernel_rfl) (fun _ _ _ h => h) (Or.inl ⟨by rfl, ?hyr1x0⟩) (by assumption) ?restr1x0
  case hyr1x0 => intro wq hSw; (go_simp); (try with_reducible rfl)
  try simp only [Act.put, List.setIfInBounds_toArray, List.set_cons_zero, List.set_cons_succ]
  refine wpAnyH_take (i := 1) (oi := { dst := some 8, op := Op.load 3 (Operand.tmp 7), type := 3, pos := "stamp.go:73", after := #[{ on := 0, ground := Ground.data }], guard := none }) (v := ?_) rfl (by kernel_rfl) (by kernel_rfl) (by kernel_rfl) (fun _ _ _ h => h) (Or.inl ⟨by rfl, ?hyr1x1⟩) (by assumption) ?restr1x1
  case hyr1x1 => intro wq hSw; (have cq := (B1.nx hSw).cell 0 _ rfl; go_simp); (try with_reducible rfl)
  try simp only [Act.put, List.setIfInBounds_toArray, List.set_cons_zero, List.set_cons_succ]
  refine wpAnyH_take (i := 2) (oi := { dst := some 9, op := Op.convert 3 62 (Operand.tmp 8), type := 62, pos := "stamp.go:73", after := #[{ on := 1, ground := Ground.data }], guard := none }) (v := ?_) rfl (by kernel_rfl) (by kernel_rfl) (by kernel_rfl) (fun _ _ _ h => h) (Or.inl ⟨by rfl, ?hyr1x2⟩) (by assumption) ?restr1x2
  case hyr1x2 => intro wq hSw; (go_simp); (try with_reducible rfl)
  try simp only [Act.put, List.setIfInBounds_toArray, List.set_cons_zero, List.set_cons_succ]
  refine wpAnyH_take (i := 4) (oi := { dst := some 11, op := Op.fieldAddr 23 (Operand.tmp 1) 1, type := 0, pos := "stamp.go:73", after := #[], guard := none }) (v := ?_) rfl (by kernel_rfl) (by kernel_rfl) (by kernel_rfl) (fun _ _ _ h => h) (Or.inl ⟨by rfl, ?hyr1x4⟩) (by assumption) ?restr1x4
  case hyr1x4 => intro wq hSw; (go_simp); (try with_reducible rfl)
  try simp only [Act.put, List.setIfInBounds_toArray, List.set_cons_zero, List.set_cons_succ]
  refine wpAnyH_take (i := 5) (oi := { dst := some 12, op := Op.load 3 (Operand.tmp 11), type := 3, pos := "stamp.go:73", after := #[{ on := 4, ground := Ground.data }], guard := none }) (v := ?_) rfl (by kernel_rfl) (by kernel_rfl) (by kernel_rfl) (fun _ _ _ h => h) (Or.inl ⟨by rfl, ?hyr1x5⟩) (by assumption) ?restr1x5
  case hyr1x5 => intro wq hSw; (have cq := (B1.nx hSw).cell 1 _ rfl; go_simp); (try with_reducible rfl)
  try simp only [Act.put, List.setIfInBounds_toArray, List.set_cons_zero, List.set_cons_succ]
  refine wpAnyH_take (i := 6) (oi := { dst := some 13, op := Op.convert 3 62 (Operand.tmp 12), type := 62, pos := "stamp.go:73", after := #[{ on := 5, ground := Ground.data }], guard := none }) (v := ?_) rfl (by kernel_rfl) (by kernel_rfl) (by kernel_rfl) (fun _ _ _ h => h) (Or.inl ⟨by rfl, ?hyr1x6⟩) (by assumption) ?restr1x6
  case hyr1x6 => intro wq hSw; (go_simp); (try with_reducible rfl)
  try simp only [Act.put, List.setIfInBounds_toArray, List.set_cons_zero, List.set_cons_succ]
  refine wpAnyH_ready (rs := [3]) (by kernel_rfl) (by simp) ?_
  refine AllReadyH.cons (o := { dst := some 10, op := Op.call { callee := Callee.value (Operand.func 32), args := #[Operand.const (Value.slice none 0 0), Operand.tmp 9], argTypes := #[46, 62] }, type := 46, pos := "stamp.go:73", after := #[{ on := 2, ground := Ground.data }], guard := none }) rfl (fun K hK => ?_) AllReadyH.nil
  go_simp
  (with_reducible refine (appuint_p none 0 0 [] A _ (Sl.nil _ _ _ _) (by omega) (fun _ => rfl) HA.out).mono ?_)
  rintro e v1 ⟨v, rfl, own1, j1⟩
  obtain ⟨A1, C1, rfl, s1, o1, p1, n1⟩ := own1.slf (fun _ => rfl)
  have hl := encF_len0 A
  generalize [] ++ encU A = L1 at s1 own1 o1 hl ⊢
  obtain ⟨m1, hm⟩ : ∃ m, m = L1.length := ⟨_, rfl⟩
  rw [← hm] at s1 o1 ⊢
  have hm1 : m1 ≤ 10 := by rw [hm, hl]; exact encU_length A
  have N1 := Lib.hid n1
  have HL := Lib.hid hl
  clear own1 n1 hm hl
  replace B1 := B1.nx j1
  refine hK.out _ _ j1 (fun _ => ?_)
  clear hK K
  try simp only [Act.put, List.setIfInBounds_toArray, List.set_cons_zero, List.set_cons_succ]
  refine wpAnyH_switch (S' := Ex v1) (fun _ hSw => Ex.nx j1 hSw) ?_
  clear hHeld
  have hHeld := Ex.refl v1
  refine wpAnyH_ready (rs := [7]) (by kernel_rfl) (by simp) ?_
  refine AllReadyH.cons (o := { dst := some 14, op := Op.call { callee := Callee.value (Operand.func 32), args := #[Operand.tmp 10, Operand.tmp 13], argTypes := #[46, 62] }, type := 46, pos := "stamp.go:73", after := #[{ on := 3, ground := Ground.data }, { on := 6, ground := Ground.data }, { on := 3, ground := Ground.chain }], guard := none }) rfl (fun K hK => ?_) AllReadyH.nil
  go_simp
  (with_reducible refine (appuint_p _ _ _ _ B _ s1.sl (by omega) N1.out HB.out).mono ?_)
  rintro e v2 ⟨v2', rfl, own2, j2⟩
  rw [HL.out] at own2
  refine hK.out _ _ j2 (fun _ => ?_)
  clear hK K
  try simp only [Act.put, List.setIfInBounds_toArray, List.set_cons_zero, List.set_cons_succ]
  refine wpAnyH_switch (S' := Ex v2) (fun _ hSw => Ex.nx j2 hSw) ?_
  clear hHeld
  have hHeld := Ex.refl v2
  refine wpAnyH_take (i := 8) (oi := { dst := some 2, op := Op.assign (Operand.tmp 14), type := 46, pos := "stamp.go:73", after := #[{ on := 7, ground := Ground.data }, { on := 7, ground := Ground.chain }, { on := 0, ground := Ground.phase }, { on := 1, ground := Ground.phase }, { on := 2, ground := Ground.phase }, { on := 3, ground := Ground.phase }, { on := 4, ground := Ground.phase }, { on := 5, ground := Ground.phase }, { on := 6, ground := Ground.phase }, { on := 7, ground := Ground.phase }], guard := none }) (v := ?_) rfl (by kernel_rfl) (by kernel_rfl) (by kernel_rfl) (fun _ _ _ h => h) (Or.inl ⟨by rfl, ?hyr1x8⟩) (by assumption) ?restr1x8
  case hyr1x8 => intro wq hSw; (go_simp); (try with_reducible rfl)
  try simp only [Act.put, List.setIfInBounds_toArray, List.set_cons_zero, List.set_cons_succ]
  refine wpAnyH_take (i := 9) (oi := { dst := some 3, op := Op.assign (Operand.const (Value.int IntKind.i64 0)), type := 30, pos := "stamp.go:73", after := #[{ on := 8, ground := Ground.chain }, { on := 0, ground := Ground.phase }, { on := 1, ground := Ground.phase }, { on := 2, ground := Ground.phase }, { on := 3, ground := Ground.phase }, { on := 4, ground := Ground.phase }, { on := 5, ground := Ground.phase }, { on := 6, ground := Ground.phase }, { on := 7, ground := Ground.phase }, { on := 8, ground := Ground.phase }], guard := none }) (v := ?_) rfl (by kernel_rfl) (by kernel_rfl) (by kernel_rfl) (fun _ _ _ h => h) (Or.inl ⟨by rfl, ?hyr1x9⟩) (by assumption) ?restr1x9
  case hyr1x9 => intro wq hSw; (go_simp); (try with_reducible rfl)
  try simp only [Act.put, List.setIfInBounds_toArray, List.set_cons_zero, List.set_cons_succ]
  refine wpAnyH_done (by kernel_rfl) ?_ _
  have qf := ((q1.drew).nx j1).nx j2
  have OW := Lib.hid (own2.base (Nat.le_trans q1.size j1.size))
  clear B1 q1 j1 j2 own2 s1
  go_wp2_with fail
  go_ret2
  exact ⟨v2', by rw [HR.out]; rfl, by rw [HR.out]; exact OW.out, qf⟩

theorem enc_p (a b : Int) (w : World) : Calls Try.prog 24 #[.agg #[.int .i64 a, .int .i64 b]] w (EncPost (encST a b) w) := by
  cases hv : validS a b with
  | false => exact enc_p_bad a b w hv
  | true =>
    have := (validS_iff a b).1 hv
    obtain ⟨A, rfl⟩ := Int.eq_ofNat_of_zero_le this.1
    obtain ⟨B, rfl⟩ := Int.eq_ofNat_of_zero_le this.2.2.1
    exact enc_p_ok A B w (by omega) (by omega)

set_option maxRecDepth 100000 in
set_option maxHeartbeats 1000000 in
theorem enc_r_bad (a b : Int) (w : World) (hv : validS a b = false) :
    Calls Try.prog 25 #[.agg #[.int .i64 a, .int .i64 b]] w (EncPost (encST a b) w) := by
  have HR : Hid (encST a b = ([], 1)) := by show encST a b = _; unfold encST; rw [hv]; rfl
  go_enter Try.func25, Try.ntmps25
  go_wp2_with fail
  refine (valid_r _ _ _).mono ?_
  rintro e w1 ⟨rfl, k1⟩
  rw [hv]
  go_wp2_with fail
  go_ret2
  exact ⟨.slice none 0 0, by rw [HR.out]; rfl, by rw [HR.out]; exact OwnL.nil _ _ _ _ _, (Ex.new w _).nx k1⟩

set_option maxRecDepth 100000 in
set_option maxHeartbeats 1000000 in
theorem enc_r_ok (A B : Nat) (w : World) (hA : A ≤ 1099511627776) (hB : B ≤ 1099511627776) :
    Calls Try.prog 25 #[.agg #[.int .i64 A, .int .i64 B]] w (EncPost (encST A B) w) := by
  have hv : validS A B = true := (validS_iff _ _).2 (by omega)
  have HR : Hid (encST A B = (encU A ++ encU B, 0)) := by show encST A B = _; unfold encST; rw [hv]; rfl
  have HV := Lib.hid hv
  have HA := Lib.hid (show A < 18446744073709551616 by omega)
  have HB := Lib.hid (show B < 18446744073709551616 by omega)
  have e1 : IntKind.u64.wrap (A : Int) = A := by rw [wrap_u64n]; omega
  have e2 : IntKind.u64.wrap (B : Int) = B := by rw [wrap_u64n]; omega
  have B0 := Blk.new w [.int .i64 A, .int .i64 B] 23
  have q0 := Ex.new w (.cells #[.int .i64 A, .int .i64 B] 23)
  clear hv
  go_enter Try.func25, Try.ntmps25
  go_wp2_with fail
  refine (valid_r _ _ _).mono ?_
  rintro e w1 ⟨rfl, k1⟩
  rw [HV.out]
  have B1 : Blk w1.drew w.heap.size [.int .i64 A, .int .i64 B] 23 := B0.nx (Chg.drew k1)
  have q1 := q0.nx k1
  clear B0 q0 k1
  go_wp2_with fail
  refine wp_region_held_drew (S := Ex w1.drew) (by kernel_rfl) (Ex.refl _) (fun hHeld => ?_)
  refine wpAnyH_take (i := 0) (oi := { dst := some 7, op := Op.fieldAddr 23 (Operand.tmp 1) 0, type := 0, pos := "ref.go:66", after := #[], guard := none }) (v := ?_) rfl (by kernel_rfl) (by kernel_rfl) (by kernel_rfl) (fun _ _ _ h => h) (Or.inl ⟨by rfl, ?hyr2x0⟩) (by assumption) ?restr2x0
  case hyr2x0 => intro wq hSw; (go_simp); (try with_reducible rfl)
  try simp only [Act.put, List.setIfInBounds_toArray, List.set_cons_zero, List.set_cons_succ]
  refine wpAnyH_take (i := 1) (oi := { dst := some 8, op := Op.load 3 (Operand.tmp 7), type := 3, pos := "ref.go:66", after := #[{ on := 0, ground := Ground.data }], guard := none }) (v := ?_) rfl (by kernel_rfl) (by kernel_rfl) (by kernel_rfl) (fun _ _ _ h => h) (Or.inl ⟨by rfl, ?hyr2x1⟩) (by assumption) ?restr2x1
  case hyr2x1 => intro wq hSw; (have cq := (B1.nx hSw).cell 0 _ rfl; go_simp); (try with_reducible rfl)
  try simp only [Act.put, List.setIfInBounds_toArray, List.set_cons_zero, List.set_cons_succ]
  refine wpAnyH_take (i := 2) (oi := { dst := some 9, op := Op.convert 3 62 (Operand.tmp 8), type := 62, pos := "ref.go:66", after := #[{ on := 1, ground := Ground.data }], guard := none }) (v := ?_) rfl (by kernel_rfl) (by kernel_rfl) (by kernel_rfl) (fun _ _ _ h => h) (Or.inl ⟨by rfl, ?hyr2x2⟩) (by assumption) ?restr2x2
  case hyr2x2 => intro wq hSw; (go_simp); (try with_reducible rfl)
  try simp only [Act.put, List.setIfInBounds_toArray, List.set_cons_zero, List.set_cons_succ]
  refine wpAnyH_take (i := 4) (oi := { dst := some 11, op := Op.fieldAddr 23 (Operand.tmp 1) 1, type := 0, pos := "ref.go:66", after := #[], guard := none }) (v := ?_) rfl (by kernel_rfl) (by kernel_rfl) (by kernel_rfl) (fun _ _ _ h => h) (Or.inl ⟨by rfl, ?hyr2x4⟩) (by assumption) ?restr2x4
  case hyr2x4 => intro wq hSw; (go_simp); (try with_reducible rfl)
  try simp only [Act.put, List.setIfInBounds_toArray, List.set_cons_zero, List.set_cons_succ]
  refine wpAnyH_take (i := 5) (oi := { dst := some 12, op := Op.load 3 (Operand.tmp 11), type := 3, pos := "ref.go:66", after := #[{ on := 4, ground := Ground.data }], guard := none }) (v := ?_) rfl (by kernel_rfl) (by kernel_rfl) (by kernel_rfl) (fun _ _ _ h => h) (Or.inl ⟨by rfl, ?hyr2x5⟩) (by assumption) ?restr2x5
  case hyr2x5 => intro wq hSw; (have cq := (B1.nx hSw).cell 1 _ rfl; go_simp); (try with_reducible rfl)
  try simp only [Act.put, List.setIfInBounds_toArray, List.set_cons_zero, List.set_cons_succ]
  refine wpAnyH_take (i := 6) (oi := { dst := some 13, op := Op.convert 3 62 (Operand.tmp 12), type := 62, pos := "ref.go:66", after := #[{ on := 5, ground := Ground.data }], guard := none }) (v := ?_) rfl (by kernel_rfl) (by kernel_rfl) (by kernel_rfl) (fun _ _ _ h => h) (Or.inl ⟨by rfl, ?hyr2x6⟩) (by assumption) ?restr2x6
  case hyr2x6 => intro wq hSw; (go_simp); (try with_reducible rfl)
  try simp only [Act.put, List.setIfInBounds_toArray, List.set_cons_zero, List.set_cons_succ]
  refine wpAnyH_ready (rs := [3]) (by kernel_rfl) (by simp) ?_
  refine AllReadyH.cons (o := { dst := some 10, op := Op.call { callee := Callee.value (Operand.func 33), args := #[Operand.const (Value.slice none 0 0), Operand.tmp 9], argTypes := #[46, 62] }, type := 46, pos := "ref.go:66", after := #[{ on := 2, ground := Ground.data }], guard := none }) rfl (fun K hK => ?_) AllReadyH.nil
  go_simp
  (with_reducible refine (appuint_r none 0 0 [] A _ (Sl.nil _ _ _ _) (by omega) (fun _ => rfl) HA.out).mono ?_)
  rintro e v1 ⟨v, rfl, own1, j1⟩
  obtain ⟨A1, C1, rfl, s1, o1, p1, n1⟩ := own1.slf (fun _ => rfl)
  have hl := encF_len0 A
  generalize [] ++ encU A = L1 at s1 own1 o1 hl ⊢
  obtain ⟨m1, hm⟩ : ∃ m, m = L1.length := ⟨_, rfl⟩
  rw [← hm] at s1 o1 ⊢
  have hm1 : m1 ≤ 10 := by rw [hm, hl]; exact encU_length A
  have N1 := Lib.hid n1
  have HL := Lib.hid hl
  clear own1 n1 hm hl
  replace B1 := B1.nx j1
  refine hK.out _ _ j1 (fun _ => ?_)
  clear hK K
  try simp only [Act.put, List.setIfInBounds_toArray, List.set_cons_zero, List.set_cons_succ]
  refine wpAnyH_switch (S' := Ex v1) (fun _ hSw => Ex.nx j1 hSw) ?_
  clear hHeld
  have hHeld := Ex.refl v1
  refine wpAnyH_ready (rs := [7]) (by kernel_rfl) (by simp) ?_
  refine AllReadyH.cons (o := { dst := some 14, op := Op.call { callee := Callee.value (Operand.func 33), args := #[Operand.tmp 10, Operand.tmp 13], argTypes := #[46, 62] }, type := 46, pos := "ref.go:66", after := #[{ on := 3, ground := Ground.data }, { on := 6, ground := Ground.data }, { on := 3, ground := Ground.chain }], guard := none }) rfl (fun K hK => ?_) AllReadyH.nil
  go_simp
  (with_reducible refine (appuint_r _ _ _ _ B _ s1.sl (by omega) N1.out HB.out).mono ?_)
  rintro e v2 ⟨v2', rfl, own2, j2⟩
  rw [HL.out] at own2
  refine hK.out _ _ j2 (fun _ => ?_)
  clear hK K
  try simp only [Act.put, List.setIfInBounds_toArray, List.set_cons_zero, List.set_cons_succ]
  refine wpAnyH_switch (S' := Ex v2) (fun _ hSw => Ex.nx j2 hSw) ?_
  clear hHeld
  have hHeld := Ex.refl v2
  refine wpAnyH_take (i := 8) (oi := { dst := some 2, op := Op.assign (Operand.tmp 14), type := 46, pos := "ref.go:66", after := #[{ on := 7, ground := Ground.data }, { on := 7, ground := Ground.chain }, { on := 0, ground := Ground.phase }, { on := 1, ground := Ground.phase }, { on := 2, ground := Ground.phase }, { on := 3, ground := Ground.phase }, { on := 4, ground := Ground.phase }, { on := 5, ground := Ground.phase }, { on := 6, ground := Ground.phase }, { on := 7, ground := Ground.phase }], guard := none }) (v := ?_) rfl (by kernel_rfl) (by kernel_rfl) (by kernel_rfl) (fun _ _ _ h => h) (Or.inl ⟨by rfl, ?hyr2x8⟩) (by assumption) ?restr2x8
  case hyr2x8 => intro wq hSw; (go_simp); (try with_reducible rfl)
  try simp only [Act.put, List.setIfInBounds_toArray, List.set_cons_zero, List.set_cons_succ]
  refine wpAnyH_take (i := 9) (oi := { dst := some 3, op := Op.assign (Operand.const (Value.int IntKind.i64 0)), type := 30, pos := "ref.go:66", after := #[{ on := 8, ground := Ground.chain }, { on := 0, ground := Ground.phase }, { on := 1, ground := Ground.phase }, { on := 2, ground := Ground.phase }, { on := 3, ground := Ground.phase }, { on := 4, ground := Ground.phase }, { on := 5, ground := Ground.phase }, { on := 6, ground := Ground.phase }, { on := 7, ground := Ground.phase }, { on := 8, ground := Ground.phase }], guard := none }) (v := ?_) rfl (by kernel_rfl) (by kernel_rfl) (by kernel_rfl) (fun _ _ _ h => h) (Or.inl ⟨by rfl, ?hyr2x9⟩) (by assumption) ?restr2x9
  case hyr2x9 => intro wq hSw; (go_simp); (try with_reducible rfl)
  try simp only [Act.put, List.setIfInBounds_toArray, List.set_cons_zero, List.set_cons_succ]
  refine wpAnyH_done (by kernel_rfl) ?_ _
  have qf := ((q1.drew).nx j1).nx j2
  have OW := Lib.hid (own2.base (Nat.le_trans q1.size j1.size))
  clear B1 q1 j1 j2 own2 s1
  go_wp2_with fail
  go_ret2
  exact ⟨v2', by rw [HR.out]; rfl, by rw [HR.out]; exact OW.out, qf⟩

theorem enc_r (a b : Int) (w : World) : Calls Try.prog 25 #[.agg #[.int .i64 a, .int .i64 b]] w (EncPost (encST a b) w) := by
  cases hv : validS a b with
  | false => exact enc_r_bad a b w hv
  | true =>
    have := (validS_iff a b).1 hv
    obtain ⟨A, rfl⟩ := Int.eq_ofNat_of_zero_le this.1
    obtain ⟨B, rfl⟩ := Int.eq_ofNat_of_zero_le this.2.2.1
    exact enc_r_ok A B w (by omega) (by omega)
end Go.Proofs.Ytgpoikklnbmpkaa
