/- The walk over the statements' own comparison of numbers. -/
import Derived.Test.YtjaemckdfoaopaaWireS
import Derived.Deep.RegionHeld3
namespace Go.Proofs.Ytjaemckdfoaopaa
open Go.RowKit

theorem run_own {w0 w : World} {v : Value} {l : List UInt8} (h : OwnL 1 encB 5 w0.heap.size w v l) :
    ∃ a n cap, v = .slice a n cap ∧ Slf 1 encB w0 w a n l ∧ (convert 26 9 (.slice a n cap)).run Try.prog w = .ok (.string (strB l)) w := by
  obtain ⟨a, cap, rfl, h1, _⟩ := h.slf (fun _ => rfl)
  exact ⟨a, _, cap, rfl, h1, run_str Try.underlying26 Try.underlying5 Try.underlying9 h1.sl⟩
theorem run_later {w0 w w' : World} {a : Option Addr} {n cap : Nat} {l : List UInt8} (h : Slf 1 encB w0 w a n l) (k : Ex w w') :
    (convert 26 9 (.slice a n cap)).run Try.prog w' = .ok (.string (strB l)) w' :=
  run_str Try.underlying26 Try.underlying5 Try.underlying9 (h.nx k).sl

/-- one may go on under a condition that gives the first one -/
theorem wpAnyH_switch {P : Program} {md : Region.Mode} {ops : Array Oper} {Q : Exit → Act → World → Prop} {S S' : World → Prop} (hS : ∀ w, S' w → S w) :
    ∀ {fuel : Nat} {listed : Array Bool} {a : Act} {w : World}, wpAnyH P md ops Q S' fuel listed a w → wpAnyH P md ops Q S fuel listed a w
  | 0, _, _, _, h => h
  | fuel + 1, _, _, _, h => ⟨h.1, fun i hi => wpOp_mono (fun a' w' h' => ⟨hS w' h'.1, wpAnyH_switch hS h'.2⟩) (h.2 i hi)⟩

set_option maxRecDepth 100000 in
set_option maxHeartbeats 8000000 in
theorem numbers_x (a : Option Addr) (n cap : Nat) (b : List UInt8) (N : Nat) (w : World) (h : Sl 1 encB w a n b) (hn : n ≤ 100000) (hnil : a = none → cap = 0) (hN : N < 18446744073709551616) :
    Calls Try.prog 18 #[.slice a n cap, .int .u64 N] w fun e w' => e = .returned (.bool true) ∧ Ex w w' := by
  have HN := Lib.hid hN
  have HNIL := Lib.hid hnil
  have HM : Hid (-9223372036854775808 ≤ IntKind.i64.wrap (N : Int) ∧ IntKind.i64.wrap (N : Int) ≤ 9223372036854775807) := Lib.hid (by rw [wrap_i64n]; unfold wrap64; omega)
  have hn2 : n ≤ 200000 := by omega
  clear hN hnil
  go_enter Try.func18, Try.ntmps18
  go_wp2_with fail
  refine (uint_p _ _ _ _ _ h hn2).mono ?_
  rintro e w1 ⟨rfl, rfl⟩
  go_wp2_with fail
  refine (uint_r _ _ _ _ _ h hn2).mono ?_
  rintro e w1 ⟨rfl, rfl⟩
  go_wp2_with fail
  refine (int_p _ _ _ _ _ h hn2).mono ?_
  rintro e w1 ⟨rfl, rfl⟩
  go_wp2_with fail
  refine (int_r _ _ _ _ _ h hn2).mono ?_
  rintro e w1 ⟨rfl, rfl⟩
  go_wp2_with fail
  generalize decR b = q1
  generalize intR b = q2
  have h0 := h.nx (Ex.refl w).drew
  clear h
  refine wp_region_held_drew (S := Ex w.drew) (by kernel_rfl) (Ex.refl _) (fun hHeld => ?_)
  refine wpAnyH_take (i := 0) (oi := { dst := some 41, op := Op.move (Operand.tmp 0), type := 26, pos := "law.go:26", after := #[], guard := none }) (v := ?_) rfl (by kernel_rfl) (by kernel_rfl) (by kernel_rfl) (fun _ _ _ h => h) (Or.inl ⟨by rfl, ?hy0⟩) (by assumption) ?rest0
  case hy0 => intro wq hSw; (go_simp); (try with_reducible rfl)
  try simp only [Act.put, List.setIfInBounds_toArray, List.set_cons_zero, List.set_cons_succ]
  refine wpAnyH_take (i := 1) (oi := { dst := some 42, op := Op.move (Operand.tmp 1), type := 23, pos := "law.go:26", after := #[], guard := none }) (v := ?_) rfl (by kernel_rfl) (by kernel_rfl) (by kernel_rfl) (fun _ _ _ h => h) (Or.inl ⟨by rfl, ?hy1⟩) (by assumption) ?rest1
  case hy1 => intro wq hSw; (go_simp); (try with_reducible rfl)
  try simp only [Act.put, List.setIfInBounds_toArray, List.set_cons_zero, List.set_cons_succ]
  refine wpAnyH_take (i := 4) (oi := { dst := some 45, op := Op.move (Operand.tmp 0), type := 26, pos := "law.go:26", after := #[], guard := none }) (v := ?_) rfl (by kernel_rfl) (by kernel_rfl) (by kernel_rfl) (fun _ _ _ h => h) (Or.inl ⟨by rfl, ?hy4⟩) (by assumption) ?rest4
  case hy4 => intro wq hSw; (go_simp); (try with_reducible rfl)
  try simp only [Act.put, List.setIfInBounds_toArray, List.set_cons_zero, List.set_cons_succ]
  refine wpAnyH_take (i := 5) (oi := { dst := some 46, op := Op.move (Operand.tmp 1), type := 23, pos := "law.go:26", after := #[], guard := none }) (v := ?_) rfl (by kernel_rfl) (by kernel_rfl) (by kernel_rfl) (fun _ _ _ h => h) (Or.inl ⟨by rfl, ?hy5⟩) (by assumption) ?rest5
  case hy5 => intro wq hSw; (go_simp); (try with_reducible rfl)
  try simp only [Act.put, List.setIfInBounds_toArray, List.set_cons_zero, List.set_cons_succ]
  refine wpAnyH_ready (rs := [2]) (by kernel_rfl) (by simp) ?_
  refine AllReadyH.cons (o := { dst := some 43, op := Op.call { callee := Callee.value (Operand.func 8), args := #[Operand.tmp 41, Operand.tmp 42], argTypes := #[26, 23] }, type := 26, pos := "law.go:26", after := #[{ on := 0, ground := Ground.data }, { on := 1, ground := Ground.data }], guard := none }) rfl (fun K hK => ?_) AllReadyH.nil
  go_simp
  refine (appuint_p _ _ _ _ _ _ h0 hn2 HNIL.out HN.out).mono ?_
  rintro e v1 ⟨v, rfl, own1, k1⟩
  obtain ⟨A1, N1, C1, rfl, s1, r1⟩ := run_own own1
  clear own1 r1
  refine hK.out _ _ k1 (fun _ => ?_)
  clear hK K
  try simp only [Act.put, List.setIfInBounds_toArray, List.set_cons_zero, List.set_cons_succ]
  refine wpAnyH_switch (S' := Ex v1) (fun _ hSw => Ex.nx k1 hSw) ?_
  clear hHeld
  have hHeld := Ex.refl v1
  refine wpAnyH_take (i := 3) (oi := { dst := some 44, op := Op.convert 26 9 (Operand.tmp 43), type := 9, pos := "law.go:26", after := #[{ on := 2, ground := Ground.data }], guard := none }) (v := ?_) rfl (by kernel_rfl) (by kernel_rfl) (by kernel_rfl) (fun _ _ _ h => h) (Or.inl ⟨by rfl, ?hy3⟩) (by assumption) ?rest3
  case hy3 => intro wq hSw; (have rq := run_later (cap := C1) s1 hSw; go_simp); (try with_reducible rfl)
  try simp only [Act.put, List.setIfInBounds_toArray, List.set_cons_zero, List.set_cons_succ]
  refine wpAnyH_ready (rs := [6]) (by kernel_rfl) (by simp) ?_
  refine AllReadyH.cons (o := { dst := some 47, op := Op.call { callee := Callee.value (Operand.func 14), args := #[Operand.tmp 45, Operand.tmp 46], argTypes := #[26, 23] }, type := 26, pos := "law.go:26", after := #[{ on := 4, ground := Ground.data }, { on := 5, ground := Ground.data }, { on := 2, ground := Ground.chain }], guard := none }) rfl (fun K hK => ?_) AllReadyH.nil
  go_simp
  refine (appuint_r _ _ _ _ _ _ (h0.nx k1) hn2 HNIL.out HN.out).mono ?_
  rintro e v2 ⟨v, rfl, own2, k2⟩
  obtain ⟨A2, N2, C2, rfl, s2, r2⟩ := run_own own2
  clear own2 r2
  refine hK.out _ _ k2 (fun _ => ?_)
  clear hK K
  try simp only [Act.put, List.setIfInBounds_toArray, List.set_cons_zero, List.set_cons_succ]
  refine wpAnyH_switch (S' := Ex v2) (fun _ hSw => Ex.nx k2 hSw) ?_
  clear hHeld
  have hHeld := Ex.refl v2
  refine wpAnyH_take (i := 7) (oi := { dst := some 48, op := Op.convert 26 9 (Operand.tmp 47), type := 9, pos := "law.go:26", after := #[{ on := 6, ground := Ground.data }], guard := none }) (v := ?_) rfl (by kernel_rfl) (by kernel_rfl) (by kernel_rfl) (fun _ _ _ h => h) (Or.inl ⟨by rfl, ?hy7⟩) (by assumption) ?rest7
  case hy7 => intro wq hSw; (have rq := run_later (cap := C2) s2 hSw; go_simp); (try with_reducible rfl)
  try simp only [Act.put, List.setIfInBounds_toArray, List.set_cons_zero, List.set_cons_succ]
  refine wpAnyH_take (i := 8) (oi := { dst := some 49, op := Op.binOp BinOp.eql 9 (Operand.tmp 44) (Operand.tmp 48) 9, type := 4, pos := "law.go:26", after := #[{ on := 3, ground := Ground.data }, { on := 7, ground := Ground.data }], guard := none }) (v := ?_) rfl (by kernel_rfl) (by kernel_rfl) (by kernel_rfl) (fun _ _ _ h => h) (Or.inl ⟨by rfl, ?hy8⟩) (by assumption) ?rest8
  case hy8 => intro wq hSw; (go_simp); (try with_reducible rfl)
  try simp only [Act.put, List.setIfInBounds_toArray, List.set_cons_zero, List.set_cons_succ]
  refine wpAnyH_take (i := 9) (oi := { dst := some 50, op := Op.move (Operand.tmp 49), type := 4, pos := "law.go:26", after := #[{ on := 8, ground := Ground.data }, { on := 6, ground := Ground.chain }], guard := none }) (v := ?_) rfl (by kernel_rfl) (by kernel_rfl) (by kernel_rfl) (fun _ _ _ h => h) (Or.inl ⟨by rfl, ?hy9⟩) (by assumption) ?rest9
  case hy9 => intro wq hSw; (go_simp); (try with_reducible rfl)
  try simp only [Act.put, List.setIfInBounds_toArray, List.set_cons_zero, List.set_cons_succ]
  refine wpAnyH_take (i := 10) (oi := { dst := some 51, op := Op.move (Operand.tmp 0), type := 26, pos := "law.go:26", after := #[{ on := 9, ground := Ground.guard }], guard := some (9, true) }) (v := ?_) rfl (by kernel_rfl) (by kernel_rfl) (by kernel_rfl) (fun _ _ _ h => h) (Or.inl ⟨by rfl, ?hy10⟩) (by assumption) ?rest10
  case hy10 => intro wq hSw; (go_simp); (try with_reducible rfl)
  try simp only [Act.put, List.setIfInBounds_toArray, List.set_cons_zero, List.set_cons_succ]
  refine wpAnyH_take (i := 11) (oi := { dst := some 52, op := Op.move (Operand.tmp 1), type := 23, pos := "law.go:26", after := #[{ on := 9, ground := Ground.guard }], guard := some (9, true) }) (v := ?_) rfl (by kernel_rfl) (by kernel_rfl) (by kernel_rfl) (fun _ _ _ h => h) (Or.inl ⟨by rfl, ?hy11⟩) (by assumption) ?rest11
  case hy11 => intro wq hSw; (go_simp); (try with_reducible rfl)
  try simp only [Act.put, List.setIfInBounds_toArray, List.set_cons_zero, List.set_cons_succ]
  refine wpAnyH_take (i := 12) (oi := { dst := some 53, op := Op.convert 23 2 (Operand.tmp 52), type := 2, pos := "law.go:26", after := #[{ on := 11, ground := Ground.data }, { on := 9, ground := Ground.guard }], guard := some (9, true) }) (v := ?_) rfl (by kernel_rfl) (by kernel_rfl) (by kernel_rfl) (fun _ _ _ h => h) (Or.inl ⟨by rfl, ?hy12⟩) (by assumption) ?rest12
  case hy12 => intro wq hSw; (go_simp); (try with_reducible rfl)
  try simp only [Act.put, List.setIfInBounds_toArray, List.set_cons_zero, List.set_cons_succ]
  refine wpAnyH_take (i := 15) (oi := { dst := some 56, op := Op.move (Operand.tmp 0), type := 26, pos := "law.go:26", after := #[{ on := 9, ground := Ground.guard }], guard := some (9, true) }) (v := ?_) rfl (by kernel_rfl) (by kernel_rfl) (by kernel_rfl) (fun _ _ _ h => h) (Or.inl ⟨by rfl, ?hy15⟩) (by assumption) ?rest15
  case hy15 => intro wq hSw; (go_simp); (try with_reducible rfl)
  try simp only [Act.put, List.setIfInBounds_toArray, List.set_cons_zero, List.set_cons_succ]
  refine wpAnyH_take (i := 16) (oi := { dst := some 57, op := Op.move (Operand.tmp 1), type := 23, pos := "law.go:26", after := #[{ on := 9, ground := Ground.guard }], guard := some (9, true) }) (v := ?_) rfl (by kernel_rfl) (by kernel_rfl) (by kernel_rfl) (fun _ _ _ h => h) (Or.inl ⟨by rfl, ?hy16⟩) (by assumption) ?rest16
  case hy16 => intro wq hSw; (go_simp); (try with_reducible rfl)
  try simp only [Act.put, List.setIfInBounds_toArray, List.set_cons_zero, List.set_cons_succ]
  refine wpAnyH_take (i := 17) (oi := { dst := some 58, op := Op.convert 23 2 (Operand.tmp 57), type := 2, pos := "law.go:26", after := #[{ on := 16, ground := Ground.data }, { on := 9, ground := Ground.guard }], guard := some (9, true) }) (v := ?_) rfl (by kernel_rfl) (by kernel_rfl) (by kernel_rfl) (fun _ _ _ h => h) (Or.inl ⟨by rfl, ?hy17⟩) (by assumption) ?rest17
  case hy17 => intro wq hSw; (go_simp); (try with_reducible rfl)
  try simp only [Act.put, List.setIfInBounds_toArray, List.set_cons_zero, List.set_cons_succ]
  refine wpAnyH_ready (rs := [13]) (by kernel_rfl) (by simp) ?_
  refine AllReadyH.cons (o := { dst := some 54, op := Op.call { callee := Callee.value (Operand.func 9), args := #[Operand.tmp 51, Operand.tmp 53], argTypes := #[26, 2] }, type := 26, pos := "law.go:26", after := #[{ on := 10, ground := Ground.data }, { on := 12, ground := Ground.data }, { on := 9, ground := Ground.chain }, { on := 9, ground := Ground.guard }], guard := some (9, true) }) rfl (fun K hK => ?_) AllReadyH.nil
  go_simp
  refine (appint_p _ _ _ _ _ _ ((h0.nx k1).nx k2) hn2 HNIL.out HM.out.1 HM.out.2).mono ?_
  rintro e v3 ⟨v, rfl, own3, k3⟩
  obtain ⟨A3, N3, C3, rfl, s3, r3⟩ := run_own own3
  clear own3 r3
  refine hK.out _ _ k3 (fun _ => ?_)
  clear hK K
  try simp only [Act.put, List.setIfInBounds_toArray, List.set_cons_zero, List.set_cons_succ]
  refine wpAnyH_switch (S' := Ex v3) (fun _ hSw => Ex.nx k3 hSw) ?_
  clear hHeld
  have hHeld := Ex.refl v3
  refine wpAnyH_take (i := 14) (oi := { dst := some 55, op := Op.convert 26 9 (Operand.tmp 54), type := 9, pos := "law.go:26", after := #[{ on := 13, ground := Ground.data }, { on := 9, ground := Ground.guard }], guard := some (9, true) }) (v := ?_) rfl (by kernel_rfl) (by kernel_rfl) (by kernel_rfl) (fun _ _ _ h => h) (Or.inl ⟨by rfl, ?hy14⟩) (by assumption) ?rest14
  case hy14 => intro wq hSw; (have rq := run_later (cap := C3) s3 hSw; go_simp); (try with_reducible rfl)
  try simp only [Act.put, List.setIfInBounds_toArray, List.set_cons_zero, List.set_cons_succ]
  refine wpAnyH_ready (rs := [18]) (by kernel_rfl) (by simp) ?_
  refine AllReadyH.cons (o := { dst := some 59, op := Op.call { callee := Callee.value (Operand.func 25), args := #[Operand.tmp 56, Operand.tmp 58], argTypes := #[26, 2] }, type := 26, pos := "law.go:26", after := #[{ on := 15, ground := Ground.data }, { on := 17, ground := Ground.data }, { on := 13, ground := Ground.chain }, { on := 9, ground := Ground.guard }], guard := some (9, true) }) rfl (fun K hK => ?_) AllReadyH.nil
  go_simp
  refine (appint_r _ _ _ _ _ _ (((h0.nx k1).nx k2).nx k3) hn2 HNIL.out HM.out.1 HM.out.2).mono ?_
  rintro e v4 ⟨v, rfl, own4, k4⟩
  obtain ⟨A4, N4, C4, rfl, s4, r4⟩ := run_own own4
  clear own4 r4
  refine hK.out _ _ k4 (fun _ => ?_)
  clear hK K
  try simp only [Act.put, List.setIfInBounds_toArray, List.set_cons_zero, List.set_cons_succ]
  refine wpAnyH_switch (S' := Ex v4) (fun _ hSw => Ex.nx k4 hSw) ?_
  clear hHeld
  have hHeld := Ex.refl v4
  refine wpAnyH_take (i := 19) (oi := { dst := some 60, op := Op.convert 26 9 (Operand.tmp 59), type := 9, pos := "law.go:26", after := #[{ on := 18, ground := Ground.data }, { on := 9, ground := Ground.guard }], guard := some (9, true) }) (v := ?_) rfl (by kernel_rfl) (by kernel_rfl) (by kernel_rfl) (fun _ _ _ h => h) (Or.inl ⟨by rfl, ?hy19⟩) (by assumption) ?rest19
  case hy19 => intro wq hSw; (have rq := run_later (cap := C4) s4 hSw; go_simp); (try with_reducible rfl)
  try simp only [Act.put, List.setIfInBounds_toArray, List.set_cons_zero, List.set_cons_succ]
  refine wpAnyH_take (i := 20) (oi := { dst := some 61, op := Op.binOp BinOp.eql 9 (Operand.tmp 55) (Operand.tmp 60) 9, type := 4, pos := "law.go:26", after := #[{ on := 14, ground := Ground.data }, { on := 19, ground := Ground.data }, { on := 9, ground := Ground.guard }], guard := some (9, true) }) (v := ?_) rfl (by kernel_rfl) (by kernel_rfl) (by kernel_rfl) (fun _ _ _ h => h) (Or.inl ⟨by rfl, ?hy20⟩) (by assumption) ?rest20
  case hy20 => intro wq hSw; (go_simp); (try with_reducible rfl)
  try simp only [Act.put, List.setIfInBounds_toArray, List.set_cons_zero, List.set_cons_succ]
  refine wpAnyH_take (i := 21) (oi := { dst := some 62, op := Op.pick (Operand.tmp 50) (Operand.tmp 61) (Operand.const (Value.bool false)), type := 4, pos := "law.go:26", after := #[{ on := 9, ground := Ground.data }, { on := 20, ground := Ground.data }], guard := none }) (v := ?_) rfl (by kernel_rfl) (by kernel_rfl) (by kernel_rfl) (fun _ _ _ h => h) (Or.inl ⟨by rfl, ?hy21⟩) (by assumption) ?rest21
  case hy21 => intro wq hSw; (go_simp); (try with_reducible rfl)
  try simp only [Act.put, List.setIfInBounds_toArray, List.set_cons_zero, List.set_cons_succ]
  refine wpAnyH_take (i := 22) (oi := { dst := some 63, op := Op.move (Operand.tmp 62), type := 4, pos := "law.go:26", after := #[{ on := 21, ground := Ground.data }, { on := 18, ground := Ground.chain }], guard := none }) (v := ?_) rfl (by kernel_rfl) (by kernel_rfl) (by kernel_rfl) (fun _ _ _ h => h) (Or.inl ⟨by rfl, ?hy22⟩) (by assumption) ?rest22
  case hy22 => intro wq hSw; (go_simp); (try with_reducible rfl)
  try simp only [Act.put, List.setIfInBounds_toArray, List.set_cons_zero, List.set_cons_succ]
  refine wpAnyH_take (i := 23) (oi := { dst := some 64, op := Op.move (Operand.tmp 5), type := 23, pos := "law.go:26", after := #[{ on := 22, ground := Ground.guard }], guard := some (22, true) }) (v := ?_) rfl (by kernel_rfl) (by kernel_rfl) (by kernel_rfl) (fun _ _ _ h => h) (Or.inl ⟨by rfl, ?hy23⟩) (by assumption) ?rest23
  case hy23 => intro wq hSw; (go_simp); (try with_reducible rfl)
  try simp only [Act.put, List.setIfInBounds_toArray, List.set_cons_zero, List.set_cons_succ]
  refine wpAnyH_take (i := 24) (oi := { dst := some 65, op := Op.move (Operand.tmp 8), type := 23, pos := "law.go:26", after := #[{ on := 22, ground := Ground.guard }], guard := some (22, true) }) (v := ?_) rfl (by kernel_rfl) (by kernel_rfl) (by kernel_rfl) (fun _ _ _ h => h) (Or.inl ⟨by rfl, ?hy24⟩) (by assumption) ?rest24
  case hy24 => intro wq hSw; (go_simp); (try with_reducible rfl)
  try simp only [Act.put, List.setIfInBounds_toArray, List.set_cons_zero, List.set_cons_succ]
  refine wpAnyH_take (i := 25) (oi := { dst := some 66, op := Op.binOp BinOp.eql 23 (Operand.tmp 64) (Operand.tmp 65) 23, type := 4, pos := "law.go:26", after := #[{ on := 23, ground := Ground.data }, { on := 24, ground := Ground.data }, { on := 22, ground := Ground.guard }], guard := some (22, true) }) (v := ?_) rfl (by kernel_rfl) (by kernel_rfl) (by kernel_rfl) (fun _ _ _ h => h) (Or.inl ⟨by rfl, ?hy25⟩) (by assumption) ?rest25
  case hy25 => intro wq hSw; (go_simp); (try with_reducible rfl)
  try simp only [Act.put, List.setIfInBounds_toArray, List.set_cons_zero, List.set_cons_succ]
  refine wpAnyH_take (i := 26) (oi := { dst := some 67, op := Op.pick (Operand.tmp 63) (Operand.tmp 66) (Operand.const (Value.bool false)), type := 4, pos := "law.go:26", after := #[{ on := 22, ground := Ground.data }, { on := 25, ground := Ground.data }], guard := none }) (v := ?_) rfl (by kernel_rfl) (by kernel_rfl) (by kernel_rfl) (fun _ _ _ h => h) (Or.inl ⟨by rfl, ?hy26⟩) (by assumption) ?rest26
  case hy26 => intro wq hSw; (go_simp); (try with_reducible rfl)
  try simp only [Act.put, List.setIfInBounds_toArray, List.set_cons_zero, List.set_cons_succ]
  refine wpAnyH_take (i := 27) (oi := { dst := some 68, op := Op.move (Operand.tmp 67), type := 4, pos := "law.go:26", after := #[{ on := 26, ground := Ground.data }, { on := 22, ground := Ground.chain }], guard := none }) (v := ?_) rfl (by kernel_rfl) (by kernel_rfl) (by kernel_rfl) (fun _ _ _ h => h) (Or.inl ⟨by rfl, ?hy27⟩) (by assumption) ?rest27
  case hy27 => intro wq hSw; (go_simp); (try with_reducible rfl)
  try simp only [Act.put, List.setIfInBounds_toArray, List.set_cons_zero, List.set_cons_succ]
  refine wpAnyH_take (i := 28) (oi := { dst := some 69, op := Op.move (Operand.tmp 6), type := 3, pos := "law.go:26", after := #[{ on := 27, ground := Ground.guard }], guard := some (27, true) }) (v := ?_) rfl (by kernel_rfl) (by kernel_rfl) (by kernel_rfl) (fun _ _ _ h => h) (Or.inl ⟨by rfl, ?hy28⟩) (by assumption) ?rest28
  case hy28 => intro wq hSw; (go_simp); (try with_reducible rfl)
  try simp only [Act.put, List.setIfInBounds_toArray, List.set_cons_zero, List.set_cons_succ]
  refine wpAnyH_take (i := 29) (oi := { dst := some 70, op := Op.move (Operand.tmp 9), type := 3, pos := "law.go:26", after := #[{ on := 27, ground := Ground.guard }], guard := some (27, true) }) (v := ?_) rfl (by kernel_rfl) (by kernel_rfl) (by kernel_rfl) (fun _ _ _ h => h) (Or.inl ⟨by rfl, ?hy29⟩) (by assumption) ?rest29
  case hy29 => intro wq hSw; (go_simp); (try with_reducible rfl)
  try simp only [Act.put, List.setIfInBounds_toArray, List.set_cons_zero, List.set_cons_succ]
  refine wpAnyH_take (i := 30) (oi := { dst := some 71, op := Op.binOp BinOp.eql 3 (Operand.tmp 69) (Operand.tmp 70) 3, type := 4, pos := "law.go:26", after := #[{ on := 28, ground := Ground.data }, { on := 29, ground := Ground.data }, { on := 27, ground := Ground.guard }], guard := some (27, true) }) (v := ?_) rfl (by kernel_rfl) (by kernel_rfl) (by kernel_rfl) (fun _ _ _ h => h) (Or.inl ⟨by rfl, ?hy30⟩) (by assumption) ?rest30
  case hy30 => intro wq hSw; (go_simp); (try with_reducible rfl)
  try simp only [Act.put, List.setIfInBounds_toArray, List.set_cons_zero, List.set_cons_succ]
  refine wpAnyH_take (i := 31) (oi := { dst := some 72, op := Op.pick (Operand.tmp 68) (Operand.tmp 71) (Operand.const (Value.bool false)), type := 4, pos := "law.go:26", after := #[{ on := 27, ground := Ground.data }, { on := 30, ground := Ground.data }], guard := none }) (v := ?_) rfl (by kernel_rfl) (by kernel_rfl) (by kernel_rfl) (fun _ _ _ h => h) (Or.inl ⟨by rfl, ?hy31⟩) (by assumption) ?rest31
  case hy31 => intro wq hSw; (go_simp); (try with_reducible rfl)
  try simp only [Act.put, List.setIfInBounds_toArray, List.set_cons_zero, List.set_cons_succ]
  refine wpAnyH_take (i := 32) (oi := { dst := some 73, op := Op.move (Operand.tmp 72), type := 4, pos := "law.go:26", after := #[{ on := 31, ground := Ground.data }, { on := 27, ground := Ground.chain }], guard := none }) (v := ?_) rfl (by kernel_rfl) (by kernel_rfl) (by kernel_rfl) (fun _ _ _ h => h) (Or.inl ⟨by rfl, ?hy32⟩) (by assumption) ?rest32
  case hy32 => intro wq hSw; (go_simp); (try with_reducible rfl)
  try simp only [Act.put, List.setIfInBounds_toArray, List.set_cons_zero, List.set_cons_succ]
  refine wpAnyH_take (i := 33) (oi := { dst := some 74, op := Op.move (Operand.tmp 7), type := 41, pos := "law.go:26", after := #[{ on := 32, ground := Ground.guard }], guard := some (32, true) }) (v := ?_) rfl (by kernel_rfl) (by kernel_rfl) (by kernel_rfl) (fun _ _ _ h => h) (Or.inl ⟨by rfl, ?hy33⟩) (by assumption) ?rest33
  case hy33 => intro wq hSw; (go_simp); (try with_reducible rfl)
  try simp only [Act.put, List.setIfInBounds_toArray, List.set_cons_zero, List.set_cons_succ]
  refine wpAnyH_take (i := 34) (oi := { dst := some 75, op := Op.move (Operand.tmp 10), type := 41, pos := "law.go:26", after := #[{ on := 32, ground := Ground.guard }], guard := some (32, true) }) (v := ?_) rfl (by kernel_rfl) (by kernel_rfl) (by kernel_rfl) (fun _ _ _ h => h) (Or.inl ⟨by rfl, ?hy34⟩) (by assumption) ?rest34
  case hy34 => intro wq hSw; (go_simp); (try with_reducible rfl)
  try simp only [Act.put, List.setIfInBounds_toArray, List.set_cons_zero, List.set_cons_succ]
  refine wpAnyH_take (i := 35) (oi := { dst := some 76, op := Op.binOp BinOp.eql 41 (Operand.tmp 74) (Operand.tmp 75) 41, type := 4, pos := "law.go:26", after := #[{ on := 33, ground := Ground.data }, { on := 34, ground := Ground.data }, { on := 32, ground := Ground.guard }], guard := some (32, true) }) (v := ?_) rfl (by kernel_rfl) (by kernel_rfl) (by kernel_rfl) (fun _ _ _ h => h) (Or.inl ⟨by rfl, ?hy35⟩) (by assumption) ?rest35
  case hy35 => intro wq hSw; (go_simp); (try with_reducible rfl)
  try simp only [Act.put, List.setIfInBounds_toArray, List.set_cons_zero, List.set_cons_succ]
  refine wpAnyH_take (i := 36) (oi := { dst := some 77, op := Op.pick (Operand.tmp 73) (Operand.tmp 76) (Operand.const (Value.bool false)), type := 4, pos := "law.go:26", after := #[{ on := 32, ground := Ground.data }, { on := 35, ground := Ground.data }], guard := none }) (v := ?_) rfl (by kernel_rfl) (by kernel_rfl) (by kernel_rfl) (fun _ _ _ h => h) (Or.inl ⟨by rfl, ?hy36⟩) (by assumption) ?rest36
  case hy36 => intro wq hSw; (go_simp); (try with_reducible rfl)
  try simp only [Act.put, List.setIfInBounds_toArray, List.set_cons_zero, List.set_cons_succ]
  refine wpAnyH_take (i := 37) (oi := { dst := some 78, op := Op.move (Operand.tmp 77), type := 4, pos := "law.go:26", after := #[{ on := 36, ground := Ground.data }, { on := 32, ground := Ground.chain }], guard := none }) (v := ?_) rfl (by kernel_rfl) (by kernel_rfl) (by kernel_rfl) (fun _ _ _ h => h) (Or.inl ⟨by rfl, ?hy37⟩) (by assumption) ?rest37
  case hy37 => intro wq hSw; (go_simp); (try with_reducible rfl)
  try simp only [Act.put, List.setIfInBounds_toArray, List.set_cons_zero, List.set_cons_succ]
  refine wpAnyH_take (i := 38) (oi := { dst := some 79, op := Op.move (Operand.tmp 11), type := 2, pos := "law.go:26", after := #[{ on := 37, ground := Ground.guard }], guard := some (37, true) }) (v := ?_) rfl (by kernel_rfl) (by kernel_rfl) (by kernel_rfl) (fun _ _ _ h => h) (Or.inl ⟨by rfl, ?hy38⟩) (by assumption) ?rest38
  case hy38 => intro wq hSw; (go_simp); (try with_reducible rfl)
  try simp only [Act.put, List.setIfInBounds_toArray, List.set_cons_zero, List.set_cons_succ]
  refine wpAnyH_take (i := 39) (oi := { dst := some 80, op := Op.move (Operand.tmp 14), type := 2, pos := "law.go:26", after := #[{ on := 37, ground := Ground.guard }], guard := some (37, true) }) (v := ?_) rfl (by kernel_rfl) (by kernel_rfl) (by kernel_rfl) (fun _ _ _ h => h) (Or.inl ⟨by rfl, ?hy39⟩) (by assumption) ?rest39
  case hy39 => intro wq hSw; (go_simp); (try with_reducible rfl)
  try simp only [Act.put, List.setIfInBounds_toArray, List.set_cons_zero, List.set_cons_succ]
  refine wpAnyH_take (i := 40) (oi := { dst := some 81, op := Op.binOp BinOp.eql 2 (Operand.tmp 79) (Operand.tmp 80) 2, type := 4, pos := "law.go:26", after := #[{ on := 38, ground := Ground.data }, { on := 39, ground := Ground.data }, { on := 37, ground := Ground.guard }], guard := some (37, true) }) (v := ?_) rfl (by kernel_rfl) (by kernel_rfl) (by kernel_rfl) (fun _ _ _ h => h) (Or.inl ⟨by rfl, ?hy40⟩) (by assumption) ?rest40
  case hy40 => intro wq hSw; (go_simp); (try with_reducible rfl)
  try simp only [Act.put, List.setIfInBounds_toArray, List.set_cons_zero, List.set_cons_succ]
  refine wpAnyH_take (i := 41) (oi := { dst := some 82, op := Op.pick (Operand.tmp 78) (Operand.tmp 81) (Operand.const (Value.bool false)), type := 4, pos := "law.go:26", after := #[{ on := 37, ground := Ground.data }, { on := 40, ground := Ground.data }], guard := none }) (v := ?_) rfl (by kernel_rfl) (by kernel_rfl) (by kernel_rfl) (fun _ _ _ h => h) (Or.inl ⟨by rfl, ?hy41⟩) (by assumption) ?rest41
  case hy41 => intro wq hSw; (go_simp); (try with_reducible rfl)
  try simp only [Act.put, List.setIfInBounds_toArray, List.set_cons_zero, List.set_cons_succ]
  refine wpAnyH_take (i := 42) (oi := { dst := some 83, op := Op.move (Operand.tmp 82), type := 4, pos := "law.go:26", after := #[{ on := 41, ground := Ground.data }, { on := 37, ground := Ground.chain }], guard := none }) (v := ?_) rfl (by kernel_rfl) (by kernel_rfl) (by kernel_rfl) (fun _ _ _ h => h) (Or.inl ⟨by rfl, ?hy42⟩) (by assumption) ?rest42
  case hy42 => intro wq hSw; (go_simp); (try with_reducible rfl)
  try simp only [Act.put, List.setIfInBounds_toArray, List.set_cons_zero, List.set_cons_succ]
  refine wpAnyH_take (i := 43) (oi := { dst := some 84, op := Op.move (Operand.tmp 12), type := 3, pos := "law.go:26", after := #[{ on := 42, ground := Ground.guard }], guard := some (42, true) }) (v := ?_) rfl (by kernel_rfl) (by kernel_rfl) (by kernel_rfl) (fun _ _ _ h => h) (Or.inl ⟨by rfl, ?hy43⟩) (by assumption) ?rest43
  case hy43 => intro wq hSw; (go_simp); (try with_reducible rfl)
  try simp only [Act.put, List.setIfInBounds_toArray, List.set_cons_zero, List.set_cons_succ]
  refine wpAnyH_take (i := 44) (oi := { dst := some 85, op := Op.move (Operand.tmp 15), type := 3, pos := "law.go:26", after := #[{ on := 42, ground := Ground.guard }], guard := some (42, true) }) (v := ?_) rfl (by kernel_rfl) (by kernel_rfl) (by kernel_rfl) (fun _ _ _ h => h) (Or.inl ⟨by rfl, ?hy44⟩) (by assumption) ?rest44
  case hy44 => intro wq hSw; (go_simp); (try with_reducible rfl)
  try simp only [Act.put, List.setIfInBounds_toArray, List.set_cons_zero, List.set_cons_succ]
  refine wpAnyH_take (i := 45) (oi := { dst := some 86, op := Op.binOp BinOp.eql 3 (Operand.tmp 84) (Operand.tmp 85) 3, type := 4, pos := "law.go:26", after := #[{ on := 43, ground := Ground.data }, { on := 44, ground := Ground.data }, { on := 42, ground := Ground.guard }], guard := some (42, true) }) (v := ?_) rfl (by kernel_rfl) (by kernel_rfl) (by kernel_rfl) (fun _ _ _ h => h) (Or.inl ⟨by rfl, ?hy45⟩) (by assumption) ?rest45
  case hy45 => intro wq hSw; (go_simp); (try with_reducible rfl)
  try simp only [Act.put, List.setIfInBounds_toArray, List.set_cons_zero, List.set_cons_succ]
  refine wpAnyH_take (i := 46) (oi := { dst := some 87, op := Op.pick (Operand.tmp 83) (Operand.tmp 86) (Operand.const (Value.bool false)), type := 4, pos := "law.go:26", after := #[{ on := 42, ground := Ground.data }, { on := 45, ground := Ground.data }], guard := none }) (v := ?_) rfl (by kernel_rfl) (by kernel_rfl) (by kernel_rfl) (fun _ _ _ h => h) (Or.inl ⟨by rfl, ?hy46⟩) (by assumption) ?rest46
  case hy46 => intro wq hSw; (go_simp); (try with_reducible rfl)
  try simp only [Act.put, List.setIfInBounds_toArray, List.set_cons_zero, List.set_cons_succ]
  refine wpAnyH_take (i := 47) (oi := { dst := some 88, op := Op.move (Operand.tmp 87), type := 4, pos := "law.go:26", after := #[{ on := 46, ground := Ground.data }, { on := 42, ground := Ground.chain }], guard := none }) (v := ?_) rfl (by kernel_rfl) (by kernel_rfl) (by kernel_rfl) (fun _ _ _ h => h) (Or.inl ⟨by rfl, ?hy47⟩) (by assumption) ?rest47
  case hy47 => intro wq hSw; (go_simp); (try with_reducible rfl)
  try simp only [Act.put, List.setIfInBounds_toArray, List.set_cons_zero, List.set_cons_succ]
  refine wpAnyH_take (i := 48) (oi := { dst := some 89, op := Op.move (Operand.tmp 13), type := 41, pos := "law.go:26", after := #[{ on := 47, ground := Ground.guard }], guard := some (47, true) }) (v := ?_) rfl (by kernel_rfl) (by kernel_rfl) (by kernel_rfl) (fun _ _ _ h => h) (Or.inl ⟨by rfl, ?hy48⟩) (by assumption) ?rest48
  case hy48 => intro wq hSw; (go_simp); (try with_reducible rfl)
  try simp only [Act.put, List.setIfInBounds_toArray, List.set_cons_zero, List.set_cons_succ]
  refine wpAnyH_take (i := 49) (oi := { dst := some 90, op := Op.move (Operand.tmp 16), type := 41, pos := "law.go:26", after := #[{ on := 47, ground := Ground.guard }], guard := some (47, true) }) (v := ?_) rfl (by kernel_rfl) (by kernel_rfl) (by kernel_rfl) (fun _ _ _ h => h) (Or.inl ⟨by rfl, ?hy49⟩) (by assumption) ?rest49
  case hy49 => intro wq hSw; (go_simp); (try with_reducible rfl)
  try simp only [Act.put, List.setIfInBounds_toArray, List.set_cons_zero, List.set_cons_succ]
  refine wpAnyH_take (i := 50) (oi := { dst := some 91, op := Op.binOp BinOp.eql 41 (Operand.tmp 89) (Operand.tmp 90) 41, type := 4, pos := "law.go:26", after := #[{ on := 48, ground := Ground.data }, { on := 49, ground := Ground.data }, { on := 47, ground := Ground.guard }], guard := some (47, true) }) (v := ?_) rfl (by kernel_rfl) (by kernel_rfl) (by kernel_rfl) (fun _ _ _ h => h) (Or.inl ⟨by rfl, ?hy50⟩) (by assumption) ?rest50
  case hy50 => intro wq hSw; (go_simp); (try with_reducible rfl)
  try simp only [Act.put, List.setIfInBounds_toArray, List.set_cons_zero, List.set_cons_succ]
  refine wpAnyH_take (i := 51) (oi := { dst := some 92, op := Op.pick (Operand.tmp 88) (Operand.tmp 91) (Operand.const (Value.bool false)), type := 4, pos := "law.go:26", after := #[{ on := 47, ground := Ground.data }, { on := 50, ground := Ground.data }], guard := none }) (v := ?_) rfl (by kernel_rfl) (by kernel_rfl) (by kernel_rfl) (fun _ _ _ h => h) (Or.inl ⟨by rfl, ?hy51⟩) (by assumption) ?rest51
  case hy51 => intro wq hSw; (go_simp); (try with_reducible rfl)
  try simp only [Act.put, List.setIfInBounds_toArray, List.set_cons_zero, List.set_cons_succ]
  refine wpAnyH_take (i := 52) (oi := { dst := some 4, op := Op.assign (Operand.tmp 92), type := 4, pos := "law.go:26", after := #[{ on := 51, ground := Ground.data }, { on := 47, ground := Ground.chain }, { on := 0, ground := Ground.phase }, { on := 1, ground := Ground.phase }, { on := 2, ground := Ground.phase }, { on := 3, ground := Ground.phase }, { on := 4, ground := Ground.phase }, { on := 5, ground := Ground.phase }, { on := 6, ground := Ground.phase }, { on := 7, ground := Ground.phase }, { on := 8, ground := Ground.phase }, { on := 9, ground := Ground.phase }, { on := 10, ground := Ground.phase }, { on := 11, ground := Ground.phase }, { on := 12, ground := Ground.phase }, { on := 13, ground := Ground.phase }, { on := 14, ground := Ground.phase }, { on := 15, ground := Ground.phase }, { on := 16, ground := Ground.phase }, { on := 17, ground := Ground.phase }, { on := 18, ground := Ground.phase }, { on := 19, ground := Ground.phase }, { on := 20, ground := Ground.phase }, { on := 21, ground := Ground.phase }, { on := 22, ground := Ground.phase }, { on := 23, ground := Ground.phase }, { on := 24, ground := Ground.phase }, { on := 25, ground := Ground.phase }, { on := 26, ground := Ground.phase }, { on := 27, ground := Ground.phase }, { on := 28, ground := Ground.phase }, { on := 29, ground := Ground.phase }, { on := 30, ground := Ground.phase }, { on := 31, ground := Ground.phase }, { on := 32, ground := Ground.phase }, { on := 33, ground := Ground.phase }, { on := 34, ground := Ground.phase }, { on := 35, ground := Ground.phase }, { on := 36, ground := Ground.phase }, { on := 37, ground := Ground.phase }, { on := 38, ground := Ground.phase }, { on := 39, ground := Ground.phase }, { on := 40, ground := Ground.phase }, { on := 41, ground := Ground.phase }, { on := 42, ground := Ground.phase }, { on := 43, ground := Ground.phase }, { on := 44, ground := Ground.phase }, { on := 45, ground := Ground.phase }, { on := 46, ground := Ground.phase }, { on := 47, ground := Ground.phase }, { on := 48, ground := Ground.phase }, { on := 49, ground := Ground.phase }, { on := 50, ground := Ground.phase }, { on := 51, ground := Ground.phase }], guard := none }) (v := ?_) rfl (by kernel_rfl) (by kernel_rfl) (by kernel_rfl) (fun _ _ _ h => h) (Or.inl ⟨by rfl, ?hy52⟩) (by assumption) ?rest52
  case hy52 => intro wq hSw; (go_simp); (try with_reducible rfl)
  try simp only [Act.put, List.setIfInBounds_toArray, List.set_cons_zero, List.set_cons_succ]
  refine wpAnyH_done (by kernel_rfl) ?_ _
  go_wp2
  go_ret
  exact ⟨rfl, (((((Ex.refl w).drew).nx k1).nx k2).nx k3).nx k4⟩
end Go.Proofs.Ytjaemckdfoaopaa
