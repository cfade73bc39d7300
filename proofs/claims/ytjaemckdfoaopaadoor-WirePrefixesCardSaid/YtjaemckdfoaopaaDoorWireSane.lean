/- The sanity check of the statements on encodings, and numbers near powers of two. -/
import Derived.Test.YtjaemckdfoaopaaDoorWireO
import Derived.Test.YtjaemckdfoaopaaDoorTapeBool
namespace Go.Proofs.YtjaemckdfoaopaaDoor
open Go.RowKit

theorem u64_nat (X : Int) : ∃ N : Nat, IntKind.u64.wrap X = (N : Int) ∧ N < 18446744073709551616 := ⟨(IntKind.u64.wrap X).toNat, by rw [wrap_u64n]; omega, by rw [wrap_u64n]; omega⟩
def EdgePost (b : Nat) (w : World) (e : Ending) (w' : World) : Prop := ∃ N : Nat, e = .returned (.int .u64 N) ∧ N < 18446744073709551616 ∧ TK w' b ∧ Exb b w w'
set_option maxRecDepth 100000 in
set_option maxHeartbeats 400000 in
theorem edges_t {b : Nat} (w : World) (h : TK w b) : Calls Tryd.prog 12 #[.pointer (some ⟨b, 0, none⟩)] w (EdgePost b w) := by
  go_enter Tryd.func12, Tryd.ntmps12
  go_wp2_with fail
  refine (next_t 64 _ h (by omega) (by omega)).mono ?_
  rintro e w1 ⟨r, rfl, r0, r1, t1, k1⟩
  obtain ⟨r, rfl⟩ := Int.eq_ofNat_of_zero_le r0
  go_wp2_with fail
  refine (next_t 3 _ t1 (by omega) (by omega)).mono ?_
  rintro e w2 ⟨q, rfl, q0, q1, t2, k2⟩
  obtain ⟨q, rfl⟩ := Int.eq_ofNat_of_zero_le q0
  have k := k1.nxb k2
  clear k1 k2 t1 h
  go_wp2_with fail
  go_ret
  refine ⟨_, congrArg (fun x => Ending.returned (Value.int .u64 x)) (Classical.choose_spec (u64_nat _)).1, (Classical.choose_spec (u64_nat _)).2, t2, k⟩

theorem sl_lit {w : World} {ty : TypeId} (l : List UInt8) {cs : Array Value} {n s : Nat} (hs : s = w.heap.size) (hn : l.length = n) (hc : cs = (l.flatMap encB).toArray) : Sl 1 encB (w.alloc (.cells cs ty)) (some ⟨s, 0, none⟩) n l :=
  Sl.lit l hs hn (fun _ => rfl) hc

set_option maxRecDepth 100000 in
set_option maxHeartbeats 2000000 in
theorem sane3_x (w : World) : Calls Tryd.prog 7 #[] w fun e w' => e = .returned (.bool true) ∧ Ex w w' := by
  have E1 : Hid (strB (encU 300) = ⟨#[172, 2]⟩) := (by decide +kernel : strB (encU 300) = ⟨#[172, 2]⟩)
  have E2 : Hid (strB (encU (zig (-1))) = ⟨#[1]⟩) := (by decide +kernel : strB (encU (zig (-1))) = ⟨#[1]⟩)
  have E3 : Hid (strB (encStr ⟨#[97, 98]⟩) = ⟨#[2, 97, 98]⟩) := (by decide +kernel : strB (encStr ⟨#[97, 98]⟩) = ⟨#[2, 97, 98]⟩)
  have E4 : Hid (decR [128, 0] = (0, 0, 4)) := (by decide +kernel : decR [128, 0] = (0, 0, 4))
  have E5 : Hid (strR [2, 97, 98, 99] 5 = (⟨#[97, 98]⟩, 3, 0)) := (by decide +kernel : strR [2, 97, 98, 99] 5 = (⟨#[97, 98]⟩, 3, 0))
  go_enter Tryd.func7, Tryd.ntmps7
  go_wp2_with fail
  refine (appuint_p none 0 0 [] 300 _ (Sl.nil _ _ _ _) (by omega) (fun _ => rfl) (by omega)).mono ?_
  rintro e w1 ⟨v, rfl, own1, k1⟩
  obtain ⟨A1, N1, C1, rfl, s1, _⟩ := run_own own1
  clear own1
  go_wp2_with fail
  refine (appint_p none 0 0 [] (-1) _ (Sl.nil _ _ _ _) (by omega) (fun _ => rfl) (by omega) (by omega)).mono ?_
  rintro e w2 ⟨v, rfl, own2, k2⟩
  obtain ⟨A2, N2, C2, rfl, s2, _⟩ := run_own own2
  have k := k1.nx k2
  replace s1 := s1.nx k2
  clear own2 k1 k2
  go_wp2_with fail
  refine (appstr_p none 0 0 [] ⟨#[97, 98]⟩ _ (Sl.nil _ _ _ _) (by omega) (fun _ => rfl) (by decide)).mono ?_
  rintro e w3 ⟨v, rfl, own3, k3⟩
  obtain ⟨A3, N3, C3, rfl, s3, _⟩ := run_own own3
  replace k := k.nx k3
  replace s1 := s1.nx k3
  replace s2 := s2.nx k3
  clear own3 k3
  go_wp2_with fail
  refine (uint_p _ 2 2 [128, 0] _ (sl_lit (cs := #[.int .u8 128, .int .u8 0]) _ rfl rfl rfl) (by omega)).mono ?_
  rintro e w4 ⟨rfl, rfl⟩
  rw [E4.out]
  have kk := Ex.new w3 (.cells #[.int .u8 128, .int .u8 0] 5)
  replace k := k.nx kk
  replace s1 := s1.nx kk
  replace s2 := s2.nx kk
  replace s3 := s3.nx kk
  clear kk
  go_wp2_with fail
  refine (string_p _ 4 4 [2, 97, 98, 99] 5 _ (sl_lit (cs := #[.int .u8 2, .int .u8 97, .int .u8 98, .int .u8 99]) _ (by simp) rfl rfl) (by omega) (by omega) (by unfold maxLen; omega) (by omega)).mono ?_
  rintro e w5 ⟨rfl, rfl⟩
  rw [E5.out]
  have kk := Ex.new (w3.alloc (.cells #[.int .u8 128, .int .u8 0] 5)) (.cells #[.int .u8 2, .int .u8 97, .int .u8 98, .int .u8 99] 5)
  replace k := k.nx kk
  have r1 := run_later (cap := C1) s1 kk
  have r2 := run_later (cap := C2) s2 kk
  have r3 := run_later (cap := C3) s3 kk
  rw [show ([] : List UInt8) ++ encU 300 = encU 300 from rfl, E1.out] at r1
  rw [show ([] : List UInt8) ++ encU (zig (-1)) = encU (zig (-1)) from rfl, E2.out] at r2
  rw [show ([] : List UInt8) ++ encStr ⟨#[97, 98]⟩ = encStr ⟨#[97, 98]⟩ from rfl, E3.out] at r3
  have K := Lib.hid k
  clear s1 s2 s3 k kk
  go_wp2_with fail
  go_ret
  exact ⟨rfl, K.out⟩
end Go.Proofs.YtjaemckdfoaopaaDoor
