/- Walks over AppendUint of the package wire and of its reference. -/
import Derived.Test.YtgpoikklnbmpkaaRows
import Derived.Test.YtgpoikklnbmpkaaK
import Derived.Test.YtgpoikklnbmpkaaWireP
namespace Go.Proofs.Ytgpoikklnbmpkaa
open Go.RowKit

def encB (x : UInt8) : List Value := [.int .u8 x.toNat]
theorem encB_len (y : UInt8) : (encB y).length = 1 := rfl
theorem Try.infoB : (Try.prog.info? 5).map (fun i => (i.zero, i.size, i.bytes)) = some (some (.int .u8 0), 1, 1) := by kernel_rfl
/-- bytes of the call's own -/
def BytesPost (l : List UInt8) (w : World) (e : Ending) (w' : World) : Prop :=
  ∃ v, e = .returned v ∧ OwnL 1 encB 5 w.heap.size w' v l ∧ Ex w w'

/-- at the head of the loop: what is written, and what is left of the number -/
def AppRel (b : List UInt8) (N : Nat) (w : World) (nv o : Value) (wr : World) : Prop :=
  ∃ (pre : List UInt8) (m f : Nat), nv = .int .u64 m ∧ m < 128 * 128 ^ f ∧ m < 18446744073709551616 ∧ f ≤ 9 ∧ encU N = pre ++ encF f m ∧ OwnL 1 encB 5 w.heap.size wr o (b ++ pre) ∧ Ex w wr

theorem app_next {pre : List UInt8} {N f m : Nat} (h : encU N = pre ++ encF f m) (hm : 128 ≤ m) (hf : m < 128 * 128 ^ f) : ∃ f', f = f' + 1 ∧ m / 128 < 128 * 128 ^ f' ∧ encU N = (pre ++ [byt (m % 128 + 128)]) ++ encF f' (m / 128) := by
  cases f with
  | zero => omega
  | succ f =>
    refine ⟨f, rfl, by rw [Nat.pow_succ] at hf; omega, ?_⟩
    rw [h, List.append_assoc]
    congr 1
    simp only [encF]
    rw [if_neg (by omega)]
    rfl

set_option maxRecDepth 100000 in
set_option maxHeartbeats 1000000 in
theorem appuint_p (a : Option Addr) (n cap : Nat) (b : List UInt8) (N : Nat) (w : World) (h : Sl 1 encB w a n b) (hn : n ≤ 200000) (hnil : a = none → cap = 0) (hN : N < 18446744073709551616) :
    Calls Try.prog 32 #[.slice a n cap, .int .u64 N] w (BytesPost (b ++ encU N) w) := by
  have HBL := Lib.hid h.len
  have q0 := Ex.new w (.cells #[] 5)
  have h0 := h.nx q0
  have own0 : OwnL 1 encB 5 w.heap.size (w.alloc (.cells #[] 5)) (.slice (some ⟨w.heap.size, 0, none⟩) 0 0) [] := OwnL.empty (Nat.le_refl _) rfl
  go_enter Try.func32, Try.ntmps32
  go_wp2_with (at_builtin; go_loud (refine wpList_append_rd (enc := encB) _ rfl _ _ 46 rfl w.heap.size 5 (.int .u8 0) 1 1 Try.underlying46 Try.infoB rfl (by omega) (by omega) _ [] own0 rfl _ a n cap b h0 hnil (fun _ => rfl) (by simp [encB, Value.oneCell']) rfl (by simp) (by omega) (by simp) ?_); intro v1 w1 own1 hch0 hch1)
  go_loopw [1, 5] (fun nv o wr => AppRel b N w nv o wr) (fun nv _ _ => (intOf nv).toNat)
  case atStart => exact ⟨[], N, 9, rfl, by omega, hN, by omega, rfl, by simpa using own1, Chg.trans q0 hch1⟩
  case round =>
    obtain ⟨pre, m, f, rfl, hm, hm2, hf, henc, hown, hc⟩ := hrel
    obtain ⟨wo, rfl⟩ : ∃ wo : World, wo = wr := ⟨_, rfl⟩
    have hz := hc.size
    have hpl : (b ++ pre).length ≤ 200010 := by
      have := encU_length N
      rw [henc] at this
      have := HBL.out
      simp at *; omega
    have HE := Lib.hid henc
    have HM2 := Lib.hid hm2
    have HM3 : Hid (m / 128 < 18446744073709551616) := Lib.hid (by omega)
    clear hm2 hN henc own1 hch1 hch0 own0 h h0 q0
    by_cases hlt : 128 ≤ m
    · obtain ⟨f', rfl, hf2, HE2⟩ := app_next HE.out hlt hm
      have HE2 := Lib.hid HE2
      have hb := byte_or m
      have HF := Lib.hid hf2
      clear hm hf2
      go_wp2_with (at_builtin; go_loud (refine wpList_append_lit (enc := encB) wo rfl _ _ 46 rfl w.heap.size 5 (.int .u8 0) 1 1 Try.underlying46 Try.infoB rfl (by omega) (by omega) _ _ hown rfl (byt (m % 128 + 128)) _ rfl rfl (by simp [encB, Value.oneCell']) _ (by simp) rfl (by omega) (by omega) _ ?_); intro v' w3 hown3 _ hch3 hz3)
      go_roundw
      case rel => exact ⟨pre ++ [byt (m % 128 + 128)], m / 128, f', congrArg (Value.int .u64) (by omega), HF.out, HM3.out, by omega, HE2.out, by rw [← List.append_assoc]; exact hown3, Chg.trans hc hch3⟩
      case measure => simp [intOf]; omega
    · have HE2 := Lib.hid (show encU N = pre ++ [byt m] by rw [HE.out, encF_lt _ _ (by omega)])
      have hb := byte_last m (by omega)
      clear hm
      go_wp2_with (at_builtin; go_loud (refine wpList_append_lit (enc := encB) wo rfl _ _ 46 rfl w.heap.size 5 (.int .u8 0) 1 1 Try.underlying46 Try.infoB rfl (by omega) (by omega) _ _ hown rfl (byt m) _ rfl rfl (by simp [encB, Value.oneCell']) _ (by simp) rfl (by omega) (by omega) _ ?_); intro v' w3 hown3 _ hch3 hz3)
      go_ret
      exact ⟨_, rfl, by rw [HE2.out, ← List.append_assoc]; exact hown3, Chg.trans hc hch3⟩

set_option maxRecDepth 100000 in
set_option maxHeartbeats 1000000 in
theorem appuint_r (a : Option Addr) (n cap : Nat) (b : List UInt8) (N : Nat) (w : World) (h : Sl 1 encB w a n b) (hn : n ≤ 200000) (hnil : a = none → cap = 0) (hN : N < 18446744073709551616) :
    Calls Try.prog 33 #[.slice a n cap, .int .u64 N] w (BytesPost (b ++ encU N) w) := by
  have HBL := Lib.hid h.len
  have own0 : OwnL 1 encB 5 w.heap.size w (.slice none 0 0) [] := OwnL.nil _ _ _ _ _
  go_enter Try.func33, Try.ntmps33
  go_wp2_with (at_builtin; go_loud (refine wpList_append_rd (enc := encB) _ rfl _ _ 46 rfl w.heap.size 5 (.int .u8 0) 1 1 Try.underlying46 Try.infoB rfl (by omega) (by omega) _ [] own0 rfl _ a n cap b h hnil (fun _ => rfl) (by simp [encB, Value.oneCell']) rfl (by simp) (by omega) (by simp) ?_); intro v1 w1 own1 hch0 hch1)
  go_loopw [1, 5] (fun nv o wr => AppRel b N w nv o wr) (fun nv _ _ => (intOf nv).toNat)
  case atStart => exact ⟨[], N, 9, rfl, by omega, hN, by omega, rfl, by simpa using own1, hch1⟩
  case round =>
    obtain ⟨pre, m, f, rfl, hm, hm2, hf, henc, hown, hc⟩ := hrel
    obtain ⟨wo, rfl⟩ : ∃ wo : World, wo = wr := ⟨_, rfl⟩
    have hz := hc.size
    have hpl : (b ++ pre).length ≤ 200010 := by
      have := encU_length N
      rw [henc] at this
      have := HBL.out
      simp at *; omega
    have HE := Lib.hid henc
    have HM2 := Lib.hid hm2
    have HM3 : Hid (m / 128 < 18446744073709551616) := Lib.hid (by omega)
    clear hm2 hN henc own1 hch1 hch0 own0 h
    by_cases hlt : 128 ≤ m
    · obtain ⟨f', rfl, hf2, HE2⟩ := app_next HE.out hlt hm
      have HE2 := Lib.hid HE2
      have hb := byte_add m
      have hw : IntKind.u64.wrap ((m : Int) / 128) = (m : Int) / 128 := by rw [wrap_u64n]; have := HM2.out; omega
      have HF := Lib.hid hf2
      clear hm hf2
      go_wp2_with (at_builtin; go_loud (refine wpList_append_lit (enc := encB) wo rfl _ _ 46 rfl w.heap.size 5 (.int .u8 0) 1 1 Try.underlying46 Try.infoB rfl (by omega) (by omega) _ _ hown rfl (byt (m % 128 + 128)) _ rfl rfl (by simp [encB, Value.oneCell']) _ (by simp) rfl (by omega) (by omega) _ ?_); intro v' w3 hown3 _ hch3 hz3)
      go_roundw
      case rel => exact ⟨pre ++ [byt (m % 128 + 128)], m / 128, f', congrArg (Value.int .u64) (by omega), HF.out, HM3.out, by omega, HE2.out, by rw [← List.append_assoc]; exact hown3, Chg.trans hc hch3⟩
      case measure => simp [intOf]; omega
    · have HE2 := Lib.hid (show encU N = pre ++ [byt m] by rw [HE.out, encF_lt _ _ (by omega)])
      have hb := byte_last m (by omega)
      clear hm
      go_wp2_with (at_builtin; go_loud (refine wpList_append_lit (enc := encB) wo rfl _ _ 46 rfl w.heap.size 5 (.int .u8 0) 1 1 Try.underlying46 Try.infoB rfl (by omega) (by omega) _ _ hown rfl (byt m) _ rfl rfl (by simp [encB, Value.oneCell']) _ (by simp) rfl (by omega) (by omega) _ ?_); intro v' w3 hown3 _ hch3 hz3)
      go_ret
      exact ⟨_, rfl, by rw [HE2.out, ← List.append_assoc]; exact hown3, Chg.trans hc hch3⟩
end Go.Proofs.Ytgpoikklnbmpkaa
