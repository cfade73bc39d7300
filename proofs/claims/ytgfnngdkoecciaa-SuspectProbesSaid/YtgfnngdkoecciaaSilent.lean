/- Walks over Silent of the package suspect and of its reference. -/
import Derived.Test.YtgfnngdkoecciaaWatchL
namespace Go.Proofs.Ytgfnngdkoecciaa
open Go.RowKit

def SilRel (l : List Int) (c i : Value) : Prop := ∃ k : Nat, k ≤ l.length ∧ i = .int .i64 k ∧ c = .int .i64 (silentW (l.take k))

set_option maxHeartbeats 1000000 in
theorem silent_p {S : Nat → Prop} (a : Option Addr) (n cap : Nat) (l : List Int) (w : World) (h : Rd 1 encI S w a n l) (hn : n ≤ 1000000) :
    Calls Try.prog 22 #[.slice a n cap] w fun e w' => e = .returned (.int .i64 (silentW l)) ∧ w = w' := by
  have HL := Lib.hid h.1
  go_enter Try.func22, Try.ntmps22
  go_wp2
  go_loop [3, 8] (fun c i => SilRel l c i) (fun _ i => n - (intOf i).toNat)
  case atStart => exact ⟨0, by omega, rfl, rfl⟩
  case round =>
    obtain ⟨k, hk, rfl, rfl⟩ := hrel
    have hkl := HL.out
    have hb := silentW_bd (l.take k)
    obtain ⟨b1, b2⟩ := hb
    rw [List.length_take] at b2
    by_cases hlt : k < n
    · obtain ⟨x, o, y, rfl, hx, hy, hcell⟩ := h.at hlt
      have e0 : w.cell? ⟨x, o + k, none⟩ = some (.int .i64 y) := by simpa using hcell 0 _ rfl
      have Hy := Lib.hid hy
      clear hy hcell h hkl
      by_cases y1 : y = 1
      · subst y1
        have HR : Hid (silentW (l.take (k + 1)) = silentW (l.take k) + 1) := by
          show silentW (l.take (k + 1)) = _
          rw [take_snocI l k _ Hy.out, silentW_snoc]; rfl
        go_wp2
        go_round
        case rel => exact ⟨k + 1, by have := HL.out; omega, by go_num, by rw [HR.out]⟩
        case measure => simp [intOf]; omega
      · have d1 : (y == 1) = false := by simp [y1]
        by_cases y2 : y = 2
        · subst y2
          have HR : Hid (silentW (l.take (k + 1)) = 0) := by
            show silentW (l.take (k + 1)) = _
            rw [take_snocI l k _ Hy.out, silentW_snoc]; rfl
          clear y1
          go_wp2
          go_round
          case rel => exact ⟨k + 1, by have := HL.out; omega, by go_num, by rw [HR.out]⟩
          case measure => simp [intOf]; omega
        · have d2 : (y == 2) = false := by simp [y2]
          have HR : Hid (silentW (l.take (k + 1)) = silentW (l.take k)) := by
            show silentW (l.take (k + 1)) = _
            rw [take_snocI l k _ Hy.out, silentW_snoc]
            unfold tickW
            rw [if_neg y1, if_neg y2]
          clear y1 y2
          go_wp2
          go_round
          case rel => exact ⟨k + 1, by have := HL.out; omega, by go_num, by rw [HR.out]⟩
          case measure => simp [intOf]; omega
    · have hl : l.take k = l := List.take_of_length_le (by omega)
      have hkn : k = n := by omega
      subst hkn
      rw [hl] at b1 ⊢
      clear h hl hkl
      go_wp2
      go_ret
      exact ⟨rfl, rfl⟩

set_option maxHeartbeats 1000000 in
theorem silent_r {S : Nat → Prop} (a : Option Addr) (n cap : Nat) (l : List Int) (w : World) (h : Rd 1 encI S w a n l) (hn : n ≤ 1000000) :
    Calls Try.prog 23 #[.slice a n cap] w fun e w' => e = .returned (.int .i64 (silentW l)) ∧ w = w' := by
  have HL := Lib.hid h.1
  go_enter Try.func23, Try.ntmps23
  go_wp2
  go_loop [3, 4] (fun c i => SilRel l c i) (fun _ i => n - (intOf i).toNat)
  case atStart => exact ⟨0, by omega, rfl, rfl⟩
  case round =>
    obtain ⟨k, hk, rfl, rfl⟩ := hrel
    have hkl := HL.out
    have hb := silentW_bd (l.take k)
    obtain ⟨b1, b2⟩ := hb
    rw [List.length_take] at b2
    by_cases hlt : k < n
    · obtain ⟨x, o, y, rfl, hx, hy, hcell⟩ := h.at hlt
      have e0 : w.cell? ⟨x, o + k, none⟩ = some (.int .i64 y) := by simpa using hcell 0 _ rfl
      have Hy := Lib.hid hy
      clear hy hcell h hkl
      by_cases y1 : y = 1
      · subst y1
        have HR : Hid (silentW (l.take (k + 1)) = silentW (l.take k) + 1) := by
          show silentW (l.take (k + 1)) = _
          rw [take_snocI l k _ Hy.out, silentW_snoc]; rfl
        go_wp2
        go_round
        case rel => exact ⟨k + 1, by have := HL.out; omega, by go_num, by rw [HR.out]⟩
        case measure => simp [intOf]; omega
      · have d1 : (y == 1) = false := by simp [y1]
        by_cases y2 : y = 2
        · subst y2
          have HR : Hid (silentW (l.take (k + 1)) = 0) := by
            show silentW (l.take (k + 1)) = _
            rw [take_snocI l k _ Hy.out, silentW_snoc]; rfl
          clear y1
          go_wp2
          go_round
          case rel => exact ⟨k + 1, by have := HL.out; omega, by go_num, by rw [HR.out]⟩
          case measure => simp [intOf]; omega
        · have d2 : (y == 2) = false := by simp [y2]
          have HR : Hid (silentW (l.take (k + 1)) = silentW (l.take k)) := by
            show silentW (l.take (k + 1)) = _
            rw [take_snocI l k _ Hy.out, silentW_snoc]
            unfold tickW
            rw [if_neg y1, if_neg y2]
          clear y1 y2
          go_wp2
          go_round
          case rel => exact ⟨k + 1, by have := HL.out; omega, by go_num, by rw [HR.out]⟩
          case measure => simp [intOf]; omega
    · have hl : l.take k = l := List.take_of_length_le (by omega)
      have hkn : k = n := by omega
      subst hkn
      rw [hl] at b1 ⊢
      clear h hl hkl
      go_wp2
      go_ret
      exact ⟨rfl, rfl⟩

end Go.Proofs.Ytgfnngdkoecciaa
