/- Nodes, and walks over Group of the package word and of its reference. -/
import Derived.Test.YtenobfplmifomaaDoorWord
namespace Go.Proofs.YtenobfplmifomaaDoor
open Go.RowKit

structure Nd where
  id : Int
  key : ByteArray
  word : Nat
def encN (x : Nd) : List Value := [.int .i64 x.id, .string x.key, .int .u32 x.word]
theorem Tryd.infoN : (Tryd.prog.info? 48).map (fun i => (i.zero, i.size, i.bytes)) = some (some (.agg #[.int .i64 0, .string ByteArray.empty, .int .u32 0]), 3, 32) := by kernel_rfl

/-- a list of nodes in new memory -/
def NodesPost (l : List Nd) (w : World) (e : Ending) (w' : World) : Prop :=
  ∃ (a : Option Addr) (n cap : Nat), e = .returned (.slice a n cap) ∧ Rd 3 encN (fun k => w.heap.size ≤ k ∧ k < w'.heap.size) w' a n l ∧ Chg (· < w.heap.size) w w'

def groupN (l : List Nd) (h : Int) (v : Nat) : List Nd := l.filter fun x => sameN x.word v h
theorem take_snocN {α : Type} (l : List α) (k : Nat) (y : α) (h : l[k]? = some y) : l.take (k + 1) = l.take k ++ [y] := by
  rw [List.take_add_one, h]; rfl
theorem groupN_snoc (l : List Nd) (h : Int) (v : Nat) (k : Nat) (y : Nd) (hy : l[k]? = some y) : groupN (l.take (k + 1)) h v = if sameN y.word v h then groupN (l.take k) h v ++ [y] else groupN (l.take k) h v := by
  unfold groupN
  rw [take_snocN l k y hy, List.filter_append]
  cases hs : sameN y.word v h <;> simp [hs]
theorem groupN_length (l : List Nd) (h : Int) (v : Nat) : (groupN l h v).length ≤ l.length := List.length_filter_le _ _

def GroupRel (l : List Nd) (h : Int) (v : Nat) (w : World) (o i : Value) (wr : World) : Prop :=
  ∃ k : Nat, k ≤ l.length ∧ i = .int .i64 k ∧ OwnL 3 encN 48 w.heap.size wr o (groupN (l.take k) h v) ∧ Chg (· < w.heap.size) w wr

set_option maxHeartbeats 1000000 in
theorem group_p {S : Nat → Prop} (a : Option Addr) (n cap : Nat) (l : List Nd) (h : Int) (v : Nat) (w : World) (hr : Rd 3 encN S w a n l) (hS : ∀ k, S k → k < w.heap.size) (hn : n ≤ 1000)
    (hw : ∀ x ∈ l, x.word < 4294967296) (hv : v < 4294967296) (hT : TabG w) :
    Calls Tryd.prog 25 #[.slice a n cap, .int .i64 h, .int .u32 v] w (NodesPost (groupN l h v) w) := by
  have hlen := hr.1
  have hlt := hT.lt
  have HT := Lib.hid hT
  have HL := Lib.hid hlen
  have HW := Lib.hid hw
  clear hT hlen hw
  go_enter Tryd.func25, Tryd.ntmps25
  go_wp2
  go_loopw [7, 12] (fun o i wr => GroupRel l h v w o i wr) (fun _ i _ => n - (intOf i).toNat)
  case atStart => exact ⟨0, by omega, rfl, OwnL.nil _ _ _ _ _, Chg.refl _ _⟩
  case round =>
    obtain ⟨k, hk, rfl, hown, hc⟩ := hrel
    obtain ⟨wo, rfl⟩ : ∃ wo : World, wo = wr := ⟨_, rfl⟩
    have hwo := hr.chg hc hS
    have hsz := hc.size
    have HT' := Lib.hid (HT.out.chg hc hlt)
    have hgl := groupN_length (l.take k) h v
    rw [List.length_take] at hgl
    have hkl := HL.out
    by_cases hlt' : k < n
    · obtain ⟨x, o, y, rfl, hx, hy, hcell⟩ := hwo.at hlt'
      have e0 : wo.cell? ⟨x, o + k * 3, none⟩ = some (.int .i64 y.id) := hcell 0 _ rfl
      have e1 : wo.cell? ⟨x, o + k * 3 + 1, none⟩ = some (.string y.key) := hcell 1 _ rfl
      have e2 : wo.cell? ⟨x, o + k * 3 + 1 + 1, none⟩ = some (.int .u32 y.word) := by simpa [Nat.add_assoc] using hcell 2 _ rfl
      have hyw := HW.out y (List.mem_of_getElem? hy)
      have Hy := Lib.hid hy
      have hc1 := hc.alloc (.cells #[.int .i64 y.id, .string y.key, .int .u32 y.word] 48) (by intro k hk; omega)
      have hown1 := hown.alloc (.cells #[.int .i64 y.id, .string y.key, .int .u32 y.word] 48)
      have HT1 := Lib.hid (HT'.out.chg ((Chg.refl (· < wo.heap.size) wo).alloc (.cells #[.int .i64 y.id, .string y.key, .int .u32 y.word] 48) (by simp)) (by omega))
      clear hy hcell hr hwo hkl
      by_cases hs : sameN y.word v h = true
      · go_wp2_with (first
          | (go_at_call 17; refine (same_p _ _ _ _ hyw hv HT1.out).mono ?_; rintro e w1 ⟨rfl, rfl⟩)
          | (at_builtin; go_loud (refine wpList_append_lit (enc := encN) (wo.alloc (.cells #[.int .i64 y.id, .string y.key, .int .u32 y.word] 48)) rfl _ _ 39 rfl w.heap.size 48 (.agg #[.int .i64 0, .string ByteArray.empty, .int .u32 0]) 3 32 Tryd.underlying39 Tryd.infoN rfl (by omega) (by omega) _ _ hown1 rfl y _ rfl rfl (by simp [encN, Value.oneCell']) _ (by simp) rfl (by omega) (by simp; omega) _ ?_); intro v' w3 hown3 _ hch3 hz3))
        go_roundw
        case rel => exact ⟨k + 1, by have := HL.out; omega, by go_num, by rw [groupN_snoc l h v k y Hy.out, if_pos hs]; exact hown3, hc1.then hch3 (fun _ h => h)⟩
        case measure => simp [intOf]; omega
      · have hs : sameN y.word v h = false := by simpa using hs
        go_wp2_with (go_at_call 17; refine (same_p _ _ _ _ hyw hv HT1.out).mono ?_; rintro e w1 ⟨rfl, rfl⟩)
        go_roundw
        case rel => exact ⟨k + 1, by have := HL.out; omega, by go_num, by rw [groupN_snoc l h v k y Hy.out, if_neg (by simp [hs])]; exact hown1, hc1⟩
        case measure => simp [intOf]; omega
    · obtain rfl : k = n := by omega
      rw [List.take_of_length_le (by omega)] at hown
      obtain ⟨a', cap', rfl, hrd, _⟩ := hown.rd (fun _ => rfl)
      clear hown hr hwo
      go_wp2
      go_ret
      exact ⟨a', _, cap', rfl, hrd, hc⟩

set_option maxHeartbeats 1000000 in
theorem group_r {S : Nat → Prop} (a : Option Addr) (n cap : Nat) (l : List Nd) (h : Int) (v : Nat) (w : World) (hr : Rd 3 encN S w a n l) (hS : ∀ k, S k → k < w.heap.size) (hn : n ≤ 1000)
    (hw : ∀ x ∈ l, x.word < 4294967296) (hv : v < 4294967296) :
    Calls Tryd.prog 26 #[.slice a n cap, .int .i64 h, .int .u32 v] w (NodesPost (groupN l h v) w) := by
  have hlen := hr.1
  have HL := Lib.hid hlen
  have HW := Lib.hid hw
  clear hlen hw
  go_enter Tryd.func26, Tryd.ntmps26
  go_wp2
  go_loopw [7, 8] (fun o i wr => GroupRel l h v w o i wr) (fun _ i _ => n - (intOf i).toNat)
  case atStart => exact ⟨0, by omega, rfl, OwnL.nil _ _ _ _ _, Chg.refl _ _⟩
  case round =>
    obtain ⟨k, hk, rfl, hown, hc⟩ := hrel
    obtain ⟨wo, rfl⟩ : ∃ wo : World, wo = wr := ⟨_, rfl⟩
    have hwo := hr.chg hc hS
    have hsz := hc.size
    have hgl := groupN_length (l.take k) h v
    rw [List.length_take] at hgl
    have hkl := HL.out
    by_cases hlt' : k < n
    · by_cases h16 : h ≤ 16
      · obtain ⟨x, o, y, rfl, hx, hy, hcell⟩ := hwo.at hlt'
        have e0 : wo.cell? ⟨x, o + k * 3, none⟩ = some (.int .i64 y.id) := hcell 0 _ rfl
        have e1 : wo.cell? ⟨x, o + k * 3 + 1, none⟩ = some (.string y.key) := hcell 1 _ rfl
        have e2 : wo.cell? ⟨x, o + k * 3 + 2, none⟩ = some (.int .u32 y.word) := hcell 2 _ rfl
        have e3 : wo.cell? ⟨x, o + k * 3 + 1 + 1, none⟩ = some (.int .u32 y.word) := by simpa [Nat.add_assoc] using hcell 2 _ rfl
        have hyw := HW.out y (List.mem_of_getElem? hy)
        have Hy := Lib.hid hy
        clear hy hcell hr hwo hkl
        by_cases hs : sameN y.word v h = true
        · go_wp2_with (first
            | (go_at_call 18; refine (same_r _ _ _ _ hyw hv).mono ?_; rintro e w1 ⟨rfl, rfl⟩)
            | (at_builtin; go_loud (refine wpList_append_lit (enc := encN) wo rfl _ _ 39 rfl w.heap.size 48 (.agg #[.int .i64 0, .string ByteArray.empty, .int .u32 0]) 3 32 Tryd.underlying39 Tryd.infoN rfl (by omega) (by omega) _ _ hown rfl y _ rfl rfl (by simp [encN, Value.oneCell']) _ (by simp) rfl (by omega) (by omega) _ ?_); intro v' w3 hown3 _ hch3 hz3))
          go_roundw
          case rel => exact ⟨k + 1, by have := HL.out; omega, by go_num, by rw [groupN_snoc l h v k y Hy.out, if_pos hs]; exact hown3, hc.then hch3 (fun _ h => h)⟩
          case measure => simp [intOf]; omega
        · have hs : sameN y.word v h = false := by simpa using hs
          go_wp2_with (go_at_call 18; refine (same_r _ _ _ _ hyw hv).mono ?_; rintro e w1 ⟨rfl, rfl⟩)
          go_roundw
          case rel => exact ⟨k + 1, by have := HL.out; omega, by go_num, by rw [groupN_snoc l h v k y Hy.out, if_neg (by simp [hs])]; exact hown, hc⟩
          case measure => simp [intOf]; omega
      · have hnone : ∀ l' : List Nd, groupN l' h v = [] := fun l' => by
          unfold groupN
          rw [List.filter_eq_nil_iff]
          intro x _
          have := commonN_le x.word v
          unfold sameN
          simp; omega
        have d1 : decide (h ≤ 16) = false := by simpa using h16
        rw [hnone] at hown
        obtain ⟨a', cap', rfl, hrd, _⟩ := hown.rd (fun _ => rfl)
        have HN := Lib.hid (hnone l)
        clear hown hr hwo hnone
        go_wp2
        go_ret
        exact ⟨a', _, cap', rfl, by rw [HN.out]; exact hrd, hc⟩
    · obtain rfl : k = n := by omega
      rw [List.take_of_length_le (by omega)] at hown
      obtain ⟨a', cap', rfl, hrd, _⟩ := hown.rd (fun _ => rfl)
      clear hown hr hwo
      go_wp2
      go_ret
      exact ⟨a', _, cap', rfl, hrd, hc⟩

/-- the sanity check of the statements -/
theorem groupN_sane : groupN [⟨0, ByteArray.empty, 1⟩, ⟨0, ByteArray.empty, 2⟩] 1 3 = [⟨0, ByteArray.empty, 1⟩] := by
  have h1 : commonN 1 3 = 1 := by decide +kernel
  have h2 : commonN 2 3 = 0 := by decide +kernel
  simp [groupN, sameN, h1, h2]
end Go.Proofs.YtenobfplmifomaaDoor
