/- slices.IndexFunc over a list of lists of nodes, with the closure of Classes. -/
import Derived.Test.YtenobfplmifomaaDoorLs
namespace Go.Proofs.YtenobfplmifomaaDoor
open Go.RowKit

/-- the first list whose head agrees with v at level h; the number of lists if there is none -/
def idxC (C : List (List Nd)) (v : Nat) (h : Int) : Nat := C.findIdx fun c => sameN (headW c) v h
theorem idxC_le (C : List (List Nd)) (v : Nat) (h : Int) : idxC C v h ≤ C.length := List.findIdx_le_length
theorem idxC_of {C : List (List Nd)} {v : Nat} {h : Int} {k : Nat} {c : List Nd} (hc : C[k]? = some c) (hk : sameN (headW c) v h = true) (hlt : ∀ j c, j < k → C[j]? = some c → sameN (headW c) v h = false) : idxC C v h = k := by
  have hkl := (List.getElem?_eq_some_iff.1 hc).1
  have he : C[k] = c := (List.getElem?_eq_some_iff.1 hc).2
  rw [idxC, List.findIdx_eq hkl]
  refine ⟨by rw [he]; exact hk, fun j hj => ?_⟩
  exact hlt j _ hj (List.getElem?_eq_getElem (by omega))
theorem idxC_none {C : List (List Nd)} {v : Nat} {h : Int} (hlt : ∀ j c, j < C.length → C[j]? = some c → sameN (headW c) v h = false) : idxC C v h = C.length := by
  rw [idxC, List.findIdx_eq_length]
  intro c hc
  obtain ⟨j, hj, he⟩ := List.mem_iff_getElem.1 hc
  have := hlt j c hj (by rw [← he]; simp)
  simpa using this

/-- what IndexFunc hands back -/
def idxV (C : List (List Nd)) (v : Nat) (h : Int) : Int := if idxC C v h < C.length then (idxC C v h : Int) else -1

def IdxRel (n : Nat) (C : List (List Nd)) (v : Nat) (h : Int) (w : World) (i : Value) (wr : World) : Prop :=
  ∃ k : Nat, k ≤ n ∧ i = .int .i64 k ∧ Ex w wr ∧ ∀ j c, j < k → C[j]? = some c → sameN (headW c) v h = false
def GoodC (C : List (List Nd)) : Prop := ∀ c ∈ C, 0 < c.length ∧ c.length ≤ 1000000 ∧ ∀ y ∈ c, y.word < 4294967296

set_option maxHeartbeats 1000000 in
theorem idx_p (a : Option Addr) (n cp gx gh : Nat) (C : List (List Nd)) (id : Int) (key : ByteArray) (v : Nat) (h : Int) (w : World) (hr : LL w a n C) (hn : n ≤ 1000000) (hC : GoodC C) (hv : v < 4294967296)
    (hx : Blk w gx [.int .i64 id, .string key, .int .u32 v] 48) (hh : Blk w gh [.int .i64 h] 3) (hT : TabG w) :
    Calls Tryd.prog 34 #[.slice a n cp, .func (.func 35) #[] #[.pointer (some ⟨gx, 0, none⟩), .pointer (some ⟨gh, 0, none⟩)]] w
      fun e w' => e = .returned (.int .i64 (idxV C v h)) ∧ Ex w w' := by
  have HL := Lib.hid hr.len
  have HC := Lib.hid hC
  have HT := Lib.hid hT
  have HX := Lib.hid hx
  have HH := Lib.hid hh
  clear hC hT hx hh
  go_enter Tryd.func34, Tryd.ntmps34
  go_wp2_with fail
  go_loopw [8] (fun i wr => IdxRel n C v h w i wr) (fun i _ => n - (intOf i).toNat)
  case atStart => exact ⟨0, by omega, rfl, Ex.refl _, by intro _ _ h; omega⟩
  case round =>
    obtain ⟨k, hk, rfl, kw, hno⟩ := hrel
    have HNO := Lib.hid hno
    clear hno
    obtain ⟨wo, rfl⟩ : ∃ wo : World, wo = wr := ⟨_, rfl⟩
    by_cases hlt : k < n
    · obtain ⟨x1, o1, b1, m1, d1, c, rfl, hx1, hy, hc1, r1⟩ := (hr.nx kw).at hlt
      obtain ⟨p1, p2, p3⟩ := HC.out c (List.mem_of_getElem? hy)
      rw [r1.len] at p1 p2
      have HY := Lib.hid hy
      have P3 := Lib.hid p3
      clear hy hr hx1 p3
      go_wp2_with fail
      (with_reducible refine (cls1_p _ _ _ _ _ _ _ _ _ _ _ r1 p1 p2 P3.out hv (HX.out.nx kw) (HH.out.nx kw) (HT.out.nx kw)).mono ?_)
      rintro e w2 ⟨rfl, kk⟩
      replace kw := kw.nx kk
      clear kk hc1 r1
      cases hs : sameN (headW c) v h with
      | true =>
        have HI : Hid (idxV C v h = k) := Lib.hid (by unfold idxV; rw [idxC_of HY.out hs HNO.out, if_pos (by rw [HL.out]; exact hlt)])
        clear hs
        go_wp2_with fail
        go_ret
        exact ⟨by rw [HI.out]; rfl, kw⟩
      | false =>
        have HS := Lib.hid hs
        clear hs
        go_wp2_with fail
        refine ⟨⟨k + 1, by omega, by go_num, kw, fun j c' hj hc' => ?_⟩, by simp [intOf]; omega⟩
        rcases Nat.lt_or_ge j k with h | h
        · exact HNO.out j c' h hc'
        · obtain rfl : j = k := by omega
          rw [Option.some.inj (hc'.symm.trans HY.out)]
          exact HS.out
    · obtain rfl : k = n := by omega
      have HI : Hid (idxV C v h = -1) := Lib.hid (by unfold idxV; rw [idxC_none (fun j c hj hc => HNO.out j c (by rw [← HL.out]; exact hj) hc), if_neg (by omega)])
      clear hr hk hlt
      go_wp2_with fail
      go_ret
      exact ⟨by rw [HI.out]; rfl, kw⟩
end Go.Proofs.YtenobfplmifomaaDoor
