/- The walk over WireNumbers: the statement itself. -/
import Derived.Test.YtjaemckdfoaopaaWireW
namespace Go.Proofs.Ytjaemckdfoaopaa
open Go.RowKit

theorem own_some {e : TypeId} {base : Nat} {w : World} {v : Value} {l : List UInt8} (h : OwnL 1 encB e base w v l) (hl : 0 < l.length) : ∃ g cap, v = .slice (some ⟨g, 0, none⟩) l.length cap ∧ base ≤ g ∧ g < w.heap.size ∧ l.length ≤ cap ∧ cap ≤ maxLen := by
  rcases h.2 with ⟨_, h2⟩ | ⟨g, cap, cur, e1, e2, e3, e4, e5, _⟩
  · omega
  · exact ⟨g, cap, e1, e2, heap_lt e3, e4, e5⟩
theorem own_cell {e : TypeId} {base : Nat} {w : World} {g n cap j : Nat} {l : List UInt8} (h : OwnL 1 encB e base w (.slice (some ⟨g, 0, none⟩) n cap) l) (hj : j < n) :
    w.cell? ⟨g, j, none⟩ = some (.int .u8 (l[j]?.getD 0).toNat) ∧ w.frozen? ⟨g, j, none⟩ = false ∧ ∀ y : UInt8, OwnL 1 encB e base (w.setCell ⟨g, j, none⟩ (.int .u8 y.toNat)) (.slice (some ⟨g, 0, none⟩) n cap) (l.set j y) := by
  rcases h.2 with ⟨h1, _⟩ | ⟨g', cap', cur, e1, e2, e3, e4, e5, e6, e7⟩
  · cases h1
  · cases e1
    have hflat : ∀ l : List UInt8, l.flatMap encB = l.map fun c => Value.int .u8 c.toNat := by
      intro l
      induction l with
      | nil => rfl
      | cons c r ih => rw [List.flatMap_cons, ih]; rfl
    have hjc : j < cur.size := by omega
    rw [hflat] at e7
    refine ⟨?_, ?_, fun y => ⟨?_, .inr ⟨g, cap, cur.setIfInBounds j (.int .u8 y.toNat), by simp, e2, heap_set e3 j _, by simpa using e4, e5, by simpa using e6, ?_⟩⟩⟩
    · have hx : (cur.toList.take (l.length * 1))[j]? = some (.int .u8 (l[j]?.getD 0).toNat) := by
        rw [e7]
        simp [hj]
      rw [List.getElem?_take, if_pos (by omega)] at hx
      simpa [World.cell?, e3] using hx
    · simp [World.frozen?, e3]
    · rw [flat_len (enc := encB) (sz := 1) (fun _ => rfl)]
    · rw [hflat, List.length_set, Array.toList_setIfInBounds, List.take_set, e7, List.map_set]

theorem byte_nat {p : Int} (h0 : 0 ≤ p) (h1 : p ≤ 255) : ∃ y : UInt8, p = (y.toNat : Int) := ⟨byt p.toNat, by rw [byt_toNat]; omega⟩

def NumRel (b : Nat) (w : World) (i : Value) (wr : World) : Prop := ∃ k : Nat, k ≤ 5 ∧ i = .int .i64 k ∧ Exl b w wr ∧ TK wr b

set_option maxRecDepth 100000 in
set_option maxHeartbeats 4000000 in
theorem wirenum_walk (a1 : Option Addr) (n1 c1 : Nat) (l1 : List Int) (a2 : Option Addr) (n2 c2 : Nat) (l2 : List UInt8) (N : Nat) (w : World)
    (h1 : Sl 1 encI w a1 n1 l1) (hc1 : n1 ≤ c1) (hm1 : c1 ≤ maxLen) (h2 : Sl 1 encB w a2 n2 l2) (hc2 : n2 ≤ c2) (hm2 : c2 ≤ maxLen) (hnil : a2 = none → c2 = 0) (hN : N < 18446744073709551616) :
    Calls Try.prog 4 #[.slice a1 n1 c1, .slice a2 n2 c2, .int .u64 N] w fun e w' => e = .returned (.bool true) ∧ Ex w w' := by
  unfold maxLen at hm2
  have HN := Lib.hid hN
  have HNIL := Lib.hid hnil
  clear hN hnil
  obtain ⟨b, hb⟩ : ∃ b, b = w.heap.size := ⟨_, rfl⟩
  go_enter Try.func4, Try.ntmps4
  go_wp2_with fail
  refine (new_t _ _ _ l1 _ h1 hc1 hm1).mono ?_
  rintro e w1 ⟨rfl, T1, k1, z1⟩
  rw [← hb] at T1 ⊢
  have q1 : Exl b w w1 := ⟨k1, by omega⟩
  clear h1 hb k1
  by_cases hbig : 5000 < n2
  · clear h2
    go_wp2_with fail
    refine (sane3_x _).mono ?_
    rintro e w2 ⟨rfl, kk⟩
    replace q1 := q1.nx kk
    go_wp2_with fail
    go_ret
    exact ⟨rfl, q1.1⟩
  go_wp2_with fail
  go_loopw [8] (fun i wr => NumRel b w i wr) (fun i _ => 5 - (intOf i).toNat)
  case atStart => exact ⟨0, by omega, rfl, q1, T1⟩
  case round =>
    clear q1 T1
    obtain ⟨k, hk, rfl, q, T⟩ := hrel
    obtain ⟨wo, rfl⟩ : ∃ wo : World, wo = wr := ⟨_, rfl⟩
    by_cases hlt : k < 5
    · clear h2
      go_wp2_with fail
      refine (edges_t _ T).mono ?_
      clear T
      rintro e w2 ⟨N1, rfl, hN1, T, kk⟩
      replace q := q.nxb kk
      have HN1 := Lib.hid hN1
      have hbb := T.lt
      clear hN1 kk
      go_wp2_with fail
      refine (appuint_r none 0 0 [] N1 _ (Sl.nil _ _ _ _) (by omega) (fun _ => rfl) HN1.out).mono ?_
      rintro e w3 ⟨v, rfl, own, kk⟩
      rw [List.nil_append] at own
      replace q := q.nx kk
      replace T := T.nx kk
      obtain ⟨g, cap, rfl, hg1, hg2, hg3, hg4⟩ := own_some own (encU_pos N1)
      have HL := Lib.hid (encU_length N1)
      have HP := Lib.hid (encU_pos N1)
      obtain ⟨m, hm⟩ : ∃ m, m = (encU N1).length := ⟨_, rfl⟩
      rw [← hm] at own hg3 HL HP ⊢
      have HM := Lib.hid hm
      clear kk hm
      have hm10 := HL.out
      have hm0 := HP.out
      unfold maxLen at hg4
      go_wp2_with fail
      refine (bool_t 2 _ T (by omega) (by omega)).mono ?_
      clear T
      rintro e w4 ⟨r, rfl, T, kk⟩
      replace q := q.nxb kk
      replace own := own.nxb hbb kk
      clear kk
      cases r with
      | false =>
        go_wp2_with fail
        refine (edges_t _ T).mono ?_
        clear T
        rintro e w5 ⟨N2, rfl, hN2, T, kk⟩
        replace q := q.nxb kk
        replace own := own.nxb hbb kk
        have HN2 := Lib.hid hN2
        clear hN2 kk
        have hl : m = (encU N1).length := HM.out
        have hsl : Sl 1 encB w5 (some ⟨g, 0, none⟩) m (encU N1) := by
          obtain ⟨A, C, e1, s, _⟩ := own.slf (w0 := w2) (fun _ => rfl)
          cases e1
          rw [← hl] at s
          exact s.sl
        clear hl
        go_wp2_with fail
        refine (numbers_x _ _ _ _ _ _ hsl (by omega) (fun h => by cases h) HN2.out).mono ?_
        rintro e w6 ⟨rfl, kk⟩
        replace q := q.nx kk
        replace T := T.nx kk
        clear kk
        go_wp2_with fail
        exact ⟨⟨k + 1, by omega, by go_num, q, T⟩, by simp [intOf]; try omega⟩
      | true =>
        go_wp2_with fail
        refine (next_t m _ T (by omega) (by omega)).mono ?_
        clear T
        rintro e w5 ⟨j, rfl, j0, j1, T, kk⟩
        obtain ⟨j, rfl⟩ := Int.eq_ofNat_of_zero_le j0
        replace q := q.nxb kk
        replace own := own.nxb hbb kk
        clear kk
        go_wp2_with fail
        refine (pick_t (n := 5) 0 255 [0, 1, 127, 128, 255] T rfl rfl rfl (by omega) (by omega) (by intro x hx; simp at hx; omega)).mono ?_
        clear T
        rintro e w6 ⟨p, rfl, p0, p1, T, kk⟩
        replace q := q.nxb kk
        replace own := own.nxb hbb kk
        clear kk
        obtain ⟨c0, f0, hset⟩ := own_cell own (j := j) (by omega)
        obtain ⟨y, rfl⟩ := byte_nat p0 p1
        have hset := hset y
        have hy := y.toNat_lt
        have hgb : ¬ b = g := by omega
        have hset2 := Lib.hid hset
        have kst : Exb g w6 (w6.setCell ⟨g, j, none⟩ (.int .u8 y.toNat)) := (Exb.refl g w6).setB _ rfl
        have hgw : w2.heap.size ≤ g := hg1
        have zz := q.1.size
        have q' : Exl b w (w6.setCell ⟨g, j, none⟩ (.int .u8 y.toNat)) := ⟨Chg.setCell q.1 _ (fun x (hx : x < w.heap.size) => by have := q.2; simp only []; omega), q.2⟩
        have T' : TK (w6.setCell ⟨g, j, none⟩ (.int .u8 y.toNat)) b := T.set _ (by simp only []; omega)
        clear hset own q T kst
        go_wp2_with fail
        refine (edges_t _ T').mono ?_
        clear T'
        rintro e w7 ⟨N2, rfl, hN2, T, kk⟩
        have q := q'.nxb kk
        have own := hset2.out.nxb hbb kk
        have HN2 := Lib.hid hN2
        clear hN2 kk q' hset2
        have hl : m = ((encU N1).set j y).length := by rw [List.length_set]; exact HM.out
        have hsl : Sl 1 encB w7 (some ⟨g, 0, none⟩) m ((encU N1).set j y) := by
          obtain ⟨A, C, e1, s, _⟩ := own.slf (w0 := w2) (fun _ => rfl)
          cases e1
          rw [← hl] at s
          exact s.sl
        clear hl
        go_wp2_with fail
        refine (numbers_x _ _ _ _ _ _ hsl (by omega) (fun h => by cases h) HN2.out).mono ?_
        rintro e w8 ⟨rfl, kk⟩
        replace q := q.nx kk
        replace T := T.nx kk
        clear kk
        go_wp2_with fail
        exact ⟨⟨k + 1, by omega, by go_num, q, T⟩, by simp [intOf]; try omega⟩
    · have s2 := h2.nx q.1
      clear h2 T
      go_wp2_with fail
      refine (numbers_x _ _ _ _ _ _ s2 (by omega) HNIL.out HN.out).mono ?_
      rintro e w2 ⟨rfl, kk⟩
      replace q := q.nx kk
      replace s2 := s2.nx kk
      clear kk
      have hn2 : a2 = none → n2 = 0 := fun h => by have := HNIL.out h; omega
      have HN2 := Lib.hid hn2
      clear hn2
      go_wp2_with (at_builtin; go_loud (refine wpList_append_full (enc := encB) w2 (by rfl) _ _ 26 rfl 5 (.int .u8 0) 1 1 Try.underlying26 Try.infoB rfl (by omega) (by omega) a2 n2 l2 s2 HN2.out rfl [128, 128, 1] _ rfl (fun _ => rfl) (by simp [encB, Value.oneCell']) _ 3 rfl rfl rfl (by omega) (by omega) (by omega) _ ?_); intro v w3 own kk)
      have hm3 : (l2 ++ [128, 128, 1]).length = n2 + 3 := by rw [List.length_append, s2.len]; rfl
      obtain ⟨m, hm⟩ : ∃ m, m = (l2 ++ [128, 128, 1]).length := ⟨_, rfl⟩
      obtain ⟨A, C, rfl, s, hC1, hC2, hC3⟩ := own.slf (w0 := w2) (fun _ => rfl)
      rw [← hm] at s hC1 ⊢
      have hm4 : m ≤ 5003 := by omega
      have HC := Lib.hid hC3
      replace q := q.nx kk
      have s3 := s.sl
      clear s kk own hm hm3 hC3 hC2
      go_wp2_with fail
      refine (numbers_x _ _ _ _ _ _ s3 (by omega) HC.out HN.out).mono ?_
      rintro e w4 ⟨rfl, kk⟩
      replace q := q.nx kk
      clear kk s3
      go_wp2_with fail
      refine (sane3_x _).mono ?_
      rintro e w5 ⟨rfl, kk⟩
      replace q := q.nx kk
      go_wp2_with fail
      go_ret
      exact ⟨rfl, q.1⟩
end Go.Proofs.Ytjaemckdfoaopaa
